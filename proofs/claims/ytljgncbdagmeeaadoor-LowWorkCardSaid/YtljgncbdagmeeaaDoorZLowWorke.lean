/- LowWork: part 5 of 5 of the proof: the row and the card of the law, out of what the evaluator says of it; without conditions. -/
import Derived.Test.YtljgncbdagmeeaaDoorZLowWorkd
import Derived.KernelRfl
import Derived.Test.YtljgncbdagmeeaaDoorRows
import Derived.Test.YtljgncbdagmeeaaDoorCards
import Derived.Test.YtljgncbdagmeeaaDoorTie
import Derived.WalkKit
import Derived.ProofKit
import Derived.OpenShut
import Derived.ShutString
import Derived.ChangeOld
import Derived.Below
import Derived.SizedLaws
import Derived.Handed
import Derived.LaidMore
import Derived.Stop.Joined
import Derived.ChangeShapes
import Derived.Carry
import Derived.SevenTiedAt
set_option maxRecDepth 100000
set_option maxHeartbeats 40000000
namespace Go.Proofs.YtljgncbdagmeeaaDoor
open Go Go.Proofs.YtljgncbdagmeeaaDoorE
set_option linter.unusedVariables false
set_option linter.unusedSimpArgs false
theorem ZfA:∀r,ZeL=some r→evD ctx 14 []=some (D.bool r):=fun r h=>by
  cases h
  exact Zww 100 (by kernel_rfl)
def Zjl (r:Bool):D:=(D.bool r)
def Zhj (t0:Bool) (t1:Bool) (t2:Bool) (t3:Bool) (a:Zo):(Unit⊕Unit)→Ex×List V×Zl
  | (.inl r)=>(.ret,[(.ptr 0 0),(.d (D.bool false))],[(.cells (dV t0 t1 t2 t3 a))])
  | (.inr r)=>(.exit 0,[(.ptr 0 0),.bad],[(.cells (dV t0 t1 t2 t3 a))])
theorem Zj2 {t0:Bool} {t1:Bool} {t2:Bool} {t3:Bool} {a:Zo}:∀(s0:Int) (r:(Unit⊕Unit)),lp (ZdS a) s0=some r→lpW ctx 0 [1,3] [1,2] Ztl [(.ptr 0 0),(.d (Zb s0))] [(.cells (dV t0 t1 t2 t3 a))]=some ((Zhj t0 t1 t2 t3 a) r):=by
 refine Za7 (Zhj t0 t1 t2 t3 a) ?_
 intro s0 rcl ih
 show ZX _ _ (lpW _ _ _ _ _ _ _)
 unfold ZdS
 rw[Za8]
 conv=>arg 3; whnf
 refine Zs (ZK _ _) ?_
 conv=>arg 3; whnf
 refine Ze rfl ?_ ?_
 ·conv=>arg 3; whnf
  refine Ze rfl ?_ ?_
  ·conv=>arg 3; whnf
   refine Zk rfl rfl fun x1 hx1=>?_
   conv=>arg 3; whnf
   refine Zs (ZK _ _) ?_
   conv=>arg 3; whnf
   refine Ze rfl ?_ ?_
   ·conv=>arg 3; whnf
    exact Zg rfl
   ·conv=>arg 3; whnf
    refine Zf (ZbM rfl hx1) ?_
    conv=>arg 3; whnf
    refine Zs (ZK _ _) ?_
    conv=>arg 3; whnf
    refine Ze rfl ?_ ?_
    ·conv=>arg 3; whnf
     exact Zg rfl
    ·conv=>arg 3; whnf
     exact Zd (ih _)
  ·conv=>arg 3; whnf
   exact Zg rfl
 ·conv=>arg 3; whnf
  exact Zg rfl
theorem Zmz {t0:Bool} {t1:Bool} {t2:Bool} {t3:Bool} {a:Zo}:∀r,(ZfK a)=some r→evD ctx 15 [(.d (D.agg (dA t0 t1 t2 t3 a)))]=some (Zjl r):=by
 show ZX _ (fun r rhs=>rhs=some (Zjl r)) _
 unfold ZfK
 rw[Zce ctx 15 Zwy _ rfl rfl]
 conv=>arg 3; whnf
 refine Zc _ (Zj2 _) fun r2 hr2=>?_
 clear hr2
 rcases r2 with r2 | r2
 ·conv=>arg 3; whnf
  exact Zg rfl
 ·conv=>arg 3; whnf
  refine Zs (ZK _ _) ?_
  conv=>arg 3; whnf
  refine Ze rfl ?_ ?_
  ·conv=>arg 3; whnf
   refine Zs (ZK _ _) ?_
   conv=>arg 3; whnf
   refine Ze rfl ?_ ?_
   ·conv=>arg 3; whnf
    refine Zs (ZK _ _) ?_
    conv=>arg 3; whnf
    refine Ze rfl ?_ ?_
    ·conv=>arg 3; whnf
     refine Zs (ZK _ _) ?_
     conv=>arg 3; whnf
     refine Ze rfl ?_ ?_
     ·conv=>arg 3; whnf
      exact Zg rfl
     ·conv=>arg 3; whnf
      exact Zg rfl
    ·conv=>arg 3; whnf
     exact Zg rfl
   ·conv=>arg 3; whnf
    exact Zg rfl
  ·conv=>arg 3; whnf
   exact Zg rfl
def Zjn (t0:Bool) (t1:Bool) (t2:Bool) (t3:Bool) (a:Zo):(List Zq)→V×Zl
  | r=>((.agg [(.d (Zb a.period)),(.d (Zb a.deadline)),(.sl 0 3),(.sl 1 2),(.sl 2 3),(.sl 3 2)]),[(.arr 3 (List.map ZY a.parts)),(.arr 2 (List.map Zw a.edges)),(.arr 3 (List.map Zn a.futures)),(.arr 2 (List.map Zu r))])
def Zhf (t0:Bool) (t1:Bool) (t2:Bool) (t3:Bool) (a:Zo):(List Zq)→Ex×List V×Zl
  | r=>(.exit 0,[(.ptr 0 0),(.ptr 1 0)],[(.cells [(.d (Zb 0)),(.d (Zb 0)),(.sl 2 3),(.sl 3 2),(.sl 4 3),(.sl 5 2)]),(.cells [(.d (Zb a.period)),(.d (Zb a.deadline)),(.sl 6 3),(.sl 7 2),(.sl 8 3),(.sl 9 2)]),(.arr 3 []),(.arr 2 []),(.arr 3 []),(.arr 2 []),(.arr 3 (List.map ZY a.parts)),(.arr 2 (List.map Zw a.edges)),(.arr 3 (List.map Zn a.futures)),(.arr 2 (List.map Zu r))])
theorem ZjS {t0:Bool} {t1:Bool} {t2:Bool} {t3:Bool} {a:Zo}:∀(s0:Int×(List Zq)) (r:(List Zq)),lp (Zdh a) s0=some r→lpW ctx 0 [1,2,3,4] [2,3] Zuh [(.ptr 0 0),(.ptr 1 0),(.ptr 2 0),(.d (Zb s0.1))] [(.cells (dV t0 t1 t2 t3 a)),(.cells [(.d (Zb 0)),(.d (Zb 0)),(.sl 3 3),(.sl 4 2),(.sl 5 3),(.sl 6 2)]),(.cells [(.d (Zb a.period)),(.d (Zb a.deadline)),(.sl 7 3),(.sl 8 2),(.sl 9 3),(.sl 10 2)]),(.arr 3 []),(.arr 2 []),(.arr 3 []),(.arr 2 []),(.arr 3 (List.map ZY a.parts)),(.arr 2 (List.map Zw a.edges)),(.arr 3 (List.map Zn a.futures)),(.arr 2 (List.map Zu s0.2))]=some ((Zhf t0 t1 t2 t3 a) r):=by
 refine Za7 (Zhf t0 t1 t2 t3 a) ?_
 intro s0 rcl ih
 show ZX _ _ (lpW _ _ _ _ _ _ _)
 unfold Zdh
 rw[Za8]
 conv=>arg 3; whnf
 refine Zs (ZK _ _) ?_
 conv=>arg 3; whnf
 refine Ze rfl ?_ ?_
 ·conv=>arg 3; whnf
  refine Zk rfl rfl fun x1 hx1=>?_
  conv=>arg 3; whnf
  refine Zcl (ZiK (f:=Zb) (fun _=>⟨rfl,rfl⟩) x1.ins 0) ?_
  conv=>arg 3; whnf
  refine Ze (ZiI Zb x1.ins) ?_ ?_
  ·conv=>arg 3; whnf
   refine Zs (rfl:_=List.map Zb x1.ins) ?_
   conv=>arg 3; whnf
   refine Zf (ZbM rfl hx1) ?_
   conv=>arg 3; whnf
   refine Zcl (ZiK (f:=Zb) (fun _=>⟨rfl,rfl⟩) x1.outs 0) ?_
   conv=>arg 3; whnf
   refine Ze (ZiI Zb x1.outs) ?_ ?_
   ·conv=>arg 3; whnf
    refine Zs (rfl:_=List.map Zb x1.outs) ?_
    conv=>arg 3; whnf
    refine Zcl rfl ?_
    conv=>arg 3; whnf
    refine Ze (ZiY Zu s0.2 1) ?_ ?_
    ·conv=>arg 3; whnf
     refine Zs (ZiS Zu s0.2 [x1]) ?_
     conv=>arg 3; whnf
     exact Zd (ih _)
    ·exact Za4
   ·exact Za4
  ·exact Za4
 ·conv=>arg 3; whnf
  exact Zg rfl
theorem Zl3 {t0:Bool} {t1:Bool} {t2:Bool} {t3:Bool} {a:Zo}:∀r,(ZfP a)=some r→evW ctx 17 [(.d (D.agg (dA t0 t1 t2 t3 a)))] []=some ((Zjn t0 t1 t2 t3 a) r):=by
 show ZX _ (fun r rhs=>rhs=some ((Zjn t0 t1 t2 t3 a) r)) _
 unfold ZfP
 rw[ZeZ ctx 17 ZwL _ _ rfl rfl]
 conv=>arg 3; whnf
 refine Zcl (ZiK (f:=ZY) (fun _=>⟨rfl,rfl⟩) a.parts 0) ?_
 conv=>arg 3; whnf
 refine Ze (ZiI ZY a.parts) ?_ ?_
 ·conv=>arg 3; whnf
  refine Zs (rfl:_=List.map ZY a.parts) ?_
  conv=>arg 3; whnf
  refine Zcl (ZiK (f:=Zw) (fun _=>⟨rfl,rfl⟩) a.edges 0) ?_
  conv=>arg 3; whnf
  refine Ze (ZiI Zw a.edges) ?_ ?_
  ·conv=>arg 3; whnf
   refine Zs (rfl:_=List.map Zw a.edges) ?_
   conv=>arg 3; whnf
   refine Zcl (ZiK (f:=Zn) (fun _=>⟨rfl,rfl⟩) a.futures 0) ?_
   conv=>arg 3; whnf
   refine Ze (ZiI Zn a.futures) ?_ ?_
   ·conv=>arg 3; whnf
    refine Zs (rfl:_=List.map Zn a.futures) ?_
    conv=>arg 3; whnf
    refine Zc _ (ZjS _) fun r2 hr2=>?_
    conv=>arg 3; whnf
    exact Zg rfl
   ·exact Za4
  ·exact Za4
 ·exact Za4
def Zh8 (r:Bool):D:=(D.bool r)
theorem ZbL {a:Int} {b:Int} {c:Int}:∀r,(Zbh a b c)=some r→evD ctx 78 [(.d (Zb a)),(.d (Zb b)),(.d (Zb c))]=some (Zh8 r):=by
 show ZX _ (fun r rhs=>rhs=some (Zh8 r)) _
 unfold Zbh
 rw[Zce ctx 78 ZwF _ rfl rfl]
 conv=>arg 3; whnf
 refine Ze rfl ?_ ?_
 ·conv=>arg 3; whnf
  refine Ze rfl ?_ ?_
  ·conv=>arg 3; whnf
   exact Zg rfl
  ·conv=>arg 3; whnf
   exact Zg rfl
 ·conv=>arg 3; whnf
  exact Zg rfl
def Zjj (r:Int):D:=(Zb r)
theorem ZlV {a:Int}:∀r,(ZfG a)=some r→evD ctx 107 [(.d (Zb a))]=some (Zjj r):=by
 show ZX _ (fun r rhs=>rhs=some (Zjj r)) _
 unfold ZfG
 rw[Zce ctx 107 Zs2 _ rfl rfl]
 conv=>arg 3; whnf
 refine Ze rfl ?_ ?_
 ·conv=>arg 3; whnf
  exact Zg rfl
 ·conv=>arg 3; whnf
  refine Ze rfl ?_ ?_
  ·conv=>arg 3; whnf
   exact Zg rfl
  ·conv=>arg 3; whnf
   exact Zg rfl
def ZeG (r:Int):D:=(Zb r)
theorem Zgm {a:Int}:∀r,(Zb9 a)=some r→evD ctx 129 [(.d (D.int .u64 a))]=some (ZeG r):=by
 show ZX _ (fun r rhs=>rhs=some (ZeG r)) _
 unfold Zb9
 rw[Zce ctx 129 ZtL _ rfl rfl]
 conv=>arg 3; whnf
 refine Zah rfl ?_
 conv=>arg 3; whnf
 refine Zah rfl ?_
 conv=>arg 3; whnf
 refine Zah rfl ?_
 conv=>arg 3; whnf
 refine Zah rfl ?_
 conv=>arg 3; whnf
 refine Zah rfl ?_
 conv=>arg 3; whnf
 refine Zah rfl ?_
 conv=>arg 3; whnf
 exact Zg rfl
def Ze2 (r:Int):D:=(Zb r)
theorem Zhc {a:Int}:∀r,(Zcp a)=some r→evD ctx 108 [(.d (D.int .u64 a))]=some (Ze2 r):=by
 show ZX _ (fun r rhs=>rhs=some (Ze2 r)) _
 unfold Zcp
 rw[Zce ctx 108 ZsQ _ rfl rfl]
 conv=>arg 3; whnf
 refine ZA _ Zgm rfl fun x0 hx0=>?_
 conv=>arg 3; whnf
 exact Zg rfl
theorem Zxf (n:Int):0≤IntKind.u64.wrap n∧IntKind.u64.wrap n<18446744073709551616:=by
  have:IntKind.u64.wrap n=n % 18446744073709551616:=by
    show(if (false&&decide (n % 18446744073709551616 ≥ 9223372036854775808))=true then n % 18446744073709551616-18446744073709551616 else n % 18446744073709551616)=_
    simp
  rw[this]
  omega
theorem Zx3 (n:Int):∃j:Nat,j<64∧(IntKind.u64.wrap n).fdiv (2 ^ (min (Int.toNat 58) IntKind.u64.bits))=(j:Int):=by
  obtain⟨h1,h2⟩:=Zxf n
  have e:(2:Int) ^ (min (Int.toNat 58) IntKind.u64.bits)=288230376151711744:=by decide
  rw[e,Int.fdiv_eq_ediv_of_nonneg _ (by omega)]
  refine⟨((IntKind.u64.wrap n) / 288230376151711744).toNat,?_,?_⟩<;>omega
theorem Zyb:∀j:Nat,j<64→ZcY [] 1 false (.d (.rptr (Ztm.drop (j*1))))=some (.d (.int .u8 (Zoz.getD j 0))):=by
  have key:((List.range 64).all fun j=>match ZcY [] 1 false (.d (.rptr (Ztm.drop (j*1)))) with | some (.d (.int .u8 z))=>z==Zoz.getD j 0 | _=>false)=true:=by rfl
  intro j hj
  have:=List.all_eq_true.1 key j (by simpa using hj)
  split at this
  · rename_i z hz
    rw[hz,eq_of_beq this]
  · cases this
def ZfR (r:Int):D:=Zb r
theorem Zfm (a:Int):∀r,Zc4 a=some r→evD ctx 131 [.d (.int .u64 a)]=some (ZfR r):=by
  intro r hr
  unfold Zc4 at hr
  have hr:=Option.some.inj hr
  subst hr
  rw[Zce ctx 131 Zt3 _ rfl rfl]
  by_cases h:(a==0)=true
  · conv=>lhs; whnf
    rw[h,ZuZ]
    rfl
  · replace h:(a==0)=false:=by simpa using h
    obtain⟨j,hj,e⟩:=Zx3 (IntKind.u64.wrap ((BitVec.ofInt IntKind.u64.bits a &&& BitVec.ofInt IntKind.u64.bits (IntKind.u64.wrap (0-a))).toNat:Int)*285870213051353865)
    conv=>lhs; whnf
    rw[h,Zvl]
    conv=>lhs; whnf
    refine(Zx4 (by rfl)).trans ?_
    conv=>lhs; whnf
    rw[e]
    refine(Zw2 (by simp; omega)).trans ?_
    conv=>lhs; whnf
    erw [Zyb j hj]
    rfl
def Zej (r:Int):D:=(Zb r)
theorem ZfX {a:Int}:∀r,(Zco a)=some r→evD ctx 109 [(.d (D.int .u64 a))]=some (Zej r):=by
 show ZX _ (fun r rhs=>rhs=some (Zej r)) _
 unfold Zco
 rw[Zce ctx 109 Ztb _ rfl rfl]
 conv=>arg 3; whnf
 refine ZA _ (Zfm _) rfl fun x0 hx0=>?_
 conv=>arg 3; whnf
 exact Zg rfl
def Zk7 (r:(Int×Bool)):D:=(D.tup [(Zb r.1),(D.bool r.2)])
theorem Zoe {a:Int}:∀r,(Zhk a)=some r→evD ctx 64 [(.d (Zb a))]=some (Zk7 r):=by
 show ZX _ (fun r rhs=>rhs=some (Zk7 r)) _
 unfold Zhk
 rw[Zce ctx 64 Zwb _ rfl rfl]
 conv=>arg 3; whnf
 refine ZA _ ZlV rfl fun x0 hx0=>?_
 conv=>arg 3; whnf
 refine Ze rfl ?_ ?_
 ·conv=>arg 3; whnf
  exact Zg rfl
 ·conv=>arg 3; whnf
  refine ZA _ Zhc rfl fun x1 hx1=>?_
  conv=>arg 3; whnf
  refine Ze rfl ?_ ?_
  ·conv=>arg 3; whnf
   exact Zg rfl
  ·conv=>arg 3; whnf
   refine ZA _ ZfX rfl fun x2 hx2=>?_
   conv=>arg 3; whnf
   exact Zg rfl
def Zjb (r:Bool):D:=(D.bool r)
theorem ZlX {a:ZV}:∀r,(Zd3 a)=some r→evD ctx 80 [(.d (D.agg [(Zb a.op),(Zb a.arg),(Zb a.work)]))]=some (Zjb r):=by
 show ZX _ (fun r rhs=>rhs=some (Zjb r)) _
 unfold Zd3
 rw[Zce ctx 80 ZwH _ rfl rfl]
 conv=>arg 3; whnf
 refine ZA _ ZbL rfl fun x0 hx0=>?_
 conv=>arg 3; whnf
 refine Ze rfl ?_ ?_
 ·conv=>arg 3; whnf
  refine ZA _ ZbL rfl fun x1 hx1=>?_
  conv=>arg 3; whnf
  refine Ze rfl ?_ ?_
  ·conv=>arg 3; whnf
   refine ZA _ ZbL rfl fun x2 hx2=>?_
   conv=>arg 3; whnf
   refine Ze rfl ?_ ?_
   ·conv=>arg 3; whnf
    exact Zg rfl
   ·conv=>arg 3; whnf
    exact Zg rfl
  ·conv=>arg 3; whnf
   exact Zg rfl
 ·conv=>arg 3; whnf
  exact Zg rfl
def Zcd (r:Int):D:=(Zb r)
def ZbV (t0:Bool) (a:(List ZV)):(Int⊕Unit)→Ex×List V×Zl
  | (.inl r)=>(.ret,[(.d (Zb r))],[])
  | (.inr r)=>(.exit 0,[.bad],[])
theorem ZdI {t0:Bool} {a:(List ZV)}:∀(s0:Int) (r:(Int⊕Unit)),lp (ZaM a (fun z0=>Zd3 z0)) s0=some r→lpW ctx 0 [0,1,7,8] [4] Zrk [(.d (D.list t0 (List.map ZY a))),(.d (D.fn 80 [])),(.d (Zb (a.length:Int))),(.d (Zb s0))] []=some ((ZbV t0 a) r):=by
 refine Za7 (ZbV t0 a) ?_
 intro s0 rcl ih
 show ZX _ _ (lpW _ _ _ _ _ _ _)
 unfold ZaM
 rw[Za8]
 conv=>arg 3; whnf
 refine Ze rfl ?_ ?_
 ·conv=>arg 3; whnf
  refine Zk rfl rfl fun x1 hx1=>?_
  conv=>arg 3; whnf
  refine ZA _ ZlX rfl fun x2 hx2=>?_
  conv=>arg 3; whnf
  refine Ze rfl ?_ ?_
  ·conv=>arg 3; whnf
   exact Zg rfl
  ·conv=>arg 3; whnf
   exact Zd (ih _)
 ·conv=>arg 3; whnf
  exact Zg rfl
theorem ZdV {t0:Bool} {a:(List ZV)}:∀r,(ZbK a (fun z0=>Zd3 z0))=some r→evD ctx 118 [(.d (D.list t0 (List.map ZY a))),(.d (D.fn 80 []))]=some (Zcd r):=by
 show ZX _ (fun r rhs=>rhs=some (Zcd r)) _
 unfold ZbK
 rw[Zce ctx 118 Ztz _ rfl rfl]
 conv=>arg 3; whnf
 refine Zs (ZK _ _) ?_
 conv=>arg 3; whnf
 refine Zc _ (ZdI _) fun r3 hr3=>?_
 clear hr3
 rcases r3 with r3 | r3
 ·conv=>arg 3; whnf
  exact Zg rfl
 ·conv=>arg 3; whnf
  exact Zg rfl
def ZbY (r:Bool):D:=(D.bool r)
theorem ZdJ {t0:Bool} {a:(List ZV)}:∀r,(ZaN a (fun z0=>Zd3 z0))=some r→evD ctx 79 [(.d (D.list t0 (List.map ZY a))),(.d (D.fn 80 []))]=some (ZbY r):=by
 show ZX _ (fun r rhs=>rhs=some (ZbY r)) _
 unfold ZaN
 rw[Zce ctx 79 Zv2 _ rfl rfl]
 conv=>arg 3; whnf
 refine ZA _ ZdV rfl fun x0 hx0=>?_
 conv=>arg 3; whnf
 refine Ze rfl ?_ ?_
 ·conv=>arg 3; whnf
  exact Zg rfl
 ·conv=>arg 3; whnf
  exact Zg rfl
def Zks (r:Bool):D:=(D.bool r)
theorem Zjg {t0:Bool} {t1:Bool} {t2:Bool} {t3:Bool} {a:Zo} {b:Int} {c:Int}:∀r,(Zft a b c)=some r→evD ctx 81 [(.d (D.agg (dA t0 t1 t2 t3 a))),(.d (Zb b)),(.d (Zb c))]=some (Zks r):=by
 show ZX _ (fun r rhs=>rhs=some (Zks r)) _
 unfold Zft
 rw[Zce ctx 81 ZvZ _ rfl rfl]
 conv=>arg 3; whnf
 refine Ze rfl ?_ ?_
 ·conv=>arg 3; whnf
  refine Zs (ZK _ _) ?_
  conv=>arg 3; whnf
  refine ZA _ ZbL rfl fun x0 hx0=>?_
  conv=>arg 3; whnf
  refine Ze rfl ?_ ?_
  ·conv=>arg 3; whnf
   refine Zs (ZK _ _) ?_
   conv=>arg 3; whnf
   refine ZA _ ZbL rfl fun x1 hx1=>?_
   conv=>arg 3; whnf
   refine Ze rfl ?_ ?_
   ·conv=>arg 3; whnf
    exact Zg rfl
   ·conv=>arg 3; whnf
    exact Zg rfl
  ·conv=>arg 3; whnf
   exact Zg rfl
 ·conv=>arg 3; whnf
  exact Zg rfl
def Zea (r:Int):D:=(Zb r)
def ZdP (t0:Bool) (a:(List Zm)) (b:Zm):(Int⊕Unit)→Ex×List V×Zl
  | (.inl r)=>(.ret,[(.d (Zb r))],[])
  | (.inr r)=>(.exit 0,[.bad],[])
theorem Zfa {t0:Bool} {a:(List Zm)} {b:Zm}:∀(s0:Int) (r:(Int⊕Unit)),lp (Za6 a b) s0=some r→lpW ctx 0 [0,3,7,8] [4] Zq3 [(.d (D.list t0 (List.map Zw a))),(.ptr 0 0),(.d (Zb (a.length:Int))),(.d (Zb s0))] [(.cells [(.d (Zb b.src)),(.d (Zb b.dst))])]=some ((ZdP t0 a b) r):=by
 refine Za7 (ZdP t0 a b) ?_
 intro s0 rcl ih
 show ZX _ _ (lpW _ _ _ _ _ _ _)
 unfold Za6
 rw[Za8]
 conv=>arg 3; whnf
 refine Ze rfl ?_ ?_
 ·conv=>arg 3; whnf
  refine Zk rfl rfl fun x1 hx1=>?_
  conv=>arg 3; whnf
  refine Ze rfl ?_ ?_
  ·conv=>arg 3; whnf
   exact Zg rfl
  ·conv=>arg 3; whnf
   exact Zd (ih _)
 ·conv=>arg 3; whnf
  exact Zg rfl
theorem ZfT {t0:Bool} {a:(List Zm)} {b:Zm}:∀r,(Zcg a b)=some r→evD ctx 102 [(.d (D.list t0 (List.map Zw a))),(.d (D.agg [(Zb b.src),(Zb b.dst)]))]=some (Zea r):=by
 show ZX _ (fun r rhs=>rhs=some (Zea r)) _
 unfold Zcg
 rw[Zce ctx 102 Zs1 _ rfl rfl]
 conv=>arg 3; whnf
 refine Zs (ZK _ _) ?_
 conv=>arg 3; whnf
 refine Zc _ (Zfa _) fun r2 hr2=>?_
 clear hr2
 rcases r2 with r2 | r2
 ·conv=>arg 3; whnf
  exact Zg rfl
 ·conv=>arg 3; whnf
  exact Zg rfl
def ZdQ (r:Bool):D:=(D.bool r)
theorem ZdG {t0:Bool} {a:(List Zm)} {b:Zm}:∀r,(ZaL a b)=some r→evD ctx 56 [(.d (D.list t0 (List.map Zw a))),(.d (D.agg [(Zb b.src),(Zb b.dst)]))]=some (ZdQ r):=by
 show ZX _ (fun r rhs=>rhs=some (ZdQ r)) _
 unfold ZaL
 rw[Zce ctx 56 Zwi _ rfl rfl]
 conv=>arg 3; whnf
 refine ZA _ ZfT rfl fun x0 hx0=>?_
 conv=>arg 3; whnf
 refine Ze rfl ?_ ?_
 ·conv=>arg 3; whnf
  exact Zg rfl
 ·conv=>arg 3; whnf
  exact Zg rfl
def Zhy (r:Bool):D:=(D.bool r)
theorem Zkf {a:Zi} {b0:Int} {b1:Int} {b2:Int}:∀r,(ZcG a b1 b2)=some r→evD ctx 82 [(.d (D.agg [(Zb a.maker),(Zb a.user),(Zb a.pos)])),(.d (D.rptr [(Zb b0),(Zb b1),(Zb b2)]))]=some (Zhy r):=by
 show ZX _ (fun r rhs=>rhs=some (Zhy r)) _
 unfold ZcG
 rw[Zce ctx 82 Zwz _ rfl rfl]
 conv=>arg 3; whnf
 refine Ze rfl ?_ ?_
 ·conv=>arg 3; whnf
  refine Ze rfl ?_ ?_
  ·conv=>arg 3; whnf
   exact Zg rfl
  ·conv=>arg 3; whnf
   exact Zg rfl
 ·conv=>arg 3; whnf
  exact Zg rfl
def ZbE (r:Int):D:=(Zb r)
def Zbn (t0:Bool) (a:(List Zi)) (b0:Int) (b1:Int) (b2:Int):(Int⊕Unit)→Ex×List V×Zl
  | (.inl r)=>(.ret,[(.d (Zb r))],[])
  | (.inr r)=>(.exit 0,[.bad],[])
theorem ZcS {t0:Bool} {a:(List Zi)} {b0:Int} {b1:Int} {b2:Int}:∀(s0:Int) (r:(Int⊕Unit)),lp (Zav a (fun z0=>ZcG z0 b1 b2)) s0=some r→lpW ctx 0 [0,1,7,8] [4] ZqT [(.d (D.list t0 (List.map Zn a))),(.d (D.fn 82 [(D.rptr [(Zb b0),(Zb b1),(Zb b2)])])),(.d (Zb (a.length:Int))),(.d (Zb s0))] []=some ((Zbn t0 a b0 b1 b2) r):=by
 refine Za7 (Zbn t0 a b0 b1 b2) ?_
 intro s0 rcl ih
 show ZX _ _ (lpW _ _ _ _ _ _ _)
 unfold Zav
 rw[Za8]
 conv=>arg 3; whnf
 refine Ze rfl ?_ ?_
 ·conv=>arg 3; whnf
  refine Zk rfl rfl fun x1 hx1=>?_
  conv=>arg 3; whnf
  refine ZA _ Zkf rfl fun x2 hx2=>?_
  conv=>arg 3; whnf
  refine Ze rfl ?_ ?_
  ·conv=>arg 3; whnf
   exact Zg rfl
  ·conv=>arg 3; whnf
   exact Zd (ih _)
 ·conv=>arg 3; whnf
  exact Zg rfl
theorem Zc8 {t0:Bool} {a:(List Zi)} {b0:Int} {b1:Int} {b2:Int}:∀r,(Za9 a (fun z0=>ZcG z0 b1 b2))=some r→evD ctx 119 [(.d (D.list t0 (List.map Zn a))),(.d (D.fn 82 [(D.rptr [(Zb b0),(Zb b1),(Zb b2)])]))]=some (ZbE r):=by
 show ZX _ (fun r rhs=>rhs=some (ZbE r)) _
 unfold Za9
 rw[Zce ctx 119 Ztu _ rfl rfl]
 conv=>arg 3; whnf
 refine Zs (ZK _ _) ?_
 conv=>arg 3; whnf
 refine Zc _ (ZcS _) fun r3 hr3=>?_
 clear hr3
 rcases r3 with r3 | r3
 ·conv=>arg 3; whnf
  exact Zg rfl
 ·conv=>arg 3; whnf
  exact Zg rfl
def Zbk (r:Bool):D:=(D.bool r)
theorem ZcQ {t0:Bool} {a:(List Zi)} {b0:Int} {b1:Int} {b2:Int}:∀r,(Zaw a (fun z0=>ZcG z0 b1 b2))=some r→evD ctx 83 [(.d (D.list t0 (List.map Zn a))),(.d (D.fn 82 [(D.rptr [(Zb b0),(Zb b1),(Zb b2)])]))]=some (Zbk r):=by
 show ZX _ (fun r rhs=>rhs=some (Zbk r)) _
 unfold Zaw
 rw[Zce ctx 83 Zv0 _ rfl rfl]
 conv=>arg 3; whnf
 refine ZA _ Zc8 rfl fun x0 hx0=>?_
 conv=>arg 3; whnf
 refine Ze rfl ?_ ?_
 ·conv=>arg 3; whnf
  exact Zg rfl
 ·conv=>arg 3; whnf
  exact Zg rfl
def Zkd (r:Bool):D:=(D.bool r)
def Zh6 (t0:Bool) (t1:Bool) (t2:Bool) (t3:Bool) (t4:Bool) (a:Zo) (b:(List Int)):(Unit⊕Unit)→Ex×List V×Zl
  | (.inl r)=>(.ret,[(.d (D.list t4 (List.map Zb b))),(.d (D.bool false))],[])
  | (.inr r)=>(.exit 0,[(.d (D.list t4 (List.map Zb b))),.bad],[])
theorem ZkX {t0:Bool} {t1:Bool} {t2:Bool} {t3:Bool} {t4:Bool} {a:Zo} {b:(List Int)}:∀(s0:Int) (r:(Unit⊕Unit)),lp (Zef a b) s0=some r→lpW ctx 0 [1,2,7,8,9] [1,4] Zs8 [(.d (D.list t4 (List.map Zb b))),(.ptr 0 0),(.d (D.list t4 (List.map Zb b))),(.d (Zb (b.length:Int))),(.d (Zb s0))] [(.cells (dV t0 t1 t2 t3 a))]=some ((Zh6 t0 t1 t2 t3 t4 a b) r):=by
 refine Za7 (Zh6 t0 t1 t2 t3 t4 a b) ?_
 intro s0 rcl ih
 show ZX _ _ (lpW _ _ _ _ _ _ _)
 unfold Zef
 rw[Za8]
 conv=>arg 3; whnf
 refine Ze rfl ?_ ?_
 ·conv=>arg 3; whnf
  refine Zk rfl rfl fun x1 hx1=>?_
  conv=>arg 3; whnf
  refine Zs (ZK _ _) ?_
  conv=>arg 3; whnf
  refine ZA _ ZbL rfl fun x2 hx2=>?_
  conv=>arg 3; whnf
  refine Ze rfl ?_ ?_
  ·conv=>arg 3; whnf
   refine Ze rfl ?_ ?_
   ·conv=>arg 3; whnf
    refine Zk rfl rfl fun x3 hx3=>?_
    conv=>arg 3; whnf
    refine Ze rfl ?_ ?_
    ·conv=>arg 3; whnf
     exact Zg rfl
    ·conv=>arg 3; whnf
     exact Zd (ih _)
   ·conv=>arg 3; whnf
    exact Zd (ih _)
  ·conv=>arg 3; whnf
   exact Zg rfl
 ·conv=>arg 3; whnf
  exact Zg rfl
theorem Zjm {t0:Bool} {t1:Bool} {t2:Bool} {t3:Bool} {t4:Bool} {a:Zo} {b:(List Int)}:∀r,(Zfu a b)=some r→evD ctx 85 [(.d (D.agg (dA t0 t1 t2 t3 a))),(.d (D.list t4 (List.map Zb b)))]=some (Zkd r):=by
 show ZX _ (fun r rhs=>rhs=some (Zkd r)) _
 unfold Zfu
 rw[Zce ctx 85 ZvT _ rfl rfl]
 conv=>arg 3; whnf
 refine Zs (ZK _ _) ?_
 conv=>arg 3; whnf
 refine Zc _ (ZkX _) fun r4 hr4=>?_
 clear hr4
 rcases r4 with r4 | r4
 ·conv=>arg 3; whnf
  exact Zg rfl
 ·conv=>arg 3; whnf
  refine Zs (ZK _ _) ?_
  conv=>arg 3; whnf
  refine Ze rfl ?_ ?_
  ·conv=>arg 3; whnf
   exact Zg rfl
  ·conv=>arg 3; whnf
   exact Zg rfl
def Zeu (r:Int):D:=(Zb r)
def Zd4 (t0:Bool) (a:(List Int)) (b:Int):(Int⊕Unit)→Ex×List V×Zl
  | (.inl r)=>(.ret,[(.d (Zb r))],[])
  | (.inr r)=>(.exit 0,[.bad],[])
theorem Zfq {t0:Bool} {a:(List Int)} {b:Int}:∀(s0:Int) (r:(Int⊕Unit)),lp (Zbq a b) s0=some r→lpW ctx 0 [0,1,7,8] [4] Zq5 [(.d (D.list t0 (List.map Zb a))),(.d (Zb b)),(.d (Zb (a.length:Int))),(.d (Zb s0))] []=some ((Zd4 t0 a b) r):=by
 refine Za7 (Zd4 t0 a b) ?_
 intro s0 rcl ih
 show ZX _ _ (lpW _ _ _ _ _ _ _)
 unfold Zbq
 rw[Za8]
 conv=>arg 3; whnf
 refine Ze rfl ?_ ?_
 ·conv=>arg 3; whnf
  refine Zk rfl rfl fun x1 hx1=>?_
  conv=>arg 3; whnf
  refine Ze rfl ?_ ?_
  ·conv=>arg 3; whnf
   exact Zg rfl
  ·conv=>arg 3; whnf
   exact Zd (ih _)
 ·conv=>arg 3; whnf
  exact Zg rfl
theorem Zgh {t0:Bool} {a:(List Int)} {b:Int}:∀r,(ZcB a b)=some r→evD ctx 105 [(.d (D.list t0 (List.map Zb a))),(.d (Zb b))]=some (Zeu r):=by
 show ZX _ (fun r rhs=>rhs=some (Zeu r)) _
 unfold ZcB
 rw[Zce ctx 105 ZtH _ rfl rfl]
 conv=>arg 3; whnf
 refine Zs (ZK _ _) ?_
 conv=>arg 3; whnf
 refine Zc _ (Zfq _) fun r2 hr2=>?_
 clear hr2
 rcases r2 with r2 | r2
 ·conv=>arg 3; whnf
  exact Zg rfl
 ·conv=>arg 3; whnf
  exact Zg rfl
def Zd1 (r:Bool):D:=(D.bool r)
theorem Zfv {t0:Bool} {a:(List Int)} {b:Int}:∀r,(Zbp a b)=some r→evD ctx 60 [(.d (D.list t0 (List.map Zb a))),(.d (Zb b))]=some (Zd1 r):=by
 show ZX _ (fun r rhs=>rhs=some (Zd1 r)) _
 unfold Zbp
 rw[Zce ctx 60 ZvP _ rfl rfl]
 conv=>arg 3; whnf
 refine ZA _ Zgh rfl fun x0 hx0=>?_
 conv=>arg 3; whnf
 refine Ze rfl ?_ ?_
 ·conv=>arg 3; whnf
  exact Zg rfl
 ·conv=>arg 3; whnf
  exact Zg rfl
def ZhH (r:Bool):D:=(D.bool r)
theorem Zkc {t0:Bool} {t1:Bool} {a:Int} {b0:(List Int)} {b1:(List Int)}:∀r,(ZcI a b1)=some r→evD ctx 84 [(.d (Zb a)),(.d (D.rptr [(D.list t0 (List.map Zb b0)),(D.list t1 (List.map Zb b1))]))]=some (ZhH r):=by
 show ZX _ (fun r rhs=>rhs=some (ZhH r)) _
 unfold ZcI
 rw[Zce ctx 84 Zwo _ rfl rfl]
 conv=>arg 3; whnf
 refine ZA _ Zfv rfl fun x0 hx0=>?_
 conv=>arg 3; whnf
 refine Ze rfl ?_ ?_
 ·conv=>arg 3; whnf
  exact Zg rfl
 ·conv=>arg 3; whnf
  exact Zg rfl
def Zb8 (r:Int):D:=(Zb r)
def ZbS (t0:Bool) (t1:Bool) (t2:Bool) (a:(List Int)) (b0:(List Int)) (b1:(List Int)):(Int⊕Unit)→Ex×List V×Zl
  | (.inl r)=>(.ret,[(.d (Zb r))],[])
  | (.inr r)=>(.exit 0,[.bad],[])
theorem Zdr {t0:Bool} {t1:Bool} {t2:Bool} {a:(List Int)} {b0:(List Int)} {b1:(List Int)}:∀(s0:Int) (r:(Int⊕Unit)),lp (Zaj a (fun z0=>ZcI z0 b1)) s0=some r→lpW ctx 0 [0,1,7,8] [4] ZoC [(.d (D.list t0 (List.map Zb a))),(.d (D.fn 84 [(D.rptr [(D.list t1 (List.map Zb b0)),(D.list t2 (List.map Zb b1))])])),(.d (Zb (a.length:Int))),(.d (Zb s0))] []=some ((ZbS t0 t1 t2 a b0 b1) r):=by
 refine Za7 (ZbS t0 t1 t2 a b0 b1) ?_
 intro s0 rcl ih
 show ZX _ _ (lpW _ _ _ _ _ _ _)
 unfold Zaj
 rw[Za8]
 conv=>arg 3; whnf
 refine Ze rfl ?_ ?_
 ·conv=>arg 3; whnf
  refine Zk rfl rfl fun x1 hx1=>?_
  conv=>arg 3; whnf
  refine ZA _ Zkc rfl fun x2 hx2=>?_
  conv=>arg 3; whnf
  refine Ze rfl ?_ ?_
  ·conv=>arg 3; whnf
   exact Zg rfl
  ·conv=>arg 3; whnf
   exact Zd (ih _)
 ·conv=>arg 3; whnf
  exact Zg rfl
theorem ZdR {t0:Bool} {t1:Bool} {t2:Bool} {a:(List Int)} {b0:(List Int)} {b1:(List Int)}:∀r,(ZaO a (fun z0=>ZcI z0 b1))=some r→evD ctx 101 [(.d (D.list t0 (List.map Zb a))),(.d (D.fn 84 [(D.rptr [(D.list t1 (List.map Zb b0)),(D.list t2 (List.map Zb b1))])]))]=some (Zb8 r):=by
 show ZX _ (fun r rhs=>rhs=some (Zb8 r)) _
 unfold ZaO
 rw[Zce ctx 101 ZqV _ rfl rfl]
 conv=>arg 3; whnf
 refine Zs (ZK _ _) ?_
 conv=>arg 3; whnf
 refine Zc _ (Zdr _) fun r3 hr3=>?_
 clear hr3
 rcases r3 with r3 | r3
 ·conv=>arg 3; whnf
  exact Zg rfl
 ·conv=>arg 3; whnf
  exact Zg rfl
def ZbT (r:Bool):D:=(D.bool r)
theorem Zdu {t0:Bool} {t1:Bool} {t2:Bool} {a:(List Int)} {b0:(List Int)} {b1:(List Int)}:∀r,(Z1 a (fun z0=>ZcI z0 b1))=some r→evD ctx 53 [(.d (D.list t0 (List.map Zb a))),(.d (D.fn 84 [(D.rptr [(D.list t1 (List.map Zb b0)),(D.list t2 (List.map Zb b1))])]))]=some (ZbT r):=by
 show ZX _ (fun r rhs=>rhs=some (ZbT r)) _
 unfold Z1
 rw[Zce ctx 53 Zvo _ rfl rfl]
 conv=>arg 3; whnf
 refine ZA _ ZdR rfl fun x0 hx0=>?_
 conv=>arg 3; whnf
 refine Ze rfl ?_ ?_
 ·conv=>arg 3; whnf
  exact Zg rfl
 ·conv=>arg 3; whnf
  exact Zg rfl
def ZiG (r:Int):D:=(Zb r)
def ZgV (t0:Bool) (t1:Bool) (t2:Bool) (t3:Bool) (a:Zo):(Unit⊕Unit)→Ex×List V×Zl
  | (.inl r)=>(.ret,[(.ptr 0 0),(.d (Zb 53))],[(.cells (dV t0 t1 t2 t3 a))])
  | (.inr r)=>(.exit 0,[(.ptr 0 0),.bad],[(.cells (dV t0 t1 t2 t3 a))])
theorem Zjv {t0:Bool} {t1:Bool} {t2:Bool} {t3:Bool} {a:Zo}:∀(s4:Int) (r:(Unit⊕Unit)),lp (ZcR a) s4=some r→lpW ctx 0 [1,61,62,63] [1,2] Ztf [(.ptr 0 0),(.d (D.list t1 (List.map Zw a.edges))),(.d (Zb (a.edges.length:Int))),(.d (Zb s4))] [(.cells (dV t0 t1 t2 t3 a))]=some ((ZgV t0 t1 t2 t3 a) r):=by
 refine Za7 (ZgV t0 t1 t2 t3 a) ?_
 intro s4 rcl ih
 show ZX _ _ (lpW _ _ _ _ _ _ _)
 unfold ZcR
 rw[Za8]
 conv=>arg 3; whnf
 refine Ze rfl ?_ ?_
 ·conv=>arg 3; whnf
  refine Zk rfl rfl fun x5 hx5=>?_
  conv=>arg 3; whnf
  refine ZA _ Zjg rfl fun x6 hx6=>?_
  conv=>arg 3; whnf
  refine Ze rfl ?_ ?_
  ·conv=>arg 3; whnf
   refine Ze rfl ?_ ?_
   ·conv=>arg 3; whnf
    refine Ze (Zta Zw a.edges s4.toNat) ?_ ?_
    ·conv=>arg 3; whnf
     refine Zcl rfl ?_
     conv=>arg 3; whnf
     refine Zs (Zow Zw a.edges s4.toNat) ?_
     conv=>arg 3; whnf
     refine ZA _ ZdG rfl fun x7 hx7=>?_
     conv=>arg 3; whnf
     refine Ze rfl ?_ ?_
     ·conv=>arg 3; whnf
      exact Zg rfl
     ·conv=>arg 3; whnf
      exact Zd (ih _)
    ·exact Za4
   ·exact Za4
  ·conv=>arg 3; whnf
   exact Zg rfl
 ·conv=>arg 3; whnf
  exact Zg rfl
def ZgY (t0:Bool) (t1:Bool) (t2:Bool) (t3:Bool) (a:Zo):(Unit⊕Unit)→Ex×List V×Zl
  | (.inl r)=>(.ret,[(.ptr 0 0),(.d (Zb 54))],[(.cells (dV t0 t1 t2 t3 a))])
  | (.inr r)=>(.exit 2,[(.ptr 0 0),.bad],[(.cells (dV t0 t1 t2 t3 a))])
theorem ZjH {t0:Bool} {t1:Bool} {t2:Bool} {t3:Bool} {a:Zo}:∀(s9:Int) (r:(Unit⊕Unit)),lp (ZcV a) s9=some r→lpW ctx 0 [1,85,86,87] [1,2] Zsp [(.ptr 0 0),(.d (D.list t2 (List.map Zn a.futures))),(.d (Zb (a.futures.length:Int))),(.d (Zb s9))] [(.cells (dV t0 t1 t2 t3 a))]=some ((ZgY t0 t1 t2 t3 a) r):=by
 refine Za7 (ZgY t0 t1 t2 t3 a) ?_
 intro s9 rcl ih
 show ZX _ _ (lpW _ _ _ _ _ _ _)
 unfold ZcV
 rw[Za8]
 conv=>arg 3; whnf
 refine Ze rfl ?_ ?_
 ·conv=>arg 3; whnf
  refine Zk rfl rfl fun x10 hx10=>?_
  conv=>arg 3; whnf
  refine ZA _ Zjg rfl fun x11 hx11=>?_
  conv=>arg 3; whnf
  refine Ze rfl ?_ ?_
  ·conv=>arg 3; whnf
   refine Zk rfl rfl fun x12 hx12=>?_
   conv=>arg 3; whnf
   refine ZA _ ZbL rfl fun x13 hx13=>?_
   conv=>arg 3; whnf
   refine Ze rfl ?_ ?_
   ·conv=>arg 3; whnf
    refine Ze rfl ?_ ?_
    ·conv=>arg 3; whnf
     refine Ze (Zta Zn a.futures s9.toNat) ?_ ?_
     ·conv=>arg 3; whnf
      refine Zcl rfl ?_
      conv=>arg 3; whnf
      refine Zs (Zow Zn a.futures s9.toNat) ?_
      conv=>arg 3; whnf
      refine ZA _ ZcQ rfl fun x14 hx14=>?_
      conv=>arg 3; whnf
      refine Ze rfl ?_ ?_
      ·conv=>arg 3; whnf
       exact Zg rfl
      ·conv=>arg 3; whnf
       exact Zd (ih _)
     ·exact Za4
    ·exact Za4
   ·conv=>arg 3; whnf
    exact Zg rfl
  ·conv=>arg 3; whnf
   exact Zg rfl
 ·conv=>arg 3; whnf
  exact Zg rfl
def ZgW (t0:Bool) (t1:Bool) (t2:Bool) (t3:Bool) (a:Zo):(Unit⊕Unit)→Ex×List V×Zl
  | (.inl r)=>(.ret,[(.d (Zb 55))],[])
  | (.inr r)=>(.exit 4,[.bad],[])
theorem ZjE {t0:Bool} {t1:Bool} {t2:Bool} {t3:Bool} {a:Zo}:∀(s16:Int) (r:(Unit⊕Unit)),lp (ZcT a) s16=some r→lpW ctx 0 [1,124,125,126] [2] ZtI [(.ptr 0 0),(.d (D.list t3 (List.map Zu a.barriers))),(.d (Zb (a.barriers.length:Int))),(.d (Zb s16))] [(.cells (dV t0 t1 t2 t3 a))]=some ((ZgW t0 t1 t2 t3 a) r):=by
 refine Za7 (ZgW t0 t1 t2 t3 a) ?_
 intro s16 rcl ih
 show ZX _ _ (lpW _ _ _ _ _ _ _)
 unfold ZcT
 rw[Za8]
 conv=>arg 3; whnf
 refine Ze rfl ?_ ?_
 ·conv=>arg 3; whnf
  refine Zk rfl rfl fun x17 hx17=>?_
  conv=>arg 3; whnf
  refine ZA _ Zjm rfl fun x18 hx18=>?_
  conv=>arg 3; whnf
  refine Ze rfl ?_ ?_
  ·conv=>arg 3; whnf
   refine ZA _ Zjm rfl fun x19 hx19=>?_
   conv=>arg 3; whnf
   refine Ze rfl ?_ ?_
   ·conv=>arg 3; whnf
    refine ZA _ Zdu rfl fun x20 hx20=>?_
    conv=>arg 3; whnf
    refine Ze rfl ?_ ?_
    ·conv=>arg 3; whnf
     exact Zg rfl
    ·conv=>arg 3; whnf
     exact Zd (ih _)
   ·conv=>arg 3; whnf
    exact Zg rfl
  ·conv=>arg 3; whnf
   exact Zg rfl
 ·conv=>arg 3; whnf
  exact Zg rfl
theorem Zia {t0:Bool} {t1:Bool} {t2:Bool} {t3:Bool} {a:Zo}:∀r,(ZeE a)=some r→evD ctx 41 [(.d (D.agg (dA t0 t1 t2 t3 a)))]=some (ZiG r):=by
 show ZX _ (fun r rhs=>rhs=some (ZiG r)) _
 unfold ZeE
 rw[Zce ctx 41 Zwh _ rfl rfl]
 conv=>arg 3; whnf
 refine Zs (ZK _ _) ?_
 conv=>arg 3; whnf
 refine ZA _ ZbL rfl fun x0 hx0=>?_
 conv=>arg 3; whnf
 refine Ze rfl ?_ ?_
 ·conv=>arg 3; whnf
  refine Zs (ZK _ _) ?_
  conv=>arg 3; whnf
  refine Ze rfl ?_ ?_
  ·conv=>arg 3; whnf
   exact Zg rfl
  ·conv=>arg 3; whnf
   refine Zs (ZK _ _) ?_
   conv=>arg 3; whnf
   refine Ze rfl ?_ ?_
   ·conv=>arg 3; whnf
    exact Zg rfl
   ·conv=>arg 3; whnf
    refine Zs (ZK _ _) ?_
    conv=>arg 3; whnf
    refine Ze rfl ?_ ?_
    ·conv=>arg 3; whnf
     exact Zg rfl
    ·conv=>arg 3; whnf
     refine ZA _ Zoe rfl fun x1 hx1=>?_
     conv=>arg 3; whnf
     refine Ze rfl ?_ ?_
     ·conv=>arg 3; whnf
      refine Ze rfl ?_ ?_
      ·conv=>arg 3; whnf
       exact Zg rfl
      ·conv=>arg 3; whnf
       refine ZA _ ZbL rfl fun x2 hx2=>?_
       conv=>arg 3; whnf
       refine Ze rfl ?_ ?_
       ·conv=>arg 3; whnf
        refine ZA _ ZdJ rfl fun x3 hx3=>?_
        conv=>arg 3; whnf
        refine Ze rfl ?_ ?_
        ·conv=>arg 3; whnf
         exact Zg rfl
        ·conv=>arg 3; whnf
         refine Zs (ZK _ _) ?_
         conv=>arg 3; whnf
         refine Zc _ (Zjv _) fun r8 hr8=>?_
         clear hr8
         rcases r8 with r8 | r8
         ·conv=>arg 3; whnf
          exact Zg rfl
         ·conv=>arg 3; whnf
          refine Zs (ZK _ _) ?_
          conv=>arg 3; whnf
          refine Zc _ (ZjH _) fun r15 hr15=>?_
          clear hr15
          rcases r15 with r15 | r15
          ·conv=>arg 3; whnf
           exact Zg rfl
          ·conv=>arg 3; whnf
           refine Zs (ZK _ _) ?_
           conv=>arg 3; whnf
           refine Zc _ (ZjE _) fun r21 hr21=>?_
           clear hr21
           rcases r21 with r21 | r21
           ·conv=>arg 3; whnf
            exact Zg rfl
           ·conv=>arg 3; whnf
            exact Zg rfl
       ·conv=>arg 3; whnf
        exact Zg rfl
     ·conv=>arg 3; whnf
      exact Zg rfl
 ·conv=>arg 3; whnf
  exact Zg rfl
def Zgv (r:Int):D:=(Zb r)
theorem ZD {t0:Bool} {t1:Bool} {t2:Bool} {t3:Bool} {a:Int} {b:Int} {c0:Int} {c1:Int} {c2:(List ZV)} {c3:(List Zm)} {c4:(List Zi)} {c5:(List Zq)}:∀r,(Zr a b c4)=some r→evD ctx 121 [(.d (Zb a)),(.d (Zb b)),(.d (D.rptr [(Zb c0),(Zb c1),(D.list t0 (List.map ZY c2)),(D.list t1 (List.map Zw c3)),(D.list t2 (List.map Zn c4)),(D.list t3 (List.map Zu c5))]))]=some (Zgv r):=by
 show ZX _ (fun r rhs=>rhs=some (Zgv r)) _
 unfold Zr
 rw[Zce ctx 121 ZsC _ rfl rfl]
 conv=>arg 3; whnf
 refine Zk rfl rfl fun x0 hx0=>?_
 conv=>arg 3; whnf
 refine Zk rfl rfl fun x1 hx1=>?_
 conv=>arg 3; whnf
 exact Zg rfl
def Zf3 (r:Int):D:=(Zb r)
theorem Zil {a:Int}:∀r,(Zfh a)=some r→evD ctx 151 [(.d (D.int .u64 a))]=some (Zf3 r):=by
 show ZX _ (fun r rhs=>rhs=some (Zf3 r)) _
 unfold Zfh
 rw[Zce ctx 151 Ztw _ rfl rfl]
 conv=>arg 3; whnf
 refine Ze rfl ?_ ?_
 ·conv=>arg 3; whnf
  refine Zah rfl ?_
  conv=>arg 3; whnf
  refine Ze rfl ?_ ?_
  ·conv=>arg 3; whnf
   refine Zah rfl ?_
   conv=>arg 3; whnf
   refine Ze rfl ?_ ?_
   ·conv=>arg 3; whnf
    refine Zah rfl ?_
    conv=>arg 3; whnf
    refine Ze rfl ?_ ?_
    ·conv=>arg 3; whnf
     refine ZfF rfl fun x0 hx0=>?_
     conv=>arg 3; whnf
     exact Zg rfl
    ·exact Za4
   ·conv=>arg 3; whnf
    refine Ze rfl ?_ ?_
    ·conv=>arg 3; whnf
     refine ZfF rfl fun x1 hx1=>?_
     conv=>arg 3; whnf
     exact Zg rfl
    ·exact Za4
  ·conv=>arg 3; whnf
   refine Ze rfl ?_ ?_
   ·conv=>arg 3; whnf
    refine Zah rfl ?_
    conv=>arg 3; whnf
    refine Ze rfl ?_ ?_
    ·conv=>arg 3; whnf
     refine ZfF rfl fun x2 hx2=>?_
     conv=>arg 3; whnf
     exact Zg rfl
    ·exact Za4
   ·conv=>arg 3; whnf
    refine Ze rfl ?_ ?_
    ·conv=>arg 3; whnf
     refine ZfF rfl fun x3 hx3=>?_
     conv=>arg 3; whnf
     exact Zg rfl
    ·exact Za4
 ·conv=>arg 3; whnf
  refine Ze rfl ?_ ?_
  ·conv=>arg 3; whnf
   refine Zah rfl ?_
   conv=>arg 3; whnf
   refine Ze rfl ?_ ?_
   ·conv=>arg 3; whnf
    refine Zah rfl ?_
    conv=>arg 3; whnf
    refine Ze rfl ?_ ?_
    ·conv=>arg 3; whnf
     refine ZfF rfl fun x4 hx4=>?_
     conv=>arg 3; whnf
     exact Zg rfl
    ·exact Za4
   ·conv=>arg 3; whnf
    refine Ze rfl ?_ ?_
    ·conv=>arg 3; whnf
     refine ZfF rfl fun x5 hx5=>?_
     conv=>arg 3; whnf
     exact Zg rfl
    ·exact Za4
  ·conv=>arg 3; whnf
   refine Ze rfl ?_ ?_
   ·conv=>arg 3; whnf
    refine Zah rfl ?_
    conv=>arg 3; whnf
    refine Ze rfl ?_ ?_
    ·conv=>arg 3; whnf
     refine ZfF rfl fun x6 hx6=>?_
     conv=>arg 3; whnf
     exact Zg rfl
    ·exact Za4
   ·conv=>arg 3; whnf
    refine Ze rfl ?_ ?_
    ·conv=>arg 3; whnf
     refine ZfF rfl fun x7 hx7=>?_
     conv=>arg 3; whnf
     exact Zg rfl
    ·exact Za4
def ZgQ (r:Int):D:=(Zb r)
theorem ZgF {a:Int}:∀r,(ZdC a)=some r→evD ctx 139 [(.d (D.int .u64 a))]=some (ZgQ r):=by
 show ZX _ (fun r rhs=>rhs=some (ZgQ r)) _
 unfold ZdC
 rw[Zce ctx 139 Zte _ rfl rfl]
 conv=>arg 3; whnf
 refine ZA _ Zil rfl fun x0 hx0=>?_
 conv=>arg 3; whnf
 exact Zg rfl
def Zby (t0:Bool) (t1:Bool) (t2:Bool) (t3:Bool) (b:Int) (c:Int) (m0_0:(List Int)) (m1_0:Int) (m1_1:Int) (m1_2:(List ZV)) (m1_3:(List Zm)) (m1_4:(List Zi)) (m1_5:(List Zq)):(List Int)→V×Zl
  | r=>((.d (D.tup [])),[(.arr 1 (List.map Zb r)),(.cells [(.d (Zb m1_0)),(.d (Zb m1_1)),(.d (D.list t0 (List.map ZY m1_2))),(.d (D.list t1 (List.map Zw m1_3))),(.d (D.list t2 (List.map Zn m1_4))),(.d (D.list t3 (List.map Zu m1_5)))])])
def Zbd (t0:Bool) (t1:Bool) (t2:Bool) (t3:Bool) (b:Int) (c:Int) (m1_0:Int) (m1_1:Int) (m1_2:(List ZV)) (m1_3:(List Zm)) (m1_4:(List Zi)) (m1_5:(List Zq)) (s0:Int×(List Int)):(List Int)→Ex×List V×Zl
  | r=>(.exit 2,[(.sl 0 1),(.d (Zb b)),(.d (Zb c)),(.fn 121 [(.ptr 1 0)]),(.d (Zb s0.1))],[(.arr 1 (List.map Zb r)),(.cells [(.d (Zb m1_0)),(.d (Zb m1_1)),(.d (D.list t0 (List.map ZY m1_2))),(.d (D.list t1 (List.map Zw m1_3))),(.d (D.list t2 (List.map Zn m1_4))),(.d (D.list t3 (List.map Zu m1_5)))])])
theorem ZcJ {t0:Bool} {t1:Bool} {t2:Bool} {t3:Bool} {b:Int} {c:Int} {m1_0:Int} {m1_1:Int} {m1_2:(List ZV)} {m1_3:(List Zm)} {m1_4:(List Zi)} {m1_5:(List Zq)} {s0:Int×(List Int)}:∀(s1:Int×(List Int)) (r:(List Int)),lp (ZS b (fun z0 z1=>Zr z0 z1 m1_4)) s1=some r→lpW ctx 2 [0,1,2,3,8,9] [0,1,2,3,8] Zq0 [(.sl 0 1),(.d (Zb b)),(.d (Zb c)),(.fn 121 [(.ptr 1 0)]),(.d (Zb s0.1)),(.d (Zb s1.1))] [(.arr 1 (List.map Zb s1.2)),(.cells [(.d (Zb m1_0)),(.d (Zb m1_1)),(.d (D.list t0 (List.map ZY m1_2))),(.d (D.list t1 (List.map Zw m1_3))),(.d (D.list t2 (List.map Zn m1_4))),(.d (D.list t3 (List.map Zu m1_5)))])]=some ((Zbd t0 t1 t2 t3 b c m1_0 m1_1 m1_2 m1_3 m1_4 m1_5 s0) r):=by
 refine Za7 (Zbd t0 t1 t2 t3 b c m1_0 m1_1 m1_2 m1_3 m1_4 m1_5 s0) ?_
 intro s1 rcl ih
 show ZX _ _ (lpW _ _ _ _ _ _ _)
 unfold ZS
 rw[Za8]
 conv=>arg 3; whnf
 refine Ze rfl ?_ ?_
 ·conv=>arg 3; whnf
  refine Zk rfl rfl fun x2 hx2=>?_
  conv=>arg 3; whnf
  refine Zf (Zz rfl hx2) ?_
  conv=>arg 3; whnf
  refine Zk rfl rfl fun x3 hx3=>?_
  conv=>arg 3; whnf
  refine Zf (Zz rfl hx3) ?_
  conv=>arg 3; whnf
  refine ZA _ ZD rfl fun x4 hx4=>?_
  conv=>arg 3; whnf
  refine Ze rfl ?_ ?_
  ·conv=>arg 3; whnf
   refine Zf (ZbM rfl hx3) ?_
   conv=>arg 3; whnf
   refine Zf (Zz rfl hx3) ?_
   conv=>arg 3; whnf
   refine Zf (ZbM rfl hx2) ?_
   conv=>arg 3; whnf
   refine Zf (Zz rfl hx2) ?_
   conv=>arg 3; whnf
   refine Zf (ZbM rfl hx2) ?_
   conv=>arg 3; whnf
   refine Zf (Zz rfl hx2) ?_
   conv=>arg 3; whnf
   refine Zs (ZaK Zb s1.2 s1.1.toNat x3) ?_
   conv=>arg 3; whnf
   refine Zk rfl rfl fun x5 hx5=>?_
   conv=>arg 3; whnf
   refine Zf (Zz rfl hx5) ?_
   conv=>arg 3; whnf
   refine Zs (ZaK Zb (List.set s1.2 s1.1.toNat x3) (w64 (s1.1-1)).toNat x2) ?_
   conv=>arg 3; whnf
   exact Zd (ih _)
  ·conv=>arg 3; whnf
   exact Zg rfl
 ·conv=>arg 3; whnf
  exact Zg rfl
def Zbf (t0:Bool) (t1:Bool) (t2:Bool) (t3:Bool) (b:Int) (c:Int) (m1_0:Int) (m1_1:Int) (m1_2:(List ZV)) (m1_3:(List Zm)) (m1_4:(List Zi)) (m1_5:(List Zq)):(List Int)→Ex×List V×Zl
  | r=>(.exit 0,[],[(.arr 1 (List.map Zb r)),(.cells [(.d (Zb m1_0)),(.d (Zb m1_1)),(.d (D.list t0 (List.map ZY m1_2))),(.d (D.list t1 (List.map Zw m1_3))),(.d (D.list t2 (List.map Zn m1_4))),(.d (D.list t3 (List.map Zu m1_5)))])])
theorem ZcK {t0:Bool} {t1:Bool} {t2:Bool} {t3:Bool} {b:Int} {c:Int} {m1_0:Int} {m1_1:Int} {m1_2:(List ZV)} {m1_3:(List Zm)} {m1_4:(List Zi)} {m1_5:(List Zq)}:∀(s0:Int×(List Int)) (r:(List Int)),lp (Zag b c (fun z0 z1=>Zr z0 z1 m1_4)) s0=some r→lpW ctx 2 [0,1,2,3,8] [] Zq7 [(.sl 0 1),(.d (Zb b)),(.d (Zb c)),(.fn 121 [(.ptr 1 0)]),(.d (Zb s0.1))] [(.arr 1 (List.map Zb s0.2)),(.cells [(.d (Zb m1_0)),(.d (Zb m1_1)),(.d (D.list t0 (List.map ZY m1_2))),(.d (D.list t1 (List.map Zw m1_3))),(.d (D.list t2 (List.map Zn m1_4))),(.d (D.list t3 (List.map Zu m1_5)))])]=some ((Zbf t0 t1 t2 t3 b c m1_0 m1_1 m1_2 m1_3 m1_4 m1_5) r):=by
 refine Za7 (Zbf t0 t1 t2 t3 b c m1_0 m1_1 m1_2 m1_3 m1_4 m1_5) ?_
 intro s0 rcl ih
 show ZX _ _ (lpW _ _ _ _ _ _ _)
 unfold Zag
 rw[Za8]
 conv=>arg 3; whnf
 refine Ze rfl ?_ ?_
 ·conv=>arg 3; whnf
  refine Zc _ (ZcJ _) fun r6 hr6=>?_
  conv=>arg 3; whnf
  exact Zd (ih _)
 ·conv=>arg 3; whnf
  exact Zg rfl
theorem Z5 {t0:Bool} {t1:Bool} {t2:Bool} {t3:Bool} {b:Int} {c:Int} {m0_0:(List Int)} {m1_0:Int} {m1_1:Int} {m1_2:(List ZV)} {m1_3:(List Zm)} {m1_4:(List Zi)} {m1_5:(List Zq)}:∀r,(ZR b c (fun z0 z1=>Zr z0 z1 m1_4) m0_0)=some r→evW ctx 142 [(.sl 0 1),(.d (Zb b)),(.d (Zb c)),(.fn 121 [(.ptr 1 0)])] [(.arr 1 (List.map Zb m0_0)),(.cells [(.d (Zb m1_0)),(.d (Zb m1_1)),(.d (D.list t0 (List.map ZY m1_2))),(.d (D.list t1 (List.map Zw m1_3))),(.d (D.list t2 (List.map Zn m1_4))),(.d (D.list t3 (List.map Zu m1_5)))])]=some ((Zby t0 t1 t2 t3 b c m0_0 m1_0 m1_1 m1_2 m1_3 m1_4 m1_5) r):=by
 show ZX _ (fun r rhs=>rhs=some ((Zby t0 t1 t2 t3 b c m0_0 m1_0 m1_1 m1_2 m1_3 m1_4 m1_5) r)) _
 unfold ZR
 rw[ZeZ ctx 142 Ztx _ _ rfl rfl]
 conv=>arg 3; whnf
 refine Zc _ (ZcK _) fun r7 hr7=>?_
 conv=>arg 3; whnf
 exact Zg rfl
def Zb2 (t0:Bool) (t1:Bool) (t2:Bool) (t3:Bool) (b:Int) (c:Int) (d:Int) (m0_0:(List Int)) (m1_0:Int) (m1_1:Int) (m1_2:(List ZV)) (m1_3:(List Zm)) (m1_4:(List Zi)) (m1_5:(List Zq)):(List Int)→V×Zl
  | r=>((.d (D.tup [])),[(.arr 1 (List.map Zb r)),(.cells [(.d (Zb m1_0)),(.d (Zb m1_1)),(.d (D.list t0 (List.map ZY m1_2))),(.d (D.list t1 (List.map Zw m1_3))),(.d (D.list t2 (List.map Zn m1_4))),(.d (D.list t3 (List.map Zu m1_5)))])])
def ZbJ (t0:Bool) (t1:Bool) (t2:Bool) (t3:Bool) (c:Int) (d:Int) (m1_0:Int) (m1_1:Int) (m1_2:(List ZV)) (m1_3:(List Zm)) (m1_4:(List Zi)) (m1_5:(List Zq)):((List Int)⊕(List Int))→Ex×List V×Zl
  | (.inl r)=>(.exit 0,[],[(.arr 1 (List.map Zb r)),(.cells [(.d (Zb m1_0)),(.d (Zb m1_1)),(.d (D.list t0 (List.map ZY m1_2))),(.d (D.list t1 (List.map Zw m1_3))),(.d (D.list t2 (List.map Zn m1_4))),(.d (D.list t3 (List.map Zu m1_5)))])])
  | (.inr r)=>(.ret,[],[(.arr 1 (List.map Zb r)),(.cells [(.d (Zb m1_0)),(.d (Zb m1_1)),(.d (D.list t0 (List.map ZY m1_2))),(.d (D.list t1 (List.map Zw m1_3))),(.d (D.list t2 (List.map Zn m1_4))),(.d (D.list t3 (List.map Zu m1_5)))])])
theorem Zdi {t0:Bool} {t1:Bool} {t2:Bool} {t3:Bool} {c:Int} {d:Int} {m1_0:Int} {m1_1:Int} {m1_2:(List ZV)} {m1_3:(List Zm)} {m1_4:(List Zi)} {m1_5:(List Zq)}:∀(s0:Int×(List Int)) (r:((List Int)⊕(List Int))),lp (ZH c d (fun z0 z1=>Zr z0 z1 m1_4)) s0=some r→lpW ctx 2 [0,2,3,4,10] [] ZqE [(.sl 0 1),(.d (Zb c)),(.d (Zb d)),(.fn 121 [(.ptr 1 0)]),(.d (Zb s0.1))] [(.arr 1 (List.map Zb s0.2)),(.cells [(.d (Zb m1_0)),(.d (Zb m1_1)),(.d (D.list t0 (List.map ZY m1_2))),(.d (D.list t1 (List.map Zw m1_3))),(.d (D.list t2 (List.map Zn m1_4))),(.d (D.list t3 (List.map Zu m1_5)))])]=some ((ZbJ t0 t1 t2 t3 c d m1_0 m1_1 m1_2 m1_3 m1_4 m1_5) r):=by
 refine Za7 (ZbJ t0 t1 t2 t3 c d m1_0 m1_1 m1_2 m1_3 m1_4 m1_5) ?_
 intro s0 rcl ih
 show ZX _ _ (lpW _ _ _ _ _ _ _)
 unfold ZH
 rw[Za8]
 conv=>arg 3; whnf
 refine Ze rfl ?_ ?_
 ·conv=>arg 3; whnf
  exact Zg rfl
 ·conv=>arg 3; whnf
  refine Ze rfl ?_ ?_
  ·conv=>arg 3; whnf
   refine Zk rfl rfl fun x1 hx1=>?_
   conv=>arg 3; whnf
   refine Zf (Zz rfl hx1) ?_
   conv=>arg 3; whnf
   refine Zk rfl rfl fun x2 hx2=>?_
   conv=>arg 3; whnf
   refine Zf (Zz rfl hx2) ?_
   conv=>arg 3; whnf
   refine ZA _ ZD rfl fun x3 hx3=>?_
   conv=>arg 3; whnf
   refine Ze rfl ?_ ?_
   ·conv=>arg 3; whnf
    refine Zk rfl rfl fun x4 hx4=>?_
    conv=>arg 3; whnf
    refine Zf (Zz rfl hx4) ?_
    conv=>arg 3; whnf
    refine Zk rfl rfl fun x5 hx5=>?_
    conv=>arg 3; whnf
    refine Zf (Zz rfl hx5) ?_
    conv=>arg 3; whnf
    refine ZA _ ZD rfl fun x6 hx6=>?_
    conv=>arg 3; whnf
    refine Ze rfl ?_ ?_
    ·conv=>arg 3; whnf
     refine Zf (ZbM rfl hx5) ?_
     conv=>arg 3; whnf
     refine Zf (Zz rfl hx5) ?_
     conv=>arg 3; whnf
     refine Zf (ZbM rfl hx4) ?_
     conv=>arg 3; whnf
     refine Zf (Zz rfl hx4) ?_
     conv=>arg 3; whnf
     refine Zf (ZbM rfl hx4) ?_
     conv=>arg 3; whnf
     refine Zf (Zz rfl hx4) ?_
     conv=>arg 3; whnf
     refine Zs (ZaK Zb s0.2 (w64 (d+s0.1)).toNat x5) ?_
     conv=>arg 3; whnf
     refine Zk rfl rfl fun x7 hx7=>?_
     conv=>arg 3; whnf
     refine Zf (Zz rfl hx7) ?_
     conv=>arg 3; whnf
     refine Zs (ZaK Zb (List.set s0.2 (w64 (d+s0.1)).toNat x5) (w64 (d+(w64 ((w64 ((w64 (2*s0.1))+1))+1)))).toNat x4) ?_
     conv=>arg 3; whnf
     exact Zd (ih _)
    ·conv=>arg 3; whnf
     exact Zg rfl
   ·conv=>arg 3; whnf
    refine Zk rfl rfl fun x8 hx8=>?_
    conv=>arg 3; whnf
    refine Zf (Zz rfl hx8) ?_
    conv=>arg 3; whnf
    refine Zf (ZbM rfl hx1) ?_
    conv=>arg 3; whnf
    refine Zf (Zz rfl hx1) ?_
    conv=>arg 3; whnf
    refine ZA _ ZD rfl fun x9 hx9=>?_
    conv=>arg 3; whnf
    refine Ze rfl ?_ ?_
    ·conv=>arg 3; whnf
     refine Zf (ZbM rfl hx1) ?_
     conv=>arg 3; whnf
     refine Zf (Zz rfl hx1) ?_
     conv=>arg 3; whnf
     refine Zf (ZbM rfl hx8) ?_
     conv=>arg 3; whnf
     refine Zf (Zz rfl hx8) ?_
     conv=>arg 3; whnf
     refine Zf (ZbM rfl hx8) ?_
     conv=>arg 3; whnf
     refine Zf (Zz rfl hx8) ?_
     conv=>arg 3; whnf
     refine Zs (ZaK Zb s0.2 (w64 (d+s0.1)).toNat x1) ?_
     conv=>arg 3; whnf
     refine Zk rfl rfl fun x10 hx10=>?_
     conv=>arg 3; whnf
     refine Zf (Zz rfl hx10) ?_
     conv=>arg 3; whnf
     refine Zs (ZaK Zb (List.set s0.2 (w64 (d+s0.1)).toNat x1) (w64 (d+(w64 ((w64 (2*s0.1))+1)))).toNat x8) ?_
     conv=>arg 3; whnf
     exact Zd (ih _)
    ·conv=>arg 3; whnf
     exact Zg rfl
  ·conv=>arg 3; whnf
   refine Zk rfl rfl fun x11 hx11=>?_
   conv=>arg 3; whnf
   refine Zf (Zz rfl hx11) ?_
   conv=>arg 3; whnf
   refine Zk rfl rfl fun x12 hx12=>?_
   conv=>arg 3; whnf
   refine Zf (Zz rfl hx12) ?_
   conv=>arg 3; whnf
   refine ZA _ ZD rfl fun x13 hx13=>?_
   conv=>arg 3; whnf
   refine Ze rfl ?_ ?_
   ·conv=>arg 3; whnf
    refine Zf (ZbM rfl hx12) ?_
    conv=>arg 3; whnf
    refine Zf (Zz rfl hx12) ?_
    conv=>arg 3; whnf
    refine Zf (ZbM rfl hx11) ?_
    conv=>arg 3; whnf
    refine Zf (Zz rfl hx11) ?_
    conv=>arg 3; whnf
    refine Zf (ZbM rfl hx11) ?_
    conv=>arg 3; whnf
    refine Zf (Zz rfl hx11) ?_
    conv=>arg 3; whnf
    refine Zs (ZaK Zb s0.2 (w64 (d+s0.1)).toNat x12) ?_
    conv=>arg 3; whnf
    refine Zk rfl rfl fun x14 hx14=>?_
    conv=>arg 3; whnf
    refine Zf (Zz rfl hx14) ?_
    conv=>arg 3; whnf
    refine Zs (ZaK Zb (List.set s0.2 (w64 (d+s0.1)).toNat x12) (w64 (d+(w64 ((w64 (2*s0.1))+1)))).toNat x11) ?_
    conv=>arg 3; whnf
    exact Zd (ih _)
   ·conv=>arg 3; whnf
    exact Zg rfl
theorem ZbR {t0:Bool} {t1:Bool} {t2:Bool} {t3:Bool} {b:Int} {c:Int} {d:Int} {m0_0:(List Int)} {m1_0:Int} {m1_1:Int} {m1_2:(List ZV)} {m1_3:(List Zm)} {m1_4:(List Zi)} {m1_5:(List Zq)}:∀r,(Zax b c d (fun z0 z1=>Zr z0 z1 m1_4) m0_0)=some r→evW ctx 161 [(.sl 0 1),(.d (Zb b)),(.d (Zb c)),(.d (Zb d)),(.fn 121 [(.ptr 1 0)])] [(.arr 1 (List.map Zb m0_0)),(.cells [(.d (Zb m1_0)),(.d (Zb m1_1)),(.d (D.list t0 (List.map ZY m1_2))),(.d (D.list t1 (List.map Zw m1_3))),(.d (D.list t2 (List.map Zn m1_4))),(.d (D.list t3 (List.map Zu m1_5)))])]=some ((Zb2 t0 t1 t2 t3 b c d m0_0 m1_0 m1_1 m1_2 m1_3 m1_4 m1_5) r):=by
 show ZX _ (fun r rhs=>rhs=some ((Zb2 t0 t1 t2 t3 b c d m0_0 m1_0 m1_1 m1_2 m1_3 m1_4 m1_5) r)) _
 unfold Zax
 rw[ZeZ ctx 161 Zsz _ _ rfl rfl]
 conv=>arg 3; whnf
 refine Zc _ (Zdi _) fun r15 hr15=>?_
 clear hr15
 rcases r15 with r15 | r15
 ·conv=>arg 3; whnf
  exact Zg rfl
 ·conv=>arg 3; whnf
  exact Zg rfl
def Zb1 (t0:Bool) (t1:Bool) (t2:Bool) (t3:Bool) (b:Int) (c:Int) (m0_0:(List Int)) (m1_0:Int) (m1_1:Int) (m1_2:(List ZV)) (m1_3:(List Zm)) (m1_4:(List Zi)) (m1_5:(List Zq)):(List Int)→V×Zl
  | r=>((.d (D.tup [])),[(.arr 1 (List.map Zb r)),(.cells [(.d (Zb m1_0)),(.d (Zb m1_1)),(.d (D.list t0 (List.map ZY m1_2))),(.d (D.list t1 (List.map Zw m1_3))),(.d (D.list t2 (List.map Zn m1_4))),(.d (D.list t3 (List.map Zu m1_5)))])])
def ZbG (t0:Bool) (t1:Bool) (t2:Bool) (t3:Bool) (b:Int) (c:Int) (m1_0:Int) (m1_1:Int) (m1_2:(List ZV)) (m1_3:(List Zm)) (m1_4:(List Zi)) (m1_5:(List Zq)):(List Int)→Ex×List V×Zl
  | r=>(.exit 0,[(.sl 0 1),(.fn 121 [(.ptr 1 0)]),(.d (Zb b)),(.d (Zb 0)),(.d (Zb (w64 (c-b))))],[(.arr 1 (List.map Zb r)),(.cells [(.d (Zb m1_0)),(.d (Zb m1_1)),(.d (D.list t0 (List.map ZY m1_2))),(.d (D.list t1 (List.map Zw m1_3))),(.d (D.list t2 (List.map Zn m1_4))),(.d (D.list t3 (List.map Zu m1_5)))])])
theorem Zdm {t0:Bool} {t1:Bool} {t2:Bool} {t3:Bool} {b:Int} {c:Int} {m1_0:Int} {m1_1:Int} {m1_2:(List ZV)} {m1_3:(List Zm)} {m1_4:(List Zi)} {m1_5:(List Zq)}:∀(s0:Int×(List Int)) (r:(List Int)),lp (ZaB b c (fun z0 z1=>Zr z0 z1 m1_4)) s0=some r→lpW ctx 2 [0,3,8,9,10,11] [0,3,8,9,10] Zrp [(.sl 0 1),(.fn 121 [(.ptr 1 0)]),(.d (Zb b)),(.d (Zb 0)),(.d (Zb (w64 (c-b)))),(.d (Zb s0.1))] [(.arr 1 (List.map Zb s0.2)),(.cells [(.d (Zb m1_0)),(.d (Zb m1_1)),(.d (D.list t0 (List.map ZY m1_2))),(.d (D.list t1 (List.map Zw m1_3))),(.d (D.list t2 (List.map Zn m1_4))),(.d (D.list t3 (List.map Zu m1_5)))])]=some ((ZbG t0 t1 t2 t3 b c m1_0 m1_1 m1_2 m1_3 m1_4 m1_5) r):=by
 refine Za7 (ZbG t0 t1 t2 t3 b c m1_0 m1_1 m1_2 m1_3 m1_4 m1_5) ?_
 intro s0 rcl ih
 show ZX _ _ (lpW _ _ _ _ _ _ _)
 unfold ZaB
 rw[Za8]
 conv=>arg 3; whnf
 refine Ze rfl ?_ ?_
 ·conv=>arg 3; whnf
  refine Zc _ ZbR fun x1 hx1=>?_
  conv=>arg 3; whnf
  exact Zd (ih _)
 ·conv=>arg 3; whnf
  exact Zg rfl
def ZbH (t0:Bool) (t1:Bool) (t2:Bool) (t3:Bool) (b:Int) (m1_0:Int) (m1_1:Int) (m1_2:(List ZV)) (m1_3:(List Zm)) (m1_4:(List Zi)) (m1_5:(List Zq)):(List Int)→Ex×List V×Zl
  | r=>(.exit 2,[],[(.arr 1 (List.map Zb r)),(.cells [(.d (Zb m1_0)),(.d (Zb m1_1)),(.d (D.list t0 (List.map ZY m1_2))),(.d (D.list t1 (List.map Zw m1_3))),(.d (D.list t2 (List.map Zn m1_4))),(.d (D.list t3 (List.map Zu m1_5)))])])
theorem Zdl {t0:Bool} {t1:Bool} {t2:Bool} {t3:Bool} {b:Int} {m1_0:Int} {m1_1:Int} {m1_2:(List ZV)} {m1_3:(List Zm)} {m1_4:(List Zi)} {m1_5:(List Zq)}:∀(s3:Int×(List Int)) (r:(List Int)),lp (ZaC b (fun z0 z1=>Zr z0 z1 m1_4)) s3=some r→lpW ctx 2 [0,3,8,9,12] [] ZqM [(.sl 0 1),(.fn 121 [(.ptr 1 0)]),(.d (Zb b)),(.d (Zb 0)),(.d (Zb s3.1))] [(.arr 1 (List.map Zb s3.2)),(.cells [(.d (Zb m1_0)),(.d (Zb m1_1)),(.d (D.list t0 (List.map ZY m1_2))),(.d (D.list t1 (List.map Zw m1_3))),(.d (D.list t2 (List.map Zn m1_4))),(.d (D.list t3 (List.map Zu m1_5)))])]=some ((ZbH t0 t1 t2 t3 b m1_0 m1_1 m1_2 m1_3 m1_4 m1_5) r):=by
 refine Za7 (ZbH t0 t1 t2 t3 b m1_0 m1_1 m1_2 m1_3 m1_4 m1_5) ?_
 intro s3 rcl ih
 show ZX _ _ (lpW _ _ _ _ _ _ _)
 unfold ZaC
 rw[Za8]
 conv=>arg 3; whnf
 refine Ze rfl ?_ ?_
 ·conv=>arg 3; whnf
  refine Zk rfl rfl fun x4 hx4=>?_
  conv=>arg 3; whnf
  refine Zf (Zz rfl hx4) ?_
  conv=>arg 3; whnf
  refine Zk rfl rfl fun x5 hx5=>?_
  conv=>arg 3; whnf
  refine Zf (Zz rfl hx5) ?_
  conv=>arg 3; whnf
  refine Zf (ZbM rfl hx5) ?_
  conv=>arg 3; whnf
  refine Zf (Zz rfl hx5) ?_
  conv=>arg 3; whnf
  refine Zs (ZaK Zb s3.2 b.toNat x4) ?_
  conv=>arg 3; whnf
  refine Zk rfl rfl fun x6 hx6=>?_
  conv=>arg 3; whnf
  refine Zf (Zz rfl hx6) ?_
  conv=>arg 3; whnf
  refine Zs (ZaK Zb (List.set s3.2 b.toNat x4) (w64 (b+s3.1)).toNat x5) ?_
  conv=>arg 3; whnf
  refine Zc _ ZbR fun x7 hx7=>?_
  conv=>arg 3; whnf
  exact Zd (ih _)
 ·conv=>arg 3; whnf
  exact Zg rfl
theorem Zam {t0:Bool} {t1:Bool} {t2:Bool} {t3:Bool} {b:Int} {c:Int} {m0_0:(List Int)} {m1_0:Int} {m1_1:Int} {m1_2:(List ZV)} {m1_3:(List Zm)} {m1_4:(List Zi)} {m1_5:(List Zq)}:∀r,(Z3 b c (fun z0 z1=>Zr z0 z1 m1_4) m0_0)=some r→evW ctx 143 [(.sl 0 1),(.d (Zb b)),(.d (Zb c)),(.fn 121 [(.ptr 1 0)])] [(.arr 1 (List.map Zb m0_0)),(.cells [(.d (Zb m1_0)),(.d (Zb m1_1)),(.d (D.list t0 (List.map ZY m1_2))),(.d (D.list t1 (List.map Zw m1_3))),(.d (D.list t2 (List.map Zn m1_4))),(.d (D.list t3 (List.map Zu m1_5)))])]=some ((Zb1 t0 t1 t2 t3 b c m0_0 m1_0 m1_1 m1_2 m1_3 m1_4 m1_5) r):=by
 show ZX _ (fun r rhs=>rhs=some ((Zb1 t0 t1 t2 t3 b c m0_0 m1_0 m1_1 m1_2 m1_3 m1_4 m1_5) r)) _
 unfold Z3
 rw[ZeZ ctx 143 ZtK _ _ rfl rfl]
 conv=>arg 3; whnf
 refine Zah rfl ?_
 conv=>arg 3; whnf
 refine Zc _ (Zdm _) fun r2 hr2=>?_
 conv=>arg 3; whnf
 refine Zc _ (Zdl _) fun r8 hr8=>?_
 conv=>arg 3; whnf
 exact Zg rfl
def Zcc (t0:Bool) (t1:Bool) (t2:Bool) (t3:Bool) (b:Int) (c:Int) (m0_0:(List Int)) (m1_0:Int) (m2_0:Int) (m2_1:Int) (m2_2:(List ZV)) (m2_3:(List Zm)) (m2_4:(List Zi)) (m2_5:(List Zq)):(Int×Int×Int)→V×Zl
  | r=>((.d (D.tup [(Zb r.1),(Zb r.2.1)])),[(.arr 1 (List.map Zb m0_0)),(.cells [(.d (Zb r.2.2))]),(.cells [(.d (Zb m2_0)),(.d (Zb m2_1)),(.d (D.list t0 (List.map ZY m2_2))),(.d (D.list t1 (List.map Zw m2_3))),(.d (D.list t2 (List.map Zn m2_4))),(.d (D.list t3 (List.map Zu m2_5)))])])
theorem ZaZ {t0:Bool} {t1:Bool} {t2:Bool} {t3:Bool} {b:Int} {c:Int} {m0_0:(List Int)} {m1_0:Int} {m2_0:Int} {m2_1:Int} {m2_2:(List ZV)} {m2_3:(List Zm)} {m2_4:(List Zi)} {m2_5:(List Zq)}:∀r,(ZaJ b c (fun z0 z1=>Zr z0 z1 m2_4) m0_0 m1_0)=some r→evW ctx 170 [(.sl 0 1),(.d (Zb b)),(.d (Zb c)),(.ptr 1 0),(.fn 121 [(.ptr 2 0)])] [(.arr 1 (List.map Zb m0_0)),(.cells [(.d (Zb m1_0))]),(.cells [(.d (Zb m2_0)),(.d (Zb m2_1)),(.d (D.list t0 (List.map ZY m2_2))),(.d (D.list t1 (List.map Zw m2_3))),(.d (D.list t2 (List.map Zn m2_4))),(.d (D.list t3 (List.map Zu m2_5)))])]=some ((Zcc t0 t1 t2 t3 b c m0_0 m1_0 m2_0 m2_1 m2_2 m2_3 m2_4 m2_5) r):=by
 show ZX _ (fun r rhs=>rhs=some ((Zcc t0 t1 t2 t3 b c m0_0 m1_0 m2_0 m2_1 m2_2 m2_3 m2_4 m2_5) r)) _
 unfold ZaJ
 rw[ZeZ ctx 170 ZsW _ _ rfl rfl]
 conv=>arg 3; whnf
 refine Zk rfl rfl fun x0 hx0=>?_
 conv=>arg 3; whnf
 refine Zf (Zz rfl hx0) ?_
 conv=>arg 3; whnf
 refine Zk rfl rfl fun x1 hx1=>?_
 conv=>arg 3; whnf
 refine Zf (Zz rfl hx1) ?_
 conv=>arg 3; whnf
 refine ZA _ ZD rfl fun x2 hx2=>?_
 conv=>arg 3; whnf
 refine Ze rfl ?_ ?_
 ·conv=>arg 3; whnf
  exact Zg rfl
 ·conv=>arg 3; whnf
  exact Zg rfl
def Zcb (t0:Bool) (t1:Bool) (t2:Bool) (t3:Bool) (b:Int) (c:Int) (d:Int) (m0_0:(List Int)) (m1_0:Int) (m2_0:Int) (m2_1:Int) (m2_2:(List ZV)) (m2_3:(List Zm)) (m2_4:(List Zi)) (m2_5:(List Zq)):(Int×Int)→V×Zl
  | r=>((.d (Zb r.1)),[(.arr 1 (List.map Zb m0_0)),(.cells [(.d (Zb r.2))]),(.cells [(.d (Zb m2_0)),(.d (Zb m2_1)),(.d (D.list t0 (List.map ZY m2_2))),(.d (D.list t1 (List.map Zw m2_3))),(.d (D.list t2 (List.map Zn m2_4))),(.d (D.list t3 (List.map Zu m2_5)))])])
theorem Za0 {t0:Bool} {t1:Bool} {t2:Bool} {t3:Bool} {b:Int} {c:Int} {d:Int} {m0_0:(List Int)} {m1_0:Int} {m2_0:Int} {m2_1:Int} {m2_2:(List ZV)} {m2_3:(List Zm)} {m2_4:(List Zi)} {m2_5:(List Zq)}:∀r,(ZaI b c d (fun z0 z1=>Zr z0 z1 m2_4) m0_0 m1_0)=some r→evW ctx 165 [(.sl 0 1),(.d (Zb b)),(.d (Zb c)),(.d (Zb d)),(.ptr 1 0),(.fn 121 [(.ptr 2 0)])] [(.arr 1 (List.map Zb m0_0)),(.cells [(.d (Zb m1_0))]),(.cells [(.d (Zb m2_0)),(.d (Zb m2_1)),(.d (D.list t0 (List.map ZY m2_2))),(.d (D.list t1 (List.map Zw m2_3))),(.d (D.list t2 (List.map Zn m2_4))),(.d (D.list t3 (List.map Zu m2_5)))])]=some ((Zcb t0 t1 t2 t3 b c d m0_0 m1_0 m2_0 m2_1 m2_2 m2_3 m2_4 m2_5) r):=by
 show ZX _ (fun r rhs=>rhs=some ((Zcb t0 t1 t2 t3 b c d m0_0 m1_0 m2_0 m2_1 m2_2 m2_3 m2_4 m2_5) r)) _
 unfold ZaI
 rw[ZeZ ctx 165 ZsG _ _ rfl rfl]
 conv=>arg 3; whnf
 refine Zc _ ZaZ fun x0 hx0=>?_
 conv=>arg 3; whnf
 refine Zc _ ZaZ fun x1 hx1=>?_
 conv=>arg 3; whnf
 refine Zc _ ZaZ fun x2 hx2=>?_
 conv=>arg 3; whnf
 exact Zg rfl
def Zbr (t0:Bool) (t1:Bool) (t2:Bool) (t3:Bool) (b:Int) (m0_0:(List Int)) (m1_0:Int) (m2_0:Int) (m2_1:Int) (m2_2:(List ZV)) (m2_3:(List Zm)) (m2_4:(List Zi)) (m2_5:(List Zq)):(Int×Int)→V×Zl
  | r=>((.d (Zb r.1)),[(.arr 1 (List.map Zb m0_0)),(.cells [(.d (Zb r.2))]),(.cells [(.d (Zb m2_0)),(.d (Zb m2_1)),(.d (D.list t0 (List.map ZY m2_2))),(.d (D.list t1 (List.map Zw m2_3))),(.d (D.list t2 (List.map Zn m2_4))),(.d (D.list t3 (List.map Zu m2_5)))])])
theorem Zaz {t0:Bool} {t1:Bool} {t2:Bool} {t3:Bool} {b:Int} {m0_0:(List Int)} {m1_0:Int} {m2_0:Int} {m2_1:Int} {m2_2:(List ZV)} {m2_3:(List Zm)} {m2_4:(List Zi)} {m2_5:(List Zq)}:∀r,(Z4 b (fun z0 z1=>Zr z0 z1 m2_4) m0_0 m1_0)=some r→evW ctx 164 [(.sl 0 1),(.d (Zb b)),(.ptr 1 0),(.fn 121 [(.ptr 2 0)])] [(.arr 1 (List.map Zb m0_0)),(.cells [(.d (Zb m1_0))]),(.cells [(.d (Zb m2_0)),(.d (Zb m2_1)),(.d (D.list t0 (List.map ZY m2_2))),(.d (D.list t1 (List.map Zw m2_3))),(.d (D.list t2 (List.map Zn m2_4))),(.d (D.list t3 (List.map Zu m2_5)))])]=some ((Zbr t0 t1 t2 t3 b m0_0 m1_0 m2_0 m2_1 m2_2 m2_3 m2_4 m2_5) r):=by
 show ZX _ (fun r rhs=>rhs=some ((Zbr t0 t1 t2 t3 b m0_0 m1_0 m2_0 m2_1 m2_2 m2_3 m2_4 m2_5) r)) _
 unfold Z4
 rw[ZeZ ctx 164 Zuj _ _ rfl rfl]
 conv=>arg 3; whnf
 refine Zc _ Za0 fun x0 hx0=>?_
 conv=>arg 3; whnf
 exact Zg rfl
def ZbI (t0:Bool) (t1:Bool) (t2:Bool) (t3:Bool) (b:Int) (c:Int) (m0_0:(List Int)) (m1_0:Int) (m1_1:Int) (m1_2:(List ZV)) (m1_3:(List Zm)) (m1_4:(List Zi)) (m1_5:(List Zq)):(Int×Int)→V×Zl
  | r=>((.d (D.tup [(Zb r.1),(Zb r.2)])),[(.arr 1 (List.map Zb m0_0)),(.cells [(.d (Zb m1_0)),(.d (Zb m1_1)),(.d (D.list t0 (List.map ZY m1_2))),(.d (D.list t1 (List.map Zw m1_3))),(.d (D.list t2 (List.map Zn m1_4))),(.d (D.list t3 (List.map Zu m1_5)))])])
theorem Zad {t0:Bool} {t1:Bool} {t2:Bool} {t3:Bool} {b:Int} {c:Int} {m0_0:(List Int)} {m1_0:Int} {m1_1:Int} {m1_2:(List ZV)} {m1_3:(List Zm)} {m1_4:(List Zi)} {m1_5:(List Zq)}:∀r,(ZL b c (fun z0 z1=>Zr z0 z1 m1_4) m0_0)=some r→evW ctx 145 [(.sl 0 1),(.d (Zb b)),(.d (Zb c)),(.fn 121 [(.ptr 1 0)])] [(.arr 1 (List.map Zb m0_0)),(.cells [(.d (Zb m1_0)),(.d (Zb m1_1)),(.d (D.list t0 (List.map ZY m1_2))),(.d (D.list t1 (List.map Zw m1_3))),(.d (D.list t2 (List.map Zn m1_4))),(.d (D.list t3 (List.map Zu m1_5)))])]=some ((ZbI t0 t1 t2 t3 b c m0_0 m1_0 m1_1 m1_2 m1_3 m1_4 m1_5) r):=by
 show ZX _ (fun r rhs=>rhs=some ((ZbI t0 t1 t2 t3 b c m0_0 m1_0 m1_1 m1_2 m1_3 m1_4 m1_5) r)) _
 unfold ZL
 rw[ZeZ ctx 145 ZsN _ _ rfl rfl]
 conv=>arg 3; whnf
 refine Zah rfl ?_
 conv=>arg 3; whnf
 refine Zah rfl ?_
 conv=>arg 3; whnf
 refine Zah rfl ?_
 conv=>arg 3; whnf
 refine Ze rfl ?_ ?_
 ·conv=>arg 3; whnf
  refine Ze rfl ?_ ?_
  ·conv=>arg 3; whnf
   refine Zc _ Zaz fun x0 hx0=>?_
   conv=>arg 3; whnf
   refine Zc _ Zaz fun x1 hx1=>?_
   conv=>arg 3; whnf
   refine Zc _ Zaz fun x2 hx2=>?_
   conv=>arg 3; whnf
   refine Zc _ Za0 fun x3 hx3=>?_
   conv=>arg 3; whnf
   refine Ze rfl ?_ ?_
   ·conv=>arg 3; whnf
    exact Zg rfl
   ·conv=>arg 3; whnf
    refine Ze rfl ?_ ?_
    ·conv=>arg 3; whnf
     exact Zg rfl
    ·conv=>arg 3; whnf
     exact Zg rfl
  ·conv=>arg 3; whnf
   refine Zc _ Za0 fun x4 hx4=>?_
   conv=>arg 3; whnf
   refine Ze rfl ?_ ?_
   ·conv=>arg 3; whnf
    exact Zg rfl
   ·conv=>arg 3; whnf
    refine Ze rfl ?_ ?_
    ·conv=>arg 3; whnf
     exact Zg rfl
    ·conv=>arg 3; whnf
     exact Zg rfl
 ·conv=>arg 3; whnf
  refine Zcl rfl ?_
  conv=>arg 3; whnf
  exact Zg rfl
def Zbz (t0:Bool) (t1:Bool) (t2:Bool) (t3:Bool) (b:Int) (c:Int) (m0_0:(List Int)) (m1_0:Int) (m1_1:Int) (m1_2:(List ZV)) (m1_3:(List Zm)) (m1_4:(List Zi)) (m1_5:(List Zq)):(List Int)→V×Zl
  | r=>((.d (D.tup [])),[(.arr 1 (List.map Zb r)),(.cells [(.d (Zb m1_0)),(.d (Zb m1_1)),(.d (D.list t0 (List.map ZY m1_2))),(.d (D.list t1 (List.map Zw m1_3))),(.d (D.list t2 (List.map Zn m1_4))),(.d (D.list t3 (List.map Zu m1_5)))])])
def Zbm (t0:Bool) (t1:Bool) (t2:Bool) (t3:Bool) (m1_0:Int) (m1_1:Int) (m1_2:(List ZV)) (m1_3:(List Zm)) (m1_4:(List Zi)) (m1_5:(List Zq)):(List Int)→Ex×List V×Zl
  | r=>(.exit 0,[],[(.arr 1 (List.map Zb r)),(.cells [(.d (Zb m1_0)),(.d (Zb m1_1)),(.d (D.list t0 (List.map ZY m1_2))),(.d (D.list t1 (List.map Zw m1_3))),(.d (D.list t2 (List.map Zn m1_4))),(.d (D.list t3 (List.map Zu m1_5)))])])
theorem ZcP {t0:Bool} {t1:Bool} {t2:Bool} {t3:Bool} {m1_0:Int} {m1_1:Int} {m1_2:(List ZV)} {m1_3:(List Zm)} {m1_4:(List Zi)} {m1_5:(List Zq)}:∀(s0:Int×Int×(List Int)) (r:(List Int)),lp (Z0) s0=some r→lpW ctx 2 [0,8,9] [] ZqK [(.sl 0 1),(.d (Zb s0.1)),(.d (Zb s0.2.1))] [(.arr 1 (List.map Zb s0.2.2)),(.cells [(.d (Zb m1_0)),(.d (Zb m1_1)),(.d (D.list t0 (List.map ZY m1_2))),(.d (D.list t1 (List.map Zw m1_3))),(.d (D.list t2 (List.map Zn m1_4))),(.d (D.list t3 (List.map Zu m1_5)))])]=some ((Zbm t0 t1 t2 t3 m1_0 m1_1 m1_2 m1_3 m1_4 m1_5) r):=by
 refine Za7 (Zbm t0 t1 t2 t3 m1_0 m1_1 m1_2 m1_3 m1_4 m1_5) ?_
 intro s0 rcl ih
 show ZX _ _ (lpW _ _ _ _ _ _ _)
 unfold Z0
 rw[Za8]
 conv=>arg 3; whnf
 refine Ze rfl ?_ ?_
 ·conv=>arg 3; whnf
  refine Zk rfl rfl fun x1 hx1=>?_
  conv=>arg 3; whnf
  refine Zf (Zz rfl hx1) ?_
  conv=>arg 3; whnf
  refine Zk rfl rfl fun x2 hx2=>?_
  conv=>arg 3; whnf
  refine Zf (Zz rfl hx2) ?_
  conv=>arg 3; whnf
  refine Zf (ZbM rfl hx2) ?_
  conv=>arg 3; whnf
  refine Zf (Zz rfl hx2) ?_
  conv=>arg 3; whnf
  refine Zs (ZaK Zb s0.2.2 s0.1.toNat x1) ?_
  conv=>arg 3; whnf
  refine Zk rfl rfl fun x3 hx3=>?_
  conv=>arg 3; whnf
  refine Zf (Zz rfl hx3) ?_
  conv=>arg 3; whnf
  refine Zs (ZaK Zb (List.set s0.2.2 s0.1.toNat x1) s0.2.1.toNat x2) ?_
  conv=>arg 3; whnf
  exact Zd (ih _)
 ·conv=>arg 3; whnf
  exact Zg rfl
theorem Zac {t0:Bool} {t1:Bool} {t2:Bool} {t3:Bool} {b:Int} {c:Int} {m0_0:(List Int)} {m1_0:Int} {m1_1:Int} {m1_2:(List ZV)} {m1_3:(List Zm)} {m1_4:(List Zi)} {m1_5:(List Zq)}:∀r,(ZJ b c (fun z0 z1=>Zr z0 z1 m1_4) m0_0)=some r→evW ctx 146 [(.sl 0 1),(.d (Zb b)),(.d (Zb c)),(.fn 121 [(.ptr 1 0)])] [(.arr 1 (List.map Zb m0_0)),(.cells [(.d (Zb m1_0)),(.d (Zb m1_1)),(.d (D.list t0 (List.map ZY m1_2))),(.d (D.list t1 (List.map Zw m1_3))),(.d (D.list t2 (List.map Zn m1_4))),(.d (D.list t3 (List.map Zu m1_5)))])]=some ((Zbz t0 t1 t2 t3 b c m0_0 m1_0 m1_1 m1_2 m1_3 m1_4 m1_5) r):=by
 show ZX _ (fun r rhs=>rhs=some ((Zbz t0 t1 t2 t3 b c m0_0 m1_0 m1_1 m1_2 m1_3 m1_4 m1_5) r)) _
 unfold ZJ
 rw[ZeZ ctx 146 Zuk _ _ rfl rfl]
 conv=>arg 3; whnf
 refine Zc _ (ZcP _) fun r4 hr4=>?_
 conv=>arg 3; whnf
 exact Zg rfl
def Za3 (t0:Bool) (t1:Bool) (t2:Bool) (t3:Bool) (b:Int) (c:Int) (m0_0:(List Int)) (m1_0:Int) (m1_1:Int) (m1_2:(List ZV)) (m1_3:(List Zm)) (m1_4:(List Zi)) (m1_5:(List Zq)):((List Int)⊕(List Int))→V×Zl
  | (.inl r)=>((.d (D.bool true)),[(.arr 1 (List.map Zb r)),(.cells [(.d (Zb m1_0)),(.d (Zb m1_1)),(.d (D.list t0 (List.map ZY m1_2))),(.d (D.list t1 (List.map Zw m1_3))),(.d (D.list t2 (List.map Zn m1_4))),(.d (D.list t3 (List.map Zu m1_5)))])])
  | (.inr r)=>((.d (D.bool false)),[(.arr 1 (List.map Zb r)),(.cells [(.d (Zb m1_0)),(.d (Zb m1_1)),(.d (D.list t0 (List.map ZY m1_2))),(.d (D.list t1 (List.map Zw m1_3))),(.d (D.list t2 (List.map Zn m1_4))),(.d (D.list t3 (List.map Zu m1_5)))])])
def ZaW (t0:Bool) (t1:Bool) (t2:Bool) (t3:Bool) (b:Int) (c:Int) (m1_0:Int) (m1_1:Int) (m1_2:(List ZV)) (m1_3:(List Zm)) (m1_4:(List Zi)) (m1_5:(List Zq)) (s0:Int×Int×(List Int)):Int→Ex×List V×Zl
  | r=>(.exit 2,[(.sl 0 1),(.d (Zb b)),(.d (Zb c)),(.fn 121 [(.ptr 1 0)]),(.d (Zb r)),(.d (Zb s0.2.1))],[(.arr 1 (List.map Zb s0.2.2)),(.cells [(.d (Zb m1_0)),(.d (Zb m1_1)),(.d (D.list t0 (List.map ZY m1_2))),(.d (D.list t1 (List.map Zw m1_3))),(.d (D.list t2 (List.map Zn m1_4))),(.d (D.list t3 (List.map Zu m1_5)))])])
theorem Zci {t0:Bool} {t1:Bool} {t2:Bool} {t3:Bool} {b:Int} {c:Int} {m1_0:Int} {m1_1:Int} {m1_2:(List ZV)} {m1_3:(List Zm)} {m1_4:(List Zi)} {m1_5:(List Zq)} {s0:Int×Int×(List Int)}:∀(s1:Int) (r:Int),lp (ZI c (fun z0 z1=>Zr z0 z1 m1_4) s0) s1=some r→lpW ctx 2 [0,1,2,3,9,10] [0,1,2,3,9,10] ZqB [(.sl 0 1),(.d (Zb b)),(.d (Zb c)),(.fn 121 [(.ptr 1 0)]),(.d (Zb s1)),(.d (Zb s0.2.1))] [(.arr 1 (List.map Zb s0.2.2)),(.cells [(.d (Zb m1_0)),(.d (Zb m1_1)),(.d (D.list t0 (List.map ZY m1_2))),(.d (D.list t1 (List.map Zw m1_3))),(.d (D.list t2 (List.map Zn m1_4))),(.d (D.list t3 (List.map Zu m1_5)))])]=some ((ZaW t0 t1 t2 t3 b c m1_0 m1_1 m1_2 m1_3 m1_4 m1_5 s0) r):=by
 refine Za7 (ZaW t0 t1 t2 t3 b c m1_0 m1_1 m1_2 m1_3 m1_4 m1_5 s0) ?_
 intro s1 rcl ih
 show ZX _ _ (lpW _ _ _ _ _ _ _)
 unfold ZI
 rw[Za8]
 conv=>arg 3; whnf
 refine Ze rfl ?_ ?_
 ·conv=>arg 3; whnf
  refine Zk rfl rfl fun x2 hx2=>?_
  conv=>arg 3; whnf
  refine Zf (Zz rfl hx2) ?_
  conv=>arg 3; whnf
  refine Zk rfl rfl fun x3 hx3=>?_
  conv=>arg 3; whnf
  refine Zf (Zz rfl hx3) ?_
  conv=>arg 3; whnf
  refine ZA _ ZD rfl fun x4 hx4=>?_
  conv=>arg 3; whnf
  refine Ze rfl ?_ ?_
  ·conv=>arg 3; whnf
   exact Zg rfl
  ·conv=>arg 3; whnf
   exact Zd (ih _)
 ·conv=>arg 3; whnf
  exact Zg rfl
def ZaT (t0:Bool) (t1:Bool) (t2:Bool) (t3:Bool) (b:Int) (c:Int) (m1_0:Int) (m1_1:Int) (m1_2:(List ZV)) (m1_3:(List Zm)) (m1_4:(List Zi)) (m1_5:(List Zq)) (s0:Int×Int×(List Int)) (r5:Int):(List Int)→Ex×List V×Zl
  | r=>(.exit 4,[(.sl 0 1),(.d (Zb b)),(.d (Zb c)),(.fn 121 [(.ptr 1 0)]),(.d (Zb r5)),(.d (Zb s0.2.1))],[(.arr 1 (List.map Zb r)),(.cells [(.d (Zb m1_0)),(.d (Zb m1_1)),(.d (D.list t0 (List.map ZY m1_2))),(.d (D.list t1 (List.map Zw m1_3))),(.d (D.list t2 (List.map Zn m1_4))),(.d (D.list t3 (List.map Zu m1_5)))])])
theorem Zch {t0:Bool} {t1:Bool} {t2:Bool} {t3:Bool} {b:Int} {c:Int} {m1_0:Int} {m1_1:Int} {m1_2:(List ZV)} {m1_3:(List Zm)} {m1_4:(List Zi)} {m1_5:(List Zq)} {s0:Int×Int×(List Int)} {r5:Int}:∀(s9:Int×(List Int)) (r:(List Int)),lp (ZP (fun z0 z1=>Zr z0 z1 m1_4)) s9=some r→lpW ctx 2 [0,1,2,3,9,10,11] [0,1,2,3,9,10] Zq9 [(.sl 0 1),(.d (Zb b)),(.d (Zb c)),(.fn 121 [(.ptr 1 0)]),(.d (Zb r5)),(.d (Zb s0.2.1)),(.d (Zb s9.1))] [(.arr 1 (List.map Zb s9.2)),(.cells [(.d (Zb m1_0)),(.d (Zb m1_1)),(.d (D.list t0 (List.map ZY m1_2))),(.d (D.list t1 (List.map Zw m1_3))),(.d (D.list t2 (List.map Zn m1_4))),(.d (D.list t3 (List.map Zu m1_5)))])]=some ((ZaT t0 t1 t2 t3 b c m1_0 m1_1 m1_2 m1_3 m1_4 m1_5 s0 r5) r):=by
 refine Za7 (ZaT t0 t1 t2 t3 b c m1_0 m1_1 m1_2 m1_3 m1_4 m1_5 s0 r5) ?_
 intro s9 rcl ih
 show ZX _ _ (lpW _ _ _ _ _ _ _)
 unfold ZP
 rw[Za8]
 conv=>arg 3; whnf
 refine Ze rfl ?_ ?_
 ·conv=>arg 3; whnf
  refine Zk rfl rfl fun x10 hx10=>?_
  conv=>arg 3; whnf
  refine Zf (Zz rfl hx10) ?_
  conv=>arg 3; whnf
  refine Zk rfl rfl fun x11 hx11=>?_
  conv=>arg 3; whnf
  refine Zf (Zz rfl hx11) ?_
  conv=>arg 3; whnf
  refine ZA _ ZD rfl fun x12 hx12=>?_
  conv=>arg 3; whnf
  refine Ze rfl ?_ ?_
  ·conv=>arg 3; whnf
   refine Zf (ZbM rfl hx11) ?_
   conv=>arg 3; whnf
   refine Zf (Zz rfl hx11) ?_
   conv=>arg 3; whnf
   refine Zf (ZbM rfl hx10) ?_
   conv=>arg 3; whnf
   refine Zf (Zz rfl hx10) ?_
   conv=>arg 3; whnf
   refine Zf (ZbM rfl hx10) ?_
   conv=>arg 3; whnf
   refine Zf (Zz rfl hx10) ?_
   conv=>arg 3; whnf
   refine Zs (ZaK Zb s9.2 s9.1.toNat x11) ?_
   conv=>arg 3; whnf
   refine Zk rfl rfl fun x13 hx13=>?_
   conv=>arg 3; whnf
   refine Zf (Zz rfl hx13) ?_
   conv=>arg 3; whnf
   refine Zs (ZaK Zb (List.set s9.2 s9.1.toNat x11) (w64 (s9.1-1)).toNat x10) ?_
   conv=>arg 3; whnf
   exact Zd (ih _)
  ·conv=>arg 3; whnf
   exact Zg rfl
 ·conv=>arg 3; whnf
  exact Zg rfl
def ZaU (t0:Bool) (t1:Bool) (t2:Bool) (t3:Bool) (b:Int) (c:Int) (m1_0:Int) (m1_1:Int) (m1_2:(List ZV)) (m1_3:(List Zm)) (m1_4:(List Zi)) (m1_5:(List Zq)) (s0:Int×Int×(List Int)) (r5:Int):(List Int)→Ex×List V×Zl
  | r=>(.exit 6,[(.sl 0 1),(.d (Zb b)),(.d (Zb c)),(.fn 121 [(.ptr 1 0)]),(.d (Zb r5)),(.d (Zb s0.2.1))],[(.arr 1 (List.map Zb r)),(.cells [(.d (Zb m1_0)),(.d (Zb m1_1)),(.d (D.list t0 (List.map ZY m1_2))),(.d (D.list t1 (List.map Zw m1_3))),(.d (D.list t2 (List.map Zn m1_4))),(.d (D.list t3 (List.map Zu m1_5)))])])
theorem ZaR {t0:Bool} {t1:Bool} {t2:Bool} {t3:Bool} {b:Int} {c:Int} {m1_0:Int} {m1_1:Int} {m1_2:(List ZV)} {m1_3:(List Zm)} {m1_4:(List Zi)} {m1_5:(List Zq)} {s0:Int×Int×(List Int)} {r5:Int}:∀(s15:Int×(List Int)) (r:(List Int)),lp (ZE c (fun z0 z1=>Zr z0 z1 m1_4)) s15=some r→lpW ctx 2 [0,1,2,3,9,10,12] [0,1,2,3,9,10] Zrg [(.sl 0 1),(.d (Zb b)),(.d (Zb c)),(.fn 121 [(.ptr 1 0)]),(.d (Zb r5)),(.d (Zb s0.2.1)),(.d (Zb s15.1))] [(.arr 1 (List.map Zb s15.2)),(.cells [(.d (Zb m1_0)),(.d (Zb m1_1)),(.d (D.list t0 (List.map ZY m1_2))),(.d (D.list t1 (List.map Zw m1_3))),(.d (D.list t2 (List.map Zn m1_4))),(.d (D.list t3 (List.map Zu m1_5)))])]=some ((ZaU t0 t1 t2 t3 b c m1_0 m1_1 m1_2 m1_3 m1_4 m1_5 s0 r5) r):=by
 refine Za7 (ZaU t0 t1 t2 t3 b c m1_0 m1_1 m1_2 m1_3 m1_4 m1_5 s0 r5) ?_
 intro s15 rcl ih
 show ZX _ _ (lpW _ _ _ _ _ _ _)
 unfold ZE
 rw[Za8]
 conv=>arg 3; whnf
 refine Ze rfl ?_ ?_
 ·conv=>arg 3; whnf
  refine Zk rfl rfl fun x16 hx16=>?_
  conv=>arg 3; whnf
  refine Zf (Zz rfl hx16) ?_
  conv=>arg 3; whnf
  refine Zk rfl rfl fun x17 hx17=>?_
  conv=>arg 3; whnf
  refine Zf (Zz rfl hx17) ?_
  conv=>arg 3; whnf
  refine ZA _ ZD rfl fun x18 hx18=>?_
  conv=>arg 3; whnf
  refine Ze rfl ?_ ?_
  ·conv=>arg 3; whnf
   refine Zf (ZbM rfl hx17) ?_
   conv=>arg 3; whnf
   refine Zf (Zz rfl hx17) ?_
   conv=>arg 3; whnf
   refine Zf (ZbM rfl hx16) ?_
   conv=>arg 3; whnf
   refine Zf (Zz rfl hx16) ?_
   conv=>arg 3; whnf
   refine Zf (ZbM rfl hx16) ?_
   conv=>arg 3; whnf
   refine Zf (Zz rfl hx16) ?_
   conv=>arg 3; whnf
   refine Zs (ZaK Zb s15.2 s15.1.toNat x17) ?_
   conv=>arg 3; whnf
   refine Zk rfl rfl fun x19 hx19=>?_
   conv=>arg 3; whnf
   refine Zf (Zz rfl hx19) ?_
   conv=>arg 3; whnf
   refine Zs (ZaK Zb (List.set s15.2 s15.1.toNat x17) (w64 (s15.1-1)).toNat x16) ?_
   conv=>arg 3; whnf
   exact Zd (ih _)
  ·conv=>arg 3; whnf
   exact Zg rfl
 ·conv=>arg 3; whnf
  exact Zg rfl
def ZaV (t0:Bool) (t1:Bool) (t2:Bool) (t3:Bool) (b:Int) (c:Int) (m1_0:Int) (m1_1:Int) (m1_2:(List ZV)) (m1_3:(List Zm)) (m1_4:(List Zi)) (m1_5:(List Zq)):((List Int)⊕((List Int)⊕(List Int)))→Ex×List V×Zl
  | (.inl r)=>(.ret,[(.d (D.bool true))],[(.arr 1 (List.map Zb r)),(.cells [(.d (Zb m1_0)),(.d (Zb m1_1)),(.d (D.list t0 (List.map ZY m1_2))),(.d (D.list t1 (List.map Zw m1_3))),(.d (D.list t2 (List.map Zn m1_4))),(.d (D.list t3 (List.map Zu m1_5)))])])
  | (.inr (.inl r))=>(.ret,[(.d (D.bool false))],[(.arr 1 (List.map Zb r)),(.cells [(.d (Zb m1_0)),(.d (Zb m1_1)),(.d (D.list t0 (List.map ZY m1_2))),(.d (D.list t1 (List.map Zw m1_3))),(.d (D.list t2 (List.map Zn m1_4))),(.d (D.list t3 (List.map Zu m1_5)))])])
  | (.inr (.inr r))=>(.exit 0,[.bad],[(.arr 1 (List.map Zb r)),(.cells [(.d (Zb m1_0)),(.d (Zb m1_1)),(.d (D.list t0 (List.map ZY m1_2))),(.d (D.list t1 (List.map Zw m1_3))),(.d (D.list t2 (List.map Zn m1_4))),(.d (D.list t3 (List.map Zu m1_5)))])])
theorem Zck {t0:Bool} {t1:Bool} {t2:Bool} {t3:Bool} {b:Int} {c:Int} {m1_0:Int} {m1_1:Int} {m1_2:(List ZV)} {m1_3:(List Zm)} {m1_4:(List Zi)} {m1_5:(List Zq)}:∀(s0:Int×Int×(List Int)) (r:((List Int)⊕((List Int)⊕(List Int)))),lp (ZO b c (fun z0 z1=>Zr z0 z1 m1_4)) s0=some r→lpW ctx 2 [0,1,2,3,9,10] [8] Zra [(.sl 0 1),(.d (Zb b)),(.d (Zb c)),(.fn 121 [(.ptr 1 0)]),(.d (Zb s0.1)),(.d (Zb s0.2.1))] [(.arr 1 (List.map Zb s0.2.2)),(.cells [(.d (Zb m1_0)),(.d (Zb m1_1)),(.d (D.list t0 (List.map ZY m1_2))),(.d (D.list t1 (List.map Zw m1_3))),(.d (D.list t2 (List.map Zn m1_4))),(.d (D.list t3 (List.map Zu m1_5)))])]=some ((ZaV t0 t1 t2 t3 b c m1_0 m1_1 m1_2 m1_3 m1_4 m1_5) r):=by
 refine Za7 (ZaV t0 t1 t2 t3 b c m1_0 m1_1 m1_2 m1_3 m1_4 m1_5) ?_
 intro s0 rcl ih
 show ZX _ _ (lpW _ _ _ _ _ _ _)
 unfold ZO
 rw[Za8]
 conv=>arg 3; whnf
 refine Ze rfl ?_ ?_
 ·conv=>arg 3; whnf
  refine Zc _ (Zci _) fun r5 hr5=>?_
  conv=>arg 3; whnf
  refine Ze rfl ?_ ?_
  ·conv=>arg 3; whnf
   exact Zg rfl
  ·conv=>arg 3; whnf
   refine Ze rfl ?_ ?_
   ·conv=>arg 3; whnf
    exact Zg rfl
   ·conv=>arg 3; whnf
    refine Zk rfl rfl fun x6 hx6=>?_
    conv=>arg 3; whnf
    refine Zf (Zz rfl hx6) ?_
    conv=>arg 3; whnf
    refine Zk rfl rfl fun x7 hx7=>?_
    conv=>arg 3; whnf
    refine Zf (Zz rfl hx7) ?_
    conv=>arg 3; whnf
    refine Zf (ZbM rfl hx7) ?_
    conv=>arg 3; whnf
    refine Zf (Zz rfl hx7) ?_
    conv=>arg 3; whnf
    refine Zs (ZaK Zb s0.2.2 r5.toNat x6) ?_
    conv=>arg 3; whnf
    refine Zk rfl rfl fun x8 hx8=>?_
    conv=>arg 3; whnf
    refine Zf (Zz rfl hx8) ?_
    conv=>arg 3; whnf
    refine Zs (ZaK Zb (List.set s0.2.2 r5.toNat x6) (w64 (r5-1)).toNat x7) ?_
    conv=>arg 3; whnf
    refine Ze rfl ?_ ?_
    ·conv=>arg 3; whnf
     refine Zc _ (Zch _) fun r14 hr14=>?_
     conv=>arg 3; whnf
     refine Ze rfl ?_ ?_
     ·conv=>arg 3; whnf
      refine Zc _ (ZaR _) fun r20 hr20=>?_
      conv=>arg 3; whnf
      exact Zd (ih _)
     ·conv=>arg 3; whnf
      exact Zd (ih _)
    ·conv=>arg 3; whnf
     refine Ze rfl ?_ ?_
     ·conv=>arg 3; whnf
      refine Zc _ (ZaR _) fun r26 hr26=>?_
      conv=>arg 3; whnf
      exact Zd (ih _)
     ·conv=>arg 3; whnf
      exact Zd (ih _)
 ·conv=>arg 3; whnf
  exact Zg rfl
theorem Za1 {t0:Bool} {t1:Bool} {t2:Bool} {t3:Bool} {b:Int} {c:Int} {m0_0:(List Int)} {m1_0:Int} {m1_1:Int} {m1_2:(List ZV)} {m1_3:(List Zm)} {m1_4:(List Zi)} {m1_5:(List Zq)}:∀r,(ZM b c (fun z0 z1=>Zr z0 z1 m1_4) m0_0)=some r→evW ctx 147 [(.sl 0 1),(.d (Zb b)),(.d (Zb c)),(.fn 121 [(.ptr 1 0)])] [(.arr 1 (List.map Zb m0_0)),(.cells [(.d (Zb m1_0)),(.d (Zb m1_1)),(.d (D.list t0 (List.map ZY m1_2))),(.d (D.list t1 (List.map Zw m1_3))),(.d (D.list t2 (List.map Zn m1_4))),(.d (D.list t3 (List.map Zu m1_5)))])]=some ((Za3 t0 t1 t2 t3 b c m0_0 m1_0 m1_1 m1_2 m1_3 m1_4 m1_5) r):=by
 show ZX _ (fun r rhs=>rhs=some ((Za3 t0 t1 t2 t3 b c m0_0 m1_0 m1_1 m1_2 m1_3 m1_4 m1_5) r)) _
 unfold ZM
 rw[ZeZ ctx 147 Zs3 _ _ rfl rfl]
 conv=>arg 3; whnf
 refine Zc _ (Zck _) fun r27 hr27=>?_
 clear hr27
 rcases r27 with r27 | (r27 | r27)
 ·conv=>arg 3; whnf
  exact Zg rfl
 ·conv=>arg 3; whnf
  exact Zg rfl
 ·conv=>arg 3; whnf
  exact Zg rfl
def ZbU (t0:Bool) (t1:Bool) (t2:Bool) (t3:Bool) (b:Int) (c:Int) (d:Int) (m0_0:(List Int)) (m1_0:Int) (m1_1:Int) (m1_2:(List ZV)) (m1_3:(List Zm)) (m1_4:(List Zi)) (m1_5:(List Zq)):((Int×(List Int))⊕(Int×(List Int)))→V×Zl
  | (.inl r)=>((.d (D.tup [(Zb r.1),(D.bool true)])),[(.arr 1 (List.map Zb r.2)),(.cells [(.d (Zb m1_0)),(.d (Zb m1_1)),(.d (D.list t0 (List.map ZY m1_2))),(.d (D.list t1 (List.map Zw m1_3))),(.d (D.list t2 (List.map Zn m1_4))),(.d (D.list t3 (List.map Zu m1_5)))])])
  | (.inr r)=>((.d (D.tup [(Zb r.1),(D.bool false)])),[(.arr 1 (List.map Zb r.2)),(.cells [(.d (Zb m1_0)),(.d (Zb m1_1)),(.d (D.list t0 (List.map ZY m1_2))),(.d (D.list t1 (List.map Zw m1_3))),(.d (D.list t2 (List.map Zn m1_4))),(.d (D.list t3 (List.map Zu m1_5)))])])
def ZbF (t0:Bool) (t1:Bool) (t2:Bool) (t3:Bool) (b:Int) (c:Int) (d:Int) (m0_0:(List Int)) (m1_0:Int) (m1_1:Int) (m1_2:(List ZV)) (m1_3:(List Zm)) (m1_4:(List Zi)) (m1_5:(List Zq)) (x0:Int) (x1:Int):Int→Ex×List V×Zl
  | r=>(.exit 0,[(.sl 0 1),(.d (Zb b)),(.fn 121 [(.ptr 1 0)]),(.d (Zb r)),(.d (Zb (w64 (c-1))))],[(.arr 1 (List.map Zb (List.set (List.set m0_0 b.toNat x0) d.toNat x1))),(.cells [(.d (Zb m1_0)),(.d (Zb m1_1)),(.d (D.list t0 (List.map ZY m1_2))),(.d (D.list t1 (List.map Zw m1_3))),(.d (D.list t2 (List.map Zn m1_4))),(.d (D.list t3 (List.map Zu m1_5)))])])
theorem Zdd {t0:Bool} {t1:Bool} {t2:Bool} {t3:Bool} {b:Int} {c:Int} {d:Int} {m0_0:(List Int)} {m1_0:Int} {m1_1:Int} {m1_2:(List ZV)} {m1_3:(List Zm)} {m1_4:(List Zi)} {m1_5:(List Zq)} {x0:Int} {x1:Int}:∀(s3:Int) (r:Int),lp (Zat b c d m0_0 (fun z0 z1=>Zr z0 z1 m1_4) x0 x1) s3=some r→lpW ctx 2 [0,1,4,12,13] [0,1,4,12,13] Zrl [(.sl 0 1),(.d (Zb b)),(.fn 121 [(.ptr 1 0)]),(.d (Zb s3)),(.d (Zb (w64 (c-1))))] [(.arr 1 (List.map Zb (List.set (List.set m0_0 b.toNat x0) d.toNat x1))),(.cells [(.d (Zb m1_0)),(.d (Zb m1_1)),(.d (D.list t0 (List.map ZY m1_2))),(.d (D.list t1 (List.map Zw m1_3))),(.d (D.list t2 (List.map Zn m1_4))),(.d (D.list t3 (List.map Zu m1_5)))])]=some ((ZbF t0 t1 t2 t3 b c d m0_0 m1_0 m1_1 m1_2 m1_3 m1_4 m1_5 x0 x1) r):=by
 refine Za7 (ZbF t0 t1 t2 t3 b c d m0_0 m1_0 m1_1 m1_2 m1_3 m1_4 m1_5 x0 x1) ?_
 intro s3 rcl ih
 show ZX _ _ (lpW _ _ _ _ _ _ _)
 unfold Zat
 rw[Za8]
 conv=>arg 3; whnf
 refine Ze rfl ?_ ?_
 ·conv=>arg 3; whnf
  refine Zk rfl rfl fun x4 hx4=>?_
  conv=>arg 3; whnf
  refine Zf (Zz rfl hx4) ?_
  conv=>arg 3; whnf
  refine Zk rfl rfl fun x5 hx5=>?_
  conv=>arg 3; whnf
  refine Zf (Zz rfl hx5) ?_
  conv=>arg 3; whnf
  refine ZA _ ZD rfl fun x6 hx6=>?_
  conv=>arg 3; whnf
  refine Ze rfl ?_ ?_
  ·conv=>arg 3; whnf
   exact Zd (ih _)
  ·conv=>arg 3; whnf
   exact Zg rfl
 ·conv=>arg 3; whnf
  exact Zg rfl
def ZbC (t0:Bool) (t1:Bool) (t2:Bool) (t3:Bool) (b:Int) (d:Int) (m0_0:(List Int)) (m1_0:Int) (m1_1:Int) (m1_2:(List ZV)) (m1_3:(List Zm)) (m1_4:(List Zi)) (m1_5:(List Zq)) (x0:Int) (x1:Int) (r7:Int):Int→Ex×List V×Zl
  | r=>(.exit 2,[(.sl 0 1),(.d (Zb b)),(.fn 121 [(.ptr 1 0)]),(.d (Zb r7)),(.d (Zb r))],[(.arr 1 (List.map Zb (List.set (List.set m0_0 b.toNat x0) d.toNat x1))),(.cells [(.d (Zb m1_0)),(.d (Zb m1_1)),(.d (D.list t0 (List.map ZY m1_2))),(.d (D.list t1 (List.map Zw m1_3))),(.d (D.list t2 (List.map Zn m1_4))),(.d (D.list t3 (List.map Zu m1_5)))])])
theorem Zdc {t0:Bool} {t1:Bool} {t2:Bool} {t3:Bool} {b:Int} {d:Int} {m0_0:(List Int)} {m1_0:Int} {m1_1:Int} {m1_2:(List ZV)} {m1_3:(List Zm)} {m1_4:(List Zi)} {m1_5:(List Zq)} {x0:Int} {x1:Int} {r7:Int}:∀(s8:Int) (r:Int),lp (Zas b d m0_0 (fun z0 z1=>Zr z0 z1 m1_4) x0 x1 r7) s8=some r→lpW ctx 2 [0,1,4,12,13] [0,1,4,12,13] ZqC [(.sl 0 1),(.d (Zb b)),(.fn 121 [(.ptr 1 0)]),(.d (Zb r7)),(.d (Zb s8))] [(.arr 1 (List.map Zb (List.set (List.set m0_0 b.toNat x0) d.toNat x1))),(.cells [(.d (Zb m1_0)),(.d (Zb m1_1)),(.d (D.list t0 (List.map ZY m1_2))),(.d (D.list t1 (List.map Zw m1_3))),(.d (D.list t2 (List.map Zn m1_4))),(.d (D.list t3 (List.map Zu m1_5)))])]=some ((ZbC t0 t1 t2 t3 b d m0_0 m1_0 m1_1 m1_2 m1_3 m1_4 m1_5 x0 x1 r7) r):=by
 refine Za7 (ZbC t0 t1 t2 t3 b d m0_0 m1_0 m1_1 m1_2 m1_3 m1_4 m1_5 x0 x1 r7) ?_
 intro s8 rcl ih
 show ZX _ _ (lpW _ _ _ _ _ _ _)
 unfold Zas
 rw[Za8]
 conv=>arg 3; whnf
 refine Ze rfl ?_ ?_
 ·conv=>arg 3; whnf
  refine Zk rfl rfl fun x9 hx9=>?_
  conv=>arg 3; whnf
  refine Zf (Zz rfl hx9) ?_
  conv=>arg 3; whnf
  refine Zk rfl rfl fun x10 hx10=>?_
  conv=>arg 3; whnf
  refine Zf (Zz rfl hx10) ?_
  conv=>arg 3; whnf
  refine ZA _ ZD rfl fun x11 hx11=>?_
  conv=>arg 3; whnf
  refine Ze rfl ?_ ?_
  ·conv=>arg 3; whnf
   exact Zg rfl
  ·conv=>arg 3; whnf
   exact Zd (ih _)
 ·conv=>arg 3; whnf
  exact Zg rfl
def ZbA (t0:Bool) (t1:Bool) (t2:Bool) (t3:Bool) (b:Int) (m1_0:Int) (m1_1:Int) (m1_2:(List ZV)) (m1_3:(List Zm)) (m1_4:(List Zi)) (m1_5:(List Zq)) (s19:Int×Int×(List Int)):Int→Ex×List V×Zl
  | r=>(.exit 6,[(.sl 0 1),(.d (Zb b)),(.fn 121 [(.ptr 1 0)]),(.d (Zb r)),(.d (Zb s19.2.1))],[(.arr 1 (List.map Zb s19.2.2)),(.cells [(.d (Zb m1_0)),(.d (Zb m1_1)),(.d (D.list t0 (List.map ZY m1_2))),(.d (D.list t1 (List.map Zw m1_3))),(.d (D.list t2 (List.map Zn m1_4))),(.d (D.list t3 (List.map Zu m1_5)))])])
theorem Zdf {t0:Bool} {t1:Bool} {t2:Bool} {t3:Bool} {b:Int} {m1_0:Int} {m1_1:Int} {m1_2:(List ZV)} {m1_3:(List Zm)} {m1_4:(List Zi)} {m1_5:(List Zq)} {s19:Int×Int×(List Int)}:∀(s20:Int) (r:Int),lp (Zau b (fun z0 z1=>Zr z0 z1 m1_4) s19) s20=some r→lpW ctx 2 [0,1,4,12,13] [0,1,4,12,13] ZqU [(.sl 0 1),(.d (Zb b)),(.fn 121 [(.ptr 1 0)]),(.d (Zb s20)),(.d (Zb s19.2.1))] [(.arr 1 (List.map Zb s19.2.2)),(.cells [(.d (Zb m1_0)),(.d (Zb m1_1)),(.d (D.list t0 (List.map ZY m1_2))),(.d (D.list t1 (List.map Zw m1_3))),(.d (D.list t2 (List.map Zn m1_4))),(.d (D.list t3 (List.map Zu m1_5)))])]=some ((ZbA t0 t1 t2 t3 b m1_0 m1_1 m1_2 m1_3 m1_4 m1_5 s19) r):=by
 refine Za7 (ZbA t0 t1 t2 t3 b m1_0 m1_1 m1_2 m1_3 m1_4 m1_5 s19) ?_
 intro s20 rcl ih
 show ZX _ _ (lpW _ _ _ _ _ _ _)
 unfold Zau
 rw[Za8]
 conv=>arg 3; whnf
 refine Ze rfl ?_ ?_
 ·conv=>arg 3; whnf
  refine Zk rfl rfl fun x21 hx21=>?_
  conv=>arg 3; whnf
  refine Zf (Zz rfl hx21) ?_
  conv=>arg 3; whnf
  refine Zk rfl rfl fun x22 hx22=>?_
  conv=>arg 3; whnf
  refine Zf (Zz rfl hx22) ?_
  conv=>arg 3; whnf
  refine ZA _ ZD rfl fun x23 hx23=>?_
  conv=>arg 3; whnf
  refine Ze rfl ?_ ?_
  ·conv=>arg 3; whnf
   exact Zd (ih _)
  ·conv=>arg 3; whnf
   exact Zg rfl
 ·conv=>arg 3; whnf
  exact Zg rfl
def ZbD (t0:Bool) (t1:Bool) (t2:Bool) (t3:Bool) (b:Int) (m1_0:Int) (m1_1:Int) (m1_2:(List ZV)) (m1_3:(List Zm)) (m1_4:(List Zi)) (m1_5:(List Zq)) (s19:Int×Int×(List Int)) (r24:Int):Int→Ex×List V×Zl
  | r=>(.exit 8,[(.sl 0 1),(.d (Zb b)),(.fn 121 [(.ptr 1 0)]),(.d (Zb r24)),(.d (Zb r))],[(.arr 1 (List.map Zb s19.2.2)),(.cells [(.d (Zb m1_0)),(.d (Zb m1_1)),(.d (D.list t0 (List.map ZY m1_2))),(.d (D.list t1 (List.map Zw m1_3))),(.d (D.list t2 (List.map Zn m1_4))),(.d (D.list t3 (List.map Zu m1_5)))])])
theorem Zc9 {t0:Bool} {t1:Bool} {t2:Bool} {t3:Bool} {b:Int} {m1_0:Int} {m1_1:Int} {m1_2:(List ZV)} {m1_3:(List Zm)} {m1_4:(List Zi)} {m1_5:(List Zq)} {s19:Int×Int×(List Int)} {r24:Int}:∀(s25:Int) (r:Int),lp (Zaq b (fun z0 z1=>Zr z0 z1 m1_4) s19 r24) s25=some r→lpW ctx 2 [0,1,4,12,13] [0,1,4,12,13] Zro [(.sl 0 1),(.d (Zb b)),(.fn 121 [(.ptr 1 0)]),(.d (Zb r24)),(.d (Zb s25))] [(.arr 1 (List.map Zb s19.2.2)),(.cells [(.d (Zb m1_0)),(.d (Zb m1_1)),(.d (D.list t0 (List.map ZY m1_2))),(.d (D.list t1 (List.map Zw m1_3))),(.d (D.list t2 (List.map Zn m1_4))),(.d (D.list t3 (List.map Zu m1_5)))])]=some ((ZbD t0 t1 t2 t3 b m1_0 m1_1 m1_2 m1_3 m1_4 m1_5 s19 r24) r):=by
 refine Za7 (ZbD t0 t1 t2 t3 b m1_0 m1_1 m1_2 m1_3 m1_4 m1_5 s19 r24) ?_
 intro s25 rcl ih
 show ZX _ _ (lpW _ _ _ _ _ _ _)
 unfold Zaq
 rw[Za8]
 conv=>arg 3; whnf
 refine Ze rfl ?_ ?_
 ·conv=>arg 3; whnf
  refine Zk rfl rfl fun x26 hx26=>?_
  conv=>arg 3; whnf
  refine Zf (Zz rfl hx26) ?_
  conv=>arg 3; whnf
  refine Zk rfl rfl fun x27 hx27=>?_
  conv=>arg 3; whnf
  refine Zf (Zz rfl hx27) ?_
  conv=>arg 3; whnf
  refine ZA _ ZD rfl fun x28 hx28=>?_
  conv=>arg 3; whnf
  refine Ze rfl ?_ ?_
  ·conv=>arg 3; whnf
   exact Zg rfl
  ·conv=>arg 3; whnf
   exact Zd (ih _)
 ·conv=>arg 3; whnf
  exact Zg rfl
def ZbB (t0:Bool) (t1:Bool) (t2:Bool) (t3:Bool) (b:Int) (m1_0:Int) (m1_1:Int) (m1_2:(List ZV)) (m1_3:(List Zm)) (m1_4:(List Zi)) (m1_5:(List Zq)):(Int×(List Int))→Ex×List V×Zl
  | r=>(.exit 4,[(.sl 0 1),(.d (Zb b)),(.d (Zb r.1))],[(.arr 1 (List.map Zb r.2)),(.cells [(.d (Zb m1_0)),(.d (Zb m1_1)),(.d (D.list t0 (List.map ZY m1_2))),(.d (D.list t1 (List.map Zw m1_3))),(.d (D.list t2 (List.map Zn m1_4))),(.d (D.list t3 (List.map Zu m1_5)))])])
theorem Zde {t0:Bool} {t1:Bool} {t2:Bool} {t3:Bool} {b:Int} {m1_0:Int} {m1_1:Int} {m1_2:(List ZV)} {m1_3:(List Zm)} {m1_4:(List Zi)} {m1_5:(List Zq)}:∀(s19:Int×Int×(List Int)) (r:(Int×(List Int))),lp (ZaS b (fun z0 z1=>Zr z0 z1 m1_4)) s19=some r→lpW ctx 2 [0,1,4,12,13] [0,1,13] ZqY [(.sl 0 1),(.d (Zb b)),(.fn 121 [(.ptr 1 0)]),(.d (Zb s19.1)),(.d (Zb s19.2.1))] [(.arr 1 (List.map Zb s19.2.2)),(.cells [(.d (Zb m1_0)),(.d (Zb m1_1)),(.d (D.list t0 (List.map ZY m1_2))),(.d (D.list t1 (List.map Zw m1_3))),(.d (D.list t2 (List.map Zn m1_4))),(.d (D.list t3 (List.map Zu m1_5)))])]=some ((ZbB t0 t1 t2 t3 b m1_0 m1_1 m1_2 m1_3 m1_4 m1_5) r):=by
 refine Za7 (ZbB t0 t1 t2 t3 b m1_0 m1_1 m1_2 m1_3 m1_4 m1_5) ?_
 intro s19 rcl ih
 show ZX _ _ (lpW _ _ _ _ _ _ _)
 unfold ZaS
 rw[Za8]
 conv=>arg 3; whnf
 refine Zc _ (Zdf _) fun r24 hr24=>?_
 conv=>arg 3; whnf
 refine Zc _ (Zc9 _) fun r29 hr29=>?_
 conv=>arg 3; whnf
 refine Ze rfl ?_ ?_
 ·conv=>arg 3; whnf
  exact Zg rfl
 ·conv=>arg 3; whnf
  refine Zk rfl rfl fun x30 hx30=>?_
  conv=>arg 3; whnf
  refine Zf (Zz rfl hx30) ?_
  conv=>arg 3; whnf
  refine Zk rfl rfl fun x31 hx31=>?_
  conv=>arg 3; whnf
  refine Zf (Zz rfl hx31) ?_
  conv=>arg 3; whnf
  refine Zf (ZbM rfl hx31) ?_
  conv=>arg 3; whnf
  refine Zf (Zz rfl hx31) ?_
  conv=>arg 3; whnf
  refine Zs (ZaK Zb s19.2.2 r24.toNat x30) ?_
  conv=>arg 3; whnf
  refine Zk rfl rfl fun x32 hx32=>?_
  conv=>arg 3; whnf
  refine Zf (Zz rfl hx32) ?_
  conv=>arg 3; whnf
  refine Zs (ZaK Zb (List.set s19.2.2 r24.toNat x30) r29.toNat x31) ?_
  conv=>arg 3; whnf
  exact Zd (ih _)
theorem Zj {t0:Bool} {t1:Bool} {t2:Bool} {t3:Bool} {b:Int} {c:Int} {d:Int} {m0_0:(List Int)} {m1_0:Int} {m1_1:Int} {m1_2:(List ZV)} {m1_3:(List Zm)} {m1_4:(List Zi)} {m1_5:(List Zq)}:∀r,(Zp b c d (fun z0 z1=>Zr z0 z1 m1_4) m0_0)=some r→evW ctx 149 [(.sl 0 1),(.d (Zb b)),(.d (Zb c)),(.d (Zb d)),(.fn 121 [(.ptr 1 0)])] [(.arr 1 (List.map Zb m0_0)),(.cells [(.d (Zb m1_0)),(.d (Zb m1_1)),(.d (D.list t0 (List.map ZY m1_2))),(.d (D.list t1 (List.map Zw m1_3))),(.d (D.list t2 (List.map Zn m1_4))),(.d (D.list t3 (List.map Zu m1_5)))])]=some ((ZbU t0 t1 t2 t3 b c d m0_0 m1_0 m1_1 m1_2 m1_3 m1_4 m1_5) r):=by
 show ZX _ (fun r rhs=>rhs=some ((ZbU t0 t1 t2 t3 b c d m0_0 m1_0 m1_1 m1_2 m1_3 m1_4 m1_5) r)) _
 unfold Zp
 rw[ZeZ ctx 149 ZtZ _ _ rfl rfl]
 conv=>arg 3; whnf
 refine Zk rfl rfl fun x0 hx0=>?_
 conv=>arg 3; whnf
 refine Zf (Zz rfl hx0) ?_
 conv=>arg 3; whnf
 refine Zk rfl rfl fun x1 hx1=>?_
 conv=>arg 3; whnf
 refine Zf (Zz rfl hx1) ?_
 conv=>arg 3; whnf
 refine Zf (ZbM rfl hx1) ?_
 conv=>arg 3; whnf
 refine Zf (Zz rfl hx1) ?_
 conv=>arg 3; whnf
 refine Zs (ZaK Zb m0_0 b.toNat x0) ?_
 conv=>arg 3; whnf
 refine Zk rfl rfl fun x2 hx2=>?_
 conv=>arg 3; whnf
 refine Zf (Zz rfl hx2) ?_
 conv=>arg 3; whnf
 refine Zs (ZaK Zb (List.set m0_0 b.toNat x0) d.toNat x1) ?_
 conv=>arg 3; whnf
 refine Zc _ (Zdd _) fun r7 hr7=>?_
 conv=>arg 3; whnf
 refine Zc _ (Zdc _) fun r12 hr12=>?_
 conv=>arg 3; whnf
 refine Ze rfl ?_ ?_
 ·conv=>arg 3; whnf
  refine Zk rfl rfl fun x13 hx13=>?_
  conv=>arg 3; whnf
  refine Zf (Zz rfl hx13) ?_
  conv=>arg 3; whnf
  refine Zk rfl rfl fun x14 hx14=>?_
  conv=>arg 3; whnf
  refine Zf (Zz rfl hx14) ?_
  conv=>arg 3; whnf
  refine Zf (ZbM rfl hx14) ?_
  conv=>arg 3; whnf
  refine Zf (Zz rfl hx14) ?_
  conv=>arg 3; whnf
  refine Zs (ZaK Zb (List.set (List.set m0_0 b.toNat x0) d.toNat x1) r12.toNat x13) ?_
  conv=>arg 3; whnf
  refine Zk rfl rfl fun x15 hx15=>?_
  conv=>arg 3; whnf
  refine Zf (Zz rfl hx15) ?_
  conv=>arg 3; whnf
  refine Zs (ZaK Zb (List.set (List.set (List.set m0_0 b.toNat x0) d.toNat x1) r12.toNat x13) b.toNat x14) ?_
  conv=>arg 3; whnf
  exact Zg rfl
 ·conv=>arg 3; whnf
  refine Zk rfl rfl fun x16 hx16=>?_
  conv=>arg 3; whnf
  refine Zf (Zz rfl hx16) ?_
  conv=>arg 3; whnf
  refine Zk rfl rfl fun x17 hx17=>?_
  conv=>arg 3; whnf
  refine Zf (Zz rfl hx17) ?_
  conv=>arg 3; whnf
  refine Zf (ZbM rfl hx17) ?_
  conv=>arg 3; whnf
  refine Zf (Zz rfl hx17) ?_
  conv=>arg 3; whnf
  refine Zs (ZaK Zb (List.set (List.set m0_0 b.toNat x0) d.toNat x1) r7.toNat x16) ?_
  conv=>arg 3; whnf
  refine Zk rfl rfl fun x18 hx18=>?_
  conv=>arg 3; whnf
  refine Zf (Zz rfl hx18) ?_
  conv=>arg 3; whnf
  refine Zs (ZaK Zb (List.set (List.set (List.set m0_0 b.toNat x0) d.toNat x1) r7.toNat x16) r12.toNat x17) ?_
  conv=>arg 3; whnf
  refine Zc _ (Zde _) fun r33 hr33=>?_
  conv=>arg 3; whnf
  refine Zk rfl rfl fun x34 hx34=>?_
  conv=>arg 3; whnf
  refine Zf (Zz rfl hx34) ?_
  conv=>arg 3; whnf
  refine Zk rfl rfl fun x35 hx35=>?_
  conv=>arg 3; whnf
  refine Zf (Zz rfl hx35) ?_
  conv=>arg 3; whnf
  refine Zf (ZbM rfl hx35) ?_
  conv=>arg 3; whnf
  refine Zf (Zz rfl hx35) ?_
  conv=>arg 3; whnf
  refine Zs (ZaK Zb r33.2 r33.1.toNat x34) ?_
  conv=>arg 3; whnf
  refine Zk rfl rfl fun x36 hx36=>?_
  conv=>arg 3; whnf
  refine Zf (Zz rfl hx36) ?_
  conv=>arg 3; whnf
  refine Zs (ZaK Zb (List.set r33.2 r33.1.toNat x34) b.toNat x35) ?_
  conv=>arg 3; whnf
  exact Zg rfl
def Zbs (t0:Bool) (t1:Bool) (t2:Bool) (t3:Bool) (b:Int) (c:Int) (d:Int) (m0_0:(List Int)) (m1_0:Int) (m1_1:Int) (m1_2:(List ZV)) (m1_3:(List Zm)) (m1_4:(List Zi)) (m1_5:(List Zq)):(Int×(List Int))→V×Zl
  | r=>((.d (Zb r.1)),[(.arr 1 (List.map Zb r.2)),(.cells [(.d (Zb m1_0)),(.d (Zb m1_1)),(.d (D.list t0 (List.map ZY m1_2))),(.d (D.list t1 (List.map Zw m1_3))),(.d (D.list t2 (List.map Zn m1_4))),(.d (D.list t3 (List.map Zu m1_5)))])])
def Zbb (t0:Bool) (t1:Bool) (t2:Bool) (t3:Bool) (b:Int) (m1_0:Int) (m1_1:Int) (m1_2:(List ZV)) (m1_3:(List Zm)) (m1_4:(List Zi)) (m1_5:(List Zq)) (s3:Int×Int×(List Int)):Int→Ex×List V×Zl
  | r=>(.exit 2,[(.sl 0 1),(.d (Zb b)),(.fn 121 [(.ptr 1 0)]),(.d (Zb r)),(.d (Zb s3.2.1))],[(.arr 1 (List.map Zb s3.2.2)),(.cells [(.d (Zb m1_0)),(.d (Zb m1_1)),(.d (D.list t0 (List.map ZY m1_2))),(.d (D.list t1 (List.map Zw m1_3))),(.d (D.list t2 (List.map Zn m1_4))),(.d (D.list t3 (List.map Zu m1_5)))])])
theorem ZcC {t0:Bool} {t1:Bool} {t2:Bool} {t3:Bool} {b:Int} {m1_0:Int} {m1_1:Int} {m1_2:(List ZV)} {m1_3:(List Zm)} {m1_4:(List Zi)} {m1_5:(List Zq)} {s3:Int×Int×(List Int)}:∀(s4:Int) (r:Int),lp (Zaa b (fun z0 z1=>Zr z0 z1 m1_4) s3) s4=some r→lpW ctx 2 [0,1,4,11,12] [0,1,4,11,12] Zq8 [(.sl 0 1),(.d (Zb b)),(.fn 121 [(.ptr 1 0)]),(.d (Zb s4)),(.d (Zb s3.2.1))] [(.arr 1 (List.map Zb s3.2.2)),(.cells [(.d (Zb m1_0)),(.d (Zb m1_1)),(.d (D.list t0 (List.map ZY m1_2))),(.d (D.list t1 (List.map Zw m1_3))),(.d (D.list t2 (List.map Zn m1_4))),(.d (D.list t3 (List.map Zu m1_5)))])]=some ((Zbb t0 t1 t2 t3 b m1_0 m1_1 m1_2 m1_3 m1_4 m1_5 s3) r):=by
 refine Za7 (Zbb t0 t1 t2 t3 b m1_0 m1_1 m1_2 m1_3 m1_4 m1_5 s3) ?_
 intro s4 rcl ih
 show ZX _ _ (lpW _ _ _ _ _ _ _)
 unfold Zaa
 rw[Za8]
 conv=>arg 3; whnf
 refine Ze rfl ?_ ?_
 ·conv=>arg 3; whnf
  refine Zk rfl rfl fun x5 hx5=>?_
  conv=>arg 3; whnf
  refine Zf (Zz rfl hx5) ?_
  conv=>arg 3; whnf
  refine Zk rfl rfl fun x6 hx6=>?_
  conv=>arg 3; whnf
  refine Zf (Zz rfl hx6) ?_
  conv=>arg 3; whnf
  refine ZA _ ZD rfl fun x7 hx7=>?_
  conv=>arg 3; whnf
  refine Ze rfl ?_ ?_
  ·conv=>arg 3; whnf
   exact Zg rfl
  ·conv=>arg 3; whnf
   exact Zd (ih _)
 ·conv=>arg 3; whnf
  exact Zg rfl
def Zbc (t0:Bool) (t1:Bool) (t2:Bool) (t3:Bool) (b:Int) (m1_0:Int) (m1_1:Int) (m1_2:(List ZV)) (m1_3:(List Zm)) (m1_4:(List Zi)) (m1_5:(List Zq)) (s3:Int×Int×(List Int)) (r8:Int):Int→Ex×List V×Zl
  | r=>(.exit 4,[(.sl 0 1),(.d (Zb b)),(.fn 121 [(.ptr 1 0)]),(.d (Zb r8)),(.d (Zb r))],[(.arr 1 (List.map Zb s3.2.2)),(.cells [(.d (Zb m1_0)),(.d (Zb m1_1)),(.d (D.list t0 (List.map ZY m1_2))),(.d (D.list t1 (List.map Zw m1_3))),(.d (D.list t2 (List.map Zn m1_4))),(.d (D.list t3 (List.map Zu m1_5)))])])
theorem ZcH {t0:Bool} {t1:Bool} {t2:Bool} {t3:Bool} {b:Int} {m1_0:Int} {m1_1:Int} {m1_2:(List ZV)} {m1_3:(List Zm)} {m1_4:(List Zi)} {m1_5:(List Zq)} {s3:Int×Int×(List Int)} {r8:Int}:∀(s9:Int) (r:Int),lp (Zab b (fun z0 z1=>Zr z0 z1 m1_4) s3 r8) s9=some r→lpW ctx 2 [0,1,4,11,12] [0,1,4,11,12] ZqR [(.sl 0 1),(.d (Zb b)),(.fn 121 [(.ptr 1 0)]),(.d (Zb r8)),(.d (Zb s9))] [(.arr 1 (List.map Zb s3.2.2)),(.cells [(.d (Zb m1_0)),(.d (Zb m1_1)),(.d (D.list t0 (List.map ZY m1_2))),(.d (D.list t1 (List.map Zw m1_3))),(.d (D.list t2 (List.map Zn m1_4))),(.d (D.list t3 (List.map Zu m1_5)))])]=some ((Zbc t0 t1 t2 t3 b m1_0 m1_1 m1_2 m1_3 m1_4 m1_5 s3 r8) r):=by
 refine Za7 (Zbc t0 t1 t2 t3 b m1_0 m1_1 m1_2 m1_3 m1_4 m1_5 s3 r8) ?_
 intro s9 rcl ih
 show ZX _ _ (lpW _ _ _ _ _ _ _)
 unfold Zab
 rw[Za8]
 conv=>arg 3; whnf
 refine Ze rfl ?_ ?_
 ·conv=>arg 3; whnf
  refine Zk rfl rfl fun x10 hx10=>?_
  conv=>arg 3; whnf
  refine Zf (Zz rfl hx10) ?_
  conv=>arg 3; whnf
  refine Zk rfl rfl fun x11 hx11=>?_
  conv=>arg 3; whnf
  refine Zf (Zz rfl hx11) ?_
  conv=>arg 3; whnf
  refine ZA _ ZD rfl fun x12 hx12=>?_
  conv=>arg 3; whnf
  refine Ze rfl ?_ ?_
  ·conv=>arg 3; whnf
   exact Zd (ih _)
  ·conv=>arg 3; whnf
   exact Zg rfl
 ·conv=>arg 3; whnf
  exact Zg rfl
def Zba (t0:Bool) (t1:Bool) (t2:Bool) (t3:Bool) (b:Int) (m1_0:Int) (m1_1:Int) (m1_2:(List ZV)) (m1_3:(List Zm)) (m1_4:(List Zi)) (m1_5:(List Zq)):(Int×(List Int))→Ex×List V×Zl
  | r=>(.exit 0,[(.d (Zb r.1))],[(.arr 1 (List.map Zb r.2)),(.cells [(.d (Zb m1_0)),(.d (Zb m1_1)),(.d (D.list t0 (List.map ZY m1_2))),(.d (D.list t1 (List.map Zw m1_3))),(.d (D.list t2 (List.map Zn m1_4))),(.d (D.list t3 (List.map Zu m1_5)))])])
theorem ZcD {t0:Bool} {t1:Bool} {t2:Bool} {t3:Bool} {b:Int} {m1_0:Int} {m1_1:Int} {m1_2:(List ZV)} {m1_3:(List Zm)} {m1_4:(List Zi)} {m1_5:(List Zq)}:∀(s3:Int×Int×(List Int)) (r:(Int×(List Int))),lp (Zar b (fun z0 z1=>Zr z0 z1 m1_4)) s3=some r→lpW ctx 2 [0,1,4,11,12] [11] ZqF [(.sl 0 1),(.d (Zb b)),(.fn 121 [(.ptr 1 0)]),(.d (Zb s3.1)),(.d (Zb s3.2.1))] [(.arr 1 (List.map Zb s3.2.2)),(.cells [(.d (Zb m1_0)),(.d (Zb m1_1)),(.d (D.list t0 (List.map ZY m1_2))),(.d (D.list t1 (List.map Zw m1_3))),(.d (D.list t2 (List.map Zn m1_4))),(.d (D.list t3 (List.map Zu m1_5)))])]=some ((Zba t0 t1 t2 t3 b m1_0 m1_1 m1_2 m1_3 m1_4 m1_5) r):=by
 refine Za7 (Zba t0 t1 t2 t3 b m1_0 m1_1 m1_2 m1_3 m1_4 m1_5) ?_
 intro s3 rcl ih
 show ZX _ _ (lpW _ _ _ _ _ _ _)
 unfold Zar
 rw[Za8]
 conv=>arg 3; whnf
 refine Zc _ (ZcC _) fun r8 hr8=>?_
 conv=>arg 3; whnf
 refine Zc _ (ZcH _) fun r13 hr13=>?_
 conv=>arg 3; whnf
 refine Ze rfl ?_ ?_
 ·conv=>arg 3; whnf
  exact Zg rfl
 ·conv=>arg 3; whnf
  refine Zk rfl rfl fun x14 hx14=>?_
  conv=>arg 3; whnf
  refine Zf (Zz rfl hx14) ?_
  conv=>arg 3; whnf
  refine Zk rfl rfl fun x15 hx15=>?_
  conv=>arg 3; whnf
  refine Zf (Zz rfl hx15) ?_
  conv=>arg 3; whnf
  refine Zf (ZbM rfl hx15) ?_
  conv=>arg 3; whnf
  refine Zf (Zz rfl hx15) ?_
  conv=>arg 3; whnf
  refine Zs (ZaK Zb s3.2.2 r8.toNat x14) ?_
  conv=>arg 3; whnf
  refine Zk rfl rfl fun x16 hx16=>?_
  conv=>arg 3; whnf
  refine Zf (Zz rfl hx16) ?_
  conv=>arg 3; whnf
  refine Zs (ZaK Zb (List.set s3.2.2 r8.toNat x14) r13.toNat x15) ?_
  conv=>arg 3; whnf
  exact Zd (ih _)
theorem Zx {t0:Bool} {t1:Bool} {t2:Bool} {t3:Bool} {b:Int} {c:Int} {d:Int} {m0_0:(List Int)} {m1_0:Int} {m1_1:Int} {m1_2:(List ZV)} {m1_3:(List Zm)} {m1_4:(List Zi)} {m1_5:(List Zq)}:∀r,(ZB b c d (fun z0 z1=>Zr z0 z1 m1_4) m0_0)=some r→evW ctx 148 [(.sl 0 1),(.d (Zb b)),(.d (Zb c)),(.d (Zb d)),(.fn 121 [(.ptr 1 0)])] [(.arr 1 (List.map Zb m0_0)),(.cells [(.d (Zb m1_0)),(.d (Zb m1_1)),(.d (D.list t0 (List.map ZY m1_2))),(.d (D.list t1 (List.map Zw m1_3))),(.d (D.list t2 (List.map Zn m1_4))),(.d (D.list t3 (List.map Zu m1_5)))])]=some ((Zbs t0 t1 t2 t3 b c d m0_0 m1_0 m1_1 m1_2 m1_3 m1_4 m1_5) r):=by
 show ZX _ (fun r rhs=>rhs=some ((Zbs t0 t1 t2 t3 b c d m0_0 m1_0 m1_1 m1_2 m1_3 m1_4 m1_5) r)) _
 unfold ZB
 rw[ZeZ ctx 148 ZtX _ _ rfl rfl]
 conv=>arg 3; whnf
 refine Zk rfl rfl fun x0 hx0=>?_
 conv=>arg 3; whnf
 refine Zf (Zz rfl hx0) ?_
 conv=>arg 3; whnf
 refine Zk rfl rfl fun x1 hx1=>?_
 conv=>arg 3; whnf
 refine Zf (Zz rfl hx1) ?_
 conv=>arg 3; whnf
 refine Zf (ZbM rfl hx1) ?_
 conv=>arg 3; whnf
 refine Zf (Zz rfl hx1) ?_
 conv=>arg 3; whnf
 refine Zs (ZaK Zb m0_0 b.toNat x0) ?_
 conv=>arg 3; whnf
 refine Zk rfl rfl fun x2 hx2=>?_
 conv=>arg 3; whnf
 refine Zf (Zz rfl hx2) ?_
 conv=>arg 3; whnf
 refine Zs (ZaK Zb (List.set m0_0 b.toNat x0) d.toNat x1) ?_
 conv=>arg 3; whnf
 refine Zc _ (ZcD _) fun r17 hr17=>?_
 conv=>arg 3; whnf
 exact Zg rfl
def ZeH (r:Int):D:=(D.int .u64 r)
theorem Zgr {a:Int}:∀r,(Zb7 a)=some r→evD ctx 162 [(.d (Zb a))]=some (ZeH r):=by
 show ZX _ (fun r rhs=>rhs=some (ZeH r)) _
 unfold Zb7
 rw[Zce ctx 162 Zt9 _ rfl rfl]
 conv=>arg 3; whnf
 refine ZA _ ZgF rfl fun x0 hx0=>?_
 conv=>arg 3; whnf
 refine Ze rfl ?_ ?_
 ·exact Za4
 ·conv=>arg 3; whnf
  exact Zg rfl
def ZeN (m0_0:Int):Unit→V×Zl
  | r=>((.d (D.int .u64 (IntKind.u64.wrap (BitVec.ofInt IntKind.u64.bits (IntKind.u64.wrap (BitVec.ofInt IntKind.u64.bits (IntKind.u64.wrap (BitVec.ofInt IntKind.u64.bits m0_0 ^^^ BitVec.ofInt IntKind.u64.bits (IntKind.u64.wrap (m0_0*2 ^ 13))).toNat) ^^^ BitVec.ofInt IntKind.u64.bits (Int.fdiv (IntKind.u64.wrap (BitVec.ofInt IntKind.u64.bits m0_0 ^^^ BitVec.ofInt IntKind.u64.bits (IntKind.u64.wrap (m0_0*2 ^ 13))).toNat) (2 ^ 7))).toNat) ^^^ BitVec.ofInt IntKind.u64.bits (IntKind.u64.wrap ((IntKind.u64.wrap (BitVec.ofInt IntKind.u64.bits (IntKind.u64.wrap (BitVec.ofInt IntKind.u64.bits m0_0 ^^^ BitVec.ofInt IntKind.u64.bits (IntKind.u64.wrap (m0_0*2 ^ 13))).toNat) ^^^ BitVec.ofInt IntKind.u64.bits (Int.fdiv (IntKind.u64.wrap (BitVec.ofInt IntKind.u64.bits m0_0 ^^^ BitVec.ofInt IntKind.u64.bits (IntKind.u64.wrap (m0_0*2 ^ 13))).toNat) (2 ^ 7))).toNat)*2 ^ 17))).toNat))),[(.cells [(.d (D.int .u64 (IntKind.u64.wrap (BitVec.ofInt IntKind.u64.bits (IntKind.u64.wrap (BitVec.ofInt IntKind.u64.bits (IntKind.u64.wrap (BitVec.ofInt IntKind.u64.bits m0_0 ^^^ BitVec.ofInt IntKind.u64.bits (IntKind.u64.wrap (m0_0*2 ^ 13))).toNat) ^^^ BitVec.ofInt IntKind.u64.bits (Int.fdiv (IntKind.u64.wrap (BitVec.ofInt IntKind.u64.bits m0_0 ^^^ BitVec.ofInt IntKind.u64.bits (IntKind.u64.wrap (m0_0*2 ^ 13))).toNat) (2 ^ 7))).toNat) ^^^ BitVec.ofInt IntKind.u64.bits (IntKind.u64.wrap ((IntKind.u64.wrap (BitVec.ofInt IntKind.u64.bits (IntKind.u64.wrap (BitVec.ofInt IntKind.u64.bits m0_0 ^^^ BitVec.ofInt IntKind.u64.bits (IntKind.u64.wrap (m0_0*2 ^ 13))).toNat) ^^^ BitVec.ofInt IntKind.u64.bits (Int.fdiv (IntKind.u64.wrap (BitVec.ofInt IntKind.u64.bits m0_0 ^^^ BitVec.ofInt IntKind.u64.bits (IntKind.u64.wrap (m0_0*2 ^ 13))).toNat) (2 ^ 7))).toNat)*2 ^ 17))).toNat)))])])
theorem ZgL {m0_0:Int}:∀r,Zc0=some r→evW ctx 163 [(.ptr 0 0)] [(.cells [(.d (D.int .u64 m0_0))])]=some ((ZeN m0_0) r):=by
 show ZX _ (fun r rhs=>rhs=some ((ZeN m0_0) r)) _
 unfold Zc0
 rw[ZeZ ctx 163 Zua _ _ rfl rfl]
 conv=>arg 3; whnf
 refine Zah rfl ?_
 conv=>arg 3; whnf
 refine Zah rfl ?_
 conv=>arg 3; whnf
 refine Zah rfl ?_
 conv=>arg 3; whnf
 exact Zg rfl
def Zbw (t0:Bool) (t1:Bool) (t2:Bool) (t3:Bool) (b:Int) (c:Int) (m0_0:(List Int)) (m1_0:Int) (m1_1:Int) (m1_2:(List ZV)) (m1_3:(List Zm)) (m1_4:(List Zi)) (m1_5:(List Zq)):(List Int)→V×Zl
  | r=>((.d (D.tup [])),[(.arr 1 (List.map Zb r)),(.cells [(.d (Zb m1_0)),(.d (Zb m1_1)),(.d (D.list t0 (List.map ZY m1_2))),(.d (D.list t1 (List.map Zw m1_3))),(.d (D.list t2 (List.map Zn m1_4))),(.d (D.list t3 (List.map Zu m1_5)))])])
def Zbe (t0:Bool) (t1:Bool) (t2:Bool) (t3:Bool) (b:Int) (c:Int) (m1_0:Int) (m1_1:Int) (m1_2:(List ZV)) (m1_3:(List Zm)) (m1_4:(List Zi)) (m1_5:(List Zq)) (x0:Int):(List Int)→Ex×List V×Zl
  | r=>(.exit 0,[],[(.arr 1 (List.map Zb r)),(.cells [(.d (Zb m1_0)),(.d (Zb m1_1)),(.d (D.list t0 (List.map ZY m1_2))),(.d (D.list t1 (List.map Zw m1_3))),(.d (D.list t2 (List.map Zn m1_4))),(.d (D.list t3 (List.map Zu m1_5)))])])
theorem ZcL {t0:Bool} {t1:Bool} {t2:Bool} {t3:Bool} {b:Int} {c:Int} {m1_0:Int} {m1_1:Int} {m1_2:(List ZV)} {m1_3:(List Zm)} {m1_4:(List Zi)} {m1_5:(List Zq)} {x0:Int}:∀(s1:Int×(List Int)×Int) (r:(List Int)),lp (ZaA b c x0) s1=some r→lpW ctx 2 [0,1,8,9,10,11] [] ZqX [(.sl 0 1),(.d (Zb b)),(.d (Zb (w64 (c-b)))),(.ptr 2 0),(.d (D.int .u64 x0)),(.d (Zb s1.1))] [(.arr 1 (List.map Zb s1.2.1)),(.cells [(.d (Zb m1_0)),(.d (Zb m1_1)),(.d (D.list t0 (List.map ZY m1_2))),(.d (D.list t1 (List.map Zw m1_3))),(.d (D.list t2 (List.map Zn m1_4))),(.d (D.list t3 (List.map Zu m1_5)))]),(.cells [(.d (D.int .u64 s1.2.2))])]=some ((Zbe t0 t1 t2 t3 b c m1_0 m1_1 m1_2 m1_3 m1_4 m1_5 x0) r):=by
 refine Za7 (Zbe t0 t1 t2 t3 b c m1_0 m1_1 m1_2 m1_3 m1_4 m1_5 x0) ?_
 intro s1 rcl ih
 show ZX _ _ (lpW _ _ _ _ _ _ _)
 unfold ZaA
 rw[Za8]
 conv=>arg 3; whnf
 refine Zah rfl ?_
 conv=>arg 3; whnf
 refine Ze rfl ?_ ?_
 ·conv=>arg 3; whnf
  refine Zc _ ZgL fun x2 hx2=>?_
  conv=>arg 3; whnf
  refine Ze rfl ?_ ?_
  ·conv=>arg 3; whnf
   refine Zk rfl rfl fun x3 hx3=>?_
   conv=>arg 3; whnf
   refine Zf (Zz rfl hx3) ?_
   conv=>arg 3; whnf
   refine Zk rfl rfl fun x4 hx4=>?_
   conv=>arg 3; whnf
   refine Zf (Zz rfl hx4) ?_
   conv=>arg 3; whnf
   refine Zf (ZbM rfl hx4) ?_
   conv=>arg 3; whnf
   refine Zf (Zz rfl hx4) ?_
   conv=>arg 3; whnf
   refine Zs (ZaK Zb s1.2.1 s1.1.toNat x3) ?_
   conv=>arg 3; whnf
   refine Zk rfl rfl fun x5 hx5=>?_
   conv=>arg 3; whnf
   refine Zf (Zz rfl hx5) ?_
   conv=>arg 3; whnf
   refine Zs (ZaK Zb (List.set s1.2.1 s1.1.toNat x3) (w64 (b+(w64 ((w64 (IntKind.u64.wrap (BitVec.ofInt IntKind.u64.bits (IntKind.u64.wrap (BitVec.ofInt IntKind.u64.bits (IntKind.u64.wrap (BitVec.ofInt IntKind.u64.bits (IntKind.u64.wrap (BitVec.ofInt IntKind.u64.bits s1.2.2 ^^^ BitVec.ofInt IntKind.u64.bits (IntKind.u64.wrap (s1.2.2*2 ^ 13))).toNat) ^^^ BitVec.ofInt IntKind.u64.bits (Int.fdiv (IntKind.u64.wrap (BitVec.ofInt IntKind.u64.bits s1.2.2 ^^^ BitVec.ofInt IntKind.u64.bits (IntKind.u64.wrap (s1.2.2*2 ^ 13))).toNat) (2 ^ 7))).toNat) ^^^ BitVec.ofInt IntKind.u64.bits (IntKind.u64.wrap ((IntKind.u64.wrap (BitVec.ofInt IntKind.u64.bits (IntKind.u64.wrap (BitVec.ofInt IntKind.u64.bits s1.2.2 ^^^ BitVec.ofInt IntKind.u64.bits (IntKind.u64.wrap (s1.2.2*2 ^ 13))).toNat) ^^^ BitVec.ofInt IntKind.u64.bits (Int.fdiv (IntKind.u64.wrap (BitVec.ofInt IntKind.u64.bits s1.2.2 ^^^ BitVec.ofInt IntKind.u64.bits (IntKind.u64.wrap (s1.2.2*2 ^ 13))).toNat) (2 ^ 7))).toNat)*2 ^ 17))).toNat) &&& BitVec.ofInt IntKind.u64.bits (IntKind.u64.wrap (x0-1))).toNat))-(w64 (c-b)))))).toNat x4) ?_
   conv=>arg 3; whnf
   exact Zd (ih _)
  ·conv=>arg 3; whnf
   refine Zk rfl rfl fun x6 hx6=>?_
   conv=>arg 3; whnf
   refine Zf (Zz rfl hx6) ?_
   conv=>arg 3; whnf
   refine Zk rfl rfl fun x7 hx7=>?_
   conv=>arg 3; whnf
   refine Zf (Zz rfl hx7) ?_
   conv=>arg 3; whnf
   refine Zf (ZbM rfl hx7) ?_
   conv=>arg 3; whnf
   refine Zf (Zz rfl hx7) ?_
   conv=>arg 3; whnf
   refine Zs (ZaK Zb s1.2.1 s1.1.toNat x6) ?_
   conv=>arg 3; whnf
   refine Zk rfl rfl fun x8 hx8=>?_
   conv=>arg 3; whnf
   refine Zf (Zz rfl hx8) ?_
   conv=>arg 3; whnf
   refine Zs (ZaK Zb (List.set s1.2.1 s1.1.toNat x6) (w64 (b+(w64 (IntKind.u64.wrap (BitVec.ofInt IntKind.u64.bits (IntKind.u64.wrap (BitVec.ofInt IntKind.u64.bits (IntKind.u64.wrap (BitVec.ofInt IntKind.u64.bits (IntKind.u64.wrap (BitVec.ofInt IntKind.u64.bits s1.2.2 ^^^ BitVec.ofInt IntKind.u64.bits (IntKind.u64.wrap (s1.2.2*2 ^ 13))).toNat) ^^^ BitVec.ofInt IntKind.u64.bits (Int.fdiv (IntKind.u64.wrap (BitVec.ofInt IntKind.u64.bits s1.2.2 ^^^ BitVec.ofInt IntKind.u64.bits (IntKind.u64.wrap (s1.2.2*2 ^ 13))).toNat) (2 ^ 7))).toNat) ^^^ BitVec.ofInt IntKind.u64.bits (IntKind.u64.wrap ((IntKind.u64.wrap (BitVec.ofInt IntKind.u64.bits (IntKind.u64.wrap (BitVec.ofInt IntKind.u64.bits s1.2.2 ^^^ BitVec.ofInt IntKind.u64.bits (IntKind.u64.wrap (s1.2.2*2 ^ 13))).toNat) ^^^ BitVec.ofInt IntKind.u64.bits (Int.fdiv (IntKind.u64.wrap (BitVec.ofInt IntKind.u64.bits s1.2.2 ^^^ BitVec.ofInt IntKind.u64.bits (IntKind.u64.wrap (s1.2.2*2 ^ 13))).toNat) (2 ^ 7))).toNat)*2 ^ 17))).toNat) &&& BitVec.ofInt IntKind.u64.bits (IntKind.u64.wrap (x0-1))).toNat)))).toNat x7) ?_
   conv=>arg 3; whnf
   exact Zd (ih _)
 ·conv=>arg 3; whnf
  exact Zg rfl
theorem Zbt {t0:Bool} {t1:Bool} {t2:Bool} {t3:Bool} {b:Int} {c:Int} {m0_0:(List Int)} {m1_0:Int} {m1_1:Int} {m1_2:(List ZV)} {m1_3:(List Zm)} {m1_4:(List Zi)} {m1_5:(List Zq)}:∀r,(Z7 b c (fun z0 z1=>Zr z0 z1 m1_4) m0_0)=some r→evW ctx 144 [(.sl 0 1),(.d (Zb b)),(.d (Zb c)),(.fn 121 [(.ptr 1 0)])] [(.arr 1 (List.map Zb m0_0)),(.cells [(.d (Zb m1_0)),(.d (Zb m1_1)),(.d (D.list t0 (List.map ZY m1_2))),(.d (D.list t1 (List.map Zw m1_3))),(.d (D.list t2 (List.map Zn m1_4))),(.d (D.list t3 (List.map Zu m1_5)))])]=some ((Zbw t0 t1 t2 t3 b c m0_0 m1_0 m1_1 m1_2 m1_3 m1_4 m1_5) r):=by
 show ZX _ (fun r rhs=>rhs=some ((Zbw t0 t1 t2 t3 b c m0_0 m1_0 m1_1 m1_2 m1_3 m1_4 m1_5) r)) _
 unfold Z7
 rw[ZeZ ctx 144 ZsI _ _ rfl rfl]
 conv=>arg 3; whnf
 refine Ze rfl ?_ ?_
 ·conv=>arg 3; whnf
  refine ZA _ Zgr rfl fun x0 hx0=>?_
  conv=>arg 3; whnf
  refine Zah rfl ?_
  conv=>arg 3; whnf
  refine Zc _ (ZcL _) fun r9 hr9=>?_
  conv=>arg 3; whnf
  exact Zg rfl
 ·conv=>arg 3; whnf
  exact Zg rfl
def Za (t0:Bool) (t1:Bool) (t2:Bool) (t3:Bool) (b:Int) (c:Int) (d:Int) (m0_0:(List Int)) (m1_0:Int) (m1_1:Int) (m1_2:(List ZV)) (m1_3:(List Zm)) (m1_4:(List Zi)) (m1_5:(List Zq)):(List Int)→V×Zl
  | r=>((.d (D.tup [])),[(.arr 1 (List.map Zb r)),(.cells [(.d (Zb m1_0)),(.d (Zb m1_1)),(.d (D.list t0 (List.map ZY m1_2))),(.d (D.list t1 (List.map Zw m1_3))),(.d (D.list t2 (List.map Zn m1_4))),(.d (D.list t3 (List.map Zu m1_5)))])])
def ZbP (t0:Bool) (t1:Bool) (t2:Bool) (t3:Bool) (m1_0:Int) (m1_1:Int) (m1_2:(List ZV)) (m1_3:(List Zm)) (m1_4:(List Zi)) (m1_5:(List Zq)) (rc:Int→Int→Int→(Int→Int→Option Int)→(List Int)→Option (List Int)):(List Int)→Ex×List V×Zl
  | r=>(.ret,[],[(.arr 1 (List.map Zb r)),(.cells [(.d (Zb m1_0)),(.d (Zb m1_1)),(.d (D.list t0 (List.map ZY m1_2))),(.d (D.list t1 (List.map Zw m1_3))),(.d (D.list t2 (List.map Zn m1_4))),(.d (D.list t3 (List.map Zu m1_5)))])])
theorem Zdp {t0:Bool} {t1:Bool} {t2:Bool} {t3:Bool} {m1_0:Int} {m1_1:Int} {m1_2:(List ZV)} {m1_3:(List Zm)} {m1_4:(List Zi)} {m1_5:(List Zq)} {rc:Int→Int→Int→(Int→Int→Option Int)→(List Int)→Option (List Int)} (hrc:∀(t0:Bool) (t1:Bool) (t2:Bool) (t3:Bool) (b:Int) (c:Int) (d:Int) (m0_0:(List Int)) (m1_0:Int) (m1_1:Int) (m1_2:(List ZV)) (m1_3:(List Zm)) (m1_4:(List Zi)) (m1_5:(List Zq)) (r:(List Int)),rc b c d (fun z0 z1=>Zr z0 z1 m1_4) m0_0=some r→evW ctx 138 [(.sl 0 1),(.d (Zb b)),(.d (Zb c)),(.d (Zb d)),(.fn 121 [(.ptr 1 0)])] [(.arr 1 (List.map Zb m0_0)),(.cells [(.d (Zb m1_0)),(.d (Zb m1_1)),(.d (D.list t0 (List.map ZY m1_2))),(.d (D.list t1 (List.map Zw m1_3))),(.d (D.list t2 (List.map Zn m1_4))),(.d (D.list t3 (List.map Zu m1_5)))])]=some ((Za t0 t1 t2 t3 b c d m0_0 m1_0 m1_1 m1_2 m1_3 m1_4 m1_5) r)):∀(s0:Int×Int×Int×Bool×Bool×(List Int)) (r:(List Int)),lp (ZN (fun z0 z1=>Zr z0 z1 m1_4) rc) s0=some r→lpW ctx 2 [0,1,2,3,4,10,11] [] Zrq [(.sl 0 1),(.d (Zb s0.1)),(.d (Zb s0.2.1)),(.d (Zb s0.2.2.1)),(.fn 121 [(.ptr 1 0)]),(.d (D.bool s0.2.2.2.1)),(.d (D.bool s0.2.2.2.2.1))] [(.arr 1 (List.map Zb s0.2.2.2.2.2)),(.cells [(.d (Zb m1_0)),(.d (Zb m1_1)),(.d (D.list t0 (List.map ZY m1_2))),(.d (D.list t1 (List.map Zw m1_3))),(.d (D.list t2 (List.map Zn m1_4))),(.d (D.list t3 (List.map Zu m1_5)))])]=some ((ZbP t0 t1 t2 t3 m1_0 m1_1 m1_2 m1_3 m1_4 m1_5 rc) r):=by
 refine Za7 (ZbP t0 t1 t2 t3 m1_0 m1_1 m1_2 m1_3 m1_4 m1_5 rc) ?_
 intro s0 rcl ih
 show ZX _ _ (lpW _ _ _ _ _ _ _)
 unfold ZN
 rw[Za8]
 rcases hb:s0.2.2.2.1 with _ | _
 ·refine Zqo ?_
  rcases hb:s0.2.2.2.2.1 with _ | _
  ·refine Zqo ?_
   conv=>arg 3; whnf
   refine Ze rfl ?_ ?_
   ·conv=>arg 3; whnf
    refine Zc _ Z5 fun x170 hx170=>?_
    conv=>arg 3; whnf
    exact Zg rfl
   ·conv=>arg 3; whnf
    refine Ze rfl ?_ ?_
    ·conv=>arg 3; whnf
     refine Zc _ Zam fun x171 hx171=>?_
     conv=>arg 3; whnf
     exact Zg rfl
    ·conv=>arg 3; whnf
     refine Zc _ Zbt fun x172 hx172=>?_
     conv=>arg 3; whnf
     refine Zc _ Zad fun x173 hx173=>?_
     conv=>arg 3; whnf
     refine Ze rfl ?_ ?_
     ·conv=>arg 3; whnf
      refine Zc _ Zac fun x174 hx174=>?_
      conv=>arg 3; whnf
      refine Ze rfl ?_ ?_
      ·conv=>arg 3; whnf
       refine Zk rfl rfl fun x175 hx175=>?_
       conv=>arg 3; whnf
       refine Zf (Zz rfl hx175) ?_
       conv=>arg 3; whnf
       refine Zk rfl rfl fun x176 hx176=>?_
       conv=>arg 3; whnf
       refine Zf (Zz rfl hx176) ?_
       conv=>arg 3; whnf
       refine ZA _ ZD rfl fun x177 hx177=>?_
       conv=>arg 3; whnf
       refine Ze rfl ?_ ?_
       ·conv=>arg 3; whnf
        refine Zc _ Zj fun x178 hx178=>?_
        clear hx178
        rcases x178 with x178 | x178
        ·conv=>arg 3; whnf
         refine Zcl rfl ?_
         conv=>arg 3; whnf
         refine Zah rfl ?_
         conv=>arg 3; whnf
         refine Ze rfl ?_ ?_
         ·conv=>arg 3; whnf
          refine Ze rfl ?_ ?_
          ·conv=>arg 3; whnf
           refine Zc (Za t0 t1 t2 t3 s0.1 x178.1 (w64 (s0.2.2.1-1)) x178.2 m1_0 m1_1 m1_2 m1_3 m1_4 m1_5) (hrc t0 t1 t2 t3 s0.1 x178.1 (w64 (s0.2.2.1-1)) x178.2 m1_0 m1_1 m1_2 m1_3 m1_4 m1_5) fun x179 hx179=>?_
           conv=>arg 3; whnf
           exact Zd (ih _)
          ·conv=>arg 3; whnf
           refine Zc (Za t0 t1 t2 t3 s0.1 x178.1 (w64 (s0.2.2.1-1)) x178.2 m1_0 m1_1 m1_2 m1_3 m1_4 m1_5) (hrc t0 t1 t2 t3 s0.1 x178.1 (w64 (s0.2.2.1-1)) x178.2 m1_0 m1_1 m1_2 m1_3 m1_4 m1_5) fun x180 hx180=>?_
           conv=>arg 3; whnf
           exact Zd (ih _)
         ·conv=>arg 3; whnf
          refine Ze rfl ?_ ?_
          ·conv=>arg 3; whnf
           refine Zc (Za t0 t1 t2 t3 (w64 (x178.1+1)) s0.2.1 (w64 (s0.2.2.1-1)) x178.2 m1_0 m1_1 m1_2 m1_3 m1_4 m1_5) (hrc t0 t1 t2 t3 (w64 (x178.1+1)) s0.2.1 (w64 (s0.2.2.1-1)) x178.2 m1_0 m1_1 m1_2 m1_3 m1_4 m1_5) fun x181 hx181=>?_
           conv=>arg 3; whnf
           exact Zd (ih _)
          ·conv=>arg 3; whnf
           refine Zc (Za t0 t1 t2 t3 (w64 (x178.1+1)) s0.2.1 (w64 (s0.2.2.1-1)) x178.2 m1_0 m1_1 m1_2 m1_3 m1_4 m1_5) (hrc t0 t1 t2 t3 (w64 (x178.1+1)) s0.2.1 (w64 (s0.2.2.1-1)) x178.2 m1_0 m1_1 m1_2 m1_3 m1_4 m1_5) fun x182 hx182=>?_
           conv=>arg 3; whnf
           exact Zd (ih _)
        ·conv=>arg 3; whnf
         refine Zah rfl ?_
         conv=>arg 3; whnf
         refine Zah rfl ?_
         conv=>arg 3; whnf
         refine Ze rfl ?_ ?_
         ·conv=>arg 3; whnf
          refine Ze rfl ?_ ?_
          ·conv=>arg 3; whnf
           refine Zc (Za t0 t1 t2 t3 s0.1 x178.1 (w64 (s0.2.2.1-1)) x178.2 m1_0 m1_1 m1_2 m1_3 m1_4 m1_5) (hrc t0 t1 t2 t3 s0.1 x178.1 (w64 (s0.2.2.1-1)) x178.2 m1_0 m1_1 m1_2 m1_3 m1_4 m1_5) fun x183 hx183=>?_
           conv=>arg 3; whnf
           exact Zd (ih _)
          ·conv=>arg 3; whnf
           refine Zc (Za t0 t1 t2 t3 s0.1 x178.1 (w64 (s0.2.2.1-1)) x178.2 m1_0 m1_1 m1_2 m1_3 m1_4 m1_5) (hrc t0 t1 t2 t3 s0.1 x178.1 (w64 (s0.2.2.1-1)) x178.2 m1_0 m1_1 m1_2 m1_3 m1_4 m1_5) fun x184 hx184=>?_
           conv=>arg 3; whnf
           exact Zd (ih _)
         ·conv=>arg 3; whnf
          refine Ze rfl ?_ ?_
          ·conv=>arg 3; whnf
           refine Zc (Za t0 t1 t2 t3 (w64 (x178.1+1)) s0.2.1 (w64 (s0.2.2.1-1)) x178.2 m1_0 m1_1 m1_2 m1_3 m1_4 m1_5) (hrc t0 t1 t2 t3 (w64 (x178.1+1)) s0.2.1 (w64 (s0.2.2.1-1)) x178.2 m1_0 m1_1 m1_2 m1_3 m1_4 m1_5) fun x185 hx185=>?_
           conv=>arg 3; whnf
           exact Zd (ih _)
          ·conv=>arg 3; whnf
           refine Zc (Za t0 t1 t2 t3 (w64 (x178.1+1)) s0.2.1 (w64 (s0.2.2.1-1)) x178.2 m1_0 m1_1 m1_2 m1_3 m1_4 m1_5) (hrc t0 t1 t2 t3 (w64 (x178.1+1)) s0.2.1 (w64 (s0.2.2.1-1)) x178.2 m1_0 m1_1 m1_2 m1_3 m1_4 m1_5) fun x186 hx186=>?_
           conv=>arg 3; whnf
           exact Zd (ih _)
       ·conv=>arg 3; whnf
        refine Zc _ Zx fun x187 hx187=>?_
        conv=>arg 3; whnf
        exact Zd (ih _)
      ·conv=>arg 3; whnf
       refine Zc _ Zj fun x188 hx188=>?_
       clear hx188
       rcases x188 with x188 | x188
       ·conv=>arg 3; whnf
        refine Zcl rfl ?_
        conv=>arg 3; whnf
        refine Zah rfl ?_
        conv=>arg 3; whnf
        refine Ze rfl ?_ ?_
        ·conv=>arg 3; whnf
         refine Ze rfl ?_ ?_
         ·conv=>arg 3; whnf
          refine Zc (Za t0 t1 t2 t3 s0.1 x188.1 (w64 (s0.2.2.1-1)) x188.2 m1_0 m1_1 m1_2 m1_3 m1_4 m1_5) (hrc t0 t1 t2 t3 s0.1 x188.1 (w64 (s0.2.2.1-1)) x188.2 m1_0 m1_1 m1_2 m1_3 m1_4 m1_5) fun x189 hx189=>?_
          conv=>arg 3; whnf
          exact Zd (ih _)
         ·conv=>arg 3; whnf
          refine Zc (Za t0 t1 t2 t3 s0.1 x188.1 (w64 (s0.2.2.1-1)) x188.2 m1_0 m1_1 m1_2 m1_3 m1_4 m1_5) (hrc t0 t1 t2 t3 s0.1 x188.1 (w64 (s0.2.2.1-1)) x188.2 m1_0 m1_1 m1_2 m1_3 m1_4 m1_5) fun x190 hx190=>?_
          conv=>arg 3; whnf
          exact Zd (ih _)
        ·conv=>arg 3; whnf
         refine Ze rfl ?_ ?_
         ·conv=>arg 3; whnf
          refine Zc (Za t0 t1 t2 t3 (w64 (x188.1+1)) s0.2.1 (w64 (s0.2.2.1-1)) x188.2 m1_0 m1_1 m1_2 m1_3 m1_4 m1_5) (hrc t0 t1 t2 t3 (w64 (x188.1+1)) s0.2.1 (w64 (s0.2.2.1-1)) x188.2 m1_0 m1_1 m1_2 m1_3 m1_4 m1_5) fun x191 hx191=>?_
          conv=>arg 3; whnf
          exact Zd (ih _)
         ·conv=>arg 3; whnf
          refine Zc (Za t0 t1 t2 t3 (w64 (x188.1+1)) s0.2.1 (w64 (s0.2.2.1-1)) x188.2 m1_0 m1_1 m1_2 m1_3 m1_4 m1_5) (hrc t0 t1 t2 t3 (w64 (x188.1+1)) s0.2.1 (w64 (s0.2.2.1-1)) x188.2 m1_0 m1_1 m1_2 m1_3 m1_4 m1_5) fun x192 hx192=>?_
          conv=>arg 3; whnf
          exact Zd (ih _)
       ·conv=>arg 3; whnf
        refine Zah rfl ?_
        conv=>arg 3; whnf
        refine Zah rfl ?_
        conv=>arg 3; whnf
        refine Ze rfl ?_ ?_
        ·conv=>arg 3; whnf
         refine Ze rfl ?_ ?_
         ·conv=>arg 3; whnf
          refine Zc (Za t0 t1 t2 t3 s0.1 x188.1 (w64 (s0.2.2.1-1)) x188.2 m1_0 m1_1 m1_2 m1_3 m1_4 m1_5) (hrc t0 t1 t2 t3 s0.1 x188.1 (w64 (s0.2.2.1-1)) x188.2 m1_0 m1_1 m1_2 m1_3 m1_4 m1_5) fun x193 hx193=>?_
          conv=>arg 3; whnf
          exact Zd (ih _)
         ·conv=>arg 3; whnf
          refine Zc (Za t0 t1 t2 t3 s0.1 x188.1 (w64 (s0.2.2.1-1)) x188.2 m1_0 m1_1 m1_2 m1_3 m1_4 m1_5) (hrc t0 t1 t2 t3 s0.1 x188.1 (w64 (s0.2.2.1-1)) x188.2 m1_0 m1_1 m1_2 m1_3 m1_4 m1_5) fun x194 hx194=>?_
          conv=>arg 3; whnf
          exact Zd (ih _)
        ·conv=>arg 3; whnf
         refine Ze rfl ?_ ?_
         ·conv=>arg 3; whnf
          refine Zc (Za t0 t1 t2 t3 (w64 (x188.1+1)) s0.2.1 (w64 (s0.2.2.1-1)) x188.2 m1_0 m1_1 m1_2 m1_3 m1_4 m1_5) (hrc t0 t1 t2 t3 (w64 (x188.1+1)) s0.2.1 (w64 (s0.2.2.1-1)) x188.2 m1_0 m1_1 m1_2 m1_3 m1_4 m1_5) fun x195 hx195=>?_
          conv=>arg 3; whnf
          exact Zd (ih _)
         ·conv=>arg 3; whnf
          refine Zc (Za t0 t1 t2 t3 (w64 (x188.1+1)) s0.2.1 (w64 (s0.2.2.1-1)) x188.2 m1_0 m1_1 m1_2 m1_3 m1_4 m1_5) (hrc t0 t1 t2 t3 (w64 (x188.1+1)) s0.2.1 (w64 (s0.2.2.1-1)) x188.2 m1_0 m1_1 m1_2 m1_3 m1_4 m1_5) fun x196 hx196=>?_
          conv=>arg 3; whnf
          exact Zd (ih _)
     ·conv=>arg 3; whnf
      refine Ze rfl ?_ ?_
      ·conv=>arg 3; whnf
       refine Zk rfl rfl fun x197 hx197=>?_
       conv=>arg 3; whnf
       refine Zf (Zz rfl hx197) ?_
       conv=>arg 3; whnf
       refine Zk rfl rfl fun x198 hx198=>?_
       conv=>arg 3; whnf
       refine Zf (Zz rfl hx198) ?_
       conv=>arg 3; whnf
       refine ZA _ ZD rfl fun x199 hx199=>?_
       conv=>arg 3; whnf
       refine Ze rfl ?_ ?_
       ·conv=>arg 3; whnf
        refine Zc _ Zj fun x200 hx200=>?_
        clear hx200
        rcases x200 with x200 | x200
        ·conv=>arg 3; whnf
         refine Zcl rfl ?_
         conv=>arg 3; whnf
         refine Zah rfl ?_
         conv=>arg 3; whnf
         refine Ze rfl ?_ ?_
         ·conv=>arg 3; whnf
          refine Ze rfl ?_ ?_
          ·conv=>arg 3; whnf
           refine Zc (Za t0 t1 t2 t3 s0.1 x200.1 (w64 (s0.2.2.1-1)) x200.2 m1_0 m1_1 m1_2 m1_3 m1_4 m1_5) (hrc t0 t1 t2 t3 s0.1 x200.1 (w64 (s0.2.2.1-1)) x200.2 m1_0 m1_1 m1_2 m1_3 m1_4 m1_5) fun x201 hx201=>?_
           conv=>arg 3; whnf
           exact Zd (ih _)
          ·conv=>arg 3; whnf
           refine Zc (Za t0 t1 t2 t3 s0.1 x200.1 (w64 (s0.2.2.1-1)) x200.2 m1_0 m1_1 m1_2 m1_3 m1_4 m1_5) (hrc t0 t1 t2 t3 s0.1 x200.1 (w64 (s0.2.2.1-1)) x200.2 m1_0 m1_1 m1_2 m1_3 m1_4 m1_5) fun x202 hx202=>?_
           conv=>arg 3; whnf
           exact Zd (ih _)
         ·conv=>arg 3; whnf
          refine Ze rfl ?_ ?_
          ·conv=>arg 3; whnf
           refine Zc (Za t0 t1 t2 t3 (w64 (x200.1+1)) s0.2.1 (w64 (s0.2.2.1-1)) x200.2 m1_0 m1_1 m1_2 m1_3 m1_4 m1_5) (hrc t0 t1 t2 t3 (w64 (x200.1+1)) s0.2.1 (w64 (s0.2.2.1-1)) x200.2 m1_0 m1_1 m1_2 m1_3 m1_4 m1_5) fun x203 hx203=>?_
           conv=>arg 3; whnf
           exact Zd (ih _)
          ·conv=>arg 3; whnf
           refine Zc (Za t0 t1 t2 t3 (w64 (x200.1+1)) s0.2.1 (w64 (s0.2.2.1-1)) x200.2 m1_0 m1_1 m1_2 m1_3 m1_4 m1_5) (hrc t0 t1 t2 t3 (w64 (x200.1+1)) s0.2.1 (w64 (s0.2.2.1-1)) x200.2 m1_0 m1_1 m1_2 m1_3 m1_4 m1_5) fun x204 hx204=>?_
           conv=>arg 3; whnf
           exact Zd (ih _)
        ·conv=>arg 3; whnf
         refine Zah rfl ?_
         conv=>arg 3; whnf
         refine Zah rfl ?_
         conv=>arg 3; whnf
         refine Ze rfl ?_ ?_
         ·conv=>arg 3; whnf
          refine Ze rfl ?_ ?_
          ·conv=>arg 3; whnf
           refine Zc (Za t0 t1 t2 t3 s0.1 x200.1 (w64 (s0.2.2.1-1)) x200.2 m1_0 m1_1 m1_2 m1_3 m1_4 m1_5) (hrc t0 t1 t2 t3 s0.1 x200.1 (w64 (s0.2.2.1-1)) x200.2 m1_0 m1_1 m1_2 m1_3 m1_4 m1_5) fun x205 hx205=>?_
           conv=>arg 3; whnf
           exact Zd (ih _)
          ·conv=>arg 3; whnf
           refine Zc (Za t0 t1 t2 t3 s0.1 x200.1 (w64 (s0.2.2.1-1)) x200.2 m1_0 m1_1 m1_2 m1_3 m1_4 m1_5) (hrc t0 t1 t2 t3 s0.1 x200.1 (w64 (s0.2.2.1-1)) x200.2 m1_0 m1_1 m1_2 m1_3 m1_4 m1_5) fun x206 hx206=>?_
           conv=>arg 3; whnf
           exact Zd (ih _)
         ·conv=>arg 3; whnf
          refine Ze rfl ?_ ?_
          ·conv=>arg 3; whnf
           refine Zc (Za t0 t1 t2 t3 (w64 (x200.1+1)) s0.2.1 (w64 (s0.2.2.1-1)) x200.2 m1_0 m1_1 m1_2 m1_3 m1_4 m1_5) (hrc t0 t1 t2 t3 (w64 (x200.1+1)) s0.2.1 (w64 (s0.2.2.1-1)) x200.2 m1_0 m1_1 m1_2 m1_3 m1_4 m1_5) fun x207 hx207=>?_
           conv=>arg 3; whnf
           exact Zd (ih _)
          ·conv=>arg 3; whnf
           refine Zc (Za t0 t1 t2 t3 (w64 (x200.1+1)) s0.2.1 (w64 (s0.2.2.1-1)) x200.2 m1_0 m1_1 m1_2 m1_3 m1_4 m1_5) (hrc t0 t1 t2 t3 (w64 (x200.1+1)) s0.2.1 (w64 (s0.2.2.1-1)) x200.2 m1_0 m1_1 m1_2 m1_3 m1_4 m1_5) fun x208 hx208=>?_
           conv=>arg 3; whnf
           exact Zd (ih _)
       ·conv=>arg 3; whnf
        refine Zc _ Zx fun x209 hx209=>?_
        conv=>arg 3; whnf
        exact Zd (ih _)
      ·conv=>arg 3; whnf
       refine Zc _ Zj fun x210 hx210=>?_
       clear hx210
       rcases x210 with x210 | x210
       ·conv=>arg 3; whnf
        refine Zcl rfl ?_
        conv=>arg 3; whnf
        refine Zah rfl ?_
        conv=>arg 3; whnf
        refine Ze rfl ?_ ?_
        ·conv=>arg 3; whnf
         refine Ze rfl ?_ ?_
         ·conv=>arg 3; whnf
          refine Zc (Za t0 t1 t2 t3 s0.1 x210.1 (w64 (s0.2.2.1-1)) x210.2 m1_0 m1_1 m1_2 m1_3 m1_4 m1_5) (hrc t0 t1 t2 t3 s0.1 x210.1 (w64 (s0.2.2.1-1)) x210.2 m1_0 m1_1 m1_2 m1_3 m1_4 m1_5) fun x211 hx211=>?_
          conv=>arg 3; whnf
          exact Zd (ih _)
         ·conv=>arg 3; whnf
          refine Zc (Za t0 t1 t2 t3 s0.1 x210.1 (w64 (s0.2.2.1-1)) x210.2 m1_0 m1_1 m1_2 m1_3 m1_4 m1_5) (hrc t0 t1 t2 t3 s0.1 x210.1 (w64 (s0.2.2.1-1)) x210.2 m1_0 m1_1 m1_2 m1_3 m1_4 m1_5) fun x212 hx212=>?_
          conv=>arg 3; whnf
          exact Zd (ih _)
        ·conv=>arg 3; whnf
         refine Ze rfl ?_ ?_
         ·conv=>arg 3; whnf
          refine Zc (Za t0 t1 t2 t3 (w64 (x210.1+1)) s0.2.1 (w64 (s0.2.2.1-1)) x210.2 m1_0 m1_1 m1_2 m1_3 m1_4 m1_5) (hrc t0 t1 t2 t3 (w64 (x210.1+1)) s0.2.1 (w64 (s0.2.2.1-1)) x210.2 m1_0 m1_1 m1_2 m1_3 m1_4 m1_5) fun x213 hx213=>?_
          conv=>arg 3; whnf
          exact Zd (ih _)
         ·conv=>arg 3; whnf
          refine Zc (Za t0 t1 t2 t3 (w64 (x210.1+1)) s0.2.1 (w64 (s0.2.2.1-1)) x210.2 m1_0 m1_1 m1_2 m1_3 m1_4 m1_5) (hrc t0 t1 t2 t3 (w64 (x210.1+1)) s0.2.1 (w64 (s0.2.2.1-1)) x210.2 m1_0 m1_1 m1_2 m1_3 m1_4 m1_5) fun x214 hx214=>?_
          conv=>arg 3; whnf
          exact Zd (ih _)
       ·conv=>arg 3; whnf
        refine Zah rfl ?_
        conv=>arg 3; whnf
        refine Zah rfl ?_
        conv=>arg 3; whnf
        refine Ze rfl ?_ ?_
        ·conv=>arg 3; whnf
         refine Ze rfl ?_ ?_
         ·conv=>arg 3; whnf
          refine Zc (Za t0 t1 t2 t3 s0.1 x210.1 (w64 (s0.2.2.1-1)) x210.2 m1_0 m1_1 m1_2 m1_3 m1_4 m1_5) (hrc t0 t1 t2 t3 s0.1 x210.1 (w64 (s0.2.2.1-1)) x210.2 m1_0 m1_1 m1_2 m1_3 m1_4 m1_5) fun x215 hx215=>?_
          conv=>arg 3; whnf
          exact Zd (ih _)
         ·conv=>arg 3; whnf
          refine Zc (Za t0 t1 t2 t3 s0.1 x210.1 (w64 (s0.2.2.1-1)) x210.2 m1_0 m1_1 m1_2 m1_3 m1_4 m1_5) (hrc t0 t1 t2 t3 s0.1 x210.1 (w64 (s0.2.2.1-1)) x210.2 m1_0 m1_1 m1_2 m1_3 m1_4 m1_5) fun x216 hx216=>?_
          conv=>arg 3; whnf
          exact Zd (ih _)
        ·conv=>arg 3; whnf
         refine Ze rfl ?_ ?_
         ·conv=>arg 3; whnf
          refine Zc (Za t0 t1 t2 t3 (w64 (x210.1+1)) s0.2.1 (w64 (s0.2.2.1-1)) x210.2 m1_0 m1_1 m1_2 m1_3 m1_4 m1_5) (hrc t0 t1 t2 t3 (w64 (x210.1+1)) s0.2.1 (w64 (s0.2.2.1-1)) x210.2 m1_0 m1_1 m1_2 m1_3 m1_4 m1_5) fun x217 hx217=>?_
          conv=>arg 3; whnf
          exact Zd (ih _)
         ·conv=>arg 3; whnf
          refine Zc (Za t0 t1 t2 t3 (w64 (x210.1+1)) s0.2.1 (w64 (s0.2.2.1-1)) x210.2 m1_0 m1_1 m1_2 m1_3 m1_4 m1_5) (hrc t0 t1 t2 t3 (w64 (x210.1+1)) s0.2.1 (w64 (s0.2.2.1-1)) x210.2 m1_0 m1_1 m1_2 m1_3 m1_4 m1_5) fun x218 hx218=>?_
          conv=>arg 3; whnf
          exact Zd (ih _)
  ·refine ZpL ?_
   conv=>arg 3; whnf
   refine Ze rfl ?_ ?_
   ·conv=>arg 3; whnf
    refine Zc _ Z5 fun x121 hx121=>?_
    conv=>arg 3; whnf
    exact Zg rfl
   ·conv=>arg 3; whnf
    refine Ze rfl ?_ ?_
    ·conv=>arg 3; whnf
     refine Zc _ Zam fun x122 hx122=>?_
     conv=>arg 3; whnf
     exact Zg rfl
    ·conv=>arg 3; whnf
     refine Zc _ Zbt fun x123 hx123=>?_
     conv=>arg 3; whnf
     refine Zc _ Zad fun x124 hx124=>?_
     conv=>arg 3; whnf
     refine Ze rfl ?_ ?_
     ·conv=>arg 3; whnf
      refine Zc _ Zac fun x125 hx125=>?_
      conv=>arg 3; whnf
      refine Ze rfl ?_ ?_
      ·conv=>arg 3; whnf
       refine Zk rfl rfl fun x126 hx126=>?_
       conv=>arg 3; whnf
       refine Zf (Zz rfl hx126) ?_
       conv=>arg 3; whnf
       refine Zk rfl rfl fun x127 hx127=>?_
       conv=>arg 3; whnf
       refine Zf (Zz rfl hx127) ?_
       conv=>arg 3; whnf
       refine ZA _ ZD rfl fun x128 hx128=>?_
       conv=>arg 3; whnf
       refine Ze rfl ?_ ?_
       ·conv=>arg 3; whnf
        refine Zc _ Zj fun x129 hx129=>?_
        clear hx129
        rcases x129 with x129 | x129
        ·conv=>arg 3; whnf
         refine Zcl rfl ?_
         conv=>arg 3; whnf
         refine Zah rfl ?_
         conv=>arg 3; whnf
         refine Ze rfl ?_ ?_
         ·conv=>arg 3; whnf
          refine Ze rfl ?_ ?_
          ·conv=>arg 3; whnf
           refine Zc (Za t0 t1 t2 t3 s0.1 x129.1 (w64 (s0.2.2.1-1)) x129.2 m1_0 m1_1 m1_2 m1_3 m1_4 m1_5) (hrc t0 t1 t2 t3 s0.1 x129.1 (w64 (s0.2.2.1-1)) x129.2 m1_0 m1_1 m1_2 m1_3 m1_4 m1_5) fun x130 hx130=>?_
           conv=>arg 3; whnf
           exact Zd (ih _)
          ·conv=>arg 3; whnf
           refine Zc (Za t0 t1 t2 t3 s0.1 x129.1 (w64 (s0.2.2.1-1)) x129.2 m1_0 m1_1 m1_2 m1_3 m1_4 m1_5) (hrc t0 t1 t2 t3 s0.1 x129.1 (w64 (s0.2.2.1-1)) x129.2 m1_0 m1_1 m1_2 m1_3 m1_4 m1_5) fun x131 hx131=>?_
           conv=>arg 3; whnf
           exact Zd (ih _)
         ·conv=>arg 3; whnf
          refine Ze rfl ?_ ?_
          ·conv=>arg 3; whnf
           refine Zc (Za t0 t1 t2 t3 (w64 (x129.1+1)) s0.2.1 (w64 (s0.2.2.1-1)) x129.2 m1_0 m1_1 m1_2 m1_3 m1_4 m1_5) (hrc t0 t1 t2 t3 (w64 (x129.1+1)) s0.2.1 (w64 (s0.2.2.1-1)) x129.2 m1_0 m1_1 m1_2 m1_3 m1_4 m1_5) fun x132 hx132=>?_
           conv=>arg 3; whnf
           exact Zd (ih _)
          ·conv=>arg 3; whnf
           refine Zc (Za t0 t1 t2 t3 (w64 (x129.1+1)) s0.2.1 (w64 (s0.2.2.1-1)) x129.2 m1_0 m1_1 m1_2 m1_3 m1_4 m1_5) (hrc t0 t1 t2 t3 (w64 (x129.1+1)) s0.2.1 (w64 (s0.2.2.1-1)) x129.2 m1_0 m1_1 m1_2 m1_3 m1_4 m1_5) fun x133 hx133=>?_
           conv=>arg 3; whnf
           exact Zd (ih _)
        ·conv=>arg 3; whnf
         refine Zah rfl ?_
         conv=>arg 3; whnf
         refine Zah rfl ?_
         conv=>arg 3; whnf
         refine Ze rfl ?_ ?_
         ·conv=>arg 3; whnf
          refine Ze rfl ?_ ?_
          ·conv=>arg 3; whnf
           refine Zc (Za t0 t1 t2 t3 s0.1 x129.1 (w64 (s0.2.2.1-1)) x129.2 m1_0 m1_1 m1_2 m1_3 m1_4 m1_5) (hrc t0 t1 t2 t3 s0.1 x129.1 (w64 (s0.2.2.1-1)) x129.2 m1_0 m1_1 m1_2 m1_3 m1_4 m1_5) fun x134 hx134=>?_
           conv=>arg 3; whnf
           exact Zd (ih _)
          ·conv=>arg 3; whnf
           refine Zc (Za t0 t1 t2 t3 s0.1 x129.1 (w64 (s0.2.2.1-1)) x129.2 m1_0 m1_1 m1_2 m1_3 m1_4 m1_5) (hrc t0 t1 t2 t3 s0.1 x129.1 (w64 (s0.2.2.1-1)) x129.2 m1_0 m1_1 m1_2 m1_3 m1_4 m1_5) fun x135 hx135=>?_
           conv=>arg 3; whnf
           exact Zd (ih _)
         ·conv=>arg 3; whnf
          refine Ze rfl ?_ ?_
          ·conv=>arg 3; whnf
           refine Zc (Za t0 t1 t2 t3 (w64 (x129.1+1)) s0.2.1 (w64 (s0.2.2.1-1)) x129.2 m1_0 m1_1 m1_2 m1_3 m1_4 m1_5) (hrc t0 t1 t2 t3 (w64 (x129.1+1)) s0.2.1 (w64 (s0.2.2.1-1)) x129.2 m1_0 m1_1 m1_2 m1_3 m1_4 m1_5) fun x136 hx136=>?_
           conv=>arg 3; whnf
           exact Zd (ih _)
          ·conv=>arg 3; whnf
           refine Zc (Za t0 t1 t2 t3 (w64 (x129.1+1)) s0.2.1 (w64 (s0.2.2.1-1)) x129.2 m1_0 m1_1 m1_2 m1_3 m1_4 m1_5) (hrc t0 t1 t2 t3 (w64 (x129.1+1)) s0.2.1 (w64 (s0.2.2.1-1)) x129.2 m1_0 m1_1 m1_2 m1_3 m1_4 m1_5) fun x137 hx137=>?_
           conv=>arg 3; whnf
           exact Zd (ih _)
       ·conv=>arg 3; whnf
        refine Zc _ Zx fun x138 hx138=>?_
        conv=>arg 3; whnf
        exact Zd (ih _)
      ·conv=>arg 3; whnf
       refine Zc _ Zj fun x139 hx139=>?_
       clear hx139
       rcases x139 with x139 | x139
       ·conv=>arg 3; whnf
        refine Zcl rfl ?_
        conv=>arg 3; whnf
        refine Zah rfl ?_
        conv=>arg 3; whnf
        refine Ze rfl ?_ ?_
        ·conv=>arg 3; whnf
         refine Ze rfl ?_ ?_
         ·conv=>arg 3; whnf
          refine Zc (Za t0 t1 t2 t3 s0.1 x139.1 (w64 (s0.2.2.1-1)) x139.2 m1_0 m1_1 m1_2 m1_3 m1_4 m1_5) (hrc t0 t1 t2 t3 s0.1 x139.1 (w64 (s0.2.2.1-1)) x139.2 m1_0 m1_1 m1_2 m1_3 m1_4 m1_5) fun x140 hx140=>?_
          conv=>arg 3; whnf
          exact Zd (ih _)
         ·conv=>arg 3; whnf
          refine Zc (Za t0 t1 t2 t3 s0.1 x139.1 (w64 (s0.2.2.1-1)) x139.2 m1_0 m1_1 m1_2 m1_3 m1_4 m1_5) (hrc t0 t1 t2 t3 s0.1 x139.1 (w64 (s0.2.2.1-1)) x139.2 m1_0 m1_1 m1_2 m1_3 m1_4 m1_5) fun x141 hx141=>?_
          conv=>arg 3; whnf
          exact Zd (ih _)
        ·conv=>arg 3; whnf
         refine Ze rfl ?_ ?_
         ·conv=>arg 3; whnf
          refine Zc (Za t0 t1 t2 t3 (w64 (x139.1+1)) s0.2.1 (w64 (s0.2.2.1-1)) x139.2 m1_0 m1_1 m1_2 m1_3 m1_4 m1_5) (hrc t0 t1 t2 t3 (w64 (x139.1+1)) s0.2.1 (w64 (s0.2.2.1-1)) x139.2 m1_0 m1_1 m1_2 m1_3 m1_4 m1_5) fun x142 hx142=>?_
          conv=>arg 3; whnf
          exact Zd (ih _)
         ·conv=>arg 3; whnf
          refine Zc (Za t0 t1 t2 t3 (w64 (x139.1+1)) s0.2.1 (w64 (s0.2.2.1-1)) x139.2 m1_0 m1_1 m1_2 m1_3 m1_4 m1_5) (hrc t0 t1 t2 t3 (w64 (x139.1+1)) s0.2.1 (w64 (s0.2.2.1-1)) x139.2 m1_0 m1_1 m1_2 m1_3 m1_4 m1_5) fun x143 hx143=>?_
          conv=>arg 3; whnf
          exact Zd (ih _)
       ·conv=>arg 3; whnf
        refine Zah rfl ?_
        conv=>arg 3; whnf
        refine Zah rfl ?_
        conv=>arg 3; whnf
        refine Ze rfl ?_ ?_
        ·conv=>arg 3; whnf
         refine Ze rfl ?_ ?_
         ·conv=>arg 3; whnf
          refine Zc (Za t0 t1 t2 t3 s0.1 x139.1 (w64 (s0.2.2.1-1)) x139.2 m1_0 m1_1 m1_2 m1_3 m1_4 m1_5) (hrc t0 t1 t2 t3 s0.1 x139.1 (w64 (s0.2.2.1-1)) x139.2 m1_0 m1_1 m1_2 m1_3 m1_4 m1_5) fun x144 hx144=>?_
          conv=>arg 3; whnf
          exact Zd (ih _)
         ·conv=>arg 3; whnf
          refine Zc (Za t0 t1 t2 t3 s0.1 x139.1 (w64 (s0.2.2.1-1)) x139.2 m1_0 m1_1 m1_2 m1_3 m1_4 m1_5) (hrc t0 t1 t2 t3 s0.1 x139.1 (w64 (s0.2.2.1-1)) x139.2 m1_0 m1_1 m1_2 m1_3 m1_4 m1_5) fun x145 hx145=>?_
          conv=>arg 3; whnf
          exact Zd (ih _)
        ·conv=>arg 3; whnf
         refine Ze rfl ?_ ?_
         ·conv=>arg 3; whnf
          refine Zc (Za t0 t1 t2 t3 (w64 (x139.1+1)) s0.2.1 (w64 (s0.2.2.1-1)) x139.2 m1_0 m1_1 m1_2 m1_3 m1_4 m1_5) (hrc t0 t1 t2 t3 (w64 (x139.1+1)) s0.2.1 (w64 (s0.2.2.1-1)) x139.2 m1_0 m1_1 m1_2 m1_3 m1_4 m1_5) fun x146 hx146=>?_
          conv=>arg 3; whnf
          exact Zd (ih _)
         ·conv=>arg 3; whnf
          refine Zc (Za t0 t1 t2 t3 (w64 (x139.1+1)) s0.2.1 (w64 (s0.2.2.1-1)) x139.2 m1_0 m1_1 m1_2 m1_3 m1_4 m1_5) (hrc t0 t1 t2 t3 (w64 (x139.1+1)) s0.2.1 (w64 (s0.2.2.1-1)) x139.2 m1_0 m1_1 m1_2 m1_3 m1_4 m1_5) fun x147 hx147=>?_
          conv=>arg 3; whnf
          exact Zd (ih _)
     ·conv=>arg 3; whnf
      refine Ze rfl ?_ ?_
      ·conv=>arg 3; whnf
       refine Zk rfl rfl fun x148 hx148=>?_
       conv=>arg 3; whnf
       refine Zf (Zz rfl hx148) ?_
       conv=>arg 3; whnf
       refine Zk rfl rfl fun x149 hx149=>?_
       conv=>arg 3; whnf
       refine Zf (Zz rfl hx149) ?_
       conv=>arg 3; whnf
       refine ZA _ ZD rfl fun x150 hx150=>?_
       conv=>arg 3; whnf
       refine Ze rfl ?_ ?_
       ·conv=>arg 3; whnf
        refine Zc _ Zj fun x151 hx151=>?_
        clear hx151
        rcases x151 with x151 | x151
        ·conv=>arg 3; whnf
         refine Zcl rfl ?_
         conv=>arg 3; whnf
         refine Zah rfl ?_
         conv=>arg 3; whnf
         refine Ze rfl ?_ ?_
         ·conv=>arg 3; whnf
          refine Ze rfl ?_ ?_
          ·conv=>arg 3; whnf
           refine Zc (Za t0 t1 t2 t3 s0.1 x151.1 (w64 (s0.2.2.1-1)) x151.2 m1_0 m1_1 m1_2 m1_3 m1_4 m1_5) (hrc t0 t1 t2 t3 s0.1 x151.1 (w64 (s0.2.2.1-1)) x151.2 m1_0 m1_1 m1_2 m1_3 m1_4 m1_5) fun x152 hx152=>?_
           conv=>arg 3; whnf
           exact Zd (ih _)
          ·conv=>arg 3; whnf
           refine Zc (Za t0 t1 t2 t3 s0.1 x151.1 (w64 (s0.2.2.1-1)) x151.2 m1_0 m1_1 m1_2 m1_3 m1_4 m1_5) (hrc t0 t1 t2 t3 s0.1 x151.1 (w64 (s0.2.2.1-1)) x151.2 m1_0 m1_1 m1_2 m1_3 m1_4 m1_5) fun x153 hx153=>?_
           conv=>arg 3; whnf
           exact Zd (ih _)
         ·conv=>arg 3; whnf
          refine Ze rfl ?_ ?_
          ·conv=>arg 3; whnf
           refine Zc (Za t0 t1 t2 t3 (w64 (x151.1+1)) s0.2.1 (w64 (s0.2.2.1-1)) x151.2 m1_0 m1_1 m1_2 m1_3 m1_4 m1_5) (hrc t0 t1 t2 t3 (w64 (x151.1+1)) s0.2.1 (w64 (s0.2.2.1-1)) x151.2 m1_0 m1_1 m1_2 m1_3 m1_4 m1_5) fun x154 hx154=>?_
           conv=>arg 3; whnf
           exact Zd (ih _)
          ·conv=>arg 3; whnf
           refine Zc (Za t0 t1 t2 t3 (w64 (x151.1+1)) s0.2.1 (w64 (s0.2.2.1-1)) x151.2 m1_0 m1_1 m1_2 m1_3 m1_4 m1_5) (hrc t0 t1 t2 t3 (w64 (x151.1+1)) s0.2.1 (w64 (s0.2.2.1-1)) x151.2 m1_0 m1_1 m1_2 m1_3 m1_4 m1_5) fun x155 hx155=>?_
           conv=>arg 3; whnf
           exact Zd (ih _)
        ·conv=>arg 3; whnf
         refine Zah rfl ?_
         conv=>arg 3; whnf
         refine Zah rfl ?_
         conv=>arg 3; whnf
         refine Ze rfl ?_ ?_
         ·conv=>arg 3; whnf
          refine Ze rfl ?_ ?_
          ·conv=>arg 3; whnf
           refine Zc (Za t0 t1 t2 t3 s0.1 x151.1 (w64 (s0.2.2.1-1)) x151.2 m1_0 m1_1 m1_2 m1_3 m1_4 m1_5) (hrc t0 t1 t2 t3 s0.1 x151.1 (w64 (s0.2.2.1-1)) x151.2 m1_0 m1_1 m1_2 m1_3 m1_4 m1_5) fun x156 hx156=>?_
           conv=>arg 3; whnf
           exact Zd (ih _)
          ·conv=>arg 3; whnf
           refine Zc (Za t0 t1 t2 t3 s0.1 x151.1 (w64 (s0.2.2.1-1)) x151.2 m1_0 m1_1 m1_2 m1_3 m1_4 m1_5) (hrc t0 t1 t2 t3 s0.1 x151.1 (w64 (s0.2.2.1-1)) x151.2 m1_0 m1_1 m1_2 m1_3 m1_4 m1_5) fun x157 hx157=>?_
           conv=>arg 3; whnf
           exact Zd (ih _)
         ·conv=>arg 3; whnf
          refine Ze rfl ?_ ?_
          ·conv=>arg 3; whnf
           refine Zc (Za t0 t1 t2 t3 (w64 (x151.1+1)) s0.2.1 (w64 (s0.2.2.1-1)) x151.2 m1_0 m1_1 m1_2 m1_3 m1_4 m1_5) (hrc t0 t1 t2 t3 (w64 (x151.1+1)) s0.2.1 (w64 (s0.2.2.1-1)) x151.2 m1_0 m1_1 m1_2 m1_3 m1_4 m1_5) fun x158 hx158=>?_
           conv=>arg 3; whnf
           exact Zd (ih _)
          ·conv=>arg 3; whnf
           refine Zc (Za t0 t1 t2 t3 (w64 (x151.1+1)) s0.2.1 (w64 (s0.2.2.1-1)) x151.2 m1_0 m1_1 m1_2 m1_3 m1_4 m1_5) (hrc t0 t1 t2 t3 (w64 (x151.1+1)) s0.2.1 (w64 (s0.2.2.1-1)) x151.2 m1_0 m1_1 m1_2 m1_3 m1_4 m1_5) fun x159 hx159=>?_
           conv=>arg 3; whnf
           exact Zd (ih _)
       ·conv=>arg 3; whnf
        refine Zc _ Zx fun x160 hx160=>?_
        conv=>arg 3; whnf
        exact Zd (ih _)
      ·conv=>arg 3; whnf
       refine Zc _ Zj fun x161 hx161=>?_
       clear hx161
       rcases x161 with x161 | x161
       ·conv=>arg 3; whnf
        refine Zcl rfl ?_
        conv=>arg 3; whnf
        refine Zah rfl ?_
        conv=>arg 3; whnf
        refine Ze rfl ?_ ?_
        ·conv=>arg 3; whnf
         refine Ze rfl ?_ ?_
         ·conv=>arg 3; whnf
          refine Zc (Za t0 t1 t2 t3 s0.1 x161.1 (w64 (s0.2.2.1-1)) x161.2 m1_0 m1_1 m1_2 m1_3 m1_4 m1_5) (hrc t0 t1 t2 t3 s0.1 x161.1 (w64 (s0.2.2.1-1)) x161.2 m1_0 m1_1 m1_2 m1_3 m1_4 m1_5) fun x162 hx162=>?_
          conv=>arg 3; whnf
          exact Zd (ih _)
         ·conv=>arg 3; whnf
          refine Zc (Za t0 t1 t2 t3 s0.1 x161.1 (w64 (s0.2.2.1-1)) x161.2 m1_0 m1_1 m1_2 m1_3 m1_4 m1_5) (hrc t0 t1 t2 t3 s0.1 x161.1 (w64 (s0.2.2.1-1)) x161.2 m1_0 m1_1 m1_2 m1_3 m1_4 m1_5) fun x163 hx163=>?_
          conv=>arg 3; whnf
          exact Zd (ih _)
        ·conv=>arg 3; whnf
         refine Ze rfl ?_ ?_
         ·conv=>arg 3; whnf
          refine Zc (Za t0 t1 t2 t3 (w64 (x161.1+1)) s0.2.1 (w64 (s0.2.2.1-1)) x161.2 m1_0 m1_1 m1_2 m1_3 m1_4 m1_5) (hrc t0 t1 t2 t3 (w64 (x161.1+1)) s0.2.1 (w64 (s0.2.2.1-1)) x161.2 m1_0 m1_1 m1_2 m1_3 m1_4 m1_5) fun x164 hx164=>?_
          conv=>arg 3; whnf
          exact Zd (ih _)
         ·conv=>arg 3; whnf
          refine Zc (Za t0 t1 t2 t3 (w64 (x161.1+1)) s0.2.1 (w64 (s0.2.2.1-1)) x161.2 m1_0 m1_1 m1_2 m1_3 m1_4 m1_5) (hrc t0 t1 t2 t3 (w64 (x161.1+1)) s0.2.1 (w64 (s0.2.2.1-1)) x161.2 m1_0 m1_1 m1_2 m1_3 m1_4 m1_5) fun x165 hx165=>?_
          conv=>arg 3; whnf
          exact Zd (ih _)
       ·conv=>arg 3; whnf
        refine Zah rfl ?_
        conv=>arg 3; whnf
        refine Zah rfl ?_
        conv=>arg 3; whnf
        refine Ze rfl ?_ ?_
        ·conv=>arg 3; whnf
         refine Ze rfl ?_ ?_
         ·conv=>arg 3; whnf
          refine Zc (Za t0 t1 t2 t3 s0.1 x161.1 (w64 (s0.2.2.1-1)) x161.2 m1_0 m1_1 m1_2 m1_3 m1_4 m1_5) (hrc t0 t1 t2 t3 s0.1 x161.1 (w64 (s0.2.2.1-1)) x161.2 m1_0 m1_1 m1_2 m1_3 m1_4 m1_5) fun x166 hx166=>?_
          conv=>arg 3; whnf
          exact Zd (ih _)
         ·conv=>arg 3; whnf
          refine Zc (Za t0 t1 t2 t3 s0.1 x161.1 (w64 (s0.2.2.1-1)) x161.2 m1_0 m1_1 m1_2 m1_3 m1_4 m1_5) (hrc t0 t1 t2 t3 s0.1 x161.1 (w64 (s0.2.2.1-1)) x161.2 m1_0 m1_1 m1_2 m1_3 m1_4 m1_5) fun x167 hx167=>?_
          conv=>arg 3; whnf
          exact Zd (ih _)
        ·conv=>arg 3; whnf
         refine Ze rfl ?_ ?_
         ·conv=>arg 3; whnf
          refine Zc (Za t0 t1 t2 t3 (w64 (x161.1+1)) s0.2.1 (w64 (s0.2.2.1-1)) x161.2 m1_0 m1_1 m1_2 m1_3 m1_4 m1_5) (hrc t0 t1 t2 t3 (w64 (x161.1+1)) s0.2.1 (w64 (s0.2.2.1-1)) x161.2 m1_0 m1_1 m1_2 m1_3 m1_4 m1_5) fun x168 hx168=>?_
          conv=>arg 3; whnf
          exact Zd (ih _)
         ·conv=>arg 3; whnf
          refine Zc (Za t0 t1 t2 t3 (w64 (x161.1+1)) s0.2.1 (w64 (s0.2.2.1-1)) x161.2 m1_0 m1_1 m1_2 m1_3 m1_4 m1_5) (hrc t0 t1 t2 t3 (w64 (x161.1+1)) s0.2.1 (w64 (s0.2.2.1-1)) x161.2 m1_0 m1_1 m1_2 m1_3 m1_4 m1_5) fun x169 hx169=>?_
          conv=>arg 3; whnf
          exact Zd (ih _)
 ·refine ZpL ?_
  rcases hb:s0.2.2.2.2.1 with _ | _
  ·refine Zqo ?_
   conv=>arg 3; whnf
   refine Ze rfl ?_ ?_
   ·conv=>arg 3; whnf
    refine Zc _ Z5 fun x73 hx73=>?_
    conv=>arg 3; whnf
    exact Zg rfl
   ·conv=>arg 3; whnf
    refine Ze rfl ?_ ?_
    ·conv=>arg 3; whnf
     refine Zc _ Zam fun x74 hx74=>?_
     conv=>arg 3; whnf
     exact Zg rfl
    ·conv=>arg 3; whnf
     refine Zc _ Zad fun x75 hx75=>?_
     conv=>arg 3; whnf
     refine Ze rfl ?_ ?_
     ·conv=>arg 3; whnf
      refine Zc _ Zac fun x76 hx76=>?_
      conv=>arg 3; whnf
      refine Ze rfl ?_ ?_
      ·conv=>arg 3; whnf
       refine Zk rfl rfl fun x77 hx77=>?_
       conv=>arg 3; whnf
       refine Zf (Zz rfl hx77) ?_
       conv=>arg 3; whnf
       refine Zk rfl rfl fun x78 hx78=>?_
       conv=>arg 3; whnf
       refine Zf (Zz rfl hx78) ?_
       conv=>arg 3; whnf
       refine ZA _ ZD rfl fun x79 hx79=>?_
       conv=>arg 3; whnf
       refine Ze rfl ?_ ?_
       ·conv=>arg 3; whnf
        refine Zc _ Zj fun x80 hx80=>?_
        clear hx80
        rcases x80 with x80 | x80
        ·conv=>arg 3; whnf
         refine Zcl rfl ?_
         conv=>arg 3; whnf
         refine Zah rfl ?_
         conv=>arg 3; whnf
         refine Ze rfl ?_ ?_
         ·conv=>arg 3; whnf
          refine Ze rfl ?_ ?_
          ·conv=>arg 3; whnf
           refine Zc (Za t0 t1 t2 t3 s0.1 x80.1 s0.2.2.1 x80.2 m1_0 m1_1 m1_2 m1_3 m1_4 m1_5) (hrc t0 t1 t2 t3 s0.1 x80.1 s0.2.2.1 x80.2 m1_0 m1_1 m1_2 m1_3 m1_4 m1_5) fun x81 hx81=>?_
           conv=>arg 3; whnf
           exact Zd (ih _)
          ·conv=>arg 3; whnf
           refine Zc (Za t0 t1 t2 t3 s0.1 x80.1 s0.2.2.1 x80.2 m1_0 m1_1 m1_2 m1_3 m1_4 m1_5) (hrc t0 t1 t2 t3 s0.1 x80.1 s0.2.2.1 x80.2 m1_0 m1_1 m1_2 m1_3 m1_4 m1_5) fun x82 hx82=>?_
           conv=>arg 3; whnf
           exact Zd (ih _)
         ·conv=>arg 3; whnf
          refine Ze rfl ?_ ?_
          ·conv=>arg 3; whnf
           refine Zc (Za t0 t1 t2 t3 (w64 (x80.1+1)) s0.2.1 s0.2.2.1 x80.2 m1_0 m1_1 m1_2 m1_3 m1_4 m1_5) (hrc t0 t1 t2 t3 (w64 (x80.1+1)) s0.2.1 s0.2.2.1 x80.2 m1_0 m1_1 m1_2 m1_3 m1_4 m1_5) fun x83 hx83=>?_
           conv=>arg 3; whnf
           exact Zd (ih _)
          ·conv=>arg 3; whnf
           refine Zc (Za t0 t1 t2 t3 (w64 (x80.1+1)) s0.2.1 s0.2.2.1 x80.2 m1_0 m1_1 m1_2 m1_3 m1_4 m1_5) (hrc t0 t1 t2 t3 (w64 (x80.1+1)) s0.2.1 s0.2.2.1 x80.2 m1_0 m1_1 m1_2 m1_3 m1_4 m1_5) fun x84 hx84=>?_
           conv=>arg 3; whnf
           exact Zd (ih _)
        ·conv=>arg 3; whnf
         refine Zah rfl ?_
         conv=>arg 3; whnf
         refine Zah rfl ?_
         conv=>arg 3; whnf
         refine Ze rfl ?_ ?_
         ·conv=>arg 3; whnf
          refine Ze rfl ?_ ?_
          ·conv=>arg 3; whnf
           refine Zc (Za t0 t1 t2 t3 s0.1 x80.1 s0.2.2.1 x80.2 m1_0 m1_1 m1_2 m1_3 m1_4 m1_5) (hrc t0 t1 t2 t3 s0.1 x80.1 s0.2.2.1 x80.2 m1_0 m1_1 m1_2 m1_3 m1_4 m1_5) fun x85 hx85=>?_
           conv=>arg 3; whnf
           exact Zd (ih _)
          ·conv=>arg 3; whnf
           refine Zc (Za t0 t1 t2 t3 s0.1 x80.1 s0.2.2.1 x80.2 m1_0 m1_1 m1_2 m1_3 m1_4 m1_5) (hrc t0 t1 t2 t3 s0.1 x80.1 s0.2.2.1 x80.2 m1_0 m1_1 m1_2 m1_3 m1_4 m1_5) fun x86 hx86=>?_
           conv=>arg 3; whnf
           exact Zd (ih _)
         ·conv=>arg 3; whnf
          refine Ze rfl ?_ ?_
          ·conv=>arg 3; whnf
           refine Zc (Za t0 t1 t2 t3 (w64 (x80.1+1)) s0.2.1 s0.2.2.1 x80.2 m1_0 m1_1 m1_2 m1_3 m1_4 m1_5) (hrc t0 t1 t2 t3 (w64 (x80.1+1)) s0.2.1 s0.2.2.1 x80.2 m1_0 m1_1 m1_2 m1_3 m1_4 m1_5) fun x87 hx87=>?_
           conv=>arg 3; whnf
           exact Zd (ih _)
          ·conv=>arg 3; whnf
           refine Zc (Za t0 t1 t2 t3 (w64 (x80.1+1)) s0.2.1 s0.2.2.1 x80.2 m1_0 m1_1 m1_2 m1_3 m1_4 m1_5) (hrc t0 t1 t2 t3 (w64 (x80.1+1)) s0.2.1 s0.2.2.1 x80.2 m1_0 m1_1 m1_2 m1_3 m1_4 m1_5) fun x88 hx88=>?_
           conv=>arg 3; whnf
           exact Zd (ih _)
       ·conv=>arg 3; whnf
        refine Zc _ Zx fun x89 hx89=>?_
        conv=>arg 3; whnf
        exact Zd (ih _)
      ·conv=>arg 3; whnf
       refine Zc _ Zj fun x90 hx90=>?_
       clear hx90
       rcases x90 with x90 | x90
       ·conv=>arg 3; whnf
        refine Zcl rfl ?_
        conv=>arg 3; whnf
        refine Zah rfl ?_
        conv=>arg 3; whnf
        refine Ze rfl ?_ ?_
        ·conv=>arg 3; whnf
         refine Ze rfl ?_ ?_
         ·conv=>arg 3; whnf
          refine Zc (Za t0 t1 t2 t3 s0.1 x90.1 s0.2.2.1 x90.2 m1_0 m1_1 m1_2 m1_3 m1_4 m1_5) (hrc t0 t1 t2 t3 s0.1 x90.1 s0.2.2.1 x90.2 m1_0 m1_1 m1_2 m1_3 m1_4 m1_5) fun x91 hx91=>?_
          conv=>arg 3; whnf
          exact Zd (ih _)
         ·conv=>arg 3; whnf
          refine Zc (Za t0 t1 t2 t3 s0.1 x90.1 s0.2.2.1 x90.2 m1_0 m1_1 m1_2 m1_3 m1_4 m1_5) (hrc t0 t1 t2 t3 s0.1 x90.1 s0.2.2.1 x90.2 m1_0 m1_1 m1_2 m1_3 m1_4 m1_5) fun x92 hx92=>?_
          conv=>arg 3; whnf
          exact Zd (ih _)
        ·conv=>arg 3; whnf
         refine Ze rfl ?_ ?_
         ·conv=>arg 3; whnf
          refine Zc (Za t0 t1 t2 t3 (w64 (x90.1+1)) s0.2.1 s0.2.2.1 x90.2 m1_0 m1_1 m1_2 m1_3 m1_4 m1_5) (hrc t0 t1 t2 t3 (w64 (x90.1+1)) s0.2.1 s0.2.2.1 x90.2 m1_0 m1_1 m1_2 m1_3 m1_4 m1_5) fun x93 hx93=>?_
          conv=>arg 3; whnf
          exact Zd (ih _)
         ·conv=>arg 3; whnf
          refine Zc (Za t0 t1 t2 t3 (w64 (x90.1+1)) s0.2.1 s0.2.2.1 x90.2 m1_0 m1_1 m1_2 m1_3 m1_4 m1_5) (hrc t0 t1 t2 t3 (w64 (x90.1+1)) s0.2.1 s0.2.2.1 x90.2 m1_0 m1_1 m1_2 m1_3 m1_4 m1_5) fun x94 hx94=>?_
          conv=>arg 3; whnf
          exact Zd (ih _)
       ·conv=>arg 3; whnf
        refine Zah rfl ?_
        conv=>arg 3; whnf
        refine Zah rfl ?_
        conv=>arg 3; whnf
        refine Ze rfl ?_ ?_
        ·conv=>arg 3; whnf
         refine Ze rfl ?_ ?_
         ·conv=>arg 3; whnf
          refine Zc (Za t0 t1 t2 t3 s0.1 x90.1 s0.2.2.1 x90.2 m1_0 m1_1 m1_2 m1_3 m1_4 m1_5) (hrc t0 t1 t2 t3 s0.1 x90.1 s0.2.2.1 x90.2 m1_0 m1_1 m1_2 m1_3 m1_4 m1_5) fun x95 hx95=>?_
          conv=>arg 3; whnf
          exact Zd (ih _)
         ·conv=>arg 3; whnf
          refine Zc (Za t0 t1 t2 t3 s0.1 x90.1 s0.2.2.1 x90.2 m1_0 m1_1 m1_2 m1_3 m1_4 m1_5) (hrc t0 t1 t2 t3 s0.1 x90.1 s0.2.2.1 x90.2 m1_0 m1_1 m1_2 m1_3 m1_4 m1_5) fun x96 hx96=>?_
          conv=>arg 3; whnf
          exact Zd (ih _)
        ·conv=>arg 3; whnf
         refine Ze rfl ?_ ?_
         ·conv=>arg 3; whnf
          refine Zc (Za t0 t1 t2 t3 (w64 (x90.1+1)) s0.2.1 s0.2.2.1 x90.2 m1_0 m1_1 m1_2 m1_3 m1_4 m1_5) (hrc t0 t1 t2 t3 (w64 (x90.1+1)) s0.2.1 s0.2.2.1 x90.2 m1_0 m1_1 m1_2 m1_3 m1_4 m1_5) fun x97 hx97=>?_
          conv=>arg 3; whnf
          exact Zd (ih _)
         ·conv=>arg 3; whnf
          refine Zc (Za t0 t1 t2 t3 (w64 (x90.1+1)) s0.2.1 s0.2.2.1 x90.2 m1_0 m1_1 m1_2 m1_3 m1_4 m1_5) (hrc t0 t1 t2 t3 (w64 (x90.1+1)) s0.2.1 s0.2.2.1 x90.2 m1_0 m1_1 m1_2 m1_3 m1_4 m1_5) fun x98 hx98=>?_
          conv=>arg 3; whnf
          exact Zd (ih _)
     ·conv=>arg 3; whnf
      refine Ze rfl ?_ ?_
      ·conv=>arg 3; whnf
       refine Zk rfl rfl fun x99 hx99=>?_
       conv=>arg 3; whnf
       refine Zf (Zz rfl hx99) ?_
       conv=>arg 3; whnf
       refine Zk rfl rfl fun x100 hx100=>?_
       conv=>arg 3; whnf
       refine Zf (Zz rfl hx100) ?_
       conv=>arg 3; whnf
       refine ZA _ ZD rfl fun x101 hx101=>?_
       conv=>arg 3; whnf
       refine Ze rfl ?_ ?_
       ·conv=>arg 3; whnf
        refine Zc _ Zj fun x102 hx102=>?_
        clear hx102
        rcases x102 with x102 | x102
        ·conv=>arg 3; whnf
         refine Zcl rfl ?_
         conv=>arg 3; whnf
         refine Zah rfl ?_
         conv=>arg 3; whnf
         refine Ze rfl ?_ ?_
         ·conv=>arg 3; whnf
          refine Ze rfl ?_ ?_
          ·conv=>arg 3; whnf
           refine Zc (Za t0 t1 t2 t3 s0.1 x102.1 s0.2.2.1 x102.2 m1_0 m1_1 m1_2 m1_3 m1_4 m1_5) (hrc t0 t1 t2 t3 s0.1 x102.1 s0.2.2.1 x102.2 m1_0 m1_1 m1_2 m1_3 m1_4 m1_5) fun x103 hx103=>?_
           conv=>arg 3; whnf
           exact Zd (ih _)
          ·conv=>arg 3; whnf
           refine Zc (Za t0 t1 t2 t3 s0.1 x102.1 s0.2.2.1 x102.2 m1_0 m1_1 m1_2 m1_3 m1_4 m1_5) (hrc t0 t1 t2 t3 s0.1 x102.1 s0.2.2.1 x102.2 m1_0 m1_1 m1_2 m1_3 m1_4 m1_5) fun x104 hx104=>?_
           conv=>arg 3; whnf
           exact Zd (ih _)
         ·conv=>arg 3; whnf
          refine Ze rfl ?_ ?_
          ·conv=>arg 3; whnf
           refine Zc (Za t0 t1 t2 t3 (w64 (x102.1+1)) s0.2.1 s0.2.2.1 x102.2 m1_0 m1_1 m1_2 m1_3 m1_4 m1_5) (hrc t0 t1 t2 t3 (w64 (x102.1+1)) s0.2.1 s0.2.2.1 x102.2 m1_0 m1_1 m1_2 m1_3 m1_4 m1_5) fun x105 hx105=>?_
           conv=>arg 3; whnf
           exact Zd (ih _)
          ·conv=>arg 3; whnf
           refine Zc (Za t0 t1 t2 t3 (w64 (x102.1+1)) s0.2.1 s0.2.2.1 x102.2 m1_0 m1_1 m1_2 m1_3 m1_4 m1_5) (hrc t0 t1 t2 t3 (w64 (x102.1+1)) s0.2.1 s0.2.2.1 x102.2 m1_0 m1_1 m1_2 m1_3 m1_4 m1_5) fun x106 hx106=>?_
           conv=>arg 3; whnf
           exact Zd (ih _)
        ·conv=>arg 3; whnf
         refine Zah rfl ?_
         conv=>arg 3; whnf
         refine Zah rfl ?_
         conv=>arg 3; whnf
         refine Ze rfl ?_ ?_
         ·conv=>arg 3; whnf
          refine Ze rfl ?_ ?_
          ·conv=>arg 3; whnf
           refine Zc (Za t0 t1 t2 t3 s0.1 x102.1 s0.2.2.1 x102.2 m1_0 m1_1 m1_2 m1_3 m1_4 m1_5) (hrc t0 t1 t2 t3 s0.1 x102.1 s0.2.2.1 x102.2 m1_0 m1_1 m1_2 m1_3 m1_4 m1_5) fun x107 hx107=>?_
           conv=>arg 3; whnf
           exact Zd (ih _)
          ·conv=>arg 3; whnf
           refine Zc (Za t0 t1 t2 t3 s0.1 x102.1 s0.2.2.1 x102.2 m1_0 m1_1 m1_2 m1_3 m1_4 m1_5) (hrc t0 t1 t2 t3 s0.1 x102.1 s0.2.2.1 x102.2 m1_0 m1_1 m1_2 m1_3 m1_4 m1_5) fun x108 hx108=>?_
           conv=>arg 3; whnf
           exact Zd (ih _)
         ·conv=>arg 3; whnf
          refine Ze rfl ?_ ?_
          ·conv=>arg 3; whnf
           refine Zc (Za t0 t1 t2 t3 (w64 (x102.1+1)) s0.2.1 s0.2.2.1 x102.2 m1_0 m1_1 m1_2 m1_3 m1_4 m1_5) (hrc t0 t1 t2 t3 (w64 (x102.1+1)) s0.2.1 s0.2.2.1 x102.2 m1_0 m1_1 m1_2 m1_3 m1_4 m1_5) fun x109 hx109=>?_
           conv=>arg 3; whnf
           exact Zd (ih _)
          ·conv=>arg 3; whnf
           refine Zc (Za t0 t1 t2 t3 (w64 (x102.1+1)) s0.2.1 s0.2.2.1 x102.2 m1_0 m1_1 m1_2 m1_3 m1_4 m1_5) (hrc t0 t1 t2 t3 (w64 (x102.1+1)) s0.2.1 s0.2.2.1 x102.2 m1_0 m1_1 m1_2 m1_3 m1_4 m1_5) fun x110 hx110=>?_
           conv=>arg 3; whnf
           exact Zd (ih _)
       ·conv=>arg 3; whnf
        refine Zc _ Zx fun x111 hx111=>?_
        conv=>arg 3; whnf
        exact Zd (ih _)
      ·conv=>arg 3; whnf
       refine Zc _ Zj fun x112 hx112=>?_
       clear hx112
       rcases x112 with x112 | x112
       ·conv=>arg 3; whnf
        refine Zcl rfl ?_
        conv=>arg 3; whnf
        refine Zah rfl ?_
        conv=>arg 3; whnf
        refine Ze rfl ?_ ?_
        ·conv=>arg 3; whnf
         refine Ze rfl ?_ ?_
         ·conv=>arg 3; whnf
          refine Zc (Za t0 t1 t2 t3 s0.1 x112.1 s0.2.2.1 x112.2 m1_0 m1_1 m1_2 m1_3 m1_4 m1_5) (hrc t0 t1 t2 t3 s0.1 x112.1 s0.2.2.1 x112.2 m1_0 m1_1 m1_2 m1_3 m1_4 m1_5) fun x113 hx113=>?_
          conv=>arg 3; whnf
          exact Zd (ih _)
         ·conv=>arg 3; whnf
          refine Zc (Za t0 t1 t2 t3 s0.1 x112.1 s0.2.2.1 x112.2 m1_0 m1_1 m1_2 m1_3 m1_4 m1_5) (hrc t0 t1 t2 t3 s0.1 x112.1 s0.2.2.1 x112.2 m1_0 m1_1 m1_2 m1_3 m1_4 m1_5) fun x114 hx114=>?_
          conv=>arg 3; whnf
          exact Zd (ih _)
        ·conv=>arg 3; whnf
         refine Ze rfl ?_ ?_
         ·conv=>arg 3; whnf
          refine Zc (Za t0 t1 t2 t3 (w64 (x112.1+1)) s0.2.1 s0.2.2.1 x112.2 m1_0 m1_1 m1_2 m1_3 m1_4 m1_5) (hrc t0 t1 t2 t3 (w64 (x112.1+1)) s0.2.1 s0.2.2.1 x112.2 m1_0 m1_1 m1_2 m1_3 m1_4 m1_5) fun x115 hx115=>?_
          conv=>arg 3; whnf
          exact Zd (ih _)
         ·conv=>arg 3; whnf
          refine Zc (Za t0 t1 t2 t3 (w64 (x112.1+1)) s0.2.1 s0.2.2.1 x112.2 m1_0 m1_1 m1_2 m1_3 m1_4 m1_5) (hrc t0 t1 t2 t3 (w64 (x112.1+1)) s0.2.1 s0.2.2.1 x112.2 m1_0 m1_1 m1_2 m1_3 m1_4 m1_5) fun x116 hx116=>?_
          conv=>arg 3; whnf
          exact Zd (ih _)
       ·conv=>arg 3; whnf
        refine Zah rfl ?_
        conv=>arg 3; whnf
        refine Zah rfl ?_
        conv=>arg 3; whnf
        refine Ze rfl ?_ ?_
        ·conv=>arg 3; whnf
         refine Ze rfl ?_ ?_
         ·conv=>arg 3; whnf
          refine Zc (Za t0 t1 t2 t3 s0.1 x112.1 s0.2.2.1 x112.2 m1_0 m1_1 m1_2 m1_3 m1_4 m1_5) (hrc t0 t1 t2 t3 s0.1 x112.1 s0.2.2.1 x112.2 m1_0 m1_1 m1_2 m1_3 m1_4 m1_5) fun x117 hx117=>?_
          conv=>arg 3; whnf
          exact Zd (ih _)
         ·conv=>arg 3; whnf
          refine Zc (Za t0 t1 t2 t3 s0.1 x112.1 s0.2.2.1 x112.2 m1_0 m1_1 m1_2 m1_3 m1_4 m1_5) (hrc t0 t1 t2 t3 s0.1 x112.1 s0.2.2.1 x112.2 m1_0 m1_1 m1_2 m1_3 m1_4 m1_5) fun x118 hx118=>?_
          conv=>arg 3; whnf
          exact Zd (ih _)
        ·conv=>arg 3; whnf
         refine Ze rfl ?_ ?_
         ·conv=>arg 3; whnf
          refine Zc (Za t0 t1 t2 t3 (w64 (x112.1+1)) s0.2.1 s0.2.2.1 x112.2 m1_0 m1_1 m1_2 m1_3 m1_4 m1_5) (hrc t0 t1 t2 t3 (w64 (x112.1+1)) s0.2.1 s0.2.2.1 x112.2 m1_0 m1_1 m1_2 m1_3 m1_4 m1_5) fun x119 hx119=>?_
          conv=>arg 3; whnf
          exact Zd (ih _)
         ·conv=>arg 3; whnf
          refine Zc (Za t0 t1 t2 t3 (w64 (x112.1+1)) s0.2.1 s0.2.2.1 x112.2 m1_0 m1_1 m1_2 m1_3 m1_4 m1_5) (hrc t0 t1 t2 t3 (w64 (x112.1+1)) s0.2.1 s0.2.2.1 x112.2 m1_0 m1_1 m1_2 m1_3 m1_4 m1_5) fun x120 hx120=>?_
          conv=>arg 3; whnf
          exact Zd (ih _)
  ·refine ZpL ?_
   conv=>arg 3; whnf
   refine Ze rfl ?_ ?_
   ·conv=>arg 3; whnf
    refine Zc _ Z5 fun x1 hx1=>?_
    conv=>arg 3; whnf
    exact Zg rfl
   ·conv=>arg 3; whnf
    refine Ze rfl ?_ ?_
    ·conv=>arg 3; whnf
     refine Zc _ Zam fun x2 hx2=>?_
     conv=>arg 3; whnf
     exact Zg rfl
    ·conv=>arg 3; whnf
     refine Zc _ Zad fun x3 hx3=>?_
     conv=>arg 3; whnf
     refine Ze rfl ?_ ?_
     ·conv=>arg 3; whnf
      refine Zc _ Zac fun x4 hx4=>?_
      conv=>arg 3; whnf
      refine Zcl rfl ?_
      conv=>arg 3; whnf
      refine Zc _ Za1 fun x5 hx5=>?_
      clear hx5
      rcases x5 with x5 | x5
      ·conv=>arg 3; whnf
       exact Zg rfl
      ·conv=>arg 3; whnf
       refine Ze rfl ?_ ?_
       ·conv=>arg 3; whnf
        refine Zk rfl rfl fun x6 hx6=>?_
        conv=>arg 3; whnf
        refine Zf (Zz rfl hx6) ?_
        conv=>arg 3; whnf
        refine Zk rfl rfl fun x7 hx7=>?_
        conv=>arg 3; whnf
        refine Zf (Zz rfl hx7) ?_
        conv=>arg 3; whnf
        refine ZA _ ZD rfl fun x8 hx8=>?_
        conv=>arg 3; whnf
        refine Ze rfl ?_ ?_
        ·conv=>arg 3; whnf
         refine Zc _ Zj fun x9 hx9=>?_
         clear hx9
         rcases x9 with x9 | x9
         ·conv=>arg 3; whnf
          refine Zcl rfl ?_
          conv=>arg 3; whnf
          refine Zah rfl ?_
          conv=>arg 3; whnf
          refine Ze rfl ?_ ?_
          ·conv=>arg 3; whnf
           refine Ze rfl ?_ ?_
           ·conv=>arg 3; whnf
            refine Zc (Za t0 t1 t2 t3 s0.1 x9.1 s0.2.2.1 x9.2 m1_0 m1_1 m1_2 m1_3 m1_4 m1_5) (hrc t0 t1 t2 t3 s0.1 x9.1 s0.2.2.1 x9.2 m1_0 m1_1 m1_2 m1_3 m1_4 m1_5) fun x10 hx10=>?_
            conv=>arg 3; whnf
            exact Zd (ih _)
           ·conv=>arg 3; whnf
            refine Zc (Za t0 t1 t2 t3 s0.1 x9.1 s0.2.2.1 x9.2 m1_0 m1_1 m1_2 m1_3 m1_4 m1_5) (hrc t0 t1 t2 t3 s0.1 x9.1 s0.2.2.1 x9.2 m1_0 m1_1 m1_2 m1_3 m1_4 m1_5) fun x11 hx11=>?_
            conv=>arg 3; whnf
            exact Zd (ih _)
          ·conv=>arg 3; whnf
           refine Ze rfl ?_ ?_
           ·conv=>arg 3; whnf
            refine Zc (Za t0 t1 t2 t3 (w64 (x9.1+1)) s0.2.1 s0.2.2.1 x9.2 m1_0 m1_1 m1_2 m1_3 m1_4 m1_5) (hrc t0 t1 t2 t3 (w64 (x9.1+1)) s0.2.1 s0.2.2.1 x9.2 m1_0 m1_1 m1_2 m1_3 m1_4 m1_5) fun x12 hx12=>?_
            conv=>arg 3; whnf
            exact Zd (ih _)
           ·conv=>arg 3; whnf
            refine Zc (Za t0 t1 t2 t3 (w64 (x9.1+1)) s0.2.1 s0.2.2.1 x9.2 m1_0 m1_1 m1_2 m1_3 m1_4 m1_5) (hrc t0 t1 t2 t3 (w64 (x9.1+1)) s0.2.1 s0.2.2.1 x9.2 m1_0 m1_1 m1_2 m1_3 m1_4 m1_5) fun x13 hx13=>?_
            conv=>arg 3; whnf
            exact Zd (ih _)
         ·conv=>arg 3; whnf
          refine Zah rfl ?_
          conv=>arg 3; whnf
          refine Zah rfl ?_
          conv=>arg 3; whnf
          refine Ze rfl ?_ ?_
          ·conv=>arg 3; whnf
           refine Ze rfl ?_ ?_
           ·conv=>arg 3; whnf
            refine Zc (Za t0 t1 t2 t3 s0.1 x9.1 s0.2.2.1 x9.2 m1_0 m1_1 m1_2 m1_3 m1_4 m1_5) (hrc t0 t1 t2 t3 s0.1 x9.1 s0.2.2.1 x9.2 m1_0 m1_1 m1_2 m1_3 m1_4 m1_5) fun x14 hx14=>?_
            conv=>arg 3; whnf
            exact Zd (ih _)
           ·conv=>arg 3; whnf
            refine Zc (Za t0 t1 t2 t3 s0.1 x9.1 s0.2.2.1 x9.2 m1_0 m1_1 m1_2 m1_3 m1_4 m1_5) (hrc t0 t1 t2 t3 s0.1 x9.1 s0.2.2.1 x9.2 m1_0 m1_1 m1_2 m1_3 m1_4 m1_5) fun x15 hx15=>?_
            conv=>arg 3; whnf
            exact Zd (ih _)
          ·conv=>arg 3; whnf
           refine Ze rfl ?_ ?_
           ·conv=>arg 3; whnf
            refine Zc (Za t0 t1 t2 t3 (w64 (x9.1+1)) s0.2.1 s0.2.2.1 x9.2 m1_0 m1_1 m1_2 m1_3 m1_4 m1_5) (hrc t0 t1 t2 t3 (w64 (x9.1+1)) s0.2.1 s0.2.2.1 x9.2 m1_0 m1_1 m1_2 m1_3 m1_4 m1_5) fun x16 hx16=>?_
            conv=>arg 3; whnf
            exact Zd (ih _)
           ·conv=>arg 3; whnf
            refine Zc (Za t0 t1 t2 t3 (w64 (x9.1+1)) s0.2.1 s0.2.2.1 x9.2 m1_0 m1_1 m1_2 m1_3 m1_4 m1_5) (hrc t0 t1 t2 t3 (w64 (x9.1+1)) s0.2.1 s0.2.2.1 x9.2 m1_0 m1_1 m1_2 m1_3 m1_4 m1_5) fun x17 hx17=>?_
            conv=>arg 3; whnf
            exact Zd (ih _)
        ·conv=>arg 3; whnf
         refine Zc _ Zx fun x18 hx18=>?_
         conv=>arg 3; whnf
         exact Zd (ih _)
       ·conv=>arg 3; whnf
        refine Zc _ Zj fun x19 hx19=>?_
        clear hx19
        rcases x19 with x19 | x19
        ·conv=>arg 3; whnf
         refine Zcl rfl ?_
         conv=>arg 3; whnf
         refine Zah rfl ?_
         conv=>arg 3; whnf
         refine Ze rfl ?_ ?_
         ·conv=>arg 3; whnf
          refine Ze rfl ?_ ?_
          ·conv=>arg 3; whnf
           refine Zc (Za t0 t1 t2 t3 s0.1 x19.1 s0.2.2.1 x19.2 m1_0 m1_1 m1_2 m1_3 m1_4 m1_5) (hrc t0 t1 t2 t3 s0.1 x19.1 s0.2.2.1 x19.2 m1_0 m1_1 m1_2 m1_3 m1_4 m1_5) fun x20 hx20=>?_
           conv=>arg 3; whnf
           exact Zd (ih _)
          ·conv=>arg 3; whnf
           refine Zc (Za t0 t1 t2 t3 s0.1 x19.1 s0.2.2.1 x19.2 m1_0 m1_1 m1_2 m1_3 m1_4 m1_5) (hrc t0 t1 t2 t3 s0.1 x19.1 s0.2.2.1 x19.2 m1_0 m1_1 m1_2 m1_3 m1_4 m1_5) fun x21 hx21=>?_
           conv=>arg 3; whnf
           exact Zd (ih _)
         ·conv=>arg 3; whnf
          refine Ze rfl ?_ ?_
          ·conv=>arg 3; whnf
           refine Zc (Za t0 t1 t2 t3 (w64 (x19.1+1)) s0.2.1 s0.2.2.1 x19.2 m1_0 m1_1 m1_2 m1_3 m1_4 m1_5) (hrc t0 t1 t2 t3 (w64 (x19.1+1)) s0.2.1 s0.2.2.1 x19.2 m1_0 m1_1 m1_2 m1_3 m1_4 m1_5) fun x22 hx22=>?_
           conv=>arg 3; whnf
           exact Zd (ih _)
          ·conv=>arg 3; whnf
           refine Zc (Za t0 t1 t2 t3 (w64 (x19.1+1)) s0.2.1 s0.2.2.1 x19.2 m1_0 m1_1 m1_2 m1_3 m1_4 m1_5) (hrc t0 t1 t2 t3 (w64 (x19.1+1)) s0.2.1 s0.2.2.1 x19.2 m1_0 m1_1 m1_2 m1_3 m1_4 m1_5) fun x23 hx23=>?_
           conv=>arg 3; whnf
           exact Zd (ih _)
        ·conv=>arg 3; whnf
         refine Zah rfl ?_
         conv=>arg 3; whnf
         refine Zah rfl ?_
         conv=>arg 3; whnf
         refine Ze rfl ?_ ?_
         ·conv=>arg 3; whnf
          refine Ze rfl ?_ ?_
          ·conv=>arg 3; whnf
           refine Zc (Za t0 t1 t2 t3 s0.1 x19.1 s0.2.2.1 x19.2 m1_0 m1_1 m1_2 m1_3 m1_4 m1_5) (hrc t0 t1 t2 t3 s0.1 x19.1 s0.2.2.1 x19.2 m1_0 m1_1 m1_2 m1_3 m1_4 m1_5) fun x24 hx24=>?_
           conv=>arg 3; whnf
           exact Zd (ih _)
          ·conv=>arg 3; whnf
           refine Zc (Za t0 t1 t2 t3 s0.1 x19.1 s0.2.2.1 x19.2 m1_0 m1_1 m1_2 m1_3 m1_4 m1_5) (hrc t0 t1 t2 t3 s0.1 x19.1 s0.2.2.1 x19.2 m1_0 m1_1 m1_2 m1_3 m1_4 m1_5) fun x25 hx25=>?_
           conv=>arg 3; whnf
           exact Zd (ih _)
         ·conv=>arg 3; whnf
          refine Ze rfl ?_ ?_
          ·conv=>arg 3; whnf
           refine Zc (Za t0 t1 t2 t3 (w64 (x19.1+1)) s0.2.1 s0.2.2.1 x19.2 m1_0 m1_1 m1_2 m1_3 m1_4 m1_5) (hrc t0 t1 t2 t3 (w64 (x19.1+1)) s0.2.1 s0.2.2.1 x19.2 m1_0 m1_1 m1_2 m1_3 m1_4 m1_5) fun x26 hx26=>?_
           conv=>arg 3; whnf
           exact Zd (ih _)
          ·conv=>arg 3; whnf
           refine Zc (Za t0 t1 t2 t3 (w64 (x19.1+1)) s0.2.1 s0.2.2.1 x19.2 m1_0 m1_1 m1_2 m1_3 m1_4 m1_5) (hrc t0 t1 t2 t3 (w64 (x19.1+1)) s0.2.1 s0.2.2.1 x19.2 m1_0 m1_1 m1_2 m1_3 m1_4 m1_5) fun x27 hx27=>?_
           conv=>arg 3; whnf
           exact Zd (ih _)
     ·conv=>arg 3; whnf
      refine Ze rfl ?_ ?_
      ·conv=>arg 3; whnf
       refine Zc _ Za1 fun x28 hx28=>?_
       clear hx28
       rcases x28 with x28 | x28
       ·conv=>arg 3; whnf
        exact Zg rfl
       ·conv=>arg 3; whnf
        refine Ze rfl ?_ ?_
        ·conv=>arg 3; whnf
         refine Zk rfl rfl fun x29 hx29=>?_
         conv=>arg 3; whnf
         refine Zf (Zz rfl hx29) ?_
         conv=>arg 3; whnf
         refine Zk rfl rfl fun x30 hx30=>?_
         conv=>arg 3; whnf
         refine Zf (Zz rfl hx30) ?_
         conv=>arg 3; whnf
         refine ZA _ ZD rfl fun x31 hx31=>?_
         conv=>arg 3; whnf
         refine Ze rfl ?_ ?_
         ·conv=>arg 3; whnf
          refine Zc _ Zj fun x32 hx32=>?_
          clear hx32
          rcases x32 with x32 | x32
          ·conv=>arg 3; whnf
           refine Zcl rfl ?_
           conv=>arg 3; whnf
           refine Zah rfl ?_
           conv=>arg 3; whnf
           refine Ze rfl ?_ ?_
           ·conv=>arg 3; whnf
            refine Ze rfl ?_ ?_
            ·conv=>arg 3; whnf
             refine Zc (Za t0 t1 t2 t3 s0.1 x32.1 s0.2.2.1 x32.2 m1_0 m1_1 m1_2 m1_3 m1_4 m1_5) (hrc t0 t1 t2 t3 s0.1 x32.1 s0.2.2.1 x32.2 m1_0 m1_1 m1_2 m1_3 m1_4 m1_5) fun x33 hx33=>?_
             conv=>arg 3; whnf
             exact Zd (ih _)
            ·conv=>arg 3; whnf
             refine Zc (Za t0 t1 t2 t3 s0.1 x32.1 s0.2.2.1 x32.2 m1_0 m1_1 m1_2 m1_3 m1_4 m1_5) (hrc t0 t1 t2 t3 s0.1 x32.1 s0.2.2.1 x32.2 m1_0 m1_1 m1_2 m1_3 m1_4 m1_5) fun x34 hx34=>?_
             conv=>arg 3; whnf
             exact Zd (ih _)
           ·conv=>arg 3; whnf
            refine Ze rfl ?_ ?_
            ·conv=>arg 3; whnf
             refine Zc (Za t0 t1 t2 t3 (w64 (x32.1+1)) s0.2.1 s0.2.2.1 x32.2 m1_0 m1_1 m1_2 m1_3 m1_4 m1_5) (hrc t0 t1 t2 t3 (w64 (x32.1+1)) s0.2.1 s0.2.2.1 x32.2 m1_0 m1_1 m1_2 m1_3 m1_4 m1_5) fun x35 hx35=>?_
             conv=>arg 3; whnf
             exact Zd (ih _)
            ·conv=>arg 3; whnf
             refine Zc (Za t0 t1 t2 t3 (w64 (x32.1+1)) s0.2.1 s0.2.2.1 x32.2 m1_0 m1_1 m1_2 m1_3 m1_4 m1_5) (hrc t0 t1 t2 t3 (w64 (x32.1+1)) s0.2.1 s0.2.2.1 x32.2 m1_0 m1_1 m1_2 m1_3 m1_4 m1_5) fun x36 hx36=>?_
             conv=>arg 3; whnf
             exact Zd (ih _)
          ·conv=>arg 3; whnf
           refine Zah rfl ?_
           conv=>arg 3; whnf
           refine Zah rfl ?_
           conv=>arg 3; whnf
           refine Ze rfl ?_ ?_
           ·conv=>arg 3; whnf
            refine Ze rfl ?_ ?_
            ·conv=>arg 3; whnf
             refine Zc (Za t0 t1 t2 t3 s0.1 x32.1 s0.2.2.1 x32.2 m1_0 m1_1 m1_2 m1_3 m1_4 m1_5) (hrc t0 t1 t2 t3 s0.1 x32.1 s0.2.2.1 x32.2 m1_0 m1_1 m1_2 m1_3 m1_4 m1_5) fun x37 hx37=>?_
             conv=>arg 3; whnf
             exact Zd (ih _)
            ·conv=>arg 3; whnf
             refine Zc (Za t0 t1 t2 t3 s0.1 x32.1 s0.2.2.1 x32.2 m1_0 m1_1 m1_2 m1_3 m1_4 m1_5) (hrc t0 t1 t2 t3 s0.1 x32.1 s0.2.2.1 x32.2 m1_0 m1_1 m1_2 m1_3 m1_4 m1_5) fun x38 hx38=>?_
             conv=>arg 3; whnf
             exact Zd (ih _)
           ·conv=>arg 3; whnf
            refine Ze rfl ?_ ?_
            ·conv=>arg 3; whnf
             refine Zc (Za t0 t1 t2 t3 (w64 (x32.1+1)) s0.2.1 s0.2.2.1 x32.2 m1_0 m1_1 m1_2 m1_3 m1_4 m1_5) (hrc t0 t1 t2 t3 (w64 (x32.1+1)) s0.2.1 s0.2.2.1 x32.2 m1_0 m1_1 m1_2 m1_3 m1_4 m1_5) fun x39 hx39=>?_
             conv=>arg 3; whnf
             exact Zd (ih _)
            ·conv=>arg 3; whnf
             refine Zc (Za t0 t1 t2 t3 (w64 (x32.1+1)) s0.2.1 s0.2.2.1 x32.2 m1_0 m1_1 m1_2 m1_3 m1_4 m1_5) (hrc t0 t1 t2 t3 (w64 (x32.1+1)) s0.2.1 s0.2.2.1 x32.2 m1_0 m1_1 m1_2 m1_3 m1_4 m1_5) fun x40 hx40=>?_
             conv=>arg 3; whnf
             exact Zd (ih _)
         ·conv=>arg 3; whnf
          refine Zc _ Zx fun x41 hx41=>?_
          conv=>arg 3; whnf
          exact Zd (ih _)
        ·conv=>arg 3; whnf
         refine Zc _ Zj fun x42 hx42=>?_
         clear hx42
         rcases x42 with x42 | x42
         ·conv=>arg 3; whnf
          refine Zcl rfl ?_
          conv=>arg 3; whnf
          refine Zah rfl ?_
          conv=>arg 3; whnf
          refine Ze rfl ?_ ?_
          ·conv=>arg 3; whnf
           refine Ze rfl ?_ ?_
           ·conv=>arg 3; whnf
            refine Zc (Za t0 t1 t2 t3 s0.1 x42.1 s0.2.2.1 x42.2 m1_0 m1_1 m1_2 m1_3 m1_4 m1_5) (hrc t0 t1 t2 t3 s0.1 x42.1 s0.2.2.1 x42.2 m1_0 m1_1 m1_2 m1_3 m1_4 m1_5) fun x43 hx43=>?_
            conv=>arg 3; whnf
            exact Zd (ih _)
           ·conv=>arg 3; whnf
            refine Zc (Za t0 t1 t2 t3 s0.1 x42.1 s0.2.2.1 x42.2 m1_0 m1_1 m1_2 m1_3 m1_4 m1_5) (hrc t0 t1 t2 t3 s0.1 x42.1 s0.2.2.1 x42.2 m1_0 m1_1 m1_2 m1_3 m1_4 m1_5) fun x44 hx44=>?_
            conv=>arg 3; whnf
            exact Zd (ih _)
          ·conv=>arg 3; whnf
           refine Ze rfl ?_ ?_
           ·conv=>arg 3; whnf
            refine Zc (Za t0 t1 t2 t3 (w64 (x42.1+1)) s0.2.1 s0.2.2.1 x42.2 m1_0 m1_1 m1_2 m1_3 m1_4 m1_5) (hrc t0 t1 t2 t3 (w64 (x42.1+1)) s0.2.1 s0.2.2.1 x42.2 m1_0 m1_1 m1_2 m1_3 m1_4 m1_5) fun x45 hx45=>?_
            conv=>arg 3; whnf
            exact Zd (ih _)
           ·conv=>arg 3; whnf
            refine Zc (Za t0 t1 t2 t3 (w64 (x42.1+1)) s0.2.1 s0.2.2.1 x42.2 m1_0 m1_1 m1_2 m1_3 m1_4 m1_5) (hrc t0 t1 t2 t3 (w64 (x42.1+1)) s0.2.1 s0.2.2.1 x42.2 m1_0 m1_1 m1_2 m1_3 m1_4 m1_5) fun x46 hx46=>?_
            conv=>arg 3; whnf
            exact Zd (ih _)
         ·conv=>arg 3; whnf
          refine Zah rfl ?_
          conv=>arg 3; whnf
          refine Zah rfl ?_
          conv=>arg 3; whnf
          refine Ze rfl ?_ ?_
          ·conv=>arg 3; whnf
           refine Ze rfl ?_ ?_
           ·conv=>arg 3; whnf
            refine Zc (Za t0 t1 t2 t3 s0.1 x42.1 s0.2.2.1 x42.2 m1_0 m1_1 m1_2 m1_3 m1_4 m1_5) (hrc t0 t1 t2 t3 s0.1 x42.1 s0.2.2.1 x42.2 m1_0 m1_1 m1_2 m1_3 m1_4 m1_5) fun x47 hx47=>?_
            conv=>arg 3; whnf
            exact Zd (ih _)
           ·conv=>arg 3; whnf
            refine Zc (Za t0 t1 t2 t3 s0.1 x42.1 s0.2.2.1 x42.2 m1_0 m1_1 m1_2 m1_3 m1_4 m1_5) (hrc t0 t1 t2 t3 s0.1 x42.1 s0.2.2.1 x42.2 m1_0 m1_1 m1_2 m1_3 m1_4 m1_5) fun x48 hx48=>?_
            conv=>arg 3; whnf
            exact Zd (ih _)
          ·conv=>arg 3; whnf
           refine Ze rfl ?_ ?_
           ·conv=>arg 3; whnf
            refine Zc (Za t0 t1 t2 t3 (w64 (x42.1+1)) s0.2.1 s0.2.2.1 x42.2 m1_0 m1_1 m1_2 m1_3 m1_4 m1_5) (hrc t0 t1 t2 t3 (w64 (x42.1+1)) s0.2.1 s0.2.2.1 x42.2 m1_0 m1_1 m1_2 m1_3 m1_4 m1_5) fun x49 hx49=>?_
            conv=>arg 3; whnf
            exact Zd (ih _)
           ·conv=>arg 3; whnf
            refine Zc (Za t0 t1 t2 t3 (w64 (x42.1+1)) s0.2.1 s0.2.2.1 x42.2 m1_0 m1_1 m1_2 m1_3 m1_4 m1_5) (hrc t0 t1 t2 t3 (w64 (x42.1+1)) s0.2.1 s0.2.2.1 x42.2 m1_0 m1_1 m1_2 m1_3 m1_4 m1_5) fun x50 hx50=>?_
            conv=>arg 3; whnf
            exact Zd (ih _)
      ·conv=>arg 3; whnf
       refine Ze rfl ?_ ?_
       ·conv=>arg 3; whnf
        refine Zk rfl rfl fun x51 hx51=>?_
        conv=>arg 3; whnf
        refine Zf (Zz rfl hx51) ?_
        conv=>arg 3; whnf
        refine Zk rfl rfl fun x52 hx52=>?_
        conv=>arg 3; whnf
        refine Zf (Zz rfl hx52) ?_
        conv=>arg 3; whnf
        refine ZA _ ZD rfl fun x53 hx53=>?_
        conv=>arg 3; whnf
        refine Ze rfl ?_ ?_
        ·conv=>arg 3; whnf
         refine Zc _ Zj fun x54 hx54=>?_
         clear hx54
         rcases x54 with x54 | x54
         ·conv=>arg 3; whnf
          refine Zcl rfl ?_
          conv=>arg 3; whnf
          refine Zah rfl ?_
          conv=>arg 3; whnf
          refine Ze rfl ?_ ?_
          ·conv=>arg 3; whnf
           refine Ze rfl ?_ ?_
           ·conv=>arg 3; whnf
            refine Zc (Za t0 t1 t2 t3 s0.1 x54.1 s0.2.2.1 x54.2 m1_0 m1_1 m1_2 m1_3 m1_4 m1_5) (hrc t0 t1 t2 t3 s0.1 x54.1 s0.2.2.1 x54.2 m1_0 m1_1 m1_2 m1_3 m1_4 m1_5) fun x55 hx55=>?_
            conv=>arg 3; whnf
            exact Zd (ih _)
           ·conv=>arg 3; whnf
            refine Zc (Za t0 t1 t2 t3 s0.1 x54.1 s0.2.2.1 x54.2 m1_0 m1_1 m1_2 m1_3 m1_4 m1_5) (hrc t0 t1 t2 t3 s0.1 x54.1 s0.2.2.1 x54.2 m1_0 m1_1 m1_2 m1_3 m1_4 m1_5) fun x56 hx56=>?_
            conv=>arg 3; whnf
            exact Zd (ih _)
          ·conv=>arg 3; whnf
           refine Ze rfl ?_ ?_
           ·conv=>arg 3; whnf
            refine Zc (Za t0 t1 t2 t3 (w64 (x54.1+1)) s0.2.1 s0.2.2.1 x54.2 m1_0 m1_1 m1_2 m1_3 m1_4 m1_5) (hrc t0 t1 t2 t3 (w64 (x54.1+1)) s0.2.1 s0.2.2.1 x54.2 m1_0 m1_1 m1_2 m1_3 m1_4 m1_5) fun x57 hx57=>?_
            conv=>arg 3; whnf
            exact Zd (ih _)
           ·conv=>arg 3; whnf
            refine Zc (Za t0 t1 t2 t3 (w64 (x54.1+1)) s0.2.1 s0.2.2.1 x54.2 m1_0 m1_1 m1_2 m1_3 m1_4 m1_5) (hrc t0 t1 t2 t3 (w64 (x54.1+1)) s0.2.1 s0.2.2.1 x54.2 m1_0 m1_1 m1_2 m1_3 m1_4 m1_5) fun x58 hx58=>?_
            conv=>arg 3; whnf
            exact Zd (ih _)
         ·conv=>arg 3; whnf
          refine Zah rfl ?_
          conv=>arg 3; whnf
          refine Zah rfl ?_
          conv=>arg 3; whnf
          refine Ze rfl ?_ ?_
          ·conv=>arg 3; whnf
           refine Ze rfl ?_ ?_
           ·conv=>arg 3; whnf
            refine Zc (Za t0 t1 t2 t3 s0.1 x54.1 s0.2.2.1 x54.2 m1_0 m1_1 m1_2 m1_3 m1_4 m1_5) (hrc t0 t1 t2 t3 s0.1 x54.1 s0.2.2.1 x54.2 m1_0 m1_1 m1_2 m1_3 m1_4 m1_5) fun x59 hx59=>?_
            conv=>arg 3; whnf
            exact Zd (ih _)
           ·conv=>arg 3; whnf
            refine Zc (Za t0 t1 t2 t3 s0.1 x54.1 s0.2.2.1 x54.2 m1_0 m1_1 m1_2 m1_3 m1_4 m1_5) (hrc t0 t1 t2 t3 s0.1 x54.1 s0.2.2.1 x54.2 m1_0 m1_1 m1_2 m1_3 m1_4 m1_5) fun x60 hx60=>?_
            conv=>arg 3; whnf
            exact Zd (ih _)
          ·conv=>arg 3; whnf
           refine Ze rfl ?_ ?_
           ·conv=>arg 3; whnf
            refine Zc (Za t0 t1 t2 t3 (w64 (x54.1+1)) s0.2.1 s0.2.2.1 x54.2 m1_0 m1_1 m1_2 m1_3 m1_4 m1_5) (hrc t0 t1 t2 t3 (w64 (x54.1+1)) s0.2.1 s0.2.2.1 x54.2 m1_0 m1_1 m1_2 m1_3 m1_4 m1_5) fun x61 hx61=>?_
            conv=>arg 3; whnf
            exact Zd (ih _)
           ·conv=>arg 3; whnf
            refine Zc (Za t0 t1 t2 t3 (w64 (x54.1+1)) s0.2.1 s0.2.2.1 x54.2 m1_0 m1_1 m1_2 m1_3 m1_4 m1_5) (hrc t0 t1 t2 t3 (w64 (x54.1+1)) s0.2.1 s0.2.2.1 x54.2 m1_0 m1_1 m1_2 m1_3 m1_4 m1_5) fun x62 hx62=>?_
            conv=>arg 3; whnf
            exact Zd (ih _)
        ·conv=>arg 3; whnf
         refine Zc _ Zx fun x63 hx63=>?_
         conv=>arg 3; whnf
         exact Zd (ih _)
       ·conv=>arg 3; whnf
        refine Zc _ Zj fun x64 hx64=>?_
        clear hx64
        rcases x64 with x64 | x64
        ·conv=>arg 3; whnf
         refine Zcl rfl ?_
         conv=>arg 3; whnf
         refine Zah rfl ?_
         conv=>arg 3; whnf
         refine Ze rfl ?_ ?_
         ·conv=>arg 3; whnf
          refine Ze rfl ?_ ?_
          ·conv=>arg 3; whnf
           refine Zc (Za t0 t1 t2 t3 s0.1 x64.1 s0.2.2.1 x64.2 m1_0 m1_1 m1_2 m1_3 m1_4 m1_5) (hrc t0 t1 t2 t3 s0.1 x64.1 s0.2.2.1 x64.2 m1_0 m1_1 m1_2 m1_3 m1_4 m1_5) fun x65 hx65=>?_
           conv=>arg 3; whnf
           exact Zd (ih _)
          ·conv=>arg 3; whnf
           refine Zc (Za t0 t1 t2 t3 s0.1 x64.1 s0.2.2.1 x64.2 m1_0 m1_1 m1_2 m1_3 m1_4 m1_5) (hrc t0 t1 t2 t3 s0.1 x64.1 s0.2.2.1 x64.2 m1_0 m1_1 m1_2 m1_3 m1_4 m1_5) fun x66 hx66=>?_
           conv=>arg 3; whnf
           exact Zd (ih _)
         ·conv=>arg 3; whnf
          refine Ze rfl ?_ ?_
          ·conv=>arg 3; whnf
           refine Zc (Za t0 t1 t2 t3 (w64 (x64.1+1)) s0.2.1 s0.2.2.1 x64.2 m1_0 m1_1 m1_2 m1_3 m1_4 m1_5) (hrc t0 t1 t2 t3 (w64 (x64.1+1)) s0.2.1 s0.2.2.1 x64.2 m1_0 m1_1 m1_2 m1_3 m1_4 m1_5) fun x67 hx67=>?_
           conv=>arg 3; whnf
           exact Zd (ih _)
          ·conv=>arg 3; whnf
           refine Zc (Za t0 t1 t2 t3 (w64 (x64.1+1)) s0.2.1 s0.2.2.1 x64.2 m1_0 m1_1 m1_2 m1_3 m1_4 m1_5) (hrc t0 t1 t2 t3 (w64 (x64.1+1)) s0.2.1 s0.2.2.1 x64.2 m1_0 m1_1 m1_2 m1_3 m1_4 m1_5) fun x68 hx68=>?_
           conv=>arg 3; whnf
           exact Zd (ih _)
        ·conv=>arg 3; whnf
         refine Zah rfl ?_
         conv=>arg 3; whnf
         refine Zah rfl ?_
         conv=>arg 3; whnf
         refine Ze rfl ?_ ?_
         ·conv=>arg 3; whnf
          refine Ze rfl ?_ ?_
          ·conv=>arg 3; whnf
           refine Zc (Za t0 t1 t2 t3 s0.1 x64.1 s0.2.2.1 x64.2 m1_0 m1_1 m1_2 m1_3 m1_4 m1_5) (hrc t0 t1 t2 t3 s0.1 x64.1 s0.2.2.1 x64.2 m1_0 m1_1 m1_2 m1_3 m1_4 m1_5) fun x69 hx69=>?_
           conv=>arg 3; whnf
           exact Zd (ih _)
          ·conv=>arg 3; whnf
           refine Zc (Za t0 t1 t2 t3 s0.1 x64.1 s0.2.2.1 x64.2 m1_0 m1_1 m1_2 m1_3 m1_4 m1_5) (hrc t0 t1 t2 t3 s0.1 x64.1 s0.2.2.1 x64.2 m1_0 m1_1 m1_2 m1_3 m1_4 m1_5) fun x70 hx70=>?_
           conv=>arg 3; whnf
           exact Zd (ih _)
         ·conv=>arg 3; whnf
          refine Ze rfl ?_ ?_
          ·conv=>arg 3; whnf
           refine Zc (Za t0 t1 t2 t3 (w64 (x64.1+1)) s0.2.1 s0.2.2.1 x64.2 m1_0 m1_1 m1_2 m1_3 m1_4 m1_5) (hrc t0 t1 t2 t3 (w64 (x64.1+1)) s0.2.1 s0.2.2.1 x64.2 m1_0 m1_1 m1_2 m1_3 m1_4 m1_5) fun x71 hx71=>?_
           conv=>arg 3; whnf
           exact Zd (ih _)
          ·conv=>arg 3; whnf
           refine Zc (Za t0 t1 t2 t3 (w64 (x64.1+1)) s0.2.1 s0.2.2.1 x64.2 m1_0 m1_1 m1_2 m1_3 m1_4 m1_5) (hrc t0 t1 t2 t3 (w64 (x64.1+1)) s0.2.1 s0.2.2.1 x64.2 m1_0 m1_1 m1_2 m1_3 m1_4 m1_5) fun x72 hx72=>?_
           conv=>arg 3; whnf
           exact Zd (ih _)
theorem Zds (rc:Int→Int→Int→(Int→Int→Option Int)→(List Int)→Option (List Int)) (hrc:∀(t0:Bool) (t1:Bool) (t2:Bool) (t3:Bool) (b:Int) (c:Int) (d:Int) (m0_0:(List Int)) (m1_0:Int) (m1_1:Int) (m1_2:(List ZV)) (m1_3:(List Zm)) (m1_4:(List Zi)) (m1_5:(List Zq)) (r:(List Int)),rc b c d (fun z0 z1=>Zr z0 z1 m1_4) m0_0=some r→evW ctx 138 [(.sl 0 1),(.d (Zb b)),(.d (Zb c)),(.d (Zb d)),(.fn 121 [(.ptr 1 0)])] [(.arr 1 (List.map Zb m0_0)),(.cells [(.d (Zb m1_0)),(.d (Zb m1_1)),(.d (D.list t0 (List.map ZY m1_2))),(.d (D.list t1 (List.map Zw m1_3))),(.d (D.list t2 (List.map Zn m1_4))),(.d (D.list t3 (List.map Zu m1_5)))])]=some ((Za t0 t1 t2 t3 b c d m0_0 m1_0 m1_1 m1_2 m1_3 m1_4 m1_5) r)) (t0:Bool) (t1:Bool) (t2:Bool) (t3:Bool) (b:Int) (c:Int) (d:Int) (m0_0:(List Int)) (m1_0:Int) (m1_1:Int) (m1_2:(List ZV)) (m1_3:(List Zm)) (m1_4:(List Zi)) (m1_5:(List Zq)):∀r,(Zao rc b c d (fun z0 z1=>Zr z0 z1 m1_4) m0_0)=some r→evW ctx 138 [(.sl 0 1),(.d (Zb b)),(.d (Zb c)),(.d (Zb d)),(.fn 121 [(.ptr 1 0)])] [(.arr 1 (List.map Zb m0_0)),(.cells [(.d (Zb m1_0)),(.d (Zb m1_1)),(.d (D.list t0 (List.map ZY m1_2))),(.d (D.list t1 (List.map Zw m1_3))),(.d (D.list t2 (List.map Zn m1_4))),(.d (D.list t3 (List.map Zu m1_5)))])]=some ((Za t0 t1 t2 t3 b c d m0_0 m1_0 m1_1 m1_2 m1_3 m1_4 m1_5) r):=by
 show ZX _ (fun r rhs=>rhs=some ((Za t0 t1 t2 t3 b c d m0_0 m1_0 m1_1 m1_2 m1_3 m1_4 m1_5) r)) _
 unfold Zao
 rw[ZeZ ctx 138 ZsU _ _ rfl rfl]
 conv=>arg 3; whnf
 refine Zc _ (Zdp hrc _) fun r219 hr219=>?_
 conv=>arg 3; whnf
 exact Zg rfl
theorem ZbO:∀(n:Nat) (t0:Bool) (t1:Bool) (t2:Bool) (t3:Bool) (b:Int) (c:Int) (d:Int) (m0_0:(List Int)) (m1_0:Int) (m1_1:Int) (m1_2:(List ZV)) (m1_3:(List Zm)) (m1_4:(List Zi)) (m1_5:(List Zq)) (r:(List Int)),ZU n b c d (fun z0 z1=>Zr z0 z1 m1_4) m0_0=some r→evW ctx 138 [(.sl 0 1),(.d (Zb b)),(.d (Zb c)),(.d (Zb d)),(.fn 121 [(.ptr 1 0)])] [(.arr 1 (List.map Zb m0_0)),(.cells [(.d (Zb m1_0)),(.d (Zb m1_1)),(.d (D.list t0 (List.map ZY m1_2))),(.d (D.list t1 (List.map Zw m1_3))),(.d (D.list t2 (List.map Zn m1_4))),(.d (D.list t3 (List.map Zu m1_5)))])]=some ((Za t0 t1 t2 t3 b c d m0_0 m1_0 m1_1 m1_2 m1_3 m1_4 m1_5) r)
  | 0,t0,t1,t2,t3,b,c,d,m0_0,m1_0,m1_1,m1_2,m1_3,m1_4,m1_5,r,h=>by cases h
  | n+1,t0,t1,t2,t3,b,c,d,m0_0,m1_0,m1_1,m1_2,m1_3,m1_4,m1_5,r,h=>Zds (ZU n) (ZbO n) t0 t1 t2 t3 b c d m0_0 m1_0 m1_1 m1_2 m1_3 m1_4 m1_5 r h
theorem ZdO {t0:Bool} {t1:Bool} {t2:Bool} {t3:Bool} {b:Int} {c:Int} {d:Int} {m0_0:(List Int)} {m1_0:Int} {m1_1:Int} {m1_2:(List ZV)} {m1_3:(List Zm)} {m1_4:(List Zi)} {m1_5:(List Zq)}:∀r,ZcZ b c d (fun z0 z1=>Zr z0 z1 m1_4) m0_0=some r→evW ctx 138 [(.sl 0 1),(.d (Zb b)),(.d (Zb c)),(.d (Zb d)),(.fn 121 [(.ptr 1 0)])] [(.arr 1 (List.map Zb m0_0)),(.cells [(.d (Zb m1_0)),(.d (Zb m1_1)),(.d (D.list t0 (List.map ZY m1_2))),(.d (D.list t1 (List.map Zw m1_3))),(.d (D.list t2 (List.map Zn m1_4))),(.d (D.list t3 (List.map Zu m1_5)))])]=some ((Za t0 t1 t2 t3 b c d m0_0 m1_0 m1_1 m1_2 m1_3 m1_4 m1_5) r):=fun r h=>by
  obtain⟨n,hn⟩:=Zvb h
  exact ZbO n t0 t1 t2 t3 b c d m0_0 m1_0 m1_1 m1_2 m1_3 m1_4 m1_5 r hn
def Zb4 (t0:Bool) (t1:Bool) (t2:Bool) (t3:Bool) (m0_0:(List Int)) (m1_0:Int) (m1_1:Int) (m1_2:(List ZV)) (m1_3:(List Zm)) (m1_4:(List Zi)) (m1_5:(List Zq)):(List Int)→V×Zl
  | r=>((.d (D.tup [])),[(.arr 1 (List.map Zb r)),(.cells [(.d (Zb m1_0)),(.d (Zb m1_1)),(.d (D.list t0 (List.map ZY m1_2))),(.d (D.list t1 (List.map Zw m1_3))),(.d (D.list t2 (List.map Zn m1_4))),(.d (D.list t3 (List.map Zu m1_5)))])])
theorem ZdN {t0:Bool} {t1:Bool} {t2:Bool} {t3:Bool} {m0_0:(List Int)} {m1_0:Int} {m1_1:Int} {m1_2:(List ZV)} {m1_3:(List Zm)} {m1_4:(List Zi)} {m1_5:(List Zq)}:∀r,(ZaE (fun z0 z1=>Zr z0 z1 m1_4) m0_0)=some r→evW ctx 120 [(.sl 0 1),(.fn 121 [(.ptr 1 0)])] [(.arr 1 (List.map Zb m0_0)),(.cells [(.d (Zb m1_0)),(.d (Zb m1_1)),(.d (D.list t0 (List.map ZY m1_2))),(.d (D.list t1 (List.map Zw m1_3))),(.d (D.list t2 (List.map Zn m1_4))),(.d (D.list t3 (List.map Zu m1_5)))])]=some ((Zb4 t0 t1 t2 t3 m0_0 m1_0 m1_1 m1_2 m1_3 m1_4 m1_5) r):=by
 show ZX _ (fun r rhs=>rhs=some ((Zb4 t0 t1 t2 t3 m0_0 m1_0 m1_1 m1_2 m1_3 m1_4 m1_5) r)) _
 unfold ZaE
 rw[ZeZ ctx 120 Ztp _ _ rfl rfl]
 conv=>arg 3; whnf
 refine Zs (ZK _ _) ?_
 conv=>arg 3; whnf
 refine ZA _ ZgF rfl fun x0 hx0=>?_
 conv=>arg 3; whnf
 refine Zc _ ZdO fun x1 hx1=>?_
 conv=>arg 3; whnf
 exact Zg rfl
def Zhi (r:(List Int)):D:=(D.list true (List.map Zb r))
def Zf0 (t0:Bool) (t1:Bool) (t2:Bool) (t3:Bool) (a:Zo) (b:Int):(List Int)→Ex×List V×Zl
  | r=>(.exit 0,[(.ptr 0 0),(.sl 1 1)],[(.cells (dV t0 t1 t2 t3 a)),(.arr 1 (List.map Zb r))])
theorem Ziy {t0:Bool} {t1:Bool} {t2:Bool} {t3:Bool} {a:Zo} {b:Int}:∀(s1:Int×(List Int)) (r:(List Int)),lp (ZcN a b) s1=some r→lpW ctx 0 [1,2,5,12,13,14] [2,5] Zsu [(.d (Zb b)),(.ptr 0 0),(.sl 1 1),(.d (D.list t2 (List.map Zn a.futures))),(.d (Zb (a.futures.length:Int))),(.d (Zb s1.1))] [(.cells (dV t0 t1 t2 t3 a)),(.arr 1 (List.map Zb s1.2))]=some ((Zf0 t0 t1 t2 t3 a b) r):=by
 refine Za7 (Zf0 t0 t1 t2 t3 a b) ?_
 intro s1 rcl ih
 show ZX _ _ (lpW _ _ _ _ _ _ _)
 unfold ZcN
 rw[Za8]
 conv=>arg 3; whnf
 refine Ze rfl ?_ ?_
 ·conv=>arg 3; whnf
  refine Zk rfl rfl fun x2 hx2=>?_
  conv=>arg 3; whnf
  refine Ze rfl ?_ ?_
  ·conv=>arg 3; whnf
   refine Zcl rfl ?_
   conv=>arg 3; whnf
   refine Ze (ZiY Zb s1.2 1) ?_ ?_
   ·conv=>arg 3; whnf
    refine Zs (ZiS Zb s1.2 [s1.1]) ?_
    conv=>arg 3; whnf
    exact Zd (ih _)
   ·exact Za4
  ·conv=>arg 3; whnf
   exact Zd (ih _)
 ·conv=>arg 3; whnf
  exact Zg rfl
theorem Zkn {t0:Bool} {t1:Bool} {t2:Bool} {t3:Bool} {a:Zo} {b:Int}:∀r,(ZcE a b)=some r→evD ctx 86 [(.d (D.agg (dA t0 t1 t2 t3 a))),(.d (Zb b))]=some (Zhi r):=by
 show ZX _ (fun r rhs=>rhs=some (Zhi r)) _
 unfold ZcE
 rw[Zce ctx 86 Zwp _ rfl rfl]
 conv=>arg 3; whnf
 refine ZA _ Zia rfl fun x0 hx0=>?_
 conv=>arg 3; whnf
 refine Ze rfl ?_ ?_
 ·conv=>arg 3; whnf
  exact Zg rfl
 ·conv=>arg 3; whnf
  refine Zs (ZK _ _) ?_
  conv=>arg 3; whnf
  refine Zc _ (Ziy _) fun r3 hr3=>?_
  conv=>arg 3; whnf
  refine Zc _ ZdN fun x4 hx4=>?_
  conv=>arg 3; whnf
  exact Zg rfl
def Zfj (b:Zh) (c:Int) (m1_0:(List Int)) (m2_0:(List Zm)) (m3_0:(List Zh)) (m4_0:(List (Int×Int))) (m5_0:(List (Int×Int))) (m6_0:(List (Zi×Int))):Unit→V×Zl
  | r=>((.d (Zb (w64 ((List.length (m3_0++[b]):Int)-1)))),[(.cells [(.sl 7 1),(.sl 2 2),(.sl 8 2),(.mp 4),(.mp 5),(.mp 6)]),.dead,(.arr 2 (List.map Zw m2_0)),.dead,(.mp (mpD Zb Zb m4_0)),(.mp (mpD Zb Zb m5_0)),(.mp (mpD Zn Zb m6_0)),(.arr 1 (List.map Zb (m1_0++[c]))),(.arr 2 (List.map ZaG (m3_0++[b])))])
theorem ZaF {b:Zh} {c:Int} {m1_0:(List Int)} {m2_0:(List Zm)} {m3_0:(List Zh)} {m4_0:(List (Int×Int))} {m5_0:(List (Int×Int))} {m6_0:(List (Zi×Int))}:∀r,(Zaf b c m1_0 m3_0)=some r→evW ctx 44 [(.ptr 0 0),(.d (D.agg [(Zb b.part),(Zb b.step)])),(.d (Zb c))] [(.cells [(.sl 1 1),(.sl 2 2),(.sl 3 2),(.mp 4),(.mp 5),(.mp 6)]),(.arr 1 (List.map Zb m1_0)),(.arr 2 (List.map Zw m2_0)),(.arr 2 (List.map ZaG m3_0)),(.mp (mpD Zb Zb m4_0)),(.mp (mpD Zb Zb m5_0)),(.mp (mpD Zn Zb m6_0))]=some ((Zfj b c m1_0 m2_0 m3_0 m4_0 m5_0 m6_0) r):=by
 show ZX _ (fun r rhs=>rhs=some ((Zfj b c m1_0 m2_0 m3_0 m4_0 m5_0 m6_0) r)) _
 unfold Zaf
 rw[ZeZ ctx 44 Zwv _ _ rfl rfl]
 conv=>arg 3; whnf
 refine Zcl rfl ?_
 conv=>arg 3; whnf
 refine Ze (ZiY ZaG m3_0 1) ?_ ?_
 ·conv=>arg 3; whnf
  refine Zs (ZiS ZaG m3_0 [b]) ?_
  conv=>arg 3; whnf
  refine Zcl rfl ?_
  conv=>arg 3; whnf
  refine Ze (ZiY Zb m1_0 1) ?_ ?_
  ·conv=>arg 3; whnf
   refine Zs (ZiS Zb m1_0 [c]) ?_
   conv=>arg 3; whnf
   refine Zs (ZK _ _) ?_
   conv=>arg 3; whnf
   exact Zg rfl
  ·exact Za4
 ·exact Za4
end Go.Proofs.YtljgncbdagmeeaaDoor
namespace Go.Proofs.YtljgncbdagmeeaaDoor
open Go Go.Proofs.YtljgncbdagmeeaaDoorE
set_option linter.unusedVariables false
set_option linter.unusedSimpArgs false
def Zfl (b:Int) (c:Int) (m1_0:(List Int)) (m2_0:(List Zm)) (m3_0:(List Zh)) (m4_0:(List (Int×Int))) (m5_0:(List (Int×Int))) (m6_0:(List (Zi×Int))):Unit→V×Zl
  | r=>((.d (D.tup [])),[(.cells [(.sl 1 1),(.sl 7 2),(.sl 3 2),(.mp 4),(.mp 5),(.mp 6)]),(.arr 1 (List.map Zb m1_0)),.dead,(.arr 2 (List.map ZaG m3_0)),(.mp (mpD Zb Zb m4_0)),(.mp (mpD Zb Zb m5_0)),(.mp (mpD Zn Zb m6_0)),(.arr 2 (List.map Zw (m2_0++[(Zm.mk b c)])))])
theorem Zan {b:Int} {c:Int} {m1_0:(List Int)} {m2_0:(List Zm)} {m3_0:(List Zh)} {m4_0:(List (Int×Int))} {m5_0:(List (Int×Int))} {m6_0:(List (Zi×Int))}:∀r,(ZG b c m2_0)=some r→evW ctx 43 [(.ptr 0 0),(.d (Zb b)),(.d (Zb c))] [(.cells [(.sl 1 1),(.sl 2 2),(.sl 3 2),(.mp 4),(.mp 5),(.mp 6)]),(.arr 1 (List.map Zb m1_0)),(.arr 2 (List.map Zw m2_0)),(.arr 2 (List.map ZaG m3_0)),(.mp (mpD Zb Zb m4_0)),(.mp (mpD Zb Zb m5_0)),(.mp (mpD Zn Zb m6_0))]=some ((Zfl b c m1_0 m2_0 m3_0 m4_0 m5_0 m6_0) r):=by
 show ZX _ (fun r rhs=>rhs=some ((Zfl b c m1_0 m2_0 m3_0 m4_0 m5_0 m6_0) r)) _
 unfold ZG
 rw[ZeZ ctx 43 Zwj _ _ rfl rfl]
 conv=>arg 3; whnf
 refine Zcl rfl ?_
 conv=>arg 3; whnf
 refine Ze (ZiY Zw m2_0 1) ?_ ?_
 ·conv=>arg 3; whnf
  refine Zs (ZiS Zw m2_0 [(Zm.mk b c)]) ?_
  conv=>arg 3; whnf
  exact Zg rfl
 ·exact Za4
def Zfk (t0:Bool) (t1:Bool) (t2:Bool) (t3:Bool) (b:Zo) (c:Int) (m1_0:(List Int)) (m2_0:(List Zm)) (m3_0:(List Zh)) (m4_0:(List (Int×Int))) (m5_0:(List (Int×Int))) (m6_0:(List (Zi×Int))):(((List (Int×Int))×(List (Zi×Int))×(List Int)×(List Zm)×(List Zh))⊕((List Int)⊕Unit))→V×Zl
  | (.inl r)=>((.d (D.tup [])),[(.cells [(.sl 7 1),(.sl 8 2),(.sl 9 2),(.mp 4),(.mp 5),(.mp 6)]),.dead,.dead,.dead,(.mp (mpD Zb Zb (Zt (fun ka kb:Int=>(ka==kb)) m4_0 c (m3_0.length:Int)))),(.mp (mpD Zb Zb r.1)),(.mp (mpD Zn Zb r.2.1)),(.arr 1 (List.map Zb r.2.2.1)),(.arr 2 (List.map Zw r.2.2.2.1)),(.arr 2 (List.map ZaG r.2.2.2.2))])
  | (.inr (.inl r))=>((.d (D.tup [])),[(.cells [(.sl 7 1),(.sl 2 2),(.sl 8 2),(.mp 4),(.mp 5),(.mp 6)]),.dead,(.arr 2 (List.map Zw m2_0)),.dead,(.mp (mpD Zb Zb (Zt (fun ka kb:Int=>(ka==kb)) m4_0 c (m3_0.length:Int)))),(.mp (mpD Zb Zb (Zt (fun ka kb:Int=>(ka==kb)) m5_0 c (w64 ((List.length (m3_0++[(Zh.mk c 0)]):Int)-1))))),(.mp (mpD Zn Zb m6_0)),(.arr 1 (List.map Zb r)),(.arr 2 (List.map ZaG (m3_0++[(Zh.mk c 0)])))])
  | (.inr (.inr r))=>((.d (D.tup [])),[(.cells [(.sl 1 1),(.sl 2 2),(.sl 3 2),(.mp 4),(.mp 5),(.mp 6)]),(.arr 1 (List.map Zb m1_0)),(.arr 2 (List.map Zw m2_0)),(.arr 2 (List.map ZaG m3_0)),(.mp (mpD Zb Zb (Zt (fun ka kb:Int=>(ka==kb)) m4_0 c (m3_0.length:Int)))),(.mp (mpD Zb Zb m5_0)),(.mp (mpD Zn Zb m6_0))])
def ZeP (t0:Bool) (t1:Bool) (t2:Bool) (t3:Bool) (b:Zo) (c:Int) (m3_0:(List Zh)) (m4_0:(List (Int×Int))) (x0:(List Int)):((List (Int×Int))×(List (Zi×Int))×(List Int)×(List Zm)×(List Zh))→Ex×List V×Zl
  | r=>(.exit 0,[],[(.cells [(.sl 7 1),(.sl 8 2),(.sl 9 2),(.mp 4),(.mp 5),(.mp 6)]),.dead,.dead,.dead,(.mp (mpD Zb Zb (Zt (fun ka kb:Int=>(ka==kb)) m4_0 c (m3_0.length:Int)))),(.mp (mpD Zb Zb r.1)),(.mp (mpD Zn Zb r.2.1)),(.arr 1 (List.map Zb r.2.2.1)),(.arr 2 (List.map Zw r.2.2.2.1)),(.arr 2 (List.map ZaG r.2.2.2.2))])
theorem Zcn {t0:Bool} {t1:Bool} {t2:Bool} {t3:Bool} {b:Zo} {c:Int} {m3_0:(List Zh)} {m4_0:(List (Int×Int))} {x0:(List Int)}:∀(s14:Int×Int×(List (Int×Int))×(List (Zi×Int))×(List Int)×(List Zm)×(List Zh)) (r:((List (Int×Int))×(List (Zi×Int))×(List Int)×(List Zm)×(List Zh))),lp (Zy b c x0) s14=some r→lpW ctx 7 [0,2,4,6,7,26,27] [] ZmA [(.ptr 0 0),(.d (Zb c)),(.ptr 7 0),(.d (Zb s14.1)),(.d (D.list true (List.map Zb x0))),(.d (Zb (w64 ((x0.length:Int)+1)))),(.d (Zb s14.2.1))] [(.cells [(.sl 8 1),(.sl 9 2),(.sl 10 2),(.mp 4),(.mp 5),(.mp 6)]),.dead,.dead,.dead,(.mp (mpD Zb Zb (Zt (fun ka kb:Int=>(ka==kb)) m4_0 c (m3_0.length:Int)))),(.mp (mpD Zb Zb s14.2.2.1)),(.mp (mpD Zn Zb s14.2.2.2.1)),(.cells (dV t0 t1 t2 t3 b)),(.arr 1 (List.map Zb s14.2.2.2.2.1)),(.arr 2 (List.map Zw s14.2.2.2.2.2.1)),(.arr 2 (List.map ZaG s14.2.2.2.2.2.2))]=some ((ZeP t0 t1 t2 t3 b c m3_0 m4_0 x0) r):=by
 refine Za7 (ZeP t0 t1 t2 t3 b c m3_0 m4_0 x0) ?_
 intro s14 rcl ih
 show ZX _ _ (lpW _ _ _ _ _ _ _)
 unfold Zy
 rw[Za8]
 conv=>arg 3; whnf
 refine Ze rfl ?_ ?_
 ·conv=>arg 3; whnf
  refine Zk rfl rfl fun x15 hx15=>?_
  conv=>arg 3; whnf
  refine Zs (ZK _ _) ?_
  conv=>arg 3; whnf
  refine Ze rfl ?_ ?_
  ·conv=>arg 3; whnf
   refine Zk rfl rfl fun x16 hx16=>?_
   conv=>arg 3; whnf
   refine Zk rfl rfl fun x17 hx17=>?_
   conv=>arg 3; whnf
   refine Zc _ ZaF fun x18 hx18=>?_
   conv=>arg 3; whnf
   refine Zf (Zdk (f:=Zb) (g:=Zb) (fun ka kb:Int=>(ka==kb)) (fun _ _=>rfl) s14.2.2.1 c (w64 ((List.length (s14.2.2.2.2.2.2++[(Zh.mk c s14.2.1)]):Int)-1))) ?_
   conv=>arg 3; whnf
   refine Ze rfl ?_ ?_
   ·conv=>arg 3; whnf
    refine Zf (Zbu (f:=Zb) (g:=Zb) (fun ka kb:Int=>(ka==kb)) (fun _ _=>rfl) (Zt (fun ka kb:Int=>(ka==kb)) s14.2.2.1 c (w64 ((List.length (s14.2.2.2.2.2.2++[(Zh.mk c s14.2.1)]):Int)-1))) c 0) ?_
    conv=>arg 3; whnf
    refine Zf (Zbu (f:=Zb) (g:=Zb) (fun ka kb:Int=>(ka==kb)) (fun _ _=>rfl) (Zt (fun ka kb:Int=>(ka==kb)) s14.2.2.1 c (w64 ((List.length (s14.2.2.2.2.2.2++[(Zh.mk c s14.2.1)]):Int)-1))) c 0) ?_
    conv=>arg 3; whnf
    refine Zc _ Zan fun x19 hx19=>?_
    conv=>arg 3; whnf
    refine Zk rfl rfl fun x20 hx20=>?_
    conv=>arg 3; whnf
    refine Zk rfl rfl fun x21 hx21=>?_
    conv=>arg 3; whnf
    refine Zf (Zbu (f:=Zb) (g:=Zb) (fun ka kb:Int=>(ka==kb)) (fun _ _=>rfl) (Zt (fun ka kb:Int=>(ka==kb)) s14.2.2.1 c (w64 ((List.length (s14.2.2.2.2.2.2++[(Zh.mk c s14.2.1)]):Int)-1))) c 0) ?_
    conv=>arg 3; whnf
    refine Zf (Zdk (f:=Zn) (g:=Zb) (fun ka kb:Zi=>((ka.maker==kb.maker)&&((ka.user==kb.user)&&((ka.pos==kb.pos)&&true)))) (fun _ _=>rfl) s14.2.2.2.1 x21 (Z2 (fun ka kb:Int=>(ka==kb)) (Zt (fun ka kb:Int=>(ka==kb)) s14.2.2.1 c (w64 ((List.length (s14.2.2.2.2.2.2++[(Zh.mk c s14.2.1)]):Int)-1))) c 0)) ?_
    conv=>arg 3; whnf
    exact Zd (ih _)
   ·conv=>arg 3; whnf
    exact Zd (ih _)
  ·conv=>arg 3; whnf
   refine Zc _ ZaF fun x22 hx22=>?_
   conv=>arg 3; whnf
   refine Zf (Zdk (f:=Zb) (g:=Zb) (fun ka kb:Int=>(ka==kb)) (fun _ _=>rfl) s14.2.2.1 c (w64 ((List.length (s14.2.2.2.2.2.2++[(Zh.mk c s14.2.1)]):Int)-1))) ?_
   conv=>arg 3; whnf
   refine Ze rfl ?_ ?_
   ·conv=>arg 3; whnf
    refine Zf (Zbu (f:=Zb) (g:=Zb) (fun ka kb:Int=>(ka==kb)) (fun _ _=>rfl) (Zt (fun ka kb:Int=>(ka==kb)) s14.2.2.1 c (w64 ((List.length (s14.2.2.2.2.2.2++[(Zh.mk c s14.2.1)]):Int)-1))) c 0) ?_
    conv=>arg 3; whnf
    refine Zf (Zbu (f:=Zb) (g:=Zb) (fun ka kb:Int=>(ka==kb)) (fun _ _=>rfl) (Zt (fun ka kb:Int=>(ka==kb)) s14.2.2.1 c (w64 ((List.length (s14.2.2.2.2.2.2++[(Zh.mk c s14.2.1)]):Int)-1))) c 0) ?_
    conv=>arg 3; whnf
    refine Zc _ Zan fun x23 hx23=>?_
    conv=>arg 3; whnf
    refine Zk rfl rfl fun x24 hx24=>?_
    conv=>arg 3; whnf
    refine Zk rfl rfl fun x25 hx25=>?_
    conv=>arg 3; whnf
    refine Zf (Zbu (f:=Zb) (g:=Zb) (fun ka kb:Int=>(ka==kb)) (fun _ _=>rfl) (Zt (fun ka kb:Int=>(ka==kb)) s14.2.2.1 c (w64 ((List.length (s14.2.2.2.2.2.2++[(Zh.mk c s14.2.1)]):Int)-1))) c 0) ?_
    conv=>arg 3; whnf
    refine Zf (Zdk (f:=Zn) (g:=Zb) (fun ka kb:Zi=>((ka.maker==kb.maker)&&((ka.user==kb.user)&&((ka.pos==kb.pos)&&true)))) (fun _ _=>rfl) s14.2.2.2.1 x25 (Z2 (fun ka kb:Int=>(ka==kb)) (Zt (fun ka kb:Int=>(ka==kb)) s14.2.2.1 c (w64 ((List.length (s14.2.2.2.2.2.2++[(Zh.mk c s14.2.1)]):Int)-1))) c 0)) ?_
    conv=>arg 3; whnf
    exact Zd (ih _)
   ·conv=>arg 3; whnf
    exact Zd (ih _)
 ·conv=>arg 3; whnf
  exact Zg rfl
def Zeq (t0:Bool) (t1:Bool) (t2:Bool) (t3:Bool) (b:Zo) (c:Int) (m1_0:(List Int)) (m2_0:(List Zm)) (m3_0:(List Zh)) (m4_0:(List (Int×Int))) (m5_0:(List (Int×Int))) (m6_0:(List (Zi×Int))) (x0:(List Int)) (x4:Zi):(((List (Int×Int))×(List (Zi×Int))×(List Int)×(List Zm)×(List Zh))⊕Unit)→Ex×List V×Zl
  | (.inl r)=>(.exit 0,[],[(.cells [(.sl 7 1),(.sl 8 2),(.sl 9 2),(.mp 4),(.mp 5),(.mp 6)]),.dead,.dead,.dead,(.mp (mpD Zb Zb (Zt (fun ka kb:Int=>(ka==kb)) m4_0 c (m3_0.length:Int)))),(.mp (mpD Zb Zb r.1)),(.mp (mpD Zn Zb r.2.1)),(.arr 1 (List.map Zb r.2.2.1)),(.arr 2 (List.map Zw r.2.2.2.1)),(.arr 2 (List.map ZaG r.2.2.2.2))])
  | (.inr r)=>(.exit 0,[],[(.cells [(.sl 7 1),(.sl 2 2),(.sl 8 2),(.mp 4),(.mp 5),(.mp 6)]),.dead,(.arr 2 (List.map Zw m2_0)),.dead,(.mp (mpD Zb Zb (Zt (fun ka kb:Int=>(ka==kb)) m4_0 c (m3_0.length:Int)))),(.mp (mpD Zb Zb (Zt (fun ka kb:Int=>(ka==kb)) m5_0 c (w64 ((List.length (m3_0++[(Zh.mk c 0)]):Int)-1))))),(.mp (mpD Zn Zb m6_0)),(.arr 1 (List.map Zb (m1_0++[(w64 (x4.pos-0))]))),(.arr 2 (List.map ZaG (m3_0++[(Zh.mk c 0)])))])
theorem Zf5 {t0:Bool} {t1:Bool} {t2:Bool} {t3:Bool} {b:Zo} {c:Int} {m1_0:(List Int)} {m2_0:(List Zm)} {m3_0:(List Zh)} {m4_0:(List (Int×Int))} {m5_0:(List (Int×Int))} {m6_0:(List (Zi×Int))} {x0:(List Int)} {x4:Zi}:∀(s6:Unit) (r:(((List (Int×Int))×(List (Zi×Int))×(List Int)×(List Zm)×(List Zh))⊕Unit)),lp (Zbi b c m1_0 m2_0 m3_0 m5_0 m6_0 x0 x4) s6=some r→lpW ctx 7 [0,2,4,6,7,26,27] [] ZmA [(.ptr 0 0),(.d (Zb c)),(.ptr 7 0),(.d (Zb x4.pos)),(.d (D.list true (List.map Zb x0))),(.d (Zb (w64 ((x0.length:Int)+1)))),(.d (Zb 1))] [(.cells [(.sl 8 1),(.sl 2 2),(.sl 9 2),(.mp 4),(.mp 5),(.mp 6)]),.dead,(.arr 2 (List.map Zw m2_0)),.dead,(.mp (mpD Zb Zb (Zt (fun ka kb:Int=>(ka==kb)) m4_0 c (m3_0.length:Int)))),(.mp (mpD Zb Zb (Zt (fun ka kb:Int=>(ka==kb)) m5_0 c (w64 ((List.length (m3_0++[(Zh.mk c 0)]):Int)-1))))),(.mp (mpD Zn Zb m6_0)),(.cells (dV t0 t1 t2 t3 b)),(.arr 1 (List.map Zb (m1_0++[(w64 (x4.pos-0))]))),(.arr 2 (List.map ZaG (m3_0++[(Zh.mk c 0)])))]=some ((Zeq t0 t1 t2 t3 b c m1_0 m2_0 m3_0 m4_0 m5_0 m6_0 x0 x4) r):=by
 refine Za7 (Zeq t0 t1 t2 t3 b c m1_0 m2_0 m3_0 m4_0 m5_0 m6_0 x0 x4) ?_
 intro s6 rcl ih
 show ZX _ _ (lpW _ _ _ _ _ _ _)
 unfold Zbi
 rw[Za8]
 conv=>arg 3; whnf
 refine Ze rfl ?_ ?_
 ·conv=>arg 3; whnf
  refine Zk rfl rfl fun x7 hx7=>?_
  conv=>arg 3; whnf
  refine Zs (ZK _ _) ?_
  conv=>arg 3; whnf
  refine Ze rfl ?_ ?_
  ·conv=>arg 3; whnf
   refine Zk rfl rfl fun x8 hx8=>?_
   conv=>arg 3; whnf
   refine Zk rfl rfl fun x9 hx9=>?_
   conv=>arg 3; whnf
   refine Zc _ ZaF fun x10 hx10=>?_
   conv=>arg 3; whnf
   refine Zf (Zdk (f:=Zb) (g:=Zb) (fun ka kb:Int=>(ka==kb)) (fun _ _=>rfl) (Zt (fun ka kb:Int=>(ka==kb)) m5_0 c (w64 ((List.length (m3_0++[(Zh.mk c 0)]):Int)-1))) c (w64 ((List.length ((m3_0++[(Zh.mk c 0)])++[(Zh.mk c 1)]):Int)-1))) ?_
   conv=>arg 3; whnf
   refine Zcl rfl ?_
   conv=>arg 3; whnf
   refine Zf (Zbu (f:=Zb) (g:=Zb) (fun ka kb:Int=>(ka==kb)) (fun _ _=>rfl) (Zt (fun ka kb:Int=>(ka==kb)) (Zt (fun ka kb:Int=>(ka==kb)) m5_0 c (w64 ((List.length (m3_0++[(Zh.mk c 0)]):Int)-1))) c (w64 ((List.length ((m3_0++[(Zh.mk c 0)])++[(Zh.mk c 1)]):Int)-1))) c 0) ?_
   conv=>arg 3; whnf
   refine Zf (Zbu (f:=Zb) (g:=Zb) (fun ka kb:Int=>(ka==kb)) (fun _ _=>rfl) (Zt (fun ka kb:Int=>(ka==kb)) (Zt (fun ka kb:Int=>(ka==kb)) m5_0 c (w64 ((List.length (m3_0++[(Zh.mk c 0)]):Int)-1))) c (w64 ((List.length ((m3_0++[(Zh.mk c 0)])++[(Zh.mk c 1)]):Int)-1))) c 0) ?_
   conv=>arg 3; whnf
   refine Zc _ Zan fun x11 hx11=>?_
   conv=>arg 3; whnf
   refine Zk rfl rfl fun x12 hx12=>?_
   conv=>arg 3; whnf
   refine Zk rfl rfl fun x13 hx13=>?_
   conv=>arg 3; whnf
   refine Zf (Zbu (f:=Zb) (g:=Zb) (fun ka kb:Int=>(ka==kb)) (fun _ _=>rfl) (Zt (fun ka kb:Int=>(ka==kb)) (Zt (fun ka kb:Int=>(ka==kb)) m5_0 c (w64 ((List.length (m3_0++[(Zh.mk c 0)]):Int)-1))) c (w64 ((List.length ((m3_0++[(Zh.mk c 0)])++[(Zh.mk c 1)]):Int)-1))) c 0) ?_
   conv=>arg 3; whnf
   refine Zf (Zdk (f:=Zn) (g:=Zb) (fun ka kb:Zi=>((ka.maker==kb.maker)&&((ka.user==kb.user)&&((ka.pos==kb.pos)&&true)))) (fun _ _=>rfl) m6_0 x13 (Z2 (fun ka kb:Int=>(ka==kb)) (Zt (fun ka kb:Int=>(ka==kb)) (Zt (fun ka kb:Int=>(ka==kb)) m5_0 c (w64 ((List.length (m3_0++[(Zh.mk c 0)]):Int)-1))) c (w64 ((List.length ((m3_0++[(Zh.mk c 0)])++[(Zh.mk c 1)]):Int)-1))) c 0)) ?_
   conv=>arg 3; whnf
   refine Zc _ (Zcn _) fun r26 hr26=>?_
   conv=>arg 3; whnf
   exact Zg rfl
  ·conv=>arg 3; whnf
   refine Zc _ ZaF fun x27 hx27=>?_
   conv=>arg 3; whnf
   refine Zf (Zdk (f:=Zb) (g:=Zb) (fun ka kb:Int=>(ka==kb)) (fun _ _=>rfl) (Zt (fun ka kb:Int=>(ka==kb)) m5_0 c (w64 ((List.length (m3_0++[(Zh.mk c 0)]):Int)-1))) c (w64 ((List.length ((m3_0++[(Zh.mk c 0)])++[(Zh.mk c 1)]):Int)-1))) ?_
   conv=>arg 3; whnf
   refine Zcl rfl ?_
   conv=>arg 3; whnf
   refine Zf (Zbu (f:=Zb) (g:=Zb) (fun ka kb:Int=>(ka==kb)) (fun _ _=>rfl) (Zt (fun ka kb:Int=>(ka==kb)) (Zt (fun ka kb:Int=>(ka==kb)) m5_0 c (w64 ((List.length (m3_0++[(Zh.mk c 0)]):Int)-1))) c (w64 ((List.length ((m3_0++[(Zh.mk c 0)])++[(Zh.mk c 1)]):Int)-1))) c 0) ?_
   conv=>arg 3; whnf
   refine Zf (Zbu (f:=Zb) (g:=Zb) (fun ka kb:Int=>(ka==kb)) (fun _ _=>rfl) (Zt (fun ka kb:Int=>(ka==kb)) (Zt (fun ka kb:Int=>(ka==kb)) m5_0 c (w64 ((List.length (m3_0++[(Zh.mk c 0)]):Int)-1))) c (w64 ((List.length ((m3_0++[(Zh.mk c 0)])++[(Zh.mk c 1)]):Int)-1))) c 0) ?_
   conv=>arg 3; whnf
   refine Zc _ Zan fun x28 hx28=>?_
   conv=>arg 3; whnf
   refine Zk rfl rfl fun x29 hx29=>?_
   conv=>arg 3; whnf
   refine Zk rfl rfl fun x30 hx30=>?_
   conv=>arg 3; whnf
   refine Zf (Zbu (f:=Zb) (g:=Zb) (fun ka kb:Int=>(ka==kb)) (fun _ _=>rfl) (Zt (fun ka kb:Int=>(ka==kb)) (Zt (fun ka kb:Int=>(ka==kb)) m5_0 c (w64 ((List.length (m3_0++[(Zh.mk c 0)]):Int)-1))) c (w64 ((List.length ((m3_0++[(Zh.mk c 0)])++[(Zh.mk c 1)]):Int)-1))) c 0) ?_
   conv=>arg 3; whnf
   refine Zf (Zdk (f:=Zn) (g:=Zb) (fun ka kb:Zi=>((ka.maker==kb.maker)&&((ka.user==kb.user)&&((ka.pos==kb.pos)&&true)))) (fun _ _=>rfl) m6_0 x30 (Z2 (fun ka kb:Int=>(ka==kb)) (Zt (fun ka kb:Int=>(ka==kb)) (Zt (fun ka kb:Int=>(ka==kb)) m5_0 c (w64 ((List.length (m3_0++[(Zh.mk c 0)]):Int)-1))) c (w64 ((List.length ((m3_0++[(Zh.mk c 0)])++[(Zh.mk c 1)]):Int)-1))) c 0)) ?_
   conv=>arg 3; whnf
   refine Zc _ (Zcn _) fun r43 hr43=>?_
   conv=>arg 3; whnf
   exact Zg rfl
 ·conv=>arg 3; whnf
  exact Zg rfl
def Zew (t0:Bool) (t1:Bool) (t2:Bool) (t3:Bool) (b:Zo) (c:Int) (m1_0:(List Int)) (m2_0:(List Zm)) (m3_0:(List Zh)) (m4_0:(List (Int×Int))) (m5_0:(List (Int×Int))) (m6_0:(List (Zi×Int))) (x0:(List Int)) (x2:ZV):(((List (Int×Int))×(List (Zi×Int))×(List Int)×(List Zm)×(List Zh))⊕Unit)→Ex×List V×Zl
  | (.inl r)=>(.exit 0,[],[(.cells [(.sl 7 1),(.sl 8 2),(.sl 9 2),(.mp 4),(.mp 5),(.mp 6)]),.dead,.dead,.dead,(.mp (mpD Zb Zb (Zt (fun ka kb:Int=>(ka==kb)) m4_0 c (m3_0.length:Int)))),(.mp (mpD Zb Zb r.1)),(.mp (mpD Zn Zb r.2.1)),(.arr 1 (List.map Zb r.2.2.1)),(.arr 2 (List.map Zw r.2.2.2.1)),(.arr 2 (List.map ZaG r.2.2.2.2))])
  | (.inr r)=>(.exit 0,[],[(.cells [(.sl 7 1),(.sl 2 2),(.sl 8 2),(.mp 4),(.mp 5),(.mp 6)]),.dead,(.arr 2 (List.map Zw m2_0)),.dead,(.mp (mpD Zb Zb (Zt (fun ka kb:Int=>(ka==kb)) m4_0 c (m3_0.length:Int)))),(.mp (mpD Zb Zb (Zt (fun ka kb:Int=>(ka==kb)) m5_0 c (w64 ((List.length (m3_0++[(Zh.mk c 0)]):Int)-1))))),(.mp (mpD Zn Zb m6_0)),(.arr 1 (List.map Zb (m1_0++[(w64 (x2.work-0))]))),(.arr 2 (List.map ZaG (m3_0++[(Zh.mk c 0)])))])
theorem Zgd {t0:Bool} {t1:Bool} {t2:Bool} {t3:Bool} {b:Zo} {c:Int} {m1_0:(List Int)} {m2_0:(List Zm)} {m3_0:(List Zh)} {m4_0:(List (Int×Int))} {m5_0:(List (Int×Int))} {m6_0:(List (Zi×Int))} {x0:(List Int)} {x2:ZV}:∀(s46:Unit) (r:(((List (Int×Int))×(List (Zi×Int))×(List Int)×(List Zm)×(List Zh))⊕Unit)),lp (ZbZ b c m1_0 m2_0 m3_0 m5_0 m6_0 x0 x2) s46=some r→lpW ctx 7 [0,2,4,6,7,26,27] [] ZmA [(.ptr 0 0),(.d (Zb c)),(.ptr 7 0),(.d (Zb x2.work)),(.d (D.list true (List.map Zb x0))),(.d (Zb (w64 ((x0.length:Int)+1)))),(.d (Zb 1))] [(.cells [(.sl 8 1),(.sl 2 2),(.sl 9 2),(.mp 4),(.mp 5),(.mp 6)]),.dead,(.arr 2 (List.map Zw m2_0)),.dead,(.mp (mpD Zb Zb (Zt (fun ka kb:Int=>(ka==kb)) m4_0 c (m3_0.length:Int)))),(.mp (mpD Zb Zb (Zt (fun ka kb:Int=>(ka==kb)) m5_0 c (w64 ((List.length (m3_0++[(Zh.mk c 0)]):Int)-1))))),(.mp (mpD Zn Zb m6_0)),(.cells (dV t0 t1 t2 t3 b)),(.arr 1 (List.map Zb (m1_0++[(w64 (x2.work-0))]))),(.arr 2 (List.map ZaG (m3_0++[(Zh.mk c 0)])))]=some ((Zew t0 t1 t2 t3 b c m1_0 m2_0 m3_0 m4_0 m5_0 m6_0 x0 x2) r):=by
 refine Za7 (Zew t0 t1 t2 t3 b c m1_0 m2_0 m3_0 m4_0 m5_0 m6_0 x0 x2) ?_
 intro s46 rcl ih
 show ZX _ _ (lpW _ _ _ _ _ _ _)
 unfold ZbZ
 rw[Za8]
 conv=>arg 3; whnf
 refine Ze rfl ?_ ?_
 ·conv=>arg 3; whnf
  refine Zk rfl rfl fun x47 hx47=>?_
  conv=>arg 3; whnf
  refine Zs (ZK _ _) ?_
  conv=>arg 3; whnf
  refine Ze rfl ?_ ?_
  ·conv=>arg 3; whnf
   refine Zk rfl rfl fun x48 hx48=>?_
   conv=>arg 3; whnf
   refine Zk rfl rfl fun x49 hx49=>?_
   conv=>arg 3; whnf
   refine Zc _ ZaF fun x50 hx50=>?_
   conv=>arg 3; whnf
   refine Zf (Zdk (f:=Zb) (g:=Zb) (fun ka kb:Int=>(ka==kb)) (fun _ _=>rfl) (Zt (fun ka kb:Int=>(ka==kb)) m5_0 c (w64 ((List.length (m3_0++[(Zh.mk c 0)]):Int)-1))) c (w64 ((List.length ((m3_0++[(Zh.mk c 0)])++[(Zh.mk c 1)]):Int)-1))) ?_
   conv=>arg 3; whnf
   refine Zcl rfl ?_
   conv=>arg 3; whnf
   refine Zf (Zbu (f:=Zb) (g:=Zb) (fun ka kb:Int=>(ka==kb)) (fun _ _=>rfl) (Zt (fun ka kb:Int=>(ka==kb)) (Zt (fun ka kb:Int=>(ka==kb)) m5_0 c (w64 ((List.length (m3_0++[(Zh.mk c 0)]):Int)-1))) c (w64 ((List.length ((m3_0++[(Zh.mk c 0)])++[(Zh.mk c 1)]):Int)-1))) c 0) ?_
   conv=>arg 3; whnf
   refine Zf (Zbu (f:=Zb) (g:=Zb) (fun ka kb:Int=>(ka==kb)) (fun _ _=>rfl) (Zt (fun ka kb:Int=>(ka==kb)) (Zt (fun ka kb:Int=>(ka==kb)) m5_0 c (w64 ((List.length (m3_0++[(Zh.mk c 0)]):Int)-1))) c (w64 ((List.length ((m3_0++[(Zh.mk c 0)])++[(Zh.mk c 1)]):Int)-1))) c 0) ?_
   conv=>arg 3; whnf
   refine Zc _ Zan fun x51 hx51=>?_
   conv=>arg 3; whnf
   refine Zk rfl rfl fun x52 hx52=>?_
   conv=>arg 3; whnf
   refine Zk rfl rfl fun x53 hx53=>?_
   conv=>arg 3; whnf
   refine Zf (Zbu (f:=Zb) (g:=Zb) (fun ka kb:Int=>(ka==kb)) (fun _ _=>rfl) (Zt (fun ka kb:Int=>(ka==kb)) (Zt (fun ka kb:Int=>(ka==kb)) m5_0 c (w64 ((List.length (m3_0++[(Zh.mk c 0)]):Int)-1))) c (w64 ((List.length ((m3_0++[(Zh.mk c 0)])++[(Zh.mk c 1)]):Int)-1))) c 0) ?_
   conv=>arg 3; whnf
   refine Zf (Zdk (f:=Zn) (g:=Zb) (fun ka kb:Zi=>((ka.maker==kb.maker)&&((ka.user==kb.user)&&((ka.pos==kb.pos)&&true)))) (fun _ _=>rfl) m6_0 x53 (Z2 (fun ka kb:Int=>(ka==kb)) (Zt (fun ka kb:Int=>(ka==kb)) (Zt (fun ka kb:Int=>(ka==kb)) m5_0 c (w64 ((List.length (m3_0++[(Zh.mk c 0)]):Int)-1))) c (w64 ((List.length ((m3_0++[(Zh.mk c 0)])++[(Zh.mk c 1)]):Int)-1))) c 0)) ?_
   conv=>arg 3; whnf
   refine Zc _ (Zcn _) fun r66 hr66=>?_
   conv=>arg 3; whnf
   exact Zg rfl
  ·conv=>arg 3; whnf
   refine Zc _ ZaF fun x67 hx67=>?_
   conv=>arg 3; whnf
   refine Zf (Zdk (f:=Zb) (g:=Zb) (fun ka kb:Int=>(ka==kb)) (fun _ _=>rfl) (Zt (fun ka kb:Int=>(ka==kb)) m5_0 c (w64 ((List.length (m3_0++[(Zh.mk c 0)]):Int)-1))) c (w64 ((List.length ((m3_0++[(Zh.mk c 0)])++[(Zh.mk c 1)]):Int)-1))) ?_
   conv=>arg 3; whnf
   refine Zcl rfl ?_
   conv=>arg 3; whnf
   refine Zf (Zbu (f:=Zb) (g:=Zb) (fun ka kb:Int=>(ka==kb)) (fun _ _=>rfl) (Zt (fun ka kb:Int=>(ka==kb)) (Zt (fun ka kb:Int=>(ka==kb)) m5_0 c (w64 ((List.length (m3_0++[(Zh.mk c 0)]):Int)-1))) c (w64 ((List.length ((m3_0++[(Zh.mk c 0)])++[(Zh.mk c 1)]):Int)-1))) c 0) ?_
   conv=>arg 3; whnf
   refine Zf (Zbu (f:=Zb) (g:=Zb) (fun ka kb:Int=>(ka==kb)) (fun _ _=>rfl) (Zt (fun ka kb:Int=>(ka==kb)) (Zt (fun ka kb:Int=>(ka==kb)) m5_0 c (w64 ((List.length (m3_0++[(Zh.mk c 0)]):Int)-1))) c (w64 ((List.length ((m3_0++[(Zh.mk c 0)])++[(Zh.mk c 1)]):Int)-1))) c 0) ?_
   conv=>arg 3; whnf
   refine Zc _ Zan fun x68 hx68=>?_
   conv=>arg 3; whnf
   refine Zk rfl rfl fun x69 hx69=>?_
   conv=>arg 3; whnf
   refine Zk rfl rfl fun x70 hx70=>?_
   conv=>arg 3; whnf
   refine Zf (Zbu (f:=Zb) (g:=Zb) (fun ka kb:Int=>(ka==kb)) (fun _ _=>rfl) (Zt (fun ka kb:Int=>(ka==kb)) (Zt (fun ka kb:Int=>(ka==kb)) m5_0 c (w64 ((List.length (m3_0++[(Zh.mk c 0)]):Int)-1))) c (w64 ((List.length ((m3_0++[(Zh.mk c 0)])++[(Zh.mk c 1)]):Int)-1))) c 0) ?_
   conv=>arg 3; whnf
   refine Zf (Zdk (f:=Zn) (g:=Zb) (fun ka kb:Zi=>((ka.maker==kb.maker)&&((ka.user==kb.user)&&((ka.pos==kb.pos)&&true)))) (fun _ _=>rfl) m6_0 x70 (Z2 (fun ka kb:Int=>(ka==kb)) (Zt (fun ka kb:Int=>(ka==kb)) (Zt (fun ka kb:Int=>(ka==kb)) m5_0 c (w64 ((List.length (m3_0++[(Zh.mk c 0)]):Int)-1))) c (w64 ((List.length ((m3_0++[(Zh.mk c 0)])++[(Zh.mk c 1)]):Int)-1))) c 0)) ?_
   conv=>arg 3; whnf
   refine Zc _ (Zcn _) fun r83 hr83=>?_
   conv=>arg 3; whnf
   exact Zg rfl
 ·conv=>arg 3; whnf
  exact Zg rfl
def Zem (t0:Bool) (t1:Bool) (t2:Bool) (t3:Bool) (b:Zo) (c:Int) (m1_0:(List Int)) (m2_0:(List Zm)) (m3_0:(List Zh)) (m4_0:(List (Int×Int))) (m5_0:(List (Int×Int))) (m6_0:(List (Zi×Int))) (x0:(List Int)):(((List (Int×Int))×(List (Zi×Int))×(List Int)×(List Zm)×(List Zh))⊕((List Int)⊕Unit))→Ex×List V×Zl
  | (.inl r)=>(.exit 0,[],[(.cells [(.sl 7 1),(.sl 8 2),(.sl 9 2),(.mp 4),(.mp 5),(.mp 6)]),.dead,.dead,.dead,(.mp (mpD Zb Zb (Zt (fun ka kb:Int=>(ka==kb)) m4_0 c (m3_0.length:Int)))),(.mp (mpD Zb Zb r.1)),(.mp (mpD Zn Zb r.2.1)),(.arr 1 (List.map Zb r.2.2.1)),(.arr 2 (List.map Zw r.2.2.2.1)),(.arr 2 (List.map ZaG r.2.2.2.2))])
  | (.inr (.inl r))=>(.exit 0,[],[(.cells [(.sl 7 1),(.sl 2 2),(.sl 8 2),(.mp 4),(.mp 5),(.mp 6)]),.dead,(.arr 2 (List.map Zw m2_0)),.dead,(.mp (mpD Zb Zb (Zt (fun ka kb:Int=>(ka==kb)) m4_0 c (m3_0.length:Int)))),(.mp (mpD Zb Zb (Zt (fun ka kb:Int=>(ka==kb)) m5_0 c (w64 ((List.length (m3_0++[(Zh.mk c 0)]):Int)-1))))),(.mp (mpD Zn Zb m6_0)),(.arr 1 (List.map Zb r)),(.arr 2 (List.map ZaG (m3_0++[(Zh.mk c 0)])))])
  | (.inr (.inr r))=>(.exit 0,[],[(.cells [(.sl 1 1),(.sl 2 2),(.sl 3 2),(.mp 4),(.mp 5),(.mp 6)]),(.arr 1 (List.map Zb m1_0)),(.arr 2 (List.map Zw m2_0)),(.arr 2 (List.map ZaG m3_0)),(.mp (mpD Zb Zb (Zt (fun ka kb:Int=>(ka==kb)) m4_0 c (m3_0.length:Int)))),(.mp (mpD Zb Zb m5_0)),(.mp (mpD Zn Zb m6_0))])
theorem Zge {t0:Bool} {t1:Bool} {t2:Bool} {t3:Bool} {b:Zo} {c:Int} {m1_0:(List Int)} {m2_0:(List Zm)} {m3_0:(List Zh)} {m4_0:(List (Int×Int))} {m5_0:(List (Int×Int))} {m6_0:(List (Zi×Int))} {x0:(List Int)}:∀(s1:Unit) (r:(((List (Int×Int))×(List (Zi×Int))×(List Int)×(List Zm)×(List Zh))⊕((List Int)⊕Unit))),lp (Zbj b c m1_0 m2_0 m3_0 m5_0 m6_0 x0) s1=some r→lpW ctx 7 [0,2,4,6,7,26,27] [] ZmA [(.ptr 0 0),(.d (Zb c)),(.ptr 7 0),(.d (Zb 0)),(.d (D.list true (List.map Zb x0))),(.d (Zb (w64 ((x0.length:Int)+1)))),(.d (Zb 0))] [(.cells [(.sl 1 1),(.sl 2 2),(.sl 3 2),(.mp 4),(.mp 5),(.mp 6)]),(.arr 1 (List.map Zb m1_0)),(.arr 2 (List.map Zw m2_0)),(.arr 2 (List.map ZaG m3_0)),(.mp (mpD Zb Zb (Zt (fun ka kb:Int=>(ka==kb)) m4_0 c (m3_0.length:Int)))),(.mp (mpD Zb Zb m5_0)),(.mp (mpD Zn Zb m6_0)),(.cells (dV t0 t1 t2 t3 b))]=some ((Zem t0 t1 t2 t3 b c m1_0 m2_0 m3_0 m4_0 m5_0 m6_0 x0) r):=by
 refine Za7 (Zem t0 t1 t2 t3 b c m1_0 m2_0 m3_0 m4_0 m5_0 m6_0 x0) ?_
 intro s1 rcl ih
 show ZX _ _ (lpW _ _ _ _ _ _ _)
 unfold Zbj
 rw[Za8]
 conv=>arg 3; whnf
 refine Ze rfl ?_ ?_
 ·conv=>arg 3; whnf
  refine Zk rfl rfl fun x2 hx2=>?_
  conv=>arg 3; whnf
  refine Zs (ZK _ _) ?_
  conv=>arg 3; whnf
  refine Ze rfl ?_ ?_
  ·conv=>arg 3; whnf
   refine Zk rfl rfl fun x3 hx3=>?_
   conv=>arg 3; whnf
   refine Zk rfl rfl fun x4 hx4=>?_
   conv=>arg 3; whnf
   refine Zc _ ZaF fun x5 hx5=>?_
   conv=>arg 3; whnf
   refine Zf (Zdk (f:=Zb) (g:=Zb) (fun ka kb:Int=>(ka==kb)) (fun _ _=>rfl) m5_0 c (w64 ((List.length (m3_0++[(Zh.mk c 0)]):Int)-1))) ?_
   conv=>arg 3; whnf
   refine Zah rfl ?_
   conv=>arg 3; whnf
   refine Zc _ (Zf5 _) fun r44 hr44=>?_
   clear hr44
   rcases r44 with r44 | r44
   ·conv=>arg 3; whnf
    exact Zg rfl
   ·conv=>arg 3; whnf
    exact Zg rfl
  ·conv=>arg 3; whnf
   refine Zc _ ZaF fun x45 hx45=>?_
   conv=>arg 3; whnf
   refine Zf (Zdk (f:=Zb) (g:=Zb) (fun ka kb:Int=>(ka==kb)) (fun _ _=>rfl) m5_0 c (w64 ((List.length (m3_0++[(Zh.mk c 0)]):Int)-1))) ?_
   conv=>arg 3; whnf
   refine Zah rfl ?_
   conv=>arg 3; whnf
   refine Zc _ (Zgd _) fun r84 hr84=>?_
   clear hr84
   rcases r84 with r84 | r84
   ·conv=>arg 3; whnf
    exact Zg rfl
   ·conv=>arg 3; whnf
    exact Zg rfl
 ·conv=>arg 3; whnf
  exact Zg rfl
theorem Zh2 {t0:Bool} {t1:Bool} {t2:Bool} {t3:Bool} {b:Zo} {c:Int} {m1_0:(List Int)} {m2_0:(List Zm)} {m3_0:(List Zh)} {m4_0:(List (Int×Int))} {m5_0:(List (Int×Int))} {m6_0:(List (Zi×Int))}:∀r,(ZcX b c m1_0 m2_0 m3_0 m5_0 m6_0)=some r→evW ctx 42 [(.ptr 0 0),(.d (D.agg (dA t0 t1 t2 t3 b))),(.d (Zb c))] [(.cells [(.sl 1 1),(.sl 2 2),(.sl 3 2),(.mp 4),(.mp 5),(.mp 6)]),(.arr 1 (List.map Zb m1_0)),(.arr 2 (List.map Zw m2_0)),(.arr 2 (List.map ZaG m3_0)),(.mp (mpD Zb Zb m4_0)),(.mp (mpD Zb Zb m5_0)),(.mp (mpD Zn Zb m6_0))]=some ((Zfk t0 t1 t2 t3 b c m1_0 m2_0 m3_0 m4_0 m5_0 m6_0) r):=by
 show ZX _ (fun r rhs=>rhs=some ((Zfk t0 t1 t2 t3 b c m1_0 m2_0 m3_0 m4_0 m5_0 m6_0) r)) _
 unfold ZcX
 rw[ZeZ ctx 42 ZwM _ _ rfl rfl]
 conv=>arg 3; whnf
 refine Zs (ZK _ _) ?_
 conv=>arg 3; whnf
 refine Zf (Zdk (f:=Zb) (g:=Zb) (fun ka kb:Int=>(ka==kb)) (fun _ _=>rfl) m4_0 c (m3_0.length:Int)) ?_
 conv=>arg 3; whnf
 refine ZA _ Zkn rfl fun x0 hx0=>?_
 conv=>arg 3; whnf
 refine Zs (ZK _ _) ?_
 conv=>arg 3; whnf
 refine Zc _ (Zge _) fun r85 hr85=>?_
 clear hr85
 rcases r85 with r85 | (r85 | r85)
 ·conv=>arg 3; whnf
  exact Zg rfl
 ·conv=>arg 3; whnf
  exact Zg rfl
 ·conv=>arg 3; whnf
  exact Zg rfl
def Zib (r:Bool):D:=(D.bool r)
theorem ZkK {a:Int}:∀r,(ZcA a)=some r→evD ctx 54 [(.d (Zb a))]=some (Zib r):=by
 show ZX _ (fun r rhs=>rhs=some (Zib r)) _
 unfold ZcA
 rw[Zce ctx 54 Zwd _ rfl rfl]
 conv=>arg 3; whnf
 refine Ze rfl ?_ ?_
 ·conv=>arg 3; whnf
  exact Zg rfl
 ·conv=>arg 3; whnf
  refine Ze rfl ?_ ?_
  ·conv=>arg 3; whnf
   exact Zg rfl
  ·conv=>arg 3; whnf
   exact Zg rfl
def Zcf (r:Int):D:=(Zb r)
def ZbX (t0:Bool) (a:(List Int)):(Int⊕Unit)→Ex×List V×Zl
  | (.inl r)=>(.ret,[(.d (Zb r))],[])
  | (.inr r)=>(.exit 0,[.bad],[])
theorem ZdE {t0:Bool} {a:(List Int)}:∀(s0:Int) (r:(Int⊕Unit)),lp (Zaj a (fun z0=>ZcA z0)) s0=some r→lpW ctx 0 [0,1,7,8] [4] ZoC [(.d (D.list t0 (List.map Zb a))),(.d (D.fn 54 [])),(.d (Zb (a.length:Int))),(.d (Zb s0))] []=some ((ZbX t0 a) r):=by
 refine Za7 (ZbX t0 a) ?_
 intro s0 rcl ih
 show ZX _ _ (lpW _ _ _ _ _ _ _)
 unfold Zaj
 rw[Za8]
 conv=>arg 3; whnf
 refine Ze rfl ?_ ?_
 ·conv=>arg 3; whnf
  refine Zk rfl rfl fun x1 hx1=>?_
  conv=>arg 3; whnf
  refine ZA _ ZkK rfl fun x2 hx2=>?_
  conv=>arg 3; whnf
  refine Ze rfl ?_ ?_
  ·conv=>arg 3; whnf
   exact Zg rfl
  ·conv=>arg 3; whnf
   exact Zd (ih _)
 ·conv=>arg 3; whnf
  exact Zg rfl
theorem ZdZ {t0:Bool} {a:(List Int)}:∀r,(ZaO a (fun z0=>ZcA z0))=some r→evD ctx 101 [(.d (D.list t0 (List.map Zb a))),(.d (D.fn 54 []))]=some (Zcf r):=by
 show ZX _ (fun r rhs=>rhs=some (Zcf r)) _
 unfold ZaO
 rw[Zce ctx 101 ZqV _ rfl rfl]
 conv=>arg 3; whnf
 refine Zs (ZK _ _) ?_
 conv=>arg 3; whnf
 refine Zc _ (ZdE _) fun r3 hr3=>?_
 clear hr3
 rcases r3 with r3 | r3
 ·conv=>arg 3; whnf
  exact Zg rfl
 ·conv=>arg 3; whnf
  exact Zg rfl
def Zb0 (r:Bool):D:=(D.bool r)
theorem ZdF {t0:Bool} {a:(List Int)}:∀r,(Z1 a (fun z0=>ZcA z0))=some r→evD ctx 53 [(.d (D.list t0 (List.map Zb a))),(.d (D.fn 54 []))]=some (Zb0 r):=by
 show ZX _ (fun r rhs=>rhs=some (Zb0 r)) _
 unfold Z1
 rw[Zce ctx 53 Zvo _ rfl rfl]
 conv=>arg 3; whnf
 refine ZA _ ZdZ rfl fun x0 hx0=>?_
 conv=>arg 3; whnf
 refine Ze rfl ?_ ?_
 ·conv=>arg 3; whnf
  exact Zg rfl
 ·conv=>arg 3; whnf
  exact Zg rfl
def Zic (r:Bool):D:=(D.bool r)
theorem Zhq {t0:Bool} {t1:Bool} {a:Int} {b0:(List Int)} {b1:(List Zm)}:∀r,(Zed a b0)=some r→evD ctx 55 [(.d (Zb a)),(.d (D.rptr [(D.list t0 (List.map Zb b0)),(D.list t1 (List.map Zw b1))]))]=some (Zic r):=by
 show ZX _ (fun r rhs=>rhs=some (Zic r)) _
 unfold Zed
 rw[Zce ctx 55 Zv8 _ rfl rfl]
 conv=>arg 3; whnf
 refine Ze rfl ?_ ?_
 ·conv=>arg 3; whnf
  refine Zs (ZK _ _) ?_
  conv=>arg 3; whnf
  refine Ze rfl ?_ ?_
  ·conv=>arg 3; whnf
   exact Zg rfl
  ·conv=>arg 3; whnf
   exact Zg rfl
 ·conv=>arg 3; whnf
  exact Zg rfl
def Zjd (r:((List Int)×Bool)):D:=(D.tup [(D.list true (List.map Zb r.1)),(D.bool r.2)])
def ZhG (t0:Bool) (t1:Bool) (a:Za2) (s0:(List Int)×(List Bool)) (s1:Int):(Unit⊕Unit)→Ex×List V×Zl
  | (.inl r)=>(.exit 3,[(.ptr 0 0),(.sl 1 1),(.sl 2 1),(.d (Zb s1)),(.d (Zb (a.work.length:Int))),(.d (Zb s1))],[(.cells [(.d (D.list t0 (List.map Zb a.work))),(.d (D.list t1 (List.map Zw a.edges)))]),(.arr 1 (List.map Zb s0.1)),(.arr 1 (List.map D.bool s0.2))])
  | (.inr r)=>(.exit 4,[(.ptr 0 0),(.sl 1 1),(.sl 2 1),(.d (Zb s1)),(.d (Zb (a.work.length:Int))),(.d (Zb s1))],[(.cells [(.d (D.list t0 (List.map Zb a.work))),(.d (D.list t1 (List.map Zw a.edges)))]),(.arr 1 (List.map Zb s0.1)),(.arr 1 (List.map D.bool s0.2))])
theorem Zke {t0:Bool} {t1:Bool} {a:Za2} {s0:(List Int)×(List Bool)} {s1:Int}:∀(s3:Int) (r:(Unit⊕Unit)),lp (ZdY a s0 s1) s3=some r→lpW ctx 0 [1,4,5,6,21,22,30,31,32] [1,4,5,6,21,22] ZsZ [(.ptr 0 0),(.sl 1 1),(.sl 2 1),(.d (Zb s1)),(.d (Zb (a.work.length:Int))),(.d (Zb s1)),(.d (D.list t1 (List.map Zw a.edges))),(.d (Zb (a.edges.length:Int))),(.d (Zb s3))] [(.cells [(.d (D.list t0 (List.map Zb a.work))),(.d (D.list t1 (List.map Zw a.edges)))]),(.arr 1 (List.map Zb s0.1)),(.arr 1 (List.map D.bool s0.2))]=some ((ZhG t0 t1 a s0 s1) r):=by
 refine Za7 (ZhG t0 t1 a s0 s1) ?_
 intro s3 rcl ih
 show ZX _ _ (lpW _ _ _ _ _ _ _)
 unfold ZdY
 rw[Za8]
 conv=>arg 3; whnf
 refine Ze rfl ?_ ?_
 ·conv=>arg 3; whnf
  refine Zk rfl rfl fun x4 hx4=>?_
  conv=>arg 3; whnf
  refine Ze rfl ?_ ?_
  ·conv=>arg 3; whnf
   refine Zk rfl rfl fun x5 hx5=>?_
   conv=>arg 3; whnf
   refine Zf (Zz rfl hx5) ?_
   conv=>arg 3; whnf
   refine Ze rfl ?_ ?_
   ·conv=>arg 3; whnf
    exact Zd (ih _)
   ·conv=>arg 3; whnf
    exact Zg rfl
  ·conv=>arg 3; whnf
   exact Zd (ih _)
 ·conv=>arg 3; whnf
  exact Zg rfl
def Zhz (t0:Bool) (t1:Bool) (a:Za2) (s0:(List Int)×(List Bool)):(((List Int)×(List Bool))⊕Unit)→Ex×List V×Zl
  | (.inl r)=>(.exit 1,[(.ptr 0 0),(.sl 1 1),(.sl 2 1)],[(.cells [(.d (D.list t0 (List.map Zb a.work))),(.d (D.list t1 (List.map Zw a.edges)))]),(.arr 1 (List.map Zb r.1)),(.arr 1 (List.map D.bool r.2))])
  | (.inr r)=>(.exit 2,[(.ptr 0 0),(.sl 1 1),(.sl 2 1)],[(.cells [(.d (D.list t0 (List.map Zb a.work))),(.d (D.list t1 (List.map Zw a.edges)))]),(.arr 1 (List.map Zb s0.1)),(.arr 1 (List.map D.bool s0.2))])
theorem Zkl {t0:Bool} {t1:Bool} {a:Za2} {s0:(List Int)×(List Bool)}:∀(s1:Int) (r:(((List Int)×(List Bool))⊕Unit)),lp (Zdg a s0) s1=some r→lpW ctx 0 [1,4,5,21,22] [1,4,5] Ztq [(.ptr 0 0),(.sl 1 1),(.sl 2 1),(.d (Zb (a.work.length:Int))),(.d (Zb s1))] [(.cells [(.d (D.list t0 (List.map Zb a.work))),(.d (D.list t1 (List.map Zw a.edges)))]),(.arr 1 (List.map Zb s0.1)),(.arr 1 (List.map D.bool s0.2))]=some ((Zhz t0 t1 a s0) r):=by
 refine Za7 (Zhz t0 t1 a s0) ?_
 intro s1 rcl ih
 show ZX _ _ (lpW _ _ _ _ _ _ _)
 unfold Zdg
 rw[Za8]
 conv=>arg 3; whnf
 refine Ze rfl ?_ ?_
 ·conv=>arg 3; whnf
  refine Zk rfl rfl fun x2 hx2=>?_
  conv=>arg 3; whnf
  refine Zf (Zz rfl hx2) ?_
  conv=>arg 3; whnf
  refine Ze rfl ?_ ?_
  ·conv=>arg 3; whnf
   exact Zd (ih _)
  ·conv=>arg 3; whnf
   refine Zs (ZK _ _) ?_
   conv=>arg 3; whnf
   refine Zc _ (Zke _) fun r6 hr6=>?_
   clear hr6
   rcases r6 with r6 | r6
   ·conv=>arg 3; whnf
    exact Zd (ih _)
   ·conv=>arg 3; whnf
    refine Zf (ZbM rfl hx2) ?_
    conv=>arg 3; whnf
    refine Zf (Zz rfl hx2) ?_
    conv=>arg 3; whnf
    refine Zs (ZaK D.bool s0.2 s1.toNat true) ?_
    conv=>arg 3; whnf
    refine Zcl rfl ?_
    conv=>arg 3; whnf
    refine Ze (ZiY Zb s0.1 1) ?_ ?_
    ·conv=>arg 3; whnf
     refine Zs (ZiS Zb s0.1 [s1]) ?_
     conv=>arg 3; whnf
     exact Zg rfl
    ·exact Za4
 ·conv=>arg 3; whnf
  exact Zg rfl
def Zhm (t0:Bool) (t1:Bool) (a:Za2):((List Int)⊕(List Int))→Ex×List V×Zl
  | (.inl r)=>(.ret,[(.nilsl 1),(.d (D.bool false)),(.sl 0 1)],[(.arr 1 (List.map Zb r))])
  | (.inr r)=>(.exit 0,[.bad,.bad,(.sl 0 1)],[(.arr 1 (List.map Zb r))])
theorem Zkw {t0:Bool} {t1:Bool} {a:Za2}:∀(s0:(List Int)×(List Bool)) (r:((List Int)⊕(List Int))),lp (Zd0 a) s0=some r→lpW ctx 0 [1,4,5] [2,3,4] ZtB [(.ptr 0 0),(.sl 1 1),(.sl 2 1)] [(.cells [(.d (D.list t0 (List.map Zb a.work))),(.d (D.list t1 (List.map Zw a.edges)))]),(.arr 1 (List.map Zb s0.1)),(.arr 1 (List.map D.bool s0.2))]=some ((Zhm t0 t1 a) r):=by
 refine Za7 (Zhm t0 t1 a) ?_
 intro s0 rcl ih
 show ZX _ _ (lpW _ _ _ _ _ _ _)
 unfold Zd0
 rw[Za8]
 conv=>arg 3; whnf
 refine Zs (ZK _ _) ?_
 conv=>arg 3; whnf
 refine Zs (ZK _ _) ?_
 conv=>arg 3; whnf
 refine Ze rfl ?_ ?_
 ·conv=>arg 3; whnf
  refine Zs (ZK _ _) ?_
  conv=>arg 3; whnf
  refine Zc _ (Zkl _) fun r7 hr7=>?_
  clear hr7
  rcases r7 with r7 | r7
  ·conv=>arg 3; whnf
   exact Zd (ih _)
  ·conv=>arg 3; whnf
   exact Zg rfl
 ·conv=>arg 3; whnf
  exact Zg rfl
theorem Zmc {t0:Bool} {t1:Bool} {a:Za2}:∀r,(Zel a)=some r→evD ctx 57 [(.d (D.agg [(D.list t0 (List.map Zb a.work)),(D.list t1 (List.map Zw a.edges))]))]=some (Zjd r):=by
 show ZX _ (fun r rhs=>rhs=some (Zjd r)) _
 unfold Zel
 rw[Zce ctx 57 ZwB _ rfl rfl]
 conv=>arg 3; whnf
 refine Zs (ZK _ _) ?_
 conv=>arg 3; whnf
 refine Ze rfl ?_ ?_
 ·conv=>arg 3; whnf
  refine Zs (ZuO D.bool (false:Bool) (a.work.length:Int)) ?_
  conv=>arg 3; whnf
  refine Zc _ (Zkw _) fun r8 hr8=>?_
  clear hr8
  rcases r8 with r8 | r8
  ·conv=>arg 3; whnf
   exact Zg rfl
  ·conv=>arg 3; whnf
   exact Zg rfl
 ·exact Za4
def Zji (r:Int):D:=(Zb r)
def Zhr (t0:Bool) (t1:Bool) (a:Za2):(Unit⊕Unit)→Ex×List V×Zl
  | (.inl r)=>(.ret,[(.ptr 0 0),(.d (Zb 42))],[(.cells [(.d (D.list t0 (List.map Zb a.work))),(.d (D.list t1 (List.map Zw a.edges)))])])
  | (.inr r)=>(.exit 0,[(.ptr 0 0),.bad],[(.cells [(.d (D.list t0 (List.map Zb a.work))),(.d (D.list t1 (List.map Zw a.edges)))])])
theorem Zkx {t0:Bool} {t1:Bool} {a:Za2}:∀(s1:Int) (r:(Unit⊕Unit)),lp (Zdo a) s1=some r→lpW ctx 0 [1,3,23,24,25] [1,2] Ztt [(.ptr 0 0),(.fn 55 [(.ptr 0 0)]),(.d (D.list t1 (List.map Zw a.edges))),(.d (Zb (a.edges.length:Int))),(.d (Zb s1))] [(.cells [(.d (D.list t0 (List.map Zb a.work))),(.d (D.list t1 (List.map Zw a.edges)))])]=some ((Zhr t0 t1 a) r):=by
 refine Za7 (Zhr t0 t1 a) ?_
 intro s1 rcl ih
 show ZX _ _ (lpW _ _ _ _ _ _ _)
 unfold Zdo
 rw[Za8]
 conv=>arg 3; whnf
 refine Ze rfl ?_ ?_
 ·conv=>arg 3; whnf
  refine Zk rfl rfl fun x2 hx2=>?_
  conv=>arg 3; whnf
  refine ZA _ Zhq rfl fun x3 hx3=>?_
  conv=>arg 3; whnf
  refine Ze rfl ?_ ?_
  ·conv=>arg 3; whnf
   refine ZA _ Zhq rfl fun x4 hx4=>?_
   conv=>arg 3; whnf
   refine Ze rfl ?_ ?_
   ·conv=>arg 3; whnf
    refine Ze rfl ?_ ?_
    ·conv=>arg 3; whnf
     exact Zg rfl
    ·conv=>arg 3; whnf
     refine Ze rfl ?_ ?_
     ·conv=>arg 3; whnf
      refine Ze (Zta Zw a.edges s1.toNat) ?_ ?_
      ·conv=>arg 3; whnf
       refine Zcl rfl ?_
       conv=>arg 3; whnf
       refine Zs (Zow Zw a.edges s1.toNat) ?_
       conv=>arg 3; whnf
       refine ZA _ ZdG rfl fun x5 hx5=>?_
       conv=>arg 3; whnf
       refine Ze rfl ?_ ?_
       ·conv=>arg 3; whnf
        exact Zg rfl
       ·conv=>arg 3; whnf
        exact Zd (ih _)
      ·exact Za4
     ·exact Za4
   ·conv=>arg 3; whnf
    exact Zg rfl
  ·conv=>arg 3; whnf
   exact Zg rfl
 ·conv=>arg 3; whnf
  exact Zg rfl
theorem ZgC {t0:Bool} {t1:Bool} {a:Za2}:∀r,(Zer a)=some r→evD ctx 25 [(.d (D.agg [(D.list t0 (List.map Zb a.work)),(D.list t1 (List.map Zw a.edges))]))]=some (Zji r):=by
 show ZX _ (fun r rhs=>rhs=some (Zji r)) _
 unfold Zer
 rw[Zce ctx 25 Zwx _ rfl rfl]
 conv=>arg 3; whnf
 refine Zs (ZK _ _) ?_
 conv=>arg 3; whnf
 refine Ze rfl ?_ ?_
 ·conv=>arg 3; whnf
  exact Zg rfl
 ·conv=>arg 3; whnf
  refine Zs (ZK _ _) ?_
  conv=>arg 3; whnf
  refine Ze rfl ?_ ?_
  ·conv=>arg 3; whnf
   exact Zg rfl
  ·conv=>arg 3; whnf
   refine ZA _ ZdF rfl fun x0 hx0=>?_
   conv=>arg 3; whnf
   refine Ze rfl ?_ ?_
   ·conv=>arg 3; whnf
    exact Zg rfl
   ·conv=>arg 3; whnf
    refine Zs (ZK _ _) ?_
    conv=>arg 3; whnf
    refine Zc _ (Zkx _) fun r6 hr6=>?_
    clear hr6
    rcases r6 with r6 | r6
    ·conv=>arg 3; whnf
     exact Zg rfl
    ·conv=>arg 3; whnf
     refine ZA _ Zmc rfl fun x7 hx7=>?_
     conv=>arg 3; whnf
     refine Ze rfl ?_ ?_
     ·conv=>arg 3; whnf
      exact Zg rfl
     ·conv=>arg 3; whnf
      exact Zg rfl
def Zh7 (r:(Zf9×Int)):D:=(D.tup [(D.agg [(D.list true (List.map Zb r.1.dag.work)),(D.list true (List.map Zw r.1.dag.edges)),(D.list true (List.map ZaG r.1.pieces))]),(Zb r.2)])
def Zgu (t0:Bool) (t1:Bool) (t2:Bool) (t3:Bool) (a:Zo):((List Int)×(List Zm)×(List Zh)×(List (Int×Int))×(List (Int×Int))×(List (Zi×Int)))→Ex×List V×Zl
  | r=>(.exit 0,[(.ptr 0 0),(.ptr 1 0),(.ptr 2 0)],[(.cells (dV t0 t1 t2 t3 a)),(.cells [(.sl 3 1),(.sl 4 2),(.sl 5 2)]),(.cells [(.sl 6 1),(.sl 7 2),(.sl 8 2),(.mp 9),(.mp 10),(.mp 11)]),(.arr 1 []),(.arr 2 []),(.arr 2 []),(.arr 1 (List.map Zb r.1)),(.arr 2 (List.map Zw r.2.1)),(.arr 2 (List.map ZaG r.2.2.1)),(.mp (mpD Zb Zb r.2.2.2.1)),(.mp (mpD Zb Zb r.2.2.2.2.1)),(.mp (mpD Zn Zb r.2.2.2.2.2))])
theorem Zi5 {t0:Bool} {t1:Bool} {t2:Bool} {t3:Bool} {a:Zo}:∀(s1:Int×(List Int)×(List Zm)×(List Zh)×(List (Int×Int))×(List (Int×Int))×(List (Zi×Int))) (r:((List Int)×(List Zm)×(List Zh)×(List (Int×Int))×(List (Int×Int))×(List (Zi×Int)))),lp (Zca a) s1=some r→lpW ctx 0 [1,2,5,31,32] [1,2,5] Zsm [(.ptr 0 0),(.ptr 1 0),(.ptr 2 0),(.d (Zb (a.parts.length:Int))),(.d (Zb s1.1))] [(.cells (dV t0 t1 t2 t3 a)),(.cells [(.sl 3 1),(.sl 4 2),(.sl 5 2)]),(.cells [(.sl 6 1),(.sl 7 2),(.sl 8 2),(.mp 9),(.mp 10),(.mp 11)]),(.arr 1 []),(.arr 2 []),(.arr 2 []),(.arr 1 (List.map Zb s1.2.1)),(.arr 2 (List.map Zw s1.2.2.1)),(.arr 2 (List.map ZaG s1.2.2.2.1)),(.mp (mpD Zb Zb s1.2.2.2.2.1)),(.mp (mpD Zb Zb s1.2.2.2.2.2.1)),(.mp (mpD Zn Zb s1.2.2.2.2.2.2))]=some ((Zgu t0 t1 t2 t3 a) r):=by
 refine Za7 (Zgu t0 t1 t2 t3 a) ?_
 intro s1 rcl ih
 show ZX _ _ (lpW _ _ _ _ _ _ _)
 unfold Zca
 rw[Za8]
 conv=>arg 3; whnf
 refine Ze rfl ?_ ?_
 ·conv=>arg 3; whnf
  refine Zc _ Zh2 fun x2 hx2=>?_
  clear hx2
  rcases x2 with x2 | (x2 | x2)
  ·conv=>arg 3; whnf
   exact Zd (ih _)
  ·conv=>arg 3; whnf
   exact Zd (ih _)
  ·conv=>arg 3; whnf
   exact Zd (ih _)
 ·conv=>arg 3; whnf
  exact Zg rfl
def Zgt (t0:Bool) (t1:Bool) (t2:Bool) (t3:Bool) (a:Zo) (r3:((List Int)×(List Zm)×(List Zh)×(List (Int×Int))×(List (Int×Int))×(List (Zi×Int)))):(List Zm)→Ex×List V×Zl
  | r=>(.exit 2,[(.ptr 0 0),(.ptr 1 0),(.ptr 2 0)],[(.cells (dV t0 t1 t2 t3 a)),(.cells [(.sl 3 1),(.sl 4 2),(.sl 5 2)]),(.cells [(.sl 6 1),(.sl 7 2),(.sl 8 2),(.mp 9),(.mp 10),(.mp 11)]),(.arr 1 []),(.arr 2 []),(.arr 2 []),(.arr 1 (List.map Zb r3.1)),(.arr 2 (List.map Zw r)),(.arr 2 (List.map ZaG r3.2.2.1)),(.mp (mpD Zb Zb r3.2.2.2.1)),(.mp (mpD Zb Zb r3.2.2.2.2.1)),(.mp (mpD Zn Zb r3.2.2.2.2.2))])
theorem Zi4 {t0:Bool} {t1:Bool} {t2:Bool} {t3:Bool} {a:Zo} {r3:((List Int)×(List Zm)×(List Zh)×(List (Int×Int))×(List (Int×Int))×(List (Zi×Int)))}:∀(s4:Int×(List Zm)) (r:(List Zm)),lp (Zcu a r3) s4=some r→lpW ctx 0 [1,2,5,41,42,43] [1,2,5] ZsV [(.ptr 0 0),(.ptr 1 0),(.ptr 2 0),(.d (D.list t1 (List.map Zw a.edges))),(.d (Zb (a.edges.length:Int))),(.d (Zb s4.1))] [(.cells (dV t0 t1 t2 t3 a)),(.cells [(.sl 3 1),(.sl 4 2),(.sl 5 2)]),(.cells [(.sl 6 1),(.sl 7 2),(.sl 8 2),(.mp 9),(.mp 10),(.mp 11)]),(.arr 1 []),(.arr 2 []),(.arr 2 []),(.arr 1 (List.map Zb r3.1)),(.arr 2 (List.map Zw s4.2)),(.arr 2 (List.map ZaG r3.2.2.1)),(.mp (mpD Zb Zb r3.2.2.2.1)),(.mp (mpD Zb Zb r3.2.2.2.2.1)),(.mp (mpD Zn Zb r3.2.2.2.2.2))]=some ((Zgt t0 t1 t2 t3 a r3) r):=by
 refine Za7 (Zgt t0 t1 t2 t3 a r3) ?_
 intro s4 rcl ih
 show ZX _ _ (lpW _ _ _ _ _ _ _)
 unfold Zcu
 rw[Za8]
 conv=>arg 3; whnf
 refine Ze rfl ?_ ?_
 ·conv=>arg 3; whnf
  refine Zk rfl rfl fun x5 hx5=>?_
  conv=>arg 3; whnf
  refine Zf (Zbu (f:=Zb) (g:=Zb) (fun ka kb:Int=>(ka==kb)) (fun _ _=>rfl) r3.2.2.2.2.1 x5.src 0) ?_
  conv=>arg 3; whnf
  refine Zf (Zbu (f:=Zb) (g:=Zb) (fun ka kb:Int=>(ka==kb)) (fun _ _=>rfl) r3.2.2.2.1 x5.dst 0) ?_
  conv=>arg 3; whnf
  refine Zc _ Zan fun x6 hx6=>?_
  conv=>arg 3; whnf
  exact Zd (ih _)
 ·conv=>arg 3; whnf
  exact Zg rfl
def ZgG (t0:Bool) (t1:Bool) (t2:Bool) (t3:Bool) (a:Zo) (r3:((List Int)×(List Zm)×(List Zh)×(List (Int×Int))×(List (Int×Int))×(List (Zi×Int)))):(List Zm)→Ex×List V×Zl
  | r=>(.exit 4,[(.ptr 0 0),(.ptr 1 0),(.ptr 2 0)],[(.cells (dV t0 t1 t2 t3 a)),(.cells [(.sl 3 1),(.sl 4 2),(.sl 5 2)]),(.cells [(.sl 6 1),(.sl 7 2),(.sl 8 2),(.mp 9),(.mp 10),(.mp 11)]),(.arr 1 []),(.arr 2 []),(.arr 2 []),(.arr 1 (List.map Zb r3.1)),(.arr 2 (List.map Zw r)),(.arr 2 (List.map ZaG r3.2.2.1)),(.mp (mpD Zb Zb r3.2.2.2.1)),(.mp (mpD Zb Zb r3.2.2.2.2.1)),(.mp (mpD Zn Zb r3.2.2.2.2.2))])
theorem Zi2 {t0:Bool} {t1:Bool} {t2:Bool} {t3:Bool} {a:Zo} {r3:((List Int)×(List Zm)×(List Zh)×(List (Int×Int))×(List (Int×Int))×(List (Zi×Int)))}:∀(s8:Int×(List Zm)) (r:(List Zm)),lp (Zcx a r3) s8=some r→lpW ctx 0 [1,2,5,65,66,67] [1,2,5] ZsE [(.ptr 0 0),(.ptr 1 0),(.ptr 2 0),(.d (D.list t2 (List.map Zn a.futures))),(.d (Zb (a.futures.length:Int))),(.d (Zb s8.1))] [(.cells (dV t0 t1 t2 t3 a)),(.cells [(.sl 3 1),(.sl 4 2),(.sl 5 2)]),(.cells [(.sl 6 1),(.sl 7 2),(.sl 8 2),(.mp 9),(.mp 10),(.mp 11)]),(.arr 1 []),(.arr 2 []),(.arr 2 []),(.arr 1 (List.map Zb r3.1)),(.arr 2 (List.map Zw s8.2)),(.arr 2 (List.map ZaG r3.2.2.1)),(.mp (mpD Zb Zb r3.2.2.2.1)),(.mp (mpD Zb Zb r3.2.2.2.2.1)),(.mp (mpD Zn Zb r3.2.2.2.2.2))]=some ((ZgG t0 t1 t2 t3 a r3) r):=by
 refine Za7 (ZgG t0 t1 t2 t3 a r3) ?_
 intro s8 rcl ih
 show ZX _ _ (lpW _ _ _ _ _ _ _)
 unfold Zcx
 rw[Za8]
 conv=>arg 3; whnf
 refine Ze rfl ?_ ?_
 ·conv=>arg 3; whnf
  refine Zk rfl rfl fun x9 hx9=>?_
  conv=>arg 3; whnf
  refine Zf (Zbu (f:=Zb) (g:=Zb) (fun ka kb:Int=>(ka==kb)) (fun _ _=>rfl) r3.2.2.2.2.1 x9.maker 0) ?_
  conv=>arg 3; whnf
  refine Zf (Zbu (f:=Zn) (g:=Zb) (fun ka kb:Zi=>((ka.maker==kb.maker)&&((ka.user==kb.user)&&((ka.pos==kb.pos)&&true)))) (fun _ _=>rfl) r3.2.2.2.2.2 x9 0) ?_
  conv=>arg 3; whnf
  refine Zc _ Zan fun x10 hx10=>?_
  conv=>arg 3; whnf
  exact Zd (ih _)
 ·conv=>arg 3; whnf
  exact Zg rfl
def ZgH (t3:Bool) (a:Zo) (r3:((List Int)×(List Zm)×(List Zh)×(List (Int×Int))×(List (Int×Int))×(List (Zi×Int)))) (s12:Int×(List Int)×(List Zm)×(List Zh)) (x13:Zq):(List Zm)→Ex×List V×Zl
  | r=>(.exit 8,[(.ptr 0 0),(.ptr 1 0),(.ptr 2 0),(.d (Zb (w64 ((List.length (s12.2.2.2++[(Zh.mk (-1) s12.1)]):Int)-1)))),(.d (D.list t3 (List.map Zu a.barriers))),(.d (Zb (a.barriers.length:Int))),(.d (Zb s12.1))],[(.cells [(.sl 3 1),(.sl 4 2),(.sl 5 2)]),(.cells [(.sl 6 1),(.sl 7 2),(.sl 8 2),(.mp 9),(.mp 10),(.mp 11)]),(.cells [(.d (D.list true (List.map Zb x13.ins))),(.d (D.list true (List.map Zb x13.outs)))]),(.arr 1 []),(.arr 2 []),(.arr 2 []),(.arr 1 (List.map Zb (s12.2.1++[1]))),(.arr 2 (List.map Zw r)),(.arr 2 (List.map ZaG (s12.2.2.2++[(Zh.mk (-1) s12.1)]))),(.mp (mpD Zb Zb r3.2.2.2.1)),(.mp (mpD Zb Zb r3.2.2.2.2.1)),(.mp (mpD Zn Zb r3.2.2.2.2.2))])
theorem Zi3 {t3:Bool} {a:Zo} {r3:((List Int)×(List Zm)×(List Zh)×(List (Int×Int))×(List (Int×Int))×(List (Zi×Int)))} {s12:Int×(List Int)×(List Zm)×(List Zh)} {x13:Zq}:∀(s15:Int×(List Zm)) (r:(List Zm)),lp (Zda r3 s12 x13) s15=some r→lpW ctx 0 [2,5,12,13,88,89,90,100,101,102] [2,5,12,13,88,89,90] Zt8 [(.ptr 0 0),(.ptr 1 0),(.ptr 2 0),(.d (Zb (w64 ((List.length (s12.2.2.2++[(Zh.mk (-1) s12.1)]):Int)-1)))),(.d (D.list t3 (List.map Zu a.barriers))),(.d (Zb (a.barriers.length:Int))),(.d (Zb s12.1)),(.d (D.list true (List.map Zb x13.ins))),(.d (Zb (x13.ins.length:Int))),(.d (Zb s15.1))] [(.cells [(.sl 3 1),(.sl 4 2),(.sl 5 2)]),(.cells [(.sl 6 1),(.sl 7 2),(.sl 8 2),(.mp 9),(.mp 10),(.mp 11)]),(.cells [(.d (D.list true (List.map Zb x13.ins))),(.d (D.list true (List.map Zb x13.outs)))]),(.arr 1 []),(.arr 2 []),(.arr 2 []),(.arr 1 (List.map Zb (s12.2.1++[1]))),(.arr 2 (List.map Zw s15.2)),(.arr 2 (List.map ZaG (s12.2.2.2++[(Zh.mk (-1) s12.1)]))),(.mp (mpD Zb Zb r3.2.2.2.1)),(.mp (mpD Zb Zb r3.2.2.2.2.1)),(.mp (mpD Zn Zb r3.2.2.2.2.2))]=some ((ZgH t3 a r3 s12 x13) r):=by
 refine Za7 (ZgH t3 a r3 s12 x13) ?_
 intro s15 rcl ih
 show ZX _ _ (lpW _ _ _ _ _ _ _)
 unfold Zda
 rw[Za8]
 conv=>arg 3; whnf
 refine Ze rfl ?_ ?_
 ·conv=>arg 3; whnf
  refine Zk rfl rfl fun x16 hx16=>?_
  conv=>arg 3; whnf
  refine Zf (Zbu (f:=Zb) (g:=Zb) (fun ka kb:Int=>(ka==kb)) (fun _ _=>rfl) r3.2.2.2.2.1 x16 0) ?_
  conv=>arg 3; whnf
  refine Zc _ Zan fun x17 hx17=>?_
  conv=>arg 3; whnf
  exact Zd (ih _)
 ·conv=>arg 3; whnf
  exact Zg rfl
def ZgB (t3:Bool) (a:Zo) (r3:((List Int)×(List Zm)×(List Zh)×(List (Int×Int))×(List (Int×Int))×(List (Zi×Int)))) (s12:Int×(List Int)×(List Zm)×(List Zh)) (x13:Zq):(List Zm)→Ex×List V×Zl
  | r=>(.exit 10,[(.ptr 0 0),(.ptr 1 0),(.d (D.list t3 (List.map Zu a.barriers))),(.d (Zb (a.barriers.length:Int))),(.d (Zb s12.1))],[(.cells [(.sl 2 1),(.sl 3 2),(.sl 4 2)]),(.cells [(.sl 5 1),(.sl 6 2),(.sl 7 2),(.mp 8),(.mp 9),(.mp 10)]),(.arr 1 []),(.arr 2 []),(.arr 2 []),(.arr 1 (List.map Zb (s12.2.1++[1]))),(.arr 2 (List.map Zw r)),(.arr 2 (List.map ZaG (s12.2.2.2++[(Zh.mk (-1) s12.1)]))),(.mp (mpD Zb Zb r3.2.2.2.1)),(.mp (mpD Zb Zb r3.2.2.2.2.1)),(.mp (mpD Zn Zb r3.2.2.2.2.2))])
theorem Zi6 {t3:Bool} {a:Zo} {r3:((List Int)×(List Zm)×(List Zh)×(List (Int×Int))×(List (Int×Int))×(List (Zi×Int)))} {s12:Int×(List Int)×(List Zm)×(List Zh)} {x13:Zq}:∀(s19:Int×(List Zm)) (r:(List Zm)),lp (Zdb r3 s12 x13) s19=some r→lpW ctx 0 [2,5,13,88,89,90,117,118,119] [2,5,88,89,90] ZsT [(.ptr 0 0),(.ptr 1 0),(.d (Zb (w64 ((List.length (s12.2.2.2++[(Zh.mk (-1) s12.1)]):Int)-1)))),(.d (D.list t3 (List.map Zu a.barriers))),(.d (Zb (a.barriers.length:Int))),(.d (Zb s12.1)),(.d (D.list true (List.map Zb x13.outs))),(.d (Zb (x13.outs.length:Int))),(.d (Zb s19.1))] [(.cells [(.sl 2 1),(.sl 3 2),(.sl 4 2)]),(.cells [(.sl 5 1),(.sl 6 2),(.sl 7 2),(.mp 8),(.mp 9),(.mp 10)]),(.arr 1 []),(.arr 2 []),(.arr 2 []),(.arr 1 (List.map Zb (s12.2.1++[1]))),(.arr 2 (List.map Zw s19.2)),(.arr 2 (List.map ZaG (s12.2.2.2++[(Zh.mk (-1) s12.1)]))),(.mp (mpD Zb Zb r3.2.2.2.1)),(.mp (mpD Zb Zb r3.2.2.2.2.1)),(.mp (mpD Zn Zb r3.2.2.2.2.2))]=some ((ZgB t3 a r3 s12 x13) r):=by
 refine Za7 (ZgB t3 a r3 s12 x13) ?_
 intro s19 rcl ih
 show ZX _ _ (lpW _ _ _ _ _ _ _)
 unfold Zdb
 rw[Za8]
 conv=>arg 3; whnf
 refine Ze rfl ?_ ?_
 ·conv=>arg 3; whnf
  refine Zk rfl rfl fun x20 hx20=>?_
  conv=>arg 3; whnf
  refine Zf (Zbu (f:=Zb) (g:=Zb) (fun ka kb:Int=>(ka==kb)) (fun _ _=>rfl) r3.2.2.2.1 x20 0) ?_
  conv=>arg 3; whnf
  refine Zc _ Zan fun x21 hx21=>?_
  conv=>arg 3; whnf
  exact Zd (ih _)
 ·conv=>arg 3; whnf
  exact Zg rfl
def Zgz (t3:Bool) (a:Zo) (r3:((List Int)×(List Zm)×(List Zh)×(List (Int×Int))×(List (Int×Int))×(List (Zi×Int)))):((List Int)×(List Zm)×(List Zh))→Ex×List V×Zl
  | r=>(.exit 6,[(.ptr 0 0),(.ptr 1 0)],[(.cells [(.sl 2 1),(.sl 3 2),(.sl 4 2)]),(.cells [(.sl 5 1),(.sl 6 2),(.sl 7 2),(.mp 8),(.mp 9),(.mp 10)]),(.arr 1 []),(.arr 2 []),(.arr 2 []),(.arr 1 (List.map Zb r.1)),(.arr 2 (List.map Zw r.2.1)),(.arr 2 (List.map ZaG r.2.2)),(.mp (mpD Zb Zb r3.2.2.2.1)),(.mp (mpD Zb Zb r3.2.2.2.2.1)),(.mp (mpD Zn Zb r3.2.2.2.2.2))])
theorem Zi8 {t3:Bool} {a:Zo} {r3:((List Int)×(List Zm)×(List Zh)×(List (Int×Int))×(List (Int×Int))×(List (Zi×Int)))}:∀(s12:Int×(List Int)×(List Zm)×(List Zh)) (r:((List Int)×(List Zm)×(List Zh))),lp (Zcw a r3) s12=some r→lpW ctx 0 [2,5,88,89,90] [2,5] Zsl [(.ptr 0 0),(.ptr 1 0),(.d (D.list t3 (List.map Zu a.barriers))),(.d (Zb (a.barriers.length:Int))),(.d (Zb s12.1))] [(.cells [(.sl 2 1),(.sl 3 2),(.sl 4 2)]),(.cells [(.sl 5 1),(.sl 6 2),(.sl 7 2),(.mp 8),(.mp 9),(.mp 10)]),(.arr 1 []),(.arr 2 []),(.arr 2 []),(.arr 1 (List.map Zb s12.2.1)),(.arr 2 (List.map Zw s12.2.2.1)),(.arr 2 (List.map ZaG s12.2.2.2)),(.mp (mpD Zb Zb r3.2.2.2.1)),(.mp (mpD Zb Zb r3.2.2.2.2.1)),(.mp (mpD Zn Zb r3.2.2.2.2.2))]=some ((Zgz t3 a r3) r):=by
 refine Za7 (Zgz t3 a r3) ?_
 intro s12 rcl ih
 show ZX _ _ (lpW _ _ _ _ _ _ _)
 unfold Zcw
 rw[Za8]
 conv=>arg 3; whnf
 refine Ze rfl ?_ ?_
 ·conv=>arg 3; whnf
  refine Zk rfl rfl fun x13 hx13=>?_
  conv=>arg 3; whnf
  refine Zc _ ZaF fun x14 hx14=>?_
  conv=>arg 3; whnf
  refine Zs (ZK _ _) ?_
  conv=>arg 3; whnf
  refine Zc _ (Zi3 _) fun r18 hr18=>?_
  conv=>arg 3; whnf
  refine Zs (ZK _ _) ?_
  conv=>arg 3; whnf
  refine Zc _ (Zi6 _) fun r22 hr22=>?_
  conv=>arg 3; whnf
  exact Zd (ih _)
 ·conv=>arg 3; whnf
  exact Zg rfl
theorem ZkN {t0:Bool} {t1:Bool} {t2:Bool} {t3:Bool} {a:Zo}:∀r,(ZeO a)=some r→evD ctx 16 [(.d (D.agg (dA t0 t1 t2 t3 a)))]=some (Zh7 r):=by
 show ZX _ (fun r rhs=>rhs=some (Zh7 r)) _
 unfold ZeO
 rw[Zce ctx 16 ZwI _ rfl rfl]
 conv=>arg 3; whnf
 refine ZA _ Zia rfl fun x0 hx0=>?_
 conv=>arg 3; whnf
 refine Ze rfl ?_ ?_
 ·conv=>arg 3; whnf
  exact Zg rfl
 ·conv=>arg 3; whnf
  refine Zs (ZK _ _) ?_
  conv=>arg 3; whnf
  refine Zc _ (Zi5 _) fun r3 hr3=>?_
  conv=>arg 3; whnf
  refine Zs (ZK _ _) ?_
  conv=>arg 3; whnf
  refine Zc _ (Zi4 _) fun r7 hr7=>?_
  conv=>arg 3; whnf
  refine Zs (ZK _ _) ?_
  conv=>arg 3; whnf
  refine Zc _ (Zi2 _) fun r11 hr11=>?_
  conv=>arg 3; whnf
  refine Zs (ZK _ _) ?_
  conv=>arg 3; whnf
  refine Zc _ (Zi8 _) fun r23 hr23=>?_
  conv=>arg 3; whnf
  refine ZA _ ZgC rfl fun x24 hx24=>?_
  conv=>arg 3; whnf
  refine Ze rfl ?_ ?_
  ·conv=>arg 3; whnf
   exact Zg rfl
  ·conv=>arg 3; whnf
   exact Zg rfl
def ZiJ (r:Bool):D:=(D.bool r)
def ZgM (t0:Bool) (t1:Bool) (t2:Bool) (t3:Bool) (a:Za2) (b:Za2):(Unit⊕Unit)→Ex×List V×Zl
  | (.inl r)=>(.ret,[(.ptr 0 0),(.ptr 1 0),(.d (D.bool false))],[(.cells [(.d (D.list t0 (List.map Zb a.work))),(.d (D.list t1 (List.map Zw a.edges)))]),(.cells [(.d (D.list t2 (List.map Zb b.work))),(.d (D.list t3 (List.map Zw b.edges)))])])
  | (.inr r)=>(.exit 0,[(.ptr 0 0),(.ptr 1 0),.bad],[(.cells [(.d (D.list t0 (List.map Zb a.work))),(.d (D.list t1 (List.map Zw a.edges)))]),(.cells [(.d (D.list t2 (List.map Zb b.work))),(.d (D.list t3 (List.map Zw b.edges)))])])
theorem Zjy {t0:Bool} {t1:Bool} {t2:Bool} {t3:Bool} {a:Za2} {b:Za2}:∀(s0:Int) (r:(Unit⊕Unit)),lp (ZdA a b) s0=some r→lpW ctx 0 [2,3,5] [2,3,4] Zun [(.ptr 0 0),(.ptr 1 0),(.d (Zb s0))] [(.cells [(.d (D.list t0 (List.map Zb a.work))),(.d (D.list t1 (List.map Zw a.edges)))]),(.cells [(.d (D.list t2 (List.map Zb b.work))),(.d (D.list t3 (List.map Zw b.edges)))])]=some ((ZgM t0 t1 t2 t3 a b) r):=by
 refine Za7 (ZgM t0 t1 t2 t3 a b) ?_
 intro s0 rcl ih
 show ZX _ _ (lpW _ _ _ _ _ _ _)
 unfold ZdA
 rw[Za8]
 conv=>arg 3; whnf
 refine Zs (ZK _ _) ?_
 conv=>arg 3; whnf
 refine Ze rfl ?_ ?_
 ·conv=>arg 3; whnf
  refine Zk rfl rfl fun x1 hx1=>?_
  conv=>arg 3; whnf
  refine Zk rfl rfl fun x2 hx2=>?_
  conv=>arg 3; whnf
  refine Ze rfl ?_ ?_
  ·conv=>arg 3; whnf
   exact Zg rfl
  ·conv=>arg 3; whnf
   exact Zd (ih _)
 ·conv=>arg 3; whnf
  exact Zg rfl
def ZgT (t0:Bool) (t1:Bool) (t2:Bool) (t3:Bool) (a:Za2) (b:Za2):(Unit⊕Unit)→Ex×List V×Zl
  | (.inl r)=>(.ret,[(.d (D.bool false))],[])
  | (.inr r)=>(.exit 2,[.bad],[])
theorem ZjK {t0:Bool} {t1:Bool} {t2:Bool} {t3:Bool} {a:Za2} {b:Za2}:∀(s4:Int) (r:(Unit⊕Unit)),lp (Zdx a b) s4=some r→lpW ctx 0 [2,3,6] [4] Zs0 [(.ptr 0 0),(.ptr 1 0),(.d (Zb s4))] [(.cells [(.d (D.list t0 (List.map Zb a.work))),(.d (D.list t1 (List.map Zw a.edges)))]),(.cells [(.d (D.list t2 (List.map Zb b.work))),(.d (D.list t3 (List.map Zw b.edges)))])]=some ((ZgT t0 t1 t2 t3 a b) r):=by
 refine Za7 (ZgT t0 t1 t2 t3 a b) ?_
 intro s4 rcl ih
 show ZX _ _ (lpW _ _ _ _ _ _ _)
 unfold Zdx
 rw[Za8]
 conv=>arg 3; whnf
 refine Zs (ZK _ _) ?_
 conv=>arg 3; whnf
 refine Ze rfl ?_ ?_
 ·conv=>arg 3; whnf
  refine Zk rfl rfl fun x5 hx5=>?_
  conv=>arg 3; whnf
  refine Zk rfl rfl fun x6 hx6=>?_
  conv=>arg 3; whnf
  refine Ze rfl ?_ ?_
  ·conv=>arg 3; whnf
   exact Zg rfl
  ·conv=>arg 3; whnf
   exact Zd (ih _)
 ·conv=>arg 3; whnf
  exact Zg rfl
theorem Zlj {t0:Bool} {t1:Bool} {t2:Bool} {t3:Bool} {a:Za2} {b:Za2}:∀r,(Ze9 a b)=some r→evD ctx 48 [(.d (D.agg [(D.list t0 (List.map Zb a.work)),(D.list t1 (List.map Zw a.edges))])),(.d (D.agg [(D.list t2 (List.map Zb b.work)),(D.list t3 (List.map Zw b.edges))]))]=some (ZiJ r):=by
 show ZX _ (fun r rhs=>rhs=some (ZiJ r)) _
 unfold Ze9
 rw[Zce ctx 48 Zwk _ rfl rfl]
 conv=>arg 3; whnf
 refine Zs (ZK _ _) ?_
 conv=>arg 3; whnf
 refine Zs (ZK _ _) ?_
 conv=>arg 3; whnf
 refine Ze rfl ?_ ?_
 ·conv=>arg 3; whnf
  exact Zg rfl
 ·conv=>arg 3; whnf
  refine Zs (ZK _ _) ?_
  conv=>arg 3; whnf
  refine Zs (ZK _ _) ?_
  conv=>arg 3; whnf
  refine Ze rfl ?_ ?_
  ·conv=>arg 3; whnf
   exact Zg rfl
  ·conv=>arg 3; whnf
   refine Zc _ (Zjy _) fun r3 hr3=>?_
   clear hr3
   rcases r3 with r3 | r3
   ·conv=>arg 3; whnf
    exact Zg rfl
   ·conv=>arg 3; whnf
    refine Zc _ (ZjK _) fun r7 hr7=>?_
    clear hr7
    rcases r7 with r7 | r7
    ·conv=>arg 3; whnf
     exact Zg rfl
    ·conv=>arg 3; whnf
     exact Zg rfl
def Zik (r:Bool):D:=(D.bool r)
def ZgX (t0:Bool) (t1:Bool) (t2:Bool) (t3:Bool) (t4:Bool) (t5:Bool) (a:Zf9) (b:Zf9):(Unit⊕Unit)→Ex×List V×Zl
  | (.inl r)=>(.ret,[(.ptr 0 0),(.ptr 1 0),(.d (D.bool false))],[(.cells [(.d (D.list t0 (List.map Zb a.dag.work))),(.d (D.list t1 (List.map Zw a.dag.edges))),(.d (D.list t2 (List.map ZaG a.pieces)))]),(.cells [(.d (D.list t3 (List.map Zb b.dag.work))),(.d (D.list t4 (List.map Zw b.dag.edges))),(.d (D.list t5 (List.map ZaG b.pieces)))])])
  | (.inr r)=>(.exit 0,[(.ptr 0 0),(.ptr 1 0),.bad],[(.cells [(.d (D.list t0 (List.map Zb a.dag.work))),(.d (D.list t1 (List.map Zw a.dag.edges))),(.d (D.list t2 (List.map ZaG a.pieces)))]),(.cells [(.d (D.list t3 (List.map Zb b.dag.work))),(.d (D.list t4 (List.map Zw b.dag.edges))),(.d (D.list t5 (List.map ZaG b.pieces)))])])
theorem ZjQ {t0:Bool} {t1:Bool} {t2:Bool} {t3:Bool} {t4:Bool} {t5:Bool} {a:Zf9} {b:Zf9}:∀(s0:Int) (r:(Unit⊕Unit)),lp (Zdy a b) s0=some r→lpW ctx 0 [2,3,5] [2,3,4] ZtS [(.ptr 0 0),(.ptr 1 0),(.d (Zb s0))] [(.cells [(.d (D.list t0 (List.map Zb a.dag.work))),(.d (D.list t1 (List.map Zw a.dag.edges))),(.d (D.list t2 (List.map ZaG a.pieces)))]),(.cells [(.d (D.list t3 (List.map Zb b.dag.work))),(.d (D.list t4 (List.map Zw b.dag.edges))),(.d (D.list t5 (List.map ZaG b.pieces)))])]=some ((ZgX t0 t1 t2 t3 t4 t5 a b) r):=by
 refine Za7 (ZgX t0 t1 t2 t3 t4 t5 a b) ?_
 intro s0 rcl ih
 show ZX _ _ (lpW _ _ _ _ _ _ _)
 unfold Zdy
 rw[Za8]
 conv=>arg 3; whnf
 refine Zs (ZK _ _) ?_
 conv=>arg 3; whnf
 refine Ze rfl ?_ ?_
 ·conv=>arg 3; whnf
  refine Zk rfl rfl fun x1 hx1=>?_
  conv=>arg 3; whnf
  refine Zk rfl rfl fun x2 hx2=>?_
  conv=>arg 3; whnf
  refine Ze rfl ?_ ?_
  ·conv=>arg 3; whnf
   exact Zg rfl
  ·conv=>arg 3; whnf
   exact Zd (ih _)
 ·conv=>arg 3; whnf
  exact Zg rfl
theorem Zln {t0:Bool} {t1:Bool} {t2:Bool} {t3:Bool} {t4:Bool} {t5:Bool} {a:Zf9} {b:Zf9}:∀r,(Ze4 a b)=some r→evD ctx 19 [(.d (D.agg [(D.list t0 (List.map Zb a.dag.work)),(D.list t1 (List.map Zw a.dag.edges)),(D.list t2 (List.map ZaG a.pieces))])),(.d (D.agg [(D.list t3 (List.map Zb b.dag.work)),(D.list t4 (List.map Zw b.dag.edges)),(D.list t5 (List.map ZaG b.pieces))]))]=some (Zik r):=by
 show ZX _ (fun r rhs=>rhs=some (Zik r)) _
 unfold Ze4
 rw[Zce ctx 19 ZvQ _ rfl rfl]
 conv=>arg 3; whnf
 refine Zs (ZK _ _) ?_
 conv=>arg 3; whnf
 refine Zs (ZK _ _) ?_
 conv=>arg 3; whnf
 refine Ze rfl ?_ ?_
 ·conv=>arg 3; whnf
  exact Zg rfl
 ·conv=>arg 3; whnf
  refine Zc _ (ZjQ _) fun r3 hr3=>?_
  clear hr3
  rcases r3 with r3 | r3
  ·conv=>arg 3; whnf
   exact Zg rfl
  ·conv=>arg 3; whnf
   refine ZA _ Zlj rfl fun x4 hx4=>?_
   conv=>arg 3; whnf
   refine Ze rfl ?_ ?_
   ·conv=>arg 3; whnf
    exact Zg rfl
   ·conv=>arg 3; whnf
    exact Zg rfl
def Zjc (r:Int):D:=(Zb r)
def Zhu (t0:Bool) (a:Za2):Int→Ex×List V×Zl
  | r=>(.exit 0,[(.d (Zb r))],[])
theorem Zj6 {t0:Bool} {a:Za2}:∀(s1:Int×Int) (r:Int),lp (ZdT a) s1=some r→lpW ctx 0 [3,10,11,12] [3] ZsY [(.d (Zb s1.1)),(.d (D.list t0 (List.map Zb a.work))),(.d (Zb (a.work.length:Int))),(.d (Zb s1.2))] []=some ((Zhu t0 a) r):=by
 refine Za7 (Zhu t0 a) ?_
 intro s1 rcl ih
 show ZX _ _ (lpW _ _ _ _ _ _ _)
 unfold ZdT
 rw[Za8]
 conv=>arg 3; whnf
 refine Ze rfl ?_ ?_
 ·conv=>arg 3; whnf
  refine Zk rfl rfl fun x2 hx2=>?_
  conv=>arg 3; whnf
  exact Zd (ih _)
 ·conv=>arg 3; whnf
  exact Zg rfl
theorem ZmH {t0:Bool} {t1:Bool} {a:Za2}:∀r,(ZfI a)=some r→evD ctx 26 [(.d (D.agg [(D.list t0 (List.map Zb a.work)),(D.list t1 (List.map Zw a.edges))]))]=some (Zjc r):=by
 show ZX _ (fun r rhs=>rhs=some (Zjc r)) _
 unfold ZfI
 rw[Zce ctx 26 ZvR _ rfl rfl]
 conv=>arg 3; whnf
 refine ZA _ ZgC rfl fun x0 hx0=>?_
 conv=>arg 3; whnf
 refine Ze rfl ?_ ?_
 ·conv=>arg 3; whnf
  refine Zs (ZK _ _) ?_
  conv=>arg 3; whnf
  refine Zc _ (Zj6 _) fun r3 hr3=>?_
  conv=>arg 3; whnf
  exact Zg rfl
 ·conv=>arg 3; whnf
  exact Zg rfl
def ZgO (r:Bool):D:=(D.bool r)
def ZfL (t0:Bool) (t1:Bool) (t2:Bool) (t3:Bool) (a:Zo) (x3:(Zf9×Int)):Int→Ex×List V×Zl
  | r=>(.exit 0,[(.ptr 0 0),(.ptr 1 0),(.d (Zb r))],[(.cells (dV t0 t1 t2 t3 a)),(.cells [(.d (D.list true (List.map Zb x3.1.dag.work))),(.d (D.list true (List.map Zw x3.1.dag.edges))),(.d (D.list true (List.map ZaG x3.1.pieces)))])])
theorem Zid {t0:Bool} {t1:Bool} {t2:Bool} {t3:Bool} {a:Zo} {x3:(Zf9×Int)}:∀(s5:Int×Int) (r:Int),lp (Zcy a) s5=some r→lpW ctx 0 [1,3,5,6] [1,3,5] Zvs [(.ptr 0 0),(.ptr 1 0),(.d (Zb s5.1)),(.d (Zb s5.2))] [(.cells (dV t0 t1 t2 t3 a)),(.cells [(.d (D.list true (List.map Zb x3.1.dag.work))),(.d (D.list true (List.map Zw x3.1.dag.edges))),(.d (D.list true (List.map ZaG x3.1.pieces)))])]=some ((ZfL t0 t1 t2 t3 a x3) r):=by
 refine Za7 (ZfL t0 t1 t2 t3 a x3) ?_
 intro s5 rcl ih
 show ZX _ _ (lpW _ _ _ _ _ _ _)
 unfold Zcy
 rw[Za8]
 conv=>arg 3; whnf
 refine Zs (ZK _ _) ?_
 conv=>arg 3; whnf
 refine Ze rfl ?_ ?_
 ·conv=>arg 3; whnf
  refine Zk rfl rfl fun x6 hx6=>?_
  conv=>arg 3; whnf
  exact Zd (ih _)
 ·conv=>arg 3; whnf
  exact Zg rfl
def ZfJ (t0:Bool) (t1:Bool) (t2:Bool) (t3:Bool) (a:Zo) (x3:(Zf9×Int)) (r7:Int):(Unit⊕Unit)→Ex×List V×Zl
  | (.inl r)=>(.ret,[(.ptr 0 0),(.d (D.bool false)),(.ptr 1 0),(.d (Zb r7))],[(.cells (dV t0 t1 t2 t3 a)),(.cells [(.d (D.list true (List.map Zb x3.1.dag.work))),(.d (D.list true (List.map Zw x3.1.dag.edges))),(.d (D.list true (List.map ZaG x3.1.pieces)))])])
  | (.inr r)=>(.exit 2,[(.ptr 0 0),.bad,(.ptr 1 0),(.d (Zb r7))],[(.cells (dV t0 t1 t2 t3 a)),(.cells [(.d (D.list true (List.map Zb x3.1.dag.work))),(.d (D.list true (List.map Zw x3.1.dag.edges))),(.d (D.list true (List.map ZaG x3.1.pieces)))])])
theorem Zig {t0:Bool} {t1:Bool} {t2:Bool} {t3:Bool} {a:Zo} {x3:(Zf9×Int)} {r7:Int}:∀(s8:Int) (r:(Unit⊕Unit)),lp (Zb5 x3) s8=some r→lpW ctx 0 [1,3,5,7] [1,2,3,5] Zvw [(.ptr 0 0),(.ptr 1 0),(.d (Zb r7)),(.d (Zb s8))] [(.cells (dV t0 t1 t2 t3 a)),(.cells [(.d (D.list true (List.map Zb x3.1.dag.work))),(.d (D.list true (List.map Zw x3.1.dag.edges))),(.d (D.list true (List.map ZaG x3.1.pieces)))])]=some ((ZfJ t0 t1 t2 t3 a x3 r7) r):=by
 refine Za7 (ZfJ t0 t1 t2 t3 a x3 r7) ?_
 intro s8 rcl ih
 show ZX _ _ (lpW _ _ _ _ _ _ _)
 unfold Zb5
 rw[Za8]
 conv=>arg 3; whnf
 refine Zs (ZK _ _) ?_
 conv=>arg 3; whnf
 refine Ze rfl ?_ ?_
 ·conv=>arg 3; whnf
  refine Zk rfl rfl fun x9 hx9=>?_
  conv=>arg 3; whnf
  refine Ze rfl ?_ ?_
  ·conv=>arg 3; whnf
   exact Zg rfl
  ·conv=>arg 3; whnf
   exact Zd (ih _)
 ·conv=>arg 3; whnf
  exact Zg rfl
theorem Zjs {t0:Bool} {t1:Bool} {t2:Bool} {t3:Bool} {a:Zo}:∀r,(ZeS a)=some r→evD ctx 5 [(.d (D.agg (dA t0 t1 t2 t3 a)))]=some (ZgO r):=by
 show ZX _ (fun r rhs=>rhs=some (ZgO r)) _
 unfold ZeS
 rw[Zce ctx 5 fn5 _ rfl rfl]
 conv=>arg 3; whnf
 refine ZA _ ZfA rfl fun x0 hx0=>?_
 conv=>arg 3; whnf
 refine Ze rfl ?_ ?_
 ·conv=>arg 3; whnf
  refine ZA _ Zmz rfl fun x1 hx1=>?_
  conv=>arg 3; whnf
  refine Ze rfl ?_ ?_
  ·conv=>arg 3; whnf
   refine Zc _ Zl3 fun x2 hx2=>?_
   conv=>arg 3; whnf
   refine ZA _ ZkN rfl fun x3 hx3=>?_
   conv=>arg 3; whnf
   refine Ze rfl ?_ ?_
   ·conv=>arg 3; whnf
    refine ZA _ Zln rfl fun x4 hx4=>?_
    conv=>arg 3; whnf
    refine Ze rfl ?_ ?_
    ·conv=>arg 3; whnf
     exact Zg rfl
    ·conv=>arg 3; whnf
     exact Zg rfl
   ·conv=>arg 3; whnf
    refine Zs (ZK _ _) ?_
    conv=>arg 3; whnf
    refine Zc _ (Zid _) fun r7 hr7=>?_
    conv=>arg 3; whnf
    refine Zc _ (Zig _) fun r10 hr10=>?_
    clear hr10
    rcases r10 with r10 | r10
    ·conv=>arg 3; whnf
     exact Zg rfl
    ·conv=>arg 3; whnf
     refine ZA _ ZgC rfl fun x11 hx11=>?_
     conv=>arg 3; whnf
     refine Ze rfl ?_ ?_
     ·conv=>arg 3; whnf
      refine ZA _ ZmH rfl fun x12 hx12=>?_
      conv=>arg 3; whnf
      refine Ze rfl ?_ ?_
      ·conv=>arg 3; whnf
       refine Zs (ZK _ _) ?_
       conv=>arg 3; whnf
       refine Zs (ZK _ _) ?_
       conv=>arg 3; whnf
       refine Zs (ZK _ _) ?_
       conv=>arg 3; whnf
       refine Zs (ZK _ _) ?_
       conv=>arg 3; whnf
       refine Ze rfl ?_ ?_
       ·conv=>arg 3; whnf
        refine Zs (ZK _ _) ?_
        conv=>arg 3; whnf
        refine Zs (ZK _ _) ?_
        conv=>arg 3; whnf
        refine Ze rfl ?_ ?_
        ·conv=>arg 3; whnf
         exact Zg rfl
        ·conv=>arg 3; whnf
         exact Zg rfl
       ·conv=>arg 3; whnf
        exact Zg rfl
      ·conv=>arg 3; whnf
       exact Zg rfl
     ·conv=>arg 3; whnf
      exact Zg rfl
  ·conv=>arg 3; whnf
   refine ZA _ ZfA rfl fun x13 hx13=>?_
   conv=>arg 3; whnf
   refine Ze rfl ?_ ?_
   ·conv=>arg 3; whnf
    exact Zg rfl
   ·conv=>arg 3; whnf
    exact Zg rfl
 ·conv=>arg 3; whnf
  refine ZA _ ZfA rfl fun x14 hx14=>?_
  conv=>arg 3; whnf
  refine Ze rfl ?_ ?_
  ·conv=>arg 3; whnf
   exact Zg rfl
  ·conv=>arg 3; whnf
   exact Zg rfl
end Go.Proofs.YtljgncbdagmeeaaDoor
namespace Go.Proofs.YtljgncbdagmeeaaDoor
open Go Go.Proofs.YtljgncbdagmeeaaDoorE
abbrev Zo0:List Lf×Bool:=([.int .i64,.int .i64,.sl true [.int .i64,.int .i64,.int .i64],.sl true [.int .i64,.int .i64],.sl true [.int .i64,.int .i64,.int .i64],.sl true [.sl false [.int .i64],.sl false [.int .i64]]],true)
end Go.Proofs.YtljgncbdagmeeaaDoor
namespace Go.Proofs.YtljgncbdagmeeaaDoor
open Go Go.Proofs.YtljgncbdagmeeaaDoorE
set_option linter.unusedVariables false
set_option linter.unusedSimpArgs false
theorem ZpC (d:Zo):ZeS d=some true:=by
 have aw:ZeL=some true:=rfl
 unfold ZeS
 simp only[aw,cond_true,ZwX,Option.bind_some]
 cases hf:few d with
 | false=>rfl
 | true=>
  have hz:=Zrv hf
  simp only[cond_true,Zyl d hz,Option.bind_some,show Zo.mk d.period d.deadline d.parts d.edges d.futures d.barriers=d from rfl,ZuQ hz]
  rcases Zp6 d with⟨h1,h2,h3⟩ | ⟨h1,h2⟩
  ·have g:=ZoY h2
   have hG:=(Zns h3).1
   have hpl:=g.pl
   have hfl:=g.fl
   have hbl:=g.bl
   have l0:=Zuq (d.parts.map fun p=>p.work) (by rw[List.length_map]; omega) (fun x hx=>by
    obtain⟨p,hp,rfl⟩:=List.mem_map.1 hx
    have:=g.g.w p hp
    omega) (Zcy d) (fun i x s hi hx=>by
     rw[List.length_map] at hi
     have hp:d.parts[i]? = some d.parts[i]:=List.getElem?_eq_getElem hi
     have:d.parts[i].work=x:=by
      rw[List.getElem?_map,hp] at hx
      exact Option.some.inj hx
     simp only[Zcy,ZeA hi,cond_true,ZaX hp,Option.bind_some,this,Z8 hi (show d.parts.length<9223372036854775808 by omega)]) (fun s=>by
     rw[List.length_map]
     simp only[Zcy,Zfe,cond_false]) (d.barriers.length:Int) (by omega)
   have l1:=ZfB (ZeJ d) (Zb5 (Zey d,0)) (fun _ x=>decide (x<1)) (fun _ _=>.inl ()) (.inr ()) (fun i x hi hx=>by
     have hi2:i<(Zey d).dag.work.length:=hi
     have hx2:(Zey d).dag.work[i]? = some x:=hx
     simp only[Zb5,ZeA hi2,cond_true,ZaX hx2,Option.bind_some,Z8 hi2 (show(Zey d).dag.work.length<9223372036854775808 by have:=hG.wl; omega)]
     cases decide (x<1)<;>rfl) (by
     show Zb5 (Zey d,0) ((Zey d).dag.work.length:Int)=_
     simp only[Zb5,Zfe]; rfl)
   have any0:(ZeJ d).any (fun x=>decide (x<1))=false:=List.any_eq_false.2 fun x hx=>by
    have:=ZrT g x hx
    simp only[decide_eq_true_eq]
    omega
   rw[Zd7,Zii,any0] at l1
   have e1:((Zey d).dag.work.length:Int)=(d.parts.length:Int)+(d.futures.length:Int)+(d.barriers.length:Int):=by
    show((ZeJ d).length:Int)=_
    rw[Zqx g]; omega
   have e2:((Zey d).pieces.length:Int)=(d.parts.length:Int)+(d.futures.length:Int)+(d.barriers.length:Int):=by
    show((ZkD d).length:Int)=_
    rw[ZpZ g]; omega
   have e3:(Zey d).dag.work.sum=(d.barriers.length:Int)+(d.parts.map fun p=>p.work).sum:=by
    show(ZeJ d).sum=_
    rw[Zp1,Zsa]; omega
   rw[h1]
   simp only[bne_self_eq_false,cond_false,l0,l1,Option.bind_some,Zju _ hG.short,h3,beq_self_eq_true,cond_true,Zqu h3,e3,e1,e2,Zcm (show -9223372036854775808≤(d.parts.length:Int)+(d.futures.length:Int) by omega) (by omega),Zcm (show -9223372036854775808≤(d.parts.length:Int)+(d.futures.length:Int)+(d.barriers.length:Int) by omega) (by omega)]
  ·have hne:((ZpU d).2 != 0)=true:=by rw[bne,beq_false_of_ne h2]; rfl
   rw[hne,h1]
   simp only[cond_true,Zpm ⟨⟨[],[]⟩,[]⟩ ⟨⟨[],[]⟩,[]⟩ (by simp) (by simp) (by simp),Option.bind_some]
   rfl
theorem Zqr (xs:List D) (h:Zgn Zo0.1 xs) :
  ∃H',evW ctx 5 (Zct [ZuN Zo0.2 xs]) []=some (.d (.bool true),H'):=by
 obtain⟨d,hd,_⟩:=Zur h
 show ∃H',evW ctx 5 [.d (D.agg xs)] []=_
 rw[hd]
 exact Zug (Zjs true (ZpC d))
end Go.Proofs.YtljgncbdagmeeaaDoor
namespace Go.Proofs.YtljgncbdagmeeaaDoor.LawLowWork
open Go.ChangeShapes Go.WideShapes Go.ChangeAt Go.RowKit Go.Proofs.YtljgncbdagmeeaaDoorE
set_option linter.unusedVariables false
theorem own:ownKnob Tryd.prog.godebug=none:=by kernel_rfl
theorem ZuU:laidOutB Tryd.prog=true:=by kernel_rfl
def ZmS : List (String × DataW Unit) := [("math/bits.deBruijn32tab", Rows.laid_math_bits_deBruijn32tab), ("math/bits.deBruijn64tab", Rows.laid_math_bits_deBruijn64tab)]
theorem ZtV (os:Os) (args:Array Value):laidMetH Tryd.prog ZmS ((World.doorLaid Tryd.prog 19 os).forCall (fun _ _=>0) ⟨#[],args,[]⟩).memory:=
 laidMetH_of_parts3 (fuel:=8) (laidMet_of_run' 8 (by kernel_rfl) (by kernel_rfl)) (by kernel_rfl) (by kernel_rfl)
theorem ZsL {W:World} (h:laidMetH Tryd.prog ZmS W):GOK ZC R0 W:=by
 intro g l hg
 unfold ZC at hg
 split at hg
 ·cases hg
  exact Zmr (t := 170) (N := 32) (e := 5) (k := .u8) h (by kernel_rfl) (n := "math/bits.deBruijn32tab") (by rw [show DataW.agg (ZjD ZvG) = Rows.laid_math_bits_deBruijn32tab by kernel_rfl]; simp [ZmS]) (by kernel_rfl) (by kernel_rfl) (by kernel_rfl) (by kernel_rfl) (by kernel_rfl) (by kernel_rfl) (by decide)
 ·cases hg
  exact Zmr (t := 171) (N := 64) (e := 5) (k := .u8) h (by kernel_rfl) (n := "math/bits.deBruijn64tab") (by rw [show DataW.agg (ZjD Zvx) = Rows.laid_math_bits_deBruijn64tab by kernel_rfl]; simp [ZmS]) (by kernel_rfl) (by kernel_rfl) (by kernel_rfl) (by kernel_rfl) (by kernel_rfl) (by kernel_rfl) (by decide)
 ·cases hg
theorem Zwm (os:Os) (started:os.Started) (H:Type) (enc:TypeId×Value→H) :
  ReturnsInHanded {} Tryd.checked os 5 .any (fun w args=>(Rows.lowWorkSpec.pre enc Tryd.prog Tryd.f5 [] false w args∧laidMetH Tryd.prog ZmS w)∧sizedMet enc Tryd.prog Tryd.f5 (OpenSpec.ofChange Rows.lowWorkSpec) false w args) (Rows.lowWorkSpec.post enc Tryd.prog Tryd.f5 false true false false):=by
 refine returnsInHanded_of_change_and (C:=Tryd.checked) (X:=fun w _=>laidMetH Tryd.prog ZmS w) (fun _ _ _ hh h=>h.of_heap hh) own started (by kernel_rfl) Tryd.func5
  (ChangeSpec.witness_shaped (enc:=enc) (C:=Tryd.checked) (os:=os) (X:=fun w _=>laidMetH Tryd.prog ZmS w) false (World.doorLaid Tryd.prog 19 os) #[.agg #[.int .i64 0,.int .i64 0,.slice none 0 0,.slice none 0 0,.slice none 0 0,.slice none 0 0]] 8 rfl (World.shaped_of_RefB (by kernel_rfl) (by kernel_rfl)) (by kernel_rfl) (by kernel_rfl) (by kernel_rfl) (ZtV os _)) ?_
 intro W base args ds gs before hval0 hW _ _ hL _
 have hval:∀(j:Nat) t v,Tryd.f5.params[j]? = some t→args[j]? = some v→Value.okWide Tryd.prog W .any base t v:=hval0
 have hW':=hW
 obtain⟨p,q,hA0,hV,rfl,hfz,hnd⟩:=hW
 have hA:DataW.TrodAll enc Tryd.prog W 0 (fun _=>true) true Tryd.f5.params.toList args.toList ds p:=hA0
 rw[Tryd.params5] at hA hval
 obtain⟨v0,vs0,d0,ds0,p0,q0,hargs,rfl,rfl,h0,r0⟩:=trodAll_cons hA
 obtain⟨rfl,rfl,rfl⟩:=trodAll_nil r0
 obtain rfl:args = #[v0]:=by cases args; simp_all
 obtain⟨rfl,rfl⟩:=trodVars_none hV
 have lt0:∀x∈p0,x.block<W.heap.size:=by obtain⟨m,hm⟩:=h0; exact DataW.trod_lt m _ _ _ hm
 obtain⟨x0,ok0,den0⟩:=Zv1 (P:=Tryd.prog) (n:=8) (t:=27) (l:=Zo0.1) (ag:=Zo0.2) (by kernel_rfl) (hval 0 27 v0 rfl rfl) h0
 obtain⟨H1,ev⟩:=Zqr x0 ok0
 have den:ZaQ All All All W [ZuN Zo0.2 x0] [v0]:=⟨_,_,rfl,den0,rfl⟩
 refine(Zr1 ZxG (ZsL hL) den ev).mono fun e W' ⟨he,bel⟩=>?_
 subst he
 exact⟨_,rfl,_,_,_,[],_,[],hW',trodAll_mk1 (shut_bool Tryd.underlying4 _),(trodAll_cons_mk (Below.trod ZuU (by kernel_rfl) (of_decide_eq_true (by kernel_rfl)) h0 bel lt0) trodAll_mk0),rfl,bel.frame _,fun h=>by cases h⟩
theorem over:Rows.lowWorkRow.holds Tryd.pinned (OpenSpec.ofChange Rows.lowWorkSpec):=
 OpenClaim.holds_of_wide 5 Tryd.f5 rfl rfl rfl rfl rfl rfl rfl ⟨rfl,rfl,rfl,rfl,rfl⟩ rfl rfl rfl rfl rfl (by kernel_rfl) Tryd.func5 (by kernel_rfl)
  (of_decide_eq_true (by kernel_rfl)) (by unfold Func.isWrapper; first | (rw[if_pos (by decide +kernel)]; kernel_rfl) | (rw[if_neg (by decide +kernel)]; exact⟨rfl,rfl⟩))
  (fun os started H enc _=>Zwm os started H enc)
theorem proved:Rows.LowWorkSaid:=over
theorem carded:Rows.LowWorkCardSaid:=
 Claim7.holds_tied_plain_at .later [] [.data, .data] true (true, "d907b5d9381713682315e2e2b6cdc9b83e8277611de7aab9efce85a6aaa9d615") false
  proved (fun _ h=>by cases h) (by kernel_rfl) (fun _ h=>by cases h) lowWork_row_tie rfl ⟨rfl,rfl⟩ (by kernel_rfl) rfl
  (fun f fn hf hfn=>by
   obtain rfl : f = 5 := Option.some.inj ((show Tryd.prog.funcNamed "trefoil/trefoillaw07.LowWork" = some 5 by kernel_rfl).symm.trans hf) |>.symm
   obtain rfl:fn=Tryd.f5:=(Option.some.inj (Tryd.func5.symm.trans hfn)).symm
   exact⟨by kernel_rfl,fun j t ht=>by
    rw[Tryd.params5] at ht
    have hm:t∈[27]:=by simpa using Array.mem_of_getElem? ht
    have hall:([27].all fun u=>!Tryd.prog.wantsStandIn u)=true:=by kernel_rfl
    exact(show Tryd.prog.wantsStandIn t=false by simpa using List.all_eq_true.1 hall t hm)⟩)
  (by kernel_rfl)
end Go.Proofs.YtljgncbdagmeeaaDoor.LawLowWork
namespace Go.Proofs.YtljgncbdagmeeaaDoor
theorem lowWork_holds:Rows.LowWorkCardSaid:=LawLowWork.carded
#print axioms lowWork_holds
end Go.Proofs.YtljgncbdagmeeaaDoor
