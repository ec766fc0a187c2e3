/- ClassShapes: part 6 of 7 of the proof. -/
import Derived.Test.YtnpidpcmpleiaaaGreatDoorZClassShapese
import Derived.KernelRfl
set_option maxRecDepth 100000
set_option maxHeartbeats 40000000
set_option linter.unusedVariables false
set_option linter.unusedSimpArgs false
namespace Go.Proofs.YtnpidpcmpleiaaaGreatDoor
open Go Go.Proofs.YtnpidpcmpleiaaaGreatDoorE
open Go.IntKind (u64 i64 u32 i32 u8)
theorem Zjg:∀r,Zif=some r→evD ctx 4 []=some (D.bool r):=fun r h=>by
  cases h
  exact ZEK 100 (by kernel_rfl)
def ZoW (r:Bool):D:=(D.bool r)
def ZlL (t0:Bool) (t1:Bool) (t2:Bool) (t3:Bool) (a:Zp):(Unit⊕Unit)→Ex×List V×Zs
  | (.inl r)=>(.ret,[(.ptr 0 0),(.d (D.bool false))],[(.cells (dV t0 t1 t2 t3 a))])
  | (.inr r)=>(.exit 0,[(.ptr 0 0),.bad],[(.cells (dV t0 t1 t2 t3 a))])
theorem ZpL {t0 t1:Bool}{t2 t3:Bool}{a:Zp}:∀(s0:Int) (r:(Unit⊕Unit)),lp (ZgG a) s0=some r→lpW ctx 0 [1,3] [1,2] ZCZ [(.ptr 0 0),(.d (Ze s0))] [(.cells (dV t0 t1 t2 t3 a))]=some ((ZlL t0 t1 t2 t3 a) r):=by
 refine Zah (ZlL t0 t1 t2 t3 a) ?_
 intro s0 rcl ih
 show ZN _ _ (lpW _ _ _ _ _ _ _)
 unfold ZgG
 rw[Zai]
 conv=>rhs;whnf
 refine Zm (ZK _ _) ?_;conv=>rhs;whnf
 refine Zf rfl ?_ ?_<;>conv=>rhs;whnf
 ·refine Zf rfl ?_ ?_<;>conv=>rhs;whnf
  ·refine Zk rfl rfl fun x1 hx1=>?_;conv=>rhs;whnf
   refine Zm (ZK _ _) ?_;conv=>rhs;whnf
   refine Zf rfl ?_ ?_<;>conv=>rhs;whnf
   ·exact Zh rfl
   ·refine Zg (Zam rfl hx1) ?_;conv=>rhs;whnf
    refine Zm (ZK _ _) ?_;conv=>rhs;whnf
    refine Zf rfl ?_ ?_<;>conv=>rhs;whnf
    ·exact Zh rfl
    ·exact Zd (ih _)
  ·exact Zh rfl
 ·exact Zh rfl
theorem Zs3 {t0 t1:Bool}{t2 t3:Bool}{a:Zp}:∀r,(ZjA a)=some r→evD ctx 5 [(.d (D.agg (dA t0 t1 t2 t3 a)))]=some (ZoW r):=by
 show ZN _ (fun r rhs=>rhs=some (ZoW r)) _
 unfold ZjA
 rw[Zbj ctx 5 fn5 _ rfl rfl]
 conv=>rhs;whnf
 refine Zc _ (ZpL _) fun r2 hr2=>?_
 clear hr2
 rcases r2 with r2 | r2
 ·conv=>rhs;whnf
  exact Zh rfl
 ·conv=>rhs;whnf
  refine Zm (ZK _ _) ?_;conv=>rhs;whnf
  refine Zf rfl ?_ ?_<;>conv=>rhs;whnf
  ·refine Zm (ZK _ _) ?_;conv=>rhs;whnf
   refine Zf rfl ?_ ?_<;>conv=>rhs;whnf
   ·refine Zm (ZK _ _) ?_;conv=>rhs;whnf
    refine Zf rfl ?_ ?_<;>conv=>rhs;whnf
    ·refine Zm (ZK _ _) ?_;conv=>rhs;whnf
     refine Zf rfl ?_ ?_<;>conv=>rhs;whnf
     ·exact Zh rfl
     ·exact Zh rfl
    ·exact Zh rfl
   ·exact Zh rfl
  ·exact Zh rfl
def Zo0 (t0:Bool) (t1:Bool) (t2:Bool) (t3:Bool) (a:Zp):(List Zw)→V×Zs
  | r=>((.agg [(.d (Ze a.period)),(.d (Ze a.deadline)),(.sl 0 3),(.sl 1 2),(.sl 2 3),(.sl 3 2)]),[(.arr 3 (List.map ZaC a.parts)),(.arr 2 (List.map ZA a.edges)),(.arr 3 (List.map Zv a.futures)),(.arr 2 (List.map ZD r))])
def ZlG (t0:Bool) (t1:Bool) (t2:Bool) (t3:Bool) (a:Zp):(List Zw)→Ex×List V×Zs
  | r=>(.exit 0,[(.ptr 0 0),(.ptr 1 0)],[(.cells [(.d (Ze 0)),(.d (Ze 0)),(.sl 2 3),(.sl 3 2),(.sl 4 3),(.sl 5 2)]),(.cells [(.d (Ze a.period)),(.d (Ze a.deadline)),(.sl 6 3),(.sl 7 2),(.sl 8 3),(.sl 9 2)]),(.arr 3 []),(.arr 2 []),(.arr 3 []),(.arr 2 []),(.arr 3 (List.map ZaC a.parts)),(.arr 2 (List.map ZA a.edges)),(.arr 3 (List.map Zv a.futures)),(.arr 2 (List.map ZD r))])
theorem ZpA {t0 t1:Bool}{t2 t3:Bool}{a:Zp}:∀(s0:Int×(List Zw)) (r:List Zw),lp (ZfE a) s0=some r→lpW ctx 0 [1,2,3,4] [2,3] ZC7 [(.ptr 0 0),(.ptr 1 0),(.ptr 2 0),(.d (Ze s0.1))] [(.cells (dV t0 t1 t2 t3 a)),(.cells [(.d (Ze 0)),(.d (Ze 0)),(.sl 3 3),(.sl 4 2),(.sl 5 3),(.sl 6 2)]),(.cells [(.d (Ze a.period)),(.d (Ze a.deadline)),(.sl 7 3),(.sl 8 2),(.sl 9 3),(.sl 10 2)]),(.arr 3 []),(.arr 2 []),(.arr 3 []),(.arr 2 []),(.arr 3 (List.map ZaC a.parts)),(.arr 2 (List.map ZA a.edges)),(.arr 3 (List.map Zv a.futures)),(.arr 2 (List.map ZD s0.2))]=some ((ZlG t0 t1 t2 t3 a) r):=by
 refine Zah (ZlG t0 t1 t2 t3 a) ?_
 intro s0 rcl ih
 show ZN _ _ (lpW _ _ _ _ _ _ _)
 unfold ZfE
 rw[Zai]
 conv=>rhs;whnf
 refine Zm (ZK _ _) ?_;conv=>rhs;whnf
 refine Zf rfl ?_ ?_<;>conv=>rhs;whnf
 ·refine Zk rfl rfl fun x1 hx1=>?_;conv=>rhs;whnf
  refine Zbl (Zmb (f:=Ze) (fun _=>⟨rfl,rfl⟩) x1.ins 0) ?_;conv=>rhs;whnf
  refine Zf (Zl9 Ze x1.ins) ?_ ?_
  ·conv=>rhs;whnf
   refine Zm (rfl:_=List.map Ze x1.ins) ?_;conv=>rhs;whnf
   refine Zg (Zam rfl hx1) ?_;conv=>rhs;whnf
   refine Zbl (Zmb (f:=Ze) (fun _=>⟨rfl,rfl⟩) x1.outs 0) ?_;conv=>rhs;whnf
   refine Zf (Zl9 Ze x1.outs) ?_ ?_
   ·conv=>rhs;whnf
    refine Zm (rfl:_=List.map Ze x1.outs) ?_;conv=>rhs;whnf
    refine Zbl rfl ?_;conv=>rhs;whnf
    refine Zf (Zfd ZD s0.2 1) ?_ ?_
    ·conv=>rhs;whnf
     refine Zm (Zfc ZD s0.2 [x1]) ?_;conv=>rhs;whnf
     exact Zd (ih _)
    ·exact ZaH
   ·exact ZaH
  ·exact ZaH
 ·exact Zh rfl
theorem Zsr {t0 t1:Bool}{t2 t3:Bool}{a:Zp}:∀r,(ZjH a)=some r→evW ctx 7 [(.d (D.agg (dA t0 t1 t2 t3 a)))] []=some ((Zo0 t0 t1 t2 t3 a) r):=by
 show ZN _ (fun r rhs=>rhs=some ((Zo0 t0 t1 t2 t3 a) r)) _
 unfold ZjH
 rw[ZeK ctx 7 fn7 _ _ rfl rfl]
 conv=>rhs;whnf
 refine Zbl (Zmb (f:=ZaC) (fun _=>⟨rfl,rfl⟩) a.parts 0) ?_;conv=>rhs;whnf
 refine Zf (Zl9 ZaC a.parts) ?_ ?_
 ·conv=>rhs;whnf
  refine Zm (rfl:_=List.map ZaC a.parts) ?_;conv=>rhs;whnf
  refine Zbl (Zmb (f:=ZA) (fun _=>⟨rfl,rfl⟩) a.edges 0) ?_;conv=>rhs;whnf
  refine Zf (Zl9 ZA a.edges) ?_ ?_
  ·conv=>rhs;whnf
   refine Zm (rfl:_=List.map ZA a.edges) ?_;conv=>rhs;whnf
   refine Zbl (Zmb (f:=Zv) (fun _=>⟨rfl,rfl⟩) a.futures 0) ?_;conv=>rhs;whnf
   refine Zf (Zl9 Zv a.futures) ?_ ?_
   ·conv=>rhs;whnf
    refine Zm (rfl:_=List.map Zv a.futures) ?_;conv=>rhs;whnf
    refine Zc _ (ZpA _) fun r2 hr2=>?_;conv=>rhs;whnf
    exact Zh rfl
   ·exact ZaH
  ·exact ZaH
 ·exact ZaH
def ZmV (r:Bool):D:=(D.bool r)
theorem ZcX {a b c:Int}:∀r,(Zcp a b c)=some r→evD ctx 37 [(.d (Ze a)),(.d (Ze b)),(.d (Ze c))]=some (ZmV r):=by
 show ZN _ (fun r rhs=>rhs=some (ZmV r)) _
 unfold Zcp
 rw[Zbj ctx 37 ZET _ rfl rfl]
 conv=>rhs;whnf
 refine Zf rfl ?_ ?_<;>conv=>rhs;whnf
 ·refine Zf rfl ?_ ?_<;>conv=>rhs;whnf
  ·exact Zh rfl
  ·exact Zh rfl
 ·exact Zh rfl
def ZoU (r:Int):D:=(Ze r)
theorem Zsi {a:Int}:∀r,(Zjv a)=some r→evD ctx 34 [(.d (Ze a))]=some (ZoU r):=by
 show ZN _ (fun r rhs=>rhs=some (ZoU r)) _
 unfold Zjv
 rw[Zbj ctx 34 ZDX _ rfl rfl]
 conv=>rhs;whnf
 refine Zf rfl ?_ ?_<;>conv=>rhs;whnf
 ·exact Zh rfl
 ·refine Zf rfl ?_ ?_<;>conv=>rhs;whnf
  ·exact Zh rfl
  ·exact Zh rfl
def ZhV (r:Int):D:=(Ze r)
theorem Zkl {a:Int}:∀r,(Zdy a)=some r→evD ctx 66 [(.d (D.int .u64 a))]=some (ZhV r):=by
 show ZN _ (fun r rhs=>rhs=some (ZhV r)) _
 unfold Zdy
 rw[Zbj ctx 66 ZEf _ rfl rfl]
 conv=>rhs;whnf
 refine ZV rfl ?_;conv=>rhs;whnf
 refine ZV rfl ?_;conv=>rhs;whnf
 refine ZV rfl ?_;conv=>rhs;whnf
 refine ZV rfl ?_;conv=>rhs;whnf
 refine ZV rfl ?_;conv=>rhs;whnf
 refine ZV rfl ?_;conv=>rhs;whnf
 exact Zh rfl
def ZiG (r:Int):D:=(Ze r)
theorem ZlD {a:Int}:∀r,(ZdX a)=some r→evD ctx 35 [(.d (D.int .u64 a))]=some (ZiG r):=by
 show ZN _ (fun r rhs=>rhs=some (ZiG r)) _
 unfold ZdX
 rw[Zbj ctx 35 ZEA _ rfl rfl]
 conv=>rhs;whnf
 refine Zq _ Zkl rfl fun x0 hx0=>?_;conv=>rhs;whnf
 exact Zh rfl
theorem ZFA (n:Int):0≤u64.wrap n∧u64.wrap n<18446744073709551616:=by
  have:u64.wrap n=n % 18446744073709551616:=by
    show(if (false&&decide (n % 18446744073709551616 ≥ 9223372036854775808))=true then n % 18446744073709551616-18446744073709551616 else n % 18446744073709551616)=_
    simp
  rw[this]
  omega
theorem ZGe (n:Int):∃j:Nat,j<64∧(u64.wrap n).fdiv (2 ^ (min (Int.toNat 58) u64.bits))=(j:Int):=by
  obtain⟨h1,h2⟩:=ZFA n
  have e:(2:Int) ^ (min (Int.toNat 58) u64.bits)=288230376151711744:=by decide
  rw[e,Int.fdiv_eq_ediv_of_nonneg _ (by omega)]
  refine⟨((u64.wrap n) / 288230376151711744).toNat,?_,?_⟩<;>omega
theorem ZGk:∀j:Nat,j<64→Ze7 [] 1 false (.d (.rptr (ZAF.drop (j*1))))=some (.d (.int .u8 (Zu7.getD j 0))):=by
  have key:((List.range 64).all fun j=>match Ze7 [] 1 false (.d (.rptr (ZAF.drop (j*1)))) with | some (.d (.int .u8 z))=>z==Zu7.getD j 0 | _=>false)=true:=by rfl
  intro j hj
  have:=List.all_eq_true.1 key j (by simpa using hj)
  split at this
  · rename_i z hz
    rw[hz,eq_of_beq this]
  · cases this
def ZjL (r:Int):D:=Ze r
theorem Zi6 (a:Int):∀r,Zfb a=some r→evD ctx 68 [.d (.int .u64 a)]=some (ZjL r):=by
  intro r hr
  unfold Zfb at hr
  have hr:=Option.some.inj hr
  subst hr
  rw[Zbj ctx 68 ZDy _ rfl rfl]
  by_cases h:(a==0)=true
  · conv=>lhs;whnf
    rw[h,ZCz]
    rfl
  · replace h:(a==0)=false:=by simpa using h
    obtain⟨j,hj,e⟩:=ZGe (u64.wrap ((Zi a &&& Zi (u64.wrap (0-a))).toNat:Int)*285870213051353865)
    conv=>lhs;whnf
    rw[h,ZCT]
    conv=>lhs;whnf
    refine(ZGg (by rfl)).trans ?_
    conv=>lhs;whnf
    rw[e]
    refine(ZFr (by simp;omega)).trans ?_
    conv=>lhs;whnf
    erw [ZGk j hj]
    rfl
def Zhu (r:Int):D:=(Ze r)
theorem ZjW {a:Int}:∀r,(ZdW a)=some r→evD ctx 36 [(.d (D.int .u64 a))]=some (Zhu r):=by
 show ZN _ (fun r rhs=>rhs=some (Zhu r)) _
 unfold ZdW
 rw[Zbj ctx 36 ZEW _ rfl rfl]
 conv=>rhs;whnf
 refine Zq _ (Zi6 _) rfl fun x0 hx0=>?_;conv=>rhs;whnf
 exact Zh rfl
def Zrj (r:(Int×Bool)):D:=(D.tup [(Ze r.1),(D.bool r.2)])
theorem Zp2 {a:Int}:∀r,(Zki a)=some r→evD ctx 20 [(.d (Ze a))]=some (Zrj r):=by
 show ZN _ (fun r rhs=>rhs=some (Zrj r)) _
 unfold Zki
 rw[Zbj ctx 20 ZEa _ rfl rfl]
 conv=>rhs;whnf
 refine Zq _ Zsi rfl fun x0 hx0=>?_;conv=>rhs;whnf
 refine Zf rfl ?_ ?_<;>conv=>rhs;whnf
 ·exact Zh rfl
 ·refine Zq _ ZlD rfl fun x1 hx1=>?_;conv=>rhs;whnf
  refine Zf rfl ?_ ?_<;>conv=>rhs;whnf
  ·exact Zh rfl
  ·refine Zq _ ZjW rfl fun x2 hx2=>?_;conv=>rhs;whnf
   exact Zh rfl
def ZoJ (r:Bool):D:=(D.bool r)
theorem Zsk {a:Zas}:∀r,(ZgY a)=some r→evD ctx 39 [(.d (D.agg [(Ze a.op),(Ze a.arg),(Ze a.work)]))]=some (ZoJ r):=by
 show ZN _ (fun r rhs=>rhs=some (ZoJ r)) _
 unfold ZgY
 rw[Zbj ctx 39 ZDn _ rfl rfl]
 conv=>rhs;whnf
 refine Zq _ ZcX rfl fun x0 hx0=>?_;conv=>rhs;whnf
 refine Zf rfl ?_ ?_<;>conv=>rhs;whnf
 ·refine Zq _ ZcX rfl fun x1 hx1=>?_;conv=>rhs;whnf
  refine Zf rfl ?_ ?_<;>conv=>rhs;whnf
  ·refine Zq _ ZcX rfl fun x2 hx2=>?_;conv=>rhs;whnf
   refine Zf rfl ?_ ?_<;>conv=>rhs;whnf
   ·exact Zh rfl
   ·exact Zh rfl
  ·exact Zh rfl
 ·exact Zh rfl
def ZdD (r:Int):D:=(Ze r)
def Zda (t0:Bool) (a:List Zas):(Int⊕Unit)→Ex×List V×Zs
  | (.inl r)=>(.ret,[(.d (Ze r))],[])
  | (.inr r)=>(.exit 0,[.bad],[])
theorem Zgj {t0:Bool}{a:List Zas}:∀(s0:Int) (r:(Int⊕Unit)),lp (ZbI a (fun z0=>ZgY z0)) s0=some r→lpW ctx 0 [0,1,7,8] [4] ZzK [(.d (D.list t0 (List.map ZaC a))),(.d (D.fn 39 [])),(.d (Ze (a.length:Int))),(.d (Ze s0))] []=some ((Zda t0 a) r):=by
 refine Zah (Zda t0 a) ?_
 intro s0 rcl ih
 show ZN _ _ (lpW _ _ _ _ _ _ _)
 unfold ZbI
 rw[Zai]
 conv=>rhs;whnf
 refine Zf rfl ?_ ?_<;>conv=>rhs;whnf
 ·refine Zk rfl rfl fun x1 hx1=>?_;conv=>rhs;whnf
  refine Zq _ Zsk rfl fun x2 hx2=>?_;conv=>rhs;whnf
  refine Zf rfl ?_ ?_<;>conv=>rhs;whnf
  ·exact Zh rfl
  ·exact Zd (ih _)
 ·exact Zh rfl
theorem ZgM {t0:Bool}{a:List Zas}:∀r,(ZcW a (fun z0=>ZgY z0))=some r→evD ctx 69 [(.d (D.list t0 (List.map ZaC a))),(.d (D.fn 39 []))]=some (ZdD r):=by
 show ZN _ (fun r rhs=>rhs=some (ZdD r)) _
 unfold ZcW
 rw[Zbj ctx 69 ZER _ rfl rfl]
 conv=>rhs;whnf
 refine Zm (ZK _ _) ?_;conv=>rhs;whnf
 refine Zc _ (Zgj _) fun r3 hr3=>?_
 clear hr3
 rcases r3 with r3 | r3
 ·conv=>rhs;whnf
  exact Zh rfl
 ·conv=>rhs;whnf
  exact Zh rfl
def Zdg (r:Bool):D:=(D.bool r)
theorem Zgk {t0:Bool}{a:List Zas}:∀r,(ZbJ a (fun z0=>ZgY z0))=some r→evD ctx 38 [(.d (D.list t0 (List.map ZaC a))),(.d (D.fn 39 []))]=some (Zdg r):=by
 show ZN _ (fun r rhs=>rhs=some (Zdg r)) _
 unfold ZbJ
 rw[Zbj ctx 38 ZDp _ rfl rfl]
 conv=>rhs;whnf
 refine Zq _ ZgM rfl fun x0 hx0=>?_;conv=>rhs;whnf
 refine Zf rfl ?_ ?_<;>conv=>rhs;whnf
 ·exact Zh rfl
 ·exact Zh rfl
def Zqm (r:Bool):D:=(D.bool r)
theorem ZoQ {t0 t1:Bool}{t2 t3:Bool}{a:Zp}{b c:Int}:∀r,(Zjf a b c)=some r→evD ctx 40 [(.d (D.agg (dA t0 t1 t2 t3 a))),(.d (Ze b)),(.d (Ze c))]=some (Zqm r):=by
 show ZN _ (fun r rhs=>rhs=some (Zqm r)) _
 unfold Zjf
 rw[Zbj ctx 40 ZDu _ rfl rfl]
 conv=>rhs;whnf
 refine Zf rfl ?_ ?_<;>conv=>rhs;whnf
 ·refine Zm (ZK _ _) ?_;conv=>rhs;whnf
  refine Zq _ ZcX rfl fun x0 hx0=>?_;conv=>rhs;whnf
  refine Zf rfl ?_ ?_<;>conv=>rhs;whnf
  ·refine Zm (ZK _ _) ?_;conv=>rhs;whnf
   refine Zq _ ZcX rfl fun x1 hx1=>?_;conv=>rhs;whnf
   refine Zf rfl ?_ ?_<;>conv=>rhs;whnf
   ·exact Zh rfl
   ·exact Zh rfl
  ·exact Zh rfl
 ·exact Zh rfl
def Zhc (r:Int):D:=(Ze r)
def Zgy (t0:Bool) (a:List Zo) (b:Zo):(Int⊕Unit)→Ex×List V×Zs
  | (.inl r)=>(.ret,[(.d (Ze r))],[])
  | (.inr r)=>(.exit 0,[.bad],[])
theorem ZiQ {t0:Bool}{a:List Zo}{b:Zo}:∀(s0:Int) (r:(Int⊕Unit)),lp (Zcc a b) s0=some r→lpW ctx 0 [0,3,7,8] [4] ZzH [(.d (D.list t0 (List.map ZA a))),(.ptr 0 0),(.d (Ze (a.length:Int))),(.d (Ze s0))] [(.cells [(.d (Ze b.src)),(.d (Ze b.dst))])]=some ((Zgy t0 a b) r):=by
 refine Zah (Zgy t0 a b) ?_
 intro s0 rcl ih
 show ZN _ _ (lpW _ _ _ _ _ _ _)
 unfold Zcc
 rw[Zai]
 conv=>rhs;whnf
 refine Zf rfl ?_ ?_<;>conv=>rhs;whnf
 ·refine Zk rfl rfl fun x1 hx1=>?_;conv=>rhs;whnf
  refine Zf rfl ?_ ?_<;>conv=>rhs;whnf
  ·exact Zh rfl
  ·exact Zd (ih _)
 ·exact Zh rfl
theorem ZjN {t0:Bool}{a:List Zo}{b:Zo}:∀r,(ZdI a b)=some r→evD ctx 70 [(.d (D.list t0 (List.map ZA a))),(.d (D.agg [(Ze b.src),(Ze b.dst)]))]=some (Zhc r):=by
 show ZN _ (fun r rhs=>rhs=some (Zhc r)) _
 unfold ZdI
 rw[Zbj ctx 70 ZEH _ rfl rfl]
 conv=>rhs;whnf
 refine Zm (ZK _ _) ?_;conv=>rhs;whnf
 refine Zc _ (ZiQ _) fun r2 hr2=>?_
 clear hr2
 rcases r2 with r2 | r2
 ·conv=>rhs;whnf
  exact Zh rfl
 ·conv=>rhs;whnf
  exact Zh rfl
def ZgA (r:Bool):D:=(D.bool r)
theorem Zgh {t0:Bool}{a:List Zo}{b:Zo}:∀r,(ZbH a b)=some r→evD ctx 41 [(.d (D.list t0 (List.map ZA a))),(.d (D.agg [(Ze b.src),(Ze b.dst)]))]=some (ZgA r):=by
 show ZN _ (fun r rhs=>rhs=some (ZgA r)) _
 unfold ZbH
 rw[Zbj ctx 41 ZEk _ rfl rfl]
 conv=>rhs;whnf
 refine Zq _ ZjN rfl fun x0 hx0=>?_;conv=>rhs;whnf
 refine Zf rfl ?_ ?_<;>conv=>rhs;whnf
 ·exact Zh rfl
 ·exact Zh rfl
def Zl4 (r:Bool):D:=(D.bool r)
theorem Zp5 {a:Zl}{b0 b1 b2:Int}:∀r,(ZeB a b1 b2)=some r→evD ctx 42 [(.d (D.agg [(Ze a.maker),(Ze a.user),(Ze a.pos)])),(.d (D.rptr [(Ze b0),(Ze b1),(Ze b2)]))]=some (Zl4 r):=by
 show ZN _ (fun r rhs=>rhs=some (Zl4 r)) _
 unfold ZeB
 rw[Zbj ctx 42 ZFc _ rfl rfl]
 conv=>rhs;whnf
 refine Zf rfl ?_ ?_<;>conv=>rhs;whnf
 ·refine Zf rfl ?_ ?_<;>conv=>rhs;whnf
  ·exact Zh rfl
  ·exact Zh rfl
 ·exact Zh rfl
def ZcP (r:Int):D:=(Ze r)
def Zcv (t0:Bool) (a:List Zl) (b0:Int) (b1:Int) (b2:Int):(Int⊕Unit)→Ex×List V×Zs
  | (.inl r)=>(.ret,[(.d (Ze r))],[])
  | (.inr r)=>(.exit 0,[.bad],[])
theorem ZeS {t0:Bool}{a:List Zl}{b0 b1 b2:Int}:∀(s0:Int) (r:(Int⊕Unit)),lp (Zbs a (fun z0=>ZeB z0 b1 b2)) s0=some r→lpW ctx 0 [0,1,7,8] [4] ZAS [(.d (D.list t0 (List.map Zv a))),(.d (D.fn 42 [(D.rptr [(Ze b0),(Ze b1),(Ze b2)])])),(.d (Ze (a.length:Int))),(.d (Ze s0))] []=some ((Zcv t0 a b0 b1 b2) r):=by
 refine Zah (Zcv t0 a b0 b1 b2) ?_
 intro s0 rcl ih
 show ZN _ _ (lpW _ _ _ _ _ _ _)
 unfold Zbs
 rw[Zai]
 conv=>rhs;whnf
 refine Zf rfl ?_ ?_<;>conv=>rhs;whnf
 ·refine Zk rfl rfl fun x1 hx1=>?_;conv=>rhs;whnf
  refine Zq _ Zp5 rfl fun x2 hx2=>?_;conv=>rhs;whnf
  refine Zf rfl ?_ ?_<;>conv=>rhs;whnf
  ·exact Zh rfl
  ·exact Zd (ih _)
 ·exact Zh rfl
theorem Zfk {t0:Bool}{a:List Zl}{b0 b1 b2:Int}:∀r,(Zcg a (fun z0=>ZeB z0 b1 b2))=some r→evD ctx 71 [(.d (D.list t0 (List.map Zv a))),(.d (D.fn 42 [(D.rptr [(Ze b0),(Ze b1),(Ze b2)])]))]=some (ZcP r):=by
 show ZN _ (fun r rhs=>rhs=some (ZcP r)) _
 unfold Zcg
 rw[Zbj ctx 71 ZEq _ rfl rfl]
 conv=>rhs;whnf
 refine Zm (ZK _ _) ?_;conv=>rhs;whnf
 refine Zc _ (ZeS _) fun r3 hr3=>?_
 clear hr3
 rcases r3 with r3 | r3
 ·conv=>rhs;whnf
  exact Zh rfl
 ·conv=>rhs;whnf
  exact Zh rfl
def Zcs (r:Bool):D:=(D.bool r)
theorem ZeQ {t0:Bool}{a:List Zl}{b0 b1 b2:Int}:∀r,(Zbt a (fun z0=>ZeB z0 b1 b2))=some r→evD ctx 43 [(.d (D.list t0 (List.map Zv a))),(.d (D.fn 42 [(D.rptr [(Ze b0),(Ze b1),(Ze b2)])]))]=some (Zcs r):=by
 show ZN _ (fun r rhs=>rhs=some (Zcs r)) _
 unfold Zbt
 rw[Zbj ctx 43 ZEr _ rfl rfl]
 conv=>rhs;whnf
 refine Zq _ Zfk rfl fun x0 hx0=>?_;conv=>rhs;whnf
 refine Zf rfl ?_ ?_<;>conv=>rhs;whnf
 ·exact Zh rfl
 ·exact Zh rfl
def Zp1 (r:Bool):D:=(D.bool r)
def ZmO (t0:Bool) (t1:Bool) (t2:Bool) (t3:Bool) (t4:Bool) (a:Zp) (b:List Int):(Unit⊕Unit)→Ex×List V×Zs
  | (.inl r)=>(.ret,[(.d (D.list t4 (List.map Ze b))),(.d (D.bool false))],[])
  | (.inr r)=>(.exit 0,[(.d (D.list t4 (List.map Ze b))),.bad],[])
theorem Zq8 {t0 t1:Bool}{t2 t3 t4:Bool}{a:Zp}{b:List Int}:∀(s0:Int) (r:(Unit⊕Unit)),lp (Zhj a b) s0=some r→lpW ctx 0 [1,2,7,8,9] [1,4] ZzV [(.d (D.list t4 (List.map Ze b))),(.ptr 0 0),(.d (D.list t4 (List.map Ze b))),(.d (Ze (b.length:Int))),(.d (Ze s0))] [(.cells (dV t0 t1 t2 t3 a))]=some ((ZmO t0 t1 t2 t3 t4 a b) r):=by
 refine Zah (ZmO t0 t1 t2 t3 t4 a b) ?_
 intro s0 rcl ih
 show ZN _ _ (lpW _ _ _ _ _ _ _)
 unfold Zhj
 rw[Zai]
 conv=>rhs;whnf
 refine Zf rfl ?_ ?_<;>conv=>rhs;whnf
 ·refine Zk rfl rfl fun x1 hx1=>?_;conv=>rhs;whnf
  refine Zm (ZK _ _) ?_;conv=>rhs;whnf
  refine Zq _ ZcX rfl fun x2 hx2=>?_;conv=>rhs;whnf
  refine Zf rfl ?_ ?_<;>conv=>rhs;whnf
  ·refine Zf rfl ?_ ?_<;>conv=>rhs;whnf
   ·refine Zk rfl rfl fun x3 hx3=>?_;conv=>rhs;whnf
    refine Zf rfl ?_ ?_<;>conv=>rhs;whnf
    ·exact Zh rfl
    ·exact Zd (ih _)
   ·exact Zd (ih _)
  ·exact Zh rfl
 ·exact Zh rfl
theorem ZoY {t0 t1:Bool}{t2 t3 t4:Bool}{a:Zp}{b:List Int}:∀r,(Zjh a b)=some r→evD ctx 46 [(.d (D.agg (dA t0 t1 t2 t3 a))),(.d (D.list t4 (List.map Ze b)))]=some (Zp1 r):=by
 show ZN _ (fun r rhs=>rhs=some (Zp1 r)) _
 unfold Zjh
 rw[Zbj ctx 46 ZEn _ rfl rfl]
 conv=>rhs;whnf
 refine Zm (ZK _ _) ?_;conv=>rhs;whnf
 refine Zc _ (Zq8 _) fun r4 hr4=>?_
 clear hr4
 rcases r4 with r4 | r4
 ·conv=>rhs;whnf
  exact Zh rfl
 ·conv=>rhs;whnf
  refine Zm (ZK _ _) ?_;conv=>rhs;whnf
  refine Zf rfl ?_ ?_<;>conv=>rhs;whnf
  ·exact Zh rfl
  ·exact Zh rfl
def ZhL (r:Int):D:=(Ze r)
def Zg0 (t0:Bool) (a:List Int) (b:Int):(Int⊕Unit)→Ex×List V×Zs
  | (.inl r)=>(.ret,[(.d (Ze r))],[])
  | (.inr r)=>(.exit 0,[.bad],[])
theorem Zjc {t0:Bool}{a:List Int}{b:Int}:∀(s0:Int) (r:(Int⊕Unit)),lp (Zcx a b) s0=some r→lpW ctx 0 [0,1,7,8] [4] ZAB [(.d (D.list t0 (List.map Ze a))),(.d (Ze b)),(.d (Ze (a.length:Int))),(.d (Ze s0))] []=some ((Zg0 t0 a b) r):=by
 refine Zah (Zg0 t0 a b) ?_
 intro s0 rcl ih
 show ZN _ _ (lpW _ _ _ _ _ _ _)
 unfold Zcx
 rw[Zai]
 conv=>rhs;whnf
 refine Zf rfl ?_ ?_<;>conv=>rhs;whnf
 ·refine Zk rfl rfl fun x1 hx1=>?_;conv=>rhs;whnf
  refine Zf rfl ?_ ?_<;>conv=>rhs;whnf
  ·exact Zh rfl
  ·exact Zd (ih _)
 ·exact Zh rfl
theorem Zkg {t0:Bool}{a:List Int}{b:Int}:∀r,(Zeq a b)=some r→evD ctx 72 [(.d (D.list t0 (List.map Ze a))),(.d (Ze b))]=some (ZhL r):=by
 show ZN _ (fun r rhs=>rhs=some (ZhL r)) _
 unfold Zeq
 rw[Zbj ctx 72 ZDo _ rfl rfl]
 conv=>rhs;whnf
 refine Zm (ZK _ _) ?_;conv=>rhs;whnf
 refine Zc _ (Zjc _) fun r2 hr2=>?_
 clear hr2
 rcases r2 with r2 | r2
 ·conv=>rhs;whnf
  exact Zh rfl
 ·conv=>rhs;whnf
  exact Zh rfl
def ZgX (r:Bool):D:=(D.bool r)
theorem Zji {t0:Bool}{a:List Int}{b:Int}:∀r,(Zcw a b)=some r→evD ctx 45 [(.d (D.list t0 (List.map Ze a))),(.d (Ze b))]=some (ZgX r):=by
 show ZN _ (fun r rhs=>rhs=some (ZgX r)) _
 unfold Zcw
 rw[Zbj ctx 45 ZEm _ rfl rfl]
 conv=>rhs;whnf
 refine Zq _ Zkg rfl fun x0 hx0=>?_;conv=>rhs;whnf
 refine Zf rfl ?_ ?_<;>conv=>rhs;whnf
 ·exact Zh rfl
 ·exact Zh rfl
def Zmd (r:Bool):D:=(D.bool r)
theorem ZpZ {t0 t1:Bool}{a:Int}{b0:List Int}{b1:List Int}:∀r,(ZeD a b1)=some r→evD ctx 44 [(.d (Ze a)),(.d (D.rptr [(D.list t0 (List.map Ze b0)),(D.list t1 (List.map Ze b1))]))]=some (Zmd r):=by
 show ZN _ (fun r rhs=>rhs=some (Zmd r)) _
 unfold ZeD
 rw[Zbj ctx 44 ZEJ _ rfl rfl]
 conv=>rhs;whnf
 refine Zq _ Zji rfl fun x0 hx0=>?_;conv=>rhs;whnf
 refine Zf rfl ?_ ?_<;>conv=>rhs;whnf
 ·exact Zh rfl
 ·exact Zh rfl
def Zdx (r:Int):D:=(Ze r)
def Zc6 (t0:Bool) (t1:Bool) (t2:Bool) (a:List Int) (b0:List Int) (b1:List Int):(Int⊕Unit)→Ex×List V×Zs
  | (.inl r)=>(.ret,[(.d (Ze r))],[])
  | (.inr r)=>(.exit 0,[.bad],[])
theorem Zf3 {t0 t1 t2:Bool}{a:List Int}{b0:List Int}{b1:List Int}:∀(s0:Int) (r:(Int⊕Unit)),lp (Zbc a (fun z0=>ZeD z0 b1)) s0=some r→lpW ctx 0 [0,1,7,8] [4] Zxc [(.d (D.list t0 (List.map Ze a))),(.d (D.fn 44 [(D.rptr [(D.list t1 (List.map Ze b0)),(D.list t2 (List.map Ze b1))])])),(.d (Ze (a.length:Int))),(.d (Ze s0))] []=some ((Zc6 t0 t1 t2 a b0 b1) r):=by
 refine Zah (Zc6 t0 t1 t2 a b0 b1) ?_
 intro s0 rcl ih
 show ZN _ _ (lpW _ _ _ _ _ _ _)
 unfold Zbc
 rw[Zai]
 conv=>rhs;whnf
 refine Zf rfl ?_ ?_<;>conv=>rhs;whnf
 ·refine Zk rfl rfl fun x1 hx1=>?_;conv=>rhs;whnf
  refine Zq _ ZpZ rfl fun x2 hx2=>?_;conv=>rhs;whnf
  refine Zf rfl ?_ ?_<;>conv=>rhs;whnf
  ·exact Zh rfl
  ·exact Zd (ih _)
 ·exact Zh rfl
theorem ZgB {t0 t1 t2:Bool}{a:List Int}{b0:List Int}{b1:List Int}:∀r,(ZbL a (fun z0=>ZeD z0 b1))=some r→evD ctx 73 [(.d (D.list t0 (List.map Ze a))),(.d (D.fn 44 [(D.rptr [(D.list t1 (List.map Ze b0)),(D.list t2 (List.map Ze b1))])]))]=some (Zdx r):=by
 show ZN _ (fun r rhs=>rhs=some (Zdx r)) _
 unfold ZbL
 rw[Zbj ctx 73 ZB6 _ rfl rfl]
 conv=>rhs;whnf
 refine Zm (ZK _ _) ?_;conv=>rhs;whnf
 refine Zc _ (Zf3 _) fun r3 hr3=>?_
 clear hr3
 rcases r3 with r3 | r3
 ·conv=>rhs;whnf
  exact Zh rfl
 ·conv=>rhs;whnf
  exact Zh rfl
def Zc7 (r:Bool):D:=(D.bool r)
theorem Zf6 {t0 t1 t2:Bool}{a:List Int}{b0:List Int}{b1:List Int}:∀r,(ZaP a (fun z0=>ZeD z0 b1))=some r→evD ctx 47 [(.d (D.list t0 (List.map Ze a))),(.d (D.fn 44 [(D.rptr [(D.list t1 (List.map Ze b0)),(D.list t2 (List.map Ze b1))])]))]=some (Zc7 r):=by
 show ZN _ (fun r rhs=>rhs=some (Zc7 r)) _
 unfold ZaP
 rw[Zbj ctx 47 ZB2 _ rfl rfl]
 conv=>rhs;whnf
 refine Zq _ ZgB rfl fun x0 hx0=>?_;conv=>rhs;whnf
 refine Zf rfl ?_ ?_<;>conv=>rhs;whnf
 ·exact Zh rfl
 ·exact Zh rfl
def ZnT (r:Int):D:=(Ze r)
def Zlm (t0:Bool) (t1:Bool) (t2:Bool) (t3:Bool) (a:Zp):(Unit⊕Unit)→Ex×List V×Zs
  | (.inl r)=>(.ret,[(.ptr 0 0),(.d (Ze 53))],[(.cells (dV t0 t1 t2 t3 a))])
  | (.inr r)=>(.exit 0,[(.ptr 0 0),.bad],[(.cells (dV t0 t1 t2 t3 a))])
theorem Zpc {t0 t1:Bool}{t2 t3:Bool}{a:Zp}:∀(s4:Int) (r:(Unit⊕Unit)),lp (ZeR a) s4=some r→lpW ctx 0 [1,61,62,63] [1,2] Zz5 [(.ptr 0 0),(.d (D.list t1 (List.map ZA a.edges))),(.d (Ze (a.edges.length:Int))),(.d (Ze s4))] [(.cells (dV t0 t1 t2 t3 a))]=some ((Zlm t0 t1 t2 t3 a) r):=by
 refine Zah (Zlm t0 t1 t2 t3 a) ?_
 intro s4 rcl ih
 show ZN _ _ (lpW _ _ _ _ _ _ _)
 unfold ZeR
 rw[Zai]
 conv=>rhs;whnf
 refine Zf rfl ?_ ?_<;>conv=>rhs;whnf
 ·refine Zk rfl rfl fun x5 hx5=>?_;conv=>rhs;whnf
  refine Zq _ ZoQ rfl fun x6 hx6=>?_;conv=>rhs;whnf
  refine Zf rfl ?_ ?_<;>conv=>rhs;whnf
  ·refine Zf rfl ?_ ?_
   ·conv=>rhs;whnf
    refine Zf (ZAn ZA a.edges s4.toNat) ?_ ?_
    ·conv=>rhs;whnf
     refine Zbl rfl ?_;conv=>rhs;whnf
     refine Zm (Zu3 ZA a.edges s4.toNat) ?_;conv=>rhs;whnf
     refine Zq _ Zgh rfl fun x7 hx7=>?_;conv=>rhs;whnf
     refine Zf rfl ?_ ?_<;>conv=>rhs;whnf
     ·exact Zh rfl
     ·exact Zd (ih _)
    ·exact ZaH
   ·exact ZaH
  ·exact Zh rfl
 ·exact Zh rfl
def Zlp (t0:Bool) (t1:Bool) (t2:Bool) (t3:Bool) (a:Zp):(Unit⊕Unit)→Ex×List V×Zs
  | (.inl r)=>(.ret,[(.ptr 0 0),(.d (Ze 54))],[(.cells (dV t0 t1 t2 t3 a))])
  | (.inr r)=>(.exit 2,[(.ptr 0 0),.bad],[(.cells (dV t0 t1 t2 t3 a))])
theorem Zpr {t0 t1:Bool}{t2 t3:Bool}{a:Zp}:∀(s9:Int) (r:(Unit⊕Unit)),lp (ZeV a) s9=some r→lpW ctx 0 [1,85,86,87] [1,2] Zzx [(.ptr 0 0),(.d (D.list t2 (List.map Zv a.futures))),(.d (Ze (a.futures.length:Int))),(.d (Ze s9))] [(.cells (dV t0 t1 t2 t3 a))]=some ((Zlp t0 t1 t2 t3 a) r):=by
 refine Zah (Zlp t0 t1 t2 t3 a) ?_
 intro s9 rcl ih
 show ZN _ _ (lpW _ _ _ _ _ _ _)
 unfold ZeV
 rw[Zai]
 conv=>rhs;whnf
 refine Zf rfl ?_ ?_<;>conv=>rhs;whnf
 ·refine Zk rfl rfl fun x10 hx10=>?_;conv=>rhs;whnf
  refine Zq _ ZoQ rfl fun x11 hx11=>?_;conv=>rhs;whnf
  refine Zf rfl ?_ ?_<;>conv=>rhs;whnf
  ·refine Zk rfl rfl fun x12 hx12=>?_;conv=>rhs;whnf
   refine Zq _ ZcX rfl fun x13 hx13=>?_;conv=>rhs;whnf
   refine Zf rfl ?_ ?_<;>conv=>rhs;whnf
   ·refine Zf rfl ?_ ?_
    ·conv=>rhs;whnf
     refine Zf (ZAn Zv a.futures s9.toNat) ?_ ?_
     ·conv=>rhs;whnf
      refine Zbl rfl ?_;conv=>rhs;whnf
      refine Zm (Zu3 Zv a.futures s9.toNat) ?_;conv=>rhs;whnf
      refine Zq _ ZeQ rfl fun x14 hx14=>?_;conv=>rhs;whnf
      refine Zf rfl ?_ ?_<;>conv=>rhs;whnf
      ·exact Zh rfl
      ·exact Zd (ih _)
     ·exact ZaH
    ·exact ZaH
   ·exact Zh rfl
  ·exact Zh rfl
 ·exact Zh rfl
def Zln (t0:Bool) (t1:Bool) (t2:Bool) (t3:Bool) (a:Zp):(Unit⊕Unit)→Ex×List V×Zs
  | (.inl r)=>(.ret,[(.d (Ze 55))],[])
  | (.inr r)=>(.exit 4,[.bad],[])
theorem Zpo {t0 t1:Bool}{t2 t3:Bool}{a:Zp}:∀(s16:Int) (r:(Unit⊕Unit)),lp (ZeT a) s16=some r→lpW ctx 0 [1,124,125,126] [2] ZA2 [(.ptr 0 0),(.d (D.list t3 (List.map ZD a.barriers))),(.d (Ze (a.barriers.length:Int))),(.d (Ze s16))] [(.cells (dV t0 t1 t2 t3 a))]=some ((Zln t0 t1 t2 t3 a) r):=by
 refine Zah (Zln t0 t1 t2 t3 a) ?_
 intro s16 rcl ih
 show ZN _ _ (lpW _ _ _ _ _ _ _)
 unfold ZeT
 rw[Zai]
 conv=>rhs;whnf
 refine Zf rfl ?_ ?_<;>conv=>rhs;whnf
 ·refine Zk rfl rfl fun x17 hx17=>?_;conv=>rhs;whnf
  refine Zq _ ZoY rfl fun x18 hx18=>?_;conv=>rhs;whnf
  refine Zf rfl ?_ ?_<;>conv=>rhs;whnf
  ·refine Zq _ ZoY rfl fun x19 hx19=>?_;conv=>rhs;whnf
   refine Zf rfl ?_ ?_<;>conv=>rhs;whnf
   ·refine Zq _ Zf6 rfl fun x20 hx20=>?_;conv=>rhs;whnf
    refine Zf rfl ?_ ?_<;>conv=>rhs;whnf
    ·exact Zh rfl
    ·exact Zd (ih _)
   ·exact Zh rfl
  ·exact Zh rfl
 ·exact Zh rfl
theorem ZmY {t0 t1:Bool}{t2 t3:Bool}{a:Zp}:∀r,(ZhT a)=some r→evD ctx 24 [(.d (D.agg (dA t0 t1 t2 t3 a)))]=some (ZnT r):=by
 show ZN _ (fun r rhs=>rhs=some (ZnT r)) _
 unfold ZhT
 rw[Zbj ctx 24 ZDD _ rfl rfl]
 conv=>rhs;whnf
 refine Zm (ZK _ _) ?_;conv=>rhs;whnf
 refine Zq _ ZcX rfl fun x0 hx0=>?_;conv=>rhs;whnf
 refine Zf rfl ?_ ?_<;>conv=>rhs;whnf
 ·refine Zm (ZK _ _) ?_;conv=>rhs;whnf
  refine Zf rfl ?_ ?_<;>conv=>rhs;whnf
  ·exact Zh rfl
  ·refine Zm (ZK _ _) ?_;conv=>rhs;whnf
   refine Zf rfl ?_ ?_<;>conv=>rhs;whnf
   ·exact Zh rfl
   ·refine Zm (ZK _ _) ?_;conv=>rhs;whnf
    refine Zf rfl ?_ ?_<;>conv=>rhs;whnf
    ·exact Zh rfl
    ·refine Zq _ Zp2 rfl fun x1 hx1=>?_;conv=>rhs;whnf
     refine Zf rfl ?_ ?_<;>conv=>rhs;whnf
     ·refine Zf rfl ?_ ?_<;>conv=>rhs;whnf
      ·exact Zh rfl
      ·refine Zq _ ZcX rfl fun x2 hx2=>?_;conv=>rhs;whnf
       refine Zf rfl ?_ ?_<;>conv=>rhs;whnf
       ·refine Zq _ Zgk rfl fun x3 hx3=>?_;conv=>rhs;whnf
        refine Zf rfl ?_ ?_<;>conv=>rhs;whnf
        ·exact Zh rfl
        ·refine Zm (ZK _ _) ?_;conv=>rhs;whnf
         refine Zc _ (Zpc _) fun r8 hr8=>?_
         clear hr8
         rcases r8 with r8 | r8
         ·conv=>rhs;whnf
          exact Zh rfl
         ·conv=>rhs;whnf
          refine Zm (ZK _ _) ?_;conv=>rhs;whnf
          refine Zc _ (Zpr _) fun r15 hr15=>?_
          clear hr15
          rcases r15 with r15 | r15
          ·conv=>rhs;whnf
           exact Zh rfl
          ·conv=>rhs;whnf
           refine Zm (ZK _ _) ?_;conv=>rhs;whnf
           refine Zc _ (Zpo _) fun r21 hr21=>?_
           clear hr21
           rcases r21 with r21 | r21
           ·conv=>rhs;whnf
            exact Zh rfl
           ·conv=>rhs;whnf
            exact Zh rfl
       ·exact Zh rfl
     ·exact Zh rfl
 ·exact Zh rfl
def ZkG (r:Int):D:=(Ze r)
theorem ZS {t0 t1:Bool}{t2 t3:Bool}{a b:Int}{c0 c1:Int}{c2:List Zas}{c3:List Zo}{c4:List Zl}{c5:List Zw}:∀r,(Zz a b c4)=some r→evD ctx 75 [(.d (Ze a)),(.d (Ze b)),(.d (D.rptr [(Ze c0),(Ze c1),(D.list t0 (List.map ZaC c2)),(D.list t1 (List.map ZA c3)),(D.list t2 (List.map Zv c4)),(D.list t3 (List.map ZD c5))]))]=some (ZkG r):=by
 show ZN _ (fun r rhs=>rhs=some (ZkG r)) _
 unfold Zz
 rw[Zbj ctx 75 ZD5 _ rfl rfl]
 conv=>rhs;whnf
 refine Zk rfl rfl fun x0 hx0=>?_;conv=>rhs;whnf
 refine Zk rfl rfl fun x1 hx1=>?_;conv=>rhs;whnf
 exact Zh rfl
def Zj2 (r:Int):D:=(Ze r)
theorem Znq {a:Int}:∀r,(ZiX a)=some r→evD ctx 95 [(.d (D.int .u64 a))]=some (Zj2 r):=by
 show ZN _ (fun r rhs=>rhs=some (Zj2 r)) _
 unfold ZiX
 rw[Zbj ctx 95 ZEo _ rfl rfl]
 conv=>rhs;whnf
 refine Zf rfl ?_ ?_<;>conv=>rhs;whnf
 ·refine ZV rfl ?_;conv=>rhs;whnf
  refine Zf rfl ?_ ?_<;>conv=>rhs;whnf
  ·refine ZV rfl ?_;conv=>rhs;whnf
   refine Zf rfl ?_ ?_<;>conv=>rhs;whnf
   ·refine ZV rfl ?_;conv=>rhs;whnf
    refine Zf rfl ?_ ?_
    ·conv=>rhs;whnf
     refine Zju rfl fun x0 hx0=>?_;conv=>rhs;whnf
     exact Zh rfl
    ·exact ZaH
   ·refine Zf rfl ?_ ?_
    ·conv=>rhs;whnf
     refine Zju rfl fun x1 hx1=>?_;conv=>rhs;whnf
     exact Zh rfl
    ·exact ZaH
  ·refine Zf rfl ?_ ?_<;>conv=>rhs;whnf
   ·refine ZV rfl ?_;conv=>rhs;whnf
    refine Zf rfl ?_ ?_
    ·conv=>rhs;whnf
     refine Zju rfl fun x2 hx2=>?_;conv=>rhs;whnf
     exact Zh rfl
    ·exact ZaH
   ·refine Zf rfl ?_ ?_
    ·conv=>rhs;whnf
     refine Zju rfl fun x3 hx3=>?_;conv=>rhs;whnf
     exact Zh rfl
    ·exact ZaH
 ·refine Zf rfl ?_ ?_<;>conv=>rhs;whnf
  ·refine ZV rfl ?_;conv=>rhs;whnf
   refine Zf rfl ?_ ?_<;>conv=>rhs;whnf
   ·refine ZV rfl ?_;conv=>rhs;whnf
    refine Zf rfl ?_ ?_
    ·conv=>rhs;whnf
     refine Zju rfl fun x4 hx4=>?_;conv=>rhs;whnf
     exact Zh rfl
    ·exact ZaH
   ·refine Zf rfl ?_ ?_
    ·conv=>rhs;whnf
     refine Zju rfl fun x5 hx5=>?_;conv=>rhs;whnf
     exact Zh rfl
    ·exact ZaH
  ·refine Zf rfl ?_ ?_<;>conv=>rhs;whnf
   ·refine ZV rfl ?_;conv=>rhs;whnf
    refine Zf rfl ?_ ?_
    ·conv=>rhs;whnf
     refine Zju rfl fun x6 hx6=>?_;conv=>rhs;whnf
     exact Zh rfl
    ·exact ZaH
   ·refine Zf rfl ?_ ?_
    ·conv=>rhs;whnf
     refine Zju rfl fun x7 hx7=>?_;conv=>rhs;whnf
     exact Zh rfl
    ·exact ZaH
def Zlg (r:Int):D:=(Ze r)
theorem ZiB {a:Int}:∀r,(ZeY a)=some r→evD ctx 84 [(.d (D.int .u64 a))]=some (Zlg r):=by
 show ZN _ (fun r rhs=>rhs=some (Zlg r)) _
 unfold ZeY
 rw[Zbj ctx 84 ZEB _ rfl rfl]
 conv=>rhs;whnf
 refine Zq _ Znq rfl fun x0 hx0=>?_;conv=>rhs;whnf
 exact Zh rfl
def ZcG (t0:Bool) (t1:Bool) (t2:Bool) (t3:Bool) (b:Int) (c:Int) (m0_0:List Int) (m1_0:Int) (m1_1:Int) (m1_2:List Zas) (m1_3:List Zo) (m1_4:List Zl) (m1_5:List Zw):(List Int)→V×Zs
  | r=>((.d (D.tup [])),[(.arr 1 (List.map Ze r)),(.cells [(.d (Ze m1_0)),(.d (Ze m1_1)),(.d (D.list t0 (List.map ZaC m1_2))),(.d (D.list t1 (List.map ZA m1_3))),(.d (D.list t2 (List.map Zv m1_4))),(.d (D.list t3 (List.map ZD m1_5)))])])
def Zcm (t0:Bool) (t1:Bool) (t2:Bool) (t3:Bool) (b:Int) (c:Int) (m1_0:Int) (m1_1:Int) (m1_2:List Zas) (m1_3:List Zo) (m1_4:List Zl) (m1_5:List Zw) (s0:Int×(List Int)):(List Int)→Ex×List V×Zs
  | r=>(.exit 2,[(.sl 0 1),(.d (Ze b)),(.d (Ze c)),(.fn 75 [(.ptr 1 0)]),(.d (Ze s0.1))],[(.arr 1 (List.map Ze r)),(.cells [(.d (Ze m1_0)),(.d (Ze m1_1)),(.d (D.list t0 (List.map ZaC m1_2))),(.d (D.list t1 (List.map ZA m1_3))),(.d (D.list t2 (List.map Zv m1_4))),(.d (D.list t3 (List.map ZD m1_5)))])])
theorem ZeE {t0 t1:Bool}{t2 t3:Bool}{b c:Int}{m1_0 m1_1:Int}{m1_2:List Zas}{m1_3:List Zo}{m1_4:List Zl}{m1_5:List Zw}{s0:Int×(List Int)}:∀(s1:Int×(List Int)) (r:List Int),lp (Z6 b (fun z0 z1=>Zz z0 z1 m1_4)) s1=some r→lpW ctx 2 [0,1,2,3,8,9] [0,1,2,3,8] Zzo [(.sl 0 1),(.d (Ze b)),(.d (Ze c)),(.fn 75 [(.ptr 1 0)]),(.d (Ze s0.1)),(.d (Ze s1.1))] [(.arr 1 (List.map Ze s1.2)),(.cells [(.d (Ze m1_0)),(.d (Ze m1_1)),(.d (D.list t0 (List.map ZaC m1_2))),(.d (D.list t1 (List.map ZA m1_3))),(.d (D.list t2 (List.map Zv m1_4))),(.d (D.list t3 (List.map ZD m1_5)))])]=some ((Zcm t0 t1 t2 t3 b c m1_0 m1_1 m1_2 m1_3 m1_4 m1_5 s0) r):=by
 refine Zah (Zcm t0 t1 t2 t3 b c m1_0 m1_1 m1_2 m1_3 m1_4 m1_5 s0) ?_
 intro s1 rcl ih
 show ZN _ _ (lpW _ _ _ _ _ _ _)
 unfold Z6
 rw[Zai]
 conv=>rhs;whnf
 refine Zf rfl ?_ ?_<;>conv=>rhs;whnf
 ·refine Zk rfl rfl fun x2 hx2=>?_;conv=>rhs;whnf
  refine Zg (Zn rfl hx2) ?_;conv=>rhs;whnf
  refine Zk rfl rfl fun x3 hx3=>?_;conv=>rhs;whnf
  refine Zg (Zn rfl hx3) ?_;conv=>rhs;whnf
  refine Zq _ ZS rfl fun x4 hx4=>?_;conv=>rhs;whnf
  refine Zf rfl ?_ ?_<;>conv=>rhs;whnf
  ·refine Zg (Zam rfl hx3) ?_;conv=>rhs;whnf
   refine Zg (Zn rfl hx3) ?_;conv=>rhs;whnf
   refine Zg (Zam rfl hx2) ?_;conv=>rhs;whnf
   refine Zg (Zn rfl hx2) ?_;conv=>rhs;whnf
   refine Zg (Zam rfl hx2) ?_;conv=>rhs;whnf
   refine Zg (Zn rfl hx2) ?_;conv=>rhs;whnf
   refine Zm (ZZ Ze s1.2 s1.1.toNat x3) ?_;conv=>rhs;whnf
   refine Zk rfl rfl fun x5 hx5=>?_;conv=>rhs;whnf
   refine Zg (Zn rfl hx5) ?_;conv=>rhs;whnf
   refine Zm (ZZ Ze (List.set s1.2 s1.1.toNat x3) (w64 (s1.1-1)).toNat x2) ?_;conv=>rhs;whnf
   exact Zd (ih _)
  ·exact Zh rfl
 ·exact Zh rfl
def Zco (t0:Bool) (t1:Bool) (t2:Bool) (t3:Bool) (b:Int) (c:Int) (m1_0:Int) (m1_1:Int) (m1_2:List Zas) (m1_3:List Zo) (m1_4:List Zl) (m1_5:List Zw):(List Int)→Ex×List V×Zs
  | r=>(.exit 0,[],[(.arr 1 (List.map Ze r)),(.cells [(.d (Ze m1_0)),(.d (Ze m1_1)),(.d (D.list t0 (List.map ZaC m1_2))),(.d (D.list t1 (List.map ZA m1_3))),(.d (D.list t2 (List.map Zv m1_4))),(.d (D.list t3 (List.map ZD m1_5)))])])
theorem ZeF {t0 t1:Bool}{t2 t3:Bool}{b c:Int}{m1_0 m1_1:Int}{m1_2:List Zas}{m1_3:List Zo}{m1_4:List Zl}{m1_5:List Zw}:∀(s0:Int×(List Int)) (r:List Int),lp (Zaq b c (fun z0 z1=>Zz z0 z1 m1_4)) s0=some r→lpW ctx 2 [0,1,2,3,8] [] ZAu [(.sl 0 1),(.d (Ze b)),(.d (Ze c)),(.fn 75 [(.ptr 1 0)]),(.d (Ze s0.1))] [(.arr 1 (List.map Ze s0.2)),(.cells [(.d (Ze m1_0)),(.d (Ze m1_1)),(.d (D.list t0 (List.map ZaC m1_2))),(.d (D.list t1 (List.map ZA m1_3))),(.d (D.list t2 (List.map Zv m1_4))),(.d (D.list t3 (List.map ZD m1_5)))])]=some ((Zco t0 t1 t2 t3 b c m1_0 m1_1 m1_2 m1_3 m1_4 m1_5) r):=by
 refine Zah (Zco t0 t1 t2 t3 b c m1_0 m1_1 m1_2 m1_3 m1_4 m1_5) ?_
 intro s0 rcl ih
 show ZN _ _ (lpW _ _ _ _ _ _ _)
 unfold Zaq
 rw[Zai]
 conv=>rhs;whnf
 refine Zf rfl ?_ ?_<;>conv=>rhs;whnf
 ·refine Zc _ (ZeE _) fun r6 hr6=>?_;conv=>rhs;whnf
  exact Zd (ih _)
 ·exact Zh rfl
theorem ZaX {t0 t1:Bool}{t2 t3:Bool}{b c:Int}{m0_0:List Int}{m1_0 m1_1:Int}{m1_2:List Zas}{m1_3:List Zo}{m1_4:List Zl}{m1_5:List Zw}:∀r,(Z7 b c (fun z0 z1=>Zz z0 z1 m1_4) m0_0)=some r→evW ctx 86 [(.sl 0 1),(.d (Ze b)),(.d (Ze c)),(.fn 75 [(.ptr 1 0)])] [(.arr 1 (List.map Ze m0_0)),(.cells [(.d (Ze m1_0)),(.d (Ze m1_1)),(.d (D.list t0 (List.map ZaC m1_2))),(.d (D.list t1 (List.map ZA m1_3))),(.d (D.list t2 (List.map Zv m1_4))),(.d (D.list t3 (List.map ZD m1_5)))])]=some ((ZcG t0 t1 t2 t3 b c m0_0 m1_0 m1_1 m1_2 m1_3 m1_4 m1_5) r):=by
 show ZN _ (fun r rhs=>rhs=some ((ZcG t0 t1 t2 t3 b c m0_0 m1_0 m1_1 m1_2 m1_3 m1_4 m1_5) r)) _
 unfold Z7
 rw[ZeK ctx 86 ZEC _ _ rfl rfl]
 conv=>rhs;whnf
 refine Zc _ (ZeF _) fun r7 hr7=>?_;conv=>rhs;whnf
 exact Zh rfl
def Zdn (t0:Bool) (t1:Bool) (t2:Bool) (t3:Bool) (b:Int) (c:Int) (d:Int) (m0_0:List Int) (m1_0:Int) (m1_1:Int) (m1_2:List Zas) (m1_3:List Zo) (m1_4:List Zl) (m1_5:List Zw):(List Int)→V×Zs
  | r=>((.d (D.tup [])),[(.arr 1 (List.map Ze r)),(.cells [(.d (Ze m1_0)),(.d (Ze m1_1)),(.d (D.list t0 (List.map ZaC m1_2))),(.d (D.list t1 (List.map ZA m1_3))),(.d (D.list t2 (List.map Zv m1_4))),(.d (D.list t3 (List.map ZD m1_5)))])])
def ZcV (t0:Bool) (t1:Bool) (t2:Bool) (t3:Bool) (c:Int) (d:Int) (m1_0:Int) (m1_1:Int) (m1_2:List Zas) (m1_3:List Zo) (m1_4:List Zl) (m1_5:List Zw):((List Int)⊕(List Int))→Ex×List V×Zs
  | (.inl r)=>(.exit 0,[],[(.arr 1 (List.map Ze r)),(.cells [(.d (Ze m1_0)),(.d (Ze m1_1)),(.d (D.list t0 (List.map ZaC m1_2))),(.d (D.list t1 (List.map ZA m1_3))),(.d (D.list t2 (List.map Zv m1_4))),(.d (D.list t3 (List.map ZD m1_5)))])])
  | (.inr r)=>(.ret,[],[(.arr 1 (List.map Ze r)),(.cells [(.d (Ze m1_0)),(.d (Ze m1_1)),(.d (D.list t0 (List.map ZaC m1_2))),(.d (D.list t1 (List.map ZA m1_3))),(.d (D.list t2 (List.map Zv m1_4))),(.d (D.list t3 (List.map ZD m1_5)))])])
theorem ZfG {t0 t1:Bool}{t2 t3:Bool}{c d:Int}{m1_0 m1_1:Int}{m1_2:List Zas}{m1_3:List Zo}{m1_4:List Zl}{m1_5:List Zw}:∀(s0:Int×(List Int)) (r:((List Int)⊕(List Int))),lp (ZR c d (fun z0 z1=>Zz z0 z1 m1_4)) s0=some r→lpW ctx 2 [0,2,3,4,10] [] ZxM [(.sl 0 1),(.d (Ze c)),(.d (Ze d)),(.fn 75 [(.ptr 1 0)]),(.d (Ze s0.1))] [(.arr 1 (List.map Ze s0.2)),(.cells [(.d (Ze m1_0)),(.d (Ze m1_1)),(.d (D.list t0 (List.map ZaC m1_2))),(.d (D.list t1 (List.map ZA m1_3))),(.d (D.list t2 (List.map Zv m1_4))),(.d (D.list t3 (List.map ZD m1_5)))])]=some ((ZcV t0 t1 t2 t3 c d m1_0 m1_1 m1_2 m1_3 m1_4 m1_5) r):=by
 refine Zah (ZcV t0 t1 t2 t3 c d m1_0 m1_1 m1_2 m1_3 m1_4 m1_5) ?_
 intro s0 rcl ih
 show ZN _ _ (lpW _ _ _ _ _ _ _)
 unfold ZR
 rw[Zai]
 conv=>rhs;whnf
 refine Zf rfl ?_ ?_<;>conv=>rhs;whnf
 ·exact Zh rfl
 ·refine Zf rfl ?_ ?_<;>conv=>rhs;whnf
  ·refine Zk rfl rfl fun x1 hx1=>?_;conv=>rhs;whnf
   refine Zg (Zn rfl hx1) ?_;conv=>rhs;whnf
   refine Zk rfl rfl fun x2 hx2=>?_;conv=>rhs;whnf
   refine Zg (Zn rfl hx2) ?_;conv=>rhs;whnf
   refine Zq _ ZS rfl fun x3 hx3=>?_;conv=>rhs;whnf
   refine Zf rfl ?_ ?_<;>conv=>rhs;whnf
   ·refine Zk rfl rfl fun x4 hx4=>?_;conv=>rhs;whnf
    refine Zg (Zn rfl hx4) ?_;conv=>rhs;whnf
    refine Zk rfl rfl fun x5 hx5=>?_;conv=>rhs;whnf
    refine Zg (Zn rfl hx5) ?_;conv=>rhs;whnf
    refine Zq _ ZS rfl fun x6 hx6=>?_;conv=>rhs;whnf
    refine Zf rfl ?_ ?_<;>conv=>rhs;whnf
    ·refine Zg (Zam rfl hx5) ?_;conv=>rhs;whnf
     refine Zg (Zn rfl hx5) ?_;conv=>rhs;whnf
     refine Zg (Zam rfl hx4) ?_;conv=>rhs;whnf
     refine Zg (Zn rfl hx4) ?_;conv=>rhs;whnf
     refine Zg (Zam rfl hx4) ?_;conv=>rhs;whnf
     refine Zg (Zn rfl hx4) ?_;conv=>rhs;whnf
     refine Zm (ZZ Ze s0.2 (w64 (d+s0.1)).toNat x5) ?_;conv=>rhs;whnf
     refine Zk rfl rfl fun x7 hx7=>?_;conv=>rhs;whnf
     refine Zg (Zn rfl hx7) ?_;conv=>rhs;whnf
     refine Zm (ZZ Ze (List.set s0.2 (w64 (d+s0.1)).toNat x5) (w64 (d+(w64 ((w64 ((w64 (2*s0.1))+1))+1)))).toNat x4) ?_;conv=>rhs;whnf
     exact Zd (ih _)
    ·exact Zh rfl
   ·refine Zk rfl rfl fun x8 hx8=>?_;conv=>rhs;whnf
    refine Zg (Zn rfl hx8) ?_;conv=>rhs;whnf
    refine Zg (Zam rfl hx1) ?_;conv=>rhs;whnf
    refine Zg (Zn rfl hx1) ?_;conv=>rhs;whnf
    refine Zq _ ZS rfl fun x9 hx9=>?_;conv=>rhs;whnf
    refine Zf rfl ?_ ?_<;>conv=>rhs;whnf
    ·refine Zg (Zam rfl hx1) ?_;conv=>rhs;whnf
     refine Zg (Zn rfl hx1) ?_;conv=>rhs;whnf
     refine Zg (Zam rfl hx8) ?_;conv=>rhs;whnf
     refine Zg (Zn rfl hx8) ?_;conv=>rhs;whnf
     refine Zg (Zam rfl hx8) ?_;conv=>rhs;whnf
     refine Zg (Zn rfl hx8) ?_;conv=>rhs;whnf
     refine Zm (ZZ Ze s0.2 (w64 (d+s0.1)).toNat x1) ?_;conv=>rhs;whnf
     refine Zk rfl rfl fun x10 hx10=>?_;conv=>rhs;whnf
     refine Zg (Zn rfl hx10) ?_;conv=>rhs;whnf
     refine Zm (ZZ Ze (List.set s0.2 (w64 (d+s0.1)).toNat x1) (w64 (d+(w64 ((w64 (2*s0.1))+1)))).toNat x8) ?_;conv=>rhs;whnf
     exact Zd (ih _)
    ·exact Zh rfl
  ·refine Zk rfl rfl fun x11 hx11=>?_;conv=>rhs;whnf
   refine Zg (Zn rfl hx11) ?_;conv=>rhs;whnf
   refine Zk rfl rfl fun x12 hx12=>?_;conv=>rhs;whnf
   refine Zg (Zn rfl hx12) ?_;conv=>rhs;whnf
   refine Zq _ ZS rfl fun x13 hx13=>?_;conv=>rhs;whnf
   refine Zf rfl ?_ ?_<;>conv=>rhs;whnf
   ·refine Zg (Zam rfl hx12) ?_;conv=>rhs;whnf
    refine Zg (Zn rfl hx12) ?_;conv=>rhs;whnf
    refine Zg (Zam rfl hx11) ?_;conv=>rhs;whnf
    refine Zg (Zn rfl hx11) ?_;conv=>rhs;whnf
    refine Zg (Zam rfl hx11) ?_;conv=>rhs;whnf
    refine Zg (Zn rfl hx11) ?_;conv=>rhs;whnf
    refine Zm (ZZ Ze s0.2 (w64 (d+s0.1)).toNat x12) ?_;conv=>rhs;whnf
    refine Zk rfl rfl fun x14 hx14=>?_;conv=>rhs;whnf
    refine Zg (Zn rfl hx14) ?_;conv=>rhs;whnf
    refine Zm (ZZ Ze (List.set s0.2 (w64 (d+s0.1)).toNat x12) (w64 (d+(w64 ((w64 (2*s0.1))+1)))).toNat x11) ?_;conv=>rhs;whnf
    exact Zd (ih _)
   ·exact Zh rfl
theorem Zc5 {t0 t1:Bool}{t2 t3:Bool}{b c d:Int}{m0_0:List Int}{m1_0 m1_1:Int}{m1_2:List Zas}{m1_3:List Zo}{m1_4:List Zl}{m1_5:List Zw}:∀r,(ZaS b c d (fun z0 z1=>Zz z0 z1 m1_4) m0_0)=some r→evW ctx 105 [(.sl 0 1),(.d (Ze b)),(.d (Ze c)),(.d (Ze d)),(.fn 75 [(.ptr 1 0)])] [(.arr 1 (List.map Ze m0_0)),(.cells [(.d (Ze m1_0)),(.d (Ze m1_1)),(.d (D.list t0 (List.map ZaC m1_2))),(.d (D.list t1 (List.map ZA m1_3))),(.d (D.list t2 (List.map Zv m1_4))),(.d (D.list t3 (List.map ZD m1_5)))])]=some ((Zdn t0 t1 t2 t3 b c d m0_0 m1_0 m1_1 m1_2 m1_3 m1_4 m1_5) r):=by
 show ZN _ (fun r rhs=>rhs=some ((Zdn t0 t1 t2 t3 b c d m0_0 m1_0 m1_1 m1_2 m1_3 m1_4 m1_5) r)) _
 unfold ZaS
 rw[ZeK ctx 105 ZA7 _ _ rfl rfl]
 conv=>rhs;whnf
 refine Zc _ (ZfG _) fun r15 hr15=>?_
 clear hr15
 rcases r15 with r15 | r15
 ·conv=>rhs;whnf
  exact Zh rfl
 ·conv=>rhs;whnf
  exact Zh rfl
def Zdm (t0:Bool) (t1:Bool) (t2:Bool) (t3:Bool) (b:Int) (c:Int) (m0_0:List Int) (m1_0:Int) (m1_1:Int) (m1_2:List Zas) (m1_3:List Zo) (m1_4:List Zl) (m1_5:List Zw):(List Int)→V×Zs
  | r=>((.d (D.tup [])),[(.arr 1 (List.map Ze r)),(.cells [(.d (Ze m1_0)),(.d (Ze m1_1)),(.d (D.list t0 (List.map ZaC m1_2))),(.d (D.list t1 (List.map ZA m1_3))),(.d (D.list t2 (List.map Zv m1_4))),(.d (D.list t3 (List.map ZD m1_5)))])])
def ZcS (t0:Bool) (t1:Bool) (t2:Bool) (t3:Bool) (b:Int) (c:Int) (m1_0:Int) (m1_1:Int) (m1_2:List Zas) (m1_3:List Zo) (m1_4:List Zl) (m1_5:List Zw):(List Int)→Ex×List V×Zs
  | r=>(.exit 0,[(.sl 0 1),(.fn 75 [(.ptr 1 0)]),(.d (Ze b)),(.d (Ze 0)),(.d (Ze (w64 (c-b))))],[(.arr 1 (List.map Ze r)),(.cells [(.d (Ze m1_0)),(.d (Ze m1_1)),(.d (D.list t0 (List.map ZaC m1_2))),(.d (D.list t1 (List.map ZA m1_3))),(.d (D.list t2 (List.map Zv m1_4))),(.d (D.list t3 (List.map ZD m1_5)))])])
theorem ZfT {t0 t1:Bool}{t2 t3:Bool}{b c:Int}{m1_0 m1_1:Int}{m1_2:List Zas}{m1_3:List Zo}{m1_4:List Zl}{m1_5:List Zw}:∀(s0:Int×(List Int)) (r:List Int),lp (ZaO b c (fun z0 z1=>Zz z0 z1 m1_4)) s0=some r→lpW ctx 2 [0,3,8,9,10,11] [0,3,8,9,10] ZBg [(.sl 0 1),(.fn 75 [(.ptr 1 0)]),(.d (Ze b)),(.d (Ze 0)),(.d (Ze (w64 (c-b)))),(.d (Ze s0.1))] [(.arr 1 (List.map Ze s0.2)),(.cells [(.d (Ze m1_0)),(.d (Ze m1_1)),(.d (D.list t0 (List.map ZaC m1_2))),(.d (D.list t1 (List.map ZA m1_3))),(.d (D.list t2 (List.map Zv m1_4))),(.d (D.list t3 (List.map ZD m1_5)))])]=some ((ZcS t0 t1 t2 t3 b c m1_0 m1_1 m1_2 m1_3 m1_4 m1_5) r):=by
 refine Zah (ZcS t0 t1 t2 t3 b c m1_0 m1_1 m1_2 m1_3 m1_4 m1_5) ?_
 intro s0 rcl ih
 show ZN _ _ (lpW _ _ _ _ _ _ _)
 unfold ZaO
 rw[Zai]
 conv=>rhs;whnf
 refine Zf rfl ?_ ?_<;>conv=>rhs;whnf
 ·refine Zc _ Zc5 fun x1 hx1=>?_;conv=>rhs;whnf
  exact Zd (ih _)
 ·exact Zh rfl
def ZcT (t0:Bool) (t1:Bool) (t2:Bool) (t3:Bool) (b:Int) (m1_0:Int) (m1_1:Int) (m1_2:List Zas) (m1_3:List Zo) (m1_4:List Zl) (m1_5:List Zw):(List Int)→Ex×List V×Zs
  | r=>(.exit 2,[],[(.arr 1 (List.map Ze r)),(.cells [(.d (Ze m1_0)),(.d (Ze m1_1)),(.d (D.list t0 (List.map ZaC m1_2))),(.d (D.list t1 (List.map ZA m1_3))),(.d (D.list t2 (List.map Zv m1_4))),(.d (D.list t3 (List.map ZD m1_5)))])])
theorem ZfO {t0 t1:Bool}{t2 t3:Bool}{b m1_0 m1_1:Int}{m1_2:List Zas}{m1_3:List Zo}{m1_4:List Zl}{m1_5:List Zw}:∀(s3:Int×(List Int)) (r:List Int),lp (ZaR b (fun z0 z1=>Zz z0 z1 m1_4)) s3=some r→lpW ctx 2 [0,3,8,9,12] [] ZAx [(.sl 0 1),(.fn 75 [(.ptr 1 0)]),(.d (Ze b)),(.d (Ze 0)),(.d (Ze s3.1))] [(.arr 1 (List.map Ze s3.2)),(.cells [(.d (Ze m1_0)),(.d (Ze m1_1)),(.d (D.list t0 (List.map ZaC m1_2))),(.d (D.list t1 (List.map ZA m1_3))),(.d (D.list t2 (List.map Zv m1_4))),(.d (D.list t3 (List.map ZD m1_5)))])]=some ((ZcT t0 t1 t2 t3 b m1_0 m1_1 m1_2 m1_3 m1_4 m1_5) r):=by
 refine Zah (ZcT t0 t1 t2 t3 b m1_0 m1_1 m1_2 m1_3 m1_4 m1_5) ?_
 intro s3 rcl ih
 show ZN _ _ (lpW _ _ _ _ _ _ _)
 unfold ZaR
 rw[Zai]
 conv=>rhs;whnf
 refine Zf rfl ?_ ?_<;>conv=>rhs;whnf
 ·refine Zk rfl rfl fun x4 hx4=>?_;conv=>rhs;whnf
  refine Zg (Zn rfl hx4) ?_;conv=>rhs;whnf
  refine Zk rfl rfl fun x5 hx5=>?_;conv=>rhs;whnf
  refine Zg (Zn rfl hx5) ?_;conv=>rhs;whnf
  refine Zg (Zam rfl hx5) ?_;conv=>rhs;whnf
  refine Zg (Zn rfl hx5) ?_;conv=>rhs;whnf
  refine Zm (ZZ Ze s3.2 b.toNat x4) ?_;conv=>rhs;whnf
  refine Zk rfl rfl fun x6 hx6=>?_;conv=>rhs;whnf
  refine Zg (Zn rfl hx6) ?_;conv=>rhs;whnf
  refine Zm (ZZ Ze (List.set s3.2 b.toNat x4) (w64 (b+s3.1)).toNat x5) ?_;conv=>rhs;whnf
  refine Zc _ Zc5 fun x7 hx7=>?_;conv=>rhs;whnf
  exact Zd (ih _)
 ·exact Zh rfl
theorem Zbh {t0 t1:Bool}{t2 t3:Bool}{b c:Int}{m0_0:List Int}{m1_0 m1_1:Int}{m1_2:List Zas}{m1_3:List Zo}{m1_4:List Zl}{m1_5:List Zw}:∀r,(Zal b c (fun z0 z1=>Zz z0 z1 m1_4) m0_0)=some r→evW ctx 87 [(.sl 0 1),(.d (Ze b)),(.d (Ze c)),(.fn 75 [(.ptr 1 0)])] [(.arr 1 (List.map Ze m0_0)),(.cells [(.d (Ze m1_0)),(.d (Ze m1_1)),(.d (D.list t0 (List.map ZaC m1_2))),(.d (D.list t1 (List.map ZA m1_3))),(.d (D.list t2 (List.map Zv m1_4))),(.d (D.list t3 (List.map ZD m1_5)))])]=some ((Zdm t0 t1 t2 t3 b c m0_0 m1_0 m1_1 m1_2 m1_3 m1_4 m1_5) r):=by
 show ZN _ (fun r rhs=>rhs=some ((Zdm t0 t1 t2 t3 b c m0_0 m1_0 m1_1 m1_2 m1_3 m1_4 m1_5) r)) _
 unfold Zal
 rw[ZeK ctx 87 ZEw _ _ rfl rfl]
 conv=>rhs;whnf
 refine ZV rfl ?_;conv=>rhs;whnf
 refine Zc _ (ZfT _) fun r2 hr2=>?_;conv=>rhs;whnf
 refine Zc _ (ZfO _) fun r8 hr8=>?_;conv=>rhs;whnf
 exact Zh rfl
def ZdB (t0:Bool) (t1:Bool) (t2:Bool) (t3:Bool) (b:Int) (c:Int) (m0_0:List Int) (m1_0:Int) (m2_0:Int) (m2_1:Int) (m2_2:List Zas) (m2_3:List Zo) (m2_4:List Zl) (m2_5:List Zw):(Int×Int×Int)→V×Zs
  | r=>((.d (D.tup [(Ze r.1),(Ze r.2.1)])),[(.arr 1 (List.map Ze m0_0)),(.cells [(.d (Ze r.2.2))]),(.cells [(.d (Ze m2_0)),(.d (Ze m2_1)),(.d (D.list t0 (List.map ZaC m2_2))),(.d (D.list t1 (List.map ZA m2_3))),(.d (D.list t2 (List.map Zv m2_4))),(.d (D.list t3 (List.map ZD m2_5)))])])
theorem Zb2 {t0 t1:Bool}{t2 t3:Bool}{b c:Int}{m0_0:List Int}{m1_0 m2_0 m2_1:Int}{m2_2:List Zas}{m2_3:List Zo}{m2_4:List Zl}{m2_5:List Zw}:∀r,(Za7 b c (fun z0 z1=>Zz z0 z1 m2_4) m0_0 m1_0)=some r→evW ctx 114 [(.sl 0 1),(.d (Ze b)),(.d (Ze c)),(.ptr 1 0),(.fn 75 [(.ptr 2 0)])] [(.arr 1 (List.map Ze m0_0)),(.cells [(.d (Ze m1_0))]),(.cells [(.d (Ze m2_0)),(.d (Ze m2_1)),(.d (D.list t0 (List.map ZaC m2_2))),(.d (D.list t1 (List.map ZA m2_3))),(.d (D.list t2 (List.map Zv m2_4))),(.d (D.list t3 (List.map ZD m2_5)))])]=some ((ZdB t0 t1 t2 t3 b c m0_0 m1_0 m2_0 m2_1 m2_2 m2_3 m2_4 m2_5) r):=by
 show ZN _ (fun r rhs=>rhs=some ((ZdB t0 t1 t2 t3 b c m0_0 m1_0 m2_0 m2_1 m2_2 m2_3 m2_4 m2_5) r)) _
 unfold Za7
 rw[ZeK ctx 114 ZAc _ _ rfl rfl]
 conv=>rhs;whnf
 refine Zk rfl rfl fun x0 hx0=>?_;conv=>rhs;whnf
 refine Zg (Zn rfl hx0) ?_;conv=>rhs;whnf
 refine Zk rfl rfl fun x1 hx1=>?_;conv=>rhs;whnf
 refine Zg (Zn rfl hx1) ?_;conv=>rhs;whnf
 refine Zq _ ZS rfl fun x2 hx2=>?_;conv=>rhs;whnf
 refine Zf rfl ?_ ?_<;>conv=>rhs;whnf
 ·exact Zh rfl
 ·exact Zh rfl
def ZdA (t0:Bool) (t1:Bool) (t2:Bool) (t3:Bool) (b:Int) (c:Int) (d:Int) (m0_0:List Int) (m1_0:Int) (m2_0:Int) (m2_1:Int) (m2_2:List Zas) (m2_3:List Zo) (m2_4:List Zl) (m2_5:List Zw):(Int×Int)→V×Zs
  | r=>((.d (Ze r.1)),[(.arr 1 (List.map Ze m0_0)),(.cells [(.d (Ze r.2))]),(.cells [(.d (Ze m2_0)),(.d (Ze m2_1)),(.d (D.list t0 (List.map ZaC m2_2))),(.d (D.list t1 (List.map ZA m2_3))),(.d (D.list t2 (List.map Zv m2_4))),(.d (D.list t3 (List.map ZD m2_5)))])])
theorem Zb3 {t0 t1:Bool}{t2 t3:Bool}{b c d:Int}{m0_0:List Int}{m1_0 m2_0 m2_1:Int}{m2_2:List Zas}{m2_3:List Zo}{m2_4:List Zl}{m2_5:List Zw}:∀r,(Za6 b c d (fun z0 z1=>Zz z0 z1 m2_4) m0_0 m1_0)=some r→evW ctx 109 [(.sl 0 1),(.d (Ze b)),(.d (Ze c)),(.d (Ze d)),(.ptr 1 0),(.fn 75 [(.ptr 2 0)])] [(.arr 1 (List.map Ze m0_0)),(.cells [(.d (Ze m1_0))]),(.cells [(.d (Ze m2_0)),(.d (Ze m2_1)),(.d (D.list t0 (List.map ZaC m2_2))),(.d (D.list t1 (List.map ZA m2_3))),(.d (D.list t2 (List.map Zv m2_4))),(.d (D.list t3 (List.map ZD m2_5)))])]=some ((ZdA t0 t1 t2 t3 b c d m0_0 m1_0 m2_0 m2_1 m2_2 m2_3 m2_4 m2_5) r):=by
 show ZN _ (fun r rhs=>rhs=some ((ZdA t0 t1 t2 t3 b c d m0_0 m1_0 m2_0 m2_1 m2_2 m2_3 m2_4 m2_5) r)) _
 unfold Za6
 rw[ZeK ctx 109 ZAo _ _ rfl rfl]
 conv=>rhs;whnf
 refine Zc _ Zb2 fun x0 hx0=>?_;conv=>rhs;whnf
 refine Zc _ Zb2 fun x1 hx1=>?_;conv=>rhs;whnf
 refine Zc _ Zb2 fun x2 hx2=>?_;conv=>rhs;whnf
 exact Zh rfl
def Zcy (t0:Bool) (t1:Bool) (t2:Bool) (t3:Bool) (b:Int) (m0_0:List Int) (m1_0:Int) (m2_0:Int) (m2_1:Int) (m2_2:List Zas) (m2_3:List Zo) (m2_4:List Zl) (m2_5:List Zw):(Int×Int)→V×Zs
  | r=>((.d (Ze r.1)),[(.arr 1 (List.map Ze m0_0)),(.cells [(.d (Ze r.2))]),(.cells [(.d (Ze m2_0)),(.d (Ze m2_1)),(.d (D.list t0 (List.map ZaC m2_2))),(.d (D.list t1 (List.map ZA m2_3))),(.d (D.list t2 (List.map Zv m2_4))),(.d (D.list t3 (List.map ZD m2_5)))])])
theorem Zbu {t0 t1:Bool}{t2 t3:Bool}{b:Int}{m0_0:List Int}{m1_0 m2_0 m2_1:Int}{m2_2:List Zas}{m2_3:List Zo}{m2_4:List Zl}{m2_5:List Zw}:∀r,(Zag b (fun z0 z1=>Zz z0 z1 m2_4) m0_0 m1_0)=some r→evW ctx 108 [(.sl 0 1),(.d (Ze b)),(.ptr 1 0),(.fn 75 [(.ptr 2 0)])] [(.arr 1 (List.map Ze m0_0)),(.cells [(.d (Ze m1_0))]),(.cells [(.d (Ze m2_0)),(.d (Ze m2_1)),(.d (D.list t0 (List.map ZaC m2_2))),(.d (D.list t1 (List.map ZA m2_3))),(.d (D.list t2 (List.map Zv m2_4))),(.d (D.list t3 (List.map ZD m2_5)))])]=some ((Zcy t0 t1 t2 t3 b m0_0 m1_0 m2_0 m2_1 m2_2 m2_3 m2_4 m2_5) r):=by
 show ZN _ (fun r rhs=>rhs=some ((Zcy t0 t1 t2 t3 b m0_0 m1_0 m2_0 m2_1 m2_2 m2_3 m2_4 m2_5) r)) _
 unfold Zag
 rw[ZeK ctx 108 Zz2 _ _ rfl rfl]
 conv=>rhs;whnf
 refine Zc _ Zb3 fun x0 hx0=>?_;conv=>rhs;whnf
 exact Zh rfl
def ZcU (t0:Bool) (t1:Bool) (t2:Bool) (t3:Bool) (b:Int) (c:Int) (m0_0:List Int) (m1_0:Int) (m1_1:Int) (m1_2:List Zas) (m1_3:List Zo) (m1_4:List Zl) (m1_5:List Zw):(Int×Int)→V×Zs
  | r=>((.d (D.tup [(Ze r.1),(Ze r.2)])),[(.arr 1 (List.map Ze m0_0)),(.cells [(.d (Ze m1_0)),(.d (Ze m1_1)),(.d (D.list t0 (List.map ZaC m1_2))),(.d (D.list t1 (List.map ZA m1_3))),(.d (D.list t2 (List.map Zv m1_4))),(.d (D.list t3 (List.map ZD m1_5)))])])
theorem Za5 {t0 t1:Bool}{t2 t3:Bool}{b c:Int}{m0_0:List Int}{m1_0 m1_1:Int}{m1_2:List Zas}{m1_3:List Zo}{m1_4:List Zl}{m1_5:List Zw}:∀r,(ZY b c (fun z0 z1=>Zz z0 z1 m1_4) m0_0)=some r→evW ctx 89 [(.sl 0 1),(.d (Ze b)),(.d (Ze c)),(.fn 75 [(.ptr 1 0)])] [(.arr 1 (List.map Ze m0_0)),(.cells [(.d (Ze m1_0)),(.d (Ze m1_1)),(.d (D.list t0 (List.map ZaC m1_2))),(.d (D.list t1 (List.map ZA m1_3))),(.d (D.list t2 (List.map Zv m1_4))),(.d (D.list t3 (List.map ZD m1_5)))])]=some ((ZcU t0 t1 t2 t3 b c m0_0 m1_0 m1_1 m1_2 m1_3 m1_4 m1_5) r):=by
 show ZN _ (fun r rhs=>rhs=some ((ZcU t0 t1 t2 t3 b c m0_0 m1_0 m1_1 m1_2 m1_3 m1_4 m1_5) r)) _
 unfold ZY
 rw[ZeK ctx 89 ZEe _ _ rfl rfl]
 conv=>rhs;whnf
 refine ZV rfl ?_;conv=>rhs;whnf
 refine ZV rfl ?_;conv=>rhs;whnf
 refine ZV rfl ?_;conv=>rhs;whnf
 refine Zf rfl ?_ ?_<;>conv=>rhs;whnf
 ·refine Zf rfl ?_ ?_<;>conv=>rhs;whnf
  ·refine Zc _ Zbu fun x0 hx0=>?_;conv=>rhs;whnf
   refine Zc _ Zbu fun x1 hx1=>?_;conv=>rhs;whnf
   refine Zc _ Zbu fun x2 hx2=>?_;conv=>rhs;whnf
   refine Zc _ Zb3 fun x3 hx3=>?_;conv=>rhs;whnf
   refine Zf rfl ?_ ?_<;>conv=>rhs;whnf
   ·exact Zh rfl
   ·refine Zf rfl ?_ ?_<;>conv=>rhs;whnf
    ·exact Zh rfl
    ·exact Zh rfl
  ·refine Zc _ Zb3 fun x4 hx4=>?_;conv=>rhs;whnf
   refine Zf rfl ?_ ?_<;>conv=>rhs;whnf
   ·exact Zh rfl
   ·refine Zf rfl ?_ ?_<;>conv=>rhs;whnf
    ·exact Zh rfl
    ·exact Zh rfl
 ·refine Zbl rfl ?_;conv=>rhs;whnf
  exact Zh rfl
def ZcI (t0:Bool) (t1:Bool) (t2:Bool) (t3:Bool) (b:Int) (c:Int) (m0_0:List Int) (m1_0:Int) (m1_1:Int) (m1_2:List Zas) (m1_3:List Zo) (m1_4:List Zl) (m1_5:List Zw):(List Int)→V×Zs
  | r=>((.d (D.tup [])),[(.arr 1 (List.map Ze r)),(.cells [(.d (Ze m1_0)),(.d (Ze m1_1)),(.d (D.list t0 (List.map ZaC m1_2))),(.d (D.list t1 (List.map ZA m1_3))),(.d (D.list t2 (List.map Zv m1_4))),(.d (D.list t3 (List.map ZD m1_5)))])])
def Zct (t0:Bool) (t1:Bool) (t2:Bool) (t3:Bool) (m1_0:Int) (m1_1:Int) (m1_2:List Zas) (m1_3:List Zo) (m1_4:List Zl) (m1_5:List Zw):(List Int)→Ex×List V×Zs
  | r=>(.exit 0,[],[(.arr 1 (List.map Ze r)),(.cells [(.d (Ze m1_0)),(.d (Ze m1_1)),(.d (D.list t0 (List.map ZaC m1_2))),(.d (D.list t1 (List.map ZA m1_3))),(.d (D.list t2 (List.map Zv m1_4))),(.d (D.list t3 (List.map ZD m1_5)))])])
theorem ZeN {t0 t1:Bool}{t2 t3:Bool}{m1_0 m1_1:Int}{m1_2:List Zas}{m1_3:List Zo}{m1_4:List Zl}{m1_5:List Zw}:∀(s0:Int×Int×(List Int)) (r:List Int),lp (Zad) s0=some r→lpW ctx 2 [0,8,9] [] ZBz [(.sl 0 1),(.d (Ze s0.1)),(.d (Ze s0.2.1))] [(.arr 1 (List.map Ze s0.2.2)),(.cells [(.d (Ze m1_0)),(.d (Ze m1_1)),(.d (D.list t0 (List.map ZaC m1_2))),(.d (D.list t1 (List.map ZA m1_3))),(.d (D.list t2 (List.map Zv m1_4))),(.d (D.list t3 (List.map ZD m1_5)))])]=some ((Zct t0 t1 t2 t3 m1_0 m1_1 m1_2 m1_3 m1_4 m1_5) r):=by
 refine Zah (Zct t0 t1 t2 t3 m1_0 m1_1 m1_2 m1_3 m1_4 m1_5) ?_
 intro s0 rcl ih
 show ZN _ _ (lpW _ _ _ _ _ _ _)
 unfold Zad
 rw[Zai]
 conv=>rhs;whnf
 refine Zf rfl ?_ ?_<;>conv=>rhs;whnf
 ·refine Zk rfl rfl fun x1 hx1=>?_;conv=>rhs;whnf
  refine Zg (Zn rfl hx1) ?_;conv=>rhs;whnf
  refine Zk rfl rfl fun x2 hx2=>?_;conv=>rhs;whnf
  refine Zg (Zn rfl hx2) ?_;conv=>rhs;whnf
  refine Zg (Zam rfl hx2) ?_;conv=>rhs;whnf
  refine Zg (Zn rfl hx2) ?_;conv=>rhs;whnf
  refine Zm (ZZ Ze s0.2.2 s0.1.toNat x1) ?_;conv=>rhs;whnf
  refine Zk rfl rfl fun x3 hx3=>?_;conv=>rhs;whnf
  refine Zg (Zn rfl hx3) ?_;conv=>rhs;whnf
  refine Zm (ZZ Ze (List.set s0.2.2 s0.1.toNat x1) s0.2.1.toNat x2) ?_;conv=>rhs;whnf
  exact Zd (ih _)
 ·exact Zh rfl
theorem Za3 {t0 t1:Bool}{t2 t3:Bool}{b c:Int}{m0_0:List Int}{m1_0 m1_1:Int}{m1_2:List Zas}{m1_3:List Zo}{m1_4:List Zl}{m1_5:List Zw}:∀r,(ZT b c (fun z0 z1=>Zz z0 z1 m1_4) m0_0)=some r→evW ctx 90 [(.sl 0 1),(.d (Ze b)),(.d (Ze c)),(.fn 75 [(.ptr 1 0)])] [(.arr 1 (List.map Ze m0_0)),(.cells [(.d (Ze m1_0)),(.d (Ze m1_1)),(.d (D.list t0 (List.map ZaC m1_2))),(.d (D.list t1 (List.map ZA m1_3))),(.d (D.list t2 (List.map Zv m1_4))),(.d (D.list t3 (List.map ZD m1_5)))])]=some ((ZcI t0 t1 t2 t3 b c m0_0 m1_0 m1_1 m1_2 m1_3 m1_4 m1_5) r):=by
 show ZN _ (fun r rhs=>rhs=some ((ZcI t0 t1 t2 t3 b c m0_0 m1_0 m1_1 m1_2 m1_3 m1_4 m1_5) r)) _
 unfold ZT
 rw[ZeK ctx 90 ZEL _ _ rfl rfl]
 conv=>rhs;whnf
 refine Zc _ (ZeN _) fun r4 hr4=>?_;conv=>rhs;whnf
 exact Zh rfl
def Zb8 (t0:Bool) (t1:Bool) (t2:Bool) (t3:Bool) (b:Int) (c:Int) (m0_0:List Int) (m1_0:Int) (m1_1:Int) (m1_2:List Zas) (m1_3:List Zo) (m1_4:List Zl) (m1_5:List Zw):((List Int)⊕(List Int))→V×Zs
  | (.inl r)=>((.d (D.bool true)),[(.arr 1 (List.map Ze r)),(.cells [(.d (Ze m1_0)),(.d (Ze m1_1)),(.d (D.list t0 (List.map ZaC m1_2))),(.d (D.list t1 (List.map ZA m1_3))),(.d (D.list t2 (List.map Zv m1_4))),(.d (D.list t3 (List.map ZD m1_5)))])])
  | (.inr r)=>((.d (D.bool false)),[(.arr 1 (List.map Ze r)),(.cells [(.d (Ze m1_0)),(.d (Ze m1_1)),(.d (D.list t0 (List.map ZaC m1_2))),(.d (D.list t1 (List.map ZA m1_3))),(.d (D.list t2 (List.map Zv m1_4))),(.d (D.list t3 (List.map ZD m1_5)))])])
def ZbX (t0:Bool) (t1:Bool) (t2:Bool) (t3:Bool) (b:Int) (c:Int) (m1_0:Int) (m1_1:Int) (m1_2:List Zas) (m1_3:List Zo) (m1_4:List Zl) (m1_5:List Zw) (s0:Int×Int×(List Int)):Int→Ex×List V×Zs
  | r=>(.exit 2,[(.sl 0 1),(.d (Ze b)),(.d (Ze c)),(.fn 75 [(.ptr 1 0)]),(.d (Ze r)),(.d (Ze s0.2.1))],[(.arr 1 (List.map Ze s0.2.2)),(.cells [(.d (Ze m1_0)),(.d (Ze m1_1)),(.d (D.list t0 (List.map ZaC m1_2))),(.d (D.list t1 (List.map ZA m1_3))),(.d (D.list t2 (List.map Zv m1_4))),(.d (D.list t3 (List.map ZD m1_5)))])])
theorem ZdN {t0 t1:Bool}{t2 t3:Bool}{b c:Int}{m1_0 m1_1:Int}{m1_2:List Zas}{m1_3:List Zo}{m1_4:List Zl}{m1_5:List Zw}{s0:Int×Int×(List Int)}:∀(s1:Int) (r:Int),lp (ZO c (fun z0 z1=>Zz z0 z1 m1_4) s0) s1=some r→lpW ctx 2 [0,1,2,3,9,10] [0,1,2,3,9,10] ZAd [(.sl 0 1),(.d (Ze b)),(.d (Ze c)),(.fn 75 [(.ptr 1 0)]),(.d (Ze s1)),(.d (Ze s0.2.1))] [(.arr 1 (List.map Ze s0.2.2)),(.cells [(.d (Ze m1_0)),(.d (Ze m1_1)),(.d (D.list t0 (List.map ZaC m1_2))),(.d (D.list t1 (List.map ZA m1_3))),(.d (D.list t2 (List.map Zv m1_4))),(.d (D.list t3 (List.map ZD m1_5)))])]=some ((ZbX t0 t1 t2 t3 b c m1_0 m1_1 m1_2 m1_3 m1_4 m1_5 s0) r):=by
 refine Zah (ZbX t0 t1 t2 t3 b c m1_0 m1_1 m1_2 m1_3 m1_4 m1_5 s0) ?_
 intro s1 rcl ih
 show ZN _ _ (lpW _ _ _ _ _ _ _)
 unfold ZO
 rw[Zai]
 conv=>rhs;whnf
 refine Zf rfl ?_ ?_<;>conv=>rhs;whnf
 ·refine Zk rfl rfl fun x2 hx2=>?_;conv=>rhs;whnf
  refine Zg (Zn rfl hx2) ?_;conv=>rhs;whnf
  refine Zk rfl rfl fun x3 hx3=>?_;conv=>rhs;whnf
  refine Zg (Zn rfl hx3) ?_;conv=>rhs;whnf
  refine Zq _ ZS rfl fun x4 hx4=>?_;conv=>rhs;whnf
  refine Zf rfl ?_ ?_<;>conv=>rhs;whnf
  ·exact Zh rfl
  ·exact Zd (ih _)
 ·exact Zh rfl
def ZbU (t0:Bool) (t1:Bool) (t2:Bool) (t3:Bool) (b:Int) (c:Int) (m1_0:Int) (m1_1:Int) (m1_2:List Zas) (m1_3:List Zo) (m1_4:List Zl) (m1_5:List Zw) (s0:Int×Int×(List Int)) (r5:Int):(List Int)→Ex×List V×Zs
  | r=>(.exit 4,[(.sl 0 1),(.d (Ze b)),(.d (Ze c)),(.fn 75 [(.ptr 1 0)]),(.d (Ze r5)),(.d (Ze s0.2.1))],[(.arr 1 (List.map Ze r)),(.cells [(.d (Ze m1_0)),(.d (Ze m1_1)),(.d (D.list t0 (List.map ZaC m1_2))),(.d (D.list t1 (List.map ZA m1_3))),(.d (D.list t2 (List.map Zv m1_4))),(.d (D.list t3 (List.map ZD m1_5)))])])
theorem ZdK {t0 t1:Bool}{t2 t3:Bool}{b c:Int}{m1_0 m1_1:Int}{m1_2:List Zas}{m1_3:List Zo}{m1_4:List Zl}{m1_5:List Zw}{s0:Int×Int×(List Int)}{r5:Int}:∀(s9:Int×(List Int)) (r:List Int),lp (ZX (fun z0 z1=>Zz z0 z1 m1_4)) s9=some r→lpW ctx 2 [0,1,2,3,9,10,11] [0,1,2,3,9,10] ZAa [(.sl 0 1),(.d (Ze b)),(.d (Ze c)),(.fn 75 [(.ptr 1 0)]),(.d (Ze r5)),(.d (Ze s0.2.1)),(.d (Ze s9.1))] [(.arr 1 (List.map Ze s9.2)),(.cells [(.d (Ze m1_0)),(.d (Ze m1_1)),(.d (D.list t0 (List.map ZaC m1_2))),(.d (D.list t1 (List.map ZA m1_3))),(.d (D.list t2 (List.map Zv m1_4))),(.d (D.list t3 (List.map ZD m1_5)))])]=some ((ZbU t0 t1 t2 t3 b c m1_0 m1_1 m1_2 m1_3 m1_4 m1_5 s0 r5) r):=by
 refine Zah (ZbU t0 t1 t2 t3 b c m1_0 m1_1 m1_2 m1_3 m1_4 m1_5 s0 r5) ?_
 intro s9 rcl ih
 show ZN _ _ (lpW _ _ _ _ _ _ _)
 unfold ZX
 rw[Zai]
 conv=>rhs;whnf
 refine Zf rfl ?_ ?_<;>conv=>rhs;whnf
 ·refine Zk rfl rfl fun x10 hx10=>?_;conv=>rhs;whnf
  refine Zg (Zn rfl hx10) ?_;conv=>rhs;whnf
  refine Zk rfl rfl fun x11 hx11=>?_;conv=>rhs;whnf
  refine Zg (Zn rfl hx11) ?_;conv=>rhs;whnf
  refine Zq _ ZS rfl fun x12 hx12=>?_;conv=>rhs;whnf
  refine Zf rfl ?_ ?_<;>conv=>rhs;whnf
  ·refine Zg (Zam rfl hx11) ?_;conv=>rhs;whnf
   refine Zg (Zn rfl hx11) ?_;conv=>rhs;whnf
   refine Zg (Zam rfl hx10) ?_;conv=>rhs;whnf
   refine Zg (Zn rfl hx10) ?_;conv=>rhs;whnf
   refine Zg (Zam rfl hx10) ?_;conv=>rhs;whnf
   refine Zg (Zn rfl hx10) ?_;conv=>rhs;whnf
   refine Zm (ZZ Ze s9.2 s9.1.toNat x11) ?_;conv=>rhs;whnf
   refine Zk rfl rfl fun x13 hx13=>?_;conv=>rhs;whnf
   refine Zg (Zn rfl hx13) ?_;conv=>rhs;whnf
   refine Zm (ZZ Ze (List.set s9.2 s9.1.toNat x11) (w64 (s9.1-1)).toNat x10) ?_;conv=>rhs;whnf
   exact Zd (ih _)
  ·exact Zh rfl
 ·exact Zh rfl
def ZbV (t0:Bool) (t1:Bool) (t2:Bool) (t3:Bool) (b:Int) (c:Int) (m1_0:Int) (m1_1:Int) (m1_2:List Zas) (m1_3:List Zo) (m1_4:List Zl) (m1_5:List Zw) (s0:Int×Int×(List Int)) (r5:Int):(List Int)→Ex×List V×Zs
  | r=>(.exit 6,[(.sl 0 1),(.d (Ze b)),(.d (Ze c)),(.fn 75 [(.ptr 1 0)]),(.d (Ze r5)),(.d (Ze s0.2.1))],[(.arr 1 (List.map Ze r)),(.cells [(.d (Ze m1_0)),(.d (Ze m1_1)),(.d (D.list t0 (List.map ZaC m1_2))),(.d (D.list t1 (List.map ZA m1_3))),(.d (D.list t2 (List.map Zv m1_4))),(.d (D.list t3 (List.map ZD m1_5)))])])
theorem ZbS {t0 t1:Bool}{t2 t3:Bool}{b c:Int}{m1_0 m1_1:Int}{m1_2:List Zas}{m1_3:List Zo}{m1_4:List Zl}{m1_5:List Zw}{s0:Int×Int×(List Int)}{r5:Int}:∀(s15:Int×(List Int)) (r:List Int),lp (ZL c (fun z0 z1=>Zz z0 z1 m1_4)) s15=some r→lpW ctx 2 [0,1,2,3,9,10,12] [0,1,2,3,9,10] ZAV [(.sl 0 1),(.d (Ze b)),(.d (Ze c)),(.fn 75 [(.ptr 1 0)]),(.d (Ze r5)),(.d (Ze s0.2.1)),(.d (Ze s15.1))] [(.arr 1 (List.map Ze s15.2)),(.cells [(.d (Ze m1_0)),(.d (Ze m1_1)),(.d (D.list t0 (List.map ZaC m1_2))),(.d (D.list t1 (List.map ZA m1_3))),(.d (D.list t2 (List.map Zv m1_4))),(.d (D.list t3 (List.map ZD m1_5)))])]=some ((ZbV t0 t1 t2 t3 b c m1_0 m1_1 m1_2 m1_3 m1_4 m1_5 s0 r5) r):=by
 refine Zah (ZbV t0 t1 t2 t3 b c m1_0 m1_1 m1_2 m1_3 m1_4 m1_5 s0 r5) ?_
 intro s15 rcl ih
 show ZN _ _ (lpW _ _ _ _ _ _ _)
 unfold ZL
 rw[Zai]
 conv=>rhs;whnf
 refine Zf rfl ?_ ?_<;>conv=>rhs;whnf
 ·refine Zk rfl rfl fun x16 hx16=>?_;conv=>rhs;whnf
  refine Zg (Zn rfl hx16) ?_;conv=>rhs;whnf
  refine Zk rfl rfl fun x17 hx17=>?_;conv=>rhs;whnf
  refine Zg (Zn rfl hx17) ?_;conv=>rhs;whnf
  refine Zq _ ZS rfl fun x18 hx18=>?_;conv=>rhs;whnf
  refine Zf rfl ?_ ?_<;>conv=>rhs;whnf
  ·refine Zg (Zam rfl hx17) ?_;conv=>rhs;whnf
   refine Zg (Zn rfl hx17) ?_;conv=>rhs;whnf
   refine Zg (Zam rfl hx16) ?_;conv=>rhs;whnf
   refine Zg (Zn rfl hx16) ?_;conv=>rhs;whnf
   refine Zg (Zam rfl hx16) ?_;conv=>rhs;whnf
   refine Zg (Zn rfl hx16) ?_;conv=>rhs;whnf
   refine Zm (ZZ Ze s15.2 s15.1.toNat x17) ?_;conv=>rhs;whnf
   refine Zk rfl rfl fun x19 hx19=>?_;conv=>rhs;whnf
   refine Zg (Zn rfl hx19) ?_;conv=>rhs;whnf
   refine Zm (ZZ Ze (List.set s15.2 s15.1.toNat x17) (w64 (s15.1-1)).toNat x16) ?_;conv=>rhs;whnf
   exact Zd (ih _)
  ·exact Zh rfl
 ·exact Zh rfl
def ZbW (t0:Bool) (t1:Bool) (t2:Bool) (t3:Bool) (b:Int) (c:Int) (m1_0:Int) (m1_1:Int) (m1_2:List Zas) (m1_3:List Zo) (m1_4:List Zl) (m1_5:List Zw):((List Int)⊕((List Int)⊕(List Int)))→Ex×List V×Zs
  | (.inl r)=>(.ret,[(.d (D.bool true))],[(.arr 1 (List.map Ze r)),(.cells [(.d (Ze m1_0)),(.d (Ze m1_1)),(.d (D.list t0 (List.map ZaC m1_2))),(.d (D.list t1 (List.map ZA m1_3))),(.d (D.list t2 (List.map Zv m1_4))),(.d (D.list t3 (List.map ZD m1_5)))])])
  | (.inr (.inl r))=>(.ret,[(.d (D.bool false))],[(.arr 1 (List.map Ze r)),(.cells [(.d (Ze m1_0)),(.d (Ze m1_1)),(.d (D.list t0 (List.map ZaC m1_2))),(.d (D.list t1 (List.map ZA m1_3))),(.d (D.list t2 (List.map Zv m1_4))),(.d (D.list t3 (List.map ZD m1_5)))])])
  | (.inr (.inr r))=>(.exit 0,[.bad],[(.arr 1 (List.map Ze r)),(.cells [(.d (Ze m1_0)),(.d (Ze m1_1)),(.d (D.list t0 (List.map ZaC m1_2))),(.d (D.list t1 (List.map ZA m1_3))),(.d (D.list t2 (List.map Zv m1_4))),(.d (D.list t3 (List.map ZD m1_5)))])])
theorem ZdQ {t0 t1:Bool}{t2 t3:Bool}{b c:Int}{m1_0 m1_1:Int}{m1_2:List Zas}{m1_3:List Zo}{m1_4:List Zl}{m1_5:List Zw}:∀(s0:Int×Int×(List Int)) (r:((List Int)⊕((List Int)⊕(List Int)))),lp (ZW b c (fun z0 z1=>Zz z0 z1 m1_4)) s0=some r→lpW ctx 2 [0,1,2,3,9,10] [8] ZzF [(.sl 0 1),(.d (Ze b)),(.d (Ze c)),(.fn 75 [(.ptr 1 0)]),(.d (Ze s0.1)),(.d (Ze s0.2.1))] [(.arr 1 (List.map Ze s0.2.2)),(.cells [(.d (Ze m1_0)),(.d (Ze m1_1)),(.d (D.list t0 (List.map ZaC m1_2))),(.d (D.list t1 (List.map ZA m1_3))),(.d (D.list t2 (List.map Zv m1_4))),(.d (D.list t3 (List.map ZD m1_5)))])]=some ((ZbW t0 t1 t2 t3 b c m1_0 m1_1 m1_2 m1_3 m1_4 m1_5) r):=by
 refine Zah (ZbW t0 t1 t2 t3 b c m1_0 m1_1 m1_2 m1_3 m1_4 m1_5) ?_
 intro s0 rcl ih
 show ZN _ _ (lpW _ _ _ _ _ _ _)
 unfold ZW
 rw[Zai]
 conv=>rhs;whnf
 refine Zf rfl ?_ ?_<;>conv=>rhs;whnf
 ·refine Zc _ (ZdN _) fun r5 hr5=>?_;conv=>rhs;whnf
  refine Zf rfl ?_ ?_<;>conv=>rhs;whnf
  ·exact Zh rfl
  ·refine Zf rfl ?_ ?_<;>conv=>rhs;whnf
   ·exact Zh rfl
   ·refine Zk rfl rfl fun x6 hx6=>?_;conv=>rhs;whnf
    refine Zg (Zn rfl hx6) ?_;conv=>rhs;whnf
    refine Zk rfl rfl fun x7 hx7=>?_;conv=>rhs;whnf
    refine Zg (Zn rfl hx7) ?_;conv=>rhs;whnf
    refine Zg (Zam rfl hx7) ?_;conv=>rhs;whnf
    refine Zg (Zn rfl hx7) ?_;conv=>rhs;whnf
    refine Zm (ZZ Ze s0.2.2 r5.toNat x6) ?_;conv=>rhs;whnf
    refine Zk rfl rfl fun x8 hx8=>?_;conv=>rhs;whnf
    refine Zg (Zn rfl hx8) ?_;conv=>rhs;whnf
    refine Zm (ZZ Ze (List.set s0.2.2 r5.toNat x6) (w64 (r5-1)).toNat x7) ?_;conv=>rhs;whnf
    refine Zf rfl ?_ ?_<;>conv=>rhs;whnf
    ·refine Zc _ (ZdK _) fun r14 hr14=>?_;conv=>rhs;whnf
     refine Zf rfl ?_ ?_<;>conv=>rhs;whnf
     ·refine Zc _ (ZbS _) fun r20 hr20=>?_;conv=>rhs;whnf
      exact Zd (ih _)
     ·exact Zd (ih _)
    ·refine Zf rfl ?_ ?_<;>conv=>rhs;whnf
     ·refine Zc _ (ZbS _) fun r26 hr26=>?_;conv=>rhs;whnf
      exact Zd (ih _)
     ·exact Zd (ih _)
 ·exact Zh rfl
theorem Zb4 {t0 t1:Bool}{t2 t3:Bool}{b c:Int}{m0_0:List Int}{m1_0 m1_1:Int}{m1_2:List Zas}{m1_3:List Zo}{m1_4:List Zl}{m1_5:List Zw}:∀r,(ZU b c (fun z0 z1=>Zz z0 z1 m1_4) m0_0)=some r→evW ctx 91 [(.sl 0 1),(.d (Ze b)),(.d (Ze c)),(.fn 75 [(.ptr 1 0)])] [(.arr 1 (List.map Ze m0_0)),(.cells [(.d (Ze m1_0)),(.d (Ze m1_1)),(.d (D.list t0 (List.map ZaC m1_2))),(.d (D.list t1 (List.map ZA m1_3))),(.d (D.list t2 (List.map Zv m1_4))),(.d (D.list t3 (List.map ZD m1_5)))])]=some ((Zb8 t0 t1 t2 t3 b c m0_0 m1_0 m1_1 m1_2 m1_3 m1_4 m1_5) r):=by
 show ZN _ (fun r rhs=>rhs=some ((Zb8 t0 t1 t2 t3 b c m0_0 m1_0 m1_1 m1_2 m1_3 m1_4 m1_5) r)) _
 unfold ZU
 rw[ZeK ctx 91 ZEb _ _ rfl rfl]
 conv=>rhs;whnf
 refine Zc _ (ZdQ _) fun r27 hr27=>?_
 clear hr27
 rcases r27 with r27 | (r27 | r27)
 ·conv=>rhs;whnf
  exact Zh rfl
 ·conv=>rhs;whnf
  exact Zh rfl
 ·conv=>rhs;whnf
  exact Zh rfl
def Zc8 (t0:Bool) (t1:Bool) (t2:Bool) (t3:Bool) (b:Int) (c:Int) (d:Int) (m0_0:List Int) (m1_0:Int) (m1_1:Int) (m1_2:List Zas) (m1_3:List Zo) (m1_4:List Zl) (m1_5:List Zw):((Int×(List Int))⊕(Int×(List Int)))→V×Zs
  | (.inl r)=>((.d (D.tup [(Ze r.1),(D.bool true)])),[(.arr 1 (List.map Ze r.2)),(.cells [(.d (Ze m1_0)),(.d (Ze m1_1)),(.d (D.list t0 (List.map ZaC m1_2))),(.d (D.list t1 (List.map ZA m1_3))),(.d (D.list t2 (List.map Zv m1_4))),(.d (D.list t3 (List.map ZD m1_5)))])])
  | (.inr r)=>((.d (D.tup [(Ze r.1),(D.bool false)])),[(.arr 1 (List.map Ze r.2)),(.cells [(.d (Ze m1_0)),(.d (Ze m1_1)),(.d (D.list t0 (List.map ZaC m1_2))),(.d (D.list t1 (List.map ZA m1_3))),(.d (D.list t2 (List.map Zv m1_4))),(.d (D.list t3 (List.map ZD m1_5)))])])
def ZcQ (t0:Bool) (t1:Bool) (t2:Bool) (t3:Bool) (b:Int) (c:Int) (d:Int) (m0_0:List Int) (m1_0:Int) (m1_1:Int) (m1_2:List Zas) (m1_3:List Zo) (m1_4:List Zl) (m1_5:List Zw) (x0:Int) (x1:Int):Int→Ex×List V×Zs
  | r=>(.exit 0,[(.sl 0 1),(.d (Ze b)),(.fn 75 [(.ptr 1 0)]),(.d (Ze r)),(.d (Ze (w64 (c-1))))],[(.arr 1 (List.map Ze (List.set (List.set m0_0 b.toNat x0) d.toNat x1))),(.cells [(.d (Ze m1_0)),(.d (Ze m1_1)),(.d (D.list t0 (List.map ZaC m1_2))),(.d (D.list t1 (List.map ZA m1_3))),(.d (D.list t2 (List.map Zv m1_4))),(.d (D.list t3 (List.map ZD m1_5)))])])
theorem Zfw {t0 t1:Bool}{t2 t3:Bool}{b c d:Int}{m0_0:List Int}{m1_0 m1_1:Int}{m1_2:List Zas}{m1_3:List Zo}{m1_4:List Zl}{m1_5:List Zw}{x0 x1:Int}:∀(s3:Int) (r:Int),lp (ZaK b c d m0_0 (fun z0 z1=>Zz z0 z1 m1_4) x0 x1) s3=some r→lpW ctx 2 [0,1,4,12,13] [0,1,4,12,13] ZAR [(.sl 0 1),(.d (Ze b)),(.fn 75 [(.ptr 1 0)]),(.d (Ze s3)),(.d (Ze (w64 (c-1))))] [(.arr 1 (List.map Ze (List.set (List.set m0_0 b.toNat x0) d.toNat x1))),(.cells [(.d (Ze m1_0)),(.d (Ze m1_1)),(.d (D.list t0 (List.map ZaC m1_2))),(.d (D.list t1 (List.map ZA m1_3))),(.d (D.list t2 (List.map Zv m1_4))),(.d (D.list t3 (List.map ZD m1_5)))])]=some ((ZcQ t0 t1 t2 t3 b c d m0_0 m1_0 m1_1 m1_2 m1_3 m1_4 m1_5 x0 x1) r):=by
 refine Zah (ZcQ t0 t1 t2 t3 b c d m0_0 m1_0 m1_1 m1_2 m1_3 m1_4 m1_5 x0 x1) ?_
 intro s3 rcl ih
 show ZN _ _ (lpW _ _ _ _ _ _ _)
 unfold ZaK
 rw[Zai]
 conv=>rhs;whnf
 refine Zf rfl ?_ ?_<;>conv=>rhs;whnf
 ·refine Zk rfl rfl fun x4 hx4=>?_;conv=>rhs;whnf
  refine Zg (Zn rfl hx4) ?_;conv=>rhs;whnf
  refine Zk rfl rfl fun x5 hx5=>?_;conv=>rhs;whnf
  refine Zg (Zn rfl hx5) ?_;conv=>rhs;whnf
  refine Zq _ ZS rfl fun x6 hx6=>?_;conv=>rhs;whnf
  refine Zf rfl ?_ ?_<;>conv=>rhs;whnf
  ·exact Zd (ih _)
  ·exact Zh rfl
 ·exact Zh rfl
def ZcN (t0:Bool) (t1:Bool) (t2:Bool) (t3:Bool) (b:Int) (d:Int) (m0_0:List Int) (m1_0:Int) (m1_1:Int) (m1_2:List Zas) (m1_3:List Zo) (m1_4:List Zl) (m1_5:List Zw) (x0:Int) (x1:Int) (r7:Int):Int→Ex×List V×Zs
  | r=>(.exit 2,[(.sl 0 1),(.d (Ze b)),(.fn 75 [(.ptr 1 0)]),(.d (Ze r7)),(.d (Ze r))],[(.arr 1 (List.map Ze (List.set (List.set m0_0 b.toNat x0) d.toNat x1))),(.cells [(.d (Ze m1_0)),(.d (Ze m1_1)),(.d (D.list t0 (List.map ZaC m1_2))),(.d (D.list t1 (List.map ZA m1_3))),(.d (D.list t2 (List.map Zv m1_4))),(.d (D.list t3 (List.map ZD m1_5)))])])
theorem Zfu {t0 t1:Bool}{t2 t3:Bool}{b d:Int}{m0_0:List Int}{m1_0 m1_1:Int}{m1_2:List Zas}{m1_3:List Zo}{m1_4:List Zl}{m1_5:List Zw}{x0 x1 r7:Int}:∀(s8:Int) (r:Int),lp (ZaI b d m0_0 (fun z0 z1=>Zz z0 z1 m1_4) x0 x1 r7) s8=some r→lpW ctx 2 [0,1,4,12,13] [0,1,4,12,13] Zzc [(.sl 0 1),(.d (Ze b)),(.fn 75 [(.ptr 1 0)]),(.d (Ze r7)),(.d (Ze s8))] [(.arr 1 (List.map Ze (List.set (List.set m0_0 b.toNat x0) d.toNat x1))),(.cells [(.d (Ze m1_0)),(.d (Ze m1_1)),(.d (D.list t0 (List.map ZaC m1_2))),(.d (D.list t1 (List.map ZA m1_3))),(.d (D.list t2 (List.map Zv m1_4))),(.d (D.list t3 (List.map ZD m1_5)))])]=some ((ZcN t0 t1 t2 t3 b d m0_0 m1_0 m1_1 m1_2 m1_3 m1_4 m1_5 x0 x1 r7) r):=by
 refine Zah (ZcN t0 t1 t2 t3 b d m0_0 m1_0 m1_1 m1_2 m1_3 m1_4 m1_5 x0 x1 r7) ?_
 intro s8 rcl ih
 show ZN _ _ (lpW _ _ _ _ _ _ _)
 unfold ZaI
 rw[Zai]
 conv=>rhs;whnf
 refine Zf rfl ?_ ?_<;>conv=>rhs;whnf
 ·refine Zk rfl rfl fun x9 hx9=>?_;conv=>rhs;whnf
  refine Zg (Zn rfl hx9) ?_;conv=>rhs;whnf
  refine Zk rfl rfl fun x10 hx10=>?_;conv=>rhs;whnf
  refine Zg (Zn rfl hx10) ?_;conv=>rhs;whnf
  refine Zq _ ZS rfl fun x11 hx11=>?_;conv=>rhs;whnf
  refine Zf rfl ?_ ?_<;>conv=>rhs;whnf
  ·exact Zh rfl
  ·exact Zd (ih _)
 ·exact Zh rfl
def ZcJ (t0:Bool) (t1:Bool) (t2:Bool) (t3:Bool) (b:Int) (m1_0:Int) (m1_1:Int) (m1_2:List Zas) (m1_3:List Zo) (m1_4:List Zl) (m1_5:List Zw) (s19:Int×Int×(List Int)):Int→Ex×List V×Zs
  | r=>(.exit 6,[(.sl 0 1),(.d (Ze b)),(.fn 75 [(.ptr 1 0)]),(.d (Ze r)),(.d (Ze s19.2.1))],[(.arr 1 (List.map Ze s19.2.2)),(.cells [(.d (Ze m1_0)),(.d (Ze m1_1)),(.d (D.list t0 (List.map ZaC m1_2))),(.d (D.list t1 (List.map ZA m1_3))),(.d (D.list t2 (List.map Zv m1_4))),(.d (D.list t3 (List.map ZD m1_5)))])])
theorem ZfB {t0 t1:Bool}{t2 t3:Bool}{b m1_0 m1_1:Int}{m1_2:List Zas}{m1_3:List Zo}{m1_4:List Zl}{m1_5:List Zw}{s19:Int×Int×(List Int)}:∀(s20:Int) (r:Int),lp (ZaL b (fun z0 z1=>Zz z0 z1 m1_4) s19) s20=some r→lpW ctx 2 [0,1,4,12,13] [0,1,4,12,13] ZBl [(.sl 0 1),(.d (Ze b)),(.fn 75 [(.ptr 1 0)]),(.d (Ze s20)),(.d (Ze s19.2.1))] [(.arr 1 (List.map Ze s19.2.2)),(.cells [(.d (Ze m1_0)),(.d (Ze m1_1)),(.d (D.list t0 (List.map ZaC m1_2))),(.d (D.list t1 (List.map ZA m1_3))),(.d (D.list t2 (List.map Zv m1_4))),(.d (D.list t3 (List.map ZD m1_5)))])]=some ((ZcJ t0 t1 t2 t3 b m1_0 m1_1 m1_2 m1_3 m1_4 m1_5 s19) r):=by
 refine Zah (ZcJ t0 t1 t2 t3 b m1_0 m1_1 m1_2 m1_3 m1_4 m1_5 s19) ?_
 intro s20 rcl ih
 show ZN _ _ (lpW _ _ _ _ _ _ _)
 unfold ZaL
 rw[Zai]
 conv=>rhs;whnf
 refine Zf rfl ?_ ?_<;>conv=>rhs;whnf
 ·refine Zk rfl rfl fun x21 hx21=>?_;conv=>rhs;whnf
  refine Zg (Zn rfl hx21) ?_;conv=>rhs;whnf
  refine Zk rfl rfl fun x22 hx22=>?_;conv=>rhs;whnf
  refine Zg (Zn rfl hx22) ?_;conv=>rhs;whnf
  refine Zq _ ZS rfl fun x23 hx23=>?_;conv=>rhs;whnf
  refine Zf rfl ?_ ?_<;>conv=>rhs;whnf
  ·exact Zd (ih _)
  ·exact Zh rfl
 ·exact Zh rfl
def ZcO (t0:Bool) (t1:Bool) (t2:Bool) (t3:Bool) (b:Int) (m1_0:Int) (m1_1:Int) (m1_2:List Zas) (m1_3:List Zo) (m1_4:List Zl) (m1_5:List Zw) (s19:Int×Int×(List Int)) (r24:Int):Int→Ex×List V×Zs
  | r=>(.exit 8,[(.sl 0 1),(.d (Ze b)),(.fn 75 [(.ptr 1 0)]),(.d (Ze r24)),(.d (Ze r))],[(.arr 1 (List.map Ze s19.2.2)),(.cells [(.d (Ze m1_0)),(.d (Ze m1_1)),(.d (D.list t0 (List.map ZaC m1_2))),(.d (D.list t1 (List.map ZA m1_3))),(.d (D.list t2 (List.map Zv m1_4))),(.d (D.list t3 (List.map ZD m1_5)))])])
theorem Zfm {t0 t1:Bool}{t2 t3:Bool}{b m1_0 m1_1:Int}{m1_2:List Zas}{m1_3:List Zo}{m1_4:List Zl}{m1_5:List Zw}{s19:Int×Int×(List Int)}{r24:Int}:∀(s25:Int) (r:Int),lp (ZaG b (fun z0 z1=>Zz z0 z1 m1_4) s19 r24) s25=some r→lpW ctx 2 [0,1,4,12,13] [0,1,4,12,13] Zz0 [(.sl 0 1),(.d (Ze b)),(.fn 75 [(.ptr 1 0)]),(.d (Ze r24)),(.d (Ze s25))] [(.arr 1 (List.map Ze s19.2.2)),(.cells [(.d (Ze m1_0)),(.d (Ze m1_1)),(.d (D.list t0 (List.map ZaC m1_2))),(.d (D.list t1 (List.map ZA m1_3))),(.d (D.list t2 (List.map Zv m1_4))),(.d (D.list t3 (List.map ZD m1_5)))])]=some ((ZcO t0 t1 t2 t3 b m1_0 m1_1 m1_2 m1_3 m1_4 m1_5 s19 r24) r):=by
 refine Zah (ZcO t0 t1 t2 t3 b m1_0 m1_1 m1_2 m1_3 m1_4 m1_5 s19 r24) ?_
 intro s25 rcl ih
 show ZN _ _ (lpW _ _ _ _ _ _ _)
 unfold ZaG
 rw[Zai]
 conv=>rhs;whnf
 refine Zf rfl ?_ ?_<;>conv=>rhs;whnf
 ·refine Zk rfl rfl fun x26 hx26=>?_;conv=>rhs;whnf
  refine Zg (Zn rfl hx26) ?_;conv=>rhs;whnf
  refine Zk rfl rfl fun x27 hx27=>?_;conv=>rhs;whnf
  refine Zg (Zn rfl hx27) ?_;conv=>rhs;whnf
  refine Zq _ ZS rfl fun x28 hx28=>?_;conv=>rhs;whnf
  refine Zf rfl ?_ ?_<;>conv=>rhs;whnf
  ·exact Zh rfl
  ·exact Zd (ih _)
 ·exact Zh rfl
def ZcM (t0:Bool) (t1:Bool) (t2:Bool) (t3:Bool) (b:Int) (m1_0:Int) (m1_1:Int) (m1_2:List Zas) (m1_3:List Zo) (m1_4:List Zl) (m1_5:List Zw):(Int×(List Int))→Ex×List V×Zs
  | r=>(.exit 4,[(.sl 0 1),(.d (Ze b)),(.d (Ze r.1))],[(.arr 1 (List.map Ze r.2)),(.cells [(.d (Ze m1_0)),(.d (Ze m1_1)),(.d (D.list t0 (List.map ZaC m1_2))),(.d (D.list t1 (List.map ZA m1_3))),(.d (D.list t2 (List.map Zv m1_4))),(.d (D.list t3 (List.map ZD m1_5)))])])
theorem ZfA {t0 t1:Bool}{t2 t3:Bool}{b m1_0 m1_1:Int}{m1_2:List Zas}{m1_3:List Zo}{m1_4:List Zl}{m1_5:List Zw}:∀(s19:Int×Int×(List Int)) (r:(Int×(List Int))),lp (Za8 b (fun z0 z1=>Zz z0 z1 m1_4)) s19=some r→lpW ctx 2 [0,1,4,12,13] [0,1,13] ZAy [(.sl 0 1),(.d (Ze b)),(.fn 75 [(.ptr 1 0)]),(.d (Ze s19.1)),(.d (Ze s19.2.1))] [(.arr 1 (List.map Ze s19.2.2)),(.cells [(.d (Ze m1_0)),(.d (Ze m1_1)),(.d (D.list t0 (List.map ZaC m1_2))),(.d (D.list t1 (List.map ZA m1_3))),(.d (D.list t2 (List.map Zv m1_4))),(.d (D.list t3 (List.map ZD m1_5)))])]=some ((ZcM t0 t1 t2 t3 b m1_0 m1_1 m1_2 m1_3 m1_4 m1_5) r):=by
 refine Zah (ZcM t0 t1 t2 t3 b m1_0 m1_1 m1_2 m1_3 m1_4 m1_5) ?_
 intro s19 rcl ih
 show ZN _ _ (lpW _ _ _ _ _ _ _)
 unfold Za8
 rw[Zai]
 conv=>rhs;whnf
 refine Zc _ (ZfB _) fun r24 hr24=>?_;conv=>rhs;whnf
 refine Zc _ (Zfm _) fun r29 hr29=>?_;conv=>rhs;whnf
 refine Zf rfl ?_ ?_<;>conv=>rhs;whnf
 ·exact Zh rfl
 ·refine Zk rfl rfl fun x30 hx30=>?_;conv=>rhs;whnf
  refine Zg (Zn rfl hx30) ?_;conv=>rhs;whnf
  refine Zk rfl rfl fun x31 hx31=>?_;conv=>rhs;whnf
  refine Zg (Zn rfl hx31) ?_;conv=>rhs;whnf
  refine Zg (Zam rfl hx31) ?_;conv=>rhs;whnf
  refine Zg (Zn rfl hx31) ?_;conv=>rhs;whnf
  refine Zm (ZZ Ze s19.2.2 r24.toNat x30) ?_;conv=>rhs;whnf
  refine Zk rfl rfl fun x32 hx32=>?_;conv=>rhs;whnf
  refine Zg (Zn rfl hx32) ?_;conv=>rhs;whnf
  refine Zm (ZZ Ze (List.set s19.2.2 r24.toNat x30) r29.toNat x31) ?_;conv=>rhs;whnf
  exact Zd (ih _)
theorem Zr {t0 t1:Bool}{t2 t3:Bool}{b c d:Int}{m0_0:List Int}{m1_0 m1_1:Int}{m1_2:List Zas}{m1_3:List Zo}{m1_4:List Zl}{m1_5:List Zw}:∀r,(Zu b c d (fun z0 z1=>Zz z0 z1 m1_4) m0_0)=some r→evW ctx 93 [(.sl 0 1),(.d (Ze b)),(.d (Ze c)),(.d (Ze d)),(.fn 75 [(.ptr 1 0)])] [(.arr 1 (List.map Ze m0_0)),(.cells [(.d (Ze m1_0)),(.d (Ze m1_1)),(.d (D.list t0 (List.map ZaC m1_2))),(.d (D.list t1 (List.map ZA m1_3))),(.d (D.list t2 (List.map Zv m1_4))),(.d (D.list t3 (List.map ZD m1_5)))])]=some ((Zc8 t0 t1 t2 t3 b c d m0_0 m1_0 m1_1 m1_2 m1_3 m1_4 m1_5) r):=by
 show ZN _ (fun r rhs=>rhs=some ((Zc8 t0 t1 t2 t3 b c d m0_0 m1_0 m1_1 m1_2 m1_3 m1_4 m1_5) r)) _
 unfold Zu
 rw[ZeK ctx 93 ZEs _ _ rfl rfl]
 conv=>rhs;whnf
 refine Zk rfl rfl fun x0 hx0=>?_;conv=>rhs;whnf
 refine Zg (Zn rfl hx0) ?_;conv=>rhs;whnf
 refine Zk rfl rfl fun x1 hx1=>?_;conv=>rhs;whnf
 refine Zg (Zn rfl hx1) ?_;conv=>rhs;whnf
 refine Zg (Zam rfl hx1) ?_;conv=>rhs;whnf
 refine Zg (Zn rfl hx1) ?_;conv=>rhs;whnf
 refine Zm (ZZ Ze m0_0 b.toNat x0) ?_;conv=>rhs;whnf
 refine Zk rfl rfl fun x2 hx2=>?_;conv=>rhs;whnf
 refine Zg (Zn rfl hx2) ?_;conv=>rhs;whnf
 refine Zm (ZZ Ze (List.set m0_0 b.toNat x0) d.toNat x1) ?_;conv=>rhs;whnf
 refine Zc _ (Zfw _) fun r7 hr7=>?_;conv=>rhs;whnf
 refine Zc _ (Zfu _) fun r12 hr12=>?_;conv=>rhs;whnf
 refine Zf rfl ?_ ?_<;>conv=>rhs;whnf
 ·refine Zk rfl rfl fun x13 hx13=>?_;conv=>rhs;whnf
  refine Zg (Zn rfl hx13) ?_;conv=>rhs;whnf
  refine Zk rfl rfl fun x14 hx14=>?_;conv=>rhs;whnf
  refine Zg (Zn rfl hx14) ?_;conv=>rhs;whnf
  refine Zg (Zam rfl hx14) ?_;conv=>rhs;whnf
  refine Zg (Zn rfl hx14) ?_;conv=>rhs;whnf
  refine Zm (ZZ Ze (List.set (List.set m0_0 b.toNat x0) d.toNat x1) r12.toNat x13) ?_;conv=>rhs;whnf
  refine Zk rfl rfl fun x15 hx15=>?_;conv=>rhs;whnf
  refine Zg (Zn rfl hx15) ?_;conv=>rhs;whnf
  refine Zm (ZZ Ze (List.set (List.set (List.set m0_0 b.toNat x0) d.toNat x1) r12.toNat x13) b.toNat x14) ?_;conv=>rhs;whnf
  exact Zh rfl
 ·refine Zk rfl rfl fun x16 hx16=>?_;conv=>rhs;whnf
  refine Zg (Zn rfl hx16) ?_;conv=>rhs;whnf
  refine Zk rfl rfl fun x17 hx17=>?_;conv=>rhs;whnf
  refine Zg (Zn rfl hx17) ?_;conv=>rhs;whnf
  refine Zg (Zam rfl hx17) ?_;conv=>rhs;whnf
  refine Zg (Zn rfl hx17) ?_;conv=>rhs;whnf
  refine Zm (ZZ Ze (List.set (List.set m0_0 b.toNat x0) d.toNat x1) r7.toNat x16) ?_;conv=>rhs;whnf
  refine Zk rfl rfl fun x18 hx18=>?_;conv=>rhs;whnf
  refine Zg (Zn rfl hx18) ?_;conv=>rhs;whnf
  refine Zm (ZZ Ze (List.set (List.set (List.set m0_0 b.toNat x0) d.toNat x1) r7.toNat x16) r12.toNat x17) ?_;conv=>rhs;whnf
  refine Zc _ (ZfA _) fun r33 hr33=>?_;conv=>rhs;whnf
  refine Zk rfl rfl fun x34 hx34=>?_;conv=>rhs;whnf
  refine Zg (Zn rfl hx34) ?_;conv=>rhs;whnf
  refine Zk rfl rfl fun x35 hx35=>?_;conv=>rhs;whnf
  refine Zg (Zn rfl hx35) ?_;conv=>rhs;whnf
  refine Zg (Zam rfl hx35) ?_;conv=>rhs;whnf
  refine Zg (Zn rfl hx35) ?_;conv=>rhs;whnf
  refine Zm (ZZ Ze r33.2 r33.1.toNat x34) ?_;conv=>rhs;whnf
  refine Zk rfl rfl fun x36 hx36=>?_;conv=>rhs;whnf
  refine Zg (Zn rfl hx36) ?_;conv=>rhs;whnf
  refine Zm (ZZ Ze (List.set r33.2 r33.1.toNat x34) b.toNat x35) ?_;conv=>rhs;whnf
  exact Zh rfl
def Zcz (t0:Bool) (t1:Bool) (t2:Bool) (t3:Bool) (b:Int) (c:Int) (d:Int) (m0_0:List Int) (m1_0:Int) (m1_1:Int) (m1_2:List Zas) (m1_3:List Zo) (m1_4:List Zl) (m1_5:List Zw):(Int×(List Int))→V×Zs
  | r=>((.d (Ze r.1)),[(.arr 1 (List.map Ze r.2)),(.cells [(.d (Ze m1_0)),(.d (Ze m1_1)),(.d (D.list t0 (List.map ZaC m1_2))),(.d (D.list t1 (List.map ZA m1_3))),(.d (D.list t2 (List.map Zv m1_4))),(.d (D.list t3 (List.map ZD m1_5)))])])
def Zcj (t0:Bool) (t1:Bool) (t2:Bool) (t3:Bool) (b:Int) (m1_0:Int) (m1_1:Int) (m1_2:List Zas) (m1_3:List Zo) (m1_4:List Zl) (m1_5:List Zw) (s3:Int×Int×(List Int)):Int→Ex×List V×Zs
  | r=>(.exit 2,[(.sl 0 1),(.d (Ze b)),(.fn 75 [(.ptr 1 0)]),(.d (Ze r)),(.d (Ze s3.2.1))],[(.arr 1 (List.map Ze s3.2.2)),(.cells [(.d (Ze m1_0)),(.d (Ze m1_1)),(.d (D.list t0 (List.map ZaC m1_2))),(.d (D.list t1 (List.map ZA m1_3))),(.d (D.list t2 (List.map Zv m1_4))),(.d (D.list t3 (List.map ZD m1_5)))])])
theorem Zes {t0 t1:Bool}{t2 t3:Bool}{b m1_0 m1_1:Int}{m1_2:List Zas}{m1_3:List Zo}{m1_4:List Zl}{m1_5:List Zw}{s3:Int×Int×(List Int)}:∀(s4:Int) (r:Int),lp (Zaj b (fun z0 z1=>Zz z0 z1 m1_4) s3) s4=some r→lpW ctx 2 [0,1,4,11,12] [0,1,4,11,12] ZAT [(.sl 0 1),(.d (Ze b)),(.fn 75 [(.ptr 1 0)]),(.d (Ze s4)),(.d (Ze s3.2.1))] [(.arr 1 (List.map Ze s3.2.2)),(.cells [(.d (Ze m1_0)),(.d (Ze m1_1)),(.d (D.list t0 (List.map ZaC m1_2))),(.d (D.list t1 (List.map ZA m1_3))),(.d (D.list t2 (List.map Zv m1_4))),(.d (D.list t3 (List.map ZD m1_5)))])]=some ((Zcj t0 t1 t2 t3 b m1_0 m1_1 m1_2 m1_3 m1_4 m1_5 s3) r):=by
 refine Zah (Zcj t0 t1 t2 t3 b m1_0 m1_1 m1_2 m1_3 m1_4 m1_5 s3) ?_
 intro s4 rcl ih
 show ZN _ _ (lpW _ _ _ _ _ _ _)
 unfold Zaj
 rw[Zai]
 conv=>rhs;whnf
 refine Zf rfl ?_ ?_<;>conv=>rhs;whnf
 ·refine Zk rfl rfl fun x5 hx5=>?_;conv=>rhs;whnf
  refine Zg (Zn rfl hx5) ?_;conv=>rhs;whnf
  refine Zk rfl rfl fun x6 hx6=>?_;conv=>rhs;whnf
  refine Zg (Zn rfl hx6) ?_;conv=>rhs;whnf
  refine Zq _ ZS rfl fun x7 hx7=>?_;conv=>rhs;whnf
  refine Zf rfl ?_ ?_<;>conv=>rhs;whnf
  ·exact Zh rfl
  ·exact Zd (ih _)
 ·exact Zh rfl
def Zck (t0:Bool) (t1:Bool) (t2:Bool) (t3:Bool) (b:Int) (m1_0:Int) (m1_1:Int) (m1_2:List Zas) (m1_3:List Zo) (m1_4:List Zl) (m1_5:List Zw) (s3:Int×Int×(List Int)) (r8:Int):Int→Ex×List V×Zs
  | r=>(.exit 4,[(.sl 0 1),(.d (Ze b)),(.fn 75 [(.ptr 1 0)]),(.d (Ze r8)),(.d (Ze r))],[(.arr 1 (List.map Ze s3.2.2)),(.cells [(.d (Ze m1_0)),(.d (Ze m1_1)),(.d (D.list t0 (List.map ZaC m1_2))),(.d (D.list t1 (List.map ZA m1_3))),(.d (D.list t2 (List.map Zv m1_4))),(.d (D.list t3 (List.map ZD m1_5)))])])
theorem ZeC {t0 t1:Bool}{t2 t3:Bool}{b m1_0 m1_1:Int}{m1_2:List Zas}{m1_3:List Zo}{m1_4:List Zl}{m1_5:List Zw}{s3:Int×Int×(List Int)}{r8:Int}:∀(s9:Int) (r:Int),lp (Zak b (fun z0 z1=>Zz z0 z1 m1_4) s3 r8) s9=some r→lpW ctx 2 [0,1,4,11,12] [0,1,4,11,12] Zzb [(.sl 0 1),(.d (Ze b)),(.fn 75 [(.ptr 1 0)]),(.d (Ze r8)),(.d (Ze s9))] [(.arr 1 (List.map Ze s3.2.2)),(.cells [(.d (Ze m1_0)),(.d (Ze m1_1)),(.d (D.list t0 (List.map ZaC m1_2))),(.d (D.list t1 (List.map ZA m1_3))),(.d (D.list t2 (List.map Zv m1_4))),(.d (D.list t3 (List.map ZD m1_5)))])]=some ((Zck t0 t1 t2 t3 b m1_0 m1_1 m1_2 m1_3 m1_4 m1_5 s3 r8) r):=by
 refine Zah (Zck t0 t1 t2 t3 b m1_0 m1_1 m1_2 m1_3 m1_4 m1_5 s3 r8) ?_
 intro s9 rcl ih
 show ZN _ _ (lpW _ _ _ _ _ _ _)
 unfold Zak
 rw[Zai]
 conv=>rhs;whnf
 refine Zf rfl ?_ ?_<;>conv=>rhs;whnf
 ·refine Zk rfl rfl fun x10 hx10=>?_;conv=>rhs;whnf
  refine Zg (Zn rfl hx10) ?_;conv=>rhs;whnf
  refine Zk rfl rfl fun x11 hx11=>?_;conv=>rhs;whnf
  refine Zg (Zn rfl hx11) ?_;conv=>rhs;whnf
  refine Zq _ ZS rfl fun x12 hx12=>?_;conv=>rhs;whnf
  refine Zf rfl ?_ ?_<;>conv=>rhs;whnf
  ·exact Zd (ih _)
  ·exact Zh rfl
 ·exact Zh rfl
def Zci (t0:Bool) (t1:Bool) (t2:Bool) (t3:Bool) (b:Int) (m1_0:Int) (m1_1:Int) (m1_2:List Zas) (m1_3:List Zo) (m1_4:List Zl) (m1_5:List Zw):(Int×(List Int))→Ex×List V×Zs
  | r=>(.exit 0,[(.d (Ze r.1))],[(.arr 1 (List.map Ze r.2)),(.cells [(.d (Ze m1_0)),(.d (Ze m1_1)),(.d (D.list t0 (List.map ZaC m1_2))),(.d (D.list t1 (List.map ZA m1_3))),(.d (D.list t2 (List.map Zv m1_4))),(.d (D.list t3 (List.map ZD m1_5)))])])
theorem Zew {t0 t1:Bool}{t2 t3:Bool}{b m1_0 m1_1:Int}{m1_2:List Zas}{m1_3:List Zo}{m1_4:List Zl}{m1_5:List Zw}:∀(s3:Int×Int×(List Int)) (r:(Int×(List Int))),lp (Zax b (fun z0 z1=>Zz z0 z1 m1_4)) s3=some r→lpW ctx 2 [0,1,4,11,12] [11] ZAE [(.sl 0 1),(.d (Ze b)),(.fn 75 [(.ptr 1 0)]),(.d (Ze s3.1)),(.d (Ze s3.2.1))] [(.arr 1 (List.map Ze s3.2.2)),(.cells [(.d (Ze m1_0)),(.d (Ze m1_1)),(.d (D.list t0 (List.map ZaC m1_2))),(.d (D.list t1 (List.map ZA m1_3))),(.d (D.list t2 (List.map Zv m1_4))),(.d (D.list t3 (List.map ZD m1_5)))])]=some ((Zci t0 t1 t2 t3 b m1_0 m1_1 m1_2 m1_3 m1_4 m1_5) r):=by
 refine Zah (Zci t0 t1 t2 t3 b m1_0 m1_1 m1_2 m1_3 m1_4 m1_5) ?_
 intro s3 rcl ih
 show ZN _ _ (lpW _ _ _ _ _ _ _)
 unfold Zax
 rw[Zai]
 conv=>rhs;whnf
 refine Zc _ (Zes _) fun r8 hr8=>?_;conv=>rhs;whnf
 refine Zc _ (ZeC _) fun r13 hr13=>?_;conv=>rhs;whnf
 refine Zf rfl ?_ ?_<;>conv=>rhs;whnf
 ·exact Zh rfl
 ·refine Zk rfl rfl fun x14 hx14=>?_;conv=>rhs;whnf
  refine Zg (Zn rfl hx14) ?_;conv=>rhs;whnf
  refine Zk rfl rfl fun x15 hx15=>?_;conv=>rhs;whnf
  refine Zg (Zn rfl hx15) ?_;conv=>rhs;whnf
  refine Zg (Zam rfl hx15) ?_;conv=>rhs;whnf
  refine Zg (Zn rfl hx15) ?_;conv=>rhs;whnf
  refine Zm (ZZ Ze s3.2.2 r8.toNat x14) ?_;conv=>rhs;whnf
  refine Zk rfl rfl fun x16 hx16=>?_;conv=>rhs;whnf
  refine Zg (Zn rfl hx16) ?_;conv=>rhs;whnf
  refine Zm (ZZ Ze (List.set s3.2.2 r8.toNat x14) r13.toNat x15) ?_;conv=>rhs;whnf
  exact Zd (ih _)
theorem ZG {t0 t1:Bool}{t2 t3:Bool}{b c d:Int}{m0_0:List Int}{m1_0 m1_1:Int}{m1_2:List Zas}{m1_3:List Zo}{m1_4:List Zl}{m1_5:List Zw}:∀r,(ZF b c d (fun z0 z1=>Zz z0 z1 m1_4) m0_0)=some r→evW ctx 92 [(.sl 0 1),(.d (Ze b)),(.d (Ze c)),(.d (Ze d)),(.fn 75 [(.ptr 1 0)])] [(.arr 1 (List.map Ze m0_0)),(.cells [(.d (Ze m1_0)),(.d (Ze m1_1)),(.d (D.list t0 (List.map ZaC m1_2))),(.d (D.list t1 (List.map ZA m1_3))),(.d (D.list t2 (List.map Zv m1_4))),(.d (D.list t3 (List.map ZD m1_5)))])]=some ((Zcz t0 t1 t2 t3 b c d m0_0 m1_0 m1_1 m1_2 m1_3 m1_4 m1_5) r):=by
 show ZN _ (fun r rhs=>rhs=some ((Zcz t0 t1 t2 t3 b c d m0_0 m1_0 m1_1 m1_2 m1_3 m1_4 m1_5) r)) _
 unfold ZF
 rw[ZeK ctx 92 ZDv _ _ rfl rfl]
 conv=>rhs;whnf
 refine Zk rfl rfl fun x0 hx0=>?_;conv=>rhs;whnf
 refine Zg (Zn rfl hx0) ?_;conv=>rhs;whnf
 refine Zk rfl rfl fun x1 hx1=>?_;conv=>rhs;whnf
 refine Zg (Zn rfl hx1) ?_;conv=>rhs;whnf
 refine Zg (Zam rfl hx1) ?_;conv=>rhs;whnf
 refine Zg (Zn rfl hx1) ?_;conv=>rhs;whnf
 refine Zm (ZZ Ze m0_0 b.toNat x0) ?_;conv=>rhs;whnf
 refine Zk rfl rfl fun x2 hx2=>?_;conv=>rhs;whnf
 refine Zg (Zn rfl hx2) ?_;conv=>rhs;whnf
 refine Zm (ZZ Ze (List.set m0_0 b.toNat x0) d.toNat x1) ?_;conv=>rhs;whnf
 refine Zc _ (Zew _) fun r17 hr17=>?_;conv=>rhs;whnf
 exact Zh rfl
def ZhW (r:Int):D:=(D.int .u64 r)
theorem ZhE {a:Int}:∀r,(ZcE a)=some r→evD ctx 106 [(.d (Ze a))]=some (ZhW r):=by
 show ZN _ (fun r rhs=>rhs=some (ZhW r)) _
 unfold ZcE
 rw[Zbj ctx 106 ZzS _ rfl rfl]
 conv=>rhs;whnf
 refine Zq _ ZiB rfl fun x0 hx0=>?_;conv=>rhs;whnf
 refine Zf rfl ?_ ?_
 ·exact ZaH
 ·conv=>rhs;whnf
  exact Zh rfl
def Zia (m0_0:Int):Unit→V×Zs
  | r=>((.d (D.int .u64 (u64.wrap (Zi (u64.wrap (Zi (u64.wrap (Zi m0_0 ^^^ Zi (u64.wrap (m0_0*2 ^ 13))).toNat) ^^^ Zi (Int.fdiv (u64.wrap (Zi m0_0 ^^^ Zi (u64.wrap (m0_0*2 ^ 13))).toNat) (2 ^ 7))).toNat) ^^^ Zi (u64.wrap ((u64.wrap (Zi (u64.wrap (Zi m0_0 ^^^ Zi (u64.wrap (m0_0*2 ^ 13))).toNat) ^^^ Zi (Int.fdiv (u64.wrap (Zi m0_0 ^^^ Zi (u64.wrap (m0_0*2 ^ 13))).toNat) (2 ^ 7))).toNat)*2 ^ 17))).toNat))),[(.cells [(.d (D.int .u64 (u64.wrap (Zi (u64.wrap (Zi (u64.wrap (Zi m0_0 ^^^ Zi (u64.wrap (m0_0*2 ^ 13))).toNat) ^^^ Zi (Int.fdiv (u64.wrap (Zi m0_0 ^^^ Zi (u64.wrap (m0_0*2 ^ 13))).toNat) (2 ^ 7))).toNat) ^^^ Zi (u64.wrap ((u64.wrap (Zi (u64.wrap (Zi m0_0 ^^^ Zi (u64.wrap (m0_0*2 ^ 13))).toNat) ^^^ Zi (Int.fdiv (u64.wrap (Zi m0_0 ^^^ Zi (u64.wrap (m0_0*2 ^ 13))).toNat) (2 ^ 7))).toNat)*2 ^ 17))).toNat)))])])
theorem ZhY {m0_0:Int}:∀r,ZdM=some r→evW ctx 107 [(.ptr 0 0)] [(.cells [(.d (D.int .u64 m0_0))])]=some ((Zia m0_0) r):=by
 show ZN _ (fun r rhs=>rhs=some ((Zia m0_0) r)) _
 unfold ZdM
 rw[ZeK ctx 107 ZAg _ _ rfl rfl]
 conv=>rhs;whnf
 refine ZV rfl ?_;conv=>rhs;whnf
 refine ZV rfl ?_;conv=>rhs;whnf
 refine ZV rfl ?_;conv=>rhs;whnf
 exact Zh rfl
def ZcD (t0:Bool) (t1:Bool) (t2:Bool) (t3:Bool) (b:Int) (c:Int) (m0_0:List Int) (m1_0:Int) (m1_1:Int) (m1_2:List Zas) (m1_3:List Zo) (m1_4:List Zl) (m1_5:List Zw):(List Int)→V×Zs
  | r=>((.d (D.tup [])),[(.arr 1 (List.map Ze r)),(.cells [(.d (Ze m1_0)),(.d (Ze m1_1)),(.d (D.list t0 (List.map ZaC m1_2))),(.d (D.list t1 (List.map ZA m1_3))),(.d (D.list t2 (List.map Zv m1_4))),(.d (D.list t3 (List.map ZD m1_5)))])])
def Zcn (t0:Bool) (t1:Bool) (t2:Bool) (t3:Bool) (b:Int) (c:Int) (m1_0:Int) (m1_1:Int) (m1_2:List Zas) (m1_3:List Zo) (m1_4:List Zl) (m1_5:List Zw) (x0:Int):(List Int)→Ex×List V×Zs
  | r=>(.exit 0,[],[(.arr 1 (List.map Ze r)),(.cells [(.d (Ze m1_0)),(.d (Ze m1_1)),(.d (D.list t0 (List.map ZaC m1_2))),(.d (D.list t1 (List.map ZA m1_3))),(.d (D.list t2 (List.map Zv m1_4))),(.d (D.list t3 (List.map ZD m1_5)))])])
theorem ZeG {t0 t1:Bool}{t2 t3:Bool}{b c:Int}{m1_0 m1_1:Int}{m1_2:List Zas}{m1_3:List Zo}{m1_4:List Zl}{m1_5:List Zw}{x0:Int}:∀(s1:Int×(List Int)×Int) (r:List Int),lp (ZaF b c x0) s1=some r→lpW ctx 2 [0,1,8,9,10,11] [] Zze [(.sl 0 1),(.d (Ze b)),(.d (Ze (w64 (c-b)))),(.ptr 2 0),(.d (D.int .u64 x0)),(.d (Ze s1.1))] [(.arr 1 (List.map Ze s1.2.1)),(.cells [(.d (Ze m1_0)),(.d (Ze m1_1)),(.d (D.list t0 (List.map ZaC m1_2))),(.d (D.list t1 (List.map ZA m1_3))),(.d (D.list t2 (List.map Zv m1_4))),(.d (D.list t3 (List.map ZD m1_5)))]),(.cells [(.d (D.int .u64 s1.2.2))])]=some ((Zcn t0 t1 t2 t3 b c m1_0 m1_1 m1_2 m1_3 m1_4 m1_5 x0) r):=by
 refine Zah (Zcn t0 t1 t2 t3 b c m1_0 m1_1 m1_2 m1_3 m1_4 m1_5 x0) ?_
 intro s1 rcl ih
 show ZN _ _ (lpW _ _ _ _ _ _ _)
 unfold ZaF
 rw[Zai]
 conv=>rhs;whnf
 refine ZV rfl ?_;conv=>rhs;whnf
 refine Zf rfl ?_ ?_<;>conv=>rhs;whnf
 ·refine Zc _ ZhY fun x2 hx2=>?_;conv=>rhs;whnf
  refine Zf rfl ?_ ?_<;>conv=>rhs;whnf
  ·refine Zk rfl rfl fun x3 hx3=>?_;conv=>rhs;whnf
   refine Zg (Zn rfl hx3) ?_;conv=>rhs;whnf
   refine Zk rfl rfl fun x4 hx4=>?_;conv=>rhs;whnf
   refine Zg (Zn rfl hx4) ?_;conv=>rhs;whnf
   refine Zg (Zam rfl hx4) ?_;conv=>rhs;whnf
   refine Zg (Zn rfl hx4) ?_;conv=>rhs;whnf
   refine Zm (ZZ Ze s1.2.1 s1.1.toNat x3) ?_;conv=>rhs;whnf
   refine Zk rfl rfl fun x5 hx5=>?_;conv=>rhs;whnf
   refine Zg (Zn rfl hx5) ?_;conv=>rhs;whnf
   refine Zm (ZZ Ze (List.set s1.2.1 s1.1.toNat x3) (w64 (b+(w64 ((w64 (u64.wrap (Zi (u64.wrap (Zi (u64.wrap (Zi (u64.wrap (Zi s1.2.2 ^^^ Zi (u64.wrap (s1.2.2*2 ^ 13))).toNat) ^^^ Zi (Int.fdiv (u64.wrap (Zi s1.2.2 ^^^ Zi (u64.wrap (s1.2.2*2 ^ 13))).toNat) (2 ^ 7))).toNat) ^^^ Zi (u64.wrap ((u64.wrap (Zi (u64.wrap (Zi s1.2.2 ^^^ Zi (u64.wrap (s1.2.2*2 ^ 13))).toNat) ^^^ Zi (Int.fdiv (u64.wrap (Zi s1.2.2 ^^^ Zi (u64.wrap (s1.2.2*2 ^ 13))).toNat) (2 ^ 7))).toNat)*2 ^ 17))).toNat) &&& Zi (u64.wrap (x0-1))).toNat))-(w64 (c-b)))))).toNat x4) ?_;conv=>rhs;whnf
   exact Zd (ih _)
  ·refine Zk rfl rfl fun x6 hx6=>?_;conv=>rhs;whnf
   refine Zg (Zn rfl hx6) ?_;conv=>rhs;whnf
   refine Zk rfl rfl fun x7 hx7=>?_;conv=>rhs;whnf
   refine Zg (Zn rfl hx7) ?_;conv=>rhs;whnf
   refine Zg (Zam rfl hx7) ?_;conv=>rhs;whnf
   refine Zg (Zn rfl hx7) ?_;conv=>rhs;whnf
   refine Zm (ZZ Ze s1.2.1 s1.1.toNat x6) ?_;conv=>rhs;whnf
   refine Zk rfl rfl fun x8 hx8=>?_;conv=>rhs;whnf
   refine Zg (Zn rfl hx8) ?_;conv=>rhs;whnf
   refine Zm (ZZ Ze (List.set s1.2.1 s1.1.toNat x6) (w64 (b+(w64 (u64.wrap (Zi (u64.wrap (Zi (u64.wrap (Zi (u64.wrap (Zi s1.2.2 ^^^ Zi (u64.wrap (s1.2.2*2 ^ 13))).toNat) ^^^ Zi (Int.fdiv (u64.wrap (Zi s1.2.2 ^^^ Zi (u64.wrap (s1.2.2*2 ^ 13))).toNat) (2 ^ 7))).toNat) ^^^ Zi (u64.wrap ((u64.wrap (Zi (u64.wrap (Zi s1.2.2 ^^^ Zi (u64.wrap (s1.2.2*2 ^ 13))).toNat) ^^^ Zi (Int.fdiv (u64.wrap (Zi s1.2.2 ^^^ Zi (u64.wrap (s1.2.2*2 ^ 13))).toNat) (2 ^ 7))).toNat)*2 ^ 17))).toNat) &&& Zi (u64.wrap (x0-1))).toNat)))).toNat x7) ?_;conv=>rhs;whnf
   exact Zd (ih _)
 ·exact Zh rfl
theorem ZcA {t0 t1:Bool}{t2 t3:Bool}{b c:Int}{m0_0:List Int}{m1_0 m1_1:Int}{m1_2:List Zas}{m1_3:List Zo}{m1_4:List Zl}{m1_5:List Zw}:∀r,(Zan b c (fun z0 z1=>Zz z0 z1 m1_4) m0_0)=some r→evW ctx 88 [(.sl 0 1),(.d (Ze b)),(.d (Ze c)),(.fn 75 [(.ptr 1 0)])] [(.arr 1 (List.map Ze m0_0)),(.cells [(.d (Ze m1_0)),(.d (Ze m1_1)),(.d (D.list t0 (List.map ZaC m1_2))),(.d (D.list t1 (List.map ZA m1_3))),(.d (D.list t2 (List.map Zv m1_4))),(.d (D.list t3 (List.map ZD m1_5)))])]=some ((ZcD t0 t1 t2 t3 b c m0_0 m1_0 m1_1 m1_2 m1_3 m1_4 m1_5) r):=by
 show ZN _ (fun r rhs=>rhs=some ((ZcD t0 t1 t2 t3 b c m0_0 m1_0 m1_1 m1_2 m1_3 m1_4 m1_5) r)) _
 unfold Zan
 rw[ZeK ctx 88 ZEt _ _ rfl rfl]
 conv=>rhs;whnf
 refine Zf rfl ?_ ?_<;>conv=>rhs;whnf
 ·refine Zq _ ZhE rfl fun x0 hx0=>?_;conv=>rhs;whnf
  refine ZV rfl ?_;conv=>rhs;whnf
  refine Zc _ (ZeG _) fun r9 hr9=>?_;conv=>rhs;whnf
  exact Zh rfl
 ·exact Zh rfl
def Za (t0:Bool) (t1:Bool) (t2:Bool) (t3:Bool) (b:Int) (c:Int) (d:Int) (m0_0:List Int) (m1_0:Int) (m1_1:Int) (m1_2:List Zas) (m1_3:List Zo) (m1_4:List Zl) (m1_5:List Zw):(List Int)→V×Zs
  | r=>((.d (D.tup [])),[(.arr 1 (List.map Ze r)),(.cells [(.d (Ze m1_0)),(.d (Ze m1_1)),(.d (D.list t0 (List.map ZaC m1_2))),(.d (D.list t1 (List.map ZA m1_3))),(.d (D.list t2 (List.map Zv m1_4))),(.d (D.list t3 (List.map ZD m1_5)))])])
def Zc3 (t0:Bool) (t1:Bool) (t2:Bool) (t3:Bool) (m1_0:Int) (m1_1:Int) (m1_2:List Zas) (m1_3:List Zo) (m1_4:List Zl) (m1_5:List Zw) (rc:Int→Int→Int→(Int→Int→Option Int)→(List Int)→Option (List Int)):(List Int)→Ex×List V×Zs
  | r=>(.ret,[],[(.arr 1 (List.map Ze r)),(.cells [(.d (Ze m1_0)),(.d (Ze m1_1)),(.d (D.list t0 (List.map ZaC m1_2))),(.d (D.list t1 (List.map ZA m1_3))),(.d (D.list t2 (List.map Zv m1_4))),(.d (D.list t3 (List.map ZD m1_5)))])])
theorem ZfX {t0 t1:Bool}{t2 t3:Bool}{m1_0 m1_1:Int}{m1_2:List Zas}{m1_3:List Zo}{m1_4:List Zl}{m1_5:List Zw}{rc:Int→Int→Int→(Int→Int→Option Int)→(List Int)→Option (List Int)} (hrc:∀(t0:Bool) (t1:Bool) (t2:Bool) (t3:Bool) (b:Int) (c:Int) (d:Int) (m0_0:List Int) (m1_0:Int) (m1_1:Int) (m1_2:List Zas) (m1_3:List Zo) (m1_4:List Zl) (m1_5:List Zw) (r:List Int),rc b c d (fun z0 z1=>Zz z0 z1 m1_4) m0_0=some r→evW ctx 83 [(.sl 0 1),(.d (Ze b)),(.d (Ze c)),(.d (Ze d)),(.fn 75 [(.ptr 1 0)])] [(.arr 1 (List.map Ze m0_0)),(.cells [(.d (Ze m1_0)),(.d (Ze m1_1)),(.d (D.list t0 (List.map ZaC m1_2))),(.d (D.list t1 (List.map ZA m1_3))),(.d (D.list t2 (List.map Zv m1_4))),(.d (D.list t3 (List.map ZD m1_5)))])]=some ((Za t0 t1 t2 t3 b c d m0_0 m1_0 m1_1 m1_2 m1_3 m1_4 m1_5) r)):∀(s0:Int×Int×Int×Bool×Bool×(List Int)) (r:List Int),lp (Z0 (fun z0 z1=>Zz z0 z1 m1_4) rc) s0=some r→lpW ctx 2 [0,1,2,3,4,10,11] [] Zz6 [(.sl 0 1),(.d (Ze s0.1)),(.d (Ze s0.2.1)),(.d (Ze s0.2.2.1)),(.fn 75 [(.ptr 1 0)]),(.d (D.bool s0.2.2.2.1)),(.d (D.bool s0.2.2.2.2.1))] [(.arr 1 (List.map Ze s0.2.2.2.2.2)),(.cells [(.d (Ze m1_0)),(.d (Ze m1_1)),(.d (D.list t0 (List.map ZaC m1_2))),(.d (D.list t1 (List.map ZA m1_3))),(.d (D.list t2 (List.map Zv m1_4))),(.d (D.list t3 (List.map ZD m1_5)))])]=some ((Zc3 t0 t1 t2 t3 m1_0 m1_1 m1_2 m1_3 m1_4 m1_5 rc) r):=by
 refine Zah (Zc3 t0 t1 t2 t3 m1_0 m1_1 m1_2 m1_3 m1_4 m1_5 rc) ?_
 intro s0 rcl ih
 show ZN _ _ (lpW _ _ _ _ _ _ _)
 unfold Z0
 rw[Zai]
 rcases hb:s0.2.2.2.1 with _ | _
 ·refine Zq0 ?_
  rcases hb:s0.2.2.2.2.1 with _ | _
  ·refine Zq0 ?_;conv=>rhs;whnf
   refine Zf rfl ?_ ?_<;>conv=>rhs;whnf
   ·refine Zc _ ZaX fun x170 hx170=>?_;conv=>rhs;whnf
    exact Zh rfl
   ·refine Zf rfl ?_ ?_<;>conv=>rhs;whnf
    ·refine Zc _ Zbh fun x171 hx171=>?_;conv=>rhs;whnf
     exact Zh rfl
    ·refine Zc _ ZcA fun x172 hx172=>?_;conv=>rhs;whnf
     refine Zc _ Za5 fun x173 hx173=>?_;conv=>rhs;whnf
     refine Zf rfl ?_ ?_<;>conv=>rhs;whnf
     ·refine Zc _ Za3 fun x174 hx174=>?_;conv=>rhs;whnf
      refine Zf rfl ?_ ?_<;>conv=>rhs;whnf
      ·refine Zk rfl rfl fun x175 hx175=>?_;conv=>rhs;whnf
       refine Zg (Zn rfl hx175) ?_;conv=>rhs;whnf
       refine Zk rfl rfl fun x176 hx176=>?_;conv=>rhs;whnf
       refine Zg (Zn rfl hx176) ?_;conv=>rhs;whnf
       refine Zq _ ZS rfl fun x177 hx177=>?_;conv=>rhs;whnf
       refine Zf rfl ?_ ?_<;>conv=>rhs;whnf
       ·refine Zc _ Zr fun x178 hx178=>?_
        clear hx178
        rcases x178 with x178 | x178
        ·conv=>rhs;whnf
         refine Zbl rfl ?_;conv=>rhs;whnf
         refine ZV rfl ?_;conv=>rhs;whnf
         refine Zf rfl ?_ ?_<;>conv=>rhs;whnf
         ·refine Zf rfl ?_ ?_<;>conv=>rhs;whnf
          ·refine Zc (Za t0 t1 t2 t3 s0.1 x178.1 (w64 (s0.2.2.1-1)) x178.2 m1_0 m1_1 m1_2 m1_3 m1_4 m1_5) (hrc t0 t1 t2 t3 s0.1 x178.1 (w64 (s0.2.2.1-1)) x178.2 m1_0 m1_1 m1_2 m1_3 m1_4 m1_5) fun x179 hx179=>?_;conv=>rhs;whnf
           exact Zd (ih _)
          ·refine Zc (Za t0 t1 t2 t3 s0.1 x178.1 (w64 (s0.2.2.1-1)) x178.2 m1_0 m1_1 m1_2 m1_3 m1_4 m1_5) (hrc t0 t1 t2 t3 s0.1 x178.1 (w64 (s0.2.2.1-1)) x178.2 m1_0 m1_1 m1_2 m1_3 m1_4 m1_5) fun x180 hx180=>?_;conv=>rhs;whnf
           exact Zd (ih _)
         ·refine Zf rfl ?_ ?_<;>conv=>rhs;whnf
          ·refine Zc (Za t0 t1 t2 t3 (w64 (x178.1+1)) s0.2.1 (w64 (s0.2.2.1-1)) x178.2 m1_0 m1_1 m1_2 m1_3 m1_4 m1_5) (hrc t0 t1 t2 t3 (w64 (x178.1+1)) s0.2.1 (w64 (s0.2.2.1-1)) x178.2 m1_0 m1_1 m1_2 m1_3 m1_4 m1_5) fun x181 hx181=>?_;conv=>rhs;whnf
           exact Zd (ih _)
          ·refine Zc (Za t0 t1 t2 t3 (w64 (x178.1+1)) s0.2.1 (w64 (s0.2.2.1-1)) x178.2 m1_0 m1_1 m1_2 m1_3 m1_4 m1_5) (hrc t0 t1 t2 t3 (w64 (x178.1+1)) s0.2.1 (w64 (s0.2.2.1-1)) x178.2 m1_0 m1_1 m1_2 m1_3 m1_4 m1_5) fun x182 hx182=>?_;conv=>rhs;whnf
           exact Zd (ih _)
        ·conv=>rhs;whnf
         refine ZV rfl ?_;conv=>rhs;whnf
         refine ZV rfl ?_;conv=>rhs;whnf
         refine Zf rfl ?_ ?_<;>conv=>rhs;whnf
         ·refine Zf rfl ?_ ?_<;>conv=>rhs;whnf
          ·refine Zc (Za t0 t1 t2 t3 s0.1 x178.1 (w64 (s0.2.2.1-1)) x178.2 m1_0 m1_1 m1_2 m1_3 m1_4 m1_5) (hrc t0 t1 t2 t3 s0.1 x178.1 (w64 (s0.2.2.1-1)) x178.2 m1_0 m1_1 m1_2 m1_3 m1_4 m1_5) fun x183 hx183=>?_;conv=>rhs;whnf
           exact Zd (ih _)
          ·refine Zc (Za t0 t1 t2 t3 s0.1 x178.1 (w64 (s0.2.2.1-1)) x178.2 m1_0 m1_1 m1_2 m1_3 m1_4 m1_5) (hrc t0 t1 t2 t3 s0.1 x178.1 (w64 (s0.2.2.1-1)) x178.2 m1_0 m1_1 m1_2 m1_3 m1_4 m1_5) fun x184 hx184=>?_;conv=>rhs;whnf
           exact Zd (ih _)
         ·refine Zf rfl ?_ ?_<;>conv=>rhs;whnf
          ·refine Zc (Za t0 t1 t2 t3 (w64 (x178.1+1)) s0.2.1 (w64 (s0.2.2.1-1)) x178.2 m1_0 m1_1 m1_2 m1_3 m1_4 m1_5) (hrc t0 t1 t2 t3 (w64 (x178.1+1)) s0.2.1 (w64 (s0.2.2.1-1)) x178.2 m1_0 m1_1 m1_2 m1_3 m1_4 m1_5) fun x185 hx185=>?_;conv=>rhs;whnf
           exact Zd (ih _)
          ·refine Zc (Za t0 t1 t2 t3 (w64 (x178.1+1)) s0.2.1 (w64 (s0.2.2.1-1)) x178.2 m1_0 m1_1 m1_2 m1_3 m1_4 m1_5) (hrc t0 t1 t2 t3 (w64 (x178.1+1)) s0.2.1 (w64 (s0.2.2.1-1)) x178.2 m1_0 m1_1 m1_2 m1_3 m1_4 m1_5) fun x186 hx186=>?_;conv=>rhs;whnf
           exact Zd (ih _)
       ·refine Zc _ ZG fun x187 hx187=>?_;conv=>rhs;whnf
        exact Zd (ih _)
      ·refine Zc _ Zr fun x188 hx188=>?_
       clear hx188
       rcases x188 with x188 | x188
       ·conv=>rhs;whnf
        refine Zbl rfl ?_;conv=>rhs;whnf
        refine ZV rfl ?_;conv=>rhs;whnf
        refine Zf rfl ?_ ?_<;>conv=>rhs;whnf
        ·refine Zf rfl ?_ ?_<;>conv=>rhs;whnf
         ·refine Zc (Za t0 t1 t2 t3 s0.1 x188.1 (w64 (s0.2.2.1-1)) x188.2 m1_0 m1_1 m1_2 m1_3 m1_4 m1_5) (hrc t0 t1 t2 t3 s0.1 x188.1 (w64 (s0.2.2.1-1)) x188.2 m1_0 m1_1 m1_2 m1_3 m1_4 m1_5) fun x189 hx189=>?_;conv=>rhs;whnf
          exact Zd (ih _)
         ·refine Zc (Za t0 t1 t2 t3 s0.1 x188.1 (w64 (s0.2.2.1-1)) x188.2 m1_0 m1_1 m1_2 m1_3 m1_4 m1_5) (hrc t0 t1 t2 t3 s0.1 x188.1 (w64 (s0.2.2.1-1)) x188.2 m1_0 m1_1 m1_2 m1_3 m1_4 m1_5) fun x190 hx190=>?_;conv=>rhs;whnf
          exact Zd (ih _)
        ·refine Zf rfl ?_ ?_<;>conv=>rhs;whnf
         ·refine Zc (Za t0 t1 t2 t3 (w64 (x188.1+1)) s0.2.1 (w64 (s0.2.2.1-1)) x188.2 m1_0 m1_1 m1_2 m1_3 m1_4 m1_5) (hrc t0 t1 t2 t3 (w64 (x188.1+1)) s0.2.1 (w64 (s0.2.2.1-1)) x188.2 m1_0 m1_1 m1_2 m1_3 m1_4 m1_5) fun x191 hx191=>?_;conv=>rhs;whnf
          exact Zd (ih _)
         ·refine Zc (Za t0 t1 t2 t3 (w64 (x188.1+1)) s0.2.1 (w64 (s0.2.2.1-1)) x188.2 m1_0 m1_1 m1_2 m1_3 m1_4 m1_5) (hrc t0 t1 t2 t3 (w64 (x188.1+1)) s0.2.1 (w64 (s0.2.2.1-1)) x188.2 m1_0 m1_1 m1_2 m1_3 m1_4 m1_5) fun x192 hx192=>?_;conv=>rhs;whnf
          exact Zd (ih _)
       ·conv=>rhs;whnf
        refine ZV rfl ?_;conv=>rhs;whnf
        refine ZV rfl ?_;conv=>rhs;whnf
        refine Zf rfl ?_ ?_<;>conv=>rhs;whnf
        ·refine Zf rfl ?_ ?_<;>conv=>rhs;whnf
         ·refine Zc (Za t0 t1 t2 t3 s0.1 x188.1 (w64 (s0.2.2.1-1)) x188.2 m1_0 m1_1 m1_2 m1_3 m1_4 m1_5) (hrc t0 t1 t2 t3 s0.1 x188.1 (w64 (s0.2.2.1-1)) x188.2 m1_0 m1_1 m1_2 m1_3 m1_4 m1_5) fun x193 hx193=>?_;conv=>rhs;whnf
          exact Zd (ih _)
         ·refine Zc (Za t0 t1 t2 t3 s0.1 x188.1 (w64 (s0.2.2.1-1)) x188.2 m1_0 m1_1 m1_2 m1_3 m1_4 m1_5) (hrc t0 t1 t2 t3 s0.1 x188.1 (w64 (s0.2.2.1-1)) x188.2 m1_0 m1_1 m1_2 m1_3 m1_4 m1_5) fun x194 hx194=>?_;conv=>rhs;whnf
          exact Zd (ih _)
        ·refine Zf rfl ?_ ?_<;>conv=>rhs;whnf
         ·refine Zc (Za t0 t1 t2 t3 (w64 (x188.1+1)) s0.2.1 (w64 (s0.2.2.1-1)) x188.2 m1_0 m1_1 m1_2 m1_3 m1_4 m1_5) (hrc t0 t1 t2 t3 (w64 (x188.1+1)) s0.2.1 (w64 (s0.2.2.1-1)) x188.2 m1_0 m1_1 m1_2 m1_3 m1_4 m1_5) fun x195 hx195=>?_;conv=>rhs;whnf
          exact Zd (ih _)
         ·refine Zc (Za t0 t1 t2 t3 (w64 (x188.1+1)) s0.2.1 (w64 (s0.2.2.1-1)) x188.2 m1_0 m1_1 m1_2 m1_3 m1_4 m1_5) (hrc t0 t1 t2 t3 (w64 (x188.1+1)) s0.2.1 (w64 (s0.2.2.1-1)) x188.2 m1_0 m1_1 m1_2 m1_3 m1_4 m1_5) fun x196 hx196=>?_;conv=>rhs;whnf
          exact Zd (ih _)
     ·refine Zf rfl ?_ ?_<;>conv=>rhs;whnf
      ·refine Zk rfl rfl fun x197 hx197=>?_;conv=>rhs;whnf
       refine Zg (Zn rfl hx197) ?_;conv=>rhs;whnf
       refine Zk rfl rfl fun x198 hx198=>?_;conv=>rhs;whnf
       refine Zg (Zn rfl hx198) ?_;conv=>rhs;whnf
       refine Zq _ ZS rfl fun x199 hx199=>?_;conv=>rhs;whnf
       refine Zf rfl ?_ ?_<;>conv=>rhs;whnf
       ·refine Zc _ Zr fun x200 hx200=>?_
        clear hx200
        rcases x200 with x200 | x200
        ·conv=>rhs;whnf
         refine Zbl rfl ?_;conv=>rhs;whnf
         refine ZV rfl ?_;conv=>rhs;whnf
         refine Zf rfl ?_ ?_<;>conv=>rhs;whnf
         ·refine Zf rfl ?_ ?_<;>conv=>rhs;whnf
          ·refine Zc (Za t0 t1 t2 t3 s0.1 x200.1 (w64 (s0.2.2.1-1)) x200.2 m1_0 m1_1 m1_2 m1_3 m1_4 m1_5) (hrc t0 t1 t2 t3 s0.1 x200.1 (w64 (s0.2.2.1-1)) x200.2 m1_0 m1_1 m1_2 m1_3 m1_4 m1_5) fun x201 hx201=>?_;conv=>rhs;whnf
           exact Zd (ih _)
          ·refine Zc (Za t0 t1 t2 t3 s0.1 x200.1 (w64 (s0.2.2.1-1)) x200.2 m1_0 m1_1 m1_2 m1_3 m1_4 m1_5) (hrc t0 t1 t2 t3 s0.1 x200.1 (w64 (s0.2.2.1-1)) x200.2 m1_0 m1_1 m1_2 m1_3 m1_4 m1_5) fun x202 hx202=>?_;conv=>rhs;whnf
           exact Zd (ih _)
         ·refine Zf rfl ?_ ?_<;>conv=>rhs;whnf
          ·refine Zc (Za t0 t1 t2 t3 (w64 (x200.1+1)) s0.2.1 (w64 (s0.2.2.1-1)) x200.2 m1_0 m1_1 m1_2 m1_3 m1_4 m1_5) (hrc t0 t1 t2 t3 (w64 (x200.1+1)) s0.2.1 (w64 (s0.2.2.1-1)) x200.2 m1_0 m1_1 m1_2 m1_3 m1_4 m1_5) fun x203 hx203=>?_;conv=>rhs;whnf
           exact Zd (ih _)
          ·refine Zc (Za t0 t1 t2 t3 (w64 (x200.1+1)) s0.2.1 (w64 (s0.2.2.1-1)) x200.2 m1_0 m1_1 m1_2 m1_3 m1_4 m1_5) (hrc t0 t1 t2 t3 (w64 (x200.1+1)) s0.2.1 (w64 (s0.2.2.1-1)) x200.2 m1_0 m1_1 m1_2 m1_3 m1_4 m1_5) fun x204 hx204=>?_;conv=>rhs;whnf
           exact Zd (ih _)
        ·conv=>rhs;whnf
         refine ZV rfl ?_;conv=>rhs;whnf
         refine ZV rfl ?_;conv=>rhs;whnf
         refine Zf rfl ?_ ?_<;>conv=>rhs;whnf
         ·refine Zf rfl ?_ ?_<;>conv=>rhs;whnf
          ·refine Zc (Za t0 t1 t2 t3 s0.1 x200.1 (w64 (s0.2.2.1-1)) x200.2 m1_0 m1_1 m1_2 m1_3 m1_4 m1_5) (hrc t0 t1 t2 t3 s0.1 x200.1 (w64 (s0.2.2.1-1)) x200.2 m1_0 m1_1 m1_2 m1_3 m1_4 m1_5) fun x205 hx205=>?_;conv=>rhs;whnf
           exact Zd (ih _)
          ·refine Zc (Za t0 t1 t2 t3 s0.1 x200.1 (w64 (s0.2.2.1-1)) x200.2 m1_0 m1_1 m1_2 m1_3 m1_4 m1_5) (hrc t0 t1 t2 t3 s0.1 x200.1 (w64 (s0.2.2.1-1)) x200.2 m1_0 m1_1 m1_2 m1_3 m1_4 m1_5) fun x206 hx206=>?_;conv=>rhs;whnf
           exact Zd (ih _)
         ·refine Zf rfl ?_ ?_<;>conv=>rhs;whnf
          ·refine Zc (Za t0 t1 t2 t3 (w64 (x200.1+1)) s0.2.1 (w64 (s0.2.2.1-1)) x200.2 m1_0 m1_1 m1_2 m1_3 m1_4 m1_5) (hrc t0 t1 t2 t3 (w64 (x200.1+1)) s0.2.1 (w64 (s0.2.2.1-1)) x200.2 m1_0 m1_1 m1_2 m1_3 m1_4 m1_5) fun x207 hx207=>?_;conv=>rhs;whnf
           exact Zd (ih _)
          ·refine Zc (Za t0 t1 t2 t3 (w64 (x200.1+1)) s0.2.1 (w64 (s0.2.2.1-1)) x200.2 m1_0 m1_1 m1_2 m1_3 m1_4 m1_5) (hrc t0 t1 t2 t3 (w64 (x200.1+1)) s0.2.1 (w64 (s0.2.2.1-1)) x200.2 m1_0 m1_1 m1_2 m1_3 m1_4 m1_5) fun x208 hx208=>?_;conv=>rhs;whnf
           exact Zd (ih _)
       ·refine Zc _ ZG fun x209 hx209=>?_;conv=>rhs;whnf
        exact Zd (ih _)
      ·refine Zc _ Zr fun x210 hx210=>?_
       clear hx210
       rcases x210 with x210 | x210
       ·conv=>rhs;whnf
        refine Zbl rfl ?_;conv=>rhs;whnf
        refine ZV rfl ?_;conv=>rhs;whnf
        refine Zf rfl ?_ ?_<;>conv=>rhs;whnf
        ·refine Zf rfl ?_ ?_<;>conv=>rhs;whnf
         ·refine Zc (Za t0 t1 t2 t3 s0.1 x210.1 (w64 (s0.2.2.1-1)) x210.2 m1_0 m1_1 m1_2 m1_3 m1_4 m1_5) (hrc t0 t1 t2 t3 s0.1 x210.1 (w64 (s0.2.2.1-1)) x210.2 m1_0 m1_1 m1_2 m1_3 m1_4 m1_5) fun x211 hx211=>?_;conv=>rhs;whnf
          exact Zd (ih _)
         ·refine Zc (Za t0 t1 t2 t3 s0.1 x210.1 (w64 (s0.2.2.1-1)) x210.2 m1_0 m1_1 m1_2 m1_3 m1_4 m1_5) (hrc t0 t1 t2 t3 s0.1 x210.1 (w64 (s0.2.2.1-1)) x210.2 m1_0 m1_1 m1_2 m1_3 m1_4 m1_5) fun x212 hx212=>?_;conv=>rhs;whnf
          exact Zd (ih _)
        ·refine Zf rfl ?_ ?_<;>conv=>rhs;whnf
         ·refine Zc (Za t0 t1 t2 t3 (w64 (x210.1+1)) s0.2.1 (w64 (s0.2.2.1-1)) x210.2 m1_0 m1_1 m1_2 m1_3 m1_4 m1_5) (hrc t0 t1 t2 t3 (w64 (x210.1+1)) s0.2.1 (w64 (s0.2.2.1-1)) x210.2 m1_0 m1_1 m1_2 m1_3 m1_4 m1_5) fun x213 hx213=>?_;conv=>rhs;whnf
          exact Zd (ih _)
         ·refine Zc (Za t0 t1 t2 t3 (w64 (x210.1+1)) s0.2.1 (w64 (s0.2.2.1-1)) x210.2 m1_0 m1_1 m1_2 m1_3 m1_4 m1_5) (hrc t0 t1 t2 t3 (w64 (x210.1+1)) s0.2.1 (w64 (s0.2.2.1-1)) x210.2 m1_0 m1_1 m1_2 m1_3 m1_4 m1_5) fun x214 hx214=>?_;conv=>rhs;whnf
          exact Zd (ih _)
       ·conv=>rhs;whnf
        refine ZV rfl ?_;conv=>rhs;whnf
        refine ZV rfl ?_;conv=>rhs;whnf
        refine Zf rfl ?_ ?_<;>conv=>rhs;whnf
        ·refine Zf rfl ?_ ?_<;>conv=>rhs;whnf
         ·refine Zc (Za t0 t1 t2 t3 s0.1 x210.1 (w64 (s0.2.2.1-1)) x210.2 m1_0 m1_1 m1_2 m1_3 m1_4 m1_5) (hrc t0 t1 t2 t3 s0.1 x210.1 (w64 (s0.2.2.1-1)) x210.2 m1_0 m1_1 m1_2 m1_3 m1_4 m1_5) fun x215 hx215=>?_;conv=>rhs;whnf
          exact Zd (ih _)
         ·refine Zc (Za t0 t1 t2 t3 s0.1 x210.1 (w64 (s0.2.2.1-1)) x210.2 m1_0 m1_1 m1_2 m1_3 m1_4 m1_5) (hrc t0 t1 t2 t3 s0.1 x210.1 (w64 (s0.2.2.1-1)) x210.2 m1_0 m1_1 m1_2 m1_3 m1_4 m1_5) fun x216 hx216=>?_;conv=>rhs;whnf
          exact Zd (ih _)
        ·refine Zf rfl ?_ ?_<;>conv=>rhs;whnf
         ·refine Zc (Za t0 t1 t2 t3 (w64 (x210.1+1)) s0.2.1 (w64 (s0.2.2.1-1)) x210.2 m1_0 m1_1 m1_2 m1_3 m1_4 m1_5) (hrc t0 t1 t2 t3 (w64 (x210.1+1)) s0.2.1 (w64 (s0.2.2.1-1)) x210.2 m1_0 m1_1 m1_2 m1_3 m1_4 m1_5) fun x217 hx217=>?_;conv=>rhs;whnf
          exact Zd (ih _)
         ·refine Zc (Za t0 t1 t2 t3 (w64 (x210.1+1)) s0.2.1 (w64 (s0.2.2.1-1)) x210.2 m1_0 m1_1 m1_2 m1_3 m1_4 m1_5) (hrc t0 t1 t2 t3 (w64 (x210.1+1)) s0.2.1 (w64 (s0.2.2.1-1)) x210.2 m1_0 m1_1 m1_2 m1_3 m1_4 m1_5) fun x218 hx218=>?_;conv=>rhs;whnf
          exact Zd (ih _)
  ·refine Zqx ?_;conv=>rhs;whnf
   refine Zf rfl ?_ ?_<;>conv=>rhs;whnf
   ·refine Zc _ ZaX fun x121 hx121=>?_;conv=>rhs;whnf
    exact Zh rfl
   ·refine Zf rfl ?_ ?_<;>conv=>rhs;whnf
    ·refine Zc _ Zbh fun x122 hx122=>?_;conv=>rhs;whnf
     exact Zh rfl
    ·refine Zc _ ZcA fun x123 hx123=>?_;conv=>rhs;whnf
     refine Zc _ Za5 fun x124 hx124=>?_;conv=>rhs;whnf
     refine Zf rfl ?_ ?_<;>conv=>rhs;whnf
     ·refine Zc _ Za3 fun x125 hx125=>?_;conv=>rhs;whnf
      refine Zf rfl ?_ ?_<;>conv=>rhs;whnf
      ·refine Zk rfl rfl fun x126 hx126=>?_;conv=>rhs;whnf
       refine Zg (Zn rfl hx126) ?_;conv=>rhs;whnf
       refine Zk rfl rfl fun x127 hx127=>?_;conv=>rhs;whnf
       refine Zg (Zn rfl hx127) ?_;conv=>rhs;whnf
       refine Zq _ ZS rfl fun x128 hx128=>?_;conv=>rhs;whnf
       refine Zf rfl ?_ ?_<;>conv=>rhs;whnf
       ·refine Zc _ Zr fun x129 hx129=>?_
        clear hx129
        rcases x129 with x129 | x129
        ·conv=>rhs;whnf
         refine Zbl rfl ?_;conv=>rhs;whnf
         refine ZV rfl ?_;conv=>rhs;whnf
         refine Zf rfl ?_ ?_<;>conv=>rhs;whnf
         ·refine Zf rfl ?_ ?_<;>conv=>rhs;whnf
          ·refine Zc (Za t0 t1 t2 t3 s0.1 x129.1 (w64 (s0.2.2.1-1)) x129.2 m1_0 m1_1 m1_2 m1_3 m1_4 m1_5) (hrc t0 t1 t2 t3 s0.1 x129.1 (w64 (s0.2.2.1-1)) x129.2 m1_0 m1_1 m1_2 m1_3 m1_4 m1_5) fun x130 hx130=>?_;conv=>rhs;whnf
           exact Zd (ih _)
          ·refine Zc (Za t0 t1 t2 t3 s0.1 x129.1 (w64 (s0.2.2.1-1)) x129.2 m1_0 m1_1 m1_2 m1_3 m1_4 m1_5) (hrc t0 t1 t2 t3 s0.1 x129.1 (w64 (s0.2.2.1-1)) x129.2 m1_0 m1_1 m1_2 m1_3 m1_4 m1_5) fun x131 hx131=>?_;conv=>rhs;whnf
           exact Zd (ih _)
         ·refine Zf rfl ?_ ?_<;>conv=>rhs;whnf
          ·refine Zc (Za t0 t1 t2 t3 (w64 (x129.1+1)) s0.2.1 (w64 (s0.2.2.1-1)) x129.2 m1_0 m1_1 m1_2 m1_3 m1_4 m1_5) (hrc t0 t1 t2 t3 (w64 (x129.1+1)) s0.2.1 (w64 (s0.2.2.1-1)) x129.2 m1_0 m1_1 m1_2 m1_3 m1_4 m1_5) fun x132 hx132=>?_;conv=>rhs;whnf
           exact Zd (ih _)
          ·refine Zc (Za t0 t1 t2 t3 (w64 (x129.1+1)) s0.2.1 (w64 (s0.2.2.1-1)) x129.2 m1_0 m1_1 m1_2 m1_3 m1_4 m1_5) (hrc t0 t1 t2 t3 (w64 (x129.1+1)) s0.2.1 (w64 (s0.2.2.1-1)) x129.2 m1_0 m1_1 m1_2 m1_3 m1_4 m1_5) fun x133 hx133=>?_;conv=>rhs;whnf
           exact Zd (ih _)
        ·conv=>rhs;whnf
         refine ZV rfl ?_;conv=>rhs;whnf
         refine ZV rfl ?_;conv=>rhs;whnf
         refine Zf rfl ?_ ?_<;>conv=>rhs;whnf
         ·refine Zf rfl ?_ ?_<;>conv=>rhs;whnf
          ·refine Zc (Za t0 t1 t2 t3 s0.1 x129.1 (w64 (s0.2.2.1-1)) x129.2 m1_0 m1_1 m1_2 m1_3 m1_4 m1_5) (hrc t0 t1 t2 t3 s0.1 x129.1 (w64 (s0.2.2.1-1)) x129.2 m1_0 m1_1 m1_2 m1_3 m1_4 m1_5) fun x134 hx134=>?_;conv=>rhs;whnf
           exact Zd (ih _)
          ·refine Zc (Za t0 t1 t2 t3 s0.1 x129.1 (w64 (s0.2.2.1-1)) x129.2 m1_0 m1_1 m1_2 m1_3 m1_4 m1_5) (hrc t0 t1 t2 t3 s0.1 x129.1 (w64 (s0.2.2.1-1)) x129.2 m1_0 m1_1 m1_2 m1_3 m1_4 m1_5) fun x135 hx135=>?_;conv=>rhs;whnf
           exact Zd (ih _)
         ·refine Zf rfl ?_ ?_<;>conv=>rhs;whnf
          ·refine Zc (Za t0 t1 t2 t3 (w64 (x129.1+1)) s0.2.1 (w64 (s0.2.2.1-1)) x129.2 m1_0 m1_1 m1_2 m1_3 m1_4 m1_5) (hrc t0 t1 t2 t3 (w64 (x129.1+1)) s0.2.1 (w64 (s0.2.2.1-1)) x129.2 m1_0 m1_1 m1_2 m1_3 m1_4 m1_5) fun x136 hx136=>?_;conv=>rhs;whnf
           exact Zd (ih _)
          ·refine Zc (Za t0 t1 t2 t3 (w64 (x129.1+1)) s0.2.1 (w64 (s0.2.2.1-1)) x129.2 m1_0 m1_1 m1_2 m1_3 m1_4 m1_5) (hrc t0 t1 t2 t3 (w64 (x129.1+1)) s0.2.1 (w64 (s0.2.2.1-1)) x129.2 m1_0 m1_1 m1_2 m1_3 m1_4 m1_5) fun x137 hx137=>?_;conv=>rhs;whnf
           exact Zd (ih _)
       ·refine Zc _ ZG fun x138 hx138=>?_;conv=>rhs;whnf
        exact Zd (ih _)
      ·refine Zc _ Zr fun x139 hx139=>?_
       clear hx139
       rcases x139 with x139 | x139
       ·conv=>rhs;whnf
        refine Zbl rfl ?_;conv=>rhs;whnf
        refine ZV rfl ?_;conv=>rhs;whnf
        refine Zf rfl ?_ ?_<;>conv=>rhs;whnf
        ·refine Zf rfl ?_ ?_<;>conv=>rhs;whnf
         ·refine Zc (Za t0 t1 t2 t3 s0.1 x139.1 (w64 (s0.2.2.1-1)) x139.2 m1_0 m1_1 m1_2 m1_3 m1_4 m1_5) (hrc t0 t1 t2 t3 s0.1 x139.1 (w64 (s0.2.2.1-1)) x139.2 m1_0 m1_1 m1_2 m1_3 m1_4 m1_5) fun x140 hx140=>?_;conv=>rhs;whnf
          exact Zd (ih _)
         ·refine Zc (Za t0 t1 t2 t3 s0.1 x139.1 (w64 (s0.2.2.1-1)) x139.2 m1_0 m1_1 m1_2 m1_3 m1_4 m1_5) (hrc t0 t1 t2 t3 s0.1 x139.1 (w64 (s0.2.2.1-1)) x139.2 m1_0 m1_1 m1_2 m1_3 m1_4 m1_5) fun x141 hx141=>?_;conv=>rhs;whnf
          exact Zd (ih _)
        ·refine Zf rfl ?_ ?_<;>conv=>rhs;whnf
         ·refine Zc (Za t0 t1 t2 t3 (w64 (x139.1+1)) s0.2.1 (w64 (s0.2.2.1-1)) x139.2 m1_0 m1_1 m1_2 m1_3 m1_4 m1_5) (hrc t0 t1 t2 t3 (w64 (x139.1+1)) s0.2.1 (w64 (s0.2.2.1-1)) x139.2 m1_0 m1_1 m1_2 m1_3 m1_4 m1_5) fun x142 hx142=>?_;conv=>rhs;whnf
          exact Zd (ih _)
         ·refine Zc (Za t0 t1 t2 t3 (w64 (x139.1+1)) s0.2.1 (w64 (s0.2.2.1-1)) x139.2 m1_0 m1_1 m1_2 m1_3 m1_4 m1_5) (hrc t0 t1 t2 t3 (w64 (x139.1+1)) s0.2.1 (w64 (s0.2.2.1-1)) x139.2 m1_0 m1_1 m1_2 m1_3 m1_4 m1_5) fun x143 hx143=>?_;conv=>rhs;whnf
          exact Zd (ih _)
       ·conv=>rhs;whnf
        refine ZV rfl ?_;conv=>rhs;whnf
        refine ZV rfl ?_;conv=>rhs;whnf
        refine Zf rfl ?_ ?_<;>conv=>rhs;whnf
        ·refine Zf rfl ?_ ?_<;>conv=>rhs;whnf
         ·refine Zc (Za t0 t1 t2 t3 s0.1 x139.1 (w64 (s0.2.2.1-1)) x139.2 m1_0 m1_1 m1_2 m1_3 m1_4 m1_5) (hrc t0 t1 t2 t3 s0.1 x139.1 (w64 (s0.2.2.1-1)) x139.2 m1_0 m1_1 m1_2 m1_3 m1_4 m1_5) fun x144 hx144=>?_;conv=>rhs;whnf
          exact Zd (ih _)
         ·refine Zc (Za t0 t1 t2 t3 s0.1 x139.1 (w64 (s0.2.2.1-1)) x139.2 m1_0 m1_1 m1_2 m1_3 m1_4 m1_5) (hrc t0 t1 t2 t3 s0.1 x139.1 (w64 (s0.2.2.1-1)) x139.2 m1_0 m1_1 m1_2 m1_3 m1_4 m1_5) fun x145 hx145=>?_;conv=>rhs;whnf
          exact Zd (ih _)
        ·refine Zf rfl ?_ ?_<;>conv=>rhs;whnf
         ·refine Zc (Za t0 t1 t2 t3 (w64 (x139.1+1)) s0.2.1 (w64 (s0.2.2.1-1)) x139.2 m1_0 m1_1 m1_2 m1_3 m1_4 m1_5) (hrc t0 t1 t2 t3 (w64 (x139.1+1)) s0.2.1 (w64 (s0.2.2.1-1)) x139.2 m1_0 m1_1 m1_2 m1_3 m1_4 m1_5) fun x146 hx146=>?_;conv=>rhs;whnf
          exact Zd (ih _)
         ·refine Zc (Za t0 t1 t2 t3 (w64 (x139.1+1)) s0.2.1 (w64 (s0.2.2.1-1)) x139.2 m1_0 m1_1 m1_2 m1_3 m1_4 m1_5) (hrc t0 t1 t2 t3 (w64 (x139.1+1)) s0.2.1 (w64 (s0.2.2.1-1)) x139.2 m1_0 m1_1 m1_2 m1_3 m1_4 m1_5) fun x147 hx147=>?_;conv=>rhs;whnf
          exact Zd (ih _)
     ·refine Zf rfl ?_ ?_<;>conv=>rhs;whnf
      ·refine Zk rfl rfl fun x148 hx148=>?_;conv=>rhs;whnf
       refine Zg (Zn rfl hx148) ?_;conv=>rhs;whnf
       refine Zk rfl rfl fun x149 hx149=>?_;conv=>rhs;whnf
       refine Zg (Zn rfl hx149) ?_;conv=>rhs;whnf
       refine Zq _ ZS rfl fun x150 hx150=>?_;conv=>rhs;whnf
       refine Zf rfl ?_ ?_<;>conv=>rhs;whnf
       ·refine Zc _ Zr fun x151 hx151=>?_
        clear hx151
        rcases x151 with x151 | x151
        ·conv=>rhs;whnf
         refine Zbl rfl ?_;conv=>rhs;whnf
         refine ZV rfl ?_;conv=>rhs;whnf
         refine Zf rfl ?_ ?_<;>conv=>rhs;whnf
         ·refine Zf rfl ?_ ?_<;>conv=>rhs;whnf
          ·refine Zc (Za t0 t1 t2 t3 s0.1 x151.1 (w64 (s0.2.2.1-1)) x151.2 m1_0 m1_1 m1_2 m1_3 m1_4 m1_5) (hrc t0 t1 t2 t3 s0.1 x151.1 (w64 (s0.2.2.1-1)) x151.2 m1_0 m1_1 m1_2 m1_3 m1_4 m1_5) fun x152 hx152=>?_;conv=>rhs;whnf
           exact Zd (ih _)
          ·refine Zc (Za t0 t1 t2 t3 s0.1 x151.1 (w64 (s0.2.2.1-1)) x151.2 m1_0 m1_1 m1_2 m1_3 m1_4 m1_5) (hrc t0 t1 t2 t3 s0.1 x151.1 (w64 (s0.2.2.1-1)) x151.2 m1_0 m1_1 m1_2 m1_3 m1_4 m1_5) fun x153 hx153=>?_;conv=>rhs;whnf
           exact Zd (ih _)
         ·refine Zf rfl ?_ ?_<;>conv=>rhs;whnf
          ·refine Zc (Za t0 t1 t2 t3 (w64 (x151.1+1)) s0.2.1 (w64 (s0.2.2.1-1)) x151.2 m1_0 m1_1 m1_2 m1_3 m1_4 m1_5) (hrc t0 t1 t2 t3 (w64 (x151.1+1)) s0.2.1 (w64 (s0.2.2.1-1)) x151.2 m1_0 m1_1 m1_2 m1_3 m1_4 m1_5) fun x154 hx154=>?_;conv=>rhs;whnf
           exact Zd (ih _)
          ·refine Zc (Za t0 t1 t2 t3 (w64 (x151.1+1)) s0.2.1 (w64 (s0.2.2.1-1)) x151.2 m1_0 m1_1 m1_2 m1_3 m1_4 m1_5) (hrc t0 t1 t2 t3 (w64 (x151.1+1)) s0.2.1 (w64 (s0.2.2.1-1)) x151.2 m1_0 m1_1 m1_2 m1_3 m1_4 m1_5) fun x155 hx155=>?_;conv=>rhs;whnf
           exact Zd (ih _)
        ·conv=>rhs;whnf
         refine ZV rfl ?_;conv=>rhs;whnf
         refine ZV rfl ?_;conv=>rhs;whnf
         refine Zf rfl ?_ ?_<;>conv=>rhs;whnf
         ·refine Zf rfl ?_ ?_<;>conv=>rhs;whnf
          ·refine Zc (Za t0 t1 t2 t3 s0.1 x151.1 (w64 (s0.2.2.1-1)) x151.2 m1_0 m1_1 m1_2 m1_3 m1_4 m1_5) (hrc t0 t1 t2 t3 s0.1 x151.1 (w64 (s0.2.2.1-1)) x151.2 m1_0 m1_1 m1_2 m1_3 m1_4 m1_5) fun x156 hx156=>?_;conv=>rhs;whnf
           exact Zd (ih _)
          ·refine Zc (Za t0 t1 t2 t3 s0.1 x151.1 (w64 (s0.2.2.1-1)) x151.2 m1_0 m1_1 m1_2 m1_3 m1_4 m1_5) (hrc t0 t1 t2 t3 s0.1 x151.1 (w64 (s0.2.2.1-1)) x151.2 m1_0 m1_1 m1_2 m1_3 m1_4 m1_5) fun x157 hx157=>?_;conv=>rhs;whnf
           exact Zd (ih _)
         ·refine Zf rfl ?_ ?_<;>conv=>rhs;whnf
          ·refine Zc (Za t0 t1 t2 t3 (w64 (x151.1+1)) s0.2.1 (w64 (s0.2.2.1-1)) x151.2 m1_0 m1_1 m1_2 m1_3 m1_4 m1_5) (hrc t0 t1 t2 t3 (w64 (x151.1+1)) s0.2.1 (w64 (s0.2.2.1-1)) x151.2 m1_0 m1_1 m1_2 m1_3 m1_4 m1_5) fun x158 hx158=>?_;conv=>rhs;whnf
           exact Zd (ih _)
          ·refine Zc (Za t0 t1 t2 t3 (w64 (x151.1+1)) s0.2.1 (w64 (s0.2.2.1-1)) x151.2 m1_0 m1_1 m1_2 m1_3 m1_4 m1_5) (hrc t0 t1 t2 t3 (w64 (x151.1+1)) s0.2.1 (w64 (s0.2.2.1-1)) x151.2 m1_0 m1_1 m1_2 m1_3 m1_4 m1_5) fun x159 hx159=>?_;conv=>rhs;whnf
           exact Zd (ih _)
       ·refine Zc _ ZG fun x160 hx160=>?_;conv=>rhs;whnf
        exact Zd (ih _)
      ·refine Zc _ Zr fun x161 hx161=>?_
       clear hx161
       rcases x161 with x161 | x161
       ·conv=>rhs;whnf
        refine Zbl rfl ?_;conv=>rhs;whnf
        refine ZV rfl ?_;conv=>rhs;whnf
        refine Zf rfl ?_ ?_<;>conv=>rhs;whnf
        ·refine Zf rfl ?_ ?_<;>conv=>rhs;whnf
         ·refine Zc (Za t0 t1 t2 t3 s0.1 x161.1 (w64 (s0.2.2.1-1)) x161.2 m1_0 m1_1 m1_2 m1_3 m1_4 m1_5) (hrc t0 t1 t2 t3 s0.1 x161.1 (w64 (s0.2.2.1-1)) x161.2 m1_0 m1_1 m1_2 m1_3 m1_4 m1_5) fun x162 hx162=>?_;conv=>rhs;whnf
          exact Zd (ih _)
         ·refine Zc (Za t0 t1 t2 t3 s0.1 x161.1 (w64 (s0.2.2.1-1)) x161.2 m1_0 m1_1 m1_2 m1_3 m1_4 m1_5) (hrc t0 t1 t2 t3 s0.1 x161.1 (w64 (s0.2.2.1-1)) x161.2 m1_0 m1_1 m1_2 m1_3 m1_4 m1_5) fun x163 hx163=>?_;conv=>rhs;whnf
          exact Zd (ih _)
        ·refine Zf rfl ?_ ?_<;>conv=>rhs;whnf
         ·refine Zc (Za t0 t1 t2 t3 (w64 (x161.1+1)) s0.2.1 (w64 (s0.2.2.1-1)) x161.2 m1_0 m1_1 m1_2 m1_3 m1_4 m1_5) (hrc t0 t1 t2 t3 (w64 (x161.1+1)) s0.2.1 (w64 (s0.2.2.1-1)) x161.2 m1_0 m1_1 m1_2 m1_3 m1_4 m1_5) fun x164 hx164=>?_;conv=>rhs;whnf
          exact Zd (ih _)
         ·refine Zc (Za t0 t1 t2 t3 (w64 (x161.1+1)) s0.2.1 (w64 (s0.2.2.1-1)) x161.2 m1_0 m1_1 m1_2 m1_3 m1_4 m1_5) (hrc t0 t1 t2 t3 (w64 (x161.1+1)) s0.2.1 (w64 (s0.2.2.1-1)) x161.2 m1_0 m1_1 m1_2 m1_3 m1_4 m1_5) fun x165 hx165=>?_;conv=>rhs;whnf
          exact Zd (ih _)
       ·conv=>rhs;whnf
        refine ZV rfl ?_;conv=>rhs;whnf
        refine ZV rfl ?_;conv=>rhs;whnf
        refine Zf rfl ?_ ?_<;>conv=>rhs;whnf
        ·refine Zf rfl ?_ ?_<;>conv=>rhs;whnf
         ·refine Zc (Za t0 t1 t2 t3 s0.1 x161.1 (w64 (s0.2.2.1-1)) x161.2 m1_0 m1_1 m1_2 m1_3 m1_4 m1_5) (hrc t0 t1 t2 t3 s0.1 x161.1 (w64 (s0.2.2.1-1)) x161.2 m1_0 m1_1 m1_2 m1_3 m1_4 m1_5) fun x166 hx166=>?_;conv=>rhs;whnf
          exact Zd (ih _)
         ·refine Zc (Za t0 t1 t2 t3 s0.1 x161.1 (w64 (s0.2.2.1-1)) x161.2 m1_0 m1_1 m1_2 m1_3 m1_4 m1_5) (hrc t0 t1 t2 t3 s0.1 x161.1 (w64 (s0.2.2.1-1)) x161.2 m1_0 m1_1 m1_2 m1_3 m1_4 m1_5) fun x167 hx167=>?_;conv=>rhs;whnf
          exact Zd (ih _)
        ·refine Zf rfl ?_ ?_<;>conv=>rhs;whnf
         ·refine Zc (Za t0 t1 t2 t3 (w64 (x161.1+1)) s0.2.1 (w64 (s0.2.2.1-1)) x161.2 m1_0 m1_1 m1_2 m1_3 m1_4 m1_5) (hrc t0 t1 t2 t3 (w64 (x161.1+1)) s0.2.1 (w64 (s0.2.2.1-1)) x161.2 m1_0 m1_1 m1_2 m1_3 m1_4 m1_5) fun x168 hx168=>?_;conv=>rhs;whnf
          exact Zd (ih _)
         ·refine Zc (Za t0 t1 t2 t3 (w64 (x161.1+1)) s0.2.1 (w64 (s0.2.2.1-1)) x161.2 m1_0 m1_1 m1_2 m1_3 m1_4 m1_5) (hrc t0 t1 t2 t3 (w64 (x161.1+1)) s0.2.1 (w64 (s0.2.2.1-1)) x161.2 m1_0 m1_1 m1_2 m1_3 m1_4 m1_5) fun x169 hx169=>?_;conv=>rhs;whnf
          exact Zd (ih _)
 ·refine Zqx ?_
  rcases hb:s0.2.2.2.2.1 with _ | _
  ·refine Zq0 ?_;conv=>rhs;whnf
   refine Zf rfl ?_ ?_<;>conv=>rhs;whnf
   ·refine Zc _ ZaX fun x73 hx73=>?_;conv=>rhs;whnf
    exact Zh rfl
   ·refine Zf rfl ?_ ?_<;>conv=>rhs;whnf
    ·refine Zc _ Zbh fun x74 hx74=>?_;conv=>rhs;whnf
     exact Zh rfl
    ·refine Zc _ Za5 fun x75 hx75=>?_;conv=>rhs;whnf
     refine Zf rfl ?_ ?_<;>conv=>rhs;whnf
     ·refine Zc _ Za3 fun x76 hx76=>?_;conv=>rhs;whnf
      refine Zf rfl ?_ ?_<;>conv=>rhs;whnf
      ·refine Zk rfl rfl fun x77 hx77=>?_;conv=>rhs;whnf
       refine Zg (Zn rfl hx77) ?_;conv=>rhs;whnf
       refine Zk rfl rfl fun x78 hx78=>?_;conv=>rhs;whnf
       refine Zg (Zn rfl hx78) ?_;conv=>rhs;whnf
       refine Zq _ ZS rfl fun x79 hx79=>?_;conv=>rhs;whnf
       refine Zf rfl ?_ ?_<;>conv=>rhs;whnf
       ·refine Zc _ Zr fun x80 hx80=>?_
        clear hx80
        rcases x80 with x80 | x80
        ·conv=>rhs;whnf
         refine Zbl rfl ?_;conv=>rhs;whnf
         refine ZV rfl ?_;conv=>rhs;whnf
         refine Zf rfl ?_ ?_<;>conv=>rhs;whnf
         ·refine Zf rfl ?_ ?_<;>conv=>rhs;whnf
          ·refine Zc (Za t0 t1 t2 t3 s0.1 x80.1 s0.2.2.1 x80.2 m1_0 m1_1 m1_2 m1_3 m1_4 m1_5) (hrc t0 t1 t2 t3 s0.1 x80.1 s0.2.2.1 x80.2 m1_0 m1_1 m1_2 m1_3 m1_4 m1_5) fun x81 hx81=>?_;conv=>rhs;whnf
           exact Zd (ih _)
          ·refine Zc (Za t0 t1 t2 t3 s0.1 x80.1 s0.2.2.1 x80.2 m1_0 m1_1 m1_2 m1_3 m1_4 m1_5) (hrc t0 t1 t2 t3 s0.1 x80.1 s0.2.2.1 x80.2 m1_0 m1_1 m1_2 m1_3 m1_4 m1_5) fun x82 hx82=>?_;conv=>rhs;whnf
           exact Zd (ih _)
         ·refine Zf rfl ?_ ?_<;>conv=>rhs;whnf
          ·refine Zc (Za t0 t1 t2 t3 (w64 (x80.1+1)) s0.2.1 s0.2.2.1 x80.2 m1_0 m1_1 m1_2 m1_3 m1_4 m1_5) (hrc t0 t1 t2 t3 (w64 (x80.1+1)) s0.2.1 s0.2.2.1 x80.2 m1_0 m1_1 m1_2 m1_3 m1_4 m1_5) fun x83 hx83=>?_;conv=>rhs;whnf
           exact Zd (ih _)
          ·refine Zc (Za t0 t1 t2 t3 (w64 (x80.1+1)) s0.2.1 s0.2.2.1 x80.2 m1_0 m1_1 m1_2 m1_3 m1_4 m1_5) (hrc t0 t1 t2 t3 (w64 (x80.1+1)) s0.2.1 s0.2.2.1 x80.2 m1_0 m1_1 m1_2 m1_3 m1_4 m1_5) fun x84 hx84=>?_;conv=>rhs;whnf
           exact Zd (ih _)
        ·conv=>rhs;whnf
         refine ZV rfl ?_;conv=>rhs;whnf
         refine ZV rfl ?_;conv=>rhs;whnf
         refine Zf rfl ?_ ?_<;>conv=>rhs;whnf
         ·refine Zf rfl ?_ ?_<;>conv=>rhs;whnf
          ·refine Zc (Za t0 t1 t2 t3 s0.1 x80.1 s0.2.2.1 x80.2 m1_0 m1_1 m1_2 m1_3 m1_4 m1_5) (hrc t0 t1 t2 t3 s0.1 x80.1 s0.2.2.1 x80.2 m1_0 m1_1 m1_2 m1_3 m1_4 m1_5) fun x85 hx85=>?_;conv=>rhs;whnf
           exact Zd (ih _)
          ·refine Zc (Za t0 t1 t2 t3 s0.1 x80.1 s0.2.2.1 x80.2 m1_0 m1_1 m1_2 m1_3 m1_4 m1_5) (hrc t0 t1 t2 t3 s0.1 x80.1 s0.2.2.1 x80.2 m1_0 m1_1 m1_2 m1_3 m1_4 m1_5) fun x86 hx86=>?_;conv=>rhs;whnf
           exact Zd (ih _)
         ·refine Zf rfl ?_ ?_<;>conv=>rhs;whnf
          ·refine Zc (Za t0 t1 t2 t3 (w64 (x80.1+1)) s0.2.1 s0.2.2.1 x80.2 m1_0 m1_1 m1_2 m1_3 m1_4 m1_5) (hrc t0 t1 t2 t3 (w64 (x80.1+1)) s0.2.1 s0.2.2.1 x80.2 m1_0 m1_1 m1_2 m1_3 m1_4 m1_5) fun x87 hx87=>?_;conv=>rhs;whnf
           exact Zd (ih _)
          ·refine Zc (Za t0 t1 t2 t3 (w64 (x80.1+1)) s0.2.1 s0.2.2.1 x80.2 m1_0 m1_1 m1_2 m1_3 m1_4 m1_5) (hrc t0 t1 t2 t3 (w64 (x80.1+1)) s0.2.1 s0.2.2.1 x80.2 m1_0 m1_1 m1_2 m1_3 m1_4 m1_5) fun x88 hx88=>?_;conv=>rhs;whnf
           exact Zd (ih _)
       ·refine Zc _ ZG fun x89 hx89=>?_;conv=>rhs;whnf
        exact Zd (ih _)
      ·refine Zc _ Zr fun x90 hx90=>?_
       clear hx90
       rcases x90 with x90 | x90
       ·conv=>rhs;whnf
        refine Zbl rfl ?_;conv=>rhs;whnf
        refine ZV rfl ?_;conv=>rhs;whnf
        refine Zf rfl ?_ ?_<;>conv=>rhs;whnf
        ·refine Zf rfl ?_ ?_<;>conv=>rhs;whnf
         ·refine Zc (Za t0 t1 t2 t3 s0.1 x90.1 s0.2.2.1 x90.2 m1_0 m1_1 m1_2 m1_3 m1_4 m1_5) (hrc t0 t1 t2 t3 s0.1 x90.1 s0.2.2.1 x90.2 m1_0 m1_1 m1_2 m1_3 m1_4 m1_5) fun x91 hx91=>?_;conv=>rhs;whnf
          exact Zd (ih _)
         ·refine Zc (Za t0 t1 t2 t3 s0.1 x90.1 s0.2.2.1 x90.2 m1_0 m1_1 m1_2 m1_3 m1_4 m1_5) (hrc t0 t1 t2 t3 s0.1 x90.1 s0.2.2.1 x90.2 m1_0 m1_1 m1_2 m1_3 m1_4 m1_5) fun x92 hx92=>?_;conv=>rhs;whnf
          exact Zd (ih _)
        ·refine Zf rfl ?_ ?_<;>conv=>rhs;whnf
         ·refine Zc (Za t0 t1 t2 t3 (w64 (x90.1+1)) s0.2.1 s0.2.2.1 x90.2 m1_0 m1_1 m1_2 m1_3 m1_4 m1_5) (hrc t0 t1 t2 t3 (w64 (x90.1+1)) s0.2.1 s0.2.2.1 x90.2 m1_0 m1_1 m1_2 m1_3 m1_4 m1_5) fun x93 hx93=>?_;conv=>rhs;whnf
          exact Zd (ih _)
         ·refine Zc (Za t0 t1 t2 t3 (w64 (x90.1+1)) s0.2.1 s0.2.2.1 x90.2 m1_0 m1_1 m1_2 m1_3 m1_4 m1_5) (hrc t0 t1 t2 t3 (w64 (x90.1+1)) s0.2.1 s0.2.2.1 x90.2 m1_0 m1_1 m1_2 m1_3 m1_4 m1_5) fun x94 hx94=>?_;conv=>rhs;whnf
          exact Zd (ih _)
       ·conv=>rhs;whnf
        refine ZV rfl ?_;conv=>rhs;whnf
        refine ZV rfl ?_;conv=>rhs;whnf
        refine Zf rfl ?_ ?_<;>conv=>rhs;whnf
        ·refine Zf rfl ?_ ?_<;>conv=>rhs;whnf
         ·refine Zc (Za t0 t1 t2 t3 s0.1 x90.1 s0.2.2.1 x90.2 m1_0 m1_1 m1_2 m1_3 m1_4 m1_5) (hrc t0 t1 t2 t3 s0.1 x90.1 s0.2.2.1 x90.2 m1_0 m1_1 m1_2 m1_3 m1_4 m1_5) fun x95 hx95=>?_;conv=>rhs;whnf
          exact Zd (ih _)
         ·refine Zc (Za t0 t1 t2 t3 s0.1 x90.1 s0.2.2.1 x90.2 m1_0 m1_1 m1_2 m1_3 m1_4 m1_5) (hrc t0 t1 t2 t3 s0.1 x90.1 s0.2.2.1 x90.2 m1_0 m1_1 m1_2 m1_3 m1_4 m1_5) fun x96 hx96=>?_;conv=>rhs;whnf
          exact Zd (ih _)
        ·refine Zf rfl ?_ ?_<;>conv=>rhs;whnf
         ·refine Zc (Za t0 t1 t2 t3 (w64 (x90.1+1)) s0.2.1 s0.2.2.1 x90.2 m1_0 m1_1 m1_2 m1_3 m1_4 m1_5) (hrc t0 t1 t2 t3 (w64 (x90.1+1)) s0.2.1 s0.2.2.1 x90.2 m1_0 m1_1 m1_2 m1_3 m1_4 m1_5) fun x97 hx97=>?_;conv=>rhs;whnf
          exact Zd (ih _)
         ·refine Zc (Za t0 t1 t2 t3 (w64 (x90.1+1)) s0.2.1 s0.2.2.1 x90.2 m1_0 m1_1 m1_2 m1_3 m1_4 m1_5) (hrc t0 t1 t2 t3 (w64 (x90.1+1)) s0.2.1 s0.2.2.1 x90.2 m1_0 m1_1 m1_2 m1_3 m1_4 m1_5) fun x98 hx98=>?_;conv=>rhs;whnf
          exact Zd (ih _)
     ·refine Zf rfl ?_ ?_<;>conv=>rhs;whnf
      ·refine Zk rfl rfl fun x99 hx99=>?_;conv=>rhs;whnf
       refine Zg (Zn rfl hx99) ?_;conv=>rhs;whnf
       refine Zk rfl rfl fun x100 hx100=>?_;conv=>rhs;whnf
       refine Zg (Zn rfl hx100) ?_;conv=>rhs;whnf
       refine Zq _ ZS rfl fun x101 hx101=>?_;conv=>rhs;whnf
       refine Zf rfl ?_ ?_<;>conv=>rhs;whnf
       ·refine Zc _ Zr fun x102 hx102=>?_
        clear hx102
        rcases x102 with x102 | x102
        ·conv=>rhs;whnf
         refine Zbl rfl ?_;conv=>rhs;whnf
         refine ZV rfl ?_;conv=>rhs;whnf
         refine Zf rfl ?_ ?_<;>conv=>rhs;whnf
         ·refine Zf rfl ?_ ?_<;>conv=>rhs;whnf
          ·refine Zc (Za t0 t1 t2 t3 s0.1 x102.1 s0.2.2.1 x102.2 m1_0 m1_1 m1_2 m1_3 m1_4 m1_5) (hrc t0 t1 t2 t3 s0.1 x102.1 s0.2.2.1 x102.2 m1_0 m1_1 m1_2 m1_3 m1_4 m1_5) fun x103 hx103=>?_;conv=>rhs;whnf
           exact Zd (ih _)
          ·refine Zc (Za t0 t1 t2 t3 s0.1 x102.1 s0.2.2.1 x102.2 m1_0 m1_1 m1_2 m1_3 m1_4 m1_5) (hrc t0 t1 t2 t3 s0.1 x102.1 s0.2.2.1 x102.2 m1_0 m1_1 m1_2 m1_3 m1_4 m1_5) fun x104 hx104=>?_;conv=>rhs;whnf
           exact Zd (ih _)
         ·refine Zf rfl ?_ ?_<;>conv=>rhs;whnf
          ·refine Zc (Za t0 t1 t2 t3 (w64 (x102.1+1)) s0.2.1 s0.2.2.1 x102.2 m1_0 m1_1 m1_2 m1_3 m1_4 m1_5) (hrc t0 t1 t2 t3 (w64 (x102.1+1)) s0.2.1 s0.2.2.1 x102.2 m1_0 m1_1 m1_2 m1_3 m1_4 m1_5) fun x105 hx105=>?_;conv=>rhs;whnf
           exact Zd (ih _)
          ·refine Zc (Za t0 t1 t2 t3 (w64 (x102.1+1)) s0.2.1 s0.2.2.1 x102.2 m1_0 m1_1 m1_2 m1_3 m1_4 m1_5) (hrc t0 t1 t2 t3 (w64 (x102.1+1)) s0.2.1 s0.2.2.1 x102.2 m1_0 m1_1 m1_2 m1_3 m1_4 m1_5) fun x106 hx106=>?_;conv=>rhs;whnf
           exact Zd (ih _)
        ·conv=>rhs;whnf
         refine ZV rfl ?_;conv=>rhs;whnf
         refine ZV rfl ?_;conv=>rhs;whnf
         refine Zf rfl ?_ ?_<;>conv=>rhs;whnf
         ·refine Zf rfl ?_ ?_<;>conv=>rhs;whnf
          ·refine Zc (Za t0 t1 t2 t3 s0.1 x102.1 s0.2.2.1 x102.2 m1_0 m1_1 m1_2 m1_3 m1_4 m1_5) (hrc t0 t1 t2 t3 s0.1 x102.1 s0.2.2.1 x102.2 m1_0 m1_1 m1_2 m1_3 m1_4 m1_5) fun x107 hx107=>?_;conv=>rhs;whnf
           exact Zd (ih _)
          ·refine Zc (Za t0 t1 t2 t3 s0.1 x102.1 s0.2.2.1 x102.2 m1_0 m1_1 m1_2 m1_3 m1_4 m1_5) (hrc t0 t1 t2 t3 s0.1 x102.1 s0.2.2.1 x102.2 m1_0 m1_1 m1_2 m1_3 m1_4 m1_5) fun x108 hx108=>?_;conv=>rhs;whnf
           exact Zd (ih _)
         ·refine Zf rfl ?_ ?_<;>conv=>rhs;whnf
          ·refine Zc (Za t0 t1 t2 t3 (w64 (x102.1+1)) s0.2.1 s0.2.2.1 x102.2 m1_0 m1_1 m1_2 m1_3 m1_4 m1_5) (hrc t0 t1 t2 t3 (w64 (x102.1+1)) s0.2.1 s0.2.2.1 x102.2 m1_0 m1_1 m1_2 m1_3 m1_4 m1_5) fun x109 hx109=>?_;conv=>rhs;whnf
           exact Zd (ih _)
          ·refine Zc (Za t0 t1 t2 t3 (w64 (x102.1+1)) s0.2.1 s0.2.2.1 x102.2 m1_0 m1_1 m1_2 m1_3 m1_4 m1_5) (hrc t0 t1 t2 t3 (w64 (x102.1+1)) s0.2.1 s0.2.2.1 x102.2 m1_0 m1_1 m1_2 m1_3 m1_4 m1_5) fun x110 hx110=>?_;conv=>rhs;whnf
           exact Zd (ih _)
       ·refine Zc _ ZG fun x111 hx111=>?_;conv=>rhs;whnf
        exact Zd (ih _)
      ·refine Zc _ Zr fun x112 hx112=>?_
       clear hx112
       rcases x112 with x112 | x112
       ·conv=>rhs;whnf
        refine Zbl rfl ?_;conv=>rhs;whnf
        refine ZV rfl ?_;conv=>rhs;whnf
        refine Zf rfl ?_ ?_<;>conv=>rhs;whnf
        ·refine Zf rfl ?_ ?_<;>conv=>rhs;whnf
         ·refine Zc (Za t0 t1 t2 t3 s0.1 x112.1 s0.2.2.1 x112.2 m1_0 m1_1 m1_2 m1_3 m1_4 m1_5) (hrc t0 t1 t2 t3 s0.1 x112.1 s0.2.2.1 x112.2 m1_0 m1_1 m1_2 m1_3 m1_4 m1_5) fun x113 hx113=>?_;conv=>rhs;whnf
          exact Zd (ih _)
         ·refine Zc (Za t0 t1 t2 t3 s0.1 x112.1 s0.2.2.1 x112.2 m1_0 m1_1 m1_2 m1_3 m1_4 m1_5) (hrc t0 t1 t2 t3 s0.1 x112.1 s0.2.2.1 x112.2 m1_0 m1_1 m1_2 m1_3 m1_4 m1_5) fun x114 hx114=>?_;conv=>rhs;whnf
          exact Zd (ih _)
        ·refine Zf rfl ?_ ?_<;>conv=>rhs;whnf
         ·refine Zc (Za t0 t1 t2 t3 (w64 (x112.1+1)) s0.2.1 s0.2.2.1 x112.2 m1_0 m1_1 m1_2 m1_3 m1_4 m1_5) (hrc t0 t1 t2 t3 (w64 (x112.1+1)) s0.2.1 s0.2.2.1 x112.2 m1_0 m1_1 m1_2 m1_3 m1_4 m1_5) fun x115 hx115=>?_;conv=>rhs;whnf
          exact Zd (ih _)
         ·refine Zc (Za t0 t1 t2 t3 (w64 (x112.1+1)) s0.2.1 s0.2.2.1 x112.2 m1_0 m1_1 m1_2 m1_3 m1_4 m1_5) (hrc t0 t1 t2 t3 (w64 (x112.1+1)) s0.2.1 s0.2.2.1 x112.2 m1_0 m1_1 m1_2 m1_3 m1_4 m1_5) fun x116 hx116=>?_;conv=>rhs;whnf
          exact Zd (ih _)
       ·conv=>rhs;whnf
        refine ZV rfl ?_;conv=>rhs;whnf
        refine ZV rfl ?_;conv=>rhs;whnf
        refine Zf rfl ?_ ?_<;>conv=>rhs;whnf
        ·refine Zf rfl ?_ ?_<;>conv=>rhs;whnf
         ·refine Zc (Za t0 t1 t2 t3 s0.1 x112.1 s0.2.2.1 x112.2 m1_0 m1_1 m1_2 m1_3 m1_4 m1_5) (hrc t0 t1 t2 t3 s0.1 x112.1 s0.2.2.1 x112.2 m1_0 m1_1 m1_2 m1_3 m1_4 m1_5) fun x117 hx117=>?_;conv=>rhs;whnf
          exact Zd (ih _)
         ·refine Zc (Za t0 t1 t2 t3 s0.1 x112.1 s0.2.2.1 x112.2 m1_0 m1_1 m1_2 m1_3 m1_4 m1_5) (hrc t0 t1 t2 t3 s0.1 x112.1 s0.2.2.1 x112.2 m1_0 m1_1 m1_2 m1_3 m1_4 m1_5) fun x118 hx118=>?_;conv=>rhs;whnf
          exact Zd (ih _)
        ·refine Zf rfl ?_ ?_<;>conv=>rhs;whnf
         ·refine Zc (Za t0 t1 t2 t3 (w64 (x112.1+1)) s0.2.1 s0.2.2.1 x112.2 m1_0 m1_1 m1_2 m1_3 m1_4 m1_5) (hrc t0 t1 t2 t3 (w64 (x112.1+1)) s0.2.1 s0.2.2.1 x112.2 m1_0 m1_1 m1_2 m1_3 m1_4 m1_5) fun x119 hx119=>?_;conv=>rhs;whnf
          exact Zd (ih _)
         ·refine Zc (Za t0 t1 t2 t3 (w64 (x112.1+1)) s0.2.1 s0.2.2.1 x112.2 m1_0 m1_1 m1_2 m1_3 m1_4 m1_5) (hrc t0 t1 t2 t3 (w64 (x112.1+1)) s0.2.1 s0.2.2.1 x112.2 m1_0 m1_1 m1_2 m1_3 m1_4 m1_5) fun x120 hx120=>?_;conv=>rhs;whnf
          exact Zd (ih _)
  ·refine Zqx ?_;conv=>rhs;whnf
   refine Zf rfl ?_ ?_<;>conv=>rhs;whnf
   ·refine Zc _ ZaX fun x1 hx1=>?_;conv=>rhs;whnf
    exact Zh rfl
   ·refine Zf rfl ?_ ?_<;>conv=>rhs;whnf
    ·refine Zc _ Zbh fun x2 hx2=>?_;conv=>rhs;whnf
     exact Zh rfl
    ·refine Zc _ Za5 fun x3 hx3=>?_;conv=>rhs;whnf
     refine Zf rfl ?_ ?_<;>conv=>rhs;whnf
     ·refine Zc _ Za3 fun x4 hx4=>?_;conv=>rhs;whnf
      refine Zbl rfl ?_;conv=>rhs;whnf
      refine Zc _ Zb4 fun x5 hx5=>?_
      clear hx5
      rcases x5 with x5 | x5
      ·conv=>rhs;whnf
       exact Zh rfl
      ·conv=>rhs;whnf
       refine Zf rfl ?_ ?_<;>conv=>rhs;whnf
       ·refine Zk rfl rfl fun x6 hx6=>?_;conv=>rhs;whnf
        refine Zg (Zn rfl hx6) ?_;conv=>rhs;whnf
        refine Zk rfl rfl fun x7 hx7=>?_;conv=>rhs;whnf
        refine Zg (Zn rfl hx7) ?_;conv=>rhs;whnf
        refine Zq _ ZS rfl fun x8 hx8=>?_;conv=>rhs;whnf
        refine Zf rfl ?_ ?_<;>conv=>rhs;whnf
        ·refine Zc _ Zr fun x9 hx9=>?_
         clear hx9
         rcases x9 with x9 | x9
         ·conv=>rhs;whnf
          refine Zbl rfl ?_;conv=>rhs;whnf
          refine ZV rfl ?_;conv=>rhs;whnf
          refine Zf rfl ?_ ?_<;>conv=>rhs;whnf
          ·refine Zf rfl ?_ ?_<;>conv=>rhs;whnf
           ·refine Zc (Za t0 t1 t2 t3 s0.1 x9.1 s0.2.2.1 x9.2 m1_0 m1_1 m1_2 m1_3 m1_4 m1_5) (hrc t0 t1 t2 t3 s0.1 x9.1 s0.2.2.1 x9.2 m1_0 m1_1 m1_2 m1_3 m1_4 m1_5) fun x10 hx10=>?_;conv=>rhs;whnf
            exact Zd (ih _)
           ·refine Zc (Za t0 t1 t2 t3 s0.1 x9.1 s0.2.2.1 x9.2 m1_0 m1_1 m1_2 m1_3 m1_4 m1_5) (hrc t0 t1 t2 t3 s0.1 x9.1 s0.2.2.1 x9.2 m1_0 m1_1 m1_2 m1_3 m1_4 m1_5) fun x11 hx11=>?_;conv=>rhs;whnf
            exact Zd (ih _)
          ·refine Zf rfl ?_ ?_<;>conv=>rhs;whnf
           ·refine Zc (Za t0 t1 t2 t3 (w64 (x9.1+1)) s0.2.1 s0.2.2.1 x9.2 m1_0 m1_1 m1_2 m1_3 m1_4 m1_5) (hrc t0 t1 t2 t3 (w64 (x9.1+1)) s0.2.1 s0.2.2.1 x9.2 m1_0 m1_1 m1_2 m1_3 m1_4 m1_5) fun x12 hx12=>?_;conv=>rhs;whnf
            exact Zd (ih _)
           ·refine Zc (Za t0 t1 t2 t3 (w64 (x9.1+1)) s0.2.1 s0.2.2.1 x9.2 m1_0 m1_1 m1_2 m1_3 m1_4 m1_5) (hrc t0 t1 t2 t3 (w64 (x9.1+1)) s0.2.1 s0.2.2.1 x9.2 m1_0 m1_1 m1_2 m1_3 m1_4 m1_5) fun x13 hx13=>?_;conv=>rhs;whnf
            exact Zd (ih _)
         ·conv=>rhs;whnf
          refine ZV rfl ?_;conv=>rhs;whnf
          refine ZV rfl ?_;conv=>rhs;whnf
          refine Zf rfl ?_ ?_<;>conv=>rhs;whnf
          ·refine Zf rfl ?_ ?_<;>conv=>rhs;whnf
           ·refine Zc (Za t0 t1 t2 t3 s0.1 x9.1 s0.2.2.1 x9.2 m1_0 m1_1 m1_2 m1_3 m1_4 m1_5) (hrc t0 t1 t2 t3 s0.1 x9.1 s0.2.2.1 x9.2 m1_0 m1_1 m1_2 m1_3 m1_4 m1_5) fun x14 hx14=>?_;conv=>rhs;whnf
            exact Zd (ih _)
           ·refine Zc (Za t0 t1 t2 t3 s0.1 x9.1 s0.2.2.1 x9.2 m1_0 m1_1 m1_2 m1_3 m1_4 m1_5) (hrc t0 t1 t2 t3 s0.1 x9.1 s0.2.2.1 x9.2 m1_0 m1_1 m1_2 m1_3 m1_4 m1_5) fun x15 hx15=>?_;conv=>rhs;whnf
            exact Zd (ih _)
          ·refine Zf rfl ?_ ?_<;>conv=>rhs;whnf
           ·refine Zc (Za t0 t1 t2 t3 (w64 (x9.1+1)) s0.2.1 s0.2.2.1 x9.2 m1_0 m1_1 m1_2 m1_3 m1_4 m1_5) (hrc t0 t1 t2 t3 (w64 (x9.1+1)) s0.2.1 s0.2.2.1 x9.2 m1_0 m1_1 m1_2 m1_3 m1_4 m1_5) fun x16 hx16=>?_;conv=>rhs;whnf
            exact Zd (ih _)
           ·refine Zc (Za t0 t1 t2 t3 (w64 (x9.1+1)) s0.2.1 s0.2.2.1 x9.2 m1_0 m1_1 m1_2 m1_3 m1_4 m1_5) (hrc t0 t1 t2 t3 (w64 (x9.1+1)) s0.2.1 s0.2.2.1 x9.2 m1_0 m1_1 m1_2 m1_3 m1_4 m1_5) fun x17 hx17=>?_;conv=>rhs;whnf
            exact Zd (ih _)
        ·refine Zc _ ZG fun x18 hx18=>?_;conv=>rhs;whnf
         exact Zd (ih _)
       ·refine Zc _ Zr fun x19 hx19=>?_
        clear hx19
        rcases x19 with x19 | x19
        ·conv=>rhs;whnf
         refine Zbl rfl ?_;conv=>rhs;whnf
         refine ZV rfl ?_;conv=>rhs;whnf
         refine Zf rfl ?_ ?_<;>conv=>rhs;whnf
         ·refine Zf rfl ?_ ?_<;>conv=>rhs;whnf
          ·refine Zc (Za t0 t1 t2 t3 s0.1 x19.1 s0.2.2.1 x19.2 m1_0 m1_1 m1_2 m1_3 m1_4 m1_5) (hrc t0 t1 t2 t3 s0.1 x19.1 s0.2.2.1 x19.2 m1_0 m1_1 m1_2 m1_3 m1_4 m1_5) fun x20 hx20=>?_;conv=>rhs;whnf
           exact Zd (ih _)
          ·refine Zc (Za t0 t1 t2 t3 s0.1 x19.1 s0.2.2.1 x19.2 m1_0 m1_1 m1_2 m1_3 m1_4 m1_5) (hrc t0 t1 t2 t3 s0.1 x19.1 s0.2.2.1 x19.2 m1_0 m1_1 m1_2 m1_3 m1_4 m1_5) fun x21 hx21=>?_;conv=>rhs;whnf
           exact Zd (ih _)
         ·refine Zf rfl ?_ ?_<;>conv=>rhs;whnf
          ·refine Zc (Za t0 t1 t2 t3 (w64 (x19.1+1)) s0.2.1 s0.2.2.1 x19.2 m1_0 m1_1 m1_2 m1_3 m1_4 m1_5) (hrc t0 t1 t2 t3 (w64 (x19.1+1)) s0.2.1 s0.2.2.1 x19.2 m1_0 m1_1 m1_2 m1_3 m1_4 m1_5) fun x22 hx22=>?_;conv=>rhs;whnf
           exact Zd (ih _)
          ·refine Zc (Za t0 t1 t2 t3 (w64 (x19.1+1)) s0.2.1 s0.2.2.1 x19.2 m1_0 m1_1 m1_2 m1_3 m1_4 m1_5) (hrc t0 t1 t2 t3 (w64 (x19.1+1)) s0.2.1 s0.2.2.1 x19.2 m1_0 m1_1 m1_2 m1_3 m1_4 m1_5) fun x23 hx23=>?_;conv=>rhs;whnf
           exact Zd (ih _)
        ·conv=>rhs;whnf
         refine ZV rfl ?_;conv=>rhs;whnf
         refine ZV rfl ?_;conv=>rhs;whnf
         refine Zf rfl ?_ ?_<;>conv=>rhs;whnf
         ·refine Zf rfl ?_ ?_<;>conv=>rhs;whnf
          ·refine Zc (Za t0 t1 t2 t3 s0.1 x19.1 s0.2.2.1 x19.2 m1_0 m1_1 m1_2 m1_3 m1_4 m1_5) (hrc t0 t1 t2 t3 s0.1 x19.1 s0.2.2.1 x19.2 m1_0 m1_1 m1_2 m1_3 m1_4 m1_5) fun x24 hx24=>?_;conv=>rhs;whnf
           exact Zd (ih _)
          ·refine Zc (Za t0 t1 t2 t3 s0.1 x19.1 s0.2.2.1 x19.2 m1_0 m1_1 m1_2 m1_3 m1_4 m1_5) (hrc t0 t1 t2 t3 s0.1 x19.1 s0.2.2.1 x19.2 m1_0 m1_1 m1_2 m1_3 m1_4 m1_5) fun x25 hx25=>?_;conv=>rhs;whnf
           exact Zd (ih _)
         ·refine Zf rfl ?_ ?_<;>conv=>rhs;whnf
          ·refine Zc (Za t0 t1 t2 t3 (w64 (x19.1+1)) s0.2.1 s0.2.2.1 x19.2 m1_0 m1_1 m1_2 m1_3 m1_4 m1_5) (hrc t0 t1 t2 t3 (w64 (x19.1+1)) s0.2.1 s0.2.2.1 x19.2 m1_0 m1_1 m1_2 m1_3 m1_4 m1_5) fun x26 hx26=>?_;conv=>rhs;whnf
           exact Zd (ih _)
          ·refine Zc (Za t0 t1 t2 t3 (w64 (x19.1+1)) s0.2.1 s0.2.2.1 x19.2 m1_0 m1_1 m1_2 m1_3 m1_4 m1_5) (hrc t0 t1 t2 t3 (w64 (x19.1+1)) s0.2.1 s0.2.2.1 x19.2 m1_0 m1_1 m1_2 m1_3 m1_4 m1_5) fun x27 hx27=>?_;conv=>rhs;whnf
           exact Zd (ih _)
     ·refine Zf rfl ?_ ?_<;>conv=>rhs;whnf
      ·refine Zc _ Zb4 fun x28 hx28=>?_
       clear hx28
       rcases x28 with x28 | x28
       ·conv=>rhs;whnf
        exact Zh rfl
       ·conv=>rhs;whnf
        refine Zf rfl ?_ ?_<;>conv=>rhs;whnf
        ·refine Zk rfl rfl fun x29 hx29=>?_;conv=>rhs;whnf
         refine Zg (Zn rfl hx29) ?_;conv=>rhs;whnf
         refine Zk rfl rfl fun x30 hx30=>?_;conv=>rhs;whnf
         refine Zg (Zn rfl hx30) ?_;conv=>rhs;whnf
         refine Zq _ ZS rfl fun x31 hx31=>?_;conv=>rhs;whnf
         refine Zf rfl ?_ ?_<;>conv=>rhs;whnf
         ·refine Zc _ Zr fun x32 hx32=>?_
          clear hx32
          rcases x32 with x32 | x32
          ·conv=>rhs;whnf
           refine Zbl rfl ?_;conv=>rhs;whnf
           refine ZV rfl ?_;conv=>rhs;whnf
           refine Zf rfl ?_ ?_<;>conv=>rhs;whnf
           ·refine Zf rfl ?_ ?_<;>conv=>rhs;whnf
            ·refine Zc (Za t0 t1 t2 t3 s0.1 x32.1 s0.2.2.1 x32.2 m1_0 m1_1 m1_2 m1_3 m1_4 m1_5) (hrc t0 t1 t2 t3 s0.1 x32.1 s0.2.2.1 x32.2 m1_0 m1_1 m1_2 m1_3 m1_4 m1_5) fun x33 hx33=>?_;conv=>rhs;whnf
             exact Zd (ih _)
            ·refine Zc (Za t0 t1 t2 t3 s0.1 x32.1 s0.2.2.1 x32.2 m1_0 m1_1 m1_2 m1_3 m1_4 m1_5) (hrc t0 t1 t2 t3 s0.1 x32.1 s0.2.2.1 x32.2 m1_0 m1_1 m1_2 m1_3 m1_4 m1_5) fun x34 hx34=>?_;conv=>rhs;whnf
             exact Zd (ih _)
           ·refine Zf rfl ?_ ?_<;>conv=>rhs;whnf
            ·refine Zc (Za t0 t1 t2 t3 (w64 (x32.1+1)) s0.2.1 s0.2.2.1 x32.2 m1_0 m1_1 m1_2 m1_3 m1_4 m1_5) (hrc t0 t1 t2 t3 (w64 (x32.1+1)) s0.2.1 s0.2.2.1 x32.2 m1_0 m1_1 m1_2 m1_3 m1_4 m1_5) fun x35 hx35=>?_;conv=>rhs;whnf
             exact Zd (ih _)
            ·refine Zc (Za t0 t1 t2 t3 (w64 (x32.1+1)) s0.2.1 s0.2.2.1 x32.2 m1_0 m1_1 m1_2 m1_3 m1_4 m1_5) (hrc t0 t1 t2 t3 (w64 (x32.1+1)) s0.2.1 s0.2.2.1 x32.2 m1_0 m1_1 m1_2 m1_3 m1_4 m1_5) fun x36 hx36=>?_;conv=>rhs;whnf
             exact Zd (ih _)
          ·conv=>rhs;whnf
           refine ZV rfl ?_;conv=>rhs;whnf
           refine ZV rfl ?_;conv=>rhs;whnf
           refine Zf rfl ?_ ?_<;>conv=>rhs;whnf
           ·refine Zf rfl ?_ ?_<;>conv=>rhs;whnf
            ·refine Zc (Za t0 t1 t2 t3 s0.1 x32.1 s0.2.2.1 x32.2 m1_0 m1_1 m1_2 m1_3 m1_4 m1_5) (hrc t0 t1 t2 t3 s0.1 x32.1 s0.2.2.1 x32.2 m1_0 m1_1 m1_2 m1_3 m1_4 m1_5) fun x37 hx37=>?_;conv=>rhs;whnf
             exact Zd (ih _)
            ·refine Zc (Za t0 t1 t2 t3 s0.1 x32.1 s0.2.2.1 x32.2 m1_0 m1_1 m1_2 m1_3 m1_4 m1_5) (hrc t0 t1 t2 t3 s0.1 x32.1 s0.2.2.1 x32.2 m1_0 m1_1 m1_2 m1_3 m1_4 m1_5) fun x38 hx38=>?_;conv=>rhs;whnf
             exact Zd (ih _)
           ·refine Zf rfl ?_ ?_<;>conv=>rhs;whnf
            ·refine Zc (Za t0 t1 t2 t3 (w64 (x32.1+1)) s0.2.1 s0.2.2.1 x32.2 m1_0 m1_1 m1_2 m1_3 m1_4 m1_5) (hrc t0 t1 t2 t3 (w64 (x32.1+1)) s0.2.1 s0.2.2.1 x32.2 m1_0 m1_1 m1_2 m1_3 m1_4 m1_5) fun x39 hx39=>?_;conv=>rhs;whnf
             exact Zd (ih _)
            ·refine Zc (Za t0 t1 t2 t3 (w64 (x32.1+1)) s0.2.1 s0.2.2.1 x32.2 m1_0 m1_1 m1_2 m1_3 m1_4 m1_5) (hrc t0 t1 t2 t3 (w64 (x32.1+1)) s0.2.1 s0.2.2.1 x32.2 m1_0 m1_1 m1_2 m1_3 m1_4 m1_5) fun x40 hx40=>?_;conv=>rhs;whnf
             exact Zd (ih _)
         ·refine Zc _ ZG fun x41 hx41=>?_;conv=>rhs;whnf
          exact Zd (ih _)
        ·refine Zc _ Zr fun x42 hx42=>?_
         clear hx42
         rcases x42 with x42 | x42
         ·conv=>rhs;whnf
          refine Zbl rfl ?_;conv=>rhs;whnf
          refine ZV rfl ?_;conv=>rhs;whnf
          refine Zf rfl ?_ ?_<;>conv=>rhs;whnf
          ·refine Zf rfl ?_ ?_<;>conv=>rhs;whnf
           ·refine Zc (Za t0 t1 t2 t3 s0.1 x42.1 s0.2.2.1 x42.2 m1_0 m1_1 m1_2 m1_3 m1_4 m1_5) (hrc t0 t1 t2 t3 s0.1 x42.1 s0.2.2.1 x42.2 m1_0 m1_1 m1_2 m1_3 m1_4 m1_5) fun x43 hx43=>?_;conv=>rhs;whnf
            exact Zd (ih _)
           ·refine Zc (Za t0 t1 t2 t3 s0.1 x42.1 s0.2.2.1 x42.2 m1_0 m1_1 m1_2 m1_3 m1_4 m1_5) (hrc t0 t1 t2 t3 s0.1 x42.1 s0.2.2.1 x42.2 m1_0 m1_1 m1_2 m1_3 m1_4 m1_5) fun x44 hx44=>?_;conv=>rhs;whnf
            exact Zd (ih _)
          ·refine Zf rfl ?_ ?_<;>conv=>rhs;whnf
           ·refine Zc (Za t0 t1 t2 t3 (w64 (x42.1+1)) s0.2.1 s0.2.2.1 x42.2 m1_0 m1_1 m1_2 m1_3 m1_4 m1_5) (hrc t0 t1 t2 t3 (w64 (x42.1+1)) s0.2.1 s0.2.2.1 x42.2 m1_0 m1_1 m1_2 m1_3 m1_4 m1_5) fun x45 hx45=>?_;conv=>rhs;whnf
            exact Zd (ih _)
           ·refine Zc (Za t0 t1 t2 t3 (w64 (x42.1+1)) s0.2.1 s0.2.2.1 x42.2 m1_0 m1_1 m1_2 m1_3 m1_4 m1_5) (hrc t0 t1 t2 t3 (w64 (x42.1+1)) s0.2.1 s0.2.2.1 x42.2 m1_0 m1_1 m1_2 m1_3 m1_4 m1_5) fun x46 hx46=>?_;conv=>rhs;whnf
            exact Zd (ih _)
         ·conv=>rhs;whnf
          refine ZV rfl ?_;conv=>rhs;whnf
          refine ZV rfl ?_;conv=>rhs;whnf
          refine Zf rfl ?_ ?_<;>conv=>rhs;whnf
          ·refine Zf rfl ?_ ?_<;>conv=>rhs;whnf
           ·refine Zc (Za t0 t1 t2 t3 s0.1 x42.1 s0.2.2.1 x42.2 m1_0 m1_1 m1_2 m1_3 m1_4 m1_5) (hrc t0 t1 t2 t3 s0.1 x42.1 s0.2.2.1 x42.2 m1_0 m1_1 m1_2 m1_3 m1_4 m1_5) fun x47 hx47=>?_;conv=>rhs;whnf
            exact Zd (ih _)
           ·refine Zc (Za t0 t1 t2 t3 s0.1 x42.1 s0.2.2.1 x42.2 m1_0 m1_1 m1_2 m1_3 m1_4 m1_5) (hrc t0 t1 t2 t3 s0.1 x42.1 s0.2.2.1 x42.2 m1_0 m1_1 m1_2 m1_3 m1_4 m1_5) fun x48 hx48=>?_;conv=>rhs;whnf
            exact Zd (ih _)
          ·refine Zf rfl ?_ ?_<;>conv=>rhs;whnf
           ·refine Zc (Za t0 t1 t2 t3 (w64 (x42.1+1)) s0.2.1 s0.2.2.1 x42.2 m1_0 m1_1 m1_2 m1_3 m1_4 m1_5) (hrc t0 t1 t2 t3 (w64 (x42.1+1)) s0.2.1 s0.2.2.1 x42.2 m1_0 m1_1 m1_2 m1_3 m1_4 m1_5) fun x49 hx49=>?_;conv=>rhs;whnf
            exact Zd (ih _)
           ·refine Zc (Za t0 t1 t2 t3 (w64 (x42.1+1)) s0.2.1 s0.2.2.1 x42.2 m1_0 m1_1 m1_2 m1_3 m1_4 m1_5) (hrc t0 t1 t2 t3 (w64 (x42.1+1)) s0.2.1 s0.2.2.1 x42.2 m1_0 m1_1 m1_2 m1_3 m1_4 m1_5) fun x50 hx50=>?_;conv=>rhs;whnf
            exact Zd (ih _)
      ·refine Zf rfl ?_ ?_<;>conv=>rhs;whnf
       ·refine Zk rfl rfl fun x51 hx51=>?_;conv=>rhs;whnf
        refine Zg (Zn rfl hx51) ?_;conv=>rhs;whnf
        refine Zk rfl rfl fun x52 hx52=>?_;conv=>rhs;whnf
        refine Zg (Zn rfl hx52) ?_;conv=>rhs;whnf
        refine Zq _ ZS rfl fun x53 hx53=>?_;conv=>rhs;whnf
        refine Zf rfl ?_ ?_<;>conv=>rhs;whnf
        ·refine Zc _ Zr fun x54 hx54=>?_
         clear hx54
         rcases x54 with x54 | x54
         ·conv=>rhs;whnf
          refine Zbl rfl ?_;conv=>rhs;whnf
          refine ZV rfl ?_;conv=>rhs;whnf
          refine Zf rfl ?_ ?_<;>conv=>rhs;whnf
          ·refine Zf rfl ?_ ?_<;>conv=>rhs;whnf
           ·refine Zc (Za t0 t1 t2 t3 s0.1 x54.1 s0.2.2.1 x54.2 m1_0 m1_1 m1_2 m1_3 m1_4 m1_5) (hrc t0 t1 t2 t3 s0.1 x54.1 s0.2.2.1 x54.2 m1_0 m1_1 m1_2 m1_3 m1_4 m1_5) fun x55 hx55=>?_;conv=>rhs;whnf
            exact Zd (ih _)
           ·refine Zc (Za t0 t1 t2 t3 s0.1 x54.1 s0.2.2.1 x54.2 m1_0 m1_1 m1_2 m1_3 m1_4 m1_5) (hrc t0 t1 t2 t3 s0.1 x54.1 s0.2.2.1 x54.2 m1_0 m1_1 m1_2 m1_3 m1_4 m1_5) fun x56 hx56=>?_;conv=>rhs;whnf
            exact Zd (ih _)
          ·refine Zf rfl ?_ ?_<;>conv=>rhs;whnf
           ·refine Zc (Za t0 t1 t2 t3 (w64 (x54.1+1)) s0.2.1 s0.2.2.1 x54.2 m1_0 m1_1 m1_2 m1_3 m1_4 m1_5) (hrc t0 t1 t2 t3 (w64 (x54.1+1)) s0.2.1 s0.2.2.1 x54.2 m1_0 m1_1 m1_2 m1_3 m1_4 m1_5) fun x57 hx57=>?_;conv=>rhs;whnf
            exact Zd (ih _)
           ·refine Zc (Za t0 t1 t2 t3 (w64 (x54.1+1)) s0.2.1 s0.2.2.1 x54.2 m1_0 m1_1 m1_2 m1_3 m1_4 m1_5) (hrc t0 t1 t2 t3 (w64 (x54.1+1)) s0.2.1 s0.2.2.1 x54.2 m1_0 m1_1 m1_2 m1_3 m1_4 m1_5) fun x58 hx58=>?_;conv=>rhs;whnf
            exact Zd (ih _)
         ·conv=>rhs;whnf
          refine ZV rfl ?_;conv=>rhs;whnf
          refine ZV rfl ?_;conv=>rhs;whnf
          refine Zf rfl ?_ ?_<;>conv=>rhs;whnf
          ·refine Zf rfl ?_ ?_<;>conv=>rhs;whnf
           ·refine Zc (Za t0 t1 t2 t3 s0.1 x54.1 s0.2.2.1 x54.2 m1_0 m1_1 m1_2 m1_3 m1_4 m1_5) (hrc t0 t1 t2 t3 s0.1 x54.1 s0.2.2.1 x54.2 m1_0 m1_1 m1_2 m1_3 m1_4 m1_5) fun x59 hx59=>?_;conv=>rhs;whnf
            exact Zd (ih _)
           ·refine Zc (Za t0 t1 t2 t3 s0.1 x54.1 s0.2.2.1 x54.2 m1_0 m1_1 m1_2 m1_3 m1_4 m1_5) (hrc t0 t1 t2 t3 s0.1 x54.1 s0.2.2.1 x54.2 m1_0 m1_1 m1_2 m1_3 m1_4 m1_5) fun x60 hx60=>?_;conv=>rhs;whnf
            exact Zd (ih _)
          ·refine Zf rfl ?_ ?_<;>conv=>rhs;whnf
           ·refine Zc (Za t0 t1 t2 t3 (w64 (x54.1+1)) s0.2.1 s0.2.2.1 x54.2 m1_0 m1_1 m1_2 m1_3 m1_4 m1_5) (hrc t0 t1 t2 t3 (w64 (x54.1+1)) s0.2.1 s0.2.2.1 x54.2 m1_0 m1_1 m1_2 m1_3 m1_4 m1_5) fun x61 hx61=>?_;conv=>rhs;whnf
            exact Zd (ih _)
           ·refine Zc (Za t0 t1 t2 t3 (w64 (x54.1+1)) s0.2.1 s0.2.2.1 x54.2 m1_0 m1_1 m1_2 m1_3 m1_4 m1_5) (hrc t0 t1 t2 t3 (w64 (x54.1+1)) s0.2.1 s0.2.2.1 x54.2 m1_0 m1_1 m1_2 m1_3 m1_4 m1_5) fun x62 hx62=>?_;conv=>rhs;whnf
            exact Zd (ih _)
        ·refine Zc _ ZG fun x63 hx63=>?_;conv=>rhs;whnf
         exact Zd (ih _)
       ·refine Zc _ Zr fun x64 hx64=>?_
        clear hx64
        rcases x64 with x64 | x64
        ·conv=>rhs;whnf
         refine Zbl rfl ?_;conv=>rhs;whnf
         refine ZV rfl ?_;conv=>rhs;whnf
         refine Zf rfl ?_ ?_<;>conv=>rhs;whnf
         ·refine Zf rfl ?_ ?_<;>conv=>rhs;whnf
          ·refine Zc (Za t0 t1 t2 t3 s0.1 x64.1 s0.2.2.1 x64.2 m1_0 m1_1 m1_2 m1_3 m1_4 m1_5) (hrc t0 t1 t2 t3 s0.1 x64.1 s0.2.2.1 x64.2 m1_0 m1_1 m1_2 m1_3 m1_4 m1_5) fun x65 hx65=>?_;conv=>rhs;whnf
           exact Zd (ih _)
          ·refine Zc (Za t0 t1 t2 t3 s0.1 x64.1 s0.2.2.1 x64.2 m1_0 m1_1 m1_2 m1_3 m1_4 m1_5) (hrc t0 t1 t2 t3 s0.1 x64.1 s0.2.2.1 x64.2 m1_0 m1_1 m1_2 m1_3 m1_4 m1_5) fun x66 hx66=>?_;conv=>rhs;whnf
           exact Zd (ih _)
         ·refine Zf rfl ?_ ?_<;>conv=>rhs;whnf
          ·refine Zc (Za t0 t1 t2 t3 (w64 (x64.1+1)) s0.2.1 s0.2.2.1 x64.2 m1_0 m1_1 m1_2 m1_3 m1_4 m1_5) (hrc t0 t1 t2 t3 (w64 (x64.1+1)) s0.2.1 s0.2.2.1 x64.2 m1_0 m1_1 m1_2 m1_3 m1_4 m1_5) fun x67 hx67=>?_;conv=>rhs;whnf
           exact Zd (ih _)
          ·refine Zc (Za t0 t1 t2 t3 (w64 (x64.1+1)) s0.2.1 s0.2.2.1 x64.2 m1_0 m1_1 m1_2 m1_3 m1_4 m1_5) (hrc t0 t1 t2 t3 (w64 (x64.1+1)) s0.2.1 s0.2.2.1 x64.2 m1_0 m1_1 m1_2 m1_3 m1_4 m1_5) fun x68 hx68=>?_;conv=>rhs;whnf
           exact Zd (ih _)
        ·conv=>rhs;whnf
         refine ZV rfl ?_;conv=>rhs;whnf
         refine ZV rfl ?_;conv=>rhs;whnf
         refine Zf rfl ?_ ?_<;>conv=>rhs;whnf
         ·refine Zf rfl ?_ ?_<;>conv=>rhs;whnf
          ·refine Zc (Za t0 t1 t2 t3 s0.1 x64.1 s0.2.2.1 x64.2 m1_0 m1_1 m1_2 m1_3 m1_4 m1_5) (hrc t0 t1 t2 t3 s0.1 x64.1 s0.2.2.1 x64.2 m1_0 m1_1 m1_2 m1_3 m1_4 m1_5) fun x69 hx69=>?_;conv=>rhs;whnf
           exact Zd (ih _)
          ·refine Zc (Za t0 t1 t2 t3 s0.1 x64.1 s0.2.2.1 x64.2 m1_0 m1_1 m1_2 m1_3 m1_4 m1_5) (hrc t0 t1 t2 t3 s0.1 x64.1 s0.2.2.1 x64.2 m1_0 m1_1 m1_2 m1_3 m1_4 m1_5) fun x70 hx70=>?_;conv=>rhs;whnf
           exact Zd (ih _)
         ·refine Zf rfl ?_ ?_<;>conv=>rhs;whnf
          ·refine Zc (Za t0 t1 t2 t3 (w64 (x64.1+1)) s0.2.1 s0.2.2.1 x64.2 m1_0 m1_1 m1_2 m1_3 m1_4 m1_5) (hrc t0 t1 t2 t3 (w64 (x64.1+1)) s0.2.1 s0.2.2.1 x64.2 m1_0 m1_1 m1_2 m1_3 m1_4 m1_5) fun x71 hx71=>?_;conv=>rhs;whnf
           exact Zd (ih _)
          ·refine Zc (Za t0 t1 t2 t3 (w64 (x64.1+1)) s0.2.1 s0.2.2.1 x64.2 m1_0 m1_1 m1_2 m1_3 m1_4 m1_5) (hrc t0 t1 t2 t3 (w64 (x64.1+1)) s0.2.1 s0.2.2.1 x64.2 m1_0 m1_1 m1_2 m1_3 m1_4 m1_5) fun x72 hx72=>?_;conv=>rhs;whnf
           exact Zd (ih _)
theorem Zf4 (rc:Int→Int→Int→(Int→Int→Option Int)→(List Int)→Option (List Int)) (hrc:∀(t0:Bool) (t1:Bool) (t2:Bool) (t3:Bool) (b:Int) (c:Int) (d:Int) (m0_0:List Int) (m1_0:Int) (m1_1:Int) (m1_2:List Zas) (m1_3:List Zo) (m1_4:List Zl) (m1_5:List Zw) (r:List Int),rc b c d (fun z0 z1=>Zz z0 z1 m1_4) m0_0=some r→evW ctx 83 [(.sl 0 1),(.d (Ze b)),(.d (Ze c)),(.d (Ze d)),(.fn 75 [(.ptr 1 0)])] [(.arr 1 (List.map Ze m0_0)),(.cells [(.d (Ze m1_0)),(.d (Ze m1_1)),(.d (D.list t0 (List.map ZaC m1_2))),(.d (D.list t1 (List.map ZA m1_3))),(.d (D.list t2 (List.map Zv m1_4))),(.d (D.list t3 (List.map ZD m1_5)))])]=some ((Za t0 t1 t2 t3 b c d m0_0 m1_0 m1_1 m1_2 m1_3 m1_4 m1_5) r)) (t0:Bool) (t1:Bool) (t2:Bool) (t3:Bool) (b:Int) (c:Int) (d:Int) (m0_0:List Int) (m1_0:Int) (m1_1:Int) (m1_2:List Zas) (m1_3:List Zo) (m1_4:List Zl) (m1_5:List Zw):∀r,(ZaM rc b c d (fun z0 z1=>Zz z0 z1 m1_4) m0_0)=some r→evW ctx 83 [(.sl 0 1),(.d (Ze b)),(.d (Ze c)),(.d (Ze d)),(.fn 75 [(.ptr 1 0)])] [(.arr 1 (List.map Ze m0_0)),(.cells [(.d (Ze m1_0)),(.d (Ze m1_1)),(.d (D.list t0 (List.map ZaC m1_2))),(.d (D.list t1 (List.map ZA m1_3))),(.d (D.list t2 (List.map Zv m1_4))),(.d (D.list t3 (List.map ZD m1_5)))])]=some ((Za t0 t1 t2 t3 b c d m0_0 m1_0 m1_1 m1_2 m1_3 m1_4 m1_5) r):=by
 show ZN _ (fun r rhs=>rhs=some ((Za t0 t1 t2 t3 b c d m0_0 m1_0 m1_1 m1_2 m1_3 m1_4 m1_5) r)) _
 unfold ZaM
 rw[ZeK ctx 83 ZDL _ _ rfl rfl]
 conv=>rhs;whnf
 refine Zc _ (ZfX hrc _) fun r219 hr219=>?_;conv=>rhs;whnf
 exact Zh rfl
theorem Zc1:∀(n:Nat) (t0:Bool) (t1:Bool) (t2:Bool) (t3:Bool) (b:Int) (c:Int) (d:Int) (m0_0:List Int) (m1_0:Int) (m1_1:Int) (m1_2:List Zas) (m1_3:List Zo) (m1_4:List Zl) (m1_5:List Zw) (r:List Int),Z4 n b c d (fun z0 z1=>Zz z0 z1 m1_4) m0_0=some r→evW ctx 83 [(.sl 0 1),(.d (Ze b)),(.d (Ze c)),(.d (Ze d)),(.fn 75 [(.ptr 1 0)])] [(.arr 1 (List.map Ze m0_0)),(.cells [(.d (Ze m1_0)),(.d (Ze m1_1)),(.d (D.list t0 (List.map ZaC m1_2))),(.d (D.list t1 (List.map ZA m1_3))),(.d (D.list t2 (List.map Zv m1_4))),(.d (D.list t3 (List.map ZD m1_5)))])]=some ((Za t0 t1 t2 t3 b c d m0_0 m1_0 m1_1 m1_2 m1_3 m1_4 m1_5) r)
  | 0,t0,t1,t2,t3,b,c,d,m0_0,m1_0,m1_1,m1_2,m1_3,m1_4,m1_5,r,h=>by cases h
  | n+1,t0,t1,t2,t3,b,c,d,m0_0,m1_0,m1_1,m1_2,m1_3,m1_4,m1_5,r,h=>Zf4 (Z4 n) (Zc1 n) t0 t1 t2 t3 b c d m0_0 m1_0 m1_1 m1_2 m1_3 m1_4 m1_5 r h
theorem Zgq {t0 t1:Bool}{t2 t3:Bool}{b c d:Int}{m0_0:List Int}{m1_0 m1_1:Int}{m1_2:List Zas}{m1_3:List Zo}{m1_4:List Zl}{m1_5:List Zw}:∀r,ZdC b c d (fun z0 z1=>Zz z0 z1 m1_4) m0_0=some r→evW ctx 83 [(.sl 0 1),(.d (Ze b)),(.d (Ze c)),(.d (Ze d)),(.fn 75 [(.ptr 1 0)])] [(.arr 1 (List.map Ze m0_0)),(.cells [(.d (Ze m1_0)),(.d (Ze m1_1)),(.d (D.list t0 (List.map ZaC m1_2))),(.d (D.list t1 (List.map ZA m1_3))),(.d (D.list t2 (List.map Zv m1_4))),(.d (D.list t3 (List.map ZD m1_5)))])]=some ((Za t0 t1 t2 t3 b c d m0_0 m1_0 m1_1 m1_2 m1_3 m1_4 m1_5) r):=fun r h=>by
  obtain⟨n,hn⟩:=ZxV h
  exact Zc1 n t0 t1 t2 t3 b c d m0_0 m1_0 m1_1 m1_2 m1_3 m1_4 m1_5 r hn
def Zdt (t0:Bool) (t1:Bool) (t2:Bool) (t3:Bool) (m0_0:List Int) (m1_0:Int) (m1_1:Int) (m1_2:List Zas) (m1_3:List Zo) (m1_4:List Zl) (m1_5:List Zw):(List Int)→V×Zs
  | r=>((.d (D.tup [])),[(.arr 1 (List.map Ze r)),(.cells [(.d (Ze m1_0)),(.d (Ze m1_1)),(.d (D.list t0 (List.map ZaC m1_2))),(.d (D.list t1 (List.map ZA m1_3))),(.d (D.list t2 (List.map Zv m1_4))),(.d (D.list t3 (List.map ZD m1_5)))])])
theorem Zgp {t0 t1:Bool}{t2 t3:Bool}{m0_0:List Int}{m1_0 m1_1:Int}{m1_2:List Zas}{m1_3:List Zo}{m1_4:List Zl}{m1_5:List Zw}:∀r,(ZaW (fun z0 z1=>Zz z0 z1 m1_4) m0_0)=some r→evW ctx 74 [(.sl 0 1),(.fn 75 [(.ptr 1 0)])] [(.arr 1 (List.map Ze m0_0)),(.cells [(.d (Ze m1_0)),(.d (Ze m1_1)),(.d (D.list t0 (List.map ZaC m1_2))),(.d (D.list t1 (List.map ZA m1_3))),(.d (D.list t2 (List.map Zv m1_4))),(.d (D.list t3 (List.map ZD m1_5)))])]=some ((Zdt t0 t1 t2 t3 m0_0 m1_0 m1_1 m1_2 m1_3 m1_4 m1_5) r):=by
 show ZN _ (fun r rhs=>rhs=some ((Zdt t0 t1 t2 t3 m0_0 m1_0 m1_1 m1_2 m1_3 m1_4 m1_5) r)) _
 unfold ZaW
 rw[ZeK ctx 74 ZEv _ _ rfl rfl]
 conv=>rhs;whnf
 refine Zm (ZK _ _) ?_;conv=>rhs;whnf
 refine Zq _ ZiB rfl fun x0 hx0=>?_;conv=>rhs;whnf
 refine Zc _ Zgq fun x1 hx1=>?_;conv=>rhs;whnf
 exact Zh rfl
def ZlK (r:List Int):D:=(D.list true (List.map Ze r))
def ZjZ (t0:Bool) (t1:Bool) (t2:Bool) (t3:Bool) (a:Zp) (b:Int):(List Int)→Ex×List V×Zs
  | r=>(.exit 0,[(.ptr 0 0),(.sl 1 1)],[(.cells (dV t0 t1 t2 t3 a)),(.arr 1 (List.map Ze r))])
theorem ZnL {t0 t1:Bool}{t2 t3:Bool}{a:Zp}{b:Int}:∀(s1:Int×(List Int)) (r:List Int),lp (ZeJ a b) s1=some r→lpW ctx 0 [1,2,5,12,13,14] [2,5] ZBU [(.d (Ze b)),(.ptr 0 0),(.sl 1 1),(.d (D.list t2 (List.map Zv a.futures))),(.d (Ze (a.futures.length:Int))),(.d (Ze s1.1))] [(.cells (dV t0 t1 t2 t3 a)),(.arr 1 (List.map Ze s1.2))]=some ((ZjZ t0 t1 t2 t3 a b) r):=by
 refine Zah (ZjZ t0 t1 t2 t3 a b) ?_
 intro s1 rcl ih
 show ZN _ _ (lpW _ _ _ _ _ _ _)
 unfold ZeJ
 rw[Zai]
 conv=>rhs;whnf
 refine Zf rfl ?_ ?_<;>conv=>rhs;whnf
 ·refine Zk rfl rfl fun x2 hx2=>?_;conv=>rhs;whnf
  refine Zf rfl ?_ ?_<;>conv=>rhs;whnf
  ·refine Zbl rfl ?_;conv=>rhs;whnf
   refine Zf (Zfd Ze s1.2 1) ?_ ?_
   ·conv=>rhs;whnf
    refine Zm (Zfc Ze s1.2 [s1.1]) ?_;conv=>rhs;whnf
    exact Zd (ih _)
   ·exact ZaH
  ·exact Zd (ih _)
 ·exact Zh rfl
theorem Zqe {t0 t1:Bool}{t2 t3:Bool}{a:Zp}{b:Int}:∀r,(Zez a b)=some r→evD ctx 48 [(.d (D.agg (dA t0 t1 t2 t3 a))),(.d (Ze b))]=some (ZlK r):=by
 show ZN _ (fun r rhs=>rhs=some (ZlK r)) _
 unfold Zez
 rw[Zbj ctx 48 ZEu _ rfl rfl]
 conv=>rhs;whnf
 refine Zq _ ZmY rfl fun x0 hx0=>?_;conv=>rhs;whnf
 refine Zf rfl ?_ ?_<;>conv=>rhs;whnf
 ·exact Zh rfl
 ·refine Zm (ZK _ _) ?_;conv=>rhs;whnf
  refine Zc _ (ZnL _) fun r3 hr3=>?_;conv=>rhs;whnf
  refine Zc _ Zgp fun x4 hx4=>?_;conv=>rhs;whnf
  exact Zh rfl
def Zi0 (b:Zj) (c:Int) (m1_0:List Int) (m2_0:List Zo) (m3_0:List Zj) (m4_0:(List (Int×Int))) (m5_0:(List (Int×Int))) (m6_0:(List (Zl×Int))):Unit→V×Zs
  | r=>((.d (Ze (w64 ((List.length (m3_0++[b]):Int)-1)))),[(.cells [(.sl 7 1),(.sl 2 2),(.sl 8 2),(.mp 4),(.mp 5),(.mp 6)]),.dead,(.arr 2 (List.map ZA m2_0)),.dead,(.mp (mpD Ze Ze m4_0)),(.mp (mpD Ze Ze m5_0)),(.mp (mpD Zv Ze m6_0)),(.arr 1 (List.map Ze (m1_0++[c]))),(.arr 2 (List.map Zbe (m3_0++[b])))])
theorem ZbA {b:Zj}{c:Int}{m1_0:List Int}{m2_0:List Zo}{m3_0:List Zj}{m4_0:(List (Int×Int))}{m5_0:(List (Int×Int))}{m6_0:(List (Zl×Int))}:∀r,(Za9 b c m1_0 m3_0)=some r→evW ctx 27 [(.ptr 0 0),(.d (D.agg [(Ze b.part),(Ze b.step)])),(.d (Ze c))] [(.cells [(.sl 1 1),(.sl 2 2),(.sl 3 2),(.mp 4),(.mp 5),(.mp 6)]),(.arr 1 (List.map Ze m1_0)),(.arr 2 (List.map ZA m2_0)),(.arr 2 (List.map Zbe m3_0)),(.mp (mpD Ze Ze m4_0)),(.mp (mpD Ze Ze m5_0)),(.mp (mpD Zv Ze m6_0))]=some ((Zi0 b c m1_0 m2_0 m3_0 m4_0 m5_0 m6_0) r):=by
 show ZN _ (fun r rhs=>rhs=some ((Zi0 b c m1_0 m2_0 m3_0 m4_0 m5_0 m6_0) r)) _
 unfold Za9
 rw[ZeK ctx 27 ZDx _ _ rfl rfl]
 conv=>rhs;whnf
 refine Zbl rfl ?_;conv=>rhs;whnf
 refine Zf (Zfd Zbe m3_0 1) ?_ ?_
 ·conv=>rhs;whnf
  refine Zm (Zfc Zbe m3_0 [b]) ?_;conv=>rhs;whnf
  refine Zbl rfl ?_;conv=>rhs;whnf
  refine Zf (Zfd Ze m1_0 1) ?_ ?_
  ·conv=>rhs;whnf
   refine Zm (Zfc Ze m1_0 [c]) ?_;conv=>rhs;whnf
   refine Zm (ZK _ _) ?_;conv=>rhs;whnf
   exact Zh rfl
  ·exact ZaH
 ·exact ZaH
end Go.Proofs.YtnpidpcmpleiaaaGreatDoor
