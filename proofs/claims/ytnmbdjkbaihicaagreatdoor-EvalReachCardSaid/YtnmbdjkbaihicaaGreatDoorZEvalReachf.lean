/- EvalReach: part 6 of 7 of the proof. -/
import Derived.Test.YtnmbdjkbaihicaaGreatDoorZEvalReache
import Derived.KernelRfl
set_option maxRecDepth 100000
set_option maxHeartbeats 40000000
namespace Go.Proofs.YtnmbdjkbaihicaaGreatDoor
open Go Go.Proofs.YtnmbdjkbaihicaaGreatDoorE
set_option linter.unusedVariables false
set_option linter.unusedSimpArgs false
theorem ZdY:∀r,Zd8=some r→evD ctx 6 []=some (D.bool r):=fun r h=>by
  cases h
  exact ZCy 100 (by kernel_rfl)
def Zm2 (r:Bool):D:=(D.bool r)
def Zkz (t0:Bool) (t1:Bool) (t2:Bool) (t3:Bool) (a:Zm):(Unit⊕Unit)→Ex×List V×Zq
  | (.inl r)=>(.ret,[(.ptr 0 0),(.d (D.bool false))],[(.cells (dV t0 t1 t2 t3 a))])
  | (.inr r)=>(.exit 0,[(.ptr 0 0),.bad],[(.cells (dV t0 t1 t2 t3 a))])
theorem ZnP {t0:Bool}{t1:Bool}{t2:Bool}{t3:Bool}{a:Zm}:∀(s0:Int) (r:(Unit⊕Unit)),lp (Zf4 a) s0=some r→lpW ctx 0 [1,3] [1,2] ZyT [(.ptr 0 0),(.d (Ze s0))] [(.cells (dV t0 t1 t2 t3 a))]=some ((Zkz t0 t1 t2 t3 a) r):=by
 refine ZaX (Zkz t0 t1 t2 t3 a) ?_
 intro s0 rcl ih
 show ZS _ _ (lpW _ _ _ _ _ _ _)
 unfold Zf4
 rw[ZaY]
 conv=>arg 3;whnf
 refine Zn (Z3 _ _) ?_;conv=>arg 3;whnf
 refine Zg rfl ?_ ?_<;>conv=>arg 3;whnf
 ·refine Zg rfl ?_ ?_<;>conv=>arg 3;whnf
  ·refine Zi rfl rfl fun x1 hx1=>?_;conv=>arg 3;whnf
   refine Zn (Z3 _ _) ?_;conv=>arg 3;whnf
   refine Zg rfl ?_ ?_<;>conv=>arg 3;whnf
   ·exact Zh rfl
   ·refine Zf (ZaG rfl hx1) ?_;conv=>arg 3;whnf
    refine Zn (Z3 _ _) ?_;conv=>arg 3;whnf
    refine Zg rfl ?_ ?_<;>conv=>arg 3;whnf
    ·exact Zh rfl
    ·exact Zd (ih _)
  ·exact Zh rfl
 ·exact Zh rfl
theorem Zq1 {t0:Bool}{t1:Bool}{t2:Bool}{t3:Bool}{a:Zm}:∀r,(ZiL a)=some r→evD ctx 27 [(.d (D.agg (dA t0 t1 t2 t3 a)))]=some (Zm2 r):=by
 show ZS _ (fun r rhs=>rhs=some (Zm2 r)) _
 unfold ZiL
 rw[ZbV ctx 27 ZBF _ rfl rfl]
 conv=>arg 3;whnf
 refine Zc _ (ZnP _) fun r2 hr2=>?_
 clear hr2
 rcases r2 with r2 | r2
 ·conv=>arg 3;whnf
  exact Zh rfl
 ·conv=>arg 3;whnf
  refine Zn (Z3 _ _) ?_;conv=>arg 3;whnf
  refine Zg rfl ?_ ?_<;>conv=>arg 3;whnf
  ·refine Zn (Z3 _ _) ?_;conv=>arg 3;whnf
   refine Zg rfl ?_ ?_<;>conv=>arg 3;whnf
   ·refine Zn (Z3 _ _) ?_;conv=>arg 3;whnf
    refine Zg rfl ?_ ?_<;>conv=>arg 3;whnf
    ·refine Zn (Z3 _ _) ?_;conv=>arg 3;whnf
     refine Zg rfl ?_ ?_<;>conv=>arg 3;whnf
     ·exact Zh rfl
     ·exact Zh rfl
    ·exact Zh rfl
   ·exact Zh rfl
  ·exact Zh rfl
def ZmP (r:Bool):D:=(D.bool r)
theorem ZqT {t0:Bool}{t1:Bool}{t2:Bool}{t3:Bool}{t4:Bool}{t5:Bool}{t6:Bool}{a:Zm}{b:(List Int)}{c:ZbB}:∀r,(ZiT a b c)=some r→evD ctx 7 [(.d (D.agg (dA t0 t1 t2 t3 a))),(.d (D.list t4 (List.map Ze b))),(.d (D.agg [(D.list t5 (List.map D.bool c.done)),(D.list t6 (List.map Ze c.vals))]))]=some (ZmP r):=by
 show ZS _ (fun r rhs=>rhs=some (ZmP r)) _
 unfold ZiT
 rw[ZbV ctx 7 fn7 _ rfl rfl]
 conv=>arg 3;whnf
 refine Zp _ Zq1 rfl fun x0 hx0=>?_;conv=>arg 3;whnf
 refine Zg rfl ?_ ?_<;>conv=>arg 3;whnf
 ·refine Zn (Z3 _ _) ?_;conv=>arg 3;whnf
  refine Zg rfl ?_ ?_<;>conv=>arg 3;whnf
  ·refine Zn (Z3 _ _) ?_;conv=>arg 3;whnf
   refine Zg rfl ?_ ?_<;>conv=>arg 3;whnf
   ·refine Zn (Z3 _ _) ?_;conv=>arg 3;whnf
    refine Zg rfl ?_ ?_<;>conv=>arg 3;whnf
    ·exact Zh rfl
    ·exact Zh rfl
   ·exact Zh rfl
  ·exact Zh rfl
 ·exact Zh rfl
def Zm4 (t0:Bool) (t1:Bool) (t2:Bool) (t3:Bool) (a:Zm):(List Zv)→V×Zq
  | r=>((.agg [(.d (Ze a.period)),(.d (Ze a.deadline)),(.sl 0 3),(.sl 1 2),(.sl 2 3),(.sl 3 2)]),[(.arr 3 (List.map Zau a.parts)),(.arr 2 (List.map ZI a.edges)),(.arr 3 (List.map Zt a.futures)),(.arr 2 (List.map ZB r))])
def Zku (t0:Bool) (t1:Bool) (t2:Bool) (t3:Bool) (a:Zm):(List Zv)→Ex×List V×Zq
  | r=>(.exit 0,[(.ptr 0 0),(.ptr 1 0)],[(.cells [(.d (Ze 0)),(.d (Ze 0)),(.sl 2 3),(.sl 3 2),(.sl 4 3),(.sl 5 2)]),(.cells [(.d (Ze a.period)),(.d (Ze a.deadline)),(.sl 6 3),(.sl 7 2),(.sl 8 3),(.sl 9 2)]),(.arr 3 []),(.arr 2 []),(.arr 3 []),(.arr 2 []),(.arr 3 (List.map Zau a.parts)),(.arr 2 (List.map ZI a.edges)),(.arr 3 (List.map Zt a.futures)),(.arr 2 (List.map ZB r))])
theorem ZnH {t0:Bool}{t1:Bool}{t2:Bool}{t3:Bool}{a:Zm}:∀(s0:Int×(List Zv)) (r:(List Zv)),lp (Ze6 a) s0=some r→lpW ctx 0 [1,2,3,4] [2,3] ZBg [(.ptr 0 0),(.ptr 1 0),(.ptr 2 0),(.d (Ze s0.1))] [(.cells (dV t0 t1 t2 t3 a)),(.cells [(.d (Ze 0)),(.d (Ze 0)),(.sl 3 3),(.sl 4 2),(.sl 5 3),(.sl 6 2)]),(.cells [(.d (Ze a.period)),(.d (Ze a.deadline)),(.sl 7 3),(.sl 8 2),(.sl 9 3),(.sl 10 2)]),(.arr 3 []),(.arr 2 []),(.arr 3 []),(.arr 2 []),(.arr 3 (List.map Zau a.parts)),(.arr 2 (List.map ZI a.edges)),(.arr 3 (List.map Zt a.futures)),(.arr 2 (List.map ZB s0.2))]=some ((Zku t0 t1 t2 t3 a) r):=by
 refine ZaX (Zku t0 t1 t2 t3 a) ?_
 intro s0 rcl ih
 show ZS _ _ (lpW _ _ _ _ _ _ _)
 unfold Ze6
 rw[ZaY]
 conv=>arg 3;whnf
 refine Zn (Z3 _ _) ?_;conv=>arg 3;whnf
 refine Zg rfl ?_ ?_<;>conv=>arg 3;whnf
 ·refine Zi rfl rfl fun x1 hx1=>?_;conv=>arg 3;whnf
  refine Zbr (Zih (f:=Ze) (fun _=>⟨rfl,rfl⟩) x1.ins 0) ?_;conv=>arg 3;whnf
  refine Zg (Zie Ze x1.ins) ?_ ?_
  ·conv=>arg 3;whnf
   refine Zn (rfl:_=List.map Ze x1.ins) ?_;conv=>arg 3;whnf
   refine Zf (ZaG rfl hx1) ?_;conv=>arg 3;whnf
   refine Zbr (Zih (f:=Ze) (fun _=>⟨rfl,rfl⟩) x1.outs 0) ?_;conv=>arg 3;whnf
   refine Zg (Zie Ze x1.outs) ?_ ?_
   ·conv=>arg 3;whnf
    refine Zn (rfl:_=List.map Ze x1.outs) ?_;conv=>arg 3;whnf
    refine Zbr rfl ?_;conv=>arg 3;whnf
    refine Zg (Zic ZB s0.2 1) ?_ ?_
    ·conv=>arg 3;whnf
     refine Zn (Zh8 ZB s0.2 [x1]) ?_;conv=>arg 3;whnf
     exact Zd (ih _)
    ·exact ZaN
   ·exact ZaN
  ·exact ZaN
 ·exact Zh rfl
theorem ZjH {t0:Bool}{t1:Bool}{t2:Bool}{t3:Bool}{a:Zm}:∀r,(Zg8 a)=some r→evW ctx 9 [(.d (D.agg (dA t0 t1 t2 t3 a)))] []=some ((Zm4 t0 t1 t2 t3 a) r):=by
 show ZS _ (fun r rhs=>rhs=some ((Zm4 t0 t1 t2 t3 a) r)) _
 unfold Zg8
 rw[Zd4 ctx 9 fn9 _ _ rfl rfl]
 conv=>arg 3;whnf
 refine Zbr (Zih (f:=Zau) (fun _=>⟨rfl,rfl⟩) a.parts 0) ?_;conv=>arg 3;whnf
 refine Zg (Zie Zau a.parts) ?_ ?_
 ·conv=>arg 3;whnf
  refine Zn (rfl:_=List.map Zau a.parts) ?_;conv=>arg 3;whnf
  refine Zbr (Zih (f:=ZI) (fun _=>⟨rfl,rfl⟩) a.edges 0) ?_;conv=>arg 3;whnf
  refine Zg (Zie ZI a.edges) ?_ ?_
  ·conv=>arg 3;whnf
   refine Zn (rfl:_=List.map ZI a.edges) ?_;conv=>arg 3;whnf
   refine Zbr (Zih (f:=Zt) (fun _=>⟨rfl,rfl⟩) a.futures 0) ?_;conv=>arg 3;whnf
   refine Zg (Zie Zt a.futures) ?_ ?_
   ·conv=>arg 3;whnf
    refine Zn (rfl:_=List.map Zt a.futures) ?_;conv=>arg 3;whnf
    refine Zc _ (ZnH _) fun r2 hr2=>?_;conv=>arg 3;whnf
    exact Zh rfl
   ·exact ZaN
  ·exact ZaN
 ·exact ZaN
def ZlA (r:Bool):D:=(D.bool r)
theorem ZcV {a:Int}{b:Int}{c:Int}:∀r,(Zcp a b c)=some r→evD ctx 67 [(.d (Ze a)),(.d (Ze b)),(.d (Ze c))]=some (ZlA r):=by
 show ZS _ (fun r rhs=>rhs=some (ZlA r)) _
 unfold Zcp
 rw[ZbV ctx 67 ZB3 _ rfl rfl]
 conv=>arg 3;whnf
 refine Zg rfl ?_ ?_<;>conv=>arg 3;whnf
 ·refine Zg rfl ?_ ?_<;>conv=>arg 3;whnf
  ·exact Zh rfl
  ·exact Zh rfl
 ·exact Zh rfl
def Zm0 (r:Int):D:=(Ze r)
theorem Zqh {a:Int}:∀r,(ZiJ a)=some r→evD ctx 98 [(.d (Ze a))]=some (Zm0 r):=by
 show ZS _ (fun r rhs=>rhs=some (Zm0 r)) _
 unfold ZiJ
 rw[ZbV ctx 98 ZCB _ rfl rfl]
 conv=>arg 3;whnf
 refine Zg rfl ?_ ?_<;>conv=>arg 3;whnf
 ·exact Zh rfl
 ·refine Zg rfl ?_ ?_<;>conv=>arg 3;whnf
  ·exact Zh rfl
  ·exact Zh rfl
def Zhk (r:Int):D:=(Ze r)
theorem Zjz {a:Int}:∀r,(Zdt a)=some r→evD ctx 114 [(.d (D.int .u64 a))]=some (Zhk r):=by
 show ZS _ (fun r rhs=>rhs=some (Zhk r)) _
 unfold Zdt
 rw[ZbV ctx 114 Zyi _ rfl rfl]
 conv=>arg 3;whnf
 refine ZR rfl ?_;conv=>arg 3;whnf
 refine ZR rfl ?_;conv=>arg 3;whnf
 refine ZR rfl ?_;conv=>arg 3;whnf
 refine ZR rfl ?_;conv=>arg 3;whnf
 refine ZR rfl ?_;conv=>arg 3;whnf
 refine ZR rfl ?_;conv=>arg 3;whnf
 exact Zh rfl
def ZhY (r:Int):D:=(Ze r)
theorem Zkp {a:Int}:∀r,(ZdP a)=some r→evD ctx 99 [(.d (D.int .u64 a))]=some (ZhY r):=by
 show ZS _ (fun r rhs=>rhs=some (ZhY r)) _
 unfold ZdP
 rw[ZbV ctx 99 ZBH _ rfl rfl]
 conv=>arg 3;whnf
 refine Zp _ Zjz rfl fun x0 hx0=>?_;conv=>arg 3;whnf
 exact Zh rfl
theorem ZDq (n:Int):0≤IntKind.u64.wrap n∧IntKind.u64.wrap n<18446744073709551616:=by
  have:IntKind.u64.wrap n=n % 18446744073709551616:=by
    show(if (false&&decide (n % 18446744073709551616 ≥ 9223372036854775808))=true then n % 18446744073709551616-18446744073709551616 else n % 18446744073709551616)=_
    simp
  rw[this]
  omega
theorem ZEw (n:Int):∃j:Nat,j<64∧(IntKind.u64.wrap n).fdiv (2 ^ (min (Int.toNat 58) IntKind.u64.bits))=(j:Int):=by
  obtain⟨h1,h2⟩:=ZDq n
  have e:(2:Int) ^ (min (Int.toNat 58) IntKind.u64.bits)=288230376151711744:=by decide
  rw[e,Int.fdiv_eq_ediv_of_nonneg _ (by omega)]
  refine⟨((IntKind.u64.wrap n) / 288230376151711744).toNat,?_,?_⟩<;>omega
theorem ZEH:∀j:Nat,j<64→ZeL [] 1 false (.d (.rptr (ZyE.drop (j*1))))=some (.d (.int .u8 (Ztk.getD j 0))):=by
  have key:((List.range 64).all fun j=>match ZeL [] 1 false (.d (.rptr (ZyE.drop (j*1)))) with | some (.d (.int .u8 z))=>z==Ztk.getD j 0 | _=>false)=true:=by rfl
  intro j hj
  have:=List.all_eq_true.1 key j (by simpa using hj)
  split at this
  · rename_i z hz
    rw[hz,eq_of_beq this]
  · cases this
def ZiV (r:Int):D:=Ze r
theorem Zip (a:Int):∀r,ZeP a=some r→evD ctx 116 [.d (.int .u64 a)]=some (ZiV r):=by
  intro r hr
  unfold ZeP at hr
  have hr:=Option.some.inj hr
  subst hr
  rw[ZbV ctx 116 ZzJ _ rfl rfl]
  by_cases h:(a==0)=true
  · conv=>lhs;whnf
    rw[h,ZAE]
    rfl
  · replace h:(a==0)=false:=by simpa using h
    obtain⟨j,hj,e⟩:=ZEw (IntKind.u64.wrap ((BitVec.ofInt IntKind.u64.bits a &&& BitVec.ofInt IntKind.u64.bits (IntKind.u64.wrap (0-a))).toNat:Int)*285870213051353865)
    conv=>lhs;whnf
    rw[h,ZA2]
    conv=>lhs;whnf
    refine(ZEy (by rfl)).trans ?_
    conv=>lhs;whnf
    rw[e]
    refine(ZC9 (by simp;omega)).trans ?_
    conv=>lhs;whnf
    erw [ZEH j hj]
    rfl
def ZgP (r:Int):D:=(Ze r)
theorem Zi5 {a:Int}:∀r,(ZdO a)=some r→evD ctx 100 [(.d (D.int .u64 a))]=some (ZgP r):=by
 show ZS _ (fun r rhs=>rhs=some (ZgP r)) _
 unfold ZdO
 rw[ZbV ctx 100 Zzp _ rfl rfl]
 conv=>arg 3;whnf
 refine Zp _ (Zip _) rfl fun x0 hx0=>?_;conv=>arg 3;whnf
 exact Zh rfl
def Zpd (r:(Int×Bool)):D:=(D.tup [(Ze r.1),(D.bool r.2)])
theorem ZsR {a:Int}:∀r,(ZkC a)=some r→evD ctx 68 [(.d (Ze a))]=some (Zpd r):=by
 show ZS _ (fun r rhs=>rhs=some (Zpd r)) _
 unfold ZkC
 rw[ZbV ctx 68 ZBG _ rfl rfl]
 conv=>arg 3;whnf
 refine Zp _ Zqh rfl fun x0 hx0=>?_;conv=>arg 3;whnf
 refine Zg rfl ?_ ?_<;>conv=>arg 3;whnf
 ·exact Zh rfl
 ·refine Zp _ Zkp rfl fun x1 hx1=>?_;conv=>arg 3;whnf
  refine Zg rfl ?_ ?_<;>conv=>arg 3;whnf
  ·exact Zh rfl
  ·refine Zp _ Zi5 rfl fun x2 hx2=>?_;conv=>arg 3;whnf
   exact Zh rfl
def ZmQ (r:Bool):D:=(D.bool r)
theorem Zqj {a:Zaa}:∀r,(Zgk a)=some r→evD ctx 70 [(.d (D.agg [(Ze a.op),(Ze a.arg),(Ze a.work)]))]=some (ZmQ r):=by
 show ZS _ (fun r rhs=>rhs=some (ZmQ r)) _
 unfold Zgk
 rw[ZbV ctx 70 ZCv _ rfl rfl]
 conv=>arg 3;whnf
 refine Zp _ ZcV rfl fun x0 hx0=>?_;conv=>arg 3;whnf
 refine Zg rfl ?_ ?_<;>conv=>arg 3;whnf
 ·refine Zp _ ZcV rfl fun x1 hx1=>?_;conv=>arg 3;whnf
  refine Zg rfl ?_ ?_<;>conv=>arg 3;whnf
  ·refine Zp _ ZcV rfl fun x2 hx2=>?_;conv=>arg 3;whnf
   refine Zg rfl ?_ ?_<;>conv=>arg 3;whnf
   ·exact Zh rfl
   ·exact Zh rfl
  ·exact Zh rfl
 ·exact Zh rfl
def Zdz (r:Int):D:=(Ze r)
def Zc8 (t0:Bool) (a:(List Zaa)):(Int⊕Unit)→Ex×List V×Zq
  | (.inl r)=>(.ret,[(.d (Ze r))],[])
  | (.inr r)=>(.exit 0,[.bad],[])
theorem ZfI {t0:Bool}{a:(List Zaa)}:∀(s0:Int) (r:(Int⊕Unit)),lp (ZbD a (fun z0=>Zgk z0)) s0=some r→lpW ctx 0 [0,1,7,8] [4] ZwA [(.d (D.list t0 (List.map Zau a))),(.d (D.fn 70 [])),(.d (Ze (a.length:Int))),(.d (Ze s0))] []=some ((Zc8 t0 a) r):=by
 refine ZaX (Zc8 t0 a) ?_
 intro s0 rcl ih
 show ZS _ _ (lpW _ _ _ _ _ _ _)
 unfold ZbD
 rw[ZaY]
 conv=>arg 3;whnf
 refine Zg rfl ?_ ?_<;>conv=>arg 3;whnf
 ·refine Zi rfl rfl fun x1 hx1=>?_;conv=>arg 3;whnf
  refine Zp _ Zqj rfl fun x2 hx2=>?_;conv=>arg 3;whnf
  refine Zg rfl ?_ ?_<;>conv=>arg 3;whnf
  ·exact Zh rfl
  ·exact Zd (ih _)
 ·exact Zh rfl
theorem Zf7 {t0:Bool}{a:(List Zaa)}:∀r,(ZcU a (fun z0=>Zgk z0))=some r→evD ctx 101 [(.d (D.list t0 (List.map Zau a))),(.d (D.fn 70 []))]=some (Zdz r):=by
 show ZS _ (fun r rhs=>rhs=some (Zdz r)) _
 unfold ZcU
 rw[ZbV ctx 101 Zx0 _ rfl rfl]
 conv=>arg 3;whnf
 refine Zn (Z3 _ _) ?_;conv=>arg 3;whnf
 refine Zc _ (ZfI _) fun r3 hr3=>?_
 clear hr3
 rcases r3 with r3 | r3
 ·conv=>arg 3;whnf
  exact Zh rfl
 ·conv=>arg 3;whnf
  exact Zh rfl
def Zde (r:Bool):D:=(D.bool r)
theorem ZfK {t0:Bool}{a:(List Zaa)}:∀r,(ZbE a (fun z0=>Zgk z0))=some r→evD ctx 69 [(.d (D.list t0 (List.map Zau a))),(.d (D.fn 70 []))]=some (Zde r):=by
 show ZS _ (fun r rhs=>rhs=some (Zde r)) _
 unfold ZbE
 rw[ZbV ctx 69 ZCC _ rfl rfl]
 conv=>arg 3;whnf
 refine Zp _ Zf7 rfl fun x0 hx0=>?_;conv=>arg 3;whnf
 refine Zg rfl ?_ ?_<;>conv=>arg 3;whnf
 ·exact Zh rfl
 ·exact Zh rfl
def Zok (r:Bool):D:=(D.bool r)
theorem ZmW {t0:Bool}{t1:Bool}{t2:Bool}{t3:Bool}{a:Zm}{b:Int}{c:Int}:∀r,(Ziv a b c)=some r→evD ctx 71 [(.d (D.agg (dA t0 t1 t2 t3 a))),(.d (Ze b)),(.d (Ze c))]=some (Zok r):=by
 show ZS _ (fun r rhs=>rhs=some (Zok r)) _
 unfold Ziv
 rw[ZbV ctx 71 ZCj _ rfl rfl]
 conv=>arg 3;whnf
 refine Zg rfl ?_ ?_<;>conv=>arg 3;whnf
 ·refine Zn (Z3 _ _) ?_;conv=>arg 3;whnf
  refine Zp _ ZcV rfl fun x0 hx0=>?_;conv=>arg 3;whnf
  refine Zg rfl ?_ ?_<;>conv=>arg 3;whnf
  ·refine Zn (Z3 _ _) ?_;conv=>arg 3;whnf
   refine Zp _ ZcV rfl fun x1 hx1=>?_;conv=>arg 3;whnf
   refine Zg rfl ?_ ?_<;>conv=>arg 3;whnf
   ·exact Zh rfl
   ·exact Zh rfl
  ·exact Zh rfl
 ·exact Zh rfl
def Zgw (r:Int):D:=(Ze r)
def ZfY (t0:Bool) (a:(List Zr)) (b:Zr):(Int⊕Unit)→Ex×List V×Zq
  | (.inl r)=>(.ret,[(.d (Ze r))],[])
  | (.inr r)=>(.exit 0,[.bad],[])
theorem Zh7 {t0:Bool}{a:(List Zr)}{b:Zr}:∀(s0:Int) (r:(Int⊕Unit)),lp (Zcc a b) s0=some r→lpW ctx 0 [0,3,7,8] [4] Zv1 [(.d (D.list t0 (List.map ZI a))),(.ptr 0 0),(.d (Ze (a.length:Int))),(.d (Ze s0))] [(.cells [(.d (Ze b.src)),(.d (Ze b.dst))])]=some ((ZfY t0 a b) r):=by
 refine ZaX (ZfY t0 a b) ?_
 intro s0 rcl ih
 show ZS _ _ (lpW _ _ _ _ _ _ _)
 unfold Zcc
 rw[ZaY]
 conv=>arg 3;whnf
 refine Zg rfl ?_ ?_<;>conv=>arg 3;whnf
 ·refine Zi rfl rfl fun x1 hx1=>?_;conv=>arg 3;whnf
  refine Zg rfl ?_ ?_<;>conv=>arg 3;whnf
  ·exact Zh rfl
  ·exact Zd (ih _)
 ·exact Zh rfl
theorem ZiX {t0:Bool}{a:(List Zr)}{b:Zr}:∀r,(ZdC a b)=some r→evD ctx 102 [(.d (D.list t0 (List.map ZI a))),(.d (D.agg [(Ze b.src),(Ze b.dst)]))]=some (Zgw r):=by
 show ZS _ (fun r rhs=>rhs=some (Zgw r)) _
 unfold ZdC
 rw[ZbV ctx 102 Zyh _ rfl rfl]
 conv=>arg 3;whnf
 refine Zn (Z3 _ _) ?_;conv=>arg 3;whnf
 refine Zc _ (Zh7 _) fun r2 hr2=>?_
 clear hr2
 rcases r2 with r2 | r2
 ·conv=>arg 3;whnf
  exact Zh rfl
 ·conv=>arg 3;whnf
  exact Zh rfl
def Zf0 (r:Bool):D:=(D.bool r)
theorem ZfG {t0:Bool}{a:(List Zr)}{b:Zr}:∀r,(ZbC a b)=some r→evD ctx 72 [(.d (D.list t0 (List.map ZI a))),(.d (D.agg [(Ze b.src),(Ze b.dst)]))]=some (Zf0 r):=by
 show ZS _ (fun r rhs=>rhs=some (Zf0 r)) _
 unfold ZbC
 rw[ZbV ctx 72 ZBB _ rfl rfl]
 conv=>arg 3;whnf
 refine Zp _ ZiX rfl fun x0 hx0=>?_;conv=>arg 3;whnf
 refine Zg rfl ?_ ?_<;>conv=>arg 3;whnf
 ·exact Zh rfl
 ·exact Zh rfl
def ZkU (r:Bool):D:=(D.bool r)
theorem Zn4 {a:Zk}{b0:Int}{b1:Int}{b2:Int}:∀r,(Zek a b1 b2)=some r→evD ctx 73 [(.d (D.agg [(Ze a.maker),(Ze a.user),(Ze a.pos)])),(.d (D.rptr [(Ze b0),(Ze b1),(Ze b2)]))]=some (ZkU r):=by
 show ZS _ (fun r rhs=>rhs=some (ZkU r)) _
 unfold Zek
 rw[ZbV ctx 73 ZBT _ rfl rfl]
 conv=>arg 3;whnf
 refine Zg rfl ?_ ?_<;>conv=>arg 3;whnf
 ·refine Zg rfl ?_ ?_<;>conv=>arg 3;whnf
  ·exact Zh rfl
  ·exact Zh rfl
 ·exact Zh rfl
def ZcM (r:Int):D:=(Ze r)
def Zcu (t0:Bool) (a:(List Zk)) (b0:Int) (b1:Int) (b2:Int):(Int⊕Unit)→Ex×List V×Zq
  | (.inl r)=>(.ret,[(.d (Ze r))],[])
  | (.inr r)=>(.exit 0,[.bad],[])
theorem Zey {t0:Bool}{a:(List Zk)}{b0:Int}{b1:Int}{b2:Int}:∀(s0:Int) (r:(Int⊕Unit)),lp (Zbm a (fun z0=>Zek z0 b1 b2)) s0=some r→lpW ctx 0 [0,1,7,8] [4] ZvX [(.d (D.list t0 (List.map Zt a))),(.d (D.fn 73 [(D.rptr [(Ze b0),(Ze b1),(Ze b2)])])),(.d (Ze (a.length:Int))),(.d (Ze s0))] []=some ((Zcu t0 a b0 b1 b2) r):=by
 refine ZaX (Zcu t0 a b0 b1 b2) ?_
 intro s0 rcl ih
 show ZS _ _ (lpW _ _ _ _ _ _ _)
 unfold Zbm
 rw[ZaY]
 conv=>arg 3;whnf
 refine Zg rfl ?_ ?_<;>conv=>arg 3;whnf
 ·refine Zi rfl rfl fun x1 hx1=>?_;conv=>arg 3;whnf
  refine Zp _ Zn4 rfl fun x2 hx2=>?_;conv=>arg 3;whnf
  refine Zg rfl ?_ ?_<;>conv=>arg 3;whnf
  ·exact Zh rfl
  ·exact Zd (ih _)
 ·exact Zh rfl
theorem ZeU {t0:Bool}{a:(List Zk)}{b0:Int}{b1:Int}{b2:Int}:∀r,(Zcg a (fun z0=>Zek z0 b1 b2))=some r→evD ctx 103 [(.d (D.list t0 (List.map Zt a))),(.d (D.fn 73 [(D.rptr [(Ze b0),(Ze b1),(Ze b2)])]))]=some (ZcM r):=by
 show ZS _ (fun r rhs=>rhs=some (ZcM r)) _
 unfold Zcg
 rw[ZbV ctx 103 Zyt _ rfl rfl]
 conv=>arg 3;whnf
 refine Zn (Z3 _ _) ?_;conv=>arg 3;whnf
 refine Zc _ (Zey _) fun r3 hr3=>?_
 clear hr3
 rcases r3 with r3 | r3
 ·conv=>arg 3;whnf
  exact Zh rfl
 ·conv=>arg 3;whnf
  exact Zh rfl
def Zcs (r:Bool):D:=(D.bool r)
theorem Zew {t0:Bool}{a:(List Zk)}{b0:Int}{b1:Int}{b2:Int}:∀r,(Zbn a (fun z0=>Zek z0 b1 b2))=some r→evD ctx 74 [(.d (D.list t0 (List.map Zt a))),(.d (D.fn 73 [(D.rptr [(Ze b0),(Ze b1),(Ze b2)])]))]=some (Zcs r):=by
 show ZS _ (fun r rhs=>rhs=some (Zcs r)) _
 unfold Zbn
 rw[ZbV ctx 74 ZCm _ rfl rfl]
 conv=>arg 3;whnf
 refine Zp _ ZeU rfl fun x0 hx0=>?_;conv=>arg 3;whnf
 refine Zg rfl ?_ ?_<;>conv=>arg 3;whnf
 ·exact Zh rfl
 ·exact Zh rfl
def Zn1 (r:Bool):D:=(D.bool r)
def Zly (t0:Bool) (t1:Bool) (t2:Bool) (t3:Bool) (t4:Bool) (a:Zm) (b:(List Int)):(Unit⊕Unit)→Ex×List V×Zq
  | (.inl r)=>(.ret,[(.d (D.list t4 (List.map Ze b))),(.d (D.bool false))],[])
  | (.inr r)=>(.exit 0,[(.d (D.list t4 (List.map Ze b))),.bad],[])
theorem Zo2 {t0:Bool}{t1:Bool}{t2:Bool}{t3:Bool}{t4:Bool}{a:Zm}{b:(List Int)}:∀(s0:Int) (r:(Unit⊕Unit)),lp (ZgD a b) s0=some r→lpW ctx 0 [1,2,7,8,9] [1,4] ZyI [(.d (D.list t4 (List.map Ze b))),(.ptr 0 0),(.d (D.list t4 (List.map Ze b))),(.d (Ze (b.length:Int))),(.d (Ze s0))] [(.cells (dV t0 t1 t2 t3 a))]=some ((Zly t0 t1 t2 t3 t4 a b) r):=by
 refine ZaX (Zly t0 t1 t2 t3 t4 a b) ?_
 intro s0 rcl ih
 show ZS _ _ (lpW _ _ _ _ _ _ _)
 unfold ZgD
 rw[ZaY]
 conv=>arg 3;whnf
 refine Zg rfl ?_ ?_<;>conv=>arg 3;whnf
 ·refine Zi rfl rfl fun x1 hx1=>?_;conv=>arg 3;whnf
  refine Zn (Z3 _ _) ?_;conv=>arg 3;whnf
  refine Zp _ ZcV rfl fun x2 hx2=>?_;conv=>arg 3;whnf
  refine Zg rfl ?_ ?_<;>conv=>arg 3;whnf
  ·refine Zg rfl ?_ ?_<;>conv=>arg 3;whnf
   ·refine Zi rfl rfl fun x3 hx3=>?_;conv=>arg 3;whnf
    refine Zg rfl ?_ ?_<;>conv=>arg 3;whnf
    ·exact Zh rfl
    ·exact Zd (ih _)
   ·exact Zd (ih _)
  ·exact Zh rfl
 ·exact Zh rfl
theorem Zm3 {t0:Bool}{t1:Bool}{t2:Bool}{t3:Bool}{t4:Bool}{a:Zm}{b:(List Int)}:∀r,(Ziw a b)=some r→evD ctx 76 [(.d (D.agg (dA t0 t1 t2 t3 a))),(.d (D.list t4 (List.map Ze b)))]=some (Zn1 r):=by
 show ZS _ (fun r rhs=>rhs=some (Zn1 r)) _
 unfold Ziw
 rw[ZbV ctx 76 ZB5 _ rfl rfl]
 conv=>arg 3;whnf
 refine Zn (Z3 _ _) ?_;conv=>arg 3;whnf
 refine Zc _ (Zo2 _) fun r4 hr4=>?_
 clear hr4
 rcases r4 with r4 | r4
 ·conv=>arg 3;whnf
  exact Zh rfl
 ·conv=>arg 3;whnf
  refine Zn (Z3 _ _) ?_;conv=>arg 3;whnf
  refine Zg rfl ?_ ?_<;>conv=>arg 3;whnf
  ·exact Zh rfl
  ·exact Zh rfl
def Zg9 (r:Int):D:=(Ze r)
def Zgl (t0:Bool) (a:(List Int)) (b:Int):(Int⊕Unit)→Ex×List V×Zq
  | (.inl r)=>(.ret,[(.d (Ze r))],[])
  | (.inr r)=>(.exit 0,[.bad],[])
theorem Zit {t0:Bool}{a:(List Int)}{b:Int}:∀(s0:Int) (r:(Int⊕Unit)),lp (Zcv a b) s0=some r→lpW ctx 0 [0,1,7,8] [4] Zyd [(.d (D.list t0 (List.map Ze a))),(.d (Ze b)),(.d (Ze (a.length:Int))),(.d (Ze s0))] []=some ((Zgl t0 a b) r):=by
 refine ZaX (Zgl t0 a b) ?_
 intro s0 rcl ih
 show ZS _ _ (lpW _ _ _ _ _ _ _)
 unfold Zcv
 rw[ZaY]
 conv=>arg 3;whnf
 refine Zg rfl ?_ ?_<;>conv=>arg 3;whnf
 ·refine Zi rfl rfl fun x1 hx1=>?_;conv=>arg 3;whnf
  refine Zg rfl ?_ ?_<;>conv=>arg 3;whnf
  ·exact Zh rfl
  ·exact Zd (ih _)
 ·exact Zh rfl
theorem Zjt {t0:Bool}{a:(List Int)}{b:Int}:∀r,(Zeb a b)=some r→evD ctx 83 [(.d (D.list t0 (List.map Ze a))),(.d (Ze b))]=some (Zg9 r):=by
 show ZS _ (fun r rhs=>rhs=some (Zg9 r)) _
 unfold Zeb
 rw[ZbV ctx 83 ZBU _ rfl rfl]
 conv=>arg 3;whnf
 refine Zn (Z3 _ _) ?_;conv=>arg 3;whnf
 refine Zc _ (Zit _) fun r2 hr2=>?_
 clear hr2
 rcases r2 with r2 | r2
 ·conv=>arg 3;whnf
  exact Zh rfl
 ·conv=>arg 3;whnf
  exact Zh rfl
def Zgi (r:Bool):D:=(D.bool r)
theorem Zf9 {t0:Bool}{a:(List Int)}{b:Int}:∀r,(ZbU a b)=some r→evD ctx 47 [(.d (D.list t0 (List.map Ze a))),(.d (Ze b))]=some (Zgi r):=by
 show ZS _ (fun r rhs=>rhs=some (Zgi r)) _
 unfold ZbU
 rw[ZbV ctx 47 ZBI _ rfl rfl]
 conv=>arg 3;whnf
 refine Zp _ Zjt rfl fun x0 hx0=>?_;conv=>arg 3;whnf
 refine Zg rfl ?_ ?_<;>conv=>arg 3;whnf
 ·exact Zh rfl
 ·exact Zh rfl
def Zk4 (r:Bool):D:=(D.bool r)
theorem Zn0 {t0:Bool}{t1:Bool}{a:Int}{b0:(List Int)}{b1:(List Int)}:∀r,(Zem a b1)=some r→evD ctx 75 [(.d (Ze a)),(.d (D.rptr [(D.list t0 (List.map Ze b0)),(D.list t1 (List.map Ze b1))]))]=some (Zk4 r):=by
 show ZS _ (fun r rhs=>rhs=some (Zk4 r)) _
 unfold Zem
 rw[ZbV ctx 75 ZB6 _ rfl rfl]
 conv=>arg 3;whnf
 refine Zp _ Zf9 rfl fun x0 hx0=>?_;conv=>arg 3;whnf
 refine Zg rfl ?_ ?_<;>conv=>arg 3;whnf
 ·exact Zh rfl
 ·exact Zh rfl
def Zds (r:Int):D:=(Ze r)
def Zc4 (t0:Bool) (t1:Bool) (t2:Bool) (a:(List Int)) (b0:(List Int)) (b1:(List Int)):(Int⊕Unit)→Ex×List V×Zq
  | (.inl r)=>(.ret,[(.d (Ze r))],[])
  | (.inr r)=>(.exit 0,[.bad],[])
theorem Zfs {t0:Bool}{t1:Bool}{t2:Bool}{a:(List Int)}{b0:(List Int)}{b1:(List Int)}:∀(s0:Int) (r:(Int⊕Unit)),lp (Za7 a (fun z0=>Zem z0 b1)) s0=some r→lpW ctx 0 [0,1,7,8] [4] Ztg [(.d (D.list t0 (List.map Ze a))),(.d (D.fn 75 [(D.rptr [(D.list t1 (List.map Ze b0)),(D.list t2 (List.map Ze b1))])])),(.d (Ze (a.length:Int))),(.d (Ze s0))] []=some ((Zc4 t0 t1 t2 a b0 b1) r):=by
 refine ZaX (Zc4 t0 t1 t2 a b0 b1) ?_
 intro s0 rcl ih
 show ZS _ _ (lpW _ _ _ _ _ _ _)
 unfold Za7
 rw[ZaY]
 conv=>arg 3;whnf
 refine Zg rfl ?_ ?_<;>conv=>arg 3;whnf
 ·refine Zi rfl rfl fun x1 hx1=>?_;conv=>arg 3;whnf
  refine Zp _ Zn0 rfl fun x2 hx2=>?_;conv=>arg 3;whnf
  refine Zg rfl ?_ ?_<;>conv=>arg 3;whnf
  ·exact Zh rfl
  ·exact Zd (ih _)
 ·exact Zh rfl
theorem Zf1 {t0:Bool}{t1:Bool}{t2:Bool}{a:(List Int)}{b0:(List Int)}{b1:(List Int)}:∀r,(ZbF a (fun z0=>Zem z0 b1))=some r→evD ctx 104 [(.d (D.list t0 (List.map Ze a))),(.d (D.fn 75 [(D.rptr [(D.list t1 (List.map Ze b0)),(D.list t2 (List.map Ze b1))])]))]=some (Zds r):=by
 show ZS _ (fun r rhs=>rhs=some (Zds r)) _
 unfold ZbF
 rw[ZbV ctx 104 ZvN _ rfl rfl]
 conv=>arg 3;whnf
 refine Zn (Z3 _ _) ?_;conv=>arg 3;whnf
 refine Zc _ (Zfs _) fun r3 hr3=>?_
 clear hr3
 rcases r3 with r3 | r3
 ·conv=>arg 3;whnf
  exact Zh rfl
 ·conv=>arg 3;whnf
  exact Zh rfl
def Zc5 (r:Bool):D:=(D.bool r)
theorem Zfu {t0:Bool}{t1:Bool}{t2:Bool}{a:(List Int)}{b0:(List Int)}{b1:(List Int)}:∀r,(ZaJ a (fun z0=>Zem z0 b1))=some r→evD ctx 77 [(.d (D.list t0 (List.map Ze a))),(.d (D.fn 75 [(D.rptr [(D.list t1 (List.map Ze b0)),(D.list t2 (List.map Ze b1))])]))]=some (Zc5 r):=by
 show ZS _ (fun r rhs=>rhs=some (Zc5 r)) _
 unfold ZaJ
 rw[ZbV ctx 77 Zz2 _ rfl rfl]
 conv=>arg 3;whnf
 refine Zp _ Zf1 rfl fun x0 hx0=>?_;conv=>arg 3;whnf
 refine Zg rfl ?_ ?_<;>conv=>arg 3;whnf
 ·exact Zh rfl
 ·exact Zh rfl
def Zmk (r:Int):D:=(Ze r)
def Zj6 (t0:Bool) (t1:Bool) (t2:Bool) (t3:Bool) (a:Zm):(Unit⊕Unit)→Ex×List V×Zq
  | (.inl r)=>(.ret,[(.ptr 0 0),(.d (Ze 53))],[(.cells (dV t0 t1 t2 t3 a))])
  | (.inr r)=>(.exit 0,[(.ptr 0 0),.bad],[(.cells (dV t0 t1 t2 t3 a))])
theorem Znc {t0:Bool}{t1:Bool}{t2:Bool}{t3:Bool}{a:Zm}:∀(s4:Int) (r:(Unit⊕Unit)),lp (Zex a) s4=some r→lpW ctx 0 [1,61,62,63] [1,2] Zyw [(.ptr 0 0),(.d (D.list t1 (List.map ZI a.edges))),(.d (Ze (a.edges.length:Int))),(.d (Ze s4))] [(.cells (dV t0 t1 t2 t3 a))]=some ((Zj6 t0 t1 t2 t3 a) r):=by
 refine ZaX (Zj6 t0 t1 t2 t3 a) ?_
 intro s4 rcl ih
 show ZS _ _ (lpW _ _ _ _ _ _ _)
 unfold Zex
 rw[ZaY]
 conv=>arg 3;whnf
 refine Zg rfl ?_ ?_<;>conv=>arg 3;whnf
 ·refine Zi rfl rfl fun x5 hx5=>?_;conv=>arg 3;whnf
  refine Zp _ ZmW rfl fun x6 hx6=>?_;conv=>arg 3;whnf
  refine Zg rfl ?_ ?_<;>conv=>arg 3;whnf
  ·refine Zg rfl ?_ ?_
   ·conv=>arg 3;whnf
    refine Zg (Zyq ZI a.edges s4.toNat) ?_ ?_
    ·conv=>arg 3;whnf
     refine Zbr rfl ?_;conv=>arg 3;whnf
     refine Zn (Ztd ZI a.edges s4.toNat) ?_;conv=>arg 3;whnf
     refine Zp _ ZfG rfl fun x7 hx7=>?_;conv=>arg 3;whnf
     refine Zg rfl ?_ ?_<;>conv=>arg 3;whnf
     ·exact Zh rfl
     ·exact Zd (ih _)
    ·exact ZaN
   ·exact ZaN
  ·exact Zh rfl
 ·exact Zh rfl
def Zj9 (t0:Bool) (t1:Bool) (t2:Bool) (t3:Bool) (a:Zm):(Unit⊕Unit)→Ex×List V×Zq
  | (.inl r)=>(.ret,[(.ptr 0 0),(.d (Ze 54))],[(.cells (dV t0 t1 t2 t3 a))])
  | (.inr r)=>(.exit 2,[(.ptr 0 0),.bad],[(.cells (dV t0 t1 t2 t3 a))])
theorem Znu {t0:Bool}{t1:Bool}{t2:Bool}{t3:Bool}{a:Zm}:∀(s9:Int) (r:(Unit⊕Unit)),lp (ZeB a) s9=some r→lpW ctx 0 [1,85,86,87] [1,2] ZxB [(.ptr 0 0),(.d (D.list t2 (List.map Zt a.futures))),(.d (Ze (a.futures.length:Int))),(.d (Ze s9))] [(.cells (dV t0 t1 t2 t3 a))]=some ((Zj9 t0 t1 t2 t3 a) r):=by
 refine ZaX (Zj9 t0 t1 t2 t3 a) ?_
 intro s9 rcl ih
 show ZS _ _ (lpW _ _ _ _ _ _ _)
 unfold ZeB
 rw[ZaY]
 conv=>arg 3;whnf
 refine Zg rfl ?_ ?_<;>conv=>arg 3;whnf
 ·refine Zi rfl rfl fun x10 hx10=>?_;conv=>arg 3;whnf
  refine Zp _ ZmW rfl fun x11 hx11=>?_;conv=>arg 3;whnf
  refine Zg rfl ?_ ?_<;>conv=>arg 3;whnf
  ·refine Zi rfl rfl fun x12 hx12=>?_;conv=>arg 3;whnf
   refine Zp _ ZcV rfl fun x13 hx13=>?_;conv=>arg 3;whnf
   refine Zg rfl ?_ ?_<;>conv=>arg 3;whnf
   ·refine Zg rfl ?_ ?_
    ·conv=>arg 3;whnf
     refine Zg (Zyq Zt a.futures s9.toNat) ?_ ?_
     ·conv=>arg 3;whnf
      refine Zbr rfl ?_;conv=>arg 3;whnf
      refine Zn (Ztd Zt a.futures s9.toNat) ?_;conv=>arg 3;whnf
      refine Zp _ Zew rfl fun x14 hx14=>?_;conv=>arg 3;whnf
      refine Zg rfl ?_ ?_<;>conv=>arg 3;whnf
      ·exact Zh rfl
      ·exact Zd (ih _)
     ·exact ZaN
    ·exact ZaN
   ·exact Zh rfl
  ·exact Zh rfl
 ·exact Zh rfl
def Zj7 (t0:Bool) (t1:Bool) (t2:Bool) (t3:Bool) (a:Zm):(Unit⊕Unit)→Ex×List V×Zq
  | (.inl r)=>(.ret,[(.d (Ze 55))],[])
  | (.inr r)=>(.exit 4,[.bad],[])
theorem Znr {t0:Bool}{t1:Bool}{t2:Bool}{t3:Bool}{a:Zm}:∀(s16:Int) (r:(Unit⊕Unit)),lp (Zez a) s16=some r→lpW ctx 0 [1,124,125,126] [2] Zzc [(.ptr 0 0),(.d (D.list t3 (List.map ZB a.barriers))),(.d (Ze (a.barriers.length:Int))),(.d (Ze s16))] [(.cells (dV t0 t1 t2 t3 a))]=some ((Zj7 t0 t1 t2 t3 a) r):=by
 refine ZaX (Zj7 t0 t1 t2 t3 a) ?_
 intro s16 rcl ih
 show ZS _ _ (lpW _ _ _ _ _ _ _)
 unfold Zez
 rw[ZaY]
 conv=>arg 3;whnf
 refine Zg rfl ?_ ?_<;>conv=>arg 3;whnf
 ·refine Zi rfl rfl fun x17 hx17=>?_;conv=>arg 3;whnf
  refine Zp _ Zm3 rfl fun x18 hx18=>?_;conv=>arg 3;whnf
  refine Zg rfl ?_ ?_<;>conv=>arg 3;whnf
  ·refine Zp _ Zm3 rfl fun x19 hx19=>?_;conv=>arg 3;whnf
   refine Zg rfl ?_ ?_<;>conv=>arg 3;whnf
   ·refine Zp _ Zfu rfl fun x20 hx20=>?_;conv=>arg 3;whnf
    refine Zg rfl ?_ ?_<;>conv=>arg 3;whnf
    ·exact Zh rfl
    ·exact Zd (ih _)
   ·exact Zh rfl
  ·exact Zh rfl
 ·exact Zh rfl
theorem Zi4 {t0:Bool}{t1:Bool}{t2:Bool}{t3:Bool}{a:Zm}:∀r,(Zgp a)=some r→evD ctx 41 [(.d (D.agg (dA t0 t1 t2 t3 a)))]=some (Zmk r):=by
 show ZS _ (fun r rhs=>rhs=some (Zmk r)) _
 unfold Zgp
 rw[ZbV ctx 41 ZCf _ rfl rfl]
 conv=>arg 3;whnf
 refine Zn (Z3 _ _) ?_;conv=>arg 3;whnf
 refine Zp _ ZcV rfl fun x0 hx0=>?_;conv=>arg 3;whnf
 refine Zg rfl ?_ ?_<;>conv=>arg 3;whnf
 ·refine Zn (Z3 _ _) ?_;conv=>arg 3;whnf
  refine Zg rfl ?_ ?_<;>conv=>arg 3;whnf
  ·exact Zh rfl
  ·refine Zn (Z3 _ _) ?_;conv=>arg 3;whnf
   refine Zg rfl ?_ ?_<;>conv=>arg 3;whnf
   ·exact Zh rfl
   ·refine Zn (Z3 _ _) ?_;conv=>arg 3;whnf
    refine Zg rfl ?_ ?_<;>conv=>arg 3;whnf
    ·exact Zh rfl
    ·refine Zp _ ZsR rfl fun x1 hx1=>?_;conv=>arg 3;whnf
     refine Zg rfl ?_ ?_<;>conv=>arg 3;whnf
     ·refine Zg rfl ?_ ?_<;>conv=>arg 3;whnf
      ·exact Zh rfl
      ·refine Zp _ ZcV rfl fun x2 hx2=>?_;conv=>arg 3;whnf
       refine Zg rfl ?_ ?_<;>conv=>arg 3;whnf
       ·refine Zp _ ZfK rfl fun x3 hx3=>?_;conv=>arg 3;whnf
        refine Zg rfl ?_ ?_<;>conv=>arg 3;whnf
        ·exact Zh rfl
        ·refine Zn (Z3 _ _) ?_;conv=>arg 3;whnf
         refine Zc _ (Znc _) fun r8 hr8=>?_
         clear hr8
         rcases r8 with r8 | r8
         ·conv=>arg 3;whnf
          exact Zh rfl
         ·conv=>arg 3;whnf
          refine Zn (Z3 _ _) ?_;conv=>arg 3;whnf
          refine Zc _ (Znu _) fun r15 hr15=>?_
          clear hr15
          rcases r15 with r15 | r15
          ·conv=>arg 3;whnf
           exact Zh rfl
          ·conv=>arg 3;whnf
           refine Zn (Z3 _ _) ?_;conv=>arg 3;whnf
           refine Zc _ (Znr _) fun r21 hr21=>?_
           clear hr21
           rcases r21 with r21 | r21
           ·conv=>arg 3;whnf
            exact Zh rfl
           ·conv=>arg 3;whnf
            exact Zh rfl
       ·exact Zh rfl
     ·exact Zh rfl
 ·exact Zh rfl
def ZjI (r:Int):D:=(Ze r)
theorem ZO {t0:Bool}{t1:Bool}{t2:Bool}{t3:Bool}{a:Int}{b:Int}{c0:Int}{c1:Int}{c2:(List Zaa)}{c3:(List Zr)}{c4:(List Zk)}{c5:(List Zv)}:∀r,(Zx a b c4)=some r→evD ctx 106 [(.d (Ze a)),(.d (Ze b)),(.d (D.rptr [(Ze c0),(Ze c1),(D.list t0 (List.map Zau c2)),(D.list t1 (List.map ZI c3)),(D.list t2 (List.map Zt c4)),(D.list t3 (List.map ZB c5))]))]=some (ZjI r):=by
 show ZS _ (fun r rhs=>rhs=some (ZjI r)) _
 unfold Zx
 rw[ZbV ctx 106 Zx3 _ rfl rfl]
 conv=>arg 3;whnf
 refine Zi rfl rfl fun x0 hx0=>?_;conv=>arg 3;whnf
 refine Zi rfl rfl fun x1 hx1=>?_;conv=>arg 3;whnf
 exact Zh rfl
def Zje (r:Int):D:=(Ze r)
theorem ZlU {a:Int}:∀r,(Zij a)=some r→evD ctx 129 [(.d (D.int .u64 a))]=some (Zje r):=by
 show ZS _ (fun r rhs=>rhs=some (Zje r)) _
 unfold Zij
 rw[ZbV ctx 129 Zzg _ rfl rfl]
 conv=>arg 3;whnf
 refine Zg rfl ?_ ?_<;>conv=>arg 3;whnf
 ·refine ZR rfl ?_;conv=>arg 3;whnf
  refine Zg rfl ?_ ?_<;>conv=>arg 3;whnf
  ·refine ZR rfl ?_;conv=>arg 3;whnf
   refine Zg rfl ?_ ?_<;>conv=>arg 3;whnf
   ·refine ZR rfl ?_;conv=>arg 3;whnf
    refine Zg rfl ?_ ?_
    ·conv=>arg 3;whnf
     refine ZiI rfl fun x0 hx0=>?_;conv=>arg 3;whnf
     exact Zh rfl
    ·exact ZaN
   ·refine Zg rfl ?_ ?_
    ·conv=>arg 3;whnf
     refine ZiI rfl fun x1 hx1=>?_;conv=>arg 3;whnf
     exact Zh rfl
    ·exact ZaN
  ·refine Zg rfl ?_ ?_<;>conv=>arg 3;whnf
   ·refine ZR rfl ?_;conv=>arg 3;whnf
    refine Zg rfl ?_ ?_
    ·conv=>arg 3;whnf
     refine ZiI rfl fun x2 hx2=>?_;conv=>arg 3;whnf
     exact Zh rfl
    ·exact ZaN
   ·refine Zg rfl ?_ ?_
    ·conv=>arg 3;whnf
     refine ZiI rfl fun x3 hx3=>?_;conv=>arg 3;whnf
     exact Zh rfl
    ·exact ZaN
 ·refine Zg rfl ?_ ?_<;>conv=>arg 3;whnf
  ·refine ZR rfl ?_;conv=>arg 3;whnf
   refine Zg rfl ?_ ?_<;>conv=>arg 3;whnf
   ·refine ZR rfl ?_;conv=>arg 3;whnf
    refine Zg rfl ?_ ?_
    ·conv=>arg 3;whnf
     refine ZiI rfl fun x4 hx4=>?_;conv=>arg 3;whnf
     exact Zh rfl
    ·exact ZaN
   ·refine Zg rfl ?_ ?_
    ·conv=>arg 3;whnf
     refine ZiI rfl fun x5 hx5=>?_;conv=>arg 3;whnf
     exact Zh rfl
    ·exact ZaN
  ·refine Zg rfl ?_ ?_<;>conv=>arg 3;whnf
   ·refine ZR rfl ?_;conv=>arg 3;whnf
    refine Zg rfl ?_ ?_
    ·conv=>arg 3;whnf
     refine ZiI rfl fun x6 hx6=>?_;conv=>arg 3;whnf
     exact Zh rfl
    ·exact ZaN
   ·refine Zg rfl ?_ ?_
    ·conv=>arg 3;whnf
     refine ZiI rfl fun x7 hx7=>?_;conv=>arg 3;whnf
     exact Zh rfl
    ·exact ZaN
def Zj0 (r:Int):D:=(Ze r)
theorem ZhS {a:Int}:∀r,(ZeD a)=some r→evD ctx 118 [(.d (D.int .u64 a))]=some (Zj0 r):=by
 show ZS _ (fun r rhs=>rhs=some (Zj0 r)) _
 unfold ZeD
 rw[ZbV ctx 118 ZyY _ rfl rfl]
 conv=>arg 3;whnf
 refine Zp _ ZlU rfl fun x0 hx0=>?_;conv=>arg 3;whnf
 exact Zh rfl
def ZcE (t0:Bool) (t1:Bool) (t2:Bool) (t3:Bool) (b:Int) (c:Int) (m0_0:(List Int)) (m1_0:Int) (m1_1:Int) (m1_2:(List Zaa)) (m1_3:(List Zr)) (m1_4:(List Zk)) (m1_5:(List Zv)):(List Int)→V×Zq
  | r=>((.d (D.tup [])),[(.arr 1 (List.map Ze r)),(.cells [(.d (Ze m1_0)),(.d (Ze m1_1)),(.d (D.list t0 (List.map Zau m1_2))),(.d (D.list t1 (List.map ZI m1_3))),(.d (D.list t2 (List.map Zt m1_4))),(.d (D.list t3 (List.map ZB m1_5)))])])
def Zck (t0:Bool) (t1:Bool) (t2:Bool) (t3:Bool) (b:Int) (c:Int) (m1_0:Int) (m1_1:Int) (m1_2:(List Zaa)) (m1_3:(List Zr)) (m1_4:(List Zk)) (m1_5:(List Zv)) (s0:Int×(List Int)):(List Int)→Ex×List V×Zq
  | r=>(.exit 2,[(.sl 0 1),(.d (Ze b)),(.d (Ze c)),(.fn 106 [(.ptr 1 0)]),(.d (Ze s0.1))],[(.arr 1 (List.map Ze r)),(.cells [(.d (Ze m1_0)),(.d (Ze m1_1)),(.d (D.list t0 (List.map Zau m1_2))),(.d (D.list t1 (List.map ZI m1_3))),(.d (D.list t2 (List.map Zt m1_4))),(.d (D.list t3 (List.map ZB m1_5)))])])
theorem Zen {t0:Bool}{t1:Bool}{t2:Bool}{t3:Bool}{b:Int}{c:Int}{m1_0:Int}{m1_1:Int}{m1_2:(List Zaa)}{m1_3:(List Zr)}{m1_4:(List Zk)}{m1_5:(List Zv)}{s0:Int×(List Int)}:∀(s1:Int×(List Int)) (r:(List Int)),lp (Z5 b (fun z0 z1=>Zx z0 z1 m1_4)) s1=some r→lpW ctx 2 [0,1,2,3,8,9] [0,1,2,3,8] Zwb [(.sl 0 1),(.d (Ze b)),(.d (Ze c)),(.fn 106 [(.ptr 1 0)]),(.d (Ze s0.1)),(.d (Ze s1.1))] [(.arr 1 (List.map Ze s1.2)),(.cells [(.d (Ze m1_0)),(.d (Ze m1_1)),(.d (D.list t0 (List.map Zau m1_2))),(.d (D.list t1 (List.map ZI m1_3))),(.d (D.list t2 (List.map Zt m1_4))),(.d (D.list t3 (List.map ZB m1_5)))])]=some ((Zck t0 t1 t2 t3 b c m1_0 m1_1 m1_2 m1_3 m1_4 m1_5 s0) r):=by
 refine ZaX (Zck t0 t1 t2 t3 b c m1_0 m1_1 m1_2 m1_3 m1_4 m1_5 s0) ?_
 intro s1 rcl ih
 show ZS _ _ (lpW _ _ _ _ _ _ _)
 unfold Z5
 rw[ZaY]
 conv=>arg 3;whnf
 refine Zg rfl ?_ ?_<;>conv=>arg 3;whnf
 ·refine Zi rfl rfl fun x2 hx2=>?_;conv=>arg 3;whnf
  refine Zf (Zl rfl hx2) ?_;conv=>arg 3;whnf
  refine Zi rfl rfl fun x3 hx3=>?_;conv=>arg 3;whnf
  refine Zf (Zl rfl hx3) ?_;conv=>arg 3;whnf
  refine Zp _ ZO rfl fun x4 hx4=>?_;conv=>arg 3;whnf
  refine Zg rfl ?_ ?_<;>conv=>arg 3;whnf
  ·refine Zf (ZaG rfl hx3) ?_;conv=>arg 3;whnf
   refine Zf (Zl rfl hx3) ?_;conv=>arg 3;whnf
   refine Zf (ZaG rfl hx2) ?_;conv=>arg 3;whnf
   refine Zf (Zl rfl hx2) ?_;conv=>arg 3;whnf
   refine Zf (ZaG rfl hx2) ?_;conv=>arg 3;whnf
   refine Zf (Zl rfl hx2) ?_;conv=>arg 3;whnf
   refine Zn (Z1 Ze s1.2 s1.1.toNat x3) ?_;conv=>arg 3;whnf
   refine Zi rfl rfl fun x5 hx5=>?_;conv=>arg 3;whnf
   refine Zf (Zl rfl hx5) ?_;conv=>arg 3;whnf
   refine Zn (Z1 Ze (List.set s1.2 s1.1.toNat x3) (w64 (s1.1-1)).toNat x2) ?_;conv=>arg 3;whnf
   exact Zd (ih _)
  ·exact Zh rfl
 ·exact Zh rfl
def Zcm (t0:Bool) (t1:Bool) (t2:Bool) (t3:Bool) (b:Int) (c:Int) (m1_0:Int) (m1_1:Int) (m1_2:(List Zaa)) (m1_3:(List Zr)) (m1_4:(List Zk)) (m1_5:(List Zv)):(List Int)→Ex×List V×Zq
  | r=>(.exit 0,[],[(.arr 1 (List.map Ze r)),(.cells [(.d (Ze m1_0)),(.d (Ze m1_1)),(.d (D.list t0 (List.map Zau m1_2))),(.d (D.list t1 (List.map ZI m1_3))),(.d (D.list t2 (List.map Zt m1_4))),(.d (D.list t3 (List.map ZB m1_5)))])])
theorem Zeo {t0:Bool}{t1:Bool}{t2:Bool}{t3:Bool}{b:Int}{c:Int}{m1_0:Int}{m1_1:Int}{m1_2:(List Zaa)}{m1_3:(List Zr)}{m1_4:(List Zk)}{m1_5:(List Zv)}:∀(s0:Int×(List Int)) (r:(List Int)),lp (Zam b c (fun z0 z1=>Zx z0 z1 m1_4)) s0=some r→lpW ctx 2 [0,1,2,3,8] [] Zv6 [(.sl 0 1),(.d (Ze b)),(.d (Ze c)),(.fn 106 [(.ptr 1 0)]),(.d (Ze s0.1))] [(.arr 1 (List.map Ze s0.2)),(.cells [(.d (Ze m1_0)),(.d (Ze m1_1)),(.d (D.list t0 (List.map Zau m1_2))),(.d (D.list t1 (List.map ZI m1_3))),(.d (D.list t2 (List.map Zt m1_4))),(.d (D.list t3 (List.map ZB m1_5)))])]=some ((Zcm t0 t1 t2 t3 b c m1_0 m1_1 m1_2 m1_3 m1_4 m1_5) r):=by
 refine ZaX (Zcm t0 t1 t2 t3 b c m1_0 m1_1 m1_2 m1_3 m1_4 m1_5) ?_
 intro s0 rcl ih
 show ZS _ _ (lpW _ _ _ _ _ _ _)
 unfold Zam
 rw[ZaY]
 conv=>arg 3;whnf
 refine Zg rfl ?_ ?_<;>conv=>arg 3;whnf
 ·refine Zc _ (Zen _) fun r6 hr6=>?_;conv=>arg 3;whnf
  exact Zd (ih _)
 ·exact Zh rfl
theorem ZaQ {t0:Bool}{t1:Bool}{t2:Bool}{t3:Bool}{b:Int}{c:Int}{m0_0:(List Int)}{m1_0:Int}{m1_1:Int}{m1_2:(List Zaa)}{m1_3:(List Zr)}{m1_4:(List Zk)}{m1_5:(List Zv)}:∀r,(Z6 b c (fun z0 z1=>Zx z0 z1 m1_4) m0_0)=some r→evW ctx 120 [(.sl 0 1),(.d (Ze b)),(.d (Ze c)),(.fn 106 [(.ptr 1 0)])] [(.arr 1 (List.map Ze m0_0)),(.cells [(.d (Ze m1_0)),(.d (Ze m1_1)),(.d (D.list t0 (List.map Zau m1_2))),(.d (D.list t1 (List.map ZI m1_3))),(.d (D.list t2 (List.map Zt m1_4))),(.d (D.list t3 (List.map ZB m1_5)))])]=some ((ZcE t0 t1 t2 t3 b c m0_0 m1_0 m1_1 m1_2 m1_3 m1_4 m1_5) r):=by
 show ZS _ (fun r rhs=>rhs=some ((ZcE t0 t1 t2 t3 b c m0_0 m1_0 m1_1 m1_2 m1_3 m1_4 m1_5) r)) _
 unfold Z6
 rw[Zd4 ctx 120 ZyJ _ _ rfl rfl]
 conv=>arg 3;whnf
 refine Zc _ (Zeo _) fun r7 hr7=>?_;conv=>arg 3;whnf
 exact Zh rfl
def Zdj (t0:Bool) (t1:Bool) (t2:Bool) (t3:Bool) (b:Int) (c:Int) (d:Int) (m0_0:(List Int)) (m1_0:Int) (m1_1:Int) (m1_2:(List Zaa)) (m1_3:(List Zr)) (m1_4:(List Zk)) (m1_5:(List Zv)):(List Int)→V×Zq
  | r=>((.d (D.tup [])),[(.arr 1 (List.map Ze r)),(.cells [(.d (Ze m1_0)),(.d (Ze m1_1)),(.d (D.list t0 (List.map Zau m1_2))),(.d (D.list t1 (List.map ZI m1_3))),(.d (D.list t2 (List.map Zt m1_4))),(.d (D.list t3 (List.map ZB m1_5)))])])
def ZcT (t0:Bool) (t1:Bool) (t2:Bool) (t3:Bool) (c:Int) (d:Int) (m1_0:Int) (m1_1:Int) (m1_2:(List Zaa)) (m1_3:(List Zr)) (m1_4:(List Zk)) (m1_5:(List Zv)):((List Int)⊕(List Int))→Ex×List V×Zq
  | (.inl r)=>(.exit 0,[],[(.arr 1 (List.map Ze r)),(.cells [(.d (Ze m1_0)),(.d (Ze m1_1)),(.d (D.list t0 (List.map Zau m1_2))),(.d (D.list t1 (List.map ZI m1_3))),(.d (D.list t2 (List.map Zt m1_4))),(.d (D.list t3 (List.map ZB m1_5)))])])
  | (.inr r)=>(.ret,[],[(.arr 1 (List.map Ze r)),(.cells [(.d (Ze m1_0)),(.d (Ze m1_1)),(.d (D.list t0 (List.map Zau m1_2))),(.d (D.list t1 (List.map ZI m1_3))),(.d (D.list t2 (List.map Zt m1_4))),(.d (D.list t3 (List.map ZB m1_5)))])])
theorem Ze8 {t0:Bool}{t1:Bool}{t2:Bool}{t3:Bool}{c:Int}{d:Int}{m1_0:Int}{m1_1:Int}{m1_2:(List Zaa)}{m1_3:(List Zr)}{m1_4:(List Zk)}{m1_5:(List Zv)}:∀(s0:Int×(List Int)) (r:((List Int)⊕(List Int))),lp (ZN c d (fun z0 z1=>Zx z0 z1 m1_4)) s0=some r→lpW ctx 2 [0,2,3,4,10] [] ZvV [(.sl 0 1),(.d (Ze c)),(.d (Ze d)),(.fn 106 [(.ptr 1 0)]),(.d (Ze s0.1))] [(.arr 1 (List.map Ze s0.2)),(.cells [(.d (Ze m1_0)),(.d (Ze m1_1)),(.d (D.list t0 (List.map Zau m1_2))),(.d (D.list t1 (List.map ZI m1_3))),(.d (D.list t2 (List.map Zt m1_4))),(.d (D.list t3 (List.map ZB m1_5)))])]=some ((ZcT t0 t1 t2 t3 c d m1_0 m1_1 m1_2 m1_3 m1_4 m1_5) r):=by
 refine ZaX (ZcT t0 t1 t2 t3 c d m1_0 m1_1 m1_2 m1_3 m1_4 m1_5) ?_
 intro s0 rcl ih
 show ZS _ _ (lpW _ _ _ _ _ _ _)
 unfold ZN
 rw[ZaY]
 conv=>arg 3;whnf
 refine Zg rfl ?_ ?_<;>conv=>arg 3;whnf
 ·exact Zh rfl
 ·refine Zg rfl ?_ ?_<;>conv=>arg 3;whnf
  ·refine Zi rfl rfl fun x1 hx1=>?_;conv=>arg 3;whnf
   refine Zf (Zl rfl hx1) ?_;conv=>arg 3;whnf
   refine Zi rfl rfl fun x2 hx2=>?_;conv=>arg 3;whnf
   refine Zf (Zl rfl hx2) ?_;conv=>arg 3;whnf
   refine Zp _ ZO rfl fun x3 hx3=>?_;conv=>arg 3;whnf
   refine Zg rfl ?_ ?_<;>conv=>arg 3;whnf
   ·refine Zi rfl rfl fun x4 hx4=>?_;conv=>arg 3;whnf
    refine Zf (Zl rfl hx4) ?_;conv=>arg 3;whnf
    refine Zi rfl rfl fun x5 hx5=>?_;conv=>arg 3;whnf
    refine Zf (Zl rfl hx5) ?_;conv=>arg 3;whnf
    refine Zp _ ZO rfl fun x6 hx6=>?_;conv=>arg 3;whnf
    refine Zg rfl ?_ ?_<;>conv=>arg 3;whnf
    ·refine Zf (ZaG rfl hx5) ?_;conv=>arg 3;whnf
     refine Zf (Zl rfl hx5) ?_;conv=>arg 3;whnf
     refine Zf (ZaG rfl hx4) ?_;conv=>arg 3;whnf
     refine Zf (Zl rfl hx4) ?_;conv=>arg 3;whnf
     refine Zf (ZaG rfl hx4) ?_;conv=>arg 3;whnf
     refine Zf (Zl rfl hx4) ?_;conv=>arg 3;whnf
     refine Zn (Z1 Ze s0.2 (w64 (d+s0.1)).toNat x5) ?_;conv=>arg 3;whnf
     refine Zi rfl rfl fun x7 hx7=>?_;conv=>arg 3;whnf
     refine Zf (Zl rfl hx7) ?_;conv=>arg 3;whnf
     refine Zn (Z1 Ze (List.set s0.2 (w64 (d+s0.1)).toNat x5) (w64 (d+(w64 ((w64 ((w64 (2*s0.1))+1))+1)))).toNat x4) ?_;conv=>arg 3;whnf
     exact Zd (ih _)
    ·exact Zh rfl
   ·refine Zi rfl rfl fun x8 hx8=>?_;conv=>arg 3;whnf
    refine Zf (Zl rfl hx8) ?_;conv=>arg 3;whnf
    refine Zf (ZaG rfl hx1) ?_;conv=>arg 3;whnf
    refine Zf (Zl rfl hx1) ?_;conv=>arg 3;whnf
    refine Zp _ ZO rfl fun x9 hx9=>?_;conv=>arg 3;whnf
    refine Zg rfl ?_ ?_<;>conv=>arg 3;whnf
    ·refine Zf (ZaG rfl hx1) ?_;conv=>arg 3;whnf
     refine Zf (Zl rfl hx1) ?_;conv=>arg 3;whnf
     refine Zf (ZaG rfl hx8) ?_;conv=>arg 3;whnf
     refine Zf (Zl rfl hx8) ?_;conv=>arg 3;whnf
     refine Zf (ZaG rfl hx8) ?_;conv=>arg 3;whnf
     refine Zf (Zl rfl hx8) ?_;conv=>arg 3;whnf
     refine Zn (Z1 Ze s0.2 (w64 (d+s0.1)).toNat x1) ?_;conv=>arg 3;whnf
     refine Zi rfl rfl fun x10 hx10=>?_;conv=>arg 3;whnf
     refine Zf (Zl rfl hx10) ?_;conv=>arg 3;whnf
     refine Zn (Z1 Ze (List.set s0.2 (w64 (d+s0.1)).toNat x1) (w64 (d+(w64 ((w64 (2*s0.1))+1)))).toNat x8) ?_;conv=>arg 3;whnf
     exact Zd (ih _)
    ·exact Zh rfl
  ·refine Zi rfl rfl fun x11 hx11=>?_;conv=>arg 3;whnf
   refine Zf (Zl rfl hx11) ?_;conv=>arg 3;whnf
   refine Zi rfl rfl fun x12 hx12=>?_;conv=>arg 3;whnf
   refine Zf (Zl rfl hx12) ?_;conv=>arg 3;whnf
   refine Zp _ ZO rfl fun x13 hx13=>?_;conv=>arg 3;whnf
   refine Zg rfl ?_ ?_<;>conv=>arg 3;whnf
   ·refine Zf (ZaG rfl hx12) ?_;conv=>arg 3;whnf
    refine Zf (Zl rfl hx12) ?_;conv=>arg 3;whnf
    refine Zf (ZaG rfl hx11) ?_;conv=>arg 3;whnf
    refine Zf (Zl rfl hx11) ?_;conv=>arg 3;whnf
    refine Zf (ZaG rfl hx11) ?_;conv=>arg 3;whnf
    refine Zf (Zl rfl hx11) ?_;conv=>arg 3;whnf
    refine Zn (Z1 Ze s0.2 (w64 (d+s0.1)).toNat x12) ?_;conv=>arg 3;whnf
    refine Zi rfl rfl fun x14 hx14=>?_;conv=>arg 3;whnf
    refine Zf (Zl rfl hx14) ?_;conv=>arg 3;whnf
    refine Zn (Z1 Ze (List.set s0.2 (w64 (d+s0.1)).toNat x12) (w64 (d+(w64 ((w64 (2*s0.1))+1)))).toNat x11) ?_;conv=>arg 3;whnf
    exact Zd (ih _)
   ·exact Zh rfl
theorem Zc3 {t0:Bool}{t1:Bool}{t2:Bool}{t3:Bool}{b:Int}{c:Int}{d:Int}{m0_0:(List Int)}{m1_0:Int}{m1_1:Int}{m1_2:(List Zaa)}{m1_3:(List Zr)}{m1_4:(List Zk)}{m1_5:(List Zv)}:∀r,(ZaM b c d (fun z0 z1=>Zx z0 z1 m1_4) m0_0)=some r→evW ctx 139 [(.sl 0 1),(.d (Ze b)),(.d (Ze c)),(.d (Ze d)),(.fn 106 [(.ptr 1 0)])] [(.arr 1 (List.map Ze m0_0)),(.cells [(.d (Ze m1_0)),(.d (Ze m1_1)),(.d (D.list t0 (List.map Zau m1_2))),(.d (D.list t1 (List.map ZI m1_3))),(.d (D.list t2 (List.map Zt m1_4))),(.d (D.list t3 (List.map ZB m1_5)))])]=some ((Zdj t0 t1 t2 t3 b c d m0_0 m1_0 m1_1 m1_2 m1_3 m1_4 m1_5) r):=by
 show ZS _ (fun r rhs=>rhs=some ((Zdj t0 t1 t2 t3 b c d m0_0 m1_0 m1_1 m1_2 m1_3 m1_4 m1_5) r)) _
 unfold ZaM
 rw[Zd4 ctx 139 Zyv _ _ rfl rfl]
 conv=>arg 3;whnf
 refine Zc _ (Ze8 _) fun r15 hr15=>?_
 clear hr15
 rcases r15 with r15 | r15
 ·conv=>arg 3;whnf
  exact Zh rfl
 ·conv=>arg 3;whnf
  exact Zh rfl
def Zdi (t0:Bool) (t1:Bool) (t2:Bool) (t3:Bool) (b:Int) (c:Int) (m0_0:(List Int)) (m1_0:Int) (m1_1:Int) (m1_2:(List Zaa)) (m1_3:(List Zr)) (m1_4:(List Zk)) (m1_5:(List Zv)):(List Int)→V×Zq
  | r=>((.d (D.tup [])),[(.arr 1 (List.map Ze r)),(.cells [(.d (Ze m1_0)),(.d (Ze m1_1)),(.d (D.list t0 (List.map Zau m1_2))),(.d (D.list t1 (List.map ZI m1_3))),(.d (D.list t2 (List.map Zt m1_4))),(.d (D.list t3 (List.map ZB m1_5)))])])
def ZcQ (t0:Bool) (t1:Bool) (t2:Bool) (t3:Bool) (b:Int) (c:Int) (m1_0:Int) (m1_1:Int) (m1_2:(List Zaa)) (m1_3:(List Zr)) (m1_4:(List Zk)) (m1_5:(List Zv)):(List Int)→Ex×List V×Zq
  | r=>(.exit 0,[(.sl 0 1),(.fn 106 [(.ptr 1 0)]),(.d (Ze b)),(.d (Ze 0)),(.d (Ze (w64 (c-b))))],[(.arr 1 (List.map Ze r)),(.cells [(.d (Ze m1_0)),(.d (Ze m1_1)),(.d (D.list t0 (List.map Zau m1_2))),(.d (D.list t1 (List.map ZI m1_3))),(.d (D.list t2 (List.map Zt m1_4))),(.d (D.list t3 (List.map ZB m1_5)))])])
theorem Zfi {t0:Bool}{t1:Bool}{t2:Bool}{t3:Bool}{b:Int}{c:Int}{m1_0:Int}{m1_1:Int}{m1_2:(List Zaa)}{m1_3:(List Zr)}{m1_4:(List Zk)}{m1_5:(List Zv)}:∀(s0:Int×(List Int)) (r:(List Int)),lp (ZaI b c (fun z0 z1=>Zx z0 z1 m1_4)) s0=some r→lpW ctx 2 [0,3,8,9,10,11] [0,3,8,9,10] Zv4 [(.sl 0 1),(.fn 106 [(.ptr 1 0)]),(.d (Ze b)),(.d (Ze 0)),(.d (Ze (w64 (c-b)))),(.d (Ze s0.1))] [(.arr 1 (List.map Ze s0.2)),(.cells [(.d (Ze m1_0)),(.d (Ze m1_1)),(.d (D.list t0 (List.map Zau m1_2))),(.d (D.list t1 (List.map ZI m1_3))),(.d (D.list t2 (List.map Zt m1_4))),(.d (D.list t3 (List.map ZB m1_5)))])]=some ((ZcQ t0 t1 t2 t3 b c m1_0 m1_1 m1_2 m1_3 m1_4 m1_5) r):=by
 refine ZaX (ZcQ t0 t1 t2 t3 b c m1_0 m1_1 m1_2 m1_3 m1_4 m1_5) ?_
 intro s0 rcl ih
 show ZS _ _ (lpW _ _ _ _ _ _ _)
 unfold ZaI
 rw[ZaY]
 conv=>arg 3;whnf
 refine Zg rfl ?_ ?_<;>conv=>arg 3;whnf
 ·refine Zc _ Zc3 fun x1 hx1=>?_;conv=>arg 3;whnf
  exact Zd (ih _)
 ·exact Zh rfl
def ZcR (t0:Bool) (t1:Bool) (t2:Bool) (t3:Bool) (b:Int) (m1_0:Int) (m1_1:Int) (m1_2:(List Zaa)) (m1_3:(List Zr)) (m1_4:(List Zk)) (m1_5:(List Zv)):(List Int)→Ex×List V×Zq
  | r=>(.exit 2,[],[(.arr 1 (List.map Ze r)),(.cells [(.d (Ze m1_0)),(.d (Ze m1_1)),(.d (D.list t0 (List.map Zau m1_2))),(.d (D.list t1 (List.map ZI m1_3))),(.d (D.list t2 (List.map Zt m1_4))),(.d (D.list t3 (List.map ZB m1_5)))])])
theorem Zfd {t0:Bool}{t1:Bool}{t2:Bool}{t3:Bool}{b:Int}{m1_0:Int}{m1_1:Int}{m1_2:(List Zaa)}{m1_3:(List Zr)}{m1_4:(List Zk)}{m1_5:(List Zv)}:∀(s3:Int×(List Int)) (r:(List Int)),lp (ZaL b (fun z0 z1=>Zx z0 z1 m1_4)) s3=some r→lpW ctx 2 [0,3,8,9,12] [] ZvK [(.sl 0 1),(.fn 106 [(.ptr 1 0)]),(.d (Ze b)),(.d (Ze 0)),(.d (Ze s3.1))] [(.arr 1 (List.map Ze s3.2)),(.cells [(.d (Ze m1_0)),(.d (Ze m1_1)),(.d (D.list t0 (List.map Zau m1_2))),(.d (D.list t1 (List.map ZI m1_3))),(.d (D.list t2 (List.map Zt m1_4))),(.d (D.list t3 (List.map ZB m1_5)))])]=some ((ZcR t0 t1 t2 t3 b m1_0 m1_1 m1_2 m1_3 m1_4 m1_5) r):=by
 refine ZaX (ZcR t0 t1 t2 t3 b m1_0 m1_1 m1_2 m1_3 m1_4 m1_5) ?_
 intro s3 rcl ih
 show ZS _ _ (lpW _ _ _ _ _ _ _)
 unfold ZaL
 rw[ZaY]
 conv=>arg 3;whnf
 refine Zg rfl ?_ ?_<;>conv=>arg 3;whnf
 ·refine Zi rfl rfl fun x4 hx4=>?_;conv=>arg 3;whnf
  refine Zf (Zl rfl hx4) ?_;conv=>arg 3;whnf
  refine Zi rfl rfl fun x5 hx5=>?_;conv=>arg 3;whnf
  refine Zf (Zl rfl hx5) ?_;conv=>arg 3;whnf
  refine Zf (ZaG rfl hx5) ?_;conv=>arg 3;whnf
  refine Zf (Zl rfl hx5) ?_;conv=>arg 3;whnf
  refine Zn (Z1 Ze s3.2 b.toNat x4) ?_;conv=>arg 3;whnf
  refine Zi rfl rfl fun x6 hx6=>?_;conv=>arg 3;whnf
  refine Zf (Zl rfl hx6) ?_;conv=>arg 3;whnf
  refine Zn (Z1 Ze (List.set s3.2 b.toNat x4) (w64 (b+s3.1)).toNat x5) ?_;conv=>arg 3;whnf
  refine Zc _ Zc3 fun x7 hx7=>?_;conv=>arg 3;whnf
  exact Zd (ih _)
 ·exact Zh rfl
theorem Zbd {t0:Bool}{t1:Bool}{t2:Bool}{t3:Bool}{b:Int}{c:Int}{m0_0:(List Int)}{m1_0:Int}{m1_1:Int}{m1_2:(List Zaa)}{m1_3:(List Zr)}{m1_4:(List Zk)}{m1_5:(List Zv)}:∀r,(Zai b c (fun z0 z1=>Zx z0 z1 m1_4) m0_0)=some r→evW ctx 121 [(.sl 0 1),(.d (Ze b)),(.d (Ze c)),(.fn 106 [(.ptr 1 0)])] [(.arr 1 (List.map Ze m0_0)),(.cells [(.d (Ze m1_0)),(.d (Ze m1_1)),(.d (D.list t0 (List.map Zau m1_2))),(.d (D.list t1 (List.map ZI m1_3))),(.d (D.list t2 (List.map Zt m1_4))),(.d (D.list t3 (List.map ZB m1_5)))])]=some ((Zdi t0 t1 t2 t3 b c m0_0 m1_0 m1_1 m1_2 m1_3 m1_4 m1_5) r):=by
 show ZS _ (fun r rhs=>rhs=some ((Zdi t0 t1 t2 t3 b c m0_0 m1_0 m1_1 m1_2 m1_3 m1_4 m1_5) r)) _
 unfold Zai
 rw[Zd4 ctx 121 ZxP _ _ rfl rfl]
 conv=>arg 3;whnf
 refine ZR rfl ?_;conv=>arg 3;whnf
 refine Zc _ (Zfi _) fun r2 hr2=>?_;conv=>arg 3;whnf
 refine Zc _ (Zfd _) fun r8 hr8=>?_;conv=>arg 3;whnf
 exact Zh rfl
def Zdx (t0:Bool) (t1:Bool) (t2:Bool) (t3:Bool) (b:Int) (c:Int) (m0_0:(List Int)) (m1_0:Int) (m2_0:Int) (m2_1:Int) (m2_2:(List Zaa)) (m2_3:(List Zr)) (m2_4:(List Zk)) (m2_5:(List Zv)):(Int×Int×Int)→V×Zq
  | r=>((.d (D.tup [(Ze r.1),(Ze r.2.1)])),[(.arr 1 (List.map Ze m0_0)),(.cells [(.d (Ze r.2.2))]),(.cells [(.d (Ze m2_0)),(.d (Ze m2_1)),(.d (D.list t0 (List.map Zau m2_2))),(.d (D.list t1 (List.map ZI m2_3))),(.d (D.list t2 (List.map Zt m2_4))),(.d (D.list t3 (List.map ZB m2_5)))])])
theorem Zb0 {t0:Bool}{t1:Bool}{t2:Bool}{t3:Bool}{b:Int}{c:Int}{m0_0:(List Int)}{m1_0:Int}{m2_0:Int}{m2_1:Int}{m2_2:(List Zaa)}{m2_3:(List Zr)}{m2_4:(List Zk)}{m2_5:(List Zv)}:∀r,(Za1 b c (fun z0 z1=>Zx z0 z1 m2_4) m0_0 m1_0)=some r→evW ctx 148 [(.sl 0 1),(.d (Ze b)),(.d (Ze c)),(.ptr 1 0),(.fn 106 [(.ptr 2 0)])] [(.arr 1 (List.map Ze m0_0)),(.cells [(.d (Ze m1_0))]),(.cells [(.d (Ze m2_0)),(.d (Ze m2_1)),(.d (D.list t0 (List.map Zau m2_2))),(.d (D.list t1 (List.map ZI m2_3))),(.d (D.list t2 (List.map Zt m2_4))),(.d (D.list t3 (List.map ZB m2_5)))])]=some ((Zdx t0 t1 t2 t3 b c m0_0 m1_0 m2_0 m2_1 m2_2 m2_3 m2_4 m2_5) r):=by
 show ZS _ (fun r rhs=>rhs=some ((Zdx t0 t1 t2 t3 b c m0_0 m1_0 m2_0 m2_1 m2_2 m2_3 m2_4 m2_5) r)) _
 unfold Za1
 rw[Zd4 ctx 148 Zzu _ _ rfl rfl]
 conv=>arg 3;whnf
 refine Zi rfl rfl fun x0 hx0=>?_;conv=>arg 3;whnf
 refine Zf (Zl rfl hx0) ?_;conv=>arg 3;whnf
 refine Zi rfl rfl fun x1 hx1=>?_;conv=>arg 3;whnf
 refine Zf (Zl rfl hx1) ?_;conv=>arg 3;whnf
 refine Zp _ ZO rfl fun x2 hx2=>?_;conv=>arg 3;whnf
 refine Zg rfl ?_ ?_<;>conv=>arg 3;whnf
 ·exact Zh rfl
 ·exact Zh rfl
def Zdw (t0:Bool) (t1:Bool) (t2:Bool) (t3:Bool) (b:Int) (c:Int) (d:Int) (m0_0:(List Int)) (m1_0:Int) (m2_0:Int) (m2_1:Int) (m2_2:(List Zaa)) (m2_3:(List Zr)) (m2_4:(List Zk)) (m2_5:(List Zv)):(Int×Int)→V×Zq
  | r=>((.d (Ze r.1)),[(.arr 1 (List.map Ze m0_0)),(.cells [(.d (Ze r.2))]),(.cells [(.d (Ze m2_0)),(.d (Ze m2_1)),(.d (D.list t0 (List.map Zau m2_2))),(.d (D.list t1 (List.map ZI m2_3))),(.d (D.list t2 (List.map Zt m2_4))),(.d (D.list t3 (List.map ZB m2_5)))])])
theorem Zb1 {t0:Bool}{t1:Bool}{t2:Bool}{t3:Bool}{b:Int}{c:Int}{d:Int}{m0_0:(List Int)}{m1_0:Int}{m2_0:Int}{m2_1:Int}{m2_2:(List Zaa)}{m2_3:(List Zr)}{m2_4:(List Zk)}{m2_5:(List Zv)}:∀r,(Za0 b c d (fun z0 z1=>Zx z0 z1 m2_4) m0_0 m1_0)=some r→evW ctx 143 [(.sl 0 1),(.d (Ze b)),(.d (Ze c)),(.d (Ze d)),(.ptr 1 0),(.fn 106 [(.ptr 2 0)])] [(.arr 1 (List.map Ze m0_0)),(.cells [(.d (Ze m1_0))]),(.cells [(.d (Ze m2_0)),(.d (Ze m2_1)),(.d (D.list t0 (List.map Zau m2_2))),(.d (D.list t1 (List.map ZI m2_3))),(.d (D.list t2 (List.map Zt m2_4))),(.d (D.list t3 (List.map ZB m2_5)))])]=some ((Zdw t0 t1 t2 t3 b c d m0_0 m1_0 m2_0 m2_1 m2_2 m2_3 m2_4 m2_5) r):=by
 show ZS _ (fun r rhs=>rhs=some ((Zdw t0 t1 t2 t3 b c d m0_0 m1_0 m2_0 m2_1 m2_2 m2_3 m2_4 m2_5) r)) _
 unfold Za0
 rw[Zd4 ctx 143 Zzf _ _ rfl rfl]
 conv=>arg 3;whnf
 refine Zc _ Zb0 fun x0 hx0=>?_;conv=>arg 3;whnf
 refine Zc _ Zb0 fun x1 hx1=>?_;conv=>arg 3;whnf
 refine Zc _ Zb0 fun x2 hx2=>?_;conv=>arg 3;whnf
 exact Zh rfl
def Zcw (t0:Bool) (t1:Bool) (t2:Bool) (t3:Bool) (b:Int) (m0_0:(List Int)) (m1_0:Int) (m2_0:Int) (m2_1:Int) (m2_2:(List Zaa)) (m2_3:(List Zr)) (m2_4:(List Zk)) (m2_5:(List Zv)):(Int×Int)→V×Zq
  | r=>((.d (Ze r.1)),[(.arr 1 (List.map Ze m0_0)),(.cells [(.d (Ze r.2))]),(.cells [(.d (Ze m2_0)),(.d (Ze m2_1)),(.d (D.list t0 (List.map Zau m2_2))),(.d (D.list t1 (List.map ZI m2_3))),(.d (D.list t2 (List.map Zt m2_4))),(.d (D.list t3 (List.map ZB m2_5)))])])
theorem Zbo {t0:Bool}{t1:Bool}{t2:Bool}{t3:Bool}{b:Int}{m0_0:(List Int)}{m1_0:Int}{m2_0:Int}{m2_1:Int}{m2_2:(List Zaa)}{m2_3:(List Zr)}{m2_4:(List Zk)}{m2_5:(List Zv)}:∀r,(Zaf b (fun z0 z1=>Zx z0 z1 m2_4) m0_0 m1_0)=some r→evW ctx 142 [(.sl 0 1),(.d (Ze b)),(.ptr 1 0),(.fn 106 [(.ptr 2 0)])] [(.arr 1 (List.map Ze m0_0)),(.cells [(.d (Ze m1_0))]),(.cells [(.d (Ze m2_0)),(.d (Ze m2_1)),(.d (D.list t0 (List.map Zau m2_2))),(.d (D.list t1 (List.map ZI m2_3))),(.d (D.list t2 (List.map Zt m2_4))),(.d (D.list t3 (List.map ZB m2_5)))])]=some ((Zcw t0 t1 t2 t3 b m0_0 m1_0 m2_0 m2_1 m2_2 m2_3 m2_4 m2_5) r):=by
 show ZS _ (fun r rhs=>rhs=some ((Zcw t0 t1 t2 t3 b m0_0 m1_0 m2_0 m2_1 m2_2 m2_3 m2_4 m2_5) r)) _
 unfold Zaf
 rw[Zd4 ctx 142 ZyU _ _ rfl rfl]
 conv=>arg 3;whnf
 refine Zc _ Zb1 fun x0 hx0=>?_;conv=>arg 3;whnf
 exact Zh rfl
def ZcS (t0:Bool) (t1:Bool) (t2:Bool) (t3:Bool) (b:Int) (c:Int) (m0_0:(List Int)) (m1_0:Int) (m1_1:Int) (m1_2:(List Zaa)) (m1_3:(List Zr)) (m1_4:(List Zk)) (m1_5:(List Zv)):(Int×Int)→V×Zq
  | r=>((.d (D.tup [(Ze r.1),(Ze r.2)])),[(.arr 1 (List.map Ze m0_0)),(.cells [(.d (Ze m1_0)),(.d (Ze m1_1)),(.d (D.list t0 (List.map Zau m1_2))),(.d (D.list t1 (List.map ZI m1_3))),(.d (D.list t2 (List.map Zt m1_4))),(.d (D.list t3 (List.map ZB m1_5)))])])
theorem ZaZ {t0:Bool}{t1:Bool}{t2:Bool}{t3:Bool}{b:Int}{c:Int}{m0_0:(List Int)}{m1_0:Int}{m1_1:Int}{m1_2:(List Zaa)}{m1_3:(List Zr)}{m1_4:(List Zk)}{m1_5:(List Zv)}:∀r,(ZV b c (fun z0 z1=>Zx z0 z1 m1_4) m0_0)=some r→evW ctx 123 [(.sl 0 1),(.d (Ze b)),(.d (Ze c)),(.fn 106 [(.ptr 1 0)])] [(.arr 1 (List.map Ze m0_0)),(.cells [(.d (Ze m1_0)),(.d (Ze m1_1)),(.d (D.list t0 (List.map Zau m1_2))),(.d (D.list t1 (List.map ZI m1_3))),(.d (D.list t2 (List.map Zt m1_4))),(.d (D.list t3 (List.map ZB m1_5)))])]=some ((ZcS t0 t1 t2 t3 b c m0_0 m1_0 m1_1 m1_2 m1_3 m1_4 m1_5) r):=by
 show ZS _ (fun r rhs=>rhs=some ((ZcS t0 t1 t2 t3 b c m0_0 m1_0 m1_1 m1_2 m1_3 m1_4 m1_5) r)) _
 unfold ZV
 rw[Zd4 ctx 123 Zy4 _ _ rfl rfl]
 conv=>arg 3;whnf
 refine ZR rfl ?_;conv=>arg 3;whnf
 refine ZR rfl ?_;conv=>arg 3;whnf
 refine ZR rfl ?_;conv=>arg 3;whnf
 refine Zg rfl ?_ ?_<;>conv=>arg 3;whnf
 ·refine Zg rfl ?_ ?_<;>conv=>arg 3;whnf
  ·refine Zc _ Zbo fun x0 hx0=>?_;conv=>arg 3;whnf
   refine Zc _ Zbo fun x1 hx1=>?_;conv=>arg 3;whnf
   refine Zc _ Zbo fun x2 hx2=>?_;conv=>arg 3;whnf
   refine Zc _ Zb1 fun x3 hx3=>?_;conv=>arg 3;whnf
   refine Zg rfl ?_ ?_<;>conv=>arg 3;whnf
   ·exact Zh rfl
   ·refine Zg rfl ?_ ?_<;>conv=>arg 3;whnf
    ·exact Zh rfl
    ·exact Zh rfl
  ·refine Zc _ Zb1 fun x4 hx4=>?_;conv=>arg 3;whnf
   refine Zg rfl ?_ ?_<;>conv=>arg 3;whnf
   ·exact Zh rfl
   ·refine Zg rfl ?_ ?_<;>conv=>arg 3;whnf
    ·exact Zh rfl
    ·exact Zh rfl
 ·refine Zbr rfl ?_;conv=>arg 3;whnf
  exact Zh rfl
def ZcG (t0:Bool) (t1:Bool) (t2:Bool) (t3:Bool) (b:Int) (c:Int) (m0_0:(List Int)) (m1_0:Int) (m1_1:Int) (m1_2:(List Zaa)) (m1_3:(List Zr)) (m1_4:(List Zk)) (m1_5:(List Zv)):(List Int)→V×Zq
  | r=>((.d (D.tup [])),[(.arr 1 (List.map Ze r)),(.cells [(.d (Ze m1_0)),(.d (Ze m1_1)),(.d (D.list t0 (List.map Zau m1_2))),(.d (D.list t1 (List.map ZI m1_3))),(.d (D.list t2 (List.map Zt m1_4))),(.d (D.list t3 (List.map ZB m1_5)))])])
def Zct (t0:Bool) (t1:Bool) (t2:Bool) (t3:Bool) (m1_0:Int) (m1_1:Int) (m1_2:(List Zaa)) (m1_3:(List Zr)) (m1_4:(List Zk)) (m1_5:(List Zv)):(List Int)→Ex×List V×Zq
  | r=>(.exit 0,[],[(.arr 1 (List.map Ze r)),(.cells [(.d (Ze m1_0)),(.d (Ze m1_1)),(.d (D.list t0 (List.map Zau m1_2))),(.d (D.list t1 (List.map ZI m1_3))),(.d (D.list t2 (List.map Zt m1_4))),(.d (D.list t3 (List.map ZB m1_5)))])])
theorem Zev {t0:Bool}{t1:Bool}{t2:Bool}{t3:Bool}{m1_0:Int}{m1_1:Int}{m1_2:(List Zaa)}{m1_3:(List Zr)}{m1_4:(List Zk)}{m1_5:(List Zv)}:∀(s0:Int×Int×(List Int)) (r:(List Int)),lp (Zac) s0=some r→lpW ctx 2 [0,8,9] [] Zwa [(.sl 0 1),(.d (Ze s0.1)),(.d (Ze s0.2.1))] [(.arr 1 (List.map Ze s0.2.2)),(.cells [(.d (Ze m1_0)),(.d (Ze m1_1)),(.d (D.list t0 (List.map Zau m1_2))),(.d (D.list t1 (List.map ZI m1_3))),(.d (D.list t2 (List.map Zt m1_4))),(.d (D.list t3 (List.map ZB m1_5)))])]=some ((Zct t0 t1 t2 t3 m1_0 m1_1 m1_2 m1_3 m1_4 m1_5) r):=by
 refine ZaX (Zct t0 t1 t2 t3 m1_0 m1_1 m1_2 m1_3 m1_4 m1_5) ?_
 intro s0 rcl ih
 show ZS _ _ (lpW _ _ _ _ _ _ _)
 unfold Zac
 rw[ZaY]
 conv=>arg 3;whnf
 refine Zg rfl ?_ ?_<;>conv=>arg 3;whnf
 ·refine Zi rfl rfl fun x1 hx1=>?_;conv=>arg 3;whnf
  refine Zf (Zl rfl hx1) ?_;conv=>arg 3;whnf
  refine Zi rfl rfl fun x2 hx2=>?_;conv=>arg 3;whnf
  refine Zf (Zl rfl hx2) ?_;conv=>arg 3;whnf
  refine Zf (ZaG rfl hx2) ?_;conv=>arg 3;whnf
  refine Zf (Zl rfl hx2) ?_;conv=>arg 3;whnf
  refine Zn (Z1 Ze s0.2.2 s0.1.toNat x1) ?_;conv=>arg 3;whnf
  refine Zi rfl rfl fun x3 hx3=>?_;conv=>arg 3;whnf
  refine Zf (Zl rfl hx3) ?_;conv=>arg 3;whnf
  refine Zn (Z1 Ze (List.set s0.2.2 s0.1.toNat x1) s0.2.1.toNat x2) ?_;conv=>arg 3;whnf
  exact Zd (ih _)
 ·exact Zh rfl
theorem ZaW {t0:Bool}{t1:Bool}{t2:Bool}{t3:Bool}{b:Int}{c:Int}{m0_0:(List Int)}{m1_0:Int}{m1_1:Int}{m1_2:(List Zaa)}{m1_3:(List Zr)}{m1_4:(List Zk)}{m1_5:(List Zv)}:∀r,(ZP b c (fun z0 z1=>Zx z0 z1 m1_4) m0_0)=some r→evW ctx 124 [(.sl 0 1),(.d (Ze b)),(.d (Ze c)),(.fn 106 [(.ptr 1 0)])] [(.arr 1 (List.map Ze m0_0)),(.cells [(.d (Ze m1_0)),(.d (Ze m1_1)),(.d (D.list t0 (List.map Zau m1_2))),(.d (D.list t1 (List.map ZI m1_3))),(.d (D.list t2 (List.map Zt m1_4))),(.d (D.list t3 (List.map ZB m1_5)))])]=some ((ZcG t0 t1 t2 t3 b c m0_0 m1_0 m1_1 m1_2 m1_3 m1_4 m1_5) r):=by
 show ZS _ (fun r rhs=>rhs=some ((ZcG t0 t1 t2 t3 b c m0_0 m1_0 m1_1 m1_2 m1_3 m1_4 m1_5) r)) _
 unfold ZP
 rw[Zd4 ctx 124 ZzU _ _ rfl rfl]
 conv=>arg 3;whnf
 refine Zc _ (Zev _) fun r4 hr4=>?_;conv=>arg 3;whnf
 exact Zh rfl
def Zb7 (t0:Bool) (t1:Bool) (t2:Bool) (t3:Bool) (b:Int) (c:Int) (m0_0:(List Int)) (m1_0:Int) (m1_1:Int) (m1_2:(List Zaa)) (m1_3:(List Zr)) (m1_4:(List Zk)) (m1_5:(List Zv)):((List Int)⊕(List Int))→V×Zq
  | (.inl r)=>((.d (D.bool true)),[(.arr 1 (List.map Ze r)),(.cells [(.d (Ze m1_0)),(.d (Ze m1_1)),(.d (D.list t0 (List.map Zau m1_2))),(.d (D.list t1 (List.map ZI m1_3))),(.d (D.list t2 (List.map Zt m1_4))),(.d (D.list t3 (List.map ZB m1_5)))])])
  | (.inr r)=>((.d (D.bool false)),[(.arr 1 (List.map Ze r)),(.cells [(.d (Ze m1_0)),(.d (Ze m1_1)),(.d (D.list t0 (List.map Zau m1_2))),(.d (D.list t1 (List.map ZI m1_3))),(.d (D.list t2 (List.map Zt m1_4))),(.d (D.list t3 (List.map ZB m1_5)))])])
def ZbT (t0:Bool) (t1:Bool) (t2:Bool) (t3:Bool) (b:Int) (c:Int) (m1_0:Int) (m1_1:Int) (m1_2:(List Zaa)) (m1_3:(List Zr)) (m1_4:(List Zk)) (m1_5:(List Zv)) (s0:Int×Int×(List Int)):Int→Ex×List V×Zq
  | r=>(.exit 2,[(.sl 0 1),(.d (Ze b)),(.d (Ze c)),(.fn 106 [(.ptr 1 0)]),(.d (Ze r)),(.d (Ze s0.2.1))],[(.arr 1 (List.map Ze s0.2.2)),(.cells [(.d (Ze m1_0)),(.d (Ze m1_1)),(.d (D.list t0 (List.map Zau m1_2))),(.d (D.list t1 (List.map ZI m1_3))),(.d (D.list t2 (List.map Zt m1_4))),(.d (D.list t3 (List.map ZB m1_5)))])])
theorem ZdH {t0:Bool}{t1:Bool}{t2:Bool}{t3:Bool}{b:Int}{c:Int}{m1_0:Int}{m1_1:Int}{m1_2:(List Zaa)}{m1_3:(List Zr)}{m1_4:(List Zk)}{m1_5:(List Zv)}{s0:Int×Int×(List Int)}:∀(s1:Int) (r:Int),lp (ZL c (fun z0 z1=>Zx z0 z1 m1_4) s0) s1=some r→lpW ctx 2 [0,1,2,3,9,10] [0,1,2,3,9,10] ZvS [(.sl 0 1),(.d (Ze b)),(.d (Ze c)),(.fn 106 [(.ptr 1 0)]),(.d (Ze s1)),(.d (Ze s0.2.1))] [(.arr 1 (List.map Ze s0.2.2)),(.cells [(.d (Ze m1_0)),(.d (Ze m1_1)),(.d (D.list t0 (List.map Zau m1_2))),(.d (D.list t1 (List.map ZI m1_3))),(.d (D.list t2 (List.map Zt m1_4))),(.d (D.list t3 (List.map ZB m1_5)))])]=some ((ZbT t0 t1 t2 t3 b c m1_0 m1_1 m1_2 m1_3 m1_4 m1_5 s0) r):=by
 refine ZaX (ZbT t0 t1 t2 t3 b c m1_0 m1_1 m1_2 m1_3 m1_4 m1_5 s0) ?_
 intro s1 rcl ih
 show ZS _ _ (lpW _ _ _ _ _ _ _)
 unfold ZL
 rw[ZaY]
 conv=>arg 3;whnf
 refine Zg rfl ?_ ?_<;>conv=>arg 3;whnf
 ·refine Zi rfl rfl fun x2 hx2=>?_;conv=>arg 3;whnf
  refine Zf (Zl rfl hx2) ?_;conv=>arg 3;whnf
  refine Zi rfl rfl fun x3 hx3=>?_;conv=>arg 3;whnf
  refine Zf (Zl rfl hx3) ?_;conv=>arg 3;whnf
  refine Zp _ ZO rfl fun x4 hx4=>?_;conv=>arg 3;whnf
  refine Zg rfl ?_ ?_<;>conv=>arg 3;whnf
  ·exact Zh rfl
  ·exact Zd (ih _)
 ·exact Zh rfl
def ZbQ (t0:Bool) (t1:Bool) (t2:Bool) (t3:Bool) (b:Int) (c:Int) (m1_0:Int) (m1_1:Int) (m1_2:(List Zaa)) (m1_3:(List Zr)) (m1_4:(List Zk)) (m1_5:(List Zv)) (s0:Int×Int×(List Int)) (r5:Int):(List Int)→Ex×List V×Zq
  | r=>(.exit 4,[(.sl 0 1),(.d (Ze b)),(.d (Ze c)),(.fn 106 [(.ptr 1 0)]),(.d (Ze r5)),(.d (Ze s0.2.1))],[(.arr 1 (List.map Ze r)),(.cells [(.d (Ze m1_0)),(.d (Ze m1_1)),(.d (D.list t0 (List.map Zau m1_2))),(.d (D.list t1 (List.map ZI m1_3))),(.d (D.list t2 (List.map Zt m1_4))),(.d (D.list t3 (List.map ZB m1_5)))])])
theorem ZdE {t0:Bool}{t1:Bool}{t2:Bool}{t3:Bool}{b:Int}{c:Int}{m1_0:Int}{m1_1:Int}{m1_2:(List Zaa)}{m1_3:(List Zr)}{m1_4:(List Zk)}{m1_5:(List Zv)}{s0:Int×Int×(List Int)}{r5:Int}:∀(s9:Int×(List Int)) (r:(List Int)),lp (ZU (fun z0 z1=>Zx z0 z1 m1_4)) s9=some r→lpW ctx 2 [0,1,2,3,9,10,11] [0,1,2,3,9,10] Zwv [(.sl 0 1),(.d (Ze b)),(.d (Ze c)),(.fn 106 [(.ptr 1 0)]),(.d (Ze r5)),(.d (Ze s0.2.1)),(.d (Ze s9.1))] [(.arr 1 (List.map Ze s9.2)),(.cells [(.d (Ze m1_0)),(.d (Ze m1_1)),(.d (D.list t0 (List.map Zau m1_2))),(.d (D.list t1 (List.map ZI m1_3))),(.d (D.list t2 (List.map Zt m1_4))),(.d (D.list t3 (List.map ZB m1_5)))])]=some ((ZbQ t0 t1 t2 t3 b c m1_0 m1_1 m1_2 m1_3 m1_4 m1_5 s0 r5) r):=by
 refine ZaX (ZbQ t0 t1 t2 t3 b c m1_0 m1_1 m1_2 m1_3 m1_4 m1_5 s0 r5) ?_
 intro s9 rcl ih
 show ZS _ _ (lpW _ _ _ _ _ _ _)
 unfold ZU
 rw[ZaY]
 conv=>arg 3;whnf
 refine Zg rfl ?_ ?_<;>conv=>arg 3;whnf
 ·refine Zi rfl rfl fun x10 hx10=>?_;conv=>arg 3;whnf
  refine Zf (Zl rfl hx10) ?_;conv=>arg 3;whnf
  refine Zi rfl rfl fun x11 hx11=>?_;conv=>arg 3;whnf
  refine Zf (Zl rfl hx11) ?_;conv=>arg 3;whnf
  refine Zp _ ZO rfl fun x12 hx12=>?_;conv=>arg 3;whnf
  refine Zg rfl ?_ ?_<;>conv=>arg 3;whnf
  ·refine Zf (ZaG rfl hx11) ?_;conv=>arg 3;whnf
   refine Zf (Zl rfl hx11) ?_;conv=>arg 3;whnf
   refine Zf (ZaG rfl hx10) ?_;conv=>arg 3;whnf
   refine Zf (Zl rfl hx10) ?_;conv=>arg 3;whnf
   refine Zf (ZaG rfl hx10) ?_;conv=>arg 3;whnf
   refine Zf (Zl rfl hx10) ?_;conv=>arg 3;whnf
   refine Zn (Z1 Ze s9.2 s9.1.toNat x11) ?_;conv=>arg 3;whnf
   refine Zi rfl rfl fun x13 hx13=>?_;conv=>arg 3;whnf
   refine Zf (Zl rfl hx13) ?_;conv=>arg 3;whnf
   refine Zn (Z1 Ze (List.set s9.2 s9.1.toNat x11) (w64 (s9.1-1)).toNat x10) ?_;conv=>arg 3;whnf
   exact Zd (ih _)
  ·exact Zh rfl
 ·exact Zh rfl
def ZbR (t0:Bool) (t1:Bool) (t2:Bool) (t3:Bool) (b:Int) (c:Int) (m1_0:Int) (m1_1:Int) (m1_2:(List Zaa)) (m1_3:(List Zr)) (m1_4:(List Zk)) (m1_5:(List Zv)) (s0:Int×Int×(List Int)) (r5:Int):(List Int)→Ex×List V×Zq
  | r=>(.exit 6,[(.sl 0 1),(.d (Ze b)),(.d (Ze c)),(.fn 106 [(.ptr 1 0)]),(.d (Ze r5)),(.d (Ze s0.2.1))],[(.arr 1 (List.map Ze r)),(.cells [(.d (Ze m1_0)),(.d (Ze m1_1)),(.d (D.list t0 (List.map Zau m1_2))),(.d (D.list t1 (List.map ZI m1_3))),(.d (D.list t2 (List.map Zt m1_4))),(.d (D.list t3 (List.map ZB m1_5)))])])
theorem ZbO {t0:Bool}{t1:Bool}{t2:Bool}{t3:Bool}{b:Int}{c:Int}{m1_0:Int}{m1_1:Int}{m1_2:(List Zaa)}{m1_3:(List Zr)}{m1_4:(List Zk)}{m1_5:(List Zv)}{s0:Int×Int×(List Int)}{r5:Int}:∀(s15:Int×(List Int)) (r:(List Int)),lp (ZH c (fun z0 z1=>Zx z0 z1 m1_4)) s15=some r→lpW ctx 2 [0,1,2,3,9,10,12] [0,1,2,3,9,10] ZvW [(.sl 0 1),(.d (Ze b)),(.d (Ze c)),(.fn 106 [(.ptr 1 0)]),(.d (Ze r5)),(.d (Ze s0.2.1)),(.d (Ze s15.1))] [(.arr 1 (List.map Ze s15.2)),(.cells [(.d (Ze m1_0)),(.d (Ze m1_1)),(.d (D.list t0 (List.map Zau m1_2))),(.d (D.list t1 (List.map ZI m1_3))),(.d (D.list t2 (List.map Zt m1_4))),(.d (D.list t3 (List.map ZB m1_5)))])]=some ((ZbR t0 t1 t2 t3 b c m1_0 m1_1 m1_2 m1_3 m1_4 m1_5 s0 r5) r):=by
 refine ZaX (ZbR t0 t1 t2 t3 b c m1_0 m1_1 m1_2 m1_3 m1_4 m1_5 s0 r5) ?_
 intro s15 rcl ih
 show ZS _ _ (lpW _ _ _ _ _ _ _)
 unfold ZH
 rw[ZaY]
 conv=>arg 3;whnf
 refine Zg rfl ?_ ?_<;>conv=>arg 3;whnf
 ·refine Zi rfl rfl fun x16 hx16=>?_;conv=>arg 3;whnf
  refine Zf (Zl rfl hx16) ?_;conv=>arg 3;whnf
  refine Zi rfl rfl fun x17 hx17=>?_;conv=>arg 3;whnf
  refine Zf (Zl rfl hx17) ?_;conv=>arg 3;whnf
  refine Zp _ ZO rfl fun x18 hx18=>?_;conv=>arg 3;whnf
  refine Zg rfl ?_ ?_<;>conv=>arg 3;whnf
  ·refine Zf (ZaG rfl hx17) ?_;conv=>arg 3;whnf
   refine Zf (Zl rfl hx17) ?_;conv=>arg 3;whnf
   refine Zf (ZaG rfl hx16) ?_;conv=>arg 3;whnf
   refine Zf (Zl rfl hx16) ?_;conv=>arg 3;whnf
   refine Zf (ZaG rfl hx16) ?_;conv=>arg 3;whnf
   refine Zf (Zl rfl hx16) ?_;conv=>arg 3;whnf
   refine Zn (Z1 Ze s15.2 s15.1.toNat x17) ?_;conv=>arg 3;whnf
   refine Zi rfl rfl fun x19 hx19=>?_;conv=>arg 3;whnf
   refine Zf (Zl rfl hx19) ?_;conv=>arg 3;whnf
   refine Zn (Z1 Ze (List.set s15.2 s15.1.toNat x17) (w64 (s15.1-1)).toNat x16) ?_;conv=>arg 3;whnf
   exact Zd (ih _)
  ·exact Zh rfl
 ·exact Zh rfl
def ZbS (t0:Bool) (t1:Bool) (t2:Bool) (t3:Bool) (b:Int) (c:Int) (m1_0:Int) (m1_1:Int) (m1_2:(List Zaa)) (m1_3:(List Zr)) (m1_4:(List Zk)) (m1_5:(List Zv)):((List Int)⊕((List Int)⊕(List Int)))→Ex×List V×Zq
  | (.inl r)=>(.ret,[(.d (D.bool true))],[(.arr 1 (List.map Ze r)),(.cells [(.d (Ze m1_0)),(.d (Ze m1_1)),(.d (D.list t0 (List.map Zau m1_2))),(.d (D.list t1 (List.map ZI m1_3))),(.d (D.list t2 (List.map Zt m1_4))),(.d (D.list t3 (List.map ZB m1_5)))])])
  | (.inr (.inl r))=>(.ret,[(.d (D.bool false))],[(.arr 1 (List.map Ze r)),(.cells [(.d (Ze m1_0)),(.d (Ze m1_1)),(.d (D.list t0 (List.map Zau m1_2))),(.d (D.list t1 (List.map ZI m1_3))),(.d (D.list t2 (List.map Zt m1_4))),(.d (D.list t3 (List.map ZB m1_5)))])])
  | (.inr (.inr r))=>(.exit 0,[.bad],[(.arr 1 (List.map Ze r)),(.cells [(.d (Ze m1_0)),(.d (Ze m1_1)),(.d (D.list t0 (List.map Zau m1_2))),(.d (D.list t1 (List.map ZI m1_3))),(.d (D.list t2 (List.map Zt m1_4))),(.d (D.list t3 (List.map ZB m1_5)))])])
theorem ZdK {t0:Bool}{t1:Bool}{t2:Bool}{t3:Bool}{b:Int}{c:Int}{m1_0:Int}{m1_1:Int}{m1_2:(List Zaa)}{m1_3:(List Zr)}{m1_4:(List Zk)}{m1_5:(List Zv)}:∀(s0:Int×Int×(List Int)) (r:((List Int)⊕((List Int)⊕(List Int)))),lp (ZT b c (fun z0 z1=>Zx z0 z1 m1_4)) s0=some r→lpW ctx 2 [0,1,2,3,9,10] [8] Zwz [(.sl 0 1),(.d (Ze b)),(.d (Ze c)),(.fn 106 [(.ptr 1 0)]),(.d (Ze s0.1)),(.d (Ze s0.2.1))] [(.arr 1 (List.map Ze s0.2.2)),(.cells [(.d (Ze m1_0)),(.d (Ze m1_1)),(.d (D.list t0 (List.map Zau m1_2))),(.d (D.list t1 (List.map ZI m1_3))),(.d (D.list t2 (List.map Zt m1_4))),(.d (D.list t3 (List.map ZB m1_5)))])]=some ((ZbS t0 t1 t2 t3 b c m1_0 m1_1 m1_2 m1_3 m1_4 m1_5) r):=by
 refine ZaX (ZbS t0 t1 t2 t3 b c m1_0 m1_1 m1_2 m1_3 m1_4 m1_5) ?_
 intro s0 rcl ih
 show ZS _ _ (lpW _ _ _ _ _ _ _)
 unfold ZT
 rw[ZaY]
 conv=>arg 3;whnf
 refine Zg rfl ?_ ?_<;>conv=>arg 3;whnf
 ·refine Zc _ (ZdH _) fun r5 hr5=>?_;conv=>arg 3;whnf
  refine Zg rfl ?_ ?_<;>conv=>arg 3;whnf
  ·exact Zh rfl
  ·refine Zg rfl ?_ ?_<;>conv=>arg 3;whnf
   ·exact Zh rfl
   ·refine Zi rfl rfl fun x6 hx6=>?_;conv=>arg 3;whnf
    refine Zf (Zl rfl hx6) ?_;conv=>arg 3;whnf
    refine Zi rfl rfl fun x7 hx7=>?_;conv=>arg 3;whnf
    refine Zf (Zl rfl hx7) ?_;conv=>arg 3;whnf
    refine Zf (ZaG rfl hx7) ?_;conv=>arg 3;whnf
    refine Zf (Zl rfl hx7) ?_;conv=>arg 3;whnf
    refine Zn (Z1 Ze s0.2.2 r5.toNat x6) ?_;conv=>arg 3;whnf
    refine Zi rfl rfl fun x8 hx8=>?_;conv=>arg 3;whnf
    refine Zf (Zl rfl hx8) ?_;conv=>arg 3;whnf
    refine Zn (Z1 Ze (List.set s0.2.2 r5.toNat x6) (w64 (r5-1)).toNat x7) ?_;conv=>arg 3;whnf
    refine Zg rfl ?_ ?_<;>conv=>arg 3;whnf
    ·refine Zc _ (ZdE _) fun r14 hr14=>?_;conv=>arg 3;whnf
     refine Zg rfl ?_ ?_<;>conv=>arg 3;whnf
     ·refine Zc _ (ZbO _) fun r20 hr20=>?_;conv=>arg 3;whnf
      exact Zd (ih _)
     ·exact Zd (ih _)
    ·refine Zg rfl ?_ ?_<;>conv=>arg 3;whnf
     ·refine Zc _ (ZbO _) fun r26 hr26=>?_;conv=>arg 3;whnf
      exact Zd (ih _)
     ·exact Zd (ih _)
 ·exact Zh rfl
theorem Zb3 {t0:Bool}{t1:Bool}{t2:Bool}{t3:Bool}{b:Int}{c:Int}{m0_0:(List Int)}{m1_0:Int}{m1_1:Int}{m1_2:(List Zaa)}{m1_3:(List Zr)}{m1_4:(List Zk)}{m1_5:(List Zv)}:∀r,(ZQ b c (fun z0 z1=>Zx z0 z1 m1_4) m0_0)=some r→evW ctx 125 [(.sl 0 1),(.d (Ze b)),(.d (Ze c)),(.fn 106 [(.ptr 1 0)])] [(.arr 1 (List.map Ze m0_0)),(.cells [(.d (Ze m1_0)),(.d (Ze m1_1)),(.d (D.list t0 (List.map Zau m1_2))),(.d (D.list t1 (List.map ZI m1_3))),(.d (D.list t2 (List.map Zt m1_4))),(.d (D.list t3 (List.map ZB m1_5)))])]=some ((Zb7 t0 t1 t2 t3 b c m0_0 m1_0 m1_1 m1_2 m1_3 m1_4 m1_5) r):=by
 show ZS _ (fun r rhs=>rhs=some ((Zb7 t0 t1 t2 t3 b c m0_0 m1_0 m1_1 m1_2 m1_3 m1_4 m1_5) r)) _
 unfold ZQ
 rw[Zd4 ctx 125 ZyB _ _ rfl rfl]
 conv=>arg 3;whnf
 refine Zc _ (ZdK _) fun r27 hr27=>?_
 clear hr27
 rcases r27 with r27 | (r27 | r27)
 ·conv=>arg 3;whnf
  exact Zh rfl
 ·conv=>arg 3;whnf
  exact Zh rfl
 ·conv=>arg 3;whnf
  exact Zh rfl
def Zc6 (t0:Bool) (t1:Bool) (t2:Bool) (t3:Bool) (b:Int) (c:Int) (d:Int) (m0_0:(List Int)) (m1_0:Int) (m1_1:Int) (m1_2:(List Zaa)) (m1_3:(List Zr)) (m1_4:(List Zk)) (m1_5:(List Zv)):((Int×(List Int))⊕(Int×(List Int)))→V×Zq
  | (.inl r)=>((.d (D.tup [(Ze r.1),(D.bool true)])),[(.arr 1 (List.map Ze r.2)),(.cells [(.d (Ze m1_0)),(.d (Ze m1_1)),(.d (D.list t0 (List.map Zau m1_2))),(.d (D.list t1 (List.map ZI m1_3))),(.d (D.list t2 (List.map Zt m1_4))),(.d (D.list t3 (List.map ZB m1_5)))])])
  | (.inr r)=>((.d (D.tup [(Ze r.1),(D.bool false)])),[(.arr 1 (List.map Ze r.2)),(.cells [(.d (Ze m1_0)),(.d (Ze m1_1)),(.d (D.list t0 (List.map Zau m1_2))),(.d (D.list t1 (List.map ZI m1_3))),(.d (D.list t2 (List.map Zt m1_4))),(.d (D.list t3 (List.map ZB m1_5)))])])
def ZcN (t0:Bool) (t1:Bool) (t2:Bool) (t3:Bool) (b:Int) (c:Int) (d:Int) (m0_0:(List Int)) (m1_0:Int) (m1_1:Int) (m1_2:(List Zaa)) (m1_3:(List Zr)) (m1_4:(List Zk)) (m1_5:(List Zv)) (x0:Int) (x1:Int):Int→Ex×List V×Zq
  | r=>(.exit 0,[(.sl 0 1),(.d (Ze b)),(.fn 106 [(.ptr 1 0)]),(.d (Ze r)),(.d (Ze (w64 (c-1))))],[(.arr 1 (List.map Ze (List.set (List.set m0_0 b.toNat x0) d.toNat x1))),(.cells [(.d (Ze m1_0)),(.d (Ze m1_1)),(.d (D.list t0 (List.map Zau m1_2))),(.d (D.list t1 (List.map ZI m1_3))),(.d (D.list t2 (List.map Zt m1_4))),(.d (D.list t3 (List.map ZB m1_5)))])])
theorem Ze0 {t0:Bool}{t1:Bool}{t2:Bool}{t3:Bool}{b:Int}{c:Int}{d:Int}{m0_0:(List Int)}{m1_0:Int}{m1_1:Int}{m1_2:(List Zaa)}{m1_3:(List Zr)}{m1_4:(List Zk)}{m1_5:(List Zv)}{x0:Int}{x1:Int}:∀(s3:Int) (r:Int),lp (ZaD b c d m0_0 (fun z0 z1=>Zx z0 z1 m1_4) x0 x1) s3=some r→lpW ctx 2 [0,1,4,12,13] [0,1,4,12,13] Zv9 [(.sl 0 1),(.d (Ze b)),(.fn 106 [(.ptr 1 0)]),(.d (Ze s3)),(.d (Ze (w64 (c-1))))] [(.arr 1 (List.map Ze (List.set (List.set m0_0 b.toNat x0) d.toNat x1))),(.cells [(.d (Ze m1_0)),(.d (Ze m1_1)),(.d (D.list t0 (List.map Zau m1_2))),(.d (D.list t1 (List.map ZI m1_3))),(.d (D.list t2 (List.map Zt m1_4))),(.d (D.list t3 (List.map ZB m1_5)))])]=some ((ZcN t0 t1 t2 t3 b c d m0_0 m1_0 m1_1 m1_2 m1_3 m1_4 m1_5 x0 x1) r):=by
 refine ZaX (ZcN t0 t1 t2 t3 b c d m0_0 m1_0 m1_1 m1_2 m1_3 m1_4 m1_5 x0 x1) ?_
 intro s3 rcl ih
 show ZS _ _ (lpW _ _ _ _ _ _ _)
 unfold ZaD
 rw[ZaY]
 conv=>arg 3;whnf
 refine Zg rfl ?_ ?_<;>conv=>arg 3;whnf
 ·refine Zi rfl rfl fun x4 hx4=>?_;conv=>arg 3;whnf
  refine Zf (Zl rfl hx4) ?_;conv=>arg 3;whnf
  refine Zi rfl rfl fun x5 hx5=>?_;conv=>arg 3;whnf
  refine Zf (Zl rfl hx5) ?_;conv=>arg 3;whnf
  refine Zp _ ZO rfl fun x6 hx6=>?_;conv=>arg 3;whnf
  refine Zg rfl ?_ ?_<;>conv=>arg 3;whnf
  ·exact Zd (ih _)
  ·exact Zh rfl
 ·exact Zh rfl
def ZcK (t0:Bool) (t1:Bool) (t2:Bool) (t3:Bool) (b:Int) (d:Int) (m0_0:(List Int)) (m1_0:Int) (m1_1:Int) (m1_2:(List Zaa)) (m1_3:(List Zr)) (m1_4:(List Zk)) (m1_5:(List Zv)) (x0:Int) (x1:Int) (r7:Int):Int→Ex×List V×Zq
  | r=>(.exit 2,[(.sl 0 1),(.d (Ze b)),(.fn 106 [(.ptr 1 0)]),(.d (Ze r7)),(.d (Ze r))],[(.arr 1 (List.map Ze (List.set (List.set m0_0 b.toNat x0) d.toNat x1))),(.cells [(.d (Ze m1_0)),(.d (Ze m1_1)),(.d (D.list t0 (List.map Zau m1_2))),(.d (D.list t1 (List.map ZI m1_3))),(.d (D.list t2 (List.map Zt m1_4))),(.d (D.list t3 (List.map ZB m1_5)))])])
theorem ZeY {t0:Bool}{t1:Bool}{t2:Bool}{t3:Bool}{b:Int}{d:Int}{m0_0:(List Int)}{m1_0:Int}{m1_1:Int}{m1_2:(List Zaa)}{m1_3:(List Zr)}{m1_4:(List Zk)}{m1_5:(List Zv)}{x0:Int}{x1:Int}{r7:Int}:∀(s8:Int) (r:Int),lp (ZaB b d m0_0 (fun z0 z1=>Zx z0 z1 m1_4) x0 x1 r7) s8=some r→lpW ctx 2 [0,1,4,12,13] [0,1,4,12,13] ZvI [(.sl 0 1),(.d (Ze b)),(.fn 106 [(.ptr 1 0)]),(.d (Ze r7)),(.d (Ze s8))] [(.arr 1 (List.map Ze (List.set (List.set m0_0 b.toNat x0) d.toNat x1))),(.cells [(.d (Ze m1_0)),(.d (Ze m1_1)),(.d (D.list t0 (List.map Zau m1_2))),(.d (D.list t1 (List.map ZI m1_3))),(.d (D.list t2 (List.map Zt m1_4))),(.d (D.list t3 (List.map ZB m1_5)))])]=some ((ZcK t0 t1 t2 t3 b d m0_0 m1_0 m1_1 m1_2 m1_3 m1_4 m1_5 x0 x1 r7) r):=by
 refine ZaX (ZcK t0 t1 t2 t3 b d m0_0 m1_0 m1_1 m1_2 m1_3 m1_4 m1_5 x0 x1 r7) ?_
 intro s8 rcl ih
 show ZS _ _ (lpW _ _ _ _ _ _ _)
 unfold ZaB
 rw[ZaY]
 conv=>arg 3;whnf
 refine Zg rfl ?_ ?_<;>conv=>arg 3;whnf
 ·refine Zi rfl rfl fun x9 hx9=>?_;conv=>arg 3;whnf
  refine Zf (Zl rfl hx9) ?_;conv=>arg 3;whnf
  refine Zi rfl rfl fun x10 hx10=>?_;conv=>arg 3;whnf
  refine Zf (Zl rfl hx10) ?_;conv=>arg 3;whnf
  refine Zp _ ZO rfl fun x11 hx11=>?_;conv=>arg 3;whnf
  refine Zg rfl ?_ ?_<;>conv=>arg 3;whnf
  ·exact Zh rfl
  ·exact Zd (ih _)
 ·exact Zh rfl
def ZcH (t0:Bool) (t1:Bool) (t2:Bool) (t3:Bool) (b:Int) (m1_0:Int) (m1_1:Int) (m1_2:(List Zaa)) (m1_3:(List Zr)) (m1_4:(List Zk)) (m1_5:(List Zv)) (s19:Int×Int×(List Int)):Int→Ex×List V×Zq
  | r=>(.exit 6,[(.sl 0 1),(.d (Ze b)),(.fn 106 [(.ptr 1 0)]),(.d (Ze r)),(.d (Ze s19.2.1))],[(.arr 1 (List.map Ze s19.2.2)),(.cells [(.d (Ze m1_0)),(.d (Ze m1_1)),(.d (D.list t0 (List.map Zau m1_2))),(.d (D.list t1 (List.map ZI m1_3))),(.d (D.list t2 (List.map Zt m1_4))),(.d (D.list t3 (List.map ZB m1_5)))])])
theorem Ze2 {t0:Bool}{t1:Bool}{t2:Bool}{t3:Bool}{b:Int}{m1_0:Int}{m1_1:Int}{m1_2:(List Zaa)}{m1_3:(List Zr)}{m1_4:(List Zk)}{m1_5:(List Zv)}{s19:Int×Int×(List Int)}:∀(s20:Int) (r:Int),lp (ZaE b (fun z0 z1=>Zx z0 z1 m1_4) s19) s20=some r→lpW ctx 2 [0,1,4,12,13] [0,1,4,12,13] Zvn [(.sl 0 1),(.d (Ze b)),(.fn 106 [(.ptr 1 0)]),(.d (Ze s20)),(.d (Ze s19.2.1))] [(.arr 1 (List.map Ze s19.2.2)),(.cells [(.d (Ze m1_0)),(.d (Ze m1_1)),(.d (D.list t0 (List.map Zau m1_2))),(.d (D.list t1 (List.map ZI m1_3))),(.d (D.list t2 (List.map Zt m1_4))),(.d (D.list t3 (List.map ZB m1_5)))])]=some ((ZcH t0 t1 t2 t3 b m1_0 m1_1 m1_2 m1_3 m1_4 m1_5 s19) r):=by
 refine ZaX (ZcH t0 t1 t2 t3 b m1_0 m1_1 m1_2 m1_3 m1_4 m1_5 s19) ?_
 intro s20 rcl ih
 show ZS _ _ (lpW _ _ _ _ _ _ _)
 unfold ZaE
 rw[ZaY]
 conv=>arg 3;whnf
 refine Zg rfl ?_ ?_<;>conv=>arg 3;whnf
 ·refine Zi rfl rfl fun x21 hx21=>?_;conv=>arg 3;whnf
  refine Zf (Zl rfl hx21) ?_;conv=>arg 3;whnf
  refine Zi rfl rfl fun x22 hx22=>?_;conv=>arg 3;whnf
  refine Zf (Zl rfl hx22) ?_;conv=>arg 3;whnf
  refine Zp _ ZO rfl fun x23 hx23=>?_;conv=>arg 3;whnf
  refine Zg rfl ?_ ?_<;>conv=>arg 3;whnf
  ·exact Zd (ih _)
  ·exact Zh rfl
 ·exact Zh rfl
def ZcL (t0:Bool) (t1:Bool) (t2:Bool) (t3:Bool) (b:Int) (m1_0:Int) (m1_1:Int) (m1_2:(List Zaa)) (m1_3:(List Zr)) (m1_4:(List Zk)) (m1_5:(List Zv)) (s19:Int×Int×(List Int)) (r24:Int):Int→Ex×List V×Zq
  | r=>(.exit 8,[(.sl 0 1),(.d (Ze b)),(.fn 106 [(.ptr 1 0)]),(.d (Ze r24)),(.d (Ze r))],[(.arr 1 (List.map Ze s19.2.2)),(.cells [(.d (Ze m1_0)),(.d (Ze m1_1)),(.d (D.list t0 (List.map Zau m1_2))),(.d (D.list t1 (List.map ZI m1_3))),(.d (D.list t2 (List.map Zt m1_4))),(.d (D.list t3 (List.map ZB m1_5)))])])
theorem ZeV {t0:Bool}{t1:Bool}{t2:Bool}{t3:Bool}{b:Int}{m1_0:Int}{m1_1:Int}{m1_2:(List Zaa)}{m1_3:(List Zr)}{m1_4:(List Zk)}{m1_5:(List Zv)}{s19:Int×Int×(List Int)}{r24:Int}:∀(s25:Int) (r:Int),lp (ZaA b (fun z0 z1=>Zx z0 z1 m1_4) s19 r24) s25=some r→lpW ctx 2 [0,1,4,12,13] [0,1,4,12,13] Zvy [(.sl 0 1),(.d (Ze b)),(.fn 106 [(.ptr 1 0)]),(.d (Ze r24)),(.d (Ze s25))] [(.arr 1 (List.map Ze s19.2.2)),(.cells [(.d (Ze m1_0)),(.d (Ze m1_1)),(.d (D.list t0 (List.map Zau m1_2))),(.d (D.list t1 (List.map ZI m1_3))),(.d (D.list t2 (List.map Zt m1_4))),(.d (D.list t3 (List.map ZB m1_5)))])]=some ((ZcL t0 t1 t2 t3 b m1_0 m1_1 m1_2 m1_3 m1_4 m1_5 s19 r24) r):=by
 refine ZaX (ZcL t0 t1 t2 t3 b m1_0 m1_1 m1_2 m1_3 m1_4 m1_5 s19 r24) ?_
 intro s25 rcl ih
 show ZS _ _ (lpW _ _ _ _ _ _ _)
 unfold ZaA
 rw[ZaY]
 conv=>arg 3;whnf
 refine Zg rfl ?_ ?_<;>conv=>arg 3;whnf
 ·refine Zi rfl rfl fun x26 hx26=>?_;conv=>arg 3;whnf
  refine Zf (Zl rfl hx26) ?_;conv=>arg 3;whnf
  refine Zi rfl rfl fun x27 hx27=>?_;conv=>arg 3;whnf
  refine Zf (Zl rfl hx27) ?_;conv=>arg 3;whnf
  refine Zp _ ZO rfl fun x28 hx28=>?_;conv=>arg 3;whnf
  refine Zg rfl ?_ ?_<;>conv=>arg 3;whnf
  ·exact Zh rfl
  ·exact Zd (ih _)
 ·exact Zh rfl
def ZcJ (t0:Bool) (t1:Bool) (t2:Bool) (t3:Bool) (b:Int) (m1_0:Int) (m1_1:Int) (m1_2:(List Zaa)) (m1_3:(List Zr)) (m1_4:(List Zk)) (m1_5:(List Zv)):(Int×(List Int))→Ex×List V×Zq
  | r=>(.exit 4,[(.sl 0 1),(.d (Ze b)),(.d (Ze r.1))],[(.arr 1 (List.map Ze r.2)),(.cells [(.d (Ze m1_0)),(.d (Ze m1_1)),(.d (D.list t0 (List.map Zau m1_2))),(.d (D.list t1 (List.map ZI m1_3))),(.d (D.list t2 (List.map Zt m1_4))),(.d (D.list t3 (List.map ZB m1_5)))])])
theorem Ze1 {t0:Bool}{t1:Bool}{t2:Bool}{t3:Bool}{b:Int}{m1_0:Int}{m1_1:Int}{m1_2:(List Zaa)}{m1_3:(List Zr)}{m1_4:(List Zk)}{m1_5:(List Zv)}:∀(s19:Int×Int×(List Int)) (r:(Int×(List Int))),lp (Za3 b (fun z0 z1=>Zx z0 z1 m1_4)) s19=some r→lpW ctx 2 [0,1,4,12,13] [0,1,13] Zv3 [(.sl 0 1),(.d (Ze b)),(.fn 106 [(.ptr 1 0)]),(.d (Ze s19.1)),(.d (Ze s19.2.1))] [(.arr 1 (List.map Ze s19.2.2)),(.cells [(.d (Ze m1_0)),(.d (Ze m1_1)),(.d (D.list t0 (List.map Zau m1_2))),(.d (D.list t1 (List.map ZI m1_3))),(.d (D.list t2 (List.map Zt m1_4))),(.d (D.list t3 (List.map ZB m1_5)))])]=some ((ZcJ t0 t1 t2 t3 b m1_0 m1_1 m1_2 m1_3 m1_4 m1_5) r):=by
 refine ZaX (ZcJ t0 t1 t2 t3 b m1_0 m1_1 m1_2 m1_3 m1_4 m1_5) ?_
 intro s19 rcl ih
 show ZS _ _ (lpW _ _ _ _ _ _ _)
 unfold Za3
 rw[ZaY]
 conv=>arg 3;whnf
 refine Zc _ (Ze2 _) fun r24 hr24=>?_;conv=>arg 3;whnf
 refine Zc _ (ZeV _) fun r29 hr29=>?_;conv=>arg 3;whnf
 refine Zg rfl ?_ ?_<;>conv=>arg 3;whnf
 ·exact Zh rfl
 ·refine Zi rfl rfl fun x30 hx30=>?_;conv=>arg 3;whnf
  refine Zf (Zl rfl hx30) ?_;conv=>arg 3;whnf
  refine Zi rfl rfl fun x31 hx31=>?_;conv=>arg 3;whnf
  refine Zf (Zl rfl hx31) ?_;conv=>arg 3;whnf
  refine Zf (ZaG rfl hx31) ?_;conv=>arg 3;whnf
  refine Zf (Zl rfl hx31) ?_;conv=>arg 3;whnf
  refine Zn (Z1 Ze s19.2.2 r24.toNat x30) ?_;conv=>arg 3;whnf
  refine Zi rfl rfl fun x32 hx32=>?_;conv=>arg 3;whnf
  refine Zf (Zl rfl hx32) ?_;conv=>arg 3;whnf
  refine Zn (Z1 Ze (List.set s19.2.2 r24.toNat x30) r29.toNat x31) ?_;conv=>arg 3;whnf
  exact Zd (ih _)
theorem Zo {t0:Bool}{t1:Bool}{t2:Bool}{t3:Bool}{b:Int}{c:Int}{d:Int}{m0_0:(List Int)}{m1_0:Int}{m1_1:Int}{m1_2:(List Zaa)}{m1_3:(List Zr)}{m1_4:(List Zk)}{m1_5:(List Zv)}:∀r,(Zs b c d (fun z0 z1=>Zx z0 z1 m1_4) m0_0)=some r→evW ctx 127 [(.sl 0 1),(.d (Ze b)),(.d (Ze c)),(.d (Ze d)),(.fn 106 [(.ptr 1 0)])] [(.arr 1 (List.map Ze m0_0)),(.cells [(.d (Ze m1_0)),(.d (Ze m1_1)),(.d (D.list t0 (List.map Zau m1_2))),(.d (D.list t1 (List.map ZI m1_3))),(.d (D.list t2 (List.map Zt m1_4))),(.d (D.list t3 (List.map ZB m1_5)))])]=some ((Zc6 t0 t1 t2 t3 b c d m0_0 m1_0 m1_1 m1_2 m1_3 m1_4 m1_5) r):=by
 show ZS _ (fun r rhs=>rhs=some ((Zc6 t0 t1 t2 t3 b c d m0_0 m1_0 m1_1 m1_2 m1_3 m1_4 m1_5) r)) _
 unfold Zs
 rw[Zd4 ctx 127 ZyZ _ _ rfl rfl]
 conv=>arg 3;whnf
 refine Zi rfl rfl fun x0 hx0=>?_;conv=>arg 3;whnf
 refine Zf (Zl rfl hx0) ?_;conv=>arg 3;whnf
 refine Zi rfl rfl fun x1 hx1=>?_;conv=>arg 3;whnf
 refine Zf (Zl rfl hx1) ?_;conv=>arg 3;whnf
 refine Zf (ZaG rfl hx1) ?_;conv=>arg 3;whnf
 refine Zf (Zl rfl hx1) ?_;conv=>arg 3;whnf
 refine Zn (Z1 Ze m0_0 b.toNat x0) ?_;conv=>arg 3;whnf
 refine Zi rfl rfl fun x2 hx2=>?_;conv=>arg 3;whnf
 refine Zf (Zl rfl hx2) ?_;conv=>arg 3;whnf
 refine Zn (Z1 Ze (List.set m0_0 b.toNat x0) d.toNat x1) ?_;conv=>arg 3;whnf
 refine Zc _ (Ze0 _) fun r7 hr7=>?_;conv=>arg 3;whnf
 refine Zc _ (ZeY _) fun r12 hr12=>?_;conv=>arg 3;whnf
 refine Zg rfl ?_ ?_<;>conv=>arg 3;whnf
 ·refine Zi rfl rfl fun x13 hx13=>?_;conv=>arg 3;whnf
  refine Zf (Zl rfl hx13) ?_;conv=>arg 3;whnf
  refine Zi rfl rfl fun x14 hx14=>?_;conv=>arg 3;whnf
  refine Zf (Zl rfl hx14) ?_;conv=>arg 3;whnf
  refine Zf (ZaG rfl hx14) ?_;conv=>arg 3;whnf
  refine Zf (Zl rfl hx14) ?_;conv=>arg 3;whnf
  refine Zn (Z1 Ze (List.set (List.set m0_0 b.toNat x0) d.toNat x1) r12.toNat x13) ?_;conv=>arg 3;whnf
  refine Zi rfl rfl fun x15 hx15=>?_;conv=>arg 3;whnf
  refine Zf (Zl rfl hx15) ?_;conv=>arg 3;whnf
  refine Zn (Z1 Ze (List.set (List.set (List.set m0_0 b.toNat x0) d.toNat x1) r12.toNat x13) b.toNat x14) ?_;conv=>arg 3;whnf
  exact Zh rfl
 ·refine Zi rfl rfl fun x16 hx16=>?_;conv=>arg 3;whnf
  refine Zf (Zl rfl hx16) ?_;conv=>arg 3;whnf
  refine Zi rfl rfl fun x17 hx17=>?_;conv=>arg 3;whnf
  refine Zf (Zl rfl hx17) ?_;conv=>arg 3;whnf
  refine Zf (ZaG rfl hx17) ?_;conv=>arg 3;whnf
  refine Zf (Zl rfl hx17) ?_;conv=>arg 3;whnf
  refine Zn (Z1 Ze (List.set (List.set m0_0 b.toNat x0) d.toNat x1) r7.toNat x16) ?_;conv=>arg 3;whnf
  refine Zi rfl rfl fun x18 hx18=>?_;conv=>arg 3;whnf
  refine Zf (Zl rfl hx18) ?_;conv=>arg 3;whnf
  refine Zn (Z1 Ze (List.set (List.set (List.set m0_0 b.toNat x0) d.toNat x1) r7.toNat x16) r12.toNat x17) ?_;conv=>arg 3;whnf
  refine Zc _ (Ze1 _) fun r33 hr33=>?_;conv=>arg 3;whnf
  refine Zi rfl rfl fun x34 hx34=>?_;conv=>arg 3;whnf
  refine Zf (Zl rfl hx34) ?_;conv=>arg 3;whnf
  refine Zi rfl rfl fun x35 hx35=>?_;conv=>arg 3;whnf
  refine Zf (Zl rfl hx35) ?_;conv=>arg 3;whnf
  refine Zf (ZaG rfl hx35) ?_;conv=>arg 3;whnf
  refine Zf (Zl rfl hx35) ?_;conv=>arg 3;whnf
  refine Zn (Z1 Ze r33.2 r33.1.toNat x34) ?_;conv=>arg 3;whnf
  refine Zi rfl rfl fun x36 hx36=>?_;conv=>arg 3;whnf
  refine Zf (Zl rfl hx36) ?_;conv=>arg 3;whnf
  refine Zn (Z1 Ze (List.set r33.2 r33.1.toNat x34) b.toNat x35) ?_;conv=>arg 3;whnf
  exact Zh rfl
def Zcx (t0:Bool) (t1:Bool) (t2:Bool) (t3:Bool) (b:Int) (c:Int) (d:Int) (m0_0:(List Int)) (m1_0:Int) (m1_1:Int) (m1_2:(List Zaa)) (m1_3:(List Zr)) (m1_4:(List Zk)) (m1_5:(List Zv)):(Int×(List Int))→V×Zq
  | r=>((.d (Ze r.1)),[(.arr 1 (List.map Ze r.2)),(.cells [(.d (Ze m1_0)),(.d (Ze m1_1)),(.d (D.list t0 (List.map Zau m1_2))),(.d (D.list t1 (List.map ZI m1_3))),(.d (D.list t2 (List.map Zt m1_4))),(.d (D.list t3 (List.map ZB m1_5)))])])
def Zci (t0:Bool) (t1:Bool) (t2:Bool) (t3:Bool) (b:Int) (m1_0:Int) (m1_1:Int) (m1_2:(List Zaa)) (m1_3:(List Zr)) (m1_4:(List Zk)) (m1_5:(List Zv)) (s3:Int×Int×(List Int)):Int→Ex×List V×Zq
  | r=>(.exit 2,[(.sl 0 1),(.d (Ze b)),(.fn 106 [(.ptr 1 0)]),(.d (Ze r)),(.d (Ze s3.2.1))],[(.arr 1 (List.map Ze s3.2.2)),(.cells [(.d (Ze m1_0)),(.d (Ze m1_1)),(.d (D.list t0 (List.map Zau m1_2))),(.d (D.list t1 (List.map ZI m1_3))),(.d (D.list t2 (List.map Zt m1_4))),(.d (D.list t3 (List.map ZB m1_5)))])])
theorem Zec {t0:Bool}{t1:Bool}{t2:Bool}{t3:Bool}{b:Int}{m1_0:Int}{m1_1:Int}{m1_2:(List Zaa)}{m1_3:(List Zr)}{m1_4:(List Zk)}{m1_5:(List Zv)}{s3:Int×Int×(List Int)}:∀(s4:Int) (r:Int),lp (Zag b (fun z0 z1=>Zx z0 z1 m1_4) s3) s4=some r→lpW ctx 2 [0,1,4,11,12] [0,1,4,11,12] ZvB [(.sl 0 1),(.d (Ze b)),(.fn 106 [(.ptr 1 0)]),(.d (Ze s4)),(.d (Ze s3.2.1))] [(.arr 1 (List.map Ze s3.2.2)),(.cells [(.d (Ze m1_0)),(.d (Ze m1_1)),(.d (D.list t0 (List.map Zau m1_2))),(.d (D.list t1 (List.map ZI m1_3))),(.d (D.list t2 (List.map Zt m1_4))),(.d (D.list t3 (List.map ZB m1_5)))])]=some ((Zci t0 t1 t2 t3 b m1_0 m1_1 m1_2 m1_3 m1_4 m1_5 s3) r):=by
 refine ZaX (Zci t0 t1 t2 t3 b m1_0 m1_1 m1_2 m1_3 m1_4 m1_5 s3) ?_
 intro s4 rcl ih
 show ZS _ _ (lpW _ _ _ _ _ _ _)
 unfold Zag
 rw[ZaY]
 conv=>arg 3;whnf
 refine Zg rfl ?_ ?_<;>conv=>arg 3;whnf
 ·refine Zi rfl rfl fun x5 hx5=>?_;conv=>arg 3;whnf
  refine Zf (Zl rfl hx5) ?_;conv=>arg 3;whnf
  refine Zi rfl rfl fun x6 hx6=>?_;conv=>arg 3;whnf
  refine Zf (Zl rfl hx6) ?_;conv=>arg 3;whnf
  refine Zp _ ZO rfl fun x7 hx7=>?_;conv=>arg 3;whnf
  refine Zg rfl ?_ ?_<;>conv=>arg 3;whnf
  ·exact Zh rfl
  ·exact Zd (ih _)
 ·exact Zh rfl
def Zcj (t0:Bool) (t1:Bool) (t2:Bool) (t3:Bool) (b:Int) (m1_0:Int) (m1_1:Int) (m1_2:(List Zaa)) (m1_3:(List Zr)) (m1_4:(List Zk)) (m1_5:(List Zv)) (s3:Int×Int×(List Int)) (r8:Int):Int→Ex×List V×Zq
  | r=>(.exit 4,[(.sl 0 1),(.d (Ze b)),(.fn 106 [(.ptr 1 0)]),(.d (Ze r8)),(.d (Ze r))],[(.arr 1 (List.map Ze s3.2.2)),(.cells [(.d (Ze m1_0)),(.d (Ze m1_1)),(.d (D.list t0 (List.map Zau m1_2))),(.d (D.list t1 (List.map ZI m1_3))),(.d (D.list t2 (List.map Zt m1_4))),(.d (D.list t3 (List.map ZB m1_5)))])])
theorem Zel {t0:Bool}{t1:Bool}{t2:Bool}{t3:Bool}{b:Int}{m1_0:Int}{m1_1:Int}{m1_2:(List Zaa)}{m1_3:(List Zr)}{m1_4:(List Zk)}{m1_5:(List Zv)}{s3:Int×Int×(List Int)}{r8:Int}:∀(s9:Int) (r:Int),lp (Zah b (fun z0 z1=>Zx z0 z1 m1_4) s3 r8) s9=some r→lpW ctx 2 [0,1,4,11,12] [0,1,4,11,12] Zvw [(.sl 0 1),(.d (Ze b)),(.fn 106 [(.ptr 1 0)]),(.d (Ze r8)),(.d (Ze s9))] [(.arr 1 (List.map Ze s3.2.2)),(.cells [(.d (Ze m1_0)),(.d (Ze m1_1)),(.d (D.list t0 (List.map Zau m1_2))),(.d (D.list t1 (List.map ZI m1_3))),(.d (D.list t2 (List.map Zt m1_4))),(.d (D.list t3 (List.map ZB m1_5)))])]=some ((Zcj t0 t1 t2 t3 b m1_0 m1_1 m1_2 m1_3 m1_4 m1_5 s3 r8) r):=by
 refine ZaX (Zcj t0 t1 t2 t3 b m1_0 m1_1 m1_2 m1_3 m1_4 m1_5 s3 r8) ?_
 intro s9 rcl ih
 show ZS _ _ (lpW _ _ _ _ _ _ _)
 unfold Zah
 rw[ZaY]
 conv=>arg 3;whnf
 refine Zg rfl ?_ ?_<;>conv=>arg 3;whnf
 ·refine Zi rfl rfl fun x10 hx10=>?_;conv=>arg 3;whnf
  refine Zf (Zl rfl hx10) ?_;conv=>arg 3;whnf
  refine Zi rfl rfl fun x11 hx11=>?_;conv=>arg 3;whnf
  refine Zf (Zl rfl hx11) ?_;conv=>arg 3;whnf
  refine Zp _ ZO rfl fun x12 hx12=>?_;conv=>arg 3;whnf
  refine Zg rfl ?_ ?_<;>conv=>arg 3;whnf
  ·exact Zd (ih _)
  ·exact Zh rfl
 ·exact Zh rfl
def Zch (t0:Bool) (t1:Bool) (t2:Bool) (t3:Bool) (b:Int) (m1_0:Int) (m1_1:Int) (m1_2:(List Zaa)) (m1_3:(List Zr)) (m1_4:(List Zk)) (m1_5:(List Zv)):(Int×(List Int))→Ex×List V×Zq
  | r=>(.exit 0,[(.d (Ze r.1))],[(.arr 1 (List.map Ze r.2)),(.cells [(.d (Ze m1_0)),(.d (Ze m1_1)),(.d (D.list t0 (List.map Zau m1_2))),(.d (D.list t1 (List.map ZI m1_3))),(.d (D.list t2 (List.map Zt m1_4))),(.d (D.list t3 (List.map ZB m1_5)))])])
theorem Zeg {t0:Bool}{t1:Bool}{t2:Bool}{t3:Bool}{b:Int}{m1_0:Int}{m1_1:Int}{m1_2:(List Zaa)}{m1_3:(List Zr)}{m1_4:(List Zk)}{m1_5:(List Zv)}:∀(s3:Int×Int×(List Int)) (r:(Int×(List Int))),lp (Zas b (fun z0 z1=>Zx z0 z1 m1_4)) s3=some r→lpW ctx 2 [0,1,4,11,12] [11] ZwB [(.sl 0 1),(.d (Ze b)),(.fn 106 [(.ptr 1 0)]),(.d (Ze s3.1)),(.d (Ze s3.2.1))] [(.arr 1 (List.map Ze s3.2.2)),(.cells [(.d (Ze m1_0)),(.d (Ze m1_1)),(.d (D.list t0 (List.map Zau m1_2))),(.d (D.list t1 (List.map ZI m1_3))),(.d (D.list t2 (List.map Zt m1_4))),(.d (D.list t3 (List.map ZB m1_5)))])]=some ((Zch t0 t1 t2 t3 b m1_0 m1_1 m1_2 m1_3 m1_4 m1_5) r):=by
 refine ZaX (Zch t0 t1 t2 t3 b m1_0 m1_1 m1_2 m1_3 m1_4 m1_5) ?_
 intro s3 rcl ih
 show ZS _ _ (lpW _ _ _ _ _ _ _)
 unfold Zas
 rw[ZaY]
 conv=>arg 3;whnf
 refine Zc _ (Zec _) fun r8 hr8=>?_;conv=>arg 3;whnf
 refine Zc _ (Zel _) fun r13 hr13=>?_;conv=>arg 3;whnf
 refine Zg rfl ?_ ?_<;>conv=>arg 3;whnf
 ·exact Zh rfl
 ·refine Zi rfl rfl fun x14 hx14=>?_;conv=>arg 3;whnf
  refine Zf (Zl rfl hx14) ?_;conv=>arg 3;whnf
  refine Zi rfl rfl fun x15 hx15=>?_;conv=>arg 3;whnf
  refine Zf (Zl rfl hx15) ?_;conv=>arg 3;whnf
  refine Zf (ZaG rfl hx15) ?_;conv=>arg 3;whnf
  refine Zf (Zl rfl hx15) ?_;conv=>arg 3;whnf
  refine Zn (Z1 Ze s3.2.2 r8.toNat x14) ?_;conv=>arg 3;whnf
  refine Zi rfl rfl fun x16 hx16=>?_;conv=>arg 3;whnf
  refine Zf (Zl rfl hx16) ?_;conv=>arg 3;whnf
  refine Zn (Z1 Ze (List.set s3.2.2 r8.toNat x14) r13.toNat x15) ?_;conv=>arg 3;whnf
  exact Zd (ih _)
theorem ZE {t0:Bool}{t1:Bool}{t2:Bool}{t3:Bool}{b:Int}{c:Int}{d:Int}{m0_0:(List Int)}{m1_0:Int}{m1_1:Int}{m1_2:(List Zaa)}{m1_3:(List Zr)}{m1_4:(List Zk)}{m1_5:(List Zv)}:∀r,(ZD b c d (fun z0 z1=>Zx z0 z1 m1_4) m0_0)=some r→evW ctx 126 [(.sl 0 1),(.d (Ze b)),(.d (Ze c)),(.d (Ze d)),(.fn 106 [(.ptr 1 0)])] [(.arr 1 (List.map Ze m0_0)),(.cells [(.d (Ze m1_0)),(.d (Ze m1_1)),(.d (D.list t0 (List.map Zau m1_2))),(.d (D.list t1 (List.map ZI m1_3))),(.d (D.list t2 (List.map Zt m1_4))),(.d (D.list t3 (List.map ZB m1_5)))])]=some ((Zcx t0 t1 t2 t3 b c d m0_0 m1_0 m1_1 m1_2 m1_3 m1_4 m1_5) r):=by
 show ZS _ (fun r rhs=>rhs=some ((Zcx t0 t1 t2 t3 b c d m0_0 m1_0 m1_1 m1_2 m1_3 m1_4 m1_5) r)) _
 unfold ZD
 rw[Zd4 ctx 126 ZyW _ _ rfl rfl]
 conv=>arg 3;whnf
 refine Zi rfl rfl fun x0 hx0=>?_;conv=>arg 3;whnf
 refine Zf (Zl rfl hx0) ?_;conv=>arg 3;whnf
 refine Zi rfl rfl fun x1 hx1=>?_;conv=>arg 3;whnf
 refine Zf (Zl rfl hx1) ?_;conv=>arg 3;whnf
 refine Zf (ZaG rfl hx1) ?_;conv=>arg 3;whnf
 refine Zf (Zl rfl hx1) ?_;conv=>arg 3;whnf
 refine Zn (Z1 Ze m0_0 b.toNat x0) ?_;conv=>arg 3;whnf
 refine Zi rfl rfl fun x2 hx2=>?_;conv=>arg 3;whnf
 refine Zf (Zl rfl hx2) ?_;conv=>arg 3;whnf
 refine Zn (Z1 Ze (List.set m0_0 b.toNat x0) d.toNat x1) ?_;conv=>arg 3;whnf
 refine Zc _ (Zeg _) fun r17 hr17=>?_;conv=>arg 3;whnf
 exact Zh rfl
def Zhl (r:Int):D:=(D.int .u64 r)
theorem ZgZ {a:Int}:∀r,(ZcB a)=some r→evD ctx 140 [(.d (Ze a))]=some (Zhl r):=by
 show ZS _ (fun r rhs=>rhs=some (Zhl r)) _
 unfold ZcB
 rw[ZbV ctx 140 Zy2 _ rfl rfl]
 conv=>arg 3;whnf
 refine Zp _ ZhS rfl fun x0 hx0=>?_;conv=>arg 3;whnf
 refine Zg rfl ?_ ?_
 ·exact ZaN
 ·conv=>arg 3;whnf
  exact Zh rfl
def Zht (m0_0:Int):Unit→V×Zq
  | r=>((.d (D.int .u64 (IntKind.u64.wrap (BitVec.ofInt IntKind.u64.bits (IntKind.u64.wrap (BitVec.ofInt IntKind.u64.bits (IntKind.u64.wrap (BitVec.ofInt IntKind.u64.bits m0_0 ^^^ BitVec.ofInt IntKind.u64.bits (IntKind.u64.wrap (m0_0*2 ^ 13))).toNat) ^^^ BitVec.ofInt IntKind.u64.bits (Int.fdiv (IntKind.u64.wrap (BitVec.ofInt IntKind.u64.bits m0_0 ^^^ BitVec.ofInt IntKind.u64.bits (IntKind.u64.wrap (m0_0*2 ^ 13))).toNat) (2 ^ 7))).toNat) ^^^ BitVec.ofInt IntKind.u64.bits (IntKind.u64.wrap ((IntKind.u64.wrap (BitVec.ofInt IntKind.u64.bits (IntKind.u64.wrap (BitVec.ofInt IntKind.u64.bits m0_0 ^^^ BitVec.ofInt IntKind.u64.bits (IntKind.u64.wrap (m0_0*2 ^ 13))).toNat) ^^^ BitVec.ofInt IntKind.u64.bits (Int.fdiv (IntKind.u64.wrap (BitVec.ofInt IntKind.u64.bits m0_0 ^^^ BitVec.ofInt IntKind.u64.bits (IntKind.u64.wrap (m0_0*2 ^ 13))).toNat) (2 ^ 7))).toNat)*2 ^ 17))).toNat))),[(.cells [(.d (D.int .u64 (IntKind.u64.wrap (BitVec.ofInt IntKind.u64.bits (IntKind.u64.wrap (BitVec.ofInt IntKind.u64.bits (IntKind.u64.wrap (BitVec.ofInt IntKind.u64.bits m0_0 ^^^ BitVec.ofInt IntKind.u64.bits (IntKind.u64.wrap (m0_0*2 ^ 13))).toNat) ^^^ BitVec.ofInt IntKind.u64.bits (Int.fdiv (IntKind.u64.wrap (BitVec.ofInt IntKind.u64.bits m0_0 ^^^ BitVec.ofInt IntKind.u64.bits (IntKind.u64.wrap (m0_0*2 ^ 13))).toNat) (2 ^ 7))).toNat) ^^^ BitVec.ofInt IntKind.u64.bits (IntKind.u64.wrap ((IntKind.u64.wrap (BitVec.ofInt IntKind.u64.bits (IntKind.u64.wrap (BitVec.ofInt IntKind.u64.bits m0_0 ^^^ BitVec.ofInt IntKind.u64.bits (IntKind.u64.wrap (m0_0*2 ^ 13))).toNat) ^^^ BitVec.ofInt IntKind.u64.bits (Int.fdiv (IntKind.u64.wrap (BitVec.ofInt IntKind.u64.bits m0_0 ^^^ BitVec.ofInt IntKind.u64.bits (IntKind.u64.wrap (m0_0*2 ^ 13))).toNat) (2 ^ 7))).toNat)*2 ^ 17))).toNat)))])])
theorem Zho {m0_0:Int}:∀r,ZdG=some r→evW ctx 141 [(.ptr 0 0)] [(.cells [(.d (D.int .u64 m0_0))])]=some ((Zht m0_0) r):=by
 show ZS _ (fun r rhs=>rhs=some ((Zht m0_0) r)) _
 unfold ZdG
 rw[Zd4 ctx 141 ZyM _ _ rfl rfl]
 conv=>arg 3;whnf
 refine ZR rfl ?_;conv=>arg 3;whnf
 refine ZR rfl ?_;conv=>arg 3;whnf
 refine ZR rfl ?_;conv=>arg 3;whnf
 exact Zh rfl
def ZcA (t0:Bool) (t1:Bool) (t2:Bool) (t3:Bool) (b:Int) (c:Int) (m0_0:(List Int)) (m1_0:Int) (m1_1:Int) (m1_2:(List Zaa)) (m1_3:(List Zr)) (m1_4:(List Zk)) (m1_5:(List Zv)):(List Int)→V×Zq
  | r=>((.d (D.tup [])),[(.arr 1 (List.map Ze r)),(.cells [(.d (Ze m1_0)),(.d (Ze m1_1)),(.d (D.list t0 (List.map Zau m1_2))),(.d (D.list t1 (List.map ZI m1_3))),(.d (D.list t2 (List.map Zt m1_4))),(.d (D.list t3 (List.map ZB m1_5)))])])
def Zcl (t0:Bool) (t1:Bool) (t2:Bool) (t3:Bool) (b:Int) (c:Int) (m1_0:Int) (m1_1:Int) (m1_2:(List Zaa)) (m1_3:(List Zr)) (m1_4:(List Zk)) (m1_5:(List Zv)) (x0:Int):(List Int)→Ex×List V×Zq
  | r=>(.exit 0,[],[(.arr 1 (List.map Ze r)),(.cells [(.d (Ze m1_0)),(.d (Ze m1_1)),(.d (D.list t0 (List.map Zau m1_2))),(.d (D.list t1 (List.map ZI m1_3))),(.d (D.list t2 (List.map Zt m1_4))),(.d (D.list t3 (List.map ZB m1_5)))])])
theorem Zep {t0:Bool}{t1:Bool}{t2:Bool}{t3:Bool}{b:Int}{c:Int}{m1_0:Int}{m1_1:Int}{m1_2:(List Zaa)}{m1_3:(List Zr)}{m1_4:(List Zk)}{m1_5:(List Zv)}{x0:Int}:∀(s1:Int×(List Int)×Int) (r:(List Int)),lp (Zaz b c x0) s1=some r→lpW ctx 2 [0,1,8,9,10,11] [] Zwo [(.sl 0 1),(.d (Ze b)),(.d (Ze (w64 (c-b)))),(.ptr 2 0),(.d (D.int .u64 x0)),(.d (Ze s1.1))] [(.arr 1 (List.map Ze s1.2.1)),(.cells [(.d (Ze m1_0)),(.d (Ze m1_1)),(.d (D.list t0 (List.map Zau m1_2))),(.d (D.list t1 (List.map ZI m1_3))),(.d (D.list t2 (List.map Zt m1_4))),(.d (D.list t3 (List.map ZB m1_5)))]),(.cells [(.d (D.int .u64 s1.2.2))])]=some ((Zcl t0 t1 t2 t3 b c m1_0 m1_1 m1_2 m1_3 m1_4 m1_5 x0) r):=by
 refine ZaX (Zcl t0 t1 t2 t3 b c m1_0 m1_1 m1_2 m1_3 m1_4 m1_5 x0) ?_
 intro s1 rcl ih
 show ZS _ _ (lpW _ _ _ _ _ _ _)
 unfold Zaz
 rw[ZaY]
 conv=>arg 3;whnf
 refine ZR rfl ?_;conv=>arg 3;whnf
 refine Zg rfl ?_ ?_<;>conv=>arg 3;whnf
 ·refine Zc _ Zho fun x2 hx2=>?_;conv=>arg 3;whnf
  refine Zg rfl ?_ ?_<;>conv=>arg 3;whnf
  ·refine Zi rfl rfl fun x3 hx3=>?_;conv=>arg 3;whnf
   refine Zf (Zl rfl hx3) ?_;conv=>arg 3;whnf
   refine Zi rfl rfl fun x4 hx4=>?_;conv=>arg 3;whnf
   refine Zf (Zl rfl hx4) ?_;conv=>arg 3;whnf
   refine Zf (ZaG rfl hx4) ?_;conv=>arg 3;whnf
   refine Zf (Zl rfl hx4) ?_;conv=>arg 3;whnf
   refine Zn (Z1 Ze s1.2.1 s1.1.toNat x3) ?_;conv=>arg 3;whnf
   refine Zi rfl rfl fun x5 hx5=>?_;conv=>arg 3;whnf
   refine Zf (Zl rfl hx5) ?_;conv=>arg 3;whnf
   refine Zn (Z1 Ze (List.set s1.2.1 s1.1.toNat x3) (w64 (b+(w64 ((w64 (IntKind.u64.wrap (BitVec.ofInt IntKind.u64.bits (IntKind.u64.wrap (BitVec.ofInt IntKind.u64.bits (IntKind.u64.wrap (BitVec.ofInt IntKind.u64.bits (IntKind.u64.wrap (BitVec.ofInt IntKind.u64.bits s1.2.2 ^^^ BitVec.ofInt IntKind.u64.bits (IntKind.u64.wrap (s1.2.2*2 ^ 13))).toNat) ^^^ BitVec.ofInt IntKind.u64.bits (Int.fdiv (IntKind.u64.wrap (BitVec.ofInt IntKind.u64.bits s1.2.2 ^^^ BitVec.ofInt IntKind.u64.bits (IntKind.u64.wrap (s1.2.2*2 ^ 13))).toNat) (2 ^ 7))).toNat) ^^^ BitVec.ofInt IntKind.u64.bits (IntKind.u64.wrap ((IntKind.u64.wrap (BitVec.ofInt IntKind.u64.bits (IntKind.u64.wrap (BitVec.ofInt IntKind.u64.bits s1.2.2 ^^^ BitVec.ofInt IntKind.u64.bits (IntKind.u64.wrap (s1.2.2*2 ^ 13))).toNat) ^^^ BitVec.ofInt IntKind.u64.bits (Int.fdiv (IntKind.u64.wrap (BitVec.ofInt IntKind.u64.bits s1.2.2 ^^^ BitVec.ofInt IntKind.u64.bits (IntKind.u64.wrap (s1.2.2*2 ^ 13))).toNat) (2 ^ 7))).toNat)*2 ^ 17))).toNat) &&& BitVec.ofInt IntKind.u64.bits (IntKind.u64.wrap (x0-1))).toNat))-(w64 (c-b)))))).toNat x4) ?_;conv=>arg 3;whnf
   exact Zd (ih _)
  ·refine Zi rfl rfl fun x6 hx6=>?_;conv=>arg 3;whnf
   refine Zf (Zl rfl hx6) ?_;conv=>arg 3;whnf
   refine Zi rfl rfl fun x7 hx7=>?_;conv=>arg 3;whnf
   refine Zf (Zl rfl hx7) ?_;conv=>arg 3;whnf
   refine Zf (ZaG rfl hx7) ?_;conv=>arg 3;whnf
   refine Zf (Zl rfl hx7) ?_;conv=>arg 3;whnf
   refine Zn (Z1 Ze s1.2.1 s1.1.toNat x6) ?_;conv=>arg 3;whnf
   refine Zi rfl rfl fun x8 hx8=>?_;conv=>arg 3;whnf
   refine Zf (Zl rfl hx8) ?_;conv=>arg 3;whnf
   refine Zn (Z1 Ze (List.set s1.2.1 s1.1.toNat x6) (w64 (b+(w64 (IntKind.u64.wrap (BitVec.ofInt IntKind.u64.bits (IntKind.u64.wrap (BitVec.ofInt IntKind.u64.bits (IntKind.u64.wrap (BitVec.ofInt IntKind.u64.bits (IntKind.u64.wrap (BitVec.ofInt IntKind.u64.bits s1.2.2 ^^^ BitVec.ofInt IntKind.u64.bits (IntKind.u64.wrap (s1.2.2*2 ^ 13))).toNat) ^^^ BitVec.ofInt IntKind.u64.bits (Int.fdiv (IntKind.u64.wrap (BitVec.ofInt IntKind.u64.bits s1.2.2 ^^^ BitVec.ofInt IntKind.u64.bits (IntKind.u64.wrap (s1.2.2*2 ^ 13))).toNat) (2 ^ 7))).toNat) ^^^ BitVec.ofInt IntKind.u64.bits (IntKind.u64.wrap ((IntKind.u64.wrap (BitVec.ofInt IntKind.u64.bits (IntKind.u64.wrap (BitVec.ofInt IntKind.u64.bits s1.2.2 ^^^ BitVec.ofInt IntKind.u64.bits (IntKind.u64.wrap (s1.2.2*2 ^ 13))).toNat) ^^^ BitVec.ofInt IntKind.u64.bits (Int.fdiv (IntKind.u64.wrap (BitVec.ofInt IntKind.u64.bits s1.2.2 ^^^ BitVec.ofInt IntKind.u64.bits (IntKind.u64.wrap (s1.2.2*2 ^ 13))).toNat) (2 ^ 7))).toNat)*2 ^ 17))).toNat) &&& BitVec.ofInt IntKind.u64.bits (IntKind.u64.wrap (x0-1))).toNat)))).toNat x7) ?_;conv=>arg 3;whnf
   exact Zd (ih _)
 ·exact Zh rfl
theorem Zcy {t0:Bool}{t1:Bool}{t2:Bool}{t3:Bool}{b:Int}{c:Int}{m0_0:(List Int)}{m1_0:Int}{m1_1:Int}{m1_2:(List Zaa)}{m1_3:(List Zr)}{m1_4:(List Zk)}{m1_5:(List Zv)}:∀r,(Zaj b c (fun z0 z1=>Zx z0 z1 m1_4) m0_0)=some r→evW ctx 122 [(.sl 0 1),(.d (Ze b)),(.d (Ze c)),(.fn 106 [(.ptr 1 0)])] [(.arr 1 (List.map Ze m0_0)),(.cells [(.d (Ze m1_0)),(.d (Ze m1_1)),(.d (D.list t0 (List.map Zau m1_2))),(.d (D.list t1 (List.map ZI m1_3))),(.d (D.list t2 (List.map Zt m1_4))),(.d (D.list t3 (List.map ZB m1_5)))])]=some ((ZcA t0 t1 t2 t3 b c m0_0 m1_0 m1_1 m1_2 m1_3 m1_4 m1_5) r):=by
 show ZS _ (fun r rhs=>rhs=some ((ZcA t0 t1 t2 t3 b c m0_0 m1_0 m1_1 m1_2 m1_3 m1_4 m1_5) r)) _
 unfold Zaj
 rw[Zd4 ctx 122 Zxx _ _ rfl rfl]
 conv=>arg 3;whnf
 refine Zg rfl ?_ ?_<;>conv=>arg 3;whnf
 ·refine Zp _ ZgZ rfl fun x0 hx0=>?_;conv=>arg 3;whnf
  refine ZR rfl ?_;conv=>arg 3;whnf
  refine Zc _ (Zep _) fun r9 hr9=>?_;conv=>arg 3;whnf
  exact Zh rfl
 ·exact Zh rfl
def Za (t0:Bool) (t1:Bool) (t2:Bool) (t3:Bool) (b:Int) (c:Int) (d:Int) (m0_0:(List Int)) (m1_0:Int) (m1_1:Int) (m1_2:(List Zaa)) (m1_3:(List Zr)) (m1_4:(List Zk)) (m1_5:(List Zv)):(List Int)→V×Zq
  | r=>((.d (D.tup [])),[(.arr 1 (List.map Ze r)),(.cells [(.d (Ze m1_0)),(.d (Ze m1_1)),(.d (D.list t0 (List.map Zau m1_2))),(.d (D.list t1 (List.map ZI m1_3))),(.d (D.list t2 (List.map Zt m1_4))),(.d (D.list t3 (List.map ZB m1_5)))])])
def Zc1 (t0:Bool) (t1:Bool) (t2:Bool) (t3:Bool) (m1_0:Int) (m1_1:Int) (m1_2:(List Zaa)) (m1_3:(List Zr)) (m1_4:(List Zk)) (m1_5:(List Zv)) (rc:Int→Int→Int→(Int→Int→Option Int)→(List Int)→Option (List Int)):(List Int)→Ex×List V×Zq
  | r=>(.ret,[],[(.arr 1 (List.map Ze r)),(.cells [(.d (Ze m1_0)),(.d (Ze m1_1)),(.d (D.list t0 (List.map Zau m1_2))),(.d (D.list t1 (List.map ZI m1_3))),(.d (D.list t2 (List.map Zt m1_4))),(.d (D.list t3 (List.map ZB m1_5)))])])
theorem Zfm {t0:Bool}{t1:Bool}{t2:Bool}{t3:Bool}{m1_0:Int}{m1_1:Int}{m1_2:(List Zaa)}{m1_3:(List Zr)}{m1_4:(List Zk)}{m1_5:(List Zv)}{rc:Int→Int→Int→(Int→Int→Option Int)→(List Int)→Option (List Int)} (hrc:∀(t0:Bool) (t1:Bool) (t2:Bool) (t3:Bool) (b:Int) (c:Int) (d:Int) (m0_0:(List Int)) (m1_0:Int) (m1_1:Int) (m1_2:(List Zaa)) (m1_3:(List Zr)) (m1_4:(List Zk)) (m1_5:(List Zv)) (r:(List Int)),rc b c d (fun z0 z1=>Zx z0 z1 m1_4) m0_0=some r→evW ctx 117 [(.sl 0 1),(.d (Ze b)),(.d (Ze c)),(.d (Ze d)),(.fn 106 [(.ptr 1 0)])] [(.arr 1 (List.map Ze m0_0)),(.cells [(.d (Ze m1_0)),(.d (Ze m1_1)),(.d (D.list t0 (List.map Zau m1_2))),(.d (D.list t1 (List.map ZI m1_3))),(.d (D.list t2 (List.map Zt m1_4))),(.d (D.list t3 (List.map ZB m1_5)))])]=some ((Za t0 t1 t2 t3 b c d m0_0 m1_0 m1_1 m1_2 m1_3 m1_4 m1_5) r)):∀(s0:Int×Int×Int×Bool×Bool×(List Int)) (r:(List Int)),lp (ZX (fun z0 z1=>Zx z0 z1 m1_4) rc) s0=some r→lpW ctx 2 [0,1,2,3,4,10,11] [] Zv7 [(.sl 0 1),(.d (Ze s0.1)),(.d (Ze s0.2.1)),(.d (Ze s0.2.2.1)),(.fn 106 [(.ptr 1 0)]),(.d (D.bool s0.2.2.2.1)),(.d (D.bool s0.2.2.2.2.1))] [(.arr 1 (List.map Ze s0.2.2.2.2.2)),(.cells [(.d (Ze m1_0)),(.d (Ze m1_1)),(.d (D.list t0 (List.map Zau m1_2))),(.d (D.list t1 (List.map ZI m1_3))),(.d (D.list t2 (List.map Zt m1_4))),(.d (D.list t3 (List.map ZB m1_5)))])]=some ((Zc1 t0 t1 t2 t3 m1_0 m1_1 m1_2 m1_3 m1_4 m1_5 rc) r):=by
 refine ZaX (Zc1 t0 t1 t2 t3 m1_0 m1_1 m1_2 m1_3 m1_4 m1_5 rc) ?_
 intro s0 rcl ih
 show ZS _ _ (lpW _ _ _ _ _ _ _)
 unfold ZX
 rw[ZaY]
 rcases hb:s0.2.2.2.1 with _ | _
 ·refine ZoW ?_
  rcases hb:s0.2.2.2.2.1 with _ | _
  ·refine ZoW ?_;conv=>arg 3;whnf
   refine Zg rfl ?_ ?_<;>conv=>arg 3;whnf
   ·refine Zc _ ZaQ fun x170 hx170=>?_;conv=>arg 3;whnf
    exact Zh rfl
   ·refine Zg rfl ?_ ?_<;>conv=>arg 3;whnf
    ·refine Zc _ Zbd fun x171 hx171=>?_;conv=>arg 3;whnf
     exact Zh rfl
    ·refine Zc _ Zcy fun x172 hx172=>?_;conv=>arg 3;whnf
     refine Zc _ ZaZ fun x173 hx173=>?_;conv=>arg 3;whnf
     refine Zg rfl ?_ ?_<;>conv=>arg 3;whnf
     ·refine Zc _ ZaW fun x174 hx174=>?_;conv=>arg 3;whnf
      refine Zg rfl ?_ ?_<;>conv=>arg 3;whnf
      ·refine Zi rfl rfl fun x175 hx175=>?_;conv=>arg 3;whnf
       refine Zf (Zl rfl hx175) ?_;conv=>arg 3;whnf
       refine Zi rfl rfl fun x176 hx176=>?_;conv=>arg 3;whnf
       refine Zf (Zl rfl hx176) ?_;conv=>arg 3;whnf
       refine Zp _ ZO rfl fun x177 hx177=>?_;conv=>arg 3;whnf
       refine Zg rfl ?_ ?_<;>conv=>arg 3;whnf
       ·refine Zc _ Zo fun x178 hx178=>?_
        clear hx178
        rcases x178 with x178 | x178
        ·conv=>arg 3;whnf
         refine Zbr rfl ?_;conv=>arg 3;whnf
         refine ZR rfl ?_;conv=>arg 3;whnf
         refine Zg rfl ?_ ?_<;>conv=>arg 3;whnf
         ·refine Zg rfl ?_ ?_<;>conv=>arg 3;whnf
          ·refine Zc (Za t0 t1 t2 t3 s0.1 x178.1 (w64 (s0.2.2.1-1)) x178.2 m1_0 m1_1 m1_2 m1_3 m1_4 m1_5) (hrc t0 t1 t2 t3 s0.1 x178.1 (w64 (s0.2.2.1-1)) x178.2 m1_0 m1_1 m1_2 m1_3 m1_4 m1_5) fun x179 hx179=>?_;conv=>arg 3;whnf
           exact Zd (ih _)
          ·refine Zc (Za t0 t1 t2 t3 s0.1 x178.1 (w64 (s0.2.2.1-1)) x178.2 m1_0 m1_1 m1_2 m1_3 m1_4 m1_5) (hrc t0 t1 t2 t3 s0.1 x178.1 (w64 (s0.2.2.1-1)) x178.2 m1_0 m1_1 m1_2 m1_3 m1_4 m1_5) fun x180 hx180=>?_;conv=>arg 3;whnf
           exact Zd (ih _)
         ·refine Zg rfl ?_ ?_<;>conv=>arg 3;whnf
          ·refine Zc (Za t0 t1 t2 t3 (w64 (x178.1+1)) s0.2.1 (w64 (s0.2.2.1-1)) x178.2 m1_0 m1_1 m1_2 m1_3 m1_4 m1_5) (hrc t0 t1 t2 t3 (w64 (x178.1+1)) s0.2.1 (w64 (s0.2.2.1-1)) x178.2 m1_0 m1_1 m1_2 m1_3 m1_4 m1_5) fun x181 hx181=>?_;conv=>arg 3;whnf
           exact Zd (ih _)
          ·refine Zc (Za t0 t1 t2 t3 (w64 (x178.1+1)) s0.2.1 (w64 (s0.2.2.1-1)) x178.2 m1_0 m1_1 m1_2 m1_3 m1_4 m1_5) (hrc t0 t1 t2 t3 (w64 (x178.1+1)) s0.2.1 (w64 (s0.2.2.1-1)) x178.2 m1_0 m1_1 m1_2 m1_3 m1_4 m1_5) fun x182 hx182=>?_;conv=>arg 3;whnf
           exact Zd (ih _)
        ·conv=>arg 3;whnf
         refine ZR rfl ?_;conv=>arg 3;whnf
         refine ZR rfl ?_;conv=>arg 3;whnf
         refine Zg rfl ?_ ?_<;>conv=>arg 3;whnf
         ·refine Zg rfl ?_ ?_<;>conv=>arg 3;whnf
          ·refine Zc (Za t0 t1 t2 t3 s0.1 x178.1 (w64 (s0.2.2.1-1)) x178.2 m1_0 m1_1 m1_2 m1_3 m1_4 m1_5) (hrc t0 t1 t2 t3 s0.1 x178.1 (w64 (s0.2.2.1-1)) x178.2 m1_0 m1_1 m1_2 m1_3 m1_4 m1_5) fun x183 hx183=>?_;conv=>arg 3;whnf
           exact Zd (ih _)
          ·refine Zc (Za t0 t1 t2 t3 s0.1 x178.1 (w64 (s0.2.2.1-1)) x178.2 m1_0 m1_1 m1_2 m1_3 m1_4 m1_5) (hrc t0 t1 t2 t3 s0.1 x178.1 (w64 (s0.2.2.1-1)) x178.2 m1_0 m1_1 m1_2 m1_3 m1_4 m1_5) fun x184 hx184=>?_;conv=>arg 3;whnf
           exact Zd (ih _)
         ·refine Zg rfl ?_ ?_<;>conv=>arg 3;whnf
          ·refine Zc (Za t0 t1 t2 t3 (w64 (x178.1+1)) s0.2.1 (w64 (s0.2.2.1-1)) x178.2 m1_0 m1_1 m1_2 m1_3 m1_4 m1_5) (hrc t0 t1 t2 t3 (w64 (x178.1+1)) s0.2.1 (w64 (s0.2.2.1-1)) x178.2 m1_0 m1_1 m1_2 m1_3 m1_4 m1_5) fun x185 hx185=>?_;conv=>arg 3;whnf
           exact Zd (ih _)
          ·refine Zc (Za t0 t1 t2 t3 (w64 (x178.1+1)) s0.2.1 (w64 (s0.2.2.1-1)) x178.2 m1_0 m1_1 m1_2 m1_3 m1_4 m1_5) (hrc t0 t1 t2 t3 (w64 (x178.1+1)) s0.2.1 (w64 (s0.2.2.1-1)) x178.2 m1_0 m1_1 m1_2 m1_3 m1_4 m1_5) fun x186 hx186=>?_;conv=>arg 3;whnf
           exact Zd (ih _)
       ·refine Zc _ ZE fun x187 hx187=>?_;conv=>arg 3;whnf
        exact Zd (ih _)
      ·refine Zc _ Zo fun x188 hx188=>?_
       clear hx188
       rcases x188 with x188 | x188
       ·conv=>arg 3;whnf
        refine Zbr rfl ?_;conv=>arg 3;whnf
        refine ZR rfl ?_;conv=>arg 3;whnf
        refine Zg rfl ?_ ?_<;>conv=>arg 3;whnf
        ·refine Zg rfl ?_ ?_<;>conv=>arg 3;whnf
         ·refine Zc (Za t0 t1 t2 t3 s0.1 x188.1 (w64 (s0.2.2.1-1)) x188.2 m1_0 m1_1 m1_2 m1_3 m1_4 m1_5) (hrc t0 t1 t2 t3 s0.1 x188.1 (w64 (s0.2.2.1-1)) x188.2 m1_0 m1_1 m1_2 m1_3 m1_4 m1_5) fun x189 hx189=>?_;conv=>arg 3;whnf
          exact Zd (ih _)
         ·refine Zc (Za t0 t1 t2 t3 s0.1 x188.1 (w64 (s0.2.2.1-1)) x188.2 m1_0 m1_1 m1_2 m1_3 m1_4 m1_5) (hrc t0 t1 t2 t3 s0.1 x188.1 (w64 (s0.2.2.1-1)) x188.2 m1_0 m1_1 m1_2 m1_3 m1_4 m1_5) fun x190 hx190=>?_;conv=>arg 3;whnf
          exact Zd (ih _)
        ·refine Zg rfl ?_ ?_<;>conv=>arg 3;whnf
         ·refine Zc (Za t0 t1 t2 t3 (w64 (x188.1+1)) s0.2.1 (w64 (s0.2.2.1-1)) x188.2 m1_0 m1_1 m1_2 m1_3 m1_4 m1_5) (hrc t0 t1 t2 t3 (w64 (x188.1+1)) s0.2.1 (w64 (s0.2.2.1-1)) x188.2 m1_0 m1_1 m1_2 m1_3 m1_4 m1_5) fun x191 hx191=>?_;conv=>arg 3;whnf
          exact Zd (ih _)
         ·refine Zc (Za t0 t1 t2 t3 (w64 (x188.1+1)) s0.2.1 (w64 (s0.2.2.1-1)) x188.2 m1_0 m1_1 m1_2 m1_3 m1_4 m1_5) (hrc t0 t1 t2 t3 (w64 (x188.1+1)) s0.2.1 (w64 (s0.2.2.1-1)) x188.2 m1_0 m1_1 m1_2 m1_3 m1_4 m1_5) fun x192 hx192=>?_;conv=>arg 3;whnf
          exact Zd (ih _)
       ·conv=>arg 3;whnf
        refine ZR rfl ?_;conv=>arg 3;whnf
        refine ZR rfl ?_;conv=>arg 3;whnf
        refine Zg rfl ?_ ?_<;>conv=>arg 3;whnf
        ·refine Zg rfl ?_ ?_<;>conv=>arg 3;whnf
         ·refine Zc (Za t0 t1 t2 t3 s0.1 x188.1 (w64 (s0.2.2.1-1)) x188.2 m1_0 m1_1 m1_2 m1_3 m1_4 m1_5) (hrc t0 t1 t2 t3 s0.1 x188.1 (w64 (s0.2.2.1-1)) x188.2 m1_0 m1_1 m1_2 m1_3 m1_4 m1_5) fun x193 hx193=>?_;conv=>arg 3;whnf
          exact Zd (ih _)
         ·refine Zc (Za t0 t1 t2 t3 s0.1 x188.1 (w64 (s0.2.2.1-1)) x188.2 m1_0 m1_1 m1_2 m1_3 m1_4 m1_5) (hrc t0 t1 t2 t3 s0.1 x188.1 (w64 (s0.2.2.1-1)) x188.2 m1_0 m1_1 m1_2 m1_3 m1_4 m1_5) fun x194 hx194=>?_;conv=>arg 3;whnf
          exact Zd (ih _)
        ·refine Zg rfl ?_ ?_<;>conv=>arg 3;whnf
         ·refine Zc (Za t0 t1 t2 t3 (w64 (x188.1+1)) s0.2.1 (w64 (s0.2.2.1-1)) x188.2 m1_0 m1_1 m1_2 m1_3 m1_4 m1_5) (hrc t0 t1 t2 t3 (w64 (x188.1+1)) s0.2.1 (w64 (s0.2.2.1-1)) x188.2 m1_0 m1_1 m1_2 m1_3 m1_4 m1_5) fun x195 hx195=>?_;conv=>arg 3;whnf
          exact Zd (ih _)
         ·refine Zc (Za t0 t1 t2 t3 (w64 (x188.1+1)) s0.2.1 (w64 (s0.2.2.1-1)) x188.2 m1_0 m1_1 m1_2 m1_3 m1_4 m1_5) (hrc t0 t1 t2 t3 (w64 (x188.1+1)) s0.2.1 (w64 (s0.2.2.1-1)) x188.2 m1_0 m1_1 m1_2 m1_3 m1_4 m1_5) fun x196 hx196=>?_;conv=>arg 3;whnf
          exact Zd (ih _)
     ·refine Zg rfl ?_ ?_<;>conv=>arg 3;whnf
      ·refine Zi rfl rfl fun x197 hx197=>?_;conv=>arg 3;whnf
       refine Zf (Zl rfl hx197) ?_;conv=>arg 3;whnf
       refine Zi rfl rfl fun x198 hx198=>?_;conv=>arg 3;whnf
       refine Zf (Zl rfl hx198) ?_;conv=>arg 3;whnf
       refine Zp _ ZO rfl fun x199 hx199=>?_;conv=>arg 3;whnf
       refine Zg rfl ?_ ?_<;>conv=>arg 3;whnf
       ·refine Zc _ Zo fun x200 hx200=>?_
        clear hx200
        rcases x200 with x200 | x200
        ·conv=>arg 3;whnf
         refine Zbr rfl ?_;conv=>arg 3;whnf
         refine ZR rfl ?_;conv=>arg 3;whnf
         refine Zg rfl ?_ ?_<;>conv=>arg 3;whnf
         ·refine Zg rfl ?_ ?_<;>conv=>arg 3;whnf
          ·refine Zc (Za t0 t1 t2 t3 s0.1 x200.1 (w64 (s0.2.2.1-1)) x200.2 m1_0 m1_1 m1_2 m1_3 m1_4 m1_5) (hrc t0 t1 t2 t3 s0.1 x200.1 (w64 (s0.2.2.1-1)) x200.2 m1_0 m1_1 m1_2 m1_3 m1_4 m1_5) fun x201 hx201=>?_;conv=>arg 3;whnf
           exact Zd (ih _)
          ·refine Zc (Za t0 t1 t2 t3 s0.1 x200.1 (w64 (s0.2.2.1-1)) x200.2 m1_0 m1_1 m1_2 m1_3 m1_4 m1_5) (hrc t0 t1 t2 t3 s0.1 x200.1 (w64 (s0.2.2.1-1)) x200.2 m1_0 m1_1 m1_2 m1_3 m1_4 m1_5) fun x202 hx202=>?_;conv=>arg 3;whnf
           exact Zd (ih _)
         ·refine Zg rfl ?_ ?_<;>conv=>arg 3;whnf
          ·refine Zc (Za t0 t1 t2 t3 (w64 (x200.1+1)) s0.2.1 (w64 (s0.2.2.1-1)) x200.2 m1_0 m1_1 m1_2 m1_3 m1_4 m1_5) (hrc t0 t1 t2 t3 (w64 (x200.1+1)) s0.2.1 (w64 (s0.2.2.1-1)) x200.2 m1_0 m1_1 m1_2 m1_3 m1_4 m1_5) fun x203 hx203=>?_;conv=>arg 3;whnf
           exact Zd (ih _)
          ·refine Zc (Za t0 t1 t2 t3 (w64 (x200.1+1)) s0.2.1 (w64 (s0.2.2.1-1)) x200.2 m1_0 m1_1 m1_2 m1_3 m1_4 m1_5) (hrc t0 t1 t2 t3 (w64 (x200.1+1)) s0.2.1 (w64 (s0.2.2.1-1)) x200.2 m1_0 m1_1 m1_2 m1_3 m1_4 m1_5) fun x204 hx204=>?_;conv=>arg 3;whnf
           exact Zd (ih _)
        ·conv=>arg 3;whnf
         refine ZR rfl ?_;conv=>arg 3;whnf
         refine ZR rfl ?_;conv=>arg 3;whnf
         refine Zg rfl ?_ ?_<;>conv=>arg 3;whnf
         ·refine Zg rfl ?_ ?_<;>conv=>arg 3;whnf
          ·refine Zc (Za t0 t1 t2 t3 s0.1 x200.1 (w64 (s0.2.2.1-1)) x200.2 m1_0 m1_1 m1_2 m1_3 m1_4 m1_5) (hrc t0 t1 t2 t3 s0.1 x200.1 (w64 (s0.2.2.1-1)) x200.2 m1_0 m1_1 m1_2 m1_3 m1_4 m1_5) fun x205 hx205=>?_;conv=>arg 3;whnf
           exact Zd (ih _)
          ·refine Zc (Za t0 t1 t2 t3 s0.1 x200.1 (w64 (s0.2.2.1-1)) x200.2 m1_0 m1_1 m1_2 m1_3 m1_4 m1_5) (hrc t0 t1 t2 t3 s0.1 x200.1 (w64 (s0.2.2.1-1)) x200.2 m1_0 m1_1 m1_2 m1_3 m1_4 m1_5) fun x206 hx206=>?_;conv=>arg 3;whnf
           exact Zd (ih _)
         ·refine Zg rfl ?_ ?_<;>conv=>arg 3;whnf
          ·refine Zc (Za t0 t1 t2 t3 (w64 (x200.1+1)) s0.2.1 (w64 (s0.2.2.1-1)) x200.2 m1_0 m1_1 m1_2 m1_3 m1_4 m1_5) (hrc t0 t1 t2 t3 (w64 (x200.1+1)) s0.2.1 (w64 (s0.2.2.1-1)) x200.2 m1_0 m1_1 m1_2 m1_3 m1_4 m1_5) fun x207 hx207=>?_;conv=>arg 3;whnf
           exact Zd (ih _)
          ·refine Zc (Za t0 t1 t2 t3 (w64 (x200.1+1)) s0.2.1 (w64 (s0.2.2.1-1)) x200.2 m1_0 m1_1 m1_2 m1_3 m1_4 m1_5) (hrc t0 t1 t2 t3 (w64 (x200.1+1)) s0.2.1 (w64 (s0.2.2.1-1)) x200.2 m1_0 m1_1 m1_2 m1_3 m1_4 m1_5) fun x208 hx208=>?_;conv=>arg 3;whnf
           exact Zd (ih _)
       ·refine Zc _ ZE fun x209 hx209=>?_;conv=>arg 3;whnf
        exact Zd (ih _)
      ·refine Zc _ Zo fun x210 hx210=>?_
       clear hx210
       rcases x210 with x210 | x210
       ·conv=>arg 3;whnf
        refine Zbr rfl ?_;conv=>arg 3;whnf
        refine ZR rfl ?_;conv=>arg 3;whnf
        refine Zg rfl ?_ ?_<;>conv=>arg 3;whnf
        ·refine Zg rfl ?_ ?_<;>conv=>arg 3;whnf
         ·refine Zc (Za t0 t1 t2 t3 s0.1 x210.1 (w64 (s0.2.2.1-1)) x210.2 m1_0 m1_1 m1_2 m1_3 m1_4 m1_5) (hrc t0 t1 t2 t3 s0.1 x210.1 (w64 (s0.2.2.1-1)) x210.2 m1_0 m1_1 m1_2 m1_3 m1_4 m1_5) fun x211 hx211=>?_;conv=>arg 3;whnf
          exact Zd (ih _)
         ·refine Zc (Za t0 t1 t2 t3 s0.1 x210.1 (w64 (s0.2.2.1-1)) x210.2 m1_0 m1_1 m1_2 m1_3 m1_4 m1_5) (hrc t0 t1 t2 t3 s0.1 x210.1 (w64 (s0.2.2.1-1)) x210.2 m1_0 m1_1 m1_2 m1_3 m1_4 m1_5) fun x212 hx212=>?_;conv=>arg 3;whnf
          exact Zd (ih _)
        ·refine Zg rfl ?_ ?_<;>conv=>arg 3;whnf
         ·refine Zc (Za t0 t1 t2 t3 (w64 (x210.1+1)) s0.2.1 (w64 (s0.2.2.1-1)) x210.2 m1_0 m1_1 m1_2 m1_3 m1_4 m1_5) (hrc t0 t1 t2 t3 (w64 (x210.1+1)) s0.2.1 (w64 (s0.2.2.1-1)) x210.2 m1_0 m1_1 m1_2 m1_3 m1_4 m1_5) fun x213 hx213=>?_;conv=>arg 3;whnf
          exact Zd (ih _)
         ·refine Zc (Za t0 t1 t2 t3 (w64 (x210.1+1)) s0.2.1 (w64 (s0.2.2.1-1)) x210.2 m1_0 m1_1 m1_2 m1_3 m1_4 m1_5) (hrc t0 t1 t2 t3 (w64 (x210.1+1)) s0.2.1 (w64 (s0.2.2.1-1)) x210.2 m1_0 m1_1 m1_2 m1_3 m1_4 m1_5) fun x214 hx214=>?_;conv=>arg 3;whnf
          exact Zd (ih _)
       ·conv=>arg 3;whnf
        refine ZR rfl ?_;conv=>arg 3;whnf
        refine ZR rfl ?_;conv=>arg 3;whnf
        refine Zg rfl ?_ ?_<;>conv=>arg 3;whnf
        ·refine Zg rfl ?_ ?_<;>conv=>arg 3;whnf
         ·refine Zc (Za t0 t1 t2 t3 s0.1 x210.1 (w64 (s0.2.2.1-1)) x210.2 m1_0 m1_1 m1_2 m1_3 m1_4 m1_5) (hrc t0 t1 t2 t3 s0.1 x210.1 (w64 (s0.2.2.1-1)) x210.2 m1_0 m1_1 m1_2 m1_3 m1_4 m1_5) fun x215 hx215=>?_;conv=>arg 3;whnf
          exact Zd (ih _)
         ·refine Zc (Za t0 t1 t2 t3 s0.1 x210.1 (w64 (s0.2.2.1-1)) x210.2 m1_0 m1_1 m1_2 m1_3 m1_4 m1_5) (hrc t0 t1 t2 t3 s0.1 x210.1 (w64 (s0.2.2.1-1)) x210.2 m1_0 m1_1 m1_2 m1_3 m1_4 m1_5) fun x216 hx216=>?_;conv=>arg 3;whnf
          exact Zd (ih _)
        ·refine Zg rfl ?_ ?_<;>conv=>arg 3;whnf
         ·refine Zc (Za t0 t1 t2 t3 (w64 (x210.1+1)) s0.2.1 (w64 (s0.2.2.1-1)) x210.2 m1_0 m1_1 m1_2 m1_3 m1_4 m1_5) (hrc t0 t1 t2 t3 (w64 (x210.1+1)) s0.2.1 (w64 (s0.2.2.1-1)) x210.2 m1_0 m1_1 m1_2 m1_3 m1_4 m1_5) fun x217 hx217=>?_;conv=>arg 3;whnf
          exact Zd (ih _)
         ·refine Zc (Za t0 t1 t2 t3 (w64 (x210.1+1)) s0.2.1 (w64 (s0.2.2.1-1)) x210.2 m1_0 m1_1 m1_2 m1_3 m1_4 m1_5) (hrc t0 t1 t2 t3 (w64 (x210.1+1)) s0.2.1 (w64 (s0.2.2.1-1)) x210.2 m1_0 m1_1 m1_2 m1_3 m1_4 m1_5) fun x218 hx218=>?_;conv=>arg 3;whnf
          exact Zd (ih _)
  ·refine Zox ?_;conv=>arg 3;whnf
   refine Zg rfl ?_ ?_<;>conv=>arg 3;whnf
   ·refine Zc _ ZaQ fun x121 hx121=>?_;conv=>arg 3;whnf
    exact Zh rfl
   ·refine Zg rfl ?_ ?_<;>conv=>arg 3;whnf
    ·refine Zc _ Zbd fun x122 hx122=>?_;conv=>arg 3;whnf
     exact Zh rfl
    ·refine Zc _ Zcy fun x123 hx123=>?_;conv=>arg 3;whnf
     refine Zc _ ZaZ fun x124 hx124=>?_;conv=>arg 3;whnf
     refine Zg rfl ?_ ?_<;>conv=>arg 3;whnf
     ·refine Zc _ ZaW fun x125 hx125=>?_;conv=>arg 3;whnf
      refine Zg rfl ?_ ?_<;>conv=>arg 3;whnf
      ·refine Zi rfl rfl fun x126 hx126=>?_;conv=>arg 3;whnf
       refine Zf (Zl rfl hx126) ?_;conv=>arg 3;whnf
       refine Zi rfl rfl fun x127 hx127=>?_;conv=>arg 3;whnf
       refine Zf (Zl rfl hx127) ?_;conv=>arg 3;whnf
       refine Zp _ ZO rfl fun x128 hx128=>?_;conv=>arg 3;whnf
       refine Zg rfl ?_ ?_<;>conv=>arg 3;whnf
       ·refine Zc _ Zo fun x129 hx129=>?_
        clear hx129
        rcases x129 with x129 | x129
        ·conv=>arg 3;whnf
         refine Zbr rfl ?_;conv=>arg 3;whnf
         refine ZR rfl ?_;conv=>arg 3;whnf
         refine Zg rfl ?_ ?_<;>conv=>arg 3;whnf
         ·refine Zg rfl ?_ ?_<;>conv=>arg 3;whnf
          ·refine Zc (Za t0 t1 t2 t3 s0.1 x129.1 (w64 (s0.2.2.1-1)) x129.2 m1_0 m1_1 m1_2 m1_3 m1_4 m1_5) (hrc t0 t1 t2 t3 s0.1 x129.1 (w64 (s0.2.2.1-1)) x129.2 m1_0 m1_1 m1_2 m1_3 m1_4 m1_5) fun x130 hx130=>?_;conv=>arg 3;whnf
           exact Zd (ih _)
          ·refine Zc (Za t0 t1 t2 t3 s0.1 x129.1 (w64 (s0.2.2.1-1)) x129.2 m1_0 m1_1 m1_2 m1_3 m1_4 m1_5) (hrc t0 t1 t2 t3 s0.1 x129.1 (w64 (s0.2.2.1-1)) x129.2 m1_0 m1_1 m1_2 m1_3 m1_4 m1_5) fun x131 hx131=>?_;conv=>arg 3;whnf
           exact Zd (ih _)
         ·refine Zg rfl ?_ ?_<;>conv=>arg 3;whnf
          ·refine Zc (Za t0 t1 t2 t3 (w64 (x129.1+1)) s0.2.1 (w64 (s0.2.2.1-1)) x129.2 m1_0 m1_1 m1_2 m1_3 m1_4 m1_5) (hrc t0 t1 t2 t3 (w64 (x129.1+1)) s0.2.1 (w64 (s0.2.2.1-1)) x129.2 m1_0 m1_1 m1_2 m1_3 m1_4 m1_5) fun x132 hx132=>?_;conv=>arg 3;whnf
           exact Zd (ih _)
          ·refine Zc (Za t0 t1 t2 t3 (w64 (x129.1+1)) s0.2.1 (w64 (s0.2.2.1-1)) x129.2 m1_0 m1_1 m1_2 m1_3 m1_4 m1_5) (hrc t0 t1 t2 t3 (w64 (x129.1+1)) s0.2.1 (w64 (s0.2.2.1-1)) x129.2 m1_0 m1_1 m1_2 m1_3 m1_4 m1_5) fun x133 hx133=>?_;conv=>arg 3;whnf
           exact Zd (ih _)
        ·conv=>arg 3;whnf
         refine ZR rfl ?_;conv=>arg 3;whnf
         refine ZR rfl ?_;conv=>arg 3;whnf
         refine Zg rfl ?_ ?_<;>conv=>arg 3;whnf
         ·refine Zg rfl ?_ ?_<;>conv=>arg 3;whnf
          ·refine Zc (Za t0 t1 t2 t3 s0.1 x129.1 (w64 (s0.2.2.1-1)) x129.2 m1_0 m1_1 m1_2 m1_3 m1_4 m1_5) (hrc t0 t1 t2 t3 s0.1 x129.1 (w64 (s0.2.2.1-1)) x129.2 m1_0 m1_1 m1_2 m1_3 m1_4 m1_5) fun x134 hx134=>?_;conv=>arg 3;whnf
           exact Zd (ih _)
          ·refine Zc (Za t0 t1 t2 t3 s0.1 x129.1 (w64 (s0.2.2.1-1)) x129.2 m1_0 m1_1 m1_2 m1_3 m1_4 m1_5) (hrc t0 t1 t2 t3 s0.1 x129.1 (w64 (s0.2.2.1-1)) x129.2 m1_0 m1_1 m1_2 m1_3 m1_4 m1_5) fun x135 hx135=>?_;conv=>arg 3;whnf
           exact Zd (ih _)
         ·refine Zg rfl ?_ ?_<;>conv=>arg 3;whnf
          ·refine Zc (Za t0 t1 t2 t3 (w64 (x129.1+1)) s0.2.1 (w64 (s0.2.2.1-1)) x129.2 m1_0 m1_1 m1_2 m1_3 m1_4 m1_5) (hrc t0 t1 t2 t3 (w64 (x129.1+1)) s0.2.1 (w64 (s0.2.2.1-1)) x129.2 m1_0 m1_1 m1_2 m1_3 m1_4 m1_5) fun x136 hx136=>?_;conv=>arg 3;whnf
           exact Zd (ih _)
          ·refine Zc (Za t0 t1 t2 t3 (w64 (x129.1+1)) s0.2.1 (w64 (s0.2.2.1-1)) x129.2 m1_0 m1_1 m1_2 m1_3 m1_4 m1_5) (hrc t0 t1 t2 t3 (w64 (x129.1+1)) s0.2.1 (w64 (s0.2.2.1-1)) x129.2 m1_0 m1_1 m1_2 m1_3 m1_4 m1_5) fun x137 hx137=>?_;conv=>arg 3;whnf
           exact Zd (ih _)
       ·refine Zc _ ZE fun x138 hx138=>?_;conv=>arg 3;whnf
        exact Zd (ih _)
      ·refine Zc _ Zo fun x139 hx139=>?_
       clear hx139
       rcases x139 with x139 | x139
       ·conv=>arg 3;whnf
        refine Zbr rfl ?_;conv=>arg 3;whnf
        refine ZR rfl ?_;conv=>arg 3;whnf
        refine Zg rfl ?_ ?_<;>conv=>arg 3;whnf
        ·refine Zg rfl ?_ ?_<;>conv=>arg 3;whnf
         ·refine Zc (Za t0 t1 t2 t3 s0.1 x139.1 (w64 (s0.2.2.1-1)) x139.2 m1_0 m1_1 m1_2 m1_3 m1_4 m1_5) (hrc t0 t1 t2 t3 s0.1 x139.1 (w64 (s0.2.2.1-1)) x139.2 m1_0 m1_1 m1_2 m1_3 m1_4 m1_5) fun x140 hx140=>?_;conv=>arg 3;whnf
          exact Zd (ih _)
         ·refine Zc (Za t0 t1 t2 t3 s0.1 x139.1 (w64 (s0.2.2.1-1)) x139.2 m1_0 m1_1 m1_2 m1_3 m1_4 m1_5) (hrc t0 t1 t2 t3 s0.1 x139.1 (w64 (s0.2.2.1-1)) x139.2 m1_0 m1_1 m1_2 m1_3 m1_4 m1_5) fun x141 hx141=>?_;conv=>arg 3;whnf
          exact Zd (ih _)
        ·refine Zg rfl ?_ ?_<;>conv=>arg 3;whnf
         ·refine Zc (Za t0 t1 t2 t3 (w64 (x139.1+1)) s0.2.1 (w64 (s0.2.2.1-1)) x139.2 m1_0 m1_1 m1_2 m1_3 m1_4 m1_5) (hrc t0 t1 t2 t3 (w64 (x139.1+1)) s0.2.1 (w64 (s0.2.2.1-1)) x139.2 m1_0 m1_1 m1_2 m1_3 m1_4 m1_5) fun x142 hx142=>?_;conv=>arg 3;whnf
          exact Zd (ih _)
         ·refine Zc (Za t0 t1 t2 t3 (w64 (x139.1+1)) s0.2.1 (w64 (s0.2.2.1-1)) x139.2 m1_0 m1_1 m1_2 m1_3 m1_4 m1_5) (hrc t0 t1 t2 t3 (w64 (x139.1+1)) s0.2.1 (w64 (s0.2.2.1-1)) x139.2 m1_0 m1_1 m1_2 m1_3 m1_4 m1_5) fun x143 hx143=>?_;conv=>arg 3;whnf
          exact Zd (ih _)
       ·conv=>arg 3;whnf
        refine ZR rfl ?_;conv=>arg 3;whnf
        refine ZR rfl ?_;conv=>arg 3;whnf
        refine Zg rfl ?_ ?_<;>conv=>arg 3;whnf
        ·refine Zg rfl ?_ ?_<;>conv=>arg 3;whnf
         ·refine Zc (Za t0 t1 t2 t3 s0.1 x139.1 (w64 (s0.2.2.1-1)) x139.2 m1_0 m1_1 m1_2 m1_3 m1_4 m1_5) (hrc t0 t1 t2 t3 s0.1 x139.1 (w64 (s0.2.2.1-1)) x139.2 m1_0 m1_1 m1_2 m1_3 m1_4 m1_5) fun x144 hx144=>?_;conv=>arg 3;whnf
          exact Zd (ih _)
         ·refine Zc (Za t0 t1 t2 t3 s0.1 x139.1 (w64 (s0.2.2.1-1)) x139.2 m1_0 m1_1 m1_2 m1_3 m1_4 m1_5) (hrc t0 t1 t2 t3 s0.1 x139.1 (w64 (s0.2.2.1-1)) x139.2 m1_0 m1_1 m1_2 m1_3 m1_4 m1_5) fun x145 hx145=>?_;conv=>arg 3;whnf
          exact Zd (ih _)
        ·refine Zg rfl ?_ ?_<;>conv=>arg 3;whnf
         ·refine Zc (Za t0 t1 t2 t3 (w64 (x139.1+1)) s0.2.1 (w64 (s0.2.2.1-1)) x139.2 m1_0 m1_1 m1_2 m1_3 m1_4 m1_5) (hrc t0 t1 t2 t3 (w64 (x139.1+1)) s0.2.1 (w64 (s0.2.2.1-1)) x139.2 m1_0 m1_1 m1_2 m1_3 m1_4 m1_5) fun x146 hx146=>?_;conv=>arg 3;whnf
          exact Zd (ih _)
         ·refine Zc (Za t0 t1 t2 t3 (w64 (x139.1+1)) s0.2.1 (w64 (s0.2.2.1-1)) x139.2 m1_0 m1_1 m1_2 m1_3 m1_4 m1_5) (hrc t0 t1 t2 t3 (w64 (x139.1+1)) s0.2.1 (w64 (s0.2.2.1-1)) x139.2 m1_0 m1_1 m1_2 m1_3 m1_4 m1_5) fun x147 hx147=>?_;conv=>arg 3;whnf
          exact Zd (ih _)
     ·refine Zg rfl ?_ ?_<;>conv=>arg 3;whnf
      ·refine Zi rfl rfl fun x148 hx148=>?_;conv=>arg 3;whnf
       refine Zf (Zl rfl hx148) ?_;conv=>arg 3;whnf
       refine Zi rfl rfl fun x149 hx149=>?_;conv=>arg 3;whnf
       refine Zf (Zl rfl hx149) ?_;conv=>arg 3;whnf
       refine Zp _ ZO rfl fun x150 hx150=>?_;conv=>arg 3;whnf
       refine Zg rfl ?_ ?_<;>conv=>arg 3;whnf
       ·refine Zc _ Zo fun x151 hx151=>?_
        clear hx151
        rcases x151 with x151 | x151
        ·conv=>arg 3;whnf
         refine Zbr rfl ?_;conv=>arg 3;whnf
         refine ZR rfl ?_;conv=>arg 3;whnf
         refine Zg rfl ?_ ?_<;>conv=>arg 3;whnf
         ·refine Zg rfl ?_ ?_<;>conv=>arg 3;whnf
          ·refine Zc (Za t0 t1 t2 t3 s0.1 x151.1 (w64 (s0.2.2.1-1)) x151.2 m1_0 m1_1 m1_2 m1_3 m1_4 m1_5) (hrc t0 t1 t2 t3 s0.1 x151.1 (w64 (s0.2.2.1-1)) x151.2 m1_0 m1_1 m1_2 m1_3 m1_4 m1_5) fun x152 hx152=>?_;conv=>arg 3;whnf
           exact Zd (ih _)
          ·refine Zc (Za t0 t1 t2 t3 s0.1 x151.1 (w64 (s0.2.2.1-1)) x151.2 m1_0 m1_1 m1_2 m1_3 m1_4 m1_5) (hrc t0 t1 t2 t3 s0.1 x151.1 (w64 (s0.2.2.1-1)) x151.2 m1_0 m1_1 m1_2 m1_3 m1_4 m1_5) fun x153 hx153=>?_;conv=>arg 3;whnf
           exact Zd (ih _)
         ·refine Zg rfl ?_ ?_<;>conv=>arg 3;whnf
          ·refine Zc (Za t0 t1 t2 t3 (w64 (x151.1+1)) s0.2.1 (w64 (s0.2.2.1-1)) x151.2 m1_0 m1_1 m1_2 m1_3 m1_4 m1_5) (hrc t0 t1 t2 t3 (w64 (x151.1+1)) s0.2.1 (w64 (s0.2.2.1-1)) x151.2 m1_0 m1_1 m1_2 m1_3 m1_4 m1_5) fun x154 hx154=>?_;conv=>arg 3;whnf
           exact Zd (ih _)
          ·refine Zc (Za t0 t1 t2 t3 (w64 (x151.1+1)) s0.2.1 (w64 (s0.2.2.1-1)) x151.2 m1_0 m1_1 m1_2 m1_3 m1_4 m1_5) (hrc t0 t1 t2 t3 (w64 (x151.1+1)) s0.2.1 (w64 (s0.2.2.1-1)) x151.2 m1_0 m1_1 m1_2 m1_3 m1_4 m1_5) fun x155 hx155=>?_;conv=>arg 3;whnf
           exact Zd (ih _)
        ·conv=>arg 3;whnf
         refine ZR rfl ?_;conv=>arg 3;whnf
         refine ZR rfl ?_;conv=>arg 3;whnf
         refine Zg rfl ?_ ?_<;>conv=>arg 3;whnf
         ·refine Zg rfl ?_ ?_<;>conv=>arg 3;whnf
          ·refine Zc (Za t0 t1 t2 t3 s0.1 x151.1 (w64 (s0.2.2.1-1)) x151.2 m1_0 m1_1 m1_2 m1_3 m1_4 m1_5) (hrc t0 t1 t2 t3 s0.1 x151.1 (w64 (s0.2.2.1-1)) x151.2 m1_0 m1_1 m1_2 m1_3 m1_4 m1_5) fun x156 hx156=>?_;conv=>arg 3;whnf
           exact Zd (ih _)
          ·refine Zc (Za t0 t1 t2 t3 s0.1 x151.1 (w64 (s0.2.2.1-1)) x151.2 m1_0 m1_1 m1_2 m1_3 m1_4 m1_5) (hrc t0 t1 t2 t3 s0.1 x151.1 (w64 (s0.2.2.1-1)) x151.2 m1_0 m1_1 m1_2 m1_3 m1_4 m1_5) fun x157 hx157=>?_;conv=>arg 3;whnf
           exact Zd (ih _)
         ·refine Zg rfl ?_ ?_<;>conv=>arg 3;whnf
          ·refine Zc (Za t0 t1 t2 t3 (w64 (x151.1+1)) s0.2.1 (w64 (s0.2.2.1-1)) x151.2 m1_0 m1_1 m1_2 m1_3 m1_4 m1_5) (hrc t0 t1 t2 t3 (w64 (x151.1+1)) s0.2.1 (w64 (s0.2.2.1-1)) x151.2 m1_0 m1_1 m1_2 m1_3 m1_4 m1_5) fun x158 hx158=>?_;conv=>arg 3;whnf
           exact Zd (ih _)
          ·refine Zc (Za t0 t1 t2 t3 (w64 (x151.1+1)) s0.2.1 (w64 (s0.2.2.1-1)) x151.2 m1_0 m1_1 m1_2 m1_3 m1_4 m1_5) (hrc t0 t1 t2 t3 (w64 (x151.1+1)) s0.2.1 (w64 (s0.2.2.1-1)) x151.2 m1_0 m1_1 m1_2 m1_3 m1_4 m1_5) fun x159 hx159=>?_;conv=>arg 3;whnf
           exact Zd (ih _)
       ·refine Zc _ ZE fun x160 hx160=>?_;conv=>arg 3;whnf
        exact Zd (ih _)
      ·refine Zc _ Zo fun x161 hx161=>?_
       clear hx161
       rcases x161 with x161 | x161
       ·conv=>arg 3;whnf
        refine Zbr rfl ?_;conv=>arg 3;whnf
        refine ZR rfl ?_;conv=>arg 3;whnf
        refine Zg rfl ?_ ?_<;>conv=>arg 3;whnf
        ·refine Zg rfl ?_ ?_<;>conv=>arg 3;whnf
         ·refine Zc (Za t0 t1 t2 t3 s0.1 x161.1 (w64 (s0.2.2.1-1)) x161.2 m1_0 m1_1 m1_2 m1_3 m1_4 m1_5) (hrc t0 t1 t2 t3 s0.1 x161.1 (w64 (s0.2.2.1-1)) x161.2 m1_0 m1_1 m1_2 m1_3 m1_4 m1_5) fun x162 hx162=>?_;conv=>arg 3;whnf
          exact Zd (ih _)
         ·refine Zc (Za t0 t1 t2 t3 s0.1 x161.1 (w64 (s0.2.2.1-1)) x161.2 m1_0 m1_1 m1_2 m1_3 m1_4 m1_5) (hrc t0 t1 t2 t3 s0.1 x161.1 (w64 (s0.2.2.1-1)) x161.2 m1_0 m1_1 m1_2 m1_3 m1_4 m1_5) fun x163 hx163=>?_;conv=>arg 3;whnf
          exact Zd (ih _)
        ·refine Zg rfl ?_ ?_<;>conv=>arg 3;whnf
         ·refine Zc (Za t0 t1 t2 t3 (w64 (x161.1+1)) s0.2.1 (w64 (s0.2.2.1-1)) x161.2 m1_0 m1_1 m1_2 m1_3 m1_4 m1_5) (hrc t0 t1 t2 t3 (w64 (x161.1+1)) s0.2.1 (w64 (s0.2.2.1-1)) x161.2 m1_0 m1_1 m1_2 m1_3 m1_4 m1_5) fun x164 hx164=>?_;conv=>arg 3;whnf
          exact Zd (ih _)
         ·refine Zc (Za t0 t1 t2 t3 (w64 (x161.1+1)) s0.2.1 (w64 (s0.2.2.1-1)) x161.2 m1_0 m1_1 m1_2 m1_3 m1_4 m1_5) (hrc t0 t1 t2 t3 (w64 (x161.1+1)) s0.2.1 (w64 (s0.2.2.1-1)) x161.2 m1_0 m1_1 m1_2 m1_3 m1_4 m1_5) fun x165 hx165=>?_;conv=>arg 3;whnf
          exact Zd (ih _)
       ·conv=>arg 3;whnf
        refine ZR rfl ?_;conv=>arg 3;whnf
        refine ZR rfl ?_;conv=>arg 3;whnf
        refine Zg rfl ?_ ?_<;>conv=>arg 3;whnf
        ·refine Zg rfl ?_ ?_<;>conv=>arg 3;whnf
         ·refine Zc (Za t0 t1 t2 t3 s0.1 x161.1 (w64 (s0.2.2.1-1)) x161.2 m1_0 m1_1 m1_2 m1_3 m1_4 m1_5) (hrc t0 t1 t2 t3 s0.1 x161.1 (w64 (s0.2.2.1-1)) x161.2 m1_0 m1_1 m1_2 m1_3 m1_4 m1_5) fun x166 hx166=>?_;conv=>arg 3;whnf
          exact Zd (ih _)
         ·refine Zc (Za t0 t1 t2 t3 s0.1 x161.1 (w64 (s0.2.2.1-1)) x161.2 m1_0 m1_1 m1_2 m1_3 m1_4 m1_5) (hrc t0 t1 t2 t3 s0.1 x161.1 (w64 (s0.2.2.1-1)) x161.2 m1_0 m1_1 m1_2 m1_3 m1_4 m1_5) fun x167 hx167=>?_;conv=>arg 3;whnf
          exact Zd (ih _)
        ·refine Zg rfl ?_ ?_<;>conv=>arg 3;whnf
         ·refine Zc (Za t0 t1 t2 t3 (w64 (x161.1+1)) s0.2.1 (w64 (s0.2.2.1-1)) x161.2 m1_0 m1_1 m1_2 m1_3 m1_4 m1_5) (hrc t0 t1 t2 t3 (w64 (x161.1+1)) s0.2.1 (w64 (s0.2.2.1-1)) x161.2 m1_0 m1_1 m1_2 m1_3 m1_4 m1_5) fun x168 hx168=>?_;conv=>arg 3;whnf
          exact Zd (ih _)
         ·refine Zc (Za t0 t1 t2 t3 (w64 (x161.1+1)) s0.2.1 (w64 (s0.2.2.1-1)) x161.2 m1_0 m1_1 m1_2 m1_3 m1_4 m1_5) (hrc t0 t1 t2 t3 (w64 (x161.1+1)) s0.2.1 (w64 (s0.2.2.1-1)) x161.2 m1_0 m1_1 m1_2 m1_3 m1_4 m1_5) fun x169 hx169=>?_;conv=>arg 3;whnf
          exact Zd (ih _)
 ·refine Zox ?_
  rcases hb:s0.2.2.2.2.1 with _ | _
  ·refine ZoW ?_;conv=>arg 3;whnf
   refine Zg rfl ?_ ?_<;>conv=>arg 3;whnf
   ·refine Zc _ ZaQ fun x73 hx73=>?_;conv=>arg 3;whnf
    exact Zh rfl
   ·refine Zg rfl ?_ ?_<;>conv=>arg 3;whnf
    ·refine Zc _ Zbd fun x74 hx74=>?_;conv=>arg 3;whnf
     exact Zh rfl
    ·refine Zc _ ZaZ fun x75 hx75=>?_;conv=>arg 3;whnf
     refine Zg rfl ?_ ?_<;>conv=>arg 3;whnf
     ·refine Zc _ ZaW fun x76 hx76=>?_;conv=>arg 3;whnf
      refine Zg rfl ?_ ?_<;>conv=>arg 3;whnf
      ·refine Zi rfl rfl fun x77 hx77=>?_;conv=>arg 3;whnf
       refine Zf (Zl rfl hx77) ?_;conv=>arg 3;whnf
       refine Zi rfl rfl fun x78 hx78=>?_;conv=>arg 3;whnf
       refine Zf (Zl rfl hx78) ?_;conv=>arg 3;whnf
       refine Zp _ ZO rfl fun x79 hx79=>?_;conv=>arg 3;whnf
       refine Zg rfl ?_ ?_<;>conv=>arg 3;whnf
       ·refine Zc _ Zo fun x80 hx80=>?_
        clear hx80
        rcases x80 with x80 | x80
        ·conv=>arg 3;whnf
         refine Zbr rfl ?_;conv=>arg 3;whnf
         refine ZR rfl ?_;conv=>arg 3;whnf
         refine Zg rfl ?_ ?_<;>conv=>arg 3;whnf
         ·refine Zg rfl ?_ ?_<;>conv=>arg 3;whnf
          ·refine Zc (Za t0 t1 t2 t3 s0.1 x80.1 s0.2.2.1 x80.2 m1_0 m1_1 m1_2 m1_3 m1_4 m1_5) (hrc t0 t1 t2 t3 s0.1 x80.1 s0.2.2.1 x80.2 m1_0 m1_1 m1_2 m1_3 m1_4 m1_5) fun x81 hx81=>?_;conv=>arg 3;whnf
           exact Zd (ih _)
          ·refine Zc (Za t0 t1 t2 t3 s0.1 x80.1 s0.2.2.1 x80.2 m1_0 m1_1 m1_2 m1_3 m1_4 m1_5) (hrc t0 t1 t2 t3 s0.1 x80.1 s0.2.2.1 x80.2 m1_0 m1_1 m1_2 m1_3 m1_4 m1_5) fun x82 hx82=>?_;conv=>arg 3;whnf
           exact Zd (ih _)
         ·refine Zg rfl ?_ ?_<;>conv=>arg 3;whnf
          ·refine Zc (Za t0 t1 t2 t3 (w64 (x80.1+1)) s0.2.1 s0.2.2.1 x80.2 m1_0 m1_1 m1_2 m1_3 m1_4 m1_5) (hrc t0 t1 t2 t3 (w64 (x80.1+1)) s0.2.1 s0.2.2.1 x80.2 m1_0 m1_1 m1_2 m1_3 m1_4 m1_5) fun x83 hx83=>?_;conv=>arg 3;whnf
           exact Zd (ih _)
          ·refine Zc (Za t0 t1 t2 t3 (w64 (x80.1+1)) s0.2.1 s0.2.2.1 x80.2 m1_0 m1_1 m1_2 m1_3 m1_4 m1_5) (hrc t0 t1 t2 t3 (w64 (x80.1+1)) s0.2.1 s0.2.2.1 x80.2 m1_0 m1_1 m1_2 m1_3 m1_4 m1_5) fun x84 hx84=>?_;conv=>arg 3;whnf
           exact Zd (ih _)
        ·conv=>arg 3;whnf
         refine ZR rfl ?_;conv=>arg 3;whnf
         refine ZR rfl ?_;conv=>arg 3;whnf
         refine Zg rfl ?_ ?_<;>conv=>arg 3;whnf
         ·refine Zg rfl ?_ ?_<;>conv=>arg 3;whnf
          ·refine Zc (Za t0 t1 t2 t3 s0.1 x80.1 s0.2.2.1 x80.2 m1_0 m1_1 m1_2 m1_3 m1_4 m1_5) (hrc t0 t1 t2 t3 s0.1 x80.1 s0.2.2.1 x80.2 m1_0 m1_1 m1_2 m1_3 m1_4 m1_5) fun x85 hx85=>?_;conv=>arg 3;whnf
           exact Zd (ih _)
          ·refine Zc (Za t0 t1 t2 t3 s0.1 x80.1 s0.2.2.1 x80.2 m1_0 m1_1 m1_2 m1_3 m1_4 m1_5) (hrc t0 t1 t2 t3 s0.1 x80.1 s0.2.2.1 x80.2 m1_0 m1_1 m1_2 m1_3 m1_4 m1_5) fun x86 hx86=>?_;conv=>arg 3;whnf
           exact Zd (ih _)
         ·refine Zg rfl ?_ ?_<;>conv=>arg 3;whnf
          ·refine Zc (Za t0 t1 t2 t3 (w64 (x80.1+1)) s0.2.1 s0.2.2.1 x80.2 m1_0 m1_1 m1_2 m1_3 m1_4 m1_5) (hrc t0 t1 t2 t3 (w64 (x80.1+1)) s0.2.1 s0.2.2.1 x80.2 m1_0 m1_1 m1_2 m1_3 m1_4 m1_5) fun x87 hx87=>?_;conv=>arg 3;whnf
           exact Zd (ih _)
          ·refine Zc (Za t0 t1 t2 t3 (w64 (x80.1+1)) s0.2.1 s0.2.2.1 x80.2 m1_0 m1_1 m1_2 m1_3 m1_4 m1_5) (hrc t0 t1 t2 t3 (w64 (x80.1+1)) s0.2.1 s0.2.2.1 x80.2 m1_0 m1_1 m1_2 m1_3 m1_4 m1_5) fun x88 hx88=>?_;conv=>arg 3;whnf
           exact Zd (ih _)
       ·refine Zc _ ZE fun x89 hx89=>?_;conv=>arg 3;whnf
        exact Zd (ih _)
      ·refine Zc _ Zo fun x90 hx90=>?_
       clear hx90
       rcases x90 with x90 | x90
       ·conv=>arg 3;whnf
        refine Zbr rfl ?_;conv=>arg 3;whnf
        refine ZR rfl ?_;conv=>arg 3;whnf
        refine Zg rfl ?_ ?_<;>conv=>arg 3;whnf
        ·refine Zg rfl ?_ ?_<;>conv=>arg 3;whnf
         ·refine Zc (Za t0 t1 t2 t3 s0.1 x90.1 s0.2.2.1 x90.2 m1_0 m1_1 m1_2 m1_3 m1_4 m1_5) (hrc t0 t1 t2 t3 s0.1 x90.1 s0.2.2.1 x90.2 m1_0 m1_1 m1_2 m1_3 m1_4 m1_5) fun x91 hx91=>?_;conv=>arg 3;whnf
          exact Zd (ih _)
         ·refine Zc (Za t0 t1 t2 t3 s0.1 x90.1 s0.2.2.1 x90.2 m1_0 m1_1 m1_2 m1_3 m1_4 m1_5) (hrc t0 t1 t2 t3 s0.1 x90.1 s0.2.2.1 x90.2 m1_0 m1_1 m1_2 m1_3 m1_4 m1_5) fun x92 hx92=>?_;conv=>arg 3;whnf
          exact Zd (ih _)
        ·refine Zg rfl ?_ ?_<;>conv=>arg 3;whnf
         ·refine Zc (Za t0 t1 t2 t3 (w64 (x90.1+1)) s0.2.1 s0.2.2.1 x90.2 m1_0 m1_1 m1_2 m1_3 m1_4 m1_5) (hrc t0 t1 t2 t3 (w64 (x90.1+1)) s0.2.1 s0.2.2.1 x90.2 m1_0 m1_1 m1_2 m1_3 m1_4 m1_5) fun x93 hx93=>?_;conv=>arg 3;whnf
          exact Zd (ih _)
         ·refine Zc (Za t0 t1 t2 t3 (w64 (x90.1+1)) s0.2.1 s0.2.2.1 x90.2 m1_0 m1_1 m1_2 m1_3 m1_4 m1_5) (hrc t0 t1 t2 t3 (w64 (x90.1+1)) s0.2.1 s0.2.2.1 x90.2 m1_0 m1_1 m1_2 m1_3 m1_4 m1_5) fun x94 hx94=>?_;conv=>arg 3;whnf
          exact Zd (ih _)
       ·conv=>arg 3;whnf
        refine ZR rfl ?_;conv=>arg 3;whnf
        refine ZR rfl ?_;conv=>arg 3;whnf
        refine Zg rfl ?_ ?_<;>conv=>arg 3;whnf
        ·refine Zg rfl ?_ ?_<;>conv=>arg 3;whnf
         ·refine Zc (Za t0 t1 t2 t3 s0.1 x90.1 s0.2.2.1 x90.2 m1_0 m1_1 m1_2 m1_3 m1_4 m1_5) (hrc t0 t1 t2 t3 s0.1 x90.1 s0.2.2.1 x90.2 m1_0 m1_1 m1_2 m1_3 m1_4 m1_5) fun x95 hx95=>?_;conv=>arg 3;whnf
          exact Zd (ih _)
         ·refine Zc (Za t0 t1 t2 t3 s0.1 x90.1 s0.2.2.1 x90.2 m1_0 m1_1 m1_2 m1_3 m1_4 m1_5) (hrc t0 t1 t2 t3 s0.1 x90.1 s0.2.2.1 x90.2 m1_0 m1_1 m1_2 m1_3 m1_4 m1_5) fun x96 hx96=>?_;conv=>arg 3;whnf
          exact Zd (ih _)
        ·refine Zg rfl ?_ ?_<;>conv=>arg 3;whnf
         ·refine Zc (Za t0 t1 t2 t3 (w64 (x90.1+1)) s0.2.1 s0.2.2.1 x90.2 m1_0 m1_1 m1_2 m1_3 m1_4 m1_5) (hrc t0 t1 t2 t3 (w64 (x90.1+1)) s0.2.1 s0.2.2.1 x90.2 m1_0 m1_1 m1_2 m1_3 m1_4 m1_5) fun x97 hx97=>?_;conv=>arg 3;whnf
          exact Zd (ih _)
         ·refine Zc (Za t0 t1 t2 t3 (w64 (x90.1+1)) s0.2.1 s0.2.2.1 x90.2 m1_0 m1_1 m1_2 m1_3 m1_4 m1_5) (hrc t0 t1 t2 t3 (w64 (x90.1+1)) s0.2.1 s0.2.2.1 x90.2 m1_0 m1_1 m1_2 m1_3 m1_4 m1_5) fun x98 hx98=>?_;conv=>arg 3;whnf
          exact Zd (ih _)
     ·refine Zg rfl ?_ ?_<;>conv=>arg 3;whnf
      ·refine Zi rfl rfl fun x99 hx99=>?_;conv=>arg 3;whnf
       refine Zf (Zl rfl hx99) ?_;conv=>arg 3;whnf
       refine Zi rfl rfl fun x100 hx100=>?_;conv=>arg 3;whnf
       refine Zf (Zl rfl hx100) ?_;conv=>arg 3;whnf
       refine Zp _ ZO rfl fun x101 hx101=>?_;conv=>arg 3;whnf
       refine Zg rfl ?_ ?_<;>conv=>arg 3;whnf
       ·refine Zc _ Zo fun x102 hx102=>?_
        clear hx102
        rcases x102 with x102 | x102
        ·conv=>arg 3;whnf
         refine Zbr rfl ?_;conv=>arg 3;whnf
         refine ZR rfl ?_;conv=>arg 3;whnf
         refine Zg rfl ?_ ?_<;>conv=>arg 3;whnf
         ·refine Zg rfl ?_ ?_<;>conv=>arg 3;whnf
          ·refine Zc (Za t0 t1 t2 t3 s0.1 x102.1 s0.2.2.1 x102.2 m1_0 m1_1 m1_2 m1_3 m1_4 m1_5) (hrc t0 t1 t2 t3 s0.1 x102.1 s0.2.2.1 x102.2 m1_0 m1_1 m1_2 m1_3 m1_4 m1_5) fun x103 hx103=>?_;conv=>arg 3;whnf
           exact Zd (ih _)
          ·refine Zc (Za t0 t1 t2 t3 s0.1 x102.1 s0.2.2.1 x102.2 m1_0 m1_1 m1_2 m1_3 m1_4 m1_5) (hrc t0 t1 t2 t3 s0.1 x102.1 s0.2.2.1 x102.2 m1_0 m1_1 m1_2 m1_3 m1_4 m1_5) fun x104 hx104=>?_;conv=>arg 3;whnf
           exact Zd (ih _)
         ·refine Zg rfl ?_ ?_<;>conv=>arg 3;whnf
          ·refine Zc (Za t0 t1 t2 t3 (w64 (x102.1+1)) s0.2.1 s0.2.2.1 x102.2 m1_0 m1_1 m1_2 m1_3 m1_4 m1_5) (hrc t0 t1 t2 t3 (w64 (x102.1+1)) s0.2.1 s0.2.2.1 x102.2 m1_0 m1_1 m1_2 m1_3 m1_4 m1_5) fun x105 hx105=>?_;conv=>arg 3;whnf
           exact Zd (ih _)
          ·refine Zc (Za t0 t1 t2 t3 (w64 (x102.1+1)) s0.2.1 s0.2.2.1 x102.2 m1_0 m1_1 m1_2 m1_3 m1_4 m1_5) (hrc t0 t1 t2 t3 (w64 (x102.1+1)) s0.2.1 s0.2.2.1 x102.2 m1_0 m1_1 m1_2 m1_3 m1_4 m1_5) fun x106 hx106=>?_;conv=>arg 3;whnf
           exact Zd (ih _)
        ·conv=>arg 3;whnf
         refine ZR rfl ?_;conv=>arg 3;whnf
         refine ZR rfl ?_;conv=>arg 3;whnf
         refine Zg rfl ?_ ?_<;>conv=>arg 3;whnf
         ·refine Zg rfl ?_ ?_<;>conv=>arg 3;whnf
          ·refine Zc (Za t0 t1 t2 t3 s0.1 x102.1 s0.2.2.1 x102.2 m1_0 m1_1 m1_2 m1_3 m1_4 m1_5) (hrc t0 t1 t2 t3 s0.1 x102.1 s0.2.2.1 x102.2 m1_0 m1_1 m1_2 m1_3 m1_4 m1_5) fun x107 hx107=>?_;conv=>arg 3;whnf
           exact Zd (ih _)
          ·refine Zc (Za t0 t1 t2 t3 s0.1 x102.1 s0.2.2.1 x102.2 m1_0 m1_1 m1_2 m1_3 m1_4 m1_5) (hrc t0 t1 t2 t3 s0.1 x102.1 s0.2.2.1 x102.2 m1_0 m1_1 m1_2 m1_3 m1_4 m1_5) fun x108 hx108=>?_;conv=>arg 3;whnf
           exact Zd (ih _)
         ·refine Zg rfl ?_ ?_<;>conv=>arg 3;whnf
          ·refine Zc (Za t0 t1 t2 t3 (w64 (x102.1+1)) s0.2.1 s0.2.2.1 x102.2 m1_0 m1_1 m1_2 m1_3 m1_4 m1_5) (hrc t0 t1 t2 t3 (w64 (x102.1+1)) s0.2.1 s0.2.2.1 x102.2 m1_0 m1_1 m1_2 m1_3 m1_4 m1_5) fun x109 hx109=>?_;conv=>arg 3;whnf
           exact Zd (ih _)
          ·refine Zc (Za t0 t1 t2 t3 (w64 (x102.1+1)) s0.2.1 s0.2.2.1 x102.2 m1_0 m1_1 m1_2 m1_3 m1_4 m1_5) (hrc t0 t1 t2 t3 (w64 (x102.1+1)) s0.2.1 s0.2.2.1 x102.2 m1_0 m1_1 m1_2 m1_3 m1_4 m1_5) fun x110 hx110=>?_;conv=>arg 3;whnf
           exact Zd (ih _)
       ·refine Zc _ ZE fun x111 hx111=>?_;conv=>arg 3;whnf
        exact Zd (ih _)
      ·refine Zc _ Zo fun x112 hx112=>?_
       clear hx112
       rcases x112 with x112 | x112
       ·conv=>arg 3;whnf
        refine Zbr rfl ?_;conv=>arg 3;whnf
        refine ZR rfl ?_;conv=>arg 3;whnf
        refine Zg rfl ?_ ?_<;>conv=>arg 3;whnf
        ·refine Zg rfl ?_ ?_<;>conv=>arg 3;whnf
         ·refine Zc (Za t0 t1 t2 t3 s0.1 x112.1 s0.2.2.1 x112.2 m1_0 m1_1 m1_2 m1_3 m1_4 m1_5) (hrc t0 t1 t2 t3 s0.1 x112.1 s0.2.2.1 x112.2 m1_0 m1_1 m1_2 m1_3 m1_4 m1_5) fun x113 hx113=>?_;conv=>arg 3;whnf
          exact Zd (ih _)
         ·refine Zc (Za t0 t1 t2 t3 s0.1 x112.1 s0.2.2.1 x112.2 m1_0 m1_1 m1_2 m1_3 m1_4 m1_5) (hrc t0 t1 t2 t3 s0.1 x112.1 s0.2.2.1 x112.2 m1_0 m1_1 m1_2 m1_3 m1_4 m1_5) fun x114 hx114=>?_;conv=>arg 3;whnf
          exact Zd (ih _)
        ·refine Zg rfl ?_ ?_<;>conv=>arg 3;whnf
         ·refine Zc (Za t0 t1 t2 t3 (w64 (x112.1+1)) s0.2.1 s0.2.2.1 x112.2 m1_0 m1_1 m1_2 m1_3 m1_4 m1_5) (hrc t0 t1 t2 t3 (w64 (x112.1+1)) s0.2.1 s0.2.2.1 x112.2 m1_0 m1_1 m1_2 m1_3 m1_4 m1_5) fun x115 hx115=>?_;conv=>arg 3;whnf
          exact Zd (ih _)
         ·refine Zc (Za t0 t1 t2 t3 (w64 (x112.1+1)) s0.2.1 s0.2.2.1 x112.2 m1_0 m1_1 m1_2 m1_3 m1_4 m1_5) (hrc t0 t1 t2 t3 (w64 (x112.1+1)) s0.2.1 s0.2.2.1 x112.2 m1_0 m1_1 m1_2 m1_3 m1_4 m1_5) fun x116 hx116=>?_;conv=>arg 3;whnf
          exact Zd (ih _)
       ·conv=>arg 3;whnf
        refine ZR rfl ?_;conv=>arg 3;whnf
        refine ZR rfl ?_;conv=>arg 3;whnf
        refine Zg rfl ?_ ?_<;>conv=>arg 3;whnf
        ·refine Zg rfl ?_ ?_<;>conv=>arg 3;whnf
         ·refine Zc (Za t0 t1 t2 t3 s0.1 x112.1 s0.2.2.1 x112.2 m1_0 m1_1 m1_2 m1_3 m1_4 m1_5) (hrc t0 t1 t2 t3 s0.1 x112.1 s0.2.2.1 x112.2 m1_0 m1_1 m1_2 m1_3 m1_4 m1_5) fun x117 hx117=>?_;conv=>arg 3;whnf
          exact Zd (ih _)
         ·refine Zc (Za t0 t1 t2 t3 s0.1 x112.1 s0.2.2.1 x112.2 m1_0 m1_1 m1_2 m1_3 m1_4 m1_5) (hrc t0 t1 t2 t3 s0.1 x112.1 s0.2.2.1 x112.2 m1_0 m1_1 m1_2 m1_3 m1_4 m1_5) fun x118 hx118=>?_;conv=>arg 3;whnf
          exact Zd (ih _)
        ·refine Zg rfl ?_ ?_<;>conv=>arg 3;whnf
         ·refine Zc (Za t0 t1 t2 t3 (w64 (x112.1+1)) s0.2.1 s0.2.2.1 x112.2 m1_0 m1_1 m1_2 m1_3 m1_4 m1_5) (hrc t0 t1 t2 t3 (w64 (x112.1+1)) s0.2.1 s0.2.2.1 x112.2 m1_0 m1_1 m1_2 m1_3 m1_4 m1_5) fun x119 hx119=>?_;conv=>arg 3;whnf
          exact Zd (ih _)
         ·refine Zc (Za t0 t1 t2 t3 (w64 (x112.1+1)) s0.2.1 s0.2.2.1 x112.2 m1_0 m1_1 m1_2 m1_3 m1_4 m1_5) (hrc t0 t1 t2 t3 (w64 (x112.1+1)) s0.2.1 s0.2.2.1 x112.2 m1_0 m1_1 m1_2 m1_3 m1_4 m1_5) fun x120 hx120=>?_;conv=>arg 3;whnf
          exact Zd (ih _)
  ·refine Zox ?_;conv=>arg 3;whnf
   refine Zg rfl ?_ ?_<;>conv=>arg 3;whnf
   ·refine Zc _ ZaQ fun x1 hx1=>?_;conv=>arg 3;whnf
    exact Zh rfl
   ·refine Zg rfl ?_ ?_<;>conv=>arg 3;whnf
    ·refine Zc _ Zbd fun x2 hx2=>?_;conv=>arg 3;whnf
     exact Zh rfl
    ·refine Zc _ ZaZ fun x3 hx3=>?_;conv=>arg 3;whnf
     refine Zg rfl ?_ ?_<;>conv=>arg 3;whnf
     ·refine Zc _ ZaW fun x4 hx4=>?_;conv=>arg 3;whnf
      refine Zbr rfl ?_;conv=>arg 3;whnf
      refine Zc _ Zb3 fun x5 hx5=>?_
      clear hx5
      rcases x5 with x5 | x5
      ·conv=>arg 3;whnf
       exact Zh rfl
      ·conv=>arg 3;whnf
       refine Zg rfl ?_ ?_<;>conv=>arg 3;whnf
       ·refine Zi rfl rfl fun x6 hx6=>?_;conv=>arg 3;whnf
        refine Zf (Zl rfl hx6) ?_;conv=>arg 3;whnf
        refine Zi rfl rfl fun x7 hx7=>?_;conv=>arg 3;whnf
        refine Zf (Zl rfl hx7) ?_;conv=>arg 3;whnf
        refine Zp _ ZO rfl fun x8 hx8=>?_;conv=>arg 3;whnf
        refine Zg rfl ?_ ?_<;>conv=>arg 3;whnf
        ·refine Zc _ Zo fun x9 hx9=>?_
         clear hx9
         rcases x9 with x9 | x9
         ·conv=>arg 3;whnf
          refine Zbr rfl ?_;conv=>arg 3;whnf
          refine ZR rfl ?_;conv=>arg 3;whnf
          refine Zg rfl ?_ ?_<;>conv=>arg 3;whnf
          ·refine Zg rfl ?_ ?_<;>conv=>arg 3;whnf
           ·refine Zc (Za t0 t1 t2 t3 s0.1 x9.1 s0.2.2.1 x9.2 m1_0 m1_1 m1_2 m1_3 m1_4 m1_5) (hrc t0 t1 t2 t3 s0.1 x9.1 s0.2.2.1 x9.2 m1_0 m1_1 m1_2 m1_3 m1_4 m1_5) fun x10 hx10=>?_;conv=>arg 3;whnf
            exact Zd (ih _)
           ·refine Zc (Za t0 t1 t2 t3 s0.1 x9.1 s0.2.2.1 x9.2 m1_0 m1_1 m1_2 m1_3 m1_4 m1_5) (hrc t0 t1 t2 t3 s0.1 x9.1 s0.2.2.1 x9.2 m1_0 m1_1 m1_2 m1_3 m1_4 m1_5) fun x11 hx11=>?_;conv=>arg 3;whnf
            exact Zd (ih _)
          ·refine Zg rfl ?_ ?_<;>conv=>arg 3;whnf
           ·refine Zc (Za t0 t1 t2 t3 (w64 (x9.1+1)) s0.2.1 s0.2.2.1 x9.2 m1_0 m1_1 m1_2 m1_3 m1_4 m1_5) (hrc t0 t1 t2 t3 (w64 (x9.1+1)) s0.2.1 s0.2.2.1 x9.2 m1_0 m1_1 m1_2 m1_3 m1_4 m1_5) fun x12 hx12=>?_;conv=>arg 3;whnf
            exact Zd (ih _)
           ·refine Zc (Za t0 t1 t2 t3 (w64 (x9.1+1)) s0.2.1 s0.2.2.1 x9.2 m1_0 m1_1 m1_2 m1_3 m1_4 m1_5) (hrc t0 t1 t2 t3 (w64 (x9.1+1)) s0.2.1 s0.2.2.1 x9.2 m1_0 m1_1 m1_2 m1_3 m1_4 m1_5) fun x13 hx13=>?_;conv=>arg 3;whnf
            exact Zd (ih _)
         ·conv=>arg 3;whnf
          refine ZR rfl ?_;conv=>arg 3;whnf
          refine ZR rfl ?_;conv=>arg 3;whnf
          refine Zg rfl ?_ ?_<;>conv=>arg 3;whnf
          ·refine Zg rfl ?_ ?_<;>conv=>arg 3;whnf
           ·refine Zc (Za t0 t1 t2 t3 s0.1 x9.1 s0.2.2.1 x9.2 m1_0 m1_1 m1_2 m1_3 m1_4 m1_5) (hrc t0 t1 t2 t3 s0.1 x9.1 s0.2.2.1 x9.2 m1_0 m1_1 m1_2 m1_3 m1_4 m1_5) fun x14 hx14=>?_;conv=>arg 3;whnf
            exact Zd (ih _)
           ·refine Zc (Za t0 t1 t2 t3 s0.1 x9.1 s0.2.2.1 x9.2 m1_0 m1_1 m1_2 m1_3 m1_4 m1_5) (hrc t0 t1 t2 t3 s0.1 x9.1 s0.2.2.1 x9.2 m1_0 m1_1 m1_2 m1_3 m1_4 m1_5) fun x15 hx15=>?_;conv=>arg 3;whnf
            exact Zd (ih _)
          ·refine Zg rfl ?_ ?_<;>conv=>arg 3;whnf
           ·refine Zc (Za t0 t1 t2 t3 (w64 (x9.1+1)) s0.2.1 s0.2.2.1 x9.2 m1_0 m1_1 m1_2 m1_3 m1_4 m1_5) (hrc t0 t1 t2 t3 (w64 (x9.1+1)) s0.2.1 s0.2.2.1 x9.2 m1_0 m1_1 m1_2 m1_3 m1_4 m1_5) fun x16 hx16=>?_;conv=>arg 3;whnf
            exact Zd (ih _)
           ·refine Zc (Za t0 t1 t2 t3 (w64 (x9.1+1)) s0.2.1 s0.2.2.1 x9.2 m1_0 m1_1 m1_2 m1_3 m1_4 m1_5) (hrc t0 t1 t2 t3 (w64 (x9.1+1)) s0.2.1 s0.2.2.1 x9.2 m1_0 m1_1 m1_2 m1_3 m1_4 m1_5) fun x17 hx17=>?_;conv=>arg 3;whnf
            exact Zd (ih _)
        ·refine Zc _ ZE fun x18 hx18=>?_;conv=>arg 3;whnf
         exact Zd (ih _)
       ·refine Zc _ Zo fun x19 hx19=>?_
        clear hx19
        rcases x19 with x19 | x19
        ·conv=>arg 3;whnf
         refine Zbr rfl ?_;conv=>arg 3;whnf
         refine ZR rfl ?_;conv=>arg 3;whnf
         refine Zg rfl ?_ ?_<;>conv=>arg 3;whnf
         ·refine Zg rfl ?_ ?_<;>conv=>arg 3;whnf
          ·refine Zc (Za t0 t1 t2 t3 s0.1 x19.1 s0.2.2.1 x19.2 m1_0 m1_1 m1_2 m1_3 m1_4 m1_5) (hrc t0 t1 t2 t3 s0.1 x19.1 s0.2.2.1 x19.2 m1_0 m1_1 m1_2 m1_3 m1_4 m1_5) fun x20 hx20=>?_;conv=>arg 3;whnf
           exact Zd (ih _)
          ·refine Zc (Za t0 t1 t2 t3 s0.1 x19.1 s0.2.2.1 x19.2 m1_0 m1_1 m1_2 m1_3 m1_4 m1_5) (hrc t0 t1 t2 t3 s0.1 x19.1 s0.2.2.1 x19.2 m1_0 m1_1 m1_2 m1_3 m1_4 m1_5) fun x21 hx21=>?_;conv=>arg 3;whnf
           exact Zd (ih _)
         ·refine Zg rfl ?_ ?_<;>conv=>arg 3;whnf
          ·refine Zc (Za t0 t1 t2 t3 (w64 (x19.1+1)) s0.2.1 s0.2.2.1 x19.2 m1_0 m1_1 m1_2 m1_3 m1_4 m1_5) (hrc t0 t1 t2 t3 (w64 (x19.1+1)) s0.2.1 s0.2.2.1 x19.2 m1_0 m1_1 m1_2 m1_3 m1_4 m1_5) fun x22 hx22=>?_;conv=>arg 3;whnf
           exact Zd (ih _)
          ·refine Zc (Za t0 t1 t2 t3 (w64 (x19.1+1)) s0.2.1 s0.2.2.1 x19.2 m1_0 m1_1 m1_2 m1_3 m1_4 m1_5) (hrc t0 t1 t2 t3 (w64 (x19.1+1)) s0.2.1 s0.2.2.1 x19.2 m1_0 m1_1 m1_2 m1_3 m1_4 m1_5) fun x23 hx23=>?_;conv=>arg 3;whnf
           exact Zd (ih _)
        ·conv=>arg 3;whnf
         refine ZR rfl ?_;conv=>arg 3;whnf
         refine ZR rfl ?_;conv=>arg 3;whnf
         refine Zg rfl ?_ ?_<;>conv=>arg 3;whnf
         ·refine Zg rfl ?_ ?_<;>conv=>arg 3;whnf
          ·refine Zc (Za t0 t1 t2 t3 s0.1 x19.1 s0.2.2.1 x19.2 m1_0 m1_1 m1_2 m1_3 m1_4 m1_5) (hrc t0 t1 t2 t3 s0.1 x19.1 s0.2.2.1 x19.2 m1_0 m1_1 m1_2 m1_3 m1_4 m1_5) fun x24 hx24=>?_;conv=>arg 3;whnf
           exact Zd (ih _)
          ·refine Zc (Za t0 t1 t2 t3 s0.1 x19.1 s0.2.2.1 x19.2 m1_0 m1_1 m1_2 m1_3 m1_4 m1_5) (hrc t0 t1 t2 t3 s0.1 x19.1 s0.2.2.1 x19.2 m1_0 m1_1 m1_2 m1_3 m1_4 m1_5) fun x25 hx25=>?_;conv=>arg 3;whnf
           exact Zd (ih _)
         ·refine Zg rfl ?_ ?_<;>conv=>arg 3;whnf
          ·refine Zc (Za t0 t1 t2 t3 (w64 (x19.1+1)) s0.2.1 s0.2.2.1 x19.2 m1_0 m1_1 m1_2 m1_3 m1_4 m1_5) (hrc t0 t1 t2 t3 (w64 (x19.1+1)) s0.2.1 s0.2.2.1 x19.2 m1_0 m1_1 m1_2 m1_3 m1_4 m1_5) fun x26 hx26=>?_;conv=>arg 3;whnf
           exact Zd (ih _)
          ·refine Zc (Za t0 t1 t2 t3 (w64 (x19.1+1)) s0.2.1 s0.2.2.1 x19.2 m1_0 m1_1 m1_2 m1_3 m1_4 m1_5) (hrc t0 t1 t2 t3 (w64 (x19.1+1)) s0.2.1 s0.2.2.1 x19.2 m1_0 m1_1 m1_2 m1_3 m1_4 m1_5) fun x27 hx27=>?_;conv=>arg 3;whnf
           exact Zd (ih _)
     ·refine Zg rfl ?_ ?_<;>conv=>arg 3;whnf
      ·refine Zc _ Zb3 fun x28 hx28=>?_
       clear hx28
       rcases x28 with x28 | x28
       ·conv=>arg 3;whnf
        exact Zh rfl
       ·conv=>arg 3;whnf
        refine Zg rfl ?_ ?_<;>conv=>arg 3;whnf
        ·refine Zi rfl rfl fun x29 hx29=>?_;conv=>arg 3;whnf
         refine Zf (Zl rfl hx29) ?_;conv=>arg 3;whnf
         refine Zi rfl rfl fun x30 hx30=>?_;conv=>arg 3;whnf
         refine Zf (Zl rfl hx30) ?_;conv=>arg 3;whnf
         refine Zp _ ZO rfl fun x31 hx31=>?_;conv=>arg 3;whnf
         refine Zg rfl ?_ ?_<;>conv=>arg 3;whnf
         ·refine Zc _ Zo fun x32 hx32=>?_
          clear hx32
          rcases x32 with x32 | x32
          ·conv=>arg 3;whnf
           refine Zbr rfl ?_;conv=>arg 3;whnf
           refine ZR rfl ?_;conv=>arg 3;whnf
           refine Zg rfl ?_ ?_<;>conv=>arg 3;whnf
           ·refine Zg rfl ?_ ?_<;>conv=>arg 3;whnf
            ·refine Zc (Za t0 t1 t2 t3 s0.1 x32.1 s0.2.2.1 x32.2 m1_0 m1_1 m1_2 m1_3 m1_4 m1_5) (hrc t0 t1 t2 t3 s0.1 x32.1 s0.2.2.1 x32.2 m1_0 m1_1 m1_2 m1_3 m1_4 m1_5) fun x33 hx33=>?_;conv=>arg 3;whnf
             exact Zd (ih _)
            ·refine Zc (Za t0 t1 t2 t3 s0.1 x32.1 s0.2.2.1 x32.2 m1_0 m1_1 m1_2 m1_3 m1_4 m1_5) (hrc t0 t1 t2 t3 s0.1 x32.1 s0.2.2.1 x32.2 m1_0 m1_1 m1_2 m1_3 m1_4 m1_5) fun x34 hx34=>?_;conv=>arg 3;whnf
             exact Zd (ih _)
           ·refine Zg rfl ?_ ?_<;>conv=>arg 3;whnf
            ·refine Zc (Za t0 t1 t2 t3 (w64 (x32.1+1)) s0.2.1 s0.2.2.1 x32.2 m1_0 m1_1 m1_2 m1_3 m1_4 m1_5) (hrc t0 t1 t2 t3 (w64 (x32.1+1)) s0.2.1 s0.2.2.1 x32.2 m1_0 m1_1 m1_2 m1_3 m1_4 m1_5) fun x35 hx35=>?_;conv=>arg 3;whnf
             exact Zd (ih _)
            ·refine Zc (Za t0 t1 t2 t3 (w64 (x32.1+1)) s0.2.1 s0.2.2.1 x32.2 m1_0 m1_1 m1_2 m1_3 m1_4 m1_5) (hrc t0 t1 t2 t3 (w64 (x32.1+1)) s0.2.1 s0.2.2.1 x32.2 m1_0 m1_1 m1_2 m1_3 m1_4 m1_5) fun x36 hx36=>?_;conv=>arg 3;whnf
             exact Zd (ih _)
          ·conv=>arg 3;whnf
           refine ZR rfl ?_;conv=>arg 3;whnf
           refine ZR rfl ?_;conv=>arg 3;whnf
           refine Zg rfl ?_ ?_<;>conv=>arg 3;whnf
           ·refine Zg rfl ?_ ?_<;>conv=>arg 3;whnf
            ·refine Zc (Za t0 t1 t2 t3 s0.1 x32.1 s0.2.2.1 x32.2 m1_0 m1_1 m1_2 m1_3 m1_4 m1_5) (hrc t0 t1 t2 t3 s0.1 x32.1 s0.2.2.1 x32.2 m1_0 m1_1 m1_2 m1_3 m1_4 m1_5) fun x37 hx37=>?_;conv=>arg 3;whnf
             exact Zd (ih _)
            ·refine Zc (Za t0 t1 t2 t3 s0.1 x32.1 s0.2.2.1 x32.2 m1_0 m1_1 m1_2 m1_3 m1_4 m1_5) (hrc t0 t1 t2 t3 s0.1 x32.1 s0.2.2.1 x32.2 m1_0 m1_1 m1_2 m1_3 m1_4 m1_5) fun x38 hx38=>?_;conv=>arg 3;whnf
             exact Zd (ih _)
           ·refine Zg rfl ?_ ?_<;>conv=>arg 3;whnf
            ·refine Zc (Za t0 t1 t2 t3 (w64 (x32.1+1)) s0.2.1 s0.2.2.1 x32.2 m1_0 m1_1 m1_2 m1_3 m1_4 m1_5) (hrc t0 t1 t2 t3 (w64 (x32.1+1)) s0.2.1 s0.2.2.1 x32.2 m1_0 m1_1 m1_2 m1_3 m1_4 m1_5) fun x39 hx39=>?_;conv=>arg 3;whnf
             exact Zd (ih _)
            ·refine Zc (Za t0 t1 t2 t3 (w64 (x32.1+1)) s0.2.1 s0.2.2.1 x32.2 m1_0 m1_1 m1_2 m1_3 m1_4 m1_5) (hrc t0 t1 t2 t3 (w64 (x32.1+1)) s0.2.1 s0.2.2.1 x32.2 m1_0 m1_1 m1_2 m1_3 m1_4 m1_5) fun x40 hx40=>?_;conv=>arg 3;whnf
             exact Zd (ih _)
         ·refine Zc _ ZE fun x41 hx41=>?_;conv=>arg 3;whnf
          exact Zd (ih _)
        ·refine Zc _ Zo fun x42 hx42=>?_
         clear hx42
         rcases x42 with x42 | x42
         ·conv=>arg 3;whnf
          refine Zbr rfl ?_;conv=>arg 3;whnf
          refine ZR rfl ?_;conv=>arg 3;whnf
          refine Zg rfl ?_ ?_<;>conv=>arg 3;whnf
          ·refine Zg rfl ?_ ?_<;>conv=>arg 3;whnf
           ·refine Zc (Za t0 t1 t2 t3 s0.1 x42.1 s0.2.2.1 x42.2 m1_0 m1_1 m1_2 m1_3 m1_4 m1_5) (hrc t0 t1 t2 t3 s0.1 x42.1 s0.2.2.1 x42.2 m1_0 m1_1 m1_2 m1_3 m1_4 m1_5) fun x43 hx43=>?_;conv=>arg 3;whnf
            exact Zd (ih _)
           ·refine Zc (Za t0 t1 t2 t3 s0.1 x42.1 s0.2.2.1 x42.2 m1_0 m1_1 m1_2 m1_3 m1_4 m1_5) (hrc t0 t1 t2 t3 s0.1 x42.1 s0.2.2.1 x42.2 m1_0 m1_1 m1_2 m1_3 m1_4 m1_5) fun x44 hx44=>?_;conv=>arg 3;whnf
            exact Zd (ih _)
          ·refine Zg rfl ?_ ?_<;>conv=>arg 3;whnf
           ·refine Zc (Za t0 t1 t2 t3 (w64 (x42.1+1)) s0.2.1 s0.2.2.1 x42.2 m1_0 m1_1 m1_2 m1_3 m1_4 m1_5) (hrc t0 t1 t2 t3 (w64 (x42.1+1)) s0.2.1 s0.2.2.1 x42.2 m1_0 m1_1 m1_2 m1_3 m1_4 m1_5) fun x45 hx45=>?_;conv=>arg 3;whnf
            exact Zd (ih _)
           ·refine Zc (Za t0 t1 t2 t3 (w64 (x42.1+1)) s0.2.1 s0.2.2.1 x42.2 m1_0 m1_1 m1_2 m1_3 m1_4 m1_5) (hrc t0 t1 t2 t3 (w64 (x42.1+1)) s0.2.1 s0.2.2.1 x42.2 m1_0 m1_1 m1_2 m1_3 m1_4 m1_5) fun x46 hx46=>?_;conv=>arg 3;whnf
            exact Zd (ih _)
         ·conv=>arg 3;whnf
          refine ZR rfl ?_;conv=>arg 3;whnf
          refine ZR rfl ?_;conv=>arg 3;whnf
          refine Zg rfl ?_ ?_<;>conv=>arg 3;whnf
          ·refine Zg rfl ?_ ?_<;>conv=>arg 3;whnf
           ·refine Zc (Za t0 t1 t2 t3 s0.1 x42.1 s0.2.2.1 x42.2 m1_0 m1_1 m1_2 m1_3 m1_4 m1_5) (hrc t0 t1 t2 t3 s0.1 x42.1 s0.2.2.1 x42.2 m1_0 m1_1 m1_2 m1_3 m1_4 m1_5) fun x47 hx47=>?_;conv=>arg 3;whnf
            exact Zd (ih _)
           ·refine Zc (Za t0 t1 t2 t3 s0.1 x42.1 s0.2.2.1 x42.2 m1_0 m1_1 m1_2 m1_3 m1_4 m1_5) (hrc t0 t1 t2 t3 s0.1 x42.1 s0.2.2.1 x42.2 m1_0 m1_1 m1_2 m1_3 m1_4 m1_5) fun x48 hx48=>?_;conv=>arg 3;whnf
            exact Zd (ih _)
          ·refine Zg rfl ?_ ?_<;>conv=>arg 3;whnf
           ·refine Zc (Za t0 t1 t2 t3 (w64 (x42.1+1)) s0.2.1 s0.2.2.1 x42.2 m1_0 m1_1 m1_2 m1_3 m1_4 m1_5) (hrc t0 t1 t2 t3 (w64 (x42.1+1)) s0.2.1 s0.2.2.1 x42.2 m1_0 m1_1 m1_2 m1_3 m1_4 m1_5) fun x49 hx49=>?_;conv=>arg 3;whnf
            exact Zd (ih _)
           ·refine Zc (Za t0 t1 t2 t3 (w64 (x42.1+1)) s0.2.1 s0.2.2.1 x42.2 m1_0 m1_1 m1_2 m1_3 m1_4 m1_5) (hrc t0 t1 t2 t3 (w64 (x42.1+1)) s0.2.1 s0.2.2.1 x42.2 m1_0 m1_1 m1_2 m1_3 m1_4 m1_5) fun x50 hx50=>?_;conv=>arg 3;whnf
            exact Zd (ih _)
      ·refine Zg rfl ?_ ?_<;>conv=>arg 3;whnf
       ·refine Zi rfl rfl fun x51 hx51=>?_;conv=>arg 3;whnf
        refine Zf (Zl rfl hx51) ?_;conv=>arg 3;whnf
        refine Zi rfl rfl fun x52 hx52=>?_;conv=>arg 3;whnf
        refine Zf (Zl rfl hx52) ?_;conv=>arg 3;whnf
        refine Zp _ ZO rfl fun x53 hx53=>?_;conv=>arg 3;whnf
        refine Zg rfl ?_ ?_<;>conv=>arg 3;whnf
        ·refine Zc _ Zo fun x54 hx54=>?_
         clear hx54
         rcases x54 with x54 | x54
         ·conv=>arg 3;whnf
          refine Zbr rfl ?_;conv=>arg 3;whnf
          refine ZR rfl ?_;conv=>arg 3;whnf
          refine Zg rfl ?_ ?_<;>conv=>arg 3;whnf
          ·refine Zg rfl ?_ ?_<;>conv=>arg 3;whnf
           ·refine Zc (Za t0 t1 t2 t3 s0.1 x54.1 s0.2.2.1 x54.2 m1_0 m1_1 m1_2 m1_3 m1_4 m1_5) (hrc t0 t1 t2 t3 s0.1 x54.1 s0.2.2.1 x54.2 m1_0 m1_1 m1_2 m1_3 m1_4 m1_5) fun x55 hx55=>?_;conv=>arg 3;whnf
            exact Zd (ih _)
           ·refine Zc (Za t0 t1 t2 t3 s0.1 x54.1 s0.2.2.1 x54.2 m1_0 m1_1 m1_2 m1_3 m1_4 m1_5) (hrc t0 t1 t2 t3 s0.1 x54.1 s0.2.2.1 x54.2 m1_0 m1_1 m1_2 m1_3 m1_4 m1_5) fun x56 hx56=>?_;conv=>arg 3;whnf
            exact Zd (ih _)
          ·refine Zg rfl ?_ ?_<;>conv=>arg 3;whnf
           ·refine Zc (Za t0 t1 t2 t3 (w64 (x54.1+1)) s0.2.1 s0.2.2.1 x54.2 m1_0 m1_1 m1_2 m1_3 m1_4 m1_5) (hrc t0 t1 t2 t3 (w64 (x54.1+1)) s0.2.1 s0.2.2.1 x54.2 m1_0 m1_1 m1_2 m1_3 m1_4 m1_5) fun x57 hx57=>?_;conv=>arg 3;whnf
            exact Zd (ih _)
           ·refine Zc (Za t0 t1 t2 t3 (w64 (x54.1+1)) s0.2.1 s0.2.2.1 x54.2 m1_0 m1_1 m1_2 m1_3 m1_4 m1_5) (hrc t0 t1 t2 t3 (w64 (x54.1+1)) s0.2.1 s0.2.2.1 x54.2 m1_0 m1_1 m1_2 m1_3 m1_4 m1_5) fun x58 hx58=>?_;conv=>arg 3;whnf
            exact Zd (ih _)
         ·conv=>arg 3;whnf
          refine ZR rfl ?_;conv=>arg 3;whnf
          refine ZR rfl ?_;conv=>arg 3;whnf
          refine Zg rfl ?_ ?_<;>conv=>arg 3;whnf
          ·refine Zg rfl ?_ ?_<;>conv=>arg 3;whnf
           ·refine Zc (Za t0 t1 t2 t3 s0.1 x54.1 s0.2.2.1 x54.2 m1_0 m1_1 m1_2 m1_3 m1_4 m1_5) (hrc t0 t1 t2 t3 s0.1 x54.1 s0.2.2.1 x54.2 m1_0 m1_1 m1_2 m1_3 m1_4 m1_5) fun x59 hx59=>?_;conv=>arg 3;whnf
            exact Zd (ih _)
           ·refine Zc (Za t0 t1 t2 t3 s0.1 x54.1 s0.2.2.1 x54.2 m1_0 m1_1 m1_2 m1_3 m1_4 m1_5) (hrc t0 t1 t2 t3 s0.1 x54.1 s0.2.2.1 x54.2 m1_0 m1_1 m1_2 m1_3 m1_4 m1_5) fun x60 hx60=>?_;conv=>arg 3;whnf
            exact Zd (ih _)
          ·refine Zg rfl ?_ ?_<;>conv=>arg 3;whnf
           ·refine Zc (Za t0 t1 t2 t3 (w64 (x54.1+1)) s0.2.1 s0.2.2.1 x54.2 m1_0 m1_1 m1_2 m1_3 m1_4 m1_5) (hrc t0 t1 t2 t3 (w64 (x54.1+1)) s0.2.1 s0.2.2.1 x54.2 m1_0 m1_1 m1_2 m1_3 m1_4 m1_5) fun x61 hx61=>?_;conv=>arg 3;whnf
            exact Zd (ih _)
           ·refine Zc (Za t0 t1 t2 t3 (w64 (x54.1+1)) s0.2.1 s0.2.2.1 x54.2 m1_0 m1_1 m1_2 m1_3 m1_4 m1_5) (hrc t0 t1 t2 t3 (w64 (x54.1+1)) s0.2.1 s0.2.2.1 x54.2 m1_0 m1_1 m1_2 m1_3 m1_4 m1_5) fun x62 hx62=>?_;conv=>arg 3;whnf
            exact Zd (ih _)
        ·refine Zc _ ZE fun x63 hx63=>?_;conv=>arg 3;whnf
         exact Zd (ih _)
       ·refine Zc _ Zo fun x64 hx64=>?_
        clear hx64
        rcases x64 with x64 | x64
        ·conv=>arg 3;whnf
         refine Zbr rfl ?_;conv=>arg 3;whnf
         refine ZR rfl ?_;conv=>arg 3;whnf
         refine Zg rfl ?_ ?_<;>conv=>arg 3;whnf
         ·refine Zg rfl ?_ ?_<;>conv=>arg 3;whnf
          ·refine Zc (Za t0 t1 t2 t3 s0.1 x64.1 s0.2.2.1 x64.2 m1_0 m1_1 m1_2 m1_3 m1_4 m1_5) (hrc t0 t1 t2 t3 s0.1 x64.1 s0.2.2.1 x64.2 m1_0 m1_1 m1_2 m1_3 m1_4 m1_5) fun x65 hx65=>?_;conv=>arg 3;whnf
           exact Zd (ih _)
          ·refine Zc (Za t0 t1 t2 t3 s0.1 x64.1 s0.2.2.1 x64.2 m1_0 m1_1 m1_2 m1_3 m1_4 m1_5) (hrc t0 t1 t2 t3 s0.1 x64.1 s0.2.2.1 x64.2 m1_0 m1_1 m1_2 m1_3 m1_4 m1_5) fun x66 hx66=>?_;conv=>arg 3;whnf
           exact Zd (ih _)
         ·refine Zg rfl ?_ ?_<;>conv=>arg 3;whnf
          ·refine Zc (Za t0 t1 t2 t3 (w64 (x64.1+1)) s0.2.1 s0.2.2.1 x64.2 m1_0 m1_1 m1_2 m1_3 m1_4 m1_5) (hrc t0 t1 t2 t3 (w64 (x64.1+1)) s0.2.1 s0.2.2.1 x64.2 m1_0 m1_1 m1_2 m1_3 m1_4 m1_5) fun x67 hx67=>?_;conv=>arg 3;whnf
           exact Zd (ih _)
          ·refine Zc (Za t0 t1 t2 t3 (w64 (x64.1+1)) s0.2.1 s0.2.2.1 x64.2 m1_0 m1_1 m1_2 m1_3 m1_4 m1_5) (hrc t0 t1 t2 t3 (w64 (x64.1+1)) s0.2.1 s0.2.2.1 x64.2 m1_0 m1_1 m1_2 m1_3 m1_4 m1_5) fun x68 hx68=>?_;conv=>arg 3;whnf
           exact Zd (ih _)
        ·conv=>arg 3;whnf
         refine ZR rfl ?_;conv=>arg 3;whnf
         refine ZR rfl ?_;conv=>arg 3;whnf
         refine Zg rfl ?_ ?_<;>conv=>arg 3;whnf
         ·refine Zg rfl ?_ ?_<;>conv=>arg 3;whnf
          ·refine Zc (Za t0 t1 t2 t3 s0.1 x64.1 s0.2.2.1 x64.2 m1_0 m1_1 m1_2 m1_3 m1_4 m1_5) (hrc t0 t1 t2 t3 s0.1 x64.1 s0.2.2.1 x64.2 m1_0 m1_1 m1_2 m1_3 m1_4 m1_5) fun x69 hx69=>?_;conv=>arg 3;whnf
           exact Zd (ih _)
          ·refine Zc (Za t0 t1 t2 t3 s0.1 x64.1 s0.2.2.1 x64.2 m1_0 m1_1 m1_2 m1_3 m1_4 m1_5) (hrc t0 t1 t2 t3 s0.1 x64.1 s0.2.2.1 x64.2 m1_0 m1_1 m1_2 m1_3 m1_4 m1_5) fun x70 hx70=>?_;conv=>arg 3;whnf
           exact Zd (ih _)
         ·refine Zg rfl ?_ ?_<;>conv=>arg 3;whnf
          ·refine Zc (Za t0 t1 t2 t3 (w64 (x64.1+1)) s0.2.1 s0.2.2.1 x64.2 m1_0 m1_1 m1_2 m1_3 m1_4 m1_5) (hrc t0 t1 t2 t3 (w64 (x64.1+1)) s0.2.1 s0.2.2.1 x64.2 m1_0 m1_1 m1_2 m1_3 m1_4 m1_5) fun x71 hx71=>?_;conv=>arg 3;whnf
           exact Zd (ih _)
          ·refine Zc (Za t0 t1 t2 t3 (w64 (x64.1+1)) s0.2.1 s0.2.2.1 x64.2 m1_0 m1_1 m1_2 m1_3 m1_4 m1_5) (hrc t0 t1 t2 t3 (w64 (x64.1+1)) s0.2.1 s0.2.2.1 x64.2 m1_0 m1_1 m1_2 m1_3 m1_4 m1_5) fun x72 hx72=>?_;conv=>arg 3;whnf
           exact Zd (ih _)
theorem Zft (rc:Int→Int→Int→(Int→Int→Option Int)→(List Int)→Option (List Int)) (hrc:∀(t0:Bool) (t1:Bool) (t2:Bool) (t3:Bool) (b:Int) (c:Int) (d:Int) (m0_0:(List Int)) (m1_0:Int) (m1_1:Int) (m1_2:(List Zaa)) (m1_3:(List Zr)) (m1_4:(List Zk)) (m1_5:(List Zv)) (r:(List Int)),rc b c d (fun z0 z1=>Zx z0 z1 m1_4) m0_0=some r→evW ctx 117 [(.sl 0 1),(.d (Ze b)),(.d (Ze c)),(.d (Ze d)),(.fn 106 [(.ptr 1 0)])] [(.arr 1 (List.map Ze m0_0)),(.cells [(.d (Ze m1_0)),(.d (Ze m1_1)),(.d (D.list t0 (List.map Zau m1_2))),(.d (D.list t1 (List.map ZI m1_3))),(.d (D.list t2 (List.map Zt m1_4))),(.d (D.list t3 (List.map ZB m1_5)))])]=some ((Za t0 t1 t2 t3 b c d m0_0 m1_0 m1_1 m1_2 m1_3 m1_4 m1_5) r)) (t0:Bool) (t1:Bool) (t2:Bool) (t3:Bool) (b:Int) (c:Int) (d:Int) (m0_0:(List Int)) (m1_0:Int) (m1_1:Int) (m1_2:(List Zaa)) (m1_3:(List Zr)) (m1_4:(List Zk)) (m1_5:(List Zv)):∀r,(ZaF rc b c d (fun z0 z1=>Zx z0 z1 m1_4) m0_0)=some r→evW ctx 117 [(.sl 0 1),(.d (Ze b)),(.d (Ze c)),(.d (Ze d)),(.fn 106 [(.ptr 1 0)])] [(.arr 1 (List.map Ze m0_0)),(.cells [(.d (Ze m1_0)),(.d (Ze m1_1)),(.d (D.list t0 (List.map Zau m1_2))),(.d (D.list t1 (List.map ZI m1_3))),(.d (D.list t2 (List.map Zt m1_4))),(.d (D.list t3 (List.map ZB m1_5)))])]=some ((Za t0 t1 t2 t3 b c d m0_0 m1_0 m1_1 m1_2 m1_3 m1_4 m1_5) r):=by
 show ZS _ (fun r rhs=>rhs=some ((Za t0 t1 t2 t3 b c d m0_0 m1_0 m1_1 m1_2 m1_3 m1_4 m1_5) r)) _
 unfold ZaF
 rw[Zd4 ctx 117 Zxr _ _ rfl rfl]
 conv=>arg 3;whnf
 refine Zc _ (Zfm hrc _) fun r219 hr219=>?_;conv=>arg 3;whnf
 exact Zh rfl
theorem ZcZ:∀(n:Nat) (t0:Bool) (t1:Bool) (t2:Bool) (t3:Bool) (b:Int) (c:Int) (d:Int) (m0_0:(List Int)) (m1_0:Int) (m1_1:Int) (m1_2:(List Zaa)) (m1_3:(List Zr)) (m1_4:(List Zk)) (m1_5:(List Zv)) (r:(List Int)),Z2 n b c d (fun z0 z1=>Zx z0 z1 m1_4) m0_0=some r→evW ctx 117 [(.sl 0 1),(.d (Ze b)),(.d (Ze c)),(.d (Ze d)),(.fn 106 [(.ptr 1 0)])] [(.arr 1 (List.map Ze m0_0)),(.cells [(.d (Ze m1_0)),(.d (Ze m1_1)),(.d (D.list t0 (List.map Zau m1_2))),(.d (D.list t1 (List.map ZI m1_3))),(.d (D.list t2 (List.map Zt m1_4))),(.d (D.list t3 (List.map ZB m1_5)))])]=some ((Za t0 t1 t2 t3 b c d m0_0 m1_0 m1_1 m1_2 m1_3 m1_4 m1_5) r)
  | 0,t0,t1,t2,t3,b,c,d,m0_0,m1_0,m1_1,m1_2,m1_3,m1_4,m1_5,r,h=>by cases h
  | n+1,t0,t1,t2,t3,b,c,d,m0_0,m1_0,m1_1,m1_2,m1_3,m1_4,m1_5,r,h=>Zft (Z2 n) (ZcZ n) t0 t1 t2 t3 b c d m0_0 m1_0 m1_1 m1_2 m1_3 m1_4 m1_5 r h
theorem ZfT {t0:Bool}{t1:Bool}{t2:Bool}{t3:Bool}{b:Int}{c:Int}{d:Int}{m0_0:(List Int)}{m1_0:Int}{m1_1:Int}{m1_2:(List Zaa)}{m1_3:(List Zr)}{m1_4:(List Zk)}{m1_5:(List Zv)}:∀r,Zdy b c d (fun z0 z1=>Zx z0 z1 m1_4) m0_0=some r→evW ctx 117 [(.sl 0 1),(.d (Ze b)),(.d (Ze c)),(.d (Ze d)),(.fn 106 [(.ptr 1 0)])] [(.arr 1 (List.map Ze m0_0)),(.cells [(.d (Ze m1_0)),(.d (Ze m1_1)),(.d (D.list t0 (List.map Zau m1_2))),(.d (D.list t1 (List.map ZI m1_3))),(.d (D.list t2 (List.map Zt m1_4))),(.d (D.list t3 (List.map ZB m1_5)))])]=some ((Za t0 t1 t2 t3 b c d m0_0 m1_0 m1_1 m1_2 m1_3 m1_4 m1_5) r):=fun r h=>by
  obtain⟨n,hn⟩:=Zwk h
  exact ZcZ n t0 t1 t2 t3 b c d m0_0 m1_0 m1_1 m1_2 m1_3 m1_4 m1_5 r hn
def Zdq (t0:Bool) (t1:Bool) (t2:Bool) (t3:Bool) (m0_0:(List Int)) (m1_0:Int) (m1_1:Int) (m1_2:(List Zaa)) (m1_3:(List Zr)) (m1_4:(List Zk)) (m1_5:(List Zv)):(List Int)→V×Zq
  | r=>((.d (D.tup [])),[(.arr 1 (List.map Ze r)),(.cells [(.d (Ze m1_0)),(.d (Ze m1_1)),(.d (D.list t0 (List.map Zau m1_2))),(.d (D.list t1 (List.map ZI m1_3))),(.d (D.list t2 (List.map Zt m1_4))),(.d (D.list t3 (List.map ZB m1_5)))])])
theorem ZfS {t0:Bool}{t1:Bool}{t2:Bool}{t3:Bool}{m0_0:(List Int)}{m1_0:Int}{m1_1:Int}{m1_2:(List Zaa)}{m1_3:(List Zr)}{m1_4:(List Zk)}{m1_5:(List Zv)}:∀r,(ZaP (fun z0 z1=>Zx z0 z1 m1_4) m0_0)=some r→evW ctx 105 [(.sl 0 1),(.fn 106 [(.ptr 1 0)])] [(.arr 1 (List.map Ze m0_0)),(.cells [(.d (Ze m1_0)),(.d (Ze m1_1)),(.d (D.list t0 (List.map Zau m1_2))),(.d (D.list t1 (List.map ZI m1_3))),(.d (D.list t2 (List.map Zt m1_4))),(.d (D.list t3 (List.map ZB m1_5)))])]=some ((Zdq t0 t1 t2 t3 m0_0 m1_0 m1_1 m1_2 m1_3 m1_4 m1_5) r):=by
 show ZS _ (fun r rhs=>rhs=some ((Zdq t0 t1 t2 t3 m0_0 m1_0 m1_1 m1_2 m1_3 m1_4 m1_5) r)) _
 unfold ZaP
 rw[Zd4 ctx 105 Zzb _ _ rfl rfl]
 conv=>arg 3;whnf
 refine Zn (Z3 _ _) ?_;conv=>arg 3;whnf
 refine Zp _ ZhS rfl fun x0 hx0=>?_;conv=>arg 3;whnf
 refine Zc _ ZfT fun x1 hx1=>?_;conv=>arg 3;whnf
 exact Zh rfl
def Zky (r:(List Int)):D:=(D.list true (List.map Ze r))
def Zi9 (t0:Bool) (t1:Bool) (t2:Bool) (t3:Bool) (a:Zm) (b:Int):(List Int)→Ex×List V×Zq
  | r=>(.exit 0,[(.ptr 0 0),(.sl 1 1)],[(.cells (dV t0 t1 t2 t3 a)),(.arr 1 (List.map Ze r))])
theorem Zl8 {t0:Bool}{t1:Bool}{t2:Bool}{t3:Bool}{a:Zm}{b:Int}:∀(s1:Int×(List Int)) (r:(List Int)),lp (Zer a b) s1=some r→lpW ctx 0 [1,2,5,12,13,14] [2,5] Zxw [(.d (Ze b)),(.ptr 0 0),(.sl 1 1),(.d (D.list t2 (List.map Zt a.futures))),(.d (Ze (a.futures.length:Int))),(.d (Ze s1.1))] [(.cells (dV t0 t1 t2 t3 a)),(.arr 1 (List.map Ze s1.2))]=some ((Zi9 t0 t1 t2 t3 a b) r):=by
 refine ZaX (Zi9 t0 t1 t2 t3 a b) ?_
 intro s1 rcl ih
 show ZS _ _ (lpW _ _ _ _ _ _ _)
 unfold Zer
 rw[ZaY]
 conv=>arg 3;whnf
 refine Zg rfl ?_ ?_<;>conv=>arg 3;whnf
 ·refine Zi rfl rfl fun x2 hx2=>?_;conv=>arg 3;whnf
  refine Zg rfl ?_ ?_<;>conv=>arg 3;whnf
  ·refine Zbr rfl ?_;conv=>arg 3;whnf
   refine Zg (Zic Ze s1.2 1) ?_ ?_
   ·conv=>arg 3;whnf
    refine Zn (Zh8 Ze s1.2 [s1.1]) ?_;conv=>arg 3;whnf
    exact Zd (ih _)
   ·exact ZaN
  ·exact Zd (ih _)
 ·exact Zh rfl
theorem Zj8 {t0:Bool}{t1:Bool}{t2:Bool}{t3:Bool}{a:Zm}{b:Int}:∀r,(ZdI a b)=some r→evD ctx 78 [(.d (D.agg (dA t0 t1 t2 t3 a))),(.d (Ze b))]=some (Zky r):=by
 show ZS _ (fun r rhs=>rhs=some (Zky r)) _
 unfold ZdI
 rw[ZbV ctx 78 ZCH _ rfl rfl]
 conv=>arg 3;whnf
 refine Zp _ Zi4 rfl fun x0 hx0=>?_;conv=>arg 3;whnf
 refine Zg rfl ?_ ?_<;>conv=>arg 3;whnf
 ·exact Zh rfl
 ·refine Zn (Z3 _ _) ?_;conv=>arg 3;whnf
  refine Zc _ (Zl8 _) fun r3 hr3=>?_;conv=>arg 3;whnf
  refine Zc _ ZfS fun x4 hx4=>?_;conv=>arg 3;whnf
  exact Zh rfl
def Zim (b:Zj) (c:Int) (m1_0:(List Int)) (m2_0:(List Zr)) (m3_0:(List Zj)) (m4_0:(List (Int×Int))) (m5_0:(List (Int×Int))) (m6_0:(List (Zk×Int))):Unit→V×Zq
  | r=>((.d (Ze (w64 ((List.length (m3_0++[b]):Int)-1)))),[(.cells [(.sl 7 1),(.sl 2 2),(.sl 8 2),(.mp 4),(.mp 5),(.mp 6)]),.dead,(.arr 2 (List.map ZI m2_0)),.dead,(.mp (mpD Ze Ze m4_0)),(.mp (mpD Ze Ze m5_0)),(.mp (mpD Zt Ze m6_0)),(.arr 1 (List.map Ze (m1_0++[c]))),(.arr 2 (List.map Zcb (m3_0++[b])))])
theorem Zbu {b:Zj}{c:Int}{m1_0:(List Int)}{m2_0:(List Zr)}{m3_0:(List Zj)}{m4_0:(List (Int×Int))}{m5_0:(List (Int×Int))}{m6_0:(List (Zk×Int))}:∀r,(Za4 b c m1_0 m3_0)=some r→evW ctx 44 [(.ptr 0 0),(.d (D.agg [(Ze b.part),(Ze b.step)])),(.d (Ze c))] [(.cells [(.sl 1 1),(.sl 2 2),(.sl 3 2),(.mp 4),(.mp 5),(.mp 6)]),(.arr 1 (List.map Ze m1_0)),(.arr 2 (List.map ZI m2_0)),(.arr 2 (List.map Zcb m3_0)),(.mp (mpD Ze Ze m4_0)),(.mp (mpD Ze Ze m5_0)),(.mp (mpD Zt Ze m6_0))]=some ((Zim b c m1_0 m2_0 m3_0 m4_0 m5_0 m6_0) r):=by
 show ZS _ (fun r rhs=>rhs=some ((Zim b c m1_0 m2_0 m3_0 m4_0 m5_0 m6_0) r)) _
 unfold Za4
 rw[Zd4 ctx 44 ZCx _ _ rfl rfl]
 conv=>arg 3;whnf
 refine Zbr rfl ?_;conv=>arg 3;whnf
 refine Zg (Zic Zcb m3_0 1) ?_ ?_
 ·conv=>arg 3;whnf
  refine Zn (Zh8 Zcb m3_0 [b]) ?_;conv=>arg 3;whnf
  refine Zbr rfl ?_;conv=>arg 3;whnf
  refine Zg (Zic Ze m1_0 1) ?_ ?_
  ·conv=>arg 3;whnf
   refine Zn (Zh8 Ze m1_0 [c]) ?_;conv=>arg 3;whnf
   refine Zn (Z3 _ _) ?_;conv=>arg 3;whnf
   exact Zh rfl
  ·exact ZaN
 ·exact ZaN
end Go.Proofs.YtnmbdjkbaihicaaGreatDoor
