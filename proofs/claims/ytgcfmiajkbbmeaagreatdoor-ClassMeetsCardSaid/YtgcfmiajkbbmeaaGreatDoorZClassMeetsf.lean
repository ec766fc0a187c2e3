/- ClassMeets: part 6 of 6 of the proof: the row and the card of the law, out of what the evaluator says of it; without conditions. -/
import Derived.Test.YtgcfmiajkbbmeaaGreatDoorZClassMeetse
import Derived.KernelRfl
import Derived.Test.YtgcfmiajkbbmeaaGreatDoorRows
import Derived.Test.YtgcfmiajkbbmeaaGreatDoorCards
import Derived.Test.YtgcfmiajkbbmeaaGreatDoorTie
import Derived.WalkKit
import Derived.ProofKit
import Derived.OpenShut
import Derived.ShutString
import Derived.ChangeOld
import Derived.Below
import Derived.SizedLaws
import Derived.Handed
import Derived.LaidMore
import Derived.Stop.Joined
import Derived.ChangeShapes
import Derived.Carry
import Derived.SevenTiedAt
set_option maxRecDepth 100000
set_option maxHeartbeats 40000000
set_option linter.unusedVariables false
set_option linter.unusedSimpArgs false
namespace Go.Proofs.YtgcfmiajkbbmeaaGreatDoor
open Go Go.Proofs.YtgcfmiajkbbmeaaGreatDoorE
open Go.IntKind (u64 i64 u32 i32 u8)
section
variable {α β:Type} {A B:Option α} {Q:α->Option β->Prop}
theorem yB {c:Bool}{X Y:Option β} (h1:Zdo A Q X) (h2:Zdo B Q Y):Zdo (bif c then A else B) Q (br c X Y):=Zbz rfl h1 h2
theorem yBn {c:Bool}{X Y:Option β} (h2:Zdo B Q Y):Zdo (bif c then none else B) Q (br c X Y):=Zbz rfl Zal h2
theorem yBm {c:Bool}{X Y:Option β} (h1:Zdo A Q X):Zdo (bif c then A else none) Q (br c X Y):=Zbz rfl h1 Zal
theorem yT {X Y:Option β} (h1:Zdo A Q X):Zdo A Q (br true X Y):=ZlA rfl h1
theorem yF {X Y:Option β} (h1:Zdo A Q Y):Zdo A Q (br false X Y):=ZJj rfl h1
theorem yG {γ:Type}{f:γ->D}{l:List γ}{i:Int}{A:γ->Option α}{K:D->Option β} (k:∀r,Zy l i=some r->Zdo (A r) Q (K (f r))):Zdo ((Zy l i).bind A) Q (bnd (Zy (l.map f) i) K):=ZFw rfl rfl k
theorem yC {γ:Type}{Γ:Ctx}{f:Nat}{args:List V}{E:Option γ}{A:γ->Option α}{K:V->Option β}{enc:γ->D} (w:∀r,E=some r->evD Γ f args=some (enc r)) (k:∀r,E=some r->Zdo (A r) Q (ZAH (enc r) K)):Zdo (E.bind A) Q (bnd (evW Γ f args []) (Zq9 K)):=ZD7 enc w rfl k
theorem ZEG {γ:Type}{x:γ}{A:γ->Option α}{X:Option β} (k:Zdo (A x) Q X):Zdo ((some x).bind A) Q X:=k
theorem yR {a:α}{f:α->Option β}:Zdo (some a) (fun r rhs=>rhs=f r) (f a):=Zm rfl
theorem yBr {a:α}{c:Bool}{f:α->Option β}{Y:Option β} (h2:Zdo B (fun r rhs=>rhs=f r) Y):Zdo (bif c then some a else B) (fun r rhs=>rhs=f r) (br c (f a) Y):=yB yR h2
theorem evT {Γ : Ctx} {f : Nat} (fn : FnI) {args : List V} {E : Option α} {enc : α -> D} (hc : Γ.code f = some fn) (hn : Nat.beq args.length fn.nargs = true) (h : Zdo E (fun r rhs => rhs = some (enc r)) (ZiY Γ 0 fn.body (Zdd 0 args) [] fun x e H1 => (match x with
      | .exit _=>none
      | _=>(match Zlp e H1 fn.res with
        | some l=>Zgm 0 [ZhF l] H1 fun _ vs H2=>(match vs with | [v]=>(match fr H2 6 v with | some (x,_)=>some x | none=>none) | _=>none)
        | none=>none)))):∀r,E=some r->evD Γ f args=some (enc r):=by rw[ZGS Γ f fn args hc hn];exact h
theorem evS {Γ : Ctx} {f : Nat} (fn : FnI) {args : List V} {H : Zk} {E : Option α} {enc : α -> V × Zk} (hc : Γ.code f = some fn) (hn : Nat.beq args.length fn.nargs = true) (h : Zdo E (fun r rhs => rhs = some (enc r)) (ZiY Γ H.length fn.body (Zdd 0 args) H fun x e H1 => (match x with
      | .exit _=>none
      | _=>(match Zlp e H1 fn.res with
        | some l=>Zgm H.length [ZhF l] H1 fun _ vs H2=>(match vs with | [v]=>some (v,H2) | _=>none)
        | none=>none)))):∀r,E=some r->evW Γ f args H=some (enc r):=by rw[ZGW Γ f fn args H hc hn];exact h
theorem lpT {S R:Type}{step:S->Option (S⊕R)}{Γ:Ctx}{k:Nat}{live outs:List Nat}{b:C}{vs:S->List V}{H:S->Zk} (x:R->Ex×List V×Zk)
    (h:∀(s:S) (rec:S->Option R),(∀s r,rec s=some r->lpW Γ k live outs b (vs s) (H s)=some (x r))->Zdo (step s) (fun t rhs=>(match t with | .inl s'=>∀r,rec s'=some r->rhs=some (x r) | .inr r=>rhs=some (x r))) (ZiY Γ k b (Zeq live (vs s)) (H s) fun x e H=>(match x with
      | .normal=>Zre k (live.map e) H fun vs H=>bnd (lpW Γ k live outs b vs H) some
      | x=>Zgm k (outs.map e) H fun _ vs H=>some (x,vs,H)))):∀s r,lp step s=some r->lpW Γ k live outs b (vs s) (H s)=some (x r):=
  ZIU (G:=fun s=>lpW Γ k live outs b (vs s) (H s)) x fun s rec ih=>by rw[ZJp];exact h s rec ih
end
theorem ZfI:∀r,Zfh=some r->evD ctx 34 []=some (D.bool r):=fun r h=>by
  cases h
  exact ZH8 100 (by kernel_rfl)
def ZuB (r:Bool):D:=(D.bool r)
def Zlc (t0:Bool) (t1:Bool) (t2:Bool) (t3:Bool) (a:Zq):(Unit⊕Unit)->Ex×List V×Zk
  | (.inl r)=>(.ret,[(.ptr 0 0),(.d (D.bool false))],[(.cells (dV t0 t1 t2 t3 a))])
  | (.inr r)=>(.exit 0,[(.ptr 0 0),.bad],[(.cells (dV t0 t1 t2 t3 a))])
theorem Zpw {t0 t1:Bool}{t2 t3:Bool}{a:Zq}:∀(s0:Int) (r:(Unit⊕Unit)),lp (ZgM a) s0=some r->lpW ctx 0 [1,3] [1,2] ZEW [(.ptr 0 0),(zN s0)] [(.cells (dV t0 t1 t2 t3 a))]=some ((Zlc t0 t1 t2 t3 a) r):=
 lpT (Zlc t0 t1 t2 t3 a) fun s0 _ ih=>Zf (Zv _ _) (yB (yB (yG fun x1 hx1=>
  Zf (Zv _ _) (yB (Zm rfl)
  (Zd (Zax rfl hx1) (Zf (Zv _ _) (yB (Zm rfl)
  (Zc (ih _)))))))
  (Zm rfl))
  (Zm rfl))
theorem ZtM {t0 t1:Bool}{t2 t3:Bool}{a:Zq}:∀r,(Zkp a)=some r->evD ctx 35 [(.d (D.agg (dA t0 t1 t2 t3 a)))]=some (ZuB r):=
 evT ZH1 rfl rfl <| (by
 conv=>rhs;whnf
 refine Zb _ (Zpw _) fun r2 _=>?_
 rcases r2 with r2 | r2
 exact yR
 exact Zf (Zv _ _) (yB (Zf (Zv _ _) (yB (Zf (Zv _ _) (yB (Zf (Zv _ _) (yBr yR))
  yR))
  yR))
  yR))
def ZuD (t0:Bool) (t1:Bool) (t2:Bool) (t3:Bool) (a:Zq):(List Zr)->V×Zk
  | r=>((.agg [(zN a.period),(zN a.deadline),(.sl 0 3),(.sl 1 2),(.sl 2 3),(.sl 3 2)]),[(.arr 3 (List.map ZjJ a.parts)),(.arr 2 (List.map Z4 a.edges)),(.arr 3 (List.map ZT a.futures)),(.arr 2 (List.map ZcY r))])
def Zk8 (t0:Bool) (t1:Bool) (t2:Bool) (t3:Bool) (a:Zq):(List Zr)->Ex×List V×Zk
  | r=>(.exit 0,[(.ptr 0 0),(.ptr 1 0)],[(.cells [(zN 0),(zN 0),(.sl 2 3),(.sl 3 2),(.sl 4 3),(.sl 5 2)]),(.cells [(zN a.period),(zN a.deadline),(.sl 6 3),(.sl 7 2),(.sl 8 3),(.sl 9 2)]),(.arr 3 []),(.arr 2 []),(.arr 3 []),(.arr 2 []),(.arr 3 (List.map ZjJ a.parts)),(.arr 2 (List.map Z4 a.edges)),(.arr 3 (List.map ZT a.futures)),(.arr 2 (List.map ZcY r))])
theorem Zpd {t0 t1:Bool}{t2 t3:Bool}{a:Zq}:∀(s0:Int×(List Zr)) (r:List Zr),lp (Zfy a) s0=some r->lpW ctx 0 [1,2,3,4] [2,3] ZBU [(.ptr 0 0),(.ptr 1 0),(.ptr 2 0),(zN s0.1)] [(.cells (dV t0 t1 t2 t3 a)),(.cells [(zN 0),(zN 0),(.sl 3 3),(.sl 4 2),(.sl 5 3),(.sl 6 2)]),(.cells [(zN a.period),(zN a.deadline),(.sl 7 3),(.sl 8 2),(.sl 9 3),(.sl 10 2)]),(.arr 3 []),(.arr 2 []),(.arr 3 []),(.arr 2 []),(.arr 3 (List.map ZjJ a.parts)),(.arr 2 (List.map Z4 a.edges)),(.arr 3 (List.map ZT a.futures)),(.arr 2 (List.map ZcY s0.2))]=some ((Zk8 t0 t1 t2 t3 a) r):=
 lpT (Zk8 t0 t1 t2 t3 a) fun s0 _ ih=>Zf (Zv _ _) (yB (yG fun x1 hx1=>
  ZlA (Zg4 (f:=Zh) (fun _=>⟨rfl,rfl⟩) x1.ins 0) (Zbz (Zhr Zh x1.ins) (Zf (rfl:_=List.map Zh x1.ins) (Zd (Zax rfl hx1) (ZlA (Zg4 (f:=Zh) (fun _=>⟨rfl,rfl⟩) x1.outs 0) (Zbz (Zhr Zh x1.outs) (Zf (rfl:_=List.map Zh x1.outs) (yT (Zbz (ZeV ZcY s0.2 1) (Zf (ZeS ZcY s0.2 [x1]) (Zc (ih _)))
  Zal)))
  Zal))))
  Zal))
  (Zm rfl))
theorem Zm5 {t0 t1:Bool}{t2 t3:Bool}{a:Zq}:∀r,(ZiP a)=some r->evW ctx 37 [(.d (D.agg (dA t0 t1 t2 t3 a)))] []=some ((ZuD t0 t1 t2 t3 a) r):=
 evS ZId rfl rfl <| ZlA (Zg4 (f:=ZjJ) (fun _=>⟨rfl,rfl⟩) a.parts 0) (Zbz (Zhr ZjJ a.parts) (Zf (rfl:_=List.map ZjJ a.parts) (ZlA (Zg4 (f:=Z4) (fun _=>⟨rfl,rfl⟩) a.edges 0) (Zbz (Zhr Z4 a.edges) (Zf (rfl:_=List.map Z4 a.edges) (ZlA (Zg4 (f:=ZT) (fun _=>⟨rfl,rfl⟩) a.futures 0) (Zbz (Zhr ZT a.futures) (Zf (rfl:_=List.map ZT a.futures) (Zb _ (Zpd _) fun r2 _=>
  yR))
  Zal)))
  Zal)))
  Zal)
def Zrx (r:Bool):D:=(D.bool r)
theorem ZbT {a b c:Int}:∀r,(ZbO a b c)=some r->evD ctx 132 [(zN a),(zN b),(zN c)]=some (Zrx r):=
 evT ZEZ rfl rfl <| yB (yBr yR)
  yR
def Zuw (r:Int):D:=(Zh r)
theorem ZhT {a:Int}:∀r,(ZgP a)=some r->evD ctx 156 [(zN a)]=some (Zuw r):=
 evT ZEB rfl rfl <| yBr (yBr yR)
def Zkg (r:Int):D:=(Zh r)
theorem ZjD {a:Int}:∀r,(Zda a)=some r->evD ctx 184 [(.d (D.int .u64 a))]=some (Zkg r):=
 evT ZBX rfl rfl <| yF (yF (yF (yF (yF (yF yR)))))
def ZlN (r:Int):D:=(Zh r)
theorem Zk4 {a:Int}:∀r,(Zeg a)=some r->evD ctx 157 [(.d (D.int .u64 a))]=some (ZlN r):=
 evT ZE5 rfl rfl <| yC ZjD fun x0 _=>
  yR
theorem ZI3 (n:Int):0<=u64.wrap n/\u64.wrap n<18446744073709551616:=by
  have:u64.wrap n=n % 18446744073709551616:=by
    show(if (false&&decide (n % 18446744073709551616 ≥ 9223372036854775808))=true then n % 18446744073709551616-18446744073709551616 else n % 18446744073709551616)=_
    simp
  rw[this]
  omega
theorem ZJ4 (n:Int):∃j:Nat,j<64/\(u64.wrap n).fdiv (2 ^ (min (Int.toNat 58) u64.bits))=(j:Int):=by
  obtain⟨h1,h2⟩:=ZI3 n
  have e:(2:Int) ^ (min (Int.toNat 58) u64.bits)=288230376151711744:=by decide
  rw[e,Int.fdiv_eq_ediv_of_nonneg _ (by omega)]
  refine⟨((u64.wrap n) / 288230376151711744).toNat,?_,?_⟩<;>omega
theorem ZKj:∀j:Nat,j<64->Zdp [] 1 false (.d (.rptr (ZDI.drop (j*1))))=some (.d (.int .u8 (ZwJ.getD j 0))):=by
  have key:((List.range 64).all fun j=>match Zdp [] 1 false (.d (.rptr (ZDI.drop (j*1)))) with | some (.d (.int .u8 z))=>z==ZwJ.getD j 0 | _=>false)=true:=by rfl
  intro j hj
  have:=List.all_eq_true.1 key j (by simpa using hj)
  split at this
  · rename_i z hz
    rw[hz,eq_of_beq this]
  · cases this
def ZiS (r:Int):D:=Zh r
theorem Zij (a:Int):∀r,Zdu a=some r->evD ctx 186 [.d (.int .u64 a)]=some (ZiS r):=by
  intro r hr
  unfold Zdu at hr
  have hr:=Option.some.inj hr
  subst hr
  rw[ZGS ctx 186 ZCO _ rfl rfl]
  by_cases h:(a==0)=true
  · conv=>lhs;whnf
    rw[h,ZF6]
    rfl
  · replace h:(a==0)=false:=by simpa using h
    obtain⟨j,hj,e⟩:=ZJ4 (u64.wrap ((Zo a &&& Zo (u64.wrap (0-a))).toNat:Int)*285870213051353865)
    conv=>lhs;whnf
    rw[h,ZGz]
    conv=>lhs;whnf
    refine(ZJ6 (by rfl)).trans ?_
    conv=>lhs;whnf
    rw[e]
    refine(ZIN (by simp;omega)).trans ?_
    conv=>lhs;whnf
    erw [ZKj j hj]
    rfl
def Zjs (r:Int):D:=(Zh r)
theorem Zi7 {a:Int}:∀r,(ZeA a)=some r->evD ctx 158 [(.d (D.int .u64 a))]=some (Zjs r):=
 evT ZDe rfl rfl <| yC (Zij _) fun x0 _=>
  yR
def Zxb (r:(Int×Bool)):D:=(D.tup [(Zh r.1),(D.bool r.2)])
theorem Zjm {a:Int}:∀r,(ZhJ a)=some r->evD ctx 103 [(zN a)]=some (Zxb r):=
 evT ZDt rfl rfl <| yC ZhT fun x0 _=>
  yBr (yC Zk4 fun x1 _=>
  yBr (yC Zi7 fun x2 _=>
  yR))
def Zuh (r:Bool):D:=(D.bool r)
theorem ZsM {a:ZU}:∀r,(ZgU a)=some r->evD ctx 134 [(.d (D.agg [(Zh a.op),(Zh a.arg),(Zh a.work)]))]=some (Zuh r):=
 evT ZB1 rfl rfl <| yC ZbT fun x0 _=>
  yB (yC ZbT fun x1 _=>
  yB (yC ZbT fun x2 _=>
  yBr yR)
  yR)
  yR
def ZfW (r:Int):D:=(Zh r)
def Zb4 (t0:Bool) (a:List ZU):(Int⊕Unit)->Ex×List V×Zk
  | (.inl r)=>(.ret,[(zN r)],[])
  | (.inr r)=>(.exit 0,[.bad],[])
theorem ZeX {t0:Bool}{a:List ZU}:∀(s0:Int) (r:(Int⊕Unit)),lp (Zbq a (fun z0=>ZgU z0)) s0=some r->lpW ctx 0 [0,1,7,8] [4] ZzL [(zW t0 ZjJ a),(.d (D.fn 134 [])),(zN (a.length:Int)),(zN s0)] []=some ((Zb4 t0 a) r):=
 lpT (Zb4 t0 a) fun s0 _ ih=>yB (yG fun x1 _=>
  yC ZsM fun x2 _=>
  yB (Zm rfl)
  (Zc (ih _)))
  (Zm rfl)
theorem ZfD {t0:Bool}{a:List ZU}:∀r,(ZcF a (fun z0=>ZgU z0))=some r->evD ctx 173 [(zW t0 ZjJ a),(.d (D.fn 134 []))]=some (ZfW r):=
 evT ZE1 rfl rfl <| Zf (Zv _ _) (by
 conv=>rhs;whnf
 refine Zb _ (ZeX _) fun r3 _=>?_
 rcases r3 with r3 | r3
 exact yR
 exact yR)
def Zfi (r:Bool):D:=(D.bool r)
theorem Ze3 {t0:Bool}{a:List ZU}:∀r,(Zbr a (fun z0=>ZgU z0))=some r->evD ctx 133 [(zW t0 ZjJ a),(.d (D.fn 134 []))]=some (Zfi r):=
 evT ZDa rfl rfl <| yC ZfD fun x0 _=>
  yBr yR
def Zww (r:Bool):D:=(D.bool r)
theorem Zoj {t0 t1:Bool}{t2 t3:Bool}{a:Zq}{b c:Int}:∀r,(ZjR a b c)=some r->evD ctx 135 [(.d (D.agg (dA t0 t1 t2 t3 a))),(zN b),(zN c)]=some (Zww r):=
 evT ZCM rfl rfl <| yB (Zf (Zv _ _) (yC ZbT fun x0 _=>
  yB (Zf (Zv _ _) (yC ZbT fun x1 _=>
  yBr yR))
  yR))
  yR
def Zi5 (r:Int):D:=(Zh r)
def Zfp (t0:Bool) (a:List Zi) (b:Zi):(Int⊕Unit)->Ex×List V×Zk
  | (.inl r)=>(.ret,[(zN r)],[])
  | (.inr r)=>(.exit 0,[.bad],[])
theorem ZhY {t0:Bool}{a:List Zi}{b:Zi}:∀(s0:Int) (r:(Int⊕Unit)),lp (Zb0 a b) s0=some r->lpW ctx 0 [0,3,7,8] [4] ZzE [(zW t0 Z4 a),(.ptr 0 0),(zN (a.length:Int)),(zN s0)] [(.cells [(zN b.src),(zN b.dst)])]=some ((Zfp t0 a b) r):=
 lpT (Zfp t0 a b) fun s0 _ ih=>yB (yG fun x1 _=>
  yB (Zm rfl)
  (Zc (ih _)))
  (Zm rfl)
theorem ZiV {t0:Bool}{a:List Zi}{b:Zi}:∀r,(ZdU a b)=some r->evD ctx 174 [(zW t0 Z4 a),(.d (zK4 b.src b.dst))]=some (Zi5 r):=
 evT ZEw rfl rfl <| Zf (Zv _ _) (by
 conv=>rhs;whnf
 refine Zb _ (ZhY _) fun r2 _=>?_
 rcases r2 with r2 | r2
 exact yR
 exact yR)
def Zie (r:Bool):D:=(D.bool r)
theorem ZeR {t0:Bool}{a:List Zi}{b:Zi}:∀r,(Zbe a b)=some r->evD ctx 136 [(zW t0 Z4 a),(.d (zK4 b.src b.dst))]=some (Zie r):=
 evT ZDU rfl rfl <| yC ZiV fun x0 _=>
  yBr yR
def ZqJ (r:Bool):D:=(D.bool r)
theorem ZpM {a:Zg}{b0 b1 b2:Int}:∀r,(Zec a b1 b2)=some r->evD ctx 137 [(.d (D.agg [(Zh a.maker),(Zh a.user),(Zh a.pos)])),(.d (D.rptr [(Zh b0),(Zh b1),(Zh b2)]))]=some (ZqJ r):=
 evT ZCf rfl rfl <| yB (yBr yR)
  yR
def Zee (r:Int):D:=(Zh r)
def Zbw (t0:Bool) (a:List Zg) (b0:Int) (b1:Int) (b2:Int):(Int⊕Unit)->Ex×List V×Zk
  | (.inl r)=>(.ret,[(zN r)],[])
  | (.inr r)=>(.exit 0,[.bad],[])
theorem Zdf {t0:Bool}{a:List Zg}{b0 b1 b2:Int}:∀(s0:Int) (r:(Int⊕Unit)),lp (ZaW a (fun z0=>Zec z0 b1 b2)) s0=some r->lpW ctx 0 [0,1,7,8] [4] ZAl [(zW t0 ZT a),(.d (D.fn 137 [(D.rptr [(Zh b0),(Zh b1),(Zh b2)])])),(zN (a.length:Int)),(zN s0)] []=some ((Zbw t0 a b0 b1 b2) r):=
 lpT (Zbw t0 a b0 b1 b2) fun s0 _ ih=>yB (yG fun x1 _=>
  yC ZpM fun x2 _=>
  yB (Zm rfl)
  (Zc (ih _)))
  (Zm rfl)
theorem ZdG {t0:Bool}{a:List Zg}{b0 b1 b2:Int}:∀r,(Zcg a (fun z0=>Zec z0 b1 b2))=some r->evD ctx 175 [(zW t0 ZT a),(.d (D.fn 137 [(D.rptr [(Zh b0),(Zh b1),(Zh b2)])]))]=some (Zee r):=
 evT ZEH rfl rfl <| Zf (Zv _ _) (by
 conv=>rhs;whnf
 refine Zb _ (Zdf _) fun r3 _=>?_
 rcases r3 with r3 | r3
 exact yR
 exact yR)
def Zdn (r:Bool):D:=(D.bool r)
theorem Zdc {t0:Bool}{a:List Zg}{b0 b1 b2:Int}:∀r,(ZaX a (fun z0=>Zec z0 b1 b2))=some r->evD ctx 138 [(zW t0 ZT a),(.d (D.fn 137 [(D.rptr [(Zh b0),(Zh b1),(Zh b2)])]))]=some (Zdn r):=
 evT ZC6 rfl rfl <| yC ZdG fun x0 _=>
  yBr yR
def Zv4 (r:Bool):D:=(D.bool r)
def Zmx (t0:Bool) (t1:Bool) (t2:Bool) (t3:Bool) (t4:Bool) (a:Zq) (b:List Int):(Unit⊕Unit)->Ex×List V×Zk
  | (.inl r)=>(.ret,[(zV t4 b),(.d (D.bool false))],[])
  | (.inr r)=>(.exit 0,[(zV t4 b),.bad],[])
theorem Zq2 {t0 t1:Bool}{t2 t3 t4:Bool}{a:Zq}{b:List Int}:∀(s0:Int) (r:(Unit⊕Unit)),lp (Zhq a b) s0=some r->lpW ctx 0 [1,2,7,8,9] [1,4] Zz3 [(zV t4 b),(.ptr 0 0),(zV t4 b),(zN (b.length:Int)),(zN s0)] [(.cells (dV t0 t1 t2 t3 a))]=some ((Zmx t0 t1 t2 t3 t4 a b) r):=
 lpT (Zmx t0 t1 t2 t3 t4 a b) fun s0 _ ih=>yB (yG fun x1 _=>
  Zf (Zv _ _) (yC ZbT fun x2 _=>
  yB (yB (yG fun x3 _=>
  yB (Zm rfl)
  (Zc (ih _)))
  (Zc (ih _)))
  (Zm rfl)))
  (Zm rfl)
theorem Zol {t0 t1:Bool}{t2 t3 t4:Bool}{a:Zq}{b:List Int}:∀r,(ZjS a b)=some r->evD ctx 140 [(.d (D.agg (dA t0 t1 t2 t3 a))),(zV t4 b)]=some (Zv4 r):=
 evT ZD8 rfl rfl <| Zf (Zv _ _) (by
 conv=>rhs;whnf
 refine Zb _ (Zq2 _) fun r4 _=>?_
 rcases r4 with r4 | r4
 exact yR
 exact Zf (Zv _ _) (yBr yR))
def ZjY (r:Int):D:=(Zh r)
def Zf8 (t0:Bool) (a:List Int) (b:Int):(Int⊕Unit)->Ex×List V×Zk
  | (.inl r)=>(.ret,[(zN r)],[])
  | (.inr r)=>(.exit 0,[.bad],[])
theorem Ziq {t0:Bool}{a:List Int}{b:Int}:∀(s0:Int) (r:(Int⊕Unit)),lp (Zcm a b) s0=some r->lpW ctx 0 [0,1,7,8] [4] Zzw [(zV t0 a),(zN b),(zN (a.length:Int)),(zN s0)] []=some ((Zf8 t0 a b) r):=
 lpT (Zf8 t0 a b) fun s0 _ ih=>yB (yG fun x1 _=>
  yB (Zm rfl)
  (Zc (ih _)))
  (Zm rfl)
theorem Zju {t0:Bool}{a:List Int}{b:Int}:∀r,(Zfg a b)=some r->evD ctx 123 [(zV t0 a),(zN b)]=some (ZjY r):=
 evT ZEb rfl rfl <| Zf (Zv _ _) (by
 conv=>rhs;whnf
 refine Zb _ (Ziq _) fun r2 _=>?_
 rcases r2 with r2 | r2
 exact yR
 exact yR)
def ZiI (r:Bool):D:=(D.bool r)
theorem Zak {t0:Bool}{a:List Int}{b:Int}:∀r,(Z1 a b)=some r->evD ctx 71 [(zV t0 a),(zN b)]=some (ZiI r):=
 evT ZHS rfl rfl <| yC Zju fun x0 _=>
  yBr yR
def Zq4 (r:Bool):D:=(D.bool r)
theorem ZpJ {t0 t1:Bool}{a:Int}{b0:List Int}{b1:List Int}:∀r,(Zef a b1)=some r->evD ctx 139 [(zN a),(.d (zK9 t0 b0 t1 b1))]=some (Zq4 r):=
 evT ZDv rfl rfl <| yC Zak fun x0 _=>
  yBr yR
def ZfE (r:Int):D:=(Zh r)
def Zb2 (t0:Bool) (t1:Bool) (t2:Bool) (a:List Int) (b0:List Int) (b1:List Int):(Int⊕Unit)->Ex×List V×Zk
  | (.inl r)=>(.ret,[(zN r)],[])
  | (.inr r)=>(.exit 0,[.bad],[])
theorem Zet {t0 t1 t2:Bool}{a:List Int}{b0:List Int}{b1:List Int}:∀(s0:Int) (r:(Int⊕Unit)),lp (Zx a (fun z0=>Zef z0 b1)) s0=some r->lpW ctx 0 [0,1,7,8] [4] Zl7 [(zV t0 a),(.d (D.fn 139 [(zK9 t1 b0 t2 b1)])),(zN (a.length:Int)),(zN s0)] []=some ((Zb2 t0 t1 t2 a b0 b1) r):=
 lpT (Zb2 t0 t1 t2 a b0 b1) fun s0 _ ih=>yB (yG fun x1 _=>
  yC ZpJ fun x2 _=>
  yB (Zm rfl)
  (Zc (ih _)))
  (Zm rfl)
theorem Zfq {t0 t1 t2:Bool}{a:List Int}{b0:List Int}{b1:List Int}:∀r,(ZG a (fun z0=>Zef z0 b1))=some r->evD ctx 94 [(zV t0 a),(.d (D.fn 139 [(zK9 t1 b0 t2 b1)]))]=some (ZfE r):=
 evT Zuz rfl rfl <| Zf (Zv _ _) (by
 conv=>rhs;whnf
 refine Zb _ (Zet _) fun r3 _=>?_
 rcases r3 with r3 | r3
 exact yR
 exact yR)
def ZeT (r:Bool):D:=(D.bool r)
theorem ZeB {t0 t1 t2:Bool}{a:List Int}{b0:List Int}{b1:List Int}:∀r,(ZC a (fun z0=>Zef z0 b1))=some r->evD ctx 44 [(zV t0 a),(.d (D.fn 139 [(zK9 t1 b0 t2 b1)]))]=some (ZeT r):=
 evT ZxR rfl rfl <| yC Zfq fun x0 _=>
  yBr yR
def ZtN (r:Int):D:=(Zh r)
def Zkw (t0:Bool) (t1:Bool) (t2:Bool) (t3:Bool) (a:Zq):(Unit⊕Unit)->Ex×List V×Zk
  | (.inl r)=>(.ret,[(.ptr 0 0),(zN 53)],[(.cells (dV t0 t1 t2 t3 a))])
  | (.inr r)=>(.exit 0,[(.ptr 0 0),.bad],[(.cells (dV t0 t1 t2 t3 a))])
theorem Zow {t0 t1:Bool}{t2 t3:Bool}{a:Zq}:∀(s4:Int) (r:(Unit⊕Unit)),lp (ZeF a) s4=some r->lpW ctx 0 [1,61,62,63] [1,2] ZFr [(.ptr 0 0),(zW t1 Z4 a.edges),(zN (a.edges.length:Int)),(zN s4)] [(.cells (dV t0 t1 t2 t3 a))]=some ((Zkw t0 t1 t2 t3 a) r):=
 lpT (Zkw t0 t1 t2 t3 a) fun s4 _ ih=>yB (yG fun x5 _=>
  yC Zoj fun x6 _=>
  yB (yBm (Zbz (Zxv Z4 a.edges s4.toNat) (yT (Zf (Zqb Z4 a.edges s4.toNat) (yC ZeR fun x7 _=>
  yB (Zm rfl)
  (Zc (ih _)))))
  Zal))
  (Zm rfl))
  (Zm rfl)
def ZkA (t0:Bool) (t1:Bool) (t2:Bool) (t3:Bool) (a:Zq):(Unit⊕Unit)->Ex×List V×Zk
  | (.inl r)=>(.ret,[(.ptr 0 0),(zN 54)],[(.cells (dV t0 t1 t2 t3 a))])
  | (.inr r)=>(.exit 2,[(.ptr 0 0),.bad],[(.cells (dV t0 t1 t2 t3 a))])
theorem ZoY {t0 t1:Bool}{t2 t3:Bool}{a:Zq}:∀(s9:Int) (r:(Unit⊕Unit)),lp (ZeI a) s9=some r->lpW ctx 0 [1,85,86,87] [1,2] ZEA [(.ptr 0 0),(zW t2 ZT a.futures),(zN (a.futures.length:Int)),(zN s9)] [(.cells (dV t0 t1 t2 t3 a))]=some ((ZkA t0 t1 t2 t3 a) r):=
 lpT (ZkA t0 t1 t2 t3 a) fun s9 _ ih=>yB (yG fun x10 _=>
  yC Zoj fun x11 _=>
  yB (yG fun x12 _=>
  yC ZbT fun x13 _=>
  yB (yBm (Zbz (Zxv ZT a.futures s9.toNat) (yT (Zf (Zqb ZT a.futures s9.toNat) (yC Zdc fun x14 _=>
  yB (Zm rfl)
  (Zc (ih _)))))
  Zal))
  (Zm rfl))
  (Zm rfl))
  (Zm rfl)
def Zkz (t0:Bool) (t1:Bool) (t2:Bool) (t3:Bool) (a:Zq):(Unit⊕Unit)->Ex×List V×Zk
  | (.inl r)=>(.ret,[(zN 55)],[])
  | (.inr r)=>(.exit 4,[.bad],[])
theorem ZoV {t0 t1:Bool}{t2 t3:Bool}{a:Zq}:∀(s16:Int) (r:(Unit⊕Unit)),lp (ZeG a) s16=some r->lpW ctx 0 [1,124,125,126] [2] ZEd [(.ptr 0 0),(zW t3 ZcY a.barriers),(zN (a.barriers.length:Int)),(zN s16)] [(.cells (dV t0 t1 t2 t3 a))]=some ((Zkz t0 t1 t2 t3 a) r):=
 lpT (Zkz t0 t1 t2 t3 a) fun s16 _ ih=>yB (yG fun x17 _=>
  yC Zol fun x18 _=>
  yB (yC Zol fun x19 _=>
  yB (yC ZeB fun x20 _=>
  yB (Zm rfl)
  (Zc (ih _)))
  (Zm rfl))
  (Zm rfl))
  (Zm rfl)
theorem ZmE {t0 t1:Bool}{t2 t3:Bool}{a:Zq}:∀r,(Zh3 a)=some r->evD ctx 81 [(.d (D.agg (dA t0 t1 t2 t3 a)))]=some (ZtN r):=
 evT ZHo rfl rfl <| Zf (Zv _ _) (yC ZbT fun x0 _=>
  yB (Zf (Zv _ _) (yBr (Zf (Zv _ _) (yBr (Zf (Zv _ _) (yBr (yC Zjm fun x1 _=>
  yB (yBr (yC ZbT fun x2 _=>
  yB (yC Ze3 fun x3 _=>
  yBr (Zf (Zv _ _) (by
 conv=>rhs;whnf
 refine Zb _ (Zow _) fun r8 _=>?_
 rcases r8 with r8 | r8
 exact yR
 exact Zf (Zv _ _) (by
 conv=>rhs;whnf
 refine Zb _ (ZoY _) fun r15 _=>?_
 rcases r15 with r15 | r15
 exact yR
 exact Zf (Zv _ _) (by
 conv=>rhs;whnf
 refine Zb _ (ZoV _) fun r21 _=>?_
 rcases r21 with r21 | r21
 exact yR
 exact yR)))))
  yR))
  yR)))))))
  yR)
def ZoD (r:Int):D:=(Zh r)
theorem ZE {t0 t1:Bool}{t2 t3:Bool}{a b:Int}{c0 c1:Int}{c2:List ZU}{c3:List Zi}{c4:List Zg}{c5:List Zr}:∀r,(Zt a b c4)=some r->evD ctx 177 [(zN a),(zN b),(.d (D.rptr [(Zh c0),(Zh c1),(zM t0 ZjJ c2),(zM t1 Z4 c3),(zM t2 ZT c4),(zM t3 ZcY c5)]))]=some (ZoD r):=
 evT ZB5 rfl rfl <| yG fun x0 _=>
  yG fun x1 _=>
  yR
def Zn7 (r:Int):D:=(Zh r)
theorem Zm3 {a:Int}:∀r,(ZkK a)=some r->evD ctx 203 [(.d (D.int .u64 a))]=some (Zn7 r):=
 evT ZFg rfl rfl <| yB (yF (yB (yF (yB (yF (yBm (ZiH rfl fun x0 _=>
  yR)))
  (yBm (ZiH rfl fun x1 _=>
  yR))))
  (yB (yF (yBm (ZiH rfl fun x2 _=>
  yR)))
  (yBm (ZiH rfl fun x3 _=>
  yR)))))
  (yB (yF (yB (yF (yBm (ZiH rfl fun x4 _=>
  yR)))
  (yBm (ZiH rfl fun x5 _=>
  yR))))
  (yB (yF (yBm (ZiH rfl fun x6 _=>
  yR)))
  (yBm (ZiH rfl fun x7 _=>
  yR))))
def Zpt (r:Int):D:=(Zh r)
theorem Zj3 {a:Int}:∀r,(Zgq a)=some r->evD ctx 179 [(.d (D.int .u64 a))]=some (Zpt r):=
 evT ZFd rfl rfl <| yC Zm3 fun x0 _=>
  yR
def ZdR (t0:Bool) (t1:Bool) (t2:Bool) (t3:Bool) (b:Int) (c:Int) (mG:List Int) (mA:Int) (mE:Int) (mC:List ZU) (mD:List Zi) (mB:List Zg) (mF:List Zr):(List Int)->V×Zk
  | r=>((.d (D.tup [])),[(zA r),(zK0 mA mE t0 mC t1 mD t2 mB t3 mF)])
def Zbj (t0:Bool) (t1:Bool) (t2:Bool) (t3:Bool) (b:Int) (c:Int) (mA:Int) (mE:Int) (mC:List ZU) (mD:List Zi) (mB:List Zg) (mF:List Zr) (s0:Int×(List Int)):(List Int)->Ex×List V×Zk
  | r=>(.exit 2,[(.sl 0 1),(zN b),(zN c),(.fn 177 [(.ptr 1 0)]),(zN s0.1)],[(zA r),(zK0 mA mE t0 mC t1 mD t2 mB t3 mF)])
theorem Zc3 {t0 t1:Bool}{t2 t3:Bool}{b c:Int}{mA mE:Int}{mC:List ZU}{mD:List Zi}{mB:List Zg}{mF:List Zr}{s0:Int×(List Int)}:∀(s1:Int×(List Int)) (r:List Int),lp (Z2 b (fun z0 z1=>Zt z0 z1 mB)) s1=some r->lpW ctx 2 [0,1,2,3,8,9] [0,1,2,3,8] ZAL [(.sl 0 1),(zN b),(zN c),(.fn 177 [(.ptr 1 0)]),(zN s0.1),(zN s1.1)] [(zA s1.2),(zK0 mA mE t0 mC t1 mD t2 mB t3 mF)]=some ((Zbj t0 t1 t2 t3 b c mA mE mC mD mB mF s0) r):=
 lpT (Zbj t0 t1 t2 t3 b c mA mE mC mD mB mF s0) fun s1 _ ih=>yB (yG fun x2 hx2=>
  Zd (Zp rfl hx2) (yG fun x3 hx3=>
  Zd (Zp rfl hx3) (yC ZE fun x4 _=>
  yB (Zd (Zax rfl hx3) (Zd (Zp rfl hx3) (Zd (Zax rfl hx2) (Zd (Zp rfl hx2) (Zd (Zax rfl hx2) (Zd (Zp rfl hx2) (Zf (ZZ Zh s1.2 s1.1.toNat x3) (yG fun x5 hx5=>
  Zd (Zp rfl hx5) (Zf (ZZ Zh (List.set s1.2 s1.1.toNat x3) (w64 (s1.1-1)).toNat x2) (Zc (ih _)))))))))))
  (Zm rfl))))
  (Zm rfl)
def Zbo (t0:Bool) (t1:Bool) (t2:Bool) (t3:Bool) (b:Int) (c:Int) (mA:Int) (mE:Int) (mC:List ZU) (mD:List Zi) (mB:List Zg) (mF:List Zr):(List Int)->Ex×List V×Zk
  | r=>(.exit 0,[],[(zA r),(zK0 mA mE t0 mC t1 mD t2 mB t3 mF)])
theorem Zc4 {t0 t1:Bool}{t2 t3:Bool}{b c:Int}{mA mE:Int}{mC:List ZU}{mD:List Zi}{mB:List Zg}{mF:List Zr}:∀(s0:Int×(List Int)) (r:List Int),lp (Zaw b c (fun z0 z1=>Zt z0 z1 mB)) s0=some r->lpW ctx 2 [0,1,2,3,8] [] ZzD [(.sl 0 1),(zN b),(zN c),(.fn 177 [(.ptr 1 0)]),(zN s0.1)] [(zA s0.2),(zK0 mA mE t0 mC t1 mD t2 mB t3 mF)]=some ((Zbo t0 t1 t2 t3 b c mA mE mC mD mB mF) r):=
 lpT (Zbo t0 t1 t2 t3 b c mA mE mC mD mB mF) fun s0 _ ih=>yB (Zb _ (Zc3 _) fun r6 _=>
  Zc (ih _))
  (Zm rfl)
theorem Z6 {t0 t1:Bool}{t2 t3:Bool}{b c:Int}{mG:List Int}{mA mE:Int}{mC:List ZU}{mD:List Zi}{mB:List Zg}{mF:List Zr}:∀r,(Z0 b c (fun z0 z1=>Zt z0 z1 mB) mG)=some r->evW ctx 204 [(.sl 0 1),(zN b),(zN c),(.fn 177 [(.ptr 1 0)])] [(zA mG),(zK0 mA mE t0 mC t1 mD t2 mB t3 mF)]=some ((ZdR t0 t1 t2 t3 b c mG mA mE mC mD mB mF) r):=
 evS ZCu rfl rfl <| Zb _ (Zc4 _) fun r7 _=>
  yR
def Zfm (t0:Bool) (t1:Bool) (t2:Bool) (t3:Bool) (b:Int) (c:Int) (d:Int) (mG:List Int) (mA:Int) (mE:Int) (mC:List ZU) (mD:List Zi) (mB:List Zg) (mF:List Zr):(List Int)->V×Zk
  | r=>((.d (D.tup [])),[(zA r),(zK0 mA mE t0 mC t1 mD t2 mB t3 mF)])
def ZbR (t0:Bool) (t1:Bool) (t2:Bool) (t3:Bool) (c:Int) (d:Int) (mA:Int) (mE:Int) (mC:List ZU) (mD:List Zi) (mB:List Zg) (mF:List Zr):((List Int)⊕(List Int))->Ex×List V×Zk
  | (.inl r)=>(.exit 0,[],[(zA r),(zK0 mA mE t0 mC t1 mD t2 mB t3 mF)])
  | (.inr r)=>(.ret,[],[(zA r),(zK0 mA mE t0 mC t1 mD t2 mB t3 mF)])
theorem ZdY {t0 t1:Bool}{t2 t3:Bool}{c d:Int}{mA mE:Int}{mC:List ZU}{mD:List Zi}{mB:List Zg}{mF:List Zr}:∀(s0:Int×(List Int)) (r:((List Int)⊕(List Int))),lp (ZM c d (fun z0 z1=>Zt z0 z1 mB)) s0=some r->lpW ctx 2 [0,2,3,4,10] [] ZAa [(.sl 0 1),(zN c),(zN d),(.fn 177 [(.ptr 1 0)]),(zN s0.1)] [(zA s0.2),(zK0 mA mE t0 mC t1 mD t2 mB t3 mF)]=some ((ZbR t0 t1 t2 t3 c d mA mE mC mD mB mF) r):=
 lpT (ZbR t0 t1 t2 t3 c d mA mE mC mD mB mF) fun s0 _ ih=>yB (Zm rfl)
  (yB (yG fun x1 hx1=>
  Zd (Zp rfl hx1) (yG fun x2 hx2=>
  Zd (Zp rfl hx2) (yC ZE fun x3 _=>
  yB (yG fun x4 hx4=>
  Zd (Zp rfl hx4) (yG fun x5 hx5=>
  Zd (Zp rfl hx5) (yC ZE fun x6 _=>
  yB (Zd (Zax rfl hx5) (Zd (Zp rfl hx5) (Zd (Zax rfl hx4) (Zd (Zp rfl hx4) (Zd (Zax rfl hx4) (Zd (Zp rfl hx4) (Zf (ZZ Zh s0.2 (w64 (d+s0.1)).toNat x5) (yG fun x7 hx7=>
  Zd (Zp rfl hx7) (Zf (ZZ Zh (List.set s0.2 (w64 (d+s0.1)).toNat x5) (w64 (d+(w64 ((w64 ((w64 (2*s0.1))+1))+1)))).toNat x4) (Zc (ih _)))))))))))
  (Zm rfl))))
  (yG fun x8 hx8=>
  Zd (Zp rfl hx8) (Zd (Zax rfl hx1) (Zd (Zp rfl hx1) (yC ZE fun x9 _=>
  yB (Zd (Zax rfl hx1) (Zd (Zp rfl hx1) (Zd (Zax rfl hx8) (Zd (Zp rfl hx8) (Zd (Zax rfl hx8) (Zd (Zp rfl hx8) (Zf (ZZ Zh s0.2 (w64 (d+s0.1)).toNat x1) (yG fun x10 hx10=>
  Zd (Zp rfl hx10) (Zf (ZZ Zh (List.set s0.2 (w64 (d+s0.1)).toNat x1) (w64 (d+(w64 ((w64 (2*s0.1))+1)))).toNat x8) (Zc (ih _)))))))))))
  (Zm rfl))))))))
  (yG fun x11 hx11=>
  Zd (Zp rfl hx11) (yG fun x12 hx12=>
  Zd (Zp rfl hx12) (yC ZE fun x13 _=>
  yB (Zd (Zax rfl hx12) (Zd (Zp rfl hx12) (Zd (Zax rfl hx11) (Zd (Zp rfl hx11) (Zd (Zax rfl hx11) (Zd (Zp rfl hx11) (Zf (ZZ Zh s0.2 (w64 (d+s0.1)).toNat x12) (yG fun x14 hx14=>
  Zd (Zp rfl hx14) (Zf (ZZ Zh (List.set s0.2 (w64 (d+s0.1)).toNat x12) (w64 (d+(w64 ((w64 (2*s0.1))+1)))).toNat x11) (Zc (ih _)))))))))))
  (Zm rfl)))))
theorem Zb1 {t0 t1:Bool}{t2 t3:Bool}{b c d:Int}{mG:List Int}{mA mE:Int}{mC:List ZU}{mD:List Zi}{mB:List Zg}{mF:List Zr}:∀r,(ZaJ b c d (fun z0 z1=>Zt z0 z1 mB) mG)=some r->evW ctx 218 [(.sl 0 1),(zN b),(zN c),(zN d),(.fn 177 [(.ptr 1 0)])] [(zA mG),(zK0 mA mE t0 mC t1 mD t2 mB t3 mF)]=some ((Zfm t0 t1 t2 t3 b c d mG mA mE mC mD mB mF) r):=
 evS ZEh rfl rfl <| (by
 conv=>rhs;whnf
 refine Zb _ (ZdY _) fun r15 _=>?_
 rcases r15 with r15 | r15
 exact yR
 exact yR)
def Zfl (t0:Bool) (t1:Bool) (t2:Bool) (t3:Bool) (b:Int) (c:Int) (mG:List Int) (mA:Int) (mE:Int) (mC:List ZU) (mD:List Zi) (mB:List Zg) (mF:List Zr):(List Int)->V×Zk
  | r=>((.d (D.tup [])),[(zA r),(zK0 mA mE t0 mC t1 mD t2 mB t3 mF)])
def ZbP (t0:Bool) (t1:Bool) (t2:Bool) (t3:Bool) (b:Int) (c:Int) (mA:Int) (mE:Int) (mC:List ZU) (mD:List Zi) (mB:List Zg) (mF:List Zr):(List Int)->Ex×List V×Zk
  | r=>(.exit 0,[(.sl 0 1),(.fn 177 [(.ptr 1 0)]),(zN b),(zN 0),(zN (w64 (c-b)))],[(zA r),(zK0 mA mE t0 mC t1 mD t2 mB t3 mF)])
theorem Zea {t0 t1:Bool}{t2 t3:Bool}{b c:Int}{mA mE:Int}{mC:List ZU}{mD:List Zi}{mB:List Zg}{mF:List Zr}:∀(s0:Int×(List Int)) (r:List Int),lp (ZaY b c (fun z0 z1=>Zt z0 z1 mB)) s0=some r->lpW ctx 2 [0,3,8,9,10,11] [0,3,8,9,10] ZzA [(.sl 0 1),(.fn 177 [(.ptr 1 0)]),(zN b),(zN 0),(zN (w64 (c-b))),(zN s0.1)] [(zA s0.2),(zK0 mA mE t0 mC t1 mD t2 mB t3 mF)]=some ((ZbP t0 t1 t2 t3 b c mA mE mC mD mB mF) r):=
 lpT (ZbP t0 t1 t2 t3 b c mA mE mC mD mB mF) fun s0 _ ih=>yB (Zb _ Zb1 fun x1 _=>
  Zc (ih _))
  (Zm rfl)
def ZbQ (t0:Bool) (t1:Bool) (t2:Bool) (t3:Bool) (b:Int) (mA:Int) (mE:Int) (mC:List ZU) (mD:List Zi) (mB:List Zg) (mF:List Zr):(List Int)->Ex×List V×Zk
  | r=>(.exit 2,[],[(zA r),(zK0 mA mE t0 mC t1 mD t2 mB t3 mF)])
theorem Zd7 {t0 t1:Bool}{t2 t3:Bool}{b mA mE:Int}{mC:List ZU}{mD:List Zi}{mB:List Zg}{mF:List Zr}:∀(s3:Int×(List Int)) (r:List Int),lp (ZaZ b (fun z0 z1=>Zt z0 z1 mB)) s3=some r->lpW ctx 2 [0,3,8,9,12] [] ZzT [(.sl 0 1),(.fn 177 [(.ptr 1 0)]),(zN b),(zN 0),(zN s3.1)] [(zA s3.2),(zK0 mA mE t0 mC t1 mD t2 mB t3 mF)]=some ((ZbQ t0 t1 t2 t3 b mA mE mC mD mB mF) r):=
 lpT (ZbQ t0 t1 t2 t3 b mA mE mC mD mB mF) fun s3 _ ih=>yB (yG fun x4 hx4=>
  Zd (Zp rfl hx4) (yG fun x5 hx5=>
  Zd (Zp rfl hx5) (Zd (Zax rfl hx5) (Zd (Zp rfl hx5) (Zf (ZZ Zh s3.2 b.toNat x4) (yG fun x6 hx6=>
  Zd (Zp rfl hx6) (Zf (ZZ Zh (List.set s3.2 b.toNat x4) (w64 (b+s3.1)).toNat x5) (Zb _ Zb1 fun x7 _=>
  Zc (ih _)))))))))
  (Zm rfl)
theorem Zai {t0 t1:Bool}{t2 t3:Bool}{b c:Int}{mG:List Int}{mA mE:Int}{mC:List ZU}{mD:List Zi}{mB:List Zg}{mF:List Zr}:∀r,(Zaf b c (fun z0 z1=>Zt z0 z1 mB) mG)=some r->evW ctx 205 [(.sl 0 1),(zN b),(zN c),(.fn 177 [(.ptr 1 0)])] [(zA mG),(zK0 mA mE t0 mC t1 mD t2 mB t3 mF)]=some ((Zfl t0 t1 t2 t3 b c mG mA mE mC mD mB mF) r):=
 evS ZE6 rfl rfl <| yF (Zb _ (Zea _) fun r2 _=>
  Zb _ (Zd7 _) fun r8 _=>
  yR)
def ZfU (t0:Bool) (t1:Bool) (t2:Bool) (t3:Bool) (b:Int) (c:Int) (mG:List Int) (mA:Int) (mI:Int) (mR:Int) (mQ:List ZU) (mP:List Zi) (mO:List Zg) (mS:List Zr):(Int×Int×Int)->V×Zk
  | r=>((.d (D.tup [(Zh r.1),(Zh r.2.1)])),[(zA mG),(.cells [(zN r.2.2)]),(zK0 mI mR t0 mQ t1 mP t2 mO t3 mS)])
theorem Za0 {t0 t1:Bool}{t2 t3:Bool}{b c:Int}{mG:List Int}{mA mI mR:Int}{mQ:List ZU}{mP:List Zi}{mO:List Zg}{mS:List Zr}:∀r,(Za7 b c (fun z0 z1=>Zt z0 z1 mO) mG mA)=some r->evW ctx 222 [(.sl 0 1),(zN b),(zN c),(.ptr 1 0),(.fn 177 [(.ptr 2 0)])] [(zA mG),(.cells [(zN mA)]),(zK0 mI mR t0 mQ t1 mP t2 mO t3 mS)]=some ((ZfU t0 t1 t2 t3 b c mG mA mI mR mQ mP mO mS) r):=
 evS ZCz rfl rfl <| yG fun x0 hx0=>
  Zd (Zp rfl hx0) (yG fun x1 hx1=>
  Zd (Zp rfl hx1) (yC ZE fun x2 _=>
  yBr yR))
def ZfT (t0:Bool) (t1:Bool) (t2:Bool) (t3:Bool) (b:Int) (c:Int) (d:Int) (mG:List Int) (mA:Int) (mI:Int) (mR:Int) (mQ:List ZU) (mP:List Zi) (mO:List Zg) (mS:List Zr):(Int×Int)->V×Zk
  | r=>((zN r.1),[(zA mG),(.cells [(zN r.2)]),(zK0 mI mR t0 mQ t1 mP t2 mO t3 mS)])
theorem Za1 {t0 t1:Bool}{t2 t3:Bool}{b c d:Int}{mG:List Int}{mA mI mR:Int}{mQ:List ZU}{mP:List Zi}{mO:List Zg}{mS:List Zr}:∀r,(Za5 b c d (fun z0 z1=>Zt z0 z1 mO) mG mA)=some r->evW ctx 220 [(.sl 0 1),(zN b),(zN c),(zN d),(.ptr 1 0),(.fn 177 [(.ptr 2 0)])] [(zA mG),(.cells [(zN mA)]),(zK0 mI mR t0 mQ t1 mP t2 mO t3 mS)]=some ((ZfT t0 t1 t2 t3 b c d mG mA mI mR mQ mP mO mS) r):=
 evS ZD6 rfl rfl <| Zb _ Za0 fun x0 _=>
  Zb _ Za0 fun x1 _=>
  Zb _ Za0 fun x2 _=>
  yR
def Zdx (t0:Bool) (t1:Bool) (t2:Bool) (t3:Bool) (b:Int) (mG:List Int) (mA:Int) (mI:Int) (mR:Int) (mQ:List ZU) (mP:List Zi) (mO:List Zg) (mS:List Zr):(Int×Int)->V×Zk
  | r=>((zN r.1),[(zA mG),(.cells [(zN r.2)]),(zK0 mI mR t0 mQ t1 mP t2 mO t3 mS)])
theorem Zav {t0 t1:Bool}{t2 t3:Bool}{b:Int}{mG:List Int}{mA mI mR:Int}{mQ:List ZU}{mP:List Zi}{mO:List Zg}{mS:List Zr}:∀r,(Zaj b (fun z0 z1=>Zt z0 z1 mO) mG mA)=some r->evW ctx 219 [(.sl 0 1),(zN b),(.ptr 1 0),(.fn 177 [(.ptr 2 0)])] [(zA mG),(.cells [(zN mA)]),(zK0 mI mR t0 mQ t1 mP t2 mO t3 mS)]=some ((Zdx t0 t1 t2 t3 b mG mA mI mR mQ mP mO mS) r):=
 evS ZE2 rfl rfl <| Zb _ Za1 fun x0 _=>
  yR
def Zen (t0:Bool) (t1:Bool) (t2:Bool) (t3:Bool) (b:Int) (c:Int) (mG:List Int) (mA:Int) (mE:Int) (mC:List ZU) (mD:List Zi) (mB:List Zg) (mF:List Zr):(Int×Int)->V×Zk
  | r=>((.d (D.tup [(Zh r.1),(Zh r.2)])),[(zA mG),(zK0 mA mE t0 mC t1 mD t2 mB t3 mF)])
theorem Zac {t0 t1:Bool}{t2 t3:Bool}{b c:Int}{mG:List Int}{mA mE:Int}{mC:List ZU}{mD:List Zi}{mB:List Zg}{mF:List Zr}:∀r,(ZR b c (fun z0 z1=>Zt z0 z1 mB) mG)=some r->evW ctx 207 [(.sl 0 1),(zN b),(zN c),(.fn 177 [(.ptr 1 0)])] [(zA mG),(zK0 mA mE t0 mC t1 mD t2 mB t3 mF)]=some ((Zen t0 t1 t2 t3 b c mG mA mE mC mD mB mF) r):=
 evS ZCm rfl rfl <| yF (yF (yF (yB (yB (Zb _ Zav fun x0 _=>
  Zb _ Zav fun x1 _=>
  Zb _ Zav fun x2 _=>
  Zb _ Za1 fun x3 _=>
  yBr (yBr yR))
  (Zb _ Za1 fun x4 _=>
  yBr (yBr yR)))
  (yT yR))))
def ZdT (t0:Bool) (t1:Bool) (t2:Bool) (t3:Bool) (b:Int) (c:Int) (mG:List Int) (mA:Int) (mE:Int) (mC:List ZU) (mD:List Zi) (mB:List Zg) (mF:List Zr):(List Int)->V×Zk
  | r=>((.d (D.tup [])),[(zA r),(zK0 mA mE t0 mC t1 mD t2 mB t3 mF)])
def Zbu (t0:Bool) (t1:Bool) (t2:Bool) (t3:Bool) (mA:Int) (mE:Int) (mC:List ZU) (mD:List Zi) (mB:List Zg) (mF:List Zr):(List Int)->Ex×List V×Zk
  | r=>(.exit 0,[],[(zA r),(zK0 mA mE t0 mC t1 mD t2 mB t3 mF)])
theorem Zdb {t0 t1:Bool}{t2 t3:Bool}{mA mE:Int}{mC:List ZU}{mD:List Zi}{mB:List Zg}{mF:List Zr}:∀(s0:Int×Int×(List Int)) (r:List Int),lp (Zag) s0=some r->lpW ctx 2 [0,8,9] [] Zz0 [(.sl 0 1),(zN s0.1),(zN s0.2.1)] [(zA s0.2.2),(zK0 mA mE t0 mC t1 mD t2 mB t3 mF)]=some ((Zbu t0 t1 t2 t3 mA mE mC mD mB mF) r):=
 lpT (Zbu t0 t1 t2 t3 mA mE mC mD mB mF) fun s0 _ ih=>yB (yG fun x1 hx1=>
  Zd (Zp rfl hx1) (yG fun x2 hx2=>
  Zd (Zp rfl hx2) (Zd (Zax rfl hx2) (Zd (Zp rfl hx2) (Zf (ZZ Zh s0.2.2 s0.1.toNat x1) (yG fun x3 hx3=>
  Zd (Zp rfl hx3) (Zf (ZZ Zh (List.set s0.2.2 s0.1.toNat x1) s0.2.1.toNat x2) (Zc (ih _)))))))))
  (Zm rfl)
theorem Zaa {t0 t1:Bool}{t2 t3:Bool}{b c:Int}{mG:List Int}{mA mE:Int}{mC:List ZU}{mD:List Zi}{mB:List Zg}{mF:List Zr}:∀r,(ZP b c (fun z0 z1=>Zt z0 z1 mB) mG)=some r->evW ctx 208 [(.sl 0 1),(zN b),(zN c),(.fn 177 [(.ptr 1 0)])] [(zA mG),(zK0 mA mE t0 mC t1 mD t2 mB t3 mF)]=some ((ZdT t0 t1 t2 t3 b c mG mA mE mC mD mB mF) r):=
 evS ZCy rfl rfl <| Zb _ (Zdb _) fun r4 _=>
  yR
def ZcH (t0:Bool) (t1:Bool) (t2:Bool) (t3:Bool) (b:Int) (c:Int) (mG:List Int) (mA:Int) (mE:Int) (mC:List ZU) (mD:List Zi) (mB:List Zg) (mF:List Zr):((List Int)⊕(List Int))->V×Zk
  | (.inl r)=>((.d (D.bool true)),[(zA r),(zK0 mA mE t0 mC t1 mD t2 mB t3 mF)])
  | (.inr r)=>((.d (D.bool false)),[(zA r),(zK0 mA mE t0 mC t1 mD t2 mB t3 mF)])
def ZaT (t0:Bool) (t1:Bool) (t2:Bool) (t3:Bool) (b:Int) (c:Int) (mA:Int) (mE:Int) (mC:List ZU) (mD:List Zi) (mB:List Zg) (mF:List Zr) (s0:Int×Int×(List Int)):Int->Ex×List V×Zk
  | r=>(.exit 2,[(.sl 0 1),(zN b),(zN c),(.fn 177 [(.ptr 1 0)]),(zN r),(zN s0.2.1)],[(zA s0.2.2),(zK0 mA mE t0 mC t1 mD t2 mB t3 mF)])
theorem Zcq {t0 t1:Bool}{t2 t3:Bool}{b c:Int}{mA mE:Int}{mC:List ZU}{mD:List Zi}{mB:List Zg}{mF:List Zr}{s0:Int×Int×(List Int)}:∀(s1:Int) (r:Int),lp (ZQ c (fun z0 z1=>Zt z0 z1 mB) s0) s1=some r->lpW ctx 2 [0,1,2,3,9,10] [0,1,2,3,9,10] ZAd [(.sl 0 1),(zN b),(zN c),(.fn 177 [(.ptr 1 0)]),(zN s1),(zN s0.2.1)] [(zA s0.2.2),(zK0 mA mE t0 mC t1 mD t2 mB t3 mF)]=some ((ZaT t0 t1 t2 t3 b c mA mE mC mD mB mF s0) r):=
 lpT (ZaT t0 t1 t2 t3 b c mA mE mC mD mB mF s0) fun s1 _ ih=>yB (yG fun x2 hx2=>
  Zd (Zp rfl hx2) (yG fun x3 hx3=>
  Zd (Zp rfl hx3) (yC ZE fun x4 _=>
  yB (Zm rfl)
  (Zc (ih _)))))
  (Zm rfl)
def ZaQ (t0:Bool) (t1:Bool) (t2:Bool) (t3:Bool) (b:Int) (c:Int) (mA:Int) (mE:Int) (mC:List ZU) (mD:List Zi) (mB:List Zg) (mF:List Zr) (s0:Int×Int×(List Int)) (r5:Int):(List Int)->Ex×List V×Zk
  | r=>(.exit 4,[(.sl 0 1),(zN b),(zN c),(.fn 177 [(.ptr 1 0)]),(zN r5),(zN s0.2.1)],[(zA r),(zK0 mA mE t0 mC t1 mD t2 mB t3 mF)])
theorem Zcp {t0 t1:Bool}{t2 t3:Bool}{b c:Int}{mA mE:Int}{mC:List ZU}{mD:List Zi}{mB:List Zg}{mF:List Zr}{s0:Int×Int×(List Int)}{r5:Int}:∀(s9:Int×(List Int)) (r:List Int),lp (ZY (fun z0 z1=>Zt z0 z1 mB)) s9=some r->lpW ctx 2 [0,1,2,3,9,10,11] [0,1,2,3,9,10] ZAJ [(.sl 0 1),(zN b),(zN c),(.fn 177 [(.ptr 1 0)]),(zN r5),(zN s0.2.1),(zN s9.1)] [(zA s9.2),(zK0 mA mE t0 mC t1 mD t2 mB t3 mF)]=some ((ZaQ t0 t1 t2 t3 b c mA mE mC mD mB mF s0 r5) r):=
 lpT (ZaQ t0 t1 t2 t3 b c mA mE mC mD mB mF s0 r5) fun s9 _ ih=>yB (yG fun x10 hx10=>
  Zd (Zp rfl hx10) (yG fun x11 hx11=>
  Zd (Zp rfl hx11) (yC ZE fun x12 _=>
  yB (Zd (Zax rfl hx11) (Zd (Zp rfl hx11) (Zd (Zax rfl hx10) (Zd (Zp rfl hx10) (Zd (Zax rfl hx10) (Zd (Zp rfl hx10) (Zf (ZZ Zh s9.2 s9.1.toNat x11) (yG fun x13 hx13=>
  Zd (Zp rfl hx13) (Zf (ZZ Zh (List.set s9.2 s9.1.toNat x11) (w64 (s9.1-1)).toNat x10) (Zc (ih _)))))))))))
  (Zm rfl))))
  (Zm rfl)
def ZaR (t0:Bool) (t1:Bool) (t2:Bool) (t3:Bool) (b:Int) (c:Int) (mA:Int) (mE:Int) (mC:List ZU) (mD:List Zi) (mB:List Zg) (mF:List Zr) (s0:Int×Int×(List Int)) (r5:Int):(List Int)->Ex×List V×Zk
  | r=>(.exit 6,[(.sl 0 1),(zN b),(zN c),(.fn 177 [(.ptr 1 0)]),(zN r5),(zN s0.2.1)],[(zA r),(zK0 mA mE t0 mC t1 mD t2 mB t3 mF)])
theorem ZaP {t0 t1:Bool}{t2 t3:Bool}{b c:Int}{mA mE:Int}{mC:List ZU}{mD:List Zi}{mB:List Zg}{mF:List Zr}{s0:Int×Int×(List Int)}{r5:Int}:∀(s15:Int×(List Int)) (r:List Int),lp (ZJ c (fun z0 z1=>Zt z0 z1 mB)) s15=some r->lpW ctx 2 [0,1,2,3,9,10,12] [0,1,2,3,9,10] ZAr [(.sl 0 1),(zN b),(zN c),(.fn 177 [(.ptr 1 0)]),(zN r5),(zN s0.2.1),(zN s15.1)] [(zA s15.2),(zK0 mA mE t0 mC t1 mD t2 mB t3 mF)]=some ((ZaR t0 t1 t2 t3 b c mA mE mC mD mB mF s0 r5) r):=
 lpT (ZaR t0 t1 t2 t3 b c mA mE mC mD mB mF s0 r5) fun s15 _ ih=>yB (yG fun x16 hx16=>
  Zd (Zp rfl hx16) (yG fun x17 hx17=>
  Zd (Zp rfl hx17) (yC ZE fun x18 _=>
  yB (Zd (Zax rfl hx17) (Zd (Zp rfl hx17) (Zd (Zax rfl hx16) (Zd (Zp rfl hx16) (Zd (Zax rfl hx16) (Zd (Zp rfl hx16) (Zf (ZZ Zh s15.2 s15.1.toNat x17) (yG fun x19 hx19=>
  Zd (Zp rfl hx19) (Zf (ZZ Zh (List.set s15.2 s15.1.toNat x17) (w64 (s15.1-1)).toNat x16) (Zc (ih _)))))))))))
  (Zm rfl))))
  (Zm rfl)
def ZaS (t0:Bool) (t1:Bool) (t2:Bool) (t3:Bool) (b:Int) (c:Int) (mA:Int) (mE:Int) (mC:List ZU) (mD:List Zi) (mB:List Zg) (mF:List Zr):((List Int)⊕((List Int)⊕(List Int)))->Ex×List V×Zk
  | (.inl r)=>(.ret,[(.d (D.bool true))],[(zA r),(zK0 mA mE t0 mC t1 mD t2 mB t3 mF)])
  | (.inr (.inl r))=>(.ret,[(.d (D.bool false))],[(zA r),(zK0 mA mE t0 mC t1 mD t2 mB t3 mF)])
  | (.inr (.inr r))=>(.exit 0,[.bad],[(zA r),(zK0 mA mE t0 mC t1 mD t2 mB t3 mF)])
theorem Zct {t0 t1:Bool}{t2 t3:Bool}{b c:Int}{mA mE:Int}{mC:List ZU}{mD:List Zi}{mB:List Zg}{mF:List Zr}:∀(s0:Int×Int×(List Int)) (r:((List Int)⊕((List Int)⊕(List Int)))),lp (ZX b c (fun z0 z1=>Zt z0 z1 mB)) s0=some r->lpW ctx 2 [0,1,2,3,9,10] [8] Zzx [(.sl 0 1),(zN b),(zN c),(.fn 177 [(.ptr 1 0)]),(zN s0.1),(zN s0.2.1)] [(zA s0.2.2),(zK0 mA mE t0 mC t1 mD t2 mB t3 mF)]=some ((ZaS t0 t1 t2 t3 b c mA mE mC mD mB mF) r):=
 lpT (ZaS t0 t1 t2 t3 b c mA mE mC mD mB mF) fun s0 _ ih=>yB (Zb _ (Zcq _) fun r5 _=>
  yB (Zm rfl)
  (yB (Zm rfl)
  (yG fun x6 hx6=>
  Zd (Zp rfl hx6) (yG fun x7 hx7=>
  Zd (Zp rfl hx7) (Zd (Zax rfl hx7) (Zd (Zp rfl hx7) (Zf (ZZ Zh s0.2.2 r5.toNat x6) (yG fun x8 hx8=>
  Zd (Zp rfl hx8) (Zf (ZZ Zh (List.set s0.2.2 r5.toNat x6) (w64 (r5-1)).toNat x7) (yB (Zb _ (Zcp _) fun r14 _=>
  yB (Zb _ (ZaP _) fun r20 _=>
  Zc (ih _))
  (Zc (ih _)))
  (yB (Zb _ (ZaP _) fun r26 _=>
  Zc (ih _))
  (Zc (ih _)))))))))))))
  (Zm rfl)
theorem Za2 {t0 t1:Bool}{t2 t3:Bool}{b c:Int}{mG:List Int}{mA mE:Int}{mC:List ZU}{mD:List Zi}{mB:List Zg}{mF:List Zr}:∀r,(ZS b c (fun z0 z1=>Zt z0 z1 mB) mG)=some r->evW ctx 209 [(.sl 0 1),(zN b),(zN c),(.fn 177 [(.ptr 1 0)])] [(zA mG),(zK0 mA mE t0 mC t1 mD t2 mB t3 mF)]=some ((ZcH t0 t1 t2 t3 b c mG mA mE mC mD mB mF) r):=
 evS ZEq rfl rfl <| (by
 conv=>rhs;whnf
 refine Zb _ (Zct _) fun r27 _=>?_
 rcases r27 with r27 | (r27 | r27)
 exact yR
 exact yR
 exact yR)
def Ze2 (t0:Bool) (t1:Bool) (t2:Bool) (t3:Bool) (b:Int) (c:Int) (d:Int) (mG:List Int) (mA:Int) (mE:Int) (mC:List ZU) (mD:List Zi) (mB:List Zg) (mF:List Zr):((Int×(List Int))⊕(Int×(List Int)))->V×Zk
  | (.inl r)=>((.d (D.tup [(Zh r.1),(D.bool true)])),[(zA r.2),(zK0 mA mE t0 mC t1 mD t2 mB t3 mF)])
  | (.inr r)=>((.d (D.tup [(Zh r.1),(D.bool false)])),[(zA r.2),(zK0 mA mE t0 mC t1 mD t2 mB t3 mF)])
def ZbN (t0:Bool) (t1:Bool) (t2:Bool) (t3:Bool) (b:Int) (c:Int) (d:Int) (mG:List Int) (mA:Int) (mE:Int) (mC:List ZU) (mD:List Zi) (mB:List Zg) (mF:List Zr) (x0:Int) (x1:Int):Int->Ex×List V×Zk
  | r=>(.exit 0,[(.sl 0 1),(zN b),(.fn 177 [(.ptr 1 0)]),(zN r),(zN (w64 (c-1)))],[(zA (List.set (List.set mG b.toNat x0) d.toNat x1)),(zK0 mA mE t0 mC t1 mD t2 mB t3 mF)])
theorem ZdM {t0 t1:Bool}{t2 t3:Bool}{b c d:Int}{mG:List Int}{mA mE:Int}{mC:List ZU}{mD:List Zi}{mB:List Zg}{mF:List Zr}{x0 x1:Int}:∀(s3:Int) (r:Int),lp (ZaN b c d mG (fun z0 z1=>Zt z0 z1 mB) x0 x1) s3=some r->lpW ctx 2 [0,1,4,12,13] [0,1,4,12,13] ZAN [(.sl 0 1),(zN b),(.fn 177 [(.ptr 1 0)]),(zN s3),(zN (w64 (c-1)))] [(zA (List.set (List.set mG b.toNat x0) d.toNat x1)),(zK0 mA mE t0 mC t1 mD t2 mB t3 mF)]=some ((ZbN t0 t1 t2 t3 b c d mG mA mE mC mD mB mF x0 x1) r):=
 lpT (ZbN t0 t1 t2 t3 b c d mG mA mE mC mD mB mF x0 x1) fun s3 _ ih=>yB (yG fun x4 hx4=>
  Zd (Zp rfl hx4) (yG fun x5 hx5=>
  Zd (Zp rfl hx5) (yC ZE fun x6 _=>
  yB (Zc (ih _))
  (Zm rfl))))
  (Zm rfl)
def ZbL (t0:Bool) (t1:Bool) (t2:Bool) (t3:Bool) (b:Int) (d:Int) (mG:List Int) (mA:Int) (mE:Int) (mC:List ZU) (mD:List Zi) (mB:List Zg) (mF:List Zr) (x0:Int) (x1:Int) (r7:Int):Int->Ex×List V×Zk
  | r=>(.exit 2,[(.sl 0 1),(zN b),(.fn 177 [(.ptr 1 0)]),(zN r7),(zN r)],[(zA (List.set (List.set mG b.toNat x0) d.toNat x1)),(zK0 mA mE t0 mC t1 mD t2 mB t3 mF)])
theorem ZdK {t0 t1:Bool}{t2 t3:Bool}{b d:Int}{mG:List Int}{mA mE:Int}{mC:List ZU}{mD:List Zi}{mB:List Zg}{mF:List Zr}{x0 x1 r7:Int}:∀(s8:Int) (r:Int),lp (ZaM b d mG (fun z0 z1=>Zt z0 z1 mB) x0 x1 r7) s8=some r->lpW ctx 2 [0,1,4,12,13] [0,1,4,12,13] ZAG [(.sl 0 1),(zN b),(.fn 177 [(.ptr 1 0)]),(zN r7),(zN s8)] [(zA (List.set (List.set mG b.toNat x0) d.toNat x1)),(zK0 mA mE t0 mC t1 mD t2 mB t3 mF)]=some ((ZbL t0 t1 t2 t3 b d mG mA mE mC mD mB mF x0 x1 r7) r):=
 lpT (ZbL t0 t1 t2 t3 b d mG mA mE mC mD mB mF x0 x1 r7) fun s8 _ ih=>yB (yG fun x9 hx9=>
  Zd (Zp rfl hx9) (yG fun x10 hx10=>
  Zd (Zp rfl hx10) (yC ZE fun x11 _=>
  yB (Zm rfl)
  (Zc (ih _)))))
  (Zm rfl)
def ZbI (t0:Bool) (t1:Bool) (t2:Bool) (t3:Bool) (b:Int) (mA:Int) (mE:Int) (mC:List ZU) (mD:List Zi) (mB:List Zg) (mF:List Zr) (s19:Int×Int×(List Int)):Int->Ex×List V×Zk
  | r=>(.exit 6,[(.sl 0 1),(zN b),(.fn 177 [(.ptr 1 0)]),(zN r),(zN s19.2.1)],[(zA s19.2.2),(zK0 mA mE t0 mC t1 mD t2 mB t3 mF)])
theorem ZdS {t0 t1:Bool}{t2 t3:Bool}{b mA mE:Int}{mC:List ZU}{mD:List Zi}{mB:List Zg}{mF:List Zr}{s19:Int×Int×(List Int)}:∀(s20:Int) (r:Int),lp (ZaO b (fun z0 z1=>Zt z0 z1 mB) s19) s20=some r->lpW ctx 2 [0,1,4,12,13] [0,1,4,12,13] ZAq [(.sl 0 1),(zN b),(.fn 177 [(.ptr 1 0)]),(zN s20),(zN s19.2.1)] [(zA s19.2.2),(zK0 mA mE t0 mC t1 mD t2 mB t3 mF)]=some ((ZbI t0 t1 t2 t3 b mA mE mC mD mB mF s19) r):=
 lpT (ZbI t0 t1 t2 t3 b mA mE mC mD mB mF s19) fun s20 _ ih=>yB (yG fun x21 hx21=>
  Zd (Zp rfl hx21) (yG fun x22 hx22=>
  Zd (Zp rfl hx22) (yC ZE fun x23 _=>
  yB (Zc (ih _))
  (Zm rfl))))
  (Zm rfl)
def ZbM (t0:Bool) (t1:Bool) (t2:Bool) (t3:Bool) (b:Int) (mA:Int) (mE:Int) (mC:List ZU) (mD:List Zi) (mB:List Zg) (mF:List Zr) (s19:Int×Int×(List Int)) (r24:Int):Int->Ex×List V×Zk
  | r=>(.exit 8,[(.sl 0 1),(zN b),(.fn 177 [(.ptr 1 0)]),(zN r24),(zN r)],[(zA s19.2.2),(zK0 mA mE t0 mC t1 mD t2 mB t3 mF)])
theorem ZdH {t0 t1:Bool}{t2 t3:Bool}{b mA mE:Int}{mC:List ZU}{mD:List Zi}{mB:List Zg}{mF:List Zr}{s19:Int×Int×(List Int)}{r24:Int}:∀(s25:Int) (r:Int),lp (ZaL b (fun z0 z1=>Zt z0 z1 mB) s19 r24) s25=some r->lpW ctx 2 [0,1,4,12,13] [0,1,4,12,13] ZAi [(.sl 0 1),(zN b),(.fn 177 [(.ptr 1 0)]),(zN r24),(zN s25)] [(zA s19.2.2),(zK0 mA mE t0 mC t1 mD t2 mB t3 mF)]=some ((ZbM t0 t1 t2 t3 b mA mE mC mD mB mF s19 r24) r):=
 lpT (ZbM t0 t1 t2 t3 b mA mE mC mD mB mF s19 r24) fun s25 _ ih=>yB (yG fun x26 hx26=>
  Zd (Zp rfl hx26) (yG fun x27 hx27=>
  Zd (Zp rfl hx27) (yC ZE fun x28 _=>
  yB (Zm rfl)
  (Zc (ih _)))))
  (Zm rfl)
def ZbK (t0:Bool) (t1:Bool) (t2:Bool) (t3:Bool) (b:Int) (mA:Int) (mE:Int) (mC:List ZU) (mD:List Zi) (mB:List Zg) (mF:List Zr):(Int×(List Int))->Ex×List V×Zk
  | r=>(.exit 4,[(.sl 0 1),(zN b),(zN r.1)],[(zA r.2),(zK0 mA mE t0 mC t1 mD t2 mB t3 mF)])
theorem ZdQ {t0 t1:Bool}{t2 t3:Bool}{b mA mE:Int}{mC:List ZU}{mD:List Zi}{mB:List Zg}{mF:List Zr}:∀(s19:Int×Int×(List Int)) (r:(Int×(List Int))),lp (ZbE b (fun z0 z1=>Zt z0 z1 mB)) s19=some r->lpW ctx 2 [0,1,4,12,13] [0,1,13] ZzN [(.sl 0 1),(zN b),(.fn 177 [(.ptr 1 0)]),(zN s19.1),(zN s19.2.1)] [(zA s19.2.2),(zK0 mA mE t0 mC t1 mD t2 mB t3 mF)]=some ((ZbK t0 t1 t2 t3 b mA mE mC mD mB mF) r):=
 lpT (ZbK t0 t1 t2 t3 b mA mE mC mD mB mF) fun s19 _ ih=>Zb _ (ZdS _) fun r24 _=>
  Zb _ (ZdH _) fun r29 _=>
  yB (Zm rfl)
  (yG fun x30 hx30=>
  Zd (Zp rfl hx30) (yG fun x31 hx31=>
  Zd (Zp rfl hx31) (Zd (Zax rfl hx31) (Zd (Zp rfl hx31) (Zf (ZZ Zh s19.2.2 r24.toNat x30) (yG fun x32 hx32=>
  Zd (Zp rfl hx32) (Zf (ZZ Zh (List.set s19.2.2 r24.toNat x30) r29.toNat x31) (Zc (ih _)))))))))
theorem Zl {t0 t1:Bool}{t2 t3:Bool}{b c d:Int}{mG:List Int}{mA mE:Int}{mC:List ZU}{mD:List Zi}{mB:List Zg}{mF:List Zr}:∀r,(Zs b c d (fun z0 z1=>Zt z0 z1 mB) mG)=some r->evW ctx 211 [(.sl 0 1),(zN b),(zN c),(zN d),(.fn 177 [(.ptr 1 0)])] [(zA mG),(zK0 mA mE t0 mC t1 mD t2 mB t3 mF)]=some ((Ze2 t0 t1 t2 t3 b c d mG mA mE mC mD mB mF) r):=
 evS ZDG rfl rfl <| yG fun x0 hx0=>
  Zd (Zp rfl hx0) (yG fun x1 hx1=>
  Zd (Zp rfl hx1) (Zd (Zax rfl hx1) (Zd (Zp rfl hx1) (Zf (ZZ Zh mG b.toNat x0) (yG fun x2 hx2=>
  Zd (Zp rfl hx2) (Zf (ZZ Zh (List.set mG b.toNat x0) d.toNat x1) (Zb _ (ZdM _) fun r7 _=>
  Zb _ (ZdK _) fun r12 _=>
  yB (yG fun x13 hx13=>
  Zd (Zp rfl hx13) (yG fun x14 hx14=>
  Zd (Zp rfl hx14) (Zd (Zax rfl hx14) (Zd (Zp rfl hx14) (Zf (ZZ Zh (List.set (List.set mG b.toNat x0) d.toNat x1) r12.toNat x13) (yG fun x15 hx15=>
  Zd (Zp rfl hx15) (Zf (ZZ Zh (List.set (List.set (List.set mG b.toNat x0) d.toNat x1) r12.toNat x13) b.toNat x14) yR)))))))
  (yG fun x16 hx16=>
  Zd (Zp rfl hx16) (yG fun x17 hx17=>
  Zd (Zp rfl hx17) (Zd (Zax rfl hx17) (Zd (Zp rfl hx17) (Zf (ZZ Zh (List.set (List.set mG b.toNat x0) d.toNat x1) r7.toNat x16) (yG fun x18 hx18=>
  Zd (Zp rfl hx18) (Zf (ZZ Zh (List.set (List.set (List.set mG b.toNat x0) d.toNat x1) r7.toNat x16) r12.toNat x17) (Zb _ (ZdQ _) fun r33 _=>
  yG fun x34 hx34=>
  Zd (Zp rfl hx34) (yG fun x35 hx35=>
  Zd (Zp rfl hx35) (Zd (Zax rfl hx35) (Zd (Zp rfl hx35) (Zf (ZZ Zh r33.2 r33.1.toNat x34) (yG fun x36 hx36=>
  Zd (Zp rfl hx36) (Zf (ZZ Zh (List.set r33.2 r33.1.toNat x34) b.toNat x35) yR)))))))))))))))))))))
def ZdA (t0:Bool) (t1:Bool) (t2:Bool) (t3:Bool) (b:Int) (c:Int) (d:Int) (mG:List Int) (mA:Int) (mE:Int) (mC:List ZU) (mD:List Zi) (mB:List Zg) (mF:List Zr):(Int×(List Int))->V×Zk
  | r=>((zN r.1),[(zA r.2),(zK0 mA mE t0 mC t1 mD t2 mB t3 mF)])
def Zbh (t0:Bool) (t1:Bool) (t2:Bool) (t3:Bool) (b:Int) (mA:Int) (mE:Int) (mC:List ZU) (mD:List Zi) (mB:List Zg) (mF:List Zr) (s3:Int×Int×(List Int)):Int->Ex×List V×Zk
  | r=>(.exit 2,[(.sl 0 1),(zN b),(.fn 177 [(.ptr 1 0)]),(zN r),(zN s3.2.1)],[(zA s3.2.2),(zK0 mA mE t0 mC t1 mD t2 mB t3 mF)])
theorem ZcU {t0 t1:Bool}{t2 t3:Bool}{b mA mE:Int}{mC:List ZU}{mD:List Zi}{mB:List Zg}{mF:List Zr}{s3:Int×Int×(List Int)}:∀(s4:Int) (r:Int),lp (Zas b (fun z0 z1=>Zt z0 z1 mB) s3) s4=some r->lpW ctx 2 [0,1,4,11,12] [0,1,4,11,12] ZzF [(.sl 0 1),(zN b),(.fn 177 [(.ptr 1 0)]),(zN s4),(zN s3.2.1)] [(zA s3.2.2),(zK0 mA mE t0 mC t1 mD t2 mB t3 mF)]=some ((Zbh t0 t1 t2 t3 b mA mE mC mD mB mF s3) r):=
 lpT (Zbh t0 t1 t2 t3 b mA mE mC mD mB mF s3) fun s4 _ ih=>yB (yG fun x5 hx5=>
  Zd (Zp rfl hx5) (yG fun x6 hx6=>
  Zd (Zp rfl hx6) (yC ZE fun x7 _=>
  yB (Zm rfl)
  (Zc (ih _)))))
  (Zm rfl)
def Zbi (t0:Bool) (t1:Bool) (t2:Bool) (t3:Bool) (b:Int) (mA:Int) (mE:Int) (mC:List ZU) (mD:List Zi) (mB:List Zg) (mF:List Zr) (s3:Int×Int×(List Int)) (r8:Int):Int->Ex×List V×Zk
  | r=>(.exit 4,[(.sl 0 1),(zN b),(.fn 177 [(.ptr 1 0)]),(zN r8),(zN r)],[(zA s3.2.2),(zK0 mA mE t0 mC t1 mD t2 mB t3 mF)])
theorem Zc1 {t0 t1:Bool}{t2 t3:Bool}{b mA mE:Int}{mC:List ZU}{mD:List Zi}{mB:List Zg}{mF:List Zr}{s3:Int×Int×(List Int)}{r8:Int}:∀(s9:Int) (r:Int),lp (Zat b (fun z0 z1=>Zt z0 z1 mB) s3 r8) s9=some r->lpW ctx 2 [0,1,4,11,12] [0,1,4,11,12] ZzR [(.sl 0 1),(zN b),(.fn 177 [(.ptr 1 0)]),(zN r8),(zN s9)] [(zA s3.2.2),(zK0 mA mE t0 mC t1 mD t2 mB t3 mF)]=some ((Zbi t0 t1 t2 t3 b mA mE mC mD mB mF s3 r8) r):=
 lpT (Zbi t0 t1 t2 t3 b mA mE mC mD mB mF s3 r8) fun s9 _ ih=>yB (yG fun x10 hx10=>
  Zd (Zp rfl hx10) (yG fun x11 hx11=>
  Zd (Zp rfl hx11) (yC ZE fun x12 _=>
  yB (Zc (ih _))
  (Zm rfl))))
  (Zm rfl)
def Zbg (t0:Bool) (t1:Bool) (t2:Bool) (t3:Bool) (b:Int) (mA:Int) (mE:Int) (mC:List ZU) (mD:List Zi) (mB:List Zg) (mF:List Zr):(Int×(List Int))->Ex×List V×Zk
  | r=>(.exit 0,[(zN r.1)],[(zA r.2),(zK0 mA mE t0 mC t1 mD t2 mB t3 mF)])
theorem ZcZ {t0 t1:Bool}{t2 t3:Bool}{b mA mE:Int}{mC:List ZU}{mD:List Zi}{mB:List Zg}{mF:List Zr}:∀(s3:Int×Int×(List Int)) (r:(Int×(List Int))),lp (ZaV b (fun z0 z1=>Zt z0 z1 mB)) s3=some r->lpW ctx 2 [0,1,4,11,12] [11] ZAC [(.sl 0 1),(zN b),(.fn 177 [(.ptr 1 0)]),(zN s3.1),(zN s3.2.1)] [(zA s3.2.2),(zK0 mA mE t0 mC t1 mD t2 mB t3 mF)]=some ((Zbg t0 t1 t2 t3 b mA mE mC mD mB mF) r):=
 lpT (Zbg t0 t1 t2 t3 b mA mE mC mD mB mF) fun s3 _ ih=>Zb _ (ZcU _) fun r8 _=>
  Zb _ (Zc1 _) fun r13 _=>
  yB (Zm rfl)
  (yG fun x14 hx14=>
  Zd (Zp rfl hx14) (yG fun x15 hx15=>
  Zd (Zp rfl hx15) (Zd (Zax rfl hx15) (Zd (Zp rfl hx15) (Zf (ZZ Zh s3.2.2 r8.toNat x14) (yG fun x16 hx16=>
  Zd (Zp rfl hx16) (Zf (ZZ Zh (List.set s3.2.2 r8.toNat x14) r13.toNat x15) (Zc (ih _)))))))))
theorem Zz {t0 t1:Bool}{t2 t3:Bool}{b c d:Int}{mG:List Int}{mA mE:Int}{mC:List ZU}{mD:List Zi}{mB:List Zg}{mF:List Zr}:∀r,(ZD b c d (fun z0 z1=>Zt z0 z1 mB) mG)=some r->evW ctx 210 [(.sl 0 1),(zN b),(zN c),(zN d),(.fn 177 [(.ptr 1 0)])] [(zA mG),(zK0 mA mE t0 mC t1 mD t2 mB t3 mF)]=some ((ZdA t0 t1 t2 t3 b c d mG mA mE mC mD mB mF) r):=
 evS ZFf rfl rfl <| yG fun x0 hx0=>
  Zd (Zp rfl hx0) (yG fun x1 hx1=>
  Zd (Zp rfl hx1) (Zd (Zax rfl hx1) (Zd (Zp rfl hx1) (Zf (ZZ Zh mG b.toNat x0) (yG fun x2 hx2=>
  Zd (Zp rfl hx2) (Zf (ZZ Zh (List.set mG b.toNat x0) d.toNat x1) (Zb _ (ZcZ _) fun r17 _=>
  yR)))))))
def Zkh (r:Int):D:=(D.int .u64 r)
theorem ZjH {a:Int}:∀r,(Zc9 a)=some r->evD ctx 213 [(zN a)]=some (Zkh r):=
 evT ZEs rfl rfl <| yC Zj3 fun x0 _=>
  yBn yR
def ZkV (mG:Int):Unit->V×Zk
  | r=>((.d (D.int .u64 (u64.wrap (Zo (u64.wrap (Zo (u64.wrap (Zo mG ^^^ Zo (u64.wrap (mG*2 ^ 13))).toNat) ^^^ Zo (Int.fdiv (u64.wrap (Zo mG ^^^ Zo (u64.wrap (mG*2 ^ 13))).toNat) (2 ^ 7))).toNat) ^^^ Zo (u64.wrap ((u64.wrap (Zo (u64.wrap (Zo mG ^^^ Zo (u64.wrap (mG*2 ^ 13))).toNat) ^^^ Zo (Int.fdiv (u64.wrap (Zo mG ^^^ Zo (u64.wrap (mG*2 ^ 13))).toNat) (2 ^ 7))).toNat)*2 ^ 17))).toNat))),[(.cells [(.d (D.int .u64 (u64.wrap (Zo (u64.wrap (Zo (u64.wrap (Zo mG ^^^ Zo (u64.wrap (mG*2 ^ 13))).toNat) ^^^ Zo (Int.fdiv (u64.wrap (Zo mG ^^^ Zo (u64.wrap (mG*2 ^ 13))).toNat) (2 ^ 7))).toNat) ^^^ Zo (u64.wrap ((u64.wrap (Zo (u64.wrap (Zo mG ^^^ Zo (u64.wrap (mG*2 ^ 13))).toNat) ^^^ Zo (Int.fdiv (u64.wrap (Zo mG ^^^ Zo (u64.wrap (mG*2 ^ 13))).toNat) (2 ^ 7))).toNat)*2 ^ 17))).toNat)))])])
theorem Zkj {mG:Int}:∀r,Zga=some r->evW ctx 214 [(.ptr 0 0)] [(.cells [(.d (D.int .u64 mG))])]=some ((ZkV mG) r):=
 evS ZDR rfl rfl <| yF (yF (yF yR))
def ZdJ (t0:Bool) (t1:Bool) (t2:Bool) (t3:Bool) (b:Int) (c:Int) (mG:List Int) (mA:Int) (mE:Int) (mC:List ZU) (mD:List Zi) (mB:List Zg) (mF:List Zr):(List Int)->V×Zk
  | r=>((.d (D.tup [])),[(zA r),(zK0 mA mE t0 mC t1 mD t2 mB t3 mF)])
def Zbl (t0:Bool) (t1:Bool) (t2:Bool) (t3:Bool) (b:Int) (c:Int) (mA:Int) (mE:Int) (mC:List ZU) (mD:List Zi) (mB:List Zg) (mF:List Zr) (x0:Int):(List Int)->Ex×List V×Zk
  | r=>(.exit 0,[],[(zA r),(zK0 mA mE t0 mC t1 mD t2 mB t3 mF)])
theorem Zc6 {t0 t1:Bool}{t2 t3:Bool}{b c:Int}{mA mE:Int}{mC:List ZU}{mD:List Zi}{mB:List Zg}{mF:List Zr}{x0:Int}:∀(s1:Int×(List Int)×Int) (r:List Int),lp (Za4 b c x0) s1=some r->lpW ctx 2 [0,1,8,9,10,11] [] ZzX [(.sl 0 1),(zN b),(zN (w64 (c-b))),(.ptr 2 0),(.d (D.int .u64 x0)),(zN s1.1)] [(zA s1.2.1),(zK0 mA mE t0 mC t1 mD t2 mB t3 mF),(.cells [(.d (D.int .u64 s1.2.2))])]=some ((Zbl t0 t1 t2 t3 b c mA mE mC mD mB mF x0) r):=
 lpT (Zbl t0 t1 t2 t3 b c mA mE mC mD mB mF x0) fun s1 _ ih=>yF (yB (Zb _ Zkj fun x2 _=>
  yB (yG fun x3 hx3=>
  Zd (Zp rfl hx3) (yG fun x4 hx4=>
  Zd (Zp rfl hx4) (Zd (Zax rfl hx4) (Zd (Zp rfl hx4) (Zf (ZZ Zh s1.2.1 s1.1.toNat x3) (yG fun x5 hx5=>
  Zd (Zp rfl hx5) (Zf (ZZ Zh (List.set s1.2.1 s1.1.toNat x3) (w64 (b+(w64 ((w64 (u64.wrap (Zo (u64.wrap (Zo (u64.wrap (Zo (u64.wrap (Zo s1.2.2 ^^^ Zo (u64.wrap (s1.2.2*2 ^ 13))).toNat) ^^^ Zo (Int.fdiv (u64.wrap (Zo s1.2.2 ^^^ Zo (u64.wrap (s1.2.2*2 ^ 13))).toNat) (2 ^ 7))).toNat) ^^^ Zo (u64.wrap ((u64.wrap (Zo (u64.wrap (Zo s1.2.2 ^^^ Zo (u64.wrap (s1.2.2*2 ^ 13))).toNat) ^^^ Zo (Int.fdiv (u64.wrap (Zo s1.2.2 ^^^ Zo (u64.wrap (s1.2.2*2 ^ 13))).toNat) (2 ^ 7))).toNat)*2 ^ 17))).toNat) &&& Zo (u64.wrap (x0-1))).toNat))-(w64 (c-b)))))).toNat x4) (Zc (ih _)))))))))
  (yG fun x6 hx6=>
  Zd (Zp rfl hx6) (yG fun x7 hx7=>
  Zd (Zp rfl hx7) (Zd (Zax rfl hx7) (Zd (Zp rfl hx7) (Zf (ZZ Zh s1.2.1 s1.1.toNat x6) (yG fun x8 hx8=>
  Zd (Zp rfl hx8) (Zf (ZZ Zh (List.set s1.2.1 s1.1.toNat x6) (w64 (b+(w64 (u64.wrap (Zo (u64.wrap (Zo (u64.wrap (Zo (u64.wrap (Zo s1.2.2 ^^^ Zo (u64.wrap (s1.2.2*2 ^ 13))).toNat) ^^^ Zo (Int.fdiv (u64.wrap (Zo s1.2.2 ^^^ Zo (u64.wrap (s1.2.2*2 ^ 13))).toNat) (2 ^ 7))).toNat) ^^^ Zo (u64.wrap ((u64.wrap (Zo (u64.wrap (Zo s1.2.2 ^^^ Zo (u64.wrap (s1.2.2*2 ^ 13))).toNat) ^^^ Zo (Int.fdiv (u64.wrap (Zo s1.2.2 ^^^ Zo (u64.wrap (s1.2.2*2 ^ 13))).toNat) (2 ^ 7))).toNat)*2 ^ 17))).toNat) &&& Zo (u64.wrap (x0-1))).toNat)))).toNat x7) (Zc (ih _))))))))))
  (Zm rfl))
theorem ZbC {t0 t1:Bool}{t2 t3:Bool}{b c:Int}{mG:List Int}{mA mE:Int}{mC:List ZU}{mD:List Zi}{mB:List Zg}{mF:List Zr}:∀r,(Zap b c (fun z0 z1=>Zt z0 z1 mB) mG)=some r->evW ctx 206 [(.sl 0 1),(zN b),(zN c),(.fn 177 [(.ptr 1 0)])] [(zA mG),(zK0 mA mE t0 mC t1 mD t2 mB t3 mF)]=some ((ZdJ t0 t1 t2 t3 b c mG mA mE mC mD mB mF) r):=
 evS ZEL rfl rfl <| yB (yC ZjH fun x0 _=>
  yF (Zb _ (Zc6 _) fun r9 _=>
  yR))
  yR
def Za (t0:Bool) (t1:Bool) (t2:Bool) (t3:Bool) (b:Int) (c:Int) (d:Int) (mG:List Int) (mA:Int) (mE:Int) (mC:List ZU) (mD:List Zi) (mB:List Zg) (mF:List Zr):(List Int)->V×Zk
  | r=>((.d (D.tup [])),[(zA r),(zK0 mA mE t0 mC t1 mD t2 mB t3 mF)])
def ZbY (t0:Bool) (t1:Bool) (t2:Bool) (t3:Bool) (mA:Int) (mE:Int) (mC:List ZU) (mD:List Zi) (mB:List Zg) (mF:List Zr) (rc:Int->Int->Int->(Int->Int->Option Int)->(List Int)->Option (List Int)):(List Int)->Ex×List V×Zk
  | r=>(.ret,[],[(zA r),(zK0 mA mE t0 mC t1 mD t2 mB t3 mF)])
theorem Zep {t0 t1:Bool}{t2 t3:Bool}{mA mE:Int}{mC:List ZU}{mD:List Zi}{mB:List Zg}{mF:List Zr}{rc:Int->Int->Int->(Int->Int->Option Int)->(List Int)->Option (List Int)} (hrc:∀(t0:Bool) (t1:Bool) (t2:Bool) (t3:Bool) (b:Int) (c:Int) (d:Int) (mG:List Int) (mA:Int) (mE:Int) (mC:List ZU) (mD:List Zi) (mB:List Zg) (mF:List Zr) (r:List Int),rc b c d (fun z0 z1=>Zt z0 z1 mB) mG=some r->evW ctx 192 [(.sl 0 1),(zN b),(zN c),(zN d),(.fn 177 [(.ptr 1 0)])] [(zA mG),(zK0 mA mE t0 mC t1 mD t2 mB t3 mF)]=some ((Za t0 t1 t2 t3 b c d mG mA mE mC mD mB mF) r)):∀(s0:Int×Int×Int×Bool×Bool×(List Int)) (r:List Int),lp (ZH (fun z0 z1=>Zt z0 z1 mB) rc) s0=some r->lpW ctx 2 [0,1,2,3,4,10,11] [] Zzz [(.sl 0 1),(zN s0.1),(zN s0.2.1),(zN s0.2.2.1),(.fn 177 [(.ptr 1 0)]),(.d (D.bool s0.2.2.2.1)),(.d (D.bool s0.2.2.2.2.1))] [(zA s0.2.2.2.2.2),(zK0 mA mE t0 mC t1 mD t2 mB t3 mF)]=some ((ZbY t0 t1 t2 t3 mA mE mC mD mB mF rc) r):=
 lpT (ZbY t0 t1 t2 t3 mA mE mC mD mB mF rc) fun s0 _ ih=>(by
 try unfold ZH
 rcases hb:s0.2.2.2.1 with _ | _
 exact Zzf (by
 try unfold ZH
 rcases hb:s0.2.2.2.2.1 with _ | _
 exact Zzf (yB (Zb _ Z6 fun x170 _=>
  Zm rfl)
  (yB (Zb _ Zai fun x171 _=>
  Zm rfl)
  (Zb _ ZbC fun x172 _=>
  Zb _ Zac fun x173 _=>
  yB (Zb _ Zaa fun x174 _=>
  yB (yG fun x175 hx175=>
  Zd (Zp rfl hx175) (yG fun x176 hx176=>
  Zd (Zp rfl hx176) (yC ZE fun x177 _=>
  yB ((by
 conv=>rhs;whnf
 refine Zb _ Zl fun x178 _=>?_
 rcases x178 with x178 | x178
 exact yT (yF (yB (yB (Zb (Za t0 t1 t2 t3 s0.1 x178.1 (w64 (s0.2.2.1-1)) x178.2 mA mE mC mD mB mF) (hrc t0 t1 t2 t3 s0.1 x178.1 (w64 (s0.2.2.1-1)) x178.2 mA mE mC mD mB mF) fun x179 _=>
  Zc (ih _))
  (Zb (Za t0 t1 t2 t3 s0.1 x178.1 (w64 (s0.2.2.1-1)) x178.2 mA mE mC mD mB mF) (hrc t0 t1 t2 t3 s0.1 x178.1 (w64 (s0.2.2.1-1)) x178.2 mA mE mC mD mB mF) fun x180 _=>
  Zc (ih _)))
  (yB (Zb (Za t0 t1 t2 t3 (w64 (x178.1+1)) s0.2.1 (w64 (s0.2.2.1-1)) x178.2 mA mE mC mD mB mF) (hrc t0 t1 t2 t3 (w64 (x178.1+1)) s0.2.1 (w64 (s0.2.2.1-1)) x178.2 mA mE mC mD mB mF) fun x181 _=>
  Zc (ih _))
  (Zb (Za t0 t1 t2 t3 (w64 (x178.1+1)) s0.2.1 (w64 (s0.2.2.1-1)) x178.2 mA mE mC mD mB mF) (hrc t0 t1 t2 t3 (w64 (x178.1+1)) s0.2.1 (w64 (s0.2.2.1-1)) x178.2 mA mE mC mD mB mF) fun x182 _=>
  Zc (ih _)))))
 exact yF (yF (yB (yB (Zb (Za t0 t1 t2 t3 s0.1 x178.1 (w64 (s0.2.2.1-1)) x178.2 mA mE mC mD mB mF) (hrc t0 t1 t2 t3 s0.1 x178.1 (w64 (s0.2.2.1-1)) x178.2 mA mE mC mD mB mF) fun x183 _=>
  Zc (ih _))
  (Zb (Za t0 t1 t2 t3 s0.1 x178.1 (w64 (s0.2.2.1-1)) x178.2 mA mE mC mD mB mF) (hrc t0 t1 t2 t3 s0.1 x178.1 (w64 (s0.2.2.1-1)) x178.2 mA mE mC mD mB mF) fun x184 _=>
  Zc (ih _)))
  (yB (Zb (Za t0 t1 t2 t3 (w64 (x178.1+1)) s0.2.1 (w64 (s0.2.2.1-1)) x178.2 mA mE mC mD mB mF) (hrc t0 t1 t2 t3 (w64 (x178.1+1)) s0.2.1 (w64 (s0.2.2.1-1)) x178.2 mA mE mC mD mB mF) fun x185 _=>
  Zc (ih _))
  (Zb (Za t0 t1 t2 t3 (w64 (x178.1+1)) s0.2.1 (w64 (s0.2.2.1-1)) x178.2 mA mE mC mD mB mF) (hrc t0 t1 t2 t3 (w64 (x178.1+1)) s0.2.1 (w64 (s0.2.2.1-1)) x178.2 mA mE mC mD mB mF) fun x186 _=>
  Zc (ih _)))))))
  (Zb _ Zz fun x187 _=>
  Zc (ih _)))))
  (by
 conv=>rhs;whnf
 refine Zb _ Zl fun x188 _=>?_
 rcases x188 with x188 | x188
 exact yT (yF (yB (yB (Zb (Za t0 t1 t2 t3 s0.1 x188.1 (w64 (s0.2.2.1-1)) x188.2 mA mE mC mD mB mF) (hrc t0 t1 t2 t3 s0.1 x188.1 (w64 (s0.2.2.1-1)) x188.2 mA mE mC mD mB mF) fun x189 _=>
  Zc (ih _))
  (Zb (Za t0 t1 t2 t3 s0.1 x188.1 (w64 (s0.2.2.1-1)) x188.2 mA mE mC mD mB mF) (hrc t0 t1 t2 t3 s0.1 x188.1 (w64 (s0.2.2.1-1)) x188.2 mA mE mC mD mB mF) fun x190 _=>
  Zc (ih _)))
  (yB (Zb (Za t0 t1 t2 t3 (w64 (x188.1+1)) s0.2.1 (w64 (s0.2.2.1-1)) x188.2 mA mE mC mD mB mF) (hrc t0 t1 t2 t3 (w64 (x188.1+1)) s0.2.1 (w64 (s0.2.2.1-1)) x188.2 mA mE mC mD mB mF) fun x191 _=>
  Zc (ih _))
  (Zb (Za t0 t1 t2 t3 (w64 (x188.1+1)) s0.2.1 (w64 (s0.2.2.1-1)) x188.2 mA mE mC mD mB mF) (hrc t0 t1 t2 t3 (w64 (x188.1+1)) s0.2.1 (w64 (s0.2.2.1-1)) x188.2 mA mE mC mD mB mF) fun x192 _=>
  Zc (ih _)))))
 exact yF (yF (yB (yB (Zb (Za t0 t1 t2 t3 s0.1 x188.1 (w64 (s0.2.2.1-1)) x188.2 mA mE mC mD mB mF) (hrc t0 t1 t2 t3 s0.1 x188.1 (w64 (s0.2.2.1-1)) x188.2 mA mE mC mD mB mF) fun x193 _=>
  Zc (ih _))
  (Zb (Za t0 t1 t2 t3 s0.1 x188.1 (w64 (s0.2.2.1-1)) x188.2 mA mE mC mD mB mF) (hrc t0 t1 t2 t3 s0.1 x188.1 (w64 (s0.2.2.1-1)) x188.2 mA mE mC mD mB mF) fun x194 _=>
  Zc (ih _)))
  (yB (Zb (Za t0 t1 t2 t3 (w64 (x188.1+1)) s0.2.1 (w64 (s0.2.2.1-1)) x188.2 mA mE mC mD mB mF) (hrc t0 t1 t2 t3 (w64 (x188.1+1)) s0.2.1 (w64 (s0.2.2.1-1)) x188.2 mA mE mC mD mB mF) fun x195 _=>
  Zc (ih _))
  (Zb (Za t0 t1 t2 t3 (w64 (x188.1+1)) s0.2.1 (w64 (s0.2.2.1-1)) x188.2 mA mE mC mD mB mF) (hrc t0 t1 t2 t3 (w64 (x188.1+1)) s0.2.1 (w64 (s0.2.2.1-1)) x188.2 mA mE mC mD mB mF) fun x196 _=>
  Zc (ih _)))))))
  (yB (yG fun x197 hx197=>
  Zd (Zp rfl hx197) (yG fun x198 hx198=>
  Zd (Zp rfl hx198) (yC ZE fun x199 _=>
  yB ((by
 conv=>rhs;whnf
 refine Zb _ Zl fun x200 _=>?_
 rcases x200 with x200 | x200
 exact yT (yF (yB (yB (Zb (Za t0 t1 t2 t3 s0.1 x200.1 (w64 (s0.2.2.1-1)) x200.2 mA mE mC mD mB mF) (hrc t0 t1 t2 t3 s0.1 x200.1 (w64 (s0.2.2.1-1)) x200.2 mA mE mC mD mB mF) fun x201 _=>
  Zc (ih _))
  (Zb (Za t0 t1 t2 t3 s0.1 x200.1 (w64 (s0.2.2.1-1)) x200.2 mA mE mC mD mB mF) (hrc t0 t1 t2 t3 s0.1 x200.1 (w64 (s0.2.2.1-1)) x200.2 mA mE mC mD mB mF) fun x202 _=>
  Zc (ih _)))
  (yB (Zb (Za t0 t1 t2 t3 (w64 (x200.1+1)) s0.2.1 (w64 (s0.2.2.1-1)) x200.2 mA mE mC mD mB mF) (hrc t0 t1 t2 t3 (w64 (x200.1+1)) s0.2.1 (w64 (s0.2.2.1-1)) x200.2 mA mE mC mD mB mF) fun x203 _=>
  Zc (ih _))
  (Zb (Za t0 t1 t2 t3 (w64 (x200.1+1)) s0.2.1 (w64 (s0.2.2.1-1)) x200.2 mA mE mC mD mB mF) (hrc t0 t1 t2 t3 (w64 (x200.1+1)) s0.2.1 (w64 (s0.2.2.1-1)) x200.2 mA mE mC mD mB mF) fun x204 _=>
  Zc (ih _)))))
 exact yF (yF (yB (yB (Zb (Za t0 t1 t2 t3 s0.1 x200.1 (w64 (s0.2.2.1-1)) x200.2 mA mE mC mD mB mF) (hrc t0 t1 t2 t3 s0.1 x200.1 (w64 (s0.2.2.1-1)) x200.2 mA mE mC mD mB mF) fun x205 _=>
  Zc (ih _))
  (Zb (Za t0 t1 t2 t3 s0.1 x200.1 (w64 (s0.2.2.1-1)) x200.2 mA mE mC mD mB mF) (hrc t0 t1 t2 t3 s0.1 x200.1 (w64 (s0.2.2.1-1)) x200.2 mA mE mC mD mB mF) fun x206 _=>
  Zc (ih _)))
  (yB (Zb (Za t0 t1 t2 t3 (w64 (x200.1+1)) s0.2.1 (w64 (s0.2.2.1-1)) x200.2 mA mE mC mD mB mF) (hrc t0 t1 t2 t3 (w64 (x200.1+1)) s0.2.1 (w64 (s0.2.2.1-1)) x200.2 mA mE mC mD mB mF) fun x207 _=>
  Zc (ih _))
  (Zb (Za t0 t1 t2 t3 (w64 (x200.1+1)) s0.2.1 (w64 (s0.2.2.1-1)) x200.2 mA mE mC mD mB mF) (hrc t0 t1 t2 t3 (w64 (x200.1+1)) s0.2.1 (w64 (s0.2.2.1-1)) x200.2 mA mE mC mD mB mF) fun x208 _=>
  Zc (ih _)))))))
  (Zb _ Zz fun x209 _=>
  Zc (ih _)))))
  (by
 conv=>rhs;whnf
 refine Zb _ Zl fun x210 _=>?_
 rcases x210 with x210 | x210
 exact yT (yF (yB (yB (Zb (Za t0 t1 t2 t3 s0.1 x210.1 (w64 (s0.2.2.1-1)) x210.2 mA mE mC mD mB mF) (hrc t0 t1 t2 t3 s0.1 x210.1 (w64 (s0.2.2.1-1)) x210.2 mA mE mC mD mB mF) fun x211 _=>
  Zc (ih _))
  (Zb (Za t0 t1 t2 t3 s0.1 x210.1 (w64 (s0.2.2.1-1)) x210.2 mA mE mC mD mB mF) (hrc t0 t1 t2 t3 s0.1 x210.1 (w64 (s0.2.2.1-1)) x210.2 mA mE mC mD mB mF) fun x212 _=>
  Zc (ih _)))
  (yB (Zb (Za t0 t1 t2 t3 (w64 (x210.1+1)) s0.2.1 (w64 (s0.2.2.1-1)) x210.2 mA mE mC mD mB mF) (hrc t0 t1 t2 t3 (w64 (x210.1+1)) s0.2.1 (w64 (s0.2.2.1-1)) x210.2 mA mE mC mD mB mF) fun x213 _=>
  Zc (ih _))
  (Zb (Za t0 t1 t2 t3 (w64 (x210.1+1)) s0.2.1 (w64 (s0.2.2.1-1)) x210.2 mA mE mC mD mB mF) (hrc t0 t1 t2 t3 (w64 (x210.1+1)) s0.2.1 (w64 (s0.2.2.1-1)) x210.2 mA mE mC mD mB mF) fun x214 _=>
  Zc (ih _)))))
 exact yF (yF (yB (yB (Zb (Za t0 t1 t2 t3 s0.1 x210.1 (w64 (s0.2.2.1-1)) x210.2 mA mE mC mD mB mF) (hrc t0 t1 t2 t3 s0.1 x210.1 (w64 (s0.2.2.1-1)) x210.2 mA mE mC mD mB mF) fun x215 _=>
  Zc (ih _))
  (Zb (Za t0 t1 t2 t3 s0.1 x210.1 (w64 (s0.2.2.1-1)) x210.2 mA mE mC mD mB mF) (hrc t0 t1 t2 t3 s0.1 x210.1 (w64 (s0.2.2.1-1)) x210.2 mA mE mC mD mB mF) fun x216 _=>
  Zc (ih _)))
  (yB (Zb (Za t0 t1 t2 t3 (w64 (x210.1+1)) s0.2.1 (w64 (s0.2.2.1-1)) x210.2 mA mE mC mD mB mF) (hrc t0 t1 t2 t3 (w64 (x210.1+1)) s0.2.1 (w64 (s0.2.2.1-1)) x210.2 mA mE mC mD mB mF) fun x217 _=>
  Zc (ih _))
  (Zb (Za t0 t1 t2 t3 (w64 (x210.1+1)) s0.2.1 (w64 (s0.2.2.1-1)) x210.2 mA mE mC mD mB mF) (hrc t0 t1 t2 t3 (w64 (x210.1+1)) s0.2.1 (w64 (s0.2.2.1-1)) x210.2 mA mE mC mD mB mF) fun x218 _=>
  Zc (ih _))))))))))
 exact Zyj (yB (Zb _ Z6 fun x121 _=>
  Zm rfl)
  (yB (Zb _ Zai fun x122 _=>
  Zm rfl)
  (Zb _ ZbC fun x123 _=>
  Zb _ Zac fun x124 _=>
  yB (Zb _ Zaa fun x125 _=>
  yB (yG fun x126 hx126=>
  Zd (Zp rfl hx126) (yG fun x127 hx127=>
  Zd (Zp rfl hx127) (yC ZE fun x128 _=>
  yB ((by
 conv=>rhs;whnf
 refine Zb _ Zl fun x129 _=>?_
 rcases x129 with x129 | x129
 exact yT (yF (yB (yB (Zb (Za t0 t1 t2 t3 s0.1 x129.1 (w64 (s0.2.2.1-1)) x129.2 mA mE mC mD mB mF) (hrc t0 t1 t2 t3 s0.1 x129.1 (w64 (s0.2.2.1-1)) x129.2 mA mE mC mD mB mF) fun x130 _=>
  Zc (ih _))
  (Zb (Za t0 t1 t2 t3 s0.1 x129.1 (w64 (s0.2.2.1-1)) x129.2 mA mE mC mD mB mF) (hrc t0 t1 t2 t3 s0.1 x129.1 (w64 (s0.2.2.1-1)) x129.2 mA mE mC mD mB mF) fun x131 _=>
  Zc (ih _)))
  (yB (Zb (Za t0 t1 t2 t3 (w64 (x129.1+1)) s0.2.1 (w64 (s0.2.2.1-1)) x129.2 mA mE mC mD mB mF) (hrc t0 t1 t2 t3 (w64 (x129.1+1)) s0.2.1 (w64 (s0.2.2.1-1)) x129.2 mA mE mC mD mB mF) fun x132 _=>
  Zc (ih _))
  (Zb (Za t0 t1 t2 t3 (w64 (x129.1+1)) s0.2.1 (w64 (s0.2.2.1-1)) x129.2 mA mE mC mD mB mF) (hrc t0 t1 t2 t3 (w64 (x129.1+1)) s0.2.1 (w64 (s0.2.2.1-1)) x129.2 mA mE mC mD mB mF) fun x133 _=>
  Zc (ih _)))))
 exact yF (yF (yB (yB (Zb (Za t0 t1 t2 t3 s0.1 x129.1 (w64 (s0.2.2.1-1)) x129.2 mA mE mC mD mB mF) (hrc t0 t1 t2 t3 s0.1 x129.1 (w64 (s0.2.2.1-1)) x129.2 mA mE mC mD mB mF) fun x134 _=>
  Zc (ih _))
  (Zb (Za t0 t1 t2 t3 s0.1 x129.1 (w64 (s0.2.2.1-1)) x129.2 mA mE mC mD mB mF) (hrc t0 t1 t2 t3 s0.1 x129.1 (w64 (s0.2.2.1-1)) x129.2 mA mE mC mD mB mF) fun x135 _=>
  Zc (ih _)))
  (yB (Zb (Za t0 t1 t2 t3 (w64 (x129.1+1)) s0.2.1 (w64 (s0.2.2.1-1)) x129.2 mA mE mC mD mB mF) (hrc t0 t1 t2 t3 (w64 (x129.1+1)) s0.2.1 (w64 (s0.2.2.1-1)) x129.2 mA mE mC mD mB mF) fun x136 _=>
  Zc (ih _))
  (Zb (Za t0 t1 t2 t3 (w64 (x129.1+1)) s0.2.1 (w64 (s0.2.2.1-1)) x129.2 mA mE mC mD mB mF) (hrc t0 t1 t2 t3 (w64 (x129.1+1)) s0.2.1 (w64 (s0.2.2.1-1)) x129.2 mA mE mC mD mB mF) fun x137 _=>
  Zc (ih _)))))))
  (Zb _ Zz fun x138 _=>
  Zc (ih _)))))
  (by
 conv=>rhs;whnf
 refine Zb _ Zl fun x139 _=>?_
 rcases x139 with x139 | x139
 exact yT (yF (yB (yB (Zb (Za t0 t1 t2 t3 s0.1 x139.1 (w64 (s0.2.2.1-1)) x139.2 mA mE mC mD mB mF) (hrc t0 t1 t2 t3 s0.1 x139.1 (w64 (s0.2.2.1-1)) x139.2 mA mE mC mD mB mF) fun x140 _=>
  Zc (ih _))
  (Zb (Za t0 t1 t2 t3 s0.1 x139.1 (w64 (s0.2.2.1-1)) x139.2 mA mE mC mD mB mF) (hrc t0 t1 t2 t3 s0.1 x139.1 (w64 (s0.2.2.1-1)) x139.2 mA mE mC mD mB mF) fun x141 _=>
  Zc (ih _)))
  (yB (Zb (Za t0 t1 t2 t3 (w64 (x139.1+1)) s0.2.1 (w64 (s0.2.2.1-1)) x139.2 mA mE mC mD mB mF) (hrc t0 t1 t2 t3 (w64 (x139.1+1)) s0.2.1 (w64 (s0.2.2.1-1)) x139.2 mA mE mC mD mB mF) fun x142 _=>
  Zc (ih _))
  (Zb (Za t0 t1 t2 t3 (w64 (x139.1+1)) s0.2.1 (w64 (s0.2.2.1-1)) x139.2 mA mE mC mD mB mF) (hrc t0 t1 t2 t3 (w64 (x139.1+1)) s0.2.1 (w64 (s0.2.2.1-1)) x139.2 mA mE mC mD mB mF) fun x143 _=>
  Zc (ih _)))))
 exact yF (yF (yB (yB (Zb (Za t0 t1 t2 t3 s0.1 x139.1 (w64 (s0.2.2.1-1)) x139.2 mA mE mC mD mB mF) (hrc t0 t1 t2 t3 s0.1 x139.1 (w64 (s0.2.2.1-1)) x139.2 mA mE mC mD mB mF) fun x144 _=>
  Zc (ih _))
  (Zb (Za t0 t1 t2 t3 s0.1 x139.1 (w64 (s0.2.2.1-1)) x139.2 mA mE mC mD mB mF) (hrc t0 t1 t2 t3 s0.1 x139.1 (w64 (s0.2.2.1-1)) x139.2 mA mE mC mD mB mF) fun x145 _=>
  Zc (ih _)))
  (yB (Zb (Za t0 t1 t2 t3 (w64 (x139.1+1)) s0.2.1 (w64 (s0.2.2.1-1)) x139.2 mA mE mC mD mB mF) (hrc t0 t1 t2 t3 (w64 (x139.1+1)) s0.2.1 (w64 (s0.2.2.1-1)) x139.2 mA mE mC mD mB mF) fun x146 _=>
  Zc (ih _))
  (Zb (Za t0 t1 t2 t3 (w64 (x139.1+1)) s0.2.1 (w64 (s0.2.2.1-1)) x139.2 mA mE mC mD mB mF) (hrc t0 t1 t2 t3 (w64 (x139.1+1)) s0.2.1 (w64 (s0.2.2.1-1)) x139.2 mA mE mC mD mB mF) fun x147 _=>
  Zc (ih _)))))))
  (yB (yG fun x148 hx148=>
  Zd (Zp rfl hx148) (yG fun x149 hx149=>
  Zd (Zp rfl hx149) (yC ZE fun x150 _=>
  yB ((by
 conv=>rhs;whnf
 refine Zb _ Zl fun x151 _=>?_
 rcases x151 with x151 | x151
 exact yT (yF (yB (yB (Zb (Za t0 t1 t2 t3 s0.1 x151.1 (w64 (s0.2.2.1-1)) x151.2 mA mE mC mD mB mF) (hrc t0 t1 t2 t3 s0.1 x151.1 (w64 (s0.2.2.1-1)) x151.2 mA mE mC mD mB mF) fun x152 _=>
  Zc (ih _))
  (Zb (Za t0 t1 t2 t3 s0.1 x151.1 (w64 (s0.2.2.1-1)) x151.2 mA mE mC mD mB mF) (hrc t0 t1 t2 t3 s0.1 x151.1 (w64 (s0.2.2.1-1)) x151.2 mA mE mC mD mB mF) fun x153 _=>
  Zc (ih _)))
  (yB (Zb (Za t0 t1 t2 t3 (w64 (x151.1+1)) s0.2.1 (w64 (s0.2.2.1-1)) x151.2 mA mE mC mD mB mF) (hrc t0 t1 t2 t3 (w64 (x151.1+1)) s0.2.1 (w64 (s0.2.2.1-1)) x151.2 mA mE mC mD mB mF) fun x154 _=>
  Zc (ih _))
  (Zb (Za t0 t1 t2 t3 (w64 (x151.1+1)) s0.2.1 (w64 (s0.2.2.1-1)) x151.2 mA mE mC mD mB mF) (hrc t0 t1 t2 t3 (w64 (x151.1+1)) s0.2.1 (w64 (s0.2.2.1-1)) x151.2 mA mE mC mD mB mF) fun x155 _=>
  Zc (ih _)))))
 exact yF (yF (yB (yB (Zb (Za t0 t1 t2 t3 s0.1 x151.1 (w64 (s0.2.2.1-1)) x151.2 mA mE mC mD mB mF) (hrc t0 t1 t2 t3 s0.1 x151.1 (w64 (s0.2.2.1-1)) x151.2 mA mE mC mD mB mF) fun x156 _=>
  Zc (ih _))
  (Zb (Za t0 t1 t2 t3 s0.1 x151.1 (w64 (s0.2.2.1-1)) x151.2 mA mE mC mD mB mF) (hrc t0 t1 t2 t3 s0.1 x151.1 (w64 (s0.2.2.1-1)) x151.2 mA mE mC mD mB mF) fun x157 _=>
  Zc (ih _)))
  (yB (Zb (Za t0 t1 t2 t3 (w64 (x151.1+1)) s0.2.1 (w64 (s0.2.2.1-1)) x151.2 mA mE mC mD mB mF) (hrc t0 t1 t2 t3 (w64 (x151.1+1)) s0.2.1 (w64 (s0.2.2.1-1)) x151.2 mA mE mC mD mB mF) fun x158 _=>
  Zc (ih _))
  (Zb (Za t0 t1 t2 t3 (w64 (x151.1+1)) s0.2.1 (w64 (s0.2.2.1-1)) x151.2 mA mE mC mD mB mF) (hrc t0 t1 t2 t3 (w64 (x151.1+1)) s0.2.1 (w64 (s0.2.2.1-1)) x151.2 mA mE mC mD mB mF) fun x159 _=>
  Zc (ih _)))))))
  (Zb _ Zz fun x160 _=>
  Zc (ih _)))))
  (by
 conv=>rhs;whnf
 refine Zb _ Zl fun x161 _=>?_
 rcases x161 with x161 | x161
 exact yT (yF (yB (yB (Zb (Za t0 t1 t2 t3 s0.1 x161.1 (w64 (s0.2.2.1-1)) x161.2 mA mE mC mD mB mF) (hrc t0 t1 t2 t3 s0.1 x161.1 (w64 (s0.2.2.1-1)) x161.2 mA mE mC mD mB mF) fun x162 _=>
  Zc (ih _))
  (Zb (Za t0 t1 t2 t3 s0.1 x161.1 (w64 (s0.2.2.1-1)) x161.2 mA mE mC mD mB mF) (hrc t0 t1 t2 t3 s0.1 x161.1 (w64 (s0.2.2.1-1)) x161.2 mA mE mC mD mB mF) fun x163 _=>
  Zc (ih _)))
  (yB (Zb (Za t0 t1 t2 t3 (w64 (x161.1+1)) s0.2.1 (w64 (s0.2.2.1-1)) x161.2 mA mE mC mD mB mF) (hrc t0 t1 t2 t3 (w64 (x161.1+1)) s0.2.1 (w64 (s0.2.2.1-1)) x161.2 mA mE mC mD mB mF) fun x164 _=>
  Zc (ih _))
  (Zb (Za t0 t1 t2 t3 (w64 (x161.1+1)) s0.2.1 (w64 (s0.2.2.1-1)) x161.2 mA mE mC mD mB mF) (hrc t0 t1 t2 t3 (w64 (x161.1+1)) s0.2.1 (w64 (s0.2.2.1-1)) x161.2 mA mE mC mD mB mF) fun x165 _=>
  Zc (ih _)))))
 exact yF (yF (yB (yB (Zb (Za t0 t1 t2 t3 s0.1 x161.1 (w64 (s0.2.2.1-1)) x161.2 mA mE mC mD mB mF) (hrc t0 t1 t2 t3 s0.1 x161.1 (w64 (s0.2.2.1-1)) x161.2 mA mE mC mD mB mF) fun x166 _=>
  Zc (ih _))
  (Zb (Za t0 t1 t2 t3 s0.1 x161.1 (w64 (s0.2.2.1-1)) x161.2 mA mE mC mD mB mF) (hrc t0 t1 t2 t3 s0.1 x161.1 (w64 (s0.2.2.1-1)) x161.2 mA mE mC mD mB mF) fun x167 _=>
  Zc (ih _)))
  (yB (Zb (Za t0 t1 t2 t3 (w64 (x161.1+1)) s0.2.1 (w64 (s0.2.2.1-1)) x161.2 mA mE mC mD mB mF) (hrc t0 t1 t2 t3 (w64 (x161.1+1)) s0.2.1 (w64 (s0.2.2.1-1)) x161.2 mA mE mC mD mB mF) fun x168 _=>
  Zc (ih _))
  (Zb (Za t0 t1 t2 t3 (w64 (x161.1+1)) s0.2.1 (w64 (s0.2.2.1-1)) x161.2 mA mE mC mD mB mF) (hrc t0 t1 t2 t3 (w64 (x161.1+1)) s0.2.1 (w64 (s0.2.2.1-1)) x161.2 mA mE mC mD mB mF) fun x169 _=>
  Zc (ih _)))))))))))
 exact Zyj (by
 try unfold ZH
 rcases hb:s0.2.2.2.2.1 with _ | _
 exact Zzf (yB (Zb _ Z6 fun x73 _=>
  Zm rfl)
  (yB (Zb _ Zai fun x74 _=>
  Zm rfl)
  (Zb _ Zac fun x75 _=>
  yB (Zb _ Zaa fun x76 _=>
  yB (yG fun x77 hx77=>
  Zd (Zp rfl hx77) (yG fun x78 hx78=>
  Zd (Zp rfl hx78) (yC ZE fun x79 _=>
  yB ((by
 conv=>rhs;whnf
 refine Zb _ Zl fun x80 _=>?_
 rcases x80 with x80 | x80
 exact yT (yF (yB (yB (Zb (Za t0 t1 t2 t3 s0.1 x80.1 s0.2.2.1 x80.2 mA mE mC mD mB mF) (hrc t0 t1 t2 t3 s0.1 x80.1 s0.2.2.1 x80.2 mA mE mC mD mB mF) fun x81 _=>
  Zc (ih _))
  (Zb (Za t0 t1 t2 t3 s0.1 x80.1 s0.2.2.1 x80.2 mA mE mC mD mB mF) (hrc t0 t1 t2 t3 s0.1 x80.1 s0.2.2.1 x80.2 mA mE mC mD mB mF) fun x82 _=>
  Zc (ih _)))
  (yB (Zb (Za t0 t1 t2 t3 (w64 (x80.1+1)) s0.2.1 s0.2.2.1 x80.2 mA mE mC mD mB mF) (hrc t0 t1 t2 t3 (w64 (x80.1+1)) s0.2.1 s0.2.2.1 x80.2 mA mE mC mD mB mF) fun x83 _=>
  Zc (ih _))
  (Zb (Za t0 t1 t2 t3 (w64 (x80.1+1)) s0.2.1 s0.2.2.1 x80.2 mA mE mC mD mB mF) (hrc t0 t1 t2 t3 (w64 (x80.1+1)) s0.2.1 s0.2.2.1 x80.2 mA mE mC mD mB mF) fun x84 _=>
  Zc (ih _)))))
 exact yF (yF (yB (yB (Zb (Za t0 t1 t2 t3 s0.1 x80.1 s0.2.2.1 x80.2 mA mE mC mD mB mF) (hrc t0 t1 t2 t3 s0.1 x80.1 s0.2.2.1 x80.2 mA mE mC mD mB mF) fun x85 _=>
  Zc (ih _))
  (Zb (Za t0 t1 t2 t3 s0.1 x80.1 s0.2.2.1 x80.2 mA mE mC mD mB mF) (hrc t0 t1 t2 t3 s0.1 x80.1 s0.2.2.1 x80.2 mA mE mC mD mB mF) fun x86 _=>
  Zc (ih _)))
  (yB (Zb (Za t0 t1 t2 t3 (w64 (x80.1+1)) s0.2.1 s0.2.2.1 x80.2 mA mE mC mD mB mF) (hrc t0 t1 t2 t3 (w64 (x80.1+1)) s0.2.1 s0.2.2.1 x80.2 mA mE mC mD mB mF) fun x87 _=>
  Zc (ih _))
  (Zb (Za t0 t1 t2 t3 (w64 (x80.1+1)) s0.2.1 s0.2.2.1 x80.2 mA mE mC mD mB mF) (hrc t0 t1 t2 t3 (w64 (x80.1+1)) s0.2.1 s0.2.2.1 x80.2 mA mE mC mD mB mF) fun x88 _=>
  Zc (ih _)))))))
  (Zb _ Zz fun x89 _=>
  Zc (ih _)))))
  (by
 conv=>rhs;whnf
 refine Zb _ Zl fun x90 _=>?_
 rcases x90 with x90 | x90
 exact yT (yF (yB (yB (Zb (Za t0 t1 t2 t3 s0.1 x90.1 s0.2.2.1 x90.2 mA mE mC mD mB mF) (hrc t0 t1 t2 t3 s0.1 x90.1 s0.2.2.1 x90.2 mA mE mC mD mB mF) fun x91 _=>
  Zc (ih _))
  (Zb (Za t0 t1 t2 t3 s0.1 x90.1 s0.2.2.1 x90.2 mA mE mC mD mB mF) (hrc t0 t1 t2 t3 s0.1 x90.1 s0.2.2.1 x90.2 mA mE mC mD mB mF) fun x92 _=>
  Zc (ih _)))
  (yB (Zb (Za t0 t1 t2 t3 (w64 (x90.1+1)) s0.2.1 s0.2.2.1 x90.2 mA mE mC mD mB mF) (hrc t0 t1 t2 t3 (w64 (x90.1+1)) s0.2.1 s0.2.2.1 x90.2 mA mE mC mD mB mF) fun x93 _=>
  Zc (ih _))
  (Zb (Za t0 t1 t2 t3 (w64 (x90.1+1)) s0.2.1 s0.2.2.1 x90.2 mA mE mC mD mB mF) (hrc t0 t1 t2 t3 (w64 (x90.1+1)) s0.2.1 s0.2.2.1 x90.2 mA mE mC mD mB mF) fun x94 _=>
  Zc (ih _)))))
 exact yF (yF (yB (yB (Zb (Za t0 t1 t2 t3 s0.1 x90.1 s0.2.2.1 x90.2 mA mE mC mD mB mF) (hrc t0 t1 t2 t3 s0.1 x90.1 s0.2.2.1 x90.2 mA mE mC mD mB mF) fun x95 _=>
  Zc (ih _))
  (Zb (Za t0 t1 t2 t3 s0.1 x90.1 s0.2.2.1 x90.2 mA mE mC mD mB mF) (hrc t0 t1 t2 t3 s0.1 x90.1 s0.2.2.1 x90.2 mA mE mC mD mB mF) fun x96 _=>
  Zc (ih _)))
  (yB (Zb (Za t0 t1 t2 t3 (w64 (x90.1+1)) s0.2.1 s0.2.2.1 x90.2 mA mE mC mD mB mF) (hrc t0 t1 t2 t3 (w64 (x90.1+1)) s0.2.1 s0.2.2.1 x90.2 mA mE mC mD mB mF) fun x97 _=>
  Zc (ih _))
  (Zb (Za t0 t1 t2 t3 (w64 (x90.1+1)) s0.2.1 s0.2.2.1 x90.2 mA mE mC mD mB mF) (hrc t0 t1 t2 t3 (w64 (x90.1+1)) s0.2.1 s0.2.2.1 x90.2 mA mE mC mD mB mF) fun x98 _=>
  Zc (ih _)))))))
  (yB (yG fun x99 hx99=>
  Zd (Zp rfl hx99) (yG fun x100 hx100=>
  Zd (Zp rfl hx100) (yC ZE fun x101 _=>
  yB ((by
 conv=>rhs;whnf
 refine Zb _ Zl fun x102 _=>?_
 rcases x102 with x102 | x102
 exact yT (yF (yB (yB (Zb (Za t0 t1 t2 t3 s0.1 x102.1 s0.2.2.1 x102.2 mA mE mC mD mB mF) (hrc t0 t1 t2 t3 s0.1 x102.1 s0.2.2.1 x102.2 mA mE mC mD mB mF) fun x103 _=>
  Zc (ih _))
  (Zb (Za t0 t1 t2 t3 s0.1 x102.1 s0.2.2.1 x102.2 mA mE mC mD mB mF) (hrc t0 t1 t2 t3 s0.1 x102.1 s0.2.2.1 x102.2 mA mE mC mD mB mF) fun x104 _=>
  Zc (ih _)))
  (yB (Zb (Za t0 t1 t2 t3 (w64 (x102.1+1)) s0.2.1 s0.2.2.1 x102.2 mA mE mC mD mB mF) (hrc t0 t1 t2 t3 (w64 (x102.1+1)) s0.2.1 s0.2.2.1 x102.2 mA mE mC mD mB mF) fun x105 _=>
  Zc (ih _))
  (Zb (Za t0 t1 t2 t3 (w64 (x102.1+1)) s0.2.1 s0.2.2.1 x102.2 mA mE mC mD mB mF) (hrc t0 t1 t2 t3 (w64 (x102.1+1)) s0.2.1 s0.2.2.1 x102.2 mA mE mC mD mB mF) fun x106 _=>
  Zc (ih _)))))
 exact yF (yF (yB (yB (Zb (Za t0 t1 t2 t3 s0.1 x102.1 s0.2.2.1 x102.2 mA mE mC mD mB mF) (hrc t0 t1 t2 t3 s0.1 x102.1 s0.2.2.1 x102.2 mA mE mC mD mB mF) fun x107 _=>
  Zc (ih _))
  (Zb (Za t0 t1 t2 t3 s0.1 x102.1 s0.2.2.1 x102.2 mA mE mC mD mB mF) (hrc t0 t1 t2 t3 s0.1 x102.1 s0.2.2.1 x102.2 mA mE mC mD mB mF) fun x108 _=>
  Zc (ih _)))
  (yB (Zb (Za t0 t1 t2 t3 (w64 (x102.1+1)) s0.2.1 s0.2.2.1 x102.2 mA mE mC mD mB mF) (hrc t0 t1 t2 t3 (w64 (x102.1+1)) s0.2.1 s0.2.2.1 x102.2 mA mE mC mD mB mF) fun x109 _=>
  Zc (ih _))
  (Zb (Za t0 t1 t2 t3 (w64 (x102.1+1)) s0.2.1 s0.2.2.1 x102.2 mA mE mC mD mB mF) (hrc t0 t1 t2 t3 (w64 (x102.1+1)) s0.2.1 s0.2.2.1 x102.2 mA mE mC mD mB mF) fun x110 _=>
  Zc (ih _)))))))
  (Zb _ Zz fun x111 _=>
  Zc (ih _)))))
  (by
 conv=>rhs;whnf
 refine Zb _ Zl fun x112 _=>?_
 rcases x112 with x112 | x112
 exact yT (yF (yB (yB (Zb (Za t0 t1 t2 t3 s0.1 x112.1 s0.2.2.1 x112.2 mA mE mC mD mB mF) (hrc t0 t1 t2 t3 s0.1 x112.1 s0.2.2.1 x112.2 mA mE mC mD mB mF) fun x113 _=>
  Zc (ih _))
  (Zb (Za t0 t1 t2 t3 s0.1 x112.1 s0.2.2.1 x112.2 mA mE mC mD mB mF) (hrc t0 t1 t2 t3 s0.1 x112.1 s0.2.2.1 x112.2 mA mE mC mD mB mF) fun x114 _=>
  Zc (ih _)))
  (yB (Zb (Za t0 t1 t2 t3 (w64 (x112.1+1)) s0.2.1 s0.2.2.1 x112.2 mA mE mC mD mB mF) (hrc t0 t1 t2 t3 (w64 (x112.1+1)) s0.2.1 s0.2.2.1 x112.2 mA mE mC mD mB mF) fun x115 _=>
  Zc (ih _))
  (Zb (Za t0 t1 t2 t3 (w64 (x112.1+1)) s0.2.1 s0.2.2.1 x112.2 mA mE mC mD mB mF) (hrc t0 t1 t2 t3 (w64 (x112.1+1)) s0.2.1 s0.2.2.1 x112.2 mA mE mC mD mB mF) fun x116 _=>
  Zc (ih _)))))
 exact yF (yF (yB (yB (Zb (Za t0 t1 t2 t3 s0.1 x112.1 s0.2.2.1 x112.2 mA mE mC mD mB mF) (hrc t0 t1 t2 t3 s0.1 x112.1 s0.2.2.1 x112.2 mA mE mC mD mB mF) fun x117 _=>
  Zc (ih _))
  (Zb (Za t0 t1 t2 t3 s0.1 x112.1 s0.2.2.1 x112.2 mA mE mC mD mB mF) (hrc t0 t1 t2 t3 s0.1 x112.1 s0.2.2.1 x112.2 mA mE mC mD mB mF) fun x118 _=>
  Zc (ih _)))
  (yB (Zb (Za t0 t1 t2 t3 (w64 (x112.1+1)) s0.2.1 s0.2.2.1 x112.2 mA mE mC mD mB mF) (hrc t0 t1 t2 t3 (w64 (x112.1+1)) s0.2.1 s0.2.2.1 x112.2 mA mE mC mD mB mF) fun x119 _=>
  Zc (ih _))
  (Zb (Za t0 t1 t2 t3 (w64 (x112.1+1)) s0.2.1 s0.2.2.1 x112.2 mA mE mC mD mB mF) (hrc t0 t1 t2 t3 (w64 (x112.1+1)) s0.2.1 s0.2.2.1 x112.2 mA mE mC mD mB mF) fun x120 _=>
  Zc (ih _))))))))))
 exact Zyj (yB (Zb _ Z6 fun x1 _=>
  Zm rfl)
  (yB (Zb _ Zai fun x2 _=>
  Zm rfl)
  (Zb _ Zac fun x3 _=>
  yB (Zb _ Zaa fun x4 _=>
  yT (by
 conv=>rhs;whnf
 refine Zb _ Za2 fun x5 _=>?_
 rcases x5 with x5 | x5
 exact Zm rfl
 exact yB (yG fun x6 hx6=>
  Zd (Zp rfl hx6) (yG fun x7 hx7=>
  Zd (Zp rfl hx7) (yC ZE fun x8 _=>
  yB ((by
 conv=>rhs;whnf
 refine Zb _ Zl fun x9 _=>?_
 rcases x9 with x9 | x9
 exact yT (yF (yB (yB (Zb (Za t0 t1 t2 t3 s0.1 x9.1 s0.2.2.1 x9.2 mA mE mC mD mB mF) (hrc t0 t1 t2 t3 s0.1 x9.1 s0.2.2.1 x9.2 mA mE mC mD mB mF) fun x10 _=>
  Zc (ih _))
  (Zb (Za t0 t1 t2 t3 s0.1 x9.1 s0.2.2.1 x9.2 mA mE mC mD mB mF) (hrc t0 t1 t2 t3 s0.1 x9.1 s0.2.2.1 x9.2 mA mE mC mD mB mF) fun x11 _=>
  Zc (ih _)))
  (yB (Zb (Za t0 t1 t2 t3 (w64 (x9.1+1)) s0.2.1 s0.2.2.1 x9.2 mA mE mC mD mB mF) (hrc t0 t1 t2 t3 (w64 (x9.1+1)) s0.2.1 s0.2.2.1 x9.2 mA mE mC mD mB mF) fun x12 _=>
  Zc (ih _))
  (Zb (Za t0 t1 t2 t3 (w64 (x9.1+1)) s0.2.1 s0.2.2.1 x9.2 mA mE mC mD mB mF) (hrc t0 t1 t2 t3 (w64 (x9.1+1)) s0.2.1 s0.2.2.1 x9.2 mA mE mC mD mB mF) fun x13 _=>
  Zc (ih _)))))
 exact yF (yF (yB (yB (Zb (Za t0 t1 t2 t3 s0.1 x9.1 s0.2.2.1 x9.2 mA mE mC mD mB mF) (hrc t0 t1 t2 t3 s0.1 x9.1 s0.2.2.1 x9.2 mA mE mC mD mB mF) fun x14 _=>
  Zc (ih _))
  (Zb (Za t0 t1 t2 t3 s0.1 x9.1 s0.2.2.1 x9.2 mA mE mC mD mB mF) (hrc t0 t1 t2 t3 s0.1 x9.1 s0.2.2.1 x9.2 mA mE mC mD mB mF) fun x15 _=>
  Zc (ih _)))
  (yB (Zb (Za t0 t1 t2 t3 (w64 (x9.1+1)) s0.2.1 s0.2.2.1 x9.2 mA mE mC mD mB mF) (hrc t0 t1 t2 t3 (w64 (x9.1+1)) s0.2.1 s0.2.2.1 x9.2 mA mE mC mD mB mF) fun x16 _=>
  Zc (ih _))
  (Zb (Za t0 t1 t2 t3 (w64 (x9.1+1)) s0.2.1 s0.2.2.1 x9.2 mA mE mC mD mB mF) (hrc t0 t1 t2 t3 (w64 (x9.1+1)) s0.2.1 s0.2.2.1 x9.2 mA mE mC mD mB mF) fun x17 _=>
  Zc (ih _)))))))
  (Zb _ Zz fun x18 _=>
  Zc (ih _)))))
  (by
 conv=>rhs;whnf
 refine Zb _ Zl fun x19 _=>?_
 rcases x19 with x19 | x19
 exact yT (yF (yB (yB (Zb (Za t0 t1 t2 t3 s0.1 x19.1 s0.2.2.1 x19.2 mA mE mC mD mB mF) (hrc t0 t1 t2 t3 s0.1 x19.1 s0.2.2.1 x19.2 mA mE mC mD mB mF) fun x20 _=>
  Zc (ih _))
  (Zb (Za t0 t1 t2 t3 s0.1 x19.1 s0.2.2.1 x19.2 mA mE mC mD mB mF) (hrc t0 t1 t2 t3 s0.1 x19.1 s0.2.2.1 x19.2 mA mE mC mD mB mF) fun x21 _=>
  Zc (ih _)))
  (yB (Zb (Za t0 t1 t2 t3 (w64 (x19.1+1)) s0.2.1 s0.2.2.1 x19.2 mA mE mC mD mB mF) (hrc t0 t1 t2 t3 (w64 (x19.1+1)) s0.2.1 s0.2.2.1 x19.2 mA mE mC mD mB mF) fun x22 _=>
  Zc (ih _))
  (Zb (Za t0 t1 t2 t3 (w64 (x19.1+1)) s0.2.1 s0.2.2.1 x19.2 mA mE mC mD mB mF) (hrc t0 t1 t2 t3 (w64 (x19.1+1)) s0.2.1 s0.2.2.1 x19.2 mA mE mC mD mB mF) fun x23 _=>
  Zc (ih _)))))
 exact yF (yF (yB (yB (Zb (Za t0 t1 t2 t3 s0.1 x19.1 s0.2.2.1 x19.2 mA mE mC mD mB mF) (hrc t0 t1 t2 t3 s0.1 x19.1 s0.2.2.1 x19.2 mA mE mC mD mB mF) fun x24 _=>
  Zc (ih _))
  (Zb (Za t0 t1 t2 t3 s0.1 x19.1 s0.2.2.1 x19.2 mA mE mC mD mB mF) (hrc t0 t1 t2 t3 s0.1 x19.1 s0.2.2.1 x19.2 mA mE mC mD mB mF) fun x25 _=>
  Zc (ih _)))
  (yB (Zb (Za t0 t1 t2 t3 (w64 (x19.1+1)) s0.2.1 s0.2.2.1 x19.2 mA mE mC mD mB mF) (hrc t0 t1 t2 t3 (w64 (x19.1+1)) s0.2.1 s0.2.2.1 x19.2 mA mE mC mD mB mF) fun x26 _=>
  Zc (ih _))
  (Zb (Za t0 t1 t2 t3 (w64 (x19.1+1)) s0.2.1 s0.2.2.1 x19.2 mA mE mC mD mB mF) (hrc t0 t1 t2 t3 (w64 (x19.1+1)) s0.2.1 s0.2.2.1 x19.2 mA mE mC mD mB mF) fun x27 _=>
  Zc (ih _))))))))
  (yB ((by
 conv=>rhs;whnf
 refine Zb _ Za2 fun x28 _=>?_
 rcases x28 with x28 | x28
 exact Zm rfl
 exact yB (yG fun x29 hx29=>
  Zd (Zp rfl hx29) (yG fun x30 hx30=>
  Zd (Zp rfl hx30) (yC ZE fun x31 _=>
  yB ((by
 conv=>rhs;whnf
 refine Zb _ Zl fun x32 _=>?_
 rcases x32 with x32 | x32
 exact yT (yF (yB (yB (Zb (Za t0 t1 t2 t3 s0.1 x32.1 s0.2.2.1 x32.2 mA mE mC mD mB mF) (hrc t0 t1 t2 t3 s0.1 x32.1 s0.2.2.1 x32.2 mA mE mC mD mB mF) fun x33 _=>
  Zc (ih _))
  (Zb (Za t0 t1 t2 t3 s0.1 x32.1 s0.2.2.1 x32.2 mA mE mC mD mB mF) (hrc t0 t1 t2 t3 s0.1 x32.1 s0.2.2.1 x32.2 mA mE mC mD mB mF) fun x34 _=>
  Zc (ih _)))
  (yB (Zb (Za t0 t1 t2 t3 (w64 (x32.1+1)) s0.2.1 s0.2.2.1 x32.2 mA mE mC mD mB mF) (hrc t0 t1 t2 t3 (w64 (x32.1+1)) s0.2.1 s0.2.2.1 x32.2 mA mE mC mD mB mF) fun x35 _=>
  Zc (ih _))
  (Zb (Za t0 t1 t2 t3 (w64 (x32.1+1)) s0.2.1 s0.2.2.1 x32.2 mA mE mC mD mB mF) (hrc t0 t1 t2 t3 (w64 (x32.1+1)) s0.2.1 s0.2.2.1 x32.2 mA mE mC mD mB mF) fun x36 _=>
  Zc (ih _)))))
 exact yF (yF (yB (yB (Zb (Za t0 t1 t2 t3 s0.1 x32.1 s0.2.2.1 x32.2 mA mE mC mD mB mF) (hrc t0 t1 t2 t3 s0.1 x32.1 s0.2.2.1 x32.2 mA mE mC mD mB mF) fun x37 _=>
  Zc (ih _))
  (Zb (Za t0 t1 t2 t3 s0.1 x32.1 s0.2.2.1 x32.2 mA mE mC mD mB mF) (hrc t0 t1 t2 t3 s0.1 x32.1 s0.2.2.1 x32.2 mA mE mC mD mB mF) fun x38 _=>
  Zc (ih _)))
  (yB (Zb (Za t0 t1 t2 t3 (w64 (x32.1+1)) s0.2.1 s0.2.2.1 x32.2 mA mE mC mD mB mF) (hrc t0 t1 t2 t3 (w64 (x32.1+1)) s0.2.1 s0.2.2.1 x32.2 mA mE mC mD mB mF) fun x39 _=>
  Zc (ih _))
  (Zb (Za t0 t1 t2 t3 (w64 (x32.1+1)) s0.2.1 s0.2.2.1 x32.2 mA mE mC mD mB mF) (hrc t0 t1 t2 t3 (w64 (x32.1+1)) s0.2.1 s0.2.2.1 x32.2 mA mE mC mD mB mF) fun x40 _=>
  Zc (ih _)))))))
  (Zb _ Zz fun x41 _=>
  Zc (ih _)))))
  (by
 conv=>rhs;whnf
 refine Zb _ Zl fun x42 _=>?_
 rcases x42 with x42 | x42
 exact yT (yF (yB (yB (Zb (Za t0 t1 t2 t3 s0.1 x42.1 s0.2.2.1 x42.2 mA mE mC mD mB mF) (hrc t0 t1 t2 t3 s0.1 x42.1 s0.2.2.1 x42.2 mA mE mC mD mB mF) fun x43 _=>
  Zc (ih _))
  (Zb (Za t0 t1 t2 t3 s0.1 x42.1 s0.2.2.1 x42.2 mA mE mC mD mB mF) (hrc t0 t1 t2 t3 s0.1 x42.1 s0.2.2.1 x42.2 mA mE mC mD mB mF) fun x44 _=>
  Zc (ih _)))
  (yB (Zb (Za t0 t1 t2 t3 (w64 (x42.1+1)) s0.2.1 s0.2.2.1 x42.2 mA mE mC mD mB mF) (hrc t0 t1 t2 t3 (w64 (x42.1+1)) s0.2.1 s0.2.2.1 x42.2 mA mE mC mD mB mF) fun x45 _=>
  Zc (ih _))
  (Zb (Za t0 t1 t2 t3 (w64 (x42.1+1)) s0.2.1 s0.2.2.1 x42.2 mA mE mC mD mB mF) (hrc t0 t1 t2 t3 (w64 (x42.1+1)) s0.2.1 s0.2.2.1 x42.2 mA mE mC mD mB mF) fun x46 _=>
  Zc (ih _)))))
 exact yF (yF (yB (yB (Zb (Za t0 t1 t2 t3 s0.1 x42.1 s0.2.2.1 x42.2 mA mE mC mD mB mF) (hrc t0 t1 t2 t3 s0.1 x42.1 s0.2.2.1 x42.2 mA mE mC mD mB mF) fun x47 _=>
  Zc (ih _))
  (Zb (Za t0 t1 t2 t3 s0.1 x42.1 s0.2.2.1 x42.2 mA mE mC mD mB mF) (hrc t0 t1 t2 t3 s0.1 x42.1 s0.2.2.1 x42.2 mA mE mC mD mB mF) fun x48 _=>
  Zc (ih _)))
  (yB (Zb (Za t0 t1 t2 t3 (w64 (x42.1+1)) s0.2.1 s0.2.2.1 x42.2 mA mE mC mD mB mF) (hrc t0 t1 t2 t3 (w64 (x42.1+1)) s0.2.1 s0.2.2.1 x42.2 mA mE mC mD mB mF) fun x49 _=>
  Zc (ih _))
  (Zb (Za t0 t1 t2 t3 (w64 (x42.1+1)) s0.2.1 s0.2.2.1 x42.2 mA mE mC mD mB mF) (hrc t0 t1 t2 t3 (w64 (x42.1+1)) s0.2.1 s0.2.2.1 x42.2 mA mE mC mD mB mF) fun x50 _=>
  Zc (ih _))))))))
  (yB (yG fun x51 hx51=>
  Zd (Zp rfl hx51) (yG fun x52 hx52=>
  Zd (Zp rfl hx52) (yC ZE fun x53 _=>
  yB ((by
 conv=>rhs;whnf
 refine Zb _ Zl fun x54 _=>?_
 rcases x54 with x54 | x54
 exact yT (yF (yB (yB (Zb (Za t0 t1 t2 t3 s0.1 x54.1 s0.2.2.1 x54.2 mA mE mC mD mB mF) (hrc t0 t1 t2 t3 s0.1 x54.1 s0.2.2.1 x54.2 mA mE mC mD mB mF) fun x55 _=>
  Zc (ih _))
  (Zb (Za t0 t1 t2 t3 s0.1 x54.1 s0.2.2.1 x54.2 mA mE mC mD mB mF) (hrc t0 t1 t2 t3 s0.1 x54.1 s0.2.2.1 x54.2 mA mE mC mD mB mF) fun x56 _=>
  Zc (ih _)))
  (yB (Zb (Za t0 t1 t2 t3 (w64 (x54.1+1)) s0.2.1 s0.2.2.1 x54.2 mA mE mC mD mB mF) (hrc t0 t1 t2 t3 (w64 (x54.1+1)) s0.2.1 s0.2.2.1 x54.2 mA mE mC mD mB mF) fun x57 _=>
  Zc (ih _))
  (Zb (Za t0 t1 t2 t3 (w64 (x54.1+1)) s0.2.1 s0.2.2.1 x54.2 mA mE mC mD mB mF) (hrc t0 t1 t2 t3 (w64 (x54.1+1)) s0.2.1 s0.2.2.1 x54.2 mA mE mC mD mB mF) fun x58 _=>
  Zc (ih _)))))
 exact yF (yF (yB (yB (Zb (Za t0 t1 t2 t3 s0.1 x54.1 s0.2.2.1 x54.2 mA mE mC mD mB mF) (hrc t0 t1 t2 t3 s0.1 x54.1 s0.2.2.1 x54.2 mA mE mC mD mB mF) fun x59 _=>
  Zc (ih _))
  (Zb (Za t0 t1 t2 t3 s0.1 x54.1 s0.2.2.1 x54.2 mA mE mC mD mB mF) (hrc t0 t1 t2 t3 s0.1 x54.1 s0.2.2.1 x54.2 mA mE mC mD mB mF) fun x60 _=>
  Zc (ih _)))
  (yB (Zb (Za t0 t1 t2 t3 (w64 (x54.1+1)) s0.2.1 s0.2.2.1 x54.2 mA mE mC mD mB mF) (hrc t0 t1 t2 t3 (w64 (x54.1+1)) s0.2.1 s0.2.2.1 x54.2 mA mE mC mD mB mF) fun x61 _=>
  Zc (ih _))
  (Zb (Za t0 t1 t2 t3 (w64 (x54.1+1)) s0.2.1 s0.2.2.1 x54.2 mA mE mC mD mB mF) (hrc t0 t1 t2 t3 (w64 (x54.1+1)) s0.2.1 s0.2.2.1 x54.2 mA mE mC mD mB mF) fun x62 _=>
  Zc (ih _)))))))
  (Zb _ Zz fun x63 _=>
  Zc (ih _)))))
  (by
 conv=>rhs;whnf
 refine Zb _ Zl fun x64 _=>?_
 rcases x64 with x64 | x64
 exact yT (yF (yB (yB (Zb (Za t0 t1 t2 t3 s0.1 x64.1 s0.2.2.1 x64.2 mA mE mC mD mB mF) (hrc t0 t1 t2 t3 s0.1 x64.1 s0.2.2.1 x64.2 mA mE mC mD mB mF) fun x65 _=>
  Zc (ih _))
  (Zb (Za t0 t1 t2 t3 s0.1 x64.1 s0.2.2.1 x64.2 mA mE mC mD mB mF) (hrc t0 t1 t2 t3 s0.1 x64.1 s0.2.2.1 x64.2 mA mE mC mD mB mF) fun x66 _=>
  Zc (ih _)))
  (yB (Zb (Za t0 t1 t2 t3 (w64 (x64.1+1)) s0.2.1 s0.2.2.1 x64.2 mA mE mC mD mB mF) (hrc t0 t1 t2 t3 (w64 (x64.1+1)) s0.2.1 s0.2.2.1 x64.2 mA mE mC mD mB mF) fun x67 _=>
  Zc (ih _))
  (Zb (Za t0 t1 t2 t3 (w64 (x64.1+1)) s0.2.1 s0.2.2.1 x64.2 mA mE mC mD mB mF) (hrc t0 t1 t2 t3 (w64 (x64.1+1)) s0.2.1 s0.2.2.1 x64.2 mA mE mC mD mB mF) fun x68 _=>
  Zc (ih _)))))
 exact yF (yF (yB (yB (Zb (Za t0 t1 t2 t3 s0.1 x64.1 s0.2.2.1 x64.2 mA mE mC mD mB mF) (hrc t0 t1 t2 t3 s0.1 x64.1 s0.2.2.1 x64.2 mA mE mC mD mB mF) fun x69 _=>
  Zc (ih _))
  (Zb (Za t0 t1 t2 t3 s0.1 x64.1 s0.2.2.1 x64.2 mA mE mC mD mB mF) (hrc t0 t1 t2 t3 s0.1 x64.1 s0.2.2.1 x64.2 mA mE mC mD mB mF) fun x70 _=>
  Zc (ih _)))
  (yB (Zb (Za t0 t1 t2 t3 (w64 (x64.1+1)) s0.2.1 s0.2.2.1 x64.2 mA mE mC mD mB mF) (hrc t0 t1 t2 t3 (w64 (x64.1+1)) s0.2.1 s0.2.2.1 x64.2 mA mE mC mD mB mF) fun x71 _=>
  Zc (ih _))
  (Zb (Za t0 t1 t2 t3 (w64 (x64.1+1)) s0.2.1 s0.2.2.1 x64.2 mA mE mC mD mB mF) (hrc t0 t1 t2 t3 (w64 (x64.1+1)) s0.2.1 s0.2.2.1 x64.2 mA mE mC mD mB mF) fun x72 _=>
  Zc (ih _)))))))))))))
theorem Zey (rc:Int->Int->Int->(Int->Int->Option Int)->(List Int)->Option (List Int)) (hrc:∀(t0:Bool) (t1:Bool) (t2:Bool) (t3:Bool) (b:Int) (c:Int) (d:Int) (mG:List Int) (mA:Int) (mE:Int) (mC:List ZU) (mD:List Zi) (mB:List Zg) (mF:List Zr) (r:List Int),rc b c d (fun z0 z1=>Zt z0 z1 mB) mG=some r->evW ctx 192 [(.sl 0 1),(zN b),(zN c),(zN d),(.fn 177 [(.ptr 1 0)])] [(zA mG),(zK0 mA mE t0 mC t1 mD t2 mB t3 mF)]=some ((Za t0 t1 t2 t3 b c d mG mA mE mC mD mB mF) r)) (t0:Bool) (t1:Bool) (t2:Bool) (t3:Bool) (b:Int) (c:Int) (d:Int) (mG:List Int) (mA:Int) (mE:Int) (mC:List ZU) (mD:List Zi) (mB:List Zg) (mF:List Zr):∀r,(ZaF rc b c d (fun z0 z1=>Zt z0 z1 mB) mG)=some r->evW ctx 192 [(.sl 0 1),(zN b),(zN c),(zN d),(.fn 177 [(.ptr 1 0)])] [(zA mG),(zK0 mA mE t0 mC t1 mD t2 mB t3 mF)]=some ((Za t0 t1 t2 t3 b c d mG mA mE mC mD mB mF) r):=
 evS ZBS rfl rfl <| Zb _ (Zep hrc _) fun r219 _=>
  yR
theorem ZbV:∀(n:Nat) (t0:Bool) (t1:Bool) (t2:Bool) (t3:Bool) (b:Int) (c:Int) (d:Int) (mG:List Int) (mA:Int) (mE:Int) (mC:List ZU) (mD:List Zi) (mB:List Zg) (mF:List Zr) (r:List Int),ZV n b c d (fun z0 z1=>Zt z0 z1 mB) mG=some r->evW ctx 192 [(.sl 0 1),(zN b),(zN c),(zN d),(.fn 177 [(.ptr 1 0)])] [(zA mG),(zK0 mA mE t0 mC t1 mD t2 mB t3 mF)]=some ((Za t0 t1 t2 t3 b c d mG mA mE mC mD mB mF) r)
  | 0,t0,t1,t2,t3,b,c,d,mG,mA,mE,mC,mD,mB,mF,r,h=>by cases h
  | n+1,t0,t1,t2,t3,b,c,d,mG,mA,mE,mC,mD,mB,mF,r,h=>Zey (ZV n) (ZbV n) t0 t1 t2 t3 b c d mG mA mE mC mD mB mF r h
theorem Zff {t0 t1:Bool}{t2 t3:Bool}{b c d:Int}{mG:List Int}{mA mE:Int}{mC:List ZU}{mD:List Zi}{mB:List Zg}{mF:List Zr}:∀r,Zdq b c d (fun z0 z1=>Zt z0 z1 mB) mG=some r->evW ctx 192 [(.sl 0 1),(zN b),(zN c),(zN d),(.fn 177 [(.ptr 1 0)])] [(zA mG),(zK0 mA mE t0 mC t1 mD t2 mB t3 mF)]=some ((Za t0 t1 t2 t3 b c d mG mA mE mC mD mB mF) r):=fun r h=>by
  obtain⟨n,hn⟩:=ZGl h
  exact ZbV n t0 t1 t2 t3 b c d mG mA mE mC mD mB mF r hn
def Zfu (t0:Bool) (t1:Bool) (t2:Bool) (t3:Bool) (mG:List Int) (mA:Int) (mE:Int) (mC:List ZU) (mD:List Zi) (mB:List Zg) (mF:List Zr):(List Int)->V×Zk
  | r=>((.d (D.tup [])),[(zA r),(zK0 mA mE t0 mC t1 mD t2 mB t3 mF)])
theorem Zfe {t0 t1:Bool}{t2 t3:Bool}{mG:List Int}{mA mE:Int}{mC:List ZU}{mD:List Zi}{mB:List Zg}{mF:List Zr}:∀r,(ZaU (fun z0 z1=>Zt z0 z1 mB) mG)=some r->evW ctx 176 [(.sl 0 1),(.fn 177 [(.ptr 1 0)])] [(zA mG),(zK0 mA mE t0 mC t1 mD t2 mB t3 mF)]=some ((Zfu t0 t1 t2 t3 mG mA mE mC mD mB mF) r):=
 evS ZCv rfl rfl <| Zf (Zv _ _) (yC Zj3 fun x0 _=>
  Zb _ Zff fun x1 _=>
  yR)
def Zqj (r:List Int):D:=(zL true r)
def Zi9 (t0:Bool) (t1:Bool) (t2:Bool) (t3:Bool) (a:Zq) (b:Int):(List Int)->Ex×List V×Zk
  | r=>(.exit 0,[(.ptr 0 0),(.sl 1 1)],[(.cells (dV t0 t1 t2 t3 a)),(zA r)])
theorem Znl {t0 t1:Bool}{t2 t3:Bool}{a:Zq}{b:Int}:∀(s1:Int×(List Int)) (r:List Int),lp (ZeM a b) s1=some r->lpW ctx 0 [1,2,5,12,13,14] [2,5] ZAI [(zN b),(.ptr 0 0),(.sl 1 1),(zW t2 ZT a.futures),(zN (a.futures.length:Int)),(zN s1.1)] [(.cells (dV t0 t1 t2 t3 a)),(zA s1.2)]=some ((Zi9 t0 t1 t2 t3 a b) r):=
 lpT (Zi9 t0 t1 t2 t3 a b) fun s1 _ ih=>yB (yG fun x2 _=>
  yB (yT (Zbz (ZeV Zh s1.2 1) (Zf (ZeS Zh s1.2 [s1.1]) (Zc (ih _)))
  Zal))
  (Zc (ih _)))
  (Zm rfl)
theorem ZpV {t0 t1:Bool}{t2 t3:Bool}{a:Zq}{b:Int}:∀r,(Zd9 a b)=some r->evD ctx 141 [(.d (D.agg (dA t0 t1 t2 t3 a))),(zN b)]=some (Zqj r):=
 evT ZDO rfl rfl <| yC ZmE fun x0 _=>
  yBr (Zf (Zv _ _) (Zb _ (Znl _) fun r3 _=>
  Zb _ Zfe fun x4 _=>
  yR))
def ZmM (b:Ze) (c:Int) (mA:List Int) (mI:List Zi) (mH:List Ze) (mK:(List (Int×Int))) (mJ:(List (Int×Int))) (mM:(List (Zg×Int))):Unit->V×Zk
  | r=>((zN (w64 ((List.length (mH++[b]):Int)-1))),[(.cells [(.sl 7 1),(.sl 2 2),(.sl 8 2),(.mp 4),(.mp 5),(.mp 6)]),.dead,(.arr 2 (List.map Z4 mI)),.dead,(.mp (mpD Zh Zh mK)),(.mp (mpD Zh Zh mJ)),(.mp (mpD ZT Zh mM)),(zA (mA++[c])),(.arr 2 (List.map Zby (mH++[b])))])
theorem ZaB {b:Ze}{c:Int}{mA:List Int}{mI:List Zi}{mH:List Ze}{mK:(List (Int×Int))}{mJ:(List (Int×Int))}{mM:(List (Zg×Int))}:∀r,(Zam b c mA mH)=some r->evW ctx 84 [(.ptr 0 0),(.d (zK4 b.part b.step)),(zN c)] [(.cells [(.sl 1 1),(.sl 2 2),(.sl 3 2),(.mp 4),(.mp 5),(.mp 6)]),(zA mA),(.arr 2 (List.map Z4 mI)),(.arr 2 (List.map Zby mH)),(.mp (mpD Zh Zh mK)),(.mp (mpD Zh Zh mJ)),(.mp (mpD ZT Zh mM))]=some ((ZmM b c mA mI mH mK mJ mM) r):=
 evS ZH2 rfl rfl <| yT (Zbz (ZeV Zby mH 1) (Zf (ZeS Zby mH [b]) (yT (Zbz (ZeV Zh mA 1) (Zf (ZeS Zh mA [c]) (Zf (Zv _ _) yR))
  Zal)))
  Zal)
def ZmR (b:Int) (c:Int) (mA:List Int) (mI:List Zi) (mH:List Ze) (mK:(List (Int×Int))) (mJ:(List (Int×Int))) (mM:(List (Zg×Int))):Unit->V×Zk
  | r=>((.d (D.tup [])),[(.cells [(.sl 1 1),(.sl 7 2),(.sl 3 2),(.mp 4),(.mp 5),(.mp 6)]),(zA mA),.dead,(.arr 2 (List.map Zby mH)),(.mp (mpD Zh Zh mK)),(.mp (mpD Zh Zh mJ)),(.mp (mpD ZT Zh mM)),(.arr 2 (List.map Z4 (mI++[(Zi.mk b c)])))])
theorem Zan {b c:Int}{mA:List Int}{mI:List Zi}{mH:List Ze}{mK:(List (Int×Int))}{mJ:(List (Int×Int))}{mM:(List (Zg×Int))}:∀r,(ZI b c mI)=some r->evW ctx 83 [(.ptr 0 0),(zN b),(zN c)] [(.cells [(.sl 1 1),(.sl 2 2),(.sl 3 2),(.mp 4),(.mp 5),(.mp 6)]),(zA mA),(.arr 2 (List.map Z4 mI)),(.arr 2 (List.map Zby mH)),(.mp (mpD Zh Zh mK)),(.mp (mpD Zh Zh mJ)),(.mp (mpD ZT Zh mM))]=some ((ZmR b c mA mI mH mK mJ mM) r):=
 evS ZHq rfl rfl <| yT (Zbz (ZeV Z4 mI 1) (Zf (ZeS Z4 mI [(Zi.mk b c)]) yR)
  Zal)
def ZmN (t0:Bool) (t1:Bool) (t2:Bool) (t3:Bool) (b:Zq) (c:Int) (mA:List Int) (mI:List Zi) (mH:List Ze) (mK:(List (Int×Int))) (mJ:(List (Int×Int))) (mM:(List (Zg×Int))):(((List (Int×Int))×(List (Zg×Int))×(List Int)×(List Zi)×(List Ze))⊕((List Int)⊕Unit))->V×Zk
  | (.inl r)=>((.d (D.tup [])),[(.cells [(.sl 7 1),(.sl 8 2),(.sl 9 2),(.mp 4),(.mp 5),(.mp 6)]),.dead,.dead,.dead,(.mp (mpD Zh Zh (Zu zE mK c (mH.length:Int)))),(.mp (mpD Zh Zh r.1)),(.mp (mpD ZT Zh r.2.1)),(zA r.2.2.1),(.arr 2 (List.map Z4 r.2.2.2.1)),(.arr 2 (List.map Zby r.2.2.2.2))])
  | (.inr (.inl r))=>((.d (D.tup [])),[(.cells [(.sl 7 1),(.sl 2 2),(.sl 8 2),(.mp 4),(.mp 5),(.mp 6)]),.dead,(.arr 2 (List.map Z4 mI)),.dead,(.mp (mpD Zh Zh (Zu zE mK c (mH.length:Int)))),(.mp (mpD Zh Zh (Zu zE mJ c (w64 ((List.length (mH++[(Ze.mk c 0)]):Int)-1))))),(.mp (mpD ZT Zh mM)),(zA r),(.arr 2 (List.map Zby (mH++[(Ze.mk c 0)])))])
  | (.inr (.inr r))=>((.d (D.tup [])),[(.cells [(.sl 1 1),(.sl 2 2),(.sl 3 2),(.mp 4),(.mp 5),(.mp 6)]),(zA mA),(.arr 2 (List.map Z4 mI)),(.arr 2 (List.map Zby mH)),(.mp (mpD Zh Zh (Zu zE mK c (mH.length:Int)))),(.mp (mpD Zh Zh mJ)),(.mp (mpD ZT Zh mM))])
def Zhu (t0:Bool) (t1:Bool) (t2:Bool) (t3:Bool) (b:Zq) (c:Int) (mH:List Ze) (mK:(List (Int×Int))) (x0:List Int):((List (Int×Int))×(List (Zg×Int))×(List Int)×(List Zi)×(List Ze))->Ex×List V×Zk
  | r=>(.exit 0,[],[(.cells [(.sl 7 1),(.sl 8 2),(.sl 9 2),(.mp 4),(.mp 5),(.mp 6)]),.dead,.dead,.dead,(.mp (mpD Zh Zh (Zu zE mK c (mH.length:Int)))),(.mp (mpD Zh Zh r.1)),(.mp (mpD ZT Zh r.2.1)),(zA r.2.2.1),(.arr 2 (List.map Z4 r.2.2.2.1)),(.arr 2 (List.map Zby r.2.2.2.2))])
theorem Zcy {t0 t1:Bool}{t2 t3:Bool}{b:Zq}{c:Int}{mH:List Ze}{mK:(List (Int×Int))}{x0:List Int}:∀(s14:Int×Int×(List (Int×Int))×(List (Zg×Int))×(List Int)×(List Zi)×(List Ze)) (r:((List (Int×Int))×(List (Zg×Int))×(List Int)×(List Zi)×(List Ze))),lp (ZB b c x0) s14=some r->lpW ctx 7 [0,2,4,6,7,26,27] [] ZtH [(.ptr 0 0),(zN c),(.ptr 7 0),(zN s14.1),(zV true x0),(zN (w64 ((x0.length:Int)+1))),(zN s14.2.1)] [(.cells [(.sl 8 1),(.sl 9 2),(.sl 10 2),(.mp 4),(.mp 5),(.mp 6)]),.dead,.dead,.dead,(.mp (mpD Zh Zh (Zu zE mK c (mH.length:Int)))),(.mp (mpD Zh Zh s14.2.2.1)),(.mp (mpD ZT Zh s14.2.2.2.1)),(.cells (dV t0 t1 t2 t3 b)),(zA s14.2.2.2.2.1),(.arr 2 (List.map Z4 s14.2.2.2.2.2.1)),(.arr 2 (List.map Zby s14.2.2.2.2.2.2))]=some ((Zhu t0 t1 t2 t3 b c mH mK x0) r):=
 lpT (Zhu t0 t1 t2 t3 b c mH mK x0) fun s14 _ ih=>yB (yG fun x15 _=>
  Zf (Zv _ _) (yB (yG fun x16 _=>
  yG fun x17 _=>
  Zb _ ZaB fun x18 _=>
  Zd (Zd4 (f:=Zh) (g:=Zh) zE (fun _ _=>rfl) s14.2.2.1 c (w64 ((List.length (s14.2.2.2.2.2.2++[(Ze.mk c s14.2.1)]):Int)-1))) (yB (Zd (ZbD (f:=Zh) (g:=Zh) zE (fun _ _=>rfl) (Zu zE s14.2.2.1 c (w64 ((List.length (s14.2.2.2.2.2.2++[(Ze.mk c s14.2.1)]):Int)-1))) c 0) (Zd (ZbD (f:=Zh) (g:=Zh) zE (fun _ _=>rfl) (Zu zE s14.2.2.1 c (w64 ((List.length (s14.2.2.2.2.2.2++[(Ze.mk c s14.2.1)]):Int)-1))) c 0) (Zb _ Zan fun x19 _=>
  yG fun x20 _=>
  yG fun x21 _=>
  Zd (ZbD (f:=Zh) (g:=Zh) zE (fun _ _=>rfl) (Zu zE s14.2.2.1 c (w64 ((List.length (s14.2.2.2.2.2.2++[(Ze.mk c s14.2.1)]):Int)-1))) c 0) (Zd (Zd4 (f:=ZT) (g:=Zh) (fun ka kb:Zg=>((ka.maker==kb.maker)&&((ka.user==kb.user)&&((ka.pos==kb.pos)&&true)))) (fun _ _=>rfl) s14.2.2.2.1 x21 (Z5 zE (Zu zE s14.2.2.1 c (w64 ((List.length (s14.2.2.2.2.2.2++[(Ze.mk c s14.2.1)]):Int)-1))) c 0)) (Zc (ih _))))))
  (Zc (ih _))))
  (Zb _ ZaB fun x22 _=>
  Zd (Zd4 (f:=Zh) (g:=Zh) zE (fun _ _=>rfl) s14.2.2.1 c (w64 ((List.length (s14.2.2.2.2.2.2++[(Ze.mk c s14.2.1)]):Int)-1))) (yB (Zd (ZbD (f:=Zh) (g:=Zh) zE (fun _ _=>rfl) (Zu zE s14.2.2.1 c (w64 ((List.length (s14.2.2.2.2.2.2++[(Ze.mk c s14.2.1)]):Int)-1))) c 0) (Zd (ZbD (f:=Zh) (g:=Zh) zE (fun _ _=>rfl) (Zu zE s14.2.2.1 c (w64 ((List.length (s14.2.2.2.2.2.2++[(Ze.mk c s14.2.1)]):Int)-1))) c 0) (Zb _ Zan fun x23 _=>
  yG fun x24 _=>
  yG fun x25 _=>
  Zd (ZbD (f:=Zh) (g:=Zh) zE (fun _ _=>rfl) (Zu zE s14.2.2.1 c (w64 ((List.length (s14.2.2.2.2.2.2++[(Ze.mk c s14.2.1)]):Int)-1))) c 0) (Zd (Zd4 (f:=ZT) (g:=Zh) (fun ka kb:Zg=>((ka.maker==kb.maker)&&((ka.user==kb.user)&&((ka.pos==kb.pos)&&true)))) (fun _ _=>rfl) s14.2.2.2.1 x25 (Z5 zE (Zu zE s14.2.2.1 c (w64 ((List.length (s14.2.2.2.2.2.2++[(Ze.mk c s14.2.1)]):Int)-1))) c 0)) (Zc (ih _))))))
  (Zc (ih _))))))
  (Zm rfl)
def ZgX (t0:Bool) (t1:Bool) (t2:Bool) (t3:Bool) (b:Zq) (c:Int) (mA:List Int) (mI:List Zi) (mH:List Ze) (mK:(List (Int×Int))) (mJ:(List (Int×Int))) (mM:(List (Zg×Int))) (x0:List Int) (x4:Zg):(((List (Int×Int))×(List (Zg×Int))×(List Int)×(List Zi)×(List Ze))⊕Unit)->Ex×List V×Zk
  | (.inl r)=>(.exit 0,[],[(.cells [(.sl 7 1),(.sl 8 2),(.sl 9 2),(.mp 4),(.mp 5),(.mp 6)]),.dead,.dead,.dead,(.mp (mpD Zh Zh (Zu zE mK c (mH.length:Int)))),(.mp (mpD Zh Zh r.1)),(.mp (mpD ZT Zh r.2.1)),(zA r.2.2.1),(.arr 2 (List.map Z4 r.2.2.2.1)),(.arr 2 (List.map Zby r.2.2.2.2))])
  | (.inr r)=>(.exit 0,[],[(.cells [(.sl 7 1),(.sl 2 2),(.sl 8 2),(.mp 4),(.mp 5),(.mp 6)]),.dead,(.arr 2 (List.map Z4 mI)),.dead,(.mp (mpD Zh Zh (Zu zE mK c (mH.length:Int)))),(.mp (mpD Zh Zh (Zu zE mJ c (w64 ((List.length (mH++[(Ze.mk c 0)]):Int)-1))))),(.mp (mpD ZT Zh mM)),(zA (mA++[(w64 (x4.pos-0))])),(.arr 2 (List.map Zby (mH++[(Ze.mk c 0)])))])
theorem Zje {t0 t1:Bool}{t2 t3:Bool}{b:Zq}{c:Int}{mA:List Int}{mI:List Zi}{mH:List Ze}{mK:(List (Int×Int))}{mJ:(List (Int×Int))}{mM:(List (Zg×Int))}{x0:List Int}{x4:Zg}:∀(s6:Unit) (r:(((List (Int×Int))×(List (Zg×Int))×(List Int)×(List Zi)×(List Ze))⊕Unit)),lp (Zb6 b c mA mI mH mJ mM x0 x4) s6=some r->lpW ctx 7 [0,2,4,6,7,26,27] [] ZtH [(.ptr 0 0),(zN c),(.ptr 7 0),(zN x4.pos),(zV true x0),(zN (w64 ((x0.length:Int)+1))),(zN 1)] [(.cells [(.sl 8 1),(.sl 2 2),(.sl 9 2),(.mp 4),(.mp 5),(.mp 6)]),.dead,(.arr 2 (List.map Z4 mI)),.dead,(.mp (mpD Zh Zh (Zu zE mK c (mH.length:Int)))),(.mp (mpD Zh Zh (Zu zE mJ c (w64 ((List.length (mH++[(Ze.mk c 0)]):Int)-1))))),(.mp (mpD ZT Zh mM)),(.cells (dV t0 t1 t2 t3 b)),(zA (mA++[(w64 (x4.pos-0))])),(.arr 2 (List.map Zby (mH++[(Ze.mk c 0)])))]=some ((ZgX t0 t1 t2 t3 b c mA mI mH mK mJ mM x0 x4) r):=
 lpT (ZgX t0 t1 t2 t3 b c mA mI mH mK mJ mM x0 x4) fun s6 _ ih=>yB (yG fun x7 _=>
  Zf (Zv _ _) (yB (yG fun x8 _=>
  yG fun x9 _=>
  Zb _ ZaB fun x10 _=>
  Zd (Zd4 (f:=Zh) (g:=Zh) zE (fun _ _=>rfl) (Zu zE mJ c (w64 ((List.length (mH++[(Ze.mk c 0)]):Int)-1))) c (w64 ((List.length ((mH++[(Ze.mk c 0)])++[(Ze.mk c 1)]):Int)-1))) (yT (Zd (ZbD (f:=Zh) (g:=Zh) zE (fun _ _=>rfl) (Zu zE (Zu zE mJ c (w64 ((List.length (mH++[(Ze.mk c 0)]):Int)-1))) c (w64 ((List.length ((mH++[(Ze.mk c 0)])++[(Ze.mk c 1)]):Int)-1))) c 0) (Zd (ZbD (f:=Zh) (g:=Zh) zE (fun _ _=>rfl) (Zu zE (Zu zE mJ c (w64 ((List.length (mH++[(Ze.mk c 0)]):Int)-1))) c (w64 ((List.length ((mH++[(Ze.mk c 0)])++[(Ze.mk c 1)]):Int)-1))) c 0) (Zb _ Zan fun x11 _=>
  yG fun x12 _=>
  yG fun x13 _=>
  Zd (ZbD (f:=Zh) (g:=Zh) zE (fun _ _=>rfl) (Zu zE (Zu zE mJ c (w64 ((List.length (mH++[(Ze.mk c 0)]):Int)-1))) c (w64 ((List.length ((mH++[(Ze.mk c 0)])++[(Ze.mk c 1)]):Int)-1))) c 0) (Zd (Zd4 (f:=ZT) (g:=Zh) (fun ka kb:Zg=>((ka.maker==kb.maker)&&((ka.user==kb.user)&&((ka.pos==kb.pos)&&true)))) (fun _ _=>rfl) mM x13 (Z5 zE (Zu zE (Zu zE mJ c (w64 ((List.length (mH++[(Ze.mk c 0)]):Int)-1))) c (w64 ((List.length ((mH++[(Ze.mk c 0)])++[(Ze.mk c 1)]):Int)-1))) c 0)) (Zb _ (Zcy _) fun r26 _=>
  Zm rfl)))))))
  (Zb _ ZaB fun x27 _=>
  Zd (Zd4 (f:=Zh) (g:=Zh) zE (fun _ _=>rfl) (Zu zE mJ c (w64 ((List.length (mH++[(Ze.mk c 0)]):Int)-1))) c (w64 ((List.length ((mH++[(Ze.mk c 0)])++[(Ze.mk c 1)]):Int)-1))) (yT (Zd (ZbD (f:=Zh) (g:=Zh) zE (fun _ _=>rfl) (Zu zE (Zu zE mJ c (w64 ((List.length (mH++[(Ze.mk c 0)]):Int)-1))) c (w64 ((List.length ((mH++[(Ze.mk c 0)])++[(Ze.mk c 1)]):Int)-1))) c 0) (Zd (ZbD (f:=Zh) (g:=Zh) zE (fun _ _=>rfl) (Zu zE (Zu zE mJ c (w64 ((List.length (mH++[(Ze.mk c 0)]):Int)-1))) c (w64 ((List.length ((mH++[(Ze.mk c 0)])++[(Ze.mk c 1)]):Int)-1))) c 0) (Zb _ Zan fun x28 _=>
  yG fun x29 _=>
  yG fun x30 _=>
  Zd (ZbD (f:=Zh) (g:=Zh) zE (fun _ _=>rfl) (Zu zE (Zu zE mJ c (w64 ((List.length (mH++[(Ze.mk c 0)]):Int)-1))) c (w64 ((List.length ((mH++[(Ze.mk c 0)])++[(Ze.mk c 1)]):Int)-1))) c 0) (Zd (Zd4 (f:=ZT) (g:=Zh) (fun ka kb:Zg=>((ka.maker==kb.maker)&&((ka.user==kb.user)&&((ka.pos==kb.pos)&&true)))) (fun _ _=>rfl) mM x30 (Z5 zE (Zu zE (Zu zE mJ c (w64 ((List.length (mH++[(Ze.mk c 0)]):Int)-1))) c (w64 ((List.length ((mH++[(Ze.mk c 0)])++[(Ze.mk c 1)]):Int)-1))) c 0)) (Zb _ (Zcy _) fun r43 _=>
  Zm rfl)))))))))
  (Zm rfl)
def Zg1 (t0:Bool) (t1:Bool) (t2:Bool) (t3:Bool) (b:Zq) (c:Int) (mA:List Int) (mI:List Zi) (mH:List Ze) (mK:(List (Int×Int))) (mJ:(List (Int×Int))) (mM:(List (Zg×Int))) (x0:List Int) (x2:ZU):(((List (Int×Int))×(List (Zg×Int))×(List Int)×(List Zi)×(List Ze))⊕Unit)->Ex×List V×Zk
  | (.inl r)=>(.exit 0,[],[(.cells [(.sl 7 1),(.sl 8 2),(.sl 9 2),(.mp 4),(.mp 5),(.mp 6)]),.dead,.dead,.dead,(.mp (mpD Zh Zh (Zu zE mK c (mH.length:Int)))),(.mp (mpD Zh Zh r.1)),(.mp (mpD ZT Zh r.2.1)),(zA r.2.2.1),(.arr 2 (List.map Z4 r.2.2.2.1)),(.arr 2 (List.map Zby r.2.2.2.2))])
  | (.inr r)=>(.exit 0,[],[(.cells [(.sl 7 1),(.sl 2 2),(.sl 8 2),(.mp 4),(.mp 5),(.mp 6)]),.dead,(.arr 2 (List.map Z4 mI)),.dead,(.mp (mpD Zh Zh (Zu zE mK c (mH.length:Int)))),(.mp (mpD Zh Zh (Zu zE mJ c (w64 ((List.length (mH++[(Ze.mk c 0)]):Int)-1))))),(.mp (mpD ZT Zh mM)),(zA (mA++[(w64 (x2.work-0))])),(.arr 2 (List.map Zby (mH++[(Ze.mk c 0)])))])
theorem Zjp {t0 t1:Bool}{t2 t3:Bool}{b:Zq}{c:Int}{mA:List Int}{mI:List Zi}{mH:List Ze}{mK:(List (Int×Int))}{mJ:(List (Int×Int))}{mM:(List (Zg×Int))}{x0:List Int}{x2:ZU}:∀(s46:Unit) (r:(((List (Int×Int))×(List (Zg×Int))×(List Int)×(List Zi)×(List Ze))⊕Unit)),lp (ZcT b c mA mI mH mJ mM x0 x2) s46=some r->lpW ctx 7 [0,2,4,6,7,26,27] [] ZtH [(.ptr 0 0),(zN c),(.ptr 7 0),(zN x2.work),(zV true x0),(zN (w64 ((x0.length:Int)+1))),(zN 1)] [(.cells [(.sl 8 1),(.sl 2 2),(.sl 9 2),(.mp 4),(.mp 5),(.mp 6)]),.dead,(.arr 2 (List.map Z4 mI)),.dead,(.mp (mpD Zh Zh (Zu zE mK c (mH.length:Int)))),(.mp (mpD Zh Zh (Zu zE mJ c (w64 ((List.length (mH++[(Ze.mk c 0)]):Int)-1))))),(.mp (mpD ZT Zh mM)),(.cells (dV t0 t1 t2 t3 b)),(zA (mA++[(w64 (x2.work-0))])),(.arr 2 (List.map Zby (mH++[(Ze.mk c 0)])))]=some ((Zg1 t0 t1 t2 t3 b c mA mI mH mK mJ mM x0 x2) r):=
 lpT (Zg1 t0 t1 t2 t3 b c mA mI mH mK mJ mM x0 x2) fun s46 _ ih=>yB (yG fun x47 _=>
  Zf (Zv _ _) (yB (yG fun x48 _=>
  yG fun x49 _=>
  Zb _ ZaB fun x50 _=>
  Zd (Zd4 (f:=Zh) (g:=Zh) zE (fun _ _=>rfl) (Zu zE mJ c (w64 ((List.length (mH++[(Ze.mk c 0)]):Int)-1))) c (w64 ((List.length ((mH++[(Ze.mk c 0)])++[(Ze.mk c 1)]):Int)-1))) (yT (Zd (ZbD (f:=Zh) (g:=Zh) zE (fun _ _=>rfl) (Zu zE (Zu zE mJ c (w64 ((List.length (mH++[(Ze.mk c 0)]):Int)-1))) c (w64 ((List.length ((mH++[(Ze.mk c 0)])++[(Ze.mk c 1)]):Int)-1))) c 0) (Zd (ZbD (f:=Zh) (g:=Zh) zE (fun _ _=>rfl) (Zu zE (Zu zE mJ c (w64 ((List.length (mH++[(Ze.mk c 0)]):Int)-1))) c (w64 ((List.length ((mH++[(Ze.mk c 0)])++[(Ze.mk c 1)]):Int)-1))) c 0) (Zb _ Zan fun x51 _=>
  yG fun x52 _=>
  yG fun x53 _=>
  Zd (ZbD (f:=Zh) (g:=Zh) zE (fun _ _=>rfl) (Zu zE (Zu zE mJ c (w64 ((List.length (mH++[(Ze.mk c 0)]):Int)-1))) c (w64 ((List.length ((mH++[(Ze.mk c 0)])++[(Ze.mk c 1)]):Int)-1))) c 0) (Zd (Zd4 (f:=ZT) (g:=Zh) (fun ka kb:Zg=>((ka.maker==kb.maker)&&((ka.user==kb.user)&&((ka.pos==kb.pos)&&true)))) (fun _ _=>rfl) mM x53 (Z5 zE (Zu zE (Zu zE mJ c (w64 ((List.length (mH++[(Ze.mk c 0)]):Int)-1))) c (w64 ((List.length ((mH++[(Ze.mk c 0)])++[(Ze.mk c 1)]):Int)-1))) c 0)) (Zb _ (Zcy _) fun r66 _=>
  Zm rfl)))))))
  (Zb _ ZaB fun x67 _=>
  Zd (Zd4 (f:=Zh) (g:=Zh) zE (fun _ _=>rfl) (Zu zE mJ c (w64 ((List.length (mH++[(Ze.mk c 0)]):Int)-1))) c (w64 ((List.length ((mH++[(Ze.mk c 0)])++[(Ze.mk c 1)]):Int)-1))) (yT (Zd (ZbD (f:=Zh) (g:=Zh) zE (fun _ _=>rfl) (Zu zE (Zu zE mJ c (w64 ((List.length (mH++[(Ze.mk c 0)]):Int)-1))) c (w64 ((List.length ((mH++[(Ze.mk c 0)])++[(Ze.mk c 1)]):Int)-1))) c 0) (Zd (ZbD (f:=Zh) (g:=Zh) zE (fun _ _=>rfl) (Zu zE (Zu zE mJ c (w64 ((List.length (mH++[(Ze.mk c 0)]):Int)-1))) c (w64 ((List.length ((mH++[(Ze.mk c 0)])++[(Ze.mk c 1)]):Int)-1))) c 0) (Zb _ Zan fun x68 _=>
  yG fun x69 _=>
  yG fun x70 _=>
  Zd (ZbD (f:=Zh) (g:=Zh) zE (fun _ _=>rfl) (Zu zE (Zu zE mJ c (w64 ((List.length (mH++[(Ze.mk c 0)]):Int)-1))) c (w64 ((List.length ((mH++[(Ze.mk c 0)])++[(Ze.mk c 1)]):Int)-1))) c 0) (Zd (Zd4 (f:=ZT) (g:=Zh) (fun ka kb:Zg=>((ka.maker==kb.maker)&&((ka.user==kb.user)&&((ka.pos==kb.pos)&&true)))) (fun _ _=>rfl) mM x70 (Z5 zE (Zu zE (Zu zE mJ c (w64 ((List.length (mH++[(Ze.mk c 0)]):Int)-1))) c (w64 ((List.length ((mH++[(Ze.mk c 0)])++[(Ze.mk c 1)]):Int)-1))) c 0)) (Zb _ (Zcy _) fun r83 _=>
  Zm rfl)))))))))
  (Zm rfl)
def ZgQ (t0:Bool) (t1:Bool) (t2:Bool) (t3:Bool) (b:Zq) (c:Int) (mA:List Int) (mI:List Zi) (mH:List Ze) (mK:(List (Int×Int))) (mJ:(List (Int×Int))) (mM:(List (Zg×Int))) (x0:List Int):(((List (Int×Int))×(List (Zg×Int))×(List Int)×(List Zi)×(List Ze))⊕((List Int)⊕Unit))->Ex×List V×Zk
  | (.inl r)=>(.exit 0,[],[(.cells [(.sl 7 1),(.sl 8 2),(.sl 9 2),(.mp 4),(.mp 5),(.mp 6)]),.dead,.dead,.dead,(.mp (mpD Zh Zh (Zu zE mK c (mH.length:Int)))),(.mp (mpD Zh Zh r.1)),(.mp (mpD ZT Zh r.2.1)),(zA r.2.2.1),(.arr 2 (List.map Z4 r.2.2.2.1)),(.arr 2 (List.map Zby r.2.2.2.2))])
  | (.inr (.inl r))=>(.exit 0,[],[(.cells [(.sl 7 1),(.sl 2 2),(.sl 8 2),(.mp 4),(.mp 5),(.mp 6)]),.dead,(.arr 2 (List.map Z4 mI)),.dead,(.mp (mpD Zh Zh (Zu zE mK c (mH.length:Int)))),(.mp (mpD Zh Zh (Zu zE mJ c (w64 ((List.length (mH++[(Ze.mk c 0)]):Int)-1))))),(.mp (mpD ZT Zh mM)),(zA r),(.arr 2 (List.map Zby (mH++[(Ze.mk c 0)])))])
  | (.inr (.inr r))=>(.exit 0,[],[(.cells [(.sl 1 1),(.sl 2 2),(.sl 3 2),(.mp 4),(.mp 5),(.mp 6)]),(zA mA),(.arr 2 (List.map Z4 mI)),(.arr 2 (List.map Zby mH)),(.mp (mpD Zh Zh (Zu zE mK c (mH.length:Int)))),(.mp (mpD Zh Zh mJ)),(.mp (mpD ZT Zh mM))])
theorem Zjq {t0 t1:Bool}{t2 t3:Bool}{b:Zq}{c:Int}{mA:List Int}{mI:List Zi}{mH:List Ze}{mK:(List (Int×Int))}{mJ:(List (Int×Int))}{mM:(List (Zg×Int))}{x0:List Int}:∀(s1:Unit) (r:(((List (Int×Int))×(List (Zg×Int))×(List Int)×(List Zi)×(List Ze))⊕((List Int)⊕Unit))),lp (Zb7 b c mA mI mH mJ mM x0) s1=some r->lpW ctx 7 [0,2,4,6,7,26,27] [] ZtH [(.ptr 0 0),(zN c),(.ptr 7 0),(zN 0),(zV true x0),(zN (w64 ((x0.length:Int)+1))),(zN 0)] [(.cells [(.sl 1 1),(.sl 2 2),(.sl 3 2),(.mp 4),(.mp 5),(.mp 6)]),(zA mA),(.arr 2 (List.map Z4 mI)),(.arr 2 (List.map Zby mH)),(.mp (mpD Zh Zh (Zu zE mK c (mH.length:Int)))),(.mp (mpD Zh Zh mJ)),(.mp (mpD ZT Zh mM)),(.cells (dV t0 t1 t2 t3 b))]=some ((ZgQ t0 t1 t2 t3 b c mA mI mH mK mJ mM x0) r):=
 lpT (ZgQ t0 t1 t2 t3 b c mA mI mH mK mJ mM x0) fun s1 _ ih=>yB (yG fun x2 _=>
  Zf (Zv _ _) (yB (yG fun x3 _=>
  yG fun x4 _=>
  Zb _ ZaB fun x5 _=>
  Zd (Zd4 (f:=Zh) (g:=Zh) zE (fun _ _=>rfl) mJ c (w64 ((List.length (mH++[(Ze.mk c 0)]):Int)-1))) (yF (by
 conv=>rhs;whnf
 refine Zb _ (Zje _) fun r44 _=>?_
 rcases r44 with r44 | r44
 exact Zm rfl
 exact Zm rfl)))
  (Zb _ ZaB fun x45 _=>
  Zd (Zd4 (f:=Zh) (g:=Zh) zE (fun _ _=>rfl) mJ c (w64 ((List.length (mH++[(Ze.mk c 0)]):Int)-1))) (yF (by
 conv=>rhs;whnf
 refine Zb _ (Zjp _) fun r84 _=>?_
 rcases r84 with r84 | r84
 exact Zm rfl
 exact Zm rfl)))))
  (Zm rfl)
theorem Zms {t0 t1:Bool}{t2 t3:Bool}{b:Zq}{c:Int}{mA:List Int}{mI:List Zi}{mH:List Ze}{mK:(List (Int×Int))}{mJ:(List (Int×Int))}{mM:(List (Zg×Int))}:∀r,(Zfw b c mA mI mH mJ mM)=some r->evW ctx 82 [(.ptr 0 0),(.d (D.agg (dA t0 t1 t2 t3 b))),(zN c)] [(.cells [(.sl 1 1),(.sl 2 2),(.sl 3 2),(.mp 4),(.mp 5),(.mp 6)]),(zA mA),(.arr 2 (List.map Z4 mI)),(.arr 2 (List.map Zby mH)),(.mp (mpD Zh Zh mK)),(.mp (mpD Zh Zh mJ)),(.mp (mpD ZT Zh mM))]=some ((ZmN t0 t1 t2 t3 b c mA mI mH mK mJ mM) r):=
 evS ZIb rfl rfl <| Zf (Zv _ _) (Zd (Zd4 (f:=Zh) (g:=Zh) zE (fun _ _=>rfl) mK c (mH.length:Int)) (yC ZpV fun x0 _=>
  Zf (Zv _ _) (by
 conv=>rhs;whnf
 refine Zb _ (Zjq _) fun r85 _=>?_
 rcases r85 with r85 | (r85 | r85)
 exact yR
 exact yR
 exact yR)))
def ZrM (r:Bool):D:=(D.bool r)
theorem ZqA {a:Int}:∀r,(ZdC a)=some r->evD ctx 142 [(zN a)]=some (ZrM r):=
 evT ZDW rfl rfl <| yBr (yBr yR)
def Zf0 (r:Int):D:=(Zh r)
def Zb8 (t0:Bool) (a:List Int):(Int⊕Unit)->Ex×List V×Zk
  | (.inl r)=>(.ret,[(zN r)],[])
  | (.inr r)=>(.exit 0,[.bad],[])
theorem ZeO {t0:Bool}{a:List Int}:∀(s0:Int) (r:(Int⊕Unit)),lp (Zx a (fun z0=>ZdC z0)) s0=some r->lpW ctx 0 [0,1,7,8] [4] Zl7 [(zV t0 a),(.d (D.fn 142 [])),(zN (a.length:Int)),(zN s0)] []=some ((Zb8 t0 a) r):=
 lpT (Zb8 t0 a) fun s0 _ ih=>yB (yG fun x1 _=>
  yC ZqA fun x2 _=>
  yB (Zm rfl)
  (Zc (ih _)))
  (Zm rfl)
theorem ZfQ {t0:Bool}{a:List Int}:∀r,(ZG a (fun z0=>ZdC z0))=some r->evD ctx 94 [(zV t0 a),(.d (D.fn 142 []))]=some (Zf0 r):=
 evT Zuz rfl rfl <| Zf (Zv _ _) (by
 conv=>rhs;whnf
 refine Zb _ (ZeO _) fun r3 _=>?_
 rcases r3 with r3 | r3
 exact yR
 exact yR)
def Zfj (r:Bool):D:=(D.bool r)
theorem ZeQ {t0:Bool}{a:List Int}:∀r,(ZC a (fun z0=>ZdC z0))=some r->evD ctx 44 [(zV t0 a),(.d (D.fn 142 []))]=some (Zfj r):=
 evT ZxR rfl rfl <| yC ZfQ fun x0 _=>
  yBr yR
def ZrS (r:Bool):D:=(D.bool r)
theorem Zlm {t0 t1:Bool}{a:Int}{b0:List Int}{b1:List Zi}:∀r,(Zho a b0)=some r->evD ctx 143 [(zN a),(.d (D.rptr [(zL t0 b0),(zM t1 Z4 b1)]))]=some (ZrS r):=
 evT ZEm rfl rfl <| yB (Zf (Zv _ _) (yBr yR))
  yR
def Zuk (r:((List Int)×Bool)):D:=(D.tup [(zL true r.1),(D.bool r.2)])
def ZlQ (t0:Bool) (t1:Bool) (a:ZF) (s0:(List Int)×(List Bool)) (s1:Int):(Unit⊕Unit)->Ex×List V×Zk
  | (.inl r)=>(.exit 3,[(.ptr 0 0),(.sl 1 1),(.sl 2 1),(zN s1),(zN (a.work.length:Int)),(zN s1)],[(zK1 t0 a.work t1 a.edges),(zA s0.1),(.arr 1 (List.map D.bool s0.2))])
  | (.inr r)=>(.exit 4,[(.ptr 0 0),(.sl 1 1),(.sl 2 1),(zN s1),(zN (a.work.length:Int)),(zN s1)],[(zK1 t0 a.work t1 a.edges),(zA s0.1),(.arr 1 (List.map D.bool s0.2))])
theorem ZpL {t0 t1:Bool}{a:ZF}{s0:(List Int)×(List Bool)}{s1:Int}:∀(s3:Int) (r:(Unit⊕Unit)),lp (Zg3 a s0 s1) s3=some r->lpW ctx 0 [1,4,5,6,21,22,30,31,32] [1,4,5,6,21,22] Zz2 [(.ptr 0 0),(.sl 1 1),(.sl 2 1),(zN s1),(zN (a.work.length:Int)),(zN s1),(zW t1 Z4 a.edges),(zN (a.edges.length:Int)),(zN s3)] [(zK1 t0 a.work t1 a.edges),(zA s0.1),(.arr 1 (List.map D.bool s0.2))]=some ((ZlQ t0 t1 a s0 s1) r):=
 lpT (ZlQ t0 t1 a s0 s1) fun s3 _ ih=>yB (yG fun x4 _=>
  yB (yG fun x5 hx5=>
  Zd (Zp rfl hx5) (yB (Zc (ih _))
  (Zm rfl)))
  (Zc (ih _)))
  (Zm rfl)
def ZlF (t0:Bool) (t1:Bool) (a:ZF) (s0:(List Int)×(List Bool)):(((List Int)×(List Bool))⊕Unit)->Ex×List V×Zk
  | (.inl r)=>(.exit 1,[(.ptr 0 0),(.sl 1 1),(.sl 2 1)],[(zK1 t0 a.work t1 a.edges),(zA r.1),(.arr 1 (List.map D.bool r.2))])
  | (.inr r)=>(.exit 2,[(.ptr 0 0),(.sl 1 1),(.sl 2 1)],[(zK1 t0 a.work t1 a.edges),(zA s0.1),(.arr 1 (List.map D.bool s0.2))])
theorem ZpT {t0 t1:Bool}{a:ZF}{s0:(List Int)×(List Bool)}:∀(s1:Int) (r:(((List Int)×(List Bool))⊕Unit)),lp (Zfx a s0) s1=some r->lpW ctx 0 [1,4,5,21,22] [1,4,5] ZAB [(.ptr 0 0),(.sl 1 1),(.sl 2 1),(zN (a.work.length:Int)),(zN s1)] [(zK1 t0 a.work t1 a.edges),(zA s0.1),(.arr 1 (List.map D.bool s0.2))]=some ((ZlF t0 t1 a s0) r):=
 lpT (ZlF t0 t1 a s0) fun s1 _ ih=>yB (yG fun x2 hx2=>
  Zd (Zp rfl hx2) (yB (Zc (ih _))
  (Zf (Zv _ _) (by
 conv=>rhs;whnf
 refine Zb _ (ZpL _) fun r6 _=>?_
 rcases r6 with r6 | r6
 exact Zc (ih _)
 exact Zd (Zax rfl hx2) (Zd (Zp rfl hx2) (Zf (ZZ D.bool s0.2 s1.toNat true) (yT (Zbz (ZeV Zh s0.1 1) (Zf (ZeS Zh s0.1 [s1]) (Zm rfl))
  Zal))))))))
  (Zm rfl)
def Zli (t0:Bool) (t1:Bool) (a:ZF):((List Int)⊕(List Int))->Ex×List V×Zk
  | (.inl r)=>(.ret,[(.nilsl 1),(.d (D.bool false)),(.sl 0 1)],[(zA r)])
  | (.inr r)=>(.exit 0,[.bad,.bad,(.sl 0 1)],[(zA r)])
theorem Zqa {t0 t1:Bool}{a:ZF}:∀(s0:(List Int)×(List Bool)) (r:((List Int)⊕(List Int))),lp (Zg5 a) s0=some r->lpW ctx 0 [1,4,5] [2,3,4] Zz6 [(.ptr 0 0),(.sl 1 1),(.sl 2 1)] [(zK1 t0 a.work t1 a.edges),(zA s0.1),(.arr 1 (List.map D.bool s0.2))]=some ((Zli t0 t1 a) r):=
 lpT (Zli t0 t1 a) fun s0 _ ih=>Zf (Zv _ _) (Zf (Zv _ _) (yB (Zf (Zv _ _) (by
 conv=>rhs;whnf
 refine Zb _ (ZpT _) fun r7 _=>?_
 rcases r7 with r7 | r7
 exact Zc (ih _)
 exact Zm rfl))
  (Zm rfl)))
theorem Znf {t0 t1:Bool}{a:ZF}:∀r,(ZgN a)=some r->evD ctx 144 [(.d (zK2 t0 a.work t1 a.edges))]=some (Zuk r):=
 evT ZCF rfl rfl <| Zf (Zv _ _) (yBm (Zf (Zkt D.bool (false:Bool) (a.work.length:Int)) (by
 conv=>rhs;whnf
 refine Zb _ (Zqa _) fun r8 _=>?_
 rcases r8 with r8 | r8
 exact yR
 exact yR)))
def Zut (r:Int):D:=(Zh r)
def Zlo (t0:Bool) (t1:Bool) (a:ZF):(Unit⊕Unit)->Ex×List V×Zk
  | (.inl r)=>(.ret,[(.ptr 0 0),(zN 42)],[(zK1 t0 a.work t1 a.edges)])
  | (.inr r)=>(.exit 0,[(.ptr 0 0),.bad],[(zK1 t0 a.work t1 a.edges)])
theorem Zqc {t0 t1:Bool}{a:ZF}:∀(s1:Int) (r:(Unit⊕Unit)),lp (ZfR a) s1=some r->lpW ctx 0 [1,3,23,24,25] [1,2] ZDo [(.ptr 0 0),(.fn 143 [(.ptr 0 0)]),(zW t1 Z4 a.edges),(zN (a.edges.length:Int)),(zN s1)] [(zK1 t0 a.work t1 a.edges)]=some ((Zlo t0 t1 a) r):=
 lpT (Zlo t0 t1 a) fun s1 _ ih=>yB (yG fun x2 _=>
  yC Zlm fun x3 _=>
  yB (yC Zlm fun x4 _=>
  yB (yB (Zm rfl)
  (yBm (Zbz (Zxv Z4 a.edges s1.toNat) (yT (Zf (Zqb Z4 a.edges s1.toNat) (yC ZeR fun x5 _=>
  yB (Zm rfl)
  (Zc (ih _)))))
  Zal)))
  (Zm rfl))
  (Zm rfl))
  (Zm rfl)
theorem ZfO {t0 t1:Bool}{a:ZF}:∀r,(ZeP a)=some r->evD ctx 85 [(.d (zK2 t0 a.work t1 a.edges))]=some (Zut r):=
 evT ZHh rfl rfl <| Zf (Zv _ _) (yBr (Zf (Zv _ _) (yBr (yC ZeQ fun x0 _=>
  yBr (Zf (Zv _ _) (by
 conv=>rhs;whnf
 refine Zb _ (Zqc _) fun r6 _=>?_
 rcases r6 with r6 | r6
 exact yR
 exact yC Znf fun x7 _=>
  yBr yR))))))
def Zrw (r:(ZvT×Int)):D:=(D.tup [(D.agg [(zL true r.1.dag.work),(zM true Z4 r.1.dag.edges),(zM true Zby r.1.pieces)]),(Zh r.2)])
def ZjO (t0:Bool) (t1:Bool) (t2:Bool) (t3:Bool) (a:Zq):((List Int)×(List Zi)×(List Ze)×(List (Int×Int))×(List (Int×Int))×(List (Zg×Int)))->Ex×List V×Zk
  | r=>(.exit 0,[(.ptr 0 0),(.ptr 1 0),(.ptr 2 0)],[(.cells (dV t0 t1 t2 t3 a)),(zK7 ),(.cells [(.sl 6 1),(.sl 7 2),(.sl 8 2),(.mp 9),(.mp 10),(.mp 11)]),(.arr 1 []),(.arr 2 []),(.arr 2 []),(zA r.1),(.arr 2 (List.map Z4 r.2.1)),(.arr 2 (List.map Zby r.2.2.1)),(.mp (mpD Zh Zh r.2.2.2.1)),(.mp (mpD Zh Zh r.2.2.2.2.1)),(.mp (mpD ZT Zh r.2.2.2.2.2))])
theorem Zn3 {t0 t1:Bool}{t2 t3:Bool}{a:Zq}:∀(s1:Int×(List Int)×(List Zi)×(List Ze)×(List (Int×Int))×(List (Int×Int))×(List (Zg×Int))) (r:((List Int)×(List Zi)×(List Ze)×(List (Int×Int))×(List (Int×Int))×(List (Zg×Int)))),lp (ZcM a) s1=some r->lpW ctx 0 [1,2,5,31,32] [1,2,5] ZCG [(.ptr 0 0),(.ptr 1 0),(.ptr 2 0),(zN (a.parts.length:Int)),(zN s1.1)] [(.cells (dV t0 t1 t2 t3 a)),(zK7 ),(.cells [(.sl 6 1),(.sl 7 2),(.sl 8 2),(.mp 9),(.mp 10),(.mp 11)]),(.arr 1 []),(.arr 2 []),(.arr 2 []),(zA s1.2.1),(.arr 2 (List.map Z4 s1.2.2.1)),(.arr 2 (List.map Zby s1.2.2.2.1)),(.mp (mpD Zh Zh s1.2.2.2.2.1)),(.mp (mpD Zh Zh s1.2.2.2.2.2.1)),(.mp (mpD ZT Zh s1.2.2.2.2.2.2))]=some ((ZjO t0 t1 t2 t3 a) r):=
 lpT (ZjO t0 t1 t2 t3 a) fun s1 _ ih=>yB ((by
 conv=>rhs;whnf
 refine Zb _ Zms fun x2 _=>?_
 rcases x2 with x2 | (x2 | x2)
 exact Zc (ih _)
 exact Zc (ih _)
 exact Zc (ih _)))
  (Zm rfl)
def ZjM (t0:Bool) (t1:Bool) (t2:Bool) (t3:Bool) (a:Zq) (r3:((List Int)×(List Zi)×(List Ze)×(List (Int×Int))×(List (Int×Int))×(List (Zg×Int)))):(List Zi)->Ex×List V×Zk
  | r=>(.exit 2,[(.ptr 0 0),(.ptr 1 0),(.ptr 2 0)],[(.cells (dV t0 t1 t2 t3 a)),(zK7 ),(.cells [(.sl 6 1),(.sl 7 2),(.sl 8 2),(.mp 9),(.mp 10),(.mp 11)]),(.arr 1 []),(.arr 2 []),(.arr 2 []),(zA r3.1),(.arr 2 (List.map Z4 r)),(.arr 2 (List.map Zby r3.2.2.1)),(.mp (mpD Zh Zh r3.2.2.2.1)),(.mp (mpD Zh Zh r3.2.2.2.2.1)),(.mp (mpD ZT Zh r3.2.2.2.2.2))])
theorem Zn0 {t0 t1:Bool}{t2 t3:Bool}{a:Zq}{r3:((List Int)×(List Zi)×(List Ze)×(List (Int×Int))×(List (Int×Int))×(List (Zg×Int)))}:∀(s4:Int×(List Zi)) (r:List Zi),lp (ZdI a r3) s4=some r->lpW ctx 0 [1,2,5,41,42,43] [1,2,5] ZDb [(.ptr 0 0),(.ptr 1 0),(.ptr 2 0),(zW t1 Z4 a.edges),(zN (a.edges.length:Int)),(zN s4.1)] [(.cells (dV t0 t1 t2 t3 a)),(zK7 ),(.cells [(.sl 6 1),(.sl 7 2),(.sl 8 2),(.mp 9),(.mp 10),(.mp 11)]),(.arr 1 []),(.arr 2 []),(.arr 2 []),(zA r3.1),(.arr 2 (List.map Z4 s4.2)),(.arr 2 (List.map Zby r3.2.2.1)),(.mp (mpD Zh Zh r3.2.2.2.1)),(.mp (mpD Zh Zh r3.2.2.2.2.1)),(.mp (mpD ZT Zh r3.2.2.2.2.2))]=some ((ZjM t0 t1 t2 t3 a r3) r):=
 lpT (ZjM t0 t1 t2 t3 a r3) fun s4 _ ih=>yB (yG fun x5 _=>
  Zd (ZbD (f:=Zh) (g:=Zh) zE (fun _ _=>rfl) r3.2.2.2.2.1 x5.src 0) (Zd (ZbD (f:=Zh) (g:=Zh) zE (fun _ _=>rfl) r3.2.2.2.1 x5.dst 0) (Zb _ Zan fun x6 _=>
  Zc (ih _))))
  (Zm rfl)
def Zj4 (t0:Bool) (t1:Bool) (t2:Bool) (t3:Bool) (a:Zq) (r3:((List Int)×(List Zi)×(List Ze)×(List (Int×Int))×(List (Int×Int))×(List (Zg×Int)))):(List Zi)->Ex×List V×Zk
  | r=>(.exit 4,[(.ptr 0 0),(.ptr 1 0),(.ptr 2 0)],[(.cells (dV t0 t1 t2 t3 a)),(zK7 ),(.cells [(.sl 6 1),(.sl 7 2),(.sl 8 2),(.mp 9),(.mp 10),(.mp 11)]),(.arr 1 []),(.arr 2 []),(.arr 2 []),(zA r3.1),(.arr 2 (List.map Z4 r)),(.arr 2 (List.map Zby r3.2.2.1)),(.mp (mpD Zh Zh r3.2.2.2.1)),(.mp (mpD Zh Zh r3.2.2.2.2.1)),(.mp (mpD ZT Zh r3.2.2.2.2.2))])
theorem ZnY {t0 t1:Bool}{t2 t3:Bool}{a:Zq}{r3:((List Int)×(List Zi)×(List Ze)×(List (Int×Int))×(List (Int×Int))×(List (Zg×Int)))}:∀(s8:Int×(List Zi)) (r:List Zi),lp (ZdP a r3) s8=some r->lpW ctx 0 [1,2,5,65,66,67] [1,2,5] ZDc [(.ptr 0 0),(.ptr 1 0),(.ptr 2 0),(zW t2 ZT a.futures),(zN (a.futures.length:Int)),(zN s8.1)] [(.cells (dV t0 t1 t2 t3 a)),(zK7 ),(.cells [(.sl 6 1),(.sl 7 2),(.sl 8 2),(.mp 9),(.mp 10),(.mp 11)]),(.arr 1 []),(.arr 2 []),(.arr 2 []),(zA r3.1),(.arr 2 (List.map Z4 s8.2)),(.arr 2 (List.map Zby r3.2.2.1)),(.mp (mpD Zh Zh r3.2.2.2.1)),(.mp (mpD Zh Zh r3.2.2.2.2.1)),(.mp (mpD ZT Zh r3.2.2.2.2.2))]=some ((Zj4 t0 t1 t2 t3 a r3) r):=
 lpT (Zj4 t0 t1 t2 t3 a r3) fun s8 _ ih=>yB (yG fun x9 _=>
  Zd (ZbD (f:=Zh) (g:=Zh) zE (fun _ _=>rfl) r3.2.2.2.2.1 x9.maker 0) (Zd (ZbD (f:=ZT) (g:=Zh) (fun ka kb:Zg=>((ka.maker==kb.maker)&&((ka.user==kb.user)&&((ka.pos==kb.pos)&&true)))) (fun _ _=>rfl) r3.2.2.2.2.2 x9 0) (Zb _ Zan fun x10 _=>
  Zc (ih _))))
  (Zm rfl)
def Zj5 (t3:Bool) (a:Zq) (r3:((List Int)×(List Zi)×(List Ze)×(List (Int×Int))×(List (Int×Int))×(List (Zg×Int)))) (s12:Int×(List Int)×(List Zi)×(List Ze)) (x13:Zr):(List Zi)->Ex×List V×Zk
  | r=>(.exit 8,[(.ptr 0 0),(.ptr 1 0),(.ptr 2 0),(zN (w64 ((List.length (s12.2.2.2++[(Ze.mk (-1) s12.1)]):Int)-1))),(zW t3 ZcY a.barriers),(zN (a.barriers.length:Int)),(zN s12.1)],[(zK7 ),(.cells [(.sl 6 1),(.sl 7 2),(.sl 8 2),(.mp 9),(.mp 10),(.mp 11)]),(Zy5 true x13.ins true x13.outs),(.arr 1 []),(.arr 2 []),(.arr 2 []),(zA (s12.2.1++[1])),(.arr 2 (List.map Z4 r)),(.arr 2 (List.map Zby (s12.2.2.2++[(Ze.mk (-1) s12.1)]))),(.mp (mpD Zh Zh r3.2.2.2.1)),(.mp (mpD Zh Zh r3.2.2.2.2.1)),(.mp (mpD ZT Zh r3.2.2.2.2.2))])
theorem ZnZ {t3:Bool}{a:Zq}{r3:((List Int)×(List Zi)×(List Ze)×(List (Int×Int))×(List (Int×Int))×(List (Zg×Int)))}{s12:Int×(List Int)×(List Zi)×(List Ze)}{x13:Zr}:∀(s15:Int×(List Zi)) (r:List Zi),lp (ZfA r3 s12 x13) s15=some r->lpW ctx 0 [2,5,12,13,88,89,90,100,101,102] [2,5,12,13,88,89,90] ZCY [(.ptr 0 0),(.ptr 1 0),(.ptr 2 0),(zN (w64 ((List.length (s12.2.2.2++[(Ze.mk (-1) s12.1)]):Int)-1))),(zW t3 ZcY a.barriers),(zN (a.barriers.length:Int)),(zN s12.1),(zV true x13.ins),(zN (x13.ins.length:Int)),(zN s15.1)] [(zK7 ),(.cells [(.sl 6 1),(.sl 7 2),(.sl 8 2),(.mp 9),(.mp 10),(.mp 11)]),(Zy5 true x13.ins true x13.outs),(.arr 1 []),(.arr 2 []),(.arr 2 []),(zA (s12.2.1++[1])),(.arr 2 (List.map Z4 s15.2)),(.arr 2 (List.map Zby (s12.2.2.2++[(Ze.mk (-1) s12.1)]))),(.mp (mpD Zh Zh r3.2.2.2.1)),(.mp (mpD Zh Zh r3.2.2.2.2.1)),(.mp (mpD ZT Zh r3.2.2.2.2.2))]=some ((Zj5 t3 a r3 s12 x13) r):=
 lpT (Zj5 t3 a r3 s12 x13) fun s15 _ ih=>yB (yG fun x16 _=>
  Zd (ZbD (f:=Zh) (g:=Zh) zE (fun _ _=>rfl) r3.2.2.2.2.1 x16 0) (Zb _ Zan fun x17 _=>
  Zc (ih _)))
  (Zm rfl)
def ZjU (t3:Bool) (a:Zq) (r3:((List Int)×(List Zi)×(List Ze)×(List (Int×Int))×(List (Int×Int))×(List (Zg×Int)))) (s12:Int×(List Int)×(List Zi)×(List Ze)) (x13:Zr):(List Zi)->Ex×List V×Zk
  | r=>(.exit 10,[(.ptr 0 0),(.ptr 1 0),(zW t3 ZcY a.barriers),(zN (a.barriers.length:Int)),(zN s12.1)],[(.cells [(.sl 2 1),(.sl 3 2),(.sl 4 2)]),(.cells [(.sl 5 1),(.sl 6 2),(.sl 7 2),(.mp 8),(.mp 9),(.mp 10)]),(.arr 1 []),(.arr 2 []),(.arr 2 []),(zA (s12.2.1++[1])),(.arr 2 (List.map Z4 r)),(.arr 2 (List.map Zby (s12.2.2.2++[(Ze.mk (-1) s12.1)]))),(.mp (mpD Zh Zh r3.2.2.2.1)),(.mp (mpD Zh Zh r3.2.2.2.2.1)),(.mp (mpD ZT Zh r3.2.2.2.2.2))])
theorem Zn5 {t3:Bool}{a:Zq}{r3:((List Int)×(List Zi)×(List Ze)×(List (Int×Int))×(List (Int×Int))×(List (Zg×Int)))}{s12:Int×(List Int)×(List Zi)×(List Ze)}{x13:Zr}:∀(s19:Int×(List Zi)) (r:List Zi),lp (ZfC r3 s12 x13) s19=some r->lpW ctx 0 [2,5,13,88,89,90,117,118,119] [2,5,88,89,90] ZD5 [(.ptr 0 0),(.ptr 1 0),(zN (w64 ((List.length (s12.2.2.2++[(Ze.mk (-1) s12.1)]):Int)-1))),(zW t3 ZcY a.barriers),(zN (a.barriers.length:Int)),(zN s12.1),(zV true x13.outs),(zN (x13.outs.length:Int)),(zN s19.1)] [(.cells [(.sl 2 1),(.sl 3 2),(.sl 4 2)]),(.cells [(.sl 5 1),(.sl 6 2),(.sl 7 2),(.mp 8),(.mp 9),(.mp 10)]),(.arr 1 []),(.arr 2 []),(.arr 2 []),(zA (s12.2.1++[1])),(.arr 2 (List.map Z4 s19.2)),(.arr 2 (List.map Zby (s12.2.2.2++[(Ze.mk (-1) s12.1)]))),(.mp (mpD Zh Zh r3.2.2.2.1)),(.mp (mpD Zh Zh r3.2.2.2.2.1)),(.mp (mpD ZT Zh r3.2.2.2.2.2))]=some ((ZjU t3 a r3 s12 x13) r):=
 lpT (ZjU t3 a r3 s12 x13) fun s19 _ ih=>yB (yG fun x20 _=>
  Zd (ZbD (f:=Zh) (g:=Zh) zE (fun _ _=>rfl) r3.2.2.2.1 x20 0) (Zb _ Zan fun x21 _=>
  Zc (ih _)))
  (Zm rfl)
def ZjQ (t3:Bool) (a:Zq) (r3:((List Int)×(List Zi)×(List Ze)×(List (Int×Int))×(List (Int×Int))×(List (Zg×Int)))):((List Int)×(List Zi)×(List Ze))->Ex×List V×Zk
  | r=>(.exit 6,[(.ptr 0 0),(.ptr 1 0)],[(.cells [(.sl 2 1),(.sl 3 2),(.sl 4 2)]),(.cells [(.sl 5 1),(.sl 6 2),(.sl 7 2),(.mp 8),(.mp 9),(.mp 10)]),(.arr 1 []),(.arr 2 []),(.arr 2 []),(zA r.1),(.arr 2 (List.map Z4 r.2.1)),(.arr 2 (List.map Zby r.2.2)),(.mp (mpD Zh Zh r3.2.2.2.1)),(.mp (mpD Zh Zh r3.2.2.2.2.1)),(.mp (mpD ZT Zh r3.2.2.2.2.2))])
theorem Zob {t3:Bool}{a:Zq}{r3:((List Int)×(List Zi)×(List Ze)×(List (Int×Int))×(List (Int×Int))×(List (Zg×Int)))}:∀(s12:Int×(List Int)×(List Zi)×(List Ze)) (r:((List Int)×(List Zi)×(List Ze))),lp (ZdL a r3) s12=some r->lpW ctx 0 [2,5,88,89,90] [2,5] ZDq [(.ptr 0 0),(.ptr 1 0),(zW t3 ZcY a.barriers),(zN (a.barriers.length:Int)),(zN s12.1)] [(.cells [(.sl 2 1),(.sl 3 2),(.sl 4 2)]),(.cells [(.sl 5 1),(.sl 6 2),(.sl 7 2),(.mp 8),(.mp 9),(.mp 10)]),(.arr 1 []),(.arr 2 []),(.arr 2 []),(zA s12.2.1),(.arr 2 (List.map Z4 s12.2.2.1)),(.arr 2 (List.map Zby s12.2.2.2)),(.mp (mpD Zh Zh r3.2.2.2.1)),(.mp (mpD Zh Zh r3.2.2.2.2.1)),(.mp (mpD ZT Zh r3.2.2.2.2.2))]=some ((ZjQ t3 a r3) r):=
 lpT (ZjQ t3 a r3) fun s12 _ ih=>yB (yG fun x13 _=>
  Zb _ ZaB fun x14 _=>
  Zf (Zv _ _) (Zb _ (ZnZ _) fun r18 _=>
  Zf (Zv _ _) (Zb _ (Zn5 _) fun r22 _=>
  Zc (ih _))))
  (Zm rfl)
theorem Zlw {t0 t1:Bool}{t2 t3:Bool}{a:Zq}:∀r,(Zhs a)=some r->evD ctx 39 [(.d (D.agg (dA t0 t1 t2 t3 a)))]=some (Zrw r):=
 evT ZHa rfl rfl <| yC ZmE fun x0 _=>
  yBr (Zf (Zv _ _) (Zb _ (Zn3 _) fun r3 _=>
  Zf (Zv _ _) (Zb _ (Zn0 _) fun r7 _=>
  Zf (Zv _ _) (Zb _ (ZnY _) fun r11 _=>
  Zf (Zv _ _) (Zb _ (Zob _) fun r23 _=>
  yC ZfO fun x24 _=>
  yBr yR)))))
def Zuj (r:Int):D:=(Zh r)
def Zlu (t0:Bool) (a:ZF):Int->Ex×List V×Zk
  | r=>(.exit 0,[(zN r)],[])
theorem ZpC {t0:Bool}{a:ZF}:∀(s1:Int×Int) (r:Int),lp (ZgO a) s1=some r->lpW ctx 0 [3,10,11,12] [3] ZCS [(zN s1.1),(zV t0 a.work),(zN (a.work.length:Int)),(zN s1.2)] []=some ((Zlu t0 a) r):=
 lpT (Zlu t0 a) fun s1 _ ih=>yB (yG fun x2 _=>
  Zc (ih _))
  (Zm rfl)
theorem ZtV {t0 t1:Bool}{a:ZF}:∀r,(Zkl a)=some r->evD ctx 74 [(.d (zK2 t0 a.work t1 a.edges))]=some (Zuj r):=
 evT ZHV rfl rfl <| yC ZfO fun x0 _=>
  yB (Zf (Zv _ _) (Zb _ (ZpC _) fun r3 _=>
  yR))
  yR
def Zuu (r:List Int):D:=(zL true r)
theorem Zsg {t0 t1:Bool}{a:ZF}:∀r,(Zko a)=some r->evD ctx 128 [(.d (zK2 t0 a.work t1 a.edges))]=some (Zuu r):=
 evT ZD2 rfl rfl <| yC ZfO fun x0 _=>
  yBr (yC Znf fun x1 _=>
  yBr yR)
def ZrK (r:(Int×Bool)):D:=(D.tup [(Zh r.1),(D.bool r.2)])
theorem Zqw {a:Zi}{b0:Int}:∀r,(Zgs a b0)=some r->evD ctx 172 [(.d (zK4 a.src a.dst)),(.d (D.rptr [(Zh b0)]))]=some (ZrK r):=
 evT ZC2 rfl rfl <| yBr yR
def Zki (mG:List Int):(List Int)->V×Zk
  | r=>((.d (D.tup [])),[(zA r)])
theorem ZdZ {mG:List Int}:∀r,(Zcj mG)=some r->evW ctx 146 [(.sl 0 1)] [(zA mG)]=some ((Zki mG) r):=
 evS ZG9 rfl rfl <| Zd (Zx6 rfl) (yBm (ZEG yR))
def Zk7 (r:List Int):D:=(zL true r)
def ZgF (t1:Bool) (a:ZF) (b0:Int):(List Int)->Ex×List V×Zk
  | r=>(.exit 0,[(.sl 0 1)],[(zA r)])
theorem Zi2 {t1:Bool}{a:ZF}{b0:Int}:∀(s0:Int×(List Int)) (r:List Int),lp (Zdw a (fun z0=>Zgs z0 b0)) s0=some r->lpW ctx 0 [1,5,11,12,13] [5] ZwC [(.d (D.fn 172 [(D.rptr [(Zh b0)])])),(.sl 0 1),(zW t1 Z4 a.edges),(zN (a.edges.length:Int)),(zN s0.1)] [(zA s0.2)]=some ((ZgF t1 a b0) r):=
 lpT (ZgF t1 a b0) fun s0 _ ih=>yB (yG fun x1 _=>
  yC Zqw fun x2 _=>
  yB (yT (Zbz (ZeV Zh s0.2 1) (Zf (ZeS Zh s0.2 [x2.1]) (Zc (ih _)))
  Zal))
  (Zc (ih _)))
  (Zm rfl)
theorem Zke {t0 t1:Bool}{a:ZF}{b0:Int}:∀r,(Zjw a (fun z0=>Zgs z0 b0))=some r->evD ctx 149 [(.d (zK2 t0 a.work t1 a.edges)),(.d (D.fn 172 [(D.rptr [(Zh b0)])]))]=some (Zk7 r):=
 evT ZAA rfl rfl <| Zf (Zv _ _) (Zb _ (Zi2 _) fun r3 _=>
  Zb _ ZdZ fun x4 _=>
  yR)
def Zuq (r:List Int):D:=(zL true r)
theorem Zsj {t0 t1:Bool}{a:ZF}{b:Int}:∀r,(Zku a b)=some r->evD ctx 129 [(.d (zK2 t0 a.work t1 a.edges)),(zN b)]=some (Zuq r):=
 evT ZEn rfl rfl <| yC Zke fun x0 _=>
  yR
def Zwv (r:Int):D:=(Zh r)
def ZmG (t0:Bool) (t1:Bool) (a:ZF) (x0:List Int) (s1:Int×Int×(List Int)) (x2:Int) (x3:List Int):(List Int)->Ex×List V×Zk
  | r=>(.exit 2,[(.ptr 0 0),(.sl 1 1),(zN s1.1),(zN x2),(zV true x0),(zN (x0.length:Int)),(zN s1.2.1)],[(zK1 t0 a.work t1 a.edges),(zA r)])
theorem ZqR {t0 t1:Bool}{a:ZF}{x0:List Int}{s1:Int×Int×(List Int)}{x2:Int}{x3:List Int}:∀(s4:Int×(List Int)) (r:List Int),lp (Zgy x2 x3) s4=some r->lpW ctx 0 [1,3,4,6,14,15,16,22,23,24] [1,3,4,6,14,15,16] ZC4 [(.ptr 0 0),(.sl 1 1),(zN s1.1),(zN x2),(zV true x0),(zN (x0.length:Int)),(zN s1.2.1),(zV true x3),(zN (x3.length:Int)),(zN s4.1)] [(zK1 t0 a.work t1 a.edges),(zA s4.2)]=some ((ZmG t0 t1 a x0 s1 x2 x3) r):=
 lpT (ZmG t0 t1 a x0 s1 x2 x3) fun s4 _ ih=>yB (yG fun x5 _=>
  yG fun x6 hx6=>
  Zd (Zp rfl hx6) (yG fun x7 hx7=>
  Zd (Zp rfl hx7) (Zd (Zax rfl hx6) (Zd (Zp rfl hx6) (Zf (ZZ Zh s4.2 x2.toNat (bif decide (x6<x7) then x7 else x6)) (Zc (ih _)))))))
  (Zm rfl)
def ZmI (t0:Bool) (t1:Bool) (a:ZF) (x0:List Int):Int->Ex×List V×Zk
  | r=>(.exit 0,[(zN r)],[])
theorem Zq0 {t0 t1:Bool}{a:ZF}{x0:List Int}:∀(s1:Int×Int×(List Int)) (r:Int),lp (ZgA a x0) s1=some r->lpW ctx 0 [1,3,4,14,15,16] [4] ZDD [(.ptr 0 0),(.sl 1 1),(zN s1.1),(zV true x0),(zN (x0.length:Int)),(zN s1.2.1)] [(zK1 t0 a.work t1 a.edges),(zA s1.2.2)]=some ((ZmI t0 t1 a x0) r):=
 lpT (ZmI t0 t1 a x0) fun s1 _ ih=>yB (yG fun x2 _=>
  yC Zsj fun x3 _=>
  Zf (Zv _ _) (Zb _ (ZqR _) fun r8 _=>
  yG fun x9 hx9=>
  Zd (Zp rfl hx9) (yG fun x10 _=>
  Zd (Zax rfl hx9) (Zd (Zp rfl hx9) (Zf (ZZ Zh r8 x2.toNat (w64 (x9+x10))) (yG fun x11 hx11=>
  Zd (Zp rfl hx11) (Zc (ih _))))))))
  (Zm rfl)
theorem Zux {t0 t1:Bool}{a:ZF}:∀r,(Zl5 a)=some r->evD ctx 75 [(.d (zK2 t0 a.work t1 a.edges))]=some (Zwv r):=
 evT ZHB rfl rfl <| Zf (Zv _ _) (yBm (Zf (Zkt Zh (0:Int) (a.work.length:Int)) (yC Zsg fun x0 _=>
  Zf (Zv _ _) (Zb _ (Zq0 _) fun r12 _=>
  yR))))
def ZkY (r:Int):D:=(Zh r)
def ZgL (t0:Bool) (a:List Int):Int->Ex×List V×Zk
  | r=>(.exit 0,[(zN r)],[])
theorem Zi4 {t0:Bool}{a:List Int}:∀(s1:Int×Int) (r:Int),lp (Zbf a) s1=some r->lpW ctx 0 [0,3,4] [3] ZCs [(zV t0 a),(zN s1.1),(zN s1.2)] []=some ((ZgL t0 a) r):=
 lpT (ZgL t0 a) fun s1 _ ih=>Zf (Zv _ _) (yB (yG fun x2 _=>
  Zc (ih _))
  (Zm rfl))
theorem Zkf {t0:Bool}{a:List Int}:∀r,(Zcs a)=some r->evD ctx 79 [(zV t0 a)]=some (ZkY r):=
 evT ZHr rfl rfl <| Zf (Zv _ _) (yBn (yG fun x0 _=>
  Zb _ (Zi4 _) fun r3 _=>
  yR))
def Zrs (r:(Zd6×Int)):D:=(D.tup [(zK8 r.1.total r.1.long r.1.most r.1.deadline r.1.period),(Zh r.2)])
theorem ZqL {t0 t1:Bool}{t2 t3:Bool}{a:Zq}:∀r,(Zhl a)=some r->evD ctx 36 [(.d (D.agg (dA t0 t1 t2 t3 a)))]=some (Zrs r):=
 evT ZIe rfl rfl <| yC Zlw fun x0 _=>
  yBr (yC ZtV fun x1 _=>
  yC Zux fun x2 _=>
  yC Zkf fun x3 _=>
  yR)
def Zpc (r:Bool):D:=(D.bool r)
theorem Zgi {a b:Int}:∀r,(Zdh a b)=some r->evD ctx 131 [(zN a),(zN b)]=some (Zpc r):=
 evT ZES rfl rfl <| yB (yBr yR)
  yR
def Zrz (r:Int):D:=(Zh r)
theorem Zq6 {a:Zd6}:∀r,(ZiA a)=some r->evD ctx 78 [(.d (zK8 a.total a.long a.most a.deadline a.period))]=some (Zrz r):=
 evT ZIh rfl rfl <| yC Zjm fun x0 _=>
  yB (yBr (yC Zgi fun x1 _=>
  yB (yC Zgi fun x2 _=>
  yB (yC Zgi fun x3 _=>
  yB (yC Zgi fun x4 _=>
  yBr yR)
  yR)
  yR)
  yR))
  yR
def Zv0 (a:Zd6):(Unit⊕Unit)->D
  | (.inl r)=>(D.iface 193 (zK8 a.total a.long a.most a.deadline a.period))
  | (.inr r)=>(D.iface 192 (zK8 a.total a.long a.most a.deadline a.period))
theorem Zuf {a:Zd6}:∀r,(ZoH a)=some r->evD ctx 80 [(.d (zK8 a.total a.long a.most a.deadline a.period))]=some ((Zv0 a) r):=
 evT ZIk rfl rfl <| yBr yR
def Zwn (r:Int):D:=(Zh r)
theorem Zul {a0:Int}:∀r,(Zmd a0)=some r->evD ctx 242 [(.d (D.rptr [(Zh a0)]))]=some (Zwn r):=
 evT ZEI rfl rfl <| yR
def Zry (r:Bool):D:=(D.bool r)
theorem Zqo {a:Int}:∀r,(ZcO a)=some r->evD ctx 244 [(zN a)]=some (Zry r):=
 evT ZEC rfl rfl <| yC ZhT fun x0 _=>
  yBr yR
def ZfX (r:Int):D:=(Zh r)
def Zb9 (t0:Bool) (a:List Int):(Int⊕Unit)->Ex×List V×Zk
  | (.inl r)=>(.ret,[(zN r)],[])
  | (.inr r)=>(.exit 0,[.bad],[])
theorem ZeN {t0:Bool}{a:List Int}:∀(s0:Int) (r:(Int⊕Unit)),lp (Zx a (fun z0=>ZcO z0)) s0=some r->lpW ctx 0 [0,1,7,8] [4] Zl7 [(zV t0 a),(.d (D.fn 244 [])),(zN (a.length:Int)),(zN s0)] []=some ((Zb9 t0 a) r):=
 lpT (Zb9 t0 a) fun s0 _ ih=>yB (yG fun x1 _=>
  yC Zqo fun x2 _=>
  yB (Zm rfl)
  (Zc (ih _)))
  (Zm rfl)
theorem ZfJ {t0:Bool}{a:List Int}:∀r,(ZG a (fun z0=>ZcO z0))=some r->evD ctx 94 [(zV t0 a),(.d (D.fn 244 []))]=some (ZfX r):=
 evT Zuz rfl rfl <| Zf (Zv _ _) (by
 conv=>rhs;whnf
 refine Zb _ (ZeN _) fun r3 _=>?_
 rcases r3 with r3 | r3
 exact yR
 exact yR)
def Zue (r:Int):D:=(Zh r)
theorem ZsH {t0:Bool}{a:List Int}:∀r,(ZkO a)=some r->evD ctx 243 [(zV t0 a)]=some (Zue r):=
 evT ZDN rfl rfl <| yC ZfJ fun x0 _=>
  yBr (yG fun x1 _=>
  yC ZhT fun x2 _=>
  yR)
def ZjX (r:(Int×Int)):D:=(D.tup [(Zh r.1),(Zh r.2)])
theorem Zjv {a b c0:Int}:∀r,(Zj7 a b (Zmd c0))=some r->evD ctx 241 [(zN a),(zN b),(.d (D.fn 242 [(D.rptr [(Zh c0)])]))]=some (ZjX r):=
 evT ZDL rfl rfl <| yC ZsH fun x0 _=>
  yBr (yBr (yC Zul fun x1 _=>
  yBn yR))
def ZyP (r:(Int×Int)):D:=(D.tup [(Zh r.1),(Zh r.2)])
theorem Zx8 {a b:Int}:∀r,(Zpf a b)=some r->evD ctx 240 [(zN a),(zN b)]=some (ZyP r):=
 evT ZDs rfl rfl <| yC Zjv fun x0 _=>
  yR
def ZnB (r:Zhn):D:=(zK4 r.cores r.e)
theorem ZmP {a:Zyw}:∀r,(ZhD a)=some r->evD ctx 239 [(.d (zK8 a.shape.total a.shape.long a.shape.most a.shape.deadline a.shape.period))]=some (ZnB r):=
 evT ZEz rfl rfl <| yBr (yC Zx8 fun x0 _=>
  yB (yBr yR)
  yR)
def Zm6 (r:Zhn):D:=(zK4 r.cores r.e)
theorem ZmT {a:Zza}:∀r,(Zj9 a)=some r->evD ctx 130 [(.d (zK8 a.shape.total a.shape.long a.shape.most a.shape.deadline a.shape.period))]=some (Zm6 r):=
 evT ZDP rfl rfl <| yR
def ZrV (r:(Int×Int)):D:=(D.tup [(Zh r.1),(Zh r.2)])
theorem ZqT {a:Zd6}:∀r,(ZiC a)=some r->evD ctx 38 [(.d (zK8 a.total a.long a.most a.deadline a.period))]=some (ZrV r):=
 evT ZHc rfl rfl <| yC Zq6 fun x0 _=>
  yBr (by
 conv=>rhs;whnf
 refine yC Zuf fun x1 _=>?_
 rcases x1 with x1 | x1
 exact yC ZmP fun x2 _=>
  yR
 exact yC ZmT fun x3 _=>
  yR)
def Zp8 (r:Bool):D:=(D.bool r)
theorem Zo5 {a:Int}:∀r,(Zde a)=some r->evD ctx 127 [(zN a)]=some (Zp8 r):=
 evT ZD3 rfl rfl <| yBr (yBr yR)
def Zfv (r:Int):D:=(Zh r)
def ZbX (t0:Bool) (a:List Int):(Int⊕Unit)->Ex×List V×Zk
  | (.inl r)=>(.ret,[(zN r)],[])
  | (.inr r)=>(.exit 0,[.bad],[])
theorem Zel {t0:Bool}{a:List Int}:∀(s0:Int) (r:(Int⊕Unit)),lp (Zx a (fun z0=>Zde z0)) s0=some r->lpW ctx 0 [0,1,7,8] [4] Zl7 [(zV t0 a),(.d (D.fn 127 [])),(zN (a.length:Int)),(zN s0)] []=some ((ZbX t0 a) r):=
 lpT (ZbX t0 a) fun s0 _ ih=>yB (yG fun x1 _=>
  yC Zo5 fun x2 _=>
  yB (Zm rfl)
  (Zc (ih _)))
  (Zm rfl)
theorem Zfk {t0:Bool}{a:List Int}:∀r,(ZG a (fun z0=>Zde z0))=some r->evD ctx 94 [(zV t0 a),(.d (D.fn 127 []))]=some (Zfv r):=
 evT Zuz rfl rfl <| Zf (Zv _ _) (by
 conv=>rhs;whnf
 refine Zb _ (Zel _) fun r3 _=>?_
 rcases r3 with r3 | r3
 exact yR
 exact yR)
def Zev (r:Bool):D:=(D.bool r)
theorem Zem {t0:Bool}{a:List Int}:∀r,(ZC a (fun z0=>Zde z0))=some r->evD ctx 44 [(zV t0 a),(.d (D.fn 127 []))]=some (Zev r):=
 evT ZxR rfl rfl <| yC Zfk fun x0 _=>
  yBr yR
def ZrB (r:(Bool×Int)):D:=(D.tup [(D.bool r.1),(Zh r.2)])
theorem ZqI {t0 t1 t2:Bool}{a:ZF}{b:List Int}{c:Int}:∀r,(ZiD a b c)=some r->evD ctx 73 [(.d (zK2 t0 a.work t1 a.edges)),(zV t2 b),(zN c)]=some (ZrB r):=
 evT ZHp rfl rfl <| yC ZfO fun x0 _=>
  yBr (Zf (Zv _ _) (Zf (Zv _ _) (yB (yC Zem fun x1 _=>
  yBr (yB (yBr yR)
  yR))
  yR)))
def Zqi (r:Bool):D:=(D.bool r)
theorem Zp1 {t0:Bool}{a:List Int}{b0:Int}:∀r,(ZfF a b0)=some r->evD ctx 118 [(zV t0 a),(.d (D.rptr [(Zh b0)]))]=some (Zqi r):=
 evT ZD1 rfl rfl <| Zf (Zv _ _) (yBr yR)
def Zfn (r:Int):D:=(Zh r)
def ZbS (t0:Bool) (a:(List (List Int))) (b0:Int):(Int⊕Unit)->Ex×List V×Zk
  | (.inl r)=>(.ret,[(zN r)],[])
  | (.inr r)=>(.exit 0,[.bad],[])
theorem Zed {t0:Bool}{a:(List (List Int))}{b0:Int}:∀(s0:Int) (r:(Int⊕Unit)),lp (Zes a (fun z0=>ZfF z0 b0)) s0=some r->lpW ctx 0 [0,1,7,8] [4] ZAe [(.d (D.list t0 (List.map (Zf3 true) a))),(.d (D.fn 118 [(D.rptr [(Zh b0)])])),(zN (a.length:Int)),(zN s0)] []=some ((ZbS t0 a b0) r):=
 lpT (ZbS t0 a b0) fun s0 _ ih=>yB (yG fun x1 _=>
  yC Zp1 fun x2 _=>
  yB (Zm rfl)
  (Zc (ih _)))
  (Zm rfl)
theorem Ze4 {t0:Bool}{a:(List (List Int))}{b0:Int}:∀r,(ZcK a (fun z0=>ZfF z0 b0))=some r->evD ctx 170 [(.d (D.list t0 (List.map (Zf3 true) a))),(.d (D.fn 118 [(D.rptr [(Zh b0)])]))]=some (Zfn r):=
 evT ZC9 rfl rfl <| Zf (Zv _ _) (by
 conv=>rhs;whnf
 refine Zb _ (Zed _) fun r3 _=>?_
 rcases r3 with r3 | r3
 exact yR
 exact yR)
def Zej (r:Bool):D:=(D.bool r)
theorem Zd0 {t0:Bool}{a:(List (List Int))}{b0:Int}:∀r,(Zbs a (fun z0=>ZfF z0 b0))=some r->evD ctx 119 [(.d (D.list t0 (List.map (Zf3 true) a))),(.d (D.fn 118 [(D.rptr [(Zh b0)])]))]=some (Zej r):=
 evT ZDT rfl rfl <| yC Ze4 fun x0 _=>
  yBr yR
end Go.Proofs.YtgcfmiajkbbmeaaGreatDoor
namespace Go.Proofs.YtgcfmiajkbbmeaaGreatDoor
open Go Go.Proofs.YtgcfmiajkbbmeaaGreatDoorE
open Go.IntKind (u64 i64 u32 i32 u8)
def ZrA (t0:Bool) (a:List Int):(List Int)->V×Zk
  | r=>((.ptr 0 0),[(zK5 t0 a),(zA (List.replicate (a.length:Int).toNat (0:Int))),(.arr 2 (List.map Zii (List.replicate (a.length:Int).toNat ((Zbv.mk 0 0):Zbv)))),(zA r)])
def Zka (t0:Bool) (a:List Int):(List Int)->Ex×List V×Zk
  | r=>(.exit 0,[(.ptr 0 0)],[(zK5 t0 a),(zA (List.replicate (a.length:Int).toNat (0:Int))),(.arr 2 (List.map Zii (List.replicate (a.length:Int).toNat ((Zbv.mk 0 0):Zbv)))),(zA r)])
theorem Zn4 {t0:Bool}{a:List Int}:∀(s0:Int×(List Int)) (r:List Int),lp (ZcE a) s0=some r->lpW ctx 0 [3,18,19] [3] ZAh [(.ptr 0 0),(zN (a.length:Int)),(zN s0.1)] [(zK5 t0 a),(zA (List.replicate (a.length:Int).toNat (0:Int))),(.arr 2 (List.map Zii (List.replicate (a.length:Int).toNat ((Zbv.mk 0 0):Zbv)))),(zA s0.2)]=some ((Zka t0 a) r):=
 lpT (Zka t0 a) fun s0 _ ih=>yB (yG fun x1 hx1=>
  Zd (Zp rfl hx1) (Zf (ZZ Zh s0.2 s0.1.toNat (-1)) (Zc (ih _))))
  (Zm rfl)
theorem ZqV {t0:Bool}{a:List Int}:∀r,(Zix a)=some r->evW ctx 120 [(zV t0 a)] []=some ((ZrA t0 a) r):=
 evS ZDK rfl rfl <| Zf (Zv _ _) (yBm (Zf (Zkt Zh (0:Int) (a.length:Int)) (Zf (Zv _ _) (yBm (Zf (Zkt Zii ((Zbv.mk 0 0):Zbv) (a.length:Int)) (Zf (Zv _ _) (yBm (Zf (Zkt Zh (0:Int) (a.length:Int)) (Zf (Zv _ _) (Zb _ (Zn4 _) fun r2 _=>
  yR))))))))))
def Zn1 (r:Bool):D:=(D.bool r)
theorem ZnE {t0 t1:Bool}{t2 t3:Bool}{a0:List Int}{a1:List Int}{a2:List Zbv}{a3:List Int}{b c:Int}:∀r,(Zkq a3 b c)=some r->evD ctx 126 [(.d (Zyk t0 a0 t1 a1 t2 a2 t3 a3)),(zN b),(zN c)]=some (Zn1 r):=
 evT ZDZ rfl rfl <| yG fun x0 hx0=>
  yB (Zd (Zax rfl hx0) (yBr yR))
  yR
def ZmS (r:Bool):D:=(D.bool r)
theorem Zmo {t0 t1:Bool}{t2 t3:Bool}{a:Zi}{b0:Int}{c0:List Int}{c1:List Int}{c2:List Zbv}{c3:List Int}{d0:Int}:∀r,(Zdm a b0 c3 d0)=some r->evD ctx 125 [(.d (zK4 a.src a.dst)),(.d (D.rptr [(Zh b0)])),(.d (D.rptr [(Zyk t0 c0 t1 c1 t2 c2 t3 c3)])),(.d (D.rptr [(Zh d0)]))]=some (ZmS r):=
 evT ZDB rfl rfl <| yB (yC ZnE fun x0 _=>
  yBr yR)
  yR
def ZdN (r:Int):D:=(Zh r)
def Zbm (t0:Bool) (t1:Bool) (t2:Bool) (t3:Bool) (t4:Bool) (a:List Zi) (b0:Int) (b1:List Int) (b2:List Int) (b3:List Zbv) (b4:List Int) (b5:Int):(Int⊕Unit)->Ex×List V×Zk
  | (.inl r)=>(.ret,[(zN r)],[])
  | (.inr r)=>(.exit 0,[.bad],[])
theorem Zc5 {t0 t1:Bool}{t2 t3 t4:Bool}{a:List Zi}{b0:Int}{b1:List Int}{b2:List Int}{b3:List Zbv}{b4:List Int}{b5:Int}:∀(s0:Int) (r:(Int⊕Unit)),lp (ZaG a (fun z0=>Zdm z0 b0 b4 b5)) s0=some r->lpW ctx 0 [0,1,7,8] [4] Zwi [(zW t0 Z4 a),(.d (D.fn 125 [(D.rptr [(Zh b0)]),(D.rptr [(Zyk t1 b1 t2 b2 t3 b3 t4 b4)]),(D.rptr [(Zh b5)])])),(zN (a.length:Int)),(zN s0)] []=some ((Zbm t0 t1 t2 t3 t4 a b0 b1 b2 b3 b4 b5) r):=
 lpT (Zbm t0 t1 t2 t3 t4 a b0 b1 b2 b3 b4 b5) fun s0 _ ih=>yB (yG fun x1 _=>
  yC Zmo fun x2 _=>
  yB (Zm rfl)
  (Zc (ih _)))
  (Zm rfl)
theorem Zdv {t0 t1:Bool}{t2 t3 t4:Bool}{a:List Zi}{b0:Int}{b1:List Int}{b2:List Int}{b3:List Zbv}{b4:List Int}{b5:Int}:∀r,(ZbU a (fun z0=>Zdm z0 b0 b4 b5))=some r->evD ctx 171 [(zW t0 Z4 a),(.d (D.fn 125 [(D.rptr [(Zh b0)]),(D.rptr [(Zyk t1 b1 t2 b2 t3 b3 t4 b4)]),(D.rptr [(Zh b5)])]))]=some (ZdN r):=
 evT ZzZ rfl rfl <| Zf (Zv _ _) (by
 conv=>rhs;whnf
 refine Zb _ (Zc5 _) fun r3 _=>?_
 rcases r3 with r3 | r3
 exact yR
 exact yR)
def Zdj (r:Bool):D:=(D.bool r)
theorem Zc7 {t0 t1:Bool}{t2 t3 t4:Bool}{a:List Zi}{b0:Int}{b1:List Int}{b2:List Int}{b3:List Zbv}{b4:List Int}{b5:Int}:∀r,(Zao a (fun z0=>Zdm z0 b0 b4 b5))=some r->evD ctx 124 [(zW t0 Z4 a),(.d (D.fn 125 [(D.rptr [(Zh b0)]),(D.rptr [(Zyk t1 b1 t2 b2 t3 b3 t4 b4)]),(D.rptr [(Zh b5)])]))]=some (Zdj r):=
 evT ZAK rfl rfl <| yC Zdv fun x0 _=>
  yBr yR
def Zoa (r:Bool):D:=(D.bool r)
theorem ZiX {t0 t1:Bool}{t2 t3:Bool}{t4 t5:Bool}{a0:List Int}{a1:List Int}{a2:List Zbv}{a3:List Int}{b:ZF}{c d:Int}:∀r,(ZhX a3 b c d)=some r->evD ctx 72 [(.d (Zyk t0 a0 t1 a1 t2 a2 t3 a3)),(.d (zK2 t4 b.work t5 b.edges)),(zN c),(zN d)]=some (Zoa r):=
 evT ZHb rfl rfl <| yC Zc7 fun x0 _=>
  yBr yR
def Zot (r:Int):D:=(Zh r)
theorem Zn8 {t0 t1:Bool}{t2 t3:Bool}{t4 t5 t6:Bool}{a0:List Int}{a1:List Int}{a2:List Zbv}{a3:List Int}{b:ZF}{c:List Int}{d e:Int}:∀r,(ZlI a0 a1 a2 a3 b c d e)=some r->evD ctx 121 [(.d (Zyk t0 a0 t1 a1 t2 a2 t3 a3)),(.d (zK2 t4 b.work t5 b.edges)),(zV t6 c),(zN d),(zN e)]=some (Zot r):=
 evT ZCt rfl rfl <| yG fun x0 _=>
  yBr (Zf (Zv _ _) (yBr (yBm (Zbz (Zxv Zh c e.toNat) (yT (Zf (Zqb Zh c e.toNat) (yC Zak fun x1 _=>
  yBr (yG fun x2 hx2=>
  yG fun x3 _=>
  yBr (Zd (Zax rfl hx2) (yB (yG fun x4 _=>
  yBr (Zd (Zax rfl hx2) (yB (yC ZiX fun x5 _=>
  yBr yR)
  yR)))
  (Zd (Zax rfl hx2) (yB (yC ZiX fun x6 _=>
  yBr yR)
  yR))))))))
  Zal))))
def Ztq (t0:Bool) (t1:Bool) (b:Int) (c:List Int) (mG:List Int) (mA:List Int) (mI:List Zbv) (mH:List Int):Unit->V×Zk
  | r=>((.d (D.tup [])),[(zK5 t1 mG),(zA mA),(.arr 2 (List.map Zii mI)),(zA mH)])
theorem ZrD {t0 t1:Bool}{b:Int}{c:List Int}{mG:List Int}{mA:List Int}{mI:List Zbv}{mH:List Int}:∀r,(ZpR b c)=some r->evW ctx 69 [(.ptr 0 0),(zN b),(zV t0 c)] [(zK5 t1 mG),(zA mA),(.arr 2 (List.map Zii mI)),(zA mH)]=some ((Ztq t0 t1 b c mG mA mI mH) r):=
 evS ZIc rfl rfl <| yR
def ZoB (t0:Bool) (b:Int) (c:Int) (d:Int) (mG:List Int) (mA:List Int) (mI:List Zbv) (mH:List Int):((List Int)×(List Int))->V×Zk
  | r=>((.d (D.tup [])),[(zK5 t0 mG),(zA r.1),(.arr 2 (List.map Zii (List.set mI b.toNat (Zbv.mk c d)))),(zA r.2)])
theorem ZnW {t0:Bool}{b c d:Int}{mG:List Int}{mA:List Int}{mI:List Zbv}{mH:List Int}:∀r,(Zle b c d mG mA mI mH)=some r->evW ctx 122 [(.ptr 0 0),(zN b),(zN c),(zN d)] [(zK5 t0 mG),(zA mA),(.arr 2 (List.map Zii mI)),(zA mH)]=some ((ZoB t0 b c d mG mA mI mH) r):=
 evS ZB7 rfl rfl <| yG fun x0 hx0=>
  Zd (Zp rfl hx0) (Zd (Zax rfl hx0) (Zd (Zp rfl hx0) (Zf (ZZ Zh mA b.toNat (w64 (x0+1))) (yG fun x1 hx1=>
  Zd (Zp rfl hx1) (Zf (ZZ Zii mI b.toNat (Zbv.mk c d)) (yG fun x2 hx2=>
  Zd (Zp rfl hx2) (yG fun x3 _=>
  yB (yG fun x4 hx4=>
  Zd (Zp rfl hx4) (Zf (ZZ Zh mH b.toNat (w64 (c+1))) yR))
  yR)))))))
def ZjK (t0:Bool) (t1:Bool) (t2:Bool) (t3:Bool) (a:ZF) (b:List Int) (c:Int) (d:(List (List Int))):(Int⊕(Int×(List Int)×(List Zbv)×(List Int)))->V×Zk
  | (.inl r)=>((.d (D.tup [(D.nilp),(Zh r)])),[])
  | (.inr r)=>((.tup [(.ptr 0 0),(zN r.1)]),[(zK5 t2 b),(zA r.2.1),(.arr 2 (List.map Zii r.2.2.1)),(zA r.2.2.2)])
def Zf4 (t0:Bool) (t1:Bool) (t2:Bool) (t3:Bool) (a:ZF) (b:List Int) (d:(List (List Int))) (s3:Int×Int×(List Int)×(List Zbv)×(List Int)) (x4:List Int):(Int⊕Int)->Ex×List V×Zk
  | (.inl r)=>(.exit 0,[(.d (D.fn 69 [])),(.ptr 0 0),(zN r),(.ptr 1 0),(zN s3.2.1),(zV true x4),(.d (D.list t3 (List.map (Zf3 true) d))),(zN (d.length:Int)),(zN s3.2.1)],[(zK1 t0 a.work t1 a.edges),(ZA7 t2 b),(zA s3.2.2.1),(.arr 2 (List.map Zii s3.2.2.2.1)),(zA s3.2.2.2.2)])
  | (.inr r)=>(.exit 2,[(.d (D.fn 69 [])),(.ptr 0 0),(zN r),(.ptr 1 0),(zN s3.2.1),(zV true x4),(.d (D.list t3 (List.map (Zf3 true) d))),(zN (d.length:Int)),(zN s3.2.1)],[(zK1 t0 a.work t1 a.edges),(ZA7 t2 b),(zA s3.2.2.1),(.arr 2 (List.map Zii s3.2.2.2.1)),(zA s3.2.2.2.2)])
theorem Zil {t0 t1:Bool}{t2 t3:Bool}{a:ZF}{b:List Int}{d:(List (List Int))}{s3:Int×Int×(List Int)×(List Zbv)×(List Int)}{x4:List Int}:∀(s5:Int×Int) (r:(Int⊕Int)),lp (ZmF a b s3 x4) s5=some r->lpW ctx 0 [4,5,13,15,16,17,47,48,49,54,55,56] [4,5,13,15,16,17,47,48,49] ZCr [(.d (D.fn 69 [])),(.ptr 0 0),(zN s5.1),(.ptr 1 0),(zN s3.2.1),(zV true x4),(.d (D.list t3 (List.map (Zf3 true) d))),(zN (d.length:Int)),(zN s3.2.1),(zV true x4),(zN (x4.length:Int)),(zN s5.2)] [(zK1 t0 a.work t1 a.edges),(ZA7 t2 b),(zA s3.2.2.1),(.arr 2 (List.map Zii s3.2.2.2.1)),(zA s3.2.2.2.2)]=some ((Zf4 t0 t1 t2 t3 a b d s3 x4) r):=
 lpT (Zf4 t0 t1 t2 t3 a b d s3 x4) fun s5 _ ih=>yB (yG fun x6 _=>
  yB (Zc (ih _))
  (yC Zn8 fun x7 _=>
  yB (Zm rfl)
  (Zc (ih _))))
  (Zm rfl)
def Zf7 (t0:Bool) (t1:Bool) (t2:Bool) (t3:Bool) (a:ZF) (b:List Int) (d:(List (List Int))) (s3:Int×Int×(List Int)×(List Zbv)×(List Int)) (x4:List Int) (r8:Int):((List Int)×(List Zbv)×(List Int))->Ex×List V×Zk
  | r=>(.exit 4,[(.d (D.fn 69 [])),(.ptr 0 0),(zN r8),(.ptr 1 0),(.d (D.list t3 (List.map (Zf3 true) d))),(zN (d.length:Int)),(zN s3.2.1)],[(zK1 t0 a.work t1 a.edges),(ZA7 t2 b),(zA r.1),(.arr 2 (List.map Zii r.2.1)),(zA r.2.2)])
theorem Zik {t0 t1:Bool}{t2 t3:Bool}{a:ZF}{b:List Int}{d:(List (List Int))}{s3:Int×Int×(List Int)×(List Zbv)×(List Int)}{x4:List Int}{r8:Int}:∀(s10:Int×(List Int)×(List Zbv)×(List Int)) (r:((List Int)×(List Zbv)×(List Int))),lp (ZmD b s3 x4) s10=some r->lpW ctx 0 [4,5,13,15,16,47,48,49,77,78,79] [4,5,13,15,47,48,49] ZCV [(.d (D.fn 69 [])),(.ptr 0 0),(zN r8),(.ptr 1 0),(zN s3.2.1),(.d (D.list t3 (List.map (Zf3 true) d))),(zN (d.length:Int)),(zN s3.2.1),(zV true x4),(zN (x4.length:Int)),(zN s10.1)] [(zK1 t0 a.work t1 a.edges),(ZA7 t2 b),(zA s10.2.1),(.arr 2 (List.map Zii s10.2.2.1)),(zA s10.2.2.2)]=some ((Zf7 t0 t1 t2 t3 a b d s3 x4 r8) r):=
 lpT (Zf7 t0 t1 t2 t3 a b d s3 x4 r8) fun s10 _ ih=>yB (yG fun x11 _=>
  yB (Zb _ ZnW fun x12 _=>
  Zc (ih _))
  (Zc (ih _)))
  (Zm rfl)
def Zf5 (t0:Bool) (t1:Bool) (t2:Bool) (t3:Bool) (a:ZF) (b:List Int) (d:(List (List Int))):(Int×(List Int)×(List Zbv)×(List Int))->Ex×List V×Zk
  | r=>(.exit 0,[(zN r.1),(.ptr 0 0)],[(zK5 t2 b),(zA r.2.1),(.arr 2 (List.map Zii r.2.2.1)),(zA r.2.2.2)])
theorem Ziw {t0 t1:Bool}{t2 t3:Bool}{a:ZF}{b:List Int}{d:(List (List Int))}:∀(s3:Int×Int×(List Int)×(List Zbv)×(List Int)) (r:(Int×(List Int)×(List Zbv)×(List Int))),lp (Zmy a b d) s3=some r->lpW ctx 0 [4,5,13,15,47,48,49] [13,15] ZC5 [(.d (D.fn 69 [])),(.ptr 0 0),(zN s3.1),(.ptr 1 0),(.d (D.list t3 (List.map (Zf3 true) d))),(zN (d.length:Int)),(zN s3.2.1)] [(zK1 t0 a.work t1 a.edges),(ZA7 t2 b),(zA s3.2.2.1),(.arr 2 (List.map Zii s3.2.2.2.1)),(zA s3.2.2.2.2)]=some ((Zf5 t0 t1 t2 t3 a b d) r):=
 lpT (Zf5 t0 t1 t2 t3 a b d) fun s3 _ ih=>yB (yG fun x4 _=>
  Zf (Zv _ _) (by
 conv=>rhs;whnf
 refine Zb _ (Zil _) fun r8 _=>?_
 rcases r8 with r8 | r8
 exact Zm rfl
 exact Zb _ ZrD fun x9 _=>
  Zf (Zv _ _) (Zb _ (Zik _) fun r13 _=>
  Zc (ih _))))
  (Zm rfl)
theorem Zjt {t0 t1:Bool}{t2 t3:Bool}{a:ZF}{b:List Int}{c:Int}{d:(List (List Int))}:∀r,(Zmu a b c d)=some r->evW ctx 68 [(.d (zK2 t0 a.work t1 a.edges)),(zV t2 b),(zN c),(.d (D.list t3 (List.map (Zf3 true) d))),(.d (D.fn 69 []))] []=some ((ZjK t0 t1 t2 t3 a b c d) r):=
 evS ZHf rfl rfl <| yC ZqI fun x0 _=>
  yB (yBr (Zf (Zv _ _) (yBr (yC Zd0 fun x1 _=>
  yBr (Zb _ ZqV fun x2 _=>
  Zf (Zv _ _) (Zb _ (Ziw _) fun r14 _=>
  yR))))))
  (yBr yR)
def ZrP (r:Int):D:=(Zh r)
theorem Zqs {t0 t1:Bool}{t2 t3:Bool}{a:ZF}{b:List Int}{c:Int}{d:(List (List Int))}:∀r,(ZiE a b c d)=some r->evD ctx 31 [(.d (zK2 t0 a.work t1 a.edges)),(zV t2 b),(zN c),(.d (D.list t3 (List.map (Zf3 true) d)))]=some (ZrP r):=
 evT ZHD rfl rfl <| (by
 conv=>rhs;whnf
 refine Zb _ Zjt fun x0 _=>?_
 rcases x0 with x0 | x0
 exact yR
 exact yR)
def ZjI (t0:Bool) (a:List Int):Unit->V×Zk
  | r=>((.sl 0 1),[(zA a)])
theorem Zaz {t0:Bool}{a:List Int}:∀r,(Zab a)=some r->evW ctx 47 [(zV t0 a)] []=some ((ZjI t0 a) r):=
 evS ZHg rfl rfl <| ZlA (Zg4 (f:=Zh) (fun _=>⟨rfl,rfl⟩) a 0) (Zbz (Zhr Zh a) (Zf (rfl:_=List.map Zh a) yR)
  Zal)
def Zwt (t0:Bool) (t1:Bool) (t2:Bool) (a:ZF) (b:List Int) (c:Int):(Int⊕(List Int))->V×Zk
  | (.inl r)=>((.tup [(.agg [(.nilsl 1),(.nilsl 1)]),(zN r)]),[])
  | (.inr r)=>((.tup [(.agg [(.sl 0 1),(.sl 1 1)]),(zN 0)]),[(zA r),(zA b)])
def Zmz (b:List Int) (c:Int):(List Int)->Ex×List V×Zk
  | r=>(.exit 0,[(.ptr 0 0),(.ptr 1 0)],[(.cells [(.sl 2 1),(.sl 3 1)]),(.cells [(.sl 4 1),(.sl 5 1)]),(.arr 1 []),(.arr 1 []),(zA r),(zA b)])
theorem Zqz {b:List Int}{c:Int}:∀(s2:Int×(List Int)) (r:List Int),lp (Zgt c) s2=some r->lpW ctx 0 [6,9,21,22] [6,9] ZFb [(.ptr 0 0),(.ptr 1 0),(zN c),(zN s2.1)] [(.cells [(.sl 2 1),(.sl 3 1)]),(.cells [(.sl 4 1),(.sl 5 1)]),(.arr 1 []),(.arr 1 []),(zA s2.2),(zA b)]=some ((Zmz b c) r):=
 lpT (Zmz b c) fun s2 _ ih=>yB (yT (Zbz (ZeV Zh s2.2 1) (Zf (ZeS Zh s2.2 [(-1)]) (Zc (ih _)))
  Zal))
  (Zm rfl)
theorem Zof {t0 t1 t2:Bool}{a:ZF}{b:List Int}{c:Int}:∀r,(Ziv a b c)=some r->evW ctx 51 [(.d (zK2 t0 a.work t1 a.edges)),(zV t2 b),(zN c)] []=some ((Zwt t0 t1 t2 a b c) r):=
 evS ZHN rfl rfl <| yC Zqs fun x0 _=>
  yBr (Zb _ Zaz fun x1 _=>
  Zb _ (Zqz _) fun r3 _=>
  yR)
def Ztl (r:Bool):D:=(D.bool r)
theorem ZrN {a:Int}:∀r,(Zgh a)=some r->evD ctx 86 [(zN a)]=some (Ztl r):=
 evT ZH3 rfl rfl <| yBr yR
def Zgf (r:Int):D:=(Zh r)
def Zcd (t0:Bool) (a:List Int):(Int⊕Unit)->Ex×List V×Zk
  | (.inl r)=>(.ret,[(zN r)],[])
  | (.inr r)=>(.exit 0,[.bad],[])
theorem Ze6 {t0:Bool}{a:List Int}:∀(s0:Int) (r:(Int⊕Unit)),lp (Zx a (fun z0=>Zgh z0)) s0=some r->lpW ctx 0 [0,1,7,8] [4] Zl7 [(zV t0 a),(.d (D.fn 86 [])),(zN (a.length:Int)),(zN s0)] []=some ((Zcd t0 a) r):=
 lpT (Zcd t0 a) fun s0 _ ih=>yB (yG fun x1 _=>
  yC ZrN fun x2 _=>
  yB (Zm rfl)
  (Zc (ih _)))
  (Zm rfl)
theorem ZfY {t0:Bool}{a:List Int}:∀r,(ZG a (fun z0=>Zgh z0))=some r->evD ctx 94 [(zV t0 a),(.d (D.fn 86 []))]=some (Zgf r):=
 evT Zuz rfl rfl <| Zf (Zv _ _) (by
 conv=>rhs;whnf
 refine Zb _ (Ze6 _) fun r3 _=>?_
 rcases r3 with r3 | r3
 exact yR
 exact yR)
def Zft (r:Bool):D:=(D.bool r)
theorem Ze9 {t0:Bool}{a:List Int}:∀r,(ZC a (fun z0=>Zgh z0))=some r->evD ctx 44 [(zV t0 a),(.d (D.fn 86 []))]=some (Zft r):=
 evT ZxR rfl rfl <| yC ZfY fun x0 _=>
  yBr yR
def Zuo (r:Bool):D:=(D.bool r)
theorem ZgY {t0 t1:Bool}{a:Zbt}{b:Int}:∀r,(Zf1 a b)=some r->evD ctx 145 [(.d (ZxU t0 a.on t1 a.left)),(zN b)]=some (Zuo r):=
 evT ZCQ rfl rfl <| yG fun x0 _=>
  yBr yR
def ZrG (r:Bool):D:=(D.bool r)
theorem Zqx {t0 t1:Bool}{a:Zi}{b0:Int}{c0:List Int}{c1:List Int}:∀r,(Zgv a b0 c0 c1)=some r->evD ctx 187 [(.d (zK4 a.src a.dst)),(.d (D.rptr [(Zh b0)])),(.d (zK9 t0 c0 t1 c1))]=some (ZrG r):=
 evT ZBY rfl rfl <| yB (yC ZgY fun x0 _=>
  yBr yR)
  yR
def Zfr (r:Int):D:=(Zh r)
def ZbW (t0:Bool) (t1:Bool) (t2:Bool) (a:List Zi) (b0:Int) (b1:List Int) (b2:List Int):(Int⊕Unit)->Ex×List V×Zk
  | (.inl r)=>(.ret,[(zN r)],[])
  | (.inr r)=>(.exit 0,[.bad],[])
theorem Zei {t0 t1 t2:Bool}{a:List Zi}{b0:Int}{b1:List Int}{b2:List Int}:∀(s0:Int) (r:(Int⊕Unit)),lp (ZaG a (fun z0=>Zgv z0 b0 b1 b2)) s0=some r->lpW ctx 0 [0,1,7,8] [4] Zwi [(zW t0 Z4 a),(.d (D.fn 187 [(D.rptr [(Zh b0)]),(zK9 t1 b1 t2 b2)])),(zN (a.length:Int)),(zN s0)] []=some ((ZbW t0 t1 t2 a b0 b1 b2) r):=
 lpT (ZbW t0 t1 t2 a b0 b1 b2) fun s0 _ ih=>yB (yG fun x1 _=>
  yC Zqx fun x2 _=>
  yB (Zm rfl)
  (Zc (ih _)))
  (Zm rfl)
theorem Zfc {t0 t1 t2:Bool}{a:List Zi}{b0:Int}{b1:List Int}{b2:List Int}:∀r,(ZbU a (fun z0=>Zgv z0 b0 b1 b2))=some r->evD ctx 171 [(zW t0 Z4 a),(.d (D.fn 187 [(D.rptr [(Zh b0)]),(zK9 t1 b1 t2 b2)]))]=some (Zfr r):=
 evT ZzZ rfl rfl <| Zf (Zv _ _) (by
 conv=>rhs;whnf
 refine Zb _ (Zei _) fun r3 _=>?_
 rcases r3 with r3 | r3
 exact yR
 exact yR)
def Zex (r:Bool):D:=(D.bool r)
theorem Zek {t0 t1 t2:Bool}{a:List Zi}{b0:Int}{b1:List Int}{b2:List Int}:∀r,(Zao a (fun z0=>Zgv z0 b0 b1 b2))=some r->evD ctx 124 [(zW t0 Z4 a),(.d (D.fn 187 [(D.rptr [(Zh b0)]),(zK9 t1 b1 t2 b2)]))]=some (Zex r):=
 evT ZAK rfl rfl <| yC Zfc fun x0 _=>
  yBr yR
def Zum (r:Bool):D:=(D.bool r)
theorem ZjC {t0 t1:Bool}{t2 t3:Bool}{a:ZF}{b:Zbt}{c:Int}:∀r,(ZhK a b c)=some r->evD ctx 159 [(.d (zK2 t0 a.work t1 a.edges)),(.d (ZxU t2 b.on t3 b.left)),(zN c)]=some (Zum r):=
 evT ZFi rfl rfl <| yC Zek fun x0 _=>
  yBr yR
def ZsG (r:List Int):D:=(zL true r)
def ZkL (t0:Bool) (t1:Bool) (t2:Bool) (t3:Bool) (a:ZF) (b:Zbt):(List Int)->Ex×List V×Zk
  | r=>(.exit 0,[(.sl 0 1)],[(zA r)])
theorem ZoL {t0 t1:Bool}{t2 t3:Bool}{a:ZF}{b:Zbt}:∀(s0:Int×(List Int)) (r:List Int),lp (Zgk a b) s0=some r->lpW ctx 0 [2,3,5,9,10] [5] ZAD [(.ptr 0 0),(.ptr 1 0),(.sl 2 1),(zN (b.left.length:Int)),(zN s0.1)] [(zK1 t0 a.work t1 a.edges),(Zy5 t2 b.on t3 b.left),(zA s0.2)]=some ((ZkL t0 t1 t2 t3 a b) r):=
 lpT (ZkL t0 t1 t2 t3 a b) fun s0 _ ih=>yB (yC ZgY fun x1 _=>
  yB (Zc (ih _))
  (yC Zak fun x2 _=>
  yB (Zc (ih _))
  (yC ZjC fun x3 _=>
  yB (yT (Zbz (ZeV Zh s0.2 1) (Zf (ZeS Zh s0.2 [s0.1]) (Zc (ih _)))
  Zal))
  (Zc (ih _)))))
  (Zm rfl)
theorem ZmB {t0 t1:Bool}{t2 t3:Bool}{a:ZF}{b:Zbt}:∀r,(ZhW a b)=some r->evD ctx 104 [(.d (zK2 t0 a.work t1 a.edges)),(.d (ZxU t2 b.on t3 b.left))]=some (ZsG r):=
 evT ZCX rfl rfl <| Zf (Zv _ _) (Zb _ (ZoL _) fun r4 _=>
  yR)
def Zus (t0:Bool) (t1:Bool) (a:ZF) (mG:List Int) (mA:List Int):(List Int)->V×Zk
  | r=>((.d (D.tup [])),[(zA r),(zA mA)])
def Zlb (mG:List Int) (mA:List Int):(List Int)->Ex×List V×Zk
  | r=>(.exit 0,[],[(zA r),(zA mA)])
theorem Zp6 {mG:List Int}{mA:List Int}:∀(s1:(List Int)×Int×(List Int)) (r:List Int),lp (ZfB mG) s1=some r->lpW ctx 2 [3,4,11,12,13] [] ZED [(.ptr 2 0),(zV true s1.1),(.sl 0 1),(zN (mG.length:Int)),(zN s1.2.1)] [(zA s1.2.2),(zA mA),(.cells [(.sl 0 1),(.sl 1 1)])]=some ((Zlb mG mA) r):=
 lpT (Zlb mG mA) fun s1 _ ih=>yB (yG fun x2 hx2=>
  Zd (Zp rfl hx2) (yB (Zf (Zv _ _) (yB (yG fun x3 _=>
  yT (Zbz (ZwQ Zh s1.1 1) (ZlA (ZCB Zh (fun _=>⟨rfl,rfl⟩) s1.1 _) (Zf (Ztu Zh s1.1 1) (Zd (Zax rfl hx2) (Zd (Zp rfl hx2) (Zf (ZZ Zh s1.2.2 s1.2.1.toNat x3) (Zc (ih _)))))))
  Zal))
  (Zc (ih _))))
  (Zc (ih _))))
  (Zm rfl)
theorem ZtL {t0 t1:Bool}{a:ZF}{mG:List Int}{mA:List Int}:∀r,(Zky a mG mA)=some r->evW ctx 87 [(.d (zK2 t0 a.work t1 a.edges)),(.agg [(.sl 0 1),(.sl 1 1)])] [(zA mG),(zA mA)]=some ((Zus t0 t1 a mG mA) r):=
 evS ZHW rfl rfl <| yC ZmB fun x0 _=>
  Zf (Zv _ _) (Zb _ (Zp6 _) fun r4 _=>
  yR)
def Zub (mG:List Int) (mA:List Int):((List Int)×(List Int)×(List Int))->V×Zk
  | r=>((.sl 2 1),[(zA r.1),(zA r.2.1),(zA r.2.2)])
def Zlf (mG:List Int):((List Int)×(List Int)×(List Int))->Ex×List V×Zk
  | r=>(.exit 0,[(.sl 2 1)],[(zA r.1),(zA r.2.1),(zA r.2.2)])
theorem Zpz {mG:List Int}:∀(s0:Int×(List Int)×(List Int)×(List Int)) (r:((List Int)×(List Int)×(List Int))),lp (ZfS mG) s0=some r->lpW ctx 2 [1,3,7,8,9] [3] ZB8 [(.ptr 2 0),(.sl 3 1),(.sl 0 1),(zN (mG.length:Int)),(zN s0.1)] [(zA s0.2.1),(zA s0.2.2.1),(.cells [(.sl 0 1),(.sl 1 1)]),(zA s0.2.2.2)]=some ((Zlf mG) r):=
 lpT (Zlf mG) fun s0 _ ih=>yB (yG fun x1 hx1=>
  Zd (Zp rfl hx1) (yB (Zc (ih _))
  (yG fun x2 hx2=>
  Zd (Zp rfl hx2) (Zd (Zax rfl hx2) (Zd (Zp rfl hx2) (Zf (ZZ Zh s0.2.2.1 x1.toNat (w64 (x2-1))) (yC ZgY fun x3 _=>
  yB (Zd (Zax rfl hx1) (Zd (Zp rfl hx1) (Zf (ZZ Zh s0.2.1 s0.1.toNat (-1)) (yT (Zbz (ZeV Zh s0.2.2.2 1) (Zf (ZeS Zh s0.2.2.2 [x1]) (Zc (ih _)))
  Zal)))))
  (Zc (ih _)))))))))
  (Zm rfl)
theorem Zm1 {mG:List Int}{mA:List Int}:∀r,(ZhO mG mA)=some r->evW ctx 88 [(.agg [(.sl 0 1),(.sl 1 1)])] [(zA mG),(zA mA)]=some ((Zub mG mA) r):=
 evS ZHT rfl rfl <| Zf (Zv _ _) (Zb _ (Zpz _) fun r4 _=>
  Zb _ ZdZ fun x5 _=>
  yR)
def Zv6 (r:((List (List Int))×Int)):D:=(D.tup [(D.list true (List.map (Zf3 true) r.1)),(Zh r.2)])
def ZmH (t0:Bool) (t1:Bool) (t2:Bool) (a:ZF) (b:List Int) (x0:List Int):Int->Ex×List V×Zk
  | r=>(.exit 0,[(.ptr 0 0),(.ptr 1 0),(zN r)],[(zK1 t0 a.work t1 a.edges),(.cells [(.sl 2 1),(.sl 3 1)]),(zA x0),(zA b)])
theorem ZqY {t0 t1 t2:Bool}{a:ZF}{b:List Int}{x0:List Int}:∀(s1:Int×Int) (r:Int),lp (Zhp b) s1=some r->lpW ctx 0 [3,8,10,24,25,26] [3,8,10] ZCI [(.ptr 0 0),(.ptr 1 0),(zN s1.1),(zV t2 b),(zN (b.length:Int)),(zN s1.2)] [(zK1 t0 a.work t1 a.edges),(.cells [(.sl 2 1),(.sl 3 1)]),(zA x0),(zA b)]=some ((ZmH t0 t1 t2 a b x0) r):=
 lpT (ZmH t0 t1 t2 a b x0) fun s1 _ ih=>yB (yG fun x2 _=>
  Zc (ih _))
  (Zm rfl)
def ZmJ (t0:Bool) (t1:Bool) (a:ZF):(List (List Int))->Ex×List V×Zk
  | r=>(.exit 2,[(.sl 0 1)],[(.arr 1 (List.map (Zf3 true) r))])
theorem ZqM {t0 t1:Bool}{a:ZF}:∀(s4:(List (List Int))×(List Int)×(List Int)) (r:(List (List Int))),lp (Zgx a) s4=some r->lpW ctx 0 [3,8,13] [13] ZDw [(.ptr 0 0),(.ptr 1 0),(.sl 2 1)] [(zK1 t0 a.work t1 a.edges),(.cells [(.sl 3 1),(.sl 4 1)]),(.arr 1 (List.map (Zf3 true) s4.1)),(zA s4.2.1),(zA s4.2.2)]=some ((ZmJ t0 t1 a) r):=
 lpT (ZmJ t0 t1 a) fun s4 _ ih=>yC Ze9 fun x5 _=>
  yB (Zb _ ZtL fun x6 _=>
  Zb _ Zaz fun x7 _=>
  yT (Zbz (ZeV (Zf3 true) s4.1 1) (Zf (ZeS (Zf3 true) s4.1 [x6]) (Zb _ Zm1 fun x8 _=>
  Zc (ih _)))
  Zal))
  (Zm rfl)
theorem ZuC {t0 t1 t2:Bool}{a:ZF}{b:List Int}{c:Int}:∀r,(Zmp a b c)=some r->evD ctx 40 [(.d (zK2 t0 a.work t1 a.edges)),(zV t2 b),(zN c)]=some (Zv6 r):=
 evT ZHe rfl rfl <| (by
 conv=>rhs;whnf
 refine Zb _ Zof fun x0 _=>?_
 rcases x0 with x0 | x0
 exact yBm yR
 exact yF (Zf (Zv _ _) (Zb _ (ZqY _) fun r3 _=>
  yBr (Zb _ (ZqM _) fun r9 _=>
  yR))))
def Zuv (r:(Zn×Int)):D:=(D.tup [(zK6 true r.1.ring r.1.top r.1.bottom),(Zh r.2)])
theorem Zt6 {a:Int}:∀r,(ZkG a)=some r->evD ctx 52 [(zN a)]=some (Zuv r):=
 evT ZIl rfl rfl <| yC Zjm fun x0 _=>
  yB (yBr (yBm (Zf (Zkt Zh (0:Int) a) yR)))
  yR
def ZqZ (r:Bool):D:=(D.bool r)
theorem Zpj {a:Int}:∀r,(ZdV a)=some r->evD ctx 166 [(zN a)]=some (ZqZ r):=
 evT ZCL rfl rfl <| yBr (yBr yR)
def ZfL (r:Int):D:=(Zh r)
def Zb3 (t0:Bool) (a:List Int):(Int⊕Unit)->Ex×List V×Zk
  | (.inl r)=>(.ret,[(zN r)],[])
  | (.inr r)=>(.exit 0,[.bad],[])
theorem Zez {t0:Bool}{a:List Int}:∀(s0:Int) (r:(Int⊕Unit)),lp (Zx a (fun z0=>ZdV z0)) s0=some r->lpW ctx 0 [0,1,7,8] [4] Zl7 [(zV t0 a),(.d (D.fn 166 [])),(zN (a.length:Int)),(zN s0)] []=some ((Zb3 t0 a) r):=
 lpT (Zb3 t0 a) fun s0 _ ih=>yB (yG fun x1 _=>
  yC Zpj fun x2 _=>
  yB (Zm rfl)
  (Zc (ih _)))
  (Zm rfl)
theorem Zfs {t0:Bool}{a:List Int}:∀r,(ZG a (fun z0=>ZdV z0))=some r->evD ctx 94 [(zV t0 a),(.d (D.fn 166 []))]=some (ZfL r):=
 evT Zuz rfl rfl <| Zf (Zv _ _) (by
 conv=>rhs;whnf
 refine Zb _ (Zez _) fun r3 _=>?_
 rcases r3 with r3 | r3
 exact yR
 exact yR)
def ZeZ (r:Bool):D:=(D.bool r)
theorem Zew {t0:Bool}{a:List Int}:∀r,(ZC a (fun z0=>ZdV z0))=some r->evD ctx 44 [(zV t0 a),(.d (D.fn 166 []))]=some (ZeZ r):=
 evT ZxR rfl rfl <| yC Zfs fun x0 _=>
  yBr yR
def ZsI (r:Bool):D:=(D.bool r)
def ZkD (t0:Bool) (t1:Bool) (t2:Bool) (t3:Bool) (a:ZF) (b:Zbt):(Unit⊕Unit)->Ex×List V×Zk
  | (.inl r)=>(.ret,[(.ptr 0 0),(.ptr 1 0),(.d (D.bool false))],[(zK1 t0 a.work t1 a.edges),(Zy5 t2 b.on t3 b.left)])
  | (.inr r)=>(.exit 0,[(.ptr 0 0),(.ptr 1 0),.bad],[(zK1 t0 a.work t1 a.edges),(Zy5 t2 b.on t3 b.left)])
theorem ZoR {t0 t1:Bool}{t2 t3:Bool}{a:ZF}{b:Zbt}:∀(s1:Int) (r:(Unit⊕Unit)),lp (Zgo a b) s1=some r->lpW ctx 0 [2,3,35,36,37] [2,3,4] Zz5 [(.ptr 0 0),(.ptr 1 0),(zV t2 b.on),(zN (b.on.length:Int)),(zN s1)] [(zK1 t0 a.work t1 a.edges),(Zy5 t2 b.on t3 b.left)]=some ((ZkD t0 t1 t2 t3 a b) r):=
 lpT (ZkD t0 t1 t2 t3 a b) fun s1 _ ih=>yB (yG fun x2 _=>
  yB (Zc (ih _))
  (yB (Zm rfl)
  (Zf (Zv _ _) (yB (Zm rfl)
  (yC ZgY fun x3 _=>
  yB (Zm rfl)
  (yBm (Zbz (Zxv Zh b.on s1.toNat) (yT (Zf (Zqb Zh b.on s1.toNat) (yC Zak fun x4 _=>
  yB (Zm rfl)
  (yC ZjC fun x5 _=>
  yB (Zc (ih _))
  (Zm rfl)))))
  Zal)))))))
  (Zm rfl)
def ZkI (t0:Bool) (t1:Bool) (t2:Bool) (t3:Bool) (a:ZF) (b:Zbt):(Unit⊕Unit)->Ex×List V×Zk
  | (.inl r)=>(.ret,[(.d (D.bool false))],[])
  | (.inr r)=>(.exit 2,[.bad],[])
theorem ZoC {t0 t1:Bool}{t2 t3:Bool}{a:ZF}{b:Zbt}:∀(s7:Int) (r:(Unit⊕Unit)),lp (Zgp a b) s7=some r->lpW ctx 0 [2,3,76,77] [4] ZzC [(.ptr 0 0),(.ptr 1 0),(zN (b.left.length:Int)),(zN s7)] [(zK1 t0 a.work t1 a.edges),(Zy5 t2 b.on t3 b.left)]=some ((ZkI t0 t1 t2 t3 a b) r):=
 lpT (ZkI t0 t1 t2 t3 a b) fun s7 _ ih=>yB (yC ZgY fun x8 _=>
  yB (yC ZjC fun x9 _=>
  yB (Zc (ih _))
  (Zm rfl))
  (Zc (ih _)))
  (Zm rfl)
theorem Zrv {t0 t1:Bool}{t2 t3:Bool}{a:ZF}{b:Zbt}:∀r,(Zjo a b)=some r->evD ctx 114 [(.d (zK2 t0 a.work t1 a.edges)),(.d (ZxU t2 b.on t3 b.left))]=some (ZsI r):=
 evT ZDg rfl rfl <| Zf (Zv _ _) (yBr (Zf (Zv _ _) (yBr (Zf (Zv _ _) (Zf (Zv _ _) (yBr (yC Zew fun x0 _=>
  yBr (Zf (Zv _ _) (by
 conv=>rhs;whnf
 refine Zb _ (ZoR _) fun r6 _=>?_
 rcases r6 with r6 | r6
 exact yR
 exact Zf (Zv _ _) (by
 conv=>rhs;whnf
 refine Zb _ (ZoC _) fun r10 _=>?_
 rcases r10 with r10 | r10
 exact yR
 exact yR))))))))))
def Zsn (r:Int):D:=(Zh r)
theorem ZmA {t0 t1:Bool}{t2 t3:Bool}{a:ZF}{b:Zbt}:∀r,(Zh7 a b)=some r->evD ctx 65 [(.d (zK2 t0 a.work t1 a.edges)),(.d (ZxU t2 b.on t3 b.left))]=some (Zsn r):=
 evT ZIu rfl rfl <| yC ZfO fun x0 _=>
  yB (yC Zrv fun x1 _=>
  yBr yR)
  yR
def Zss (r:List Int):D:=(zL true r)
theorem Zi6 {t0 t1:Bool}{t2 t3:Bool}{a:ZF}{b:Zbt}:∀r,(ZeW a b)=some r->evD ctx 53 [(.d (zK2 t0 a.work t1 a.edges)),(.d (ZxU t2 b.on t3 b.left))]=some (Zss r):=
 evT ZIr rfl rfl <| yC ZmA fun x0 _=>
  yBr (yC ZmB fun x1 _=>
  yR)
def ZrF (r:Int):D:=(Zh r)
theorem Zhd {t0:Bool}{a:Zn}:∀r,(Ze8 a)=some r->evD ctx 115 [(.d (zK6 t0 a.ring a.top a.bottom))]=some (ZrF r):=
 evT ZEK rfl rfl <| Zf (Zv _ _) (yC Zjm fun x0 _=>
  yB (Zf (Zv _ _) (yBr (yC ZhT fun x1 _=>
  yBr (yBr (Zf (Zv _ _) (yBr yR))))))
  yR)
def Zuc (t0:Bool) (a:Zn):Unit->V×Zk
  | r=>((.agg [(.sl 0 1),(zN a.top),(zN a.bottom)]),[(zA a.ring)])
theorem Zne {t0:Bool}{a:Zn}:∀r,(ZiJ a)=some r->evW ctx 160 [(.d (zK6 t0 a.ring a.top a.bottom))] []=some ((Zuc t0 a) r):=
 evS ZEx rfl rfl <| Zb _ Zaz fun x0 _=>
  yR
def ZrL (r:Int):D:=(Zh r)
theorem Zhc {t0:Bool}{a:Zn}{b:Int}:∀r,(Ze5 a b)=some r->evD ctx 161 [(.d (zK6 t0 a.ring a.top a.bottom)),(zN b)]=some (ZrL r):=
 evT ZCo rfl rfl <| Zf (Zv _ _) (yBn yR)
def ZsQ (r:(Zn×Int)):D:=(D.tup [(zK6 true r.1.ring r.1.top r.1.bottom),(Zh r.2)])
theorem ZrE {t0:Bool}{a:Zn}{b:Int}:∀r,(Zmb a b)=some r->evD ctx 105 [(.d (zK6 t0 a.ring a.top a.bottom)),(zN b)]=some (ZsQ r):=
 evT ZEk rfl rfl <| yC Zhd fun x0 _=>
  yBr (yBr (Zf (Zv _ _) (yBr (Zb _ Zne fun x1 _=>
  yC Zhc fun x2 _=>
  yG fun x3 hx3=>
  Zd (Zp rfl hx3) (Zf (ZZ Zh a.ring x2.toNat b) yR)))))
def ZnX (t0:Bool) (t1:Bool) (b:Int) (c:Int) (mG:List Int) (mL:List Zi) (mN:Int) (mA:List Int) (mI:List Int) (mH:List Zn) (mK:List ZA) (mJ:List Int):((List Zn)⊕(List Zn))->V×Zk
  | (.inl r)=>((.d (D.bool true)),[(zK3 t0 mG t1 mL mN),(zA mA),(zA mI),(.arr 3 (List.map Zbn r)),(.arr 6 (List.map ZbH mK)),(zA mJ)])
  | (.inr r)=>((.d (D.bool false)),[(zK3 t0 mG t1 mL mN),(zA mA),(zA mI),(.arr 3 (List.map Zbn r)),(.arr 6 (List.map ZbH mK)),(zA mJ)])
theorem ZiQ {t0 t1:Bool}{b c:Int}{mG:List Int}{mL:List Zi}{mN:Int}{mA:List Int}{mI:List Int}{mH:List Zn}{mK:List ZA}{mJ:List Int}:∀r,(ZeU b c mH)=some r->evW ctx 54 [(.ptr 0 0),(zN b),(zN c)] [(zK3 t0 mG t1 mL mN),(zA mA),(zA mI),(.arr 3 (List.map Zbn mH)),(.arr 6 (List.map ZbH mK)),(zA mJ)]=some ((ZnX t0 t1 b c mG mL mN mA mI mH mK mJ) r):=
 evS ZHG rfl rfl <| yG fun x0 hx0=>
  Zd (Zp rfl hx0) (yC ZrE fun x1 _=>
  yB (Zd (Zax rfl hx0) (Zd (Zp rfl hx0) (Zf (ZZ Zbn mH b.toNat x1.1) (yBr yR))))
  (yBr yR))
def ZuI (t0:Bool) (t1:Bool) (t2:Bool) (a:ZF) (b:List Int) (c:Int):(Int⊕((List Int)×(List Zn)))->V×Zk
  | (.inl r)=>((.tup [(.agg [(.nilsl 1),(.nilsl 1),(.nilsl 3),(.nilsl 6),(.nilsl 1)]),(zN r)]),[])
  | (.inr r)=>((.tup [(.agg [(.sl 0 1),(.sl 1 1),(.sl 2 3),(.sl 3 6),(.sl 4 1)]),(zN 0)]),[(zA r.1),(zA b),(.arr 3 (List.map Zbn r.2)),(.arr 6 (List.map ZbH (List.replicate c.toNat ((ZA.mk false 0 0 0 0 0):ZA)))),(zA (List.replicate c.toNat (0:Int)))])
def ZlB (t0:Bool) (t1:Bool) (a:ZF) (b:List Int) (c:Int) (x0:List Int):(List Zn)->Ex×List V×Zk
  | r=>(.exit 0,[(zN c),(.ptr 0 0),(.ptr 1 0),(.ptr 2 0),(.ptr 3 0)],[(zK1 t0 a.work t1 a.edges),(.cells [(.sl 4 1),(.sl 5 1),(.sl 6 3),(.sl 7 6),(.sl 8 1)]),(.cells [(.sl 9 1),(.sl 10 1)]),(.cells [(.sl 9 1),(.sl 10 1),(.sl 11 3),(.sl 12 6),(.sl 13 1),(zV t0 a.work),(zW t1 Z4 a.edges),(zN 0)]),(.arr 1 []),(.arr 1 []),(.arr 3 []),(.arr 6 []),(.arr 1 []),(zA x0),(zA b),(.arr 3 (List.map Zbn r)),(.arr 6 (List.map ZbH (List.replicate c.toNat ((ZA.mk false 0 0 0 0 0):ZA)))),(zA (List.replicate c.toNat (0:Int)))])
theorem Zpp {t0 t1:Bool}{a:ZF}{b:List Int}{c:Int}{x0:List Int}:∀(s1:Int×(List Zn)) (r:List Zn),lp (ZfM c) s1=some r->lpW ctx 0 [2,3,6,8,10,35,36] [2,3,6,8,10] ZB9 [(zN c),(.ptr 0 0),(.ptr 1 0),(.ptr 2 0),(.ptr 3 0),(zN c),(zN s1.1)] [(zK1 t0 a.work t1 a.edges),(.cells [(.sl 4 1),(.sl 5 1),(.sl 6 3),(.sl 7 6),(.sl 8 1)]),(.cells [(.sl 9 1),(.sl 10 1)]),(.cells [(.sl 9 1),(.sl 10 1),(.sl 11 3),(.sl 12 6),(.sl 13 1),(zV t0 a.work),(zW t1 Z4 a.edges),(zN 0)]),(.arr 1 []),(.arr 1 []),(.arr 3 []),(.arr 6 []),(.arr 1 []),(zA x0),(zA b),(.arr 3 (List.map Zbn s1.2)),(.arr 6 (List.map ZbH (List.replicate c.toNat ((ZA.mk false 0 0 0 0 0):ZA)))),(zA (List.replicate c.toNat (0:Int)))]=some ((ZlB t0 t1 a b c x0) r):=
 lpT (ZlB t0 t1 a b c x0) fun s1 _ ih=>yB (yC Zt6 fun x2 _=>
  yT (Zbz (ZeV Zbn s1.2 1) (Zf (ZeS Zbn s1.2 [x2.1]) (Zc (ih _)))
  Zal))
  (Zm rfl)
def Zlx (t0:Bool) (t1:Bool) (a:ZF) (b:List Int) (c:Int) (x0:List Int) (x4:List Int):(List Zn)->Ex×List V×Zk
  | r=>(.exit 2,[(.ptr 0 0),(.ptr 1 0)],[(.cells [(.sl 2 1),(.sl 3 1),(.sl 4 3),(.sl 5 6),(.sl 6 1)]),(.cells [(.sl 7 1),(.sl 8 1),(.sl 9 3),(.sl 10 6),(.sl 11 1),(zV t0 a.work),(zW t1 Z4 a.edges),(zN 0)]),(.arr 1 []),(.arr 1 []),(.arr 3 []),(.arr 6 []),(.arr 1 []),(zA x0),(zA b),(.arr 3 (List.map Zbn r)),(.arr 6 (List.map ZbH (List.replicate c.toNat ((ZA.mk false 0 0 0 0 0):ZA)))),(zA (List.replicate c.toNat (0:Int)))])
theorem Zpl {t0 t1:Bool}{a:ZF}{b:List Int}{c:Int}{x0:List Int}{x4:List Int}:∀(s5:Int×(List Zn)) (r:List Zn),lp (ZfH c x4) s5=some r->lpW ctx 0 [2,6,10,57,58,59] [6,10] ZC8 [(zN c),(.ptr 0 0),(.ptr 1 0),(zV true x4),(zN (x4.length:Int)),(zN s5.1)] [(.cells [(.sl 2 1),(.sl 3 1),(.sl 4 3),(.sl 5 6),(.sl 6 1)]),(.cells [(.sl 7 1),(.sl 8 1),(.sl 9 3),(.sl 10 6),(.sl 11 1),(zV t0 a.work),(zW t1 Z4 a.edges),(zN 0)]),(.arr 1 []),(.arr 1 []),(.arr 3 []),(.arr 6 []),(.arr 1 []),(zA x0),(zA b),(.arr 3 (List.map Zbn s5.2)),(.arr 6 (List.map ZbH (List.replicate c.toNat ((ZA.mk false 0 0 0 0 0):ZA)))),(zA (List.replicate c.toNat (0:Int)))]=some ((Zlx t0 t1 a b c x0 x4) r):=
 lpT (Zlx t0 t1 a b c x0 x4) fun s5 _ ih=>yB (yG fun x6 _=>
  yBn (by
 conv=>rhs;whnf
 refine Zb _ ZiQ fun x7 _=>?_
 rcases x7 with x7 | x7
 exact Zc (ih _)
 exact Zc (ih _)))
  (Zm rfl)
theorem Zsy {t0 t1 t2:Bool}{a:ZF}{b:List Int}{c:Int}:∀r,(ZkC a b c)=some r->evW ctx 16 [(.d (zK2 t0 a.work t1 a.edges)),(zV t2 b),(zN c)] []=some ((ZuI t0 t1 t2 a b c) r):=
 evS ZIm rfl rfl <| (by
 conv=>rhs;whnf
 refine Zb _ Zof fun x0 _=>?_
 rcases x0 with x0 | x0
 exact yBm yR
 exact yF (yBm (Zf (Zkt ZbH ((ZA.mk false 0 0 0 0 0):ZA) c) (yBm (Zf (Zkt Zh (0:Int) c) (Zb _ (Zpp _) fun r3 _=>
  yC Zi6 fun x4 _=>
  Zf (Zv _ _) (Zb _ (Zpl _) fun r8 _=>
  yR)))))))
def Zru (r:Bool):D:=(D.bool r)
theorem ZqF {a:Int}:∀r,(ZdD a)=some r->evD ctx 45 [(zN a)]=some (Zru r):=
 evT ZHO rfl rfl <| yBr yR
def ZfV (r:Int):D:=(Zh r)
def Zca (t0:Bool) (a:List Int):(Int⊕Unit)->Ex×List V×Zk
  | (.inl r)=>(.ret,[(zN r)],[])
  | (.inr r)=>(.exit 0,[.bad],[])
theorem ZeK {t0:Bool}{a:List Int}:∀(s0:Int) (r:(Int⊕Unit)),lp (Zx a (fun z0=>ZdD z0)) s0=some r->lpW ctx 0 [0,1,7,8] [4] Zl7 [(zV t0 a),(.d (D.fn 45 [])),(zN (a.length:Int)),(zN s0)] []=some ((Zca t0 a) r):=
 lpT (Zca t0 a) fun s0 _ ih=>yB (yG fun x1 _=>
  yC ZqF fun x2 _=>
  yB (Zm rfl)
  (Zc (ih _)))
  (Zm rfl)
theorem ZfP {t0:Bool}{a:List Int}:∀r,(ZG a (fun z0=>ZdD z0))=some r->evD ctx 94 [(zV t0 a),(.d (D.fn 45 []))]=some (ZfV r):=
 evT Zuz rfl rfl <| Zf (Zv _ _) (by
 conv=>rhs;whnf
 refine Zb _ (ZeK _) fun r3 _=>?_
 rcases r3 with r3 | r3
 exact yR
 exact yR)
def Zfb (r:Bool):D:=(D.bool r)
theorem Ze0 {t0:Bool}{a:List Int}:∀r,(ZC a (fun z0=>ZdD z0))=some r->evD ctx 44 [(zV t0 a),(.d (D.fn 45 []))]=some (Zfb r):=
 evT ZxR rfl rfl <| yC ZfP fun x0 _=>
  yBr yR
def ZlU (r:Bool):D:=(D.bool r)
theorem Zlq {t0:Bool}{a:Zn}:∀r,(ZbJ a)=some r->evD ctx 112 [(.d (zK6 t0 a.ring a.top a.bottom))]=some (ZlU r):=
 evT ZEY rfl rfl <| yBr yR
def Zdk (r:Int):D:=(Zh r)
def Zbc (t0:Bool) (a:List Zn):(Int⊕Unit)->Ex×List V×Zk
  | (.inl r)=>(.ret,[(zN r)],[])
  | (.inr r)=>(.exit 0,[.bad],[])
theorem ZcI {t0:Bool}{a:List Zn}:∀(s0:Int) (r:(Int⊕Unit)),lp (Zbd a (fun z0=>ZbJ z0)) s0=some r->lpW ctx 0 [0,1,7,8] [4] ZAx [(zW t0 Zbn a),(.d (D.fn 112 [])),(zN (a.length:Int)),(zN s0)] []=some ((Zbc t0 a) r):=
 lpT (Zbc t0 a) fun s0 _ ih=>yB (yG fun x1 _=>
  yC Zlq fun x2 _=>
  yB (Zm rfl)
  (Zc (ih _)))
  (Zm rfl)
theorem Zc2 {t0:Bool}{a:List Zn}:∀r,(Zco a (fun z0=>ZbJ z0))=some r->evD ctx 165 [(zW t0 Zbn a),(.d (D.fn 112 []))]=some (Zdk r):=
 evT ZCD rfl rfl <| Zf (Zv _ _) (by
 conv=>rhs;whnf
 refine Zb _ (ZcI _) fun r3 _=>?_
 rcases r3 with r3 | r3
 exact yR
 exact yR)
def ZcQ (r:Bool):D:=(D.bool r)
theorem ZcJ {t0:Bool}{a:List Zn}:∀r,(Zbb a (fun z0=>ZbJ z0))=some r->evD ctx 111 [(zW t0 Zbn a),(.d (D.fn 112 []))]=some (ZcQ r):=
 evT ZBZ rfl rfl <| yC Zc2 fun x0 _=>
  yBr yR
def ZmU (r:List Int):D:=(zL true r)
def ZhI (t0:Bool) (t1:Bool) (t2:Bool) (t3:Bool) (t4:Bool) (t5:Bool) (t6:Bool) (a0:List Int) (a1:List Int) (a2:List Zn) (a3:List ZA) (a4:List Int) (a5:List Int) (a6:List Zi) (a7:Int):(List Int)->Ex×List V×Zk
  | r=>(.exit 0,[(.sl 0 1)],[(zA r)])
theorem ZkT {t0 t1:Bool}{t2 t3:Bool}{t4 t5 t6:Bool}{a0:List Int}{a1:List Int}{a2:List Zn}{a3:List ZA}{a4:List Int}{a5:List Int}{a6:List Zi}{a7:Int}:∀(s1:Int×(List Int)) (r:List Int),lp (ZcB a0) s1=some r->lpW ctx 0 [0,3,4,18,19,20] [4] ZyG [(.d (Zzi t0 a0 t1 a1 t2 a2 t3 a3 t4 a4 t5 a5 t6 a6 a7)),(.d (D.bool true)),(.sl 0 1),(zV t0 a0),(zN (a0.length:Int)),(zN s1.1)] [(zA s1.2)]=some ((ZhI t0 t1 t2 t3 t4 t5 t6 a0 a1 a2 a3 a4 a5 a6 a7) r):=
 lpT (ZhI t0 t1 t2 t3 t4 t5 t6 a0 a1 a2 a3 a4 a5 a6 a7) fun s1 _ ih=>yB (yG fun x2 _=>
  yB (yT (Zbz (ZeV Zh s1.2 1) (Zf (ZeS Zh s1.2 [s1.1]) (Zc (ih _)))
  Zal))
  (Zc (ih _)))
  (Zm rfl)
def Zhe (t0:Bool) (t1:Bool) (t2:Bool) (t3:Bool) (t4:Bool) (t5:Bool) (t6:Bool) (a0:List Int) (a1:List Int) (a2:List Zn) (a3:List ZA) (a4:List Int) (a5:List Int) (a6:List Zi) (a7:Int):(List Int)->Ex×List V×Zk
  | r=>(.exit 0,[(.sl 0 1)],[(zA r)])
theorem Zkb {t0 t1:Bool}{t2 t3:Bool}{t4 t5 t6:Bool}{a0:List Int}{a1:List Int}{a2:List Zn}{a3:List ZA}{a4:List Int}{a5:List Int}{a6:List Zi}{a7:Int}:∀(s4:Int×(List Int)) (r:List Int),lp (Zcl a0 a3) s4=some r->lpW ctx 0 [0,3,4,18,19,20] [4] ZyG [(.d (Zzi t0 a0 t1 a1 t2 a2 t3 a3 t4 a4 t5 a5 t6 a6 a7)),(.d (D.bool false)),(.sl 0 1),(zV t0 a0),(zN (a0.length:Int)),(zN s4.1)] [(zA s4.2)]=some ((Zhe t0 t1 t2 t3 t4 t5 t6 a0 a1 a2 a3 a4 a5 a6 a7) r):=
 lpT (Zhe t0 t1 t2 t3 t4 t5 t6 a0 a1 a2 a3 a4 a5 a6 a7) fun s4 _ ih=>yB (yG fun x5 _=>
  yB (yG fun x6 _=>
  yB (yT (Zbz (ZeV Zh s4.2 1) (Zf (ZeS Zh s4.2 [s4.1]) (Zc (ih _)))
  Zal))
  (Zc (ih _)))
  (Zc (ih _)))
  (Zm rfl)
theorem Zig {t0 t1:Bool}{t2 t3:Bool}{t4 t5 t6:Bool}{a0:List Int}{a1:List Int}{a2:List Zn}{a3:List ZA}{a4:List Int}{a5:List Int}{a6:List Zi}{a7:Int}:∀r,(ZdW a0 a2 a3)=some r->evD ctx 63 [(.d (Zzi t0 a0 t1 a1 t2 a2 t3 a3 t4 a4 t5 a5 t6 a6 a7))]=some (ZmU r):=
 evT ZHR rfl rfl <| yC ZcJ fun x0 _=>
  yB (Zf (Zv _ _) (Zb _ (ZkT _) fun r3 _=>
  yR))
  (Zf (Zv _ _) (Zb _ (Zkb _) fun r7 _=>
  yR))
def ZmQ (r:Bool):D:=(D.bool r)
theorem ZlY {t0 t1:Bool}{t2 t3:Bool}{t4 t5 t6:Bool}{a:Int}{b0:List Int}{b1:List Int}{b2:List Zn}{b3:List ZA}{b4:List Int}{b5:List Int}{b6:List Zi}{b7:Int}:∀r,(ZbZ a b7)=some r->evD ctx 147 [(zN a),(.d (D.rptr [(Zzi t0 b0 t1 b1 t2 b2 t3 b3 t4 b4 t5 b5 t6 b6 b7)]))]=some (ZmQ r):=
 evT ZDh rfl rfl <| yBr yR
def Zeo (r:Int):D:=(Zh r)
def ZbB (t0:Bool) (t1:Bool) (t2:Bool) (t3:Bool) (t4:Bool) (t5:Bool) (t6:Bool) (t7:Bool) (a:List Int) (b0:List Int) (b1:List Int) (b2:List Zn) (b3:List ZA) (b4:List Int) (b5:List Int) (b6:List Zi) (b7:Int):(Int⊕Unit)->Ex×List V×Zk
  | (.inl r)=>(.ret,[(zN r)],[])
  | (.inr r)=>(.exit 0,[.bad],[])
theorem Zdl {t0 t1:Bool}{t2 t3:Bool}{t4 t5:Bool}{t6 t7:Bool}{a:List Int}{b0:List Int}{b1:List Int}{b2:List Zn}{b3:List ZA}{b4:List Int}{b5:List Int}{b6:List Zi}{b7:Int}:∀(s0:Int) (r:(Int⊕Unit)),lp (Zx a (fun z0=>ZbZ z0 b7)) s0=some r->lpW ctx 0 [0,1,7,8] [4] Zl7 [(zV t0 a),(.d (D.fn 147 [(D.rptr [(Zzi t1 b0 t2 b1 t3 b2 t4 b3 t5 b4 t6 b5 t7 b6 b7)])])),(zN (a.length:Int)),(zN s0)] []=some ((ZbB t0 t1 t2 t3 t4 t5 t6 t7 a b0 b1 b2 b3 b4 b5 b6 b7) r):=
 lpT (ZbB t0 t1 t2 t3 t4 t5 t6 t7 a b0 b1 b2 b3 b4 b5 b6 b7) fun s0 _ ih=>yB (yG fun x1 _=>
  yC ZlY fun x2 _=>
  yB (Zm rfl)
  (Zc (ih _)))
  (Zm rfl)
theorem Zd3 {t0 t1:Bool}{t2 t3:Bool}{t4 t5:Bool}{t6 t7:Bool}{a:List Int}{b0:List Int}{b1:List Int}{b2:List Zn}{b3:List ZA}{b4:List Int}{b5:List Int}{b6:List Zi}{b7:Int}:∀r,(ZG a (fun z0=>ZbZ z0 b7))=some r->evD ctx 94 [(zV t0 a),(.d (D.fn 147 [(D.rptr [(Zzi t1 b0 t2 b1 t3 b2 t4 b3 t5 b4 t6 b5 t7 b6 b7)])]))]=some (Zeo r):=
 evT Zuz rfl rfl <| Zf (Zv _ _) (by
 conv=>rhs;whnf
 refine Zb _ (Zdl _) fun r3 _=>?_
 rcases r3 with r3 | r3
 exact yR
 exact yR)
def ZnV (r:Int):D:=(Zh r)
theorem ZmX {t0 t1:Bool}{t2 t3:Bool}{t4 t5:Bool}{t6 t7 t8:Bool}{a0:List Int}{a1:List Int}{a2:List Zn}{a3:List ZA}{a4:List Int}{a5:List Int}{a6:List Zi}{a7:Int}{b:List Int}{c:List Int}{d:Int}:∀r,(ZeY a7 b c d)=some r->evD ctx 95 [(.d (Zzi t0 a0 t1 a1 t2 a2 t3 a3 t4 a4 t5 a5 t6 a6 a7)),(zV t7 b),(zV t8 c),(zN d)]=some (ZnV r):=
 evT ZHQ rfl rfl <| Zf (Zv _ _) (yB (yG fun x0 _=>
  Zf (Zv _ _) (yBn (yG fun x1 _=>
  yR)))
  (yC Zd3 fun x2 _=>
  yG fun x3 _=>
  yR))
def Zqm (r:Bool):D:=(D.bool r)
theorem ZgJ {a:Int}:∀r,(Zd5 a)=some r->evD ctx 190 [(zN a)]=some (Zqm r):=
 evT ZDS rfl rfl <| yBr (yBr yR)
def Ztm (r:Bool):D:=(D.bool r)
theorem ZrQ {a:ZA}:∀r,(Zji a)=some r->evD ctx 167 [(.d (D.agg [(D.bool a.steal),(Zh a.at_),(Zh a.top),(Zh a.bottom),(Zh a.got),(Zh a.end_)]))]=some (Ztm r):=
 evT ZCa rfl rfl <| yB (yB (yB (yB (yBr (yC ZgJ fun x0 _=>
  yBr (yC ZgJ fun x1 _=>
  yBr yR)))
  yR)
  yR)
  yR)
  (yB (yB (yB (yBr (yC ZgJ fun x2 _=>
  yBr (yC ZgJ fun x3 _=>
  yBr yR)))
  yR)
  yR)
  yR)
def ZtK (mG:Int) (mL:Int) (mA:Bool) (mE:Int) (mC:Int) (mD:Int) (mB:Int) (mF:Int) (mI:List Int):(Unit⊕Unit)->V×Zk
  | (.inl r)=>((.d (D.bool false)),[(ZyA mG mL),(.cells [(.d (D.bool mA)),(zN mE),(zN mC),(zN mD),(zN mB),(zN mF)]),(zA mI)])
  | (.inr r)=>((.d (D.bool true)),[(ZyA (w64 (mG+1)) mL),(.cells [(.d (D.bool mA)),(zN mE),(zN mC),(zN mD),(zN mB),(zN mF)]),(zA mI)])
theorem ZmC {mG mL:Int}{mA:Bool}{mE mC:Int}{mD mB mF:Int}{mI:List Int}:∀r,(Zge mG mC)=some r->evW ctx 191 [(.ptr 0 0),(.ptr 1 0)] [(ZyA mG mL),(.cells [(.d (D.bool mA)),(zN mE),(zN mC),(zN mD),(zN mB),(zN mF)]),(zA mI)]=some ((ZtK mG mL mA mE mC mD mB mF mI) r):=
 evS ZE0 rfl rfl <| yBr yR
def ZrJ (mG:Int) (mL:Int) (mA:Bool) (mE:Int) (mC:Int) (mD:Int) (mB:Int) (mF:Int) (mI:List Int):(Int×Int×Int×Int×Int×Int)->V×Zk
  | r=>((.d (D.tup [])),[(ZyA r.1 mL),(.cells [(.d (D.bool mA)),(zN r.2.1),(zN r.2.2.1),(zN r.2.2.2.1),(zN r.2.2.2.2.1),(zN r.2.2.2.2.2)]),(zA mI)])
theorem ZqG {mG mL:Int}{mA:Bool}{mE mC:Int}{mD mB mF:Int}{mI:List Int}:∀r,(ZcP mG mL mE mC mD mB mF mI)=some r->evW ctx 168 [(.ptr 0 0),(.ptr 1 0)] [(ZyA mG mL),(.cells [(.d (D.bool mA)),(zN mE),(zN mC),(zN mD),(zN mB),(zN mF)]),(zA mI)]=some ((ZrJ mG mL mA mE mC mD mB mF mI) r):=
 evS ZEU rfl rfl <| yBr (yB (yBr yR)
  (yB (yC Zhc fun x0 _=>
  yG fun x1 hx1=>
  Zd (Zp rfl hx1) yR)
  (by
 conv=>rhs;whnf
 refine Zb _ ZmC fun x2 _=>?_
 rcases x2 with x2 | x2
 exact yR
 exact yR)))
def Zur (mG:Int) (mL:Int) (mA:Bool) (mE:Int) (mC:Int) (mD:Int) (mB:Int) (mF:Int) (mI:List Int):(Int×Int×Int×Int×Int×Int×Int)->V×Zk
  | r=>((.d (D.tup [])),[(ZyA r.1 r.2.1),(.cells [(.d (D.bool mA)),(zN r.2.2.1),(zN r.2.2.2.1),(zN r.2.2.2.2.1),(zN r.2.2.2.2.2.1),(zN r.2.2.2.2.2.2)]),(zA mI)])
theorem ZsY {mG mL:Int}{mA:Bool}{mE mC:Int}{mD mB mF:Int}{mI:List Int}:∀r,(ZcW mG mL mE mC mD mB mF mI)=some r->evW ctx 169 [(.ptr 0 0),(.ptr 1 0)] [(ZyA mG mL),(.cells [(.d (D.bool mA)),(zN mE),(zN mC),(zN mD),(zN mB),(zN mF)]),(zA mI)]=some ((Zur mG mL mA mE mC mD mB mF mI) r):=
 evS ZDC rfl rfl <| yBr (yB (yB (yC Zhc fun x0 _=>
  yG fun x1 hx1=>
  Zd (Zp rfl hx1) yR)
  (yBr yR))
  (yB ((by
 conv=>rhs;whnf
 refine Zb _ ZmC fun x2 _=>?_
 rcases x2 with x2 | x2
 exact yR
 exact yC Zhc fun x3 _=>
  yG fun x4 hx4=>
  Zd (Zp rfl hx4) yR))
  (yBr yR)))
def ZtG (r:(Zn×ZA×Int)):D:=(D.tup [(zK6 true r.1.ring r.1.top r.1.bottom),(D.agg [(D.bool r.2.1.steal),(Zh r.2.1.at_),(Zh r.2.1.top),(Zh r.2.1.bottom),(Zh r.2.1.got),(Zh r.2.1.end_)]),(Zh r.2.2)])
theorem Zrt {t0:Bool}{a:Zn}{b:ZA}:∀r,(Zcc a b)=some r->evD ctx 116 [(.d (zK6 t0 a.ring a.top a.bottom)),(.d (D.agg [(D.bool b.steal),(Zh b.at_),(Zh b.top),(Zh b.bottom),(Zh b.got),(Zh b.end_)]))]=some (ZtG r):=
 evT ZE4 rfl rfl <| yC Zhd fun x0 _=>
  yBr (yC ZrQ fun x1 _=>
  yB (Zb _ Zne fun x2 _=>
  yB (Zb _ ZqG fun x3 _=>
  yC Zhd fun x4 _=>
  yBr yR)
  (Zb _ ZsY fun x5 _=>
  yC Zhd fun x6 _=>
  yBr yR))
  yR)
def Znx (t0:Bool) (t1:Bool) (b:Int) (c:Int) (mG:List Int) (mL:List Zi) (mN:Int) (mA:List Int) (mI:List Int) (mH:List Zn) (mK:List ZA) (mJ:List Int):(List ZA)->V×Zk
  | r=>((.d (D.tup [])),[(zK3 t0 mG t1 mL mN),(zA mA),(zA mI),(.arr 3 (List.map Zbn mH)),(.arr 6 (List.map ZbH r)),(zA (List.set mJ b.toNat c))])
theorem ZgC {t0 t1:Bool}{b c:Int}{mG:List Int}{mL:List Zi}{mN:Int}{mA:List Int}{mI:List Int}{mH:List Zn}{mK:List ZA}{mJ:List Int}:∀r,(ZcL b c mK mJ)=some r->evW ctx 117 [(.ptr 0 0),(zN b),(zN c)] [(zK3 t0 mG t1 mL mN),(zA mA),(zA mI),(.arr 3 (List.map Zbn mH)),(.arr 6 (List.map ZbH mK)),(zA mJ)]=some ((Znx t0 t1 b c mG mL mN mA mI mH mK mJ) r):=
 evS ZBQ rfl rfl <| yG fun x0 hx0=>
  Zd (Zp rfl hx0) (Zf (ZZ Zh mJ b.toNat c) (yB (yG fun x1 hx1=>
  Zd (Zp rfl hx1) (Zf (ZZ ZbH mK b.toNat (ZA.mk true 0 0 0 0 0)) yR))
  (yG fun x2 hx2=>
  Zd (Zp rfl hx2) (Zf (ZZ ZbH mK b.toNat (ZA.mk false 0 0 0 0 0)) yR))))
def Zn9 (t0:Bool) (t1:Bool) (b:Int) (mG:List Int) (mL:List Zi) (mN:Int) (mA:List Int) (mI:List Int) (mH:List Zn) (mK:List ZA) (mJ:List Int):(Int×(List Int)×(List Zn)×(List ZA)×(List Int))->V×Zk
  | r=>((zN r.1),[(zK3 t0 mG t1 mL mN),(zA r.2.1),(zA mI),(.arr 3 (List.map Zbn r.2.2.1)),(.arr 6 (List.map ZbH r.2.2.2.1)),(zA r.2.2.2.2)])
theorem Zns {t0 t1:Bool}{b:Int}{mG:List Int}{mL:List Zi}{mN:Int}{mA:List Int}{mI:List Int}{mH:List Zn}{mK:List ZA}{mJ:List Int}:∀r,(ZbA b mG mL mA mI mH mK mJ)=some r->evW ctx 67 [(.ptr 0 0),(zN b)] [(zK3 t0 mG t1 mL mN),(zA mA),(zA mI),(.arr 3 (List.map Zbn mH)),(.arr 6 (List.map ZbH mK)),(zA mJ)]=some ((Zn9 t0 t1 b mG mL mN mA mI mH mK mJ) r):=
 evS ZHA rfl rfl <| Zf (Zv _ _) (yG fun x0 hx0=>
  Zd (Zp rfl hx0) (yBn (yG fun x1 hx1=>
  Zd (Zp rfl hx1) (yG fun x2 hx2=>
  Zd (Zp rfl hx2) (yC Zrt fun x3 _=>
  yBr (Zd (Zax rfl hx1) (Zd (Zp rfl hx1) (Zf (ZZ Zbn mH (Int.tmod (w64 (b+x0)) (mA.length:Int)).toNat x3.1) (Zd (Zax rfl hx2) (Zd (Zp rfl hx2) (Zf (ZZ ZbH mK b.toNat x3.2.1) (yB (yC Zi6 fun x4 _=>
  yC Zak fun x5 _=>
  yB (yG fun x6 hx6=>
  Zd (Zp rfl hx6) (Zf (ZZ Zh mA b.toNat x3.2.1.got) (Zb _ ZgC fun x7 _=>
  yR)))
  yR)
  (yB (Zd (Zax rfl hx0) (Zd (Zp rfl hx0) (yBn (Zb _ ZgC fun x8 _=>
  yR))))
  (yB (Zd (Zax rfl hx0) (Zd (Zp rfl hx0) (yBn (Zb _ ZgC fun x9 _=>
  yR))))
  yR))))))))))))))
def Zn2 (t0:Bool) (t1:Bool) (t2:Bool) (b:List Int) (mG:List Int) (mL:List Zi) (mN:Int) (mA:List Int) (mI:List Int) (mH:List Zn) (mK:List ZA) (mJ:List Int):(Int×Int×Int×(List Int)×(List Zn)×(List ZA)×(List Int))->V×Zk
  | r=>((.d (D.tup [(Zh r.1),(Zh r.2.1)])),[(zK3 t1 mG t2 mL r.2.2.1),(zA r.2.2.2.1),(zA mI),(.arr 3 (List.map Zbn r.2.2.2.2.1)),(.arr 6 (List.map ZbH r.2.2.2.2.2.1)),(zA r.2.2.2.2.2.2)])
def Zh2 (t0:Bool) (t1:Bool) (t2:Bool) (b:List Int) (mG:List Int) (mL:List Zi) (mI:List Int):((Int×Int×Int×(List Int)×(List Zn)×(List ZA)×(List Int))⊕(Int×Int×(List Int)×(List Zn)×(List ZA)×(List Int)))->Ex×List V×Zk
  | (.inl r)=>(.ret,[(zN 0),(zN r.1),(zN r.2.1)],[(zK3 t1 mG t2 mL r.2.2.1),(zA r.2.2.2.1),(zA mI),(.arr 3 (List.map Zbn r.2.2.2.2.1)),(.arr 6 (List.map ZbH r.2.2.2.2.2.1)),(zA r.2.2.2.2.2.2)])
  | (.inr r)=>(.exit 0,[.bad,.bad,(zN r.1)],[(zK3 t1 mG t2 mL r.2.1),(zA r.2.2.1),(zA mI),(.arr 3 (List.map Zbn r.2.2.2.1)),(.arr 6 (List.map ZbH r.2.2.2.2.1)),(zA r.2.2.2.2.2)])
theorem ZlE {t0 t1 t2:Bool}{b:List Int}{mG:List Int}{mL:List Zi}{mI:List Int}:∀(s1:Int×(List Int)×Int×(List Int)×(List Zn)×(List ZA)×(List Int)) (r:((Int×Int×Int×(List Int)×(List Zn)×(List ZA)×(List Int))⊕(Int×Int×(List Int)×(List Zn)×(List ZA)×(List Int)))),lp (ZcV b mG mL mI) s1=some r->lpW ctx 6 [0,1,6,7] [4,5,6] ZCR [(.ptr 0 0),(zV t0 b),(zN s1.1),(zV true s1.2.1)] [(zK3 t1 mG t2 mL s1.2.2.1),(zA s1.2.2.2.1),(zA mI),(.arr 3 (List.map Zbn s1.2.2.2.2.1)),(.arr 6 (List.map ZbH s1.2.2.2.2.2.1)),(zA s1.2.2.2.2.2.2)]=some ((Zh2 t0 t1 t2 b mG mL mI) r):=
 lpT (Zh2 t0 t1 t2 b mG mL mI) fun s1 _ ih=>Zf (Zv _ _) (yB (yC ZmX fun x2 _=>
  Zb _ Zns fun x3 _=>
  yB (Zm rfl)
  (yC Zig fun x4 _=>
  Zc (ih _)))
  (Zm rfl))
theorem ZmW {t0 t1 t2:Bool}{b:List Int}{mG:List Int}{mL:List Zi}{mN:Int}{mA:List Int}{mI:List Int}{mH:List Zn}{mK:List ZA}{mJ:List Int}:∀r,(ZgE b mG mL mA mI mH mK mJ)=some r->evW ctx 46 [(.ptr 0 0),(zV t0 b)] [(zK3 t1 mG t2 mL mN),(zA mA),(zA mI),(.arr 3 (List.map Zbn mH)),(.arr 6 (List.map ZbH mK)),(zA mJ)]=some ((Zn2 t0 t1 t2 b mG mL mN mA mI mH mK mJ) r):=
 evS ZHP rfl rfl <| yC Zig fun x0 _=>
  (by
 conv=>rhs;whnf
 refine Zb _ (ZlE _) fun r5 _=>?_
 rcases r5 with r5 | r5
 exact yR
 exact yR)
def Zwp (t0:Bool) (t1:Bool) (a:Zbt):Unit->V×Zk
  | r=>((.agg [(.sl 0 1),(.sl 1 1)]),[(zA a.on),(zA a.left)])
theorem Zup {t0 t1:Bool}{a:Zbt}:∀r,(Zox a)=some r->evW ctx 148 [(.d (ZxU t0 a.on t1 a.left))] []=some ((Zwp t0 t1 a) r):=
 evS ZEP rfl rfl <| Zb _ Zaz fun x0 _=>
  Zb _ Zaz fun x1 _=>
  yR
def ZuE (t0:Bool) (t1:Bool) (t2:Bool) (t3:Bool) (a:ZF) (b:Zbt):(Int⊕((List Int)×(List Int)×(List Int)))->V×Zk
  | (.inl r)=>((.tup [(.agg [(.nilsl 1),(.nilsl 1)]),(.nilsl 1),(zN r)]),[])
  | (.inr r)=>((.tup [(.agg [(.sl 0 1),(.sl 1 1)]),(.sl 2 1),(zN 0)]),[(zA r.1),(zA r.2.1),(zA r.2.2)])
theorem Zsq {t0 t1:Bool}{t2 t3:Bool}{a:ZF}{b:Zbt}:∀r,(Zkr a b)=some r->evW ctx 96 [(.d (zK2 t0 a.work t1 a.edges)),(.d (ZxU t2 b.on t3 b.left))] []=some ((ZuE t0 t1 t2 t3 a b) r):=
 evS ZHy rfl rfl <| yC ZmA fun x0 _=>
  yBr (Zb _ Zup fun x1 _=>
  Zb _ Zm1 fun x2 _=>
  yR)
def ZrU (r:(Int×Bool)):D:=(D.tup [(Zh r.1),(D.bool r.2)])
theorem ZqE {a:Zi}{b0:Int}:∀r,(Zgu a b0)=some r->evD ctx 150 [(.d (zK4 a.src a.dst)),(.d (D.rptr [(Zh b0)]))]=some (ZrU r):=
 evT ZCC rfl rfl <| yBr yR
def ZkZ (r:List Int):D:=(zL true r)
def ZgG (t1:Bool) (a:ZF) (b0:Int):(List Int)->Ex×List V×Zk
  | r=>(.exit 0,[(.sl 0 1)],[(zA r)])
theorem Zi1 {t1:Bool}{a:ZF}{b0:Int}:∀(s0:Int×(List Int)) (r:List Int),lp (Zdw a (fun z0=>Zgu z0 b0)) s0=some r->lpW ctx 0 [1,5,11,12,13] [5] ZwC [(.d (D.fn 150 [(D.rptr [(Zh b0)])])),(.sl 0 1),(zW t1 Z4 a.edges),(zN (a.edges.length:Int)),(zN s0.1)] [(zA s0.2)]=some ((ZgG t1 a b0) r):=
 lpT (ZgG t1 a b0) fun s0 _ ih=>yB (yG fun x1 _=>
  yC ZqE fun x2 _=>
  yB (yT (Zbz (ZeV Zh s0.2 1) (Zf (ZeS Zh s0.2 [x2.1]) (Zc (ih _)))
  Zal))
  (Zc (ih _)))
  (Zm rfl)
theorem Zkk {t0 t1:Bool}{a:ZF}{b0:Int}:∀r,(Zjw a (fun z0=>Zgu z0 b0))=some r->evD ctx 149 [(.d (zK2 t0 a.work t1 a.edges)),(.d (D.fn 150 [(D.rptr [(Zh b0)])]))]=some (ZkZ r):=
 evT ZAA rfl rfl <| Zf (Zv _ _) (Zb _ (Zi1 _) fun r3 _=>
  Zb _ ZdZ fun x4 _=>
  yR)
def Zug (r:List Int):D:=(zL true r)
theorem Zti {t0 t1:Bool}{a:ZF}{b:Int}:∀r,(Zks a b)=some r->evD ctx 97 [(.d (zK2 t0 a.work t1 a.edges)),(zN b)]=some (Zug r):=
 evT ZHM rfl rfl <| yC ZfO fun x0 _=>
  yBr (yC Zkk fun x1 _=>
  yR)
def Zoc (t0:Bool) (t1:Bool) (mG:List Int) (mL:List Zi) (mN:Int) (mA:List Int) (mI:List Int) (mH:List Zn) (mK:List ZA) (mJ:List Int):(Int⊕(((List Zn)×(List Int)×(List Int))⊕((List Zn)×(List Int)×(List Int)×(List Int))))->V×Zk
  | (.inl r)=>((.tup [(.nilsl 1),(zN r)]),[(zK3 t0 mG t1 mL mN),(zA mA),(zA mI),(.arr 3 (List.map Zbn mH)),(.arr 6 (List.map ZbH mK)),(zA mJ)])
  | (.inr (.inl r))=>((.tup [(.nilsl 1),(zN 130)]),[(.cells [(.sl 6 1),(.sl 7 1),(.sl 3 3),(.sl 4 6),(.sl 5 1),(zV t0 mG),(zW t1 Z4 mL),(zN mN)]),(zA mA),(zA mI),(.arr 3 (List.map Zbn r.1)),(.arr 6 (List.map ZbH mK)),(zA mJ),(zA r.2.1),(zA r.2.2)])
  | (.inr (.inr r))=>((.tup [(.sl 6 1),(zN 0)]),[(.cells [(.sl 7 1),(.sl 8 1),(.sl 3 3),(.sl 4 6),(.sl 5 1),(zV t0 mG),(zW t1 Z4 mL),(zN mN)]),(zA mA),(zA mI),(.arr 3 (List.map Zbn r.1)),(.arr 6 (List.map ZbH mK)),(zA mJ),(zA r.2.1),(zA r.2.2.1),(zA r.2.2.2)])
def ZhR (t0:Bool) (t1:Bool) (mG:List Int) (mL:List Zi) (mN:Int) (mA:List Int) (mI:List Int) (mK:List ZA) (mJ:List Int) (x1:((List Int)×(List Int)×(List Int))) (x2:List Int) (s3:Int×(List Zn)×(List Int)) (x6:List Int):(((List Zn)×(List Int))⊕((List Zn)×(List Int)))->Ex×List V×Zk
  | (.inl r)=>(.ret,[(.ptr 0 0),(.nilsl 1),(zN 130),(.sl 6 1),(zV true x2),(.fn 1000054 [(.ptr 0 0)]),(.sl 7 1),(.sl 8 1),(zN (mA.length:Int)),(zN s3.1)],[(.cells [(.sl 9 1),(.sl 10 1),(.sl 3 3),(.sl 4 6),(.sl 5 1),(zV t0 mG),(zW t1 Z4 mL),(zN mN)]),(zA mA),(zA mI),(.arr 3 (List.map Zbn r.1)),(.arr 6 (List.map ZbH mK)),(zA mJ),(zA x1.2.2),(zA r.2),(zA mA),(zA x1.1),(zA x1.2.1)])
  | (.inr r)=>(.exit 2,[(.ptr 0 0),.bad,.bad,(.sl 6 1),(zV true x2),(.fn 1000054 [(.ptr 0 0)]),(.sl 7 1),(.sl 8 1),(zN (mA.length:Int)),(zN s3.1)],[(.cells [(.sl 9 1),(.sl 10 1),(.sl 3 3),(.sl 4 6),(.sl 5 1),(zV t0 mG),(zW t1 Z4 mL),(zN mN)]),(zA mA),(zA mI),(.arr 3 (List.map Zbn r.1)),(.arr 6 (List.map ZbH mK)),(zA mJ),(zA x1.2.2),(zA r.2),(zA mA),(zA x1.1),(zA x1.2.1)])
theorem ZlK {t0 t1:Bool}{mG:List Int}{mL:List Zi}{mN:Int}{mA:List Int}{mI:List Int}{mK:List ZA}{mJ:List Int}{x1:((List Int)×(List Int)×(List Int))}{x2:List Int}{s3:Int×(List Zn)×(List Int)}{x6:List Int}:∀(s7:Int×(List Zn)×(List Int)) (r:(((List Zn)×(List Int))⊕((List Zn)×(List Int)))),lp (Zci x2 s3 x6) s7=some r->lpW ctx 6 [0,6,8,9,10,11,52,53,54,78,79,80] [0,2,3,6,8,9,10,52,53,54] ZFo [(.ptr 0 0),(.sl 6 1),(zV true x2),(.fn 1000054 [(.ptr 0 0)]),(.sl 7 1),(zN s3.1),(.sl 8 1),(zN (mA.length:Int)),(zN s3.1),(zV true x6),(zN (x6.length:Int)),(zN s7.1)] [(.cells [(.sl 9 1),(.sl 10 1),(.sl 3 3),(.sl 4 6),(.sl 5 1),(zV t0 mG),(zW t1 Z4 mL),(zN mN)]),(zA mA),(zA mI),(.arr 3 (List.map Zbn s7.2.1)),(.arr 6 (List.map ZbH mK)),(zA mJ),(zA x1.2.2),(zA s7.2.2),(zA mA),(zA x1.1),(zA x1.2.1)]=some ((ZhR t0 t1 mG mL mN mA mI mK mJ x1 x2 s3 x6) r):=
 lpT (ZhR t0 t1 mG mL mN mA mI mK mJ x1 x2 s3 x6) fun s7 _ ih=>yB (yG fun x8 _=>
  yC Zak fun x9 _=>
  yB (yC Zak fun x10 _=>
  yB (Zc (ih _))
  (by
 conv=>rhs;whnf
 refine Zb _ ZiQ fun x11 _=>?_
 rcases x11 with x11 | x11
 exact yT (Zbz (ZeV Zh s7.2.2 1) (Zf (ZeS Zh s7.2.2 [x8]) (Zc (ih _)))
  Zal)
 exact Zm rfl))
  (Zc (ih _)))
  (Zm rfl)
def ZhQ (t0:Bool) (t1:Bool) (mG:List Int) (mL:List Zi) (mN:Int) (mA:List Int) (mI:List Int) (mK:List ZA) (mJ:List Int) (x1:((List Int)×(List Int)×(List Int))) (x2:List Int):((List Zn)⊕(List Zn))->Ex×List V×Zk
  | (.inl r)=>(.ret,[(.nilsl 1),(zN 130),(.sl 6 1)],[(.cells [(.sl 7 1),(.sl 8 1),(.sl 3 3),(.sl 4 6),(.sl 5 1),(zV t0 mG),(zW t1 Z4 mL),(zN mN)]),(zA mA),(zA mI),(.arr 3 (List.map Zbn r)),(.arr 6 (List.map ZbH mK)),(zA mJ),(zA x1.2.2),(zA x1.1),(zA x1.2.1)])
  | (.inr r)=>(.exit 0,[.bad,.bad,(.sl 6 1)],[(.cells [(.sl 7 1),(.sl 8 1),(.sl 3 3),(.sl 4 6),(.sl 5 1),(zV t0 mG),(zW t1 Z4 mL),(zN mN)]),(zA mA),(zA mI),(.arr 3 (List.map Zbn r)),(.arr 6 (List.map ZbH mK)),(zA mJ),(zA x1.2.2),(zA x1.1),(zA x1.2.1)])
theorem Zls {t0 t1:Bool}{mG:List Int}{mL:List Zi}{mN:Int}{mA:List Int}{mI:List Int}{mK:List ZA}{mJ:List Int}{x1:((List Int)×(List Int)×(List Int))}{x2:List Int}:∀(s3:Int×(List Zn)×(List Int)) (r:((List Zn)⊕(List Zn))),lp (Zck mG mL mA x1 x2) s3=some r->lpW ctx 6 [0,6,8,9,10,52,53,54] [2,3,6] ZDf [(.ptr 0 0),(.sl 6 1),(zV true x2),(.fn 1000054 [(.ptr 0 0)]),(.sl 7 1),(.sl 8 1),(zN (mA.length:Int)),(zN s3.1)] [(.cells [(.sl 9 1),(.sl 10 1),(.sl 3 3),(.sl 4 6),(.sl 5 1),(zV t0 mG),(zW t1 Z4 mL),(zN mN)]),(zA mA),(zA mI),(.arr 3 (List.map Zbn s3.2.1)),(.arr 6 (List.map ZbH mK)),(zA mJ),(zA x1.2.2),(zA s3.2.2),(zA mA),(zA x1.1),(zA x1.2.1)]=some ((ZhQ t0 t1 mG mL mN mA mI mK mJ x1 x2) r):=
 lpT (ZhQ t0 t1 mG mL mN mA mI mK mJ x1 x2) fun s3 _ ih=>yB (yG fun x4 hx4=>
  Zd (Zp rfl hx4) (yB (Zc (ih _))
  (yG fun x5 hx5=>
  Zd (Zp rfl hx5) (yB (Zc (ih _))
  (yC Zti fun x6 _=>
  Zf (Zv _ _) (by
 conv=>rhs;whnf
 refine Zb _ (ZlK _) fun r12 _=>?_
 rcases r12 with r12 | r12
 exact Zm rfl
 exact Zc (ih _)))))))
  (Zm rfl)
theorem Znz {t0 t1:Bool}{mG:List Int}{mL:List Zi}{mN:Int}{mA:List Int}{mI:List Int}{mH:List Zn}{mK:List ZA}{mJ:List Int}:∀r,(ZgH mG mL mA mI mH)=some r->evW ctx 48 [(.ptr 0 0)] [(zK3 t0 mG t1 mL mN),(zA mA),(zA mI),(.arr 3 (List.map Zbn mH)),(.arr 6 (List.map ZbH mK)),(zA mJ)]=some ((Zoc t0 t1 mG mL mN mA mI mH mK mJ) r):=
 evS ZHU rfl rfl <| Zb _ Zaz fun x0 _=>
  (by
 conv=>rhs;whnf
 refine Zb _ Zsq fun x1 _=>?_
 rcases x1 with x1 | x1
 exact yBm yR
 exact yF (yC Zi6 fun x2 _=>
  Zf (Zv _ _) (by
 conv=>rhs;whnf
 refine Zb _ (Zls _) fun r13 _=>?_
 rcases r13 with r13 | r13
 exact yR
 exact yR)))
def Zuy (r:((List (List Int))×Int×Int)):D:=(D.tup [(D.list true (List.map (Zf3 true) r.1)),(Zh r.2.1),(Zh r.2.2)])
def Zld (t0:Bool) (t1:Bool) (t2:Bool) (t3:Bool) (a:ZF) (b:List Int) (c:Int) (d:List Int) (x0:((List Int)×(List Zn))):Int->Ex×List V×Zk
  | r=>(.exit 0,[(zV t3 d),(.ptr 0 0),(.ptr 1 0),(zN r)],[(zK1 t0 a.work t1 a.edges),(.cells [(.sl 2 1),(.sl 3 1),(.sl 4 3),(.sl 5 6),(.sl 6 1)]),(zA x0.1),(zA b),(.arr 3 (List.map Zbn x0.2)),(.arr 6 (List.map ZbH (List.replicate c.toNat ((ZA.mk false 0 0 0 0 0):ZA)))),(zA (List.replicate c.toNat (0:Int)))])
theorem ZpG {t0 t1:Bool}{t2 t3:Bool}{a:ZF}{b:List Int}{c:Int}{d:List Int}{x0:((List Int)×(List Zn))}:∀(s1:Int×Int) (r:Int),lp (ZgS b) s1=some r->lpW ctx 0 [3,4,11,13,33,34,35] [3,4,11,13] ZBV [(zV t3 d),(.ptr 0 0),(.ptr 1 0),(zN s1.1),(zV t2 b),(zN (b.length:Int)),(zN s1.2)] [(zK1 t0 a.work t1 a.edges),(.cells [(.sl 2 1),(.sl 3 1),(.sl 4 3),(.sl 5 6),(.sl 6 1)]),(zA x0.1),(zA b),(.arr 3 (List.map Zbn x0.2)),(.arr 6 (List.map ZbH (List.replicate c.toNat ((ZA.mk false 0 0 0 0 0):ZA)))),(zA (List.replicate c.toNat (0:Int)))]=some ((Zld t0 t1 t2 t3 a b c d x0) r):=
 lpT (Zld t0 t1 t2 t3 a b c d x0) fun s1 _ ih=>yB (yG fun x2 _=>
  Zc (ih _))
  (Zm rfl)
def Zlg (t0:Bool) (t1:Bool) (t3:Bool) (a:ZF) (d:List Int):((Int×Int×(List (List Int)))⊕(Int×(List (List Int))))->Ex×List V×Zk
  | (.inl r)=>(.ret,[(.nilsl 1),(zN 0),(zN r.1),(.sl 0 1),(zN r.2.1)],[(.arr 1 (List.map (Zf3 true) r.2.2))])
  | (.inr r)=>(.exit 2,[.bad,.bad,.bad,(.sl 0 1),(zN r.1)],[(.arr 1 (List.map (Zf3 true) r.2))])
theorem ZpS {t0 t1 t3:Bool}{a:ZF}{d:List Int}:∀(s4:Int×Int×(List (List Int))×(List Int)×(List Int)×(List Zn)×(List ZA)×(List Int)) (r:((Int×Int×(List (List Int)))⊕(Int×(List (List Int))))),lp (Zd2 a d) s4=some r->lpW ctx 0 [3,16,17,18] [8,9,10,17,18] ZEv [(zV t3 d),(.ptr 0 0),(.sl 1 1),(zN s4.1)] [(.cells [(.sl 2 1),(.sl 3 1),(.sl 4 3),(.sl 5 6),(.sl 6 1),(zV t0 a.work),(zW t1 Z4 a.edges),(zN s4.2.1)]),(.arr 1 (List.map (Zf3 true) s4.2.2.1)),(zA s4.2.2.2.1),(zA s4.2.2.2.2.1),(.arr 3 (List.map Zbn s4.2.2.2.2.2.1)),(.arr 6 (List.map ZbH s4.2.2.2.2.2.2.1)),(zA s4.2.2.2.2.2.2.2)]=some ((Zlg t0 t1 t3 a d) r):=
 lpT (Zlg t0 t1 t3 a d) fun s4 _ ih=>yC Ze0 fun x5 _=>
  yB (Zf (Zv _ _) (yBm (Zbz (ZwQ Zh d (bif decide ((d.length:Int)<s4.1) then (d.length:Int) else s4.1).toNat) (ZlA (ZCB Zh (fun _=>⟨rfl,rfl⟩) d _) (Zf (Ztu Zh d (bif decide ((d.length:Int)<s4.1) then (d.length:Int) else s4.1).toNat) (Zb _ ZmW fun x6 _=>
  yB (Zm rfl)
  (Zb _ Zaz fun x7 _=>
  yT (Zbz (ZeV (Zf3 true) s4.2.2.1 1) (Zf (ZeS (Zf3 true) s4.2.2.1 [x6.2.2.2.1]) (by
 conv=>rhs;whnf
 refine Zb _ Znz fun x8 _=>?_
 rcases x8 with x8 | (x8 | x8)
 exact yBm (Zm rfl)
 exact yT (Zm rfl)
 exact yF (Zc (ih _))))
  Zal)))))
  Zal)))
  (Zm rfl)
theorem ZsO {t0 t1:Bool}{t2 t3:Bool}{a:ZF}{b:List Int}{c:Int}{d:List Int}:∀r,(ZkJ a b c d)=some r->evD ctx 12 [(.d (zK2 t0 a.work t1 a.edges)),(zV t2 b),(zN c),(zV t3 d)]=some (Zuy r):=
 evT ZHC rfl rfl <| (by
 conv=>rhs;whnf
 refine Zb _ Zsy fun x0 _=>?_
 rcases x0 with x0 | x0
 exact yBm yR
 exact yF (Zf (Zv _ _) (Zb _ (ZpG _) fun r3 _=>
  yBr (by
 conv=>rhs;whnf
 refine Zb _ (ZpS _) fun r9 _=>?_
 rcases r9 with r9 | r9
 exact yR
 exact yR))))
def Znb (r:Bool):D:=(D.bool r)
def ZhN (t0:Bool) (t1:Bool) (t2:Bool) (t3:Bool) (t4:Bool) (t5:Bool) (a:Zq) (b:List Int) (c:List Int) (x6:(Int×Int)) (x8:(ZvT×Int)):(List Int)->Ex×List V×Zk
  | r=>(.exit 0,[(zV t5 c),(.ptr 0 0),(zN x6.1),(.ptr 1 0),(.sl 2 1)],[(.cells (dV t0 t1 t2 t3 a)),(.cells [(zV true x8.1.dag.work),(zW true Z4 x8.1.dag.edges),(zW true Zby x8.1.pieces)]),(zA r)])
theorem Zk0 {t0 t1:Bool}{t2 t3:Bool}{t4 t5:Bool}{a:Zq}{b:List Int}{c:List Int}{x6:(Int×Int)}{x8:(ZvT×Int)}:∀(s9:Int×(List Int)) (r:List Int),lp (Zbx b) s9=some r->lpW ctx 0 [1,2,3,9,11,13,14] [2,3,9,11,13] ZGL [(zV t4 b),(zV t5 c),(.ptr 0 0),(zN x6.1),(.ptr 1 0),(.sl 2 1),(zN s9.1)] [(.cells (dV t0 t1 t2 t3 a)),(.cells [(zV true x8.1.dag.work),(zW true Z4 x8.1.dag.edges),(zW true Zby x8.1.pieces)]),(zA s9.2)]=some ((ZhN t0 t1 t2 t3 t4 t5 a b c x6 x8) r):=
 lpT (ZhN t0 t1 t2 t3 t4 t5 a b c x6 x8) fun s9 _ ih=>Zf (Zv _ _) (yB (Zf (Zv _ _) (yB (yG fun x10 hx10=>
  Zd (Zp rfl hx10) (yG fun x11 _=>
  Zd (Zax rfl hx10) (Zd (Zp rfl hx10) (Zf (ZZ Zh s9.2 s9.1.toNat (bif decide (1<(w64 (x10-(bif decide ((bif decide (1000<x11) then 1000 else x11)<0) then 0 else (bif decide (1000<x11) then 1000 else x11))))) then (w64 (x10-(bif decide ((bif decide (1000<x11) then 1000 else x11)<0) then 0 else (bif decide (1000<x11) then 1000 else x11)))) else 1)) (Zc (ih _))))))
  (Zm rfl)))
  (Zm rfl))
theorem ZmL {t0 t1:Bool}{t2 t3:Bool}{t4 t5:Bool}{a:Zq}{b:List Int}{c:List Int}:∀r,(ZhG a b c)=some r->evD ctx 8 [(.d (D.agg (dA t0 t1 t2 t3 a))),(zV t4 b),(zV t5 c)]=some (Znb r):=
 evT fn8 rfl rfl <| yC ZfI fun x0 _=>
  yB (yC ZtM fun x1 _=>
  yB (Zf (Zv _ _) (yB (yC ZfI fun x2 _=>
  yBr yR)
  (Zf (Zv _ _) (yB (yC ZfI fun x3 _=>
  yBr yR)
  (Zb _ Zm5 fun x4 _=>
  yC ZqL fun x5 _=>
  yC ZqT fun x6 _=>
  yBr (yBr (yBr (Zb _ Zm5 fun x7 _=>
  yC Zlw fun x8 _=>
  ZlA (Zg4 (f:=Zh) (fun _=>⟨rfl,rfl⟩) x8.1.dag.work 0) (Zbz (Zhr Zh x8.1.dag.work) (Zf (rfl:_=List.map Zh x8.1.dag.work) (Zb _ (Zk0 _) fun r12 _=>
  ZlA (Zg4 (f:=Zh) (fun _=>⟨rfl,rfl⟩) r12 0) (Zbz (Zhr Zh r12) (Zf (rfl:_=List.map Zh r12) (yC ZuC fun x13 _=>
  ZlA (Zg4 (f:=Zh) (fun _=>⟨rfl,rfl⟩) r12 0) (Zbz (Zhr Zh r12) (Zf (rfl:_=List.map Zh r12) (ZlA (Zg4 (f:=Zh) (fun _=>⟨rfl,rfl⟩) c 0) (Zbz (Zhr Zh c) (Zf (rfl:_=List.map Zh c) (yC ZsO fun x14 _=>
  yB (yB (Zf (Zv _ _) (yB (Zf (Zv _ _) (yBr yR))
  yR))
  yR)
  yR))
  Zal)))
  Zal)))
  Zal)))
  Zal)))))))))
  (yC ZfI fun x15 _=>
  yBr yR))
  (yC ZfI fun x16 _=>
  yBr yR)
abbrev Zom:List Lf×Bool:=([.sl false [.int .i64]],false)
abbrev Zx3:List Lf×Bool:=([.int .i64,.int .i64,.sl true [.int .i64,.int .i64,.int .i64],.sl true [.int .i64,.int .i64],.sl true [.int .i64,.int .i64,.int .i64],.sl true [.sl false [.int .i64],.sl false [.int .i64]]],true)
def ZzU (W l:List Int):Prop:=l.length=W.length/\∀(j:Nat) (x:Int),l[j]? = some x->∃w,W[j]? = some w/\1<=x/\x<=w
theorem ZAc (y:Int):0<=(bif decide ((bif decide (1000<y) then 1000 else y)<0) then 0 else (bif decide (1000<y) then 1000 else y))/\(bif decide ((bif decide (1000<y) then 1000 else y)<0) then 0 else (bif decide (1000<y) then 1000 else y))<=1000:=by
 by_cases a1:1000<y
 ·simp[a1]
 ·by_cases a3:y<0
  ·simp[a1,a3]
  ·simp[a1,a3];omega
theorem ZFX {x m:Int} (h1:1<=x) (h2:x<=1000) (h3:0<=m) (h4:m<=1000):1<=(bif decide (1<w64 (x-m)) then w64 (x-m) else 1)/\(bif decide (1<w64 (x-m)) then w64 (x-m) else 1)<=x:=by
 rw[ZaA (show -9223372036854775808<=x-m by omega) (by omega)]
 by_cases a:1<x-m
 ·rw[decide_eq_true a];simp only[cond_true];omega
 ·rw[decide_eq_false a];simp only[cond_false];omega
theorem Zy0 {W:List Int} (h64:W.length<=64) (hW:∀x∈W,x<=1000) (less:List Int) (hl:less.length<=60):∀(k i:Nat) (l:List Int),i+k=W.length->ZzU W l->∃r,lp (Zbx less) ((i:Int),l)=some r/\ZzU W r:=by
 intro k
 induction k with
 | zero=>
  intro i l hi I
  have e:i=l.length:=by have:=I.1;omega
  subst e
  exact⟨l,by rw[Zae];simp only[Zbx,ZdO,cond_false],I⟩
 | succ k ih=>
  intro i l hi I
  have hIl:=I.1
  have hil:i<l.length:=by omega
  rw[Zae]
  by_cases h2:i<less.length
  ·have hx:=List.getElem?_eq_getElem hil
   have hy:=List.getElem?_eq_getElem h2
   generalize l[i]=x at hx
   generalize less[i]=y at hy
   obtain⟨w,w1,w2,w3⟩:=I.2 i x hx
   have w4:=hW w (List.mem_of_getElem? w1)
   have key:∀v:Int,1<=v->v<=x->ZzU W (l.set i v):=fun v v1 v2=>by
    refine⟨by rw[List.length_set];exact I.1,fun j z hj=>?_⟩
    rw[List.getElem?_set] at hj
    split at hj
    ·rename_i e
     subst e
     cases hj
     exact⟨w,w1,v1,by omega⟩
    ·exact I.2 j z hj
   simp only[Zbx,Zcx hil,Zcx h2,cond_true,ZN hx,ZN hy,Option.bind_some,ZL hil (show l.length<9223372036854775808 by omega),Int.toNat_natCast]
   have hv:=ZFX (x:=x) (m:=_) (by omega) (by omega) (ZAc y).1 (ZAc y).2
   exact ih (i+1) _ (by omega) (key _ hv.1 hv.2)
  ·have hf:decide ((i:Int)<(less.length:Int))=false:=decide_eq_false (by omega)
   exact⟨l,by simp only[Zbx,Zcx hil,cond_true,hf,cond_false],I⟩
theorem Zxd:∀(W l:List Int),ZzU W l->l.sum<=W.sum
 | [],l,h=>by have:l=[]:=List.eq_nil_of_length_eq_zero (by have:=h.1;simpa using this);subst this;simp
 | w :: W,[],h=>by have:=h.1;simp at this
 | w :: W,x :: l,h=>by
  rw[List.sum_cons,List.sum_cons]
  have h1:=Zxd W l ⟨by have:=h.1;simpa using this,fun j y hj=>by
   have:=h.2 (j+1) y (by simpa using hj)
   simpa using this⟩
  obtain⟨w',e1,e2,e3⟩:=h.2 0 x rfl
  simp at e1
  omega
theorem Zte (d:Zq) (less picks:List Int):ZhG d less picks=some true:=by
 have aw:Zfh=some true:=rfl
 unfold ZhG
 simp only[aw,cond_true,ZIF,Option.bind_some]
 cases hf:few d with
 | false=>rfl
 | true=>
 have hz:=ZAW hf
 rw[cond_true]
 by_cases h60:60<(less.length:Int)
 ·rw[decide_eq_true h60];rfl
 rw[decide_eq_false h60,cond_false]
 by_cases h300:300<(picks.length:Int)
 ·rw[decide_eq_true h300];rfl
 rw[decide_eq_false h300,cond_false]
 simp only[ZKx d hz,Option.bind_some,show Zq.mk d.period d.deadline d.parts d.edges d.futures d.barriers=d from rfl]
 rcases ZGE hz with⟨s,h1,h2⟩ | ⟨h1,hcd,hcg,F,M,r,hF,h2⟩
 ·rw[h1,Option.bind_some]
  simp only[Zz9,Option.bind_some,show((ZsA d).2 != 0)=true from bne_iff_ne.2 h2,cond_true]
 ·rw[h2,Option.bind_some]
  generalize hs:(Zd6.mk (Zcn d).dag.work.sum M r d.deadline d.period)=s
  simp only[Zz9,Option.bind_some,bne_self_eq_false,cond_false]
  have st:s.total=(Zcn d).dag.work.sum:=by rw[<- hs]
  have sl:s.long=M:=by rw[<- hs]
  have sd:s.deadline=d.deadline:=by rw[<- hs]
  cases he:(ZlT s).2 != 0 with
  | true=>rfl
  | false=>
  have he:=bne_eq_false_iff_eq.1 he
  rw[cond_false]
  by_cases h3:300<s.total
  ·rw[decide_eq_true h3];rfl
  rw[decide_eq_false h3,cond_false]
  have hcores:1<=(ZlT s).1/\(ZlT s).1<=8/\s.total+((ZlT s).1-1)*s.long<=(ZlT s).1*s.deadline/\ZzJ s:=by
   unfold ZlT at he ⊢
   cases ho:Zmc s with
   | false=>rw[ho] at he;exact absurd (show(140:Int)=0 from he) (by decide)
   | true=>
    have o:=Zx2 ho
    have o2:=o.d1;have o4:=o.t1;have o6:=o.l1;have o7:=o.l2
    rw[ho] at he
    simp only[cond_true] at he ⊢
    by_cases q1:s.deadline<s.total
    ·rw[decide_eq_true q1] at he ⊢
     simp only[cond_true] at he ⊢
     by_cases q2:s.deadline<=s.long
     ·rw[decide_eq_true q2] at he;exact absurd (show(141:Int)=0 from he) (by decide)
     ·rw[decide_eq_false q2] at he ⊢
      simp only[cond_false] at he ⊢
      by_cases q3:8<upN s
      ·rw[decide_eq_true q3] at he;exact absurd (show(142:Int)=0 from he) (by decide)
      ·rw[decide_eq_false q3]
       simp only[cond_false]
       have hu:=(ZCh (show s.long<s.deadline by omega) (upN s)).1 (Int.le_refl _)
       have h1:1<=upN s:=by
        apply Classical.byContradiction
        intro hn
        have h0:upN s<=0:=by omega
        have:=(ZCh (show s.long<s.deadline by omega) 0).1 h0
        omega
       refine⟨h1,by omega,?_,o⟩
       rw[Int.mul_sub] at hu
       rw[Int.sub_mul,Int.one_mul]
       omega
    ·rw[decide_eq_false q1]
     simp only[cond_false]
     refine⟨by omega,by omega,by omega,o⟩
  obtain⟨n1,n8,nb,ok⟩:=hcores
  generalize hn:(ZlT s).1=n at n1 n8 nb
  rw[ZAg hz,Option.bind_some,h1]
  have g:=ZsW hcd
  obtain⟨hG,hA⟩:=Za9 hcg
  have hwl:=hG.wl
  have ge:∀x∈(Zcn d).dag.work,1<=x:=Zvf g
  obtain⟨need,e1,I⟩:=Zy0 hwl (fun x hx=>(hG.w x hx).2) less (by omega) (Zcn d).dag.work.length 0 (Zcn d).dag.work (by omega) ⟨rfl,fun j x hj=>⟨x,hj,ge x (List.mem_of_getElem? hj),Int.le_refl _⟩⟩
  have hnl:=I.1
  have e1:lp (Zbx less) (0,(Zcn d).dag.work)=some need:=e1
  simp only[Zgn (show(Zcn d).dag.work.length<=1073741824 by omega),cond_true,e1,Option.bind_some,Zgn (show need.length<=1073741824 by omega),Zgn (show picks.length<=1073741824 by omega)]
  have hin:Zo6 (Zcn d).dag need n:=⟨hcg,hnl,fun x hx=>by
   obtain⟨j,hj⟩:=List.getElem?_of_mem hx
   obtain⟨w,w1,w2,w3⟩:=I.2 j x hj
   have:=(hG.w w (List.mem_of_getElem? w1)).2
   omega,n1,n8⟩
  have hsum:=Zxd _ _ I
  have hle:∀z,isN need z->lf need z<=lf (Zcn d).dag.work z:=fun z hz'=>by
   obtain⟨w,w1,w2,w3⟩:=I.2 z.toNat _ (ZjZ hz'.1 hz'.2)
   have h4:=ZjZ (left:=(Zcn d).dag.work) hz'.1 (by rw[<- hnl];exact hz'.2)
   rw[w1] at h4
   rw[<- Option.some.inj h4]
   exact w3
  have hM:0<=M:=by have:=ok.l1;omega
  have bound:∀t,ZtC (Zcn d).dag need n.toNat t->(t.length:Int)<=d.deadline:=fun t R=>by
   obtain⟨left,on,S,hz0⟩:=R.done
   have gb:=ZIi (h:=(Zcn d).dag) hin S rfl hnl.symm hle hF hM
   have hl0:0<=left.sum:=by
    have hcr:=S.crew hin.rng (by rw[hnl];exact Zhk hG)
    exact(ZoI left fun x hx=>hcr.rng x hx).1
   rw[st,sl,sd] at nb
   have:n*(t.length:Int)<=n*d.deadline:=by omega
   exact Int.le_of_mul_le_mul_left this (by omega)
  obtain⟨t,r1,R1⟩:=ZBa hin (by omega)
  obtain⟨u,steps,r2,R2⟩:=ZKn (picks:=picks) hin (by omega) (by omega)
  rw[r1,Option.bind_some,r2,Option.bind_some]
  simp only[beq_self_eq_true,cond_true,decide_eq_true (bound t R1),decide_eq_true (bound u R2)]
theorem ZuH (xs:List D) (h:Zif Zx3.1 xs) (ys:List D) (k:Zif Zom.1 ys) (zs:List D) (m:Zif Zom.1 zs) :
  ∃H',evW ctx 8 (ZcD [Ztf Zx3.2 xs,Ztf Zom.2 ys,Ztf Zom.2 zs]) []=some (.d (.bool true),H'):=by
 obtain⟨d,e0,_⟩:=ZFt h
 obtain⟨d1,e1,_⟩:=Zs0 k
 obtain⟨d2,e2,_⟩:=Zs0 m
 show ∃H',evW ctx 8 [.d (D.agg xs),.d (Ztf false ys),.d (Ztf false zs)] []=_
 rw[e0,e1,e2]
 exact ZFe (ZmL true (Zte d d1 d2))
end Go.Proofs.YtgcfmiajkbbmeaaGreatDoor
namespace Go.Proofs.YtgcfmiajkbbmeaaGreatDoor.LawClassMeets
open Go.ChangeShapes Go.WideShapes Go.ChangeAt Go.RowKit Go.Proofs.YtgcfmiajkbbmeaaGreatDoorE
theorem own:ownKnob Tryz.prog.godebug=none:=by kernel_rfl
theorem Zwh:laidOutB Tryz.prog=true:=by kernel_rfl
def Zt8 : List (String × DataW Unit) := [("math/bits.deBruijn32tab", Rows.laid_math_bits_deBruijn32tab), ("math/bits.deBruijn64tab", Rows.laid_math_bits_deBruijn64tab)]
theorem ZEN (os:Os) (args:Array Value):laidMetH Tryz.prog Zt8 ((World.doorLaid Tryz.prog 19 os).forCall (fun _ _=>0) ⟨#[],args,[]⟩).memory:=
 laidMetH_of_parts3 (fuel:=8) (laidMet_of_run' 8 (by kernel_rfl) (by kernel_rfl)) (by kernel_rfl) (by kernel_rfl)
theorem ZCN {W:World} (h:laidMetH Tryz.prog Zt8 W):GOK Zln R0 W:=by
 intro g l hg
 unfold Zln at hg
 split at hg
 ·cases hg
  exact Ztz (t := 246) (N := 32) (e := 5) (k := .u8) h (by kernel_rfl) (n := "math/bits.deBruijn32tab") (by rw [show DataW.agg (ZoT ZG0) = Rows.laid_math_bits_deBruijn32tab by kernel_rfl]; simp [Zt8]) (by kernel_rfl) (by kernel_rfl) (by kernel_rfl) (by kernel_rfl) (by kernel_rfl) (by kernel_rfl) (by decide)
 ·cases hg
  exact Ztz (t := 247) (N := 64) (e := 5) (k := .u8) h (by kernel_rfl) (n := "math/bits.deBruijn64tab") (by rw [show DataW.agg (ZoT ZGM) = Rows.laid_math_bits_deBruijn64tab by kernel_rfl]; simp [Zt8]) (by kernel_rfl) (by kernel_rfl) (by kernel_rfl) (by kernel_rfl) (by kernel_rfl) (by kernel_rfl) (by decide)
 ·cases hg
theorem ZHZ (os:Os) (started:os.Started) (H:Type) (enc:TypeId×Value->H) :
  ReturnsInHanded {} Tryz.checked os 8 .any (fun w args=>(Rows.classMeetsSpec.pre enc Tryz.prog Tryz.f8 [] false w args/\laidMetH Tryz.prog Zt8 w)/\sizedMet enc Tryz.prog Tryz.f8 (OpenSpec.ofChange Rows.classMeetsSpec) false w args) (Rows.classMeetsSpec.post enc Tryz.prog Tryz.f8 false true false false):=by
 refine returnsInHanded_of_change_and (C:=Tryz.checked) (X:=fun w _=>laidMetH Tryz.prog Zt8 w) (fun _ _ _ hh h=>h.of_heap hh) own started (by kernel_rfl) Tryz.func8
  (ChangeSpec.witness_shaped (enc:=enc) (C:=Tryz.checked) (os:=os) (X:=fun w _=>laidMetH Tryz.prog Zt8 w) false (World.doorLaid Tryz.prog 19 os) #[.agg #[.int .i64 0,.int .i64 0,.slice none 0 0,.slice none 0 0,.slice none 0 0,.slice none 0 0],.slice none 0 0,.slice none 0 0] 8 rfl (World.shaped_of_RefB (by kernel_rfl) (by kernel_rfl)) (by kernel_rfl) (by kernel_rfl) (by kernel_rfl) (ZEN os _)) ?_
 intro W base args ds gs before hval0 hW _ _ hL _
 have hval:∀(j:Nat) t v,Tryz.f8.params[j]? = some t->args[j]? = some v->Value.okWide Tryz.prog W .any base t v:=hval0
 have hW':=hW
 obtain⟨p,q,hA0,hV,rfl,hfz,hnd⟩:=hW
 have hA:DataW.TrodAll enc Tryz.prog W 0 (fun _=>true) true Tryz.f8.params.toList args.toList ds p:=hA0
 rw[Tryz.params8] at hA hval
 obtain⟨v0,vs0,d0,ds0,p0,q0,hargs,rfl,rfl,h0,r0⟩:=trodAll_cons hA
 obtain⟨v1,vs1,d1,ds1,p1,q1,rfl,rfl,rfl,h1,r1⟩:=trodAll_cons r0
 obtain⟨v2,vs2,d2,ds2,p2,q2,rfl,rfl,rfl,h2,r2⟩:=trodAll_cons r1
 obtain⟨rfl,rfl,rfl⟩:=trodAll_nil r2
 obtain rfl:args = #[v0,v1,v2]:=by cases args;simp_all
 obtain⟨rfl,rfl⟩:=trodVars_none hV
 have lt0:∀x∈p0,x.block<W.heap.size:=by obtain⟨m,hm⟩:=h0;exact DataW.trod_lt m _ _ _ hm
 obtain⟨x0,ok0,den0⟩:=ZyC (P:=Tryz.prog) (n:=8) (t:=69) (l:=Zx3.1) (ag:=Zx3.2) (by kernel_rfl) (hval 0 69 v0 rfl rfl) h0
 have lt1:∀x∈p1,x.block<W.heap.size:=by obtain⟨m,hm⟩:=h1;exact DataW.trod_lt m _ _ _ hm
 obtain⟨x1,ok1,den1⟩:=ZyC (P:=Tryz.prog) (n:=8) (t:=22) (l:=Zom.1) (ag:=Zom.2) (by kernel_rfl) (hval 1 22 v1 rfl rfl) h1
 have lt2:∀x∈p2,x.block<W.heap.size:=by obtain⟨m,hm⟩:=h2;exact DataW.trod_lt m _ _ _ hm
 obtain⟨x2,ok2,den2⟩:=ZyC (P:=Tryz.prog) (n:=8) (t:=22) (l:=Zom.1) (ag:=Zom.2) (by kernel_rfl) (hval 2 22 v2 rfl rfl) h2
 obtain⟨H1,ev⟩:=ZuH x0 ok0 x1 ok1 x2 ok2
 have den:ZaI All All All W [Ztf Zx3.2 x0,Ztf Zom.2 x1,Ztf Zom.2 x2] [v0,v1,v2]:=⟨_,_,rfl,den0,⟨_,_,rfl,den1,⟨_,_,rfl,den2,rfl⟩⟩⟩
 refine(ZBC ZJE (ZCN hL) den ev).mono fun e W' ⟨he,bel⟩=>?_
 subst he
 exact⟨_,rfl,_,_,_,[],_,[],hW',trodAll_mk1 (shut_bool Tryz.underlying4 _),(trodAll_cons_mk (Below.trod Zwh (by kernel_rfl) (of_decide_eq_true (by kernel_rfl)) h0 bel lt0) (trodAll_cons_mk (Below.trod Zwh (by kernel_rfl) (of_decide_eq_true (by kernel_rfl)) h1 bel lt1) (trodAll_cons_mk (Below.trod Zwh (by kernel_rfl) (of_decide_eq_true (by kernel_rfl)) h2 bel lt2) trodAll_mk0))),rfl,bel.frame _,fun h=>by cases h⟩
theorem over:Rows.classMeetsRow.holds Tryz.pinned (OpenSpec.ofChange Rows.classMeetsSpec):=
 OpenClaim.holds_of_wide 8 Tryz.f8 rfl rfl rfl rfl rfl rfl rfl ⟨rfl,rfl,rfl,rfl,rfl⟩ rfl rfl rfl rfl rfl (by kernel_rfl) Tryz.func8 (by kernel_rfl)
  (of_decide_eq_true (by kernel_rfl)) (by unfold Func.isWrapper;first | (rw[if_pos (by decide +kernel)];kernel_rfl) | (rw[if_neg (by decide +kernel)];exact⟨rfl,rfl⟩))
  (fun os started H enc _=>ZHZ os started H enc)
theorem proved:Rows.ClassMeetsSaid:=over
theorem carded:Rows.ClassMeetsCardSaid:=
 Claim7.holds_tied_plain_at .later [] [.data, .data] true (true, "d6d7d9d5c807326625a91c6e0083beb2768bae7db06b561411ca8dd5dfe6ff89") false
  proved (fun _ h=>by cases h) (by kernel_rfl) (fun _ h=>by cases h) classMeets_row_tie rfl ⟨rfl,rfl⟩ (by kernel_rfl) rfl
  (fun f fn hf hfn=>by
   obtain rfl : f = 8 := Option.some.inj ((show Tryz.prog.funcNamed "trefoil/trefoillaw14.ClassMeets" = some 8 by kernel_rfl).symm.trans hf) |>.symm
   obtain rfl:fn=Tryz.f8:=(Option.some.inj (Tryz.func8.symm.trans hfn)).symm
   exact⟨by kernel_rfl,fun j t ht=>by
    rw[Tryz.params8] at ht
    have hm:t∈[69,22,22]:=by simpa using Array.mem_of_getElem? ht
    have hall:([69,22,22].all fun u=>!Tryz.prog.wantsStandIn u)=true:=by kernel_rfl
    exact(show Tryz.prog.wantsStandIn t=false by simpa using List.all_eq_true.1 hall t hm)⟩)
  (by kernel_rfl)
end Go.Proofs.YtgcfmiajkbbmeaaGreatDoor.LawClassMeets
namespace Go.Proofs.YtgcfmiajkbbmeaaGreatDoor
theorem classMeets_holds:Rows.ClassMeetsCardSaid:=LawClassMeets.carded
#print axioms classMeets_holds
end Go.Proofs.YtgcfmiajkbbmeaaGreatDoor
