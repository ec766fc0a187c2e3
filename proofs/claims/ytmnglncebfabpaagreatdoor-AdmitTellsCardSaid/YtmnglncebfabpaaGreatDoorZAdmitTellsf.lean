/- AdmitTells: part 6 of 6 of the proof: the row and the card of the law, out of what the evaluator says of it; without conditions. -/
import Derived.Test.YtmnglncebfabpaaGreatDoorZAdmitTellse
import Derived.KernelRfl
import Derived.Test.YtmnglncebfabpaaGreatDoorRows
import Derived.Test.YtmnglncebfabpaaGreatDoorCards
import Derived.Test.YtmnglncebfabpaaGreatDoorTie
import Derived.WalkKit
import Derived.ProofKit
import Derived.OpenShut
import Derived.ShutString
import Derived.ChangeOld
import Derived.Below
import Derived.SizedLaws
import Derived.Handed
import Derived.LaidMore
import Derived.Stop.Joined
import Derived.ChangeShapes
import Derived.Carry
import Derived.SevenTiedAt
set_option maxRecDepth 100000
set_option maxHeartbeats 40000000
set_option linter.unusedVariables false
set_option linter.unusedSimpArgs false
namespace Go.Proofs.YtmnglncebfabpaaGreatDoor
open Go Go.Proofs.YtmnglncebfabpaaGreatDoorE
open Go.IntKind (u64 i64 u32 i32 u8)
section
section
variable {α β:Type} {A B:Option α} {Q:α->Option β->Prop}
theorem yB {c:Bool}{X Y:Option β} (h1:Zd7 A Q X) (h2:Zd7 B Q Y):Zd7 (bif c then A else B) Q (br c X Y):=Za5 rfl h1 h2
theorem yBn {c:Bool}{X Y:Option β} (h2:Zd7 B Q Y):Zd7 (bif c then none else B) Q (br c X Y):=Za5 rfl Z9 h2
theorem yBm {c:Bool}{X Y:Option β} (h1:Zd7 A Q X):Zd7 (bif c then A else none) Q (br c X Y):=Za5 rfl h1 Z9
theorem yT {X Y:Option β} (h1:Zd7 A Q X):Zd7 A Q (br true X Y):=Zr8 rfl h1
theorem yF {X Y:Option β} (h1:Zd7 A Q Y):Zd7 A Q (br false X Y):=ZMr rfl h1
theorem yG {γ:Type}{f:γ->D}{l:List γ}{i:Int}{A:γ->Option α}{K:D->Option β} (k:∀r,ZA l i=some r->Zd7 (A r) Q (K (f r))):Zd7 ((ZA l i).bind A) Q (bnd (ZA (l.map f) i) K):=ZIn rfl rfl k
theorem yC {γ:Type}{Γ:Ctx}{f:Nat}{args:List V}{E:Option γ}{A:γ->Option α}{K:V->Option β}{enc:γ->D} (w:∀r,E=some r->evD Γ f args=some (enc r)) (k:∀r,E=some r->Zd7 (A r) Q (ZDe (enc r) K)):Zd7 (E.bind A) Q (bnd (evW Γ f args []) (ZtB K)):=ZG0 enc w rfl k
theorem ZHx {γ:Type}{x:γ}{A:γ->Option α}{X:Option β} (k:Zd7 (A x) Q X):Zd7 ((some x).bind A) Q X:=k
theorem yR {a:α}{f:α->Option β}:Zd7 (some a) (fun r rhs=>rhs=f r) (f a):=Zg rfl
theorem yBr {a:α}{c:Bool}{f:α->Option β}{Y:Option β} (h2:Zd7 B (fun r rhs=>rhs=f r) Y):Zd7 (bif c then some a else B) (fun r rhs=>rhs=f r) (br c (f a) Y):=yB yR h2
theorem evT {Γ : Ctx} {f : Nat} (fn : FnI) {args : List V} {E : Option α} {enc : α -> D} (hc : Γ.code f = some fn) (hn : Nat.beq args.length fn.nargs = true) (h : Zd7 E (fun r rhs => rhs = some (enc r)) (Zj3 Γ 0 fn.body (ZbY 0 args) [] fun x e H1 => (match x with
      | .exit _=>none
      | _=>(match ZlR e H1 fn.res with
        | some l=>ZgW 0 [Zis l] H1 fun _ vs H2=>(match vs with | [v]=>(match fr H2 6 v with | some (x,_)=>some x | none=>none) | _=>none)
        | none=>none)))):∀r,E=some r->evD Γ f args=some (enc r):=by rw[ZJD Γ f fn args hc hn];exact h
theorem evS {Γ : Ctx} {f : Nat} (fn : FnI) {args : List V} {H : Zm} {E : Option α} {enc : α -> V × Zm} (hc : Γ.code f = some fn) (hn : Nat.beq args.length fn.nargs = true) (h : Zd7 E (fun r rhs => rhs = some (enc r)) (Zj3 Γ H.length fn.body (ZbY 0 args) H fun x e H1 => (match x with
      | .exit _=>none
      | _=>(match ZlR e H1 fn.res with
        | some l=>ZgW H.length [Zis l] H1 fun _ vs H2=>(match vs with | [v]=>some (v,H2) | _=>none)
        | none=>none)))):∀r,E=some r->evW Γ f args H=some (enc r):=by rw[ZJJ Γ f fn args H hc hn];exact h
theorem lpT {S R:Type}{step:S->Option (S⊕R)}{Γ:Ctx}{k:Nat}{live outs:List Nat}{b:C}{vs:S->List V}{H:S->Zm} (x:R->Ex×List V×Zm)
    (h:∀(s:S) (rec:S->Option R),(∀s r,rec s=some r->lpW Γ k live outs b (vs s) (H s)=some (x r))->Zd7 (step s) (fun t rhs=>(match t with | .inl s'=>∀r,rec s'=some r->rhs=some (x r) | .inr r=>rhs=some (x r))) (Zj3 Γ k b (Zfg live (vs s)) (H s) fun x e H=>(match x with
      | .normal=>ZtH k (live.map e) H fun vs H=>bnd (lpW Γ k live outs b vs H) some
      | x=>ZgW k (outs.map e) H fun _ vs H=>some (x,vs,H)))):∀s r,lp step s=some r->lpW Γ k live outs b (vs s) (H s)=some (x r):=
  ZMa (G:=fun s=>lpW Γ k live outs b (vs s) (H s)) x fun s rec ih=>by rw[ZMw];exact h s rec ih
end
theorem Zi2:∀r,Zh9=some r->evD ctx 9 []=some (D.bool r):=fun r h=>by
  cases h
  exact ZLj 100 (by kernel_rfl)
def ZJ (r:Bool):D:=(D.bool r)
def ZmL (t0 t1 t2 t3:Bool) (a:Zj):(Unit⊕Unit)->Ex×List V×Zm
  | (.inl r)=>(.ret,[(.ptr 0 0),(.d (D.bool false))],[(.cells (dV t0 t1 t2 t3 a))])
  | (.inr r)=>(.exit 0,[(.ptr 0 0),.bad],[(.cells (dV t0 t1 t2 t3 a))])
theorem ZrE {t0 t1:Bool}{t2 t3:Bool}{a:Zj}:∀s0 r,lp (Zho a) s0=some r->lpW ctx 0 [1,3] [1,2] ZFz [(.ptr 0 0),(zN s0)] [(.cells (dV t0 t1 t2 t3 a))]=some ((ZmL t0 t1 t2 t3 a) r):=
 lpT (ZmL t0 t1 t2 t3 a) fun s0 _ ih=>Zh (Zt _ _) (yB (yB (yG fun x1 hx1=>
  Zh (Zt _ _) (yB (Zg rfl)
  (Ze (ZW rfl hx1) (Zh (Zt _ _) (yB (Zg rfl)
  (Zd (ih _)))))))
  (Zg rfl))
  (Zg rfl))
theorem ZvS {t0 t1:Bool}{t2 t3:Bool}{a:Zj}:∀r,(Zl4 a)=some r->evD ctx 32 [(.d (D.agg (dA t0 t1 t2 t3 a)))]=some (ZJ r):=
 evT ZKz rfl rfl <| (by
 conv=>rhs;whnf
 refine Zc _ (ZrE _) fun r2 _=>?_
 rcases r2 with r2 | r2
 exact yR
 exact Zh (Zt _ _) (yB (Zh (Zt _ _) (yB (Zh (Zt _ _) (yB (Zh (Zt _ _) (yBr yR))
  yR))
  yR))
  yR))
def Znl (t0:Bool) (a:List Zj):(Unit⊕Unit)->Ex×List V×Zm
  | (.inl r)=>(.ret,[(.d (D.list t0 (List.map (Zh2 true) a))),(.d (D.bool false))],[])
  | (.inr r)=>(.exit 0,[(.d (D.list t0 (List.map (Zh2 true) a))),.bad],[])
theorem ZrN {t0:Bool}{a:List Zj}:∀s0 r,lp (Zc0 a) s0=some r->lpW ctx 0 [0,3] [0,2] ZHt [(.d (D.list t0 (List.map (Zh2 true) a))),(zN s0)] []=some ((Znl t0 a) r):=
 lpT (Znl t0 a) fun s0 _ ih=>Zh (Zt _ _) (yB (yB (yG fun x1 _=>
  yC ZvS fun x2 _=>
  yB (Zd (ih _))
  (Zg rfl))
  (Zg rfl))
  (Zg rfl))
theorem Zwf {t0:Bool}{a:List Zj}:∀r,(Zl2 a)=some r->evD ctx 10 [(.d (D.list t0 (List.map (Zh2 true) a)))]=some (ZJ r):=
 evT ZJ8 rfl rfl <| (by
 conv=>rhs;whnf
 refine Zc _ (ZrN _) fun r3 _=>?_
 rcases r3 with r3 | r3
 exact yR
 exact Zh (Zt _ _) (yBr yR))
def Zws (t0 t1 t2 t3:Bool) (a:Zj):(List Zv)->V×Zm
  | r=>((.agg [(zN a.period),(zN a.deadline),(.sl 0 3),(.sl 1 2),(.sl 2 3),(.sl 3 2)]),[(.arr 3 (List.map Zk3 a.parts)),(.arr 2 (List.map Zab a.edges)),(.arr 3 (List.map Z6 a.futures)),(.arr 2 (List.map Zdx r))])
def ZmG (t0 t1 t2 t3:Bool) (a:Zj):(List Zv)->Ex×List V×Zm
  | r=>(.exit 0,[(.ptr 0 0),(.ptr 1 0)],[(.cells [(zN 0),(zN 0),(.sl 2 3),(.sl 3 2),(.sl 4 3),(.sl 5 2)]),(.cells [(zN a.period),(zN a.deadline),(.sl 6 3),(.sl 7 2),(.sl 8 3),(.sl 9 2)]),(.arr 3 []),(.arr 2 []),(.arr 3 []),(.arr 2 []),(.arr 3 (List.map Zk3 a.parts)),(.arr 2 (List.map Zab a.edges)),(.arr 3 (List.map Z6 a.futures)),(.arr 2 (List.map Zdx r))])
theorem Zro {t0 t1:Bool}{t2 t3:Bool}{a:Zj}:∀s0 r,lp (Zgd a) s0=some r->lpW ctx 0 [1,2,3,4] [2,3] ZFU [(.ptr 0 0),(.ptr 1 0),(.ptr 2 0),(zN s0.1)] [(.cells (dV t0 t1 t2 t3 a)),(.cells [(zN 0),(zN 0),(.sl 3 3),(.sl 4 2),(.sl 5 3),(.sl 6 2)]),(.cells [(zN a.period),(zN a.deadline),(.sl 7 3),(.sl 8 2),(.sl 9 3),(.sl 10 2)]),(.arr 3 []),(.arr 2 []),(.arr 3 []),(.arr 2 []),(.arr 3 (List.map Zk3 a.parts)),(.arr 2 (List.map Zab a.edges)),(.arr 3 (List.map Z6 a.futures)),(.arr 2 (List.map Zdx s0.2))]=some ((ZmG t0 t1 t2 t3 a) r):=
 lpT (ZmG t0 t1 t2 t3 a) fun s0 _ ih=>Zh (Zt _ _) (yB (yG fun x1 hx1=>
  Zr8 (ZjX (f:=Zn) (fun _=>⟨rfl,rfl⟩) x1.ins 0) (Za5 (ZlI Zn x1.ins) (Zh (rfl:_=List.map Zn x1.ins) (Ze (ZW rfl hx1) (Zr8 (ZjX (f:=Zn) (fun _=>⟨rfl,rfl⟩) x1.outs 0) (Za5 (ZlI Zn x1.outs) (Zh (rfl:_=List.map Zn x1.outs) (yT (Za5 (Zbz Zdx s0.2 1) (Zh (Zby Zdx s0.2 [x1]) (Zd (ih _)))
  Z9)))
  Z9))))
  Z9))
  (Zg rfl))
theorem Zvd {t0 t1:Bool}{t2 t3:Bool}{a:Zj}:∀r,(Zmg a)=some r->evW ctx 26 [(.d (D.agg (dA t0 t1 t2 t3 a)))] []=some ((Zws t0 t1 t2 t3 a) r):=
 evS ZKa rfl rfl <| Zr8 (ZjX (f:=Zk3) (fun _=>⟨rfl,rfl⟩) a.parts 0) (Za5 (ZlI Zk3 a.parts) (Zh (rfl:_=List.map Zk3 a.parts) (Zr8 (ZjX (f:=Zab) (fun _=>⟨rfl,rfl⟩) a.edges 0) (Za5 (ZlI Zab a.edges) (Zh (rfl:_=List.map Zab a.edges) (Zr8 (ZjX (f:=Z6) (fun _=>⟨rfl,rfl⟩) a.futures 0) (Za5 (ZlI Z6 a.futures) (Zh (rfl:_=List.map Z6 a.futures) (Zc _ (Zro _) fun r2 _=>
  yR))
  Z9)))
  Z9)))
  Z9)
def Zwr (t0:Bool) (a:List Zj):(List Zj)->V×Zm
  | r=>((.sl 0 6),[(.arr 6 (List.map (Zh2 true) r))])
def ZmW (t0:Bool) (a:List Zj):(List Zj)->Ex×List V×Zm
  | r=>(.exit 0,[(.sl 0 6)],[(.arr 6 (List.map (Zh2 true) r))])
theorem ZrC {t0:Bool}{a:List Zj}:∀s0 r,lp (Zgr a) s0=some r->lpW ctx 0 [0,3,4] [3] ZEy [(.d (D.list t0 (List.map (Zh2 true) a))),(.sl 0 6),(zN s0.1)] [(.arr 6 (List.map (Zh2 true) s0.2))]=some ((ZmW t0 a) r):=
 lpT (ZmW t0 a) fun s0 _ ih=>Zh (Zt _ _) (yB (yG fun x1 _=>
  Zc _ Zvd fun x2 _=>
  yT (Za5 (Zbz (Zh2 true) s0.2 1) (Zh (Zby (Zh2 true) s0.2 [(Zj.mk x1.period x1.deadline x1.parts x1.edges x1.futures x2)]) (Zd (ih _)))
  Z9))
  (Zg rfl))
theorem ZuP {t0:Bool}{a:List Zj}:∀r,(Zml a)=some r->evW ctx 12 [(.d (D.list t0 (List.map (Zh2 true) a)))] []=some ((Zwr t0 a) r):=
 evS ZKH rfl rfl <| Zc _ (ZrC _) fun r3 _=>
  yR
theorem Zce {a b c:Int}:∀r,(Zb9 a b c)=some r->evD ctx 105 [(zN a),(zN b),(zN c)]=some (ZJ r):=
 evT ZHf rfl rfl <| yB (yBr yR)
  yR
def ZC (r:Int):D:=(Zn r)
theorem Zk5 {a:Int}:∀r,(Ziu a)=some r->evD ctx 102 [(zN a)]=some (ZC r):=
 evT ZF0 rfl rfl <| yBr (yBr yR)
theorem ZkM {a:Int}:∀r,(ZdL a)=some r->evD ctx 136 [(.d (D.int .u64 a))]=some (ZC r):=
 evT ZGP rfl rfl <| yF (yF (yF (yF (yF (yF yR)))))
theorem ZmD {a:Int}:∀r,(Ze6 a)=some r->evD ctx 103 [(.d (D.int .u64 a))]=some (ZC r):=
 evT ZGf rfl rfl <| yC ZkM fun x0 _=>
  yR
theorem ZMe (n:Int):0<=u64.wrap n/\u64.wrap n<18446744073709551616:=by
  have:u64.wrap n=n % 18446744073709551616:=by
    show(if (false&&decide (n % 18446744073709551616 ≥ 9223372036854775808))=true then n % 18446744073709551616-18446744073709551616 else n % 18446744073709551616)=_
    simp
  rw[this]
  omega
theorem ZNi (n:Int):∃j:Nat,j<64/\(u64.wrap n).fdiv (2 ^ (min (Int.toNat 58) u64.bits))=(j:Int):=by
  obtain⟨h1,h2⟩:=ZMe n
  have e:(2:Int) ^ (min (Int.toNat 58) u64.bits)=288230376151711744:=by decide
  rw[e,Int.fdiv_eq_ediv_of_nonneg _ (by omega)]
  refine⟨((u64.wrap n) / 288230376151711744).toNat,?_,?_⟩<;>omega
theorem ZNp:∀j:Nat,j<64->ZdD [] 1 false (.d (.rptr (ZGw.drop (j*1))))=some (.d (.int .u8 (ZyU.getD j 0))):=by
  have key:((List.range 64).all fun j=>match ZdD [] 1 false (.d (.rptr (ZGw.drop (j*1)))) with | some (.d (.int .u8 z))=>z==ZyU.getD j 0 | _=>false)=true:=by rfl
  intro j hj
  have:=List.all_eq_true.1 key j (by simpa using hj)
  split at this
  · rename_i z hz
    rw[hz,eq_of_beq this]
  · cases this
def ZjW (r:Int):D:=Zn r
theorem Zi3 (a:Int):∀r,Zeb a=some r->evD ctx 138 [.d (.int .u64 a)]=some (ZjW r):=by
  intro r hr
  unfold Zeb at hr
  have hr:=Option.some.inj hr
  subst hr
  rw[ZJD ctx 138 ZFQ _ rfl rfl]
  by_cases h:(a==0)=true
  · conv=>lhs;whnf
    rw[h,ZIW]
    rfl
  · replace h:(a==0)=false:=by simpa using h
    obtain⟨j,hj,e⟩:=ZNi (u64.wrap ((Zs a &&& Zs (u64.wrap (0-a))).toNat:Int)*285870213051353865)
    conv=>lhs;whnf
    rw[h,ZJl]
    conv=>lhs;whnf
    refine(ZNk (by rfl)).trans ?_
    conv=>lhs;whnf
    rw[e]
    refine(ZLZ (by simp;omega)).trans ?_
    conv=>lhs;whnf
    erw [ZNp j hj]
    rfl
theorem Zkc {a:Int}:∀r,(Zfq a)=some r->evD ctx 104 [(.d (D.int .u64 a))]=some (ZC r):=
 evT ZFI rfl rfl <| yC (Zi3 _) fun x0 _=>
  yR
def ZoF (r:(Int×Bool)):D:=(D.tup [(Zn r.1),(D.bool r.2)])
theorem ZrZ {a:Int}:∀r,(ZmO a)=some r->evD ctx 82 [(zN a)]=some (ZoF r):=
 evT ZLo rfl rfl <| yC Zk5 fun x0 _=>
  yBr (yC ZmD fun x1 _=>
  yBr (yC Zkc fun x2 _=>
  yR))
theorem Zu6 {a:Z7}:∀r,(Zhw a)=some r->evD ctx 107 [(.d (D.agg [(Zn a.op),(Zn a.arg),(Zn a.work)]))]=some (ZJ r):=
 evT ZF1 rfl rfl <| yC Zce fun x0 _=>
  yB (yC Zce fun x1 _=>
  yB (yC Zce fun x2 _=>
  yBr yR)
  yR)
  yR
def Zcz (t0:Bool) (a:List Z7):(Int⊕Unit)->Ex×List V×Zm
  | (.inl r)=>(.ret,[(zN r)],[])
  | (.inr r)=>(.exit 0,[.bad],[])
theorem ZfP {t0:Bool}{a:List Z7}:∀s0 r,lp (ZbM a (fun z0=>Zhw z0)) s0=some r->lpW ctx 0 [0,1,7,8] [4] ZCx [(zW t0 Zk3 a),(.d (D.fn 107 [])),(zN (a.length:Int)),(zN s0)] []=some ((Zcz t0 a) r):=
 lpT (Zcz t0 a) fun s0 _ ih=>yB (yG fun x1 _=>
  yC Zu6 fun x2 _=>
  yB (Zg rfl)
  (Zd (ih _)))
  (Zg rfl)
theorem Zgn {t0:Bool}{a:List Z7}:∀r,(Zdd a (fun z0=>Zhw z0))=some r->evD ctx 139 [(zW t0 Zk3 a),(.d (D.fn 107 []))]=some (ZC r):=
 evT ZGh rfl rfl <| Zh (Zt _ _) (by
 conv=>rhs;whnf
 refine Zc _ (ZfP _) fun r3 _=>?_
 rcases r3 with r3 | r3
 exact yR
 exact yR)
theorem ZfT {t0:Bool}{a:List Z7}:∀r,(ZbN a (fun z0=>Zhw z0))=some r->evD ctx 106 [(zW t0 Zk3 a),(.d (D.fn 107 []))]=some (ZJ r):=
 evT ZFB rfl rfl <| yC Zgn fun x0 _=>
  yBr yR
theorem Zqm {t0 t1:Bool}{t2 t3:Bool}{a:Zj}{b c:Int}:∀r,(Zlm a b c)=some r->evD ctx 108 [(.d (D.agg (dA t0 t1 t2 t3 a))),(zN b),(zN c)]=some (ZJ r):=
 evT ZFL rfl rfl <| yB (Zh (Zt _ _) (yC Zce fun x0 _=>
  yB (Zh (Zt _ _) (yC Zce fun x1 _=>
  yBr yR))
  yR))
  yR
def Zf2 (t0:Bool) (a:List Zo) (b:Zo):(Int⊕Unit)->Ex×List V×Zm
  | (.inl r)=>(.ret,[(zN r)],[])
  | (.inr r)=>(.exit 0,[.bad],[])
theorem ZiM {t0:Bool}{a:List Zo}{b:Zo}:∀s0 r,lp (Zcp a b) s0=some r->lpW ctx 0 [0,3,7,8] [4] ZCp [(zW t0 Zab a),(.ptr 0 0),(zN (a.length:Int)),(zN s0)] [(.cells [(zN b.src),(zN b.dst)])]=some ((Zf2 t0 a b) r):=
 lpT (Zf2 t0 a b) fun s0 _ ih=>yB (yG fun x1 _=>
  yB (Zg rfl)
  (Zd (ih _)))
  (Zg rfl)
theorem Zj1 {t0:Bool}{a:List Zo}{b:Zo}:∀r,(ZeN a b)=some r->evD ctx 140 [(zW t0 Zab a),(.d (zK9 b.src b.dst))]=some (ZC r):=
 evT ZG1 rfl rfl <| Zh (Zt _ _) (by
 conv=>rhs;whnf
 refine Zc _ (ZiM _) fun r2 _=>?_
 rcases r2 with r2 | r2
 exact yR
 exact yR)
theorem ZfN {t0:Bool}{a:List Zo}{b:Zo}:∀r,(ZbD a b)=some r->evD ctx 109 [(zW t0 Zab a),(.d (zK9 b.src b.dst))]=some (ZJ r):=
 evT ZGc rfl rfl <| yC Zj1 fun x0 _=>
  yBr yR
theorem Zr2 {a:Zl}{b0 b1 b2:Int}:∀r,(Ze4 a b1 b2)=some r->evD ctx 110 [(.d (D.agg [(Zn a.maker),(Zn a.user),(Zn a.pos)])),(.d (D.rptr [(Zn b0),(Zn b1),(Zn b2)]))]=some (ZJ r):=
 evT ZFK rfl rfl <| yB (yBr yR)
  yR
def ZbS (t0:Bool) (a:List Zl) (b0 b1 b2:Int):(Int⊕Unit)->Ex×List V×Zm
  | (.inl r)=>(.ret,[(zN r)],[])
  | (.inr r)=>(.exit 0,[.bad],[])
theorem ZdT {t0:Bool}{a:List Zl}{b0 b1 b2:Int}:∀s0 r,lp (Zbi a (fun z0=>Ze4 z0 b1 b2)) s0=some r->lpW ctx 0 [0,1,7,8] [4] ZDg [(zW t0 Z6 a),(.d (D.fn 110 [(D.rptr [(Zn b0),(Zn b1),(Zn b2)])])),(zN (a.length:Int)),(zN s0)] []=some ((ZbS t0 a b0 b1 b2) r):=
 lpT (ZbS t0 a b0 b1 b2) fun s0 _ ih=>yB (yG fun x1 _=>
  yC Zr2 fun x2 _=>
  yB (Zg rfl)
  (Zd (ih _)))
  (Zg rfl)
theorem Zek {t0:Bool}{a:List Zl}{b0 b1 b2:Int}:∀r,(ZcJ a (fun z0=>Ze4 z0 b1 b2))=some r->evD ctx 141 [(zW t0 Z6 a),(.d (D.fn 110 [(D.rptr [(Zn b0),(Zn b1),(Zn b2)])]))]=some (ZC r):=
 evT ZGF rfl rfl <| Zh (Zt _ _) (by
 conv=>rhs;whnf
 refine Zc _ (ZdT _) fun r3 _=>?_
 rcases r3 with r3 | r3
 exact yR
 exact yR)
theorem ZdS {t0:Bool}{a:List Zl}{b0 b1 b2:Int}:∀r,(Zbj a (fun z0=>Ze4 z0 b1 b2))=some r->evD ctx 111 [(zW t0 Z6 a),(.d (D.fn 110 [(D.rptr [(Zn b0),(Zn b1),(Zn b2)])]))]=some (ZJ r):=
 evT ZEC rfl rfl <| yC Zek fun x0 _=>
  yBr yR
def Zid (t0 t1 t2 t3 t4:Bool) (a:Zj) (b:LI):(Unit⊕Unit)->Ex×List V×Zm
  | (.inl r)=>(.ret,[(zV t4 b),(.d (D.bool false))],[])
  | (.inr r)=>(.exit 0,[(zV t4 b),.bad],[])
theorem Ztv {t0 t1:Bool}{t2 t3 t4:Bool}{a:Zj}{b:LI}:∀s0 r,lp (Zh4 a b) s0=some r->lpW ctx 0 [1,2,7,8,9] [1,4] ZCu [(zV t4 b),(.ptr 0 0),(zV t4 b),(zN (b.length:Int)),(zN s0)] [(.cells (dV t0 t1 t2 t3 a))]=some ((Zid t0 t1 t2 t3 t4 a b) r):=
 lpT (Zid t0 t1 t2 t3 t4 a b) fun s0 _ ih=>yB (yG fun x1 _=>
  Zh (Zt _ _) (yC Zce fun x2 _=>
  yB (yB (yG fun x3 _=>
  yB (Zg rfl)
  (Zd (ih _)))
  (Zd (ih _)))
  (Zg rfl)))
  (Zg rfl)
theorem Zqq {t0 t1:Bool}{t2 t3 t4:Bool}{a:Zj}{b:LI}:∀r,(Zlq a b)=some r->evD ctx 113 [(.d (D.agg (dA t0 t1 t2 t3 a))),(zV t4 b)]=some (ZJ r):=
 evT ZIa rfl rfl <| Zh (Zt _ _) (by
 conv=>rhs;whnf
 refine Zc _ (Ztv _) fun r4 _=>?_
 rcases r4 with r4 | r4
 exact yR
 exact Zh (Zt _ _) (yBr yR))
def ZgH (t0:Bool) (a:LI) (b:Int):(Int⊕Unit)->Ex×List V×Zm
  | (.inl r)=>(.ret,[(zN r)],[])
  | (.inr r)=>(.exit 0,[.bad],[])
theorem Zjc {t0:Bool}{a:LI}{b:Int}:∀s0 r,lp (ZcR a b) s0=some r->lpW ctx 0 [0,1,7,8] [4] ZGy [(zV t0 a),(zN b),(zN (a.length:Int)),(zN s0)] []=some ((ZgH t0 a b) r):=
 lpT (ZgH t0 a b) fun s0 _ ih=>yB (yG fun x1 _=>
  yB (Zg rfl)
  (Zd (ih _)))
  (Zg rfl)
theorem ZkD {t0:Bool}{a:LI}{b:Int}:∀r,(Zf0 a b)=some r->evD ctx 76 [(zV t0 a),(zN b)]=some (ZC r):=
 evT ZKF rfl rfl <| Zh (Zt _ _) (by
 conv=>rhs;whnf
 refine Zc _ (Zjc _) fun r2 _=>?_
 rcases r2 with r2 | r2
 exact yR
 exact yR)
theorem Zjh {t0:Bool}{a:LI}{b:Int}:∀r,(ZcQ a b)=some r->evD ctx 45 [(zV t0 a),(zN b)]=some (ZJ r):=
 evT ZKW rfl rfl <| yC ZkD fun x0 _=>
  yBr yR
theorem ZrW {t0 t1:Bool}{a:Int}{b0:LI}{b1:LI}:∀r,(Ze5 a b1)=some r->evD ctx 112 [(zN a),(.d (D.rptr [(zL t0 b0),(zL t1 b1)]))]=some (ZJ r):=
 evT ZHR rfl rfl <| yC Zjh fun x0 _=>
  yBr yR
def Zcu (t0 t1 t2:Bool) (a:LI) (b0:LI) (b1:LI):(Int⊕Unit)->Ex×List V×Zm
  | (.inl r)=>(.ret,[(zN r)],[])
  | (.inr r)=>(.exit 0,[.bad],[])
theorem Zfk {t0 t1 t2:Bool}{a:LI}{b0:LI}{b1:LI}:∀s0 r,lp (Z1 a (fun z0=>Ze5 z0 b1)) s0=some r->lpW ctx 0 [0,1,7,8] [4] Zup [(zV t0 a),(.d (D.fn 112 [(D.rptr [(zL t1 b0),(zL t2 b1)])])),(zN (a.length:Int)),(zN s0)] []=some ((Zcu t0 t1 t2 a b0 b1) r):=
 lpT (Zcu t0 t1 t2 a b0 b1) fun s0 _ ih=>yB (yG fun x1 _=>
  yC ZrW fun x2 _=>
  yB (Zg rfl)
  (Zd (ih _)))
  (Zg rfl)
theorem Zf3 {t0 t1 t2:Bool}{a:LI}{b0:LI}{b1:LI}:∀r,(ZaN a (fun z0=>Ze5 z0 b1))=some r->evD ctx 142 [(zV t0 a),(.d (D.fn 112 [(D.rptr [(zL t1 b0),(zL t2 b1)])]))]=some (ZC r):=
 evT ZzV rfl rfl <| Zh (Zt _ _) (by
 conv=>rhs;whnf
 refine Zc _ (Zfk _) fun r3 _=>?_
 rcases r3 with r3 | r3
 exact yR
 exact yR)
theorem Zfr {t0 t1 t2:Bool}{a:LI}{b0:LI}{b1:LI}:∀r,(ZaR a (fun z0=>Ze5 z0 b1))=some r->evD ctx 114 [(zV t0 a),(.d (D.fn 112 [(D.rptr [(zL t1 b0),(zL t2 b1)])]))]=some (ZJ r):=
 evT ZCv rfl rfl <| yC Zf3 fun x0 _=>
  yBr yR
def Zmc (t0 t1 t2 t3:Bool) (a:Zj):(Unit⊕Unit)->Ex×List V×Zm
  | (.inl r)=>(.ret,[(.ptr 0 0),(zN 53)],[(.cells (dV t0 t1 t2 t3 a))])
  | (.inr r)=>(.exit 0,[(.ptr 0 0),.bad],[(.cells (dV t0 t1 t2 t3 a))])
theorem ZqF {t0 t1:Bool}{t2 t3:Bool}{a:Zj}:∀s4 r,lp (ZfA a) s4=some r->lpW ctx 0 [1,61,62,63] [1,2] ZH8 [(.ptr 0 0),(zW t1 Zab a.edges),(zN (a.edges.length:Int)),(zN s4)] [(.cells (dV t0 t1 t2 t3 a))]=some ((Zmc t0 t1 t2 t3 a) r):=
 lpT (Zmc t0 t1 t2 t3 a) fun s4 _ ih=>yB (yG fun x5 _=>
  yC Zqm fun x6 _=>
  yB (yBm (Za5 (ZGa Zab a.edges s4.toNat) (yT (Zh (ZyL Zab a.edges s4.toNat) (yC ZfN fun x7 _=>
  yB (Zg rfl)
  (Zd (ih _)))))
  Z9))
  (Zg rfl))
  (Zg rfl)
def Zmi (t0 t1 t2 t3:Bool) (a:Zj):(Unit⊕Unit)->Ex×List V×Zm
  | (.inl r)=>(.ret,[(.ptr 0 0),(zN 54)],[(.cells (dV t0 t1 t2 t3 a))])
  | (.inr r)=>(.exit 2,[(.ptr 0 0),.bad],[(.cells (dV t0 t1 t2 t3 a))])
theorem Zq9 {t0 t1:Bool}{t2 t3:Bool}{a:Zj}:∀s9 r,lp (ZfC a) s9=some r->lpW ctx 0 [1,85,86,87] [1,2] ZE3 [(.ptr 0 0),(zW t2 Z6 a.futures),(zN (a.futures.length:Int)),(zN s9)] [(.cells (dV t0 t1 t2 t3 a))]=some ((Zmi t0 t1 t2 t3 a) r):=
 lpT (Zmi t0 t1 t2 t3 a) fun s9 _ ih=>yB (yG fun x10 _=>
  yC Zqm fun x11 _=>
  yB (yG fun x12 _=>
  yC Zce fun x13 _=>
  yB (yBm (Za5 (ZGa Z6 a.futures s9.toNat) (yT (Zh (ZyL Z6 a.futures s9.toNat) (yC ZdS fun x14 _=>
  yB (Zg rfl)
  (Zd (ih _)))))
  Z9))
  (Zg rfl))
  (Zg rfl))
  (Zg rfl)
def Zme (t0 t1 t2 t3:Bool) (a:Zj):(Unit⊕Unit)->Ex×List V×Zm
  | (.inl r)=>(.ret,[(zN 55)],[])
  | (.inr r)=>(.exit 4,[.bad],[])
theorem Zq6 {t0 t1:Bool}{t2 t3:Bool}{a:Zj}:∀s16 r,lp (ZfB a) s16=some r->lpW ctx 0 [1,124,125,126] [2] ZHp [(.ptr 0 0),(zW t3 Zdx a.barriers),(zN (a.barriers.length:Int)),(zN s16)] [(.cells (dV t0 t1 t2 t3 a))]=some ((Zme t0 t1 t2 t3 a) r):=
 lpT (Zme t0 t1 t2 t3 a) fun s16 _ ih=>yB (yG fun x17 _=>
  yC Zqq fun x18 _=>
  yB (yC Zqq fun x19 _=>
  yB (yC Zfr fun x20 _=>
  yB (Zg rfl)
  (Zd (ih _)))
  (Zg rfl))
  (Zg rfl))
  (Zg rfl)
theorem Zoc {t0 t1:Bool}{t2 t3:Bool}{a:Zj}:∀r,(ZiQ a)=some r->evD ctx 84 [(.d (D.agg (dA t0 t1 t2 t3 a)))]=some (ZC r):=
 evT ZLa rfl rfl <| Zh (Zt _ _) (yC Zce fun x0 _=>
  yB (Zh (Zt _ _) (yBr (Zh (Zt _ _) (yBr (Zh (Zt _ _) (yBr (yC ZrZ fun x1 _=>
  yB (yBr (yC Zce fun x2 _=>
  yB (yC ZfT fun x3 _=>
  yBr (Zh (Zt _ _) (by
 conv=>rhs;whnf
 refine Zc _ (ZqF _) fun r8 _=>?_
 rcases r8 with r8 | r8
 exact yR
 exact Zh (Zt _ _) (by
 conv=>rhs;whnf
 refine Zc _ (Zq9 _) fun r15 _=>?_
 rcases r15 with r15 | r15
 exact yR
 exact Zh (Zt _ _) (by
 conv=>rhs;whnf
 refine Zc _ (Zq6 _) fun r21 _=>?_
 rcases r21 with r21 | r21
 exact yR
 exact yR)))))
  yR))
  yR)))))))
  yR)
theorem ZK {t0 t1:Bool}{t2 t3:Bool}{a b:Int}{c0 c1:Int}{c2:List Z7}{c3:List Zo}{c4:List Zl}{c5:List Zv}:∀r,(Zz a b c4)=some r->evD ctx 143 [(zN a),(zN b),(.d (D.rptr [(Zn c0),(Zn c1),(zM t0 Zk3 c2),(zM t1 Zab c3),(zM t2 Z6 c4),(zM t3 Zdx c5)]))]=some (ZC r):=
 evT ZHi rfl rfl <| yG fun x0 _=>
  yG fun x1 _=>
  yR
theorem ZoG {a:Int}:∀r,(Zmt a)=some r->evD ctx 154 [(.d (D.int .u64 a))]=some (ZC r):=
 evT ZES rfl rfl <| yB (yF (yB (yF (yB (yF (yBm (ZjK rfl fun x0 _=>
  yR)))
  (yBm (ZjK rfl fun x1 _=>
  yR))))
  (yB (yF (yBm (ZjK rfl fun x2 _=>
  yR)))
  (yBm (ZjK rfl fun x3 _=>
  yR)))))
  (yB (yF (yB (yF (yBm (ZjK rfl fun x4 _=>
  yR)))
  (yBm (ZjK rfl fun x5 _=>
  yR))))
  (yB (yF (yBm (ZjK rfl fun x6 _=>
  yR)))
  (yBm (ZjK rfl fun x7 _=>
  yR))))
theorem Zio {a:Int}:∀r,(Zg5 a)=some r->evD ctx 123 [(.d (D.int .u64 a))]=some (ZC r):=
 evT ZG3 rfl rfl <| yC ZoG fun x0 _=>
  yR
def Zao (t0 t1 t2 t3:Bool) (b c:Int) (mH:LI) (mA mE:Int) (mD:List Z7) (mF:List Zo) (mB:List Zl) (mC:List Zv):LI->V×Zm
  | r=>((.d (D.tup [])),[(zA r),(zK0 mA mE t0 mD t1 mF t2 mB t3 mC)])
def ZbI (t0 t1 t2 t3:Bool) (b c mA mE:Int) (mD:List Z7) (mF:List Zo) (mB:List Zl) (mC:List Zv) (s0:Int×LI):LI->Ex×List V×Zm
  | r=>(.exit 2,[(.sl 0 1),(zN b),(zN c),(.fn 143 [(.ptr 1 0)]),(zN s0.1)],[(zA r),(zK0 mA mE t0 mD t1 mF t2 mB t3 mC)])
theorem ZdF {t0 t1:Bool}{t2 t3:Bool}{b c:Int}{mA mE:Int}{mD:List Z7}{mF:List Zo}{mB:List Zl}{mC:List Zv}{s0:Int×LI}:∀s1 r,lp (Z4 b (fun z0 z1=>Zz z0 z1 mB)) s1=some r->lpW ctx 2 [0,1,2,3,8,9] [0,1,2,3,8] Zyq [(.sl 0 1),(zN b),(zN c),(.fn 143 [(.ptr 1 0)]),(zN s0.1),(zN s1.1)] [(zA s1.2),(zK0 mA mE t0 mD t1 mF t2 mB t3 mC)]=some ((ZbI t0 t1 t2 t3 b c mA mE mD mF mB mC s0) r):=
 lpT (ZbI t0 t1 t2 t3 b c mA mE mD mF mB mC s0) fun s1 _ ih=>yB (yG fun x2 hx2=>
  Ze (Zk rfl hx2) (yG fun x3 hx3=>
  Ze (Zk rfl hx3) (yC ZK fun x4 _=>
  yB (Ze (ZW rfl hx3) (Ze (Zk rfl hx3) (Ze (ZW rfl hx2) (Ze (Zk rfl hx2) (Ze (ZW rfl hx2) (Ze (Zk rfl hx2) (Zh (ZL Zn s1.2 s1.1.toNat x3) (yG fun x5 hx5=>
  Ze (Zk rfl hx5) (Zh (ZL Zn (List.set s1.2 s1.1.toNat x3) (w64 (s1.1-1)).toNat x2) (Zd (ih _)))))))))))
  (Zg rfl))))
  (Zg rfl)
def ZbK (t0 t1 t2 t3:Bool) (b c mA mE:Int) (mD:List Z7) (mF:List Zo) (mB:List Zl) (mC:List Zv):LI->Ex×List V×Zm
  | r=>(.exit 0,[],[(zA r),(zK0 mA mE t0 mD t1 mF t2 mB t3 mC)])
theorem ZdG {t0 t1:Bool}{t2 t3:Bool}{b c:Int}{mA mE:Int}{mD:List Z7}{mF:List Zo}{mB:List Zl}{mC:List Zv}:∀s0 r,lp (Zat b c (fun z0 z1=>Zz z0 z1 mB)) s0=some r->lpW ctx 2 [0,1,2,3,8] [] ZyA [(.sl 0 1),(zN b),(zN c),(.fn 143 [(.ptr 1 0)]),(zN s0.1)] [(zA s0.2),(zK0 mA mE t0 mD t1 mF t2 mB t3 mC)]=some ((ZbK t0 t1 t2 t3 b c mA mE mD mF mB mC) r):=
 lpT (ZbK t0 t1 t2 t3 b c mA mE mD mF mB mC) fun s0 _ ih=>yB (Zc _ (ZdF _) fun r6 _=>
  Zd (ih _))
  (Zg rfl)
theorem Zai {t0 t1:Bool}{t2 t3:Bool}{b c:Int}{mH:LI}{mA mE:Int}{mD:List Z7}{mF:List Zo}{mB:List Zl}{mC:List Zv}:∀r,(Z3 b c (fun z0 z1=>Zz z0 z1 mB) mH)=some r->evW ctx 145 [(.sl 0 1),(zN b),(zN c),(.fn 143 [(.ptr 1 0)])] [(zA mH),(zK0 mA mE t0 mD t1 mF t2 mB t3 mC)]=some ((Zao t0 t1 t2 t3 b c mH mA mE mD mF mB mC) r):=
 evS ZCm rfl rfl <| Zc _ (ZdG _) fun r7 _=>
  yR
def Za (t0 t1 t2 t3:Bool) (b c d:Int) (mH:LI) (mA mE:Int) (mD:List Z7) (mF:List Zo) (mB:List Zl) (mC:List Zv):LI->V×Zm
  | r=>((.d (D.tup [])),[(zA r),(zK0 mA mE t0 mD t1 mF t2 mB t3 mC)])
def Zcc (t0 t1 t2 t3:Bool) (c d mA mE:Int) (mD:List Z7) (mF:List Zo) (mB:List Zl) (mC:List Zv):(LI⊕LI)->Ex×List V×Zm
  | (.inl r)=>(.exit 0,[],[(zA r),(zK0 mA mE t0 mD t1 mF t2 mB t3 mC)])
  | (.inr r)=>(.ret,[],[(zA r),(zK0 mA mE t0 mD t1 mF t2 mB t3 mC)])
theorem ZeP {t0 t1:Bool}{t2 t3:Bool}{c d:Int}{mA mE:Int}{mD:List Z7}{mF:List Zo}{mB:List Zl}{mC:List Zv}:∀s0 r,lp (ZN c d (fun z0 z1=>Zz z0 z1 mB)) s0=some r->lpW ctx 2 [0,2,3,4,10] [] Zyg [(.sl 0 1),(zN c),(zN d),(.fn 143 [(.ptr 1 0)]),(zN s0.1)] [(zA s0.2),(zK0 mA mE t0 mD t1 mF t2 mB t3 mC)]=some ((Zcc t0 t1 t2 t3 c d mA mE mD mF mB mC) r):=
 lpT (Zcc t0 t1 t2 t3 c d mA mE mD mF mB mC) fun s0 _ ih=>yB (Zg rfl)
  (yB (yG fun x1 hx1=>
  Ze (Zk rfl hx1) (yG fun x2 hx2=>
  Ze (Zk rfl hx2) (yC ZK fun x3 _=>
  yB (yG fun x4 hx4=>
  Ze (Zk rfl hx4) (yG fun x5 hx5=>
  Ze (Zk rfl hx5) (yC ZK fun x6 _=>
  yB (Ze (ZW rfl hx5) (Ze (Zk rfl hx5) (Ze (ZW rfl hx4) (Ze (Zk rfl hx4) (Ze (ZW rfl hx4) (Ze (Zk rfl hx4) (Zh (ZL Zn s0.2 (w64 (d+s0.1)).toNat x5) (yG fun x7 hx7=>
  Ze (Zk rfl hx7) (Zh (ZL Zn (List.set s0.2 (w64 (d+s0.1)).toNat x5) (w64 (d+(w64 ((w64 ((w64 (2*s0.1))+1))+1)))).toNat x4) (Zd (ih _)))))))))))
  (Zg rfl))))
  (yG fun x8 hx8=>
  Ze (Zk rfl hx8) (Ze (ZW rfl hx1) (Ze (Zk rfl hx1) (yC ZK fun x9 _=>
  yB (Ze (ZW rfl hx1) (Ze (Zk rfl hx1) (Ze (ZW rfl hx8) (Ze (Zk rfl hx8) (Ze (ZW rfl hx8) (Ze (Zk rfl hx8) (Zh (ZL Zn s0.2 (w64 (d+s0.1)).toNat x1) (yG fun x10 hx10=>
  Ze (Zk rfl hx10) (Zh (ZL Zn (List.set s0.2 (w64 (d+s0.1)).toNat x1) (w64 (d+(w64 ((w64 (2*s0.1))+1)))).toNat x8) (Zd (ih _)))))))))))
  (Zg rfl))))))))
  (yG fun x11 hx11=>
  Ze (Zk rfl hx11) (yG fun x12 hx12=>
  Ze (Zk rfl hx12) (yC ZK fun x13 _=>
  yB (Ze (ZW rfl hx12) (Ze (Zk rfl hx12) (Ze (ZW rfl hx11) (Ze (Zk rfl hx11) (Ze (ZW rfl hx11) (Ze (Zk rfl hx11) (Zh (ZL Zn s0.2 (w64 (d+s0.1)).toNat x12) (yG fun x14 hx14=>
  Ze (Zk rfl hx14) (Zh (ZL Zn (List.set s0.2 (w64 (d+s0.1)).toNat x12) (w64 (d+(w64 ((w64 (2*s0.1))+1)))).toNat x11) (Zd (ih _)))))))))))
  (Zg rfl)))))
theorem Zct {t0 t1:Bool}{t2 t3:Bool}{b c d:Int}{mH:LI}{mA mE:Int}{mD:List Z7}{mF:List Zo}{mB:List Zl}{mC:List Zv}:∀r,(ZaM b c d (fun z0 z1=>Zz z0 z1 mB) mH)=some r->evW ctx 160 [(.sl 0 1),(zN b),(zN c),(zN d),(.fn 143 [(.ptr 1 0)])] [(zA mH),(zK0 mA mE t0 mD t1 mF t2 mB t3 mC)]=some ((Za t0 t1 t2 t3 b c d mH mA mE mD mF mB mC) r):=
 evS ZCY rfl rfl <| (by
 conv=>rhs;whnf
 refine Zc _ (ZeP _) fun r15 _=>?_
 rcases r15 with r15 | r15
 exact yR
 exact yR)
def Zca (t0 t1 t2 t3:Bool) (b c mA mE:Int) (mD:List Z7) (mF:List Zo) (mB:List Zl) (mC:List Zv):LI->Ex×List V×Zm
  | r=>(.exit 0,[(.sl 0 1),(.fn 143 [(.ptr 1 0)]),(zN b),(zN 0),(zN (w64 (c-b)))],[(zA r),(zK0 mA mE t0 mD t1 mF t2 mB t3 mC)])
theorem Ze3 {t0 t1:Bool}{t2 t3:Bool}{b c:Int}{mA mE:Int}{mD:List Z7}{mF:List Zo}{mB:List Zl}{mC:List Zv}:∀s0 r,lp (ZaQ b c (fun z0 z1=>Zz z0 z1 mB)) s0=some r->lpW ctx 2 [0,3,8,9,10,11] [0,3,8,9,10] ZxW [(.sl 0 1),(.fn 143 [(.ptr 1 0)]),(zN b),(zN 0),(zN (w64 (c-b))),(zN s0.1)] [(zA s0.2),(zK0 mA mE t0 mD t1 mF t2 mB t3 mC)]=some ((Zca t0 t1 t2 t3 b c mA mE mD mF mB mC) r):=
 lpT (Zca t0 t1 t2 t3 b c mA mE mD mF mB mC) fun s0 _ ih=>yB (Zc _ Zct fun x1 _=>
  Zd (ih _))
  (Zg rfl)
def Zcb (t0 t1 t2 t3:Bool) (b mA mE:Int) (mD:List Z7) (mF:List Zo) (mB:List Zl) (mC:List Zv):LI->Ex×List V×Zm
  | r=>(.exit 2,[],[(zA r),(zK0 mA mE t0 mD t1 mF t2 mB t3 mC)])
theorem ZeX {t0 t1:Bool}{t2 t3:Bool}{b mA mE:Int}{mD:List Z7}{mF:List Zo}{mB:List Zl}{mC:List Zv}:∀s3 r,lp (ZaS b (fun z0 z1=>Zz z0 z1 mB)) s3=some r->lpW ctx 2 [0,3,8,9,12] [] ZxZ [(.sl 0 1),(.fn 143 [(.ptr 1 0)]),(zN b),(zN 0),(zN s3.1)] [(zA s3.2),(zK0 mA mE t0 mD t1 mF t2 mB t3 mC)]=some ((Zcb t0 t1 t2 t3 b mA mE mD mF mB mC) r):=
 lpT (Zcb t0 t1 t2 t3 b mA mE mD mF mB mC) fun s3 _ ih=>yB (yG fun x4 hx4=>
  Ze (Zk rfl hx4) (yG fun x5 hx5=>
  Ze (Zk rfl hx5) (Ze (ZW rfl hx5) (Ze (Zk rfl hx5) (Zh (ZL Zn s3.2 b.toNat x4) (yG fun x6 hx6=>
  Ze (Zk rfl hx6) (Zh (ZL Zn (List.set s3.2 b.toNat x4) (w64 (b+s3.1)).toNat x5) (Zc _ Zct fun x7 _=>
  Zd (ih _)))))))))
  (Zg rfl)
theorem Zaz {t0 t1:Bool}{t2 t3:Bool}{b c:Int}{mH:LI}{mA mE:Int}{mD:List Z7}{mF:List Zo}{mB:List Zl}{mC:List Zv}:∀r,(Zaf b c (fun z0 z1=>Zz z0 z1 mB) mH)=some r->evW ctx 146 [(.sl 0 1),(zN b),(zN c),(.fn 143 [(.ptr 1 0)])] [(zA mH),(zK0 mA mE t0 mD t1 mF t2 mB t3 mC)]=some ((Zao t0 t1 t2 t3 b c mH mA mE mD mF mB mC) r):=
 evS ZDj rfl rfl <| yF (Zc _ (Ze3 _) fun r2 _=>
  Zc _ (ZeX _) fun r8 _=>
  yR)
def ZgD (t0 t1 t2 t3:Bool) (b c:Int) (mH:LI) (mA mJ mQ:Int) (mP:List Z7) (mO:List Zo) (mN:List Zl) (mR:List Zv):(Int×Int×Int)->V×Zm
  | r=>((.d (D.tup [(Zn r.1),(Zn r.2.1)])),[(zA mH),(.cells [(zN r.2.2)]),(zK0 mJ mQ t0 mP t1 mO t2 mN t3 mR)])
theorem Zbl {t0 t1:Bool}{t2 t3:Bool}{b c:Int}{mH:LI}{mA mJ mQ:Int}{mP:List Z7}{mO:List Zo}{mN:List Zl}{mR:List Zv}:∀r,(Za3 b c (fun z0 z1=>Zz z0 z1 mN) mH mA)=some r->evW ctx 174 [(.sl 0 1),(zN b),(zN c),(.ptr 1 0),(.fn 143 [(.ptr 2 0)])] [(zA mH),(.cells [(zN mA)]),(zK0 mJ mQ t0 mP t1 mO t2 mN t3 mR)]=some ((ZgD t0 t1 t2 t3 b c mH mA mJ mQ mP mO mN mR) r):=
 evS ZCX rfl rfl <| yG fun x0 hx0=>
  Ze (Zk rfl hx0) (yG fun x1 hx1=>
  Ze (Zk rfl hx1) (yC ZK fun x2 _=>
  yBr yR))
def ZgC (t0 t1 t2 t3:Bool) (b c d:Int) (mH:LI) (mA mJ:Int) (mQ:Int) (mP:List Z7) (mO:List Zo) (mN:List Zl) (mR:List Zv):(Int×Int)->V×Zm
  | r=>((zN r.1),[(zA mH),(.cells [(zN r.2)]),(zK0 mJ mQ t0 mP t1 mO t2 mN t3 mR)])
theorem Zbm {t0 t1:Bool}{t2 t3:Bool}{b c d:Int}{mH:LI}{mA mJ mQ:Int}{mP:List Z7}{mO:List Zo}{mN:List Zl}{mR:List Zv}:∀r,(Za2 b c d (fun z0 z1=>Zz z0 z1 mN) mH mA)=some r->evW ctx 164 [(.sl 0 1),(zN b),(zN c),(zN d),(.ptr 1 0),(.fn 143 [(.ptr 2 0)])] [(zA mH),(.cells [(zN mA)]),(zK0 mJ mQ t0 mP t1 mO t2 mN t3 mR)]=some ((ZgC t0 t1 t2 t3 b c d mH mA mJ mQ mP mO mN mR) r):=
 evS ZDi rfl rfl <| Zc _ Zbl fun x0 _=>
  Zc _ Zbl fun x1 _=>
  Zc _ Zbl fun x2 _=>
  yR
def Zec (t0 t1 t2 t3:Bool) (b:Int) (mH:LI) (mA mJ mQ:Int) (mP:List Z7) (mO:List Zo) (mN:List Zl) (mR:List Zv):(Int×Int)->V×Zm
  | r=>((zN r.1),[(zA mH),(.cells [(zN r.2)]),(zK0 mJ mQ t0 mP t1 mO t2 mN t3 mR)])
theorem ZaO {t0 t1:Bool}{t2 t3:Bool}{b:Int}{mH:LI}{mA mJ mQ:Int}{mP:List Z7}{mO:List Zo}{mN:List Zl}{mR:List Zv}:∀r,(Zah b (fun z0 z1=>Zz z0 z1 mN) mH mA)=some r->evW ctx 163 [(.sl 0 1),(zN b),(.ptr 1 0),(.fn 143 [(.ptr 2 0)])] [(zA mH),(.cells [(zN mA)]),(zK0 mJ mQ t0 mP t1 mO t2 mN t3 mR)]=some ((Zec t0 t1 t2 t3 b mH mA mJ mQ mP mO mN mR) r):=
 evS ZDd rfl rfl <| Zc _ Zbm fun x0 _=>
  yR
def Zfc (t0 t1 t2 t3:Bool) (b c:Int) (mH:LI) (mA mE:Int) (mD:List Z7) (mF:List Zo) (mB:List Zl) (mC:List Zv):(Int×Int)->V×Zm
  | r=>((.d (D.tup [(Zn r.1),(Zn r.2)])),[(zA mH),(zK0 mA mE t0 mD t1 mF t2 mB t3 mC)])
theorem Zaq {t0 t1:Bool}{t2 t3:Bool}{b c:Int}{mH:LI}{mA mE:Int}{mD:List Z7}{mF:List Zo}{mB:List Zl}{mC:List Zv}:∀r,(ZU b c (fun z0 z1=>Zz z0 z1 mB) mH)=some r->evW ctx 148 [(.sl 0 1),(zN b),(zN c),(.fn 143 [(.ptr 1 0)])] [(zA mH),(zK0 mA mE t0 mD t1 mF t2 mB t3 mC)]=some ((Zfc t0 t1 t2 t3 b c mH mA mE mD mF mB mC) r):=
 evS ZC8 rfl rfl <| yF (yF (yF (yB (yB (Zc _ ZaO fun x0 _=>
  Zc _ ZaO fun x1 _=>
  Zc _ ZaO fun x2 _=>
  Zc _ Zbm fun x3 _=>
  yBr (yBr yR))
  (Zc _ Zbm fun x4 _=>
  yBr (yBr yR)))
  (yT yR))))
def ZbP (t0 t1 t2 t3:Bool) (mA mE:Int) (mD:List Z7) (mF:List Zo) (mB:List Zl) (mC:List Zv):LI->Ex×List V×Zm
  | r=>(.exit 0,[],[(zA r),(zK0 mA mE t0 mD t1 mF t2 mB t3 mC)])
theorem ZdP {t0 t1:Bool}{t2 t3:Bool}{mA mE:Int}{mD:List Z7}{mF:List Zo}{mB:List Zl}{mC:List Zv}:∀s0 r,lp (Zac) s0=some r->lpW ctx 2 [0,8,9] [] ZyK [(.sl 0 1),(zN s0.1),(zN s0.2.1)] [(zA s0.2.2),(zK0 mA mE t0 mD t1 mF t2 mB t3 mC)]=some ((ZbP t0 t1 t2 t3 mA mE mD mF mB mC) r):=
 lpT (ZbP t0 t1 t2 t3 mA mE mD mF mB mC) fun s0 _ ih=>yB (yG fun x1 hx1=>
  Ze (Zk rfl hx1) (yG fun x2 hx2=>
  Ze (Zk rfl hx2) (Ze (ZW rfl hx2) (Ze (Zk rfl hx2) (Zh (ZL Zn s0.2.2 s0.1.toNat x1) (yG fun x3 hx3=>
  Ze (Zk rfl hx3) (Zh (ZL Zn (List.set s0.2.2 s0.1.toNat x1) s0.2.1.toNat x2) (Zd (ih _)))))))))
  (Zg rfl)
theorem Zan {t0 t1:Bool}{t2 t3:Bool}{b c:Int}{mH:LI}{mA mE:Int}{mD:List Z7}{mF:List Zo}{mB:List Zl}{mC:List Zv}:∀r,(ZR b c (fun z0 z1=>Zz z0 z1 mB) mH)=some r->evW ctx 149 [(.sl 0 1),(zN b),(zN c),(.fn 143 [(.ptr 1 0)])] [(zA mH),(zK0 mA mE t0 mD t1 mF t2 mB t3 mC)]=some ((Zao t0 t1 t2 t3 b c mH mA mE mD mF mB mC) r):=
 evS ZDc rfl rfl <| Zc _ (ZdP _) fun r4 _=>
  yR
def Zde (t0 t1 t2 t3:Bool) (b c:Int) (mH:LI) (mA mE:Int) (mD:List Z7) (mF:List Zo) (mB:List Zl) (mC:List Zv):(LI⊕LI)->V×Zm
  | (.inl r)=>((.d (D.bool true)),[(zA r),(zK0 mA mE t0 mD t1 mF t2 mB t3 mC)])
  | (.inr r)=>((.d (D.bool false)),[(zA r),(zK0 mA mE t0 mD t1 mF t2 mB t3 mC)])
def Zbe (t0 t1 t2 t3:Bool) (b c mA mE:Int) (mD:List Z7) (mF:List Zo) (mB:List Zl) (mC:List Zv) (s0:Int×Int×LI):Int->Ex×List V×Zm
  | r=>(.exit 2,[(.sl 0 1),(zN b),(zN c),(.fn 143 [(.ptr 1 0)]),(zN r),(zN s0.2.1)],[(zA s0.2.2),(zK0 mA mE t0 mD t1 mF t2 mB t3 mC)])
theorem ZcV {t0 t1:Bool}{t2 t3:Bool}{b c:Int}{mA mE:Int}{mD:List Z7}{mF:List Zo}{mB:List Zl}{mC:List Zv}{s0:Int×Int×LI}:∀s1 r,lp (ZQ c (fun z0 z1=>Zz z0 z1 mB) s0) s1=some r->lpW ctx 2 [0,1,2,3,9,10] [0,1,2,3,9,10] ZyM [(.sl 0 1),(zN b),(zN c),(.fn 143 [(.ptr 1 0)]),(zN s1),(zN s0.2.1)] [(zA s0.2.2),(zK0 mA mE t0 mD t1 mF t2 mB t3 mC)]=some ((Zbe t0 t1 t2 t3 b c mA mE mD mF mB mC s0) r):=
 lpT (Zbe t0 t1 t2 t3 b c mA mE mD mF mB mC s0) fun s1 _ ih=>yB (yG fun x2 hx2=>
  Ze (Zk rfl hx2) (yG fun x3 hx3=>
  Ze (Zk rfl hx3) (yC ZK fun x4 _=>
  yB (Zg rfl)
  (Zd (ih _)))))
  (Zg rfl)
def Zba (t0 t1 t2 t3:Bool) (b c mA mE:Int) (mD:List Z7) (mF:List Zo) (mB:List Zl) (mC:List Zv) (s0:Int×Int×LI) (r5:Int):LI->Ex×List V×Zm
  | r=>(.exit 4,[(.sl 0 1),(zN b),(zN c),(.fn 143 [(.ptr 1 0)]),(zN r5),(zN s0.2.1)],[(zA r),(zK0 mA mE t0 mD t1 mF t2 mB t3 mC)])
theorem ZcU {t0 t1:Bool}{t2 t3:Bool}{b c:Int}{mA mE:Int}{mD:List Z7}{mF:List Zo}{mB:List Zl}{mC:List Zv}{s0:Int×Int×LI}{r5:Int}:∀s9 r,lp (Z0 (fun z0 z1=>Zz z0 z1 mB)) s9=some r->lpW ctx 2 [0,1,2,3,9,10,11] [0,1,2,3,9,10] Zya [(.sl 0 1),(zN b),(zN c),(.fn 143 [(.ptr 1 0)]),(zN r5),(zN s0.2.1),(zN s9.1)] [(zA s9.2),(zK0 mA mE t0 mD t1 mF t2 mB t3 mC)]=some ((Zba t0 t1 t2 t3 b c mA mE mD mF mB mC s0 r5) r):=
 lpT (Zba t0 t1 t2 t3 b c mA mE mD mF mB mC s0 r5) fun s9 _ ih=>yB (yG fun x10 hx10=>
  Ze (Zk rfl hx10) (yG fun x11 hx11=>
  Ze (Zk rfl hx11) (yC ZK fun x12 _=>
  yB (Ze (ZW rfl hx11) (Ze (Zk rfl hx11) (Ze (ZW rfl hx10) (Ze (Zk rfl hx10) (Ze (ZW rfl hx10) (Ze (Zk rfl hx10) (Zh (ZL Zn s9.2 s9.1.toNat x11) (yG fun x13 hx13=>
  Ze (Zk rfl hx13) (Zh (ZL Zn (List.set s9.2 s9.1.toNat x11) (w64 (s9.1-1)).toNat x10) (Zd (ih _)))))))))))
  (Zg rfl))))
  (Zg rfl)
def Zbb (t0 t1 t2 t3:Bool) (b c mA mE:Int) (mD:List Z7) (mF:List Zo) (mB:List Zl) (mC:List Zv) (s0:Int×Int×LI) (r5:Int):LI->Ex×List V×Zm
  | r=>(.exit 6,[(.sl 0 1),(zN b),(zN c),(.fn 143 [(.ptr 1 0)]),(zN r5),(zN s0.2.1)],[(zA r),(zK0 mA mE t0 mD t1 mF t2 mB t3 mC)])
theorem Za8 {t0 t1:Bool}{t2 t3:Bool}{b c:Int}{mA mE:Int}{mD:List Z7}{mF:List Zo}{mB:List Zl}{mC:List Zv}{s0:Int×Int×LI}{r5:Int}:∀s15 r,lp (ZM c (fun z0 z1=>Zz z0 z1 mB)) s15=some r->lpW ctx 2 [0,1,2,3,9,10,12] [0,1,2,3,9,10] ZxO [(.sl 0 1),(zN b),(zN c),(.fn 143 [(.ptr 1 0)]),(zN r5),(zN s0.2.1),(zN s15.1)] [(zA s15.2),(zK0 mA mE t0 mD t1 mF t2 mB t3 mC)]=some ((Zbb t0 t1 t2 t3 b c mA mE mD mF mB mC s0 r5) r):=
 lpT (Zbb t0 t1 t2 t3 b c mA mE mD mF mB mC s0 r5) fun s15 _ ih=>yB (yG fun x16 hx16=>
  Ze (Zk rfl hx16) (yG fun x17 hx17=>
  Ze (Zk rfl hx17) (yC ZK fun x18 _=>
  yB (Ze (ZW rfl hx17) (Ze (Zk rfl hx17) (Ze (ZW rfl hx16) (Ze (Zk rfl hx16) (Ze (ZW rfl hx16) (Ze (Zk rfl hx16) (Zh (ZL Zn s15.2 s15.1.toNat x17) (yG fun x19 hx19=>
  Ze (Zk rfl hx19) (Zh (ZL Zn (List.set s15.2 s15.1.toNat x17) (w64 (s15.1-1)).toNat x16) (Zd (ih _)))))))))))
  (Zg rfl))))
  (Zg rfl)
def Zbc (t0 t1 t2 t3:Bool) (b c mA mE:Int) (mD:List Z7) (mF:List Zo) (mB:List Zl) (mC:List Zv):(LI⊕(LI⊕LI))->Ex×List V×Zm
  | (.inl r)=>(.ret,[(.d (D.bool true))],[(zA r),(zK0 mA mE t0 mD t1 mF t2 mB t3 mC)])
  | (.inr (.inl r))=>(.ret,[(.d (D.bool false))],[(zA r),(zK0 mA mE t0 mD t1 mF t2 mB t3 mC)])
  | (.inr (.inr r))=>(.exit 0,[.bad],[(zA r),(zK0 mA mE t0 mD t1 mF t2 mB t3 mC)])
theorem ZcZ {t0 t1:Bool}{t2 t3:Bool}{b c:Int}{mA mE:Int}{mD:List Z7}{mF:List Zo}{mB:List Zl}{mC:List Zv}:∀s0 r,lp (ZZ b c (fun z0 z1=>Zz z0 z1 mB)) s0=some r->lpW ctx 2 [0,1,2,3,9,10] [8] Zyx [(.sl 0 1),(zN b),(zN c),(.fn 143 [(.ptr 1 0)]),(zN s0.1),(zN s0.2.1)] [(zA s0.2.2),(zK0 mA mE t0 mD t1 mF t2 mB t3 mC)]=some ((Zbc t0 t1 t2 t3 b c mA mE mD mF mB mC) r):=
 lpT (Zbc t0 t1 t2 t3 b c mA mE mD mF mB mC) fun s0 _ ih=>yB (Zc _ (ZcV _) fun r5 _=>
  yB (Zg rfl)
  (yB (Zg rfl)
  (yG fun x6 hx6=>
  Ze (Zk rfl hx6) (yG fun x7 hx7=>
  Ze (Zk rfl hx7) (Ze (ZW rfl hx7) (Ze (Zk rfl hx7) (Zh (ZL Zn s0.2.2 r5.toNat x6) (yG fun x8 hx8=>
  Ze (Zk rfl hx8) (Zh (ZL Zn (List.set s0.2.2 r5.toNat x6) (w64 (r5-1)).toNat x7) (yB (Zc _ (ZcU _) fun r14 _=>
  yB (Zc _ (Za8 _) fun r20 _=>
  Zd (ih _))
  (Zd (ih _)))
  (yB (Zc _ (Za8 _) fun r26 _=>
  Zd (ih _))
  (Zd (ih _)))))))))))))
  (Zg rfl)
theorem Zbp {t0 t1:Bool}{t2 t3:Bool}{b c:Int}{mH:LI}{mA mE:Int}{mD:List Z7}{mF:List Zo}{mB:List Zl}{mC:List Zv}:∀r,(ZX b c (fun z0 z1=>Zz z0 z1 mB) mH)=some r->evW ctx 150 [(.sl 0 1),(zN b),(zN c),(.fn 143 [(.ptr 1 0)])] [(zA mH),(zK0 mA mE t0 mD t1 mF t2 mB t3 mC)]=some ((Zde t0 t1 t2 t3 b c mH mA mE mD mF mB mC) r):=
 evS ZCa rfl rfl <| (by
 conv=>rhs;whnf
 refine Zc _ (ZcZ _) fun r27 _=>?_
 rcases r27 with r27 | (r27 | r27)
 exact yR
 exact yR
 exact yR)
def ZfS (t0 t1 t2 t3:Bool) (b c d:Int) (mH:LI) (mA mE:Int) (mD:List Z7) (mF:List Zo) (mB:List Zl) (mC:List Zv):((Int×LI)⊕(Int×LI))->V×Zm
  | (.inl r)=>((.d (D.tup [(Zn r.1),(D.bool true)])),[(zA r.2),(zK0 mA mE t0 mD t1 mF t2 mB t3 mC)])
  | (.inr r)=>((.d (D.tup [(Zn r.1),(D.bool false)])),[(zA r.2),(zK0 mA mE t0 mD t1 mF t2 mB t3 mC)])
def Zb8 (t0 t1 t2 t3:Bool) (b c d:Int) (mH:LI) (mA mE:Int) (mD:List Z7) (mF:List Zo) (mB:List Zl) (mC:List Zv) (x0:Int) (x1:Int):Int->Ex×List V×Zm
  | r=>(.exit 0,[(.sl 0 1),(zN b),(.fn 143 [(.ptr 1 0)]),(zN r),(zN (w64 (c-1)))],[(zA (List.set (List.set mH b.toNat x0) d.toNat x1)),(zK0 mA mE t0 mD t1 mF t2 mB t3 mC)])
theorem ZeA {t0 t1:Bool}{t2 t3:Bool}{b c d:Int}{mH:LI}{mA mE:Int}{mD:List Z7}{mF:List Zo}{mB:List Zl}{mC:List Zv}{x0 x1:Int}:∀s3 r,lp (ZaK b c d mH (fun z0 z1=>Zz z0 z1 mB) x0 x1) s3=some r->lpW ctx 2 [0,1,4,12,13] [0,1,4,12,13] ZyI [(.sl 0 1),(zN b),(.fn 143 [(.ptr 1 0)]),(zN s3),(zN (w64 (c-1)))] [(zA (List.set (List.set mH b.toNat x0) d.toNat x1)),(zK0 mA mE t0 mD t1 mF t2 mB t3 mC)]=some ((Zb8 t0 t1 t2 t3 b c d mH mA mE mD mF mB mC x0 x1) r):=
 lpT (Zb8 t0 t1 t2 t3 b c d mH mA mE mD mF mB mC x0 x1) fun s3 _ ih=>yB (yG fun x4 hx4=>
  Ze (Zk rfl hx4) (yG fun x5 hx5=>
  Ze (Zk rfl hx5) (yC ZK fun x6 _=>
  yB (Zd (ih _))
  (Zg rfl))))
  (Zg rfl)
def Zb4 (t0 t1 t2 t3:Bool) (b d:Int) (mH:LI) (mA mE:Int) (mD:List Z7) (mF:List Zo) (mB:List Zl) (mC:List Zv) (x0 x1:Int) (r7:Int):Int->Ex×List V×Zm
  | r=>(.exit 2,[(.sl 0 1),(zN b),(.fn 143 [(.ptr 1 0)]),(zN r7),(zN r)],[(zA (List.set (List.set mH b.toNat x0) d.toNat x1)),(zK0 mA mE t0 mD t1 mF t2 mB t3 mC)])
theorem Zex {t0 t1:Bool}{t2 t3:Bool}{b d:Int}{mH:LI}{mA mE:Int}{mD:List Z7}{mF:List Zo}{mB:List Zl}{mC:List Zv}{x0 x1 r7:Int}:∀s8 r,lp (ZaJ b d mH (fun z0 z1=>Zz z0 z1 mB) x0 x1 r7) s8=some r->lpW ctx 2 [0,1,4,12,13] [0,1,4,12,13] Zx4 [(.sl 0 1),(zN b),(.fn 143 [(.ptr 1 0)]),(zN r7),(zN s8)] [(zA (List.set (List.set mH b.toNat x0) d.toNat x1)),(zK0 mA mE t0 mD t1 mF t2 mB t3 mC)]=some ((Zb4 t0 t1 t2 t3 b d mH mA mE mD mF mB mC x0 x1 r7) r):=
 lpT (Zb4 t0 t1 t2 t3 b d mH mA mE mD mF mB mC x0 x1 r7) fun s8 _ ih=>yB (yG fun x9 hx9=>
  Ze (Zk rfl hx9) (yG fun x10 hx10=>
  Ze (Zk rfl hx10) (yC ZK fun x11 _=>
  yB (Zg rfl)
  (Zd (ih _)))))
  (Zg rfl)
def Zb1 (t0 t1 t2 t3:Bool) (b mA mE:Int) (mD:List Z7) (mF:List Zo) (mB:List Zl) (mC:List Zv) (s19:Int×Int×LI):Int->Ex×List V×Zm
  | r=>(.exit 6,[(.sl 0 1),(zN b),(.fn 143 [(.ptr 1 0)]),(zN r),(zN s19.2.1)],[(zA s19.2.2),(zK0 mA mE t0 mD t1 mF t2 mB t3 mC)])
theorem ZeJ {t0 t1:Bool}{t2 t3:Bool}{b mA mE:Int}{mD:List Z7}{mF:List Zo}{mB:List Zl}{mC:List Zv}{s19:Int×Int×LI}:∀s20 r,lp (ZaL b (fun z0 z1=>Zz z0 z1 mB) s19) s20=some r->lpW ctx 2 [0,1,4,12,13] [0,1,4,12,13] ZxT [(.sl 0 1),(zN b),(.fn 143 [(.ptr 1 0)]),(zN s20),(zN s19.2.1)] [(zA s19.2.2),(zK0 mA mE t0 mD t1 mF t2 mB t3 mC)]=some ((Zb1 t0 t1 t2 t3 b mA mE mD mF mB mC s19) r):=
 lpT (Zb1 t0 t1 t2 t3 b mA mE mD mF mB mC s19) fun s20 _ ih=>yB (yG fun x21 hx21=>
  Ze (Zk rfl hx21) (yG fun x22 hx22=>
  Ze (Zk rfl hx22) (yC ZK fun x23 _=>
  yB (Zd (ih _))
  (Zg rfl))))
  (Zg rfl)
def Zb7 (t0 t1 t2 t3:Bool) (b mA mE:Int) (mD:List Z7) (mF:List Zo) (mB:List Zl) (mC:List Zv) (s19:Int×Int×LI) (r24:Int):Int->Ex×List V×Zm
  | r=>(.exit 8,[(.sl 0 1),(zN b),(.fn 143 [(.ptr 1 0)]),(zN r24),(zN r)],[(zA s19.2.2),(zK0 mA mE t0 mD t1 mF t2 mB t3 mC)])
theorem Zem {t0 t1:Bool}{t2 t3:Bool}{b mA mE:Int}{mD:List Z7}{mF:List Zo}{mB:List Zl}{mC:List Zv}{s19:Int×Int×LI}{r24:Int}:∀s25 r,lp (ZaH b (fun z0 z1=>Zz z0 z1 mB) s19 r24) s25=some r->lpW ctx 2 [0,1,4,12,13] [0,1,4,12,13] ZyP [(.sl 0 1),(zN b),(.fn 143 [(.ptr 1 0)]),(zN r24),(zN s25)] [(zA s19.2.2),(zK0 mA mE t0 mD t1 mF t2 mB t3 mC)]=some ((Zb7 t0 t1 t2 t3 b mA mE mD mF mB mC s19 r24) r):=
 lpT (Zb7 t0 t1 t2 t3 b mA mE mD mF mB mC s19 r24) fun s25 _ ih=>yB (yG fun x26 hx26=>
  Ze (Zk rfl hx26) (yG fun x27 hx27=>
  Ze (Zk rfl hx27) (yC ZK fun x28 _=>
  yB (Zg rfl)
  (Zd (ih _)))))
  (Zg rfl)
def Zb3 (t0 t1 t2 t3:Bool) (b mA mE:Int) (mD:List Z7) (mF:List Zo) (mB:List Zl) (mC:List Zv):(Int×LI)->Ex×List V×Zm
  | r=>(.exit 4,[(.sl 0 1),(zN b),(zN r.1)],[(zA r.2),(zK0 mA mE t0 mD t1 mF t2 mB t3 mC)])
theorem ZeI {t0 t1:Bool}{t2 t3:Bool}{b mA mE:Int}{mD:List Z7}{mF:List Zo}{mB:List Zl}{mC:List Zv}:∀s19 r,lp (Za9 b (fun z0 z1=>Zz z0 z1 mB)) s19=some r->lpW ctx 2 [0,1,4,12,13] [0,1,13] Zyr [(.sl 0 1),(zN b),(.fn 143 [(.ptr 1 0)]),(zN s19.1),(zN s19.2.1)] [(zA s19.2.2),(zK0 mA mE t0 mD t1 mF t2 mB t3 mC)]=some ((Zb3 t0 t1 t2 t3 b mA mE mD mF mB mC) r):=
 lpT (Zb3 t0 t1 t2 t3 b mA mE mD mF mB mC) fun s19 _ ih=>Zc _ (ZeJ _) fun r24 _=>
  Zc _ (Zem _) fun r29 _=>
  yB (Zg rfl)
  (yG fun x30 hx30=>
  Ze (Zk rfl hx30) (yG fun x31 hx31=>
  Ze (Zk rfl hx31) (Ze (ZW rfl hx31) (Ze (Zk rfl hx31) (Zh (ZL Zn s19.2.2 r24.toNat x30) (yG fun x32 hx32=>
  Ze (Zk rfl hx32) (Zh (ZL Zn (List.set s19.2.2 r24.toNat x30) r29.toNat x31) (Zd (ih _)))))))))
theorem Zp {t0 t1:Bool}{t2 t3:Bool}{b c d:Int}{mH:LI}{mA mE:Int}{mD:List Z7}{mF:List Zo}{mB:List Zl}{mC:List Zv}:∀r,(Zu b c d (fun z0 z1=>Zz z0 z1 mB) mH)=some r->evW ctx 152 [(.sl 0 1),(zN b),(zN c),(zN d),(.fn 143 [(.ptr 1 0)])] [(zA mH),(zK0 mA mE t0 mD t1 mF t2 mB t3 mC)]=some ((ZfS t0 t1 t2 t3 b c d mH mA mE mD mF mB mC) r):=
 evS ZCD rfl rfl <| yG fun x0 hx0=>
  Ze (Zk rfl hx0) (yG fun x1 hx1=>
  Ze (Zk rfl hx1) (Ze (ZW rfl hx1) (Ze (Zk rfl hx1) (Zh (ZL Zn mH b.toNat x0) (yG fun x2 hx2=>
  Ze (Zk rfl hx2) (Zh (ZL Zn (List.set mH b.toNat x0) d.toNat x1) (Zc _ (ZeA _) fun r7 _=>
  Zc _ (Zex _) fun r12 _=>
  yB (yG fun x13 hx13=>
  Ze (Zk rfl hx13) (yG fun x14 hx14=>
  Ze (Zk rfl hx14) (Ze (ZW rfl hx14) (Ze (Zk rfl hx14) (Zh (ZL Zn (List.set (List.set mH b.toNat x0) d.toNat x1) r12.toNat x13) (yG fun x15 hx15=>
  Ze (Zk rfl hx15) (Zh (ZL Zn (List.set (List.set (List.set mH b.toNat x0) d.toNat x1) r12.toNat x13) b.toNat x14) yR)))))))
  (yG fun x16 hx16=>
  Ze (Zk rfl hx16) (yG fun x17 hx17=>
  Ze (Zk rfl hx17) (Ze (ZW rfl hx17) (Ze (Zk rfl hx17) (Zh (ZL Zn (List.set (List.set mH b.toNat x0) d.toNat x1) r7.toNat x16) (yG fun x18 hx18=>
  Ze (Zk rfl hx18) (Zh (ZL Zn (List.set (List.set (List.set mH b.toNat x0) d.toNat x1) r7.toNat x16) r12.toNat x17) (Zc _ (ZeI _) fun r33 _=>
  yG fun x34 hx34=>
  Ze (Zk rfl hx34) (yG fun x35 hx35=>
  Ze (Zk rfl hx35) (Ze (ZW rfl hx35) (Ze (Zk rfl hx35) (Zh (ZL Zn r33.2 r33.1.toNat x34) (yG fun x36 hx36=>
  Ze (Zk rfl hx36) (Zh (ZL Zn (List.set r33.2 r33.1.toNat x34) b.toNat x35) yR)))))))))))))))))))))
def Zef (t0 t1 t2 t3:Bool) (b c d:Int) (mH:LI) (mA mE:Int) (mD:List Z7) (mF:List Zo) (mB:List Zl) (mC:List Zv):(Int×LI)->V×Zm
  | r=>((zN r.1),[(zA r.2),(zK0 mA mE t0 mD t1 mF t2 mB t3 mC)])
def ZbG (t0 t1 t2 t3:Bool) (b mA mE:Int) (mD:List Z7) (mF:List Zo) (mB:List Zl) (mC:List Zv) (s3:Int×Int×LI):Int->Ex×List V×Zm
  | r=>(.exit 2,[(.sl 0 1),(zN b),(.fn 143 [(.ptr 1 0)]),(zN r),(zN s3.2.1)],[(zA s3.2.2),(zK0 mA mE t0 mD t1 mF t2 mB t3 mC)])
theorem Zdw {t0 t1:Bool}{t2 t3:Bool}{b mA mE:Int}{mD:List Z7}{mF:List Zo}{mB:List Zl}{mC:List Zv}{s3:Int×Int×LI}:∀s4 r,lp (Zal b (fun z0 z1=>Zz z0 z1 mB) s3) s4=some r->lpW ctx 2 [0,1,4,11,12] [0,1,4,11,12] ZyX [(.sl 0 1),(zN b),(.fn 143 [(.ptr 1 0)]),(zN s4),(zN s3.2.1)] [(zA s3.2.2),(zK0 mA mE t0 mD t1 mF t2 mB t3 mC)]=some ((ZbG t0 t1 t2 t3 b mA mE mD mF mB mC s3) r):=
 lpT (ZbG t0 t1 t2 t3 b mA mE mD mF mB mC s3) fun s4 _ ih=>yB (yG fun x5 hx5=>
  Ze (Zk rfl hx5) (yG fun x6 hx6=>
  Ze (Zk rfl hx6) (yC ZK fun x7 _=>
  yB (Zg rfl)
  (Zd (ih _)))))
  (Zg rfl)
def ZbH (t0 t1 t2 t3:Bool) (b mA mE:Int) (mD:List Z7) (mF:List Zo) (mB:List Zl) (mC:List Zv) (s3:Int×Int×LI) (r8:Int):Int->Ex×List V×Zm
  | r=>(.exit 4,[(.sl 0 1),(zN b),(.fn 143 [(.ptr 1 0)]),(zN r8),(zN r)],[(zA s3.2.2),(zK0 mA mE t0 mD t1 mF t2 mB t3 mC)])
theorem ZdB {t0 t1:Bool}{t2 t3:Bool}{b mA mE:Int}{mD:List Z7}{mF:List Zo}{mB:List Zl}{mC:List Zv}{s3:Int×Int×LI}{r8:Int}:∀s9 r,lp (Zam b (fun z0 z1=>Zz z0 z1 mB) s3 r8) s9=some r->lpW ctx 2 [0,1,4,11,12] [0,1,4,11,12] Zyn [(.sl 0 1),(zN b),(.fn 143 [(.ptr 1 0)]),(zN r8),(zN s9)] [(zA s3.2.2),(zK0 mA mE t0 mD t1 mF t2 mB t3 mC)]=some ((ZbH t0 t1 t2 t3 b mA mE mD mF mB mC s3 r8) r):=
 lpT (ZbH t0 t1 t2 t3 b mA mE mD mF mB mC s3 r8) fun s9 _ ih=>yB (yG fun x10 hx10=>
  Ze (Zk rfl hx10) (yG fun x11 hx11=>
  Ze (Zk rfl hx11) (yC ZK fun x12 _=>
  yB (Zd (ih _))
  (Zg rfl))))
  (Zg rfl)
def ZbF (t0 t1 t2 t3:Bool) (b mA mE:Int) (mD:List Z7) (mF:List Zo) (mB:List Zl) (mC:List Zv):(Int×LI)->Ex×List V×Zm
  | r=>(.exit 0,[(zN r.1)],[(zA r.2),(zK0 mA mE t0 mD t1 mF t2 mB t3 mC)])
theorem Zdy {t0 t1:Bool}{t2 t3:Bool}{b mA mE:Int}{mD:List Z7}{mF:List Zo}{mB:List Zl}{mC:List Zv}:∀s3 r,lp (ZaI b (fun z0 z1=>Zz z0 z1 mB)) s3=some r->lpW ctx 2 [0,1,4,11,12] [11] Zyy [(.sl 0 1),(zN b),(.fn 143 [(.ptr 1 0)]),(zN s3.1),(zN s3.2.1)] [(zA s3.2.2),(zK0 mA mE t0 mD t1 mF t2 mB t3 mC)]=some ((ZbF t0 t1 t2 t3 b mA mE mD mF mB mC) r):=
 lpT (ZbF t0 t1 t2 t3 b mA mE mD mF mB mC) fun s3 _ ih=>Zc _ (Zdw _) fun r8 _=>
  Zc _ (ZdB _) fun r13 _=>
  yB (Zg rfl)
  (yG fun x14 hx14=>
  Ze (Zk rfl hx14) (yG fun x15 hx15=>
  Ze (Zk rfl hx15) (Ze (ZW rfl hx15) (Ze (Zk rfl hx15) (Zh (ZL Zn s3.2.2 r8.toNat x14) (yG fun x16 hx16=>
  Ze (Zk rfl hx16) (Zh (ZL Zn (List.set s3.2.2 r8.toNat x14) r13.toNat x15) (Zd (ih _)))))))))
theorem ZB {t0 t1:Bool}{t2 t3:Bool}{b c d:Int}{mH:LI}{mA mE:Int}{mD:List Z7}{mF:List Zo}{mB:List Zl}{mC:List Zv}:∀r,(ZG b c d (fun z0 z1=>Zz z0 z1 mB) mH)=some r->evW ctx 151 [(.sl 0 1),(zN b),(zN c),(zN d),(.fn 143 [(.ptr 1 0)])] [(zA mH),(zK0 mA mE t0 mD t1 mF t2 mB t3 mC)]=some ((Zef t0 t1 t2 t3 b c d mH mA mE mD mF mB mC) r):=
 evS ZCI rfl rfl <| yG fun x0 hx0=>
  Ze (Zk rfl hx0) (yG fun x1 hx1=>
  Ze (Zk rfl hx1) (Ze (ZW rfl hx1) (Ze (Zk rfl hx1) (Zh (ZL Zn mH b.toNat x0) (yG fun x2 hx2=>
  Ze (Zk rfl hx2) (Zh (ZL Zn (List.set mH b.toNat x0) d.toNat x1) (Zc _ (Zdy _) fun r17 _=>
  yR)))))))
def ZlS (r:Int):D:=(D.int .u64 r)
theorem Zht {a:Int}:∀r,(ZdJ a)=some r->evD ctx 161 [(zN a)]=some (ZlS r):=
 evT ZE4 rfl rfl <| yC Zio fun x0 _=>
  yBn yR
def Zmz (mH:Int):Unit->V×Zm
  | r=>((.d (D.int .u64 (u64.wrap (Zs (u64.wrap (Zs (u64.wrap (Zs mH ^^^ Zs (u64.wrap (mH*2 ^ 13))).toNat) ^^^ Zs (Int.fdiv (u64.wrap (Zs mH ^^^ Zs (u64.wrap (mH*2 ^ 13))).toNat) (2 ^ 7))).toNat) ^^^ Zs (u64.wrap ((u64.wrap (Zs (u64.wrap (Zs mH ^^^ Zs (u64.wrap (mH*2 ^ 13))).toNat) ^^^ Zs (Int.fdiv (u64.wrap (Zs mH ^^^ Zs (u64.wrap (mH*2 ^ 13))).toNat) (2 ^ 7))).toNat)*2 ^ 17))).toNat))),[(.cells [(.d (D.int .u64 (u64.wrap (Zs (u64.wrap (Zs (u64.wrap (Zs mH ^^^ Zs (u64.wrap (mH*2 ^ 13))).toNat) ^^^ Zs (Int.fdiv (u64.wrap (Zs mH ^^^ Zs (u64.wrap (mH*2 ^ 13))).toNat) (2 ^ 7))).toNat) ^^^ Zs (u64.wrap ((u64.wrap (Zs (u64.wrap (Zs mH ^^^ Zs (u64.wrap (mH*2 ^ 13))).toNat) ^^^ Zs (Int.fdiv (u64.wrap (Zs mH ^^^ Zs (u64.wrap (mH*2 ^ 13))).toNat) (2 ^ 7))).toNat)*2 ^ 17))).toNat)))])])
theorem ZhW {mH:Int}:∀r,ZgL=some r->evW ctx 162 [(.ptr 0 0)] [(.cells [(.d (D.int .u64 mH))])]=some ((Zmz mH) r):=
 evS ZHX rfl rfl <| yF (yF (yF yR))
def ZbJ (t0 t1 t2 t3:Bool) (b c mA mE:Int) (mD:List Z7) (mF:List Zo) (mB:List Zl) (mC:List Zv) (x0:Int):LI->Ex×List V×Zm
  | r=>(.exit 0,[],[(zA r),(zK0 mA mE t0 mD t1 mF t2 mB t3 mC)])
theorem ZdH {t0 t1:Bool}{t2 t3:Bool}{b c:Int}{mA mE:Int}{mD:List Z7}{mF:List Zo}{mB:List Zl}{mC:List Zv}{x0:Int}:∀s1 r,lp (ZaP b c x0) s1=some r->lpW ctx 2 [0,1,8,9,10,11] [] ZxK [(.sl 0 1),(zN b),(zN (w64 (c-b))),(.ptr 2 0),(.d (D.int .u64 x0)),(zN s1.1)] [(zA s1.2.1),(zK0 mA mE t0 mD t1 mF t2 mB t3 mC),(.cells [(.d (D.int .u64 s1.2.2))])]=some ((ZbJ t0 t1 t2 t3 b c mA mE mD mF mB mC x0) r):=
 lpT (ZbJ t0 t1 t2 t3 b c mA mE mD mF mB mC x0) fun s1 _ ih=>yF (yB (Zc _ ZhW fun x2 _=>
  yB (yG fun x3 hx3=>
  Ze (Zk rfl hx3) (yG fun x4 hx4=>
  Ze (Zk rfl hx4) (Ze (ZW rfl hx4) (Ze (Zk rfl hx4) (Zh (ZL Zn s1.2.1 s1.1.toNat x3) (yG fun x5 hx5=>
  Ze (Zk rfl hx5) (Zh (ZL Zn (List.set s1.2.1 s1.1.toNat x3) (w64 (b+(w64 ((w64 (u64.wrap (Zs (u64.wrap (Zs (u64.wrap (Zs (u64.wrap (Zs s1.2.2 ^^^ Zs (u64.wrap (s1.2.2*2 ^ 13))).toNat) ^^^ Zs (Int.fdiv (u64.wrap (Zs s1.2.2 ^^^ Zs (u64.wrap (s1.2.2*2 ^ 13))).toNat) (2 ^ 7))).toNat) ^^^ Zs (u64.wrap ((u64.wrap (Zs (u64.wrap (Zs s1.2.2 ^^^ Zs (u64.wrap (s1.2.2*2 ^ 13))).toNat) ^^^ Zs (Int.fdiv (u64.wrap (Zs s1.2.2 ^^^ Zs (u64.wrap (s1.2.2*2 ^ 13))).toNat) (2 ^ 7))).toNat)*2 ^ 17))).toNat) &&& Zs (u64.wrap (x0-1))).toNat))-(w64 (c-b)))))).toNat x4) (Zd (ih _)))))))))
  (yG fun x6 hx6=>
  Ze (Zk rfl hx6) (yG fun x7 hx7=>
  Ze (Zk rfl hx7) (Ze (ZW rfl hx7) (Ze (Zk rfl hx7) (Zh (ZL Zn s1.2.1 s1.1.toNat x6) (yG fun x8 hx8=>
  Ze (Zk rfl hx8) (Zh (ZL Zn (List.set s1.2.1 s1.1.toNat x6) (w64 (b+(w64 (u64.wrap (Zs (u64.wrap (Zs (u64.wrap (Zs (u64.wrap (Zs s1.2.2 ^^^ Zs (u64.wrap (s1.2.2*2 ^ 13))).toNat) ^^^ Zs (Int.fdiv (u64.wrap (Zs s1.2.2 ^^^ Zs (u64.wrap (s1.2.2*2 ^ 13))).toNat) (2 ^ 7))).toNat) ^^^ Zs (u64.wrap ((u64.wrap (Zs (u64.wrap (Zs s1.2.2 ^^^ Zs (u64.wrap (s1.2.2*2 ^ 13))).toNat) ^^^ Zs (Int.fdiv (u64.wrap (Zs s1.2.2 ^^^ Zs (u64.wrap (s1.2.2*2 ^ 13))).toNat) (2 ^ 7))).toNat)*2 ^ 17))).toNat) &&& Zs (u64.wrap (x0-1))).toNat)))).toNat x7) (Zd (ih _))))))))))
  (Zg rfl))
theorem ZbW {t0 t1:Bool}{t2 t3:Bool}{b c:Int}{mH:LI}{mA mE:Int}{mD:List Z7}{mF:List Zo}{mB:List Zl}{mC:List Zv}:∀r,(Zaj b c (fun z0 z1=>Zz z0 z1 mB) mH)=some r->evW ctx 147 [(.sl 0 1),(zN b),(zN c),(.fn 143 [(.ptr 1 0)])] [(zA mH),(zK0 mA mE t0 mD t1 mF t2 mB t3 mC)]=some ((Zao t0 t1 t2 t3 b c mH mA mE mD mF mB mC) r):=
 evS ZCw rfl rfl <| yB (yC Zht fun x0 _=>
  yF (Zc _ (ZdH _) fun r9 _=>
  yR))
  yR
def Zcj (t0 t1 t2 t3:Bool) (mA mE:Int) (mD:List Z7) (mF:List Zo) (mB:List Zl) (mC:List Zv) (rc:Int->Int->Int->(Int->Int->Option Int)->LI->Option LI):LI->Ex×List V×Zm
  | r=>(.ret,[],[(zA r),(zK0 mA mE t0 mD t1 mF t2 mB t3 mC)])
theorem Zfe {t0 t1:Bool}{t2 t3:Bool}{mA mE:Int}{mD:List Z7}{mF:List Zo}{mB:List Zl}{mC:List Zv}{rc:Int->Int->Int->(Int->Int->Option Int)->LI->Option LI} (hrc:∀(t0:Bool) (t1:Bool) (t2:Bool) (t3:Bool) (b:Int) (c:Int) (d:Int) (mH:LI) (mA:Int) (mE:Int) (mD:List Z7) (mF:List Zo) (mB:List Zl) (mC:List Zv) (r:LI),rc b c d (fun z0 z1=>Zz z0 z1 mB) mH=some r->evW ctx 122 [(.sl 0 1),(zN b),(zN c),(zN d),(.fn 143 [(.ptr 1 0)])] [(zA mH),(zK0 mA mE t0 mD t1 mF t2 mB t3 mC)]=some ((Za t0 t1 t2 t3 b c d mH mA mE mD mF mB mC) r)):∀s0 r,lp (ZD (fun z0 z1=>Zz z0 z1 mB) rc) s0=some r->lpW ctx 2 [0,1,2,3,4,10,11] [] ZyH [(.sl 0 1),(zN s0.1),(zN s0.2.1),(zN s0.2.2.1),(.fn 143 [(.ptr 1 0)]),(.d (D.bool s0.2.2.2.1)),(.d (D.bool s0.2.2.2.2.1))] [(zA s0.2.2.2.2.2),(zK0 mA mE t0 mD t1 mF t2 mB t3 mC)]=some ((Zcj t0 t1 t2 t3 mA mE mD mF mB mC rc) r):=
 lpT (Zcj t0 t1 t2 t3 mA mE mD mF mB mC rc) fun s0 _ ih=>(by
 try unfold ZD
 rcases hb:s0.2.2.2.1 with _ | _
 exact Ztl (by
 try unfold ZD
 rcases hb:s0.2.2.2.2.1 with _ | _
 exact Ztl (yB (Zc _ Zai fun x170 _=>
  Zg rfl)
  (yB (Zc _ Zaz fun x171 _=>
  Zg rfl)
  (Zc _ ZbW fun x172 _=>
  Zc _ Zaq fun x173 _=>
  yB (Zc _ Zan fun x174 _=>
  yB (yG fun x175 hx175=>
  Ze (Zk rfl hx175) (yG fun x176 hx176=>
  Ze (Zk rfl hx176) (yC ZK fun x177 _=>
  yB ((by
 conv=>rhs;whnf
 refine Zc _ Zp fun x178 _=>?_
 rcases x178 with x178 | x178
 exact yT (yF (yB (yB (Zc (Za t0 t1 t2 t3 s0.1 x178.1 (w64 (s0.2.2.1-1)) x178.2 mA mE mD mF mB mC) (hrc t0 t1 t2 t3 s0.1 x178.1 (w64 (s0.2.2.1-1)) x178.2 mA mE mD mF mB mC) fun x179 _=>
  Zd (ih _))
  (Zc (Za t0 t1 t2 t3 s0.1 x178.1 (w64 (s0.2.2.1-1)) x178.2 mA mE mD mF mB mC) (hrc t0 t1 t2 t3 s0.1 x178.1 (w64 (s0.2.2.1-1)) x178.2 mA mE mD mF mB mC) fun x180 _=>
  Zd (ih _)))
  (yB (Zc (Za t0 t1 t2 t3 (w64 (x178.1+1)) s0.2.1 (w64 (s0.2.2.1-1)) x178.2 mA mE mD mF mB mC) (hrc t0 t1 t2 t3 (w64 (x178.1+1)) s0.2.1 (w64 (s0.2.2.1-1)) x178.2 mA mE mD mF mB mC) fun x181 _=>
  Zd (ih _))
  (Zc (Za t0 t1 t2 t3 (w64 (x178.1+1)) s0.2.1 (w64 (s0.2.2.1-1)) x178.2 mA mE mD mF mB mC) (hrc t0 t1 t2 t3 (w64 (x178.1+1)) s0.2.1 (w64 (s0.2.2.1-1)) x178.2 mA mE mD mF mB mC) fun x182 _=>
  Zd (ih _)))))
 exact yF (yF (yB (yB (Zc (Za t0 t1 t2 t3 s0.1 x178.1 (w64 (s0.2.2.1-1)) x178.2 mA mE mD mF mB mC) (hrc t0 t1 t2 t3 s0.1 x178.1 (w64 (s0.2.2.1-1)) x178.2 mA mE mD mF mB mC) fun x183 _=>
  Zd (ih _))
  (Zc (Za t0 t1 t2 t3 s0.1 x178.1 (w64 (s0.2.2.1-1)) x178.2 mA mE mD mF mB mC) (hrc t0 t1 t2 t3 s0.1 x178.1 (w64 (s0.2.2.1-1)) x178.2 mA mE mD mF mB mC) fun x184 _=>
  Zd (ih _)))
  (yB (Zc (Za t0 t1 t2 t3 (w64 (x178.1+1)) s0.2.1 (w64 (s0.2.2.1-1)) x178.2 mA mE mD mF mB mC) (hrc t0 t1 t2 t3 (w64 (x178.1+1)) s0.2.1 (w64 (s0.2.2.1-1)) x178.2 mA mE mD mF mB mC) fun x185 _=>
  Zd (ih _))
  (Zc (Za t0 t1 t2 t3 (w64 (x178.1+1)) s0.2.1 (w64 (s0.2.2.1-1)) x178.2 mA mE mD mF mB mC) (hrc t0 t1 t2 t3 (w64 (x178.1+1)) s0.2.1 (w64 (s0.2.2.1-1)) x178.2 mA mE mD mF mB mC) fun x186 _=>
  Zd (ih _)))))))
  (Zc _ ZB fun x187 _=>
  Zd (ih _)))))
  (by
 conv=>rhs;whnf
 refine Zc _ Zp fun x188 _=>?_
 rcases x188 with x188 | x188
 exact yT (yF (yB (yB (Zc (Za t0 t1 t2 t3 s0.1 x188.1 (w64 (s0.2.2.1-1)) x188.2 mA mE mD mF mB mC) (hrc t0 t1 t2 t3 s0.1 x188.1 (w64 (s0.2.2.1-1)) x188.2 mA mE mD mF mB mC) fun x189 _=>
  Zd (ih _))
  (Zc (Za t0 t1 t2 t3 s0.1 x188.1 (w64 (s0.2.2.1-1)) x188.2 mA mE mD mF mB mC) (hrc t0 t1 t2 t3 s0.1 x188.1 (w64 (s0.2.2.1-1)) x188.2 mA mE mD mF mB mC) fun x190 _=>
  Zd (ih _)))
  (yB (Zc (Za t0 t1 t2 t3 (w64 (x188.1+1)) s0.2.1 (w64 (s0.2.2.1-1)) x188.2 mA mE mD mF mB mC) (hrc t0 t1 t2 t3 (w64 (x188.1+1)) s0.2.1 (w64 (s0.2.2.1-1)) x188.2 mA mE mD mF mB mC) fun x191 _=>
  Zd (ih _))
  (Zc (Za t0 t1 t2 t3 (w64 (x188.1+1)) s0.2.1 (w64 (s0.2.2.1-1)) x188.2 mA mE mD mF mB mC) (hrc t0 t1 t2 t3 (w64 (x188.1+1)) s0.2.1 (w64 (s0.2.2.1-1)) x188.2 mA mE mD mF mB mC) fun x192 _=>
  Zd (ih _)))))
 exact yF (yF (yB (yB (Zc (Za t0 t1 t2 t3 s0.1 x188.1 (w64 (s0.2.2.1-1)) x188.2 mA mE mD mF mB mC) (hrc t0 t1 t2 t3 s0.1 x188.1 (w64 (s0.2.2.1-1)) x188.2 mA mE mD mF mB mC) fun x193 _=>
  Zd (ih _))
  (Zc (Za t0 t1 t2 t3 s0.1 x188.1 (w64 (s0.2.2.1-1)) x188.2 mA mE mD mF mB mC) (hrc t0 t1 t2 t3 s0.1 x188.1 (w64 (s0.2.2.1-1)) x188.2 mA mE mD mF mB mC) fun x194 _=>
  Zd (ih _)))
  (yB (Zc (Za t0 t1 t2 t3 (w64 (x188.1+1)) s0.2.1 (w64 (s0.2.2.1-1)) x188.2 mA mE mD mF mB mC) (hrc t0 t1 t2 t3 (w64 (x188.1+1)) s0.2.1 (w64 (s0.2.2.1-1)) x188.2 mA mE mD mF mB mC) fun x195 _=>
  Zd (ih _))
  (Zc (Za t0 t1 t2 t3 (w64 (x188.1+1)) s0.2.1 (w64 (s0.2.2.1-1)) x188.2 mA mE mD mF mB mC) (hrc t0 t1 t2 t3 (w64 (x188.1+1)) s0.2.1 (w64 (s0.2.2.1-1)) x188.2 mA mE mD mF mB mC) fun x196 _=>
  Zd (ih _)))))))
  (yB (yG fun x197 hx197=>
  Ze (Zk rfl hx197) (yG fun x198 hx198=>
  Ze (Zk rfl hx198) (yC ZK fun x199 _=>
  yB ((by
 conv=>rhs;whnf
 refine Zc _ Zp fun x200 _=>?_
 rcases x200 with x200 | x200
 exact yT (yF (yB (yB (Zc (Za t0 t1 t2 t3 s0.1 x200.1 (w64 (s0.2.2.1-1)) x200.2 mA mE mD mF mB mC) (hrc t0 t1 t2 t3 s0.1 x200.1 (w64 (s0.2.2.1-1)) x200.2 mA mE mD mF mB mC) fun x201 _=>
  Zd (ih _))
  (Zc (Za t0 t1 t2 t3 s0.1 x200.1 (w64 (s0.2.2.1-1)) x200.2 mA mE mD mF mB mC) (hrc t0 t1 t2 t3 s0.1 x200.1 (w64 (s0.2.2.1-1)) x200.2 mA mE mD mF mB mC) fun x202 _=>
  Zd (ih _)))
  (yB (Zc (Za t0 t1 t2 t3 (w64 (x200.1+1)) s0.2.1 (w64 (s0.2.2.1-1)) x200.2 mA mE mD mF mB mC) (hrc t0 t1 t2 t3 (w64 (x200.1+1)) s0.2.1 (w64 (s0.2.2.1-1)) x200.2 mA mE mD mF mB mC) fun x203 _=>
  Zd (ih _))
  (Zc (Za t0 t1 t2 t3 (w64 (x200.1+1)) s0.2.1 (w64 (s0.2.2.1-1)) x200.2 mA mE mD mF mB mC) (hrc t0 t1 t2 t3 (w64 (x200.1+1)) s0.2.1 (w64 (s0.2.2.1-1)) x200.2 mA mE mD mF mB mC) fun x204 _=>
  Zd (ih _)))))
 exact yF (yF (yB (yB (Zc (Za t0 t1 t2 t3 s0.1 x200.1 (w64 (s0.2.2.1-1)) x200.2 mA mE mD mF mB mC) (hrc t0 t1 t2 t3 s0.1 x200.1 (w64 (s0.2.2.1-1)) x200.2 mA mE mD mF mB mC) fun x205 _=>
  Zd (ih _))
  (Zc (Za t0 t1 t2 t3 s0.1 x200.1 (w64 (s0.2.2.1-1)) x200.2 mA mE mD mF mB mC) (hrc t0 t1 t2 t3 s0.1 x200.1 (w64 (s0.2.2.1-1)) x200.2 mA mE mD mF mB mC) fun x206 _=>
  Zd (ih _)))
  (yB (Zc (Za t0 t1 t2 t3 (w64 (x200.1+1)) s0.2.1 (w64 (s0.2.2.1-1)) x200.2 mA mE mD mF mB mC) (hrc t0 t1 t2 t3 (w64 (x200.1+1)) s0.2.1 (w64 (s0.2.2.1-1)) x200.2 mA mE mD mF mB mC) fun x207 _=>
  Zd (ih _))
  (Zc (Za t0 t1 t2 t3 (w64 (x200.1+1)) s0.2.1 (w64 (s0.2.2.1-1)) x200.2 mA mE mD mF mB mC) (hrc t0 t1 t2 t3 (w64 (x200.1+1)) s0.2.1 (w64 (s0.2.2.1-1)) x200.2 mA mE mD mF mB mC) fun x208 _=>
  Zd (ih _)))))))
  (Zc _ ZB fun x209 _=>
  Zd (ih _)))))
  (by
 conv=>rhs;whnf
 refine Zc _ Zp fun x210 _=>?_
 rcases x210 with x210 | x210
 exact yT (yF (yB (yB (Zc (Za t0 t1 t2 t3 s0.1 x210.1 (w64 (s0.2.2.1-1)) x210.2 mA mE mD mF mB mC) (hrc t0 t1 t2 t3 s0.1 x210.1 (w64 (s0.2.2.1-1)) x210.2 mA mE mD mF mB mC) fun x211 _=>
  Zd (ih _))
  (Zc (Za t0 t1 t2 t3 s0.1 x210.1 (w64 (s0.2.2.1-1)) x210.2 mA mE mD mF mB mC) (hrc t0 t1 t2 t3 s0.1 x210.1 (w64 (s0.2.2.1-1)) x210.2 mA mE mD mF mB mC) fun x212 _=>
  Zd (ih _)))
  (yB (Zc (Za t0 t1 t2 t3 (w64 (x210.1+1)) s0.2.1 (w64 (s0.2.2.1-1)) x210.2 mA mE mD mF mB mC) (hrc t0 t1 t2 t3 (w64 (x210.1+1)) s0.2.1 (w64 (s0.2.2.1-1)) x210.2 mA mE mD mF mB mC) fun x213 _=>
  Zd (ih _))
  (Zc (Za t0 t1 t2 t3 (w64 (x210.1+1)) s0.2.1 (w64 (s0.2.2.1-1)) x210.2 mA mE mD mF mB mC) (hrc t0 t1 t2 t3 (w64 (x210.1+1)) s0.2.1 (w64 (s0.2.2.1-1)) x210.2 mA mE mD mF mB mC) fun x214 _=>
  Zd (ih _)))))
 exact yF (yF (yB (yB (Zc (Za t0 t1 t2 t3 s0.1 x210.1 (w64 (s0.2.2.1-1)) x210.2 mA mE mD mF mB mC) (hrc t0 t1 t2 t3 s0.1 x210.1 (w64 (s0.2.2.1-1)) x210.2 mA mE mD mF mB mC) fun x215 _=>
  Zd (ih _))
  (Zc (Za t0 t1 t2 t3 s0.1 x210.1 (w64 (s0.2.2.1-1)) x210.2 mA mE mD mF mB mC) (hrc t0 t1 t2 t3 s0.1 x210.1 (w64 (s0.2.2.1-1)) x210.2 mA mE mD mF mB mC) fun x216 _=>
  Zd (ih _)))
  (yB (Zc (Za t0 t1 t2 t3 (w64 (x210.1+1)) s0.2.1 (w64 (s0.2.2.1-1)) x210.2 mA mE mD mF mB mC) (hrc t0 t1 t2 t3 (w64 (x210.1+1)) s0.2.1 (w64 (s0.2.2.1-1)) x210.2 mA mE mD mF mB mC) fun x217 _=>
  Zd (ih _))
  (Zc (Za t0 t1 t2 t3 (w64 (x210.1+1)) s0.2.1 (w64 (s0.2.2.1-1)) x210.2 mA mE mD mF mB mC) (hrc t0 t1 t2 t3 (w64 (x210.1+1)) s0.2.1 (w64 (s0.2.2.1-1)) x210.2 mA mE mD mF mB mC) fun x218 _=>
  Zd (ih _))))))))))
 exact ZsC (yB (Zc _ Zai fun x121 _=>
  Zg rfl)
  (yB (Zc _ Zaz fun x122 _=>
  Zg rfl)
  (Zc _ ZbW fun x123 _=>
  Zc _ Zaq fun x124 _=>
  yB (Zc _ Zan fun x125 _=>
  yB (yG fun x126 hx126=>
  Ze (Zk rfl hx126) (yG fun x127 hx127=>
  Ze (Zk rfl hx127) (yC ZK fun x128 _=>
  yB ((by
 conv=>rhs;whnf
 refine Zc _ Zp fun x129 _=>?_
 rcases x129 with x129 | x129
 exact yT (yF (yB (yB (Zc (Za t0 t1 t2 t3 s0.1 x129.1 (w64 (s0.2.2.1-1)) x129.2 mA mE mD mF mB mC) (hrc t0 t1 t2 t3 s0.1 x129.1 (w64 (s0.2.2.1-1)) x129.2 mA mE mD mF mB mC) fun x130 _=>
  Zd (ih _))
  (Zc (Za t0 t1 t2 t3 s0.1 x129.1 (w64 (s0.2.2.1-1)) x129.2 mA mE mD mF mB mC) (hrc t0 t1 t2 t3 s0.1 x129.1 (w64 (s0.2.2.1-1)) x129.2 mA mE mD mF mB mC) fun x131 _=>
  Zd (ih _)))
  (yB (Zc (Za t0 t1 t2 t3 (w64 (x129.1+1)) s0.2.1 (w64 (s0.2.2.1-1)) x129.2 mA mE mD mF mB mC) (hrc t0 t1 t2 t3 (w64 (x129.1+1)) s0.2.1 (w64 (s0.2.2.1-1)) x129.2 mA mE mD mF mB mC) fun x132 _=>
  Zd (ih _))
  (Zc (Za t0 t1 t2 t3 (w64 (x129.1+1)) s0.2.1 (w64 (s0.2.2.1-1)) x129.2 mA mE mD mF mB mC) (hrc t0 t1 t2 t3 (w64 (x129.1+1)) s0.2.1 (w64 (s0.2.2.1-1)) x129.2 mA mE mD mF mB mC) fun x133 _=>
  Zd (ih _)))))
 exact yF (yF (yB (yB (Zc (Za t0 t1 t2 t3 s0.1 x129.1 (w64 (s0.2.2.1-1)) x129.2 mA mE mD mF mB mC) (hrc t0 t1 t2 t3 s0.1 x129.1 (w64 (s0.2.2.1-1)) x129.2 mA mE mD mF mB mC) fun x134 _=>
  Zd (ih _))
  (Zc (Za t0 t1 t2 t3 s0.1 x129.1 (w64 (s0.2.2.1-1)) x129.2 mA mE mD mF mB mC) (hrc t0 t1 t2 t3 s0.1 x129.1 (w64 (s0.2.2.1-1)) x129.2 mA mE mD mF mB mC) fun x135 _=>
  Zd (ih _)))
  (yB (Zc (Za t0 t1 t2 t3 (w64 (x129.1+1)) s0.2.1 (w64 (s0.2.2.1-1)) x129.2 mA mE mD mF mB mC) (hrc t0 t1 t2 t3 (w64 (x129.1+1)) s0.2.1 (w64 (s0.2.2.1-1)) x129.2 mA mE mD mF mB mC) fun x136 _=>
  Zd (ih _))
  (Zc (Za t0 t1 t2 t3 (w64 (x129.1+1)) s0.2.1 (w64 (s0.2.2.1-1)) x129.2 mA mE mD mF mB mC) (hrc t0 t1 t2 t3 (w64 (x129.1+1)) s0.2.1 (w64 (s0.2.2.1-1)) x129.2 mA mE mD mF mB mC) fun x137 _=>
  Zd (ih _)))))))
  (Zc _ ZB fun x138 _=>
  Zd (ih _)))))
  (by
 conv=>rhs;whnf
 refine Zc _ Zp fun x139 _=>?_
 rcases x139 with x139 | x139
 exact yT (yF (yB (yB (Zc (Za t0 t1 t2 t3 s0.1 x139.1 (w64 (s0.2.2.1-1)) x139.2 mA mE mD mF mB mC) (hrc t0 t1 t2 t3 s0.1 x139.1 (w64 (s0.2.2.1-1)) x139.2 mA mE mD mF mB mC) fun x140 _=>
  Zd (ih _))
  (Zc (Za t0 t1 t2 t3 s0.1 x139.1 (w64 (s0.2.2.1-1)) x139.2 mA mE mD mF mB mC) (hrc t0 t1 t2 t3 s0.1 x139.1 (w64 (s0.2.2.1-1)) x139.2 mA mE mD mF mB mC) fun x141 _=>
  Zd (ih _)))
  (yB (Zc (Za t0 t1 t2 t3 (w64 (x139.1+1)) s0.2.1 (w64 (s0.2.2.1-1)) x139.2 mA mE mD mF mB mC) (hrc t0 t1 t2 t3 (w64 (x139.1+1)) s0.2.1 (w64 (s0.2.2.1-1)) x139.2 mA mE mD mF mB mC) fun x142 _=>
  Zd (ih _))
  (Zc (Za t0 t1 t2 t3 (w64 (x139.1+1)) s0.2.1 (w64 (s0.2.2.1-1)) x139.2 mA mE mD mF mB mC) (hrc t0 t1 t2 t3 (w64 (x139.1+1)) s0.2.1 (w64 (s0.2.2.1-1)) x139.2 mA mE mD mF mB mC) fun x143 _=>
  Zd (ih _)))))
 exact yF (yF (yB (yB (Zc (Za t0 t1 t2 t3 s0.1 x139.1 (w64 (s0.2.2.1-1)) x139.2 mA mE mD mF mB mC) (hrc t0 t1 t2 t3 s0.1 x139.1 (w64 (s0.2.2.1-1)) x139.2 mA mE mD mF mB mC) fun x144 _=>
  Zd (ih _))
  (Zc (Za t0 t1 t2 t3 s0.1 x139.1 (w64 (s0.2.2.1-1)) x139.2 mA mE mD mF mB mC) (hrc t0 t1 t2 t3 s0.1 x139.1 (w64 (s0.2.2.1-1)) x139.2 mA mE mD mF mB mC) fun x145 _=>
  Zd (ih _)))
  (yB (Zc (Za t0 t1 t2 t3 (w64 (x139.1+1)) s0.2.1 (w64 (s0.2.2.1-1)) x139.2 mA mE mD mF mB mC) (hrc t0 t1 t2 t3 (w64 (x139.1+1)) s0.2.1 (w64 (s0.2.2.1-1)) x139.2 mA mE mD mF mB mC) fun x146 _=>
  Zd (ih _))
  (Zc (Za t0 t1 t2 t3 (w64 (x139.1+1)) s0.2.1 (w64 (s0.2.2.1-1)) x139.2 mA mE mD mF mB mC) (hrc t0 t1 t2 t3 (w64 (x139.1+1)) s0.2.1 (w64 (s0.2.2.1-1)) x139.2 mA mE mD mF mB mC) fun x147 _=>
  Zd (ih _)))))))
  (yB (yG fun x148 hx148=>
  Ze (Zk rfl hx148) (yG fun x149 hx149=>
  Ze (Zk rfl hx149) (yC ZK fun x150 _=>
  yB ((by
 conv=>rhs;whnf
 refine Zc _ Zp fun x151 _=>?_
 rcases x151 with x151 | x151
 exact yT (yF (yB (yB (Zc (Za t0 t1 t2 t3 s0.1 x151.1 (w64 (s0.2.2.1-1)) x151.2 mA mE mD mF mB mC) (hrc t0 t1 t2 t3 s0.1 x151.1 (w64 (s0.2.2.1-1)) x151.2 mA mE mD mF mB mC) fun x152 _=>
  Zd (ih _))
  (Zc (Za t0 t1 t2 t3 s0.1 x151.1 (w64 (s0.2.2.1-1)) x151.2 mA mE mD mF mB mC) (hrc t0 t1 t2 t3 s0.1 x151.1 (w64 (s0.2.2.1-1)) x151.2 mA mE mD mF mB mC) fun x153 _=>
  Zd (ih _)))
  (yB (Zc (Za t0 t1 t2 t3 (w64 (x151.1+1)) s0.2.1 (w64 (s0.2.2.1-1)) x151.2 mA mE mD mF mB mC) (hrc t0 t1 t2 t3 (w64 (x151.1+1)) s0.2.1 (w64 (s0.2.2.1-1)) x151.2 mA mE mD mF mB mC) fun x154 _=>
  Zd (ih _))
  (Zc (Za t0 t1 t2 t3 (w64 (x151.1+1)) s0.2.1 (w64 (s0.2.2.1-1)) x151.2 mA mE mD mF mB mC) (hrc t0 t1 t2 t3 (w64 (x151.1+1)) s0.2.1 (w64 (s0.2.2.1-1)) x151.2 mA mE mD mF mB mC) fun x155 _=>
  Zd (ih _)))))
 exact yF (yF (yB (yB (Zc (Za t0 t1 t2 t3 s0.1 x151.1 (w64 (s0.2.2.1-1)) x151.2 mA mE mD mF mB mC) (hrc t0 t1 t2 t3 s0.1 x151.1 (w64 (s0.2.2.1-1)) x151.2 mA mE mD mF mB mC) fun x156 _=>
  Zd (ih _))
  (Zc (Za t0 t1 t2 t3 s0.1 x151.1 (w64 (s0.2.2.1-1)) x151.2 mA mE mD mF mB mC) (hrc t0 t1 t2 t3 s0.1 x151.1 (w64 (s0.2.2.1-1)) x151.2 mA mE mD mF mB mC) fun x157 _=>
  Zd (ih _)))
  (yB (Zc (Za t0 t1 t2 t3 (w64 (x151.1+1)) s0.2.1 (w64 (s0.2.2.1-1)) x151.2 mA mE mD mF mB mC) (hrc t0 t1 t2 t3 (w64 (x151.1+1)) s0.2.1 (w64 (s0.2.2.1-1)) x151.2 mA mE mD mF mB mC) fun x158 _=>
  Zd (ih _))
  (Zc (Za t0 t1 t2 t3 (w64 (x151.1+1)) s0.2.1 (w64 (s0.2.2.1-1)) x151.2 mA mE mD mF mB mC) (hrc t0 t1 t2 t3 (w64 (x151.1+1)) s0.2.1 (w64 (s0.2.2.1-1)) x151.2 mA mE mD mF mB mC) fun x159 _=>
  Zd (ih _)))))))
  (Zc _ ZB fun x160 _=>
  Zd (ih _)))))
  (by
 conv=>rhs;whnf
 refine Zc _ Zp fun x161 _=>?_
 rcases x161 with x161 | x161
 exact yT (yF (yB (yB (Zc (Za t0 t1 t2 t3 s0.1 x161.1 (w64 (s0.2.2.1-1)) x161.2 mA mE mD mF mB mC) (hrc t0 t1 t2 t3 s0.1 x161.1 (w64 (s0.2.2.1-1)) x161.2 mA mE mD mF mB mC) fun x162 _=>
  Zd (ih _))
  (Zc (Za t0 t1 t2 t3 s0.1 x161.1 (w64 (s0.2.2.1-1)) x161.2 mA mE mD mF mB mC) (hrc t0 t1 t2 t3 s0.1 x161.1 (w64 (s0.2.2.1-1)) x161.2 mA mE mD mF mB mC) fun x163 _=>
  Zd (ih _)))
  (yB (Zc (Za t0 t1 t2 t3 (w64 (x161.1+1)) s0.2.1 (w64 (s0.2.2.1-1)) x161.2 mA mE mD mF mB mC) (hrc t0 t1 t2 t3 (w64 (x161.1+1)) s0.2.1 (w64 (s0.2.2.1-1)) x161.2 mA mE mD mF mB mC) fun x164 _=>
  Zd (ih _))
  (Zc (Za t0 t1 t2 t3 (w64 (x161.1+1)) s0.2.1 (w64 (s0.2.2.1-1)) x161.2 mA mE mD mF mB mC) (hrc t0 t1 t2 t3 (w64 (x161.1+1)) s0.2.1 (w64 (s0.2.2.1-1)) x161.2 mA mE mD mF mB mC) fun x165 _=>
  Zd (ih _)))))
 exact yF (yF (yB (yB (Zc (Za t0 t1 t2 t3 s0.1 x161.1 (w64 (s0.2.2.1-1)) x161.2 mA mE mD mF mB mC) (hrc t0 t1 t2 t3 s0.1 x161.1 (w64 (s0.2.2.1-1)) x161.2 mA mE mD mF mB mC) fun x166 _=>
  Zd (ih _))
  (Zc (Za t0 t1 t2 t3 s0.1 x161.1 (w64 (s0.2.2.1-1)) x161.2 mA mE mD mF mB mC) (hrc t0 t1 t2 t3 s0.1 x161.1 (w64 (s0.2.2.1-1)) x161.2 mA mE mD mF mB mC) fun x167 _=>
  Zd (ih _)))
  (yB (Zc (Za t0 t1 t2 t3 (w64 (x161.1+1)) s0.2.1 (w64 (s0.2.2.1-1)) x161.2 mA mE mD mF mB mC) (hrc t0 t1 t2 t3 (w64 (x161.1+1)) s0.2.1 (w64 (s0.2.2.1-1)) x161.2 mA mE mD mF mB mC) fun x168 _=>
  Zd (ih _))
  (Zc (Za t0 t1 t2 t3 (w64 (x161.1+1)) s0.2.1 (w64 (s0.2.2.1-1)) x161.2 mA mE mD mF mB mC) (hrc t0 t1 t2 t3 (w64 (x161.1+1)) s0.2.1 (w64 (s0.2.2.1-1)) x161.2 mA mE mD mF mB mC) fun x169 _=>
  Zd (ih _)))))))))))
 exact ZsC (by
 try unfold ZD
 rcases hb:s0.2.2.2.2.1 with _ | _
 exact Ztl (yB (Zc _ Zai fun x73 _=>
  Zg rfl)
  (yB (Zc _ Zaz fun x74 _=>
  Zg rfl)
  (Zc _ Zaq fun x75 _=>
  yB (Zc _ Zan fun x76 _=>
  yB (yG fun x77 hx77=>
  Ze (Zk rfl hx77) (yG fun x78 hx78=>
  Ze (Zk rfl hx78) (yC ZK fun x79 _=>
  yB ((by
 conv=>rhs;whnf
 refine Zc _ Zp fun x80 _=>?_
 rcases x80 with x80 | x80
 exact yT (yF (yB (yB (Zc (Za t0 t1 t2 t3 s0.1 x80.1 s0.2.2.1 x80.2 mA mE mD mF mB mC) (hrc t0 t1 t2 t3 s0.1 x80.1 s0.2.2.1 x80.2 mA mE mD mF mB mC) fun x81 _=>
  Zd (ih _))
  (Zc (Za t0 t1 t2 t3 s0.1 x80.1 s0.2.2.1 x80.2 mA mE mD mF mB mC) (hrc t0 t1 t2 t3 s0.1 x80.1 s0.2.2.1 x80.2 mA mE mD mF mB mC) fun x82 _=>
  Zd (ih _)))
  (yB (Zc (Za t0 t1 t2 t3 (w64 (x80.1+1)) s0.2.1 s0.2.2.1 x80.2 mA mE mD mF mB mC) (hrc t0 t1 t2 t3 (w64 (x80.1+1)) s0.2.1 s0.2.2.1 x80.2 mA mE mD mF mB mC) fun x83 _=>
  Zd (ih _))
  (Zc (Za t0 t1 t2 t3 (w64 (x80.1+1)) s0.2.1 s0.2.2.1 x80.2 mA mE mD mF mB mC) (hrc t0 t1 t2 t3 (w64 (x80.1+1)) s0.2.1 s0.2.2.1 x80.2 mA mE mD mF mB mC) fun x84 _=>
  Zd (ih _)))))
 exact yF (yF (yB (yB (Zc (Za t0 t1 t2 t3 s0.1 x80.1 s0.2.2.1 x80.2 mA mE mD mF mB mC) (hrc t0 t1 t2 t3 s0.1 x80.1 s0.2.2.1 x80.2 mA mE mD mF mB mC) fun x85 _=>
  Zd (ih _))
  (Zc (Za t0 t1 t2 t3 s0.1 x80.1 s0.2.2.1 x80.2 mA mE mD mF mB mC) (hrc t0 t1 t2 t3 s0.1 x80.1 s0.2.2.1 x80.2 mA mE mD mF mB mC) fun x86 _=>
  Zd (ih _)))
  (yB (Zc (Za t0 t1 t2 t3 (w64 (x80.1+1)) s0.2.1 s0.2.2.1 x80.2 mA mE mD mF mB mC) (hrc t0 t1 t2 t3 (w64 (x80.1+1)) s0.2.1 s0.2.2.1 x80.2 mA mE mD mF mB mC) fun x87 _=>
  Zd (ih _))
  (Zc (Za t0 t1 t2 t3 (w64 (x80.1+1)) s0.2.1 s0.2.2.1 x80.2 mA mE mD mF mB mC) (hrc t0 t1 t2 t3 (w64 (x80.1+1)) s0.2.1 s0.2.2.1 x80.2 mA mE mD mF mB mC) fun x88 _=>
  Zd (ih _)))))))
  (Zc _ ZB fun x89 _=>
  Zd (ih _)))))
  (by
 conv=>rhs;whnf
 refine Zc _ Zp fun x90 _=>?_
 rcases x90 with x90 | x90
 exact yT (yF (yB (yB (Zc (Za t0 t1 t2 t3 s0.1 x90.1 s0.2.2.1 x90.2 mA mE mD mF mB mC) (hrc t0 t1 t2 t3 s0.1 x90.1 s0.2.2.1 x90.2 mA mE mD mF mB mC) fun x91 _=>
  Zd (ih _))
  (Zc (Za t0 t1 t2 t3 s0.1 x90.1 s0.2.2.1 x90.2 mA mE mD mF mB mC) (hrc t0 t1 t2 t3 s0.1 x90.1 s0.2.2.1 x90.2 mA mE mD mF mB mC) fun x92 _=>
  Zd (ih _)))
  (yB (Zc (Za t0 t1 t2 t3 (w64 (x90.1+1)) s0.2.1 s0.2.2.1 x90.2 mA mE mD mF mB mC) (hrc t0 t1 t2 t3 (w64 (x90.1+1)) s0.2.1 s0.2.2.1 x90.2 mA mE mD mF mB mC) fun x93 _=>
  Zd (ih _))
  (Zc (Za t0 t1 t2 t3 (w64 (x90.1+1)) s0.2.1 s0.2.2.1 x90.2 mA mE mD mF mB mC) (hrc t0 t1 t2 t3 (w64 (x90.1+1)) s0.2.1 s0.2.2.1 x90.2 mA mE mD mF mB mC) fun x94 _=>
  Zd (ih _)))))
 exact yF (yF (yB (yB (Zc (Za t0 t1 t2 t3 s0.1 x90.1 s0.2.2.1 x90.2 mA mE mD mF mB mC) (hrc t0 t1 t2 t3 s0.1 x90.1 s0.2.2.1 x90.2 mA mE mD mF mB mC) fun x95 _=>
  Zd (ih _))
  (Zc (Za t0 t1 t2 t3 s0.1 x90.1 s0.2.2.1 x90.2 mA mE mD mF mB mC) (hrc t0 t1 t2 t3 s0.1 x90.1 s0.2.2.1 x90.2 mA mE mD mF mB mC) fun x96 _=>
  Zd (ih _)))
  (yB (Zc (Za t0 t1 t2 t3 (w64 (x90.1+1)) s0.2.1 s0.2.2.1 x90.2 mA mE mD mF mB mC) (hrc t0 t1 t2 t3 (w64 (x90.1+1)) s0.2.1 s0.2.2.1 x90.2 mA mE mD mF mB mC) fun x97 _=>
  Zd (ih _))
  (Zc (Za t0 t1 t2 t3 (w64 (x90.1+1)) s0.2.1 s0.2.2.1 x90.2 mA mE mD mF mB mC) (hrc t0 t1 t2 t3 (w64 (x90.1+1)) s0.2.1 s0.2.2.1 x90.2 mA mE mD mF mB mC) fun x98 _=>
  Zd (ih _)))))))
  (yB (yG fun x99 hx99=>
  Ze (Zk rfl hx99) (yG fun x100 hx100=>
  Ze (Zk rfl hx100) (yC ZK fun x101 _=>
  yB ((by
 conv=>rhs;whnf
 refine Zc _ Zp fun x102 _=>?_
 rcases x102 with x102 | x102
 exact yT (yF (yB (yB (Zc (Za t0 t1 t2 t3 s0.1 x102.1 s0.2.2.1 x102.2 mA mE mD mF mB mC) (hrc t0 t1 t2 t3 s0.1 x102.1 s0.2.2.1 x102.2 mA mE mD mF mB mC) fun x103 _=>
  Zd (ih _))
  (Zc (Za t0 t1 t2 t3 s0.1 x102.1 s0.2.2.1 x102.2 mA mE mD mF mB mC) (hrc t0 t1 t2 t3 s0.1 x102.1 s0.2.2.1 x102.2 mA mE mD mF mB mC) fun x104 _=>
  Zd (ih _)))
  (yB (Zc (Za t0 t1 t2 t3 (w64 (x102.1+1)) s0.2.1 s0.2.2.1 x102.2 mA mE mD mF mB mC) (hrc t0 t1 t2 t3 (w64 (x102.1+1)) s0.2.1 s0.2.2.1 x102.2 mA mE mD mF mB mC) fun x105 _=>
  Zd (ih _))
  (Zc (Za t0 t1 t2 t3 (w64 (x102.1+1)) s0.2.1 s0.2.2.1 x102.2 mA mE mD mF mB mC) (hrc t0 t1 t2 t3 (w64 (x102.1+1)) s0.2.1 s0.2.2.1 x102.2 mA mE mD mF mB mC) fun x106 _=>
  Zd (ih _)))))
 exact yF (yF (yB (yB (Zc (Za t0 t1 t2 t3 s0.1 x102.1 s0.2.2.1 x102.2 mA mE mD mF mB mC) (hrc t0 t1 t2 t3 s0.1 x102.1 s0.2.2.1 x102.2 mA mE mD mF mB mC) fun x107 _=>
  Zd (ih _))
  (Zc (Za t0 t1 t2 t3 s0.1 x102.1 s0.2.2.1 x102.2 mA mE mD mF mB mC) (hrc t0 t1 t2 t3 s0.1 x102.1 s0.2.2.1 x102.2 mA mE mD mF mB mC) fun x108 _=>
  Zd (ih _)))
  (yB (Zc (Za t0 t1 t2 t3 (w64 (x102.1+1)) s0.2.1 s0.2.2.1 x102.2 mA mE mD mF mB mC) (hrc t0 t1 t2 t3 (w64 (x102.1+1)) s0.2.1 s0.2.2.1 x102.2 mA mE mD mF mB mC) fun x109 _=>
  Zd (ih _))
  (Zc (Za t0 t1 t2 t3 (w64 (x102.1+1)) s0.2.1 s0.2.2.1 x102.2 mA mE mD mF mB mC) (hrc t0 t1 t2 t3 (w64 (x102.1+1)) s0.2.1 s0.2.2.1 x102.2 mA mE mD mF mB mC) fun x110 _=>
  Zd (ih _)))))))
  (Zc _ ZB fun x111 _=>
  Zd (ih _)))))
  (by
 conv=>rhs;whnf
 refine Zc _ Zp fun x112 _=>?_
 rcases x112 with x112 | x112
 exact yT (yF (yB (yB (Zc (Za t0 t1 t2 t3 s0.1 x112.1 s0.2.2.1 x112.2 mA mE mD mF mB mC) (hrc t0 t1 t2 t3 s0.1 x112.1 s0.2.2.1 x112.2 mA mE mD mF mB mC) fun x113 _=>
  Zd (ih _))
  (Zc (Za t0 t1 t2 t3 s0.1 x112.1 s0.2.2.1 x112.2 mA mE mD mF mB mC) (hrc t0 t1 t2 t3 s0.1 x112.1 s0.2.2.1 x112.2 mA mE mD mF mB mC) fun x114 _=>
  Zd (ih _)))
  (yB (Zc (Za t0 t1 t2 t3 (w64 (x112.1+1)) s0.2.1 s0.2.2.1 x112.2 mA mE mD mF mB mC) (hrc t0 t1 t2 t3 (w64 (x112.1+1)) s0.2.1 s0.2.2.1 x112.2 mA mE mD mF mB mC) fun x115 _=>
  Zd (ih _))
  (Zc (Za t0 t1 t2 t3 (w64 (x112.1+1)) s0.2.1 s0.2.2.1 x112.2 mA mE mD mF mB mC) (hrc t0 t1 t2 t3 (w64 (x112.1+1)) s0.2.1 s0.2.2.1 x112.2 mA mE mD mF mB mC) fun x116 _=>
  Zd (ih _)))))
 exact yF (yF (yB (yB (Zc (Za t0 t1 t2 t3 s0.1 x112.1 s0.2.2.1 x112.2 mA mE mD mF mB mC) (hrc t0 t1 t2 t3 s0.1 x112.1 s0.2.2.1 x112.2 mA mE mD mF mB mC) fun x117 _=>
  Zd (ih _))
  (Zc (Za t0 t1 t2 t3 s0.1 x112.1 s0.2.2.1 x112.2 mA mE mD mF mB mC) (hrc t0 t1 t2 t3 s0.1 x112.1 s0.2.2.1 x112.2 mA mE mD mF mB mC) fun x118 _=>
  Zd (ih _)))
  (yB (Zc (Za t0 t1 t2 t3 (w64 (x112.1+1)) s0.2.1 s0.2.2.1 x112.2 mA mE mD mF mB mC) (hrc t0 t1 t2 t3 (w64 (x112.1+1)) s0.2.1 s0.2.2.1 x112.2 mA mE mD mF mB mC) fun x119 _=>
  Zd (ih _))
  (Zc (Za t0 t1 t2 t3 (w64 (x112.1+1)) s0.2.1 s0.2.2.1 x112.2 mA mE mD mF mB mC) (hrc t0 t1 t2 t3 (w64 (x112.1+1)) s0.2.1 s0.2.2.1 x112.2 mA mE mD mF mB mC) fun x120 _=>
  Zd (ih _))))))))))
 exact ZsC (yB (Zc _ Zai fun x1 _=>
  Zg rfl)
  (yB (Zc _ Zaz fun x2 _=>
  Zg rfl)
  (Zc _ Zaq fun x3 _=>
  yB (Zc _ Zan fun x4 _=>
  yT (by
 conv=>rhs;whnf
 refine Zc _ Zbp fun x5 _=>?_
 rcases x5 with x5 | x5
 exact Zg rfl
 exact yB (yG fun x6 hx6=>
  Ze (Zk rfl hx6) (yG fun x7 hx7=>
  Ze (Zk rfl hx7) (yC ZK fun x8 _=>
  yB ((by
 conv=>rhs;whnf
 refine Zc _ Zp fun x9 _=>?_
 rcases x9 with x9 | x9
 exact yT (yF (yB (yB (Zc (Za t0 t1 t2 t3 s0.1 x9.1 s0.2.2.1 x9.2 mA mE mD mF mB mC) (hrc t0 t1 t2 t3 s0.1 x9.1 s0.2.2.1 x9.2 mA mE mD mF mB mC) fun x10 _=>
  Zd (ih _))
  (Zc (Za t0 t1 t2 t3 s0.1 x9.1 s0.2.2.1 x9.2 mA mE mD mF mB mC) (hrc t0 t1 t2 t3 s0.1 x9.1 s0.2.2.1 x9.2 mA mE mD mF mB mC) fun x11 _=>
  Zd (ih _)))
  (yB (Zc (Za t0 t1 t2 t3 (w64 (x9.1+1)) s0.2.1 s0.2.2.1 x9.2 mA mE mD mF mB mC) (hrc t0 t1 t2 t3 (w64 (x9.1+1)) s0.2.1 s0.2.2.1 x9.2 mA mE mD mF mB mC) fun x12 _=>
  Zd (ih _))
  (Zc (Za t0 t1 t2 t3 (w64 (x9.1+1)) s0.2.1 s0.2.2.1 x9.2 mA mE mD mF mB mC) (hrc t0 t1 t2 t3 (w64 (x9.1+1)) s0.2.1 s0.2.2.1 x9.2 mA mE mD mF mB mC) fun x13 _=>
  Zd (ih _)))))
 exact yF (yF (yB (yB (Zc (Za t0 t1 t2 t3 s0.1 x9.1 s0.2.2.1 x9.2 mA mE mD mF mB mC) (hrc t0 t1 t2 t3 s0.1 x9.1 s0.2.2.1 x9.2 mA mE mD mF mB mC) fun x14 _=>
  Zd (ih _))
  (Zc (Za t0 t1 t2 t3 s0.1 x9.1 s0.2.2.1 x9.2 mA mE mD mF mB mC) (hrc t0 t1 t2 t3 s0.1 x9.1 s0.2.2.1 x9.2 mA mE mD mF mB mC) fun x15 _=>
  Zd (ih _)))
  (yB (Zc (Za t0 t1 t2 t3 (w64 (x9.1+1)) s0.2.1 s0.2.2.1 x9.2 mA mE mD mF mB mC) (hrc t0 t1 t2 t3 (w64 (x9.1+1)) s0.2.1 s0.2.2.1 x9.2 mA mE mD mF mB mC) fun x16 _=>
  Zd (ih _))
  (Zc (Za t0 t1 t2 t3 (w64 (x9.1+1)) s0.2.1 s0.2.2.1 x9.2 mA mE mD mF mB mC) (hrc t0 t1 t2 t3 (w64 (x9.1+1)) s0.2.1 s0.2.2.1 x9.2 mA mE mD mF mB mC) fun x17 _=>
  Zd (ih _)))))))
  (Zc _ ZB fun x18 _=>
  Zd (ih _)))))
  (by
 conv=>rhs;whnf
 refine Zc _ Zp fun x19 _=>?_
 rcases x19 with x19 | x19
 exact yT (yF (yB (yB (Zc (Za t0 t1 t2 t3 s0.1 x19.1 s0.2.2.1 x19.2 mA mE mD mF mB mC) (hrc t0 t1 t2 t3 s0.1 x19.1 s0.2.2.1 x19.2 mA mE mD mF mB mC) fun x20 _=>
  Zd (ih _))
  (Zc (Za t0 t1 t2 t3 s0.1 x19.1 s0.2.2.1 x19.2 mA mE mD mF mB mC) (hrc t0 t1 t2 t3 s0.1 x19.1 s0.2.2.1 x19.2 mA mE mD mF mB mC) fun x21 _=>
  Zd (ih _)))
  (yB (Zc (Za t0 t1 t2 t3 (w64 (x19.1+1)) s0.2.1 s0.2.2.1 x19.2 mA mE mD mF mB mC) (hrc t0 t1 t2 t3 (w64 (x19.1+1)) s0.2.1 s0.2.2.1 x19.2 mA mE mD mF mB mC) fun x22 _=>
  Zd (ih _))
  (Zc (Za t0 t1 t2 t3 (w64 (x19.1+1)) s0.2.1 s0.2.2.1 x19.2 mA mE mD mF mB mC) (hrc t0 t1 t2 t3 (w64 (x19.1+1)) s0.2.1 s0.2.2.1 x19.2 mA mE mD mF mB mC) fun x23 _=>
  Zd (ih _)))))
 exact yF (yF (yB (yB (Zc (Za t0 t1 t2 t3 s0.1 x19.1 s0.2.2.1 x19.2 mA mE mD mF mB mC) (hrc t0 t1 t2 t3 s0.1 x19.1 s0.2.2.1 x19.2 mA mE mD mF mB mC) fun x24 _=>
  Zd (ih _))
  (Zc (Za t0 t1 t2 t3 s0.1 x19.1 s0.2.2.1 x19.2 mA mE mD mF mB mC) (hrc t0 t1 t2 t3 s0.1 x19.1 s0.2.2.1 x19.2 mA mE mD mF mB mC) fun x25 _=>
  Zd (ih _)))
  (yB (Zc (Za t0 t1 t2 t3 (w64 (x19.1+1)) s0.2.1 s0.2.2.1 x19.2 mA mE mD mF mB mC) (hrc t0 t1 t2 t3 (w64 (x19.1+1)) s0.2.1 s0.2.2.1 x19.2 mA mE mD mF mB mC) fun x26 _=>
  Zd (ih _))
  (Zc (Za t0 t1 t2 t3 (w64 (x19.1+1)) s0.2.1 s0.2.2.1 x19.2 mA mE mD mF mB mC) (hrc t0 t1 t2 t3 (w64 (x19.1+1)) s0.2.1 s0.2.2.1 x19.2 mA mE mD mF mB mC) fun x27 _=>
  Zd (ih _))))))))
  (yB ((by
 conv=>rhs;whnf
 refine Zc _ Zbp fun x28 _=>?_
 rcases x28 with x28 | x28
 exact Zg rfl
 exact yB (yG fun x29 hx29=>
  Ze (Zk rfl hx29) (yG fun x30 hx30=>
  Ze (Zk rfl hx30) (yC ZK fun x31 _=>
  yB ((by
 conv=>rhs;whnf
 refine Zc _ Zp fun x32 _=>?_
 rcases x32 with x32 | x32
 exact yT (yF (yB (yB (Zc (Za t0 t1 t2 t3 s0.1 x32.1 s0.2.2.1 x32.2 mA mE mD mF mB mC) (hrc t0 t1 t2 t3 s0.1 x32.1 s0.2.2.1 x32.2 mA mE mD mF mB mC) fun x33 _=>
  Zd (ih _))
  (Zc (Za t0 t1 t2 t3 s0.1 x32.1 s0.2.2.1 x32.2 mA mE mD mF mB mC) (hrc t0 t1 t2 t3 s0.1 x32.1 s0.2.2.1 x32.2 mA mE mD mF mB mC) fun x34 _=>
  Zd (ih _)))
  (yB (Zc (Za t0 t1 t2 t3 (w64 (x32.1+1)) s0.2.1 s0.2.2.1 x32.2 mA mE mD mF mB mC) (hrc t0 t1 t2 t3 (w64 (x32.1+1)) s0.2.1 s0.2.2.1 x32.2 mA mE mD mF mB mC) fun x35 _=>
  Zd (ih _))
  (Zc (Za t0 t1 t2 t3 (w64 (x32.1+1)) s0.2.1 s0.2.2.1 x32.2 mA mE mD mF mB mC) (hrc t0 t1 t2 t3 (w64 (x32.1+1)) s0.2.1 s0.2.2.1 x32.2 mA mE mD mF mB mC) fun x36 _=>
  Zd (ih _)))))
 exact yF (yF (yB (yB (Zc (Za t0 t1 t2 t3 s0.1 x32.1 s0.2.2.1 x32.2 mA mE mD mF mB mC) (hrc t0 t1 t2 t3 s0.1 x32.1 s0.2.2.1 x32.2 mA mE mD mF mB mC) fun x37 _=>
  Zd (ih _))
  (Zc (Za t0 t1 t2 t3 s0.1 x32.1 s0.2.2.1 x32.2 mA mE mD mF mB mC) (hrc t0 t1 t2 t3 s0.1 x32.1 s0.2.2.1 x32.2 mA mE mD mF mB mC) fun x38 _=>
  Zd (ih _)))
  (yB (Zc (Za t0 t1 t2 t3 (w64 (x32.1+1)) s0.2.1 s0.2.2.1 x32.2 mA mE mD mF mB mC) (hrc t0 t1 t2 t3 (w64 (x32.1+1)) s0.2.1 s0.2.2.1 x32.2 mA mE mD mF mB mC) fun x39 _=>
  Zd (ih _))
  (Zc (Za t0 t1 t2 t3 (w64 (x32.1+1)) s0.2.1 s0.2.2.1 x32.2 mA mE mD mF mB mC) (hrc t0 t1 t2 t3 (w64 (x32.1+1)) s0.2.1 s0.2.2.1 x32.2 mA mE mD mF mB mC) fun x40 _=>
  Zd (ih _)))))))
  (Zc _ ZB fun x41 _=>
  Zd (ih _)))))
  (by
 conv=>rhs;whnf
 refine Zc _ Zp fun x42 _=>?_
 rcases x42 with x42 | x42
 exact yT (yF (yB (yB (Zc (Za t0 t1 t2 t3 s0.1 x42.1 s0.2.2.1 x42.2 mA mE mD mF mB mC) (hrc t0 t1 t2 t3 s0.1 x42.1 s0.2.2.1 x42.2 mA mE mD mF mB mC) fun x43 _=>
  Zd (ih _))
  (Zc (Za t0 t1 t2 t3 s0.1 x42.1 s0.2.2.1 x42.2 mA mE mD mF mB mC) (hrc t0 t1 t2 t3 s0.1 x42.1 s0.2.2.1 x42.2 mA mE mD mF mB mC) fun x44 _=>
  Zd (ih _)))
  (yB (Zc (Za t0 t1 t2 t3 (w64 (x42.1+1)) s0.2.1 s0.2.2.1 x42.2 mA mE mD mF mB mC) (hrc t0 t1 t2 t3 (w64 (x42.1+1)) s0.2.1 s0.2.2.1 x42.2 mA mE mD mF mB mC) fun x45 _=>
  Zd (ih _))
  (Zc (Za t0 t1 t2 t3 (w64 (x42.1+1)) s0.2.1 s0.2.2.1 x42.2 mA mE mD mF mB mC) (hrc t0 t1 t2 t3 (w64 (x42.1+1)) s0.2.1 s0.2.2.1 x42.2 mA mE mD mF mB mC) fun x46 _=>
  Zd (ih _)))))
 exact yF (yF (yB (yB (Zc (Za t0 t1 t2 t3 s0.1 x42.1 s0.2.2.1 x42.2 mA mE mD mF mB mC) (hrc t0 t1 t2 t3 s0.1 x42.1 s0.2.2.1 x42.2 mA mE mD mF mB mC) fun x47 _=>
  Zd (ih _))
  (Zc (Za t0 t1 t2 t3 s0.1 x42.1 s0.2.2.1 x42.2 mA mE mD mF mB mC) (hrc t0 t1 t2 t3 s0.1 x42.1 s0.2.2.1 x42.2 mA mE mD mF mB mC) fun x48 _=>
  Zd (ih _)))
  (yB (Zc (Za t0 t1 t2 t3 (w64 (x42.1+1)) s0.2.1 s0.2.2.1 x42.2 mA mE mD mF mB mC) (hrc t0 t1 t2 t3 (w64 (x42.1+1)) s0.2.1 s0.2.2.1 x42.2 mA mE mD mF mB mC) fun x49 _=>
  Zd (ih _))
  (Zc (Za t0 t1 t2 t3 (w64 (x42.1+1)) s0.2.1 s0.2.2.1 x42.2 mA mE mD mF mB mC) (hrc t0 t1 t2 t3 (w64 (x42.1+1)) s0.2.1 s0.2.2.1 x42.2 mA mE mD mF mB mC) fun x50 _=>
  Zd (ih _))))))))
  (yB (yG fun x51 hx51=>
  Ze (Zk rfl hx51) (yG fun x52 hx52=>
  Ze (Zk rfl hx52) (yC ZK fun x53 _=>
  yB ((by
 conv=>rhs;whnf
 refine Zc _ Zp fun x54 _=>?_
 rcases x54 with x54 | x54
 exact yT (yF (yB (yB (Zc (Za t0 t1 t2 t3 s0.1 x54.1 s0.2.2.1 x54.2 mA mE mD mF mB mC) (hrc t0 t1 t2 t3 s0.1 x54.1 s0.2.2.1 x54.2 mA mE mD mF mB mC) fun x55 _=>
  Zd (ih _))
  (Zc (Za t0 t1 t2 t3 s0.1 x54.1 s0.2.2.1 x54.2 mA mE mD mF mB mC) (hrc t0 t1 t2 t3 s0.1 x54.1 s0.2.2.1 x54.2 mA mE mD mF mB mC) fun x56 _=>
  Zd (ih _)))
  (yB (Zc (Za t0 t1 t2 t3 (w64 (x54.1+1)) s0.2.1 s0.2.2.1 x54.2 mA mE mD mF mB mC) (hrc t0 t1 t2 t3 (w64 (x54.1+1)) s0.2.1 s0.2.2.1 x54.2 mA mE mD mF mB mC) fun x57 _=>
  Zd (ih _))
  (Zc (Za t0 t1 t2 t3 (w64 (x54.1+1)) s0.2.1 s0.2.2.1 x54.2 mA mE mD mF mB mC) (hrc t0 t1 t2 t3 (w64 (x54.1+1)) s0.2.1 s0.2.2.1 x54.2 mA mE mD mF mB mC) fun x58 _=>
  Zd (ih _)))))
 exact yF (yF (yB (yB (Zc (Za t0 t1 t2 t3 s0.1 x54.1 s0.2.2.1 x54.2 mA mE mD mF mB mC) (hrc t0 t1 t2 t3 s0.1 x54.1 s0.2.2.1 x54.2 mA mE mD mF mB mC) fun x59 _=>
  Zd (ih _))
  (Zc (Za t0 t1 t2 t3 s0.1 x54.1 s0.2.2.1 x54.2 mA mE mD mF mB mC) (hrc t0 t1 t2 t3 s0.1 x54.1 s0.2.2.1 x54.2 mA mE mD mF mB mC) fun x60 _=>
  Zd (ih _)))
  (yB (Zc (Za t0 t1 t2 t3 (w64 (x54.1+1)) s0.2.1 s0.2.2.1 x54.2 mA mE mD mF mB mC) (hrc t0 t1 t2 t3 (w64 (x54.1+1)) s0.2.1 s0.2.2.1 x54.2 mA mE mD mF mB mC) fun x61 _=>
  Zd (ih _))
  (Zc (Za t0 t1 t2 t3 (w64 (x54.1+1)) s0.2.1 s0.2.2.1 x54.2 mA mE mD mF mB mC) (hrc t0 t1 t2 t3 (w64 (x54.1+1)) s0.2.1 s0.2.2.1 x54.2 mA mE mD mF mB mC) fun x62 _=>
  Zd (ih _)))))))
  (Zc _ ZB fun x63 _=>
  Zd (ih _)))))
  (by
 conv=>rhs;whnf
 refine Zc _ Zp fun x64 _=>?_
 rcases x64 with x64 | x64
 exact yT (yF (yB (yB (Zc (Za t0 t1 t2 t3 s0.1 x64.1 s0.2.2.1 x64.2 mA mE mD mF mB mC) (hrc t0 t1 t2 t3 s0.1 x64.1 s0.2.2.1 x64.2 mA mE mD mF mB mC) fun x65 _=>
  Zd (ih _))
  (Zc (Za t0 t1 t2 t3 s0.1 x64.1 s0.2.2.1 x64.2 mA mE mD mF mB mC) (hrc t0 t1 t2 t3 s0.1 x64.1 s0.2.2.1 x64.2 mA mE mD mF mB mC) fun x66 _=>
  Zd (ih _)))
  (yB (Zc (Za t0 t1 t2 t3 (w64 (x64.1+1)) s0.2.1 s0.2.2.1 x64.2 mA mE mD mF mB mC) (hrc t0 t1 t2 t3 (w64 (x64.1+1)) s0.2.1 s0.2.2.1 x64.2 mA mE mD mF mB mC) fun x67 _=>
  Zd (ih _))
  (Zc (Za t0 t1 t2 t3 (w64 (x64.1+1)) s0.2.1 s0.2.2.1 x64.2 mA mE mD mF mB mC) (hrc t0 t1 t2 t3 (w64 (x64.1+1)) s0.2.1 s0.2.2.1 x64.2 mA mE mD mF mB mC) fun x68 _=>
  Zd (ih _)))))
 exact yF (yF (yB (yB (Zc (Za t0 t1 t2 t3 s0.1 x64.1 s0.2.2.1 x64.2 mA mE mD mF mB mC) (hrc t0 t1 t2 t3 s0.1 x64.1 s0.2.2.1 x64.2 mA mE mD mF mB mC) fun x69 _=>
  Zd (ih _))
  (Zc (Za t0 t1 t2 t3 s0.1 x64.1 s0.2.2.1 x64.2 mA mE mD mF mB mC) (hrc t0 t1 t2 t3 s0.1 x64.1 s0.2.2.1 x64.2 mA mE mD mF mB mC) fun x70 _=>
  Zd (ih _)))
  (yB (Zc (Za t0 t1 t2 t3 (w64 (x64.1+1)) s0.2.1 s0.2.2.1 x64.2 mA mE mD mF mB mC) (hrc t0 t1 t2 t3 (w64 (x64.1+1)) s0.2.1 s0.2.2.1 x64.2 mA mE mD mF mB mC) fun x71 _=>
  Zd (ih _))
  (Zc (Za t0 t1 t2 t3 (w64 (x64.1+1)) s0.2.1 s0.2.2.1 x64.2 mA mE mD mF mB mC) (hrc t0 t1 t2 t3 (w64 (x64.1+1)) s0.2.1 s0.2.2.1 x64.2 mA mE mD mF mB mC) fun x72 _=>
  Zd (ih _)))))))))))))
theorem Zfm (rc:Int->Int->Int->(Int->Int->Option Int)->LI->Option LI) (hrc:∀(t0:Bool) (t1:Bool) (t2:Bool) (t3:Bool) (b:Int) (c:Int) (d:Int) (mH:LI) (mA:Int) (mE:Int) (mD:List Z7) (mF:List Zo) (mB:List Zl) (mC:List Zv) (r:LI),rc b c d (fun z0 z1=>Zz z0 z1 mB) mH=some r->evW ctx 122 [(.sl 0 1),(zN b),(zN c),(zN d),(.fn 143 [(.ptr 1 0)])] [(zA mH),(zK0 mA mE t0 mD t1 mF t2 mB t3 mC)]=some ((Za t0 t1 t2 t3 b c d mH mA mE mD mF mB mC) r)) (t0:Bool) (t1:Bool) (t2:Bool) (t3:Bool) (b:Int) (c:Int) (d:Int) (mH:LI) (mA:Int) (mE:Int) (mD:List Z7) (mF:List Zo) (mB:List Zl) (mC:List Zv):∀r,(ZaE rc b c d (fun z0 z1=>Zz z0 z1 mB) mH)=some r->evW ctx 122 [(.sl 0 1),(zN b),(zN c),(zN d),(.fn 143 [(.ptr 1 0)])] [(zA mH),(zK0 mA mE t0 mD t1 mF t2 mB t3 mC)]=some ((Za t0 t1 t2 t3 b c d mH mA mE mD mF mB mC) r):=
 evS ZBZ rfl rfl <| Zc _ (Zfe hrc _) fun r219 _=>
  yR
theorem Zch:∀(n:Nat) (t0:Bool) (t1:Bool) (t2:Bool) (t3:Bool) (b:Int) (c:Int) (d:Int) (mH:LI) (mA:Int) (mE:Int) (mD:List Z7) (mF:List Zo) (mB:List Zl) (mC:List Zv) (r:LI),ZT n b c d (fun z0 z1=>Zz z0 z1 mB) mH=some r->evW ctx 122 [(.sl 0 1),(zN b),(zN c),(zN d),(.fn 143 [(.ptr 1 0)])] [(zA mH),(zK0 mA mE t0 mD t1 mF t2 mB t3 mC)]=some ((Za t0 t1 t2 t3 b c d mH mA mE mD mF mB mC) r)
  | 0,t0,t1,t2,t3,b,c,d,mH,mA,mE,mD,mF,mB,mC,r,h=>by cases h
  | n+1,t0,t1,t2,t3,b,c,d,mH,mA,mE,mD,mF,mB,mC,r,h=>Zfm (ZT n) (Zch n) t0 t1 t2 t3 b c d mH mA mE mD mF mB mC r h
theorem ZfZ {t0 t1:Bool}{t2 t3:Bool}{b c d:Int}{mH:LI}{mA mE:Int}{mD:List Z7}{mF:List Zo}{mB:List Zl}{mC:List Zv}:∀r,ZcP b c d (fun z0 z1=>Zz z0 z1 mB) mH=some r->evW ctx 122 [(.sl 0 1),(zN b),(zN c),(zN d),(.fn 143 [(.ptr 1 0)])] [(zA mH),(zK0 mA mE t0 mD t1 mF t2 mB t3 mC)]=some ((Za t0 t1 t2 t3 b c d mH mA mE mD mF mB mC) r):=fun r h=>by
  obtain⟨n,hn⟩:=ZCZ h
  exact Zch n t0 t1 t2 t3 b c d mH mA mE mD mF mB mC r hn
def Zf5 (t0 t1 t2 t3:Bool) (mH:LI) (mA mE:Int) (mD:List Z7) (mF:List Zo) (mB:List Zl) (mC:List Zv):LI->V×Zm
  | r=>((.d (D.tup [])),[(zA r),(zK0 mA mE t0 mD t1 mF t2 mB t3 mC)])
theorem ZfY {t0 t1:Bool}{t2 t3:Bool}{mH:LI}{mA mE:Int}{mD:List Z7}{mF:List Zo}{mB:List Zl}{mC:List Zv}:∀r,(Zay (fun z0 z1=>Zz z0 z1 mB) mH)=some r->evW ctx 96 [(.sl 0 1),(.fn 143 [(.ptr 1 0)])] [(zA mH),(zK0 mA mE t0 mD t1 mF t2 mB t3 mC)]=some ((Zf5 t0 t1 t2 t3 mH mA mE mD mF mB mC) r):=
 evS ZIz rfl rfl <| Zh (Zt _ _) (yC Zio fun x0 _=>
  Zc _ ZfZ fun x1 _=>
  yR)
def Zcd (r:LI):D:=(zL true r)
def Zkg (t0 t1 t2 t3:Bool) (a:Zj) (b:Int):LI->Ex×List V×Zm
  | r=>(.exit 0,[(.ptr 0 0),(.sl 1 1)],[(.cells (dV t0 t1 t2 t3 a)),(zA r)])
theorem Zo2 {t0 t1:Bool}{t2 t3:Bool}{a:Zj}{b:Int}:∀s1 r,lp (ZfH a b) s1=some r->lpW ctx 0 [1,2,5,12,13,14] [2,5] ZBY [(zN b),(.ptr 0 0),(.sl 1 1),(zW t2 Z6 a.futures),(zN (a.futures.length:Int)),(zN s1.1)] [(.cells (dV t0 t1 t2 t3 a)),(zA s1.2)]=some ((Zkg t0 t1 t2 t3 a b) r):=
 lpT (Zkg t0 t1 t2 t3 a b) fun s1 _ ih=>yB (yG fun x2 _=>
  yB (yT (Za5 (Zbz Zn s1.2 1) (Zh (Zby Zn s1.2 [s1.1]) (Zd (ih _)))
  Z9))
  (Zd (ih _)))
  (Zg rfl)
theorem Zse {t0 t1:Bool}{t2 t3:Bool}{a:Zj}{b:Int}:∀r,(Ze0 a b)=some r->evD ctx 115 [(.d (D.agg (dA t0 t1 t2 t3 a))),(zN b)]=some (Zcd r):=
 evT ZHC rfl rfl <| yC Zoc fun x0 _=>
  yBr (Zh (Zt _ _) (Zc _ (Zo2 _) fun r3 _=>
  Zc _ ZfY fun x4 _=>
  yR))
def Zon (b:Zi) (c:Int) (mA:LI) (mJ:List Zo) (mI:List Zi) (mM:(List (Int×Int))) (mK:(List (Int×Int))) (mL:(List (Zl×Int))):Unit->V×Zm
  | r=>((zN (w64 ((List.length (mI++[b]):Int)-1))),[(.cells [(.sl 7 1),(.sl 2 2),(.sl 8 2),(.mp 4),(.mp 5),(.mp 6)]),.dead,(.arr 2 (List.map Zab mJ)),.dead,(.mp (mpD Zn Zn mM)),(.mp (mpD Zn Zn mK)),(.mp (mpD Z6 Zn mL)),(zA (mA++[c])),(.arr 2 (List.map ZaA (mI++[b])))])
theorem ZaU {b:Zi}{c:Int}{mA:LI}{mJ:List Zo}{mI:List Zi}{mM:(List (Int×Int))}{mK:(List (Int×Int))}{mL:(List (Zl×Int))}:∀r,(ZaB b c mA mI)=some r->evW ctx 87 [(.ptr 0 0),(.d (zK9 b.part b.step)),(zN c)] [(.cells [(.sl 1 1),(.sl 2 2),(.sl 3 2),(.mp 4),(.mp 5),(.mp 6)]),(zA mA),(.arr 2 (List.map Zab mJ)),(.arr 2 (List.map ZaA mI)),(.mp (mpD Zn Zn mM)),(.mp (mpD Zn Zn mK)),(.mp (mpD Z6 Zn mL))]=some ((Zon b c mA mJ mI mM mK mL) r):=
 evS ZK6 rfl rfl <| yT (Za5 (Zbz ZaA mI 1) (Zh (Zby ZaA mI [b]) (yT (Za5 (Zbz Zn mA 1) (Zh (Zby Zn mA [c]) (Zh (Zt _ _) yR))
  Z9)))
  Z9)
def Zor (b c:Int) (mA:LI) (mJ:List Zo) (mI:List Zi) (mM:(List (Int×Int))) (mK:(List (Int×Int))) (mL:(List (Zl×Int))):Unit->V×Zm
  | r=>((.d (D.tup [])),[(.cells [(.sl 1 1),(.sl 7 2),(.sl 3 2),(.mp 4),(.mp 5),(.mp 6)]),(zA mA),.dead,(.arr 2 (List.map ZaA mI)),(.mp (mpD Zn Zn mM)),(.mp (mpD Zn Zn mK)),(.mp (mpD Z6 Zn mL)),(.arr 2 (List.map Zab (mJ++[(Zo.mk b c)])))])
theorem ZaC {b c:Int}{mA:LI}{mJ:List Zo}{mI:List Zi}{mM:(List (Int×Int))}{mK:(List (Int×Int))}{mL:(List (Zl×Int))}:∀r,(ZP b c mJ)=some r->evW ctx 86 [(.ptr 0 0),(zN b),(zN c)] [(.cells [(.sl 1 1),(.sl 2 2),(.sl 3 2),(.mp 4),(.mp 5),(.mp 6)]),(zA mA),(.arr 2 (List.map Zab mJ)),(.arr 2 (List.map ZaA mI)),(.mp (mpD Zn Zn mM)),(.mp (mpD Zn Zn mK)),(.mp (mpD Z6 Zn mL))]=some ((Zor b c mA mJ mI mM mK mL) r):=
 evS ZLb rfl rfl <| yT (Za5 (Zbz Zab mJ 1) (Zh (Zby Zab mJ [(Zo.mk b c)]) yR)
  Z9)
def Zoo (t0 t1 t2 t3:Bool) (b:Zj) (c:Int) (mA:LI) (mJ:List Zo) (mI:List Zi) (mM:(List (Int×Int))) (mK:(List (Int×Int))) (mL:(List (Zl×Int))):(((List (Int×Int))×(List (Zl×Int))×LI×(List Zo)×(List Zi))⊕(LI⊕Unit))->V×Zm
  | (.inl r)=>((.d (D.tup [])),[(.cells [(.sl 7 1),(.sl 8 2),(.sl 9 2),(.mp 4),(.mp 5),(.mp 6)]),.dead,.dead,.dead,(.mp (mpD Zn Zn (Zy zE mM c (mI.length:Int)))),(.mp (mpD Zn Zn r.1)),(.mp (mpD Z6 Zn r.2.1)),(zA r.2.2.1),(.arr 2 (List.map Zab r.2.2.2.1)),(.arr 2 (List.map ZaA r.2.2.2.2))])
  | (.inr (.inl r))=>((.d (D.tup [])),[(.cells [(.sl 7 1),(.sl 2 2),(.sl 8 2),(.mp 4),(.mp 5),(.mp 6)]),.dead,(.arr 2 (List.map Zab mJ)),.dead,(.mp (mpD Zn Zn (Zy zE mM c (mI.length:Int)))),(.mp (mpD Zn Zn (Zy zE mK c (w64 ((List.length (mI++[(Zi.mk c 0)]):Int)-1))))),(.mp (mpD Z6 Zn mL)),(zA r),(.arr 2 (List.map ZaA (mI++[(Zi.mk c 0)])))])
  | (.inr (.inr r))=>((.d (D.tup [])),[(.cells [(.sl 1 1),(.sl 2 2),(.sl 3 2),(.mp 4),(.mp 5),(.mp 6)]),(zA mA),(.arr 2 (List.map Zab mJ)),(.arr 2 (List.map ZaA mI)),(.mp (mpD Zn Zn (Zy zE mM c (mI.length:Int)))),(.mp (mpD Zn Zn mK)),(.mp (mpD Z6 Zn mL))])
def Zh8 (t0 t1 t2 t3:Bool) (b:Zj) (c:Int) (mI:List Zi) (mM:(List (Int×Int))) (x0:LI):((List (Int×Int))×(List (Zl×Int))×LI×(List Zo)×(List Zi))->Ex×List V×Zm
  | r=>(.exit 0,[],[(.cells [(.sl 7 1),(.sl 8 2),(.sl 9 2),(.mp 4),(.mp 5),(.mp 6)]),.dead,.dead,.dead,(.mp (mpD Zn Zn (Zy zE mM c (mI.length:Int)))),(.mp (mpD Zn Zn r.1)),(.mp (mpD Z6 Zn r.2.1)),(zA r.2.2.1),(.arr 2 (List.map Zab r.2.2.2.1)),(.arr 2 (List.map ZaA r.2.2.2.2))])
theorem Zc8 {t0 t1:Bool}{t2 t3:Bool}{b:Zj}{c:Int}{mI:List Zi}{mM:(List (Int×Int))}{x0:LI}:∀s14 r,lp (ZH b c x0) s14=some r->lpW ctx 7 [0,2,4,6,7,26,27] [] Zvo [(.ptr 0 0),(zN c),(.ptr 7 0),(zN s14.1),(zV true x0),(zN (w64 ((x0.length:Int)+1))),(zN s14.2.1)] [(.cells [(.sl 8 1),(.sl 9 2),(.sl 10 2),(.mp 4),(.mp 5),(.mp 6)]),.dead,.dead,.dead,(.mp (mpD Zn Zn (Zy zE mM c (mI.length:Int)))),(.mp (mpD Zn Zn s14.2.2.1)),(.mp (mpD Z6 Zn s14.2.2.2.1)),(.cells (dV t0 t1 t2 t3 b)),(zA s14.2.2.2.2.1),(.arr 2 (List.map Zab s14.2.2.2.2.2.1)),(.arr 2 (List.map ZaA s14.2.2.2.2.2.2))]=some ((Zh8 t0 t1 t2 t3 b c mI mM x0) r):=
 lpT (Zh8 t0 t1 t2 t3 b c mI mM x0) fun s14 _ ih=>yB (yG fun x15 _=>
  Zh (Zt _ _) (yB (yG fun x16 _=>
  yG fun x17 _=>
  Zc _ ZaU fun x18 _=>
  Ze (ZeV (f:=Zn) (g:=Zn) zE (fun _ _=>rfl) s14.2.2.1 c (w64 ((List.length (s14.2.2.2.2.2.2++[(Zi.mk c s14.2.1)]):Int)-1))) (yB (Ze (ZbX (f:=Zn) (g:=Zn) zE (fun _ _=>rfl) (Zy zE s14.2.2.1 c (w64 ((List.length (s14.2.2.2.2.2.2++[(Zi.mk c s14.2.1)]):Int)-1))) c 0) (Ze (ZbX (f:=Zn) (g:=Zn) zE (fun _ _=>rfl) (Zy zE s14.2.2.1 c (w64 ((List.length (s14.2.2.2.2.2.2++[(Zi.mk c s14.2.1)]):Int)-1))) c 0) (Zc _ ZaC fun x19 _=>
  yG fun x20 _=>
  yG fun x21 _=>
  Ze (ZbX (f:=Zn) (g:=Zn) zE (fun _ _=>rfl) (Zy zE s14.2.2.1 c (w64 ((List.length (s14.2.2.2.2.2.2++[(Zi.mk c s14.2.1)]):Int)-1))) c 0) (Ze (ZeV (f:=Z6) (g:=Zn) (fun ka kb:Zl=>((ka.maker==kb.maker)&&((ka.user==kb.user)&&((ka.pos==kb.pos)&&true)))) (fun _ _=>rfl) s14.2.2.2.1 x21 (Zae zE (Zy zE s14.2.2.1 c (w64 ((List.length (s14.2.2.2.2.2.2++[(Zi.mk c s14.2.1)]):Int)-1))) c 0)) (Zd (ih _))))))
  (Zd (ih _))))
  (Zc _ ZaU fun x22 _=>
  Ze (ZeV (f:=Zn) (g:=Zn) zE (fun _ _=>rfl) s14.2.2.1 c (w64 ((List.length (s14.2.2.2.2.2.2++[(Zi.mk c s14.2.1)]):Int)-1))) (yB (Ze (ZbX (f:=Zn) (g:=Zn) zE (fun _ _=>rfl) (Zy zE s14.2.2.1 c (w64 ((List.length (s14.2.2.2.2.2.2++[(Zi.mk c s14.2.1)]):Int)-1))) c 0) (Ze (ZbX (f:=Zn) (g:=Zn) zE (fun _ _=>rfl) (Zy zE s14.2.2.1 c (w64 ((List.length (s14.2.2.2.2.2.2++[(Zi.mk c s14.2.1)]):Int)-1))) c 0) (Zc _ ZaC fun x23 _=>
  yG fun x24 _=>
  yG fun x25 _=>
  Ze (ZbX (f:=Zn) (g:=Zn) zE (fun _ _=>rfl) (Zy zE s14.2.2.1 c (w64 ((List.length (s14.2.2.2.2.2.2++[(Zi.mk c s14.2.1)]):Int)-1))) c 0) (Ze (ZeV (f:=Z6) (g:=Zn) (fun ka kb:Zl=>((ka.maker==kb.maker)&&((ka.user==kb.user)&&((ka.pos==kb.pos)&&true)))) (fun _ _=>rfl) s14.2.2.2.1 x25 (Zae zE (Zy zE s14.2.2.1 c (w64 ((List.length (s14.2.2.2.2.2.2++[(Zi.mk c s14.2.1)]):Int)-1))) c 0)) (Zd (ih _))))))
  (Zd (ih _))))))
  (Zg rfl)
def Zhy (t0 t1 t2 t3:Bool) (b:Zj) (c:Int) (mA:LI) (mJ:List Zo) (mI:List Zi) (mM:(List (Int×Int))) (mK:(List (Int×Int))) (mL:(List (Zl×Int))) (x0:LI) (x4:Zl):(((List (Int×Int))×(List (Zl×Int))×LI×(List Zo)×(List Zi))⊕Unit)->Ex×List V×Zm
  | (.inl r)=>(.exit 0,[],[(.cells [(.sl 7 1),(.sl 8 2),(.sl 9 2),(.mp 4),(.mp 5),(.mp 6)]),.dead,.dead,.dead,(.mp (mpD Zn Zn (Zy zE mM c (mI.length:Int)))),(.mp (mpD Zn Zn r.1)),(.mp (mpD Z6 Zn r.2.1)),(zA r.2.2.1),(.arr 2 (List.map Zab r.2.2.2.1)),(.arr 2 (List.map ZaA r.2.2.2.2))])
  | (.inr r)=>(.exit 0,[],[(.cells [(.sl 7 1),(.sl 2 2),(.sl 8 2),(.mp 4),(.mp 5),(.mp 6)]),.dead,(.arr 2 (List.map Zab mJ)),.dead,(.mp (mpD Zn Zn (Zy zE mM c (mI.length:Int)))),(.mp (mpD Zn Zn (Zy zE mK c (w64 ((List.length (mI++[(Zi.mk c 0)]):Int)-1))))),(.mp (mpD Z6 Zn mL)),(zA (mA++[(w64 (x4.pos-0))])),(.arr 2 (List.map ZaA (mI++[(Zi.mk c 0)])))])
theorem Zko {t0 t1:Bool}{t2 t3:Bool}{b:Zj}{c:Int}{mA:LI}{mJ:List Zo}{mI:List Zi}{mM:(List (Int×Int))}{mK:(List (Int×Int))}{mL:(List (Zl×Int))}{x0:LI}{x4:Zl}:∀s6 r,lp (ZcB b c mA mJ mI mK mL x0 x4) s6=some r->lpW ctx 7 [0,2,4,6,7,26,27] [] Zvo [(.ptr 0 0),(zN c),(.ptr 7 0),(zN x4.pos),(zV true x0),(zN (w64 ((x0.length:Int)+1))),(zN 1)] [(.cells [(.sl 8 1),(.sl 2 2),(.sl 9 2),(.mp 4),(.mp 5),(.mp 6)]),.dead,(.arr 2 (List.map Zab mJ)),.dead,(.mp (mpD Zn Zn (Zy zE mM c (mI.length:Int)))),(.mp (mpD Zn Zn (Zy zE mK c (w64 ((List.length (mI++[(Zi.mk c 0)]):Int)-1))))),(.mp (mpD Z6 Zn mL)),(.cells (dV t0 t1 t2 t3 b)),(zA (mA++[(w64 (x4.pos-0))])),(.arr 2 (List.map ZaA (mI++[(Zi.mk c 0)])))]=some ((Zhy t0 t1 t2 t3 b c mA mJ mI mM mK mL x0 x4) r):=
 lpT (Zhy t0 t1 t2 t3 b c mA mJ mI mM mK mL x0 x4) fun s6 _ ih=>yB (yG fun x7 _=>
  Zh (Zt _ _) (yB (yG fun x8 _=>
  yG fun x9 _=>
  Zc _ ZaU fun x10 _=>
  Ze (ZeV (f:=Zn) (g:=Zn) zE (fun _ _=>rfl) (Zy zE mK c (w64 ((List.length (mI++[(Zi.mk c 0)]):Int)-1))) c (w64 ((List.length ((mI++[(Zi.mk c 0)])++[(Zi.mk c 1)]):Int)-1))) (yT (Ze (ZbX (f:=Zn) (g:=Zn) zE (fun _ _=>rfl) (Zy zE (Zy zE mK c (w64 ((List.length (mI++[(Zi.mk c 0)]):Int)-1))) c (w64 ((List.length ((mI++[(Zi.mk c 0)])++[(Zi.mk c 1)]):Int)-1))) c 0) (Ze (ZbX (f:=Zn) (g:=Zn) zE (fun _ _=>rfl) (Zy zE (Zy zE mK c (w64 ((List.length (mI++[(Zi.mk c 0)]):Int)-1))) c (w64 ((List.length ((mI++[(Zi.mk c 0)])++[(Zi.mk c 1)]):Int)-1))) c 0) (Zc _ ZaC fun x11 _=>
  yG fun x12 _=>
  yG fun x13 _=>
  Ze (ZbX (f:=Zn) (g:=Zn) zE (fun _ _=>rfl) (Zy zE (Zy zE mK c (w64 ((List.length (mI++[(Zi.mk c 0)]):Int)-1))) c (w64 ((List.length ((mI++[(Zi.mk c 0)])++[(Zi.mk c 1)]):Int)-1))) c 0) (Ze (ZeV (f:=Z6) (g:=Zn) (fun ka kb:Zl=>((ka.maker==kb.maker)&&((ka.user==kb.user)&&((ka.pos==kb.pos)&&true)))) (fun _ _=>rfl) mL x13 (Zae zE (Zy zE (Zy zE mK c (w64 ((List.length (mI++[(Zi.mk c 0)]):Int)-1))) c (w64 ((List.length ((mI++[(Zi.mk c 0)])++[(Zi.mk c 1)]):Int)-1))) c 0)) (Zc _ (Zc8 _) fun r26 _=>
  Zg rfl)))))))
  (Zc _ ZaU fun x27 _=>
  Ze (ZeV (f:=Zn) (g:=Zn) zE (fun _ _=>rfl) (Zy zE mK c (w64 ((List.length (mI++[(Zi.mk c 0)]):Int)-1))) c (w64 ((List.length ((mI++[(Zi.mk c 0)])++[(Zi.mk c 1)]):Int)-1))) (yT (Ze (ZbX (f:=Zn) (g:=Zn) zE (fun _ _=>rfl) (Zy zE (Zy zE mK c (w64 ((List.length (mI++[(Zi.mk c 0)]):Int)-1))) c (w64 ((List.length ((mI++[(Zi.mk c 0)])++[(Zi.mk c 1)]):Int)-1))) c 0) (Ze (ZbX (f:=Zn) (g:=Zn) zE (fun _ _=>rfl) (Zy zE (Zy zE mK c (w64 ((List.length (mI++[(Zi.mk c 0)]):Int)-1))) c (w64 ((List.length ((mI++[(Zi.mk c 0)])++[(Zi.mk c 1)]):Int)-1))) c 0) (Zc _ ZaC fun x28 _=>
  yG fun x29 _=>
  yG fun x30 _=>
  Ze (ZbX (f:=Zn) (g:=Zn) zE (fun _ _=>rfl) (Zy zE (Zy zE mK c (w64 ((List.length (mI++[(Zi.mk c 0)]):Int)-1))) c (w64 ((List.length ((mI++[(Zi.mk c 0)])++[(Zi.mk c 1)]):Int)-1))) c 0) (Ze (ZeV (f:=Z6) (g:=Zn) (fun ka kb:Zl=>((ka.maker==kb.maker)&&((ka.user==kb.user)&&((ka.pos==kb.pos)&&true)))) (fun _ _=>rfl) mL x30 (Zae zE (Zy zE (Zy zE mK c (w64 ((List.length (mI++[(Zi.mk c 0)]):Int)-1))) c (w64 ((List.length ((mI++[(Zi.mk c 0)])++[(Zi.mk c 1)]):Int)-1))) c 0)) (Zc _ (Zc8 _) fun r43 _=>
  Zg rfl)))))))))
  (Zg rfl)
def ZhC (t0 t1 t2 t3:Bool) (b:Zj) (c:Int) (mA:LI) (mJ:List Zo) (mI:List Zi) (mM:(List (Int×Int))) (mK:(List (Int×Int))) (mL:(List (Zl×Int))) (x0:LI) (x2:Z7):(((List (Int×Int))×(List (Zl×Int))×LI×(List Zo)×(List Zi))⊕Unit)->Ex×List V×Zm
  | (.inl r)=>(.exit 0,[],[(.cells [(.sl 7 1),(.sl 8 2),(.sl 9 2),(.mp 4),(.mp 5),(.mp 6)]),.dead,.dead,.dead,(.mp (mpD Zn Zn (Zy zE mM c (mI.length:Int)))),(.mp (mpD Zn Zn r.1)),(.mp (mpD Z6 Zn r.2.1)),(zA r.2.2.1),(.arr 2 (List.map Zab r.2.2.2.1)),(.arr 2 (List.map ZaA r.2.2.2.2))])
  | (.inr r)=>(.exit 0,[],[(.cells [(.sl 7 1),(.sl 2 2),(.sl 8 2),(.mp 4),(.mp 5),(.mp 6)]),.dead,(.arr 2 (List.map Zab mJ)),.dead,(.mp (mpD Zn Zn (Zy zE mM c (mI.length:Int)))),(.mp (mpD Zn Zn (Zy zE mK c (w64 ((List.length (mI++[(Zi.mk c 0)]):Int)-1))))),(.mp (mpD Z6 Zn mL)),(zA (mA++[(w64 (x2.work-0))])),(.arr 2 (List.map ZaA (mI++[(Zi.mk c 0)])))])
theorem ZkA {t0 t1:Bool}{t2 t3:Bool}{b:Zj}{c:Int}{mA:LI}{mJ:List Zo}{mI:List Zi}{mM:(List (Int×Int))}{mK:(List (Int×Int))}{mL:(List (Zl×Int))}{x0:LI}{x2:Z7}:∀s46 r,lp (Zdu b c mA mJ mI mK mL x0 x2) s46=some r->lpW ctx 7 [0,2,4,6,7,26,27] [] Zvo [(.ptr 0 0),(zN c),(.ptr 7 0),(zN x2.work),(zV true x0),(zN (w64 ((x0.length:Int)+1))),(zN 1)] [(.cells [(.sl 8 1),(.sl 2 2),(.sl 9 2),(.mp 4),(.mp 5),(.mp 6)]),.dead,(.arr 2 (List.map Zab mJ)),.dead,(.mp (mpD Zn Zn (Zy zE mM c (mI.length:Int)))),(.mp (mpD Zn Zn (Zy zE mK c (w64 ((List.length (mI++[(Zi.mk c 0)]):Int)-1))))),(.mp (mpD Z6 Zn mL)),(.cells (dV t0 t1 t2 t3 b)),(zA (mA++[(w64 (x2.work-0))])),(.arr 2 (List.map ZaA (mI++[(Zi.mk c 0)])))]=some ((ZhC t0 t1 t2 t3 b c mA mJ mI mM mK mL x0 x2) r):=
 lpT (ZhC t0 t1 t2 t3 b c mA mJ mI mM mK mL x0 x2) fun s46 _ ih=>yB (yG fun x47 _=>
  Zh (Zt _ _) (yB (yG fun x48 _=>
  yG fun x49 _=>
  Zc _ ZaU fun x50 _=>
  Ze (ZeV (f:=Zn) (g:=Zn) zE (fun _ _=>rfl) (Zy zE mK c (w64 ((List.length (mI++[(Zi.mk c 0)]):Int)-1))) c (w64 ((List.length ((mI++[(Zi.mk c 0)])++[(Zi.mk c 1)]):Int)-1))) (yT (Ze (ZbX (f:=Zn) (g:=Zn) zE (fun _ _=>rfl) (Zy zE (Zy zE mK c (w64 ((List.length (mI++[(Zi.mk c 0)]):Int)-1))) c (w64 ((List.length ((mI++[(Zi.mk c 0)])++[(Zi.mk c 1)]):Int)-1))) c 0) (Ze (ZbX (f:=Zn) (g:=Zn) zE (fun _ _=>rfl) (Zy zE (Zy zE mK c (w64 ((List.length (mI++[(Zi.mk c 0)]):Int)-1))) c (w64 ((List.length ((mI++[(Zi.mk c 0)])++[(Zi.mk c 1)]):Int)-1))) c 0) (Zc _ ZaC fun x51 _=>
  yG fun x52 _=>
  yG fun x53 _=>
  Ze (ZbX (f:=Zn) (g:=Zn) zE (fun _ _=>rfl) (Zy zE (Zy zE mK c (w64 ((List.length (mI++[(Zi.mk c 0)]):Int)-1))) c (w64 ((List.length ((mI++[(Zi.mk c 0)])++[(Zi.mk c 1)]):Int)-1))) c 0) (Ze (ZeV (f:=Z6) (g:=Zn) (fun ka kb:Zl=>((ka.maker==kb.maker)&&((ka.user==kb.user)&&((ka.pos==kb.pos)&&true)))) (fun _ _=>rfl) mL x53 (Zae zE (Zy zE (Zy zE mK c (w64 ((List.length (mI++[(Zi.mk c 0)]):Int)-1))) c (w64 ((List.length ((mI++[(Zi.mk c 0)])++[(Zi.mk c 1)]):Int)-1))) c 0)) (Zc _ (Zc8 _) fun r66 _=>
  Zg rfl)))))))
  (Zc _ ZaU fun x67 _=>
  Ze (ZeV (f:=Zn) (g:=Zn) zE (fun _ _=>rfl) (Zy zE mK c (w64 ((List.length (mI++[(Zi.mk c 0)]):Int)-1))) c (w64 ((List.length ((mI++[(Zi.mk c 0)])++[(Zi.mk c 1)]):Int)-1))) (yT (Ze (ZbX (f:=Zn) (g:=Zn) zE (fun _ _=>rfl) (Zy zE (Zy zE mK c (w64 ((List.length (mI++[(Zi.mk c 0)]):Int)-1))) c (w64 ((List.length ((mI++[(Zi.mk c 0)])++[(Zi.mk c 1)]):Int)-1))) c 0) (Ze (ZbX (f:=Zn) (g:=Zn) zE (fun _ _=>rfl) (Zy zE (Zy zE mK c (w64 ((List.length (mI++[(Zi.mk c 0)]):Int)-1))) c (w64 ((List.length ((mI++[(Zi.mk c 0)])++[(Zi.mk c 1)]):Int)-1))) c 0) (Zc _ ZaC fun x68 _=>
  yG fun x69 _=>
  yG fun x70 _=>
  Ze (ZbX (f:=Zn) (g:=Zn) zE (fun _ _=>rfl) (Zy zE (Zy zE mK c (w64 ((List.length (mI++[(Zi.mk c 0)]):Int)-1))) c (w64 ((List.length ((mI++[(Zi.mk c 0)])++[(Zi.mk c 1)]):Int)-1))) c 0) (Ze (ZeV (f:=Z6) (g:=Zn) (fun ka kb:Zl=>((ka.maker==kb.maker)&&((ka.user==kb.user)&&((ka.pos==kb.pos)&&true)))) (fun _ _=>rfl) mL x70 (Zae zE (Zy zE (Zy zE mK c (w64 ((List.length (mI++[(Zi.mk c 0)]):Int)-1))) c (w64 ((List.length ((mI++[(Zi.mk c 0)])++[(Zi.mk c 1)]):Int)-1))) c 0)) (Zc _ (Zc8 _) fun r83 _=>
  Zg rfl)))))))))
  (Zg rfl)
def Zhr (t0 t1 t2 t3:Bool) (b:Zj) (c:Int) (mA:LI) (mJ:List Zo) (mI:List Zi) (mM:(List (Int×Int))) (mK:(List (Int×Int))) (mL:(List (Zl×Int))) (x0:LI):(((List (Int×Int))×(List (Zl×Int))×LI×(List Zo)×(List Zi))⊕(LI⊕Unit))->Ex×List V×Zm
  | (.inl r)=>(.exit 0,[],[(.cells [(.sl 7 1),(.sl 8 2),(.sl 9 2),(.mp 4),(.mp 5),(.mp 6)]),.dead,.dead,.dead,(.mp (mpD Zn Zn (Zy zE mM c (mI.length:Int)))),(.mp (mpD Zn Zn r.1)),(.mp (mpD Z6 Zn r.2.1)),(zA r.2.2.1),(.arr 2 (List.map Zab r.2.2.2.1)),(.arr 2 (List.map ZaA r.2.2.2.2))])
  | (.inr (.inl r))=>(.exit 0,[],[(.cells [(.sl 7 1),(.sl 2 2),(.sl 8 2),(.mp 4),(.mp 5),(.mp 6)]),.dead,(.arr 2 (List.map Zab mJ)),.dead,(.mp (mpD Zn Zn (Zy zE mM c (mI.length:Int)))),(.mp (mpD Zn Zn (Zy zE mK c (w64 ((List.length (mI++[(Zi.mk c 0)]):Int)-1))))),(.mp (mpD Z6 Zn mL)),(zA r),(.arr 2 (List.map ZaA (mI++[(Zi.mk c 0)])))])
  | (.inr (.inr r))=>(.exit 0,[],[(.cells [(.sl 1 1),(.sl 2 2),(.sl 3 2),(.mp 4),(.mp 5),(.mp 6)]),(zA mA),(.arr 2 (List.map Zab mJ)),(.arr 2 (List.map ZaA mI)),(.mp (mpD Zn Zn (Zy zE mM c (mI.length:Int)))),(.mp (mpD Zn Zn mK)),(.mp (mpD Z6 Zn mL))])
theorem ZkB {t0 t1:Bool}{t2 t3:Bool}{b:Zj}{c:Int}{mA:LI}{mJ:List Zo}{mI:List Zi}{mM:(List (Int×Int))}{mK:(List (Int×Int))}{mL:(List (Zl×Int))}{x0:LI}:∀s1 r,lp (ZcE b c mA mJ mI mK mL x0) s1=some r->lpW ctx 7 [0,2,4,6,7,26,27] [] Zvo [(.ptr 0 0),(zN c),(.ptr 7 0),(zN 0),(zV true x0),(zN (w64 ((x0.length:Int)+1))),(zN 0)] [(.cells [(.sl 1 1),(.sl 2 2),(.sl 3 2),(.mp 4),(.mp 5),(.mp 6)]),(zA mA),(.arr 2 (List.map Zab mJ)),(.arr 2 (List.map ZaA mI)),(.mp (mpD Zn Zn (Zy zE mM c (mI.length:Int)))),(.mp (mpD Zn Zn mK)),(.mp (mpD Z6 Zn mL)),(.cells (dV t0 t1 t2 t3 b))]=some ((Zhr t0 t1 t2 t3 b c mA mJ mI mM mK mL x0) r):=
 lpT (Zhr t0 t1 t2 t3 b c mA mJ mI mM mK mL x0) fun s1 _ ih=>yB (yG fun x2 _=>
  Zh (Zt _ _) (yB (yG fun x3 _=>
  yG fun x4 _=>
  Zc _ ZaU fun x5 _=>
  Ze (ZeV (f:=Zn) (g:=Zn) zE (fun _ _=>rfl) mK c (w64 ((List.length (mI++[(Zi.mk c 0)]):Int)-1))) (yF (by
 conv=>rhs;whnf
 refine Zc _ (Zko _) fun r44 _=>?_
 rcases r44 with r44 | r44
 exact Zg rfl
 exact Zg rfl)))
  (Zc _ ZaU fun x45 _=>
  Ze (ZeV (f:=Zn) (g:=Zn) zE (fun _ _=>rfl) mK c (w64 ((List.length (mI++[(Zi.mk c 0)]):Int)-1))) (yF (by
 conv=>rhs;whnf
 refine Zc _ (ZkA _) fun r84 _=>?_
 rcases r84 with r84 | r84
 exact Zg rfl
 exact Zg rfl)))))
  (Zg rfl)
theorem Zn2 {t0 t1:Bool}{t2 t3:Bool}{b:Zj}{c:Int}{mA:LI}{mJ:List Zo}{mI:List Zi}{mM:(List (Int×Int))}{mK:(List (Int×Int))}{mL:(List (Zl×Int))}:∀r,(Zf9 b c mA mJ mI mK mL)=some r->evW ctx 85 [(.ptr 0 0),(.d (D.agg (dA t0 t1 t2 t3 b))),(zN c)] [(.cells [(.sl 1 1),(.sl 2 2),(.sl 3 2),(.mp 4),(.mp 5),(.mp 6)]),(zA mA),(.arr 2 (List.map Zab mJ)),(.arr 2 (List.map ZaA mI)),(.mp (mpD Zn Zn mM)),(.mp (mpD Zn Zn mK)),(.mp (mpD Z6 Zn mL))]=some ((Zoo t0 t1 t2 t3 b c mA mJ mI mM mK mL) r):=
 evS ZKc rfl rfl <| Zh (Zt _ _) (Ze (ZeV (f:=Zn) (g:=Zn) zE (fun _ _=>rfl) mM c (mI.length:Int)) (yC Zse fun x0 _=>
  Zh (Zt _ _) (by
 conv=>rhs;whnf
 refine Zc _ (ZkB _) fun r85 _=>?_
 rcases r85 with r85 | (r85 | r85)
 exact yR
 exact yR
 exact yR)))
theorem ZsT {a:Int}:∀r,(Zei a)=some r->evD ctx 116 [(zN a)]=some (ZJ r):=
 evT ZHV rfl rfl <| yBr (yBr yR)
def ZaD (t0:Bool) (a:LI):(Int⊕Unit)->Ex×List V×Zm
  | (.inl r)=>(.ret,[(zN r)],[])
  | (.inr r)=>(.exit 0,[.bad],[])
theorem ZfJ {t0:Bool}{a:LI}:∀s0 r,lp (Z1 a (fun z0=>Zei z0)) s0=some r->lpW ctx 0 [0,1,7,8] [4] Zup [(zV t0 a),(.d (D.fn 116 [])),(zN (a.length:Int)),(zN s0)] []=some ((ZaD t0 a) r):=
 lpT (ZaD t0 a) fun s0 _ ih=>yB (yG fun x1 _=>
  yC ZsT fun x2 _=>
  yB (Zg rfl)
  (Zd (ih _)))
  (Zg rfl)
theorem ZgA {t0:Bool}{a:LI}:∀r,(ZaN a (fun z0=>Zei z0))=some r->evD ctx 142 [(zV t0 a),(.d (D.fn 116 []))]=some (ZC r):=
 evT ZzV rfl rfl <| Zh (Zt _ _) (by
 conv=>rhs;whnf
 refine Zc _ (ZfJ _) fun r3 _=>?_
 rcases r3 with r3 | r3
 exact yR
 exact yR)
theorem ZfK {t0:Bool}{a:LI}:∀r,(ZaR a (fun z0=>Zei z0))=some r->evD ctx 114 [(zV t0 a),(.d (D.fn 116 []))]=some (ZJ r):=
 evT ZCv rfl rfl <| yC ZgA fun x0 _=>
  yBr yR
theorem ZmV {t0 t1:Bool}{a:Int}{b0:LI}{b1:List Zo}:∀r,(Zh1 a b0)=some r->evD ctx 117 [(zN a),(.d (D.rptr [(zL t0 b0),(zM t1 Zab b1)]))]=some (ZJ r):=
 evT ZEs rfl rfl <| yB (Zh (Zt _ _) (yBr yR))
  yR
def Zwm (r:(LI×Bool)):D:=(D.tup [(zL true r.1),(D.bool r.2)])
def Znk (t0 t1:Bool) (a:Z5) (s0:LI×(List Bool)) (s1:Int):(Unit⊕Unit)->Ex×List V×Zm
  | (.inl r)=>(.exit 3,[(.ptr 0 0),(.sl 1 1),(.sl 2 1),(zN s1),(zN (a.work.length:Int)),(zN s1)],[(zK1 t0 a.work t1 a.edges),(zA s0.1),(.arr 1 (List.map D.bool s0.2))])
  | (.inr r)=>(.exit 4,[(.ptr 0 0),(.sl 1 1),(.sl 2 1),(zN s1),(zN (a.work.length:Int)),(zN s1)],[(zK1 t0 a.work t1 a.edges),(zA s0.1),(.arr 1 (List.map D.bool s0.2))])
theorem Zr0 {t0 t1:Bool}{a:Z5}{s0:LI×(List Bool)}{s1:Int}:∀s3 r,lp (ZhG a s0 s1) s3=some r->lpW ctx 0 [1,4,5,6,21,22,30,31,32] [1,4,5,6,21,22] ZC9 [(.ptr 0 0),(.sl 1 1),(.sl 2 1),(zN s1),(zN (a.work.length:Int)),(zN s1),(zW t1 Zab a.edges),(zN (a.edges.length:Int)),(zN s3)] [(zK1 t0 a.work t1 a.edges),(zA s0.1),(.arr 1 (List.map D.bool s0.2))]=some ((Znk t0 t1 a s0 s1) r):=
 lpT (Znk t0 t1 a s0 s1) fun s3 _ ih=>yB (yG fun x4 _=>
  yB (yG fun x5 hx5=>
  Ze (Zk rfl hx5) (yB (Zd (ih _))
  (Zg rfl)))
  (Zd (ih _)))
  (Zg rfl)
def Znb (t0 t1:Bool) (a:Z5) (s0:LI×(List Bool)):((LI×(List Bool))⊕Unit)->Ex×List V×Zm
  | (.inl r)=>(.exit 1,[(.ptr 0 0),(.sl 1 1),(.sl 2 1)],[(zK1 t0 a.work t1 a.edges),(zA r.1),(.arr 1 (List.map D.bool r.2))])
  | (.inr r)=>(.exit 2,[(.ptr 0 0),(.sl 1 1),(.sl 2 1)],[(zK1 t0 a.work t1 a.edges),(zA s0.1),(.arr 1 (List.map D.bool s0.2))])
theorem Zsc {t0 t1:Bool}{a:Z5}{s0:LI×(List Bool)}:∀s1 r,lp (Zga a s0) s1=some r->lpW ctx 0 [1,4,5,21,22] [1,4,5] ZCl [(.ptr 0 0),(.sl 1 1),(.sl 2 1),(zN (a.work.length:Int)),(zN s1)] [(zK1 t0 a.work t1 a.edges),(zA s0.1),(.arr 1 (List.map D.bool s0.2))]=some ((Znb t0 t1 a s0) r):=
 lpT (Znb t0 t1 a s0) fun s1 _ ih=>yB (yG fun x2 hx2=>
  Ze (Zk rfl hx2) (yB (Zd (ih _))
  (Zh (Zt _ _) (by
 conv=>rhs;whnf
 refine Zc _ (Zr0 _) fun r6 _=>?_
 rcases r6 with r6 | r6
 exact Zd (ih _)
 exact Ze (ZW rfl hx2) (Ze (Zk rfl hx2) (Zh (ZL D.bool s0.2 s1.toNat true) (yT (Za5 (Zbz Zn s0.1 1) (Zh (Zby Zn s0.1 [s1]) (Zg rfl))
  Z9))))))))
  (Zg rfl)
def ZmQ (t0 t1:Bool) (a:Z5):(LI⊕LI)->Ex×List V×Zm
  | (.inl r)=>(.ret,[(.nilsl 1),(.d (D.bool false)),(.sl 0 1)],[(zA r)])
  | (.inr r)=>(.exit 0,[.bad,.bad,(.sl 0 1)],[(zA r)])
theorem Zsq {t0 t1:Bool}{a:Z5}:∀s0 r,lp (ZhK a) s0=some r->lpW ctx 0 [1,4,5] [2,3,4] ZBX [(.ptr 0 0),(.sl 1 1),(.sl 2 1)] [(zK1 t0 a.work t1 a.edges),(zA s0.1),(.arr 1 (List.map D.bool s0.2))]=some ((ZmQ t0 t1 a) r):=
 lpT (ZmQ t0 t1 a) fun s0 _ ih=>Zh (Zt _ _) (Zh (Zt _ _) (yB (Zh (Zt _ _) (by
 conv=>rhs;whnf
 refine Zc _ (Zsc _) fun r7 _=>?_
 rcases r7 with r7 | r7
 exact Zd (ih _)
 exact Zg rfl))
  (Zg rfl)))
theorem ZoR {t0 t1:Bool}{a:Z5}:∀r,(Zhp a)=some r->evD ctx 118 [(.d (zK3 t0 a.work t1 a.edges))]=some (Zwm r):=
 evT ZGU rfl rfl <| Zh (Zt _ _) (yBm (Zh (Zr4 D.bool (false:Bool) (a.work.length:Int)) (by
 conv=>rhs;whnf
 refine Zc _ (Zsq _) fun r8 _=>?_
 rcases r8 with r8 | r8
 exact yR
 exact yR)))
def ZmY (t0 t1:Bool) (a:Z5):(Unit⊕Unit)->Ex×List V×Zm
  | (.inl r)=>(.ret,[(.ptr 0 0),(zN 42)],[(zK1 t0 a.work t1 a.edges)])
  | (.inr r)=>(.exit 0,[(.ptr 0 0),.bad],[(zK1 t0 a.work t1 a.edges)])
theorem Zsr {t0 t1:Bool}{a:Z5}:∀s1 r,lp (ZgB a) s1=some r->lpW ctx 0 [1,3,23,24,25] [1,2] ZEN [(.ptr 0 0),(.fn 117 [(.ptr 0 0)]),(zW t1 Zab a.edges),(zN (a.edges.length:Int)),(zN s1)] [(zK1 t0 a.work t1 a.edges)]=some ((ZmY t0 t1 a) r):=
 lpT (ZmY t0 t1 a) fun s1 _ ih=>yB (yG fun x2 _=>
  yC ZmV fun x3 _=>
  yB (yC ZmV fun x4 _=>
  yB (yB (Zg rfl)
  (yBm (Za5 (ZGa Zab a.edges s1.toNat) (yT (Zh (ZyL Zab a.edges s1.toNat) (yC ZfN fun x5 _=>
  yB (Zg rfl)
  (Zd (ih _)))))
  Z9)))
  (Zg rfl))
  (Zg rfl))
  (Zg rfl)
theorem Zlz {t0 t1:Bool}{a:Z5}:∀r,(Ziw a)=some r->evD ctx 88 [(.d (zK3 t0 a.work t1 a.edges))]=some (ZC r):=
 evT ZK4 rfl rfl <| Zh (Zt _ _) (yBr (Zh (Zt _ _) (yBr (yC ZfK fun x0 _=>
  yBr (Zh (Zt _ _) (by
 conv=>rhs;whnf
 refine Zc _ (Zsr _) fun r6 _=>?_
 rcases r6 with r6 | r6
 exact yR
 exact yC ZoR fun x7 _=>
  yBr yR))))))
def Zob (r:(ZoC×Int)):D:=(D.tup [(D.agg [(zL true r.1.dag.work),(zM true Zab r.1.dag.edges),(zM true ZaA r.1.pieces)]),(Zn r.2)])
def Zla (t0 t1 t2 t3:Bool) (a:Zj):(LI×(List Zo)×(List Zi)×(List (Int×Int))×(List (Int×Int))×(List (Zl×Int)))->Ex×List V×Zm
  | r=>(.exit 0,[(.ptr 0 0),(.ptr 1 0),(.ptr 2 0)],[(.cells (dV t0 t1 t2 t3 a)),(zK6 ),(.cells [(.sl 6 1),(.sl 7 2),(.sl 8 2),(.mp 9),(.mp 10),(.mp 11)]),(.arr 1 []),(.arr 2 []),(.arr 2 []),(zA r.1),(.arr 2 (List.map Zab r.2.1)),(.arr 2 (List.map ZaA r.2.2.1)),(.mp (mpD Zn Zn r.2.2.2.1)),(.mp (mpD Zn Zn r.2.2.2.2.1)),(.mp (mpD Z6 Zn r.2.2.2.2.2))])
theorem ZpT {t0 t1:Bool}{t2 t3:Bool}{a:Zj}:∀s1 r,lp (Zdm a) s1=some r->lpW ctx 0 [1,2,5,31,32] [1,2,5] ZEv [(.ptr 0 0),(.ptr 1 0),(.ptr 2 0),(zN (a.parts.length:Int)),(zN s1.1)] [(.cells (dV t0 t1 t2 t3 a)),(zK6 ),(.cells [(.sl 6 1),(.sl 7 2),(.sl 8 2),(.mp 9),(.mp 10),(.mp 11)]),(.arr 1 []),(.arr 2 []),(.arr 2 []),(zA s1.2.1),(.arr 2 (List.map Zab s1.2.2.1)),(.arr 2 (List.map ZaA s1.2.2.2.1)),(.mp (mpD Zn Zn s1.2.2.2.2.1)),(.mp (mpD Zn Zn s1.2.2.2.2.2.1)),(.mp (mpD Z6 Zn s1.2.2.2.2.2.2))]=some ((Zla t0 t1 t2 t3 a) r):=
 lpT (Zla t0 t1 t2 t3 a) fun s1 _ ih=>yB ((by
 conv=>rhs;whnf
 refine Zc _ Zn2 fun x2 _=>?_
 rcases x2 with x2 | (x2 | x2)
 exact Zd (ih _)
 exact Zd (ih _)
 exact Zd (ih _)))
  (Zg rfl)
def Zk8 (t0 t1 t2 t3:Bool) (a:Zj) (r3:(LI×(List Zo)×(List Zi)×(List (Int×Int))×(List (Int×Int))×(List (Zl×Int)))):(List Zo)->Ex×List V×Zm
  | r=>(.exit 2,[(.ptr 0 0),(.ptr 1 0),(.ptr 2 0)],[(.cells (dV t0 t1 t2 t3 a)),(zK6 ),(.cells [(.sl 6 1),(.sl 7 2),(.sl 8 2),(.mp 9),(.mp 10),(.mp 11)]),(.arr 1 []),(.arr 2 []),(.arr 2 []),(zA r3.1),(.arr 2 (List.map Zab r)),(.arr 2 (List.map ZaA r3.2.2.1)),(.mp (mpD Zn Zn r3.2.2.2.1)),(.mp (mpD Zn Zn r3.2.2.2.2.1)),(.mp (mpD Z6 Zn r3.2.2.2.2.2))])
theorem ZpR {t0 t1:Bool}{t2 t3:Bool}{a:Zj}{r3:(LI×(List Zo)×(List Zi)×(List (Int×Int))×(List (Int×Int))×(List (Zl×Int)))}:∀s4 r,lp (Zeo a r3) s4=some r->lpW ctx 0 [1,2,5,41,42,43] [1,2,5] ZFY [(.ptr 0 0),(.ptr 1 0),(.ptr 2 0),(zW t1 Zab a.edges),(zN (a.edges.length:Int)),(zN s4.1)] [(.cells (dV t0 t1 t2 t3 a)),(zK6 ),(.cells [(.sl 6 1),(.sl 7 2),(.sl 8 2),(.mp 9),(.mp 10),(.mp 11)]),(.arr 1 []),(.arr 2 []),(.arr 2 []),(zA r3.1),(.arr 2 (List.map Zab s4.2)),(.arr 2 (List.map ZaA r3.2.2.1)),(.mp (mpD Zn Zn r3.2.2.2.1)),(.mp (mpD Zn Zn r3.2.2.2.2.1)),(.mp (mpD Z6 Zn r3.2.2.2.2.2))]=some ((Zk8 t0 t1 t2 t3 a r3) r):=
 lpT (Zk8 t0 t1 t2 t3 a r3) fun s4 _ ih=>yB (yG fun x5 _=>
  Ze (ZbX (f:=Zn) (g:=Zn) zE (fun _ _=>rfl) r3.2.2.2.2.1 x5.src 0) (Ze (ZbX (f:=Zn) (g:=Zn) zE (fun _ _=>rfl) r3.2.2.2.1 x5.dst 0) (Zc _ ZaC fun x6 _=>
  Zd (ih _))))
  (Zg rfl)
def ZlE (t0 t1 t2 t3:Bool) (a:Zj) (r3:(LI×(List Zo)×(List Zi)×(List (Int×Int))×(List (Int×Int))×(List (Zl×Int)))):(List Zo)->Ex×List V×Zm
  | r=>(.exit 4,[(.ptr 0 0),(.ptr 1 0),(.ptr 2 0)],[(.cells (dV t0 t1 t2 t3 a)),(zK6 ),(.cells [(.sl 6 1),(.sl 7 2),(.sl 8 2),(.mp 9),(.mp 10),(.mp 11)]),(.arr 1 []),(.arr 2 []),(.arr 2 []),(zA r3.1),(.arr 2 (List.map Zab r)),(.arr 2 (List.map ZaA r3.2.2.1)),(.mp (mpD Zn Zn r3.2.2.2.1)),(.mp (mpD Zn Zn r3.2.2.2.2.1)),(.mp (mpD Z6 Zn r3.2.2.2.2.2))])
theorem ZpK {t0 t1:Bool}{t2 t3:Bool}{a:Zj}{r3:(LI×(List Zo)×(List Zi)×(List (Int×Int))×(List (Int×Int))×(List (Zl×Int)))}:∀s8 r,lp (ZeF a r3) s8=some r->lpW ctx 0 [1,2,5,65,66,67] [1,2,5] ZHh [(.ptr 0 0),(.ptr 1 0),(.ptr 2 0),(zW t2 Z6 a.futures),(zN (a.futures.length:Int)),(zN s8.1)] [(.cells (dV t0 t1 t2 t3 a)),(zK6 ),(.cells [(.sl 6 1),(.sl 7 2),(.sl 8 2),(.mp 9),(.mp 10),(.mp 11)]),(.arr 1 []),(.arr 2 []),(.arr 2 []),(zA r3.1),(.arr 2 (List.map Zab s8.2)),(.arr 2 (List.map ZaA r3.2.2.1)),(.mp (mpD Zn Zn r3.2.2.2.1)),(.mp (mpD Zn Zn r3.2.2.2.2.1)),(.mp (mpD Z6 Zn r3.2.2.2.2.2))]=some ((ZlE t0 t1 t2 t3 a r3) r):=
 lpT (ZlE t0 t1 t2 t3 a r3) fun s8 _ ih=>yB (yG fun x9 _=>
  Ze (ZbX (f:=Zn) (g:=Zn) zE (fun _ _=>rfl) r3.2.2.2.2.1 x9.maker 0) (Ze (ZbX (f:=Z6) (g:=Zn) (fun ka kb:Zl=>((ka.maker==kb.maker)&&((ka.user==kb.user)&&((ka.pos==kb.pos)&&true)))) (fun _ _=>rfl) r3.2.2.2.2.2 x9 0) (Zc _ ZaC fun x10 _=>
  Zd (ih _))))
  (Zg rfl)
def ZlH (t3:Bool) (a:Zj) (r3:(LI×(List Zo)×(List Zi)×(List (Int×Int))×(List (Int×Int))×(List (Zl×Int)))) (s12:Int×LI×(List Zo)×(List Zi)) (x13:Zv):(List Zo)->Ex×List V×Zm
  | r=>(.exit 8,[(.ptr 0 0),(.ptr 1 0),(.ptr 2 0),(zN (w64 ((List.length (s12.2.2.2++[(Zi.mk (-1) s12.1)]):Int)-1))),(zW t3 Zdx a.barriers),(zN (a.barriers.length:Int)),(zN s12.1)],[(zK6 ),(.cells [(.sl 6 1),(.sl 7 2),(.sl 8 2),(.mp 9),(.mp 10),(.mp 11)]),(zK8 true x13.ins true x13.outs),(.arr 1 []),(.arr 2 []),(.arr 2 []),(zA (s12.2.1++[1])),(.arr 2 (List.map Zab r)),(.arr 2 (List.map ZaA (s12.2.2.2++[(Zi.mk (-1) s12.1)]))),(.mp (mpD Zn Zn r3.2.2.2.1)),(.mp (mpD Zn Zn r3.2.2.2.2.1)),(.mp (mpD Z6 Zn r3.2.2.2.2.2))])
theorem ZpM {t3:Bool}{a:Zj}{r3:(LI×(List Zo)×(List Zi)×(List (Int×Int))×(List (Int×Int))×(List (Zl×Int)))}{s12:Int×LI×(List Zo)×(List Zi)}{x13:Zv}:∀s15 r,lp (Zgh r3 s12 x13) s15=some r->lpW ctx 0 [2,5,12,13,88,89,90,100,101,102] [2,5,12,13,88,89,90] ZGM [(.ptr 0 0),(.ptr 1 0),(.ptr 2 0),(zN (w64 ((List.length (s12.2.2.2++[(Zi.mk (-1) s12.1)]):Int)-1))),(zW t3 Zdx a.barriers),(zN (a.barriers.length:Int)),(zN s12.1),(zV true x13.ins),(zN (x13.ins.length:Int)),(zN s15.1)] [(zK6 ),(.cells [(.sl 6 1),(.sl 7 2),(.sl 8 2),(.mp 9),(.mp 10),(.mp 11)]),(zK8 true x13.ins true x13.outs),(.arr 1 []),(.arr 2 []),(.arr 2 []),(zA (s12.2.1++[1])),(.arr 2 (List.map Zab s15.2)),(.arr 2 (List.map ZaA (s12.2.2.2++[(Zi.mk (-1) s12.1)]))),(.mp (mpD Zn Zn r3.2.2.2.1)),(.mp (mpD Zn Zn r3.2.2.2.2.1)),(.mp (mpD Z6 Zn r3.2.2.2.2.2))]=some ((ZlH t3 a r3 s12 x13) r):=
 lpT (ZlH t3 a r3 s12 x13) fun s15 _ ih=>yB (yG fun x16 _=>
  Ze (ZbX (f:=Zn) (g:=Zn) zE (fun _ _=>rfl) r3.2.2.2.2.1 x16 0) (Zc _ ZaC fun x17 _=>
  Zd (ih _)))
  (Zg rfl)
def Zlu (t3:Bool) (a:Zj) (r3:(LI×(List Zo)×(List Zi)×(List (Int×Int))×(List (Int×Int))×(List (Zl×Int)))) (s12:Int×LI×(List Zo)×(List Zi)) (x13:Zv):(List Zo)->Ex×List V×Zm
  | r=>(.exit 10,[(.ptr 0 0),(.ptr 1 0),(zW t3 Zdx a.barriers),(zN (a.barriers.length:Int)),(zN s12.1)],[(.cells [(.sl 2 1),(.sl 3 2),(.sl 4 2)]),(.cells [(.sl 5 1),(.sl 6 2),(.sl 7 2),(.mp 8),(.mp 9),(.mp 10)]),(.arr 1 []),(.arr 2 []),(.arr 2 []),(zA (s12.2.1++[1])),(.arr 2 (List.map Zab r)),(.arr 2 (List.map ZaA (s12.2.2.2++[(Zi.mk (-1) s12.1)]))),(.mp (mpD Zn Zn r3.2.2.2.1)),(.mp (mpD Zn Zn r3.2.2.2.2.1)),(.mp (mpD Z6 Zn r3.2.2.2.2.2))])
theorem ZpZ {t3:Bool}{a:Zj}{r3:(LI×(List Zo)×(List Zi)×(List (Int×Int))×(List (Int×Int))×(List (Zl×Int)))}{s12:Int×LI×(List Zo)×(List Zi)}{x13:Zv}:∀s19 r,lp (Zgk r3 s12 x13) s19=some r->lpW ctx 0 [2,5,13,88,89,90,117,118,119] [2,5,88,89,90] ZHd [(.ptr 0 0),(.ptr 1 0),(zN (w64 ((List.length (s12.2.2.2++[(Zi.mk (-1) s12.1)]):Int)-1))),(zW t3 Zdx a.barriers),(zN (a.barriers.length:Int)),(zN s12.1),(zV true x13.outs),(zN (x13.outs.length:Int)),(zN s19.1)] [(.cells [(.sl 2 1),(.sl 3 2),(.sl 4 2)]),(.cells [(.sl 5 1),(.sl 6 2),(.sl 7 2),(.mp 8),(.mp 9),(.mp 10)]),(.arr 1 []),(.arr 2 []),(.arr 2 []),(zA (s12.2.1++[1])),(.arr 2 (List.map Zab s19.2)),(.arr 2 (List.map ZaA (s12.2.2.2++[(Zi.mk (-1) s12.1)]))),(.mp (mpD Zn Zn r3.2.2.2.1)),(.mp (mpD Zn Zn r3.2.2.2.2.1)),(.mp (mpD Z6 Zn r3.2.2.2.2.2))]=some ((Zlu t3 a r3 s12 x13) r):=
 lpT (Zlu t3 a r3 s12 x13) fun s19 _ ih=>yB (yG fun x20 _=>
  Ze (ZbX (f:=Zn) (g:=Zn) zE (fun _ _=>rfl) r3.2.2.2.1 x20 0) (Zc _ ZaC fun x21 _=>
  Zd (ih _)))
  (Zg rfl)
def Zlj (t3:Bool) (a:Zj) (r3:(LI×(List Zo)×(List Zi)×(List (Int×Int))×(List (Int×Int))×(List (Zl×Int)))):(LI×(List Zo)×(List Zi))->Ex×List V×Zm
  | r=>(.exit 6,[(.ptr 0 0),(.ptr 1 0)],[(.cells [(.sl 2 1),(.sl 3 2),(.sl 4 2)]),(.cells [(.sl 5 1),(.sl 6 2),(.sl 7 2),(.mp 8),(.mp 9),(.mp 10)]),(.arr 1 []),(.arr 2 []),(.arr 2 []),(zA r.1),(.arr 2 (List.map Zab r.2.1)),(.arr 2 (List.map ZaA r.2.2)),(.mp (mpD Zn Zn r3.2.2.2.1)),(.mp (mpD Zn Zn r3.2.2.2.2.1)),(.mp (mpD Z6 Zn r3.2.2.2.2.2))])
theorem Zqb {t3:Bool}{a:Zj}{r3:(LI×(List Zo)×(List Zi)×(List (Int×Int))×(List (Int×Int))×(List (Zl×Int)))}:∀s12 r,lp (Zey a r3) s12=some r->lpW ctx 0 [2,5,88,89,90] [2,5] ZHs [(.ptr 0 0),(.ptr 1 0),(zW t3 Zdx a.barriers),(zN (a.barriers.length:Int)),(zN s12.1)] [(.cells [(.sl 2 1),(.sl 3 2),(.sl 4 2)]),(.cells [(.sl 5 1),(.sl 6 2),(.sl 7 2),(.mp 8),(.mp 9),(.mp 10)]),(.arr 1 []),(.arr 2 []),(.arr 2 []),(zA s12.2.1),(.arr 2 (List.map Zab s12.2.2.1)),(.arr 2 (List.map ZaA s12.2.2.2)),(.mp (mpD Zn Zn r3.2.2.2.1)),(.mp (mpD Zn Zn r3.2.2.2.2.1)),(.mp (mpD Z6 Zn r3.2.2.2.2.2))]=some ((Zlj t3 a r3) r):=
 lpT (Zlj t3 a r3) fun s12 _ ih=>yB (yG fun x13 _=>
  Zc _ ZaU fun x14 _=>
  Zh (Zt _ _) (Zc _ (ZpM _) fun r18 _=>
  Zh (Zt _ _) (Zc _ (ZpZ _) fun r22 _=>
  Zd (ih _))))
  (Zg rfl)
theorem ZsY {t0 t1:Bool}{t2 t3:Bool}{a:Zj}:∀r,(ZjC a)=some r->evD ctx 55 [(.d (D.agg (dA t0 t1 t2 t3 a)))]=some (Zob r):=
 evT ZKv rfl rfl <| yC Zoc fun x0 _=>
  yBr (Zh (Zt _ _) (Zc _ (ZpT _) fun r3 _=>
  Zh (Zt _ _) (Zc _ (ZpR _) fun r7 _=>
  Zh (Zt _ _) (Zc _ (ZpK _) fun r11 _=>
  Zh (Zt _ _) (Zc _ (Zqb _) fun r23 _=>
  yC Zlz fun x24 _=>
  yBr yR)))))
def Zm2 (t0:Bool) (a:Z5):Int->Ex×List V×Zm
  | r=>(.exit 0,[(zN r)],[])
theorem ZrL {t0:Bool}{a:Z5}:∀s1 r,lp (Zhq a) s1=some r->lpW ctx 0 [3,10,11,12] [3] ZFJ [(zN s1.1),(zV t0 a.work),(zN (a.work.length:Int)),(zN s1.2)] []=some ((Zm2 t0 a) r):=
 lpT (Zm2 t0 a) fun s1 _ ih=>yB (yG fun x2 _=>
  Zd (ih _))
  (Zg rfl)
theorem ZvW {t0 t1:Bool}{a:Z5}:∀r,(ZlY a)=some r->evD ctx 56 [(.d (zK3 t0 a.work t1 a.edges))]=some (ZC r):=
 evT ZKV rfl rfl <| yC Zlz fun x0 _=>
  yB (Zh (Zt _ _) (Zc _ (ZrL _) fun r3 _=>
  yR))
  yR
theorem ZuD {t0 t1:Bool}{a:Z5}:∀r,(Zl3 a)=some r->evD ctx 89 [(.d (zK3 t0 a.work t1 a.edges))]=some (Zcd r):=
 evT ZKO rfl rfl <| yC Zlz fun x0 _=>
  yBr (yC ZoR fun x1 _=>
  yBr yR)
theorem ZsQ {a:Zo}{b0:Int}:∀r,(Zg7 a b0)=some r->evD ctx 120 [(.d (zK9 a.src a.dst)),(.d (D.rptr [(Zn b0)]))]=some (ZoF r):=
 evT ZGA rfl rfl <| yBr yR
def ZlU (mH:LI):LI->V×Zm
  | r=>((.d (D.tup [])),[(zA r)])
theorem ZkX {mH:LI}:∀r,(ZdK mH)=some r->evW ctx 144 [(.sl 0 1)] [(zA mH)]=some ((ZlU mH) r):=
 evS ZJz rfl rfl <| Ze (ZAo rfl) (yBm (ZHx yR))
def Zhi (t1:Bool) (a:Z5) (b0:Int):LI->Ex×List V×Zm
  | r=>(.exit 0,[(.sl 0 1)],[(zA r)])
theorem Zj7 {t1:Bool}{a:Z5}{b0:Int}:∀s0 r,lp (ZiO a (fun z0=>Zg7 z0 b0)) s0=some r->lpW ctx 0 [1,5,11,12,13] [5] ZCg [(.d (D.fn 120 [(D.rptr [(Zn b0)])])),(.sl 0 1),(zW t1 Zab a.edges),(zN (a.edges.length:Int)),(zN s0.1)] [(zA s0.2)]=some ((Zhi t1 a b0) r):=
 lpT (Zhi t1 a b0) fun s0 _ ih=>yB (yG fun x1 _=>
  yC ZsQ fun x2 _=>
  yB (yT (Za5 (Zbz Zn s0.2 1) (Zh (Zby Zn s0.2 [x2.1]) (Zd (ih _)))
  Z9))
  (Zd (ih _)))
  (Zg rfl)
theorem ZlP {t0 t1:Bool}{a:Z5}{b0:Int}:∀r,(ZsF a (fun z0=>Zg7 z0 b0))=some r->evD ctx 119 [(.d (zK3 t0 a.work t1 a.edges)),(.d (D.fn 120 [(D.rptr [(Zn b0)])]))]=some (Zcd r):=
 evT ZGN rfl rfl <| Zh (Zt _ _) (Zc _ (Zj7 _) fun r3 _=>
  Zc _ ZkX fun x4 _=>
  yR)
theorem ZuI {t0 t1:Bool}{a:Z5}{b:Int}:∀r,(Zl9 a b)=some r->evD ctx 90 [(.d (zK3 t0 a.work t1 a.edges)),(zN b)]=some (Zcd r):=
 evT ZLk rfl rfl <| yC ZlP fun x0 _=>
  yR
def Zoe (t0 t1:Bool) (a:Z5) (x0:LI) (s1:Int×Int×LI) (x2:Int) (x3:LI):LI->Ex×List V×Zm
  | r=>(.exit 2,[(.ptr 0 0),(.sl 1 1),(zN s1.1),(zN x2),(zV true x0),(zN (x0.length:Int)),(zN s1.2.1)],[(zK1 t0 a.work t1 a.edges),(zA r)])
theorem Ztj {t0 t1:Bool}{a:Z5}{x0:LI}{s1:Int×Int×LI}{x2:Int}{x3:LI}:∀s4 r,lp (Zha x2 x3) s4=some r->lpW ctx 0 [1,3,4,6,14,15,16,22,23,24] [1,3,4,6,14,15,16] ZFW [(.ptr 0 0),(.sl 1 1),(zN s1.1),(zN x2),(zV true x0),(zN (x0.length:Int)),(zN s1.2.1),(zV true x3),(zN (x3.length:Int)),(zN s4.1)] [(zK1 t0 a.work t1 a.edges),(zA s4.2)]=some ((Zoe t0 t1 a x0 s1 x2 x3) r):=
 lpT (Zoe t0 t1 a x0 s1 x2 x3) fun s4 _ ih=>yB (yG fun x5 _=>
  yG fun x6 hx6=>
  Ze (Zk rfl hx6) (yG fun x7 hx7=>
  Ze (Zk rfl hx7) (Ze (ZW rfl hx6) (Ze (Zk rfl hx6) (Zh (ZL Zn s4.2 x2.toNat (bif decide (x6<x7) then x7 else x6)) (Zd (ih _)))))))
  (Zg rfl)
def Zog (t0 t1:Bool) (a:Z5) (x0:LI):Int->Ex×List V×Zm
  | r=>(.exit 0,[(zN r)],[])
theorem Ztt {t0 t1:Bool}{a:Z5}{x0:LI}:∀s1 r,lp (Zhf a x0) s1=some r->lpW ctx 0 [1,3,4,14,15,16] [4] ZGD [(.ptr 0 0),(.sl 1 1),(zN s1.1),(zV true x0),(zN (x0.length:Int)),(zN s1.2.1)] [(zK1 t0 a.work t1 a.edges),(zA s1.2.2)]=some ((Zog t0 t1 a x0) r):=
 lpT (Zog t0 t1 a x0) fun s1 _ ih=>yB (yG fun x2 _=>
  yC ZuI fun x3 _=>
  Zh (Zt _ _) (Zc _ (Ztj _) fun r8 _=>
  yG fun x9 hx9=>
  Ze (Zk rfl hx9) (yG fun x10 _=>
  Ze (ZW rfl hx9) (Ze (Zk rfl hx9) (Zh (ZL Zn r8 x2.toNat (w64 (x9+x10))) (yG fun x11 hx11=>
  Ze (Zk rfl hx11) (Zd (ih _))))))))
  (Zg rfl)
theorem Zwp {t0 t1:Bool}{a:Z5}:∀r,(Zny a)=some r->evD ctx 57 [(.d (zK3 t0 a.work t1 a.edges))]=some (ZC r):=
 evT ZLt rfl rfl <| Zh (Zt _ _) (yBm (Zh (Zr4 Zn (0:Int) (a.work.length:Int)) (yC ZuD fun x0 _=>
  Zh (Zt _ _) (Zc _ (Ztt _) fun r12 _=>
  yR))))
def Zhl (t0:Bool) (a:LI):Int->Ex×List V×Zm
  | r=>(.exit 0,[(zN r)],[])
theorem Zj9 {t0:Bool}{a:LI}:∀s1 r,lp (ZbE a) s1=some r->lpW ctx 0 [0,3,4] [3] ZGT [(zV t0 a),(zN s1.1),(zN s1.2)] []=some ((Zhl t0 a) r):=
 lpT (Zhl t0 a) fun s1 _ ih=>Zh (Zt _ _) (yB (yG fun x2 _=>
  Zd (ih _))
  (Zg rfl))
theorem ZlQ {t0:Bool}{a:LI}:∀r,(Zcf a)=some r->evD ctx 58 [(zV t0 a)]=some (ZC r):=
 evT ZKu rfl rfl <| Zh (Zt _ _) (yBn (yG fun x0 _=>
  Zc _ (Zj9 _) fun r3 _=>
  yR))
def Zn9 (r:(Zf×Int)):D:=(D.tup [(zK2 r.1.total r.1.long r.1.most r.1.deadline r.1.period),(Zn r.2)])
theorem Zs9 {t0 t1:Bool}{t2 t3:Bool}{a:Zj}:∀r,(Zdq a)=some r->evD ctx 25 [(.d (D.agg (dA t0 t1 t2 t3 a)))]=some (Zn9 r):=
 evT ZLl rfl rfl <| yC ZsY fun x0 _=>
  yBr (yC ZvW fun x1 _=>
  yC Zwp fun x2 _=>
  yC ZlQ fun x3 _=>
  yR)
theorem ZgS {a b:Int}:∀r,(ZdU a b)=some r->evD ctx 83 [(zN a),(zN b)]=some (ZJ r):=
 evT ZKl rfl rfl <| yB (yBr yR)
  yR
theorem Zjl {a:Zf}:∀r,(Zg8 a)=some r->evD ctx 51 [(.d (zK2 a.total a.long a.most a.deadline a.period))]=some (ZC r):=
 evT ZKU rfl rfl <| yC ZrZ fun x0 _=>
  yB (yBr (yC ZgS fun x1 _=>
  yB (yC ZgS fun x2 _=>
  yB (yC ZgS fun x3 _=>
  yB (yC ZgS fun x4 _=>
  yBr yR)
  yR)
  yR)
  yR))
  yR
def Zyb (a:Zf):(Unit⊕Unit)->D
  | (.inl r)=>(D.iface 128 (zK2 a.total a.long a.most a.deadline a.period))
  | (.inr r)=>(D.iface 97 (zK2 a.total a.long a.most a.deadline a.period))
theorem Zqh {a:Zf}:∀r,(Zlk a)=some r->evD ctx 59 [(.d (zK2 a.total a.long a.most a.deadline a.period))]=some ((Zyb a) r):=
 evT ZKf rfl rfl <| yBr yR
theorem Zwn {a0:Int}:∀r,(Zlr a0)=some r->evD ctx 199 [(.d (D.rptr [(Zn a0)]))]=some (ZC r):=
 evT ZGb rfl rfl <| yR
theorem ZsI {a:Int}:∀r,(Zdp a)=some r->evD ctx 201 [(zN a)]=some (ZJ r):=
 evT ZGX rfl rfl <| yC Zk5 fun x0 _=>
  yBr yR
theorem ZfI {t0:Bool}{a:LI}:∀s0 r,lp (Z1 a (fun z0=>Zdp z0)) s0=some r->lpW ctx 0 [0,1,7,8] [4] Zup [(zV t0 a),(.d (D.fn 201 [])),(zN (a.length:Int)),(zN s0)] []=some ((ZaD t0 a) r):=
 lpT (ZaD t0 a) fun s0 _ ih=>yB (yG fun x1 _=>
  yC ZsI fun x2 _=>
  yB (Zg rfl)
  (Zd (ih _)))
  (Zg rfl)
theorem Zgv {t0:Bool}{a:LI}:∀r,(ZaN a (fun z0=>Zdp z0))=some r->evD ctx 142 [(zV t0 a),(.d (D.fn 201 []))]=some (ZC r):=
 evT ZzV rfl rfl <| Zh (Zt _ _) (by
 conv=>rhs;whnf
 refine Zc _ (ZfI _) fun r3 _=>?_
 rcases r3 with r3 | r3
 exact yR
 exact yR)
theorem Zu2 {t0:Bool}{a:LI}:∀r,(Zmv a)=some r->evD ctx 200 [(zV t0 a)]=some (ZC r):=
 evT ZHv rfl rfl <| yC Zgv fun x0 _=>
  yBr (yG fun x1 _=>
  yC Zk5 fun x2 _=>
  yR)
def ZcX (r:(Int×Int)):D:=(D.tup [(Zn r.1),(Zn r.2)])
theorem ZkE {a b c0:Int}:∀r,(ZiU a b (Zlr c0))=some r->evD ctx 198 [(zN a),(zN b),(.d (D.fn 199 [(D.rptr [(Zn c0)])]))]=some (ZcX r):=
 evT ZH1 rfl rfl <| yC Zu2 fun x0 _=>
  yBr (yBr (yC Zwn fun x1 _=>
  yBn yR))
theorem ZAt {a b:Int}:∀r,(ZmJ a b)=some r->evD ctx 197 [(zN a),(zN b)]=some (ZcX r):=
 evT ZFX rfl rfl <| yC ZkE fun x0 _=>
  yR
def ZjY (r:ZiK):D:=(zK9 r.cores r.e)
theorem ZiZ {a:ZxV}:∀r,(ZeW a)=some r->evD ctx 196 [(.d (zK2 a.shape.total a.shape.long a.shape.most a.shape.deadline a.shape.period))]=some (ZjY r):=
 evT ZFT rfl rfl <| yBr (yC ZAt fun x0 _=>
  yB (yBr yR)
  yR)
theorem Ze8 {a:Ztg}:∀r,(Zdn a)=some r->evD ctx 60 [(.d (zK2 a.shape.total a.shape.long a.shape.most a.shape.deadline a.shape.period))]=some (ZjY r):=
 evT ZJZ rfl rfl <| yR
theorem Zng {a:Zf}:∀r,(Zh3 a)=some r->evD ctx 27 [(.d (zK2 a.total a.long a.most a.deadline a.period))]=some (ZcX r):=
 evT ZJ3 rfl rfl <| yC Zjl fun x0 _=>
  yBr (by
 conv=>rhs;whnf
 refine yC Zqh fun x1 _=>?_
 rcases x1 with x1 | x1
 exact yC ZiZ fun x2 _=>
  yR
 exact yC Ze8 fun x3 _=>
  yR)
def Zth (r:((List Zf)×Int)):D:=(D.tup [(zM true Zr r.1),(Zn r.2)])
def Zke (t0:Bool) (a:List Zj):((Int×(List Zf))⊕(List Zf))->Ex×List V×Zm
  | (.inl r)=>(.ret,[(.nilsl 5),(zN r.1),(.sl 0 5)],[(.arr 5 (List.map Zr r.2))])
  | (.inr r)=>(.exit 0,[.bad,.bad,(.sl 0 5)],[(.arr 5 (List.map Zr r))])
theorem ZoN {t0:Bool}{a:List Zj}:∀s0 r,lp (ZaZ a) s0=some r->lpW ctx 0 [4,13,14,15] [2,3,4] ZGt [(.sl 0 5),(.d (D.list t0 (List.map (Zh2 true) a))),(zN (a.length:Int)),(zN s0.1)] [(.arr 5 (List.map Zr s0.2))]=some ((Zke t0 a) r):=
 lpT (Zke t0 a) fun s0 _ ih=>yB (yG fun x1 _=>
  yC Zs9 fun x2 _=>
  yB (Zg rfl)
  (yT (Za5 (Zbz Zr s0.2 1) (Zh (Zby Zr s0.2 [x2.1]) (Zd (ih _)))
  Z9)))
  (Zg rfl)
def Zkk (r3:List Zf):(Int⊕Unit)->Ex×List V×Zm
  | (.inl r)=>(.ret,[(.nilsl 5),(zN r),(.sl 0 5)],[(.arr 5 (List.map Zr r3))])
  | (.inr r)=>(.exit 2,[.bad,.bad,(.sl 0 5)],[(.arr 5 (List.map Zr r3))])
theorem ZoW {r3:List Zf}:∀s4 r,lp (Zcs r3) s4=some r->lpW ctx 0 [4,32,33,34] [2,3,4] ZEO [(.sl 0 5),(.sl 0 5),(zN (r3.length:Int)),(zN s4)] [(.arr 5 (List.map Zr r3))]=some ((Zkk r3) r):=
 lpT (Zkk r3) fun s4 _ ih=>yB (yG fun x5 hx5=>
  Ze (Zk rfl hx5) (yC Zng fun x6 _=>
  yB (Zg rfl)
  (Zd (ih _))))
  (Zg rfl)
theorem Zsb {t0:Bool}{a:List Zj}:∀r,(ZiJ a)=some r->evD ctx 33 [(.d (D.list t0 (List.map (Zh2 true) a)))]=some (Zth r):=
 evT ZLr rfl rfl <| Zh (Zt _ _) (by
 conv=>rhs;whnf
 refine Zc _ (ZoN _) fun r3 _=>?_
 rcases r3 with r3 | r3
 exact yR
 exact Zh (Zt _ _) (by
 conv=>rhs;whnf
 refine Zc _ (ZoW _) fun r7 _=>?_
 rcases r7 with r7 | r7
 exact yR
 exact yR))
def Zvy (a:Int):Unit->V×Zm
  | r=>((.ch 0),[(.ch (ZdO a))])
theorem Zui {a:Int}:∀r,(Zkv a)=some r->evW ctx 34 [(zN a)] []=some ((Zvy a) r):=
 evS ZMh rfl rfl <| yBm yR
end
theorem Zi4 {a:Zf}:∀r,(ZfW a)=some r->evD ctx 28 [(.d (zK2 a.total a.long a.most a.deadline a.period))]=some (ZJ r):=
 evT ZKy rfl rfl <| yC Zjl fun x0 _=>
  yB ((by
 conv=>rhs;whnf
 refine yC Zqh fun x1 _=>?_
 rcases x1 with x1 | x1
 exact yC ZiZ fun x2 _=>
  yC Ze8 fun x3 _=>
  yBr yR
 exact yC Ze8 fun x4 _=>
  yC Ze8 fun x5 _=>
  yBr yR))
  yR
def Zu9 (b:Int) (mH:LI):(Unit⊕Unit)->V×Zm
  | (.inl r)=>((.d (D.tup [(zL true (List.take b.toNat mH)),(D.bool true)])),[(.ch (List.drop b.toNat mH))])
  | (.inr r)=>((.d (D.tup [(zL true ([]:LI)),(D.bool false)])),[(.ch ([]:LI))])
theorem Zuk {b:Int}{mH:LI}:∀r,(Zn8 b mH)=some r->evW ctx 35 [(.ch 0),(zN b)] [(.ch mH)]=some ((Zu9 b mH) r):=
 evS ZM6 rfl rfl <| yBm (yB (yT yR)
  (yF yR))
theorem Zs2 {a:Zf}:∀r,(Zds a)=some r->evD ctx 94 [(.d (zK2 a.total a.long a.most a.deadline a.period))]=some (ZJ r):=
 evT ZLi rfl rfl <| yC Zjl fun x0 _=>
  yBr (yC Zi4 fun x1 _=>
  yBr yR)
def Zb6 (t0:Bool) (a:List Zf):(Int⊕Unit)->Ex×List V×Zm
  | (.inl r)=>(.ret,[(zN r)],[])
  | (.inr r)=>(.exit 0,[.bad],[])
theorem Zez {t0:Bool}{a:List Zf}:∀s0 r,lp (ZaV a (fun z0=>Zds z0)) s0=some r->lpW ctx 0 [0,1,7,8] [4] ZCG [(zW t0 Zr a),(.d (D.fn 94 [])),(zN (a.length:Int)),(zN s0)] []=some ((Zb6 t0 a) r):=
 lpT (Zb6 t0 a) fun s0 _ ih=>yB (yG fun x1 _=>
  yC Zs2 fun x2 _=>
  yB (Zg rfl)
  (Zd (ih _)))
  (Zg rfl)
theorem Zfn {t0:Bool}{a:List Zf}:∀r,(ZcW a (fun z0=>Zds z0))=some r->evD ctx 121 [(zW t0 Zr a),(.d (D.fn 94 []))]=some (ZC r):=
 evT ZFa rfl rfl <| Zh (Zt _ _) (by
 conv=>rhs;whnf
 refine Zc _ (Zez _) fun r3 _=>?_
 rcases r3 with r3 | r3
 exact yR
 exact yR)
theorem Zeq {t0:Bool}{a:List Zf}:∀r,(Zbx a (fun z0=>Zds z0))=some r->evD ctx 95 [(zW t0 Zr a),(.d (D.fn 94 []))]=some (ZJ r):=
 evT ZKY rfl rfl <| yC Zfn fun x0 _=>
  yBr yR
theorem ZkO {t0:Bool}{a:List Zf}:∀r,(Zix a)=some r->evD ctx 64 [(zW t0 Zr a)]=some (ZC r):=
 evT ZKE rfl rfl <| Zh (Zt _ _) (yBr (yC Zeq fun x0 _=>
  yBr yR))
theorem Zti {a:Int}:∀r,(Zjz a)=some r->evD ctx 65 [(zN a)]=some (ZJ r):=
 evT ZLG rfl rfl <| yB (yBr yR)
  yR
theorem ZO {t0:Bool}{a b:Int}{c0:List Zf}:∀r,(ZE a b c0)=some r->evD ctx 97 [(zN a),(zN b),(.d (D.rptr [(zM t0 Zr c0)]))]=some (ZC r):=
 evT ZKT rfl rfl <| yG fun x0 hx0=>
  yG fun x1 hx1=>
  yBr (Ze (ZW rfl hx0) (Ze (ZW rfl hx1) (yBr yR)))
def Zav (t0:Bool) (b c:Int) (mH:LI) (mA:List Zf):LI->V×Zm
  | r=>((.d (D.tup [])),[(zA r),(.cells [(zW t0 Zr mA)])])
def ZbT (t0:Bool) (b c:Int) (mA:List Zf) (s0:Int×LI):LI->Ex×List V×Zm
  | r=>(.exit 2,[(.sl 0 1),(zN b),(zN c),(.fn 97 [(.ptr 1 0)]),(zN s0.1)],[(zA r),(.cells [(zW t0 Zr mA)])])
theorem ZdZ {t0:Bool}{b c:Int}{mA:List Zf}{s0:Int×LI}:∀s1 r,lp (Z4 b (fun z0 z1=>ZE z0 z1 mA)) s1=some r->lpW ctx 2 [0,1,2,3,8,9] [0,1,2,3,8] Zyq [(.sl 0 1),(zN b),(zN c),(.fn 97 [(.ptr 1 0)]),(zN s0.1),(zN s1.1)] [(zA s1.2),(.cells [(zW t0 Zr mA)])]=some ((ZbT t0 b c mA s0) r):=
 lpT (ZbT t0 b c mA s0) fun s1 _ ih=>yB (yG fun x2 hx2=>
  Ze (Zk rfl hx2) (yG fun x3 hx3=>
  Ze (Zk rfl hx3) (yC ZO fun x4 _=>
  yB (Ze (ZW rfl hx3) (Ze (Zk rfl hx3) (Ze (ZW rfl hx2) (Ze (Zk rfl hx2) (Ze (ZW rfl hx2) (Ze (Zk rfl hx2) (Zh (ZL Zn s1.2 s1.1.toNat x3) (yG fun x5 hx5=>
  Ze (Zk rfl hx5) (Zh (ZL Zn (List.set s1.2 s1.1.toNat x3) (w64 (s1.1-1)).toNat x2) (Zd (ih _)))))))))))
  (Zg rfl))))
  (Zg rfl)
def ZbV (t0:Bool) (b c:Int) (mA:List Zf):LI->Ex×List V×Zm
  | r=>(.exit 0,[],[(zA r),(.cells [(zW t0 Zr mA)])])
theorem Zd6 {t0:Bool}{b c:Int}{mA:List Zf}:∀s0 r,lp (Zat b c (fun z0 z1=>ZE z0 z1 mA)) s0=some r->lpW ctx 2 [0,1,2,3,8] [] ZyA [(.sl 0 1),(zN b),(zN c),(.fn 97 [(.ptr 1 0)]),(zN s0.1)] [(zA s0.2),(.cells [(zW t0 Zr mA)])]=some ((ZbV t0 b c mA) r):=
 lpT (ZbV t0 b c mA) fun s0 _ ih=>yB (Zc _ (ZdZ _) fun r6 _=>
  Zd (ih _))
  (Zg rfl)
theorem Zar {t0:Bool}{b c:Int}{mH:LI}{mA:List Zf}:∀r,(Z3 b c (fun z0 z1=>ZE z0 z1 mA) mH)=some r->evW ctx 145 [(.sl 0 1),(zN b),(zN c),(.fn 97 [(.ptr 1 0)])] [(zA mH),(.cells [(zW t0 Zr mA)])]=some ((Zav t0 b c mH mA) r):=
 evS ZCm rfl rfl <| Zc _ (Zd6 _) fun r7 _=>
  yR
def Zb (t0:Bool) (b c d:Int) (mH:LI) (mA:List Zf):LI->V×Zm
  | r=>((.d (D.tup [])),[(zA r),(.cells [(zW t0 Zr mA)])])
def Zcx (t0:Bool) (c d:Int) (mA:List Zf):(LI⊕LI)->Ex×List V×Zm
  | (.inl r)=>(.exit 0,[],[(zA r),(.cells [(zW t0 Zr mA)])])
  | (.inr r)=>(.ret,[],[(zA r),(.cells [(zW t0 Zr mA)])])
theorem Zfo {t0:Bool}{c d:Int}{mA:List Zf}:∀s0 r,lp (ZN c d (fun z0 z1=>ZE z0 z1 mA)) s0=some r->lpW ctx 2 [0,2,3,4,10] [] Zyg [(.sl 0 1),(zN c),(zN d),(.fn 97 [(.ptr 1 0)]),(zN s0.1)] [(zA s0.2),(.cells [(zW t0 Zr mA)])]=some ((Zcx t0 c d mA) r):=
 lpT (Zcx t0 c d mA) fun s0 _ ih=>yB (Zg rfl)
  (yB (yG fun x1 hx1=>
  Ze (Zk rfl hx1) (yG fun x2 hx2=>
  Ze (Zk rfl hx2) (yC ZO fun x3 _=>
  yB (yG fun x4 hx4=>
  Ze (Zk rfl hx4) (yG fun x5 hx5=>
  Ze (Zk rfl hx5) (yC ZO fun x6 _=>
  yB (Ze (ZW rfl hx5) (Ze (Zk rfl hx5) (Ze (ZW rfl hx4) (Ze (Zk rfl hx4) (Ze (ZW rfl hx4) (Ze (Zk rfl hx4) (Zh (ZL Zn s0.2 (w64 (d+s0.1)).toNat x5) (yG fun x7 hx7=>
  Ze (Zk rfl hx7) (Zh (ZL Zn (List.set s0.2 (w64 (d+s0.1)).toNat x5) (w64 (d+(w64 ((w64 ((w64 (2*s0.1))+1))+1)))).toNat x4) (Zd (ih _)))))))))))
  (Zg rfl))))
  (yG fun x8 hx8=>
  Ze (Zk rfl hx8) (Ze (ZW rfl hx1) (Ze (Zk rfl hx1) (yC ZO fun x9 _=>
  yB (Ze (ZW rfl hx1) (Ze (Zk rfl hx1) (Ze (ZW rfl hx8) (Ze (Zk rfl hx8) (Ze (ZW rfl hx8) (Ze (Zk rfl hx8) (Zh (ZL Zn s0.2 (w64 (d+s0.1)).toNat x1) (yG fun x10 hx10=>
  Ze (Zk rfl hx10) (Zh (ZL Zn (List.set s0.2 (w64 (d+s0.1)).toNat x1) (w64 (d+(w64 ((w64 (2*s0.1))+1)))).toNat x8) (Zd (ih _)))))))))))
  (Zg rfl))))))))
  (yG fun x11 hx11=>
  Ze (Zk rfl hx11) (yG fun x12 hx12=>
  Ze (Zk rfl hx12) (yC ZO fun x13 _=>
  yB (Ze (ZW rfl hx12) (Ze (Zk rfl hx12) (Ze (ZW rfl hx11) (Ze (Zk rfl hx11) (Ze (ZW rfl hx11) (Ze (Zk rfl hx11) (Zh (ZL Zn s0.2 (w64 (d+s0.1)).toNat x12) (yG fun x14 hx14=>
  Ze (Zk rfl hx14) (Zh (ZL Zn (List.set s0.2 (w64 (d+s0.1)).toNat x12) (w64 (d+(w64 ((w64 (2*s0.1))+1)))).toNat x11) (Zd (ih _)))))))))))
  (Zg rfl)))))
theorem ZcI {t0:Bool}{b c d:Int}{mH:LI}{mA:List Zf}:∀r,(ZaM b c d (fun z0 z1=>ZE z0 z1 mA) mH)=some r->evW ctx 160 [(.sl 0 1),(zN b),(zN c),(zN d),(.fn 97 [(.ptr 1 0)])] [(zA mH),(.cells [(zW t0 Zr mA)])]=some ((Zb t0 b c d mH mA) r):=
 evS ZCY rfl rfl <| (by
 conv=>rhs;whnf
 refine Zc _ (Zfo _) fun r15 _=>?_
 rcases r15 with r15 | r15
 exact yR
 exact yR)
def Zcq (t0:Bool) (b c:Int) (mA:List Zf):LI->Ex×List V×Zm
  | r=>(.exit 0,[(.sl 0 1),(.fn 97 [(.ptr 1 0)]),(zN b),(zN 0),(zN (w64 (c-b)))],[(zA r),(.cells [(zW t0 Zr mA)])])
theorem Zfp {t0:Bool}{b c:Int}{mA:List Zf}:∀s0 r,lp (ZaQ b c (fun z0 z1=>ZE z0 z1 mA)) s0=some r->lpW ctx 2 [0,3,8,9,10,11] [0,3,8,9,10] ZxW [(.sl 0 1),(.fn 97 [(.ptr 1 0)]),(zN b),(zN 0),(zN (w64 (c-b))),(zN s0.1)] [(zA s0.2),(.cells [(zW t0 Zr mA)])]=some ((Zcq t0 b c mA) r):=
 lpT (Zcq t0 b c mA) fun s0 _ ih=>yB (Zc _ ZcI fun x1 _=>
  Zd (ih _))
  (Zg rfl)
def Zcw (t0:Bool) (b:Int) (mA:List Zf):LI->Ex×List V×Zm
  | r=>(.exit 2,[],[(zA r),(.cells [(zW t0 Zr mA)])])
theorem Zfj {t0:Bool}{b:Int}{mA:List Zf}:∀s3 r,lp (ZaS b (fun z0 z1=>ZE z0 z1 mA)) s3=some r->lpW ctx 2 [0,3,8,9,12] [] ZxZ [(.sl 0 1),(.fn 97 [(.ptr 1 0)]),(zN b),(zN 0),(zN s3.1)] [(zA s3.2),(.cells [(zW t0 Zr mA)])]=some ((Zcw t0 b mA) r):=
 lpT (Zcw t0 b mA) fun s3 _ ih=>yB (yG fun x4 hx4=>
  Ze (Zk rfl hx4) (yG fun x5 hx5=>
  Ze (Zk rfl hx5) (Ze (ZW rfl hx5) (Ze (Zk rfl hx5) (Zh (ZL Zn s3.2 b.toNat x4) (yG fun x6 hx6=>
  Ze (Zk rfl hx6) (Zh (ZL Zn (List.set s3.2 b.toNat x4) (w64 (b+s3.1)).toNat x5) (Zc _ ZcI fun x7 _=>
  Zd (ih _)))))))))
  (Zg rfl)
theorem ZaF {t0:Bool}{b c:Int}{mH:LI}{mA:List Zf}:∀r,(Zaf b c (fun z0 z1=>ZE z0 z1 mA) mH)=some r->evW ctx 146 [(.sl 0 1),(zN b),(zN c),(.fn 97 [(.ptr 1 0)])] [(zA mH),(.cells [(zW t0 Zr mA)])]=some ((Zav t0 b c mH mA) r):=
 evS ZDj rfl rfl <| yF (Zc _ (Zfp _) fun r2 _=>
  Zc _ (Zfj _) fun r8 _=>
  yR)
def ZgM (t0:Bool) (b c:Int) (mH:LI) (mA:Int) (mJ:List Zf):(Int×Int×Int)->V×Zm
  | r=>((.d (D.tup [(Zn r.1),(Zn r.2.1)])),[(zA mH),(.cells [(zN r.2.2)]),(.cells [(zW t0 Zr mJ)])])
theorem ZbB {t0:Bool}{b c:Int}{mH:LI}{mA:Int}{mJ:List Zf}:∀r,(Za3 b c (fun z0 z1=>ZE z0 z1 mJ) mH mA)=some r->evW ctx 174 [(.sl 0 1),(zN b),(zN c),(.ptr 1 0),(.fn 97 [(.ptr 2 0)])] [(zA mH),(.cells [(zN mA)]),(.cells [(zW t0 Zr mJ)])]=some ((ZgM t0 b c mH mA mJ) r):=
 evS ZCX rfl rfl <| yG fun x0 hx0=>
  Ze (Zk rfl hx0) (yG fun x1 hx1=>
  Ze (Zk rfl hx1) (yC ZO fun x2 _=>
  yBr yR))
def ZgQ (t0:Bool) (b c d:Int) (mH:LI) (mA:Int) (mJ:List Zf):(Int×Int)->V×Zm
  | r=>((zN r.1),[(zA mH),(.cells [(zN r.2)]),(.cells [(zW t0 Zr mJ)])])
theorem ZbC {t0:Bool}{b c d:Int}{mH:LI}{mA:Int}{mJ:List Zf}:∀r,(Za2 b c d (fun z0 z1=>ZE z0 z1 mJ) mH mA)=some r->evW ctx 164 [(.sl 0 1),(zN b),(zN c),(zN d),(.ptr 1 0),(.fn 97 [(.ptr 2 0)])] [(zA mH),(.cells [(zN mA)]),(.cells [(zW t0 Zr mJ)])]=some ((ZgQ t0 b c d mH mA mJ) r):=
 evS ZDi rfl rfl <| Zc _ ZbB fun x0 _=>
  Zc _ ZbB fun x1 _=>
  Zc _ ZbB fun x2 _=>
  yR
def ZeM (t0:Bool) (b:Int) (mH:LI) (mA:Int) (mJ:List Zf):(Int×Int)->V×Zm
  | r=>((zN r.1),[(zA mH),(.cells [(zN r.2)]),(.cells [(zW t0 Zr mJ)])])
theorem ZaX {t0:Bool}{b:Int}{mH:LI}{mA:Int}{mJ:List Zf}:∀r,(Zah b (fun z0 z1=>ZE z0 z1 mJ) mH mA)=some r->evW ctx 163 [(.sl 0 1),(zN b),(.ptr 1 0),(.fn 97 [(.ptr 2 0)])] [(zA mH),(.cells [(zN mA)]),(.cells [(zW t0 Zr mJ)])]=some ((ZeM t0 b mH mA mJ) r):=
 evS ZDd rfl rfl <| Zc _ ZbC fun x0 _=>
  yR
def ZfO (t0:Bool) (b c:Int) (mH:LI) (mA:List Zf):(Int×Int)->V×Zm
  | r=>((.d (D.tup [(Zn r.1),(Zn r.2)])),[(zA mH),(.cells [(zW t0 Zr mA)])])
theorem Zaw {t0:Bool}{b c:Int}{mH:LI}{mA:List Zf}:∀r,(ZU b c (fun z0 z1=>ZE z0 z1 mA) mH)=some r->evW ctx 148 [(.sl 0 1),(zN b),(zN c),(.fn 97 [(.ptr 1 0)])] [(zA mH),(.cells [(zW t0 Zr mA)])]=some ((ZfO t0 b c mH mA) r):=
 evS ZC8 rfl rfl <| yF (yF (yF (yB (yB (Zc _ ZaX fun x0 _=>
  Zc _ ZaX fun x1 _=>
  Zc _ ZaX fun x2 _=>
  Zc _ ZbC fun x3 _=>
  yBr (yBr yR))
  (Zc _ ZbC fun x4 _=>
  yBr (yBr yR)))
  (yT yR))))
def Zb0 (t0:Bool) (mA:List Zf):LI->Ex×List V×Zm
  | r=>(.exit 0,[],[(zA r),(.cells [(zW t0 Zr mA)])])
theorem Zd9 {t0:Bool}{mA:List Zf}:∀s0 r,lp (Zac) s0=some r->lpW ctx 2 [0,8,9] [] ZyK [(.sl 0 1),(zN s0.1),(zN s0.2.1)] [(zA s0.2.2),(.cells [(zW t0 Zr mA)])]=some ((Zb0 t0 mA) r):=
 lpT (Zb0 t0 mA) fun s0 _ ih=>yB (yG fun x1 hx1=>
  Ze (Zk rfl hx1) (yG fun x2 hx2=>
  Ze (Zk rfl hx2) (Ze (ZW rfl hx2) (Ze (Zk rfl hx2) (Zh (ZL Zn s0.2.2 s0.1.toNat x1) (yG fun x3 hx3=>
  Ze (Zk rfl hx3) (Zh (ZL Zn (List.set s0.2.2 s0.1.toNat x1) s0.2.1.toNat x2) (Zd (ih _)))))))))
  (Zg rfl)
theorem Zau {t0:Bool}{b c:Int}{mH:LI}{mA:List Zf}:∀r,(ZR b c (fun z0 z1=>ZE z0 z1 mA) mH)=some r->evW ctx 149 [(.sl 0 1),(zN b),(zN c),(.fn 97 [(.ptr 1 0)])] [(zA mH),(.cells [(zW t0 Zr mA)])]=some ((Zav t0 b c mH mA) r):=
 evS ZDc rfl rfl <| Zc _ (Zd9 _) fun r4 _=>
  yR
def Zdz (t0:Bool) (b c:Int) (mH:LI) (mA:List Zf):(LI⊕LI)->V×Zm
  | (.inl r)=>((.d (D.bool true)),[(zA r),(.cells [(zW t0 Zr mA)])])
  | (.inr r)=>((.d (D.bool false)),[(zA r),(.cells [(zW t0 Zr mA)])])
def Zbr (t0:Bool) (b c:Int) (mA:List Zf) (s0:Int×Int×LI):Int->Ex×List V×Zm
  | r=>(.exit 2,[(.sl 0 1),(zN b),(zN c),(.fn 97 [(.ptr 1 0)]),(zN r),(zN s0.2.1)],[(zA s0.2.2),(.cells [(zW t0 Zr mA)])])
theorem Zc4 {t0:Bool}{b c:Int}{mA:List Zf}{s0:Int×Int×LI}:∀s1 r,lp (ZQ c (fun z0 z1=>ZE z0 z1 mA) s0) s1=some r->lpW ctx 2 [0,1,2,3,9,10] [0,1,2,3,9,10] ZyM [(.sl 0 1),(zN b),(zN c),(.fn 97 [(.ptr 1 0)]),(zN s1),(zN s0.2.1)] [(zA s0.2.2),(.cells [(zW t0 Zr mA)])]=some ((Zbr t0 b c mA s0) r):=
 lpT (Zbr t0 b c mA s0) fun s1 _ ih=>yB (yG fun x2 hx2=>
  Ze (Zk rfl hx2) (yG fun x3 hx3=>
  Ze (Zk rfl hx3) (yC ZO fun x4 _=>
  yB (Zg rfl)
  (Zd (ih _)))))
  (Zg rfl)
def Zbo (t0:Bool) (b c:Int) (mA:List Zf) (s0:Int×Int×LI) (r5:Int):LI->Ex×List V×Zm
  | r=>(.exit 4,[(.sl 0 1),(zN b),(zN c),(.fn 97 [(.ptr 1 0)]),(zN r5),(zN s0.2.1)],[(zA r),(.cells [(zW t0 Zr mA)])])
theorem Zc5 {t0:Bool}{b c:Int}{mA:List Zf}{s0:Int×Int×LI}{r5:Int}:∀s9 r,lp (Z0 (fun z0 z1=>ZE z0 z1 mA)) s9=some r->lpW ctx 2 [0,1,2,3,9,10,11] [0,1,2,3,9,10] Zya [(.sl 0 1),(zN b),(zN c),(.fn 97 [(.ptr 1 0)]),(zN r5),(zN s0.2.1),(zN s9.1)] [(zA s9.2),(.cells [(zW t0 Zr mA)])]=some ((Zbo t0 b c mA s0 r5) r):=
 lpT (Zbo t0 b c mA s0 r5) fun s9 _ ih=>yB (yG fun x10 hx10=>
  Ze (Zk rfl hx10) (yG fun x11 hx11=>
  Ze (Zk rfl hx11) (yC ZO fun x12 _=>
  yB (Ze (ZW rfl hx11) (Ze (Zk rfl hx11) (Ze (ZW rfl hx10) (Ze (Zk rfl hx10) (Ze (ZW rfl hx10) (Ze (Zk rfl hx10) (Zh (ZL Zn s9.2 s9.1.toNat x11) (yG fun x13 hx13=>
  Ze (Zk rfl hx13) (Zh (ZL Zn (List.set s9.2 s9.1.toNat x11) (w64 (s9.1-1)).toNat x10) (Zd (ih _)))))))))))
  (Zg rfl))))
  (Zg rfl)
def Zbs (t0:Bool) (b c:Int) (mA:List Zf) (s0:Int×Int×LI) (r5:Int):LI->Ex×List V×Zm
  | r=>(.exit 6,[(.sl 0 1),(zN b),(zN c),(.fn 97 [(.ptr 1 0)]),(zN r5),(zN s0.2.1)],[(zA r),(.cells [(zW t0 Zr mA)])])
theorem Zbk {t0:Bool}{b c:Int}{mA:List Zf}{s0:Int×Int×LI}{r5:Int}:∀s15 r,lp (ZM c (fun z0 z1=>ZE z0 z1 mA)) s15=some r->lpW ctx 2 [0,1,2,3,9,10,12] [0,1,2,3,9,10] ZxO [(.sl 0 1),(zN b),(zN c),(.fn 97 [(.ptr 1 0)]),(zN r5),(zN s0.2.1),(zN s15.1)] [(zA s15.2),(.cells [(zW t0 Zr mA)])]=some ((Zbs t0 b c mA s0 r5) r):=
 lpT (Zbs t0 b c mA s0 r5) fun s15 _ ih=>yB (yG fun x16 hx16=>
  Ze (Zk rfl hx16) (yG fun x17 hx17=>
  Ze (Zk rfl hx17) (yC ZO fun x18 _=>
  yB (Ze (ZW rfl hx17) (Ze (Zk rfl hx17) (Ze (ZW rfl hx16) (Ze (Zk rfl hx16) (Ze (ZW rfl hx16) (Ze (Zk rfl hx16) (Zh (ZL Zn s15.2 s15.1.toNat x17) (yG fun x19 hx19=>
  Ze (Zk rfl hx19) (Zh (ZL Zn (List.set s15.2 s15.1.toNat x17) (w64 (s15.1-1)).toNat x16) (Zd (ih _)))))))))))
  (Zg rfl))))
  (Zg rfl)
def Zbn (t0:Bool) (b c:Int) (mA:List Zf):(LI⊕(LI⊕LI))->Ex×List V×Zm
  | (.inl r)=>(.ret,[(.d (D.bool true))],[(zA r),(.cells [(zW t0 Zr mA)])])
  | (.inr (.inl r))=>(.ret,[(.d (D.bool false))],[(zA r),(.cells [(zW t0 Zr mA)])])
  | (.inr (.inr r))=>(.exit 0,[.bad],[(zA r),(.cells [(zW t0 Zr mA)])])
theorem Zc6 {t0:Bool}{b c:Int}{mA:List Zf}:∀s0 r,lp (ZZ b c (fun z0 z1=>ZE z0 z1 mA)) s0=some r->lpW ctx 2 [0,1,2,3,9,10] [8] Zyx [(.sl 0 1),(zN b),(zN c),(.fn 97 [(.ptr 1 0)]),(zN s0.1),(zN s0.2.1)] [(zA s0.2.2),(.cells [(zW t0 Zr mA)])]=some ((Zbn t0 b c mA) r):=
 lpT (Zbn t0 b c mA) fun s0 _ ih=>yB (Zc _ (Zc4 _) fun r5 _=>
  yB (Zg rfl)
  (yB (Zg rfl)
  (yG fun x6 hx6=>
  Ze (Zk rfl hx6) (yG fun x7 hx7=>
  Ze (Zk rfl hx7) (Ze (ZW rfl hx7) (Ze (Zk rfl hx7) (Zh (ZL Zn s0.2.2 r5.toNat x6) (yG fun x8 hx8=>
  Ze (Zk rfl hx8) (Zh (ZL Zn (List.set s0.2.2 r5.toNat x6) (w64 (r5-1)).toNat x7) (yB (Zc _ (Zc5 _) fun r14 _=>
  yB (Zc _ (Zbk _) fun r20 _=>
  Zd (ih _))
  (Zd (ih _)))
  (yB (Zc _ (Zbk _) fun r26 _=>
  Zd (ih _))
  (Zd (ih _)))))))))))))
  (Zg rfl)
theorem ZbA {t0:Bool}{b c:Int}{mH:LI}{mA:List Zf}:∀r,(ZX b c (fun z0 z1=>ZE z0 z1 mA) mH)=some r->evW ctx 150 [(.sl 0 1),(zN b),(zN c),(.fn 97 [(.ptr 1 0)])] [(zA mH),(.cells [(zW t0 Zr mA)])]=some ((Zdz t0 b c mH mA) r):=
 evS ZCa rfl rfl <| (by
 conv=>rhs;whnf
 refine Zc _ (Zc6 _) fun r27 _=>?_
 rcases r27 with r27 | (r27 | r27)
 exact yR
 exact yR
 exact yR)
def Zf4 (t0:Bool) (b c d:Int) (mH:LI) (mA:List Zf):((Int×LI)⊕(Int×LI))->V×Zm
  | (.inl r)=>((.d (D.tup [(Zn r.1),(D.bool true)])),[(zA r.2),(.cells [(zW t0 Zr mA)])])
  | (.inr r)=>((.d (D.tup [(Zn r.1),(D.bool false)])),[(zA r.2),(.cells [(zW t0 Zr mA)])])
def Zcm (t0:Bool) (b c d:Int) (mH:LI) (mA:List Zf) (x0 x1:Int):Int->Ex×List V×Zm
  | r=>(.exit 0,[(.sl 0 1),(zN b),(.fn 97 [(.ptr 1 0)]),(zN r),(zN (w64 (c-1)))],[(zA (List.set (List.set mH b.toNat x0) d.toNat x1)),(.cells [(zW t0 Zr mA)])])
theorem Zff {t0:Bool}{b c d:Int}{mH:LI}{mA:List Zf}{x0 x1:Int}:∀s3 r,lp (ZaK b c d mH (fun z0 z1=>ZE z0 z1 mA) x0 x1) s3=some r->lpW ctx 2 [0,1,4,12,13] [0,1,4,12,13] ZyI [(.sl 0 1),(zN b),(.fn 97 [(.ptr 1 0)]),(zN s3),(zN (w64 (c-1)))] [(zA (List.set (List.set mH b.toNat x0) d.toNat x1)),(.cells [(zW t0 Zr mA)])]=some ((Zcm t0 b c d mH mA x0 x1) r):=
 lpT (Zcm t0 b c d mH mA x0 x1) fun s3 _ ih=>yB (yG fun x4 hx4=>
  Ze (Zk rfl hx4) (yG fun x5 hx5=>
  Ze (Zk rfl hx5) (yC ZO fun x6 _=>
  yB (Zd (ih _))
  (Zg rfl))))
  (Zg rfl)
def Zcl (t0:Bool) (b d:Int) (mH:LI) (mA:List Zf) (x0 x1 r7:Int):Int->Ex×List V×Zm
  | r=>(.exit 2,[(.sl 0 1),(zN b),(.fn 97 [(.ptr 1 0)]),(zN r7),(zN r)],[(zA (List.set (List.set mH b.toNat x0) d.toNat x1)),(.cells [(zW t0 Zr mA)])])
theorem Zfb {t0:Bool}{b d:Int}{mH:LI}{mA:List Zf}{x0 x1 r7:Int}:∀s8 r,lp (ZaJ b d mH (fun z0 z1=>ZE z0 z1 mA) x0 x1 r7) s8=some r->lpW ctx 2 [0,1,4,12,13] [0,1,4,12,13] Zx4 [(.sl 0 1),(zN b),(.fn 97 [(.ptr 1 0)]),(zN r7),(zN s8)] [(zA (List.set (List.set mH b.toNat x0) d.toNat x1)),(.cells [(zW t0 Zr mA)])]=some ((Zcl t0 b d mH mA x0 x1 r7) r):=
 lpT (Zcl t0 b d mH mA x0 x1 r7) fun s8 _ ih=>yB (yG fun x9 hx9=>
  Ze (Zk rfl hx9) (yG fun x10 hx10=>
  Ze (Zk rfl hx10) (yC ZO fun x11 _=>
  yB (Zg rfl)
  (Zd (ih _)))))
  (Zg rfl)
def Zco (t0:Bool) (b:Int) (mA:List Zf) (s19:Int×Int×LI):Int->Ex×List V×Zm
  | r=>(.exit 6,[(.sl 0 1),(zN b),(.fn 97 [(.ptr 1 0)]),(zN r),(zN s19.2.1)],[(zA s19.2.2),(.cells [(zW t0 Zr mA)])])
theorem Zfa {t0:Bool}{b:Int}{mA:List Zf}{s19:Int×Int×LI}:∀s20 r,lp (ZaL b (fun z0 z1=>ZE z0 z1 mA) s19) s20=some r->lpW ctx 2 [0,1,4,12,13] [0,1,4,12,13] ZxT [(.sl 0 1),(zN b),(.fn 97 [(.ptr 1 0)]),(zN s20),(zN s19.2.1)] [(zA s19.2.2),(.cells [(zW t0 Zr mA)])]=some ((Zco t0 b mA s19) r):=
 lpT (Zco t0 b mA s19) fun s20 _ ih=>yB (yG fun x21 hx21=>
  Ze (Zk rfl hx21) (yG fun x22 hx22=>
  Ze (Zk rfl hx22) (yC ZO fun x23 _=>
  yB (Zd (ih _))
  (Zg rfl))))
  (Zg rfl)
def Zcn (t0:Bool) (b:Int) (mA:List Zf) (s19:Int×Int×LI) (r24:Int):Int->Ex×List V×Zm
  | r=>(.exit 8,[(.sl 0 1),(zN b),(.fn 97 [(.ptr 1 0)]),(zN r24),(zN r)],[(zA s19.2.2),(.cells [(zW t0 Zr mA)])])
theorem Ze9 {t0:Bool}{b:Int}{mA:List Zf}{s19:Int×Int×LI}{r24:Int}:∀s25 r,lp (ZaH b (fun z0 z1=>ZE z0 z1 mA) s19 r24) s25=some r->lpW ctx 2 [0,1,4,12,13] [0,1,4,12,13] ZyP [(.sl 0 1),(zN b),(.fn 97 [(.ptr 1 0)]),(zN r24),(zN s25)] [(zA s19.2.2),(.cells [(zW t0 Zr mA)])]=some ((Zcn t0 b mA s19 r24) r):=
 lpT (Zcn t0 b mA s19 r24) fun s25 _ ih=>yB (yG fun x26 hx26=>
  Ze (Zk rfl hx26) (yG fun x27 hx27=>
  Ze (Zk rfl hx27) (yC ZO fun x28 _=>
  yB (Zg rfl)
  (Zd (ih _)))))
  (Zg rfl)
def Zci (t0:Bool) (b:Int) (mA:List Zf):(Int×LI)->Ex×List V×Zm
  | r=>(.exit 4,[(.sl 0 1),(zN b),(zN r.1)],[(zA r.2),(.cells [(zW t0 Zr mA)])])
theorem Zfd {t0:Bool}{b:Int}{mA:List Zf}:∀s19 r,lp (Za9 b (fun z0 z1=>ZE z0 z1 mA)) s19=some r->lpW ctx 2 [0,1,4,12,13] [0,1,13] Zyr [(.sl 0 1),(zN b),(.fn 97 [(.ptr 1 0)]),(zN s19.1),(zN s19.2.1)] [(zA s19.2.2),(.cells [(zW t0 Zr mA)])]=some ((Zci t0 b mA) r):=
 lpT (Zci t0 b mA) fun s19 _ ih=>Zc _ (Zfa _) fun r24 _=>
  Zc _ (Ze9 _) fun r29 _=>
  yB (Zg rfl)
  (yG fun x30 hx30=>
  Ze (Zk rfl hx30) (yG fun x31 hx31=>
  Ze (Zk rfl hx31) (Ze (ZW rfl hx31) (Ze (Zk rfl hx31) (Zh (ZL Zn s19.2.2 r24.toNat x30) (yG fun x32 hx32=>
  Ze (Zk rfl hx32) (Zh (ZL Zn (List.set s19.2.2 r24.toNat x30) r29.toNat x31) (Zd (ih _)))))))))
theorem Zq {t0:Bool}{b c d:Int}{mH:LI}{mA:List Zf}:∀r,(Zu b c d (fun z0 z1=>ZE z0 z1 mA) mH)=some r->evW ctx 152 [(.sl 0 1),(zN b),(zN c),(zN d),(.fn 97 [(.ptr 1 0)])] [(zA mH),(.cells [(zW t0 Zr mA)])]=some ((Zf4 t0 b c d mH mA) r):=
 evS ZCD rfl rfl <| yG fun x0 hx0=>
  Ze (Zk rfl hx0) (yG fun x1 hx1=>
  Ze (Zk rfl hx1) (Ze (ZW rfl hx1) (Ze (Zk rfl hx1) (Zh (ZL Zn mH b.toNat x0) (yG fun x2 hx2=>
  Ze (Zk rfl hx2) (Zh (ZL Zn (List.set mH b.toNat x0) d.toNat x1) (Zc _ (Zff _) fun r7 _=>
  Zc _ (Zfb _) fun r12 _=>
  yB (yG fun x13 hx13=>
  Ze (Zk rfl hx13) (yG fun x14 hx14=>
  Ze (Zk rfl hx14) (Ze (ZW rfl hx14) (Ze (Zk rfl hx14) (Zh (ZL Zn (List.set (List.set mH b.toNat x0) d.toNat x1) r12.toNat x13) (yG fun x15 hx15=>
  Ze (Zk rfl hx15) (Zh (ZL Zn (List.set (List.set (List.set mH b.toNat x0) d.toNat x1) r12.toNat x13) b.toNat x14) yR)))))))
  (yG fun x16 hx16=>
  Ze (Zk rfl hx16) (yG fun x17 hx17=>
  Ze (Zk rfl hx17) (Ze (ZW rfl hx17) (Ze (Zk rfl hx17) (Zh (ZL Zn (List.set (List.set mH b.toNat x0) d.toNat x1) r7.toNat x16) (yG fun x18 hx18=>
  Ze (Zk rfl hx18) (Zh (ZL Zn (List.set (List.set (List.set mH b.toNat x0) d.toNat x1) r7.toNat x16) r12.toNat x17) (Zc _ (Zfd _) fun r33 _=>
  yG fun x34 hx34=>
  Ze (Zk rfl hx34) (yG fun x35 hx35=>
  Ze (Zk rfl hx35) (Ze (ZW rfl hx35) (Ze (Zk rfl hx35) (Zh (ZL Zn r33.2 r33.1.toNat x34) (yG fun x36 hx36=>
  Ze (Zk rfl hx36) (Zh (ZL Zn (List.set r33.2 r33.1.toNat x34) b.toNat x35) yR)))))))))))))))))))))
def ZeQ (t0:Bool) (b c d:Int) (mH:LI) (mA:List Zf):(Int×LI)->V×Zm
  | r=>((zN r.1),[(zA r.2),(.cells [(zW t0 Zr mA)])])
def ZbQ (t0:Bool) (b:Int) (mA:List Zf) (s3:Int×Int×LI):Int->Ex×List V×Zm
  | r=>(.exit 2,[(.sl 0 1),(zN b),(.fn 97 [(.ptr 1 0)]),(zN r),(zN s3.2.1)],[(zA s3.2.2),(.cells [(zW t0 Zr mA)])])
theorem ZdW {t0:Bool}{b:Int}{mA:List Zf}{s3:Int×Int×LI}:∀s4 r,lp (Zal b (fun z0 z1=>ZE z0 z1 mA) s3) s4=some r->lpW ctx 2 [0,1,4,11,12] [0,1,4,11,12] ZyX [(.sl 0 1),(zN b),(.fn 97 [(.ptr 1 0)]),(zN s4),(zN s3.2.1)] [(zA s3.2.2),(.cells [(zW t0 Zr mA)])]=some ((ZbQ t0 b mA s3) r):=
 lpT (ZbQ t0 b mA s3) fun s4 _ ih=>yB (yG fun x5 hx5=>
  Ze (Zk rfl hx5) (yG fun x6 hx6=>
  Ze (Zk rfl hx6) (yC ZO fun x7 _=>
  yB (Zg rfl)
  (Zd (ih _)))))
  (Zg rfl)
def ZbR (t0:Bool) (b:Int) (mA:List Zf) (s3:Int×Int×LI) (r8:Int):Int->Ex×List V×Zm
  | r=>(.exit 4,[(.sl 0 1),(zN b),(.fn 97 [(.ptr 1 0)]),(zN r8),(zN r)],[(zA s3.2.2),(.cells [(zW t0 Zr mA)])])
theorem ZdV {t0:Bool}{b:Int}{mA:List Zf}{s3:Int×Int×LI}{r8:Int}:∀s9 r,lp (Zam b (fun z0 z1=>ZE z0 z1 mA) s3 r8) s9=some r->lpW ctx 2 [0,1,4,11,12] [0,1,4,11,12] Zyn [(.sl 0 1),(zN b),(.fn 97 [(.ptr 1 0)]),(zN r8),(zN s9)] [(zA s3.2.2),(.cells [(zW t0 Zr mA)])]=some ((ZbR t0 b mA s3 r8) r):=
 lpT (ZbR t0 b mA s3 r8) fun s9 _ ih=>yB (yG fun x10 hx10=>
  Ze (Zk rfl hx10) (yG fun x11 hx11=>
  Ze (Zk rfl hx11) (yC ZO fun x12 _=>
  yB (Zd (ih _))
  (Zg rfl))))
  (Zg rfl)
def ZbO (t0:Bool) (b:Int) (mA:List Zf):(Int×LI)->Ex×List V×Zm
  | r=>(.exit 0,[(zN r.1)],[(zA r.2),(.cells [(zW t0 Zr mA)])])
theorem ZdQ {t0:Bool}{b:Int}{mA:List Zf}:∀s3 r,lp (ZaI b (fun z0 z1=>ZE z0 z1 mA)) s3=some r->lpW ctx 2 [0,1,4,11,12] [11] Zyy [(.sl 0 1),(zN b),(.fn 97 [(.ptr 1 0)]),(zN s3.1),(zN s3.2.1)] [(zA s3.2.2),(.cells [(zW t0 Zr mA)])]=some ((ZbO t0 b mA) r):=
 lpT (ZbO t0 b mA) fun s3 _ ih=>Zc _ (ZdW _) fun r8 _=>
  Zc _ (ZdV _) fun r13 _=>
  yB (Zg rfl)
  (yG fun x14 hx14=>
  Ze (Zk rfl hx14) (yG fun x15 hx15=>
  Ze (Zk rfl hx15) (Ze (ZW rfl hx15) (Ze (Zk rfl hx15) (Zh (ZL Zn s3.2.2 r8.toNat x14) (yG fun x16 hx16=>
  Ze (Zk rfl hx16) (Zh (ZL Zn (List.set s3.2.2 r8.toNat x14) r13.toNat x15) (Zd (ih _)))))))))
theorem ZF {t0:Bool}{b c d:Int}{mH:LI}{mA:List Zf}:∀r,(ZG b c d (fun z0 z1=>ZE z0 z1 mA) mH)=some r->evW ctx 151 [(.sl 0 1),(zN b),(zN c),(zN d),(.fn 97 [(.ptr 1 0)])] [(zA mH),(.cells [(zW t0 Zr mA)])]=some ((ZeQ t0 b c d mH mA) r):=
 evS ZCI rfl rfl <| yG fun x0 hx0=>
  Ze (Zk rfl hx0) (yG fun x1 hx1=>
  Ze (Zk rfl hx1) (Ze (ZW rfl hx1) (Ze (Zk rfl hx1) (Zh (ZL Zn mH b.toNat x0) (yG fun x2 hx2=>
  Ze (Zk rfl hx2) (Zh (ZL Zn (List.set mH b.toNat x0) d.toNat x1) (Zc _ (ZdQ _) fun r17 _=>
  yR)))))))
def ZbU (t0:Bool) (b c:Int) (mA:List Zf) (x0:Int):LI->Ex×List V×Zm
  | r=>(.exit 0,[],[(zA r),(.cells [(zW t0 Zr mA)])])
theorem Zd2 {t0:Bool}{b c:Int}{mA:List Zf}{x0:Int}:∀s1 r,lp (ZaP b c x0) s1=some r->lpW ctx 2 [0,1,8,9,10,11] [] ZxK [(.sl 0 1),(zN b),(zN (w64 (c-b))),(.ptr 2 0),(.d (D.int .u64 x0)),(zN s1.1)] [(zA s1.2.1),(.cells [(zW t0 Zr mA)]),(.cells [(.d (D.int .u64 s1.2.2))])]=some ((ZbU t0 b c mA x0) r):=
 lpT (ZbU t0 b c mA x0) fun s1 _ ih=>yF (yB (Zc _ ZhW fun x2 _=>
  yB (yG fun x3 hx3=>
  Ze (Zk rfl hx3) (yG fun x4 hx4=>
  Ze (Zk rfl hx4) (Ze (ZW rfl hx4) (Ze (Zk rfl hx4) (Zh (ZL Zn s1.2.1 s1.1.toNat x3) (yG fun x5 hx5=>
  Ze (Zk rfl hx5) (Zh (ZL Zn (List.set s1.2.1 s1.1.toNat x3) (w64 (b+(w64 ((w64 (u64.wrap (Zs (u64.wrap (Zs (u64.wrap (Zs (u64.wrap (Zs s1.2.2 ^^^ Zs (u64.wrap (s1.2.2*2 ^ 13))).toNat) ^^^ Zs (Int.fdiv (u64.wrap (Zs s1.2.2 ^^^ Zs (u64.wrap (s1.2.2*2 ^ 13))).toNat) (2 ^ 7))).toNat) ^^^ Zs (u64.wrap ((u64.wrap (Zs (u64.wrap (Zs s1.2.2 ^^^ Zs (u64.wrap (s1.2.2*2 ^ 13))).toNat) ^^^ Zs (Int.fdiv (u64.wrap (Zs s1.2.2 ^^^ Zs (u64.wrap (s1.2.2*2 ^ 13))).toNat) (2 ^ 7))).toNat)*2 ^ 17))).toNat) &&& Zs (u64.wrap (x0-1))).toNat))-(w64 (c-b)))))).toNat x4) (Zd (ih _)))))))))
  (yG fun x6 hx6=>
  Ze (Zk rfl hx6) (yG fun x7 hx7=>
  Ze (Zk rfl hx7) (Ze (ZW rfl hx7) (Ze (Zk rfl hx7) (Zh (ZL Zn s1.2.1 s1.1.toNat x6) (yG fun x8 hx8=>
  Ze (Zk rfl hx8) (Zh (ZL Zn (List.set s1.2.1 s1.1.toNat x6) (w64 (b+(w64 (u64.wrap (Zs (u64.wrap (Zs (u64.wrap (Zs (u64.wrap (Zs s1.2.2 ^^^ Zs (u64.wrap (s1.2.2*2 ^ 13))).toNat) ^^^ Zs (Int.fdiv (u64.wrap (Zs s1.2.2 ^^^ Zs (u64.wrap (s1.2.2*2 ^ 13))).toNat) (2 ^ 7))).toNat) ^^^ Zs (u64.wrap ((u64.wrap (Zs (u64.wrap (Zs s1.2.2 ^^^ Zs (u64.wrap (s1.2.2*2 ^ 13))).toNat) ^^^ Zs (Int.fdiv (u64.wrap (Zs s1.2.2 ^^^ Zs (u64.wrap (s1.2.2*2 ^ 13))).toNat) (2 ^ 7))).toNat)*2 ^ 17))).toNat) &&& Zs (u64.wrap (x0-1))).toNat)))).toNat x7) (Zd (ih _))))))))))
  (Zg rfl))
theorem Zb2 {t0:Bool}{b c:Int}{mH:LI}{mA:List Zf}:∀r,(Zaj b c (fun z0 z1=>ZE z0 z1 mA) mH)=some r->evW ctx 147 [(.sl 0 1),(zN b),(zN c),(.fn 97 [(.ptr 1 0)])] [(zA mH),(.cells [(zW t0 Zr mA)])]=some ((Zav t0 b c mH mA) r):=
 evS ZCw rfl rfl <| yB (yC Zht fun x0 _=>
  yF (Zc _ (Zd2 _) fun r9 _=>
  yR))
  yR
def ZcD (t0:Bool) (mA:List Zf) (rc:Int->Int->Int->(Int->Int->Option Int)->LI->Option LI):LI->Ex×List V×Zm
  | r=>(.ret,[],[(zA r),(.cells [(zW t0 Zr mA)])])
theorem ZfQ {t0:Bool}{mA:List Zf}{rc:Int->Int->Int->(Int->Int->Option Int)->LI->Option LI} (hrc:∀(t0:Bool) (b:Int) (c:Int) (d:Int) (mH:LI) (mA:List Zf) (r:LI),rc b c d (fun z0 z1=>ZE z0 z1 mA) mH=some r->evW ctx 122 [(.sl 0 1),(zN b),(zN c),(zN d),(.fn 97 [(.ptr 1 0)])] [(zA mH),(.cells [(zW t0 Zr mA)])]=some ((Zb t0 b c d mH mA) r)):∀s0 r,lp (ZD (fun z0 z1=>ZE z0 z1 mA) rc) s0=some r->lpW ctx 2 [0,1,2,3,4,10,11] [] ZyH [(.sl 0 1),(zN s0.1),(zN s0.2.1),(zN s0.2.2.1),(.fn 97 [(.ptr 1 0)]),(.d (D.bool s0.2.2.2.1)),(.d (D.bool s0.2.2.2.2.1))] [(zA s0.2.2.2.2.2),(.cells [(zW t0 Zr mA)])]=some ((ZcD t0 mA rc) r):=
 lpT (ZcD t0 mA rc) fun s0 _ ih=>(by
 try unfold ZD
 rcases hb:s0.2.2.2.1 with _ | _
 exact Ztl (by
 try unfold ZD
 rcases hb:s0.2.2.2.2.1 with _ | _
 exact Ztl (yB (Zc _ Zar fun x170 _=>
  Zg rfl)
  (yB (Zc _ ZaF fun x171 _=>
  Zg rfl)
  (Zc _ Zb2 fun x172 _=>
  Zc _ Zaw fun x173 _=>
  yB (Zc _ Zau fun x174 _=>
  yB (yG fun x175 hx175=>
  Ze (Zk rfl hx175) (yG fun x176 hx176=>
  Ze (Zk rfl hx176) (yC ZO fun x177 _=>
  yB ((by
 conv=>rhs;whnf
 refine Zc _ Zq fun x178 _=>?_
 rcases x178 with x178 | x178
 exact yT (yF (yB (yB (Zc (Zb t0 s0.1 x178.1 (w64 (s0.2.2.1-1)) x178.2 mA) (hrc t0 s0.1 x178.1 (w64 (s0.2.2.1-1)) x178.2 mA) fun x179 _=>
  Zd (ih _))
  (Zc (Zb t0 s0.1 x178.1 (w64 (s0.2.2.1-1)) x178.2 mA) (hrc t0 s0.1 x178.1 (w64 (s0.2.2.1-1)) x178.2 mA) fun x180 _=>
  Zd (ih _)))
  (yB (Zc (Zb t0 (w64 (x178.1+1)) s0.2.1 (w64 (s0.2.2.1-1)) x178.2 mA) (hrc t0 (w64 (x178.1+1)) s0.2.1 (w64 (s0.2.2.1-1)) x178.2 mA) fun x181 _=>
  Zd (ih _))
  (Zc (Zb t0 (w64 (x178.1+1)) s0.2.1 (w64 (s0.2.2.1-1)) x178.2 mA) (hrc t0 (w64 (x178.1+1)) s0.2.1 (w64 (s0.2.2.1-1)) x178.2 mA) fun x182 _=>
  Zd (ih _)))))
 exact yF (yF (yB (yB (Zc (Zb t0 s0.1 x178.1 (w64 (s0.2.2.1-1)) x178.2 mA) (hrc t0 s0.1 x178.1 (w64 (s0.2.2.1-1)) x178.2 mA) fun x183 _=>
  Zd (ih _))
  (Zc (Zb t0 s0.1 x178.1 (w64 (s0.2.2.1-1)) x178.2 mA) (hrc t0 s0.1 x178.1 (w64 (s0.2.2.1-1)) x178.2 mA) fun x184 _=>
  Zd (ih _)))
  (yB (Zc (Zb t0 (w64 (x178.1+1)) s0.2.1 (w64 (s0.2.2.1-1)) x178.2 mA) (hrc t0 (w64 (x178.1+1)) s0.2.1 (w64 (s0.2.2.1-1)) x178.2 mA) fun x185 _=>
  Zd (ih _))
  (Zc (Zb t0 (w64 (x178.1+1)) s0.2.1 (w64 (s0.2.2.1-1)) x178.2 mA) (hrc t0 (w64 (x178.1+1)) s0.2.1 (w64 (s0.2.2.1-1)) x178.2 mA) fun x186 _=>
  Zd (ih _)))))))
  (Zc _ ZF fun x187 _=>
  Zd (ih _)))))
  (by
 conv=>rhs;whnf
 refine Zc _ Zq fun x188 _=>?_
 rcases x188 with x188 | x188
 exact yT (yF (yB (yB (Zc (Zb t0 s0.1 x188.1 (w64 (s0.2.2.1-1)) x188.2 mA) (hrc t0 s0.1 x188.1 (w64 (s0.2.2.1-1)) x188.2 mA) fun x189 _=>
  Zd (ih _))
  (Zc (Zb t0 s0.1 x188.1 (w64 (s0.2.2.1-1)) x188.2 mA) (hrc t0 s0.1 x188.1 (w64 (s0.2.2.1-1)) x188.2 mA) fun x190 _=>
  Zd (ih _)))
  (yB (Zc (Zb t0 (w64 (x188.1+1)) s0.2.1 (w64 (s0.2.2.1-1)) x188.2 mA) (hrc t0 (w64 (x188.1+1)) s0.2.1 (w64 (s0.2.2.1-1)) x188.2 mA) fun x191 _=>
  Zd (ih _))
  (Zc (Zb t0 (w64 (x188.1+1)) s0.2.1 (w64 (s0.2.2.1-1)) x188.2 mA) (hrc t0 (w64 (x188.1+1)) s0.2.1 (w64 (s0.2.2.1-1)) x188.2 mA) fun x192 _=>
  Zd (ih _)))))
 exact yF (yF (yB (yB (Zc (Zb t0 s0.1 x188.1 (w64 (s0.2.2.1-1)) x188.2 mA) (hrc t0 s0.1 x188.1 (w64 (s0.2.2.1-1)) x188.2 mA) fun x193 _=>
  Zd (ih _))
  (Zc (Zb t0 s0.1 x188.1 (w64 (s0.2.2.1-1)) x188.2 mA) (hrc t0 s0.1 x188.1 (w64 (s0.2.2.1-1)) x188.2 mA) fun x194 _=>
  Zd (ih _)))
  (yB (Zc (Zb t0 (w64 (x188.1+1)) s0.2.1 (w64 (s0.2.2.1-1)) x188.2 mA) (hrc t0 (w64 (x188.1+1)) s0.2.1 (w64 (s0.2.2.1-1)) x188.2 mA) fun x195 _=>
  Zd (ih _))
  (Zc (Zb t0 (w64 (x188.1+1)) s0.2.1 (w64 (s0.2.2.1-1)) x188.2 mA) (hrc t0 (w64 (x188.1+1)) s0.2.1 (w64 (s0.2.2.1-1)) x188.2 mA) fun x196 _=>
  Zd (ih _)))))))
  (yB (yG fun x197 hx197=>
  Ze (Zk rfl hx197) (yG fun x198 hx198=>
  Ze (Zk rfl hx198) (yC ZO fun x199 _=>
  yB ((by
 conv=>rhs;whnf
 refine Zc _ Zq fun x200 _=>?_
 rcases x200 with x200 | x200
 exact yT (yF (yB (yB (Zc (Zb t0 s0.1 x200.1 (w64 (s0.2.2.1-1)) x200.2 mA) (hrc t0 s0.1 x200.1 (w64 (s0.2.2.1-1)) x200.2 mA) fun x201 _=>
  Zd (ih _))
  (Zc (Zb t0 s0.1 x200.1 (w64 (s0.2.2.1-1)) x200.2 mA) (hrc t0 s0.1 x200.1 (w64 (s0.2.2.1-1)) x200.2 mA) fun x202 _=>
  Zd (ih _)))
  (yB (Zc (Zb t0 (w64 (x200.1+1)) s0.2.1 (w64 (s0.2.2.1-1)) x200.2 mA) (hrc t0 (w64 (x200.1+1)) s0.2.1 (w64 (s0.2.2.1-1)) x200.2 mA) fun x203 _=>
  Zd (ih _))
  (Zc (Zb t0 (w64 (x200.1+1)) s0.2.1 (w64 (s0.2.2.1-1)) x200.2 mA) (hrc t0 (w64 (x200.1+1)) s0.2.1 (w64 (s0.2.2.1-1)) x200.2 mA) fun x204 _=>
  Zd (ih _)))))
 exact yF (yF (yB (yB (Zc (Zb t0 s0.1 x200.1 (w64 (s0.2.2.1-1)) x200.2 mA) (hrc t0 s0.1 x200.1 (w64 (s0.2.2.1-1)) x200.2 mA) fun x205 _=>
  Zd (ih _))
  (Zc (Zb t0 s0.1 x200.1 (w64 (s0.2.2.1-1)) x200.2 mA) (hrc t0 s0.1 x200.1 (w64 (s0.2.2.1-1)) x200.2 mA) fun x206 _=>
  Zd (ih _)))
  (yB (Zc (Zb t0 (w64 (x200.1+1)) s0.2.1 (w64 (s0.2.2.1-1)) x200.2 mA) (hrc t0 (w64 (x200.1+1)) s0.2.1 (w64 (s0.2.2.1-1)) x200.2 mA) fun x207 _=>
  Zd (ih _))
  (Zc (Zb t0 (w64 (x200.1+1)) s0.2.1 (w64 (s0.2.2.1-1)) x200.2 mA) (hrc t0 (w64 (x200.1+1)) s0.2.1 (w64 (s0.2.2.1-1)) x200.2 mA) fun x208 _=>
  Zd (ih _)))))))
  (Zc _ ZF fun x209 _=>
  Zd (ih _)))))
  (by
 conv=>rhs;whnf
 refine Zc _ Zq fun x210 _=>?_
 rcases x210 with x210 | x210
 exact yT (yF (yB (yB (Zc (Zb t0 s0.1 x210.1 (w64 (s0.2.2.1-1)) x210.2 mA) (hrc t0 s0.1 x210.1 (w64 (s0.2.2.1-1)) x210.2 mA) fun x211 _=>
  Zd (ih _))
  (Zc (Zb t0 s0.1 x210.1 (w64 (s0.2.2.1-1)) x210.2 mA) (hrc t0 s0.1 x210.1 (w64 (s0.2.2.1-1)) x210.2 mA) fun x212 _=>
  Zd (ih _)))
  (yB (Zc (Zb t0 (w64 (x210.1+1)) s0.2.1 (w64 (s0.2.2.1-1)) x210.2 mA) (hrc t0 (w64 (x210.1+1)) s0.2.1 (w64 (s0.2.2.1-1)) x210.2 mA) fun x213 _=>
  Zd (ih _))
  (Zc (Zb t0 (w64 (x210.1+1)) s0.2.1 (w64 (s0.2.2.1-1)) x210.2 mA) (hrc t0 (w64 (x210.1+1)) s0.2.1 (w64 (s0.2.2.1-1)) x210.2 mA) fun x214 _=>
  Zd (ih _)))))
 exact yF (yF (yB (yB (Zc (Zb t0 s0.1 x210.1 (w64 (s0.2.2.1-1)) x210.2 mA) (hrc t0 s0.1 x210.1 (w64 (s0.2.2.1-1)) x210.2 mA) fun x215 _=>
  Zd (ih _))
  (Zc (Zb t0 s0.1 x210.1 (w64 (s0.2.2.1-1)) x210.2 mA) (hrc t0 s0.1 x210.1 (w64 (s0.2.2.1-1)) x210.2 mA) fun x216 _=>
  Zd (ih _)))
  (yB (Zc (Zb t0 (w64 (x210.1+1)) s0.2.1 (w64 (s0.2.2.1-1)) x210.2 mA) (hrc t0 (w64 (x210.1+1)) s0.2.1 (w64 (s0.2.2.1-1)) x210.2 mA) fun x217 _=>
  Zd (ih _))
  (Zc (Zb t0 (w64 (x210.1+1)) s0.2.1 (w64 (s0.2.2.1-1)) x210.2 mA) (hrc t0 (w64 (x210.1+1)) s0.2.1 (w64 (s0.2.2.1-1)) x210.2 mA) fun x218 _=>
  Zd (ih _))))))))))
 exact ZsC (yB (Zc _ Zar fun x121 _=>
  Zg rfl)
  (yB (Zc _ ZaF fun x122 _=>
  Zg rfl)
  (Zc _ Zb2 fun x123 _=>
  Zc _ Zaw fun x124 _=>
  yB (Zc _ Zau fun x125 _=>
  yB (yG fun x126 hx126=>
  Ze (Zk rfl hx126) (yG fun x127 hx127=>
  Ze (Zk rfl hx127) (yC ZO fun x128 _=>
  yB ((by
 conv=>rhs;whnf
 refine Zc _ Zq fun x129 _=>?_
 rcases x129 with x129 | x129
 exact yT (yF (yB (yB (Zc (Zb t0 s0.1 x129.1 (w64 (s0.2.2.1-1)) x129.2 mA) (hrc t0 s0.1 x129.1 (w64 (s0.2.2.1-1)) x129.2 mA) fun x130 _=>
  Zd (ih _))
  (Zc (Zb t0 s0.1 x129.1 (w64 (s0.2.2.1-1)) x129.2 mA) (hrc t0 s0.1 x129.1 (w64 (s0.2.2.1-1)) x129.2 mA) fun x131 _=>
  Zd (ih _)))
  (yB (Zc (Zb t0 (w64 (x129.1+1)) s0.2.1 (w64 (s0.2.2.1-1)) x129.2 mA) (hrc t0 (w64 (x129.1+1)) s0.2.1 (w64 (s0.2.2.1-1)) x129.2 mA) fun x132 _=>
  Zd (ih _))
  (Zc (Zb t0 (w64 (x129.1+1)) s0.2.1 (w64 (s0.2.2.1-1)) x129.2 mA) (hrc t0 (w64 (x129.1+1)) s0.2.1 (w64 (s0.2.2.1-1)) x129.2 mA) fun x133 _=>
  Zd (ih _)))))
 exact yF (yF (yB (yB (Zc (Zb t0 s0.1 x129.1 (w64 (s0.2.2.1-1)) x129.2 mA) (hrc t0 s0.1 x129.1 (w64 (s0.2.2.1-1)) x129.2 mA) fun x134 _=>
  Zd (ih _))
  (Zc (Zb t0 s0.1 x129.1 (w64 (s0.2.2.1-1)) x129.2 mA) (hrc t0 s0.1 x129.1 (w64 (s0.2.2.1-1)) x129.2 mA) fun x135 _=>
  Zd (ih _)))
  (yB (Zc (Zb t0 (w64 (x129.1+1)) s0.2.1 (w64 (s0.2.2.1-1)) x129.2 mA) (hrc t0 (w64 (x129.1+1)) s0.2.1 (w64 (s0.2.2.1-1)) x129.2 mA) fun x136 _=>
  Zd (ih _))
  (Zc (Zb t0 (w64 (x129.1+1)) s0.2.1 (w64 (s0.2.2.1-1)) x129.2 mA) (hrc t0 (w64 (x129.1+1)) s0.2.1 (w64 (s0.2.2.1-1)) x129.2 mA) fun x137 _=>
  Zd (ih _)))))))
  (Zc _ ZF fun x138 _=>
  Zd (ih _)))))
  (by
 conv=>rhs;whnf
 refine Zc _ Zq fun x139 _=>?_
 rcases x139 with x139 | x139
 exact yT (yF (yB (yB (Zc (Zb t0 s0.1 x139.1 (w64 (s0.2.2.1-1)) x139.2 mA) (hrc t0 s0.1 x139.1 (w64 (s0.2.2.1-1)) x139.2 mA) fun x140 _=>
  Zd (ih _))
  (Zc (Zb t0 s0.1 x139.1 (w64 (s0.2.2.1-1)) x139.2 mA) (hrc t0 s0.1 x139.1 (w64 (s0.2.2.1-1)) x139.2 mA) fun x141 _=>
  Zd (ih _)))
  (yB (Zc (Zb t0 (w64 (x139.1+1)) s0.2.1 (w64 (s0.2.2.1-1)) x139.2 mA) (hrc t0 (w64 (x139.1+1)) s0.2.1 (w64 (s0.2.2.1-1)) x139.2 mA) fun x142 _=>
  Zd (ih _))
  (Zc (Zb t0 (w64 (x139.1+1)) s0.2.1 (w64 (s0.2.2.1-1)) x139.2 mA) (hrc t0 (w64 (x139.1+1)) s0.2.1 (w64 (s0.2.2.1-1)) x139.2 mA) fun x143 _=>
  Zd (ih _)))))
 exact yF (yF (yB (yB (Zc (Zb t0 s0.1 x139.1 (w64 (s0.2.2.1-1)) x139.2 mA) (hrc t0 s0.1 x139.1 (w64 (s0.2.2.1-1)) x139.2 mA) fun x144 _=>
  Zd (ih _))
  (Zc (Zb t0 s0.1 x139.1 (w64 (s0.2.2.1-1)) x139.2 mA) (hrc t0 s0.1 x139.1 (w64 (s0.2.2.1-1)) x139.2 mA) fun x145 _=>
  Zd (ih _)))
  (yB (Zc (Zb t0 (w64 (x139.1+1)) s0.2.1 (w64 (s0.2.2.1-1)) x139.2 mA) (hrc t0 (w64 (x139.1+1)) s0.2.1 (w64 (s0.2.2.1-1)) x139.2 mA) fun x146 _=>
  Zd (ih _))
  (Zc (Zb t0 (w64 (x139.1+1)) s0.2.1 (w64 (s0.2.2.1-1)) x139.2 mA) (hrc t0 (w64 (x139.1+1)) s0.2.1 (w64 (s0.2.2.1-1)) x139.2 mA) fun x147 _=>
  Zd (ih _)))))))
  (yB (yG fun x148 hx148=>
  Ze (Zk rfl hx148) (yG fun x149 hx149=>
  Ze (Zk rfl hx149) (yC ZO fun x150 _=>
  yB ((by
 conv=>rhs;whnf
 refine Zc _ Zq fun x151 _=>?_
 rcases x151 with x151 | x151
 exact yT (yF (yB (yB (Zc (Zb t0 s0.1 x151.1 (w64 (s0.2.2.1-1)) x151.2 mA) (hrc t0 s0.1 x151.1 (w64 (s0.2.2.1-1)) x151.2 mA) fun x152 _=>
  Zd (ih _))
  (Zc (Zb t0 s0.1 x151.1 (w64 (s0.2.2.1-1)) x151.2 mA) (hrc t0 s0.1 x151.1 (w64 (s0.2.2.1-1)) x151.2 mA) fun x153 _=>
  Zd (ih _)))
  (yB (Zc (Zb t0 (w64 (x151.1+1)) s0.2.1 (w64 (s0.2.2.1-1)) x151.2 mA) (hrc t0 (w64 (x151.1+1)) s0.2.1 (w64 (s0.2.2.1-1)) x151.2 mA) fun x154 _=>
  Zd (ih _))
  (Zc (Zb t0 (w64 (x151.1+1)) s0.2.1 (w64 (s0.2.2.1-1)) x151.2 mA) (hrc t0 (w64 (x151.1+1)) s0.2.1 (w64 (s0.2.2.1-1)) x151.2 mA) fun x155 _=>
  Zd (ih _)))))
 exact yF (yF (yB (yB (Zc (Zb t0 s0.1 x151.1 (w64 (s0.2.2.1-1)) x151.2 mA) (hrc t0 s0.1 x151.1 (w64 (s0.2.2.1-1)) x151.2 mA) fun x156 _=>
  Zd (ih _))
  (Zc (Zb t0 s0.1 x151.1 (w64 (s0.2.2.1-1)) x151.2 mA) (hrc t0 s0.1 x151.1 (w64 (s0.2.2.1-1)) x151.2 mA) fun x157 _=>
  Zd (ih _)))
  (yB (Zc (Zb t0 (w64 (x151.1+1)) s0.2.1 (w64 (s0.2.2.1-1)) x151.2 mA) (hrc t0 (w64 (x151.1+1)) s0.2.1 (w64 (s0.2.2.1-1)) x151.2 mA) fun x158 _=>
  Zd (ih _))
  (Zc (Zb t0 (w64 (x151.1+1)) s0.2.1 (w64 (s0.2.2.1-1)) x151.2 mA) (hrc t0 (w64 (x151.1+1)) s0.2.1 (w64 (s0.2.2.1-1)) x151.2 mA) fun x159 _=>
  Zd (ih _)))))))
  (Zc _ ZF fun x160 _=>
  Zd (ih _)))))
  (by
 conv=>rhs;whnf
 refine Zc _ Zq fun x161 _=>?_
 rcases x161 with x161 | x161
 exact yT (yF (yB (yB (Zc (Zb t0 s0.1 x161.1 (w64 (s0.2.2.1-1)) x161.2 mA) (hrc t0 s0.1 x161.1 (w64 (s0.2.2.1-1)) x161.2 mA) fun x162 _=>
  Zd (ih _))
  (Zc (Zb t0 s0.1 x161.1 (w64 (s0.2.2.1-1)) x161.2 mA) (hrc t0 s0.1 x161.1 (w64 (s0.2.2.1-1)) x161.2 mA) fun x163 _=>
  Zd (ih _)))
  (yB (Zc (Zb t0 (w64 (x161.1+1)) s0.2.1 (w64 (s0.2.2.1-1)) x161.2 mA) (hrc t0 (w64 (x161.1+1)) s0.2.1 (w64 (s0.2.2.1-1)) x161.2 mA) fun x164 _=>
  Zd (ih _))
  (Zc (Zb t0 (w64 (x161.1+1)) s0.2.1 (w64 (s0.2.2.1-1)) x161.2 mA) (hrc t0 (w64 (x161.1+1)) s0.2.1 (w64 (s0.2.2.1-1)) x161.2 mA) fun x165 _=>
  Zd (ih _)))))
 exact yF (yF (yB (yB (Zc (Zb t0 s0.1 x161.1 (w64 (s0.2.2.1-1)) x161.2 mA) (hrc t0 s0.1 x161.1 (w64 (s0.2.2.1-1)) x161.2 mA) fun x166 _=>
  Zd (ih _))
  (Zc (Zb t0 s0.1 x161.1 (w64 (s0.2.2.1-1)) x161.2 mA) (hrc t0 s0.1 x161.1 (w64 (s0.2.2.1-1)) x161.2 mA) fun x167 _=>
  Zd (ih _)))
  (yB (Zc (Zb t0 (w64 (x161.1+1)) s0.2.1 (w64 (s0.2.2.1-1)) x161.2 mA) (hrc t0 (w64 (x161.1+1)) s0.2.1 (w64 (s0.2.2.1-1)) x161.2 mA) fun x168 _=>
  Zd (ih _))
  (Zc (Zb t0 (w64 (x161.1+1)) s0.2.1 (w64 (s0.2.2.1-1)) x161.2 mA) (hrc t0 (w64 (x161.1+1)) s0.2.1 (w64 (s0.2.2.1-1)) x161.2 mA) fun x169 _=>
  Zd (ih _)))))))))))
 exact ZsC (by
 try unfold ZD
 rcases hb:s0.2.2.2.2.1 with _ | _
 exact Ztl (yB (Zc _ Zar fun x73 _=>
  Zg rfl)
  (yB (Zc _ ZaF fun x74 _=>
  Zg rfl)
  (Zc _ Zaw fun x75 _=>
  yB (Zc _ Zau fun x76 _=>
  yB (yG fun x77 hx77=>
  Ze (Zk rfl hx77) (yG fun x78 hx78=>
  Ze (Zk rfl hx78) (yC ZO fun x79 _=>
  yB ((by
 conv=>rhs;whnf
 refine Zc _ Zq fun x80 _=>?_
 rcases x80 with x80 | x80
 exact yT (yF (yB (yB (Zc (Zb t0 s0.1 x80.1 s0.2.2.1 x80.2 mA) (hrc t0 s0.1 x80.1 s0.2.2.1 x80.2 mA) fun x81 _=>
  Zd (ih _))
  (Zc (Zb t0 s0.1 x80.1 s0.2.2.1 x80.2 mA) (hrc t0 s0.1 x80.1 s0.2.2.1 x80.2 mA) fun x82 _=>
  Zd (ih _)))
  (yB (Zc (Zb t0 (w64 (x80.1+1)) s0.2.1 s0.2.2.1 x80.2 mA) (hrc t0 (w64 (x80.1+1)) s0.2.1 s0.2.2.1 x80.2 mA) fun x83 _=>
  Zd (ih _))
  (Zc (Zb t0 (w64 (x80.1+1)) s0.2.1 s0.2.2.1 x80.2 mA) (hrc t0 (w64 (x80.1+1)) s0.2.1 s0.2.2.1 x80.2 mA) fun x84 _=>
  Zd (ih _)))))
 exact yF (yF (yB (yB (Zc (Zb t0 s0.1 x80.1 s0.2.2.1 x80.2 mA) (hrc t0 s0.1 x80.1 s0.2.2.1 x80.2 mA) fun x85 _=>
  Zd (ih _))
  (Zc (Zb t0 s0.1 x80.1 s0.2.2.1 x80.2 mA) (hrc t0 s0.1 x80.1 s0.2.2.1 x80.2 mA) fun x86 _=>
  Zd (ih _)))
  (yB (Zc (Zb t0 (w64 (x80.1+1)) s0.2.1 s0.2.2.1 x80.2 mA) (hrc t0 (w64 (x80.1+1)) s0.2.1 s0.2.2.1 x80.2 mA) fun x87 _=>
  Zd (ih _))
  (Zc (Zb t0 (w64 (x80.1+1)) s0.2.1 s0.2.2.1 x80.2 mA) (hrc t0 (w64 (x80.1+1)) s0.2.1 s0.2.2.1 x80.2 mA) fun x88 _=>
  Zd (ih _)))))))
  (Zc _ ZF fun x89 _=>
  Zd (ih _)))))
  (by
 conv=>rhs;whnf
 refine Zc _ Zq fun x90 _=>?_
 rcases x90 with x90 | x90
 exact yT (yF (yB (yB (Zc (Zb t0 s0.1 x90.1 s0.2.2.1 x90.2 mA) (hrc t0 s0.1 x90.1 s0.2.2.1 x90.2 mA) fun x91 _=>
  Zd (ih _))
  (Zc (Zb t0 s0.1 x90.1 s0.2.2.1 x90.2 mA) (hrc t0 s0.1 x90.1 s0.2.2.1 x90.2 mA) fun x92 _=>
  Zd (ih _)))
  (yB (Zc (Zb t0 (w64 (x90.1+1)) s0.2.1 s0.2.2.1 x90.2 mA) (hrc t0 (w64 (x90.1+1)) s0.2.1 s0.2.2.1 x90.2 mA) fun x93 _=>
  Zd (ih _))
  (Zc (Zb t0 (w64 (x90.1+1)) s0.2.1 s0.2.2.1 x90.2 mA) (hrc t0 (w64 (x90.1+1)) s0.2.1 s0.2.2.1 x90.2 mA) fun x94 _=>
  Zd (ih _)))))
 exact yF (yF (yB (yB (Zc (Zb t0 s0.1 x90.1 s0.2.2.1 x90.2 mA) (hrc t0 s0.1 x90.1 s0.2.2.1 x90.2 mA) fun x95 _=>
  Zd (ih _))
  (Zc (Zb t0 s0.1 x90.1 s0.2.2.1 x90.2 mA) (hrc t0 s0.1 x90.1 s0.2.2.1 x90.2 mA) fun x96 _=>
  Zd (ih _)))
  (yB (Zc (Zb t0 (w64 (x90.1+1)) s0.2.1 s0.2.2.1 x90.2 mA) (hrc t0 (w64 (x90.1+1)) s0.2.1 s0.2.2.1 x90.2 mA) fun x97 _=>
  Zd (ih _))
  (Zc (Zb t0 (w64 (x90.1+1)) s0.2.1 s0.2.2.1 x90.2 mA) (hrc t0 (w64 (x90.1+1)) s0.2.1 s0.2.2.1 x90.2 mA) fun x98 _=>
  Zd (ih _)))))))
  (yB (yG fun x99 hx99=>
  Ze (Zk rfl hx99) (yG fun x100 hx100=>
  Ze (Zk rfl hx100) (yC ZO fun x101 _=>
  yB ((by
 conv=>rhs;whnf
 refine Zc _ Zq fun x102 _=>?_
 rcases x102 with x102 | x102
 exact yT (yF (yB (yB (Zc (Zb t0 s0.1 x102.1 s0.2.2.1 x102.2 mA) (hrc t0 s0.1 x102.1 s0.2.2.1 x102.2 mA) fun x103 _=>
  Zd (ih _))
  (Zc (Zb t0 s0.1 x102.1 s0.2.2.1 x102.2 mA) (hrc t0 s0.1 x102.1 s0.2.2.1 x102.2 mA) fun x104 _=>
  Zd (ih _)))
  (yB (Zc (Zb t0 (w64 (x102.1+1)) s0.2.1 s0.2.2.1 x102.2 mA) (hrc t0 (w64 (x102.1+1)) s0.2.1 s0.2.2.1 x102.2 mA) fun x105 _=>
  Zd (ih _))
  (Zc (Zb t0 (w64 (x102.1+1)) s0.2.1 s0.2.2.1 x102.2 mA) (hrc t0 (w64 (x102.1+1)) s0.2.1 s0.2.2.1 x102.2 mA) fun x106 _=>
  Zd (ih _)))))
 exact yF (yF (yB (yB (Zc (Zb t0 s0.1 x102.1 s0.2.2.1 x102.2 mA) (hrc t0 s0.1 x102.1 s0.2.2.1 x102.2 mA) fun x107 _=>
  Zd (ih _))
  (Zc (Zb t0 s0.1 x102.1 s0.2.2.1 x102.2 mA) (hrc t0 s0.1 x102.1 s0.2.2.1 x102.2 mA) fun x108 _=>
  Zd (ih _)))
  (yB (Zc (Zb t0 (w64 (x102.1+1)) s0.2.1 s0.2.2.1 x102.2 mA) (hrc t0 (w64 (x102.1+1)) s0.2.1 s0.2.2.1 x102.2 mA) fun x109 _=>
  Zd (ih _))
  (Zc (Zb t0 (w64 (x102.1+1)) s0.2.1 s0.2.2.1 x102.2 mA) (hrc t0 (w64 (x102.1+1)) s0.2.1 s0.2.2.1 x102.2 mA) fun x110 _=>
  Zd (ih _)))))))
  (Zc _ ZF fun x111 _=>
  Zd (ih _)))))
  (by
 conv=>rhs;whnf
 refine Zc _ Zq fun x112 _=>?_
 rcases x112 with x112 | x112
 exact yT (yF (yB (yB (Zc (Zb t0 s0.1 x112.1 s0.2.2.1 x112.2 mA) (hrc t0 s0.1 x112.1 s0.2.2.1 x112.2 mA) fun x113 _=>
  Zd (ih _))
  (Zc (Zb t0 s0.1 x112.1 s0.2.2.1 x112.2 mA) (hrc t0 s0.1 x112.1 s0.2.2.1 x112.2 mA) fun x114 _=>
  Zd (ih _)))
  (yB (Zc (Zb t0 (w64 (x112.1+1)) s0.2.1 s0.2.2.1 x112.2 mA) (hrc t0 (w64 (x112.1+1)) s0.2.1 s0.2.2.1 x112.2 mA) fun x115 _=>
  Zd (ih _))
  (Zc (Zb t0 (w64 (x112.1+1)) s0.2.1 s0.2.2.1 x112.2 mA) (hrc t0 (w64 (x112.1+1)) s0.2.1 s0.2.2.1 x112.2 mA) fun x116 _=>
  Zd (ih _)))))
 exact yF (yF (yB (yB (Zc (Zb t0 s0.1 x112.1 s0.2.2.1 x112.2 mA) (hrc t0 s0.1 x112.1 s0.2.2.1 x112.2 mA) fun x117 _=>
  Zd (ih _))
  (Zc (Zb t0 s0.1 x112.1 s0.2.2.1 x112.2 mA) (hrc t0 s0.1 x112.1 s0.2.2.1 x112.2 mA) fun x118 _=>
  Zd (ih _)))
  (yB (Zc (Zb t0 (w64 (x112.1+1)) s0.2.1 s0.2.2.1 x112.2 mA) (hrc t0 (w64 (x112.1+1)) s0.2.1 s0.2.2.1 x112.2 mA) fun x119 _=>
  Zd (ih _))
  (Zc (Zb t0 (w64 (x112.1+1)) s0.2.1 s0.2.2.1 x112.2 mA) (hrc t0 (w64 (x112.1+1)) s0.2.1 s0.2.2.1 x112.2 mA) fun x120 _=>
  Zd (ih _))))))))))
 exact ZsC (yB (Zc _ Zar fun x1 _=>
  Zg rfl)
  (yB (Zc _ ZaF fun x2 _=>
  Zg rfl)
  (Zc _ Zaw fun x3 _=>
  yB (Zc _ Zau fun x4 _=>
  yT (by
 conv=>rhs;whnf
 refine Zc _ ZbA fun x5 _=>?_
 rcases x5 with x5 | x5
 exact Zg rfl
 exact yB (yG fun x6 hx6=>
  Ze (Zk rfl hx6) (yG fun x7 hx7=>
  Ze (Zk rfl hx7) (yC ZO fun x8 _=>
  yB ((by
 conv=>rhs;whnf
 refine Zc _ Zq fun x9 _=>?_
 rcases x9 with x9 | x9
 exact yT (yF (yB (yB (Zc (Zb t0 s0.1 x9.1 s0.2.2.1 x9.2 mA) (hrc t0 s0.1 x9.1 s0.2.2.1 x9.2 mA) fun x10 _=>
  Zd (ih _))
  (Zc (Zb t0 s0.1 x9.1 s0.2.2.1 x9.2 mA) (hrc t0 s0.1 x9.1 s0.2.2.1 x9.2 mA) fun x11 _=>
  Zd (ih _)))
  (yB (Zc (Zb t0 (w64 (x9.1+1)) s0.2.1 s0.2.2.1 x9.2 mA) (hrc t0 (w64 (x9.1+1)) s0.2.1 s0.2.2.1 x9.2 mA) fun x12 _=>
  Zd (ih _))
  (Zc (Zb t0 (w64 (x9.1+1)) s0.2.1 s0.2.2.1 x9.2 mA) (hrc t0 (w64 (x9.1+1)) s0.2.1 s0.2.2.1 x9.2 mA) fun x13 _=>
  Zd (ih _)))))
 exact yF (yF (yB (yB (Zc (Zb t0 s0.1 x9.1 s0.2.2.1 x9.2 mA) (hrc t0 s0.1 x9.1 s0.2.2.1 x9.2 mA) fun x14 _=>
  Zd (ih _))
  (Zc (Zb t0 s0.1 x9.1 s0.2.2.1 x9.2 mA) (hrc t0 s0.1 x9.1 s0.2.2.1 x9.2 mA) fun x15 _=>
  Zd (ih _)))
  (yB (Zc (Zb t0 (w64 (x9.1+1)) s0.2.1 s0.2.2.1 x9.2 mA) (hrc t0 (w64 (x9.1+1)) s0.2.1 s0.2.2.1 x9.2 mA) fun x16 _=>
  Zd (ih _))
  (Zc (Zb t0 (w64 (x9.1+1)) s0.2.1 s0.2.2.1 x9.2 mA) (hrc t0 (w64 (x9.1+1)) s0.2.1 s0.2.2.1 x9.2 mA) fun x17 _=>
  Zd (ih _)))))))
  (Zc _ ZF fun x18 _=>
  Zd (ih _)))))
  (by
 conv=>rhs;whnf
 refine Zc _ Zq fun x19 _=>?_
 rcases x19 with x19 | x19
 exact yT (yF (yB (yB (Zc (Zb t0 s0.1 x19.1 s0.2.2.1 x19.2 mA) (hrc t0 s0.1 x19.1 s0.2.2.1 x19.2 mA) fun x20 _=>
  Zd (ih _))
  (Zc (Zb t0 s0.1 x19.1 s0.2.2.1 x19.2 mA) (hrc t0 s0.1 x19.1 s0.2.2.1 x19.2 mA) fun x21 _=>
  Zd (ih _)))
  (yB (Zc (Zb t0 (w64 (x19.1+1)) s0.2.1 s0.2.2.1 x19.2 mA) (hrc t0 (w64 (x19.1+1)) s0.2.1 s0.2.2.1 x19.2 mA) fun x22 _=>
  Zd (ih _))
  (Zc (Zb t0 (w64 (x19.1+1)) s0.2.1 s0.2.2.1 x19.2 mA) (hrc t0 (w64 (x19.1+1)) s0.2.1 s0.2.2.1 x19.2 mA) fun x23 _=>
  Zd (ih _)))))
 exact yF (yF (yB (yB (Zc (Zb t0 s0.1 x19.1 s0.2.2.1 x19.2 mA) (hrc t0 s0.1 x19.1 s0.2.2.1 x19.2 mA) fun x24 _=>
  Zd (ih _))
  (Zc (Zb t0 s0.1 x19.1 s0.2.2.1 x19.2 mA) (hrc t0 s0.1 x19.1 s0.2.2.1 x19.2 mA) fun x25 _=>
  Zd (ih _)))
  (yB (Zc (Zb t0 (w64 (x19.1+1)) s0.2.1 s0.2.2.1 x19.2 mA) (hrc t0 (w64 (x19.1+1)) s0.2.1 s0.2.2.1 x19.2 mA) fun x26 _=>
  Zd (ih _))
  (Zc (Zb t0 (w64 (x19.1+1)) s0.2.1 s0.2.2.1 x19.2 mA) (hrc t0 (w64 (x19.1+1)) s0.2.1 s0.2.2.1 x19.2 mA) fun x27 _=>
  Zd (ih _))))))))
  (yB ((by
 conv=>rhs;whnf
 refine Zc _ ZbA fun x28 _=>?_
 rcases x28 with x28 | x28
 exact Zg rfl
 exact yB (yG fun x29 hx29=>
  Ze (Zk rfl hx29) (yG fun x30 hx30=>
  Ze (Zk rfl hx30) (yC ZO fun x31 _=>
  yB ((by
 conv=>rhs;whnf
 refine Zc _ Zq fun x32 _=>?_
 rcases x32 with x32 | x32
 exact yT (yF (yB (yB (Zc (Zb t0 s0.1 x32.1 s0.2.2.1 x32.2 mA) (hrc t0 s0.1 x32.1 s0.2.2.1 x32.2 mA) fun x33 _=>
  Zd (ih _))
  (Zc (Zb t0 s0.1 x32.1 s0.2.2.1 x32.2 mA) (hrc t0 s0.1 x32.1 s0.2.2.1 x32.2 mA) fun x34 _=>
  Zd (ih _)))
  (yB (Zc (Zb t0 (w64 (x32.1+1)) s0.2.1 s0.2.2.1 x32.2 mA) (hrc t0 (w64 (x32.1+1)) s0.2.1 s0.2.2.1 x32.2 mA) fun x35 _=>
  Zd (ih _))
  (Zc (Zb t0 (w64 (x32.1+1)) s0.2.1 s0.2.2.1 x32.2 mA) (hrc t0 (w64 (x32.1+1)) s0.2.1 s0.2.2.1 x32.2 mA) fun x36 _=>
  Zd (ih _)))))
 exact yF (yF (yB (yB (Zc (Zb t0 s0.1 x32.1 s0.2.2.1 x32.2 mA) (hrc t0 s0.1 x32.1 s0.2.2.1 x32.2 mA) fun x37 _=>
  Zd (ih _))
  (Zc (Zb t0 s0.1 x32.1 s0.2.2.1 x32.2 mA) (hrc t0 s0.1 x32.1 s0.2.2.1 x32.2 mA) fun x38 _=>
  Zd (ih _)))
  (yB (Zc (Zb t0 (w64 (x32.1+1)) s0.2.1 s0.2.2.1 x32.2 mA) (hrc t0 (w64 (x32.1+1)) s0.2.1 s0.2.2.1 x32.2 mA) fun x39 _=>
  Zd (ih _))
  (Zc (Zb t0 (w64 (x32.1+1)) s0.2.1 s0.2.2.1 x32.2 mA) (hrc t0 (w64 (x32.1+1)) s0.2.1 s0.2.2.1 x32.2 mA) fun x40 _=>
  Zd (ih _)))))))
  (Zc _ ZF fun x41 _=>
  Zd (ih _)))))
  (by
 conv=>rhs;whnf
 refine Zc _ Zq fun x42 _=>?_
 rcases x42 with x42 | x42
 exact yT (yF (yB (yB (Zc (Zb t0 s0.1 x42.1 s0.2.2.1 x42.2 mA) (hrc t0 s0.1 x42.1 s0.2.2.1 x42.2 mA) fun x43 _=>
  Zd (ih _))
  (Zc (Zb t0 s0.1 x42.1 s0.2.2.1 x42.2 mA) (hrc t0 s0.1 x42.1 s0.2.2.1 x42.2 mA) fun x44 _=>
  Zd (ih _)))
  (yB (Zc (Zb t0 (w64 (x42.1+1)) s0.2.1 s0.2.2.1 x42.2 mA) (hrc t0 (w64 (x42.1+1)) s0.2.1 s0.2.2.1 x42.2 mA) fun x45 _=>
  Zd (ih _))
  (Zc (Zb t0 (w64 (x42.1+1)) s0.2.1 s0.2.2.1 x42.2 mA) (hrc t0 (w64 (x42.1+1)) s0.2.1 s0.2.2.1 x42.2 mA) fun x46 _=>
  Zd (ih _)))))
 exact yF (yF (yB (yB (Zc (Zb t0 s0.1 x42.1 s0.2.2.1 x42.2 mA) (hrc t0 s0.1 x42.1 s0.2.2.1 x42.2 mA) fun x47 _=>
  Zd (ih _))
  (Zc (Zb t0 s0.1 x42.1 s0.2.2.1 x42.2 mA) (hrc t0 s0.1 x42.1 s0.2.2.1 x42.2 mA) fun x48 _=>
  Zd (ih _)))
  (yB (Zc (Zb t0 (w64 (x42.1+1)) s0.2.1 s0.2.2.1 x42.2 mA) (hrc t0 (w64 (x42.1+1)) s0.2.1 s0.2.2.1 x42.2 mA) fun x49 _=>
  Zd (ih _))
  (Zc (Zb t0 (w64 (x42.1+1)) s0.2.1 s0.2.2.1 x42.2 mA) (hrc t0 (w64 (x42.1+1)) s0.2.1 s0.2.2.1 x42.2 mA) fun x50 _=>
  Zd (ih _))))))))
  (yB (yG fun x51 hx51=>
  Ze (Zk rfl hx51) (yG fun x52 hx52=>
  Ze (Zk rfl hx52) (yC ZO fun x53 _=>
  yB ((by
 conv=>rhs;whnf
 refine Zc _ Zq fun x54 _=>?_
 rcases x54 with x54 | x54
 exact yT (yF (yB (yB (Zc (Zb t0 s0.1 x54.1 s0.2.2.1 x54.2 mA) (hrc t0 s0.1 x54.1 s0.2.2.1 x54.2 mA) fun x55 _=>
  Zd (ih _))
  (Zc (Zb t0 s0.1 x54.1 s0.2.2.1 x54.2 mA) (hrc t0 s0.1 x54.1 s0.2.2.1 x54.2 mA) fun x56 _=>
  Zd (ih _)))
  (yB (Zc (Zb t0 (w64 (x54.1+1)) s0.2.1 s0.2.2.1 x54.2 mA) (hrc t0 (w64 (x54.1+1)) s0.2.1 s0.2.2.1 x54.2 mA) fun x57 _=>
  Zd (ih _))
  (Zc (Zb t0 (w64 (x54.1+1)) s0.2.1 s0.2.2.1 x54.2 mA) (hrc t0 (w64 (x54.1+1)) s0.2.1 s0.2.2.1 x54.2 mA) fun x58 _=>
  Zd (ih _)))))
 exact yF (yF (yB (yB (Zc (Zb t0 s0.1 x54.1 s0.2.2.1 x54.2 mA) (hrc t0 s0.1 x54.1 s0.2.2.1 x54.2 mA) fun x59 _=>
  Zd (ih _))
  (Zc (Zb t0 s0.1 x54.1 s0.2.2.1 x54.2 mA) (hrc t0 s0.1 x54.1 s0.2.2.1 x54.2 mA) fun x60 _=>
  Zd (ih _)))
  (yB (Zc (Zb t0 (w64 (x54.1+1)) s0.2.1 s0.2.2.1 x54.2 mA) (hrc t0 (w64 (x54.1+1)) s0.2.1 s0.2.2.1 x54.2 mA) fun x61 _=>
  Zd (ih _))
  (Zc (Zb t0 (w64 (x54.1+1)) s0.2.1 s0.2.2.1 x54.2 mA) (hrc t0 (w64 (x54.1+1)) s0.2.1 s0.2.2.1 x54.2 mA) fun x62 _=>
  Zd (ih _)))))))
  (Zc _ ZF fun x63 _=>
  Zd (ih _)))))
  (by
 conv=>rhs;whnf
 refine Zc _ Zq fun x64 _=>?_
 rcases x64 with x64 | x64
 exact yT (yF (yB (yB (Zc (Zb t0 s0.1 x64.1 s0.2.2.1 x64.2 mA) (hrc t0 s0.1 x64.1 s0.2.2.1 x64.2 mA) fun x65 _=>
  Zd (ih _))
  (Zc (Zb t0 s0.1 x64.1 s0.2.2.1 x64.2 mA) (hrc t0 s0.1 x64.1 s0.2.2.1 x64.2 mA) fun x66 _=>
  Zd (ih _)))
  (yB (Zc (Zb t0 (w64 (x64.1+1)) s0.2.1 s0.2.2.1 x64.2 mA) (hrc t0 (w64 (x64.1+1)) s0.2.1 s0.2.2.1 x64.2 mA) fun x67 _=>
  Zd (ih _))
  (Zc (Zb t0 (w64 (x64.1+1)) s0.2.1 s0.2.2.1 x64.2 mA) (hrc t0 (w64 (x64.1+1)) s0.2.1 s0.2.2.1 x64.2 mA) fun x68 _=>
  Zd (ih _)))))
 exact yF (yF (yB (yB (Zc (Zb t0 s0.1 x64.1 s0.2.2.1 x64.2 mA) (hrc t0 s0.1 x64.1 s0.2.2.1 x64.2 mA) fun x69 _=>
  Zd (ih _))
  (Zc (Zb t0 s0.1 x64.1 s0.2.2.1 x64.2 mA) (hrc t0 s0.1 x64.1 s0.2.2.1 x64.2 mA) fun x70 _=>
  Zd (ih _)))
  (yB (Zc (Zb t0 (w64 (x64.1+1)) s0.2.1 s0.2.2.1 x64.2 mA) (hrc t0 (w64 (x64.1+1)) s0.2.1 s0.2.2.1 x64.2 mA) fun x71 _=>
  Zd (ih _))
  (Zc (Zb t0 (w64 (x64.1+1)) s0.2.1 s0.2.2.1 x64.2 mA) (hrc t0 (w64 (x64.1+1)) s0.2.1 s0.2.2.1 x64.2 mA) fun x72 _=>
  Zd (ih _)))))))))))))
theorem Zf1 (rc:Int->Int->Int->(Int->Int->Option Int)->LI->Option LI) (hrc:∀(t0:Bool) (b:Int) (c:Int) (d:Int) (mH:LI) (mA:List Zf) (r:LI),rc b c d (fun z0 z1=>ZE z0 z1 mA) mH=some r->evW ctx 122 [(.sl 0 1),(zN b),(zN c),(zN d),(.fn 97 [(.ptr 1 0)])] [(zA mH),(.cells [(zW t0 Zr mA)])]=some ((Zb t0 b c d mH mA) r)) (t0:Bool) (b:Int) (c:Int) (d:Int) (mH:LI) (mA:List Zf):∀r,(ZaE rc b c d (fun z0 z1=>ZE z0 z1 mA) mH)=some r->evW ctx 122 [(.sl 0 1),(zN b),(zN c),(zN d),(.fn 97 [(.ptr 1 0)])] [(zA mH),(.cells [(zW t0 Zr mA)])]=some ((Zb t0 b c d mH mA) r):=
 evS ZBZ rfl rfl <| Zc _ (ZfQ hrc _) fun r219 _=>
  yR
theorem Zcy:∀(n:Nat) (t0:Bool) (b:Int) (c:Int) (d:Int) (mH:LI) (mA:List Zf) (r:LI),ZT n b c d (fun z0 z1=>ZE z0 z1 mA) mH=some r->evW ctx 122 [(.sl 0 1),(zN b),(zN c),(zN d),(.fn 97 [(.ptr 1 0)])] [(zA mH),(.cells [(zW t0 Zr mA)])]=some ((Zb t0 b c d mH mA) r)
  | 0,t0,b,c,d,mH,mA,r,h=>by cases h
  | n+1,t0,b,c,d,mH,mA,r,h=>Zf1 (ZT n) (Zcy n) t0 b c d mH mA r h
theorem Zgg {t0:Bool}{b c d:Int}{mH:LI}{mA:List Zf}:∀r,ZcP b c d (fun z0 z1=>ZE z0 z1 mA) mH=some r->evW ctx 122 [(.sl 0 1),(zN b),(zN c),(zN d),(.fn 97 [(.ptr 1 0)])] [(zA mH),(.cells [(zW t0 Zr mA)])]=some ((Zb t0 b c d mH mA) r):=fun r h=>by
  obtain⟨n,hn⟩:=ZCZ h
  exact Zcy n t0 b c d mH mA r hn
def ZgF (t0:Bool) (mH:LI) (mA:List Zf):LI->V×Zm
  | r=>((.d (D.tup [])),[(zA r),(.cells [(zW t0 Zr mA)])])
theorem Zgm {t0:Bool}{mH:LI}{mA:List Zf}:∀r,(Zay (fun z0 z1=>ZE z0 z1 mA) mH)=some r->evW ctx 96 [(.sl 0 1),(.fn 97 [(.ptr 1 0)])] [(zA mH),(.cells [(zW t0 Zr mA)])]=some ((ZgF t0 mH mA) r):=
 evS ZIz rfl rfl <| Zh (Zt _ _) (yC Zio fun x0 _=>
  Zc _ Zgg fun x1 _=>
  yR)
def Zmq (t0:Bool) (a:List Zf):LI->Ex×List V×Zm
  | r=>(.exit 0,[(.ptr 0 0),(.sl 1 1)],[(.cells [(zW t0 Zr a)]),(zA r)])
theorem ZqA {t0:Bool}{a:List Zf}:∀s0 r,lp (Zfw a) s0=some r->lpW ctx 0 [1,3,6,7] [1,3] ZGz [(.ptr 0 0),(.sl 1 1),(zN (a.length:Int)),(zN s0.1)] [(.cells [(zW t0 Zr a)]),(zA s0.2)]=some ((Zmq t0 a) r):=
 lpT (Zmq t0 a) fun s0 _ ih=>yB (yT (Za5 (Zbz Zn s0.2 1) (Zh (Zby Zn s0.2 [s0.1]) (Zd (ih _)))
  Z9))
  (Zg rfl)
theorem Zua {t0:Bool}{a:List Zf}:∀r,(ZgP a)=some r->evD ctx 66 [(zW t0 Zr a)]=some (Zcd r):=
 evT ZKP rfl rfl <| Zh (Zt _ _) (Zc _ (ZqA _) fun r1 _=>
  Zc _ Zgm fun x2 _=>
  yR)
def ZtW (r:List Zf):D:=(zM true Zr r)
def ZiE (t0 t1:Bool) (a:List Zf) (b:LI) (c:Int):(List Zf)->Ex×List V×Zm
  | r=>(.exit 0,[(.sl 0 5)],[(.arr 5 (List.map Zr r))])
theorem Zt4 {t0 t1:Bool}{a:List Zf}{b:LI}{c:Int}:∀s0 r,lp (ZgI a b c) s0=some r->lpW ctx 0 [1,2,7,10,11,12] [7] ZE8 [(zV t1 b),(zN c),(.sl 0 5),(zW t0 Zr a),(zN (a.length:Int)),(zN s0.1)] [(.arr 5 (List.map Zr s0.2))]=some ((ZiE t0 t1 a b c) r):=
 lpT (ZiE t0 t1 a b c) fun s0 _ ih=>yB (yG fun x1 _=>
  Zh (Zt _ _) (yB (yG fun x2 _=>
  yB (yT (Za5 (Zbz Zr s0.2 1) (Zh (Zby Zr s0.2 [x1]) (Zd (ih _)))
  Z9))
  (Zd (ih _)))
  (Zd (ih _))))
  (Zg rfl)
theorem Zyo {t0 t1:Bool}{a:List Zf}{b:LI}{c:Int}:∀r,(Zpu a b c)=some r->evD ctx 68 [(zW t0 Zr a),(zV t1 b),(zN c)]=some (ZtW r):=
 evT ZJ4 rfl rfl <| Zh (Zt _ _) (Zc _ (Zt4 _) fun r3 _=>
  yR)
theorem ZqJ {a:Int}{b:Zf}:∀r,(ZdN a b)=some r->evD ctx 101 [(zN a),(.d (zK2 b.total b.long b.most b.deadline b.period))]=some (ZC r):=
 evT ZFy rfl rfl <| yR
def Zcg (t0:Bool) (a:List Zf):Int->Ex×List V×Zm
  | r=>(.exit 0,[(zN r)],[])
theorem ZiX {t0:Bool}{a:List Zf}:∀s0 r,lp (Zej a (fun z0 z1=>ZdN z0 z1)) s0=some r->lpW ctx 0 [1,5,8,9,10] [5] Zyc [(.d (D.fn 101 [])),(zN s0.1),(zW t0 Zr a),(zN (a.length:Int)),(zN s0.2)] []=some ((Zcg t0 a) r):=
 lpT (Zcg t0 a) fun s0 _ ih=>yB (yG fun x1 _=>
  yC ZqJ fun x2 _=>
  Zd (ih _))
  (Zg rfl)
theorem Zj6 {t0:Bool}{a:List Zf}:∀r,(ZhB a (fun z0 z1=>ZdN z0 z1))=some r->evD ctx 91 [(zW t0 Zr a),(.d (D.fn 101 []))]=some (ZC r):=
 evT ZGk rfl rfl <| Zh (Zt _ _) (Zc _ (ZiX _) fun r3 _=>
  yR)
theorem Zsz {t0:Bool}{a:List Zf}:∀r,(ZjE a)=some r->evD ctx 77 [(zW t0 Zr a)]=some (ZC r):=
 evT ZJ2 rfl rfl <| yC ZkO fun x0 _=>
  yBr (yC Zj6 fun x1 _=>
  yR)
theorem Zrn {a:Int}{b:Zf}{c0:Int}:∀r,(ZeO a b c0)=some r->evD ctx 92 [(zN a),(.d (zK2 b.total b.long b.most b.deadline b.period)),(.d (D.rptr [(Zn c0)]))]=some (ZC r):=
 evT ZJ1 rfl rfl <| yBr (yBn yR)
def Zcr (t0:Bool) (a:List Zf) (b0:Int):Int->Ex×List V×Zm
  | r=>(.exit 0,[(zN r)],[])
theorem Zi8 {t0:Bool}{a:List Zf}{b0:Int}:∀s0 r,lp (Zej a (fun z0 z1=>ZeO z0 z1 b0)) s0=some r->lpW ctx 0 [1,5,8,9,10] [5] Zyc [(.d (D.fn 92 [(D.rptr [(Zn b0)])])),(zN s0.1),(zW t0 Zr a),(zN (a.length:Int)),(zN s0.2)] []=some ((Zcr t0 a b0) r):=
 lpT (Zcr t0 a b0) fun s0 _ ih=>yB (yG fun x1 _=>
  yC Zrn fun x2 _=>
  Zd (ih _))
  (Zg rfl)
theorem Zkz {t0:Bool}{a:List Zf}{b0:Int}:∀r,(ZhB a (fun z0 z1=>ZeO z0 z1 b0))=some r->evD ctx 91 [(zW t0 Zr a),(.d (D.fn 92 [(D.rptr [(Zn b0)])]))]=some (ZC r):=
 evT ZGk rfl rfl <| Zh (Zt _ _) (Zc _ (Zi8 _) fun r3 _=>
  yR)
theorem Zud {t0:Bool}{a:List Zf}{b:Int}:∀r,(Zkt a b)=some r->evD ctx 62 [(zW t0 Zr a),(zN b)]=some (ZC r):=
 evT ZKw rfl rfl <| yC Zkz fun x0 _=>
  yR
theorem ZsB {a:Int}{b:Zf}{c0:Int}:∀r,(ZfU a b c0)=some r->evD ctx 93 [(zN a),(.d (zK2 b.total b.long b.most b.deadline b.period)),(.d (D.rptr [(Zn c0)]))]=some (ZC r):=
 evT ZK3 rfl rfl <| yBr yR
theorem Zj0 {t0:Bool}{a:List Zf}{b0:Int}:∀s0 r,lp (Zej a (fun z0 z1=>ZfU z0 z1 b0)) s0=some r->lpW ctx 0 [1,5,8,9,10] [5] Zyc [(.d (D.fn 93 [(D.rptr [(Zn b0)])])),(zN s0.1),(zW t0 Zr a),(zN (a.length:Int)),(zN s0.2)] []=some ((Zcr t0 a b0) r):=
 lpT (Zcr t0 a b0) fun s0 _ ih=>yB (yG fun x1 _=>
  yC ZsB fun x2 _=>
  Zd (ih _))
  (Zg rfl)
theorem ZkL {t0:Bool}{a:List Zf}{b0:Int}:∀r,(ZhB a (fun z0 z1=>ZfU z0 z1 b0))=some r->evD ctx 91 [(zW t0 Zr a),(.d (D.fn 93 [(D.rptr [(Zn b0)])]))]=some (ZC r):=
 evT ZGk rfl rfl <| Zh (Zt _ _) (Zc _ (Zj0 _) fun r3 _=>
  yR)
theorem Zv5 {t0:Bool}{a:List Zf}{b:Int}:∀r,(Zmr a b)=some r->evD ctx 63 [(zW t0 Zr a),(zN b)]=some (ZC r):=
 evT ZK0 rfl rfl <| yC ZkL fun x0 _=>
  yR
def Zoh (t0:Bool) (a:List Zf) (s1:Int) (x2:Zf):(Unit⊕Unit)->Ex×List V×Zm
  | (.inl r)=>(.ret,[(zW t0 Zr a),(.d (D.bool false)),(zW t0 Zr a),(zN (a.length:Int)),(zN s1)],[])
  | (.inr r)=>(.exit 2,[(zW t0 Zr a),.bad,(zW t0 Zr a),(zN (a.length:Int)),(zN s1)],[])
theorem Ztb {t0:Bool}{a:List Zf}{s1:Int}{x2:Zf}:∀s3 r,lp (Zhc a x2) s3=some r->lpW ctx 0 [0,4,5,9,10,11] [0,2,9,10,11] ZFE [(zW t0 Zr a),(.ptr 0 0),(zN s3),(zW t0 Zr a),(zN (a.length:Int)),(zN s1)] [(ZD7 x2.total x2.long x2.most x2.deadline x2.period)]=some ((Zoh t0 a s1 x2) r):=
 lpT (Zoh t0 a s1 x2) fun s3 _ ih=>yC Zsz fun x4 _=>
  yB (yC Zud fun x5 _=>
  yC Zv5 fun x6 _=>
  yB (Zg rfl)
  (Zd (ih _)))
  (Zg rfl)
def Zii (t0:Bool) (a:List Zf):(Unit⊕Unit)->Ex×List V×Zm
  | (.inl r)=>(.ret,[(.d (D.bool false))],[])
  | (.inr r)=>(.exit 0,[.bad],[])
theorem Ztr {t0:Bool}{a:List Zf}:∀s1 r,lp (Zic a) s1=some r->lpW ctx 0 [0,9,10,11] [2] ZH4 [(zW t0 Zr a),(zW t0 Zr a),(zN (a.length:Int)),(zN s1)] []=some ((Zii t0 a) r):=
 lpT (Zii t0 a) fun s1 _ ih=>yB (yG fun x2 _=>
  (by
 conv=>rhs;whnf
 refine Zc _ (Ztb _) fun r7 _=>?_
 rcases r7 with r7 | r7
 exact Zg rfl
 exact Zd (ih _)))
  (Zg rfl)
theorem Zwo {t0:Bool}{a:List Zf}:∀r,(ZnD a)=some r->evD ctx 46 [(zW t0 Zr a)]=some (ZJ r):=
 evT ZKX rfl rfl <| yC ZkO fun x0 _=>
  yBr (Zh (Zt _ _) (by
 conv=>rhs;whnf
 refine Zc _ (Ztr _) fun r8 _=>?_
 rcases r8 with r8 | r8
 exact yR
 exact yR))
def Zte (t0:Bool) (a mA:Int) (mJ:List Zf) (mI:LI):(Unit⊕Unit)->V×Zm
  | (.inl r)=>((.d (D.bool true)),[(.cells [(.sl 3 1)]),(.cells [(zN mA)]),(.cells [(zW t0 Zr mJ)]),(zA (List.set mI mA.toNat a))])
  | (.inr r)=>((.d (D.bool false)),[(.cells [(.sl 3 1)]),(.cells [(zN mA)]),(.cells [(zW t0 Zr mJ)]),(zA (List.set mI mA.toNat a))])
theorem Zr5 {t0:Bool}{a mA:Int}{mJ:List Zf}{mI:LI}:∀r,(Zk0 a mA mJ mI)=some r->evW ctx 67 [(zN a),(.ptr 0 0),(.ptr 1 0),(.ptr 2 0)] [(.cells [(.sl 3 1)]),(.cells [(zN mA)]),(.cells [(zW t0 Zr mJ)]),(zA mI)]=some ((Zte t0 a mA mJ mI) r):=
 evS ZKD rfl rfl <| yG fun x0 hx0=>
  Ze (Zk rfl hx0) (Zh (ZL Zn mI mA.toNat a) (yC Zyo fun x1 _=>
  yC Zwo fun x2 _=>
  yBr yR))
def ZoD (r:(LI×Int)):D:=(D.tup [(zL true r.1),(Zn r.2)])
def ZlX (t0:Bool) (a:List Zf) (b:Int):LI->Ex×List V×Zm
  | r=>(.exit 0,[(zN b),(.ptr 0 0),(.ptr 1 0)],[(.cells [(zW t0 Zr a)]),(.cells [(.sl 2 1)]),(zA r)])
theorem Zrd {t0:Bool}{a:List Zf}{b:Int}:∀s2 r,lp (Zfu a) s2=some r->lpW ctx 0 [1,2,6,24,25] [1,2,6] ZFm [(zN b),(.ptr 0 0),(.ptr 1 0),(zN (List.length (List.replicate (a.length:Int).toNat (0:Int)):Int)),(zN s2.1)] [(.cells [(zW t0 Zr a)]),(.cells [(.sl 2 1)]),(zA s2.2)]=some ((ZlX t0 a b) r):=
 lpT (ZlX t0 a b) fun s2 _ ih=>yB (yG fun x3 hx3=>
  Ze (Zk rfl hx3) (Zh (ZL Zn s2.2 s2.1.toNat (-1)) (Zd (ih _))))
  (Zg rfl)
def Zmd (t0:Bool) (a:List Zf) (b:Int) (x5:LI) (s6:Int×LI) (x7:Int):(LI⊕LI)->Ex×List V×Zm
  | (.inl r)=>(.exit 3,[(zN b),(.ptr 0 0),(.ptr 1 0),(zV true x5),(zN (x5.length:Int)),(zN s6.1)],[(.cells [(zW t0 Zr a)]),(.cells [(.sl 2 1)]),(zA r)])
  | (.inr r)=>(.exit 4,[(zN b),(.ptr 0 0),(.ptr 1 0),(zV true x5),(zN (x5.length:Int)),(zN s6.1)],[(.cells [(zW t0 Zr a)]),(.cells [(.sl 2 1)]),(zA r)])
theorem ZqZ {t0:Bool}{a:List Zf}{b:Int}{x5:LI}{s6:Int×LI}{x7:Int}:∀s8 r,lp (Zfv a b x7) s8=some r->lpW ctx 0 [1,2,6,10,33,34,35,40,41] [1,2,6,33,34,35] ZFP [(zN b),(.ptr 0 0),(.ptr 1 0),(.fn 67 [(.ptr 1 0),(.ptr 2 0),(.ptr 0 0)]),(zV true x5),(zN (x5.length:Int)),(zN s6.1),(zN b),(zN s8.1)] [(.cells [(zW t0 Zr a)]),(.cells [(.sl 3 1)]),(.cells [(zN x7)]),(zA s8.2)]=some ((Zmd t0 a b x5 s6 x7) r):=
 lpT (Zmd t0 a b x5 s6 x7) fun s8 _ ih=>yB ((by
 conv=>rhs;whnf
 refine Zc _ Zr5 fun x9 _=>?_
 rcases x9 with x9 | x9
 exact Zg rfl
 exact Zd (ih _)))
  (Zg rfl)
def ZlW (t0:Bool) (a:List Zf) (b:Int) (x5:LI):(LI⊕LI)->Ex×List V×Zm
  | (.inl r)=>(.ret,[(.nilsl 1),(zN 161),(.ptr 0 0)],[(.cells [(.sl 1 1)]),(zA r)])
  | (.inr r)=>(.exit 2,[.bad,.bad,(.ptr 0 0)],[(.cells [(.sl 1 1)]),(zA r)])
theorem Zqz {t0:Bool}{a:List Zf}{b:Int}{x5:LI}:∀s6 r,lp (Zfz a b x5) s6=some r->lpW ctx 0 [1,2,6,33,34,35] [4,5,6] ZGV [(zN b),(.ptr 0 0),(.ptr 1 0),(zV true x5),(zN (x5.length:Int)),(zN s6.1)] [(.cells [(zW t0 Zr a)]),(.cells [(.sl 2 1)]),(zA s6.2)]=some ((ZlW t0 a b x5) r):=
 lpT (ZlW t0 a b x5) fun s6 _ ih=>yB (yG fun x7 _=>
  (by
 conv=>rhs;whnf
 refine Zc _ (ZqZ _) fun r10 _=>?_
 rcases r10 with r10 | r10
 exact Zd (ih _)
 exact Zg rfl))
  (Zg rfl)
theorem Zt3 {t0:Bool}{a:List Zf}{b:Int}:∀r,(ZiP a b)=some r->evD ctx 36 [(zW t0 Zr a),(zN b)]=some (ZoD r):=
 evT ZLv rfl rfl <| yC ZkO fun x0 _=>
  yBr (yC Zti fun x1 _=>
  yB (Zh (Zt _ _) (yBm (Zh (Zr4 Zn (0:Int) (a.length:Int)) (Zh (Zt _ _) (Zc _ (Zrd _) fun r4 _=>
  yC Zua fun x5 _=>
  Zh (Zt _ _) (by
 conv=>rhs;whnf
 refine Zc _ (Zqz _) fun r11 _=>?_
 rcases r11 with r11 | r11
 exact yR
 exact yR))))))
  yR)
def Zod (r:(ZfM×Int)):D:=(D.tup [(D.agg [(zM true Zr r.1.shapes),(D.list true (List.map (Zhj true) r.1.cores))]),(Zn r.2)])
def Zlf (b:Int) (x0:((List Zf)×Int)):(((List Zf)×(List LI))⊕(LI×(List Zf)×(List LI)))->Ex×List V×Zm
  | (.inl r)=>(.ret,[(zN b),(.ptr 0 0),(zN 171),(zW true Zr x0.1),(.ptr 1 0),(.ch 2),(.sl 3 5)],[(.cells [(.nilsl 5),(.nilsl 1)]),(.cells [(zW true Zr x0.1),(.sl 4 1)]),(.ch ([]:LI)),(.arr 5 (List.map Zr r.1)),(.arr 1 (List.map (Zhj true) r.2))])
  | (.inr r)=>(.exit 0,[(zN b),(.ptr 0 0),.bad,(zW true Zr x0.1),(.ptr 1 0),(.ch 2),(.sl 3 5)],[(zK7 ),(.cells [(zW true Zr x0.1),(.sl 6 1)]),(.ch r.1),(.arr 5 (List.map Zr r.2.1)),(.arr 5 []),(.arr 1 []),(.arr 1 (List.map (Zhj true) r.2.2))])
theorem Zqd {b:Int}{x0:((List Zf)×Int)}:∀s2 r,lp (ZcL x0) s2=some r->lpW ctx 0 [1,4,6,8,9,10,49,50,51] [1,4,5,6,8,9,10] ZHN [(zN b),(.ptr 0 0),(zW true Zr x0.1),(.ptr 1 0),(.ch 2),(.sl 3 5),(zW true Zr x0.1),(zN (x0.1.length:Int)),(zN s2.1)] [(zK7 ),(.cells [(zW true Zr x0.1),(.sl 6 1)]),(.ch s2.2.1),(.arr 5 (List.map Zr s2.2.2.1)),(.arr 5 []),(.arr 1 []),(.arr 1 (List.map (Zhj true) s2.2.2.2))]=some ((Zlf b x0) r):=
 lpT (Zlf b x0) fun s2 _ ih=>yB (yG fun x3 _=>
  yC Zi4 fun x4 _=>
  yB (yC Zng fun x5 _=>
  (by
 conv=>rhs;whnf
 refine Zc _ Zuk fun x6 _=>?_
 rcases x6 with x6 | x6
 exact yT (yG fun x7 hx7=>
  Ze (Zk rfl hx7) (Zh (ZL (Zhj true) s2.2.2.2 s2.1.toNat (List.take x5.1.toNat s2.2.1)) (Zd (ih _))))
 exact yF (Zg rfl)))
  (yT (Za5 (Zbz Zr s2.2.2.1 1) (Zh (Zby Zr s2.2.2.1 [x3]) (Zd (ih _)))
  Z9)))
  (Zg rfl)
def Zk2 (b:Int) (x0:((List Zf)×Int)) (r8:(LI×(List Zf)×(List LI))):(List LI)->Ex×List V×Zm
  | r=>(.exit 2,[(.ptr 0 0),(.ptr 1 0)],[(.cells [(.sl 2 5),(.sl 3 1)]),(.cells [(zW true Zr x0.1),(.sl 4 1)]),(.arr 5 []),(.arr 1 []),(.arr 1 (List.map (Zhj true) r))])
theorem ZpC {b:Int}{x0:((List Zf)×Int)}{r8:(LI×(List Zf)×(List LI))}:∀s10 r,lp (Zer b x0 r8) s10=some r->lpW ctx 0 [4,8,17,18,97,98,99] [4,8] ZGp [(.ptr 0 0),(.ptr 1 0),(zV true s10.1),(zN (w64 (b-(r8.1.length:Int)))),(zW true Zr x0.1),(zN (x0.1.length:Int)),(zN s10.2.1)] [(.cells [(.sl 2 5),(.sl 3 1)]),(.cells [(zW true Zr x0.1),(.sl 4 1)]),(.arr 5 []),(.arr 1 []),(.arr 1 (List.map (Zhj true) s10.2.2))]=some ((Zk2 b x0 r8) r):=
 lpT (Zk2 b x0 r8) fun s10 _ ih=>yB (yG fun x11 _=>
  yC Zi4 fun x12 _=>
  yB (Zd (ih _))
  (yG fun x13 _=>
  yT (Za5 (ZED Zn s10.1 1) (Zr8 (ZKi Zn (fun _=>⟨rfl,rfl⟩) s10.1 _) (Zh (ZBu Zn s10.1 1) (yG fun x14 hx14=>
  Ze (Zk rfl hx14) (Zh (ZL (Zhj true) s10.2.2 s10.2.1.toNat [(w64 ((w64 (b-(r8.1.length:Int)))+x13))]) (Zd (ih _))))))
  Z9)))
  (Zg rfl)
theorem Zs4 {t0:Bool}{a:List Zj}{b:Int}:∀r,(ZjA a b)=some r->evD ctx 11 [(.d (D.list t0 (List.map (Zh2 true) a))),(zN b)]=some (Zod r):=
 evT ZLu rfl rfl <| Zh (Zt _ _) (yBr (yBr (yBr (yC Zsb fun x0 _=>
  yBr (Zh (Zt _ _) (yBm (Zh (Zr4 (Zhj true) (([]:LI):LI) (x0.1.length:Int)) (Zc _ Zui fun x1 _=>
  Zh (Zt _ _) (by
 conv=>rhs;whnf
 refine Zc _ (Zqd _) fun r8 _=>?_
 rcases r8 with r8 | r8
 exact yR
 exact yC Zt3 fun x9 _=>
  yBr (Zh (Zt _ _) (Zc _ (ZpC _) fun r15 _=>
  yR)))))))))))
def Znn (a:Int):(Int⊕Unit)->Ex×List V×Zm
  | (.inl r)=>(.ret,[(zN r),(.d (D.bool true))],[])
  | (.inr r)=>(.exit 0,[.bad,.bad],[])
theorem ZrX {a:Int}:∀s0 r,lp (ZdA a) s0=some r->lpW ctx 0 [0,4,5] [2,3] ZIh [(zN a),(zN s0.1),(zN s0.2)] []=some ((Znn a) r):=
 lpT (Znn a) fun s0 _ ih=>yB (yB (Zg rfl)
  (Zd (ih _)))
  (Zg rfl)
theorem ZoB {a:Int}:∀r,(ZjU a)=some r->evD ctx 81 [(zN a)]=some (ZoF r):=
 evT ZKj rfl rfl <| (by
 conv=>rhs;whnf
 refine Zc _ (ZrX _) fun r1 _=>?_
 rcases r1 with r1 | r1
 exact yR
 exact yR)
theorem Zt9 {t0 t1:Bool}{t2 t3:Bool}{a:Zj}:∀r,(ZkF a)=some r->evD ctx 124 [(.d (D.agg (dA t0 t1 t2 t3 a)))]=some (ZJ r):=
 evT ZH9 rfl rfl <| yC ZoB fun x0 _=>
  yB (yB (yB (yBr yR)
  yR)
  yR)
  yR
def Zb5 (t0 t1 t2 t3:Bool) (a:Zj):(Unit⊕Unit)->Ex×List V×Zm
  | (.inl r)=>(.ret,[(.d (D.bool false))],[])
  | (.inr r)=>(.exit 0,[.bad],[])
theorem ZpJ {t0 t1:Bool}{t2 t3:Bool}{a:Zj}:∀s0 r,lp (Zgo a) s0=some r->lpW ctx 0 [1,3] [2] ZCt [(.ptr 0 0),(zN s0)] [(.cells (dV t0 t1 t2 t3 a))]=some ((Zb5 t0 t1 t2 t3 a) r):=
 lpT (Zb5 t0 t1 t2 t3 a) fun s0 _ ih=>Zh (Zt _ _) (yB (yG fun x1 _=>
  yB (Zg rfl)
  (yB (Zg rfl)
  (yB (Zg rfl)
  (yB (Zg rfl)
  (yB (Zg rfl)
  (yB (Zg rfl)
  (Zd (ih _))))))))
  (Zg rfl))
theorem Zs5 {t0 t1:Bool}{t2 t3:Bool}{a:Zj}:∀r,(ZjF a)=some r->evD ctx 125 [(.d (D.agg (dA t0 t1 t2 t3 a)))]=some (ZJ r):=
 evT ZGn rfl rfl <| (by
 conv=>rhs;whnf
 refine Zc _ (ZpJ _) fun r2 _=>?_
 rcases r2 with r2 | r2
 exact yR
 exact yR)
theorem Zg3 {t0 t1:Bool}{t2 t3:Bool}{a:Zj}{b:Int}:∀r,(ZfR a b)=some r->evD ctx 155 [(.d (D.agg (dA t0 t1 t2 t3 a))),(zN b)]=some (ZJ r):=
 evT ZFv rfl rfl <| yB (Zh (Zt _ _) (yBr yR))
  yR
def ZkP (t0 t1 t2 t3:Bool) (a:Zj) (s0:Int) (x1:Zo):(Unit⊕Unit)->Ex×List V×Zm
  | (.inl r)=>(.ret,[(.ptr 0 0),(.d (D.bool false)),(zN s0)],[(.cells (dV t0 t1 t2 t3 a))])
  | (.inr r)=>(.exit 2,[(.ptr 0 0),.bad,(zN s0)],[(.cells (dV t0 t1 t2 t3 a))])
theorem ZpS {t0 t1:Bool}{t2 t3:Bool}{a:Zj}{s0:Int}{x1:Zo}:∀s4 r,lp (Zgp a s0 x1) s4=some r->lpW ctx 0 [1,3,4,5] [1,2,3] ZCc [(.ptr 0 0),(zN s0),(.ptr 1 0),(zN s4)] [(.cells (dV t0 t1 t2 t3 a)),(.cells [(zN x1.src),(zN x1.dst)])]=some ((ZkP t0 t1 t2 t3 a s0 x1) r):=
 lpT (ZkP t0 t1 t2 t3 a s0 x1) fun s4 _ ih=>yB (yG fun x5 hx5=>
  yB (Ze (ZW rfl hx5) (yB (Zg rfl)
  (Zd (ih _))))
  (Zd (ih _)))
  (Zg rfl)
theorem Zqa {t0 t1:Bool}{t2 t3:Bool}{a:Zj}:∀s0 r,lp (Zgu a) s0=some r->lpW ctx 0 [1,3] [2] ZB9 [(.ptr 0 0),(zN s0)] [(.cells (dV t0 t1 t2 t3 a))]=some ((Zb5 t0 t1 t2 t3 a) r):=
 lpT (Zb5 t0 t1 t2 t3 a) fun s0 _ ih=>Zh (Zt _ _) (yB (yG fun x1 _=>
  yC Zg3 fun x2 _=>
  yB (yC Zg3 fun x3 _=>
  yB (yB (Zg rfl)
  (by
 conv=>rhs;whnf
 refine Zc _ (ZpS _) fun r6 _=>?_
 rcases r6 with r6 | r6
 exact Zg rfl
 exact Zd (ih _)))
  (Zg rfl))
  (Zg rfl))
  (Zg rfl))
theorem Zs0 {t0 t1:Bool}{t2 t3:Bool}{a:Zj}:∀r,(Zjy a)=some r->evD ctx 126 [(.d (D.agg (dA t0 t1 t2 t3 a)))]=some (ZJ r):=
 evT ZGS rfl rfl <| (by
 conv=>rhs;whnf
 refine Zc _ (Zqa _) fun r7 _=>?_
 rcases r7 with r7 | r7
 exact yR
 exact yR)
def Zj2 (t0 t1 t2 t3:Bool) (a:Zj) (s0:Int) (x1:Zl):(Unit⊕Unit)->Ex×List V×Zm
  | (.inl r)=>(.ret,[(.ptr 0 0),(.d (D.bool false)),(zN s0)],[(.cells (dV t0 t1 t2 t3 a))])
  | (.inr r)=>(.exit 2,[(.ptr 0 0),.bad,(zN s0)],[(.cells (dV t0 t1 t2 t3 a))])
theorem Zot {t0 t1:Bool}{t2 t3:Bool}{a:Zj}{s0:Int}{x1:Zl}:∀s5 r,lp (ZeY a s0 x1) s5=some r->lpW ctx 0 [1,3,4,5] [1,2,3] ZCM [(.ptr 0 0),(zN s0),(.ptr 1 0),(zN s5)] [(.cells (dV t0 t1 t2 t3 a)),(.cells [(zN x1.maker),(zN x1.user),(zN x1.pos)])]=some ((Zj2 t0 t1 t2 t3 a s0 x1) r):=
 lpT (Zj2 t0 t1 t2 t3 a s0 x1) fun s5 _ ih=>yB (yG fun x6 hx6=>
  yB (Ze (ZW rfl hx6) (yB (Zg rfl)
  (Zd (ih _))))
  (Zd (ih _)))
  (Zg rfl)
theorem Zok {t0 t1:Bool}{t2 t3:Bool}{a:Zj}:∀s0 r,lp (Ze1 a) s0=some r->lpW ctx 0 [1,3] [2] ZCj [(.ptr 0 0),(zN s0)] [(.cells (dV t0 t1 t2 t3 a))]=some ((Zb5 t0 t1 t2 t3 a) r):=
 lpT (Zb5 t0 t1 t2 t3 a) fun s0 _ ih=>Zh (Zt _ _) (yB (yG fun x1 _=>
  yC Zg3 fun x2 _=>
  yB (yC Zg3 fun x3 _=>
  yB (yB (Zg rfl)
  (yB (Zg rfl)
  (yG fun x4 _=>
  yB (Zg rfl)
  (by
 conv=>rhs;whnf
 refine Zc _ (Zot _) fun r7 _=>?_
 rcases r7 with r7 | r7
 exact Zg rfl
 exact Zd (ih _)))))
  (Zg rfl))
  (Zg rfl))
  (Zg rfl))
theorem ZqO {t0 t1:Bool}{t2 t3:Bool}{a:Zj}:∀r,(Zig a)=some r->evD ctx 127 [(.d (D.agg (dA t0 t1 t2 t3 a)))]=some (ZJ r):=
 evT ZGY rfl rfl <| (by
 conv=>rhs;whnf
 refine Zc _ (Zok _) fun r8 _=>?_
 rcases r8 with r8 | r8
 exact yR
 exact yR)
theorem ZrM {t0 t1:Bool}{t2 t3 t4:Bool}{a:Zj}{b:LI}:∀s0 r,lp (ZhJ a b) s0=some r->lpW ctx 0 [1,2,5] [1,4] ZB0 [(zV t4 b),(.ptr 0 0),(zN s0)] [(.cells (dV t0 t1 t2 t3 a))]=some ((Zid t0 t1 t2 t3 t4 a b) r):=
 lpT (Zid t0 t1 t2 t3 t4 a b) fun s0 _ ih=>Zh (Zt _ _) (yB (yG fun x1 hx1=>
  yC Zg3 fun x2 _=>
  yB (yB (yG fun x3 _=>
  Ze (ZW rfl hx1) (yB (Zg rfl)
  (Zd (ih _))))
  (Zd (ih _)))
  (Zg rfl))
  (Zg rfl))
theorem Zpd {t0 t1:Bool}{t2 t3 t4:Bool}{a:Zj}{b:LI}:∀r,(ZjV a b)=some r->evD ctx 156 [(.d (D.agg (dA t0 t1 t2 t3 a))),(zV t4 b)]=some (ZJ r):=
 evT ZHr rfl rfl <| (by
 conv=>rhs;whnf
 refine Zc _ (ZrM _) fun r4 _=>?_
 rcases r4 with r4 | r4
 exact yR
 exact Zh (Zt _ _) (yBr yR))
def Zm5 (t0:Bool) (a:LI) (b:Int):(Unit⊕Unit)->Ex×List V×Zm
  | (.inl r)=>(.ret,[(.d (D.bool true))],[])
  | (.inr r)=>(.exit 0,[.bad],[])
theorem Zr1 {t0:Bool}{a:LI}{b:Int}:∀s0 r,lp (ZhE a b) s0=some r->lpW ctx 0 [0,1,5] [4] ZEM [(zV t0 a),(zN b),(zN s0)] []=some ((Zm5 t0 a b) r):=
 lpT (Zm5 t0 a b) fun s0 _ ih=>Zh (Zt _ _) (yB (yG fun x1 _=>
  yB (Zg rfl)
  (Zd (ih _)))
  (Zg rfl))
theorem ZoS {t0:Bool}{a:LI}{b:Int}:∀r,(ZjQ a b)=some r->evD ctx 29 [(zV t0 a),(zN b)]=some (ZJ r):=
 evT ZKC rfl rfl <| (by
 conv=>rhs;whnf
 refine Zc _ (Zr1 _) fun r2 _=>?_
 rcases r2 with r2 | r2
 exact yR
 exact yR)
def ZiY (t0 t1 t2 t3:Bool) (a:Zj) (s0:Int) (x1:Zv):(Unit⊕Unit)->Ex×List V×Zm
  | (.inl r)=>(.ret,[(.ptr 0 0),(.d (D.bool false)),(zN s0)],[(.cells (dV t0 t1 t2 t3 a))])
  | (.inr r)=>(.exit 2,[(.ptr 0 0),.bad,(zN s0)],[(.cells (dV t0 t1 t2 t3 a))])
theorem ZnX {t0 t1:Bool}{t2 t3:Bool}{a:Zj}{s0:Int}{x1:Zv}:∀s4 r,lp (Zd3 x1) s4=some r->lpW ctx 0 [1,3,4,5] [1,2,3] ZCW [(.ptr 0 0),(zN s0),(.ptr 1 0),(zN s4)] [(.cells (dV t0 t1 t2 t3 a)),(zK8 true x1.ins true x1.outs)]=some ((ZiY t0 t1 t2 t3 a s0 x1) r):=
 lpT (ZiY t0 t1 t2 t3 a s0 x1) fun s4 _ ih=>Zh (Zt _ _) (yB (yG fun x5 _=>
  yC ZoS fun x6 _=>
  yB (Zg rfl)
  (Zd (ih _)))
  (Zg rfl))
theorem ZnR {t0 t1:Bool}{t2 t3:Bool}{a:Zj}:∀s0 r,lp (Zd4 a) s0=some r->lpW ctx 0 [1,3] [2] ZCP [(.ptr 0 0),(zN s0)] [(.cells (dV t0 t1 t2 t3 a))]=some ((Zb5 t0 t1 t2 t3 a) r):=
 lpT (Zb5 t0 t1 t2 t3 a) fun s0 _ ih=>Zh (Zt _ _) (yB (yG fun x1 _=>
  yC Zpd fun x2 _=>
  yB (yC Zpd fun x3 _=>
  yB ((by
 conv=>rhs;whnf
 refine Zc _ (ZnX _) fun r7 _=>?_
 rcases r7 with r7 | r7
 exact Zg rfl
 exact Zd (ih _)))
  (Zg rfl))
  (Zg rfl))
  (Zg rfl))
theorem Zpy {t0 t1:Bool}{t2 t3:Bool}{a:Zj}:∀r,(ZhN a)=some r->evD ctx 128 [(.d (D.agg (dA t0 t1 t2 t3 a)))]=some (ZJ r):=
 evT ZGW rfl rfl <| (by
 conv=>rhs;whnf
 refine Zc _ (ZnR _) fun r8 _=>?_
 rcases r8 with r8 | r8
 exact yR
 exact yR)
theorem ZsZ {t0 t1:Bool}{t2 t3:Bool}{a:Zj}:∀r,(Zjx a)=some r->evD ctx 98 [(.d (D.agg (dA t0 t1 t2 t3 a)))]=some (ZC r):=
 evT ZLp rfl rfl <| Zh (Zt _ _) (yBr (Zh (Zt _ _) (yBr (Zh (Zt _ _) (yBr (Zh (Zt _ _) (yBr (Zh (Zt _ _) (yBr (yC Zt9 fun x0 _=>
  yB (yC Zs5 fun x1 _=>
  yB (yC Zs0 fun x2 _=>
  yB (yC ZqO fun x3 _=>
  yB (yC Zpy fun x4 _=>
  yBr yR)
  yR)
  yR)
  yR)
  yR))))))))))
def ZjT (t0 t1 t2 t3:Bool) (a:Zj) (b:Int) (s0:Int×LI):LI->Ex×List V×Zm
  | r=>(.exit 2,[(zN b),(.ptr 0 0),(.sl 1 1),(zN s0.1)],[(.cells (dV t0 t1 t2 t3 a)),(zA r)])
theorem Zol {t0 t1:Bool}{t2 t3:Bool}{a:Zj}{b:Int}{s0:Int×LI}:∀s1 r,lp (Zdg a b s0) s1=some r->lpW ctx 0 [1,2,5,6,7] [1,2,5,6] ZCo [(zN b),(.ptr 0 0),(.sl 1 1),(zN s0.1),(zN s1.1)] [(.cells (dV t0 t1 t2 t3 a)),(zA s1.2)]=some ((ZjT t0 t1 t2 t3 a b s0) r):=
 lpT (ZjT t0 t1 t2 t3 a b s0) fun s1 _ ih=>Zh (Zt _ _) (yB (yG fun x2 hx2=>
  yB (Ze (ZW rfl hx2) (yB (yT (Za5 (Zbz Zn s1.2 1) (Zh (Zby Zn s1.2 [s1.1]) (Zd (ih _)))
  Z9))
  (Zd (ih _))))
  (Zd (ih _)))
  (Zg rfl))
def ZjS (t0 t1 t2 t3:Bool) (a:Zj) (b:Int):LI->Ex×List V×Zm
  | r=>(.exit 0,[(.sl 0 1)],[(zA r)])
theorem Zom {t0 t1:Bool}{t2 t3:Bool}{a:Zj}{b:Int}:∀s0 r,lp (ZgR a b) s0=some r->lpW ctx 0 [1,2,5,6] [5] ZDk [(zN b),(.ptr 0 0),(.sl 1 1),(zN s0.1)] [(.cells (dV t0 t1 t2 t3 a)),(zA s0.2)]=some ((ZjS t0 t1 t2 t3 a b) r):=
 lpT (ZjS t0 t1 t2 t3 a b) fun s0 _ ih=>yB (Zc _ (Zol _) fun r3 _=>
  Zd (ih _))
  (Zg rfl)
theorem ZkQ {t0 t1:Bool}{t2 t3:Bool}{a:Zj}{b:Int}:∀r,(ZfG a b)=some r->evD ctx 157 [(.d (D.agg (dA t0 t1 t2 t3 a))),(zN b)]=some (Zcd r):=
 evT ZHW rfl rfl <| Zc _ (Zom _) fun r4 _=>
  yR
def ZlN (t0 t1 t2 t3:Bool) (a:Zj) (b:Int) (x0:LI):(Int×LI)->Ex×List V×Zm
  | r=>(.exit 0,[(zN b),(.ptr 0 0),(.sl 1 1),(zN r.1)],[(.cells (dV t0 t1 t2 t3 a)),(zA r.2)])
theorem Zpx {t0 t1:Bool}{t2 t3:Bool}{a:Zj}{b:Int}{x0:LI}:∀s1 r,lp (ZeG a x0) s1=some r->lpW ctx 0 [1,2,5,6,7,8] [1,2,5,6] ZC6 [(zN b),(.ptr 0 0),(.sl 1 1),(zN s1.1),(zV true x0),(zN s1.2.1)] [(.cells (dV t0 t1 t2 t3 a)),(zA s1.2.2)]=some ((ZlN t0 t1 t2 t3 a b x0) r):=
 lpT (ZlN t0 t1 t2 t3 a b x0) fun s1 _ ih=>Zh (Zt _ _) (yB (yG fun x2 _=>
  yG fun x3 _=>
  yT (Za5 (Zbz Zn s1.2.2 1) (Zh (Zby Zn s1.2.2 [(w64 (x3.pos-s1.1))]) (Zd (ih _)))
  Z9))
  (Zg rfl))
theorem Zno {t0 t1:Bool}{t2 t3:Bool}{a:Zj}{b:Int}:∀r,(Zia a b)=some r->evD ctx 129 [(.d (D.agg (dA t0 t1 t2 t3 a))),(zN b)]=some (Zcd r):=
 evT ZHj rfl rfl <| yC ZkQ fun x0 _=>
  Zc _ (Zpx _) fun r4 _=>
  yG fun x5 _=>
  yT (Za5 (Zbz Zn r4.2 1) (Zh (Zby Zn r4.2 [(w64 (x5.work-r4.1))]) yR)
  Z9)
def Zlw (t0 t1 t2 t3:Bool) (a:Zj) (b:Int):Int->Ex×List V×Zm
  | r=>(.exit 0,[(zN r)],[])
theorem Zpz {t0 t1:Bool}{t2 t3:Bool}{a:Zj}{b:Int}:∀s0 r,lp (Zeu a b) s0=some r->lpW ctx 0 [1,2,5,6] [5] ZB2 [(zN b),(.ptr 0 0),(zN s0.1),(zN s0.2)] [(.cells (dV t0 t1 t2 t3 a))]=some ((Zlw t0 t1 t2 t3 a b) r):=
 lpT (Zlw t0 t1 t2 t3 a b) fun s0 _ ih=>yB (yC Zno fun x1 _=>
  Zh (Zt _ _) (Zd (ih _)))
  (Zg rfl)
theorem ZeE {t0 t1:Bool}{t2 t3:Bool}{a:Zj}{b:Int}:∀r,(ZcT a b)=some r->evD ctx 130 [(.d (D.agg (dA t0 t1 t2 t3 a))),(zN b)]=some (ZC r):=
 evT ZGH rfl rfl <| Zc _ (Zpz _) fun r2 _=>
  yR
theorem Zi6 {t0 t1:Bool}{t2 t3:Bool}{a:Zj}{b:Int}:∀r,(Zhd a b)=some r->evD ctx 131 [(.d (D.agg (dA t0 t1 t2 t3 a))),(zN b)]=some (ZC r):=
 evT ZHL rfl rfl <| yC ZeE fun x0 _=>
  yR
def ZkR (t0 t1 t2 t3:Bool) (a:Zj) (b:Zl) (x0:LI):(Int⊕Unit)->Ex×List V×Zm
  | (.inl r)=>(.ret,[(zN r)],[])
  | (.inr r)=>(.exit 0,[.bad],[])
theorem ZpF {t0 t1:Bool}{t2 t3:Bool}{a:Zj}{b:Zl}{x0:LI}:∀s1 r,lp (Zgy a b x0) s1=some r->lpW ctx 0 [2,3,5,6] [4] ZCH [(.ptr 0 0),(.ptr 1 0),(zV true x0),(zN s1)] [(.cells (dV t0 t1 t2 t3 a)),(.cells [(zN b.maker),(zN b.user),(zN b.pos)])]=some ((ZkR t0 t1 t2 t3 a b x0) r):=
 lpT (ZkR t0 t1 t2 t3 a b x0) fun s1 _ ih=>Zh (Zt _ _) (yB (yG fun x2 _=>
  yG fun x3 _=>
  yB (yC ZeE fun x4 _=>
  Zg rfl)
  (Zd (ih _)))
  (Zg rfl))
theorem Zs3 {t0 t1:Bool}{t2 t3:Bool}{a:Zj}{b:Zl}:∀r,(ZjH a b)=some r->evD ctx 132 [(.d (D.agg (dA t0 t1 t2 t3 a))),(.d (D.agg [(Zn b.maker),(Zn b.user),(Zn b.pos)]))]=some (ZC r):=
 evT ZHS rfl rfl <| yC ZkQ fun x0 _=>
  (by
 conv=>rhs;whnf
 refine Zc _ (ZpF _) fun r5 _=>?_
 rcases r5 with r5 | r5
 exact yR
 exact yR)
def Zug (r:ZoC):D:=(D.agg [(zL true r.dag.work),(zM true Zab r.dag.edges),(zM true ZaA r.pieces)])
def Zk4 (t0 t1 t2 t3:Bool) (a:Zj) (s0:Int×(List Zo)×LI×(List Zi)) (x1:LI):((List Zo)×LI×(List Zi))->Ex×List V×Zm
  | r=>(.exit 2,[(.ptr 0 0),(.ptr 1 0),(.ptr 2 0),(.sl 3 2),(zN s0.1)],[(.cells (dV t0 t1 t2 t3 a)),(zK4 ),(zK5 ),(.arr 2 (List.map Zab r.1)),(.arr 1 []),(.arr 2 []),(.arr 2 []),(zA r.2.1),(.arr 2 []),(.arr 2 (List.map ZaA r.2.2))])
theorem ZpV {t0 t1:Bool}{t2 t3:Bool}{a:Zj}{s0:Int×(List Zo)×LI×(List Zi)}{x1:LI}:∀s2 r,lp (Zev a s0 x1) s2=some r->lpW ctx 0 [1,2,3,4,5,6,7] [1,2,3,4,5] ZFc [(.ptr 0 0),(.ptr 1 0),(.ptr 2 0),(.sl 3 2),(zN s0.1),(zV true x1),(zN s2.1)] [(.cells (dV t0 t1 t2 t3 a)),(zK4 ),(zK5 ),(.arr 2 (List.map Zab s2.2.1)),(.arr 1 []),(.arr 2 []),(.arr 2 []),(zA s2.2.2.1),(.arr 2 []),(.arr 2 (List.map ZaA s2.2.2.2))]=some ((Zk4 t0 t1 t2 t3 a s0 x1) r):=
 lpT (Zk4 t0 t1 t2 t3 a s0 x1) fun s2 _ ih=>Zh (Zt _ _) (yB (yT (Za5 (Zbz ZaA s2.2.2.2 1) (Zh (Zby ZaA s2.2.2.2 [(Zi.mk s0.1 s2.1)]) (yG fun x3 _=>
  yT (Za5 (Zbz Zn s2.2.2.1 1) (Zh (Zby Zn s2.2.2.1 [x3]) (yB (yC ZeE fun x4 _=>
  yC ZeE fun x5 _=>
  yT (Za5 (Zbz Zab s2.2.1 1) (Zh (Zby Zab s2.2.1 [(Zo.mk (w64 ((w64 (x4+s2.1))-1)) (w64 (x5+s2.1)))]) (Zd (ih _)))
  Z9))
  (Zd (ih _))))
  Z9)))
  Z9))
  (Zg rfl))
def Zly (t0 t1 t2 t3:Bool) (a:Zj):((List Zo)×LI×(List Zi))->Ex×List V×Zm
  | r=>(.exit 0,[(.ptr 0 0),(.ptr 1 0),(.ptr 2 0),(.sl 3 2)],[(.cells (dV t0 t1 t2 t3 a)),(zK4 ),(zK5 ),(.arr 2 (List.map Zab r.1)),(.arr 1 []),(.arr 2 []),(.arr 2 []),(zA r.2.1),(.arr 2 []),(.arr 2 (List.map ZaA r.2.2))])
theorem Zp2 {t0 t1:Bool}{t2 t3:Bool}{a:Zj}:∀s0 r,lp (ZeH a) s0=some r->lpW ctx 0 [1,2,3,4,5] [1,2,3,4] ZH7 [(.ptr 0 0),(.ptr 1 0),(.ptr 2 0),(.sl 3 2),(zN s0.1)] [(.cells (dV t0 t1 t2 t3 a)),(zK4 ),(zK5 ),(.arr 2 (List.map Zab s0.2.1)),(.arr 1 []),(.arr 2 []),(.arr 2 []),(zA s0.2.2.1),(.arr 2 []),(.arr 2 (List.map ZaA s0.2.2.2))]=some ((Zly t0 t1 t2 t3 a) r):=
 lpT (Zly t0 t1 t2 t3 a) fun s0 _ ih=>Zh (Zt _ _) (yB (yC Zno fun x1 _=>
  Zc _ (ZpV _) fun r6 _=>
  Zd (ih _))
  (Zg rfl))
def Zk1 (t0 t1 t2 t3:Bool) (a:Zj) (r7:((List Zo)×LI×(List Zi))):(List Zo)->Ex×List V×Zm
  | r=>(.exit 4,[(.ptr 0 0),(.ptr 1 0),(.ptr 2 0),(.sl 3 2)],[(.cells (dV t0 t1 t2 t3 a)),(zK4 ),(zK5 ),(.arr 2 (List.map Zab r)),(.arr 1 []),(.arr 2 []),(.arr 2 []),(zA r7.2.1),(.arr 2 []),(.arr 2 (List.map ZaA r7.2.2))])
theorem ZpO {t0 t1:Bool}{t2 t3:Bool}{a:Zj}{r7:((List Zo)×LI×(List Zi))}:∀s8 r,lp (ZeD a) s8=some r->lpW ctx 0 [1,2,3,4,8] [1,2,3,4] ZGO [(.ptr 0 0),(.ptr 1 0),(.ptr 2 0),(.sl 3 2),(zN s8.1)] [(.cells (dV t0 t1 t2 t3 a)),(zK4 ),(zK5 ),(.arr 2 (List.map Zab s8.2)),(.arr 1 []),(.arr 2 []),(.arr 2 []),(zA r7.2.1),(.arr 2 []),(.arr 2 (List.map ZaA r7.2.2))]=some ((Zk1 t0 t1 t2 t3 a r7) r):=
 lpT (Zk1 t0 t1 t2 t3 a r7) fun s8 _ ih=>Zh (Zt _ _) (yB (yG fun x9 hx9=>
  yC Zi6 fun x10 _=>
  Ze (ZW rfl hx9) (yC ZeE fun x11 _=>
  yT (Za5 (Zbz Zab s8.2 1) (Zh (Zby Zab s8.2 [(Zo.mk x10 x11)]) (Zd (ih _)))
  Z9)))
  (Zg rfl))
def ZlG (t0 t1 t2 t3:Bool) (a:Zj) (r7:((List Zo)×LI×(List Zi))):(List Zo)->Ex×List V×Zm
  | r=>(.exit 6,[(.ptr 0 0),(.ptr 1 0),(.ptr 2 0),(.sl 3 2)],[(.cells (dV t0 t1 t2 t3 a)),(zK4 ),(zK5 ),(.arr 2 (List.map Zab r)),(.arr 1 []),(.arr 2 []),(.arr 2 []),(zA r7.2.1),(.arr 2 []),(.arr 2 (List.map ZaA r7.2.2))])
theorem ZpQ {t0 t1:Bool}{t2 t3:Bool}{a:Zj}{r7:((List Zo)×LI×(List Zi))}:∀s13 r,lp (Zep a) s13=some r->lpW ctx 0 [1,2,3,4,9] [1,2,3,4] ZGB [(.ptr 0 0),(.ptr 1 0),(.ptr 2 0),(.sl 3 2),(zN s13.1)] [(.cells (dV t0 t1 t2 t3 a)),(zK4 ),(zK5 ),(.arr 2 (List.map Zab s13.2)),(.arr 1 []),(.arr 2 []),(.arr 2 []),(zA r7.2.1),(.arr 2 []),(.arr 2 (List.map ZaA r7.2.2))]=some ((ZlG t0 t1 t2 t3 a r7) r):=
 lpT (ZlG t0 t1 t2 t3 a r7) fun s13 _ ih=>Zh (Zt _ _) (yB (yG fun x14 hx14=>
  yC Zi6 fun x15 _=>
  Ze (ZW rfl hx14) (yC Zs3 fun x16 _=>
  yT (Za5 (Zbz Zab s13.2 1) (Zh (Zby Zab s13.2 [(Zo.mk x15 x16)]) (Zd (ih _)))
  Z9)))
  (Zg rfl))
def ZlK (t0 t1 t2 t3:Bool) (a:Zj) (s18:Int×(List Zo)×LI×(List Zi)) (x19:Zv):(List Zo)->Ex×List V×Zm
  | r=>(.exit 10,[(.ptr 0 0),(.ptr 1 0),(.ptr 2 0),(.sl 3 2),(zN s18.1),(zN (s18.2.2.2.length:Int)),(.ptr 4 0)],[(.cells (dV t0 t1 t2 t3 a)),(.cells [(.sl 5 1),(.sl 6 2),(.sl 7 2)]),(.cells [(.sl 8 1),(.sl 9 2),(.sl 10 2)]),(.arr 2 (List.map Zab r)),(zK8 true x19.ins true x19.outs),(.arr 1 []),(.arr 2 []),(.arr 2 []),(zA (s18.2.2.1++[1])),(.arr 2 []),(.arr 2 (List.map ZaA (s18.2.2.2++[(Zi.mk (-1) s18.1)])))])
theorem ZpP {t0 t1:Bool}{t2 t3:Bool}{a:Zj}{s18:Int×(List Zo)×LI×(List Zi)}{x19:Zv}:∀s20 r,lp (ZgE a s18 x19) s20=some r->lpW ctx 0 [1,2,3,4,10,11,12,13] [1,2,3,4,10,11,12] ZEK [(.ptr 0 0),(.ptr 1 0),(.ptr 2 0),(.sl 3 2),(zN s18.1),(zN (s18.2.2.2.length:Int)),(.ptr 4 0),(zN s20.1)] [(.cells (dV t0 t1 t2 t3 a)),(.cells [(.sl 5 1),(.sl 6 2),(.sl 7 2)]),(.cells [(.sl 8 1),(.sl 9 2),(.sl 10 2)]),(.arr 2 (List.map Zab s20.2)),(zK8 true x19.ins true x19.outs),(.arr 1 []),(.arr 2 []),(.arr 2 []),(zA (s18.2.2.1++[1])),(.arr 2 []),(.arr 2 (List.map ZaA (s18.2.2.2++[(Zi.mk (-1) s18.1)])))]=some ((ZlK t0 t1 t2 t3 a s18 x19) r):=
 lpT (ZlK t0 t1 t2 t3 a s18 x19) fun s20 _ ih=>Zh (Zt _ _) (yB (yG fun x21 _=>
  yC Zi6 fun x22 _=>
  yT (Za5 (Zbz Zab s20.2 1) (Zh (Zby Zab s20.2 [(Zo.mk x22 (s18.2.2.2.length:Int))]) (Zd (ih _)))
  Z9))
  (Zg rfl))
def Zk9 (t0 t1 t2 t3:Bool) (a:Zj) (s18:Int×(List Zo)×LI×(List Zi)) (x19:Zv):(List Zo)->Ex×List V×Zm
  | r=>(.exit 12,[(.ptr 0 0),(.ptr 1 0),(.ptr 2 0),(.sl 3 2),(zN s18.1)],[(.cells (dV t0 t1 t2 t3 a)),(zK4 ),(zK5 ),(.arr 2 (List.map Zab r)),(.arr 1 []),(.arr 2 []),(.arr 2 []),(zA (s18.2.2.1++[1])),(.arr 2 []),(.arr 2 (List.map ZaA (s18.2.2.2++[(Zi.mk (-1) s18.1)])))])
theorem Zp7 {t0 t1:Bool}{t2 t3:Bool}{a:Zj}{s18:Int×(List Zo)×LI×(List Zi)}{x19:Zv}:∀s24 r,lp (Zgb a s18 x19) s24=some r->lpW ctx 0 [1,2,3,4,10,11,12,14] [1,2,3,4,10] ZEV [(.ptr 0 0),(.ptr 1 0),(.ptr 2 0),(.sl 3 2),(zN s18.1),(zN (s18.2.2.2.length:Int)),(.ptr 4 0),(zN s24.1)] [(.cells (dV t0 t1 t2 t3 a)),(.cells [(.sl 5 1),(.sl 6 2),(.sl 7 2)]),(.cells [(.sl 8 1),(.sl 9 2),(.sl 10 2)]),(.arr 2 (List.map Zab s24.2)),(zK8 true x19.ins true x19.outs),(.arr 1 []),(.arr 2 []),(.arr 2 []),(zA (s18.2.2.1++[1])),(.arr 2 []),(.arr 2 (List.map ZaA (s18.2.2.2++[(Zi.mk (-1) s18.1)])))]=some ((Zk9 t0 t1 t2 t3 a s18 x19) r):=
 lpT (Zk9 t0 t1 t2 t3 a s18 x19) fun s24 _ ih=>Zh (Zt _ _) (yB (yG fun x25 _=>
  yC ZeE fun x26 _=>
  yT (Za5 (Zbz Zab s24.2 1) (Zh (Zby Zab s24.2 [(Zo.mk (s18.2.2.2.length:Int) x26)]) (Zd (ih _)))
  Z9))
  (Zg rfl))
def ZlC (t0 t1 t2 t3:Bool) (a:Zj):((List Zo)×LI×(List Zi))->Ex×List V×Zm
  | r=>(.exit 8,[(.ptr 0 0),(.ptr 1 0),(.sl 2 2)],[(zK6 ),(.cells [(.sl 6 1),(.sl 7 2),(.sl 8 2)]),(.arr 2 (List.map Zab r.1)),(.arr 1 []),(.arr 2 []),(.arr 2 []),(zA r.2.1),(.arr 2 []),(.arr 2 (List.map ZaA r.2.2))])
theorem ZpW {t0 t1:Bool}{t2 t3:Bool}{a:Zj}:∀s18 r,lp (Zen a) s18=some r->lpW ctx 0 [1,2,3,4,10] [2,3,4] ZF9 [(.ptr 0 0),(.ptr 1 0),(.ptr 2 0),(.sl 3 2),(zN s18.1)] [(.cells (dV t0 t1 t2 t3 a)),(zK4 ),(zK5 ),(.arr 2 (List.map Zab s18.2.1)),(.arr 1 []),(.arr 2 []),(.arr 2 []),(zA s18.2.2.1),(.arr 2 []),(.arr 2 (List.map ZaA s18.2.2.2))]=some ((ZlC t0 t1 t2 t3 a) r):=
 lpT (ZlC t0 t1 t2 t3 a) fun s18 _ ih=>Zh (Zt _ _) (yB (Zh (Zt _ _) (yT (Za5 (Zbz ZaA s18.2.2.2 1) (Zh (Zby ZaA s18.2.2.2 [(Zi.mk (-1) s18.1)]) (yT (Za5 (Zbz Zn s18.2.2.1 1) (Zh (Zby Zn s18.2.2.1 [1]) (yG fun x19 _=>
  Zc _ (ZpP _) fun r23 _=>
  Zc _ (Zp7 _) fun r27 _=>
  Zd (ih _)))
  Z9)))
  Z9)))
  (Zg rfl))
theorem Zsy {t0 t1:Bool}{t2 t3:Bool}{a:Zj}:∀r,(Zjt a)=some r->evD ctx 99 [(.d (D.agg (dA t0 t1 t2 t3 a)))]=some (Zug r):=
 evT ZJ5 rfl rfl <| Zc _ (Zp2 _) fun r7 _=>
  Zc _ (ZpO _) fun r12 _=>
  Zc _ (ZpQ _) fun r17 _=>
  Zc _ (ZpW _) fun r28 _=>
  yR
theorem Zoa {t0 t1:Bool}{a:Z5}{b:Int}:∀r,(ZiF a b)=some r->evD ctx 158 [(.d (zK3 t0 a.work t1 a.edges)),(zN b)]=some (ZJ r):=
 evT ZFZ rfl rfl <| yB (Zh (Zt _ _) (yBr yR))
  yR
def Zlv (t0 t1:Bool) (a:Z5):(Unit⊕Unit)->Ex×List V×Zm
  | (.inl r)=>(.ret,[(.ptr 0 0),(zN 41)],[(zK1 t0 a.work t1 a.edges)])
  | (.inr r)=>(.exit 0,[(.ptr 0 0),.bad],[(zK1 t0 a.work t1 a.edges)])
theorem Zqc {t0 t1:Bool}{a:Z5}:∀s0 r,lp (Zgc a) s0=some r->lpW ctx 0 [1,3] [1,2] ZCO [(.ptr 0 0),(zN s0)] [(zK1 t0 a.work t1 a.edges)]=some ((Zlv t0 t1 a) r):=
 lpT (Zlv t0 t1 a) fun s0 _ ih=>Zh (Zt _ _) (yB (yG fun x1 hx1=>
  yB (Zg rfl)
  (Ze (ZW rfl hx1) (yB (Zg rfl)
  (Zd (ih _)))))
  (Zg rfl))
def Zlc (t0 t1:Bool) (a:Z5) (s3:Int) (x4:Zo):(Unit⊕Unit)->Ex×List V×Zm
  | (.inl r)=>(.ret,[(.ptr 0 0),(zN 42),(zN s3)],[(zK1 t0 a.work t1 a.edges)])
  | (.inr r)=>(.exit 4,[(.ptr 0 0),.bad,(zN s3)],[(zK1 t0 a.work t1 a.edges)])
theorem ZpH {t0 t1:Bool}{a:Z5}{s3:Int}{x4:Zo}:∀s7 r,lp (Zgz a s3 x4) s7=some r->lpW ctx 0 [1,4,5,6] [1,2,4] ZCU [(.ptr 0 0),(zN s3),(.ptr 1 0),(zN s7)] [(zK1 t0 a.work t1 a.edges),(.cells [(zN x4.src),(zN x4.dst)])]=some ((Zlc t0 t1 a s3 x4) r):=
 lpT (Zlc t0 t1 a s3 x4) fun s7 _ ih=>yB (yG fun x8 _=>
  yB (Zg rfl)
  (Zd (ih _)))
  (Zg rfl)
def Zlt (t0 t1:Bool) (a:Z5):(Unit⊕Unit)->Ex×List V×Zm
  | (.inl r)=>(.ret,[(zN 42)],[])
  | (.inr r)=>(.exit 2,[.bad],[])
theorem ZpY {t0 t1:Bool}{a:Z5}:∀s3 r,lp (Zgj a) s3=some r->lpW ctx 0 [1,4] [2] ZCd [(.ptr 0 0),(zN s3)] [(zK1 t0 a.work t1 a.edges)]=some ((Zlt t0 t1 a) r):=
 lpT (Zlt t0 t1 a) fun s3 _ ih=>Zh (Zt _ _) (yB (yG fun x4 _=>
  yC Zoa fun x5 _=>
  yB (yC Zoa fun x6 _=>
  yB (yB (Zg rfl)
  (by
 conv=>rhs;whnf
 refine Zc _ (ZpH _) fun r9 _=>?_
 rcases r9 with r9 | r9
 exact Zg rfl
 exact Zd (ih _)))
  (Zg rfl))
  (Zg rfl))
  (Zg rfl))
theorem Zto {t0 t1:Bool}{a:Z5}:∀r,(ZjB a)=some r->evD ctx 133 [(.d (zK3 t0 a.work t1 a.edges))]=some (ZC r):=
 evT ZFS rfl rfl <| Zh (Zt _ _) (yBr (Zh (Zt _ _) (yBr (by
 conv=>rhs;whnf
 refine Zc _ (Zqc _) fun r2 _=>?_
 rcases r2 with r2 | r2
 exact yR
 exact(by
 conv=>rhs;whnf
 refine Zc _ (ZpY _) fun r10 _=>?_
 rcases r10 with r10 | r10
 exact yR
 exact yR)))))
def Zt7 (r:List Bool):D:=(D.list true (List.map D.bool r))
def ZlL (t0 t1:Bool) (a:Z5) (b:Int) (s0:Int×(List Bool)):(List Bool)->Ex×List V×Zm
  | r=>(.exit 2,[(zN b),(.ptr 0 0),(.sl 1 1),(zN s0.1)],[(zK1 t0 a.work t1 a.edges),(.arr 1 (List.map D.bool r))])
theorem ZpB {t0 t1:Bool}{a:Z5}{b:Int}{s0:Int×(List Bool)}:∀s1 r,lp (ZeL a b) s1=some r->lpW ctx 0 [1,2,5,6,7] [1,2,5,6] ZCk [(zN b),(.ptr 0 0),(.sl 1 1),(zN s0.1),(zN s1.1)] [(zK1 t0 a.work t1 a.edges),(.arr 1 (List.map D.bool s1.2))]=some ((ZlL t0 t1 a b s0) r):=
 lpT (ZlL t0 t1 a b s0) fun s1 _ ih=>Zh (Zt _ _) (yB (yG fun x2 _=>
  yB (yG fun x3 hx3=>
  Ze (Zk rfl hx3) (Zh (ZL D.bool s1.2 x2.dst.toNat true) (Zd (ih _))))
  (yG fun x4 hx4=>
  Ze (Zk rfl hx4) (yB (yG fun x5 hx5=>
  Ze (Zk rfl hx5) (Zh (ZL D.bool s1.2 x2.dst.toNat true) (Zd (ih _))))
  (Zd (ih _)))))
  (Zg rfl))
def Zlp (t0 t1:Bool) (a:Z5) (b:Int):(List Bool)->Ex×List V×Zm
  | r=>(.exit 0,[(.sl 0 1)],[(.arr 1 (List.map D.bool r))])
theorem ZpG {t0 t1:Bool}{a:Z5}{b:Int}:∀s0 r,lp (Zet a b) s0=some r->lpW ctx 0 [1,2,5,6] [5] ZCT [(zN b),(.ptr 0 0),(.sl 1 1),(zN s0.1)] [(zK1 t0 a.work t1 a.edges),(.arr 1 (List.map D.bool s0.2))]=some ((Zlp t0 t1 a b) r):=
 lpT (Zlp t0 t1 a b) fun s0 _ ih=>Zh (Zt _ _) (yB (Zc _ (ZpB _) fun r6 _=>
  Zd (ih _))
  (Zg rfl))
theorem Zta {t0 t1:Bool}{a:Z5}{b:Int}:∀r,(ZjG a b)=some r->evD ctx 134 [(.d (zK3 t0 a.work t1 a.edges)),(zN b)]=some (Zt7 r):=
 evT ZEE rfl rfl <| Zh (Zt _ _) (yBm (Zh (Zr4 D.bool (false:Bool) (a.work.length:Int)) (Zc _ (ZpG _) fun r7 _=>
  yR)))
def Zlb (t0 t1:Bool) (a:Z5):(Unit⊕Unit)->Ex×List V×Zm
  | (.inl r)=>(.ret,[(zN 43)],[])
  | (.inr r)=>(.exit 0,[.bad],[])
theorem ZpN {t0 t1:Bool}{a:Z5}:∀s1 r,lp (Zgs a) s1=some r->lpW ctx 0 [1,4] [2] ZCh [(.ptr 0 0),(zN s1)] [(zK1 t0 a.work t1 a.edges)]=some ((Zlb t0 t1 a) r):=
 lpT (Zlb t0 t1 a) fun s1 _ ih=>Zh (Zt _ _) (yB (yC Zta fun x2 _=>
  yG fun x3 _=>
  yB (Zg rfl)
  (Zd (ih _)))
  (Zg rfl))
theorem ZsW {t0 t1:Bool}{a:Z5}:∀r,(Zjs a)=some r->evD ctx 100 [(.d (zK3 t0 a.work t1 a.edges))]=some (ZC r):=
 evT ZHA rfl rfl <| yC Zto fun x0 _=>
  yBr (by
 conv=>rhs;whnf
 refine Zc _ (ZpN _) fun r4 _=>?_
 rcases r4 with r4 | r4
 exact yR
 exact yR)
theorem Zs1 {t0 t1:Bool}{t2 t3:Bool}{a:Zj}:∀r,(Zjo a)=some r->evD ctx 69 [(.d (D.agg (dA t0 t1 t2 t3 a)))]=some (Zob r):=
 evT ZLq rfl rfl <| yC ZsZ fun x0 _=>
  yBr (yC Zsy fun x1 _=>
  yC ZsW fun x2 _=>
  yBr yR)
def Zlo (t0 t1:Bool) (a:Z5):Int->Ex×List V×Zm
  | r=>(.exit 0,[(zN r)],[])
theorem ZpU {t0 t1:Bool}{a:Z5}:∀s0 r,lp (Zgl a) s0=some r->lpW ctx 0 [1,3,4] [3] ZFk [(.ptr 0 0),(zN s0.1),(zN s0.2)] [(zK1 t0 a.work t1 a.edges)]=some ((Zlo t0 t1 a) r):=
 lpT (Zlo t0 t1 a) fun s0 _ ih=>Zh (Zt _ _) (yB (yG fun x1 _=>
  Zd (ih _))
  (Zg rfl))
theorem Ztf {t0 t1:Bool}{a:Z5}:∀r,(Zjn a)=some r->evD ctx 70 [(.d (zK3 t0 a.work t1 a.edges))]=some (ZC r):=
 evT ZLg rfl rfl <| Zc _ (ZpU _) fun r2 _=>
  yR
def Zl5 (t0 t1:Bool) (a:Z5) (s0:Int×LI):LI->Ex×List V×Zm
  | r=>(.exit 2,[(.ptr 0 0),(.sl 1 1),(zN s0.1)],[(zK1 t0 a.work t1 a.edges),(zA r)])
theorem ZqC {t0 t1:Bool}{a:Z5}{s0:Int×LI}:∀s1 r,lp (ZfE a) s1=some r->lpW ctx 0 [1,3,4,5] [1,3,4] ZGZ [(.ptr 0 0),(.sl 1 1),(zN s0.1),(zN s1.1)] [(zK1 t0 a.work t1 a.edges),(zA s1.2)]=some ((Zl5 t0 t1 a s0) r):=
 lpT (Zl5 t0 t1 a s0) fun s1 _ ih=>Zh (Zt _ _) (yB (yG fun x2 _=>
  yG fun x3 hx3=>
  Ze (Zk rfl hx3) (yG fun x4 hx4=>
  yG fun x5 hx5=>
  Ze (Zk rfl hx5) (yB (Ze (ZW rfl hx3) (Ze (Zk rfl hx3) (Ze (ZW rfl hx4) (Ze (ZW rfl hx5) (Ze (Zk rfl hx5) (Zh (ZL Zn s1.2 x2.dst.toNat (w64 (x3+x4))) (Zd (ih _))))))))
  (Zd (ih _)))))
  (Zg rfl))
def Zl7 (t0 t1:Bool) (a:Z5):LI->Ex×List V×Zm
  | r=>(.exit 0,[(.sl 0 1)],[(zA r)])
theorem ZqQ {t0 t1:Bool}{a:Z5}:∀s0 r,lp (ZfF a) s0=some r->lpW ctx 0 [1,3,4] [3] ZHU [(.ptr 0 0),(.sl 1 1),(zN s0.1)] [(zK1 t0 a.work t1 a.edges),(zA s0.2)]=some ((Zl7 t0 t1 a) r):=
 lpT (Zl7 t0 t1 a) fun s0 _ ih=>Zh (Zt _ _) (yB (Zc _ (ZqC _) fun r6 _=>
  Zd (ih _))
  (Zg rfl))
def Zl1 (r7:LI):Int->Ex×List V×Zm
  | r=>(.exit 4,[(zN r)],[])
theorem Zq2 {r7:LI}:∀s8 r,lp (Zft r7) s8=some r->lpW ctx 0 [3,7,8] [7] ZEH [(.sl 0 1),(zN s8.1),(zN s8.2)] [(zA r7)]=some ((Zl1 r7) r):=
 lpT (Zl1 r7) fun s8 _ ih=>Zh (Zt _ _) (yB (yG fun x9 hx9=>
  Ze (Zk rfl hx9) (Zd (ih _)))
  (Zg rfl))
theorem Zuj {t0 t1:Bool}{a:Z5}:∀r,(Zks a)=some r->evD ctx 71 [(.d (zK3 t0 a.work t1 a.edges))]=some (ZC r):=
 evT ZK1 rfl rfl <| Zr8 (ZjX (f:=Zn) (fun _=>⟨rfl,rfl⟩) a.work 0) (Za5 (ZlI Zn a.work) (Zh (rfl:_=List.map Zn a.work) (Zc _ (ZqQ _) fun r7 _=>
  Zc _ (Zq2 _) fun r10 _=>
  yR))
  Z9)
def ZlF (a:Zj) (x0:(ZoC×Int)) (x1 x2:Int):Int->Ex×List V×Zm
  | r=>(.exit 0,[(.ptr 0 0),(.ptr 1 0)],[(ZD7 0 0 0 0 0),(ZD7 x1 x2 r a.deadline a.period)])
theorem Zqe {a:Zj}{x0:(ZoC×Int)}{x1 x2:Int}:∀s3 r,lp (ZeC x0) s3=some r->lpW ctx 0 [2,4,6,7] [2,6] ZEx [(.ptr 0 0),(.ptr 1 0),(.ptr 2 0),(zN s3.1)] [(ZD7 0 0 0 0 0),(.cells [(zV true x0.1.dag.work),(zW true Zab x0.1.dag.edges),(zW true ZaA x0.1.pieces)]),(ZD7 x1 x2 s3.2 a.deadline a.period)]=some ((ZlF a x0 x1 x2) r):=
 lpT (ZlF a x0 x1 x2) fun s3 _ ih=>Zh (Zt _ _) (yB (yG fun x4 _=>
  Zd (ih _))
  (Zg rfl))
theorem ZtA {t0 t1:Bool}{t2 t3:Bool}{a:Zj}:∀r,(Zjq a)=some r->evD ctx 37 [(.d (D.agg (dA t0 t1 t2 t3 a)))]=some (Zn9 r):=
 evT ZLs rfl rfl <| yC Zs1 fun x0 _=>
  yBr (yC Ztf fun x1 _=>
  yC Zuj fun x2 _=>
  Zc _ (Zqe _) fun r5 _=>
  yR)
theorem Znm {a:Zf}:∀r,(Zh6 a)=some r->evD ctx 49 [(.d (zK2 a.total a.long a.most a.deadline a.period))]=some (ZJ r):=
 evT ZLF rfl rfl <| yC ZoB fun x0 _=>
  yB (yB (yB (yB (yB (yB (yB (yB (yB (yBr yR)
  yR)
  yR)
  yR)
  yR)
  yR)
  yR)
  yR)
  yR)
  yR
def ZlO (a:Zf):(Int⊕Unit)->Ex×List V×Zm
  | (.inl r)=>(.ret,[(zN r),(zN 0)],[])
  | (.inr r)=>(.exit 0,[.bad,.bad],[])
theorem ZpE {a:Zf}:∀s1 r,lp (Zgf a) s1=some r->lpW ctx 0 [1,4] [2,3] ZF5 [(.ptr 0 0),(zN s1)] [(ZD7 a.total a.long a.most a.deadline a.period)]=some ((ZlO a) r):=
 lpT (ZlO a) fun s1 _ ih=>yB (yB (Zg rfl)
  (Zd (ih _)))
  (Zg rfl)
theorem ZmM {a:Zf}:∀r,(Zh5 a)=some r->evD ctx 38 [(.d (zK2 a.total a.long a.most a.deadline a.period))]=some (ZcX r):=
 evT ZJW rfl rfl <| yC Znm fun x0 _=>
  yB (yBr (yBr (by
 conv=>rhs;whnf
 refine Zc _ (ZpE _) fun r2 _=>?_
 rcases r2 with r2 | r2
 exact yR
 exact yR)))
  yR
def Zlx (t0:Bool) (a:List Zf):(Unit⊕Unit)->Ex×List V×Zm
  | (.inl r)=>(.ret,[(zW t0 Zr a),(.d (D.bool false))],[])
  | (.inr r)=>(.exit 0,[(zW t0 Zr a),.bad],[])
theorem Zp6 {t0:Bool}{a:List Zf}:∀s0 r,lp (Zgq a) s0=some r->lpW ctx 0 [0,3] [0,2] ZGu [(zW t0 Zr a),(zN s0)] []=some ((Zlx t0 a) r):=
 lpT (Zlx t0 a) fun s0 _ ih=>Zh (Zt _ _) (yB (yG fun x1 hx1=>
  yC Znm fun x2 _=>
  yB (Ze (ZW rfl hx1) (Ze (ZW rfl hx1) (yB (Zg rfl)
  (Zd (ih _)))))
  (Zg rfl))
  (Zg rfl))
theorem Zjg {t0:Bool}{a:List Zf}:∀r,(Zg9 a)=some r->evD ctx 72 [(zW t0 Zr a)]=some (ZJ r):=
 evT ZJV rfl rfl <| (by
 conv=>rhs;whnf
 refine Zc _ (Zp6 _) fun r3 _=>?_
 rcases r3 with r3 | r3
 exact yR
 exact Zh (Zt _ _) (yBr yR))
def ZkY (t0:Bool) (a:List Zf) (s0:Int×LI):Int->Ex×List V×Zm
  | r=>(.exit 2,[(zW t0 Zr a),(.sl 0 1),(zN s0.1),(zN r)],[(zA s0.2)])
theorem Zp4 {t0:Bool}{a:List Zf}{s0:Int×LI}:∀s1 r,lp (Zel a s0) s1=some r->lpW ctx 0 [0,3,4,5,6] [0,3,4,5] ZHB [(zW t0 Zr a),(.sl 0 1),(zN s0.1),(zN s1.1),(zN s1.2)] [(zA s0.2)]=some ((ZkY t0 a s0) r):=
 lpT (ZkY t0 a s0) fun s1 _ ih=>Zh (Zt _ _) (yB (yC ZoS fun x2 _=>
  yB (Zd (ih _))
  (yB (Zd (ih _))
  (yG fun x3 _=>
  yG fun x4 _=>
  yB (Zd (ih _))
  (Zd (ih _)))))
  (Zg rfl))
def ZkT (t0:Bool) (a:List Zf):LI->Ex×List V×Zm
  | r=>(.exit 0,[(.sl 0 1)],[(zA r)])
theorem ZpA {t0:Bool}{a:List Zf}:∀s0 r,lp (Zew a) s0=some r->lpW ctx 0 [0,3,4] [3] ZFu [(zW t0 Zr a),(.sl 0 1),(zN s0.1)] [(zA s0.2)]=some ((ZkT t0 a) r):=
 lpT (ZkT t0 a) fun s0 _ ih=>Zh (Zt _ _) (yB (Zc _ (Zp4 _) fun r5 _=>
  yT (Za5 (Zbz Zn s0.2 1) (Zh (Zby Zn s0.2 [r5]) (Zd (ih _)))
  Z9))
  (Zg rfl))
theorem ZsA {t0:Bool}{a:List Zf}:∀r,(ZjD a)=some r->evD ctx 73 [(zW t0 Zr a)]=some (Zcd r):=
 evT ZKk rfl rfl <| Zc _ (ZpA _) fun r6 _=>
  yR
theorem Zih {t0:Bool}{a:LI}{b c:Int}:∀r,(ZgK a b c)=some r->evD ctx 75 [(zV t0 a),(zN b),(zN c)]=some (Zcd r):=
 evT ZKG rfl rfl <| Zr8 (ZjX (f:=Zn) (fun _=>⟨rfl,rfl⟩) a 0) (Za5 (ZlI Zn a) (Zh (rfl:_=List.map Zn a) (yG fun x0 hx0=>
  Ze (Zk rfl hx0) (Zh (ZL Zn a b.toNat c) yR)))
  Z9)
theorem ZsX {t0 t1:Bool}{a:List Zf}{b:LI}{c:Int}:∀s0 r,lp (Zhe a b c) s0=some r->lpW ctx 0 [0,1,2,7,8] [7] ZFF [(zW t0 Zr a),(zV t1 b),(zN c),(.sl 0 5),(zN s0.1)] [(.arr 5 (List.map Zr s0.2))]=some ((ZiE t0 t1 a b c) r):=
 lpT (ZiE t0 t1 a b c) fun s0 _ ih=>Zh (Zt _ _) (yB (Zh (Zt _ _) (yB (yG fun x1 _=>
  yB (yG fun x2 _=>
  yT (Za5 (Zbz Zr s0.2 1) (Zh (Zby Zr s0.2 [x2]) (Zd (ih _)))
  Z9))
  (Zd (ih _)))
  (Zg rfl)))
  (Zg rfl))
theorem Zqg {t0 t1:Bool}{a:List Zf}{b:LI}{c:Int}:∀r,(Zll a b c)=some r->evD ctx 74 [(zW t0 Zr a),(zV t1 b),(zN c)]=some (ZtW r):=
 evT ZK5 rfl rfl <| Zc _ (ZsX _) fun r3 _=>
  yR
theorem Zov {t0:Bool}{a:List Zf}:∀s0 r,lp (Zdk a) s0=some r->lpW ctx 0 [0,3,4] [3] ZEJ [(zW t0 Zr a),(zN s0.1),(zN s0.2)] []=some ((Zcg t0 a) r):=
 lpT (Zcg t0 a) fun s0 _ ih=>Zh (Zt _ _) (yB (yC Zjg fun x1 _=>
  yB (yG fun x2 _=>
  Zd (ih _))
  (Zg rfl))
  (Zg rfl))
theorem Zqx {t0:Bool}{a:List Zf}:∀r,(Zif a)=some r->evD ctx 78 [(zW t0 Zr a)]=some (ZC r):=
 evT ZLy rfl rfl <| Zc _ (Zov _) fun r3 _=>
  yR
def Zf6 (t0:Bool) (a:List Zf) (b:Int):Int->Ex×List V×Zm
  | r=>(.exit 0,[(zN r)],[])
theorem Zph {t0:Bool}{a:List Zf}{b:Int}:∀s0 r,lp (ZdM a b) s0=some r->lpW ctx 0 [0,1,5,6] [5] ZE9 [(zW t0 Zr a),(zN b),(zN s0.1),(zN s0.2)] []=some ((Zf6 t0 a b) r):=
 lpT (Zf6 t0 a b) fun s0 _ ih=>Zh (Zt _ _) (yB (yG fun x1 hx1=>
  yB (Ze (ZW rfl hx1) (Ze (ZW rfl hx1) (Ze (ZW rfl hx1) (yBn (Zd (ih _))))))
  (Zd (ih _)))
  (Zg rfl))
theorem Zsv {t0:Bool}{a:List Zf}{b:Int}:∀r,(ZiL a b)=some r->evD ctx 79 [(zW t0 Zr a),(zN b)]=some (ZC r):=
 evT ZKm rfl rfl <| Zc _ (Zph _) fun r2 _=>
  yR
theorem Zp1 {t0:Bool}{a:List Zf}{b:Int}:∀s0 r,lp (ZeB a b) s0=some r->lpW ctx 0 [0,1,5,6] [5] ZHc [(zW t0 Zr a),(zN b),(zN s0.1),(zN s0.2)] []=some ((Zf6 t0 a b) r):=
 lpT (Zf6 t0 a b) fun s0 _ ih=>Zh (Zt _ _) (yB (yG fun x1 hx1=>
  yB (Ze (ZW rfl hx1) (Zd (ih _)))
  (Zd (ih _)))
  (Zg rfl))
theorem ZsJ {t0:Bool}{a:List Zf}{b:Int}:∀r,(Zjm a b)=some r->evD ctx 80 [(zW t0 Zr a),(zN b)]=some (ZC r):=
 evT ZLA rfl rfl <| Zc _ (Zp1 _) fun r2 _=>
  yR
theorem Zre {t0:Bool}{a:List Zf}:∀s1 r,lp (Zbv a) s1=some r->lpW ctx 0 [0,3] [2] ZHP [(zW t0 Zr a),(zN s1)] []=some ((Zii t0 a) r):=
 lpT (Zii t0 a) fun s1 _ ih=>yC Zqx fun x2 _=>
  yB (yC Zsv fun x3 _=>
  yB (yC ZsJ fun x4 _=>
  yB (Zg rfl)
  (Zd (ih _)))
  (Zd (ih _)))
  (Zg rfl)
theorem Zof {t0:Bool}{a:List Zf}:∀r,(ZiC a)=some r->evD ctx 47 [(zW t0 Zr a)]=some (ZJ r):=
 evT ZJ6 rfl rfl <| yC Zjg fun x0 _=>
  yB ((by
 conv=>rhs;whnf
 refine Zc _ (Zre _) fun r5 _=>?_
 rcases r5 with r5 | r5
 exact yR
 exact yR))
  yR
def ZkZ (t0:Bool) (a:List Zf) (b:Int):LI->Ex×List V×Zm
  | r=>(.exit 0,[(zW t0 Zr a),(zN b),(.sl 0 1)],[(zA r)])
theorem ZpD {t0:Bool}{a:List Zf}{b:Int}:∀s1 r,lp (Zdh a) s1=some r->lpW ctx 0 [0,1,6,7] [0,1,6] ZFn [(zW t0 Zr a),(zN b),(.sl 0 1),(zN s1.1)] [(zA s1.2)]=some ((ZkZ t0 a b) r):=
 lpT (ZkZ t0 a b) fun s1 _ ih=>Zh (Zt _ _) (yB (yT (Za5 (Zbz Zn s1.2 1) (Zh (Zby Zn s1.2 [(-1)]) (Zd (ih _)))
  Z9))
  (Zg rfl))
def Zlh (t0:Bool) (a:List Zf) (b:Int) (r2:LI) (x3:LI) (x5:Int):Int->Ex×List V×Zm
  | r=>(.exit 4,[(zW t0 Zr a),(zN b),(.sl 0 1),(zV true x3),(zN 0),(zN x5),(zN r)],[(zA r2)])
theorem ZpX {t0:Bool}{a:List Zf}{b:Int}{r2:LI}{x3:LI}{x5:Int}:∀s6 r,lp (Zjf a b r2 x5) s6=some r->lpW ctx 0 [0,1,6,8,9,10,11] [0,1,6,8,9,10,11] ZA3 [(zW t0 Zr a),(zN b),(.sl 0 1),(zV true x3),(zN 0),(zN x5),(zN s6)] [(zA r2)]=some ((Zlh t0 a b r2 x3 x5) r):=
 lpT (Zlh t0 a b r2 x3 x5) fun s6 _ ih=>yB (yC Zih fun x7 _=>
  yC Zqg fun x8 _=>
  yC Zof fun x9 _=>
  yB (Zg rfl)
  (Zd (ih _)))
  (Zg rfl)
def ZjP (t0:Bool) (a:List Zf) (b:Int) (x3:LI) (s12:LI×Int) (x13:Int):Int->Ex×List V×Zm
  | r=>(.exit 4,[(zW t0 Zr a),(zN b),(zV true s12.1),(zV true x3),(zN s12.2),(zN x13),(zN r)],[])
theorem Zou {t0:Bool}{a:List Zf}{b:Int}{x3:LI}{s12:LI×Int}{x13:Int}:∀s14 r,lp (Zdf a b s12 x13) s14=some r->lpW ctx 0 [0,1,6,8,9,10,11] [0,1,6,8,9,10,11] ZA3 [(zW t0 Zr a),(zN b),(zV true s12.1),(zV true x3),(zN s12.2),(zN x13),(zN s14)] []=some ((ZjP t0 a b x3 s12 x13) r):=
 lpT (ZjP t0 a b x3 s12 x13) fun s14 _ ih=>yB (yC Zih fun x15 _=>
  yC Zqg fun x16 _=>
  yC Zof fun x17 _=>
  yB (Zg rfl)
  (Zd (ih _)))
  (Zg rfl)
def Zle (t0:Bool) (a:List Zf) (b:Int) (x3:LI):(LI⊕LI)->Ex×List V×Zm
  | (.inl r)=>(.ret,[(.nilsl 1),(zN 161),(zV true r)],[])
  | (.inr r)=>(.exit 2,[.bad,.bad,(zV true r)],[])
theorem ZpI {t0:Bool}{a:List Zf}{b:Int}{x3:LI}:∀s12 r,lp (Zes a b x3) s12=some r->lpW ctx 0 [0,1,6,8,9] [4,5,6] ZA4 [(zW t0 Zr a),(zN b),(zV true s12.1),(zV true x3),(zN s12.2)] []=some ((Zle t0 a b x3) r):=
 lpT (Zle t0 a b x3) fun s12 _ ih=>Zh (Zt _ _) (yB (yG fun x13 _=>
  Zc _ (Zou _) fun r18 _=>
  yB (Zg rfl)
  (yC Zih fun x19 _=>
  Zd (ih _)))
  (Zg rfl))
def ZjL (t0:Bool) (a:List Zf) (b:Int) (r2:LI) (x3:LI):(Unit⊕(LI⊕(LI⊕Unit)))->Ex×List V×Zm
  | (.inl r)=>(.ret,[(.nilsl 1),(zN 161),(.sl 0 1)],[(zA r2)])
  | (.inr (.inl r))=>(.ret,[(.nilsl 1),(zN 161),(zV true r)],[])
  | (.inr (.inr (.inl r)))=>(.exit 2,[.bad,.bad,(zV true r)],[])
  | (.inr (.inr (.inr r)))=>(.exit 2,[.bad,.bad,(.sl 0 1)],[(zA r2)])
theorem Zop {t0:Bool}{a:List Zf}{b:Int}{r2:LI}{x3:LI}:∀s4 r,lp (Zir a b r2 x3) s4=some r->lpW ctx 0 [0,1,6,8,9] [4,5,6] ZA4 [(zW t0 Zr a),(zN b),(.sl 0 1),(zV true x3),(zN 0)] [(zA r2)]=some ((ZjL t0 a b r2 x3) r):=
 lpT (ZjL t0 a b r2 x3) fun s4 _ ih=>Zh (Zt _ _) (yB (yG fun x5 _=>
  Zc _ (ZpX _) fun r10 _=>
  yB (Zg rfl)
  (yC Zih fun x11 _=>
  (by
 conv=>rhs;whnf
 refine Zc _ (ZpI _) fun r20 _=>?_
 rcases r20 with r20 | r20
 exact Zg rfl
 exact Zg rfl)))
  (Zg rfl))
theorem Ztp {t0:Bool}{a:List Zf}{b:Int}:∀r,(Zjr a b)=some r->evD ctx 39 [(zW t0 Zr a),(zN b)]=some (ZoD r):=
 evT ZJU rfl rfl <| yC Zjg fun x0 _=>
  yB (yBr (yBr (Zc _ (ZpD _) fun r2 _=>
  yC ZsA fun x3 _=>
  (by
 conv=>rhs;whnf
 refine Zc _ (Zop _) fun r21 _=>?_
 rcases r21 with r21 | (r21 | (r21 | r21))
 exact yR
 exact yR
 exact yR
 exact yR))))
  yR
def Zld (t0:Bool) (a:List Zj) (b:Int):((Int×(List Zf))⊕(List Zf))->Ex×List V×Zm
  | (.inl r)=>(.ret,[(zN b),(.ptr 0 0),(zN r.1),(.ptr 1 0),(.ptr 2 0)],[(ZD2 ),(ZD2 ),(ZFp ),(.arr 5 []),(.arr 1 []),(.arr 5 (List.map Zr r.2)),(.arr 1 [])])
  | (.inr r)=>(.exit 0,[(zN b),(.ptr 0 0),.bad,(.ptr 1 0),(.ptr 2 0)],[(ZD2 ),(ZFp ),(.cells [(.sl 7 5),(.sl 8 1)]),(.arr 5 []),(.arr 1 []),(.arr 5 []),(.arr 1 []),(.arr 5 (List.map Zr r)),(.arr 1 [])])
theorem Zp8 {t0:Bool}{a:List Zj}{b:Int}:∀s0 r,lp (ZhR a) s0=some r->lpW ctx 0 [0,1,4,6,7,8] [1,4,5,6,7] ZGs [(.d (D.list t0 (List.map (Zh2 true) a))),(zN b),(.ptr 0 0),(.ptr 1 0),(.ptr 2 0),(zN s0.1)] [(ZD2 ),(ZFp ),(.cells [(.sl 7 5),(.sl 8 1)]),(.arr 5 []),(.arr 1 []),(.arr 5 []),(.arr 1 []),(.arr 5 (List.map Zr s0.2)),(.arr 1 [])]=some ((Zld t0 a b) r):=
 lpT (Zld t0 a b) fun s0 _ ih=>Zh (Zt _ _) (yB (yG fun x1 _=>
  yC ZtA fun x2 _=>
  yB (Zg rfl)
  (yT (Za5 (Zbz Zr s0.2 1) (Zh (Zby Zr s0.2 [x2.1]) (Zd (ih _)))
  Z9)))
  (Zg rfl))
def ZkW (b:Int) (r3:List Zf):((Int×Int×(List Zf))⊕(Int×(List Zf)))->Ex×List V×Zm
  | (.inl r)=>(.ret,[(zN b),(.ptr 0 0),(zN r.1),(.ptr 1 0),(.ptr 2 0),(zN r.2.1),(.sl 3 5)],[(zK7 ),(zK7 ),(.cells [(.sl 6 5),(.sl 7 1)]),(.arr 5 (List.map Zr r.2.2)),(.arr 5 []),(.arr 1 []),(.arr 5 (List.map Zr r3)),(.arr 1 [])])
  | (.inr r)=>(.exit 2,[(zN b),(.ptr 0 0),.bad,(.ptr 1 0),(.ptr 2 0),(zN r.1),(.sl 3 5)],[(zK7 ),(.cells [(.sl 6 5),(.sl 7 1)]),(.cells [(.sl 8 5),(.sl 9 1)]),(.arr 5 (List.map Zr r.2)),(.arr 5 []),(.arr 1 []),(.arr 5 []),(.arr 1 []),(.arr 5 (List.map Zr r3)),(.arr 1 [])])
theorem ZpL {b:Int}{r3:List Zf}:∀s4 r,lp (ZcN r3) s4=some r->lpW ctx 0 [1,4,6,7,11,12,13] [1,4,5,6,7,11,12] ZHu [(zN b),(.ptr 0 0),(.ptr 1 0),(.ptr 2 0),(zN s4.1),(.sl 3 5),(zN s4.2.1)] [(zK7 ),(.cells [(.sl 6 5),(.sl 7 1)]),(.cells [(.sl 8 5),(.sl 9 1)]),(.arr 5 (List.map Zr s4.2.2)),(.arr 5 []),(.arr 1 []),(.arr 5 []),(.arr 1 []),(.arr 5 (List.map Zr r3)),(.arr 1 [])]=some ((ZkW b r3) r):=
 lpT (ZkW b r3) fun s4 _ ih=>Zh (Zt _ _) (yB (yG fun x5 hx5=>
  Ze (Zk rfl hx5) (yC ZmM fun x6 _=>
  yB (Zg rfl)
  (yB (yT (Za5 (Zbz Zr s4.2.2 1) (Zh (Zby Zr s4.2.2 [x5]) (Zd (ih _)))
  Z9))
  (Zd (ih _)))))
  (Zg rfl))
def ZkN (r3:List Zf) (r7:(Int×(List Zf))) (x8:(LI×Int)) (s9:Int×Int×Int×(List LI)) (x11:(Int×Int)):(Int×LI)->Ex×List V×Zm
  | r=>(.exit 6,[(.ptr 0 0),(.ptr 1 0),(zN r7.1),(zV true x8.1),(zN r.1),(zN s9.2.1),(zN s9.2.2.1),(.sl 2 1)],[(ZD2 ),(ZFp ),(zA r.2),(.arr 5 []),(.arr 1 []),(.arr 5 (List.map Zr r3)),(.arr 1 (List.map (Zhj true) s9.2.2.2))])
theorem Zp5 {r3:List Zf}{r7:(Int×(List Zf))}{x8:(LI×Int)}{s9:Int×Int×Int×(List LI)}{x11:(Int×Int)}:∀s13 r,lp (ZeK x11) s13=some r->lpW ctx 0 [4,7,11,17,19,20,21,23,25,26] [4,7,11,17,19,20,21,25] ZE2 [(.ptr 0 0),(.ptr 1 0),(zN r7.1),(zV true x8.1),(zN s13.1),(zN s9.2.1),(zN s9.2.2.1),(zN x11.1),(.sl 2 1),(zN s13.2.1)] [(ZD2 ),(ZFp ),(zA s13.2.2),(.arr 5 []),(.arr 1 []),(.arr 5 (List.map Zr r3)),(.arr 1 (List.map (Zhj true) s9.2.2.2))]=some ((ZkN r3 r7 x8 s9 x11) r):=
 lpT (ZkN r3 r7 x8 s9 x11) fun s13 _ ih=>yB (yT (Za5 (Zbz Zn s13.2.2 1) (Zh (Zby Zn s13.2.2 [s13.1]) (Zd (ih _)))
  Z9))
  (Zg rfl)
def Zln (r3:List Zf) (r7:(Int×(List Zf))) (x8:(LI×Int)):(List LI)->Ex×List V×Zm
  | r=>(.exit 4,[(.ptr 0 0),(.ptr 1 0)],[(.cells [(.sl 2 5),(.sl 3 1)]),(zK7 ),(.arr 5 []),(.arr 1 []),(.arr 5 (List.map Zr r3)),(.arr 1 (List.map (Zhj true) r))])
theorem Zp9 {r3:List Zf}{r7:(Int×(List Zf))}{x8:(LI×Int)}:∀s9 r,lp (ZcO r3 r7 x8) s9=some r->lpW ctx 0 [4,7,11,17,19,20,21] [4,7] ZH5 [(.ptr 0 0),(.ptr 1 0),(zN r7.1),(zV true x8.1),(zN s9.1),(zN s9.2.1),(zN s9.2.2.1)] [(.cells [(.sl 2 5),(.sl 3 1)]),(zK7 ),(.arr 5 []),(.arr 1 []),(.arr 5 (List.map Zr r3)),(.arr 1 (List.map (Zhj true) s9.2.2.2))]=some ((Zln r3 r7 x8) r):=
 lpT (Zln r3 r7 x8) fun s9 _ ih=>Zh (Zt _ _) (yB (yG fun x10 hx10=>
  Ze (Zk rfl hx10) (yC ZmM fun x11 _=>
  yB (yG fun x12 _=>
  yT (yT (Zh (rfl:_=List.map Zn [(w64 (r7.1+x12))]) (yT (Za5 (Zbz (Zhj true) s9.2.2.2 1) (Zh (Zby (Zhj true) s9.2.2.2 [[(w64 (r7.1+x12))]]) (Zd (ih _)))
  Z9)))))
  (Zc _ (Zp5 _) fun r14 _=>
  yT (Za5 (Zbz (Zhj true) s9.2.2.2 1) (Zh (Zby (Zhj true) s9.2.2.2 [r14.2]) (Zd (ih _)))
  Z9))))
  (Zg rfl))
theorem Zs7 {t0:Bool}{a:List Zj}{b:Int}:∀r,(Zjp a b)=some r->evD ctx 13 [(.d (D.list t0 (List.map (Zh2 true) a))),(zN b)]=some (Zod r):=
 evT ZLh rfl rfl <| Zh (Zt _ _) (yBr (yBr (yBr (by
 conv=>rhs;whnf
 refine Zc _ (Zp8 _) fun r3 _=>?_
 rcases r3 with r3 | r3
 exact yR
 exact(by
 conv=>rhs;whnf
 refine Zc _ (ZpL _) fun r7 _=>?_
 rcases r7 with r7 | r7
 exact yR
 exact yBr (yC Ztp fun x8 _=>
  yBr (Zc _ (Zp9 _) fun r15 _=>
  yR)))))))
def Zmf (t0 t1:Bool) (a:List Zf) (b:List Zf):(Unit⊕Unit)->Ex×List V×Zm
  | (.inl r)=>(.ret,[(.d (D.bool false))],[])
  | (.inr r)=>(.exit 0,[.bad],[])
theorem Zri {t0 t1:Bool}{a:List Zf}{b:List Zf}:∀s0 r,lp (ZgZ a b) s0=some r->lpW ctx 0 [0,1,5] [4] ZFt [(zW t0 Zr a),(zW t1 Zr b),(zN s0)] []=some ((Zmf t0 t1 a b) r):=
 lpT (Zmf t0 t1 a b) fun s0 _ ih=>Zh (Zt _ _) (yB (yG fun x1 _=>
  yG fun x2 _=>
  yB (Zg rfl)
  (Zd (ih _)))
  (Zg rfl))
theorem Zt5 {t0 t1:Bool}{a:List Zf}{b:List Zf}:∀r,(Zkr a b)=some r->evD ctx 40 [(zW t0 Zr a),(zW t1 Zr b)]=some (ZJ r):=
 evT ZJ0 rfl rfl <| Zh (Zt _ _) (Zh (Zt _ _) (yBr (by
 conv=>rhs;whnf
 refine Zc _ (Zri _) fun r3 _=>?_
 rcases r3 with r3 | r3
 exact yR
 exact yR)))
def Zl8 (t0 t1:Bool) (a:LI) (b:LI):(Unit⊕Unit)->Ex×List V×Zm
  | (.inl r)=>(.ret,[(.d (D.bool false))],[])
  | (.inr r)=>(.exit 0,[.bad],[])
theorem Zra {t0 t1:Bool}{a:LI}{b:LI}:∀s0 r,lp (Zg0 a b) s0=some r->lpW ctx 0 [0,1,5] [4] ZHH [(zV t0 a),(zV t1 b),(zN s0)] []=some ((Zl8 t0 t1 a b) r):=
 lpT (Zl8 t0 t1 a b) fun s0 _ ih=>Zh (Zt _ _) (yB (yG fun x1 _=>
  yG fun x2 _=>
  yB (Zg rfl)
  (Zd (ih _)))
  (Zg rfl))
theorem Zt1 {t0 t1:Bool}{a:LI}{b:LI}:∀r,(Zky a b)=some r->evD ctx 21 [(zV t0 a),(zV t1 b)]=some (ZJ r):=
 evT ZLn rfl rfl <| Zh (Zt _ _) (Zh (Zt _ _) (yBr (by
 conv=>rhs;whnf
 refine Zc _ (Zra _) fun r3 _=>?_
 rcases r3 with r3 | r3
 exact yR
 exact yR)))
def Zmn (t0 t1 t2 t3:Bool) (a b:ZfM):(Unit⊕Unit)->Ex×List V×Zm
  | (.inl r)=>(.ret,[(.d (D.bool false))],[])
  | (.inr r)=>(.exit 0,[.bad],[])
theorem ZqI {t0 t1:Bool}{t2 t3:Bool}{a b:ZfM}:∀s1 r,lp (Zg2 a b) s1=some r->lpW ctx 0 [2,3,5] [4] ZGC [(.ptr 0 0),(.ptr 1 0),(zN s1)] [(.cells [(zW t0 Zr a.shapes),(.d (D.list t1 (List.map (Zhj true) a.cores)))]),(.cells [(zW t2 Zr b.shapes),(.d (D.list t3 (List.map (Zhj true) b.cores)))])]=some ((Zmn t0 t1 t2 t3 a b) r):=
 lpT (Zmn t0 t1 t2 t3 a b) fun s1 _ ih=>Zh (Zt _ _) (yB (yG fun x2 _=>
  yG fun x3 _=>
  yC Zt1 fun x4 _=>
  yB (Zd (ih _))
  (Zg rfl))
  (Zg rfl))
theorem Zub {t0 t1:Bool}{t2 t3:Bool}{a b:ZfM}:∀r,(ZiG a b)=some r->evD ctx 14 [(.d (D.agg [(zM t0 Zr a.shapes),(D.list t1 (List.map (Zhj true) a.cores))])),(.d (D.agg [(zM t2 Zr b.shapes),(D.list t3 (List.map (Zhj true) b.cores))]))]=some (ZJ r):=
 evT ZLD rfl rfl <| yC Zt5 fun x0 _=>
  yB (Zh (Zt _ _) (Zh (Zt _ _) (yBr (by
 conv=>rhs;whnf
 refine Zc _ (ZqI _) fun r5 _=>?_
 rcases r5 with r5 | r5
 exact yR
 exact yR))))
  yR
theorem Zos {t0:Bool}{a:List Zj}{b:Int}:∀r,(Zip a b)=some r->evD ctx 3 [(.d (D.list t0 (List.map (Zh2 true) a))),(zN b)]=some (ZJ r):=
 evT fn3 rfl rfl <| yC Zi2 fun x0 _=>
  yB (yC Zwf fun x1 _=>
  yB (Zc _ ZuP fun x2 _=>
  yC Zs4 fun x3 _=>
  yC Zs7 fun x4 _=>
  yC Zub fun x5 _=>
  yB (yBr yR)
  yR)
  (yC Zi2 fun x6 _=>
  yBr yR))
  (yC Zi2 fun x7 _=>
  yBr yR)
abbrev ZGo:List Lf×Bool:=([.int .i64],false)
abbrev ZAn:List Lf×Bool:=([.sl true [.int .i64,.int .i64,.sl true [.int .i64,.int .i64,.int .i64],.sl true [.int .i64,.int .i64],.sl true [.int .i64,.int .i64,.int .i64],.sl true [.sl false [.int .i64],.sl false [.int .i64]]]],false)
open List (length_map)
theorem ZuZ (l:List Zj) (b:Int):Zip l b=some true:=by
 unfold Zip
 simp only[Zh9,bS,cT]
 obtain⟨f,f1,f2⟩:=ZL8 l
 rw[f1,bS]
 cases f with
 | false=>rfl
 | true=>
  obtain⟨hl,hz⟩:=f2 rfl
  have hl':l.length<=1000:=by omega
  simp only[cT,ZLQ hl' hz,bS,ZIR hl' hz,ZAI hl' hz]
  have hs:ZiG (Zka l b).1 (Zka l b).1=some true:=by
   by_cases hne:(Zka l b).2=0
   ·obtain⟨h8,b1,b8,he,p,hp,hF⟩:=Zy8 hne
    obtain⟨q1,q2,q3⟩:=ZBT (ZAX he) (show(shL l).length<=8 by unfold shL;rw[length_map];exact h8) (show b.toNat<=8 by omega) hp
    rw[hF,ZtZ p p (by omega) (by omega) q3,dT rfl]
   ·have:(Zka l b).1=Zrx:=by
     unfold Zka at hne ⊢
     revert hne
     cases (decide (8<(l.length:Int)) || (decide (b<1) || decide (8<b))) with
     | true=>exact fun _=>rfl
     | false=>
      cases shE l==0 with
      | false=>exact fun _=>rfl
      | true=>
       cases ZnL (shL l) b.toNat with
       | none=>exact fun _=>rfl
       | some p=>exact fun hne=>absurd rfl hne
    rw[this,ZtZ Zrx Zrx (by simp[Zrx]) (by simp[Zrx]) (fun r hr=>by simp[Zrx] at hr),dT rfl]
  rw[hs,bS,cT,beq_self_eq_true]
  rfl
theorem Zwl (xs:List D) (h:ZjI ZAn.1 xs) (ys:List D) (k:ZjI ZGo.1 ys):∃H',evW ctx 3 (ZdE [ZzQ ZAn.2 xs,ZzQ ZGo.2 ys]) []=some (.d (.bool true),H'):=by
 obtain⟨x,r,rfl,h1,rfl⟩:=h
 obtain⟨l,rfl⟩:=ZEX h1
 obtain⟨n,hn,okn⟩:=ZKZ k
 show ∃H',evW ctx 3 [.d (.list true (l.map (Zh2 true))),.d (ZzQ false ys)] []=_
 rw[hn]
 exact ZH3 (Zos true (ZuZ l n))
end Go.Proofs.YtmnglncebfabpaaGreatDoor
namespace Go.Proofs.YtmnglncebfabpaaGreatDoor.LawAdmitTells
open Go.ChangeShapes Go.WideShapes Go.ChangeAt Go.RowKit Go.Proofs.YtmnglncebfabpaaGreatDoorE
theorem own:ownKnob Tryz.prog.godebug=none:=by kernel_rfl
theorem ZCL:laidOutB Tryz.prog=true:=by kernel_rfl
def Zwc : List (String × DataW Unit) := [("math/bits.deBruijn32tab", Rows.laid_math_bits_deBruijn32tab), ("math/bits.deBruijn64tab", Rows.laid_math_bits_deBruijn64tab)]
theorem ZHE (os:Os) (args:Array Value):laidMetH Tryz.prog Zwc ((World.doorLaid Tryz.prog 19 os).forCall (fun _ _=>0) ⟨#[],args,[]⟩).memory:=
 laidMetH_of_parts3 (fuel:=8) (laidMet_of_run' 8 (by kernel_rfl) (by kernel_rfl)) (by kernel_rfl) (by kernel_rfl)
theorem ZFA {W:World} (h:laidMetH Tryz.prog Zwc W):GOK ZmX R0 W:=by
 intro g l hg
 unfold ZmX at hg
 split at hg
 ·cases hg
  exact ZvK (t := 175) (N := 32) (e := 5) (k := .u8) h (by kernel_rfl) (n := "math/bits.deBruijn32tab") (by rw [show DataW.agg (Zq3 ZJM) = Rows.laid_math_bits_deBruijn32tab by kernel_rfl]; simp [Zwc]) (by kernel_rfl) (by kernel_rfl) (by kernel_rfl) (by kernel_rfl) (by kernel_rfl) (by kernel_rfl) (by decide)
 ·cases hg
  exact ZvK (t := 176) (N := 64) (e := 5) (k := .u8) h (by kernel_rfl) (n := "math/bits.deBruijn64tab") (by rw [show DataW.agg (Zq3 ZJx) = Rows.laid_math_bits_deBruijn64tab by kernel_rfl]; simp [Zwc]) (by kernel_rfl) (by kernel_rfl) (by kernel_rfl) (by kernel_rfl) (by kernel_rfl) (by kernel_rfl) (by decide)
 ·cases hg
theorem ZK8 (os:Os) (started:os.Started) (H:Type) (enc:TypeId×Value->H) :
  ReturnsInHanded {} Tryz.checked os 3 .any (fun w args=>(Rows.admitTellsSpec.pre enc Tryz.prog Tryz.f3 [] false w args/\laidMetH Tryz.prog Zwc w)/\sizedMet enc Tryz.prog Tryz.f3 (OpenSpec.ofChange Rows.admitTellsSpec) false w args) (Rows.admitTellsSpec.post enc Tryz.prog Tryz.f3 false true false false):=by
 refine returnsInHanded_of_change_and (C:=Tryz.checked) (X:=fun w _=>laidMetH Tryz.prog Zwc w) (fun _ _ _ hh h=>h.of_heap hh) own started (by kernel_rfl) Tryz.func3
  (ChangeSpec.witness_shaped (enc:=enc) (C:=Tryz.checked) (os:=os) (X:=fun w _=>laidMetH Tryz.prog Zwc w) false (World.doorLaid Tryz.prog 19 os) #[.slice none 0 0,.int .i64 0] 8 rfl (World.shaped_of_RefB (by kernel_rfl) (by kernel_rfl)) (by kernel_rfl) (by kernel_rfl) (by kernel_rfl) (ZHE os _)) ?_
 intro W base args ds gs before hval0 hW _ _ hL _
 have hval:∀(j:Nat) t v,Tryz.f3.params[j]? = some t->args[j]? = some v->Value.okWide Tryz.prog W .any base t v:=hval0
 have hW':=hW
 obtain⟨p,q,hA0,hV,rfl,hfz,hnd⟩:=hW
 have hA:DataW.TrodAll enc Tryz.prog W 0 (fun _=>true) true Tryz.f3.params.toList args.toList ds p:=hA0
 rw[Tryz.params3] at hA hval
 obtain⟨v0,vs0,d0,ds0,p0,q0,hargs,rfl,rfl,h0,r0⟩:=trodAll_cons hA
 obtain⟨v1,vs1,d1,ds1,p1,q1,rfl,rfl,rfl,h1,r1⟩:=trodAll_cons r0
 obtain⟨rfl,rfl,rfl⟩:=trodAll_nil r1
 obtain rfl:args = #[v0,v1]:=by cases args;simp_all
 obtain⟨rfl,rfl⟩:=trodVars_none hV
 have lt0:∀x∈p0,x.block<W.heap.size:=by obtain⟨m,hm⟩:=h0;exact DataW.trod_lt m _ _ _ hm
 obtain⟨x0,ok0,den0⟩:=ZFr (P:=Tryz.prog) (n:=8) (t:=22) (l:=ZAn.1) (ag:=ZAn.2) (by kernel_rfl) (hval 0 22 v0 rfl rfl) h0
 have lt1:∀x∈p1,x.block<W.heap.size:=by obtain⟨m,hm⟩:=h1;exact DataW.trod_lt m _ _ _ hm
 obtain⟨x1,ok1,den1⟩:=ZFr (P:=Tryz.prog) (n:=8) (t:=3) (l:=ZGo.1) (ag:=ZGo.2) (by kernel_rfl) (hval 1 3 v1 rfl rfl) h1
 obtain⟨H1,ev⟩:=Zwl x0 ok0 x1 ok1
 have den:Za7 All All All W [ZzQ ZAn.2 x0,ZzQ ZGo.2 x1] [v0,v1]:=⟨_,_,rfl,den0,⟨_,_,rfl,den1,rfl⟩⟩
 refine(ZEc ZMP (ZFA hL) den ev).mono fun e W' ⟨he,bel⟩=>?_
 subst he
 exact⟨_,rfl,_,_,_,[],_,[],hW',trodAll_mk1 (shut_bool Tryz.underlying4 _),(trodAll_cons_mk (Below.trod ZCL (by kernel_rfl) (of_decide_eq_true (by kernel_rfl)) h0 bel lt0) (trodAll_cons_mk (Below.trod ZCL (by kernel_rfl) (of_decide_eq_true (by kernel_rfl)) h1 bel lt1) trodAll_mk0)),rfl,bel.frame _,fun h=>by cases h⟩
theorem over:Rows.admitTellsRow.holds Tryz.pinned (OpenSpec.ofChange Rows.admitTellsSpec):=
 OpenClaim.holds_of_wide 3 Tryz.f3 rfl rfl rfl rfl rfl rfl rfl ⟨rfl,rfl,rfl,rfl,rfl⟩ rfl rfl rfl rfl rfl (by kernel_rfl) Tryz.func3 (by kernel_rfl)
  (of_decide_eq_true (by kernel_rfl)) (by unfold Func.isWrapper;first | (rw[if_pos (by decide +kernel)];kernel_rfl) | (rw[if_neg (by decide +kernel)];exact⟨rfl,rfl⟩))
  (fun os started H enc _=>ZK8 os started H enc)
theorem proved:Rows.AdmitTellsSaid:=over
theorem carded:Rows.AdmitTellsCardSaid:=
 Claim7.holds_tied_plain_at .later [] [.data, .data] true (true, "5993bbbb36cd418e27731508b4ad0539b37fc49c272e06c4f0b99c3df5968dc5") false
  proved (fun _ h=>by cases h) (by kernel_rfl) (fun _ h=>by cases h) admitTells_row_tie rfl ⟨rfl,rfl⟩ (by kernel_rfl) rfl
  (fun f fn hf hfn=>by
   obtain rfl : f = 3 := Option.some.inj ((show Tryz.prog.funcNamed "trefoil/trefoillaw17.AdmitTells" = some 3 by kernel_rfl).symm.trans hf) |>.symm
   obtain rfl:fn=Tryz.f3:=(Option.some.inj (Tryz.func3.symm.trans hfn)).symm
   exact⟨by kernel_rfl,fun j t ht=>by
    rw[Tryz.params3] at ht
    have hm:t∈[22,3]:=by simpa using Array.mem_of_getElem? ht
    have hall:([22,3].all fun u=>!Tryz.prog.wantsStandIn u)=true:=by kernel_rfl
    exact(show Tryz.prog.wantsStandIn t=false by simpa using List.all_eq_true.1 hall t hm)⟩)
  (by kernel_rfl)
end Go.Proofs.YtmnglncebfabpaaGreatDoor.LawAdmitTells
namespace Go.Proofs.YtmnglncebfabpaaGreatDoor
theorem admitTells_holds:Rows.AdmitTellsCardSaid:=LawAdmitTells.carded
#print axioms admitTells_holds
end Go.Proofs.YtmnglncebfabpaaGreatDoor
