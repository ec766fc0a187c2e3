/- TeamRuns: part 6 of 6 of the proof: the row and the card of the law, out of what the evaluator says of it; without conditions. -/
import Derived.Test.YtgcfmiajkbbmeaaGreatZTeamRunse
import Derived.KernelRfl
import Derived.HandedShaped
import Derived.Test.YtgcfmiajkbbmeaaGreatRows
import Derived.WalkKit
import Derived.ProofKit
import Derived.OpenShut
import Derived.ShutString
import Derived.ChangeOld
import Derived.Below
import Derived.SizedLaws
import Derived.Handed
import Derived.LaidMore
import Derived.Stop.Joined
import Derived.ChangeShapes
import Derived.Carry
set_option maxRecDepth 100000
set_option maxHeartbeats 40000000
set_option linter.unusedVariables false
set_option linter.unusedSimpArgs false
namespace Go.Proofs.YtgcfmiajkbbmeaaGreat
open Go Go.Proofs.YtgcfmiajkbbmeaaGreatE
open Go.IntKind (u64 i64 u32 i32 u8)
section
section
variable {α β:Type} {A B:Option α} {Q:α->Option β->Prop}
theorem yB {c:Bool}{X Y:Option β} (h1:Zct A Q X) (h2:Zct B Q Y):Zct (bif c then A else B) Q (br c X Y):=ZP rfl h1 h2
theorem yBn {c:Bool}{X Y:Option β} (h2:Zct B Q Y):Zct (bif c then none else B) Q (br c X Y):=ZP rfl ZB h2
theorem yBm {c:Bool}{X Y:Option β} (h1:Zct A Q X):Zct (bif c then A else none) Q (br c X Y):=ZP rfl h1 ZB
theorem yT {X Y:Option β} (h1:Zct A Q X):Zct A Q (br true X Y):=Zdy rfl h1
theorem yF {X Y:Option β} (h1:Zct A Q Y):Zct A Q (br false X Y):=ZGU rfl h1
theorem yG {γ:Type}{f:γ->D}{l:List γ}{i:Int}{A:γ->Option α}{K:D->Option β} (k:∀r,Zt l i=some r->Zct (A r) Q (K (f r))):Zct ((Zt l i).bind A) Q (bnd (Zt (l.map f) i) K):=ZC8 rfl rfl k
theorem yC {γ:Type}{Γ:Ctx}{f:Nat}{args:List V}{E:Option γ}{A:γ->Option α}{K:V->Option β}{enc:γ->D} (w:∀r,E=some r->evD Γ f args=some (enc r)) (k:∀r,E=some r->Zct (A r) Q (Zys (enc r) K)):Zct (E.bind A) Q (bnd (evW Γ f args []) (ZpW K)):=ZBG enc w rfl k
theorem ZCe {γ:Type}{x:γ}{A:γ->Option α}{X:Option β} (k:Zct (A x) Q X):Zct ((some x).bind A) Q X:=k
theorem yR {a:α}{f:α->Option β}:Zct (some a) (fun r rhs=>rhs=f r) (f a):=Zf rfl
theorem yBr {a:α}{c:Bool}{f:α->Option β}{Y:Option β} (h2:Zct B (fun r rhs=>rhs=f r) Y):Zct (bif c then some a else B) (fun r rhs=>rhs=f r) (br c (f a) Y):=yB yR h2
theorem evT {Γ : Ctx} {f : Nat} (fn : FnI) {args : List V} {E : Option α} {enc : α -> D} (hc : Γ.code f = some fn) (hn : Nat.beq args.length fn.nargs = true) (h : Zct E (fun r rhs => rhs = some (enc r)) (Zhi Γ 0 fn.body (ZaA 0 args) [] fun x e H1 => (match x with
      | .exit _=>none
      | _=>(match ZiS e H1 fn.res with
        | some l=>Zd6 0 [Zfz l] H1 fun _ vs H2=>(match vs with | [v]=>(match fr H2 6 v with | some (x,_)=>some x | none=>none) | _=>none)
        | none=>none)))):∀r,E=some r->evD Γ f args=some (enc r):=by rw[ZGL Γ f fn args hc hn];exact h
theorem evS {Γ : Ctx} {f : Nat} (fn : FnI) {args : List V} {H : Zi} {E : Option α} {enc : α -> V × Zi} (hc : Γ.code f = some fn) (hn : Nat.beq args.length fn.nargs = true) (h : Zct E (fun r rhs => rhs = some (enc r)) (Zhi Γ H.length fn.body (ZaA 0 args) H fun x e H1 => (match x with
      | .exit _=>none
      | _=>(match ZiS e H1 fn.res with
        | some l=>Zd6 H.length [Zfz l] H1 fun _ vs H2=>(match vs with | [v]=>some (v,H2) | _=>none)
        | none=>none)))):∀r,E=some r->evW Γ f args H=some (enc r):=by rw[ZEk Γ f fn args H hc hn];exact h
theorem lpT {S R:Type}{step:S->Option (S⊕R)}{Γ:Ctx}{k:Nat}{live outs:List Nat}{b:C}{vs:S->List V}{H:S->Zi} (x:R->Ex×List V×Zi)
    (h:∀(s:S) (rec:S->Option R),(∀s r,rec s=some r->lpW Γ k live outs b (vs s) (H s)=some (x r))->Zct (step s) (fun t rhs=>(match t with | .inl s'=>∀r,rec s'=some r->rhs=some (x r) | .inr r=>rhs=some (x r))) (Zhi Γ k b (ZcJ live (vs s)) (H s) fun x e H=>(match x with
      | .normal=>Zp2 k (live.map e) H fun vs H=>bnd (lpW Γ k live outs b vs H) some
      | x=>Zd6 k (outs.map e) H fun _ vs H=>some (x,vs,H)))):∀s r,lp step s=some r->lpW Γ k live outs b (vs s) (H s)=some (x r):=
  ZGA (G:=fun s=>lpW Γ k live outs b (vs s) (H s)) x fun s rec ih=>by rw[ZGV];exact h s rec ih
end
theorem Ze6:∀r,Zen=some r->evD ctx 9 []=some (D.bool r):=fun r h=>by
  cases h
  exact ZFD 100 (by kernel_rfl)
def Zp (r:Bool):D:=(D.bool r)
theorem Zrj {t0 t1:Bool}{a:Zj}:∀r,(ZiY a)=some r->evD ctx 34 [(.d (zK1 t0 a.work t1 a.edges))]=some (Zp r):=
 evT ZET rfl rfl <| Zd (Zk _ _) (yB (Zd (Zk _ _) (yBr yR))
  yR)
def ZsS (t0 t1:Bool) (a:Zj):Unit->V×Zi
  | r=>((.agg [(.sl 0 1),(.sl 1 2)]),[(zA a.work),(.arr 2 (List.map Zbs a.edges))])
theorem ZiC {t0 t1:Bool}{a:Zj}:∀r,(ZfE a)=some r->evW ctx 12 [(.d (zK1 t0 a.work t1 a.edges))] []=some ((ZsS t0 t1 a) r):=
 evS ZE0 rfl rfl <| Zdy (Zaz (f:=Zs) (fun _=>⟨rfl,rfl⟩) a.work 0) (ZP (ZaF Zs a.work) (Zd (rfl:_=List.map Zs a.work) (Zdy (Zaz (f:=Zbs) (fun _=>⟨rfl,rfl⟩) a.edges 0) (ZP (ZaF Zbs a.edges) (Zd (rfl:_=List.map Zbs a.edges) yR)
  ZB)))
  ZB)
theorem Zpo {a:Int}:∀r,(Zci a)=some r->evD ctx 67 [(zN a)]=some (Zp r):=
 evT ZEW rfl rfl <| yBr (yBr yR)
def Zc (r:Int):D:=(Zs r)
def Zw (t0:Bool) (a:List Int):(Int⊕Unit)->Ex×List V×Zi
  | (.inl r)=>(.ret,[(zN r)],[])
  | (.inr r)=>(.exit 0,[.bad],[])
theorem ZcW {t0:Bool}{a:List Int}:∀s0 r,lp (ZE a (fun z0=>Zci z0)) s0=some r->lpW ctx 0 [0,1,7,8] [4] Zpe [(zV t0 a),(.d (D.fn 67 [])),(zN (a.length:Int)),(zN s0)] []=some ((Zw t0 a) r):=
 lpT (Zw t0 a) fun s0 _ ih=>yB (yG fun x1 _=>
  yC Zpo fun x2 _=>
  yB (Zf rfl)
  (Ze (ih _)))
  (Zf rfl)
theorem ZdJ {t0:Bool}{a:List Int}:∀r,(ZL a (fun z0=>Zci z0))=some r->evD ctx 99 [(zV t0 a),(.d (D.fn 67 []))]=some (Zc r):=
 evT Zv5 rfl rfl <| Zd (Zk _ _) (by
 conv=>rhs;whnf
 refine Zg _ (ZcW _) fun r3 _=>?_
 rcases r3 with r3 | r3
 exact yR
 exact yR)
theorem ZcY {t0:Bool}{a:List Int}:∀r,(ZF a (fun z0=>Zci z0))=some r->evD ctx 66 [(zV t0 a),(.d (D.fn 67 []))]=some (Zp r):=
 evT Zy1 rfl rfl <| yC ZdJ fun x0 _=>
  yBr yR
theorem ZjT {t0 t1:Bool}{a:Int}{b0:List Int}{b1:List Zv}:∀r,(Zfe a b0)=some r->evD ctx 68 [(zN a),(.d (D.rptr [(zL t0 b0),(zM t1 Zbs b1)]))]=some (Zp r):=
 evT ZEy rfl rfl <| yB (Zd (Zk _ _) (yBr yR))
  yR
def Zda (t0:Bool) (a:List Zv) (b:Zv):(Int⊕Unit)->Ex×List V×Zi
  | (.inl r)=>(.ret,[(zN r)],[])
  | (.inr r)=>(.exit 0,[.bad],[])
theorem Zf1 {t0:Bool}{a:List Zv}{b:Zv}:∀s0 r,lp (ZaQ a b) s0=some r->lpW ctx 0 [0,3,7,8] [4] ZxE [(zW t0 Zbs a),(.ptr 0 0),(zN (a.length:Int)),(zN s0)] [(.cells [(zN b.src),(zN b.dst)])]=some ((Zda t0 a b) r):=
 lpT (Zda t0 a b) fun s0 _ ih=>yB (yG fun x1 _=>
  yB (Zf rfl)
  (Ze (ih _)))
  (Zf rfl)
theorem Zhg {t0:Bool}{a:List Zv}{b:Zv}:∀r,(Zcv a b)=some r->evD ctx 100 [(zW t0 Zbs a),(.d (ZAR b.src b.dst))]=some (Zc r):=
 evT ZCi rfl rfl <| Zd (Zk _ _) (by
 conv=>rhs;whnf
 refine Zg _ (Zf1 _) fun r2 _=>?_
 rcases r2 with r2 | r2
 exact yR
 exact yR)
theorem Zf2 {t0:Bool}{a:List Zv}{b:Zv}:∀r,(ZaT a b)=some r->evD ctx 69 [(zW t0 Zbs a),(.d (ZAR b.src b.dst))]=some (Zp r):=
 evT ZFL rfl rfl <| yC Zhg fun x0 _=>
  yBr yR
def ZsK (r:((List Int)×Bool)):D:=(D.tup [(zL true r.1),(D.bool r.2)])
def Zkj (t0 t1:Bool) (a:Zj) (s0:(List Int)×(List Bool)) (s1:Int):(Unit⊕Unit)->Ex×List V×Zi
  | (.inl r)=>(.exit 3,[(.ptr 0 0),(.sl 1 1),(.sl 2 1),(zN s1),(zN (a.work.length:Int)),(zN s1)],[(zK0 t0 a.work t1 a.edges),(zA s0.1),(.arr 1 (List.map D.bool s0.2))])
  | (.inr r)=>(.exit 4,[(.ptr 0 0),(.sl 1 1),(.sl 2 1),(zN s1),(zN (a.work.length:Int)),(zN s1)],[(zK0 t0 a.work t1 a.edges),(zA s0.1),(.arr 1 (List.map D.bool s0.2))])
theorem ZoF {t0 t1:Bool}{a:Zj}{s0:(List Int)×(List Bool)}{s1:Int}:∀s3 r,lp (ZeQ a s0 s1) s3=some r->lpW ctx 0 [1,4,5,6,21,22,30,31,32] [1,4,5,6,21,22] ZAm [(.ptr 0 0),(.sl 1 1),(.sl 2 1),(zN s1),(zN (a.work.length:Int)),(zN s1),(zW t1 Zbs a.edges),(zN (a.edges.length:Int)),(zN s3)] [(zK0 t0 a.work t1 a.edges),(zA s0.1),(.arr 1 (List.map D.bool s0.2))]=some ((Zkj t0 t1 a s0 s1) r):=
 lpT (Zkj t0 t1 a s0 s1) fun s3 _ ih=>yB (yG fun x4 _=>
  yB (yG fun x5 hx5=>
  Zl (ZV rfl hx5) (yB (Ze (ih _))
  (Zf rfl)))
  (Ze (ih _)))
  (Zf rfl)
def Zkb (t0 t1:Bool) (a:Zj) (s0:(List Int)×(List Bool)):(((List Int)×(List Bool))⊕Unit)->Ex×List V×Zi
  | (.inl r)=>(.exit 1,[(.ptr 0 0),(.sl 1 1),(.sl 2 1)],[(zK0 t0 a.work t1 a.edges),(zA r.1),(.arr 1 (List.map D.bool r.2))])
  | (.inr r)=>(.exit 2,[(.ptr 0 0),(.sl 1 1),(.sl 2 1)],[(zK0 t0 a.work t1 a.edges),(zA s0.1),(.arr 1 (List.map D.bool s0.2))])
theorem ZoN {t0 t1:Bool}{a:Zj}{s0:(List Int)×(List Bool)}:∀s1 r,lp (Zdg a s0) s1=some r->lpW ctx 0 [1,4,5,21,22] [1,4,5] ZBV [(.ptr 0 0),(.sl 1 1),(.sl 2 1),(zN (a.work.length:Int)),(zN s1)] [(zK0 t0 a.work t1 a.edges),(zA s0.1),(.arr 1 (List.map D.bool s0.2))]=some ((Zkb t0 t1 a s0) r):=
 lpT (Zkb t0 t1 a s0) fun s1 _ ih=>yB (yG fun x2 hx2=>
  Zl (ZV rfl hx2) (yB (Ze (ih _))
  (Zd (Zk _ _) (by
 conv=>rhs;whnf
 refine Zg _ (ZoF _) fun r6 _=>?_
 rcases r6 with r6 | r6
 exact Ze (ih _)
 exact Zl (Zam rfl hx2) (Zl (ZV rfl hx2) (Zd (Zau D.bool s0.2 s1.toNat true) (yT (ZP (ZaM Zs s0.1 1) (Zd (ZaK Zs s0.1 [s1]) (Zf rfl))
  ZB))))))))
  (Zf rfl)
def ZjP (t0 t1:Bool) (a:Zj):((List Int)⊕(List Int))->Ex×List V×Zi
  | (.inl r)=>(.ret,[(.nilsl 1),(.d (D.bool false)),(.sl 0 1)],[(zA r)])
  | (.inr r)=>(.exit 0,[.bad,.bad,(.sl 0 1)],[(zA r)])
theorem Zo0 {t0 t1:Bool}{a:Zj}:∀s0 r,lp (ZeR a) s0=some r->lpW ctx 0 [1,4,5] [2,3,4] ZBH [(.ptr 0 0),(.sl 1 1),(.sl 2 1)] [(zK0 t0 a.work t1 a.edges),(zA s0.1),(.arr 1 (List.map D.bool s0.2))]=some ((ZjP t0 t1 a) r):=
 lpT (ZjP t0 t1 a) fun s0 _ ih=>Zd (Zk _ _) (Zd (Zk _ _) (yB (Zd (Zk _ _) (by
 conv=>rhs;whnf
 refine Zg _ (ZoN _) fun r7 _=>?_
 rcases r7 with r7 | r7
 exact Ze (ih _)
 exact Zf rfl))
  (Zf rfl)))
theorem ZrI {t0 t1:Bool}{a:Zj}:∀r,(ZfB a)=some r->evD ctx 70 [(.d (zK1 t0 a.work t1 a.edges))]=some (ZsK r):=
 evT ZFA rfl rfl <| Zd (Zk _ _) (yBm (Zd (ZhP D.bool (false:Bool) (a.work.length:Int)) (by
 conv=>rhs;whnf
 refine Zg _ (Zo0 _) fun r8 _=>?_
 rcases r8 with r8 | r8
 exact yR
 exact yR)))
def ZjU (t0 t1:Bool) (a:Zj):(Unit⊕Unit)->Ex×List V×Zi
  | (.inl r)=>(.ret,[(.ptr 0 0),(zN 42)],[(zK0 t0 a.work t1 a.edges)])
  | (.inr r)=>(.exit 0,[(.ptr 0 0),.bad],[(zK0 t0 a.work t1 a.edges)])
theorem Zo1 {t0 t1:Bool}{a:Zj}:∀s1 r,lp (ZdM a) s1=some r->lpW ctx 0 [1,3,23,24,25] [1,2] ZAn [(.ptr 0 0),(.fn 68 [(.ptr 0 0)]),(zW t1 Zbs a.edges),(zN (a.edges.length:Int)),(zN s1)] [(zK0 t0 a.work t1 a.edges)]=some ((ZjU t0 t1 a) r):=
 lpT (ZjU t0 t1 a) fun s1 _ ih=>yB (yG fun x2 _=>
  yC ZjT fun x3 _=>
  yB (yC ZjT fun x4 _=>
  yB (yB (Zf rfl)
  (yBm (ZP (ZxO Zbs a.edges s1.toNat) (yT (Zd (ZqQ Zbs a.edges s1.toNat) (yC Zf2 fun x5 _=>
  yB (Zf rfl)
  (Ze (ih _)))))
  ZB)))
  (Zf rfl))
  (Zf rfl))
  (Zf rfl)
theorem ZeN {t0 t1:Bool}{a:Zj}:∀r,(ZcX a)=some r->evD ctx 39 [(.d (zK1 t0 a.work t1 a.edges))]=some (Zc r):=
 evT ZEq rfl rfl <| Zd (Zk _ _) (yBr (Zd (Zk _ _) (yBr (yC ZcY fun x0 _=>
  yBr (Zd (Zk _ _) (by
 conv=>rhs;whnf
 refine Zg _ (Zo1 _) fun r6 _=>?_
 rcases r6 with r6 | r6
 exact yR
 exact yC ZrI fun x7 _=>
  yBr yR))))))
def Zj3 (t0:Bool) (a:Zj):Int->Ex×List V×Zi
  | r=>(.exit 0,[(zN r)],[])
theorem Zov {t0:Bool}{a:Zj}:∀s1 r,lp (Zez a) s1=some r->lpW ctx 0 [3,10,11,12] [3] ZA6 [(zN s1.1),(zV t0 a.work),(zN (a.work.length:Int)),(zN s1.2)] []=some ((Zj3 t0 a) r):=
 lpT (Zj3 t0 a) fun s1 _ ih=>yB (yG fun x2 _=>
  Ze (ih _))
  (Zf rfl)
theorem Zst {t0 t1:Bool}{a:Zj}:∀r,(ZfD a)=some r->evD ctx 30 [(.d (zK1 t0 a.work t1 a.edges))]=some (Zc r):=
 evT ZEK rfl rfl <| yC ZeN fun x0 _=>
  yB (Zd (Zk _ _) (Zg _ (Zov _) fun r3 _=>
  yR))
  yR
theorem ZoD {t0 t1 t2:Bool}{a:Zj}{b:List Int}:∀r,(Zf6 a b)=some r->evD ctx 19 [(.d (zK1 t0 a.work t1 a.edges)),(zV t2 b)]=some (Zp r):=
 evT ZEu rfl rfl <| yC Zrj fun x0 _=>
  yB (Zd (Zk _ _) (yB (Zg _ ZiC fun x1 _=>
  yC Zst fun x2 _=>
  yBr yR)
  yR))
  yR
def Zlx (t0:Bool) (a:List Int):Unit->V×Zi
  | r=>((.sl 0 1),[(zA a)])
theorem Zho {t0:Bool}{a:List Int}:∀r,(ZeV a)=some r->evW ctx 14 [(zV t0 a)] []=some ((Zlx t0 a) r):=
 evS ZFZ rfl rfl <| Zdy (Zaz (f:=Zs) (fun _=>⟨rfl,rfl⟩) a 0) (ZP (ZaF Zs a) (Zd (rfl:_=List.map Zs a) yR)
  ZB)
theorem Zow {a:Int}:∀r,(ZbG a)=some r->evD ctx 71 [(zN a)]=some (Zp r):=
 evT ZFj rfl rfl <| yBr (yBr yR)
theorem ZcN {t0:Bool}{a:List Int}:∀s0 r,lp (ZE a (fun z0=>ZbG z0)) s0=some r->lpW ctx 0 [0,1,7,8] [4] Zpe [(zV t0 a),(.d (D.fn 71 [])),(zN (a.length:Int)),(zN s0)] []=some ((Zw t0 a) r):=
 lpT (Zw t0 a) fun s0 _ ih=>yB (yG fun x1 _=>
  yC Zow fun x2 _=>
  yB (Zf rfl)
  (Ze (ih _)))
  (Zf rfl)
theorem Zdb {t0:Bool}{a:List Int}:∀r,(ZL a (fun z0=>ZbG z0))=some r->evD ctx 99 [(zV t0 a),(.d (D.fn 71 []))]=some (Zc r):=
 evT Zv5 rfl rfl <| Zd (Zk _ _) (by
 conv=>rhs;whnf
 refine Zg _ (ZcN _) fun r3 _=>?_
 rcases r3 with r3 | r3
 exact yR
 exact yR)
theorem ZaN {t0:Bool}{a:List Int}:∀r,(ZF a (fun z0=>ZbG z0))=some r->evD ctx 66 [(zV t0 a),(.d (D.fn 71 []))]=some (Zp r):=
 evT Zy1 rfl rfl <| yC Zdb fun x0 _=>
  yBr yR
theorem Zqn {t0 t1 t2:Bool}{a:Zj}{b:List Int}:∀r,(ZhW a b)=some r->evD ctx 40 [(.d (zK1 t0 a.work t1 a.edges)),(zV t2 b)]=some (Zp r):=
 evT ZEv rfl rfl <| Zd (Zk _ _) (Zd (Zk _ _) (yB (yC ZaN fun x0 _=>
  yBr (yC ZaN fun x1 _=>
  yBr yR))
  yR))
def ZvN (a:Bool):(Unit⊕Unit)->D
  | (.inl r)=>(D.iface 115 (D.agg []))
  | (.inr r)=>(D.iface 116 (D.agg []))
theorem ZkS {a:Bool}:∀r,(ZeZ a)=some r->evD ctx 41 [(.d (D.bool a))]=some ((ZvN a) r):=
 evT ZFb rfl rfl <| (by
 try unfold ZeZ
 rcases hb:a with _ | _
 exact ZB8 yR
 exact ZzO yR)
def ZaH (r:List Int):D:=(zL true r)
def Zkd (t0 t2:Bool) (a:Zj) (b:List Int):(List Int)->Ex×List V×Zi
  | r=>(.exit 0,[(.sl 0 1)],[(zA r)])
theorem ZoE {t0 t2:Bool}{a:Zj}{b:List Int}:∀s0 r,lp (Zdl a b) s0=some r->lpW ctx 0 [1,5,9,10,11] [5] ZCg [(zV t2 b),(.sl 0 1),(zV t0 a.work),(zN (a.work.length:Int)),(zN s0.1)] [(zA s0.2)]=some ((Zkd t0 t2 a b) r):=
 lpT (Zkd t0 t2 a b) fun s0 _ ih=>yB (yG fun x1 _=>
  yG fun x2 _=>
  yT (ZP (ZaM Zs s0.2 1) (Zd (ZaK Zs s0.2 [(bif decide (x1<x2) then x1 else x2)]) (Ze (ih _)))
  ZB))
  (Zf rfl)
theorem ZlU {t0 t1 t2:Bool}{a:Zj}{b:List Int}:∀r,(Zg4 a b)=some r->evD ctx 42 [(.d (zK1 t0 a.work t1 a.edges)),(zV t2 b)]=some (ZaH r):=
 evT ZF6 rfl rfl <| Zd (Zk _ _) (Zg _ (ZoE _) fun r3 _=>
  yR)
theorem ZnZ {a:Int}:∀r,(ZbY a)=some r->evD ctx 94 [(zN a)]=some (Zp r):=
 evT ZFC rfl rfl <| yBr (yBr yR)
theorem ZcH {t0:Bool}{a:List Int}:∀s0 r,lp (ZE a (fun z0=>ZbY z0)) s0=some r->lpW ctx 0 [0,1,7,8] [4] Zpe [(zV t0 a),(.d (D.fn 94 [])),(zN (a.length:Int)),(zN s0)] []=some ((Zw t0 a) r):=
 lpT (Zw t0 a) fun s0 _ ih=>yB (yG fun x1 _=>
  yC ZnZ fun x2 _=>
  yB (Zf rfl)
  (Ze (ih _)))
  (Zf rfl)
theorem Zc9 {t0:Bool}{a:List Int}:∀r,(ZL a (fun z0=>ZbY z0))=some r->evD ctx 99 [(zV t0 a),(.d (D.fn 94 []))]=some (Zc r):=
 evT Zv5 rfl rfl <| Zd (Zk _ _) (by
 conv=>rhs;whnf
 refine Zg _ (ZcH _) fun r3 _=>?_
 rcases r3 with r3 | r3
 exact yR
 exact yR)
theorem ZcI {t0:Bool}{a:List Int}:∀r,(ZF a (fun z0=>ZbY z0))=some r->evD ctx 66 [(zV t0 a),(.d (D.fn 94 []))]=some (Zp r):=
 evT Zy1 rfl rfl <| yC Zc9 fun x0 _=>
  yBr yR
def Zqo (r:(Bool×Int)):D:=(D.tup [(D.bool r.1),(Zs r.2)])
theorem ZpA {t0 t1 t2:Bool}{a:Zj}{b:List Int}{c:Int}:∀r,(ZgO a b c)=some r->evD ctx 59 [(.d (zK1 t0 a.work t1 a.edges)),(zV t2 b),(zN c)]=some (Zqo r):=
 evT ZEG rfl rfl <| yC ZeN fun x0 _=>
  yBr (Zd (Zk _ _) (Zd (Zk _ _) (yB (yC ZcI fun x1 _=>
  yBr (yB (yBr yR)
  yR))
  yR)))
theorem ZoS {t0:Bool}{a:List Int}{b0:Int}:∀r,(Zdt a b0)=some r->evD ctx 83 [(zV t0 a),(.d (D.rptr [(Zs b0)]))]=some (Zp r):=
 evT ZEM rfl rfl <| Zd (Zk _ _) (yBr yR)
def ZaJ (t0:Bool) (a:(List (List Int))) (b0:Int):(Int⊕Unit)->Ex×List V×Zi
  | (.inl r)=>(.ret,[(zN r)],[])
  | (.inr r)=>(.exit 0,[.bad],[])
theorem ZcD {t0:Bool}{a:(List (List Int))}{b0:Int}:∀s0 r,lp (ZcL a (fun z0=>Zdt z0 b0)) s0=some r->lpW ctx 0 [0,1,7,8] [4] ZxZ [(.d (D.list t0 (List.map (ZdQ true) a))),(.d (D.fn 83 [(D.rptr [(Zs b0)])])),(zN (a.length:Int)),(zN s0)] []=some ((ZaJ t0 a b0) r):=
 lpT (ZaJ t0 a b0) fun s0 _ ih=>yB (yG fun x1 _=>
  yC ZoS fun x2 _=>
  yB (Zf rfl)
  (Ze (ih _)))
  (Zf rfl)
theorem Zc2 {t0:Bool}{a:(List (List Int))}{b0:Int}:∀r,(Zbz a (fun z0=>Zdt z0 b0))=some r->evD ctx 108 [(.d (D.list t0 (List.map (ZdQ true) a))),(.d (D.fn 83 [(D.rptr [(Zs b0)])]))]=some (Zc r):=
 evT ZAF rfl rfl <| Zd (Zk _ _) (by
 conv=>rhs;whnf
 refine Zg _ (ZcD _) fun r3 _=>?_
 rcases r3 with r3 | r3
 exact yR
 exact yR)
theorem Zcy {t0:Bool}{a:(List (List Int))}{b0:Int}:∀r,(Zav a (fun z0=>Zdt z0 b0))=some r->evD ctx 84 [(.d (D.list t0 (List.map (ZdQ true) a))),(.d (D.fn 83 [(D.rptr [(Zs b0)])]))]=some (Zp r):=
 evT ZFu rfl rfl <| yC Zc2 fun x0 _=>
  yBr yR
def Zqm (t0:Bool) (a:List Int):(List Int)->V×Zi
  | r=>((.ptr 0 0),[(zK8 t0 a),(zA (List.replicate (a.length:Int).toNat (0:Int))),(.arr 2 (List.map Zgk (List.replicate (a.length:Int).toNat ((ZaI.mk 0 0):ZaI)))),(zA r)])
def ZiO (t0:Bool) (a:List Int):(List Int)->Ex×List V×Zi
  | r=>(.exit 0,[(.ptr 0 0)],[(zK8 t0 a),(zA (List.replicate (a.length:Int).toNat (0:Int))),(.arr 2 (List.map Zgk (List.replicate (a.length:Int).toNat ((ZaI.mk 0 0):ZaI)))),(zA r)])
theorem ZmN {t0:Bool}{a:List Int}:∀s0 r,lp (Zbw a) s0=some r->lpW ctx 0 [3,18,19] [3] ZA9 [(.ptr 0 0),(zN (a.length:Int)),(zN s0.1)] [(zK8 t0 a),(zA (List.replicate (a.length:Int).toNat (0:Int))),(.arr 2 (List.map Zgk (List.replicate (a.length:Int).toNat ((ZaI.mk 0 0):ZaI)))),(zA s0.2)]=some ((ZiO t0 a) r):=
 lpT (ZiO t0 a) fun s0 _ ih=>yB (yG fun x1 hx1=>
  Zl (ZV rfl hx1) (Zd (Zau Zs s0.2 s0.1.toNat (-1)) (Ze (ih _))))
  (Zf rfl)
theorem ZpI {t0:Bool}{a:List Int}:∀r,(ZgI a)=some r->evW ctx 85 [(zV t0 a)] []=some ((Zqm t0 a) r):=
 evS ZEC rfl rfl <| Zd (Zk _ _) (yBm (Zd (ZhP Zs (0:Int) (a.length:Int)) (Zd (Zk _ _) (yBm (Zd (ZhP Zgk ((ZaI.mk 0 0):ZaI) (a.length:Int)) (Zd (Zk _ _) (yBm (Zd (ZhP Zs (0:Int) (a.length:Int)) (Zd (Zk _ _) (Zg _ (ZmN _) fun r2 _=>
  yR))))))))))
def ZdX (t0:Bool) (a:List Int) (b:Int):(Int⊕Unit)->Ex×List V×Zi
  | (.inl r)=>(.ret,[(zN r)],[])
  | (.inr r)=>(.exit 0,[.bad],[])
theorem Zgv {t0:Bool}{a:List Int}{b:Int}:∀s0 r,lp (Zbb a b) s0=some r->lpW ctx 0 [0,1,7,8] [4] ZzR [(zV t0 a),(zN b),(zN (a.length:Int)),(zN s0)] []=some ((ZdX t0 a b) r):=
 lpT (ZdX t0 a b) fun s0 _ ih=>yB (yG fun x1 _=>
  yB (Zf rfl)
  (Ze (ih _)))
  (Zf rfl)
theorem ZhY {t0:Bool}{a:List Int}{b:Int}:∀r,(Zc7 a b)=some r->evD ctx 88 [(zV t0 a),(zN b)]=some (Zc r):=
 evT ZFl rfl rfl <| Zd (Zk _ _) (by
 conv=>rhs;whnf
 refine Zg _ (Zgv _) fun r2 _=>?_
 rcases r2 with r2 | r2
 exact yR
 exact yR)
theorem ZZ {t0:Bool}{a:List Int}{b:Int}:∀r,(ZR a b)=some r->evD ctx 55 [(zV t0 a),(zN b)]=some (Zp r):=
 evT ZES rfl rfl <| yC ZhY fun x0 _=>
  yBr yR
theorem Zmc {t0 t1:Bool}{t2 t3:Bool}{a0:List Int}{a1:List Int}{a2:List ZaI}{a3:List Int}{b c:Int}:∀r,(Zi5 a3 b c)=some r->evD ctx 91 [(.d (Zv6 t0 a0 t1 a1 t2 a2 t3 a3)),(zN b),(zN c)]=some (Zp r):=
 evT ZE5 rfl rfl <| yG fun x0 hx0=>
  yB (Zl (Zam rfl hx0) (yBr yR))
  yR
theorem ZkW {t0 t1:Bool}{t2 t3:Bool}{a:Zv}{b0:Int}{c0:List Int}{c1:List Int}{c2:List ZaI}{c3:List Int}{d0:Int}:∀r,(Zb4 a b0 c3 d0)=some r->evD ctx 90 [(.d (ZAR a.src a.dst)),(.d (D.rptr [(Zs b0)])),(.d (D.rptr [(Zv6 t0 c0 t1 c1 t2 c2 t3 c3)])),(.d (D.rptr [(Zs d0)]))]=some (Zp r):=
 evT ZFF rfl rfl <| yB (yC Zmc fun x0 _=>
  yBr yR)
  yR
def Zas (t0 t1 t2 t3 t4:Bool) (a:List Zv) (b0:Int) (b1:List Int) (b2:List Int) (b3:List ZaI) (b4:List Int) (b5:Int):(Int⊕Unit)->Ex×List V×Zi
  | (.inl r)=>(.ret,[(zN r)],[])
  | (.inr r)=>(.exit 0,[.bad],[])
theorem ZbO {t0 t1:Bool}{t2 t3 t4:Bool}{a:List Zv}{b0:Int}{b1:List Int}{b2:List Int}{b3:List ZaI}{b4:List Int}{b5:Int}:∀s0 r,lp (Z4 a (fun z0=>Zb4 z0 b0 b4 b5)) s0=some r->lpW ctx 0 [0,1,7,8] [4] Zt0 [(zW t0 Zbs a),(.d (D.fn 90 [(D.rptr [(Zs b0)]),(D.rptr [(Zv6 t1 b1 t2 b2 t3 b3 t4 b4)]),(D.rptr [(Zs b5)])])),(zN (a.length:Int)),(zN s0)] []=some ((Zas t0 t1 t2 t3 t4 a b0 b1 b2 b3 b4 b5) r):=
 lpT (Zas t0 t1 t2 t3 t4 a b0 b1 b2 b3 b4 b5) fun s0 _ ih=>yB (yG fun x1 _=>
  yC ZkW fun x2 _=>
  yB (Zf rfl)
  (Ze (ih _)))
  (Zf rfl)
theorem Zca {t0 t1:Bool}{t2 t3 t4:Bool}{a:List Zv}{b0:Int}{b1:List Int}{b2:List Int}{b3:List ZaI}{b4:List Int}{b5:Int}:∀r,(ZaL a (fun z0=>Zb4 z0 b0 b4 b5))=some r->evD ctx 109 [(zW t0 Zbs a),(.d (D.fn 90 [(D.rptr [(Zs b0)]),(D.rptr [(Zv6 t1 b1 t2 b2 t3 b3 t4 b4)]),(D.rptr [(Zs b5)])]))]=some (Zc r):=
 evT ZxP rfl rfl <| Zd (Zk _ _) (by
 conv=>rhs;whnf
 refine Zg _ (ZbO _) fun r3 _=>?_
 rcases r3 with r3 | r3
 exact yR
 exact yR)
theorem ZbP {t0 t1:Bool}{t2 t3 t4:Bool}{a:List Zv}{b0:Int}{b1:List Int}{b2:List Int}{b3:List ZaI}{b4:List Int}{b5:Int}:∀r,(ZU a (fun z0=>Zb4 z0 b0 b4 b5))=some r->evD ctx 89 [(zW t0 Zbs a),(.d (D.fn 90 [(D.rptr [(Zs b0)]),(D.rptr [(Zv6 t1 b1 t2 b2 t3 b3 t4 b4)]),(D.rptr [(Zs b5)])]))]=some (Zp r):=
 evT ZDB rfl rfl <| yC Zca fun x0 _=>
  yBr yR
theorem Zhh {t0 t1:Bool}{t2 t3:Bool}{t4 t5:Bool}{a0:List Int}{a1:List Int}{a2:List ZaI}{a3:List Int}{b:Zj}{c d:Int}:∀r,(ZfZ a3 b c d)=some r->evD ctx 56 [(.d (Zv6 t0 a0 t1 a1 t2 a2 t3 a3)),(.d (zK1 t4 b.work t5 b.edges)),(zN c),(zN d)]=some (Zp r):=
 evT ZFc rfl rfl <| yC ZbP fun x0 _=>
  yBr yR
theorem ZmV {t0 t1:Bool}{t2 t3:Bool}{t4 t5 t6:Bool}{a0:List Int}{a1:List Int}{a2:List ZaI}{a3:List Int}{b:Zj}{c:List Int}{d e:Int}:∀r,(Zke a0 a1 a2 a3 b c d e)=some r->evD ctx 86 [(.d (Zv6 t0 a0 t1 a1 t2 a2 t3 a3)),(.d (zK1 t4 b.work t5 b.edges)),(zV t6 c),(zN d),(zN e)]=some (Zc r):=
 evT ZFv rfl rfl <| yG fun x0 _=>
  yBr (Zd (Zk _ _) (yBr (yBm (ZP (ZxO Zs c e.toNat) (yT (Zd (ZqQ Zs c e.toNat) (yC ZZ fun x1 _=>
  yBr (yG fun x2 hx2=>
  yG fun x3 _=>
  yBr (Zl (Zam rfl hx2) (yB (yG fun x4 _=>
  yBr (Zl (Zam rfl hx2) (yB (yC Zhh fun x5 _=>
  yBr yR)
  yR)))
  (Zl (Zam rfl hx2) (yB (yC Zhh fun x6 _=>
  yBr yR)
  yR))))))))
  ZB))))
def Zr0 (t0 t1:Bool) (b:Int) (c:List Int) (mA:List Int) (mB:List Int) (mC:List ZaI) (mE:List Int):Unit->V×Zi
  | r=>((.d (D.tup [])),[(zK8 t1 mA),(zA mB),(.arr 2 (List.map Zgk mC)),(zA mE)])
theorem Zqp {t0 t1:Bool}{b:Int}{c:List Int}{mA:List Int}{mB:List Int}{mC:List ZaI}{mE:List Int}:∀r,(ZoL b c)=some r->evW ctx 53 [(.ptr 0 0),(zN b),(zV t0 c)] [(zK8 t1 mA),(zA mB),(.arr 2 (List.map Zgk mC)),(zA mE)]=some ((Zr0 t0 t1 b c mA mB mC mE) r):=
 evS ZF3 rfl rfl <| yR
def Znu (t0:Bool) (b c d:Int) (mA:List Int) (mB:List Int) (mC:List ZaI) (mE:List Int):((List Int)×(List Int))->V×Zi
  | r=>((.d (D.tup [])),[(zK8 t0 mA),(zA r.1),(.arr 2 (List.map Zgk (List.set mC b.toNat (ZaI.mk c d)))),(zA r.2)])
theorem ZmC {t0:Bool}{b c d:Int}{mA:List Int}{mB:List Int}{mC:List ZaI}{mE:List Int}:∀r,(ZjK b c d mA mB mC mE)=some r->evW ctx 87 [(.ptr 0 0),(zN b),(zN c),(zN d)] [(zK8 t0 mA),(zA mB),(.arr 2 (List.map Zgk mC)),(zA mE)]=some ((Znu t0 b c d mA mB mC mE) r):=
 evS ZFo rfl rfl <| yG fun x0 hx0=>
  Zl (ZV rfl hx0) (Zl (Zam rfl hx0) (Zl (ZV rfl hx0) (Zd (Zau Zs mB b.toNat (w64 (x0+1))) (yG fun x1 hx1=>
  Zl (ZV rfl hx1) (Zd (Zau Zgk mC b.toNat (ZaI.mk c d)) (yG fun x2 hx2=>
  Zl (ZV rfl hx2) (yG fun x3 _=>
  yB (yG fun x4 hx4=>
  Zl (ZV rfl hx4) (Zd (Zau Zs mE b.toNat (w64 (c+1))) yR))
  yR)))))))
def Zih (t0 t1 t2 t3:Bool) (a:Zj) (b:List Int) (c:Int) (d:(List (List Int))):(Int⊕(Int×(List Int)×(List ZaI)×(List Int)))->V×Zi
  | (.inl r)=>((.d (D.tup [(D.nilp),(Zs r)])),[])
  | (.inr r)=>((.tup [(.ptr 0 0),(zN r.1)]),[(zK8 t2 b),(zA r.2.1),(.arr 2 (List.map Zgk r.2.2.1)),(zA r.2.2.2)])
def ZdR (t0 t1 t2 t3:Bool) (a:Zj) (b:List Int) (d:(List (List Int))) (s3:Int×Int×(List Int)×(List ZaI)×(List Int)) (x4:List Int):(Int⊕Int)->Ex×List V×Zi
  | (.inl r)=>(.exit 0,[(.d (D.fn 53 [])),(.ptr 0 0),(zN r),(.ptr 1 0),(zN s3.2.1),(zV true x4),(.d (D.list t3 (List.map (ZdQ true) d))),(zN (d.length:Int)),(zN s3.2.1)],[(zK0 t0 a.work t1 a.edges),(ZyR t2 b),(zA s3.2.2.1),(.arr 2 (List.map Zgk s3.2.2.2.1)),(zA s3.2.2.2.2)])
  | (.inr r)=>(.exit 2,[(.d (D.fn 53 [])),(.ptr 0 0),(zN r),(.ptr 1 0),(zN s3.2.1),(zV true x4),(.d (D.list t3 (List.map (ZdQ true) d))),(zN (d.length:Int)),(zN s3.2.1)],[(zK0 t0 a.work t1 a.edges),(ZyR t2 b),(zA s3.2.2.1),(.arr 2 (List.map Zgk s3.2.2.2.1)),(zA s3.2.2.2.2)])
theorem Zgo {t0 t1:Bool}{t2 t3:Bool}{a:Zj}{b:List Int}{d:(List (List Int))}{s3:Int×Int×(List Int)×(List ZaI)×(List Int)}{x4:List Int}:∀s5 r,lp (Zlg a b s3 x4) s5=some r->lpW ctx 0 [4,5,13,15,16,17,47,48,49,54,55,56] [4,5,13,15,16,17,47,48,49] ZAS [(.d (D.fn 53 [])),(.ptr 0 0),(zN s5.1),(.ptr 1 0),(zN s3.2.1),(zV true x4),(.d (D.list t3 (List.map (ZdQ true) d))),(zN (d.length:Int)),(zN s3.2.1),(zV true x4),(zN (x4.length:Int)),(zN s5.2)] [(zK0 t0 a.work t1 a.edges),(ZyR t2 b),(zA s3.2.2.1),(.arr 2 (List.map Zgk s3.2.2.2.1)),(zA s3.2.2.2.2)]=some ((ZdR t0 t1 t2 t3 a b d s3 x4) r):=
 lpT (ZdR t0 t1 t2 t3 a b d s3 x4) fun s5 _ ih=>yB (yG fun x6 _=>
  yB (Ze (ih _))
  (yC ZmV fun x7 _=>
  yB (Zf rfl)
  (Ze (ih _))))
  (Zf rfl)
def ZdW (t0 t1 t2 t3:Bool) (a:Zj) (b:List Int) (d:(List (List Int))) (s3:Int×Int×(List Int)×(List ZaI)×(List Int)) (x4:List Int) (r8:Int):((List Int)×(List ZaI)×(List Int))->Ex×List V×Zi
  | r=>(.exit 4,[(.d (D.fn 53 [])),(.ptr 0 0),(zN r8),(.ptr 1 0),(.d (D.list t3 (List.map (ZdQ true) d))),(zN (d.length:Int)),(zN s3.2.1)],[(zK0 t0 a.work t1 a.edges),(ZyR t2 b),(zA r.1),(.arr 2 (List.map Zgk r.2.1)),(zA r.2.2)])
theorem Zgn {t0 t1:Bool}{t2 t3:Bool}{a:Zj}{b:List Int}{d:(List (List Int))}{s3:Int×Int×(List Int)×(List ZaI)×(List Int)}{x4:List Int}{r8:Int}:∀s10 r,lp (Zld b s3 x4) s10=some r->lpW ctx 0 [4,5,13,15,16,47,48,49,77,78,79] [4,5,13,15,47,48,49] Zz4 [(.d (D.fn 53 [])),(.ptr 0 0),(zN r8),(.ptr 1 0),(zN s3.2.1),(.d (D.list t3 (List.map (ZdQ true) d))),(zN (d.length:Int)),(zN s3.2.1),(zV true x4),(zN (x4.length:Int)),(zN s10.1)] [(zK0 t0 a.work t1 a.edges),(ZyR t2 b),(zA s10.2.1),(.arr 2 (List.map Zgk s10.2.2.1)),(zA s10.2.2.2)]=some ((ZdW t0 t1 t2 t3 a b d s3 x4 r8) r):=
 lpT (ZdW t0 t1 t2 t3 a b d s3 x4 r8) fun s10 _ ih=>yB (yG fun x11 _=>
  yB (Zg _ ZmC fun x12 _=>
  Ze (ih _))
  (Ze (ih _)))
  (Zf rfl)
def ZdS (t0 t1 t2 t3:Bool) (a:Zj) (b:List Int) (d:(List (List Int))):(Int×(List Int)×(List ZaI)×(List Int))->Ex×List V×Zi
  | r=>(.exit 0,[(zN r.1),(.ptr 0 0)],[(zK8 t2 b),(zA r.2.1),(.arr 2 (List.map Zgk r.2.2.1)),(zA r.2.2.2)])
theorem ZgG {t0 t1:Bool}{t2 t3:Bool}{a:Zj}{b:List Int}{d:(List (List Int))}:∀s3 r,lp (Zk9 a b d) s3=some r->lpW ctx 0 [4,5,13,15,47,48,49] [13,15] ZAT [(.d (D.fn 53 [])),(.ptr 0 0),(zN s3.1),(.ptr 1 0),(.d (D.list t3 (List.map (ZdQ true) d))),(zN (d.length:Int)),(zN s3.2.1)] [(zK0 t0 a.work t1 a.edges),(ZyR t2 b),(zA s3.2.2.1),(.arr 2 (List.map Zgk s3.2.2.2.1)),(zA s3.2.2.2.2)]=some ((ZdS t0 t1 t2 t3 a b d) r):=
 lpT (ZdS t0 t1 t2 t3 a b d) fun s3 _ ih=>yB (yG fun x4 _=>
  Zd (Zk _ _) (by
 conv=>rhs;whnf
 refine Zg _ (Zgo _) fun r8 _=>?_
 rcases r8 with r8 | r8
 exact Zf rfl
 exact Zg _ Zqp fun x9 _=>
  Zd (Zk _ _) (Zg _ (Zgn _) fun r13 _=>
  Ze (ih _))))
  (Zf rfl)
theorem ZhX {t0 t1:Bool}{t2 t3:Bool}{a:Zj}{b:List Int}{c:Int}{d:(List (List Int))}:∀r,(Zk2 a b c d)=some r->evW ctx 52 [(.d (zK1 t0 a.work t1 a.edges)),(zV t2 b),(zN c),(.d (D.list t3 (List.map (ZdQ true) d))),(.d (D.fn 53 []))] []=some ((Zih t0 t1 t2 t3 a b c d) r):=
 evS ZFT rfl rfl <| yC ZpA fun x0 _=>
  yB (yBr (Zd (Zk _ _) (yBr (yC Zcy fun x1 _=>
  yBr (Zg _ ZpI fun x2 _=>
  Zd (Zk _ _) (Zg _ (ZgG _) fun r14 _=>
  yR))))))
  (yBr yR)
theorem Zpb {t0 t1:Bool}{t2 t3:Bool}{a:Zj}{b:List Int}{c:Int}{d:(List (List Int))}:∀r,(ZgR a b c d)=some r->evD ctx 28 [(.d (zK1 t0 a.work t1 a.edges)),(zV t2 b),(zN c),(.d (D.list t3 (List.map (ZdQ true) d)))]=some (Zc r):=
 evT ZEV rfl rfl <| (by
 conv=>rhs;whnf
 refine Zg _ ZhX fun x0 _=>?_
 rcases x0 with x0 | x0
 exact yR
 exact yR)
theorem Zr {t0:Bool}{a:List Int}:∀r,(Zo a)=some r->evW ctx 45 [(zV t0 a)] []=some ((Zlx t0 a) r):=
 evS ZFe rfl rfl <| Zdy (Zaz (f:=Zs) (fun _=>⟨rfl,rfl⟩) a 0) (ZP (ZaF Zs a) (Zd (rfl:_=List.map Zs a) yR)
  ZB)
def Zuo (t0 t1 t2:Bool) (a:Zj) (b:List Int) (c:Int):(Int⊕(List Int))->V×Zi
  | (.inl r)=>((.tup [(.agg [(.nilsl 1),(.nilsl 1)]),(zN r)]),[])
  | (.inr r)=>((.tup [(.agg [(.sl 0 1),(.sl 1 1)]),(zN 0)]),[(zA r),(zA b)])
def Zfl (b:List Int) (c:Int):(List Int)->Ex×List V×Zi
  | r=>(.exit 0,[(.ptr 0 0),(.ptr 1 0)],[(ZD8 ),(zK9 ),(.arr 1 []),(.arr 1 []),(zA r),(zA b)])
theorem Zpm {b:List Int}{c:Int}:∀s2 r,lp (Zej c) s2=some r->lpW ctx 0 [6,9,21,22] [6,9] ZxY [(.ptr 0 0),(.ptr 1 0),(zN c),(zN s2.1)] [(ZD8 ),(zK9 ),(.arr 1 []),(.arr 1 []),(zA s2.2),(zA b)]=some ((Zfl b c) r):=
 lpT (Zfl b c) fun s2 _ ih=>yB (yT (ZP (ZaM Zs s2.2 1) (Zd (ZaK Zs s2.2 [(-1)]) (Ze (ih _)))
  ZB))
  (Zf rfl)
theorem Zm4 {t0 t1 t2:Bool}{a:Zj}{b:List Int}{c:Int}:∀r,(ZgE a b c)=some r->evW ctx 167 [(.d (zK1 t0 a.work t1 a.edges)),(zV t2 b),(zN c)] []=some ((Zuo t0 t1 t2 a b c) r):=
 evS ZzT rfl rfl <| yC Zpb fun x0 _=>
  yBr (Zg _ Zr fun x1 _=>
  Zg _ (Zpm _) fun r3 _=>
  yR)
theorem ZlE {a:Int}:∀r,(Zg0 a)=some r->evD ctx 188 [(zN a)]=some (Zc r):=
 evT ZCc rfl rfl <| yBr (yBr yR)
theorem Zh9 {a:Int}:∀r,(ZbU a)=some r->evD ctx 205 [(.d (D.int .u64 a))]=some (Zc r):=
 evT ZCD rfl rfl <| yF (yF (yF (yF (yF (yF yR)))))
theorem ZjD {a:Int}:∀r,(ZcE a)=some r->evD ctx 189 [(.d (D.int .u64 a))]=some (Zc r):=
 evT ZBm rfl rfl <| yC Zh9 fun x0 _=>
  yR
def ZdV (a:Int):Unit->V×Zi
  | r=>(.bad,[])
theorem Zgm {a:Int}:∀r,(Zb9 a)=some r->evW ctx 207 [(.d (D.int .u64 a))] []=some ((ZdV a) r):=
 evS ZEc rfl rfl <| yBr yR
theorem Zhu {a:Int}:∀r,(Zbq a)=some r->evW ctx 190 [(.d (D.int .u64 a))] []=some ((ZdV a) r):=
 evS ZBy rfl rfl <| Zg _ Zgm fun x0 _=>
  yR
def Zu2 (a:Int):(Unit⊕Unit)->V×Zi
  | (.inl r)=>((.d (D.tup [(Zs 0),(D.bool false)])),[])
  | (.inr r)=>((.tup [.bad,(.d (D.bool true))]),[])
theorem ZoC {a:Int}:∀r,(Zh2 a)=some r->evW ctx 176 [(zN a)] []=some ((Zu2 a) r):=
 evS ZAa rfl rfl <| yC ZlE fun x0 _=>
  yBr (yC ZjD fun x1 _=>
  yBr (Zg _ Zhu fun x2 _=>
  yR))
def ZjA (r:(Za×Int)):D:=(D.tup [(zK4 true r.1.ring r.1.top r.1.bottom),(Zs r.2)])
theorem ZsA {a:Int}:∀r,(Zjn a)=some r->evD ctx 168 [(zN a)]=some (ZjA r):=
 evT ZCq rfl rfl <| (by
 conv=>rhs;whnf
 refine Zg _ ZoC fun x0 _=>?_
 rcases x0 with x0 | x0
 exact yF yR
 exact yT (yBr (yBm (Zd (ZhP Zs (0:Int) a) yR))))
theorem Zoa {a:Int}:∀r,(Zcw a)=some r->evD ctx 195 [(zN a)]=some (Zp r):=
 evT ZBJ rfl rfl <| yBr (yBr yR)
theorem ZcP {t0:Bool}{a:List Int}:∀s0 r,lp (ZE a (fun z0=>Zcw z0)) s0=some r->lpW ctx 0 [0,1,7,8] [4] Zpe [(zV t0 a),(.d (D.fn 195 [])),(zN (a.length:Int)),(zN s0)] []=some ((Zw t0 a) r):=
 lpT (Zw t0 a) fun s0 _ ih=>yB (yG fun x1 _=>
  yC Zoa fun x2 _=>
  yB (Zf rfl)
  (Ze (ih _)))
  (Zf rfl)
theorem Zdc {t0:Bool}{a:List Int}:∀r,(ZL a (fun z0=>Zcw z0))=some r->evD ctx 99 [(zV t0 a),(.d (D.fn 195 []))]=some (Zc r):=
 evT Zv5 rfl rfl <| Zd (Zk _ _) (by
 conv=>rhs;whnf
 refine Zg _ (ZcP _) fun r3 _=>?_
 rcases r3 with r3 | r3
 exact yR
 exact yR)
theorem ZcO {t0:Bool}{a:List Int}:∀r,(ZF a (fun z0=>Zcw z0))=some r->evD ctx 66 [(zV t0 a),(.d (D.fn 195 []))]=some (Zp r):=
 evT Zy1 rfl rfl <| yC Zdc fun x0 _=>
  yBr yR
theorem ZeJ {t0 t1:Bool}{a:Zq}{b:Int}:∀r,(ZdP a b)=some r->evD ctx 191 [(.d (zK5 t0 a.on t1 a.left)),(zN b)]=some (Zp r):=
 evT ZCx rfl rfl <| yG fun x0 _=>
  yBr yR
theorem Zpi {t0 t1:Bool}{a:Zv}{b0:Int}{c0:List Int}{c1:List Int}:∀r,(Zek a b0 c0 c1)=some r->evD ctx 208 [(.d (ZAR a.src a.dst)),(.d (D.rptr [(Zs b0)])),(.d (D.rptr [(zL t0 c0),(zL t1 c1)]))]=some (Zp r):=
 evT ZAd rfl rfl <| yB (yC ZeJ fun x0 _=>
  yBr yR)
  yR
def ZaO (t0 t1 t2:Bool) (a:List Zv) (b0:Int) (b1:List Int) (b2:List Int):(Int⊕Unit)->Ex×List V×Zi
  | (.inl r)=>(.ret,[(zN r)],[])
  | (.inr r)=>(.exit 0,[.bad],[])
theorem ZcF {t0 t1 t2:Bool}{a:List Zv}{b0:Int}{b1:List Int}{b2:List Int}:∀s0 r,lp (Z4 a (fun z0=>Zek z0 b0 b1 b2)) s0=some r->lpW ctx 0 [0,1,7,8] [4] Zt0 [(zW t0 Zbs a),(.d (D.fn 208 [(D.rptr [(Zs b0)]),(D.rptr [(zL t1 b1),(zL t2 b2)])])),(zN (a.length:Int)),(zN s0)] []=some ((ZaO t0 t1 t2 a b0 b1 b2) r):=
 lpT (ZaO t0 t1 t2 a b0 b1 b2) fun s0 _ ih=>yB (yG fun x1 _=>
  yC Zpi fun x2 _=>
  yB (Zf rfl)
  (Ze (ih _)))
  (Zf rfl)
theorem Zc5 {t0 t1 t2:Bool}{a:List Zv}{b0:Int}{b1:List Int}{b2:List Int}:∀r,(ZaL a (fun z0=>Zek z0 b0 b1 b2))=some r->evD ctx 109 [(zW t0 Zbs a),(.d (D.fn 208 [(D.rptr [(Zs b0)]),(D.rptr [(zL t1 b1),(zL t2 b2)])]))]=some (Zc r):=
 evT ZxP rfl rfl <| Zd (Zk _ _) (by
 conv=>rhs;whnf
 refine Zg _ (ZcF _) fun r3 _=>?_
 rcases r3 with r3 | r3
 exact yR
 exact yR)
theorem ZcG {t0 t1 t2:Bool}{a:List Zv}{b0:Int}{b1:List Int}{b2:List Int}:∀r,(ZU a (fun z0=>Zek z0 b0 b1 b2))=some r->evD ctx 89 [(zW t0 Zbs a),(.d (D.fn 208 [(D.rptr [(Zs b0)]),(D.rptr [(zL t1 b1),(zL t2 b2)])]))]=some (Zp r):=
 evT ZDB rfl rfl <| yC Zc5 fun x0 _=>
  yBr yR
theorem Zh8 {t0 t1:Bool}{t2 t3:Bool}{a:Zj}{b:Zq}{c:Int}:∀r,(ZfF a b c)=some r->evD ctx 192 [(.d (zK1 t0 a.work t1 a.edges)),(.d (zK5 t2 b.on t3 b.left)),(zN c)]=some (Zp r):=
 evT Zzz rfl rfl <| yC ZcG fun x0 _=>
  yBr yR
def Zjj (t0 t1 t2 t3:Bool) (a:Zj) (b:Zq):(Unit⊕Unit)->Ex×List V×Zi
  | (.inl r)=>(.ret,[(.ptr 0 0),(.ptr 1 0),(.d (D.bool false))],[(zK0 t0 a.work t1 a.edges),(zK6 t2 b.on t3 b.left)])
  | (.inr r)=>(.exit 0,[(.ptr 0 0),(.ptr 1 0),.bad],[(zK0 t0 a.work t1 a.edges),(zK6 t2 b.on t3 b.left)])
theorem ZnK {t0 t1:Bool}{t2 t3:Bool}{a:Zj}{b:Zq}:∀s1 r,lp (Zea a b) s1=some r->lpW ctx 0 [2,3,35,36,37] [2,3,4] Zyn [(.ptr 0 0),(.ptr 1 0),(zV t2 b.on),(zN (b.on.length:Int)),(zN s1)] [(zK0 t0 a.work t1 a.edges),(zK6 t2 b.on t3 b.left)]=some ((Zjj t0 t1 t2 t3 a b) r):=
 lpT (Zjj t0 t1 t2 t3 a b) fun s1 _ ih=>yB (yG fun x2 _=>
  yB (Ze (ih _))
  (yB (Zf rfl)
  (Zd (Zk _ _) (yB (Zf rfl)
  (yC ZeJ fun x3 _=>
  yB (Zf rfl)
  (yBm (ZP (ZxO Zs b.on s1.toNat) (yT (Zd (ZqQ Zs b.on s1.toNat) (yC ZZ fun x4 _=>
  yB (Zf rfl)
  (yC Zh8 fun x5 _=>
  yB (Ze (ih _))
  (Zf rfl)))))
  ZB)))))))
  (Zf rfl)
def Zjp (t0 t1 t2 t3:Bool) (a:Zj) (b:Zq):(Unit⊕Unit)->Ex×List V×Zi
  | (.inl r)=>(.ret,[(.d (D.bool false))],[])
  | (.inr r)=>(.exit 2,[.bad],[])
theorem Znv {t0 t1:Bool}{t2 t3:Bool}{a:Zj}{b:Zq}:∀s7 r,lp (Zeh a b) s7=some r->lpW ctx 0 [2,3,76,77] [4] Zyh [(.ptr 0 0),(.ptr 1 0),(zN (b.left.length:Int)),(zN s7)] [(zK0 t0 a.work t1 a.edges),(zK6 t2 b.on t3 b.left)]=some ((Zjp t0 t1 t2 t3 a b) r):=
 lpT (Zjp t0 t1 t2 t3 a b) fun s7 _ ih=>yB (yC ZeJ fun x8 _=>
  yB (yC Zh8 fun x9 _=>
  yB (Ze (ih _))
  (Zf rfl))
  (Ze (ih _)))
  (Zf rfl)
theorem Zqk {t0 t1:Bool}{t2 t3:Bool}{a:Zj}{b:Zq}:∀r,(ZhN a b)=some r->evD ctx 179 [(.d (zK1 t0 a.work t1 a.edges)),(.d (zK5 t2 b.on t3 b.left))]=some (Zp r):=
 evT ZCN rfl rfl <| Zd (Zk _ _) (yBr (Zd (Zk _ _) (yBr (Zd (Zk _ _) (Zd (Zk _ _) (yBr (yC ZcO fun x0 _=>
  yBr (Zd (Zk _ _) (by
 conv=>rhs;whnf
 refine Zg _ (ZnK _) fun r6 _=>?_
 rcases r6 with r6 | r6
 exact yR
 exact Zd (Zk _ _) (by
 conv=>rhs;whnf
 refine Zg _ (Znv _) fun r10 _=>?_
 rcases r10 with r10 | r10
 exact yR
 exact yR))))))))))
theorem Zfo {t0 t1:Bool}{t2 t3:Bool}{a:Zj}{b:Zq}:∀r,(Zd2 a b)=some r->evD ctx 171 [(.d (zK1 t0 a.work t1 a.edges)),(.d (zK5 t2 b.on t3 b.left))]=some (Zc r):=
 evT ZAD rfl rfl <| yC ZeN fun x0 _=>
  yB (yC Zqk fun x1 _=>
  yBr yR)
  yR
def Zey (t0 t1 t2 t3:Bool) (a:Zj) (b:Zq):(List Int)->Ex×List V×Zi
  | r=>(.exit 0,[(.sl 0 1)],[(zA r)])
theorem ZnE {t0 t1:Bool}{t2 t3:Bool}{a:Zj}{b:Zq}:∀s0 r,lp (Zd3 a b) s0=some r->lpW ctx 0 [2,3,5,9,10] [5] Zxo [(.ptr 0 0),(.ptr 1 0),(.sl 2 1),(zN (b.left.length:Int)),(zN s0.1)] [(zK0 t0 a.work t1 a.edges),(zK6 t2 b.on t3 b.left),(zA s0.2)]=some ((Zey t0 t1 t2 t3 a b) r):=
 lpT (Zey t0 t1 t2 t3 a b) fun s0 _ ih=>yB (yC ZeJ fun x1 _=>
  yB (Ze (ih _))
  (yC ZZ fun x2 _=>
  yB (Ze (ih _))
  (yC Zh8 fun x3 _=>
  yB (yT (ZP (ZaM Zs s0.2 1) (Zd (ZaK Zs s0.2 [s0.1]) (Ze (ih _)))
  ZB))
  (Ze (ih _)))))
  (Zf rfl)
theorem Zlb {t0 t1:Bool}{t2 t3:Bool}{a:Zj}{b:Zq}:∀r,(ZfY a b)=some r->evD ctx 177 [(.d (zK1 t0 a.work t1 a.edges)),(.d (zK5 t2 b.on t3 b.left))]=some (ZaH r):=
 evT ZzM rfl rfl <| Zd (Zk _ _) (Zg _ (ZnE _) fun r4 _=>
  yR)
theorem Zhs {t0 t1:Bool}{t2 t3:Bool}{a:Zj}{b:Zq}:∀r,(Zc1 a b)=some r->evD ctx 169 [(.d (zK1 t0 a.work t1 a.edges)),(.d (zK5 t2 b.on t3 b.left))]=some (ZaH r):=
 evT ZBk rfl rfl <| yC Zfo fun x0 _=>
  yBr (yC Zlb fun x1 _=>
  yR)
theorem ZdL {t0:Bool}{a:Za}:∀r,(ZaG a)=some r->evD ctx 180 [(.d (zK4 t0 a.ring a.top a.bottom))]=some (Zc r):=
 evT Zz5 rfl rfl <| Zd (Zk _ _) (by
 conv=>rhs;whnf
 refine Zg _ ZoC fun x0 _=>?_
 rcases x0 with x0 | x0
 exact yF yR
 exact yT (Zd (Zk _ _) (yBr (yC ZlE fun x1 _=>
  yBr (yBr (Zd (Zk _ _) (yBr yR)))))))
def ZsF (t0:Bool) (a:Za):Unit->V×Zi
  | r=>((.agg [(.sl 0 1),(zN a.top),(zN a.bottom)]),[(zA a.ring)])
theorem ZlJ {t0:Bool}{a:Za}:∀r,(Zg7 a)=some r->evW ctx 193 [(.d (zK4 t0 a.ring a.top a.bottom))] []=some ((ZsF t0 a) r):=
 evS ZAx rfl rfl <| Zg _ Zr fun x0 _=>
  yR
theorem Ze4 {t0:Bool}{a:Za}{b:Int}:∀r,(Zc3 a b)=some r->evD ctx 194 [(.d (zK4 t0 a.ring a.top a.bottom)),(zN b)]=some (Zc r):=
 evT ZAc rfl rfl <| Zd (Zk _ _) (yBn yR)
theorem Zqq {t0:Bool}{a:Za}{b:Int}:∀r,(ZbD a b)=some r->evD ctx 178 [(.d (zK4 t0 a.ring a.top a.bottom)),(zN b)]=some (ZjA r):=
 evT ZBP rfl rfl <| yC ZdL fun x0 _=>
  yBr (yBr (Zd (Zk _ _) (yBr (Zg _ ZlJ fun x1 _=>
  yC Ze4 fun x2 _=>
  yG fun x3 hx3=>
  Zl (ZV rfl hx3) (Zd (Zau Zs a.ring x2.toNat b) yR)))))
def ZmE (t0 t1:Bool) (b c:Int) (mA:List Int) (mD:List Zv) (mI:Int) (mB:List Int) (mC:List Int) (mE:List Za) (mF:List Zb) (mH:List Int):((List Za)⊕(List Za))->V×Zi
  | (.inl r)=>((.d (D.bool true)),[(zK7 t0 mA t1 mD mI),(zA mB),(zA mC),(.arr 3 (List.map Zy r)),(.arr 6 (List.map ZD mF)),(zA mH)])
  | (.inr r)=>((.d (D.bool false)),[(zK7 t0 mA t1 mD mI),(zA mB),(zA mC),(.arr 3 (List.map Zy r)),(.arr 6 (List.map ZD mF)),(zA mH)])
theorem Zhc {t0 t1:Bool}{b c:Int}{mA:List Int}{mD:List Zv}{mI:Int}{mB:List Int}{mC:List Int}{mE:List Za}{mF:List Zb}{mH:List Int}:∀r,(Zax b c mE)=some r->evW ctx 170 [(.ptr 0 0),(zN b),(zN c)] [(zK7 t0 mA t1 mD mI),(zA mB),(zA mC),(.arr 3 (List.map Zy mE)),(.arr 6 (List.map ZD mF)),(zA mH)]=some ((ZmE t0 t1 b c mA mD mI mB mC mE mF mH) r):=
 evS ZAO rfl rfl <| yG fun x0 hx0=>
  Zl (ZV rfl hx0) (yC Zqq fun x1 _=>
  yB (Zl (Zam rfl hx0) (Zl (ZV rfl hx0) (Zd (Zau Zy mE b.toNat x1.1) (yBr yR))))
  (yBr yR))
def ZsY (t0 t1 t2:Bool) (a:Zj) (b:List Int) (c:Int):(Int⊕((List Int)×(List Za)))->V×Zi
  | (.inl r)=>((.tup [(.agg [(.nilsl 1),(.nilsl 1),(.nilsl 3),(.nilsl 6),(.nilsl 1)]),(zN r)]),[])
  | (.inr r)=>((.tup [(.agg [(.sl 0 1),(.sl 1 1),(.sl 2 3),(.sl 3 6),(.sl 4 1)]),(zN 0)]),[(zA r.1),(zA b),(.arr 3 (List.map Zy r.2)),(.arr 6 (List.map ZD (List.replicate c.toNat ((Zb.mk false 0 0 0 0 0):Zb)))),(zA (List.replicate c.toNat (0:Int)))])
def Zj8 (t0 t1:Bool) (a:Zj) (b:List Int) (c:Int) (x0:List Int):(List Za)->Ex×List V×Zi
  | r=>(.exit 0,[(zN c),(.ptr 0 0),(.ptr 1 0),(.ptr 2 0),(.ptr 3 0)],[(zK0 t0 a.work t1 a.edges),(ZwP ),(.cells [(.sl 9 1),(.sl 10 1)]),(.cells [(.sl 9 1),(.sl 10 1),(.sl 11 3),(.sl 12 6),(.sl 13 1),(zV t0 a.work),(zW t1 Zbs a.edges),(zN 0)]),(.arr 1 []),(.arr 1 []),(.arr 3 []),(.arr 6 []),(.arr 1 []),(zA x0),(zA b),(.arr 3 (List.map Zy r)),(.arr 6 (List.map ZD (List.replicate c.toNat ((Zb.mk false 0 0 0 0 0):Zb)))),(zA (List.replicate c.toNat (0:Int)))])
theorem Zoi {t0 t1:Bool}{a:Zj}{b:List Int}{c:Int}{x0:List Int}:∀s1 r,lp (ZaX c) s1=some r->lpW ctx 0 [2,3,6,8,10,35,36] [2,3,6,8,10] Zyd [(zN c),(.ptr 0 0),(.ptr 1 0),(.ptr 2 0),(.ptr 3 0),(zN c),(zN s1.1)] [(zK0 t0 a.work t1 a.edges),(ZwP ),(.cells [(.sl 9 1),(.sl 10 1)]),(.cells [(.sl 9 1),(.sl 10 1),(.sl 11 3),(.sl 12 6),(.sl 13 1),(zV t0 a.work),(zW t1 Zbs a.edges),(zN 0)]),(.arr 1 []),(.arr 1 []),(.arr 3 []),(.arr 6 []),(.arr 1 []),(zA x0),(zA b),(.arr 3 (List.map Zy s1.2)),(.arr 6 (List.map ZD (List.replicate c.toNat ((Zb.mk false 0 0 0 0 0):Zb)))),(zA (List.replicate c.toNat (0:Int)))]=some ((Zj8 t0 t1 a b c x0) r):=
 lpT (Zj8 t0 t1 a b c x0) fun s1 _ ih=>yB (yC ZsA fun x2 _=>
  yT (ZP (ZaM Zy s1.2 1) (Zd (ZaK Zy s1.2 [x2.1]) (Ze (ih _)))
  ZB))
  (Zf rfl)
def Zj6 (t0 t1:Bool) (a:Zj) (b:List Int) (c:Int) (x0:List Int) (x4:List Int):(List Za)->Ex×List V×Zi
  | r=>(.exit 2,[(.ptr 0 0),(.ptr 1 0)],[(Zwn ),(.cells [(.sl 7 1),(.sl 8 1),(.sl 9 3),(.sl 10 6),(.sl 11 1),(zV t0 a.work),(zW t1 Zbs a.edges),(zN 0)]),(.arr 1 []),(.arr 1 []),(.arr 3 []),(.arr 6 []),(.arr 1 []),(zA x0),(zA b),(.arr 3 (List.map Zy r)),(.arr 6 (List.map ZD (List.replicate c.toNat ((Zb.mk false 0 0 0 0 0):Zb)))),(zA (List.replicate c.toNat (0:Int)))])
theorem Zod {t0 t1:Bool}{a:Zj}{b:List Int}{c:Int}{x0:List Int}{x4:List Int}:∀s5 r,lp (Zbj c x4) s5=some r->lpW ctx 0 [2,6,10,57,58,59] [6,10] ZxN [(zN c),(.ptr 0 0),(.ptr 1 0),(zV true x4),(zN (x4.length:Int)),(zN s5.1)] [(Zwn ),(.cells [(.sl 7 1),(.sl 8 1),(.sl 9 3),(.sl 10 6),(.sl 11 1),(zV t0 a.work),(zW t1 Zbs a.edges),(zN 0)]),(.arr 1 []),(.arr 1 []),(.arr 3 []),(.arr 6 []),(.arr 1 []),(zA x0),(zA b),(.arr 3 (List.map Zy s5.2)),(.arr 6 (List.map ZD (List.replicate c.toNat ((Zb.mk false 0 0 0 0 0):Zb)))),(zA (List.replicate c.toNat (0:Int)))]=some ((Zj6 t0 t1 a b c x0 x4) r):=
 lpT (Zj6 t0 t1 a b c x0 x4) fun s5 _ ih=>yB (yG fun x6 _=>
  yBn (by
 conv=>rhs;whnf
 refine Zg _ Zhc fun x7 _=>?_
 rcases x7 with x7 | x7
 exact Ze (ih _)
 exact Ze (ih _)))
  (Zf rfl)
theorem Zrc {t0 t1 t2:Bool}{a:Zj}{b:List Int}{c:Int}:∀r,(ZfJ a b c)=some r->evW ctx 163 [(.d (zK1 t0 a.work t1 a.edges)),(zV t2 b),(zN c)] []=some ((ZsY t0 t1 t2 a b c) r):=
 evS ZCE rfl rfl <| (by
 conv=>rhs;whnf
 refine Zg _ Zm4 fun x0 _=>?_
 rcases x0 with x0 | x0
 exact yBm yR
 exact yF (yBm (Zd (ZhP ZD ((Zb.mk false 0 0 0 0 0):Zb) c) (yBm (Zd (ZhP Zs (0:Int) c) (Zg _ (Zoi _) fun r3 _=>
  yC Zhs fun x4 _=>
  Zd (Zk _ _) (Zg _ (Zod _) fun r8 _=>
  yR)))))))
def Zde (r:(Zu×Int)):D:=(D.tup [(zK3 true r.1.crew.on true r.1.crew.left true r.1.deques true r.1.takers true r.1.from_),(Zs r.2)])
theorem Zma {t0 t1 t2:Bool}{a:Zlt}{b:Zj}{c:List Int}{d:Int}:∀r,(Zgb a b c d)=some r->evD ctx 159 [(.d (D.agg [])),(.d (zK1 t0 b.work t1 b.edges)),(zV t2 c),(zN d)]=some (Zde r):=
 evT ZCS rfl rfl <| (by
 conv=>rhs;whnf
 refine Zg _ Zrc fun x0 _=>?_
 rcases x0 with x0 | x0
 exact yR
 exact yR)
def ZiW (t0 t1 t2 t3:Bool) (a:Zj) (b:List Int) (c:List Int):(Int⊕Int)->Ex×List V×Zi
  | (.inl r)=>(.ret,[(zN 3),(zN r)],[])
  | (.inr r)=>(.exit 0,[.bad,(zN r)],[])
theorem ZnG {t0 t1:Bool}{t2 t3:Bool}{a:Zj}{b:List Int}{c:List Int}:∀s0 r,lp (Zbn a b c) s0=some r->lpW ctx 0 [1,3,7,10,11,12] [6,7] ZBu [(zV t2 b),(.ptr 0 0),(zN s0.1),(zV t3 c),(zN (c.length:Int)),(zN s0.2)] [(zK0 t0 a.work t1 a.edges)]=some ((ZiW t0 t1 t2 t3 a b c) r):=
 lpT (ZiW t0 t1 t2 t3 a b c) fun s0 _ ih=>yB (yG fun x1 _=>
  yB (yB (Ze (ih _))
  (yB (yG fun x2 _=>
  yG fun x3 _=>
  yB (Zf rfl)
  (Ze (ih _)))
  (Ze (ih _))))
  (yB (yG fun x4 _=>
  yG fun x5 _=>
  yB (Zf rfl)
  (Ze (ih _)))
  (Ze (ih _))))
  (Zf rfl)
theorem ZcQ {t0 t1:Bool}{t2 t3:Bool}{a:Zj}{b:List Int}{c:List Int}:∀r,(Zcb a b c)=some r->evD ctx 43 [(.d (zK1 t0 a.work t1 a.edges)),(zV t2 b),(zV t3 c)]=some (Zc r):=
 evT ZFk rfl rfl <| Zd (Zk _ _) (by
 conv=>rhs;whnf
 refine Zg _ (ZnG _) fun r6 _=>?_
 rcases r6 with r6 | r6
 exact yR
 exact yR)
theorem Zmv {t0 t1 t2:Bool}{a:Zsd}{b:Zj}{c:List Int}{d:Int}:∀r,(Zgp a b c d)=some r->evD ctx 215 [(.d (D.agg [])),(.d (zK1 t0 b.work t1 b.edges)),(zV t2 c),(zN d)]=some (Zde r):=
 evT ZBb rfl rfl <| (by
 conv=>rhs;whnf
 refine Zg _ Zm4 fun x0 _=>?_
 rcases x0 with x0 | x0
 exact yR
 exact yR)
def ZoU (r:(ZW×Int)):D:=(D.tup [(D.agg [(D.bool r.1.stealing),(zL true r.1.demand),(Zs r.1.state),(zL true r.1.gang.crew.on),(zL true r.1.gang.crew.left),(zM true Zy r.1.gang.deques),(zM true ZD r.1.gang.takers),(zL true r.1.gang.from_)]),(Zs r.2)])
theorem Zna {t0 t1 t2:Bool}{a:Zj}{b:List Int}{c:Int}{d:Bool}:∀r,(ZeI a b c d)=some r->evD ctx 22 [(.d (zK1 t0 a.work t1 a.edges)),(zV t2 b),(zN c),(.d (D.bool d))]=some (ZoU r):=
 evT ZFf rfl rfl <| yC ZeN fun x0 _=>
  yBr (yC Zqn fun x1 _=>
  yB (yBr (yBr (by
 conv=>rhs;whnf
 refine yC ZkS fun x2 _=>?_
 rcases x2 with x2 | x2
 exact yC ZlU fun x3 _=>
  yC Zma fun x4 _=>
  yBr (Zg _ Zr fun x5 _=>
  yC ZcQ fun x6 _=>
  yR)
 exact yC ZlU fun x7 _=>
  yC Zmv fun x8 _=>
  yBr (Zg _ Zr fun x9 _=>
  yC ZcQ fun x10 _=>
  yR))))
  yR)
def Ziy (t0 t1 t2 t3 t4:Bool) (a:Zu):(Unit⊕Unit)->Ex×List V×Zi
  | (.inl r)=>(.ret,[(.d (D.bool false))],[])
  | (.inr r)=>(.exit 0,[.bad],[])
theorem Zm1 {t0 t1:Bool}{t2 t3 t4:Bool}{a:Zu}:∀s0 r,lp (Zdn a) s0=some r->lpW ctx 0 [1,3,32,33,34] [2] ZxR [(.ptr 0 0),(zN (a.crew.on.length:Int)),(zW t2 Zy a.deques),(zN (a.deques.length:Int)),(zN s0)] [(zK2 t0 a.crew.on t1 a.crew.left t2 a.deques t3 a.takers t4 a.from_)]=some ((Ziy t0 t1 t2 t3 t4 a) r):=
 lpT (Ziy t0 t1 t2 t3 t4 a) fun s0 _ ih=>yB (yG fun x1 _=>
  yG fun x2 _=>
  yG fun x3 _=>
  yC ZdL fun x4 _=>
  yB (Zf rfl)
  (Zd (Zk _ _) (yB (Zf rfl)
  (yB (Zf rfl)
  (yB (Zf rfl)
  (yB (Zf rfl)
  (yB (yB (yF (yG fun x5 _=>
  yB (yB (Zf rfl)
  (yB (Zf rfl)
  (Ze (ih _))))
  (Ze (ih _))))
  (yT (Zf rfl)))
  (yB (yT (Zf rfl))
  (yF (yG fun x6 _=>
  yB (yB (Zf rfl)
  (yB (Zf rfl)
  (Ze (ih _))))
  (Ze (ih _))))))))))))
  (Zf rfl)
theorem Zpq {t0 t1:Bool}{t2 t3 t4:Bool}{a:Zu}:∀r,(ZgJ a)=some r->evD ctx 172 [(.d (zK3 t0 a.crew.on t1 a.crew.left t2 a.deques t3 a.takers t4 a.from_))]=some (Zp r):=
 evT ZAK rfl rfl <| Zd (Zk _ _) (Zd (Zk _ _) (yBr (Zd (Zk _ _) (yBr (Zd (Zk _ _) (yBr (Zd (Zk _ _) (by
 conv=>rhs;whnf
 refine Zg _ (Zm1 _) fun r7 _=>?_
 rcases r7 with r7 | r7
 exact yR
 exact yR))))))))
theorem ZjN {t0 t1:Bool}{t2 t3:Bool}{t4 t5 t6:Bool}{a:Zj}{b:Zu}:∀r,(Zfg a b)=some r->evD ctx 164 [(.d (zK1 t0 a.work t1 a.edges)),(.d (zK3 t2 b.crew.on t3 b.crew.left t4 b.deques t5 b.takers t6 b.from_))]=some (Zc r):=
 evT ZCV rfl rfl <| yC Zfo fun x0 _=>
  yB (yC Zpq fun x1 _=>
  yBr yR)
  yR
def ZgA (t0:Bool) (a:List Zb):Unit->V×Zi
  | r=>((.sl 0 6),[(.arr 6 (List.map ZD a))])
theorem Zgf {t0:Bool}{a:List Zb}:∀r,(Za3 a)=some r->evW ctx 181 [(zW t0 ZD a)] []=some ((ZgA t0 a) r):=
 evS ZC0 rfl rfl <| ZP (Zxt ZD a) (Zdy (Zaz (f:=ZD) (fun _=>⟨rfl,rfl⟩) a 0) (ZP (ZaF ZD a) (Zd (rfl:_=List.map ZD a) yR)
  ZB))
  ZB
def ZgC (t0:Bool) (a:List Za):Unit->V×Zi
  | r=>((.sl 0 3),[(.arr 3 (List.map Zy a))])
theorem Zge {t0:Bool}{a:List Za}:∀r,(Za0 a)=some r->evW ctx 182 [(zW t0 Zy a)] []=some ((ZgC t0 a) r):=
 evS ZBX rfl rfl <| ZP (Zxt Zy a) (Zdy (Zaz (f:=Zy) (fun _=>⟨rfl,rfl⟩) a 0) (ZP (ZaF Zy a) (Zd (rfl:_=List.map Zy a) yR)
  ZB))
  ZB
def ZsL (t0 t1 t2 t3 t4:Bool) (a:Zu):(List Za)->V×Zi
  | r=>((.agg [(.sl 0 1),(.sl 1 1),(.sl 2 3),(.sl 3 6),(.sl 4 1)]),[(zA a.crew.on),(zA a.crew.left),(.arr 3 (List.map Zy r)),(.arr 6 (List.map ZD a.takers)),(zA a.from_)])
def ZjY (a:Zu):(List Za)->Ex×List V×Zi
  | r=>(.exit 0,[(.ptr 0 0),(.ptr 1 0)],[(Zwn ),(.cells [(.sl 7 1),(.sl 8 1),(.sl 9 3),(.sl 10 6),(.sl 11 1)]),(zA a.crew.on),(zA a.crew.left),(.arr 3 (List.map Zy r)),(.arr 6 (List.map ZD a.takers)),(zA a.from_),(.arr 1 []),(.arr 1 []),(.arr 3 []),(.arr 6 []),(.arr 1 [])])
theorem Zom {a:Zu}:∀s5 r,lp (ZdH a) s5=some r->lpW ctx 0 [1,2,30,31] [1,2] Zxs [(.ptr 0 0),(.ptr 1 0),(zN (a.deques.length:Int)),(zN s5.1)] [(Zwn ),(.cells [(.sl 7 1),(.sl 8 1),(.sl 9 3),(.sl 10 6),(.sl 11 1)]),(zA a.crew.on),(zA a.crew.left),(.arr 3 (List.map Zy s5.2)),(.arr 6 (List.map ZD a.takers)),(zA a.from_),(.arr 1 []),(.arr 1 []),(.arr 3 []),(.arr 6 []),(.arr 1 [])]=some ((ZjY a) r):=
 lpT (ZjY a) fun s5 _ ih=>yB (yG fun x6 hx6=>
  Zl (ZV rfl hx6) (Zg _ Zr fun x7 _=>
  Zl (Zam rfl hx6) (Zl (ZV rfl hx6) (Zd (Zau Zy s5.2 s5.1.toNat x6) (Ze (ih _))))))
  (Zf rfl)
theorem Zl5 {t0 t1:Bool}{t2 t3 t4:Bool}{a:Zu}:∀r,(Zg6 a)=some r->evW ctx 173 [(.d (zK3 t0 a.crew.on t1 a.crew.left t2 a.deques t3 a.takers t4 a.from_))] []=some ((ZsL t0 t1 t2 t3 t4 a) r):=
 evS ZCy rfl rfl <| Zg _ Zr fun x0 _=>
  Zg _ Zr fun x1 _=>
  Zg _ Zgf fun x2 _=>
  Zg _ Zr fun x3 _=>
  Zg _ Zge fun x4 _=>
  Zd (Zk _ _) (Zg _ (Zom _) fun r8 _=>
  yR)
theorem ZjZ {t0:Bool}{a:Za}:∀r,(ZaD a)=some r->evD ctx 197 [(.d (zK4 t0 a.ring a.top a.bottom))]=some (Zp r):=
 evT ZAU rfl rfl <| yBr yR
def Zak (t0:Bool) (a:List Za):(Int⊕Unit)->Ex×List V×Zi
  | (.inl r)=>(.ret,[(zN r)],[])
  | (.inr r)=>(.exit 0,[.bad],[])
theorem Zbx {t0:Bool}{a:List Za}:∀s0 r,lp (Zal a (fun z0=>ZaD z0)) s0=some r->lpW ctx 0 [0,1,7,8] [4] ZxX [(zW t0 Zy a),(.d (D.fn 197 [])),(zN (a.length:Int)),(zN s0)] []=some ((Zak t0 a) r):=
 lpT (Zak t0 a) fun s0 _ ih=>yB (yG fun x1 _=>
  yC ZjZ fun x2 _=>
  yB (Zf rfl)
  (Ze (ih _)))
  (Zf rfl)
theorem ZbN {t0:Bool}{a:List Za}:∀r,(Zbg a (fun z0=>ZaD z0))=some r->evD ctx 209 [(zW t0 Zy a),(.d (D.fn 197 []))]=some (Zc r):=
 evT ZB0 rfl rfl <| Zd (Zk _ _) (by
 conv=>rhs;whnf
 refine Zg _ (Zbx _) fun r3 _=>?_
 rcases r3 with r3 | r3
 exact yR
 exact yR)
theorem Zby {t0:Bool}{a:List Za}:∀r,(Zai a (fun z0=>ZaD z0))=some r->evD ctx 196 [(zW t0 Zy a),(.d (D.fn 197 []))]=some (Zp r):=
 evT ZAQ rfl rfl <| yC ZbN fun x0 _=>
  yBr yR
def ZbQ (t0 t1 t2 t3 t4 t5 t6:Bool) (a0:List Int) (a1:List Int) (a2:List Za) (a3:List Zb) (a4:List Int) (a5:List Int) (a6:List Zv) (a7:Int):(List Int)->Ex×List V×Zi
  | r=>(.exit 0,[(.sl 0 1)],[(zA r)])
theorem Zju {t0 t1:Bool}{t2 t3:Bool}{t4 t5 t6:Bool}{a0:List Int}{a1:List Int}{a2:List Za}{a3:List Zb}{a4:List Int}{a5:List Int}{a6:List Zv}{a7:Int}:∀s1 r,lp (Zbu a0) s1=some r->lpW ctx 0 [0,3,4,18,19,20] [4] Zuj [(.d (Zw1 t0 a0 t1 a1 t2 a2 t3 a3 t4 a4 t5 a5 t6 a6 a7)),(.d (D.bool true)),(.sl 0 1),(zV t0 a0),(zN (a0.length:Int)),(zN s1.1)] [(zA s1.2)]=some ((ZbQ t0 t1 t2 t3 t4 t5 t6 a0 a1 a2 a3 a4 a5 a6 a7) r):=
 lpT (ZbQ t0 t1 t2 t3 t4 t5 t6 a0 a1 a2 a3 a4 a5 a6 a7) fun s1 _ ih=>yB (yG fun x2 _=>
  yB (yT (ZP (ZaM Zs s1.2 1) (Zd (ZaK Zs s1.2 [s1.1]) (Ze (ih _)))
  ZB))
  (Ze (ih _)))
  (Zf rfl)
theorem ZiP {t0 t1:Bool}{t2 t3:Bool}{t4 t5 t6:Bool}{a0:List Int}{a1:List Int}{a2:List Za}{a3:List Zb}{a4:List Int}{a5:List Int}{a6:List Zv}{a7:Int}:∀s4 r,lp (Za9 a0 a3) s4=some r->lpW ctx 0 [0,3,4,18,19,20] [4] Zuj [(.d (Zw1 t0 a0 t1 a1 t2 a2 t3 a3 t4 a4 t5 a5 t6 a6 a7)),(.d (D.bool false)),(.sl 0 1),(zV t0 a0),(zN (a0.length:Int)),(zN s4.1)] [(zA s4.2)]=some ((ZbQ t0 t1 t2 t3 t4 t5 t6 a0 a1 a2 a3 a4 a5 a6 a7) r):=
 lpT (ZbQ t0 t1 t2 t3 t4 t5 t6 a0 a1 a2 a3 a4 a5 a6 a7) fun s4 _ ih=>yB (yG fun x5 _=>
  yB (yG fun x6 _=>
  yB (yT (ZP (ZaM Zs s4.2 1) (Zd (ZaK Zs s4.2 [s4.1]) (Ze (ih _)))
  ZB))
  (Ze (ih _)))
  (Ze (ih _)))
  (Zf rfl)
theorem Zgh {t0 t1:Bool}{t2 t3:Bool}{t4 t5 t6:Bool}{a0:List Int}{a1:List Int}{a2:List Za}{a3:List Zb}{a4:List Int}{a5:List Int}{a6:List Zv}{a7:Int}:∀r,(Zcx a0 a2 a3)=some r->evD ctx 183 [(.d (Zw1 t0 a0 t1 a1 t2 a2 t3 a3 t4 a4 t5 a5 t6 a6 a7))]=some (ZaH r):=
 evT ZCr rfl rfl <| yC Zby fun x0 _=>
  yB (Zd (Zk _ _) (Zg _ (Zju _) fun r3 _=>
  yR))
  (Zd (Zk _ _) (Zg _ (ZiP _) fun r7 _=>
  yR))
theorem Zkq {t0 t1:Bool}{t2 t3:Bool}{t4 t5 t6:Bool}{a:Int}{b0:List Int}{b1:List Int}{b2:List Za}{b3:List Zb}{b4:List Int}{b5:List Int}{b6:List Zv}{b7:Int}:∀r,(ZaP a b7)=some r->evD ctx 198 [(zN a),(.d (D.rptr [(Zw1 t0 b0 t1 b1 t2 b2 t3 b3 t4 b4 t5 b5 t6 b6 b7)]))]=some (Zp r):=
 evT ZCI rfl rfl <| yBr yR
def Zay (t0 t1 t2 t3 t4 t5 t6:Bool) (t7:Bool) (a:List Int) (b0:List Int) (b1:List Int) (b2:List Za) (b3:List Zb) (b4:List Int) (b5:List Int) (b6:List Zv) (b7:Int):(Int⊕Unit)->Ex×List V×Zi
  | (.inl r)=>(.ret,[(zN r)],[])
  | (.inr r)=>(.exit 0,[.bad],[])
theorem Zb3 {t0 t1:Bool}{t2 t3:Bool}{t4 t5:Bool}{t6 t7:Bool}{a:List Int}{b0:List Int}{b1:List Int}{b2:List Za}{b3:List Zb}{b4:List Int}{b5:List Int}{b6:List Zv}{b7:Int}:∀s0 r,lp (ZE a (fun z0=>ZaP z0 b7)) s0=some r->lpW ctx 0 [0,1,7,8] [4] Zpe [(zV t0 a),(.d (D.fn 198 [(D.rptr [(Zw1 t1 b0 t2 b1 t3 b2 t4 b3 t5 b4 t6 b5 t7 b6 b7)])])),(zN (a.length:Int)),(zN s0)] []=some ((Zay t0 t1 t2 t3 t4 t5 t6 t7 a b0 b1 b2 b3 b4 b5 b6 b7) r):=
 lpT (Zay t0 t1 t2 t3 t4 t5 t6 t7 a b0 b1 b2 b3 b4 b5 b6 b7) fun s0 _ ih=>yB (yG fun x1 _=>
  yC Zkq fun x2 _=>
  yB (Zf rfl)
  (Ze (ih _)))
  (Zf rfl)
theorem Zcz {t0 t1:Bool}{t2 t3:Bool}{t4 t5:Bool}{t6 t7:Bool}{a:List Int}{b0:List Int}{b1:List Int}{b2:List Za}{b3:List Zb}{b4:List Int}{b5:List Int}{b6:List Zv}{b7:Int}:∀r,(ZL a (fun z0=>ZaP z0 b7))=some r->evD ctx 99 [(zV t0 a),(.d (D.fn 198 [(D.rptr [(Zw1 t1 b0 t2 b1 t3 b2 t4 b3 t5 b4 t6 b5 t7 b6 b7)])]))]=some (Zc r):=
 evT Zv5 rfl rfl <| Zd (Zk _ _) (by
 conv=>rhs;whnf
 refine Zg _ (Zb3 _) fun r3 _=>?_
 rcases r3 with r3 | r3
 exact yR
 exact yR)
theorem Zlv {t0 t1:Bool}{t2 t3:Bool}{t4 t5:Bool}{t6 t7 t8:Bool}{a0:List Int}{a1:List Int}{a2:List Za}{a3:List Zb}{a4:List Int}{a5:List Int}{a6:List Zv}{a7:Int}{b:List Int}{c:List Int}{d:Int}:∀r,(ZaS a7 b c d)=some r->evD ctx 184 [(.d (Zw1 t0 a0 t1 a1 t2 a2 t3 a3 t4 a4 t5 a5 t6 a6 a7)),(zV t7 b),(zV t8 c),(zN d)]=some (Zc r):=
 evT ZzE rfl rfl <| Zd (Zk _ _) (yB (yG fun x0 _=>
  Zd (Zk _ _) (yBn (yG fun x1 _=>
  yR)))
  (yC Zcz fun x2 _=>
  yG fun x3 _=>
  yR))
theorem Zev {a:Int}:∀r,(ZcA a)=some r->evD ctx 213 [(zN a)]=some (Zp r):=
 evT ZB2 rfl rfl <| yBr (yBr yR)
theorem Zqz {a:Zb}:∀r,(ZhE a)=some r->evD ctx 210 [(.d (D.agg [(D.bool a.steal),(Zs a.at_),(Zs a.top),(Zs a.bottom),(Zs a.got),(Zs a.end_)]))]=some (Zp r):=
 evT ZCP rfl rfl <| yB (yB (yB (yB (yBr (yC Zev fun x0 _=>
  yBr (yC Zev fun x1 _=>
  yBr yR)))
  yR)
  yR)
  yR)
  (yB (yB (yB (yBr (yC Zev fun x2 _=>
  yBr (yC Zev fun x3 _=>
  yBr yR)))
  yR)
  yR)
  yR)
def Zsi (mA mD:Int) (mB:Bool) (mL mJ mK mM mN:Int) (mC:List Int):(Unit⊕Unit)->V×Zi
  | (.inl r)=>((.d (D.bool false)),[(ZvP mA mD),(.cells [(.d (D.bool mB)),(zN mL),(zN mJ),(zN mK),(zN mM),(zN mN)]),(zA mC)])
  | (.inr r)=>((.d (D.bool true)),[(ZvP (w64 (mA+1)) mD),(.cells [(.d (D.bool mB)),(zN mL),(zN mJ),(zN mK),(zN mM),(zN mN)]),(zA mC)])
theorem Zlc {mA mD:Int}{mB:Bool}{mL mJ:Int}{mK mM mN:Int}{mC:List Int}:∀r,(Zb8 mA mJ)=some r->evW ctx 214 [(.ptr 0 0),(.ptr 1 0)] [(ZvP mA mD),(.cells [(.d (D.bool mB)),(zN mL),(zN mJ),(zN mK),(zN mM),(zN mN)]),(zA mC)]=some ((Zsi mA mD mB mL mJ mK mM mN mC) r):=
 evS ZBw rfl rfl <| yBr yR
def Zqw (mA mD:Int) (mB:Bool) (mL mJ mK mM mN:Int) (mC:List Int):(Int×Int×Int×Int×Int×Int)->V×Zi
  | r=>((.d (D.tup [])),[(ZvP r.1 mD),(.cells [(.d (D.bool mB)),(zN r.2.1),(zN r.2.2.1),(zN r.2.2.2.1),(zN r.2.2.2.2.1),(zN r.2.2.2.2.2)]),(zA mC)])
theorem Zpw {mA mD:Int}{mB:Bool}{mL mJ:Int}{mK mM mN:Int}{mC:List Int}:∀r,(ZaV mA mD mL mJ mK mM mN mC)=some r->evW ctx 211 [(.ptr 0 0),(.ptr 1 0)] [(ZvP mA mD),(.cells [(.d (D.bool mB)),(zN mL),(zN mJ),(zN mK),(zN mM),(zN mN)]),(zA mC)]=some ((Zqw mA mD mB mL mJ mK mM mN mC) r):=
 evS ZBp rfl rfl <| yBr (yB (yBr yR)
  (yB (yC Ze4 fun x0 _=>
  yG fun x1 hx1=>
  Zl (ZV rfl hx1) yR)
  (by
 conv=>rhs;whnf
 refine Zg _ Zlc fun x2 _=>?_
 rcases x2 with x2 | x2
 exact yR
 exact yR)))
def ZsO (mA mD:Int) (mB:Bool) (mL mJ mK mM mN:Int) (mC:List Int):(Int×Int×Int×Int×Int×Int×Int)->V×Zi
  | r=>((.d (D.tup [])),[(ZvP r.1 r.2.1),(.cells [(.d (D.bool mB)),(zN r.2.2.1),(zN r.2.2.2.1),(zN r.2.2.2.2.1),(zN r.2.2.2.2.2.1),(zN r.2.2.2.2.2.2)]),(zA mC)])
theorem Zrz {mA mD:Int}{mB:Bool}{mL mJ:Int}{mK mM mN:Int}{mC:List Int}:∀r,(Za5 mA mD mL mJ mK mM mN mC)=some r->evW ctx 212 [(.ptr 0 0),(.ptr 1 0)] [(ZvP mA mD),(.cells [(.d (D.bool mB)),(zN mL),(zN mJ),(zN mK),(zN mM),(zN mN)]),(zA mC)]=some ((ZsO mA mD mB mL mJ mK mM mN mC) r):=
 evS ZBW rfl rfl <| yBr (yB (yB (yC Ze4 fun x0 _=>
  yG fun x1 hx1=>
  Zl (ZV rfl hx1) yR)
  (yBr yR))
  (yB ((by
 conv=>rhs;whnf
 refine Zg _ Zlc fun x2 _=>?_
 rcases x2 with x2 | x2
 exact yR
 exact yC Ze4 fun x3 _=>
  yG fun x4 hx4=>
  Zl (ZV rfl hx4) yR))
  (yBr yR)))
def Zl0 (r:(Za×Zb×Int)):D:=(D.tup [(zK4 true r.1.ring r.1.top r.1.bottom),(D.agg [(D.bool r.2.1.steal),(Zs r.2.1.at_),(Zs r.2.1.top),(Zs r.2.1.bottom),(Zs r.2.1.got),(Zs r.2.1.end_)]),(Zs r.2.2)])
theorem Zqh {t0:Bool}{a:Za}{b:Zb}:∀r,(Zag a b)=some r->evD ctx 199 [(.d (zK4 t0 a.ring a.top a.bottom)),(.d (D.agg [(D.bool b.steal),(Zs b.at_),(Zs b.top),(Zs b.bottom),(Zs b.got),(Zs b.end_)]))]=some (Zl0 r):=
 evT ZBc rfl rfl <| yC ZdL fun x0 _=>
  yBr (yC Zqz fun x1 _=>
  yB (Zg _ ZlJ fun x2 _=>
  yB (Zg _ Zpw fun x3 _=>
  yC ZdL fun x4 _=>
  yBr yR)
  (Zg _ Zrz fun x5 _=>
  yC ZdL fun x6 _=>
  yBr yR))
  yR)
def Zl7 (t0 t1:Bool) (b c:Int) (mA:List Int) (mD:List Zv) (mI:Int) (mB:List Int) (mC:List Int) (mE:List Za) (mF:List Zb) (mH:List Int):(List Zb)->V×Zi
  | r=>((.d (D.tup [])),[(zK7 t0 mA t1 mD mI),(zA mB),(zA mC),(.arr 3 (List.map Zy mE)),(.arr 6 (List.map ZD r)),(zA (List.set mH b.toNat c))])
theorem Zeq {t0 t1:Bool}{b c:Int}{mA:List Int}{mD:List Zv}{mI:Int}{mB:List Int}{mC:List Int}{mE:List Za}{mF:List Zb}{mH:List Int}:∀r,(ZbB b c mF mH)=some r->evW ctx 200 [(.ptr 0 0),(zN b),(zN c)] [(zK7 t0 mA t1 mD mI),(zA mB),(zA mC),(.arr 3 (List.map Zy mE)),(.arr 6 (List.map ZD mF)),(zA mH)]=some ((Zl7 t0 t1 b c mA mD mI mB mC mE mF mH) r):=
 evS ZCa rfl rfl <| yG fun x0 hx0=>
  Zl (ZV rfl hx0) (Zd (Zau Zs mH b.toNat c) (yB (yG fun x1 hx1=>
  Zl (ZV rfl hx1) (Zd (Zau ZD mF b.toNat (Zb.mk true 0 0 0 0 0)) yR))
  (yG fun x2 hx2=>
  Zl (ZV rfl hx2) (Zd (Zau ZD mF b.toNat (Zb.mk false 0 0 0 0 0)) yR))))
def ZmW (t0 t1:Bool) (b:Int) (mA:List Int) (mD:List Zv) (mI:Int) (mB:List Int) (mC:List Int) (mE:List Za) (mF:List Zb) (mH:List Int):(Int×(List Int)×(List Za)×(List Zb)×(List Int))->V×Zi
  | r=>((zN r.1),[(zK7 t0 mA t1 mD mI),(zA r.2.1),(zA mC),(.arr 3 (List.map Zy r.2.2.1)),(.arr 6 (List.map ZD r.2.2.2.1)),(zA r.2.2.2.2)])
theorem Zl4 {t0 t1:Bool}{b:Int}{mA:List Int}{mD:List Zv}{mI:Int}{mB:List Int}{mC:List Int}{mE:List Za}{mF:List Zb}{mH:List Int}:∀r,(Z9 b mA mD mB mC mE mF mH)=some r->evW ctx 185 [(.ptr 0 0),(zN b)] [(zK7 t0 mA t1 mD mI),(zA mB),(zA mC),(.arr 3 (List.map Zy mE)),(.arr 6 (List.map ZD mF)),(zA mH)]=some ((ZmW t0 t1 b mA mD mI mB mC mE mF mH) r):=
 evS ZCp rfl rfl <| Zd (Zk _ _) (yG fun x0 hx0=>
  Zl (ZV rfl hx0) (yBn (yG fun x1 hx1=>
  Zl (ZV rfl hx1) (yG fun x2 hx2=>
  Zl (ZV rfl hx2) (yC Zqh fun x3 _=>
  yBr (Zl (Zam rfl hx1) (Zl (ZV rfl hx1) (Zd (Zau Zy mE (Int.tmod (w64 (b+x0)) (mB.length:Int)).toNat x3.1) (Zl (Zam rfl hx2) (Zl (ZV rfl hx2) (Zd (Zau ZD mF b.toNat x3.2.1) (yB (yC Zhs fun x4 _=>
  yC ZZ fun x5 _=>
  yB (yG fun x6 hx6=>
  Zl (ZV rfl hx6) (Zd (Zau Zs mB b.toNat x3.2.1.got) (Zg _ Zeq fun x7 _=>
  yR)))
  yR)
  (yB (Zl (Zam rfl hx0) (Zl (ZV rfl hx0) (yBn (Zg _ Zeq fun x8 _=>
  yR))))
  (yB (Zl (Zam rfl hx0) (Zl (ZV rfl hx0) (yBn (Zg _ Zeq fun x9 _=>
  yR))))
  yR))))))))))))))
def ZmM (t0 t1 t2:Bool) (b:List Int) (mA:List Int) (mD:List Zv) (mI:Int) (mB:List Int) (mC:List Int) (mE:List Za) (mF:List Zb) (mH:List Int):(Int×Int×Int×(List Int)×(List Za)×(List Zb)×(List Int))->V×Zi
  | r=>((.d (D.tup [(Zs r.1),(Zs r.2.1)])),[(zK7 t1 mA t2 mD r.2.2.1),(zA r.2.2.2.1),(zA mC),(.arr 3 (List.map Zy r.2.2.2.2.1)),(.arr 6 (List.map ZD r.2.2.2.2.2.1)),(zA r.2.2.2.2.2.2)])
def Zf7 (t0 t1 t2:Bool) (b:List Int) (mA:List Int) (mD:List Zv) (mC:List Int):((Int×Int×Int×(List Int)×(List Za)×(List Zb)×(List Int))⊕(Int×Int×(List Int)×(List Za)×(List Zb)×(List Int)))->Ex×List V×Zi
  | (.inl r)=>(.ret,[(zN 0),(zN r.1),(zN r.2.1)],[(zK7 t1 mA t2 mD r.2.2.1),(zA r.2.2.2.1),(zA mC),(.arr 3 (List.map Zy r.2.2.2.2.1)),(.arr 6 (List.map ZD r.2.2.2.2.2.1)),(zA r.2.2.2.2.2.2)])
  | (.inr r)=>(.exit 0,[.bad,.bad,(zN r.1)],[(zK7 t1 mA t2 mD r.2.1),(zA r.2.2.1),(zA mC),(.arr 3 (List.map Zy r.2.2.2.1)),(.arr 6 (List.map ZD r.2.2.2.2.1)),(zA r.2.2.2.2.2)])
theorem Zka {t0 t1 t2:Bool}{b:List Int}{mA:List Int}{mD:List Zv}{mC:List Int}:∀s1 r,lp (ZaC b mA mD mC) s1=some r->lpW ctx 6 [0,1,6,7] [4,5,6] Zxn [(.ptr 0 0),(zV t0 b),(zN s1.1),(zV true s1.2.1)] [(zK7 t1 mA t2 mD s1.2.2.1),(zA s1.2.2.2.1),(zA mC),(.arr 3 (List.map Zy s1.2.2.2.2.1)),(.arr 6 (List.map ZD s1.2.2.2.2.2.1)),(zA s1.2.2.2.2.2.2)]=some ((Zf7 t0 t1 t2 b mA mD mC) r):=
 lpT (Zf7 t0 t1 t2 b mA mD mC) fun s1 _ ih=>Zd (Zk _ _) (yB (yC Zlv fun x2 _=>
  Zg _ Zl4 fun x3 _=>
  yB (Zf rfl)
  (yC Zgh fun x4 _=>
  Ze (ih _)))
  (Zf rfl))
theorem Zlu {t0 t1 t2:Bool}{b:List Int}{mA:List Int}{mD:List Zv}{mI:Int}{mB:List Int}{mC:List Int}{mE:List Za}{mF:List Zb}{mH:List Int}:∀r,(ZbR b mA mD mB mC mE mF mH)=some r->evW ctx 174 [(.ptr 0 0),(zV t0 b)] [(zK7 t1 mA t2 mD mI),(zA mB),(zA mC),(.arr 3 (List.map Zy mE)),(.arr 6 (List.map ZD mF)),(zA mH)]=some ((ZmM t0 t1 t2 b mA mD mI mB mC mE mF mH) r):=
 evS ZB3 rfl rfl <| yC Zgh fun x0 _=>
  (by
 conv=>rhs;whnf
 refine Zg _ (Zka _) fun r5 _=>?_
 rcases r5 with r5 | r5
 exact yR
 exact yR)
def ZeP (r:(Zu×Int×Int)):D:=(D.tup [(zK3 true r.1.crew.on true r.1.crew.left true r.1.deques true r.1.takers true r.1.from_),(Zs r.2.1),(Zs r.2.2)])
theorem Zqi {t0 t1:Bool}{t2 t3:Bool}{t4 t5:Bool}{t6 t7:Bool}{a:Zj}{b:Zu}{c:List Int}:∀r,(ZhT a b c)=some r->evD ctx 165 [(.d (zK1 t0 a.work t1 a.edges)),(.d (zK3 t2 b.crew.on t3 b.crew.left t4 b.deques t5 b.takers t6 b.from_)),(zV t7 c)]=some (ZeP r):=
 evT ZAj rfl rfl <| yC ZjN fun x0 _=>
  yBr (Zg _ Zl5 fun x1 _=>
  Zg _ Zlu fun x2 _=>
  yBr yR)
theorem Zhx {t0 t1:Bool}{t2 t3:Bool}{t4 t5:Bool}{t6 t7:Bool}{a:Zlt}{b:Zj}{c:Zu}{d:List Int}:∀r,(Ze5 a b c d)=some r->evD ctx 161 [(.d (D.agg [])),(.d (zK1 t0 b.work t1 b.edges)),(.d (zK3 t2 c.crew.on t3 c.crew.left t4 c.deques t5 c.takers t6 c.from_)),(zV t7 d)]=some (ZeP r):=
 evT Zz2 rfl rfl <| yC Zqi fun x0 _=>
  yR
def Zul (t0 t1:Bool) (a:Zq):Unit->V×Zi
  | r=>((.agg [(.sl 0 1),(.sl 1 1)]),[(zA a.on),(zA a.left)])
theorem Zm7 {t0 t1:Bool}{a:Zq}:∀r,(Zgs a)=some r->evW ctx 201 [(.d (zK5 t0 a.on t1 a.left))] []=some ((Zul t0 t1 a) r):=
 evS ZBD rfl rfl <| Zg _ Zr fun x0 _=>
  Zg _ Zr fun x1 _=>
  yR
def ZiT (mA:List Int):(List Int)->V×Zi
  | r=>((.d (D.tup [])),[(zA r)])
theorem ZeE {mA:List Int}:∀r,(Za8 mA)=some r->evW ctx 110 [(.sl 0 1)] [(zA mA)]=some ((ZiT mA) r):=
 evS ZEh rfl rfl <| Zl (ZvW rfl) (yBm (ZCe yR))
def ZsE (mA:List Int) (mB:List Int):((List Int)×(List Int)×(List Int))->V×Zi
  | r=>((.sl 2 1),[(zA r.1),(zA r.2.1),(zA r.2.2)])
def ZjM (mA:List Int):((List Int)×(List Int)×(List Int))->Ex×List V×Zi
  | r=>(.exit 0,[(.sl 2 1)],[(zA r.1),(zA r.2.1),(zA r.2.2)])
theorem Zos {mA:List Int}:∀s0 r,lp (ZdN mA) s0=some r->lpW ctx 2 [1,3,7,8,9] [3] Zyi [(.ptr 2 0),(.sl 3 1),(.sl 0 1),(zN (mA.length:Int)),(zN s0.1)] [(zA s0.2.1),(zA s0.2.2.1),(.cells [(.sl 0 1),(.sl 1 1)]),(zA s0.2.2.2)]=some ((ZjM mA) r):=
 lpT (ZjM mA) fun s0 _ ih=>yB (yG fun x1 hx1=>
  Zl (ZV rfl hx1) (yB (Ze (ih _))
  (yG fun x2 hx2=>
  Zl (ZV rfl hx2) (Zl (Zam rfl hx2) (Zl (ZV rfl hx2) (Zd (Zau Zs s0.2.2.1 x1.toNat (w64 (x2-1))) (yC ZeJ fun x3 _=>
  yB (Zl (Zam rfl hx1) (Zl (ZV rfl hx1) (Zd (Zau Zs s0.2.1 s0.1.toNat (-1)) (yT (ZP (ZaM Zs s0.2.2.2 1) (Zd (ZaK Zs s0.2.2.2 [x1]) (Ze (ih _)))
  ZB)))))
  (Ze (ih _)))))))))
  (Zf rfl)
theorem Zro {mA:List Int}{mB:List Int}:∀r,(Zmb mA mB)=some r->evW ctx 202 [(.agg [(.sl 0 1),(.sl 1 1)])] [(zA mA),(zA mB)]=some ((ZsE mA mB) r):=
 evS ZAC rfl rfl <| Zd (Zk _ _) (Zg _ (Zos _) fun r4 _=>
  Zg _ ZeE fun x5 _=>
  yR)
def ZsU (t0 t1 t2 t3:Bool) (a:Zj) (b:Zq):(Int⊕((List Int)×(List Int)×(List Int)))->V×Zi
  | (.inl r)=>((.tup [(.agg [(.nilsl 1),(.nilsl 1)]),(.nilsl 1),(zN r)]),[])
  | (.inr r)=>((.tup [(.agg [(.sl 0 1),(.sl 1 1)]),(.sl 2 1),(zN 0)]),[(zA r.1),(zA r.2.1),(zA r.2.2)])
theorem Zly {t0 t1:Bool}{t2 t3:Bool}{a:Zj}{b:Zq}:∀r,(Zg5 a b)=some r->evW ctx 186 [(.d (zK1 t0 a.work t1 a.edges)),(.d (zK5 t2 b.on t3 b.left))] []=some ((ZsU t0 t1 t2 t3 a b) r):=
 evS ZAv rfl rfl <| yC Zfo fun x0 _=>
  yBr (Zg _ Zm7 fun x1 _=>
  Zg _ Zro fun x2 _=>
  yR)
def Zlk (r:(Int×Bool)):D:=(D.tup [(Zs r.1),(D.bool r.2)])
theorem Zps {a:Zv}{b0:Int}:∀r,(Zcg a b0)=some r->evD ctx 203 [(.d (ZAR a.src a.dst)),(.d (D.rptr [(Zs b0)]))]=some (Zlk r):=
 evT ZCQ rfl rfl <| yBr yR
def Zer (t1:Bool) (a:Zj) (b0:Int):(List Int)->Ex×List V×Zi
  | r=>(.exit 0,[(.sl 0 1)],[(zA r)])
theorem Zhn {t1:Bool}{a:Zj}{b0:Int}:∀s0 r,lp (Zc0 a (fun z0=>Zcg z0 b0)) s0=some r->lpW ctx 0 [1,5,11,12,13] [5] ZBE [(.d (D.fn 203 [(D.rptr [(Zs b0)])])),(.sl 0 1),(zW t1 Zbs a.edges),(zN (a.edges.length:Int)),(zN s0.1)] [(zA s0.2)]=some ((Zer t1 a b0) r):=
 lpT (Zer t1 a b0) fun s0 _ ih=>yB (yG fun x1 _=>
  yC Zps fun x2 _=>
  yB (yT (ZP (ZaM Zs s0.2 1) (Zd (ZaK Zs s0.2 [x2.1]) (Ze (ih _)))
  ZB))
  (Ze (ih _)))
  (Zf rfl)
theorem ZiU {t0 t1:Bool}{a:Zj}{b0:Int}:∀r,(Zmh a (fun z0=>Zcg z0 b0))=some r->evD ctx 92 [(.d (zK1 t0 a.work t1 a.edges)),(.d (D.fn 203 [(D.rptr [(Zs b0)])]))]=some (ZaH r):=
 evT ZEw rfl rfl <| Zd (Zk _ _) (Zg _ (Zhn _) fun r3 _=>
  Zg _ ZeE fun x4 _=>
  yR)
theorem ZrV {t0 t1:Bool}{a:Zj}{b:Int}:∀r,(ZfH a b)=some r->evD ctx 187 [(.d (zK1 t0 a.work t1 a.edges)),(zN b)]=some (ZaH r):=
 evT ZzF rfl rfl <| yC ZeN fun x0 _=>
  yBr (yC ZiU fun x1 _=>
  yR)
def Zm2 (t0 t1:Bool) (mA:List Int) (mD:List Zv) (mI:Int) (mB:List Int) (mC:List Int) (mE:List Za) (mF:List Zb) (mH:List Int):(Int⊕(((List Za)×(List Int)×(List Int))⊕((List Za)×(List Int)×(List Int)×(List Int))))->V×Zi
  | (.inl r)=>((.tup [(.nilsl 1),(zN r)]),[(zK7 t0 mA t1 mD mI),(zA mB),(zA mC),(.arr 3 (List.map Zy mE)),(.arr 6 (List.map ZD mF)),(zA mH)])
  | (.inr (.inl r))=>((.tup [(.nilsl 1),(zN 130)]),[(.cells [(.sl 6 1),(.sl 7 1),(.sl 3 3),(.sl 4 6),(.sl 5 1),(zV t0 mA),(zW t1 Zbs mD),(zN mI)]),(zA mB),(zA mC),(.arr 3 (List.map Zy r.1)),(.arr 6 (List.map ZD mF)),(zA mH),(zA r.2.1),(zA r.2.2)])
  | (.inr (.inr r))=>((.tup [(.sl 6 1),(zN 0)]),[(.cells [(.sl 7 1),(.sl 8 1),(.sl 3 3),(.sl 4 6),(.sl 5 1),(zV t0 mA),(zW t1 Zbs mD),(zN mI)]),(zA mB),(zA mC),(.arr 3 (List.map Zy r.1)),(.arr 6 (List.map ZD mF)),(zA mH),(zA r.2.1),(zA r.2.2.1),(zA r.2.2.2)])
def ZfO (t0 t1:Bool) (mA:List Int) (mD:List Zv) (mI:Int) (mB:List Int) (mC:List Int) (mF:List Zb) (mH:List Int) (x1:((List Int)×(List Int)×(List Int))) (x2:List Int) (s3:Int×(List Za)×(List Int)) (x6:List Int):(((List Za)×(List Int))⊕((List Za)×(List Int)))->Ex×List V×Zi
  | (.inl r)=>(.ret,[(.ptr 0 0),(.nilsl 1),(zN 130),(.sl 6 1),(zV true x2),(.fn 1000170 [(.ptr 0 0)]),(.sl 7 1),(.sl 8 1),(zN (mB.length:Int)),(zN s3.1)],[(.cells [(.sl 9 1),(.sl 10 1),(.sl 3 3),(.sl 4 6),(.sl 5 1),(zV t0 mA),(zW t1 Zbs mD),(zN mI)]),(zA mB),(zA mC),(.arr 3 (List.map Zy r.1)),(.arr 6 (List.map ZD mF)),(zA mH),(zA x1.2.2),(zA r.2),(zA mB),(zA x1.1),(zA x1.2.1)])
  | (.inr r)=>(.exit 2,[(.ptr 0 0),.bad,.bad,(.sl 6 1),(zV true x2),(.fn 1000170 [(.ptr 0 0)]),(.sl 7 1),(.sl 8 1),(zN (mB.length:Int)),(zN s3.1)],[(.cells [(.sl 9 1),(.sl 10 1),(.sl 3 3),(.sl 4 6),(.sl 5 1),(zV t0 mA),(zW t1 Zbs mD),(zN mI)]),(zA mB),(zA mC),(.arr 3 (List.map Zy r.1)),(.arr 6 (List.map ZD mF)),(zA mH),(zA x1.2.2),(zA r.2),(zA mB),(zA x1.1),(zA x1.2.1)])
theorem Zkh {t0 t1:Bool}{mA:List Int}{mD:List Zv}{mI:Int}{mB:List Int}{mC:List Int}{mF:List Zb}{mH:List Int}{x1:((List Int)×(List Int)×(List Int))}{x2:List Int}{s3:Int×(List Za)×(List Int)}{x6:List Int}:∀s7 r,lp (Zaa x2 s3 x6) s7=some r->lpW ctx 6 [0,6,8,9,10,11,52,53,54,78,79,80] [0,2,3,6,8,9,10,52,53,54] Zx5 [(.ptr 0 0),(.sl 6 1),(zV true x2),(.fn 1000170 [(.ptr 0 0)]),(.sl 7 1),(zN s3.1),(.sl 8 1),(zN (mB.length:Int)),(zN s3.1),(zV true x6),(zN (x6.length:Int)),(zN s7.1)] [(.cells [(.sl 9 1),(.sl 10 1),(.sl 3 3),(.sl 4 6),(.sl 5 1),(zV t0 mA),(zW t1 Zbs mD),(zN mI)]),(zA mB),(zA mC),(.arr 3 (List.map Zy s7.2.1)),(.arr 6 (List.map ZD mF)),(zA mH),(zA x1.2.2),(zA s7.2.2),(zA mB),(zA x1.1),(zA x1.2.1)]=some ((ZfO t0 t1 mA mD mI mB mC mF mH x1 x2 s3 x6) r):=
 lpT (ZfO t0 t1 mA mD mI mB mC mF mH x1 x2 s3 x6) fun s7 _ ih=>yB (yG fun x8 _=>
  yC ZZ fun x9 _=>
  yB (yC ZZ fun x10 _=>
  yB (Ze (ih _))
  (by
 conv=>rhs;whnf
 refine Zg _ Zhc fun x11 _=>?_
 rcases x11 with x11 | x11
 exact yT (ZP (ZaM Zs s7.2.2 1) (Zd (ZaK Zs s7.2.2 [x8]) (Ze (ih _)))
  ZB)
 exact Zf rfl))
  (Ze (ih _)))
  (Zf rfl)
def ZfN (t0 t1:Bool) (mA:List Int) (mD:List Zv) (mI:Int) (mB:List Int) (mC:List Int) (mF:List Zb) (mH:List Int) (x1:((List Int)×(List Int)×(List Int))) (x2:List Int):((List Za)⊕(List Za))->Ex×List V×Zi
  | (.inl r)=>(.ret,[(.nilsl 1),(zN 130),(.sl 6 1)],[(.cells [(.sl 7 1),(.sl 8 1),(.sl 3 3),(.sl 4 6),(.sl 5 1),(zV t0 mA),(zW t1 Zbs mD),(zN mI)]),(zA mB),(zA mC),(.arr 3 (List.map Zy r)),(.arr 6 (List.map ZD mF)),(zA mH),(zA x1.2.2),(zA x1.1),(zA x1.2.1)])
  | (.inr r)=>(.exit 0,[.bad,.bad,(.sl 6 1)],[(.cells [(.sl 7 1),(.sl 8 1),(.sl 3 3),(.sl 4 6),(.sl 5 1),(zV t0 mA),(zW t1 Zbs mD),(zN mI)]),(zA mB),(zA mC),(.arr 3 (List.map Zy r)),(.arr 6 (List.map ZD mF)),(zA mH),(zA x1.2.2),(zA x1.1),(zA x1.2.1)])
theorem Zj1 {t0 t1:Bool}{mA:List Int}{mD:List Zv}{mI:Int}{mB:List Int}{mC:List Int}{mF:List Zb}{mH:List Int}{x1:((List Int)×(List Int)×(List Int))}{x2:List Int}:∀s3 r,lp (Zao mA mD mB x1 x2) s3=some r->lpW ctx 6 [0,6,8,9,10,52,53,54] [2,3,6] Zx1 [(.ptr 0 0),(.sl 6 1),(zV true x2),(.fn 1000170 [(.ptr 0 0)]),(.sl 7 1),(.sl 8 1),(zN (mB.length:Int)),(zN s3.1)] [(.cells [(.sl 9 1),(.sl 10 1),(.sl 3 3),(.sl 4 6),(.sl 5 1),(zV t0 mA),(zW t1 Zbs mD),(zN mI)]),(zA mB),(zA mC),(.arr 3 (List.map Zy s3.2.1)),(.arr 6 (List.map ZD mF)),(zA mH),(zA x1.2.2),(zA s3.2.2),(zA mB),(zA x1.1),(zA x1.2.1)]=some ((ZfN t0 t1 mA mD mI mB mC mF mH x1 x2) r):=
 lpT (ZfN t0 t1 mA mD mI mB mC mF mH x1 x2) fun s3 _ ih=>yB (yG fun x4 hx4=>
  Zl (ZV rfl hx4) (yB (Ze (ih _))
  (yG fun x5 hx5=>
  Zl (ZV rfl hx5) (yB (Ze (ih _))
  (yC ZrV fun x6 _=>
  Zd (Zk _ _) (by
 conv=>rhs;whnf
 refine Zg _ (Zkh _) fun r12 _=>?_
 rcases r12 with r12 | r12
 exact Zf rfl
 exact Ze (ih _)))))))
  (Zf rfl)
theorem Zl9 {t0 t1:Bool}{mA:List Int}{mD:List Zv}{mI:Int}{mB:List Int}{mC:List Int}{mE:List Za}{mF:List Zb}{mH:List Int}:∀r,(ZbT mA mD mB mC mE)=some r->evW ctx 175 [(.ptr 0 0)] [(zK7 t0 mA t1 mD mI),(zA mB),(zA mC),(.arr 3 (List.map Zy mE)),(.arr 6 (List.map ZD mF)),(zA mH)]=some ((Zm2 t0 t1 mA mD mI mB mC mE mF mH) r):=
 evS ZCf rfl rfl <| Zg _ Zr fun x0 _=>
  (by
 conv=>rhs;whnf
 refine Zg _ Zly fun x1 _=>?_
 rcases x1 with x1 | x1
 exact yBm yR
 exact yF (yC Zhs fun x2 _=>
  Zd (Zk _ _) (by
 conv=>rhs;whnf
 refine Zg _ (Zj1 _) fun r13 _=>?_
 rcases r13 with r13 | r13
 exact yR
 exact yR)))
def Zf0 (r:(Zu×(List Int)×Int)):D:=(D.tup [(zK3 true r.1.crew.on true r.1.crew.left true r.1.deques true r.1.takers true r.1.from_),(zL true r.2.1),(Zs r.2.2)])
theorem Zqu {t0 t1:Bool}{t2 t3:Bool}{t4 t5 t6:Bool}{a:Zj}{b:Zu}:∀r,(ZhL a b)=some r->evD ctx 166 [(.d (zK1 t0 a.work t1 a.edges)),(.d (zK3 t2 b.crew.on t3 b.crew.left t4 b.deques t5 b.takers t6 b.from_))]=some (Zf0 r):=
 evT ZAs rfl rfl <| yC ZjN fun x0 _=>
  yBr (Zg _ Zl5 fun x1 _=>
  (by
 conv=>rhs;whnf
 refine Zg _ Zl9 fun x2 _=>?_
 rcases x2 with x2 | (x2 | x2)
 exact yBm yR
 exact yT yR
 exact yF yR))
theorem Zhy {t0 t1:Bool}{t2 t3:Bool}{t4 t5 t6:Bool}{a:Zlt}{b:Zj}{c:Zu}:∀r,(ZeU a b c)=some r->evD ctx 162 [(.d (D.agg [])),(.d (zK1 t0 b.work t1 b.edges)),(.d (zK3 t2 c.crew.on t3 c.crew.left t4 c.deques t5 c.takers t6 c.from_))]=some (Zf0 r):=
 evT ZCC rfl rfl <| yC Zqu fun x0 _=>
  yR
def ZsP (t0 t1:Bool) (a:Zj) (mA:List Int) (mB:List Int):(List Int)->V×Zi
  | r=>((.d (D.tup [])),[(zA r),(zA mB)])
def ZjJ (mA:List Int) (mB:List Int):(List Int)->Ex×List V×Zi
  | r=>(.exit 0,[],[(zA r),(zA mB)])
theorem ZoX {mA:List Int}{mB:List Int}:∀s1 r,lp (Zdq mA) s1=some r->lpW ctx 2 [3,4,11,12,13] [] Zxj [(.ptr 2 0),(zV true s1.1),(.sl 0 1),(zN (mA.length:Int)),(zN s1.2.1)] [(zA s1.2.2),(zA mB),(.cells [(.sl 0 1),(.sl 1 1)])]=some ((ZjJ mA mB) r):=
 lpT (ZjJ mA mB) fun s1 _ ih=>yB (yG fun x2 hx2=>
  Zl (ZV rfl hx2) (yB (Zd (Zk _ _) (yB (yG fun x3 _=>
  yT (ZP (Zq0 Zs s1.1 1) (Zdy (Zwj Zs (fun _=>⟨rfl,rfl⟩) s1.1 _) (Zd (ZnM Zs s1.1 1) (Zl (Zam rfl hx2) (Zl (ZV rfl hx2) (Zd (Zau Zs s1.2.2 s1.2.1.toNat x3) (Ze (ih _)))))))
  ZB))
  (Ze (ih _))))
  (Ze (ih _))))
  (Zf rfl)
theorem Zsj {t0 t1:Bool}{a:Zj}{mA:List Int}{mB:List Int}:∀r,(ZlQ a mA mB)=some r->evW ctx 220 [(.d (zK1 t0 a.work t1 a.edges)),(.agg [(.sl 0 1),(.sl 1 1)])] [(zA mA),(zA mB)]=some ((ZsP t0 t1 a mA mB) r):=
 evS ZBF rfl rfl <| yC Zlb fun x0 _=>
  Zd (Zk _ _) (Zg _ (ZoX _) fun r4 _=>
  yR)
def Zng (r:(Zq×Int)):D:=(D.tup [(zK5 true r.1.on true r.1.left),(Zs r.2)])
theorem Zsa {t0 t1:Bool}{t2 t3:Bool}{a:Zj}{b:Zq}:∀r,(ZiV a b)=some r->evD ctx 219 [(.d (zK1 t0 a.work t1 a.edges)),(.d (zK5 t2 b.on t3 b.left))]=some (Zng r):=
 evT ZCz rfl rfl <| yC Zfo fun x0 _=>
  yBr (Zg _ Zm7 fun x1 _=>
  Zg _ Zsj fun x2 _=>
  yR)
theorem Zig {t0 t1:Bool}{t2 t3:Bool}{t4 t5:Bool}{t6 t7:Bool}{a:Zsd}{b:Zj}{c:Zu}{d:List Int}:∀r,(Zfr a b c d)=some r->evD ctx 217 [(.d (D.agg [])),(.d (zK1 t0 b.work t1 b.edges)),(.d (zK3 t2 c.crew.on t3 c.crew.left t4 c.deques t5 c.takers t6 c.from_)),(zV t7 d)]=some (ZeP r):=
 evT ZzP rfl rfl <| yC Zsa fun x0 _=>
  yR
theorem ZiI {t0 t1:Bool}{t2 t3:Bool}{t4 t5 t6:Bool}{a:Zsd}{b:Zj}{c:Zu}:∀r,(Zfp a b c)=some r->evD ctx 218 [(.d (D.agg [])),(.d (zK1 t0 b.work t1 b.edges)),(.d (zK3 t2 c.crew.on t3 c.crew.left t4 c.deques t5 c.takers t6 c.from_))]=some (Zf0 r):=
 evT ZBN rfl rfl <| (by
 conv=>rhs;whnf
 refine Zg _ Zly fun x0 _=>?_
 rcases x0 with x0 | x0
 exact yR
 exact yR)
def Znc (r:(ZW×Zaw×Int)):D:=(D.tup [(D.agg [(D.bool r.1.stealing),(zL true r.1.demand),(Zs r.1.state),(zL true r.1.gang.crew.on),(zL true r.1.gang.crew.left),(zM true Zy r.1.gang.deques),(zM true ZD r.1.gang.takers),(zL true r.1.gang.from_)]),(D.agg [(zL true r.2.1.on),(zL true r.2.1.done),(Zs r.2.1.steps)]),(Zs r.2.2)])
theorem Zsl {t0 t1:Bool}{t2 t3:Bool}{t4 t5:Bool}{t6 t7 t8:Bool}{a:Zj}{b:ZW}{c:List Int}:∀r,(Zg3 a b c)=some r->evD ctx 36 [(.d (zK1 t0 a.work t1 a.edges)),(.d (D.agg [(D.bool b.stealing),(zL t2 b.demand),(Zs b.state),(zL t3 b.gang.crew.on),(zL t4 b.gang.crew.left),(zM t5 Zy b.gang.deques),(zM t6 ZD b.gang.takers),(zL t7 b.gang.from_)])),(zV t8 c)]=some (Znc r):=
 evT ZFM rfl rfl <| yB ((by
 conv=>rhs;whnf
 refine yC ZkS fun x0 _=>?_
 rcases x0 with x0 | x0
 exact yC Zhx fun x1 _=>
  yBr (Zg _ Zr fun x2 _=>
  yC Zhy fun x3 _=>
  yBr (Zg _ Zr fun x4 _=>
  yC ZcQ fun x5 _=>
  yR))
 exact yC Zig fun x6 _=>
  yBr (Zg _ Zr fun x7 _=>
  yC ZiI fun x8 _=>
  yBr (Zg _ Zr fun x9 _=>
  yC ZcQ fun x10 _=>
  yR))))
  (by
 conv=>rhs;whnf
 refine yC ZkS fun x11 _=>?_
 rcases x11 with x11 | x11
 exact yC Zhx fun x12 _=>
  yBr (Zg _ Zr fun x13 _=>
  yC Zhy fun x14 _=>
  yBr (Zg _ Zr fun x15 _=>
  yC ZcQ fun x16 _=>
  yR))
 exact yC Zig fun x17 _=>
  yBr (Zg _ Zr fun x18 _=>
  yC ZiI fun x19 _=>
  yBr (Zg _ Zr fun x20 _=>
  yC ZcQ fun x21 _=>
  yR)))
def Zn5 (r:((List (List Int))×Int×Int)):D:=(D.tup [(D.list true (List.map (ZdQ true) r.1)),(Zs r.2.1),(Zs r.2.2)])
def Zfm (t0 t1 t3:Bool) (a:Zj) (e:List Int) (x0:(ZW×Int)):Int->Ex×List V×Zi
  | r=>(.exit 0,[(zV t3 e),(.ptr 0 0),(.ptr 1 0),(zN r)],[(zK0 t0 a.work t1 a.edges),(.cells [(.d (D.bool x0.1.stealing)),(zV true x0.1.demand),(zN x0.1.state),(zV true x0.1.gang.crew.on),(zV true x0.1.gang.crew.left),(zW true Zy x0.1.gang.deques),(zW true ZD x0.1.gang.takers),(zV true x0.1.gang.from_)])])
theorem Zpn {t0 t1 t3:Bool}{a:Zj}{e:List Int}{x0:(ZW×Int)}:∀s1 r,lp (Zfj x0) s1=some r->lpW ctx 0 [4,5,13,15,36,37,38] [4,5,13,15] ZB9 [(zV t3 e),(.ptr 0 0),(.ptr 1 0),(zN s1.1),(zV true x0.1.gang.crew.left),(zN (x0.1.gang.crew.left.length:Int)),(zN s1.2)] [(zK0 t0 a.work t1 a.edges),(.cells [(.d (D.bool x0.1.stealing)),(zV true x0.1.demand),(zN x0.1.state),(zV true x0.1.gang.crew.on),(zV true x0.1.gang.crew.left),(zW true Zy x0.1.gang.deques),(zW true ZD x0.1.gang.takers),(zV true x0.1.gang.from_)])]=some ((Zfm t0 t1 t3 a e x0) r):=
 lpT (Zfm t0 t1 t3 a e x0) fun s1 _ ih=>yB (yG fun x2 _=>
  Ze (ih _))
  (Zf rfl)
def Zfq (t0 t1 t3:Bool) (a:Zj):((Int×Bool×(List Int)×Int×(List Int)×(List Int)×(List Za)×(List Zb)×(List Int)×(List (List Int)))⊕(Bool×(List Int)×Int×(List Int)×(List Int)×(List Za)×(List Zb)×(List Int)×(List (List Int))))->Ex×List V×Zi
  | (.inl r)=>(.ret,[(.nilsl 1),(zN 0),(zN r.1),(.ptr 0 0),(.sl 1 1)],[(.cells [(.d (D.bool r.2.1)),(zV true r.2.2.1),(zN r.2.2.2.1),(zV true r.2.2.2.2.1),(zV true r.2.2.2.2.2.1),(zW true Zy r.2.2.2.2.2.2.1),(zW true ZD r.2.2.2.2.2.2.2.1),(zV true r.2.2.2.2.2.2.2.2.1)]),(.arr 1 (List.map (ZdQ true) r.2.2.2.2.2.2.2.2.2))])
  | (.inr r)=>(.exit 2,[.bad,.bad,.bad,(.ptr 0 0),(.sl 1 1)],[(.cells [(.d (D.bool r.1)),(zV true r.2.1),(zN r.2.2.1),(zV true r.2.2.2.1),(zV true r.2.2.2.2.1),(zW true Zy r.2.2.2.2.2.1),(zW true ZD r.2.2.2.2.2.2.1),(zV true r.2.2.2.2.2.2.2.1)]),(.arr 1 (List.map (ZdQ true) r.2.2.2.2.2.2.2.2))])
theorem ZpO {t0 t1 t3:Bool}{a:Zj}:∀s4 r,lp (Zeo a) s4=some r->lpW ctx 0 [4,5,13,18] [10,11,12,13,18] ZBR [(zV t3 s4.1),(.ptr 0 0),(.ptr 1 0),(.sl 2 1)] [(zK0 t0 a.work t1 a.edges),(.cells [(.d (D.bool s4.2.1)),(zV true s4.2.2.1),(zN s4.2.2.2.1),(zV true s4.2.2.2.2.1),(zV true s4.2.2.2.2.2.1),(zW true Zy s4.2.2.2.2.2.2.1),(zW true ZD s4.2.2.2.2.2.2.2.1),(zV true s4.2.2.2.2.2.2.2.2.1)]),(.arr 1 (List.map (ZdQ true) s4.2.2.2.2.2.2.2.2.2))]=some ((Zfq t0 t1 t3 a) r):=
 lpT (Zfq t0 t1 t3 a) fun s4 _ ih=>yB (yC Zsl fun x5 _=>
  yB (Zf rfl)
  (Zd (Zk _ _) (yBm (ZP (Zq0 Zs s4.1 (bif decide ((s4.1.length:Int)<x5.2.1.steps) then (s4.1.length:Int) else x5.2.1.steps).toNat) (Zdy (Zwj Zs (fun _=>⟨rfl,rfl⟩) s4.1 _) (Zd (ZnM Zs s4.1 (bif decide ((s4.1.length:Int)<x5.2.1.steps) then (s4.1.length:Int) else x5.2.1.steps).toNat) (yT (ZP (ZaM (ZdQ true) s4.2.2.2.2.2.2.2.2.2 1) (Zd (ZaK (ZdQ true) s4.2.2.2.2.2.2.2.2.2 [x5.2.1.on]) (Ze (ih _)))
  ZB))))
  ZB))))
  (Zf rfl)
theorem ZsT {t0 t1:Bool}{t2 t3:Bool}{a:Zj}{b:List Int}{c:Int}{d:Bool}{e:List Int}:∀r,(ZgD a b c d e)=some r->evD ctx 20 [(.d (zK1 t0 a.work t1 a.edges)),(zV t2 b),(zN c),(.d (D.bool d)),(zV t3 e)]=some (Zn5 r):=
 evT ZE4 rfl rfl <| yC Zna fun x0 _=>
  yBr (Zd (Zk _ _) (Zg _ (Zpn _) fun r3 _=>
  yBr (by
 conv=>rhs;whnf
 refine Zg _ (ZpO _) fun r6 _=>?_
 rcases r6 with r6 | r6
 exact yR
 exact yR)))
theorem Zk8 {t0 t1:Bool}{a:Zj}{b:Int}:∀r,(ZfW a b)=some r->evD ctx 105 [(.d (zK1 t0 a.work t1 a.edges)),(zN b)]=some (Zp r):=
 evT ZBU rfl rfl <| yB (Zd (Zk _ _) (yBr yR))
  yR
def Zix (t0 t1:Bool) (a:Zj):(Unit⊕Unit)->Ex×List V×Zi
  | (.inl r)=>(.ret,[(.ptr 0 0),(zN 41)],[(zK0 t0 a.work t1 a.edges)])
  | (.inr r)=>(.exit 0,[(.ptr 0 0),.bad],[(zK0 t0 a.work t1 a.edges)])
theorem Zm0 {t0 t1:Bool}{a:Zj}:∀s0 r,lp (Zdh a) s0=some r->lpW ctx 0 [1,3] [1,2] ZBQ [(.ptr 0 0),(zN s0)] [(zK0 t0 a.work t1 a.edges)]=some ((Zix t0 t1 a) r):=
 lpT (Zix t0 t1 a) fun s0 _ ih=>Zd (Zk _ _) (yB (yG fun x1 hx1=>
  yB (Zf rfl)
  (Zl (Zam rfl hx1) (yB (Zf rfl)
  (Ze (ih _)))))
  (Zf rfl))
def Zip (t0 t1:Bool) (a:Zj) (s3:Int) (x4:Zv):(Unit⊕Unit)->Ex×List V×Zi
  | (.inl r)=>(.ret,[(.ptr 0 0),(zN 42),(zN s3)],[(zK0 t0 a.work t1 a.edges)])
  | (.inr r)=>(.exit 4,[(.ptr 0 0),.bad,(zN s3)],[(zK0 t0 a.work t1 a.edges)])
theorem ZmG {t0 t1:Bool}{a:Zj}{s3:Int}{x4:Zv}:∀s7 r,lp (ZdI a s3 x4) s7=some r->lpW ctx 0 [1,4,5,6] [1,2,4] ZBx [(.ptr 0 0),(zN s3),(.ptr 1 0),(zN s7)] [(zK0 t0 a.work t1 a.edges),(.cells [(zN x4.src),(zN x4.dst)])]=some ((Zip t0 t1 a s3 x4) r):=
 lpT (Zip t0 t1 a s3 x4) fun s7 _ ih=>yB (yG fun x8 _=>
  yB (Zf rfl)
  (Ze (ih _)))
  (Zf rfl)
def Ziv (t0 t1:Bool) (a:Zj):(Unit⊕Unit)->Ex×List V×Zi
  | (.inl r)=>(.ret,[(zN 42)],[])
  | (.inr r)=>(.exit 2,[.bad],[])
theorem ZmO {t0 t1:Bool}{a:Zj}:∀s3 r,lp (Zdp a) s3=some r->lpW ctx 0 [1,4] [2] ZzA [(.ptr 0 0),(zN s3)] [(zK0 t0 a.work t1 a.edges)]=some ((Ziv t0 t1 a) r):=
 lpT (Ziv t0 t1 a) fun s3 _ ih=>Zd (Zk _ _) (yB (yG fun x4 _=>
  yC Zk8 fun x5 _=>
  yB (yC Zk8 fun x6 _=>
  yB (yB (Zf rfl)
  (by
 conv=>rhs;whnf
 refine Zg _ (ZmG _) fun r9 _=>?_
 rcases r9 with r9 | r9
 exact Zf rfl
 exact Ze (ih _)))
  (Zf rfl))
  (Zf rfl))
  (Zf rfl))
theorem ZpK {t0 t1:Bool}{a:Zj}:∀r,(ZgS a)=some r->evD ctx 77 [(.d (zK1 t0 a.work t1 a.edges))]=some (Zc r):=
 evT ZEx rfl rfl <| Zd (Zk _ _) (yBr (Zd (Zk _ _) (yBr (by
 conv=>rhs;whnf
 refine Zg _ (Zm0 _) fun r2 _=>?_
 rcases r2 with r2 | r2
 exact yR
 exact(by
 conv=>rhs;whnf
 refine Zg _ (ZmO _) fun r10 _=>?_
 rcases r10 with r10 | r10
 exact yR
 exact yR)))))
def Zqt (r:List Bool):D:=(D.list true (List.map D.bool r))
def ZiM (t0 t1:Bool) (a:Zj) (b:Int) (s0:Int×(List Bool)):(List Bool)->Ex×List V×Zi
  | r=>(.exit 2,[(zN b),(.ptr 0 0),(.sl 1 1),(zN s0.1)],[(zK0 t0 a.work t1 a.edges),(.arr 1 (List.map D.bool r))])
theorem ZmD {t0 t1:Bool}{a:Zj}{b:Int}{s0:Int×(List Bool)}:∀s1 r,lp (Zcu a b) s1=some r->lpW ctx 0 [1,2,5,6,7] [1,2,5,6] ZzL [(zN b),(.ptr 0 0),(.sl 1 1),(zN s0.1),(zN s1.1)] [(zK0 t0 a.work t1 a.edges),(.arr 1 (List.map D.bool s1.2))]=some ((ZiM t0 t1 a b s0) r):=
 lpT (ZiM t0 t1 a b s0) fun s1 _ ih=>Zd (Zk _ _) (yB (yG fun x2 _=>
  yB (yG fun x3 hx3=>
  Zl (ZV rfl hx3) (Zd (Zau D.bool s1.2 x2.dst.toNat true) (Ze (ih _))))
  (yG fun x4 hx4=>
  Zl (ZV rfl hx4) (yB (yG fun x5 hx5=>
  Zl (ZV rfl hx5) (Zd (Zau D.bool s1.2 x2.dst.toNat true) (Ze (ih _))))
  (Ze (ih _)))))
  (Zf rfl))
def Zis (t0 t1:Bool) (a:Zj) (b:Int):(List Bool)->Ex×List V×Zi
  | r=>(.exit 0,[(.sl 0 1)],[(.arr 1 (List.map D.bool r))])
theorem ZmF {t0 t1:Bool}{a:Zj}{b:Int}:∀s0 r,lp (Zcq a b) s0=some r->lpW ctx 0 [1,2,5,6] [5] ZCk [(zN b),(.ptr 0 0),(.sl 1 1),(zN s0.1)] [(zK0 t0 a.work t1 a.edges),(.arr 1 (List.map D.bool s0.2))]=some ((Zis t0 t1 a b) r):=
 lpT (Zis t0 t1 a b) fun s0 _ ih=>Zd (Zk _ _) (yB (Zg _ (ZmD _) fun r6 _=>
  Ze (ih _))
  (Zf rfl))
theorem ZpC {t0 t1:Bool}{a:Zj}{b:Int}:∀r,(ZgW a b)=some r->evD ctx 78 [(.d (zK1 t0 a.work t1 a.edges)),(zN b)]=some (Zqt r):=
 evT ZFQ rfl rfl <| Zd (Zk _ _) (yBm (Zd (ZhP D.bool (false:Bool) (a.work.length:Int)) (Zg _ (ZmF _) fun r7 _=>
  yR)))
def Zim (t0 t1:Bool) (a:Zj):(Unit⊕Unit)->Ex×List V×Zi
  | (.inl r)=>(.ret,[(zN 43)],[])
  | (.inr r)=>(.exit 0,[.bad],[])
theorem ZmL {t0 t1:Bool}{a:Zj}:∀s1 r,lp (Zdx a) s1=some r->lpW ctx 0 [1,4] [2] ZAz [(.ptr 0 0),(zN s1)] [(zK0 t0 a.work t1 a.edges)]=some ((Zim t0 t1 a) r):=
 lpT (Zim t0 t1 a) fun s1 _ ih=>Zd (Zk _ _) (yB (yC ZpC fun x2 _=>
  yG fun x3 _=>
  yB (Zf rfl)
  (Ze (ih _)))
  (Zf rfl))
theorem Zdu {t0 t1:Bool}{a:Zj}:∀r,(Zbf a)=some r->evD ctx 46 [(.d (zK1 t0 a.work t1 a.edges))]=some (Zc r):=
 evT ZFg rfl rfl <| yC ZpK fun x0 _=>
  yBr (by
 conv=>rhs;whnf
 refine Zg _ (ZmL _) fun r4 _=>?_
 rcases r4 with r4 | r4
 exact yR
 exact yR)
def ZiQ (t0 t1 t2:Bool) (a:Zj) (b:List Int):(Unit⊕Unit)->Ex×List V×Zi
  | (.inl r)=>(.ret,[(.d (D.bool false))],[])
  | (.inr r)=>(.exit 0,[.bad],[])
theorem ZmP {t0 t1 t2:Bool}{a:Zj}{b:List Int}:∀s0 r,lp (ZdG a b) s0=some r->lpW ctx 0 [1,2,5] [4] ZCt [(zV t2 b),(.ptr 0 0),(zN s0)] [(zK0 t0 a.work t1 a.edges)]=some ((ZiQ t0 t1 t2 a b) r):=
 lpT (ZiQ t0 t1 t2 a b) fun s0 _ ih=>Zd (Zk _ _) (yB (yG fun x1 hx1=>
  yB (Zf rfl)
  (Zl (Zam rfl hx1) (yB (Zf rfl)
  (yG fun x2 _=>
  yB (Zf rfl)
  (Ze (ih _))))))
  (Zf rfl))
theorem Zgy {t0 t1 t2:Bool}{a:Zj}{b:List Int}:∀r,(Zcl a b)=some r->evD ctx 47 [(.d (zK1 t0 a.work t1 a.edges)),(zV t2 b)]=some (Zp r):=
 evT ZEz rfl rfl <| Zd (Zk _ _) (Zd (Zk _ _) (yBr (by
 conv=>rhs;whnf
 refine Zg _ (ZmP _) fun r3 _=>?_
 rcases r3 with r3 | r3
 exact yR
 exact yR)))
def ZiX (t0 t1 t2:Bool) (a:Zj) (b:List Int):(List Int)->Ex×List V×Zi
  | r=>(.exit 0,[(.sl 0 1)],[(zA r)])
theorem Zn0 {t0 t1 t2:Bool}{a:Zj}{b:List Int}:∀s0 r,lp (ZcR a b) s0=some r->lpW ctx 0 [1,2,5,6] [5] ZCw [(zV t2 b),(.ptr 0 0),(.sl 1 1),(zN s0.1)] [(zK0 t0 a.work t1 a.edges),(zA s0.2)]=some ((ZiX t0 t1 t2 a b) r):=
 lpT (ZiX t0 t1 t2 a b) fun s0 _ ih=>Zd (Zk _ _) (yB (yG fun x1 _=>
  yG fun x2 _=>
  yT (ZP (ZaM Zs s0.2 1) (Zd (ZaK Zs s0.2 [(bif decide (x2<x1) then x2 else x1)]) (Ze (ih _)))
  ZB))
  (Zf rfl))
theorem Zbm {t0 t1 t2:Bool}{a:Zj}{b:List Int}:∀r,(Zbk a b)=some r->evD ctx 49 [(.d (zK1 t0 a.work t1 a.edges)),(zV t2 b)]=some (ZaH r):=
 evT ZF1 rfl rfl <| Zg _ (Zn0 _) fun r3 _=>
  yR
def ZiL (t0 t1 t2 t3:Bool) (a:Zj) (b:List Int) (c:List Int):Int->Ex×List V×Zi
  | r=>(.exit 0,[(zV t2 b),(zV t3 c),(.ptr 0 0),(zN r)],[(zK0 t0 a.work t1 a.edges)])
theorem ZmT {t0 t1:Bool}{t2 t3:Bool}{a:Zj}{b:List Int}{c:List Int}:∀s0 r,lp (Zcn c) s0=some r->lpW ctx 0 [1,2,3,7,8] [1,2,3,7] ZC1 [(zV t2 b),(zV t3 c),(.ptr 0 0),(zN s0.1),(zN s0.2)] [(zK0 t0 a.work t1 a.edges)]=some ((ZiL t0 t1 t2 t3 a b c) r):=
 lpT (ZiL t0 t1 t2 t3 a b c) fun s0 _ ih=>Zd (Zk _ _) (yB (yG fun x1 _=>
  yB (Ze (ih _))
  (Ze (ih _)))
  (Zf rfl))
def Zie (t0 t1 t2 t3:Bool) (a:Zj) (b:List Int) (c:List Int) (r2:Int):(Unit⊕Unit)->Ex×List V×Zi
  | (.inl r)=>(.ret,[(zN 3),(zN r2)],[])
  | (.inr r)=>(.exit 2,[.bad,(zN r2)],[])
theorem Zmw {t0 t1:Bool}{t2 t3:Bool}{a:Zj}{b:List Int}{c:List Int}{r2:Int}:∀s3 r,lp (ZdO a b c) s3=some r->lpW ctx 0 [1,2,3,7,9] [6,7] ZAV [(zV t2 b),(zV t3 c),(.ptr 0 0),(zN r2),(zN s3)] [(zK0 t0 a.work t1 a.edges)]=some ((Zie t0 t1 t2 t3 a b c r2) r):=
 lpT (Zie t0 t1 t2 t3 a b c r2) fun s3 _ ih=>Zd (Zk _ _) (yB (yG fun x4 _=>
  yB (yG fun x5 _=>
  yG fun x6 _=>
  yB (Zf rfl)
  (Ze (ih _)))
  (Ze (ih _)))
  (Zf rfl))
theorem Za7 {t0 t1:Bool}{t2 t3:Bool}{a:Zj}{b:List Int}{c:List Int}:∀r,(ZaZ a b c)=some r->evD ctx 48 [(.d (zK1 t0 a.work t1 a.edges)),(zV t2 b),(zV t3 c)]=some (Zc r):=
 evT ZFm rfl rfl <| Zg _ (ZmT _) fun r2 _=>
  (by
 conv=>rhs;whnf
 refine Zg _ (Zmw _) fun r7 _=>?_
 rcases r7 with r7 | r7
 exact yR
 exact yR)
def Zjb (t0 t1 t2:Bool) (a:Zj) (b:List Int) (c:Int):(Unit⊕Unit)->Ex×List V×Zi
  | (.inl r)=>(.ret,[(zV t2 b),(zN c),(.ptr 0 0),(.d (D.bool false))],[(zK0 t0 a.work t1 a.edges)])
  | (.inr r)=>(.exit 0,[(zV t2 b),(zN c),(.ptr 0 0),.bad],[(zK0 t0 a.work t1 a.edges)])
theorem ZnB {t0 t1 t2:Bool}{a:Zj}{b:List Int}{c:Int}:∀s0 r,lp (Zd8 b) s0=some r->lpW ctx 0 [1,2,3,7] [1,2,3,6] ZB7 [(zV t2 b),(zN c),(.ptr 0 0),(zN s0)] [(zK0 t0 a.work t1 a.edges)]=some ((Zjb t0 t1 t2 a b c) r):=
 lpT (Zjb t0 t1 t2 a b c) fun s0 _ ih=>Zd (Zk _ _) (yB (yG fun x1 hx1=>
  yB (Zf rfl)
  (Zl (Zam rfl hx1) (yB (Zf rfl)
  (Ze (ih _)))))
  (Zf rfl))
theorem Zqj {t0 t1 t2:Bool}{a:Zj}{b:List Int}{c:Int}:∀r,(ZhF a b c)=some r->evD ctx 82 [(.d (zK1 t0 a.work t1 a.edges)),(zV t2 b),(zN c)]=some (Zp r):=
 evT ZFK rfl rfl <| (by
 conv=>rhs;whnf
 refine Zg _ (ZnB _) fun r2 _=>?_
 rcases r2 with r2 | r2
 exact yR
 exact Zd (Zk _ _) (Zd (Zk _ _) (yB (yB (yBr yR)
  yR)
  yR)))
theorem Zoh {b:List Int}{c:Int}:∀s2 r,lp (ZdF c) s2=some r->lpW ctx 0 [2,6,9,10] [6,9] ZCL [(zN c),(.ptr 0 0),(.ptr 1 0),(zN s2.1)] [(ZD8 ),(zK9 ),(.arr 1 []),(.arr 1 []),(zA s2.2),(zA b)]=some ((Zfl b c) r):=
 lpT (Zfl b c) fun s2 _ ih=>yB (yT (ZP (ZaM Zs s2.2 1) (Zd (ZaK Zs s2.2 [(-1)]) (Ze (ih _)))
  ZB))
  (Zf rfl)
theorem ZlA {t0 t1 t2:Bool}{a:Zj}{b:List Int}{c:Int}:∀r,(ZfG a b c)=some r->evD ctx 51 [(.d (zK1 t0 a.work t1 a.edges)),(zV t2 b),(zN c)]=some (Zng r):=
 evT ZFa rfl rfl <| yC Zdu fun x0 _=>
  yBr (yC Zqj fun x1 _=>
  yB (Zdy (Zaz (f:=Zs) (fun _=>⟨rfl,rfl⟩) b 0) (ZP (ZaF Zs b) (Zd (rfl:_=List.map Zs b) (Zg _ (Zoh _) fun r3 _=>
  yR))
  ZB))
  yR)
def Zj5 (t0:Bool) (a:List Int) (b:Int):(Unit⊕Unit)->Ex×List V×Zi
  | (.inl r)=>(.ret,[(.d (D.bool true))],[])
  | (.inr r)=>(.exit 0,[.bad],[])
theorem ZoG {t0:Bool}{a:List Int}{b:Int}:∀s0 r,lp (ZeO a b) s0=some r->lpW ctx 0 [0,1,5] [4] ZzS [(zV t0 a),(zN b),(zN s0)] []=some ((Zj5 t0 a b) r):=
 lpT (Zj5 t0 a b) fun s0 _ ih=>Zd (Zk _ _) (yB (yG fun x1 _=>
  yB (Zf rfl)
  (Ze (ih _)))
  (Zf rfl))
theorem ZcB {t0:Bool}{a:List Int}{b:Int}:∀r,(Zcj a b)=some r->evD ctx 16 [(zV t0 a),(zN b)]=some (Zp r):=
 evT ZFV rfl rfl <| (by
 conv=>rhs;whnf
 refine Zg _ (ZoG _) fun r2 _=>?_
 rcases r2 with r2 | r2
 exact yR
 exact yR)
def Zjr (t0 t1:Bool) (a:Zj) (b c:Int):(Unit⊕Unit)->Ex×List V×Zi
  | (.inl r)=>(.ret,[(.d (D.bool true))],[])
  | (.inr r)=>(.exit 0,[.bad],[])
theorem ZnT {t0 t1:Bool}{a:Zj}{b c:Int}:∀s0 r,lp (Zeb a b c) s0=some r->lpW ctx 0 [1,2,3,7] [6] ZxL [(zN b),(zN c),(.ptr 0 0),(zN s0)] [(zK0 t0 a.work t1 a.edges)]=some ((Zjr t0 t1 a b c) r):=
 lpT (Zjr t0 t1 a b c) fun s0 _ ih=>Zd (Zk _ _) (yB (yG fun x1 hx1=>
  yB (Zl (Zam rfl hx1) (yB (Zf rfl)
  (Ze (ih _))))
  (Ze (ih _)))
  (Zf rfl))
theorem Zlf {t0 t1:Bool}{a:Zj}{b c:Int}:∀r,(ZfU a b c)=some r->evD ctx 113 [(.d (zK1 t0 a.work t1 a.edges)),(zN b),(zN c)]=some (Zp r):=
 evT ZCT rfl rfl <| (by
 conv=>rhs;whnf
 refine Zg _ (ZnT _) fun r2 _=>?_
 rcases r2 with r2 | r2
 exact yR
 exact yR)
def Zd0 (t0 t1:Bool) (a:Zj) (b:Int):(List Int)->Ex×List V×Zi
  | r=>(.exit 0,[(.sl 0 1)],[(zA r)])
theorem ZmB {t0 t1:Bool}{a:Zj}{b:Int}:∀s0 r,lp (ZdC a b) s0=some r->lpW ctx 0 [1,2,5,6] [5] ZxK [(zN b),(.ptr 0 0),(.sl 1 1),(zN s0.1)] [(zK0 t0 a.work t1 a.edges),(zA s0.2)]=some ((Zd0 t0 t1 a b) r):=
 lpT (Zd0 t0 t1 a b) fun s0 _ ih=>Zd (Zk _ _) (yB (yC Zlf fun x1 _=>
  yB (yT (ZP (ZaM Zs s0.2 1) (Zd (ZaK Zs s0.2 [s0.1]) (Ze (ih _)))
  ZB))
  (Ze (ih _)))
  (Zf rfl))
theorem Zpj {t0 t1:Bool}{a:Zj}{b:Int}:∀r,(ZgQ a b)=some r->evD ctx 114 [(.d (zK1 t0 a.work t1 a.edges)),(zN b)]=some (ZaH r):=
 evT ZAX rfl rfl <| Zg _ (ZmB _) fun r2 _=>
  yR
def Zi4 (t2 t3:Bool) (b:Zq) (x0:List Int):(Unit⊕Unit)->Ex×List V×Zi
  | (.inl r)=>(.ret,[(.d (D.bool false))],[])
  | (.inr r)=>(.exit 0,[.bad],[])
theorem ZnH {t2 t3:Bool}{b:Zq}{x0:List Int}:∀s1 r,lp (Zed b x0) s1=some r->lpW ctx 0 [4,7,8] [6] Zx8 [(.ptr 0 0),(zV true x0),(zN s1)] [(zK6 t2 b.on t3 b.left)]=some ((Zi4 t2 t3 b x0) r):=
 lpT (Zi4 t2 t3 b x0) fun s1 _ ih=>Zd (Zk _ _) (yB (yG fun x2 _=>
  yG fun x3 _=>
  yB (Zf rfl)
  (Ze (ih _)))
  (Zf rfl))
theorem Zhr {t0 t1:Bool}{t2 t3:Bool}{a:Zj}{b:Zq}{c:Int}:∀r,(ZeS a b c)=some r->evD ctx 106 [(.d (zK1 t0 a.work t1 a.edges)),(.d (zK5 t2 b.on t3 b.left)),(zN c)]=some (Zp r):=
 evT ZAu rfl rfl <| yC Zpj fun x0 _=>
  (by
 conv=>rhs;whnf
 refine Zg _ (ZnH _) fun r4 _=>?_
 rcases r4 with r4 | r4
 exact yR
 exact yR)
theorem ZmX {t0 t1:Bool}{t2 t3:Bool}{a:Zj}{b:Zq}:∀s0 r,lp (ZdD a b) s0=some r->lpW ctx 0 [2,3,5,6] [5] Zz6 [(.ptr 0 0),(.ptr 1 0),(.sl 2 1),(zN s0.1)] [(zK0 t0 a.work t1 a.edges),(zK6 t2 b.on t3 b.left),(zA s0.2)]=some ((Zey t0 t1 t2 t3 a b) r):=
 lpT (Zey t0 t1 t2 t3 a b) fun s0 _ ih=>Zd (Zk _ _) (yB (yG fun x1 _=>
  yB (yC ZcB fun x2 _=>
  yB (Ze (ih _))
  (yC Zhr fun x3 _=>
  yB (yT (ZP (ZaM Zs s0.2 1) (Zd (ZaK Zs s0.2 [s0.1]) (Ze (ih _)))
  ZB))
  (Ze (ih _))))
  (Ze (ih _)))
  (Zf rfl))
theorem Zdm {t0 t1:Bool}{t2 t3:Bool}{a:Zj}{b:Zq}:∀r,(Zch a b)=some r->evD ctx 79 [(.d (zK1 t0 a.work t1 a.edges)),(.d (zK5 t2 b.on t3 b.left))]=some (ZaH r):=
 evT ZEN rfl rfl <| Zg _ (ZmX _) fun r4 _=>
  yR
def Zkm (a:Int):(Int⊕Unit)->Ex×List V×Zi
  | (.inl r)=>(.ret,[(zN r),(.d (D.bool true))],[])
  | (.inr r)=>(.exit 0,[.bad,.bad],[])
theorem ZoA {a:Int}:∀s0 r,lp (ZbK a) s0=some r->lpW ctx 0 [0,4,5] [2,3] ZxW [(zN a),(zN s0.1),(zN s0.2)] []=some ((Zkm a) r):=
 lpT (Zkm a) fun s0 _ ih=>yB (yB (Zf rfl)
  (Ze (ih _)))
  (Zf rfl)
theorem Zrh {a:Int}:∀r,(Zhb a)=some r->evD ctx 121 [(zN a)]=some (Zlk r):=
 evT Zz7 rfl rfl <| (by
 conv=>rhs;whnf
 refine Zg _ (ZoA _) fun r1 _=>?_
 rcases r1 with r1 | r1
 exact yR
 exact yR)
theorem Zqf {a:Int}:∀r,(ZhO a)=some r->evD ctx 115 [(zN a)]=some (Zp r):=
 evT ZCj rfl rfl <| yC Zrh fun x0 _=>
  yB (yBr yR)
  yR
theorem Zx {t0:Bool}{a:Za}:∀r,(ZC a)=some r->evD ctx 107 [(.d (zK4 t0 a.ring a.top a.bottom))]=some (Zp r):=
 evT ZAZ rfl rfl <| Zd (Zk _ _) (yC Zqf fun x0 _=>
  yB (yB (yB (yB (Zd (Zk _ _) (yBr yR))
  yR)
  yR)
  yR)
  yR)
def Zi9 (t0:Bool) (a:Za) (b:Int):(List Int)->Ex×List V×Zi
  | r=>(.exit 0,[(.ptr 0 0),(.ptr 1 0)],[(ZvP 0 0),(.cells [(.sl 3 1),(zN a.top),(zN (w64 (a.bottom+1)))]),(.arr 1 []),(zA r)])
theorem Znx {t0:Bool}{a:Za}{b:Int}:∀s1 r,lp (Zb1 a b) s1=some r->lpW ctx 0 [1,2,4,7,8] [4,7] ZBO [(zN b),(.ptr 0 0),(.ptr 1 0),(.ptr 2 0),(zN s1.1)] [(.cells [(zV t0 a.ring),(zN a.top),(zN a.bottom)]),(.cells [(.sl 3 1),(zN 0),(zN 0)]),(.cells [(.sl 4 1),(zN a.top),(zN (w64 (a.bottom+1)))]),(.arr 1 []),(zA s1.2)]=some ((Zi9 t0 a b) r):=
 lpT (Zi9 t0 a b) fun s1 _ ih=>Zd (Zk _ _) (yB (Zd (Zk _ _) (yBn (yB (yT (ZP (ZaM Zs s1.2 1) (Zd (ZaK Zs s1.2 [b]) (Ze (ih _)))
  ZB))
  (yG fun x2 _=>
  yT (ZP (ZaM Zs s1.2 1) (Zd (ZaK Zs s1.2 [x2]) (Ze (ih _)))
  ZB)))))
  (Zf rfl))
theorem Zle {t0:Bool}{a:Za}{b:Int}:∀r,(Ze2 a b)=some r->evD ctx 80 [(.d (zK4 t0 a.ring a.top a.bottom)),(zN b)]=some (ZjA r):=
 evT ZFS rfl rfl <| yC Zx fun x0 _=>
  yB (yBr (Zd (Zk _ _) (yBr (Zg _ (Znx _) fun r3 _=>
  yR))))
  yR
def ZmS (t0 t1:Bool) (a0:List Int) (a1:List Int) (b:Int) (c:Za) (mA:List Za) (mB:List Zb) (mC:List Int):Unit->V×Zi
  | r=>((.agg [(zV t0 a0),(zV t1 a1),(.sl 3 3),(.sl 1 6),(.sl 2 1)]),[(.arr 3 (List.map Zy mA)),(.arr 6 (List.map ZD mB)),(zA mC),(.arr 3 (List.map Zy (List.set mA b.toNat c)))])
theorem ZlP {t0 t1:Bool}{a0:List Int}{a1:List Int}{b:Int}{c:Za}{mA:List Za}{mB:List Zb}{mC:List Int}:∀r,(ZfQ b c mA)=some r->evW ctx 81 [(.agg [(zV t0 a0),(zV t1 a1),(.sl 0 3),(.sl 1 6),(.sl 2 1)]),(zN b),(.d (zK4 true c.ring c.top c.bottom))] [(.arr 3 (List.map Zy mA)),(.arr 6 (List.map ZD mB)),(zA mC)]=some ((ZmS t0 t1 a0 a1 b c mA mB mC) r):=
 evS ZDc rfl rfl <| Zdy (Zaz (f:=Zy) (fun _=>⟨rfl,rfl⟩) mA 0) (ZP (ZaF Zy mA) (Zd (rfl:_=List.map Zy mA) (yG fun x0 hx0=>
  Zl (ZV rfl hx0) (Zd (Zau Zy mA b.toNat c) yR)))
  ZB)
def Zkn (t0 t1:Bool) (a:Zj) (c:Int) (x0:(Zq×Int)):((List Za)×(List Zb)×(List Int))->Ex×List V×Zi
  | r=>(.exit 0,[(zN c),(.ptr 0 0),(.ptr 1 0),(.ptr 2 0),(.ptr 3 0)],[(zK0 t0 a.work t1 a.edges),(ZwP ),(zK6 true x0.1.on true x0.1.left),(.cells [(zV true x0.1.on),(zV true x0.1.left),(.sl 9 3),(.sl 10 6),(.sl 11 1)]),(.arr 1 []),(.arr 1 []),(.arr 3 []),(.arr 6 []),(.arr 1 []),(.arr 3 (List.map Zy r.1)),(.arr 6 (List.map ZD r.2.1)),(zA r.2.2)])
theorem Zn8 {t0 t1:Bool}{a:Zj}{c:Int}{x0:(Zq×Int)}:∀s1 r,lp (Zdi c) s1=some r->lpW ctx 0 [2,3,6,8,10,11] [2,3,6,8,10] ZzI [(zN c),(.ptr 0 0),(.ptr 1 0),(.ptr 2 0),(.ptr 3 0),(zN s1.1)] [(zK0 t0 a.work t1 a.edges),(ZwP ),(zK6 true x0.1.on true x0.1.left),(.cells [(zV true x0.1.on),(zV true x0.1.left),(.sl 9 3),(.sl 10 6),(.sl 11 1)]),(.arr 1 []),(.arr 1 []),(.arr 3 []),(.arr 6 []),(.arr 1 []),(.arr 3 (List.map Zy s1.2.1)),(.arr 6 (List.map ZD s1.2.2.1)),(zA s1.2.2.2)]=some ((Zkn t0 t1 a c x0) r):=
 lpT (Zkn t0 t1 a c x0) fun s1 _ ih=>yB (yT (Zd (ZhP Zs (0:Int) 64) (yT (ZP (ZaM Zy s1.2.1 1) (Zd (ZaK Zy s1.2.1 [(Za.mk (List.replicate (64:Int).toNat (0:Int)) 0 0)]) (yT (ZP (ZaM ZD s1.2.2.1 1) (Zd (ZaK ZD s1.2.2.1 [(Zb.mk false 0 0 0 0 0)]) (yT (ZP (ZaM Zs s1.2.2.2 1) (Zd (ZaK Zs s1.2.2.2 [0]) (Ze (ih _)))
  ZB)))
  ZB)))
  ZB))))
  (Zf rfl)
def Zki (c:Int) (x0:(Zq×Int)) (r2:((List Za)×(List Zb)×(List Int))) (x3:List Int):(List Za)->Ex×List V×Zi
  | r=>(.exit 2,[(.ptr 0 0),(.ptr 1 0)],[(Zwn ),(.cells [(zV true x0.1.on),(zV true x0.1.left),(.sl 7 3),(.sl 8 6),(.sl 9 1)]),(.arr 1 []),(.arr 1 []),(.arr 3 []),(.arr 6 []),(.arr 1 []),(.arr 3 (List.map Zy r)),(.arr 6 (List.map ZD r2.2.1)),(zA r2.2.2)])
theorem ZoH {c:Int}{x0:(Zq×Int)}{r2:((List Za)×(List Zb)×(List Int))}{x3:List Int}:∀s4 r,lp (ZeM c x3) s4=some r->lpW ctx 0 [2,6,10,12,13] [6,10] ZAG [(zN c),(.ptr 0 0),(.ptr 1 0),(zV true x3),(zN s4.1)] [(Zwn ),(.cells [(zV true x0.1.on),(zV true x0.1.left),(.sl 7 3),(.sl 8 6),(.sl 9 1)]),(.arr 1 []),(.arr 1 []),(.arr 3 []),(.arr 6 []),(.arr 1 []),(.arr 3 (List.map Zy s4.2)),(.arr 6 (List.map ZD r2.2.1)),(zA r2.2.2)]=some ((Zki c x0 r2 x3) r):=
 lpT (Zki c x0 r2 x3) fun s4 _ ih=>Zd (Zk _ _) (yB (yG fun x5 hx5=>
  yBn (yG fun x6 hx6=>
  Zl (ZV rfl hx6) (Zl (Zam rfl hx5) (yC Zle fun x7 _=>
  Zl (Zam rfl hx5) (yBn (Zg _ ZlP fun x8 _=>
  Ze (ih _)))))))
  (Zf rfl))
theorem ZrL {t0 t1 t2:Bool}{a:Zj}{b:List Int}{c:Int}:∀r,(Zi1 a b c)=some r->evD ctx 50 [(.d (zK1 t0 a.work t1 a.edges)),(zV t2 b),(zN c)]=some (Zde r):=
 evT ZF4 rfl rfl <| yC ZlA fun x0 _=>
  yBr (Zg _ (Zn8 _) fun r2 _=>
  yC Zdm fun x3 _=>
  Zg _ (ZoH _) fun r9 _=>
  yR)
theorem Zl8 {t0 t1 t2:Bool}{a:Zj}{b:List Int}{c:Int}{d:Bool}:∀r,(ZcZ a b c d)=some r->evD ctx 23 [(.d (zK1 t0 a.work t1 a.edges)),(zV t2 b),(zN c),(.d (D.bool d))]=some (ZoU r):=
 evT ZFU rfl rfl <| (by
 try unfold ZcZ
 rcases hb:d with _ | _
 exact ZB8 (yC Zdu fun x6 _=>
  yBr (yC Zgy fun x7 _=>
  yB (yBr (yBr (Zdy (Zaz (f:=Zs) (fun _=>⟨rfl,rfl⟩) b 0) (ZP (ZaF Zs b) (Zd (rfl:_=List.map Zs b) (yC Zbm fun x8 _=>
  yC Za7 fun x9 _=>
  yC Zbm fun x10 _=>
  yC ZlA fun x11 _=>
  yR))
  ZB))))
  yR))
 exact ZzO (yC Zdu fun x0 _=>
  yBr (yC Zgy fun x1 _=>
  yB (yBr (yBr (Zdy (Zaz (f:=Zs) (fun _=>⟨rfl,rfl⟩) b 0) (ZP (ZaF Zs b) (Zd (rfl:_=List.map Zs b) (yC Zbm fun x2 _=>
  yC Za7 fun x3 _=>
  yC Zbm fun x4 _=>
  yC ZrL fun x5 _=>
  yR))
  ZB))))
  yR)))
def ZiA (t0 t1 t2 t3:Bool) (a:Zj) (b:Zq):(Unit⊕Unit)->Ex×List V×Zi
  | (.inl r)=>(.ret,[(.ptr 0 0),(.ptr 1 0),(zN 110)],[(zK0 t0 a.work t1 a.edges),(zK6 t2 b.on t3 b.left)])
  | (.inr r)=>(.exit 0,[(.ptr 0 0),(.ptr 1 0),.bad],[(zK0 t0 a.work t1 a.edges),(zK6 t2 b.on t3 b.left)])
theorem ZmQ {t0 t1:Bool}{t2 t3:Bool}{a:Zj}{b:Zq}:∀s1 r,lp (ZdB b) s1=some r->lpW ctx 0 [2,3,6] [2,3,4] ZxS [(.ptr 0 0),(.ptr 1 0),(zN s1)] [(zK0 t0 a.work t1 a.edges),(zK6 t2 b.on t3 b.left)]=some ((ZiA t0 t1 t2 t3 a b) r):=
 lpT (ZiA t0 t1 t2 t3 a b) fun s1 _ ih=>Zd (Zk _ _) (yB (yG fun x2 hx2=>
  yB (Zf rfl)
  (Zl (Zam rfl hx2) (yB (Zf rfl)
  (Ze (ih _)))))
  (Zf rfl))
def Zik (t0 t1 t2 t3:Bool) (a:Zj) (b:Zq):(Unit⊕Unit)->Ex×List V×Zi
  | (.inl r)=>(.ret,[(.ptr 0 0),(.ptr 1 0),(zN 110)],[(zK0 t0 a.work t1 a.edges),(zK6 t2 b.on t3 b.left)])
  | (.inr r)=>(.exit 2,[(.ptr 0 0),(.ptr 1 0),.bad],[(zK0 t0 a.work t1 a.edges),(zK6 t2 b.on t3 b.left)])
theorem Zmz {t0 t1:Bool}{t2 t3:Bool}{a:Zj}{b:Zq}:∀s4 r,lp (Zdr a b) s4=some r->lpW ctx 0 [2,3,7] [2,3,4] Zyo [(.ptr 0 0),(.ptr 1 0),(zN s4)] [(zK0 t0 a.work t1 a.edges),(zK6 t2 b.on t3 b.left)]=some ((Zik t0 t1 t2 t3 a b) r):=
 lpT (Zik t0 t1 t2 t3 a b) fun s4 _ ih=>Zd (Zk _ _) (yB (yG fun x5 _=>
  yB (yC Zhr fun x6 _=>
  yB (Ze (ih _))
  (Zf rfl))
  (Ze (ih _)))
  (Zf rfl))
def Ziz (t0 t1 t2 t3:Bool) (a:Zj) (b:Zq):(Unit⊕Unit)->Ex×List V×Zi
  | (.inl r)=>(.ret,[(zN 110)],[])
  | (.inr r)=>(.exit 4,[.bad],[])
theorem ZmK {t0 t1:Bool}{t2 t3:Bool}{a:Zj}{b:Zq}:∀s8 r,lp (Zdk a b) s8=some r->lpW ctx 0 [2,3,8] [4] ZxB [(.ptr 0 0),(.ptr 1 0),(zN s8)] [(zK0 t0 a.work t1 a.edges),(zK6 t2 b.on t3 b.left)]=some ((Ziz t0 t1 t2 t3 a b) r):=
 lpT (Ziz t0 t1 t2 t3 a b) fun s8 _ ih=>Zd (Zk _ _) (yB (yG fun x9 _=>
  yB (Zf rfl)
  (Zd (Zk _ _) (yB (Zf rfl)
  (yB (yG fun x10 _=>
  yB (Zf rfl)
  (yC Zhr fun x11 _=>
  yB (yBm (ZP (ZxO Zs b.on s8.toNat) (yT (Zd (ZqQ Zs b.on s8.toNat) (yC ZcB fun x12 _=>
  yB (Zf rfl)
  (Ze (ih _)))))
  ZB))
  (Zf rfl)))
  (Ze (ih _))))))
  (Zf rfl))
theorem Zgz {t0 t1:Bool}{t2 t3:Bool}{a:Zj}{b:Zq}:∀r,(Zep a b)=some r->evD ctx 102 [(.d (zK1 t0 a.work t1 a.edges)),(.d (zK5 t2 b.on t3 b.left))]=some (Zc r):=
 evT ZAW rfl rfl <| yC Zdu fun x0 _=>
  yBr (Zd (Zk _ _) (yBr (Zd (Zk _ _) (yBr (Zd (Zk _ _) (Zd (Zk _ _) (yBr (by
 conv=>rhs;whnf
 refine Zg _ (ZmQ _) fun r3 _=>?_
 rcases r3 with r3 | r3
 exact yR
 exact(by
 conv=>rhs;whnf
 refine Zg _ (Zmz _) fun r7 _=>?_
 rcases r7 with r7 | r7
 exact yR
 exact(by
 conv=>rhs;whnf
 refine Zg _ (ZmK _) fun r13 _=>?_
 rcases r13 with r13 | r13
 exact yR
 exact yR))))))))))
def Zit (t2 t3 t4 t5 t6:Bool) (b:Zu):(Unit⊕Unit)->Ex×List V×Zi
  | (.inl r)=>(.ret,[(zN 130)],[])
  | (.inr r)=>(.exit 0,[.bad],[])
theorem ZmA {t2 t3:Bool}{t4 t5 t6:Bool}{b:Zu}:∀s1 r,lp (Zds b) s1=some r->lpW ctx 0 [3,6,7] [4] Zyu [(.ptr 0 0),(zN (b.crew.on.length:Int)),(zN s1)] [(zK2 t2 b.crew.on t3 b.crew.left t4 b.deques t5 b.takers t6 b.from_)]=some ((Zit t2 t3 t4 t5 t6 b) r):=
 lpT (Zit t2 t3 t4 t5 t6 b) fun s1 _ ih=>yB (yG fun x2 _=>
  yG fun x3 hx3=>
  yC Zx fun x4 _=>
  yB (Zl (Zam rfl hx3) (Zd (Zk _ _) (yB (Zf rfl)
  (yB (Zf rfl)
  (yG fun x5 hx5=>
  yB (Zf rfl)
  (Zl (Zam rfl hx5) (yB (Zf rfl)
  (yB (Zl (Zam rfl hx5) (yB (Zf rfl)
  (yB (yB (yB (yB (yB (yG fun x6 _=>
  yB (Zl (Zam rfl hx5) (yB (Zf rfl)
  (Ze (ih _))))
  (Ze (ih _)))
  (yG fun x7 _=>
  yB (Zf rfl)
  (Ze (ih _))))
  (yG fun x8 _=>
  yB (Zf rfl)
  (Ze (ih _))))
  (yG fun x9 _=>
  yB (Zf rfl)
  (Ze (ih _))))
  (yG fun x10 _=>
  yB (Zf rfl)
  (Ze (ih _))))
  (Zl (Zam rfl hx5) (yB (Zf rfl)
  (yB (yB (yB (yB (yG fun x11 _=>
  yB (Zl (Zam rfl hx5) (yB (Zf rfl)
  (Ze (ih _))))
  (Ze (ih _)))
  (yG fun x12 _=>
  yB (Zf rfl)
  (Ze (ih _))))
  (yG fun x13 _=>
  yB (Zf rfl)
  (Ze (ih _))))
  (yG fun x14 _=>
  yB (Zf rfl)
  (Ze (ih _))))
  (yG fun x15 _=>
  yB (Zf rfl)
  (Ze (ih _)))))))))
  (yB (yB (yB (yB (yB (yG fun x16 _=>
  yB (Zl (Zam rfl hx5) (yB (Zf rfl)
  (Ze (ih _))))
  (Ze (ih _)))
  (yG fun x17 _=>
  yB (Zf rfl)
  (Ze (ih _))))
  (yG fun x18 _=>
  yB (Zf rfl)
  (Ze (ih _))))
  (yG fun x19 _=>
  yB (Zf rfl)
  (Ze (ih _))))
  (yG fun x20 _=>
  yB (Zf rfl)
  (Ze (ih _))))
  (Zl (Zam rfl hx5) (yB (Zf rfl)
  (yB (yB (yB (yB (yG fun x21 _=>
  yB (Zl (Zam rfl hx5) (yB (Zf rfl)
  (Ze (ih _))))
  (Ze (ih _)))
  (yG fun x22 _=>
  yB (Zf rfl)
  (Ze (ih _))))
  (yG fun x23 _=>
  yB (Zf rfl)
  (Ze (ih _))))
  (yG fun x24 _=>
  yB (Zf rfl)
  (Ze (ih _))))
  (yG fun x25 _=>
  yB (Zf rfl)
  (Ze (ih _)))))))))))))))
  (Zf rfl))
  (Zf rfl)
theorem ZgF {t0 t1:Bool}{t2 t3:Bool}{t4 t5 t6:Bool}{a:Zj}{b:Zu}:∀r,(Zel a b)=some r->evD ctx 101 [(.d (zK1 t0 a.work t1 a.edges)),(.d (zK3 t2 b.crew.on t3 b.crew.left t4 b.deques t5 b.takers t6 b.from_))]=some (Zc r):=
 evT ZAq rfl rfl <| yC Zgz fun x0 _=>
  yBr (Zd (Zk _ _) (Zd (Zk _ _) (yBr (Zd (Zk _ _) (yBr (Zd (Zk _ _) (yBr (by
 conv=>rhs;whnf
 refine Zg _ (ZmA _) fun r26 _=>?_
 rcases r26 with r26 | r26
 exact yR
 exact yR))))))))
def ZiB (t0 t1 t2 t3 t4 t5 t6:Bool) (t7:Bool) (a:Zj) (b:ZW) (x3:List Int):(Unit⊕Unit)->Ex×List V×Zi
  | (.inl r)=>(.ret,[(.ptr 0 0),(.ptr 1 0),(zN 190),(.ptr 2 0)],[(zK0 t0 a.work t1 a.edges),(.cells [(.d (D.bool b.stealing)),(zV t2 b.demand),(zN b.state),(zV t3 b.gang.crew.on),(zV t4 b.gang.crew.left),(zW t5 Zy b.gang.deques),(zW t6 ZD b.gang.takers),(zV t7 b.gang.from_)]),(zK2 t3 b.gang.crew.on t4 b.gang.crew.left t5 b.gang.deques t6 b.gang.takers t7 b.gang.from_)])
  | (.inr r)=>(.exit 0,[(.ptr 0 0),(.ptr 1 0),.bad,(.ptr 2 0)],[(zK0 t0 a.work t1 a.edges),(.cells [(.d (D.bool b.stealing)),(zV t2 b.demand),(zN b.state),(zV t3 b.gang.crew.on),(zV t4 b.gang.crew.left),(zW t5 Zy b.gang.deques),(zW t6 ZD b.gang.takers),(zV t7 b.gang.from_)]),(zK2 t3 b.gang.crew.on t4 b.gang.crew.left t5 b.gang.deques t6 b.gang.takers t7 b.gang.from_)])
theorem ZmI {t0 t1:Bool}{t2 t3:Bool}{t4 t5:Bool}{t6 t7:Bool}{a:Zj}{b:ZW}{x3:List Int}:∀s4 r,lp (Ze7 b x3) s4=some r->lpW ctx 0 [2,3,6,7,8] [2,3,4,6] ZrS [(.ptr 0 0),(.ptr 1 0),(.ptr 2 0),(zV true x3),(zN s4)] [(zK0 t0 a.work t1 a.edges),(.cells [(.d (D.bool b.stealing)),(zV t2 b.demand),(zN b.state),(zV t3 b.gang.crew.on),(zV t4 b.gang.crew.left),(zW t5 Zy b.gang.deques),(zW t6 ZD b.gang.takers),(zV t7 b.gang.from_)]),(zK2 t3 b.gang.crew.on t4 b.gang.crew.left t5 b.gang.deques t6 b.gang.takers t7 b.gang.from_)]=some ((ZiB t0 t1 t2 t3 t4 t5 t6 t7 a b x3) r):=
 lpT (ZiB t0 t1 t2 t3 t4 t5 t6 t7 a b x3) fun s4 _ ih=>Zd (Zk _ _) (yB (yG fun x5 _=>
  yG fun x6 _=>
  yB (Zf rfl)
  (Ze (ih _)))
  (Zf rfl))
def Zg1 (t0 t1 t2 t3 t4 t5 t6:Bool) (t7:Bool) (a:Zj) (b:ZW) (x10:List Int):(Unit⊕Unit)->Ex×List V×Zi
  | (.inl r)=>(.ret,[(.ptr 0 0),(.ptr 1 0),(zN 190),(.ptr 2 0)],[(zK0 t0 a.work t1 a.edges),(.cells [(.d (D.bool b.stealing)),(zV t2 b.demand),(zN b.state),(zV t3 b.gang.crew.on),(zV t4 b.gang.crew.left),(zW t5 Zy b.gang.deques),(zW t6 ZD b.gang.takers),(zV t7 b.gang.from_)]),(zK2 t3 b.gang.crew.on t4 b.gang.crew.left t5 b.gang.deques t6 b.gang.takers t7 b.gang.from_)])
  | (.inr r)=>(.exit 0,[(.ptr 0 0),(.ptr 1 0),.bad,(.ptr 2 0)],[(zK0 t0 a.work t1 a.edges),(.cells [(.d (D.bool b.stealing)),(zV t2 b.demand),(zN b.state),(zV t3 b.gang.crew.on),(zV t4 b.gang.crew.left),(zW t5 Zy b.gang.deques),(zW t6 ZD b.gang.takers),(zV t7 b.gang.from_)]),(zK2 t3 b.gang.crew.on t4 b.gang.crew.left t5 b.gang.deques t6 b.gang.takers t7 b.gang.from_)])
theorem Zlr {t0 t1:Bool}{t2 t3:Bool}{t4 t5:Bool}{t6 t7:Bool}{a:Zj}{b:ZW}{x10:List Int}:∀s11 r,lp (Ziw b x10) s11=some r->lpW ctx 0 [2,3,6,7,8] [2,3,4,6] ZrS [(.ptr 0 0),(.ptr 1 0),(.ptr 2 0),(zV true x10),(zN s11)] [(zK0 t0 a.work t1 a.edges),(.cells [(.d (D.bool b.stealing)),(zV t2 b.demand),(zN b.state),(zV t3 b.gang.crew.on),(zV t4 b.gang.crew.left),(zW t5 Zy b.gang.deques),(zW t6 ZD b.gang.takers),(zV t7 b.gang.from_)]),(zK2 t3 b.gang.crew.on t4 b.gang.crew.left t5 b.gang.deques t6 b.gang.takers t7 b.gang.from_)]=some ((Zg1 t0 t1 t2 t3 t4 t5 t6 t7 a b x10) r):=
 lpT (Zg1 t0 t1 t2 t3 t4 t5 t6 t7 a b x10) fun s11 _ ih=>Zd (Zk _ _) (yB (yG fun x12 _=>
  yG fun x13 _=>
  yB (Zf rfl)
  (Ze (ih _)))
  (Zf rfl))
def Zhe (t0 t1 t2 t3 t4 t5 t6:Bool) (t7:Bool) (a:Zj) (b:ZW) (x16:List Int):(Unit⊕Unit)->Ex×List V×Zi
  | (.inl r)=>(.ret,[(.ptr 0 0),(.ptr 1 0),(zN 190),(.ptr 2 0)],[(zK0 t0 a.work t1 a.edges),(.cells [(.d (D.bool b.stealing)),(zV t2 b.demand),(zN b.state),(zV t3 b.gang.crew.on),(zV t4 b.gang.crew.left),(zW t5 Zy b.gang.deques),(zW t6 ZD b.gang.takers),(zV t7 b.gang.from_)]),(zK2 t3 b.gang.crew.on t4 b.gang.crew.left t5 b.gang.deques t6 b.gang.takers t7 b.gang.from_)])
  | (.inr r)=>(.exit 0,[(.ptr 0 0),(.ptr 1 0),.bad,(.ptr 2 0)],[(zK0 t0 a.work t1 a.edges),(.cells [(.d (D.bool b.stealing)),(zV t2 b.demand),(zN b.state),(zV t3 b.gang.crew.on),(zV t4 b.gang.crew.left),(zW t5 Zy b.gang.deques),(zW t6 ZD b.gang.takers),(zV t7 b.gang.from_)]),(zK2 t3 b.gang.crew.on t4 b.gang.crew.left t5 b.gang.deques t6 b.gang.takers t7 b.gang.from_)])
theorem Zlo {t0 t1:Bool}{t2 t3:Bool}{t4 t5:Bool}{t6 t7:Bool}{a:Zj}{b:ZW}{x16:List Int}:∀s17 r,lp (Zin b x16) s17=some r->lpW ctx 0 [2,3,6,7,8] [2,3,4,6] ZrS [(.ptr 0 0),(.ptr 1 0),(.ptr 2 0),(zV true x16),(zN s17)] [(zK0 t0 a.work t1 a.edges),(.cells [(.d (D.bool b.stealing)),(zV t2 b.demand),(zN b.state),(zV t3 b.gang.crew.on),(zV t4 b.gang.crew.left),(zW t5 Zy b.gang.deques),(zW t6 ZD b.gang.takers),(zV t7 b.gang.from_)]),(zK2 t3 b.gang.crew.on t4 b.gang.crew.left t5 b.gang.deques t6 b.gang.takers t7 b.gang.from_)]=some ((Zhe t0 t1 t2 t3 t4 t5 t6 t7 a b x16) r):=
 lpT (Zhe t0 t1 t2 t3 t4 t5 t6 t7 a b x16) fun s17 _ ih=>Zd (Zk _ _) (yB (yG fun x18 _=>
  yG fun x19 _=>
  yB (Zf rfl)
  (Ze (ih _)))
  (Zf rfl))
def ZgX (t0 t1 t2 t3 t4 t5 t6:Bool) (t7:Bool) (a:Zj) (b:ZW) (x23:List Int):(Unit⊕Unit)->Ex×List V×Zi
  | (.inl r)=>(.ret,[(.ptr 0 0),(.ptr 1 0),(zN 190),(.ptr 2 0)],[(zK0 t0 a.work t1 a.edges),(.cells [(.d (D.bool b.stealing)),(zV t2 b.demand),(zN b.state),(zV t3 b.gang.crew.on),(zV t4 b.gang.crew.left),(zW t5 Zy b.gang.deques),(zW t6 ZD b.gang.takers),(zV t7 b.gang.from_)]),(zK2 t3 b.gang.crew.on t4 b.gang.crew.left t5 b.gang.deques t6 b.gang.takers t7 b.gang.from_)])
  | (.inr r)=>(.exit 0,[(.ptr 0 0),(.ptr 1 0),.bad,(.ptr 2 0)],[(zK0 t0 a.work t1 a.edges),(.cells [(.d (D.bool b.stealing)),(zV t2 b.demand),(zN b.state),(zV t3 b.gang.crew.on),(zV t4 b.gang.crew.left),(zW t5 Zy b.gang.deques),(zW t6 ZD b.gang.takers),(zV t7 b.gang.from_)]),(zK2 t3 b.gang.crew.on t4 b.gang.crew.left t5 b.gang.deques t6 b.gang.takers t7 b.gang.from_)])
theorem Zlq {t0 t1:Bool}{t2 t3:Bool}{t4 t5:Bool}{t6 t7:Bool}{a:Zj}{b:ZW}{x23:List Int}:∀s24 r,lp (ZdY b x23) s24=some r->lpW ctx 0 [2,3,6,7,8] [2,3,4,6] ZrS [(.ptr 0 0),(.ptr 1 0),(.ptr 2 0),(zV true x23),(zN s24)] [(zK0 t0 a.work t1 a.edges),(.cells [(.d (D.bool b.stealing)),(zV t2 b.demand),(zN b.state),(zV t3 b.gang.crew.on),(zV t4 b.gang.crew.left),(zW t5 Zy b.gang.deques),(zW t6 ZD b.gang.takers),(zV t7 b.gang.from_)]),(zK2 t3 b.gang.crew.on t4 b.gang.crew.left t5 b.gang.deques t6 b.gang.takers t7 b.gang.from_)]=some ((ZgX t0 t1 t2 t3 t4 t5 t6 t7 a b x23) r):=
 lpT (ZgX t0 t1 t2 t3 t4 t5 t6 t7 a b x23) fun s24 _ ih=>Zd (Zk _ _) (yB (yG fun x25 _=>
  yG fun x26 _=>
  yB (Zf rfl)
  (Ze (ih _)))
  (Zf rfl))
theorem Zpu {t0 t1:Bool}{t2 t3:Bool}{t4 t5:Bool}{t6 t7:Bool}{a:Zj}{b:ZW}:∀r,(ZgM a b)=some r->evD ctx 72 [(.d (zK1 t0 a.work t1 a.edges)),(.d (D.agg [(D.bool b.stealing),(zL t2 b.demand),(Zs b.state),(zL t3 b.gang.crew.on),(zL t4 b.gang.crew.left),(zM t5 Zy b.gang.deques),(zM t6 ZD b.gang.takers),(zL t7 b.gang.from_)]))]=some (Zc r):=
 evT ZEr rfl rfl <| yC Zdu fun x0 _=>
  yBr (yC Zgy fun x1 _=>
  yB (yB (yC ZgF fun x2 _=>
  yBr (yB (yC Zbm fun x3 _=>
  (by
 conv=>rhs;whnf
 refine Zg _ (ZmI _) fun r7 _=>?_
 rcases r7 with r7 | r7
 exact yR
 exact yC Za7 fun x8 _=>
  yBr yR))
  (Zd (Zk _ _) (yBr (Zd (Zk _ _) (yBr (Zd (Zk _ _) (yBr (yC Zgz fun x9 _=>
  yBr (yC Zbm fun x10 _=>
  (by
 conv=>rhs;whnf
 refine Zg _ (Zlr _) fun r14 _=>?_
 rcases r14 with r14 | r14
 exact yR
 exact yC Za7 fun x15 _=>
  yBr yR)))))))))))
  (yB (yC Zbm fun x16 _=>
  (by
 conv=>rhs;whnf
 refine Zg _ (Zlo _) fun r20 _=>?_
 rcases r20 with r20 | r20
 exact yR
 exact yC Za7 fun x21 _=>
  yBr yR))
  (Zd (Zk _ _) (yBr (Zd (Zk _ _) (yBr (Zd (Zk _ _) (yBr (yC Zgz fun x22 _=>
  yBr (yC Zbm fun x23 _=>
  (by
 conv=>rhs;whnf
 refine Zg _ (Zlq _) fun r27 _=>?_
 rcases r27 with r27 | r27
 exact yR
 exact yC Za7 fun x28 _=>
  yBr yR)))))))))))
  yR)
theorem ZgH {t0:Bool}{a:Za}{b:Int}:∀r,(Zfu a b)=some r->evD ctx 133 [(.d (zK4 t0 a.ring a.top a.bottom)),(zN b)]=some (Zc r):=
 evT ZAP rfl rfl <| yB (Zd (Zk _ _) (yBn (yG fun x0 _=>
  yR)))
  (Zd (Zk _ _) (yBn (yG fun x1 _=>
  yR)))
def Ziq (t0:Bool) (a:Za):(List Int)->Ex×List V×Zi
  | r=>(.exit 0,[(.sl 0 1)],[(zA r)])
theorem ZmJ {t0:Bool}{a:Za}:∀s0 r,lp (Zco a) s0=some r->lpW ctx 0 [1,3,4] [3] Zyl [(.ptr 0 0),(.sl 1 1),(zN s0.1)] [(.cells [(zV t0 a.ring),(zN a.top),(zN a.bottom)]),(zA s0.2)]=some ((Ziq t0 a) r):=
 lpT (Ziq t0 a) fun s0 _ ih=>yB (yC ZgH fun x1 _=>
  yT (ZP (ZaM Zs s0.2 1) (Zd (ZaK Zs s0.2 [x1]) (Ze (ih _)))
  ZB))
  (Zf rfl)
theorem Zo5 {t0:Bool}{a:Za}:∀r,(ZgV a)=some r->evD ctx 118 [(.d (zK4 t0 a.ring a.top a.bottom))]=some (ZaH r):=
 evT ZBC rfl rfl <| Zg _ (ZmJ _) fun r2 _=>
  yR
def ZiG (t0 t1 t2 t3 t4:Bool) (a:Zu):Int->Ex×List V×Zi
  | r=>(.exit 0,[(.ptr 0 0),(zN r)],[(zK2 t0 a.crew.on t1 a.crew.left t2 a.deques t3 a.takers t4 a.from_)])
theorem ZmU {t0 t1:Bool}{t2 t3 t4:Bool}{a:Zu}:∀s0 r,lp (Zcp a) s0=some r->lpW ctx 0 [1,3,4] [1,3] ZxJ [(.ptr 0 0),(zN s0.1),(zN s0.2)] [(zK2 t0 a.crew.on t1 a.crew.left t2 a.deques t3 a.takers t4 a.from_)]=some ((ZiG t0 t1 t2 t3 t4 a) r):=
 lpT (ZiG t0 t1 t2 t3 t4 a) fun s0 _ ih=>Zd (Zk _ _) (yB (yG fun x1 _=>
  yC Zo5 fun x2 _=>
  Zd (Zk _ _) (Ze (ih _)))
  (Zf rfl))
def Zio (t0 t1 t2 t3 t4:Bool) (a:Zu) (r3:Int):(List Int)->Ex×List V×Zi
  | r=>(.exit 2,[(.sl 0 1)],[(zA r)])
theorem ZmH {t0 t1:Bool}{t2 t3 t4:Bool}{a:Zu}{r3:Int}:∀s4 r,lp (Zdw a r3) s4=some r->lpW ctx 0 [1,3,5,6] [5] ZxT [(.ptr 0 0),(zN r3),(.sl 1 1),(zN s4.1)] [(zK2 t0 a.crew.on t1 a.crew.left t2 a.deques t3 a.takers t4 a.from_),(zA s4.2)]=some ((Zio t0 t1 t2 t3 t4 a r3) r):=
 lpT (Zio t0 t1 t2 t3 t4 a r3) fun s4 _ ih=>Zd (Zk _ _) (yB (yG fun x5 _=>
  yB (yB (yT (ZP (ZaM Zs s4.2 1) (Zd (ZaK Zs s4.2 [s4.1]) (Ze (ih _)))
  ZB))
  (yG fun x6 _=>
  yB (yT (ZP (ZaM Zs s4.2 1) (Zd (ZaK Zs s4.2 [s4.1]) (Ze (ih _)))
  ZB))
  (Ze (ih _))))
  (Ze (ih _)))
  (Zf rfl))
theorem Zpy {t0 t1:Bool}{t2 t3 t4:Bool}{a:Zu}:∀r,(ZgP a)=some r->evD ctx 111 [(.d (zK3 t0 a.crew.on t1 a.crew.left t2 a.deques t3 a.takers t4 a.from_))]=some (ZaH r):=
 evT ZzG rfl rfl <| Zg _ (ZmU _) fun r3 _=>
  Zg _ (ZmH _) fun r7 _=>
  yR
def Zlh (r:(Za×Zb)):D:=(D.tup [(zK4 true r.1.ring r.1.top r.1.bottom),(D.agg [(D.bool r.2.steal),(Zs r.2.at_),(Zs r.2.top),(Zs r.2.bottom),(Zs r.2.got),(Zs r.2.end_)])])
theorem Z8 {a:Za}{b:Zb}:∀r,(Zae a b)=some r->evD ctx 134 [(.d (zK4 true a.ring a.top a.bottom)),(.d (D.agg [(D.bool b.steal),(Zs b.at_),(Zs b.top),(Zs b.bottom),(Zs b.got),(Zs b.end_)]))]=some (Zlh r):=
 evT ZzJ rfl rfl <| yBr (yB (yBr yR)
  (yB (yC ZgH fun x0 _=>
  yR)
  (yBr yR)))
theorem Z7 {a:Za}{b:Zb}:∀r,(Zad a b)=some r->evD ctx 135 [(.d (zK4 true a.ring a.top a.bottom)),(.d (D.agg [(D.bool b.steal),(Zs b.at_),(Zs b.top),(Zs b.bottom),(Zs b.got),(Zs b.end_)]))]=some (Zlh r):=
 evT ZAt rfl rfl <| yBr (yB (yB (yC ZgH fun x0 _=>
  yR)
  (yBr yR))
  (yB (yB (yC ZgH fun x1 _=>
  yR)
  yR)
  (yBr yR)))
theorem Zla {a:Za}{b:Zb}:∀r,(ZdZ a b)=some r->evD ctx 119 [(.d (zK4 true a.ring a.top a.bottom)),(.d (D.agg [(D.bool b.steal),(Zs b.at_),(Zs b.top),(Zs b.bottom),(Zs b.got),(Zs b.end_)]))]=some (Zl0 r):=
 evT ZBz rfl rfl <| yC Zx fun x0 _=>
  yB (yB (yBr (yBr (yBr (yB (yBr (yBr (yB (yC Z8 fun x1 _=>
  yC Zx fun x2 _=>
  yBr yR)
  (yC Z7 fun x3 _=>
  yC Zx fun x4 _=>
  yBr yR))))
  (yBr (yB (yC Z8 fun x5 _=>
  yC Zx fun x6 _=>
  yBr yR)
  (yC Z7 fun x7 _=>
  yC Zx fun x8 _=>
  yBr yR)))))))
  (yB (yBr (yBr (yBr (yB (yBr (yBr (yB (yC Z8 fun x9 _=>
  yC Zx fun x10 _=>
  yBr yR)
  (yC Z7 fun x11 _=>
  yC Zx fun x12 _=>
  yBr yR))))
  (yBr (yB (yC Z8 fun x13 _=>
  yC Zx fun x14 _=>
  yBr yR)
  (yC Z7 fun x15 _=>
  yC Zx fun x16 _=>
  yBr yR)))))))
  (yB (yBr (yBr (yBr (yB (yBr (yBr (yB (yC Z8 fun x17 _=>
  yC Zx fun x18 _=>
  yBr yR)
  (yC Z7 fun x19 _=>
  yC Zx fun x20 _=>
  yBr yR))))
  (yBr (yB (yC Z8 fun x21 _=>
  yC Zx fun x22 _=>
  yBr yR)
  (yC Z7 fun x23 _=>
  yC Zx fun x24 _=>
  yBr yR)))))))
  (yB (yBr (yBr (yBr (yB (yBr (yBr (yB (yC Z8 fun x25 _=>
  yC Zx fun x26 _=>
  yBr yR)
  (yC Z7 fun x27 _=>
  yC Zx fun x28 _=>
  yBr yR))))
  (yBr (yB (yC Z8 fun x29 _=>
  yC Zx fun x30 _=>
  yBr yR)
  (yC Z7 fun x31 _=>
  yC Zx fun x32 _=>
  yBr yR)))))))
  (yBr (yBr (yBr (yB (yBr (yB (yB (yC Z8 fun x33 _=>
  yC Zx fun x34 _=>
  yBr yR)
  (yC Z7 fun x35 _=>
  yC Zx fun x36 _=>
  yBr yR))
  (yB (yC Z8 fun x37 _=>
  yC Zx fun x38 _=>
  yBr yR)
  (yC Z7 fun x39 _=>
  yC Zx fun x40 _=>
  yBr yR))))
  (yB (yB (yC Z8 fun x41 _=>
  yC Zx fun x42 _=>
  yBr yR)
  (yC Z7 fun x43 _=>
  yC Zx fun x44 _=>
  yBr yR))
  (yB (yC Z8 fun x45 _=>
  yC Zx fun x46 _=>
  yBr yR)
  (yC Z7 fun x47 _=>
  yC Zx fun x48 _=>
  yBr yR)))))))))))
  yR
def ZfX (r:Zu):D:=(zK3 true r.crew.on true r.crew.left true r.deques true r.takers true r.from_)
theorem Zdz {t2:Bool}{a:Zu}{b:Int}{c:Za}:∀r,(ZaE a b c)=some r->evD ctx 81 [(.d (zK3 true a.crew.on true a.crew.left t2 a.deques true a.takers true a.from_)),(zN b),(.d (zK4 true c.ring c.top c.bottom))]=some (ZfX r):=
 evT ZDc rfl rfl <| Zdy (Zaz (f:=Zy) (fun _=>⟨rfl,rfl⟩) a.deques 0) (ZP (ZaF Zy a.deques) (Zd (rfl:_=List.map Zy a.deques) (yG fun x0 hx0=>
  Zl (ZV rfl hx0) (Zd (Zau Zy a.deques b.toNat c) yR)))
  ZB)
theorem Zan {t3 t4:Bool}{a:Zu}{b:Int}{c:Zb}{d:Int}:∀r,(Zab a b c d)=some r->evD ctx 120 [(.d (zK3 true a.crew.on true a.crew.left true a.deques t3 a.takers t4 a.from_)),(zN b),(.d (D.agg [(D.bool c.steal),(Zs c.at_),(Zs c.top),(Zs c.bottom),(Zs c.got),(Zs c.end_)])),(zN d)]=some (ZfX r):=
 evT ZxV rfl rfl <| Zdy (Zaz (f:=ZD) (fun _=>⟨rfl,rfl⟩) a.takers 0) (ZP (ZaF ZD a.takers) (Zd (rfl:_=List.map ZD a.takers) (Zdy (Zaz (f:=Zs) (fun _=>⟨rfl,rfl⟩) a.from_ 0) (ZP (ZaF Zs a.from_) (Zd (rfl:_=List.map Zs a.from_) (yG fun x0 hx0=>
  Zl (ZV rfl hx0) (Zd (Zau ZD a.takers b.toNat c) (yG fun x1 hx1=>
  Zl (ZV rfl hx1) (Zd (Zau Zs a.from_ b.toNat d) yR)))))
  ZB)))
  ZB)
def Zkr (t0 t1 t2 t3:Bool) (a0:List Int) (a1:List Za) (a2:List Zb) (a3:List Int) (b:Int) (c:Zb) (d:Int) (mA:List Int):Unit->V×Zi
  | r=>((.agg [(.sl 0 1),(zV t0 a0),(zW t1 Zy a1),(.sl 1 6),(.sl 2 1)]),[(zA mA),(.arr 6 (List.map ZD (List.set a2 b.toNat c))),(zA (List.set a3 b.toNat d))])
theorem ZfK {t0 t1:Bool}{t2 t3:Bool}{a0:List Int}{a1:List Za}{a2:List Zb}{a3:List Int}{b:Int}{c:Zb}{d:Int}{mA:List Int}:∀r,(ZbI a2 a3 b c d)=some r->evW ctx 120 [(.agg [(.sl 0 1),(zV t0 a0),(zW t1 Zy a1),(zW t2 ZD a2),(zV t3 a3)]),(zN b),(.d (D.agg [(D.bool c.steal),(Zs c.at_),(Zs c.top),(Zs c.bottom),(Zs c.got),(Zs c.end_)])),(zN d)] [(zA mA)]=some ((Zkr t0 t1 t2 t3 a0 a1 a2 a3 b c d mA) r):=
 evS ZxV rfl rfl <| Zdy (Zaz (f:=ZD) (fun _=>⟨rfl,rfl⟩) a2 0) (ZP (ZaF ZD a2) (Zd (rfl:_=List.map ZD a2) (Zdy (Zaz (f:=Zs) (fun _=>⟨rfl,rfl⟩) a3 0) (ZP (ZaF Zs a3) (Zd (rfl:_=List.map Zs a3) (yG fun x0 hx0=>
  Zl (ZV rfl hx0) (Zd (Zau ZD a2 b.toNat c) (yG fun x1 hx1=>
  Zl (ZV rfl hx1) (Zd (Zau Zs a3 b.toNat d) yR)))))
  ZB)))
  ZB)
theorem ZlD {t0 t1 t4:Bool}{a:Zj}{b:Zu}{c:Int}:∀r,(ZdU a b c)=some r->evD ctx 112 [(.d (zK1 t0 a.work t1 a.edges)),(.d (zK3 true b.crew.on true b.crew.left t4 b.deques true b.takers true b.from_)),(zN c)]=some (Zde r):=
 evT ZCv rfl rfl <| Zd (Zk _ _) (yG fun x0 hx0=>
  yB (yG fun x1 _=>
  yG fun x2 _=>
  yC Zla fun x3 _=>
  yBr (yC Zdz fun x4 _=>
  Zl (Zam rfl hx0) (yC Zan fun x5 _=>
  yBr (yB (yG fun x6 _=>
  yB (yF (yC Zan fun x7 _=>
  yR))
  (yB (yC Zan fun x8 _=>
  yR)
  (yC Zan fun x9 _=>
  yR)))
  (yC Zdm fun x10 _=>
  yC ZcB fun x11 _=>
  yB (Zdy (Zaz (f:=Zs) (fun _=>⟨rfl,rfl⟩) x5.crew.on 0) (ZP (ZaF Zs x5.crew.on) (Zd (rfl:_=List.map Zs x5.crew.on) (yG fun x12 hx12=>
  Zl (ZV rfl hx12) (Zd (Zau Zs x5.crew.on c.toNat x3.2.1.got) (Zg _ ZfK fun x13 _=>
  yR))))
  ZB))
  yR)))))
  (yG fun x14 _=>
  yG fun x15 _=>
  yC Zla fun x16 _=>
  yBr (yC Zdz fun x17 _=>
  Zl (Zam rfl hx0) (yC Zan fun x18 _=>
  yBr (yB (yG fun x19 _=>
  yB (yF (yC Zan fun x20 _=>
  yR))
  (yB (yC Zan fun x21 _=>
  yR)
  (yC Zan fun x22 _=>
  yR)))
  (yC Zdm fun x23 _=>
  yC ZcB fun x24 _=>
  yB (Zdy (Zaz (f:=Zs) (fun _=>⟨rfl,rfl⟩) x18.crew.on 0) (ZP (ZaF Zs x18.crew.on) (Zd (rfl:_=List.map Zs x18.crew.on) (yG fun x25 hx25=>
  Zl (ZV rfl hx25) (Zd (Zau Zs x18.crew.on c.toNat x16.2.1.got) (Zg _ ZfK fun x26 _=>
  yR))))
  ZB))
  yR))))))
end
def Zjg (t0 t1 t7:Bool) (a:Zj) (c:List Int) (s0:Int×Int×(List Int)×(List Int)×(List Za)×(List Zb)×(List Int)) (x1:List Int):Int->Ex×List V×Zi
  | r=>(.exit 2,[(zV t7 c),(.ptr 0 0),(.ptr 1 0),(.ptr 2 0),(zN s0.2.1),(zV true x1),(zN r)],[(zK0 t0 a.work t1 a.edges),(zK2 true s0.2.2.1 true s0.2.2.2.1 true s0.2.2.2.2.1 true s0.2.2.2.2.2.1 true s0.2.2.2.2.2.2),(.cells [(.sl 3 1),(.sl 4 1),(.sl 5 3),(.sl 6 6),(.sl 7 1)]),(.arr 1 []),(.arr 1 []),(.arr 3 []),(.arr 6 []),(.arr 1 [])])
theorem Znr {t0 t1 t7:Bool}{a:Zj}{c:List Int}{s0:Int×Int×(List Int)×(List Int)×(List Za)×(List Zb)×(List Int)}{x1:List Int}:∀s3 r,lp (Zd5 s0 x1) s3=some r->lpW ctx 0 [2,3,4,6,9,10,11,12,13] [2,3,4,6,10,11,12] ZxM [(zV t7 c),(.ptr 0 0),(.ptr 1 0),(.ptr 2 0),(zN s0.1),(zN s0.2.1),(zV true x1),(zN s3.1),(zN s3.2)] [(zK0 t0 a.work t1 a.edges),(zK2 true s0.2.2.1 true s0.2.2.2.1 true s0.2.2.2.2.1 true s0.2.2.2.2.2.1 true s0.2.2.2.2.2.2),(.cells [(.sl 3 1),(.sl 4 1),(.sl 5 3),(.sl 6 6),(.sl 7 1)]),(.arr 1 []),(.arr 1 []),(.arr 3 []),(.arr 6 []),(.arr 1 [])]=some ((Zjg t0 t1 t7 a c s0 x1) r):=
 lpT (Zjg t0 t1 t7 a c s0 x1) fun s3 _ ih=>yB (yG fun x4 hx4=>
  yB (Zl (Zam rfl hx4) (Ze (ih _)))
  (Ze (ih _)))
  (Zf rfl)
def Zjh (t0 t1 t7:Bool) (a:Zj) (c:List Int):((Int×(List Int)×(List Int)×(List Za)×(List Zb)×(List Int))⊕Int)->Ex×List V×Zi
  | (.inl r)=>(.ret,[(.ptr 0 0),(zN r.1),(zN 0)],[(zK2 true r.2.1 true r.2.2.1 true r.2.2.2.1 true r.2.2.2.2.1 true r.2.2.2.2.2)])
  | (.inr r)=>(.ret,[(.ptr 0 0),(zN 0),(zN r)],[(.cells [(.nilsl 1),(.nilsl 1),(.nilsl 3),(.nilsl 6),(.nilsl 1)])])
theorem Znn {t0 t1 t7:Bool}{a:Zj}{c:List Int}:∀s0 r,lp (Zee a c) s0=some r->lpW ctx 0 [2,3,4,6,9,10] [6,7,8] Zxz [(zV t7 c),(.ptr 0 0),(.ptr 1 0),(.ptr 2 0),(zN s0.1),(zN s0.2.1)] [(zK0 t0 a.work t1 a.edges),(zK2 true s0.2.2.1 true s0.2.2.2.1 true s0.2.2.2.2.1 true s0.2.2.2.2.2.1 true s0.2.2.2.2.2.2),(.cells [(.sl 3 1),(.sl 4 1),(.sl 5 3),(.sl 6 6),(.sl 7 1)]),(.arr 1 []),(.arr 1 []),(.arr 3 []),(.arr 6 []),(.arr 1 [])]=some ((Zjh t0 t1 t7 a c) r):=
 lpT (Zjh t0 t1 t7 a c) fun s0 _ ih=>yC Zpy fun x1 _=>
  Zd (Zk _ _) (yB (Zf rfl)
  (yG fun x2 _=>
  Zd (Zk _ _) (Zg _ (Znr _) fun r5 _=>
  Zd (Zk _ _) (yB (yG fun x6 _=>
  Zd (Zk _ _) (yBn (yG fun x7 _=>
  yC ZlD fun x8 _=>
  yB (Zf rfl)
  (Ze (ih _)))))
  (yC ZlD fun x9 _=>
  yB (Zf rfl)
  (Ze (ih _)))))))
theorem Zqy {t0 t1 t7:Bool}{a:Zj}{b:Zu}{c:List Int}:∀r,(ZhJ a b c)=some r->evD ctx 103 [(.d (zK1 t0 a.work t1 a.edges)),(.d (zK3 true b.crew.on true b.crew.left true b.deques true b.takers true b.from_)),(zV t7 c)]=some (ZeP r):=
 evT ZBd rfl rfl <| (by
 conv=>rhs;whnf
 refine Zg _ (Znn _) fun r10 _=>?_
 rcases r10 with r10 | r10
 exact yR
 exact yR)
theorem ZqD {t0 t1 t7:Bool}{a:Zj}{b:Zu}{c:List Int}:∀r,(ZkL a b c)=some r->evD ctx 73 [(.d (zK1 t0 a.work t1 a.edges)),(.d (zK3 true b.crew.on true b.crew.left true b.deques true b.takers true b.from_)),(zV t7 c)]=some (ZeP r):=
 evT ZEL rfl rfl <| yC ZgF fun x0 _=>
  yBr (yC Zqy fun x1 _=>
  yR)
def ZqV (r:(Zq×(List Int))):D:=(D.tup [(zK5 true r.1.on true r.1.left),(zL true r.2)])
def Zi8 (t0 t1:Bool) (a:Zq) (s0:Int×(List Int)×(List Int)×(List Int)):((List Int)×(List Int)×(List Int))->Ex×List V×Zi
  | r=>(.exit 2,[(.ptr 0 0),(.ptr 1 0),(.ptr 2 0),(.sl 3 1),(zN s0.1)],[(zK6 t0 a.on t1 a.left),(zK9 ),(.cells [(.sl 6 1),(.sl 7 1)]),(zA r.1),(.arr 1 []),(.arr 1 []),(zA r.2.1),(zA r.2.2)])
theorem Znk {t0 t1:Bool}{a:Zq}{s0:Int×(List Int)×(List Int)×(List Int)}:∀s1 r,lp (ZcS a s0) s1=some r->lpW ctx 0 [1,2,4,5,6,7] [1,2,4,5,6] ZBt [(.ptr 0 0),(.ptr 1 0),(.ptr 2 0),(.sl 3 1),(zN s0.1),(zN s1.1)] [(zK6 t0 a.on t1 a.left),(zK9 ),(.cells [(.sl 6 1),(.sl 7 1)]),(zA s1.2.1),(.arr 1 []),(.arr 1 []),(zA s1.2.2.1),(zA s1.2.2.2)]=some ((Zi8 t0 t1 a s0) r):=
 lpT (Zi8 t0 t1 a s0) fun s1 _ ih=>Zd (Zk _ _) (yB (yG fun x2 _=>
  yB (Ze (ih _))
  (yG fun x3 _=>
  yG fun x4 hx4=>
  Zl (ZV rfl hx4) (Zd (Zau Zs s1.2.2.2 s0.1.toNat (w64 (x3-1))) (yG fun x5 hx5=>
  Zl (ZV rfl hx5) (yB (yG fun x6 hx6=>
  Zl (ZV rfl hx6) (Zd (Zau Zs s1.2.2.1 s1.1.toNat (-1)) (yT (ZP (ZaM Zs s1.2.1 1) (Zd (ZaK Zs s1.2.1 [s0.1]) (Ze (ih _)))
  ZB))))
  (Ze (ih _)))))))
  (Zf rfl))
def Zi6 (t0 t1:Bool) (a:Zq):((List Int)×(List Int)×(List Int))->Ex×List V×Zi
  | r=>(.exit 0,[(.ptr 0 0),(.ptr 1 0),(.sl 2 1)],[(.cells [(.sl 3 1),(.sl 4 1)]),(.cells [(.sl 5 1),(.sl 6 1)]),(zA r.1),(.arr 1 []),(.arr 1 []),(zA r.2.1),(zA r.2.2)])
theorem ZnI {t0 t1:Bool}{a:Zq}:∀s0 r,lp (ZcU a) s0=some r->lpW ctx 0 [1,2,4,5,6] [2,4,5] ZAl [(.ptr 0 0),(.ptr 1 0),(.ptr 2 0),(.sl 3 1),(zN s0.1)] [(zK6 t0 a.on t1 a.left),(zK9 ),(.cells [(.sl 6 1),(.sl 7 1)]),(zA s0.2.1),(.arr 1 []),(.arr 1 []),(zA s0.2.2.1),(zA s0.2.2.2)]=some ((Zi6 t0 t1 a) r):=
 lpT (Zi6 t0 t1 a) fun s0 _ ih=>Zd (Zk _ _) (yB (Zg _ (Znk _) fun r7 _=>
  Ze (ih _))
  (Zf rfl))
theorem Zk7 {t0 t1:Bool}{a:Zq}:∀r,(Zf5 a)=some r->evD ctx 76 [(.d (zK5 t0 a.on t1 a.left))]=some (ZqV r):=
 evT ZEY rfl rfl <| Zdy (Zaz (f:=Zs) (fun _=>⟨rfl,rfl⟩) a.on 0) (ZP (ZaF Zs a.on) (Zd (rfl:_=List.map Zs a.on) (Zdy (Zaz (f:=Zs) (fun _=>⟨rfl,rfl⟩) a.left 0) (ZP (ZaF Zs a.left) (Zd (rfl:_=List.map Zs a.left) (Zg _ (ZnI _) fun r8 _=>
  yR))
  ZB)))
  ZB)
theorem ZmZ {t0 t1:Bool}{a:Zj}{b:Int}:∀s0 r,lp (ZdK a b) s0=some r->lpW ctx 0 [1,2,5,6] [5] Zyp [(zN b),(.ptr 0 0),(.sl 1 1),(zN s0.1)] [(zK0 t0 a.work t1 a.edges),(zA s0.2)]=some ((Zd0 t0 t1 a b) r):=
 lpT (Zd0 t0 t1 a b) fun s0 _ ih=>Zd (Zk _ _) (yB (yC Zlf fun x1 _=>
  yB (yT (ZP (ZaM Zs s0.2 1) (Zd (ZaK Zs s0.2 [s0.1]) (Ze (ih _)))
  ZB))
  (Ze (ih _)))
  (Zf rfl))
theorem Zo9 {t0 t1:Bool}{a:Zj}{b:Int}:∀r,(ZgT a b)=some r->evD ctx 104 [(.d (zK1 t0 a.work t1 a.edges)),(zN b)]=some (ZaH r):=
 evT ZAB rfl rfl <| Zg _ (ZmZ _) fun r2 _=>
  yR
def Zi7 (t0 t1 t2:Bool) (a:Zj) (b:Zu) (x1:(Zq×(List Int))) (x2:List Int) (s3:Int×(List Int)×(List Int)×(List Za)×(List Zb)×(List Int)×(List Int)) (x6:List Int):(((List Int)×(List Int)×(List Za)×(List Zb)×(List Int)×(List Int))⊕((List Int)×(List Int)×(List Za)×(List Zb)×(List Int)×(List Int)))->Ex×List V×Zi
  | (.inl r)=>(.ret,[(.ptr 0 0),(.ptr 1 0),(.ptr 2 0),(.nilsl 1),(zN 130),(zV t2 b.crew.on),(zV true x1.2),(zV true x2),(.sl 3 1),(zN s3.1)],[(zK0 t0 a.work t1 a.edges),(zK2 true r.1 true r.2.1 true r.2.2.1 true r.2.2.2.1 true r.2.2.2.2.1),(.cells [(.nilsl 1),(.nilsl 1),(.nilsl 3),(.nilsl 6),(.nilsl 1)]),(zA r.2.2.2.2.2)])
  | (.inr r)=>(.exit 2,[(.ptr 0 0),(.ptr 1 0),(.ptr 2 0),.bad,.bad,(zV t2 b.crew.on),(zV true x1.2),(zV true x2),(.sl 3 1),(zN s3.1)],[(zK0 t0 a.work t1 a.edges),(zK2 true r.1 true r.2.1 true r.2.2.1 true r.2.2.2.1 true r.2.2.2.2.1),(ZwP ),(zA r.2.2.2.2.2),(.arr 1 []),(.arr 1 []),(.arr 3 []),(.arr 6 []),(.arr 1 [])])
theorem ZnQ {t0 t1 t2:Bool}{a:Zj}{b:Zu}{x1:(Zq×(List Int))}{x2:List Int}{s3:Int×(List Int)×(List Int)×(List Za)×(List Zb)×(List Int)×(List Int)}{x6:List Int}:∀s7 r,lp (Zfn x2 s3 x6) s7=some r->lpW ctx 0 [2,3,4,8,10,11,12,13,14,15] [2,3,4,5,6,8,10,11,12,13] ZAA [(.ptr 0 0),(.ptr 1 0),(.ptr 2 0),(zV t2 b.crew.on),(zV true x1.2),(zV true x2),(.sl 3 1),(zN s3.1),(zV true x6),(zN s7.1)] [(zK0 t0 a.work t1 a.edges),(zK2 true s7.2.1 true s7.2.2.1 true s7.2.2.2.1 true s7.2.2.2.2.1 true s7.2.2.2.2.2.1),(ZwP ),(zA s7.2.2.2.2.2.2),(.arr 1 []),(.arr 1 []),(.arr 3 []),(.arr 6 []),(.arr 1 [])]=some ((Zi7 t0 t1 t2 a b x1 x2 s3 x6) r):=
 lpT (Zi7 t0 t1 t2 a b x1 x2 s3 x6) fun s7 _ ih=>Zd (Zk _ _) (yB (yG fun x8 hx8=>
  yC ZcB fun x9 _=>
  yB (Zl (Zam rfl hx8) (yC ZcB fun x10 _=>
  yB (Ze (ih _))
  (yG fun x11 _=>
  Zl (Zam rfl hx8) (yC Zle fun x12 _=>
  yB (Zf rfl)
  (yC Zdz fun x13 _=>
  Zl (Zam rfl hx8) (yT (ZP (ZaM Zs s7.2.2.2.2.2.2 1) (Zd (ZaK Zs s7.2.2.2.2.2.2 [x8]) (Ze (ih _)))
  ZB)))))))
  (Ze (ih _)))
  (Zf rfl))
def Zjc (t0 t1 t2:Bool) (a:Zj) (b:Zu) (x1:(Zq×(List Int))) (x2:List Int):(((List Int)×(List Int)×(List Za)×(List Zb)×(List Int))⊕((List Int)×(List Int)×(List Za)×(List Zb)×(List Int)))->Ex×List V×Zi
  | (.inl r)=>(.ret,[(.ptr 0 0),(.ptr 1 0),(.nilsl 1),(zN 130),(zV true x1.2)],[(zK2 true r.1 true r.2.1 true r.2.2.1 true r.2.2.2.1 true r.2.2.2.2),(.cells [(.nilsl 1),(.nilsl 1),(.nilsl 3),(.nilsl 6),(.nilsl 1)])])
  | (.inr r)=>(.exit 0,[(.ptr 0 0),(.ptr 1 0),.bad,.bad,(zV true x1.2)],[(zK2 true r.1 true r.2.1 true r.2.2.1 true r.2.2.2.1 true r.2.2.2.2),(Zwn ),(.arr 1 []),(.arr 1 []),(.arr 3 []),(.arr 6 []),(.arr 1 [])])
theorem ZnR {t0 t1 t2:Bool}{a:Zj}{b:Zu}{x1:(Zq×(List Int))}{x2:List Int}:∀s3 r,lp (Zec a b x1 x2) s3=some r->lpW ctx 0 [2,3,4,8,10,11,12,13] [3,4,5,6,10] ZAE [(.ptr 0 0),(.ptr 1 0),(.ptr 2 0),(zV t2 b.crew.on),(zV true x1.2),(zV true x2),(.sl 3 1),(zN s3.1)] [(zK0 t0 a.work t1 a.edges),(zK2 true s3.2.1 true s3.2.2.1 true s3.2.2.2.1 true s3.2.2.2.2.1 true s3.2.2.2.2.2.1),(ZwP ),(zA s3.2.2.2.2.2.2),(.arr 1 []),(.arr 1 []),(.arr 3 []),(.arr 6 []),(.arr 1 [])]=some ((Zjc t0 t1 t2 a b x1 x2) r):=
 lpT (Zjc t0 t1 t2 a b x1 x2) fun s3 _ ih=>Zd (Zk _ _) (yB (yG fun x4 hx4=>
  yB (Ze (ih _))
  (Zl (Zam rfl hx4) (yC ZcB fun x5 _=>
  yB (Zl (Zam rfl hx4) (yC Zo9 fun x6 _=>
  (by
 conv=>rhs;whnf
 refine Zg _ (ZnQ _) fun r14 _=>?_
 rcases r14 with r14 | r14
 exact Zf rfl
 exact Ze (ih _))))
  (Ze (ih _)))))
  (Zf rfl))
theorem ZqE {t0 t1:Bool}{t2 t3:Bool}{a:Zj}{b:Zu}:∀r,(ZhG a b)=some r->evD ctx 74 [(.d (zK1 t0 a.work t1 a.edges)),(.d (zK3 t2 b.crew.on t3 b.crew.left true b.deques true b.takers true b.from_))]=some (Zf0 r):=
 evT ZFn rfl rfl <| yC ZgF fun x0 _=>
  yBr (yC Zk7 fun x1 _=>
  yC Zdm fun x2 _=>
  (by
 conv=>rhs;whnf
 refine Zg _ (ZnR _) fun r15 _=>?_
 rcases r15 with r15 | r15
 exact yR
 exact yR))
def Zsw (r:Zq):D:=(zK5 true r.on true r.left)
def Zjk (t0 t1:Bool) (a:Zj) (b:Zq):(List Int)->Ex×List V×Zi
  | r=>(.exit 0,[(.ptr 0 0),(.ptr 1 0)],[(ZD8 ),(zK9 ),(.arr 1 []),(.arr 1 []),(zA r),(zA b.left)])
theorem Znp {t0 t1:Bool}{a:Zj}{b:Zq}:∀s0 r,lp (Zb0 a b) s0=some r->lpW ctx 0 [2,4,5,6] [4,5] ZAN [(.ptr 0 0),(.ptr 1 0),(.ptr 2 0),(zN s0.1)] [(zK0 t0 a.work t1 a.edges),(.cells [(.sl 3 1),(.sl 4 1)]),(.cells [(.sl 5 1),(.sl 6 1)]),(.arr 1 []),(.arr 1 []),(zA s0.2),(zA b.left)]=some ((Zjk t0 t1 a b) r):=
 lpT (Zjk t0 t1 a b) fun s0 _ ih=>Zd (Zk _ _) (yB (yC Zdm fun x1 _=>
  yG fun x2 hx2=>
  Zl (ZV rfl hx2) (yB (Zd (Zk _ _) (yB (yG fun x3 _=>
  Zl (Zam rfl hx2) (Zl (ZV rfl hx2) (Zd (Zau Zs s0.2 s0.1.toNat x3) (Ze (ih _)))))
  (Ze (ih _))))
  (Ze (ih _))))
  (Zf rfl))
theorem Zqx {t0 t1:Bool}{t2 t3:Bool}{a:Zj}{b:Zq}:∀r,(ZhH a b)=some r->evD ctx 75 [(.d (zK1 t0 a.work t1 a.edges)),(.d (zK5 t2 b.on t3 b.left))]=some (Zsw r):=
 evT ZEZ rfl rfl <| Zdy (Zaz (f:=Zs) (fun _=>⟨rfl,rfl⟩) b.on 0) (ZP (ZaF Zs b.on) (Zd (rfl:_=List.map Zs b.on) (Zdy (Zaz (f:=Zs) (fun _=>⟨rfl,rfl⟩) b.left 0) (ZP (ZaF Zs b.left) (Zd (rfl:_=List.map Zs b.left) (Zg _ (Znp _) fun r4 _=>
  yR))
  ZB)))
  ZB)
theorem ZqB {t0 t1 t8:Bool}{a:Zj}{b:ZW}{c:List Int}:∀r,(ZfS a b c)=some r->evD ctx 44 [(.d (zK1 t0 a.work t1 a.edges)),(.d (D.agg [(D.bool b.stealing),(zL true b.demand),(Zs b.state),(zL true b.gang.crew.on),(zL true b.gang.crew.left),(zM true Zy b.gang.deques),(zM true ZD b.gang.takers),(zL true b.gang.from_)])),(zV t8 c)]=some (Znc r):=
 evT ZFB rfl rfl <| yC Zpu fun x0 _=>
  yBr (yBr (yB (yC ZqD fun x1 _=>
  yBr (Zdy (Zaz (f:=Zs) (fun _=>⟨rfl,rfl⟩) x1.1.crew.on 0) (ZP (ZaF Zs x1.1.crew.on) (Zd (rfl:_=List.map Zs x1.1.crew.on) (yC ZqE fun x2 _=>
  yBr (yC Za7 fun x3 _=>
  yR)))
  ZB)))
  (yC Zqx fun x4 _=>
  Zdy (Zaz (f:=Zs) (fun _=>⟨rfl,rfl⟩) x4.on 0) (ZP (ZaF Zs x4.on) (Zd (rfl:_=List.map Zs x4.on) (yC Zk7 fun x5 _=>
  yC Za7 fun x6 _=>
  yR))
  ZB))))
theorem Zor {t0 t1 t3:Bool}{a:Zj}{e:List Int}{x0:(ZW×Int)}:∀s1 r,lp (ZeD x0) s1=some r->lpW ctx 0 [4,5,13,15,16] [4,5,13,15] ZCm [(zV t3 e),(.ptr 0 0),(.ptr 1 0),(zN s1.1),(zN s1.2)] [(zK0 t0 a.work t1 a.edges),(.cells [(.d (D.bool x0.1.stealing)),(zV true x0.1.demand),(zN x0.1.state),(zV true x0.1.gang.crew.on),(zV true x0.1.gang.crew.left),(zW true Zy x0.1.gang.deques),(zW true ZD x0.1.gang.takers),(zV true x0.1.gang.from_)])]=some ((Zfm t0 t1 t3 a e x0) r):=
 lpT (Zfm t0 t1 t3 a e x0) fun s1 _ ih=>Zd (Zk _ _) (yB (yG fun x2 _=>
  Ze (ih _))
  (Zf rfl))
theorem Zn4 {t0 t1 t3:Bool}{a:Zj}:∀s4 r,lp (Zdv a) s4=some r->lpW ctx 0 [4,5,13,17] [10,11,12,13,17] ZB6 [(zV t3 s4.1),(.ptr 0 0),(.ptr 1 0),(.sl 2 1)] [(zK0 t0 a.work t1 a.edges),(.cells [(.d (D.bool s4.2.1)),(zV true s4.2.2.1),(zN s4.2.2.2.1),(zV true s4.2.2.2.2.1),(zV true s4.2.2.2.2.2.1),(zW true Zy s4.2.2.2.2.2.2.1),(zW true ZD s4.2.2.2.2.2.2.2.1),(zV true s4.2.2.2.2.2.2.2.2.1)]),(.arr 1 (List.map (ZdQ true) s4.2.2.2.2.2.2.2.2.2))]=some ((Zfq t0 t1 t3 a) r):=
 lpT (Zfq t0 t1 t3 a) fun s4 _ ih=>yB (yC ZqB fun x5 _=>
  yB (Zf rfl)
  (Zd (Zk _ _) (yBm (ZP (Zq0 Zs s4.1 (bif decide ((s4.1.length:Int)<x5.2.1.steps) then (s4.1.length:Int) else x5.2.1.steps).toNat) (Zdy (Zwj Zs (fun _=>⟨rfl,rfl⟩) s4.1 _) (Zd (ZnM Zs s4.1 (bif decide ((s4.1.length:Int)<x5.2.1.steps) then (s4.1.length:Int) else x5.2.1.steps).toNat) (yT (ZP (ZaM (ZdQ true) s4.2.2.2.2.2.2.2.2.2 1) (Zd (ZaK (ZdQ true) s4.2.2.2.2.2.2.2.2.2 [x5.2.1.on]) (Ze (ih _)))
  ZB))))
  ZB))))
  (Zf rfl)
theorem Zsm {t0 t1:Bool}{t2 t3:Bool}{a:Zj}{b:List Int}{c:Int}{d:Bool}{e:List Int}:∀r,(ZfI a b c d e)=some r->evD ctx 21 [(.d (zK1 t0 a.work t1 a.edges)),(zV t2 b),(zN c),(.d (D.bool d)),(zV t3 e)]=some (Zn5 r):=
 evT ZFG rfl rfl <| yC Zl8 fun x0 _=>
  yBr (Zg _ (Zor _) fun r3 _=>
  yBr (by
 conv=>rhs;whnf
 refine Zg _ (Zn4 _) fun r6 _=>?_
 rcases r6 with r6 | r6
 exact yR
 exact yR))
def Zja (t0 t1:Bool) (a:List Int) (b:List Int):(Unit⊕Unit)->Ex×List V×Zi
  | (.inl r)=>(.ret,[(.d (D.bool false))],[])
  | (.inr r)=>(.exit 0,[.bad],[])
theorem ZnP {t0 t1:Bool}{a:List Int}{b:List Int}:∀s0 r,lp (Zd9 a b) s0=some r->lpW ctx 0 [0,1,5] [4] ZAY [(zV t0 a),(zV t1 b),(zN s0)] []=some ((Zja t0 t1 a b) r):=
 lpT (Zja t0 t1 a b) fun s0 _ ih=>Zd (Zk _ _) (yB (yG fun x1 _=>
  yG fun x2 _=>
  yB (Zf rfl)
  (Ze (ih _)))
  (Zf rfl))
theorem ZbW {t0 t1:Bool}{a:List Int}{b:List Int}:∀r,(ZbE a b)=some r->evD ctx 18 [(zV t0 a),(zV t1 b)]=some (Zp r):=
 evT ZFX rfl rfl <| Zd (Zk _ _) (Zd (Zk _ _) (yBr (by
 conv=>rhs;whnf
 refine Zg _ (ZnP _) fun r3 _=>?_
 rcases r3 with r3 | r3
 exact yR
 exact yR)))
def Zf8 (t0 t1:Bool) (a:(List (List Int))) (b:(List (List Int))):(Unit⊕Unit)->Ex×List V×Zi
  | (.inl r)=>(.ret,[(.d (D.bool false))],[])
  | (.inr r)=>(.exit 0,[.bad],[])
theorem ZjV {t0 t1:Bool}{a:(List (List Int))}{b:(List (List Int))}:∀s0 r,lp (ZbH a b) s0=some r->lpW ctx 0 [0,1,5] [4] ZAM [(.d (D.list t0 (List.map (ZdQ true) a))),(.d (D.list t1 (List.map (ZdQ true) b))),(zN s0)] []=some ((Zf8 t0 t1 a b) r):=
 lpT (Zf8 t0 t1 a b) fun s0 _ ih=>Zd (Zk _ _) (yB (yG fun x1 _=>
  yG fun x2 _=>
  yC ZbW fun x3 _=>
  yB (Ze (ih _))
  (Zf rfl))
  (Zf rfl))
theorem ZlG {t0 t1:Bool}{a:(List (List Int))}{b:(List (List Int))}:∀r,(Zes a b)=some r->evD ctx 24 [(.d (D.list t0 (List.map (ZdQ true) a))),(.d (D.list t1 (List.map (ZdQ true) b)))]=some (Zp r):=
 evT ZEE rfl rfl <| Zd (Zk _ _) (Zd (Zk _ _) (yBr (by
 conv=>rhs;whnf
 refine Zg _ (ZjV _) fun r4 _=>?_
 rcases r4 with r4 | r4
 exact yR
 exact yR)))
theorem Zqr {t0 t1:Bool}{t2 t3:Bool}{a b:Zq}:∀r,(ZkR a b)=some r->evD ctx 64 [(.d (zK5 t0 a.on t1 a.left)),(.d (zK5 t2 b.on t3 b.left))]=some (Zp r):=
 evT ZEX rfl rfl <| yC ZbW fun x0 _=>
  yB (yC ZbW fun x1 _=>
  yBr yR)
  yR
theorem Zql {t0 t1:Bool}{a b:Za}:∀r,(ZhM a b)=some r->evD ctx 65 [(.d (zK4 t0 a.ring a.top a.bottom)),(.d (zK4 t1 b.ring b.top b.bottom))]=some (Zp r):=
 evT ZF7 rfl rfl <| yC ZbW fun x0 _=>
  yB (yB (yBr yR)
  yR)
  yR
def Zjl (t0 t1 t2 t3 t4 t5 t6:Bool) (t7:Bool) (t8:Bool) (t9:Bool) (a:Zu) (b:Zu):(Unit⊕Unit)->Ex×List V×Zi
  | (.inl r)=>(.ret,[(.ptr 0 0),(.ptr 1 0),(.d (D.bool false))],[(zK2 t0 a.crew.on t1 a.crew.left t2 a.deques t3 a.takers t4 a.from_),(zK2 t5 b.crew.on t6 b.crew.left t7 b.deques t8 b.takers t9 b.from_)])
  | (.inr r)=>(.exit 0,[(.ptr 0 0),(.ptr 1 0),.bad],[(zK2 t0 a.crew.on t1 a.crew.left t2 a.deques t3 a.takers t4 a.from_),(zK2 t5 b.crew.on t6 b.crew.left t7 b.deques t8 b.takers t9 b.from_)])
theorem ZnX {t0 t1:Bool}{t2 t3:Bool}{t4 t5:Bool}{t6 t7:Bool}{t8 t9:Bool}{a b:Zu}:∀s2 r,lp (Zfk a b) s2=some r->lpW ctx 0 [2,3,5] [2,3,4] ZA3 [(.ptr 0 0),(.ptr 1 0),(zN s2)] [(zK2 t0 a.crew.on t1 a.crew.left t2 a.deques t3 a.takers t4 a.from_),(zK2 t5 b.crew.on t6 b.crew.left t7 b.deques t8 b.takers t9 b.from_)]=some ((Zjl t0 t1 t2 t3 t4 t5 t6 t7 t8 t9 a b) r):=
 lpT (Zjl t0 t1 t2 t3 t4 t5 t6 t7 t8 t9 a b) fun s2 _ ih=>Zd (Zk _ _) (yB (yG fun x3 _=>
  yG fun x4 _=>
  yC Zql fun x5 _=>
  yB (Ze (ih _))
  (Zf rfl))
  (Zf rfl))
def Zjf (t0 t1 t2 t3 t4 t5 t6:Bool) (t7:Bool) (t8:Bool) (t9:Bool) (a:Zu) (b:Zu):(Unit⊕Unit)->Ex×List V×Zi
  | (.inl r)=>(.ret,[(.d (D.bool false))],[])
  | (.inr r)=>(.exit 2,[.bad],[])
theorem ZnF {t0 t1:Bool}{t2 t3:Bool}{t4 t5:Bool}{t6 t7:Bool}{t8 t9:Bool}{a b:Zu}:∀s7 r,lp (Zfs a b) s7=some r->lpW ctx 0 [2,3,6] [4] Zz9 [(.ptr 0 0),(.ptr 1 0),(zN s7)] [(zK2 t0 a.crew.on t1 a.crew.left t2 a.deques t3 a.takers t4 a.from_),(zK2 t5 b.crew.on t6 b.crew.left t7 b.deques t8 b.takers t9 b.from_)]=some ((Zjf t0 t1 t2 t3 t4 t5 t6 t7 t8 t9 a b) r):=
 lpT (Zjf t0 t1 t2 t3 t4 t5 t6 t7 t8 t9 a b) fun s7 _ ih=>Zd (Zk _ _) (yB (yG fun x8 _=>
  yG fun x9 _=>
  yB (Zf rfl)
  (Ze (ih _)))
  (Zf rfl))
theorem Zll {t0 t1:Bool}{t2 t3:Bool}{t4 t5:Bool}{t6 t7:Bool}{t8 t9:Bool}{a b:Zu}:∀r,(Ze1 a b)=some r->evD ctx 38 [(.d (zK3 t0 a.crew.on t1 a.crew.left t2 a.deques t3 a.takers t4 a.from_)),(.d (zK3 t5 b.crew.on t6 b.crew.left t7 b.deques t8 b.takers t9 b.from_))]=some (Zp r):=
 evT ZEs rfl rfl <| yC Zqr fun x0 _=>
  yB (Zd (Zk _ _) (Zd (Zk _ _) (yBr (Zd (Zk _ _) (Zd (Zk _ _) (yBr (yC ZbW fun x1 _=>
  yB ((by
 conv=>rhs;whnf
 refine Zg _ (ZnX _) fun r6 _=>?_
 rcases r6 with r6 | r6
 exact yR
 exact(by
 conv=>rhs;whnf
 refine Zg _ (ZnF _) fun r10 _=>?_
 rcases r10 with r10 | r10
 exact yR
 exact yR)))
  yR)))))))
  yR
theorem Zqg {t0 t1:Bool}{t2 t3:Bool}{t4 t5:Bool}{t6 t7:Bool}{t8 t9:Bool}{t10 t11:Bool}{a b:ZW}:∀r,(ZhV a b)=some r->evD ctx 15 [(.d (D.agg [(D.bool a.stealing),(zL t0 a.demand),(Zs a.state),(zL t1 a.gang.crew.on),(zL t2 a.gang.crew.left),(zM t3 Zy a.gang.deques),(zM t4 ZD a.gang.takers),(zL t5 a.gang.from_)])),(.d (D.agg [(D.bool b.stealing),(zL t6 b.demand),(Zs b.state),(zL t7 b.gang.crew.on),(zL t8 b.gang.crew.left),(zM t9 Zy b.gang.deques),(zM t10 ZD b.gang.takers),(zL t11 b.gang.from_)]))]=some (Zp r):=
 evT ZFI rfl rfl <| yB (yB (yT (yC ZbW fun x0 _=>
  yB (yB (yC Zll fun x1 _=>
  yBr yR)
  yR)
  yR))
  (yF yR))
  (yB (yF yR)
  (yT (yC ZbW fun x2 _=>
  yB (yB (yC Zll fun x3 _=>
  yBr yR)
  yR)
  yR)))
theorem ZmY {t0 t1:Bool}{t2 t3:Bool}{a:Zj}{b:List Int}{c:Int}{d:Bool}{e:List Int}:∀r,(Zgt a b c d e)=some r->evD ctx 4 [(.d (zK1 t0 a.work t1 a.edges)),(zV t2 b),(zN c),(.d (D.bool d)),(zV t3 e)]=some (Zp r):=
 evT fn4 rfl rfl <| yC Ze6 fun x0 _=>
  yB (yC ZoD fun x1 _=>
  yB (Zd (Zk _ _) (yB (yC Ze6 fun x2 _=>
  yBr yR)
  (Zg _ ZiC fun x3 _=>
  Zg _ Zho fun x4 _=>
  Zg _ Zho fun x5 _=>
  yC ZsT fun x6 _=>
  yC Zsm fun x7 _=>
  Zg _ ZiC fun x8 _=>
  Zg _ Zho fun x9 _=>
  yC Zna fun x10 _=>
  yC Zl8 fun x11 _=>
  yC ZlG fun x12 _=>
  yB (yB (yB (yC Zqg fun x13 _=>
  yB (yBr yR)
  yR)
  yR)
  yR)
  yR)))
  (yC Ze6 fun x14 _=>
  yBr yR))
  (yC Ze6 fun x15 _=>
  yBr yR)
abbrev ZBl:List Lf×Bool:=([.int .i64],false)
abbrev ZCA:List Lf×Bool:=([.bool],false)
abbrev Znd:List Lf×Bool:=([.sl false [.int .i64]],false)
abbrev ZvG:List Lf×Bool:=([.sl false [.int .i64],.sl true [.int .i64,.int .i64]],true)
open List (length_replicate)
theorem Zuk (g:Zj) (dem:List Int) (c:Int) (d:Bool) (picks:List Int):Zgt g dem c d picks=some true:=by
 unfold Zgt
 simp only[Zen,bS,cT]
 obtain⟨b,hb,hb2⟩:=Zuv g dem
 rw[hb,bS]
 cases b with
 | false=>rfl
 | true=>
 obtain⟨hf,hl,hsum⟩:=hb2 rfl
 obtain⟨hw,he,hsh⟩:=ZuE hf
 rw[cT]
 by_cases hp:600<(picks.length:Int)
 ·rw[dT hp];rfl
 rw[dF hp,cF]
 simp only[ZzC hf,ZqU (show dem.length<=100000 by omega),ZqU (show picks.length<=100000 by omega),bS]
 by_cases h1:Zhv g dem c=0
 ·have hin:=ZvA.1 h1
  have hns:=ZAr hin.dl
  have hs:=hsum hin.ck
  have hnl:=hin.need.nl
  have hwl:=(ZT hin.ck).1.wl
  have c8:=hin.c8
  obtain⟨t,left,e1,e2,e3,e4⟩:=ZvC (picks:=picks) hin (by omega) (by omega) d
  obtain⟨ds,ts,fs,n1,n2,_,_,hd8,ht8,hf8,hr64⟩:=ZtG hin d
  have hself:=Zsk (on:=List.replicate c.toNat (-1)) (left:=Zap g dem) (ds:=ds) (ts:=ts) (fs:=fs) (by rw[length_replicate];omega) (by omega) (by omega) (by omega) (by omega) (fun x hx=>by have:=hr64 x hx;omega)
  rw[e1,bS,e2,bS,n1,bS,n2,bS]
  dsimp only
  rw[ZpZ e3 e4,bS,cT,beq_self_eq_true,cT,beq_self_eq_true,cT,Zq2 (by omega) hself,bS,cT]
  rfl
 ·rw[Zuq hsh hl h1,bS,ZsI hsh hl h1,bS,Zop hsh hl h1,bS,Znb hsh hl h1,bS]
  dsimp only
  rw[ZpZ (by simp) (by simp),bS,cT,beq_self_eq_true,cT,beq_self_eq_true,cT]
  unfold ZzN
  rw[Zq2 (by simp) (Zsk (by simp) (by simp) (by simp) (by simp) (by simp) (by simp)),bS,cT]
  rfl
theorem Zvw (xs:List D) (h:Ze8 ZvG.1 xs) (ys:List D) (k:Ze8 Znd.1 ys) (zs:List D) (m:Ze8 ZBl.1 zs) (us:List D) (o:Ze8 ZCA.1 us) (vs:List D) (n:Ze8 Znd.1 vs) :
  ∃H',evW ctx 4 (ZbM [ZkF ZvG.2 xs,ZkF Znd.2 ys,ZkF ZBl.2 zs,ZkF ZCA.2 us,ZkF Znd.2 vs]) []=some (.d (.bool true),H'):=by
 obtain⟨d0,e0,_⟩:=Zzs h
 obtain⟨d1,e1,_⟩:=ZrB k
 obtain⟨d2,e2,_⟩:=ZFi m
 obtain⟨d3,e3⟩:=ZDj o
 obtain⟨d4,e4,_⟩:=ZrB n
 show ∃H',evW ctx 4 [.d (D.agg xs),.d (ZkF false ys),.d (ZkF false zs),.d (ZkF false us),.d (ZkF false vs)] []=_
 rw[e0,e1,e2,e3,e4]
 exact ZCO (ZmY true (Zuk d0 d1 d2 d3 d4))
open Go Go.Proofs Go.Proofs.YtgcfmiajkbbmeaaGreatE
open Nat (zero_add)
theorem ZDa:((begin Tryz.prog (fun _ _=>0) default).world.heap[1]?).bind Obj.row? = some (Array.replicate 64 (.int .u8 0),226):=by kernel_rfl
theorem Zyx:Tryz.prog.cellTypes Tryz.prog.depth 226=some (List.replicate 64 5):=by kernel_rfl
def Zre (cs:Array Value) (i:Nat):Int:=match cs[i]? with | some (.int _ m)=>m | _=>0
def Zpd (cs:Array Value):List (IntKind×Int):=(List.range 64).map fun i=>(.u8,Zre cs i)
theorem ZwO {W:World} (h:W.ShapedOpen Tryz.prog):∃G:Z1,Zrl G/\GOK G R0 W:=by
 obtain⟨cs,h1,h2,h3⟩:=h.1 1 _ 226 (of_decide_eq_true (by kernel_rfl)) ZDa
 obtain⟨ts,t1,_,t2⟩:=h3 (by kernel_rfl)
 rw[Zyx] at t1
 have hts:ts=List.replicate 64 5:=(Option.some.inj t1).symm
 subst hts
 have hsz:cs.size=64:=by rw[h2];simp
 have cell:∀i,i<64->cs[i]? = some (.int .u8 (Zre cs i)):=fun i hi=>by
  have hi2:i<cs.size:=by omega
  obtain⟨u,hu,hok⟩:=t2 i cs[i] (by simp[hi2])
  have hu5:u=5:=(List.mem_replicate.1 (mG hu)).2
  subst hu5
  unfold Cell.ok at hok
  rw[Tryz.underlying5] at hok
  have hg:cs[i]? = some cs[i]:=by simp[hi2]
  unfold Zre
  rw[hg]
  cases hv:cs[i]<;>rw[hv] at hok<;>simp at hok
  case int k n=>rw[hok.1]
 refine⟨fun g=>if g=1 then some (Zpd cs) else none,⟨Zpd cs,by simp,by simp[Zpd],fun x hx=>?_⟩,fun g l hg=>?_⟩
 ·obtain⟨i,_,rfl⟩:=List.mem_map.1 hx
  rfl
 ·by_cases hg1:g=1
  ·subst hg1
   simp only[if_true] at hg
   cases hg
   refine ZE2 ⟨1,0,rfl,trivial,(Array.getElem?_eq_some_iff.1 h1).1,Zhj _ _ fun j x hj=>?_⟩
   rw[Zw2,List.getElem?_map] at hj
   have hj64:j<64:=by
    refine Classical.byContradiction fun hn=>?_
    rw[List.getElem?_eq_none (by simp[Zpd];omega)] at hj
    cases hj
   have hr:(Zpd cs)[j]? = some (.u8,Zre cs j):=by simp[Zpd,hj64]
   rw[hr] at hj
   cases hj
   refine⟨.int .u8 (Zre cs j),?_,rfl⟩
   simp only[World.cell?,h1,zero_add]
   simpa using cell j hj64
  ·dsimp only at hg
   rw[if_neg hg1] at hg
   cases hg
end Go.Proofs.YtgcfmiajkbbmeaaGreat
namespace Go.Proofs.YtgcfmiajkbbmeaaGreat.LawTeamRuns
open Go.ChangeShapes Go.WideShapes Go.ChangeAt Go.RowKit Go.Proofs.YtgcfmiajkbbmeaaGreatE
theorem own:ownKnob Tryz.prog.godebug=none:=by kernel_rfl
theorem ZoM:laidOutB Tryz.prog=true:=by kernel_rfl
theorem ZFr (os:Os) (started:os.Started) (H:Type) (enc:TypeId×Value->H) :
  ReturnsInHanded {} Tryz.checked os 4 .any (Rows.teamRunsSpec.pre6 enc Tryz.prog Tryz.f4 Rows.teamRunsRow.domain false) (Rows.teamRunsSpec.post enc Tryz.prog Tryz.f4 false true false false):=by
 refine returnsInHanded_of_change_shaped (C:=Tryz.checked) own started (by kernel_rfl) Tryz.func4
  (ChangeSpec.witness6 (enc:=enc) (C:=Tryz.checked) false ⟨#[],#[.agg #[.slice none 0 0,.slice none 0 0],.slice none 0 0,.int .i64 0,.bool false,.slice none 0 0],[]⟩ 8 (by kernel_rfl) (by kernel_rfl) (by kernel_rfl) (by kernel_rfl)) ?_
 intro W base args ds gs before hval0 hW _ _ hSh _
 obtain⟨G,hG,hgt⟩:=ZwO hSh
 have hval:∀(j:Nat) t v,Tryz.f4.params[j]? = some t->args[j]? = some v->Value.okWide Tryz.prog W .any base t v:=hval0
 have hW':=hW
 obtain⟨p,q,hA0,hV,rfl,hfz,hnd⟩:=hW
 have hA:DataW.TrodAll enc Tryz.prog W 0 (fun _=>true) true Tryz.f4.params.toList args.toList ds p:=hA0
 rw[Tryz.params4] at hA hval
 obtain⟨v0,vs0,d0,ds0,p0,q0,hargs,rfl,rfl,h0,r0⟩:=trodAll_cons hA
 obtain⟨v1,vs1,d1,ds1,p1,q1,rfl,rfl,rfl,h1,r1⟩:=trodAll_cons r0
 obtain⟨v2,vs2,d2,ds2,p2,q2,rfl,rfl,rfl,h2,r2⟩:=trodAll_cons r1
 obtain⟨v3,vs3,d3,ds3,p3,q3,rfl,rfl,rfl,h3,r3⟩:=trodAll_cons r2
 obtain⟨v4,vs4,d4,ds4,p4,q4,rfl,rfl,rfl,h4,r4⟩:=trodAll_cons r3
 obtain⟨rfl,rfl,rfl⟩:=trodAll_nil r4
 obtain rfl:args = #[v0,v1,v2,v3,v4]:=by cases args;simp_all
 obtain⟨rfl,rfl⟩:=trodVars_none hV
 have lt0:∀x∈p0,x.block<W.heap.size:=by obtain⟨m,hm⟩:=h0;exact DataW.trod_lt m _ _ _ hm
 obtain⟨x0,ok0,den0⟩:=Zrs (P:=Tryz.prog) (n:=8) (t:=25) (l:=ZvG.1) (ag:=ZvG.2) (by kernel_rfl) (hval 0 25 v0 rfl rfl) h0
 have lt1:∀x∈p1,x.block<W.heap.size:=by obtain⟨m,hm⟩:=h1;exact DataW.trod_lt m _ _ _ hm
 obtain⟨x1,ok1,den1⟩:=Zrs (P:=Tryz.prog) (n:=8) (t:=22) (l:=Znd.1) (ag:=Znd.2) (by kernel_rfl) (hval 1 22 v1 rfl rfl) h1
 have lt2:∀x∈p2,x.block<W.heap.size:=by obtain⟨m,hm⟩:=h2;exact DataW.trod_lt m _ _ _ hm
 obtain⟨x2,ok2,den2⟩:=Zrs (P:=Tryz.prog) (n:=8) (t:=3) (l:=ZBl.1) (ag:=ZBl.2) (by kernel_rfl) (hval 2 3 v2 rfl rfl) h2
 have lt3:∀x∈p3,x.block<W.heap.size:=by obtain⟨m,hm⟩:=h3;exact DataW.trod_lt m _ _ _ hm
 obtain⟨x3,ok3,den3⟩:=Zrs (P:=Tryz.prog) (n:=8) (t:=4) (l:=ZCA.1) (ag:=ZCA.2) (by kernel_rfl) (hval 3 4 v3 rfl rfl) h3
 have lt4:∀x∈p4,x.block<W.heap.size:=by obtain⟨m,hm⟩:=h4;exact DataW.trod_lt m _ _ _ hm
 obtain⟨x4,ok4,den4⟩:=Zrs (P:=Tryz.prog) (n:=8) (t:=22) (l:=Znd.1) (ag:=Znd.2) (by kernel_rfl) (hval 4 22 v4 rfl rfl) h4
 obtain⟨H1,ev⟩:=Zvw x0 ok0 x1 ok1 x2 ok2 x3 ok3 x4 ok4
 have den:Z6 All All All W [ZkF ZvG.2 x0,ZkF Znd.2 x1,ZkF ZBl.2 x2,ZkF ZCA.2 x3,ZkF Znd.2 x4] [v0,v1,v2,v3,v4]:=⟨_,_,rfl,den0,⟨_,_,rfl,den1,⟨_,_,rfl,den2,⟨_,_,rfl,den3,⟨_,_,rfl,den4,rfl⟩⟩⟩⟩⟩
 refine(Zzl (ZHc G hG) hgt den ev).mono fun e W' ⟨he,bel⟩=>?_
 subst he
 exact⟨_,rfl,_,_,_,[],_,[],hW',trodAll_mk1 (shut_bool Tryz.underlying4 _),(trodAll_cons_mk (Below.trod ZoM (by kernel_rfl) (of_decide_eq_true (by kernel_rfl)) h0 bel lt0) (trodAll_cons_mk (Below.trod ZoM (by kernel_rfl) (of_decide_eq_true (by kernel_rfl)) h1 bel lt1) (trodAll_cons_mk (Below.trod ZoM (by kernel_rfl) (of_decide_eq_true (by kernel_rfl)) h2 bel lt2) (trodAll_cons_mk (Below.trod ZoM (by kernel_rfl) (of_decide_eq_true (by kernel_rfl)) h3 bel lt3) (trodAll_cons_mk (Below.trod ZoM (by kernel_rfl) (of_decide_eq_true (by kernel_rfl)) h4 bel lt4) trodAll_mk0))))),rfl,bel.frame _,fun h=>by cases h⟩
theorem over:Rows.teamRunsRow.holds Tryz.pinned (OpenSpec.ofChange Rows.teamRunsSpec):=
 OpenClaim.holds_of_wide 4 Tryz.f4 rfl rfl rfl rfl rfl rfl rfl ⟨rfl,rfl,rfl,rfl,rfl⟩ rfl rfl rfl rfl rfl (by kernel_rfl) Tryz.func4 (by kernel_rfl)
  (of_decide_eq_true (by kernel_rfl)) (by unfold Func.isWrapper;first | (rw[if_pos (by decide +kernel)];kernel_rfl) | (rw[if_neg (by decide +kernel)];exact⟨rfl,rfl⟩))
  (fun os started H enc _=>ZFr os started H enc)
theorem proved:Rows.TeamRunsSaid:=over
end Go.Proofs.YtgcfmiajkbbmeaaGreat.LawTeamRuns
namespace Go.Proofs.YtgcfmiajkbbmeaaGreat
theorem teamRuns_holds:Rows.TeamRunsSaid:=LawTeamRuns.proved
#print axioms teamRuns_holds
end Go.Proofs.YtgcfmiajkbbmeaaGreat
