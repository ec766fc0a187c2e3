/- TeamBound: part 5 of 5 of the proof: the row and the card of the law, out of what the evaluator says of it; without conditions. -/
import Derived.Test.YtgcfmiajkbbmeaaGreatZTeamBoundd
import Derived.KernelRfl
import Derived.HandedShaped
import Derived.Test.YtgcfmiajkbbmeaaGreatRows
import Derived.WalkKit
import Derived.ProofKit
import Derived.OpenShut
import Derived.ShutString
import Derived.ChangeOld
import Derived.Below
import Derived.SizedLaws
import Derived.Handed
import Derived.LaidMore
import Derived.Stop.Joined
import Derived.ChangeShapes
import Derived.Carry
set_option maxRecDepth 100000
set_option maxHeartbeats 40000000
set_option linter.unusedVariables false
set_option linter.unusedSimpArgs false
namespace Go.Proofs.YtgcfmiajkbbmeaaGreat
open Go Go.Proofs.YtgcfmiajkbbmeaaGreatE
open Go.IntKind (u64 i64 u32 i32 u8)
section
variable {α β:Type} {A B:Option α} {Q:α→Option β→Prop}
theorem yB {c:Bool}{X Y:Option β} (h1:ZbD A Q X) (h2:ZbD B Q Y):ZbD (bif c then A else B) Q (br c X Y):=ZaJ rfl h1 h2
theorem yBn {c:Bool}{X Y:Option β} (h2:ZbD B Q Y):ZbD (bif c then none else B) Q (br c X Y):=ZaJ rfl Z3 h2
theorem yBm {c:Bool}{X Y:Option β} (h1:ZbD A Q X):ZbD (bif c then A else none) Q (br c X Y):=ZaJ rfl h1 Z3
theorem yT {X Y:Option β} (h1:ZbD A Q X):ZbD A Q (br true X Y):=Zlf rfl h1
theorem yF {X Y:Option β} (h1:ZbD A Q Y):ZbD A Q (br false X Y):=ZBM rfl h1
theorem yG {γ:Type}{f:γ→D}{l:List γ}{i:Int}{A:γ→Option α}{K:D→Option β} (k:∀r,ZK l i=some r→ZbD (A r) Q (K (f r))):ZbD ((ZK l i).bind A) Q (bnd (ZK (l.map f) i) K):=Zya rfl rfl k
theorem yC {γ:Type}{Γ:Ctx}{f:Nat}{args:List V}{E:Option γ}{A:γ→Option α}{K:V→Option β}{enc:γ→D} (w:∀r,E=some r→evD Γ f args=some (enc r)) (k:∀r,E=some r→ZbD (A r) Q (Zuo (enc r) K)):ZbD (E.bind A) Q (bnd (evW Γ f args []) (Zmw K)):=ZwZ enc w rfl k
theorem Zxr {γ:Type}{x:γ}{A:γ→Option α}{X:Option β} (k:ZbD (A x) Q X):ZbD ((some x).bind A) Q X:=k
theorem yR {a:α}{f:α→Option β}:ZbD (some a) (fun r rhs=>rhs=f r) (f a):=Zp rfl
theorem yBr {a:α}{c:Bool}{f:α→Option β}{Y:Option β} (h2:ZbD B (fun r rhs=>rhs=f r) Y):ZbD (bif c then some a else B) (fun r rhs=>rhs=f r) (br c (f a) Y):=yB yR h2
theorem evT {Γ : Ctx} {f : Nat} (fn : FnI) {args : List V} {E : Option α} {enc : α → D} (hc : Γ.code f = some fn) (hn : Nat.beq args.length fn.nargs = true) (h : ZbD E (fun r rhs => rhs = some (enc r)) (ZfA Γ 0 fn.body (Zbe 0 args) [] fun x e H1 => (match x with
      | .exit _=>none
      | _=>(match Zhv e H1 fn.res with
        | some l=>Zda 0 [Zem l] H1 fun _ vs H2=>(match vs with | [v]=>(match fr H2 6 v with | some (x,_)=>some x | none=>none) | _=>none)
        | none=>none)))):∀r,E=some r→evD Γ f args=some (enc r):=by rw[ZBx Γ f fn args hc hn];exact h
theorem evS {Γ : Ctx} {f : Nat} (fn : FnI) {args : List V} {H : Zd} {E : Option α} {enc : α → V × Zd} (hc : Γ.code f = some fn) (hn : Nat.beq args.length fn.nargs = true) (h : ZbD E (fun r rhs => rhs = some (enc r)) (ZfA Γ H.length fn.body (Zbe 0 args) H fun x e H1 => (match x with
      | .exit _=>none
      | _=>(match Zhv e H1 fn.res with
        | some l=>Zda H.length [Zem l] H1 fun _ vs H2=>(match vs with | [v]=>some (v,H2) | _=>none)
        | none=>none)))):∀r,E=some r→evW Γ f args H=some (enc r):=by rw[Zzc Γ f fn args H hc hn];exact h
theorem lpT {S R:Type}{step:S→Option (S⊕R)}{Γ:Ctx}{k:Nat}{live outs:List Nat}{b:C}{vs:S→List V}{H:S→Zd} (x:R→Ex×List V×Zd)
    (h:∀(s:S) (rec:S→Option R),(∀s r,rec s=some r→lpW Γ k live outs b (vs s) (H s)=some (x r))→ZbD (step s) (fun t rhs=>(match t with | .inl s'=>∀r,rec s'=some r→rhs=some (x r) | .inr r=>rhs=some (x r))) (ZfA Γ k b (ZbX live (vs s)) (H s) fun x e H=>(match x with
      | .normal=>ZmB k (live.map e) H fun vs H=>bnd (lpW Γ k live outs b vs H) some
      | x=>Zda k (outs.map e) H fun _ vs H=>some (x,vs,H)))):∀s r,lp step s=some r→lpW Γ k live outs b (vs s) (H s)=some (x r):=
  ZBg (G:=fun s=>lpW Γ k live outs b (vs s) (H s)) x fun s rec ih=>by rw[ZBO];exact h s rec ih
end
theorem ZdU:∀r,Zdl=some r→evD ctx 9 []=some (D.bool r):=fun r h=>by
  cases h
  exact ZAi 100 (by kernel_rfl)
def ZpA (r:Bool):D:=(D.bool r)
theorem ZnS {t0 t1:Bool}{a:Zi}:∀r,(ZgI a)=some r→evD ctx 34 [(.d (D.agg [(zL t0 a.work),(D.list t1 (List.map Zs a.edges))]))]=some (ZpA r):=
 evT ZzF rfl rfl <| Zf (Zr _ _) (yB (Zf (Zr _ _) (yBr yR))
  yR)
def Zpt (t0:Bool) (t1:Bool) (a:Zi):Unit→V×Zd
  | r=>((.agg [(.sl 0 1),(.sl 1 2)]),[(.arr 1 (List.map Za a.work)),(.arr 2 (List.map Zs a.edges))])
theorem ZdG {t0 t1:Bool}{a:Zi}:∀r,(ZcW a)=some r→evW ctx 12 [(.d (D.agg [(zL t0 a.work),(D.list t1 (List.map Zs a.edges))]))] []=some ((Zpt t0 t1 a) r):=
 evS ZzL rfl rfl <| Zlf (Zgv (f:=Za) (fun _=>⟨rfl,rfl⟩) a.work 0) (ZaJ (ZhU Za a.work) (Zf (rfl:_=List.map Za a.work) (Zlf (Zgv (f:=Zs) (fun _=>⟨rfl,rfl⟩) a.edges 0) (ZaJ (ZhU Zs a.edges) (Zf (rfl:_=List.map Zs a.edges) yR)
  Z3)))
  Z3)
def ZnG (t0:Bool) (a:List Int):Unit→V×Zd
  | r=>((.sl 0 1),[(.arr 1 (List.map Za a))])
theorem ZfE {t0:Bool}{a:List Int}:∀r,(ZdM a)=some r→evW ctx 14 [(.d (zL t0 a))] []=some ((ZnG t0 a) r):=
 evS ZAx rfl rfl <| Zlf (Zgv (f:=Za) (fun _=>⟨rfl,rfl⟩) a 0) (ZaJ (ZhU Za a) (Zf (rfl:_=List.map Za a) yR)
  Z3)
def Zm3 (r:Bool):D:=(D.bool r)
theorem Zl2 {a:Int}:∀r,(ZbA a)=some r→evD ctx 67 [(.d (Za a))]=some (Zm3 r):=
 evT ZzJ rfl rfl <| yBr (yBr yR)
def ZcT (r:Int):D:=(Za r)
def Zas (t0:Bool) (a:List Int):(Int⊕Unit)→Ex×List V×Zd
  | (.inl r)=>(.ret,[(.d (Za r))],[])
  | (.inr r)=>(.exit 0,[.bad],[])
theorem Zcd {t0:Bool}{a:List Int}:∀(s0:Int) (r:(Int⊕Unit)),lp (Zv a (fun z0=>ZbA z0)) s0=some r→lpW ctx 0 [0,1,7,8] [4] ZlT [(.d (zL t0 a)),(.d (D.fn 67 [])),(.d (Za (a.length:Int))),(.d (Za s0))] []=some ((Zas t0 a) r):=
 lpT (Zas t0 a) fun s0 _ ih=>yB (yG fun x1 _=>
  yC Zl2 fun x2 _=>
  yB (Zp rfl)
  (Zm (ih _)))
  (Zp rfl)
theorem ZcO {t0:Bool}{a:List Int}:∀r,(ZB a (fun z0=>ZbA z0))=some r→evD ctx 99 [(.d (zL t0 a)),(.d (D.fn 67 []))]=some (ZcT r):=
 evT ZsA rfl rfl <| Zf (Zr _ _) (by
 conv=>rhs;whnf
 refine Ze _ (Zcd _) fun r3 _=>?_
 rcases r3 with r3 | r3
 exact yR
 exact yR)
def Zcs (r:Bool):D:=(D.bool r)
theorem Zce {t0:Bool}{a:List Int}:∀r,(Zw a (fun z0=>ZbA z0))=some r→evD ctx 66 [(.d (zL t0 a)),(.d (D.fn 67 []))]=some (Zcs r):=
 evT ZuV rfl rfl <| yC ZcO fun x0 _=>
  yBr yR
def Zm8 (r:Bool):D:=(D.bool r)
theorem Zht {t0 t1:Bool}{a:Int}{b0:List Int}{b1:List Zt}:∀r,(Zd5 a b0)=some r→evD ctx 68 [(.d (Za a)),(.d (D.rptr [(zL t0 b0),(D.list t1 (List.map Zs b1))]))]=some (Zm8 r):=
 evT Zzm rfl rfl <| yB (Zf (Zr _ _) (yBr yR))
  yR
def ZfH (r:Int):D:=(Za r)
def Zcv (t0:Bool) (a:List Zt) (b:Zt):(Int⊕Unit)→Ex×List V×Zd
  | (.inl r)=>(.ret,[(.d (Za r))],[])
  | (.inr r)=>(.exit 0,[.bad],[])
theorem ZeA {t0:Bool}{a:List Zt}{b:Zt}:∀(s0:Int) (r:(Int⊕Unit)),lp (Zan a b) s0=some r→lpW ctx 0 [0,3,7,8] [4] ZtR [(.d (D.list t0 (List.map Zs a))),(.ptr 0 0),(.d (Za (a.length:Int))),(.d (Za s0))] [(.cells [(.d (Za b.src)),(.d (Za b.dst))])]=some ((Zcv t0 a b) r):=
 lpT (Zcv t0 a b) fun s0 _ ih=>yB (yG fun x1 _=>
  yB (Zp rfl)
  (Zm (ih _)))
  (Zp rfl)
theorem Zfx {t0:Bool}{a:List Zt}{b:Zt}:∀r,(ZbE a b)=some r→evD ctx 100 [(.d (D.list t0 (List.map Zs a))),(.d (D.agg [(Za b.src),(Za b.dst)]))]=some (ZfH r):=
 evT Zxv rfl rfl <| Zf (Zr _ _) (by
 conv=>rhs;whnf
 refine Ze _ (ZeA _) fun r2 _=>?_
 rcases r2 with r2 | r2
 exact yR
 exact yR)
def ZeQ (r:Bool):D:=(D.bool r)
theorem ZeB {t0:Bool}{a:List Zt}{b:Zt}:∀r,(Zaq a b)=some r→evD ctx 69 [(.d (D.list t0 (List.map Zs a))),(.d (D.agg [(Za b.src),(Za b.dst)]))]=some (ZeQ r):=
 evT ZAo rfl rfl <| yC Zfx fun x0 _=>
  yBr yR
def Zpd (r:((List Int)×Bool)):D:=(D.tup [(zL true r.1),(D.bool r.2)])
def ZhV (t0:Bool) (t1:Bool) (a:Zi) (s0:(List Int)×(List Bool)) (s1:Int):(Unit⊕Unit)→Ex×List V×Zd
  | (.inl r)=>(.exit 3,[(.ptr 0 0),(.sl 1 1),(.sl 2 1),(.d (Za s1)),(.d (Za (a.work.length:Int))),(.d (Za s1))],[(.cells [(.d (zL t0 a.work)),(.d (D.list t1 (List.map Zs a.edges)))]),(.arr 1 (List.map Za s0.1)),(.arr 1 (List.map D.bool s0.2))])
  | (.inr r)=>(.exit 4,[(.ptr 0 0),(.sl 1 1),(.sl 2 1),(.d (Za s1)),(.d (Za (a.work.length:Int))),(.d (Za s1))],[(.cells [(.d (zL t0 a.work)),(.d (D.list t1 (List.map Zs a.edges)))]),(.arr 1 (List.map Za s0.1)),(.arr 1 (List.map D.bool s0.2))])
theorem Zlb {t0 t1:Bool}{a:Zi}{s0:(List Int)×(List Bool)}{s1:Int}:∀(s3:Int) (r:(Unit⊕Unit)),lp (ZdI a s0 s1) s3=some r→lpW ctx 0 [1,4,5,6,21,22,30,31,32] [1,4,5,6,21,22] Zv1 [(.ptr 0 0),(.sl 1 1),(.sl 2 1),(.d (Za s1)),(.d (Za (a.work.length:Int))),(.d (Za s1)),(.d (D.list t1 (List.map Zs a.edges))),(.d (Za (a.edges.length:Int))),(.d (Za s3))] [(.cells [(.d (zL t0 a.work)),(.d (D.list t1 (List.map Zs a.edges)))]),(.arr 1 (List.map Za s0.1)),(.arr 1 (List.map D.bool s0.2))]=some ((ZhV t0 t1 a s0 s1) r):=
 lpT (ZhV t0 t1 a s0 s1) fun s3 _ ih=>yB (yG fun x4 _=>
  yB (yG fun x5 hx5=>
  Zq (Z1 rfl hx5) (yB (Zm (ih _))
  (Zp rfl)))
  (Zm (ih _)))
  (Zp rfl)
def ZhM (t0:Bool) (t1:Bool) (a:Zi) (s0:(List Int)×(List Bool)):(((List Int)×(List Bool))⊕Unit)→Ex×List V×Zd
  | (.inl r)=>(.exit 1,[(.ptr 0 0),(.sl 1 1),(.sl 2 1)],[(.cells [(.d (zL t0 a.work)),(.d (D.list t1 (List.map Zs a.edges)))]),(.arr 1 (List.map Za r.1)),(.arr 1 (List.map D.bool r.2))])
  | (.inr r)=>(.exit 2,[(.ptr 0 0),(.sl 1 1),(.sl 2 1)],[(.cells [(.d (zL t0 a.work)),(.d (D.list t1 (List.map Zs a.edges)))]),(.arr 1 (List.map Za s0.1)),(.arr 1 (List.map D.bool s0.2))])
theorem Zlk {t0 t1:Bool}{a:Zi}{s0:(List Int)×(List Bool)}:∀(s1:Int) (r:(((List Int)×(List Bool))⊕Unit)),lp (ZcA a s0) s1=some r→lpW ctx 0 [1,4,5,21,22] [1,4,5] Zxb [(.ptr 0 0),(.sl 1 1),(.sl 2 1),(.d (Za (a.work.length:Int))),(.d (Za s1))] [(.cells [(.d (zL t0 a.work)),(.d (D.list t1 (List.map Zs a.edges)))]),(.arr 1 (List.map Za s0.1)),(.arr 1 (List.map D.bool s0.2))]=some ((ZhM t0 t1 a s0) r):=
 lpT (ZhM t0 t1 a s0) fun s1 _ ih=>yB (yG fun x2 hx2=>
  Zq (Z1 rfl hx2) (yB (Zm (ih _))
  (Zf (Zr _ _) (by
 conv=>rhs;whnf
 refine Ze _ (Zlb _) fun r6 _=>?_
 rcases r6 with r6 | r6
 exact Zm (ih _)
 exact Zq (ZdK rfl hx2) (Zq (Z1 rfl hx2) (Zf (Zbp D.bool s0.2 s1.toNat true) (yT (ZaJ (Zeg Za s0.1 1) (Zf (Zee Za s0.1 [s1]) (Zp rfl))
  Z3))))))))
  (Zp rfl)
def Zhp (t0:Bool) (t1:Bool) (a:Zi):((List Int)⊕(List Int))→Ex×List V×Zd
  | (.inl r)=>(.ret,[(.nilsl 1),(.d (D.bool false)),(.sl 0 1)],[(.arr 1 (List.map Za r))])
  | (.inr r)=>(.exit 0,[.bad,.bad,(.sl 0 1)],[(.arr 1 (List.map Za r))])
theorem ZlA {t0 t1:Bool}{a:Zi}:∀(s0:(List Int)×(List Bool)) (r:((List Int)⊕(List Int))),lp (ZdJ a) s0=some r→lpW ctx 0 [1,4,5] [2,3,4] Zw0 [(.ptr 0 0),(.sl 1 1),(.sl 2 1)] [(.cells [(.d (zL t0 a.work)),(.d (D.list t1 (List.map Zs a.edges)))]),(.arr 1 (List.map Za s0.1)),(.arr 1 (List.map D.bool s0.2))]=some ((Zhp t0 t1 a) r):=
 lpT (Zhp t0 t1 a) fun s0 _ ih=>Zf (Zr _ _) (Zf (Zr _ _) (yB (Zf (Zr _ _) (by
 conv=>rhs;whnf
 refine Ze _ (Zlk _) fun r7 _=>?_
 rcases r7 with r7 | r7
 exact Zm (ih _)
 exact Zp rfl))
  (Zp rfl)))
theorem Zi4 {t0 t1:Bool}{a:Zi}:∀r,(Zdy a)=some r→evD ctx 70 [(.d (D.agg [(zL t0 a.work),(D.list t1 (List.map Zs a.edges))]))]=some (Zpd r):=
 evT ZAg rfl rfl <| Zf (Zr _ _) (yBm (Zf (ZgP D.bool (false:Bool) (a.work.length:Int)) (by
 conv=>rhs;whnf
 refine Ze _ (ZlA _) fun r8 _=>?_
 rcases r8 with r8 | r8
 exact yR
 exact yR)))
def Zpm (r:Int):D:=(Za r)
def Zhu (t0:Bool) (t1:Bool) (a:Zi):(Unit⊕Unit)→Ex×List V×Zd
  | (.inl r)=>(.ret,[(.ptr 0 0),(.d (Za 42))],[(.cells [(.d (zL t0 a.work)),(.d (D.list t1 (List.map Zs a.edges)))])])
  | (.inr r)=>(.exit 0,[(.ptr 0 0),.bad],[(.cells [(.d (zL t0 a.work)),(.d (D.list t1 (List.map Zs a.edges)))])])
theorem ZlB {t0 t1:Bool}{a:Zi}:∀(s1:Int) (r:(Unit⊕Unit)),lp (ZcQ a) s1=some r→lpW ctx 0 [1,3,23,24,25] [1,2] Zv2 [(.ptr 0 0),(.fn 68 [(.ptr 0 0)]),(.d (D.list t1 (List.map Zs a.edges))),(.d (Za (a.edges.length:Int))),(.d (Za s1))] [(.cells [(.d (zL t0 a.work)),(.d (D.list t1 (List.map Zs a.edges)))])]=some ((Zhu t0 t1 a) r):=
 lpT (Zhu t0 t1 a) fun s1 _ ih=>yB (yG fun x2 _=>
  yC Zht fun x3 _=>
  yB (yC Zht fun x4 _=>
  yB (yB (Zp rfl)
  (yBm (ZaJ (ZwA Zs a.edges s1.toNat) (yT (Zf (Zq5 Zs a.edges s1.toNat) (yC ZeB fun x5 _=>
  yB (Zp rfl)
  (Zm (ih _)))))
  Z3)))
  (Zp rfl))
  (Zp rfl))
  (Zp rfl)
theorem ZcL {t0 t1:Bool}{a:Zi}:∀r,(Zbz a)=some r→evD ctx 39 [(.d (D.agg [(zL t0 a.work),(D.list t1 (List.map Zs a.edges))]))]=some (Zpm r):=
 evT Zzj rfl rfl <| Zf (Zr _ _) (yBr (Zf (Zr _ _) (yBr (yC Zce fun x0 _=>
  yBr (Zf (Zr _ _) (by
 conv=>rhs;whnf
 refine Ze _ (ZlB _) fun r6 _=>?_
 rcases r6 with r6 | r6
 exact yR
 exact yC Zi4 fun x7 _=>
  yBr yR))))))
def Zmn (r:Bool):D:=(D.bool r)
theorem Zk1 {a:Int}:∀r,(Za3 a)=some r→evD ctx 71 [(.d (Za a))]=some (Zmn r):=
 evT Zz2 rfl rfl <| yBr (yBr yR)
def ZcN (r:Int):D:=(Za r)
def Zao (t0:Bool) (a:List Int):(Int⊕Unit)→Ex×List V×Zd
  | (.inl r)=>(.ret,[(.d (Za r))],[])
  | (.inr r)=>(.exit 0,[.bad],[])
theorem Zb1 {t0:Bool}{a:List Int}:∀(s0:Int) (r:(Int⊕Unit)),lp (Zv a (fun z0=>Za3 z0)) s0=some r→lpW ctx 0 [0,1,7,8] [4] ZlT [(.d (zL t0 a)),(.d (D.fn 71 [])),(.d (Za (a.length:Int))),(.d (Za s0))] []=some ((Zao t0 a) r):=
 lpT (Zao t0 a) fun s0 _ ih=>yB (yG fun x1 _=>
  yC Zk1 fun x2 _=>
  yB (Zp rfl)
  (Zm (ih _)))
  (Zp rfl)
theorem Zcw {t0:Bool}{a:List Int}:∀r,(ZB a (fun z0=>Za3 z0))=some r→evD ctx 99 [(.d (zL t0 a)),(.d (D.fn 71 []))]=some (ZcN r):=
 evT ZsA rfl rfl <| Zf (Zr _ _) (by
 conv=>rhs;whnf
 refine Ze _ (Zb1 _) fun r3 _=>?_
 rcases r3 with r3 | r3
 exact yR
 exact yR)
def Zcc (r:Bool):D:=(D.bool r)
theorem Zaj {t0:Bool}{a:List Int}:∀r,(Zw a (fun z0=>Za3 z0))=some r→evD ctx 66 [(.d (zL t0 a)),(.d (D.fn 71 []))]=some (Zcc r):=
 evT ZuV rfl rfl <| yC Zcw fun x0 _=>
  yBr yR
def ZoQ (r:Bool):D:=(D.bool r)
theorem ZmR {t0 t1 t2:Bool}{a:Zi}{b:List Int}:∀r,(Zf1 a b)=some r→evD ctx 40 [(.d (D.agg [(zL t0 a.work),(D.list t1 (List.map Zs a.edges))])),(.d (zL t2 b))]=some (ZoQ r):=
 evT Zzl rfl rfl <| Zf (Zr _ _) (Zf (Zr _ _) (yB (yC Zaj fun x0 _=>
  yBr (yC Zaj fun x1 _=>
  yBr yR))
  yR))
def Zsg (a:Bool):(Unit⊕Unit)→D
  | (.inl r)=>(D.iface 115 (D.agg []))
  | (.inr r)=>(D.iface 116 (D.agg []))
theorem Zii {a:Bool}:∀r,(ZdO a)=some r→evD ctx 41 [(.d (D.bool a))]=some ((Zsg a) r):=
 evT ZzV rfl rfl <| (by
 try unfold ZdO
 rcases hb:a with _ | _
 exact ZAl yR
 exact Zzn yR)
def Zmo (r:Bool):D:=(D.bool r)
theorem ZkL {a:Int}:∀r,(ZbF a)=some r→evD ctx 195 [(.d (Za a))]=some (Zmo r):=
 evT Zw2 rfl rfl <| yBr (yBr yR)
def ZcI (r:Int):D:=(Za r)
def Zap (t0:Bool) (a:List Int):(Int⊕Unit)→Ex×List V×Zd
  | (.inl r)=>(.ret,[(.d (Za r))],[])
  | (.inr r)=>(.exit 0,[.bad],[])
theorem Zb6 {t0:Bool}{a:List Int}:∀(s0:Int) (r:(Int⊕Unit)),lp (Zv a (fun z0=>ZbF z0)) s0=some r→lpW ctx 0 [0,1,7,8] [4] ZlT [(.d (zL t0 a)),(.d (D.fn 195 [])),(.d (Za (a.length:Int))),(.d (Za s0))] []=some ((Zap t0 a) r):=
 lpT (Zap t0 a) fun s0 _ ih=>yB (yG fun x1 _=>
  yC ZkL fun x2 _=>
  yB (Zp rfl)
  (Zm (ih _)))
  (Zp rfl)
theorem Zcy {t0:Bool}{a:List Int}:∀r,(ZB a (fun z0=>ZbF z0))=some r→evD ctx 99 [(.d (zL t0 a)),(.d (D.fn 195 []))]=some (ZcI r):=
 evT ZsA rfl rfl <| Zf (Zr _ _) (by
 conv=>rhs;whnf
 refine Ze _ (Zb6 _) fun r3 _=>?_
 rcases r3 with r3 | r3
 exact yR
 exact yR)
def Zcj (r:Bool):D:=(D.bool r)
theorem Zb4 {t0:Bool}{a:List Int}:∀r,(Zw a (fun z0=>ZbF z0))=some r→evD ctx 66 [(.d (zL t0 a)),(.d (D.fn 195 []))]=some (Zcj r):=
 evT ZuV rfl rfl <| yC Zcy fun x0 _=>
  yBr yR
def Zpi (r:Bool):D:=(D.bool r)
theorem ZdD {t0 t1:Bool}{a:ZD}{b:Int}:∀r,(ZcU a b)=some r→evD ctx 191 [(.d (D.agg [(zL t0 a.on),(zL t1 a.left)])),(.d (Za b))]=some (Zpi r):=
 evT ZxF rfl rfl <| yG fun x0 _=>
  yBr yR
def Zgq (r:Int):D:=(Za r)
def Zc1 (t0:Bool) (a:List Int) (b:Int):(Int⊕Unit)→Ex×List V×Zd
  | (.inl r)=>(.ret,[(.d (Za r))],[])
  | (.inr r)=>(.exit 0,[.bad],[])
theorem Ze0 {t0:Bool}{a:List Int}{b:Int}:∀(s0:Int) (r:(Int⊕Unit)),lp (ZaE a b) s0=some r→lpW ctx 0 [0,1,7,8] [4] ZvB [(.d (zL t0 a)),(.d (Za b)),(.d (Za (a.length:Int))),(.d (Za s0))] []=some ((Zc1 t0 a b) r):=
 lpT (Zc1 t0 a b) fun s0 _ ih=>yB (yG fun x1 _=>
  yB (Zp rfl)
  (Zm (ih _)))
  (Zp rfl)
theorem Zf3 {t0:Bool}{a:List Int}{b:Int}:∀r,(Zcr a b)=some r→evD ctx 88 [(.d (zL t0 a)),(.d (Za b))]=some (Zgq r):=
 evT Zz5 rfl rfl <| Zf (Zr _ _) (by
 conv=>rhs;whnf
 refine Ze _ (Ze0 _) fun r2 _=>?_
 rcases r2 with r2 | r2
 exact yR
 exact yR)
def Zfj (r:Bool):D:=(D.bool r)
theorem ZU {t0:Bool}{a:List Int}{b:Int}:∀r,(ZG a b)=some r→evD ctx 55 [(.d (zL t0 a)),(.d (Za b))]=some (Zfj r):=
 evT ZzE rfl rfl <| yC Zf3 fun x0 _=>
  yBr yR
def ZmW (r:Bool):D:=(D.bool r)
theorem ZlY {t0 t1:Bool}{a:Zt}{b0:Int}{c0:List Int}{c1:List Int}:∀r,(Zdi a b0 c0 c1)=some r→evD ctx 208 [(.d (D.agg [(Za a.src),(Za a.dst)])),(.d (D.rptr [(Za b0)])),(.d (D.rptr [(zL t0 c0),(zL t1 c1)]))]=some (ZmW r):=
 evT ZvT rfl rfl <| yB (yC ZdD fun x0 _=>
  yBr yR)
  yR
def Zcx (r:Int):D:=(Za r)
def Zak (t0:Bool) (t1:Bool) (t2:Bool) (a:List Zt) (b0:Int) (b1:List Int) (b2:List Int):(Int⊕Unit)→Ex×List V×Zd
  | (.inl r)=>(.ret,[(.d (Za r))],[])
  | (.inr r)=>(.exit 0,[.bad],[])
theorem ZbR {t0 t1 t2:Bool}{a:List Zt}{b0:Int}{b1:List Int}{b2:List Int}:∀(s0:Int) (r:(Int⊕Unit)),lp (ZX a (fun z0=>Zdi z0 b0 b1 b2)) s0=some r→lpW ctx 0 [0,1,7,8] [4] Zqy [(.d (D.list t0 (List.map Zs a))),(.d (D.fn 208 [(D.rptr [(Za b0)]),(D.rptr [(zL t1 b1),(zL t2 b2)])])),(.d (Za (a.length:Int))),(.d (Za s0))] []=some ((Zak t0 t1 t2 a b0 b1 b2) r):=
 lpT (Zak t0 t1 t2 a b0 b1 b2) fun s0 _ ih=>yB (yG fun x1 _=>
  yC ZlY fun x2 _=>
  yB (Zp rfl)
  (Zm (ih _)))
  (Zp rfl)
theorem Zcp {t0 t1 t2:Bool}{a:List Zt}{b0:Int}{b1:List Int}{b2:List Int}:∀r,(Zai a (fun z0=>Zdi z0 b0 b1 b2))=some r→evD ctx 109 [(.d (D.list t0 (List.map Zs a))),(.d (D.fn 208 [(D.rptr [(Za b0)]),(D.rptr [(zL t1 b1),(zL t2 b2)])]))]=some (Zcx r):=
 evT ZtW rfl rfl <| Zf (Zr _ _) (by
 conv=>rhs;whnf
 refine Ze _ (ZbR _) fun r3 _=>?_
 rcases r3 with r3 | r3
 exact yR
 exact yR)
def Zb5 (r:Bool):D:=(D.bool r)
theorem ZbT {t0 t1 t2:Bool}{a:List Zt}{b0:Int}{b1:List Int}{b2:List Int}:∀r,(ZO a (fun z0=>Zdi z0 b0 b1 b2))=some r→evD ctx 89 [(.d (D.list t0 (List.map Zs a))),(.d (D.fn 208 [(D.rptr [(Za b0)]),(D.rptr [(zL t1 b1),(zL t2 b2)])]))]=some (Zb5 r):=
 evT Zyy rfl rfl <| yC Zcp fun x0 _=>
  yBr yR
def Zpf (r:Bool):D:=(D.bool r)
theorem Zgb {t0 t1:Bool}{t2 t3:Bool}{a:Zi}{b:ZD}{c:Int}:∀r,(Zep a b c)=some r→evD ctx 192 [(.d (D.agg [(zL t0 a.work),(D.list t1 (List.map Zs a.edges))])),(.d (D.agg [(zL t2 b.on),(zL t3 b.left)])),(.d (Za c))]=some (Zpf r):=
 evT Zvq rfl rfl <| yC ZbT fun x0 _=>
  yBr yR
def ZnX (r:Bool):D:=(D.bool r)
def ZgV (t0:Bool) (t1:Bool) (t2:Bool) (t3:Bool) (a:Zi) (b:ZD):(Unit⊕Unit)→Ex×List V×Zd
  | (.inl r)=>(.ret,[(.ptr 0 0),(.ptr 1 0),(.d (D.bool false))],[(.cells [(.d (zL t0 a.work)),(.d (D.list t1 (List.map Zs a.edges)))]),(.cells [(.d (zL t2 b.on)),(.d (zL t3 b.left))])])
  | (.inr r)=>(.exit 0,[(.ptr 0 0),(.ptr 1 0),.bad],[(.cells [(.d (zL t0 a.work)),(.d (D.list t1 (List.map Zs a.edges)))]),(.cells [(.d (zL t2 b.on)),(.d (zL t3 b.left))])])
theorem Zku {t0 t1:Bool}{t2 t3:Bool}{a:Zi}{b:ZD}:∀(s1:Int) (r:(Unit⊕Unit)),lp (Zdc a b) s1=some r→lpW ctx 0 [2,3,35,36,37] [2,3,4] Zul [(.ptr 0 0),(.ptr 1 0),(.d (zL t2 b.on)),(.d (Za (b.on.length:Int))),(.d (Za s1))] [(.cells [(.d (zL t0 a.work)),(.d (D.list t1 (List.map Zs a.edges)))]),(.cells [(.d (zL t2 b.on)),(.d (zL t3 b.left))])]=some ((ZgV t0 t1 t2 t3 a b) r):=
 lpT (ZgV t0 t1 t2 t3 a b) fun s1 _ ih=>yB (yG fun x2 _=>
  yB (Zm (ih _))
  (yB (Zp rfl)
  (Zf (Zr _ _) (yB (Zp rfl)
  (yC ZdD fun x3 _=>
  yB (Zp rfl)
  (yBm (ZaJ (ZwA Za b.on s1.toNat) (yT (Zf (Zq5 Za b.on s1.toNat) (yC ZU fun x4 _=>
  yB (Zp rfl)
  (yC Zgb fun x5 _=>
  yB (Zm (ih _))
  (Zp rfl)))))
  Z3)))))))
  (Zp rfl)
def ZgZ (t0:Bool) (t1:Bool) (t2:Bool) (t3:Bool) (a:Zi) (b:ZD):(Unit⊕Unit)→Ex×List V×Zd
  | (.inl r)=>(.ret,[(.d (D.bool false))],[])
  | (.inr r)=>(.exit 2,[.bad],[])
theorem Zkj {t0 t1:Bool}{t2 t3:Bool}{a:Zi}{b:ZD}:∀(s7:Int) (r:(Unit⊕Unit)),lp (Zdd a b) s7=some r→lpW ctx 0 [2,3,76,77] [4] Zug [(.ptr 0 0),(.ptr 1 0),(.d (Za (b.left.length:Int))),(.d (Za s7))] [(.cells [(.d (zL t0 a.work)),(.d (D.list t1 (List.map Zs a.edges)))]),(.cells [(.d (zL t2 b.on)),(.d (zL t3 b.left))])]=some ((ZgZ t0 t1 t2 t3 a b) r):=
 lpT (ZgZ t0 t1 t2 t3 a b) fun s7 _ ih=>yB (yC ZdD fun x8 _=>
  yB (yC Zgb fun x9 _=>
  yB (Zm (ih _))
  (Zp rfl))
  (Zm (ih _)))
  (Zp rfl)
theorem ZmP {t0 t1:Bool}{t2 t3:Bool}{a:Zi}{b:ZD}:∀r,(ZfX a b)=some r→evD ctx 179 [(.d (D.agg [(zL t0 a.work),(D.list t1 (List.map Zs a.edges))])),(.d (D.agg [(zL t2 b.on),(zL t3 b.left)]))]=some (ZnX r):=
 evT ZxT rfl rfl <| Zf (Zr _ _) (yBr (Zf (Zr _ _) (yBr (Zf (Zr _ _) (Zf (Zr _ _) (yBr (yC Zb4 fun x0 _=>
  yBr (Zf (Zr _ _) (by
 conv=>rhs;whnf
 refine Ze _ (Zku _) fun r6 _=>?_
 rcases r6 with r6 | r6
 exact yR
 exact Zf (Zr _ _) (by
 conv=>rhs;whnf
 refine Ze _ (Zkj _) fun r10 _=>?_
 rcases r10 with r10 | r10
 exact yR
 exact yR))))))))))
def ZnC (r:Int):D:=(Za r)
theorem Zec {t0 t1:Bool}{t2 t3:Bool}{a:Zi}{b:ZD}:∀r,(Zc6 a b)=some r→evD ctx 171 [(.d (D.agg [(zL t0 a.work),(D.list t1 (List.map Zs a.edges))])),(.d (D.agg [(zL t2 b.on),(zL t3 b.left)]))]=some (ZnC r):=
 evT Zwe rfl rfl <| yC ZcL fun x0 _=>
  yB (yC ZmP fun x1 _=>
  yBr yR)
  yR
def Zpq (r:Int):D:=(Za r)
theorem ZiZ {a:Int}:∀r,(Zfi a)=some r→evD ctx 188 [(.d (Za a))]=some (Zpq r):=
 evT Zxp rfl rfl <| yBr (yBr yR)
def ZgD (r:Int):D:=(Za r)
theorem Zgc {a:Int}:∀r,(Zbc a)=some r→evD ctx 205 [(.d (D.int .u64 a))]=some (ZgD r):=
 evT ZxL rfl rfl <| yF (yF (yF (yF (yF (yF yR)))))
def ZhS (r:Int):D:=(Za r)
theorem Zhd {a:Int}:∀r,(ZbP a)=some r→evD ctx 189 [(.d (D.int .u64 a))]=some (ZhS r):=
 evT ZwK rfl rfl <| yC Zgc fun x0 _=>
  yR
def Zfu (a:Int):Unit→V×Zd
  | r=>(.bad,[])
theorem ZeT {a:Int}:∀r,(Zbq a)=some r→evW ctx 207 [(.d (D.int .u64 a))] []=some ((Zfu a) r):=
 evS Zy5 rfl rfl <| yBr yR
def Zf0 (a:Int):Unit→V×Zd
  | r=>(.bad,[])
theorem ZfJ {a:Int}:∀r,(ZaL a)=some r→evW ctx 190 [(.d (D.int .u64 a))] []=some ((Zf0 a) r):=
 evS ZwU rfl rfl <| Ze _ ZeT fun x0 _=>
  yR
def Zrz (a:Int):(Unit⊕Unit)→V×Zd
  | (.inl r)=>((.d (D.tup [(Za 0),(D.bool false)])),[])
  | (.inr r)=>((.tup [.bad,(.d (D.bool true))]),[])
theorem Zk7 {a:Int}:∀r,(Zf6 a)=some r→evW ctx 176 [(.d (Za a))] []=some ((Zrz a) r):=
 evS ZvP rfl rfl <| yC ZiZ fun x0 _=>
  yBr (yC Zhd fun x1 _=>
  yBr (Ze _ ZfJ fun x2 _=>
  yR))
def ZmV (r:Int):D:=(Za r)
theorem ZcP {t0:Bool}{a:Zb}:∀r,(Zbx a)=some r→evD ctx 180 [(.d (D.agg [(zL t0 a.ring),(Za a.top),(Za a.bottom)]))]=some (ZmV r):=
 evT ZvO rfl rfl <| Zf (Zr _ _) (by
 conv=>rhs;whnf
 refine Ze _ Zk7 fun x0 _=>?_
 rcases x0 with x0 | x0
 exact yF yR
 exact yT (Zf (Zr _ _) (yBr (yC ZiZ fun x1 _=>
  yBr (yBr (Zf (Zr _ _) (yBr yR)))))))
def Zm4 (r:Bool):D:=(D.bool r)
def Zgp (t0:Bool) (t1:Bool) (t2:Bool) (t3:Bool) (t4:Bool) (a:ZP):(Unit⊕Unit)→Ex×List V×Zd
  | (.inl r)=>(.ret,[(.d (D.bool false))],[])
  | (.inr r)=>(.exit 0,[.bad],[])
theorem ZjW {t0 t1:Bool}{t2 t3 t4:Bool}{a:ZP}:∀(s0:Int) (r:(Unit⊕Unit)),lp (ZcD a) s0=some r→lpW ctx 0 [1,3,32,33,34] [2] ZtX [(.ptr 0 0),(.d (Za (a.crew.on.length:Int))),(.d (D.list t2 (List.map Zy a.deques))),(.d (Za (a.deques.length:Int))),(.d (Za s0))] [(.cells [(.d (zL t0 a.crew.on)),(.d (zL t1 a.crew.left)),(.d (D.list t2 (List.map Zy a.deques))),(.d (D.list t3 (List.map Zz a.takers))),(.d (zL t4 a.from_))])]=some ((Zgp t0 t1 t2 t3 t4 a) r):=
 lpT (Zgp t0 t1 t2 t3 t4 a) fun s0 _ ih=>yB (yG fun x1 _=>
  yG fun x2 _=>
  yG fun x3 _=>
  yC ZcP fun x4 _=>
  yB (Zp rfl)
  (Zf (Zr _ _) (yB (Zp rfl)
  (yB (Zp rfl)
  (yB (Zp rfl)
  (yB (Zp rfl)
  (yB (yB (yF (yG fun x5 _=>
  yB (yB (Zp rfl)
  (yB (Zp rfl)
  (Zm (ih _))))
  (Zm (ih _))))
  (yT (Zp rfl)))
  (yB (yT (Zp rfl))
  (yF (yG fun x6 _=>
  yB (yB (Zp rfl)
  (yB (Zp rfl)
  (Zm (ih _))))
  (Zm (ih _))))))))))))
  (Zp rfl)
theorem Zl5 {t0 t1:Bool}{t2 t3 t4:Bool}{a:ZP}:∀r,(Zfa a)=some r→evD ctx 172 [(.d (D.agg [(zL t0 a.crew.on),(zL t1 a.crew.left),(D.list t2 (List.map Zy a.deques)),(D.list t3 (List.map Zz a.takers)),(zL t4 a.from_)]))]=some (Zm4 r):=
 evT Zwj rfl rfl <| Zf (Zr _ _) (Zf (Zr _ _) (yBr (Zf (Zr _ _) (yBr (Zf (Zr _ _) (yBr (Zf (Zr _ _) (by
 conv=>rhs;whnf
 refine Ze _ (ZjW _) fun r7 _=>?_
 rcases r7 with r7 | r7
 exact yR
 exact yR))))))))
def ZmN (r:Int):D:=(Za r)
theorem Zhn {t0 t1:Bool}{t2 t3:Bool}{t4 t5 t6:Bool}{a:Zi}{b:ZP}:∀r,(Zd9 a b)=some r→evD ctx 164 [(.d (D.agg [(zL t0 a.work),(D.list t1 (List.map Zs a.edges))])),(.d (D.agg [(zL t2 b.crew.on),(zL t3 b.crew.left),(D.list t4 (List.map Zy b.deques)),(D.list t5 (List.map Zz b.takers)),(zL t6 b.from_)]))]=some (ZmN r):=
 evT Zx0 rfl rfl <| yC Zec fun x0 _=>
  yB (yC Zl5 fun x1 _=>
  yBr yR)
  yR
def Zpa (r:List Int):D:=(zL true r)
def ZhO (t0:Bool) (t2:Bool) (a:Zi) (b:List Int):(List Int)→Ex×List V×Zd
  | r=>(.exit 0,[(.sl 0 1)],[(.arr 1 (List.map Za r))])
theorem Zk9 {t0 t2:Bool}{a:Zi}{b:List Int}:∀(s0:Int×(List Int)) (r:List Int),lp (ZcC a b) s0=some r→lpW ctx 0 [1,5,9,10,11] [5] Zxt [(.d (zL t2 b)),(.sl 0 1),(.d (zL t0 a.work)),(.d (Za (a.work.length:Int))),(.d (Za s0.1))] [(.arr 1 (List.map Za s0.2))]=some ((ZhO t0 t2 a b) r):=
 lpT (ZhO t0 t2 a b) fun s0 _ ih=>yB (yG fun x1 _=>
  yG fun x2 _=>
  yT (ZaJ (Zeg Za s0.2 1) (Zf (Zee Za s0.2 [(bif decide (x1<x2) then x1 else x2)]) (Zm (ih _)))
  Z3))
  (Zp rfl)
theorem Zjb {t0 t1 t2:Bool}{a:Zi}{b:List Int}:∀r,(Zfl a b)=some r→evD ctx 42 [(.d (D.agg [(zL t0 a.work),(D.list t1 (List.map Zs a.edges))])),(.d (zL t2 b))]=some (Zpa r):=
 evT ZAE rfl rfl <| Zf (Zr _ _) (Ze _ (Zk9 _) fun r3 _=>
  yR)
def Zoz (r:Int):D:=(Za r)
def ZgH (t0:Bool) (t1:Bool) (t2:Bool) (t3:Bool) (a:Zi) (b:List Int) (c:List Int):(Int⊕Int)→Ex×List V×Zd
  | (.inl r)=>(.ret,[(.d (Za 3)),(.d (Za r))],[])
  | (.inr r)=>(.exit 0,[.bad,(.d (Za r))],[])
theorem Zks {t0 t1:Bool}{t2 t3:Bool}{a:Zi}{b:List Int}{c:List Int}:∀(s0:Int×Int) (r:(Int⊕Int)),lp (ZaI a b c) s0=some r→lpW ctx 0 [1,3,7,10,11,12] [6,7] ZwQ [(.d (zL t2 b)),(.ptr 0 0),(.d (Za s0.1)),(.d (zL t3 c)),(.d (Za (c.length:Int))),(.d (Za s0.2))] [(.cells [(.d (zL t0 a.work)),(.d (D.list t1 (List.map Zs a.edges)))])]=some ((ZgH t0 t1 t2 t3 a b c) r):=
 lpT (ZgH t0 t1 t2 t3 a b c) fun s0 _ ih=>yB (yG fun x1 _=>
  yB (yB (Zm (ih _))
  (yB (yG fun x2 _=>
  yG fun x3 _=>
  yB (Zp rfl)
  (Zm (ih _)))
  (Zm (ih _))))
  (yB (yG fun x4 _=>
  yG fun x5 _=>
  yB (Zp rfl)
  (Zm (ih _)))
  (Zm (ih _))))
  (Zp rfl)
theorem Zb7 {t0 t1:Bool}{t2 t3:Bool}{a:Zi}{b:List Int}{c:List Int}:∀r,(Zbs a b c)=some r→evD ctx 43 [(.d (D.agg [(zL t0 a.work),(D.list t1 (List.map Zs a.edges))])),(.d (zL t2 b)),(.d (zL t3 c))]=some (Zoz r):=
 evT Zz3 rfl rfl <| Zf (Zr _ _) (by
 conv=>rhs;whnf
 refine Ze _ (Zks _) fun r6 _=>?_
 rcases r6 with r6 | r6
 exact yR
 exact yR)
def Zgg (t0:Bool) (a:List Int):Unit→V×Zd
  | r=>((.sl 0 1),[(.arr 1 (List.map Za a))])
theorem Zo {t0:Bool}{a:List Int}:∀r,(Zl a)=some r→evW ctx 45 [(.d (zL t0 a))] []=some ((Zgg t0 a) r):=
 evS ZzY rfl rfl <| Zlf (Zgv (f:=Za) (fun _=>⟨rfl,rfl⟩) a 0) (ZaJ (ZhU Za a) (Zf (rfl:_=List.map Za a) yR)
  Z3)
def Ze2 (t0:Bool) (a:List Zh):Unit→V×Zd
  | r=>((.sl 0 6),[(.arr 6 (List.map Zz a))])
theorem ZeO {t0:Bool}{a:List Zh}:∀r,(Zaw a)=some r→evW ctx 181 [(.d (D.list t0 (List.map Zz a)))] []=some ((Ze2 t0 a) r):=
 evS Zx4 rfl rfl <| ZaJ (ZtI Zz a) (Zlf (Zgv (f:=Zz) (fun _=>⟨rfl,rfl⟩) a 0) (ZaJ (ZhU Zz a) (Zf (rfl:_=List.map Zz a) yR)
  Z3))
  Z3
def Ze3 (t0:Bool) (a:List Zb):Unit→V×Zd
  | r=>((.sl 0 3),[(.arr 3 (List.map Zy a))])
theorem ZeN {t0:Bool}{a:List Zb}:∀r,(Zat a)=some r→evW ctx 182 [(.d (D.list t0 (List.map Zy a)))] []=some ((Ze3 t0 a) r):=
 evS Zxd rfl rfl <| ZaJ (ZtI Zy a) (Zlf (Zgv (f:=Zy) (fun _=>⟨rfl,rfl⟩) a 0) (ZaJ (ZhU Zy a) (Zf (rfl:_=List.map Zy a) yR)
  Z3))
  Z3
def Zpe (t0:Bool) (t1:Bool) (t2:Bool) (t3:Bool) (t4:Bool) (a:ZP):(List Zb)→V×Zd
  | r=>((.agg [(.sl 0 1),(.sl 1 1),(.sl 2 3),(.sl 3 6),(.sl 4 1)]),[(.arr 1 (List.map Za a.crew.on)),(.arr 1 (List.map Za a.crew.left)),(.arr 3 (List.map Zy r)),(.arr 6 (List.map Zz a.takers)),(.arr 1 (List.map Za a.from_))])
def Zhx (a:ZP):(List Zb)→Ex×List V×Zd
  | r=>(.exit 0,[(.ptr 0 0),(.ptr 1 0)],[(.cells [(.sl 2 1),(.sl 3 1),(.sl 4 3),(.sl 5 6),(.sl 6 1)]),(.cells [(.sl 7 1),(.sl 8 1),(.sl 9 3),(.sl 10 6),(.sl 11 1)]),(.arr 1 (List.map Za a.crew.on)),(.arr 1 (List.map Za a.crew.left)),(.arr 3 (List.map Zy r)),(.arr 6 (List.map Zz a.takers)),(.arr 1 (List.map Za a.from_)),(.arr 1 []),(.arr 1 []),(.arr 3 []),(.arr 6 []),(.arr 1 [])])
theorem ZkT {a:ZP}:∀(s5:Int×(List Zb)) (r:List Zb),lp (ZcM a) s5=some r→lpW ctx 0 [1,2,30,31] [1,2] ZtH [(.ptr 0 0),(.ptr 1 0),(.d (Za (a.deques.length:Int))),(.d (Za s5.1))] [(.cells [(.sl 2 1),(.sl 3 1),(.sl 4 3),(.sl 5 6),(.sl 6 1)]),(.cells [(.sl 7 1),(.sl 8 1),(.sl 9 3),(.sl 10 6),(.sl 11 1)]),(.arr 1 (List.map Za a.crew.on)),(.arr 1 (List.map Za a.crew.left)),(.arr 3 (List.map Zy s5.2)),(.arr 6 (List.map Zz a.takers)),(.arr 1 (List.map Za a.from_)),(.arr 1 []),(.arr 1 []),(.arr 3 []),(.arr 6 []),(.arr 1 [])]=some ((Zhx a) r):=
 lpT (Zhx a) fun s5 _ ih=>yB (yG fun x6 hx6=>
  Zq (Z1 rfl hx6) (Ze _ Zo fun x7 _=>
  Zq (ZdK rfl hx6) (Zq (Z1 rfl hx6) (Zf (Zbp Zy s5.2 s5.1.toNat x6) (Zm (ih _))))))
  (Zp rfl)
theorem Zjj {t0 t1:Bool}{t2 t3 t4:Bool}{a:ZP}:∀r,(Zfn a)=some r→evW ctx 173 [(.d (D.agg [(zL t0 a.crew.on),(zL t1 a.crew.left),(D.list t2 (List.map Zy a.deques)),(D.list t3 (List.map Zz a.takers)),(zL t4 a.from_)]))] []=some ((Zpe t0 t1 t2 t3 t4 a) r):=
 evS ZxG rfl rfl <| Ze _ Zo fun x0 _=>
  Ze _ Zo fun x1 _=>
  Ze _ ZeO fun x2 _=>
  Ze _ Zo fun x3 _=>
  Ze _ ZeN fun x4 _=>
  Zf (Zr _ _) (Ze _ (ZkT _) fun r8 _=>
  yR)
def ZhX (r:Bool):D:=(D.bool r)
theorem Zhy {t0:Bool}{a:Zb}:∀r,(Zag a)=some r→evD ctx 197 [(.d (D.agg [(zL t0 a.ring),(Za a.top),(Za a.bottom)]))]=some (ZhX r):=
 evT Zwq rfl rfl <| yBr yR
def Zbk (r:Int):D:=(Za r)
def Z6 (t0:Bool) (a:List Zb):(Int⊕Unit)→Ex×List V×Zd
  | (.inl r)=>(.ret,[(.d (Za r))],[])
  | (.inr r)=>(.exit 0,[.bad],[])
theorem ZaU {t0:Bool}{a:List Zb}:∀(s0:Int) (r:(Int⊕Unit)),lp (Z7 a (fun z0=>Zag z0)) s0=some r→lpW ctx 0 [0,1,7,8] [4] ZtZ [(.d (D.list t0 (List.map Zy a))),(.d (D.fn 197 [])),(.d (Za (a.length:Int))),(.d (Za s0))] []=some ((Z6 t0 a) r):=
 lpT (Z6 t0 a) fun s0 _ ih=>yB (yG fun x1 _=>
  yC Zhy fun x2 _=>
  yB (Zp rfl)
  (Zm (ih _)))
  (Zp rfl)
theorem Za9 {t0:Bool}{a:List Zb}:∀r,(ZaF a (fun z0=>Zag z0))=some r→evD ctx 209 [(.d (D.list t0 (List.map Zy a))),(.d (D.fn 197 []))]=some (Zbk r):=
 evT Zxg rfl rfl <| Zf (Zr _ _) (by
 conv=>rhs;whnf
 refine Ze _ (ZaU _) fun r3 _=>?_
 rcases r3 with r3 | r3
 exact yR
 exact yR)
def Za0 (r:Bool):D:=(D.bool r)
theorem ZaV {t0:Bool}{a:List Zb}:∀r,(Z5 a (fun z0=>Zag z0))=some r→evD ctx 196 [(.d (D.list t0 (List.map Zy a))),(.d (D.fn 197 []))]=some (Za0 r):=
 evT Zwn rfl rfl <| yC Za9 fun x0 _=>
  yBr yR
def ZiK (r:List Int):D:=(zL true r)
def Zeo (t0:Bool) (t1:Bool) (t2:Bool) (t3:Bool) (t4:Bool) (t5:Bool) (t6:Bool) (a0:List Int) (a1:List Int) (a2:List Zb) (a3:List Zh) (a4:List Int) (a5:List Int) (a6:List Zt) (a7:Int):(List Int)→Ex×List V×Zd
  | r=>(.exit 0,[(.sl 0 1)],[(.arr 1 (List.map Za r))])
theorem Zg5 {t0 t1:Bool}{t2 t3:Bool}{t4 t5 t6:Bool}{a0:List Int}{a1:List Int}{a2:List Zb}{a3:List Zh}{a4:List Int}{a5:List Int}{a6:List Zt}{a7:Int}:∀(s1:Int×(List Int)) (r:List Int),lp (ZaO a0) s1=some r→lpW ctx 0 [0,3,4,18,19,20] [4] ZqQ [(.d (D.rptr [(zL t0 a0),(zL t1 a1),(D.list t2 (List.map Zy a2)),(D.list t3 (List.map Zz a3)),(zL t4 a4),(zL t5 a5),(D.list t6 (List.map Zs a6)),(Za a7)])),(.d (D.bool true)),(.sl 0 1),(.d (zL t0 a0)),(.d (Za (a0.length:Int))),(.d (Za s1.1))] [(.arr 1 (List.map Za s1.2))]=some ((Zeo t0 t1 t2 t3 t4 t5 t6 a0 a1 a2 a3 a4 a5 a6 a7) r):=
 lpT (Zeo t0 t1 t2 t3 t4 t5 t6 a0 a1 a2 a3 a4 a5 a6 a7) fun s1 _ ih=>yB (yG fun x2 _=>
  yB (yT (ZaJ (Zeg Za s1.2 1) (Zf (Zee Za s1.2 [s1.1]) (Zm (ih _)))
  Z3))
  (Zm (ih _)))
  (Zp rfl)
def ZdW (t0:Bool) (t1:Bool) (t2:Bool) (t3:Bool) (t4:Bool) (t5:Bool) (t6:Bool) (a0:List Int) (a1:List Int) (a2:List Zb) (a3:List Zh) (a4:List Int) (a5:List Int) (a6:List Zt) (a7:Int):(List Int)→Ex×List V×Zd
  | r=>(.exit 0,[(.sl 0 1)],[(.arr 1 (List.map Za r))])
theorem ZgA {t0 t1:Bool}{t2 t3:Bool}{t4 t5 t6:Bool}{a0:List Int}{a1:List Int}{a2:List Zb}{a3:List Zh}{a4:List Int}{a5:List Int}{a6:List Zt}{a7:Int}:∀(s4:Int×(List Int)) (r:List Int),lp (ZaD a0 a3) s4=some r→lpW ctx 0 [0,3,4,18,19,20] [4] ZqQ [(.d (D.rptr [(zL t0 a0),(zL t1 a1),(D.list t2 (List.map Zy a2)),(D.list t3 (List.map Zz a3)),(zL t4 a4),(zL t5 a5),(D.list t6 (List.map Zs a6)),(Za a7)])),(.d (D.bool false)),(.sl 0 1),(.d (zL t0 a0)),(.d (Za (a0.length:Int))),(.d (Za s4.1))] [(.arr 1 (List.map Za s4.2))]=some ((ZdW t0 t1 t2 t3 t4 t5 t6 a0 a1 a2 a3 a4 a5 a6 a7) r):=
 lpT (ZdW t0 t1 t2 t3 t4 t5 t6 a0 a1 a2 a3 a4 a5 a6 a7) fun s4 _ ih=>yB (yG fun x5 _=>
  yB (yG fun x6 _=>
  yB (yT (ZaJ (Zeg Za s4.2 1) (Zf (Zee Za s4.2 [s4.1]) (Zm (ih _)))
  Z3))
  (Zm (ih _)))
  (Zm (ih _)))
  (Zp rfl)
theorem ZeR {t0 t1:Bool}{t2 t3:Bool}{t4 t5 t6:Bool}{a0:List Int}{a1:List Int}{a2:List Zb}{a3:List Zh}{a4:List Int}{a5:List Int}{a6:List Zt}{a7:Int}:∀r,(ZbG a0 a2 a3)=some r→evD ctx 183 [(.d (D.rptr [(zL t0 a0),(zL t1 a1),(D.list t2 (List.map Zy a2)),(D.list t3 (List.map Zz a3)),(zL t4 a4),(zL t5 a5),(D.list t6 (List.map Zs a6)),(Za a7)]))]=some (ZiK r):=
 evT ZxA rfl rfl <| yC ZaV fun x0 _=>
  yB (Zf (Zr _ _) (Ze _ (Zg5 _) fun r3 _=>
  yR))
  (Zf (Zr _ _) (Ze _ (ZgA _) fun r7 _=>
  yR))
def ZiI (r:Bool):D:=(D.bool r)
theorem Zh0 {t0 t1:Bool}{t2 t3:Bool}{t4 t5 t6:Bool}{a:Int}{b0:List Int}{b1:List Int}{b2:List Zb}{b3:List Zh}{b4:List Int}{b5:List Int}{b6:List Zt}{b7:Int}:∀r,(Zam a b7)=some r→evD ctx 198 [(.d (Za a)),(.d (D.rptr [(D.rptr [(zL t0 b0),(zL t1 b1),(D.list t2 (List.map Zy b2)),(D.list t3 (List.map Zz b3)),(zL t4 b4),(zL t5 b5),(D.list t6 (List.map Zs b6)),(Za b7)])]))]=some (ZiI r):=
 evT ZxQ rfl rfl <| yBr yR
def ZbW (r:Int):D:=(Za r)
def Zad (t0:Bool) (t1:Bool) (t2:Bool) (t3:Bool) (t4:Bool) (t5:Bool) (t6:Bool) (t7:Bool) (a:List Int) (b0:List Int) (b1:List Int) (b2:List Zb) (b3:List Zh) (b4:List Int) (b5:List Int) (b6:List Zt) (b7:Int):(Int⊕Unit)→Ex×List V×Zd
  | (.inl r)=>(.ret,[(.d (Za r))],[])
  | (.inr r)=>(.exit 0,[.bad],[])
theorem Zbl {t0 t1:Bool}{t2 t3:Bool}{t4 t5:Bool}{t6 t7:Bool}{a:List Int}{b0:List Int}{b1:List Int}{b2:List Zb}{b3:List Zh}{b4:List Int}{b5:List Int}{b6:List Zt}{b7:Int}:∀(s0:Int) (r:(Int⊕Unit)),lp (Zv a (fun z0=>Zam z0 b7)) s0=some r→lpW ctx 0 [0,1,7,8] [4] ZlT [(.d (zL t0 a)),(.d (D.fn 198 [(D.rptr [(D.rptr [(zL t1 b0),(zL t2 b1),(D.list t3 (List.map Zy b2)),(D.list t4 (List.map Zz b3)),(zL t5 b4),(zL t6 b5),(D.list t7 (List.map Zs b6)),(Za b7)])])])),(.d (Za (a.length:Int))),(.d (Za s0))] []=some ((Zad t0 t1 t2 t3 t4 t5 t6 t7 a b0 b1 b2 b3 b4 b5 b6 b7) r):=
 lpT (Zad t0 t1 t2 t3 t4 t5 t6 t7 a b0 b1 b2 b3 b4 b5 b6 b7) fun s0 _ ih=>yB (yG fun x1 _=>
  yC Zh0 fun x2 _=>
  yB (Zp rfl)
  (Zm (ih _)))
  (Zp rfl)
theorem ZbK {t0 t1:Bool}{t2 t3:Bool}{t4 t5:Bool}{t6 t7:Bool}{a:List Int}{b0:List Int}{b1:List Int}{b2:List Zb}{b3:List Zh}{b4:List Int}{b5:List Int}{b6:List Zt}{b7:Int}:∀r,(ZB a (fun z0=>Zam z0 b7))=some r→evD ctx 99 [(.d (zL t0 a)),(.d (D.fn 198 [(D.rptr [(D.rptr [(zL t1 b0),(zL t2 b1),(D.list t3 (List.map Zy b2)),(D.list t4 (List.map Zz b3)),(zL t5 b4),(zL t6 b5),(D.list t7 (List.map Zs b6)),(Za b7)])])]))]=some (ZbW r):=
 evT ZsA rfl rfl <| Zf (Zr _ _) (by
 conv=>rhs;whnf
 refine Ze _ (Zbl _) fun r3 _=>?_
 rcases r3 with r3 | r3
 exact yR
 exact yR)
def ZjI (r:Int):D:=(Za r)
theorem ZiP {t0 t1:Bool}{t2 t3:Bool}{t4 t5:Bool}{t6 t7 t8:Bool}{a0:List Int}{a1:List Int}{a2:List Zb}{a3:List Zh}{a4:List Int}{a5:List Int}{a6:List Zt}{a7:Int}{b:List Int}{c:List Int}{d:Int}:∀r,(Zci a7 b c d)=some r→evD ctx 184 [(.d (D.rptr [(zL t0 a0),(zL t1 a1),(D.list t2 (List.map Zy a2)),(D.list t3 (List.map Zz a3)),(zL t4 a4),(zL t5 a5),(D.list t6 (List.map Zs a6)),(Za a7)])),(.d (zL t7 b)),(.d (zL t8 c)),(.d (Za d))]=some (ZjI r):=
 evT Zvt rfl rfl <| Zf (Zr _ _) (yB (yG fun x0 _=>
  Zf (Zr _ _) (yBn (yG fun x1 _=>
  yR)))
  (yC ZbK fun x2 _=>
  yG fun x3 _=>
  yR))
def ZlL (r:Bool):D:=(D.bool r)
theorem Zdv {a:Int}:∀r,(ZbL a)=some r→evD ctx 213 [(.d (Za a))]=some (ZlL r):=
 evT Zxi rfl rfl <| yBr (yBr yR)
def Zou (r:Bool):D:=(D.bool r)
theorem Zm6 {a:Zh}:∀r,(ZfT a)=some r→evD ctx 210 [(.d (D.agg [(D.bool a.steal),(Za a.at_),(Za a.top),(Za a.bottom),(Za a.got),(Za a.end_)]))]=some (Zou r):=
 evT ZxV rfl rfl <| yB (yB (yB (yB (yBr (yC Zdv fun x0 _=>
  yBr (yC Zdv fun x1 _=>
  yBr yR)))
  yR)
  yR)
  yR)
  (yB (yB (yB (yBr (yC Zdv fun x2 _=>
  yBr (yC Zdv fun x3 _=>
  yBr yR)))
  yR)
  yR)
  yR)
def Zo5 (t0:Bool) (a:Zb):Unit→V×Zd
  | r=>((.agg [(.sl 0 1),(.d (Za a.top)),(.d (Za a.bottom))]),[(.arr 1 (List.map Za a.ring))])
theorem Zi3 {t0:Bool}{a:Zb}:∀r,(Zfo a)=some r→evW ctx 193 [(.d (D.agg [(zL t0 a.ring),(Za a.top),(Za a.bottom)]))] []=some ((Zo5 t0 a) r):=
 evS Zwb rfl rfl <| Ze _ Zo fun x0 _=>
  yR
def Zm2 (r:Int):D:=(Za r)
theorem ZdS {t0:Bool}{a:Zb}{b:Int}:∀r,(Zcm a b)=some r→evD ctx 194 [(.d (D.agg [(zL t0 a.ring),(Za a.top),(Za a.bottom)])),(.d (Za b))]=some (Zm2 r):=
 evT ZvS rfl rfl <| Zf (Zr _ _) (yBn yR)
def ZoO (m0_0:Int) (m0_1:Int) (m1_0:Bool) (m1_1:Int) (m1_2:Int) (m1_3:Int) (m1_4:Int) (m1_5:Int) (m2_0:List Int):(Unit⊕Unit)→V×Zd
  | (.inl r)=>((.d (D.bool false)),[(.cells [(.sl 2 1),(.d (Za m0_0)),(.d (Za m0_1))]),(.cells [(.d (D.bool m1_0)),(.d (Za m1_1)),(.d (Za m1_2)),(.d (Za m1_3)),(.d (Za m1_4)),(.d (Za m1_5))]),(.arr 1 (List.map Za m2_0))])
  | (.inr r)=>((.d (D.bool true)),[(.cells [(.sl 2 1),(.d (Za (w64 (m0_0+1)))),(.d (Za m0_1))]),(.cells [(.d (D.bool m1_0)),(.d (Za m1_1)),(.d (Za m1_2)),(.d (Za m1_3)),(.d (Za m1_4)),(.d (Za m1_5))]),(.arr 1 (List.map Za m2_0))])
theorem Ziz {m0_0 m0_1:Int}{m1_0:Bool}{m1_1 m1_2:Int}{m1_3 m1_4 m1_5:Int}{m2_0:List Int}:∀r,(Zc3 m0_0 m1_2)=some r→evW ctx 214 [(.ptr 0 0),(.ptr 1 0)] [(.cells [(.sl 2 1),(.d (Za m0_0)),(.d (Za m0_1))]),(.cells [(.d (D.bool m1_0)),(.d (Za m1_1)),(.d (Za m1_2)),(.d (Za m1_3)),(.d (Za m1_4)),(.d (Za m1_5))]),(.arr 1 (List.map Za m2_0))]=some ((ZoO m0_0 m0_1 m1_0 m1_1 m1_2 m1_3 m1_4 m1_5 m2_0) r):=
 evS ZwT rfl rfl <| yBr yR
def Zm0 (m0_0:Int) (m0_1:Int) (m1_0:Bool) (m1_1:Int) (m1_2:Int) (m1_3:Int) (m1_4:Int) (m1_5:Int) (m2_0:List Int):(Int×Int×Int×Int×Int×Int)→V×Zd
  | r=>((.d (D.tup [])),[(.cells [(.sl 2 1),(.d (Za r.1)),(.d (Za m0_1))]),(.cells [(.d (D.bool m1_0)),(.d (Za r.2.1)),(.d (Za r.2.2.1)),(.d (Za r.2.2.2.1)),(.d (Za r.2.2.2.2.1)),(.d (Za r.2.2.2.2.2))]),(.arr 1 (List.map Za m2_0))])
theorem Zl9 {m0_0 m0_1:Int}{m1_0:Bool}{m1_1 m1_2:Int}{m1_3 m1_4 m1_5:Int}{m2_0:List Int}:∀r,(ZaZ m0_0 m0_1 m1_1 m1_2 m1_3 m1_4 m1_5 m2_0)=some r→evW ctx 211 [(.ptr 0 0),(.ptr 1 0)] [(.cells [(.sl 2 1),(.d (Za m0_0)),(.d (Za m0_1))]),(.cells [(.d (D.bool m1_0)),(.d (Za m1_1)),(.d (Za m1_2)),(.d (Za m1_3)),(.d (Za m1_4)),(.d (Za m1_5))]),(.arr 1 (List.map Za m2_0))]=some ((Zm0 m0_0 m0_1 m1_0 m1_1 m1_2 m1_3 m1_4 m1_5 m2_0) r):=
 evS ZwN rfl rfl <| yBr (yB (yBr yR)
  (yB (yC ZdS fun x0 _=>
  yG fun x1 hx1=>
  Zq (Z1 rfl hx1) yR)
  (by
 conv=>rhs;whnf
 refine Ze _ Ziz fun x2 _=>?_
 rcases x2 with x2 | x2
 exact yR
 exact yR)))
def Zpk (m0_0:Int) (m0_1:Int) (m1_0:Bool) (m1_1:Int) (m1_2:Int) (m1_3:Int) (m1_4:Int) (m1_5:Int) (m2_0:List Int):(Int×Int×Int×Int×Int×Int×Int)→V×Zd
  | r=>((.d (D.tup [])),[(.cells [(.sl 2 1),(.d (Za r.1)),(.d (Za r.2.1))]),(.cells [(.d (D.bool m1_0)),(.d (Za r.2.2.1)),(.d (Za r.2.2.2.1)),(.d (Za r.2.2.2.2.1)),(.d (Za r.2.2.2.2.2.1)),(.d (Za r.2.2.2.2.2.2))]),(.arr 1 (List.map Za m2_0))])
theorem Zob {m0_0 m0_1:Int}{m1_0:Bool}{m1_1 m1_2:Int}{m1_3 m1_4 m1_5:Int}{m2_0:List Int}:∀r,(Za5 m0_0 m0_1 m1_1 m1_2 m1_3 m1_4 m1_5 m2_0)=some r→evW ctx 212 [(.ptr 0 0),(.ptr 1 0)] [(.cells [(.sl 2 1),(.d (Za m0_0)),(.d (Za m0_1))]),(.cells [(.d (D.bool m1_0)),(.d (Za m1_1)),(.d (Za m1_2)),(.d (Za m1_3)),(.d (Za m1_4)),(.d (Za m1_5))]),(.arr 1 (List.map Za m2_0))]=some ((Zpk m0_0 m0_1 m1_0 m1_1 m1_2 m1_3 m1_4 m1_5 m2_0) r):=
 evS Zxc rfl rfl <| yBr (yB (yB (yC ZdS fun x0 _=>
  yG fun x1 hx1=>
  Zq (Z1 rfl hx1) yR)
  (yBr yR))
  (yB ((by
 conv=>rhs;whnf
 refine Ze _ Ziz fun x2 _=>?_
 rcases x2 with x2 | x2
 exact yR
 exact yC ZdS fun x3 _=>
  yG fun x4 hx4=>
  Zq (Z1 rfl hx4) yR))
  (yBr yR)))
def ZoL (r:(Zb×Zh×Int)):D:=(D.tup [(D.agg [(zL true r.1.ring),(Za r.1.top),(Za r.1.bottom)]),(D.agg [(D.bool r.2.1.steal),(Za r.2.1.at_),(Za r.2.1.top),(Za r.2.1.bottom),(Za r.2.1.got),(Za r.2.1.end_)]),(Za r.2.2)])
theorem ZmM {t0:Bool}{a:Zb}{b:Zh}:∀r,(Zav a b)=some r→evD ctx 199 [(.d (D.agg [(zL t0 a.ring),(Za a.top),(Za a.bottom)])),(.d (D.agg [(D.bool b.steal),(Za b.at_),(Za b.top),(Za b.bottom),(Za b.got),(Za b.end_)]))]=some (ZoL r):=
 evT ZwB rfl rfl <| yC ZcP fun x0 _=>
  yBr (yC Zm6 fun x1 _=>
  yB (Ze _ Zi3 fun x2 _=>
  yB (Ze _ Zl9 fun x3 _=>
  yC ZcP fun x4 _=>
  yBr yR)
  (Ze _ Zob fun x5 _=>
  yC ZcP fun x6 _=>
  yBr yR))
  yR)
def ZnV (r:List Int):D:=(zL true r)
def Zg0 (t0:Bool) (t1:Bool) (t2:Bool) (t3:Bool) (a:Zi) (b:ZD):(List Int)→Ex×List V×Zd
  | r=>(.exit 0,[(.sl 0 1)],[(.arr 1 (List.map Za r))])
theorem Zkq {t0 t1:Bool}{t2 t3:Bool}{a:Zi}{b:ZD}:∀(s0:Int×(List Int)) (r:List Int),lp (Zc8 a b) s0=some r→lpW ctx 0 [2,3,5,9,10] [5] ZtC [(.ptr 0 0),(.ptr 1 0),(.sl 2 1),(.d (Za (b.left.length:Int))),(.d (Za s0.1))] [(.cells [(.d (zL t0 a.work)),(.d (D.list t1 (List.map Zs a.edges)))]),(.cells [(.d (zL t2 b.on)),(.d (zL t3 b.left))]),(.arr 1 (List.map Za s0.2))]=some ((Zg0 t0 t1 t2 t3 a b) r):=
 lpT (Zg0 t0 t1 t2 t3 a b) fun s0 _ ih=>yB (yC ZdD fun x1 _=>
  yB (Zm (ih _))
  (yC ZU fun x2 _=>
  yB (Zm (ih _))
  (yC Zgb fun x3 _=>
  yB (yT (ZaJ (Zeg Za s0.2 1) (Zf (Zee Za s0.2 [s0.1]) (Zm (ih _)))
  Z3))
  (Zm (ih _)))))
  (Zp rfl)
theorem Ziy {t0 t1:Bool}{t2 t3:Bool}{a:Zi}{b:ZD}:∀r,(Zey a b)=some r→evD ctx 177 [(.d (D.agg [(zL t0 a.work),(D.list t1 (List.map Zs a.edges))])),(.d (D.agg [(zL t2 b.on),(zL t3 b.left)]))]=some (ZnV r):=
 evT Zvy rfl rfl <| Zf (Zr _ _) (Ze _ (Zkq _) fun r4 _=>
  yR)
def ZnI (r:List Int):D:=(zL true r)
theorem ZfI {t0 t1:Bool}{t2 t3:Bool}{a:Zi}{b:ZD}:∀r,(Zch a b)=some r→evD ctx 169 [(.d (D.agg [(zL t0 a.work),(D.list t1 (List.map Zs a.edges))])),(.d (D.agg [(zL t2 b.on),(zL t3 b.left)]))]=some (ZnI r):=
 evT ZwI rfl rfl <| yC Zec fun x0 _=>
  yBr (yC Ziy fun x1 _=>
  yR)
def Zjl (t0:Bool) (t1:Bool) (b:Int) (c:Int) (m0_0:List Int) (m0_1:List Zt) (m0_2:Int) (m1_0:List Int) (m2_0:List Int) (m3_0:List Zb) (m4_0:List Zh) (m5_0:List Int):(List Zh)→V×Zd
  | r=>((.d (D.tup [])),[(.cells [(.sl 1 1),(.sl 2 1),(.sl 3 3),(.sl 4 6),(.sl 5 1),(.d (zL t0 m0_0)),(.d (D.list t1 (List.map Zs m0_1))),(.d (Za m0_2))]),(.arr 1 (List.map Za m1_0)),(.arr 1 (List.map Za m2_0)),(.arr 3 (List.map Zy m3_0)),(.arr 6 (List.map Zz r)),(.arr 1 (List.map Za (List.set m5_0 b.toNat c)))])
theorem Zdo {t0 t1:Bool}{b c:Int}{m0_0:List Int}{m0_1:List Zt}{m0_2:Int}{m1_0:List Int}{m2_0:List Int}{m3_0:List Zb}{m4_0:List Zh}{m5_0:List Int}:∀r,(ZaX b c m4_0 m5_0)=some r→evW ctx 200 [(.ptr 0 0),(.d (Za b)),(.d (Za c))] [(.cells [(.sl 1 1),(.sl 2 1),(.sl 3 3),(.sl 4 6),(.sl 5 1),(.d (zL t0 m0_0)),(.d (D.list t1 (List.map Zs m0_1))),(.d (Za m0_2))]),(.arr 1 (List.map Za m1_0)),(.arr 1 (List.map Za m2_0)),(.arr 3 (List.map Zy m3_0)),(.arr 6 (List.map Zz m4_0)),(.arr 1 (List.map Za m5_0))]=some ((Zjl t0 t1 b c m0_0 m0_1 m0_2 m1_0 m2_0 m3_0 m4_0 m5_0) r):=
 evS Zxn rfl rfl <| yG fun x0 hx0=>
  Zq (Z1 rfl hx0) (Zf (Zbp Za m5_0 b.toNat c) (yB (yG fun x1 hx1=>
  Zq (Z1 rfl hx1) (Zf (Zbp Zz m4_0 b.toNat (Zh.mk true 0 0 0 0 0)) yR))
  (yG fun x2 hx2=>
  Zq (Z1 rfl hx2) (Zf (Zbp Zz m4_0 b.toNat (Zh.mk false 0 0 0 0 0)) yR))))
def ZjU (t0:Bool) (t1:Bool) (b:Int) (m0_0:List Int) (m0_1:List Zt) (m0_2:Int) (m1_0:List Int) (m2_0:List Int) (m3_0:List Zb) (m4_0:List Zh) (m5_0:List Int):(Int×(List Int)×(List Zb)×(List Zh)×(List Int))→V×Zd
  | r=>((.d (Za r.1)),[(.cells [(.sl 1 1),(.sl 2 1),(.sl 3 3),(.sl 4 6),(.sl 5 1),(.d (zL t0 m0_0)),(.d (D.list t1 (List.map Zs m0_1))),(.d (Za m0_2))]),(.arr 1 (List.map Za r.2.1)),(.arr 1 (List.map Za m2_0)),(.arr 3 (List.map Zy r.2.2.1)),(.arr 6 (List.map Zz r.2.2.2.1)),(.arr 1 (List.map Za r.2.2.2.2))])
theorem Zji {t0 t1:Bool}{b:Int}{m0_0:List Int}{m0_1:List Zt}{m0_2:Int}{m1_0:List Int}{m2_0:List Int}{m3_0:List Zb}{m4_0:List Zh}{m5_0:List Int}:∀r,(Zac b m0_0 m0_1 m1_0 m2_0 m3_0 m4_0 m5_0)=some r→evW ctx 185 [(.ptr 0 0),(.d (Za b))] [(.cells [(.sl 1 1),(.sl 2 1),(.sl 3 3),(.sl 4 6),(.sl 5 1),(.d (zL t0 m0_0)),(.d (D.list t1 (List.map Zs m0_1))),(.d (Za m0_2))]),(.arr 1 (List.map Za m1_0)),(.arr 1 (List.map Za m2_0)),(.arr 3 (List.map Zy m3_0)),(.arr 6 (List.map Zz m4_0)),(.arr 1 (List.map Za m5_0))]=some ((ZjU t0 t1 b m0_0 m0_1 m0_2 m1_0 m2_0 m3_0 m4_0 m5_0) r):=
 evS Zxy rfl rfl <| Zf (Zr _ _) (yG fun x0 hx0=>
  Zq (Z1 rfl hx0) (yBn (yG fun x1 hx1=>
  Zq (Z1 rfl hx1) (yG fun x2 hx2=>
  Zq (Z1 rfl hx2) (yC ZmM fun x3 _=>
  yBr (Zq (ZdK rfl hx1) (Zq (Z1 rfl hx1) (Zf (Zbp Zy m3_0 (Int.tmod (w64 (b+x0)) (m1_0.length:Int)).toNat x3.1) (Zq (ZdK rfl hx2) (Zq (Z1 rfl hx2) (Zf (Zbp Zz m4_0 b.toNat x3.2.1) (yB (yC ZfI fun x4 _=>
  yC ZU fun x5 _=>
  yB (yG fun x6 hx6=>
  Zq (Z1 rfl hx6) (Zf (Zbp Za m1_0 b.toNat x3.2.1.got) (Ze _ Zdo fun x7 _=>
  yR)))
  yR)
  (yB (Zq (ZdK rfl hx0) (Zq (Z1 rfl hx0) (yBn (Ze _ Zdo fun x8 _=>
  yR))))
  (yB (Zq (ZdK rfl hx0) (Zq (Z1 rfl hx0) (yBn (Ze _ Zdo fun x9 _=>
  yR))))
  yR))))))))))))))
def ZjO (t0:Bool) (t1:Bool) (t2:Bool) (b:List Int) (m0_0:List Int) (m0_1:List Zt) (m0_2:Int) (m1_0:List Int) (m2_0:List Int) (m3_0:List Zb) (m4_0:List Zh) (m5_0:List Int):(Int×Int×Int×(List Int)×(List Zb)×(List Zh)×(List Int))→V×Zd
  | r=>((.d (D.tup [(Za r.1),(Za r.2.1)])),[(.cells [(.sl 1 1),(.sl 2 1),(.sl 3 3),(.sl 4 6),(.sl 5 1),(.d (zL t1 m0_0)),(.d (D.list t2 (List.map Zs m0_1))),(.d (Za r.2.2.1))]),(.arr 1 (List.map Za r.2.2.2.1)),(.arr 1 (List.map Za m2_0)),(.arr 3 (List.map Zy r.2.2.2.2.1)),(.arr 6 (List.map Zz r.2.2.2.2.2.1)),(.arr 1 (List.map Za r.2.2.2.2.2.2))])
def ZeF (t0:Bool) (t1:Bool) (t2:Bool) (b:List Int) (m0_0:List Int) (m0_1:List Zt) (m2_0:List Int):((Int×Int×Int×(List Int)×(List Zb)×(List Zh)×(List Int))⊕(Int×Int×(List Int)×(List Zb)×(List Zh)×(List Int)))→Ex×List V×Zd
  | (.inl r)=>(.ret,[(.d (Za 0)),(.d (Za r.1)),(.d (Za r.2.1))],[(.cells [(.sl 1 1),(.sl 2 1),(.sl 3 3),(.sl 4 6),(.sl 5 1),(.d (zL t1 m0_0)),(.d (D.list t2 (List.map Zs m0_1))),(.d (Za r.2.2.1))]),(.arr 1 (List.map Za r.2.2.2.1)),(.arr 1 (List.map Za m2_0)),(.arr 3 (List.map Zy r.2.2.2.2.1)),(.arr 6 (List.map Zz r.2.2.2.2.2.1)),(.arr 1 (List.map Za r.2.2.2.2.2.2))])
  | (.inr r)=>(.exit 0,[.bad,.bad,(.d (Za r.1))],[(.cells [(.sl 1 1),(.sl 2 1),(.sl 3 3),(.sl 4 6),(.sl 5 1),(.d (zL t1 m0_0)),(.d (D.list t2 (List.map Zs m0_1))),(.d (Za r.2.1))]),(.arr 1 (List.map Za r.2.2.1)),(.arr 1 (List.map Za m2_0)),(.arr 3 (List.map Zy r.2.2.2.1)),(.arr 6 (List.map Zz r.2.2.2.2.1)),(.arr 1 (List.map Za r.2.2.2.2.2))])
theorem ZhL {t0 t1 t2:Bool}{b:List Int}{m0_0:List Int}{m0_1:List Zt}{m2_0:List Int}:∀(s1:Int×(List Int)×Int×(List Int)×(List Zb)×(List Zh)×(List Int)) (r:((Int×Int×Int×(List Int)×(List Zb)×(List Zh)×(List Int))⊕(Int×Int×(List Int)×(List Zb)×(List Zh)×(List Int)))),lp (Za4 b m0_0 m0_1 m2_0) s1=some r→lpW ctx 6 [0,1,6,7] [4,5,6] ZtB [(.ptr 0 0),(.d (zL t0 b)),(.d (Za s1.1)),(.d (zL true s1.2.1))] [(.cells [(.sl 1 1),(.sl 2 1),(.sl 3 3),(.sl 4 6),(.sl 5 1),(.d (zL t1 m0_0)),(.d (D.list t2 (List.map Zs m0_1))),(.d (Za s1.2.2.1))]),(.arr 1 (List.map Za s1.2.2.2.1)),(.arr 1 (List.map Za m2_0)),(.arr 3 (List.map Zy s1.2.2.2.2.1)),(.arr 6 (List.map Zz s1.2.2.2.2.2.1)),(.arr 1 (List.map Za s1.2.2.2.2.2.2))]=some ((ZeF t0 t1 t2 b m0_0 m0_1 m2_0) r):=
 lpT (ZeF t0 t1 t2 b m0_0 m0_1 m2_0) fun s1 _ ih=>Zf (Zr _ _) (yB (yC ZiP fun x2 _=>
  Ze _ Zji fun x3 _=>
  yB (Zp rfl)
  (yC ZeR fun x4 _=>
  Zm (ih _)))
  (Zp rfl))
theorem ZiO {t0 t1 t2:Bool}{b:List Int}{m0_0:List Int}{m0_1:List Zt}{m0_2:Int}{m1_0:List Int}{m2_0:List Int}{m3_0:List Zb}{m4_0:List Zh}{m5_0:List Int}:∀r,(Zdp b m0_0 m0_1 m1_0 m2_0 m3_0 m4_0 m5_0)=some r→evW ctx 174 [(.ptr 0 0),(.d (zL t0 b))] [(.cells [(.sl 1 1),(.sl 2 1),(.sl 3 3),(.sl 4 6),(.sl 5 1),(.d (zL t1 m0_0)),(.d (D.list t2 (List.map Zs m0_1))),(.d (Za m0_2))]),(.arr 1 (List.map Za m1_0)),(.arr 1 (List.map Za m2_0)),(.arr 3 (List.map Zy m3_0)),(.arr 6 (List.map Zz m4_0)),(.arr 1 (List.map Za m5_0))]=some ((ZjO t0 t1 t2 b m0_0 m0_1 m0_2 m1_0 m2_0 m3_0 m4_0 m5_0) r):=
 evS Zxj rfl rfl <| yC ZeR fun x0 _=>
  (by
 conv=>rhs;whnf
 refine Ze _ (ZhL _) fun r5 _=>?_
 rcases r5 with r5 | r5
 exact yR
 exact yR)
def ZoR (r:(ZP×Int×Int)):D:=(D.tup [(D.agg [(zL true r.1.crew.on),(zL true r.1.crew.left),(D.list true (List.map Zy r.1.deques)),(D.list true (List.map Zz r.1.takers)),(zL true r.1.from_)]),(Za r.2.1),(Za r.2.2)])
theorem ZmO {t0 t1:Bool}{t2 t3:Bool}{t4 t5:Bool}{t6 t7:Bool}{a:Zi}{b:ZP}{c:List Int}:∀r,(ZfZ a b c)=some r→evD ctx 165 [(.d (D.agg [(zL t0 a.work),(D.list t1 (List.map Zs a.edges))])),(.d (D.agg [(zL t2 b.crew.on),(zL t3 b.crew.left),(D.list t4 (List.map Zy b.deques)),(D.list t5 (List.map Zz b.takers)),(zL t6 b.from_)])),(.d (zL t7 c))]=some (ZoR r):=
 evT ZvZ rfl rfl <| yC Zhn fun x0 _=>
  yBr (Ze _ Zjj fun x1 _=>
  Ze _ ZiO fun x2 _=>
  yBr yR)
def Zkg (r:(ZP×Int×Int)):D:=(D.tup [(D.agg [(zL true r.1.crew.on),(zL true r.1.crew.left),(D.list true (List.map Zy r.1.deques)),(D.list true (List.map Zz r.1.takers)),(zL true r.1.from_)]),(Za r.2.1),(Za r.2.2)])
theorem ZfL {t0 t1:Bool}{t2 t3:Bool}{t4 t5:Bool}{t6 t7:Bool}{a:ZiM}{b:Zi}{c:ZP}{d:List Int}:∀r,(ZdT a b c d)=some r→evD ctx 161 [(.d (D.agg [])),(.d (D.agg [(zL t0 b.work),(D.list t1 (List.map Zs b.edges))])),(.d (D.agg [(zL t2 c.crew.on),(zL t3 c.crew.left),(D.list t4 (List.map Zy c.deques)),(D.list t5 (List.map Zz c.takers)),(zL t6 c.from_)])),(.d (zL t7 d))]=some (Zkg r):=
 evT ZvL rfl rfl <| yC ZmO fun x0 _=>
  yR
def ZqT (t0:Bool) (t1:Bool) (a:ZD):Unit→V×Zd
  | r=>((.agg [(.sl 0 1),(.sl 1 1)]),[(.arr 1 (List.map Za a.on)),(.arr 1 (List.map Za a.left))])
theorem Zj1 {t0 t1:Bool}{a:ZD}:∀r,(ZeY a)=some r→evW ctx 201 [(.d (D.agg [(zL t0 a.on),(zL t1 a.left)]))] []=some ((ZqT t0 t1 a) r):=
 evS ZwX rfl rfl <| Ze _ Zo fun x0 _=>
  Ze _ Zo fun x1 _=>
  yR
def ZgE (m0_0:List Int):(List Int)→V×Zd
  | r=>((.d (D.tup [])),[(.arr 1 (List.map Za r))])
theorem ZbH {m0_0:List Int}:∀r,(ZaB m0_0)=some r→evW ctx 110 [(.sl 0 1)] [(.arr 1 (List.map Za m0_0))]=some ((ZgE m0_0) r):=
 evS Zza rfl rfl <| Zq (Zsp rfl) (yBm (Zxr yR))
def Zo4 (m0_0:List Int) (m1_0:List Int):((List Int)×(List Int)×(List Int))→V×Zd
  | r=>((.sl 2 1),[(.arr 1 (List.map Za r.1)),(.arr 1 (List.map Za r.2.1)),(.arr 1 (List.map Za r.2.2))])
def Zhm (m0_0:List Int):((List Int)×(List Int)×(List Int))→Ex×List V×Zd
  | r=>(.exit 0,[(.sl 2 1)],[(.arr 1 (List.map Za r.1)),(.arr 1 (List.map Za r.2.1)),(.arr 1 (List.map Za r.2.2))])
theorem ZkX {m0_0:List Int}:∀(s0:Int×(List Int)×(List Int)×(List Int)) (r:((List Int)×(List Int)×(List Int))),lp (ZcR m0_0) s0=some r→lpW ctx 2 [1,3,7,8,9] [3] Zuh [(.ptr 2 0),(.sl 3 1),(.sl 0 1),(.d (Za (m0_0.length:Int))),(.d (Za s0.1))] [(.arr 1 (List.map Za s0.2.1)),(.arr 1 (List.map Za s0.2.2.1)),(.cells [(.sl 0 1),(.sl 1 1)]),(.arr 1 (List.map Za s0.2.2.2))]=some ((Zhm m0_0) r):=
 lpT (Zhm m0_0) fun s0 _ ih=>yB (yG fun x1 hx1=>
  Zq (Z1 rfl hx1) (yB (Zm (ih _))
  (yG fun x2 hx2=>
  Zq (Z1 rfl hx2) (Zq (ZdK rfl hx2) (Zq (Z1 rfl hx2) (Zf (Zbp Za s0.2.2.1 x1.toNat (w64 (x2-1))) (yC ZdD fun x3 _=>
  yB (Zq (ZdK rfl hx1) (Zq (Z1 rfl hx1) (Zf (Zbp Za s0.2.1 s0.1.toNat (-1)) (yT (ZaJ (Zeg Za s0.2.2.2 1) (Zf (Zee Za s0.2.2.2 [x1]) (Zm (ih _)))
  Z3)))))
  (Zm (ih _)))))))))
  (Zp rfl)
theorem ZnW {m0_0:List Int}{m1_0:List Int}:∀r,(Zjq m0_0 m1_0)=some r→evW ctx 202 [(.agg [(.sl 0 1),(.sl 1 1)])] [(.arr 1 (List.map Za m0_0)),(.arr 1 (List.map Za m1_0))]=some ((Zo4 m0_0 m1_0) r):=
 evS Zwd rfl rfl <| Zf (Zr _ _) (Ze _ (ZkX _) fun r4 _=>
  Ze _ ZbH fun x5 _=>
  yR)
def Zpv (t0:Bool) (t1:Bool) (t2:Bool) (t3:Bool) (a:Zi) (b:ZD):(Int⊕((List Int)×(List Int)×(List Int)))→V×Zd
  | (.inl r)=>((.tup [(.agg [(.nilsl 1),(.nilsl 1)]),(.nilsl 1),(.d (Za r))]),[])
  | (.inr r)=>((.tup [(.agg [(.sl 0 1),(.sl 1 1)]),(.sl 2 1),(.d (Za 0))]),[(.arr 1 (List.map Za r.1)),(.arr 1 (List.map Za r.2.1)),(.arr 1 (List.map Za r.2.2))])
theorem ZiR {t0 t1:Bool}{t2 t3:Bool}{a:Zi}{b:ZD}:∀r,(Zfm a b)=some r→evW ctx 186 [(.d (D.agg [(zL t0 a.work),(D.list t1 (List.map Zs a.edges))])),(.d (D.agg [(zL t2 b.on),(zL t3 b.left)]))] []=some ((Zpv t0 t1 t2 t3 a b) r):=
 evS Zv9 rfl rfl <| yC Zec fun x0 _=>
  yBr (Ze _ Zj1 fun x1 _=>
  Ze _ ZnW fun x2 _=>
  yR)
def Znd (r:(Int×Bool)):D:=(D.tup [(Za r.1),(D.bool r.2)])
theorem Zl7 {a:Zt}{b0:Int}:∀r,(Zdh a b0)=some r→evD ctx 203 [(.d (D.agg [(Za a.src),(Za a.dst)])),(.d (D.rptr [(Za b0)]))]=some (Znd r):=
 evT ZxW rfl rfl <| yBr yR
def Zg8 (r:List Int):D:=(zL true r)
def Zdr (t1:Bool) (a:Zi) (b0:Int):(List Int)→Ex×List V×Zd
  | r=>(.exit 0,[(.sl 0 1)],[(.arr 1 (List.map Za r))])
theorem ZfD {t1:Bool}{a:Zi}{b0:Int}:∀(s0:Int×(List Int)) (r:List Int),lp (Zbt a (fun z0=>Zdh z0 b0)) s0=some r→lpW ctx 0 [1,5,11,12,13] [5] Zta [(.d (D.fn 203 [(D.rptr [(Za b0)])])),(.sl 0 1),(.d (D.list t1 (List.map Zs a.edges))),(.d (Za (a.edges.length:Int))),(.d (Za s0.1))] [(.arr 1 (List.map Za s0.2))]=some ((Zdr t1 a b0) r):=
 lpT (Zdr t1 a b0) fun s0 _ ih=>yB (yG fun x1 _=>
  yC Zl7 fun x2 _=>
  yB (yT (ZaJ (Zeg Za s0.2 1) (Zf (Zee Za s0.2 [x2.1]) (Zm (ih _)))
  Z3))
  (Zm (ih _)))
  (Zp rfl)
theorem ZgF {t0 t1:Bool}{a:Zi}{b0:Int}:∀r,(Zf4 a (fun z0=>Zdh z0 b0))=some r→evD ctx 92 [(.d (D.agg [(zL t0 a.work),(D.list t1 (List.map Zs a.edges))])),(.d (D.fn 203 [(D.rptr [(Za b0)])]))]=some (Zg8 r):=
 evT Zx8 rfl rfl <| Zf (Zr _ _) (Ze _ (ZfD _) fun r3 _=>
  Ze _ ZbH fun x4 _=>
  yR)
def Zo8 (r:List Int):D:=(zL true r)
theorem Zor {t0 t1:Bool}{a:Zi}{b:Int}:∀r,(ZgO a b)=some r→evD ctx 187 [(.d (D.agg [(zL t0 a.work),(D.list t1 (List.map Zs a.edges))])),(.d (Za b))]=some (Zo8 r):=
 evT Zvu rfl rfl <| yC ZcL fun x0 _=>
  yBr (yC ZgF fun x1 _=>
  yR)
def Zn5 (r:(Zb×Int)):D:=(D.tup [(D.agg [(zL true r.1.ring),(Za r.1.top),(Za r.1.bottom)]),(Za r.2)])
theorem ZmU {t0:Bool}{a:Zb}{b:Int}:∀r,(Zib a b)=some r→evD ctx 178 [(.d (D.agg [(zL t0 a.ring),(Za a.top),(Za a.bottom)])),(.d (Za b))]=some (Zn5 r):=
 evT Zw7 rfl rfl <| yC ZcP fun x0 _=>
  yBr (yBr (Zf (Zr _ _) (yBr (Ze _ Zi3 fun x1 _=>
  yC ZdS fun x2 _=>
  yG fun x3 hx3=>
  Zq (Z1 rfl hx3) (Zf (Zbp Za a.ring x2.toNat b) yR)))))
def ZjL (t0:Bool) (t1:Bool) (b:Int) (c:Int) (m0_0:List Int) (m0_1:List Zt) (m0_2:Int) (m1_0:List Int) (m2_0:List Int) (m3_0:List Zb) (m4_0:List Zh) (m5_0:List Int):((List Zb)⊕(List Zb))→V×Zd
  | (.inl r)=>((.d (D.bool true)),[(.cells [(.sl 1 1),(.sl 2 1),(.sl 3 3),(.sl 4 6),(.sl 5 1),(.d (zL t0 m0_0)),(.d (D.list t1 (List.map Zs m0_1))),(.d (Za m0_2))]),(.arr 1 (List.map Za m1_0)),(.arr 1 (List.map Za m2_0)),(.arr 3 (List.map Zy r)),(.arr 6 (List.map Zz m4_0)),(.arr 1 (List.map Za m5_0))])
  | (.inr r)=>((.d (D.bool false)),[(.cells [(.sl 1 1),(.sl 2 1),(.sl 3 3),(.sl 4 6),(.sl 5 1),(.d (zL t0 m0_0)),(.d (D.list t1 (List.map Zs m0_1))),(.d (Za m0_2))]),(.arr 1 (List.map Za m1_0)),(.arr 1 (List.map Za m2_0)),(.arr 3 (List.map Zy r)),(.arr 6 (List.map Zz m4_0)),(.arr 1 (List.map Za m5_0))])
theorem Zft {t0 t1:Bool}{b c:Int}{m0_0:List Int}{m0_1:List Zt}{m0_2:Int}{m1_0:List Int}{m2_0:List Int}{m3_0:List Zb}{m4_0:List Zh}{m5_0:List Int}:∀r,(Zcg b c m3_0)=some r→evW ctx 170 [(.ptr 0 0),(.d (Za b)),(.d (Za c))] [(.cells [(.sl 1 1),(.sl 2 1),(.sl 3 3),(.sl 4 6),(.sl 5 1),(.d (zL t0 m0_0)),(.d (D.list t1 (List.map Zs m0_1))),(.d (Za m0_2))]),(.arr 1 (List.map Za m1_0)),(.arr 1 (List.map Za m2_0)),(.arr 3 (List.map Zy m3_0)),(.arr 6 (List.map Zz m4_0)),(.arr 1 (List.map Za m5_0))]=some ((ZjL t0 t1 b c m0_0 m0_1 m0_2 m1_0 m2_0 m3_0 m4_0 m5_0) r):=
 evS Zwm rfl rfl <| yG fun x0 hx0=>
  Zq (Z1 rfl hx0) (yC ZmU fun x1 _=>
  yB (Zq (ZdK rfl hx0) (Zq (Z1 rfl hx0) (Zf (Zbp Zy m3_0 b.toNat x1.1) (yBr yR))))
  (yBr yR))
def ZjX (t0:Bool) (t1:Bool) (m0_0:List Int) (m0_1:List Zt) (m0_2:Int) (m1_0:List Int) (m2_0:List Int) (m3_0:List Zb) (m4_0:List Zh) (m5_0:List Int):(Int⊕(((List Zb)×(List Int)×(List Int))⊕((List Zb)×(List Int)×(List Int)×(List Int))))→V×Zd
  | (.inl r)=>((.tup [(.nilsl 1),(.d (Za r))]),[(.cells [(.sl 1 1),(.sl 2 1),(.sl 3 3),(.sl 4 6),(.sl 5 1),(.d (zL t0 m0_0)),(.d (D.list t1 (List.map Zs m0_1))),(.d (Za m0_2))]),(.arr 1 (List.map Za m1_0)),(.arr 1 (List.map Za m2_0)),(.arr 3 (List.map Zy m3_0)),(.arr 6 (List.map Zz m4_0)),(.arr 1 (List.map Za m5_0))])
  | (.inr (.inl r))=>((.tup [(.nilsl 1),(.d (Za 130))]),[(.cells [(.sl 6 1),(.sl 7 1),(.sl 3 3),(.sl 4 6),(.sl 5 1),(.d (zL t0 m0_0)),(.d (D.list t1 (List.map Zs m0_1))),(.d (Za m0_2))]),(.arr 1 (List.map Za m1_0)),(.arr 1 (List.map Za m2_0)),(.arr 3 (List.map Zy r.1)),(.arr 6 (List.map Zz m4_0)),(.arr 1 (List.map Za m5_0)),(.arr 1 (List.map Za r.2.1)),(.arr 1 (List.map Za r.2.2))])
  | (.inr (.inr r))=>((.tup [(.sl 6 1),(.d (Za 0))]),[(.cells [(.sl 7 1),(.sl 8 1),(.sl 3 3),(.sl 4 6),(.sl 5 1),(.d (zL t0 m0_0)),(.d (D.list t1 (List.map Zs m0_1))),(.d (Za m0_2))]),(.arr 1 (List.map Za m1_0)),(.arr 1 (List.map Za m2_0)),(.arr 3 (List.map Zy r.1)),(.arr 6 (List.map Zz m4_0)),(.arr 1 (List.map Za m5_0)),(.arr 1 (List.map Za r.2.1)),(.arr 1 (List.map Za r.2.2.1)),(.arr 1 (List.map Za r.2.2.2))])
def Zes (t0:Bool) (t1:Bool) (m0_0:List Int) (m0_1:List Zt) (m0_2:Int) (m1_0:List Int) (m2_0:List Int) (m4_0:List Zh) (m5_0:List Int) (x1:((List Int)×(List Int)×(List Int))) (x2:List Int) (s3:Int×(List Zb)×(List Int)) (x6:List Int):(((List Zb)×(List Int))⊕((List Zb)×(List Int)))→Ex×List V×Zd
  | (.inl r)=>(.ret,[(.ptr 0 0),(.nilsl 1),(.d (Za 130)),(.sl 6 1),(.d (zL true x2)),(.fn 1000170 [(.ptr 0 0)]),(.sl 7 1),(.sl 8 1),(.d (Za (m1_0.length:Int))),(.d (Za s3.1))],[(.cells [(.sl 9 1),(.sl 10 1),(.sl 3 3),(.sl 4 6),(.sl 5 1),(.d (zL t0 m0_0)),(.d (D.list t1 (List.map Zs m0_1))),(.d (Za m0_2))]),(.arr 1 (List.map Za m1_0)),(.arr 1 (List.map Za m2_0)),(.arr 3 (List.map Zy r.1)),(.arr 6 (List.map Zz m4_0)),(.arr 1 (List.map Za m5_0)),(.arr 1 (List.map Za x1.2.2)),(.arr 1 (List.map Za r.2)),(.arr 1 (List.map Za m1_0)),(.arr 1 (List.map Za x1.1)),(.arr 1 (List.map Za x1.2.1))])
  | (.inr r)=>(.exit 2,[(.ptr 0 0),.bad,.bad,(.sl 6 1),(.d (zL true x2)),(.fn 1000170 [(.ptr 0 0)]),(.sl 7 1),(.sl 8 1),(.d (Za (m1_0.length:Int))),(.d (Za s3.1))],[(.cells [(.sl 9 1),(.sl 10 1),(.sl 3 3),(.sl 4 6),(.sl 5 1),(.d (zL t0 m0_0)),(.d (D.list t1 (List.map Zs m0_1))),(.d (Za m0_2))]),(.arr 1 (List.map Za m1_0)),(.arr 1 (List.map Za m2_0)),(.arr 3 (List.map Zy r.1)),(.arr 6 (List.map Zz m4_0)),(.arr 1 (List.map Za m5_0)),(.arr 1 (List.map Za x1.2.2)),(.arr 1 (List.map Za r.2)),(.arr 1 (List.map Za m1_0)),(.arr 1 (List.map Za x1.1)),(.arr 1 (List.map Za x1.2.1))])
theorem ZhR {t0 t1:Bool}{m0_0:List Int}{m0_1:List Zt}{m0_2:Int}{m1_0:List Int}{m2_0:List Int}{m4_0:List Zh}{m5_0:List Int}{x1:((List Int)×(List Int)×(List Int))}{x2:List Int}{s3:Int×(List Zb)×(List Int)}{x6:List Int}:∀(s7:Int×(List Zb)×(List Int)) (r:(((List Zb)×(List Int))⊕((List Zb)×(List Int)))),lp (ZaA x2 s3 x6) s7=some r→lpW ctx 6 [0,6,8,9,10,11,52,53,54,78,79,80] [0,2,3,6,8,9,10,52,53,54] Zt7 [(.ptr 0 0),(.sl 6 1),(.d (zL true x2)),(.fn 1000170 [(.ptr 0 0)]),(.sl 7 1),(.d (Za s3.1)),(.sl 8 1),(.d (Za (m1_0.length:Int))),(.d (Za s3.1)),(.d (zL true x6)),(.d (Za (x6.length:Int))),(.d (Za s7.1))] [(.cells [(.sl 9 1),(.sl 10 1),(.sl 3 3),(.sl 4 6),(.sl 5 1),(.d (zL t0 m0_0)),(.d (D.list t1 (List.map Zs m0_1))),(.d (Za m0_2))]),(.arr 1 (List.map Za m1_0)),(.arr 1 (List.map Za m2_0)),(.arr 3 (List.map Zy s7.2.1)),(.arr 6 (List.map Zz m4_0)),(.arr 1 (List.map Za m5_0)),(.arr 1 (List.map Za x1.2.2)),(.arr 1 (List.map Za s7.2.2)),(.arr 1 (List.map Za m1_0)),(.arr 1 (List.map Za x1.1)),(.arr 1 (List.map Za x1.2.1))]=some ((Zes t0 t1 m0_0 m0_1 m0_2 m1_0 m2_0 m4_0 m5_0 x1 x2 s3 x6) r):=
 lpT (Zes t0 t1 m0_0 m0_1 m0_2 m1_0 m2_0 m4_0 m5_0 x1 x2 s3 x6) fun s7 _ ih=>yB (yG fun x8 _=>
  yC ZU fun x9 _=>
  yB (yC ZU fun x10 _=>
  yB (Zm (ih _))
  (by
 conv=>rhs;whnf
 refine Ze _ Zft fun x11 _=>?_
 rcases x11 with x11 | x11
 exact yT (ZaJ (Zeg Za s7.2.2 1) (Zf (Zee Za s7.2.2 [x8]) (Zm (ih _)))
  Z3)
 exact Zp rfl))
  (Zm (ih _)))
  (Zp rfl)
def Zer (t0:Bool) (t1:Bool) (m0_0:List Int) (m0_1:List Zt) (m0_2:Int) (m1_0:List Int) (m2_0:List Int) (m4_0:List Zh) (m5_0:List Int) (x1:((List Int)×(List Int)×(List Int))) (x2:List Int):((List Zb)⊕(List Zb))→Ex×List V×Zd
  | (.inl r)=>(.ret,[(.nilsl 1),(.d (Za 130)),(.sl 6 1)],[(.cells [(.sl 7 1),(.sl 8 1),(.sl 3 3),(.sl 4 6),(.sl 5 1),(.d (zL t0 m0_0)),(.d (D.list t1 (List.map Zs m0_1))),(.d (Za m0_2))]),(.arr 1 (List.map Za m1_0)),(.arr 1 (List.map Za m2_0)),(.arr 3 (List.map Zy r)),(.arr 6 (List.map Zz m4_0)),(.arr 1 (List.map Za m5_0)),(.arr 1 (List.map Za x1.2.2)),(.arr 1 (List.map Za x1.1)),(.arr 1 (List.map Za x1.2.1))])
  | (.inr r)=>(.exit 0,[.bad,.bad,(.sl 6 1)],[(.cells [(.sl 7 1),(.sl 8 1),(.sl 3 3),(.sl 4 6),(.sl 5 1),(.d (zL t0 m0_0)),(.d (D.list t1 (List.map Zs m0_1))),(.d (Za m0_2))]),(.arr 1 (List.map Za m1_0)),(.arr 1 (List.map Za m2_0)),(.arr 3 (List.map Zy r)),(.arr 6 (List.map Zz m4_0)),(.arr 1 (List.map Za m5_0)),(.arr 1 (List.map Za x1.2.2)),(.arr 1 (List.map Za x1.1)),(.arr 1 (List.map Za x1.2.1))])
theorem ZhA {t0 t1:Bool}{m0_0:List Int}{m0_1:List Zt}{m0_2:Int}{m1_0:List Int}{m2_0:List Int}{m4_0:List Zh}{m5_0:List Int}{x1:((List Int)×(List Int)×(List Int))}{x2:List Int}:∀(s3:Int×(List Zb)×(List Int)) (r:((List Zb)⊕(List Zb))),lp (ZaC m0_0 m0_1 m1_0 x1 x2) s3=some r→lpW ctx 6 [0,6,8,9,10,52,53,54] [2,3,6] Zt4 [(.ptr 0 0),(.sl 6 1),(.d (zL true x2)),(.fn 1000170 [(.ptr 0 0)]),(.sl 7 1),(.sl 8 1),(.d (Za (m1_0.length:Int))),(.d (Za s3.1))] [(.cells [(.sl 9 1),(.sl 10 1),(.sl 3 3),(.sl 4 6),(.sl 5 1),(.d (zL t0 m0_0)),(.d (D.list t1 (List.map Zs m0_1))),(.d (Za m0_2))]),(.arr 1 (List.map Za m1_0)),(.arr 1 (List.map Za m2_0)),(.arr 3 (List.map Zy s3.2.1)),(.arr 6 (List.map Zz m4_0)),(.arr 1 (List.map Za m5_0)),(.arr 1 (List.map Za x1.2.2)),(.arr 1 (List.map Za s3.2.2)),(.arr 1 (List.map Za m1_0)),(.arr 1 (List.map Za x1.1)),(.arr 1 (List.map Za x1.2.1))]=some ((Zer t0 t1 m0_0 m0_1 m0_2 m1_0 m2_0 m4_0 m5_0 x1 x2) r):=
 lpT (Zer t0 t1 m0_0 m0_1 m0_2 m1_0 m2_0 m4_0 m5_0 x1 x2) fun s3 _ ih=>yB (yG fun x4 hx4=>
  Zq (Z1 rfl hx4) (yB (Zm (ih _))
  (yG fun x5 hx5=>
  Zq (Z1 rfl hx5) (yB (Zm (ih _))
  (yC Zor fun x6 _=>
  Zf (Zr _ _) (by
 conv=>rhs;whnf
 refine Ze _ (ZhR _) fun r12 _=>?_
 rcases r12 with r12 | r12
 exact Zp rfl
 exact Zm (ih _)))))))
  (Zp rfl)
theorem Zjm {t0 t1:Bool}{m0_0:List Int}{m0_1:List Zt}{m0_2:Int}{m1_0:List Int}{m2_0:List Int}{m3_0:List Zb}{m4_0:List Zh}{m5_0:List Int}:∀r,(Zdt m0_0 m0_1 m1_0 m2_0 m3_0)=some r→evW ctx 175 [(.ptr 0 0)] [(.cells [(.sl 1 1),(.sl 2 1),(.sl 3 3),(.sl 4 6),(.sl 5 1),(.d (zL t0 m0_0)),(.d (D.list t1 (List.map Zs m0_1))),(.d (Za m0_2))]),(.arr 1 (List.map Za m1_0)),(.arr 1 (List.map Za m2_0)),(.arr 3 (List.map Zy m3_0)),(.arr 6 (List.map Zz m4_0)),(.arr 1 (List.map Za m5_0))]=some ((ZjX t0 t1 m0_0 m0_1 m0_2 m1_0 m2_0 m3_0 m4_0 m5_0) r):=
 evS Zxs rfl rfl <| Ze _ Zo fun x0 _=>
  (by
 conv=>rhs;whnf
 refine Ze _ ZiR fun x1 _=>?_
 rcases x1 with x1 | x1
 exact yBm yR
 exact yF (yC ZfI fun x2 _=>
  Zf (Zr _ _) (by
 conv=>rhs;whnf
 refine Ze _ (ZhA _) fun r13 _=>?_
 rcases r13 with r13 | r13
 exact yR
 exact yR)))
def Zoo (r:(ZP×(List Int)×Int)):D:=(D.tup [(D.agg [(zL true r.1.crew.on),(zL true r.1.crew.left),(D.list true (List.map Zy r.1.deques)),(D.list true (List.map Zz r.1.takers)),(zL true r.1.from_)]),(zL true r.2.1),(Za r.2.2)])
theorem ZmY {t0 t1:Bool}{t2 t3:Bool}{t4 t5 t6:Bool}{a:Zi}{b:ZP}:∀r,(ZfW a b)=some r→evD ctx 166 [(.d (D.agg [(zL t0 a.work),(D.list t1 (List.map Zs a.edges))])),(.d (D.agg [(zL t2 b.crew.on),(zL t3 b.crew.left),(D.list t4 (List.map Zy b.deques)),(D.list t5 (List.map Zz b.takers)),(zL t6 b.from_)]))]=some (Zoo r):=
 evT Zv8 rfl rfl <| yC Zhn fun x0 _=>
  yBr (Ze _ Zjj fun x1 _=>
  (by
 conv=>rhs;whnf
 refine Ze _ Zjm fun x2 _=>?_
 rcases x2 with x2 | (x2 | x2)
 exact yBm yR
 exact yT yR
 exact yF yR))
def ZkE (r:(ZP×(List Int)×Int)):D:=(D.tup [(D.agg [(zL true r.1.crew.on),(zL true r.1.crew.left),(D.list true (List.map Zy r.1.deques)),(D.list true (List.map Zz r.1.takers)),(zL true r.1.from_)]),(zL true r.2.1),(Za r.2.2)])
theorem ZfM {t0 t1:Bool}{t2 t3:Bool}{t4 t5 t6:Bool}{a:ZiM}{b:Zi}{c:ZP}:∀r,(ZdL a b c)=some r→evD ctx 162 [(.d (D.agg [])),(.d (D.agg [(zL t0 b.work),(D.list t1 (List.map Zs b.edges))])),(.d (D.agg [(zL t2 c.crew.on),(zL t3 c.crew.left),(D.list t4 (List.map Zy c.deques)),(D.list t5 (List.map Zz c.takers)),(zL t6 c.from_)]))]=some (ZkE r):=
 evT ZxK rfl rfl <| yC ZmY fun x0 _=>
  yR
def Zpl (t0:Bool) (t1:Bool) (a:Zi) (m0_0:List Int) (m1_0:List Int):(List Int)→V×Zd
  | r=>((.d (D.tup [])),[(.arr 1 (List.map Za r)),(.arr 1 (List.map Za m1_0))])
def Zhk (m0_0:List Int) (m1_0:List Int):(List Int)→Ex×List V×Zd
  | r=>(.exit 0,[],[(.arr 1 (List.map Za r)),(.arr 1 (List.map Za m1_0))])
theorem Zlw {m0_0:List Int}{m1_0:List Int}:∀(s1:(List Int)×Int×(List Int)) (r:List Int),lp (ZcE m0_0) s1=some r→lpW ctx 2 [3,4,11,12,13] [] Ztx [(.ptr 2 0),(.d (zL true s1.1)),(.sl 0 1),(.d (Za (m0_0.length:Int))),(.d (Za s1.2.1))] [(.arr 1 (List.map Za s1.2.2)),(.arr 1 (List.map Za m1_0)),(.cells [(.sl 0 1),(.sl 1 1)])]=some ((Zhk m0_0 m1_0) r):=
 lpT (Zhk m0_0 m1_0) fun s1 _ ih=>yB (yG fun x2 hx2=>
  Zq (Z1 rfl hx2) (yB (Zf (Zr _ _) (yB (yG fun x3 _=>
  yT (ZaJ (Zrk Za s1.1 1) (Zlf (ZvX Za (fun _=>⟨rfl,rfl⟩) s1.1 _) (Zf (ZoD Za s1.1 1) (Zq (ZdK rfl hx2) (Zq (Z1 rfl hx2) (Zf (Zbp Za s1.2.2 s1.2.1.toNat x3) (Zm (ih _)))))))
  Z3))
  (Zm (ih _))))
  (Zm (ih _))))
  (Zp rfl)
theorem ZoP {t0 t1:Bool}{a:Zi}{m0_0:List Int}{m1_0:List Int}:∀r,(Zi9 a m0_0 m1_0)=some r→evW ctx 220 [(.d (D.agg [(zL t0 a.work),(D.list t1 (List.map Zs a.edges))])),(.agg [(.sl 0 1),(.sl 1 1)])] [(.arr 1 (List.map Za m0_0)),(.arr 1 (List.map Za m1_0))]=some ((Zpl t0 t1 a m0_0 m1_0) r):=
 evS ZwY rfl rfl <| yC Ziy fun x0 _=>
  Zf (Zr _ _) (Ze _ (Zlw _) fun r4 _=>
  yR)
def ZpB (r:(ZD×Int)):D:=(D.tup [(D.agg [(zL true r.1.on),(zL true r.1.left)]),(Za r.2)])
theorem ZoG {t0 t1:Bool}{t2 t3:Bool}{a:Zi}{b:ZD}:∀r,(ZgG a b)=some r→evD ctx 219 [(.d (D.agg [(zL t0 a.work),(D.list t1 (List.map Zs a.edges))])),(.d (D.agg [(zL t2 b.on),(zL t3 b.left)]))]=some (ZpB r):=
 evT ZxH rfl rfl <| yC Zec fun x0 _=>
  yBr (Ze _ Zj1 fun x1 _=>
  Ze _ ZoP fun x2 _=>
  yR)
def Zlm (r:(ZP×Int×Int)):D:=(D.tup [(D.agg [(zL true r.1.crew.on),(zL true r.1.crew.left),(D.list true (List.map Zy r.1.deques)),(D.list true (List.map Zz r.1.takers)),(zL true r.1.from_)]),(Za r.2.1),(Za r.2.2)])
theorem Zgh {t0 t1:Bool}{t2 t3:Bool}{t4 t5:Bool}{t6 t7:Bool}{a:ZoI}{b:Zi}{c:ZP}{d:List Int}:∀r,(Zef a b c d)=some r→evD ctx 217 [(.d (D.agg [])),(.d (D.agg [(zL t0 b.work),(D.list t1 (List.map Zs b.edges))])),(.d (D.agg [(zL t2 c.crew.on),(zL t3 c.crew.left),(D.list t4 (List.map Zy c.deques)),(D.list t5 (List.map Zz c.takers)),(zL t6 c.from_)])),(.d (zL t7 d))]=some (Zlm r):=
 evT Zvz rfl rfl <| yC ZoG fun x0 _=>
  yR
def Zla (r:(ZP×(List Int)×Int)):D:=(D.tup [(D.agg [(zL true r.1.crew.on),(zL true r.1.crew.left),(D.list true (List.map Zy r.1.deques)),(D.list true (List.map Zz r.1.takers)),(zL true r.1.from_)]),(zL true r.2.1),(Za r.2.2)])
theorem Zgu {t0 t1:Bool}{t2 t3:Bool}{t4 t5 t6:Bool}{a:ZoI}{b:Zi}{c:ZP}:∀r,(Zed a b c)=some r→evD ctx 218 [(.d (D.agg [])),(.d (D.agg [(zL t0 b.work),(D.list t1 (List.map Zs b.edges))])),(.d (D.agg [(zL t2 c.crew.on),(zL t3 c.crew.left),(D.list t4 (List.map Zy c.deques)),(D.list t5 (List.map Zz c.takers)),(zL t6 c.from_)]))]=some (Zla r):=
 evT Zw5 rfl rfl <| (by
 conv=>rhs;whnf
 refine Ze _ ZiR fun x0 _=>?_
 rcases x0 with x0 | x0
 exact yR
 exact yR)
def Zpw (r:(ZbJ×Zbd×Int)):D:=(D.tup [(D.agg [(D.bool r.1.stealing),(zL true r.1.demand),(Za r.1.state),(zL true r.1.gang.crew.on),(zL true r.1.gang.crew.left),(D.list true (List.map Zy r.1.gang.deques)),(D.list true (List.map Zz r.1.gang.takers)),(zL true r.1.gang.from_)]),(D.agg [(zL true r.2.1.on),(zL true r.2.1.done),(Za r.2.1.steps)]),(Za r.2.2)])
theorem ZoS {t0 t1:Bool}{t2 t3:Bool}{t4 t5:Bool}{t6 t7 t8:Bool}{a:Zi}{b:ZbJ}{c:List Int}:∀r,(Zfk a b c)=some r→evD ctx 36 [(.d (D.agg [(zL t0 a.work),(D.list t1 (List.map Zs a.edges))])),(.d (D.agg [(D.bool b.stealing),(zL t2 b.demand),(Za b.state),(zL t3 b.gang.crew.on),(zL t4 b.gang.crew.left),(D.list t5 (List.map Zy b.gang.deques)),(D.list t6 (List.map Zz b.gang.takers)),(zL t7 b.gang.from_)])),(.d (zL t8 c))]=some (Zpw r):=
 evT ZAq rfl rfl <| yB ((by
 conv=>rhs;whnf
 refine yC Zii fun x0 _=>?_
 rcases x0 with x0 | x0
 exact yC ZfL fun x1 _=>
  yBr (Ze _ Zo fun x2 _=>
  yC ZfM fun x3 _=>
  yBr (Ze _ Zo fun x4 _=>
  yC Zb7 fun x5 _=>
  yR))
 exact yC Zgh fun x6 _=>
  yBr (Ze _ Zo fun x7 _=>
  yC Zgu fun x8 _=>
  yBr (Ze _ Zo fun x9 _=>
  yC Zb7 fun x10 _=>
  yR))))
  (by
 conv=>rhs;whnf
 refine yC Zii fun x11 _=>?_
 rcases x11 with x11 | x11
 exact yC ZfL fun x12 _=>
  yBr (Ze _ Zo fun x13 _=>
  yC ZfM fun x14 _=>
  yBr (Ze _ Zo fun x15 _=>
  yC Zb7 fun x16 _=>
  yR))
 exact yC Zgh fun x17 _=>
  yBr (Ze _ Zo fun x18 _=>
  yC Zgu fun x19 _=>
  yBr (Ze _ Zo fun x20 _=>
  yC Zb7 fun x21 _=>
  yR)))
def Zpc (r:Int):D:=(Za r)
def ZhC (t0:Bool) (a:Zi):Int→Ex×List V×Zd
  | r=>(.exit 0,[(.d (Za r))],[])
theorem Zk0 {t0:Bool}{a:Zi}:∀(s1:Int×Int) (r:Int),lp (Zdz a) s1=some r→lpW ctx 0 [3,10,11,12] [3] Zwv [(.d (Za s1.1)),(.d (zL t0 a.work)),(.d (Za (a.work.length:Int))),(.d (Za s1.2))] []=some ((ZhC t0 a) r):=
 lpT (ZhC t0 a) fun s1 _ ih=>yB (yG fun x2 _=>
  Zm (ih _))
  (Zp rfl)
theorem Zgw {t0 t1:Bool}{a:Zi}:∀r,(ZcV a)=some r→evD ctx 30 [(.d (D.agg [(zL t0 a.work),(D.list t1 (List.map Zs a.edges))]))]=some (Zpc r):=
 evT Zzx rfl rfl <| yC ZcL fun x0 _=>
  yB (Zf (Zr _ _) (Ze _ (Zk0 _) fun r3 _=>
  yR))
  yR
def Zl6 (r:Bool):D:=(D.bool r)
theorem Zk8 {t0 t1 t2:Bool}{a:Zi}{b:List Int}:∀r,(ZeE a b)=some r→evD ctx 19 [(.d (D.agg [(zL t0 a.work),(D.list t1 (List.map Zs a.edges))])),(.d (zL t2 b))]=some (Zl6 r):=
 evT Zzk rfl rfl <| yC ZnS fun x0 _=>
  yB (Zf (Zr _ _) (yB (Ze _ ZdG fun x1 _=>
  yC Zgw fun x2 _=>
  yBr yR)
  yR))
  yR
def Zly (r:Bool):D:=(D.bool r)
theorem ZkC {a:Int}:∀r,(Zbg a)=some r→evD ctx 94 [(.d (Za a))]=some (Zly r):=
 evT ZAh rfl rfl <| yBr (yBr yR)
def Zcz (r:Int):D:=(Za r)
def Zal (t0:Bool) (a:List Int):(Int⊕Unit)→Ex×List V×Zd
  | (.inl r)=>(.ret,[(.d (Za r))],[])
  | (.inr r)=>(.exit 0,[.bad],[])
theorem ZbU {t0:Bool}{a:List Int}:∀(s0:Int) (r:(Int⊕Unit)),lp (Zv a (fun z0=>Zbg z0)) s0=some r→lpW ctx 0 [0,1,7,8] [4] ZlT [(.d (zL t0 a)),(.d (D.fn 94 [])),(.d (Za (a.length:Int))),(.d (Za s0))] []=some ((Zal t0 a) r):=
 lpT (Zal t0 a) fun s0 _ ih=>yB (yG fun x1 _=>
  yC ZkC fun x2 _=>
  yB (Zp rfl)
  (Zm (ih _)))
  (Zp rfl)
theorem Zct {t0:Bool}{a:List Int}:∀r,(ZB a (fun z0=>Zbg z0))=some r→evD ctx 99 [(.d (zL t0 a)),(.d (D.fn 94 []))]=some (Zcz r):=
 evT ZsA rfl rfl <| Zf (Zr _ _) (by
 conv=>rhs;whnf
 refine Ze _ (ZbU _) fun r3 _=>?_
 rcases r3 with r3 | r3
 exact yR
 exact yR)
def Zb3 (r:Bool):D:=(D.bool r)
theorem ZbV {t0:Bool}{a:List Int}:∀r,(Zw a (fun z0=>Zbg z0))=some r→evD ctx 66 [(.d (zL t0 a)),(.d (D.fn 94 []))]=some (Zb3 r):=
 evT ZuV rfl rfl <| yC Zct fun x0 _=>
  yBr yR
def ZmS (r:(Bool×Int)):D:=(D.tup [(D.bool r.1),(Za r.2)])
theorem ZhK {t0 t1 t2:Bool}{a:Zi}{b:List Int}{c:Int}:∀r,(Zd6 a b c)=some r→evD ctx 59 [(.d (D.agg [(zL t0 a.work),(D.list t1 (List.map Zs a.edges))])),(.d (zL t2 b)),(.d (Za c))]=some (ZmS r):=
 evT Zzt rfl rfl <| yC ZcL fun x0 _=>
  yBr (Zf (Zr _ _) (Zf (Zr _ _) (yB (yC ZbV fun x1 _=>
  yBr (yB (yBr yR)
  yR))
  yR)))
def ZlH (r:Bool):D:=(D.bool r)
theorem Zlr {t0:Bool}{a:List Int}{b0:Int}:∀r,(ZcF a b0)=some r→evD ctx 83 [(.d (zL t0 a)),(.d (D.rptr [(Za b0)]))]=some (ZlH r):=
 evT Zzy rfl rfl <| Zf (Zr _ _) (yBr yR)
def Zcu (r:Int):D:=(Za r)
def Zah (t0:Bool) (a:(List (List Int))) (b0:Int):(Int⊕Unit)→Ex×List V×Zd
  | (.inl r)=>(.ret,[(.d (Za r))],[])
  | (.inr r)=>(.exit 0,[.bad],[])
theorem ZbN {t0:Bool}{a:(List (List Int))}{b0:Int}:∀(s0:Int) (r:(Int⊕Unit)),lp (ZbZ a (fun z0=>ZcF z0 b0)) s0=some r→lpW ctx 0 [0,1,7,8] [4] Zt2 [(.d (D.list t0 (List.map (Zex true) a))),(.d (D.fn 83 [(D.rptr [(Za b0)])])),(.d (Za (a.length:Int))),(.d (Za s0))] []=some ((Zah t0 a b0) r):=
 lpT (Zah t0 a b0) fun s0 _ ih=>yB (yG fun x1 _=>
  yC Zlr fun x2 _=>
  yB (Zp rfl)
  (Zm (ih _)))
  (Zp rfl)
theorem Zcl {t0:Bool}{a:(List (List Int))}{b0:Int}:∀r,(ZaW a (fun z0=>ZcF z0 b0))=some r→evD ctx 108 [(.d (D.list t0 (List.map (Zex true) a))),(.d (D.fn 83 [(D.rptr [(Za b0)])]))]=some (Zcu r):=
 evT Zwf rfl rfl <| Zf (Zr _ _) (by
 conv=>rhs;whnf
 refine Ze _ (ZbN _) fun r3 _=>?_
 rcases r3 with r3 | r3
 exact yR
 exact yR)
def ZbS (r:Bool):D:=(D.bool r)
theorem ZbI {t0:Bool}{a:(List (List Int))}{b0:Int}:∀r,(Zab a (fun z0=>ZcF z0 b0))=some r→evD ctx 84 [(.d (D.list t0 (List.map (Zex true) a))),(.d (D.fn 83 [(D.rptr [(Za b0)])]))]=some (ZbS r):=
 evT ZAb rfl rfl <| yC Zcl fun x0 _=>
  yBr yR
def ZmQ (t0:Bool) (a:List Int):(List Int)→V×Zd
  | r=>((.ptr 0 0),[(.cells [(.d (zL t0 a)),(.sl 1 1),(.sl 2 2),(.sl 3 1)]),(.arr 1 (List.map Za (List.replicate (a.length:Int).toNat (0:Int)))),(.arr 2 (List.map Zdx (List.replicate (a.length:Int).toNat ((Zae.mk 0 0):Zae)))),(.arr 1 (List.map Za r))])
def Zgz (t0:Bool) (a:List Int):(List Int)→Ex×List V×Zd
  | r=>(.exit 0,[(.ptr 0 0)],[(.cells [(.d (zL t0 a)),(.sl 1 1),(.sl 2 2),(.sl 3 1)]),(.arr 1 (List.map Za (List.replicate (a.length:Int).toNat (0:Int)))),(.arr 2 (List.map Zdx (List.replicate (a.length:Int).toNat ((Zae.mk 0 0):Zae)))),(.arr 1 (List.map Za r))])
theorem ZjP {t0:Bool}{a:List Int}:∀(s0:Int×(List Int)) (r:List Int),lp (ZaS a) s0=some r→lpW ctx 0 [3,18,19] [3] Zwx [(.ptr 0 0),(.d (Za (a.length:Int))),(.d (Za s0.1))] [(.cells [(.d (zL t0 a)),(.sl 1 1),(.sl 2 2),(.sl 3 1)]),(.arr 1 (List.map Za (List.replicate (a.length:Int).toNat (0:Int)))),(.arr 2 (List.map Zdx (List.replicate (a.length:Int).toNat ((Zae.mk 0 0):Zae)))),(.arr 1 (List.map Za s0.2))]=some ((Zgz t0 a) r):=
 lpT (Zgz t0 a) fun s0 _ ih=>yB (yG fun x1 hx1=>
  Zq (Z1 rfl hx1) (Zf (Zbp Za s0.2 s0.1.toNat (-1)) (Zm (ih _))))
  (Zp rfl)
theorem Zmj {t0:Bool}{a:List Int}:∀r,(Ze9 a)=some r→evW ctx 85 [(.d (zL t0 a))] []=some ((ZmQ t0 a) r):=
 evS Zzq rfl rfl <| Zf (Zr _ _) (yBm (Zf (ZgP Za (0:Int) (a.length:Int)) (Zf (Zr _ _) (yBm (Zf (ZgP Zdx ((Zae.mk 0 0):Zae) (a.length:Int)) (Zf (Zr _ _) (yBm (Zf (ZgP Za (0:Int) (a.length:Int)) (Zf (Zr _ _) (Ze _ (ZjP _) fun r2 _=>
  yR))))))))))
def ZjN (r:Bool):D:=(D.bool r)
theorem Zjr {t0 t1:Bool}{t2 t3:Bool}{a0:List Int}{a1:List Int}{a2:List Zae}{a3:List Int}{b c:Int}:∀r,(ZgN a3 b c)=some r→evD ctx 91 [(.d (D.rptr [(zL t0 a0),(zL t1 a1),(D.list t2 (List.map Zdx a2)),(zL t3 a3)])),(.d (Za b)),(.d (Za c))]=some (ZjN r):=
 evT ZzR rfl rfl <| yG fun x0 hx0=>
  yB (Zq (ZdK rfl hx0) (yBr yR))
  yR
def ZiJ (r:Bool):D:=(D.bool r)
theorem Zin {t0 t1:Bool}{t2 t3:Bool}{a:Zt}{b0:Int}{c0:List Int}{c1:List Int}{c2:List Zae}{c3:List Int}{d0:Int}:∀r,(Zbm a b0 c3 d0)=some r→evD ctx 90 [(.d (D.agg [(Za a.src),(Za a.dst)])),(.d (D.rptr [(Za b0)])),(.d (D.rptr [(D.rptr [(zL t0 c0),(zL t1 c1),(D.list t2 (List.map Zdx c2)),(zL t3 c3)])])),(.d (D.rptr [(Za d0)]))]=some (ZiJ r):=
 evT ZAk rfl rfl <| yB (yC Zjr fun x0 _=>
  yBr yR)
  yR
def ZbC (r:Int):D:=(Za r)
def Z9 (t0:Bool) (t1:Bool) (t2:Bool) (t3:Bool) (t4:Bool) (a:List Zt) (b0:Int) (b1:List Int) (b2:List Int) (b3:List Zae) (b4:List Int) (b5:Int):(Int⊕Unit)→Ex×List V×Zd
  | (.inl r)=>(.ret,[(.d (Za r))],[])
  | (.inr r)=>(.exit 0,[.bad],[])
theorem Zba {t0 t1:Bool}{t2 t3 t4:Bool}{a:List Zt}{b0:Int}{b1:List Int}{b2:List Int}{b3:List Zae}{b4:List Int}{b5:Int}:∀(s0:Int) (r:(Int⊕Unit)),lp (ZX a (fun z0=>Zbm z0 b0 b4 b5)) s0=some r→lpW ctx 0 [0,1,7,8] [4] Zqy [(.d (D.list t0 (List.map Zs a))),(.d (D.fn 90 [(D.rptr [(Za b0)]),(D.rptr [(D.rptr [(zL t1 b1),(zL t2 b2),(D.list t3 (List.map Zdx b3)),(zL t4 b4)])]),(D.rptr [(Za b5)])])),(.d (Za (a.length:Int))),(.d (Za s0))] []=some ((Z9 t0 t1 t2 t3 t4 a b0 b1 b2 b3 b4 b5) r):=
 lpT (Z9 t0 t1 t2 t3 t4 a b0 b1 b2 b3 b4 b5) fun s0 _ ih=>yB (yG fun x1 _=>
  yC Zin fun x2 _=>
  yB (Zp rfl)
  (Zm (ih _)))
  (Zp rfl)
theorem Zbr {t0 t1:Bool}{t2 t3 t4:Bool}{a:List Zt}{b0:Int}{b1:List Int}{b2:List Int}{b3:List Zae}{b4:List Int}{b5:Int}:∀r,(Zai a (fun z0=>Zbm z0 b0 b4 b5))=some r→evD ctx 109 [(.d (D.list t0 (List.map Zs a))),(.d (D.fn 90 [(D.rptr [(Za b0)]),(D.rptr [(D.rptr [(zL t1 b1),(zL t2 b2),(D.list t3 (List.map Zdx b3)),(zL t4 b4)])]),(D.rptr [(Za b5)])]))]=some (ZbC r):=
 evT ZtW rfl rfl <| Zf (Zr _ _) (by
 conv=>rhs;whnf
 refine Ze _ (Zba _) fun r3 _=>?_
 rcases r3 with r3 | r3
 exact yR
 exact yR)
def Zbj (r:Bool):D:=(D.bool r)
theorem Zbb {t0 t1:Bool}{t2 t3 t4:Bool}{a:List Zt}{b0:Int}{b1:List Int}{b2:List Int}{b3:List Zae}{b4:List Int}{b5:Int}:∀r,(ZO a (fun z0=>Zbm z0 b0 b4 b5))=some r→evD ctx 89 [(.d (D.list t0 (List.map Zs a))),(.d (D.fn 90 [(D.rptr [(Za b0)]),(D.rptr [(D.rptr [(zL t1 b1),(zL t2 b2),(D.list t3 (List.map Zdx b3)),(zL t4 b4)])]),(D.rptr [(Za b5)])]))]=some (Zbj r):=
 evT Zyy rfl rfl <| yC Zbr fun x0 _=>
  yBr yR
def ZjV (r:Bool):D:=(D.bool r)
theorem Zfz {t0 t1:Bool}{t2 t3:Bool}{t4 t5:Bool}{a0:List Int}{a1:List Int}{a2:List Zae}{a3:List Int}{b:Zi}{c d:Int}:∀r,(Zez a3 b c d)=some r→evD ctx 56 [(.d (D.rptr [(zL t0 a0),(zL t1 a1),(D.list t2 (List.map Zdx a2)),(zL t3 a3)])),(.d (D.agg [(zL t4 b.work),(D.list t5 (List.map Zs b.edges))])),(.d (Za c)),(.d (Za d))]=some (ZjV r):=
 evT ZzW rfl rfl <| yC Zbb fun x0 _=>
  yBr yR
def Zkc (r:Int):D:=(Za r)
theorem ZjS {t0 t1:Bool}{t2 t3:Bool}{t4 t5 t6:Bool}{a0:List Int}{a1:List Int}{a2:List Zae}{a3:List Int}{b:Zi}{c:List Int}{d e:Int}:∀r,(ZhP a0 a1 a2 a3 b c d e)=some r→evD ctx 86 [(.d (D.rptr [(zL t0 a0),(zL t1 a1),(D.list t2 (List.map Zdx a2)),(zL t3 a3)])),(.d (D.agg [(zL t4 b.work),(D.list t5 (List.map Zs b.edges))])),(.d (zL t6 c)),(.d (Za d)),(.d (Za e))]=some (Zkc r):=
 evT ZAc rfl rfl <| yG fun x0 _=>
  yBr (Zf (Zr _ _) (yBr (yBm (ZaJ (ZwA Za c e.toNat) (yT (Zf (Zq5 Za c e.toNat) (yC ZU fun x1 _=>
  yBr (yG fun x2 hx2=>
  yG fun x3 _=>
  yBr (Zq (ZdK rfl hx2) (yB (yG fun x4 _=>
  yBr (Zq (ZdK rfl hx2) (yB (yC Zfz fun x5 _=>
  yBr yR)
  yR)))
  (Zq (ZdK rfl hx2) (yB (yC Zfz fun x6 _=>
  yBr yR)
  yR))))))))
  Z3))))
def Zox (t0:Bool) (t1:Bool) (b:Int) (c:List Int) (m0_0:List Int) (m1_0:List Int) (m2_0:List Zae) (m3_0:List Int):Unit→V×Zd
  | r=>((.d (D.tup [])),[(.cells [(.d (zL t1 m0_0)),(.sl 1 1),(.sl 2 2),(.sl 3 1)]),(.arr 1 (List.map Za m1_0)),(.arr 2 (List.map Zdx m2_0)),(.arr 1 (List.map Za m3_0))])
theorem ZmT {t0 t1:Bool}{b:Int}{c:List Int}{m0_0:List Int}{m1_0:List Int}{m2_0:List Zae}{m3_0:List Int}:∀r,(Zli b c)=some r→evW ctx 53 [(.ptr 0 0),(.d (Za b)),(.d (zL t0 c))] [(.cells [(.d (zL t1 m0_0)),(.sl 1 1),(.sl 2 2),(.sl 3 1)]),(.arr 1 (List.map Za m1_0)),(.arr 2 (List.map Zdx m2_0)),(.arr 1 (List.map Za m3_0))]=some ((Zox t0 t1 b c m0_0 m1_0 m2_0 m3_0) r):=
 evS ZAB rfl rfl <| yR
def Zki (t0:Bool) (b:Int) (c:Int) (d:Int) (m0_0:List Int) (m1_0:List Int) (m2_0:List Zae) (m3_0:List Int):((List Int)×(List Int))→V×Zd
  | r=>((.d (D.tup [])),[(.cells [(.d (zL t0 m0_0)),(.sl 1 1),(.sl 2 2),(.sl 3 1)]),(.arr 1 (List.map Za r.1)),(.arr 2 (List.map Zdx (List.set m2_0 b.toNat (Zae.mk c d)))),(.arr 1 (List.map Za r.2))])
theorem ZjK {t0:Bool}{b c d:Int}{m0_0:List Int}{m1_0:List Int}{m2_0:List Zae}{m3_0:List Int}:∀r,(Zhl b c d m0_0 m1_0 m2_0 m3_0)=some r→evW ctx 87 [(.ptr 0 0),(.d (Za b)),(.d (Za c)),(.d (Za d))] [(.cells [(.d (zL t0 m0_0)),(.sl 1 1),(.sl 2 2),(.sl 3 1)]),(.arr 1 (List.map Za m1_0)),(.arr 2 (List.map Zdx m2_0)),(.arr 1 (List.map Za m3_0))]=some ((Zki t0 b c d m0_0 m1_0 m2_0 m3_0) r):=
 evS Zz6 rfl rfl <| yG fun x0 hx0=>
  Zq (Z1 rfl hx0) (Zq (ZdK rfl hx0) (Zq (Z1 rfl hx0) (Zf (Zbp Za m1_0 b.toNat (w64 (x0+1))) (yG fun x1 hx1=>
  Zq (Z1 rfl hx1) (Zf (Zbp Zdx m2_0 b.toNat (Zae.mk c d)) (yG fun x2 hx2=>
  Zq (Z1 rfl hx2) (yG fun x3 _=>
  yB (yG fun x4 hx4=>
  Zq (Z1 rfl hx4) (Zf (Zbp Za m3_0 b.toNat (w64 (c+1))) yR))
  yR)))))))
def Zgi (t0:Bool) (t1:Bool) (t2:Bool) (t3:Bool) (a:Zi) (b:List Int) (c:Int) (d:(List (List Int))):(Int⊕(Int×(List Int)×(List Zae)×(List Int)))→V×Zd
  | (.inl r)=>((.d (D.tup [(D.nilp),(Za r)])),[])
  | (.inr r)=>((.tup [(.ptr 0 0),(.d (Za r.1))]),[(.cells [(.d (zL t2 b)),(.sl 1 1),(.sl 2 2),(.sl 3 1)]),(.arr 1 (List.map Za r.2.1)),(.arr 2 (List.map Zdx r.2.2.1)),(.arr 1 (List.map Za r.2.2.2))])
def ZcX (t0:Bool) (t1:Bool) (t2:Bool) (t3:Bool) (a:Zi) (b:List Int) (d:(List (List Int))) (s3:Int×Int×(List Int)×(List Zae)×(List Int)) (x4:List Int):(Int⊕Int)→Ex×List V×Zd
  | (.inl r)=>(.exit 0,[(.d (D.fn 53 [])),(.ptr 0 0),(.d (Za r)),(.ptr 1 0),(.d (Za s3.2.1)),(.d (zL true x4)),(.d (D.list t3 (List.map (Zex true) d))),(.d (Za (d.length:Int))),(.d (Za s3.2.1))],[(.cells [(.d (zL t0 a.work)),(.d (D.list t1 (List.map Zs a.edges)))]),(.cells [(.d (zL t2 b)),(.sl 2 1),(.sl 3 2),(.sl 4 1)]),(.arr 1 (List.map Za s3.2.2.1)),(.arr 2 (List.map Zdx s3.2.2.2.1)),(.arr 1 (List.map Za s3.2.2.2.2))])
  | (.inr r)=>(.exit 2,[(.d (D.fn 53 [])),(.ptr 0 0),(.d (Za r)),(.ptr 1 0),(.d (Za s3.2.1)),(.d (zL true x4)),(.d (D.list t3 (List.map (Zex true) d))),(.d (Za (d.length:Int))),(.d (Za s3.2.1))],[(.cells [(.d (zL t0 a.work)),(.d (D.list t1 (List.map Zs a.edges)))]),(.cells [(.d (zL t2 b)),(.sl 2 1),(.sl 3 2),(.sl 4 1)]),(.arr 1 (List.map Za s3.2.2.1)),(.arr 2 (List.map Zdx s3.2.2.2.1)),(.arr 1 (List.map Za s3.2.2.2.2))])
theorem ZeV {t0 t1:Bool}{t2 t3:Bool}{a:Zi}{b:List Int}{d:(List (List Int))}{s3:Int×Int×(List Int)×(List Zae)×(List Int)}{x4:List Int}:∀(s5:Int×Int) (r:(Int⊕Int)),lp (ZiB a b s3 x4) s5=some r→lpW ctx 0 [4,5,13,15,16,17,47,48,49,54,55,56] [4,5,13,15,16,17,47,48,49] Zwo [(.d (D.fn 53 [])),(.ptr 0 0),(.d (Za s5.1)),(.ptr 1 0),(.d (Za s3.2.1)),(.d (zL true x4)),(.d (D.list t3 (List.map (Zex true) d))),(.d (Za (d.length:Int))),(.d (Za s3.2.1)),(.d (zL true x4)),(.d (Za (x4.length:Int))),(.d (Za s5.2))] [(.cells [(.d (zL t0 a.work)),(.d (D.list t1 (List.map Zs a.edges)))]),(.cells [(.d (zL t2 b)),(.sl 2 1),(.sl 3 2),(.sl 4 1)]),(.arr 1 (List.map Za s3.2.2.1)),(.arr 2 (List.map Zdx s3.2.2.2.1)),(.arr 1 (List.map Za s3.2.2.2.2))]=some ((ZcX t0 t1 t2 t3 a b d s3 x4) r):=
 lpT (ZcX t0 t1 t2 t3 a b d s3 x4) fun s5 _ ih=>yB (yG fun x6 _=>
  yB (Zm (ih _))
  (yC ZjS fun x7 _=>
  yB (Zp rfl)
  (Zm (ih _))))
  (Zp rfl)
def Zc0 (t0:Bool) (t1:Bool) (t2:Bool) (t3:Bool) (a:Zi) (b:List Int) (d:(List (List Int))) (s3:Int×Int×(List Int)×(List Zae)×(List Int)) (x4:List Int) (r8:Int):((List Int)×(List Zae)×(List Int))→Ex×List V×Zd
  | r=>(.exit 4,[(.d (D.fn 53 [])),(.ptr 0 0),(.d (Za r8)),(.ptr 1 0),(.d (D.list t3 (List.map (Zex true) d))),(.d (Za (d.length:Int))),(.d (Za s3.2.1))],[(.cells [(.d (zL t0 a.work)),(.d (D.list t1 (List.map Zs a.edges)))]),(.cells [(.d (zL t2 b)),(.sl 2 1),(.sl 3 2),(.sl 4 1)]),(.arr 1 (List.map Za r.1)),(.arr 2 (List.map Zdx r.2.1)),(.arr 1 (List.map Za r.2.2))])
theorem ZeU {t0 t1:Bool}{t2 t3:Bool}{a:Zi}{b:List Int}{d:(List (List Int))}{s3:Int×Int×(List Int)×(List Zae)×(List Int)}{x4:List Int}{r8:Int}:∀(s10:Int×(List Int)×(List Zae)×(List Int)) (r:((List Int)×(List Zae)×(List Int))),lp (ZiA b s3 x4) s10=some r→lpW ctx 0 [4,5,13,15,16,47,48,49,77,78,79] [4,5,13,15,47,48,49] ZvN [(.d (D.fn 53 [])),(.ptr 0 0),(.d (Za r8)),(.ptr 1 0),(.d (Za s3.2.1)),(.d (D.list t3 (List.map (Zex true) d))),(.d (Za (d.length:Int))),(.d (Za s3.2.1)),(.d (zL true x4)),(.d (Za (x4.length:Int))),(.d (Za s10.1))] [(.cells [(.d (zL t0 a.work)),(.d (D.list t1 (List.map Zs a.edges)))]),(.cells [(.d (zL t2 b)),(.sl 2 1),(.sl 3 2),(.sl 4 1)]),(.arr 1 (List.map Za s10.2.1)),(.arr 2 (List.map Zdx s10.2.2.1)),(.arr 1 (List.map Za s10.2.2.2))]=some ((Zc0 t0 t1 t2 t3 a b d s3 x4 r8) r):=
 lpT (Zc0 t0 t1 t2 t3 a b d s3 x4 r8) fun s10 _ ih=>yB (yG fun x11 _=>
  yB (Ze _ ZjK fun x12 _=>
  Zm (ih _))
  (Zm (ih _)))
  (Zp rfl)
def ZcY (t0:Bool) (t1:Bool) (t2:Bool) (t3:Bool) (a:Zi) (b:List Int) (d:(List (List Int))):(Int×(List Int)×(List Zae)×(List Int))→Ex×List V×Zd
  | r=>(.exit 0,[(.d (Za r.1)),(.ptr 0 0)],[(.cells [(.d (zL t2 b)),(.sl 1 1),(.sl 2 2),(.sl 3 1)]),(.arr 1 (List.map Za r.2.1)),(.arr 2 (List.map Zdx r.2.2.1)),(.arr 1 (List.map Za r.2.2.2))])
theorem Ze8 {t0 t1:Bool}{t2 t3:Bool}{a:Zi}{b:List Int}{d:(List (List Int))}:∀(s3:Int×Int×(List Int)×(List Zae)×(List Int)) (r:(Int×(List Int)×(List Zae)×(List Int))),lp (Ziv a b d) s3=some r→lpW ctx 0 [4,5,13,15,47,48,49] [13,15] Zwp [(.d (D.fn 53 [])),(.ptr 0 0),(.d (Za s3.1)),(.ptr 1 0),(.d (D.list t3 (List.map (Zex true) d))),(.d (Za (d.length:Int))),(.d (Za s3.2.1))] [(.cells [(.d (zL t0 a.work)),(.d (D.list t1 (List.map Zs a.edges)))]),(.cells [(.d (zL t2 b)),(.sl 2 1),(.sl 3 2),(.sl 4 1)]),(.arr 1 (List.map Za s3.2.2.1)),(.arr 2 (List.map Zdx s3.2.2.2.1)),(.arr 1 (List.map Za s3.2.2.2.2))]=some ((ZcY t0 t1 t2 t3 a b d) r):=
 lpT (ZcY t0 t1 t2 t3 a b d) fun s3 _ ih=>yB (yG fun x4 _=>
  Zf (Zr _ _) (by
 conv=>rhs;whnf
 refine Ze _ (ZeV _) fun r8 _=>?_
 rcases r8 with r8 | r8
 exact Zp rfl
 exact Ze _ ZmT fun x9 _=>
  Zf (Zr _ _) (Ze _ (ZeU _) fun r13 _=>
  Zm (ih _))))
  (Zp rfl)
theorem Zf2 {t0 t1:Bool}{t2 t3:Bool}{a:Zi}{b:List Int}{c:Int}{d:(List (List Int))}:∀r,(Zis a b c d)=some r→evW ctx 52 [(.d (D.agg [(zL t0 a.work),(D.list t1 (List.map Zs a.edges))])),(.d (zL t2 b)),(.d (Za c)),(.d (D.list t3 (List.map (Zex true) d))),(.d (D.fn 53 []))] []=some ((Zgi t0 t1 t2 t3 a b c d) r):=
 evS ZAu rfl rfl <| yC ZhK fun x0 _=>
  yB (yBr (Zf (Zr _ _) (yBr (yC ZbI fun x1 _=>
  yBr (Ze _ Zmj fun x2 _=>
  Zf (Zr _ _) (Ze _ (Ze8 _) fun r14 _=>
  yR))))))
  (yBr yR)
def Zm5 (r:Int):D:=(Za r)
theorem ZlP {t0 t1:Bool}{t2 t3:Bool}{a:Zi}{b:List Int}{c:Int}{d:(List (List Int))}:∀r,(Zff a b c d)=some r→evD ctx 28 [(.d (D.agg [(zL t0 a.work),(D.list t1 (List.map Zs a.edges))])),(.d (zL t2 b)),(.d (Za c)),(.d (D.list t3 (List.map (Zex true) d)))]=some (Zm5 r):=
 evT ZzH rfl rfl <| (by
 conv=>rhs;whnf
 refine Ze _ Zf2 fun x0 _=>?_
 rcases x0 with x0 | x0
 exact yR
 exact yR)
def ZqW (t0:Bool) (t1:Bool) (t2:Bool) (a:Zi) (b:List Int) (c:Int):(Int⊕(List Int))→V×Zd
  | (.inl r)=>((.tup [(.agg [(.nilsl 1),(.nilsl 1)]),(.d (Za r))]),[])
  | (.inr r)=>((.tup [(.agg [(.sl 0 1),(.sl 1 1)]),(.d (Za 0))]),[(.arr 1 (List.map Za r)),(.arr 1 (List.map Za b))])
def Ziw (b:List Int) (c:Int):(List Int)→Ex×List V×Zd
  | r=>(.exit 0,[(.ptr 0 0),(.ptr 1 0)],[(.cells [(.sl 2 1),(.sl 3 1)]),(.cells [(.sl 4 1),(.sl 5 1)]),(.arr 1 []),(.arr 1 []),(.arr 1 (List.map Za r)),(.arr 1 (List.map Za b))])
theorem Zl0 {b:List Int}{c:Int}:∀(s2:Int×(List Int)) (r:List Int),lp (Zdg c) s2=some r→lpW ctx 0 [6,9,21,22] [6,9] Zt1 [(.ptr 0 0),(.ptr 1 0),(.d (Za c)),(.d (Za s2.1))] [(.cells [(.sl 2 1),(.sl 3 1)]),(.cells [(.sl 4 1),(.sl 5 1)]),(.arr 1 []),(.arr 1 []),(.arr 1 (List.map Za s2.2)),(.arr 1 (List.map Za b))]=some ((Ziw b c) r):=
 lpT (Ziw b c) fun s2 _ ih=>yB (yT (ZaJ (Zeg Za s2.2 1) (Zf (Zee Za s2.2 [(-1)]) (Zm (ih _)))
  Z3))
  (Zp rfl)
theorem ZjZ {t0 t1 t2:Bool}{a:Zi}{b:List Int}{c:Int}:∀r,(Ze7 a b c)=some r→evW ctx 167 [(.d (D.agg [(zL t0 a.work),(D.list t1 (List.map Zs a.edges))])),(.d (zL t2 b)),(.d (Za c))] []=some ((ZqW t0 t1 t2 a b c) r):=
 evS ZvC rfl rfl <| yC ZlP fun x0 _=>
  yBr (Ze _ Zo fun x1 _=>
  Ze _ (Zl0 _) fun r3 _=>
  yR)
def Zpo (r:(Zb×Int)):D:=(D.tup [(D.agg [(zL true r.1.ring),(Za r.1.top),(Za r.1.bottom)]),(Za r.2)])
theorem Zo0 {a:Int}:∀r,(ZgX a)=some r→evD ctx 168 [(.d (Za a))]=some (Zpo r):=
 evT Zxz rfl rfl <| (by
 conv=>rhs;whnf
 refine Ze _ Zk7 fun x0 _=>?_
 rcases x0 with x0 | x0
 exact yF yR
 exact yT (yBr (yBm (Zf (ZgP Za (0:Int) a) yR))))
def Zpz (t0:Bool) (t1:Bool) (t2:Bool) (a:Zi) (b:List Int) (c:Int):(Int⊕((List Int)×(List Zb)))→V×Zd
  | (.inl r)=>((.tup [(.agg [(.nilsl 1),(.nilsl 1),(.nilsl 3),(.nilsl 6),(.nilsl 1)]),(.d (Za r))]),[])
  | (.inr r)=>((.tup [(.agg [(.sl 0 1),(.sl 1 1),(.sl 2 3),(.sl 3 6),(.sl 4 1)]),(.d (Za 0))]),[(.arr 1 (List.map Za r.1)),(.arr 1 (List.map Za b)),(.arr 3 (List.map Zy r.2)),(.arr 6 (List.map Zz (List.replicate c.toNat ((Zh.mk false 0 0 0 0 0):Zh)))),(.arr 1 (List.map Za (List.replicate c.toNat (0:Int))))])
def ZhH (t0:Bool) (t1:Bool) (a:Zi) (b:List Int) (c:Int) (x0:List Int):(List Zb)→Ex×List V×Zd
  | r=>(.exit 0,[(.d (Za c)),(.ptr 0 0),(.ptr 1 0),(.ptr 2 0),(.ptr 3 0)],[(.cells [(.d (zL t0 a.work)),(.d (D.list t1 (List.map Zs a.edges)))]),(.cells [(.sl 4 1),(.sl 5 1),(.sl 6 3),(.sl 7 6),(.sl 8 1)]),(.cells [(.sl 9 1),(.sl 10 1)]),(.cells [(.sl 9 1),(.sl 10 1),(.sl 11 3),(.sl 12 6),(.sl 13 1),(.d (zL t0 a.work)),(.d (D.list t1 (List.map Zs a.edges))),(.d (Za 0))]),(.arr 1 []),(.arr 1 []),(.arr 3 []),(.arr 6 []),(.arr 1 []),(.arr 1 (List.map Za x0)),(.arr 1 (List.map Za b)),(.arr 3 (List.map Zy r)),(.arr 6 (List.map Zz (List.replicate c.toNat ((Zh.mk false 0 0 0 0 0):Zh)))),(.arr 1 (List.map Za (List.replicate c.toNat (0:Int))))])
theorem ZkQ {t0 t1:Bool}{a:Zi}{b:List Int}{c:Int}{x0:List Int}:∀(s1:Int×(List Zb)) (r:List Zb),lp (ZcJ c) s1=some r→lpW ctx 0 [2,3,6,8,10,35,36] [2,3,6,8,10] Zue [(.d (Za c)),(.ptr 0 0),(.ptr 1 0),(.ptr 2 0),(.ptr 3 0),(.d (Za c)),(.d (Za s1.1))] [(.cells [(.d (zL t0 a.work)),(.d (D.list t1 (List.map Zs a.edges)))]),(.cells [(.sl 4 1),(.sl 5 1),(.sl 6 3),(.sl 7 6),(.sl 8 1)]),(.cells [(.sl 9 1),(.sl 10 1)]),(.cells [(.sl 9 1),(.sl 10 1),(.sl 11 3),(.sl 12 6),(.sl 13 1),(.d (zL t0 a.work)),(.d (D.list t1 (List.map Zs a.edges))),(.d (Za 0))]),(.arr 1 []),(.arr 1 []),(.arr 3 []),(.arr 6 []),(.arr 1 []),(.arr 1 (List.map Za x0)),(.arr 1 (List.map Za b)),(.arr 3 (List.map Zy s1.2)),(.arr 6 (List.map Zz (List.replicate c.toNat ((Zh.mk false 0 0 0 0 0):Zh)))),(.arr 1 (List.map Za (List.replicate c.toNat (0:Int))))]=some ((ZhH t0 t1 a b c x0) r):=
 lpT (ZhH t0 t1 a b c x0) fun s1 _ ih=>yB (yC Zo0 fun x2 _=>
  yT (ZaJ (Zeg Zy s1.2 1) (Zf (Zee Zy s1.2 [x2.1]) (Zm (ih _)))
  Z3))
  (Zp rfl)
def ZhE (t0:Bool) (t1:Bool) (a:Zi) (b:List Int) (c:Int) (x0:List Int) (x4:List Int):(List Zb)→Ex×List V×Zd
  | r=>(.exit 2,[(.ptr 0 0),(.ptr 1 0)],[(.cells [(.sl 2 1),(.sl 3 1),(.sl 4 3),(.sl 5 6),(.sl 6 1)]),(.cells [(.sl 7 1),(.sl 8 1),(.sl 9 3),(.sl 10 6),(.sl 11 1),(.d (zL t0 a.work)),(.d (D.list t1 (List.map Zs a.edges))),(.d (Za 0))]),(.arr 1 []),(.arr 1 []),(.arr 3 []),(.arr 6 []),(.arr 1 []),(.arr 1 (List.map Za x0)),(.arr 1 (List.map Za b)),(.arr 3 (List.map Zy r)),(.arr 6 (List.map Zz (List.replicate c.toNat ((Zh.mk false 0 0 0 0 0):Zh)))),(.arr 1 (List.map Za (List.replicate c.toNat (0:Int))))])
theorem ZkN {t0 t1:Bool}{a:Zi}{b:List Int}{c:Int}{x0:List Int}{x4:List Int}:∀(s5:Int×(List Zb)) (r:List Zb),lp (ZcH c x4) s5=some r→lpW ctx 0 [2,6,10,57,58,59] [6,10] ZtV [(.d (Za c)),(.ptr 0 0),(.ptr 1 0),(.d (zL true x4)),(.d (Za (x4.length:Int))),(.d (Za s5.1))] [(.cells [(.sl 2 1),(.sl 3 1),(.sl 4 3),(.sl 5 6),(.sl 6 1)]),(.cells [(.sl 7 1),(.sl 8 1),(.sl 9 3),(.sl 10 6),(.sl 11 1),(.d (zL t0 a.work)),(.d (D.list t1 (List.map Zs a.edges))),(.d (Za 0))]),(.arr 1 []),(.arr 1 []),(.arr 3 []),(.arr 6 []),(.arr 1 []),(.arr 1 (List.map Za x0)),(.arr 1 (List.map Za b)),(.arr 3 (List.map Zy s5.2)),(.arr 6 (List.map Zz (List.replicate c.toNat ((Zh.mk false 0 0 0 0 0):Zh)))),(.arr 1 (List.map Za (List.replicate c.toNat (0:Int))))]=some ((ZhE t0 t1 a b c x0 x4) r):=
 lpT (ZhE t0 t1 a b c x0 x4) fun s5 _ ih=>yB (yG fun x6 _=>
  yBn (by
 conv=>rhs;whnf
 refine Ze _ Zft fun x7 _=>?_
 rcases x7 with x7 | x7
 exact Zm (ih _)
 exact Zm (ih _)))
  (Zp rfl)
theorem ZnM {t0 t1 t2:Bool}{a:Zi}{b:List Int}{c:Int}:∀r,(ZgU a b c)=some r→evW ctx 163 [(.d (D.agg [(zL t0 a.work),(D.list t1 (List.map Zs a.edges))])),(.d (zL t2 b)),(.d (Za c))] []=some ((Zpz t0 t1 t2 a b c) r):=
 evS ZxM rfl rfl <| (by
 conv=>rhs;whnf
 refine Ze _ ZjZ fun x0 _=>?_
 rcases x0 with x0 | x0
 exact yBm yR
 exact yF (yBm (Zf (ZgP Zz ((Zh.mk false 0 0 0 0 0):Zh) c) (yBm (Zf (ZgP Za (0:Int) c) (Ze _ (ZkQ _) fun r3 _=>
  yC ZfI fun x4 _=>
  Zf (Zr _ _) (Ze _ (ZkN _) fun r8 _=>
  yR)))))))
def ZjQ (r:(ZP×Int)):D:=(D.tup [(D.agg [(zL true r.1.crew.on),(zL true r.1.crew.left),(D.list true (List.map Zy r.1.deques)),(D.list true (List.map Zz r.1.takers)),(zL true r.1.from_)]),(Za r.2)])
theorem Zjp {t0 t1 t2:Bool}{a:ZiM}{b:Zi}{c:List Int}{d:Int}:∀r,(ZeJ a b c d)=some r→evD ctx 159 [(.d (D.agg [])),(.d (D.agg [(zL t0 b.work),(D.list t1 (List.map Zs b.edges))])),(.d (zL t2 c)),(.d (Za d))]=some (ZjQ r):=
 evT ZxY rfl rfl <| (by
 conv=>rhs;whnf
 refine Ze _ ZnM fun x0 _=>?_
 rcases x0 with x0 | x0
 exact yR
 exact yR)
def Zkn (r:(ZP×Int)):D:=(D.tup [(D.agg [(zL true r.1.crew.on),(zL true r.1.crew.left),(D.list true (List.map Zy r.1.deques)),(D.list true (List.map Zz r.1.takers)),(zL true r.1.from_)]),(Za r.2)])
theorem ZjH {t0 t1 t2:Bool}{a:ZoI}{b:Zi}{c:List Int}{d:Int}:∀r,(ZeW a b c d)=some r→evD ctx 215 [(.d (D.agg [])),(.d (D.agg [(zL t0 b.work),(D.list t1 (List.map Zs b.edges))])),(.d (zL t2 c)),(.d (Za d))]=some (Zkn r):=
 evT Zwz rfl rfl <| (by
 conv=>rhs;whnf
 refine Ze _ ZjZ fun x0 _=>?_
 rcases x0 with x0 | x0
 exact yR
 exact yR)
def ZqZ (r:(ZbJ×Int)):D:=(D.tup [(D.agg [(D.bool r.1.stealing),(zL true r.1.demand),(Za r.1.state),(zL true r.1.gang.crew.on),(zL true r.1.gang.crew.left),(D.list true (List.map Zy r.1.gang.deques)),(D.list true (List.map Zz r.1.gang.takers)),(zL true r.1.gang.from_)]),(Za r.2)])
theorem Zpp {t0 t1 t2:Bool}{a:Zi}{b:List Int}{c:Int}{d:Bool}:∀r,(Zek a b c d)=some r→evD ctx 22 [(.d (D.agg [(zL t0 a.work),(D.list t1 (List.map Zs a.edges))])),(.d (zL t2 b)),(.d (Za c)),(.d (D.bool d))]=some (ZqZ r):=
 evT ZzZ rfl rfl <| yC ZcL fun x0 _=>
  yBr (yC ZmR fun x1 _=>
  yB (yBr (yBr (by
 conv=>rhs;whnf
 refine yC Zii fun x2 _=>?_
 rcases x2 with x2 | x2
 exact yC Zjb fun x3 _=>
  yC Zjp fun x4 _=>
  yBr (Ze _ Zo fun x5 _=>
  yC Zb7 fun x6 _=>
  yR)
 exact yC Zjb fun x7 _=>
  yC ZjH fun x8 _=>
  yBr (Ze _ Zo fun x9 _=>
  yC Zb7 fun x10 _=>
  yR))))
  yR)
def Zqr (r:((List (List Int))×Int×Int)):D:=(D.tup [(D.list true (List.map (Zex true) r.1)),(Za r.2.1),(Za r.2.2)])
def Zix (t0:Bool) (t1:Bool) (t3:Bool) (a:Zi) (e:List Int) (x0:(ZbJ×Int)):Int→Ex×List V×Zd
  | r=>(.exit 0,[(.d (zL t3 e)),(.ptr 0 0),(.ptr 1 0),(.d (Za r))],[(.cells [(.d (zL t0 a.work)),(.d (D.list t1 (List.map Zs a.edges)))]),(.cells [(.d (D.bool x0.1.stealing)),(.d (zL true x0.1.demand)),(.d (Za x0.1.state)),(.d (zL true x0.1.gang.crew.on)),(.d (zL true x0.1.gang.crew.left)),(.d (D.list true (List.map Zy x0.1.gang.deques))),(.d (D.list true (List.map Zz x0.1.gang.takers))),(.d (zL true x0.1.gang.from_))])])
theorem Zl1 {t0 t1 t3:Bool}{a:Zi}{e:List Int}{x0:(ZbJ×Int)}:∀(s1:Int×Int) (r:Int),lp (Zea x0) s1=some r→lpW ctx 0 [4,5,13,15,36,37,38] [4,5,13,15] Zxm [(.d (zL t3 e)),(.ptr 0 0),(.ptr 1 0),(.d (Za s1.1)),(.d (zL true x0.1.gang.crew.left)),(.d (Za (x0.1.gang.crew.left.length:Int))),(.d (Za s1.2))] [(.cells [(.d (zL t0 a.work)),(.d (D.list t1 (List.map Zs a.edges)))]),(.cells [(.d (D.bool x0.1.stealing)),(.d (zL true x0.1.demand)),(.d (Za x0.1.state)),(.d (zL true x0.1.gang.crew.on)),(.d (zL true x0.1.gang.crew.left)),(.d (D.list true (List.map Zy x0.1.gang.deques))),(.d (D.list true (List.map Zz x0.1.gang.takers))),(.d (zL true x0.1.gang.from_))])]=some ((Zix t0 t1 t3 a e x0) r):=
 lpT (Zix t0 t1 t3 a e x0) fun s1 _ ih=>yB (yG fun x2 _=>
  Zm (ih _))
  (Zp rfl)
def ZiD (t0:Bool) (t1:Bool) (t3:Bool) (a:Zi):((Int×Bool×(List Int)×Int×(List Int)×(List Int)×(List Zb)×(List Zh)×(List Int)×(List (List Int)))⊕(Bool×(List Int)×Int×(List Int)×(List Int)×(List Zb)×(List Zh)×(List Int)×(List (List Int))))→Ex×List V×Zd
  | (.inl r)=>(.ret,[(.nilsl 1),(.d (Za 0)),(.d (Za r.1)),(.ptr 0 0),(.sl 1 1)],[(.cells [(.d (D.bool r.2.1)),(.d (zL true r.2.2.1)),(.d (Za r.2.2.2.1)),(.d (zL true r.2.2.2.2.1)),(.d (zL true r.2.2.2.2.2.1)),(.d (D.list true (List.map Zy r.2.2.2.2.2.2.1))),(.d (D.list true (List.map Zz r.2.2.2.2.2.2.2.1))),(.d (zL true r.2.2.2.2.2.2.2.2.1))]),(.arr 1 (List.map (Zex true) r.2.2.2.2.2.2.2.2.2))])
  | (.inr r)=>(.exit 2,[.bad,.bad,.bad,(.ptr 0 0),(.sl 1 1)],[(.cells [(.d (D.bool r.1)),(.d (zL true r.2.1)),(.d (Za r.2.2.1)),(.d (zL true r.2.2.2.1)),(.d (zL true r.2.2.2.2.1)),(.d (D.list true (List.map Zy r.2.2.2.2.2.1))),(.d (D.list true (List.map Zz r.2.2.2.2.2.2.1))),(.d (zL true r.2.2.2.2.2.2.2.1))]),(.arr 1 (List.map (Zex true) r.2.2.2.2.2.2.2.2))])
theorem Zml {t0 t1 t3:Bool}{a:Zi}:∀(s4:(List Int)×Bool×(List Int)×Int×(List Int)×(List Int)×(List Zb)×(List Zh)×(List Int)×(List (List Int))) (r:((Int×Bool×(List Int)×Int×(List Int)×(List Int)×(List Zb)×(List Zh)×(List Int)×(List (List Int)))⊕(Bool×(List Int)×Int×(List Int)×(List Int)×(List Zb)×(List Zh)×(List Int)×(List (List Int))))),lp (Zdn a) s4=some r→lpW ctx 0 [4,5,13,18] [10,11,12,13,18] Zw8 [(.d (zL t3 s4.1)),(.ptr 0 0),(.ptr 1 0),(.sl 2 1)] [(.cells [(.d (zL t0 a.work)),(.d (D.list t1 (List.map Zs a.edges)))]),(.cells [(.d (D.bool s4.2.1)),(.d (zL true s4.2.2.1)),(.d (Za s4.2.2.2.1)),(.d (zL true s4.2.2.2.2.1)),(.d (zL true s4.2.2.2.2.2.1)),(.d (D.list true (List.map Zy s4.2.2.2.2.2.2.1))),(.d (D.list true (List.map Zz s4.2.2.2.2.2.2.2.1))),(.d (zL true s4.2.2.2.2.2.2.2.2.1))]),(.arr 1 (List.map (Zex true) s4.2.2.2.2.2.2.2.2.2))]=some ((ZiD t0 t1 t3 a) r):=
 lpT (ZiD t0 t1 t3 a) fun s4 _ ih=>yB (yC ZoS fun x5 _=>
  yB (Zp rfl)
  (Zf (Zr _ _) (yBm (ZaJ (Zrk Za s4.1 (bif decide ((s4.1.length:Int)<x5.2.1.steps) then (s4.1.length:Int) else x5.2.1.steps).toNat) (Zlf (ZvX Za (fun _=>⟨rfl,rfl⟩) s4.1 _) (Zf (ZoD Za s4.1 (bif decide ((s4.1.length:Int)<x5.2.1.steps) then (s4.1.length:Int) else x5.2.1.steps).toNat) (yT (ZaJ (Zeg (Zex true) s4.2.2.2.2.2.2.2.2.2 1) (Zf (Zee (Zex true) s4.2.2.2.2.2.2.2.2.2 [x5.2.1.on]) (Zm (ih _)))
  Z3))))
  Z3))))
  (Zp rfl)
theorem Zpu {t0 t1:Bool}{t2 t3:Bool}{a:Zi}{b:List Int}{c:Int}{d:Bool}{e:List Int}:∀r,(Ze4 a b c d e)=some r→evD ctx 20 [(.d (D.agg [(zL t0 a.work),(D.list t1 (List.map Zs a.edges))])),(.d (zL t2 b)),(.d (Za c)),(.d (D.bool d)),(.d (zL t3 e))]=some (Zqr r):=
 evT ZzQ rfl rfl <| yC Zpp fun x0 _=>
  yBr (Zf (Zr _ _) (Ze _ (Zl1 _) fun r3 _=>
  yBr (by
 conv=>rhs;whnf
 refine Ze _ (Zml _) fun r6 _=>?_
 rcases r6 with r6 | r6
 exact yR
 exact yR)))
def Zpn (r:List Int):D:=(zL true r)
theorem Znw {t0 t1:Bool}{a:Zi}:∀r,(ZgL a)=some r→evD ctx 57 [(.d (D.agg [(zL t0 a.work),(D.list t1 (List.map Zs a.edges))]))]=some (Zpn r):=
 evT ZAp rfl rfl <| yC ZcL fun x0 _=>
  yBr (yC Zi4 fun x1 _=>
  yBr yR)
def Zm1 (r:(Int×Bool)):D:=(D.tup [(Za r.1),(D.bool r.2)])
theorem ZlW {a:Zt}{b0:Int}:∀r,(Zdf a b0)=some r→evD ctx 93 [(.d (D.agg [(Za a.src),(Za a.dst)])),(.d (D.rptr [(Za b0)]))]=some (Zm1 r):=
 evT Zz4 rfl rfl <| yBr yR
def Zhh (r:List Int):D:=(zL true r)
def Zdq (t1:Bool) (a:Zi) (b0:Int):(List Int)→Ex×List V×Zd
  | r=>(.exit 0,[(.sl 0 1)],[(.arr 1 (List.map Za r))])
theorem ZfF {t1:Bool}{a:Zi}{b0:Int}:∀(s0:Int×(List Int)) (r:List Int),lp (Zbt a (fun z0=>Zdf z0 b0)) s0=some r→lpW ctx 0 [1,5,11,12,13] [5] Zta [(.d (D.fn 93 [(D.rptr [(Za b0)])])),(.sl 0 1),(.d (D.list t1 (List.map Zs a.edges))),(.d (Za (a.edges.length:Int))),(.d (Za s0.1))] [(.arr 1 (List.map Za s0.2))]=some ((Zdq t1 a b0) r):=
 lpT (Zdq t1 a b0) fun s0 _ ih=>yB (yG fun x1 _=>
  yC ZlW fun x2 _=>
  yB (yT (ZaJ (Zeg Za s0.2 1) (Zf (Zee Za s0.2 [x2.1]) (Zm (ih _)))
  Z3))
  (Zm (ih _)))
  (Zp rfl)
theorem ZgC {t0 t1:Bool}{a:Zi}{b0:Int}:∀r,(Zf4 a (fun z0=>Zdf z0 b0))=some r→evD ctx 92 [(.d (D.agg [(zL t0 a.work),(D.list t1 (List.map Zs a.edges))])),(.d (D.fn 93 [(D.rptr [(Za b0)])]))]=some (Zhh r):=
 evT Zx8 rfl rfl <| Zf (Zr _ _) (Ze _ (ZfF _) fun r3 _=>
  Ze _ ZbH fun x4 _=>
  yR)
def Zpj (r:List Int):D:=(zL true r)
theorem Znz {t0 t1:Bool}{a:Zi}{b:Int}:∀r,(ZgQ a b)=some r→evD ctx 58 [(.d (D.agg [(zL t0 a.work),(D.list t1 (List.map Zs a.edges))])),(.d (Za b))]=some (Zpj r):=
 evT ZzD rfl rfl <| yC ZgC fun x0 _=>
  yR
def ZqY (r:Int):D:=(Za r)
def ZiC (t0:Bool) (t1:Bool) (a:Zi) (x0:List Int) (s1:Int×Int×(List Int)) (x2:Int) (x3:List Int):(List Int)→Ex×List V×Zd
  | r=>(.exit 2,[(.ptr 0 0),(.sl 1 1),(.d (Za s1.1)),(.d (Za x2)),(.d (zL true x0)),(.d (Za (x0.length:Int))),(.d (Za s1.2.1))],[(.cells [(.d (zL t0 a.work)),(.d (D.list t1 (List.map Zs a.edges)))]),(.arr 1 (List.map Za r))])
theorem Zmg {t0 t1:Bool}{a:Zi}{x0:List Int}{s1:Int×Int×(List Int)}{x2:Int}{x3:List Int}:∀(s4:Int×(List Int)) (r:List Int),lp (Zdj x2 x3) s4=some r→lpW ctx 0 [1,3,4,6,14,15,16,22,23,24] [1,3,4,6,14,15,16] ZxD [(.ptr 0 0),(.sl 1 1),(.d (Za s1.1)),(.d (Za x2)),(.d (zL true x0)),(.d (Za (x0.length:Int))),(.d (Za s1.2.1)),(.d (zL true x3)),(.d (Za (x3.length:Int))),(.d (Za s4.1))] [(.cells [(.d (zL t0 a.work)),(.d (D.list t1 (List.map Zs a.edges)))]),(.arr 1 (List.map Za s4.2))]=some ((ZiC t0 t1 a x0 s1 x2 x3) r):=
 lpT (ZiC t0 t1 a x0 s1 x2 x3) fun s4 _ ih=>yB (yG fun x5 _=>
  yG fun x6 hx6=>
  Zq (Z1 rfl hx6) (yG fun x7 hx7=>
  Zq (Z1 rfl hx7) (Zq (ZdK rfl hx6) (Zq (Z1 rfl hx6) (Zf (Zbp Za s4.2 x2.toNat (bif decide (x6<x7) then x7 else x6)) (Zm (ih _)))))))
  (Zp rfl)
def ZiE (t0:Bool) (t1:Bool) (a:Zi) (x0:List Int):Int→Ex×List V×Zd
  | r=>(.exit 0,[(.d (Za r))],[])
theorem Zmp {t0 t1:Bool}{a:Zi}{x0:List Int}:∀(s1:Int×Int×(List Int)) (r:Int),lp (Zdm a x0) s1=some r→lpW ctx 0 [1,3,4,14,15,16] [4] ZvG [(.ptr 0 0),(.sl 1 1),(.d (Za s1.1)),(.d (zL true x0)),(.d (Za (x0.length:Int))),(.d (Za s1.2.1))] [(.cells [(.d (zL t0 a.work)),(.d (D.list t1 (List.map Zs a.edges)))]),(.arr 1 (List.map Za s1.2.2))]=some ((ZiE t0 t1 a x0) r):=
 lpT (ZiE t0 t1 a x0) fun s1 _ ih=>yB (yG fun x2 _=>
  yC Znz fun x3 _=>
  Zf (Zr _ _) (Ze _ (Zmg _) fun r8 _=>
  yG fun x9 hx9=>
  Zq (Z1 rfl hx9) (yG fun x10 _=>
  Zq (ZdK rfl hx9) (Zq (Z1 rfl hx9) (Zf (Zbp Za r8 x2.toNat (w64 (x9+x10))) (yG fun x11 hx11=>
  Zq (Z1 rfl hx11) (Zm (ih _))))))))
  (Zp rfl)
theorem Zj4 {t0 t1:Bool}{a:Zi}:∀r,(Zgl a)=some r→evD ctx 31 [(.d (D.agg [(zL t0 a.work),(D.list t1 (List.map Zs a.edges))]))]=some (ZqY r):=
 evT ZzM rfl rfl <| Zf (Zr _ _) (yBm (Zf (ZgP Za (0:Int) (a.work.length:Int)) (yC Znw fun x0 _=>
  Zf (Zr _ _) (Ze _ (Zmp _) fun r12 _=>
  yR))))
def Zna (r:Int):D:=(Za r)
theorem ZlI {t0 t1 t2:Bool}{a:Zi}{b:List Int}{c:Int}:∀r,(Zfe a b c)=some r→evD ctx 32 [(.d (D.agg [(zL t0 a.work),(D.list t1 (List.map Zs a.edges))])),(.d (zL t2 b)),(.d (Za c))]=some (Zna r):=
 evT ZzI rfl rfl <| yC ZhK fun x0 _=>
  yB (yBr (yC Zgw fun x1 _=>
  yC Zj4 fun x2 _=>
  yBn yR))
  yR
def ZjR (r:Bool):D:=(D.bool r)
theorem ZiU {t0 t1:Bool}{t2 t3:Bool}{a:Zi}{b:List Int}{c:Int}{d:Bool}{e:List Int}:∀r,(ZeG a b c d e)=some r→evD ctx 8 [(.d (D.agg [(zL t0 a.work),(D.list t1 (List.map Zs a.edges))])),(.d (zL t2 b)),(.d (Za c)),(.d (D.bool d)),(.d (zL t3 e))]=some (ZjR r):=
 evT fn8 rfl rfl <| yC ZdU fun x0 _=>
  yB (yC Zk8 fun x1 _=>
  yB (Zf (Zr _ _) (yB (yC ZdU fun x2 _=>
  yBr yR)
  (Ze _ ZdG fun x3 _=>
  Ze _ ZfE fun x4 _=>
  Ze _ ZfE fun x5 _=>
  yC Zpu fun x6 _=>
  yB (Zf (Zr _ _) (yBr yR))
  (Zf (Zr _ _) (Ze _ ZdG fun x7 _=>
  yC Zgw fun x8 _=>
  Ze _ ZdG fun x9 _=>
  yC Zj4 fun x10 _=>
  yB (Ze _ ZdG fun x11 _=>
  Ze _ ZfE fun x12 _=>
  yC ZlI fun x13 _=>
  yBr yR)
  yR)))))
  (yC ZdU fun x14 _=>
  yBr yR))
  (yC ZdU fun x15 _=>
  yBr yR)
end Go.Proofs.YtgcfmiajkbbmeaaGreat
namespace Go.Proofs.YtgcfmiajkbbmeaaGreat
open Go Go.Proofs.YtgcfmiajkbbmeaaGreatE
open Go.IntKind (u64 i64 u32 i32 u8)
abbrev ZwJ:List Lf×Bool:=([.int .i64],false)
abbrev ZxI:List Lf×Bool:=([.bool],false)
abbrev Zj5:List Lf×Bool:=([.sl false [.int .i64]],false)
abbrev Zr8:List Lf×Bool:=([.sl false [.int .i64],.sl true [.int .i64,.int .i64]],true)
theorem Zo9 (g:Zi) (dem:List Int) (c:Int) (d:Bool) (picks:List Int):ZeG g dem c d picks=some true:=by
 unfold ZeG
 simp only[Zdl,Option.bind_some,cond_true]
 obtain⟨b,hb,hb2⟩:=Zq2 g dem
 rw[hb,Option.bind_some]
 cases b with
 | false=>rfl
 | true=>
 obtain⟨hf,hl,hsum⟩:=hb2 rfl
 obtain⟨hw,he,hsh⟩:=Zrb hf
 rw[cond_true]
 by_cases hp:600<(picks.length:Int)
 ·rw[decide_eq_true hp];rfl
 rw[decide_eq_false hp,cond_false]
 simp only[Zvr hf,Zj7 (show dem.length≤100000 by omega),Zj7 (show picks.length≤100000 by omega),Zj7 (show g.work.length≤100000 by omega),Option.bind_some]
 by_cases h1:ZiN g dem c=0
 ·have hin:=Zr3.1 h1
  have hns:=Zv7 hin.dl
  have hs:=hsum hin.ck
  have hn:=hin.need
  have hnl:=hn.nl
  have c1:=hin.c1
  have c8:=hin.c8
  obtain⟨hG,hA⟩:=ZQ hin.ck
  obtain⟨t,left,on,e1,R⟩:=ZuU (picks:=picks) hin (by omega) (by omega) d
  have S:=R.sched
  have sh:=R.short
  have hle:∀n,isN (ZaP g dem) n→lf (ZaP g dem) n≤lf g.work n:=fun n hn'=>by
   rw[Zv4 hin.dl ⟨hn'.1,by rw[← hnl];exact hn'.2⟩]
   split<;>omega
  have hr0:0≤left.sum:=by
   have hcr:=S.crew (fun x hx=>hn.rng x hx) (by rw[hnl];exact Zd3 hG)
   exact(Zl4 left fun x hx=>hcr.rng x hx).1
  have hwin:ZkD g g.work c:=⟨hin.ck,rfl,hin.wr,c1,c8⟩
  obtain⟨F,M,hL,hF⟩:=ZwR hin.ck
  have hM:=Zui hG hF
  have g1:=ZxE (h:=g) hn S rfl hnl.symm hle hF hM
  obtain⟨F2,M2,hF2,hM2,hM3,hB⟩:=Zyo hwin
  have g2:=ZxE (h:=⟨g.work,g.edges⟩) hn S rfl hnl.symm hle hF2 hM2
  have hMs:=ZpJ hin.ck hF
  have hws0:=Zl4 g.work fun x hx=>by have:=hin.wr x hx;omega
  have hMb:M≤64000:=by have:=hG.wl;omega
  have p1:0≤(c-1)*M∧(c-1)*M≤448000:=⟨Int.mul_nonneg (by omega) hM,by
   have:(c-1)*M≤7*M:=Int.mul_le_mul_of_nonneg_right (by omega) hM
   omega⟩
  have p2:0≤c*(t.length:Int)∧c*(t.length:Int)≤32768:=⟨Int.mul_nonneg (by omega) (by omega),by
   have:c*(t.length:Int)≤8*(t.length:Int):=Int.mul_le_mul_of_nonneg_right (by omega) (by omega)
   omega⟩
  have p3:0≤(c-1)*M2:=Int.mul_nonneg (by omega) hM2
  have b2:=Zvv (n:=(t.length:Int)) c1 (show 0≤g.work.sum+(c-1)*M2 by omega) (by omega)
  rw[e1,Option.bind_some]
  simp only[Zth,cond_false]
  rw[Zrc hin.ck,Option.bind_some,hL,Option.bind_some,Zbf (show -9223372036854775808≤c-1 by omega) (by omega),Zbf (show -9223372036854775808≤(c-1)*M by omega) (by omega),Zbf (show -9223372036854775808≤g.work.sum+(c-1)*M by omega) (by omega),
   Zbf (show -9223372036854775808≤c*(t.length:Int) by omega) (by omega),decide_eq_true (show c*(t.length:Int)≤g.work.sum+(c-1)*M by omega),cond_true,hB,Option.bind_some,decide_eq_true b2]
  rfl
 ·rw[ZqX hsh hl h1,Option.bind_some]
  simp only[show(ZiN g dem c != 0)=true from bne_iff_ne.2 h1,cond_true]
  rfl
theorem Zqz (xs:List D) (h:ZdV Zr8.1 xs) (ys:List D) (k:ZdV Zj5.1 ys) (zs:List D) (m:ZdV ZwJ.1 zs) (vs:List D) (n:ZdV ZxI.1 vs) (us:List D) (o:ZdV Zj5.1 us) :
  ∃H',evW ctx 8 (ZaR [Zic Zr8.2 xs,Zic Zj5.2 ys,Zic ZwJ.2 zs,Zic ZxI.2 vs,Zic Zj5.2 us]) []=some (.d (.bool true),H'):=by
 obtain⟨d0,e0,_⟩:=Zvk h
 obtain⟨d1,e1,_⟩:=Zod k
 obtain⟨d2,e2,_⟩:=Zz1 m
 obtain⟨d3,e3⟩:=Zyk n
 obtain⟨d4,e4,_⟩:=Zod o
 show ∃H',evW ctx 8 [.d (D.agg xs),.d (Zic false ys),.d (Zic false zs),.d (Zic false vs),.d (Zic false us)] []=_
 rw[e0,e1,e2,e3,e4]
 exact ZxU (ZiU true (Zo9 d0 d1 d2 d3 d4))
open Go Go.Proofs Go.Proofs.YtgcfmiajkbbmeaaGreatE
theorem Zyc:((begin Tryz.prog (fun _ _=>0) default).world.heap[1]?).bind Obj.row? = some (Array.replicate 64 (.int .u8 0),226):=by kernel_rfl
theorem Zur:Tryz.prog.cellTypes Tryz.prog.depth 226=some (List.replicate 64 5):=by kernel_rfl
def ZnO (cs:Array Value) (i:Nat):Int:=match cs[i]? with | some (.int _ m)=>m | _=>0
def ZlR (cs:Array Value):List (IntKind×Int):=(List.range 64).map fun i=>(.u8,ZnO cs i)
theorem Ztd {W:World} (h:W.ShapedOpen Tryz.prog):∃G:Zk,ZnU G∧GOK G R0 W:=by
 obtain⟨cs,h1,h2,h3⟩:=h.1 1 _ 226 (of_decide_eq_true (by kernel_rfl)) Zyc
 obtain⟨ts,t1,_,t2⟩:=h3 (by kernel_rfl)
 rw[Zur] at t1
 have hts:ts=List.replicate 64 5:=(Option.some.inj t1).symm
 subst hts
 have hsz:cs.size=64:=by rw[h2];simp
 have cell:∀i,i<64→cs[i]? = some (.int .u8 (ZnO cs i)):=fun i hi=>by
  have hi2:i<cs.size:=by omega
  obtain⟨u,hu,hok⟩:=t2 i cs[i] (by simp[hi2])
  have hu5:u=5:=(List.mem_replicate.1 (List.mem_of_getElem? hu)).2
  subst hu5
  unfold Cell.ok at hok
  rw[Tryz.underlying5] at hok
  have hg:cs[i]? = some cs[i]:=by simp[hi2]
  unfold ZnO
  rw[hg]
  cases hv:cs[i]<;>rw[hv] at hok<;>simp at hok
  case int k n=>rw[hok.1]
 refine⟨fun g=>if g=1 then some (ZlR cs) else none,⟨ZlR cs,by simp,by simp[ZlR],fun x hx=>?_⟩,fun g l hg=>?_⟩
 ·obtain⟨i,_,rfl⟩:=List.mem_map.1 hx
  rfl
 ·by_cases hg1:g=1
  ·subst hg1
   simp only[if_true] at hg
   cases hg
   refine ZzO ⟨1,0,rfl,trivial,(Array.getElem?_eq_some_iff.1 h1).1,ZfB _ _ fun j x hj=>?_⟩
   rw[Ztn,List.getElem?_map] at hj
   have hj64:j<64:=by
    refine Classical.byContradiction fun hn=>?_
    rw[List.getElem?_eq_none (by simp[ZlR];omega)] at hj
    cases hj
   have hr:(ZlR cs)[j]? = some (.u8,ZnO cs j):=by simp[ZlR,hj64]
   rw[hr] at hj
   cases hj
   refine⟨.int .u8 (ZnO cs j),?_,rfl⟩
   simp only[World.cell?,h1,Nat.zero_add]
   simpa using cell j hj64
  ·dsimp only at hg
   rw[if_neg hg1] at hg
   cases hg
end Go.Proofs.YtgcfmiajkbbmeaaGreat
namespace Go.Proofs.YtgcfmiajkbbmeaaGreat.LawTeamBound
open Go.ChangeShapes Go.WideShapes Go.ChangeAt Go.RowKit Go.Proofs.YtgcfmiajkbbmeaaGreatE
theorem own:ownKnob Tryz.prog.godebug=none:=by kernel_rfl
theorem Zlj:laidOutB Tryz.prog=true:=by kernel_rfl
theorem Zz9 (os:Os) (started:os.Started) (H:Type) (enc:TypeId×Value→H) :
  ReturnsInHanded {} Tryz.checked os 8 .any (Rows.teamBoundSpec.pre6 enc Tryz.prog Tryz.f8 Rows.teamBoundRow.domain false) (Rows.teamBoundSpec.post enc Tryz.prog Tryz.f8 false true false false):=by
 refine returnsInHanded_of_change_shaped (C:=Tryz.checked) own started (by kernel_rfl) Tryz.func8
  (ChangeSpec.witness6 (enc:=enc) (C:=Tryz.checked) false ⟨#[],#[.agg #[.slice none 0 0,.slice none 0 0],.slice none 0 0,.int .i64 0,.bool false,.slice none 0 0],[]⟩ 8 (by kernel_rfl) (by kernel_rfl) (by kernel_rfl) (by kernel_rfl)) ?_
 intro W base args ds gs before hval0 hW _ _ hSh _
 obtain⟨G,hG,hgt⟩:=Ztd hSh
 have hval:∀(j:Nat) t v,Tryz.f8.params[j]? = some t→args[j]? = some v→Value.okWide Tryz.prog W .any base t v:=hval0
 have hW':=hW
 obtain⟨p,q,hA0,hV,rfl,hfz,hnd⟩:=hW
 have hA:DataW.TrodAll enc Tryz.prog W 0 (fun _=>true) true Tryz.f8.params.toList args.toList ds p:=hA0
 rw[Tryz.params8] at hA hval
 obtain⟨v0,vs0,d0,ds0,p0,q0,hargs,rfl,rfl,h0,r0⟩:=trodAll_cons hA
 obtain⟨v1,vs1,d1,ds1,p1,q1,rfl,rfl,rfl,h1,r1⟩:=trodAll_cons r0
 obtain⟨v2,vs2,d2,ds2,p2,q2,rfl,rfl,rfl,h2,r2⟩:=trodAll_cons r1
 obtain⟨v3,vs3,d3,ds3,p3,q3,rfl,rfl,rfl,h3,r3⟩:=trodAll_cons r2
 obtain⟨v4,vs4,d4,ds4,p4,q4,rfl,rfl,rfl,h4,r4⟩:=trodAll_cons r3
 obtain⟨rfl,rfl,rfl⟩:=trodAll_nil r4
 obtain rfl:args = #[v0,v1,v2,v3,v4]:=by cases args;simp_all
 obtain⟨rfl,rfl⟩:=trodVars_none hV
 have lt0:∀x∈p0,x.block<W.heap.size:=by obtain⟨m,hm⟩:=h0;exact DataW.trod_lt m _ _ _ hm
 obtain⟨x0,ok0,den0⟩:=Zn2 (P:=Tryz.prog) (n:=8) (t:=25) (l:=Zr8.1) (ag:=Zr8.2) (by kernel_rfl) (hval 0 25 v0 rfl rfl) h0
 have lt1:∀x∈p1,x.block<W.heap.size:=by obtain⟨m,hm⟩:=h1;exact DataW.trod_lt m _ _ _ hm
 obtain⟨x1,ok1,den1⟩:=Zn2 (P:=Tryz.prog) (n:=8) (t:=22) (l:=Zj5.1) (ag:=Zj5.2) (by kernel_rfl) (hval 1 22 v1 rfl rfl) h1
 have lt2:∀x∈p2,x.block<W.heap.size:=by obtain⟨m,hm⟩:=h2;exact DataW.trod_lt m _ _ _ hm
 obtain⟨x2,ok2,den2⟩:=Zn2 (P:=Tryz.prog) (n:=8) (t:=3) (l:=ZwJ.1) (ag:=ZwJ.2) (by kernel_rfl) (hval 2 3 v2 rfl rfl) h2
 have lt3:∀x∈p3,x.block<W.heap.size:=by obtain⟨m,hm⟩:=h3;exact DataW.trod_lt m _ _ _ hm
 obtain⟨x3,ok3,den3⟩:=Zn2 (P:=Tryz.prog) (n:=8) (t:=4) (l:=ZxI.1) (ag:=ZxI.2) (by kernel_rfl) (hval 3 4 v3 rfl rfl) h3
 have lt4:∀x∈p4,x.block<W.heap.size:=by obtain⟨m,hm⟩:=h4;exact DataW.trod_lt m _ _ _ hm
 obtain⟨x4,ok4,den4⟩:=Zn2 (P:=Tryz.prog) (n:=8) (t:=22) (l:=Zj5.1) (ag:=Zj5.2) (by kernel_rfl) (hval 4 22 v4 rfl rfl) h4
 obtain⟨H1,ev⟩:=Zqz x0 ok0 x1 ok1 x2 ok2 x3 ok3 x4 ok4
 have den:ZY All All All W [Zic Zr8.2 x0,Zic Zj5.2 x1,Zic ZwJ.2 x2,Zic ZxI.2 x3,Zic Zj5.2 x4] [v0,v1,v2,v3,v4]:=⟨_,_,rfl,den0,⟨_,_,rfl,den1,⟨_,_,rfl,den2,⟨_,_,rfl,den3,⟨_,_,rfl,den4,rfl⟩⟩⟩⟩⟩
 refine(Zvd (ZCb G hG) hgt den ev).mono fun e W' ⟨he,bel⟩=>?_
 subst he
 exact⟨_,rfl,_,_,_,[],_,[],hW',trodAll_mk1 (shut_bool Tryz.underlying4 _),(trodAll_cons_mk (Below.trod Zlj (by kernel_rfl) (of_decide_eq_true (by kernel_rfl)) h0 bel lt0) (trodAll_cons_mk (Below.trod Zlj (by kernel_rfl) (of_decide_eq_true (by kernel_rfl)) h1 bel lt1) (trodAll_cons_mk (Below.trod Zlj (by kernel_rfl) (of_decide_eq_true (by kernel_rfl)) h2 bel lt2) (trodAll_cons_mk (Below.trod Zlj (by kernel_rfl) (of_decide_eq_true (by kernel_rfl)) h3 bel lt3) (trodAll_cons_mk (Below.trod Zlj (by kernel_rfl) (of_decide_eq_true (by kernel_rfl)) h4 bel lt4) trodAll_mk0))))),rfl,bel.frame _,fun h=>by cases h⟩
theorem over:Rows.teamBoundRow.holds Tryz.pinned (OpenSpec.ofChange Rows.teamBoundSpec):=
 OpenClaim.holds_of_wide 8 Tryz.f8 rfl rfl rfl rfl rfl rfl rfl ⟨rfl,rfl,rfl,rfl,rfl⟩ rfl rfl rfl rfl rfl (by kernel_rfl) Tryz.func8 (by kernel_rfl)
  (of_decide_eq_true (by kernel_rfl)) (by unfold Func.isWrapper;first | (rw[if_pos (by decide +kernel)];kernel_rfl) | (rw[if_neg (by decide +kernel)];exact⟨rfl,rfl⟩))
  (fun os started H enc _=>Zz9 os started H enc)
theorem proved:Rows.TeamBoundSaid:=over
end Go.Proofs.YtgcfmiajkbbmeaaGreat.LawTeamBound
namespace Go.Proofs.YtgcfmiajkbbmeaaGreat
theorem teamBound_holds:Rows.TeamBoundSaid:=LawTeamBound.proved
#print axioms teamBound_holds
end Go.Proofs.YtgcfmiajkbbmeaaGreat
