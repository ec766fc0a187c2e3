/- TeamEnds: part 5 of 5 of the proof: the row and the card of the law, out of what the evaluator says of it; without conditions. -/
import Derived.Test.YtgcfmiajkbbmeaaGreatZTeamEndsd
import Derived.KernelRfl
import Derived.HandedShaped
import Derived.Test.YtgcfmiajkbbmeaaGreatRows
import Derived.WalkKit
import Derived.ProofKit
import Derived.OpenShut
import Derived.ShutString
import Derived.ChangeOld
import Derived.Below
import Derived.SizedLaws
import Derived.Handed
import Derived.LaidMore
import Derived.Stop.Joined
import Derived.ChangeShapes
import Derived.Carry
set_option maxRecDepth 100000
set_option maxHeartbeats 40000000
set_option linter.unusedVariables false
set_option linter.unusedSimpArgs false
namespace Go.Proofs.YtgcfmiajkbbmeaaGreat
open Go Go.Proofs.YtgcfmiajkbbmeaaGreatE
open Go.IntKind (u64 i64 u32 i32 u8)
section
variable {α β:Type} {A B:Option α} {Q:α→Option β→Prop}
theorem yB {c:Bool}{X Y:Option β} (h1:Zbz A Q X) (h2:Zbz B Q Y):Zbz (bif c then A else B) Q (br c X Y):=ZaV rfl h1 h2
theorem yBn {c:Bool}{X Y:Option β} (h2:Zbz B Q Y):Zbz (bif c then none else B) Q (br c X Y):=ZaV rfl Z5 h2
theorem yBm {c:Bool}{X Y:Option β} (h1:Zbz A Q X):Zbz (bif c then A else none) Q (br c X Y):=ZaV rfl h1 Z5
theorem yT {X Y:Option β} (h1:Zbz A Q X):Zbz A Q (br true X Y):=ZkR rfl h1
theorem yF {X Y:Option β} (h1:Zbz A Q Y):Zbz A Q (br false X Y):=ZAX rfl h1
theorem yG {γ:Type}{f:γ→D}{l:List γ}{i:Int}{A:γ→Option α}{K:D→Option β} (k:∀r,ZK l i=some r→Zbz (A r) Q (K (f r))):Zbz ((ZK l i).bind A) Q (bnd (ZK (l.map f) i) K):=Zxo rfl rfl k
theorem yC {γ:Type}{Γ:Ctx}{f:Nat}{args:List V}{E:Option γ}{A:γ→Option α}{K:V→Option β}{enc:γ→D} (w:∀r,E=some r→evD Γ f args=some (enc r)) (k:∀r,E=some r→Zbz (A r) Q (ZtP (enc r) K)):Zbz (E.bind A) Q (bnd (evW Γ f args []) (Zl2 K)):=Zwk enc w rfl k
theorem ZwJ {γ:Type}{x:γ}{A:γ→Option α}{X:Option β} (k:Zbz (A x) Q X):Zbz ((some x).bind A) Q X:=k
theorem yR {a:α}{f:α→Option β}:Zbz (some a) (fun r rhs=>rhs=f r) (f a):=Zp rfl
theorem yBr {a:α}{c:Bool}{f:α→Option β}{Y:Option β} (h2:Zbz B (fun r rhs=>rhs=f r) Y):Zbz (bif c then some a else B) (fun r rhs=>rhs=f r) (br c (f a) Y):=yB yR h2
theorem evT {Γ : Ctx} {f : Nat} (fn : FnI) {args : List V} {E : Option α} {enc : α → D} (hc : Γ.code f = some fn) (hn : Nat.beq args.length fn.nargs = true) (h : Zbz E (fun r rhs => rhs = some (enc r)) (Zft Γ 0 fn.body (Zbe 0 args) [] fun x e H1 => (match x with
      | .exit _=>none
      | _=>(match Zhh e H1 fn.res with
        | some l=>Zc5 0 [Zd7 l] H1 fun _ vs H2=>(match vs with | [v]=>(match fr H2 6 v with | some (x,_)=>some x | none=>none) | _=>none)
        | none=>none)))):∀r,E=some r→evD Γ f args=some (enc r):=by rw[ZAI Γ f fn args hc hn];exact h
theorem evS {Γ : Ctx} {f : Nat} (fn : FnI) {args : List V} {H : Zd} {E : Option α} {enc : α → V × Zd} (hc : Γ.code f = some fn) (hn : Nat.beq args.length fn.nargs = true) (h : Zbz E (fun r rhs => rhs = some (enc r)) (Zft Γ H.length fn.body (Zbe 0 args) H fun x e H1 => (match x with
      | .exit _=>none
      | _=>(match Zhh e H1 fn.res with
        | some l=>Zc5 H.length [Zd7 l] H1 fun _ vs H2=>(match vs with | [v]=>some (v,H2) | _=>none)
        | none=>none)))):∀r,E=some r→evW Γ f args H=some (enc r):=by rw[Zyq Γ f fn args H hc hn];exact h
theorem lpT {S R:Type}{step:S→Option (S⊕R)}{Γ:Ctx}{k:Nat}{live outs:List Nat}{b:C}{vs:S→List V}{H:S→Zd} (x:R→Ex×List V×Zd)
    (h:∀(s:S) (rec:S→Option R),(∀s r,rec s=some r→lpW Γ k live outs b (vs s) (H s)=some (x r))→Zbz (step s) (fun t rhs=>(match t with | .inl s'=>∀r,rec s'=some r→rhs=some (x r) | .inr r=>rhs=some (x r))) (Zft Γ k b (ZbT live (vs s)) (H s) fun x e H=>(match x with
      | .normal=>Zl7 k (live.map e) H fun vs H=>bnd (lpW Γ k live outs b vs H) some
      | x=>Zc5 k (outs.map e) H fun _ vs H=>some (x,vs,H)))):∀s r,lp step s=some r→lpW Γ k live outs b (vs s) (H s)=some (x r):=
  ZAr (G:=fun s=>lpW Γ k live outs b (vs s) (H s)) x fun s rec ih=>by rw[ZAZ];exact h s rec ih
end
theorem ZdI:∀r,Zdd=some r→evD ctx 9 []=some (D.bool r):=fun r h=>by
  cases h
  exact Zzu 100 (by kernel_rfl)
def Zo3 (r:Bool):D:=(D.bool r)
theorem Zno {t0 t1:Bool}{a:Zl}:∀r,(ZgA a)=some r→evD ctx 34 [(.d (D.agg [(zL t0 a.work),(D.list t1 (List.map Zs a.edges))]))]=some (Zo3 r):=
 evT ZyT rfl rfl <| Zh (Zq _ _) (yB (Zh (Zq _ _) (yBr yR))
  yR)
def ZoX (t0:Bool) (t1:Bool) (a:Zl):Unit→V×Zd
  | r=>((.agg [(.sl 0 1),(.sl 1 2)]),[(.arr 1 (List.map Za a.work)),(.arr 2 (List.map Zs a.edges))])
theorem Zgk {t0 t1:Bool}{a:Zl}:∀r,(Zed a)=some r→evW ctx 12 [(.d (D.agg [(zL t0 a.work),(D.list t1 (List.map Zs a.edges))]))] []=some ((ZoX t0 t1 a) r):=
 evS ZyY rfl rfl <| ZkR (Zgp (f:=Za) (fun _=>⟨rfl,rfl⟩) a.work 0) (ZaV (ZhE Za a.work) (Zh (rfl:_=List.map Za a.work) (ZkR (Zgp (f:=Zs) (fun _=>⟨rfl,rfl⟩) a.edges 0) (ZaV (ZhE Zs a.edges) (Zh (rfl:_=List.map Zs a.edges) yR)
  Z5)))
  Z5)
def Znc (t0:Bool) (a:List Int):Unit→V×Zd
  | r=>((.sl 0 1),[(.arr 1 (List.map Za a))])
theorem Zfx {t0:Bool}{a:List Int}:∀r,(ZdA a)=some r→evW ctx 14 [(.d (zL t0 a))] []=some ((Znc t0 a) r):=
 evS ZzI rfl rfl <| ZkR (Zgp (f:=Za) (fun _=>⟨rfl,rfl⟩) a 0) (ZaV (ZhE Za a) (Zh (rfl:_=List.map Za a) yR)
  Z5)
def Zmz (r:Bool):D:=(D.bool r)
theorem Zlz {a:Int}:∀r,(Zbw a)=some r→evD ctx 67 [(.d (Za a))]=some (Zmz r):=
 evT ZyW rfl rfl <| yBr (yBr yR)
def ZcQ (r:Int):D:=(Za r)
def Zas (t0:Bool) (a:List Int):(Int⊕Unit)→Ex×List V×Zd
  | (.inl r)=>(.ret,[(.d (Za r))],[])
  | (.inr r)=>(.exit 0,[.bad],[])
theorem Zb8 {t0:Bool}{a:List Int}:∀(s0:Int) (r:(Int⊕Unit)),lp (Zv a (fun z0=>Zbw z0)) s0=some r→lpW ctx 0 [0,1,7,8] [4] Zls [(.d (zL t0 a)),(.d (D.fn 67 [])),(.d (Za (a.length:Int))),(.d (Za s0))] []=some ((Zas t0 a) r):=
 lpT (Zas t0 a) fun s0 _ ih=>yB (yG fun x1 _=>
  yC Zlz fun x2 _=>
  yB (Zp rfl)
  (Zm (ih _)))
  (Zp rfl)
theorem ZcL {t0:Bool}{a:List Int}:∀r,(ZB a (fun z0=>Zbw z0))=some r→evD ctx 99 [(.d (zL t0 a)),(.d (D.fn 67 []))]=some (ZcQ r):=
 evT Zr0 rfl rfl <| Zh (Zq _ _) (by
 conv=>rhs;whnf
 refine Ze _ (Zb8 _) fun r3 _=>?_
 rcases r3 with r3 | r3
 exact yR
 exact yR)
def Zcp (r:Bool):D:=(D.bool r)
theorem Zcb {t0:Bool}{a:List Int}:∀r,(Zw a (fun z0=>Zbw z0))=some r→evD ctx 66 [(.d (zL t0 a)),(.d (D.fn 67 []))]=some (Zcp r):=
 evT Zum rfl rfl <| yC ZcL fun x0 _=>
  yBr yR
def ZmE (r:Bool):D:=(D.bool r)
theorem Zhf {t0 t1:Bool}{a:Int}{b0:List Int}{b1:List Zt}:∀r,(ZdQ a b0)=some r→evD ctx 68 [(.d (Za a)),(.d (D.rptr [(zL t0 b0),(D.list t1 (List.map Zs b1))]))]=some (ZmE r):=
 evT ZyB rfl rfl <| yB (Zh (Zq _ _) (yBr yR))
  yR
def Zfz (r:Int):D:=(Za r)
def Zcs (t0:Bool) (a:List Zt) (b:Zt):(Int⊕Unit)→Ex×List V×Zd
  | (.inl r)=>(.ret,[(.d (Za r))],[])
  | (.inr r)=>(.exit 0,[.bad],[])
theorem Zeq {t0:Bool}{a:List Zt}{b:Zt}:∀(s0:Int) (r:(Int⊕Unit)),lp (Zan a b) s0=some r→lpW ctx 0 [0,3,7,8] [4] Ztk [(.d (D.list t0 (List.map Zs a))),(.ptr 0 0),(.d (Za (a.length:Int))),(.d (Za s0))] [(.cells [(.d (Za b.src)),(.d (Za b.dst))])]=some ((Zcs t0 a b) r):=
 lpT (Zcs t0 a b) fun s0 _ ih=>yB (yG fun x1 _=>
  yB (Zp rfl)
  (Zm (ih _)))
  (Zp rfl)
theorem Zfq {t0:Bool}{a:List Zt}{b:Zt}:∀r,(ZbA a b)=some r→evD ctx 100 [(.d (D.list t0 (List.map Zs a))),(.d (D.agg [(Za b.src),(Za b.dst)]))]=some (Zfz r):=
 evT ZwN rfl rfl <| Zh (Zq _ _) (by
 conv=>rhs;whnf
 refine Ze _ (Zeq _) fun r2 _=>?_
 rcases r2 with r2 | r2
 exact yR
 exact yR)
def ZeI (r:Bool):D:=(D.bool r)
theorem Zer {t0:Bool}{a:List Zt}{b:Zt}:∀r,(Zaq a b)=some r→evD ctx 69 [(.d (D.list t0 (List.map Zs a))),(.d (D.agg [(Za b.src),(Za b.dst)]))]=some (ZeI r):=
 evT ZzA rfl rfl <| yC Zfq fun x0 _=>
  yBr yR
def ZoK (r:((List Int)×Bool)):D:=(D.tup [(zL true r.1),(D.bool r.2)])
def ZhF (t0:Bool) (t1:Bool) (a:Zl) (s0:(List Int)×(List Bool)) (s1:Int):(Unit⊕Unit)→Ex×List V×Zd
  | (.inl r)=>(.exit 3,[(.ptr 0 0),(.sl 1 1),(.sl 2 1),(.d (Za s1)),(.d (Za (a.work.length:Int))),(.d (Za s1))],[(.cells [(.d (zL t0 a.work)),(.d (D.list t1 (List.map Zs a.edges)))]),(.arr 1 (List.map Za s0.1)),(.arr 1 (List.map D.bool s0.2))])
  | (.inr r)=>(.exit 4,[(.ptr 0 0),(.sl 1 1),(.sl 2 1),(.d (Za s1)),(.d (Za (a.work.length:Int))),(.d (Za s1))],[(.cells [(.d (zL t0 a.work)),(.d (D.list t1 (List.map Zs a.edges)))]),(.arr 1 (List.map Za s0.1)),(.arr 1 (List.map D.bool s0.2))])
theorem ZkP {t0 t1:Bool}{a:Zl}{s0:(List Int)×(List Bool)}{s1:Int}:∀(s3:Int) (r:(Unit⊕Unit)),lp (Zdx a s0 s1) s3=some r→lpW ctx 0 [1,4,5,6,21,22,30,31,32] [1,4,5,6,21,22] Zvn [(.ptr 0 0),(.sl 1 1),(.sl 2 1),(.d (Za s1)),(.d (Za (a.work.length:Int))),(.d (Za s1)),(.d (D.list t1 (List.map Zs a.edges))),(.d (Za (a.edges.length:Int))),(.d (Za s3))] [(.cells [(.d (zL t0 a.work)),(.d (D.list t1 (List.map Zs a.edges)))]),(.arr 1 (List.map Za s0.1)),(.arr 1 (List.map D.bool s0.2))]=some ((ZhF t0 t1 a s0 s1) r):=
 lpT (ZhF t0 t1 a s0 s1) fun s3 _ ih=>yB (yG fun x4 _=>
  yB (yG fun x5 hx5=>
  Zr (Zae rfl hx5) (yB (Zm (ih _))
  (Zp rfl)))
  (Zm (ih _)))
  (Zp rfl)
def Zhw (t0:Bool) (t1:Bool) (a:Zl) (s0:(List Int)×(List Bool)):(((List Int)×(List Bool))⊕Unit)→Ex×List V×Zd
  | (.inl r)=>(.exit 1,[(.ptr 0 0),(.sl 1 1),(.sl 2 1)],[(.cells [(.d (zL t0 a.work)),(.d (D.list t1 (List.map Zs a.edges)))]),(.arr 1 (List.map Za r.1)),(.arr 1 (List.map D.bool r.2))])
  | (.inr r)=>(.exit 2,[(.ptr 0 0),(.sl 1 1),(.sl 2 1)],[(.cells [(.d (zL t0 a.work)),(.d (D.list t1 (List.map Zs a.edges)))]),(.arr 1 (List.map Za s0.1)),(.arr 1 (List.map D.bool s0.2))])
theorem ZkV {t0 t1:Bool}{a:Zl}{s0:(List Int)×(List Bool)}:∀(s1:Int) (r:(((List Int)×(List Bool))⊕Unit)),lp (Zcx a s0) s1=some r→lpW ctx 0 [1,4,5,21,22] [1,4,5] Zwu [(.ptr 0 0),(.sl 1 1),(.sl 2 1),(.d (Za (a.work.length:Int))),(.d (Za s1))] [(.cells [(.d (zL t0 a.work)),(.d (D.list t1 (List.map Zs a.edges)))]),(.arr 1 (List.map Za s0.1)),(.arr 1 (List.map D.bool s0.2))]=some ((Zhw t0 t1 a s0) r):=
 lpT (Zhw t0 t1 a s0) fun s1 _ ih=>yB (yG fun x2 hx2=>
  Zr (Zae rfl hx2) (yB (Zm (ih _))
  (Zh (Zq _ _) (by
 conv=>rhs;whnf
 refine Ze _ (ZkP _) fun r6 _=>?_
 rcases r6 with r6 | r6
 exact Zm (ih _)
 exact Zr (Zd6 rfl hx2) (Zr (Zae rfl hx2) (Zh (Zb9 D.bool s0.2 s1.toNat true) (yT (ZaV (Zex Za s0.1 1) (Zh (Zes Za s0.1 [s1]) (Zp rfl))
  Z5))))))))
  (Zp rfl)
def Zhb (t0:Bool) (t1:Bool) (a:Zl):((List Int)⊕(List Int))→Ex×List V×Zd
  | (.inl r)=>(.ret,[(.nilsl 1),(.d (D.bool false)),(.sl 0 1)],[(.arr 1 (List.map Za r))])
  | (.inr r)=>(.exit 0,[.bad,.bad,(.sl 0 1)],[(.arr 1 (List.map Za r))])
theorem Zlb {t0 t1:Bool}{a:Zl}:∀(s0:(List Int)×(List Bool)) (r:((List Int)⊕(List Int))),lp (Zdy a) s0=some r→lpW ctx 0 [1,4,5] [2,3,4] Zwl [(.ptr 0 0),(.sl 1 1),(.sl 2 1)] [(.cells [(.d (zL t0 a.work)),(.d (D.list t1 (List.map Zs a.edges)))]),(.arr 1 (List.map Za s0.1)),(.arr 1 (List.map D.bool s0.2))]=some ((Zhb t0 t1 a) r):=
 lpT (Zhb t0 t1 a) fun s0 _ ih=>Zh (Zq _ _) (Zh (Zq _ _) (yB (Zh (Zq _ _) (by
 conv=>rhs;whnf
 refine Ze _ (ZkV _) fun r7 _=>?_
 rcases r7 with r7 | r7
 exact Zm (ih _)
 exact Zp rfl))
  (Zp rfl)))
theorem ZnN {t0 t1:Bool}{a:Zl}:∀r,(Zd9 a)=some r→evD ctx 70 [(.d (D.agg [(zL t0 a.work),(D.list t1 (List.map Zs a.edges))]))]=some (ZoK r):=
 evT Zzs rfl rfl <| Zh (Zq _ _) (yBm (Zh (ZhW D.bool (false:Bool) (a.work.length:Int)) (by
 conv=>rhs;whnf
 refine Ze _ (Zlb _) fun r8 _=>?_
 rcases r8 with r8 | r8
 exact yR
 exact yR)))
def ZoS (r:Int):D:=(Za r)
def Zhg (t0:Bool) (t1:Bool) (a:Zl):(Unit⊕Unit)→Ex×List V×Zd
  | (.inl r)=>(.ret,[(.ptr 0 0),(.d (Za 42))],[(.cells [(.d (zL t0 a.work)),(.d (D.list t1 (List.map Zs a.edges)))])])
  | (.inr r)=>(.exit 0,[(.ptr 0 0),.bad],[(.cells [(.d (zL t0 a.work)),(.d (D.list t1 (List.map Zs a.edges)))])])
theorem Zlc {t0 t1:Bool}{a:Zl}:∀(s1:Int) (r:(Unit⊕Unit)),lp (ZcN a) s1=some r→lpW ctx 0 [1,3,23,24,25] [1,2] Zvo [(.ptr 0 0),(.fn 68 [(.ptr 0 0)]),(.d (D.list t1 (List.map Zs a.edges))),(.d (Za (a.edges.length:Int))),(.d (Za s1))] [(.cells [(.d (zL t0 a.work)),(.d (D.list t1 (List.map Zs a.edges)))])]=some ((Zhg t0 t1 a) r):=
 lpT (Zhg t0 t1 a) fun s1 _ ih=>yB (yG fun x2 _=>
  yC Zhf fun x3 _=>
  yB (yC Zhf fun x4 _=>
  yB (yB (Zp rfl)
  (yBm (ZaV (ZvV Zs a.edges s1.toNat) (yT (Zh (Zqz Zs a.edges s1.toNat) (yC Zer fun x5 _=>
  yB (Zp rfl)
  (Zm (ih _)))))
  Z5)))
  (Zp rfl))
  (Zp rfl))
  (Zp rfl)
theorem Zdv {t0 t1:Bool}{a:Zl}:∀r,(Zca a)=some r→evD ctx 39 [(.d (D.agg [(zL t0 a.work),(D.list t1 (List.map Zs a.edges))]))]=some (ZoS r):=
 evT Zyx rfl rfl <| Zh (Zq _ _) (yBr (Zh (Zq _ _) (yBr (yC Zcb fun x0 _=>
  yBr (Zh (Zq _ _) (by
 conv=>rhs;whnf
 refine Ze _ (Zlc _) fun r6 _=>?_
 rcases r6 with r6 | r6
 exact yR
 exact yC ZnN fun x7 _=>
  yBr yR))))))
def ZlT (r:Bool):D:=(D.bool r)
theorem ZkF {a:Int}:∀r,(Za3 a)=some r→evD ctx 71 [(.d (Za a))]=some (ZlT r):=
 evT Zze rfl rfl <| yBr (yBr yR)
def ZcK (r:Int):D:=(Za r)
def Zao (t0:Bool) (a:List Int):(Int⊕Unit)→Ex×List V×Zd
  | (.inl r)=>(.ret,[(.d (Za r))],[])
  | (.inr r)=>(.exit 0,[.bad],[])
theorem ZbX {t0:Bool}{a:List Int}:∀(s0:Int) (r:(Int⊕Unit)),lp (Zv a (fun z0=>Za3 z0)) s0=some r→lpW ctx 0 [0,1,7,8] [4] Zls [(.d (zL t0 a)),(.d (D.fn 71 [])),(.d (Za (a.length:Int))),(.d (Za s0))] []=some ((Zao t0 a) r):=
 lpT (Zao t0 a) fun s0 _ ih=>yB (yG fun x1 _=>
  yC ZkF fun x2 _=>
  yB (Zp rfl)
  (Zm (ih _)))
  (Zp rfl)
theorem Zct {t0:Bool}{a:List Int}:∀r,(ZB a (fun z0=>Za3 z0))=some r→evD ctx 99 [(.d (zL t0 a)),(.d (D.fn 71 []))]=some (ZcK r):=
 evT Zr0 rfl rfl <| Zh (Zq _ _) (by
 conv=>rhs;whnf
 refine Ze _ (ZbX _) fun r3 _=>?_
 rcases r3 with r3 | r3
 exact yR
 exact yR)
def Zb7 (r:Bool):D:=(D.bool r)
theorem Zaj {t0:Bool}{a:List Int}:∀r,(Zw a (fun z0=>Za3 z0))=some r→evD ctx 66 [(.d (zL t0 a)),(.d (D.fn 71 []))]=some (Zb7 r):=
 evT Zum rfl rfl <| yC Zct fun x0 _=>
  yBr yR
def Zon (r:Bool):D:=(D.bool r)
theorem Zmn {t0 t1 t2:Bool}{a:Zl}{b:List Int}:∀r,(ZfV a b)=some r→evD ctx 40 [(.d (D.agg [(zL t0 a.work),(D.list t1 (List.map Zs a.edges))])),(.d (zL t2 b))]=some (Zon r):=
 evT Zyz rfl rfl <| Zh (Zq _ _) (Zh (Zq _ _) (yB (yC Zaj fun x0 _=>
  yBr (yC Zaj fun x1 _=>
  yBr yR))
  yR))
def ZrH (a:Bool):(Unit⊕Unit)→D
  | (.inl r)=>(D.iface 115 (D.agg []))
  | (.inr r)=>(D.iface 116 (D.agg []))
theorem Zh2 {a:Bool}:∀r,(ZdC a)=some r→evD ctx 41 [(.d (D.bool a))]=some ((ZrH a) r):=
 evT Zy7 rfl rfl <| (by
 try unfold ZdC
 rcases hb:a with _ | _
 exact Zzx yR
 exact ZyC yR)
def ZlU (r:Bool):D:=(D.bool r)
theorem Zkp {a:Int}:∀r,(ZbB a)=some r→evD ctx 195 [(.d (Za a))]=some (ZlU r):=
 evT Zwn rfl rfl <| yBr (yBr yR)
def ZcG (r:Int):D:=(Za r)
def Zap (t0:Bool) (a:List Int):(Int⊕Unit)→Ex×List V×Zd
  | (.inl r)=>(.ret,[(.d (Za r))],[])
  | (.inr r)=>(.exit 0,[.bad],[])
theorem Zb2 {t0:Bool}{a:List Int}:∀(s0:Int) (r:(Int⊕Unit)),lp (Zv a (fun z0=>ZbB z0)) s0=some r→lpW ctx 0 [0,1,7,8] [4] Zls [(.d (zL t0 a)),(.d (D.fn 195 [])),(.d (Za (a.length:Int))),(.d (Za s0))] []=some ((Zap t0 a) r):=
 lpT (Zap t0 a) fun s0 _ ih=>yB (yG fun x1 _=>
  yC Zkp fun x2 _=>
  yB (Zp rfl)
  (Zm (ih _)))
  (Zp rfl)
theorem Zcv {t0:Bool}{a:List Int}:∀r,(ZB a (fun z0=>ZbB z0))=some r→evD ctx 99 [(.d (zL t0 a)),(.d (D.fn 195 []))]=some (ZcG r):=
 evT Zr0 rfl rfl <| Zh (Zq _ _) (by
 conv=>rhs;whnf
 refine Ze _ (Zb2 _) fun r3 _=>?_
 rcases r3 with r3 | r3
 exact yR
 exact yR)
def Zcg (r:Bool):D:=(D.bool r)
theorem Zb0 {t0:Bool}{a:List Int}:∀r,(Zw a (fun z0=>ZbB z0))=some r→evD ctx 66 [(.d (zL t0 a)),(.d (D.fn 195 []))]=some (Zcg r):=
 evT Zum rfl rfl <| yC Zcv fun x0 _=>
  yBr yR
def ZoP (r:Bool):D:=(D.bool r)
theorem Zds {t0 t1:Bool}{a:ZD}{b:Int}:∀r,(ZcR a b)=some r→evD ctx 191 [(.d (D.agg [(zL t0 a.on),(zL t1 a.left)])),(.d (Za b))]=some (ZoP r):=
 evT ZwV rfl rfl <| yG fun x0 _=>
  yBr yR
def Zgj (r:Int):D:=(Za r)
def ZcW (t0:Bool) (a:List Int) (b:Int):(Int⊕Unit)→Ex×List V×Zd
  | (.inl r)=>(.ret,[(.d (Za r))],[])
  | (.inr r)=>(.exit 0,[.bad],[])
theorem ZeT {t0:Bool}{a:List Int}{b:Int}:∀(s0:Int) (r:(Int⊕Unit)),lp (ZaE a b) s0=some r→lpW ctx 0 [0,1,7,8] [4] ZuZ [(.d (zL t0 a)),(.d (Za b)),(.d (Za (a.length:Int))),(.d (Za s0))] []=some ((ZcW t0 a b) r):=
 lpT (ZcW t0 a b) fun s0 _ ih=>yB (yG fun x1 _=>
  yB (Zp rfl)
  (Zm (ih _)))
  (Zp rfl)
theorem ZfX {t0:Bool}{a:List Int}{b:Int}:∀r,(Zco a b)=some r→evD ctx 88 [(.d (zL t0 a)),(.d (Za b))]=some (Zgj r):=
 evT Zzg rfl rfl <| Zh (Zq _ _) (by
 conv=>rhs;whnf
 refine Ze _ (ZeT _) fun r2 _=>?_
 rcases r2 with r2 | r2
 exact yR
 exact yR)
def Zfc (r:Bool):D:=(D.bool r)
theorem ZT {t0:Bool}{a:List Int}{b:Int}:∀r,(ZE a b)=some r→evD ctx 55 [(.d (zL t0 a)),(.d (Za b))]=some (Zfc r):=
 evT ZyS rfl rfl <| yC ZfX fun x0 _=>
  yBr yR
def Zmt (r:Bool):D:=(D.bool r)
theorem Zlv {t0 t1:Bool}{a:Zt}{b0:Int}{c0:List Int}{c1:List Int}:∀r,(Zdb a b0 c0 c1)=some r→evD ctx 208 [(.d (D.agg [(Za a.src),(Za a.dst)])),(.d (D.rptr [(Za b0)])),(.d (D.rptr [(zL t0 c0),(zL t1 c1)]))]=some (Zmt r):=
 evT Zvg rfl rfl <| yB (yC Zds fun x0 _=>
  yBr yR)
  yR
def Zcu (r:Int):D:=(Za r)
def Zak (t0:Bool) (t1:Bool) (t2:Bool) (a:List Zt) (b0:Int) (b1:List Int) (b2:List Int):(Int⊕Unit)→Ex×List V×Zd
  | (.inl r)=>(.ret,[(.d (Za r))],[])
  | (.inr r)=>(.exit 0,[.bad],[])
theorem ZbN {t0 t1 t2:Bool}{a:List Zt}{b0:Int}{b1:List Int}{b2:List Int}:∀(s0:Int) (r:(Int⊕Unit)),lp (ZW a (fun z0=>Zdb z0 b0 b1 b2)) s0=some r→lpW ctx 0 [0,1,7,8] [4] Zp2 [(.d (D.list t0 (List.map Zs a))),(.d (D.fn 208 [(D.rptr [(Za b0)]),(D.rptr [(zL t1 b1),(zL t2 b2)])])),(.d (Za (a.length:Int))),(.d (Za s0))] []=some ((Zak t0 t1 t2 a b0 b1 b2) r):=
 lpT (Zak t0 t1 t2 a b0 b1 b2) fun s0 _ ih=>yB (yG fun x1 _=>
  yC Zlv fun x2 _=>
  yB (Zp rfl)
  (Zm (ih _)))
  (Zp rfl)
theorem Zcm {t0 t1 t2:Bool}{a:List Zt}{b0:Int}{b1:List Int}{b2:List Int}:∀r,(Zai a (fun z0=>Zdb z0 b0 b1 b2))=some r→evD ctx 109 [(.d (D.list t0 (List.map Zs a))),(.d (D.fn 208 [(D.rptr [(Za b0)]),(D.rptr [(zL t1 b1),(zL t2 b2)])]))]=some (Zcu r):=
 evT Ztp rfl rfl <| Zh (Zq _ _) (by
 conv=>rhs;whnf
 refine Ze _ (ZbN _) fun r3 _=>?_
 rcases r3 with r3 | r3
 exact yR
 exact yR)
def Zb1 (r:Bool):D:=(D.bool r)
theorem ZbP {t0 t1 t2:Bool}{a:List Zt}{b0:Int}{b1:List Int}{b2:List Int}:∀r,(ZN a (fun z0=>Zdb z0 b0 b1 b2))=some r→evD ctx 89 [(.d (D.list t0 (List.map Zs a))),(.d (D.fn 208 [(D.rptr [(Za b0)]),(D.rptr [(zL t1 b1),(zL t2 b2)])]))]=some (Zb1 r):=
 evT ZxK rfl rfl <| yC Zcm fun x0 _=>
  yBr yR
def ZoM (r:Bool):D:=(D.bool r)
theorem Zf4 {t0 t1:Bool}{t2 t3:Bool}{a:Zl}{b:ZD}{c:Int}:∀r,(Zee a b c)=some r→evD ctx 192 [(.d (D.agg [(zL t0 a.work),(D.list t1 (List.map Zs a.edges))])),(.d (D.agg [(zL t2 b.on),(zL t3 b.left)])),(.d (Za c))]=some (ZoM r):=
 evT ZuQ rfl rfl <| yC ZbP fun x0 _=>
  yBr yR
def Znt (r:Bool):D:=(D.bool r)
def ZgK (t0:Bool) (t1:Bool) (t2:Bool) (t3:Bool) (a:Zl) (b:ZD):(Unit⊕Unit)→Ex×List V×Zd
  | (.inl r)=>(.ret,[(.ptr 0 0),(.ptr 1 0),(.d (D.bool false))],[(.cells [(.d (zL t0 a.work)),(.d (D.list t1 (List.map Zs a.edges)))]),(.cells [(.d (zL t2 b.on)),(.d (zL t3 b.left))])])
  | (.inr r)=>(.exit 0,[(.ptr 0 0),(.ptr 1 0),.bad],[(.cells [(.d (zL t0 a.work)),(.d (D.list t1 (List.map Zs a.edges)))]),(.cells [(.d (zL t2 b.on)),(.d (zL t3 b.left))])])
theorem Zj6 {t0 t1:Bool}{t2 t3:Bool}{a:Zl}{b:ZD}:∀(s1:Int) (r:(Unit⊕Unit)),lp (Zc6 a b) s1=some r→lpW ctx 0 [2,3,35,36,37] [2,3,4] ZtM [(.ptr 0 0),(.ptr 1 0),(.d (zL t2 b.on)),(.d (Za (b.on.length:Int))),(.d (Za s1))] [(.cells [(.d (zL t0 a.work)),(.d (D.list t1 (List.map Zs a.edges)))]),(.cells [(.d (zL t2 b.on)),(.d (zL t3 b.left))])]=some ((ZgK t0 t1 t2 t3 a b) r):=
 lpT (ZgK t0 t1 t2 t3 a b) fun s1 _ ih=>yB (yG fun x2 _=>
  yB (Zm (ih _))
  (yB (Zp rfl)
  (Zh (Zq _ _) (yB (Zp rfl)
  (yC Zds fun x3 _=>
  yB (Zp rfl)
  (yBm (ZaV (ZvV Za b.on s1.toNat) (yT (Zh (Zqz Za b.on s1.toNat) (yC ZT fun x4 _=>
  yB (Zp rfl)
  (yC Zf4 fun x5 _=>
  yB (Zm (ih _))
  (Zp rfl)))))
  Z5)))))))
  (Zp rfl)
def ZgO (t0:Bool) (t1:Bool) (t2:Bool) (t3:Bool) (a:Zl) (b:ZD):(Unit⊕Unit)→Ex×List V×Zd
  | (.inl r)=>(.ret,[(.d (D.bool false))],[])
  | (.inr r)=>(.exit 2,[.bad],[])
theorem ZjV {t0 t1:Bool}{t2 t3:Bool}{a:Zl}{b:ZD}:∀(s7:Int) (r:(Unit⊕Unit)),lp (Zc7 a b) s7=some r→lpW ctx 0 [2,3,76,77] [4] ZtI [(.ptr 0 0),(.ptr 1 0),(.d (Za (b.left.length:Int))),(.d (Za s7))] [(.cells [(.d (zL t0 a.work)),(.d (D.list t1 (List.map Zs a.edges)))]),(.cells [(.d (zL t2 b.on)),(.d (zL t3 b.left))])]=some ((ZgO t0 t1 t2 t3 a b) r):=
 lpT (ZgO t0 t1 t2 t3 a b) fun s7 _ ih=>yB (yC Zds fun x8 _=>
  yB (yC Zf4 fun x9 _=>
  yB (Zm (ih _))
  (Zp rfl))
  (Zm (ih _)))
  (Zp rfl)
theorem Zml {t0 t1:Bool}{t2 t3:Bool}{a:Zl}{b:ZD}:∀r,(ZfR a b)=some r→evD ctx 179 [(.d (D.agg [(zL t0 a.work),(D.list t1 (List.map Zs a.edges))])),(.d (D.agg [(zL t2 b.on),(zL t3 b.left)]))]=some (Znt r):=
 evT Zw8 rfl rfl <| Zh (Zq _ _) (yBr (Zh (Zq _ _) (yBr (Zh (Zq _ _) (Zh (Zq _ _) (yBr (yC Zb0 fun x0 _=>
  yBr (Zh (Zq _ _) (by
 conv=>rhs;whnf
 refine Ze _ (Zj6 _) fun r6 _=>?_
 rcases r6 with r6 | r6
 exact yR
 exact Zh (Zq _ _) (by
 conv=>rhs;whnf
 refine Ze _ (ZjV _) fun r10 _=>?_
 rcases r10 with r10 | r10
 exact yR
 exact yR))))))))))
def Zm8 (r:Int):D:=(Za r)
theorem ZdV {t0 t1:Bool}{t2 t3:Bool}{a:Zl}{b:ZD}:∀r,(Zc1 a b)=some r→evD ctx 171 [(.d (D.agg [(zL t0 a.work),(D.list t1 (List.map Zs a.edges))])),(.d (D.agg [(zL t2 b.on),(zL t3 b.left)]))]=some (Zm8 r):=
 evT Zvz rfl rfl <| yC Zdv fun x0 _=>
  yB (yC Zml fun x1 _=>
  yBr yR)
  yR
def ZoV (r:Int):D:=(Za r)
theorem ZiG {a:Int}:∀r,(Zfb a)=some r→evD ctx 188 [(.d (Za a))]=some (ZoV r):=
 evT ZwH rfl rfl <| yBr (yBr yR)
def Zgv (r:Int):D:=(Za r)
theorem Zf5 {a:Int}:∀r,(Zbc a)=some r→evD ctx 205 [(.d (D.int .u64 a))]=some (Zgv r):=
 evT Zw0 rfl rfl <| yF (yF (yF (yF (yF (yF yR)))))
def ZhC (r:Int):D:=(Za r)
theorem Zg1 {a:Int}:∀r,(ZbL a)=some r→evD ctx 189 [(.d (D.int .u64 a))]=some (ZhC r):=
 evT Zv5 rfl rfl <| yC Zf5 fun x0 _=>
  yR
def Zfn (a:Int):Unit→V×Zd
  | r=>(.bad,[])
theorem ZeM {a:Int}:∀r,(Zbo a)=some r→evW ctx 207 [(.d (D.int .u64 a))] []=some ((Zfn a) r):=
 evS Zyj rfl rfl <| yBr yR
def ZfU (a:Int):Unit→V×Zd
  | r=>(.bad,[])
theorem ZfC {a:Int}:∀r,(ZaL a)=some r→evW ctx 190 [(.d (D.int .u64 a))] []=some ((ZfU a) r):=
 evS Zwe rfl rfl <| Ze _ ZeM fun x0 _=>
  yR
def Zq1 (a:Int):(Unit⊕Unit)→V×Zd
  | (.inl r)=>((.d (D.tup [(Za 0),(D.bool false)])),[])
  | (.inr r)=>((.tup [.bad,(.d (D.bool true))]),[])
theorem ZkL {a:Int}:∀r,(ZfZ a)=some r→evW ctx 176 [(.d (Za a))] []=some ((Zq1 a) r):=
 evS Zvc rfl rfl <| yC ZiG fun x0 _=>
  yBr (yC Zg1 fun x1 _=>
  yBr (Ze _ ZfC fun x2 _=>
  yR))
def Zms (r:Int):D:=(Za r)
theorem ZcM {t0:Bool}{a:Zb}:∀r,(Zbu a)=some r→evD ctx 180 [(.d (D.agg [(zL t0 a.ring),(Za a.top),(Za a.bottom)]))]=some (Zms r):=
 evT Zvb rfl rfl <| Zh (Zq _ _) (by
 conv=>rhs;whnf
 refine Ze _ ZkL fun x0 _=>?_
 rcases x0 with x0 | x0
 exact yF yR
 exact yT (Zh (Zq _ _) (yBr (yC ZiG fun x1 _=>
  yBr (yBr (Zh (Zq _ _) (yBr yR)))))))
def ZmA (r:Bool):D:=(D.bool r)
def Zgi (t0:Bool) (t1:Bool) (t2:Bool) (t3:Bool) (t4:Bool) (a:ZO):(Unit⊕Unit)→Ex×List V×Zd
  | (.inl r)=>(.ret,[(.d (D.bool false))],[])
  | (.inr r)=>(.exit 0,[.bad],[])
theorem Zjy {t0 t1:Bool}{t2 t3 t4:Bool}{a:ZO}:∀(s0:Int) (r:(Unit⊕Unit)),lp (ZcA a) s0=some r→lpW ctx 0 [1,3,32,33,34] [2] Ztq [(.ptr 0 0),(.d (Za (a.crew.on.length:Int))),(.d (D.list t2 (List.map Zy a.deques))),(.d (Za (a.deques.length:Int))),(.d (Za s0))] [(.cells [(.d (zL t0 a.crew.on)),(.d (zL t1 a.crew.left)),(.d (D.list t2 (List.map Zy a.deques))),(.d (D.list t3 (List.map Zz a.takers))),(.d (zL t4 a.from_))])]=some ((Zgi t0 t1 t2 t3 t4 a) r):=
 lpT (Zgi t0 t1 t2 t3 t4 a) fun s0 _ ih=>yB (yG fun x1 _=>
  yG fun x2 _=>
  yG fun x3 _=>
  yC ZcM fun x4 _=>
  yB (Zp rfl)
  (Zh (Zq _ _) (yB (Zp rfl)
  (yB (Zp rfl)
  (yB (Zp rfl)
  (yB (Zp rfl)
  (yB (yB (yF (yG fun x5 _=>
  yB (yB (Zp rfl)
  (yB (Zp rfl)
  (Zm (ih _))))
  (Zm (ih _))))
  (yT (Zp rfl)))
  (yB (yT (Zp rfl))
  (yF (yG fun x6 _=>
  yB (yB (Zp rfl)
  (yB (Zp rfl)
  (Zm (ih _))))
  (Zm (ih _))))))))))))
  (Zp rfl)
theorem ZlB {t0 t1:Bool}{t2 t3 t4:Bool}{a:ZO}:∀r,(Ze1 a)=some r→evD ctx 172 [(.d (D.agg [(zL t0 a.crew.on),(zL t1 a.crew.left),(D.list t2 (List.map Zy a.deques)),(D.list t3 (List.map Zz a.takers)),(zL t4 a.from_)]))]=some (ZmA r):=
 evT ZvE rfl rfl <| Zh (Zq _ _) (Zh (Zq _ _) (yBr (Zh (Zq _ _) (yBr (Zh (Zq _ _) (yBr (Zh (Zq _ _) (by
 conv=>rhs;whnf
 refine Ze _ (Zjy _) fun r7 _=>?_
 rcases r7 with r7 | r7
 exact yR
 exact yR))))))))
def Zmj (r:Int):D:=(Za r)
theorem Zg9 {t0 t1:Bool}{t2 t3:Bool}{t4 t5 t6:Bool}{a:Zl}{b:ZO}:∀r,(ZdS a b)=some r→evD ctx 164 [(.d (D.agg [(zL t0 a.work),(D.list t1 (List.map Zs a.edges))])),(.d (D.agg [(zL t2 b.crew.on),(zL t3 b.crew.left),(D.list t4 (List.map Zy b.deques)),(D.list t5 (List.map Zz b.takers)),(zL t6 b.from_)]))]=some (Zmj r):=
 evT Zxf rfl rfl <| yC ZdV fun x0 _=>
  yB (yC ZlB fun x1 _=>
  yBr yR)
  yR
def ZoH (r:List Int):D:=(zL true r)
def Zhy (t0:Bool) (t2:Bool) (a:Zl) (b:List Int):(List Int)→Ex×List V×Zd
  | r=>(.exit 0,[(.sl 0 1)],[(.arr 1 (List.map Za r))])
theorem ZkN {t0 t2:Bool}{a:Zl}{b:List Int}:∀(s0:Int×(List Int)) (r:List Int),lp (Zcz a b) s0=some r→lpW ctx 0 [1,5,9,10,11] [5] ZwL [(.d (zL t2 b)),(.sl 0 1),(.d (zL t0 a.work)),(.d (Za (a.work.length:Int))),(.d (Za s0.1))] [(.arr 1 (List.map Za s0.2))]=some ((Zhy t0 t2 a b) r):=
 lpT (Zhy t0 t2 a b) fun s0 _ ih=>yB (yG fun x1 _=>
  yG fun x2 _=>
  yT (ZaV (Zex Za s0.2 1) (Zh (Zes Za s0.2 [(bif decide (x1<x2) then x1 else x2)]) (Zm (ih _)))
  Z5))
  (Zp rfl)
theorem ZiR {t0 t1 t2:Bool}{a:Zl}{b:List Int}:∀r,(Zfe a b)=some r→evD ctx 42 [(.d (D.agg [(zL t0 a.work),(D.list t1 (List.map Zs a.edges))])),(.d (zL t2 b))]=some (ZoH r):=
 evT ZzP rfl rfl <| Zh (Zq _ _) (Ze _ (ZkN _) fun r3 _=>
  yR)
def Zn5 (r:Int):D:=(Za r)
def Zgz (t0:Bool) (t1:Bool) (t2:Bool) (t3:Bool) (a:Zl) (b:List Int) (c:List Int):(Int⊕Int)→Ex×List V×Zd
  | (.inl r)=>(.ret,[(.d (Za 3)),(.d (Za r))],[])
  | (.inr r)=>(.exit 0,[.bad,(.d (Za r))],[])
theorem Zj4 {t0 t1:Bool}{t2 t3:Bool}{a:Zl}{b:List Int}{c:List Int}:∀(s0:Int×Int) (r:(Int⊕Int)),lp (ZaJ a b c) s0=some r→lpW ctx 0 [1,3,7,10,11,12] [6,7] Zwb [(.d (zL t2 b)),(.ptr 0 0),(.d (Za s0.1)),(.d (zL t3 c)),(.d (Za (c.length:Int))),(.d (Za s0.2))] [(.cells [(.d (zL t0 a.work)),(.d (D.list t1 (List.map Zs a.edges)))])]=some ((Zgz t0 t1 t2 t3 a b c) r):=
 lpT (Zgz t0 t1 t2 t3 a b c) fun s0 _ ih=>yB (yG fun x1 _=>
  yB (yB (Zm (ih _))
  (yB (yG fun x2 _=>
  yG fun x3 _=>
  yB (Zp rfl)
  (Zm (ih _)))
  (Zm (ih _))))
  (yB (yG fun x4 _=>
  yG fun x5 _=>
  yB (Zp rfl)
  (Zm (ih _)))
  (Zm (ih _))))
  (Zp rfl)
theorem Zb3 {t0 t1:Bool}{t2 t3:Bool}{a:Zl}{b:List Int}{c:List Int}:∀r,(Zbq a b c)=some r→evD ctx 43 [(.d (D.agg [(zL t0 a.work),(D.list t1 (List.map Zs a.edges))])),(.d (zL t2 b)),(.d (zL t3 c))]=some (Zn5 r):=
 evT Zzf rfl rfl <| Zh (Zq _ _) (by
 conv=>rhs;whnf
 refine Ze _ (Zj4 _) fun r6 _=>?_
 rcases r6 with r6 | r6
 exact yR
 exact yR)
def Zga (t0:Bool) (a:List Int):Unit→V×Zd
  | r=>((.sl 0 1),[(.arr 1 (List.map Za a))])
theorem Zn {t0:Bool}{a:List Int}:∀r,(Zj a)=some r→evW ctx 45 [(.d (zL t0 a))] []=some ((Zga t0 a) r):=
 evS Zza rfl rfl <| ZkR (Zgp (f:=Za) (fun _=>⟨rfl,rfl⟩) a 0) (ZaV (ZhE Za a) (Zh (rfl:_=List.map Za a) yR)
  Z5)
def ZeV (t0:Bool) (a:List Zg):Unit→V×Zd
  | r=>((.sl 0 6),[(.arr 6 (List.map Zz a))])
theorem ZeG {t0:Bool}{a:List Zg}:∀r,(Zaw a)=some r→evW ctx 181 [(.d (D.list t0 (List.map Zz a)))] []=some ((ZeV t0 a) r):=
 evS Zxj rfl rfl <| ZaV (Zta Zz a) (ZkR (Zgp (f:=Zz) (fun _=>⟨rfl,rfl⟩) a 0) (ZaV (ZhE Zz a) (Zh (rfl:_=List.map Zz a) yR)
  Z5))
  Z5
def ZeW (t0:Bool) (a:List Zb):Unit→V×Zd
  | r=>((.sl 0 3),[(.arr 3 (List.map Zy a))])
theorem ZeF {t0:Bool}{a:List Zb}:∀r,(Zat a)=some r→evW ctx 182 [(.d (D.list t0 (List.map Zy a)))] []=some ((ZeW t0 a) r):=
 evS Zww rfl rfl <| ZaV (Zta Zy a) (ZkR (Zgp (f:=Zy) (fun _=>⟨rfl,rfl⟩) a 0) (ZaV (ZhE Zy a) (Zh (rfl:_=List.map Zy a) yR)
  Z5))
  Z5
def ZoL (t0:Bool) (t1:Bool) (t2:Bool) (t3:Bool) (t4:Bool) (a:ZO):(List Zb)→V×Zd
  | r=>((.agg [(.sl 0 1),(.sl 1 1),(.sl 2 3),(.sl 3 6),(.sl 4 1)]),[(.arr 1 (List.map Za a.crew.on)),(.arr 1 (List.map Za a.crew.left)),(.arr 3 (List.map Zy r)),(.arr 6 (List.map Zz a.takers)),(.arr 1 (List.map Za a.from_))])
def Zhj (a:ZO):(List Zb)→Ex×List V×Zd
  | r=>(.exit 0,[(.ptr 0 0),(.ptr 1 0)],[(.cells [(.sl 2 1),(.sl 3 1),(.sl 4 3),(.sl 5 6),(.sl 6 1)]),(.cells [(.sl 7 1),(.sl 8 1),(.sl 9 3),(.sl 10 6),(.sl 11 1)]),(.arr 1 (List.map Za a.crew.on)),(.arr 1 (List.map Za a.crew.left)),(.arr 3 (List.map Zy r)),(.arr 6 (List.map Zz a.takers)),(.arr 1 (List.map Za a.from_)),(.arr 1 []),(.arr 1 []),(.arr 3 []),(.arr 6 []),(.arr 1 [])])
theorem Zkx {a:ZO}:∀(s5:Int×(List Zb)) (r:List Zb),lp (ZcJ a) s5=some r→lpW ctx 0 [1,2,30,31] [1,2] Zs9 [(.ptr 0 0),(.ptr 1 0),(.d (Za (a.deques.length:Int))),(.d (Za s5.1))] [(.cells [(.sl 2 1),(.sl 3 1),(.sl 4 3),(.sl 5 6),(.sl 6 1)]),(.cells [(.sl 7 1),(.sl 8 1),(.sl 9 3),(.sl 10 6),(.sl 11 1)]),(.arr 1 (List.map Za a.crew.on)),(.arr 1 (List.map Za a.crew.left)),(.arr 3 (List.map Zy s5.2)),(.arr 6 (List.map Zz a.takers)),(.arr 1 (List.map Za a.from_)),(.arr 1 []),(.arr 1 []),(.arr 3 []),(.arr 6 []),(.arr 1 [])]=some ((Zhj a) r):=
 lpT (Zhj a) fun s5 _ ih=>yB (yG fun x6 hx6=>
  Zr (Zae rfl hx6) (Ze _ Zn fun x7 _=>
  Zr (Zd6 rfl hx6) (Zr (Zae rfl hx6) (Zh (Zb9 Zy s5.2 s5.1.toNat x6) (Zm (ih _))))))
  (Zp rfl)
theorem Zi0 {t0 t1:Bool}{t2 t3 t4:Bool}{a:ZO}:∀r,(Zfg a)=some r→evW ctx 173 [(.d (D.agg [(zL t0 a.crew.on),(zL t1 a.crew.left),(D.list t2 (List.map Zy a.deques)),(D.list t3 (List.map Zz a.takers)),(zL t4 a.from_)]))] []=some ((ZoL t0 t1 t2 t3 t4 a) r):=
 evS ZwW rfl rfl <| Ze _ Zn fun x0 _=>
  Ze _ Zn fun x1 _=>
  Ze _ ZeG fun x2 _=>
  Ze _ Zn fun x3 _=>
  Ze _ ZeF fun x4 _=>
  Zh (Zq _ _) (Ze _ (Zkx _) fun r8 _=>
  yR)
def ZhH (r:Bool):D:=(D.bool r)
theorem Zhk {t0:Bool}{a:Zb}:∀r,(Zag a)=some r→evD ctx 197 [(.d (D.agg [(zL t0 a.ring),(Za a.top),(Za a.bottom)]))]=some (ZhH r):=
 evT ZvL rfl rfl <| yBr yR
def Zbj (r:Int):D:=(Za r)
def Z3 (t0:Bool) (a:List Zb):(Int⊕Unit)→Ex×List V×Zd
  | (.inl r)=>(.ret,[(.d (Za r))],[])
  | (.inr r)=>(.exit 0,[.bad],[])
theorem ZaT {t0:Bool}{a:List Zb}:∀(s0:Int) (r:(Int⊕Unit)),lp (Z4 a (fun z0=>Zag z0)) s0=some r→lpW ctx 0 [0,1,7,8] [4] Zts [(.d (D.list t0 (List.map Zy a))),(.d (D.fn 197 [])),(.d (Za (a.length:Int))),(.d (Za s0))] []=some ((Z3 t0 a) r):=
 lpT (Z3 t0 a) fun s0 _ ih=>yB (yG fun x1 _=>
  yC Zhk fun x2 _=>
  yB (Zp rfl)
  (Zm (ih _)))
  (Zp rfl)
theorem Za9 {t0:Bool}{a:List Zb}:∀r,(ZaF a (fun z0=>Zag z0))=some r→evD ctx 209 [(.d (D.list t0 (List.map Zy a))),(.d (D.fn 197 []))]=some (Zbj r):=
 evT Zwy rfl rfl <| Zh (Zq _ _) (by
 conv=>rhs;whnf
 refine Ze _ (ZaT _) fun r3 _=>?_
 rcases r3 with r3 | r3
 exact yR
 exact yR)
def Za0 (r:Bool):D:=(D.bool r)
theorem ZaU {t0:Bool}{a:List Zb}:∀r,(Z2 a (fun z0=>Zag z0))=some r→evD ctx 196 [(.d (D.list t0 (List.map Zy a))),(.d (D.fn 197 []))]=some (Za0 r):=
 evT ZvI rfl rfl <| yC Za9 fun x0 _=>
  yBr yR
def Zit (r:List Int):D:=(zL true r)
def Zeb (t0:Bool) (t1:Bool) (t2:Bool) (t3:Bool) (t4:Bool) (t5:Bool) (t6:Bool) (a0:List Int) (a1:List Int) (a2:List Zb) (a3:List Zg) (a4:List Int) (a5:List Int) (a6:List Zt) (a7:Int):(List Int)→Ex×List V×Zd
  | r=>(.exit 0,[(.sl 0 1)],[(.arr 1 (List.map Za r))])
theorem ZgU {t0 t1:Bool}{t2 t3:Bool}{t4 t5 t6:Bool}{a0:List Int}{a1:List Int}{a2:List Zb}{a3:List Zg}{a4:List Int}{a5:List Int}{a6:List Zt}{a7:Int}:∀(s1:Int×(List Int)) (r:List Int),lp (ZaO a0) s1=some r→lpW ctx 0 [0,3,4,18,19,20] [4] Zql [(.d (D.rptr [(zL t0 a0),(zL t1 a1),(D.list t2 (List.map Zy a2)),(D.list t3 (List.map Zz a3)),(zL t4 a4),(zL t5 a5),(D.list t6 (List.map Zs a6)),(Za a7)])),(.d (D.bool true)),(.sl 0 1),(.d (zL t0 a0)),(.d (Za (a0.length:Int))),(.d (Za s1.1))] [(.arr 1 (List.map Za s1.2))]=some ((Zeb t0 t1 t2 t3 t4 t5 t6 a0 a1 a2 a3 a4 a5 a6 a7) r):=
 lpT (Zeb t0 t1 t2 t3 t4 t5 t6 a0 a1 a2 a3 a4 a5 a6 a7) fun s1 _ ih=>yB (yG fun x2 _=>
  yB (yT (ZaV (Zex Za s1.2 1) (Zh (Zes Za s1.2 [s1.1]) (Zm (ih _)))
  Z5))
  (Zm (ih _)))
  (Zp rfl)
def ZdJ (t0:Bool) (t1:Bool) (t2:Bool) (t3:Bool) (t4:Bool) (t5:Bool) (t6:Bool) (a0:List Int) (a1:List Int) (a2:List Zb) (a3:List Zg) (a4:List Int) (a5:List Int) (a6:List Zt) (a7:Int):(List Int)→Ex×List V×Zd
  | r=>(.exit 0,[(.sl 0 1)],[(.arr 1 (List.map Za r))])
theorem Zgt {t0 t1:Bool}{t2 t3:Bool}{t4 t5 t6:Bool}{a0:List Int}{a1:List Int}{a2:List Zb}{a3:List Zg}{a4:List Int}{a5:List Int}{a6:List Zt}{a7:Int}:∀(s4:Int×(List Int)) (r:List Int),lp (ZaD a0 a3) s4=some r→lpW ctx 0 [0,3,4,18,19,20] [4] Zql [(.d (D.rptr [(zL t0 a0),(zL t1 a1),(D.list t2 (List.map Zy a2)),(D.list t3 (List.map Zz a3)),(zL t4 a4),(zL t5 a5),(D.list t6 (List.map Zs a6)),(Za a7)])),(.d (D.bool false)),(.sl 0 1),(.d (zL t0 a0)),(.d (Za (a0.length:Int))),(.d (Za s4.1))] [(.arr 1 (List.map Za s4.2))]=some ((ZdJ t0 t1 t2 t3 t4 t5 t6 a0 a1 a2 a3 a4 a5 a6 a7) r):=
 lpT (ZdJ t0 t1 t2 t3 t4 t5 t6 a0 a1 a2 a3 a4 a5 a6 a7) fun s4 _ ih=>yB (yG fun x5 _=>
  yB (yG fun x6 _=>
  yB (yT (ZaV (Zex Za s4.2 1) (Zh (Zes Za s4.2 [s4.1]) (Zm (ih _)))
  Z5))
  (Zm (ih _)))
  (Zm (ih _)))
  (Zp rfl)
theorem ZeJ {t0 t1:Bool}{t2 t3:Bool}{t4 t5 t6:Bool}{a0:List Int}{a1:List Int}{a2:List Zb}{a3:List Zg}{a4:List Int}{a5:List Int}{a6:List Zt}{a7:Int}:∀r,(ZbC a0 a2 a3)=some r→evD ctx 183 [(.d (D.rptr [(zL t0 a0),(zL t1 a1),(D.list t2 (List.map Zy a2)),(D.list t3 (List.map Zz a3)),(zL t4 a4),(zL t5 a5),(D.list t6 (List.map Zs a6)),(Za a7)]))]=some (Zit r):=
 evT ZwS rfl rfl <| yC ZaU fun x0 _=>
  yB (Zh (Zq _ _) (Ze _ (ZgU _) fun r3 _=>
  yR))
  (Zh (Zq _ _) (Ze _ (Zgt _) fun r7 _=>
  yR))
def Zir (r:Bool):D:=(D.bool r)
theorem ZhL {t0 t1:Bool}{t2 t3:Bool}{t4 t5 t6:Bool}{a:Int}{b0:List Int}{b1:List Int}{b2:List Zb}{b3:List Zg}{b4:List Int}{b5:List Int}{b6:List Zt}{b7:Int}:∀r,(Zam a b7)=some r→evD ctx 198 [(.d (Za a)),(.d (D.rptr [(D.rptr [(zL t0 b0),(zL t1 b1),(D.list t2 (List.map Zy b2)),(D.list t3 (List.map Zz b3)),(zL t4 b4),(zL t5 b5),(D.list t6 (List.map Zs b6)),(Za b7)])]))]=some (Zir r):=
 evT Zw5 rfl rfl <| yBr yR
def ZbS (r:Int):D:=(Za r)
def Zac (t0:Bool) (t1:Bool) (t2:Bool) (t3:Bool) (t4:Bool) (t5:Bool) (t6:Bool) (t7:Bool) (a:List Int) (b0:List Int) (b1:List Int) (b2:List Zb) (b3:List Zg) (b4:List Int) (b5:List Int) (b6:List Zt) (b7:Int):(Int⊕Unit)→Ex×List V×Zd
  | (.inl r)=>(.ret,[(.d (Za r))],[])
  | (.inr r)=>(.exit 0,[.bad],[])
theorem Zbk {t0 t1:Bool}{t2 t3:Bool}{t4 t5:Bool}{t6 t7:Bool}{a:List Int}{b0:List Int}{b1:List Int}{b2:List Zb}{b3:List Zg}{b4:List Int}{b5:List Int}{b6:List Zt}{b7:Int}:∀(s0:Int) (r:(Int⊕Unit)),lp (Zv a (fun z0=>Zam z0 b7)) s0=some r→lpW ctx 0 [0,1,7,8] [4] Zls [(.d (zL t0 a)),(.d (D.fn 198 [(D.rptr [(D.rptr [(zL t1 b0),(zL t2 b1),(D.list t3 (List.map Zy b2)),(D.list t4 (List.map Zz b3)),(zL t5 b4),(zL t6 b5),(D.list t7 (List.map Zs b6)),(Za b7)])])])),(.d (Za (a.length:Int))),(.d (Za s0))] []=some ((Zac t0 t1 t2 t3 t4 t5 t6 t7 a b0 b1 b2 b3 b4 b5 b6 b7) r):=
 lpT (Zac t0 t1 t2 t3 t4 t5 t6 t7 a b0 b1 b2 b3 b4 b5 b6 b7) fun s0 _ ih=>yB (yG fun x1 _=>
  yC ZhL fun x2 _=>
  yB (Zp rfl)
  (Zm (ih _)))
  (Zp rfl)
theorem ZbF {t0 t1:Bool}{t2 t3:Bool}{t4 t5:Bool}{t6 t7:Bool}{a:List Int}{b0:List Int}{b1:List Int}{b2:List Zb}{b3:List Zg}{b4:List Int}{b5:List Int}{b6:List Zt}{b7:Int}:∀r,(ZB a (fun z0=>Zam z0 b7))=some r→evD ctx 99 [(.d (zL t0 a)),(.d (D.fn 198 [(D.rptr [(D.rptr [(zL t1 b0),(zL t2 b1),(D.list t3 (List.map Zy b2)),(D.list t4 (List.map Zz b3)),(zL t5 b4),(zL t6 b5),(D.list t7 (List.map Zs b6)),(Za b7)])])]))]=some (ZbS r):=
 evT Zr0 rfl rfl <| Zh (Zq _ _) (by
 conv=>rhs;whnf
 refine Ze _ (Zbk _) fun r3 _=>?_
 rcases r3 with r3 | r3
 exact yR
 exact yR)
def Zjn (r:Int):D:=(Za r)
theorem Ziy {t0 t1:Bool}{t2 t3:Bool}{t4 t5:Bool}{t6 t7 t8:Bool}{a0:List Int}{a1:List Int}{a2:List Zb}{a3:List Zg}{a4:List Int}{a5:List Int}{a6:List Zt}{a7:Int}{b:List Int}{c:List Int}{d:Int}:∀r,(Zcf a7 b c d)=some r→evD ctx 184 [(.d (D.rptr [(zL t0 a0),(zL t1 a1),(D.list t2 (List.map Zy a2)),(D.list t3 (List.map Zz a3)),(zL t4 a4),(zL t5 a5),(D.list t6 (List.map Zs a6)),(Za a7)])),(.d (zL t7 b)),(.d (zL t8 c)),(.d (Za d))]=some (Zjn r):=
 evT ZuT rfl rfl <| Zh (Zq _ _) (yB (yG fun x0 _=>
  Zh (Zq _ _) (yBn (yG fun x1 _=>
  yR)))
  (yC ZbF fun x2 _=>
  yG fun x3 _=>
  yR))
def Zll (r:Bool):D:=(D.bool r)
theorem Zdk {a:Int}:∀r,(ZbG a)=some r→evD ctx 213 [(.d (Za a))]=some (Zll r):=
 evT ZwA rfl rfl <| yBr (yBr yR)
def Zn0 (r:Bool):D:=(D.bool r)
theorem ZmC {a:Zg}:∀r,(ZfM a)=some r→evD ctx 210 [(.d (D.agg [(D.bool a.steal),(Za a.at_),(Za a.top),(Za a.bottom),(Za a.got),(Za a.end_)]))]=some (Zn0 r):=
 evT Zxa rfl rfl <| yB (yB (yB (yB (yBr (yC Zdk fun x0 _=>
  yBr (yC Zdk fun x1 _=>
  yBr yR)))
  yR)
  yR)
  yR)
  (yB (yB (yB (yBr (yC Zdk fun x2 _=>
  yBr (yC Zdk fun x3 _=>
  yBr yR)))
  yR)
  yR)
  yR)
def ZoD (t0:Bool) (a:Zb):Unit→V×Zd
  | r=>((.agg [(.sl 0 1),(.d (Za a.top)),(.d (Za a.bottom))]),[(.arr 1 (List.map Za a.ring))])
theorem ZiK {t0:Bool}{a:Zb}:∀r,(Zfh a)=some r→evW ctx 193 [(.d (D.agg [(zL t0 a.ring),(Za a.top),(Za a.bottom)]))] []=some ((ZoD t0 a) r):=
 evS Zvw rfl rfl <| Ze _ Zn fun x0 _=>
  yR
def Zmy (r:Int):D:=(Za r)
theorem ZdG {t0:Bool}{a:Zb}{b:Int}:∀r,(Zcj a b)=some r→evD ctx 194 [(.d (D.agg [(zL t0 a.ring),(Za a.top),(Za a.bottom)])),(.d (Za b))]=some (Zmy r):=
 evT Zvf rfl rfl <| Zh (Zq _ _) (yBn yR)
def Zol (m0_0:Int) (m0_1:Int) (m1_0:Bool) (m1_1:Int) (m1_2:Int) (m1_3:Int) (m1_4:Int) (m1_5:Int) (m2_0:List Int):(Unit⊕Unit)→V×Zd
  | (.inl r)=>((.d (D.bool false)),[(.cells [(.sl 2 1),(.d (Za m0_0)),(.d (Za m0_1))]),(.cells [(.d (D.bool m1_0)),(.d (Za m1_1)),(.d (Za m1_2)),(.d (Za m1_3)),(.d (Za m1_4)),(.d (Za m1_5))]),(.arr 1 (List.map Za m2_0))])
  | (.inr r)=>((.d (D.bool true)),[(.cells [(.sl 2 1),(.d (Za (w64 (m0_0+1)))),(.d (Za m0_1))]),(.cells [(.d (D.bool m1_0)),(.d (Za m1_1)),(.d (Za m1_2)),(.d (Za m1_3)),(.d (Za m1_4)),(.d (Za m1_5))]),(.arr 1 (List.map Za m2_0))])
theorem Zij {m0_0 m0_1:Int}{m1_0:Bool}{m1_1 m1_2:Int}{m1_3 m1_4 m1_5:Int}{m2_0:List Int}:∀r,(ZcY m0_0 m1_2)=some r→evW ctx 214 [(.ptr 0 0),(.ptr 1 0)] [(.cells [(.sl 2 1),(.d (Za m0_0)),(.d (Za m0_1))]),(.cells [(.d (D.bool m1_0)),(.d (Za m1_1)),(.d (Za m1_2)),(.d (Za m1_3)),(.d (Za m1_4)),(.d (Za m1_5))]),(.arr 1 (List.map Za m2_0))]=some ((Zol m0_0 m0_1 m1_0 m1_1 m1_2 m1_3 m1_4 m1_5 m2_0) r):=
 evS Zwd rfl rfl <| yBr yR
def Zmx (m0_0:Int) (m0_1:Int) (m1_0:Bool) (m1_1:Int) (m1_2:Int) (m1_3:Int) (m1_4:Int) (m1_5:Int) (m2_0:List Int):(Int×Int×Int×Int×Int×Int)→V×Zd
  | r=>((.d (D.tup [])),[(.cells [(.sl 2 1),(.d (Za r.1)),(.d (Za m0_1))]),(.cells [(.d (D.bool m1_0)),(.d (Za r.2.1)),(.d (Za r.2.2.1)),(.d (Za r.2.2.2.1)),(.d (Za r.2.2.2.2.1)),(.d (Za r.2.2.2.2.2))]),(.arr 1 (List.map Za m2_0))])
theorem ZlF {m0_0 m0_1:Int}{m1_0:Bool}{m1_1 m1_2:Int}{m1_3 m1_4 m1_5:Int}{m2_0:List Int}:∀r,(ZaZ m0_0 m0_1 m1_1 m1_2 m1_3 m1_4 m1_5 m2_0)=some r→evW ctx 211 [(.ptr 0 0),(.ptr 1 0)] [(.cells [(.sl 2 1),(.d (Za m0_0)),(.d (Za m0_1))]),(.cells [(.d (D.bool m1_0)),(.d (Za m1_1)),(.d (Za m1_2)),(.d (Za m1_3)),(.d (Za m1_4)),(.d (Za m1_5))]),(.arr 1 (List.map Za m2_0))]=some ((Zmx m0_0 m0_1 m1_0 m1_1 m1_2 m1_3 m1_4 m1_5 m2_0) r):=
 evS Zv8 rfl rfl <| yBr (yB (yBr yR)
  (yB (yC ZdG fun x0 _=>
  yG fun x1 hx1=>
  Zr (Zae rfl hx1) yR)
  (by
 conv=>rhs;whnf
 refine Ze _ Zij fun x2 _=>?_
 rcases x2 with x2 | x2
 exact yR
 exact yR)))
def ZoQ (m0_0:Int) (m0_1:Int) (m1_0:Bool) (m1_1:Int) (m1_2:Int) (m1_3:Int) (m1_4:Int) (m1_5:Int) (m2_0:List Int):(Int×Int×Int×Int×Int×Int×Int)→V×Zd
  | r=>((.d (D.tup [])),[(.cells [(.sl 2 1),(.d (Za r.1)),(.d (Za r.2.1))]),(.cells [(.d (D.bool m1_0)),(.d (Za r.2.2.1)),(.d (Za r.2.2.2.1)),(.d (Za r.2.2.2.2.1)),(.d (Za r.2.2.2.2.2.1)),(.d (Za r.2.2.2.2.2.2))]),(.arr 1 (List.map Za m2_0))])
theorem ZnG {m0_0 m0_1:Int}{m1_0:Bool}{m1_1 m1_2:Int}{m1_3 m1_4 m1_5:Int}{m2_0:List Int}:∀r,(Za5 m0_0 m0_1 m1_1 m1_2 m1_3 m1_4 m1_5 m2_0)=some r→evW ctx 212 [(.ptr 0 0),(.ptr 1 0)] [(.cells [(.sl 2 1),(.d (Za m0_0)),(.d (Za m0_1))]),(.cells [(.d (D.bool m1_0)),(.d (Za m1_1)),(.d (Za m1_2)),(.d (Za m1_3)),(.d (Za m1_4)),(.d (Za m1_5))]),(.arr 1 (List.map Za m2_0))]=some ((ZoQ m0_0 m0_1 m1_0 m1_1 m1_2 m1_3 m1_4 m1_5 m2_0) r):=
 evS Zwv rfl rfl <| yBr (yB (yB (yC ZdG fun x0 _=>
  yG fun x1 hx1=>
  Zr (Zae rfl hx1) yR)
  (yBr yR))
  (yB ((by
 conv=>rhs;whnf
 refine Ze _ Zij fun x2 _=>?_
 rcases x2 with x2 | x2
 exact yR
 exact yC ZdG fun x3 _=>
  yG fun x4 hx4=>
  Zr (Zae rfl hx4) yR))
  (yBr yR)))
def Zoi (r:(Zb×Zg×Int)):D:=(D.tup [(D.agg [(zL true r.1.ring),(Za r.1.top),(Za r.1.bottom)]),(D.agg [(D.bool r.2.1.steal),(Za r.2.1.at_),(Za r.2.1.top),(Za r.2.1.bottom),(Za r.2.1.got),(Za r.2.1.end_)]),(Za r.2.2)])
theorem Zmi {t0:Bool}{a:Zb}{b:Zg}:∀r,(Zav a b)=some r→evD ctx 199 [(.d (D.agg [(zL t0 a.ring),(Za a.top),(Za a.bottom)])),(.d (D.agg [(D.bool b.steal),(Za b.at_),(Za b.top),(Za b.bottom),(Za b.got),(Za b.end_)]))]=some (Zoi r):=
 evT ZvW rfl rfl <| yC ZcM fun x0 _=>
  yBr (yC ZmC fun x1 _=>
  yB (Ze _ ZiK fun x2 _=>
  yB (Ze _ ZlF fun x3 _=>
  yC ZcM fun x4 _=>
  yBr yR)
  (Ze _ ZnG fun x5 _=>
  yC ZcM fun x6 _=>
  yBr yR))
  yR)
def Znr (r:List Int):D:=(zL true r)
def ZgP (t0:Bool) (t1:Bool) (t2:Bool) (t3:Bool) (a:Zl) (b:ZD):(List Int)→Ex×List V×Zd
  | r=>(.exit 0,[(.sl 0 1)],[(.arr 1 (List.map Za r))])
theorem Zj2 {t0 t1:Bool}{t2 t3:Bool}{a:Zl}{b:ZD}:∀(s0:Int×(List Int)) (r:List Int),lp (Zc3 a b) s0=some r→lpW ctx 0 [2,3,5,9,10] [5] Zs4 [(.ptr 0 0),(.ptr 1 0),(.sl 2 1),(.d (Za (b.left.length:Int))),(.d (Za s0.1))] [(.cells [(.d (zL t0 a.work)),(.d (D.list t1 (List.map Zs a.edges)))]),(.cells [(.d (zL t2 b.on)),(.d (zL t3 b.left))]),(.arr 1 (List.map Za s0.2))]=some ((ZgP t0 t1 t2 t3 a b) r):=
 lpT (ZgP t0 t1 t2 t3 a b) fun s0 _ ih=>yB (yC Zds fun x1 _=>
  yB (Zm (ih _))
  (yC ZT fun x2 _=>
  yB (Zm (ih _))
  (yC Zf4 fun x3 _=>
  yB (yT (ZaV (Zex Za s0.2 1) (Zh (Zes Za s0.2 [s0.1]) (Zm (ih _)))
  Z5))
  (Zm (ih _)))))
  (Zp rfl)
theorem Zii {t0 t1:Bool}{t2 t3:Bool}{a:Zl}{b:ZD}:∀r,(Zeo a b)=some r→evD ctx 177 [(.d (D.agg [(zL t0 a.work),(D.list t1 (List.map Zs a.edges))])),(.d (D.agg [(zL t2 b.on),(zL t3 b.left)]))]=some (Znr r):=
 evT ZuX rfl rfl <| Zh (Zq _ _) (Ze _ (Zj2 _) fun r4 _=>
  yR)
def Zne (r:List Int):D:=(zL true r)
theorem ZfA {t0 t1:Bool}{t2 t3:Bool}{a:Zl}{b:ZD}:∀r,(Zce a b)=some r→evD ctx 169 [(.d (D.agg [(zL t0 a.work),(D.list t1 (List.map Zs a.edges))])),(.d (D.agg [(zL t2 b.on),(zL t3 b.left)]))]=some (Zne r):=
 evT Zv3 rfl rfl <| yC ZdV fun x0 _=>
  yBr (yC Zii fun x1 _=>
  yR)
def Zi3 (t0:Bool) (t1:Bool) (b:Int) (c:Int) (m0_0:List Int) (m0_1:List Zt) (m0_2:Int) (m1_0:List Int) (m2_0:List Int) (m3_0:List Zb) (m4_0:List Zg) (m5_0:List Int):(List Zg)→V×Zd
  | r=>((.d (D.tup [])),[(.cells [(.sl 1 1),(.sl 2 1),(.sl 3 3),(.sl 4 6),(.sl 5 1),(.d (zL t0 m0_0)),(.d (D.list t1 (List.map Zs m0_1))),(.d (Za m0_2))]),(.arr 1 (List.map Za m1_0)),(.arr 1 (List.map Za m2_0)),(.arr 3 (List.map Zy m3_0)),(.arr 6 (List.map Zz r)),(.arr 1 (List.map Za (List.set m5_0 b.toNat c)))])
theorem Zdf {t0 t1:Bool}{b c:Int}{m0_0:List Int}{m0_1:List Zt}{m0_2:Int}{m1_0:List Int}{m2_0:List Int}{m3_0:List Zb}{m4_0:List Zg}{m5_0:List Int}:∀r,(ZaX b c m4_0 m5_0)=some r→evW ctx 200 [(.ptr 0 0),(.d (Za b)),(.d (Za c))] [(.cells [(.sl 1 1),(.sl 2 1),(.sl 3 3),(.sl 4 6),(.sl 5 1),(.d (zL t0 m0_0)),(.d (D.list t1 (List.map Zs m0_1))),(.d (Za m0_2))]),(.arr 1 (List.map Za m1_0)),(.arr 1 (List.map Za m2_0)),(.arr 3 (List.map Zy m3_0)),(.arr 6 (List.map Zz m4_0)),(.arr 1 (List.map Za m5_0))]=some ((Zi3 t0 t1 b c m0_0 m0_1 m0_2 m1_0 m2_0 m3_0 m4_0 m5_0) r):=
 evS ZwF rfl rfl <| yG fun x0 hx0=>
  Zr (Zae rfl hx0) (Zh (Zb9 Za m5_0 b.toNat c) (yB (yG fun x1 hx1=>
  Zr (Zae rfl hx1) (Zh (Zb9 Zz m4_0 b.toNat (Zg.mk true 0 0 0 0 0)) yR))
  (yG fun x2 hx2=>
  Zr (Zae rfl hx2) (Zh (Zb9 Zz m4_0 b.toNat (Zg.mk false 0 0 0 0 0)) yR))))
def Zjv (t0:Bool) (t1:Bool) (b:Int) (m0_0:List Int) (m0_1:List Zt) (m0_2:Int) (m1_0:List Int) (m2_0:List Int) (m3_0:List Zb) (m4_0:List Zg) (m5_0:List Int):(Int×(List Int)×(List Zb)×(List Zg)×(List Int))→V×Zd
  | r=>((.d (Za r.1)),[(.cells [(.sl 1 1),(.sl 2 1),(.sl 3 3),(.sl 4 6),(.sl 5 1),(.d (zL t0 m0_0)),(.d (D.list t1 (List.map Zs m0_1))),(.d (Za m0_2))]),(.arr 1 (List.map Za r.2.1)),(.arr 1 (List.map Za m2_0)),(.arr 3 (List.map Zy r.2.2.1)),(.arr 6 (List.map Zz r.2.2.2.1)),(.arr 1 (List.map Za r.2.2.2.2))])
theorem ZiY {t0 t1:Bool}{b:Int}{m0_0:List Int}{m0_1:List Zt}{m0_2:Int}{m1_0:List Int}{m2_0:List Int}{m3_0:List Zb}{m4_0:List Zg}{m5_0:List Int}:∀r,(Zab b m0_0 m0_1 m1_0 m2_0 m3_0 m4_0 m5_0)=some r→evW ctx 185 [(.ptr 0 0),(.d (Za b))] [(.cells [(.sl 1 1),(.sl 2 1),(.sl 3 3),(.sl 4 6),(.sl 5 1),(.d (zL t0 m0_0)),(.d (D.list t1 (List.map Zs m0_1))),(.d (Za m0_2))]),(.arr 1 (List.map Za m1_0)),(.arr 1 (List.map Za m2_0)),(.arr 3 (List.map Zy m3_0)),(.arr 6 (List.map Zz m4_0)),(.arr 1 (List.map Za m5_0))]=some ((Zjv t0 t1 b m0_0 m0_1 m0_2 m1_0 m2_0 m3_0 m4_0 m5_0) r):=
 evS ZwQ rfl rfl <| Zh (Zq _ _) (yG fun x0 hx0=>
  Zr (Zae rfl hx0) (yBn (yG fun x1 hx1=>
  Zr (Zae rfl hx1) (yG fun x2 hx2=>
  Zr (Zae rfl hx2) (yC Zmi fun x3 _=>
  yBr (Zr (Zd6 rfl hx1) (Zr (Zae rfl hx1) (Zh (Zb9 Zy m3_0 (Int.tmod (w64 (b+x0)) (m1_0.length:Int)).toNat x3.1) (Zr (Zd6 rfl hx2) (Zr (Zae rfl hx2) (Zh (Zb9 Zz m4_0 b.toNat x3.2.1) (yB (yC ZfA fun x4 _=>
  yC ZT fun x5 _=>
  yB (yG fun x6 hx6=>
  Zr (Zae rfl hx6) (Zh (Zb9 Za m1_0 b.toNat x3.2.1.got) (Ze _ Zdf fun x7 _=>
  yR)))
  yR)
  (yB (Zr (Zd6 rfl hx0) (Zr (Zae rfl hx0) (yBn (Ze _ Zdf fun x8 _=>
  yR))))
  (yB (Zr (Zd6 rfl hx0) (Zr (Zae rfl hx0) (yBn (Ze _ Zdf fun x9 _=>
  yR))))
  yR))))))))))))))
def Zjr (t0:Bool) (t1:Bool) (t2:Bool) (b:List Int) (m0_0:List Int) (m0_1:List Zt) (m0_2:Int) (m1_0:List Int) (m2_0:List Int) (m3_0:List Zb) (m4_0:List Zg) (m5_0:List Int):(Int×Int×Int×(List Int)×(List Zb)×(List Zg)×(List Int))→V×Zd
  | r=>((.d (D.tup [(Za r.1),(Za r.2.1)])),[(.cells [(.sl 1 1),(.sl 2 1),(.sl 3 3),(.sl 4 6),(.sl 5 1),(.d (zL t1 m0_0)),(.d (D.list t2 (List.map Zs m0_1))),(.d (Za r.2.2.1))]),(.arr 1 (List.map Za r.2.2.2.1)),(.arr 1 (List.map Za m2_0)),(.arr 3 (List.map Zy r.2.2.2.2.1)),(.arr 6 (List.map Zz r.2.2.2.2.2.1)),(.arr 1 (List.map Za r.2.2.2.2.2.2))])
def Zey (t0:Bool) (t1:Bool) (t2:Bool) (b:List Int) (m0_0:List Int) (m0_1:List Zt) (m2_0:List Int):((Int×Int×Int×(List Int)×(List Zb)×(List Zg)×(List Int))⊕(Int×Int×(List Int)×(List Zb)×(List Zg)×(List Int)))→Ex×List V×Zd
  | (.inl r)=>(.ret,[(.d (Za 0)),(.d (Za r.1)),(.d (Za r.2.1))],[(.cells [(.sl 1 1),(.sl 2 1),(.sl 3 3),(.sl 4 6),(.sl 5 1),(.d (zL t1 m0_0)),(.d (D.list t2 (List.map Zs m0_1))),(.d (Za r.2.2.1))]),(.arr 1 (List.map Za r.2.2.2.1)),(.arr 1 (List.map Za m2_0)),(.arr 3 (List.map Zy r.2.2.2.2.1)),(.arr 6 (List.map Zz r.2.2.2.2.2.1)),(.arr 1 (List.map Za r.2.2.2.2.2.2))])
  | (.inr r)=>(.exit 0,[.bad,.bad,(.d (Za r.1))],[(.cells [(.sl 1 1),(.sl 2 1),(.sl 3 3),(.sl 4 6),(.sl 5 1),(.d (zL t1 m0_0)),(.d (D.list t2 (List.map Zs m0_1))),(.d (Za r.2.1))]),(.arr 1 (List.map Za r.2.2.1)),(.arr 1 (List.map Za m2_0)),(.arr 3 (List.map Zy r.2.2.2.1)),(.arr 6 (List.map Zz r.2.2.2.2.1)),(.arr 1 (List.map Za r.2.2.2.2.2))])
theorem Zhv {t0 t1 t2:Bool}{b:List Int}{m0_0:List Int}{m0_1:List Zt}{m2_0:List Int}:∀(s1:Int×(List Int)×Int×(List Int)×(List Zb)×(List Zg)×(List Int)) (r:((Int×Int×Int×(List Int)×(List Zb)×(List Zg)×(List Int))⊕(Int×Int×(List Int)×(List Zb)×(List Zg)×(List Int)))),lp (Za4 b m0_0 m0_1 m2_0) s1=some r→lpW ctx 6 [0,1,6,7] [4,5,6] Zs3 [(.ptr 0 0),(.d (zL t0 b)),(.d (Za s1.1)),(.d (zL true s1.2.1))] [(.cells [(.sl 1 1),(.sl 2 1),(.sl 3 3),(.sl 4 6),(.sl 5 1),(.d (zL t1 m0_0)),(.d (D.list t2 (List.map Zs m0_1))),(.d (Za s1.2.2.1))]),(.arr 1 (List.map Za s1.2.2.2.1)),(.arr 1 (List.map Za m2_0)),(.arr 3 (List.map Zy s1.2.2.2.2.1)),(.arr 6 (List.map Zz s1.2.2.2.2.2.1)),(.arr 1 (List.map Za s1.2.2.2.2.2.2))]=some ((Zey t0 t1 t2 b m0_0 m0_1 m2_0) r):=
 lpT (Zey t0 t1 t2 b m0_0 m0_1 m2_0) fun s1 _ ih=>Zh (Zq _ _) (yB (yC Ziy fun x2 _=>
  Ze _ ZiY fun x3 _=>
  yB (Zp rfl)
  (yC ZeJ fun x4 _=>
  Zm (ih _)))
  (Zp rfl))
theorem Zix {t0 t1 t2:Bool}{b:List Int}{m0_0:List Int}{m0_1:List Zt}{m0_2:Int}{m1_0:List Int}{m2_0:List Int}{m3_0:List Zb}{m4_0:List Zg}{m5_0:List Int}:∀r,(Zdg b m0_0 m0_1 m1_0 m2_0 m3_0 m4_0 m5_0)=some r→evW ctx 174 [(.ptr 0 0),(.d (zL t0 b))] [(.cells [(.sl 1 1),(.sl 2 1),(.sl 3 3),(.sl 4 6),(.sl 5 1),(.d (zL t1 m0_0)),(.d (D.list t2 (List.map Zs m0_1))),(.d (Za m0_2))]),(.arr 1 (List.map Za m1_0)),(.arr 1 (List.map Za m2_0)),(.arr 3 (List.map Zy m3_0)),(.arr 6 (List.map Zz m4_0)),(.arr 1 (List.map Za m5_0))]=some ((Zjr t0 t1 t2 b m0_0 m0_1 m0_2 m1_0 m2_0 m3_0 m4_0 m5_0) r):=
 evS ZwB rfl rfl <| yC ZeJ fun x0 _=>
  (by
 conv=>rhs;whnf
 refine Ze _ (Zhv _) fun r5 _=>?_
 rcases r5 with r5 | r5
 exact yR
 exact yR)
def Zoo (r:(ZO×Int×Int)):D:=(D.tup [(D.agg [(zL true r.1.crew.on),(zL true r.1.crew.left),(D.list true (List.map Zy r.1.deques)),(D.list true (List.map Zz r.1.takers)),(zL true r.1.from_)]),(Za r.2.1),(Za r.2.2)])
theorem Zmk {t0 t1:Bool}{t2 t3:Bool}{t4 t5:Bool}{t6 t7:Bool}{a:Zl}{b:ZO}{c:List Int}:∀r,(ZfT a b c)=some r→evD ctx 165 [(.d (D.agg [(zL t0 a.work),(D.list t1 (List.map Zs a.edges))])),(.d (D.agg [(zL t2 b.crew.on),(zL t3 b.crew.left),(D.list t4 (List.map Zy b.deques)),(D.list t5 (List.map Zz b.takers)),(zL t6 b.from_)])),(.d (zL t7 c))]=some (Zoo r):=
 evT Zvl rfl rfl <| yC Zg9 fun x0 _=>
  yBr (Ze _ Zi0 fun x1 _=>
  Ze _ Zix fun x2 _=>
  yBr yR)
def ZjS (r:(ZO×Int×Int)):D:=(D.tup [(D.agg [(zL true r.1.crew.on),(zL true r.1.crew.left),(D.list true (List.map Zy r.1.deques)),(D.list true (List.map Zz r.1.takers)),(zL true r.1.from_)]),(Za r.2.1),(Za r.2.2)])
theorem ZfE {t0 t1:Bool}{t2 t3:Bool}{t4 t5:Bool}{t6 t7:Bool}{a:Ziv}{b:Zl}{c:ZO}{d:List Int}:∀r,(ZdH a b c d)=some r→evD ctx 161 [(.d (D.agg [])),(.d (D.agg [(zL t0 b.work),(D.list t1 (List.map Zs b.edges))])),(.d (D.agg [(zL t2 c.crew.on),(zL t3 c.crew.left),(D.list t4 (List.map Zy c.deques)),(D.list t5 (List.map Zz c.takers)),(zL t6 c.from_)])),(.d (zL t7 d))]=some (ZjS r):=
 evT Zu8 rfl rfl <| yC Zmk fun x0 _=>
  yR
def Zqo (t0:Bool) (t1:Bool) (a:ZD):Unit→V×Zd
  | r=>((.agg [(.sl 0 1),(.sl 1 1)]),[(.arr 1 (List.map Za a.on)),(.arr 1 (List.map Za a.left))])
theorem ZjD {t0 t1:Bool}{a:ZD}:∀r,(ZeR a)=some r→evW ctx 201 [(.d (D.agg [(zL t0 a.on),(zL t1 a.left)]))] []=some ((Zqo t0 t1 a) r):=
 evS Zwh rfl rfl <| Ze _ Zn fun x0 _=>
  Ze _ Zn fun x1 _=>
  yR
def Zgw (m0_0:List Int):(List Int)→V×Zd
  | r=>((.d (D.tup [])),[(.arr 1 (List.map Za r))])
theorem Zdp {m0_0:List Int}:∀r,(ZaB m0_0)=some r→evW ctx 110 [(.sl 0 1)] [(.arr 1 (List.map Za m0_0))]=some ((Zgw m0_0) r):=
 evS Zyo rfl rfl <| Zr (ZrP rfl) (yBm (ZwJ yR))
def ZoC (m0_0:List Int) (m1_0:List Int):((List Int)×(List Int)×(List Int))→V×Zd
  | r=>((.sl 2 1),[(.arr 1 (List.map Za r.1)),(.arr 1 (List.map Za r.2.1)),(.arr 1 (List.map Za r.2.2))])
def Zg8 (m0_0:List Int):((List Int)×(List Int)×(List Int))→Ex×List V×Zd
  | r=>(.exit 0,[(.sl 2 1)],[(.arr 1 (List.map Za r.1)),(.arr 1 (List.map Za r.2.1)),(.arr 1 (List.map Za r.2.2))])
theorem ZkB {m0_0:List Int}:∀(s0:Int×(List Int)×(List Int)×(List Int)) (r:((List Int)×(List Int)×(List Int))),lp (ZcO m0_0) s0=some r→lpW ctx 2 [1,3,7,8,9] [3] ZtJ [(.ptr 2 0),(.sl 3 1),(.sl 0 1),(.d (Za (m0_0.length:Int))),(.d (Za s0.1))] [(.arr 1 (List.map Za s0.2.1)),(.arr 1 (List.map Za s0.2.2.1)),(.cells [(.sl 0 1),(.sl 1 1)]),(.arr 1 (List.map Za s0.2.2.2))]=some ((Zg8 m0_0) r):=
 lpT (Zg8 m0_0) fun s0 _ ih=>yB (yG fun x1 hx1=>
  Zr (Zae rfl hx1) (yB (Zm (ih _))
  (yG fun x2 hx2=>
  Zr (Zae rfl hx2) (Zr (Zd6 rfl hx2) (Zr (Zae rfl hx2) (Zh (Zb9 Za s0.2.2.1 x1.toNat (w64 (x2-1))) (yC Zds fun x3 _=>
  yB (Zr (Zd6 rfl hx1) (Zr (Zae rfl hx1) (Zh (Zb9 Za s0.2.1 s0.1.toNat (-1)) (yT (ZaV (Zex Za s0.2.2.2 1) (Zh (Zes Za s0.2.2.2 [x1]) (Zm (ih _)))
  Z5)))))
  (Zm (ih _)))))))))
  (Zp rfl)
theorem Zns {m0_0:List Int}{m1_0:List Int}:∀r,(Zi7 m0_0 m1_0)=some r→evW ctx 202 [(.agg [(.sl 0 1),(.sl 1 1)])] [(.arr 1 (List.map Za m0_0)),(.arr 1 (List.map Za m1_0))]=some ((ZoC m0_0 m1_0) r):=
 evS Zvy rfl rfl <| Zh (Zq _ _) (Ze _ (ZkB _) fun r4 _=>
  Ze _ Zdp fun x5 _=>
  yR)
def ZoY (t0:Bool) (t1:Bool) (t2:Bool) (t3:Bool) (a:Zl) (b:ZD):(Int⊕((List Int)×(List Int)×(List Int)))→V×Zd
  | (.inl r)=>((.tup [(.agg [(.nilsl 1),(.nilsl 1)]),(.nilsl 1),(.d (Za r))]),[])
  | (.inr r)=>((.tup [(.agg [(.sl 0 1),(.sl 1 1)]),(.sl 2 1),(.d (Za 0))]),[(.arr 1 (List.map Za r.1)),(.arr 1 (List.map Za r.2.1)),(.arr 1 (List.map Za r.2.2))])
theorem ZiA {t0 t1:Bool}{t2 t3:Bool}{a:Zl}{b:ZD}:∀r,(Zff a b)=some r→evW ctx 186 [(.d (D.agg [(zL t0 a.work),(D.list t1 (List.map Zs a.edges))])),(.d (D.agg [(zL t2 b.on),(zL t3 b.left)]))] []=some ((ZoY t0 t1 t2 t3 a b) r):=
 evS Zvu rfl rfl <| yC ZdV fun x0 _=>
  yBr (Ze _ ZjD fun x1 _=>
  Ze _ Zns fun x2 _=>
  yR)
def ZmI (r:(Int×Bool)):D:=(D.tup [(Za r.1),(D.bool r.2)])
theorem ZlD {a:Zt}{b0:Int}:∀r,(Zda a b0)=some r→evD ctx 203 [(.d (D.agg [(Za a.src),(Za a.dst)])),(.d (D.rptr [(Za b0)]))]=some (ZmI r):=
 evT Zxb rfl rfl <| yBr yR
def ZgX (r:List Int):D:=(zL true r)
def Zdh (t1:Bool) (a:Zl) (b0:Int):(List Int)→Ex×List V×Zd
  | r=>(.exit 0,[(.sl 0 1)],[(.arr 1 (List.map Za r))])
theorem Zfw {t1:Bool}{a:Zl}{b0:Int}:∀(s0:Int×(List Int)) (r:List Int),lp (Zev a (fun z0=>Zda z0 b0)) s0=some r→lpW ctx 0 [1,5,11,12,13] [5] Zwi [(.d (D.fn 203 [(D.rptr [(Za b0)])])),(.sl 0 1),(.d (D.list t1 (List.map Zs a.edges))),(.d (Za (a.edges.length:Int))),(.d (Za s0.1))] [(.arr 1 (List.map Za s0.2))]=some ((Zdh t1 a b0) r):=
 lpT (Zdh t1 a b0) fun s0 _ ih=>yB (yG fun x1 _=>
  yC ZlD fun x2 _=>
  yB (yT (ZaV (Zex Za s0.2 1) (Zh (Zes Za s0.2 [x2.1]) (Zm (ih _)))
  Z5))
  (Zm (ih _)))
  (Zp rfl)
theorem Zgx {t0 t1:Bool}{a:Zl}{b0:Int}:∀r,(Zlj a (fun z0=>Zda z0 b0))=some r→evD ctx 92 [(.d (D.agg [(zL t0 a.work),(D.list t1 (List.map Zs a.edges))])),(.d (D.fn 203 [(D.rptr [(Za b0)])]))]=some (ZgX r):=
 evT ZyA rfl rfl <| Zh (Zq _ _) (Ze _ (Zfw _) fun r3 _=>
  Ze _ Zdp fun x4 _=>
  yR)
def ZoG (r:List Int):D:=(zL true r)
theorem ZnX {t0 t1:Bool}{a:Zl}{b:Int}:∀r,(ZgF a b)=some r→evD ctx 187 [(.d (D.agg [(zL t0 a.work),(D.list t1 (List.map Zs a.edges))])),(.d (Za b))]=some (ZoG r):=
 evT ZuU rfl rfl <| yC Zdv fun x0 _=>
  yBr (yC Zgx fun x1 _=>
  yR)
def ZnA (r:(Zb×Int)):D:=(D.tup [(D.agg [(zL true r.1.ring),(Za r.1.top),(Za r.1.bottom)]),(Za r.2)])
theorem Zmr {t0:Bool}{a:Zb}{b:Int}:∀r,(ZhV a b)=some r→evD ctx 178 [(.d (D.agg [(zL t0 a.ring),(Za a.top),(Za a.bottom)])),(.d (Za b))]=some (ZnA r):=
 evT Zws rfl rfl <| yC ZcM fun x0 _=>
  yBr (yBr (Zh (Zq _ _) (yBr (Ze _ ZiK fun x1 _=>
  yC ZdG fun x2 _=>
  yG fun x3 hx3=>
  Zr (Zae rfl hx3) (Zh (Zb9 Za a.ring x2.toNat b) yR)))))
def Zjp (t0:Bool) (t1:Bool) (b:Int) (c:Int) (m0_0:List Int) (m0_1:List Zt) (m0_2:Int) (m1_0:List Int) (m2_0:List Int) (m3_0:List Zb) (m4_0:List Zg) (m5_0:List Int):((List Zb)⊕(List Zb))→V×Zd
  | (.inl r)=>((.d (D.bool true)),[(.cells [(.sl 1 1),(.sl 2 1),(.sl 3 3),(.sl 4 6),(.sl 5 1),(.d (zL t0 m0_0)),(.d (D.list t1 (List.map Zs m0_1))),(.d (Za m0_2))]),(.arr 1 (List.map Za m1_0)),(.arr 1 (List.map Za m2_0)),(.arr 3 (List.map Zy r)),(.arr 6 (List.map Zz m4_0)),(.arr 1 (List.map Za m5_0))])
  | (.inr r)=>((.d (D.bool false)),[(.cells [(.sl 1 1),(.sl 2 1),(.sl 3 3),(.sl 4 6),(.sl 5 1),(.d (zL t0 m0_0)),(.d (D.list t1 (List.map Zs m0_1))),(.d (Za m0_2))]),(.arr 1 (List.map Za m1_0)),(.arr 1 (List.map Za m2_0)),(.arr 3 (List.map Zy r)),(.arr 6 (List.map Zz m4_0)),(.arr 1 (List.map Za m5_0))])
theorem Zfm {t0 t1:Bool}{b c:Int}{m0_0:List Int}{m0_1:List Zt}{m0_2:Int}{m1_0:List Int}{m2_0:List Int}{m3_0:List Zb}{m4_0:List Zg}{m5_0:List Int}:∀r,(Zcd b c m3_0)=some r→evW ctx 170 [(.ptr 0 0),(.d (Za b)),(.d (Za c))] [(.cells [(.sl 1 1),(.sl 2 1),(.sl 3 3),(.sl 4 6),(.sl 5 1),(.d (zL t0 m0_0)),(.d (D.list t1 (List.map Zs m0_1))),(.d (Za m0_2))]),(.arr 1 (List.map Za m1_0)),(.arr 1 (List.map Za m2_0)),(.arr 3 (List.map Zy m3_0)),(.arr 6 (List.map Zz m4_0)),(.arr 1 (List.map Za m5_0))]=some ((Zjp t0 t1 b c m0_0 m0_1 m0_2 m1_0 m2_0 m3_0 m4_0 m5_0) r):=
 evS ZvH rfl rfl <| yG fun x0 hx0=>
  Zr (Zae rfl hx0) (yC Zmr fun x1 _=>
  yB (Zr (Zd6 rfl hx0) (Zr (Zae rfl hx0) (Zh (Zb9 Zy m3_0 b.toNat x1.1) (yBr yR))))
  (yBr yR))
def Zjz (t0:Bool) (t1:Bool) (m0_0:List Int) (m0_1:List Zt) (m0_2:Int) (m1_0:List Int) (m2_0:List Int) (m3_0:List Zb) (m4_0:List Zg) (m5_0:List Int):(Int⊕(((List Zb)×(List Int)×(List Int))⊕((List Zb)×(List Int)×(List Int)×(List Int))))→V×Zd
  | (.inl r)=>((.tup [(.nilsl 1),(.d (Za r))]),[(.cells [(.sl 1 1),(.sl 2 1),(.sl 3 3),(.sl 4 6),(.sl 5 1),(.d (zL t0 m0_0)),(.d (D.list t1 (List.map Zs m0_1))),(.d (Za m0_2))]),(.arr 1 (List.map Za m1_0)),(.arr 1 (List.map Za m2_0)),(.arr 3 (List.map Zy m3_0)),(.arr 6 (List.map Zz m4_0)),(.arr 1 (List.map Za m5_0))])
  | (.inr (.inl r))=>((.tup [(.nilsl 1),(.d (Za 130))]),[(.cells [(.sl 6 1),(.sl 7 1),(.sl 3 3),(.sl 4 6),(.sl 5 1),(.d (zL t0 m0_0)),(.d (D.list t1 (List.map Zs m0_1))),(.d (Za m0_2))]),(.arr 1 (List.map Za m1_0)),(.arr 1 (List.map Za m2_0)),(.arr 3 (List.map Zy r.1)),(.arr 6 (List.map Zz m4_0)),(.arr 1 (List.map Za m5_0)),(.arr 1 (List.map Za r.2.1)),(.arr 1 (List.map Za r.2.2))])
  | (.inr (.inr r))=>((.tup [(.sl 6 1),(.d (Za 0))]),[(.cells [(.sl 7 1),(.sl 8 1),(.sl 3 3),(.sl 4 6),(.sl 5 1),(.d (zL t0 m0_0)),(.d (D.list t1 (List.map Zs m0_1))),(.d (Za m0_2))]),(.arr 1 (List.map Za m1_0)),(.arr 1 (List.map Za m2_0)),(.arr 3 (List.map Zy r.1)),(.arr 6 (List.map Zz m4_0)),(.arr 1 (List.map Za m5_0)),(.arr 1 (List.map Za r.2.1)),(.arr 1 (List.map Za r.2.2.1)),(.arr 1 (List.map Za r.2.2.2))])
def Zei (t0:Bool) (t1:Bool) (m0_0:List Int) (m0_1:List Zt) (m0_2:Int) (m1_0:List Int) (m2_0:List Int) (m4_0:List Zg) (m5_0:List Int) (x1:((List Int)×(List Int)×(List Int))) (x2:List Int) (s3:Int×(List Zb)×(List Int)) (x6:List Int):(((List Zb)×(List Int))⊕((List Zb)×(List Int)))→Ex×List V×Zd
  | (.inl r)=>(.ret,[(.ptr 0 0),(.nilsl 1),(.d (Za 130)),(.sl 6 1),(.d (zL true x2)),(.fn 1000170 [(.ptr 0 0)]),(.sl 7 1),(.sl 8 1),(.d (Za (m1_0.length:Int))),(.d (Za s3.1))],[(.cells [(.sl 9 1),(.sl 10 1),(.sl 3 3),(.sl 4 6),(.sl 5 1),(.d (zL t0 m0_0)),(.d (D.list t1 (List.map Zs m0_1))),(.d (Za m0_2))]),(.arr 1 (List.map Za m1_0)),(.arr 1 (List.map Za m2_0)),(.arr 3 (List.map Zy r.1)),(.arr 6 (List.map Zz m4_0)),(.arr 1 (List.map Za m5_0)),(.arr 1 (List.map Za x1.2.2)),(.arr 1 (List.map Za r.2)),(.arr 1 (List.map Za m1_0)),(.arr 1 (List.map Za x1.1)),(.arr 1 (List.map Za x1.2.1))])
  | (.inr r)=>(.exit 2,[(.ptr 0 0),.bad,.bad,(.sl 6 1),(.d (zL true x2)),(.fn 1000170 [(.ptr 0 0)]),(.sl 7 1),(.sl 8 1),(.d (Za (m1_0.length:Int))),(.d (Za s3.1))],[(.cells [(.sl 9 1),(.sl 10 1),(.sl 3 3),(.sl 4 6),(.sl 5 1),(.d (zL t0 m0_0)),(.d (D.list t1 (List.map Zs m0_1))),(.d (Za m0_2))]),(.arr 1 (List.map Za m1_0)),(.arr 1 (List.map Za m2_0)),(.arr 3 (List.map Zy r.1)),(.arr 6 (List.map Zz m4_0)),(.arr 1 (List.map Za m5_0)),(.arr 1 (List.map Za x1.2.2)),(.arr 1 (List.map Za r.2)),(.arr 1 (List.map Za m1_0)),(.arr 1 (List.map Za x1.1)),(.arr 1 (List.map Za x1.2.1))])
theorem ZhB {t0 t1:Bool}{m0_0:List Int}{m0_1:List Zt}{m0_2:Int}{m1_0:List Int}{m2_0:List Int}{m4_0:List Zg}{m5_0:List Int}{x1:((List Int)×(List Int)×(List Int))}{x2:List Int}{s3:Int×(List Zb)×(List Int)}{x6:List Int}:∀(s7:Int×(List Zb)×(List Int)) (r:(((List Zb)×(List Int))⊕((List Zb)×(List Int)))),lp (ZaA x2 s3 x6) s7=some r→lpW ctx 6 [0,6,8,9,10,11,52,53,54,78,79,80] [0,2,3,6,8,9,10,52,53,54] Ztz [(.ptr 0 0),(.sl 6 1),(.d (zL true x2)),(.fn 1000170 [(.ptr 0 0)]),(.sl 7 1),(.d (Za s3.1)),(.sl 8 1),(.d (Za (m1_0.length:Int))),(.d (Za s3.1)),(.d (zL true x6)),(.d (Za (x6.length:Int))),(.d (Za s7.1))] [(.cells [(.sl 9 1),(.sl 10 1),(.sl 3 3),(.sl 4 6),(.sl 5 1),(.d (zL t0 m0_0)),(.d (D.list t1 (List.map Zs m0_1))),(.d (Za m0_2))]),(.arr 1 (List.map Za m1_0)),(.arr 1 (List.map Za m2_0)),(.arr 3 (List.map Zy s7.2.1)),(.arr 6 (List.map Zz m4_0)),(.arr 1 (List.map Za m5_0)),(.arr 1 (List.map Za x1.2.2)),(.arr 1 (List.map Za s7.2.2)),(.arr 1 (List.map Za m1_0)),(.arr 1 (List.map Za x1.1)),(.arr 1 (List.map Za x1.2.1))]=some ((Zei t0 t1 m0_0 m0_1 m0_2 m1_0 m2_0 m4_0 m5_0 x1 x2 s3 x6) r):=
 lpT (Zei t0 t1 m0_0 m0_1 m0_2 m1_0 m2_0 m4_0 m5_0 x1 x2 s3 x6) fun s7 _ ih=>yB (yG fun x8 _=>
  yC ZT fun x9 _=>
  yB (yC ZT fun x10 _=>
  yB (Zm (ih _))
  (by
 conv=>rhs;whnf
 refine Ze _ Zfm fun x11 _=>?_
 rcases x11 with x11 | x11
 exact yT (ZaV (Zex Za s7.2.2 1) (Zh (Zes Za s7.2.2 [x8]) (Zm (ih _)))
  Z5)
 exact Zp rfl))
  (Zm (ih _)))
  (Zp rfl)
def Zeh (t0:Bool) (t1:Bool) (m0_0:List Int) (m0_1:List Zt) (m0_2:Int) (m1_0:List Int) (m2_0:List Int) (m4_0:List Zg) (m5_0:List Int) (x1:((List Int)×(List Int)×(List Int))) (x2:List Int):((List Zb)⊕(List Zb))→Ex×List V×Zd
  | (.inl r)=>(.ret,[(.nilsl 1),(.d (Za 130)),(.sl 6 1)],[(.cells [(.sl 7 1),(.sl 8 1),(.sl 3 3),(.sl 4 6),(.sl 5 1),(.d (zL t0 m0_0)),(.d (D.list t1 (List.map Zs m0_1))),(.d (Za m0_2))]),(.arr 1 (List.map Za m1_0)),(.arr 1 (List.map Za m2_0)),(.arr 3 (List.map Zy r)),(.arr 6 (List.map Zz m4_0)),(.arr 1 (List.map Za m5_0)),(.arr 1 (List.map Za x1.2.2)),(.arr 1 (List.map Za x1.1)),(.arr 1 (List.map Za x1.2.1))])
  | (.inr r)=>(.exit 0,[.bad,.bad,(.sl 6 1)],[(.cells [(.sl 7 1),(.sl 8 1),(.sl 3 3),(.sl 4 6),(.sl 5 1),(.d (zL t0 m0_0)),(.d (D.list t1 (List.map Zs m0_1))),(.d (Za m0_2))]),(.arr 1 (List.map Za m1_0)),(.arr 1 (List.map Za m2_0)),(.arr 3 (List.map Zy r)),(.arr 6 (List.map Zz m4_0)),(.arr 1 (List.map Za m5_0)),(.arr 1 (List.map Za x1.2.2)),(.arr 1 (List.map Za x1.1)),(.arr 1 (List.map Za x1.2.1))])
theorem Zhm {t0 t1:Bool}{m0_0:List Int}{m0_1:List Zt}{m0_2:Int}{m1_0:List Int}{m2_0:List Int}{m4_0:List Zg}{m5_0:List Int}{x1:((List Int)×(List Int)×(List Int))}{x2:List Int}:∀(s3:Int×(List Zb)×(List Int)) (r:((List Zb)⊕(List Zb))),lp (ZaC m0_0 m0_1 m1_0 x1 x2) s3=some r→lpW ctx 6 [0,6,8,9,10,52,53,54] [2,3,6] Ztw [(.ptr 0 0),(.sl 6 1),(.d (zL true x2)),(.fn 1000170 [(.ptr 0 0)]),(.sl 7 1),(.sl 8 1),(.d (Za (m1_0.length:Int))),(.d (Za s3.1))] [(.cells [(.sl 9 1),(.sl 10 1),(.sl 3 3),(.sl 4 6),(.sl 5 1),(.d (zL t0 m0_0)),(.d (D.list t1 (List.map Zs m0_1))),(.d (Za m0_2))]),(.arr 1 (List.map Za m1_0)),(.arr 1 (List.map Za m2_0)),(.arr 3 (List.map Zy s3.2.1)),(.arr 6 (List.map Zz m4_0)),(.arr 1 (List.map Za m5_0)),(.arr 1 (List.map Za x1.2.2)),(.arr 1 (List.map Za s3.2.2)),(.arr 1 (List.map Za m1_0)),(.arr 1 (List.map Za x1.1)),(.arr 1 (List.map Za x1.2.1))]=some ((Zeh t0 t1 m0_0 m0_1 m0_2 m1_0 m2_0 m4_0 m5_0 x1 x2) r):=
 lpT (Zeh t0 t1 m0_0 m0_1 m0_2 m1_0 m2_0 m4_0 m5_0 x1 x2) fun s3 _ ih=>yB (yG fun x4 hx4=>
  Zr (Zae rfl hx4) (yB (Zm (ih _))
  (yG fun x5 hx5=>
  Zr (Zae rfl hx5) (yB (Zm (ih _))
  (yC ZnX fun x6 _=>
  Zh (Zq _ _) (by
 conv=>rhs;whnf
 refine Ze _ (ZhB _) fun r12 _=>?_
 rcases r12 with r12 | r12
 exact Zp rfl
 exact Zm (ih _)))))))
  (Zp rfl)
theorem Zi4 {t0 t1:Bool}{m0_0:List Int}{m0_1:List Zt}{m0_2:Int}{m1_0:List Int}{m2_0:List Int}{m3_0:List Zb}{m4_0:List Zg}{m5_0:List Int}:∀r,(Zdi m0_0 m0_1 m1_0 m2_0 m3_0)=some r→evW ctx 175 [(.ptr 0 0)] [(.cells [(.sl 1 1),(.sl 2 1),(.sl 3 3),(.sl 4 6),(.sl 5 1),(.d (zL t0 m0_0)),(.d (D.list t1 (List.map Zs m0_1))),(.d (Za m0_2))]),(.arr 1 (List.map Za m1_0)),(.arr 1 (List.map Za m2_0)),(.arr 3 (List.map Zy m3_0)),(.arr 6 (List.map Zz m4_0)),(.arr 1 (List.map Za m5_0))]=some ((Zjz t0 t1 m0_0 m0_1 m0_2 m1_0 m2_0 m3_0 m4_0 m5_0) r):=
 evS ZwK rfl rfl <| Ze _ Zn fun x0 _=>
  (by
 conv=>rhs;whnf
 refine Ze _ ZiA fun x1 _=>?_
 rcases x1 with x1 | x1
 exact yBm yR
 exact yF (yC ZfA fun x2 _=>
  Zh (Zq _ _) (by
 conv=>rhs;whnf
 refine Ze _ (Zhm _) fun r13 _=>?_
 rcases r13 with r13 | r13
 exact yR
 exact yR)))
def ZnU (r:(ZO×(List Int)×Int)):D:=(D.tup [(D.agg [(zL true r.1.crew.on),(zL true r.1.crew.left),(D.list true (List.map Zy r.1.deques)),(D.list true (List.map Zz r.1.takers)),(zL true r.1.from_)]),(zL true r.2.1),(Za r.2.2)])
theorem Zmv {t0 t1:Bool}{t2 t3:Bool}{t4 t5 t6:Bool}{a:Zl}{b:ZO}:∀r,(ZfQ a b)=some r→evD ctx 166 [(.d (D.agg [(zL t0 a.work),(D.list t1 (List.map Zs a.edges))])),(.d (D.agg [(zL t2 b.crew.on),(zL t3 b.crew.left),(D.list t4 (List.map Zy b.deques)),(D.list t5 (List.map Zz b.takers)),(zL t6 b.from_)]))]=some (ZnU r):=
 evT Zvt rfl rfl <| yC Zg9 fun x0 _=>
  yBr (Ze _ Zi0 fun x1 _=>
  (by
 conv=>rhs;whnf
 refine Ze _ Zi4 fun x2 _=>?_
 rcases x2 with x2 | (x2 | x2)
 exact yBm yR
 exact yT yR
 exact yF yR))
def Zki (r:(ZO×(List Int)×Int)):D:=(D.tup [(D.agg [(zL true r.1.crew.on),(zL true r.1.crew.left),(D.list true (List.map Zy r.1.deques)),(D.list true (List.map Zz r.1.takers)),(zL true r.1.from_)]),(zL true r.2.1),(Za r.2.2)])
theorem ZfF {t0 t1:Bool}{t2 t3:Bool}{t4 t5 t6:Bool}{a:Ziv}{b:Zl}{c:ZO}:∀r,(Zdz a b c)=some r→evD ctx 162 [(.d (D.agg [])),(.d (D.agg [(zL t0 b.work),(D.list t1 (List.map Zs b.edges))])),(.d (D.agg [(zL t2 c.crew.on),(zL t3 c.crew.left),(D.list t4 (List.map Zy c.deques)),(D.list t5 (List.map Zz c.takers)),(zL t6 c.from_)]))]=some (Zki r):=
 evT ZwZ rfl rfl <| yC Zmv fun x0 _=>
  yR
def ZoR (t0:Bool) (t1:Bool) (a:Zl) (m0_0:List Int) (m1_0:List Int):(List Int)→V×Zd
  | r=>((.d (D.tup [])),[(.arr 1 (List.map Za r)),(.arr 1 (List.map Za m1_0))])
def Zg6 (m0_0:List Int) (m1_0:List Int):(List Int)→Ex×List V×Zd
  | r=>(.exit 0,[],[(.arr 1 (List.map Za r)),(.arr 1 (List.map Za m1_0))])
theorem Zk7 {m0_0:List Int}{m1_0:List Int}:∀(s1:(List Int)×Int×(List Int)) (r:List Int),lp (ZcB m0_0) s1=some r→lpW ctx 2 [3,4,11,12,13] [] ZsZ [(.ptr 2 0),(.d (zL true s1.1)),(.sl 0 1),(.d (Za (m0_0.length:Int))),(.d (Za s1.2.1))] [(.arr 1 (List.map Za s1.2.2)),(.arr 1 (List.map Za m1_0)),(.cells [(.sl 0 1),(.sl 1 1)])]=some ((Zg6 m0_0 m1_0) r):=
 lpT (Zg6 m0_0 m1_0) fun s1 _ ih=>yB (yG fun x2 hx2=>
  Zr (Zae rfl hx2) (yB (Zh (Zq _ _) (yB (yG fun x3 _=>
  yT (ZaV (ZqM Za s1.1 1) (ZkR (Zvj Za (fun _=>⟨rfl,rfl⟩) s1.1 _) (Zh (Zn9 Za s1.1 1) (Zr (Zd6 rfl hx2) (Zr (Zae rfl hx2) (Zh (Zb9 Za s1.2.2 s1.2.1.toNat x3) (Zm (ih _)))))))
  Z5))
  (Zm (ih _))))
  (Zm (ih _))))
  (Zp rfl)
theorem Zom {t0 t1:Bool}{a:Zl}{m0_0:List Int}{m1_0:List Int}:∀r,(ZiP a m0_0 m1_0)=some r→evW ctx 220 [(.d (D.agg [(zL t0 a.work),(D.list t1 (List.map Zs a.edges))])),(.agg [(.sl 0 1),(.sl 1 1)])] [(.arr 1 (List.map Za m0_0)),(.arr 1 (List.map Za m1_0))]=some ((ZoR t0 t1 a m0_0 m1_0) r):=
 evS Zwj rfl rfl <| yC Zii fun x0 _=>
  Zh (Zq _ _) (Ze _ (Zk7 _) fun r4 _=>
  yR)
def Zo4 (r:(ZD×Int)):D:=(D.tup [(D.agg [(zL true r.1.on),(zL true r.1.left)]),(Za r.2)])
theorem Zoc {t0 t1:Bool}{t2 t3:Bool}{a:Zl}{b:ZD}:∀r,(Zgy a b)=some r→evD ctx 219 [(.d (D.agg [(zL t0 a.work),(D.list t1 (List.map Zs a.edges))])),(.d (D.agg [(zL t2 b.on),(zL t3 b.left)]))]=some (Zo4 r):=
 evT ZwX rfl rfl <| yC ZdV fun x0 _=>
  yBr (Ze _ ZjD fun x1 _=>
  Ze _ Zom fun x2 _=>
  yR)
def ZkX (r:(ZO×Int×Int)):D:=(D.tup [(D.agg [(zL true r.1.crew.on),(zL true r.1.crew.left),(D.list true (List.map Zy r.1.deques)),(D.list true (List.map Zz r.1.takers)),(zL true r.1.from_)]),(Za r.2.1),(Za r.2.2)])
theorem Zgb {t0 t1:Bool}{t2 t3:Bool}{t4 t5:Bool}{t6 t7:Bool}{a:Zoe}{b:Zl}{c:ZO}{d:List Int}:∀r,(ZdX a b c d)=some r→evD ctx 217 [(.d (D.agg [])),(.d (D.agg [(zL t0 b.work),(D.list t1 (List.map Zs b.edges))])),(.d (D.agg [(zL t2 c.crew.on),(zL t3 c.crew.left),(D.list t4 (List.map Zy c.deques)),(D.list t5 (List.map Zz c.takers)),(zL t6 c.from_)])),(.d (zL t7 d))]=some (ZkX r):=
 evT ZuY rfl rfl <| yC Zoc fun x0 _=>
  yR
def ZkO (r:(ZO×(List Int)×Int)):D:=(D.tup [(D.agg [(zL true r.1.crew.on),(zL true r.1.crew.left),(D.list true (List.map Zy r.1.deques)),(D.list true (List.map Zz r.1.takers)),(zL true r.1.from_)]),(zL true r.2.1),(Za r.2.2)])
theorem Zgo {t0 t1:Bool}{t2 t3:Bool}{t4 t5 t6:Bool}{a:Zoe}{b:Zl}{c:ZO}:∀r,(ZdW a b c)=some r→evD ctx 218 [(.d (D.agg [])),(.d (D.agg [(zL t0 b.work),(D.list t1 (List.map Zs b.edges))])),(.d (D.agg [(zL t2 c.crew.on),(zL t3 c.crew.left),(D.list t4 (List.map Zy c.deques)),(D.list t5 (List.map Zz c.takers)),(zL t6 c.from_)]))]=some (ZkO r):=
 evT Zwq rfl rfl <| (by
 conv=>rhs;whnf
 refine Ze _ ZiA fun x0 _=>?_
 rcases x0 with x0 | x0
 exact yR
 exact yR)
def ZoZ (r:(ZbE×Zbd×Int)):D:=(D.tup [(D.agg [(D.bool r.1.stealing),(zL true r.1.demand),(Za r.1.state),(zL true r.1.gang.crew.on),(zL true r.1.gang.crew.left),(D.list true (List.map Zy r.1.gang.deques)),(D.list true (List.map Zz r.1.gang.takers)),(zL true r.1.gang.from_)]),(D.agg [(zL true r.2.1.on),(zL true r.2.1.done),(Za r.2.1.steps)]),(Za r.2.2)])
theorem Zop {t0 t1:Bool}{t2 t3:Bool}{t4 t5:Bool}{t6 t7 t8:Bool}{a:Zl}{b:ZbE}{c:List Int}:∀r,(Zfd a b c)=some r→evD ctx 36 [(.d (D.agg [(zL t0 a.work),(D.list t1 (List.map Zs a.edges))])),(.d (D.agg [(D.bool b.stealing),(zL t2 b.demand),(Za b.state),(zL t3 b.gang.crew.on),(zL t4 b.gang.crew.left),(D.list t5 (List.map Zy b.gang.deques)),(D.list t6 (List.map Zz b.gang.takers)),(zL t7 b.gang.from_)])),(.d (zL t8 c))]=some (ZoZ r):=
 evT ZzB rfl rfl <| yB ((by
 conv=>rhs;whnf
 refine yC Zh2 fun x0 _=>?_
 rcases x0 with x0 | x0
 exact yC ZfE fun x1 _=>
  yBr (Ze _ Zn fun x2 _=>
  yC ZfF fun x3 _=>
  yBr (Ze _ Zn fun x4 _=>
  yC Zb3 fun x5 _=>
  yR))
 exact yC Zgb fun x6 _=>
  yBr (Ze _ Zn fun x7 _=>
  yC Zgo fun x8 _=>
  yBr (Ze _ Zn fun x9 _=>
  yC Zb3 fun x10 _=>
  yR))))
  (by
 conv=>rhs;whnf
 refine yC Zh2 fun x11 _=>?_
 rcases x11 with x11 | x11
 exact yC ZfE fun x12 _=>
  yBr (Ze _ Zn fun x13 _=>
  yC ZfF fun x14 _=>
  yBr (Ze _ Zn fun x15 _=>
  yC Zb3 fun x16 _=>
  yR))
 exact yC Zgb fun x17 _=>
  yBr (Ze _ Zn fun x18 _=>
  yC Zgo fun x19 _=>
  yBr (Ze _ Zn fun x20 _=>
  yC Zb3 fun x21 _=>
  yR)))
def ZoJ (r:Int):D:=(Za r)
def Zho (t0:Bool) (a:Zl):Int→Ex×List V×Zd
  | r=>(.exit 0,[(.d (Za r))],[])
theorem ZkE {t0:Bool}{a:Zl}:∀(s1:Int×Int) (r:Int),lp (Zdn a) s1=some r→lpW ctx 0 [3,10,11,12] [3] ZvQ [(.d (Za s1.1)),(.d (zL t0 a.work)),(.d (Za (a.work.length:Int))),(.d (Za s1.2))] []=some ((Zho t0 a) r):=
 lpT (Zho t0 a) fun s1 _ ih=>yB (yG fun x2 _=>
  Zm (ih _))
  (Zp rfl)
theorem Zot {t0 t1:Bool}{a:Zl}:∀r,(Zec a)=some r→evD ctx 30 [(.d (D.agg [(zL t0 a.work),(D.list t1 (List.map Zs a.edges))]))]=some (ZoJ r):=
 evT ZyM rfl rfl <| yC Zdv fun x0 _=>
  yB (Zh (Zq _ _) (Ze _ (ZkE _) fun r3 _=>
  yR))
  yR
def ZlC (r:Bool):D:=(D.bool r)
theorem ZkM {t0 t1 t2:Bool}{a:Zl}{b:List Int}:∀r,(Zew a b)=some r→evD ctx 19 [(.d (D.agg [(zL t0 a.work),(D.list t1 (List.map Zs a.edges))])),(.d (zL t2 b))]=some (ZlC r):=
 evT Zyy rfl rfl <| yC Zno fun x0 _=>
  yB (Zh (Zq _ _) (yB (Ze _ Zgk fun x1 _=>
  yC Zot fun x2 _=>
  yBr yR)
  yR))
  yR
def Zk9 (r:Bool):D:=(D.bool r)
theorem Zkh {a:Int}:∀r,(Zbf a)=some r→evD ctx 94 [(.d (Za a))]=some (Zk9 r):=
 evT Zzt rfl rfl <| yBr (yBr yR)
def Zcw (r:Int):D:=(Za r)
def Zal (t0:Bool) (a:List Int):(Int⊕Unit)→Ex×List V×Zd
  | (.inl r)=>(.ret,[(.d (Za r))],[])
  | (.inr r)=>(.exit 0,[.bad],[])
theorem ZbQ {t0:Bool}{a:List Int}:∀(s0:Int) (r:(Int⊕Unit)),lp (Zv a (fun z0=>Zbf z0)) s0=some r→lpW ctx 0 [0,1,7,8] [4] Zls [(.d (zL t0 a)),(.d (D.fn 94 [])),(.d (Za (a.length:Int))),(.d (Za s0))] []=some ((Zal t0 a) r):=
 lpT (Zal t0 a) fun s0 _ ih=>yB (yG fun x1 _=>
  yC Zkh fun x2 _=>
  yB (Zp rfl)
  (Zm (ih _)))
  (Zp rfl)
theorem Zcq {t0:Bool}{a:List Int}:∀r,(ZB a (fun z0=>Zbf z0))=some r→evD ctx 99 [(.d (zL t0 a)),(.d (D.fn 94 []))]=some (Zcw r):=
 evT Zr0 rfl rfl <| Zh (Zq _ _) (by
 conv=>rhs;whnf
 refine Ze _ (ZbQ _) fun r3 _=>?_
 rcases r3 with r3 | r3
 exact yR
 exact yR)
def ZbZ (r:Bool):D:=(D.bool r)
theorem ZbR {t0:Bool}{a:List Int}:∀r,(Zw a (fun z0=>Zbf z0))=some r→evD ctx 66 [(.d (zL t0 a)),(.d (D.fn 94 []))]=some (ZbZ r):=
 evT Zum rfl rfl <| yC Zcq fun x0 _=>
  yBr yR
def Zmo (r:(Bool×Int)):D:=(D.tup [(D.bool r.1),(Za r.2)])
theorem ZlH {t0 t1 t2:Bool}{a:Zl}{b:List Int}{c:Int}:∀r,(Ze6 a b c)=some r→evD ctx 59 [(.d (D.agg [(zL t0 a.work),(D.list t1 (List.map Zs a.edges))])),(.d (zL t2 b)),(.d (Za c))]=some (Zmo r):=
 evT ZyI rfl rfl <| yC Zdv fun x0 _=>
  yBr (Zh (Zq _ _) (Zh (Zq _ _) (yB (yC ZbR fun x1 _=>
  yBr (yB (yBr yR)
  yR))
  yR)))
def Zlh (r:Bool):D:=(D.bool r)
theorem Zk2 {t0:Bool}{a:List Int}{b0:Int}:∀r,(ZcC a b0)=some r→evD ctx 83 [(.d (zL t0 a)),(.d (D.rptr [(Za b0)]))]=some (Zlh r):=
 evT ZyN rfl rfl <| Zh (Zq _ _) (yBr yR)
def Zcr (r:Int):D:=(Za r)
def Zah (t0:Bool) (a:(List (List Int))) (b0:Int):(Int⊕Unit)→Ex×List V×Zd
  | (.inl r)=>(.ret,[(.d (Za r))],[])
  | (.inr r)=>(.exit 0,[.bad],[])
theorem ZbJ {t0:Bool}{a:(List (List Int))}{b0:Int}:∀(s0:Int) (r:(Int⊕Unit)),lp (ZbV a (fun z0=>ZcC z0 b0)) s0=some r→lpW ctx 0 [0,1,7,8] [4] Ztv [(.d (D.list t0 (List.map (Zen true) a))),(.d (D.fn 83 [(D.rptr [(Za b0)])])),(.d (Za (a.length:Int))),(.d (Za s0))] []=some ((Zah t0 a b0) r):=
 lpT (Zah t0 a b0) fun s0 _ ih=>yB (yG fun x1 _=>
  yC Zk2 fun x2 _=>
  yB (Zp rfl)
  (Zm (ih _)))
  (Zp rfl)
theorem Zci {t0:Bool}{a:(List (List Int))}{b0:Int}:∀r,(ZaW a (fun z0=>ZcC z0 b0))=some r→evD ctx 108 [(.d (D.list t0 (List.map (Zen true) a))),(.d (D.fn 83 [(D.rptr [(Za b0)])]))]=some (Zcr r):=
 evT ZvA rfl rfl <| Zh (Zq _ _) (by
 conv=>rhs;whnf
 refine Ze _ (ZbJ _) fun r3 _=>?_
 rcases r3 with r3 | r3
 exact yR
 exact yR)
def ZbO (r:Bool):D:=(D.bool r)
theorem ZbD {t0:Bool}{a:(List (List Int))}{b0:Int}:∀r,(Z9 a (fun z0=>ZcC z0 b0))=some r→evD ctx 84 [(.d (D.list t0 (List.map (Zen true) a))),(.d (D.fn 83 [(D.rptr [(Za b0)])]))]=some (ZbO r):=
 evT Zzm rfl rfl <| yC Zci fun x0 _=>
  yBr yR
def Zmm (t0:Bool) (a:List Int):(List Int)→V×Zd
  | r=>((.ptr 0 0),[(.cells [(.d (zL t0 a)),(.sl 1 1),(.sl 2 2),(.sl 3 1)]),(.arr 1 (List.map Za (List.replicate (a.length:Int).toNat (0:Int)))),(.arr 2 (List.map Zdm (List.replicate (a.length:Int).toNat ((Zad.mk 0 0):Zad)))),(.arr 1 (List.map Za r))])
def Zgs (t0:Bool) (a:List Int):(List Int)→Ex×List V×Zd
  | r=>(.exit 0,[(.ptr 0 0)],[(.cells [(.d (zL t0 a)),(.sl 1 1),(.sl 2 2),(.sl 3 1)]),(.arr 1 (List.map Za (List.replicate (a.length:Int).toNat (0:Int)))),(.arr 2 (List.map Zdm (List.replicate (a.length:Int).toNat ((Zad.mk 0 0):Zad)))),(.arr 1 (List.map Za r))])
theorem Zjs {t0:Bool}{a:List Int}:∀(s0:Int×(List Int)) (r:List Int),lp (ZaR a) s0=some r→lpW ctx 0 [3,18,19] [3] ZvS [(.ptr 0 0),(.d (Za (a.length:Int))),(.d (Za s0.1))] [(.cells [(.d (zL t0 a)),(.sl 1 1),(.sl 2 2),(.sl 3 1)]),(.arr 1 (List.map Za (List.replicate (a.length:Int).toNat (0:Int)))),(.arr 2 (List.map Zdm (List.replicate (a.length:Int).toNat ((Zad.mk 0 0):Zad)))),(.arr 1 (List.map Za s0.2))]=some ((Zgs t0 a) r):=
 lpT (Zgs t0 a) fun s0 _ ih=>yB (yG fun x1 hx1=>
  Zr (Zae rfl hx1) (Zh (Zb9 Za s0.2 s0.1.toNat (-1)) (Zm (ih _))))
  (Zp rfl)
theorem ZlP {t0:Bool}{a:List Int}:∀r,(Ze0 a)=some r→evW ctx 85 [(.d (zL t0 a))] []=some ((Zmm t0 a) r):=
 evS ZyF rfl rfl <| Zh (Zq _ _) (yBm (Zh (ZhW Za (0:Int) (a.length:Int)) (Zh (Zq _ _) (yBm (Zh (ZhW Zdm ((Zad.mk 0 0):Zad) (a.length:Int)) (Zh (Zq _ _) (yBm (Zh (ZhW Za (0:Int) (a.length:Int)) (Zh (Zq _ _) (Ze _ (Zjs _) fun r2 _=>
  yR))))))))))
def Zjq (r:Bool):D:=(D.bool r)
theorem Zi8 {t0 t1:Bool}{t2 t3:Bool}{a0:List Int}{a1:List Int}{a2:List Zad}{a3:List Int}{b c:Int}:∀r,(ZgE a3 b c)=some r→evD ctx 91 [(.d (D.rptr [(zL t0 a0),(zL t1 a1),(D.list t2 (List.map Zdm a2)),(zL t3 a3)])),(.d (Za b)),(.d (Za c))]=some (Zjq r):=
 evT Zy3 rfl rfl <| yG fun x0 hx0=>
  yB (Zr (Zd6 rfl hx0) (yBr yR))
  yR
def Zis (r:Bool):D:=(D.bool r)
theorem Zh7 {t0 t1:Bool}{t2 t3:Bool}{a:Zt}{b0:Int}{c0:List Int}{c1:List Int}{c2:List Zad}{c3:List Int}{d0:Int}:∀r,(Zbl a b0 c3 d0)=some r→evD ctx 90 [(.d (D.agg [(Za a.src),(Za a.dst)])),(.d (D.rptr [(Za b0)])),(.d (D.rptr [(D.rptr [(zL t0 c0),(zL t1 c1),(D.list t2 (List.map Zdm c2)),(zL t3 c3)])])),(.d (D.rptr [(Za d0)]))]=some (Zis r):=
 evT Zzw rfl rfl <| yB (yC Zi8 fun x0 _=>
  yBr yR)
  yR
def Zby (r:Int):D:=(Za r)
def Z7 (t0:Bool) (t1:Bool) (t2:Bool) (t3:Bool) (t4:Bool) (a:List Zt) (b0:Int) (b1:List Int) (b2:List Int) (b3:List Zad) (b4:List Int) (b5:Int):(Int⊕Unit)→Ex×List V×Zd
  | (.inl r)=>(.ret,[(.d (Za r))],[])
  | (.inr r)=>(.exit 0,[.bad],[])
theorem Zba {t0 t1:Bool}{t2 t3 t4:Bool}{a:List Zt}{b0:Int}{b1:List Int}{b2:List Int}{b3:List Zad}{b4:List Int}{b5:Int}:∀(s0:Int) (r:(Int⊕Unit)),lp (ZW a (fun z0=>Zbl z0 b0 b4 b5)) s0=some r→lpW ctx 0 [0,1,7,8] [4] Zp2 [(.d (D.list t0 (List.map Zs a))),(.d (D.fn 90 [(D.rptr [(Za b0)]),(D.rptr [(D.rptr [(zL t1 b1),(zL t2 b2),(D.list t3 (List.map Zdm b3)),(zL t4 b4)])]),(D.rptr [(Za b5)])])),(.d (Za (a.length:Int))),(.d (Za s0))] []=some ((Z7 t0 t1 t2 t3 t4 a b0 b1 b2 b3 b4 b5) r):=
 lpT (Z7 t0 t1 t2 t3 t4 a b0 b1 b2 b3 b4 b5) fun s0 _ ih=>yB (yG fun x1 _=>
  yC Zh7 fun x2 _=>
  yB (Zp rfl)
  (Zm (ih _)))
  (Zp rfl)
theorem Zbp {t0 t1:Bool}{t2 t3 t4:Bool}{a:List Zt}{b0:Int}{b1:List Int}{b2:List Int}{b3:List Zad}{b4:List Int}{b5:Int}:∀r,(Zai a (fun z0=>Zbl z0 b0 b4 b5))=some r→evD ctx 109 [(.d (D.list t0 (List.map Zs a))),(.d (D.fn 90 [(D.rptr [(Za b0)]),(D.rptr [(D.rptr [(zL t1 b1),(zL t2 b2),(D.list t3 (List.map Zdm b3)),(zL t4 b4)])]),(D.rptr [(Za b5)])]))]=some (Zby r):=
 evT Ztp rfl rfl <| Zh (Zq _ _) (by
 conv=>rhs;whnf
 refine Ze _ (Zba _) fun r3 _=>?_
 rcases r3 with r3 | r3
 exact yR
 exact yR)
def Zbi (r:Bool):D:=(D.bool r)
theorem Zbb {t0 t1:Bool}{t2 t3 t4:Bool}{a:List Zt}{b0:Int}{b1:List Int}{b2:List Int}{b3:List Zad}{b4:List Int}{b5:Int}:∀r,(ZN a (fun z0=>Zbl z0 b0 b4 b5))=some r→evD ctx 89 [(.d (D.list t0 (List.map Zs a))),(.d (D.fn 90 [(D.rptr [(Za b0)]),(D.rptr [(D.rptr [(zL t1 b1),(zL t2 b2),(D.list t3 (List.map Zdm b3)),(zL t4 b4)])]),(D.rptr [(Za b5)])]))]=some (Zbi r):=
 evT ZxK rfl rfl <| yC Zbp fun x0 _=>
  yBr yR
def Zjx (r:Bool):D:=(D.bool r)
theorem Zfs {t0 t1:Bool}{t2 t3:Bool}{t4 t5:Bool}{a0:List Int}{a1:List Int}{a2:List Zad}{a3:List Int}{b:Zl}{c d:Int}:∀r,(Zep a3 b c d)=some r→evD ctx 56 [(.d (D.rptr [(zL t0 a0),(zL t1 a1),(D.list t2 (List.map Zdm a2)),(zL t3 a3)])),(.d (D.agg [(zL t4 b.work),(D.list t5 (List.map Zs b.edges))])),(.d (Za c)),(.d (Za d))]=some (Zjx r):=
 evT Zy8 rfl rfl <| yC Zbb fun x0 _=>
  yBr yR
def ZjN (r:Int):D:=(Za r)
theorem Zju {t0 t1:Bool}{t2 t3:Bool}{t4 t5 t6:Bool}{a0:List Int}{a1:List Int}{a2:List Zad}{a3:List Int}{b:Zl}{c:List Int}{d e:Int}:∀r,(Zhz a0 a1 a2 a3 b c d e)=some r→evD ctx 86 [(.d (D.rptr [(zL t0 a0),(zL t1 a1),(D.list t2 (List.map Zdm a2)),(zL t3 a3)])),(.d (D.agg [(zL t4 b.work),(D.list t5 (List.map Zs b.edges))])),(.d (zL t6 c)),(.d (Za d)),(.d (Za e))]=some (ZjN r):=
 evT Zzn rfl rfl <| yG fun x0 _=>
  yBr (Zh (Zq _ _) (yBr (yBm (ZaV (ZvV Za c e.toNat) (yT (Zh (Zqz Za c e.toNat) (yC ZT fun x1 _=>
  yBr (yG fun x2 hx2=>
  yG fun x3 _=>
  yBr (Zr (Zd6 rfl hx2) (yB (yG fun x4 _=>
  yBr (Zr (Zd6 rfl hx2) (yB (yC Zfs fun x5 _=>
  yBr yR)
  yR)))
  (Zr (Zd6 rfl hx2) (yB (yC Zfs fun x6 _=>
  yBr yR)
  yR))))))))
  Z5))))
def Zn3 (t0:Bool) (t1:Bool) (b:Int) (c:List Int) (m0_0:List Int) (m1_0:List Int) (m2_0:List Zad) (m3_0:List Int):Unit→V×Zd
  | r=>((.d (D.tup [])),[(.cells [(.d (zL t1 m0_0)),(.sl 1 1),(.sl 2 2),(.sl 3 1)]),(.arr 1 (List.map Za m1_0)),(.arr 2 (List.map Zdm m2_0)),(.arr 1 (List.map Za m3_0))])
theorem Zmq {t0 t1:Bool}{b:Int}{c:List Int}{m0_0:List Int}{m1_0:List Int}{m2_0:List Zad}{m3_0:List Int}:∀r,(ZkU b c)=some r→evW ctx 53 [(.ptr 0 0),(.d (Za b)),(.d (zL t0 c))] [(.cells [(.d (zL t1 m0_0)),(.sl 1 1),(.sl 2 2),(.sl 3 1)]),(.arr 1 (List.map Za m1_0)),(.arr 2 (List.map Zdm m2_0)),(.arr 1 (List.map Za m3_0))]=some ((Zn3 t0 t1 b c m0_0 m1_0 m2_0 m3_0) r):=
 evS ZzM rfl rfl <| yR
def ZjU (t0:Bool) (b:Int) (c:Int) (d:Int) (m0_0:List Int) (m1_0:List Int) (m2_0:List Zad) (m3_0:List Int):((List Int)×(List Int))→V×Zd
  | r=>((.d (D.tup [])),[(.cells [(.d (zL t0 m0_0)),(.sl 1 1),(.sl 2 2),(.sl 3 1)]),(.arr 1 (List.map Za r.1)),(.arr 2 (List.map Zdm (List.set m2_0 b.toNat (Zad.mk c d)))),(.arr 1 (List.map Za r.2))])
theorem Zjo {t0:Bool}{b c d:Int}{m0_0:List Int}{m1_0:List Int}{m2_0:List Zad}{m3_0:List Int}:∀r,(Zg7 b c d m0_0 m1_0 m2_0 m3_0)=some r→evW ctx 87 [(.ptr 0 0),(.d (Za b)),(.d (Za c)),(.d (Za d))] [(.cells [(.d (zL t0 m0_0)),(.sl 1 1),(.sl 2 2),(.sl 3 1)]),(.arr 1 (List.map Za m1_0)),(.arr 2 (List.map Zdm m2_0)),(.arr 1 (List.map Za m3_0))]=some ((ZjU t0 b c d m0_0 m1_0 m2_0 m3_0) r):=
 evS Zzh rfl rfl <| yG fun x0 hx0=>
  Zr (Zae rfl hx0) (Zr (Zd6 rfl hx0) (Zr (Zae rfl hx0) (Zh (Zb9 Za m1_0 b.toNat (w64 (x0+1))) (yG fun x1 hx1=>
  Zr (Zae rfl hx1) (Zh (Zb9 Zdm m2_0 b.toNat (Zad.mk c d)) (yG fun x2 hx2=>
  Zr (Zae rfl hx2) (yG fun x3 _=>
  yB (yG fun x4 hx4=>
  Zr (Zae rfl hx4) (Zh (Zb9 Za m3_0 b.toNat (w64 (c+1))) yR))
  yR)))))))
def Zgc (t0:Bool) (t1:Bool) (t2:Bool) (t3:Bool) (a:Zl) (b:List Int) (c:Int) (d:(List (List Int))):(Int⊕(Int×(List Int)×(List Zad)×(List Int)))→V×Zd
  | (.inl r)=>((.d (D.tup [(D.nilp),(Za r)])),[])
  | (.inr r)=>((.tup [(.ptr 0 0),(.d (Za r.1))]),[(.cells [(.d (zL t2 b)),(.sl 1 1),(.sl 2 2),(.sl 3 1)]),(.arr 1 (List.map Za r.2.1)),(.arr 2 (List.map Zdm r.2.2.1)),(.arr 1 (List.map Za r.2.2.2))])
def ZcS (t0:Bool) (t1:Bool) (t2:Bool) (t3:Bool) (a:Zl) (b:List Int) (d:(List (List Int))) (s3:Int×Int×(List Int)×(List Zad)×(List Int)) (x4:List Int):(Int⊕Int)→Ex×List V×Zd
  | (.inl r)=>(.exit 0,[(.d (D.fn 53 [])),(.ptr 0 0),(.d (Za r)),(.ptr 1 0),(.d (Za s3.2.1)),(.d (zL true x4)),(.d (D.list t3 (List.map (Zen true) d))),(.d (Za (d.length:Int))),(.d (Za s3.2.1))],[(.cells [(.d (zL t0 a.work)),(.d (D.list t1 (List.map Zs a.edges)))]),(.cells [(.d (zL t2 b)),(.sl 2 1),(.sl 3 2),(.sl 4 1)]),(.arr 1 (List.map Za s3.2.2.1)),(.arr 2 (List.map Zdm s3.2.2.2.1)),(.arr 1 (List.map Za s3.2.2.2.2))])
  | (.inr r)=>(.exit 2,[(.d (D.fn 53 [])),(.ptr 0 0),(.d (Za r)),(.ptr 1 0),(.d (Za s3.2.1)),(.d (zL true x4)),(.d (D.list t3 (List.map (Zen true) d))),(.d (Za (d.length:Int))),(.d (Za s3.2.1))],[(.cells [(.d (zL t0 a.work)),(.d (D.list t1 (List.map Zs a.edges)))]),(.cells [(.d (zL t2 b)),(.sl 2 1),(.sl 3 2),(.sl 4 1)]),(.arr 1 (List.map Za s3.2.2.1)),(.arr 2 (List.map Zdm s3.2.2.2.1)),(.arr 1 (List.map Za s3.2.2.2.2))])
theorem ZeO {t0 t1:Bool}{t2 t3:Bool}{a:Zl}{b:List Int}{d:(List (List Int))}{s3:Int×Int×(List Int)×(List Zad)×(List Int)}{x4:List Int}:∀(s5:Int×Int) (r:(Int⊕Int)),lp (Zil a b s3 x4) s5=some r→lpW ctx 0 [4,5,13,15,16,17,47,48,49,54,55,56] [4,5,13,15,16,17,47,48,49] ZvJ [(.d (D.fn 53 [])),(.ptr 0 0),(.d (Za s5.1)),(.ptr 1 0),(.d (Za s3.2.1)),(.d (zL true x4)),(.d (D.list t3 (List.map (Zen true) d))),(.d (Za (d.length:Int))),(.d (Za s3.2.1)),(.d (zL true x4)),(.d (Za (x4.length:Int))),(.d (Za s5.2))] [(.cells [(.d (zL t0 a.work)),(.d (D.list t1 (List.map Zs a.edges)))]),(.cells [(.d (zL t2 b)),(.sl 2 1),(.sl 3 2),(.sl 4 1)]),(.arr 1 (List.map Za s3.2.2.1)),(.arr 2 (List.map Zdm s3.2.2.2.1)),(.arr 1 (List.map Za s3.2.2.2.2))]=some ((ZcS t0 t1 t2 t3 a b d s3 x4) r):=
 lpT (ZcS t0 t1 t2 t3 a b d s3 x4) fun s5 _ ih=>yB (yG fun x6 _=>
  yB (Zm (ih _))
  (yC Zju fun x7 _=>
  yB (Zp rfl)
  (Zm (ih _))))
  (Zp rfl)
def ZcV (t0:Bool) (t1:Bool) (t2:Bool) (t3:Bool) (a:Zl) (b:List Int) (d:(List (List Int))) (s3:Int×Int×(List Int)×(List Zad)×(List Int)) (x4:List Int) (r8:Int):((List Int)×(List Zad)×(List Int))→Ex×List V×Zd
  | r=>(.exit 4,[(.d (D.fn 53 [])),(.ptr 0 0),(.d (Za r8)),(.ptr 1 0),(.d (D.list t3 (List.map (Zen true) d))),(.d (Za (d.length:Int))),(.d (Za s3.2.1))],[(.cells [(.d (zL t0 a.work)),(.d (D.list t1 (List.map Zs a.edges)))]),(.cells [(.d (zL t2 b)),(.sl 2 1),(.sl 3 2),(.sl 4 1)]),(.arr 1 (List.map Za r.1)),(.arr 2 (List.map Zdm r.2.1)),(.arr 1 (List.map Za r.2.2))])
theorem ZeN {t0 t1:Bool}{t2 t3:Bool}{a:Zl}{b:List Int}{d:(List (List Int))}{s3:Int×Int×(List Int)×(List Zad)×(List Int)}{x4:List Int}{r8:Int}:∀(s10:Int×(List Int)×(List Zad)×(List Int)) (r:((List Int)×(List Zad)×(List Int))),lp (Zik b s3 x4) s10=some r→lpW ctx 0 [4,5,13,15,16,47,48,49,77,78,79] [4,5,13,15,47,48,49] Zva [(.d (D.fn 53 [])),(.ptr 0 0),(.d (Za r8)),(.ptr 1 0),(.d (Za s3.2.1)),(.d (D.list t3 (List.map (Zen true) d))),(.d (Za (d.length:Int))),(.d (Za s3.2.1)),(.d (zL true x4)),(.d (Za (x4.length:Int))),(.d (Za s10.1))] [(.cells [(.d (zL t0 a.work)),(.d (D.list t1 (List.map Zs a.edges)))]),(.cells [(.d (zL t2 b)),(.sl 2 1),(.sl 3 2),(.sl 4 1)]),(.arr 1 (List.map Za s10.2.1)),(.arr 2 (List.map Zdm s10.2.2.1)),(.arr 1 (List.map Za s10.2.2.2))]=some ((ZcV t0 t1 t2 t3 a b d s3 x4 r8) r):=
 lpT (ZcV t0 t1 t2 t3 a b d s3 x4 r8) fun s10 _ ih=>yB (yG fun x11 _=>
  yB (Ze _ Zjo fun x12 _=>
  Zm (ih _))
  (Zm (ih _)))
  (Zp rfl)
def ZcT (t0:Bool) (t1:Bool) (t2:Bool) (t3:Bool) (a:Zl) (b:List Int) (d:(List (List Int))):(Int×(List Int)×(List Zad)×(List Int))→Ex×List V×Zd
  | r=>(.exit 0,[(.d (Za r.1)),(.ptr 0 0)],[(.cells [(.d (zL t2 b)),(.sl 1 1),(.sl 2 2),(.sl 3 1)]),(.arr 1 (List.map Za r.2.1)),(.arr 2 (List.map Zdm r.2.2.1)),(.arr 1 (List.map Za r.2.2.2))])
theorem ZeZ {t0 t1:Bool}{t2 t3:Bool}{a:Zl}{b:List Int}{d:(List (List Int))}:∀(s3:Int×Int×(List Int)×(List Zad)×(List Int)) (r:(Int×(List Int)×(List Zad)×(List Int))),lp (Zif a b d) s3=some r→lpW ctx 0 [4,5,13,15,47,48,49] [13,15] ZvK [(.d (D.fn 53 [])),(.ptr 0 0),(.d (Za s3.1)),(.ptr 1 0),(.d (D.list t3 (List.map (Zen true) d))),(.d (Za (d.length:Int))),(.d (Za s3.2.1))] [(.cells [(.d (zL t0 a.work)),(.d (D.list t1 (List.map Zs a.edges)))]),(.cells [(.d (zL t2 b)),(.sl 2 1),(.sl 3 2),(.sl 4 1)]),(.arr 1 (List.map Za s3.2.2.1)),(.arr 2 (List.map Zdm s3.2.2.2.1)),(.arr 1 (List.map Za s3.2.2.2.2))]=some ((ZcT t0 t1 t2 t3 a b d) r):=
 lpT (ZcT t0 t1 t2 t3 a b d) fun s3 _ ih=>yB (yG fun x4 _=>
  Zh (Zq _ _) (by
 conv=>rhs;whnf
 refine Ze _ (ZeO _) fun r8 _=>?_
 rcases r8 with r8 | r8
 exact Zp rfl
 exact Ze _ Zmq fun x9 _=>
  Zh (Zq _ _) (Ze _ (ZeN _) fun r13 _=>
  Zm (ih _))))
  (Zp rfl)
theorem ZfW {t0 t1:Bool}{t2 t3:Bool}{a:Zl}{b:List Int}{c:Int}{d:(List (List Int))}:∀r,(Zic a b c d)=some r→evW ctx 52 [(.d (D.agg [(zL t0 a.work),(D.list t1 (List.map Zs a.edges))])),(.d (zL t2 b)),(.d (Za c)),(.d (D.list t3 (List.map (Zen true) d))),(.d (D.fn 53 []))] []=some ((Zgc t0 t1 t2 t3 a b c d) r):=
 evS ZzF rfl rfl <| yC ZlH fun x0 _=>
  yB (yBr (Zh (Zq _ _) (yBr (yC ZbD fun x1 _=>
  yBr (Ze _ ZlP fun x2 _=>
  Zh (Zq _ _) (Ze _ (ZeZ _) fun r14 _=>
  yR))))))
  (yBr yR)
def ZmB (r:Int):D:=(Za r)
theorem Zlp {t0 t1:Bool}{t2 t3:Bool}{a:Zl}{b:List Int}{c:Int}{d:(List (List Int))}:∀r,(Ze7 a b c d)=some r→evD ctx 28 [(.d (D.agg [(zL t0 a.work),(D.list t1 (List.map Zs a.edges))])),(.d (zL t2 b)),(.d (Za c)),(.d (D.list t3 (List.map (Zen true) d)))]=some (ZmB r):=
 evT ZyV rfl rfl <| (by
 conv=>rhs;whnf
 refine Ze _ ZfW fun x0 _=>?_
 rcases x0 with x0 | x0
 exact yR
 exact yR)
def Zqs (t0:Bool) (t1:Bool) (t2:Bool) (a:Zl) (b:List Int) (c:Int):(Int⊕(List Int))→V×Zd
  | (.inl r)=>((.tup [(.agg [(.nilsl 1),(.nilsl 1)]),(.d (Za r))]),[])
  | (.inr r)=>((.tup [(.agg [(.sl 0 1),(.sl 1 1)]),(.d (Za 0))]),[(.arr 1 (List.map Za r)),(.arr 1 (List.map Za b))])
def Zig (b:List Int) (c:Int):(List Int)→Ex×List V×Zd
  | r=>(.exit 0,[(.ptr 0 0),(.ptr 1 0)],[(.cells [(.sl 2 1),(.sl 3 1)]),(.cells [(.sl 4 1),(.sl 5 1)]),(.arr 1 []),(.arr 1 []),(.arr 1 (List.map Za r)),(.arr 1 (List.map Za b))])
theorem Zlx {b:List Int}{c:Int}:∀(s2:Int×(List Int)) (r:List Int),lp (Zc9 c) s2=some r→lpW ctx 0 [6,9,21,22] [6,9] Ztu [(.ptr 0 0),(.ptr 1 0),(.d (Za c)),(.d (Za s2.1))] [(.cells [(.sl 2 1),(.sl 3 1)]),(.cells [(.sl 4 1),(.sl 5 1)]),(.arr 1 []),(.arr 1 []),(.arr 1 (List.map Za s2.2)),(.arr 1 (List.map Za b))]=some ((Zig b c) r):=
 lpT (Zig b c) fun s2 _ ih=>yB (yT (ZaV (Zex Za s2.2 1) (Zh (Zes Za s2.2 [(-1)]) (Zm (ih _)))
  Z5))
  (Zp rfl)
theorem ZjB {t0 t1 t2:Bool}{a:Zl}{b:List Int}{c:Int}:∀r,(ZeY a b c)=some r→evW ctx 167 [(.d (D.agg [(zL t0 a.work),(D.list t1 (List.map Zs a.edges))])),(.d (zL t2 b)),(.d (Za c))] []=some ((Zqs t0 t1 t2 a b c) r):=
 evS Zu0 rfl rfl <| yC Zlp fun x0 _=>
  yBr (Ze _ Zn fun x1 _=>
  Ze _ (Zlx _) fun r3 _=>
  yR)
def ZoT (r:(Zb×Int)):D:=(D.tup [(D.agg [(zL true r.1.ring),(Za r.1.top),(Za r.1.bottom)]),(Za r.2)])
theorem Zoy {a:Int}:∀r,(ZgM a)=some r→evD ctx 168 [(.d (Za a))]=some (ZoT r):=
 evT ZwR rfl rfl <| (by
 conv=>rhs;whnf
 refine Ze _ ZkL fun x0 _=>?_
 rcases x0 with x0 | x0
 exact yF yR
 exact yT (yBr (yBm (Zh (ZhW Za (0:Int) a) yR))))
def Zo2 (t0:Bool) (t1:Bool) (t2:Bool) (a:Zl) (b:List Int) (c:Int):(Int⊕((List Int)×(List Zb)))→V×Zd
  | (.inl r)=>((.tup [(.agg [(.nilsl 1),(.nilsl 1),(.nilsl 3),(.nilsl 6),(.nilsl 1)]),(.d (Za r))]),[])
  | (.inr r)=>((.tup [(.agg [(.sl 0 1),(.sl 1 1),(.sl 2 3),(.sl 3 6),(.sl 4 1)]),(.d (Za 0))]),[(.arr 1 (List.map Za r.1)),(.arr 1 (List.map Za b)),(.arr 3 (List.map Zy r.2)),(.arr 6 (List.map Zz (List.replicate c.toNat ((Zg.mk false 0 0 0 0 0):Zg)))),(.arr 1 (List.map Za (List.replicate c.toNat (0:Int))))])
def Zht (t0:Bool) (t1:Bool) (a:Zl) (b:List Int) (c:Int) (x0:List Int):(List Zb)→Ex×List V×Zd
  | r=>(.exit 0,[(.d (Za c)),(.ptr 0 0),(.ptr 1 0),(.ptr 2 0),(.ptr 3 0)],[(.cells [(.d (zL t0 a.work)),(.d (D.list t1 (List.map Zs a.edges)))]),(.cells [(.sl 4 1),(.sl 5 1),(.sl 6 3),(.sl 7 6),(.sl 8 1)]),(.cells [(.sl 9 1),(.sl 10 1)]),(.cells [(.sl 9 1),(.sl 10 1),(.sl 11 3),(.sl 12 6),(.sl 13 1),(.d (zL t0 a.work)),(.d (D.list t1 (List.map Zs a.edges))),(.d (Za 0))]),(.arr 1 []),(.arr 1 []),(.arr 3 []),(.arr 6 []),(.arr 1 []),(.arr 1 (List.map Za x0)),(.arr 1 (List.map Za b)),(.arr 3 (List.map Zy r)),(.arr 6 (List.map Zz (List.replicate c.toNat ((Zg.mk false 0 0 0 0 0):Zg)))),(.arr 1 (List.map Za (List.replicate c.toNat (0:Int))))])
theorem Zku {t0 t1:Bool}{a:Zl}{b:List Int}{c:Int}{x0:List Int}:∀(s1:Int×(List Zb)) (r:List Zb),lp (ZcH c) s1=some r→lpW ctx 0 [2,3,6,8,10,35,36] [2,3,6,8,10] ZtG [(.d (Za c)),(.ptr 0 0),(.ptr 1 0),(.ptr 2 0),(.ptr 3 0),(.d (Za c)),(.d (Za s1.1))] [(.cells [(.d (zL t0 a.work)),(.d (D.list t1 (List.map Zs a.edges)))]),(.cells [(.sl 4 1),(.sl 5 1),(.sl 6 3),(.sl 7 6),(.sl 8 1)]),(.cells [(.sl 9 1),(.sl 10 1)]),(.cells [(.sl 9 1),(.sl 10 1),(.sl 11 3),(.sl 12 6),(.sl 13 1),(.d (zL t0 a.work)),(.d (D.list t1 (List.map Zs a.edges))),(.d (Za 0))]),(.arr 1 []),(.arr 1 []),(.arr 3 []),(.arr 6 []),(.arr 1 []),(.arr 1 (List.map Za x0)),(.arr 1 (List.map Za b)),(.arr 3 (List.map Zy s1.2)),(.arr 6 (List.map Zz (List.replicate c.toNat ((Zg.mk false 0 0 0 0 0):Zg)))),(.arr 1 (List.map Za (List.replicate c.toNat (0:Int))))]=some ((Zht t0 t1 a b c x0) r):=
 lpT (Zht t0 t1 a b c x0) fun s1 _ ih=>yB (yC Zoy fun x2 _=>
  yT (ZaV (Zex Zy s1.2 1) (Zh (Zes Zy s1.2 [x2.1]) (Zm (ih _)))
  Z5))
  (Zp rfl)
def Zhq (t0:Bool) (t1:Bool) (a:Zl) (b:List Int) (c:Int) (x0:List Int) (x4:List Int):(List Zb)→Ex×List V×Zd
  | r=>(.exit 2,[(.ptr 0 0),(.ptr 1 0)],[(.cells [(.sl 2 1),(.sl 3 1),(.sl 4 3),(.sl 5 6),(.sl 6 1)]),(.cells [(.sl 7 1),(.sl 8 1),(.sl 9 3),(.sl 10 6),(.sl 11 1),(.d (zL t0 a.work)),(.d (D.list t1 (List.map Zs a.edges))),(.d (Za 0))]),(.arr 1 []),(.arr 1 []),(.arr 3 []),(.arr 6 []),(.arr 1 []),(.arr 1 (List.map Za x0)),(.arr 1 (List.map Za b)),(.arr 3 (List.map Zy r)),(.arr 6 (List.map Zz (List.replicate c.toNat ((Zg.mk false 0 0 0 0 0):Zg)))),(.arr 1 (List.map Za (List.replicate c.toNat (0:Int))))])
theorem Zkr {t0 t1:Bool}{a:Zl}{b:List Int}{c:Int}{x0:List Int}{x4:List Int}:∀(s5:Int×(List Zb)) (r:List Zb),lp (ZcE c x4) s5=some r→lpW ctx 0 [2,6,10,57,58,59] [6,10] Zto [(.d (Za c)),(.ptr 0 0),(.ptr 1 0),(.d (zL true x4)),(.d (Za (x4.length:Int))),(.d (Za s5.1))] [(.cells [(.sl 2 1),(.sl 3 1),(.sl 4 3),(.sl 5 6),(.sl 6 1)]),(.cells [(.sl 7 1),(.sl 8 1),(.sl 9 3),(.sl 10 6),(.sl 11 1),(.d (zL t0 a.work)),(.d (D.list t1 (List.map Zs a.edges))),(.d (Za 0))]),(.arr 1 []),(.arr 1 []),(.arr 3 []),(.arr 6 []),(.arr 1 []),(.arr 1 (List.map Za x0)),(.arr 1 (List.map Za b)),(.arr 3 (List.map Zy s5.2)),(.arr 6 (List.map Zz (List.replicate c.toNat ((Zg.mk false 0 0 0 0 0):Zg)))),(.arr 1 (List.map Za (List.replicate c.toNat (0:Int))))]=some ((Zhq t0 t1 a b c x0 x4) r):=
 lpT (Zhq t0 t1 a b c x0 x4) fun s5 _ ih=>yB (yG fun x6 _=>
  yBn (by
 conv=>rhs;whnf
 refine Ze _ Zfm fun x7 _=>?_
 rcases x7 with x7 | x7
 exact Zm (ih _)
 exact Zm (ih _)))
  (Zp rfl)
theorem Zni {t0 t1 t2:Bool}{a:Zl}{b:List Int}{c:Int}:∀r,(ZgJ a b c)=some r→evW ctx 163 [(.d (D.agg [(zL t0 a.work),(D.list t1 (List.map Zs a.edges))])),(.d (zL t2 b)),(.d (Za c))] []=some ((Zo2 t0 t1 t2 a b c) r):=
 evS Zw1 rfl rfl <| (by
 conv=>rhs;whnf
 refine Ze _ ZjB fun x0 _=>?_
 rcases x0 with x0 | x0
 exact yBm yR
 exact yF (yBm (Zh (ZhW Zz ((Zg.mk false 0 0 0 0 0):Zg) c) (yBm (Zh (ZhW Za (0:Int) c) (Ze _ (Zku _) fun r3 _=>
  yC ZfA fun x4 _=>
  Zh (Zq _ _) (Ze _ (Zkr _) fun r8 _=>
  yR)))))))
def Zjt (r:(ZO×Int)):D:=(D.tup [(D.agg [(zL true r.1.crew.on),(zL true r.1.crew.left),(D.list true (List.map Zy r.1.deques)),(D.list true (List.map Zz r.1.takers)),(zL true r.1.from_)]),(Za r.2)])
theorem Zi6 {t0 t1 t2:Bool}{a:Ziv}{b:Zl}{c:List Int}{d:Int}:∀r,(ZeB a b c d)=some r→evD ctx 159 [(.d (D.agg [])),(.d (D.agg [(zL t0 b.work),(D.list t1 (List.map Zs b.edges))])),(.d (zL t2 c)),(.d (Za d))]=some (Zjt r):=
 evT Zxd rfl rfl <| (by
 conv=>rhs;whnf
 refine Ze _ Zni fun x0 _=>?_
 rcases x0 with x0 | x0
 exact yR
 exact yR)
def ZjY (r:(ZO×Int)):D:=(D.tup [(D.agg [(zL true r.1.crew.on),(zL true r.1.crew.left),(D.list true (List.map Zy r.1.deques)),(D.list true (List.map Zz r.1.takers)),(zL true r.1.from_)]),(Za r.2)])
theorem Zjm {t0 t1 t2:Bool}{a:Zoe}{b:Zl}{c:List Int}{d:Int}:∀r,(ZeP a b c d)=some r→evD ctx 215 [(.d (D.agg [])),(.d (D.agg [(zL t0 b.work),(D.list t1 (List.map Zs b.edges))])),(.d (zL t2 c)),(.d (Za d))]=some (ZjY r):=
 evT ZvU rfl rfl <| (by
 conv=>rhs;whnf
 refine Ze _ ZjB fun x0 _=>?_
 rcases x0 with x0 | x0
 exact yR
 exact yR)
def Zqt (r:(ZbE×Int)):D:=(D.tup [(D.agg [(D.bool r.1.stealing),(zL true r.1.demand),(Za r.1.state),(zL true r.1.gang.crew.on),(zL true r.1.gang.crew.left),(D.list true (List.map Zy r.1.gang.deques)),(D.list true (List.map Zz r.1.gang.takers)),(zL true r.1.gang.from_)]),(Za r.2)])
theorem ZoU {t0 t1 t2:Bool}{a:Zl}{b:List Int}{c:Int}{d:Bool}:∀r,(Zd2 a b c d)=some r→evD ctx 22 [(.d (D.agg [(zL t0 a.work),(D.list t1 (List.map Zs a.edges))])),(.d (zL t2 b)),(.d (Za c)),(.d (D.bool d))]=some (Zqt r):=
 evT Zzb rfl rfl <| yC Zdv fun x0 _=>
  yBr (yC Zmn fun x1 _=>
  yB (yBr (yBr (by
 conv=>rhs;whnf
 refine yC Zh2 fun x2 _=>?_
 rcases x2 with x2 | x2
 exact yC ZiR fun x3 _=>
  yC Zi6 fun x4 _=>
  yBr (Ze _ Zn fun x5 _=>
  yC Zb3 fun x6 _=>
  yR)
 exact yC ZiR fun x7 _=>
  yC Zjm fun x8 _=>
  yBr (Ze _ Zn fun x9 _=>
  yC Zb3 fun x10 _=>
  yR))))
  yR)
def ZpV (r:((List (List Int))×Int×Int)):D:=(D.tup [(D.list true (List.map (Zen true) r.1)),(Za r.2.1),(Za r.2.2)])
def Zih (t0:Bool) (t1:Bool) (t3:Bool) (a:Zl) (e:List Int) (x0:(ZbE×Int)):Int→Ex×List V×Zd
  | r=>(.exit 0,[(.d (zL t3 e)),(.ptr 0 0),(.ptr 1 0),(.d (Za r))],[(.cells [(.d (zL t0 a.work)),(.d (D.list t1 (List.map Zs a.edges)))]),(.cells [(.d (D.bool x0.1.stealing)),(.d (zL true x0.1.demand)),(.d (Za x0.1.state)),(.d (zL true x0.1.gang.crew.on)),(.d (zL true x0.1.gang.crew.left)),(.d (D.list true (List.map Zy x0.1.gang.deques))),(.d (D.list true (List.map Zz x0.1.gang.takers))),(.d (zL true x0.1.gang.from_))])])
theorem Zly {t0 t1 t3:Bool}{a:Zl}{e:List Int}{x0:(ZbE×Int)}:∀(s1:Int×Int) (r:Int),lp (ZdU x0) s1=some r→lpW ctx 0 [4,5,13,15,36,37,38] [4,5,13,15] ZwE [(.d (zL t3 e)),(.ptr 0 0),(.ptr 1 0),(.d (Za s1.1)),(.d (zL true x0.1.gang.crew.left)),(.d (Za (x0.1.gang.crew.left.length:Int))),(.d (Za s1.2))] [(.cells [(.d (zL t0 a.work)),(.d (D.list t1 (List.map Zs a.edges)))]),(.cells [(.d (D.bool x0.1.stealing)),(.d (zL true x0.1.demand)),(.d (Za x0.1.state)),(.d (zL true x0.1.gang.crew.on)),(.d (zL true x0.1.gang.crew.left)),(.d (D.list true (List.map Zy x0.1.gang.deques))),(.d (D.list true (List.map Zz x0.1.gang.takers))),(.d (zL true x0.1.gang.from_))])]=some ((Zih t0 t1 t3 a e x0) r):=
 lpT (Zih t0 t1 t3 a e x0) fun s1 _ ih=>yB (yG fun x2 _=>
  Zm (ih _))
  (Zp rfl)
def Zim (t0:Bool) (t1:Bool) (t3:Bool) (a:Zl):((Int×Bool×(List Int)×Int×(List Int)×(List Int)×(List Zb)×(List Zg)×(List Int)×(List (List Int)))⊕(Bool×(List Int)×Int×(List Int)×(List Int)×(List Zb)×(List Zg)×(List Int)×(List (List Int))))→Ex×List V×Zd
  | (.inl r)=>(.ret,[(.nilsl 1),(.d (Za 0)),(.d (Za r.1)),(.ptr 0 0),(.sl 1 1)],[(.cells [(.d (D.bool r.2.1)),(.d (zL true r.2.2.1)),(.d (Za r.2.2.2.1)),(.d (zL true r.2.2.2.2.1)),(.d (zL true r.2.2.2.2.2.1)),(.d (D.list true (List.map Zy r.2.2.2.2.2.2.1))),(.d (D.list true (List.map Zz r.2.2.2.2.2.2.2.1))),(.d (zL true r.2.2.2.2.2.2.2.2.1))]),(.arr 1 (List.map (Zen true) r.2.2.2.2.2.2.2.2.2))])
  | (.inr r)=>(.exit 2,[.bad,.bad,.bad,(.ptr 0 0),(.sl 1 1)],[(.cells [(.d (D.bool r.1)),(.d (zL true r.2.1)),(.d (Za r.2.2.1)),(.d (zL true r.2.2.2.1)),(.d (zL true r.2.2.2.2.1)),(.d (D.list true (List.map Zy r.2.2.2.2.2.1))),(.d (D.list true (List.map Zz r.2.2.2.2.2.2.1))),(.d (zL true r.2.2.2.2.2.2.2.1))]),(.arr 1 (List.map (Zen true) r.2.2.2.2.2.2.2.2))])
theorem ZlS {t0 t1 t3:Bool}{a:Zl}:∀(s4:(List Int)×Bool×(List Int)×Int×(List Int)×(List Int)×(List Zb)×(List Zg)×(List Int)×(List (List Int))) (r:((Int×Bool×(List Int)×Int×(List Int)×(List Int)×(List Zb)×(List Zg)×(List Int)×(List (List Int)))⊕(Bool×(List Int)×Int×(List Int)×(List Int)×(List Zb)×(List Zg)×(List Int)×(List (List Int))))),lp (Zde a) s4=some r→lpW ctx 0 [4,5,13,18] [10,11,12,13,18] Zwt [(.d (zL t3 s4.1)),(.ptr 0 0),(.ptr 1 0),(.sl 2 1)] [(.cells [(.d (zL t0 a.work)),(.d (D.list t1 (List.map Zs a.edges)))]),(.cells [(.d (D.bool s4.2.1)),(.d (zL true s4.2.2.1)),(.d (Za s4.2.2.2.1)),(.d (zL true s4.2.2.2.2.1)),(.d (zL true s4.2.2.2.2.2.1)),(.d (D.list true (List.map Zy s4.2.2.2.2.2.2.1))),(.d (D.list true (List.map Zz s4.2.2.2.2.2.2.2.1))),(.d (zL true s4.2.2.2.2.2.2.2.2.1))]),(.arr 1 (List.map (Zen true) s4.2.2.2.2.2.2.2.2.2))]=some ((Zim t0 t1 t3 a) r):=
 lpT (Zim t0 t1 t3 a) fun s4 _ ih=>yB (yC Zop fun x5 _=>
  yB (Zp rfl)
  (Zh (Zq _ _) (yBm (ZaV (ZqM Za s4.1 (bif decide ((s4.1.length:Int)<x5.2.1.steps) then (s4.1.length:Int) else x5.2.1.steps).toNat) (ZkR (Zvj Za (fun _=>⟨rfl,rfl⟩) s4.1 _) (Zh (Zn9 Za s4.1 (bif decide ((s4.1.length:Int)<x5.2.1.steps) then (s4.1.length:Int) else x5.2.1.steps).toNat) (yT (ZaV (Zex (Zen true) s4.2.2.2.2.2.2.2.2.2 1) (Zh (Zes (Zen true) s4.2.2.2.2.2.2.2.2.2 [x5.2.1.on]) (Zm (ih _)))
  Z5))))
  Z5))))
  (Zp rfl)
theorem ZjG {t0 t1:Bool}{t2 t3:Bool}{a:Zl}{b:List Int}{c:Int}{d:Bool}{e:List Int}:∀r,(Zd4 a b c d e)=some r→evD ctx 20 [(.d (D.agg [(zL t0 a.work),(D.list t1 (List.map Zs a.edges))])),(.d (zL t2 b)),(.d (Za c)),(.d (D.bool d)),(.d (zL t3 e))]=some (ZpV r):=
 evT Zy2 rfl rfl <| yC ZoU fun x0 _=>
  yBr (Zh (Zq _ _) (Ze _ (Zly _) fun r3 _=>
  yBr (by
 conv=>rhs;whnf
 refine Ze _ (ZlS _) fun r6 _=>?_
 rcases r6 with r6 | r6
 exact yR
 exact yR)))
def Zkc (r:Bool):D:=(D.bool r)
def ZeK (t0:Bool) (t1:Bool) (t2:Bool) (a:Zl) (b:List Int) (x5:((List (List Int))×Int×Int)) (x9:((List (List Int))×Int×Int)):Int→Ex×List V×Zd
  | r=>(.exit 0,[(.d (Za x5.2.1)),(.d (Za x9.2.1)),(.d (Za x9.2.2)),(.d (Za r))],[])
theorem ZhJ {t0 t1 t2:Bool}{a:Zl}{b:List Int}{x5:((List (List Int))×Int×Int)}{x9:((List (List Int))×Int×Int)}:∀(s10:Int×Int) (r:Int),lp (ZaH a b) s10=some r→lpW ctx 0 [1,4,10,13,14,15,16] [10,13,14,15] Zyh [(.d (zL t2 b)),(.ptr 0 0),(.d (Za x5.2.1)),(.d (Za x9.2.1)),(.d (Za x9.2.2)),(.d (Za s10.1)),(.d (Za s10.2))] [(.cells [(.d (zL t0 a.work)),(.d (D.list t1 (List.map Zs a.edges)))])]=some ((ZeK t0 t1 t2 a b x5 x9) r):=
 lpT (ZeK t0 t1 t2 a b x5 x9) fun s10 _ ih=>Zh (Zq _ _) (yB (yG fun x11 _=>
  yG fun x12 _=>
  yB (Zm (ih _))
  (Zm (ih _)))
  (Zp rfl))
theorem Zjw {t0 t1:Bool}{t2 t3:Bool}{a:Zl}{b:List Int}{c:Int}{d:List Int}:∀r,(ZeX a b c d)=some r→evD ctx 5 [(.d (D.agg [(zL t0 a.work),(D.list t1 (List.map Zs a.edges))])),(.d (zL t2 b)),(.d (Za c)),(.d (zL t3 d))]=some (Zkc r):=
 evT fn5 rfl rfl <| yC ZdI fun x0 _=>
  yB (yC ZkM fun x1 _=>
  yB (Zh (Zq _ _) (yB (yC ZdI fun x2 _=>
  yBr yR)
  (Ze _ Zgk fun x3 _=>
  Ze _ Zfx fun x4 _=>
  yC ZjG fun x5 _=>
  Ze _ Zgk fun x6 _=>
  Ze _ Zfx fun x7 _=>
  Ze _ Zfx fun x8 _=>
  yC ZjG fun x9 _=>
  yB (yB (yB (yBr yR)
  yR)
  yR)
  (Ze _ (ZhJ _) fun r13 _=>
  yB (yB (yBr yR)
  yR)
  yR))))
  (yC ZdI fun x14 _=>
  yBr yR))
  (yC ZdI fun x15 _=>
  yBr yR)
end Go.Proofs.YtgcfmiajkbbmeaaGreat
namespace Go.Proofs.YtgcfmiajkbbmeaaGreat
open Go Go.Proofs.YtgcfmiajkbbmeaaGreatE
open Go.IntKind (u64 i64 u32 i32 u8)
abbrev Zv4:List Lf×Bool:=([.int .i64],false)
abbrev ZjH:List Lf×Bool:=([.sl false [.int .i64]],false)
abbrev ZrA:List Lf×Bool:=([.sl false [.int .i64],.sl true [.int .i64,.int .i64]],true)
theorem Zsn (g:Zl) (dem:List Int) (hd:dem.length=g.work.length) (h:dem.length≤70):lp (ZaH g dem) (2,0)=some (bif Zin g dem dem.length then 3 else 2):=by
 have key:∀(k i:Nat),i+k=dem.length→lp (ZaH g dem) ((bif Zin g dem i then 3 else 2),(i:Int))=some (bif Zin g dem dem.length then 3 else 2):=by
  intro k
  induction k with
  | zero=>
   intro i hi
   have e:i=dem.length:=by omega
   subst e
   rw[Za7]
   simp only[ZaH,Zeg,cond_false]
  | succ k ih=>
   intro i hi
   have hlt:i<dem.length:=by omega
   have e2:ZK dem (i:Int)=some (lf dem (i:Int)):=Zoh ⟨by omega,by simpa using hlt⟩
   have e3:ZK g.work (i:Int)=some (lf g.work (i:Int)):=Zoh ⟨by omega,by simp;omega⟩
   have hs:Zin g dem (i+1)=(Zin g dem i || decide (lf g.work (i:Int)<lf dem (i:Int))):=Zf6 i _
   have hn:=ih (i+1) (by omega)
   rw[hs] at hn
   rw[Za7]
   simp only[ZaH,Zd5 hlt,cond_true,e2,e3,Option.bind_some,Z0 hlt (show dem.length<9223372036854775808 by omega)]
   cases hq:decide (lf g.work (i:Int)<lf dem (i:Int)) with
   | true=>rw[hq,Bool.or_true,cond_true] at hn;simp only[cond_true];exact hn
   | false=>rw[hq,Bool.or_false] at hn;simp only[cond_false];exact hn
 exact key dem.length 0 (by omega)
theorem Zqi (g:Zl) (dem:List Int) (c:Int) (picks:List Int):ZeX g dem c picks=some true:=by
 unfold ZeX
 simp only[Zdd,Option.bind_some,cond_true]
 obtain⟨b,hb,hb2⟩:=Zqw g dem
 rw[hb,Option.bind_some]
 cases b with
 | false=>rfl
 | true=>
 obtain⟨hf,hl,hsum⟩:=hb2 rfl
 obtain⟨hw,he,hsh⟩:=ZqF hf
 rw[cond_true]
 by_cases hp:600<(picks.length:Int)
 ·rw[decide_eq_true hp];rfl
 rw[decide_eq_false hp,cond_false]
 simp only[ZuR hf,Zm2 (show dem.length≤100000 by omega),Zm2 (show picks.length≤100000 by omega),Option.bind_some]
 by_cases h1:Ziw g dem c=0
 ·have hin:=Zrv.1 h1
  have hns:=Zvs hin.dl
  have hs:=hsum hin.ck
  obtain⟨t1,l1,o1,e1,R1⟩:=Zps (picks:=[]) hin (by omega) (by simp) false
  obtain⟨t2,l2,o2,e2,R2⟩:=Zps (picks:=picks) hin (by omega) (by omega) true
  rw[R1.state hin] at e1
  rw[R2.state hin] at e2
  rw[e1,Option.bind_some,e2,Option.bind_some]
  simp only[ZsI,cond_false]
  rw[Zsn g dem hin.dl hl,Option.bind_some]
  cases Zin g dem dem.length<;>rfl
 ·rw[Zk3 hsh hl h1,Option.bind_some,Zk3 hsh hl h1,Option.bind_some]
  simp only[show(Ziw g dem c != 0)=true from bne_iff_ne.2 h1,cond_true,beq_self_eq_true]
theorem Zrq (xs:List D) (h:Zd8 ZrA.1 xs) (ys:List D) (k:Zd8 ZjH.1 ys) (zs:List D) (m:Zd8 Zv4.1 zs) (vs:List D) (n:Zd8 ZjH.1 vs) :
  ∃H',evW ctx 5 (ZaQ [Zj0 ZrA.2 xs,Zj0 ZjH.2 ys,Zj0 Zv4.2 zs,Zj0 ZjH.2 vs]) []=some (.d (.bool true),H'):=by
 obtain⟨d0,e0,_⟩:=ZuK h
 obtain⟨d1,e1,_⟩:=ZnI k
 obtain⟨d2,e2,_⟩:=Zzd m
 obtain⟨d3,e3,_⟩:=ZnI n
 show ∃H',evW ctx 5 [.d (D.agg xs),.d (Zj0 false ys),.d (Zj0 false zs),.d (Zj0 false vs)] []=_
 rw[e0,e1,e2,e3]
 exact Zw9 (Zjw true (Zqi d0 d1 d2 d3))
open Go Go.Proofs Go.Proofs.YtgcfmiajkbbmeaaGreatE
theorem Zxq:((begin Tryz.prog (fun _ _=>0) default).world.heap[1]?).bind Obj.row? = some (Array.replicate 64 (.int .u8 0),226):=by kernel_rfl
theorem ZtS:Tryz.prog.cellTypes Tryz.prog.depth 226=some (List.replicate 64 5):=by kernel_rfl
def Znk (cs:Array Value) (i:Nat):Int:=match cs[i]? with | some (.int _ m)=>m | _=>0
def Zlr (cs:Array Value):List (IntKind×Int):=(List.range 64).map fun i=>(.u8,Znk cs i)
theorem ZsE {W:World} (h:W.ShapedOpen Tryz.prog):∃G:Zk,Znq G∧GOK G R0 W:=by
 obtain⟨cs,h1,h2,h3⟩:=h.1 1 _ 226 (of_decide_eq_true (by kernel_rfl)) Zxq
 obtain⟨ts,t1,_,t2⟩:=h3 (by kernel_rfl)
 rw[ZtS] at t1
 have hts:ts=List.replicate 64 5:=(Option.some.inj t1).symm
 subst hts
 have hsz:cs.size=64:=by rw[h2];simp
 have cell:∀i,i<64→cs[i]? = some (.int .u8 (Znk cs i)):=fun i hi=>by
  have hi2:i<cs.size:=by omega
  obtain⟨u,hu,hok⟩:=t2 i cs[i] (by simp[hi2])
  have hu5:u=5:=(List.mem_replicate.1 (List.mem_of_getElem? hu)).2
  subst hu5
  unfold Cell.ok at hok
  rw[Tryz.underlying5] at hok
  have hg:cs[i]? = some cs[i]:=by simp[hi2]
  unfold Znk
  rw[hg]
  cases hv:cs[i]<;>rw[hv] at hok<;>simp at hok
  case int k n=>rw[hok.1]
 refine⟨fun g=>if g=1 then some (Zlr cs) else none,⟨Zlr cs,by simp,by simp[Zlr],fun x hx=>?_⟩,fun g l hg=>?_⟩
 ·obtain⟨i,_,rfl⟩:=List.mem_map.1 hx
  rfl
 ·by_cases hg1:g=1
  ·subst hg1
   simp only[if_true] at hg
   cases hg
   refine Zy0 ⟨1,0,rfl,trivial,(Array.getElem?_eq_some_iff.1 h1).1,Zfu _ _ fun j x hj=>?_⟩
   rw[ZsO,List.getElem?_map] at hj
   have hj64:j<64:=by
    refine Classical.byContradiction fun hn=>?_
    rw[List.getElem?_eq_none (by simp[Zlr];omega)] at hj
    cases hj
   have hr:(Zlr cs)[j]? = some (.u8,Znk cs j):=by simp[Zlr,hj64]
   rw[hr] at hj
   cases hj
   refine⟨.int .u8 (Znk cs j),?_,rfl⟩
   simp only[World.cell?,h1,Nat.zero_add]
   simpa using cell j hj64
  ·dsimp only at hg
   rw[if_neg hg1] at hg
   cases hg
end Go.Proofs.YtgcfmiajkbbmeaaGreat
namespace Go.Proofs.YtgcfmiajkbbmeaaGreat.LawTeamEnds
open Go.ChangeShapes Go.WideShapes Go.ChangeAt Go.RowKit Go.Proofs.YtgcfmiajkbbmeaaGreatE
theorem own:ownKnob Tryz.prog.godebug=none:=by kernel_rfl
theorem ZmW:laidOutB Tryz.prog=true:=by kernel_rfl
theorem Zzk (os:Os) (started:os.Started) (H:Type) (enc:TypeId×Value→H) :
  ReturnsInHanded {} Tryz.checked os 5 .any (Rows.teamEndsSpec.pre6 enc Tryz.prog Tryz.f5 Rows.teamEndsRow.domain false) (Rows.teamEndsSpec.post enc Tryz.prog Tryz.f5 false true false false):=by
 refine returnsInHanded_of_change_shaped (C:=Tryz.checked) own started (by kernel_rfl) Tryz.func5
  (ChangeSpec.witness6 (enc:=enc) (C:=Tryz.checked) false ⟨#[],#[.agg #[.slice none 0 0,.slice none 0 0],.slice none 0 0,.int .i64 0,.slice none 0 0],[]⟩ 8 (by kernel_rfl) (by kernel_rfl) (by kernel_rfl) (by kernel_rfl)) ?_
 intro W base args ds gs before hval0 hW _ _ hSh _
 obtain⟨G,hG,hgt⟩:=ZsE hSh
 have hval:∀(j:Nat) t v,Tryz.f5.params[j]? = some t→args[j]? = some v→Value.okWide Tryz.prog W .any base t v:=hval0
 have hW':=hW
 obtain⟨p,q,hA0,hV,rfl,hfz,hnd⟩:=hW
 have hA:DataW.TrodAll enc Tryz.prog W 0 (fun _=>true) true Tryz.f5.params.toList args.toList ds p:=hA0
 rw[Tryz.params5] at hA hval
 obtain⟨v0,vs0,d0,ds0,p0,q0,hargs,rfl,rfl,h0,r0⟩:=trodAll_cons hA
 obtain⟨v1,vs1,d1,ds1,p1,q1,rfl,rfl,rfl,h1,r1⟩:=trodAll_cons r0
 obtain⟨v2,vs2,d2,ds2,p2,q2,rfl,rfl,rfl,h2,r2⟩:=trodAll_cons r1
 obtain⟨v3,vs3,d3,ds3,p3,q3,rfl,rfl,rfl,h3,r3⟩:=trodAll_cons r2
 obtain⟨rfl,rfl,rfl⟩:=trodAll_nil r3
 obtain rfl:args = #[v0,v1,v2,v3]:=by cases args;simp_all
 obtain⟨rfl,rfl⟩:=trodVars_none hV
 have lt0:∀x∈p0,x.block<W.heap.size:=by obtain⟨m,hm⟩:=h0;exact DataW.trod_lt m _ _ _ hm
 obtain⟨x0,ok0,den0⟩:=Zp7 (P:=Tryz.prog) (n:=8) (t:=25) (l:=ZrA.1) (ag:=ZrA.2) (by kernel_rfl) (hval 0 25 v0 rfl rfl) h0
 have lt1:∀x∈p1,x.block<W.heap.size:=by obtain⟨m,hm⟩:=h1;exact DataW.trod_lt m _ _ _ hm
 obtain⟨x1,ok1,den1⟩:=Zp7 (P:=Tryz.prog) (n:=8) (t:=22) (l:=ZjH.1) (ag:=ZjH.2) (by kernel_rfl) (hval 1 22 v1 rfl rfl) h1
 have lt2:∀x∈p2,x.block<W.heap.size:=by obtain⟨m,hm⟩:=h2;exact DataW.trod_lt m _ _ _ hm
 obtain⟨x2,ok2,den2⟩:=Zp7 (P:=Tryz.prog) (n:=8) (t:=3) (l:=Zv4.1) (ag:=Zv4.2) (by kernel_rfl) (hval 2 3 v2 rfl rfl) h2
 have lt3:∀x∈p3,x.block<W.heap.size:=by obtain⟨m,hm⟩:=h3;exact DataW.trod_lt m _ _ _ hm
 obtain⟨x3,ok3,den3⟩:=Zp7 (P:=Tryz.prog) (n:=8) (t:=22) (l:=ZjH.1) (ag:=ZjH.2) (by kernel_rfl) (hval 3 22 v3 rfl rfl) h3
 obtain⟨H1,ev⟩:=Zrq x0 ok0 x1 ok1 x2 ok2 x3 ok3
 have den:ZX All All All W [Zj0 ZrA.2 x0,Zj0 ZjH.2 x1,Zj0 Zv4.2 x2,Zj0 ZjH.2 x3] [v0,v1,v2,v3]:=⟨_,_,rfl,den0,⟨_,_,rfl,den1,⟨_,_,rfl,den2,⟨_,_,rfl,den3,rfl⟩⟩⟩⟩
 refine(ZuE (ZBl G hG) hgt den ev).mono fun e W' ⟨he,bel⟩=>?_
 subst he
 exact⟨_,rfl,_,_,_,[],_,[],hW',trodAll_mk1 (shut_bool Tryz.underlying4 _),(trodAll_cons_mk (Below.trod ZmW (by kernel_rfl) (of_decide_eq_true (by kernel_rfl)) h0 bel lt0) (trodAll_cons_mk (Below.trod ZmW (by kernel_rfl) (of_decide_eq_true (by kernel_rfl)) h1 bel lt1) (trodAll_cons_mk (Below.trod ZmW (by kernel_rfl) (of_decide_eq_true (by kernel_rfl)) h2 bel lt2) (trodAll_cons_mk (Below.trod ZmW (by kernel_rfl) (of_decide_eq_true (by kernel_rfl)) h3 bel lt3) trodAll_mk0)))),rfl,bel.frame _,fun h=>by cases h⟩
theorem over:Rows.teamEndsRow.holds Tryz.pinned (OpenSpec.ofChange Rows.teamEndsSpec):=
 OpenClaim.holds_of_wide 5 Tryz.f5 rfl rfl rfl rfl rfl rfl rfl ⟨rfl,rfl,rfl,rfl,rfl⟩ rfl rfl rfl rfl rfl (by kernel_rfl) Tryz.func5 (by kernel_rfl)
  (of_decide_eq_true (by kernel_rfl)) (by unfold Func.isWrapper;first | (rw[if_pos (by decide +kernel)];kernel_rfl) | (rw[if_neg (by decide +kernel)];exact⟨rfl,rfl⟩))
  (fun os started H enc _=>Zzk os started H enc)
theorem proved:Rows.TeamEndsSaid:=over
end Go.Proofs.YtgcfmiajkbbmeaaGreat.LawTeamEnds
namespace Go.Proofs.YtgcfmiajkbbmeaaGreat
theorem teamEnds_holds:Rows.TeamEndsSaid:=LawTeamEnds.proved
#print axioms teamEnds_holds
end Go.Proofs.YtgcfmiajkbbmeaaGreat
