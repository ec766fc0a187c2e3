/- TeamOne: part 5 of 5 of the proof: the row and the card of the law, out of what the evaluator says of it; without conditions. -/
import Derived.Test.YtgcfmiajkbbmeaaGreatZTeamOned
import Derived.KernelRfl
import Derived.HandedShaped
import Derived.Test.YtgcfmiajkbbmeaaGreatRows
import Derived.WalkKit
import Derived.ProofKit
import Derived.OpenShut
import Derived.ShutString
import Derived.ChangeOld
import Derived.Below
import Derived.SizedLaws
import Derived.Handed
import Derived.LaidMore
import Derived.Stop.Joined
import Derived.ChangeShapes
import Derived.Carry
set_option maxRecDepth 100000
set_option maxHeartbeats 40000000
set_option linter.unusedVariables false
set_option linter.unusedSimpArgs false
namespace Go.Proofs.YtgcfmiajkbbmeaaGreat
open Go Go.Proofs.YtgcfmiajkbbmeaaGreatE
open Go.IntKind (u64 i64 u32 i32 u8)
section
variable {α β:Type} {A B:Option α} {Q:α→Option β→Prop}
theorem yB {c:Bool}{X Y:Option β} (h1:ZbB A Q X) (h2:ZbB B Q Y):ZbB (bif c then A else B) Q (br c X Y):=ZaX rfl h1 h2
theorem yBn {c:Bool}{X Y:Option β} (h2:ZbB B Q Y):ZbB (bif c then none else B) Q (br c X Y):=ZaX rfl Z5 h2
theorem yBm {c:Bool}{X Y:Option β} (h1:ZbB A Q X):ZbB (bif c then A else none) Q (br c X Y):=ZaX rfl h1 Z5
theorem yT {X Y:Option β} (h1:ZbB A Q X):ZbB A Q (br true X Y):=Zk1 rfl h1
theorem yF {X Y:Option β} (h1:ZbB A Q Y):ZbB A Q (br false X Y):=ZBg rfl h1
theorem yG {γ:Type}{f:γ→D}{l:List γ}{i:Int}{A:γ→Option α}{K:D→Option β} (k:∀r,ZK l i=some r→ZbB (A r) Q (K (f r))):ZbB ((ZK l i).bind A) Q (bnd (ZK (l.map f) i) K):=ZxE rfl rfl k
theorem yC {γ:Type}{Γ:Ctx}{f:Nat}{args:List V}{E:Option γ}{A:γ→Option α}{K:V→Option β}{enc:γ→D} (w:∀r,E=some r→evD Γ f args=some (enc r)) (k:∀r,E=some r→ZbB (A r) Q (Zt4 (enc r) K)):ZbB (E.bind A) Q (bnd (evW Γ f args []) (Zmb K)):=ZwB enc w rfl k
theorem Zw0 {γ:Type}{x:γ}{A:γ→Option α}{X:Option β} (k:ZbB (A x) Q X):ZbB ((some x).bind A) Q X:=k
theorem yR {a:α}{f:α→Option β}:ZbB (some a) (fun r rhs=>rhs=f r) (f a):=Zp rfl
theorem yBr {a:α}{c:Bool}{f:α→Option β}{Y:Option β} (h2:ZbB B (fun r rhs=>rhs=f r) Y):ZbB (bif c then some a else B) (fun r rhs=>rhs=f r) (br c (f a) Y):=yB yR h2
theorem evT {Γ : Ctx} {f : Nat} (fn : FnI) {args : List V} {E : Option α} {enc : α → D} (hc : Γ.code f = some fn) (hn : Nat.beq args.length fn.nargs = true) (h : ZbB E (fun r rhs => rhs = some (enc r)) (Zfy Γ 0 fn.body (Zbf 0 args) [] fun x e H1 => (match x with
      | .exit _=>none
      | _=>(match Zhp e H1 fn.res with
        | some l=>Zda 0 [Zea l] H1 fun _ vs H2=>(match vs with | [v]=>(match fr H2 6 v with | some (x,_)=>some x | none=>none) | _=>none)
        | none=>none)))):∀r,E=some r→evD Γ f args=some (enc r):=by rw[ZA1 Γ f fn args hc hn];exact h
theorem evS {Γ : Ctx} {f : Nat} (fn : FnI) {args : List V} {H : Zd} {E : Option α} {enc : α → V × Zd} (hc : Γ.code f = some fn) (hn : Nat.beq args.length fn.nargs = true) (h : ZbB E (fun r rhs => rhs = some (enc r)) (Zfy Γ H.length fn.body (Zbf 0 args) H fun x e H1 => (match x with
      | .exit _=>none
      | _=>(match Zhp e H1 fn.res with
        | some l=>Zda H.length [Zea l] H1 fun _ vs H2=>(match vs with | [v]=>some (v,H2) | _=>none)
        | none=>none)))):∀r,E=some r→evW Γ f args H=some (enc r):=by rw[ZyG Γ f fn args H hc hn];exact h
theorem lpT {S R:Type}{step:S→Option (S⊕R)}{Γ:Ctx}{k:Nat}{live outs:List Nat}{b:C}{vs:S→List V}{H:S→Zd} (x:R→Ex×List V×Zd)
    (h:∀(s:S) (rec:S→Option R),(∀s r,rec s=some r→lpW Γ k live outs b (vs s) (H s)=some (x r))→ZbB (step s) (fun t rhs=>(match t with | .inl s'=>∀r,rec s'=some r→rhs=some (x r) | .inr r=>rhs=some (x r))) (Zfy Γ k b (ZbU live (vs s)) (H s) fun x e H=>(match x with
      | .normal=>Zmg k (live.map e) H fun vs H=>bnd (lpW Γ k live outs b vs H) some
      | x=>Zda k (outs.map e) H fun _ vs H=>some (x,vs,H)))):∀s r,lp step s=some r→lpW Γ k live outs b (vs s) (H s)=some (x r):=
  ZAK (G:=fun s=>lpW Γ k live outs b (vs s) (H s)) x fun s rec ih=>by rw[ZBi];exact h s rec ih
end
theorem ZdN:∀r,Zdj=some r→evD ctx 9 []=some (D.bool r):=fun r h=>by
  cases h
  exact ZzL 100 (by kernel_rfl)
def Zpf (r:Bool):D:=(D.bool r)
theorem Znw {t0 t1:Bool}{a:Zm}:∀r,(ZgH a)=some r→evD ctx 34 [(.d (D.agg [(zL t0 a.work),(D.list t1 (List.map Zs a.edges))]))]=some (Zpf r):=
 evT Zzb rfl rfl <| Ze (Zq _ _) (yB (Ze (Zq _ _) (yBr yR))
  yR)
def Zo8 (t0:Bool) (t1:Bool) (a:Zm):Unit→V×Zd
  | r=>((.agg [(.sl 0 1),(.sl 1 2)]),[(.arr 1 (List.map Za a.work)),(.arr 2 (List.map Zs a.edges))])
theorem Zgr {t0 t1:Bool}{a:Zm}:∀r,(Zeh a)=some r→evW ctx 12 [(.d (D.agg [(zL t0 a.work),(D.list t1 (List.map Zs a.edges))]))] []=some ((Zo8 t0 t1 a) r):=
 evS Zzg rfl rfl <| Zk1 (Zgw (f:=Za) (fun _=>⟨rfl,rfl⟩) a.work 0) (ZaX (ZhM Za a.work) (Ze (rfl:_=List.map Za a.work) (Zk1 (Zgw (f:=Zs) (fun _=>⟨rfl,rfl⟩) a.edges 0) (ZaX (ZhM Zs a.edges) (Ze (rfl:_=List.map Zs a.edges) yR)
  Z5)))
  Z5)
def Znk (t0:Bool) (a:List Int):Unit→V×Zd
  | r=>((.sl 0 1),[(.arr 1 (List.map Za a))])
theorem ZfC {t0:Bool}{a:List Int}:∀r,(ZdF a)=some r→evW ctx 14 [(.d (zL t0 a))] []=some ((Znk t0 a) r):=
 evS Zz1 rfl rfl <| Zk1 (Zgw (f:=Za) (fun _=>⟨rfl,rfl⟩) a 0) (ZaX (ZhM Za a) (Ze (rfl:_=List.map Za a) yR)
  Z5)
def ZmH (r:Bool):D:=(D.bool r)
theorem ZlI {a:Int}:∀r,(Zby a)=some r→evD ctx 67 [(.d (Za a))]=some (ZmH r):=
 evT Zze rfl rfl <| yBr (yBr yR)
def ZcV (r:Int):D:=(Za r)
def Zas (t0:Bool) (a:List Int):(Int⊕Unit)→Ex×List V×Zd
  | (.inl r)=>(.ret,[(.d (Za r))],[])
  | (.inr r)=>(.exit 0,[.bad],[])
theorem Zcb {t0:Bool}{a:List Int}:∀(s0:Int) (r:(Int⊕Unit)),lp (Zv a (fun z0=>Zby z0)) s0=some r→lpW ctx 0 [0,1,7,8] [4] ZlB [(.d (zL t0 a)),(.d (D.fn 67 [])),(.d (Za (a.length:Int))),(.d (Za s0))] []=some ((Zas t0 a) r):=
 lpT (Zas t0 a) fun s0 _ ih=>yB (yG fun x1 _=>
  yC ZlI fun x2 _=>
  yB (Zp rfl)
  (Zl (ih _)))
  (Zp rfl)
theorem ZcP {t0:Bool}{a:List Int}:∀r,(ZB a (fun z0=>Zby z0))=some r→evD ctx 99 [(.d (zL t0 a)),(.d (D.fn 67 []))]=some (ZcV r):=
 evT Zsf rfl rfl <| Ze (Zq _ _) (by
 conv=>rhs;whnf
 refine Zf _ (Zcb _) fun r3 _=>?_
 rcases r3 with r3 | r3
 exact yR
 exact yR)
def Zcs (r:Bool):D:=(D.bool r)
theorem Zce {t0:Bool}{a:List Int}:∀r,(Zw a (fun z0=>Zby z0))=some r→evD ctx 66 [(.d (zL t0 a)),(.d (D.fn 67 []))]=some (Zcs r):=
 evT ZuD rfl rfl <| yC ZcP fun x0 _=>
  yBr yR
def ZmN (r:Bool):D:=(D.bool r)
theorem Zhn {t0 t1:Bool}{a:Int}{b0:List Int}{b1:List Zt}:∀r,(ZdV a b0)=some r→evD ctx 68 [(.d (Za a)),(.d (D.rptr [(zL t0 b0),(D.list t1 (List.map Zs b1))]))]=some (ZmN r):=
 evT ZyS rfl rfl <| yB (Ze (Zq _ _) (yBr yR))
  yR
def ZfE (r:Int):D:=(Za r)
def Zcv (t0:Bool) (a:List Zt) (b:Zt):(Int⊕Unit)→Ex×List V×Zd
  | (.inl r)=>(.ret,[(.d (Za r))],[])
  | (.inr r)=>(.exit 0,[.bad],[])
theorem Zev {t0:Bool}{a:List Zt}{b:Zt}:∀(s0:Int) (r:(Int⊕Unit)),lp (Zan a b) s0=some r→lpW ctx 0 [0,3,7,8] [4] Ztz [(.d (D.list t0 (List.map Zs a))),(.ptr 0 0),(.d (Za (a.length:Int))),(.d (Za s0))] [(.cells [(.d (Za b.src)),(.d (Za b.dst))])]=some ((Zcv t0 a b) r):=
 lpT (Zcv t0 a b) fun s0 _ ih=>yB (yG fun x1 _=>
  yB (Zp rfl)
  (Zl (ih _)))
  (Zp rfl)
theorem Zfv {t0:Bool}{a:List Zt}{b:Zt}:∀r,(ZbC a b)=some r→evD ctx 100 [(.d (D.list t0 (List.map Zs a))),(.d (D.agg [(Za b.src),(Za b.dst)]))]=some (ZfE r):=
 evT Zw4 rfl rfl <| Ze (Zq _ _) (by
 conv=>rhs;whnf
 refine Zf _ (Zev _) fun r2 _=>?_
 rcases r2 with r2 | r2
 exact yR
 exact yR)
def ZeO (r:Bool):D:=(D.bool r)
theorem Zew {t0:Bool}{a:List Zt}{b:Zt}:∀r,(Zaq a b)=some r→evD ctx 69 [(.d (D.list t0 (List.map Zs a))),(.d (D.agg [(Za b.src),(Za b.dst)]))]=some (ZeO r):=
 evT ZzS rfl rfl <| yC Zfv fun x0 _=>
  yBr yR
def ZoV (r:((List Int)×Bool)):D:=(D.tup [(zL true r.1),(D.bool r.2)])
def ZhN (t0:Bool) (t1:Bool) (a:Zm) (s0:(List Int)×(List Bool)) (s1:Int):(Unit⊕Unit)→Ex×List V×Zd
  | (.inl r)=>(.exit 3,[(.ptr 0 0),(.sl 1 1),(.sl 2 1),(.d (Za s1)),(.d (Za (a.work.length:Int))),(.d (Za s1))],[(.cells [(.d (zL t0 a.work)),(.d (D.list t1 (List.map Zs a.edges)))]),(.arr 1 (List.map Za s0.1)),(.arr 1 (List.map D.bool s0.2))])
  | (.inr r)=>(.exit 4,[(.ptr 0 0),(.sl 1 1),(.sl 2 1),(.d (Za s1)),(.d (Za (a.work.length:Int))),(.d (Za s1))],[(.cells [(.d (zL t0 a.work)),(.d (D.list t1 (List.map Zs a.edges)))]),(.arr 1 (List.map Za s0.1)),(.arr 1 (List.map D.bool s0.2))])
theorem ZkZ {t0 t1:Bool}{a:Zm}{s0:(List Int)×(List Bool)}{s1:Int}:∀(s3:Int) (r:(Unit⊕Unit)),lp (ZdC a s0 s1) s3=some r→lpW ctx 0 [1,4,5,6,21,22,30,31,32] [1,4,5,6,21,22] ZvE [(.ptr 0 0),(.sl 1 1),(.sl 2 1),(.d (Za s1)),(.d (Za (a.work.length:Int))),(.d (Za s1)),(.d (D.list t1 (List.map Zs a.edges))),(.d (Za (a.edges.length:Int))),(.d (Za s3))] [(.cells [(.d (zL t0 a.work)),(.d (D.list t1 (List.map Zs a.edges)))]),(.arr 1 (List.map Za s0.1)),(.arr 1 (List.map D.bool s0.2))]=some ((ZhN t0 t1 a s0 s1) r):=
 lpT (ZhN t0 t1 a s0 s1) fun s3 _ ih=>yB (yG fun x4 _=>
  yB (yG fun x5 hx5=>
  Zr (Zae rfl hx5) (yB (Zl (ih _))
  (Zp rfl)))
  (Zl (ih _)))
  (Zp rfl)
def ZhE (t0:Bool) (t1:Bool) (a:Zm) (s0:(List Int)×(List Bool)):(((List Int)×(List Bool))⊕Unit)→Ex×List V×Zd
  | (.inl r)=>(.exit 1,[(.ptr 0 0),(.sl 1 1),(.sl 2 1)],[(.cells [(.d (zL t0 a.work)),(.d (D.list t1 (List.map Zs a.edges)))]),(.arr 1 (List.map Za r.1)),(.arr 1 (List.map D.bool r.2))])
  | (.inr r)=>(.exit 2,[(.ptr 0 0),(.sl 1 1),(.sl 2 1)],[(.cells [(.d (zL t0 a.work)),(.d (D.list t1 (List.map Zs a.edges)))]),(.arr 1 (List.map Za s0.1)),(.arr 1 (List.map D.bool s0.2))])
theorem Zk5 {t0 t1:Bool}{a:Zm}{s0:(List Int)×(List Bool)}:∀(s1:Int) (r:(((List Int)×(List Bool))⊕Unit)),lp (ZcA a s0) s1=some r→lpW ctx 0 [1,4,5,21,22] [1,4,5] ZwL [(.ptr 0 0),(.sl 1 1),(.sl 2 1),(.d (Za (a.work.length:Int))),(.d (Za s1))] [(.cells [(.d (zL t0 a.work)),(.d (D.list t1 (List.map Zs a.edges)))]),(.arr 1 (List.map Za s0.1)),(.arr 1 (List.map D.bool s0.2))]=some ((ZhE t0 t1 a s0) r):=
 lpT (ZhE t0 t1 a s0) fun s1 _ ih=>yB (yG fun x2 hx2=>
  Zr (Zae rfl hx2) (yB (Zl (ih _))
  (Ze (Zq _ _) (by
 conv=>rhs;whnf
 refine Zf _ (ZkZ _) fun r6 _=>?_
 rcases r6 with r6 | r6
 exact Zl (ih _)
 exact Zr (Zd9 rfl hx2) (Zr (Zae rfl hx2) (Ze (Zcc D.bool s0.2 s1.toNat true) (yT (ZaX (ZeC Za s0.1 1) (Ze (Zex Za s0.1 [s1]) (Zp rfl))
  Z5))))))))
  (Zp rfl)
def Zhj (t0:Bool) (t1:Bool) (a:Zm):((List Int)⊕(List Int))→Ex×List V×Zd
  | (.inl r)=>(.ret,[(.nilsl 1),(.d (D.bool false)),(.sl 0 1)],[(.arr 1 (List.map Za r))])
  | (.inr r)=>(.exit 0,[.bad,.bad,(.sl 0 1)],[(.arr 1 (List.map Za r))])
theorem Zll {t0 t1:Bool}{a:Zm}:∀(s0:(List Int)×(List Bool)) (r:((List Int)⊕(List Int))),lp (ZdD a) s0=some r→lpW ctx 0 [1,4,5] [2,3,4] ZwC [(.ptr 0 0),(.sl 1 1),(.sl 2 1)] [(.cells [(.d (zL t0 a.work)),(.d (D.list t1 (List.map Zs a.edges)))]),(.arr 1 (List.map Za s0.1)),(.arr 1 (List.map D.bool s0.2))]=some ((Zhj t0 t1 a) r):=
 lpT (Zhj t0 t1 a) fun s0 _ ih=>Ze (Zq _ _) (Ze (Zq _ _) (yB (Ze (Zq _ _) (by
 conv=>rhs;whnf
 refine Zf _ (Zk5 _) fun r7 _=>?_
 rcases r7 with r7 | r7
 exact Zl (ih _)
 exact Zp rfl))
  (Zp rfl)))
theorem ZnV {t0 t1:Bool}{a:Zm}:∀r,(Zec a)=some r→evD ctx 70 [(.d (D.agg [(zL t0 a.work),(D.list t1 (List.map Zs a.edges))]))]=some (ZoV r):=
 evT ZzJ rfl rfl <| Ze (Zq _ _) (yBm (Ze (Zh3 D.bool (false:Bool) (a.work.length:Int)) (by
 conv=>rhs;whnf
 refine Zf _ (Zll _) fun r8 _=>?_
 rcases r8 with r8 | r8
 exact yR
 exact yR)))
def Zo3 (r:Int):D:=(Za r)
def Zho (t0:Bool) (t1:Bool) (a:Zm):(Unit⊕Unit)→Ex×List V×Zd
  | (.inl r)=>(.ret,[(.ptr 0 0),(.d (Za 42))],[(.cells [(.d (zL t0 a.work)),(.d (D.list t1 (List.map Zs a.edges)))])])
  | (.inr r)=>(.exit 0,[(.ptr 0 0),.bad],[(.cells [(.d (zL t0 a.work)),(.d (D.list t1 (List.map Zs a.edges)))])])
theorem Zlm {t0 t1:Bool}{a:Zm}:∀(s1:Int) (r:(Unit⊕Unit)),lp (ZcR a) s1=some r→lpW ctx 0 [1,3,23,24,25] [1,2] ZvF [(.ptr 0 0),(.fn 68 [(.ptr 0 0)]),(.d (D.list t1 (List.map Zs a.edges))),(.d (Za (a.edges.length:Int))),(.d (Za s1))] [(.cells [(.d (zL t0 a.work)),(.d (D.list t1 (List.map Zs a.edges)))])]=some ((Zho t0 t1 a) r):=
 lpT (Zho t0 t1 a) fun s1 _ ih=>yB (yG fun x2 _=>
  yC Zhn fun x3 _=>
  yB (yC Zhn fun x4 _=>
  yB (yB (Zp rfl)
  (yBm (ZaX (Zwd Zs a.edges s1.toNat) (yT (Ze (ZqK Zs a.edges s1.toNat) (yC Zew fun x5 _=>
  yB (Zp rfl)
  (Zl (ih _)))))
  Z5)))
  (Zp rfl))
  (Zp rfl))
  (Zp rfl)
theorem ZcM {t0 t1:Bool}{a:Zm}:∀r,(Zbx a)=some r→evD ctx 39 [(.d (D.agg [(zL t0 a.work),(D.list t1 (List.map Zs a.edges))]))]=some (Zo3 r):=
 evT ZyO rfl rfl <| Ze (Zq _ _) (yBr (Ze (Zq _ _) (yBr (yC Zce fun x0 _=>
  yBr (Ze (Zq _ _) (by
 conv=>rhs;whnf
 refine Zf _ (Zlm _) fun r6 _=>?_
 rcases r6 with r6 | r6
 exact yR
 exact yC ZnV fun x7 _=>
  yBr yR))))))
def Zl2 (r:Bool):D:=(D.bool r)
theorem ZkP {a:Int}:∀r,(Za5 a)=some r→evD ctx 71 [(.d (Za a))]=some (Zl2 r):=
 evT Zzv rfl rfl <| yBr (yBr yR)
def ZcO (r:Int):D:=(Za r)
def Zao (t0:Bool) (a:List Int):(Int⊕Unit)→Ex×List V×Zd
  | (.inl r)=>(.ret,[(.d (Za r))],[])
  | (.inr r)=>(.exit 0,[.bad],[])
theorem ZbY {t0:Bool}{a:List Int}:∀(s0:Int) (r:(Int⊕Unit)),lp (Zv a (fun z0=>Za5 z0)) s0=some r→lpW ctx 0 [0,1,7,8] [4] ZlB [(.d (zL t0 a)),(.d (D.fn 71 [])),(.d (Za (a.length:Int))),(.d (Za s0))] []=some ((Zao t0 a) r):=
 lpT (Zao t0 a) fun s0 _ ih=>yB (yG fun x1 _=>
  yC ZkP fun x2 _=>
  yB (Zp rfl)
  (Zl (ih _)))
  (Zp rfl)
theorem Zcw {t0:Bool}{a:List Int}:∀r,(ZB a (fun z0=>Za5 z0))=some r→evD ctx 99 [(.d (zL t0 a)),(.d (D.fn 71 []))]=some (ZcO r):=
 evT Zsf rfl rfl <| Ze (Zq _ _) (by
 conv=>rhs;whnf
 refine Zf _ (ZbY _) fun r3 _=>?_
 rcases r3 with r3 | r3
 exact yR
 exact yR)
def Zca (r:Bool):D:=(D.bool r)
theorem Zaj {t0:Bool}{a:List Int}:∀r,(Zw a (fun z0=>Za5 z0))=some r→evD ctx 66 [(.d (zL t0 a)),(.d (D.fn 71 []))]=some (Zca r):=
 evT ZuD rfl rfl <| yC Zcw fun x0 _=>
  yBr yR
def Zow (r:Bool):D:=(D.bool r)
theorem Zis {t0 t1 t2:Bool}{a:Zm}{b:List Int}:∀r,(ZeG a b)=some r→evD ctx 40 [(.d (D.agg [(zL t0 a.work),(D.list t1 (List.map Zs a.edges))])),(.d (zL t2 b))]=some (Zow r):=
 evT ZyQ rfl rfl <| Ze (Zq _ _) (Ze (Zq _ _) (yB (yC Zaj fun x0 _=>
  yBr (yC Zaj fun x1 _=>
  yBr yR))
  yR))
def ZrT (a:Bool):(Unit⊕Unit)→D
  | (.inl r)=>(D.iface 115 (D.agg []))
  | (.inr r)=>(D.iface 116 (D.agg []))
theorem Zh9 {a:Bool}:∀r,(ZdH a)=some r→evD ctx 41 [(.d (D.bool a))]=some ((ZrT a) r):=
 evT Zzp rfl rfl <| (by
 try unfold ZdH
 rcases hb:a with _ | _
 exact ZzP yR
 exact ZyT yR)
def Zl3 (r:Bool):D:=(D.bool r)
theorem Zky {a:Int}:∀r,(ZbD a)=some r→evD ctx 195 [(.d (Za a))]=some (Zl3 r):=
 evT ZwE rfl rfl <| yBr (yBr yR)
def ZcJ (r:Int):D:=(Za r)
def Zap (t0:Bool) (a:List Int):(Int⊕Unit)→Ex×List V×Zd
  | (.inl r)=>(.ret,[(.d (Za r))],[])
  | (.inr r)=>(.exit 0,[.bad],[])
theorem Zb3 {t0:Bool}{a:List Int}:∀(s0:Int) (r:(Int⊕Unit)),lp (Zv a (fun z0=>ZbD z0)) s0=some r→lpW ctx 0 [0,1,7,8] [4] ZlB [(.d (zL t0 a)),(.d (D.fn 195 [])),(.d (Za (a.length:Int))),(.d (Za s0))] []=some ((Zap t0 a) r):=
 lpT (Zap t0 a) fun s0 _ ih=>yB (yG fun x1 _=>
  yC Zky fun x2 _=>
  yB (Zp rfl)
  (Zl (ih _)))
  (Zp rfl)
theorem Zcy {t0:Bool}{a:List Int}:∀r,(ZB a (fun z0=>ZbD z0))=some r→evD ctx 99 [(.d (zL t0 a)),(.d (D.fn 195 []))]=some (ZcJ r):=
 evT Zsf rfl rfl <| Ze (Zq _ _) (by
 conv=>rhs;whnf
 refine Zf _ (Zb3 _) fun r3 _=>?_
 rcases r3 with r3 | r3
 exact yR
 exact yR)
def Zcj (r:Bool):D:=(D.bool r)
theorem Zb1 {t0:Bool}{a:List Int}:∀r,(Zw a (fun z0=>ZbD z0))=some r→evD ctx 66 [(.d (zL t0 a)),(.d (D.fn 195 []))]=some (Zcj r):=
 evT ZuD rfl rfl <| yC Zcy fun x0 _=>
  yBr yR
def Zo0 (r:Bool):D:=(D.bool r)
theorem Zdy {t0 t1:Bool}{a:ZD}{b:Int}:∀r,(ZcW a b)=some r→evD ctx 191 [(.d (D.agg [(zL t0 a.on),(zL t1 a.left)])),(.d (Za b))]=some (Zo0 r):=
 evT Zxc rfl rfl <| yG fun x0 _=>
  yBr yR
def Zgq (r:Int):D:=(Za r)
def Zc1 (t0:Bool) (a:List Int) (b:Int):(Int⊕Unit)→Ex×List V×Zd
  | (.inl r)=>(.ret,[(.d (Za r))],[])
  | (.inr r)=>(.exit 0,[.bad],[])
theorem ZeZ {t0:Bool}{a:List Int}{b:Int}:∀(s0:Int) (r:(Int⊕Unit)),lp (ZaE a b) s0=some r→lpW ctx 0 [0,1,7,8] [4] Zvg [(.d (zL t0 a)),(.d (Za b)),(.d (Za (a.length:Int))),(.d (Za s0))] []=some ((Zc1 t0 a b) r):=
 lpT (Zc1 t0 a b) fun s0 _ ih=>yB (yG fun x1 _=>
  yB (Zp rfl)
  (Zl (ih _)))
  (Zp rfl)
theorem Zf4 {t0:Bool}{a:List Int}{b:Int}:∀r,(Zcr a b)=some r→evD ctx 88 [(.d (zL t0 a)),(.d (Za b))]=some (Zgq r):=
 evT Zzx rfl rfl <| Ze (Zq _ _) (by
 conv=>rhs;whnf
 refine Zf _ (ZeZ _) fun r2 _=>?_
 rcases r2 with r2 | r2
 exact yR
 exact yR)
def Zfg (r:Bool):D:=(D.bool r)
theorem ZT {t0:Bool}{a:List Int}{b:Int}:∀r,(ZF a b)=some r→evD ctx 55 [(.d (zL t0 a)),(.d (Za b))]=some (Zfg r):=
 evT Zza rfl rfl <| yC Zf4 fun x0 _=>
  yBr yR
def ZmB (r:Bool):D:=(D.bool r)
theorem ZlE {t0 t1:Bool}{a:Zt}{b0:Int}{c0:List Int}{c1:List Int}:∀r,(Zdh a b0 c0 c1)=some r→evD ctx 208 [(.d (D.agg [(Za a.src),(Za a.dst)])),(.d (D.rptr [(Za b0)])),(.d (D.rptr [(zL t0 c0),(zL t1 c1)]))]=some (ZmB r):=
 evT Zvx rfl rfl <| yB (yC Zdy fun x0 _=>
  yBr yR)
  yR
def Zcx (r:Int):D:=(Za r)
def Zak (t0:Bool) (t1:Bool) (t2:Bool) (a:List Zt) (b0:Int) (b1:List Int) (b2:List Int):(Int⊕Unit)→Ex×List V×Zd
  | (.inl r)=>(.ret,[(.d (Za r))],[])
  | (.inr r)=>(.exit 0,[.bad],[])
theorem ZbO {t0 t1 t2:Bool}{a:List Zt}{b0:Int}{b1:List Int}{b2:List Int}:∀(s0:Int) (r:(Int⊕Unit)),lp (ZW a (fun z0=>Zdh z0 b0 b1 b2)) s0=some r→lpW ctx 0 [0,1,7,8] [4] Zqc [(.d (D.list t0 (List.map Zs a))),(.d (D.fn 208 [(D.rptr [(Za b0)]),(D.rptr [(zL t1 b1),(zL t2 b2)])])),(.d (Za (a.length:Int))),(.d (Za s0))] []=some ((Zak t0 t1 t2 a b0 b1 b2) r):=
 lpT (Zak t0 t1 t2 a b0 b1 b2) fun s0 _ ih=>yB (yG fun x1 _=>
  yC ZlE fun x2 _=>
  yB (Zp rfl)
  (Zl (ih _)))
  (Zp rfl)
theorem Zcp {t0 t1 t2:Bool}{a:List Zt}{b0:Int}{b1:List Int}{b2:List Int}:∀r,(Zai a (fun z0=>Zdh z0 b0 b1 b2))=some r→evD ctx 109 [(.d (D.list t0 (List.map Zs a))),(.d (D.fn 208 [(D.rptr [(Za b0)]),(D.rptr [(zL t1 b1),(zL t2 b2)])]))]=some (Zcx r):=
 evT ZtE rfl rfl <| Ze (Zq _ _) (by
 conv=>rhs;whnf
 refine Zf _ (ZbO _) fun r3 _=>?_
 rcases r3 with r3 | r3
 exact yR
 exact yR)
def Zb2 (r:Bool):D:=(D.bool r)
theorem ZbQ {t0 t1 t2:Bool}{a:List Zt}{b0:Int}{b1:List Int}{b2:List Int}:∀r,(ZO a (fun z0=>Zdh z0 b0 b1 b2))=some r→evD ctx 89 [(.d (D.list t0 (List.map Zs a))),(.d (D.fn 208 [(D.rptr [(Za b0)]),(D.rptr [(zL t1 b1),(zL t2 b2)])]))]=some (Zb2 r):=
 evT Zx1 rfl rfl <| yC Zcp fun x0 _=>
  yBr yR
def ZoX (r:Bool):D:=(D.bool r)
theorem Zgb {t0 t1:Bool}{t2 t3:Bool}{a:Zm}{b:ZD}{c:Int}:∀r,(Zej a b c)=some r→evD ctx 192 [(.d (D.agg [(zL t0 a.work),(D.list t1 (List.map Zs a.edges))])),(.d (D.agg [(zL t2 b.on),(zL t3 b.left)])),(.d (Za c))]=some (ZoX r):=
 evT Zu7 rfl rfl <| yC ZbQ fun x0 _=>
  yBr yR
def ZnB (r:Bool):D:=(D.bool r)
def ZgR (t0:Bool) (t1:Bool) (t2:Bool) (t3:Bool) (a:Zm) (b:ZD):(Unit⊕Unit)→Ex×List V×Zd
  | (.inl r)=>(.ret,[(.ptr 0 0),(.ptr 1 0),(.d (D.bool false))],[(.cells [(.d (zL t0 a.work)),(.d (D.list t1 (List.map Zs a.edges)))]),(.cells [(.d (zL t2 b.on)),(.d (zL t3 b.left))])])
  | (.inr r)=>(.exit 0,[(.ptr 0 0),(.ptr 1 0),.bad],[(.cells [(.d (zL t0 a.work)),(.d (D.list t1 (List.map Zs a.edges)))]),(.cells [(.d (zL t2 b.on)),(.d (zL t3 b.left))])])
theorem Zke {t0 t1:Bool}{t2 t3:Bool}{a:Zm}{b:ZD}:∀(s1:Int) (r:(Unit⊕Unit)),lp (Zdc a b) s1=some r→lpW ctx 0 [2,3,35,36,37] [2,3,4] Zt1 [(.ptr 0 0),(.ptr 1 0),(.d (zL t2 b.on)),(.d (Za (b.on.length:Int))),(.d (Za s1))] [(.cells [(.d (zL t0 a.work)),(.d (D.list t1 (List.map Zs a.edges)))]),(.cells [(.d (zL t2 b.on)),(.d (zL t3 b.left))])]=some ((ZgR t0 t1 t2 t3 a b) r):=
 lpT (ZgR t0 t1 t2 t3 a b) fun s1 _ ih=>yB (yG fun x2 _=>
  yB (Zl (ih _))
  (yB (Zp rfl)
  (Ze (Zq _ _) (yB (Zp rfl)
  (yC Zdy fun x3 _=>
  yB (Zp rfl)
  (yBm (ZaX (Zwd Za b.on s1.toNat) (yT (Ze (ZqK Za b.on s1.toNat) (yC ZT fun x4 _=>
  yB (Zp rfl)
  (yC Zgb fun x5 _=>
  yB (Zl (ih _))
  (Zp rfl)))))
  Z5)))))))
  (Zp rfl)
def ZgW (t0:Bool) (t1:Bool) (t2:Bool) (t3:Bool) (a:Zm) (b:ZD):(Unit⊕Unit)→Ex×List V×Zd
  | (.inl r)=>(.ret,[(.d (D.bool false))],[])
  | (.inr r)=>(.exit 2,[.bad],[])
theorem Zj2 {t0 t1:Bool}{t2 t3:Bool}{a:Zm}{b:ZD}:∀(s7:Int) (r:(Unit⊕Unit)),lp (Zdd a b) s7=some r→lpW ctx 0 [2,3,76,77] [4] ZtX [(.ptr 0 0),(.ptr 1 0),(.d (Za (b.left.length:Int))),(.d (Za s7))] [(.cells [(.d (zL t0 a.work)),(.d (D.list t1 (List.map Zs a.edges)))]),(.cells [(.d (zL t2 b.on)),(.d (zL t3 b.left))])]=some ((ZgW t0 t1 t2 t3 a b) r):=
 lpT (ZgW t0 t1 t2 t3 a b) fun s7 _ ih=>yB (yC Zdy fun x8 _=>
  yB (yC Zgb fun x9 _=>
  yB (Zl (ih _))
  (Zp rfl))
  (Zl (ih _)))
  (Zp rfl)
theorem Zmu {t0 t1:Bool}{t2 t3:Bool}{a:Zm}{b:ZD}:∀r,(ZfZ a b)=some r→evD ctx 179 [(.d (D.agg [(zL t0 a.work),(D.list t1 (List.map Zs a.edges))])),(.d (D.agg [(zL t2 b.on),(zL t3 b.left)]))]=some (ZnB r):=
 evT Zxp rfl rfl <| Ze (Zq _ _) (yBr (Ze (Zq _ _) (yBr (Ze (Zq _ _) (Ze (Zq _ _) (yBr (yC Zb1 fun x0 _=>
  yBr (Ze (Zq _ _) (by
 conv=>rhs;whnf
 refine Zf _ (Zke _) fun r6 _=>?_
 rcases r6 with r6 | r6
 exact yR
 exact Ze (Zq _ _) (by
 conv=>rhs;whnf
 refine Zf _ (Zj2 _) fun r10 _=>?_
 rcases r10 with r10 | r10
 exact yR
 exact yR))))))))))
def Znh (r:Int):D:=(Za r)
theorem Zd1 {t0 t1:Bool}{t2 t3:Bool}{a:Zm}{b:ZD}:∀r,(Zc7 a b)=some r→evD ctx 171 [(.d (D.agg [(zL t0 a.work),(D.list t1 (List.map Zs a.edges))])),(.d (D.agg [(zL t2 b.on),(zL t3 b.left)]))]=some (Znh r):=
 evT ZvQ rfl rfl <| yC ZcM fun x0 _=>
  yB (yC Zmu fun x1 _=>
  yBr yR)
  yR
def Zo6 (r:Int):D:=(Za r)
theorem ZiO {a:Int}:∀r,(Zff a)=some r→evD ctx 188 [(.d (Za a))]=some (Zo6 r):=
 evT ZwY rfl rfl <| yBr (yBr yR)
def ZgC (r:Int):D:=(Za r)
theorem Zgc {a:Int}:∀r,(Zbd a)=some r→evD ctx 205 [(.d (D.int .u64 a))]=some (ZgC r):=
 evT Zxi rfl rfl <| yF (yF (yF (yF (yF (yF yR)))))
def ZhK (r:Int):D:=(Za r)
theorem Zg8 {a:Int}:∀r,(ZbM a)=some r→evD ctx 189 [(.d (D.int .u64 a))]=some (ZhK r):=
 evT Zwm rfl rfl <| yC Zgc fun x0 _=>
  yR
def Zfs (a:Int):Unit→V×Zd
  | r=>(.bad,[])
theorem ZeR {a:Int}:∀r,(Zbp a)=some r→evW ctx 207 [(.d (D.int .u64 a))] []=some ((Zfs a) r):=
 evS Zyz rfl rfl <| yBr yR
def Zf2 (a:Int):Unit→V×Zd
  | r=>(.bad,[])
theorem ZfH {a:Int}:∀r,(ZaL a)=some r→evW ctx 190 [(.d (D.int .u64 a))] []=some ((Zf2 a) r):=
 evS Zwv rfl rfl <| Zf _ ZeR fun x0 _=>
  yR
def Zrc (a:Int):(Unit⊕Unit)→V×Zd
  | (.inl r)=>((.d (D.tup [(Za 0),(D.bool false)])),[])
  | (.inr r)=>((.tup [.bad,(.d (D.bool true))]),[])
theorem ZkV {a:Int}:∀r,(Zf6 a)=some r→evW ctx 176 [(.d (Za a))] []=some ((Zrc a) r):=
 evS Zvt rfl rfl <| yC ZiO fun x0 _=>
  yBr (yC Zg8 fun x1 _=>
  yBr (Zf _ ZfH fun x2 _=>
  yR))
def ZmA (r:Int):D:=(Za r)
theorem ZcQ {t0:Bool}{a:Zb}:∀r,(Zbv a)=some r→evD ctx 180 [(.d (D.agg [(zL t0 a.ring),(Za a.top),(Za a.bottom)]))]=some (ZmA r):=
 evT Zvs rfl rfl <| Ze (Zq _ _) (by
 conv=>rhs;whnf
 refine Zf _ ZkV fun x0 _=>?_
 rcases x0 with x0 | x0
 exact yF yR
 exact yT (Ze (Zq _ _) (yBr (yC ZiO fun x1 _=>
  yBr (yBr (Ze (Zq _ _) (yBr yR)))))))
def ZmI (r:Bool):D:=(D.bool r)
def Zgo (t0:Bool) (t1:Bool) (t2:Bool) (t3:Bool) (t4:Bool) (a:ZP):(Unit⊕Unit)→Ex×List V×Zd
  | (.inl r)=>(.ret,[(.d (D.bool false))],[])
  | (.inr r)=>(.exit 0,[.bad],[])
theorem ZjF {t0 t1:Bool}{t2 t3 t4:Bool}{a:ZP}:∀(s0:Int) (r:(Unit⊕Unit)),lp (ZcD a) s0=some r→lpW ctx 0 [1,3,32,33,34] [2] ZtF [(.ptr 0 0),(.d (Za (a.crew.on.length:Int))),(.d (D.list t2 (List.map Zy a.deques))),(.d (Za (a.deques.length:Int))),(.d (Za s0))] [(.cells [(.d (zL t0 a.crew.on)),(.d (zL t1 a.crew.left)),(.d (D.list t2 (List.map Zy a.deques))),(.d (D.list t3 (List.map Zz a.takers))),(.d (zL t4 a.from_))])]=some ((Zgo t0 t1 t2 t3 t4 a) r):=
 lpT (Zgo t0 t1 t2 t3 t4 a) fun s0 _ ih=>yB (yG fun x1 _=>
  yG fun x2 _=>
  yG fun x3 _=>
  yC ZcQ fun x4 _=>
  yB (Zp rfl)
  (Ze (Zq _ _) (yB (Zp rfl)
  (yB (Zp rfl)
  (yB (Zp rfl)
  (yB (Zp rfl)
  (yB (yB (yF (yG fun x5 _=>
  yB (yB (Zp rfl)
  (yB (Zp rfl)
  (Zl (ih _))))
  (Zl (ih _))))
  (yT (Zp rfl)))
  (yB (yT (Zp rfl))
  (yF (yG fun x6 _=>
  yB (yB (Zp rfl)
  (yB (Zp rfl)
  (Zl (ih _))))
  (Zl (ih _))))))))))))
  (Zp rfl)
theorem ZlK {t0 t1:Bool}{t2 t3 t4:Bool}{a:ZP}:∀r,(Ze7 a)=some r→evD ctx 172 [(.d (D.agg [(zL t0 a.crew.on),(zL t1 a.crew.left),(D.list t2 (List.map Zy a.deques)),(D.list t3 (List.map Zz a.takers)),(zL t4 a.from_)]))]=some (ZmI r):=
 evT ZvV rfl rfl <| Ze (Zq _ _) (Ze (Zq _ _) (yBr (Ze (Zq _ _) (yBr (Ze (Zq _ _) (yBr (Ze (Zq _ _) (by
 conv=>rhs;whnf
 refine Zf _ (ZjF _) fun r7 _=>?_
 rcases r7 with r7 | r7
 exact yR
 exact yR))))))))
def Zms (r:Int):D:=(Za r)
theorem Zhh {t0 t1:Bool}{t2 t3:Bool}{t4 t5 t6:Bool}{a:Zm}{b:ZP}:∀r,(ZdY a b)=some r→evD ctx 164 [(.d (D.agg [(zL t0 a.work),(D.list t1 (List.map Zs a.edges))])),(.d (D.agg [(zL t2 b.crew.on),(zL t3 b.crew.left),(D.list t4 (List.map Zy b.deques)),(D.list t5 (List.map Zz b.takers)),(zL t6 b.from_)]))]=some (Zms r):=
 evT Zxw rfl rfl <| yC Zd1 fun x0 _=>
  yB (yC ZlK fun x1 _=>
  yBr yR)
  yR
def ZoR (r:List Int):D:=(zL true r)
def ZhG (t0:Bool) (t2:Bool) (a:Zm) (b:List Int):(List Int)→Ex×List V×Zd
  | r=>(.exit 0,[(.sl 0 1)],[(.arr 1 (List.map Za r))])
theorem ZkX {t0 t2:Bool}{a:Zm}{b:List Int}:∀(s0:Int×(List Int)) (r:List Int),lp (ZcC a b) s0=some r→lpW ctx 0 [1,5,9,10,11] [5] Zw2 [(.d (zL t2 b)),(.sl 0 1),(.d (zL t0 a.work)),(.d (Za (a.work.length:Int))),(.d (Za s0.1))] [(.arr 1 (List.map Za s0.2))]=some ((ZhG t0 t2 a b) r):=
 lpT (ZhG t0 t2 a b) fun s0 _ ih=>yB (yG fun x1 _=>
  yG fun x2 _=>
  yT (ZaX (ZeC Za s0.2 1) (Ze (Zex Za s0.2 [(bif decide (x1<x2) then x1 else x2)]) (Zl (ih _)))
  Z5))
  (Zp rfl)
theorem Zgp {t0 t1 t2:Bool}{a:Zm}{b:List Int}:∀r,(Zei a b)=some r→evD ctx 42 [(.d (D.agg [(zL t0 a.work),(D.list t1 (List.map Zs a.edges))])),(.d (zL t2 b))]=some (ZoR r):=
 evT Zz8 rfl rfl <| Ze (Zq _ _) (Zf _ (ZkX _) fun r3 _=>
  yR)
def Zof (r:Int):D:=(Za r)
def ZgG (t0:Bool) (t1:Bool) (t2:Bool) (t3:Bool) (a:Zm) (b:List Int) (c:List Int):(Int⊕Int)→Ex×List V×Zd
  | (.inl r)=>(.ret,[(.d (Za 3)),(.d (Za r))],[])
  | (.inr r)=>(.exit 0,[.bad,(.d (Za r))],[])
theorem Zkc {t0 t1:Bool}{t2 t3:Bool}{a:Zm}{b:List Int}{c:List Int}:∀(s0:Int×Int) (r:(Int⊕Int)),lp (ZaJ a b c) s0=some r→lpW ctx 0 [1,3,7,10,11,12] [6,7] Zws [(.d (zL t2 b)),(.ptr 0 0),(.d (Za s0.1)),(.d (zL t3 c)),(.d (Za (c.length:Int))),(.d (Za s0.2))] [(.cells [(.d (zL t0 a.work)),(.d (D.list t1 (List.map Zs a.edges)))])]=some ((ZgG t0 t1 t2 t3 a b c) r):=
 lpT (ZgG t0 t1 t2 t3 a b c) fun s0 _ ih=>yB (yG fun x1 _=>
  yB (yB (Zl (ih _))
  (yB (yG fun x2 _=>
  yG fun x3 _=>
  yB (Zp rfl)
  (Zl (ih _)))
  (Zl (ih _))))
  (yB (yG fun x4 _=>
  yG fun x5 _=>
  yB (Zp rfl)
  (Zl (ih _)))
  (Zl (ih _))))
  (Zp rfl)
theorem Zb4 {t0 t1:Bool}{t2 t3:Bool}{a:Zm}{b:List Int}{c:List Int}:∀r,(Zbr a b c)=some r→evD ctx 43 [(.d (D.agg [(zL t0 a.work),(D.list t1 (List.map Zs a.edges))])),(.d (zL t2 b)),(.d (zL t3 c))]=some (Zof r):=
 evT Zzw rfl rfl <| Ze (Zq _ _) (by
 conv=>rhs;whnf
 refine Zf _ (Zkc _) fun r6 _=>?_
 rcases r6 with r6 | r6
 exact yR
 exact yR)
def Zgg (t0:Bool) (a:List Int):Unit→V×Zd
  | r=>((.sl 0 1),[(.arr 1 (List.map Za a))])
theorem Zn {t0:Bool}{a:List Int}:∀r,(Zk a)=some r→evW ctx 45 [(.d (zL t0 a))] []=some ((Zgg t0 a) r):=
 evS Zzs rfl rfl <| Zk1 (Zgw (f:=Za) (fun _=>⟨rfl,rfl⟩) a 0) (ZaX (ZhM Za a) (Ze (rfl:_=List.map Za a) yR)
  Z5)
def Ze1 (t0:Bool) (a:List Zh):Unit→V×Zd
  | r=>((.sl 0 6),[(.arr 6 (List.map Zz a))])
theorem ZeM {t0:Bool}{a:List Zh}:∀r,(Zaw a)=some r→evW ctx 181 [(.d (D.list t0 (List.map Zz a)))] []=some ((Ze1 t0 a) r):=
 evS Zxz rfl rfl <| ZaX (Ztp Zz a) (Zk1 (Zgw (f:=Zz) (fun _=>⟨rfl,rfl⟩) a 0) (ZaX (ZhM Zz a) (Ze (rfl:_=List.map Zz a) yR)
  Z5))
  Z5
def Ze2 (t0:Bool) (a:List Zb):Unit→V×Zd
  | r=>((.sl 0 3),[(.arr 3 (List.map Zy a))])
theorem ZeL {t0:Bool}{a:List Zb}:∀r,(Zat a)=some r→evW ctx 182 [(.d (D.list t0 (List.map Zy a)))] []=some ((Ze2 t0 a) r):=
 evS ZwN rfl rfl <| ZaX (Ztp Zy a) (Zk1 (Zgw (f:=Zy) (fun _=>⟨rfl,rfl⟩) a 0) (ZaX (ZhM Zy a) (Ze (rfl:_=List.map Zy a) yR)
  Z5))
  Z5
def ZoW (t0:Bool) (t1:Bool) (t2:Bool) (t3:Bool) (t4:Bool) (a:ZP):(List Zb)→V×Zd
  | r=>((.agg [(.sl 0 1),(.sl 1 1),(.sl 2 3),(.sl 3 6),(.sl 4 1)]),[(.arr 1 (List.map Za a.crew.on)),(.arr 1 (List.map Za a.crew.left)),(.arr 3 (List.map Zy r)),(.arr 6 (List.map Zz a.takers)),(.arr 1 (List.map Za a.from_))])
def Zhr (a:ZP):(List Zb)→Ex×List V×Zd
  | r=>(.exit 0,[(.ptr 0 0),(.ptr 1 0)],[(.cells [(.sl 2 1),(.sl 3 1),(.sl 4 3),(.sl 5 6),(.sl 6 1)]),(.cells [(.sl 7 1),(.sl 8 1),(.sl 9 3),(.sl 10 6),(.sl 11 1)]),(.arr 1 (List.map Za a.crew.on)),(.arr 1 (List.map Za a.crew.left)),(.arr 3 (List.map Zy r)),(.arr 6 (List.map Zz a.takers)),(.arr 1 (List.map Za a.from_)),(.arr 1 []),(.arr 1 []),(.arr 3 []),(.arr 6 []),(.arr 1 [])])
theorem ZkH {a:ZP}:∀(s5:Int×(List Zb)) (r:List Zb),lp (ZcN a) s5=some r→lpW ctx 0 [1,2,30,31] [1,2] Zto [(.ptr 0 0),(.ptr 1 0),(.d (Za (a.deques.length:Int))),(.d (Za s5.1))] [(.cells [(.sl 2 1),(.sl 3 1),(.sl 4 3),(.sl 5 6),(.sl 6 1)]),(.cells [(.sl 7 1),(.sl 8 1),(.sl 9 3),(.sl 10 6),(.sl 11 1)]),(.arr 1 (List.map Za a.crew.on)),(.arr 1 (List.map Za a.crew.left)),(.arr 3 (List.map Zy s5.2)),(.arr 6 (List.map Zz a.takers)),(.arr 1 (List.map Za a.from_)),(.arr 1 []),(.arr 1 []),(.arr 3 []),(.arr 6 []),(.arr 1 [])]=some ((Zhr a) r):=
 lpT (Zhr a) fun s5 _ ih=>yB (yG fun x6 hx6=>
  Zr (Zae rfl hx6) (Zf _ Zn fun x7 _=>
  Zr (Zd9 rfl hx6) (Zr (Zae rfl hx6) (Ze (Zcc Zy s5.2 s5.1.toNat x6) (Zl (ih _))))))
  (Zp rfl)
theorem Zi7 {t0 t1:Bool}{t2 t3 t4:Bool}{a:ZP}:∀r,(Zfk a)=some r→evW ctx 173 [(.d (D.agg [(zL t0 a.crew.on),(zL t1 a.crew.left),(D.list t2 (List.map Zy a.deques)),(D.list t3 (List.map Zz a.takers)),(zL t4 a.from_)]))] []=some ((ZoW t0 t1 t2 t3 t4 a) r):=
 evS Zxd rfl rfl <| Zf _ Zn fun x0 _=>
  Zf _ Zn fun x1 _=>
  Zf _ ZeM fun x2 _=>
  Zf _ Zn fun x3 _=>
  Zf _ ZeL fun x4 _=>
  Ze (Zq _ _) (Zf _ (ZkH _) fun r8 _=>
  yR)
def ZhP (r:Bool):D:=(D.bool r)
theorem Zhs {t0:Bool}{a:Zb}:∀r,(Zag a)=some r→evD ctx 197 [(.d (D.agg [(zL t0 a.ring),(Za a.top),(Za a.bottom)]))]=some (ZhP r):=
 evT Zv3 rfl rfl <| yBr yR
def Zbk (r:Int):D:=(Za r)
def Z3 (t0:Bool) (a:List Zb):(Int⊕Unit)→Ex×List V×Zd
  | (.inl r)=>(.ret,[(.d (Za r))],[])
  | (.inr r)=>(.exit 0,[.bad],[])
theorem ZaU {t0:Bool}{a:List Zb}:∀(s0:Int) (r:(Int⊕Unit)),lp (Z4 a (fun z0=>Zag z0)) s0=some r→lpW ctx 0 [0,1,7,8] [4] ZtH [(.d (D.list t0 (List.map Zy a))),(.d (D.fn 197 [])),(.d (Za (a.length:Int))),(.d (Za s0))] []=some ((Z3 t0 a) r):=
 lpT (Z3 t0 a) fun s0 _ ih=>yB (yG fun x1 _=>
  yC Zhs fun x2 _=>
  yB (Zp rfl)
  (Zl (ih _)))
  (Zp rfl)
theorem Zba {t0:Bool}{a:List Zb}:∀r,(ZaF a (fun z0=>Zag z0))=some r→evD ctx 209 [(.d (D.list t0 (List.map Zy a))),(.d (D.fn 197 []))]=some (Zbk r):=
 evT ZwP rfl rfl <| Ze (Zq _ _) (by
 conv=>rhs;whnf
 refine Zf _ (ZaU _) fun r3 _=>?_
 rcases r3 with r3 | r3
 exact yR
 exact yR)
def Za2 (r:Bool):D:=(D.bool r)
theorem ZaW {t0:Bool}{a:List Zb}:∀r,(Z2 a (fun z0=>Zag z0))=some r→evD ctx 196 [(.d (D.list t0 (List.map Zy a))),(.d (D.fn 197 []))]=some (Za2 r):=
 evT ZvZ rfl rfl <| yC Zba fun x0 _=>
  yBr yR
def ZiB (r:List Int):D:=(zL true r)
def Zee (t0:Bool) (t1:Bool) (t2:Bool) (t3:Bool) (t4:Bool) (t5:Bool) (t6:Bool) (a0:List Int) (a1:List Int) (a2:List Zb) (a3:List Zh) (a4:List Int) (a5:List Int) (a6:List Zt) (a7:Int):(List Int)→Ex×List V×Zd
  | r=>(.exit 0,[(.sl 0 1)],[(.arr 1 (List.map Za r))])
theorem Zg2 {t0 t1:Bool}{t2 t3:Bool}{t4 t5 t6:Bool}{a0:List Int}{a1:List Int}{a2:List Zb}{a3:List Zh}{a4:List Int}{a5:List Int}{a6:List Zt}{a7:Int}:∀(s1:Int×(List Int)) (r:List Int),lp (ZaO a0) s1=some r→lpW ctx 0 [0,3,4,18,19,20] [4] Zqv [(.d (D.rptr [(zL t0 a0),(zL t1 a1),(D.list t2 (List.map Zy a2)),(D.list t3 (List.map Zz a3)),(zL t4 a4),(zL t5 a5),(D.list t6 (List.map Zs a6)),(Za a7)])),(.d (D.bool true)),(.sl 0 1),(.d (zL t0 a0)),(.d (Za (a0.length:Int))),(.d (Za s1.1))] [(.arr 1 (List.map Za s1.2))]=some ((Zee t0 t1 t2 t3 t4 t5 t6 a0 a1 a2 a3 a4 a5 a6 a7) r):=
 lpT (Zee t0 t1 t2 t3 t4 t5 t6 a0 a1 a2 a3 a4 a5 a6 a7) fun s1 _ ih=>yB (yG fun x2 _=>
  yB (yT (ZaX (ZeC Za s1.2 1) (Ze (Zex Za s1.2 [s1.1]) (Zl (ih _)))
  Z5))
  (Zl (ih _)))
  (Zp rfl)
def ZdO (t0:Bool) (t1:Bool) (t2:Bool) (t3:Bool) (t4:Bool) (t5:Bool) (t6:Bool) (a0:List Int) (a1:List Int) (a2:List Zb) (a3:List Zh) (a4:List Int) (a5:List Int) (a6:List Zt) (a7:Int):(List Int)→Ex×List V×Zd
  | r=>(.exit 0,[(.sl 0 1)],[(.arr 1 (List.map Za r))])
theorem ZgA {t0 t1:Bool}{t2 t3:Bool}{t4 t5 t6:Bool}{a0:List Int}{a1:List Int}{a2:List Zb}{a3:List Zh}{a4:List Int}{a5:List Int}{a6:List Zt}{a7:Int}:∀(s4:Int×(List Int)) (r:List Int),lp (ZaD a0 a3) s4=some r→lpW ctx 0 [0,3,4,18,19,20] [4] Zqv [(.d (D.rptr [(zL t0 a0),(zL t1 a1),(D.list t2 (List.map Zy a2)),(D.list t3 (List.map Zz a3)),(zL t4 a4),(zL t5 a5),(D.list t6 (List.map Zs a6)),(Za a7)])),(.d (D.bool false)),(.sl 0 1),(.d (zL t0 a0)),(.d (Za (a0.length:Int))),(.d (Za s4.1))] [(.arr 1 (List.map Za s4.2))]=some ((ZdO t0 t1 t2 t3 t4 t5 t6 a0 a1 a2 a3 a4 a5 a6 a7) r):=
 lpT (ZdO t0 t1 t2 t3 t4 t5 t6 a0 a1 a2 a3 a4 a5 a6 a7) fun s4 _ ih=>yB (yG fun x5 _=>
  yB (yG fun x6 _=>
  yB (yT (ZaX (ZeC Za s4.2 1) (Ze (Zex Za s4.2 [s4.1]) (Zl (ih _)))
  Z5))
  (Zl (ih _)))
  (Zl (ih _)))
  (Zp rfl)
theorem ZeP {t0 t1:Bool}{t2 t3:Bool}{t4 t5 t6:Bool}{a0:List Int}{a1:List Int}{a2:List Zb}{a3:List Zh}{a4:List Int}{a5:List Int}{a6:List Zt}{a7:Int}:∀r,(ZbE a0 a2 a3)=some r→evD ctx 183 [(.d (D.rptr [(zL t0 a0),(zL t1 a1),(D.list t2 (List.map Zy a2)),(D.list t3 (List.map Zz a3)),(zL t4 a4),(zL t5 a5),(D.list t6 (List.map Zs a6)),(Za a7)]))]=some (ZiB r):=
 evT Zw9 rfl rfl <| yC ZaW fun x0 _=>
  yB (Ze (Zq _ _) (Zf _ (Zg2 _) fun r3 _=>
  yR))
  (Ze (Zq _ _) (Zf _ (ZgA _) fun r7 _=>
  yR))
def Ziy (r:Bool):D:=(D.bool r)
theorem ZhS {t0 t1:Bool}{t2 t3:Bool}{t4 t5 t6:Bool}{a:Int}{b0:List Int}{b1:List Int}{b2:List Zb}{b3:List Zh}{b4:List Int}{b5:List Int}{b6:List Zt}{b7:Int}:∀r,(Zam a b7)=some r→evD ctx 198 [(.d (Za a)),(.d (D.rptr [(D.rptr [(zL t0 b0),(zL t1 b1),(D.list t2 (List.map Zy b2)),(D.list t3 (List.map Zz b3)),(zL t4 b4),(zL t5 b5),(D.list t6 (List.map Zs b6)),(Za b7)])]))]=some (Ziy r):=
 evT Zxn rfl rfl <| yBr yR
def ZbT (r:Int):D:=(Za r)
def Zac (t0:Bool) (t1:Bool) (t2:Bool) (t3:Bool) (t4:Bool) (t5:Bool) (t6:Bool) (t7:Bool) (a:List Int) (b0:List Int) (b1:List Int) (b2:List Zb) (b3:List Zh) (b4:List Int) (b5:List Int) (b6:List Zt) (b7:Int):(Int⊕Unit)→Ex×List V×Zd
  | (.inl r)=>(.ret,[(.d (Za r))],[])
  | (.inr r)=>(.exit 0,[.bad],[])
theorem Zbl {t0 t1:Bool}{t2 t3:Bool}{t4 t5:Bool}{t6 t7:Bool}{a:List Int}{b0:List Int}{b1:List Int}{b2:List Zb}{b3:List Zh}{b4:List Int}{b5:List Int}{b6:List Zt}{b7:Int}:∀(s0:Int) (r:(Int⊕Unit)),lp (Zv a (fun z0=>Zam z0 b7)) s0=some r→lpW ctx 0 [0,1,7,8] [4] ZlB [(.d (zL t0 a)),(.d (D.fn 198 [(D.rptr [(D.rptr [(zL t1 b0),(zL t2 b1),(D.list t3 (List.map Zy b2)),(D.list t4 (List.map Zz b3)),(zL t5 b4),(zL t6 b5),(D.list t7 (List.map Zs b6)),(Za b7)])])])),(.d (Za (a.length:Int))),(.d (Za s0))] []=some ((Zac t0 t1 t2 t3 t4 t5 t6 t7 a b0 b1 b2 b3 b4 b5 b6 b7) r):=
 lpT (Zac t0 t1 t2 t3 t4 t5 t6 t7 a b0 b1 b2 b3 b4 b5 b6 b7) fun s0 _ ih=>yB (yG fun x1 _=>
  yC ZhS fun x2 _=>
  yB (Zp rfl)
  (Zl (ih _)))
  (Zp rfl)
theorem ZbH {t0 t1:Bool}{t2 t3:Bool}{t4 t5:Bool}{t6 t7:Bool}{a:List Int}{b0:List Int}{b1:List Int}{b2:List Zb}{b3:List Zh}{b4:List Int}{b5:List Int}{b6:List Zt}{b7:Int}:∀r,(ZB a (fun z0=>Zam z0 b7))=some r→evD ctx 99 [(.d (zL t0 a)),(.d (D.fn 198 [(D.rptr [(D.rptr [(zL t1 b0),(zL t2 b1),(D.list t3 (List.map Zy b2)),(D.list t4 (List.map Zz b3)),(zL t5 b4),(zL t6 b5),(D.list t7 (List.map Zs b6)),(Za b7)])])]))]=some (ZbT r):=
 evT Zsf rfl rfl <| Ze (Zq _ _) (by
 conv=>rhs;whnf
 refine Zf _ (Zbl _) fun r3 _=>?_
 rcases r3 with r3 | r3
 exact yR
 exact yR)
def Zjv (r:Int):D:=(Za r)
theorem ZiF {t0 t1:Bool}{t2 t3:Bool}{t4 t5:Bool}{t6 t7 t8:Bool}{a0:List Int}{a1:List Int}{a2:List Zb}{a3:List Zh}{a4:List Int}{a5:List Int}{a6:List Zt}{a7:Int}{b:List Int}{c:List Int}{d:Int}:∀r,(Zci a7 b c d)=some r→evD ctx 184 [(.d (D.rptr [(zL t0 a0),(zL t1 a1),(D.list t2 (List.map Zy a2)),(D.list t3 (List.map Zz a3)),(zL t4 a4),(zL t5 a5),(D.list t6 (List.map Zs a6)),(Za a7)])),(.d (zL t7 b)),(.d (zL t8 c)),(.d (Za d))]=some (Zjv r):=
 evT Zva rfl rfl <| Ze (Zq _ _) (yB (yG fun x0 _=>
  Ze (Zq _ _) (yBn (yG fun x1 _=>
  yR)))
  (yC ZbH fun x2 _=>
  yG fun x3 _=>
  yR))
def Zlv (r:Bool):D:=(D.bool r)
theorem Zdp {a:Int}:∀r,(ZbI a)=some r→evD ctx 213 [(.d (Za a))]=some (Zlv r):=
 evT ZwR rfl rfl <| yBr (yBr yR)
def Zn8 (r:Bool):D:=(D.bool r)
theorem ZmL {a:Zh}:∀r,(ZfU a)=some r→evD ctx 210 [(.d (D.agg [(D.bool a.steal),(Za a.at_),(Za a.top),(Za a.bottom),(Za a.got),(Za a.end_)]))]=some (Zn8 r):=
 evT Zxr rfl rfl <| yB (yB (yB (yB (yBr (yC Zdp fun x0 _=>
  yBr (yC Zdp fun x1 _=>
  yBr yR)))
  yR)
  yR)
  yR)
  (yB (yB (yB (yBr (yC Zdp fun x2 _=>
  yBr (yC Zdp fun x3 _=>
  yBr yR)))
  yR)
  yR)
  yR)
def ZoN (t0:Bool) (a:Zb):Unit→V×Zd
  | r=>((.agg [(.sl 0 1),(.d (Za a.top)),(.d (Za a.bottom))]),[(.arr 1 (List.map Za a.ring))])
theorem ZiS {t0:Bool}{a:Zb}:∀r,(Zfl a)=some r→evW ctx 193 [(.d (D.agg [(zL t0 a.ring),(Za a.top),(Za a.bottom)]))] []=some ((ZoN t0 a) r):=
 evS ZvN rfl rfl <| Zf _ Zn fun x0 _=>
  yR
def ZmG (r:Int):D:=(Za r)
theorem ZdL {t0:Bool}{a:Zb}{b:Int}:∀r,(Zcm a b)=some r→evD ctx 194 [(.d (D.agg [(zL t0 a.ring),(Za a.top),(Za a.bottom)])),(.d (Za b))]=some (ZmG r):=
 evT Zvw rfl rfl <| Ze (Zq _ _) (yBn yR)
def Zou (m0_0:Int) (m0_1:Int) (m1_0:Bool) (m1_1:Int) (m1_2:Int) (m1_3:Int) (m1_4:Int) (m1_5:Int) (m2_0:List Int):(Unit⊕Unit)→V×Zd
  | (.inl r)=>((.d (D.bool false)),[(.cells [(.sl 2 1),(.d (Za m0_0)),(.d (Za m0_1))]),(.cells [(.d (D.bool m1_0)),(.d (Za m1_1)),(.d (Za m1_2)),(.d (Za m1_3)),(.d (Za m1_4)),(.d (Za m1_5))]),(.arr 1 (List.map Za m2_0))])
  | (.inr r)=>((.d (D.bool true)),[(.cells [(.sl 2 1),(.d (Za (w64 (m0_0+1)))),(.d (Za m0_1))]),(.cells [(.d (D.bool m1_0)),(.d (Za m1_1)),(.d (Za m1_2)),(.d (Za m1_3)),(.d (Za m1_4)),(.d (Za m1_5))]),(.arr 1 (List.map Za m2_0))])
theorem Ziq {m0_0 m0_1:Int}{m1_0:Bool}{m1_1 m1_2:Int}{m1_3 m1_4 m1_5:Int}{m2_0:List Int}:∀r,(Zc4 m0_0 m1_2)=some r→evW ctx 214 [(.ptr 0 0),(.ptr 1 0)] [(.cells [(.sl 2 1),(.d (Za m0_0)),(.d (Za m0_1))]),(.cells [(.d (D.bool m1_0)),(.d (Za m1_1)),(.d (Za m1_2)),(.d (Za m1_3)),(.d (Za m1_4)),(.d (Za m1_5))]),(.arr 1 (List.map Za m2_0))]=some ((Zou m0_0 m0_1 m1_0 m1_1 m1_2 m1_3 m1_4 m1_5 m2_0) r):=
 evS Zwu rfl rfl <| yBr yR
def ZmF (m0_0:Int) (m0_1:Int) (m1_0:Bool) (m1_1:Int) (m1_2:Int) (m1_3:Int) (m1_4:Int) (m1_5:Int) (m2_0:List Int):(Int×Int×Int×Int×Int×Int)→V×Zd
  | r=>((.d (D.tup [])),[(.cells [(.sl 2 1),(.d (Za r.1)),(.d (Za m0_1))]),(.cells [(.d (D.bool m1_0)),(.d (Za r.2.1)),(.d (Za r.2.2.1)),(.d (Za r.2.2.2.1)),(.d (Za r.2.2.2.2.1)),(.d (Za r.2.2.2.2.2))]),(.arr 1 (List.map Za m2_0))])
theorem ZlP {m0_0 m0_1:Int}{m1_0:Bool}{m1_1 m1_2:Int}{m1_3 m1_4 m1_5:Int}{m2_0:List Int}:∀r,(Za1 m0_0 m0_1 m1_1 m1_2 m1_3 m1_4 m1_5 m2_0)=some r→evW ctx 211 [(.ptr 0 0),(.ptr 1 0)] [(.cells [(.sl 2 1),(.d (Za m0_0)),(.d (Za m0_1))]),(.cells [(.d (D.bool m1_0)),(.d (Za m1_1)),(.d (Za m1_2)),(.d (Za m1_3)),(.d (Za m1_4)),(.d (Za m1_5))]),(.arr 1 (List.map Za m2_0))]=some ((ZmF m0_0 m0_1 m1_0 m1_1 m1_2 m1_3 m1_4 m1_5 m2_0) r):=
 evS Zwp rfl rfl <| yBr (yB (yBr yR)
  (yB (yC ZdL fun x0 _=>
  yG fun x1 hx1=>
  Zr (Zae rfl hx1) yR)
  (by
 conv=>rhs;whnf
 refine Zf _ Ziq fun x2 _=>?_
 rcases x2 with x2 | x2
 exact yR
 exact yR)))
def Zo1 (m0_0:Int) (m0_1:Int) (m1_0:Bool) (m1_1:Int) (m1_2:Int) (m1_3:Int) (m1_4:Int) (m1_5:Int) (m2_0:List Int):(Int×Int×Int×Int×Int×Int×Int)→V×Zd
  | r=>((.d (D.tup [])),[(.cells [(.sl 2 1),(.d (Za r.1)),(.d (Za r.2.1))]),(.cells [(.d (D.bool m1_0)),(.d (Za r.2.2.1)),(.d (Za r.2.2.2.1)),(.d (Za r.2.2.2.2.1)),(.d (Za r.2.2.2.2.2.1)),(.d (Za r.2.2.2.2.2.2))]),(.arr 1 (List.map Za m2_0))])
theorem ZnO {m0_0 m0_1:Int}{m1_0:Bool}{m1_1 m1_2:Int}{m1_3 m1_4 m1_5:Int}{m2_0:List Int}:∀r,(Za7 m0_0 m0_1 m1_1 m1_2 m1_3 m1_4 m1_5 m2_0)=some r→evW ctx 212 [(.ptr 0 0),(.ptr 1 0)] [(.cells [(.sl 2 1),(.d (Za m0_0)),(.d (Za m0_1))]),(.cells [(.d (D.bool m1_0)),(.d (Za m1_1)),(.d (Za m1_2)),(.d (Za m1_3)),(.d (Za m1_4)),(.d (Za m1_5))]),(.arr 1 (List.map Za m2_0))]=some ((Zo1 m0_0 m0_1 m1_0 m1_1 m1_2 m1_3 m1_4 m1_5 m2_0) r):=
 evS ZwM rfl rfl <| yBr (yB (yB (yC ZdL fun x0 _=>
  yG fun x1 hx1=>
  Zr (Zae rfl hx1) yR)
  (yBr yR))
  (yB ((by
 conv=>rhs;whnf
 refine Zf _ Ziq fun x2 _=>?_
 rcases x2 with x2 | x2
 exact yR
 exact yC ZdL fun x3 _=>
  yG fun x4 hx4=>
  Zr (Zae rfl hx4) yR))
  (yBr yR)))
def Zor (r:(Zb×Zh×Int)):D:=(D.tup [(D.agg [(zL true r.1.ring),(Za r.1.top),(Za r.1.bottom)]),(D.agg [(D.bool r.2.1.steal),(Za r.2.1.at_),(Za r.2.1.top),(Za r.2.1.bottom),(Za r.2.1.got),(Za r.2.1.end_)]),(Za r.2.2)])
theorem Zmr {t0:Bool}{a:Zb}{b:Zh}:∀r,(Zav a b)=some r→evD ctx 199 [(.d (D.agg [(zL t0 a.ring),(Za a.top),(Za a.bottom)])),(.d (D.agg [(D.bool b.steal),(Za b.at_),(Za b.top),(Za b.bottom),(Za b.got),(Za b.end_)]))]=some (Zor r):=
 evT Zwe rfl rfl <| yC ZcQ fun x0 _=>
  yBr (yC ZmL fun x1 _=>
  yB (Zf _ ZiS fun x2 _=>
  yB (Zf _ ZlP fun x3 _=>
  yC ZcQ fun x4 _=>
  yBr yR)
  (Zf _ ZnO fun x5 _=>
  yC ZcQ fun x6 _=>
  yBr yR))
  yR)
def Znz (r:List Int):D:=(zL true r)
def ZgX (t0:Bool) (t1:Bool) (t2:Bool) (t3:Bool) (a:Zm) (b:ZD):(List Int)→Ex×List V×Zd
  | r=>(.exit 0,[(.sl 0 1)],[(.arr 1 (List.map Za r))])
theorem Zka {t0 t1:Bool}{t2 t3:Bool}{a:Zm}{b:ZD}:∀(s0:Int×(List Int)) (r:List Int),lp (Zc8 a b) s0=some r→lpW ctx 0 [2,3,5,9,10] [5] Ztj [(.ptr 0 0),(.ptr 1 0),(.sl 2 1),(.d (Za (b.left.length:Int))),(.d (Za s0.1))] [(.cells [(.d (zL t0 a.work)),(.d (D.list t1 (List.map Zs a.edges)))]),(.cells [(.d (zL t2 b.on)),(.d (zL t3 b.left))]),(.arr 1 (List.map Za s0.2))]=some ((ZgX t0 t1 t2 t3 a b) r):=
 lpT (ZgX t0 t1 t2 t3 a b) fun s0 _ ih=>yB (yC Zdy fun x1 _=>
  yB (Zl (ih _))
  (yC ZT fun x2 _=>
  yB (Zl (ih _))
  (yC Zgb fun x3 _=>
  yB (yT (ZaX (ZeC Za s0.2 1) (Ze (Zex Za s0.2 [s0.1]) (Zl (ih _)))
  Z5))
  (Zl (ih _)))))
  (Zp rfl)
theorem Zip {t0 t1:Bool}{t2 t3:Bool}{a:Zm}{b:ZD}:∀r,(Zet a b)=some r→evD ctx 177 [(.d (D.agg [(zL t0 a.work),(D.list t1 (List.map Zs a.edges))])),(.d (D.agg [(zL t2 b.on),(zL t3 b.left)]))]=some (Znz r):=
 evT Zve rfl rfl <| Ze (Zq _ _) (Zf _ (Zka _) fun r4 _=>
  yR)
def Znm (r:List Int):D:=(zL true r)
theorem ZfF {t0 t1:Bool}{t2 t3:Bool}{a:Zm}{b:ZD}:∀r,(Zch a b)=some r→evD ctx 169 [(.d (D.agg [(zL t0 a.work),(D.list t1 (List.map Zs a.edges))])),(.d (D.agg [(zL t2 b.on),(zL t3 b.left)]))]=some (Znm r):=
 evT Zwl rfl rfl <| yC Zd1 fun x0 _=>
  yBr (yC Zip fun x1 _=>
  yR)
def Zja (t0:Bool) (t1:Bool) (b:Int) (c:Int) (m0_0:List Int) (m0_1:List Zt) (m0_2:Int) (m1_0:List Int) (m2_0:List Int) (m3_0:List Zb) (m4_0:List Zh) (m5_0:List Int):(List Zh)→V×Zd
  | r=>((.d (D.tup [])),[(.cells [(.sl 1 1),(.sl 2 1),(.sl 3 3),(.sl 4 6),(.sl 5 1),(.d (zL t0 m0_0)),(.d (D.list t1 (List.map Zs m0_1))),(.d (Za m0_2))]),(.arr 1 (List.map Za m1_0)),(.arr 1 (List.map Za m2_0)),(.arr 3 (List.map Zy m3_0)),(.arr 6 (List.map Zz r)),(.arr 1 (List.map Za (List.set m5_0 b.toNat c)))])
theorem Zdl {t0 t1:Bool}{b c:Int}{m0_0:List Int}{m0_1:List Zt}{m0_2:Int}{m1_0:List Int}{m2_0:List Int}{m3_0:List Zb}{m4_0:List Zh}{m5_0:List Int}:∀r,(ZaZ b c m4_0 m5_0)=some r→evW ctx 200 [(.ptr 0 0),(.d (Za b)),(.d (Za c))] [(.cells [(.sl 1 1),(.sl 2 1),(.sl 3 3),(.sl 4 6),(.sl 5 1),(.d (zL t0 m0_0)),(.d (D.list t1 (List.map Zs m0_1))),(.d (Za m0_2))]),(.arr 1 (List.map Za m1_0)),(.arr 1 (List.map Za m2_0)),(.arr 3 (List.map Zy m3_0)),(.arr 6 (List.map Zz m4_0)),(.arr 1 (List.map Za m5_0))]=some ((Zja t0 t1 b c m0_0 m0_1 m0_2 m1_0 m2_0 m3_0 m4_0 m5_0) r):=
 evS ZwW rfl rfl <| yG fun x0 hx0=>
  Zr (Zae rfl hx0) (Ze (Zcc Za m5_0 b.toNat c) (yB (yG fun x1 hx1=>
  Zr (Zae rfl hx1) (Ze (Zcc Zz m4_0 b.toNat (Zh.mk true 0 0 0 0 0)) yR))
  (yG fun x2 hx2=>
  Zr (Zae rfl hx2) (Ze (Zcc Zz m4_0 b.toNat (Zh.mk false 0 0 0 0 0)) yR))))
def ZjD (t0:Bool) (t1:Bool) (b:Int) (m0_0:List Int) (m0_1:List Zt) (m0_2:Int) (m1_0:List Int) (m2_0:List Int) (m3_0:List Zb) (m4_0:List Zh) (m5_0:List Int):(Int×(List Int)×(List Zb)×(List Zh)×(List Int))→V×Zd
  | r=>((.d (Za r.1)),[(.cells [(.sl 1 1),(.sl 2 1),(.sl 3 3),(.sl 4 6),(.sl 5 1),(.d (zL t0 m0_0)),(.d (D.list t1 (List.map Zs m0_1))),(.d (Za m0_2))]),(.arr 1 (List.map Za r.2.1)),(.arr 1 (List.map Za m2_0)),(.arr 3 (List.map Zy r.2.2.1)),(.arr 6 (List.map Zz r.2.2.2.1)),(.arr 1 (List.map Za r.2.2.2.2))])
theorem Zi5 {t0 t1:Bool}{b:Int}{m0_0:List Int}{m0_1:List Zt}{m0_2:Int}{m1_0:List Int}{m2_0:List Int}{m3_0:List Zb}{m4_0:List Zh}{m5_0:List Int}:∀r,(Zab b m0_0 m0_1 m1_0 m2_0 m3_0 m4_0 m5_0)=some r→evW ctx 185 [(.ptr 0 0),(.d (Za b))] [(.cells [(.sl 1 1),(.sl 2 1),(.sl 3 3),(.sl 4 6),(.sl 5 1),(.d (zL t0 m0_0)),(.d (D.list t1 (List.map Zs m0_1))),(.d (Za m0_2))]),(.arr 1 (List.map Za m1_0)),(.arr 1 (List.map Za m2_0)),(.arr 3 (List.map Zy m3_0)),(.arr 6 (List.map Zz m4_0)),(.arr 1 (List.map Za m5_0))]=some ((ZjD t0 t1 b m0_0 m0_1 m0_2 m1_0 m2_0 m3_0 m4_0 m5_0) r):=
 evS Zw7 rfl rfl <| Ze (Zq _ _) (yG fun x0 hx0=>
  Zr (Zae rfl hx0) (yBn (yG fun x1 hx1=>
  Zr (Zae rfl hx1) (yG fun x2 hx2=>
  Zr (Zae rfl hx2) (yC Zmr fun x3 _=>
  yBr (Zr (Zd9 rfl hx1) (Zr (Zae rfl hx1) (Ze (Zcc Zy m3_0 (Int.tmod (w64 (b+x0)) (m1_0.length:Int)).toNat x3.1) (Zr (Zd9 rfl hx2) (Zr (Zae rfl hx2) (Ze (Zcc Zz m4_0 b.toNat x3.2.1) (yB (yC ZfF fun x4 _=>
  yC ZT fun x5 _=>
  yB (yG fun x6 hx6=>
  Zr (Zae rfl hx6) (Ze (Zcc Za m1_0 b.toNat x3.2.1.got) (Zf _ Zdl fun x7 _=>
  yR)))
  yR)
  (yB (Zr (Zd9 rfl hx0) (Zr (Zae rfl hx0) (yBn (Zf _ Zdl fun x8 _=>
  yR))))
  (yB (Zr (Zd9 rfl hx0) (Zr (Zae rfl hx0) (yBn (Zf _ Zdl fun x9 _=>
  yR))))
  yR))))))))))))))
def Zjz (t0:Bool) (t1:Bool) (t2:Bool) (b:List Int) (m0_0:List Int) (m0_1:List Zt) (m0_2:Int) (m1_0:List Int) (m2_0:List Int) (m3_0:List Zb) (m4_0:List Zh) (m5_0:List Int):(Int×Int×Int×(List Int)×(List Zb)×(List Zh)×(List Int))→V×Zd
  | r=>((.d (D.tup [(Za r.1),(Za r.2.1)])),[(.cells [(.sl 1 1),(.sl 2 1),(.sl 3 3),(.sl 4 6),(.sl 5 1),(.d (zL t1 m0_0)),(.d (D.list t2 (List.map Zs m0_1))),(.d (Za r.2.2.1))]),(.arr 1 (List.map Za r.2.2.2.1)),(.arr 1 (List.map Za m2_0)),(.arr 3 (List.map Zy r.2.2.2.2.1)),(.arr 6 (List.map Zz r.2.2.2.2.2.1)),(.arr 1 (List.map Za r.2.2.2.2.2.2))])
def ZeD (t0:Bool) (t1:Bool) (t2:Bool) (b:List Int) (m0_0:List Int) (m0_1:List Zt) (m2_0:List Int):((Int×Int×Int×(List Int)×(List Zb)×(List Zh)×(List Int))⊕(Int×Int×(List Int)×(List Zb)×(List Zh)×(List Int)))→Ex×List V×Zd
  | (.inl r)=>(.ret,[(.d (Za 0)),(.d (Za r.1)),(.d (Za r.2.1))],[(.cells [(.sl 1 1),(.sl 2 1),(.sl 3 3),(.sl 4 6),(.sl 5 1),(.d (zL t1 m0_0)),(.d (D.list t2 (List.map Zs m0_1))),(.d (Za r.2.2.1))]),(.arr 1 (List.map Za r.2.2.2.1)),(.arr 1 (List.map Za m2_0)),(.arr 3 (List.map Zy r.2.2.2.2.1)),(.arr 6 (List.map Zz r.2.2.2.2.2.1)),(.arr 1 (List.map Za r.2.2.2.2.2.2))])
  | (.inr r)=>(.exit 0,[.bad,.bad,(.d (Za r.1))],[(.cells [(.sl 1 1),(.sl 2 1),(.sl 3 3),(.sl 4 6),(.sl 5 1),(.d (zL t1 m0_0)),(.d (D.list t2 (List.map Zs m0_1))),(.d (Za r.2.1))]),(.arr 1 (List.map Za r.2.2.1)),(.arr 1 (List.map Za m2_0)),(.arr 3 (List.map Zy r.2.2.2.1)),(.arr 6 (List.map Zz r.2.2.2.2.1)),(.arr 1 (List.map Za r.2.2.2.2.2))])
theorem ZhD {t0 t1 t2:Bool}{b:List Int}{m0_0:List Int}{m0_1:List Zt}{m2_0:List Int}:∀(s1:Int×(List Int)×Int×(List Int)×(List Zb)×(List Zh)×(List Int)) (r:((Int×Int×Int×(List Int)×(List Zb)×(List Zh)×(List Int))⊕(Int×Int×(List Int)×(List Zb)×(List Zh)×(List Int)))),lp (Za6 b m0_0 m0_1 m2_0) s1=some r→lpW ctx 6 [0,1,6,7] [4,5,6] Zti [(.ptr 0 0),(.d (zL t0 b)),(.d (Za s1.1)),(.d (zL true s1.2.1))] [(.cells [(.sl 1 1),(.sl 2 1),(.sl 3 3),(.sl 4 6),(.sl 5 1),(.d (zL t1 m0_0)),(.d (D.list t2 (List.map Zs m0_1))),(.d (Za s1.2.2.1))]),(.arr 1 (List.map Za s1.2.2.2.1)),(.arr 1 (List.map Za m2_0)),(.arr 3 (List.map Zy s1.2.2.2.2.1)),(.arr 6 (List.map Zz s1.2.2.2.2.2.1)),(.arr 1 (List.map Za s1.2.2.2.2.2.2))]=some ((ZeD t0 t1 t2 b m0_0 m0_1 m2_0) r):=
 lpT (ZeD t0 t1 t2 b m0_0 m0_1 m2_0) fun s1 _ ih=>Ze (Zq _ _) (yB (yC ZiF fun x2 _=>
  Zf _ Zi5 fun x3 _=>
  yB (Zp rfl)
  (yC ZeP fun x4 _=>
  Zl (ih _)))
  (Zp rfl))
theorem ZiE {t0 t1 t2:Bool}{b:List Int}{m0_0:List Int}{m0_1:List Zt}{m0_2:Int}{m1_0:List Int}{m2_0:List Int}{m3_0:List Zb}{m4_0:List Zh}{m5_0:List Int}:∀r,(Zdm b m0_0 m0_1 m1_0 m2_0 m3_0 m4_0 m5_0)=some r→evW ctx 174 [(.ptr 0 0),(.d (zL t0 b))] [(.cells [(.sl 1 1),(.sl 2 1),(.sl 3 3),(.sl 4 6),(.sl 5 1),(.d (zL t1 m0_0)),(.d (D.list t2 (List.map Zs m0_1))),(.d (Za m0_2))]),(.arr 1 (List.map Za m1_0)),(.arr 1 (List.map Za m2_0)),(.arr 3 (List.map Zy m3_0)),(.arr 6 (List.map Zz m4_0)),(.arr 1 (List.map Za m5_0))]=some ((Zjz t0 t1 t2 b m0_0 m0_1 m0_2 m1_0 m2_0 m3_0 m4_0 m5_0) r):=
 evS ZwS rfl rfl <| yC ZeP fun x0 _=>
  (by
 conv=>rhs;whnf
 refine Zf _ (ZhD _) fun r5 _=>?_
 rcases r5 with r5 | r5
 exact yR
 exact yR)
def Zox (r:(ZP×Int×Int)):D:=(D.tup [(D.agg [(zL true r.1.crew.on),(zL true r.1.crew.left),(D.list true (List.map Zy r.1.deques)),(D.list true (List.map Zz r.1.takers)),(zL true r.1.from_)]),(Za r.2.1),(Za r.2.2)])
theorem Zmt {t0 t1:Bool}{t2 t3:Bool}{t4 t5:Bool}{t6 t7:Bool}{a:Zm}{b:ZP}{c:List Int}:∀r,(Zf1 a b c)=some r→evD ctx 165 [(.d (D.agg [(zL t0 a.work),(D.list t1 (List.map Zs a.edges))])),(.d (D.agg [(zL t2 b.crew.on),(zL t3 b.crew.left),(D.list t4 (List.map Zy b.deques)),(D.list t5 (List.map Zz b.takers)),(zL t6 b.from_)])),(.d (zL t7 c))]=some (Zox r):=
 evT ZvC rfl rfl <| yC Zhh fun x0 _=>
  yBr (Zf _ Zi7 fun x1 _=>
  Zf _ ZiE fun x2 _=>
  yBr yR)
def ZjZ (r:(ZP×Int×Int)):D:=(D.tup [(D.agg [(zL true r.1.crew.on),(zL true r.1.crew.left),(D.list true (List.map Zy r.1.deques)),(D.list true (List.map Zz r.1.takers)),(zL true r.1.from_)]),(Za r.2.1),(Za r.2.2)])
theorem ZfK {t0 t1:Bool}{t2 t3:Bool}{t4 t5:Bool}{t6 t7:Bool}{a:ZiD}{b:Zm}{c:ZP}{d:List Int}:∀r,(ZdM a b c d)=some r→evD ctx 161 [(.d (D.agg [])),(.d (D.agg [(zL t0 b.work),(D.list t1 (List.map Zs b.edges))])),(.d (D.agg [(zL t2 c.crew.on),(zL t3 c.crew.left),(D.list t4 (List.map Zy c.deques)),(D.list t5 (List.map Zz c.takers)),(zL t6 c.from_)])),(.d (zL t7 d))]=some (ZjZ r):=
 evT Zvp rfl rfl <| yC Zmt fun x0 _=>
  yR
def Zqy (t0:Bool) (t1:Bool) (a:ZD):Unit→V×Zd
  | r=>((.agg [(.sl 0 1),(.sl 1 1)]),[(.arr 1 (List.map Za a.on)),(.arr 1 (List.map Za a.left))])
theorem ZjK {t0 t1:Bool}{a:ZD}:∀r,(ZeX a)=some r→evW ctx 201 [(.d (D.agg [(zL t0 a.on),(zL t1 a.left)]))] []=some ((Zqy t0 t1 a) r):=
 evS Zwy rfl rfl <| Zf _ Zn fun x0 _=>
  Zf _ Zn fun x1 _=>
  yR
def ZgD (m0_0:List Int):(List Int)→V×Zd
  | r=>((.d (D.tup [])),[(.arr 1 (List.map Za r))])
theorem Zdu {m0_0:List Int}:∀r,(ZaB m0_0)=some r→evW ctx 110 [(.sl 0 1)] [(.arr 1 (List.map Za m0_0))]=some ((ZgD m0_0) r):=
 evS ZyE rfl rfl <| Zr (Zr3 rfl) (yBm (Zw0 yR))
def ZoM (m0_0:List Int) (m1_0:List Int):((List Int)×(List Int)×(List Int))→V×Zd
  | r=>((.sl 2 1),[(.arr 1 (List.map Za r.1)),(.arr 1 (List.map Za r.2.1)),(.arr 1 (List.map Za r.2.2))])
def Zhg (m0_0:List Int):((List Int)×(List Int)×(List Int))→Ex×List V×Zd
  | r=>(.exit 0,[(.sl 2 1)],[(.arr 1 (List.map Za r.1)),(.arr 1 (List.map Za r.2.1)),(.arr 1 (List.map Za r.2.2))])
theorem ZkL {m0_0:List Int}:∀(s0:Int×(List Int)×(List Int)×(List Int)) (r:((List Int)×(List Int)×(List Int))),lp (ZcS m0_0) s0=some r→lpW ctx 2 [1,3,7,8,9] [3] ZtY [(.ptr 2 0),(.sl 3 1),(.sl 0 1),(.d (Za (m0_0.length:Int))),(.d (Za s0.1))] [(.arr 1 (List.map Za s0.2.1)),(.arr 1 (List.map Za s0.2.2.1)),(.cells [(.sl 0 1),(.sl 1 1)]),(.arr 1 (List.map Za s0.2.2.2))]=some ((Zhg m0_0) r):=
 lpT (Zhg m0_0) fun s0 _ ih=>yB (yG fun x1 hx1=>
  Zr (Zae rfl hx1) (yB (Zl (ih _))
  (yG fun x2 hx2=>
  Zr (Zae rfl hx2) (Zr (Zd9 rfl hx2) (Zr (Zae rfl hx2) (Ze (Zcc Za s0.2.2.1 x1.toNat (w64 (x2-1))) (yC Zdy fun x3 _=>
  yB (Zr (Zd9 rfl hx1) (Zr (Zae rfl hx1) (Ze (Zcc Za s0.2.1 s0.1.toNat (-1)) (yT (ZaX (ZeC Za s0.2.2.2 1) (Ze (Zex Za s0.2.2.2 [x1]) (Zl (ih _)))
  Z5)))))
  (Zl (ih _)))))))))
  (Zp rfl)
theorem ZnA {m0_0:List Int}{m1_0:List Int}:∀r,(Zje m0_0 m1_0)=some r→evW ctx 202 [(.agg [(.sl 0 1),(.sl 1 1)])] [(.arr 1 (List.map Za m0_0)),(.arr 1 (List.map Za m1_0))]=some ((ZoM m0_0 m1_0) r):=
 evS ZvP rfl rfl <| Ze (Zq _ _) (Zf _ (ZkL _) fun r4 _=>
  Zf _ Zdu fun x5 _=>
  yR)
def Zpa (t0:Bool) (t1:Bool) (t2:Bool) (t3:Bool) (a:Zm) (b:ZD):(Int⊕((List Int)×(List Int)×(List Int)))→V×Zd
  | (.inl r)=>((.tup [(.agg [(.nilsl 1),(.nilsl 1)]),(.nilsl 1),(.d (Za r))]),[])
  | (.inr r)=>((.tup [(.agg [(.sl 0 1),(.sl 1 1)]),(.sl 2 1),(.d (Za 0))]),[(.arr 1 (List.map Za r.1)),(.arr 1 (List.map Za r.2.1)),(.arr 1 (List.map Za r.2.2))])
theorem ZiH {t0 t1:Bool}{t2 t3:Bool}{a:Zm}{b:ZD}:∀r,(Zfj a b)=some r→evW ctx 186 [(.d (D.agg [(zL t0 a.work),(D.list t1 (List.map Zs a.edges))])),(.d (D.agg [(zL t2 b.on),(zL t3 b.left)]))] []=some ((Zpa t0 t1 t2 t3 a b) r):=
 evS ZvL rfl rfl <| yC Zd1 fun x0 _=>
  yBr (Zf _ ZjK fun x1 _=>
  Zf _ ZnA fun x2 _=>
  yR)
def ZmR (r:(Int×Bool)):D:=(D.tup [(Za r.1),(D.bool r.2)])
theorem ZlN {a:Zt}{b0:Int}:∀r,(Zdg a b0)=some r→evD ctx 203 [(.d (D.agg [(Za a.src),(Za a.dst)])),(.d (D.rptr [(Za b0)]))]=some (ZmR r):=
 evT Zxs rfl rfl <| yBr yR
def Zg4 (r:List Int):D:=(zL true r)
def Zdn (t1:Bool) (a:Zm) (b0:Int):(List Int)→Ex×List V×Zd
  | r=>(.exit 0,[(.sl 0 1)],[(.arr 1 (List.map Za r))])
theorem ZfB {t1:Bool}{a:Zm}{b0:Int}:∀(s0:Int×(List Int)) (r:List Int),lp (ZeA a (fun z0=>Zdg z0 b0)) s0=some r→lpW ctx 0 [1,5,11,12,13] [5] Zwz [(.d (D.fn 203 [(D.rptr [(Za b0)])])),(.sl 0 1),(.d (D.list t1 (List.map Zs a.edges))),(.d (Za (a.edges.length:Int))),(.d (Za s0.1))] [(.arr 1 (List.map Za s0.2))]=some ((Zdn t1 a b0) r):=
 lpT (Zdn t1 a b0) fun s0 _ ih=>yB (yG fun x1 _=>
  yC ZlN fun x2 _=>
  yB (yT (ZaX (ZeC Za s0.2 1) (Ze (Zex Za s0.2 [x2.1]) (Zl (ih _)))
  Z5))
  (Zl (ih _)))
  (Zp rfl)
theorem ZgE {t0 t1:Bool}{a:Zm}{b0:Int}:∀r,(Zlt a (fun z0=>Zdg z0 b0))=some r→evD ctx 92 [(.d (D.agg [(zL t0 a.work),(D.list t1 (List.map Zs a.edges))])),(.d (D.fn 203 [(D.rptr [(Za b0)])]))]=some (Zg4 r):=
 evT ZyR rfl rfl <| Ze (Zq _ _) (Zf _ (ZfB _) fun r3 _=>
  Zf _ Zdu fun x4 _=>
  yR)
def ZoQ (r:List Int):D:=(zL true r)
theorem Zn5 {t0 t1:Bool}{a:Zm}{b:Int}:∀r,(ZgM a b)=some r→evD ctx 187 [(.d (D.agg [(zL t0 a.work),(D.list t1 (List.map Zs a.edges))])),(.d (Za b))]=some (ZoQ r):=
 evT Zvb rfl rfl <| yC ZcM fun x0 _=>
  yBr (yC ZgE fun x1 _=>
  yR)
def ZnI (r:(Zb×Int)):D:=(D.tup [(D.agg [(zL true r.1.ring),(Za r.1.top),(Za r.1.bottom)]),(Za r.2)])
theorem Zmz {t0:Bool}{a:Zb}{b:Int}:∀r,(Zh2 a b)=some r→evD ctx 178 [(.d (D.agg [(zL t0 a.ring),(Za a.top),(Za a.bottom)])),(.d (Za b))]=some (ZnI r):=
 evT ZwJ rfl rfl <| yC ZcQ fun x0 _=>
  yBr (yBr (Ze (Zq _ _) (yBr (Zf _ ZiS fun x1 _=>
  yC ZdL fun x2 _=>
  yG fun x3 hx3=>
  Zr (Zae rfl hx3) (Ze (Zcc Za a.ring x2.toNat b) yR)))))
def Zjx (t0:Bool) (t1:Bool) (b:Int) (c:Int) (m0_0:List Int) (m0_1:List Zt) (m0_2:Int) (m1_0:List Int) (m2_0:List Int) (m3_0:List Zb) (m4_0:List Zh) (m5_0:List Int):((List Zb)⊕(List Zb))→V×Zd
  | (.inl r)=>((.d (D.bool true)),[(.cells [(.sl 1 1),(.sl 2 1),(.sl 3 3),(.sl 4 6),(.sl 5 1),(.d (zL t0 m0_0)),(.d (D.list t1 (List.map Zs m0_1))),(.d (Za m0_2))]),(.arr 1 (List.map Za m1_0)),(.arr 1 (List.map Za m2_0)),(.arr 3 (List.map Zy r)),(.arr 6 (List.map Zz m4_0)),(.arr 1 (List.map Za m5_0))])
  | (.inr r)=>((.d (D.bool false)),[(.cells [(.sl 1 1),(.sl 2 1),(.sl 3 3),(.sl 4 6),(.sl 5 1),(.d (zL t0 m0_0)),(.d (D.list t1 (List.map Zs m0_1))),(.d (Za m0_2))]),(.arr 1 (List.map Za m1_0)),(.arr 1 (List.map Za m2_0)),(.arr 3 (List.map Zy r)),(.arr 6 (List.map Zz m4_0)),(.arr 1 (List.map Za m5_0))])
theorem Zfr {t0 t1:Bool}{b c:Int}{m0_0:List Int}{m0_1:List Zt}{m0_2:Int}{m1_0:List Int}{m2_0:List Int}{m3_0:List Zb}{m4_0:List Zh}{m5_0:List Int}:∀r,(Zcg b c m3_0)=some r→evW ctx 170 [(.ptr 0 0),(.d (Za b)),(.d (Za c))] [(.cells [(.sl 1 1),(.sl 2 1),(.sl 3 3),(.sl 4 6),(.sl 5 1),(.d (zL t0 m0_0)),(.d (D.list t1 (List.map Zs m0_1))),(.d (Za m0_2))]),(.arr 1 (List.map Za m1_0)),(.arr 1 (List.map Za m2_0)),(.arr 3 (List.map Zy m3_0)),(.arr 6 (List.map Zz m4_0)),(.arr 1 (List.map Za m5_0))]=some ((Zjx t0 t1 b c m0_0 m0_1 m0_2 m1_0 m2_0 m3_0 m4_0 m5_0) r):=
 evS ZvY rfl rfl <| yG fun x0 hx0=>
  Zr (Zae rfl hx0) (yC Zmz fun x1 _=>
  yB (Zr (Zd9 rfl hx0) (Zr (Zae rfl hx0) (Ze (Zcc Zy m3_0 b.toNat x1.1) (yBr yR))))
  (yBr yR))
def ZjG (t0:Bool) (t1:Bool) (m0_0:List Int) (m0_1:List Zt) (m0_2:Int) (m1_0:List Int) (m2_0:List Int) (m3_0:List Zb) (m4_0:List Zh) (m5_0:List Int):(Int⊕(((List Zb)×(List Int)×(List Int))⊕((List Zb)×(List Int)×(List Int)×(List Int))))→V×Zd
  | (.inl r)=>((.tup [(.nilsl 1),(.d (Za r))]),[(.cells [(.sl 1 1),(.sl 2 1),(.sl 3 3),(.sl 4 6),(.sl 5 1),(.d (zL t0 m0_0)),(.d (D.list t1 (List.map Zs m0_1))),(.d (Za m0_2))]),(.arr 1 (List.map Za m1_0)),(.arr 1 (List.map Za m2_0)),(.arr 3 (List.map Zy m3_0)),(.arr 6 (List.map Zz m4_0)),(.arr 1 (List.map Za m5_0))])
  | (.inr (.inl r))=>((.tup [(.nilsl 1),(.d (Za 130))]),[(.cells [(.sl 6 1),(.sl 7 1),(.sl 3 3),(.sl 4 6),(.sl 5 1),(.d (zL t0 m0_0)),(.d (D.list t1 (List.map Zs m0_1))),(.d (Za m0_2))]),(.arr 1 (List.map Za m1_0)),(.arr 1 (List.map Za m2_0)),(.arr 3 (List.map Zy r.1)),(.arr 6 (List.map Zz m4_0)),(.arr 1 (List.map Za m5_0)),(.arr 1 (List.map Za r.2.1)),(.arr 1 (List.map Za r.2.2))])
  | (.inr (.inr r))=>((.tup [(.sl 6 1),(.d (Za 0))]),[(.cells [(.sl 7 1),(.sl 8 1),(.sl 3 3),(.sl 4 6),(.sl 5 1),(.d (zL t0 m0_0)),(.d (D.list t1 (List.map Zs m0_1))),(.d (Za m0_2))]),(.arr 1 (List.map Za m1_0)),(.arr 1 (List.map Za m2_0)),(.arr 3 (List.map Zy r.1)),(.arr 6 (List.map Zz m4_0)),(.arr 1 (List.map Za m5_0)),(.arr 1 (List.map Za r.2.1)),(.arr 1 (List.map Za r.2.2.1)),(.arr 1 (List.map Za r.2.2.2))])
def Zem (t0:Bool) (t1:Bool) (m0_0:List Int) (m0_1:List Zt) (m0_2:Int) (m1_0:List Int) (m2_0:List Int) (m4_0:List Zh) (m5_0:List Int) (x1:((List Int)×(List Int)×(List Int))) (x2:List Int) (s3:Int×(List Zb)×(List Int)) (x6:List Int):(((List Zb)×(List Int))⊕((List Zb)×(List Int)))→Ex×List V×Zd
  | (.inl r)=>(.ret,[(.ptr 0 0),(.nilsl 1),(.d (Za 130)),(.sl 6 1),(.d (zL true x2)),(.fn 1000170 [(.ptr 0 0)]),(.sl 7 1),(.sl 8 1),(.d (Za (m1_0.length:Int))),(.d (Za s3.1))],[(.cells [(.sl 9 1),(.sl 10 1),(.sl 3 3),(.sl 4 6),(.sl 5 1),(.d (zL t0 m0_0)),(.d (D.list t1 (List.map Zs m0_1))),(.d (Za m0_2))]),(.arr 1 (List.map Za m1_0)),(.arr 1 (List.map Za m2_0)),(.arr 3 (List.map Zy r.1)),(.arr 6 (List.map Zz m4_0)),(.arr 1 (List.map Za m5_0)),(.arr 1 (List.map Za x1.2.2)),(.arr 1 (List.map Za r.2)),(.arr 1 (List.map Za m1_0)),(.arr 1 (List.map Za x1.1)),(.arr 1 (List.map Za x1.2.1))])
  | (.inr r)=>(.exit 2,[(.ptr 0 0),.bad,.bad,(.sl 6 1),(.d (zL true x2)),(.fn 1000170 [(.ptr 0 0)]),(.sl 7 1),(.sl 8 1),(.d (Za (m1_0.length:Int))),(.d (Za s3.1))],[(.cells [(.sl 9 1),(.sl 10 1),(.sl 3 3),(.sl 4 6),(.sl 5 1),(.d (zL t0 m0_0)),(.d (D.list t1 (List.map Zs m0_1))),(.d (Za m0_2))]),(.arr 1 (List.map Za m1_0)),(.arr 1 (List.map Za m2_0)),(.arr 3 (List.map Zy r.1)),(.arr 6 (List.map Zz m4_0)),(.arr 1 (List.map Za m5_0)),(.arr 1 (List.map Za x1.2.2)),(.arr 1 (List.map Za r.2)),(.arr 1 (List.map Za m1_0)),(.arr 1 (List.map Za x1.1)),(.arr 1 (List.map Za x1.2.1))])
theorem ZhJ {t0 t1:Bool}{m0_0:List Int}{m0_1:List Zt}{m0_2:Int}{m1_0:List Int}{m2_0:List Int}{m4_0:List Zh}{m5_0:List Int}{x1:((List Int)×(List Int)×(List Int))}{x2:List Int}{s3:Int×(List Zb)×(List Int)}{x6:List Int}:∀(s7:Int×(List Zb)×(List Int)) (r:(((List Zb)×(List Int))⊕((List Zb)×(List Int)))),lp (ZaA x2 s3 x6) s7=some r→lpW ctx 6 [0,6,8,9,10,11,52,53,54,78,79,80] [0,2,3,6,8,9,10,52,53,54] ZtO [(.ptr 0 0),(.sl 6 1),(.d (zL true x2)),(.fn 1000170 [(.ptr 0 0)]),(.sl 7 1),(.d (Za s3.1)),(.sl 8 1),(.d (Za (m1_0.length:Int))),(.d (Za s3.1)),(.d (zL true x6)),(.d (Za (x6.length:Int))),(.d (Za s7.1))] [(.cells [(.sl 9 1),(.sl 10 1),(.sl 3 3),(.sl 4 6),(.sl 5 1),(.d (zL t0 m0_0)),(.d (D.list t1 (List.map Zs m0_1))),(.d (Za m0_2))]),(.arr 1 (List.map Za m1_0)),(.arr 1 (List.map Za m2_0)),(.arr 3 (List.map Zy s7.2.1)),(.arr 6 (List.map Zz m4_0)),(.arr 1 (List.map Za m5_0)),(.arr 1 (List.map Za x1.2.2)),(.arr 1 (List.map Za s7.2.2)),(.arr 1 (List.map Za m1_0)),(.arr 1 (List.map Za x1.1)),(.arr 1 (List.map Za x1.2.1))]=some ((Zem t0 t1 m0_0 m0_1 m0_2 m1_0 m2_0 m4_0 m5_0 x1 x2 s3 x6) r):=
 lpT (Zem t0 t1 m0_0 m0_1 m0_2 m1_0 m2_0 m4_0 m5_0 x1 x2 s3 x6) fun s7 _ ih=>yB (yG fun x8 _=>
  yC ZT fun x9 _=>
  yB (yC ZT fun x10 _=>
  yB (Zl (ih _))
  (by
 conv=>rhs;whnf
 refine Zf _ Zfr fun x11 _=>?_
 rcases x11 with x11 | x11
 exact yT (ZaX (ZeC Za s7.2.2 1) (Ze (Zex Za s7.2.2 [x8]) (Zl (ih _)))
  Z5)
 exact Zp rfl))
  (Zl (ih _)))
  (Zp rfl)
def Zel (t0:Bool) (t1:Bool) (m0_0:List Int) (m0_1:List Zt) (m0_2:Int) (m1_0:List Int) (m2_0:List Int) (m4_0:List Zh) (m5_0:List Int) (x1:((List Int)×(List Int)×(List Int))) (x2:List Int):((List Zb)⊕(List Zb))→Ex×List V×Zd
  | (.inl r)=>(.ret,[(.nilsl 1),(.d (Za 130)),(.sl 6 1)],[(.cells [(.sl 7 1),(.sl 8 1),(.sl 3 3),(.sl 4 6),(.sl 5 1),(.d (zL t0 m0_0)),(.d (D.list t1 (List.map Zs m0_1))),(.d (Za m0_2))]),(.arr 1 (List.map Za m1_0)),(.arr 1 (List.map Za m2_0)),(.arr 3 (List.map Zy r)),(.arr 6 (List.map Zz m4_0)),(.arr 1 (List.map Za m5_0)),(.arr 1 (List.map Za x1.2.2)),(.arr 1 (List.map Za x1.1)),(.arr 1 (List.map Za x1.2.1))])
  | (.inr r)=>(.exit 0,[.bad,.bad,(.sl 6 1)],[(.cells [(.sl 7 1),(.sl 8 1),(.sl 3 3),(.sl 4 6),(.sl 5 1),(.d (zL t0 m0_0)),(.d (D.list t1 (List.map Zs m0_1))),(.d (Za m0_2))]),(.arr 1 (List.map Za m1_0)),(.arr 1 (List.map Za m2_0)),(.arr 3 (List.map Zy r)),(.arr 6 (List.map Zz m4_0)),(.arr 1 (List.map Za m5_0)),(.arr 1 (List.map Za x1.2.2)),(.arr 1 (List.map Za x1.1)),(.arr 1 (List.map Za x1.2.1))])
theorem Zhu {t0 t1:Bool}{m0_0:List Int}{m0_1:List Zt}{m0_2:Int}{m1_0:List Int}{m2_0:List Int}{m4_0:List Zh}{m5_0:List Int}{x1:((List Int)×(List Int)×(List Int))}{x2:List Int}:∀(s3:Int×(List Zb)×(List Int)) (r:((List Zb)⊕(List Zb))),lp (ZaC m0_0 m0_1 m1_0 x1 x2) s3=some r→lpW ctx 6 [0,6,8,9,10,52,53,54] [2,3,6] ZtL [(.ptr 0 0),(.sl 6 1),(.d (zL true x2)),(.fn 1000170 [(.ptr 0 0)]),(.sl 7 1),(.sl 8 1),(.d (Za (m1_0.length:Int))),(.d (Za s3.1))] [(.cells [(.sl 9 1),(.sl 10 1),(.sl 3 3),(.sl 4 6),(.sl 5 1),(.d (zL t0 m0_0)),(.d (D.list t1 (List.map Zs m0_1))),(.d (Za m0_2))]),(.arr 1 (List.map Za m1_0)),(.arr 1 (List.map Za m2_0)),(.arr 3 (List.map Zy s3.2.1)),(.arr 6 (List.map Zz m4_0)),(.arr 1 (List.map Za m5_0)),(.arr 1 (List.map Za x1.2.2)),(.arr 1 (List.map Za s3.2.2)),(.arr 1 (List.map Za m1_0)),(.arr 1 (List.map Za x1.1)),(.arr 1 (List.map Za x1.2.1))]=some ((Zel t0 t1 m0_0 m0_1 m0_2 m1_0 m2_0 m4_0 m5_0 x1 x2) r):=
 lpT (Zel t0 t1 m0_0 m0_1 m0_2 m1_0 m2_0 m4_0 m5_0 x1 x2) fun s3 _ ih=>yB (yG fun x4 hx4=>
  Zr (Zae rfl hx4) (yB (Zl (ih _))
  (yG fun x5 hx5=>
  Zr (Zae rfl hx5) (yB (Zl (ih _))
  (yC Zn5 fun x6 _=>
  Ze (Zq _ _) (by
 conv=>rhs;whnf
 refine Zf _ (ZhJ _) fun r12 _=>?_
 rcases r12 with r12 | r12
 exact Zp rfl
 exact Zl (ih _)))))))
  (Zp rfl)
theorem Zjb {t0 t1:Bool}{m0_0:List Int}{m0_1:List Zt}{m0_2:Int}{m1_0:List Int}{m2_0:List Int}{m3_0:List Zb}{m4_0:List Zh}{m5_0:List Int}:∀r,(Zdo m0_0 m0_1 m1_0 m2_0 m3_0)=some r→evW ctx 175 [(.ptr 0 0)] [(.cells [(.sl 1 1),(.sl 2 1),(.sl 3 3),(.sl 4 6),(.sl 5 1),(.d (zL t0 m0_0)),(.d (D.list t1 (List.map Zs m0_1))),(.d (Za m0_2))]),(.arr 1 (List.map Za m1_0)),(.arr 1 (List.map Za m2_0)),(.arr 3 (List.map Zy m3_0)),(.arr 6 (List.map Zz m4_0)),(.arr 1 (List.map Za m5_0))]=some ((ZjG t0 t1 m0_0 m0_1 m0_2 m1_0 m2_0 m3_0 m4_0 m5_0) r):=
 evS Zw1 rfl rfl <| Zf _ Zn fun x0 _=>
  (by
 conv=>rhs;whnf
 refine Zf _ ZiH fun x1 _=>?_
 rcases x1 with x1 | x1
 exact yBm yR
 exact yF (yC ZfF fun x2 _=>
  Ze (Zq _ _) (by
 conv=>rhs;whnf
 refine Zf _ (Zhu _) fun r13 _=>?_
 rcases r13 with r13 | r13
 exact yR
 exact yR)))
def Zn2 (r:(ZP×(List Int)×Int)):D:=(D.tup [(D.agg [(zL true r.1.crew.on),(zL true r.1.crew.left),(D.list true (List.map Zy r.1.deques)),(D.list true (List.map Zz r.1.takers)),(zL true r.1.from_)]),(zL true r.2.1),(Za r.2.2)])
theorem ZmD {t0 t1:Bool}{t2 t3:Bool}{t4 t5 t6:Bool}{a:Zm}{b:ZP}:∀r,(ZfY a b)=some r→evD ctx 166 [(.d (D.agg [(zL t0 a.work),(D.list t1 (List.map Zs a.edges))])),(.d (D.agg [(zL t2 b.crew.on),(zL t3 b.crew.left),(D.list t4 (List.map Zy b.deques)),(D.list t5 (List.map Zz b.takers)),(zL t6 b.from_)]))]=some (Zn2 r):=
 evT ZvK rfl rfl <| yC Zhh fun x0 _=>
  yBr (Zf _ Zi7 fun x1 _=>
  (by
 conv=>rhs;whnf
 refine Zf _ Zjb fun x2 _=>?_
 rcases x2 with x2 | (x2 | x2)
 exact yBm yR
 exact yT yR
 exact yF yR))
def Zkr (r:(ZP×(List Int)×Int)):D:=(D.tup [(D.agg [(zL true r.1.crew.on),(zL true r.1.crew.left),(D.list true (List.map Zy r.1.deques)),(D.list true (List.map Zz r.1.takers)),(zL true r.1.from_)]),(zL true r.2.1),(Za r.2.2)])
theorem ZfL {t0 t1:Bool}{t2 t3:Bool}{t4 t5 t6:Bool}{a:ZiD}{b:Zm}{c:ZP}:∀r,(ZdE a b c)=some r→evD ctx 162 [(.d (D.agg [])),(.d (D.agg [(zL t0 b.work),(D.list t1 (List.map Zs b.edges))])),(.d (D.agg [(zL t2 c.crew.on),(zL t3 c.crew.left),(D.list t4 (List.map Zy c.deques)),(D.list t5 (List.map Zz c.takers)),(zL t6 c.from_)]))]=some (Zkr r):=
 evT Zxh rfl rfl <| yC ZmD fun x0 _=>
  yR
def Zo2 (t0:Bool) (t1:Bool) (a:Zm) (m0_0:List Int) (m1_0:List Int):(List Int)→V×Zd
  | r=>((.d (D.tup [])),[(.arr 1 (List.map Za r)),(.arr 1 (List.map Za m1_0))])
def Zhd (m0_0:List Int) (m1_0:List Int):(List Int)→Ex×List V×Zd
  | r=>(.exit 0,[],[(.arr 1 (List.map Za r)),(.arr 1 (List.map Za m1_0))])
theorem Zlh {m0_0:List Int}{m1_0:List Int}:∀(s1:(List Int)×Int×(List Int)) (r:List Int),lp (ZcE m0_0) s1=some r→lpW ctx 2 [3,4,11,12,13] [] Zte [(.ptr 2 0),(.d (zL true s1.1)),(.sl 0 1),(.d (Za (m0_0.length:Int))),(.d (Za s1.2.1))] [(.arr 1 (List.map Za s1.2.2)),(.arr 1 (List.map Za m1_0)),(.cells [(.sl 0 1),(.sl 1 1)])]=some ((Zhd m0_0 m1_0) r):=
 lpT (Zhd m0_0 m1_0) fun s1 _ ih=>yB (yG fun x2 hx2=>
  Zr (Zae rfl hx2) (yB (Ze (Zq _ _) (yB (yG fun x3 _=>
  yT (ZaX (ZqW Za s1.1 1) (Zk1 (ZvA Za (fun _=>⟨rfl,rfl⟩) s1.1 _) (Ze (Zoj Za s1.1 1) (Zr (Zd9 rfl hx2) (Zr (Zae rfl hx2) (Ze (Zcc Za s1.2.2 s1.2.1.toNat x3) (Zl (ih _)))))))
  Z5))
  (Zl (ih _))))
  (Zl (ih _))))
  (Zp rfl)
theorem Zov {t0 t1:Bool}{a:Zm}{m0_0:List Int}{m1_0:List Int}:∀r,(ZiX a m0_0 m1_0)=some r→evW ctx 220 [(.d (D.agg [(zL t0 a.work),(D.list t1 (List.map Zs a.edges))])),(.agg [(.sl 0 1),(.sl 1 1)])] [(.arr 1 (List.map Za m0_0)),(.arr 1 (List.map Za m1_0))]=some ((Zo2 t0 t1 a m0_0 m1_0) r):=
 evS ZwA rfl rfl <| yC Zip fun x0 _=>
  Ze (Zq _ _) (Zf _ (Zlh _) fun r4 _=>
  yR)
def Zpg (r:(ZD×Int)):D:=(D.tup [(D.agg [(zL true r.1.on),(zL true r.1.left)]),(Za r.2)])
theorem Zom {t0 t1:Bool}{t2 t3:Bool}{a:Zm}{b:ZD}:∀r,(ZgF a b)=some r→evD ctx 219 [(.d (D.agg [(zL t0 a.work),(D.list t1 (List.map Zs a.edges))])),(.d (D.agg [(zL t2 b.on),(zL t3 b.left)]))]=some (Zpg r):=
 evT Zxe rfl rfl <| yC Zd1 fun x0 _=>
  yBr (Zf _ ZjK fun x1 _=>
  Zf _ Zov fun x2 _=>
  yR)
def Zk8 (r:(ZP×Int×Int)):D:=(D.tup [(D.agg [(zL true r.1.crew.on),(zL true r.1.crew.left),(D.list true (List.map Zy r.1.deques)),(D.list true (List.map Zz r.1.takers)),(zL true r.1.from_)]),(Za r.2.1),(Za r.2.2)])
theorem Zgh {t0 t1:Bool}{t2 t3:Bool}{t4 t5:Bool}{t6 t7:Bool}{a:Zoo}{b:Zm}{c:ZP}{d:List Int}:∀r,(Zd3 a b c d)=some r→evD ctx 217 [(.d (D.agg [])),(.d (D.agg [(zL t0 b.work),(D.list t1 (List.map Zs b.edges))])),(.d (D.agg [(zL t2 c.crew.on),(zL t3 c.crew.left),(D.list t4 (List.map Zy c.deques)),(D.list t5 (List.map Zz c.takers)),(zL t6 c.from_)])),(.d (zL t7 d))]=some (Zk8 r):=
 evT Zvf rfl rfl <| yC Zom fun x0 _=>
  yR
def ZkY (r:(ZP×(List Int)×Int)):D:=(D.tup [(D.agg [(zL true r.1.crew.on),(zL true r.1.crew.left),(D.list true (List.map Zy r.1.deques)),(D.list true (List.map Zz r.1.takers)),(zL true r.1.from_)]),(zL true r.2.1),(Za r.2.2)])
theorem Zgv {t0 t1:Bool}{t2 t3:Bool}{t4 t5 t6:Bool}{a:Zoo}{b:Zm}{c:ZP}:∀r,(Zd2 a b c)=some r→evD ctx 218 [(.d (D.agg [])),(.d (D.agg [(zL t0 b.work),(D.list t1 (List.map Zs b.edges))])),(.d (D.agg [(zL t2 c.crew.on),(zL t3 c.crew.left),(D.list t4 (List.map Zy c.deques)),(D.list t5 (List.map Zz c.takers)),(zL t6 c.from_)]))]=some (ZkY r):=
 evT ZwH rfl rfl <| (by
 conv=>rhs;whnf
 refine Zf _ ZiH fun x0 _=>?_
 rcases x0 with x0 | x0
 exact yR
 exact yR)
def Zpb (r:(ZbG×Zbe×Int)):D:=(D.tup [(D.agg [(D.bool r.1.stealing),(zL true r.1.demand),(Za r.1.state),(zL true r.1.gang.crew.on),(zL true r.1.gang.crew.left),(D.list true (List.map Zy r.1.gang.deques)),(D.list true (List.map Zz r.1.gang.takers)),(zL true r.1.gang.from_)]),(D.agg [(zL true r.2.1.on),(zL true r.2.1.done),(Za r.2.1.steps)]),(Za r.2.2)])
theorem Zoy {t0 t1:Bool}{t2 t3:Bool}{t4 t5:Bool}{t6 t7 t8:Bool}{a:Zm}{b:ZbG}{c:List Int}:∀r,(Zfi a b c)=some r→evD ctx 36 [(.d (D.agg [(zL t0 a.work),(D.list t1 (List.map Zs a.edges))])),(.d (D.agg [(D.bool b.stealing),(zL t2 b.demand),(Za b.state),(zL t3 b.gang.crew.on),(zL t4 b.gang.crew.left),(D.list t5 (List.map Zy b.gang.deques)),(D.list t6 (List.map Zz b.gang.takers)),(zL t7 b.gang.from_)])),(.d (zL t8 c))]=some (Zpb r):=
 evT ZzT rfl rfl <| yB ((by
 conv=>rhs;whnf
 refine yC Zh9 fun x0 _=>?_
 rcases x0 with x0 | x0
 exact yC ZfK fun x1 _=>
  yBr (Zf _ Zn fun x2 _=>
  yC ZfL fun x3 _=>
  yBr (Zf _ Zn fun x4 _=>
  yC Zb4 fun x5 _=>
  yR))
 exact yC Zgh fun x6 _=>
  yBr (Zf _ Zn fun x7 _=>
  yC Zgv fun x8 _=>
  yBr (Zf _ Zn fun x9 _=>
  yC Zb4 fun x10 _=>
  yR))))
  (by
 conv=>rhs;whnf
 refine yC Zh9 fun x11 _=>?_
 rcases x11 with x11 | x11
 exact yC ZfK fun x12 _=>
  yBr (Zf _ Zn fun x13 _=>
  yC ZfL fun x14 _=>
  yBr (Zf _ Zn fun x15 _=>
  yC Zb4 fun x16 _=>
  yR))
 exact yC Zgh fun x17 _=>
  yBr (Zf _ Zn fun x18 _=>
  yC Zgv fun x19 _=>
  yBr (Zf _ Zn fun x20 _=>
  yC Zb4 fun x21 _=>
  yR)))
def ZoU (r:Int):D:=(Za r)
def Zhw (t0:Bool) (a:Zm):Int→Ex×List V×Zd
  | r=>(.exit 0,[(.d (Za r))],[])
theorem ZkO {t0:Bool}{a:Zm}:∀(s1:Int×Int) (r:Int),lp (Zds a) s1=some r→lpW ctx 0 [3,10,11,12] [3] Zv8 [(.d (Za s1.1)),(.d (zL t0 a.work)),(.d (Za (a.work.length:Int))),(.d (Za s1.2))] []=some ((Zhw t0 a) r):=
 lpT (Zhw t0 a) fun s1 _ ih=>yB (yG fun x2 _=>
  Zl (ih _))
  (Zp rfl)
theorem ZoC {t0 t1:Bool}{a:Zm}:∀r,(Zef a)=some r→evD ctx 30 [(.d (D.agg [(zL t0 a.work),(D.list t1 (List.map Zs a.edges))]))]=some (ZoU r):=
 evT Zy4 rfl rfl <| yC ZcM fun x0 _=>
  yB (Ze (Zq _ _) (Zf _ (ZkO _) fun r3 _=>
  yR))
  yR
def ZlL (r:Bool):D:=(D.bool r)
theorem ZkW {t0 t1 t2:Bool}{a:Zm}{b:List Int}:∀r,(ZeB a b)=some r→evD ctx 19 [(.d (D.agg [(zL t0 a.work),(D.list t1 (List.map Zs a.edges))])),(.d (zL t2 b))]=some (ZlL r):=
 evT ZyP rfl rfl <| yC Znw fun x0 _=>
  yB (Ze (Zq _ _) (yB (Zf _ Zgr fun x1 _=>
  yC ZoC fun x2 _=>
  yBr yR)
  yR))
  yR
def Zlj (r:Bool):D:=(D.bool r)
theorem Zkq {a:Int}:∀r,(Zbg a)=some r→evD ctx 94 [(.d (Za a))]=some (Zlj r):=
 evT ZzK rfl rfl <| yBr (yBr yR)
def Zcz (r:Int):D:=(Za r)
def Zal (t0:Bool) (a:List Int):(Int⊕Unit)→Ex×List V×Zd
  | (.inl r)=>(.ret,[(.d (Za r))],[])
  | (.inr r)=>(.exit 0,[.bad],[])
theorem ZbR {t0:Bool}{a:List Int}:∀(s0:Int) (r:(Int⊕Unit)),lp (Zv a (fun z0=>Zbg z0)) s0=some r→lpW ctx 0 [0,1,7,8] [4] ZlB [(.d (zL t0 a)),(.d (D.fn 94 [])),(.d (Za (a.length:Int))),(.d (Za s0))] []=some ((Zal t0 a) r):=
 lpT (Zal t0 a) fun s0 _ ih=>yB (yG fun x1 _=>
  yC Zkq fun x2 _=>
  yB (Zp rfl)
  (Zl (ih _)))
  (Zp rfl)
theorem Zct {t0:Bool}{a:List Int}:∀r,(ZB a (fun z0=>Zbg z0))=some r→evD ctx 99 [(.d (zL t0 a)),(.d (D.fn 94 []))]=some (Zcz r):=
 evT Zsf rfl rfl <| Ze (Zq _ _) (by
 conv=>rhs;whnf
 refine Zf _ (ZbR _) fun r3 _=>?_
 rcases r3 with r3 | r3
 exact yR
 exact yR)
def Zb0 (r:Bool):D:=(D.bool r)
theorem ZbS {t0:Bool}{a:List Int}:∀r,(Zw a (fun z0=>Zbg z0))=some r→evD ctx 66 [(.d (zL t0 a)),(.d (D.fn 94 []))]=some (Zb0 r):=
 evT ZuD rfl rfl <| yC Zct fun x0 _=>
  yBr yR
def Zmw (r:(Bool×Int)):D:=(D.tup [(D.bool r.1),(Za r.2)])
theorem ZlR {t0 t1 t2:Bool}{a:Zm}{b:List Int}{c:Int}:∀r,(Zfb a b c)=some r→evD ctx 59 [(.d (D.agg [(zL t0 a.work),(D.list t1 (List.map Zs a.edges))])),(.d (zL t2 b)),(.d (Za c))]=some (Zmw r):=
 evT Zy0 rfl rfl <| yC ZcM fun x0 _=>
  yBr (Ze (Zq _ _) (Ze (Zq _ _) (yB (yC ZbS fun x1 _=>
  yBr (yB (yBr yR)
  yR))
  yR)))
def Zlr (r:Bool):D:=(D.bool r)
theorem Zld {t0:Bool}{a:List Int}{b0:Int}:∀r,(ZcF a b0)=some r→evD ctx 83 [(.d (zL t0 a)),(.d (D.rptr [(Za b0)]))]=some (Zlr r):=
 evT Zy5 rfl rfl <| Ze (Zq _ _) (yBr yR)
def Zcu (r:Int):D:=(Za r)
def Zah (t0:Bool) (a:(List (List Int))) (b0:Int):(Int⊕Unit)→Ex×List V×Zd
  | (.inl r)=>(.ret,[(.d (Za r))],[])
  | (.inr r)=>(.exit 0,[.bad],[])
theorem ZbK {t0:Bool}{a:(List (List Int))}{b0:Int}:∀(s0:Int) (r:(Int⊕Unit)),lp (ZbW a (fun z0=>ZcF z0 b0)) s0=some r→lpW ctx 0 [0,1,7,8] [4] ZtK [(.d (D.list t0 (List.map (Zdb true) a))),(.d (D.fn 83 [(D.rptr [(Za b0)])])),(.d (Za (a.length:Int))),(.d (Za s0))] []=some ((Zah t0 a b0) r):=
 lpT (Zah t0 a b0) fun s0 _ ih=>yB (yG fun x1 _=>
  yC Zld fun x2 _=>
  yB (Zp rfl)
  (Zl (ih _)))
  (Zp rfl)
theorem Zcl {t0:Bool}{a:(List (List Int))}{b0:Int}:∀r,(ZaY a (fun z0=>ZcF z0 b0))=some r→evD ctx 108 [(.d (D.list t0 (List.map (Zdb true) a))),(.d (D.fn 83 [(D.rptr [(Za b0)])]))]=some (Zcu r):=
 evT ZvR rfl rfl <| Ze (Zq _ _) (by
 conv=>rhs;whnf
 refine Zf _ (ZbK _) fun r3 _=>?_
 rcases r3 with r3 | r3
 exact yR
 exact yR)
def ZbP (r:Bool):D:=(D.bool r)
theorem ZbF {t0:Bool}{a:(List (List Int))}{b0:Int}:∀r,(Zaa a (fun z0=>ZcF z0 b0))=some r→evD ctx 84 [(.d (D.list t0 (List.map (Zdb true) a))),(.d (D.fn 83 [(D.rptr [(Za b0)])]))]=some (ZbP r):=
 evT ZzD rfl rfl <| yC Zcl fun x0 _=>
  yBr yR
def Zmv (t0:Bool) (a:List Int):(List Int)→V×Zd
  | r=>((.ptr 0 0),[(.cells [(.d (zL t0 a)),(.sl 1 1),(.sl 2 2),(.sl 3 1)]),(.arr 1 (List.map Za (List.replicate (a.length:Int).toNat (0:Int)))),(.arr 2 (List.map Zdr (List.replicate (a.length:Int).toNat ((Zad.mk 0 0):Zad)))),(.arr 1 (List.map Za r))])
def Zgz (t0:Bool) (a:List Int):(List Int)→Ex×List V×Zd
  | r=>(.exit 0,[(.ptr 0 0)],[(.cells [(.d (zL t0 a)),(.sl 1 1),(.sl 2 2),(.sl 3 1)]),(.arr 1 (List.map Za (List.replicate (a.length:Int).toNat (0:Int)))),(.arr 2 (List.map Zdr (List.replicate (a.length:Int).toNat ((Zad.mk 0 0):Zad)))),(.arr 1 (List.map Za r))])
theorem ZjA {t0:Bool}{a:List Int}:∀(s0:Int×(List Int)) (r:List Int),lp (ZaS a) s0=some r→lpW ctx 0 [3,18,19] [3] Zwa [(.ptr 0 0),(.d (Za (a.length:Int))),(.d (Za s0.1))] [(.cells [(.d (zL t0 a)),(.sl 1 1),(.sl 2 2),(.sl 3 1)]),(.arr 1 (List.map Za (List.replicate (a.length:Int).toNat (0:Int)))),(.arr 2 (List.map Zdr (List.replicate (a.length:Int).toNat ((Zad.mk 0 0):Zad)))),(.arr 1 (List.map Za s0.2))]=some ((Zgz t0 a) r):=
 lpT (Zgz t0 a) fun s0 _ ih=>yB (yG fun x1 hx1=>
  Zr (Zae rfl hx1) (Ze (Zcc Za s0.2 s0.1.toNat (-1)) (Zl (ih _))))
  (Zp rfl)
theorem ZlY {t0:Bool}{a:List Int}:∀r,(Ze6 a)=some r→evW ctx 85 [(.d (zL t0 a))] []=some ((Zmv t0 a) r):=
 evS ZyX rfl rfl <| Ze (Zq _ _) (yBm (Ze (Zh3 Za (0:Int) (a.length:Int)) (Ze (Zq _ _) (yBm (Ze (Zh3 Zdr ((Zad.mk 0 0):Zad) (a.length:Int)) (Ze (Zq _ _) (yBm (Ze (Zh3 Za (0:Int) (a.length:Int)) (Ze (Zq _ _) (Zf _ (ZjA _) fun r2 _=>
  yR))))))))))
def Zjy (r:Bool):D:=(D.bool r)
theorem Zjf {t0 t1:Bool}{t2 t3:Bool}{a0:List Int}{a1:List Int}{a2:List Zad}{a3:List Int}{b c:Int}:∀r,(ZgL a3 b c)=some r→evD ctx 91 [(.d (D.rptr [(zL t0 a0),(zL t1 a1),(D.list t2 (List.map Zdr a2)),(zL t3 a3)])),(.d (Za b)),(.d (Za c))]=some (Zjy r):=
 evT Zzl rfl rfl <| yG fun x0 hx0=>
  yB (Zr (Zd9 rfl hx0) (yBr yR))
  yR
def ZiA (r:Bool):D:=(D.bool r)
theorem Zie {t0 t1:Bool}{t2 t3:Bool}{a:Zt}{b0:Int}{c0:List Int}{c1:List Int}{c2:List Zad}{c3:List Int}{d0:Int}:∀r,(Zbm a b0 c3 d0)=some r→evD ctx 90 [(.d (D.agg [(Za a.src),(Za a.dst)])),(.d (D.rptr [(Za b0)])),(.d (D.rptr [(D.rptr [(zL t0 c0),(zL t1 c1),(D.list t2 (List.map Zdr c2)),(zL t3 c3)])])),(.d (D.rptr [(Za d0)]))]=some (ZiA r):=
 evT ZzN rfl rfl <| yB (yC Zjf fun x0 _=>
  yBr yR)
  yR
def ZbA (r:Int):D:=(Za r)
def Z8 (t0:Bool) (t1:Bool) (t2:Bool) (t3:Bool) (t4:Bool) (a:List Zt) (b0:Int) (b1:List Int) (b2:List Int) (b3:List Zad) (b4:List Int) (b5:Int):(Int⊕Unit)→Ex×List V×Zd
  | (.inl r)=>(.ret,[(.d (Za r))],[])
  | (.inr r)=>(.exit 0,[.bad],[])
theorem Zbb {t0 t1:Bool}{t2 t3 t4:Bool}{a:List Zt}{b0:Int}{b1:List Int}{b2:List Int}{b3:List Zad}{b4:List Int}{b5:Int}:∀(s0:Int) (r:(Int⊕Unit)),lp (ZW a (fun z0=>Zbm z0 b0 b4 b5)) s0=some r→lpW ctx 0 [0,1,7,8] [4] Zqc [(.d (D.list t0 (List.map Zs a))),(.d (D.fn 90 [(D.rptr [(Za b0)]),(D.rptr [(D.rptr [(zL t1 b1),(zL t2 b2),(D.list t3 (List.map Zdr b3)),(zL t4 b4)])]),(D.rptr [(Za b5)])])),(.d (Za (a.length:Int))),(.d (Za s0))] []=some ((Z8 t0 t1 t2 t3 t4 a b0 b1 b2 b3 b4 b5) r):=
 lpT (Z8 t0 t1 t2 t3 t4 a b0 b1 b2 b3 b4 b5) fun s0 _ ih=>yB (yG fun x1 _=>
  yC Zie fun x2 _=>
  yB (Zp rfl)
  (Zl (ih _)))
  (Zp rfl)
theorem Zbq {t0 t1:Bool}{t2 t3 t4:Bool}{a:List Zt}{b0:Int}{b1:List Int}{b2:List Int}{b3:List Zad}{b4:List Int}{b5:Int}:∀r,(Zai a (fun z0=>Zbm z0 b0 b4 b5))=some r→evD ctx 109 [(.d (D.list t0 (List.map Zs a))),(.d (D.fn 90 [(D.rptr [(Za b0)]),(D.rptr [(D.rptr [(zL t1 b1),(zL t2 b2),(D.list t3 (List.map Zdr b3)),(zL t4 b4)])]),(D.rptr [(Za b5)])]))]=some (ZbA r):=
 evT ZtE rfl rfl <| Ze (Zq _ _) (by
 conv=>rhs;whnf
 refine Zf _ (Zbb _) fun r3 _=>?_
 rcases r3 with r3 | r3
 exact yR
 exact yR)
def Zbj (r:Bool):D:=(D.bool r)
theorem Zbc {t0 t1:Bool}{t2 t3 t4:Bool}{a:List Zt}{b0:Int}{b1:List Int}{b2:List Int}{b3:List Zad}{b4:List Int}{b5:Int}:∀r,(ZO a (fun z0=>Zbm z0 b0 b4 b5))=some r→evD ctx 89 [(.d (D.list t0 (List.map Zs a))),(.d (D.fn 90 [(D.rptr [(Za b0)]),(D.rptr [(D.rptr [(zL t1 b1),(zL t2 b2),(D.list t3 (List.map Zdr b3)),(zL t4 b4)])]),(D.rptr [(Za b5)])]))]=some (Zbj r):=
 evT Zx1 rfl rfl <| yC Zbq fun x0 _=>
  yBr yR
def ZjE (r:Bool):D:=(D.bool r)
theorem Zfx {t0 t1:Bool}{t2 t3:Bool}{t4 t5:Bool}{a0:List Int}{a1:List Int}{a2:List Zad}{a3:List Int}{b:Zm}{c d:Int}:∀r,(Zeu a3 b c d)=some r→evD ctx 56 [(.d (D.rptr [(zL t0 a0),(zL t1 a1),(D.list t2 (List.map Zdr a2)),(zL t3 a3)])),(.d (D.agg [(zL t4 b.work),(D.list t5 (List.map Zs b.edges))])),(.d (Za c)),(.d (Za d))]=some (ZjE r):=
 evT Zzq rfl rfl <| yC Zbc fun x0 _=>
  yBr yR
def ZjT (r:Int):D:=(Za r)
theorem ZjC {t0 t1:Bool}{t2 t3:Bool}{t4 t5 t6:Bool}{a0:List Int}{a1:List Int}{a2:List Zad}{a3:List Int}{b:Zm}{c:List Int}{d e:Int}:∀r,(ZhH a0 a1 a2 a3 b c d e)=some r→evD ctx 86 [(.d (D.rptr [(zL t0 a0),(zL t1 a1),(D.list t2 (List.map Zdr a2)),(zL t3 a3)])),(.d (D.agg [(zL t4 b.work),(D.list t5 (List.map Zs b.edges))])),(.d (zL t6 c)),(.d (Za d)),(.d (Za e))]=some (ZjT r):=
 evT ZzE rfl rfl <| yG fun x0 _=>
  yBr (Ze (Zq _ _) (yBr (yBm (ZaX (Zwd Za c e.toNat) (yT (Ze (ZqK Za c e.toNat) (yC ZT fun x1 _=>
  yBr (yG fun x2 hx2=>
  yG fun x3 _=>
  yBr (Zr (Zd9 rfl hx2) (yB (yG fun x4 _=>
  yBr (Zr (Zd9 rfl hx2) (yB (yC Zfx fun x5 _=>
  yBr yR)
  yR)))
  (Zr (Zd9 rfl hx2) (yB (yC Zfx fun x6 _=>
  yBr yR)
  yR))))))))
  Z5))))
def Zoc (t0:Bool) (t1:Bool) (b:Int) (c:List Int) (m0_0:List Int) (m1_0:List Int) (m2_0:List Zad) (m3_0:List Int):Unit→V×Zd
  | r=>((.d (D.tup [])),[(.cells [(.d (zL t1 m0_0)),(.sl 1 1),(.sl 2 2),(.sl 3 1)]),(.arr 1 (List.map Za m1_0)),(.arr 2 (List.map Zdr m2_0)),(.arr 1 (List.map Za m3_0))])
theorem Zmy {t0 t1:Bool}{b:Int}{c:List Int}{m0_0:List Int}{m1_0:List Int}{m2_0:List Zad}{m3_0:List Int}:∀r,(Zk4 b c)=some r→evW ctx 53 [(.ptr 0 0),(.d (Za b)),(.d (zL t0 c))] [(.cells [(.d (zL t1 m0_0)),(.sl 1 1),(.sl 2 2),(.sl 3 1)]),(.arr 1 (List.map Za m1_0)),(.arr 2 (List.map Zdr m2_0)),(.arr 1 (List.map Za m3_0))]=some ((Zoc t0 t1 b c m0_0 m1_0 m2_0 m3_0) r):=
 evS Zz5 rfl rfl <| yR
def Zj1 (t0:Bool) (b:Int) (c:Int) (d:Int) (m0_0:List Int) (m1_0:List Int) (m2_0:List Zad) (m3_0:List Int):((List Int)×(List Int))→V×Zd
  | r=>((.d (D.tup [])),[(.cells [(.d (zL t0 m0_0)),(.sl 1 1),(.sl 2 2),(.sl 3 1)]),(.arr 1 (List.map Za r.1)),(.arr 2 (List.map Zdr (List.set m2_0 b.toNat (Zad.mk c d)))),(.arr 1 (List.map Za r.2))])
theorem Zjw {t0:Bool}{b c d:Int}{m0_0:List Int}{m1_0:List Int}{m2_0:List Zad}{m3_0:List Int}:∀r,(Zhf b c d m0_0 m1_0 m2_0 m3_0)=some r→evW ctx 87 [(.ptr 0 0),(.d (Za b)),(.d (Za c)),(.d (Za d))] [(.cells [(.d (zL t0 m0_0)),(.sl 1 1),(.sl 2 2),(.sl 3 1)]),(.arr 1 (List.map Za m1_0)),(.arr 2 (List.map Zdr m2_0)),(.arr 1 (List.map Za m3_0))]=some ((Zj1 t0 b c d m0_0 m1_0 m2_0 m3_0) r):=
 evS Zzy rfl rfl <| yG fun x0 hx0=>
  Zr (Zae rfl hx0) (Zr (Zd9 rfl hx0) (Zr (Zae rfl hx0) (Ze (Zcc Za m1_0 b.toNat (w64 (x0+1))) (yG fun x1 hx1=>
  Zr (Zae rfl hx1) (Ze (Zcc Zdr m2_0 b.toNat (Zad.mk c d)) (yG fun x2 hx2=>
  Zr (Zae rfl hx2) (yG fun x3 _=>
  yB (yG fun x4 hx4=>
  Zr (Zae rfl hx4) (Ze (Zcc Za m3_0 b.toNat (w64 (c+1))) yR))
  yR)))))))
def Zgi (t0:Bool) (t1:Bool) (t2:Bool) (t3:Bool) (a:Zm) (b:List Int) (c:Int) (d:(List (List Int))):(Int⊕(Int×(List Int)×(List Zad)×(List Int)))→V×Zd
  | (.inl r)=>((.d (D.tup [(D.nilp),(Za r)])),[])
  | (.inr r)=>((.tup [(.ptr 0 0),(.d (Za r.1))]),[(.cells [(.d (zL t2 b)),(.sl 1 1),(.sl 2 2),(.sl 3 1)]),(.arr 1 (List.map Za r.2.1)),(.arr 2 (List.map Zdr r.2.2.1)),(.arr 1 (List.map Za r.2.2.2))])
def ZcX (t0:Bool) (t1:Bool) (t2:Bool) (t3:Bool) (a:Zm) (b:List Int) (d:(List (List Int))) (s3:Int×Int×(List Int)×(List Zad)×(List Int)) (x4:List Int):(Int⊕Int)→Ex×List V×Zd
  | (.inl r)=>(.exit 0,[(.d (D.fn 53 [])),(.ptr 0 0),(.d (Za r)),(.ptr 1 0),(.d (Za s3.2.1)),(.d (zL true x4)),(.d (D.list t3 (List.map (Zdb true) d))),(.d (Za (d.length:Int))),(.d (Za s3.2.1))],[(.cells [(.d (zL t0 a.work)),(.d (D.list t1 (List.map Zs a.edges)))]),(.cells [(.d (zL t2 b)),(.sl 2 1),(.sl 3 2),(.sl 4 1)]),(.arr 1 (List.map Za s3.2.2.1)),(.arr 2 (List.map Zdr s3.2.2.2.1)),(.arr 1 (List.map Za s3.2.2.2.2))])
  | (.inr r)=>(.exit 2,[(.d (D.fn 53 [])),(.ptr 0 0),(.d (Za r)),(.ptr 1 0),(.d (Za s3.2.1)),(.d (zL true x4)),(.d (D.list t3 (List.map (Zdb true) d))),(.d (Za (d.length:Int))),(.d (Za s3.2.1))],[(.cells [(.d (zL t0 a.work)),(.d (D.list t1 (List.map Zs a.edges)))]),(.cells [(.d (zL t2 b)),(.sl 2 1),(.sl 3 2),(.sl 4 1)]),(.arr 1 (List.map Za s3.2.2.1)),(.arr 2 (List.map Zdr s3.2.2.2.1)),(.arr 1 (List.map Za s3.2.2.2.2))])
theorem ZeT {t0 t1:Bool}{t2 t3:Bool}{a:Zm}{b:List Int}{d:(List (List Int))}{s3:Int×Int×(List Int)×(List Zad)×(List Int)}{x4:List Int}:∀(s5:Int×Int) (r:(Int⊕Int)),lp (Zit a b s3 x4) s5=some r→lpW ctx 0 [4,5,13,15,16,17,47,48,49,54,55,56] [4,5,13,15,16,17,47,48,49] Zv1 [(.d (D.fn 53 [])),(.ptr 0 0),(.d (Za s5.1)),(.ptr 1 0),(.d (Za s3.2.1)),(.d (zL true x4)),(.d (D.list t3 (List.map (Zdb true) d))),(.d (Za (d.length:Int))),(.d (Za s3.2.1)),(.d (zL true x4)),(.d (Za (x4.length:Int))),(.d (Za s5.2))] [(.cells [(.d (zL t0 a.work)),(.d (D.list t1 (List.map Zs a.edges)))]),(.cells [(.d (zL t2 b)),(.sl 2 1),(.sl 3 2),(.sl 4 1)]),(.arr 1 (List.map Za s3.2.2.1)),(.arr 2 (List.map Zdr s3.2.2.2.1)),(.arr 1 (List.map Za s3.2.2.2.2))]=some ((ZcX t0 t1 t2 t3 a b d s3 x4) r):=
 lpT (ZcX t0 t1 t2 t3 a b d s3 x4) fun s5 _ ih=>yB (yG fun x6 _=>
  yB (Zl (ih _))
  (yC ZjC fun x7 _=>
  yB (Zp rfl)
  (Zl (ih _))))
  (Zp rfl)
def Zc0 (t0:Bool) (t1:Bool) (t2:Bool) (t3:Bool) (a:Zm) (b:List Int) (d:(List (List Int))) (s3:Int×Int×(List Int)×(List Zad)×(List Int)) (x4:List Int) (r8:Int):((List Int)×(List Zad)×(List Int))→Ex×List V×Zd
  | r=>(.exit 4,[(.d (D.fn 53 [])),(.ptr 0 0),(.d (Za r8)),(.ptr 1 0),(.d (D.list t3 (List.map (Zdb true) d))),(.d (Za (d.length:Int))),(.d (Za s3.2.1))],[(.cells [(.d (zL t0 a.work)),(.d (D.list t1 (List.map Zs a.edges)))]),(.cells [(.d (zL t2 b)),(.sl 2 1),(.sl 3 2),(.sl 4 1)]),(.arr 1 (List.map Za r.1)),(.arr 2 (List.map Zdr r.2.1)),(.arr 1 (List.map Za r.2.2))])
theorem ZeS {t0 t1:Bool}{t2 t3:Bool}{a:Zm}{b:List Int}{d:(List (List Int))}{s3:Int×Int×(List Int)×(List Zad)×(List Int)}{x4:List Int}{r8:Int}:∀(s10:Int×(List Int)×(List Zad)×(List Int)) (r:((List Int)×(List Zad)×(List Int))),lp (Zir b s3 x4) s10=some r→lpW ctx 0 [4,5,13,15,16,47,48,49,77,78,79] [4,5,13,15,47,48,49] Zvr [(.d (D.fn 53 [])),(.ptr 0 0),(.d (Za r8)),(.ptr 1 0),(.d (Za s3.2.1)),(.d (D.list t3 (List.map (Zdb true) d))),(.d (Za (d.length:Int))),(.d (Za s3.2.1)),(.d (zL true x4)),(.d (Za (x4.length:Int))),(.d (Za s10.1))] [(.cells [(.d (zL t0 a.work)),(.d (D.list t1 (List.map Zs a.edges)))]),(.cells [(.d (zL t2 b)),(.sl 2 1),(.sl 3 2),(.sl 4 1)]),(.arr 1 (List.map Za s10.2.1)),(.arr 2 (List.map Zdr s10.2.2.1)),(.arr 1 (List.map Za s10.2.2.2))]=some ((Zc0 t0 t1 t2 t3 a b d s3 x4 r8) r):=
 lpT (Zc0 t0 t1 t2 t3 a b d s3 x4 r8) fun s10 _ ih=>yB (yG fun x11 _=>
  yB (Zf _ Zjw fun x12 _=>
  Zl (ih _))
  (Zl (ih _)))
  (Zp rfl)
def ZcY (t0:Bool) (t1:Bool) (t2:Bool) (t3:Bool) (a:Zm) (b:List Int) (d:(List (List Int))):(Int×(List Int)×(List Zad)×(List Int))→Ex×List V×Zd
  | r=>(.exit 0,[(.d (Za r.1)),(.ptr 0 0)],[(.cells [(.d (zL t2 b)),(.sl 1 1),(.sl 2 2),(.sl 3 1)]),(.arr 1 (List.map Za r.2.1)),(.arr 2 (List.map Zdr r.2.2.1)),(.arr 1 (List.map Za r.2.2.2))])
theorem Ze5 {t0 t1:Bool}{t2 t3:Bool}{a:Zm}{b:List Int}{d:(List (List Int))}:∀(s3:Int×Int×(List Int)×(List Zad)×(List Int)) (r:(Int×(List Int)×(List Zad)×(List Int))),lp (Zim a b d) s3=some r→lpW ctx 0 [4,5,13,15,47,48,49] [13,15] Zv2 [(.d (D.fn 53 [])),(.ptr 0 0),(.d (Za s3.1)),(.ptr 1 0),(.d (D.list t3 (List.map (Zdb true) d))),(.d (Za (d.length:Int))),(.d (Za s3.2.1))] [(.cells [(.d (zL t0 a.work)),(.d (D.list t1 (List.map Zs a.edges)))]),(.cells [(.d (zL t2 b)),(.sl 2 1),(.sl 3 2),(.sl 4 1)]),(.arr 1 (List.map Za s3.2.2.1)),(.arr 2 (List.map Zdr s3.2.2.2.1)),(.arr 1 (List.map Za s3.2.2.2.2))]=some ((ZcY t0 t1 t2 t3 a b d) r):=
 lpT (ZcY t0 t1 t2 t3 a b d) fun s3 _ ih=>yB (yG fun x4 _=>
  Ze (Zq _ _) (by
 conv=>rhs;whnf
 refine Zf _ (ZeT _) fun r8 _=>?_
 rcases r8 with r8 | r8
 exact Zp rfl
 exact Zf _ Zmy fun x9 _=>
  Ze (Zq _ _) (Zf _ (ZeS _) fun r13 _=>
  Zl (ih _))))
  (Zp rfl)
theorem Zf3 {t0 t1:Bool}{t2 t3:Bool}{a:Zm}{b:List Int}{c:Int}{d:(List (List Int))}:∀r,(Zij a b c d)=some r→evW ctx 52 [(.d (D.agg [(zL t0 a.work),(D.list t1 (List.map Zs a.edges))])),(.d (zL t2 b)),(.d (Za c)),(.d (D.list t3 (List.map (Zdb true) d))),(.d (D.fn 53 []))] []=some ((Zgi t0 t1 t2 t3 a b c d) r):=
 evS ZzY rfl rfl <| yC ZlR fun x0 _=>
  yB (yBr (Ze (Zq _ _) (yBr (yC ZbF fun x1 _=>
  yBr (Zf _ ZlY fun x2 _=>
  Ze (Zq _ _) (Zf _ (Ze5 _) fun r14 _=>
  yR))))))
  (yBr yR)
def ZmJ (r:Int):D:=(Za r)
theorem Zly {t0 t1:Bool}{t2 t3:Bool}{a:Zm}{b:List Int}{c:Int}{d:(List (List Int))}:∀r,(Zfc a b c d)=some r→evD ctx 28 [(.d (D.agg [(zL t0 a.work),(D.list t1 (List.map Zs a.edges))])),(.d (zL t2 b)),(.d (Za c)),(.d (D.list t3 (List.map (Zdb true) d)))]=some (ZmJ r):=
 evT Zzd rfl rfl <| (by
 conv=>rhs;whnf
 refine Zf _ Zf3 fun x0 _=>?_
 rcases x0 with x0 | x0
 exact yR
 exact yR)
def ZqC (t0:Bool) (t1:Bool) (t2:Bool) (a:Zm) (b:List Int) (c:Int):(Int⊕(List Int))→V×Zd
  | (.inl r)=>((.tup [(.agg [(.nilsl 1),(.nilsl 1)]),(.d (Za r))]),[])
  | (.inr r)=>((.tup [(.agg [(.sl 0 1),(.sl 1 1)]),(.d (Za 0))]),[(.arr 1 (List.map Za r)),(.arr 1 (List.map Za b))])
def Zin (b:List Int) (c:Int):(List Int)→Ex×List V×Zd
  | r=>(.exit 0,[(.ptr 0 0),(.ptr 1 0)],[(.cells [(.sl 2 1),(.sl 3 1)]),(.cells [(.sl 4 1),(.sl 5 1)]),(.arr 1 []),(.arr 1 []),(.arr 1 (List.map Za r)),(.arr 1 (List.map Za b))])
theorem ZlG {b:List Int}{c:Int}:∀(s2:Int×(List Int)) (r:List Int),lp (Zdf c) s2=some r→lpW ctx 0 [6,9,21,22] [6,9] ZtJ [(.ptr 0 0),(.ptr 1 0),(.d (Za c)),(.d (Za s2.1))] [(.cells [(.sl 2 1),(.sl 3 1)]),(.cells [(.sl 4 1),(.sl 5 1)]),(.arr 1 []),(.arr 1 []),(.arr 1 (List.map Za s2.2)),(.arr 1 (List.map Za b))]=some ((Zin b c) r):=
 lpT (Zin b c) fun s2 _ ih=>yB (yT (ZaX (ZeC Za s2.2 1) (Ze (Zex Za s2.2 [(-1)]) (Zl (ih _)))
  Z5))
  (Zp rfl)
theorem ZjI {t0 t1 t2:Bool}{a:Zm}{b:List Int}{c:Int}:∀r,(Ze4 a b c)=some r→evW ctx 167 [(.d (D.agg [(zL t0 a.work),(D.list t1 (List.map Zs a.edges))])),(.d (zL t2 b)),(.d (Za c))] []=some ((ZqC t0 t1 t2 a b c) r):=
 evS Zvh rfl rfl <| yC Zly fun x0 _=>
  yBr (Zf _ Zn fun x1 _=>
  Zf _ (ZlG _) fun r3 _=>
  yR)
def Zo4 (r:(Zb×Int)):D:=(D.tup [(D.agg [(zL true r.1.ring),(Za r.1.top),(Za r.1.bottom)]),(Za r.2)])
theorem ZoI {a:Int}:∀r,(ZgT a)=some r→evD ctx 168 [(.d (Za a))]=some (Zo4 r):=
 evT Zw8 rfl rfl <| (by
 conv=>rhs;whnf
 refine Zf _ ZkV fun x0 _=>?_
 rcases x0 with x0 | x0
 exact yF yR
 exact yT (yBr (yBm (Ze (Zh3 Za (0:Int) a) yR))))
def Zpe (t0:Bool) (t1:Bool) (t2:Bool) (a:Zm) (b:List Int) (c:Int):(Int⊕((List Int)×(List Zb)))→V×Zd
  | (.inl r)=>((.tup [(.agg [(.nilsl 1),(.nilsl 1),(.nilsl 3),(.nilsl 6),(.nilsl 1)]),(.d (Za r))]),[])
  | (.inr r)=>((.tup [(.agg [(.sl 0 1),(.sl 1 1),(.sl 2 3),(.sl 3 6),(.sl 4 1)]),(.d (Za 0))]),[(.arr 1 (List.map Za r.1)),(.arr 1 (List.map Za b)),(.arr 3 (List.map Zy r.2)),(.arr 6 (List.map Zz (List.replicate c.toNat ((Zh.mk false 0 0 0 0 0):Zh)))),(.arr 1 (List.map Za (List.replicate c.toNat (0:Int))))])
def ZhB (t0:Bool) (t1:Bool) (a:Zm) (b:List Int) (c:Int) (x0:List Int):(List Zb)→Ex×List V×Zd
  | r=>(.exit 0,[(.d (Za c)),(.ptr 0 0),(.ptr 1 0),(.ptr 2 0),(.ptr 3 0)],[(.cells [(.d (zL t0 a.work)),(.d (D.list t1 (List.map Zs a.edges)))]),(.cells [(.sl 4 1),(.sl 5 1),(.sl 6 3),(.sl 7 6),(.sl 8 1)]),(.cells [(.sl 9 1),(.sl 10 1)]),(.cells [(.sl 9 1),(.sl 10 1),(.sl 11 3),(.sl 12 6),(.sl 13 1),(.d (zL t0 a.work)),(.d (D.list t1 (List.map Zs a.edges))),(.d (Za 0))]),(.arr 1 []),(.arr 1 []),(.arr 3 []),(.arr 6 []),(.arr 1 []),(.arr 1 (List.map Za x0)),(.arr 1 (List.map Za b)),(.arr 3 (List.map Zy r)),(.arr 6 (List.map Zz (List.replicate c.toNat ((Zh.mk false 0 0 0 0 0):Zh)))),(.arr 1 (List.map Za (List.replicate c.toNat (0:Int))))])
theorem ZkE {t0 t1:Bool}{a:Zm}{b:List Int}{c:Int}{x0:List Int}:∀(s1:Int×(List Zb)) (r:List Zb),lp (ZcK c) s1=some r→lpW ctx 0 [2,3,6,8,10,35,36] [2,3,6,8,10] ZtV [(.d (Za c)),(.ptr 0 0),(.ptr 1 0),(.ptr 2 0),(.ptr 3 0),(.d (Za c)),(.d (Za s1.1))] [(.cells [(.d (zL t0 a.work)),(.d (D.list t1 (List.map Zs a.edges)))]),(.cells [(.sl 4 1),(.sl 5 1),(.sl 6 3),(.sl 7 6),(.sl 8 1)]),(.cells [(.sl 9 1),(.sl 10 1)]),(.cells [(.sl 9 1),(.sl 10 1),(.sl 11 3),(.sl 12 6),(.sl 13 1),(.d (zL t0 a.work)),(.d (D.list t1 (List.map Zs a.edges))),(.d (Za 0))]),(.arr 1 []),(.arr 1 []),(.arr 3 []),(.arr 6 []),(.arr 1 []),(.arr 1 (List.map Za x0)),(.arr 1 (List.map Za b)),(.arr 3 (List.map Zy s1.2)),(.arr 6 (List.map Zz (List.replicate c.toNat ((Zh.mk false 0 0 0 0 0):Zh)))),(.arr 1 (List.map Za (List.replicate c.toNat (0:Int))))]=some ((ZhB t0 t1 a b c x0) r):=
 lpT (ZhB t0 t1 a b c x0) fun s1 _ ih=>yB (yC ZoI fun x2 _=>
  yT (ZaX (ZeC Zy s1.2 1) (Ze (Zex Zy s1.2 [x2.1]) (Zl (ih _)))
  Z5))
  (Zp rfl)
def Zhy (t0:Bool) (t1:Bool) (a:Zm) (b:List Int) (c:Int) (x0:List Int) (x4:List Int):(List Zb)→Ex×List V×Zd
  | r=>(.exit 2,[(.ptr 0 0),(.ptr 1 0)],[(.cells [(.sl 2 1),(.sl 3 1),(.sl 4 3),(.sl 5 6),(.sl 6 1)]),(.cells [(.sl 7 1),(.sl 8 1),(.sl 9 3),(.sl 10 6),(.sl 11 1),(.d (zL t0 a.work)),(.d (D.list t1 (List.map Zs a.edges))),(.d (Za 0))]),(.arr 1 []),(.arr 1 []),(.arr 3 []),(.arr 6 []),(.arr 1 []),(.arr 1 (List.map Za x0)),(.arr 1 (List.map Za b)),(.arr 3 (List.map Zy r)),(.arr 6 (List.map Zz (List.replicate c.toNat ((Zh.mk false 0 0 0 0 0):Zh)))),(.arr 1 (List.map Za (List.replicate c.toNat (0:Int))))])
theorem ZkA {t0 t1:Bool}{a:Zm}{b:List Int}{c:Int}{x0:List Int}{x4:List Int}:∀(s5:Int×(List Zb)) (r:List Zb),lp (ZcH c x4) s5=some r→lpW ctx 0 [2,6,10,57,58,59] [6,10] ZtD [(.d (Za c)),(.ptr 0 0),(.ptr 1 0),(.d (zL true x4)),(.d (Za (x4.length:Int))),(.d (Za s5.1))] [(.cells [(.sl 2 1),(.sl 3 1),(.sl 4 3),(.sl 5 6),(.sl 6 1)]),(.cells [(.sl 7 1),(.sl 8 1),(.sl 9 3),(.sl 10 6),(.sl 11 1),(.d (zL t0 a.work)),(.d (D.list t1 (List.map Zs a.edges))),(.d (Za 0))]),(.arr 1 []),(.arr 1 []),(.arr 3 []),(.arr 6 []),(.arr 1 []),(.arr 1 (List.map Za x0)),(.arr 1 (List.map Za b)),(.arr 3 (List.map Zy s5.2)),(.arr 6 (List.map Zz (List.replicate c.toNat ((Zh.mk false 0 0 0 0 0):Zh)))),(.arr 1 (List.map Za (List.replicate c.toNat (0:Int))))]=some ((Zhy t0 t1 a b c x0 x4) r):=
 lpT (Zhy t0 t1 a b c x0 x4) fun s5 _ ih=>yB (yG fun x6 _=>
  yBn (by
 conv=>rhs;whnf
 refine Zf _ Zfr fun x7 _=>?_
 rcases x7 with x7 | x7
 exact Zl (ih _)
 exact Zl (ih _)))
  (Zp rfl)
theorem Znq {t0 t1 t2:Bool}{a:Zm}{b:List Int}{c:Int}:∀r,(ZgQ a b c)=some r→evW ctx 163 [(.d (D.agg [(zL t0 a.work),(D.list t1 (List.map Zs a.edges))])),(.d (zL t2 b)),(.d (Za c))] []=some ((Zpe t0 t1 t2 a b c) r):=
 evS Zxj rfl rfl <| (by
 conv=>rhs;whnf
 refine Zf _ ZjI fun x0 _=>?_
 rcases x0 with x0 | x0
 exact yBm yR
 exact yF (yBm (Ze (Zh3 Zz ((Zh.mk false 0 0 0 0 0):Zh) c) (yBm (Ze (Zh3 Za (0:Int) c) (Zf _ (ZkE _) fun r3 _=>
  yC ZfF fun x4 _=>
  Ze (Zq _ _) (Zf _ (ZkA _) fun r8 _=>
  yR)))))))
def ZjB (r:(ZP×Int)):D:=(D.tup [(D.agg [(zL true r.1.crew.on),(zL true r.1.crew.left),(D.list true (List.map Zy r.1.deques)),(D.list true (List.map Zz r.1.takers)),(zL true r.1.from_)]),(Za r.2)])
theorem Zjd {t0 t1 t2:Bool}{a:ZiD}{b:Zm}{c:List Int}{d:Int}:∀r,(ZeH a b c d)=some r→evD ctx 159 [(.d (D.agg [])),(.d (D.agg [(zL t0 b.work),(D.list t1 (List.map Zs b.edges))])),(.d (zL t2 c)),(.d (Za d))]=some (ZjB r):=
 evT Zxu rfl rfl <| (by
 conv=>rhs;whnf
 refine Zf _ Znq fun x0 _=>?_
 rcases x0 with x0 | x0
 exact yR
 exact yR)
def Zj5 (r:(ZP×Int)):D:=(D.tup [(D.agg [(zL true r.1.crew.on),(zL true r.1.crew.left),(D.list true (List.map Zy r.1.deques)),(D.list true (List.map Zz r.1.takers)),(zL true r.1.from_)]),(Za r.2)])
theorem Zju {t0 t1 t2:Bool}{a:Zoo}{b:Zm}{c:List Int}{d:Int}:∀r,(ZeU a b c d)=some r→evD ctx 215 [(.d (D.agg [])),(.d (D.agg [(zL t0 b.work),(D.list t1 (List.map Zs b.edges))])),(.d (zL t2 c)),(.d (Za d))]=some (Zj5 r):=
 evT Zwc rfl rfl <| (by
 conv=>rhs;whnf
 refine Zf _ ZjI fun x0 _=>?_
 rcases x0 with x0 | x0
 exact yR
 exact yR)
def ZqE (r:(ZbG×Int)):D:=(D.tup [(D.agg [(D.bool r.1.stealing),(zL true r.1.demand),(Za r.1.state),(zL true r.1.gang.crew.on),(zL true r.1.gang.crew.left),(D.list true (List.map Zy r.1.gang.deques)),(D.list true (List.map Zz r.1.gang.takers)),(zL true r.1.gang.from_)]),(Za r.2)])
theorem Zo5 {t0 t1 t2:Bool}{a:Zm}{b:List Int}{c:Int}{d:Bool}:∀r,(Zd7 a b c d)=some r→evD ctx 22 [(.d (D.agg [(zL t0 a.work),(D.list t1 (List.map Zs a.edges))])),(.d (zL t2 b)),(.d (Za c)),(.d (D.bool d))]=some (ZqE r):=
 evT Zzt rfl rfl <| yC ZcM fun x0 _=>
  yBr (yC Zis fun x1 _=>
  yB (yBr (yBr (by
 conv=>rhs;whnf
 refine yC Zh9 fun x2 _=>?_
 rcases x2 with x2 | x2
 exact yC Zgp fun x3 _=>
  yC Zjd fun x4 _=>
  yBr (Zf _ Zn fun x5 _=>
  yC Zb4 fun x6 _=>
  yR)
 exact yC Zgp fun x7 _=>
  yC Zju fun x8 _=>
  yBr (Zf _ Zn fun x9 _=>
  yC Zb4 fun x10 _=>
  yR))))
  yR)
def Zp5 (r:((List (List Int))×Int×Int)):D:=(D.tup [(D.list true (List.map (Zdb true) r.1)),(Za r.2.1),(Za r.2.2)])
def Zio (t0:Bool) (t1:Bool) (t3:Bool) (a:Zm) (e:List Int) (x0:(ZbG×Int)):Int→Ex×List V×Zd
  | r=>(.exit 0,[(.d (zL t3 e)),(.ptr 0 0),(.ptr 1 0),(.d (Za r))],[(.cells [(.d (zL t0 a.work)),(.d (D.list t1 (List.map Zs a.edges)))]),(.cells [(.d (D.bool x0.1.stealing)),(.d (zL true x0.1.demand)),(.d (Za x0.1.state)),(.d (zL true x0.1.gang.crew.on)),(.d (zL true x0.1.gang.crew.left)),(.d (D.list true (List.map Zy x0.1.gang.deques))),(.d (D.list true (List.map Zz x0.1.gang.takers))),(.d (zL true x0.1.gang.from_))])])
theorem ZlH {t0 t1 t3:Bool}{a:Zm}{e:List Int}{x0:(ZbG×Int)}:∀(s1:Int×Int) (r:Int),lp (Zd0 x0) s1=some r→lpW ctx 0 [4,5,13,15,36,37,38] [4,5,13,15] ZwV [(.d (zL t3 e)),(.ptr 0 0),(.ptr 1 0),(.d (Za s1.1)),(.d (zL true x0.1.gang.crew.left)),(.d (Za (x0.1.gang.crew.left.length:Int))),(.d (Za s1.2))] [(.cells [(.d (zL t0 a.work)),(.d (D.list t1 (List.map Zs a.edges)))]),(.cells [(.d (D.bool x0.1.stealing)),(.d (zL true x0.1.demand)),(.d (Za x0.1.state)),(.d (zL true x0.1.gang.crew.on)),(.d (zL true x0.1.gang.crew.left)),(.d (D.list true (List.map Zy x0.1.gang.deques))),(.d (D.list true (List.map Zz x0.1.gang.takers))),(.d (zL true x0.1.gang.from_))])]=some ((Zio t0 t1 t3 a e x0) r):=
 lpT (Zio t0 t1 t3 a e x0) fun s1 _ ih=>yB (yG fun x2 _=>
  Zl (ih _))
  (Zp rfl)
def Ziu (t0:Bool) (t1:Bool) (t3:Bool) (a:Zm):((Int×Bool×(List Int)×Int×(List Int)×(List Int)×(List Zb)×(List Zh)×(List Int)×(List (List Int)))⊕(Bool×(List Int)×Int×(List Int)×(List Int)×(List Zb)×(List Zh)×(List Int)×(List (List Int))))→Ex×List V×Zd
  | (.inl r)=>(.ret,[(.nilsl 1),(.d (Za 0)),(.d (Za r.1)),(.ptr 0 0),(.sl 1 1)],[(.cells [(.d (D.bool r.2.1)),(.d (zL true r.2.2.1)),(.d (Za r.2.2.2.1)),(.d (zL true r.2.2.2.2.1)),(.d (zL true r.2.2.2.2.2.1)),(.d (D.list true (List.map Zy r.2.2.2.2.2.2.1))),(.d (D.list true (List.map Zz r.2.2.2.2.2.2.2.1))),(.d (zL true r.2.2.2.2.2.2.2.2.1))]),(.arr 1 (List.map (Zdb true) r.2.2.2.2.2.2.2.2.2))])
  | (.inr r)=>(.exit 2,[.bad,.bad,.bad,(.ptr 0 0),(.sl 1 1)],[(.cells [(.d (D.bool r.1)),(.d (zL true r.2.1)),(.d (Za r.2.2.1)),(.d (zL true r.2.2.2.1)),(.d (zL true r.2.2.2.2.1)),(.d (D.list true (List.map Zy r.2.2.2.2.2.1))),(.d (D.list true (List.map Zz r.2.2.2.2.2.2.1))),(.d (zL true r.2.2.2.2.2.2.2.1))]),(.arr 1 (List.map (Zdb true) r.2.2.2.2.2.2.2.2))])
theorem Zl1 {t0 t1 t3:Bool}{a:Zm}:∀(s4:(List Int)×Bool×(List Int)×Int×(List Int)×(List Int)×(List Zb)×(List Zh)×(List Int)×(List (List Int))) (r:((Int×Bool×(List Int)×Int×(List Int)×(List Int)×(List Zb)×(List Zh)×(List Int)×(List (List Int)))⊕(Bool×(List Int)×Int×(List Int)×(List Int)×(List Zb)×(List Zh)×(List Int)×(List (List Int))))),lp (Zdk a) s4=some r→lpW ctx 0 [4,5,13,18] [10,11,12,13,18] ZwK [(.d (zL t3 s4.1)),(.ptr 0 0),(.ptr 1 0),(.sl 2 1)] [(.cells [(.d (zL t0 a.work)),(.d (D.list t1 (List.map Zs a.edges)))]),(.cells [(.d (D.bool s4.2.1)),(.d (zL true s4.2.2.1)),(.d (Za s4.2.2.2.1)),(.d (zL true s4.2.2.2.2.1)),(.d (zL true s4.2.2.2.2.2.1)),(.d (D.list true (List.map Zy s4.2.2.2.2.2.2.1))),(.d (D.list true (List.map Zz s4.2.2.2.2.2.2.2.1))),(.d (zL true s4.2.2.2.2.2.2.2.2.1))]),(.arr 1 (List.map (Zdb true) s4.2.2.2.2.2.2.2.2.2))]=some ((Ziu t0 t1 t3 a) r):=
 lpT (Ziu t0 t1 t3 a) fun s4 _ ih=>yB (yC Zoy fun x5 _=>
  yB (Zp rfl)
  (Ze (Zq _ _) (yBm (ZaX (ZqW Za s4.1 (bif decide ((s4.1.length:Int)<x5.2.1.steps) then (s4.1.length:Int) else x5.2.1.steps).toNat) (Zk1 (ZvA Za (fun _=>⟨rfl,rfl⟩) s4.1 _) (Ze (Zoj Za s4.1 (bif decide ((s4.1.length:Int)<x5.2.1.steps) then (s4.1.length:Int) else x5.2.1.steps).toNat) (yT (ZaX (ZeC (Zdb true) s4.2.2.2.2.2.2.2.2.2 1) (Ze (Zex (Zdb true) s4.2.2.2.2.2.2.2.2.2 [x5.2.1.on]) (Zl (ih _)))
  Z5))))
  Z5))))
  (Zp rfl)
theorem Zo9 {t0 t1:Bool}{t2 t3:Bool}{a:Zm}{b:List Int}{c:Int}{d:Bool}{e:List Int}:∀r,(Ze3 a b c d e)=some r→evD ctx 20 [(.d (D.agg [(zL t0 a.work),(D.list t1 (List.map Zs a.edges))])),(.d (zL t2 b)),(.d (Za c)),(.d (D.bool d)),(.d (zL t3 e))]=some (Zp5 r):=
 evT Zzk rfl rfl <| yC Zo5 fun x0 _=>
  yBr (Ze (Zq _ _) (Zf _ (ZlH _) fun r3 _=>
  yBr (by
 conv=>rhs;whnf
 refine Zf _ (Zl1 _) fun r6 _=>?_
 rcases r6 with r6 | r6
 exact yR
 exact yR)))
def ZoS (r:List Int):D:=(zL true r)
theorem Zod {t0 t1 t2:Bool}{a:Zm}{b:List Int}:∀r,(Zeg a b)=some r→evD ctx 25 [(.d (D.agg [(zL t0 a.work),(D.list t1 (List.map Zs a.edges))])),(.d (zL t2 b))]=some (ZoS r):=
 evT ZzO rfl rfl <| yC ZcM fun x0 _=>
  yBr (yC Zis fun x1 _=>
  yB (yC Zgp fun x2 _=>
  yR)
  yR)
def ZoD (r:Int):D:=(Za r)
def ZgP (t0:Bool) (a:(List (List Int))) (s0:Int×Int) (x1:List Int):Int→Ex×List V×Zd
  | r=>(.exit 2,[(.d (Za r)),(.d (D.list t0 (List.map (Zdb true) a))),(.d (Za (a.length:Int))),(.d (Za s0.2))],[])
theorem Zkj {t0:Bool}{a:(List (List Int))}{s0:Int×Int}{x1:List Int}:∀(s2:Int×Int) (r:Int),lp (Zb6 x1) s2=some r→lpW ctx 0 [3,8,9,10,14,15,16] [3,8,9,10] Zv0 [(.d (Za s2.1)),(.d (D.list t0 (List.map (Zdb true) a))),(.d (Za (a.length:Int))),(.d (Za s0.2)),(.d (zL true x1)),(.d (Za (x1.length:Int))),(.d (Za s2.2))] []=some ((ZgP t0 a s0 x1) r):=
 lpT (ZgP t0 a s0 x1) fun s2 _ ih=>yB (yG fun x3 _=>
  yB (Zl (ih _))
  (Zl (ih _)))
  (Zp rfl)
def ZgU (t0:Bool) (a:(List (List Int))):Int→Ex×List V×Zd
  | r=>(.exit 0,[(.d (Za r))],[])
theorem Zj6 {t0:Bool}{a:(List (List Int))}:∀(s0:Int×Int) (r:Int),lp (Zb7 a) s0=some r→lpW ctx 0 [3,8,9,10] [3] Zwf [(.d (Za s0.1)),(.d (D.list t0 (List.map (Zdb true) a))),(.d (Za (a.length:Int))),(.d (Za s0.2))] []=some ((ZgU t0 a) r):=
 lpT (ZgU t0 a) fun s0 _ ih=>yB (yG fun x1 _=>
  Ze (Zq _ _) (Zf _ (Zkj _) fun r4 _=>
  Zl (ih _)))
  (Zp rfl)
theorem ZmK {t0:Bool}{a:(List (List Int))}:∀r,(ZfT a)=some r→evD ctx 26 [(.d (D.list t0 (List.map (Zdb true) a)))]=some (ZoD r):=
 evT ZyV rfl rfl <| Ze (Zq _ _) (Zf _ (Zj6 _) fun r5 _=>
  yR)
def Zk7 (r:Bool):D:=(D.bool r)
def Zfn (x6:((List (List Int))×Int×Int)) (x9:List Int):Int→Ex×List V×Zd
  | r=>(.exit 0,[(.d (D.list true (List.map (Zdb true) x6.1))),(.d (Za x6.2.1)),(.d (Za x6.2.2)),(.d (zL true x9)),(.d (Za r))],[])
theorem Ziz {x6:((List (List Int))×Int×Int)}{x9:List Int}:∀(s10:Int×Int) (r:Int),lp (ZaV x9) s10=some r→lpW ctx 0 [9,10,11,12,13,14] [9,10,11,12,13] ZyJ [(.d (D.list true (List.map (Zdb true) x6.1))),(.d (Za x6.2.1)),(.d (Za x6.2.2)),(.d (zL true x9)),(.d (Za s10.1)),(.d (Za s10.2))] []=some ((Zfn x6 x9) r):=
 lpT (Zfn x6 x9) fun s10 _ ih=>Ze (Zq _ _) (yB (yG fun x11 _=>
  Zl (ih _))
  (Zp rfl))
theorem Zkl {t0 t1:Bool}{t2 t3:Bool}{a:Zm}{b:List Int}{c:Bool}{d:List Int}:∀r,(ZfI a b c d)=some r→evD ctx 6 [(.d (D.agg [(zL t0 a.work),(D.list t1 (List.map Zs a.edges))])),(.d (zL t2 b)),(.d (D.bool c)),(.d (zL t3 d))]=some (Zk7 r):=
 evT fn6 rfl rfl <| yC ZdN fun x0 _=>
  yB (yC ZkW fun x1 _=>
  yB (Ze (Zq _ _) (yB (yC ZdN fun x2 _=>
  yBr yR)
  (Zf _ Zgr fun x3 _=>
  Zf _ ZfC fun x4 _=>
  Zf _ ZfC fun x5 _=>
  yC Zo9 fun x6 _=>
  Zf _ Zgr fun x7 _=>
  Zf _ ZfC fun x8 _=>
  yC Zod fun x9 _=>
  Zf _ (Ziz _) fun r12 _=>
  yB (Ze (Zq _ _) (yB (Ze (Zq _ _) (yBr yR))
  yR))
  (yC ZmK fun x13 _=>
  Ze (Zq _ _) (yB (yB (Ze (Zq _ _) (yBr (yB (Ze (Zq _ _) (yBr yR))
  yR)))
  (yB (Ze (Zq _ _) (yBr yR))
  yR))
  yR)))))
  (yC ZdN fun x14 _=>
  yBr yR))
  (yC ZdN fun x15 _=>
  yBr yR)
end Go.Proofs.YtgcfmiajkbbmeaaGreat
namespace Go.Proofs.YtgcfmiajkbbmeaaGreat
open Go Go.Proofs.YtgcfmiajkbbmeaaGreatE
open Go.IntKind (u64 i64 u32 i32 u8)
abbrev Zxf:List Lf×Bool:=([.bool],false)
abbrev ZjN:List Lf×Bool:=([.sl false [.int .i64]],false)
abbrev ZrL:List Lf×Bool:=([.sl false [.int .i64],.sl true [.int .i64,.int .i64]],true)
theorem ZqY (g:Zm) (dem:List Int) (d:Bool) (picks:List Int):ZfI g dem d picks=some true:=by
 unfold ZfI
 simp only[Zdj,Option.bind_some,cond_true]
 obtain⟨b,hb,hb2⟩:=ZqH g dem
 rw[hb,Option.bind_some]
 cases b with
 | false=>rfl
 | true=>
 obtain⟨hf,hl,hsum⟩:=hb2 rfl
 obtain⟨hw,he,hsh⟩:=ZqQ hf
 rw[cond_true]
 by_cases hp:600<(picks.length:Int)
 ·rw[decide_eq_true hp];rfl
 rw[decide_eq_false hp,cond_false]
 simp only[Zu8 hf,Znb (show dem.length≤100000 by omega),Znb (show picks.length≤100000 by omega),Option.bind_some]
 by_cases h1:Zhe g dem 1=0
 ·have hin:=ZrG.1 h1
  have hns:=ZvJ hin.dl
  have hs:=hsum hin.ck
  have hn:=hin.need
  have hnl:=hn.nl
  obtain⟨hG,hA⟩:=Z6 hin.ck
  have hw64:=hG.wl
  have hr:∀x∈ZaP g dem,0≤x∧x≤1000:=fun x hx=>by have:=hn.rng x hx;omega
  have hE:Zes g.edges (ZaP g dem).length:=by rw[hnl];exact Zen hG
  obtain⟨t,left,on,e1,R⟩:=ZuC (picks:=picks) hin (by omega) (by omega) d
  have S:=R.sched
  have hcr:=S.crew (fun x hx=>hn.rng x hx) hE
  have hbz:=S.sum (fun x hx=>hn.rng x hx) hE
  have hone:=Zrz hG hA hnl hn.rng S
  have hl0:=Zqm left fun x hx=>hcr.rng x hx
  have hrow:=S.len.2.2
  have sh:=R.short
  have hneed:Zeg g dem=some (ZaP g dem):=by
   have hright:ZeW g dem=true:=by
    have h0:=h1
    unfold Zhe at h0
    rw[show(ZN g==0)=true from beq_iff_eq.2 hin.ck,cond_true] at h0
    cases hr:ZeW g dem with
    | true=>rfl
    | false=>rw[hr] at h0;cases h0
   unfold Zeg
   rw[Zc3 g hsh,hin.ck,Option.bind_some]
   simp only[ZrS,cond_false,Zfh hsh hl,Option.bind_some,hright,cond_true,ZjU hin.dl hw64]
  have hsl:=ZlM hr (by omega) (ZaV (ZaP g dem)) (fun i s x hi hx=>by simp only[ZaV,ZdS hi,cond_true,ZE hx,Option.bind_some]) (fun s=>by simp only[ZaV,ZdW];rfl)
  have hst:=R.state hin
  rw[e1,Option.bind_some,hneed,Option.bind_some,hsl,Option.bind_some]
  simp only[ZrS,cond_false]
  rw[ZzV t (by omega) (fun row h=>by rw[hrow row h];omega),Option.bind_some,show((Zcd t:Int)==(t.length:Int))=true from beq_iff_eq.2 (by omega),cond_true,hst]
  cases ho:Zob g dem dem.length with
  | true=>
   rw[ho] at hst
   rw[cond_true,show((3:Int)==2)=false from rfl,cond_false,show((3:Int)==3)=true from rfl,cond_true,decide_eq_true (show(t.length:Int)≤(ZaP g dem).sum by omega)]
   rfl
  | false=>
   rw[ho,cond_false] at hst
   have hz:left.sum=0:=by
    have hnot:ZfO left left.length=false:=by
     cases hs:ZfO left left.length with
     | false=>rfl
     | true=>
      unfold ZcT at hst
      rw[hs] at hst
      cases hb:ZkB g dem left left.length<;>rw[hb] at hst<;>cases hst
    refine Zr6 fun x hx=>?_
    obtain⟨i,hi⟩:=List.getElem?_of_mem hx
    have hil:=(List.getElem?_eq_some_iff.1 hi).1
    apply Classical.byContradiction
    intro hne
    have h0:=(hcr.rng x hx).1
    have:=Zjs.2 ⟨(i:Int),⟨by omega,by simpa using hil⟩,by rw[Zs6 hi];omega⟩
    rw[hnot] at this
    cases this
   rw[cond_false,show((2:Int)==2)=true from rfl,cond_true,show((t.length:Int)==(ZaP g dem).sum)=true from beq_iff_eq.2 (by omega)]
   rfl
 ·rw[ZqD hsh hl h1,Option.bind_some]
  have hneed:Zeg g dem=some []:=by
   unfold Zeg
   rw[Zc3 g hsh,Option.bind_some]
   unfold Zhe at h1
   cases hc:ZN g==0 with
   | false=>rw[show(ZN g != 0)=true by rw[bne,hc];rfl];rfl
   | true=>
    rw[show(ZN g != 0)=false by rw[bne,hc];rfl,cond_false,Zfh hsh hl,Option.bind_some]
    rw[hc,cond_true] at h1
    cases hr:ZeW g dem with
    | false=>rfl
    | true=>rw[hr] at h1;exact absurd rfl h1
  rw[hneed,Option.bind_some]
  have hsl:lp (ZaV []) (0,0)=some 0:=by rw[ZaI];rfl
  rw[hsl,Option.bind_some]
  simp only[show(Zhe g dem 1 != 0)=true from bne_iff_ne.2 h1,cond_true]
  rfl
theorem ZsA (xs:List D) (h:Zeb ZrL.1 xs) (ys:List D) (k:Zeb ZjN.1 ys) (zs:List D) (m:Zeb Zxf.1 zs) (vs:List D) (n:Zeb ZjN.1 vs) :
  ∃H',evW ctx 6 (ZaR [Zj8 ZrL.2 xs,Zj8 ZjN.2 ys,Zj8 Zxf.2 zs,Zj8 ZjN.2 vs]) []=some (.d (.bool true),H'):=by
 obtain⟨d0,e0,_⟩:=Zu1 h
 obtain⟨d1,e1,_⟩:=ZnQ k
 obtain⟨d2,e2⟩:=ZxO m
 obtain⟨d3,e3,_⟩:=ZnQ n
 show ∃H',evW ctx 6 [.d (D.agg xs),.d (Zj8 false ys),.d (Zj8 false zs),.d (Zj8 false vs)] []=_
 rw[e0,e1,e2,e3]
 exact Zxq (Zkl true (ZqY d0 d1 d2 d3))
open Go Go.Proofs Go.Proofs.YtgcfmiajkbbmeaaGreatE
theorem ZxG:((begin Tryz.prog (fun _ _=>0) default).world.heap[1]?).bind Obj.row? = some (Array.replicate 64 (.int .u8 0),226):=by kernel_rfl
theorem Zt7:Tryz.prog.cellTypes Tryz.prog.depth 226=some (List.replicate 64 5):=by kernel_rfl
def Zns (cs:Array Value) (i:Nat):Int:=match cs[i]? with | some (.int _ m)=>m | _=>0
def ZlA (cs:Array Value):List (IntKind×Int):=(List.range 64).map fun i=>(.u8,Zns cs i)
theorem ZsS {W:World} (h:W.ShapedOpen Tryz.prog):∃G:Zj,Zny G∧GOK G R0 W:=by
 obtain⟨cs,h1,h2,h3⟩:=h.1 1 _ 226 (of_decide_eq_true (by kernel_rfl)) ZxG
 obtain⟨ts,t1,_,t2⟩:=h3 (by kernel_rfl)
 rw[Zt7] at t1
 have hts:ts=List.replicate 64 5:=(Option.some.inj t1).symm
 subst hts
 have hsz:cs.size=64:=by rw[h2];simp
 have cell:∀i,i<64→cs[i]? = some (.int .u8 (Zns cs i)):=fun i hi=>by
  have hi2:i<cs.size:=by omega
  obtain⟨u,hu,hok⟩:=t2 i cs[i] (by simp[hi2])
  have hu5:u=5:=(List.mem_replicate.1 (List.mem_of_getElem? hu)).2
  subst hu5
  unfold Cell.ok at hok
  rw[Tryz.underlying5] at hok
  have hg:cs[i]? = some cs[i]:=by simp[hi2]
  unfold Zns
  rw[hg]
  cases hv:cs[i]<;>rw[hv] at hok<;>simp at hok
  case int k n=>rw[hok.1]
 refine⟨fun g=>if g=1 then some (ZlA cs) else none,⟨ZlA cs,by simp,by simp[ZlA],fun x hx=>?_⟩,fun g l hg=>?_⟩
 ·obtain⟨i,_,rfl⟩:=List.mem_map.1 hx
  rfl
 ·by_cases hg1:g=1
  ·subst hg1
   simp only[if_true] at hg
   cases hg
   refine Zzi ⟨1,0,rfl,trivial,(Array.getElem?_eq_some_iff.1 h1).1,Zfz _ _ fun j x hj=>?_⟩
   rw[Zs1,List.getElem?_map] at hj
   have hj64:j<64:=by
    refine Classical.byContradiction fun hn=>?_
    rw[List.getElem?_eq_none (by simp[ZlA];omega)] at hj
    cases hj
   have hr:(ZlA cs)[j]? = some (.u8,Zns cs j):=by simp[ZlA,hj64]
   rw[hr] at hj
   cases hj
   refine⟨.int .u8 (Zns cs j),?_,rfl⟩
   simp only[World.cell?,h1,Nat.zero_add]
   simpa using cell j hj64
  ·dsimp only at hg
   rw[if_neg hg1] at hg
   cases hg
end Go.Proofs.YtgcfmiajkbbmeaaGreat
namespace Go.Proofs.YtgcfmiajkbbmeaaGreat.LawTeamOne
open Go.ChangeShapes Go.WideShapes Go.ChangeAt Go.RowKit Go.Proofs.YtgcfmiajkbbmeaaGreatE
theorem own:ownKnob Tryz.prog.godebug=none:=by kernel_rfl
theorem Zm5:laidOutB Tryz.prog=true:=by kernel_rfl
theorem ZzB (os:Os) (started:os.Started) (H:Type) (enc:TypeId×Value→H) :
  ReturnsInHanded {} Tryz.checked os 6 .any (Rows.teamOneSpec.pre6 enc Tryz.prog Tryz.f6 Rows.teamOneRow.domain false) (Rows.teamOneSpec.post enc Tryz.prog Tryz.f6 false true false false):=by
 refine returnsInHanded_of_change_shaped (C:=Tryz.checked) own started (by kernel_rfl) Tryz.func6
  (ChangeSpec.witness6 (enc:=enc) (C:=Tryz.checked) false ⟨#[],#[.agg #[.slice none 0 0,.slice none 0 0],.slice none 0 0,.bool false,.slice none 0 0],[]⟩ 8 (by kernel_rfl) (by kernel_rfl) (by kernel_rfl) (by kernel_rfl)) ?_
 intro W base args ds gs before hval0 hW _ _ hSh _
 obtain⟨G,hG,hgt⟩:=ZsS hSh
 have hval:∀(j:Nat) t v,Tryz.f6.params[j]? = some t→args[j]? = some v→Value.okWide Tryz.prog W .any base t v:=hval0
 have hW':=hW
 obtain⟨p,q,hA0,hV,rfl,hfz,hnd⟩:=hW
 have hA:DataW.TrodAll enc Tryz.prog W 0 (fun _=>true) true Tryz.f6.params.toList args.toList ds p:=hA0
 rw[Tryz.params6] at hA hval
 obtain⟨v0,vs0,d0,ds0,p0,q0,hargs,rfl,rfl,h0,r0⟩:=trodAll_cons hA
 obtain⟨v1,vs1,d1,ds1,p1,q1,rfl,rfl,rfl,h1,r1⟩:=trodAll_cons r0
 obtain⟨v2,vs2,d2,ds2,p2,q2,rfl,rfl,rfl,h2,r2⟩:=trodAll_cons r1
 obtain⟨v3,vs3,d3,ds3,p3,q3,rfl,rfl,rfl,h3,r3⟩:=trodAll_cons r2
 obtain⟨rfl,rfl,rfl⟩:=trodAll_nil r3
 obtain rfl:args = #[v0,v1,v2,v3]:=by cases args;simp_all
 obtain⟨rfl,rfl⟩:=trodVars_none hV
 have lt0:∀x∈p0,x.block<W.heap.size:=by obtain⟨m,hm⟩:=h0;exact DataW.trod_lt m _ _ _ hm
 obtain⟨x0,ok0,den0⟩:=Zqh (P:=Tryz.prog) (n:=8) (t:=25) (l:=ZrL.1) (ag:=ZrL.2) (by kernel_rfl) (hval 0 25 v0 rfl rfl) h0
 have lt1:∀x∈p1,x.block<W.heap.size:=by obtain⟨m,hm⟩:=h1;exact DataW.trod_lt m _ _ _ hm
 obtain⟨x1,ok1,den1⟩:=Zqh (P:=Tryz.prog) (n:=8) (t:=22) (l:=ZjN.1) (ag:=ZjN.2) (by kernel_rfl) (hval 1 22 v1 rfl rfl) h1
 have lt2:∀x∈p2,x.block<W.heap.size:=by obtain⟨m,hm⟩:=h2;exact DataW.trod_lt m _ _ _ hm
 obtain⟨x2,ok2,den2⟩:=Zqh (P:=Tryz.prog) (n:=8) (t:=4) (l:=Zxf.1) (ag:=Zxf.2) (by kernel_rfl) (hval 2 4 v2 rfl rfl) h2
 have lt3:∀x∈p3,x.block<W.heap.size:=by obtain⟨m,hm⟩:=h3;exact DataW.trod_lt m _ _ _ hm
 obtain⟨x3,ok3,den3⟩:=Zqh (P:=Tryz.prog) (n:=8) (t:=22) (l:=ZjN.1) (ag:=ZjN.2) (by kernel_rfl) (hval 3 22 v3 rfl rfl) h3
 obtain⟨H1,ev⟩:=ZsA x0 ok0 x1 ok1 x2 ok2 x3 ok3
 have den:ZX All All All W [Zj8 ZrL.2 x0,Zj8 ZjN.2 x1,Zj8 Zxf.2 x2,Zj8 ZjN.2 x3] [v0,v1,v2,v3]:=⟨_,_,rfl,den0,⟨_,_,rfl,den1,⟨_,_,rfl,den2,⟨_,_,rfl,den3,rfl⟩⟩⟩⟩
 refine(ZuV (ZBE G hG) hgt den ev).mono fun e W' ⟨he,bel⟩=>?_
 subst he
 exact⟨_,rfl,_,_,_,[],_,[],hW',trodAll_mk1 (shut_bool Tryz.underlying4 _),(trodAll_cons_mk (Below.trod Zm5 (by kernel_rfl) (of_decide_eq_true (by kernel_rfl)) h0 bel lt0) (trodAll_cons_mk (Below.trod Zm5 (by kernel_rfl) (of_decide_eq_true (by kernel_rfl)) h1 bel lt1) (trodAll_cons_mk (Below.trod Zm5 (by kernel_rfl) (of_decide_eq_true (by kernel_rfl)) h2 bel lt2) (trodAll_cons_mk (Below.trod Zm5 (by kernel_rfl) (of_decide_eq_true (by kernel_rfl)) h3 bel lt3) trodAll_mk0)))),rfl,bel.frame _,fun h=>by cases h⟩
theorem over:Rows.teamOneRow.holds Tryz.pinned (OpenSpec.ofChange Rows.teamOneSpec):=
 OpenClaim.holds_of_wide 6 Tryz.f6 rfl rfl rfl rfl rfl rfl rfl ⟨rfl,rfl,rfl,rfl,rfl⟩ rfl rfl rfl rfl rfl (by kernel_rfl) Tryz.func6 (by kernel_rfl)
  (of_decide_eq_true (by kernel_rfl)) (by unfold Func.isWrapper;first | (rw[if_pos (by decide +kernel)];kernel_rfl) | (rw[if_neg (by decide +kernel)];exact⟨rfl,rfl⟩))
  (fun os started H enc _=>ZzB os started H enc)
theorem proved:Rows.TeamOneSaid:=over
end Go.Proofs.YtgcfmiajkbbmeaaGreat.LawTeamOne
namespace Go.Proofs.YtgcfmiajkbbmeaaGreat
theorem teamOne_holds:Rows.TeamOneSaid:=LawTeamOne.proved
#print axioms teamOne_holds
end Go.Proofs.YtgcfmiajkbbmeaaGreat
