/- TeamSched: part 5 of 5 of the proof: the row and the card of the law, out of what the evaluator says of it; without conditions. -/
import Derived.Test.YtgcfmiajkbbmeaaGreatZTeamSchedd
import Derived.KernelRfl
import Derived.HandedShaped
import Derived.Test.YtgcfmiajkbbmeaaGreatRows
import Derived.WalkKit
import Derived.ProofKit
import Derived.OpenShut
import Derived.ShutString
import Derived.ChangeOld
import Derived.Below
import Derived.SizedLaws
import Derived.Handed
import Derived.LaidMore
import Derived.Stop.Joined
import Derived.ChangeShapes
import Derived.Carry
set_option maxRecDepth 100000
set_option maxHeartbeats 40000000
set_option linter.unusedVariables false
set_option linter.unusedSimpArgs false
namespace Go.Proofs.YtgcfmiajkbbmeaaGreat
open Go Go.Proofs.YtgcfmiajkbbmeaaGreatE
open Go.IntKind (u64 i64 u32 i32 u8)
section
variable {α β:Type} {A B:Option α} {Q:α→Option β→Prop}
theorem yB {c:Bool}{X Y:Option β} (h1:ZbN A Q X) (h2:ZbN B Q Y):ZbN (bif c then A else B) Q (br c X Y):=Za6 rfl h1 h2
theorem yBn {c:Bool}{X Y:Option β} (h2:ZbN B Q Y):ZbN (bif c then none else B) Q (br c X Y):=Za6 rfl Z8 h2
theorem yBm {c:Bool}{X Y:Option β} (h1:ZbN A Q X):ZbN (bif c then A else none) Q (br c X Y):=Za6 rfl h1 Z8
theorem yT {X Y:Option β} (h1:ZbN A Q X):ZbN A Q (br true X Y):=Zlx rfl h1
theorem yF {X Y:Option β} (h1:ZbN A Q Y):ZbN A Q (br false X Y):=ZBN rfl h1
theorem yG {γ:Type}{f:γ→D}{l:List γ}{i:Int}{A:γ→Option α}{K:D→Option β} (k:∀r,ZI l i=some r→ZbN (A r) Q (K (f r))):ZbN ((ZI l i).bind A) Q (bnd (ZI (l.map f) i) K):=Zya rfl rfl k
theorem yC {γ:Type}{Γ:Ctx}{f:Nat}{args:List V}{E:Option γ}{A:γ→Option α}{K:V→Option β}{enc:γ→D} (w:∀r,E=some r→evD Γ f args=some (enc r)) (k:∀r,E=some r→ZbN (A r) Q (Zux (enc r) K)):ZbN (E.bind A) Q (bnd (evW Γ f args []) (ZmF K)):=Zw5 enc w rfl k
theorem Zxu {γ:Type}{x:γ}{A:γ→Option α}{X:Option β} (k:ZbN (A x) Q X):ZbN ((some x).bind A) Q X:=k
theorem yR {a:α}{f:α→Option β}:ZbN (some a) (fun r rhs=>rhs=f r) (f a):=Zm rfl
theorem yBr {a:α}{c:Bool}{f:α→Option β}{Y:Option β} (h2:ZbN B (fun r rhs=>rhs=f r) Y):ZbN (bif c then some a else B) (fun r rhs=>rhs=f r) (br c (f a) Y):=yB yR h2
theorem evT {Γ : Ctx} {f : Nat} (fn : FnI) {args : List V} {E : Option α} {enc : α → D} (hc : Γ.code f = some fn) (hn : Nat.beq args.length fn.nargs = true) (h : ZbN E (fun r rhs => rhs = some (enc r)) (ZfX Γ 0 fn.body (Zbq 0 args) [] fun x e H1 => (match x with
      | .exit _=>none
      | _=>(match ZhR e H1 fn.res with
        | some l=>Zdw 0 [ZeE l] H1 fun _ vs H2=>(match vs with | [v]=>(match fr H2 6 v with | some (x,_)=>some x | none=>none) | _=>none)
        | none=>none)))):∀r,E=some r→evD Γ f args=some (enc r):=by rw[ZBy Γ f fn args hc hn];exact h
theorem evS {Γ : Ctx} {f : Nat} (fn : FnI) {args : List V} {H : Zd} {E : Option α} {enc : α → V × Zd} (hc : Γ.code f = some fn) (hn : Nat.beq args.length fn.nargs = true) (h : ZbN E (fun r rhs => rhs = some (enc r)) (ZfX Γ H.length fn.body (Zbq 0 args) H fun x e H1 => (match x with
      | .exit _=>none
      | _=>(match ZhR e H1 fn.res with
        | some l=>Zdw H.length [ZeE l] H1 fun _ vs H2=>(match vs with | [v]=>some (v,H2) | _=>none)
        | none=>none)))):∀r,E=some r→evW Γ f args H=some (enc r):=by rw[Zzd Γ f fn args H hc hn];exact h
theorem lpT {S R:Type}{step:S→Option (S⊕R)}{Γ:Ctx}{k:Nat}{live outs:List Nat}{b:C}{vs:S→List V}{H:S→Zd} (x:R→Ex×List V×Zd)
    (h:∀(s:S) (rec:S→Option R),(∀s r,rec s=some r→lpW Γ k live outs b (vs s) (H s)=some (x r))→ZbN (step s) (fun t rhs=>(match t with | .inl s'=>∀r,rec s'=some r→rhs=some (x r) | .inr r=>rhs=some (x r))) (ZfX Γ k b (Zb7 live (vs s)) (H s) fun x e H=>(match x with
      | .normal=>ZmK k (live.map e) H fun vs H=>bnd (lpW Γ k live outs b vs H) some
      | x=>Zdw k (outs.map e) H fun _ vs H=>some (x,vs,H)))):∀s r,lp step s=some r→lpW Γ k live outs b (vs s) (H s)=some (x r):=
  ZBh (G:=fun s=>lpW Γ k live outs b (vs s) (H s)) x fun s rec ih=>by rw[ZBP];exact h s rec ih
end
theorem Zed:∀r,ZdG=some r→evD ctx 9 []=some (D.bool r):=fun r h=>by
  cases h
  exact ZAl 100 (by kernel_rfl)
def ZpF (r:Bool):D:=(D.bool r)
theorem ZnV {t0 t1:Bool}{a:Zk}:∀r,(Zha a)=some r→evD ctx 34 [(.d (D.agg [(zL t0 a.work),(D.list t1 (List.map Zs a.edges))]))]=some (ZpF r):=
 evT ZzI rfl rfl <| Zf (Zr _ _) (yB (Zf (Zr _ _) (yBr yR))
  yR)
def Zpy (t0:Bool) (t1:Bool) (a:Zk):Unit→V×Zd
  | r=>((.agg [(.sl 0 1),(.sl 1 2)]),[(.arr 1 (List.map Za a.work)),(.arr 2 (List.map Zs a.edges))])
theorem Zc1 {t0 t1:Bool}{a:Zk}:∀r,(Zcs a)=some r→evW ctx 12 [(.d (D.agg [(zL t0 a.work),(D.list t1 (List.map Zs a.edges))]))] []=some ((Zpy t0 t1 a) r):=
 evS ZzO rfl rfl <| Zlx (ZgY (f:=Za) (fun _=>⟨rfl,rfl⟩) a.work 0) (Za6 (Zig Za a.work) (Zf (rfl:_=List.map Za a.work) (Zlx (ZgY (f:=Zs) (fun _=>⟨rfl,rfl⟩) a.edges 0) (Za6 (Zig Zs a.edges) (Zf (rfl:_=List.map Zs a.edges) yR)
  Z8)))
  Z8)
def ZnJ (t0:Bool) (a:List Int):Unit→V×Zd
  | r=>((.sl 0 1),[(.arr 1 (List.map Za a))])
theorem Zcm {t0:Bool}{a:List Int}:∀r,(Zbz a)=some r→evW ctx 14 [(.d (zL t0 a))] []=some ((ZnJ t0 a) r):=
 evS ZAy rfl rfl <| Zlx (ZgY (f:=Za) (fun _=>⟨rfl,rfl⟩) a 0) (Za6 (Zig Za a) (Zf (rfl:_=List.map Za a) yR)
  Z8)
def Znc (r:Bool):D:=(D.bool r)
theorem Zmg {a:Int}:∀r,(ZbJ a)=some r→evD ctx 67 [(.d (Za a))]=some (Znc r):=
 evT ZzM rfl rfl <| yBr (yBr yR)
def Zde (r:Int):D:=(Za r)
def Zay (t0:Bool) (a:List Int):(Int⊕Unit)→Ex×List V×Zd
  | (.inl r)=>(.ret,[(.d (Za r))],[])
  | (.inr r)=>(.exit 0,[.bad],[])
theorem Zcv {t0:Bool}{a:List Int}:∀(s0:Int) (r:(Int⊕Unit)),lp (Zv a (fun z0=>ZbJ z0)) s0=some r→lpW ctx 0 [0,1,7,8] [4] Zl9 [(.d (zL t0 a)),(.d (D.fn 67 [])),(.d (Za (a.length:Int))),(.d (Za s0))] []=some ((Zay t0 a) r):=
 lpT (Zay t0 a) fun s0 _ ih=>yB (yG fun x1 _=>
  yC Zmg fun x2 _=>
  yB (Zm rfl)
  (Zg (ih _)))
  (Zm rfl)
theorem Zc9 {t0:Bool}{a:List Int}:∀r,(ZC a (fun z0=>ZbJ z0))=some r→evD ctx 99 [(.d (zL t0 a)),(.d (D.fn 67 []))]=some (Zde r):=
 evT ZsG rfl rfl <| Zf (Zr _ _) (by
 conv=>rhs;whnf
 refine Ze _ (Zcv _) fun r3 _=>?_
 rcases r3 with r3 | r3
 exact yR
 exact yR)
def ZcM (r:Bool):D:=(D.bool r)
theorem Zcx {t0:Bool}{a:List Int}:∀r,(Zw a (fun z0=>ZbJ z0))=some r→evD ctx 66 [(.d (zL t0 a)),(.d (D.fn 67 []))]=some (ZcM r):=
 evT Zu4 rfl rfl <| yC Zc9 fun x0 _=>
  yBr yR
def Znh (r:Bool):D:=(D.bool r)
theorem ZhP {t0 t1:Bool}{a:Int}{b0:List Int}{b1:List Zt}:∀r,(Zen a b0)=some r→evD ctx 68 [(.d (Za a)),(.d (D.rptr [(zL t0 b0),(D.list t1 (List.map Zs b1))]))]=some (Znh r):=
 evT Zzq rfl rfl <| yB (Zf (Zr _ _) (yBr yR))
  yR
def Zf4 (r:Int):D:=(Za r)
def ZcP (t0:Bool) (a:List Zt) (b:Zt):(Int⊕Unit)→Ex×List V×Zd
  | (.inl r)=>(.ret,[(.d (Za r))],[])
  | (.inr r)=>(.exit 0,[.bad],[])
theorem ZeX {t0:Bool}{a:List Zt}{b:Zt}:∀(s0:Int) (r:(Int⊕Unit)),lp (Zat a b) s0=some r→lpW ctx 0 [0,3,7,8] [4] Zt0 [(.d (D.list t0 (List.map Zs a))),(.ptr 0 0),(.d (Za (a.length:Int))),(.d (Za s0))] [(.cells [(.d (Za b.src)),(.d (Za b.dst))])]=some ((ZcP t0 a b) r):=
 lpT (ZcP t0 a b) fun s0 _ ih=>yB (yG fun x1 _=>
  yB (Zm rfl)
  (Zg (ih _)))
  (Zm rfl)
theorem ZfV {t0:Bool}{a:List Zt}{b:Zt}:∀r,(ZbO a b)=some r→evD ctx 100 [(.d (D.list t0 (List.map Zs a))),(.d (D.agg [(Za b.src),(Za b.dst)]))]=some (Zf4 r):=
 evT Zxy rfl rfl <| Zf (Zr _ _) (by
 conv=>rhs;whnf
 refine Ze _ (ZeX _) fun r2 _=>?_
 rcases r2 with r2 | r2
 exact yR
 exact yR)
def Zfi (r:Bool):D:=(D.bool r)
theorem ZeY {t0:Bool}{a:List Zt}{b:Zt}:∀r,(Zaw a b)=some r→evD ctx 69 [(.d (D.list t0 (List.map Zs a))),(.d (D.agg [(Za b.src),(Za b.dst)]))]=some (Zfi r):=
 evT ZAr rfl rfl <| yC ZfV fun x0 _=>
  yBr yR
def Zpl (r:((List Int)×Bool)):D:=(D.tup [(zL true r.1),(D.bool r.2)])
def Zih (t0:Bool) (t1:Bool) (a:Zk) (s0:(List Int)×(List Bool)) (s1:Int):(Unit⊕Unit)→Ex×List V×Zd
  | (.inl r)=>(.exit 3,[(.ptr 0 0),(.sl 1 1),(.sl 2 1),(.d (Za s1)),(.d (Za (a.work.length:Int))),(.d (Za s1))],[(.cells [(.d (zL t0 a.work)),(.d (D.list t1 (List.map Zs a.edges)))]),(.arr 1 (List.map Za s0.1)),(.arr 1 (List.map D.bool s0.2))])
  | (.inr r)=>(.exit 4,[(.ptr 0 0),(.sl 1 1),(.sl 2 1),(.d (Za s1)),(.d (Za (a.work.length:Int))),(.d (Za s1))],[(.cells [(.d (zL t0 a.work)),(.d (D.list t1 (List.map Zs a.edges)))]),(.arr 1 (List.map Za s0.1)),(.arr 1 (List.map D.bool s0.2))])
theorem Zlu {t0 t1:Bool}{a:Zk}{s0:(List Int)×(List Bool)}{s1:Int}:∀(s3:Int) (r:(Unit⊕Unit)),lp (Zd1 a s0 s1) s3=some r→lpW ctx 0 [1,4,5,6,21,22,30,31,32] [1,4,5,6,21,22] Zv8 [(.ptr 0 0),(.sl 1 1),(.sl 2 1),(.d (Za s1)),(.d (Za (a.work.length:Int))),(.d (Za s1)),(.d (D.list t1 (List.map Zs a.edges))),(.d (Za (a.edges.length:Int))),(.d (Za s3))] [(.cells [(.d (zL t0 a.work)),(.d (D.list t1 (List.map Zs a.edges)))]),(.arr 1 (List.map Za s0.1)),(.arr 1 (List.map D.bool s0.2))]=some ((Zih t0 t1 a s0 s1) r):=
 lpT (Zih t0 t1 a s0 s1) fun s3 _ ih=>yB (yG fun x4 _=>
  yB (yG fun x5 hx5=>
  Zo (Zad rfl hx5) (yB (Zg (ih _))
  (Zm rfl)))
  (Zg (ih _)))
  (Zm rfl)
def Zh9 (t0:Bool) (t1:Bool) (a:Zk) (s0:(List Int)×(List Bool)):(((List Int)×(List Bool))⊕Unit)→Ex×List V×Zd
  | (.inl r)=>(.exit 1,[(.ptr 0 0),(.sl 1 1),(.sl 2 1)],[(.cells [(.d (zL t0 a.work)),(.d (D.list t1 (List.map Zs a.edges)))]),(.arr 1 (List.map Za r.1)),(.arr 1 (List.map D.bool r.2))])
  | (.inr r)=>(.exit 2,[(.ptr 0 0),(.sl 1 1),(.sl 2 1)],[(.cells [(.d (zL t0 a.work)),(.d (D.list t1 (List.map Zs a.edges)))]),(.arr 1 (List.map Za s0.1)),(.arr 1 (List.map D.bool s0.2))])
theorem ZlB {t0 t1:Bool}{a:Zk}{s0:(List Int)×(List Bool)}:∀(s1:Int) (r:(((List Int)×(List Bool))⊕Unit)),lp (ZcV a s0) s1=some r→lpW ctx 0 [1,4,5,21,22] [1,4,5] Zxf [(.ptr 0 0),(.sl 1 1),(.sl 2 1),(.d (Za (a.work.length:Int))),(.d (Za s1))] [(.cells [(.d (zL t0 a.work)),(.d (D.list t1 (List.map Zs a.edges)))]),(.arr 1 (List.map Za s0.1)),(.arr 1 (List.map D.bool s0.2))]=some ((Zh9 t0 t1 a s0) r):=
 lpT (Zh9 t0 t1 a s0) fun s1 _ ih=>yB (yG fun x2 hx2=>
  Zo (Zad rfl hx2) (yB (Zg (ih _))
  (Zf (Zr _ _) (by
 conv=>rhs;whnf
 refine Ze _ (Zlu _) fun r6 _=>?_
 rcases r6 with r6 | r6
 exact Zg (ih _)
 exact Zo (Zar rfl hx2) (Zo (Zad rfl hx2) (Zf (Zcw D.bool s0.2 s1.toNat true) (yT (Za6 (Ze4 Za s0.1 1) (Zf (ZeZ Za s0.1 [s1]) (Zm rfl))
  Z8))))))))
  (Zm rfl)
def ZhL (t0:Bool) (t1:Bool) (a:Zk):((List Int)⊕(List Int))→Ex×List V×Zd
  | (.inl r)=>(.ret,[(.nilsl 1),(.d (D.bool false)),(.sl 0 1)],[(.arr 1 (List.map Za r))])
  | (.inr r)=>(.exit 0,[.bad,.bad,(.sl 0 1)],[(.arr 1 (List.map Za r))])
theorem ZlR {t0 t1:Bool}{a:Zk}:∀(s0:(List Int)×(List Bool)) (r:((List Int)⊕(List Int))),lp (Zd2 a) s0=some r→lpW ctx 0 [1,4,5] [2,3,4] Zw6 [(.ptr 0 0),(.sl 1 1),(.sl 2 1)] [(.cells [(.d (zL t0 a.work)),(.d (D.list t1 (List.map Zs a.edges)))]),(.arr 1 (List.map Za s0.1)),(.arr 1 (List.map D.bool s0.2))]=some ((ZhL t0 t1 a) r):=
 lpT (ZhL t0 t1 a) fun s0 _ ih=>Zf (Zr _ _) (Zf (Zr _ _) (yB (Zf (Zr _ _) (by
 conv=>rhs;whnf
 refine Ze _ (ZlB _) fun r7 _=>?_
 rcases r7 with r7 | r7
 exact Zg (ih _)
 exact Zm rfl))
  (Zm rfl)))
theorem Zok {t0 t1:Bool}{a:Zk}:∀r,(ZeG a)=some r→evD ctx 70 [(.d (D.agg [(zL t0 a.work),(D.list t1 (List.map Zs a.edges))]))]=some (Zpl r):=
 evT ZAj rfl rfl <| Zf (Zr _ _) (yBm (Zf (ZiA D.bool (false:Bool) (a.work.length:Int)) (by
 conv=>rhs;whnf
 refine Ze _ (ZlR _) fun r8 _=>?_
 rcases r8 with r8 | r8
 exact yR
 exact yR)))
def Zpt (r:Int):D:=(Za r)
def ZhQ (t0:Bool) (t1:Bool) (a:Zk):(Unit⊕Unit)→Ex×List V×Zd
  | (.inl r)=>(.ret,[(.ptr 0 0),(.d (Za 42))],[(.cells [(.d (zL t0 a.work)),(.d (D.list t1 (List.map Zs a.edges)))])])
  | (.inr r)=>(.exit 0,[(.ptr 0 0),.bad],[(.cells [(.d (zL t0 a.work)),(.d (D.list t1 (List.map Zs a.edges)))])])
theorem ZlT {t0 t1:Bool}{a:Zk}:∀(s1:Int) (r:(Unit⊕Unit)),lp (Zdb a) s1=some r→lpW ctx 0 [1,3,23,24,25] [1,2] Zv9 [(.ptr 0 0),(.fn 68 [(.ptr 0 0)]),(.d (D.list t1 (List.map Zs a.edges))),(.d (Za (a.edges.length:Int))),(.d (Za s1))] [(.cells [(.d (zL t0 a.work)),(.d (D.list t1 (List.map Zs a.edges)))])]=some ((ZhQ t0 t1 a) r):=
 lpT (ZhQ t0 t1 a) fun s1 _ ih=>yB (yG fun x2 _=>
  yC ZhP fun x3 _=>
  yB (yC ZhP fun x4 _=>
  yB (yB (Zm rfl)
  (yBm (Za6 (ZwE Zs a.edges s1.toNat) (yT (Zf (Zre Zs a.edges s1.toNat) (yC ZeY fun x5 _=>
  yB (Zm rfl)
  (Zg (ih _)))))
  Z8)))
  (Zm rfl))
  (Zm rfl))
  (Zm rfl)
theorem Zc6 {t0 t1:Bool}{a:Zk}:∀r,(ZbI a)=some r→evD ctx 39 [(.d (D.agg [(zL t0 a.work),(D.list t1 (List.map Zs a.edges))]))]=some (Zpt r):=
 evT Zzl rfl rfl <| Zf (Zr _ _) (yBr (Zf (Zr _ _) (yBr (yC Zcx fun x0 _=>
  yBr (Zf (Zr _ _) (by
 conv=>rhs;whnf
 refine Ze _ (ZlT _) fun r6 _=>?_
 rcases r6 with r6 | r6
 exact yR
 exact yC Zok fun x7 _=>
  yBr yR))))))
def Zmw (r:Bool):D:=(D.bool r)
theorem Zlk {a:Int}:∀r,(Zbf a)=some r→evD ctx 71 [(.d (Za a))]=some (Zmw r):=
 evT Zz5 rfl rfl <| yBr (yBr yR)
def Zc8 (r:Int):D:=(Za r)
def Zau (t0:Bool) (a:List Int):(Int⊕Unit)→Ex×List V×Zd
  | (.inl r)=>(.ret,[(.d (Za r))],[])
  | (.inr r)=>(.exit 0,[.bad],[])
theorem Zce {t0:Bool}{a:List Int}:∀(s0:Int) (r:(Int⊕Unit)),lp (Zv a (fun z0=>Zbf z0)) s0=some r→lpW ctx 0 [0,1,7,8] [4] Zl9 [(.d (zL t0 a)),(.d (D.fn 71 [])),(.d (Za (a.length:Int))),(.d (Za s0))] []=some ((Zau t0 a) r):=
 lpT (Zau t0 a) fun s0 _ ih=>yB (yG fun x1 _=>
  yC Zlk fun x2 _=>
  yB (Zm rfl)
  (Zg (ih _)))
  (Zm rfl)
theorem ZcQ {t0:Bool}{a:List Int}:∀r,(ZC a (fun z0=>Zbf z0))=some r→evD ctx 99 [(.d (zL t0 a)),(.d (D.fn 71 []))]=some (Zc8 r):=
 evT ZsG rfl rfl <| Zf (Zr _ _) (by
 conv=>rhs;whnf
 refine Ze _ (Zce _) fun r3 _=>?_
 rcases r3 with r3 | r3
 exact yR
 exact yR)
def Zcu (r:Bool):D:=(D.bool r)
theorem Zao {t0:Bool}{a:List Int}:∀r,(Zw a (fun z0=>Zbf z0))=some r→evD ctx 66 [(.d (zL t0 a)),(.d (D.fn 71 []))]=some (Zcu r):=
 evT Zu4 rfl rfl <| yC ZcQ fun x0 _=>
  yBr yR
def ZoX (r:Bool):D:=(D.bool r)
theorem Zi1 {t0 t1 t2:Bool}{a:Zk}{b:List Int}:∀r,(Ze8 a b)=some r→evD ctx 40 [(.d (D.agg [(zL t0 a.work),(D.list t1 (List.map Zs a.edges))])),(.d (zL t2 b))]=some (ZoX r):=
 evT Zzn rfl rfl <| Zf (Zr _ _) (Zf (Zr _ _) (yB (yC Zao fun x0 _=>
  yBr (yC Zao fun x1 _=>
  yBr yR))
  yR))
def Zsn (a:Bool):(Unit⊕Unit)→D
  | (.inl r)=>(D.iface 115 (D.agg []))
  | (.inr r)=>(D.iface 116 (D.agg []))
theorem ZiH {a:Bool}:∀r,(Zd7 a)=some r→evD ctx 41 [(.d (D.bool a))]=some ((Zsn a) r):=
 evT ZzY rfl rfl <| (by
 try unfold Zd7
 rcases hb:a with _ | _
 exact Zxp yR
 exact ZvH yR)
def Zmx (r:Bool):D:=(D.bool r)
theorem Zk3 {a:Int}:∀r,(ZbP a)=some r→evD ctx 195 [(.d (Za a))]=some (Zmx r):=
 evT Zw8 rfl rfl <| yBr (yBr yR)
def Zc2 (r:Int):D:=(Za r)
def Zav (t0:Bool) (a:List Int):(Int⊕Unit)→Ex×List V×Zd
  | (.inl r)=>(.ret,[(.d (Za r))],[])
  | (.inr r)=>(.exit 0,[.bad],[])
theorem Zcj {t0:Bool}{a:List Int}:∀(s0:Int) (r:(Int⊕Unit)),lp (Zv a (fun z0=>ZbP z0)) s0=some r→lpW ctx 0 [0,1,7,8] [4] Zl9 [(.d (zL t0 a)),(.d (D.fn 195 [])),(.d (Za (a.length:Int))),(.d (Za s0))] []=some ((Zav t0 a) r):=
 lpT (Zav t0 a) fun s0 _ ih=>yB (yG fun x1 _=>
  yC Zk3 fun x2 _=>
  yB (Zm rfl)
  (Zg (ih _)))
  (Zm rfl)
theorem ZcS {t0:Bool}{a:List Int}:∀r,(ZC a (fun z0=>ZbP z0))=some r→evD ctx 99 [(.d (zL t0 a)),(.d (D.fn 195 []))]=some (Zc2 r):=
 evT ZsG rfl rfl <| Zf (Zr _ _) (by
 conv=>rhs;whnf
 refine Ze _ (Zcj _) fun r3 _=>?_
 rcases r3 with r3 | r3
 exact yR
 exact yR)
def ZcC (r:Bool):D:=(D.bool r)
theorem Zch {t0:Bool}{a:List Int}:∀r,(Zw a (fun z0=>ZbP z0))=some r→evD ctx 66 [(.d (zL t0 a)),(.d (D.fn 195 []))]=some (ZcC r):=
 evT Zu4 rfl rfl <| yC ZcS fun x0 _=>
  yBr yR
def Zpq (r:Bool):D:=(D.bool r)
theorem ZdX {t0 t1:Bool}{a:ZK}{b:Int}:∀r,(Zdf a b)=some r→evD ctx 191 [(.d (D.agg [(zL t0 a.on),(zL t1 a.left)])),(.d (Za b))]=some (Zpq r):=
 evT ZxG rfl rfl <| yG fun x0 _=>
  yBr yR
def ZgS (r:Int):D:=(Za r)
def Zdl (t0:Bool) (a:List Int) (b:Int):(Int⊕Unit)→Ex×List V×Zd
  | (.inl r)=>(.ret,[(.d (Za r))],[])
  | (.inr r)=>(.exit 0,[.bad],[])
theorem Zft {t0:Bool}{a:List Int}{b:Int}:∀(s0:Int) (r:(Int⊕Unit)),lp (ZaL a b) s0=some r→lpW ctx 0 [0,1,7,8] [4] ZvK [(.d (zL t0 a)),(.d (Za b)),(.d (Za (a.length:Int))),(.d (Za s0))] []=some ((Zdl t0 a b) r):=
 lpT (Zdl t0 a b) fun s0 _ ih=>yB (yG fun x1 _=>
  yB (Zm rfl)
  (Zg (ih _)))
  (Zm rfl)
theorem Zgv {t0:Bool}{a:List Int}{b:Int}:∀r,(ZcK a b)=some r→evD ctx 88 [(.d (zL t0 a)),(.d (Za b))]=some (ZgS r):=
 evT Zz7 rfl rfl <| Zf (Zr _ _) (by
 conv=>rhs;whnf
 refine Ze _ (Zft _) fun r2 _=>?_
 rcases r2 with r2 | r2
 exact yR
 exact yR)
def ZfI (r:Bool):D:=(D.bool r)
theorem ZL {t0:Bool}{a:List Int}{b:Int}:∀r,(Zz a b)=some r→evD ctx 55 [(.d (zL t0 a)),(.d (Za b))]=some (ZfI r):=
 evT ZzH rfl rfl <| yC Zgv fun x0 _=>
  yBr yR
def Zm6 (r:Bool):D:=(D.bool r)
theorem Zmc {t0 t1:Bool}{a:Zt}{b0:Int}{c0:List Int}{c1:List Int}:∀r,(ZdE a b0 c0 c1)=some r→evD ctx 208 [(.d (D.agg [(Za a.src),(Za a.dst)])),(.d (D.rptr [(Za b0)])),(.d (D.rptr [(zL t0 c0),(zL t1 c1)]))]=some (Zm6 r):=
 evT Zv1 rfl rfl <| yB (yC ZdX fun x0 _=>
  yBr yR)
  yR
def ZcR (r:Int):D:=(Za r)
def Zap (t0:Bool) (t1:Bool) (t2:Bool) (a:List Zt) (b0:Int) (b1:List Int) (b2:List Int):(Int⊕Unit)→Ex×List V×Zd
  | (.inl r)=>(.ret,[(.d (Za r))],[])
  | (.inr r)=>(.exit 0,[.bad],[])
theorem Zb1 {t0 t1 t2:Bool}{a:List Zt}{b0:Int}{b1:List Int}{b2:List Int}:∀(s0:Int) (r:(Int⊕Unit)),lp (ZZ a (fun z0=>ZdE z0 b0 b1 b2)) s0=some r→lpW ctx 0 [0,1,7,8] [4] ZqF [(.d (D.list t0 (List.map Zs a))),(.d (D.fn 208 [(D.rptr [(Za b0)]),(D.rptr [(zL t1 b1),(zL t2 b2)])])),(.d (Za (a.length:Int))),(.d (Za s0))] []=some ((Zap t0 t1 t2 a b0 b1 b2) r):=
 lpT (Zap t0 t1 t2 a b0 b1 b2) fun s0 _ ih=>yB (yG fun x1 _=>
  yC Zmc fun x2 _=>
  yB (Zm rfl)
  (Zg (ih _)))
  (Zm rfl)
theorem ZcI {t0 t1 t2:Bool}{a:List Zt}{b0:Int}{b1:List Int}{b2:List Int}:∀r,(Zam a (fun z0=>ZdE z0 b0 b1 b2))=some r→evD ctx 109 [(.d (D.list t0 (List.map Zs a))),(.d (D.fn 208 [(D.rptr [(Za b0)]),(D.rptr [(zL t1 b1),(zL t2 b2)])]))]=some (ZcR r):=
 evT Zt5 rfl rfl <| Zf (Zr _ _) (by
 conv=>rhs;whnf
 refine Ze _ (Zb1 _) fun r3 _=>?_
 rcases r3 with r3 | r3
 exact yR
 exact yR)
def Zci (r:Bool):D:=(D.bool r)
theorem Zb3 {t0 t1 t2:Bool}{a:List Zt}{b0:Int}{b1:List Int}{b2:List Int}:∀r,(ZQ a (fun z0=>ZdE z0 b0 b1 b2))=some r→evD ctx 89 [(.d (D.list t0 (List.map Zs a))),(.d (D.fn 208 [(D.rptr [(Za b0)]),(D.rptr [(zL t1 b1),(zL t2 b2)])]))]=some (Zci r):=
 evT Zyx rfl rfl <| yC ZcI fun x0 _=>
  yBr yR
def Zpn (r:Bool):D:=(D.bool r)
theorem ZgC {t0 t1:Bool}{t2 t3:Bool}{a:Zk}{b:ZK}{c:Int}:∀r,(ZeL a b c)=some r→evD ctx 192 [(.d (D.agg [(zL t0 a.work),(D.list t1 (List.map Zs a.edges))])),(.d (D.agg [(zL t2 b.on),(zL t3 b.left)])),(.d (Za c))]=some (Zpn r):=
 evT Zvz rfl rfl <| yC Zb3 fun x0 _=>
  yBr yR
def Zn0 (r:Bool):D:=(D.bool r)
def Zhk (t0:Bool) (t1:Bool) (t2:Bool) (t3:Bool) (a:Zk) (b:ZK):(Unit⊕Unit)→Ex×List V×Zd
  | (.inl r)=>(.ret,[(.ptr 0 0),(.ptr 1 0),(.d (D.bool false))],[(.cells [(.d (zL t0 a.work)),(.d (D.list t1 (List.map Zs a.edges)))]),(.cells [(.d (zL t2 b.on)),(.d (zL t3 b.left))])])
  | (.inr r)=>(.exit 0,[(.ptr 0 0),(.ptr 1 0),.bad],[(.cells [(.d (zL t0 a.work)),(.d (D.list t1 (List.map Zs a.edges)))]),(.cells [(.d (zL t2 b.on)),(.d (zL t3 b.left))])])
theorem ZkL {t0 t1:Bool}{t2 t3:Bool}{a:Zk}{b:ZK}:∀(s1:Int) (r:(Unit⊕Unit)),lp (Zdx a b) s1=some r→lpW ctx 0 [2,3,35,36,37] [2,3,4] Zut [(.ptr 0 0),(.ptr 1 0),(.d (zL t2 b.on)),(.d (Za (b.on.length:Int))),(.d (Za s1))] [(.cells [(.d (zL t0 a.work)),(.d (D.list t1 (List.map Zs a.edges)))]),(.cells [(.d (zL t2 b.on)),(.d (zL t3 b.left))])]=some ((Zhk t0 t1 t2 t3 a b) r):=
 lpT (Zhk t0 t1 t2 t3 a b) fun s1 _ ih=>yB (yG fun x2 _=>
  yB (Zg (ih _))
  (yB (Zm rfl)
  (Zf (Zr _ _) (yB (Zm rfl)
  (yC ZdX fun x3 _=>
  yB (Zm rfl)
  (yBm (Za6 (ZwE Za b.on s1.toNat) (yT (Zf (Zre Za b.on s1.toNat) (yC ZL fun x4 _=>
  yB (Zm rfl)
  (yC ZgC fun x5 _=>
  yB (Zg (ih _))
  (Zm rfl)))))
  Z8)))))))
  (Zm rfl)
def Zho (t0:Bool) (t1:Bool) (t2:Bool) (t3:Bool) (a:Zk) (b:ZK):(Unit⊕Unit)→Ex×List V×Zd
  | (.inl r)=>(.ret,[(.d (D.bool false))],[])
  | (.inr r)=>(.exit 2,[.bad],[])
theorem ZkA {t0 t1:Bool}{t2 t3:Bool}{a:Zk}{b:ZK}:∀(s7:Int) (r:(Unit⊕Unit)),lp (ZdA a b) s7=some r→lpW ctx 0 [2,3,76,77] [4] Zup [(.ptr 0 0),(.ptr 1 0),(.d (Za (b.left.length:Int))),(.d (Za s7))] [(.cells [(.d (zL t0 a.work)),(.d (D.list t1 (List.map Zs a.edges)))]),(.cells [(.d (zL t2 b.on)),(.d (zL t3 b.left))])]=some ((Zho t0 t1 t2 t3 a b) r):=
 lpT (Zho t0 t1 t2 t3 a b) fun s7 _ ih=>yB (yC ZdX fun x8 _=>
  yB (yC ZgC fun x9 _=>
  yB (Zg (ih _))
  (Zm rfl))
  (Zg (ih _)))
  (Zm rfl)
theorem ZmY {t0 t1:Bool}{t2 t3:Bool}{a:Zk}{b:ZK}:∀r,(Zgq a b)=some r→evD ctx 179 [(.d (D.agg [(zL t0 a.work),(D.list t1 (List.map Zs a.edges))])),(.d (D.agg [(zL t2 b.on),(zL t3 b.left)]))]=some (Zn0 r):=
 evT ZxU rfl rfl <| Zf (Zr _ _) (yBr (Zf (Zr _ _) (yBr (Zf (Zr _ _) (Zf (Zr _ _) (yBr (yC Zch fun x0 _=>
  yBr (Zf (Zr _ _) (by
 conv=>rhs;whnf
 refine Ze _ (ZkL _) fun r6 _=>?_
 rcases r6 with r6 | r6
 exact yR
 exact Zf (Zr _ _) (by
 conv=>rhs;whnf
 refine Ze _ (ZkA _) fun r10 _=>?_
 rcases r10 with r10 | r10
 exact yR
 exact yR))))))))))
def ZnG (r:Int):D:=(Za r)
theorem Zet {t0 t1:Bool}{t2 t3:Bool}{a:Zk}{b:ZK}:∀r,(Zdr a b)=some r→evD ctx 171 [(.d (D.agg [(zL t0 a.work),(D.list t1 (List.map Zs a.edges))])),(.d (D.agg [(zL t2 b.on),(zL t3 b.left)]))]=some (ZnG r):=
 evT Zwk rfl rfl <| yC Zc6 fun x0 _=>
  yB (yC ZmY fun x1 _=>
  yBr yR)
  yR
def Zpw (r:Int):D:=(Za r)
theorem Zjl {a:Int}:∀r,(ZfH a)=some r→evD ctx 188 [(.d (Za a))]=some (Zpw r):=
 evT Zxs rfl rfl <| yBr (yBr yR)
def Zg5 (r:Int):D:=(Za r)
theorem ZgD {a:Int}:∀r,(Zbo a)=some r→evD ctx 205 [(.d (D.int .u64 a))]=some (Zg5 r):=
 evT ZxM rfl rfl <| yF (yF (yF (yF (yF (yF yR)))))
def Zie (r:Int):D:=(Za r)
theorem ZhB {a:Int}:∀r,(ZbZ a)=some r→evD ctx 189 [(.d (D.int .u64 a))]=some (Zie r):=
 evT ZwO rfl rfl <| yC ZgD fun x0 _=>
  yR
def ZfS (a:Int):Unit→V×Zd
  | r=>(.bad,[])
theorem Zfm {a:Int}:∀r,(ZbA a)=some r→evW ctx 207 [(.d (D.int .u64 a))] []=some ((ZfS a) r):=
 evS Zy5 rfl rfl <| yBr yR
def Zgu (a:Int):Unit→V×Zd
  | r=>(.bad,[])
theorem Zf7 {a:Int}:∀r,(ZaV a)=some r→evW ctx 190 [(.d (D.int .u64 a))] []=some ((Zgu a) r):=
 evS ZwY rfl rfl <| Ze _ Zfm fun x0 _=>
  yR
def ZrI (a:Int):(Unit⊕Unit)→V×Zd
  | (.inl r)=>((.d (D.tup [(Za 0),(D.bool false)])),[])
  | (.inr r)=>((.tup [.bad,(.d (D.bool true))]),[])
theorem Zlq {a:Int}:∀r,(Zgx a)=some r→evW ctx 176 [(.d (Za a))] []=some ((ZrI a) r):=
 evS ZvX rfl rfl <| yC Zjl fun x0 _=>
  yBr (yC ZhB fun x1 _=>
  yBr (Ze _ Zf7 fun x2 _=>
  yR))
def Zm5 (r:Int):D:=(Za r)
theorem Zda {t0:Bool}{a:Zb}:∀r,(ZbG a)=some r→evD ctx 180 [(.d (D.agg [(zL t0 a.ring),(Za a.top),(Za a.bottom)]))]=some (Zm5 r):=
 evT ZvW rfl rfl <| Zf (Zr _ _) (by
 conv=>rhs;whnf
 refine Ze _ Zlq fun x0 _=>?_
 rcases x0 with x0 | x0
 exact yF yR
 exact yT (Zf (Zr _ _) (yBr (yC Zjl fun x1 _=>
  yBr (yBr (Zf (Zr _ _) (yBr yR)))))))
def Znd (r:Bool):D:=(D.bool r)
def ZgQ (t0:Bool) (t1:Bool) (t2:Bool) (t3:Bool) (t4:Bool) (a:ZS):(Unit⊕Unit)→Ex×List V×Zd
  | (.inl r)=>(.ret,[(.d (D.bool false))],[])
  | (.inr r)=>(.exit 0,[.bad],[])
theorem Zkc {t0 t1:Bool}{t2 t3 t4:Bool}{a:ZS}:∀(s0:Int) (r:(Unit⊕Unit)),lp (ZcY a) s0=some r→lpW ctx 0 [1,3,32,33,34] [2] Zt6 [(.ptr 0 0),(.d (Za (a.crew.on.length:Int))),(.d (D.list t2 (List.map Zy a.deques))),(.d (Za (a.deques.length:Int))),(.d (Za s0))] [(.cells [(.d (zL t0 a.crew.on)),(.d (zL t1 a.crew.left)),(.d (D.list t2 (List.map Zy a.deques))),(.d (D.list t3 (List.map ZA a.takers))),(.d (zL t4 a.from_))])]=some ((ZgQ t0 t1 t2 t3 t4 a) r):=
 lpT (ZgQ t0 t1 t2 t3 t4 a) fun s0 _ ih=>yB (yG fun x1 _=>
  yG fun x2 _=>
  yG fun x3 _=>
  yC Zda fun x4 _=>
  yB (Zm rfl)
  (Zf (Zr _ _) (yB (Zm rfl)
  (yB (Zm rfl)
  (yB (Zm rfl)
  (yB (Zm rfl)
  (yB (yB (yF (yG fun x5 _=>
  yB (yB (Zm rfl)
  (yB (Zm rfl)
  (Zg (ih _))))
  (Zg (ih _))))
  (yT (Zm rfl)))
  (yB (yT (Zm rfl))
  (yF (yG fun x6 _=>
  yB (yB (Zm rfl)
  (yB (Zm rfl)
  (Zg (ih _))))
  (Zg (ih _))))))))))))
  (Zm rfl)
theorem Zmi {t0 t1:Bool}{t2 t3 t4:Bool}{a:ZS}:∀r,(ZfB a)=some r→evD ctx 172 [(.d (D.agg [(zL t0 a.crew.on),(zL t1 a.crew.left),(D.list t2 (List.map Zy a.deques)),(D.list t3 (List.map ZA a.takers)),(zL t4 a.from_)]))]=some (Znd r):=
 evT Zwp rfl rfl <| Zf (Zr _ _) (Zf (Zr _ _) (yBr (Zf (Zr _ _) (yBr (Zf (Zr _ _) (yBr (Zf (Zr _ _) (by
 conv=>rhs;whnf
 refine Ze _ (Zkc _) fun r7 _=>?_
 rcases r7 with r7 | r7
 exact yR
 exact yR))))))))
def ZmW (r:Int):D:=(Za r)
theorem ZhJ {t0 t1:Bool}{t2 t3:Bool}{t4 t5 t6:Bool}{a:Zk}{b:ZS}:∀r,(Zer a b)=some r→evD ctx 164 [(.d (D.agg [(zL t0 a.work),(D.list t1 (List.map Zs a.edges))])),(.d (D.agg [(zL t2 b.crew.on),(zL t3 b.crew.left),(D.list t4 (List.map Zy b.deques)),(D.list t5 (List.map ZA b.takers)),(zL t6 b.from_)]))]=some (ZmW r):=
 evT Zx1 rfl rfl <| yC Zet fun x0 _=>
  yB (yC Zmi fun x1 _=>
  yBr yR)
  yR
def Zph (r:List Int):D:=(zL true r)
def Zib (t0:Bool) (t2:Bool) (a:Zk) (b:List Int):(List Int)→Ex×List V×Zd
  | r=>(.exit 0,[(.sl 0 1)],[(.arr 1 (List.map Za r))])
theorem Zls {t0 t2:Bool}{a:Zk}{b:List Int}:∀(s0:Int×(List Int)) (r:List Int),lp (ZcX a b) s0=some r→lpW ctx 0 [1,5,9,10,11] [5] Zxw [(.d (zL t2 b)),(.sl 0 1),(.d (zL t0 a.work)),(.d (Za (a.work.length:Int))),(.d (Za s0.1))] [(.arr 1 (List.map Za s0.2))]=some ((Zib t0 t2 a b) r):=
 lpT (Zib t0 t2 a b) fun s0 _ ih=>yB (yG fun x1 _=>
  yG fun x2 _=>
  yT (Za6 (Ze4 Za s0.2 1) (Zf (ZeZ Za s0.2 [(bif decide (x1<x2) then x1 else x2)]) (Zg (ih _)))
  Z8))
  (Zm rfl)
theorem ZgR {t0 t1 t2:Bool}{a:Zk}{b:List Int}:∀r,(ZeK a b)=some r→evD ctx 42 [(.d (D.agg [(zL t0 a.work),(D.list t1 (List.map Zs a.edges))])),(.d (zL t2 b))]=some (Zph r):=
 evT ZAF rfl rfl <| Zf (Zr _ _) (Ze _ (Zls _) fun r3 _=>
  yR)
def ZoF (r:Int):D:=(Za r)
def Zg9 (t0:Bool) (t1:Bool) (t2:Bool) (t3:Bool) (a:Zk) (b:List Int) (c:List Int):(Int⊕Int)→Ex×List V×Zd
  | (.inl r)=>(.ret,[(.d (Za 3)),(.d (Za r))],[])
  | (.inr r)=>(.exit 0,[.bad,(.d (Za r))],[])
theorem ZkJ {t0 t1:Bool}{t2 t3:Bool}{a:Zk}{b:List Int}{c:List Int}:∀(s0:Int×Int) (r:(Int⊕Int)),lp (ZaT a b c) s0=some r→lpW ctx 0 [1,3,7,10,11,12] [6,7] ZwU [(.d (zL t2 b)),(.ptr 0 0),(.d (Za s0.1)),(.d (zL t3 c)),(.d (Za (c.length:Int))),(.d (Za s0.2))] [(.cells [(.d (zL t0 a.work)),(.d (D.list t1 (List.map Zs a.edges)))])]=some ((Zg9 t0 t1 t2 t3 a b c) r):=
 lpT (Zg9 t0 t1 t2 t3 a b c) fun s0 _ ih=>yB (yG fun x1 _=>
  yB (yB (Zg (ih _))
  (yB (yG fun x2 _=>
  yG fun x3 _=>
  yB (Zm rfl)
  (Zg (ih _)))
  (Zg (ih _))))
  (yB (yG fun x4 _=>
  yG fun x5 _=>
  yB (Zm rfl)
  (Zg (ih _)))
  (Zg (ih _))))
  (Zm rfl)
theorem Zck {t0 t1:Bool}{t2 t3:Bool}{a:Zk}{b:List Int}{c:List Int}:∀r,(ZbC a b c)=some r→evD ctx 43 [(.d (D.agg [(zL t0 a.work),(D.list t1 (List.map Zs a.edges))])),(.d (zL t2 b)),(.d (zL t3 c))]=some (ZoF r):=
 evT Zz6 rfl rfl <| Zf (Zr _ _) (by
 conv=>rhs;whnf
 refine Ze _ (ZkJ _) fun r6 _=>?_
 rcases r6 with r6 | r6
 exact yR
 exact yR)
def ZgI (t0:Bool) (a:List Int):Unit→V×Zd
  | r=>((.sl 0 1),[(.arr 1 (List.map Za a))])
theorem Zp {t0:Bool}{a:List Int}:∀r,(Zn a)=some r→evW ctx 45 [(.d (zL t0 a))] []=some ((ZgI t0 a) r):=
 evS Zz1 rfl rfl <| Zlx (ZgY (f:=Za) (fun _=>⟨rfl,rfl⟩) a 0) (Za6 (Zig Za a) (Zf (rfl:_=List.map Za a) yR)
  Z8)
def Zfv (t0:Bool) (a:List Zi):Unit→V×Zd
  | r=>((.sl 0 6),[(.arr 6 (List.map ZA a))])
theorem Zff {t0:Bool}{a:List Zi}:∀r,(ZaC a)=some r→evW ctx 181 [(.d (D.list t0 (List.map ZA a)))] []=some ((Zfv t0 a) r):=
 evS Zx5 rfl rfl <| Za6 (ZtQ ZA a) (Zlx (ZgY (f:=ZA) (fun _=>⟨rfl,rfl⟩) a 0) (Za6 (Zig ZA a) (Zf (rfl:_=List.map ZA a) yR)
  Z8))
  Z8
def Zfw (t0:Bool) (a:List Zb):Unit→V×Zd
  | r=>((.sl 0 3),[(.arr 3 (List.map Zy a))])
theorem Zfe {t0:Bool}{a:List Zb}:∀r,(Zaz a)=some r→evW ctx 182 [(.d (D.list t0 (List.map Zy a)))] []=some ((Zfw t0 a) r):=
 evS Zxh rfl rfl <| Za6 (ZtQ Zy a) (Zlx (ZgY (f:=Zy) (fun _=>⟨rfl,rfl⟩) a 0) (Za6 (Zig Zy a) (Zf (rfl:_=List.map Zy a) yR)
  Z8))
  Z8
def Zpm (t0:Bool) (t1:Bool) (t2:Bool) (t3:Bool) (t4:Bool) (a:ZS):(List Zb)→V×Zd
  | r=>((.agg [(.sl 0 1),(.sl 1 1),(.sl 2 3),(.sl 3 6),(.sl 4 1)]),[(.arr 1 (List.map Za a.crew.on)),(.arr 1 (List.map Za a.crew.left)),(.arr 3 (List.map Zy r)),(.arr 6 (List.map ZA a.takers)),(.arr 1 (List.map Za a.from_))])
def ZhT (a:ZS):(List Zb)→Ex×List V×Zd
  | r=>(.exit 0,[(.ptr 0 0),(.ptr 1 0)],[(.cells [(.sl 2 1),(.sl 3 1),(.sl 4 3),(.sl 5 6),(.sl 6 1)]),(.cells [(.sl 7 1),(.sl 8 1),(.sl 9 3),(.sl 10 6),(.sl 11 1)]),(.arr 1 (List.map Za a.crew.on)),(.arr 1 (List.map Za a.crew.left)),(.arr 3 (List.map Zy r)),(.arr 6 (List.map ZA a.takers)),(.arr 1 (List.map Za a.from_)),(.arr 1 []),(.arr 1 []),(.arr 3 []),(.arr 6 []),(.arr 1 [])])
theorem Zlc {a:ZS}:∀(s5:Int×(List Zb)) (r:List Zb),lp (Zc7 a) s5=some r→lpW ctx 0 [1,2,30,31] [1,2] ZtP [(.ptr 0 0),(.ptr 1 0),(.d (Za (a.deques.length:Int))),(.d (Za s5.1))] [(.cells [(.sl 2 1),(.sl 3 1),(.sl 4 3),(.sl 5 6),(.sl 6 1)]),(.cells [(.sl 7 1),(.sl 8 1),(.sl 9 3),(.sl 10 6),(.sl 11 1)]),(.arr 1 (List.map Za a.crew.on)),(.arr 1 (List.map Za a.crew.left)),(.arr 3 (List.map Zy s5.2)),(.arr 6 (List.map ZA a.takers)),(.arr 1 (List.map Za a.from_)),(.arr 1 []),(.arr 1 []),(.arr 3 []),(.arr 6 []),(.arr 1 [])]=some ((ZhT a) r):=
 lpT (ZhT a) fun s5 _ ih=>yB (yG fun x6 hx6=>
  Zo (Zad rfl hx6) (Ze _ Zp fun x7 _=>
  Zo (Zar rfl hx6) (Zo (Zad rfl hx6) (Zf (Zcw Zy s5.2 s5.1.toNat x6) (Zg (ih _))))))
  (Zm rfl)
theorem ZjE {t0 t1:Bool}{t2 t3 t4:Bool}{a:ZS}:∀r,(ZfL a)=some r→evW ctx 173 [(.d (D.agg [(zL t0 a.crew.on),(zL t1 a.crew.left),(D.list t2 (List.map Zy a.deques)),(D.list t3 (List.map ZA a.takers)),(zL t4 a.from_)]))] []=some ((Zpm t0 t1 t2 t3 t4 a) r):=
 evS ZxH rfl rfl <| Ze _ Zp fun x0 _=>
  Ze _ Zp fun x1 _=>
  Ze _ Zff fun x2 _=>
  Ze _ Zp fun x3 _=>
  Ze _ Zfe fun x4 _=>
  Zf (Zr _ _) (Ze _ (Zlc _) fun r8 _=>
  yR)
def Zij (r:Bool):D:=(D.bool r)
theorem ZhU {t0:Bool}{a:Zb}:∀r,(Zai a)=some r→evD ctx 197 [(.d (D.agg [(zL t0 a.ring),(Za a.top),(Za a.bottom)]))]=some (Zij r):=
 evT Zwv rfl rfl <| yBr yR
def Zbv (r:Int):D:=(Za r)
def Z6 (t0:Bool) (a:List Zb):(Int⊕Unit)→Ex×List V×Zd
  | (.inl r)=>(.ret,[(.d (Za r))],[])
  | (.inr r)=>(.exit 0,[.bad],[])
theorem Za3 {t0:Bool}{a:List Zb}:∀(s0:Int) (r:(Int⊕Unit)),lp (Z7 a (fun z0=>Zai z0)) s0=some r→lpW ctx 0 [0,1,7,8] [4] Zt8 [(.d (D.list t0 (List.map Zy a))),(.d (D.fn 197 [])),(.d (Za (a.length:Int))),(.d (Za s0))] []=some ((Z6 t0 a) r):=
 lpT (Z6 t0 a) fun s0 _ ih=>yB (yG fun x1 _=>
  yC ZhU fun x2 _=>
  yB (Zm rfl)
  (Zg (ih _)))
  (Zm rfl)
theorem Zbk {t0:Bool}{a:List Zb}:∀r,(ZaN a (fun z0=>Zai z0))=some r→evD ctx 209 [(.d (D.list t0 (List.map Zy a))),(.d (D.fn 197 []))]=some (Zbv r):=
 evT Zxj rfl rfl <| Zf (Zr _ _) (by
 conv=>rhs;whnf
 refine Ze _ (Za3 _) fun r3 _=>?_
 rcases r3 with r3 | r3
 exact yR
 exact yR)
def Zbc (r:Bool):D:=(D.bool r)
theorem Za5 {t0:Bool}{a:List Zb}:∀r,(Z5 a (fun z0=>Zai z0))=some r→evD ctx 196 [(.d (D.list t0 (List.map Zy a))),(.d (D.fn 197 []))]=some (Zbc r):=
 evT Zwt rfl rfl <| yC Zbk fun x0 _=>
  yBr yR
def Zja (r:List Int):D:=(zL true r)
def ZeI (t0:Bool) (t1:Bool) (t2:Bool) (t3:Bool) (t4:Bool) (t5:Bool) (t6:Bool) (a0:List Int) (a1:List Int) (a2:List Zb) (a3:List Zi) (a4:List Int) (a5:List Int) (a6:List Zt) (a7:Int):(List Int)→Ex×List V×Zd
  | r=>(.exit 0,[(.sl 0 1)],[(.arr 1 (List.map Za r))])
theorem Zhu {t0 t1:Bool}{t2 t3:Bool}{t4 t5 t6:Bool}{a0:List Int}{a1:List Int}{a2:List Zb}{a3:List Zi}{a4:List Int}{a5:List Int}{a6:List Zt}{a7:Int}:∀(s1:Int×(List Int)) (r:List Int),lp (ZaY a0) s1=some r→lpW ctx 0 [0,3,4,18,19,20] [4] ZqY [(.d (D.rptr [(zL t0 a0),(zL t1 a1),(D.list t2 (List.map Zy a2)),(D.list t3 (List.map ZA a3)),(zL t4 a4),(zL t5 a5),(D.list t6 (List.map Zs a6)),(Za a7)])),(.d (D.bool true)),(.sl 0 1),(.d (zL t0 a0)),(.d (Za (a0.length:Int))),(.d (Za s1.1))] [(.arr 1 (List.map Za s1.2))]=some ((ZeI t0 t1 t2 t3 t4 t5 t6 a0 a1 a2 a3 a4 a5 a6 a7) r):=
 lpT (ZeI t0 t1 t2 t3 t4 t5 t6 a0 a1 a2 a3 a4 a5 a6 a7) fun s1 _ ih=>yB (yG fun x2 _=>
  yB (yT (Za6 (Ze4 Za s1.2 1) (Zf (ZeZ Za s1.2 [s1.1]) (Zg (ih _)))
  Z8))
  (Zg (ih _)))
  (Zm rfl)
def Zef (t0:Bool) (t1:Bool) (t2:Bool) (t3:Bool) (t4:Bool) (t5:Bool) (t6:Bool) (a0:List Int) (a1:List Int) (a2:List Zb) (a3:List Zi) (a4:List Int) (a5:List Int) (a6:List Zt) (a7:Int):(List Int)→Ex×List V×Zd
  | r=>(.exit 0,[(.sl 0 1)],[(.arr 1 (List.map Za r))])
theorem Zg2 {t0 t1:Bool}{t2 t3:Bool}{t4 t5 t6:Bool}{a0:List Int}{a1:List Int}{a2:List Zb}{a3:List Zi}{a4:List Int}{a5:List Int}{a6:List Zt}{a7:Int}:∀(s4:Int×(List Int)) (r:List Int),lp (ZaK a0 a3) s4=some r→lpW ctx 0 [0,3,4,18,19,20] [4] ZqY [(.d (D.rptr [(zL t0 a0),(zL t1 a1),(D.list t2 (List.map Zy a2)),(D.list t3 (List.map ZA a3)),(zL t4 a4),(zL t5 a5),(D.list t6 (List.map Zs a6)),(Za a7)])),(.d (D.bool false)),(.sl 0 1),(.d (zL t0 a0)),(.d (Za (a0.length:Int))),(.d (Za s4.1))] [(.arr 1 (List.map Za s4.2))]=some ((Zef t0 t1 t2 t3 t4 t5 t6 a0 a1 a2 a3 a4 a5 a6 a7) r):=
 lpT (Zef t0 t1 t2 t3 t4 t5 t6 a0 a1 a2 a3 a4 a5 a6 a7) fun s4 _ ih=>yB (yG fun x5 _=>
  yB (yG fun x6 _=>
  yB (yT (Za6 (Ze4 Za s4.2 1) (Zf (ZeZ Za s4.2 [s4.1]) (Zg (ih _)))
  Z8))
  (Zg (ih _)))
  (Zg (ih _)))
  (Zm rfl)
theorem Zfj {t0 t1:Bool}{t2 t3:Bool}{t4 t5 t6:Bool}{a0:List Int}{a1:List Int}{a2:List Zb}{a3:List Zi}{a4:List Int}{a5:List Int}{a6:List Zt}{a7:Int}:∀r,(ZbQ a0 a2 a3)=some r→evD ctx 183 [(.d (D.rptr [(zL t0 a0),(zL t1 a1),(D.list t2 (List.map Zy a2)),(D.list t3 (List.map ZA a3)),(zL t4 a4),(zL t5 a5),(D.list t6 (List.map Zs a6)),(Za a7)]))]=some (Zja r):=
 evT ZxD rfl rfl <| yC Za5 fun x0 _=>
  yB (Zf (Zr _ _) (Ze _ (Zhu _) fun r3 _=>
  yR))
  (Zf (Zr _ _) (Ze _ (Zg2 _) fun r7 _=>
  yR))
def Zi8 (r:Bool):D:=(D.bool r)
theorem Zim {t0 t1:Bool}{t2 t3:Bool}{t4 t5 t6:Bool}{a:Int}{b0:List Int}{b1:List Int}{b2:List Zb}{b3:List Zi}{b4:List Int}{b5:List Int}{b6:List Zt}{b7:Int}:∀r,(Zas a b7)=some r→evD ctx 198 [(.d (Za a)),(.d (D.rptr [(D.rptr [(zL t0 b0),(zL t1 b1),(D.list t2 (List.map Zy b2)),(D.list t3 (List.map ZA b3)),(zL t4 b4),(zL t5 b5),(D.list t6 (List.map Zs b6)),(Za b7)])]))]=some (Zi8 r):=
 evT ZxR rfl rfl <| yBr yR
def Zb6 (r:Int):D:=(Za r)
def Zaf (t0:Bool) (t1:Bool) (t2:Bool) (t3:Bool) (t4:Bool) (t5:Bool) (t6:Bool) (t7:Bool) (a:List Int) (b0:List Int) (b1:List Int) (b2:List Zb) (b3:List Zi) (b4:List Int) (b5:List Int) (b6:List Zt) (b7:Int):(Int⊕Unit)→Ex×List V×Zd
  | (.inl r)=>(.ret,[(.d (Za r))],[])
  | (.inr r)=>(.exit 0,[.bad],[])
theorem Zbw {t0 t1:Bool}{t2 t3:Bool}{t4 t5:Bool}{t6 t7:Bool}{a:List Int}{b0:List Int}{b1:List Int}{b2:List Zb}{b3:List Zi}{b4:List Int}{b5:List Int}{b6:List Zt}{b7:Int}:∀(s0:Int) (r:(Int⊕Unit)),lp (Zv a (fun z0=>Zas z0 b7)) s0=some r→lpW ctx 0 [0,1,7,8] [4] Zl9 [(.d (zL t0 a)),(.d (D.fn 198 [(D.rptr [(D.rptr [(zL t1 b0),(zL t2 b1),(D.list t3 (List.map Zy b2)),(D.list t4 (List.map ZA b3)),(zL t5 b4),(zL t6 b5),(D.list t7 (List.map Zs b6)),(Za b7)])])])),(.d (Za (a.length:Int))),(.d (Za s0))] []=some ((Zaf t0 t1 t2 t3 t4 t5 t6 t7 a b0 b1 b2 b3 b4 b5 b6 b7) r):=
 lpT (Zaf t0 t1 t2 t3 t4 t5 t6 t7 a b0 b1 b2 b3 b4 b5 b6 b7) fun s0 _ ih=>yB (yG fun x1 _=>
  yC Zim fun x2 _=>
  yB (Zm rfl)
  (Zg (ih _)))
  (Zm rfl)
theorem ZbT {t0 t1:Bool}{t2 t3:Bool}{t4 t5:Bool}{t6 t7:Bool}{a:List Int}{b0:List Int}{b1:List Int}{b2:List Zb}{b3:List Zi}{b4:List Int}{b5:List Int}{b6:List Zt}{b7:Int}:∀r,(ZC a (fun z0=>Zas z0 b7))=some r→evD ctx 99 [(.d (zL t0 a)),(.d (D.fn 198 [(D.rptr [(D.rptr [(zL t1 b0),(zL t2 b1),(D.list t3 (List.map Zy b2)),(D.list t4 (List.map ZA b3)),(zL t5 b4),(zL t6 b5),(D.list t7 (List.map Zs b6)),(Za b7)])])]))]=some (Zb6 r):=
 evT ZsG rfl rfl <| Zf (Zr _ _) (by
 conv=>rhs;whnf
 refine Ze _ (Zbw _) fun r3 _=>?_
 rcases r3 with r3 | r3
 exact yR
 exact yR)
def Zj3 (r:Int):D:=(Za r)
theorem Zje {t0 t1:Bool}{t2 t3:Bool}{t4 t5:Bool}{t6 t7 t8:Bool}{a0:List Int}{a1:List Int}{a2:List Zb}{a3:List Zi}{a4:List Int}{a5:List Int}{a6:List Zt}{a7:Int}{b:List Int}{c:List Int}{d:Int}:∀r,(ZcB a7 b c d)=some r→evD ctx 184 [(.d (D.rptr [(zL t0 a0),(zL t1 a1),(D.list t2 (List.map Zy a2)),(D.list t3 (List.map ZA a3)),(zL t4 a4),(zL t5 a5),(D.list t6 (List.map Zs a6)),(Za a7)])),(.d (zL t7 b)),(.d (zL t8 c)),(.d (Za d))]=some (Zj3 r):=
 evT ZvC rfl rfl <| Zf (Zr _ _) (yB (yG fun x0 _=>
  Zf (Zr _ _) (yBn (yG fun x1 _=>
  yR)))
  (yC ZbT fun x2 _=>
  yG fun x3 _=>
  yR))
def Zl4 (r:Bool):D:=(D.bool r)
theorem ZdO {a:Int}:∀r,(ZbU a)=some r→evD ctx 213 [(.d (Za a))]=some (Zl4 r):=
 evT Zxl rfl rfl <| yBr (yBr yR)
def Zoz (r:Bool):D:=(D.bool r)
theorem Znf {a:Zi}:∀r,(Zgl a)=some r→evD ctx 210 [(.d (D.agg [(D.bool a.steal),(Za a.at_),(Za a.top),(Za a.bottom),(Za a.got),(Za a.end_)]))]=some (Zoz r):=
 evT ZxW rfl rfl <| yB (yB (yB (yB (yBr (yC ZdO fun x0 _=>
  yBr (yC ZdO fun x1 _=>
  yBr yR)))
  yR)
  yR)
  yR)
  (yB (yB (yB (yBr (yC ZdO fun x2 _=>
  yBr (yC ZdO fun x3 _=>
  yBr yR)))
  yR)
  yR)
  yR)
def Zpd (t0:Bool) (a:Zb):Unit→V×Zd
  | r=>((.agg [(.sl 0 1),(.d (Za a.top)),(.d (Za a.bottom))]),[(.arr 1 (List.map Za a.ring))])
theorem Zjp {t0:Bool}{a:Zb}:∀r,(ZfM a)=some r→evW ctx 193 [(.d (D.agg [(zL t0 a.ring),(Za a.top),(Za a.bottom)]))] []=some ((Zpd t0 a) r):=
 evS Zwh rfl rfl <| Ze _ Zp fun x0 _=>
  yR
def Znb (r:Int):D:=(Za r)
theorem Zea {t0:Bool}{a:Zb}{b:Int}:∀r,(ZcF a b)=some r→evD ctx 194 [(.d (D.agg [(zL t0 a.ring),(Za a.top),(Za a.bottom)])),(.d (Za b))]=some (Znb r):=
 evT Zv0 rfl rfl <| Zf (Zr _ _) (yBn yR)
def ZoV (m0_0:Int) (m0_1:Int) (m1_0:Bool) (m1_1:Int) (m1_2:Int) (m1_3:Int) (m1_4:Int) (m1_5:Int) (m2_0:List Int):(Unit⊕Unit)→V×Zd
  | (.inl r)=>((.d (D.bool false)),[(.cells [(.sl 2 1),(.d (Za m0_0)),(.d (Za m0_1))]),(.cells [(.d (D.bool m1_0)),(.d (Za m1_1)),(.d (Za m1_2)),(.d (Za m1_3)),(.d (Za m1_4)),(.d (Za m1_5))]),(.arr 1 (List.map Za m2_0))])
  | (.inr r)=>((.d (D.bool true)),[(.cells [(.sl 2 1),(.d (Za (w64 (m0_0+1)))),(.d (Za m0_1))]),(.cells [(.d (D.bool m1_0)),(.d (Za m1_1)),(.d (Za m1_2)),(.d (Za m1_3)),(.d (Za m1_4)),(.d (Za m1_5))]),(.arr 1 (List.map Za m2_0))])
theorem ZiZ {m0_0 m0_1:Int}{m1_0:Bool}{m1_1 m1_2:Int}{m1_3 m1_4 m1_5:Int}{m2_0:List Int}:∀r,(Zdn m0_0 m1_2)=some r→evW ctx 214 [(.ptr 0 0),(.ptr 1 0)] [(.cells [(.sl 2 1),(.d (Za m0_0)),(.d (Za m0_1))]),(.cells [(.d (D.bool m1_0)),(.d (Za m1_1)),(.d (Za m1_2)),(.d (Za m1_3)),(.d (Za m1_4)),(.d (Za m1_5))]),(.arr 1 (List.map Za m2_0))]=some ((ZoV m0_0 m0_1 m1_0 m1_1 m1_2 m1_3 m1_4 m1_5 m2_0) r):=
 evS ZwX rfl rfl <| yBr yR
def Zna (m0_0:Int) (m0_1:Int) (m1_0:Bool) (m1_1:Int) (m1_2:Int) (m1_3:Int) (m1_4:Int) (m1_5:Int) (m2_0:List Int):(Int×Int×Int×Int×Int×Int)→V×Zd
  | r=>((.d (D.tup [])),[(.cells [(.sl 2 1),(.d (Za r.1)),(.d (Za m0_1))]),(.cells [(.d (D.bool m1_0)),(.d (Za r.2.1)),(.d (Za r.2.2.1)),(.d (Za r.2.2.2.1)),(.d (Za r.2.2.2.2.1)),(.d (Za r.2.2.2.2.2))]),(.arr 1 (List.map Za m2_0))])
theorem Zml {m0_0 m0_1:Int}{m1_0:Bool}{m1_1 m1_2:Int}{m1_3 m1_4 m1_5:Int}{m2_0:List Int}:∀r,(Zbb m0_0 m0_1 m1_1 m1_2 m1_3 m1_4 m1_5 m2_0)=some r→evW ctx 211 [(.ptr 0 0),(.ptr 1 0)] [(.cells [(.sl 2 1),(.d (Za m0_0)),(.d (Za m0_1))]),(.cells [(.d (D.bool m1_0)),(.d (Za m1_1)),(.d (Za m1_2)),(.d (Za m1_3)),(.d (Za m1_4)),(.d (Za m1_5))]),(.arr 1 (List.map Za m2_0))]=some ((Zna m0_0 m0_1 m1_0 m1_1 m1_2 m1_3 m1_4 m1_5 m2_0) r):=
 evS ZwR rfl rfl <| yBr (yB (yBr yR)
  (yB (yC Zea fun x0 _=>
  yG fun x1 hx1=>
  Zo (Zad rfl hx1) yR)
  (by
 conv=>rhs;whnf
 refine Ze _ ZiZ fun x2 _=>?_
 rcases x2 with x2 | x2
 exact yR
 exact yR)))
def Zpr (m0_0:Int) (m0_1:Int) (m1_0:Bool) (m1_1:Int) (m1_2:Int) (m1_3:Int) (m1_4:Int) (m1_5:Int) (m2_0:List Int):(Int×Int×Int×Int×Int×Int×Int)→V×Zd
  | r=>((.d (D.tup [])),[(.cells [(.sl 2 1),(.d (Za r.1)),(.d (Za r.2.1))]),(.cells [(.d (D.bool m1_0)),(.d (Za r.2.2.1)),(.d (Za r.2.2.2.1)),(.d (Za r.2.2.2.2.1)),(.d (Za r.2.2.2.2.2.1)),(.d (Za r.2.2.2.2.2.2))]),(.arr 1 (List.map Za m2_0))])
theorem Zod {m0_0 m0_1:Int}{m1_0:Bool}{m1_1 m1_2:Int}{m1_3 m1_4 m1_5:Int}{m2_0:List Int}:∀r,(Zbh m0_0 m0_1 m1_1 m1_2 m1_3 m1_4 m1_5 m2_0)=some r→evW ctx 212 [(.ptr 0 0),(.ptr 1 0)] [(.cells [(.sl 2 1),(.d (Za m0_0)),(.d (Za m0_1))]),(.cells [(.d (D.bool m1_0)),(.d (Za m1_1)),(.d (Za m1_2)),(.d (Za m1_3)),(.d (Za m1_4)),(.d (Za m1_5))]),(.arr 1 (List.map Za m2_0))]=some ((Zpr m0_0 m0_1 m1_0 m1_1 m1_2 m1_3 m1_4 m1_5 m2_0) r):=
 evS Zxg rfl rfl <| yBr (yB (yB (yC Zea fun x0 _=>
  yG fun x1 hx1=>
  Zo (Zad rfl hx1) yR)
  (yBr yR))
  (yB ((by
 conv=>rhs;whnf
 refine Ze _ ZiZ fun x2 _=>?_
 rcases x2 with x2 | x2
 exact yR
 exact yC Zea fun x3 _=>
  yG fun x4 hx4=>
  Zo (Zad rfl hx4) yR))
  (yBr yR)))
def ZoS (r:(Zb×Zi×Int)):D:=(D.tup [(D.agg [(zL true r.1.ring),(Za r.1.top),(Za r.1.bottom)]),(D.agg [(D.bool r.2.1.steal),(Za r.2.1.at_),(Za r.2.1.top),(Za r.2.1.bottom),(Za r.2.1.got),(Za r.2.1.end_)]),(Za r.2.2)])
theorem ZmV {t0:Bool}{a:Zb}{b:Zi}:∀r,(ZaB a b)=some r→evD ctx 199 [(.d (D.agg [(zL t0 a.ring),(Za a.top),(Za a.bottom)])),(.d (D.agg [(D.bool b.steal),(Za b.at_),(Za b.top),(Za b.bottom),(Za b.got),(Za b.end_)]))]=some (ZoS r):=
 evT ZwF rfl rfl <| yC Zda fun x0 _=>
  yBr (yC Znf fun x1 _=>
  yB (Ze _ Zjp fun x2 _=>
  yB (Ze _ Zml fun x3 _=>
  yC Zda fun x4 _=>
  yBr yR)
  (Ze _ Zod fun x5 _=>
  yC Zda fun x6 _=>
  yBr yR))
  yR)
def ZnY (r:List Int):D:=(zL true r)
def Zhp (t0:Bool) (t1:Bool) (t2:Bool) (t3:Bool) (a:Zk) (b:ZK):(List Int)→Ex×List V×Zd
  | r=>(.exit 0,[(.sl 0 1)],[(.arr 1 (List.map Za r))])
theorem ZkG {t0 t1:Bool}{t2 t3:Bool}{a:Zk}{b:ZK}:∀(s0:Int×(List Int)) (r:List Int),lp (Zdt a b) s0=some r→lpW ctx 0 [2,3,5,9,10] [5] ZtK [(.ptr 0 0),(.ptr 1 0),(.sl 2 1),(.d (Za (b.left.length:Int))),(.d (Za s0.1))] [(.cells [(.d (zL t0 a.work)),(.d (D.list t1 (List.map Zs a.edges)))]),(.cells [(.d (zL t2 b.on)),(.d (zL t3 b.left))]),(.arr 1 (List.map Za s0.2))]=some ((Zhp t0 t1 t2 t3 a b) r):=
 lpT (Zhp t0 t1 t2 t3 a b) fun s0 _ ih=>yB (yC ZdX fun x1 _=>
  yB (Zg (ih _))
  (yC ZL fun x2 _=>
  yB (Zg (ih _))
  (yC ZgC fun x3 _=>
  yB (yT (Za6 (Ze4 Za s0.2 1) (Zf (ZeZ Za s0.2 [s0.1]) (Zg (ih _)))
  Z8))
  (Zg (ih _)))))
  (Zm rfl)
theorem ZiY {t0 t1:Bool}{t2 t3:Bool}{a:Zk}{b:ZK}:∀r,(ZeW a b)=some r→evD ctx 177 [(.d (D.agg [(zL t0 a.work),(D.list t1 (List.map Zs a.edges))])),(.d (D.agg [(zL t2 b.on),(zL t3 b.left)]))]=some (ZnY r):=
 evT ZvG rfl rfl <| Zf (Zr _ _) (Ze _ (ZkG _) fun r4 _=>
  yR)
def ZnL (r:List Int):D:=(zL true r)
theorem Zf6 {t0 t1:Bool}{t2 t3:Bool}{a:Zk}{b:ZK}:∀r,(ZcA a b)=some r→evD ctx 169 [(.d (D.agg [(zL t0 a.work),(D.list t1 (List.map Zs a.edges))])),(.d (D.agg [(zL t2 b.on),(zL t3 b.left)]))]=some (ZnL r):=
 evT ZwM rfl rfl <| yC Zet fun x0 _=>
  yBr (yC ZiY fun x1 _=>
  yR)
def ZjG (t0:Bool) (t1:Bool) (b:Int) (c:Int) (m0_0:List Int) (m0_1:List Zt) (m0_2:Int) (m1_0:List Int) (m2_0:List Int) (m3_0:List Zb) (m4_0:List Zi) (m5_0:List Int):(List Zi)→V×Zd
  | r=>((.d (D.tup [])),[(.cells [(.sl 1 1),(.sl 2 1),(.sl 3 3),(.sl 4 6),(.sl 5 1),(.d (zL t0 m0_0)),(.d (D.list t1 (List.map Zs m0_1))),(.d (Za m0_2))]),(.arr 1 (List.map Za m1_0)),(.arr 1 (List.map Za m2_0)),(.arr 3 (List.map Zy m3_0)),(.arr 6 (List.map ZA r)),(.arr 1 (List.map Za (List.set m5_0 b.toNat c)))])
theorem ZdI {t0 t1:Bool}{b c:Int}{m0_0:List Int}{m0_1:List Zt}{m0_2:Int}{m1_0:List Int}{m2_0:List Int}{m3_0:List Zb}{m4_0:List Zi}{m5_0:List Int}:∀r,(Za8 b c m4_0 m5_0)=some r→evW ctx 200 [(.ptr 0 0),(.d (Za b)),(.d (Za c))] [(.cells [(.sl 1 1),(.sl 2 1),(.sl 3 3),(.sl 4 6),(.sl 5 1),(.d (zL t0 m0_0)),(.d (D.list t1 (List.map Zs m0_1))),(.d (Za m0_2))]),(.arr 1 (List.map Za m1_0)),(.arr 1 (List.map Za m2_0)),(.arr 3 (List.map Zy m3_0)),(.arr 6 (List.map ZA m4_0)),(.arr 1 (List.map Za m5_0))]=some ((ZjG t0 t1 b c m0_0 m0_1 m0_2 m1_0 m2_0 m3_0 m4_0 m5_0) r):=
 evS Zxr rfl rfl <| yG fun x0 hx0=>
  Zo (Zad rfl hx0) (Zf (Zcw Za m5_0 b.toNat c) (yB (yG fun x1 hx1=>
  Zo (Zad rfl hx1) (Zf (Zcw ZA m4_0 b.toNat (Zi.mk true 0 0 0 0 0)) yR))
  (yG fun x2 hx2=>
  Zo (Zad rfl hx2) (Zf (Zcw ZA m4_0 b.toNat (Zi.mk false 0 0 0 0 0)) yR))))
def Zj9 (t0:Bool) (t1:Bool) (b:Int) (m0_0:List Int) (m0_1:List Zt) (m0_2:Int) (m1_0:List Int) (m2_0:List Int) (m3_0:List Zb) (m4_0:List Zi) (m5_0:List Int):(Int×(List Int)×(List Zb)×(List Zi)×(List Int))→V×Zd
  | r=>((.d (Za r.1)),[(.cells [(.sl 1 1),(.sl 2 1),(.sl 3 3),(.sl 4 6),(.sl 5 1),(.d (zL t0 m0_0)),(.d (D.list t1 (List.map Zs m0_1))),(.d (Za m0_2))]),(.arr 1 (List.map Za r.2.1)),(.arr 1 (List.map Za m2_0)),(.arr 3 (List.map Zy r.2.2.1)),(.arr 6 (List.map ZA r.2.2.2.1)),(.arr 1 (List.map Za r.2.2.2.2))])
theorem ZjC {t0 t1:Bool}{b:Int}{m0_0:List Int}{m0_1:List Zt}{m0_2:Int}{m1_0:List Int}{m2_0:List Int}{m3_0:List Zb}{m4_0:List Zi}{m5_0:List Int}:∀r,(Zae b m0_0 m0_1 m1_0 m2_0 m3_0 m4_0 m5_0)=some r→evW ctx 185 [(.ptr 0 0),(.d (Za b))] [(.cells [(.sl 1 1),(.sl 2 1),(.sl 3 3),(.sl 4 6),(.sl 5 1),(.d (zL t0 m0_0)),(.d (D.list t1 (List.map Zs m0_1))),(.d (Za m0_2))]),(.arr 1 (List.map Za m1_0)),(.arr 1 (List.map Za m2_0)),(.arr 3 (List.map Zy m3_0)),(.arr 6 (List.map ZA m4_0)),(.arr 1 (List.map Za m5_0))]=some ((Zj9 t0 t1 b m0_0 m0_1 m0_2 m1_0 m2_0 m3_0 m4_0 m5_0) r):=
 evS ZxB rfl rfl <| Zf (Zr _ _) (yG fun x0 hx0=>
  Zo (Zad rfl hx0) (yBn (yG fun x1 hx1=>
  Zo (Zad rfl hx1) (yG fun x2 hx2=>
  Zo (Zad rfl hx2) (yC ZmV fun x3 _=>
  yBr (Zo (Zar rfl hx1) (Zo (Zad rfl hx1) (Zf (Zcw Zy m3_0 (Int.tmod (w64 (b+x0)) (m1_0.length:Int)).toNat x3.1) (Zo (Zar rfl hx2) (Zo (Zad rfl hx2) (Zf (Zcw ZA m4_0 b.toNat x3.2.1) (yB (yC Zf6 fun x4 _=>
  yC ZL fun x5 _=>
  yB (yG fun x6 hx6=>
  Zo (Zad rfl hx6) (Zf (Zcw Za m1_0 b.toNat x3.2.1.got) (Ze _ ZdI fun x7 _=>
  yR)))
  yR)
  (yB (Zo (Zar rfl hx0) (Zo (Zad rfl hx0) (yBn (Ze _ ZdI fun x8 _=>
  yR))))
  (yB (Zo (Zar rfl hx0) (Zo (Zad rfl hx0) (yBn (Ze _ ZdI fun x9 _=>
  yR))))
  yR))))))))))))))
def Zj6 (t0:Bool) (t1:Bool) (t2:Bool) (b:List Int) (m0_0:List Int) (m0_1:List Zt) (m0_2:Int) (m1_0:List Int) (m2_0:List Int) (m3_0:List Zb) (m4_0:List Zi) (m5_0:List Int):(Int×Int×Int×(List Int)×(List Zb)×(List Zi)×(List Int))→V×Zd
  | r=>((.d (D.tup [(Za r.1),(Za r.2.1)])),[(.cells [(.sl 1 1),(.sl 2 1),(.sl 3 3),(.sl 4 6),(.sl 5 1),(.d (zL t1 m0_0)),(.d (D.list t2 (List.map Zs m0_1))),(.d (Za r.2.2.1))]),(.arr 1 (List.map Za r.2.2.2.1)),(.arr 1 (List.map Za m2_0)),(.arr 3 (List.map Zy r.2.2.2.2.1)),(.arr 6 (List.map ZA r.2.2.2.2.2.1)),(.arr 1 (List.map Za r.2.2.2.2.2.2))])
def Ze5 (t0:Bool) (t1:Bool) (t2:Bool) (b:List Int) (m0_0:List Int) (m0_1:List Zt) (m2_0:List Int):((Int×Int×Int×(List Int)×(List Zb)×(List Zi)×(List Int))⊕(Int×Int×(List Int)×(List Zb)×(List Zi)×(List Int)))→Ex×List V×Zd
  | (.inl r)=>(.ret,[(.d (Za 0)),(.d (Za r.1)),(.d (Za r.2.1))],[(.cells [(.sl 1 1),(.sl 2 1),(.sl 3 3),(.sl 4 6),(.sl 5 1),(.d (zL t1 m0_0)),(.d (D.list t2 (List.map Zs m0_1))),(.d (Za r.2.2.1))]),(.arr 1 (List.map Za r.2.2.2.1)),(.arr 1 (List.map Za m2_0)),(.arr 3 (List.map Zy r.2.2.2.2.1)),(.arr 6 (List.map ZA r.2.2.2.2.2.1)),(.arr 1 (List.map Za r.2.2.2.2.2.2))])
  | (.inr r)=>(.exit 0,[.bad,.bad,(.d (Za r.1))],[(.cells [(.sl 1 1),(.sl 2 1),(.sl 3 3),(.sl 4 6),(.sl 5 1),(.d (zL t1 m0_0)),(.d (D.list t2 (List.map Zs m0_1))),(.d (Za r.2.1))]),(.arr 1 (List.map Za r.2.2.1)),(.arr 1 (List.map Za m2_0)),(.arr 3 (List.map Zy r.2.2.2.1)),(.arr 6 (List.map ZA r.2.2.2.2.1)),(.arr 1 (List.map Za r.2.2.2.2.2))])
theorem Zh8 {t0 t1 t2:Bool}{b:List Int}{m0_0:List Int}{m0_1:List Zt}{m2_0:List Int}:∀(s1:Int×(List Int)×Int×(List Int)×(List Zb)×(List Zi)×(List Int)) (r:((Int×Int×Int×(List Int)×(List Zb)×(List Zi)×(List Int))⊕(Int×Int×(List Int)×(List Zb)×(List Zi)×(List Int)))),lp (Zbg b m0_0 m0_1 m2_0) s1=some r→lpW ctx 6 [0,1,6,7] [4,5,6] ZtJ [(.ptr 0 0),(.d (zL t0 b)),(.d (Za s1.1)),(.d (zL true s1.2.1))] [(.cells [(.sl 1 1),(.sl 2 1),(.sl 3 3),(.sl 4 6),(.sl 5 1),(.d (zL t1 m0_0)),(.d (D.list t2 (List.map Zs m0_1))),(.d (Za s1.2.2.1))]),(.arr 1 (List.map Za s1.2.2.2.1)),(.arr 1 (List.map Za m2_0)),(.arr 3 (List.map Zy s1.2.2.2.2.1)),(.arr 6 (List.map ZA s1.2.2.2.2.2.1)),(.arr 1 (List.map Za s1.2.2.2.2.2.2))]=some ((Ze5 t0 t1 t2 b m0_0 m0_1 m2_0) r):=
 lpT (Ze5 t0 t1 t2 b m0_0 m0_1 m2_0) fun s1 _ ih=>Zf (Zr _ _) (yB (yC Zje fun x2 _=>
  Ze _ ZjC fun x3 _=>
  yB (Zm rfl)
  (yC Zfj fun x4 _=>
  Zg (ih _)))
  (Zm rfl))
theorem Zjd {t0 t1 t2:Bool}{b:List Int}{m0_0:List Int}{m0_1:List Zt}{m0_2:Int}{m1_0:List Int}{m2_0:List Int}{m3_0:List Zb}{m4_0:List Zi}{m5_0:List Int}:∀r,(ZdJ b m0_0 m0_1 m1_0 m2_0 m3_0 m4_0 m5_0)=some r→evW ctx 174 [(.ptr 0 0),(.d (zL t0 b))] [(.cells [(.sl 1 1),(.sl 2 1),(.sl 3 3),(.sl 4 6),(.sl 5 1),(.d (zL t1 m0_0)),(.d (D.list t2 (List.map Zs m0_1))),(.d (Za m0_2))]),(.arr 1 (List.map Za m1_0)),(.arr 1 (List.map Za m2_0)),(.arr 3 (List.map Zy m3_0)),(.arr 6 (List.map ZA m4_0)),(.arr 1 (List.map Za m5_0))]=some ((Zj6 t0 t1 t2 b m0_0 m0_1 m0_2 m1_0 m2_0 m3_0 m4_0 m5_0) r):=
 evS Zxm rfl rfl <| yC Zfj fun x0 _=>
  (by
 conv=>rhs;whnf
 refine Ze _ (Zh8 _) fun r5 _=>?_
 rcases r5 with r5 | r5
 exact yR
 exact yR)
def ZoY (r:(ZS×Int×Int)):D:=(D.tup [(D.agg [(zL true r.1.crew.on),(zL true r.1.crew.left),(D.list true (List.map Zy r.1.deques)),(D.list true (List.map ZA r.1.takers)),(zL true r.1.from_)]),(Za r.2.1),(Za r.2.2)])
theorem ZmX {t0 t1:Bool}{t2 t3:Bool}{t4 t5:Bool}{t6 t7:Bool}{a:Zk}{b:ZS}{c:List Int}:∀r,(Zgt a b c)=some r→evD ctx 165 [(.d (D.agg [(zL t0 a.work),(D.list t1 (List.map Zs a.edges))])),(.d (D.agg [(zL t2 b.crew.on),(zL t3 b.crew.left),(D.list t4 (List.map Zy b.deques)),(D.list t5 (List.map ZA b.takers)),(zL t6 b.from_)])),(.d (zL t7 c))]=some (ZoY r):=
 evT Zv6 rfl rfl <| yC ZhJ fun x0 _=>
  yBr (Ze _ ZjE fun x1 _=>
  Ze _ Zjd fun x2 _=>
  yBr yR)
def Zkx (r:(ZS×Int×Int)):D:=(D.tup [(D.agg [(zL true r.1.crew.on),(zL true r.1.crew.left),(D.list true (List.map Zy r.1.deques)),(D.list true (List.map ZA r.1.takers)),(zL true r.1.from_)]),(Za r.2.1),(Za r.2.2)])
theorem Zga {t0 t1:Bool}{t2 t3:Bool}{t4 t5:Bool}{t6 t7:Bool}{a:Zjc}{b:Zk}{c:ZS}{d:List Int}:∀r,(Zeb a b c d)=some r→evD ctx 161 [(.d (D.agg [])),(.d (D.agg [(zL t0 b.work),(D.list t1 (List.map Zs b.edges))])),(.d (D.agg [(zL t2 c.crew.on),(zL t3 c.crew.left),(D.list t4 (List.map Zy c.deques)),(D.list t5 (List.map ZA c.takers)),(zL t6 c.from_)])),(.d (zL t7 d))]=some (Zkx r):=
 evT ZvU rfl rfl <| yC ZmX fun x0 _=>
  yR
def Zq1 (t0:Bool) (t1:Bool) (a:ZK):Unit→V×Zd
  | r=>((.agg [(.sl 0 1),(.sl 1 1)]),[(.arr 1 (List.map Za a.on)),(.arr 1 (List.map Za a.left))])
theorem Zkh {t0 t1:Bool}{a:ZK}:∀r,(Zfr a)=some r→evW ctx 201 [(.d (D.agg [(zL t0 a.on),(zL t1 a.left)]))] []=some ((Zq1 t0 t1 a) r):=
 evS Zw1 rfl rfl <| Ze _ Zp fun x0 _=>
  Ze _ Zp fun x1 _=>
  yR
def Zg6 (m0_0:List Int):(List Int)→V×Zd
  | r=>((.d (D.tup [])),[(.arr 1 (List.map Za r))])
theorem ZdV {m0_0:List Int}:∀r,(ZaH m0_0)=some r→evW ctx 110 [(.sl 0 1)] [(.arr 1 (List.map Za m0_0))]=some ((Zg6 m0_0) r):=
 evS Zzb rfl rfl <| Zo (Zsv rfl) (yBm (Zxu yR))
def Zpc (m0_0:List Int) (m1_0:List Int):((List Int)×(List Int)×(List Int))→V×Zd
  | r=>((.sl 2 1),[(.arr 1 (List.map Za r.1)),(.arr 1 (List.map Za r.2.1)),(.arr 1 (List.map Za r.2.2))])
def ZhI (m0_0:List Int):((List Int)×(List Int)×(List Int))→Ex×List V×Zd
  | r=>(.exit 0,[(.sl 2 1)],[(.arr 1 (List.map Za r.1)),(.arr 1 (List.map Za r.2.1)),(.arr 1 (List.map Za r.2.2))])
theorem Zlg {m0_0:List Int}:∀(s0:Int×(List Int)×(List Int)×(List Int)) (r:((List Int)×(List Int)×(List Int))),lp (Zdc m0_0) s0=some r→lpW ctx 2 [1,3,7,8,9] [3] Zuq [(.ptr 2 0),(.sl 3 1),(.sl 0 1),(.d (Za (m0_0.length:Int))),(.d (Za s0.1))] [(.arr 1 (List.map Za s0.2.1)),(.arr 1 (List.map Za s0.2.2.1)),(.cells [(.sl 0 1),(.sl 1 1)]),(.arr 1 (List.map Za s0.2.2.2))]=some ((ZhI m0_0) r):=
 lpT (ZhI m0_0) fun s0 _ ih=>yB (yG fun x1 hx1=>
  Zo (Zad rfl hx1) (yB (Zg (ih _))
  (yG fun x2 hx2=>
  Zo (Zad rfl hx2) (Zo (Zar rfl hx2) (Zo (Zad rfl hx2) (Zf (Zcw Za s0.2.2.1 x1.toNat (w64 (x2-1))) (yC ZdX fun x3 _=>
  yB (Zo (Zar rfl hx1) (Zo (Zad rfl hx1) (Zf (Zcw Za s0.2.1 s0.1.toNat (-1)) (yT (Za6 (Ze4 Za s0.2.2.2 1) (Zf (ZeZ Za s0.2.2.2 [x1]) (Zg (ih _)))
  Z8)))))
  (Zg (ih _)))))))))
  (Zm rfl)
theorem ZnZ {m0_0:List Int}{m1_0:List Int}:∀r,(ZjK m0_0 m1_0)=some r→evW ctx 202 [(.agg [(.sl 0 1),(.sl 1 1)])] [(.arr 1 (List.map Za m0_0)),(.arr 1 (List.map Za m1_0))]=some ((Zpc m0_0 m1_0) r):=
 evS Zwj rfl rfl <| Zf (Zr _ _) (Ze _ (Zlg _) fun r4 _=>
  Ze _ ZdV fun x5 _=>
  yR)
def ZpA (t0:Bool) (t1:Bool) (t2:Bool) (t3:Bool) (a:Zk) (b:ZK):(Int⊕((List Int)×(List Int)×(List Int)))→V×Zd
  | (.inl r)=>((.tup [(.agg [(.nilsl 1),(.nilsl 1)]),(.nilsl 1),(.d (Za r))]),[])
  | (.inr r)=>((.tup [(.agg [(.sl 0 1),(.sl 1 1)]),(.sl 2 1),(.d (Za 0))]),[(.arr 1 (List.map Za r.1)),(.arr 1 (List.map Za r.2.1)),(.arr 1 (List.map Za r.2.2))])
theorem Zjg {t0 t1:Bool}{t2 t3:Bool}{a:Zk}{b:ZK}:∀r,(ZfK a b)=some r→evW ctx 186 [(.d (D.agg [(zL t0 a.work),(D.list t1 (List.map Zs a.edges))])),(.d (D.agg [(zL t2 b.on),(zL t3 b.left)]))] []=some ((ZpA t0 t1 t2 t3 a b) r):=
 evS Zwf rfl rfl <| yC Zet fun x0 _=>
  yBr (Ze _ Zkh fun x1 _=>
  Ze _ ZnZ fun x2 _=>
  yR)
def Znl (r:(Int×Bool)):D:=(D.tup [(Za r.1),(D.bool r.2)])
theorem Zmk {a:Zt}{b0:Int}:∀r,(ZdD a b0)=some r→evD ctx 203 [(.d (D.agg [(Za a.src),(Za a.dst)])),(.d (D.rptr [(Za b0)]))]=some (Znl r):=
 evT ZxX rfl rfl <| yBr yR
def Zhw (r:List Int):D:=(zL true r)
def ZdK (t1:Bool) (a:Zk) (b0:Int):(List Int)→Ex×List V×Zd
  | r=>(.exit 0,[(.sl 0 1)],[(.arr 1 (List.map Za r))])
theorem Zf1 {t1:Bool}{a:Zk}{b0:Int}:∀(s0:Int×(List Int)) (r:List Int),lp (Ze2 a (fun z0=>ZdD z0 b0)) s0=some r→lpW ctx 0 [1,5,11,12,13] [5] Zw3 [(.d (D.fn 203 [(D.rptr [(Za b0)])])),(.sl 0 1),(.d (D.list t1 (List.map Zs a.edges))),(.d (Za (a.edges.length:Int))),(.d (Za s0.1))] [(.arr 1 (List.map Za s0.2))]=some ((ZdK t1 a b0) r):=
 lpT (ZdK t1 a b0) fun s0 _ ih=>yB (yG fun x1 _=>
  yC Zmk fun x2 _=>
  yB (yT (Za6 (Ze4 Za s0.2 1) (Zf (ZeZ Za s0.2 [x2.1]) (Zg (ih _)))
  Z8))
  (Zg (ih _)))
  (Zm rfl)
theorem Zg7 {t0 t1:Bool}{a:Zk}{b0:Int}:∀r,(Zl2 a (fun z0=>ZdD z0 b0))=some r→evD ctx 92 [(.d (D.agg [(zL t0 a.work),(D.list t1 (List.map Zs a.edges))])),(.d (D.fn 203 [(D.rptr [(Za b0)])]))]=some (Zhw r):=
 evT Zzo rfl rfl <| Zf (Zr _ _) (Ze _ (Zf1 _) fun r3 _=>
  Ze _ ZdV fun x4 _=>
  yR)
def Zpg (r:List Int):D:=(zL true r)
theorem Zov {t0 t1:Bool}{a:Zk}{b:Int}:∀r,(Zhg a b)=some r→evD ctx 187 [(.d (D.agg [(zL t0 a.work),(D.list t1 (List.map Zs a.edges))])),(.d (Za b))]=some (Zpg r):=
 evT ZvD rfl rfl <| yC Zc6 fun x0 _=>
  yBr (yC Zg7 fun x1 _=>
  yR)
def Zn7 (r:(Zb×Int)):D:=(D.tup [(D.agg [(zL true r.1.ring),(Za r.1.top),(Za r.1.bottom)]),(Za r.2)])
theorem Zm4 {t0:Bool}{a:Zb}{b:Int}:∀r,(Zix a b)=some r→evD ctx 178 [(.d (D.agg [(zL t0 a.ring),(Za a.top),(Za a.bottom)])),(.d (Za b))]=some (Zn7 r):=
 evT Zxd rfl rfl <| yC Zda fun x0 _=>
  yBr (yBr (Zf (Zr _ _) (yBr (Ze _ Zjp fun x1 _=>
  yC Zea fun x2 _=>
  yG fun x3 hx3=>
  Zo (Zad rfl hx3) (Zf (Zcw Za a.ring x2.toNat b) yR)))))
def Zj4 (t0:Bool) (t1:Bool) (b:Int) (c:Int) (m0_0:List Int) (m0_1:List Zt) (m0_2:Int) (m1_0:List Int) (m2_0:List Int) (m3_0:List Zb) (m4_0:List Zi) (m5_0:List Int):((List Zb)⊕(List Zb))→V×Zd
  | (.inl r)=>((.d (D.bool true)),[(.cells [(.sl 1 1),(.sl 2 1),(.sl 3 3),(.sl 4 6),(.sl 5 1),(.d (zL t0 m0_0)),(.d (D.list t1 (List.map Zs m0_1))),(.d (Za m0_2))]),(.arr 1 (List.map Za m1_0)),(.arr 1 (List.map Za m2_0)),(.arr 3 (List.map Zy r)),(.arr 6 (List.map ZA m4_0)),(.arr 1 (List.map Za m5_0))])
  | (.inr r)=>((.d (D.bool false)),[(.cells [(.sl 1 1),(.sl 2 1),(.sl 3 3),(.sl 4 6),(.sl 5 1),(.d (zL t0 m0_0)),(.d (D.list t1 (List.map Zs m0_1))),(.d (Za m0_2))]),(.arr 1 (List.map Za m1_0)),(.arr 1 (List.map Za m2_0)),(.arr 3 (List.map Zy r)),(.arr 6 (List.map ZA m4_0)),(.arr 1 (List.map Za m5_0))])
theorem ZfR {t0 t1:Bool}{b c:Int}{m0_0:List Int}{m0_1:List Zt}{m0_2:Int}{m1_0:List Int}{m2_0:List Int}{m3_0:List Zb}{m4_0:List Zi}{m5_0:List Int}:∀r,(Zcz b c m3_0)=some r→evW ctx 170 [(.ptr 0 0),(.d (Za b)),(.d (Za c))] [(.cells [(.sl 1 1),(.sl 2 1),(.sl 3 3),(.sl 4 6),(.sl 5 1),(.d (zL t0 m0_0)),(.d (D.list t1 (List.map Zs m0_1))),(.d (Za m0_2))]),(.arr 1 (List.map Za m1_0)),(.arr 1 (List.map Za m2_0)),(.arr 3 (List.map Zy m3_0)),(.arr 6 (List.map ZA m4_0)),(.arr 1 (List.map Za m5_0))]=some ((Zj4 t0 t1 b c m0_0 m0_1 m0_2 m1_0 m2_0 m3_0 m4_0 m5_0) r):=
 evS Zws rfl rfl <| yG fun x0 hx0=>
  Zo (Zad rfl hx0) (yC Zm4 fun x1 _=>
  yB (Zo (Zar rfl hx0) (Zo (Zad rfl hx0) (Zf (Zcw Zy m3_0 b.toNat x1.1) (yBr yR))))
  (yBr yR))
def Zkd (t0:Bool) (t1:Bool) (m0_0:List Int) (m0_1:List Zt) (m0_2:Int) (m1_0:List Int) (m2_0:List Int) (m3_0:List Zb) (m4_0:List Zi) (m5_0:List Int):(Int⊕(((List Zb)×(List Int)×(List Int))⊕((List Zb)×(List Int)×(List Int)×(List Int))))→V×Zd
  | (.inl r)=>((.tup [(.nilsl 1),(.d (Za r))]),[(.cells [(.sl 1 1),(.sl 2 1),(.sl 3 3),(.sl 4 6),(.sl 5 1),(.d (zL t0 m0_0)),(.d (D.list t1 (List.map Zs m0_1))),(.d (Za m0_2))]),(.arr 1 (List.map Za m1_0)),(.arr 1 (List.map Za m2_0)),(.arr 3 (List.map Zy m3_0)),(.arr 6 (List.map ZA m4_0)),(.arr 1 (List.map Za m5_0))])
  | (.inr (.inl r))=>((.tup [(.nilsl 1),(.d (Za 130))]),[(.cells [(.sl 6 1),(.sl 7 1),(.sl 3 3),(.sl 4 6),(.sl 5 1),(.d (zL t0 m0_0)),(.d (D.list t1 (List.map Zs m0_1))),(.d (Za m0_2))]),(.arr 1 (List.map Za m1_0)),(.arr 1 (List.map Za m2_0)),(.arr 3 (List.map Zy r.1)),(.arr 6 (List.map ZA m4_0)),(.arr 1 (List.map Za m5_0)),(.arr 1 (List.map Za r.2.1)),(.arr 1 (List.map Za r.2.2))])
  | (.inr (.inr r))=>((.tup [(.sl 6 1),(.d (Za 0))]),[(.cells [(.sl 7 1),(.sl 8 1),(.sl 3 3),(.sl 4 6),(.sl 5 1),(.d (zL t0 m0_0)),(.d (D.list t1 (List.map Zs m0_1))),(.d (Za m0_2))]),(.arr 1 (List.map Za m1_0)),(.arr 1 (List.map Za m2_0)),(.arr 3 (List.map Zy r.1)),(.arr 6 (List.map ZA m4_0)),(.arr 1 (List.map Za m5_0)),(.arr 1 (List.map Za r.2.1)),(.arr 1 (List.map Za r.2.2.1)),(.arr 1 (List.map Za r.2.2.2))])
def ZeO (t0:Bool) (t1:Bool) (m0_0:List Int) (m0_1:List Zt) (m0_2:Int) (m1_0:List Int) (m2_0:List Int) (m4_0:List Zi) (m5_0:List Int) (x1:((List Int)×(List Int)×(List Int))) (x2:List Int) (s3:Int×(List Zb)×(List Int)) (x6:List Int):(((List Zb)×(List Int))⊕((List Zb)×(List Int)))→Ex×List V×Zd
  | (.inl r)=>(.ret,[(.ptr 0 0),(.nilsl 1),(.d (Za 130)),(.sl 6 1),(.d (zL true x2)),(.fn 1000170 [(.ptr 0 0)]),(.sl 7 1),(.sl 8 1),(.d (Za (m1_0.length:Int))),(.d (Za s3.1))],[(.cells [(.sl 9 1),(.sl 10 1),(.sl 3 3),(.sl 4 6),(.sl 5 1),(.d (zL t0 m0_0)),(.d (D.list t1 (List.map Zs m0_1))),(.d (Za m0_2))]),(.arr 1 (List.map Za m1_0)),(.arr 1 (List.map Za m2_0)),(.arr 3 (List.map Zy r.1)),(.arr 6 (List.map ZA m4_0)),(.arr 1 (List.map Za m5_0)),(.arr 1 (List.map Za x1.2.2)),(.arr 1 (List.map Za r.2)),(.arr 1 (List.map Za m1_0)),(.arr 1 (List.map Za x1.1)),(.arr 1 (List.map Za x1.2.1))])
  | (.inr r)=>(.exit 2,[(.ptr 0 0),.bad,.bad,(.sl 6 1),(.d (zL true x2)),(.fn 1000170 [(.ptr 0 0)]),(.sl 7 1),(.sl 8 1),(.d (Za (m1_0.length:Int))),(.d (Za s3.1))],[(.cells [(.sl 9 1),(.sl 10 1),(.sl 3 3),(.sl 4 6),(.sl 5 1),(.d (zL t0 m0_0)),(.d (D.list t1 (List.map Zs m0_1))),(.d (Za m0_2))]),(.arr 1 (List.map Za m1_0)),(.arr 1 (List.map Za m2_0)),(.arr 3 (List.map Zy r.1)),(.arr 6 (List.map ZA m4_0)),(.arr 1 (List.map Za m5_0)),(.arr 1 (List.map Za x1.2.2)),(.arr 1 (List.map Za r.2)),(.arr 1 (List.map Za m1_0)),(.arr 1 (List.map Za x1.1)),(.arr 1 (List.map Za x1.2.1))])
theorem Zid {t0 t1:Bool}{m0_0:List Int}{m0_1:List Zt}{m0_2:Int}{m1_0:List Int}{m2_0:List Int}{m4_0:List Zi}{m5_0:List Int}{x1:((List Int)×(List Int)×(List Int))}{x2:List Int}{s3:Int×(List Zb)×(List Int)}{x6:List Int}:∀(s7:Int×(List Zb)×(List Int)) (r:(((List Zb)×(List Int))⊕((List Zb)×(List Int)))),lp (ZaG x2 s3 x6) s7=some r→lpW ctx 6 [0,6,8,9,10,11,52,53,54,78,79,80] [0,2,3,6,8,9,10,52,53,54] Zug [(.ptr 0 0),(.sl 6 1),(.d (zL true x2)),(.fn 1000170 [(.ptr 0 0)]),(.sl 7 1),(.d (Za s3.1)),(.sl 8 1),(.d (Za (m1_0.length:Int))),(.d (Za s3.1)),(.d (zL true x6)),(.d (Za (x6.length:Int))),(.d (Za s7.1))] [(.cells [(.sl 9 1),(.sl 10 1),(.sl 3 3),(.sl 4 6),(.sl 5 1),(.d (zL t0 m0_0)),(.d (D.list t1 (List.map Zs m0_1))),(.d (Za m0_2))]),(.arr 1 (List.map Za m1_0)),(.arr 1 (List.map Za m2_0)),(.arr 3 (List.map Zy s7.2.1)),(.arr 6 (List.map ZA m4_0)),(.arr 1 (List.map Za m5_0)),(.arr 1 (List.map Za x1.2.2)),(.arr 1 (List.map Za s7.2.2)),(.arr 1 (List.map Za m1_0)),(.arr 1 (List.map Za x1.1)),(.arr 1 (List.map Za x1.2.1))]=some ((ZeO t0 t1 m0_0 m0_1 m0_2 m1_0 m2_0 m4_0 m5_0 x1 x2 s3 x6) r):=
 lpT (ZeO t0 t1 m0_0 m0_1 m0_2 m1_0 m2_0 m4_0 m5_0 x1 x2 s3 x6) fun s7 _ ih=>yB (yG fun x8 _=>
  yC ZL fun x9 _=>
  yB (yC ZL fun x10 _=>
  yB (Zg (ih _))
  (by
 conv=>rhs;whnf
 refine Ze _ ZfR fun x11 _=>?_
 rcases x11 with x11 | x11
 exact yT (Za6 (Ze4 Za s7.2.2 1) (Zf (ZeZ Za s7.2.2 [x8]) (Zg (ih _)))
  Z8)
 exact Zm rfl))
  (Zg (ih _)))
  (Zm rfl)
def ZeN (t0:Bool) (t1:Bool) (m0_0:List Int) (m0_1:List Zt) (m0_2:Int) (m1_0:List Int) (m2_0:List Int) (m4_0:List Zi) (m5_0:List Int) (x1:((List Int)×(List Int)×(List Int))) (x2:List Int):((List Zb)⊕(List Zb))→Ex×List V×Zd
  | (.inl r)=>(.ret,[(.nilsl 1),(.d (Za 130)),(.sl 6 1)],[(.cells [(.sl 7 1),(.sl 8 1),(.sl 3 3),(.sl 4 6),(.sl 5 1),(.d (zL t0 m0_0)),(.d (D.list t1 (List.map Zs m0_1))),(.d (Za m0_2))]),(.arr 1 (List.map Za m1_0)),(.arr 1 (List.map Za m2_0)),(.arr 3 (List.map Zy r)),(.arr 6 (List.map ZA m4_0)),(.arr 1 (List.map Za m5_0)),(.arr 1 (List.map Za x1.2.2)),(.arr 1 (List.map Za x1.1)),(.arr 1 (List.map Za x1.2.1))])
  | (.inr r)=>(.exit 0,[.bad,.bad,(.sl 6 1)],[(.cells [(.sl 7 1),(.sl 8 1),(.sl 3 3),(.sl 4 6),(.sl 5 1),(.d (zL t0 m0_0)),(.d (D.list t1 (List.map Zs m0_1))),(.d (Za m0_2))]),(.arr 1 (List.map Za m1_0)),(.arr 1 (List.map Za m2_0)),(.arr 3 (List.map Zy r)),(.arr 6 (List.map ZA m4_0)),(.arr 1 (List.map Za m5_0)),(.arr 1 (List.map Za x1.2.2)),(.arr 1 (List.map Za x1.1)),(.arr 1 (List.map Za x1.2.1))])
theorem ZhX {t0 t1:Bool}{m0_0:List Int}{m0_1:List Zt}{m0_2:Int}{m1_0:List Int}{m2_0:List Int}{m4_0:List Zi}{m5_0:List Int}{x1:((List Int)×(List Int)×(List Int))}{x2:List Int}:∀(s3:Int×(List Zb)×(List Int)) (r:((List Zb)⊕(List Zb))),lp (ZaJ m0_0 m0_1 m1_0 x1 x2) s3=some r→lpW ctx 6 [0,6,8,9,10,52,53,54] [2,3,6] Zud [(.ptr 0 0),(.sl 6 1),(.d (zL true x2)),(.fn 1000170 [(.ptr 0 0)]),(.sl 7 1),(.sl 8 1),(.d (Za (m1_0.length:Int))),(.d (Za s3.1))] [(.cells [(.sl 9 1),(.sl 10 1),(.sl 3 3),(.sl 4 6),(.sl 5 1),(.d (zL t0 m0_0)),(.d (D.list t1 (List.map Zs m0_1))),(.d (Za m0_2))]),(.arr 1 (List.map Za m1_0)),(.arr 1 (List.map Za m2_0)),(.arr 3 (List.map Zy s3.2.1)),(.arr 6 (List.map ZA m4_0)),(.arr 1 (List.map Za m5_0)),(.arr 1 (List.map Za x1.2.2)),(.arr 1 (List.map Za s3.2.2)),(.arr 1 (List.map Za m1_0)),(.arr 1 (List.map Za x1.1)),(.arr 1 (List.map Za x1.2.1))]=some ((ZeN t0 t1 m0_0 m0_1 m0_2 m1_0 m2_0 m4_0 m5_0 x1 x2) r):=
 lpT (ZeN t0 t1 m0_0 m0_1 m0_2 m1_0 m2_0 m4_0 m5_0 x1 x2) fun s3 _ ih=>yB (yG fun x4 hx4=>
  Zo (Zad rfl hx4) (yB (Zg (ih _))
  (yG fun x5 hx5=>
  Zo (Zad rfl hx5) (yB (Zg (ih _))
  (yC Zov fun x6 _=>
  Zf (Zr _ _) (by
 conv=>rhs;whnf
 refine Ze _ (Zid _) fun r12 _=>?_
 rcases r12 with r12 | r12
 exact Zm rfl
 exact Zg (ih _)))))))
  (Zm rfl)
theorem ZjI {t0 t1:Bool}{m0_0:List Int}{m0_1:List Zt}{m0_2:Int}{m1_0:List Int}{m2_0:List Int}{m3_0:List Zb}{m4_0:List Zi}{m5_0:List Int}:∀r,(ZdM m0_0 m0_1 m1_0 m2_0 m3_0)=some r→evW ctx 175 [(.ptr 0 0)] [(.cells [(.sl 1 1),(.sl 2 1),(.sl 3 3),(.sl 4 6),(.sl 5 1),(.d (zL t0 m0_0)),(.d (D.list t1 (List.map Zs m0_1))),(.d (Za m0_2))]),(.arr 1 (List.map Za m1_0)),(.arr 1 (List.map Za m2_0)),(.arr 3 (List.map Zy m3_0)),(.arr 6 (List.map ZA m4_0)),(.arr 1 (List.map Za m5_0))]=some ((Zkd t0 t1 m0_0 m0_1 m0_2 m1_0 m2_0 m3_0 m4_0 m5_0) r):=
 evS Zxv rfl rfl <| Ze _ Zp fun x0 _=>
  (by
 conv=>rhs;whnf
 refine Ze _ Zjg fun x1 _=>?_
 rcases x1 with x1 | x1
 exact yBm yR
 exact yF (yC Zf6 fun x2 _=>
  Zf (Zr _ _) (by
 conv=>rhs;whnf
 refine Ze _ (ZhX _) fun r13 _=>?_
 rcases r13 with r13 | r13
 exact yR
 exact yR)))
def Zor (r:(ZS×(List Int)×Int)):D:=(D.tup [(D.agg [(zL true r.1.crew.on),(zL true r.1.crew.left),(D.list true (List.map Zy r.1.deques)),(D.list true (List.map ZA r.1.takers)),(zL true r.1.from_)]),(zL true r.2.1),(Za r.2.2)])
theorem Zm8 {t0 t1:Bool}{t2 t3:Bool}{t4 t5 t6:Bool}{a:Zk}{b:ZS}:∀r,(Zgp a b)=some r→evD ctx 166 [(.d (D.agg [(zL t0 a.work),(D.list t1 (List.map Zs a.edges))])),(.d (D.agg [(zL t2 b.crew.on),(zL t3 b.crew.left),(D.list t4 (List.map Zy b.deques)),(D.list t5 (List.map ZA b.takers)),(zL t6 b.from_)]))]=some (Zor r):=
 evT Zwe rfl rfl <| yC ZhJ fun x0 _=>
  yBr (Ze _ ZjE fun x1 _=>
  (by
 conv=>rhs;whnf
 refine Ze _ ZjI fun x2 _=>?_
 rcases x2 with x2 | (x2 | x2)
 exact yBm yR
 exact yT yR
 exact yF yR))
def ZkW (r:(ZS×(List Int)×Int)):D:=(D.tup [(D.agg [(zL true r.1.crew.on),(zL true r.1.crew.left),(D.list true (List.map Zy r.1.deques)),(D.list true (List.map ZA r.1.takers)),(zL true r.1.from_)]),(zL true r.2.1),(Za r.2.2)])
theorem Zgc {t0 t1:Bool}{t2 t3:Bool}{t4 t5 t6:Bool}{a:Zjc}{b:Zk}{c:ZS}:∀r,(Zd5 a b c)=some r→evD ctx 162 [(.d (D.agg [])),(.d (D.agg [(zL t0 b.work),(D.list t1 (List.map Zs b.edges))])),(.d (D.agg [(zL t2 c.crew.on),(zL t3 c.crew.left),(D.list t4 (List.map Zy c.deques)),(D.list t5 (List.map ZA c.takers)),(zL t6 c.from_)]))]=some (ZkW r):=
 evT ZxL rfl rfl <| yC Zm8 fun x0 _=>
  yR
def Zps (t0:Bool) (t1:Bool) (a:Zk) (m0_0:List Int) (m1_0:List Int):(List Int)→V×Zd
  | r=>((.d (D.tup [])),[(.arr 1 (List.map Za r)),(.arr 1 (List.map Za m1_0))])
def ZhG (m0_0:List Int) (m1_0:List Int):(List Int)→Ex×List V×Zd
  | r=>(.exit 0,[],[(.arr 1 (List.map Za r)),(.arr 1 (List.map Za m1_0))])
theorem ZlM {m0_0:List Int}{m1_0:List Int}:∀(s1:(List Int)×Int×(List Int)) (r:List Int),lp (ZcZ m0_0) s1=some r→lpW ctx 2 [3,4,11,12,13] [] ZtF [(.ptr 2 0),(.d (zL true s1.1)),(.sl 0 1),(.d (Za (m0_0.length:Int))),(.d (Za s1.2.1))] [(.arr 1 (List.map Za s1.2.2)),(.arr 1 (List.map Za m1_0)),(.cells [(.sl 0 1),(.sl 1 1)])]=some ((ZhG m0_0 m1_0) r):=
 lpT (ZhG m0_0 m1_0) fun s1 _ ih=>yB (yG fun x2 hx2=>
  Zo (Zad rfl hx2) (yB (Zf (Zr _ _) (yB (yG fun x3 _=>
  yT (Za6 (Zrs Za s1.1 1) (Zlx (Zv4 Za (fun _=>⟨rfl,rfl⟩) s1.1 _) (Zf (ZoJ Za s1.1 1) (Zo (Zar rfl hx2) (Zo (Zad rfl hx2) (Zf (Zcw Za s1.2.2 s1.2.1.toNat x3) (Zg (ih _)))))))
  Z8))
  (Zg (ih _))))
  (Zg (ih _))))
  (Zm rfl)
theorem ZoW {t0 t1:Bool}{a:Zk}{m0_0:List Int}{m1_0:List Int}:∀r,(Zjt a m0_0 m1_0)=some r→evW ctx 220 [(.d (D.agg [(zL t0 a.work),(D.list t1 (List.map Zs a.edges))])),(.agg [(.sl 0 1),(.sl 1 1)])] [(.arr 1 (List.map Za m0_0)),(.arr 1 (List.map Za m1_0))]=some ((Zps t0 t1 a m0_0 m1_0) r):=
 evS Zw4 rfl rfl <| yC ZiY fun x0 _=>
  Zf (Zr _ _) (Ze _ (ZlM _) fun r4 _=>
  yR)
def ZpG (r:(ZK×Int)):D:=(D.tup [(D.agg [(zL true r.1.on),(zL true r.1.left)]),(Za r.2)])
theorem ZoM {t0 t1:Bool}{t2 t3:Bool}{a:Zk}{b:ZK}:∀r,(Zg8 a b)=some r→evD ctx 219 [(.d (D.agg [(zL t0 a.work),(D.list t1 (List.map Zs a.edges))])),(.d (D.agg [(zL t2 b.on),(zL t3 b.left)]))]=some (ZpG r):=
 evT ZxI rfl rfl <| yC Zet fun x0 _=>
  yBr (Ze _ Zkh fun x1 _=>
  Ze _ ZoW fun x2 _=>
  yR)
def ZlD (r:(ZS×Int×Int)):D:=(D.tup [(D.agg [(zL true r.1.crew.on),(zL true r.1.crew.left),(D.list true (List.map Zy r.1.deques)),(D.list true (List.map ZA r.1.takers)),(zL true r.1.from_)]),(Za r.2.1),(Za r.2.2)])
theorem ZgJ {t0 t1:Bool}{t2 t3:Bool}{t4 t5:Bool}{t6 t7:Bool}{a:ZoP}{b:Zk}{c:ZS}{d:List Int}:∀r,(Zev a b c d)=some r→evD ctx 217 [(.d (D.agg [])),(.d (D.agg [(zL t0 b.work),(D.list t1 (List.map Zs b.edges))])),(.d (D.agg [(zL t2 c.crew.on),(zL t3 c.crew.left),(D.list t4 (List.map Zy c.deques)),(D.list t5 (List.map ZA c.takers)),(zL t6 c.from_)])),(.d (zL t7 d))]=some (ZlD r):=
 evT ZvI rfl rfl <| yC ZoM fun x0 _=>
  yR
def Zlt (r:(ZS×(List Int)×Int)):D:=(D.tup [(D.agg [(zL true r.1.crew.on),(zL true r.1.crew.left),(D.list true (List.map Zy r.1.deques)),(D.list true (List.map ZA r.1.takers)),(zL true r.1.from_)]),(zL true r.2.1),(Za r.2.2)])
theorem ZgW {t0 t1:Bool}{t2 t3:Bool}{t4 t5 t6:Bool}{a:ZoP}{b:Zk}{c:ZS}:∀r,(Zeu a b c)=some r→evD ctx 218 [(.d (D.agg [])),(.d (D.agg [(zL t0 b.work),(D.list t1 (List.map Zs b.edges))])),(.d (D.agg [(zL t2 c.crew.on),(zL t3 c.crew.left),(D.list t4 (List.map Zy c.deques)),(D.list t5 (List.map ZA c.takers)),(zL t6 c.from_)]))]=some (Zlt r):=
 evT Zxb rfl rfl <| (by
 conv=>rhs;whnf
 refine Ze _ Zjg fun x0 _=>?_
 rcases x0 with x0 | x0
 exact yR
 exact yR)
def ZpB (r:(ZbS×Zbp×Int)):D:=(D.tup [(D.agg [(D.bool r.1.stealing),(zL true r.1.demand),(Za r.1.state),(zL true r.1.gang.crew.on),(zL true r.1.gang.crew.left),(D.list true (List.map Zy r.1.gang.deques)),(D.list true (List.map ZA r.1.gang.takers)),(zL true r.1.gang.from_)]),(D.agg [(zL true r.2.1.on),(zL true r.2.1.done),(Za r.2.1.steps)]),(Za r.2.2)])
theorem ZoZ {t0 t1:Bool}{t2 t3:Bool}{t4 t5:Bool}{t6 t7 t8:Bool}{a:Zk}{b:ZbS}{c:List Int}:∀r,(ZfJ a b c)=some r→evD ctx 36 [(.d (D.agg [(zL t0 a.work),(D.list t1 (List.map Zs a.edges))])),(.d (D.agg [(D.bool b.stealing),(zL t2 b.demand),(Za b.state),(zL t3 b.gang.crew.on),(zL t4 b.gang.crew.left),(D.list t5 (List.map Zy b.gang.deques)),(D.list t6 (List.map ZA b.gang.takers)),(zL t7 b.gang.from_)])),(.d (zL t8 c))]=some (ZpB r):=
 evT ZAs rfl rfl <| yB ((by
 conv=>rhs;whnf
 refine yC ZiH fun x0 _=>?_
 rcases x0 with x0 | x0
 exact yC Zga fun x1 _=>
  yBr (Ze _ Zp fun x2 _=>
  yC Zgc fun x3 _=>
  yBr (Ze _ Zp fun x4 _=>
  yC Zck fun x5 _=>
  yR))
 exact yC ZgJ fun x6 _=>
  yBr (Ze _ Zp fun x7 _=>
  yC ZgW fun x8 _=>
  yBr (Ze _ Zp fun x9 _=>
  yC Zck fun x10 _=>
  yR))))
  (by
 conv=>rhs;whnf
 refine yC ZiH fun x11 _=>?_
 rcases x11 with x11 | x11
 exact yC Zga fun x12 _=>
  yBr (Ze _ Zp fun x13 _=>
  yC Zgc fun x14 _=>
  yBr (Ze _ Zp fun x15 _=>
  yC Zck fun x16 _=>
  yR))
 exact yC ZgJ fun x17 _=>
  yBr (Ze _ Zp fun x18 _=>
  yC ZgW fun x19 _=>
  yBr (Ze _ Zp fun x20 _=>
  yC Zck fun x21 _=>
  yR)))
def Zpk (r:Int):D:=(Za r)
def ZhZ (t0:Bool) (a:Zk):Int→Ex×List V×Zd
  | r=>(.exit 0,[(.d (Za r))],[])
theorem Zlj {t0:Bool}{a:Zk}:∀(s1:Int×Int) (r:Int),lp (ZdS a) s1=some r→lpW ctx 0 [3,10,11,12] [3] Zwz [(.d (Za s1.1)),(.d (zL t0 a.work)),(.d (Za (a.work.length:Int))),(.d (Za s1.2))] []=some ((ZhZ t0 a) r):=
 lpT (ZhZ t0 a) fun s1 _ ih=>yB (yG fun x2 _=>
  Zg (ih _))
  (Zm rfl)
theorem Zo3 {t0 t1:Bool}{a:Zk}:∀r,(ZeJ a)=some r→evD ctx 30 [(.d (D.agg [(zL t0 a.work),(D.list t1 (List.map Zs a.edges))]))]=some (Zpk r):=
 evT ZzA rfl rfl <| yC Zc6 fun x0 _=>
  yB (Zf (Zr _ _) (Ze _ (Zlj _) fun r3 _=>
  yR))
  yR
def Zmj (r:Bool):D:=(D.bool r)
theorem Zlr {t0 t1 t2:Bool}{a:Zk}{b:List Int}:∀r,(Ze3 a b)=some r→evD ctx 19 [(.d (D.agg [(zL t0 a.work),(D.list t1 (List.map Zs a.edges))])),(.d (zL t2 b))]=some (Zmj r):=
 evT Zzm rfl rfl <| yC ZnV fun x0 _=>
  yB (Zf (Zr _ _) (yB (Ze _ Zc1 fun x1 _=>
  yC Zo3 fun x2 _=>
  yBr yR)
  yR))
  yR
def ZlO (r:Bool):D:=(D.bool r)
theorem ZkV {a:Int}:∀r,(Zbr a)=some r→evD ctx 94 [(.d (Za a))]=some (ZlO r):=
 evT ZAk rfl rfl <| yBr (yBr yR)
def ZcT (r:Int):D:=(Za r)
def Zaq (t0:Bool) (a:List Int):(Int⊕Unit)→Ex×List V×Zd
  | (.inl r)=>(.ret,[(.d (Za r))],[])
  | (.inr r)=>(.exit 0,[.bad],[])
theorem Zb4 {t0:Bool}{a:List Int}:∀(s0:Int) (r:(Int⊕Unit)),lp (Zv a (fun z0=>Zbr z0)) s0=some r→lpW ctx 0 [0,1,7,8] [4] Zl9 [(.d (zL t0 a)),(.d (D.fn 94 [])),(.d (Za (a.length:Int))),(.d (Za s0))] []=some ((Zaq t0 a) r):=
 lpT (Zaq t0 a) fun s0 _ ih=>yB (yG fun x1 _=>
  yC ZkV fun x2 _=>
  yB (Zm rfl)
  (Zg (ih _)))
  (Zm rfl)
theorem ZcN {t0:Bool}{a:List Int}:∀r,(ZC a (fun z0=>Zbr z0))=some r→evD ctx 99 [(.d (zL t0 a)),(.d (D.fn 94 []))]=some (ZcT r):=
 evT ZsG rfl rfl <| Zf (Zr _ _) (by
 conv=>rhs;whnf
 refine Ze _ (Zb4 _) fun r3 _=>?_
 rcases r3 with r3 | r3
 exact yR
 exact yR)
def Zcg (r:Bool):D:=(D.bool r)
theorem Zb5 {t0:Bool}{a:List Int}:∀r,(Zw a (fun z0=>Zbr z0))=some r→evD ctx 66 [(.d (zL t0 a)),(.d (D.fn 94 []))]=some (Zcg r):=
 evT Zu4 rfl rfl <| yC ZcN fun x0 _=>
  yBr yR
def Zm1 (r:(Bool×Int)):D:=(D.tup [(D.bool r.1),(Za r.2)])
theorem Zh7 {t0 t1 t2:Bool}{a:Zk}{b:List Int}{c:Int}:∀r,(Zeo a b c)=some r→evD ctx 59 [(.d (D.agg [(zL t0 a.work),(D.list t1 (List.map Zs a.edges))])),(.d (zL t2 b)),(.d (Za c))]=some (Zm1 r):=
 evT Zzw rfl rfl <| yC Zc6 fun x0 _=>
  yBr (Zf (Zr _ _) (Zf (Zr _ _) (yB (yC Zb5 fun x1 _=>
  yBr (yB (yBr yR)
  yR))
  yR)))
def ZlZ (r:Bool):D:=(D.bool r)
theorem ZlI {t0:Bool}{a:List Int}{b0:Int}:∀r,(ZaO a b0)=some r→evD ctx 83 [(.d (zL t0 a)),(.d (D.rptr [(Za b0)]))]=some (ZlZ r):=
 evT ZzB rfl rfl <| Zf (Zr _ _) (yBr yR)
def ZcO (r:Int):D:=(Za r)
def Zak (t0:Bool) (a:(List (List Int))) (b0:Int):(Int⊕Unit)→Ex×List V×Zd
  | (.inl r)=>(.ret,[(.d (Za r))],[])
  | (.inr r)=>(.exit 0,[.bad],[])
theorem ZbX {t0:Bool}{a:(List (List Int))}{b0:Int}:∀(s0:Int) (r:(Int⊕Unit)),lp (Zac a (fun z0=>ZaO z0 b0)) s0=some r→lpW ctx 0 [0,1,7,8] [4] Zub [(.d (D.list t0 (List.map (Zct true) a))),(.d (D.fn 83 [(D.rptr [(Za b0)])])),(.d (Za (a.length:Int))),(.d (Za s0))] []=some ((Zak t0 a b0) r):=
 lpT (Zak t0 a b0) fun s0 _ ih=>yB (yG fun x1 _=>
  yC ZlI fun x2 _=>
  yB (Zm rfl)
  (Zg (ih _)))
  (Zm rfl)
theorem ZcE {t0:Bool}{a:(List (List Int))}{b0:Int}:∀r,(Zal a (fun z0=>ZaO z0 b0))=some r→evD ctx 108 [(.d (D.list t0 (List.map (Zct true) a))),(.d (D.fn 83 [(D.rptr [(Za b0)])]))]=some (ZcO r):=
 evT Zwl rfl rfl <| Zf (Zr _ _) (by
 conv=>rhs;whnf
 refine Ze _ (ZbX _) fun r3 _=>?_
 rcases r3 with r3 | r3
 exact yR
 exact yR)
def Zb2 (r:Bool):D:=(D.bool r)
theorem Zah {t0:Bool}{a:(List (List Int))}{b0:Int}:∀r,(ZG a (fun z0=>ZaO z0 b0))=some r→evD ctx 84 [(.d (D.list t0 (List.map (Zct true) a))),(.d (D.fn 83 [(D.rptr [(Za b0)])]))]=some (Zb2 r):=
 evT ZAd rfl rfl <| yC ZcE fun x0 _=>
  yBr yR
def Zm0 (t0:Bool) (a:List Int):(List Int)→V×Zd
  | r=>((.ptr 0 0),[(.cells [(.d (zL t0 a)),(.sl 1 1),(.sl 2 2),(.sl 3 1)]),(.arr 1 (List.map Za (List.replicate (a.length:Int).toNat (0:Int)))),(.arr 2 (List.map Zba (List.replicate (a.length:Int).toNat ((ZD.mk 0 0):ZD)))),(.arr 1 (List.map Za r))])
def Zg1 (t0:Bool) (a:List Int):(List Int)→Ex×List V×Zd
  | r=>(.exit 0,[(.ptr 0 0)],[(.cells [(.d (zL t0 a)),(.sl 1 1),(.sl 2 2),(.sl 3 1)]),(.arr 1 (List.map Za (List.replicate (a.length:Int).toNat (0:Int)))),(.arr 2 (List.map Zba (List.replicate (a.length:Int).toNat ((ZD.mk 0 0):ZD)))),(.arr 1 (List.map Za r))])
theorem Zj7 {t0:Bool}{a:List Int}:∀(s0:Int×(List Int)) (r:List Int),lp (Za1 a) s0=some r→lpW ctx 0 [3,18,19] [3] ZwB [(.ptr 0 0),(.d (Za (a.length:Int))),(.d (Za s0.1))] [(.cells [(.d (zL t0 a)),(.sl 1 1),(.sl 2 2),(.sl 3 1)]),(.arr 1 (List.map Za (List.replicate (a.length:Int).toNat (0:Int)))),(.arr 2 (List.map Zba (List.replicate (a.length:Int).toNat ((ZD.mk 0 0):ZD)))),(.arr 1 (List.map Za s0.2))]=some ((Zg1 t0 a) r):=
 lpT (Zg1 t0 a) fun s0 _ ih=>yB (yG fun x1 hx1=>
  Zo (Zad rfl hx1) (Zf (Zcw Za s0.2 s0.1.toNat (-1)) (Zg (ih _))))
  (Zm rfl)
theorem Zif {t0:Bool}{a:List Int}:∀r,(Zel a)=some r→evW ctx 85 [(.d (zL t0 a))] []=some ((Zm0 t0 a) r):=
 evS Zzt rfl rfl <| Zf (Zr _ _) (yBm (Zf (ZiA Za (0:Int) (a.length:Int)) (Zf (Zr _ _) (yBm (Zf (ZiA Zba ((ZD.mk 0 0):ZD) (a.length:Int)) (Zf (Zr _ _) (yBm (Zf (ZiA Za (0:Int) (a.length:Int)) (Zf (Zr _ _) (Ze _ (Zj7 _) fun r2 _=>
  yR))))))))))
def Zj5 (r:Bool):D:=(D.bool r)
theorem ZjL {t0 t1:Bool}{t2 t3:Bool}{a0:List Int}{a1:List Int}{a2:List ZD}{a3:List Int}{b c:Int}:∀r,(ZdL a3 b c)=some r→evD ctx 91 [(.d (D.rptr [(zL t0 a0),(zL t1 a1),(D.list t2 (List.map Zba a2)),(zL t3 a3)])),(.d (Za b)),(.d (Za c))]=some (Zj5 r):=
 evT ZzU rfl rfl <| yG fun x0 hx0=>
  yB (Zo (Zar rfl hx0) (yBr yR))
  yR
def Zi9 (r:Bool):D:=(D.bool r)
theorem ZiN {t0 t1:Bool}{t2 t3:Bool}{a:Zt}{b0:Int}{c0:List Int}{c1:List Int}{c2:List ZD}{c3:List Int}{d0:Int}:∀r,(ZaQ a b0 c3 d0)=some r→evD ctx 90 [(.d (D.agg [(Za a.src),(Za a.dst)])),(.d (D.rptr [(Za b0)])),(.d (D.rptr [(D.rptr [(zL t0 c0),(zL t1 c1),(D.list t2 (List.map Zba c2)),(zL t3 c3)])])),(.d (D.rptr [(Za d0)]))]=some (Zi9 r):=
 evT ZAn rfl rfl <| yB (yC ZjL fun x0 _=>
  yBr yR)
  yR
def ZbM (r:Int):D:=(Za r)
def Zaa (t0:Bool) (t1:Bool) (t2:Bool) (t3:Bool) (t4:Bool) (a:List Zt) (b0:Int) (b1:List Int) (b2:List Int) (b3:List ZD) (b4:List Int) (b5:Int):(Int⊕Unit)→Ex×List V×Zd
  | (.inl r)=>(.ret,[(.d (Za r))],[])
  | (.inr r)=>(.exit 0,[.bad],[])
theorem Zbl {t0 t1:Bool}{t2 t3 t4:Bool}{a:List Zt}{b0:Int}{b1:List Int}{b2:List Int}{b3:List ZD}{b4:List Int}{b5:Int}:∀(s0:Int) (r:(Int⊕Unit)),lp (ZZ a (fun z0=>ZaQ z0 b0 b4 b5)) s0=some r→lpW ctx 0 [0,1,7,8] [4] ZqF [(.d (D.list t0 (List.map Zs a))),(.d (D.fn 90 [(D.rptr [(Za b0)]),(D.rptr [(D.rptr [(zL t1 b1),(zL t2 b2),(D.list t3 (List.map Zba b3)),(zL t4 b4)])]),(D.rptr [(Za b5)])])),(.d (Za (a.length:Int))),(.d (Za s0))] []=some ((Zaa t0 t1 t2 t3 t4 a b0 b1 b2 b3 b4 b5) r):=
 lpT (Zaa t0 t1 t2 t3 t4 a b0 b1 b2 b3 b4 b5) fun s0 _ ih=>yB (yG fun x1 _=>
  yC ZiN fun x2 _=>
  yB (Zm rfl)
  (Zg (ih _)))
  (Zm rfl)
theorem ZbB {t0 t1:Bool}{t2 t3 t4:Bool}{a:List Zt}{b0:Int}{b1:List Int}{b2:List Int}{b3:List ZD}{b4:List Int}{b5:Int}:∀r,(Zam a (fun z0=>ZaQ z0 b0 b4 b5))=some r→evD ctx 109 [(.d (D.list t0 (List.map Zs a))),(.d (D.fn 90 [(D.rptr [(Za b0)]),(D.rptr [(D.rptr [(zL t1 b1),(zL t2 b2),(D.list t3 (List.map Zba b3)),(zL t4 b4)])]),(D.rptr [(Za b5)])]))]=some (ZbM r):=
 evT Zt5 rfl rfl <| Zf (Zr _ _) (by
 conv=>rhs;whnf
 refine Ze _ (Zbl _) fun r3 _=>?_
 rcases r3 with r3 | r3
 exact yR
 exact yR)
def Zbu (r:Bool):D:=(D.bool r)
theorem Zbm {t0 t1:Bool}{t2 t3 t4:Bool}{a:List Zt}{b0:Int}{b1:List Int}{b2:List Int}{b3:List ZD}{b4:List Int}{b5:Int}:∀r,(ZQ a (fun z0=>ZaQ z0 b0 b4 b5))=some r→evD ctx 89 [(.d (D.list t0 (List.map Zs a))),(.d (D.fn 90 [(D.rptr [(Za b0)]),(D.rptr [(D.rptr [(zL t1 b1),(zL t2 b2),(D.list t3 (List.map Zba b3)),(zL t4 b4)])]),(D.rptr [(Za b5)])]))]=some (Zbu r):=
 evT Zyx rfl rfl <| yC ZbB fun x0 _=>
  yBr yR
def Zka (r:Bool):D:=(D.bool r)
theorem Zd3 {t0 t1:Bool}{t2 t3:Bool}{t4 t5:Bool}{a0:List Int}{a1:List Int}{a2:List ZD}{a3:List Int}{b:Zk}{c d:Int}:∀r,(Zbn a3 b c d)=some r→evD ctx 56 [(.d (D.rptr [(zL t0 a0),(zL t1 a1),(D.list t2 (List.map Zba a2)),(zL t3 a3)])),(.d (D.agg [(zL t4 b.work),(D.list t5 (List.map Zs b.edges))])),(.d (Za c)),(.d (Za d))]=some (Zka r):=
 evT ZzZ rfl rfl <| yC Zbm fun x0 _=>
  yBr yR
def Zkr (r:Int):D:=(Za r)
theorem Zgg {t0 t1:Bool}{t2 t3:Bool}{t4 t5 t6:Bool}{a0:List Int}{a1:List Int}{a2:List ZD}{a3:List Int}{b:Zk}{c:List Int}{d e:Int}:∀r,(Za7 a0 a1 a2 a3 b c d e)=some r→evD ctx 86 [(.d (D.rptr [(zL t0 a0),(zL t1 a1),(D.list t2 (List.map Zba a2)),(zL t3 a3)])),(.d (D.agg [(zL t4 b.work),(D.list t5 (List.map Zs b.edges))])),(.d (zL t6 c)),(.d (Za d)),(.d (Za e))]=some (Zkr r):=
 evT ZAe rfl rfl <| yG fun x0 _=>
  yBr (Zf (Zr _ _) (yBr (yBm (Za6 (ZwE Za c e.toNat) (yT (Zf (Zre Za c e.toNat) (yC ZL fun x1 _=>
  yBr (yG fun x2 hx2=>
  yG fun x3 _=>
  yBr (Zo (Zar rfl hx2) (yB (yG fun x4 _=>
  yBr (Zo (Zar rfl hx2) (yB (yC Zd3 fun x5 _=>
  yBr yR)
  yR)))
  (Zo (Zar rfl hx2) (yB (yC Zd3 fun x6 _=>
  yBr yR)
  yR))))))))
  Z8))))
def ZoC (t0:Bool) (t1:Bool) (b:Int) (c:List Int) (m0_0:List Int) (m1_0:List Int) (m2_0:List ZD) (m3_0:List Int):Unit→V×Zd
  | r=>((.d (D.tup [])),[(.cells [(.d (zL t1 m0_0)),(.sl 1 1),(.sl 2 2),(.sl 3 1)]),(.arr 1 (List.map Za m1_0)),(.arr 2 (List.map Zba m2_0)),(.arr 1 (List.map Za m3_0))])
theorem Zm3 {t0 t1:Bool}{b:Int}{c:List Int}{m0_0:List Int}{m1_0:List Int}{m2_0:List ZD}{m3_0:List Int}:∀r,(ZiD b c)=some r→evW ctx 53 [(.ptr 0 0),(.d (Za b)),(.d (zL t0 c))] [(.cells [(.d (zL t1 m0_0)),(.sl 1 1),(.sl 2 2),(.sl 3 1)]),(.arr 1 (List.map Za m1_0)),(.arr 2 (List.map Zba m2_0)),(.arr 1 (List.map Za m3_0))]=some ((ZoC t0 t1 b c m0_0 m1_0 m2_0 m3_0) r):=
 evS ZAC rfl rfl <| yR
def Zkz (t0:Bool) (b:Int) (c:Int) (d:Int) (m0_0:List Int) (m1_0:List Int) (m2_0:List ZD) (m3_0:List Int):((List Int)×(List Int))→V×Zd
  | r=>((.d (D.tup [])),[(.cells [(.d (zL t0 m0_0)),(.sl 1 1),(.sl 2 2),(.sl 3 1)]),(.arr 1 (List.map Za r.1)),(.arr 2 (List.map Zba (List.set m2_0 b.toNat (ZD.mk c d)))),(.arr 1 (List.map Za r.2))])
theorem Zgb {t0:Bool}{b c d:Int}{m0_0:List Int}{m1_0:List Int}{m2_0:List ZD}{m3_0:List Int}:∀r,(ZbL b c d m0_0 m1_0 m2_0 m3_0)=some r→evW ctx 87 [(.ptr 0 0),(.d (Za b)),(.d (Za c)),(.d (Za d))] [(.cells [(.d (zL t0 m0_0)),(.sl 1 1),(.sl 2 2),(.sl 3 1)]),(.arr 1 (List.map Za m1_0)),(.arr 2 (List.map Zba m2_0)),(.arr 1 (List.map Za m3_0))]=some ((Zkz t0 b c d m0_0 m1_0 m2_0 m3_0) r):=
 evS Zz8 rfl rfl <| yG fun x0 hx0=>
  Zo (Zad rfl hx0) (Zo (Zar rfl hx0) (Zo (Zad rfl hx0) (Zf (Zcw Za m1_0 b.toNat (w64 (x0+1))) (yG fun x1 hx1=>
  Zo (Zad rfl hx1) (Zf (Zcw Zba m2_0 b.toNat (ZD.mk c d)) (yG fun x2 hx2=>
  Zo (Zad rfl hx2) (yG fun x3 _=>
  yB (yG fun x4 hx4=>
  Zo (Zad rfl hx4) (Zf (Zcw Za m3_0 b.toNat (w64 (c+1))) yR))
  yR)))))))
def ZgK (t0:Bool) (t1:Bool) (t2:Bool) (t3:Bool) (a:Zk) (b:List Int) (c:Int) (d:(List (List Int))):(Int⊕(Int×(List Int)×(List ZD)×(List Int)))→V×Zd
  | (.inl r)=>((.d (D.tup [(D.nilp),(Za r)])),[])
  | (.inr r)=>((.tup [(.ptr 0 0),(.d (Za r.1))]),[(.cells [(.d (zL t2 b)),(.sl 1 1),(.sl 2 2),(.sl 3 1)]),(.arr 1 (List.map Za r.2.1)),(.arr 2 (List.map Zba r.2.2.1)),(.arr 1 (List.map Za r.2.2.2))])
def Zdh (t0:Bool) (t1:Bool) (t2:Bool) (t3:Bool) (a:Zk) (b:List Int) (d:(List (List Int))) (s3:Int×Int×(List Int)×(List ZD)×(List Int)) (x4:List Int):(Int⊕Int)→Ex×List V×Zd
  | (.inl r)=>(.exit 0,[(.d (D.fn 53 [])),(.ptr 0 0),(.d (Za r)),(.ptr 1 0),(.d (Za s3.2.1)),(.d (zL true x4)),(.d (D.list t3 (List.map (Zct true) d))),(.d (Za (d.length:Int))),(.d (Za s3.2.1))],[(.cells [(.d (zL t0 a.work)),(.d (D.list t1 (List.map Zs a.edges)))]),(.cells [(.d (zL t2 b)),(.sl 2 1),(.sl 3 2),(.sl 4 1)]),(.arr 1 (List.map Za s3.2.2.1)),(.arr 2 (List.map Zba s3.2.2.2.1)),(.arr 1 (List.map Za s3.2.2.2.2))])
  | (.inr r)=>(.exit 2,[(.d (D.fn 53 [])),(.ptr 0 0),(.d (Za r)),(.ptr 1 0),(.d (Za s3.2.1)),(.d (zL true x4)),(.d (D.list t3 (List.map (Zct true) d))),(.d (Za (d.length:Int))),(.d (Za s3.2.1))],[(.cells [(.d (zL t0 a.work)),(.d (D.list t1 (List.map Zs a.edges)))]),(.cells [(.d (zL t2 b)),(.sl 2 1),(.sl 3 2),(.sl 4 1)]),(.arr 1 (List.map Za s3.2.2.1)),(.arr 2 (List.map Zba s3.2.2.2.1)),(.arr 1 (List.map Za s3.2.2.2.2))])
theorem Zfo {t0 t1:Bool}{t2 t3:Bool}{a:Zk}{b:List Int}{d:(List (List Int))}{s3:Int×Int×(List Int)×(List ZD)×(List Int)}{x4:List Int}:∀(s5:Int×Int) (r:(Int⊕Int)),lp (Zdy a b s3 x4) s5=some r→lpW ctx 0 [4,5,13,15,16,17,47,48,49,54,55,56] [4,5,13,15,16,17,47,48,49] Zs3 [(.d (D.fn 53 [])),(.ptr 0 0),(.d (Za s5.1)),(.ptr 1 0),(.d (Za s3.2.1)),(.d (zL true x4)),(.d (D.list t3 (List.map (Zct true) d))),(.d (Za (d.length:Int))),(.d (Za s3.2.1)),(.d (zL true x4)),(.d (Za (x4.length:Int))),(.d (Za s5.2))] [(.cells [(.d (zL t0 a.work)),(.d (D.list t1 (List.map Zs a.edges)))]),(.cells [(.d (zL t2 b)),(.sl 2 1),(.sl 3 2),(.sl 4 1)]),(.arr 1 (List.map Za s3.2.2.1)),(.arr 2 (List.map Zba s3.2.2.2.1)),(.arr 1 (List.map Za s3.2.2.2.2))]=some ((Zdh t0 t1 t2 t3 a b d s3 x4) r):=
 lpT (Zdh t0 t1 t2 t3 a b d s3 x4) fun s5 _ ih=>yB (yG fun x6 _=>
  yB (Zg (ih _))
  (yC Zgg fun x7 _=>
  yB (Zm rfl)
  (Zg (ih _))))
  (Zm rfl)
def Zdk (t0:Bool) (t1:Bool) (t2:Bool) (t3:Bool) (a:Zk) (b:List Int) (d:(List (List Int))) (s3:Int×Int×(List Int)×(List ZD)×(List Int)) (x4:List Int) (r8:Int):((List Int)×(List ZD)×(List Int))→Ex×List V×Zd
  | r=>(.exit 4,[(.d (D.fn 53 [])),(.ptr 0 0),(.d (Za r8)),(.ptr 1 0),(.d (D.list t3 (List.map (Zct true) d))),(.d (Za (d.length:Int))),(.d (Za s3.2.1))],[(.cells [(.d (zL t0 a.work)),(.d (D.list t1 (List.map Zs a.edges)))]),(.cells [(.d (zL t2 b)),(.sl 2 1),(.sl 3 2),(.sl 4 1)]),(.arr 1 (List.map Za r.1)),(.arr 2 (List.map Zba r.2.1)),(.arr 1 (List.map Za r.2.2))])
theorem Zfn {t0 t1:Bool}{t2 t3:Bool}{a:Zk}{b:List Int}{d:(List (List Int))}{s3:Int×Int×(List Int)×(List ZD)×(List Int)}{x4:List Int}{r8:Int}:∀(s10:Int×(List Int)×(List ZD)×(List Int)) (r:((List Int)×(List ZD)×(List Int))),lp (Zdv b s3 x4) s10=some r→lpW ctx 0 [4,5,13,15,16,47,48,49,77,78,79] [4,5,13,15,47,48,49] ZsP [(.d (D.fn 53 [])),(.ptr 0 0),(.d (Za r8)),(.ptr 1 0),(.d (Za s3.2.1)),(.d (D.list t3 (List.map (Zct true) d))),(.d (Za (d.length:Int))),(.d (Za s3.2.1)),(.d (zL true x4)),(.d (Za (x4.length:Int))),(.d (Za s10.1))] [(.cells [(.d (zL t0 a.work)),(.d (D.list t1 (List.map Zs a.edges)))]),(.cells [(.d (zL t2 b)),(.sl 2 1),(.sl 3 2),(.sl 4 1)]),(.arr 1 (List.map Za s10.2.1)),(.arr 2 (List.map Zba s10.2.2.1)),(.arr 1 (List.map Za s10.2.2.2))]=some ((Zdk t0 t1 t2 t3 a b d s3 x4 r8) r):=
 lpT (Zdk t0 t1 t2 t3 a b d s3 x4 r8) fun s10 _ ih=>yB (yG fun x11 _=>
  yB (Ze _ Zgb fun x12 _=>
  Zg (ih _))
  (Zg (ih _)))
  (Zm rfl)
def Zdi (t0:Bool) (t1:Bool) (t2:Bool) (t3:Bool) (a:Zk) (b:List Int) (d:(List (List Int))):(Int×(List Int)×(List ZD)×(List Int))→Ex×List V×Zd
  | r=>(.exit 0,[(.d (Za r.1)),(.ptr 0 0)],[(.cells [(.d (zL t2 b)),(.sl 1 1),(.sl 2 2),(.sl 3 1)]),(.arr 1 (List.map Za r.2.1)),(.arr 2 (List.map Zba r.2.2.1)),(.arr 1 (List.map Za r.2.2.2))])
theorem ZfA {t0 t1:Bool}{t2 t3:Bool}{a:Zk}{b:List Int}{d:(List (List Int))}:∀(s3:Int×Int×(List Int)×(List ZD)×(List Int)) (r:(Int×(List Int)×(List ZD)×(List Int))),lp (Zcl a b d) s3=some r→lpW ctx 0 [4,5,13,15,47,48,49] [13,15] Zs4 [(.d (D.fn 53 [])),(.ptr 0 0),(.d (Za s3.1)),(.ptr 1 0),(.d (D.list t3 (List.map (Zct true) d))),(.d (Za (d.length:Int))),(.d (Za s3.2.1))] [(.cells [(.d (zL t0 a.work)),(.d (D.list t1 (List.map Zs a.edges)))]),(.cells [(.d (zL t2 b)),(.sl 2 1),(.sl 3 2),(.sl 4 1)]),(.arr 1 (List.map Za s3.2.2.1)),(.arr 2 (List.map Zba s3.2.2.2.1)),(.arr 1 (List.map Za s3.2.2.2.2))]=some ((Zdi t0 t1 t2 t3 a b d) r):=
 lpT (Zdi t0 t1 t2 t3 a b d) fun s3 _ ih=>yB (yG fun x4 _=>
  Zf (Zr _ _) (by
 conv=>rhs;whnf
 refine Ze _ (Zfo _) fun r8 _=>?_
 rcases r8 with r8 | r8
 exact Zm rfl
 exact Ze _ Zm3 fun x9 _=>
  Zf (Zr _ _) (Ze _ (Zfn _) fun r13 _=>
  Zg (ih _))))
  (Zm rfl)
theorem ZdR {t0 t1:Bool}{t2 t3:Bool}{a:Zk}{b:List Int}{c:Int}{d:(List (List Int))}:∀r,(Zec a b c d)=some r→evW ctx 52 [(.d (D.agg [(zL t0 a.work),(D.list t1 (List.map Zs a.edges))])),(.d (zL t2 b)),(.d (Za c)),(.d (D.list t3 (List.map (Zct true) d))),(.d (D.fn 53 []))] []=some ((ZgK t0 t1 t2 t3 a b c d) r):=
 evS ZyZ rfl rfl <| yC Zh7 fun x0 _=>
  yB (yBr (Zf (Zr _ _) (yBr (yC Zah fun x1 _=>
  yBr (Ze _ Zif fun x2 _=>
  Zf (Zr _ _) (Ze _ (ZfA _) fun r14 _=>
  yR))))))
  (yBr yR)
def Zne (r:Int):D:=(Za r)
theorem ZhH {t0 t1:Bool}{t2 t3:Bool}{a:Zk}{b:List Int}{c:Int}{d:(List (List Int))}:∀r,(ZcL a b c d)=some r→evD ctx 28 [(.d (D.agg [(zL t0 a.work),(D.list t1 (List.map Zs a.edges))])),(.d (zL t2 b)),(.d (Za c)),(.d (D.list t3 (List.map (Zct true) d)))]=some (Zne r):=
 evT ZzK rfl rfl <| (by
 conv=>rhs;whnf
 refine Ze _ ZdR fun x0 _=>?_
 rcases x0 with x0 | x0
 exact yR
 exact yR)
def Zq6 (t0:Bool) (t1:Bool) (t2:Bool) (a:Zk) (b:List Int) (c:Int):(Int⊕(List Int))→V×Zd
  | (.inl r)=>((.tup [(.agg [(.nilsl 1),(.nilsl 1)]),(.d (Za r))]),[])
  | (.inr r)=>((.tup [(.agg [(.sl 0 1),(.sl 1 1)]),(.d (Za 0))]),[(.arr 1 (List.map Za r)),(.arr 1 (List.map Za b))])
def ZiW (b:List Int) (c:Int):(List Int)→Ex×List V×Zd
  | r=>(.exit 0,[(.ptr 0 0),(.ptr 1 0)],[(.cells [(.sl 2 1),(.sl 3 1)]),(.cells [(.sl 4 1),(.sl 5 1)]),(.arr 1 []),(.arr 1 []),(.arr 1 (List.map Za r)),(.arr 1 (List.map Za b))])
theorem Zme {b:List Int}{c:Int}:∀(s2:Int×(List Int)) (r:List Int),lp (ZdC c) s2=some r→lpW ctx 0 [6,9,21,22] [6,9] Zua [(.ptr 0 0),(.ptr 1 0),(.d (Za c)),(.d (Za s2.1))] [(.cells [(.sl 2 1),(.sl 3 1)]),(.cells [(.sl 4 1),(.sl 5 1)]),(.arr 1 []),(.arr 1 []),(.arr 1 (List.map Za s2.2)),(.arr 1 (List.map Za b))]=some ((ZiW b c) r):=
 lpT (ZiW b c) fun s2 _ ih=>yB (yT (Za6 (Ze4 Za s2.2 1) (Zf (ZeZ Za s2.2 [(-1)]) (Zg (ih _)))
  Z8))
  (Zm rfl)
theorem Zkf {t0 t1 t2:Bool}{a:Zk}{b:List Int}{c:Int}:∀r,(Zfz a b c)=some r→evW ctx 167 [(.d (D.agg [(zL t0 a.work),(D.list t1 (List.map Zs a.edges))])),(.d (zL t2 b)),(.d (Za c))] []=some ((Zq6 t0 t1 t2 a b c) r):=
 evS ZvL rfl rfl <| yC ZhH fun x0 _=>
  yBr (Ze _ Zp fun x1 _=>
  Ze _ (Zme _) fun r3 _=>
  yR)
def Zpu (r:(Zb×Int)):D:=(D.tup [(D.agg [(zL true r.1.ring),(Za r.1.top),(Za r.1.bottom)]),(Za r.2)])
theorem Zo8 {a:Int}:∀r,(Zhm a)=some r→evD ctx 168 [(.d (Za a))]=some (Zpu r):=
 evT ZxC rfl rfl <| (by
 conv=>rhs;whnf
 refine Ze _ Zlq fun x0 _=>?_
 rcases x0 with x0 | x0
 exact yF yR
 exact yT (yBr (yBm (Zf (ZiA Za (0:Int) a) yR))))
def ZpE (t0:Bool) (t1:Bool) (t2:Bool) (a:Zk) (b:List Int) (c:Int):(Int⊕((List Int)×(List Zb)))→V×Zd
  | (.inl r)=>((.tup [(.agg [(.nilsl 1),(.nilsl 1),(.nilsl 3),(.nilsl 6),(.nilsl 1)]),(.d (Za r))]),[])
  | (.inr r)=>((.tup [(.agg [(.sl 0 1),(.sl 1 1),(.sl 2 3),(.sl 3 6),(.sl 4 1)]),(.d (Za 0))]),[(.arr 1 (List.map Za r.1)),(.arr 1 (List.map Za b)),(.arr 3 (List.map Zy r.2)),(.arr 6 (List.map ZA (List.replicate c.toNat ((Zi.mk false 0 0 0 0 0):Zi)))),(.arr 1 (List.map Za (List.replicate c.toNat (0:Int))))])
def Zh5 (t0:Bool) (t1:Bool) (a:Zk) (b:List Int) (c:Int) (x0:List Int):(List Zb)→Ex×List V×Zd
  | r=>(.exit 0,[(.d (Za c)),(.ptr 0 0),(.ptr 1 0),(.ptr 2 0),(.ptr 3 0)],[(.cells [(.d (zL t0 a.work)),(.d (D.list t1 (List.map Zs a.edges)))]),(.cells [(.sl 4 1),(.sl 5 1),(.sl 6 3),(.sl 7 6),(.sl 8 1)]),(.cells [(.sl 9 1),(.sl 10 1)]),(.cells [(.sl 9 1),(.sl 10 1),(.sl 11 3),(.sl 12 6),(.sl 13 1),(.d (zL t0 a.work)),(.d (D.list t1 (List.map Zs a.edges))),(.d (Za 0))]),(.arr 1 []),(.arr 1 []),(.arr 3 []),(.arr 6 []),(.arr 1 []),(.arr 1 (List.map Za x0)),(.arr 1 (List.map Za b)),(.arr 3 (List.map Zy r)),(.arr 6 (List.map ZA (List.replicate c.toNat ((Zi.mk false 0 0 0 0 0):Zi)))),(.arr 1 (List.map Za (List.replicate c.toNat (0:Int))))])
theorem Zk8 {t0 t1:Bool}{a:Zk}{b:List Int}{c:Int}{x0:List Int}:∀(s1:Int×(List Zb)) (r:List Zb),lp (Zc4 c) s1=some r→lpW ctx 0 [2,3,6,8,10,35,36] [2,3,6,8,10] Zun [(.d (Za c)),(.ptr 0 0),(.ptr 1 0),(.ptr 2 0),(.ptr 3 0),(.d (Za c)),(.d (Za s1.1))] [(.cells [(.d (zL t0 a.work)),(.d (D.list t1 (List.map Zs a.edges)))]),(.cells [(.sl 4 1),(.sl 5 1),(.sl 6 3),(.sl 7 6),(.sl 8 1)]),(.cells [(.sl 9 1),(.sl 10 1)]),(.cells [(.sl 9 1),(.sl 10 1),(.sl 11 3),(.sl 12 6),(.sl 13 1),(.d (zL t0 a.work)),(.d (D.list t1 (List.map Zs a.edges))),(.d (Za 0))]),(.arr 1 []),(.arr 1 []),(.arr 3 []),(.arr 6 []),(.arr 1 []),(.arr 1 (List.map Za x0)),(.arr 1 (List.map Za b)),(.arr 3 (List.map Zy s1.2)),(.arr 6 (List.map ZA (List.replicate c.toNat ((Zi.mk false 0 0 0 0 0):Zi)))),(.arr 1 (List.map Za (List.replicate c.toNat (0:Int))))]=some ((Zh5 t0 t1 a b c x0) r):=
 lpT (Zh5 t0 t1 a b c x0) fun s1 _ ih=>yB (yC Zo8 fun x2 _=>
  yT (Za6 (Ze4 Zy s1.2 1) (Zf (ZeZ Zy s1.2 [x2.1]) (Zg (ih _)))
  Z8))
  (Zm rfl)
def Zh1 (t0:Bool) (t1:Bool) (a:Zk) (b:List Int) (c:Int) (x0:List Int) (x4:List Int):(List Zb)→Ex×List V×Zd
  | r=>(.exit 2,[(.ptr 0 0),(.ptr 1 0)],[(.cells [(.sl 2 1),(.sl 3 1),(.sl 4 3),(.sl 5 6),(.sl 6 1)]),(.cells [(.sl 7 1),(.sl 8 1),(.sl 9 3),(.sl 10 6),(.sl 11 1),(.d (zL t0 a.work)),(.d (D.list t1 (List.map Zs a.edges))),(.d (Za 0))]),(.arr 1 []),(.arr 1 []),(.arr 3 []),(.arr 6 []),(.arr 1 []),(.arr 1 (List.map Za x0)),(.arr 1 (List.map Za b)),(.arr 3 (List.map Zy r)),(.arr 6 (List.map ZA (List.replicate c.toNat ((Zi.mk false 0 0 0 0 0):Zi)))),(.arr 1 (List.map Za (List.replicate c.toNat (0:Int))))])
theorem Zk5 {t0 t1:Bool}{a:Zk}{b:List Int}{c:Int}{x0:List Int}{x4:List Int}:∀(s5:Int×(List Zb)) (r:List Zb),lp (Zc0 c x4) s5=some r→lpW ctx 0 [2,6,10,57,58,59] [6,10] Zt4 [(.d (Za c)),(.ptr 0 0),(.ptr 1 0),(.d (zL true x4)),(.d (Za (x4.length:Int))),(.d (Za s5.1))] [(.cells [(.sl 2 1),(.sl 3 1),(.sl 4 3),(.sl 5 6),(.sl 6 1)]),(.cells [(.sl 7 1),(.sl 8 1),(.sl 9 3),(.sl 10 6),(.sl 11 1),(.d (zL t0 a.work)),(.d (D.list t1 (List.map Zs a.edges))),(.d (Za 0))]),(.arr 1 []),(.arr 1 []),(.arr 3 []),(.arr 6 []),(.arr 1 []),(.arr 1 (List.map Za x0)),(.arr 1 (List.map Za b)),(.arr 3 (List.map Zy s5.2)),(.arr 6 (List.map ZA (List.replicate c.toNat ((Zi.mk false 0 0 0 0 0):Zi)))),(.arr 1 (List.map Za (List.replicate c.toNat (0:Int))))]=some ((Zh1 t0 t1 a b c x0 x4) r):=
 lpT (Zh1 t0 t1 a b c x0 x4) fun s5 _ ih=>yB (yG fun x6 _=>
  yBn (by
 conv=>rhs;whnf
 refine Ze _ ZfR fun x7 _=>?_
 rcases x7 with x7 | x7
 exact Zg (ih _)
 exact Zg (ih _)))
  (Zm rfl)
theorem ZnP {t0 t1 t2:Bool}{a:Zk}{b:List Int}{c:Int}:∀r,(Zhj a b c)=some r→evW ctx 163 [(.d (D.agg [(zL t0 a.work),(D.list t1 (List.map Zs a.edges))])),(.d (zL t2 b)),(.d (Za c))] []=some ((ZpE t0 t1 t2 a b c) r):=
 evS ZxN rfl rfl <| (by
 conv=>rhs;whnf
 refine Ze _ Zkf fun x0 _=>?_
 rcases x0 with x0 | x0
 exact yBm yR
 exact yF (yBm (Zf (ZiA ZA ((Zi.mk false 0 0 0 0 0):Zi) c) (yBm (Zf (ZiA Za (0:Int) c) (Ze _ (Zk8 _) fun r3 _=>
  yC Zf6 fun x4 _=>
  Zf (Zr _ _) (Ze _ (Zk5 _) fun r8 _=>
  yR)))))))
def Zj8 (r:(ZS×Int)):D:=(D.tup [(D.agg [(zL true r.1.crew.on),(zL true r.1.crew.left),(D.list true (List.map Zy r.1.deques)),(D.list true (List.map ZA r.1.takers)),(zL true r.1.from_)]),(Za r.2)])
theorem ZjJ {t0 t1 t2:Bool}{a:Zjc}{b:Zk}{c:List Int}{d:Int}:∀r,(Ze9 a b c d)=some r→evD ctx 159 [(.d (D.agg [])),(.d (D.agg [(zL t0 b.work),(D.list t1 (List.map Zs b.edges))])),(.d (zL t2 c)),(.d (Za d))]=some (Zj8 r):=
 evT ZxZ rfl rfl <| (by
 conv=>rhs;whnf
 refine Ze _ ZnP fun x0 _=>?_
 rcases x0 with x0 | x0
 exact yR
 exact yR)
def ZkD (r:(ZS×Int)):D:=(D.tup [(D.agg [(zL true r.1.crew.on),(zL true r.1.crew.left),(D.list true (List.map Zy r.1.deques)),(D.list true (List.map ZA r.1.takers)),(zL true r.1.from_)]),(Za r.2)])
theorem Zj2 {t0 t1 t2:Bool}{a:ZoP}{b:Zk}{c:List Int}{d:Int}:∀r,(Zfp a b c d)=some r→evD ctx 215 [(.d (D.agg [])),(.d (D.agg [(zL t0 b.work),(D.list t1 (List.map Zs b.edges))])),(.d (zL t2 c)),(.d (Za d))]=some (ZkD r):=
 evT ZwD rfl rfl <| (by
 conv=>rhs;whnf
 refine Ze _ Zkf fun x0 _=>?_
 rcases x0 with x0 | x0
 exact yR
 exact yR)
def Zq8 (r:(ZbS×Int)):D:=(D.tup [(D.agg [(D.bool r.1.stealing),(zL true r.1.demand),(Za r.1.state),(zL true r.1.gang.crew.on),(zL true r.1.gang.crew.left),(D.list true (List.map Zy r.1.gang.deques)),(D.list true (List.map ZA r.1.gang.takers)),(zL true r.1.gang.from_)]),(Za r.2)])
theorem Zpv {t0 t1 t2:Bool}{a:Zk}{b:List Int}{c:Int}{d:Bool}:∀r,(ZeA a b c d)=some r→evD ctx 22 [(.d (D.agg [(zL t0 a.work),(D.list t1 (List.map Zs a.edges))])),(.d (zL t2 b)),(.d (Za c)),(.d (D.bool d))]=some (Zq8 r):=
 evT Zz2 rfl rfl <| yC Zc6 fun x0 _=>
  yBr (yC Zi1 fun x1 _=>
  yB (yBr (yBr (by
 conv=>rhs;whnf
 refine yC ZiH fun x2 _=>?_
 rcases x2 with x2 | x2
 exact yC ZgR fun x3 _=>
  yC ZjJ fun x4 _=>
  yBr (Ze _ Zp fun x5 _=>
  yC Zck fun x6 _=>
  yR)
 exact yC ZgR fun x7 _=>
  yC Zj2 fun x8 _=>
  yBr (Ze _ Zp fun x9 _=>
  yC Zck fun x10 _=>
  yR))))
  yR)
def Zqz (r:((List (List Int))×Int×Int)):D:=(D.tup [(D.list true (List.map (Zct true) r.1)),(Za r.2.1),(Za r.2.2)])
def ZiX (t0:Bool) (t1:Bool) (t3:Bool) (a:Zk) (e:List Int) (x0:(ZbS×Int)):Int→Ex×List V×Zd
  | r=>(.exit 0,[(.d (zL t3 e)),(.ptr 0 0),(.ptr 1 0),(.d (Za r))],[(.cells [(.d (zL t0 a.work)),(.d (D.list t1 (List.map Zs a.edges)))]),(.cells [(.d (D.bool x0.1.stealing)),(.d (zL true x0.1.demand)),(.d (Za x0.1.state)),(.d (zL true x0.1.gang.crew.on)),(.d (zL true x0.1.gang.crew.left)),(.d (D.list true (List.map Zy x0.1.gang.deques))),(.d (D.list true (List.map ZA x0.1.gang.takers))),(.d (zL true x0.1.gang.from_))])])
theorem Zmf {t0 t1 t3:Bool}{a:Zk}{e:List Int}{x0:(ZbS×Int)}:∀(s1:Int×Int) (r:Int),lp (Zes x0) s1=some r→lpW ctx 0 [4,5,13,15,36,37,38] [4,5,13,15] Zxq [(.d (zL t3 e)),(.ptr 0 0),(.ptr 1 0),(.d (Za s1.1)),(.d (zL true x0.1.gang.crew.left)),(.d (Za (x0.1.gang.crew.left.length:Int))),(.d (Za s1.2))] [(.cells [(.d (zL t0 a.work)),(.d (D.list t1 (List.map Zs a.edges)))]),(.cells [(.d (D.bool x0.1.stealing)),(.d (zL true x0.1.demand)),(.d (Za x0.1.state)),(.d (zL true x0.1.gang.crew.on)),(.d (zL true x0.1.gang.crew.left)),(.d (D.list true (List.map Zy x0.1.gang.deques))),(.d (D.list true (List.map ZA x0.1.gang.takers))),(.d (zL true x0.1.gang.from_))])]=some ((ZiX t0 t1 t3 a e x0) r):=
 lpT (ZiX t0 t1 t3 a e x0) fun s1 _ ih=>yB (yG fun x2 _=>
  Zg (ih _))
  (Zm rfl)
def Zi2 (t0:Bool) (t1:Bool) (t3:Bool) (a:Zk):((Int×Bool×(List Int)×Int×(List Int)×(List Int)×(List Zb)×(List Zi)×(List Int)×(List (List Int)))⊕(Bool×(List Int)×Int×(List Int)×(List Int)×(List Zb)×(List Zi)×(List Int)×(List (List Int))))→Ex×List V×Zd
  | (.inl r)=>(.ret,[(.nilsl 1),(.d (Za 0)),(.d (Za r.1)),(.ptr 0 0),(.sl 1 1)],[(.cells [(.d (D.bool r.2.1)),(.d (zL true r.2.2.1)),(.d (Za r.2.2.2.1)),(.d (zL true r.2.2.2.2.1)),(.d (zL true r.2.2.2.2.2.1)),(.d (D.list true (List.map Zy r.2.2.2.2.2.2.1))),(.d (D.list true (List.map ZA r.2.2.2.2.2.2.2.1))),(.d (zL true r.2.2.2.2.2.2.2.2.1))]),(.arr 1 (List.map (Zct true) r.2.2.2.2.2.2.2.2.2))])
  | (.inr r)=>(.exit 2,[.bad,.bad,.bad,(.ptr 0 0),(.sl 1 1)],[(.cells [(.d (D.bool r.1)),(.d (zL true r.2.1)),(.d (Za r.2.2.1)),(.d (zL true r.2.2.2.1)),(.d (zL true r.2.2.2.2.1)),(.d (D.list true (List.map Zy r.2.2.2.2.2.1))),(.d (D.list true (List.map ZA r.2.2.2.2.2.2.1))),(.d (zL true r.2.2.2.2.2.2.2.1))]),(.arr 1 (List.map (Zct true) r.2.2.2.2.2.2.2.2))])
theorem Zmv {t0 t1 t3:Bool}{a:Zk}:∀(s4:(List Int)×Bool×(List Int)×Int×(List Int)×(List Int)×(List Zb)×(List Zi)×(List Int)×(List (List Int))) (r:((Int×Bool×(List Int)×Int×(List Int)×(List Int)×(List Zb)×(List Zi)×(List Int)×(List (List Int)))⊕(Bool×(List Int)×Int×(List Int)×(List Int)×(List Zb)×(List Zi)×(List Int)×(List (List Int))))),lp (ZdH a) s4=some r→lpW ctx 0 [4,5,13,18] [10,11,12,13,18] Zxe [(.d (zL t3 s4.1)),(.ptr 0 0),(.ptr 1 0),(.sl 2 1)] [(.cells [(.d (zL t0 a.work)),(.d (D.list t1 (List.map Zs a.edges)))]),(.cells [(.d (D.bool s4.2.1)),(.d (zL true s4.2.2.1)),(.d (Za s4.2.2.2.1)),(.d (zL true s4.2.2.2.2.1)),(.d (zL true s4.2.2.2.2.2.1)),(.d (D.list true (List.map Zy s4.2.2.2.2.2.2.1))),(.d (D.list true (List.map ZA s4.2.2.2.2.2.2.2.1))),(.d (zL true s4.2.2.2.2.2.2.2.2.1))]),(.arr 1 (List.map (Zct true) s4.2.2.2.2.2.2.2.2.2))]=some ((Zi2 t0 t1 t3 a) r):=
 lpT (Zi2 t0 t1 t3 a) fun s4 _ ih=>yB (yC ZoZ fun x5 _=>
  yB (Zm rfl)
  (Zf (Zr _ _) (yBm (Za6 (Zrs Za s4.1 (bif decide ((s4.1.length:Int)<x5.2.1.steps) then (s4.1.length:Int) else x5.2.1.steps).toNat) (Zlx (Zv4 Za (fun _=>⟨rfl,rfl⟩) s4.1 _) (Zf (ZoJ Za s4.1 (bif decide ((s4.1.length:Int)<x5.2.1.steps) then (s4.1.length:Int) else x5.2.1.steps).toNat) (yT (Za6 (Ze4 (Zct true) s4.2.2.2.2.2.2.2.2.2 1) (Zf (ZeZ (Zct true) s4.2.2.2.2.2.2.2.2.2 [x5.2.1.on]) (Zg (ih _)))
  Z8))))
  Z8))))
  (Zm rfl)
theorem Zpz {t0 t1:Bool}{t2 t3:Bool}{a:Zk}{b:List Int}{c:Int}{d:Bool}{e:List Int}:∀r,(Zfx a b c d e)=some r→evD ctx 20 [(.d (D.agg [(zL t0 a.work),(D.list t1 (List.map Zs a.edges))])),(.d (zL t2 b)),(.d (Za c)),(.d (D.bool d)),(.d (zL t3 e))]=some (Zqz r):=
 evT ZzT rfl rfl <| yC Zpv fun x0 _=>
  yBr (Zf (Zr _ _) (Ze _ (Zmf _) fun r3 _=>
  yBr (by
 conv=>rhs;whnf
 refine Ze _ (Zmv _) fun r6 _=>?_
 rcases r6 with r6 | r6
 exact yR
 exact yR)))
def Zpi (r:List Int):D:=(zL true r)
theorem ZoD {t0 t1 t2:Bool}{a:Zk}{b:List Int}:∀r,(Zhb a b)=some r→evD ctx 25 [(.d (D.agg [(zL t0 a.work),(D.list t1 (List.map Zs a.edges))])),(.d (zL t2 b))]=some (Zpi r):=
 evT ZAo rfl rfl <| yC Zc6 fun x0 _=>
  yBr (yC Zi1 fun x1 _=>
  yB (yC ZgR fun x2 _=>
  yR)
  yR)
def Zot (r:List Int):D:=(zL true r)
theorem ZmZ {t0 t1:Bool}{t2 t3:Bool}{a:Zk}{b:List Int}{c:Int}{d:(List (List Int))}:∀r,(Zgr a b c d)=some r→evD ctx 27 [(.d (D.agg [(zL t0 a.work),(D.list t1 (List.map Zs a.edges))])),(.d (zL t2 b)),(.d (Za c)),(.d (D.list t3 (List.map (Zct true) d)))]=some (Zot r):=
 evT Zzp rfl rfl <| (by
 conv=>rhs;whnf
 refine Ze _ ZdR fun x0 _=>?_
 rcases x0 with x0 | x0
 exact yBm yR
 exact yBr yR)
def Zi6 (t0:Bool) (t1:Bool) (t2:Bool) (t3:Bool) (t4:Bool) (b:Int) (c:List Int) (m0_0:List Int) (m1_0:List Int) (m2_0:List Int) (m2_1:List Zt) (m3_0:Bool) (m4_0:List Int) (m5_0:List ZD) (m6_0:List Int):Bool→V×Zd
  | r=>((.d (D.tup [])),[(.cells [(.d (zL t1 m0_0)),(.sl 4 1),(.sl 5 2),(.sl 6 1)]),(.cells [(.d (zL t2 m1_0))]),(.cells [(.d (zL t3 m2_0)),(.d (D.list t4 (List.map Zs m2_1)))]),(.cells [(.d (D.bool r))]),(.arr 1 (List.map Za m4_0)),(.arr 2 (List.map Zba m5_0)),(.arr 1 (List.map Za m6_0))])
def Zep (t0:Bool) (t1:Bool) (t2:Bool) (t3:Bool) (t4:Bool) (b:Int) (c:List Int) (m0_0:List Int) (m1_0:List Int) (m2_0:List Int) (m2_1:List Zt) (m4_0:List Int) (m5_0:List ZD) (m6_0:List Int):Bool→Ex×List V×Zd
  | r=>(.exit 0,[],[(.cells [(.d (zL t1 m0_0)),(.sl 4 1),(.sl 5 2),(.sl 6 1)]),(.cells [(.d (zL t2 m1_0))]),(.cells [(.d (zL t3 m2_0)),(.d (D.list t4 (List.map Zs m2_1)))]),(.cells [(.d (D.bool r))]),(.arr 1 (List.map Za m4_0)),(.arr 2 (List.map Zba m5_0)),(.arr 1 (List.map Za m6_0))])
theorem Zg4 {t0 t1:Bool}{t2 t3 t4:Bool}{b:Int}{c:List Int}{m0_0:List Int}{m1_0:List Int}{m2_0:List Int}{m2_1:List Zt}{m4_0:List Int}{m5_0:List ZD}{m6_0:List Int}:∀(s0:Int×Bool) (r:Bool),lp (Zan b c m1_0 m2_0 m2_1 m4_0 m6_0) s0=some r→lpW ctx 7 [0,1,2,4,5,11,12] [] ZvJ [(.ptr 0 0),(.d (Za b)),(.d (zL t0 c)),(.ptr 2 0),(.ptr 3 0),(.d (Za (m1_0.length:Int))),(.d (Za s0.1))] [(.cells [(.d (zL t1 m0_0)),(.sl 4 1),(.sl 5 2),(.sl 6 1)]),(.cells [(.d (zL t2 m1_0))]),(.cells [(.d (zL t3 m2_0)),(.d (D.list t4 (List.map Zs m2_1)))]),(.cells [(.d (D.bool s0.2))]),(.arr 1 (List.map Za m4_0)),(.arr 2 (List.map Zba m5_0)),(.arr 1 (List.map Za m6_0))]=some ((Zep t0 t1 t2 t3 t4 b c m0_0 m1_0 m2_0 m2_1 m4_0 m5_0 m6_0) r):=
 lpT (Zep t0 t1 t2 t3 t4 b c m0_0 m1_0 m2_0 m2_1 m4_0 m5_0 m6_0) fun s0 _ ih=>yB (yG fun x1 hx1=>
  Zo (Zad rfl hx1) (yB (yC ZL fun x2 _=>
  yB (yC ZL fun x3 _=>
  yB (Zg (ih _))
  (yC Zd3 fun x4 _=>
  yB (Zg (ih _))
  (Zg (ih _))))
  (Zg (ih _)))
  (Zg (ih _))))
  (Zm rfl)
theorem ZiM {t0 t1:Bool}{t2 t3 t4:Bool}{b:Int}{c:List Int}{m0_0:List Int}{m1_0:List Int}{m2_0:List Int}{m2_1:List Zt}{m3_0:Bool}{m4_0:List Int}{m5_0:List ZD}{m6_0:List Int}:∀r,(ZcU b c m1_0 m2_0 m2_1 m3_0 m4_0 m6_0)=some r→evW ctx 54 [(.ptr 0 0),(.d (Za b)),(.d (zL t0 c)),(.ptr 1 0),(.ptr 2 0),(.ptr 3 0)] [(.cells [(.d (zL t1 m0_0)),(.sl 4 1),(.sl 5 2),(.sl 6 1)]),(.cells [(.d (zL t2 m1_0))]),(.cells [(.d (zL t3 m2_0)),(.d (D.list t4 (List.map Zs m2_1)))]),(.cells [(.d (D.bool m3_0))]),(.arr 1 (List.map Za m4_0)),(.arr 2 (List.map Zba m5_0)),(.arr 1 (List.map Za m6_0))]=some ((Zi6 t0 t1 t2 t3 t4 b c m0_0 m1_0 m2_0 m2_1 m3_0 m4_0 m5_0 m6_0) r):=
 evS ZzR rfl rfl <| Zf (Zr _ _) (Ze _ (Zg4 _) fun r5 _=>
  yR)
def Zfy (t0:Bool) (t1:Bool) (t2:Bool) (t3:Bool) (t4:Bool) (t5:Bool) (t6:Bool) (a:Zk) (b:List Int) (c:Int) (d:(List (List Int))) (m0_0:List Int) (m1_0:List Int) (m1_1:List Zt):(Int⊕(Int×Bool×(List Int)×(List ZD)×(List Int)))→V×Zd
  | (.inl r)=>((.d (D.tup [(D.nilp),(Za r)])),[(.cells [(.d (zL t4 m0_0))]),(.cells [(.d (zL t5 m1_0)),(.d (D.list t6 (List.map Zs m1_1)))]),(.cells [(.d (D.bool true))])])
  | (.inr r)=>((.tup [(.ptr 3 0),(.d (Za r.1))]),[(.cells [(.d (zL t4 m0_0))]),(.cells [(.d (zL t5 m1_0)),(.d (D.list t6 (List.map Zs m1_1)))]),(.cells [(.d (D.bool r.2.1))]),(.cells [(.d (zL t2 b)),(.sl 4 1),(.sl 5 2),(.sl 6 1)]),(.arr 1 (List.map Za r.2.2.1)),(.arr 2 (List.map Zba r.2.2.2.1)),(.arr 1 (List.map Za r.2.2.2.2))])
def Zca (t0:Bool) (t1:Bool) (t2:Bool) (t3:Bool) (t4:Bool) (t5:Bool) (t6:Bool) (a:Zk) (b:List Int) (d:(List (List Int))) (m0_0:List Int) (m1_0:List Int) (m1_1:List Zt) (s3:Int×Int×Bool×(List Int)×(List ZD)×(List Int)) (x4:List Int):(Int⊕Int)→Ex×List V×Zd
  | (.inl r)=>(.exit 0,[(.fn 54 [(.ptr 0 0),(.ptr 1 0),(.ptr 2 0)]),(.ptr 3 0),(.d (Za r)),(.ptr 4 0),(.d (Za s3.2.1)),(.d (zL true x4)),(.d (D.list t3 (List.map (Zct true) d))),(.d (Za (d.length:Int))),(.d (Za s3.2.1))],[(.cells [(.d (zL t4 m0_0))]),(.cells [(.d (zL t5 m1_0)),(.d (D.list t6 (List.map Zs m1_1)))]),(.cells [(.d (D.bool s3.2.2.1))]),(.cells [(.d (zL t0 a.work)),(.d (D.list t1 (List.map Zs a.edges)))]),(.cells [(.d (zL t2 b)),(.sl 5 1),(.sl 6 2),(.sl 7 1)]),(.arr 1 (List.map Za s3.2.2.2.1)),(.arr 2 (List.map Zba s3.2.2.2.2.1)),(.arr 1 (List.map Za s3.2.2.2.2.2))])
  | (.inr r)=>(.exit 2,[(.fn 54 [(.ptr 0 0),(.ptr 1 0),(.ptr 2 0)]),(.ptr 3 0),(.d (Za r)),(.ptr 4 0),(.d (Za s3.2.1)),(.d (zL true x4)),(.d (D.list t3 (List.map (Zct true) d))),(.d (Za (d.length:Int))),(.d (Za s3.2.1))],[(.cells [(.d (zL t4 m0_0))]),(.cells [(.d (zL t5 m1_0)),(.d (D.list t6 (List.map Zs m1_1)))]),(.cells [(.d (D.bool s3.2.2.1))]),(.cells [(.d (zL t0 a.work)),(.d (D.list t1 (List.map Zs a.edges)))]),(.cells [(.d (zL t2 b)),(.sl 5 1),(.sl 6 2),(.sl 7 1)]),(.arr 1 (List.map Za s3.2.2.2.1)),(.arr 2 (List.map Zba s3.2.2.2.2.1)),(.arr 1 (List.map Za s3.2.2.2.2.2))])
theorem ZeF {t0 t1:Bool}{t2 t3:Bool}{t4 t5 t6:Bool}{a:Zk}{b:List Int}{d:(List (List Int))}{m0_0:List Int}{m1_0:List Int}{m1_1:List Zt}{s3:Int×Int×Bool×(List Int)×(List ZD)×(List Int)}{x4:List Int}:∀(s5:Int×Int) (r:(Int⊕Int)),lp (ZbV a b s3 x4) s5=some r→lpW ctx 3 [4,5,13,15,16,17,47,48,49,54,55,56] [4,5,13,15,16,17,47,48,49] Zs3 [(.fn 54 [(.ptr 0 0),(.ptr 1 0),(.ptr 2 0)]),(.ptr 3 0),(.d (Za s5.1)),(.ptr 4 0),(.d (Za s3.2.1)),(.d (zL true x4)),(.d (D.list t3 (List.map (Zct true) d))),(.d (Za (d.length:Int))),(.d (Za s3.2.1)),(.d (zL true x4)),(.d (Za (x4.length:Int))),(.d (Za s5.2))] [(.cells [(.d (zL t4 m0_0))]),(.cells [(.d (zL t5 m1_0)),(.d (D.list t6 (List.map Zs m1_1)))]),(.cells [(.d (D.bool s3.2.2.1))]),(.cells [(.d (zL t0 a.work)),(.d (D.list t1 (List.map Zs a.edges)))]),(.cells [(.d (zL t2 b)),(.sl 5 1),(.sl 6 2),(.sl 7 1)]),(.arr 1 (List.map Za s3.2.2.2.1)),(.arr 2 (List.map Zba s3.2.2.2.2.1)),(.arr 1 (List.map Za s3.2.2.2.2.2))]=some ((Zca t0 t1 t2 t3 t4 t5 t6 a b d m0_0 m1_0 m1_1 s3 x4) r):=
 lpT (Zca t0 t1 t2 t3 t4 t5 t6 a b d m0_0 m1_0 m1_1 s3 x4) fun s5 _ ih=>yB (yG fun x6 _=>
  yB (Zg (ih _))
  (yC Zgg fun x7 _=>
  yB (Zm rfl)
  (Zg (ih _))))
  (Zm rfl)
def Zb8 (t0:Bool) (t1:Bool) (t2:Bool) (t3:Bool) (t4:Bool) (t5:Bool) (t6:Bool) (a:Zk) (b:List Int) (d:(List (List Int))) (m0_0:List Int) (m1_0:List Int) (m1_1:List Zt) (s3:Int×Int×Bool×(List Int)×(List ZD)×(List Int)) (x4:List Int) (r8:Int) (x9:Bool):((List Int)×(List ZD)×(List Int))→Ex×List V×Zd
  | r=>(.exit 4,[(.fn 54 [(.ptr 0 0),(.ptr 1 0),(.ptr 2 0)]),(.ptr 3 0),(.d (Za r8)),(.ptr 4 0),(.d (D.list t3 (List.map (Zct true) d))),(.d (Za (d.length:Int))),(.d (Za s3.2.1))],[(.cells [(.d (zL t4 m0_0))]),(.cells [(.d (zL t5 m1_0)),(.d (D.list t6 (List.map Zs m1_1)))]),(.cells [(.d (D.bool x9))]),(.cells [(.d (zL t0 a.work)),(.d (D.list t1 (List.map Zs a.edges)))]),(.cells [(.d (zL t2 b)),(.sl 5 1),(.sl 6 2),(.sl 7 1)]),(.arr 1 (List.map Za r.1)),(.arr 2 (List.map Zba r.2.1)),(.arr 1 (List.map Za r.2.2))])
theorem ZeC {t0 t1:Bool}{t2 t3:Bool}{t4 t5 t6:Bool}{a:Zk}{b:List Int}{d:(List (List Int))}{m0_0:List Int}{m1_0:List Int}{m1_1:List Zt}{s3:Int×Int×Bool×(List Int)×(List ZD)×(List Int)}{x4:List Int}{r8:Int}{x9:Bool}:∀(s10:Int×(List Int)×(List ZD)×(List Int)) (r:((List Int)×(List ZD)×(List Int))),lp (ZbR b s3 x4) s10=some r→lpW ctx 3 [4,5,13,15,16,47,48,49,77,78,79] [4,5,13,15,47,48,49] ZsP [(.fn 54 [(.ptr 0 0),(.ptr 1 0),(.ptr 2 0)]),(.ptr 3 0),(.d (Za r8)),(.ptr 4 0),(.d (Za s3.2.1)),(.d (D.list t3 (List.map (Zct true) d))),(.d (Za (d.length:Int))),(.d (Za s3.2.1)),(.d (zL true x4)),(.d (Za (x4.length:Int))),(.d (Za s10.1))] [(.cells [(.d (zL t4 m0_0))]),(.cells [(.d (zL t5 m1_0)),(.d (D.list t6 (List.map Zs m1_1)))]),(.cells [(.d (D.bool x9))]),(.cells [(.d (zL t0 a.work)),(.d (D.list t1 (List.map Zs a.edges)))]),(.cells [(.d (zL t2 b)),(.sl 5 1),(.sl 6 2),(.sl 7 1)]),(.arr 1 (List.map Za s10.2.1)),(.arr 2 (List.map Zba s10.2.2.1)),(.arr 1 (List.map Za s10.2.2.2))]=some ((Zb8 t0 t1 t2 t3 t4 t5 t6 a b d m0_0 m1_0 m1_1 s3 x4 r8 x9) r):=
 lpT (Zb8 t0 t1 t2 t3 t4 t5 t6 a b d m0_0 m1_0 m1_1 s3 x4 r8 x9) fun s10 _ ih=>yB (yG fun x11 _=>
  yB (Ze _ Zgb fun x12 _=>
  Zg (ih _))
  (Zg (ih _)))
  (Zm rfl)
def Zcc (t0:Bool) (t1:Bool) (t2:Bool) (t3:Bool) (t4:Bool) (t5:Bool) (t6:Bool) (a:Zk) (b:List Int) (d:(List (List Int))) (m0_0:List Int) (m1_0:List Int) (m1_1:List Zt):(Int×Bool×(List Int)×(List ZD)×(List Int))→Ex×List V×Zd
  | r=>(.exit 0,[(.d (Za r.1)),(.ptr 3 0)],[(.cells [(.d (zL t4 m0_0))]),(.cells [(.d (zL t5 m1_0)),(.d (D.list t6 (List.map Zs m1_1)))]),(.cells [(.d (D.bool r.2.1))]),(.cells [(.d (zL t2 b)),(.sl 4 1),(.sl 5 2),(.sl 6 1)]),(.arr 1 (List.map Za r.2.2.1)),(.arr 2 (List.map Zba r.2.2.2.1)),(.arr 1 (List.map Za r.2.2.2.2))])
theorem Zex {t0 t1:Bool}{t2 t3:Bool}{t4 t5 t6:Bool}{a:Zk}{b:List Int}{d:(List (List Int))}{m0_0:List Int}{m1_0:List Int}{m1_1:List Zt}:∀(s3:Int×Int×Bool×(List Int)×(List ZD)×(List Int)) (r:(Int×Bool×(List Int)×(List ZD)×(List Int))),lp (Za4 a b d m0_0 m1_0 m1_1) s3=some r→lpW ctx 3 [4,5,13,15,47,48,49] [13,15] Zs4 [(.fn 54 [(.ptr 0 0),(.ptr 1 0),(.ptr 2 0)]),(.ptr 3 0),(.d (Za s3.1)),(.ptr 4 0),(.d (D.list t3 (List.map (Zct true) d))),(.d (Za (d.length:Int))),(.d (Za s3.2.1))] [(.cells [(.d (zL t4 m0_0))]),(.cells [(.d (zL t5 m1_0)),(.d (D.list t6 (List.map Zs m1_1)))]),(.cells [(.d (D.bool s3.2.2.1))]),(.cells [(.d (zL t0 a.work)),(.d (D.list t1 (List.map Zs a.edges)))]),(.cells [(.d (zL t2 b)),(.sl 5 1),(.sl 6 2),(.sl 7 1)]),(.arr 1 (List.map Za s3.2.2.2.1)),(.arr 2 (List.map Zba s3.2.2.2.2.1)),(.arr 1 (List.map Za s3.2.2.2.2.2))]=some ((Zcc t0 t1 t2 t3 t4 t5 t6 a b d m0_0 m1_0 m1_1) r):=
 lpT (Zcc t0 t1 t2 t3 t4 t5 t6 a b d m0_0 m1_0 m1_1) fun s3 _ ih=>yB (yG fun x4 _=>
  Zf (Zr _ _) (by
 conv=>rhs;whnf
 refine Ze _ (ZeF _) fun r8 _=>?_
 rcases r8 with r8 | r8
 exact Zm rfl
 exact Ze _ ZiM fun x9 _=>
  Zf (Zr _ _) (Ze _ (ZeC _) fun r13 _=>
  Zg (ih _))))
  (Zm rfl)
theorem Zfh {t0 t1:Bool}{t2 t3:Bool}{t4 t5 t6:Bool}{a:Zk}{b:List Int}{c:Int}{d:(List (List Int))}{m0_0:List Int}{m1_0:List Int}{m1_1:List Zt}:∀r,(Zf5 a b c d m0_0 m1_0 m1_1)=some r→evW ctx 52 [(.d (D.agg [(zL t0 a.work),(D.list t1 (List.map Zs a.edges))])),(.d (zL t2 b)),(.d (Za c)),(.d (D.list t3 (List.map (Zct true) d))),(.fn 54 [(.ptr 0 0),(.ptr 1 0),(.ptr 2 0)])] [(.cells [(.d (zL t4 m0_0))]),(.cells [(.d (zL t5 m1_0)),(.d (D.list t6 (List.map Zs m1_1)))]),(.cells [(.d (D.bool true))])]=some ((Zfy t0 t1 t2 t3 t4 t5 t6 a b c d m0_0 m1_0 m1_1) r):=
 evS ZyZ rfl rfl <| yC Zh7 fun x0 _=>
  yB (yBr (Zf (Zr _ _) (yBr (yC Zah fun x1 _=>
  yBr (Ze _ Zif fun x2 _=>
  Zf (Zr _ _) (Ze _ (Zex _) fun r14 _=>
  yR))))))
  (yBr yR)
def Zmt (r:Bool):D:=(D.bool r)
theorem ZlS {t0 t1:Bool}{t2 t3:Bool}{a:Zk}{b:List Int}{c:Int}{d:(List (List Int))}:∀r,(Zfc a b c d)=some r→evD ctx 29 [(.d (D.agg [(zL t0 a.work),(D.list t1 (List.map Zs a.edges))])),(.d (zL t2 b)),(.d (Za c)),(.d (D.list t3 (List.map (Zct true) d)))]=some (Zmt r):=
 evT ZzL rfl rfl <| (by
 conv=>rhs;whnf
 refine Ze _ Zfh fun x0 _=>?_
 rcases x0 with x0 | x0
 exact yT (yBn yR)
 exact yB (yBr yR)
  yR)
def Zkb (r:Bool):D:=(D.bool r)
def ZeT (t0:Bool) (t1:Bool) (t2:Bool) (a:Zk) (b:List Int) (x6:((List (List Int))×Int×Int)) (x12:List Int):(Unit⊕(Unit⊕(Unit⊕Unit)))→Ex×List V×Zd
  | (.inl r)=>(.ret,[(.d (D.bool false)),(.d (Za x6.2.1)),(.d (D.bool true))],[])
  | (.inr (.inl r))=>(.exit 0,[.bad,(.d (Za x6.2.1)),(.d (D.bool true))],[])
  | (.inr (.inr (.inl r)))=>(.ret,[(.d (D.bool false)),(.d (Za x6.2.1)),(.d (D.bool false))],[])
  | (.inr (.inr (.inr r)))=>(.exit 0,[.bad,(.d (Za x6.2.1)),(.d (D.bool false))],[])
theorem ZhW {t0 t1 t2:Bool}{a:Zk}{b:List Int}{x6:((List (List Int))×Int×Int)}{x12:List Int}:∀(s19:Bool×Int) (r:(Unit⊕(Unit⊕(Unit⊕Unit)))),lp (Zaj a b x6 x12) s19=some r→lpW ctx 0 [1,5,11,12,15,16,17] [10,12,16] Zza [(.d (zL t2 b)),(.ptr 0 0),(.d (D.list true (List.map (Zct true) x6.1))),(.d (Za x6.2.1)),(.d (zL true x12)),(.d (D.bool s19.1)),(.d (Za s19.2))] [(.cells [(.d (zL t0 a.work)),(.d (D.list t1 (List.map Zs a.edges)))])]=some ((ZeT t0 t1 t2 a b x6 x12) r):=
 lpT (ZeT t0 t1 t2 a b x6 x12) fun s19 _ ih=>(by
 try unfold Zaj
 rcases hb:s19.1 with _ | _
 exact Zxp (Zf (Zr _ _) (yB (yG fun x24 hx24=>
  yG fun x25 hx25=>
  yB (yG fun x26 hx26=>
  yB (Zo (Zar rfl hx26) (Zf (Zr _ _) (yB (Zm rfl)
  (yB (Zo (Zar rfl hx26) (yB (Zm rfl)
  (Zo (Zar rfl hx24) (Zo (Zar rfl hx25) (yB (Zm rfl)
  (Zg (ih _)))))))
  (Zg (ih _))))))
  (yB (Zo (Zar rfl hx26) (yB (Zm rfl)
  (Zo (Zar rfl hx24) (Zo (Zar rfl hx25) (yB (Zm rfl)
  (Zg (ih _)))))))
  (Zg (ih _))))
  (yB (yG fun x27 _=>
  yB (Zm rfl)
  (Zo (Zar rfl hx24) (Zo (Zar rfl hx25) (yB (Zm rfl)
  (Zg (ih _))))))
  (Zg (ih _))))
  (Zm rfl)))
 exact ZvH (Zf (Zr _ _) (yB (yG fun x20 hx20=>
  yG fun x21 hx21=>
  yB (yG fun x22 hx22=>
  yB (Zo (Zar rfl hx22) (Zf (Zr _ _) (yB (Zm rfl)
  (yB (Zo (Zar rfl hx22) (yB (Zm rfl)
  (Zo (Zar rfl hx20) (Zo (Zar rfl hx21) (yB (Zm rfl)
  (Zg (ih _)))))))
  (Zg (ih _))))))
  (yB (Zo (Zar rfl hx22) (yB (Zm rfl)
  (Zo (Zar rfl hx20) (Zo (Zar rfl hx21) (yB (Zm rfl)
  (Zg (ih _)))))))
  (Zg (ih _))))
  (yB (yG fun x23 _=>
  yB (Zm rfl)
  (Zo (Zar rfl hx20) (Zo (Zar rfl hx21) (yB (Zm rfl)
  (Zg (ih _))))))
  (Zg (ih _))))
  (Zm rfl))))
theorem ZjH {t0 t1:Bool}{t2 t3:Bool}{a:Zk}{b:List Int}{c:Int}{d:Bool}{e:List Int}:∀r,(ZeP a b c d e)=some r→evD ctx 7 [(.d (D.agg [(zL t0 a.work),(D.list t1 (List.map Zs a.edges))])),(.d (zL t2 b)),(.d (Za c)),(.d (D.bool d)),(.d (zL t3 e))]=some (Zkb r):=
 evT fn7 rfl rfl <| yC Zed fun x0 _=>
  yB (yC Zlr fun x1 _=>
  yB (Zf (Zr _ _) (yB (yC Zed fun x2 _=>
  yBr yR)
  (Ze _ Zc1 fun x3 _=>
  Ze _ Zcm fun x4 _=>
  Ze _ Zcm fun x5 _=>
  yC Zpz fun x6 _=>
  yB (yBr yR)
  (Ze _ Zc1 fun x7 _=>
  Ze _ Zcm fun x8 _=>
  yC ZoD fun x9 _=>
  Ze _ Zc1 fun x10 _=>
  Ze _ Zcm fun x11 _=>
  yC ZmZ fun x12 _=>
  Ze _ Zc1 fun x13 _=>
  Ze _ Zcm fun x14 _=>
  yC ZhH fun x15 _=>
  yBr (Ze _ Zc1 fun x16 _=>
  Ze _ Zcm fun x17 _=>
  yC ZlS fun x18 _=>
  yB (Zf (Zr _ _) (Zf (Zr _ _) (yBr (by
 conv=>rhs;whnf
 refine Ze _ (ZhW _) fun r28 _=>?_
 rcases r28 with r28 | (r28 | (r28 | r28))
 exact yR
 exact yB (yT yR)
  (yF yR)
 exact yR
 exact yB (yF yR)
  (yT yR)))))
  yR)))))
  (yC Zed fun x29 _=>
  yBr yR))
  (yC Zed fun x30 _=>
  yBr yR)
end Go.Proofs.YtgcfmiajkbbmeaaGreat
namespace Go.Proofs.YtgcfmiajkbbmeaaGreat
open Go Go.Proofs.YtgcfmiajkbbmeaaGreatE
open Go.IntKind (u64 i64 u32 i32 u8)
abbrev ZwN:List Lf×Bool:=([.int .i64],false)
abbrev ZxJ:List Lf×Bool:=([.bool],false)
abbrev Zkk:List Lf×Bool:=([.sl false [.int .i64]],false)
abbrev Zsg:List Lf×Bool:=([.sl false [.int .i64],.sl true [.int .i64,.int .i64]],true)
theorem Zrv {g:Zk}{dem:List Int}{c:Int}{t:List (List Int)}{left on ran ends:List Int}{last:List ZD} (hin:ZkH g dem c) (R:ZlU g dem c t left on) (I:Zl0 (ZaS g dem) c.toNat t t.length left on ran last ends) (hl:dem.length≤70) :
  lp (Zaj g dem (t,ZaM g dem left,0) ends) (false,0)=some (bif Zf0 g dem left dem.length then .inr (.inl ()) else .inr (.inr (.inr ()))):=by
 have hll:=R.sched.len.1
 have hn:=hin.need
 have hnl:=hn.nl
 have hdl:=hin.dl
 have hG:=(Z1 hin.ck).1
 have hcr:=R.sched.crew (fun x hx=>hn.rng x hx) (by rw[hnl];exact Zek hG)
 have hel:=I.l3
 have key:∀(k i:Nat),i+k=dem.length→lp (Zaj g dem (t,ZaM g dem left,0) ends) (Zf0 g dem left i,(i:Int))=some (bif Zf0 g dem left dem.length then .inr (.inl ()) else .inr (.inr (.inr ()))):=by
  intro k
  induction k with
  | zero=>
   intro i hi
   have e:i=ends.length:=by omega
   have e2:dem.length=ends.length:=by omega
   rw[e2]
   subst e
   rw[ZaI]
   simp only[Zaj,Zdz]
   cases Zf0 g dem left ends.length<;>rfl
  | succ k ih=>
   intro i hi
   have hlt:i<ends.length:=by omega
   have hN:isN (ZaS g dem) (i:Int):=⟨by omega,by simp;omega⟩
   have hL:isN left (i:Int):=⟨by omega,by simp;omega⟩
   have e1:ZI dem (i:Int)=some (lf dem (i:Int)):=Zgf ⟨by omega,by simp;omega⟩
   have e2:ZI g.work (i:Int)=some (lf g.work (i:Int)):=Zgf ⟨by omega,by simp;omega⟩
   have e3:ZI ends (i:Int)=some (lf ends (i:Int)):=Zgf ⟨by omega,by simpa using hlt⟩
   have hs:Zf0 g dem left (i+1)=(Zf0 g dem left i || ((lf left (i:Int)==0)&&decide (lf g.work (i:Int)<lf dem (i:Int)))):=ZgE i _
   have hnx:=ih (i+1) (by omega)
   have hw:=ZR hlt (show ends.length<9223372036854775808 by omega)
   rw[ZaI]
   simp only[Zaj,Zds hlt,cond_true,e1,e2,e3,Option.bind_some,hw]
   by_cases hz:lf left (i:Int)=0
   ·obtain⟨x,f1,f2,f3,f4,f5⟩:=I.fin (i:Int) hN hz
    have g1:decide (0≤lf ends (i:Int))=true:=decide_eq_true (by omega)
    have g2:decide (lf ends (i:Int)<0)=false:=decide_eq_false (by omega)
    rw[show(lf left (i:Int)==0)=true from beq_iff_eq.2 hz,Bool.true_and] at hs
    cases hq:decide (lf g.work (i:Int)<lf dem (i:Int)) with
    | true=>
     have hbad0:lf g.work (i:Int)<lf dem (i:Int):=of_decide_eq_true hq
     have hbad:Bad g dem (i:Int):=hbad0
     have hx:x=t.length:=by
      apply Classical.byContradiction
      intro hne
      have hp:=R.pre x (by omega)
      have hfl:(Zcb (ZaS g dem) c.toNat (t.take x)).1.length=(ZaS g dem).length:=by
       have hrow:=List.getElem?_eq_getElem (show x<t.length by omega)
       exact(R.sched.pre x _ hrow).1.len.1
      have:=ZlP.2 ⟨(i:Int),⟨by omega,by rw[hfl];exact hN.2⟩,f5,hbad⟩
      rw[(Zin.1 hp).1] at this
      cases this
     have g3:(lf ends (i:Int) != (t.length:Int))=false:=by rw[f1,hx];simp
     have hbl:Zf0 g dem left left.length=true:=ZlP.2 ⟨(i:Int),hL,hz,hbad⟩
     have g4:(ZaM g dem left==2)=false:=by unfold ZaM;rw[hbl];rfl
     rw[hq,Bool.or_true] at hs
     rw[hs] at hnx
     cases Zf0 g dem left i<;>simp only[g1,g3,g4,cond_true,cond_false]<;>exact hnx
    | false=>
     rw[hq,Bool.or_false] at hs
     rw[hs] at hnx
     cases hb:Zf0 g dem left i<;>rw[hb] at hnx<;>cases ZaM g dem left==2<;>simp only[g2,cond_true,cond_false]<;>exact hnx
   ·have f1:=I.not (i:Int) hN hz
    have g1:decide (0≤lf ends (i:Int))=false:=decide_eq_false (by omega)
    have hlb:Zge left left.length=true:=Zj0.2 ⟨(i:Int),hL,by have:=(ZqR hcr (i:Int)).1;omega⟩
    have g4:(ZaM g dem left==2)=false:=by unfold ZaM;rw[hlb];cases Zf0 g dem left left.length<;>rfl
    rw[show(lf left (i:Int)==0)=false from beq_eq_false_iff_ne.2 hz,Bool.false_and,Bool.or_false] at hs
    rw[hs] at hnx
    cases hb:Zf0 g dem left i<;>rw[hb] at hnx<;>cases decide (lf g.work (i:Int)<lf dem (i:Int))<;>simp only[g1,g4,cond_true,cond_false]<;>exact hnx
 exact key dem.length 0 (by omega)
theorem ZpH (g:Zk) (dem:List Int) (c:Int) (d:Bool) (picks:List Int):ZeP g dem c d picks=some true:=by
 unfold ZeP
 simp only[ZdG,Option.bind_some,cond_true]
 obtain⟨b,hb,hb2⟩:=Zrb g dem
 rw[hb,Option.bind_some]
 cases b with
 | false=>rfl
 | true=>
 obtain⟨hf,hl,hsum⟩:=hb2 rfl
 obtain⟨hw,he,hsh⟩:=Zrk hf
 rw[cond_true]
 by_cases hp:600<(picks.length:Int)
 ·rw[decide_eq_true hp];rfl
 rw[decide_eq_false hp,cond_false]
 simp only[ZvA hf,Zkm (show dem.length≤100000 by omega),Zkm (show picks.length≤100000 by omega),Option.bind_some]
 by_cases h1:ZiV g dem c=0
 ·have hin:=Zsb.1 h1
  have hns:=Zwd hin.dl
  have hs:=hsum hin.ck
  have hn:=hin.need
  have hnl:=hn.nl
  obtain⟨hG,hA⟩:=Z1 hin.ck
  have hw64:=hG.wl
  obtain⟨t,left,on,e1,R⟩:=Zu3 (picks:=picks) hin (by omega) (by omega) d
  have S:=R.sched
  have hneed:Zhb g dem=some (ZaS g dem):=by
   have hright:Zf2 g dem=true:=by
    have h0:=h1
    unfold ZiV at h0
    rw[show(ZT g==0)=true from beq_iff_eq.2 hin.ck,cond_true] at h0
    cases hr:Zf2 g dem with
    | true=>rfl
    | false=>rw[hr] at h0;cases h0
   unfold Zhb
   rw[ZdU g hsh,hin.ck,Option.bind_some]
   simp only[Zq5,cond_false,Zhc hsh hl,Option.bind_some,hright,cond_true,Zks hin.dl hw64]
  obtain⟨ran,last,ends,q1,I⟩:=ZzG hn S R.short
  have hll:=S.len.1
  have hdl:=hin.dl
  rw[e1,Option.bind_some]
  simp only[Zq5,cond_false]
  rw[hneed,Option.bind_some,Zkm (show(ZaS g dem).length≤100000 by omega),Option.bind_some,q1,Option.bind_some,ZqH hn S R.short,Option.bind_some]
  simp only[Zq5,cond_false,Option.bind_some]
  rw[ZvS hn S R.short,Option.bind_some]
  simp only[cond_true,show((ends.length:Int) != ((ZaS g dem).length:Int))=false by rw[I.l3];simp,cond_false]
  rw[Zrv hin R I hl,Option.bind_some]
  have hle:dem.length=left.length:=by omega
  rw[hle]
  cases hb:Zf0 g dem left left.length with
  | true=>
   have:ZaM g dem left=3:=by unfold ZaM;rw[hb];rfl
   rw[this]
   rfl
  | false=>
   have:ZaM g dem left=2:=by
    have hf:=R.fin
    unfold ZaM at hf ⊢
    rw[hb] at hf ⊢
    cases hlb:Zge left left.length with
    | true=>rw[hlb] at hf;exact absurd rfl hf
    | false=>rfl
   rw[this]
   rfl
 ·rw[Zq7 hsh hl h1,Option.bind_some]
  simp only[show(ZiV g dem c != 0)=true from bne_iff_ne.2 h1,cond_true]
  rfl
theorem ZqL (xs:List D) (h:Zee Zsg.1 xs) (ys:List D) (k:Zee Zkk.1 ys) (zs:List D) (m:Zee ZwN.1 zs) (vs:List D) (n:Zee ZxJ.1 vs) (us:List D) (o:Zee Zkk.1 us) :
  ∃H',evW ctx 7 (Za0 [Ziz Zsg.2 xs,Ziz Zkk.2 ys,Ziz ZwN.2 zs,Ziz ZxJ.2 vs,Ziz Zkk.2 us]) []=some (.d (.bool true),H'):=by
 obtain⟨d0,e0,_⟩:=Zvt h
 obtain⟨d1,e1,_⟩:=Zof k
 obtain⟨d2,e2,_⟩:=Zz4 m
 obtain⟨d3,e3⟩:=Zyk n
 obtain⟨d4,e4,_⟩:=Zof o
 show ∃H',evW ctx 7 [.d (D.agg xs),.d (Ziz false ys),.d (Ziz false zs),.d (Ziz false vs),.d (Ziz false us)] []=_
 rw[e0,e1,e2,e3,e4]
 exact ZxV (ZjH true (ZpH d0 d1 d2 d3 d4))
open Go Go.Proofs Go.Proofs.YtgcfmiajkbbmeaaGreatE
theorem Zyc:((begin Tryz.prog (fun _ _=>0) default).world.heap[1]?).bind Obj.row? = some (Array.replicate 64 (.int .u8 0),226):=by kernel_rfl
theorem ZuA:Tryz.prog.cellTypes Tryz.prog.depth 226=some (List.replicate 64 5):=by kernel_rfl
def ZnR (cs:Array Value) (i:Nat):Int:=match cs[i]? with | some (.int _ m)=>m | _=>0
def Zl8 (cs:Array Value):List (IntKind×Int):=(List.range 64).map fun i=>(.u8,ZnR cs i)
theorem Ztm {W:World} (h:W.ShapedOpen Tryz.prog):∃G:Zl,ZnX G∧GOK G R0 W:=by
 obtain⟨cs,h1,h2,h3⟩:=h.1 1 _ 226 (of_decide_eq_true (by kernel_rfl)) Zyc
 obtain⟨ts,t1,_,t2⟩:=h3 (by kernel_rfl)
 rw[ZuA] at t1
 have hts:ts=List.replicate 64 5:=(Option.some.inj t1).symm
 subst hts
 have hsz:cs.size=64:=by rw[h2];simp
 have cell:∀i,i<64→cs[i]? = some (.int .u8 (ZnR cs i)):=fun i hi=>by
  have hi2:i<cs.size:=by omega
  obtain⟨u,hu,hok⟩:=t2 i cs[i] (by simp[hi2])
  have hu5:u=5:=(List.mem_replicate.1 (List.mem_of_getElem? hu)).2
  subst hu5
  unfold Cell.ok at hok
  rw[Tryz.underlying5] at hok
  have hg:cs[i]? = some cs[i]:=by simp[hi2]
  unfold ZnR
  rw[hg]
  cases hv:cs[i]<;>rw[hv] at hok<;>simp at hok
  case int k n=>rw[hok.1]
 refine⟨fun g=>if g=1 then some (Zl8 cs) else none,⟨Zl8 cs,by simp,by simp[Zl8],fun x hx=>?_⟩,fun g l hg=>?_⟩
 ·obtain⟨i,_,rfl⟩:=List.mem_map.1 hx
  rfl
 ·by_cases hg1:g=1
  ·subst hg1
   simp only[if_true] at hg
   cases hg
   refine ZzQ ⟨1,0,rfl,trivial,(Array.getElem?_eq_some_iff.1 h1).1,ZfY _ _ fun j x hj=>?_⟩
   rw[Ztv,List.getElem?_map] at hj
   have hj64:j<64:=by
    refine Classical.byContradiction fun hn=>?_
    rw[List.getElem?_eq_none (by simp[Zl8];omega)] at hj
    cases hj
   have hr:(Zl8 cs)[j]? = some (.u8,ZnR cs j):=by simp[Zl8,hj64]
   rw[hr] at hj
   cases hj
   refine⟨.int .u8 (ZnR cs j),?_,rfl⟩
   simp only[World.cell?,h1,Nat.zero_add]
   simpa using cell j hj64
  ·dsimp only at hg
   rw[if_neg hg1] at hg
   cases hg
end Go.Proofs.YtgcfmiajkbbmeaaGreat
namespace Go.Proofs.YtgcfmiajkbbmeaaGreat.LawTeamSched
open Go.ChangeShapes Go.WideShapes Go.ChangeAt Go.RowKit Go.Proofs.YtgcfmiajkbbmeaaGreatE
theorem own:ownKnob Tryz.prog.godebug=none:=by kernel_rfl
theorem ZlA:laidOutB Tryz.prog=true:=by kernel_rfl
theorem ZAb (os:Os) (started:os.Started) (H:Type) (enc:TypeId×Value→H) :
  ReturnsInHanded {} Tryz.checked os 7 .any (Rows.teamSchedSpec.pre6 enc Tryz.prog Tryz.f7 Rows.teamSchedRow.domain false) (Rows.teamSchedSpec.post enc Tryz.prog Tryz.f7 false true false false):=by
 refine returnsInHanded_of_change_shaped (C:=Tryz.checked) own started (by kernel_rfl) Tryz.func7
  (ChangeSpec.witness6 (enc:=enc) (C:=Tryz.checked) false ⟨#[],#[.agg #[.slice none 0 0,.slice none 0 0],.slice none 0 0,.int .i64 0,.bool false,.slice none 0 0],[]⟩ 8 (by kernel_rfl) (by kernel_rfl) (by kernel_rfl) (by kernel_rfl)) ?_
 intro W base args ds gs before hval0 hW _ _ hSh _
 obtain⟨G,hG,hgt⟩:=Ztm hSh
 have hval:∀(j:Nat) t v,Tryz.f7.params[j]? = some t→args[j]? = some v→Value.okWide Tryz.prog W .any base t v:=hval0
 have hW':=hW
 obtain⟨p,q,hA0,hV,rfl,hfz,hnd⟩:=hW
 have hA:DataW.TrodAll enc Tryz.prog W 0 (fun _=>true) true Tryz.f7.params.toList args.toList ds p:=hA0
 rw[Tryz.params7] at hA hval
 obtain⟨v0,vs0,d0,ds0,p0,q0,hargs,rfl,rfl,h0,r0⟩:=trodAll_cons hA
 obtain⟨v1,vs1,d1,ds1,p1,q1,rfl,rfl,rfl,h1,r1⟩:=trodAll_cons r0
 obtain⟨v2,vs2,d2,ds2,p2,q2,rfl,rfl,rfl,h2,r2⟩:=trodAll_cons r1
 obtain⟨v3,vs3,d3,ds3,p3,q3,rfl,rfl,rfl,h3,r3⟩:=trodAll_cons r2
 obtain⟨v4,vs4,d4,ds4,p4,q4,rfl,rfl,rfl,h4,r4⟩:=trodAll_cons r3
 obtain⟨rfl,rfl,rfl⟩:=trodAll_nil r4
 obtain rfl:args = #[v0,v1,v2,v3,v4]:=by cases args;simp_all
 obtain⟨rfl,rfl⟩:=trodVars_none hV
 have lt0:∀x∈p0,x.block<W.heap.size:=by obtain⟨m,hm⟩:=h0;exact DataW.trod_lt m _ _ _ hm
 obtain⟨x0,ok0,den0⟩:=Zn4 (P:=Tryz.prog) (n:=8) (t:=25) (l:=Zsg.1) (ag:=Zsg.2) (by kernel_rfl) (hval 0 25 v0 rfl rfl) h0
 have lt1:∀x∈p1,x.block<W.heap.size:=by obtain⟨m,hm⟩:=h1;exact DataW.trod_lt m _ _ _ hm
 obtain⟨x1,ok1,den1⟩:=Zn4 (P:=Tryz.prog) (n:=8) (t:=22) (l:=Zkk.1) (ag:=Zkk.2) (by kernel_rfl) (hval 1 22 v1 rfl rfl) h1
 have lt2:∀x∈p2,x.block<W.heap.size:=by obtain⟨m,hm⟩:=h2;exact DataW.trod_lt m _ _ _ hm
 obtain⟨x2,ok2,den2⟩:=Zn4 (P:=Tryz.prog) (n:=8) (t:=3) (l:=ZwN.1) (ag:=ZwN.2) (by kernel_rfl) (hval 2 3 v2 rfl rfl) h2
 have lt3:∀x∈p3,x.block<W.heap.size:=by obtain⟨m,hm⟩:=h3;exact DataW.trod_lt m _ _ _ hm
 obtain⟨x3,ok3,den3⟩:=Zn4 (P:=Tryz.prog) (n:=8) (t:=4) (l:=ZxJ.1) (ag:=ZxJ.2) (by kernel_rfl) (hval 3 4 v3 rfl rfl) h3
 have lt4:∀x∈p4,x.block<W.heap.size:=by obtain⟨m,hm⟩:=h4;exact DataW.trod_lt m _ _ _ hm
 obtain⟨x4,ok4,den4⟩:=Zn4 (P:=Tryz.prog) (n:=8) (t:=22) (l:=Zkk.1) (ag:=Zkk.2) (by kernel_rfl) (hval 4 22 v4 rfl rfl) h4
 obtain⟨H1,ev⟩:=ZqL x0 ok0 x1 ok1 x2 ok2 x3 ok3 x4 ok4
 have den:Z0 All All All W [Ziz Zsg.2 x0,Ziz Zkk.2 x1,Ziz ZwN.2 x2,Ziz ZxJ.2 x3,Ziz Zkk.2 x4] [v0,v1,v2,v3,v4]:=⟨_,_,rfl,den0,⟨_,_,rfl,den1,⟨_,_,rfl,den2,⟨_,_,rfl,den3,⟨_,_,rfl,den4,rfl⟩⟩⟩⟩⟩
 refine(Zvm (ZCb G hG) hgt den ev).mono fun e W' ⟨he,bel⟩=>?_
 subst he
 exact⟨_,rfl,_,_,_,[],_,[],hW',trodAll_mk1 (shut_bool Tryz.underlying4 _),(trodAll_cons_mk (Below.trod ZlA (by kernel_rfl) (of_decide_eq_true (by kernel_rfl)) h0 bel lt0) (trodAll_cons_mk (Below.trod ZlA (by kernel_rfl) (of_decide_eq_true (by kernel_rfl)) h1 bel lt1) (trodAll_cons_mk (Below.trod ZlA (by kernel_rfl) (of_decide_eq_true (by kernel_rfl)) h2 bel lt2) (trodAll_cons_mk (Below.trod ZlA (by kernel_rfl) (of_decide_eq_true (by kernel_rfl)) h3 bel lt3) (trodAll_cons_mk (Below.trod ZlA (by kernel_rfl) (of_decide_eq_true (by kernel_rfl)) h4 bel lt4) trodAll_mk0))))),rfl,bel.frame _,fun h=>by cases h⟩
theorem over:Rows.teamSchedRow.holds Tryz.pinned (OpenSpec.ofChange Rows.teamSchedSpec):=
 OpenClaim.holds_of_wide 7 Tryz.f7 rfl rfl rfl rfl rfl rfl rfl ⟨rfl,rfl,rfl,rfl,rfl⟩ rfl rfl rfl rfl rfl (by kernel_rfl) Tryz.func7 (by kernel_rfl)
  (of_decide_eq_true (by kernel_rfl)) (by unfold Func.isWrapper;first | (rw[if_pos (by decide +kernel)];kernel_rfl) | (rw[if_neg (by decide +kernel)];exact⟨rfl,rfl⟩))
  (fun os started H enc _=>ZAb os started H enc)
theorem proved:Rows.TeamSchedSaid:=over
end Go.Proofs.YtgcfmiajkbbmeaaGreat.LawTeamSched
namespace Go.Proofs.YtgcfmiajkbbmeaaGreat
theorem teamSched_holds:Rows.TeamSchedSaid:=LawTeamSched.proved
#print axioms teamSched_holds
end Go.Proofs.YtgcfmiajkbbmeaaGreat
