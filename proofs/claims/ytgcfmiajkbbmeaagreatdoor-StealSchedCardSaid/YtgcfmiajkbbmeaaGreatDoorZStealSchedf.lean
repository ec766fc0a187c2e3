/- StealSched: part 6 of 6 of the proof: the row and the card of the law, out of what the evaluator says of it; without conditions. -/
import Derived.Test.YtgcfmiajkbbmeaaGreatDoorZStealSchede
import Derived.KernelRfl
import Derived.Test.YtgcfmiajkbbmeaaGreatDoorRows
import Derived.Test.YtgcfmiajkbbmeaaGreatDoorCards
import Derived.Test.YtgcfmiajkbbmeaaGreatDoorTie
import Derived.WalkKit
import Derived.ProofKit
import Derived.OpenShut
import Derived.ShutString
import Derived.ChangeOld
import Derived.Below
import Derived.SizedLaws
import Derived.Handed
import Derived.LaidMore
import Derived.Stop.Joined
import Derived.ChangeShapes
import Derived.Carry
import Derived.SevenTiedAt
set_option maxRecDepth 100000
set_option maxHeartbeats 40000000
set_option linter.unusedVariables false
set_option linter.unusedSimpArgs false
namespace Go.Proofs.YtgcfmiajkbbmeaaGreatDoor
open Go Go.Proofs.YtgcfmiajkbbmeaaGreatDoorE
open Go.IntKind (u64 i64 u32 i32 u8)
section
variable {α β:Type} {A B:Option α} {Q:α→Option β→Prop}
theorem yB {c:Bool}{X Y:Option β} (h1:ZdK A Q X) (h2:ZdK B Q Y):ZdK (bif c then A else B) Q (br c X Y):=Zen rfl h1 h2
theorem yBn {c:Bool}{X Y:Option β} (h2:ZdK B Q Y):ZdK (bif c then none else B) Q (br c X Y):=Zen rfl Zce h2
theorem yBm {c:Bool}{X Y:Option β} (h1:ZdK A Q X):ZdK (bif c then A else none) Q (br c X Y):=Zen rfl h1 Zce
theorem yT {X Y:Option β} (h1:ZdK A Q X):ZdK A Q (br true X Y):=Zr4 rfl h1
theorem yF {X Y:Option β} (h1:ZdK A Q Y):ZdK A Q (br false X Y):=ZEC rfl h1
theorem yG {γ:Type}{f:γ→D}{l:List γ}{i:Int}{A:γ→Option α}{K:D→Option β} (k:∀r,Zp l i=some r→ZdK (A r) Q (K (f r))):ZdK ((Zp l i).bind A) Q (bnd (Zp (l.map f) i) K):=ZAD rfl rfl k
theorem yC {γ:Type}{Γ:Ctx}{f:Nat}{args:List V}{E:Option γ}{A:γ→Option α}{K:V→Option β}{enc:γ→D} (w:∀r,E=some r→evD Γ f args=some (enc r)) (k:∀r,E=some r→ZdK (A r) Q (ZwF (enc r) K)):ZdK (E.bind A) Q (bnd (evW Γ f args []) (ZoG K)):=Zzy enc w rfl k
theorem yR {a:α}{f:α→Option β}:ZdK (some a) (fun r rhs=>rhs=f r) (f a):=Zm rfl
theorem yBr {a:α}{c:Bool}{f:α→Option β}{Y:Option β} (h2:ZdK B (fun r rhs=>rhs=f r) Y):ZdK (bif c then some a else B) (fun r rhs=>rhs=f r) (br c (f a) Y):=yB yR h2
theorem evT {Γ : Ctx} {f : Nat} (fn : FnI) {args : List V} {E : Option α} {enc : α → D} (hc : Γ.code f = some fn) (hn : Nat.beq args.length fn.nargs = true) (h : ZdK E (fun r rhs => rhs = some (enc r)) (Zim Γ 0 fn.body (Zek 0 args) [] fun x e H1 => (match x with
      | .exit _=>none
      | _=>(match Zln e H1 fn.res with
        | some l=>ZfB 0 [ZhA l] H1 fun _ vs H2=>(match vs with | [v]=>(match fr H2 6 v with | some (x,_)=>some x | none=>none) | _=>none)
        | none=>none)))):∀r,E=some r→evD Γ f args=some (enc r):=by rw[ZBL Γ f fn args hc hn];exact h
theorem evS {Γ : Ctx} {f : Nat} (fn : FnI) {args : List V} {H : Zh} {E : Option α} {enc : α → V × Zh} (hc : Γ.code f = some fn) (hn : Nat.beq args.length fn.nargs = true) (h : ZdK E (fun r rhs => rhs = some (enc r)) (Zim Γ H.length fn.body (Zek 0 args) H fun x e H1 => (match x with
      | .exit _=>none
      | _=>(match Zln e H1 fn.res with
        | some l=>ZfB H.length [ZhA l] H1 fun _ vs H2=>(match vs with | [v]=>some (v,H2) | _=>none)
        | none=>none)))):∀r,E=some r→evW Γ f args H=some (enc r):=by rw[ZBP Γ f fn args H hc hn];exact h
theorem lpT {S R:Type}{step:S→Option (S⊕R)}{Γ:Ctx}{k:Nat}{live outs:List Nat}{b:C}{vs:S→List V}{H:S→Zh} (x:R→Ex×List V×Zh)
    (h:∀(s:S) (rec:S→Option R),(∀s r,rec s=some r→lpW Γ k live outs b (vs s) (H s)=some (x r))→ZdK (step s) (fun t rhs=>(match t with | .inl s'=>∀r,rec s'=some r→rhs=some (x r) | .inr r=>rhs=some (x r))) (Zim Γ k b (Zea live (vs s)) (H s) fun x e H=>(match x with
      | .normal=>ZoK k (live.map e) H fun vs H=>bnd (lpW Γ k live outs b vs H) some
      | x=>ZfB k (outs.map e) H fun _ vs H=>some (x,vs,H)))):∀s r,lp step s=some r→lpW Γ k live outs b (vs s) (H s)=some (x r):=
  ZD1 (G:=fun s=>lpW Γ k live outs b (vs s) (H s)) x fun s rec ih=>by rw[ZEG];exact h s rec ih
end
theorem ZdI:∀r,ZdE=some r→evD ctx 9 []=some (D.bool r):=fun r h=>by
  cases h
  exact ZC2 100 (by kernel_rfl)
def ZrB (r:Bool):D:=(D.bool r)
theorem ZpY {t0 t1:Bool}{a:Zx}:∀r,(Zjr a)=some r→evD ctx 10 [(.d (D.agg [(zL t0 a.work),(D.list t1 (List.map ZA a.edges))]))]=some (ZrB r):=
 evT ZB7 rfl rfl <| Zi (ZC _ _) (yB (Zi (ZC _ _) (yBr yR))
  yR)
def Zof (r:Bool):D:=(D.bool r)
def ZiB (t0:Bool) (a:List Int):(Unit⊕(Unit⊕Unit))→Ex×List V×Zh
  | (.inl r)=>(.ret,[(.d (D.bool true))],[])
  | (.inr (.inl r))=>(.ret,[(.d (D.bool false))],[])
  | (.inr (.inr r))=>(.exit 0,[.bad],[])
theorem ZlC {t0:Bool}{a:List Int}:∀(s0:Int×Int) (r:(Unit⊕(Unit⊕Unit))),lp (Zde a) s0=some r→lpW ctx 0 [0,3,4] [2] Zz9 [(.d (zL t0 a)),(.d (Zb s0.1)),(.d (Zb s0.2))] []=some ((ZiB t0 a) r):=
 lpT (ZiB t0 a) fun s0 _ ih=>Zi (ZC _ _) (yB (yG fun x1 hx1=>
  yB (Zf (ZaV rfl hx1) (yB (Zm rfl)
  (Zm rfl)))
  (Zf (ZaV rfl hx1) (yB (Zf (ZaV rfl hx1) (yB (Zm rfl)
  (Zm rfl)))
  (Zf (ZaV rfl hx1) (Zd (ih _))))))
  (Zm rfl))
theorem ZnL {t0:Bool}{a:List Int}:∀r,(Zht a)=some r→evD ctx 11 [(.d (zL t0 a))]=some (Zof r):=
 evT ZC9 rfl rfl <| (by
 conv=>rhs;whnf
 refine Zc _ (ZlC _) fun r2 _=>?_
 rcases r2 with r2 | (r2 | r2)
 exact yR
 exact yR
 exact yR)
def Zrv (t0:Bool) (t1:Bool) (a:Zx):Unit→V×Zh
  | r=>((.agg [(.sl 0 1),(.sl 1 2)]),[(.arr 1 (List.map Zb a.work)),(.arr 2 (List.map ZA a.edges))])
theorem Zgm {t0 t1:Bool}{a:Zx}:∀r,(Zfl a)=some r→evW ctx 13 [(.d (D.agg [(zL t0 a.work),(D.list t1 (List.map ZA a.edges))]))] []=some ((Zrv t0 t1 a) r):=
 evS ZC1 rfl rfl <| Zr4 (ZlY (f:=Zb) (fun _=>⟨rfl,rfl⟩) a.work 0) (Zen (ZnT Zb a.work) (Zi (rfl:_=List.map Zb a.work) (Zr4 (ZlY (f:=ZA) (fun _=>⟨rfl,rfl⟩) a.edges 0) (Zen (ZnT ZA a.edges) (Zi (rfl:_=List.map ZA a.edges) yR)
  Zce)))
  Zce)
def ZpV (t0:Bool) (a:List Int):Unit→V×Zh
  | r=>((.sl 0 1),[(.arr 1 (List.map Zb a))])
theorem Zep {t0:Bool}{a:List Int}:∀r,(Zdy a)=some r→evW ctx 14 [(.d (zL t0 a))] []=some ((ZpV t0 a) r):=
 evS ZDj rfl rfl <| Zr4 (ZlY (f:=Zb) (fun _=>⟨rfl,rfl⟩) a 0) (Zen (ZnT Zb a) (Zi (rfl:_=List.map Zb a) yR)
  Zce)
def Zpd (r:Bool):D:=(D.bool r)
theorem Zoh {a:Int}:∀r,(ZdD a)=some r→evD ctx 142 [(.d (Zb a))]=some (Zpd r):=
 evT Zzp rfl rfl <| yBr (yBr yR)
def Zfj (r:Int):D:=(Zb r)
def Zch (t0:Bool) (a:List Int):(Int⊕Unit)→Ex×List V×Zh
  | (.inl r)=>(.ret,[(.d (Zb r))],[])
  | (.inr r)=>(.exit 0,[.bad],[])
theorem Zez {t0:Bool}{a:List Int}:∀(s0:Int) (r:(Int⊕Unit)),lp (ZL a (fun z0=>ZdD z0)) s0=some r→lpW ctx 0 [0,1,7,8] [4] Zod [(.d (zL t0 a)),(.d (D.fn 142 [])),(.d (Zb (a.length:Int))),(.d (Zb s0))] []=some ((Zch t0 a) r):=
 lpT (Zch t0 a) fun s0 _ ih=>yB (yG fun x1 _=>
  yC Zoh fun x2 _=>
  yB (Zm rfl)
  (Zd (ih _)))
  (Zm rfl)
theorem Zff {t0:Bool}{a:List Int}:∀r,(Z4 a (fun z0=>ZdD z0))=some r→evD ctx 94 [(.d (zL t0 a)),(.d (D.fn 142 []))]=some (Zfj r):=
 evT Zvh rfl rfl <| Zi (ZC _ _) (by
 conv=>rhs;whnf
 refine Zc _ (Zez _) fun r3 _=>?_
 rcases r3 with r3 | r3
 exact yR
 exact yR)
def ZeR (r:Bool):D:=(D.bool r)
theorem ZeA {t0:Bool}{a:List Int}:∀r,(ZX a (fun z0=>ZdD z0))=some r→evD ctx 44 [(.d (zL t0 a)),(.d (D.fn 142 []))]=some (ZeR r):=
 evT Zxl rfl rfl <| yC Zff fun x0 _=>
  yBr yR
def Zph (r:Bool):D:=(D.bool r)
theorem Zkb {t0 t1:Bool}{a:Int}{b0:List Int}{b1:List Zy}:∀r,(ZgL a b0)=some r→evD ctx 143 [(.d (Zb a)),(.d (D.rptr [(zL t0 b0),(D.list t1 (List.map ZA b1))]))]=some (Zph r):=
 evT ZzN rfl rfl <| yB (Zi (ZC _ _) (yBr yR))
  yR
def Zis (r:Int):D:=(Zb r)
def ZeX (t0:Bool) (a:List Zy) (b:Zy):(Int⊕Unit)→Ex×List V×Zh
  | (.inl r)=>(.ret,[(.d (Zb r))],[])
  | (.inr r)=>(.exit 0,[.bad],[])
theorem Zhn {t0:Bool}{a:List Zy}{b:Zy}:∀(s0:Int) (r:(Int⊕Unit)),lp (Zb8 a b) s0=some r→lpW ctx 0 [0,3,7,8] [4] ZvF [(.d (D.list t0 (List.map ZA a))),(.ptr 0 0),(.d (Zb (a.length:Int))),(.d (Zb s0))] [(.cells [(.d (Zb b.src)),(.d (Zb b.dst))])]=some ((ZeX t0 a b) r):=
 lpT (ZeX t0 a b) fun s0 _ ih=>yB (yG fun x1 _=>
  yB (Zm rfl)
  (Zd (ih _)))
  (Zm rfl)
theorem Zik {t0:Bool}{a:List Zy}{b:Zy}:∀r,(ZdL a b)=some r→evD ctx 174 [(.d (D.list t0 (List.map ZA a))),(.d (D.agg [(Zb b.src),(Zb b.dst)]))]=some (Zis r):=
 evT ZzU rfl rfl <| Zi (ZC _ _) (by
 conv=>rhs;whnf
 refine Zc _ (Zhn _) fun r2 _=>?_
 rcases r2 with r2 | r2
 exact yR
 exact yR)
def ZhH (r:Bool):D:=(D.bool r)
theorem Zho {t0:Bool}{a:List Zy}{b:Zy}:∀r,(Zcb a b)=some r→evD ctx 136 [(.d (D.list t0 (List.map ZA a))),(.d (D.agg [(Zb b.src),(Zb b.dst)]))]=some (ZhH r):=
 evT Zzn rfl rfl <| yC Zik fun x0 _=>
  yBr yR
def Zrf (r:((List Int)×Bool)):D:=(D.tup [(zL true r.1),(D.bool r.2)])
def ZkA (t0:Bool) (t1:Bool) (a:Zx) (s0:(List Int)×(List Bool)) (s1:Int):(Unit⊕Unit)→Ex×List V×Zh
  | (.inl r)=>(.exit 3,[(.ptr 0 0),(.sl 1 1),(.sl 2 1),(.d (Zb s1)),(.d (Zb (a.work.length:Int))),(.d (Zb s1))],[(.cells [(.d (zL t0 a.work)),(.d (D.list t1 (List.map ZA a.edges)))]),(.arr 1 (List.map Zb s0.1)),(.arr 1 (List.map D.bool s0.2))])
  | (.inr r)=>(.exit 4,[(.ptr 0 0),(.sl 1 1),(.sl 2 1),(.d (Zb s1)),(.d (Zb (a.work.length:Int))),(.d (Zb s1))],[(.cells [(.d (zL t0 a.work)),(.d (D.list t1 (List.map ZA a.edges)))]),(.arr 1 (List.map Zb s0.1)),(.arr 1 (List.map D.bool s0.2))])
theorem ZnA {t0 t1:Bool}{a:Zx}{s0:(List Int)×(List Bool)}{s1:Int}:∀(s3:Int) (r:(Unit⊕Unit)),lp (Zgp a s0 s1) s3=some r→lpW ctx 0 [1,4,5,6,21,22,30,31,32] [1,4,5,6,21,22] ZvZ [(.ptr 0 0),(.sl 1 1),(.sl 2 1),(.d (Zb s1)),(.d (Zb (a.work.length:Int))),(.d (Zb s1)),(.d (D.list t1 (List.map ZA a.edges))),(.d (Zb (a.edges.length:Int))),(.d (Zb s3))] [(.cells [(.d (zL t0 a.work)),(.d (D.list t1 (List.map ZA a.edges)))]),(.arr 1 (List.map Zb s0.1)),(.arr 1 (List.map D.bool s0.2))]=some ((ZkA t0 t1 a s0 s1) r):=
 lpT (ZkA t0 t1 a s0 s1) fun s3 _ ih=>yB (yG fun x4 _=>
  yB (yG fun x5 hx5=>
  Zf (Zn rfl hx5) (yB (Zd (ih _))
  (Zm rfl)))
  (Zd (ih _)))
  (Zm rfl)
def Zkt (t0:Bool) (t1:Bool) (a:Zx) (s0:(List Int)×(List Bool)):(((List Int)×(List Bool))⊕Unit)→Ex×List V×Zh
  | (.inl r)=>(.exit 1,[(.ptr 0 0),(.sl 1 1),(.sl 2 1)],[(.cells [(.d (zL t0 a.work)),(.d (D.list t1 (List.map ZA a.edges)))]),(.arr 1 (List.map Zb r.1)),(.arr 1 (List.map D.bool r.2))])
  | (.inr r)=>(.exit 2,[(.ptr 0 0),(.sl 1 1),(.sl 2 1)],[(.cells [(.d (zL t0 a.work)),(.d (D.list t1 (List.map ZA a.edges)))]),(.arr 1 (List.map Zb s0.1)),(.arr 1 (List.map D.bool s0.2))])
theorem ZnG {t0 t1:Bool}{a:Zx}{s0:(List Int)×(List Bool)}:∀(s1:Int) (r:(((List Int)×(List Bool))⊕Unit)),lp (Ze3 a s0) s1=some r→lpW ctx 0 [1,4,5,21,22] [1,4,5] ZwB [(.ptr 0 0),(.sl 1 1),(.sl 2 1),(.d (Zb (a.work.length:Int))),(.d (Zb s1))] [(.cells [(.d (zL t0 a.work)),(.d (D.list t1 (List.map ZA a.edges)))]),(.arr 1 (List.map Zb s0.1)),(.arr 1 (List.map D.bool s0.2))]=some ((Zkt t0 t1 a s0) r):=
 lpT (Zkt t0 t1 a s0) fun s1 _ ih=>yB (yG fun x2 hx2=>
  Zf (Zn rfl hx2) (yB (Zd (ih _))
  (Zi (ZC _ _) (by
 conv=>rhs;whnf
 refine Zc _ (ZnA _) fun r6 _=>?_
 rcases r6 with r6 | r6
 exact Zd (ih _)
 exact Zf (ZaV rfl hx2) (Zf (Zn rfl hx2) (Zi (Zac D.bool s0.2 s1.toNat true) (yT (Zen (Zhu Zb s0.1 1) (Zi (Zhp Zb s0.1 [s1]) (Zm rfl))
  Zce))))))))
  (Zm rfl)
def Zj7 (t0:Bool) (t1:Bool) (a:Zx):((List Int)⊕(List Int))→Ex×List V×Zh
  | (.inl r)=>(.ret,[(.nilsl 1),(.d (D.bool false)),(.sl 0 1)],[(.arr 1 (List.map Zb r))])
  | (.inr r)=>(.exit 0,[.bad,.bad,(.sl 0 1)],[(.arr 1 (List.map Zb r))])
theorem ZnV {t0 t1:Bool}{a:Zx}:∀(s0:(List Int)×(List Bool)) (r:((List Int)⊕(List Int))),lp (Zgr a) s0=some r→lpW ctx 0 [1,4,5] [2,3,4] Zv2 [(.ptr 0 0),(.sl 1 1),(.sl 2 1)] [(.cells [(.d (zL t0 a.work)),(.d (D.list t1 (List.map ZA a.edges)))]),(.arr 1 (List.map Zb s0.1)),(.arr 1 (List.map D.bool s0.2))]=some ((Zj7 t0 t1 a) r):=
 lpT (Zj7 t0 t1 a) fun s0 _ ih=>Zi (ZC _ _) (Zi (ZC _ _) (yB (Zi (ZC _ _) (by
 conv=>rhs;whnf
 refine Zc _ (ZnG _) fun r7 _=>?_
 rcases r7 with r7 | r7
 exact Zd (ih _)
 exact Zm rfl))
  (Zm rfl)))
theorem ZlK {t0 t1:Bool}{a:Zx}:∀r,(Zgc a)=some r→evD ctx 144 [(.d (D.agg [(zL t0 a.work),(D.list t1 (List.map ZA a.edges))]))]=some (Zrf r):=
 evT Zyl rfl rfl <| Zi (ZC _ _) (yBm (Zi (Zjz D.bool (false:Bool) (a.work.length:Int)) (by
 conv=>rhs;whnf
 refine Zc _ (ZnV _) fun r8 _=>?_
 rcases r8 with r8 | r8
 exact yR
 exact yR)))
def Zrn (r:Int):D:=(Zb r)
def Zkc (t0:Bool) (t1:Bool) (a:Zx):(Unit⊕Unit)→Ex×List V×Zh
  | (.inl r)=>(.ret,[(.ptr 0 0),(.d (Zb 42))],[(.cells [(.d (zL t0 a.work)),(.d (D.list t1 (List.map ZA a.edges)))])])
  | (.inr r)=>(.exit 0,[(.ptr 0 0),.bad],[(.cells [(.d (zL t0 a.work)),(.d (D.list t1 (List.map ZA a.edges)))])])
theorem ZnX {t0 t1:Bool}{a:Zx}:∀(s1:Int) (r:(Unit⊕Unit)),lp (Zfg a) s1=some r→lpW ctx 0 [1,3,23,24,25] [1,2] ZyX [(.ptr 0 0),(.fn 143 [(.ptr 0 0)]),(.d (D.list t1 (List.map ZA a.edges))),(.d (Zb (a.edges.length:Int))),(.d (Zb s1))] [(.cells [(.d (zL t0 a.work)),(.d (D.list t1 (List.map ZA a.edges)))])]=some ((Zkc t0 t1 a) r):=
 lpT (Zkc t0 t1 a) fun s1 _ ih=>yB (yG fun x2 _=>
  yC Zkb fun x3 _=>
  yB (yC Zkb fun x4 _=>
  yB (yB (Zm rfl)
  (yBm (Zen (Zy1 ZA a.edges s1.toNat) (yT (Zi (Zta ZA a.edges s1.toNat) (yC Zho fun x5 _=>
  yB (Zm rfl)
  (Zd (ih _)))))
  Zce)))
  (Zm rfl))
  (Zm rfl))
  (Zm rfl)
theorem Zgn {t0 t1:Bool}{a:Zx}:∀r,(Zfo a)=some r→evD ctx 85 [(.d (D.agg [(zL t0 a.work),(D.list t1 (List.map ZA a.edges))]))]=some (Zrn r):=
 evT ZB8 rfl rfl <| Zi (ZC _ _) (yBr (Zi (ZC _ _) (yBr (yC ZeA fun x0 _=>
  yBr (Zi (ZC _ _) (by
 conv=>rhs;whnf
 refine Zc _ (ZnX _) fun r6 _=>?_
 rcases r6 with r6 | r6
 exact yR
 exact yC ZlK fun x7 _=>
  yBr yR))))))
def ZnS (r:Bool):D:=(D.bool r)
theorem Zm5 {a:Int}:∀r,(Zdi a)=some r→evD ctx 127 [(.d (Zb a))]=some (ZnS r):=
 evT Zzw rfl rfl <| yBr (yBr yR)
def Ze0 (r:Int):D:=(Zb r)
def Zb5 (t0:Bool) (a:List Int):(Int⊕Unit)→Ex×List V×Zh
  | (.inl r)=>(.ret,[(.d (Zb r))],[])
  | (.inr r)=>(.exit 0,[.bad],[])
theorem Zd7 {t0:Bool}{a:List Int}:∀(s0:Int) (r:(Int⊕Unit)),lp (ZL a (fun z0=>Zdi z0)) s0=some r→lpW ctx 0 [0,1,7,8] [4] Zod [(.d (zL t0 a)),(.d (D.fn 127 [])),(.d (Zb (a.length:Int))),(.d (Zb s0))] []=some ((Zb5 t0 a) r):=
 lpT (Zb5 t0 a) fun s0 _ ih=>yB (yG fun x1 _=>
  yC Zm5 fun x2 _=>
  yB (Zm rfl)
  (Zd (ih _)))
  (Zm rfl)
theorem ZeT {t0:Bool}{a:List Int}:∀r,(Z4 a (fun z0=>Zdi z0))=some r→evD ctx 94 [(.d (zL t0 a)),(.d (D.fn 127 []))]=some (Ze0 r):=
 evT Zvh rfl rfl <| Zi (ZC _ _) (by
 conv=>rhs;whnf
 refine Zc _ (Zd7 _) fun r3 _=>?_
 rcases r3 with r3 | r3
 exact yR
 exact yR)
def Zei (r:Bool):D:=(D.bool r)
theorem Zd8 {t0:Bool}{a:List Int}:∀r,(ZX a (fun z0=>Zdi z0))=some r→evD ctx 44 [(.d (zL t0 a)),(.d (D.fn 127 []))]=some (Zei r):=
 evT Zxl rfl rfl <| yC ZeT fun x0 _=>
  yBr yR
def Zo2 (r:(Bool×Int)):D:=(D.tup [(D.bool r.1),(Zb r.2)])
theorem ZhV {t0 t1 t2:Bool}{a:Zx}{b:List Int}{c:Int}:∀r,(ZfL a b c)=some r→evD ctx 73 [(.d (D.agg [(zL t0 a.work),(D.list t1 (List.map ZA a.edges))])),(.d (zL t2 b)),(.d (Zb c))]=some (Zo2 r):=
 evT ZCg rfl rfl <| yC Zgn fun x0 _=>
  yBr (Zi (ZC _ _) (Zi (ZC _ _) (yB (yC Zd8 fun x1 _=>
  yBr (yB (yBr yR)
  yR))
  yR)))
def Zn3 (r:Bool):D:=(D.bool r)
theorem ZnN {t0:Bool}{a:List Int}{b0:Int}:∀r,(ZcB a b0)=some r→evD ctx 118 [(.d (zL t0 a)),(.d (D.rptr [(Zb b0)]))]=some (Zn3 r):=
 evT Zzt rfl rfl <| Zi (ZC _ _) (yBr yR)
def ZeV (r:Int):D:=(Zb r)
def ZbY (t0:Bool) (a:(List (List Int))) (b0:Int):(Int⊕Unit)→Ex×List V×Zh
  | (.inl r)=>(.ret,[(.d (Zb r))],[])
  | (.inr r)=>(.exit 0,[.bad],[])
theorem Zd2 {t0:Bool}{a:(List (List Int))}{b0:Int}:∀(s0:Int) (r:(Int⊕Unit)),lp (ZbB a (fun z0=>ZcB z0 b0)) s0=some r→lpW ctx 0 [0,1,7,8] [4] Zv9 [(.d (D.list t0 (List.map (ZdU true) a))),(.d (D.fn 118 [(D.rptr [(Zb b0)])])),(.d (Zb (a.length:Int))),(.d (Zb s0))] []=some ((ZbY t0 a b0) r):=
 lpT (ZbY t0 a b0) fun s0 _ ih=>yB (yG fun x1 _=>
  yC ZnN fun x2 _=>
  yB (Zm rfl)
  (Zd (ih _)))
  (Zm rfl)
theorem ZeG {t0:Bool}{a:(List (List Int))}{b0:Int}:∀r,(Zb0 a (fun z0=>ZcB z0 b0))=some r→evD ctx 170 [(.d (D.list t0 (List.map (ZdU true) a))),(.d (D.fn 118 [(D.rptr [(Zb b0)])]))]=some (ZeV r):=
 evT ZyJ rfl rfl <| Zi (ZC _ _) (by
 conv=>rhs;whnf
 refine Zc _ (Zd2 _) fun r3 _=>?_
 rcases r3 with r3 | r3
 exact yR
 exact yR)
def Zd5 (r:Bool):D:=(D.bool r)
theorem ZbT {t0:Bool}{a:(List (List Int))}{b0:Int}:∀r,(Z9 a (fun z0=>ZcB z0 b0))=some r→evD ctx 119 [(.d (D.list t0 (List.map (ZdU true) a))),(.d (D.fn 118 [(D.rptr [(Zb b0)])]))]=some (Zd5 r):=
 evT Zzm rfl rfl <| yC ZeG fun x0 _=>
  yBr yR
def Zo0 (t0:Bool) (a:List Int):(List Int)→V×Zh
  | r=>((.ptr 0 0),[(.cells [(.d (zL t0 a)),(.sl 1 1),(.sl 2 2),(.sl 3 1)]),(.arr 1 (List.map Zb (List.replicate (a.length:Int).toNat (0:Int)))),(.arr 2 (List.map ZcW (List.replicate (a.length:Int).toNat ((Z8.mk 0 0):Z8)))),(.arr 1 (List.map Zb r))])
def Zji (t0:Bool) (a:List Int):(List Int)→Ex×List V×Zh
  | r=>(.exit 0,[(.ptr 0 0)],[(.cells [(.d (zL t0 a)),(.sl 1 1),(.sl 2 2),(.sl 3 1)]),(.arr 1 (List.map Zb (List.replicate (a.length:Int).toNat (0:Int)))),(.arr 2 (List.map ZcW (List.replicate (a.length:Int).toNat ((Z8.mk 0 0):Z8)))),(.arr 1 (List.map Zb r))])
theorem Zmq {t0:Bool}{a:List Int}:∀(s0:Int×(List Int)) (r:List Int),lp (ZcL a) s0=some r→lpW ctx 0 [3,18,19] [3] Zwe [(.ptr 0 0),(.d (Zb (a.length:Int))),(.d (Zb s0.1))] [(.cells [(.d (zL t0 a)),(.sl 1 1),(.sl 2 2),(.sl 3 1)]),(.arr 1 (List.map Zb (List.replicate (a.length:Int).toNat (0:Int)))),(.arr 2 (List.map ZcW (List.replicate (a.length:Int).toNat ((Z8.mk 0 0):Z8)))),(.arr 1 (List.map Zb s0.2))]=some ((Zji t0 a) r):=
 lpT (Zji t0 a) fun s0 _ ih=>yB (yG fun x1 hx1=>
  Zf (Zn rfl hx1) (Zi (Zac Zb s0.2 s0.1.toNat (-1)) (Zd (ih _))))
  (Zm rfl)
theorem Zky {t0:Bool}{a:List Int}:∀r,(ZgJ a)=some r→evW ctx 120 [(.d (zL t0 a))] []=some ((Zo0 t0 a) r):=
 evS Zzh rfl rfl <| Zi (ZC _ _) (yBm (Zi (Zjz Zb (0:Int) (a.length:Int)) (Zi (ZC _ _) (yBm (Zi (Zjz ZcW ((Z8.mk 0 0):Z8) (a.length:Int)) (Zi (ZC _ _) (yBm (Zi (Zjz Zb (0:Int) (a.length:Int)) (Zi (ZC _ _) (Zc _ (Zmq _) fun r2 _=>
  yR))))))))))
def Zja (r:Int):D:=(Zb r)
def Zfr (t0:Bool) (a:List Int) (b:Int):(Int⊕Unit)→Ex×List V×Zh
  | (.inl r)=>(.ret,[(.d (Zb r))],[])
  | (.inr r)=>(.exit 0,[.bad],[])
theorem ZhR {t0:Bool}{a:List Int}{b:Int}:∀(s0:Int) (r:(Int⊕Unit)),lp (Zcw a b) s0=some r→lpW ctx 0 [0,1,7,8] [4] Zvw [(.d (zL t0 a)),(.d (Zb b)),(.d (Zb (a.length:Int))),(.d (Zb s0))] []=some ((Zfr t0 a b) r):=
 lpT (Zfr t0 a b) fun s0 _ ih=>yB (yG fun x1 _=>
  yB (Zm rfl)
  (Zd (ih _)))
  (Zm rfl)
theorem ZiQ {t0:Bool}{a:List Int}{b:Int}:∀r,(ZeP a b)=some r→evD ctx 123 [(.d (zL t0 a)),(.d (Zb b))]=some (Zja r):=
 evT ZzA rfl rfl <| Zi (ZC _ _) (by
 conv=>rhs;whnf
 refine Zc _ (ZhR _) fun r2 _=>?_
 rcases r2 with r2 | r2
 exact yR
 exact yR)
def Zia (r:Bool):D:=(D.bool r)
theorem Zai {t0:Bool}{a:List Int}{b:Int}:∀r,(Z2 a b)=some r→evD ctx 71 [(.d (zL t0 a)),(.d (Zb b))]=some (Zia r):=
 evT ZCO rfl rfl <| yC ZiQ fun x0 _=>
  yBr yR
def Zmo (r:Bool):D:=(D.bool r)
theorem Zl1 {t0 t1:Bool}{t2 t3:Bool}{a0:List Int}{a1:List Int}{a2:List Z8}{a3:List Int}{b c:Int}:∀r,(Zf1 a3 b c)=some r→evD ctx 126 [(.d (D.rptr [(zL t0 a0),(zL t1 a1),(D.list t2 (List.map ZcW a2)),(zL t3 a3)])),(.d (Zb b)),(.d (Zb c))]=some (Zmo r):=
 evT Zzr rfl rfl <| yG fun x0 hx0=>
  yB (Zf (ZaV rfl hx0) (yBr yR))
  yR
def Zlr (r:Bool):D:=(D.bool r)
theorem Zk4 {t0 t1:Bool}{t2 t3:Bool}{a:Zy}{b0:Int}{c0:List Int}{c1:List Int}{c2:List Z8}{c3:List Int}{d0:Int}:∀r,(ZcD a b0 c3 d0)=some r→evD ctx 125 [(.d (D.agg [(Zb a.src),(Zb a.dst)])),(.d (D.rptr [(Zb b0)])),(.d (D.rptr [(D.rptr [(zL t0 c0),(zL t1 c1),(D.list t2 (List.map ZcW c2)),(zL t3 c3)])])),(.d (D.rptr [(Zb d0)]))]=some (Zlr r):=
 evT Zy9 rfl rfl <| yB (yC Zl1 fun x0 _=>
  yBr yR)
  yR
def ZdJ (r:Int):D:=(Zb r)
def Zby (t0:Bool) (t1:Bool) (t2:Bool) (t3:Bool) (t4:Bool) (a:List Zy) (b0:Int) (b1:List Int) (b2:List Int) (b3:List Z8) (b4:List Int) (b5:Int):(Int⊕Unit)→Ex×List V×Zh
  | (.inl r)=>(.ret,[(.d (Zb r))],[])
  | (.inr r)=>(.exit 0,[.bad],[])
theorem Zdb {t0 t1:Bool}{t2 t3 t4:Bool}{a:List Zy}{b0:Int}{b1:List Int}{b2:List Int}{b3:List Z8}{b4:List Int}{b5:Int}:∀(s0:Int) (r:(Int⊕Unit)),lp (Za6 a (fun z0=>ZcD z0 b0 b4 b5)) s0=some r→lpW ctx 0 [0,1,7,8] [4] ZsW [(.d (D.list t0 (List.map ZA a))),(.d (D.fn 125 [(D.rptr [(Zb b0)]),(D.rptr [(D.rptr [(zL t1 b1),(zL t2 b2),(D.list t3 (List.map ZcW b3)),(zL t4 b4)])]),(D.rptr [(Zb b5)])])),(.d (Zb (a.length:Int))),(.d (Zb s0))] []=some ((Zby t0 t1 t2 t3 t4 a b0 b1 b2 b3 b4 b5) r):=
 lpT (Zby t0 t1 t2 t3 t4 a b0 b1 b2 b3 b4 b5) fun s0 _ ih=>yB (yG fun x1 _=>
  yC Zk4 fun x2 _=>
  yB (Zm rfl)
  (Zd (ih _)))
  (Zm rfl)
theorem Zdx {t0 t1:Bool}{t2 t3 t4:Bool}{a:List Zy}{b0:Int}{b1:List Int}{b2:List Int}{b3:List Z8}{b4:List Int}{b5:Int}:∀r,(Zb2 a (fun z0=>ZcD z0 b0 b4 b5))=some r→evD ctx 171 [(.d (D.list t0 (List.map ZA a))),(.d (D.fn 125 [(D.rptr [(Zb b0)]),(D.rptr [(D.rptr [(zL t1 b1),(zL t2 b2),(D.list t3 (List.map ZcW b3)),(zL t4 b4)])]),(D.rptr [(Zb b5)])]))]=some (ZdJ r):=
 evT ZvX rfl rfl <| Zi (ZC _ _) (by
 conv=>rhs;whnf
 refine Zc _ (Zdb _) fun r3 _=>?_
 rcases r3 with r3 | r3
 exact yR
 exact yR)
def Zdl (r:Bool):D:=(D.bool r)
theorem Zdc {t0 t1:Bool}{t2 t3 t4:Bool}{a:List Zy}{b0:Int}{b1:List Int}{b2:List Int}{b3:List Z8}{b4:List Int}{b5:Int}:∀r,(ZaF a (fun z0=>ZcD z0 b0 b4 b5))=some r→evD ctx 124 [(.d (D.list t0 (List.map ZA a))),(.d (D.fn 125 [(D.rptr [(Zb b0)]),(D.rptr [(D.rptr [(zL t1 b1),(zL t2 b2),(D.list t3 (List.map ZcW b3)),(zL t4 b4)])]),(D.rptr [(Zb b5)])]))]=some (Zdl r):=
 evT ZwH rfl rfl <| yC Zdx fun x0 _=>
  yBr yR
def Zmu (r:Bool):D:=(D.bool r)
theorem Zgs {t0 t1:Bool}{t2 t3:Bool}{t4 t5:Bool}{a0:List Int}{a1:List Int}{a2:List Z8}{a3:List Int}{b:Zx}{c d:Int}:∀r,(Zdf a3 b c d)=some r→evD ctx 72 [(.d (D.rptr [(zL t0 a0),(zL t1 a1),(D.list t2 (List.map ZcW a2)),(zL t3 a3)])),(.d (D.agg [(zL t4 b.work),(D.list t5 (List.map ZA b.edges))])),(.d (Zb c)),(.d (Zb d))]=some (Zmu r):=
 evT ZB3 rfl rfl <| yC Zdc fun x0 _=>
  yBr yR
def ZmI (r:Int):D:=(Zb r)
theorem ZiA {t0 t1:Bool}{t2 t3:Bool}{t4 t5 t6:Bool}{a0:List Int}{a1:List Int}{a2:List Z8}{a3:List Int}{b:Zx}{c:List Int}{d e:Int}:∀r,(ZcP a0 a1 a2 a3 b c d e)=some r→evD ctx 121 [(.d (D.rptr [(zL t0 a0),(zL t1 a1),(D.list t2 (List.map ZcW a2)),(zL t3 a3)])),(.d (D.agg [(zL t4 b.work),(D.list t5 (List.map ZA b.edges))])),(.d (zL t6 c)),(.d (Zb d)),(.d (Zb e))]=some (ZmI r):=
 evT Zyb rfl rfl <| yG fun x0 _=>
  yBr (Zi (ZC _ _) (yBr (yBm (Zen (Zy1 Zb c e.toNat) (yT (Zi (Zta Zb c e.toNat) (yC Zai fun x1 _=>
  yBr (yG fun x2 hx2=>
  yG fun x3 _=>
  yBr (Zf (ZaV rfl hx2) (yB (yG fun x4 _=>
  yBr (Zf (ZaV rfl hx2) (yB (yC Zgs fun x5 _=>
  yBr yR)
  yR)))
  (Zf (ZaV rfl hx2) (yB (yC Zgs fun x6 _=>
  yBr yR)
  yR))))))))
  Zce))))
def ZqE (t0:Bool) (t1:Bool) (b:Int) (c:List Int) (m0_0:List Int) (m1_0:List Int) (m2_0:List Z8) (m3_0:List Int):Unit→V×Zh
  | r=>((.d (D.tup [])),[(.cells [(.d (zL t1 m0_0)),(.sl 1 1),(.sl 2 2),(.sl 3 1)]),(.arr 1 (List.map Zb m1_0)),(.arr 2 (List.map ZcW m2_0)),(.arr 1 (List.map Zb m3_0))])
theorem Zo3 {t0 t1:Bool}{b:Int}{c:List Int}{m0_0:List Int}{m1_0:List Int}{m2_0:List Z8}{m3_0:List Int}:∀r,(ZkV b c)=some r→evW ctx 69 [(.ptr 0 0),(.d (Zb b)),(.d (zL t0 c))] [(.cells [(.d (zL t1 m0_0)),(.sl 1 1),(.sl 2 2),(.sl 3 1)]),(.arr 1 (List.map Zb m1_0)),(.arr 2 (List.map ZcW m2_0)),(.arr 1 (List.map Zb m3_0))]=some ((ZqE t0 t1 b c m0_0 m1_0 m2_0 m3_0) r):=
 evS ZC6 rfl rfl <| yR
def ZmM (t0:Bool) (b:Int) (c:Int) (d:Int) (m0_0:List Int) (m1_0:List Int) (m2_0:List Z8) (m3_0:List Int):((List Int)×(List Int))→V×Zh
  | r=>((.d (D.tup [])),[(.cells [(.d (zL t0 m0_0)),(.sl 1 1),(.sl 2 2),(.sl 3 1)]),(.arr 1 (List.map Zb r.1)),(.arr 2 (List.map ZcW (List.set m2_0 b.toNat (Z8.mk c d)))),(.arr 1 (List.map Zb r.2))])
theorem Ziy {t0:Bool}{b c d:Int}{m0_0:List Int}{m1_0:List Int}{m2_0:List Z8}{m3_0:List Int}:∀r,(ZdH b c d m0_0 m1_0 m2_0 m3_0)=some r→evW ctx 122 [(.ptr 0 0),(.d (Zb b)),(.d (Zb c)),(.d (Zb d))] [(.cells [(.d (zL t0 m0_0)),(.sl 1 1),(.sl 2 2),(.sl 3 1)]),(.arr 1 (List.map Zb m1_0)),(.arr 2 (List.map ZcW m2_0)),(.arr 1 (List.map Zb m3_0))]=some ((ZmM t0 b c d m0_0 m1_0 m2_0 m3_0) r):=
 evS ZxT rfl rfl <| yG fun x0 hx0=>
  Zf (Zn rfl hx0) (Zf (ZaV rfl hx0) (Zf (Zn rfl hx0) (Zi (Zac Zb m1_0 b.toNat (w64 (x0+1))) (yG fun x1 hx1=>
  Zf (Zn rfl hx1) (Zi (Zac ZcW m2_0 b.toNat (Z8.mk c d)) (yG fun x2 hx2=>
  Zf (Zn rfl hx2) (yG fun x3 _=>
  yB (yG fun x4 hx4=>
  Zf (Zn rfl hx4) (Zi (Zac Zb m3_0 b.toNat (w64 (c+1))) yR))
  yR)))))))
def Zi5 (t0:Bool) (t1:Bool) (t2:Bool) (t3:Bool) (a:Zx) (b:List Int) (c:Int) (d:(List (List Int))):(Int⊕(Int×(List Int)×(List Z8)×(List Int)))→V×Zh
  | (.inl r)=>((.d (D.tup [(D.nilp),(Zb r)])),[])
  | (.inr r)=>((.tup [(.ptr 0 0),(.d (Zb r.1))]),[(.cells [(.d (zL t2 b)),(.sl 1 1),(.sl 2 2),(.sl 3 1)]),(.arr 1 (List.map Zb r.2.1)),(.arr 2 (List.map ZcW r.2.2.1)),(.arr 1 (List.map Zb r.2.2.2))])
def Zfm (t0:Bool) (t1:Bool) (t2:Bool) (t3:Bool) (a:Zx) (b:List Int) (d:(List (List Int))) (s3:Int×Int×(List Int)×(List Z8)×(List Int)) (x4:List Int):(Int⊕Int)→Ex×List V×Zh
  | (.inl r)=>(.exit 0,[(.d (D.fn 69 [])),(.ptr 0 0),(.d (Zb r)),(.ptr 1 0),(.d (Zb s3.2.1)),(.d (zL true x4)),(.d (D.list t3 (List.map (ZdU true) d))),(.d (Zb (d.length:Int))),(.d (Zb s3.2.1))],[(.cells [(.d (zL t0 a.work)),(.d (D.list t1 (List.map ZA a.edges)))]),(.cells [(.d (zL t2 b)),(.sl 2 1),(.sl 3 2),(.sl 4 1)]),(.arr 1 (List.map Zb s3.2.2.1)),(.arr 2 (List.map ZcW s3.2.2.2.1)),(.arr 1 (List.map Zb s3.2.2.2.2))])
  | (.inr r)=>(.exit 2,[(.d (D.fn 69 [])),(.ptr 0 0),(.d (Zb r)),(.ptr 1 0),(.d (Zb s3.2.1)),(.d (zL true x4)),(.d (D.list t3 (List.map (ZdU true) d))),(.d (Zb (d.length:Int))),(.d (Zb s3.2.1))],[(.cells [(.d (zL t0 a.work)),(.d (D.list t1 (List.map ZA a.edges)))]),(.cells [(.d (zL t2 b)),(.sl 2 1),(.sl 3 2),(.sl 4 1)]),(.arr 1 (List.map Zb s3.2.2.1)),(.arr 2 (List.map ZcW s3.2.2.2.1)),(.arr 1 (List.map Zb s3.2.2.2.2))])
theorem ZhN {t0 t1:Bool}{t2 t3:Bool}{a:Zx}{b:List Int}{d:(List (List Int))}{s3:Int×Int×(List Int)×(List Z8)×(List Int)}{x4:List Int}:∀(s5:Int×Int) (r:(Int⊕Int)),lp (ZfD a b s3 x4) s5=some r→lpW ctx 0 [4,5,13,15,16,17,47,48,49,54,55,56] [4,5,13,15,16,17,47,48,49] ZuK [(.d (D.fn 69 [])),(.ptr 0 0),(.d (Zb s5.1)),(.ptr 1 0),(.d (Zb s3.2.1)),(.d (zL true x4)),(.d (D.list t3 (List.map (ZdU true) d))),(.d (Zb (d.length:Int))),(.d (Zb s3.2.1)),(.d (zL true x4)),(.d (Zb (x4.length:Int))),(.d (Zb s5.2))] [(.cells [(.d (zL t0 a.work)),(.d (D.list t1 (List.map ZA a.edges)))]),(.cells [(.d (zL t2 b)),(.sl 2 1),(.sl 3 2),(.sl 4 1)]),(.arr 1 (List.map Zb s3.2.2.1)),(.arr 2 (List.map ZcW s3.2.2.2.1)),(.arr 1 (List.map Zb s3.2.2.2.2))]=some ((Zfm t0 t1 t2 t3 a b d s3 x4) r):=
 lpT (Zfm t0 t1 t2 t3 a b d s3 x4) fun s5 _ ih=>yB (yG fun x6 _=>
  yB (Zd (ih _))
  (yC ZiA fun x7 _=>
  yB (Zm rfl)
  (Zd (ih _))))
  (Zm rfl)
def Zfq (t0:Bool) (t1:Bool) (t2:Bool) (t3:Bool) (a:Zx) (b:List Int) (d:(List (List Int))) (s3:Int×Int×(List Int)×(List Z8)×(List Int)) (x4:List Int) (r8:Int):((List Int)×(List Z8)×(List Int))→Ex×List V×Zh
  | r=>(.exit 4,[(.d (D.fn 69 [])),(.ptr 0 0),(.d (Zb r8)),(.ptr 1 0),(.d (D.list t3 (List.map (ZdU true) d))),(.d (Zb (d.length:Int))),(.d (Zb s3.2.1))],[(.cells [(.d (zL t0 a.work)),(.d (D.list t1 (List.map ZA a.edges)))]),(.cells [(.d (zL t2 b)),(.sl 2 1),(.sl 3 2),(.sl 4 1)]),(.arr 1 (List.map Zb r.1)),(.arr 2 (List.map ZcW r.2.1)),(.arr 1 (List.map Zb r.2.2))])
theorem ZhM {t0 t1:Bool}{t2 t3:Bool}{a:Zx}{b:List Int}{d:(List (List Int))}{s3:Int×Int×(List Int)×(List Z8)×(List Int)}{x4:List Int}{r8:Int}:∀(s10:Int×(List Int)×(List Z8)×(List Int)) (r:((List Int)×(List Z8)×(List Int))),lp (ZfA b s3 x4) s10=some r→lpW ctx 0 [4,5,13,15,16,47,48,49,77,78,79] [4,5,13,15,47,48,49] ZuT [(.d (D.fn 69 [])),(.ptr 0 0),(.d (Zb r8)),(.ptr 1 0),(.d (Zb s3.2.1)),(.d (D.list t3 (List.map (ZdU true) d))),(.d (Zb (d.length:Int))),(.d (Zb s3.2.1)),(.d (zL true x4)),(.d (Zb (x4.length:Int))),(.d (Zb s10.1))] [(.cells [(.d (zL t0 a.work)),(.d (D.list t1 (List.map ZA a.edges)))]),(.cells [(.d (zL t2 b)),(.sl 2 1),(.sl 3 2),(.sl 4 1)]),(.arr 1 (List.map Zb s10.2.1)),(.arr 2 (List.map ZcW s10.2.2.1)),(.arr 1 (List.map Zb s10.2.2.2))]=some ((Zfq t0 t1 t2 t3 a b d s3 x4 r8) r):=
 lpT (Zfq t0 t1 t2 t3 a b d s3 x4 r8) fun s10 _ ih=>yB (yG fun x11 _=>
  yB (Zc _ Ziy fun x12 _=>
  Zd (ih _))
  (Zd (ih _)))
  (Zm rfl)
def Zfn (t0:Bool) (t1:Bool) (t2:Bool) (t3:Bool) (a:Zx) (b:List Int) (d:(List (List Int))):(Int×(List Int)×(List Z8)×(List Int))→Ex×List V×Zh
  | r=>(.exit 0,[(.d (Zb r.1)),(.ptr 0 0)],[(.cells [(.d (zL t2 b)),(.sl 1 1),(.sl 2 2),(.sl 3 1)]),(.arr 1 (List.map Zb r.2.1)),(.arr 2 (List.map ZcW r.2.2.1)),(.arr 1 (List.map Zb r.2.2.2))])
theorem Zh0 {t0 t1:Bool}{t2 t3:Bool}{a:Zx}{b:List Int}{d:(List (List Int))}:∀(s3:Int×Int×(List Int)×(List Z8)×(List Int)) (r:(Int×(List Int)×(List Z8)×(List Int))),lp (Zeq a b d) s3=some r→lpW ctx 0 [4,5,13,15,47,48,49] [13,15] ZuV [(.d (D.fn 69 [])),(.ptr 0 0),(.d (Zb s3.1)),(.ptr 1 0),(.d (D.list t3 (List.map (ZdU true) d))),(.d (Zb (d.length:Int))),(.d (Zb s3.2.1))] [(.cells [(.d (zL t0 a.work)),(.d (D.list t1 (List.map ZA a.edges)))]),(.cells [(.d (zL t2 b)),(.sl 2 1),(.sl 3 2),(.sl 4 1)]),(.arr 1 (List.map Zb s3.2.2.1)),(.arr 2 (List.map ZcW s3.2.2.2.1)),(.arr 1 (List.map Zb s3.2.2.2.2))]=some ((Zfn t0 t1 t2 t3 a b d) r):=
 lpT (Zfn t0 t1 t2 t3 a b d) fun s3 _ ih=>yB (yG fun x4 _=>
  Zi (ZC _ _) (by
 conv=>rhs;whnf
 refine Zc _ (ZhN _) fun r8 _=>?_
 rcases r8 with r8 | r8
 exact Zm rfl
 exact Zc _ Zo3 fun x9 _=>
  Zi (ZC _ _) (Zc _ (ZhM _) fun r13 _=>
  Zd (ih _))))
  (Zm rfl)
theorem Zf6 {t0 t1:Bool}{t2 t3:Bool}{a:Zx}{b:List Int}{c:Int}{d:(List (List Int))}:∀r,(Zgy a b c d)=some r→evW ctx 68 [(.d (D.agg [(zL t0 a.work),(D.list t1 (List.map ZA a.edges))])),(.d (zL t2 b)),(.d (Zb c)),(.d (D.list t3 (List.map (ZdU true) d))),(.d (D.fn 69 []))] []=some ((Zi5 t0 t1 t2 t3 a b c d) r):=
 evS ZAA rfl rfl <| yC ZhV fun x0 _=>
  yB (yBr (Zi (ZC _ _) (yBr (yC ZbT fun x1 _=>
  yBr (Zc _ Zky fun x2 _=>
  Zi (ZC _ _) (Zc _ (Zh0 _) fun r14 _=>
  yR))))))
  (yBr yR)
def Zpe (r:Int):D:=(Zb r)
theorem Zj3 {t0 t1:Bool}{t2 t3:Bool}{a:Zx}{b:List Int}{c:Int}{d:(List (List Int))}:∀r,(ZeQ a b c d)=some r→evD ctx 31 [(.d (D.agg [(zL t0 a.work),(D.list t1 (List.map ZA a.edges))])),(.d (zL t2 b)),(.d (Zb c)),(.d (D.list t3 (List.map (ZdU true) d)))]=some (Zpe r):=
 evT ZCs rfl rfl <| (by
 conv=>rhs;whnf
 refine Zc _ Zf6 fun x0 _=>?_
 rcases x0 with x0 | x0
 exact yR
 exact yR)
def Zi3 (t0:Bool) (a:List Int):Unit→V×Zh
  | r=>((.sl 0 1),[(.arr 1 (List.map Zb a))])
theorem Zbf {t0:Bool}{a:List Int}:∀r,(ZaE a)=some r→evW ctx 47 [(.d (zL t0 a))] []=some ((Zi3 t0 a) r):=
 evS ZB6 rfl rfl <| Zr4 (ZlY (f:=Zb) (fun _=>⟨rfl,rfl⟩) a 0) (Zen (ZnT Zb a) (Zi (rfl:_=List.map Zb a) yR)
  Zce)
def Zs4 (t0:Bool) (t1:Bool) (t2:Bool) (a:Zx) (b:List Int) (c:Int):(Int⊕(List Int))→V×Zh
  | (.inl r)=>((.tup [(.agg [(.nilsl 1),(.nilsl 1)]),(.d (Zb r))]),[])
  | (.inr r)=>((.tup [(.agg [(.sl 0 1),(.sl 1 1)]),(.d (Zb 0))]),[(.arr 1 (List.map Zb r)),(.arr 1 (List.map Zb b))])
def Zld (b:List Int) (c:Int):(List Int)→Ex×List V×Zh
  | r=>(.exit 0,[(.ptr 0 0),(.ptr 1 0)],[(.cells [(.sl 2 1),(.sl 3 1)]),(.cells [(.sl 4 1),(.sl 5 1)]),(.arr 1 []),(.arr 1 []),(.arr 1 (List.map Zb r)),(.arr 1 (List.map Zb b))])
theorem Zoe {b:List Int}{c:Int}:∀(s2:Int×(List Int)) (r:List Int),lp (ZfI c) s2=some r→lpW ctx 0 [6,9,21,22] [6,9] ZAl [(.ptr 0 0),(.ptr 1 0),(.d (Zb c)),(.d (Zb s2.1))] [(.cells [(.sl 2 1),(.sl 3 1)]),(.cells [(.sl 4 1),(.sl 5 1)]),(.arr 1 []),(.arr 1 []),(.arr 1 (List.map Zb s2.2)),(.arr 1 (List.map Zb b))]=some ((Zld b c) r):=
 lpT (Zld b c) fun s2 _ ih=>yB (yT (Zen (Zhu Zb s2.2 1) (Zi (Zhp Zb s2.2 [(-1)]) (Zd (ih _)))
  Zce))
  (Zm rfl)
theorem Zrb {t0 t1 t2:Bool}{a:Zx}{b:List Int}{c:Int}:∀r,(Zk9 a b c)=some r→evW ctx 51 [(.d (D.agg [(zL t0 a.work),(D.list t1 (List.map ZA a.edges))])),(.d (zL t2 b)),(.d (Zb c))] []=some ((Zs4 t0 t1 t2 a b c) r):=
 evS ZCE rfl rfl <| yC Zj3 fun x0 _=>
  yBr (Zc _ Zbf fun x1 _=>
  Zc _ (Zoe _) fun r3 _=>
  yR)
def Zrq (r:Int):D:=(Zb r)
theorem ZlA {a:Int}:∀r,(Zh9 a)=some r→evD ctx 156 [(.d (Zb a))]=some (Zrq r):=
 evT ZzY rfl rfl <| yBr (yBr yR)
def Zjm (r:Int):D:=(Zb r)
theorem ZiX {a:Int}:∀r,(Zdg a)=some r→evD ctx 184 [(.d (D.int .u64 a))]=some (Zjm r):=
 evT ZxI rfl rfl <| yF (yF (yF (yF (yF (yF yR)))))
def Zkx (r:Int):D:=(Zb r)
theorem ZjW {a:Int}:∀r,(Zd3 a)=some r→evD ctx 157 [(.d (D.int .u64 a))]=some (Zkx r):=
 evT ZAg rfl rfl <| yC ZiX fun x0 _=>
  yR
theorem ZD9 (n:Int):0≤u64.wrap n∧u64.wrap n<18446744073709551616:=by
  have:u64.wrap n=n % 18446744073709551616:=by
    show(if (false&&decide (n % 18446744073709551616 ≥ 9223372036854775808))=true then n % 18446744073709551616-18446744073709551616 else n % 18446744073709551616)=_
    simp
  rw[this]
  omega
theorem ZFF (n:Int):∃j:Nat,j<64∧(u64.wrap n).fdiv (2 ^ (min (Int.toNat 58) u64.bits))=(j:Int):=by
  obtain⟨h1,h2⟩:=ZD9 n
  have e:(2:Int) ^ (min (Int.toNat 58) u64.bits)=288230376151711744:=by decide
  rw[e,Int.fdiv_eq_ediv_of_nonneg _ (by omega)]
  refine⟨((u64.wrap n) / 288230376151711744).toNat,?_,?_⟩<;>omega
theorem ZF0:∀j:Nat,j<64→Zdq [] 1 false (.d (.rptr (Zzf.drop (j*1))))=some (.d (.int .u8 (Ztg.getD j 0))):=by
  have key:((List.range 64).all fun j=>match Zdq [] 1 false (.d (.rptr (Zzf.drop (j*1)))) with | some (.d (.int .u8 z))=>z==Ztg.getD j 0 | _=>false)=true:=by rfl
  intro j hj
  have:=List.all_eq_true.1 key j (by simpa using hj)
  split at this
  · rename_i z hz
    rw[hz,eq_of_beq this]
  · cases this
def Zii (r:Int):D:=Zb r
theorem ZhL (a:Int):∀r,Zdw a=some r→evD ctx 186 [.d (.int .u64 a)]=some (Zii r):=by
  intro r hr
  unfold Zdw at hr
  have hr:=Option.some.inj hr
  subst hr
  rw[ZBL ctx 186 Zys _ rfl rfl]
  by_cases h:(a==0)=true
  · conv=>lhs;whnf
    rw[h,ZA6]
    rfl
  · replace h:(a==0)=false:=by simpa using h
    obtain⟨j,hj,e⟩:=ZFF (u64.wrap ((Ze a &&& Ze (u64.wrap (0-a))).toNat:Int)*285870213051353865)
    conv=>lhs;whnf
    rw[h,ZBw]
    conv=>lhs;whnf
    refine(ZFH (by rfl)).trans ?_
    conv=>lhs;whnf
    rw[e]
    refine(ZDO (by simp;omega)).trans ?_
    conv=>lhs;whnf
    erw [ZF0 j hj]
    rfl
def ZiP (r:Int):D:=(Zb r)
theorem Ziw {a:Int}:∀r,(Zeo a)=some r→evD ctx 158 [(.d (D.int .u64 a))]=some (ZiP r):=
 evT ZyO rfl rfl <| yC (ZhL _) fun x0 _=>
  yR
def ZtC (r:(Int×Bool)):D:=(D.tup [(Zb r.1),(D.bool r.2)])
theorem Znz {a:Int}:∀r,(ZiT a)=some r→evD ctx 103 [(.d (Zb a))]=some (ZtC r):=
 evT Zy3 rfl rfl <| yC ZlA fun x0 _=>
  yBr (yC ZjW fun x1 _=>
  yBr (yC Ziw fun x2 _=>
  yR))
def Zrp (r:(Zk×Int)):D:=(D.tup [(D.agg [(zL true r.1.ring),(Zb r.1.top),(Zb r.1.bottom)]),(Zb r.2)])
theorem Zq2 {a:Int}:∀r,(ZjF a)=some r→evD ctx 52 [(.d (Zb a))]=some (Zrp r):=
 evT ZDf rfl rfl <| yC Znz fun x0 _=>
  yB (yBr (yBm (Zi (Zjz Zb (0:Int) a) yR)))
  yR
def Zoy (r:Bool):D:=(D.bool r)
theorem Znc {a:Int}:∀r,(ZdM a)=some r→evD ctx 166 [(.d (Zb a))]=some (Zoy r):=
 evT Zyq rfl rfl <| yBr (yBr yR)
def Zfa (r:Int):D:=(Zb r)
def Zca (t0:Bool) (a:List Int):(Int⊕Unit)→Ex×List V×Zh
  | (.inl r)=>(.ret,[(.d (Zb r))],[])
  | (.inr r)=>(.exit 0,[.bad],[])
theorem Zem {t0:Bool}{a:List Int}:∀(s0:Int) (r:(Int⊕Unit)),lp (ZL a (fun z0=>ZdM z0)) s0=some r→lpW ctx 0 [0,1,7,8] [4] Zod [(.d (zL t0 a)),(.d (D.fn 166 [])),(.d (Zb (a.length:Int))),(.d (Zb s0))] []=some ((Zca t0 a) r):=
 lpT (Zca t0 a) fun s0 _ ih=>yB (yG fun x1 _=>
  yC Znc fun x2 _=>
  yB (Zm rfl)
  (Zd (ih _)))
  (Zm rfl)
theorem ZeZ {t0:Bool}{a:List Int}:∀r,(Z4 a (fun z0=>ZdM z0))=some r→evD ctx 94 [(.d (zL t0 a)),(.d (D.fn 166 []))]=some (Zfa r):=
 evT Zvh rfl rfl <| Zi (ZC _ _) (by
 conv=>rhs;whnf
 refine Zc _ (Zem _) fun r3 _=>?_
 rcases r3 with r3 | r3
 exact yR
 exact yR)
def ZeE (r:Bool):D:=(D.bool r)
theorem Zej {t0:Bool}{a:List Int}:∀r,(ZX a (fun z0=>ZdM z0))=some r→evD ctx 44 [(.d (zL t0 a)),(.d (D.fn 166 []))]=some (ZeE r):=
 evT Zxl rfl rfl <| yC ZeZ fun x0 _=>
  yBr yR
def Zrj (r:Bool):D:=(D.bool r)
theorem Zgj {t0 t1:Bool}{a:ZbM}{b:Int}:∀r,(Zfk a b)=some r→evD ctx 145 [(.d (D.agg [(zL t0 a.on),(zL t1 a.left)])),(.d (Zb b))]=some (Zrj r):=
 evT Zyu rfl rfl <| yG fun x0 _=>
  yBr yR
def Zo7 (r:Bool):D:=(D.bool r)
theorem Zob {t0 t1:Bool}{a:Zy}{b0:Int}{c0:List Int}{c1:List Int}:∀r,(ZfK a b0 c0 c1)=some r→evD ctx 187 [(.d (D.agg [(Zb a.src),(Zb a.dst)])),(.d (D.rptr [(Zb b0)])),(.d (D.rptr [(zL t0 c0),(zL t1 c1)]))]=some (Zo7 r):=
 evT ZxJ rfl rfl <| yB (yC Zgj fun x0 _=>
  yBr yR)
  yR
def ZeY (r:Int):D:=(Zb r)
def Zb4 (t0:Bool) (t1:Bool) (t2:Bool) (a:List Zy) (b0:Int) (b1:List Int) (b2:List Int):(Int⊕Unit)→Ex×List V×Zh
  | (.inl r)=>(.ret,[(.d (Zb r))],[])
  | (.inr r)=>(.exit 0,[.bad],[])
theorem Zd4 {t0 t1 t2:Bool}{a:List Zy}{b0:Int}{b1:List Int}{b2:List Int}:∀(s0:Int) (r:(Int⊕Unit)),lp (Za6 a (fun z0=>ZfK z0 b0 b1 b2)) s0=some r→lpW ctx 0 [0,1,7,8] [4] ZsW [(.d (D.list t0 (List.map ZA a))),(.d (D.fn 187 [(D.rptr [(Zb b0)]),(D.rptr [(zL t1 b1),(zL t2 b2)])])),(.d (Zb (a.length:Int))),(.d (Zb s0))] []=some ((Zb4 t0 t1 t2 a b0 b1 b2) r):=
 lpT (Zb4 t0 t1 t2 a b0 b1 b2) fun s0 _ ih=>yB (yG fun x1 _=>
  yC Zob fun x2 _=>
  yB (Zm rfl)
  (Zd (ih _)))
  (Zm rfl)
theorem ZeN {t0 t1 t2:Bool}{a:List Zy}{b0:Int}{b1:List Int}{b2:List Int}:∀r,(Zb2 a (fun z0=>ZfK z0 b0 b1 b2))=some r→evD ctx 171 [(.d (D.list t0 (List.map ZA a))),(.d (D.fn 187 [(D.rptr [(Zb b0)]),(D.rptr [(zL t1 b1),(zL t2 b2)])]))]=some (ZeY r):=
 evT ZvX rfl rfl <| Zi (ZC _ _) (by
 conv=>rhs;whnf
 refine Zc _ (Zd4 _) fun r3 _=>?_
 rcases r3 with r3 | r3
 exact yR
 exact yR)
def Zel (r:Bool):D:=(D.bool r)
theorem Zd6 {t0 t1 t2:Bool}{a:List Zy}{b0:Int}{b1:List Int}{b2:List Int}:∀r,(ZaF a (fun z0=>ZfK z0 b0 b1 b2))=some r→evD ctx 124 [(.d (D.list t0 (List.map ZA a))),(.d (D.fn 187 [(D.rptr [(Zb b0)]),(D.rptr [(zL t1 b1),(zL t2 b2)])]))]=some (Zel r):=
 evT ZwH rfl rfl <| yC ZeN fun x0 _=>
  yBr yR
def Zrg (r:Bool):D:=(D.bool r)
theorem ZiW {t0 t1:Bool}{t2 t3:Bool}{a:Zx}{b:ZbM}{c:Int}:∀r,(Zha a b c)=some r→evD ctx 159 [(.d (D.agg [(zL t0 a.work),(D.list t1 (List.map ZA a.edges))])),(.d (D.agg [(zL t2 b.on),(zL t3 b.left)])),(.d (Zb c))]=some (Zrg r):=
 evT ZAr rfl rfl <| yC Zd6 fun x0 _=>
  yBr yR
def Zp2 (r:Bool):D:=(D.bool r)
def ZjD (t0:Bool) (t1:Bool) (t2:Bool) (t3:Bool) (a:Zx) (b:ZbM):(Unit⊕Unit)→Ex×List V×Zh
  | (.inl r)=>(.ret,[(.ptr 0 0),(.ptr 1 0),(.d (D.bool false))],[(.cells [(.d (zL t0 a.work)),(.d (D.list t1 (List.map ZA a.edges)))]),(.cells [(.d (zL t2 b.on)),(.d (zL t3 b.left))])])
  | (.inr r)=>(.exit 0,[(.ptr 0 0),(.ptr 1 0),.bad],[(.cells [(.d (zL t0 a.work)),(.d (D.list t1 (List.map ZA a.edges)))]),(.cells [(.d (zL t2 b.on)),(.d (zL t3 b.left))])])
theorem ZmX {t0 t1:Bool}{t2 t3:Bool}{a:Zx}{b:ZbM}:∀(s1:Int) (r:(Unit⊕Unit)),lp (ZfC a b) s1=some r→lpW ctx 0 [2,3,35,36,37] [2,3,4] Zv1 [(.ptr 0 0),(.ptr 1 0),(.d (zL t2 b.on)),(.d (Zb (b.on.length:Int))),(.d (Zb s1))] [(.cells [(.d (zL t0 a.work)),(.d (D.list t1 (List.map ZA a.edges)))]),(.cells [(.d (zL t2 b.on)),(.d (zL t3 b.left))])]=some ((ZjD t0 t1 t2 t3 a b) r):=
 lpT (ZjD t0 t1 t2 t3 a b) fun s1 _ ih=>yB (yG fun x2 _=>
  yB (Zd (ih _))
  (yB (Zm rfl)
  (Zi (ZC _ _) (yB (Zm rfl)
  (yC Zgj fun x3 _=>
  yB (Zm rfl)
  (yBm (Zen (Zy1 Zb b.on s1.toNat) (yT (Zi (Zta Zb b.on s1.toNat) (yC Zai fun x4 _=>
  yB (Zm rfl)
  (yC ZiW fun x5 _=>
  yB (Zd (ih _))
  (Zm rfl)))))
  Zce)))))))
  (Zm rfl)
def ZjH (t0:Bool) (t1:Bool) (t2:Bool) (t3:Bool) (a:Zx) (b:ZbM):(Unit⊕Unit)→Ex×List V×Zh
  | (.inl r)=>(.ret,[(.d (D.bool false))],[])
  | (.inr r)=>(.exit 2,[.bad],[])
theorem ZmN {t0 t1:Bool}{t2 t3:Bool}{a:Zx}{b:ZbM}:∀(s7:Int) (r:(Unit⊕Unit)),lp (ZfE a b) s7=some r→lpW ctx 0 [2,3,76,77] [4] ZvE [(.ptr 0 0),(.ptr 1 0),(.d (Zb (b.left.length:Int))),(.d (Zb s7))] [(.cells [(.d (zL t0 a.work)),(.d (D.list t1 (List.map ZA a.edges)))]),(.cells [(.d (zL t2 b.on)),(.d (zL t3 b.left))])]=some ((ZjH t0 t1 t2 t3 a b) r):=
 lpT (ZjH t0 t1 t2 t3 a b) fun s7 _ ih=>yB (yC Zgj fun x8 _=>
  yB (yC ZiW fun x9 _=>
  yB (Zd (ih _))
  (Zm rfl))
  (Zd (ih _)))
  (Zm rfl)
theorem ZoY {t0 t1:Bool}{t2 t3:Bool}{a:Zx}{b:ZbM}:∀r,(ZiL a b)=some r→evD ctx 114 [(.d (D.agg [(zL t0 a.work),(D.list t1 (List.map ZA a.edges))])),(.d (D.agg [(zL t2 b.on),(zL t3 b.left)]))]=some (Zp2 r):=
 evT ZyQ rfl rfl <| Zi (ZC _ _) (yBr (Zi (ZC _ _) (yBr (Zi (ZC _ _) (Zi (ZC _ _) (yBr (yC Zej fun x0 _=>
  yBr (Zi (ZC _ _) (by
 conv=>rhs;whnf
 refine Zc _ (ZmX _) fun r6 _=>?_
 rcases r6 with r6 | r6
 exact yR
 exact Zi (ZC _ _) (by
 conv=>rhs;whnf
 refine Zc _ (ZmN _) fun r10 _=>?_
 rcases r10 with r10 | r10
 exact yR
 exact yR))))))))))
def ZpI (r:Int):D:=(Zb r)
theorem Zle {t0 t1:Bool}{t2 t3:Bool}{a:Zx}{b:ZbM}:∀r,(Zhy a b)=some r→evD ctx 65 [(.d (D.agg [(zL t0 a.work),(D.list t1 (List.map ZA a.edges))])),(.d (D.agg [(zL t2 b.on),(zL t3 b.left)]))]=some (ZpI r):=
 evT ZDp rfl rfl <| yC Zgn fun x0 _=>
  yB (yC ZoY fun x1 _=>
  yBr yR)
  yR
def Zp0 (r:List Int):D:=(zL true r)
def ZjJ (t0:Bool) (t1:Bool) (t2:Bool) (t3:Bool) (a:Zx) (b:ZbM):(List Int)→Ex×List V×Zh
  | r=>(.exit 0,[(.sl 0 1)],[(.arr 1 (List.map Zb r))])
theorem ZmW {t0 t1:Bool}{t2 t3:Bool}{a:Zx}{b:ZbM}:∀(s0:Int×(List Int)) (r:List Int),lp (Zfz a b) s0=some r→lpW ctx 0 [2,3,5,9,10] [5] ZwC [(.ptr 0 0),(.ptr 1 0),(.sl 2 1),(.d (Zb (b.left.length:Int))),(.d (Zb s0.1))] [(.cells [(.d (zL t0 a.work)),(.d (D.list t1 (List.map ZA a.edges)))]),(.cells [(.d (zL t2 b.on)),(.d (zL t3 b.left))]),(.arr 1 (List.map Zb s0.2))]=some ((ZjJ t0 t1 t2 t3 a b) r):=
 lpT (ZjJ t0 t1 t2 t3 a b) fun s0 _ ih=>yB (yC Zgj fun x1 _=>
  yB (Zd (ih _))
  (yC Zai fun x2 _=>
  yB (Zd (ih _))
  (yC ZiW fun x3 _=>
  yB (yT (Zen (Zhu Zb s0.2 1) (Zi (Zhp Zb s0.2 [s0.1]) (Zd (ih _)))
  Zce))
  (Zd (ih _)))))
  (Zm rfl)
theorem Zo1 {t0 t1:Bool}{t2 t3:Bool}{a:Zx}{b:ZbM}:∀r,(ZkS a b)=some r→evD ctx 104 [(.d (D.agg [(zL t0 a.work),(D.list t1 (List.map ZA a.edges))])),(.d (D.agg [(zL t2 b.on),(zL t3 b.left)]))]=some (Zp0 r):=
 evT ZyB rfl rfl <| Zi (ZC _ _) (Zc _ (ZmW _) fun r4 _=>
  yR)
def ZpO (r:List Int):D:=(zL true r)
theorem Ziu {t0 t1:Bool}{t2 t3:Bool}{a:Zx}{b:ZbM}:∀r,(Zfx a b)=some r→evD ctx 53 [(.d (D.agg [(zL t0 a.work),(D.list t1 (List.map ZA a.edges))])),(.d (D.agg [(zL t2 b.on),(zL t3 b.left)]))]=some (ZpO r):=
 evT ZDm rfl rfl <| yC Zle fun x0 _=>
  yBr (yC Zo1 fun x1 _=>
  yR)
def Zo6 (r:Int):D:=(Zb r)
theorem Zgx {t0:Bool}{a:Zk}:∀r,(ZeK a)=some r→evD ctx 115 [(.d (D.agg [(zL t0 a.ring),(Zb a.top),(Zb a.bottom)]))]=some (Zo6 r):=
 evT Zz2 rfl rfl <| Zi (ZC _ _) (yC Znz fun x0 _=>
  yB (Zi (ZC _ _) (yBr (yC ZlA fun x1 _=>
  yBr (yBr (Zi (ZC _ _) (yBr yR))))))
  yR)
def Zq9 (t0:Bool) (a:Zk):Unit→V×Zh
  | r=>((.agg [(.sl 0 1),(.d (Zb a.top)),(.d (Zb a.bottom))]),[(.arr 1 (List.map Zb a.ring))])
theorem ZlJ {t0:Bool}{a:Zk}:∀r,(Zib a)=some r→evW ctx 160 [(.d (D.agg [(zL t0 a.ring),(Zb a.top),(Zb a.bottom)]))] []=some ((Zq9 t0 a) r):=
 evS ZzV rfl rfl <| Zc _ Zbf fun x0 _=>
  yR
def Zpc (r:Int):D:=(Zb r)
theorem Zgw {t0:Bool}{a:Zk}{b:Int}:∀r,(ZeI a b)=some r→evD ctx 161 [(.d (D.agg [(zL t0 a.ring),(Zb a.top),(Zb a.bottom)])),(.d (Zb b))]=some (Zpc r):=
 evT Zx9 rfl rfl <| Zi (ZC _ _) (yBn yR)
def Zqb (r:(Zk×Int)):D:=(D.tup [(D.agg [(zL true r.1.ring),(Zb r.1.top),(Zb r.1.bottom)]),(Zb r.2)])
theorem Zo4 {t0:Bool}{a:Zk}{b:Int}:∀r,(ZkR a b)=some r→evD ctx 105 [(.d (D.agg [(zL t0 a.ring),(Zb a.top),(Zb a.bottom)])),(.d (Zb b))]=some (Zqb r):=
 evT ZzK rfl rfl <| yC Zgx fun x0 _=>
  yBr (yBr (Zi (ZC _ _) (yBr (Zc _ ZlJ fun x1 _=>
  yC Zgw fun x2 _=>
  yG fun x3 hx3=>
  Zf (Zn rfl hx3) (Zi (Zac Zb a.ring x2.toNat b) yR)))))
def Zmm (t0:Bool) (t1:Bool) (b:Int) (c:Int) (m0_0:List Int) (m0_1:List Zy) (m0_2:Int) (m1_0:List Int) (m2_0:List Int) (m3_0:List Zk) (m4_0:List Zu) (m5_0:List Int):((List Zk)⊕(List Zk))→V×Zh
  | (.inl r)=>((.d (D.bool true)),[(.cells [(.sl 1 1),(.sl 2 1),(.sl 3 3),(.sl 4 6),(.sl 5 1),(.d (zL t0 m0_0)),(.d (D.list t1 (List.map ZA m0_1))),(.d (Zb m0_2))]),(.arr 1 (List.map Zb m1_0)),(.arr 1 (List.map Zb m2_0)),(.arr 3 (List.map Za8 r)),(.arr 6 (List.map Zbm m4_0)),(.arr 1 (List.map Zb m5_0))])
  | (.inr r)=>((.d (D.bool false)),[(.cells [(.sl 1 1),(.sl 2 1),(.sl 3 3),(.sl 4 6),(.sl 5 1),(.d (zL t0 m0_0)),(.d (D.list t1 (List.map ZA m0_1))),(.d (Zb m0_2))]),(.arr 1 (List.map Zb m1_0)),(.arr 1 (List.map Zb m2_0)),(.arr 3 (List.map Za8 r)),(.arr 6 (List.map Zbm m4_0)),(.arr 1 (List.map Zb m5_0))])
theorem Zig {t0 t1:Bool}{b c:Int}{m0_0:List Int}{m0_1:List Zy}{m0_2:Int}{m1_0:List Int}{m2_0:List Int}{m3_0:List Zk}{m4_0:List Zu}{m5_0:List Int}:∀r,(ZeC b c m3_0)=some r→evW ctx 54 [(.ptr 0 0),(.d (Zb b)),(.d (Zb c))] [(.cells [(.sl 1 1),(.sl 2 1),(.sl 3 3),(.sl 4 6),(.sl 5 1),(.d (zL t0 m0_0)),(.d (D.list t1 (List.map ZA m0_1))),(.d (Zb m0_2))]),(.arr 1 (List.map Zb m1_0)),(.arr 1 (List.map Zb m2_0)),(.arr 3 (List.map Za8 m3_0)),(.arr 6 (List.map Zbm m4_0)),(.arr 1 (List.map Zb m5_0))]=some ((Zmm t0 t1 b c m0_0 m0_1 m0_2 m1_0 m2_0 m3_0 m4_0 m5_0) r):=
 evS ZCv rfl rfl <| yG fun x0 hx0=>
  Zf (Zn rfl hx0) (yC Zo4 fun x1 _=>
  yB (Zf (ZaV rfl hx0) (Zf (Zn rfl hx0) (Zi (Zac Za8 m3_0 b.toNat x1.1) (yBr yR))))
  (yBr yR))
def ZrA (t0:Bool) (t1:Bool) (t2:Bool) (a:Zx) (b:List Int) (c:Int):(Int⊕((List Int)×(List Zk)))→V×Zh
  | (.inl r)=>((.tup [(.agg [(.nilsl 1),(.nilsl 1),(.nilsl 3),(.nilsl 6),(.nilsl 1)]),(.d (Zb r))]),[])
  | (.inr r)=>((.tup [(.agg [(.sl 0 1),(.sl 1 1),(.sl 2 3),(.sl 3 6),(.sl 4 1)]),(.d (Zb 0))]),[(.arr 1 (List.map Zb r.1)),(.arr 1 (List.map Zb b)),(.arr 3 (List.map Za8 r.2)),(.arr 6 (List.map Zbm (List.replicate c.toNat ((Zu.mk false 0 0 0 0 0):Zu)))),(.arr 1 (List.map Zb (List.replicate c.toNat (0:Int))))])
def Zko (t0:Bool) (t1:Bool) (a:Zx) (b:List Int) (c:Int) (x0:List Int):(List Zk)→Ex×List V×Zh
  | r=>(.exit 0,[(.d (Zb c)),(.ptr 0 0),(.ptr 1 0),(.ptr 2 0),(.ptr 3 0)],[(.cells [(.d (zL t0 a.work)),(.d (D.list t1 (List.map ZA a.edges)))]),(.cells [(.sl 4 1),(.sl 5 1),(.sl 6 3),(.sl 7 6),(.sl 8 1)]),(.cells [(.sl 9 1),(.sl 10 1)]),(.cells [(.sl 9 1),(.sl 10 1),(.sl 11 3),(.sl 12 6),(.sl 13 1),(.d (zL t0 a.work)),(.d (D.list t1 (List.map ZA a.edges))),(.d (Zb 0))]),(.arr 1 []),(.arr 1 []),(.arr 3 []),(.arr 6 []),(.arr 1 []),(.arr 1 (List.map Zb x0)),(.arr 1 (List.map Zb b)),(.arr 3 (List.map Za8 r)),(.arr 6 (List.map Zbm (List.replicate c.toNat ((Zu.mk false 0 0 0 0 0):Zu)))),(.arr 1 (List.map Zb (List.replicate c.toNat (0:Int))))])
theorem Znh {t0 t1:Bool}{a:Zx}{b:List Int}{c:Int}{x0:List Int}:∀(s1:Int×(List Zk)) (r:List Zk),lp (Zfc c) s1=some r→lpW ctx 0 [2,3,6,8,10,35,36] [2,3,6,8,10] ZxV [(.d (Zb c)),(.ptr 0 0),(.ptr 1 0),(.ptr 2 0),(.ptr 3 0),(.d (Zb c)),(.d (Zb s1.1))] [(.cells [(.d (zL t0 a.work)),(.d (D.list t1 (List.map ZA a.edges)))]),(.cells [(.sl 4 1),(.sl 5 1),(.sl 6 3),(.sl 7 6),(.sl 8 1)]),(.cells [(.sl 9 1),(.sl 10 1)]),(.cells [(.sl 9 1),(.sl 10 1),(.sl 11 3),(.sl 12 6),(.sl 13 1),(.d (zL t0 a.work)),(.d (D.list t1 (List.map ZA a.edges))),(.d (Zb 0))]),(.arr 1 []),(.arr 1 []),(.arr 3 []),(.arr 6 []),(.arr 1 []),(.arr 1 (List.map Zb x0)),(.arr 1 (List.map Zb b)),(.arr 3 (List.map Za8 s1.2)),(.arr 6 (List.map Zbm (List.replicate c.toNat ((Zu.mk false 0 0 0 0 0):Zu)))),(.arr 1 (List.map Zb (List.replicate c.toNat (0:Int))))]=some ((Zko t0 t1 a b c x0) r):=
 lpT (Zko t0 t1 a b c x0) fun s1 _ ih=>yB (yC Zq2 fun x2 _=>
  yT (Zen (Zhu Za8 s1.2 1) (Zi (Zhp Za8 s1.2 [x2.1]) (Zd (ih _)))
  Zce))
  (Zm rfl)
def Zkj (t0:Bool) (t1:Bool) (a:Zx) (b:List Int) (c:Int) (x0:List Int) (x4:List Int):(List Zk)→Ex×List V×Zh
  | r=>(.exit 2,[(.ptr 0 0),(.ptr 1 0)],[(.cells [(.sl 2 1),(.sl 3 1),(.sl 4 3),(.sl 5 6),(.sl 6 1)]),(.cells [(.sl 7 1),(.sl 8 1),(.sl 9 3),(.sl 10 6),(.sl 11 1),(.d (zL t0 a.work)),(.d (D.list t1 (List.map ZA a.edges))),(.d (Zb 0))]),(.arr 1 []),(.arr 1 []),(.arr 3 []),(.arr 6 []),(.arr 1 []),(.arr 1 (List.map Zb x0)),(.arr 1 (List.map Zb b)),(.arr 3 (List.map Za8 r)),(.arr 6 (List.map Zbm (List.replicate c.toNat ((Zu.mk false 0 0 0 0 0):Zu)))),(.arr 1 (List.map Zb (List.replicate c.toNat (0:Int))))])
theorem Zne {t0 t1:Bool}{a:Zx}{b:List Int}{c:Int}{x0:List Int}{x4:List Int}:∀(s5:Int×(List Zk)) (r:List Zk),lp (Ze8 c x4) s5=some r→lpW ctx 0 [2,6,10,57,58,59] [6,10] ZyI [(.d (Zb c)),(.ptr 0 0),(.ptr 1 0),(.d (zL true x4)),(.d (Zb (x4.length:Int))),(.d (Zb s5.1))] [(.cells [(.sl 2 1),(.sl 3 1),(.sl 4 3),(.sl 5 6),(.sl 6 1)]),(.cells [(.sl 7 1),(.sl 8 1),(.sl 9 3),(.sl 10 6),(.sl 11 1),(.d (zL t0 a.work)),(.d (D.list t1 (List.map ZA a.edges))),(.d (Zb 0))]),(.arr 1 []),(.arr 1 []),(.arr 3 []),(.arr 6 []),(.arr 1 []),(.arr 1 (List.map Zb x0)),(.arr 1 (List.map Zb b)),(.arr 3 (List.map Za8 s5.2)),(.arr 6 (List.map Zbm (List.replicate c.toNat ((Zu.mk false 0 0 0 0 0):Zu)))),(.arr 1 (List.map Zb (List.replicate c.toNat (0:Int))))]=some ((Zkj t0 t1 a b c x0 x4) r):=
 lpT (Zkj t0 t1 a b c x0 x4) fun s5 _ ih=>yB (yG fun x6 _=>
  yBn (by
 conv=>rhs;whnf
 refine Zc _ Zig fun x7 _=>?_
 rcases x7 with x7 | x7
 exact Zd (ih _)
 exact Zd (ih _)))
  (Zm rfl)
theorem ZpS {t0 t1 t2:Bool}{a:Zx}{b:List Int}{c:Int}:∀r,(Zhc a b c)=some r→evW ctx 16 [(.d (D.agg [(zL t0 a.work),(D.list t1 (List.map ZA a.edges))])),(.d (zL t2 b)),(.d (Zb c))] []=some ((ZrA t0 t1 t2 a b c) r):=
 evS ZDg rfl rfl <| (by
 conv=>rhs;whnf
 refine Zc _ Zrb fun x0 _=>?_
 rcases x0 with x0 | x0
 exact yBm yR
 exact yF (yBm (Zi (Zjz Zbm ((Zu.mk false 0 0 0 0 0):Zu) c) (yBm (Zi (Zjz Zb (0:Int) c) (Zc _ (Znh _) fun r3 _=>
  yC Ziu fun x4 _=>
  Zi (ZC _ _) (Zc _ (Zne _) fun r8 _=>
  yR)))))))
def ZkC (r:Bool):D:=(D.bool r)
theorem Zkd {t0:Bool}{a:Zk}:∀r,(ZbV a)=some r→evD ctx 112 [(.d (D.agg [(zL t0 a.ring),(Zb a.top),(Zb a.bottom)]))]=some (ZkC r):=
 evT ZAc rfl rfl <| yBr yR
def Zdm (r:Int):D:=(Zb r)
def Zbt (t0:Bool) (a:List Zk):(Int⊕Unit)→Ex×List V×Zh
  | (.inl r)=>(.ret,[(.d (Zb r))],[])
  | (.inr r)=>(.exit 0,[.bad],[])
theorem ZcM {t0:Bool}{a:List Zk}:∀(s0:Int) (r:(Int⊕Unit)),lp (Zbu a (fun z0=>ZbV z0)) s0=some r→lpW ctx 0 [0,1,7,8] [4] Zwx [(.d (D.list t0 (List.map Za8 a))),(.d (D.fn 112 [])),(.d (Zb (a.length:Int))),(.d (Zb s0))] []=some ((Zbt t0 a) r):=
 lpT (Zbt t0 a) fun s0 _ ih=>yB (yG fun x1 _=>
  yC Zkd fun x2 _=>
  yB (Zm rfl)
  (Zd (ih _)))
  (Zm rfl)
theorem Zda {t0:Bool}{a:List Zk}:∀r,(Zcz a (fun z0=>ZbV z0))=some r→evD ctx 165 [(.d (D.list t0 (List.map Za8 a))),(.d (D.fn 112 []))]=some (Zdm r):=
 evT Zyi rfl rfl <| Zi (ZC _ _) (by
 conv=>rhs;whnf
 refine Zc _ (ZcM _) fun r3 _=>?_
 rcases r3 with r3 | r3
 exact yR
 exact yR)
def ZcY (r:Bool):D:=(D.bool r)
theorem ZcO {t0:Bool}{a:List Zk}:∀r,(Zbq a (fun z0=>ZbV z0))=some r→evD ctx 111 [(.d (D.list t0 (List.map Za8 a))),(.d (D.fn 112 []))]=some (ZcY r):=
 evT ZxL rfl rfl <| yC Zda fun x0 _=>
  yBr yR
def Zls (r:List Int):D:=(zL true r)
def Zg9 (t0:Bool) (t1:Bool) (t2:Bool) (t3:Bool) (t4:Bool) (t5:Bool) (t6:Bool) (a0:List Int) (a1:List Int) (a2:List Zk) (a3:List Zu) (a4:List Int) (a5:List Int) (a6:List Zy) (a7:Int):(List Int)→Ex×List V×Zh
  | r=>(.exit 0,[(.sl 0 1)],[(.arr 1 (List.map Zb r))])
theorem ZjN {t0 t1:Bool}{t2 t3:Bool}{t4 t5 t6:Bool}{a0:List Int}{a1:List Int}{a2:List Zk}{a3:List Zu}{a4:List Int}{a5:List Int}{a6:List Zy}{a7:Int}:∀(s1:Int×(List Int)) (r:List Int),lp (ZcI a0) s1=some r→lpW ctx 0 [0,3,4,18,19,20] [4] ZuU [(.d (D.rptr [(zL t0 a0),(zL t1 a1),(D.list t2 (List.map Za8 a2)),(D.list t3 (List.map Zbm a3)),(zL t4 a4),(zL t5 a5),(D.list t6 (List.map ZA a6)),(Zb a7)])),(.d (D.bool true)),(.sl 0 1),(.d (zL t0 a0)),(.d (Zb (a0.length:Int))),(.d (Zb s1.1))] [(.arr 1 (List.map Zb s1.2))]=some ((Zg9 t0 t1 t2 t3 t4 t5 t6 a0 a1 a2 a3 a4 a5 a6 a7) r):=
 lpT (Zg9 t0 t1 t2 t3 t4 t5 t6 a0 a1 a2 a3 a4 a5 a6 a7) fun s1 _ ih=>yB (yG fun x2 _=>
  yB (yT (Zen (Zhu Zb s1.2 1) (Zi (Zhp Zb s1.2 [s1.1]) (Zd (ih _)))
  Zce))
  (Zd (ih _)))
  (Zm rfl)
def Zgz (t0:Bool) (t1:Bool) (t2:Bool) (t3:Bool) (t4:Bool) (t5:Bool) (t6:Bool) (a0:List Int) (a1:List Int) (a2:List Zk) (a3:List Zu) (a4:List Int) (a5:List Int) (a6:List Zy) (a7:Int):(List Int)→Ex×List V×Zh
  | r=>(.exit 0,[(.sl 0 1)],[(.arr 1 (List.map Zb r))])
theorem Zjj {t0 t1:Bool}{t2 t3:Bool}{t4 t5 t6:Bool}{a0:List Int}{a1:List Int}{a2:List Zk}{a3:List Zu}{a4:List Int}{a5:List Int}{a6:List Zy}{a7:Int}:∀(s4:Int×(List Int)) (r:List Int),lp (Zcv a0 a3) s4=some r→lpW ctx 0 [0,3,4,18,19,20] [4] ZuU [(.d (D.rptr [(zL t0 a0),(zL t1 a1),(D.list t2 (List.map Za8 a2)),(D.list t3 (List.map Zbm a3)),(zL t4 a4),(zL t5 a5),(D.list t6 (List.map ZA a6)),(Zb a7)])),(.d (D.bool false)),(.sl 0 1),(.d (zL t0 a0)),(.d (Zb (a0.length:Int))),(.d (Zb s4.1))] [(.arr 1 (List.map Zb s4.2))]=some ((Zgz t0 t1 t2 t3 t4 t5 t6 a0 a1 a2 a3 a4 a5 a6 a7) r):=
 lpT (Zgz t0 t1 t2 t3 t4 t5 t6 a0 a1 a2 a3 a4 a5 a6 a7) fun s4 _ ih=>yB (yG fun x5 _=>
  yB (yG fun x6 _=>
  yB (yT (Zen (Zhu Zb s4.2 1) (Zi (Zhp Zb s4.2 [s4.1]) (Zd (ih _)))
  Zce))
  (Zd (ih _)))
  (Zd (ih _)))
  (Zm rfl)
theorem ZhI {t0 t1:Bool}{t2 t3:Bool}{t4 t5 t6:Bool}{a0:List Int}{a1:List Int}{a2:List Zk}{a3:List Zu}{a4:List Int}{a5:List Int}{a6:List Zy}{a7:Int}:∀r,(ZdN a0 a2 a3)=some r→evD ctx 63 [(.d (D.rptr [(zL t0 a0),(zL t1 a1),(D.list t2 (List.map Za8 a2)),(D.list t3 (List.map Zbm a3)),(zL t4 a4),(zL t5 a5),(D.list t6 (List.map ZA a6)),(Zb a7)]))]=some (Zls r):=
 evT ZCN rfl rfl <| yC ZcO fun x0 _=>
  yB (Zi (ZC _ _) (Zc _ (ZjN _) fun r3 _=>
  yR))
  (Zi (ZC _ _) (Zc _ (Zjj _) fun r7 _=>
  yR))
def Zlp (r:Bool):D:=(D.bool r)
theorem ZkF {t0 t1:Bool}{t2 t3:Bool}{t4 t5 t6:Bool}{a:Int}{b0:List Int}{b1:List Int}{b2:List Zk}{b3:List Zu}{b4:List Int}{b5:List Int}{b6:List Zy}{b7:Int}:∀r,(Zb7 a b7)=some r→evD ctx 147 [(.d (Zb a)),(.d (D.rptr [(D.rptr [(zL t0 b0),(zL t1 b1),(D.list t2 (List.map Za8 b2)),(D.list t3 (List.map Zbm b3)),(zL t4 b4),(zL t5 b5),(D.list t6 (List.map ZA b6)),(Zb b7)])]))]=some (Zlp r):=
 evT ZyR rfl rfl <| yBr yR
def Zd9 (r:Int):D:=(Zb r)
def ZbH (t0:Bool) (t1:Bool) (t2:Bool) (t3:Bool) (t4:Bool) (t5:Bool) (t6:Bool) (t7:Bool) (a:List Int) (b0:List Int) (b1:List Int) (b2:List Zk) (b3:List Zu) (b4:List Int) (b5:List Int) (b6:List Zy) (b7:Int):(Int⊕Unit)→Ex×List V×Zh
  | (.inl r)=>(.ret,[(.d (Zb r))],[])
  | (.inr r)=>(.exit 0,[.bad],[])
theorem Zdn {t0 t1:Bool}{t2 t3:Bool}{t4 t5:Bool}{t6 t7:Bool}{a:List Int}{b0:List Int}{b1:List Int}{b2:List Zk}{b3:List Zu}{b4:List Int}{b5:List Int}{b6:List Zy}{b7:Int}:∀(s0:Int) (r:(Int⊕Unit)),lp (ZL a (fun z0=>Zb7 z0 b7)) s0=some r→lpW ctx 0 [0,1,7,8] [4] Zod [(.d (zL t0 a)),(.d (D.fn 147 [(D.rptr [(D.rptr [(zL t1 b0),(zL t2 b1),(D.list t3 (List.map Za8 b2)),(D.list t4 (List.map Zbm b3)),(zL t5 b4),(zL t6 b5),(D.list t7 (List.map ZA b6)),(Zb b7)])])])),(.d (Zb (a.length:Int))),(.d (Zb s0))] []=some ((ZbH t0 t1 t2 t3 t4 t5 t6 t7 a b0 b1 b2 b3 b4 b5 b6 b7) r):=
 lpT (ZbH t0 t1 t2 t3 t4 t5 t6 t7 a b0 b1 b2 b3 b4 b5 b6 b7) fun s0 _ ih=>yB (yG fun x1 _=>
  yC ZkF fun x2 _=>
  yB (Zm rfl)
  (Zd (ih _)))
  (Zm rfl)
theorem ZdT {t0 t1:Bool}{t2 t3:Bool}{t4 t5:Bool}{t6 t7:Bool}{a:List Int}{b0:List Int}{b1:List Int}{b2:List Zk}{b3:List Zu}{b4:List Int}{b5:List Int}{b6:List Zy}{b7:Int}:∀r,(Z4 a (fun z0=>Zb7 z0 b7))=some r→evD ctx 94 [(.d (zL t0 a)),(.d (D.fn 147 [(D.rptr [(D.rptr [(zL t1 b0),(zL t2 b1),(D.list t3 (List.map Za8 b2)),(D.list t4 (List.map Zbm b3)),(zL t5 b4),(zL t6 b5),(D.list t7 (List.map ZA b6)),(Zb b7)])])]))]=some (Zd9 r):=
 evT Zvh rfl rfl <| Zi (ZC _ _) (by
 conv=>rhs;whnf
 refine Zc _ (Zdn _) fun r3 _=>?_
 rcases r3 with r3 | r3
 exact yR
 exact yR)
def Zmk (r:Int):D:=(Zb r)
theorem Zlv {t0 t1:Bool}{t2 t3:Bool}{t4 t5:Bool}{t6 t7 t8:Bool}{a0:List Int}{a1:List Int}{a2:List Zk}{a3:List Zu}{a4:List Int}{a5:List Int}{a6:List Zy}{a7:Int}{b:List Int}{c:List Int}{d:Int}:∀r,(ZeD a7 b c d)=some r→evD ctx 95 [(.d (D.rptr [(zL t0 a0),(zL t1 a1),(D.list t2 (List.map Za8 a2)),(D.list t3 (List.map Zbm a3)),(zL t4 a4),(zL t5 a5),(D.list t6 (List.map ZA a6)),(Zb a7)])),(.d (zL t7 b)),(.d (zL t8 c)),(.d (Zb d))]=some (Zmk r):=
 evT ZCJ rfl rfl <| Zi (ZC _ _) (yB (yG fun x0 _=>
  Zi (ZC _ _) (yBn (yG fun x1 _=>
  yR)))
  (yC ZdT fun x2 _=>
  yG fun x3 _=>
  yR))
def Zn5 (r:Bool):D:=(D.bool r)
theorem Zf4 {a:Int}:∀r,(ZdV a)=some r→evD ctx 190 [(.d (Zb a))]=some (Zn5 r):=
 evT Zzl rfl rfl <| yBr (yBr yR)
def ZqB (r:Bool):D:=(D.bool r)
theorem Zpf {a:Zu}:∀r,(ZiH a)=some r→evD ctx 167 [(.d (D.agg [(D.bool a.steal),(Zb a.at_),(Zb a.top),(Zb a.bottom),(Zb a.got),(Zb a.end_)]))]=some (ZqB r):=
 evT ZxW rfl rfl <| yB (yB (yB (yB (yBr (yC Zf4 fun x0 _=>
  yBr (yC Zf4 fun x1 _=>
  yBr yR)))
  yR)
  yR)
  yR)
  (yB (yB (yB (yBr (yC Zf4 fun x2 _=>
  yBr (yC Zf4 fun x3 _=>
  yBr yR)))
  yR)
  yR)
  yR)
def ZqQ (m0_0:Int) (m0_1:Int) (m1_0:Bool) (m1_1:Int) (m1_2:Int) (m1_3:Int) (m1_4:Int) (m1_5:Int) (m2_0:List Int):(Unit⊕Unit)→V×Zh
  | (.inl r)=>((.d (D.bool false)),[(.cells [(.sl 2 1),(.d (Zb m0_0)),(.d (Zb m0_1))]),(.cells [(.d (D.bool m1_0)),(.d (Zb m1_1)),(.d (Zb m1_2)),(.d (Zb m1_3)),(.d (Zb m1_4)),(.d (Zb m1_5))]),(.arr 1 (List.map Zb m2_0))])
  | (.inr r)=>((.d (D.bool true)),[(.cells [(.sl 2 1),(.d (Zb (w64 (m0_0+1)))),(.d (Zb m0_1))]),(.cells [(.d (D.bool m1_0)),(.d (Zb m1_1)),(.d (Zb m1_2)),(.d (Zb m1_3)),(.d (Zb m1_4)),(.d (Zb m1_5))]),(.arr 1 (List.map Zb m2_0))])
theorem Zlf {m0_0 m0_1:Int}{m1_0:Bool}{m1_1 m1_2:Int}{m1_3 m1_4 m1_5:Int}{m2_0:List Int}:∀r,(Zfv m0_0 m1_2)=some r→evW ctx 191 [(.ptr 0 0),(.ptr 1 0)] [(.cells [(.sl 2 1),(.d (Zb m0_0)),(.d (Zb m0_1))]),(.cells [(.d (D.bool m1_0)),(.d (Zb m1_1)),(.d (Zb m1_2)),(.d (Zb m1_3)),(.d (Zb m1_4)),(.d (Zb m1_5))]),(.arr 1 (List.map Zb m2_0))]=some ((ZqQ m0_0 m0_1 m1_0 m1_1 m1_2 m1_3 m1_4 m1_5 m2_0) r):=
 evS ZAd rfl rfl <| yBr yR
def Zpa (m0_0:Int) (m0_1:Int) (m1_0:Bool) (m1_1:Int) (m1_2:Int) (m1_3:Int) (m1_4:Int) (m1_5:Int) (m2_0:List Int):(Int×Int×Int×Int×Int×Int)→V×Zh
  | r=>((.d (D.tup [])),[(.cells [(.sl 2 1),(.d (Zb r.1)),(.d (Zb m0_1))]),(.cells [(.d (D.bool m1_0)),(.d (Zb r.2.1)),(.d (Zb r.2.2.1)),(.d (Zb r.2.2.2.1)),(.d (Zb r.2.2.2.2.1)),(.d (Zb r.2.2.2.2.2))]),(.arr 1 (List.map Zb m2_0))])
theorem Zol {m0_0 m0_1:Int}{m1_0:Bool}{m1_1 m1_2:Int}{m1_3 m1_4 m1_5:Int}{m2_0:List Int}:∀r,(ZcX m0_0 m0_1 m1_1 m1_2 m1_3 m1_4 m1_5 m2_0)=some r→evW ctx 168 [(.ptr 0 0),(.ptr 1 0)] [(.cells [(.sl 2 1),(.d (Zb m0_0)),(.d (Zb m0_1))]),(.cells [(.d (D.bool m1_0)),(.d (Zb m1_1)),(.d (Zb m1_2)),(.d (Zb m1_3)),(.d (Zb m1_4)),(.d (Zb m1_5))]),(.arr 1 (List.map Zb m2_0))]=some ((Zpa m0_0 m0_1 m1_0 m1_1 m1_2 m1_3 m1_4 m1_5 m2_0) r):=
 evS ZAa rfl rfl <| yBr (yB (yBr yR)
  (yB (yC Zgw fun x0 _=>
  yG fun x1 hx1=>
  Zf (Zn rfl hx1) yR)
  (by
 conv=>rhs;whnf
 refine Zc _ Zlf fun x2 _=>?_
 rcases x2 with x2 | x2
 exact yR
 exact yR)))
def Zrm (m0_0:Int) (m0_1:Int) (m1_0:Bool) (m1_1:Int) (m1_2:Int) (m1_3:Int) (m1_4:Int) (m1_5:Int) (m2_0:List Int):(Int×Int×Int×Int×Int×Int×Int)→V×Zh
  | r=>((.d (D.tup [])),[(.cells [(.sl 2 1),(.d (Zb r.1)),(.d (Zb r.2.1))]),(.cells [(.d (D.bool m1_0)),(.d (Zb r.2.2.1)),(.d (Zb r.2.2.2.1)),(.d (Zb r.2.2.2.2.1)),(.d (Zb r.2.2.2.2.2.1)),(.d (Zb r.2.2.2.2.2.2))]),(.arr 1 (List.map Zb m2_0))])
theorem Zqi {m0_0 m0_1:Int}{m1_0:Bool}{m1_1 m1_2:Int}{m1_3 m1_4 m1_5:Int}{m2_0:List Int}:∀r,(Zc4 m0_0 m0_1 m1_1 m1_2 m1_3 m1_4 m1_5 m2_0)=some r→evW ctx 169 [(.ptr 0 0),(.ptr 1 0)] [(.cells [(.sl 2 1),(.d (Zb m0_0)),(.d (Zb m0_1))]),(.cells [(.d (D.bool m1_0)),(.d (Zb m1_1)),(.d (Zb m1_2)),(.d (Zb m1_3)),(.d (Zb m1_4)),(.d (Zb m1_5))]),(.arr 1 (List.map Zb m2_0))]=some ((Zrm m0_0 m0_1 m1_0 m1_1 m1_2 m1_3 m1_4 m1_5 m2_0) r):=
 evS Zza rfl rfl <| yBr (yB (yB (yC Zgw fun x0 _=>
  yG fun x1 hx1=>
  Zf (Zn rfl hx1) yR)
  (yBr yR))
  (yB ((by
 conv=>rhs;whnf
 refine Zc _ Zlf fun x2 _=>?_
 rcases x2 with x2 | x2
 exact yR
 exact yC Zgw fun x3 _=>
  yG fun x4 hx4=>
  Zf (Zn rfl hx4) yR))
  (yBr yR)))
def ZqN (r:(Zk×Zu×Int)):D:=(D.tup [(D.agg [(zL true r.1.ring),(Zb r.1.top),(Zb r.1.bottom)]),(D.agg [(D.bool r.2.1.steal),(Zb r.2.1.at_),(Zb r.2.1.top),(Zb r.2.1.bottom),(Zb r.2.1.got),(Zb r.2.1.end_)]),(Zb r.2.2)])
theorem ZoW {t0:Bool}{a:Zk}{b:Zu}:∀r,(Zcl a b)=some r→evD ctx 116 [(.d (D.agg [(zL t0 a.ring),(Zb a.top),(Zb a.bottom)])),(.d (D.agg [(D.bool b.steal),(Zb b.at_),(Zb b.top),(Zb b.bottom),(Zb b.got),(Zb b.end_)]))]=some (ZqN r):=
 evT ZAf rfl rfl <| yC Zgx fun x0 _=>
  yBr (yC Zpf fun x1 _=>
  yB (Zc _ ZlJ fun x2 _=>
  yB (Zc _ Zol fun x3 _=>
  yC Zgx fun x4 _=>
  yBr yR)
  (Zc _ Zqi fun x5 _=>
  yC Zgx fun x6 _=>
  yBr yR))
  yR)
def ZlW (t0:Bool) (t1:Bool) (b:Int) (c:Int) (m0_0:List Int) (m0_1:List Zy) (m0_2:Int) (m1_0:List Int) (m2_0:List Int) (m3_0:List Zk) (m4_0:List Zu) (m5_0:List Int):(List Zu)→V×Zh
  | r=>((.d (D.tup [])),[(.cells [(.sl 1 1),(.sl 2 1),(.sl 3 3),(.sl 4 6),(.sl 5 1),(.d (zL t0 m0_0)),(.d (D.list t1 (List.map ZA m0_1))),(.d (Zb m0_2))]),(.arr 1 (List.map Zb m1_0)),(.arr 1 (List.map Zb m2_0)),(.arr 3 (List.map Za8 m3_0)),(.arr 6 (List.map Zbm r)),(.arr 1 (List.map Zb (List.set m5_0 b.toNat c)))])
theorem ZfX {t0 t1:Bool}{b c:Int}{m0_0:List Int}{m0_1:List Zy}{m0_2:Int}{m1_0:List Int}{m2_0:List Int}{m3_0:List Zk}{m4_0:List Zu}{m5_0:List Int}:∀r,(ZcQ b c m4_0 m5_0)=some r→evW ctx 117 [(.ptr 0 0),(.d (Zb b)),(.d (Zb c))] [(.cells [(.sl 1 1),(.sl 2 1),(.sl 3 3),(.sl 4 6),(.sl 5 1),(.d (zL t0 m0_0)),(.d (D.list t1 (List.map ZA m0_1))),(.d (Zb m0_2))]),(.arr 1 (List.map Zb m1_0)),(.arr 1 (List.map Zb m2_0)),(.arr 3 (List.map Za8 m3_0)),(.arr 6 (List.map Zbm m4_0)),(.arr 1 (List.map Zb m5_0))]=some ((ZlW t0 t1 b c m0_0 m0_1 m0_2 m1_0 m2_0 m3_0 m4_0 m5_0) r):=
 evS ZxG rfl rfl <| yG fun x0 hx0=>
  Zf (Zn rfl hx0) (Zi (Zac Zb m5_0 b.toNat c) (yB (yG fun x1 hx1=>
  Zf (Zn rfl hx1) (Zi (Zac Zbm m4_0 b.toNat (Zu.mk true 0 0 0 0 0)) yR))
  (yG fun x2 hx2=>
  Zf (Zn rfl hx2) (Zi (Zac Zbm m4_0 b.toNat (Zu.mk false 0 0 0 0 0)) yR))))
def Zmt (t0:Bool) (t1:Bool) (b:Int) (m0_0:List Int) (m0_1:List Zy) (m0_2:Int) (m1_0:List Int) (m2_0:List Int) (m3_0:List Zk) (m4_0:List Zu) (m5_0:List Int):(Int×(List Int)×(List Zk)×(List Zu)×(List Int))→V×Zh
  | r=>((.d (Zb r.1)),[(.cells [(.sl 1 1),(.sl 2 1),(.sl 3 3),(.sl 4 6),(.sl 5 1),(.d (zL t0 m0_0)),(.d (D.list t1 (List.map ZA m0_1))),(.d (Zb m0_2))]),(.arr 1 (List.map Zb r.2.1)),(.arr 1 (List.map Zb m2_0)),(.arr 3 (List.map Za8 r.2.2.1)),(.arr 6 (List.map Zbm r.2.2.2.1)),(.arr 1 (List.map Zb r.2.2.2.2))])
theorem ZlU {t0 t1:Bool}{b:Int}{m0_0:List Int}{m0_1:List Zy}{m0_2:Int}{m1_0:List Int}{m2_0:List Int}{m3_0:List Zk}{m4_0:List Zu}{m5_0:List Int}:∀r,(ZbD b m0_0 m0_1 m1_0 m2_0 m3_0 m4_0 m5_0)=some r→evW ctx 67 [(.ptr 0 0),(.d (Zb b))] [(.cells [(.sl 1 1),(.sl 2 1),(.sl 3 3),(.sl 4 6),(.sl 5 1),(.d (zL t0 m0_0)),(.d (D.list t1 (List.map ZA m0_1))),(.d (Zb m0_2))]),(.arr 1 (List.map Zb m1_0)),(.arr 1 (List.map Zb m2_0)),(.arr 3 (List.map Za8 m3_0)),(.arr 6 (List.map Zbm m4_0)),(.arr 1 (List.map Zb m5_0))]=some ((Zmt t0 t1 b m0_0 m0_1 m0_2 m1_0 m2_0 m3_0 m4_0 m5_0) r):=
 evS ZCp rfl rfl <| Zi (ZC _ _) (yG fun x0 hx0=>
  Zf (Zn rfl hx0) (yBn (yG fun x1 hx1=>
  Zf (Zn rfl hx1) (yG fun x2 hx2=>
  Zf (Zn rfl hx2) (yC ZoW fun x3 _=>
  yBr (Zf (ZaV rfl hx1) (Zf (Zn rfl hx1) (Zi (Zac Za8 m3_0 (Int.tmod (w64 (b+x0)) (m1_0.length:Int)).toNat x3.1) (Zf (ZaV rfl hx2) (Zf (Zn rfl hx2) (Zi (Zac Zbm m4_0 b.toNat x3.2.1) (yB (yC Ziu fun x4 _=>
  yC Zai fun x5 _=>
  yB (yG fun x6 hx6=>
  Zf (Zn rfl hx6) (Zi (Zac Zb m1_0 b.toNat x3.2.1.got) (Zc _ ZfX fun x7 _=>
  yR)))
  yR)
  (yB (Zf (ZaV rfl hx0) (Zf (Zn rfl hx0) (yBn (Zc _ ZfX fun x8 _=>
  yR))))
  (yB (Zf (ZaV rfl hx0) (Zf (Zn rfl hx0) (yBn (Zc _ ZfX fun x9 _=>
  yR))))
  yR))))))))))))))
def Zmp (t0:Bool) (t1:Bool) (t2:Bool) (b:List Int) (m0_0:List Int) (m0_1:List Zy) (m0_2:Int) (m1_0:List Int) (m2_0:List Int) (m3_0:List Zk) (m4_0:List Zu) (m5_0:List Int):(Int×Int×Int×(List Int)×(List Zk)×(List Zu)×(List Int))→V×Zh
  | r=>((.d (D.tup [(Zb r.1),(Zb r.2.1)])),[(.cells [(.sl 1 1),(.sl 2 1),(.sl 3 3),(.sl 4 6),(.sl 5 1),(.d (zL t1 m0_0)),(.d (D.list t2 (List.map ZA m0_1))),(.d (Zb r.2.2.1))]),(.arr 1 (List.map Zb r.2.2.2.1)),(.arr 1 (List.map Zb m2_0)),(.arr 3 (List.map Za8 r.2.2.2.2.1)),(.arr 6 (List.map Zbm r.2.2.2.2.2.1)),(.arr 1 (List.map Zb r.2.2.2.2.2.2))])
def Zhv (t0:Bool) (t1:Bool) (t2:Bool) (b:List Int) (m0_0:List Int) (m0_1:List Zy) (m2_0:List Int):((Int×Int×Int×(List Int)×(List Zk)×(List Zu)×(List Int))⊕(Int×Int×(List Int)×(List Zk)×(List Zu)×(List Int)))→Ex×List V×Zh
  | (.inl r)=>(.ret,[(.d (Zb 0)),(.d (Zb r.1)),(.d (Zb r.2.1))],[(.cells [(.sl 1 1),(.sl 2 1),(.sl 3 3),(.sl 4 6),(.sl 5 1),(.d (zL t1 m0_0)),(.d (D.list t2 (List.map ZA m0_1))),(.d (Zb r.2.2.1))]),(.arr 1 (List.map Zb r.2.2.2.1)),(.arr 1 (List.map Zb m2_0)),(.arr 3 (List.map Za8 r.2.2.2.2.1)),(.arr 6 (List.map Zbm r.2.2.2.2.2.1)),(.arr 1 (List.map Zb r.2.2.2.2.2.2))])
  | (.inr r)=>(.exit 0,[.bad,.bad,(.d (Zb r.1))],[(.cells [(.sl 1 1),(.sl 2 1),(.sl 3 3),(.sl 4 6),(.sl 5 1),(.d (zL t1 m0_0)),(.d (D.list t2 (List.map ZA m0_1))),(.d (Zb r.2.1))]),(.arr 1 (List.map Zb r.2.2.1)),(.arr 1 (List.map Zb m2_0)),(.arr 3 (List.map Za8 r.2.2.2.1)),(.arr 6 (List.map Zbm r.2.2.2.2.1)),(.arr 1 (List.map Zb r.2.2.2.2.2))])
theorem Zks {t0 t1 t2:Bool}{b:List Int}{m0_0:List Int}{m0_1:List Zy}{m2_0:List Int}:∀(s1:Int×(List Int)×Int×(List Int)×(List Zk)×(List Zu)×(List Int)) (r:((Int×Int×Int×(List Int)×(List Zk)×(List Zu)×(List Int))⊕(Int×Int×(List Int)×(List Zk)×(List Zu)×(List Int)))),lp (Zc1 b m0_0 m0_1 m2_0) s1=some r→lpW ctx 6 [0,1,6,7] [4,5,6] Zyy [(.ptr 0 0),(.d (zL t0 b)),(.d (Zb s1.1)),(.d (zL true s1.2.1))] [(.cells [(.sl 1 1),(.sl 2 1),(.sl 3 3),(.sl 4 6),(.sl 5 1),(.d (zL t1 m0_0)),(.d (D.list t2 (List.map ZA m0_1))),(.d (Zb s1.2.2.1))]),(.arr 1 (List.map Zb s1.2.2.2.1)),(.arr 1 (List.map Zb m2_0)),(.arr 3 (List.map Za8 s1.2.2.2.2.1)),(.arr 6 (List.map Zbm s1.2.2.2.2.2.1)),(.arr 1 (List.map Zb s1.2.2.2.2.2.2))]=some ((Zhv t0 t1 t2 b m0_0 m0_1 m2_0) r):=
 lpT (Zhv t0 t1 t2 b m0_0 m0_1 m2_0) fun s1 _ ih=>Zi (ZC _ _) (yB (yC Zlv fun x2 _=>
  Zc _ ZlU fun x3 _=>
  yB (Zm rfl)
  (yC ZhI fun x4 _=>
  Zd (ih _)))
  (Zm rfl))
theorem Zlu {t0 t1 t2:Bool}{b:List Int}{m0_0:List Int}{m0_1:List Zy}{m0_2:Int}{m1_0:List Int}{m2_0:List Int}{m3_0:List Zk}{m4_0:List Zu}{m5_0:List Int}:∀r,(ZfY b m0_0 m0_1 m1_0 m2_0 m3_0 m4_0 m5_0)=some r→evW ctx 46 [(.ptr 0 0),(.d (zL t0 b))] [(.cells [(.sl 1 1),(.sl 2 1),(.sl 3 3),(.sl 4 6),(.sl 5 1),(.d (zL t1 m0_0)),(.d (D.list t2 (List.map ZA m0_1))),(.d (Zb m0_2))]),(.arr 1 (List.map Zb m1_0)),(.arr 1 (List.map Zb m2_0)),(.arr 3 (List.map Za8 m3_0)),(.arr 6 (List.map Zbm m4_0)),(.arr 1 (List.map Zb m5_0))]=some ((Zmp t0 t1 t2 b m0_0 m0_1 m0_2 m1_0 m2_0 m3_0 m4_0 m5_0) r):=
 evS ZCH rfl rfl <| yC ZhI fun x0 _=>
  (by
 conv=>rhs;whnf
 refine Zc _ (Zks _) fun r5 _=>?_
 rcases r5 with r5 | r5
 exact yR
 exact yR)
def Zs0 (t0:Bool) (t1:Bool) (a:ZbM):Unit→V×Zh
  | r=>((.agg [(.sl 0 1),(.sl 1 1)]),[(.arr 1 (List.map Zb a.on)),(.arr 1 (List.map Zb a.left))])
theorem Zrk {t0 t1:Bool}{a:ZbM}:∀r,(ZmJ a)=some r→evW ctx 148 [(.d (D.agg [(zL t0 a.on),(zL t1 a.left)]))] []=some ((Zs0 t0 t1 a) r):=
 evS Zz5 rfl rfl <| Zc _ Zbf fun x0 _=>
  Zc _ Zbf fun x1 _=>
  yR
def Zmr (r:Int):D:=(Zb r)
theorem ZlD {a:Int}:∀r,(ZjI a)=some r→evD ctx 203 [(.d (D.int .u64 a))]=some (Zmr r):=
 evT ZAp rfl rfl <| yB (yF (yB (yF (yB (yF (yBm (Zh7 rfl fun x0 _=>
  yR)))
  (yBm (Zh7 rfl fun x1 _=>
  yR))))
  (yB (yF (yBm (Zh7 rfl fun x2 _=>
  yR)))
  (yBm (Zh7 rfl fun x3 _=>
  yR)))))
  (yB (yF (yB (yF (yBm (Zh7 rfl fun x4 _=>
  yR)))
  (yBm (Zh7 rfl fun x5 _=>
  yR))))
  (yB (yF (yBm (Zh7 rfl fun x6 _=>
  yR)))
  (yBm (Zh7 rfl fun x7 _=>
  yR))))
def Znk (r:Int):D:=(Zb r)
theorem Zjd {a:Int}:∀r,(Zev a)=some r→evD ctx 179 [(.d (D.int .u64 a))]=some (Znk r):=
 evT ZAn rfl rfl <| yC ZlD fun x0 _=>
  yR
def Znx (r:Bool):D:=(D.bool r)
theorem Zi4 {a:Int}:∀r,(ZgU a)=some r→evD ctx 217 [(.d (Zb a))]=some (Znx r):=
 evT ZxR rfl rfl <| yBr yR
def Zog (r:Bool):D:=(D.bool r)
theorem ZG {a b:Int}:∀r,(ZR a b)=some r→evD ctx 199 [(.d (Zb a)),(.d (Zb b))]=some (Zog r):=
 evT Zy2 rfl rfl <| yC Zi4 fun x0 _=>
  yB (yC Zi4 fun x1 _=>
  yB (yBr yR)
  yR)
  (yBr yR)
def ZgK (b:Int) (c:Int) (m0_0:List Int):(List Int)→V×Zh
  | r=>((.d (D.tup [])),[(.arr 1 (List.map Zb r))])
def Zc7 (b:Int) (c:Int) (s0:Int×(List Int)):(List Int)→Ex×List V×Zh
  | r=>(.exit 2,[(.sl 0 1),(.d (Zb b)),(.d (Zb c)),(.d (Zb s0.1))],[(.arr 1 (List.map Zb r))])
theorem Zf9 {b c:Int}{s0:Int×(List Int)}:∀(s1:Int×(List Int)) (r:List Int),lp (Zbj b) s1=some r→lpW ctx 1 [0,1,2,6,7] [0,1,2,6] ZvA [(.sl 0 1),(.d (Zb b)),(.d (Zb c)),(.d (Zb s0.1)),(.d (Zb s1.1))] [(.arr 1 (List.map Zb s1.2))]=some ((Zc7 b c s0) r):=
 lpT (Zc7 b c s0) fun s1 _ ih=>yB (yG fun x2 hx2=>
  Zf (Zn rfl hx2) (yG fun x3 hx3=>
  Zf (Zn rfl hx3) (yC ZG fun x4 _=>
  yB (Zf (ZaV rfl hx3) (Zf (Zn rfl hx3) (Zf (ZaV rfl hx2) (Zf (Zn rfl hx2) (Zf (ZaV rfl hx2) (Zf (Zn rfl hx2) (Zi (Zac Zb s1.2 s1.1.toNat x3) (yG fun x5 hx5=>
  Zf (Zn rfl hx5) (Zi (Zac Zb (List.set s1.2 s1.1.toNat x3) (w64 (s1.1-1)).toNat x2) (Zd (ih _)))))))))))
  (Zm rfl))))
  (Zm rfl)
def Zc6 (b:Int) (c:Int):(List Int)→Ex×List V×Zh
  | r=>(.exit 0,[],[(.arr 1 (List.map Zb r))])
theorem Zgb {b c:Int}:∀(s0:Int×(List Int)) (r:List Int),lp (Zbh b c) s0=some r→lpW ctx 1 [0,1,2,6] [] ZvB [(.sl 0 1),(.d (Zb b)),(.d (Zb c)),(.d (Zb s0.1))] [(.arr 1 (List.map Zb s0.2))]=some ((Zc6 b c) r):=
 lpT (Zc6 b c) fun s0 _ ih=>yB (Zc _ (Zf9 _) fun r6 _=>
  Zd (ih _))
  (Zm rfl)
theorem Zbk {b c:Int}{m0_0:List Int}:∀r,(Zam b c m0_0)=some r→evW ctx 193 [(.sl 0 1),(.d (Zb b)),(.d (Zb c))] [(.arr 1 (List.map Zb m0_0))]=some ((ZgK b c m0_0) r):=
 evS Zyv rfl rfl <| Zc _ (Zgb _) fun r7 _=>
  yR
def ZhT (b:Int) (c:Int) (d:Int) (m0_0:List Int):(List Int)→V×Zh
  | r=>((.d (D.tup [])),[(.arr 1 (List.map Zb r))])
def Zeb (c:Int) (d:Int):((List Int)⊕(List Int))→Ex×List V×Zh
  | (.inl r)=>(.exit 0,[],[(.arr 1 (List.map Zb r))])
  | (.inr r)=>(.ret,[],[(.arr 1 (List.map Zb r))])
theorem ZgX {c d:Int}:∀(s0:Int×(List Int)) (r:((List Int)⊕(List Int))),lp (ZbR c d) s0=some r→lpW ctx 1 [0,2,3,8] [] Zwk [(.sl 0 1),(.d (Zb c)),(.d (Zb d)),(.d (Zb s0.1))] [(.arr 1 (List.map Zb s0.2))]=some ((Zeb c d) r):=
 lpT (Zeb c d) fun s0 _ ih=>yB (Zm rfl)
  (yB (yG fun x1 hx1=>
  Zf (Zn rfl hx1) (yG fun x2 hx2=>
  Zf (Zn rfl hx2) (yC ZG fun x3 _=>
  yB (yG fun x4 hx4=>
  Zf (Zn rfl hx4) (yG fun x5 hx5=>
  Zf (Zn rfl hx5) (yC ZG fun x6 _=>
  yB (Zf (ZaV rfl hx5) (Zf (Zn rfl hx5) (Zf (ZaV rfl hx4) (Zf (Zn rfl hx4) (Zf (ZaV rfl hx4) (Zf (Zn rfl hx4) (Zi (Zac Zb s0.2 (w64 (d+s0.1)).toNat x5) (yG fun x7 hx7=>
  Zf (Zn rfl hx7) (Zi (Zac Zb (List.set s0.2 (w64 (d+s0.1)).toNat x5) (w64 (d+(w64 ((w64 ((w64 (2*s0.1))+1))+1)))).toNat x4) (Zd (ih _)))))))))))
  (Zm rfl))))
  (yG fun x8 hx8=>
  Zf (Zn rfl hx8) (Zf (ZaV rfl hx1) (Zf (Zn rfl hx1) (yC ZG fun x9 _=>
  yB (Zf (ZaV rfl hx1) (Zf (Zn rfl hx1) (Zf (ZaV rfl hx8) (Zf (Zn rfl hx8) (Zf (ZaV rfl hx8) (Zf (Zn rfl hx8) (Zi (Zac Zb s0.2 (w64 (d+s0.1)).toNat x1) (yG fun x10 hx10=>
  Zf (Zn rfl hx10) (Zi (Zac Zb (List.set s0.2 (w64 (d+s0.1)).toNat x1) (w64 (d+(w64 ((w64 (2*s0.1))+1)))).toNat x8) (Zd (ih _)))))))))))
  (Zm rfl))))))))
  (yG fun x11 hx11=>
  Zf (Zn rfl hx11) (yG fun x12 hx12=>
  Zf (Zn rfl hx12) (yC ZG fun x13 _=>
  yB (Zf (ZaV rfl hx12) (Zf (Zn rfl hx12) (Zf (ZaV rfl hx11) (Zf (Zn rfl hx11) (Zf (ZaV rfl hx11) (Zf (Zn rfl hx11) (Zi (Zac Zb s0.2 (w64 (d+s0.1)).toNat x12) (yG fun x14 hx14=>
  Zf (Zn rfl hx14) (Zi (Zac Zb (List.set s0.2 (w64 (d+s0.1)).toNat x12) (w64 (d+(w64 ((w64 (2*s0.1))+1)))).toNat x11) (Zd (ih _)))))))))))
  (Zm rfl)))))
theorem ZeW {b c d:Int}{m0_0:List Int}:∀r,(ZbA b c d m0_0)=some r→evW ctx 212 [(.sl 0 1),(.d (Zb b)),(.d (Zb c)),(.d (Zb d))] [(.arr 1 (List.map Zb m0_0))]=some ((ZhT b c d m0_0) r):=
 evS ZzM rfl rfl <| (by
 conv=>rhs;whnf
 refine Zc _ (ZgX _) fun r15 _=>?_
 rcases r15 with r15 | r15
 exact yR
 exact yR)
def ZhY (b:Int) (c:Int) (m0_0:List Int):(List Int)→V×Zh
  | r=>((.d (D.tup [])),[(.arr 1 (List.map Zb r))])
def Zec (b:Int) (c:Int):(List Int)→Ex×List V×Zh
  | r=>(.exit 0,[(.sl 0 1),(.d (Zb b)),(.d (Zb 0)),(.d (Zb (w64 (c-b))))],[(.arr 1 (List.map Zb r))])
theorem Zg1 {b c:Int}:∀(s0:Int×(List Int)) (r:List Int),lp (ZbO b c) s0=some r→lpW ctx 1 [0,6,7,8,9] [0,6,7,8] Zwi [(.sl 0 1),(.d (Zb b)),(.d (Zb 0)),(.d (Zb (w64 (c-b)))),(.d (Zb s0.1))] [(.arr 1 (List.map Zb s0.2))]=some ((Zec b c) r):=
 lpT (Zec b c) fun s0 _ ih=>yB (Zc _ ZeW fun x1 _=>
  Zd (ih _))
  (Zm rfl)
def Zee (b:Int):(List Int)→Ex×List V×Zh
  | r=>(.exit 2,[],[(.arr 1 (List.map Zb r))])
theorem Zg0 {b:Int}:∀(s3:Int×(List Int)) (r:List Int),lp (ZbQ b) s3=some r→lpW ctx 1 [0,6,7,10] [] Zv4 [(.sl 0 1),(.d (Zb b)),(.d (Zb 0)),(.d (Zb s3.1))] [(.arr 1 (List.map Zb s3.2))]=some ((Zee b) r):=
 lpT (Zee b) fun s3 _ ih=>yB (yG fun x4 hx4=>
  Zf (Zn rfl hx4) (yG fun x5 hx5=>
  Zf (Zn rfl hx5) (Zf (ZaV rfl hx5) (Zf (Zn rfl hx5) (Zi (Zac Zb s3.2 b.toNat x4) (yG fun x6 hx6=>
  Zf (Zn rfl hx6) (Zi (Zac Zb (List.set s3.2 b.toNat x4) (w64 (b+s3.1)).toNat x5) (Zc _ ZeW fun x7 _=>
  Zd (ih _)))))))))
  (Zm rfl)
theorem ZbP {b c:Int}{m0_0:List Int}:∀r,(ZaP b c m0_0)=some r→evW ctx 194 [(.sl 0 1),(.d (Zb b)),(.d (Zb c))] [(.arr 1 (List.map Zb m0_0))]=some ((ZhY b c m0_0) r):=
 evS Zye rfl rfl <| yF (Zc _ (Zg1 _) fun r2 _=>
  Zc _ (Zg0 _) fun r8 _=>
  yR)
def Zip (b:Int) (c:Int) (m0_0:List Int) (m1_0:Int):(Int×Int×Int)→V×Zh
  | r=>((.d (D.tup [(Zb r.1),(Zb r.2.1)])),[(.arr 1 (List.map Zb m0_0)),(.cells [(.d (Zb r.2.2))])])
theorem Zc3 {b c:Int}{m0_0:List Int}{m1_0:Int}:∀r,(Zbn b c m0_0 m1_0)=some r→evW ctx 221 [(.sl 0 1),(.d (Zb b)),(.d (Zb c)),(.ptr 1 0)] [(.arr 1 (List.map Zb m0_0)),(.cells [(.d (Zb m1_0))])]=some ((Zip b c m0_0 m1_0) r):=
 evS ZyY rfl rfl <| yG fun x0 hx0=>
  Zf (Zn rfl hx0) (yG fun x1 hx1=>
  Zf (Zn rfl hx1) (yC ZG fun x2 _=>
  yBr yR))
def Ziv (b:Int) (c:Int) (d:Int) (m0_0:List Int) (m1_0:Int):(Int×Int)→V×Zh
  | r=>((.d (Zb r.1)),[(.arr 1 (List.map Zb m0_0)),(.cells [(.d (Zb r.2))])])
theorem Zc8 {b c d:Int}{m0_0:List Int}{m1_0:Int}:∀r,(Zbo b c d m0_0 m1_0)=some r→evW ctx 216 [(.sl 0 1),(.d (Zb b)),(.d (Zb c)),(.d (Zb d)),(.ptr 1 0)] [(.arr 1 (List.map Zb m0_0)),(.cells [(.d (Zb m1_0))])]=some ((Ziv b c d m0_0 m1_0) r):=
 evS Zyn rfl rfl <| Zc _ Zc3 fun x0 _=>
  Zc _ Zc3 fun x1 _=>
  Zc _ Zc3 fun x2 _=>
  yR
def ZgE (b:Int) (m0_0:List Int) (m1_0:Int):(Int×Int)→V×Zh
  | r=>((.d (Zb r.1)),[(.arr 1 (List.map Zb m0_0)),(.cells [(.d (Zb r.2))])])
theorem Zb1 {b:Int}{m0_0:List Int}{m1_0:Int}:∀r,(ZaC b m0_0 m1_0)=some r→evW ctx 215 [(.sl 0 1),(.d (Zb b)),(.ptr 1 0)] [(.arr 1 (List.map Zb m0_0)),(.cells [(.d (Zb m1_0))])]=some ((ZgE b m0_0 m1_0) r):=
 evS Zy0 rfl rfl <| Zc _ Zc8 fun x0 _=>
  yR
def Zhf (b:Int) (c:Int) (m0_0:List Int):(Int×Int)→V×Zh
  | r=>((.d (D.tup [(Zb r.1),(Zb r.2)])),[(.arr 1 (List.map Zb m0_0))])
theorem Zbx {b c:Int}{m0_0:List Int}:∀r,(Zav b c m0_0)=some r→evW ctx 196 [(.sl 0 1),(.d (Zb b)),(.d (Zb c))] [(.arr 1 (List.map Zb m0_0))]=some ((Zhf b c m0_0) r):=
 evS ZyK rfl rfl <| yF (yF (yF (yB (yB (Zc _ Zb1 fun x0 _=>
  Zc _ Zb1 fun x1 _=>
  Zc _ Zb1 fun x2 _=>
  Zc _ Zc8 fun x3 _=>
  yBr (yBr yR))
  (Zc _ Zc8 fun x4 _=>
  yBr (yBr yR)))
  (yT yR))))
def Zg4 (b:Int) (c:Int) (m0_0:List Int):(List Int)→V×Zh
  | r=>((.d (D.tup [])),[(.arr 1 (List.map Zb r))])
def Zdd:(List Int)→Ex×List V×Zh
  | r=>(.exit 0,[],[(.arr 1 (List.map Zb r))])
theorem Zgg:∀(s0:Int×Int×(List Int)) (r:List Int),lp (Zbr) s0=some r→lpW ctx 1 [0,6,7] [] ZvG [(.sl 0 1),(.d (Zb s0.1)),(.d (Zb s0.2.1))] [(.arr 1 (List.map Zb s0.2.2))]=some (Zdd r):=
 lpT Zdd fun s0 _ ih=>yB (yG fun x1 hx1=>
  Zf (Zn rfl hx1) (yG fun x2 hx2=>
  Zf (Zn rfl hx2) (Zf (ZaV rfl hx2) (Zf (Zn rfl hx2) (Zi (Zac Zb s0.2.2 s0.1.toNat x1) (yG fun x3 hx3=>
  Zf (Zn rfl hx3) (Zi (Zac Zb (List.set s0.2.2 s0.1.toNat x1) s0.2.1.toNat x2) (Zd (ih _)))))))))
  (Zm rfl)
theorem Zbs {b c:Int}{m0_0:List Int}:∀r,(Zas b c m0_0)=some r→evW ctx 197 [(.sl 0 1),(.d (Zb b)),(.d (Zb c))] [(.arr 1 (List.map Zb m0_0))]=some ((Zg4 b c m0_0) r):=
 evS ZyM rfl rfl <| Zc _ (Zgg _) fun r4 _=>
  yR
def Zfs (b:Int) (c:Int) (m0_0:List Int):((List Int)⊕(List Int))→V×Zh
  | (.inl r)=>((.d (D.bool true)),[(.arr 1 (List.map Zb r))])
  | (.inr r)=>((.d (D.bool false)),[(.arr 1 (List.map Zb r))])
def Zcq (b:Int) (c:Int) (s0:Int×Int×(List Int)):Int→Ex×List V×Zh
  | r=>(.exit 2,[(.sl 0 1),(.d (Zb b)),(.d (Zb c)),(.d (Zb r)),(.d (Zb s0.2.1))],[(.arr 1 (List.map Zb s0.2.2))])
theorem ZeS {b c:Int}{s0:Int×Int×(List Int)}:∀(s1:Int) (r:Int),lp (ZaS c s0) s1=some r→lpW ctx 1 [0,1,2,7,8] [0,1,2,7,8] Zwb [(.sl 0 1),(.d (Zb b)),(.d (Zb c)),(.d (Zb s1)),(.d (Zb s0.2.1))] [(.arr 1 (List.map Zb s0.2.2))]=some ((Zcq b c s0) r):=
 lpT (Zcq b c s0) fun s1 _ ih=>yB (yG fun x2 hx2=>
  Zf (Zn rfl hx2) (yG fun x3 hx3=>
  Zf (Zn rfl hx3) (yC ZG fun x4 _=>
  yB (Zm rfl)
  (Zd (ih _)))))
  (Zm rfl)
def Zcp (b:Int) (c:Int) (s0:Int×Int×(List Int)) (r5:Int):(List Int)→Ex×List V×Zh
  | r=>(.exit 4,[(.sl 0 1),(.d (Zb b)),(.d (Zb c)),(.d (Zb r5)),(.d (Zb s0.2.1))],[(.arr 1 (List.map Zb r))])
theorem ZeU {b c:Int}{s0:Int×Int×(List Int)}{r5:Int}:∀(s9:Int×(List Int)) (r:List Int),lp (ZaQ) s9=some r→lpW ctx 1 [0,1,2,7,8,9] [0,1,2,7,8] Zvx [(.sl 0 1),(.d (Zb b)),(.d (Zb c)),(.d (Zb r5)),(.d (Zb s0.2.1)),(.d (Zb s9.1))] [(.arr 1 (List.map Zb s9.2))]=some ((Zcp b c s0 r5) r):=
 lpT (Zcp b c s0 r5) fun s9 _ ih=>yB (yG fun x10 hx10=>
  Zf (Zn rfl hx10) (yG fun x11 hx11=>
  Zf (Zn rfl hx11) (yC ZG fun x12 _=>
  yB (Zf (ZaV rfl hx11) (Zf (Zn rfl hx11) (Zf (ZaV rfl hx10) (Zf (Zn rfl hx10) (Zf (ZaV rfl hx10) (Zf (Zn rfl hx10) (Zi (Zac Zb s9.2 s9.1.toNat x11) (yG fun x13 hx13=>
  Zf (Zn rfl hx13) (Zi (Zac Zb (List.set s9.2 s9.1.toNat x11) (w64 (s9.1-1)).toNat x10) (Zd (ih _)))))))))))
  (Zm rfl))))
  (Zm rfl)
def Zcm (b:Int) (c:Int) (s0:Int×Int×(List Int)) (r5:Int):(List Int)→Ex×List V×Zh
  | r=>(.exit 6,[(.sl 0 1),(.d (Zb b)),(.d (Zb c)),(.d (Zb r5)),(.d (Zb s0.2.1))],[(.arr 1 (List.map Zb r))])
theorem Zcg {b c:Int}{s0:Int×Int×(List Int)}{r5:Int}:∀(s15:Int×(List Int)) (r:List Int),lp (Zap c) s15=some r→lpW ctx 1 [0,1,2,7,8,10] [0,1,2,7,8] Zwg [(.sl 0 1),(.d (Zb b)),(.d (Zb c)),(.d (Zb r5)),(.d (Zb s0.2.1)),(.d (Zb s15.1))] [(.arr 1 (List.map Zb s15.2))]=some ((Zcm b c s0 r5) r):=
 lpT (Zcm b c s0 r5) fun s15 _ ih=>yB (yG fun x16 hx16=>
  Zf (Zn rfl hx16) (yG fun x17 hx17=>
  Zf (Zn rfl hx17) (yC ZG fun x18 _=>
  yB (Zf (ZaV rfl hx17) (Zf (Zn rfl hx17) (Zf (ZaV rfl hx16) (Zf (Zn rfl hx16) (Zf (ZaV rfl hx16) (Zf (Zn rfl hx16) (Zi (Zac Zb s15.2 s15.1.toNat x17) (yG fun x19 hx19=>
  Zf (Zn rfl hx19) (Zi (Zac Zb (List.set s15.2 s15.1.toNat x17) (w64 (s15.1-1)).toNat x16) (Zd (ih _)))))))))))
  (Zm rfl))))
  (Zm rfl)
def Zcn (b:Int) (c:Int):((List Int)⊕((List Int)⊕(List Int)))→Ex×List V×Zh
  | (.inl r)=>(.ret,[(.d (D.bool true))],[(.arr 1 (List.map Zb r))])
  | (.inr (.inl r))=>(.ret,[(.d (D.bool false))],[(.arr 1 (List.map Zb r))])
  | (.inr (.inr r))=>(.exit 0,[.bad],[(.arr 1 (List.map Zb r))])
theorem ZeH {b c:Int}:∀(s0:Int×Int×(List Int)) (r:((List Int)⊕((List Int)⊕(List Int)))),lp (ZaR b c) s0=some r→lpW ctx 1 [0,1,2,7,8] [6] ZvM [(.sl 0 1),(.d (Zb b)),(.d (Zb c)),(.d (Zb s0.1)),(.d (Zb s0.2.1))] [(.arr 1 (List.map Zb s0.2.2))]=some ((Zcn b c) r):=
 lpT (Zcn b c) fun s0 _ ih=>yB (Zc _ (ZeS _) fun r5 _=>
  yB (Zm rfl)
  (yB (Zm rfl)
  (yG fun x6 hx6=>
  Zf (Zn rfl hx6) (yG fun x7 hx7=>
  Zf (Zn rfl hx7) (Zf (ZaV rfl hx7) (Zf (Zn rfl hx7) (Zi (Zac Zb s0.2.2 r5.toNat x6) (yG fun x8 hx8=>
  Zf (Zn rfl hx8) (Zi (Zac Zb (List.set s0.2.2 r5.toNat x6) (w64 (r5-1)).toNat x7) (yB (Zc _ (ZeU _) fun r14 _=>
  yB (Zc _ (Zcg _) fun r20 _=>
  Zd (ih _))
  (Zd (ih _)))
  (yB (Zc _ (Zcg _) fun r26 _=>
  Zd (ih _))
  (Zd (ih _)))))))))))))
  (Zm rfl)
theorem Zcy {b c:Int}{m0_0:List Int}:∀r,(Zay b c m0_0)=some r→evW ctx 198 [(.sl 0 1),(.d (Zb b)),(.d (Zb c))] [(.arr 1 (List.map Zb m0_0))]=some ((Zfs b c m0_0) r):=
 evS ZAk rfl rfl <| (by
 conv=>rhs;whnf
 refine Zc _ (ZeH _) fun r27 _=>?_
 rcases r27 with r27 | (r27 | r27)
 exact yR
 exact yR
 exact yR)
def ZhG (b:Int) (c:Int) (d:Int) (m0_0:List Int):((Int×(List Int))⊕(Int×(List Int)))→V×Zh
  | (.inl r)=>((.d (D.tup [(Zb r.1),(D.bool true)])),[(.arr 1 (List.map Zb r.2))])
  | (.inr r)=>((.d (D.tup [(Zb r.1),(D.bool false)])),[(.arr 1 (List.map Zb r.2))])
def ZdZ (b:Int) (c:Int) (d:Int) (m0_0:List Int) (x0:Int) (x1:Int):Int→Ex×List V×Zh
  | r=>(.exit 0,[(.sl 0 1),(.d (Zb b)),(.d (Zb r)),(.d (Zb (w64 (c-1))))],[(.arr 1 (List.map Zb (List.set (List.set m0_0 b.toNat x0) d.toNat x1)))])
theorem ZgH {b c d:Int}{m0_0:List Int}{x0 x1:Int}:∀(s3:Int) (r:Int),lp (ZbJ b c d m0_0 x0 x1) s3=some r→lpW ctx 1 [0,1,10,11] [0,1,10,11] Zvz [(.sl 0 1),(.d (Zb b)),(.d (Zb s3)),(.d (Zb (w64 (c-1))))] [(.arr 1 (List.map Zb (List.set (List.set m0_0 b.toNat x0) d.toNat x1)))]=some ((ZdZ b c d m0_0 x0 x1) r):=
 lpT (ZdZ b c d m0_0 x0 x1) fun s3 _ ih=>yB (yG fun x4 hx4=>
  Zf (Zn rfl hx4) (yG fun x5 hx5=>
  Zf (Zn rfl hx5) (yC ZG fun x6 _=>
  yB (Zd (ih _))
  (Zm rfl))))
  (Zm rfl)
def Zd0 (b:Int) (d:Int) (m0_0:List Int) (x0:Int) (x1:Int) (r7:Int):Int→Ex×List V×Zh
  | r=>(.exit 2,[(.sl 0 1),(.d (Zb b)),(.d (Zb r7)),(.d (Zb r))],[(.arr 1 (List.map Zb (List.set (List.set m0_0 b.toNat x0) d.toNat x1)))])
theorem ZgO {b d:Int}{m0_0:List Int}{x0 x1 r7:Int}:∀(s8:Int) (r:Int),lp (ZbE b d m0_0 x0 x1 r7) s8=some r→lpW ctx 1 [0,1,10,11] [0,1,10,11] Zwc [(.sl 0 1),(.d (Zb b)),(.d (Zb r7)),(.d (Zb s8))] [(.arr 1 (List.map Zb (List.set (List.set m0_0 b.toNat x0) d.toNat x1)))]=some ((Zd0 b d m0_0 x0 x1 r7) r):=
 lpT (Zd0 b d m0_0 x0 x1 r7) fun s8 _ ih=>yB (yG fun x9 hx9=>
  Zf (Zn rfl hx9) (yG fun x10 hx10=>
  Zf (Zn rfl hx10) (yC ZG fun x11 _=>
  yB (Zm rfl)
  (Zd (ih _)))))
  (Zm rfl)
def ZdW (b:Int) (s19:Int×Int×(List Int)):Int→Ex×List V×Zh
  | r=>(.exit 6,[(.sl 0 1),(.d (Zb b)),(.d (Zb r)),(.d (Zb s19.2.1))],[(.arr 1 (List.map Zb s19.2.2))])
theorem ZgM {b:Int}{s19:Int×Int×(List Int)}:∀(s20:Int) (r:Int),lp (ZbF b s19) s20=some r→lpW ctx 1 [0,1,10,11] [0,1,10,11] Zv5 [(.sl 0 1),(.d (Zb b)),(.d (Zb s20)),(.d (Zb s19.2.1))] [(.arr 1 (List.map Zb s19.2.2))]=some ((ZdW b s19) r):=
 lpT (ZdW b s19) fun s20 _ ih=>yB (yG fun x21 hx21=>
  Zf (Zn rfl hx21) (yG fun x22 hx22=>
  Zf (Zn rfl hx22) (yC ZG fun x23 _=>
  yB (Zd (ih _))
  (Zm rfl))))
  (Zm rfl)
def ZdP (b:Int) (s19:Int×Int×(List Int)) (r24:Int):Int→Ex×List V×Zh
  | r=>(.exit 8,[(.sl 0 1),(.d (Zb b)),(.d (Zb r24)),(.d (Zb r))],[(.arr 1 (List.map Zb s19.2.2))])
theorem ZgN {b:Int}{s19:Int×Int×(List Int)}{r24:Int}:∀(s25:Int) (r:Int),lp (ZbG b s19 r24) s25=some r→lpW ctx 1 [0,1,10,11] [0,1,10,11] Zv6 [(.sl 0 1),(.d (Zb b)),(.d (Zb r24)),(.d (Zb s25))] [(.arr 1 (List.map Zb s19.2.2))]=some ((ZdP b s19 r24) r):=
 lpT (ZdP b s19 r24) fun s25 _ ih=>yB (yG fun x26 hx26=>
  Zf (Zn rfl hx26) (yG fun x27 hx27=>
  Zf (Zn rfl hx27) (yC ZG fun x28 _=>
  yB (Zm rfl)
  (Zd (ih _)))))
  (Zm rfl)
def ZdX (b:Int):(Int×(List Int))→Ex×List V×Zh
  | r=>(.exit 4,[(.sl 0 1),(.d (Zb b)),(.d (Zb r.1))],[(.arr 1 (List.map Zb r.2))])
theorem ZgP {b:Int}:∀(s19:Int×Int×(List Int)) (r:(Int×(List Int))),lp (ZbI b) s19=some r→lpW ctx 1 [0,1,10,11] [0,1,11] Zwp [(.sl 0 1),(.d (Zb b)),(.d (Zb s19.1)),(.d (Zb s19.2.1))] [(.arr 1 (List.map Zb s19.2.2))]=some ((ZdX b) r):=
 lpT (ZdX b) fun s19 _ ih=>Zc _ (ZgM _) fun r24 _=>
  Zc _ (ZgN _) fun r29 _=>
  yB (Zm rfl)
  (yG fun x30 hx30=>
  Zf (Zn rfl hx30) (yG fun x31 hx31=>
  Zf (Zn rfl hx31) (Zf (ZaV rfl hx31) (Zf (Zn rfl hx31) (Zi (Zac Zb s19.2.2 r24.toNat x30) (yG fun x32 hx32=>
  Zf (Zn rfl hx32) (Zi (Zac Zb (List.set s19.2.2 r24.toNat x30) r29.toNat x31) (Zd (ih _)))))))))
theorem Zq {b c d:Int}{m0_0:List Int}:∀r,(Zo b c d m0_0)=some r→evW ctx 201 [(.sl 0 1),(.d (Zb b)),(.d (Zb c)),(.d (Zb d))] [(.arr 1 (List.map Zb m0_0))]=some ((ZhG b c d m0_0) r):=
 evS Zzv rfl rfl <| yG fun x0 hx0=>
  Zf (Zn rfl hx0) (yG fun x1 hx1=>
  Zf (Zn rfl hx1) (Zf (ZaV rfl hx1) (Zf (Zn rfl hx1) (Zi (Zac Zb m0_0 b.toNat x0) (yG fun x2 hx2=>
  Zf (Zn rfl hx2) (Zi (Zac Zb (List.set m0_0 b.toNat x0) d.toNat x1) (Zc _ (ZgH _) fun r7 _=>
  Zc _ (ZgO _) fun r12 _=>
  yB (yG fun x13 hx13=>
  Zf (Zn rfl hx13) (yG fun x14 hx14=>
  Zf (Zn rfl hx14) (Zf (ZaV rfl hx14) (Zf (Zn rfl hx14) (Zi (Zac Zb (List.set (List.set m0_0 b.toNat x0) d.toNat x1) r12.toNat x13) (yG fun x15 hx15=>
  Zf (Zn rfl hx15) (Zi (Zac Zb (List.set (List.set (List.set m0_0 b.toNat x0) d.toNat x1) r12.toNat x13) b.toNat x14) yR)))))))
  (yG fun x16 hx16=>
  Zf (Zn rfl hx16) (yG fun x17 hx17=>
  Zf (Zn rfl hx17) (Zf (ZaV rfl hx17) (Zf (Zn rfl hx17) (Zi (Zac Zb (List.set (List.set m0_0 b.toNat x0) d.toNat x1) r7.toNat x16) (yG fun x18 hx18=>
  Zf (Zn rfl hx18) (Zi (Zac Zb (List.set (List.set (List.set m0_0 b.toNat x0) d.toNat x1) r7.toNat x16) r12.toNat x17) (Zc _ (ZgP _) fun r33 _=>
  yG fun x34 hx34=>
  Zf (Zn rfl hx34) (yG fun x35 hx35=>
  Zf (Zn rfl hx35) (Zf (ZaV rfl hx35) (Zf (Zn rfl hx35) (Zi (Zac Zb r33.2 r33.1.toNat x34) (yG fun x36 hx36=>
  Zf (Zn rfl hx36) (Zi (Zac Zb (List.set r33.2 r33.1.toNat x34) b.toNat x35) yR)))))))))))))))))))))
def ZgG (b:Int) (c:Int) (d:Int) (m0_0:List Int):(Int×(List Int))→V×Zh
  | r=>((.d (Zb r.1)),[(.arr 1 (List.map Zb r.2))])
def ZcU (b:Int) (s3:Int×Int×(List Int)):Int→Ex×List V×Zh
  | r=>(.exit 2,[(.sl 0 1),(.d (Zb b)),(.d (Zb r)),(.d (Zb s3.2.1))],[(.arr 1 (List.map Zb s3.2.2))])
theorem ZfT {b:Int}{s3:Int×Int×(List Int)}:∀(s4:Int) (r:Int),lp (Zbc b s3) s4=some r→lpW ctx 1 [0,1,9,10] [0,1,9,10] Zv3 [(.sl 0 1),(.d (Zb b)),(.d (Zb s4)),(.d (Zb s3.2.1))] [(.arr 1 (List.map Zb s3.2.2))]=some ((ZcU b s3) r):=
 lpT (ZcU b s3) fun s4 _ ih=>yB (yG fun x5 hx5=>
  Zf (Zn rfl hx5) (yG fun x6 hx6=>
  Zf (Zn rfl hx6) (yC ZG fun x7 _=>
  yB (Zm rfl)
  (Zd (ih _)))))
  (Zm rfl)
def ZcT (b:Int) (s3:Int×Int×(List Int)) (r8:Int):Int→Ex×List V×Zh
  | r=>(.exit 4,[(.sl 0 1),(.d (Zb b)),(.d (Zb r8)),(.d (Zb r))],[(.arr 1 (List.map Zb s3.2.2))])
theorem ZfW {b:Int}{s3:Int×Int×(List Int)}{r8:Int}:∀(s9:Int) (r:Int),lp (Zbd b s3 r8) s9=some r→lpW ctx 1 [0,1,9,10] [0,1,9,10] Zwm [(.sl 0 1),(.d (Zb b)),(.d (Zb r8)),(.d (Zb s9))] [(.arr 1 (List.map Zb s3.2.2))]=some ((ZcT b s3 r8) r):=
 lpT (ZcT b s3 r8) fun s9 _ ih=>yB (yG fun x10 hx10=>
  Zf (Zn rfl hx10) (yG fun x11 hx11=>
  Zf (Zn rfl hx11) (yC ZG fun x12 _=>
  yB (Zd (ih _))
  (Zm rfl))))
  (Zm rfl)
def ZcV (b:Int):(Int×(List Int))→Ex×List V×Zh
  | r=>(.exit 0,[(.d (Zb r.1))],[(.arr 1 (List.map Zb r.2))])
theorem ZfR {b:Int}:∀(s3:Int×Int×(List Int)) (r:(Int×(List Int))),lp (Zbe b) s3=some r→lpW ctx 1 [0,1,9,10] [9] Zv8 [(.sl 0 1),(.d (Zb b)),(.d (Zb s3.1)),(.d (Zb s3.2.1))] [(.arr 1 (List.map Zb s3.2.2))]=some ((ZcV b) r):=
 lpT (ZcV b) fun s3 _ ih=>Zc _ (ZfT _) fun r8 _=>
  Zc _ (ZfW _) fun r13 _=>
  yB (Zm rfl)
  (yG fun x14 hx14=>
  Zf (Zn rfl hx14) (yG fun x15 hx15=>
  Zf (Zn rfl hx15) (Zf (ZaV rfl hx15) (Zf (Zn rfl hx15) (Zi (Zac Zb s3.2.2 r8.toNat x14) (yG fun x16 hx16=>
  Zf (Zn rfl hx16) (Zi (Zac Zb (List.set s3.2.2 r8.toNat x14) r13.toNat x15) (Zd (ih _)))))))))
theorem ZK {b c d:Int}{m0_0:List Int}:∀r,(Zz b c d m0_0)=some r→evW ctx 200 [(.sl 0 1),(.d (Zb b)),(.d (Zb c)),(.d (Zb d))] [(.arr 1 (List.map Zb m0_0))]=some ((ZgG b c d m0_0) r):=
 evS ZzZ rfl rfl <| yG fun x0 hx0=>
  Zf (Zn rfl hx0) (yG fun x1 hx1=>
  Zf (Zn rfl hx1) (Zf (ZaV rfl hx1) (Zf (Zn rfl hx1) (Zi (Zac Zb m0_0 b.toNat x0) (yG fun x2 hx2=>
  Zf (Zn rfl hx2) (Zi (Zac Zb (List.set m0_0 b.toNat x0) d.toNat x1) (Zc _ (ZfR _) fun r17 _=>
  yR)))))))
def Zjn (r:Int):D:=(D.int .u64 r)
theorem Zi2 {a:Int}:∀r,(Zct a)=some r→evD ctx 213 [(.d (Zb a))]=some (Zjn r):=
 evT ZzS rfl rfl <| yC Zjd fun x0 _=>
  yBn yR
def ZjP (m0_0:Int):Unit→V×Zh
  | r=>((.d (D.int .u64 (u64.wrap (Ze (u64.wrap (Ze (u64.wrap (Ze m0_0 ^^^ Ze (u64.wrap (m0_0*2 ^ 13))).toNat) ^^^ Ze (Int.fdiv (u64.wrap (Ze m0_0 ^^^ Ze (u64.wrap (m0_0*2 ^ 13))).toNat) (2 ^ 7))).toNat) ^^^ Ze (u64.wrap ((u64.wrap (Ze (u64.wrap (Ze m0_0 ^^^ Ze (u64.wrap (m0_0*2 ^ 13))).toNat) ^^^ Ze (Int.fdiv (u64.wrap (Ze m0_0 ^^^ Ze (u64.wrap (m0_0*2 ^ 13))).toNat) (2 ^ 7))).toNat)*2 ^ 17))).toNat))),[(.cells [(.d (D.int .u64 (u64.wrap (Ze (u64.wrap (Ze (u64.wrap (Ze m0_0 ^^^ Ze (u64.wrap (m0_0*2 ^ 13))).toNat) ^^^ Ze (Int.fdiv (u64.wrap (Ze m0_0 ^^^ Ze (u64.wrap (m0_0*2 ^ 13))).toNat) (2 ^ 7))).toNat) ^^^ Ze (u64.wrap ((u64.wrap (Ze (u64.wrap (Ze m0_0 ^^^ Ze (u64.wrap (m0_0*2 ^ 13))).toNat) ^^^ Ze (Int.fdiv (u64.wrap (Ze m0_0 ^^^ Ze (u64.wrap (m0_0*2 ^ 13))).toNat) (2 ^ 7))).toNat)*2 ^ 17))).toNat)))])])
theorem Zjp {m0_0:Int}:∀r,Zds=some r→evW ctx 214 [(.ptr 0 0)] [(.cells [(.d (D.int .u64 m0_0))])]=some ((ZjP m0_0) r):=
 evS Zzk rfl rfl <| yF (yF (yF yR))
def ZgQ (b:Int) (c:Int) (m0_0:List Int):(List Int)→V×Zh
  | r=>((.d (D.tup [])),[(.arr 1 (List.map Zb r))])
def Zc0 (b:Int) (c:Int) (x0:Int):(List Int)→Ex×List V×Zh
  | r=>(.exit 0,[],[(.arr 1 (List.map Zb r))])
theorem Zf8 {b c x0:Int}:∀(s1:Int×(List Int)×Int) (r:List Int),lp (Zbl b c x0) s1=some r→lpW ctx 1 [0,1,6,7,8,9] [] ZvP [(.sl 0 1),(.d (Zb b)),(.d (Zb (w64 (c-b)))),(.ptr 1 0),(.d (D.int .u64 x0)),(.d (Zb s1.1))] [(.arr 1 (List.map Zb s1.2.1)),(.cells [(.d (D.int .u64 s1.2.2))])]=some ((Zc0 b c x0) r):=
 lpT (Zc0 b c x0) fun s1 _ ih=>yF (yB (Zc _ Zjp fun x2 _=>
  yB (yG fun x3 hx3=>
  Zf (Zn rfl hx3) (yG fun x4 hx4=>
  Zf (Zn rfl hx4) (Zf (ZaV rfl hx4) (Zf (Zn rfl hx4) (Zi (Zac Zb s1.2.1 s1.1.toNat x3) (yG fun x5 hx5=>
  Zf (Zn rfl hx5) (Zi (Zac Zb (List.set s1.2.1 s1.1.toNat x3) (w64 (b+(w64 ((w64 (u64.wrap (Ze (u64.wrap (Ze (u64.wrap (Ze (u64.wrap (Ze s1.2.2 ^^^ Ze (u64.wrap (s1.2.2*2 ^ 13))).toNat) ^^^ Ze (Int.fdiv (u64.wrap (Ze s1.2.2 ^^^ Ze (u64.wrap (s1.2.2*2 ^ 13))).toNat) (2 ^ 7))).toNat) ^^^ Ze (u64.wrap ((u64.wrap (Ze (u64.wrap (Ze s1.2.2 ^^^ Ze (u64.wrap (s1.2.2*2 ^ 13))).toNat) ^^^ Ze (Int.fdiv (u64.wrap (Ze s1.2.2 ^^^ Ze (u64.wrap (s1.2.2*2 ^ 13))).toNat) (2 ^ 7))).toNat)*2 ^ 17))).toNat) &&& Ze (u64.wrap (x0-1))).toNat))-(w64 (c-b)))))).toNat x4) (Zd (ih _)))))))))
  (yG fun x6 hx6=>
  Zf (Zn rfl hx6) (yG fun x7 hx7=>
  Zf (Zn rfl hx7) (Zf (ZaV rfl hx7) (Zf (Zn rfl hx7) (Zi (Zac Zb s1.2.1 s1.1.toNat x6) (yG fun x8 hx8=>
  Zf (Zn rfl hx8) (Zi (Zac Zb (List.set s1.2.1 s1.1.toNat x6) (w64 (b+(w64 (u64.wrap (Ze (u64.wrap (Ze (u64.wrap (Ze (u64.wrap (Ze s1.2.2 ^^^ Ze (u64.wrap (s1.2.2*2 ^ 13))).toNat) ^^^ Ze (Int.fdiv (u64.wrap (Ze s1.2.2 ^^^ Ze (u64.wrap (s1.2.2*2 ^ 13))).toNat) (2 ^ 7))).toNat) ^^^ Ze (u64.wrap ((u64.wrap (Ze (u64.wrap (Ze s1.2.2 ^^^ Ze (u64.wrap (s1.2.2*2 ^ 13))).toNat) ^^^ Ze (Int.fdiv (u64.wrap (Ze s1.2.2 ^^^ Ze (u64.wrap (s1.2.2*2 ^ 13))).toNat) (2 ^ 7))).toNat)*2 ^ 17))).toNat) &&& Ze (u64.wrap (x0-1))).toNat)))).toNat x7) (Zd (ih _))))))))))
  (Zm rfl))
theorem Zdo {b c:Int}{m0_0:List Int}:∀r,(Za5 b c m0_0)=some r→evW ctx 195 [(.sl 0 1),(.d (Zb b)),(.d (Zb c))] [(.arr 1 (List.map Zb m0_0))]=some ((ZgQ b c m0_0) r):=
 evS ZzC rfl rfl <| yB (yC Zi2 fun x0 _=>
  yF (Zc _ (Zf8 _) fun r9 _=>
  yR))
  yR
def Za (b:Int) (c:Int) (d:Int) (m0_0:List Int):(List Int)→V×Zh
  | r=>((.d (D.tup [])),[(.arr 1 (List.map Zb r))])
def Zew (rc:Int→Int→Int→(List Int)→Option (List Int)):(List Int)→Ex×List V×Zh
  | r=>(.ret,[],[(.arr 1 (List.map Zb r))])
theorem Zhg {rc:Int→Int→Int→(List Int)→Option (List Int)} (hrc:∀(b:Int) (c:Int) (d:Int) (m0_0:List Int) (r:List Int),rc b c d m0_0=some r→evW ctx 178 [(.sl 0 1),(.d (Zb b)),(.d (Zb c)),(.d (Zb d))] [(.arr 1 (List.map Zb m0_0))]=some ((Za b c d m0_0) r)):∀(s0:Int×Int×Int×Bool×Bool×(List Int)) (r:List Int),lp (ZaD rc) s0=some r→lpW ctx 1 [0,1,2,3,8,9] [] Zwv [(.sl 0 1),(.d (Zb s0.1)),(.d (Zb s0.2.1)),(.d (Zb s0.2.2.1)),(.d (D.bool s0.2.2.2.1)),(.d (D.bool s0.2.2.2.2.1))] [(.arr 1 (List.map Zb s0.2.2.2.2.2))]=some ((Zew rc) r):=
 lpT (Zew rc) fun s0 _ ih=>(by
 try unfold ZaD
 rcases hb:s0.2.2.2.1 with _ | _
 exact Zvl (by
 try unfold ZaD
 rcases hb:s0.2.2.2.2.1 with _ | _
 exact Zvl (yB (Zc _ Zbk fun x170 _=>
  Zm rfl)
  (yB (Zc _ ZbP fun x171 _=>
  Zm rfl)
  (Zc _ Zdo fun x172 _=>
  Zc _ Zbx fun x173 _=>
  yB (Zc _ Zbs fun x174 _=>
  yB (yG fun x175 hx175=>
  Zf (Zn rfl hx175) (yG fun x176 hx176=>
  Zf (Zn rfl hx176) (yC ZG fun x177 _=>
  yB ((by
 conv=>rhs;whnf
 refine Zc _ Zq fun x178 _=>?_
 rcases x178 with x178 | x178
 exact yT (yF (yB (yB (Zc (Za s0.1 x178.1 (w64 (s0.2.2.1-1)) x178.2) (hrc s0.1 x178.1 (w64 (s0.2.2.1-1)) x178.2) fun x179 _=>
  Zd (ih _))
  (Zc (Za s0.1 x178.1 (w64 (s0.2.2.1-1)) x178.2) (hrc s0.1 x178.1 (w64 (s0.2.2.1-1)) x178.2) fun x180 _=>
  Zd (ih _)))
  (yB (Zc (Za (w64 (x178.1+1)) s0.2.1 (w64 (s0.2.2.1-1)) x178.2) (hrc (w64 (x178.1+1)) s0.2.1 (w64 (s0.2.2.1-1)) x178.2) fun x181 _=>
  Zd (ih _))
  (Zc (Za (w64 (x178.1+1)) s0.2.1 (w64 (s0.2.2.1-1)) x178.2) (hrc (w64 (x178.1+1)) s0.2.1 (w64 (s0.2.2.1-1)) x178.2) fun x182 _=>
  Zd (ih _)))))
 exact yF (yF (yB (yB (Zc (Za s0.1 x178.1 (w64 (s0.2.2.1-1)) x178.2) (hrc s0.1 x178.1 (w64 (s0.2.2.1-1)) x178.2) fun x183 _=>
  Zd (ih _))
  (Zc (Za s0.1 x178.1 (w64 (s0.2.2.1-1)) x178.2) (hrc s0.1 x178.1 (w64 (s0.2.2.1-1)) x178.2) fun x184 _=>
  Zd (ih _)))
  (yB (Zc (Za (w64 (x178.1+1)) s0.2.1 (w64 (s0.2.2.1-1)) x178.2) (hrc (w64 (x178.1+1)) s0.2.1 (w64 (s0.2.2.1-1)) x178.2) fun x185 _=>
  Zd (ih _))
  (Zc (Za (w64 (x178.1+1)) s0.2.1 (w64 (s0.2.2.1-1)) x178.2) (hrc (w64 (x178.1+1)) s0.2.1 (w64 (s0.2.2.1-1)) x178.2) fun x186 _=>
  Zd (ih _)))))))
  (Zc _ ZK fun x187 _=>
  Zd (ih _)))))
  (by
 conv=>rhs;whnf
 refine Zc _ Zq fun x188 _=>?_
 rcases x188 with x188 | x188
 exact yT (yF (yB (yB (Zc (Za s0.1 x188.1 (w64 (s0.2.2.1-1)) x188.2) (hrc s0.1 x188.1 (w64 (s0.2.2.1-1)) x188.2) fun x189 _=>
  Zd (ih _))
  (Zc (Za s0.1 x188.1 (w64 (s0.2.2.1-1)) x188.2) (hrc s0.1 x188.1 (w64 (s0.2.2.1-1)) x188.2) fun x190 _=>
  Zd (ih _)))
  (yB (Zc (Za (w64 (x188.1+1)) s0.2.1 (w64 (s0.2.2.1-1)) x188.2) (hrc (w64 (x188.1+1)) s0.2.1 (w64 (s0.2.2.1-1)) x188.2) fun x191 _=>
  Zd (ih _))
  (Zc (Za (w64 (x188.1+1)) s0.2.1 (w64 (s0.2.2.1-1)) x188.2) (hrc (w64 (x188.1+1)) s0.2.1 (w64 (s0.2.2.1-1)) x188.2) fun x192 _=>
  Zd (ih _)))))
 exact yF (yF (yB (yB (Zc (Za s0.1 x188.1 (w64 (s0.2.2.1-1)) x188.2) (hrc s0.1 x188.1 (w64 (s0.2.2.1-1)) x188.2) fun x193 _=>
  Zd (ih _))
  (Zc (Za s0.1 x188.1 (w64 (s0.2.2.1-1)) x188.2) (hrc s0.1 x188.1 (w64 (s0.2.2.1-1)) x188.2) fun x194 _=>
  Zd (ih _)))
  (yB (Zc (Za (w64 (x188.1+1)) s0.2.1 (w64 (s0.2.2.1-1)) x188.2) (hrc (w64 (x188.1+1)) s0.2.1 (w64 (s0.2.2.1-1)) x188.2) fun x195 _=>
  Zd (ih _))
  (Zc (Za (w64 (x188.1+1)) s0.2.1 (w64 (s0.2.2.1-1)) x188.2) (hrc (w64 (x188.1+1)) s0.2.1 (w64 (s0.2.2.1-1)) x188.2) fun x196 _=>
  Zd (ih _)))))))
  (yB (yG fun x197 hx197=>
  Zf (Zn rfl hx197) (yG fun x198 hx198=>
  Zf (Zn rfl hx198) (yC ZG fun x199 _=>
  yB ((by
 conv=>rhs;whnf
 refine Zc _ Zq fun x200 _=>?_
 rcases x200 with x200 | x200
 exact yT (yF (yB (yB (Zc (Za s0.1 x200.1 (w64 (s0.2.2.1-1)) x200.2) (hrc s0.1 x200.1 (w64 (s0.2.2.1-1)) x200.2) fun x201 _=>
  Zd (ih _))
  (Zc (Za s0.1 x200.1 (w64 (s0.2.2.1-1)) x200.2) (hrc s0.1 x200.1 (w64 (s0.2.2.1-1)) x200.2) fun x202 _=>
  Zd (ih _)))
  (yB (Zc (Za (w64 (x200.1+1)) s0.2.1 (w64 (s0.2.2.1-1)) x200.2) (hrc (w64 (x200.1+1)) s0.2.1 (w64 (s0.2.2.1-1)) x200.2) fun x203 _=>
  Zd (ih _))
  (Zc (Za (w64 (x200.1+1)) s0.2.1 (w64 (s0.2.2.1-1)) x200.2) (hrc (w64 (x200.1+1)) s0.2.1 (w64 (s0.2.2.1-1)) x200.2) fun x204 _=>
  Zd (ih _)))))
 exact yF (yF (yB (yB (Zc (Za s0.1 x200.1 (w64 (s0.2.2.1-1)) x200.2) (hrc s0.1 x200.1 (w64 (s0.2.2.1-1)) x200.2) fun x205 _=>
  Zd (ih _))
  (Zc (Za s0.1 x200.1 (w64 (s0.2.2.1-1)) x200.2) (hrc s0.1 x200.1 (w64 (s0.2.2.1-1)) x200.2) fun x206 _=>
  Zd (ih _)))
  (yB (Zc (Za (w64 (x200.1+1)) s0.2.1 (w64 (s0.2.2.1-1)) x200.2) (hrc (w64 (x200.1+1)) s0.2.1 (w64 (s0.2.2.1-1)) x200.2) fun x207 _=>
  Zd (ih _))
  (Zc (Za (w64 (x200.1+1)) s0.2.1 (w64 (s0.2.2.1-1)) x200.2) (hrc (w64 (x200.1+1)) s0.2.1 (w64 (s0.2.2.1-1)) x200.2) fun x208 _=>
  Zd (ih _)))))))
  (Zc _ ZK fun x209 _=>
  Zd (ih _)))))
  (by
 conv=>rhs;whnf
 refine Zc _ Zq fun x210 _=>?_
 rcases x210 with x210 | x210
 exact yT (yF (yB (yB (Zc (Za s0.1 x210.1 (w64 (s0.2.2.1-1)) x210.2) (hrc s0.1 x210.1 (w64 (s0.2.2.1-1)) x210.2) fun x211 _=>
  Zd (ih _))
  (Zc (Za s0.1 x210.1 (w64 (s0.2.2.1-1)) x210.2) (hrc s0.1 x210.1 (w64 (s0.2.2.1-1)) x210.2) fun x212 _=>
  Zd (ih _)))
  (yB (Zc (Za (w64 (x210.1+1)) s0.2.1 (w64 (s0.2.2.1-1)) x210.2) (hrc (w64 (x210.1+1)) s0.2.1 (w64 (s0.2.2.1-1)) x210.2) fun x213 _=>
  Zd (ih _))
  (Zc (Za (w64 (x210.1+1)) s0.2.1 (w64 (s0.2.2.1-1)) x210.2) (hrc (w64 (x210.1+1)) s0.2.1 (w64 (s0.2.2.1-1)) x210.2) fun x214 _=>
  Zd (ih _)))))
 exact yF (yF (yB (yB (Zc (Za s0.1 x210.1 (w64 (s0.2.2.1-1)) x210.2) (hrc s0.1 x210.1 (w64 (s0.2.2.1-1)) x210.2) fun x215 _=>
  Zd (ih _))
  (Zc (Za s0.1 x210.1 (w64 (s0.2.2.1-1)) x210.2) (hrc s0.1 x210.1 (w64 (s0.2.2.1-1)) x210.2) fun x216 _=>
  Zd (ih _)))
  (yB (Zc (Za (w64 (x210.1+1)) s0.2.1 (w64 (s0.2.2.1-1)) x210.2) (hrc (w64 (x210.1+1)) s0.2.1 (w64 (s0.2.2.1-1)) x210.2) fun x217 _=>
  Zd (ih _))
  (Zc (Za (w64 (x210.1+1)) s0.2.1 (w64 (s0.2.2.1-1)) x210.2) (hrc (w64 (x210.1+1)) s0.2.1 (w64 (s0.2.2.1-1)) x210.2) fun x218 _=>
  Zd (ih _))))))))))
 exact ZuB (yB (Zc _ Zbk fun x121 _=>
  Zm rfl)
  (yB (Zc _ ZbP fun x122 _=>
  Zm rfl)
  (Zc _ Zdo fun x123 _=>
  Zc _ Zbx fun x124 _=>
  yB (Zc _ Zbs fun x125 _=>
  yB (yG fun x126 hx126=>
  Zf (Zn rfl hx126) (yG fun x127 hx127=>
  Zf (Zn rfl hx127) (yC ZG fun x128 _=>
  yB ((by
 conv=>rhs;whnf
 refine Zc _ Zq fun x129 _=>?_
 rcases x129 with x129 | x129
 exact yT (yF (yB (yB (Zc (Za s0.1 x129.1 (w64 (s0.2.2.1-1)) x129.2) (hrc s0.1 x129.1 (w64 (s0.2.2.1-1)) x129.2) fun x130 _=>
  Zd (ih _))
  (Zc (Za s0.1 x129.1 (w64 (s0.2.2.1-1)) x129.2) (hrc s0.1 x129.1 (w64 (s0.2.2.1-1)) x129.2) fun x131 _=>
  Zd (ih _)))
  (yB (Zc (Za (w64 (x129.1+1)) s0.2.1 (w64 (s0.2.2.1-1)) x129.2) (hrc (w64 (x129.1+1)) s0.2.1 (w64 (s0.2.2.1-1)) x129.2) fun x132 _=>
  Zd (ih _))
  (Zc (Za (w64 (x129.1+1)) s0.2.1 (w64 (s0.2.2.1-1)) x129.2) (hrc (w64 (x129.1+1)) s0.2.1 (w64 (s0.2.2.1-1)) x129.2) fun x133 _=>
  Zd (ih _)))))
 exact yF (yF (yB (yB (Zc (Za s0.1 x129.1 (w64 (s0.2.2.1-1)) x129.2) (hrc s0.1 x129.1 (w64 (s0.2.2.1-1)) x129.2) fun x134 _=>
  Zd (ih _))
  (Zc (Za s0.1 x129.1 (w64 (s0.2.2.1-1)) x129.2) (hrc s0.1 x129.1 (w64 (s0.2.2.1-1)) x129.2) fun x135 _=>
  Zd (ih _)))
  (yB (Zc (Za (w64 (x129.1+1)) s0.2.1 (w64 (s0.2.2.1-1)) x129.2) (hrc (w64 (x129.1+1)) s0.2.1 (w64 (s0.2.2.1-1)) x129.2) fun x136 _=>
  Zd (ih _))
  (Zc (Za (w64 (x129.1+1)) s0.2.1 (w64 (s0.2.2.1-1)) x129.2) (hrc (w64 (x129.1+1)) s0.2.1 (w64 (s0.2.2.1-1)) x129.2) fun x137 _=>
  Zd (ih _)))))))
  (Zc _ ZK fun x138 _=>
  Zd (ih _)))))
  (by
 conv=>rhs;whnf
 refine Zc _ Zq fun x139 _=>?_
 rcases x139 with x139 | x139
 exact yT (yF (yB (yB (Zc (Za s0.1 x139.1 (w64 (s0.2.2.1-1)) x139.2) (hrc s0.1 x139.1 (w64 (s0.2.2.1-1)) x139.2) fun x140 _=>
  Zd (ih _))
  (Zc (Za s0.1 x139.1 (w64 (s0.2.2.1-1)) x139.2) (hrc s0.1 x139.1 (w64 (s0.2.2.1-1)) x139.2) fun x141 _=>
  Zd (ih _)))
  (yB (Zc (Za (w64 (x139.1+1)) s0.2.1 (w64 (s0.2.2.1-1)) x139.2) (hrc (w64 (x139.1+1)) s0.2.1 (w64 (s0.2.2.1-1)) x139.2) fun x142 _=>
  Zd (ih _))
  (Zc (Za (w64 (x139.1+1)) s0.2.1 (w64 (s0.2.2.1-1)) x139.2) (hrc (w64 (x139.1+1)) s0.2.1 (w64 (s0.2.2.1-1)) x139.2) fun x143 _=>
  Zd (ih _)))))
 exact yF (yF (yB (yB (Zc (Za s0.1 x139.1 (w64 (s0.2.2.1-1)) x139.2) (hrc s0.1 x139.1 (w64 (s0.2.2.1-1)) x139.2) fun x144 _=>
  Zd (ih _))
  (Zc (Za s0.1 x139.1 (w64 (s0.2.2.1-1)) x139.2) (hrc s0.1 x139.1 (w64 (s0.2.2.1-1)) x139.2) fun x145 _=>
  Zd (ih _)))
  (yB (Zc (Za (w64 (x139.1+1)) s0.2.1 (w64 (s0.2.2.1-1)) x139.2) (hrc (w64 (x139.1+1)) s0.2.1 (w64 (s0.2.2.1-1)) x139.2) fun x146 _=>
  Zd (ih _))
  (Zc (Za (w64 (x139.1+1)) s0.2.1 (w64 (s0.2.2.1-1)) x139.2) (hrc (w64 (x139.1+1)) s0.2.1 (w64 (s0.2.2.1-1)) x139.2) fun x147 _=>
  Zd (ih _)))))))
  (yB (yG fun x148 hx148=>
  Zf (Zn rfl hx148) (yG fun x149 hx149=>
  Zf (Zn rfl hx149) (yC ZG fun x150 _=>
  yB ((by
 conv=>rhs;whnf
 refine Zc _ Zq fun x151 _=>?_
 rcases x151 with x151 | x151
 exact yT (yF (yB (yB (Zc (Za s0.1 x151.1 (w64 (s0.2.2.1-1)) x151.2) (hrc s0.1 x151.1 (w64 (s0.2.2.1-1)) x151.2) fun x152 _=>
  Zd (ih _))
  (Zc (Za s0.1 x151.1 (w64 (s0.2.2.1-1)) x151.2) (hrc s0.1 x151.1 (w64 (s0.2.2.1-1)) x151.2) fun x153 _=>
  Zd (ih _)))
  (yB (Zc (Za (w64 (x151.1+1)) s0.2.1 (w64 (s0.2.2.1-1)) x151.2) (hrc (w64 (x151.1+1)) s0.2.1 (w64 (s0.2.2.1-1)) x151.2) fun x154 _=>
  Zd (ih _))
  (Zc (Za (w64 (x151.1+1)) s0.2.1 (w64 (s0.2.2.1-1)) x151.2) (hrc (w64 (x151.1+1)) s0.2.1 (w64 (s0.2.2.1-1)) x151.2) fun x155 _=>
  Zd (ih _)))))
 exact yF (yF (yB (yB (Zc (Za s0.1 x151.1 (w64 (s0.2.2.1-1)) x151.2) (hrc s0.1 x151.1 (w64 (s0.2.2.1-1)) x151.2) fun x156 _=>
  Zd (ih _))
  (Zc (Za s0.1 x151.1 (w64 (s0.2.2.1-1)) x151.2) (hrc s0.1 x151.1 (w64 (s0.2.2.1-1)) x151.2) fun x157 _=>
  Zd (ih _)))
  (yB (Zc (Za (w64 (x151.1+1)) s0.2.1 (w64 (s0.2.2.1-1)) x151.2) (hrc (w64 (x151.1+1)) s0.2.1 (w64 (s0.2.2.1-1)) x151.2) fun x158 _=>
  Zd (ih _))
  (Zc (Za (w64 (x151.1+1)) s0.2.1 (w64 (s0.2.2.1-1)) x151.2) (hrc (w64 (x151.1+1)) s0.2.1 (w64 (s0.2.2.1-1)) x151.2) fun x159 _=>
  Zd (ih _)))))))
  (Zc _ ZK fun x160 _=>
  Zd (ih _)))))
  (by
 conv=>rhs;whnf
 refine Zc _ Zq fun x161 _=>?_
 rcases x161 with x161 | x161
 exact yT (yF (yB (yB (Zc (Za s0.1 x161.1 (w64 (s0.2.2.1-1)) x161.2) (hrc s0.1 x161.1 (w64 (s0.2.2.1-1)) x161.2) fun x162 _=>
  Zd (ih _))
  (Zc (Za s0.1 x161.1 (w64 (s0.2.2.1-1)) x161.2) (hrc s0.1 x161.1 (w64 (s0.2.2.1-1)) x161.2) fun x163 _=>
  Zd (ih _)))
  (yB (Zc (Za (w64 (x161.1+1)) s0.2.1 (w64 (s0.2.2.1-1)) x161.2) (hrc (w64 (x161.1+1)) s0.2.1 (w64 (s0.2.2.1-1)) x161.2) fun x164 _=>
  Zd (ih _))
  (Zc (Za (w64 (x161.1+1)) s0.2.1 (w64 (s0.2.2.1-1)) x161.2) (hrc (w64 (x161.1+1)) s0.2.1 (w64 (s0.2.2.1-1)) x161.2) fun x165 _=>
  Zd (ih _)))))
 exact yF (yF (yB (yB (Zc (Za s0.1 x161.1 (w64 (s0.2.2.1-1)) x161.2) (hrc s0.1 x161.1 (w64 (s0.2.2.1-1)) x161.2) fun x166 _=>
  Zd (ih _))
  (Zc (Za s0.1 x161.1 (w64 (s0.2.2.1-1)) x161.2) (hrc s0.1 x161.1 (w64 (s0.2.2.1-1)) x161.2) fun x167 _=>
  Zd (ih _)))
  (yB (Zc (Za (w64 (x161.1+1)) s0.2.1 (w64 (s0.2.2.1-1)) x161.2) (hrc (w64 (x161.1+1)) s0.2.1 (w64 (s0.2.2.1-1)) x161.2) fun x168 _=>
  Zd (ih _))
  (Zc (Za (w64 (x161.1+1)) s0.2.1 (w64 (s0.2.2.1-1)) x161.2) (hrc (w64 (x161.1+1)) s0.2.1 (w64 (s0.2.2.1-1)) x161.2) fun x169 _=>
  Zd (ih _)))))))))))
 exact ZuB (by
 try unfold ZaD
 rcases hb:s0.2.2.2.2.1 with _ | _
 exact Zvl (yB (Zc _ Zbk fun x73 _=>
  Zm rfl)
  (yB (Zc _ ZbP fun x74 _=>
  Zm rfl)
  (Zc _ Zbx fun x75 _=>
  yB (Zc _ Zbs fun x76 _=>
  yB (yG fun x77 hx77=>
  Zf (Zn rfl hx77) (yG fun x78 hx78=>
  Zf (Zn rfl hx78) (yC ZG fun x79 _=>
  yB ((by
 conv=>rhs;whnf
 refine Zc _ Zq fun x80 _=>?_
 rcases x80 with x80 | x80
 exact yT (yF (yB (yB (Zc (Za s0.1 x80.1 s0.2.2.1 x80.2) (hrc s0.1 x80.1 s0.2.2.1 x80.2) fun x81 _=>
  Zd (ih _))
  (Zc (Za s0.1 x80.1 s0.2.2.1 x80.2) (hrc s0.1 x80.1 s0.2.2.1 x80.2) fun x82 _=>
  Zd (ih _)))
  (yB (Zc (Za (w64 (x80.1+1)) s0.2.1 s0.2.2.1 x80.2) (hrc (w64 (x80.1+1)) s0.2.1 s0.2.2.1 x80.2) fun x83 _=>
  Zd (ih _))
  (Zc (Za (w64 (x80.1+1)) s0.2.1 s0.2.2.1 x80.2) (hrc (w64 (x80.1+1)) s0.2.1 s0.2.2.1 x80.2) fun x84 _=>
  Zd (ih _)))))
 exact yF (yF (yB (yB (Zc (Za s0.1 x80.1 s0.2.2.1 x80.2) (hrc s0.1 x80.1 s0.2.2.1 x80.2) fun x85 _=>
  Zd (ih _))
  (Zc (Za s0.1 x80.1 s0.2.2.1 x80.2) (hrc s0.1 x80.1 s0.2.2.1 x80.2) fun x86 _=>
  Zd (ih _)))
  (yB (Zc (Za (w64 (x80.1+1)) s0.2.1 s0.2.2.1 x80.2) (hrc (w64 (x80.1+1)) s0.2.1 s0.2.2.1 x80.2) fun x87 _=>
  Zd (ih _))
  (Zc (Za (w64 (x80.1+1)) s0.2.1 s0.2.2.1 x80.2) (hrc (w64 (x80.1+1)) s0.2.1 s0.2.2.1 x80.2) fun x88 _=>
  Zd (ih _)))))))
  (Zc _ ZK fun x89 _=>
  Zd (ih _)))))
  (by
 conv=>rhs;whnf
 refine Zc _ Zq fun x90 _=>?_
 rcases x90 with x90 | x90
 exact yT (yF (yB (yB (Zc (Za s0.1 x90.1 s0.2.2.1 x90.2) (hrc s0.1 x90.1 s0.2.2.1 x90.2) fun x91 _=>
  Zd (ih _))
  (Zc (Za s0.1 x90.1 s0.2.2.1 x90.2) (hrc s0.1 x90.1 s0.2.2.1 x90.2) fun x92 _=>
  Zd (ih _)))
  (yB (Zc (Za (w64 (x90.1+1)) s0.2.1 s0.2.2.1 x90.2) (hrc (w64 (x90.1+1)) s0.2.1 s0.2.2.1 x90.2) fun x93 _=>
  Zd (ih _))
  (Zc (Za (w64 (x90.1+1)) s0.2.1 s0.2.2.1 x90.2) (hrc (w64 (x90.1+1)) s0.2.1 s0.2.2.1 x90.2) fun x94 _=>
  Zd (ih _)))))
 exact yF (yF (yB (yB (Zc (Za s0.1 x90.1 s0.2.2.1 x90.2) (hrc s0.1 x90.1 s0.2.2.1 x90.2) fun x95 _=>
  Zd (ih _))
  (Zc (Za s0.1 x90.1 s0.2.2.1 x90.2) (hrc s0.1 x90.1 s0.2.2.1 x90.2) fun x96 _=>
  Zd (ih _)))
  (yB (Zc (Za (w64 (x90.1+1)) s0.2.1 s0.2.2.1 x90.2) (hrc (w64 (x90.1+1)) s0.2.1 s0.2.2.1 x90.2) fun x97 _=>
  Zd (ih _))
  (Zc (Za (w64 (x90.1+1)) s0.2.1 s0.2.2.1 x90.2) (hrc (w64 (x90.1+1)) s0.2.1 s0.2.2.1 x90.2) fun x98 _=>
  Zd (ih _)))))))
  (yB (yG fun x99 hx99=>
  Zf (Zn rfl hx99) (yG fun x100 hx100=>
  Zf (Zn rfl hx100) (yC ZG fun x101 _=>
  yB ((by
 conv=>rhs;whnf
 refine Zc _ Zq fun x102 _=>?_
 rcases x102 with x102 | x102
 exact yT (yF (yB (yB (Zc (Za s0.1 x102.1 s0.2.2.1 x102.2) (hrc s0.1 x102.1 s0.2.2.1 x102.2) fun x103 _=>
  Zd (ih _))
  (Zc (Za s0.1 x102.1 s0.2.2.1 x102.2) (hrc s0.1 x102.1 s0.2.2.1 x102.2) fun x104 _=>
  Zd (ih _)))
  (yB (Zc (Za (w64 (x102.1+1)) s0.2.1 s0.2.2.1 x102.2) (hrc (w64 (x102.1+1)) s0.2.1 s0.2.2.1 x102.2) fun x105 _=>
  Zd (ih _))
  (Zc (Za (w64 (x102.1+1)) s0.2.1 s0.2.2.1 x102.2) (hrc (w64 (x102.1+1)) s0.2.1 s0.2.2.1 x102.2) fun x106 _=>
  Zd (ih _)))))
 exact yF (yF (yB (yB (Zc (Za s0.1 x102.1 s0.2.2.1 x102.2) (hrc s0.1 x102.1 s0.2.2.1 x102.2) fun x107 _=>
  Zd (ih _))
  (Zc (Za s0.1 x102.1 s0.2.2.1 x102.2) (hrc s0.1 x102.1 s0.2.2.1 x102.2) fun x108 _=>
  Zd (ih _)))
  (yB (Zc (Za (w64 (x102.1+1)) s0.2.1 s0.2.2.1 x102.2) (hrc (w64 (x102.1+1)) s0.2.1 s0.2.2.1 x102.2) fun x109 _=>
  Zd (ih _))
  (Zc (Za (w64 (x102.1+1)) s0.2.1 s0.2.2.1 x102.2) (hrc (w64 (x102.1+1)) s0.2.1 s0.2.2.1 x102.2) fun x110 _=>
  Zd (ih _)))))))
  (Zc _ ZK fun x111 _=>
  Zd (ih _)))))
  (by
 conv=>rhs;whnf
 refine Zc _ Zq fun x112 _=>?_
 rcases x112 with x112 | x112
 exact yT (yF (yB (yB (Zc (Za s0.1 x112.1 s0.2.2.1 x112.2) (hrc s0.1 x112.1 s0.2.2.1 x112.2) fun x113 _=>
  Zd (ih _))
  (Zc (Za s0.1 x112.1 s0.2.2.1 x112.2) (hrc s0.1 x112.1 s0.2.2.1 x112.2) fun x114 _=>
  Zd (ih _)))
  (yB (Zc (Za (w64 (x112.1+1)) s0.2.1 s0.2.2.1 x112.2) (hrc (w64 (x112.1+1)) s0.2.1 s0.2.2.1 x112.2) fun x115 _=>
  Zd (ih _))
  (Zc (Za (w64 (x112.1+1)) s0.2.1 s0.2.2.1 x112.2) (hrc (w64 (x112.1+1)) s0.2.1 s0.2.2.1 x112.2) fun x116 _=>
  Zd (ih _)))))
 exact yF (yF (yB (yB (Zc (Za s0.1 x112.1 s0.2.2.1 x112.2) (hrc s0.1 x112.1 s0.2.2.1 x112.2) fun x117 _=>
  Zd (ih _))
  (Zc (Za s0.1 x112.1 s0.2.2.1 x112.2) (hrc s0.1 x112.1 s0.2.2.1 x112.2) fun x118 _=>
  Zd (ih _)))
  (yB (Zc (Za (w64 (x112.1+1)) s0.2.1 s0.2.2.1 x112.2) (hrc (w64 (x112.1+1)) s0.2.1 s0.2.2.1 x112.2) fun x119 _=>
  Zd (ih _))
  (Zc (Za (w64 (x112.1+1)) s0.2.1 s0.2.2.1 x112.2) (hrc (w64 (x112.1+1)) s0.2.1 s0.2.2.1 x112.2) fun x120 _=>
  Zd (ih _))))))))))
 exact ZuB (yB (Zc _ Zbk fun x1 _=>
  Zm rfl)
  (yB (Zc _ ZbP fun x2 _=>
  Zm rfl)
  (Zc _ Zbx fun x3 _=>
  yB (Zc _ Zbs fun x4 _=>
  yT (by
 conv=>rhs;whnf
 refine Zc _ Zcy fun x5 _=>?_
 rcases x5 with x5 | x5
 exact Zm rfl
 exact yB (yG fun x6 hx6=>
  Zf (Zn rfl hx6) (yG fun x7 hx7=>
  Zf (Zn rfl hx7) (yC ZG fun x8 _=>
  yB ((by
 conv=>rhs;whnf
 refine Zc _ Zq fun x9 _=>?_
 rcases x9 with x9 | x9
 exact yT (yF (yB (yB (Zc (Za s0.1 x9.1 s0.2.2.1 x9.2) (hrc s0.1 x9.1 s0.2.2.1 x9.2) fun x10 _=>
  Zd (ih _))
  (Zc (Za s0.1 x9.1 s0.2.2.1 x9.2) (hrc s0.1 x9.1 s0.2.2.1 x9.2) fun x11 _=>
  Zd (ih _)))
  (yB (Zc (Za (w64 (x9.1+1)) s0.2.1 s0.2.2.1 x9.2) (hrc (w64 (x9.1+1)) s0.2.1 s0.2.2.1 x9.2) fun x12 _=>
  Zd (ih _))
  (Zc (Za (w64 (x9.1+1)) s0.2.1 s0.2.2.1 x9.2) (hrc (w64 (x9.1+1)) s0.2.1 s0.2.2.1 x9.2) fun x13 _=>
  Zd (ih _)))))
 exact yF (yF (yB (yB (Zc (Za s0.1 x9.1 s0.2.2.1 x9.2) (hrc s0.1 x9.1 s0.2.2.1 x9.2) fun x14 _=>
  Zd (ih _))
  (Zc (Za s0.1 x9.1 s0.2.2.1 x9.2) (hrc s0.1 x9.1 s0.2.2.1 x9.2) fun x15 _=>
  Zd (ih _)))
  (yB (Zc (Za (w64 (x9.1+1)) s0.2.1 s0.2.2.1 x9.2) (hrc (w64 (x9.1+1)) s0.2.1 s0.2.2.1 x9.2) fun x16 _=>
  Zd (ih _))
  (Zc (Za (w64 (x9.1+1)) s0.2.1 s0.2.2.1 x9.2) (hrc (w64 (x9.1+1)) s0.2.1 s0.2.2.1 x9.2) fun x17 _=>
  Zd (ih _)))))))
  (Zc _ ZK fun x18 _=>
  Zd (ih _)))))
  (by
 conv=>rhs;whnf
 refine Zc _ Zq fun x19 _=>?_
 rcases x19 with x19 | x19
 exact yT (yF (yB (yB (Zc (Za s0.1 x19.1 s0.2.2.1 x19.2) (hrc s0.1 x19.1 s0.2.2.1 x19.2) fun x20 _=>
  Zd (ih _))
  (Zc (Za s0.1 x19.1 s0.2.2.1 x19.2) (hrc s0.1 x19.1 s0.2.2.1 x19.2) fun x21 _=>
  Zd (ih _)))
  (yB (Zc (Za (w64 (x19.1+1)) s0.2.1 s0.2.2.1 x19.2) (hrc (w64 (x19.1+1)) s0.2.1 s0.2.2.1 x19.2) fun x22 _=>
  Zd (ih _))
  (Zc (Za (w64 (x19.1+1)) s0.2.1 s0.2.2.1 x19.2) (hrc (w64 (x19.1+1)) s0.2.1 s0.2.2.1 x19.2) fun x23 _=>
  Zd (ih _)))))
 exact yF (yF (yB (yB (Zc (Za s0.1 x19.1 s0.2.2.1 x19.2) (hrc s0.1 x19.1 s0.2.2.1 x19.2) fun x24 _=>
  Zd (ih _))
  (Zc (Za s0.1 x19.1 s0.2.2.1 x19.2) (hrc s0.1 x19.1 s0.2.2.1 x19.2) fun x25 _=>
  Zd (ih _)))
  (yB (Zc (Za (w64 (x19.1+1)) s0.2.1 s0.2.2.1 x19.2) (hrc (w64 (x19.1+1)) s0.2.1 s0.2.2.1 x19.2) fun x26 _=>
  Zd (ih _))
  (Zc (Za (w64 (x19.1+1)) s0.2.1 s0.2.2.1 x19.2) (hrc (w64 (x19.1+1)) s0.2.1 s0.2.2.1 x19.2) fun x27 _=>
  Zd (ih _))))))))
  (yB ((by
 conv=>rhs;whnf
 refine Zc _ Zcy fun x28 _=>?_
 rcases x28 with x28 | x28
 exact Zm rfl
 exact yB (yG fun x29 hx29=>
  Zf (Zn rfl hx29) (yG fun x30 hx30=>
  Zf (Zn rfl hx30) (yC ZG fun x31 _=>
  yB ((by
 conv=>rhs;whnf
 refine Zc _ Zq fun x32 _=>?_
 rcases x32 with x32 | x32
 exact yT (yF (yB (yB (Zc (Za s0.1 x32.1 s0.2.2.1 x32.2) (hrc s0.1 x32.1 s0.2.2.1 x32.2) fun x33 _=>
  Zd (ih _))
  (Zc (Za s0.1 x32.1 s0.2.2.1 x32.2) (hrc s0.1 x32.1 s0.2.2.1 x32.2) fun x34 _=>
  Zd (ih _)))
  (yB (Zc (Za (w64 (x32.1+1)) s0.2.1 s0.2.2.1 x32.2) (hrc (w64 (x32.1+1)) s0.2.1 s0.2.2.1 x32.2) fun x35 _=>
  Zd (ih _))
  (Zc (Za (w64 (x32.1+1)) s0.2.1 s0.2.2.1 x32.2) (hrc (w64 (x32.1+1)) s0.2.1 s0.2.2.1 x32.2) fun x36 _=>
  Zd (ih _)))))
 exact yF (yF (yB (yB (Zc (Za s0.1 x32.1 s0.2.2.1 x32.2) (hrc s0.1 x32.1 s0.2.2.1 x32.2) fun x37 _=>
  Zd (ih _))
  (Zc (Za s0.1 x32.1 s0.2.2.1 x32.2) (hrc s0.1 x32.1 s0.2.2.1 x32.2) fun x38 _=>
  Zd (ih _)))
  (yB (Zc (Za (w64 (x32.1+1)) s0.2.1 s0.2.2.1 x32.2) (hrc (w64 (x32.1+1)) s0.2.1 s0.2.2.1 x32.2) fun x39 _=>
  Zd (ih _))
  (Zc (Za (w64 (x32.1+1)) s0.2.1 s0.2.2.1 x32.2) (hrc (w64 (x32.1+1)) s0.2.1 s0.2.2.1 x32.2) fun x40 _=>
  Zd (ih _)))))))
  (Zc _ ZK fun x41 _=>
  Zd (ih _)))))
  (by
 conv=>rhs;whnf
 refine Zc _ Zq fun x42 _=>?_
 rcases x42 with x42 | x42
 exact yT (yF (yB (yB (Zc (Za s0.1 x42.1 s0.2.2.1 x42.2) (hrc s0.1 x42.1 s0.2.2.1 x42.2) fun x43 _=>
  Zd (ih _))
  (Zc (Za s0.1 x42.1 s0.2.2.1 x42.2) (hrc s0.1 x42.1 s0.2.2.1 x42.2) fun x44 _=>
  Zd (ih _)))
  (yB (Zc (Za (w64 (x42.1+1)) s0.2.1 s0.2.2.1 x42.2) (hrc (w64 (x42.1+1)) s0.2.1 s0.2.2.1 x42.2) fun x45 _=>
  Zd (ih _))
  (Zc (Za (w64 (x42.1+1)) s0.2.1 s0.2.2.1 x42.2) (hrc (w64 (x42.1+1)) s0.2.1 s0.2.2.1 x42.2) fun x46 _=>
  Zd (ih _)))))
 exact yF (yF (yB (yB (Zc (Za s0.1 x42.1 s0.2.2.1 x42.2) (hrc s0.1 x42.1 s0.2.2.1 x42.2) fun x47 _=>
  Zd (ih _))
  (Zc (Za s0.1 x42.1 s0.2.2.1 x42.2) (hrc s0.1 x42.1 s0.2.2.1 x42.2) fun x48 _=>
  Zd (ih _)))
  (yB (Zc (Za (w64 (x42.1+1)) s0.2.1 s0.2.2.1 x42.2) (hrc (w64 (x42.1+1)) s0.2.1 s0.2.2.1 x42.2) fun x49 _=>
  Zd (ih _))
  (Zc (Za (w64 (x42.1+1)) s0.2.1 s0.2.2.1 x42.2) (hrc (w64 (x42.1+1)) s0.2.1 s0.2.2.1 x42.2) fun x50 _=>
  Zd (ih _))))))))
  (yB (yG fun x51 hx51=>
  Zf (Zn rfl hx51) (yG fun x52 hx52=>
  Zf (Zn rfl hx52) (yC ZG fun x53 _=>
  yB ((by
 conv=>rhs;whnf
 refine Zc _ Zq fun x54 _=>?_
 rcases x54 with x54 | x54
 exact yT (yF (yB (yB (Zc (Za s0.1 x54.1 s0.2.2.1 x54.2) (hrc s0.1 x54.1 s0.2.2.1 x54.2) fun x55 _=>
  Zd (ih _))
  (Zc (Za s0.1 x54.1 s0.2.2.1 x54.2) (hrc s0.1 x54.1 s0.2.2.1 x54.2) fun x56 _=>
  Zd (ih _)))
  (yB (Zc (Za (w64 (x54.1+1)) s0.2.1 s0.2.2.1 x54.2) (hrc (w64 (x54.1+1)) s0.2.1 s0.2.2.1 x54.2) fun x57 _=>
  Zd (ih _))
  (Zc (Za (w64 (x54.1+1)) s0.2.1 s0.2.2.1 x54.2) (hrc (w64 (x54.1+1)) s0.2.1 s0.2.2.1 x54.2) fun x58 _=>
  Zd (ih _)))))
 exact yF (yF (yB (yB (Zc (Za s0.1 x54.1 s0.2.2.1 x54.2) (hrc s0.1 x54.1 s0.2.2.1 x54.2) fun x59 _=>
  Zd (ih _))
  (Zc (Za s0.1 x54.1 s0.2.2.1 x54.2) (hrc s0.1 x54.1 s0.2.2.1 x54.2) fun x60 _=>
  Zd (ih _)))
  (yB (Zc (Za (w64 (x54.1+1)) s0.2.1 s0.2.2.1 x54.2) (hrc (w64 (x54.1+1)) s0.2.1 s0.2.2.1 x54.2) fun x61 _=>
  Zd (ih _))
  (Zc (Za (w64 (x54.1+1)) s0.2.1 s0.2.2.1 x54.2) (hrc (w64 (x54.1+1)) s0.2.1 s0.2.2.1 x54.2) fun x62 _=>
  Zd (ih _)))))))
  (Zc _ ZK fun x63 _=>
  Zd (ih _)))))
  (by
 conv=>rhs;whnf
 refine Zc _ Zq fun x64 _=>?_
 rcases x64 with x64 | x64
 exact yT (yF (yB (yB (Zc (Za s0.1 x64.1 s0.2.2.1 x64.2) (hrc s0.1 x64.1 s0.2.2.1 x64.2) fun x65 _=>
  Zd (ih _))
  (Zc (Za s0.1 x64.1 s0.2.2.1 x64.2) (hrc s0.1 x64.1 s0.2.2.1 x64.2) fun x66 _=>
  Zd (ih _)))
  (yB (Zc (Za (w64 (x64.1+1)) s0.2.1 s0.2.2.1 x64.2) (hrc (w64 (x64.1+1)) s0.2.1 s0.2.2.1 x64.2) fun x67 _=>
  Zd (ih _))
  (Zc (Za (w64 (x64.1+1)) s0.2.1 s0.2.2.1 x64.2) (hrc (w64 (x64.1+1)) s0.2.1 s0.2.2.1 x64.2) fun x68 _=>
  Zd (ih _)))))
 exact yF (yF (yB (yB (Zc (Za s0.1 x64.1 s0.2.2.1 x64.2) (hrc s0.1 x64.1 s0.2.2.1 x64.2) fun x69 _=>
  Zd (ih _))
  (Zc (Za s0.1 x64.1 s0.2.2.1 x64.2) (hrc s0.1 x64.1 s0.2.2.1 x64.2) fun x70 _=>
  Zd (ih _)))
  (yB (Zc (Za (w64 (x64.1+1)) s0.2.1 s0.2.2.1 x64.2) (hrc (w64 (x64.1+1)) s0.2.1 s0.2.2.1 x64.2) fun x71 _=>
  Zd (ih _))
  (Zc (Za (w64 (x64.1+1)) s0.2.1 s0.2.2.1 x64.2) (hrc (w64 (x64.1+1)) s0.2.1 s0.2.2.1 x64.2) fun x72 _=>
  Zd (ih _)))))))))))))
theorem Zhr (rc:Int→Int→Int→(List Int)→Option (List Int)) (hrc:∀(b:Int) (c:Int) (d:Int) (m0_0:List Int) (r:List Int),rc b c d m0_0=some r→evW ctx 178 [(.sl 0 1),(.d (Zb b)),(.d (Zb c)),(.d (Zb d))] [(.arr 1 (List.map Zb m0_0))]=some ((Za b c d m0_0) r)) (b:Int) (c:Int) (d:Int) (m0_0:List Int):∀r,(Zb9 rc b c d m0_0)=some r→evW ctx 178 [(.sl 0 1),(.d (Zb b)),(.d (Zb c)),(.d (Zb d))] [(.arr 1 (List.map Zb m0_0))]=some ((Za b c d m0_0) r):=
 evS ZzH rfl rfl <| Zc _ (Zhg hrc _) fun r219 _=>
  yR
theorem Zey:∀(n:Nat) (b:Int) (c:Int) (d:Int) (m0_0:List Int) (r:List Int),ZaG n b c d m0_0=some r→evW ctx 178 [(.sl 0 1),(.d (Zb b)),(.d (Zb c)),(.d (Zb d))] [(.arr 1 (List.map Zb m0_0))]=some ((Za b c d m0_0) r)
  | 0,b,c,d,m0_0,r,h=>by cases h
  | n+1,b,c,d,m0_0,r,h=>Zhr (ZaG n) (Zey n) b c d m0_0 r h
theorem ZhZ {b c d:Int}{m0_0:List Int}:∀r,Zdv b c d m0_0=some r→evW ctx 178 [(.sl 0 1),(.d (Zb b)),(.d (Zb c)),(.d (Zb d))] [(.arr 1 (List.map Zb m0_0))]=some ((Za b c d m0_0) r):=fun r h=>by
  obtain⟨n,hn⟩:=ZBj h
  exact Zey n b c d m0_0 r hn
def Zjo (m0_0:List Int):(List Int)→V×Zh
  | r=>((.d (D.tup [])),[(.arr 1 (List.map Zb r))])
theorem ZdQ {m0_0:List Int}:∀r,(ZbN m0_0)=some r→evW ctx 146 [(.sl 0 1)] [(.arr 1 (List.map Zb m0_0))]=some ((Zjo m0_0) r):=
 evS ZAu rfl rfl <| Zi (ZC _ _) (yC Zjd fun x0 _=>
  Zc _ ZhZ fun x1 _=>
  yR)
def Zq8 (m0_0:List Int) (m1_0:List Int):((List Int)×(List Int)×(List Int))→V×Zh
  | r=>((.sl 2 1),[(.arr 1 (List.map Zb r.1)),(.arr 1 (List.map Zb r.2.1)),(.arr 1 (List.map Zb r.2.2))])
def Zj4 (m0_0:List Int):((List Int)×(List Int)×(List Int))→Ex×List V×Zh
  | r=>(.exit 0,[(.sl 2 1)],[(.arr 1 (List.map Zb r.1)),(.arr 1 (List.map Zb r.2.1)),(.arr 1 (List.map Zb r.2.2))])
theorem Zno {m0_0:List Int}:∀(s0:Int×(List Int)×(List Int)×(List Int)) (r:((List Int)×(List Int)×(List Int))),lp (Zfh m0_0) s0=some r→lpW ctx 2 [1,3,7,8,9] [3] ZxU [(.ptr 2 0),(.sl 3 1),(.sl 0 1),(.d (Zb (m0_0.length:Int))),(.d (Zb s0.1))] [(.arr 1 (List.map Zb s0.2.1)),(.arr 1 (List.map Zb s0.2.2.1)),(.cells [(.sl 0 1),(.sl 1 1)]),(.arr 1 (List.map Zb s0.2.2.2))]=some ((Zj4 m0_0) r):=
 lpT (Zj4 m0_0) fun s0 _ ih=>yB (yG fun x1 hx1=>
  Zf (Zn rfl hx1) (yB (Zd (ih _))
  (yG fun x2 hx2=>
  Zf (Zn rfl hx2) (Zf (ZaV rfl hx2) (Zf (Zn rfl hx2) (Zi (Zac Zb s0.2.2.1 x1.toNat (w64 (x2-1))) (yC Zgj fun x3 _=>
  yB (Zf (ZaV rfl hx1) (Zf (Zn rfl hx1) (Zi (Zac Zb s0.2.1 s0.1.toNat (-1)) (yT (Zen (Zhu Zb s0.2.2.2 1) (Zi (Zhp Zb s0.2.2.2 [x1]) (Zd (ih _)))
  Zce)))))
  (Zd (ih _)))))))))
  (Zm rfl)
theorem Zp1 {m0_0:List Int}{m1_0:List Int}:∀r,(Zl0 m0_0 m1_0)=some r→evW ctx 88 [(.agg [(.sl 0 1),(.sl 1 1)])] [(.arr 1 (List.map Zb m0_0)),(.arr 1 (List.map Zb m1_0))]=some ((Zq8 m0_0 m1_0) r):=
 evS ZCP rfl rfl <| Zi (ZC _ _) (Zc _ (Zno _) fun r4 _=>
  Zc _ ZdQ fun x5 _=>
  yR)
def Zrx (t0:Bool) (t1:Bool) (t2:Bool) (t3:Bool) (a:Zx) (b:ZbM):(Int⊕((List Int)×(List Int)×(List Int)))→V×Zh
  | (.inl r)=>((.tup [(.agg [(.nilsl 1),(.nilsl 1)]),(.nilsl 1),(.d (Zb r))]),[])
  | (.inr r)=>((.tup [(.agg [(.sl 0 1),(.sl 1 1)]),(.sl 2 1),(.d (Zb 0))]),[(.arr 1 (List.map Zb r.1)),(.arr 1 (List.map Zb r.2.1)),(.arr 1 (List.map Zb r.2.2))])
theorem ZpL {t0 t1:Bool}{t2 t3:Bool}{a:Zx}{b:ZbM}:∀r,(Zjx a b)=some r→evW ctx 96 [(.d (D.agg [(zL t0 a.work),(D.list t1 (List.map ZA a.edges))])),(.d (D.agg [(zL t2 b.on),(zL t3 b.left)]))] []=some ((Zrx t0 t1 t2 t3 a b) r):=
 evS ZCl rfl rfl <| yC Zle fun x0 _=>
  yBr (Zc _ Zrk fun x1 _=>
  Zc _ Zp1 fun x2 _=>
  yR)
def Zpk (r:(Int×Bool)):D:=(D.tup [(Zb r.1),(D.bool r.2)])
theorem Zoj {a:Zy}{b0:Int}:∀r,(ZfJ a b0)=some r→evD ctx 150 [(.d (D.agg [(Zb a.src),(Zb a.dst)])),(.d (D.rptr [(Zb b0)]))]=some (Zpk r):=
 evT Zyh rfl rfl <| yBr yR
def ZjR (r:List Int):D:=(zL true r)
def Zf0 (t1:Bool) (a:Zx) (b0:Int):(List Int)→Ex×List V×Zh
  | r=>(.exit 0,[(.sl 0 1)],[(.arr 1 (List.map Zb r))])
theorem Ziq {t1:Bool}{a:Zx}{b0:Int}:∀(s0:Int×(List Int)) (r:List Int),lp (Zdz a (fun z0=>ZfJ z0 b0)) s0=some r→lpW ctx 0 [1,5,11,12,13] [5] Zs9 [(.d (D.fn 150 [(D.rptr [(Zb b0)])])),(.sl 0 1),(.d (D.list t1 (List.map ZA a.edges))),(.d (Zb (a.edges.length:Int))),(.d (Zb s0.1))] [(.arr 1 (List.map Zb s0.2))]=some ((Zf0 t1 a b0) r):=
 lpT (Zf0 t1 a b0) fun s0 _ ih=>yB (yG fun x1 _=>
  yC Zoj fun x2 _=>
  yB (yT (Zen (Zhu Zb s0.2 1) (Zi (Zhp Zb s0.2 [x2.1]) (Zd (ih _)))
  Zce))
  (Zd (ih _)))
  (Zm rfl)
theorem Zjq {t0 t1:Bool}{a:Zx}{b0:Int}:∀r,(ZiR a (fun z0=>ZfJ z0 b0))=some r→evD ctx 149 [(.d (D.agg [(zL t0 a.work),(D.list t1 (List.map ZA a.edges))])),(.d (D.fn 150 [(D.rptr [(Zb b0)])]))]=some (ZjR r):=
 evT Zwz rfl rfl <| Zi (ZC _ _) (Zc _ (Ziq _) fun r3 _=>
  Zc _ ZdQ fun x4 _=>
  yR)
def Zrc (r:List Int):D:=(zL true r)
theorem Zqx {t0 t1:Bool}{a:Zx}{b:Int}:∀r,(Zjy a b)=some r→evD ctx 97 [(.d (D.agg [(zL t0 a.work),(D.list t1 (List.map ZA a.edges))])),(.d (Zb b))]=some (Zrc r):=
 evT ZCD rfl rfl <| yC Zgn fun x0 _=>
  yBr (yC Zjq fun x1 _=>
  yR)
def Zmv (t0:Bool) (t1:Bool) (m0_0:List Int) (m0_1:List Zy) (m0_2:Int) (m1_0:List Int) (m2_0:List Int) (m3_0:List Zk) (m4_0:List Zu) (m5_0:List Int):(Int⊕(((List Zk)×(List Int)×(List Int))⊕((List Zk)×(List Int)×(List Int)×(List Int))))→V×Zh
  | (.inl r)=>((.tup [(.nilsl 1),(.d (Zb r))]),[(.cells [(.sl 1 1),(.sl 2 1),(.sl 3 3),(.sl 4 6),(.sl 5 1),(.d (zL t0 m0_0)),(.d (D.list t1 (List.map ZA m0_1))),(.d (Zb m0_2))]),(.arr 1 (List.map Zb m1_0)),(.arr 1 (List.map Zb m2_0)),(.arr 3 (List.map Za8 m3_0)),(.arr 6 (List.map Zbm m4_0)),(.arr 1 (List.map Zb m5_0))])
  | (.inr (.inl r))=>((.tup [(.nilsl 1),(.d (Zb 130))]),[(.cells [(.sl 6 1),(.sl 7 1),(.sl 3 3),(.sl 4 6),(.sl 5 1),(.d (zL t0 m0_0)),(.d (D.list t1 (List.map ZA m0_1))),(.d (Zb m0_2))]),(.arr 1 (List.map Zb m1_0)),(.arr 1 (List.map Zb m2_0)),(.arr 3 (List.map Za8 r.1)),(.arr 6 (List.map Zbm m4_0)),(.arr 1 (List.map Zb m5_0)),(.arr 1 (List.map Zb r.2.1)),(.arr 1 (List.map Zb r.2.2))])
  | (.inr (.inr r))=>((.tup [(.sl 6 1),(.d (Zb 0))]),[(.cells [(.sl 7 1),(.sl 8 1),(.sl 3 3),(.sl 4 6),(.sl 5 1),(.d (zL t0 m0_0)),(.d (D.list t1 (List.map ZA m0_1))),(.d (Zb m0_2))]),(.arr 1 (List.map Zb m1_0)),(.arr 1 (List.map Zb m2_0)),(.arr 3 (List.map Za8 r.1)),(.arr 6 (List.map Zbm m4_0)),(.arr 1 (List.map Zb m5_0)),(.arr 1 (List.map Zb r.2.1)),(.arr 1 (List.map Zb r.2.2.1)),(.arr 1 (List.map Zb r.2.2.2))])
def Zhj (t0:Bool) (t1:Bool) (m0_0:List Int) (m0_1:List Zy) (m0_2:Int) (m1_0:List Int) (m2_0:List Int) (m4_0:List Zu) (m5_0:List Int) (x1:((List Int)×(List Int)×(List Int))) (x2:List Int) (s3:Int×(List Zk)×(List Int)) (x6:List Int):(((List Zk)×(List Int))⊕((List Zk)×(List Int)))→Ex×List V×Zh
  | (.inl r)=>(.ret,[(.ptr 0 0),(.nilsl 1),(.d (Zb 130)),(.sl 6 1),(.d (zL true x2)),(.fn 1000054 [(.ptr 0 0)]),(.sl 7 1),(.sl 8 1),(.d (Zb (m1_0.length:Int))),(.d (Zb s3.1))],[(.cells [(.sl 9 1),(.sl 10 1),(.sl 3 3),(.sl 4 6),(.sl 5 1),(.d (zL t0 m0_0)),(.d (D.list t1 (List.map ZA m0_1))),(.d (Zb m0_2))]),(.arr 1 (List.map Zb m1_0)),(.arr 1 (List.map Zb m2_0)),(.arr 3 (List.map Za8 r.1)),(.arr 6 (List.map Zbm m4_0)),(.arr 1 (List.map Zb m5_0)),(.arr 1 (List.map Zb x1.2.2)),(.arr 1 (List.map Zb r.2)),(.arr 1 (List.map Zb m1_0)),(.arr 1 (List.map Zb x1.1)),(.arr 1 (List.map Zb x1.2.1))])
  | (.inr r)=>(.exit 2,[(.ptr 0 0),.bad,.bad,(.sl 6 1),(.d (zL true x2)),(.fn 1000054 [(.ptr 0 0)]),(.sl 7 1),(.sl 8 1),(.d (Zb (m1_0.length:Int))),(.d (Zb s3.1))],[(.cells [(.sl 9 1),(.sl 10 1),(.sl 3 3),(.sl 4 6),(.sl 5 1),(.d (zL t0 m0_0)),(.d (D.list t1 (List.map ZA m0_1))),(.d (Zb m0_2))]),(.arr 1 (List.map Zb m1_0)),(.arr 1 (List.map Zb m2_0)),(.arr 3 (List.map Za8 r.1)),(.arr 6 (List.map Zbm m4_0)),(.arr 1 (List.map Zb m5_0)),(.arr 1 (List.map Zb x1.2.2)),(.arr 1 (List.map Zb r.2)),(.arr 1 (List.map Zb m1_0)),(.arr 1 (List.map Zb x1.1)),(.arr 1 (List.map Zb x1.2.1))])
theorem Zkw {t0 t1:Bool}{m0_0:List Int}{m0_1:List Zy}{m0_2:Int}{m1_0:List Int}{m2_0:List Int}{m4_0:List Zu}{m5_0:List Int}{x1:((List Int)×(List Int)×(List Int))}{x2:List Int}{s3:Int×(List Zk)×(List Int)}{x6:List Int}:∀(s7:Int×(List Zk)×(List Int)) (r:(((List Zk)×(List Int))⊕((List Zk)×(List Int)))),lp (Zcs x2 s3 x6) s7=some r→lpW ctx 6 [0,6,8,9,10,11,52,53,54,78,79,80] [0,2,3,6,8,9,10,52,53,54] ZAx [(.ptr 0 0),(.sl 6 1),(.d (zL true x2)),(.fn 1000054 [(.ptr 0 0)]),(.sl 7 1),(.d (Zb s3.1)),(.sl 8 1),(.d (Zb (m1_0.length:Int))),(.d (Zb s3.1)),(.d (zL true x6)),(.d (Zb (x6.length:Int))),(.d (Zb s7.1))] [(.cells [(.sl 9 1),(.sl 10 1),(.sl 3 3),(.sl 4 6),(.sl 5 1),(.d (zL t0 m0_0)),(.d (D.list t1 (List.map ZA m0_1))),(.d (Zb m0_2))]),(.arr 1 (List.map Zb m1_0)),(.arr 1 (List.map Zb m2_0)),(.arr 3 (List.map Za8 s7.2.1)),(.arr 6 (List.map Zbm m4_0)),(.arr 1 (List.map Zb m5_0)),(.arr 1 (List.map Zb x1.2.2)),(.arr 1 (List.map Zb s7.2.2)),(.arr 1 (List.map Zb m1_0)),(.arr 1 (List.map Zb x1.1)),(.arr 1 (List.map Zb x1.2.1))]=some ((Zhj t0 t1 m0_0 m0_1 m0_2 m1_0 m2_0 m4_0 m5_0 x1 x2 s3 x6) r):=
 lpT (Zhj t0 t1 m0_0 m0_1 m0_2 m1_0 m2_0 m4_0 m5_0 x1 x2 s3 x6) fun s7 _ ih=>yB (yG fun x8 _=>
  yC Zai fun x9 _=>
  yB (yC Zai fun x10 _=>
  yB (Zd (ih _))
  (by
 conv=>rhs;whnf
 refine Zc _ Zig fun x11 _=>?_
 rcases x11 with x11 | x11
 exact yT (Zen (Zhu Zb s7.2.2 1) (Zi (Zhp Zb s7.2.2 [x8]) (Zd (ih _)))
  Zce)
 exact Zm rfl))
  (Zd (ih _)))
  (Zm rfl)
def Zhi (t0:Bool) (t1:Bool) (m0_0:List Int) (m0_1:List Zy) (m0_2:Int) (m1_0:List Int) (m2_0:List Int) (m4_0:List Zu) (m5_0:List Int) (x1:((List Int)×(List Int)×(List Int))) (x2:List Int):((List Zk)⊕(List Zk))→Ex×List V×Zh
  | (.inl r)=>(.ret,[(.nilsl 1),(.d (Zb 130)),(.sl 6 1)],[(.cells [(.sl 7 1),(.sl 8 1),(.sl 3 3),(.sl 4 6),(.sl 5 1),(.d (zL t0 m0_0)),(.d (D.list t1 (List.map ZA m0_1))),(.d (Zb m0_2))]),(.arr 1 (List.map Zb m1_0)),(.arr 1 (List.map Zb m2_0)),(.arr 3 (List.map Za8 r)),(.arr 6 (List.map Zbm m4_0)),(.arr 1 (List.map Zb m5_0)),(.arr 1 (List.map Zb x1.2.2)),(.arr 1 (List.map Zb x1.1)),(.arr 1 (List.map Zb x1.2.1))])
  | (.inr r)=>(.exit 0,[.bad,.bad,(.sl 6 1)],[(.cells [(.sl 7 1),(.sl 8 1),(.sl 3 3),(.sl 4 6),(.sl 5 1),(.d (zL t0 m0_0)),(.d (D.list t1 (List.map ZA m0_1))),(.d (Zb m0_2))]),(.arr 1 (List.map Zb m1_0)),(.arr 1 (List.map Zb m2_0)),(.arr 3 (List.map Za8 r)),(.arr 6 (List.map Zbm m4_0)),(.arr 1 (List.map Zb m5_0)),(.arr 1 (List.map Zb x1.2.2)),(.arr 1 (List.map Zb x1.1)),(.arr 1 (List.map Zb x1.2.1))])
theorem Zkf {t0 t1:Bool}{m0_0:List Int}{m0_1:List Zy}{m0_2:Int}{m1_0:List Int}{m2_0:List Int}{m4_0:List Zu}{m5_0:List Int}{x1:((List Int)×(List Int)×(List Int))}{x2:List Int}:∀(s3:Int×(List Zk)×(List Int)) (r:((List Zk)⊕(List Zk))),lp (Zcu m0_0 m0_1 m1_0 x1 x2) s3=some r→lpW ctx 6 [0,6,8,9,10,52,53,54] [2,3,6] ZyP [(.ptr 0 0),(.sl 6 1),(.d (zL true x2)),(.fn 1000054 [(.ptr 0 0)]),(.sl 7 1),(.sl 8 1),(.d (Zb (m1_0.length:Int))),(.d (Zb s3.1))] [(.cells [(.sl 9 1),(.sl 10 1),(.sl 3 3),(.sl 4 6),(.sl 5 1),(.d (zL t0 m0_0)),(.d (D.list t1 (List.map ZA m0_1))),(.d (Zb m0_2))]),(.arr 1 (List.map Zb m1_0)),(.arr 1 (List.map Zb m2_0)),(.arr 3 (List.map Za8 s3.2.1)),(.arr 6 (List.map Zbm m4_0)),(.arr 1 (List.map Zb m5_0)),(.arr 1 (List.map Zb x1.2.2)),(.arr 1 (List.map Zb s3.2.2)),(.arr 1 (List.map Zb m1_0)),(.arr 1 (List.map Zb x1.1)),(.arr 1 (List.map Zb x1.2.1))]=some ((Zhi t0 t1 m0_0 m0_1 m0_2 m1_0 m2_0 m4_0 m5_0 x1 x2) r):=
 lpT (Zhi t0 t1 m0_0 m0_1 m0_2 m1_0 m2_0 m4_0 m5_0 x1 x2) fun s3 _ ih=>yB (yG fun x4 hx4=>
  Zf (Zn rfl hx4) (yB (Zd (ih _))
  (yG fun x5 hx5=>
  Zf (Zn rfl hx5) (yB (Zd (ih _))
  (yC Zqx fun x6 _=>
  Zi (ZC _ _) (by
 conv=>rhs;whnf
 refine Zc _ (Zkw _) fun r12 _=>?_
 rcases r12 with r12 | r12
 exact Zm rfl
 exact Zd (ih _)))))))
  (Zm rfl)
theorem ZlX {t0 t1:Bool}{m0_0:List Int}{m0_1:List Zy}{m0_2:Int}{m1_0:List Int}{m2_0:List Int}{m3_0:List Zk}{m4_0:List Zu}{m5_0:List Int}:∀r,(Zf2 m0_0 m0_1 m1_0 m2_0 m3_0)=some r→evW ctx 48 [(.ptr 0 0)] [(.cells [(.sl 1 1),(.sl 2 1),(.sl 3 3),(.sl 4 6),(.sl 5 1),(.d (zL t0 m0_0)),(.d (D.list t1 (List.map ZA m0_1))),(.d (Zb m0_2))]),(.arr 1 (List.map Zb m1_0)),(.arr 1 (List.map Zb m2_0)),(.arr 3 (List.map Za8 m3_0)),(.arr 6 (List.map Zbm m4_0)),(.arr 1 (List.map Zb m5_0))]=some ((Zmv t0 t1 m0_0 m0_1 m0_2 m1_0 m2_0 m3_0 m4_0 m5_0) r):=
 evS ZCQ rfl rfl <| Zc _ Zbf fun x0 _=>
  (by
 conv=>rhs;whnf
 refine Zc _ ZpL fun x1 _=>?_
 rcases x1 with x1 | x1
 exact yBm yR
 exact yF (yC Ziu fun x2 _=>
  Zi (ZC _ _) (by
 conv=>rhs;whnf
 refine Zc _ (Zkf _) fun r13 _=>?_
 rcases r13 with r13 | r13
 exact yR
 exact yR)))
def ZoX (r:Bool):D:=(D.bool r)
theorem Zok {a:Int}:∀r,(ZdF a)=some r→evD ctx 45 [(.d (Zb a))]=some (ZoX r):=
 evT ZCG rfl rfl <| yBr yR
def Zfi (r:Int):D:=(Zb r)
def Zci (t0:Bool) (a:List Int):(Int⊕Unit)→Ex×List V×Zh
  | (.inl r)=>(.ret,[(.d (Zb r))],[])
  | (.inr r)=>(.exit 0,[.bad],[])
theorem Zex {t0:Bool}{a:List Int}:∀(s0:Int) (r:(Int⊕Unit)),lp (ZL a (fun z0=>ZdF z0)) s0=some r→lpW ctx 0 [0,1,7,8] [4] Zod [(.d (zL t0 a)),(.d (D.fn 45 [])),(.d (Zb (a.length:Int))),(.d (Zb s0))] []=some ((Zci t0 a) r):=
 lpT (Zci t0 a) fun s0 _ ih=>yB (yG fun x1 _=>
  yC Zok fun x2 _=>
  yB (Zm rfl)
  (Zd (ih _)))
  (Zm rfl)
theorem Zfe {t0:Bool}{a:List Int}:∀r,(Z4 a (fun z0=>ZdF z0))=some r→evD ctx 94 [(.d (zL t0 a)),(.d (D.fn 45 []))]=some (Zfi r):=
 evT Zvh rfl rfl <| Zi (ZC _ _) (by
 conv=>rhs;whnf
 refine Zc _ (Zex _) fun r3 _=>?_
 rcases r3 with r3 | r3
 exact yR
 exact yR)
def ZeM (r:Bool):D:=(D.bool r)
theorem ZeF {t0:Bool}{a:List Int}:∀r,(ZX a (fun z0=>ZdF z0))=some r→evD ctx 44 [(.d (zL t0 a)),(.d (D.fn 45 []))]=some (ZeM r):=
 evT Zxl rfl rfl <| yC Zfe fun x0 _=>
  yBr yR
def Zrt (r:((List (List Int))×Int×Int)):D:=(D.tup [(D.list true (List.map (ZdU true) r.1)),(Zb r.2.1),(Zb r.2.2)])
def Zj2 (t0:Bool) (t1:Bool) (t2:Bool) (t3:Bool) (a:Zx) (b:List Int) (c:Int) (d:List Int) (x0:((List Int)×(List Zk))):Int→Ex×List V×Zh
  | r=>(.exit 0,[(.d (zL t3 d)),(.ptr 0 0),(.ptr 1 0),(.d (Zb r))],[(.cells [(.d (zL t0 a.work)),(.d (D.list t1 (List.map ZA a.edges)))]),(.cells [(.sl 2 1),(.sl 3 1),(.sl 4 3),(.sl 5 6),(.sl 6 1)]),(.arr 1 (List.map Zb x0.1)),(.arr 1 (List.map Zb b)),(.arr 3 (List.map Za8 x0.2)),(.arr 6 (List.map Zbm (List.replicate c.toNat ((Zu.mk false 0 0 0 0 0):Zu)))),(.arr 1 (List.map Zb (List.replicate c.toNat (0:Int))))])
theorem Znu {t0 t1:Bool}{t2 t3:Bool}{a:Zx}{b:List Int}{c:Int}{d:List Int}{x0:((List Int)×(List Zk))}:∀(s1:Int×Int) (r:Int),lp (Zgh b) s1=some r→lpW ctx 0 [3,4,11,13,33,34,35] [3,4,11,13] ZxH [(.d (zL t3 d)),(.ptr 0 0),(.ptr 1 0),(.d (Zb s1.1)),(.d (zL t2 b)),(.d (Zb (b.length:Int))),(.d (Zb s1.2))] [(.cells [(.d (zL t0 a.work)),(.d (D.list t1 (List.map ZA a.edges)))]),(.cells [(.sl 2 1),(.sl 3 1),(.sl 4 3),(.sl 5 6),(.sl 6 1)]),(.arr 1 (List.map Zb x0.1)),(.arr 1 (List.map Zb b)),(.arr 3 (List.map Za8 x0.2)),(.arr 6 (List.map Zbm (List.replicate c.toNat ((Zu.mk false 0 0 0 0 0):Zu)))),(.arr 1 (List.map Zb (List.replicate c.toNat (0:Int))))]=some ((Zj2 t0 t1 t2 t3 a b c d x0) r):=
 lpT (Zj2 t0 t1 t2 t3 a b c d x0) fun s1 _ ih=>yB (yG fun x2 _=>
  Zd (ih _))
  (Zm rfl)
def Zj5 (t0:Bool) (t1:Bool) (t3:Bool) (a:Zx) (d:List Int):((Int×Int×(List (List Int)))⊕(Int×(List (List Int))))→Ex×List V×Zh
  | (.inl r)=>(.ret,[(.nilsl 1),(.d (Zb 0)),(.d (Zb r.1)),(.sl 0 1),(.d (Zb r.2.1))],[(.arr 1 (List.map (ZdU true) r.2.2))])
  | (.inr r)=>(.exit 2,[.bad,.bad,.bad,(.sl 0 1),(.d (Zb r.1))],[(.arr 1 (List.map (ZdU true) r.2))])
theorem ZnF {t0 t1 t3:Bool}{a:Zx}{d:List Int}:∀(s4:Int×Int×(List (List Int))×(List Int)×(List Int)×(List Zk)×(List Zu)×(List Int)) (r:((Int×Int×(List (List Int)))⊕(Int×(List (List Int))))),lp (ZdS a d) s4=some r→lpW ctx 0 [3,16,17,18] [8,9,10,17,18] ZzT [(.d (zL t3 d)),(.ptr 0 0),(.sl 1 1),(.d (Zb s4.1))] [(.cells [(.sl 2 1),(.sl 3 1),(.sl 4 3),(.sl 5 6),(.sl 6 1),(.d (zL t0 a.work)),(.d (D.list t1 (List.map ZA a.edges))),(.d (Zb s4.2.1))]),(.arr 1 (List.map (ZdU true) s4.2.2.1)),(.arr 1 (List.map Zb s4.2.2.2.1)),(.arr 1 (List.map Zb s4.2.2.2.2.1)),(.arr 3 (List.map Za8 s4.2.2.2.2.2.1)),(.arr 6 (List.map Zbm s4.2.2.2.2.2.2.1)),(.arr 1 (List.map Zb s4.2.2.2.2.2.2.2))]=some ((Zj5 t0 t1 t3 a d) r):=
 lpT (Zj5 t0 t1 t3 a d) fun s4 _ ih=>yC ZeF fun x5 _=>
  yB (Zi (ZC _ _) (yBm (Zen (ZxN Zb d (bif decide ((d.length:Int)<s4.1) then (d.length:Int) else s4.1).toNat) (Zr4 (ZCe Zb (fun _=>⟨rfl,rfl⟩) d _) (Zi (Zve Zb d (bif decide ((d.length:Int)<s4.1) then (d.length:Int) else s4.1).toNat) (Zc _ Zlu fun x6 _=>
  yB (Zm rfl)
  (Zc _ Zbf fun x7 _=>
  yT (Zen (Zhu (ZdU true) s4.2.2.1 1) (Zi (Zhp (ZdU true) s4.2.2.1 [x6.2.2.2.1]) (by
 conv=>rhs;whnf
 refine Zc _ ZlX fun x8 _=>?_
 rcases x8 with x8 | (x8 | x8)
 exact yBm (Zm rfl)
 exact yT (Zm rfl)
 exact yF (Zd (ih _))))
  Zce)))))
  Zce)))
  (Zm rfl)
theorem Zp9 {t0 t1:Bool}{t2 t3:Bool}{a:Zx}{b:List Int}{c:Int}{d:List Int}:∀r,(Zhe a b c d)=some r→evD ctx 12 [(.d (D.agg [(zL t0 a.work),(D.list t1 (List.map ZA a.edges))])),(.d (zL t2 b)),(.d (Zb c)),(.d (zL t3 d))]=some (Zrt r):=
 evT ZCr rfl rfl <| (by
 conv=>rhs;whnf
 refine Zc _ ZpS fun x0 _=>?_
 rcases x0 with x0 | x0
 exact yBm yR
 exact yF (Zi (ZC _ _) (Zc _ (Znu _) fun r3 _=>
  yBr (by
 conv=>rhs;whnf
 refine Zc _ (ZnF _) fun r9 _=>?_
 rcases r9 with r9 | r9
 exact yR
 exact yR))))
def Zqv (r:List Int):D:=(zL true r)
theorem ZoZ {t0 t1:Bool}{t2 t3:Bool}{a:Zx}{b:List Int}{c:Int}{d:(List (List Int))}:∀r,(ZiN a b c d)=some r→evD ctx 30 [(.d (D.agg [(zL t0 a.work),(D.list t1 (List.map ZA a.edges))])),(.d (zL t2 b)),(.d (Zb c)),(.d (D.list t3 (List.map (ZdU true) d)))]=some (Zqv r):=
 evT ZCf rfl rfl <| (by
 conv=>rhs;whnf
 refine Zc _ Zf6 fun x0 _=>?_
 rcases x0 with x0 | x0
 exact yBm yR
 exact yBr yR)
def Zlm (t0:Bool) (t1:Bool) (t2:Bool) (t3:Bool) (t4:Bool) (b:Int) (c:List Int) (m0_0:List Int) (m1_0:List Int) (m2_0:List Int) (m2_1:List Zy) (m3_0:Bool) (m4_0:List Int) (m5_0:List Z8) (m6_0:List Int):Bool→V×Zh
  | r=>((.d (D.tup [])),[(.cells [(.d (zL t1 m0_0)),(.sl 4 1),(.sl 5 2),(.sl 6 1)]),(.cells [(.d (zL t2 m1_0))]),(.cells [(.d (zL t3 m2_0)),(.d (D.list t4 (List.map ZA m2_1)))]),(.cells [(.d (D.bool r))]),(.arr 1 (List.map Zb m4_0)),(.arr 2 (List.map ZcW m5_0)),(.arr 1 (List.map Zb m6_0))])
def ZgR (t0:Bool) (t1:Bool) (t2:Bool) (t3:Bool) (t4:Bool) (b:Int) (c:List Int) (m0_0:List Int) (m1_0:List Int) (m2_0:List Int) (m2_1:List Zy) (m4_0:List Int) (m5_0:List Z8) (m6_0:List Int):Bool→Ex×List V×Zh
  | r=>(.exit 0,[],[(.cells [(.d (zL t1 m0_0)),(.sl 4 1),(.sl 5 2),(.sl 6 1)]),(.cells [(.d (zL t2 m1_0))]),(.cells [(.d (zL t3 m2_0)),(.d (D.list t4 (List.map ZA m2_1)))]),(.cells [(.d (D.bool r))]),(.arr 1 (List.map Zb m4_0)),(.arr 2 (List.map ZcW m5_0)),(.arr 1 (List.map Zb m6_0))])
theorem Zjl {t0 t1:Bool}{t2 t3 t4:Bool}{b:Int}{c:List Int}{m0_0:List Int}{m1_0:List Int}{m2_0:List Int}{m2_1:List Zy}{m4_0:List Int}{m5_0:List Z8}{m6_0:List Int}:∀(s0:Int×Bool) (r:Bool),lp (Zb3 b c m1_0 m2_0 m2_1 m4_0 m6_0) s0=some r→lpW ctx 7 [0,1,2,4,5,11,12] [] Zyk [(.ptr 0 0),(.d (Zb b)),(.d (zL t0 c)),(.ptr 2 0),(.ptr 3 0),(.d (Zb (m1_0.length:Int))),(.d (Zb s0.1))] [(.cells [(.d (zL t1 m0_0)),(.sl 4 1),(.sl 5 2),(.sl 6 1)]),(.cells [(.d (zL t2 m1_0))]),(.cells [(.d (zL t3 m2_0)),(.d (D.list t4 (List.map ZA m2_1)))]),(.cells [(.d (D.bool s0.2))]),(.arr 1 (List.map Zb m4_0)),(.arr 2 (List.map ZcW m5_0)),(.arr 1 (List.map Zb m6_0))]=some ((ZgR t0 t1 t2 t3 t4 b c m0_0 m1_0 m2_0 m2_1 m4_0 m5_0 m6_0) r):=
 lpT (ZgR t0 t1 t2 t3 t4 b c m0_0 m1_0 m2_0 m2_1 m4_0 m5_0 m6_0) fun s0 _ ih=>yB (yG fun x1 hx1=>
  Zf (Zn rfl hx1) (yB (yC Zai fun x2 _=>
  yB (yC Zai fun x3 _=>
  yB (Zd (ih _))
  (yC Zgs fun x4 _=>
  yB (Zd (ih _))
  (Zd (ih _))))
  (Zd (ih _)))
  (Zd (ih _))))
  (Zm rfl)
theorem Zk3 {t0 t1:Bool}{t2 t3 t4:Bool}{b:Int}{c:List Int}{m0_0:List Int}{m1_0:List Int}{m2_0:List Int}{m2_1:List Zy}{m3_0:Bool}{m4_0:List Int}{m5_0:List Z8}{m6_0:List Int}:∀r,(Ze1 b c m1_0 m2_0 m2_1 m3_0 m4_0 m6_0)=some r→evW ctx 70 [(.ptr 0 0),(.d (Zb b)),(.d (zL t0 c)),(.ptr 1 0),(.ptr 2 0),(.ptr 3 0)] [(.cells [(.d (zL t1 m0_0)),(.sl 4 1),(.sl 5 2),(.sl 6 1)]),(.cells [(.d (zL t2 m1_0))]),(.cells [(.d (zL t3 m2_0)),(.d (D.list t4 (List.map ZA m2_1)))]),(.cells [(.d (D.bool m3_0))]),(.arr 1 (List.map Zb m4_0)),(.arr 2 (List.map ZcW m5_0)),(.arr 1 (List.map Zb m6_0))]=some ((Zlm t0 t1 t2 t3 t4 b c m0_0 m1_0 m2_0 m2_1 m3_0 m4_0 m5_0 m6_0) r):=
 evS ZC0 rfl rfl <| Zi (ZC _ _) (Zc _ (Zjl _) fun r5 _=>
  yR)
def ZhX (t0:Bool) (t1:Bool) (t2:Bool) (t3:Bool) (t4:Bool) (t5:Bool) (t6:Bool) (a:Zx) (b:List Int) (c:Int) (d:(List (List Int))) (m0_0:List Int) (m1_0:List Int) (m1_1:List Zy):(Int⊕(Int×Bool×(List Int)×(List Z8)×(List Int)))→V×Zh
  | (.inl r)=>((.d (D.tup [(D.nilp),(Zb r)])),[(.cells [(.d (zL t4 m0_0))]),(.cells [(.d (zL t5 m1_0)),(.d (D.list t6 (List.map ZA m1_1)))]),(.cells [(.d (D.bool true))])])
  | (.inr r)=>((.tup [(.ptr 3 0),(.d (Zb r.1))]),[(.cells [(.d (zL t4 m0_0))]),(.cells [(.d (zL t5 m1_0)),(.d (D.list t6 (List.map ZA m1_1)))]),(.cells [(.d (D.bool r.2.1))]),(.cells [(.d (zL t2 b)),(.sl 4 1),(.sl 5 2),(.sl 6 1)]),(.arr 1 (List.map Zb r.2.2.1)),(.arr 2 (List.map ZcW r.2.2.2.1)),(.arr 1 (List.map Zb r.2.2.2.2))])
def Zeg (t0:Bool) (t1:Bool) (t2:Bool) (t3:Bool) (t4:Bool) (t5:Bool) (t6:Bool) (a:Zx) (b:List Int) (d:(List (List Int))) (m0_0:List Int) (m1_0:List Int) (m1_1:List Zy) (s3:Int×Int×Bool×(List Int)×(List Z8)×(List Int)) (x4:List Int):(Int⊕Int)→Ex×List V×Zh
  | (.inl r)=>(.exit 0,[(.fn 70 [(.ptr 0 0),(.ptr 1 0),(.ptr 2 0)]),(.ptr 3 0),(.d (Zb r)),(.ptr 4 0),(.d (Zb s3.2.1)),(.d (zL true x4)),(.d (D.list t3 (List.map (ZdU true) d))),(.d (Zb (d.length:Int))),(.d (Zb s3.2.1))],[(.cells [(.d (zL t4 m0_0))]),(.cells [(.d (zL t5 m1_0)),(.d (D.list t6 (List.map ZA m1_1)))]),(.cells [(.d (D.bool s3.2.2.1))]),(.cells [(.d (zL t0 a.work)),(.d (D.list t1 (List.map ZA a.edges)))]),(.cells [(.d (zL t2 b)),(.sl 5 1),(.sl 6 2),(.sl 7 1)]),(.arr 1 (List.map Zb s3.2.2.2.1)),(.arr 2 (List.map ZcW s3.2.2.2.2.1)),(.arr 1 (List.map Zb s3.2.2.2.2.2))])
  | (.inr r)=>(.exit 2,[(.fn 70 [(.ptr 0 0),(.ptr 1 0),(.ptr 2 0)]),(.ptr 3 0),(.d (Zb r)),(.ptr 4 0),(.d (Zb s3.2.1)),(.d (zL true x4)),(.d (D.list t3 (List.map (ZdU true) d))),(.d (Zb (d.length:Int))),(.d (Zb s3.2.1))],[(.cells [(.d (zL t4 m0_0))]),(.cells [(.d (zL t5 m1_0)),(.d (D.list t6 (List.map ZA m1_1)))]),(.cells [(.d (D.bool s3.2.2.1))]),(.cells [(.d (zL t0 a.work)),(.d (D.list t1 (List.map ZA a.edges)))]),(.cells [(.d (zL t2 b)),(.sl 5 1),(.sl 6 2),(.sl 7 1)]),(.arr 1 (List.map Zb s3.2.2.2.1)),(.arr 2 (List.map ZcW s3.2.2.2.2.1)),(.arr 1 (List.map Zb s3.2.2.2.2.2))])
theorem Zg6 {t0 t1:Bool}{t2 t3:Bool}{t4 t5 t6:Bool}{a:Zx}{b:List Int}{d:(List (List Int))}{m0_0:List Int}{m1_0:List Int}{m1_1:List Zy}{s3:Int×Int×Bool×(List Int)×(List Z8)×(List Int)}{x4:List Int}:∀(s5:Int×Int) (r:(Int⊕Int)),lp (ZdY a b s3 x4) s5=some r→lpW ctx 3 [4,5,13,15,16,17,47,48,49,54,55,56] [4,5,13,15,16,17,47,48,49] ZuK [(.fn 70 [(.ptr 0 0),(.ptr 1 0),(.ptr 2 0)]),(.ptr 3 0),(.d (Zb s5.1)),(.ptr 4 0),(.d (Zb s3.2.1)),(.d (zL true x4)),(.d (D.list t3 (List.map (ZdU true) d))),(.d (Zb (d.length:Int))),(.d (Zb s3.2.1)),(.d (zL true x4)),(.d (Zb (x4.length:Int))),(.d (Zb s5.2))] [(.cells [(.d (zL t4 m0_0))]),(.cells [(.d (zL t5 m1_0)),(.d (D.list t6 (List.map ZA m1_1)))]),(.cells [(.d (D.bool s3.2.2.1))]),(.cells [(.d (zL t0 a.work)),(.d (D.list t1 (List.map ZA a.edges)))]),(.cells [(.d (zL t2 b)),(.sl 5 1),(.sl 6 2),(.sl 7 1)]),(.arr 1 (List.map Zb s3.2.2.2.1)),(.arr 2 (List.map ZcW s3.2.2.2.2.1)),(.arr 1 (List.map Zb s3.2.2.2.2.2))]=some ((Zeg t0 t1 t2 t3 t4 t5 t6 a b d m0_0 m1_0 m1_1 s3 x4) r):=
 lpT (Zeg t0 t1 t2 t3 t4 t5 t6 a b d m0_0 m1_0 m1_1 s3 x4) fun s5 _ ih=>yB (yG fun x6 _=>
  yB (Zd (ih _))
  (yC ZiA fun x7 _=>
  yB (Zm rfl)
  (Zd (ih _))))
  (Zm rfl)
def Zed (t0:Bool) (t1:Bool) (t2:Bool) (t3:Bool) (t4:Bool) (t5:Bool) (t6:Bool) (a:Zx) (b:List Int) (d:(List (List Int))) (m0_0:List Int) (m1_0:List Int) (m1_1:List Zy) (s3:Int×Int×Bool×(List Int)×(List Z8)×(List Int)) (x4:List Int) (r8:Int) (x9:Bool):((List Int)×(List Z8)×(List Int))→Ex×List V×Zh
  | r=>(.exit 4,[(.fn 70 [(.ptr 0 0),(.ptr 1 0),(.ptr 2 0)]),(.ptr 3 0),(.d (Zb r8)),(.ptr 4 0),(.d (D.list t3 (List.map (ZdU true) d))),(.d (Zb (d.length:Int))),(.d (Zb s3.2.1))],[(.cells [(.d (zL t4 m0_0))]),(.cells [(.d (zL t5 m1_0)),(.d (D.list t6 (List.map ZA m1_1)))]),(.cells [(.d (D.bool x9))]),(.cells [(.d (zL t0 a.work)),(.d (D.list t1 (List.map ZA a.edges)))]),(.cells [(.d (zL t2 b)),(.sl 5 1),(.sl 6 2),(.sl 7 1)]),(.arr 1 (List.map Zb r.1)),(.arr 2 (List.map ZcW r.2.1)),(.arr 1 (List.map Zb r.2.2))])
theorem Zg5 {t0 t1:Bool}{t2 t3:Bool}{t4 t5 t6:Bool}{a:Zx}{b:List Int}{d:(List (List Int))}{m0_0:List Int}{m1_0:List Int}{m1_1:List Zy}{s3:Int×Int×Bool×(List Int)×(List Z8)×(List Int)}{x4:List Int}{r8:Int}{x9:Bool}:∀(s10:Int×(List Int)×(List Z8)×(List Int)) (r:((List Int)×(List Z8)×(List Int))),lp (ZdR b s3 x4) s10=some r→lpW ctx 3 [4,5,13,15,16,47,48,49,77,78,79] [4,5,13,15,47,48,49] ZuT [(.fn 70 [(.ptr 0 0),(.ptr 1 0),(.ptr 2 0)]),(.ptr 3 0),(.d (Zb r8)),(.ptr 4 0),(.d (Zb s3.2.1)),(.d (D.list t3 (List.map (ZdU true) d))),(.d (Zb (d.length:Int))),(.d (Zb s3.2.1)),(.d (zL true x4)),(.d (Zb (x4.length:Int))),(.d (Zb s10.1))] [(.cells [(.d (zL t4 m0_0))]),(.cells [(.d (zL t5 m1_0)),(.d (D.list t6 (List.map ZA m1_1)))]),(.cells [(.d (D.bool x9))]),(.cells [(.d (zL t0 a.work)),(.d (D.list t1 (List.map ZA a.edges)))]),(.cells [(.d (zL t2 b)),(.sl 5 1),(.sl 6 2),(.sl 7 1)]),(.arr 1 (List.map Zb s10.2.1)),(.arr 2 (List.map ZcW s10.2.2.1)),(.arr 1 (List.map Zb s10.2.2.2))]=some ((Zed t0 t1 t2 t3 t4 t5 t6 a b d m0_0 m1_0 m1_1 s3 x4 r8 x9) r):=
 lpT (Zed t0 t1 t2 t3 t4 t5 t6 a b d m0_0 m1_0 m1_1 s3 x4 r8 x9) fun s10 _ ih=>yB (yG fun x11 _=>
  yB (Zc _ Ziy fun x12 _=>
  Zd (ih _))
  (Zd (ih _)))
  (Zm rfl)
def Zeh (t0:Bool) (t1:Bool) (t2:Bool) (t3:Bool) (t4:Bool) (t5:Bool) (t6:Bool) (a:Zx) (b:List Int) (d:(List (List Int))) (m0_0:List Int) (m1_0:List Int) (m1_1:List Zy):(Int×Bool×(List Int)×(List Z8)×(List Int))→Ex×List V×Zh
  | r=>(.exit 0,[(.d (Zb r.1)),(.ptr 3 0)],[(.cells [(.d (zL t4 m0_0))]),(.cells [(.d (zL t5 m1_0)),(.d (D.list t6 (List.map ZA m1_1)))]),(.cells [(.d (D.bool r.2.1))]),(.cells [(.d (zL t2 b)),(.sl 4 1),(.sl 5 2),(.sl 6 1)]),(.arr 1 (List.map Zb r.2.2.1)),(.arr 2 (List.map ZcW r.2.2.2.1)),(.arr 1 (List.map Zb r.2.2.2.2))])
theorem ZgW {t0 t1:Bool}{t2 t3:Bool}{t4 t5 t6:Bool}{a:Zx}{b:List Int}{d:(List (List Int))}{m0_0:List Int}{m1_0:List Int}{m1_1:List Zy}:∀(s3:Int×Int×Bool×(List Int)×(List Z8)×(List Int)) (r:(Int×Bool×(List Int)×(List Z8)×(List Int))),lp (ZcN a b d m0_0 m1_0 m1_1) s3=some r→lpW ctx 3 [4,5,13,15,47,48,49] [13,15] ZuV [(.fn 70 [(.ptr 0 0),(.ptr 1 0),(.ptr 2 0)]),(.ptr 3 0),(.d (Zb s3.1)),(.ptr 4 0),(.d (D.list t3 (List.map (ZdU true) d))),(.d (Zb (d.length:Int))),(.d (Zb s3.2.1))] [(.cells [(.d (zL t4 m0_0))]),(.cells [(.d (zL t5 m1_0)),(.d (D.list t6 (List.map ZA m1_1)))]),(.cells [(.d (D.bool s3.2.2.1))]),(.cells [(.d (zL t0 a.work)),(.d (D.list t1 (List.map ZA a.edges)))]),(.cells [(.d (zL t2 b)),(.sl 5 1),(.sl 6 2),(.sl 7 1)]),(.arr 1 (List.map Zb s3.2.2.2.1)),(.arr 2 (List.map ZcW s3.2.2.2.2.1)),(.arr 1 (List.map Zb s3.2.2.2.2.2))]=some ((Zeh t0 t1 t2 t3 t4 t5 t6 a b d m0_0 m1_0 m1_1) r):=
 lpT (Zeh t0 t1 t2 t3 t4 t5 t6 a b d m0_0 m1_0 m1_1) fun s3 _ ih=>yB (yG fun x4 _=>
  Zi (ZC _ _) (by
 conv=>rhs;whnf
 refine Zc _ (Zg6 _) fun r8 _=>?_
 rcases r8 with r8 | r8
 exact Zm rfl
 exact Zc _ Zk3 fun x9 _=>
  Zi (ZC _ _) (Zc _ (Zg5 _) fun r13 _=>
  Zd (ih _))))
  (Zm rfl)
theorem ZhF {t0 t1:Bool}{t2 t3:Bool}{t4 t5 t6:Bool}{a:Zx}{b:List Int}{c:Int}{d:(List (List Int))}{m0_0:List Int}{m1_0:List Int}{m1_1:List Zy}:∀r,(Zit a b c d m0_0 m1_0 m1_1)=some r→evW ctx 68 [(.d (D.agg [(zL t0 a.work),(D.list t1 (List.map ZA a.edges))])),(.d (zL t2 b)),(.d (Zb c)),(.d (D.list t3 (List.map (ZdU true) d))),(.fn 70 [(.ptr 0 0),(.ptr 1 0),(.ptr 2 0)])] [(.cells [(.d (zL t4 m0_0))]),(.cells [(.d (zL t5 m1_0)),(.d (D.list t6 (List.map ZA m1_1)))]),(.cells [(.d (D.bool true))])]=some ((ZhX t0 t1 t2 t3 t4 t5 t6 a b c d m0_0 m1_0 m1_1) r):=
 evS ZAA rfl rfl <| yC ZhV fun x0 _=>
  yB (yBr (Zi (ZC _ _) (yBr (yC ZbT fun x1 _=>
  yBr (Zc _ Zky fun x2 _=>
  Zi (ZC _ _) (Zc _ (ZgW _) fun r14 _=>
  yR))))))
  (yBr yR)
def Zov (r:Bool):D:=(D.bool r)
theorem ZnW {t0 t1:Bool}{t2 t3:Bool}{a:Zx}{b:List Int}{c:Int}{d:(List (List Int))}:∀r,(ZhC a b c d)=some r→evD ctx 32 [(.d (D.agg [(zL t0 a.work),(D.list t1 (List.map ZA a.edges))])),(.d (zL t2 b)),(.d (Zb c)),(.d (D.list t3 (List.map (ZdU true) d)))]=some (Zov r):=
 evT ZCo rfl rfl <| (by
 conv=>rhs;whnf
 refine Zc _ ZhF fun x0 _=>?_
 rcases x0 with x0 | x0
 exact yT (yBn yR)
 exact yB (yBr yR)
  yR)
def Zre (r:Int):D:=(Zb r)
def Zkh (t0:Bool) (a:Zx):Int→Ex×List V×Zh
  | r=>(.exit 0,[(.d (Zb r))],[])
theorem Znr {t0:Bool}{a:Zx}:∀(s1:Int×Int) (r:Int),lp (Zgd a) s1=some r→lpW ctx 0 [3,10,11,12] [3] Zyz [(.d (Zb s1.1)),(.d (zL t0 a.work)),(.d (Zb (a.work.length:Int))),(.d (Zb s1.2))] []=some ((Zkh t0 a) r):=
 lpT (Zkh t0 a) fun s1 _ ih=>yB (yG fun x2 _=>
  Zd (ih _))
  (Zm rfl)
theorem ZqW {t0 t1:Bool}{a:Zx}:∀r,(Zjs a)=some r→evD ctx 74 [(.d (D.agg [(zL t0 a.work),(D.list t1 (List.map ZA a.edges))]))]=some (Zre r):=
 evT ZCR rfl rfl <| yC Zgn fun x0 _=>
  yB (Zi (ZC _ _) (Zc _ (Znr _) fun r3 _=>
  yR))
  yR
def Zro (r:List Int):D:=(zL true r)
theorem ZpC {t0 t1:Bool}{a:Zx}:∀r,(Zjv a)=some r→evD ctx 128 [(.d (D.agg [(zL t0 a.work),(D.list t1 (List.map ZA a.edges))]))]=some (Zro r):=
 evT Zzu rfl rfl <| yC Zgn fun x0 _=>
  yBr (yC ZlK fun x1 _=>
  yBr yR)
def Zpb (r:(Int×Bool)):D:=(D.tup [(Zb r.1),(D.bool r.2)])
theorem Zn9 {a:Zy}{b0:Int}:∀r,(ZfH a b0)=some r→evD ctx 172 [(.d (D.agg [(Zb a.src),(Zb a.dst)])),(.d (D.rptr [(Zb b0)]))]=some (Zpb r):=
 evT ZyE rfl rfl <| yBr yR
def ZjZ (r:List Int):D:=(zL true r)
def ZfZ (t1:Bool) (a:Zx) (b0:Int):(List Int)→Ex×List V×Zh
  | r=>(.exit 0,[(.sl 0 1)],[(.arr 1 (List.map Zb r))])
theorem Zir {t1:Bool}{a:Zx}{b0:Int}:∀(s0:Int×(List Int)) (r:List Int),lp (Zdz a (fun z0=>ZfH z0 b0)) s0=some r→lpW ctx 0 [1,5,11,12,13] [5] Zs9 [(.d (D.fn 172 [(D.rptr [(Zb b0)])])),(.sl 0 1),(.d (D.list t1 (List.map ZA a.edges))),(.d (Zb (a.edges.length:Int))),(.d (Zb s0.1))] [(.arr 1 (List.map Zb s0.2))]=some ((ZfZ t1 a b0) r):=
 lpT (ZfZ t1 a b0) fun s0 _ ih=>yB (yG fun x1 _=>
  yC Zn9 fun x2 _=>
  yB (yT (Zen (Zhu Zb s0.2 1) (Zi (Zhp Zb s0.2 [x2.1]) (Zd (ih _)))
  Zce))
  (Zd (ih _)))
  (Zm rfl)
theorem Zjk {t0 t1:Bool}{a:Zx}{b0:Int}:∀r,(ZiR a (fun z0=>ZfH z0 b0))=some r→evD ctx 149 [(.d (D.agg [(zL t0 a.work),(D.list t1 (List.map ZA a.edges))])),(.d (D.fn 172 [(D.rptr [(Zb b0)])]))]=some (ZjZ r):=
 evT Zwz rfl rfl <| Zi (ZC _ _) (Zc _ (Zir _) fun r3 _=>
  Zc _ ZdQ fun x4 _=>
  yR)
def Zrl (r:List Int):D:=(zL true r)
theorem ZpF {t0 t1:Bool}{a:Zx}{b:Int}:∀r,(ZjA a b)=some r→evD ctx 129 [(.d (D.agg [(zL t0 a.work),(D.list t1 (List.map ZA a.edges))])),(.d (Zb b))]=some (Zrl r):=
 evT ZzO rfl rfl <| yC Zjk fun x0 _=>
  yR
def Zs5 (r:Int):D:=(Zb r)
def Zlh (t0:Bool) (t1:Bool) (a:Zx) (x0:List Int) (s1:Int×Int×(List Int)) (x2:Int) (x3:List Int):(List Int)→Ex×List V×Zh
  | r=>(.exit 2,[(.ptr 0 0),(.sl 1 1),(.d (Zb s1.1)),(.d (Zb x2)),(.d (zL true x0)),(.d (Zb (x0.length:Int))),(.d (Zb s1.2.1))],[(.cells [(.d (zL t0 a.work)),(.d (D.list t1 (List.map ZA a.edges)))]),(.arr 1 (List.map Zb r))])
theorem Zos {t0 t1:Bool}{a:Zx}{x0:List Int}{s1:Int×Int×(List Int)}{x2:Int}{x3:List Int}:∀(s4:Int×(List Int)) (r:List Int),lp (ZfM x2 x3) s4=some r→lpW ctx 0 [1,3,4,6,14,15,16,22,23,24] [1,3,4,6,14,15,16] ZyG [(.ptr 0 0),(.sl 1 1),(.d (Zb s1.1)),(.d (Zb x2)),(.d (zL true x0)),(.d (Zb (x0.length:Int))),(.d (Zb s1.2.1)),(.d (zL true x3)),(.d (Zb (x3.length:Int))),(.d (Zb s4.1))] [(.cells [(.d (zL t0 a.work)),(.d (D.list t1 (List.map ZA a.edges)))]),(.arr 1 (List.map Zb s4.2))]=some ((Zlh t0 t1 a x0 s1 x2 x3) r):=
 lpT (Zlh t0 t1 a x0 s1 x2 x3) fun s4 _ ih=>yB (yG fun x5 _=>
  yG fun x6 hx6=>
  Zf (Zn rfl hx6) (yG fun x7 hx7=>
  Zf (Zn rfl hx7) (Zf (ZaV rfl hx6) (Zf (Zn rfl hx6) (Zi (Zac Zb s4.2 x2.toNat (bif decide (x6<x7) then x7 else x6)) (Zd (ih _)))))))
  (Zm rfl)
def Zlj (t0:Bool) (t1:Bool) (a:Zx) (x0:List Int):Int→Ex×List V×Zh
  | r=>(.exit 0,[(.d (Zb r))],[])
theorem Zoz {t0 t1:Bool}{a:Zx}{x0:List Int}:∀(s1:Int×Int×(List Int)) (r:Int),lp (ZfP a x0) s1=some r→lpW ctx 0 [1,3,4,14,15,16] [4] Zzc [(.ptr 0 0),(.sl 1 1),(.d (Zb s1.1)),(.d (zL true x0)),(.d (Zb (x0.length:Int))),(.d (Zb s1.2.1))] [(.cells [(.d (zL t0 a.work)),(.d (D.list t1 (List.map ZA a.edges)))]),(.arr 1 (List.map Zb s1.2.2))]=some ((Zlj t0 t1 a x0) r):=
 lpT (Zlj t0 t1 a x0) fun s1 _ ih=>yB (yG fun x2 _=>
  yC ZpF fun x3 _=>
  Zi (ZC _ _) (Zc _ (Zos _) fun r8 _=>
  yG fun x9 hx9=>
  Zf (Zn rfl hx9) (yG fun x10 _=>
  Zf (ZaV rfl hx9) (Zf (Zn rfl hx9) (Zi (Zac Zb r8 x2.toNat (w64 (x9+x10))) (yG fun x11 hx11=>
  Zf (Zn rfl hx11) (Zd (ih _))))))))
  (Zm rfl)
theorem Zrr {t0 t1:Bool}{a:Zx}:∀r,(ZkL a)=some r→evD ctx 75 [(.d (D.agg [(zL t0 a.work),(D.list t1 (List.map ZA a.edges))]))]=some (Zs5 r):=
 evT ZCq rfl rfl <| Zi (ZC _ _) (yBm (Zi (Zjz Zb (0:Int) (a.work.length:Int)) (yC ZpC fun x0 _=>
  Zi (ZC _ _) (Zc _ (Zoz _) fun r12 _=>
  yR))))
def Zpj (r:Int):D:=(Zb r)
theorem Zn4 {t0 t1 t2:Bool}{a:Zx}{b:List Int}{c:Int}:∀r,(Zh4 a b c)=some r→evD ctx 33 [(.d (D.agg [(zL t0 a.work),(D.list t1 (List.map ZA a.edges))])),(.d (zL t2 b)),(.d (Zb c))]=some (Zpj r):=
 evT ZC7 rfl rfl <| yC ZhV fun x0 _=>
  yB (yBr (yC ZqW fun x1 _=>
  yC Zrr fun x2 _=>
  yBn yR))
  yR
def ZlF (r:Bool):D:=(D.bool r)
def Zhb (t0:Bool) (t1:Bool) (t2:Bool) (a:Zx) (b:List Int) (c:Int) (x8:((List (List Int))×Int×Int)) (x11:List Int):(Unit⊕Unit)→Ex×List V×Zh
  | (.inl r)=>(.ret,[(.d (zL t2 b)),(.d (Zb c)),(.ptr 0 0),(.d (D.bool false)),(.d (D.list true (List.map (ZdU true) x8.1))),(.d (zL true x11))],[(.cells [(.d (zL t0 a.work)),(.d (D.list t1 (List.map ZA a.edges)))])])
  | (.inr r)=>(.exit 0,[(.d (zL t2 b)),(.d (Zb c)),(.ptr 0 0),.bad,(.d (D.list true (List.map (ZdU true) x8.1))),(.d (zL true x11))],[(.cells [(.d (zL t0 a.work)),(.d (D.list t1 (List.map ZA a.edges)))])])
theorem ZjO {t0 t1 t2:Bool}{a:Zx}{b:List Int}{c:Int}{x8:((List (List Int))×Int×Int)}{x11:List Int}:∀(s12:Int) (r:(Unit⊕Unit)),lp (ZcG x11) s12=some r→lpW ctx 0 [1,2,4,9,12,13] [1,2,4,8,9,12] ZBH [(.d (zL t2 b)),(.d (Zb c)),(.ptr 0 0),(.d (D.list true (List.map (ZdU true) x8.1))),(.d (zL true x11)),(.d (Zb s12))] [(.cells [(.d (zL t0 a.work)),(.d (D.list t1 (List.map ZA a.edges)))])]=some ((Zhb t0 t1 t2 a b c x8 x11) r):=
 lpT (Zhb t0 t1 t2 a b c x8 x11) fun s12 _ ih=>Zi (ZC _ _) (yB (yG fun x13 _=>
  yB (Zm rfl)
  (Zd (ih _)))
  (Zm rfl))
theorem Zlq {t0 t1:Bool}{t2 t3:Bool}{a:Zx}{b:List Int}{c:Int}{d:List Int}:∀r,(Zg2 a b c d)=some r→evD ctx 7 [(.d (D.agg [(zL t0 a.work),(D.list t1 (List.map ZA a.edges))])),(.d (zL t2 b)),(.d (Zb c)),(.d (zL t3 d))]=some (ZlF r):=
 evT fn7 rfl rfl <| yC ZdI fun x0 _=>
  yB (yC ZpY fun x1 _=>
  yB (Zi (ZC _ _) (yB (yC ZdI fun x2 _=>
  yBr yR)
  (yC ZnL fun x3 _=>
  yB (Zi (ZC _ _) (yB (yC ZdI fun x4 _=>
  yBr yR)
  (Zc _ Zgm fun x5 _=>
  Zc _ Zep fun x6 _=>
  Zc _ Zep fun x7 _=>
  yC Zp9 fun x8 _=>
  yB (Zi (ZC _ _) (yBr yR))
  (Zc _ Zgm fun x9 _=>
  Zc _ Zep fun x10 _=>
  yC ZoZ fun x11 _=>
  (by
 conv=>rhs;whnf
 refine Zc _ (ZjO _) fun r14 _=>?_
 rcases r14 with r14 | r14
 exact yR
 exact Zc _ Zgm fun x15 _=>
  Zc _ Zep fun x16 _=>
  yC Zj3 fun x17 _=>
  yB (Zc _ Zgm fun x18 _=>
  Zc _ Zep fun x19 _=>
  yC ZnW fun x20 _=>
  yB (Zi (ZC _ _) (Zi (ZC _ _) (yB (Zi (ZC _ _) (Zc _ Zgm fun x21 _=>
  Zc _ Zep fun x22 _=>
  yC Zn4 fun x23 _=>
  yBr yR))
  yR)))
  yR)
  yR)))))
  (yC ZdI fun x24 _=>
  yBr yR))))
  (yC ZdI fun x25 _=>
  yBr yR))
  (yC ZdI fun x26 _=>
  yBr yR)
end Go.Proofs.YtgcfmiajkbbmeaaGreatDoor
namespace Go.Proofs.YtgcfmiajkbbmeaaGreatDoor
open Go Go.Proofs.YtgcfmiajkbbmeaaGreatDoorE
open Go.IntKind (u64 i64 u32 i32 u8)
abbrev Zzb:List Lf×Bool:=([.int .i64],false)
abbrev ZmC:List Lf×Bool:=([.sl false [.int .i64]],false)
abbrev Zuc:List Lf×Bool:=([.sl false [.int .i64],.sl true [.int .i64,.int .i64]],true)
theorem Zqg (g:Zx) (need:List Int) (c:Int) (picks:List Int):Zg2 g need c picks=some true:=by
 unfold Zg2
 simp only[ZdE,ZC3,Option.bind_some,cond_true]
 cases hf:ZxF g with
 | false=>rfl
 | true=>
 obtain⟨hw,he,hsh⟩:=ZwG hf
 rw[cond_true]
 by_cases hl:70<(need.length:Int)
 ·rw[decide_eq_true hl];rfl
 rw[decide_eq_false hl,cond_false]
 obtain⟨b,hb,hb2⟩:=ZyU need (by omega)
 rw[hb,Option.bind_some]
 cases b with
 | false=>rfl
 | true=>
 rw[cond_true]
 by_cases hp:600<(picks.length:Int)
 ·rw[decide_eq_true hp];rfl
 rw[decide_eq_false hp,cond_false]
 simp only[ZB5 hf,ZrO (show need.length≤1000 by omega),ZrO (show picks.length≤1000 by omega),Option.bind_some]
 by_cases h1:ZjT g need c=0
 ·have hin:=ZkT.1 h1
  have hr:∀x∈need,0≤x∧x≤1000:=fun x hx=>by have:=hin.rng x hx;omega
  have hs:=hb2 rfl fun x hx=>(hr x hx).1
  have hw64:=(Zbg hin.ck).1.wl
  have hnl:=hin.nl
  have c1:=hin.c1
  obtain⟨t,s1,e1,R1⟩:=ZF6 (picks:=picks) hin (by omega) (by omega)
  have A1:=R1.all hin
  have b1:=A1.busy
  have sh1:=A1.short
  obtain⟨left,on,S,hz⟩:=R1.done
  have ht:t.length≤4096:=by omega
  obtain⟨ran,last,ends,q1,I⟩:=ZCm hin S ht
  have hll:=S.len.1
  have hall:lp (ZcG ends) 0=some (.inr ()):=ZuH ends _ _ (fun i x hi hx=>by
   have hi2:i<need.length:=by rw[← I.l3];exact hi
   have hin':isN need (i:Int):=⟨by omega,by simpa using hi2⟩
   obtain⟨e,e1,e2,_⟩:=I.fin _ hin' (hz _ ⟨hin'.1,by rw[hll];exact hin'.2⟩)
   rw[ZqZ hx] at e1
   simp only[ZcG,ZfF hi,cond_true,Zab hx,Option.bind_some,decide_eq_false (show ¬x<0 by omega),cond_false,Zag hi (show ends.length<9223372036854775808 by rw[I.l3];omega)]) (by simp only[ZcG,ZfV];rfl)
  obtain⟨F,M,hF,hM0,hM1,hB⟩:=ZAP hin
  have hg:=ZDd (h:=⟨need,g.edges⟩) hin S rfl rfl (fun n _=>Int.le_refl _) hF hM0
  have hl0:left.sum=0:=Zut fun x hx=>by
   obtain⟨i,hi⟩:=List.getElem?_of_mem hx
   have hil:=(List.getElem?_eq_some_iff.1 hi).1
   have:=hz (i:Int) ⟨by omega,by simpa using hil⟩
   rwa [ZqZ hi] at this
  have hs0:=ZmS need hr
  have hpos:0≤(c-1)*M:=Int.mul_nonneg (by omega) hM0
  have hle:=ZxK (n:=(t.length:Int)) c1 (show 0≤need.sum+(c-1)*M by omega) (by omega)
  rw[e1,Option.bind_some]
  dsimp only
  rw[show((0:Int) != 0)=false from rfl,cond_false,q1,Option.bind_some,hall,Option.bind_some]
  dsimp only
  rw[ZsB hin S ht,Option.bind_some,beq_self_eq_true,cond_true,Zx7 hin S ht,Option.bind_some,cond_true,show((ends.length:Int)==(need.length:Int))=true from beq_iff_eq.2 (by rw[I.l3]),cond_true,hB,Option.bind_some,decide_eq_true hle]
  rfl
 ·rw[ZyV hsh h1,Option.bind_some]
  dsimp only
  rw[show(ZjT g need c != 0)=true by simpa using h1]
  rfl
theorem Zrs (xs:List D) (h:Zg7 Zuc.1 xs) (ys:List D) (k:Zg7 ZmC.1 ys) (zs:List D) (m:Zg7 Zzb.1 zs) (vs:List D) (n:Zg7 ZmC.1 vs) :
  ∃H',evW ctx 7 (ZcK [ZmU Zuc.2 xs,ZmU ZmC.2 ys,ZmU Zzb.2 zs,ZmU ZmC.2 vs]) []=some (.d (.bool true),H'):=by
 obtain⟨d,hd,_⟩:=Zxx h
 obtain⟨a,ha,_⟩:=Zqk k
 obtain⟨c,hc,_⟩:=ZCM m
 obtain⟨p,hp,_⟩:=Zqk n
 show ∃H',evW ctx 7 [.d (D.agg xs),.d (ZmU false ys),.d (ZmU false zs),.d (ZmU false vs)] []=_
 rw[hd,ha,hc,hp]
 exact ZAo (Zlq true (Zqg d a c p))
end Go.Proofs.YtgcfmiajkbbmeaaGreatDoor
namespace Go.Proofs.YtgcfmiajkbbmeaaGreatDoor.LawStealSched
open Go.ChangeShapes Go.WideShapes Go.ChangeAt Go.RowKit Go.Proofs.YtgcfmiajkbbmeaaGreatDoorE
theorem own:ownKnob Tryz.prog.godebug=none:=by kernel_rfl
theorem Zpv:laidOutB Tryz.prog=true:=by kernel_rfl
def Zq5 : List (String × DataW Unit) := [("math/bits.deBruijn32tab", Rows.laid_math_bits_deBruijn32tab), ("math/bits.deBruijn64tab", Rows.laid_math_bits_deBruijn64tab)]
theorem Zz4 (os:Os) (args:Array Value):laidMetH Tryz.prog Zq5 ((World.doorLaid Tryz.prog 19 os).forCall (fun _ _=>0) ⟨#[],args,[]⟩).memory:=
 laidMetH_of_parts3 (fuel:=8) (laidMet_of_run' 8 (by kernel_rfl) (by kernel_rfl)) (by kernel_rfl) (by kernel_rfl)
theorem Zyr {W:World} (h:laidMetH Tryz.prog Zq5 W):GOK Zj R0 W:=by
 intro g l hg
 unfold Zj at hg
 split at hg
 ·cases hg
  exact ZqJ (t := 246) (N := 32) (e := 5) (k := .u8) h (by kernel_rfl) (n := "math/bits.deBruijn32tab") (by rw [show DataW.agg (ZmY ZBU) = Rows.laid_math_bits_deBruijn32tab by kernel_rfl]; simp [Zq5]) (by kernel_rfl) (by kernel_rfl) (by kernel_rfl) (by kernel_rfl) (by kernel_rfl) (by kernel_rfl) (by decide)
 ·cases hg
  exact ZqJ (t := 247) (N := 64) (e := 5) (k := .u8) h (by kernel_rfl) (n := "math/bits.deBruijn64tab") (by rw [show DataW.agg (ZmY ZBD) = Rows.laid_math_bits_deBruijn64tab by kernel_rfl]; simp [Zq5]) (by kernel_rfl) (by kernel_rfl) (by kernel_rfl) (by kernel_rfl) (by kernel_rfl) (by kernel_rfl) (by decide)
 ·cases hg
theorem ZCU (os:Os) (started:os.Started) (H:Type) (enc:TypeId×Value→H) :
  ReturnsInHanded {} Tryz.checked os 7 .any (fun w args=>(Rows.stealSchedSpec.pre enc Tryz.prog Tryz.f7 [] false w args∧laidMetH Tryz.prog Zq5 w)∧sizedMet enc Tryz.prog Tryz.f7 (OpenSpec.ofChange Rows.stealSchedSpec) false w args) (Rows.stealSchedSpec.post enc Tryz.prog Tryz.f7 false true false false):=by
 refine returnsInHanded_of_change_and (C:=Tryz.checked) (X:=fun w _=>laidMetH Tryz.prog Zq5 w) (fun _ _ _ hh h=>h.of_heap hh) own started (by kernel_rfl) Tryz.func7
  (ChangeSpec.witness_shaped (enc:=enc) (C:=Tryz.checked) (os:=os) (X:=fun w _=>laidMetH Tryz.prog Zq5 w) false (World.doorLaid Tryz.prog 19 os) #[.agg #[.slice none 0 0,.slice none 0 0],.slice none 0 0,.int .i64 0,.slice none 0 0] 8 rfl (World.shaped_of_RefB (by kernel_rfl) (by kernel_rfl)) (by kernel_rfl) (by kernel_rfl) (by kernel_rfl) (Zz4 os _)) ?_
 intro W base args ds gs before hval0 hW _ _ hL _
 have hval:∀(j:Nat) t v,Tryz.f7.params[j]? = some t→args[j]? = some v→Value.okWide Tryz.prog W .any base t v:=hval0
 have hW':=hW
 obtain⟨p,q,hA0,hV,rfl,hfz,hnd⟩:=hW
 have hA:DataW.TrodAll enc Tryz.prog W 0 (fun _=>true) true Tryz.f7.params.toList args.toList ds p:=hA0
 rw[Tryz.params7] at hA hval
 obtain⟨v0,vs0,d0,ds0,p0,q0,hargs,rfl,rfl,h0,r0⟩:=trodAll_cons hA
 obtain⟨v1,vs1,d1,ds1,p1,q1,rfl,rfl,rfl,h1,r1⟩:=trodAll_cons r0
 obtain⟨v2,vs2,d2,ds2,p2,q2,rfl,rfl,rfl,h2,r2⟩:=trodAll_cons r1
 obtain⟨v3,vs3,d3,ds3,p3,q3,rfl,rfl,rfl,h3,r3⟩:=trodAll_cons r2
 obtain⟨rfl,rfl,rfl⟩:=trodAll_nil r3
 obtain rfl:args = #[v0,v1,v2,v3]:=by cases args;simp_all
 obtain⟨rfl,rfl⟩:=trodVars_none hV
 have lt0:∀x∈p0,x.block<W.heap.size:=by obtain⟨m,hm⟩:=h0;exact DataW.trod_lt m _ _ _ hm
 obtain⟨x0,ok0,den0⟩:=ZsG (P:=Tryz.prog) (n:=8) (t:=25) (l:=Zuc.1) (ag:=Zuc.2) (by kernel_rfl) (hval 0 25 v0 rfl rfl) h0
 have lt1:∀x∈p1,x.block<W.heap.size:=by obtain⟨m,hm⟩:=h1;exact DataW.trod_lt m _ _ _ hm
 obtain⟨x1,ok1,den1⟩:=ZsG (P:=Tryz.prog) (n:=8) (t:=22) (l:=ZmC.1) (ag:=ZmC.2) (by kernel_rfl) (hval 1 22 v1 rfl rfl) h1
 have lt2:∀x∈p2,x.block<W.heap.size:=by obtain⟨m,hm⟩:=h2;exact DataW.trod_lt m _ _ _ hm
 obtain⟨x2,ok2,den2⟩:=ZsG (P:=Tryz.prog) (n:=8) (t:=3) (l:=Zzb.1) (ag:=Zzb.2) (by kernel_rfl) (hval 2 3 v2 rfl rfl) h2
 have lt3:∀x∈p3,x.block<W.heap.size:=by obtain⟨m,hm⟩:=h3;exact DataW.trod_lt m _ _ _ hm
 obtain⟨x3,ok3,den3⟩:=ZsG (P:=Tryz.prog) (n:=8) (t:=22) (l:=ZmC.1) (ag:=ZmC.2) (by kernel_rfl) (hval 3 22 v3 rfl rfl) h3
 obtain⟨H1,ev⟩:=Zrs x0 ok0 x1 ok1 x2 ok2 x3 ok3
 have den:Za9 All All All W [ZmU Zuc.2 x0,ZmU ZmC.2 x1,ZmU Zzb.2 x2,ZmU ZmC.2 x3] [v0,v1,v2,v3]:=⟨_,_,rfl,den0,⟨_,_,rfl,den1,⟨_,_,rfl,den2,⟨_,_,rfl,den3,rfl⟩⟩⟩⟩
 refine(Zxp ZE5 (Zyr hL) den ev).mono fun e W' ⟨he,bel⟩=>?_
 subst he
 exact⟨_,rfl,_,_,_,[],_,[],hW',trodAll_mk1 (shut_bool Tryz.underlying4 _),(trodAll_cons_mk (Below.trod Zpv (by kernel_rfl) (of_decide_eq_true (by kernel_rfl)) h0 bel lt0) (trodAll_cons_mk (Below.trod Zpv (by kernel_rfl) (of_decide_eq_true (by kernel_rfl)) h1 bel lt1) (trodAll_cons_mk (Below.trod Zpv (by kernel_rfl) (of_decide_eq_true (by kernel_rfl)) h2 bel lt2) (trodAll_cons_mk (Below.trod Zpv (by kernel_rfl) (of_decide_eq_true (by kernel_rfl)) h3 bel lt3) trodAll_mk0)))),rfl,bel.frame _,fun h=>by cases h⟩
theorem over:Rows.stealSchedRow.holds Tryz.pinned (OpenSpec.ofChange Rows.stealSchedSpec):=
 OpenClaim.holds_of_wide 7 Tryz.f7 rfl rfl rfl rfl rfl rfl rfl ⟨rfl,rfl,rfl,rfl,rfl⟩ rfl rfl rfl rfl rfl (by kernel_rfl) Tryz.func7 (by kernel_rfl)
  (of_decide_eq_true (by kernel_rfl)) (by unfold Func.isWrapper;first | (rw[if_pos (by decide +kernel)];kernel_rfl) | (rw[if_neg (by decide +kernel)];exact⟨rfl,rfl⟩))
  (fun os started H enc _=>ZCU os started H enc)
theorem proved:Rows.StealSchedSaid:=over
theorem carded:Rows.StealSchedCardSaid:=
 Claim7.holds_tied_plain_at .later [] [.data, .data] true (true, "d6d7d9d5c807326625a91c6e0083beb2768bae7db06b561411ca8dd5dfe6ff89") false
  proved (fun _ h=>by cases h) (by kernel_rfl) (fun _ h=>by cases h) stealSched_row_tie rfl ⟨rfl,rfl⟩ (by kernel_rfl) rfl
  (fun f fn hf hfn=>by
   obtain rfl : f = 7 := Option.some.inj ((show Tryz.prog.funcNamed "trefoil/trefoillaw13.StealSched" = some 7 by kernel_rfl).symm.trans hf) |>.symm
   obtain rfl:fn=Tryz.f7:=(Option.some.inj (Tryz.func7.symm.trans hfn)).symm
   exact⟨by kernel_rfl,fun j t ht=>by
    rw[Tryz.params7] at ht
    have hm:t∈[25,22,3,22]:=by simpa using Array.mem_of_getElem? ht
    have hall:([25,22,3,22].all fun u=>!Tryz.prog.wantsStandIn u)=true:=by kernel_rfl
    exact(show Tryz.prog.wantsStandIn t=false by simpa using List.all_eq_true.1 hall t hm)⟩)
  (by kernel_rfl)
end Go.Proofs.YtgcfmiajkbbmeaaGreatDoor.LawStealSched
namespace Go.Proofs.YtgcfmiajkbbmeaaGreatDoor
theorem stealSched_holds:Rows.StealSchedCardSaid:=LawStealSched.carded
#print axioms stealSched_holds
end Go.Proofs.YtgcfmiajkbbmeaaGreatDoor
