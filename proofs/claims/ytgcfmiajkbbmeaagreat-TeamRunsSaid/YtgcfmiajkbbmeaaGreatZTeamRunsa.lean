/- TeamRuns: part 1 of 6 of the proof. -/
import Derived.Calls
import Derived.Orders
import Derived.Test.YtgcfmiajkbbmeaaGreatProg
import Derived.Below
import Derived.WalkKit
import Derived.Laws.MakeOwn
set_option maxRecDepth 100000
set_option maxHeartbeats 40000000
set_option linter.unusedVariables false
set_option linter.unusedSimpArgs false
namespace Go.Proofs.YtgcfmiajkbbmeaaGreatE
open Go
open Go.IntKind (u64 i64 u32 i32 u8)
universe u v
theorem lA {α:Type u}{l m:List α}:(l++m).length=l.length+m.length:=List.length_append
theorem gQ {α:Type u}{l:List α}{i:Nat}{a:α} (h:l[i]? = some a):∃h:i<l.length,l[i]=a:=List.getElem?_eq_some_iff.1 h
theorem nQ {n m:Nat} (h:Nat.beq n m=true):n=m:=Nat.eq_of_beq_eq_true h
theorem mG {α:Type u}{l:List α}{i:Nat}{a:α} (h:l[i]? = some a):a∈l:=List.mem_of_getElem? h
theorem gE {α:Type u}{l:List α}{i:Nat} (h:i<l.length):l[i]? = some l[i]:=List.getElem?_eq_getElem h
theorem aT (a b:Bool):((a&&b)=true)=(a=true/\b=true):=Bool.and_eq_true a b
theorem pJ {α:Type u}{β:Type v} (a:α) (b:β) (c:α) (d:β):((a,b)=(c,d))=(a=c/\b=d):=Prod.mk.injEq a b c d
theorem sJ {α:Type u} (a b:α):(some a=some b)=(a=b):=Option.some.injEq a b
theorem bS {α:Type u}{β:Type v} (a:α) (f:α->Option β):(some a).bind f=f a:=rfl
theorem dF {p:Prop} [Decidable p] (h:¬p):decide p=false:=decide_eq_false h
theorem dT {p:Prop} [Decidable p] (h:p):decide p=true:=decide_eq_true h
theorem cF {α:Type u} (a b:α):cond false a b=b:=rfl
theorem cT {α:Type u} (a b:α):cond true a b=a:=rfl
abbrev Zlm (n:Int):BitVec u64.bits:=BitVec.ofInt u64.bits n
abbrev ZEl (n:Int):BitVec i64.bits:=BitVec.ofInt i64.bits n
abbrev ZJz (n:Int):BitVec u32.bits:=BitVec.ofInt u32.bits n
abbrev ZJA (n:Int):BitVec i32.bits:=BitVec.ofInt i32.bits n
abbrev zT0:ByteArray:=⟨#[0,1,1,2,1,2,2,3,1,2,2,3,2,3,3,4,1,2,2,3,2,3,3,4,2,3,3,4,3,4,4,5,1,2,2,3,2,3,3,4,2,3,3,4,3,4,4,5,2,3,3,4,3,4,4,5,3,4,4,5,4,5,5,6,1,2,2,3,2,3,3,4,2,3,3,4,3,4,4,5,2,3,3,4,3,4,4,5,3,4,4,5,4,5,5,6,2,3,3,4,3,4,4,5,3,4,4,5,4,5,5,6,3,4,4,5,4,5,5,6,4,5,5,6,5,6,6,7,1,2,2,3,2,3,3,4,2,3,3,4,3,4,4,5,2,3,3,4,3,4,4,5,3,4,4,5,4,5,5,6,2,3,3,4,3,4,4,5,3,4,4,5,4,5,5,6,3,4,4,5,4,5,5,6,4,5,5,6,5,6,6,7,2,3,3,4,3,4,4,5,3,4,4,5,4,5,5,6,3,4,4,5,4,5,5,6,4,5,5,6,5,6,6,7,3,4,4,5,4,5,5,6,4,5,5,6,5,6,6,7,4,5,5,6,5,6,6,7,5,6,6,7,6,7,7,8]⟩
inductive D where
 | bool (b:Bool) | int (k:IntKind) (n:Int) | str (s:ByteArray)
 | list (own:Bool) (xs:List D) | agg (cs:List D) | tup (vs:List D)
 | fn (f:Nat) (caps:List D) | nilfn
 | rptr (cs:List D) | nilp
 | iface (t:Nat) (v:D) | nilI
inductive V where
 | d (x:D) | bad
 | ptr (b o:Nat) | eptr (b sz i k:Nat)
 | sl (b sz:Nat) | slp (b sz o len:Nat) | nilsl (sz:Nat)
 | agg (cs:List V) | tup (vs:List V)
 | fn (f:Nat) (caps:List V)
 | mp (b:Nat)
 | ch (b:Nat)
inductive Blk where
 | dead | cells (cs:List V) | arr (sz:Nat) (xs:List D)
 | mp (es:List (D×D))
 | ch (xs:List Int)
abbrev Zi:=List Blk
abbrev Env:=Nat->V
def Env.set (e:Env) (i:Nat) (v:V):Env:=fun j=>bif Nat.beq i j then v else e j
def env0:Env:=fun _=>.bad
def ZcJ:List Nat->List V->Env
 | i :: is,v :: vs=>(ZcJ is vs).set i v
 | _,_=>env0
def D.isAgg:D->Bool
 | .agg _=>true
 | _=>false
mutual
def D.esc:D->Bool
 | .list own _=>own
 | .agg cs=>D.escs cs
 | .tup _=>false
 | .iface _ v=>v.esc
 | .fn _ caps=>caps.isEmpty
 | .rptr _=>false
 | _=>true
def D.escs:List D->Bool
 | []=>true
 | c :: cs=>c.esc&&(!c.isAgg&&D.escs cs)
end
def Zw0:List D->Bool
 | []=>true
 | c :: cs=>c.esc&&Zw0 cs
mutual
def D.nofn:D->Bool
 | .fn _ caps=>caps.isEmpty
 | .agg cs=>D.nofns cs
 | .tup cs=>D.nofns cs
 | .rptr cs=>D.nofns cs
 | .iface _ v=>v.nofn
 | _=>true
def D.nofns:List D->Bool
 | []=>true
 | c :: cs=>c.nofn&&D.nofns cs
end
mutual
def ZsG:V->Bool
 | .d (.tup ts)=>Zw0 ts
 | .d x=>x.esc
 | .agg cs=>Zqb cs
 | .tup cs=>Zqb cs
 | .fn _ cs=>Zqb cs
 | _=>true
def Zqb:List V->Bool
 | []=>true
 | v :: vs=>ZsG v&&Zqb vs
end
mutual
def Zm3:V->Bool
 | .d x=>x.nofn
 | .agg cs=>ZlW cs
 | .tup cs=>ZlW cs
 | .fn _ cs=>ZlW cs
 | _=>true
def ZlW:List V->Bool
 | []=>true
 | v :: vs=>Zm3 v&&ZlW vs
end
def Zm8:List Blk->Bool
 | []=>true
 | .cells cs :: r=>Zqb cs&&Zm8 r
 | _ :: r=>Zm8 r
def ZjG:List Blk->Bool
 | []=>true
 | .cells cs :: r=>ZlW cs&&ZjG r
 | _ :: r=>ZjG r
def V.isAggV:V->Bool
 | .d (.agg _)=>true
 | .agg _=>true
 | _=>false
def V.isD:V->Bool
 | .d _=>true
 | _=>false
def D.cells:D->List D
 | .agg cs=>cs
 | x=>[x]
inductive Opd where
 | t (i:Nat) | c (v:V)
inductive O where
 | mov (x:Opd)
 | pick (c a b:Opd)
 | alloc (z:V)
 | box (x:Opd)
 | build (z:List V) (ps:List (Nat×Nat×Opd))
 | bslice (sz:Nat) (z:List D) (len:Nat) (ps:List (Nat×Opd))
 | load (n:Nat) (ag:Bool) (x:Opd)
 | store (n:Nat) (x v:Opd)
 | nilck (x:Opd)
 | bin (op:BinOp) (x y:Opd)
 | eqv (ks:List Bool) (neg:Bool) (x y:Opd)
 | un (op:UnOp) (x:Opd)
 | conv (k:IntKind) (x:Opd)
 | mkfn (f:Nat) (caps:List Opd)
 | mkslice (sz:Nat) (z:List D) (n c:Opd)
 | slice (sz:Nat) (x:Opd) (lo hi mx:Option Opd)
 | faddr (off:Nat) (x:Opd)
 | iaddr (sz:Nat) (x i:Opd)
 | index (len sz:Nat) (ag:Bool) (x i:Opd)
 | indexS (x i:Opd)
 | iaddrA (len sz:Nat) (x i:Opd)
 | len (x:Opd)
 | append (sz:Nat) (x y:Opd)
 | appendD (sz:Nat) (x y:Opd)
 | mx (isMax:Bool) (xs:List Opd)
 | extract (x:Opd) (i:Nat)
 | mkif (t:Nat) (x:Opd)
 | call (f:Nat) (args:List Opd)
 | callv (x:Opd) (args:List Opd)
 | invoke (tab:List (Nat×Nat)) (x:Opd) (args:List Opd)
 | mkmap
 | mapset (ks:List Bool) (m k v:Opd)
 | mapget (ks:List Bool) (z:D) (m k:Opd)
 | panic
 | callk (f:Nat) (args:List Opd) (chk:List Opd)
 | nilq (x:Opd)
 | spec (id:Nat) (args:List Opd)
 | storek (n:Nat) (x v:Opd) (chk:List Opd)
 | sortI (x:Opd)
 | nilckm (tab:List (Nat×Nat)) (x:Opd)
 | chNew (x:Opd)
 | chTake (x n:Opd)
 | chLen (x:Opd)
 | bsD (x:Opd)
 | loadF (n:Nat) (ag:Bool) (x:Opd)
 | mkD (sz:Nat) (z:List D) (n c:Opd)
structure Op1 where
 dst:Option Nat
 op:O
 guard:Option (Nat×Bool)
 mask:List Nat
 eff:Nat
inductive C where
 | skip | ret | exit (id:Nat)
 | seq (a b:C)
 | cond (x:Opd) (a b:C)
 | block (id:Nat) (a:C)
 | loop (live outs:List Nat) (a:C)
 | ops (l:List Op1)
 | draw (l:List Op1)
inductive Ex where
 | normal | exit (id:Nat) | ret
structure FnI where
 nargs:Nat
 body:C
 res:List (Nat×Option (Nat×Bool))
structure Ctx where
 code:Nat->Option FnI
 mode:Nat->Nat
abbrev oA (op:O):Op1:=⟨none,op,none,[],0⟩
abbrev oB (d:Nat) (op:O):Op1:=⟨some d,op,none,[],0⟩
abbrev oG (d:Nat) (op:O) (s:Nat) (b:Bool):Op1:=⟨some d,op,some (s,b),[],0⟩
abbrev oM (d:Nat) (op:O) (m:List Nat):Op1:=⟨some d,op,none,m,0⟩
abbrev iN (n:Int):Opd:=.c (.d (.int .i64 n))
abbrev bT:Opd:=.c (.d (.bool true))
abbrev bF:Opd:=.c (.d (.bool false))
def Opd.val (e:Env):Opd->V
 | .t i=>e i
 | .c v=>v
def Zd4 (e:Env):List Opd->List V
 | []=>[]
 | x :: xs=>x.val e :: Zd4 e xs
def ZkE:List V->Option (List D)
 | []=>some []
 | .d x :: r=>match ZkE r with | some l=>some (x :: l) | none=>none
 | _ :: _=>none
def Zvl (cs:List V):V:=match ZkE cs with | some l=>.d (.agg l) | none=>.agg cs
def Zu0 (cs:List V):V:=match ZkE cs with | some l=>.d (.tup l) | none=>.tup cs
def ZbM:List D->List V
 | []=>[]
 | x :: xs=>.d x :: ZbM xs
def V.cells:V->List V
 | .d (.agg cs)=>ZbM cs
 | .agg cs=>cs
 | v=>[v]
def nth {α:Type}:List α->Nat->Option α
 | [],_=>none
 | x :: _,0=>some x
 | _ :: xs,n+1=>nth xs n
def ZbL {α:Type}:List α->Nat->α->List α
 | [],_,_=>[]
 | _ :: xs,0,v=>v :: xs
 | x :: xs,n+1,v=>x :: ZbL xs n v
def ZS {α:Type}:List α->Nat->List α->List α
 | cs,_,[]=>cs
 | cs,o,v :: vs=>ZS (ZbL cs o v) (o+1) vs
def fzl (f:V->Option D):List V->Option (List D)
 | []=>some []
 | v :: vs=>match f v,fzl f vs with | some x,some l=>some (x :: l) | _,_=>none
def fz (H:Zi):Nat->V->Option D
 | 0,_=>none
 | n+1,v=>match v with
  | .d x=>some x
  | .sl b sz=>match nth H b with
   | some (.arr sz' xs)=>bif Nat.beq sz sz' then some (.list false xs) else none
   | _=>none
  | .slp b sz o len=>match nth H b with
   | some (.arr sz' xs)=>bif Nat.beq sz sz' then some (.list false ((xs.drop o).take len)) else none
   | _=>none
  | .nilsl _=>some (.list true [])
  | .agg cs=>match fzl (fz H n) cs with | some l=>some (.agg l) | none=>none
  | .fn f caps=>match fzl (fz H n) caps with | some l=>some (.fn f l) | none=>none
  | .ptr b o=>match nth H b with
   | some (.cells cs)=>match fzl (fz H n) (cs.drop o) with | some l=>some (.rptr l) | none=>none
   | _=>none
  | _=>none
def fzs (H:Zi) (l:List V):Option (List D):=fzl (fz H 6) l
def frl (f:V->Option (D×List Nat)):List V->Option (List D×List Nat)
 | []=>some ([],[])
 | v :: vs=>match f v,frl f vs with | some (x,k),some (l,ks)=>some (x :: l,k++ks) | _,_=>none
def fr (H:Zi):Nat->V->Option (D×List Nat)
 | 0,_=>none
 | n+1,v=>match v with
  | .d x=>match x with
   | .tup ts=>bif Zw0 ts then some (.tup ts,[]) else none
   | x=>bif x.esc then some (x,[]) else none
  | .sl b sz=>match nth H b with
   | some (.arr sz' xs)=>bif Nat.beq sz sz' then some (.list true xs,[b]) else none
   | _=>none
  | .slp b sz o len=>match nth H b with
   | some (.arr sz' xs)=>bif Nat.beq sz sz' then some (.list true ((xs.drop o).take len),[b]) else none
   | _=>none
  | .nilsl _=>some (.list true [],[])
  | .agg cs=>match frl (fr H n) cs with | some (l,ks)=>bif D.escs l then some (.agg l,ks) else none | none=>none
  | .tup cs=>match frl (fr H n) cs with | some (l,ks)=>some (.tup l,ks) | none=>none
  | _=>none
def idx:List Nat->Nat->Nat->Option Nat
 | [],_,_=>none
 | a :: l,b,i=>bif Nat.beq a b then some i else idx l b (i+1)
mutual
def ZnA (ρ:Nat->Option Nat):V->V
 | .d x=>.d x
 | .bad=>.bad
 | .ptr b o=>match ρ b with | some j=>.ptr j o | none=>.bad
 | .eptr b sz i k=>match ρ b with | some j=>.eptr j sz i k | none=>.bad
 | .sl b sz=>match ρ b with | some j=>.sl j sz | none=>.bad
 | .slp b sz o len=>match ρ b with | some j=>.slp j sz o len | none=>.bad
 | .nilsl sz=>.nilsl sz
 | .agg cs=>.agg (Zii ρ cs)
 | .tup cs=>.tup (Zii ρ cs)
 | .fn f caps=>.fn f (Zii ρ caps)
 | .mp b=>match ρ b with | some j=>.mp j | none=>.bad
 | .ch b=>match ρ b with | some j=>.ch j | none=>.bad
def Zii (ρ:Nat->Option Nat):List V->List V
 | []=>[]
 | v :: vs=>ZnA ρ v :: Zii ρ vs
end
def ZhI (ρ:Nat->Option Nat):Blk->Blk
 | .cells cs=>.cells (Zii ρ cs)
 | b=>b
mutual
def ZH3:V->List Nat
 | .ptr b _=>[b]
 | .eptr b _ _ _=>[b]
 | .sl b _=>[b]
 | .slp b _ _ _=>[b]
 | .mp b=>[b]
 | .ch b=>[b]
 | .agg cs=>Zic cs
 | .tup cs=>Zic cs
 | .fn _ caps=>Zic caps
 | _=>[]
def Zic:List V->List Nat
 | []=>[]
 | v :: vs=>ZH3 v++Zic vs
end
def Zx6 (H:Zi) (b:Nat):List Nat:=match nth H b with | some (.cells cs)=>Zic cs | _=>[]
def ZN (H:Zi) (b:Nat):Bool:=match nth H b with | some .dead=>false | some _=>true | none=>false
def ZhC (l:List Nat) (b:Nat):Bool:=match l with | []=>false | a :: l=>bif Nat.beq a b then true else ZhC l b
def Zfw (H:Zi):List Nat->List Nat->List Nat
 | l,[]=>l
 | l,b :: bs=>bif ZhC l b || !(ZN H b) then Zfw H l bs else Zfw H (l++[b]) bs
def ZlY (H:Zi):Nat->Nat->List Nat->List Nat
 | 0,_,l=>l
 | n+1,i,l=>match nth l i with
  | some b=>ZlY H n (i+1) (Zfw H l (Zx6 H b))
  | none=>l
def Zof:Nat->List Nat
 | 0=>[]
 | n+1=>Zof n++[n]
def Zoy (H:Zi) (k:Nat) (vs:List V):List Nat:=
 ZlY H (H.length+1) 0 (Zfw H (Zof k) (Zic vs))
def Zn3:List Nat->Bool
 | []=>true
 | a :: l=>!(ZhC l a)&&Zn3 l
def pick (H:Zi) (ρ:Nat->Option Nat):List Nat->Zi
 | []=>[]
 | b :: bs=>(match nth H b with | some blk=>ZhI ρ blk | none=>.dead) :: pick H ρ bs
def ZsC (n:Nat):List Nat->Bool
 | []=>true
 | a :: l=>Nat.blt a n&&ZsC n l
def extract (k:Nat) (vs:List V) (H:Zi):Option (List Nat×List V×Zi):=
 let L:=Zoy H k vs
 bif Zn3 L&&ZsC H.length L then some (L,Zii (fun b=>idx L b 0) vs,pick H (fun b=>idx L b 0) L) else none
def ZaW:Nat->List V->List V×List Blk
 | _,[]=>([],[])
 | n,.nilsl sz :: vs=>bif Nat.blt 0 sz then (let r:=ZaW (n+1) vs;(.sl n sz :: r.1,.arr sz [] :: r.2)) else (let r:=ZaW n vs;(.nilsl sz :: r.1,r.2))
 | n,v :: vs=>let r:=ZaW n vs;(v :: r.1,r.2)
def Zbv:Nat->Zi->Zi×List Blk
 | _,[]=>([],[])
 | n,.cells cs :: H=>let r:=ZaW n cs;let q:=Zbv (n+r.2.length) H;(.cells r.1 :: q.1,r.2++q.2)
 | n,b :: H=>let q:=Zbv n H;(b :: q.1,q.2)
def Zqs (k:Nat) (vs:List V) (H:Zi):Option (List V×Zi):=
 match extract k vs H with
 | none=>none
 | some (_,vs1,H1)=>
  let r:=ZaW H1.length vs1
  let q:=Zbv (H1.length+r.2.length) H1
  match extract k r.1 (q.1++(r.2++q.2)) with
  | none=>none
  | some (_,vs2,H2)=>some (vs2,H2)
mutual
def eqD:D->D->Option Bool
 | .bool a,.bool b=>some (a==b)
 | .int k a,.int k' b=>bif k==k' then some (a==b) else none
 | .agg xs,.agg ys=>Zls xs ys
 | _,_=>none
def Zls:List D->List D->Option Bool
 | [],[]=>some true
 | x :: xs,y :: ys=>match eqD x y,Zls xs ys with | some a,some b=>some (a&&b) | _,_=>none
 | _,_=>none
end
def Zcd:List Bool->List D->Bool
 | [],[]=>true
 | true :: ks,.bool _ :: cs=>Zcd ks cs
 | false :: ks,.int _ _ :: cs=>Zcd ks cs
 | _,_=>false
def Zbo (ks:List Bool):D->Bool
 | .agg cs=>(match ks with | [_]=>false | ks=>Zcd ks cs)
 | x=>(match ks with | [_]=>Zcd ks [x] | _=>false)
def lim:Nat:=1073741824
def Zt {α:Type} (xs:List α) (i:Int):Option α:=bif decide (0<=i) then nth xs i.toNat else none
abbrev Res:=Option (V×List (Nat×Blk)×List Blk)
def Zba (v:V):Res:=some (v,[],[])
def ZDR (op:BinOp) (k:IntKind) (a b:Int):Option D:=
 match op with
 | .add=>some (.int k (k.wrap (a+b)))
 | .sub=>some (.int k (k.wrap (a-b)))
 | .mul=>some (.int k (k.wrap (a*b)))
 | .quo=>bif b==0 then none else some (.int k (k.wrap (a.tdiv b)))
 | .rem=>bif b==0 then none else some (.int k (a.tmod b))
 | .and=>some (.int k (k.wrap (BitVec.ofInt k.bits a &&& BitVec.ofInt k.bits b).toNat))
 | .or=>some (.int k (k.wrap (BitVec.ofInt k.bits a ||| BitVec.ofInt k.bits b).toNat))
 | .xor=>some (.int k (k.wrap (BitVec.ofInt k.bits a ^^^ BitVec.ofInt k.bits b).toNat))
 | .eql=>some (.bool (a==b))
 | .neq=>some (.bool (a != b))
 | .lss=>some (.bool (decide (a<b)))
 | .leq=>some (.bool (decide (a<=b)))
 | .gtr=>some (.bool (decide (b<a)))
 | .geq=>some (.bool (decide (b<=a)))
 | _=>none
def shI (op:BinOp) (k:IntKind) (a b:Int):Option D:=
 bif decide (b<0) then none else
 match op with
 | .shl=>some (.int k (k.wrap (a*2 ^ (min b.toNat k.bits))))
 | .shr=>some (.int k (a.fdiv (2 ^ (min b.toNat k.bits))))
 | _=>none
def ZnW (op:BinOp) (x y:V):Option D:=
 match op,x,y with
 | .shl,.d (.int k a),.d (.int _ b)=>shI .shl k a b
 | .shr,.d (.int k a),.d (.int _ b)=>shI .shr k a b
 | op,.d (.int k a),.d (.int k' b)=>bif k==k' then ZDR op k a b else none
 | _,_,_=>none
def unE (op:UnOp) (x:V):Option D:=
 match op,x with
 | .not,.d (.bool b)=>some (.bool !b)
 | .neg,.d (.int k n)=>some (.int k (k.wrap (0-n)))
 | _,_=>none
def V.okb:V->Bool
 | .bad=>false
 | .tup _=>false
 | .d (.tup _)=>false
 | _=>true
def V.flat:V->Bool
 | .bad=>false
 | .tup _=>false
 | .agg _=>false
 | .d (.tup _)=>false
 | .d (.agg _)=>false
 | _=>true
def ZtR:List V->Bool
 | []=>true
 | v :: vs=>v.flat&&ZtR vs
def ZfR (n:Nat) (ag:Bool) (cs:List V):Option V:=
 bif ag then (bif Nat.beq (cs.take n).length n then some (Zvl (cs.take n)) else none) else cs.head?
def Zb5 (H:Zi) (n:Nat) (ag:Bool) (x:V):Option V:=
 match x with
 | .ptr b o=>match nth H b with
  | some (.cells cs)=>ZfR n ag (cs.drop o)
  | _=>none
 | .eptr b sz i k=>match nth H b with
  | some (.arr sz' xs)=>bif Nat.beq sz sz' then
    match nth xs i with
    | some x=>ZfR n ag (ZbM (x.cells.drop k))
    | none=>none
   else none
  | _=>none
 | .d (.rptr cs)=>ZfR n ag (ZbM cs)
 | _=>none
def ZkU (H:Zi) (n:Nat) (x v:V):Res:=
 match x with
 | .ptr b o=>match nth H b with
  | some (.cells cs)=>bif Nat.beq v.cells.length n&&Nat.ble (o+n) cs.length&&v.okb&&ZtR v.cells then some (.bad,[(b,.cells (ZS cs o v.cells))],[]) else none
  | _=>none
 | .eptr b sz i k=>match nth H b with
  | some (.arr sz' xs)=>bif Nat.beq sz sz' then
    match nth xs i,fr H 6 v with
    | some x,some (y,ks)=>
     bif ZhC ks b then none else
     bif Nat.beq y.cells.length n&&Nat.ble (k+n) x.cells.length&&(V.d y).okb&&(x.isAgg || !y.isAgg) then
      some (.bad,(b,.arr sz (ZbL xs i (bif x.isAgg then .agg (ZS x.cells k y.cells) else y))) :: ks.map (fun j=>(j,.dead)),[])
     else none
    | _,_=>none
   else none
  | _=>none
 | _=>none
def elems (H:Zi) (x:V):Option (List D):=
 match x with
 | .d (.list _ xs)=>some xs
 | .sl b sz=>match nth H b with | some (.arr sz' xs)=>bif Nat.beq sz sz' then some xs else none | _=>none
 | .slp b sz o len=>match nth H b with | some (.arr sz' xs)=>bif Nat.beq sz sz' then some ((xs.drop o).take len) else none | _=>none
 | .nilsl _=>some []
 | _=>none
def Zjz (sz:Nat) (xs:List D) (l:Nat):Bool:=match nth xs l with | some z=>Nat.beq z.cells.length sz&&(V.d z).okb | none=>true
def ZgN (nid:Nat) (H:Zi) (sz:Nat) (x y:V):Res:=
 match elems H y with
 | none=>none
 | some ys=>
  bif Zjz sz ys 0 then
   match x with
   | .nilsl _=>bif Nat.ble ys.length lim then some (.sl nid sz,[],[.arr sz ys]) else none
   | .sl b sz'=>match nth H b with
    | some (.arr sz'' xs)=>bif Nat.beq sz sz'&&Nat.beq sz sz'' then
      (bif Nat.ble (xs.length+ys.length) lim then some (.sl nid sz,[(b,.dead)],[.arr sz (xs++ys)]) else none)
     else none
    | _=>none
   | .slp b sz' o len=>match nth H b with
    | some (.arr sz'' xs)=>bif Nat.beq sz sz'&&Nat.beq sz sz''&&Nat.ble (o+len+ys.length) xs.length then
      some (.slp b sz o (len+ys.length),[(b,.arr sz (xs.take (o+len)++(ys++xs.drop (o+len+ys.length))))],[])
     else none
    | _=>none
   | _=>none
  else none
def ZiN (H:Zi) (sz:Nat) (x y:V):Option V:=
 match x with
 | .nilsl _=>(match elems H y with
  | some ys=>bif Zjz sz ys 0&&Nat.ble ys.length lim then some (.d (.list true ys)) else none
  | none=>none)
 | _=>none
def Zhw (v:Option V) (dflt:Nat):Option Nat:=
 match v with
 | none=>some dflt
 | some (.d (.int _ n))=>bif decide (0<=n) then some n.toNat else none
 | _=>none
def ZiK (H:Zi) (sz:Nat) (x:V) (lo hi mx:Option V):Option V:=
 match elems H x with
 | none=>none
 | some xs=>
  match Zhw lo 0,Zhw hi xs.length with
  | some l,some h=>
   bif Nat.ble l h&&Nat.ble h xs.length then
    match mx with
    | none=>match x with
     | .d (.list own _)=>bif Nat.beq l 0 || Zjz sz xs l then some (.d (.list own ((xs.drop l).take (h-l)))) else none
     | .sl b sz'=>bif Nat.beq sz sz' then some (.slp b sz l (h-l)) else none
     | .slp b sz' o _=>bif Nat.beq sz sz' then some (.slp b sz (o+l) (h-l)) else none
     | .nilsl _=>some (.nilsl sz)
     | _=>none
    | some m=>match Zhw (some m) 0 with
     | some m=>bif Nat.beq m l&&Nat.beq m h then some (.nilsl sz) else none
     | none=>none
   else none
  | _,_=>none
def Zib (H:Zi) (sz:Nat) (x i:V):Option V:=
 match i with
 | .d (.int _ i)=>
  match x with
  | .d (.list _ xs)=>match Zt xs i with | some x=>bif Nat.beq x.cells.length sz&&(V.d x).okb then some (.d (.rptr x.cells)) else none | none=>none
  | .sl b sz'=>match nth H b with
   | some (.arr sz'' xs)=>bif Nat.beq sz sz'&&Nat.beq sz sz'' then (match Zt xs i with | some _=>some (.eptr b sz i.toNat 0) | none=>none) else none
   | _=>none
  | .slp b sz' o len=>match nth H b with
   | some (.arr sz'' xs)=>bif Nat.beq sz sz'&&Nat.beq sz sz'' then (match Zt ((xs.drop o).take len) i with | some _=>some (.eptr b sz (o+i.toNat) 0) | none=>none) else none
   | _=>none
  | _=>none
 | _=>none
def Zn2 (len sz:Nat) (ag:Bool) (x i:V):Option V:=
 match i with
 | .d (.int _ i)=>bif x.isAggV&&(decide (0<=i)&&decide (i<len)) then ZfR sz ag (x.cells.drop (i.toNat*sz)) else none
 | _=>none
def ZkV (x i:V):Option V:=
 match x,i with
 | .d (.str s),.d (.int _ i)=>bif decide (0<=i) then (match s[i.toNat]? with | some b=>some (.d (.int .u8 b.toNat)) | none=>none) else none
 | _,_=>none
def ZkN (_:Zi) (off:Nat) (x:V):Option V:=
 match x with
 | .ptr b o=>some (.ptr b (o+off))
 | .eptr b sz i k=>some (.eptr b sz i (k+off))
 | .d (.rptr cs)=>some (.d (.rptr (cs.drop off)))
 | _=>none
def ZwM (_:Zi) (x:V):Option V:=
 match x with
 | .d (.fn f caps)=>bif Nat.beq f 2000000 then none else some (.d (.fn f caps))
 | .fn f caps=>bif Nat.beq f 2000000 then none else some (.fn f caps)
 | .d (.iface t v)=>some (.d (.iface t v))
 | .d (.rptr cs)=>some (.d (.rptr cs))
 | .ptr b o=>some (.ptr b o)
 | .eptr b sz i k=>some (.eptr b sz i k)
 | _=>none
def ZfT (H:Zi) (len sz:Nat) (x i:V):Option V:=
 match i with
 | .d (.int _ i)=>bif decide (0<=i)&&decide (i<len) then ZkN H (i.toNat*sz) x else none
 | _=>none
def Zue (H:Zi) (x:V):Option D:=
 match elems H x with | some xs=>some (.int .i64 xs.length) | none=>none
def mxE (isMax:Bool):List V->Option D
 | []=>none
 | .d (.int k a) :: r=>go k a r
 | _=>none
where
 go (k:IntKind) (a:Int):List V->Option D
  | []=>some (.int k a)
  | .d (.int _ b) :: r=>go k (bif isMax then (bif decide (a<b) then b else a) else (bif decide (b<a) then b else a)) r
  | _=>none
def Zs7 (z:List V):List (Nat×Nat×V)->Option (List V)
 | []=>some z
 | (off,size,v) :: r=>bif v.okb&&Nat.beq v.cells.length size&&Nat.ble (off+size) z.length then Zs7 (ZS z off v.cells) r else none
def Zsn (H:Zi) (sz:Nat) (xs:List D):List (Nat×V)->Option (List D×List Nat)
 | []=>some (xs,[])
 | (i,v) :: r=>match fr H 6 v with
  | some (y,ks)=>(bif Nat.blt i xs.length&&Nat.beq y.cells.length sz&&(V.d y).okb then match Zsn H sz (ZbL xs i y) r with | some (l,k2)=>some (l,ks++k2) | none=>none else none)
  | none=>none
def Zli (es:List (D×D)) (k:D):Option (Option D):=
 match es with
 | []=>some none
 | (a,v) :: r=>match eqD k a with | some true=>some (some v) | some false=>Zli r k | none=>none
def ZDT (es:List (D×D)) (k z:D):Option D:=match Zli es k with | some (some y)=>some y | some none=>some z | none=>none
def Zko (es:List (D×D)) (k v:D):Option (List (D×D)):=
 match es with
 | []=>some [(k,v)]
 | (a,u) :: r=>match eqD k a with
  | some true=>some ((a,v) :: r)
  | some false=>(match Zko r k v with | some l=>some ((a,u) :: l) | none=>none)
  | none=>none
def ZhB:D->Bool
 | .bool _=>true
 | .int _ _=>true
 | _=>false
def Zob (H:Zi) (ks:List Bool) (m k v:V):Res:=
 match m,k,v with
 | .mp b,.d k,.d y=>(match nth H b with
  | some (.mp es)=>(match Zbo ks k&&ZhB y with | true=>(match Zko es k y with | some l=>some (.bad,[(b,.mp l)],[]) | none=>none) | false=>none)
  | _=>none)
 | _,_,_=>none
def Zmu (H:Zi) (ks:List Bool) (z:D) (m k:V):Option D:=
 match m,k with
 | .mp b,.d k=>(match nth H b with
  | some (.mp es)=>(match Zbo ks k with | true=>ZDT es k z | false=>none)
  | _=>none)
 | _,_=>none
def ZHQ:List D->Option (List (Int×Int))
 | []=>some []
 | .agg [.int .i64 a,.int .i64 b] :: r=>match ZHQ r with | some l=>some ((a,b) :: l) | none=>none
 | _=>none
def pc (zs:List (Int×Int)) (j:Nat):Int×Int:=zs[j]?.getD (0,0)
def Zvi (zs:List (Int×Int)) (p:Int):Nat->Int
 | 0=>-1
 | k+1=>bif ((pc zs k).1 != p || decide (p<0)) then Zvi zs p k else (k:Int)
def Zm9 (id:Nat) (l:List D):Option D:=
 match id,l with
 | 0,[.agg [_,_,.list _ xs],.int .i64 p]=>(match ZHQ xs with | some zs=>bif Nat.ble zs.length lim then some (.int .i64 (Zvi zs p zs.length)) else none | none=>none)
 | _,_=>none
def Zhq:List D->Option (List Int)
 | []=>some []
 | .int .i64 a :: r=>match Zhq r with | some l=>some (a :: l) | none=>none
 | _=>none
def ZtW (x:Int):List Int->List Int
 | []=>[x]
 | y :: r=>bif decide (x<=y) then x :: y :: r else y :: ZtW x r
def sortI:List Int->List Int
 | []=>[]
 | x :: r=>ZtW x (sortI r)
def Zts (H:Zi):V->Option (Nat×List Int)
 | .sl b 1=>(match nth H b with
  | some (.arr 1 xs)=>(match Zhq xs with | some zs=>some (b,zs) | none=>none)
  | _=>none)
 | _=>none
def Zv0 (H:Zi) (x:V):Res:=match Zts H x with | some (b,zs)=>(bif Nat.ble zs.length lim then some (.bad,[(b,.arr 1 ((sortI zs).map fun n=>.int .i64 n))],[]) else none) | none=>none
def Zhl (n:Int):List Int:=(List.range n.toNat).map fun k:Nat=>(k:Int)
def ZsH (H:Zi):V->Option (Nat×List Int)
 | .ch b=>(match nth H b with | some (.ch xs)=>some (b,xs) | _=>none)
 | _=>none
def ZpT (nid:Nat) (x:V):Res:=match x with | .d (.int .i64 n)=>(bif decide (0<=n)&&decide (n<=1000) then some (.ch nid,[],[.ch (Zhl n)]) else none) | _=>none
def Zmi (H:Zi) (c x:V):Res:=match ZsH H c with
 | some (b,xs)=>(match x with
  | .d (.int .i64 n)=>(bif decide (0<=n)&&decide (n<=1000) then (bif Nat.ble n.toNat xs.length then some (.tup [.d (.list true ((xs.take n.toNat).map fun n=>.int .i64 n)),.d (.bool true)],[(b,.ch (xs.drop n.toNat))],[]) else some (.tup [.d (.list true []),.d (.bool false)],[(b,.ch [])],[])) else none)
  | _=>none)
 | none=>none
def ZqY (H:Zi) (c:V):Option D:=match ZsH H c with | some (_,xs)=>some (.int .i64 xs.length) | none=>none
abbrev Zac:=Nat->List V->Zi->Option (V×Zi)
def Ztn (Γ:Ctx) (f:Nat) (args:List V):Nat:=match Γ.mode f with
 | 3=>(match ZkE args with | some _=>0 | none=>2)
 | m=>m
def Zgc (Γ:Ctx) (cf:Zac) (nid:Nat) (H:Zi) (f:Nat) (args:List V):Res:=
 match Ztn Γ f args with
 | 0=>match fzs H args with
  | some l=>match cf f (ZbM l) [] with
   | some (v,H1)=>match fr H1 6 v with | some (x,_)=>(match x with | .tup ts=>some (.tup (ZbM ts),[],[]) | x=>some (.d x,[],[])) | none=>none
   | none=>none
  | none=>none
 | 1=>match fzs H args with
  | some l=>match cf f (ZbM l) [] with
   | some (v,H1)=>bif ZsG v&&Zm8 H1 then let up:=fun j=>some (nid+j);some (ZnA up v,[],H1.map (ZhI up)) else none
   | none=>none
  | none=>none
 | _=>
  match extract 0 args H with
  | none=>none
  | some (L,args',H0)=>match cf f args' H0 with
   | some (v,H1)=>bif Zm3 v&&ZjG H1 then
     let back:=fun j=>match nth L j with | some b=>some b | none=>some (nid+(j-L.length))
     some (ZnA back v,L.zip (H1.map (ZhI back)),(H1.drop L.length).map (ZhI back)) else none
   | none=>none
def Zbc (H:Zi):List (Nat×Blk)->Zi
 | []=>H
 | (b,blk) :: r=>Zbc (ZbL H b blk) r
def Zy3 (e:Env) (H H':Zi):List Opd->Bool
 | []=>true
 | x :: xs=>(match x.val e with
  | .ptr b o=>(match Zb5 H 1 false (.ptr b o),Zb5 H' 1 false (.ptr b o) with | some (.mp i),some (.mp j)=>Nat.beq i j | _,_=>false)
  | _=>false)&&Zy3 e H H' xs
def isU (f:Nat):Bool:=Nat.blt f 1000000
def unB (f:Nat):Nat:=f-1000000
def Zm5 (f:Nat):Nat:=bif isU f then f else unB f
def Zp4 (f:Nat) (caps args:List V):List V:=bif isU f then args++caps else caps++args
def Zp9:List (Nat×Blk)->Nat->Bool
 | [],_=>false
 | (a,_) :: r,b=>bif Nat.beq a b then true else Zp9 r b
def ZpD (e:Env) (up:List (Nat×Blk)):List Opd->Bool
 | []=>true
 | x :: xs=>(match x.val e with
  | .ptr b _=>!(Zp9 up b)
  | .eptr b _ _ _=>!(Zp9 up b)
  | .d _=>true
  | _=>false)&&ZpD e up xs
def Zk5:V->Option (Nat×List V)
 | .fn f caps=>some (f,caps)
 | .d (.fn f caps)=>some (f,ZbM caps)
 | _=>none
def Zgd (Γ:Ctx) (v:V) (f:Nat) (caps:List V):Bool:=Nat.beq f 2000000 || v.isD&&(!(Nat.ble (Γ.mode (Zm5 f)) 1) && !caps.isEmpty)
def Zjs : String := "trefoil/team.begin"
def ZlR (tab:List (Nat×Nat)) (t:Nat):Option Nat:=
 match tab with
 | []=>none
 | (a,f) :: r=>bif Nat.beq a t then some f else ZlR r t
def ZqP (tab:List (Nat×Nat)) (x:V):Res:=match x with
 | .fn f [.d (.iface t y)]=>(match ZlR tab t with | some _=>bif Nat.beq f 2000000 then Zba (.fn f [.d (.iface t y)]) else none | none=>none)
 | _=>none
def opE (Γ:Ctx) (cf:Zac) (e:Env) (nid:Nat) (H:Zi):O->Res
 | .mov x=>Zba (x.val e)
 | .pick c a b=>match c.val e with | .d (.bool t)=>Zba (bif t then a.val e else b.val e) | _=>none
 | .alloc z=>some (.ptr nid 0,[],[.cells z.cells])
 | .box x=>bif (x.val e).okb then some (.ptr nid 0,[],[.cells (x.val e).cells]) else none
 | .build z ps=>match Zs7 z (ps.map fun(o,s,x)=>(o,s,x.val e)) with | some cs=>Zba (Zvl cs) | none=>none
 | .bslice sz z len ps=>bif Nat.beq len 0 then Zba (.nilsl sz) else match Zsn H sz (List.replicate len (match z with | [x]=>x | z=>.agg z)) (ps.map fun(i,x)=>(i,x.val e)) with
  | some (xs,ks)=>some (.sl nid sz,ks.map (fun j=>(j,.dead)),[.arr sz xs])
  | none=>none
 | .load n ag x=>match Zb5 H n ag (x.val e) with | some v=>Zba v | none=>none
 | .store n x v=>ZkU H n (x.val e) (v.val e)
 | .nilck x=>match ZwM H (x.val e) with | some v=>Zba v | none=>none
 | .bin op x y=>match ZnW op (x.val e) (y.val e) with | some r=>Zba (.d r) | none=>none
 | .eqv ks neg x y=>match x.val e,y.val e with
  | .d a,.d b=>(match Zbo ks a with | true=>(match eqD a b with | some r=>Zba (.d (.bool (bif neg then !r else r))) | none=>none) | false=>none)
  | _,_=>none
 | .un op x=>match unE op (x.val e) with | some r=>Zba (.d r) | none=>none
 | .conv k x=>match x.val e with | .d (.int _ n)=>Zba (.d (.int k (k.wrap n))) | _=>none
 | .mkfn f caps=>Zba (match caps with | []=>.d (.fn f []) | caps=>.fn f (Zd4 e caps))
 | .mkslice sz z n c=>match n.val e,c.val e with
  | .d (.int _ n),.d (.int _ c)=>bif decide (0<=n)&&decide (n<=lim)&&decide (n==c) then
    some (.sl nid sz,[],[.arr sz (List.replicate n.toNat (match z with | [x]=>x | z=>.agg z))]) else none
  | _,_=>none
 | .slice sz x lo hi mx=>match ZiK H sz (x.val e) (lo.map (·.val e)) (hi.map (·.val e)) (mx.map (·.val e)) with | some v=>Zba v | none=>none
 | .faddr off x=>match ZkN H off (x.val e) with | some v=>Zba v | none=>none
 | .iaddr sz x i=>match Zib H sz (x.val e) (i.val e) with | some v=>Zba v | none=>none
 | .index len sz ag x i=>match Zn2 len sz ag (x.val e) (i.val e) with | some v=>Zba v | none=>none
 | .indexS x i=>match ZkV (x.val e) (i.val e) with | some v=>Zba v | none=>none
 | .iaddrA len sz x i=>match ZfT H len sz (x.val e) (i.val e) with | some v=>Zba v | none=>none
 | .len x=>match Zue H (x.val e) with | some r=>Zba (.d r) | none=>none
 | .append sz x y=>ZgN nid H sz (x.val e) (y.val e)
 | .appendD sz x y=>match ZiN H sz (x.val e) (y.val e) with | some v=>Zba v | none=>none
 | .mx b xs=>match mxE b (Zd4 e xs) with | some r=>Zba (.d r) | none=>none
 | .extract x i=>match x.val e with
  | .tup vs=>(match nth vs i with | some v=>Zba v | none=>none)
  | .d (.tup vs)=>(match nth vs i with | some v=>Zba (.d v) | none=>none)
  | _=>none
 | .mkif t x=>match fr H 6 (x.val e) with | some (y,[])=>Zba (.d (.iface t y)) | _=>none
 | .call f args=>Zgc Γ cf nid H f (Zd4 e args)
 | .callv x args=>match Zk5 (x.val e) with
  | some (f,caps)=>(match Zgd Γ (x.val e) f caps with | true=>none | false=>Zgc Γ cf nid H (Zm5 f) (Zp4 f caps (Zd4 e args)))
  | none=>none
 | .invoke tab x args=>match x.val e with
  | .d (.iface t y)=>(match ZlR tab t with | some f=>Zgc Γ cf nid H f (.d y :: Zd4 e args) | none=>none)
  | _=>none
 | .mkmap=>some (.mp nid,[],[.mp []])
 | .mapset ks m k v=>Zob H ks (m.val e) (k.val e) (v.val e)
 | .mapget ks z m k=>match Zmu H ks z (m.val e) (k.val e) with | some r=>Zba (.d r) | none=>none
 | .panic=>none
 | .callk f args _=>Zgc Γ cf nid H f (Zd4 e args)
 | .storek n x v _=>ZkU H n (x.val e) (v.val e)
 | .sortI x=>Zv0 H (x.val e)
 | .chNew x=>ZpT nid (x.val e)
 | .chTake x n=>Zmi H (x.val e) (n.val e)
 | .chLen x=>match ZqY H (x.val e) with | some r=>Zba (.d r) | none=>none
 | .bsD x=>match x.val e with | .d (.int .i64 n)=>Zba (.d (.list true [.int .i64 n])) | _=>none
 | .mkD _ z n c=>match n.val e,c.val e with
  | .d (.int _ n),.d (.int _ c)=>bif decide (0<=n)&&decide (n<=lim)&&decide (n==c) then
    Zba (.d (.list true (List.replicate n.toNat (match z with | [x]=>x | z=>.agg z)))) else none
  | _,_=>none
 | .loadF n ag x=>(match Zb5 H n ag (x.val e) with | some v=>(match fr H 6 v with | some (y,ks)=>some (.d y,ks.map (fun j=>(j,.dead)),[]) | none=>none) | none=>none)
 | .nilckm tab x=>ZqP tab (x.val e)
 | .spec id args=>match H,ZkE (Zd4 e args) with | [],some l=>(match Zm9 id l with | some r=>Zba (.d r) | none=>none) | _,_=>none
 | .nilq x=>match elems H (x.val e) with | some xs=>(match Nat.blt 0 xs.length with | true=>Zba (.d (.bool false)) | false=>none) | none=>none
def Zlp (e:Env) (dst:Option Nat) (v:V):Env:=match dst with | some i=>e.set i v | none=>e
def Zb2 (e:Env) (g:Option (Nat×Bool)):Option Bool:=
 match g with
 | none=>some true
 | some (s,b)=>match e s with | .d (.bool t)=>some (t==b) | .d (.tup [])=>some false | _=>none
def Zd7 (Γ:Ctx) (cf:Zac):List Op1->Env->Zi->Option (Env×Zi)
 | [],e,H=>some (e,H)
 | o :: r,e,H=>match Zb2 e o.guard with
  | some true=>(match opE Γ cf e H.length H o.op with
   | some (v,up,nw)=>Zd7 Γ cf r (Zlp e o.dst v) (Zbc H up++nw)
   | none=>none)
  | some false=>Zd7 Γ cf r (Zlp e o.dst (.d (.tup []))) H
  | none=>none
def ZBf (H:Zi) (b:Nat):Nat->Zi
 | 0=>H
 | n+1=>ZBf (ZbL H b .dead) (b+1) n
def Zga (H:Zi) (pos:List (Nat×Nat)):List Nat->Zi
 | []=>H
 | i :: r=>match nth pos i with | some (b,n)=>Zga (ZBf H b n) pos r | none=>Zga H pos r
def Zv3:List (Nat×Blk)->Bool
 | []=>true
 | (_,.dead) :: _=>false
 | _ :: r=>Zv3 r
def Zq9 (eff:Nat) (up:List (Nat×Blk)) (nw:List Blk):Bool:=match eff with | 0=>up.isEmpty | 1=>up.isEmpty&&nw.isEmpty | 3=>Zv3 up&&nw.isEmpty | _=>true
def ZG4 (e:Env) (H:Zi) (up:List (Nat×Blk)):O->Bool
 | .callk _ _ chk=>Zy3 e H (Zbc H up) chk
 | .storek _ _ _ chk=>ZpD e up chk
 | _=>true
def Zq6 (e:Env) (H:Zi) (o:Op1) (up:List (Nat×Blk)) (nw:List Blk):Bool:=Zq9 o.eff up nw&&ZG4 e H up o.op
def ZeH (Γ:Ctx) (cf:Zac) (pos:List (Nat×Nat)):List Op1->Env->Zi->Option (Env×Zi)
 | [],e,H=>some (e,H)
 | o :: r,e,H=>match Zb2 e o.guard with
  | some true=>(match opE Γ cf e H.length (Zga H pos o.mask) o.op with
   | some (v,up,nw)=>bif Zq6 e H o up nw then ZeH Γ cf (pos++[(H.length,nw.length)]) r (Zlp e o.dst v) (Zbc H up++nw) else none
   | _=>none)
  | some false=>ZeH Γ cf (pos++[(H.length,0)]) r (Zlp e o.dst (.d (.tup []))) H
  | none=>none
inductive Lp where
 | again (vs:List V) (H:Zi)
 | done (x:Ex) (vs:List V) (H:Zi)
abbrev St:=Env×Zi
def ZaR (F:List V->Zi->Option Lp):Nat->List V->Zi->Option (Ex×List V×Zi)
 | 0,_,_=>none
 | n+1,vs,H=>match F vs H with
  | some (.again vs H)=>ZaR F n vs H
  | some (.done x vs H)=>some (x,vs,H)
  | none=>none
def ZdE (k:Nat) (live outs:List Nat) (r:Option (Ex×Env×Zi)):Option Lp:=
 match r with
 | some (.normal,e,H)=>(match Zqs k (live.map e) H with | some (vs,H)=>some (.again vs H) | none=>none)
 | some (x,e,H)=>(match extract k (outs.map e) H with | some (_,vs,H)=>some (.done x vs H) | none=>none)
 | none=>none
def ZG (Γ:Ctx) (cf:Zac) (It:(List V->Zi->Option Lp)->List V->Zi->Option (Ex×List V×Zi)) (k:Nat):C->Env->Zi->Option (Ex×Env×Zi)
 | .skip,e,H=>some (.normal,e,H)
 | .ret,e,H=>some (.ret,e,H)
 | .exit id,e,H=>some (.exit id,e,H)
 | .seq a b,e,H=>match ZG Γ cf It k a e H with
  | some (.normal,e,H)=>ZG Γ cf It k b e H
  | r=>r
 | .cond x a b,e,H=>match x.val e with
  | .d (.bool t)=>(match t with | true=>ZG Γ cf It k a e H | false=>ZG Γ cf It k b e H)
  | _=>none
 | .block id a,e,H=>match ZG Γ cf It k a e H with
  | some (.exit j,e,H)=>bif Nat.beq j id then some (.normal,e,H) else some (.exit j,e,H)
  | r=>r
 | .loop live outs a,e,H=>match Zqs k (live.map e) H with
  | some (vs,H)=>(match It (fun vs H=>ZdE k live outs (ZG Γ cf It k a (ZcJ live vs) H)) vs H with
   | some (x,vs,H)=>some (x,ZcJ outs vs,H)
   | none=>none)
  | none=>none
 | .ops l,e,H=>match Zd7 Γ cf l e H with | some (e,H)=>some (.normal,e,H) | none=>none
 | .draw l,e,H=>match ZeH Γ cf [] l e H with | some (e,H)=>some (.normal,e,H) | none=>none
def ZaA (i:Nat):List V->Env
 | []=>env0
 | v :: vs=>(ZaA (i+1) vs).set i v
def ZiS (e:Env) (H:Zi):List (Nat×Option (Nat×Bool))->Option (List V)
 | []=>some []
 | (i,none) :: r=>match ZiS e H r with | some l=>some (e i :: l) | none=>none
 | (i,some (n,ag)) :: r=>match Zb5 H n ag (e i),ZiS e H r with | some v,some l=>some (v :: l) | _,_=>none
def Zfz:List V->V
 | [v]=>v
 | l=>Zu0 l
def ZeX (Γ:Ctx) (cf:Zac) (It:(List V->Zi->Option Lp)->List V->Zi->Option (Ex×List V×Zi)) (f:Nat) (args:List V) (H:Zi):Option (V×Zi):=
 match Γ.code f with
 | none=>none
 | some fn=>
  bif Nat.beq args.length fn.nargs then
   match ZG Γ cf It H.length fn.body (ZaA 0 args) H with
   | some (.exit _,_,_)=>none
   | some (_,e,H1)=>(match ZiS e H1 fn.res with
    | some l=>(match extract H.length [Zfz l] H1 with | some (_,[v],H2)=>some (v,H2) | _=>none)
    | none=>none)
   | none=>none
  else none
def evN (Γ:Ctx):Nat->Zac
 | 0=>fun _ _ _=>none
 | n+1=>ZeX Γ (evN Γ n) (fun F=>ZaR F n)
end Go.Proofs.YtgcfmiajkbbmeaaGreatE
namespace Go.Proofs.YtgcfmiajkbbmeaaGreat
open Go Go.Proofs.YtgcfmiajkbbmeaaGreatE
open Go.IntKind (u64 i64 u32 i32 u8)
abbrev qM (d x:Nat):Op1:=⟨some d,.mov (.t x),none,[],0⟩
abbrev uM (d x:Nat) (l:List Nat):Op1:=⟨some d,.mov (.t x),none,l,0⟩
abbrev vM (d x s:Nat) (b:Bool):Op1:=⟨some d,.mov (.t x),some (s,b),[],0⟩
abbrev wM (d x s:Nat) (b:Bool) (l:List Nat):Op1:=⟨some d,.mov (.t x),some (s,b),l,0⟩
abbrev qL (d x:Nat):Op1:=⟨some d,.load 1 false (.t x),none,[],0⟩
abbrev uL (d x:Nat) (l:List Nat):Op1:=⟨some d,.load 1 false (.t x),none,l,0⟩
abbrev vL (d x s:Nat) (b:Bool):Op1:=⟨some d,.load 1 false (.t x),some (s,b),[],0⟩
abbrev wL (d x s:Nat) (b:Bool) (l:List Nat):Op1:=⟨some d,.load 1 false (.t x),some (s,b),l,0⟩
abbrev qA (d n x:Nat):Op1:=⟨some d,.load n true (.t x),none,[],0⟩
abbrev uA (d n x:Nat) (l:List Nat):Op1:=⟨some d,.load n true (.t x),none,l,0⟩
abbrev vA (d n x s:Nat) (b:Bool):Op1:=⟨some d,.load n true (.t x),some (s,b),[],0⟩
abbrev wA (d n x s:Nat) (b:Bool) (l:List Nat):Op1:=⟨some d,.load n true (.t x),some (s,b),l,0⟩
abbrev qF (d n x:Nat):Op1:=⟨some d,.faddr n (.t x),none,[],0⟩
abbrev uF (d n x:Nat) (l:List Nat):Op1:=⟨some d,.faddr n (.t x),none,l,0⟩
abbrev vF (d n x s:Nat) (b:Bool):Op1:=⟨some d,.faddr n (.t x),some (s,b),[],0⟩
abbrev wF (d n x s:Nat) (b:Bool) (l:List Nat):Op1:=⟨some d,.faddr n (.t x),some (s,b),l,0⟩
abbrev qN (d x:Nat):Op1:=⟨some d,.len (.t x),none,[],0⟩
abbrev uN (d x:Nat) (l:List Nat):Op1:=⟨some d,.len (.t x),none,l,0⟩
abbrev vN (d x s:Nat) (b:Bool):Op1:=⟨some d,.len (.t x),some (s,b),[],0⟩
abbrev qI (d n x y:Nat):Op1:=⟨some d,.iaddr n (.t x) (.t y),none,[],0⟩
abbrev uI (d n x y:Nat) (l:List Nat):Op1:=⟨some d,.iaddr n (.t x) (.t y),none,l,0⟩
abbrev vI (d n x y s:Nat) (b:Bool):Op1:=⟨some d,.iaddr n (.t x) (.t y),some (s,b),[],0⟩
abbrev wI (d n x y s:Nat) (b:Bool) (l:List Nat):Op1:=⟨some d,.iaddr n (.t x) (.t y),some (s,b),l,0⟩
abbrev qU (d x:Nat):Op1:=⟨some d,.un .not (.t x),none,[],0⟩
abbrev vU (d x s:Nat) (b:Bool):Op1:=⟨some d,.un .not (.t x),some (s,b),[],0⟩
abbrev qE (d x n:Nat):Op1:=⟨some d,.extract (.t x) n,none,[],0⟩
abbrev uE (d x n:Nat) (l:List Nat):Op1:=⟨some d,.extract (.t x) n,none,l,0⟩
abbrev qB (d:Nat) (o:BinOp) (x y:Nat):Op1:=⟨some d,.bin o (.t x) (.t y),none,[],0⟩
abbrev qK (d:Nat) (o:BinOp) (x:Nat) (n:Int):Op1:=⟨some d,.bin o (.t x) (iN n),none,[],0⟩
abbrev vB (d:Nat) (o:BinOp) (x y s:Nat) (b:Bool):Op1:=⟨some d,.bin o (.t x) (.t y),some (s,b),[],0⟩
abbrev vK (d:Nat) (o:BinOp) (x:Nat) (n:Int) (s:Nat) (b:Bool):Op1:=⟨some d,.bin o (.t x) (iN n),some (s,b),[],0⟩
abbrev qW (d:Nat) (n:Int):Op1:=⟨some d,.mov (iN n),none,[],0⟩
abbrev qC (d f x:Nat):Op1:=⟨some d,.call f [.t x],none,[],0⟩
abbrev qD (d f x y:Nat):Op1:=⟨some d,.call f [.t x,.t y],none,[],0⟩
abbrev uS (d:Nat) (l:List Nat):Op1:=⟨some d,.bslice 1 [.int .i64 0] 0 [],none,l,0⟩
abbrev qZ (d x:Nat):Op1:=⟨some d,.nilck (.t x),none,[],0⟩
abbrev uZ (d x:Nat) (l:List Nat):Op1:=⟨some d,.nilck (.t x),none,l,0⟩
abbrev vZ (d x s:Nat) (b:Bool):Op1:=⟨some d,.nilck (.t x),some (s,b),[],0⟩
abbrev qO (d x:Nat):Op1:=⟨some d,.box (.t x),none,[],0⟩
abbrev qJ (d x y:Nat):Op1:=⟨some d,.pick (.t x) bT (.t y),none,[],0⟩
abbrev vJ (d x y s:Nat) (b:Bool):Op1:=⟨some d,.pick (.t x) bT (.t y),some (s,b),[],0⟩
abbrev qY (d x y:Nat):Op1:=⟨some d,.append 1 (.t x) (.t y),none,[],0⟩
abbrev uY (d x y:Nat) (l:List Nat):Op1:=⟨some d,.append 1 (.t x) (.t y),none,l,0⟩
abbrev ZbA (d n:Nat):Op1:=⟨some d,.mov (.c (.nilsl n)),none,[],0⟩
abbrev qff (d:Nat):Op1:=⟨some d,.mov bF,none,[],0⟩
abbrev qtt (d:Nat):Op1:=⟨some d,.mov bT,none,[],0⟩
abbrev uC (d f x:Nat) (l:List Nat):Op1:=⟨some d,.call f [.t x],none,l,0⟩
abbrev vC (d f x s:Nat) (b:Bool):Op1:=⟨some d,.call f [.t x],some (s,b),[],0⟩
abbrev uD (d f x y:Nat) (l:List Nat):Op1:=⟨some d,.call f [.t x,.t y],none,l,0⟩
abbrev vD (d f x y s:Nat) (b:Bool):Op1:=⟨some d,.call f [.t x,.t y],some (s,b),[],0⟩
abbrev qG (d f x y z:Nat):Op1:=⟨some d,.call f [.t x,.t y,.t z],none,[],0⟩
abbrev uG (d f x y z:Nat) (l:List Nat):Op1:=⟨some d,.call f [.t x,.t y,.t z],none,l,0⟩
abbrev vG (d f x y z s:Nat) (b:Bool):Op1:=⟨some d,.call f [.t x,.t y,.t z],some (s,b),[],0⟩
abbrev qV (d f x:Nat):Op1:=⟨some d,.callv (.t f) [.t x],none,[],0⟩
abbrev vV (d f x s:Nat) (b:Bool):Op1:=⟨some d,.callv (.t f) [.t x],some (s,b),[],0⟩
abbrev qH (d x:Nat):Op1:=⟨some d,.bslice 1 [.int .i64 0] 1 [(0,(.t x))],none,[],0⟩
abbrev uH (d x:Nat) (l:List Nat):Op1:=⟨some d,.bslice 1 [.int .i64 0] 1 [(0,(.t x))],none,l,0⟩
abbrev qS (n x y:Nat):Op1:=⟨none,.store n (.t x) (.t y),none,[],0⟩
abbrev qR (n x:Nat) (y:Int):Op1:=⟨none,.store n (.t x) (iN y),none,[],0⟩
abbrev qX (n x y k:Nat):Op1:=⟨none,.store n (.t x) (.t y),none,[],k⟩
abbrev qP (d x y:Nat):Op1:=⟨some d,.pick (.t x) (.t y) bF,none,[],0⟩
abbrev zI:V:=.d (.int .i64 0)
abbrev zD:D:=.int .i64 0
abbrev cX (x n:Nat):C:=.cond (.t x) .skip (.exit n)
abbrev cY (x:Nat) (a b:C):C:=.cond (.t x) a b
abbrev Lz0:List V:=[(.nilsl 1),(.nilsl 1),(.nilsl 3),(.nilsl 6),(.nilsl 1)]
abbrev Lz1:List V:=[(.nilsl 1),zI,zI]
abbrev Lz2:List V:=[(.d (.bool false)),(.nilsl 1),zI,(.nilsl 1),(.nilsl 1),(.nilsl 3),(.nilsl 6),(.nilsl 1)]
abbrev Lz3:List V:=[(.nilsl 1),(.nilsl 1)]
abbrev Lz4:List V:=[(.nilsl 1),(.nilsl 1),zI]
abbrev Lz5:List V:=[(.d (.bool false)),zI,zI,zI,zI,zI]
abbrev Lz6:List V:=[(.nilsl 1),(.nilsl 2)]
abbrev Lz7:List V:=[(.nilsl 1),(.nilsl 1),(.nilsl 3),(.nilsl 6),(.nilsl 1),(.nilsl 1),(.nilsl 2),zI]
abbrev oS (l:List Op1) (c:C):C:=.seq (.ops l) c
abbrev oR (l:List Op1):C:=.seq (.ops l) .ret
abbrev oC (x:Nat) (l:List Op1):C:=.cond (.t x) (.seq (.ops l) .ret) .skip
def ir4:C:=oS [qO 5 0,qff 10] (.seq (oS [oB 21 (.call 9 []),qU 22 21,qM 23 22,vA 24 2 5 23 false,vM 25 1 23 false,vD 26 19 24 25 23 false,vU 27 26 23 false,qJ 28 23 27,qM 29 28,vM 30 4 29 false,vN 31 30 29 false,vK 32 .gtr 31 600 29 false,qJ 33 29 32] (oC 33 [oB 34 (.call 9 []),qM 10 34])) (oS [qA 36 2 5,qC 37 12 36,qM 38 1,qC 39 14 38,qM 40 2,qM 41 3,qM 42 4,qC 43 14 42,oB 44 (.call 20 [.t 37,.t 39,.t 40,.t 41,.t 43]),qM 35 44,qE 45 35 0,qE 46 35 1,qE 47 35 2,qM 11 45,qM 12 46,qM 13 47] (oS [qA 49 2 5,qM 50 1,qM 51 2,qM 52 3,qM 53 4,oB 54 (.call 21 [.t 49,.t 50,.t 51,.t 52,.t 53]),qM 48 54,qE 55 48 0,qE 56 48 1,qE 57 48 2,qM 14 55,qM 15 56,qM 16 57] (oS [qA 59 2 5,qC 60 12 59,qM 61 1,qC 62 14 61,qM 63 2,qM 64 3,oB 65 (.call 22 [.t 60,.t 62,.t 63,.t 64]),qM 58 65,qE 66 58 0,qE 67 58 1,oB 17 (.alloc (.agg Lz2)),qS 8 17 66,qM 18 67] (oS [qA 69 2 5,qM 70 1,qM 71 2,qM 72 3,oB 73 (.call 23 [.t 69,.t 70,.t 71,.t 72]),qM 68 73,qE 74 68 0,qE 75 68 1,oB 19 (.alloc (.agg Lz2)),qS 8 19 74,qM 20 75] (oR [qM 76 11,qM 77 14,qD 78 24 76 77,qM 79 78,vM 80 12 79 true,vM 81 15 79 true,vB 82 .eql 80 81 79 true,qP 83 79 82,qM 84 83,vM 85 13 84 true,vM 86 16 84 true,vB 87 .eql 85 86 84 true,qP 88 84 87,qM 89 88,vA 90 8 17 89 true,vA 91 8 19 89 true,vD 92 15 90 91 89 true,qP 93 89 92,qM 94 93,vM 95 18 94 true,vM 96 20 94 true,vB 97 .eql 95 96 94 true,qP 98 94 97,qM 10 98]))))))
def fn4:FnI:=⟨5,ir4,[(10,none)]⟩
def ir9:C:=oS [qff 0] (oS [oB 16 (.bslice 1 [zD] 1 [(0,(iN 3))]),oB 17 (.build Lz6 [(0,1,(.t 16))]),oB 1 (.alloc (.agg Lz6)),qS 2 1 17] (oS [qA 19 2 1,oB 20 (.bslice 1 [zD] 1 [(0,(iN 5))]),oB 21 (.call 20 [.t 19,.t 20,(iN 2),bT,(.c (.nilsl 1))]),qM 18 21,qE 22 18 0,qE 23 18 1,qE 24 18 2,qM 2 22,qM 3 23,qM 4 24] (oS [qA 26 2 1,oB 27 (.bslice 1 [zD] 1 [(0,(iN 2))]),oB 28 (.call 22 [.t 26,.t 27,(iN 1),bF]),qM 25 28,qE 29 25 0,qE 30 25 1,oB 5 (.alloc (.agg Lz2)),qS 8 5 29,qM 6 30] (oS [qA 32 2 1,qA 33 8 5,oB 34 (.call 11 [.t 32,.t 33,(.c (.nilsl 1))]),qM 31 34,qE 35 31 0,qE 36 31 1,qE 37 31 2,oB 7 (.alloc (.agg Lz2)),oB 8 (.alloc (.agg Lz4)),qS 8 7 35,qS 3 8 36,qM 9 37] (oS [qA 39 2 1,qA 40 8 7,oB 41 (.call 11 [.t 39,.t 40,(.c (.nilsl 1))]),qM 38 41,qE 42 38 0,qE 43 38 1,qE 44 38 2,oB 10 (.alloc (.agg Lz2)),oB 11 (.alloc (.agg Lz4)),qS 8 10 42,qS 3 11 43,qM 12 44] (oS [qA 46 2 1,qA 47 8 10,oB 48 (.call 11 [.t 46,.t 47,(.c (.nilsl 1))]),qM 45 48,qE 49 45 0,qE 50 45 1,qE 51 45 2,oB 13 (.alloc (.agg Lz2)),oB 14 (.alloc (.agg Lz4)),qS 8 13 49,qS 3 14 50,qM 15 51] (oR [qM 52 2,qN 53 52,qK 54 .eql 53 3,qM 55 54,vM 56 3 55 true,vK 57 .eql 56 3 55 true,qP 58 55 57,qM 59 58,vM 60 4 59 true,vK 61 .eql 60 0 59 true,qP 62 59 61,qM 63 62,vM 64 6 63 true,vK 65 .eql 64 0 63 true,qP 66 63 65,qM 67 66,vM 68 9 67 true,vK 69 .eql 68 0 67 true,qP 70 67 69,qM 71 70,vF 72 0 8 71 true,vL 73 72 71 true,oG 74 (.bslice 1 [zD] 1 [(0,(iN 0))]) 71 true,vD 75 18 73 74 71 true,qP 76 71 75,qM 77 76,vF 78 2 7 77 true,vL 79 78 77 true,vK 80 .eql 79 1 77 true,qP 81 77 80,qM 82 81,vM 83 12 82 true,vK 84 .eql 83 0 82 true,qP 85 82 84,qM 86 85,vF 87 1 11 86 true,vL 88 87 86 true,oG 89 (.bslice 1 [zD] 1 [(0,(iN 0))]) 86 true,vD 90 18 88 89 86 true,qP 91 86 90,qM 92 91,vF 93 2 10 92 true,vL 94 93 92 true,vK 95 .eql 94 2 92 true,qP 96 92 95,qM 97 96,vM 98 15 97 true,vK 99 .eql 98 191 97 true,qP 100 97 99,qM 101 100,vA 102 2 1 101 true,vA 103 8 10 101 true,vD 104 17 102 103 101 true,vK 105 .eql 104 0 101 true,qP 106 101 105,qM 107 106,vA 108 8 7 107 true,vA 109 8 7 107 true,vD 110 33 108 109 107 true,qP 111 107 110,qM 112 111,vA 113 8 7 112 true,vA 114 8 10 112 true,vD 115 33 113 114 112 true,vU 116 115 112 true,qP 117 112 116,qM 118 117,vA 119 2 1 118 true,oG 120 (.bslice 1 [zD] 1 [(0,(iN 5))]) 118 true,vD 121 25 119 120 118 true,oG 122 (.bslice 1 [zD] 1 [(0,(iN 3))]) 118 true,vD 123 18 121 122 118 true,qP 124 118 123,qM 0 124])))))))
def fn9:FnI:=⟨0,ir9,[(0,none)]⟩
def ZJp:C:=oS [qO 3 0,qO 4 1,oB 6 (.alloc (.agg Lz2)),oB 7 (.alloc (.agg Lz4)),qW 8 0] (oS [qA 10 2 3,qA 11 8 4,qD 12 17 10 11,qM 9 12] (.seq (oS [qM 13 9,qK 14 .eql 13 0,qM 15 14,vF 16 2 4 15 true,vL 17 16 15 true,vK 18 .neq 17 1 15 true,qP 19 15 18] (cY 19 (.ops [qW 9 191]) .skip)) (.seq (oS [qM 20 9,qK 21 .neq 20 0] (oC 21 [oB 22 (.build Lz2 []),oB 23 (.build Lz4 []),qM 24 9,qS 8 6 22,qS 3 7 23,qM 8 24])) (oR [qA 25 2 3,qA 26 8 4,qM 27 2,qG 28 36 25 26 27,qE 29 28 0,qE 30 28 1,qE 31 28 2,qS 8 6 29,qS 3 7 30,qM 8 31]))))
def ZHO:FnI:=⟨3,ZJp,[(6,some (8,true)),(7,some (3,true)),(8,none)]⟩
def ZIT:C:=oS [qO 1 0,oB 2 (.alloc (.agg Lz6))] (.seq (.draw [oB 3 (.bslice 1 [zD] 0 []),uF 4 0 1 [0],uL 5 4 [0],qY 6 3 5,oM 7 (.bslice 2 [zD,zD] 0 []) [0,1,2,3],uF 8 1 1 [0,1,2,3,4],uL 9 8 [0,1,2,3,4],oB 10 (.append 2 (.t 7) (.t 9)),oB 11 (.build Lz6 [(0,1,(.t 6)),(1,1,(.t 10))]),qX 2 2 11 4]) .ret)
def ZE0:FnI:=⟨1,ZIT,[(2,some (2,true))]⟩
def ZIW:C:=oS [ZbA 2 1] (oR [oB 3 (.bslice 1 [zD] 0 []),qM 4 0,qY 5 3 4,qM 2 5])
def ZFZ:FnI:=⟨1,ZIW,[(2,none)]⟩
def ZIG:C:=oS [qO 2 0,qO 3 1,qff 4] (oR [qF 5 0 2,qL 6 5,qF 7 0 3,qL 8 7,oB 9 (.eqv [true] false (.t 6) (.t 8)),qM 10 9,vF 11 1 2 10 true,vL 12 11 10 true,vF 13 1 3 10 true,vL 14 13 10 true,vD 15 18 12 14 10 true,qP 16 10 15,qM 17 16,vF 18 2 2 17 true,vL 19 18 17 true,vF 20 2 3 17 true,vL 21 20 17 true,vB 22 .eql 19 21 17 true,qP 23 17 22,qM 24 23,vF 25 3 2 24 true,vA 26 5 25 24 true,vF 27 3 3 24 true,vA 28 5 27 24 true,vD 29 38 26 28 24 true,qP 30 24 29,qM 4 30])
def ZFI:FnI:=⟨2,ZIG,[(4,none)]⟩
def ZzS:C:=.seq (oS [qM 6 5,qM 7 0,qN 8 7,qB 9 .lss 6 8] (cX 9 0)) (.seq (.block 1 (oS [qM 12 0,qM 13 5,qI 14 1 12 13,qL 15 14,qM 16 1,qB 17 .eql 15 16] (oC 17 [qtt 4]))) (.ops [qM 10 5,qK 11 .add 10 1,qM 5 11]))
def ZIw:C:=oS [qff 4] (.seq (oS [qW 5 0] (.block 0 (.loop [0,1,5] [4] ZzS))) (oR [qff 4]))
def ZFV:FnI:=⟨2,ZIw,[(4,none)]⟩
def ZF2:C:=oS [qB 34 .lss 33 32] (.seq (cX 34 0) (.seq (.block 1 (oS [qM 35 33,qI 36 1 31 33,qL 37 36,qM 6 35,qM 7 37] (oS [qF 38 3 3,qF 39 0 38,qF 40 1 39,qL 41 40,qM 42 6,qI 43 1 41 42,qL 44 43,qM 45 7,qB 46 .gtr 44 45] (oC 46 [qW 4 190])))) (.ops [qK 47 .add 33 1,qM 33 47])))
def ZIr:C:=oS [qO 2 0,qO 3 1,qW 4 0] (.seq (oS [qA 8 2 2,qC 9 39 8,qM 5 9] (oS [qM 10 5,qK 11 .neq 10 0] (oC 11 [qM 12 5,qM 4 12]))) (.seq (.seq (.draw [qA 13 2 2,uF 14 1 3 [0],uL 15 14 [0],qD 16 40 13 15,qU 17 16,qM 18 17,vF 19 0 3 18 false,vL 20 19 18 false,vC 21 41 20 18 false,wA 22 2 2 18 false [6,7,8],wF 23 3 3 18 false [6,7,8,9],wA 24 5 23 18 false [6,7,8,9],oG 25 (.invoke [(115,160),(116,216)] (.t 21) [.t 22,.t 24]) 18 false,vK 26 .neq 25 0 18 false,qJ 27 18 26]) (oC 27 [qW 4 190])) (.seq (oS [qA 28 2 2,qF 29 1 3,qL 30 29,qD 31 42 28 30,qN 32 31,qW 33 0] (.block 0 (.loop [2,3,31,32,33] [2,3,4] ZF2))) (.seq (.seq (.draw [qF 48 2 3,qL 49 48,uA 50 2 2 [0,1],uF 51 1 3 [0,1,2],uL 52 51 [0,1,2],uF 53 3 3 [0,1,2,3,4],uF 54 0 53 [0,1,2,3,4],uF 55 1 54 [0,1,2,3,4],uL 56 55 [0,1,2,3,4],uG 57 43 50 52 56 [0,1],qB 58 .neq 49 57]) (oC 58 [qW 4 190])) (oR [qW 4 0])))))
def ZH5:FnI:=⟨2,ZIr,[(4,none)]⟩
def ZAY:C:=.seq (oS [qM 11 5,qM 12 0,qN 13 12,qB 14 .lss 11 13] (cX 14 0)) (.seq (.block 1 (.seq (.draw [qM 17 0,uM 18 5 [0],qI 19 1 17 18,qL 20 19,uM 21 1 [0,1,2,3],uM 22 5 [0,1,2,3,4],uI 23 1 21 22 [0,1,2,3],uL 24 23 [0,1,2,3],qB 25 .neq 20 24]) (oC 25 [qff 4]))) (.ops [qM 15 5,qK 16 .add 15 1,qM 5 16]))
def ZJv:C:=oS [qff 4] (.seq (oS [qM 6 0,qN 7 6,qM 8 1,qN 9 8,qB 10 .neq 7 9] (oC 10 [qff 4])) (.seq (oS [qW 5 0] (.block 0 (.loop [0,1,5] [4] ZAY))) (oR [qtt 4])))
def ZFX:FnI:=⟨2,ZJv,[(4,none)]⟩
def ZJy:C:=oS [qO 2 0,qff 4] (oR [qA 5 2 2,qC 6 34 5,qM 7 6,vM 8 1 7 true,vN 9 8 7 true,vK 10 .leq 9 70 7 true,qP 11 7 10,qM 12 11,vA 13 2 2 12 true,vC 14 12 13 12 true,vC 15 30 14 12 true,vK 16 .leq 15 300 12 true,qP 17 12 16,qM 4 17])
def ZEu:FnI:=⟨2,ZJy,[(4,none)]⟩
def ZB9:C:=oS [qB 39 .lss 38 37] (.seq (cX 39 0) (.seq (.block 1 (oS [qI 40 1 36 38,qL 41 40,qM 17 41] (.ops [qM 42 15,qM 43 17,qB 44 .add 42 43,qM 15 44]))) (.ops [qK 45 .add 38 1,qM 38 45])))
def ZBR:C:=.seq (oS [qF 48 2 13,qL 49 48,qK 50 .eql 49 1] (cX 50 2)) (.block 3 (oS [qA 52 2 5,qA 53 8 13,qM 54 4,qG 55 36 52 53 54,qM 51 55,qE 56 51 0,qE 57 51 1,qE 58 51 2,oB 19 (.alloc (.agg Lz2)),oB 20 (.alloc (.agg Lz4)),qS 8 19 56,qS 3 20 57,qM 21 58] (.seq (oS [qM 59 21,qK 60 .neq 59 0] (oC 60 [qM 61 21,ZbA 10 1,qW 11 0,qM 12 61])) (oS [qM 62 4,qF 63 2 20,qL 64 63,qM 65 4,qN 66 65,oB 67 (.mx false [.t 64,.t 66]),oB 68 (.slice 1 (.t 62) (some (.t 67)) none none),qM 4 68] (oS [qM 69 18,qF 70 0 20,qL 71 70,oB 72 (.bslice 1 [.list true []] 1 [(0,(.t 71))]),qY 73 69 72,qM 18 73] (.ops [qA 74 8 19,qS 8 13 74]))))))
def ZJi:C:=oS [qO 5 0,ZbA 10 1,qW 11 0,qW 12 0] (oS [qA 23 2 5,qM 24 1,qM 25 2,qM 26 3,oB 27 (.call 22 [.t 23,.t 24,.t 25,.t 26]),qM 22 27,qE 28 22 0,qE 29 22 1,oB 13 (.alloc (.agg Lz2)),qS 8 13 28,qM 14 29] (.seq (oS [qM 30 14,qK 31 .neq 30 0] (oC 31 [qM 32 14,ZbA 10 1,qW 11 0,qM 12 32])) (oS [qW 15 0] (.seq (oS [qF 33 3 13,qF 34 0 33,qF 35 1 34,qL 36 35,qN 37 36,qW 38 0] (.block 0 (.loop [4,5,13,15,36,37,38] [4,5,13,15] ZB9))) (.seq (oS [qM 46 15,qK 47 .gtr 46 4096] (oC 47 [ZbA 10 1,qW 11 0,qW 12 190])) (oS [ZbA 18 1] (.seq (.block 2 (.loop [4,5,13,18] [10,11,12,13,18] ZBR)) (.seq (.draw [qM 75 18,uF 76 2 13 [0],uL 77 76 [0],uM 10 75 [1,2],qM 11 77,qW 12 0]) .ret))))))))
def ZE4:FnI:=⟨5,ZJi,[(10,none),(11,none),(12,none)]⟩
def ZCm:C:=.seq (oS [qM 32 16,qF 33 3 13,qF 34 0 33,qF 35 1 34,qL 36 35,qN 37 36,qB 38 .lss 32 37] (cX 38 0)) (.seq (.block 1 (.ops [qM 41 15,qF 42 3 13,qF 43 0 42,qF 44 1 43,qL 45 44,qM 46 16,qI 47 1 45 46,qL 48 47,qB 49 .add 41 48,qM 15 49])) (.ops [qM 39 16,qK 40 .add 39 1,qM 16 40]))
def ZB6:C:=.seq (oS [qF 53 2 13,qL 54 53,qK 55 .eql 54 1] (cX 55 2)) (.block 3 (oS [qA 57 2 5,qA 58 8 13,qM 59 4,qG 60 44 57 58 59,qM 56 60,qE 61 56 0,qE 62 56 1,qE 63 56 2,oB 18 (.alloc (.agg Lz2)),oB 19 (.alloc (.agg Lz4)),qS 8 18 61,qS 3 19 62,qM 20 63] (.seq (oS [qM 64 20,qK 65 .neq 64 0] (oC 65 [qM 66 20,ZbA 10 1,qW 11 0,qM 12 66])) (oS [qM 67 4,qF 68 2 19,qL 69 68,qM 70 4,qN 71 70,oB 72 (.mx false [.t 69,.t 71]),oB 73 (.slice 1 (.t 67) (some (.t 72)) none none),qM 4 73] (oS [qM 74 17,qF 75 0 19,qL 76 75,oB 77 (.bslice 1 [.list true []] 1 [(0,(.t 76))]),qY 78 74 77,qM 17 78] (.ops [qA 79 8 18,qS 8 13 79]))))))
def ZIP:C:=oS [qO 5 0,ZbA 10 1,qW 11 0,qW 12 0] (oS [qA 22 2 5,qM 23 1,qM 24 2,qM 25 3,oB 26 (.call 23 [.t 22,.t 23,.t 24,.t 25]),qM 21 26,qE 27 21 0,qE 28 21 1,oB 13 (.alloc (.agg Lz2)),qS 8 13 27,qM 14 28] (.seq (oS [qM 29 14,qK 30 .neq 29 0] (oC 30 [qM 31 14,ZbA 10 1,qW 11 0,qM 12 31])) (oS [qW 15 0] (.seq (oS [qW 16 0] (.block 0 (.loop [4,5,13,15,16] [4,5,13,15] ZCm))) (.seq (oS [qM 50 15,qK 51 .gtr 50 4096] (oC 51 [ZbA 10 1,qW 11 0,qW 12 190])) (oS [oB 52 (.bslice 1 [.list true []] 0 []),qM 17 52] (.seq (.block 2 (.loop [4,5,13,17] [10,11,12,13,17] ZB6)) (.seq (.draw [qM 80 17,uF 81 2 13 [0],uL 82 81 [0],uM 10 80 [1,2],qM 11 82,qW 12 0]) .ret))))))))
def ZFG:FnI:=⟨5,ZIP,[(10,none),(11,none),(12,none)]⟩
def ZJt:C:=oS [qO 4 0,oB 8 (.alloc (.agg Lz2)),qW 9 0] (.seq (oS [qA 13 2 4,qC 14 39 13,qM 10 14] (oS [qM 15 10,qK 16 .neq 15 0] (oC 16 [oB 17 (.build Lz2 []),qM 18 10,qS 8 8 17,qM 9 18]))) (.seq (oS [qA 19 2 4,qM 20 1,qD 21 40 19 20,qU 22 21,qM 23 22,vM 24 2 23 false,vK 25 .lss 24 1 23 false,qJ 26 23 25,qM 27 26,vM 28 2 27 false,vK 29 .gtr 28 8 27 false,qJ 30 27 29] (oC 30 [oB 31 (.build Lz2 []),qS 8 8 31,qW 9 190])) (.seq (.draw [qM 33 3,qC 34 41 33,uA 35 2 4 [0,1],uA 36 2 4 [0,1,2],uM 37 1 [0,1,2,3],uD 38 42 36 37 [2],uM 39 2 [0,1,2,3,4,5],oM 40 (.mkfn 2000000 [.t 34]) [2,3,4,5,6],oM 41 (.nilckm [(115,159),(116,215)] (.t 40)) [2,3,4,5,6],uM 42 34 [2,3,4,5,6],oB 43 (.invoke [(115,159),(116,215)] (.t 42) [.t 35,.t 38,.t 39]),qM 32 43,qE 44 32 0,uE 45 32 1 [12],oM 11 (.alloc (.agg Lz0)) [0,1,2,3,4,5,6,7,8,9,10,11,12,13],qX 5 11 44 4,qM 12 45]) (.seq (oS [qM 46 12,qK 47 .neq 46 0] (oC 47 [oB 48 (.build Lz2 []),qM 49 12,qS 8 8 48,qM 9 49])) (.seq (.draw [qM 50 3,uM 51 1 [0],uC 52 45 51 [0],uA 53 2 4 [0,1,2],uM 54 1 [0,1,2,3],uF 55 0 11 [0,1,2,3,4],uF 56 1 55 [0,1,2,3,4],uL 57 56 [0,1,2,3,4],uG 58 43 53 54 57 [0],uA 59 5 11 [0,1,2,3,4,5,6,7,8],oB 60 (.build Lz2 [(0,1,(.t 50)),(1,1,(.t 52)),(2,1,(.t 58)),(3,5,(.t 59))]),qX 8 8 60 4,qW 9 0]) .ret)))))
def ZFf:FnI:=⟨4,ZJt,[(8,some (8,true)),(9,none)]⟩
def ZIN:C:=oS [qO 4 0,oB 8 (.alloc (.agg Lz2)),qW 9 0] (oS [qA 12 2 4,qC 13 46 12,qM 10 13] (.seq (oS [qM 14 10,qK 15 .neq 14 0] (oC 15 [oB 16 (.build Lz2 []),qM 17 10,qS 8 8 16,qM 9 17])) (.seq (oS [qA 18 2 4,qM 19 1,qD 20 47 18 19,qU 21 20,qM 22 21,vM 23 2 22 false,vK 24 .lss 23 1 22 false,qJ 25 22 24,qM 26 25,vM 27 2 26 false,vK 28 .gtr 27 8 26 false,qJ 29 26 28] (oC 29 [oB 30 (.build Lz2 []),qS 8 8 30,qW 9 190])) (.seq (.draw [qM 31 3,uS 32 [0],uM 33 1 [0,1],uY 34 32 33 [0],uA 35 2 4 [0,1,2,3],uM 36 1 [0,1,2,3,4],uA 37 2 4 [0,1,2,3,4,5],uM 38 1 [0,1,2,3,4,5,6],uD 39 49 37 38 [0,4,5],uG 40 48 35 36 39 [0],oB 41 (.build Lz2 [(0,1,(.t 31)),(1,1,(.t 34)),(2,1,(.t 40))]),oM 11 (.alloc (.agg Lz2)) [0,1,2,3,4,5,6,7,8,9,10],qX 8 11 41 4]) (.seq (oS [qM 42 3] (cY 42 (.draw [qA 44 2 4,uA 45 2 4 [0],uM 46 1 [0,1],uD 47 49 45 46 [0],uM 48 2 [0,1,2,3],qG 49 50 44 47 48,qM 43 49,qE 50 43 0,uE 51 43 1 [7],uF 52 3 11 [8],qX 5 52 50 4]) (.draw [qA 54 2 4,uA 55 2 4 [0],uM 56 1 [0,1],uD 57 49 55 56 [0],uM 58 2 [0,1,2,3],qG 59 51 54 57 58,qM 53 59,qE 60 53 0,uE 61 53 1 [7],uF 62 3 11 [8],uF 63 0 62 [8],qX 2 63 60 4]))) (oR [qA 64 8 11,qS 8 8 64,qW 9 0]))))))
def ZFU:FnI:=⟨4,ZIN,[(8,some (8,true)),(9,none)]⟩
def ZAM:C:=.seq (oS [qM 11 5,qM 12 0,qN 13 12,qB 14 .lss 11 13] (cX 14 0)) (.seq (.block 1 (.seq (.draw [qM 17 0,uM 18 5 [0],qI 19 1 17 18,qL 20 19,uM 21 1 [0,1,2,3],uM 22 5 [0,1,2,3,4],uI 23 1 21 22 [0,1,2,3],uL 24 23 [0,1,2,3],qD 25 18 20 24,qU 26 25]) (oC 26 [qff 4]))) (.ops [qM 15 5,qK 16 .add 15 1,qM 5 16]))
def ZI1:C:=oS [qff 4] (.seq (oS [qM 6 0,qN 7 6,qM 8 1,qN 9 8,qB 10 .neq 7 9] (oC 10 [qff 4])) (.seq (oS [qW 5 0] (.block 0 (.loop [0,1,5] [4] ZAM))) (oR [qtt 4])))
def ZEE:FnI:=⟨2,ZI1,[(4,none)]⟩
def ZIm:C:=oS [qO 2 0,ZbA 4 1] (.seq (oS [qA 5 2 2,qC 6 39 5,qK 7 .neq 6 0,qM 8 7,vA 9 2 2 8 false,vM 10 1 8 false,vD 11 40 9 10 8 false,vU 12 11 8 false,qJ 13 8 12] (oC 13 [ZbA 4 1])) (oR [qA 14 2 2,qM 15 1,qD 16 42 14 15,qM 4 16]))
def ZHx:FnI:=⟨2,ZIm,[(4,none)]⟩
def ZIf:C:=oS [qO 4 0,qW 8 0] (oS [qA 12 2 4,qM 13 1,qM 14 2,qM 15 3,oB 16 (.call 52 [.t 12,.t 13,.t 14,.t 15,(.c (.d (.fn 53 [])))]),qM 11 16,qE 17 11 0,qE 18 11 1,qM 9 17,qM 10 18] (oR [qM 19 10,qM 8 19]))
def ZEV:FnI:=⟨4,ZIf,[(8,none)]⟩
def ZA6:C:=oS [qB 13 .lss 12 11] (.seq (cX 13 0) (.seq (.block 1 (oS [qI 14 1 10 12,qL 15 14,qM 5 15] (.ops [qM 16 3,qM 17 5,qB 18 .add 16 17,qM 3 18]))) (.ops [qK 19 .add 12 1,qM 12 19])))
def ZIO:C:=oS [qO 1 0,qW 2 0] (oS [qW 3 0] (.seq (oS [qA 6 2 1,qC 7 39 6,qK 8 .eql 7 0] (cY 8 (oS [qF 9 0 1,qL 10 9,qN 11 10,qW 12 0] (.block 0 (.loop [3,10,11,12] [3] ZA6))) .skip)) (oR [qM 20 3,qM 2 20])))
def ZEK:FnI:=⟨1,ZIO,[(2,none)]⟩
def ZJs:C:=oS [qO 2 0,qO 3 1,qff 4] (oR [qF 5 0 2,qL 6 5,qF 7 0 3,qL 8 7,oB 9 (.eqv [true] false (.t 6) (.t 8)),qM 10 9,vF 11 1 2 10 true,vL 12 11 10 true,vF 13 1 3 10 true,vL 14 13 10 true,vD 15 60 12 14 10 true,qP 16 10 15,qM 17 16,vF 18 2 2 17 true,vL 19 18 17 true,vF 20 2 3 17 true,vL 21 20 17 true,vB 22 .eql 19 21 17 true,qP 23 17 22,qM 24 23,vF 25 3 2 24 true,vA 26 5 25 24 true,vF 27 3 3 24 true,vA 28 5 27 24 true,vD 29 61 26 28 24 true,qP 30 24 29,qM 4 30])
def ZHN:FnI:=⟨2,ZJs,[(4,none)]⟩
def ZIJ:C:=oS [qO 1 0,qff 2] (oR [qF 3 0 1,qL 4 3,qN 5 4,qK 6 .leq 5 70,qM 7 6,vF 8 1 1 7 true,vL 9 8 7 true,vN 10 9 7 true,vK 11 .leq 10 300 7 true,qP 12 7 11,qM 2 12])
def ZET:FnI:=⟨1,ZIJ,[(2,none)]⟩
def ZIM:C:=oS [qO 3 0,qO 4 1,oB 6 (.alloc (.agg Lz2)),oB 7 (.alloc (.agg Lz4)),qW 8 0] (oS [qF 14 0 4,qL 15 14,qC 16 41 15,qM 9 16] (oS [qM 18 9,qA 19 2 3,qF 20 3 4,qA 21 5 20,qM 22 2,oB 23 (.invoke [(115,161),(116,217)] (.t 18) [.t 19,.t 21,.t 22]),qM 17 23,qE 24 17 0,qE 25 17 1,qE 26 17 2,oB 10 (.alloc (.agg Lz0)),qS 5 10 24,qM 11 25,qM 12 26] (.seq (oS [qM 27 12,qK 28 .neq 27 0] (oC 28 [oB 29 (.build Lz2 []),oB 30 (.build Lz4 []),qM 31 12,qS 8 6 29,qS 3 7 30,qM 8 31])) (oS [qF 32 0 10,qF 33 0 32,qL 34 33,qC 35 45 34,qM 36 11,oB 37 (.build Lz4 [(0,1,(.t 35)),(2,1,(.t 36))]),oB 13 (.alloc (.agg Lz4)),qS 3 13 37] (oS [qM 39 9,qA 40 2 3,qA 41 5 10,oB 42 (.invoke [(115,162),(116,218)] (.t 39) [.t 40,.t 41]),qM 38 42,qE 43 38 0,qE 44 38 1,qE 45 38 2,qS 5 10 43,qF 46 1 13,qS 1 46 44,qM 12 45] (.seq (oS [qM 47 12,qK 48 .neq 47 0] (oC 48 [oB 49 (.build Lz2 []),oB 50 (.build Lz4 []),qM 51 12,qS 8 6 49,qS 3 7 50,qM 8 51])) (.seq (.draw [qF 52 1 4,qL 53 52,qC 54 45 53,⟨some 55,.load 5 true (.t 10),none,[0,1,2],1⟩,uF 56 1 4 [3],⟨none,.storek 1 (.t 56) (.t 54) [.t 10],none,[],3⟩,qF 57 3 4,qX 5 57 55 4]) (oS [qA 58 2 3,qF 59 1 4,qL 60 59,qF 61 0 10,qF 62 1 61,qL 63 62,qG 64 43 58 60 63,qF 65 2 4,qS 1 65 64] (.seq (.draw [qA 66 8 4,⟨some 67,.load 3 true (.t 13),none,[0],1⟩,⟨none,.storek 8 (.t 6) (.t 66) [.t 13],none,[],3⟩,qX 3 7 67 4,qW 8 0]) .ret)))))))))
def ZFM:FnI:=⟨3,ZIM,[(6,some (8,true)),(7,some (3,true)),(8,none)]⟩
def ZA3:C:=.seq (oS [qM 39 5,qF 40 2 2,qL 41 40,qN 42 41,qB 43 .lss 39 42] (cX 43 0)) (.seq (.block 1 (.seq (.draw [qF 46 2 2,qL 47 46,uM 48 5 [0,1],qI 49 3 47 48,qA 50 3 49,uF 51 2 3 [0,1,2,3,4],uL 52 51 [0,1,2,3,4],uM 53 5 [0,1,2,3,4,5,6],uI 54 3 52 53 [0,1,2,3,4],uA 55 3 54 [0,1,2,3,4],qD 56 65 50 55,qU 57 56]) (oC 57 [qff 4]))) (.ops [qM 44 5,qK 45 .add 44 1,qM 5 45]))
def Zz9:C:=.seq (oS [qM 58 6,qF 59 3 2,qL 60 59,qN 61 60,qB 62 .lss 58 61] (cX 62 2)) (.seq (.block 3 (.seq (.draw [qF 65 3 2,qL 66 65,uM 67 6 [0,1],qI 68 6 66 67,qA 69 6 68,uF 70 3 3 [0,1,2,3,4],uL 71 70 [0,1,2,3,4],uM 72 6 [0,1,2,3,4,5,6],uI 73 6 71 72 [0,1,2,3,4],uA 74 6 73 [0,1,2,3,4],oB 75 (.eqv [true,false,false,false,false,false] true (.t 69) (.t 74))]) (oC 75 [qff 4]))) (.ops [qM 63 6,qK 64 .add 63 1,qM 6 64]))
def ZIU:C:=oS [qO 2 0,qO 3 1,qff 4] (.seq (oS [qF 7 0 2,qA 8 2 7,qF 9 0 3,qA 10 2 9,qD 11 64 8 10,qU 12 11,qM 13 12,vF 14 2 2 13 false,vL 15 14 13 false,vN 16 15 13 false,vF 17 2 3 13 false,vL 18 17 13 false,vN 19 18 13 false,vB 20 .neq 16 19 13 false,qJ 21 13 20,qM 22 21,vF 23 3 2 22 false,vL 24 23 22 false,vN 25 24 22 false,vF 26 3 3 22 false,vL 27 26 22 false,vN 28 27 22 false,vB 29 .neq 25 28 22 false,qJ 30 22 29,qM 31 30,vF 32 4 2 31 false,vL 33 32 31 false,vF 34 4 3 31 false,vL 35 34 31 false,vD 36 18 33 35 31 false,vU 37 36 31 false,qJ 38 31 37] (oC 38 [qff 4])) (.seq (oS [qW 5 0] (.block 0 (.loop [2,3,5] [2,3,4] ZA3))) (.seq (oS [qW 6 0] (.block 2 (.loop [2,3,6] [4] Zz9))) (oR [qtt 4]))))
def ZEs:FnI:=⟨2,ZIU,[(4,none)]⟩
def ZAn:C:=oS [qB 26 .lss 25 24] (.seq (cX 26 0) (.seq (.block 1 (oS [qM 27 25,qI 28 2 23 25,qA 29 2 28,oB 5 (.alloc (.d (.agg [zD,zD]))),qM 4 27,qS 2 5 29] (.seq (.draw [qM 30 3,uF 31 0 5 [0],uL 32 31 [0],⟨some 33,.callv (.t 30) [.t 32],none,[],4⟩,qU 34 33,qM 35 34,vM 36 3 35 false,wF 37 1 5 35 false [6],wL 38 37 35 false [6],vV 39 36 38 35 false,vU 40 39 35 false,qJ 41 35 40,qM 42 41,vF 43 0 5 42 false,vL 44 43 42 false,wF 45 1 5 42 false [13,14],wL 46 45 42 false [13,14],vB 47 .eql 44 46 42 false,qJ 48 42 47,qM 49 48,vF 50 1 1 49 false,vL 51 50 49 false,wM 52 4 49 false [20,21],oG 53 (.slice 2 (.t 51) none (some (.t 52)) none) 49 false,wA 54 2 5 49 false [20,21,22,23],vD 55 69 53 54 49 false,qJ 56 49 55]) (oC 56 [qW 2 42])))) (.ops [qK 57 .add 25 1,qM 25 57])))
def ZJh:C:=oS [qO 1 0,qW 2 0] (.seq (oS [qF 8 0 1,qL 9 8,qN 10 9,qK 11 .gtr 10 64,qM 12 11,vF 13 1 1 12 false,vL 14 13 12 false,vN 15 14 12 false,vK 16 .gtr 15 256 12 false,qJ 17 12 16] (oC 17 [qW 2 40])) (.seq (oS [qF 18 0 1,qL 19 18,oB 20 (.call 66 [.t 19,(.c (.d (.fn 67 [])))])] (oC 20 [qW 2 41])) (oS [oB 21 (.mkfn 68 [.t 1]),qM 3 21] (.seq (oS [qF 22 1 1,qL 23 22,qN 24 23,qW 25 0] (.block 0 (.loop [1,3,23,24,25] [1,2] ZAn))) (.seq (oS [qA 59 2 1,qC 60 70 59,qM 58 60,qE 61 58 0,qE 62 58 1,qM 6 61,qM 7 62] (oS [qM 63 7,qU 64 63] (oC 64 [qW 2 43]))) (oR [qW 2 0]))))))
def ZEq:FnI:=⟨1,ZJh,[(2,none)]⟩
def ZI4:C:=oS [qO 2 0,qff 4] (oS [oB 5 (.mov (.c (.d (.fn 71 []))))] (oR [qM 6 1,qN 7 6,qF 8 0 2,qL 9 8,qN 10 9,qB 11 .eql 7 10,qM 12 11,vM 13 1 12 true,vM 14 5 12 true,vD 15 66 13 14 12 true,vU 16 15 12 true,qP 17 12 16,qM 18 17,vF 19 0 2 18 true,vL 20 19 18 true,vM 21 5 18 true,vD 22 66 20 21 18 true,vU 23 22 18 true,qP 24 18 23,qM 4 24]))
def ZEv:FnI:=⟨2,ZI4,[(4,none)]⟩
def ZIC:C:=oS [oB 2 (.mov (.c (.d (.nilI))))] (.seq (oS [qM 3 0] (oC 3 [oB 4 (.build [] []),oB 5 (.mkif 115 (.t 4)),qM 2 5])) (oR [oB 6 (.build [] []),oB 7 (.mkif 116 (.t 6)),qM 2 7]))
def ZFb:FnI:=⟨1,ZIC,[(2,none)]⟩
def ZCg:C:=oS [qB 12 .lss 11 10] (.seq (cX 12 0) (.seq (.block 1 (oS [qM 13 11,qI 14 1 9 11,qL 15 14,qM 6 13,qM 7 15] (.ops [qM 16 5,qM 17 1,qM 18 6,qI 19 1 17 18,qL 20 19,qM 21 7,oB 22 (.mx false [.t 20,.t 21]),qH 23 22,qY 24 16 23,qM 5 24]))) (.ops [qK 25 .add 11 1,qM 11 25])))
def ZIe:C:=oS [qO 2 0,ZbA 4 1] (oS [ZbA 5 1] (.seq (oS [qF 8 0 2,qL 9 8,qN 10 9,qW 11 0] (.block 0 (.loop [1,5,9,10,11] [5] ZCg))) (oR [qM 26 5,qM 4 26])))
def ZF6:FnI:=⟨2,ZIe,[(4,none)]⟩
def ZBu:C:=oS [qB 13 .lss 12 11] (.seq (cX 13 0) (.seq (.block 1 (oS [qM 14 12,qI 15 1 10 12,qL 16 15,qM 8 14,qM 9 16] (.block 2 (oS [qM 18 9,qK 19 .gtr 18 0,qM 20 19,vM 21 7 20 true,vK 22 .eql 21 2 20 true,qP 23 20 22,qM 17 23] (cY 17 (.ops [qW 7 1]) (.seq (.draw [qM 25 9,qK 26 .eql 25 0,qM 27 26,vM 28 1 27 true,wM 29 8 27 true [3],vI 30 1 28 29 27 true,vL 31 30 27 true,wF 32 0 3 27 true [3,4,5,6],wL 33 32 27 true [3,4,5,6],wM 34 8 27 true [3,4,5,6,7,8],wI 35 1 33 34 27 true [3,4,5,6],wL 36 35 27 true [3,4,5,6],vB 37 .gtr 31 36 27 true,qP 38 27 37,qM 24 38]) (oC 24 [qW 6 3]))))))) (.ops [qK 39 .add 12 1,qM 12 39])))
def ZIl:C:=oS [qO 3 0,qW 6 0] (oS [qW 7 2] (.seq (oS [qM 10 2,qN 11 10,qW 12 0] (.block 0 (.loop [1,3,7,10,11,12] [6,7] ZBu))) (oR [qM 40 7,qM 6 40])))
def ZFk:FnI:=⟨3,ZIl,[(6,none)]⟩
def ZJx:C:=oS [qO 3 0,qO 4 1,oB 6 (.alloc (.agg Lz2)),oB 7 (.alloc (.agg Lz4)),qW 8 0] (oS [qA 18 2 3,qA 19 8 4,qD 20 72 18 19,qM 9 20] (.seq (oS [qM 21 9,qK 22 .neq 21 0] (oC 22 [oB 23 (.build Lz2 []),oB 24 (.build Lz4 []),qM 25 9,qS 8 6 23,qS 3 7 24,qM 8 25])) (.seq (oS [qF 26 2 4,qL 27 26,qK 28 .neq 27 1] (oC 28 [oB 29 (.build Lz2 []),oB 30 (.build Lz4 []),qS 8 6 29,qS 3 7 30,qW 8 191])) (oS [oB 31 (.build Lz4 []),oB 10 (.alloc (.agg Lz4)),qS 3 10 31] (.seq (oS [qF 32 0 4,qL 33 32] (cY 33 (oS [qA 35 2 3,qF 36 3 4,qA 37 5 36,qM 38 2,qG 39 73 35 37 38,qM 34 39,qE 40 34 0,qE 41 34 1,qE 42 34 2,oB 11 (.alloc (.agg Lz0)),qS 5 11 40,qM 12 41,qM 13 42] (.seq (oS [qM 43 13,qK 44 .neq 43 0] (oC 44 [oB 45 (.build Lz2 []),oB 46 (.build Lz4 []),qM 47 13,qS 8 6 45,qS 3 7 46,qM 8 47])) (oS [qM 48 12,qF 49 2 10,qS 1 49 48] (oS [oB 50 (.bslice 1 [zD] 0 []),qF 51 0 11,qF 52 0 51,qL 53 52,qY 54 50 53,qF 55 0 10,qS 1 55 54] (oS [qA 57 2 3,qA 58 5 11,qD 59 74 57 58,qM 56 59,qE 60 56 0,qE 61 56 1,qE 62 56 2,oB 14 (.alloc (.agg Lz0)),qS 5 14 60,qM 15 61,qM 16 62] (.seq (oS [qM 63 16,qK 64 .neq 63 0] (oC 64 [oB 65 (.build Lz2 []),oB 66 (.build Lz4 []),qM 67 16,qS 8 6 65,qS 3 7 66,qM 8 67])) (oS [qA 68 5 14,qF 69 3 4,qS 5 69 68] (.ops [qM 70 15,qF 71 1 10,qS 1 71 70])))))))) (oS [qA 72 2 3,qF 73 3 4,qF 74 0 73,qA 75 2 74,qD 76 75 72 75,oB 17 (.alloc (.agg Lz3)),qS 2 17 76] (oS [oB 77 (.bslice 1 [zD] 0 []),qF 78 0 17,qL 79 78,qY 80 77 79,qF 81 0 10,qS 1 81 80] (.ops [qA 83 2 17,qC 84 76 83,qM 82 84,qE 85 82 0,qE 86 82 1,qF 87 3 4,qF 88 0 87,qS 2 88 85,qF 89 1 10,qS 1 89 86]))))) (oS [qA 90 2 3,qF 91 1 4,qL 92 91,qF 93 3 4,qF 94 0 93,qF 95 1 94,qL 96 95,qG 97 48 90 92 96,qF 98 2 4,qS 1 98 97] (.seq (.draw [qA 99 8 4,⟨some 100,.load 3 true (.t 10),none,[0],1⟩,⟨none,.storek 8 (.t 6) (.t 99) [.t 10],none,[],3⟩,qX 3 7 100 4,qW 8 0]) .ret)))))))
def ZFB:FnI:=⟨3,ZJx,[(6,some (8,true)),(7,some (3,true)),(8,none)]⟩
def ZIa:C:=oR [(oB 2 (.append 1 (.c (.nilsl 1)) (.t 0)))]
def ZFe:FnI:=⟨1,ZIa,[(2,none)]⟩
def ZAz:C:=.seq (oS [qM 10 4,qF 11 0 1,qL 12 11,qN 13 12,qB 14 .lss 10 13] (cX 14 0)) (.seq (.block 1 (oS [qA 17 2 1,qM 18 4,qD 19 78 17 18,qM 20 4,qI 21 1 19 20,qL 22 21] (oC 22 [qW 2 43]))) (.ops [qM 15 4,qK 16 .add 15 1,qM 4 16]))
def ZIs:C:=oS [qO 1 0,qW 2 0] (oS [qA 5 2 1,qC 6 77 5,qM 3 6] (.seq (oS [qM 7 3,qK 8 .neq 7 0] (oC 8 [qM 9 3,qM 2 9])) (.seq (oS [qW 4 0] (.block 0 (.loop [1,4] [2] ZAz))) (oR [qW 2 0]))))
def ZFg:FnI:=⟨1,ZIs,[(2,none)]⟩
def ZCt:C:=.seq (oS [qM 12 5,qM 13 1,qN 14 13,qB 15 .lss 12 14] (cX 15 0)) (.seq (.block 1 (oS [qM 18 1,qM 19 5,qI 20 1 18 19,qL 21 20,qK 22 .lss 21 1,qM 23 22,vM 24 1 23 false,vM 25 5 23 false,vI 26 1 24 25 23 false,vL 27 26 23 false,vK 28 .gtr 27 1000 23 false,qJ 29 23 28,qM 30 29,vF 31 0 2 30 false,vL 32 31 30 false,vM 33 5 30 false,vI 34 1 32 33 30 false,vL 35 34 30 false,vK 36 .lss 35 1 30 false,qJ 37 30 36] (oC 37 [qff 4]))) (.ops [qM 16 5,qK 17 .add 16 1,qM 5 17]))
def ZIi:C:=oS [qO 2 0,qff 4] (.seq (oS [qM 6 1,qN 7 6,qF 8 0 2,qL 9 8,qN 10 9,qB 11 .neq 7 10] (oC 11 [qff 4])) (.seq (oS [qW 5 0] (.block 0 (.loop [1,2,5] [4] ZCt))) (oR [qtt 4])))
def ZEz:FnI:=⟨2,ZIi,[(4,none)]⟩
def ZC1:C:=.seq (oS [qM 10 8,qM 11 2,qN 12 11,qB 13 .lss 10 12] (cX 13 0)) (.seq (.block 1 (oS [qM 16 2,qM 17 8,qI 18 1 16 17,qL 19 18,qK 20 .gtr 19 0] (cY 20 (.ops [qW 7 1]) .skip))) (.ops [qM 14 8,qK 15 .add 14 1,qM 8 15]))
def ZAV:C:=.seq (oS [qM 21 9,qM 22 2,qN 23 22,qB 24 .lss 21 23] (cX 24 2)) (.seq (.block 3 (.seq (.draw [qM 27 2,uM 28 9 [0],qI 29 1 27 28,qL 30 29,qK 31 .eql 30 0,qM 32 31,vM 33 1 32 true,wM 34 9 32 true [6],vI 35 1 33 34 32 true,vL 36 35 32 true,wF 37 0 3 32 true [6,7,8,9],wL 38 37 32 true [6,7,8,9],wM 39 9 32 true [6,7,8,9,10,11],wI 40 1 38 39 32 true [6,7,8,9],wL 41 40 32 true [6,7,8,9],vB 42 .gtr 36 41 32 true,qP 43 32 42]) (oC 43 [qW 6 3]))) (.ops [qM 25 9,qK 26 .add 25 1,qM 9 26]))
def ZIg:C:=oS [qO 3 0,qW 6 0] (oS [qW 7 2] (.seq (oS [qW 8 0] (.block 0 (.loop [1,2,3,7,8] [1,2,3,7] ZC1))) (.seq (oS [qW 9 0] (.block 2 (.loop [1,2,3,7,9] [6,7] ZAV))) (oR [qM 44 7,qM 6 44]))))
def ZFm:FnI:=⟨3,ZIg,[(6,none)]⟩
def ZCw:C:=.seq (oS [qM 8 6,qM 9 1,qN 10 9,qB 11 .lss 8 10] (cX 11 0)) (.seq (.block 1 (.draw [qM 14 5,uM 15 1 [0],uM 16 6 [0,1],uI 17 1 15 16 [0],uL 18 17 [0],uF 19 0 2 [0,1,2,3,4],uL 20 19 [0,1,2,3,4],uM 21 6 [0,1,2,3,4,5,6],uI 22 1 20 21 [0,1,2,3,4],uL 23 22 [0,1,2,3,4],oM 24 (.mx false [.t 18,.t 23]) [0],uH 25 24 [0],⟨some 26,.append 1 (.t 14) (.t 25),none,[],4⟩,qM 5 26])) (.ops [qM 12 6,qK 13 .add 12 1,qM 6 13]))
def ZII:C:=oS [qO 2 0,ZbA 4 1] (oS [oB 7 (.bslice 1 [zD] 0 []),qM 5 7] (.seq (oS [qW 6 0] (.block 0 (.loop [1,2,5,6] [5] ZCw))) (oR [qM 27 5,qM 4 27])))
def ZF1:FnI:=⟨2,ZII,[(4,none)]⟩
def ZzI:C:=.seq (oS [qM 29 11,qM 30 2,qB 31 .lss 29 30] (cX 31 0)) (.seq (.block 1 (.seq (.draw [qF 34 2 10,qL 35 34,oM 36 (.mkD 1 [zD] (iN 64) (iN 64)) [0,1],oM 37 (.build Lz1 [(0,1,(.t 36))]) [0,1],oM 38 (.bslice 3 [.list true [],zD,zD] 1 [(0,(.t 37))]) [0,1],⟨some 39,.append 3 (.t 35) (.t 38),none,[],4⟩,qF 40 2 10,qX 1 40 39 4]) (oS [qF 41 3 10,qL 42 41,oB 43 (.build Lz5 []),oB 44 (.bslice 6 [.bool false,zD,zD,zD,zD,zD] 1 [(0,(.t 43))]),oB 45 (.append 6 (.t 42) (.t 44)),qF 46 3 10,qS 1 46 45] (.ops [qF 47 4 10,qL 48 47,oB 49 (.bslice 1 [zD] 1 [(0,(iN 0))]),qY 50 48 49,qF 51 4 10,qS 1 51 50])))) (.ops [qM 32 11,qK 33 .add 32 1,qM 11 33]))
def ZAG:C:=.seq (oS [qM 55 13,qM 56 12,qN 57 56,qB 58 .lss 55 57] (cX 58 2)) (.seq (.block 3 (.seq (.draw [qF 62 2 10,qL 63 62,uM 64 12 [0,1],uM 65 13 [0,1,2],uI 66 1 64 65 [0,1],uL 67 66 [0,1],uM 68 2 [0,1,2,3,4,5],oM 69 (.bin .rem (.t 67) (.t 68)) [0,1],qI 70 3 63 69,qA 71 3 70,uM 72 12 [0,1,2,3,4,5,6,7,8,9],uM 73 13 [0,1,2,3,4,5,6,7,8,9,10],uI 74 1 72 73 [0,1,2,3,4,5,6,7,8,9],uL 75 74 [0,1,2,3,4,5,6,7,8,9],qD 76 80 71 75,qM 61 76,qE 77 61 0,uE 78 61 1 [16],oM 14 (.alloc (.agg Lz1)) [0,1,2,3,4,5,6,7,8,9,10,11,12,13,14,15,16,17],qX 3 14 77 4,qM 15 78]) (.draw [qA 79 5 10,uM 80 12 [0],uM 81 13 [0,1],uI 82 1 80 81 [0],uL 83 82 [0],uM 84 2 [0,1,2,3,4],oM 85 (.bin .rem (.t 83) (.t 84)) [0],uA 86 3 14 [0,1,2,3,4,5,6],⟨some 87,.call 81 [.t 79,.t 85,.t 86],none,[],4⟩,qX 5 10 87 4]))) (.ops [qM 59 13,qK 60 .add 59 1,qM 13 60]))
def ZJa:C:=oS [qO 3 0,oB 6 (.alloc (.agg Lz0)),qW 7 0] (oS [qA 17 2 3,qM 18 1,qM 19 2,qG 20 51 17 18 19,qM 16 20,qE 21 16 0,qE 22 16 1,oB 8 (.alloc (.agg Lz3)),qS 2 8 21,qM 9 22] (.seq (oS [qM 23 9,qK 24 .neq 23 0] (oC 24 [oB 25 (.build Lz0 []),qM 26 9,qS 5 6 25,qM 7 26])) (oS [qA 27 2 8,oB 28 (.build Lz0 [(0,2,(.t 27))]),oB 10 (.alloc (.agg Lz0)),qS 5 10 28] (.seq (oS [qW 11 0] (.block 0 (.loop [2,3,6,8,10,11] [2,3,6,8,10] ZzI))) (oS [qA 52 2 3,qA 53 2 8,qD 54 79 52 53,qM 12 54] (.seq (oS [qW 13 0] (.block 2 (.loop [2,6,10,12,13] [6,10] ZAG))) (oR [qA 88 5 10,qS 5 6 88,qW 7 0])))))))
def ZF4:FnI:=⟨3,ZJa,[(6,some (5,true)),(7,none)]⟩
def ZCL:C:=.seq (oS [qM 27 10,qM 28 2,qB 29 .lss 27 28] (cX 29 0)) (.seq (.block 1 (.ops [qF 32 0 9,qL 33 32,oB 34 (.bslice 1 [zD] 1 [(0,(iN (-1)))]),qY 35 33 34,qF 36 0 9,qS 1 36 35])) (.ops [qM 30 10,qK 31 .add 30 1,qM 10 31]))
def ZIy:C:=oS [qO 3 0,oB 6 (.alloc (.agg Lz3)),qW 7 0] (oS [qA 11 2 3,qC 12 46 11,qM 8 12] (.seq (oS [qM 13 8,qK 14 .neq 13 0] (oC 14 [oB 15 (.build Lz3 []),qM 16 8,qS 2 6 15,qM 7 16])) (.seq (oS [qA 17 2 3,qM 18 1,qM 19 2,qG 20 82 17 18 19,qU 21 20] (oC 21 [oB 22 (.build Lz3 []),qS 2 6 22,qW 7 100])) (oS [oB 23 (.bslice 1 [zD] 0 []),qM 24 1,qY 25 23 24,oB 26 (.build Lz3 [(1,1,(.t 25))]),oB 9 (.alloc (.agg Lz3)),qS 2 9 26] (.seq (oS [qW 10 0] (.block 0 (.loop [2,6,9,10] [6,9] ZCL))) (oR [qA 37 2 9,qS 2 6 37,qW 7 0]))))))
def ZFa:FnI:=⟨3,ZIy,[(6,some (2,true)),(7,none)]⟩
def ZAS:C:=oS [qB 57 .lss 56 55] (.seq (cX 57 2) (.seq (.block 3 (oS [qM 58 56,qI 59 1 54 56,qL 60 59,qM 18 58,qM 19 60] (.seq (oS [qM 61 19,qK 62 .eql 61 (-1)] (cY 62 (.exit 3) .skip)) (oS [qM 63 15,qA 64 2 5,qM 65 17,qM 66 16,qM 67 18,oB 68 (.call 86 [.t 63,.t 64,.t 65,.t 66,.t 67]),qM 13 68] (oS [qM 69 13,qK 70 .neq 69 0] (cY 70 (.exit 0) .skip)))))) (.ops [qK 71 .add 56 1,qM 56 71])))
def Zz4:C:=oS [qB 80 .lss 79 78] (.seq (cX 80 4) (.seq (.block 5 (oS [qM 81 79,qI 82 1 77 79,qL 83 82,qM 20 81,qM 21 83] (oS [qM 84 21,qK 85 .neq 84 (-1)] (cY 85 (.ops [qM 86 15,qM 87 21,qM 88 16,qM 89 20,oB 90 (.call 87 [.t 86,.t 87,.t 88,.t 89])]) .skip)))) (.ops [qK 91 .add 79 1,qM 79 91])))
def ZAT:C:=oS [qB 50 .lss 49 48] (.seq (cX 50 0) (.seq (.block 1 (oS [qM 51 49,qI 52 1 47 49,qL 53 52,qM 16 51,qM 17 53] (.seq (oS [qM 54 17,qN 55 54,qW 56 0] (.block 2 (.loop [4,5,13,15,16,17,47,48,49,54,55,56] [4,5,13,15,16,17,47,48,49] ZAS))) (oS [qM 72 4,qM 73 15,qM 74 16,qM 75 17,oB 76 (.callv (.t 72) [.t 73,.t 74,.t 75])] (oS [qM 77 17,qN 78 77,qW 79 0] (.block 4 (.loop [4,5,13,15,16,47,48,49,77,78,79] [4,5,13,15,47,48,49] Zz4))))))) (.ops [qK 92 .add 49 1,qM 49 92])))
def ZIc:C:=oS [qO 5 0,qO 7 2,oB 10 (.mov (.c (.d (.nilp)))),qW 11 0] (oS [qA 23 2 5,qM 24 1,qL 25 7,qG 26 59 23 24 25,qM 22 26,qE 27 22 0,qE 28 22 1,qM 12 27,qM 13 28] (.seq (oS [qM 29 13,qK 30 .neq 29 0] (oC 30 [qM 31 13,oB 10 (.mov (.c (.d (.nilp)))),qM 11 31])) (oS [oB 32 (.mkfn 83 [.t 7]),qM 14 32] (.seq (oS [qM 33 12,qU 34 33,qM 35 34,vM 36 3 35 false,vN 37 36 35 false,vK 38 .gtr 37 4096 35 false,qJ 39 35 38,qM 40 39,vM 41 3 40 false,vM 42 14 40 false,vD 43 84 41 42 40 false,qJ 44 40 43] (oC 44 [oB 10 (.mov (.c (.d (.nilp)))),qW 11 100])) (oS [qM 45 1,qC 46 85 45,qM 15 46] (.seq .skip (.seq (oS [qM 47 3,qN 48 47,qW 49 0] (.block 0 (.loop [4,5,13,15,47,48,49] [13,15] ZAT))) (oR [qM 93 15,qM 94 13,qM 10 93,qM 11 94]))))))))
def ZFT:FnI:=⟨5,ZIc,[(10,none),(11,none)]⟩
def ZIA:C:=.skip
def ZF3:FnI:=⟨3,ZIA,[]⟩
def ZI5:C:=oS [qff 4] (oR [qM 5 0,qM 6 1,qD 7 88 5 6,qK 8 .geq 7 0,qM 4 8])
def ZES:FnI:=⟨2,ZI5,[(4,none)]⟩
def ZIR:C:=oS [qO 4 0,qO 5 1,qO 6 2,qO 7 3,qff 8] (oR [qF 9 1 5,qL 10 9,oB 11 (.mkfn 90 [.t 6,.t 4,.t 7]),qD 12 89 10 11,qU 13 12,qM 8 13])
def ZFc:FnI:=⟨4,ZIR,[(8,none)]⟩
def ZJc:C:=oS [qO 3 0,qff 6,qW 7 0] (.seq (oS [qA 10 2 3,qC 11 39 10,qM 8 11] (oS [qM 12 8,qK 13 .neq 12 0] (oC 13 [qM 14 8,qff 6,qM 7 14]))) (oS [oB 9 (.mov (.c (.d (.fn 94 []))))] (oR [qM 15 1,qN 16 15,qF 17 0 3,qL 18 17,qN 19 18,qB 20 .eql 16 19,qM 21 20,vM 22 1 21 true,vM 23 9 21 true,vD 24 66 22 23 21 true,vU 25 24 21 true,qP 26 21 25,qM 27 26,vM 28 2 27 true,vK 29 .geq 28 1 27 true,qP 30 27 29,qM 31 30,vM 32 2 31 true,vK 33 .leq 32 8 31 true,qP 34 31 33,qM 6 34,qW 7 0])))
def ZEG:FnI:=⟨3,ZJc,[(6,none),(7,none)]⟩
def ZFh:C:=oS [qB 14 .lss 13 12] (.seq (cX 14 0) (.seq (.block 1 (oS [qM 15 13,qM 5 15] (.seq (.draw [qM 16 0,uM 17 5 [0],qI 18 1 16 17,qL 19 18,uM 20 1 [0,1,2,3],uM 21 5 [0,1,2,3,4],uI 22 1 20 21 [0,1,2,3],uL 23 22 [0,1,2,3],qB 24 .neq 19 23]) (oC 24 [qff 4])))) (.ops [qK 25 .add 13 1,qM 13 25])))
def ZIq:C:=oS [qff 4] (.seq (oS [qM 6 0,qN 7 6,qM 8 1,qN 9 8,qB 10 .neq 7 9] (oC 10 [qff 4])) (.seq (oS [qM 11 0,qN 12 11,qW 13 0] (.block 0 (.loop [0,1,12,13] [4] ZFh))) (oR [qtt 4])))
def ZGc:FnI:=⟨2,ZIq,[(4,none)]⟩
def ZJg:C:=oS [qO 2 0,qO 3 1,qff 4] (oR [qF 5 0 2,qA 6 2 5,qF 7 0 3,qA 8 2 7,qD 9 95 6 8,qM 10 9,vF 11 2 2 10 true,vL 12 11 10 true,vF 13 2 3 10 true,vL 14 13 10 true,oG 15 (.call 96 [.t 12,.t 14,(.c (.d (.fn 97 [])))]) 10 true,qP 16 10 15,qM 17 16,vF 18 3 2 17 true,vL 19 18 17 true,vF 20 3 3 17 true,vL 21 20 17 true,vD 22 98 19 21 17 true,qP 23 17 22,qM 24 23,vF 25 4 2 24 true,vL 26 25 24 true,vF 27 4 3 24 true,vL 28 27 24 true,vD 29 60 26 28 24 true,qP 30 24 29,qM 4 30])
def ZG3:FnI:=⟨2,ZJg,[(4,none)]⟩
def ZIt:C:=oS [qO 2 0,qO 3 1,qff 4] (oR [qF 5 0 2,qL 6 5,qF 7 0 3,qL 8 7,qD 9 18 6 8,qM 10 9,vF 11 1 2 10 true,vL 12 11 10 true,vF 13 1 3 10 true,vL 14 13 10 true,vD 15 18 12 14 10 true,qP 16 10 15,qM 4 16])
def ZEX:FnI:=⟨2,ZIt,[(4,none)]⟩
def ZIB:C:=oS [qO 2 0,qO 3 1,qff 4] (oR [qF 5 0 2,qL 6 5,qF 7 0 3,qL 8 7,qD 9 18 6 8,qM 10 9,vF 11 1 2 10 true,vL 12 11 10 true,vF 13 1 3 10 true,vL 14 13 10 true,vB 15 .eql 12 14 10 true,qP 16 10 15,qM 17 16,vF 18 2 2 17 true,vL 19 18 17 true,vF 20 2 3 17 true,vL 21 20 17 true,vB 22 .eql 19 21 17 true,qP 23 17 22,qM 4 23])
def ZF7:FnI:=⟨2,ZIB,[(4,none)]⟩
def ZIb:C:=oS [qff 4] (oR [qM 5 0,qM 6 1,qD 7 99 5 6,qK 8 .geq 7 0,qM 4 8])
def Zy1:FnI:=⟨2,ZIb,[(4,none)]⟩
def ZIk:C:=oS [qff 2] (oR [qM 3 0,qK 4 .lss 3 0,qM 5 4,vM 6 0 5 false,vK 7 .gtr 6 1000 5 false,qJ 8 5 7,qM 2 8])
def ZEW:FnI:=⟨1,ZIk,[(2,none)]⟩
def ZJm:C:=oS [qff 3] (oR [qM 4 0,qK 5 .geq 4 0,qM 6 5,vM 7 0 6 true,vF 8 0 1 6 true,vL 9 8 6 true,vN 10 9 6 true,vB 11 .lss 7 10 6 true,qP 12 6 11,qM 3 12])
def ZEy:FnI:=⟨2,ZJm,[(3,none)]⟩
def ZJn:C:=oS [qO 3 1,qff 4] (oR [qM 5 0,qA 6 2 3,qD 7 100 5 6,qK 8 .geq 7 0,qM 4 8])
def ZFL:FnI:=⟨2,ZJn,[(4,none)]⟩
def ZAm:C:=oS [qB 33 .lss 32 31] (.seq (cX 33 4) (.seq (.block 5 (oS [qI 34 2 30 32,qA 35 2 34,oB 8 (.alloc (.d (.agg [zD,zD]))),qS 2 8 35] (oS [qF 36 1 8,qL 37 36,qM 38 6,qB 39 .eql 37 38,qM 40 39,vM 41 5 40 true,vF 42 0 8 40 true,vL 43 42 40 true,vI 44 1 41 43 40 true,vL 45 44 40 true,vU 46 45 40 true,qP 47 40 46] (cY 47 (.exit 3) .skip)))) (.ops [qK 48 .add 32 1,qM 32 48])))
def ZBV:C:=oS [qB 23 .lss 22 21] (.seq (cX 23 2) (.seq (.block 3 (oS [qM 24 22,qM 6 24] (.seq (oS [qM 25 5,qM 26 6,qI 27 1 25 26,qL 28 27] (cY 28 (.exit 3) .skip)) (.seq (oS [qF 29 1 1,qL 30 29,qN 31 30,qW 32 0] (.block 4 (.loop [1,4,5,6,21,22,30,31,32] [1,4,5,6,21,22] ZAm))) (oS [qM 49 5,qM 50 6,qI 51 1 49 50,oA (.store 1 (.t 51) bT)] (oS [qM 52 4,qM 53 6,qH 54 53,qY 55 52 54,qM 4 55] (.exit 1))))))) (.ops [qK 56 .add 22 1,qM 22 56])))
def ZBH:C:=.seq (oS [qM 13 4,qN 14 13,qF 15 0 1,qL 16 15,qN 17 16,qB 18 .lss 14 17] (cX 18 0)) (.block 1 (.seq .skip (.seq (oS [qF 19 0 1,qL 20 19,qN 21 20,qW 22 0] (.block 2 (.loop [1,4,5,21,22] [1,4,5] ZBV))) (oR [ZbA 2 1,qff 3]))))
def ZJu:C:=oS [qO 1 0,ZbA 2 1,qff 3] (oS [ZbA 4 1] (oS [qF 9 0 1,qL 10 9,qN 11 10,oB 12 (.mkslice 1 [.bool false] (.t 11) (.t 11)),qM 5 12] (.seq .skip (.seq (.block 0 (.loop [1,4,5] [2,3,4] ZBH)) (oR [qM 57 4,qM 2 57,qtt 3])))))
def ZFA:FnI:=⟨1,ZJu,[(2,none),(3,none)]⟩
def ZI9:C:=oS [qff 2] (oR [qM 3 0,qK 4 .lss 3 1,qM 5 4,vM 6 0 5 false,vK 7 .gtr 6 1000 5 false,qJ 8 5 7,qM 2 8])
def ZFj:FnI:=⟨1,ZI9,[(2,none)]⟩
def ZrS:C:=.seq (oS [qM 63 8,qM 64 7,qN 65 64,qB 66 .lss 63 65] (cX 66 0)) (.seq (.block 1 (.seq (.draw [qF 69 0 6,qF 70 1 69,qL 71 70,uM 72 8 [0,1,2],qI 73 1 71 72,qL 74 73,uM 75 7 [0,1,2,3,4,5],uM 76 8 [0,1,2,3,4,5,6],uI 77 1 75 76 [0,1,2,3,4,5],uL 78 77 [0,1,2,3,4,5],qB 79 .gtr 74 78]) (oC 79 [qW 4 190]))) (.ops [qM 67 8,qK 68 .add 67 1,qM 8 68]))
def ZIu:C:=oS [qO 2 0,qO 3 1,qW 4 0] (oS [qA 9 2 2,qC 10 46 9,qM 5 10] (.seq (oS [qM 11 5,qK 12 .neq 11 0] (oC 12 [qM 13 5,qM 4 13])) (.seq (oS [qA 14 2 2,qF 15 1 3,qL 16 15,qD 17 47 14 16,qU 18 17] (oC 18 [qW 4 190])) (oS [qF 19 3 3,qA 20 5 19,oB 6 (.alloc (.agg Lz0)),qS 5 6 20] (.seq (oS [qF 21 0 3,qL 22 21,qM 23 22,vA 24 2 2 23 true,vA 25 5 6 23 true,vD 26 101 24 25 23 true,vK 27 .neq 26 0 23 true,qP 28 23 27,qM 29 28,vF 30 0 3 29 false,vL 31 30 29 false,vU 32 31 29 false,vM 33 32 29 false,vF 34 2 6 33 true,vL 35 34 33 true,vN 36 35 33 true,vK 37 .gtr 36 0 33 true,vM 38 37 33 true,vF 39 3 6 38 false,vL 40 39 38 false,vN 41 40 38 false,vK 42 .gtr 41 0 38 false,vJ 43 38 42 33 true,vM 44 43 33 true,vF 45 4 6 44 false,vL 46 45 44 false,vN 47 46 44 false,vK 48 .gtr 47 0 44 false,vJ 49 44 48 33 true,vM 50 49 33 true,vA 51 2 2 50 false,vF 52 0 6 50 false,vA 53 2 52 50 false,vD 54 102 51 53 50 false,vK 55 .neq 54 0 50 false,vJ 56 50 55 33 true,oG 57 (.pick (.t 33) (.t 56) bF) 29 false,qJ 58 29 57] (oC 58 [qW 4 190])) (oS [qA 59 2 2,qF 60 1 3,qL 61 60,qD 62 49 59 61,qM 7 62] (.seq (oS [qW 8 0] (.block 0 (.loop [2,3,6,7,8] [2,3,4,6] ZrS))) (.seq (.seq (.draw [qA 80 2 2,uF 81 1 3 [0],uL 82 81 [0],uF 83 0 6 [0,1,2],uF 84 1 83 [0,1,2],uL 85 84 [0,1,2],qG 86 48 80 82 85,uF 87 2 3 [0,1,2,3,4,5,6],uL 88 87 [0,1,2,3,4,5,6],qB 89 .neq 86 88]) (oC 89 [qW 4 190])) (oR [qW 4 0])))))))))
def ZEr:FnI:=⟨2,ZIu,[(4,none)]⟩
def ZIX:C:=oS [qO 3 0,qO 4 1,oB 6 (.alloc (.agg Lz0)),qW 7 0,qW 8 0] (oS [qA 10 2 3,qA 11 5 4,qD 12 101 10 11,qM 9 12] (.seq (oS [qM 13 9,qK 14 .neq 13 0] (oC 14 [oB 15 (.build Lz0 []),qM 16 9,qS 5 6 15,qW 7 0,qM 8 16])) (oR [qA 17 2 3,qA 18 5 4,qM 19 2,qG 20 103 17 18 19,qE 21 20 0,qE 22 20 1,qE 23 20 2,qS 5 6 21,qM 7 22,qM 8 23])))
def ZEL:FnI:=⟨3,ZIX,[(6,some (5,true)),(7,none),(8,none)]⟩
def ZAA:C:=.seq (oS [qM 66 15,qM 67 14,qN 68 67,qB 69 .lss 66 68] (cX 69 2)) (.seq (.block 3 (.seq (oS [qM 72 11,qM 73 14,qM 74 15,qI 75 1 73 74,qL 76 75,qD 77 16 72 76,qU 78 77,qM 79 78,vM 80 12 79 false,vM 81 14 79 false,vM 82 15 79 false,vI 83 1 81 82 79 false,vL 84 83 79 false,vD 85 16 80 84 79 false,qJ 86 79 85] (cY 86 (.exit 3) .skip)) (.seq (.draw [qF 88 2 3,qL 89 88,uM 90 13 [0,1],qI 91 3 89 90,qA 92 3 91,uM 93 14 [0,1,2,3,4],uM 94 15 [0,1,2,3,4,5],uI 95 1 93 94 [0,1,2,3,4],uL 96 95 [0,1,2,3,4],qD 97 80 92 96,qM 87 97,qE 98 87 0,uE 99 87 1 [11],oM 16 (.alloc (.agg Lz1)) [0,1,2,3,4,5,6,7,8,9,10,11,12],qX 3 16 98 4,qM 17 99]) (.seq (oS [qM 100 17,qK 101 .neq 100 0] (oC 101 [oB 102 (.build Lz0 []),qS 5 4 102,ZbA 5 1,qW 6 130])) (oS [qA 103 5 3,qM 104 13,qA 105 3 16,qG 106 81 103 104 105,qS 5 3 106] (.ops [qM 107 12,qM 108 14,qM 109 15,qI 110 1 108 109,qL 111 110,qH 112 111,qY 113 107 112,qM 12 113])))))) (.ops [qM 70 15,qK 71 .add 70 1,qM 15 71]))
def ZAE:C:=.seq (oS [qM 40 13,qM 41 8,qN 42 41,qB 43 .lss 40 42] (cX 43 0)) (.seq (.block 1 (.seq (oS [qM 46 8,qM 47 13,qI 48 1 46 47,qL 49 48,qK 50 .lss 49 0,qM 51 50,vM 52 10 51 false,vM 53 8 51 false,vM 54 13 51 false,vI 55 1 53 54 51 false,vL 56 55 51 false,vD 57 16 52 56 51 false,vU 58 57 51 false,qJ 59 51 58] (cY 59 (.exit 1) .skip)) (.seq (.draw [qA 60 2 2,uM 61 8 [0],uM 62 13 [0,1],uI 63 1 61 62 [0],uL 64 63 [0],qD 65 104 60 64,qM 14 65]) (oS [qW 15 0] (.block 2 (.loop [2,3,4,8,10,11,12,13,14,15] [2,3,4,5,6,8,10,11,12,13] ZAA)))))) (.ops [qM 44 13,qK 45 .add 44 1,qM 13 45]))
def ZIn:C:=oS [qO 2 0,qO 3 1,oB 4 (.alloc (.agg Lz0)),ZbA 5 1,qW 6 0] (oS [qA 18 2 2,qA 19 5 3,qD 20 101 18 19,qM 7 20] (.seq (oS [qM 21 7,qK 22 .neq 21 0] (oC 22 [oB 23 (.build Lz0 []),qM 24 7,qS 5 4 23,ZbA 5 1,qM 6 24])) (oS [qF 25 0 3,qF 26 0 25,qL 27 26,qM 8 27] (oS [qF 29 0 3,qA 30 2 29,qC 31 76 30,qM 28 31,qE 32 28 0,qE 33 28 1,oB 9 (.alloc (.agg Lz3)),qS 2 9 32,qM 10 33] (oS [qA 34 2 9,qF 35 0 3,qS 2 35 34] (oS [qA 36 2 2,qA 37 2 9,qD 38 79 36 37,oB 39 (.bslice 1 [zD] 0 []),qM 11 38,qM 12 39] (.seq (oS [qW 13 0] (.block 0 (.loop [2,3,4,8,10,11,12,13] [3,4,5,6,10] ZAE))) (oR [qA 114 5 3,qM 115 10,qS 5 4 114,qM 5 115,qW 6 0]))))))))
def ZFn:FnI:=⟨2,ZIn,[(4,some (5,true)),(5,none),(6,none)]⟩
def ZAN:C:=.seq (oS [qM 17 6,qF 18 0 5,qL 19 18,qN 20 19,qB 21 .lss 17 20] (cX 21 0)) (.seq (.block 1 (oS [qA 24 2 2,qA 25 2 5,qD 26 79 24 25,qM 7 26] (oS [qF 27 0 5,qL 28 27,qM 29 6,qI 30 1 28 29,qL 31 30,qK 32 .eql 31 (-1),qM 33 32,vM 34 7 33 true,vN 35 34 33 true,vK 36 .gtr 35 0 33 true,qP 37 33 36] (cY 37 (.draw [qF 38 0 5,qL 39 38,uM 40 6 [0,1],uM 41 7 [0,1,2],oM 42 (.iaddr 1 (.t 41) (iN 0)) [0,1,2],uL 43 42 [0,1,2],qI 44 1 39 40,qX 1 44 43 4]) .skip)))) (.ops [qM 22 6,qK 23 .add 22 1,qM 6 23]))
def ZIF:C:=oS [qO 2 0,qO 3 1,oB 4 (.alloc (.agg Lz3))] (.seq (.draw [oB 8 (.bslice 1 [zD] 0 []),uF 9 0 3 [0],uL 10 9 [0],qY 11 8 10,uS 12 [0,1,2,3],uF 13 1 3 [0,1,2,3,4],uL 14 13 [0,1,2,3,4],qY 15 12 14,oB 16 (.build Lz3 [(0,1,(.t 11)),(1,1,(.t 15))]),oM 5 (.alloc (.agg Lz3)) [0,1,2,3,4,5,6,7,8],qX 2 5 16 4]) (.seq (oS [qW 6 0] (.block 0 (.loop [2,4,5,6] [4,5] ZAN))) (oR [qA 45 2 5,qS 2 4 45])))
def ZEZ:FnI:=⟨2,ZIF,[(4,some (2,true))]⟩
def ZBt:C:=.seq (oS [qM 25 7,qF 26 0 1,qL 27 26,qN 28 27,qB 29 .lss 25 28] (cX 29 2)) (.seq (.block 3 (.seq (oS [qF 32 0 1,qL 33 32,qM 34 7,qI 35 1 33 34,qL 36 35,qM 37 6,qB 38 .neq 36 37] (cY 38 (.exit 3) .skip)) (.seq (.draw [qF 39 1 4,qL 40 39,uM 41 6 [0,1],uF 42 1 1 [0,1,2],uL 43 42 [0,1,2],uM 44 6 [0,1,2,3,4],uI 45 1 43 44 [0,1,2],uL 46 45 [0,1,2],oM 47 (.bin .sub (.t 46) (iN 1)) [0,1,2],qI 48 1 40 41,qX 1 48 47 4]) (oS [qF 49 1 4,qL 50 49,qM 51 6,qI 52 1 50 51,qL 53 52,qK 54 .eql 53 0] (cY 54 (oS [qF 55 0 4,qL 56 55,qM 57 7,qI 58 1 56 57,qR 1 58 (-1)] (.ops [qM 59 5,qM 60 6,qH 61 60,qY 62 59 61,qM 5 62])) .skip))))) (.ops [qM 30 7,qK 31 .add 30 1,qM 7 31]))
def ZAl:C:=.seq (oS [qM 18 6,qF 19 1 1,qL 20 19,qN 21 20,qB 22 .lss 18 21] (cX 22 0)) (.seq (.block 1 (oS [qW 7 0] (.block 2 (.loop [1,2,4,5,6,7] [1,2,4,5,6] ZBt)))) (.ops [qM 23 6,qK 24 .add 23 1,qM 6 24]))
def ZIZ:C:=oS [qO 1 0,oB 2 (.alloc (.agg Lz3)),ZbA 3 1] (.seq (.draw [oB 8 (.bslice 1 [zD] 0 []),uF 9 0 1 [0],uL 10 9 [0],qY 11 8 10,uS 12 [0,1,2,3],uF 13 1 1 [0,1,2,3,4],uL 14 13 [0,1,2,3,4],qY 15 12 14,oB 16 (.build Lz3 [(0,1,(.t 11)),(1,1,(.t 15))]),uS 17 [0,1,2,3,4,5,6,7,8],oM 4 (.alloc (.agg Lz3)) [0,1,2,3,4,5,6,7,8,9],qX 2 4 16 4,qM 5 17]) (.seq (oS [qW 6 0] (.block 0 (.loop [1,2,4,5,6] [2,4,5] ZAl))) (oR [qA 63 2 4,qM 64 5,qS 2 2 63,qM 3 64])))
def ZEY:FnI:=⟨1,ZIZ,[(2,some (2,true)),(3,none)]⟩
def ZBQ:C:=.seq (oS [qM 17 3,qF 18 0 1,qL 19 18,qN 20 19,qB 21 .lss 17 20] (cX 21 0)) (.seq (.block 1 (oS [qF 24 0 1,qL 25 24,qM 26 3,qI 27 1 25 26,qL 28 27,qK 29 .lss 28 0,qM 30 29,vF 31 0 1 30 false,vL 32 31 30 false,vM 33 3 30 false,vI 34 1 32 33 30 false,vL 35 34 30 false,vK 36 .gtr 35 1000 30 false,qJ 37 30 36] (oC 37 [qW 2 41]))) (.ops [qM 22 3,qK 23 .add 22 1,qM 3 23]))
def ZBx:C:=.seq (oS [qM 69 6,qM 70 4,qB 71 .lss 69 70] (cX 71 4)) (.seq (.block 5 (.seq (.draw [qF 74 1 1,qL 75 74,uM 76 6 [0,1],qI 77 2 75 76,qA 78 2 77,uA 79 2 5 [0,1,2,3,4],oB 80 (.eqv [false,false] false (.t 78) (.t 79))]) (oC 80 [qW 2 42]))) (.ops [qM 72 6,qK 73 .add 72 1,qM 6 73]))
def ZzA:C:=.seq (oS [qM 38 4,qF 39 1 1,qL 40 39,qN 41 40,qB 42 .lss 38 41] (cX 42 2)) (.seq (.block 3 (oS [qF 45 1 1,qL 46 45,qM 47 4,qI 48 2 46 47,qA 49 2 48,oB 5 (.alloc (.d (.agg [zD,zD]))),qS 2 5 49] (.seq (oS [qA 50 2 1,qF 51 0 5,qL 52 51,qD 53 105 50 52,qU 54 53,qM 55 54,vA 56 2 1 55 false,vF 57 1 5 55 false,vL 58 57 55 false,vD 59 105 56 58 55 false,vU 60 59 55 false,qJ 61 55 60,qM 62 61,vF 63 0 5 62 false,vL 64 63 62 false,vF 65 1 5 62 false,vL 66 65 62 false,vB 67 .eql 64 66 62 false,qJ 68 62 67] (oC 68 [qW 2 42])) (oS [qW 6 0] (.block 4 (.loop [1,4,5,6] [1,2,4] ZBx)))))) (.ops [qM 43 4,qK 44 .add 43 1,qM 4 44]))
def ZJw:C:=oS [qO 1 0,qW 2 0] (.seq (oS [qF 7 0 1,qL 8 7,qN 9 8,qK 10 .gtr 9 64,qM 11 10,vF 12 1 1 11 false,vL 13 12 11 false,vN 14 13 11 false,vK 15 .gtr 14 256 11 false,qJ 16 11 15] (oC 16 [qW 2 40])) (.seq (oS [qW 3 0] (.block 0 (.loop [1,3] [1,2] ZBQ))) (.seq (oS [qW 4 0] (.block 2 (.loop [1,4] [2] ZzA))) (oR [qW 2 0]))))
def ZEx:FnI:=⟨1,ZJw,[(2,none)]⟩
def ZzL:C:=.seq (oS [qM 20 7,qF 21 1 2,qL 22 21,qN 23 22,qB 24 .lss 20 23] (cX 24 2)) (.seq (.block 3 (oS [qF 27 1 2,qL 28 27,qM 29 7,qI 30 2 28 29,qA 31 2 30,oB 8 (.alloc (.d (.agg [zD,zD]))),qS 2 8 31] (oS [qF 32 0 8,qL 33 32,qM 34 1,qB 35 .eql 33 34,qM 36 35,vM 37 5 36 false,vF 38 0 8 36 false,vL 39 38 36 false,vI 40 1 37 39 36 false,vL 41 40 36 false,qJ 42 36 41] (cY 42 (.ops [qM 43 5,qF 44 1 8,qL 45 44,qI 46 1 43 45,oA (.store 1 (.t 46) bT)]) .skip)))) (.ops [qM 25 7,qK 26 .add 25 1,qM 7 26]))
def ZCk:C:=.seq (oS [qM 13 6,qF 14 0 2,qL 15 14,qN 16 15,qB 17 .lss 13 16] (cX 17 0)) (.seq (.block 1 (oS [qW 7 0] (.block 2 (.loop [1,2,5,6,7] [1,2,5,6] ZzL)))) (.ops [qM 18 6,qK 19 .add 18 1,qM 6 19]))
def ZJj:C:=oS [qO 2 0,ZbA 4 1] (oS [qF 9 0 2,qL 10 9,qN 11 10,oB 12 (.mkslice 1 [.bool false] (.t 11) (.t 11)),qM 5 12] (.seq (oS [qW 6 0] (.block 0 (.loop [1,2,5,6] [5] ZCk))) (oR [qM 47 5,qM 4 47])))
def ZFQ:FnI:=⟨2,ZJj,[(4,none)]⟩
def Zz6:C:=.seq (oS [qM 8 6,qF 9 1 3,qL 10 9,qN 11 10,qB 12 .lss 8 11] (cX 12 0)) (.seq (.block 1 (oS [qF 15 1 3,qL 16 15,qM 17 6,qI 18 1 16 17,qL 19 18,qK 20 .gtr 19 0,qM 21 20,vF 22 0 3 21 true,vL 23 22 21 true,vM 24 6 21 true,vD 25 16 23 24 21 true,vU 26 25 21 true,qP 27 21 26,qM 28 27,vA 29 2 2 28 true,vA 30 2 3 28 true,vM 31 6 28 true,vG 32 106 29 30 31 28 true,qP 33 28 32] (cY 33 (.ops [qM 34 5,qM 35 6,qH 36 35,qY 37 34 36,qM 5 37]) .skip))) (.ops [qM 13 6,qK 14 .add 13 1,qM 6 14]))
def ZI8:C:=oS [qO 2 0,qO 3 1,ZbA 4 1] (oS [oB 7 (.bslice 1 [zD] 0 []),qM 5 7] (.seq (oS [qW 6 0] (.block 0 (.loop [2,3,5,6] [5] Zz6))) (oR [qM 38 5,qM 4 38])))
def ZEN:FnI:=⟨2,ZI8,[(4,none)]⟩
def ZBO:C:=.seq (oS [qM 34 8,qF 35 0 2,qL 36 35,qN 37 36,qB 38 .lss 34 37] (cX 38 0)) (.seq (.block 1 (oS [qM 41 8,qF 42 2 2,qL 43 42,qF 44 0 2,qL 45 44,qN 46 45,qB 47 .rem 43 46,qB 48 .eql 41 47] (cY 48 (.ops [qF 49 0 7,qL 50 49,qM 51 1,qH 52 51,qY 53 50 52,qF 54 0 7,qS 1 54 53]) (.draw [qF 55 0 7,qL 56 55,uF 57 0 2 [0,1],uL 58 57 [0,1],uM 59 8 [0,1,2,3],uI 60 1 58 59 [0,1],uL 61 60 [0,1],uH 62 61 [0,1],⟨some 63,.append 1 (.t 56) (.t 62),none,[],4⟩,qF 64 0 7,qX 1 64 63 4])))) (.ops [qM 39 8,qK 40 .add 39 1,qM 8 40]))
def ZIY:C:=oS [qO 2 0,oB 4 (.alloc (.agg Lz1)),qW 5 0] (.seq (oS [qA 9 3 2,qC 10 107 9,qU 11 10] (oC 11 [oB 12 (.build Lz1 []),qS 3 4 12,qW 5 120])) (oS [qF 13 2 2,qL 14 13,qF 15 1 2,qL 16 15,qB 17 .sub 14 16,qM 6 17] (.seq (oS [qM 18 6,qK 19 .lss 18 0,qM 20 19,vM 21 6 20 false,vF 22 0 2 20 false,vL 23 22 20 false,vN 24 23 20 false,vB 25 .geq 21 24 20 false,qJ 26 20 25] (oC 26 [oB 27 (.build Lz1 []),qS 3 4 27,qW 5 121])) (oS [qF 28 1 2,qL 29 28,qF 30 2 2,qL 31 30,qK 32 .add 31 1,oB 33 (.build Lz1 [(1,1,(.t 29)),(2,1,(.t 32))]),oB 7 (.alloc (.agg Lz1)),qS 3 7 33] (.seq (oS [qW 8 0] (.block 0 (.loop [1,2,4,7,8] [4,7] ZBO))) (oR [qA 65 3 7,qS 3 4 65,qW 5 0]))))))
def ZFS:FnI:=⟨2,ZIY,[(4,some (3,true)),(5,none)]⟩
def ZI3:C:=oS [qO 3 0,qO 5 2,oB 6 (.alloc (.agg Lz0))] (oS [oB 8 (.bslice 3 [.list true [],zD,zD] 0 []),qF 9 2 3,qL 10 9,oB 11 (.append 3 (.t 8) (.t 10)),qM 7 11] (oS [qM 12 7,qM 13 1,qA 14 3 5,qI 15 3 12 13,qS 3 15 14] (oS [qM 16 7,qF 17 2 3,qS 1 17 16] (oR [qA 18 5 3,qS 5 6 18]))))
def ZDc:FnI:=⟨3,ZI3,[(6,some (5,true))]⟩
def ZB7:C:=.seq (oS [qM 8 7,qM 9 1,qN 10 9,qB 11 .lss 8 10] (cX 11 0)) (.seq (.block 1 (oS [qM 14 1,qM 15 7,qI 16 1 14 15,qL 17 16,qK 18 .lss 17 1,qM 19 18,vM 20 1 19 false,vM 21 7 19 false,vI 22 1 20 21 19 false,vL 23 22 19 false,vK 24 .gtr 23 1000 19 false,qJ 25 19 24] (oC 25 [qff 6]))) (.ops [qM 12 7,qK 13 .add 12 1,qM 7 13]))
def ZJb:C:=oS [qO 3 0,qff 6] (.seq (oS [qW 7 0] (.block 0 (.loop [1,2,3,7] [1,2,3,6] ZB7))) (oR [qM 26 1,qN 27 26,qF 28 0 3,qL 29 28,qN 30 29,qB 31 .eql 27 30,qM 32 31,vM 33 2 32 true,vK 34 .geq 33 1 32 true,qP 35 32 34,qM 36 35,vM 37 2 36 true,vK 38 .leq 37 8 36 true,qP 39 36 38,qM 6 39]))
def ZFK:FnI:=⟨3,ZJb,[(6,none)]⟩
def ZI6:C:=oS [qff 3] (oR [qM 4 0,qN 5 4,qL 6 1,qB 7 .neq 5 6,qM 3 7])
def ZEM:FnI:=⟨2,ZI6,[(3,none)]⟩
def ZIQ:C:=oS [qff 4] (oR [qM 5 0,qM 6 1,qD 7 108 5 6,qK 8 .geq 7 0,qM 4 8])
def ZFu:FnI:=⟨2,ZIQ,[(4,none)]⟩
def ZA9:C:=oS [qB 20 .lss 19 18] (.seq (cX 20 0) (.seq (.block 1 (oS [qM 21 19,qM 4 21] (.ops [qM 22 3,qZ 23 22,qF 24 3 23,qL 25 24,qM 26 4,qI 27 1 25 26,qR 1 27 (-1)]))) (.ops [qK 28 .add 19 1,qM 19 28])))
def ZIK:C:=oS [oB 2 (.mov (.c (.d (.nilp))))] (.seq (.draw [qM 5 0,uM 6 0 [0],uN 7 6 [0],oM 8 (.mkslice 1 [zD] (.t 7) (.t 7)) [0],uM 9 0 [0,1,2,3],uN 10 9 [0,1,2,3],oM 11 (.mkslice 2 [zD,zD] (.t 10) (.t 10)) [0,1,2,3],uM 12 0 [0,1,2,3,4,5,6],uN 13 12 [0,1,2,3,4,5,6],oM 14 (.mkslice 1 [zD] (.t 13) (.t 13)) [0,1,2,3,4,5,6],oB 15 (.build [(.nilsl 1),(.nilsl 1),(.nilsl 2),(.nilsl 1)] [(0,1,(.t 5)),(1,1,(.t 8)),(2,1,(.t 11)),(3,1,(.t 14))]),qO 16 15,qM 3 16]) (.seq (oS [qM 17 0,qN 18 17,qW 19 0] (.block 0 (.loop [3,18,19] [3] ZA9))) (oR [qM 29 3,qM 2 29])))
def ZEC:FnI:=⟨1,ZIK,[(2,none)]⟩
def ZIp:C:=oS [qO 6 1,qW 10 0] (oS [qM 12 2,qM 13 4,qI 14 1 12 13,qL 15 14,qM 11 15] (.seq (.block 0 (oS [qM 17 11,qK 18 .lss 17 (-1),qM 19 18,vM 20 11 19 false,vM 21 0 19 false,vZ 22 21 19 false,vF 23 0 22 19 false,vL 24 23 19 false,vN 25 24 19 false,vB 26 .geq 20 25 19 false,qJ 27 19 26,qM 16 27] (cY 16 (oR [qW 10 101]) (oS [qM 29 2,qM 30 4,oB 31 (.slice 1 (.t 29) none (some (.t 30)) none),qM 32 11,qD 33 55 31 32,qM 28 33] (cY 28 (oR [qW 10 102]) (.seq (.draw [qM 35 0,qZ 36 35,qF 37 1 36,qL 38 37,uM 39 11 [0,1,2,3],qI 40 1 38 39,qL 41 40,uM 42 0 [0,1,2,3,4,5,6],uZ 43 42 [0,1,2,3,4,5,6],uF 44 0 43 [0,1,2,3,4,5,6],uL 45 44 [0,1,2,3,4,5,6],uM 46 11 [0,1,2,3,4,5,6,7,8,9,10],uI 47 1 45 46 [0,1,2,3,4,5,6],uL 48 47 [0,1,2,3,4,5,6],qB 49 .geq 41 48,qM 34 49]) (cY 34 (oR [qW 10 105]) (oS [qM 51 0,qZ 52 51,qF 53 1 52,qL 54 53,qM 55 11,qI 56 1 54 55,qL 57 56,qK 58 .gtr 57 0,qM 59 58,vM 60 0 59 true,vZ 61 60 59 true,vF 62 2 61 59 true,vL 63 62 59 true,vM 64 11 59 true,vI 65 2 63 64 59 true,vA 66 2 65 59 true,vM 67 3 59 true,vK 68 .sub 67 1 59 true,vM 69 4 59 true,oG 70 (.build [zI,zI] [(0,1,(.t 68)),(1,1,(.t 69))]) 59 true,oG 71 (.eqv [false,false] true (.t 66) (.t 70)) 59 true,qP 72 59 71,qM 50 72] (cY 50 (oR [qW 10 104]) (oS [qM 74 0,qZ 75 74,qF 76 1 75,qL 77 76,qM 78 11,qI 79 1 77 78,qL 80 79,qK 81 .eql 80 0,qM 82 81,vM 83 0 82 true,vA 84 2 6 82 true,vM 85 11 82 true,vM 86 3 82 true,oG 87 (.call 56 [.t 83,.t 84,.t 85,.t 86]) 82 true,vU 88 87 82 true,qP 89 82 88,qM 73 89] (oC 73 [qW 10 103]))))))))))) (oR [qW 10 0])))
def ZFv:FnI:=⟨5,ZIp,[(10,none)]⟩
def ZJr:C:=oS [qM 8 0,qZ 9 8,qF 10 1 9,qL 11 10,qM 12 1,qI 13 1 11 12,qL 14 13,qK 15 .add 14 1,qI 16 1 11 12,qS 1 16 15] (oS [qM 17 0,qZ 18 17,qF 19 2 18,qL 20 19,qM 21 1,qM 22 2,qM 23 3,oB 24 (.build [zI,zI] [(0,1,(.t 22)),(1,1,(.t 23))]),qI 25 2 20 21,qS 2 25 24] (.seq (.draw [qM 26 0,qZ 27 26,qF 28 1 27,qL 29 28,uM 30 1 [0,1,2,3],qI 31 1 29 30,qL 32 31,uM 33 0 [0,1,2,3,4,5,6],uZ 34 33 [0,1,2,3,4,5,6],uF 35 0 34 [0,1,2,3,4,5,6],uL 36 35 [0,1,2,3,4,5,6],uM 37 1 [0,1,2,3,4,5,6,7,8,9,10],uI 38 1 36 37 [0,1,2,3,4,5,6],uL 39 38 [0,1,2,3,4,5,6],qB 40 .eql 32 39]) (cY 40 (.ops [qM 41 0,qZ 42 41,qF 43 3 42,qL 44 43,qM 45 1,qM 46 2,qK 47 .add 46 1,qI 48 1 44 45,qS 1 48 47]) .skip)))
def ZFo:FnI:=⟨4,ZJr,[]⟩
def ZzR:C:=oS [qB 9 .lss 8 7] (.seq (cX 9 0) (.seq (.block 1 (oS [qM 10 8,qM 5 10] (oS [qM 11 1,qM 12 0,qM 13 5,qI 14 1 12 13,qL 15 14,qB 16 .eql 11 15] (oC 16 [qM 17 5,qM 4 17])))) (.ops [qK 18 .add 8 1,qM 8 18])))
def ZIH:C:=oS [qW 4 0] (.seq (oS [qM 6 0,qN 7 6,qW 8 0] (.block 0 (.loop [0,1,7,8] [4] ZzR))) (oR [qW 4 (-1)]))
def ZFl:FnI:=⟨2,ZIH,[(4,none)]⟩
def ZJd:C:=oS [qff 4] (oR [qM 5 0,qM 6 1,qD 7 109 5 6,qK 8 .geq 7 0,qM 4 8])
def ZDB:FnI:=⟨2,ZJd,[(4,none)]⟩
def ZI2:C:=oS [qO 4 0,qff 5] (oR [qF 6 1 4,qL 7 6,qL 8 1,qB 9 .eql 7 8,qM 10 9,vL 11 2 10 true,vF 12 0 4 10 true,vL 13 12 10 true,vL 14 3 10 true,vG 15 91 11 13 14 10 true,vU 16 15 10 true,qP 17 10 16,qM 5 17])
def ZFF:FnI:=⟨4,ZI2,[(5,none)]⟩
def ZJl:C:=oS [qff 6] (oR [qM 7 0,qZ 8 7,qF 9 3 8,qL 10 9,qM 11 1,qI 12 1 10 11,qL 13 12,qK 14 .geq 13 0,qM 15 14,vM 16 0 15 true,vZ 17 16 15 true,vF 18 3 17 15 true,vL 19 18 15 true,vM 20 1 15 true,vI 21 1 19 20 15 true,vL 22 21 15 true,vM 23 2 15 true,vB 24 .leq 22 23 15 true,qP 25 15 24,qM 6 25])
def ZE5:FnI:=⟨3,ZJl,[(6,none)]⟩
def ZBE:C:=oS [qB 14 .lss 13 12] (.seq (cX 14 0) (.seq (.block 1 (oS [qI 15 2 11 13,qA 16 2 15,oB 7 (.alloc (.d (.agg [zD,zD]))),qS 2 7 16] (oS [qM 18 1,qA 19 2 7,qV 20 18 19,qM 17 20,qE 21 17 0,qE 22 17 1,qM 8 21,qM 9 22] (oS [qM 23 9] (cY 23 (.ops [qM 24 5,qM 25 8,qH 26 25,qY 27 24 26,qM 5 27]) .skip))))) (.ops [qK 28 .add 13 1,qM 13 28])))
def ZIo:C:=oS [qO 2 0,ZbA 4 1] (oS [ZbA 5 1] (.seq (oS [qF 10 1 2,qL 11 10,qN 12 11,qW 13 0] (.block 0 (.loop [1,5,11,12,13] [5] ZBE))) (oS [qM 29 5,qC 30 110 29] (oR [qM 31 5,qM 4 31]))))
def ZEw:FnI:=⟨2,ZIo,[(4,none)]⟩
def ZIE:C:=oS [qff 2] (oR [qM 3 0,qK 4 .lss 3 1,qM 5 4,vM 6 0 5 false,vK 7 .gtr 6 1000 5 false,qJ 8 5 7,qM 2 8])
def ZFC:FnI:=⟨1,ZIE,[(2,none)]⟩
def ZIv:C:=oS [qO 2 0,qO 3 1,qff 4] (oR [qF 5 0 2,qL 6 5,qF 7 0 3,qL 8 7,qD 9 60 6 8,qM 10 9,vF 11 1 2 10 true,vL 12 11 10 true,vF 13 1 3 10 true,vL 14 13 10 true,vD 15 60 12 14 10 true,qP 16 10 15,qM 4 16])
def ZHk:FnI:=⟨2,ZIv,[(4,none)]⟩
def ZEA:C:=oS [qB 18 .lss 17 16] (.seq (cX 18 0) (.seq (.block 1 (oS [qM 19 17,qI 20 3 15 17,qA 21 3 20,oB 8 (.alloc (.agg Lz1)),qM 7 19,qS 3 8 21] (oS [qM 22 1,qM 23 7,qI 24 3 22 23,qA 25 3 24,oB 9 (.alloc (.agg Lz1)),qS 3 9 25] (oS [qM 26 2,qA 27 3 8,qA 28 3 9,oB 29 (.callv (.t 26) [.t 27,.t 28]),qU 30 29] (oC 30 [qff 6]))))) (.ops [qK 31 .add 17 1,qM 17 31])))
def ZIL:C:=oS [qff 6] (.seq (oS [qM 10 0,qN 11 10,qM 12 1,qN 13 12,qB 14 .neq 11 13] (oC 14 [qff 6])) (.seq (oS [qM 15 0,qN 16 15,qW 17 0] (.block 0 (.loop [1,2,15,16,17] [6] ZEA))) (oR [qtt 6])))
def ZGI:FnI:=⟨3,ZIL,[(6,none)]⟩
def ZJq:C:=oS [qO 2 0,qO 3 1,qff 4] (oR [qF 5 0 2,qL 6 5,qF 7 0 3,qL 8 7,qD 9 60 6 8,qM 10 9,vF 11 1 2 10 true,vL 12 11 10 true,vF 13 1 3 10 true,vL 14 13 10 true,vB 15 .eql 12 14 10 true,qP 16 10 15,qM 17 16,vF 18 2 2 17 true,vL 19 18 17 true,vF 20 2 3 17 true,vL 21 20 17 true,vB 22 .eql 19 21 17 true,qP 23 17 22,qM 4 23])
def ZHd:FnI:=⟨2,ZJq,[(4,none)]⟩
def ZEB:C:=oS [qB 14 .lss 13 12] (.seq (cX 14 0) (.seq (.block 1 (oS [qM 15 13,qM 5 15] (.seq (.draw [qM 16 0,uM 17 5 [0],qI 18 6 16 17,qA 19 6 18,uM 20 1 [0,1,2,3],uM 21 5 [0,1,2,3,4],uI 22 6 20 21 [0,1,2,3],uA 23 6 22 [0,1,2,3],oB 24 (.eqv [true,false,false,false,false,false] true (.t 19) (.t 23))]) (oC 24 [qff 4])))) (.ops [qK 25 .add 13 1,qM 13 25])))
def ZId:C:=oS [qff 4] (.seq (oS [qM 6 0,qN 7 6,qM 8 1,qN 9 8,qB 10 .neq 7 9] (oC 10 [qff 4])) (.seq (oS [qM 11 0,qN 12 11,qW 13 0] (.block 0 (.loop [0,1,12,13] [4] ZEB))) (oR [qtt 4])))
def ZHL:FnI:=⟨2,ZId,[(4,none)]⟩
def Zpe:C:=oS [qB 9 .lss 8 7] (.seq (cX 9 0) (.seq (.block 1 (oS [qM 10 8,qM 5 10] (oS [qM 11 1,qM 12 0,qM 13 5,qI 14 1 12 13,qL 15 14,qV 16 11 15] (oC 16 [qM 17 5,qM 4 17])))) (.ops [qK 18 .add 8 1,qM 8 18])))
def ZIz:C:=oS [qW 4 0] (.seq (oS [qM 6 0,qN 7 6,qW 8 0] (.block 0 (.loop [0,1,7,8] [4] Zpe))) (oR [qW 4 (-1)]))
def Zv5:FnI:=⟨2,ZIz,[(4,none)]⟩
def ZxE:C:=oS [qB 9 .lss 8 7] (.seq (cX 9 0) (.seq (.block 1 (oS [qM 10 8,qM 5 10] (.seq (.draw [qA 11 2 3,uM 12 0 [0],uM 13 5 [0,1],uI 14 2 12 13 [0],uA 15 2 14 [0],oB 16 (.eqv [false,false] false (.t 11) (.t 15))]) (oC 16 [qM 17 5,qM 4 17])))) (.ops [qK 18 .add 8 1,qM 8 18])))
def ZGa:C:=oS [qO 3 1,qW 4 0] (.seq (oS [qM 6 0,qN 7 6,qW 8 0] (.block 0 (.loop [0,3,7,8] [4] ZxE))) (oR [qW 4 (-1)]))
def ZCi:FnI:=⟨2,ZGa,[(4,none)]⟩
def Zyu:C:=.seq (oS [qM 40 7,qM 41 6,qB 42 .lss 40 41] (cX 42 0)) (.seq (.block 1 (oS [qF 45 3 3,qL 46 45,qM 47 7,qI 48 6 46 47,qA 49 6 48,oB 8 (.alloc (.d (.agg [.bool false,zD,zD,zD,zD,zD]))),qS 6 8 49] (.seq (oS [qF 50 2 3,qL 51 50,qM 52 7,qI 53 3 51 52,qA 54 3 53,qC 55 107 54,qU 56 55,qM 57 56,vF 58 2 3 57 false,vL 59 58 57 false,vM 60 7 57 false,vI 61 3 59 60 57 false,vF 62 0 61 57 false,vL 63 62 57 false,vN 64 63 57 false,vK 65 .neq 64 64 57 false,qJ 66 57 65,qM 67 66,vF 68 5 8 67 false,vL 69 68 67 false,vK 70 .neq 69 0 67 false,qJ 71 67 70,qM 72 71,vF 73 4 3 72 false,vL 74 73 72 false,vM 75 7 72 false,vI 76 1 74 75 72 false,vL 77 76 72 false,vK 78 .lss 77 0 72 false,qJ 79 72 78,qM 80 79,vF 81 4 3 80 false,vL 82 81 80 false,vM 83 7 80 false,vI 84 1 82 83 80 false,vL 85 84 80 false,vM 86 6 80 false,vB 87 .geq 85 86 80 false,qJ 88 80 87,qM 89 88,vF 90 0 8 89 false,vL 91 90 89 false,vM 92 91 89 false,vF 93 4 3 92 true,vL 94 93 92 true,vM 95 7 92 true,vI 96 1 94 95 92 true,vL 97 96 92 true,vK 98 .eql 97 0 92 true,oG 99 (.pick (.t 92) (.t 98) bF) 89 false,qJ 100 89 99,qM 101 100,vF 102 0 8 101 false,vL 103 102 101 false,vU 104 103 101 false,vM 105 104 101 false,vF 106 4 3 105 true,vL 107 106 105 true,vM 108 7 105 true,vI 109 1 107 108 105 true,vL 110 109 105 true,vK 111 .gtr 110 0 105 true,oG 112 (.pick (.t 105) (.t 111) bF) 101 false,qJ 113 101 112] (oC 113 [qW 4 130])) (oS [qF 114 1 8,qL 115 114,qK 116 .eql 115 0,qM 117 116,vF 118 2 8 117 true,vL 119 118 117 true,vK 120 .eql 119 0 117 true,qP 121 117 120,qM 122 121,vF 123 3 8 122 true,vL 124 123 122 true,vK 125 .eql 124 0 122 true,qP 126 122 125,qM 127 126,vF 128 4 8 127 true,vL 129 128 127 true,vK 130 .eql 129 0 127 true,qP 131 127 130,qM 9 131] (oS [qF 132 0 3,qF 133 0 132,qL 134 133,qM 135 7,qI 136 1 134 135,qL 137 136,qK 138 .geq 137 0,qM 139 138,vM 140 9 139 true,vU 141 140 139 true,vM 142 141 139 true,vF 143 4 3 142 false,vL 144 143 142 false,vM 145 7 142 false,vI 146 1 144 145 142 false,vL 147 146 142 false,vK 148 .neq 147 0 142 false,vJ 149 142 148 139 true,qP 150 139 149] (oC 150 [qW 4 130])))))) (.ops [qM 43 7,qK 44 .add 43 1,qM 7 44]))
def ZGz:C:=oS [qO 2 0,qO 3 1,qW 4 0] (oS [qA 10 2 2,qF 11 0 3,qA 12 2 11,qD 13 102 10 12,qM 5 13] (.seq (oS [qM 14 5,qK 15 .neq 14 0] (oC 15 [qM 16 5,qM 4 16])) (oS [qF 17 0 3,qF 18 0 17,qL 19 18,qN 20 19,qM 6 20] (.seq (oS [qF 21 2 3,qL 22 21,qN 23 22,qM 24 6,qB 25 .neq 23 24,qM 26 25,vF 27 3 3 26 false,vL 28 27 26 false,vN 29 28 26 false,vM 30 6 26 false,vB 31 .neq 29 30 26 false,qJ 32 26 31,qM 33 32,vF 34 4 3 33 false,vL 35 34 33 false,vN 36 35 33 false,vM 37 6 33 false,vB 38 .neq 36 37 33 false,qJ 39 33 38] (oC 39 [qW 4 130])) (.seq (oS [qW 7 0] (.block 0 (.loop [3,6,7] [4] Zyu))) (oR [qW 4 0]))))))
def ZAq:FnI:=⟨2,ZGz,[(4,none)]⟩
def ZxS:C:=.seq (oS [qM 34 6,qF 35 1 3,qL 36 35,qN 37 36,qB 38 .lss 34 37] (cX 38 0)) (.seq (.block 1 (oS [qF 41 1 3,qL 42 41,qM 43 6,qI 44 1 42 43,qL 45 44,qK 46 .lss 45 0,qM 47 46,vF 48 1 3 47 false,vL 49 48 47 false,vM 50 6 47 false,vI 51 1 49 50 47 false,vL 52 51 47 false,vK 53 .gtr 52 1000 47 false,qJ 54 47 53] (oC 54 [qW 4 110]))) (.ops [qM 39 6,qK 40 .add 39 1,qM 6 40]))
def Zyo:C:=.seq (oS [qM 55 7,qF 56 1 3,qL 57 56,qN 58 57,qB 59 .lss 55 58] (cX 59 2)) (.seq (.block 3 (oS [qF 62 1 3,qL 63 62,qM 64 7,qI 65 1 63 64,qL 66 65,qK 67 .eql 66 0,qM 68 67,vA 69 2 2 68 true,vA 70 2 3 68 true,vM 71 7 68 true,vG 72 106 69 70 71 68 true,vU 73 72 68 true,qP 74 68 73] (oC 74 [qW 4 110]))) (.ops [qM 60 7,qK 61 .add 60 1,qM 7 61]))
def ZxB:C:=.seq (oS [qM 75 8,qF 76 0 3,qL 77 76,qN 78 77,qB 79 .lss 75 78] (cX 79 4)) (.seq (.block 5 (oS [qF 82 0 3,qL 83 82,qM 84 8,qI 85 1 83 84,qL 86 85,qM 9 86] (oS [qM 87 9,qK 88 .lss 87 (-1),qM 89 88,vM 90 9 89 false,vF 91 1 3 89 false,vL 92 91 89 false,vN 93 92 89 false,vB 94 .geq 90 93 89 false,qJ 95 89 94,qM 96 95,vM 97 9 96 false,vK 98 .geq 97 0 96 false,vM 99 98 96 false,vF 100 1 3 99 true,vL 101 100 99 true,vM 102 9 99 true,vI 103 1 101 102 99 true,vL 104 103 99 true,vK 105 .eql 104 0 99 true,vM 106 105 99 true,vA 107 2 2 106 false,vA 108 2 3 106 false,vM 109 9 106 false,vG 110 106 107 108 109 106 false,vU 111 110 106 false,vJ 112 106 111 99 true,vM 113 112 99 true,vF 114 0 3 113 false,vL 115 114 113 false,vM 116 8 113 false,oG 117 (.slice 1 (.t 115) none (some (.t 116)) none) 113 false,vM 118 9 113 false,vD 119 16 117 118 113 false,vJ 120 113 119 99 true,oG 121 (.pick (.t 99) (.t 120) bF) 96 false,qJ 122 96 121] (oC 122 [qW 4 110])))) (.ops [qM 80 8,qK 81 .add 80 1,qM 8 81]))
def ZHe:C:=oS [qO 2 0,qO 3 1,qW 4 0] (oS [qA 10 2 2,qC 11 46 10,qM 5 11] (.seq (oS [qM 12 5,qK 13 .neq 12 0] (oC 13 [qM 14 5,qM 4 14])) (.seq (oS [qF 15 0 3,qL 16 15,qN 17 16,qK 18 .lss 17 1,qM 19 18,vF 20 0 3 19 false,vL 21 20 19 false,vN 22 21 19 false,vK 23 .gtr 22 8 19 false,qJ 24 19 23,qM 25 24,vF 26 1 3 25 false,vL 27 26 25 false,vN 28 27 25 false,vF 29 0 2 25 false,vL 30 29 25 false,vN 31 30 25 false,vB 32 .neq 28 31 25 false,qJ 33 25 32] (oC 33 [qW 4 110])) (.seq (oS [qW 6 0] (.block 0 (.loop [2,3,6] [2,3,4] ZxS))) (.seq (oS [qW 7 0] (.block 2 (.loop [2,3,7] [2,3,4] Zyo))) (.seq (oS [qW 8 0] (.block 4 (.loop [2,3,8] [4] ZxB))) (oR [qW 4 0])))))))
def ZAW:FnI:=⟨2,ZHe,[(4,none)]⟩
def ZxM:C:=.seq (oS [qM 31 13,qK 32 .geq 31 0] (cX 32 2)) (.seq (.block 3 (oS [qM 35 11,qM 36 13,qI 37 1 35 36,qL 38 37,qM 39 9,qB 40 .gtr 38 39] (cY 40 (.ops [qM 41 11,qM 42 13,qI 43 1 41 42,qL 44 43,qM 12 44]) .skip))) (.ops [qM 33 13,qK 34 .sub 33 1,qM 13 34]))
def Zxz:C:=.seq (.block 1 (oS [qA 18 5 4,qC 19 111 18,qM 11 19] (.seq (oS [qM 20 11,qN 21 20,qK 22 .eql 21 0] (oC 22 [qA 23 5 4,qM 24 10,qS 5 6 23,qM 7 24,qW 8 0])) (oS [qM 25 11,oB 26 (.iaddr 1 (.t 25) (iN 0)),qL 27 26,qM 12 27] (.seq (oS [qM 28 11,qN 29 28,qK 30 .sub 29 1,qM 13 30] (.block 2 (.loop [2,3,4,6,9,10,11,12,13] [2,3,4,6,10,11,12] ZxM))) (.seq (oS [qM 45 10,qM 46 2,qN 47 46,qB 48 .lss 45 47] (cY 48 (.ops [qM 49 11,qM 50 2,qM 51 10,qI 52 1 50 51,qL 53 52,oB 54 (.mx true [.t 53,(iN 0)]),qM 55 11,qN 56 55,qB 57 .rem 54 56,qI 58 1 49 57,qL 59 58,qM 12 59]) .skip)) (oS [qA 61 2 3,qA 62 5 4,qM 63 12,qG 64 112 61 62 63,qM 60 64,qE 65 60 0,qE 66 60 1,oB 14 (.alloc (.agg Lz0)),qS 5 14 65,qM 15 66] (.seq (oS [qM 67 15,qK 68 .neq 67 0] (oC 68 [oB 69 (.build Lz0 []),qM 70 15,qS 5 6 69,qW 7 0,qM 8 70])) (.ops [qA 71 5 14,qM 72 12,qS 5 4 71,qM 9 72]))))))))) (.ops [qM 16 10,qK 17 .add 16 1,qM 10 17])
def ZGk:C:=oS [qO 3 0,qO 4 1,oB 6 (.alloc (.agg Lz0)),qW 7 0,qW 8 0] (oS [qW 9 (-1)] (oS [qW 10 0] (.block 0 (.loop [2,3,4,6,9,10] [6,7,8] Zxz))))
def ZBd:FnI:=⟨3,ZGk,[(6,some (5,true)),(7,none),(8,none)]⟩
def Zyp:C:=.seq (oS [qM 8 6,qF 9 0 2,qL 10 9,qN 11 10,qB 12 .lss 8 11] (cX 12 0)) (.seq (.block 1 (oS [qA 15 2 2,qM 16 1,qM 17 6,qG 18 113 15 16 17] (cY 18 (.ops [qM 19 5,qM 20 6,qH 21 20,qY 22 19 21,qM 5 22]) .skip))) (.ops [qM 13 6,qK 14 .add 13 1,qM 6 14]))
def ZHh:C:=oS [qO 2 0,ZbA 4 1] (oS [oB 7 (.bslice 1 [zD] 0 []),qM 5 7] (.seq (oS [qW 6 0] (.block 0 (.loop [1,2,5,6] [5] Zyp))) (oR [qM 23 5,qM 4 23])))
def ZAB:FnI:=⟨2,ZHh,[(4,none)]⟩
def ZHW:C:=oS [qO 2 0,qff 4] (oR [qM 5 1,qK 6 .geq 5 0,qM 7 6,vM 8 1 7 true,vF 9 0 2 7 true,vL 10 9 7 true,vN 11 10 7 true,vB 12 .lss 8 11 7 true,qP 13 7 12,qM 4 13])
def ZBU:FnI:=⟨2,ZHW,[(4,none)]⟩
def Zx8:C:=.seq (oS [qM 12 8,qM 13 7,qN 14 13,qB 15 .lss 12 14] (cX 15 0)) (.seq (.block 1 (.seq (.draw [qF 18 1 4,qL 19 18,uM 20 7 [0,1],uM 21 8 [0,1,2],uI 22 1 20 21 [0,1],uL 23 22 [0,1],qI 24 1 19 23,qL 25 24,qK 26 .gtr 25 0]) (oC 26 [qff 6]))) (.ops [qM 16 8,qK 17 .add 16 1,qM 8 17]))
def ZGx:C:=oS [qO 3 0,qO 4 1,qff 6] (oS [qA 9 2 3,qM 10 2,qD 11 114 9 10,qM 7 11] (.seq (oS [qW 8 0] (.block 0 (.loop [4,7,8] [6] Zx8))) (oR [qtt 6])))
def ZAu:FnI:=⟨3,ZGx,[(6,none)]⟩
def ZHa:C:=oS [qO 1 0,qff 2] (oR [qF 3 0 1,qL 4 3,qN 5 4,qC 6 115 5,qM 7 6,vF 8 1 1 7 true,vL 9 8 7 true,vK 10 .geq 9 0 7 true,qP 11 7 10,qM 12 11,vF 13 1 1 12 true,vL 14 13 12 true,vK 15 .leq 14 1099511627775 12 true,qP 16 12 15,qM 17 16,vF 18 2 1 17 true,vL 19 18 17 true,vF 20 1 1 17 true,vL 21 20 17 true,vK 22 .sub 21 1 17 true,vB 23 .geq 19 22 17 true,qP 24 17 23,qM 25 24,vF 26 2 1 25 true,vL 27 26 25 true,vF 28 1 1 25 true,vL 29 28 25 true,vF 30 0 1 25 true,vL 31 30 25 true,vN 32 31 25 true,vB 33 .add 29 32 25 true,vB 34 .leq 27 33 25 true,qP 35 25 34,qM 2 35])
def ZAZ:FnI:=⟨1,ZHa,[(2,none)]⟩
def ZxZ:C:=oS [qB 9 .lss 8 7] (.seq (cX 9 0) (.seq (.block 1 (oS [qM 10 8,qM 5 10] (oS [qM 11 1,qM 12 0,qM 13 5,qI 14 1 12 13,qL 15 14,qV 16 11 15] (oC 16 [qM 17 5,qM 4 17])))) (.ops [qK 18 .add 8 1,qM 8 18])))
def ZGo:C:=oS [qW 4 0] (.seq (oS [qM 6 0,qN 7 6,qW 8 0] (.block 0 (.loop [0,1,7,8] [4] ZxZ))) (oR [qW 4 (-1)]))
def ZAF:FnI:=⟨2,ZGo,[(4,none)]⟩
def Zt0:C:=oS [qB 9 .lss 8 7] (.seq (cX 9 0) (.seq (.block 1 (oS [qM 10 8,qM 5 10] (oS [qM 11 1,qM 12 0,qM 13 5,qI 14 2 12 13,qA 15 2 14,qV 16 11 15] (oC 16 [qM 17 5,qM 4 17])))) (.ops [qK 18 .add 8 1,qM 8 18])))
def ZGK:C:=oS [qW 4 0] (.seq (oS [qM 6 0,qN 7 6,qW 8 0] (.block 0 (.loop [0,1,7,8] [4] Zt0))) (oR [qW 4 (-1)]))
def ZxP:FnI:=⟨2,ZGK,[(4,none)]⟩
def ZHS:C:=oR [⟨none,.sortI (.t 0),none,[],0⟩]
def ZEh:FnI:=⟨1,ZHS,[]⟩
def ZxJ:C:=.seq (oS [qM 7 4,qF 8 2 1,qL 9 8,qN 10 9,qB 11 .lss 7 10] (cX 11 0)) (.seq (.block 1 (.ops [qM 14 3,qF 15 2 1,qL 16 15,qM 17 4,qI 18 3 16 17,qA 19 3 18,qC 20 118 19,qN 21 20,qB 22 .add 14 21,qM 3 22])) (.ops [qM 12 4,qK 13 .add 12 1,qM 4 13]))
def ZxT:C:=.seq (oS [qM 24 6,qF 25 0 1,qF 26 0 25,qL 27 26,qN 28 27,qB 29 .lss 24 28] (cX 29 2)) (.seq (.block 3 (oS [qF 32 0 1,qF 33 0 32,qL 34 33,qM 35 6,qI 36 1 34 35,qL 37 36,qK 38 .lss 37 0,qM 39 38,vM 40 3 39 true,vK 41 .gtr 40 0 39 true,vM 42 41 39 true,vF 43 3 1 42 false,vL 44 43 42 false,vM 45 6 42 false,vI 46 6 44 45 42 false,vF 47 1 46 42 false,vL 48 47 42 false,vK 49 .neq 48 0 42 false,vJ 50 42 49 39 true,qP 51 39 50] (cY 51 (.ops [qM 52 5,qM 53 6,qH 54 53,qY 55 52 54,qM 5 55]) .skip))) (.ops [qM 30 6,qK 31 .add 30 1,qM 6 31]))
def ZHC:C:=oS [qO 1 0,ZbA 2 1] (oS [qW 3 0] (.seq (oS [qW 4 0] (.block 0 (.loop [1,3,4] [1,3] ZxJ))) (oS [oB 23 (.bslice 1 [zD] 0 []),qM 5 23] (.seq (oS [qW 6 0] (.block 2 (.loop [1,3,5,6] [5] ZxT))) (oR [qM 56 5,qM 2 56])))))
def ZzG:FnI:=⟨1,ZHC,[(2,none)]⟩
def ZGM:C:=oS [qO 3 0,qO 4 1,oB 6 (.alloc (.agg Lz0)),qW 7 0] (oS [qF 15 0 4,qF 16 0 15,qL 17 16,qN 18 17,qM 8 18] (oS [qM 19 2,qF 20 4 4,qL 21 20,qM 22 2,qI 23 1 21 22,qL 24 23,qB 25 .add 19 24,qM 9 25] (.seq (oS [qM 26 9,qM 27 8,qB 28 .geq 26 27] (cY 28 (.ops [qM 29 9,qM 30 8,qB 31 .sub 29 30,qM 9 31]) .skip)) (.seq (.draw [qF 33 2 4,qL 34 33,uM 35 9 [0,1],qI 36 3 34 35,qA 37 3 36,uF 38 3 4 [0,1,2,3,4],uL 39 38 [0,1,2,3,4],uM 40 2 [0,1,2,3,4,5,6],uI 41 6 39 40 [0,1,2,3,4],uA 42 6 41 [0,1,2,3,4],qD 43 119 37 42,qM 32 43,qE 44 32 0,uE 45 32 1 [12],uE 46 32 2 [12,13],oM 10 (.alloc (.agg Lz1)) [0,1,2,3,4,5,6,7,8,9,10,11,12,13,14],oM 11 (.alloc (.d (.agg [.bool false,zD,zD,zD,zD,zD]))) [0,1,2,3,4,5,6,7,8,9,10,11,12,13,14,15],qX 3 10 44 4,qX 6 11 45 4,qM 12 46]) (.seq (oS [qM 47 12,qK 48 .neq 47 0] (oC 48 [oB 49 (.build Lz0 []),qS 5 6 49,qW 7 130])) (.seq (.draw [qA 50 5 4,uM 51 9 [0],uA 52 3 10 [0,1],qG 53 81 50 51 52,uM 54 2 [0,1,2,3],uA 55 6 11 [0,1,2,3,4],uF 56 4 4 [0,1,2,3,4,5],uL 57 56 [0,1,2,3,4,5],uM 58 2 [0,1,2,3,4,5,6,7],uI 59 1 57 58 [0,1,2,3,4,5],uL 60 59 [0,1,2,3,4,5],⟨some 61,.call 120 [.t 53,.t 54,.t 55,.t 60],none,[],4⟩,qX 5 4 61 4]) (.seq (oS [qF 62 5 11,qL 63 62,qK 64 .eql 63 0] (oC 64 [qA 65 5 4,qS 5 6 65,qW 7 0])) (.seq (oS [qF 66 5 11,qL 67 66,qK 68 .neq 67 1] (cY 68 (oS [qF 69 4 4,qL 70 69,qM 71 2,qI 72 1 70 71,qL 73 72,qK 74 .add 73 1,qM 13 74] (.seq (oS [qM 75 13,qM 76 8,qB 77 .eql 75 76] (cY 77 (.ops [qW 13 0]) .skip)) (oR [qA 78 5 4,qM 79 2,qM 80 13,qK 81 .gtr 80 0,oB 82 (.build Lz5 [(0,1,(.t 81))]),qM 83 13,oB 84 (.call 120 [.t 78,.t 79,.t 82,.t 83]),qS 5 6 84,qW 7 0]))) .skip)) (.seq (.seq (.draw [qA 85 2 3,uF 86 0 4 [0],uA 87 2 86 [0],qD 88 79 85 87,uF 89 4 11 [0,1,2,3],uL 90 89 [0,1,2,3],qD 91 16 88 90,qU 92 91]) (oC 92 [oB 93 (.build Lz0 []),qS 5 6 93,qW 7 130])) (oS [oB 94 (.bslice 1 [zD] 0 []),qF 95 0 4,qF 96 0 95,qL 97 96,qY 98 94 97,qM 14 98] (oS [qM 99 14,qM 100 2,qF 101 4 11,qL 102 101,qI 103 1 99 100,qS 1 103 102] (oS [qM 104 14,qF 105 0 4,qF 106 0 105,qS 1 106 104] (oR [qA 107 5 4,qM 108 2,oB 109 (.build Lz5 []),oB 110 (.call 120 [.t 107,.t 108,.t 109,(iN 0)]),qS 5 6 110,qW 7 0])))))))))))))
def ZCv:FnI:=⟨3,ZGM,[(6,some (5,true)),(7,none)]⟩
def ZxL:C:=.seq (oS [qM 8 7,qF 9 1 3,qL 10 9,qN 11 10,qB 12 .lss 8 11] (cX 12 0)) (.seq (.block 1 (oS [qF 15 1 3,qL 16 15,qM 17 7,qI 18 2 16 17,qF 19 0 18,qL 20 19,qM 21 1,qB 22 .eql 20 21,qM 23 22,vF 24 1 3 23 true,vL 25 24 23 true,vM 26 7 23 true,vI 27 2 25 26 23 true,vF 28 1 27 23 true,vL 29 28 23 true,vM 30 2 23 true,vB 31 .eql 29 30 23 true,qP 32 23 31] (oC 32 [qtt 6]))) (.ops [qM 13 7,qK 14 .add 13 1,qM 7 14]))
def ZGE:C:=oS [qO 3 0,qff 6] (.seq (oS [qW 7 0] (.block 0 (.loop [1,2,3,7] [6] ZxL))) (oR [qff 6]))
def ZCT:FnI:=⟨3,ZGE,[(6,none)]⟩
def ZxK:C:=.seq (oS [qM 8 6,qF 9 0 2,qL 10 9,qN 11 10,qB 12 .lss 8 11] (cX 12 0)) (.seq (.block 1 (oS [qA 15 2 2,qM 16 6,qM 17 1,qG 18 113 15 16 17] (cY 18 (.ops [qM 19 5,qM 20 6,qH 21 20,qY 22 19 21,qM 5 22]) .skip))) (.ops [qM 13 6,qK 14 .add 13 1,qM 6 14]))
def ZHz:C:=oS [qO 2 0,ZbA 4 1] (oS [oB 7 (.bslice 1 [zD] 0 []),qM 5 7] (.seq (oS [qW 6 0] (.block 0 (.loop [1,2,5,6] [5] ZxK))) (oR [qM 23 5,qM 4 23])))
def ZAX:FnI:=⟨2,ZHz,[(4,none)]⟩
def ZG1:C:=oS [qff 2] (oS [qM 6 0,qC 7 121 6,qM 5 7,qE 8 5 0,qE 9 5 1,qM 3 8,qM 4 9] (oR [qM 10 4,qM 11 10,vM 12 0 11 true,vK 13 .leq 12 64 11 true,qP 14 11 13,qM 2 14]))
def ZCj:FnI:=⟨1,ZG1,[(2,none)]⟩
def Zyl:C:=.seq (oS [qM 6 4,qF 7 2 1,qL 8 7,qF 9 1 1,qL 10 9,qB 11 .sub 8 10,qB 12 .lss 6 11] (cX 12 0)) (.seq (.block 1 (.ops [qM 15 3,qA 16 3 1,qF 17 1 1,qL 18 17,qM 19 4,qB 20 .add 18 19,qD 21 133 16 20,qH 22 21,qY 23 15 22,qM 3 23])) (.ops [qM 13 4,qK 14 .add 13 1,qM 4 14]))
def ZHR:C:=oS [qO 1 0,ZbA 2 1] (oS [oB 5 (.bslice 1 [zD] 0 []),qM 3 5] (.seq (oS [qW 4 0] (.block 0 (.loop [1,3,4] [3] Zyl))) (oR [qM 24 3,qM 2 24])))
def ZBC:FnI:=⟨1,ZHR,[(2,none)]⟩
def ZG9:C:=oS [qO 2 0,qO 3 1,oB 4 (.alloc (.agg Lz1)),oB 5 (.alloc (.d (.agg [.bool false,zD,zD,zD,zD,zD]))),qW 6 0] (.seq (oS [qA 8 3 2,qC 9 107 8,qU 10 9] (oC 10 [oB 11 (.build Lz1 []),oB 12 (.build Lz5 []),qS 3 4 11,qS 6 5 12,qW 6 120])) (oS [qF 13 2 3,qL 14 13,qK 15 .lss 14 (-1),qM 16 15,vF 17 2 3 16 false,vL 18 17 16 false,vK 19 .gtr 18 1099511627775 16 false,qJ 20 16 19,qM 21 20,vF 22 3 3 21 false,vL 23 22 21 false,vK 24 .lss 23 (-1) 21 false,qJ 25 21 24,qM 26 25,vF 27 3 3 26 false,vL 28 27 26 false,vK 29 .gtr 28 1099511627775 26 false,qJ 30 26 29,qM 7 30] (.seq (oS [qF 31 5 3,qL 32 31,qK 33 .neq 32 0,qM 34 33,vF 35 1 3 34 false,vL 36 35 34 false,vK 37 .lss 36 0 34 false,qJ 38 34 37,qM 39 38,vF 40 1 3 39 false,vL 41 40 39 false,vK 42 .gtr 41 4 39 false,qJ 43 39 42,qM 44 43,vF 45 0 3 44 false,vL 46 45 44 false,vM 47 46 44 false,vF 48 1 3 47 true,vL 49 48 47 true,vK 50 .gtr 49 3 47 true,oG 51 (.pick (.t 47) (.t 50) bF) 44 false,qJ 52 44 51,qM 53 52,vF 54 1 3 53 false,vL 55 54 53 false,vK 56 .gtr 55 0 53 false,vM 57 56 53 false,vM 58 7 57 true,oG 59 (.pick (.t 57) (.t 58) bF) 53 false,qJ 60 53 59] (oC 60 [oB 61 (.build Lz1 []),oB 62 (.build Lz5 []),qS 3 4 61,qS 6 5 62,qW 6 122])) (.seq (oS [qF 63 0 3,qL 64 63] (cY 64 (.ops [qA 66 3 2,qA 67 6 3,qD 68 134 66 67,qM 65 68,qE 69 65 0,qE 70 65 1,qS 3 2 69,qS 6 3 70]) (.ops [qA 72 3 2,qA 73 6 3,qD 74 135 72 73,qM 71 74,qE 75 71 0,qE 76 71 1,qS 3 2 75,qS 6 3 76]))) (.seq (oS [qA 77 3 2,qC 78 107 77,qU 79 78] (oC 79 [oB 80 (.build Lz1 []),oB 81 (.build Lz5 []),qS 3 4 80,qS 6 5 81,qW 6 120])) (.seq (.draw [qA 82 3 2,⟨some 83,.load 6 true (.t 3),none,[0],1⟩,⟨none,.storek 3 (.t 4) (.t 82) [.t 3],none,[],3⟩,qX 6 5 83 4,qW 6 0]) .ret))))))
def ZBz:FnI:=⟨2,ZG9,[(4,some (3,true)),(5,some (6,true)),(6,none)]⟩
def ZH8:C:=oS [qO 4 0,qO 6 2,oB 8 (.alloc (.agg Lz0))] (.seq (.draw [oB 11 (.bslice 6 [.bool false,zD,zD,zD,zD,zD] 0 []),uF 12 3 4 [0],uL 13 12 [0],oB 14 (.append 6 (.t 11) (.t 13)),uS 15 [0,1,2,3],uF 16 4 4 [0,1,2,3,4],uL 17 16 [0,1,2,3,4],qY 18 15 17,qM 9 14,qM 10 18]) (oS [qM 19 9,qM 20 1,qM 21 10,qM 22 1,qA 23 6 6,qM 24 3,qI 25 6 19 20,qS 6 25 23,qI 26 1 21 22,qS 1 26 24] (oS [qM 27 9,qM 28 10,qF 29 3 4,qS 1 29 27,qF 30 4 4,qS 1 30 28] (oR [qA 31 5 4,qS 5 8 31]))))
def ZxV:FnI:=⟨4,ZH8,[(8,some (5,true))]⟩
def ZxW:C:=.seq (oS [qM 6 5,qK 7 .lss 6 40] (cX 7 0)) (.seq (.block 1 (.seq (oS [qM 10 4,qM 11 0,qB 12 .eql 10 11] (oC 12 [qM 13 5,qM 2 13,qtt 3])) (.ops [qM 14 4,oB 15 (.bin .mul (iN 2) (.t 14)),qM 4 15]))) (.ops [qM 8 5,qK 9 .add 8 1,qM 5 9]))
def ZGu:C:=oS [qW 2 0,qff 3] (oS [qW 4 1] (.seq (oS [qW 5 0] (.block 0 (.loop [0,4,5] [2,3] ZxW))) (oR [qW 2 0,qff 3])))
def Zz7:FnI:=⟨1,ZGu,[(2,none),(3,none)]⟩
def ZGj:C:=oS [qO 2 0,qW 4 0] (.seq (oS [qM 5 1,qK 6 .lss 5 0] (cY 6 (.ops [qW 1 0]) .skip)) (.seq (.draw [qF 7 0 2,qL 8 7,uM 9 1 [0,1],uF 10 0 2 [0,1,2],uL 11 10 [0,1,2],uN 12 11 [0,1,2],oM 13 (.bin .rem (.t 9) (.t 12)) [0,1],qI 14 1 8 13,qL 15 14,qM 4 15]) .ret))
def ZAP:FnI:=⟨2,ZGj,[(4,none)]⟩
def ZGp:C:=oS [qO 2 0,qO 3 1,oB 4 (.alloc (.agg Lz1)),oB 5 (.alloc (.d (.agg [.bool false,zD,zD,zD,zD,zD])))] (.seq (oS [qF 6 1 3,qL 7 6] (.block 0 (oS [qK 21 .eql 7 0,qM 20 21] (cY 20 (oS [qF 22 1 2,qL 23 22,qF 24 2 3,qS 1 24 23] (.ops [qF 25 1 3,qR 1 25 1])) (oS [qK 27 .eql 7 1,qM 26 27] (cY 26 (oS [qF 28 2 2,qL 29 28,qF 30 3 3,qS 1 30 29] (oS [qF 31 2 3,qL 32 31,qF 33 3 3,qL 34 33,qB 35 .geq 32 34] (cY 35 (.ops [qF 36 5 3,qR 1 36 2]) (.ops [qF 37 1 3,qR 1 37 2])))) (oS [qK 39 .eql 7 2,qM 38 39] (cY 38 (oS [qA 40 3 2,qF 41 2 3,qL 42 41,qD 43 133 40 42,qF 44 4 3,qS 1 44 43] (.ops [qF 45 1 3,qR 1 45 3])) (oS [qF 8 1 2,qL 9 8,qF 10 2 3,qL 11 10,qB 12 .eql 9 11] (cY 12 (oS [qF 13 1 2,qL 14 13,qK 15 .add 14 1,qF 16 1 2,qS 1 16 15] (.ops [qF 17 5 3,qR 1 17 1])) (oS [qF 18 4 3,qR 1 18 0] (.ops [qF 19 5 3,qR 1 19 3])))))))))))) (.seq (.draw [qA 46 3 2,⟨some 47,.load 6 true (.t 3),none,[0],1⟩,⟨none,.storek 3 (.t 4) (.t 46) [.t 3],none,[],3⟩,qX 6 5 47 4]) .ret))
def ZzJ:FnI:=⟨2,ZGp,[(4,some (3,true)),(5,some (6,true))]⟩
def ZHi:C:=oS [qO 2 0,qO 3 1,oB 4 (.alloc (.agg Lz1)),oB 5 (.alloc (.d (.agg [.bool false,zD,zD,zD,zD,zD])))] (.seq (oS [qF 6 1 3,qL 7 6,qK 8 .eql 7 0] (cY 8 (oS [qF 9 2 2,qL 10 9,qK 11 .sub 10 1,qF 12 2 2,qS 1 12 11] (oS [qF 13 2 2,qL 14 13,qF 15 3 3,qS 1 15 14] (oS [qF 16 1 3,qR 1 16 1] (.seq (.draw [qA 17 3 2,⟨some 18,.load 6 true (.t 3),none,[0],1⟩,⟨none,.storek 3 (.t 4) (.t 17) [.t 3],none,[],3⟩,qX 6 5 18 4]) .ret)))) .skip)) (.seq (oS [qF 19 1 3,qL 20 19,qK 21 .eql 20 1] (cY 21 (oS [qF 22 1 2,qL 23 22,qF 24 2 3,qS 1 24 23] (.seq (oS [qF 25 2 3,qL 26 25,qF 27 3 3,qL 28 27,qB 29 .lss 26 28] (cY 29 (oS [qA 30 3 2,qF 31 3 3,qL 32 31,qD 33 133 30 32,qF 34 4 3,qS 1 34 33] (.ops [qF 35 5 3,qR 1 35 1])) (oS [qF 36 2 3,qL 37 36,qF 38 3 3,qL 39 38,qB 40 .eql 37 39] (cY 40 (.ops [qF 41 1 3,qR 1 41 2]) (.ops [qF 42 1 3,qR 1 42 3]))))) (.seq (.draw [qA 43 3 2,⟨some 44,.load 6 true (.t 3),none,[0],1⟩,⟨none,.storek 3 (.t 4) (.t 43) [.t 3],none,[],3⟩,qX 6 5 44 4]) .ret))) .skip)) (.seq (oS [qF 45 1 3,qL 46 45,qK 47 .eql 46 2] (cY 47 (.seq (oS [qF 48 1 2,qL 49 48,qF 50 2 3,qL 51 50,qB 52 .eql 49 51] (cY 52 (oS [qF 53 1 2,qL 54 53,qK 55 .add 54 1,qF 56 1 2,qS 1 56 55] (oS [qA 57 3 2,qF 58 3 3,qL 59 58,qD 60 133 57 59,qF 61 4 3,qS 1 61 60] (.ops [qF 62 1 3,qR 1 62 4]))) (.ops [qF 63 1 3,qR 1 63 3]))) (.seq (.draw [qA 64 3 2,⟨some 65,.load 6 true (.t 3),none,[0],1⟩,⟨none,.storek 3 (.t 4) (.t 64) [.t 3],none,[],3⟩,qX 6 5 65 4]) .ret)) .skip)) (oS [qF 66 3 3,qL 67 66,qK 68 .add 67 1,qF 69 2 2,qS 1 69 68] (.seq (oS [qF 70 1 3,qL 71 70,qK 72 .eql 71 3] (cY 72 (.ops [qF 73 5 3,qR 1 73 2]) (.ops [qF 74 5 3,qR 1 74 1]))) (.seq (.draw [qA 75 3 2,⟨some 76,.load 6 true (.t 3),none,[0],1⟩,⟨none,.storek 3 (.t 4) (.t 75) [.t 3],none,[],3⟩,qX 6 5 76 4]) .ret))))))
def ZAt:FnI:=⟨2,ZHi,[(4,some (3,true)),(5,some (6,true))]⟩
def ZGC:C:=oS [qO 4 0,qO 5 1,oB 8 (.alloc (.agg Lz0)),qW 9 0] (oR [qA 10 2 5,qM 11 2,qM 12 3,qG 13 163 10 11 12,qE 14 13 0,qE 15 13 1,qS 5 8 14,qM 9 15])
def ZCS:FnI:=⟨4,ZGC,[(8,some (5,true)),(9,none)]⟩
def ZH1:C:=oS [qO 3 0,qO 4 1,qO 5 2,qW 6 0] (oR [qA 7 2 4,qA 8 5 5,qD 9 164 7 8,qM 6 9])
def ZEp:FnI:=⟨3,ZH1,[(6,none)]⟩
def ZGN:C:=oS [qO 4 0,qO 5 1,qO 6 2,oB 8 (.alloc (.agg Lz0)),qW 9 0,qW 10 0] (oR [qA 11 2 5,qA 12 5 6,qM 13 3,qG 14 165 11 12 13,qE 15 14 0,qE 16 14 1,qE 17 14 2,qS 5 8 15,qM 9 16,qM 10 17])
def Zz2:FnI:=⟨4,ZGN,[(8,some (5,true)),(9,none),(10,none)]⟩
def ZG5:C:=oS [qO 3 0,qO 4 1,qO 5 2,oB 6 (.alloc (.agg Lz0)),ZbA 7 1,qW 8 0] (oR [qA 9 2 4,qA 10 5 5,qD 11 166 9 10,qE 12 11 0,qE 13 11 1,qE 14 11 2,qS 5 6 12,qM 7 13,qM 8 14])
def ZCC:FnI:=⟨3,ZG5,[(6,some (5,true)),(7,none),(8,none)]⟩
def Zyd:C:=oS [qB 37 .lss 36 35] (.seq (cX 37 0) (.seq (.block 1 (oS [oB 39 (.call 168 [(iN 64)]),qM 38 39,qE 40 38 0,qE 41 38 1,oB 11 (.alloc (.agg Lz1)),qS 3 11 40,qM 12 41] (.draw [qM 42 10,uM 43 10 [0],uZ 44 43 [0],uF 45 0 44 [0],uF 46 2 45 [0],uL 47 46 [0],uA 48 3 11 [0,1,2,3,4,5],oM 49 (.bslice 3 [.list true [],zD,zD] 1 [(0,(.t 48))]) [0,1,2,3,4,5],⟨some 50,.append 3 (.t 47) (.t 49),none,[],4⟩,qZ 51 42,qF 52 0 51,qF 53 2 52,qX 1 53 50 4]))) (.ops [qK 54 .add 36 1,qM 36 54])))
def ZxN:C:=oS [qB 60 .lss 59 58] (.seq (cX 60 2) (.seq (.block 3 (oS [qI 61 1 57 59,qL 62 61,qM 14 62] (.ops [qM 63 10,qM 64 14,qM 65 2,qB 66 .rem 64 65,qM 67 14,qG 68 170 63 66 67]))) (.ops [qK 69 .add 59 1,qM 59 69])))
def ZH9:C:=oS [qO 3 0,oB 6 (.alloc (.agg Lz0)),qW 7 0] (oS [qA 16 2 3,qM 17 1,qM 18 2,qG 19 167 16 17 18,qM 15 19,qE 20 15 0,qE 21 15 1,oB 8 (.alloc (.agg Lz3)),qS 2 8 20,qM 9 21] (.seq (oS [qM 22 9,qK 23 .neq 22 0] (oC 23 [oB 24 (.build Lz0 []),qM 25 9,qS 5 6 24,qM 7 25])) (.seq (.draw [qA 26 2 8,uM 27 2 [0],oM 28 (.mkslice 6 [.bool false,zD,zD,zD,zD,zD] (.t 27) (.t 27)) [0],uM 29 2 [0,1,2],oM 30 (.mkslice 1 [zD] (.t 29) (.t 29)) [0,1,2],oB 31 (.build Lz0 [(0,2,(.t 26)),(3,1,(.t 28)),(4,1,(.t 30))]),uA 32 2 3 [0,1,2,3,4,5],oB 33 (.build Lz7 [(0,5,(.t 31)),(5,2,(.t 32))]),qO 34 33,qM 10 34]) (.seq (oS [qM 35 2,qW 36 0] (.block 0 (.loop [2,3,6,8,10,35,36] [2,3,6,8,10] Zyd))) (.seq (oS [qA 55 2 3,qA 56 2 8,qD 57 169 55 56,qN 58 57,qW 59 0] (.block 2 (.loop [2,6,10,57,58,59] [6,10] ZxN))) (oR [qM 70 10,qZ 71 70,qF 72 0 71,qA 73 5 72,qS 5 6 73,qW 7 0]))))))
def ZCE:FnI:=⟨3,ZH9,[(6,some (5,true)),(7,none)]⟩
def ZHw:C:=oS [qO 2 0,qO 3 1,qW 4 0] (oS [qA 6 2 2,qF 7 0 3,qA 8 2 7,qD 9 171 6 8,qM 5 9] (.seq (oS [qM 10 5,qK 11 .eql 10 0,qM 12 11,vA 13 5 3 12 true,vC 14 172 13 12 true,vU 15 14 12 true,qP 16 12 15] (cY 16 (.ops [qW 5 130]) .skip)) (oR [qM 17 5,qM 4 17])))
def ZCV:FnI:=⟨2,ZHw,[(4,none)]⟩
def ZHF:C:=oS [qO 3 0,qO 4 1,oB 6 (.alloc (.agg Lz0)),qW 7 0,qW 8 0] (.seq (oS [qA 13 2 3,qA 14 5 4,qD 15 164 13 14,qM 9 15] (oS [qM 16 9,qK 17 .neq 16 0] (oC 17 [oB 18 (.build Lz0 []),qM 19 9,qS 5 6 18,qW 7 0,qM 8 19]))) (.seq (.draw [qA 20 5 4,qC 21 173 20,uA 22 2 3 [0,1],oB 23 (.build Lz7 [(0,5,(.t 21)),(5,2,(.t 22))]),qO 24 23,qM 10 24]) (oS [qM 26 10,qM 27 2,qD 28 174 26 27,qM 25 28,qE 29 25 0,qE 30 25 1,qM 11 29,qM 12 30] (.seq (oS [qM 31 12,qK 32 .neq 31 0] (oC 32 [oB 33 (.build Lz0 []),qM 34 12,qS 5 6 33,qW 7 0,qM 8 34])) (oR [qM 35 10,qZ 36 35,qF 37 0 36,qA 38 5 37,qM 39 11,qS 5 6 38,qM 7 39,qW 8 0])))))
def ZAj:FnI:=⟨3,ZHF,[(6,some (5,true)),(7,none),(8,none)]⟩
def ZHE:C:=oS [qO 2 0,qO 3 1,oB 4 (.alloc (.agg Lz0)),ZbA 5 1,qW 6 0] (.seq (oS [qA 11 2 2,qA 12 5 3,qD 13 164 11 12,qM 7 13] (oS [qM 14 7,qK 15 .neq 14 0] (oC 15 [oB 16 (.build Lz0 []),qM 17 7,qS 5 4 16,ZbA 5 1,qM 6 17]))) (.seq (.draw [qA 18 5 3,qC 19 173 18,uA 20 2 2 [0,1],oB 21 (.build Lz7 [(0,5,(.t 19)),(5,2,(.t 20))]),qO 22 21,qM 8 22]) (oS [qM 24 8,qC 25 175 24,qM 23 25,qE 26 23 0,qE 27 23 1,qM 9 26,qM 10 27] (.seq (oS [qM 28 10,qK 29 .neq 28 0] (oC 29 [oB 30 (.build Lz0 []),qM 31 10,qS 5 4 30,ZbA 5 1,qM 6 31])) (oR [qM 32 8,qZ 33 32,qF 34 0 33,qA 35 5 34,qM 36 9,qS 5 4 35,qM 5 36,qW 6 0])))))
def ZAs:FnI:=⟨2,ZHE,[(4,some (5,true)),(5,none),(6,none)]⟩
def ZxY:C:=oS [qB 23 .lss 22 21] (.seq (cX 23 0) (.seq (.block 1 (.ops [qF 24 0 9,qL 25 24,oB 26 (.bslice 1 [zD] 1 [(0,(iN (-1)))]),qY 27 25 26,qF 28 0 9,qS 1 28 27])) (.ops [qK 29 .add 22 1,qM 22 29])))
def ZGB:C:=oS [qO 3 0,oB 6 (.alloc (.agg Lz3)),qW 7 0] (.seq (oS [qA 10 2 3,qM 11 1,qM 12 2,oB 13 (.call 28 [.t 10,.t 11,.t 12,(.c (.nilsl 1))]),qM 8 13] (oS [qM 14 8,qK 15 .neq 14 0] (oC 15 [oB 16 (.build Lz3 []),qM 17 8,qS 2 6 16,qM 7 17]))) (oS [qM 18 1,qC 19 45 18,oB 20 (.build Lz3 [(1,1,(.t 19))]),oB 9 (.alloc (.agg Lz3)),qS 2 9 20] (.seq (oS [qM 21 2,qW 22 0] (.block 0 (.loop [6,9,21,22] [6,9] ZxY))) (oR [qA 30 2 9,qS 2 6 30,qW 7 0]))))
def ZzT:FnI:=⟨3,ZGB,[(6,some (2,true)),(7,none)]⟩
def ZHU:C:=oS [oB 2 (.alloc (.agg Lz1)),qW 3 0] (.seq (oS [qM 7 0,qC 8 176 7,qM 6 8,qE 9 6 0,qE 10 6 1,qM 4 9,qM 5 10] (oS [qM 11 5,qU 12 11,qM 13 12,vM 14 0 13 false,vK 15 .gtr 14 64 13 false,qJ 16 13 15] (oC 16 [oB 17 (.build Lz1 []),qS 3 2 17,qW 3 120]))) (oR [qM 18 0,oB 19 (.mkslice 1 [zD] (.t 18) (.t 18)),oB 20 (.build Lz1 [(0,1,(.t 19))]),qS 3 2 20,qW 3 0]))
def ZCq:FnI:=⟨1,ZHU,[(2,some (3,true)),(3,none)]⟩
def ZGm:C:=oS [qO 2 0,qO 3 1,ZbA 4 1] (.seq (oS [qA 5 2 2,qA 6 2 3,qD 7 171 5 6,qK 8 .neq 7 0] (oC 8 [ZbA 4 1])) (oR [qA 9 2 2,qA 10 2 3,qD 11 177 9 10,qM 4 11]))
def ZBk:FnI:=⟨2,ZGm,[(4,none)]⟩
def ZHu:C:=oS [qff 6] (oS [qM 10 0,qZ 11 10,qF 12 0 11,qF 13 2 12,qL 14 13,qM 15 1,qI 16 3 14 15,qA 17 3 16,qM 18 2,qD 19 178 17 18,qM 9 19,qE 20 9 0,qE 21 9 1,oB 7 (.alloc (.agg Lz1)),qS 3 7 20,qM 8 21] (.seq (oS [qM 22 8,qK 23 .eql 22 0] (cY 23 (.draw [qM 24 0,qZ 25 24,qF 26 0 25,qF 27 2 26,qL 28 27,uM 29 1 [0,1,2,3,4],uA 30 3 7 [0,1,2,3,4,5],qI 31 3 28 29,qX 3 31 30 4]) .skip)) (oR [qM 32 8,qK 33 .eql 32 0,qM 6 33])))
def ZAO:FnI:=⟨3,ZHu,[(6,none)]⟩
def ZHV:C:=oS [qO 2 0,qO 3 1,qW 4 0] (oS [qA 6 2 2,qC 7 39 6,qM 5 7] (.seq (oS [qM 8 5,qK 9 .eql 8 0,qM 10 9,vA 11 2 2 10 true,vA 12 2 3 10 true,vD 13 179 11 12 10 true,vU 14 13 10 true,qP 15 10 14] (cY 15 (.ops [qW 5 110]) .skip)) (oR [qM 16 5,qM 4 16])))
def ZAD:FnI:=⟨2,ZHV,[(4,none)]⟩
def ZxR:C:=oS [qB 35 .lss 34 33] (.seq (cX 35 0) (.seq (.block 1 (oS [qM 36 34,qI 37 3 32 34,qA 38 3 37,oB 5 (.alloc (.agg Lz1)),qM 4 36,qS 3 5 38] (.seq (.draw [qF 39 3 1,qL 40 39,uM 41 4 [0,1],qI 42 6 40 41,qA 43 6 42,uF 44 4 1 [0,1,2,3,4],⟨some 45,.load 1 false (.t 44),none,[0,1,2,3,4],1⟩,uM 46 4 [0,1,2,3,4,5,6],uI 47 1 45 46 [0,1,2,3,4],⟨some 48,.load 1 false (.t 47),none,[0,1,2,3,4],1⟩,oM 6 (.alloc (.d (.agg [.bool false,zD,zD,zD,zD,zD]))) [0,1,2,3,4,5,6,7,8,9],⟨none,.storek 6 (.t 6) (.t 43) [.t 44,.t 47],none,[],3⟩,qM 7 48]) (.seq (oS [qA 49 3 5,qC 50 180 49,qK 51 .neq 50 0,qM 52 51,vF 53 0 5 52 false,vL 54 53 52 false,vN 55 54 52 false,vK 56 .neq 55 64 52 false,qJ 57 52 56,qM 58 57,vF 59 5 6 58 false,vL 60 59 58 false,vK 61 .neq 60 0 58 false,qJ 62 58 61,qM 63 62,vM 64 7 63 false,vK 65 .lss 64 0 63 false,qJ 66 63 65,qM 67 66,vM 68 7 67 false,vM 69 3 67 false,vB 70 .geq 68 69 67 false,qJ 71 67 70,qM 72 71,vF 73 0 6 72 false,vL 74 73 72 false,vM 75 7 72 false,vK 76 .neq 75 0 72 false,oG 77 (.eqv [true] true (.t 74) (.t 76)) 72 false,qJ 78 72 77] (oC 78 [qff 2])) (oS [qF 79 0 1,qF 80 0 79,qL 81 80,qM 82 4,qI 83 1 81 82,qL 84 83,qK 85 .neq 84 (-1),qM 86 85,vA 87 6 6 86 true,oG 88 (.build Lz5 []) 86 true,oG 89 (.eqv [true,false,false,false,false,false] true (.t 87) (.t 88)) 86 true,vM 90 89 86 true,vM 91 7 90 false,vK 92 .neq 91 0 90 false,vJ 93 90 92 86 true,qP 94 86 93] (oC 94 [qff 2])))))) (.ops [qK 95 .add 34 1,qM 34 95])))
def ZGh:C:=oS [qO 1 0,qff 2] (oS [qF 8 0 1,qF 9 0 8,qL 10 9,qN 11 10,qM 3 11] (.seq (oS [qF 12 2 1,qL 13 12,qN 14 13,qM 15 3,qB 16 .neq 14 15,qM 17 16,vF 18 3 1 17 false,vL 19 18 17 false,vN 20 19 17 false,vM 21 3 17 false,vB 22 .neq 20 21 17 false,qJ 23 17 22,qM 24 23,vF 25 4 1 24 false,vL 26 25 24 false,vN 27 26 24 false,vM 28 3 24 false,vB 29 .neq 27 28 24 false,qJ 30 24 29] (oC 30 [qff 2])) (.seq (oS [qF 31 2 1,qL 32 31,qN 33 32,qW 34 0] (.block 0 (.loop [1,3,32,33,34] [2] ZxR))) (oR [qtt 2]))))
def ZAK:FnI:=⟨1,ZGh,[(2,none)]⟩
def Zxs:C:=oS [qB 32 .lss 31 30] (.seq (cX 32 0) (.seq (.block 1 (oS [qM 33 31,qM 3 33] (.draw [qF 34 2 1,qL 35 34,uM 36 3 [0,1],uF 37 2 1 [0,1,2],uL 38 37 [0,1,2],uM 39 3 [0,1,2,3,4],uI 40 3 38 39 [0,1,2],uF 41 0 40 [0,1,2],uL 42 41 [0,1,2],uC 43 45 42 [0,1,2],qI 44 3 35 36,qF 45 0 44,qX 1 45 43 4]))) (.ops [qK 46 .add 31 1,qM 31 46])))
def ZGZ:C:=oS [qO 1 0,oB 2 (.alloc (.agg Lz0))] (.seq (.draw [qF 4 0 1,qF 5 0 4,qL 6 5,qC 7 45 6,uF 8 0 1 [0,1,2,3],uF 9 1 8 [0,1,2,3],uL 10 9 [0,1,2,3],qC 11 45 10,uF 12 0 1 [7],uF 13 0 12 [7],qX 1 13 7 4,qF 14 0 1,qF 15 1 14,qX 1 15 11 4]) (.seq (.draw [qF 16 3 1,qL 17 16,qC 18 181 17,uF 19 4 1 [0,1,2],uL 20 19 [0,1,2],qC 21 45 20,uF 22 3 1 [5],qX 1 22 18 4,qF 23 4 1,qX 1 23 21 4]) (oS [qF 24 2 1,qL 25 24,qC 26 182 25,qF 27 2 1,qS 1 27 26] (.seq (oS [qF 28 2 1,qL 29 28,qN 30 29,qW 31 0] (.block 0 (.loop [1,2,30,31] [1,2] Zxs))) (oR [qA 47 5 1,qS 5 2 47])))))
def ZCy:FnI:=⟨1,ZGZ,[(2,some (5,true))]⟩
def Zxn:C:=.seq (oS [qM 15 7,qN 16 15,qK 17 .gtr 16 0] (cX 17 0)) (.seq (.block 1 (oS [qM 20 0,qM 21 7,qM 22 1,qM 23 6,oB 24 (.call 184 [.t 20,.t 21,.t 22,.t 23]),qM 8 24] (.seq (oS [qM 25 0,qM 26 8,qD 27 185 25 26,qM 9 27] (oS [qM 28 9,qK 29 .neq 28 0] (oC 29 [qM 30 9,qW 4 0,qM 5 30]))) (oS [qM 31 0,qM 32 8,qZ 33 31,qF 34 7 33,qS 1 34 32] (.ops [qM 35 6,qK 36 .add 35 1,qM 6 36]))))) (.ops [qM 18 0,qC 19 183 18,qM 7 19]))
def ZGX:C:=oS [qW 4 0,qW 5 0] (oS [qW 6 0] (oS [qM 10 0,qZ 11 10,qF 12 7 11,qR 1 12 (-1)] (.seq (oS [qM 13 0,qC 14 183 13,qM 7 14] (.block 0 (.loop [0,1,6,7] [4,5,6] Zxn))) (oR [qM 37 6,qM 4 37,qW 5 0]))))
def ZB3:FnI:=⟨2,ZGX,[(4,none),(5,none)]⟩
def Zx5:C:=oS [qB 81 .lss 80 79] (.seq (cX 81 2) (.seq (.block 3 (oS [qI 82 1 78 80,qL 83 82,qM 14 83] (.seq (oS [qM 84 8,qM 85 14,qD 86 55 84 85,qU 87 86,qM 88 87,vM 89 10 88 false,vM 90 14 88 false,vD 91 55 89 90 88 false,qJ 92 88 91] (cY 92 (.exit 3) .skip)) (.seq (oS [qM 93 9,qM 94 11,qM 95 14,oB 96 (.callv (.t 93) [.t 94,.t 95]),qU 97 96] (oC 97 [ZbA 2 1,qW 3 130])) (.ops [qM 98 10,qM 99 14,qH 100 99,qY 101 98 100,qM 10 101]))))) (.ops [qK 102 .add 80 1,qM 80 102])))
def Zx1:C:=oS [qB 55 .lss 54 53] (.seq (cX 55 0) (.seq (.block 1 (oS [qM 56 54,qI 57 1 52 54,qL 58 57,qM 11 56,qM 12 58] (.seq (oS [qM 59 12,qK 60 .eql 59 (-1),qM 61 60,vM 62 0 61 false,vZ 63 62 61 false,vF 64 0 63 61 false,vF 65 0 64 61 false,vF 66 0 65 61 false,vL 67 66 61 false,vM 68 11 61 false,vI 69 1 67 68 61 false,vL 70 69 61 false,vK 71 .neq 70 (-1) 61 false,qJ 72 61 71] (cY 72 (.exit 1) .skip)) (oS [qM 73 0,qZ 74 73,qF 75 5 74,qA 76 2 75,qM 77 12,qD 78 187 76 77,qN 79 78,qW 80 0] (.block 2 (.loop [0,6,8,9,10,11,52,53,54,78,79,80] [0,2,3,6,8,9,10,52,53,54] Zx5)))))) (.ops [qK 103 .add 54 1,qM 54 103])))
def ZGb:C:=oS [ZbA 2 1,qW 3 0] (oS [qM 15 0,qZ 16 15,qF 17 0 16,qF 18 0 17,qF 19 0 18,qL 20 19,qC 21 45 20,qM 4 21] (.seq (.draw [qM 23 0,qZ 24 23,qF 25 5 24,qA 26 2 25,uM 27 0 [0,1,2,3],uZ 28 27 [0,1,2,3],uF 29 0 28 [0,1,2,3],uF 30 0 29 [0,1,2,3],uA 31 2 30 [0,1,2,3],qD 32 186 26 31,qM 22 32,qE 33 22 0,uE 34 22 1 [11],uE 35 22 2 [11,12],oM 5 (.alloc (.agg Lz3)) [0,1,2,3,4,5,6,7,8,9,10,11,12,13],qX 2 5 33 4,uM 6 34 [13],qM 7 35]) (.seq (oS [qM 36 7,qK 37 .neq 36 0] (oC 37 [qM 38 7,ZbA 2 1,qM 3 38])) (oS [qM 39 0,qA 40 2 5,qZ 41 39,qF 42 0 41,qF 43 0 42,qS 2 43 40] (.seq (.draw [qM 44 0,qZ 45 44,qF 46 5 45,qA 47 2 46,uA 48 2 5 [0,1,2,3],qD 49 169 47 48,qM 8 49]) (oS [qM 50 0,oB 51 (.mkfn 1000170 [.t 50]),qM 9 51] (oS [ZbA 10 1] (.seq (oS [qM 52 4,qN 53 52,qW 54 0] (.block 0 (.loop [0,6,8,9,10,52,53,54] [2,3,6] Zx1))) (oR [qM 104 6,qM 2 104,qW 3 0])))))))))
def ZCf:FnI:=⟨1,ZGb,[(2,none),(3,none)]⟩
def ZHD:C:=oS [qW 2 0,qff 3] (.seq (oS [qM 4 0,qC 5 188 4,qK 6 .neq 5 0,qM 7 6,vM 8 0 7 false,oG 9 (.conv .u64 (.t 8)) 7 false,vC 10 189 9 7 false,vK 11 .neq 10 1 7 false,qJ 12 7 11] (oC 12 [qW 2 0,qff 3])) (oR [qM 13 0,oB 14 (.conv .u64 (.t 13)),qC 15 190 14,qM 2 15,qtt 3]))
def ZAa:FnI:=⟨1,ZHD,[(2,none),(3,none)]⟩
def Zxo:C:=oS [qB 11 .lss 10 9] (.seq (cX 11 0) (.seq (.block 1 (oS [qM 12 10,qM 6 12] (oS [qA 13 2 3,qM 14 6,qD 15 191 13 14,qU 16 15,qM 17 16,vF 18 0 3 17 true,vL 19 18 17 true,vM 20 6 17 true,vD 21 55 19 20 17 true,vU 22 21 17 true,qP 23 17 22,qM 24 23,vA 25 2 2 24 true,vA 26 2 3 24 true,vM 27 6 24 true,vG 28 192 25 26 27 24 true,qP 29 24 28] (cY 29 (.ops [qM 30 5,qM 31 6,qH 32 31,qY 33 30 32,qM 5 33]) .skip)))) (.ops [qK 34 .add 10 1,qM 10 34])))
def ZHo:C:=oS [qO 2 0,qO 3 1,ZbA 4 1] (oS [ZbA 5 1] (.seq (oS [qF 7 1 3,qL 8 7,qN 9 8,qW 10 0] (.block 0 (.loop [2,3,5,9,10] [5] Zxo))) (oR [qM 35 5,qM 4 35])))
def ZzM:FnI:=⟨2,ZHo,[(4,none)]⟩
def ZHI:C:=oS [qO 2 0,oB 4 (.alloc (.agg Lz1)),qW 5 0] (.seq (oS [qA 7 3 2,qC 8 180 7,qM 6 8] (oS [qM 9 6,qK 10 .neq 9 0] (oC 10 [oB 11 (.build Lz1 []),qM 12 6,qS 3 4 11,qM 5 12]))) (.seq (oS [qF 13 2 2,qL 14 13,qF 15 1 2,qL 16 15,qB 17 .lss 14 16,qM 18 17,vF 19 2 2 18 false,vL 20 19 18 false,vF 21 1 2 18 false,vL 22 21 18 false,vB 23 .sub 20 22 18 false,vF 24 0 2 18 false,vL 25 24 18 false,vN 26 25 18 false,vB 27 .eql 23 26 18 false,qJ 28 18 27] (oC 28 [oB 29 (.build Lz1 []),qS 3 4 29,qW 5 121])) (oS [qA 30 3 2,qC 31 193 30,qS 3 2 31] (.seq (.draw [qF 32 0 2,qL 33 32,uA 34 3 2 [0,1],uF 35 2 2 [0,1,2],uL 36 35 [0,1,2],uD 37 194 34 36 [0,1],uM 38 1 [0,1,2,3,4,5],qI 39 1 33 37,qX 1 39 38 4]) (oS [qF 40 2 2,qL 41 40,qK 42 .add 41 1,qF 43 2 2,qS 1 43 42] (oR [qA 44 3 2,qS 3 4 44,qW 5 0]))))))
def ZBP:FnI:=⟨2,ZHI,[(4,some (3,true)),(5,none)]⟩
def Zyn:C:=oS [qB 38 .lss 37 36] (.seq (cX 38 0) (.seq (.block 1 (oS [qM 39 37,qI 40 1 35 37,qL 41 40,qM 6 39,qM 7 41] (.seq (oS [qM 42 7,qK 43 .eql 42 (-1)] (cY 43 (.exit 1) .skip)) (oS [qM 44 7,qK 45 .lss 44 0,qM 46 45,vM 47 7 46 false,vF 48 1 3 46 false,vL 49 48 46 false,vN 50 49 46 false,vB 51 .geq 47 50 46 false,qJ 52 46 51,qM 53 52,vA 54 2 3 53 false,vM 55 7 53 false,vD 56 191 54 55 53 false,qJ 57 53 56,qM 58 57,vF 59 0 3 58 false,vL 60 59 58 false,vM 61 6 58 false,oG 62 (.slice 1 (.t 60) none (some (.t 61)) none) 58 false,vM 63 7 58 false,vD 64 55 62 63 58 false,qJ 65 58 64,qM 66 65,vA 67 2 2 66 false,vA 68 2 3 66 false,vM 69 7 66 false,vG 70 192 67 68 69 66 false,vU 71 70 66 false,qJ 72 66 71] (oC 72 [qff 4]))))) (.ops [qK 73 .add 37 1,qM 37 73])))
def Zyh:C:=oS [qB 78 .lss 77 76] (.seq (cX 78 2) (.seq (.block 3 (oS [qM 79 77,qM 8 79] (oS [qA 80 2 3,qM 81 8,qD 82 191 80 81,qM 83 82,vA 84 2 2 83 true,vA 85 2 3 83 true,vM 86 8 83 true,vG 87 192 84 85 86 83 true,vU 88 87 83 true,qP 89 83 88] (oC 89 [qff 4])))) (.ops [qK 90 .add 77 1,qM 77 90])))
def ZGG:C:=oS [qO 2 0,qO 3 1,qff 4] (oS [oB 5 (.mov (.c (.d (.fn 195 []))))] (.seq (oS [qF 9 0 3,qL 10 9,qN 11 10,qK 12 .lss 11 1,qM 13 12,vF 14 0 3 13 false,vL 15 14 13 false,vN 16 15 13 false,vK 17 .gtr 16 8 13 false,qJ 18 13 17,qM 19 18,vF 20 1 3 19 false,vL 21 20 19 false,vN 22 21 19 false,vF 23 0 2 19 false,vL 24 23 19 false,vN 25 24 19 false,vB 26 .neq 22 25 19 false,qJ 27 19 26,qM 28 27,vF 29 1 3 28 false,vL 30 29 28 false,vM 31 5 28 false,vD 32 66 30 31 28 false,qJ 33 28 32] (oC 33 [qff 4])) (.seq (oS [qF 34 0 3,qL 35 34,qN 36 35,qW 37 0] (.block 0 (.loop [2,3,35,36,37] [2,3,4] Zyn))) (.seq (oS [qF 74 1 3,qL 75 74,qN 76 75,qW 77 0] (.block 2 (.loop [2,3,76,77] [4] Zyh))) (oR [qtt 4])))))
def ZCN:FnI:=⟨2,ZGG,[(4,none)]⟩
def ZH0:C:=oS [qO 1 0,qW 2 0] (oS [qF 6 0 1,qL 7 6,qN 8 7,qC 9 176 8,qM 5 9,qE 10 5 0,qE 11 5 1,qM 3 10,qM 4 11] (.seq (oS [qM 12 4,qU 13 12,qM 14 13,vF 15 0 1 14 false,vL 16 15 14 false,vN 17 16 14 false,vK 18 .gtr 17 64 14 false,qJ 19 14 18,qM 20 19,vF 21 1 1 20 false,vL 22 21 20 false,vC 23 188 22 20 false,vK 24 .neq 23 0 20 false,qJ 25 20 24,qM 26 25,vF 27 2 1 26 false,vL 28 27 26 false,vF 29 1 1 26 false,vL 30 29 26 false,vK 31 .sub 30 1 26 false,vB 32 .lss 28 31 26 false,qJ 33 26 32,qM 34 33,vF 35 2 1 34 false,vL 36 35 34 false,vF 37 1 1 34 false,vL 38 37 34 false,vF 39 0 1 34 false,vL 40 39 34 false,vN 41 40 34 false,vB 42 .add 38 41 34 false,vB 43 .gtr 36 42 34 false,qJ 44 34 43] (oC 44 [qW 2 120])) (oR [qW 2 0])))
def Zz5:FnI:=⟨1,ZH0,[(2,none)]⟩
def ZHH:C:=oS [ZbA 2 6] (.seq (oS [qM 3 0,oB 4 (.nilq (.t 3))] (oC 4 [ZbA 2 6])) (oR [oB 5 (.bslice 6 [.bool false,zD,zD,zD,zD,zD] 0 []),qM 6 0,oB 7 (.append 6 (.t 5) (.t 6)),qM 2 7]))
def ZC0:FnI:=⟨1,ZHH,[(2,none)]⟩
def ZHZ:C:=oS [ZbA 2 3] (.seq (oS [qM 3 0,oB 4 (.nilq (.t 3))] (oC 4 [ZbA 2 3])) (oR [oB 5 (.bslice 3 [.list true [],zD,zD] 0 []),qM 6 0,oB 7 (.append 3 (.t 5) (.t 6)),qM 2 7]))
def ZBX:FnI:=⟨1,ZHZ,[(2,none)]⟩
def Zuj:C:=oS [qB 21 .lss 20 19] (.seq (cX 21 0) (.seq (.block 1 (oS [qM 22 20,qI 23 1 18 20,qL 24 23,qM 5 22,qM 6 24] (oS [qM 25 6,qK 26 .eql 25 (-1),qM 27 26,vM 28 3 27 true,vM 29 28 27 true,vM 30 0 29 false,vZ 31 30 29 false,vF 32 0 31 29 false,vF 33 3 32 29 false,vL 34 33 29 false,vM 35 5 29 false,vI 36 6 34 35 29 false,vF 37 1 36 29 false,vL 38 37 29 false,vK 39 .neq 38 0 29 false,vJ 40 29 39 27 true,qP 41 27 40] (cY 41 (.ops [qM 42 4,qM 43 5,qH 44 43,qY 45 42 44,qM 4 45]) .skip)))) (.ops [qK 46 .add 20 1,qM 20 46])))
def ZHr:C:=oS [ZbA 2 1] (oS [qM 7 0,qZ 8 7,qF 9 0 8,qF 10 2 9,qL 11 10,oB 12 (.call 196 [.t 11,(.c (.d (.fn 197 [])))]),qM 3 12] (oS [ZbA 4 1] (.seq (oS [qM 13 0,qZ 14 13,qF 15 0 14,qF 16 0 15,qF 17 0 16,qL 18 17,qN 19 18,qW 20 0] (.block 0 (.loop [0,3,4,18,19,20] [4] Zuj))) (oR [qM 47 4,qM 2 47]))))
def ZCr:FnI:=⟨1,ZHr,[(2,none)]⟩
def ZGR:C:=oS [qO 4 0,qW 8 0] (.seq (oS [qM 10 3,qM 11 2,qN 12 11,qB 13 .lss 10 12] (oC 13 [qM 14 1,qM 15 2,qM 16 3,qI 17 1 15 16,qL 18 17,oB 19 (.mx true [.t 18,(iN 0)]),qM 20 1,qN 21 20,qB 22 .rem 19 21,qI 23 1 14 22,qL 24 23,qM 8 24])) (oS [qM 25 1,oB 26 (.mkfn 198 [.t 4]),qD 27 99 25 26,qM 9 27] (oR [qM 28 1,qM 29 9,oB 30 (.mx true [.t 29,(iN 0)]),qI 31 1 28 30,qL 32 31,qM 8 32])))
def ZzE:FnI:=⟨4,ZGR,[(8,none)]⟩
def ZGg:C:=oS [qW 4 0] (oS [qM 10 0,qZ 11 10,qF 12 0 11,qF 13 0 12,qF 14 0 13,qL 15 14,qN 16 15,qM 5 16] (oS [qM 17 1,qM 18 0,qZ 19 18,qF 20 0 19,qF 21 4 20,qL 22 21,qM 23 1,qI 24 1 22 23,qL 25 24,qB 26 .add 17 25,qM 27 5,qB 28 .rem 26 27,qM 6 28] (.seq (.draw [qM 30 0,qZ 31 30,qF 32 0 31,qF 33 2 32,qL 34 33,uM 35 6 [0,1,2,3,4],qI 36 3 34 35,qA 37 3 36,uM 38 0 [0,1,2,3,4,5,6,7],uZ 39 38 [0,1,2,3,4,5,6,7],uF 40 0 39 [0,1,2,3,4,5,6,7],uF 41 3 40 [0,1,2,3,4,5,6,7],uL 42 41 [0,1,2,3,4,5,6,7],uM 43 1 [0,1,2,3,4,5,6,7,8,9,10,11,12],uI 44 6 42 43 [0,1,2,3,4,5,6,7],uA 45 6 44 [0,1,2,3,4,5,6,7],qD 46 199 37 45,qM 29 46,qE 47 29 0,uE 48 29 1 [18],uE 49 29 2 [18,19],oM 7 (.alloc (.agg Lz1)) [0,1,2,3,4,5,6,7,8,9,10,11,12,13,14,15,16,17,18,19,20],oM 8 (.alloc (.d (.agg [.bool false,zD,zD,zD,zD,zD]))) [0,1,2,3,4,5,6,7,8,9,10,11,12,13,14,15,16,17,18,19,20,21],qX 3 7 47 4,qX 6 8 48 4,qM 9 49]) (.seq (oS [qM 50 9,qK 51 .neq 50 0] (oC 51 [qW 4 130])) (.seq (.draw [qM 52 0,qZ 53 52,qF 54 0 53,qF 55 2 54,qL 56 55,uM 57 6 [0,1,2,3,4],uM 58 0 [0,1,2,3,4,5],uZ 59 58 [0,1,2,3,4,5],uF 60 0 59 [0,1,2,3,4,5],uF 61 3 60 [0,1,2,3,4,5],uL 62 61 [0,1,2,3,4,5],uM 63 1 [0,1,2,3,4,5,6,7,8,9,10],uA 64 3 7 [0,1,2,3,4,5,6,7,8,9,10,11],⟨some 65,.load 6 true (.t 8),none,[0,1,2,3,4,5,6,7,8,9,10,11,12],1⟩,uI 66 3 56 57 [11,13],⟨none,.storek 3 (.t 66) (.t 64) [.t 8],none,[],3⟩,qI 67 6 62 63,qX 6 67 65 4]) (.seq (oS [qF 68 5 8,qL 69 68] (.block 0 (oS [qK 71 .eql 69 1,qM 70 71] (cY 70 (.seq (.seq (.draw [qM 72 0,qZ 73 72,qF 74 5 73,qA 75 2 74,uM 76 0 [0,1,2,3],uZ 77 76 [0,1,2,3],uF 78 0 77 [0,1,2,3],uF 79 0 78 [0,1,2,3],uA 80 2 79 [0,1,2,3],qD 81 169 75 80,uF 82 4 8 [0,1,2,3,4,5,6,7,8,9],uL 83 82 [0,1,2,3,4,5,6,7,8,9],qD 84 55 81 83,qU 85 84]) (oC 85 [qW 4 130])) (.seq (.draw [qM 86 0,qZ 87 86,qF 88 0 87,qF 89 0 88,qF 90 0 89,qL 91 90,uM 92 1 [0,1,2,3,4,5],uF 93 4 8 [0,1,2,3,4,5,6],uL 94 93 [0,1,2,3,4,5,6],qI 95 1 91 92,qX 1 95 94 4]) (.ops [qM 96 0,qM 97 1,oB 98 (.call 200 [.t 96,.t 97,(iN 0)])]))) (.seq (oS [qK 100 .eql 69 2,qM 99 100] (cY 99 .skip (.ops [qK 101 .eql 69 3,qM 99 101]))) (cY 99 (.ops [qM 102 0,qM 103 1,qM 104 0,qZ 105 104,qF 106 0 105,qF 107 4 106,qL 108 107,qM 109 1,qI 110 1 108 109,qL 111 110,qK 112 .add 111 1,qM 113 5,qB 114 .rem 112 113,qG 115 200 102 103 114]) .skip)))))) (oR [qW 4 0])))))))
def ZCp:FnI:=⟨2,ZGg,[(4,none)]⟩
def ZHG:C:=oS [qO 2 0,qO 3 1,oB 4 (.alloc (.agg Lz3)),ZbA 5 1,qW 6 0] (.seq (oS [qA 9 2 2,qA 10 2 3,qD 11 171 9 10,qM 7 11] (oS [qM 12 7,qK 13 .neq 12 0] (oC 13 [oB 14 (.build Lz3 []),qM 15 7,qS 2 4 14,ZbA 5 1,qM 6 15]))) (oS [qA 16 2 3,qC 17 201 16,qS 2 3 17] (oS [qA 18 2 3,qC 19 202 18,qM 8 19] (oR [qA 20 2 3,qM 21 8,qS 2 4 20,qM 5 21,qW 6 0]))))
def ZAv:FnI:=⟨2,ZHG,[(4,some (2,true)),(5,none),(6,none)]⟩
def ZHq:C:=oS [qO 2 0,qO 3 1,ZbA 4 1] (.seq (oS [qA 5 2 2,qC 6 39 5,qK 7 .neq 6 0] (oC 7 [ZbA 4 1])) (oR [qA 8 2 2,oB 9 (.mkfn 203 [.t 3]),qD 10 92 8 9,qM 4 10]))
def ZzF:FnI:=⟨2,ZHq,[(4,none)]⟩
def ZG0:C:=oS [qW 2 0] (.seq (.block 0 (oS [qM 4 0,qK 5 .lss 4 0,qM 3 5] (cY 3 (oR [qW 2 10]) (oS [qM 7 0,qK 8 .gtr 7 1099511627775,qM 6 8] (oC 6 [qW 2 11]))))) (oR [qW 2 0]))
def ZCc:FnI:=⟨1,ZG0,[(2,none)]⟩
def ZF9:C:=oS [qW 2 0] (.seq (.cond bF (oR [qM 3 0,oB 4 (.conv .u32 (.t 3)),qC 5 204 4,qM 2 5]) .skip) (oR [qM 6 0,qC 7 205 6,qM 2 7]))
def ZBm:FnI:=⟨1,ZF9,[(2,none)]⟩
def ZHK:C:=oS [qW 2 0] (.seq (.cond bF (oR [qM 3 0,oB 4 (.conv .u32 (.t 3)),qC 5 206 4,qM 2 5]) .skip) (oR [qM 6 0,qC 7 207 6,qM 2 7]))
def ZBy:FnI:=⟨1,ZHK,[(2,none)]⟩
def ZGP:C:=oS [qO 2 0,qff 4] (oR [qF 5 1 2,qL 6 5,qM 7 1,qI 8 1 6 7,qL 9 8,qK 10 .eql 9 0,qM 4 10])
def ZCx:FnI:=⟨2,ZGP,[(4,none)]⟩
def ZGS:C:=oS [qO 3 0,qO 4 1,qO 5 2,qff 6] (oR [qF 7 1 3,qL 8 7,oB 9 (.mkfn 208 [.t 5,.t 4]),qD 10 89 8 9,qU 11 10,qM 6 11])
def Zzz:FnI:=⟨3,ZGS,[(6,none)]⟩
def ZHn:C:=oS [qO 1 0,oB 2 (.alloc (.agg Lz1))] (oS [qF 3 0 1,qL 4 3,qC 5 45 4,qF 6 0 1,qS 1 6 5] (oR [qA 7 3 1,qS 3 2 7]))
def ZAx:FnI:=⟨1,ZHn,[(2,some (3,true))]⟩
def ZGF:C:=oS [qO 2 0,qW 4 0] (oR [qM 5 1,oB 6 (.mx true [.t 5,(iN 0)]),qF 7 0 2,qL 8 7,qN 9 8,qB 10 .rem 6 9,qM 4 10])
def ZAc:FnI:=⟨2,ZGF,[(4,none)]⟩
def ZHg:C:=oS [qff 2] (oR [qM 3 0,qK 4 .lss 3 0,qM 5 4,vM 6 0 5 false,vK 7 .gtr 6 1000 5 false,qJ 8 5 7,qM 2 8])
def ZBJ:FnI:=⟨1,ZHg,[(2,none)]⟩
def ZGw:C:=oS [qff 4] (oR [qM 5 0,qM 6 1,qD 7 209 5 6,qK 8 .geq 7 0,qM 4 8])
def ZAQ:FnI:=⟨2,ZGw,[(4,none)]⟩
def ZGr:C:=oS [qO 1 0,qff 2] (oR [qF 3 2 1,qL 4 3,qF 5 1 1,qL 6 5,qB 7 .gtr 4 6,qM 2 7])
def ZAU:FnI:=⟨1,ZGr,[(2,none)]⟩
def ZGW:C:=oS [qff 3] (oR [qM 4 0,qL 5 1,qZ 6 5,qF 7 7 6,qL 8 7,qB 9 .gtr 4 8,qM 3 9])
def ZCI:FnI:=⟨2,ZGW,[(3,none)]⟩
def ZG2:C:=oS [qO 2 0,qO 3 1,oB 4 (.alloc (.agg Lz1)),oB 5 (.alloc (.d (.agg [.bool false,zD,zD,zD,zD,zD]))),qW 6 0] (.seq (oS [qA 9 3 2,qC 10 180 9,qM 7 10] (oS [qM 11 7,qK 12 .neq 11 0] (oC 12 [oB 13 (.build Lz1 []),oB 14 (.build Lz5 []),qM 15 7,qS 3 4 13,qS 6 5 14,qM 6 15]))) (.seq (oS [qA 16 6 3,qC 17 210 16,qU 18 17] (oC 18 [oB 19 (.build Lz1 []),oB 20 (.build Lz5 []),qS 3 4 19,qS 6 5 20,qW 6 122])) (oS [qA 21 3 2,qC 22 193 21,qS 3 2 22] (.seq (oS [qF 23 0 3,qL 24 23] (cY 24 (.ops [qD 25 211 2 3]) (.ops [qD 26 212 2 3]))) (.seq (oS [qA 27 3 2,qC 28 180 27,qM 8 28] (oS [qM 29 8,qK 30 .neq 29 0] (oC 30 [oB 31 (.build Lz1 []),oB 32 (.build Lz5 []),qM 33 8,qS 3 4 31,qS 6 5 32,qM 6 33]))) (.seq (.draw [qA 34 3 2,⟨some 35,.load 6 true (.t 3),none,[0],1⟩,⟨none,.storek 3 (.t 4) (.t 34) [.t 3],none,[],3⟩,qX 6 5 35 4,qW 6 0]) .ret))))))
def ZBc:FnI:=⟨2,ZG2,[(4,some (3,true)),(5,some (6,true)),(6,none)]⟩
def ZGt:C:=oS [qM 6 0,qZ 7 6,qF 8 0 7,qF 9 4 8,qL 10 9,qM 11 1,qM 12 2,qI 13 1 10 11,qS 1 13 12] (.ops [qM 14 0,qZ 15 14,qF 16 0 15,qF 17 3 16,qL 18 17,qM 19 1,qM 20 2,qK 21 .neq 20 0,oB 22 (.build Lz5 [(0,1,(.t 21))]),qI 23 6 18 19,qS 6 23 22])
def ZCa:FnI:=⟨3,ZGt,[]⟩
def ZHm:C:=oS [qO 1 0,oB 2 (.alloc (.agg Lz3))] (.seq (.draw [qF 3 0 1,qL 4 3,qC 5 45 4,uF 6 1 1 [0,1,2],uL 7 6 [0,1,2],qC 8 45 7,oB 9 (.build Lz3 [(0,1,(.t 5)),(1,1,(.t 8))]),qX 2 2 9 4]) .ret)
def ZBD:FnI:=⟨1,ZHm,[(2,some (2,true))]⟩
def Zyi:C:=oS [qB 10 .lss 9 8] (.seq (cX 10 0) (.seq (.block 1 (oS [qM 11 9,qI 12 1 7 9,qL 13 12,qM 4 11,qM 5 13] (.seq (oS [qM 14 5,qK 15 .eql 14 (-1)] (cY 15 (.exit 1) .skip)) (oS [qF 16 1 1,qL 17 16,qM 18 5,qI 19 1 17 18,qL 20 19,qK 21 .sub 20 1,qI 22 1 17 18,qS 1 22 21] (oS [qA 23 2 1,qM 24 5,qD 25 191 23 24] (cY 25 (oS [qF 26 0 1,qL 27 26,qM 28 4,qI 29 1 27 28,qR 1 29 (-1)] (.ops [qM 30 3,qM 31 5,qH 32 31,qY 33 30 32,qM 3 33])) .skip)))))) (.ops [qK 34 .add 9 1,qM 9 34])))
def ZGT:C:=oS [qO 1 0,ZbA 2 1] (oS [ZbA 3 1] (.seq (oS [qF 6 0 1,qL 7 6,qN 8 7,qW 9 0] (.block 0 (.loop [1,3,7,8,9] [3] Zyi))) (oS [qM 35 3,qC 36 110 35] (oR [qM 37 3,qM 2 37]))))
def ZAC:FnI:=⟨1,ZGT,[(2,none)]⟩
def ZHJ:C:=oS [qO 2 0,qW 3 0,qff 4] (.seq (.draw [qF 5 1 2,qL 6 5,uF 7 0 2 [0,1],uL 8 7 [0,1],uL 9 1 [0,1,2,3],oM 10 (.bin .eql (.t 8) (.t 9)) [0,1],uM 3 6 [2,3,4,5],qM 4 10]) .ret)
def ZCQ:FnI:=⟨2,ZHJ,[(3,none),(4,none)]⟩
def ZGD:C:=oS [qW 2 0] (.seq (.draw [qM 3 0,oB 4 (.bin .shr (.t 3) (.c (.d (.int .u64 24)))),oB 5 (.indexS (.c (.d (.str zT0))) (.t 4)),uM 6 0 [0,1,2],oM 7 (.bin .shr (.t 6) (.c (.d (.int .u64 16)))) [0,1,2],oM 8 (.bin .and (.t 7) (.c (.d (.int .u32 255)))) [0,1,2],oM 9 (.indexS (.c (.d (.str zT0))) (.t 8)) [0,1,2],qB 10 .add 5 9,uM 11 0 [0,1,2,3,4,5,6,7],oM 12 (.bin .shr (.t 11) (.c (.d (.int .u64 8)))) [0,1,2,3,4,5,6,7],oM 13 (.bin .and (.t 12) (.c (.d (.int .u32 255)))) [0,1,2,3,4,5,6,7],oM 14 (.indexS (.c (.d (.str zT0))) (.t 13)) [0,1,2,3,4,5,6,7],qB 15 .add 10 14,uM 16 0 [0,1,2,3,4,5,6,7,8,9,10,11,12],oM 17 (.bin .and (.t 16) (.c (.d (.int .u32 255)))) [0,1,2,3,4,5,6,7,8,9,10,11,12],oM 18 (.indexS (.c (.d (.str zT0))) (.t 17)) [0,1,2,3,4,5,6,7,8,9,10,11,12],qB 19 .add 15 18,oB 20 (.conv .i64 (.t 19)),qM 2 20]) .ret)
def ZEd:FnI:=⟨1,ZGD,[(2,none)]⟩
def ZHX:C:=oS [qW 2 0] (oS [qM 3 0,oB 4 (.bin .shr (.t 3) (.c (.d (.int .u64 1)))),oB 5 (.bin .and (.t 4) (.c (.d (.int .u64 6148914691236517205)))),qM 6 0,oB 7 (.bin .and (.t 6) (.c (.d (.int .u64 6148914691236517205)))),qB 8 .add 5 7,qM 0 8] (oS [qM 9 0,oB 10 (.bin .shr (.t 9) (.c (.d (.int .u64 2)))),oB 11 (.bin .and (.t 10) (.c (.d (.int .u64 3689348814741910323)))),qM 12 0,oB 13 (.bin .and (.t 12) (.c (.d (.int .u64 3689348814741910323)))),qB 14 .add 11 13,qM 0 14] (oS [qM 15 0,oB 16 (.bin .shr (.t 15) (.c (.d (.int .u64 4)))),qM 17 0,qB 18 .add 16 17,oB 19 (.bin .and (.t 18) (.c (.d (.int .u64 1085102592571150095)))),qM 0 19] (oS [qM 20 0,qM 21 0,oB 22 (.bin .shr (.t 21) (.c (.d (.int .u64 8)))),qB 23 .add 20 22,qM 0 23] (oS [qM 24 0,qM 25 0,oB 26 (.bin .shr (.t 25) (.c (.d (.int .u64 16)))),qB 27 .add 24 26,qM 0 27] (oS [qM 28 0,qM 29 0,oB 30 (.bin .shr (.t 29) (.c (.d (.int .u64 32)))),qB 31 .add 28 30,qM 0 31] (oR [qM 32 0,oB 33 (.conv .i64 (.t 32)),qK 34 .and 33 127,qM 2 34])))))))
def ZCD:FnI:=⟨1,ZHX,[(2,none)]⟩
def ZHY:C:=oR [⟨some 2,.bin .eql (.t 0) (.c (.d (.int .u64 0))),none,[],0⟩,⟨some 3,.mov (.c .bad),none,[],0⟩]
def ZEc:FnI:=⟨1,ZHY,[(3,none)]⟩
def ZGs:C:=oS [qO 3 0,qff 4] (oR [qF 5 1 3,qL 6 5,qL 7 1,qB 8 .eql 6 7,qM 9 8,vA 10 2 2 9 true,vF 11 0 3 9 true,vL 12 11 9 true,vD 13 191 10 12 9 true,vU 14 13 9 true,qP 15 9 14,qM 4 15])
def ZAd:FnI:=⟨3,ZGs,[(4,none)]⟩
def ZxX:C:=oS [qB 9 .lss 8 7] (.seq (cX 9 0) (.seq (.block 1 (oS [qM 10 8,qM 5 10] (oS [qM 11 1,qM 12 0,qM 13 5,qI 14 3 12 13,qA 15 3 14,qV 16 11 15] (oC 16 [qM 17 5,qM 4 17])))) (.ops [qK 18 .add 8 1,qM 8 18])))
def ZGn:C:=oS [qW 4 0] (.seq (oS [qM 6 0,qN 7 6,qW 8 0] (.block 0 (.loop [0,1,7,8] [4] ZxX))) (oR [qW 4 (-1)]))
def ZB0:FnI:=⟨2,ZGn,[(4,none)]⟩
def ZH2:C:=oS [qO 1 0,qff 2] (oS [qW 3 4] (.seq (oS [qF 5 0 1,qL 6 5] (cY 6 (.ops [qW 3 3]) .skip)) (oS [oB 4 (.mov (.c (.d (.fn 213 []))))] (oR [qF 7 5 1,qL 8 7,qK 9 .eql 8 0,qM 10 9,vF 11 1 1 10 true,vL 12 11 10 true,vK 13 .geq 12 0 10 true,qP 14 10 13,qM 15 14,vF 16 1 1 15 true,vL 17 16 15 true,vM 18 3 15 true,vB 19 .leq 17 18 15 true,qP 20 15 19,qM 21 20,vF 22 1 1 21 true,vL 23 22 21 true,vK 24 .eql 23 0 21 true,vM 25 24 21 true,vM 26 4 25 false,vF 27 2 1 25 false,vL 28 27 25 false,vV 29 26 28 25 false,vU 30 29 25 false,vM 31 30 25 false,vM 32 4 31 true,vF 33 3 1 31 true,vL 34 33 31 true,vV 35 32 34 31 true,vU 36 35 31 true,oG 37 (.pick (.t 31) (.t 36) bF) 25 false,vJ 38 25 37 21 true,qP 39 21 38,qM 2 39]))))
def ZCP:FnI:=⟨1,ZH2,[(2,none)]⟩
def ZH6:C:=.block 1000 (.seq (oS [qM 4 1,qZ 5 4,qF 6 1 5,qL 7 6] (.block 0 (oS [qK 9 .eql 7 0,qM 8 9] (cY 8 (.seq (.seq .skip (oR [qM 26 1,qM 27 1,qM 28 0,qZ 29 28,qF 30 1 29,qL 31 30,qZ 32 26,qF 33 2 32,qS 1 33 31,qZ 34 27,qF 35 1 34,qR 1 35 1])) (.exit 1000)) (oS [qK 11 .eql 7 1,qM 10 11] (cY 10 (.seq (.seq .skip (oS [qM 36 1,qM 37 1,qM 38 0,qZ 39 38,qF 40 2 39,qL 41 40,qZ 42 36,qF 43 3 42,qS 1 43 41,qZ 44 37,qF 45 1 44,qR 1 45 2] (.seq (.seq (.draw [qM 46 1,qZ 47 46,qF 48 2 47,qL 49 48,uM 50 1 [0,1,2,3],uZ 51 50 [0,1,2,3],uF 52 3 51 [0,1,2,3],uL 53 52 [0,1,2,3],qB 54 .geq 49 53]) (cY 54 (.ops [qM 55 1,qM 56 1,qZ 57 55,qF 58 1 57,qR 1 58 1,qZ 59 56,qF 60 5 59,qR 1 60 2]) .skip)) .ret))) (.exit 1000)) (oS [qK 13 .eql 7 2,qM 12 13] (cY 12 (.seq (.seq .skip (.draw [qM 61 1,uM 62 1 [0],uM 63 0 [0,1],uZ 64 63 [0,1],uF 65 0 64 [0,1],uL 66 65 [0,1],uM 67 0 [0,1,2,3,4,5],uZ 68 67 [0,1,2,3,4,5],uA 69 3 68 [0,1,2,3,4,5],uM 70 1 [0,1,2,3,4,5,6,7,8],uZ 71 70 [0,1,2,3,4,5,6,7,8],uF 72 2 71 [0,1,2,3,4,5,6,7,8],uL 73 72 [0,1,2,3,4,5,6,7,8],uD 74 194 69 73 [0,1,2,3,4,5],uI 75 1 66 74 [0,1],uL 76 75 [0,1],uZ 77 61 [1],uF 78 4 77 [1],qX 1 78 76 4,qZ 79 62,qF 80 1 79,⟨none,.store 1 (.t 80) (iN 3),none,[],4⟩])) (.exit 1000)) .skip)))))))) (oS [qM 14 1,qZ 15 14,qF 16 5 15,qR 1 16 3] (.seq (oS [qM 17 0,qM 18 1,qD 19 214 17 18] (cY 19 (.ops [qM 20 1,qZ 21 20,qF 22 5 21,qR 1 22 1]) (.ops [qM 23 1,qZ 24 23,qF 25 4 24,qR 1 25 0]))) .ret)))
def ZBp:FnI:=⟨2,ZH6,[]⟩
def ZGH:C:=.block 1000 (.seq (oS [qM 4 1,qZ 5 4,qF 6 1 5,qL 7 6] (.block 0 (oS [qK 9 .eql 7 0,qM 8 9] (cY 8 (.seq (.seq .skip (oS [qM 33 0,qZ 34 33,qF 35 2 34,qL 36 35,qK 37 .sub 36 1,qZ 38 33,qF 39 2 38,qS 1 39 37] (oR [qM 40 1,qM 41 1,qM 42 0,qZ 43 42,qF 44 2 43,qL 45 44,qZ 46 40,qF 47 3 46,qS 1 47 45,qZ 48 41,qF 49 1 48,qR 1 49 1]))) (.exit 1000)) (oS [qK 11 .eql 7 1,qM 10 11] (cY 10 (.seq (.seq .skip (oS [qM 50 1,qM 51 0,qZ 52 51,qF 53 1 52,qL 54 53,qZ 55 50,qF 56 2 55,qS 1 56 54] (.seq (.block 1 (.seq (.draw [qM 61 1,qZ 62 61,qF 63 2 62,qL 64 63,uM 65 1 [0,1,2,3],uZ 66 65 [0,1,2,3],uF 67 3 66 [0,1,2,3],uL 68 67 [0,1,2,3],qB 69 .lss 64 68,qM 60 69]) (cY 60 (.draw [qM 70 1,uM 71 1 [0],uM 72 0 [0,1],uZ 73 72 [0,1],uF 74 0 73 [0,1],uL 75 74 [0,1],uM 76 0 [0,1,2,3,4,5],uZ 77 76 [0,1,2,3,4,5],uA 78 3 77 [0,1,2,3,4,5],uM 79 1 [0,1,2,3,4,5,6,7,8],uZ 80 79 [0,1,2,3,4,5,6,7,8],uF 81 3 80 [0,1,2,3,4,5,6,7,8],uL 82 81 [0,1,2,3,4,5,6,7,8],uD 83 194 78 82 [0,1,2,3,4,5],uI 84 1 75 83 [0,1],uL 85 84 [0,1],uZ 86 70 [1],uF 87 4 86 [1],qX 1 87 85 4,qZ 88 71,qF 89 5 88,⟨none,.store 1 (.t 89) (iN 1),none,[],4⟩]) (.seq (.draw [qM 91 1,qZ 92 91,qF 93 2 92,qL 94 93,uM 95 1 [0,1,2,3],uZ 96 95 [0,1,2,3],uF 97 3 96 [0,1,2,3],uL 98 97 [0,1,2,3],qB 99 .eql 94 98,qM 90 99]) (cY 90 (.ops [qM 100 1,qZ 101 100,qF 102 1 101,qR 1 102 2]) (.ops [qM 57 1,qZ 58 57,qF 59 1 58,qR 1 59 3])))))) .ret))) (.exit 1000)) (oS [qK 13 .eql 7 2,qM 12 13] (cY 12 (.seq (.seq .skip (oS [qM 103 1,qZ 104 103,qF 105 1 104,qR 1 105 3] (oS [qM 106 0,qM 107 1,qD 108 214 106 107] (cY 108 (.draw [qM 109 1,uM 110 1 [0],uM 111 0 [0,1],uZ 112 111 [0,1],uF 113 0 112 [0,1],uL 114 113 [0,1],uM 115 0 [0,1,2,3,4,5],uZ 116 115 [0,1,2,3,4,5],uA 117 3 116 [0,1,2,3,4,5],uM 118 1 [0,1,2,3,4,5,6,7,8],uZ 119 118 [0,1,2,3,4,5,6,7,8],uF 120 3 119 [0,1,2,3,4,5,6,7,8],uL 121 120 [0,1,2,3,4,5,6,7,8],uD 122 194 117 121 [0,1,2,3,4,5],uI 123 1 114 122 [0,1],uL 124 123 [0,1],uZ 125 109 [1],uF 126 4 125 [1],qX 1 126 124 4,qZ 127 110,qF 128 1 127,⟨none,.store 1 (.t 128) (iN 4),none,[],4⟩]) .skip)))) (.exit 1000)) .skip)))))))) (oS [qM 14 0,qM 15 1,qZ 16 15,qF 17 3 16,qL 18 17,qK 19 .add 18 1,qZ 20 14,qF 21 2 20,qS 1 21 19] (oS [qM 22 1,qZ 23 22,qF 24 5 23,qR 1 24 2] (.seq (oS [qM 25 1,qZ 26 25,qF 27 1 26,qL 28 27,qK 29 .eql 28 4] (cY 29 (.ops [qM 30 1,qZ 31 30,qF 32 5 31,qR 1 32 1]) .skip)) .ret))))
def ZBW:FnI:=⟨2,ZGH,[]⟩
def ZHA:C:=oS [qff 2] (oR [qM 3 0,qK 4 .lss 3 (-1),qM 5 4,vM 6 0 5 false,vK 7 .gtr 6 1099511627775 5 false,qJ 8 5 7,qM 2 8])
def ZB2:FnI:=⟨1,ZHA,[(2,none)]⟩
def ZH4:C:=oS [qff 4] (.seq (.seq (.draw [qM 5 0,qZ 6 5,qF 7 1 6,qL 8 7,uM 9 1 [0,1,2,3],uZ 10 9 [0,1,2,3],uF 11 2 10 [0,1,2,3],uL 12 11 [0,1,2,3],qB 13 .neq 8 12]) (oC 13 [qff 4])) (oS [qM 14 0,qZ 15 14,qF 16 1 15,qL 17 16,qK 18 .add 17 1,qZ 19 14,qF 20 1 19,qS 1 20 18] (oR [qtt 4])))
def ZBw:FnI:=⟨2,ZH4,[(4,none)]⟩
def ZGi:C:=oS [qO 4 0,qO 5 1,oB 8 (.alloc (.agg Lz0)),qW 9 0] (oS [qA 13 2 5,qM 14 2,qM 15 3,qG 16 167 13 14 15,qM 12 16,qE 17 12 0,qE 18 12 1,oB 10 (.alloc (.agg Lz3)),qS 2 10 17,qM 11 18] (oR [qA 19 2 10,oB 20 (.build Lz0 [(0,2,(.t 19))]),qM 21 11,qS 5 8 20,qM 9 21]))
def ZBb:FnI:=⟨4,ZGi,[(8,some (5,true)),(9,none)]⟩
def ZGJ:C:=oS [qO 3 0,qO 4 1,qO 5 2,qW 6 0] (.seq (oS [qF 7 2 5,qL 8 7,qN 9 8,qK 10 .gtr 9 0,qM 11 10,vF 12 3 5 11 false,vL 13 12 11 false,vN 14 13 11 false,vK 15 .gtr 14 0 11 false,qJ 16 11 15,qM 17 16,vF 18 4 5 17 false,vL 19 18 17 false,vN 20 19 17 false,vK 21 .gtr 20 0 17 false,qJ 22 17 21] (oC 22 [qW 6 190])) (oR [qA 23 2 4,qF 24 0 5,qA 25 2 24,qD 26 171 23 25,qM 6 26]))
def ZEf:FnI:=⟨3,ZGJ,[(6,none)]⟩
def ZHf:C:=oS [qO 4 0,qO 5 1,qO 6 2,oB 8 (.alloc (.agg Lz0)),qW 9 0,qW 10 0] (oS [qA 14 2 5,qF 15 0 6,qA 16 2 15,qD 17 219 14 16,qM 13 17,qE 18 13 0,qE 19 13 1,oB 11 (.alloc (.agg Lz3)),qS 2 11 18,qM 12 19] (oR [qA 20 2 11,oB 21 (.build Lz0 [(0,2,(.t 20))]),qM 22 12,qS 5 8 21,qW 9 0,qM 10 22]))
def ZzP:FnI:=⟨4,ZHf,[(8,some (5,true)),(9,none),(10,none)]⟩
def ZHv:C:=oS [qO 3 0,qO 4 1,qO 5 2,oB 6 (.alloc (.agg Lz0)),ZbA 7 1,qW 8 0] (oS [qA 13 2 4,qF 14 0 5,qA 15 2 14,qD 16 186 13 15,qM 12 16,qE 17 12 0,qE 18 12 1,qE 19 12 2,oB 9 (.alloc (.agg Lz3)),qS 2 9 17,qM 10 18,qM 11 19] (oR [qA 20 2 9,oB 21 (.build Lz0 [(0,2,(.t 20))]),qM 22 10,qM 23 11,qS 5 6 21,qM 7 22,qM 8 23]))
def ZBN:FnI:=⟨3,ZHv,[(6,some (5,true)),(7,none),(8,none)]⟩
def ZHB:C:=oS [qO 2 0,qO 3 1,oB 4 (.alloc (.agg Lz3)),qW 5 0] (.seq (oS [qA 7 2 2,qA 8 2 3,qD 9 171 7 8,qM 6 9] (oS [qM 10 6,qK 11 .neq 10 0] (oC 11 [oB 12 (.build Lz3 []),qM 13 6,qS 2 4 12,qM 5 13]))) (oS [qA 14 2 3,qC 15 201 14,qS 2 3 15] (oS [qA 16 2 2,qA 17 2 3,qD 18 220 16 17] (oR [qA 19 2 3,qS 2 4 19,qW 5 0]))))
def ZCz:FnI:=⟨2,ZHB,[(4,some (2,true)),(5,none)]⟩
def Zxj:C:=oS [qB 14 .lss 13 12] (.seq (cX 14 0) (.seq (.block 1 (oS [qM 15 13,qI 16 1 11 13,qL 17 16,qM 5 15,qM 6 17] (oS [qM 18 6,qK 19 .eql 18 (-1),qM 20 19,vM 21 4 20 true,vN 22 21 20 true,vK 23 .gtr 22 0 20 true,qP 24 20 23] (cY 24 (.draw [qF 25 0 3,qL 26 25,uM 27 5 [0,1],uM 28 4 [0,1,2],oM 29 (.iaddr 1 (.t 28) (iN 0)) [0,1,2],uL 30 29 [0,1,2],uM 31 4 [0,1,2,3,4,5],oM 32 (.slice 1 (.t 31) (some (iN 1)) none none) [0,1,2,3,4,5],uI 33 1 26 27 [6,7],qX 1 33 30 3,qM 4 32]) .skip)))) (.ops [qK 34 .add 13 1,qM 13 34])))
def ZGq:C:=oS [qO 2 0,qO 3 1] (oS [qA 7 2 2,qA 8 2 3,qD 9 177 7 8,qM 4 9] (oS [qF 10 0 3,qL 11 10,qN 12 11,qW 13 0] (.block 0 (.loop [3,4,11,12,13] [] Zxj))))
def ZBF:FnI:=⟨2,ZGq,[]⟩
def code:Nat->Option FnI
 | 4=>some fn4
 | 9=>some fn9
 | 11=>some ZHO
 | 12=>some ZE0
 | 14=>some ZFZ
 | 15=>some ZFI
 | 16=>some ZFV
 | 17=>some ZH5
 | 18=>some ZFX
 | 19=>some ZEu
 | 20=>some ZE4
 | 21=>some ZFG
 | 22=>some ZFf
 | 23=>some ZFU
 | 24=>some ZEE
 | 25=>some ZHx
 | 28=>some ZEV
 | 30=>some ZEK
 | 33=>some ZHN
 | 34=>some ZET
 | 36=>some ZFM
 | 38=>some ZEs
 | 39=>some ZEq
 | 40=>some ZEv
 | 41=>some ZFb
 | 42=>some ZF6
 | 43=>some ZFk
 | 44=>some ZFB
 | 45=>some ZFe
 | 46=>some ZFg
 | 47=>some ZEz
 | 48=>some ZFm
 | 49=>some ZF1
 | 50=>some ZF4
 | 51=>some ZFa
 | 52=>some ZFT
 | 53=>some ZF3
 | 55=>some ZES
 | 56=>some ZFc
 | 59=>some ZEG
 | 60=>some ZGc
 | 61=>some ZG3
 | 64=>some ZEX
 | 65=>some ZF7
 | 66=>some Zy1
 | 67=>some ZEW
 | 68=>some ZEy
 | 69=>some ZFL
 | 70=>some ZFA
 | 71=>some ZFj
 | 72=>some ZEr
 | 73=>some ZEL
 | 74=>some ZFn
 | 75=>some ZEZ
 | 76=>some ZEY
 | 77=>some ZEx
 | 78=>some ZFQ
 | 79=>some ZEN
 | 80=>some ZFS
 | 81=>some ZDc
 | 82=>some ZFK
 | 83=>some ZEM
 | 84=>some ZFu
 | 85=>some ZEC
 | 86=>some ZFv
 | 87=>some ZFo
 | 88=>some ZFl
 | 89=>some ZDB
 | 90=>some ZFF
 | 91=>some ZE5
 | 92=>some ZEw
 | 94=>some ZFC
 | 95=>some ZHk
 | 96=>some ZGI
 | 97=>some ZHd
 | 98=>some ZHL
 | 99=>some Zv5
 | 100=>some ZCi
 | 101=>some ZAq
 | 102=>some ZAW
 | 103=>some ZBd
 | 104=>some ZAB
 | 105=>some ZBU
 | 106=>some ZAu
 | 107=>some ZAZ
 | 108=>some ZAF
 | 109=>some ZxP
 | 110=>some ZEh
 | 111=>some ZzG
 | 112=>some ZCv
 | 113=>some ZCT
 | 114=>some ZAX
 | 115=>some ZCj
 | 118=>some ZBC
 | 119=>some ZBz
 | 120=>some ZxV
 | 121=>some Zz7
 | 133=>some ZAP
 | 134=>some ZzJ
 | 135=>some ZAt
 | 159=>some ZCS
 | 160=>some ZEp
 | 161=>some Zz2
 | 162=>some ZCC
 | 163=>some ZCE
 | 164=>some ZCV
 | 165=>some ZAj
 | 166=>some ZAs
 | 167=>some ZzT
 | 168=>some ZCq
 | 169=>some ZBk
 | 170=>some ZAO
 | 171=>some ZAD
 | 172=>some ZAK
 | 173=>some ZCy
 | 174=>some ZB3
 | 175=>some ZCf
 | 176=>some ZAa
 | 177=>some ZzM
 | 178=>some ZBP
 | 179=>some ZCN
 | 180=>some Zz5
 | 181=>some ZC0
 | 182=>some ZBX
 | 183=>some ZCr
 | 184=>some ZzE
 | 185=>some ZCp
 | 186=>some ZAv
 | 187=>some ZzF
 | 188=>some ZCc
 | 189=>some ZBm
 | 190=>some ZBy
 | 191=>some ZCx
 | 192=>some Zzz
 | 193=>some ZAx
 | 194=>some ZAc
 | 195=>some ZBJ
 | 196=>some ZAQ
 | 197=>some ZAU
 | 198=>some ZCI
 | 199=>some ZBc
 | 200=>some ZCa
 | 201=>some ZBD
 | 202=>some ZAC
 | 203=>some ZCQ
 | 204=>some ZEd
 | 205=>some ZCD
 | 207=>some ZEc
 | 208=>some ZAd
 | 209=>some ZB0
 | 210=>some ZCP
 | 211=>some ZBp
 | 212=>some ZBW
 | 213=>some ZB2
 | 214=>some ZBw
 | 215=>some ZBb
 | 216=>some ZEf
 | 217=>some ZzP
 | 218=>some ZBN
 | 219=>some ZCz
 | 220=>some ZBF
 | _=>none
def mode:Nat->Nat
 | 12=>1
 | 14=>1
 | 45=>1
 | 52=>2
 | 53=>2
 | 81=>3
 | 85=>2
 | 87=>2
 | 110=>2
 | 120=>3
 | 163=>1
 | 167=>1
 | 170=>2
 | 173=>1
 | 174=>2
 | 175=>2
 | 176=>2
 | 181=>1
 | 182=>1
 | 185=>2
 | 186=>1
 | 190=>2
 | 193=>1
 | 200=>2
 | 201=>1
 | 202=>2
 | 207=>2
 | 211=>2
 | 212=>2
 | 214=>2
 | 220=>2
 | _=>0
def ctx:Ctx:=⟨code,mode⟩
end Go.Proofs.YtgcfmiajkbbmeaaGreat
namespace Go.Proofs.YtgcfmiajkbbmeaaGreatE
open Go
open Go.IntKind (u64 i64 u32 i32 u8)
open Nat (succ_mul lt_of_lt_of_le le_trans lt_or_ge zero_le add_zero zero_mul zero_add add_mul ble_eq)
section
def Zjy (f:Nat) (us:List Value):Value:=bif isU f then .func (.func f) #[] us.toArray else bif Nat.beq f 2000000 then .func (.method Zjs) us.toArray #[] else .func (.func (unB f)) us.toArray #[]
theorem Zr2 (f:Nat) (us:List Value):(Zjy f us).cells.toList=[Zjy f us]:=by unfold Zjy;cases isU f<;>cases Nat.beq f 2000000<;>rfl
theorem Zvd (f:Nat) (us:List Value):(Zjy f us).cells = #[Zjy f us]:=by unfold Zjy;cases isU f<;>cases Nat.beq f 2000000<;>rfl
theorem ZqJ {f:Nat} (h:isU f=true) (us:List Value):Zjy f us = .func (.func f) #[] us.toArray:=by unfold Zjy;rw[h];rfl
mutual
def Zaf (A1 A0 AL:Nat->Prop) (w:World):D->Value->Prop
 | .bool b,u=>u = .bool b
 | .int k n,u=>u = .int k n
 | .str s,u=>u = .string s
 | .list own xs,u=>∃a len cap,u = .slice a len cap/\len=xs.length/\len<=cap/\(∀x∈xs,x.esc=true) /\
   (xs≠[]->∃b off sz,a=some ⟨b,off,none⟩/\(match own with | true=>A1 b | false=>A0 b)/\b<w.heap.size/\ZeG A1 A0 AL w b sz off xs)
 | .agg cs,u=>∃us:List Value,u = .agg us.toArray/\Z6 A1 A0 AL w cs us
 | .tup cs,u=>∃us:List Value,u = .tuple us.toArray/\Z6 A1 A0 AL w cs us
 | .fn f caps,u=>∃us:List Value,u=Zjy f us/\Z6 A1 AL AL w caps us
 | .nilfn,u=>u = .nilFunc
 | .rptr cs,u=>∃b off,u = .pointer (some ⟨b,off,none⟩)/\A0 b/\b<w.heap.size/\Zbt A1 A0 AL w b off cs
 | .nilp,u=>u = .pointer none
 | .iface t v,u=>∃u',u = .iface t u'/\Zaf A1 A0 AL w v u'
 | .nilI,u=>u = .nilIface
def Z6 (A1 A0 AL:Nat->Prop) (w:World):List D->List Value->Prop
 | [],us=>us=[]
 | x :: xs,us=>∃u us',us=u :: us'/\Zaf A1 A0 AL w x u/\Z6 A1 A0 AL w xs us'
def Zbt (A1 A0 AL:Nat->Prop) (w:World) (b off:Nat):List D->Prop
 | []=>True
 | x :: xs=>(∃u,w.cell? ⟨b,off,none⟩=some u/\Zaf A1 A0 AL w x u)/\Zbt A1 A0 AL w b (off+1) xs
def ZeG (A1 A0 AL:Nat->Prop) (w:World) (b sz off:Nat):List D->Prop
 | []=>True
 | x :: xs=>(∃u,Zaf A1 A0 AL w x u/\u.cells.size=sz/\∀k v,u.cells[k]? = some v->w.cell? ⟨b,off+k,none⟩=some v)/\ZeG A1 A0 AL w b sz (off+sz) xs
end
section
variable {A1 A1' A0 A0' AL AL':Nat->Prop} {w w':World}
theorem Zti {b:Nat} (h:w'.heap[b]? = w.heap[b]?) (off:Nat):w'.cell? ⟨b,off,none⟩=w.cell? ⟨b,off,none⟩:=by
 unfold World.cell?;simp only[h]
mutual
theorem Zaf.change (A1 A1' A0 A0':Nat->Prop) (h1:∀b,b<w.heap.size->A1 b->A1' b) (h0:∀b,b<w.heap.size->A0 b->A0' b) (hL:∀b,b<w.heap.size->AL b->AL' b)
  (hw:∀b,b<w.heap.size->AL b->w'.heap[b]? = w.heap[b]?) (hs:w.heap.size<=w'.heap.size) (s0:∀b,A0 b->AL b) (s1:∀b,A1 b->AL b) :
  ∀(x:D) (u:Value),Zaf A1 A0 AL w x u->Zaf A1' A0' AL' w' x u
 | .bool b,u,h=>h
 | .int k n,u,h=>h
 | .str s,u,h=>h
 | .list own xs,u,h=>by
  obtain⟨a,len,cap,e1,e2,e3,e4,e5⟩:=h
  refine⟨a,len,cap,e1,e2,e3,e4,fun hne=>?_⟩
  obtain⟨b,off,sz,f1,f2,f3,f4⟩:=e5 hne
  have hb:AL b:=by
   cases own
   ·exact s0 _ f2
   ·exact s1 _ f2
  refine⟨b,off,sz,f1,?_,by omega,ZeG.change A1 A1' A0 A0' h1 h0 hL hw hs s0 s1 b sz off xs (hw b f3 hb) f4⟩
  cases own
  ·exact h0 _ f3 f2
  ·exact h1 _ f3 f2
 | .agg cs,u,h=>by
  obtain⟨us,e1,e2⟩:=h
  exact⟨us,e1,Z6.change A1 A1' A0 A0' h1 h0 hL hw hs s0 s1 cs us e2⟩
 | .tup cs,u,h=>by
  obtain⟨us,e1,e2⟩:=h
  exact⟨us,e1,Z6.change A1 A1' A0 A0' h1 h0 hL hw hs s0 s1 cs us e2⟩
 | .fn f caps,u,h=>by
  obtain⟨us,e1,e2⟩:=h
  exact⟨us,e1,Z6.change A1 A1' AL AL' h1 hL hL hw hs (fun _ h=>h) s1 caps us e2⟩
 | .nilfn,u,h=>h
 | .rptr cs,u,h=>by
  obtain⟨b,off,e1,e2,e3,e4⟩:=h
  exact⟨b,off,e1,h0 _ e3 e2,by omega,Zbt.change A1 A1' A0 A0' h1 h0 hL hw hs s0 s1 b off cs (hw b e3 (s0 _ e2)) e4⟩
 | .nilp,u,h=>h
 | .iface t v,u,h=>by
  obtain⟨u',e1,e2⟩:=h
  exact⟨u',e1,Zaf.change A1 A1' A0 A0' h1 h0 hL hw hs s0 s1 v u' e2⟩
 | .nilI,u,h=>h
theorem Z6.change (A1 A1' A0 A0':Nat->Prop) (h1:∀b,b<w.heap.size->A1 b->A1' b) (h0:∀b,b<w.heap.size->A0 b->A0' b) (hL:∀b,b<w.heap.size->AL b->AL' b)
  (hw:∀b,b<w.heap.size->AL b->w'.heap[b]? = w.heap[b]?) (hs:w.heap.size<=w'.heap.size) (s0:∀b,A0 b->AL b) (s1:∀b,A1 b->AL b) :
  ∀(xs:List D) (us:List Value),Z6 A1 A0 AL w xs us->Z6 A1' A0' AL' w' xs us
 | [],us,h=>h
 | x :: xs,us,h=>by
  obtain⟨u,us',e1,e2,e3⟩:=h
  exact⟨u,us',e1,Zaf.change A1 A1' A0 A0' h1 h0 hL hw hs s0 s1 x u e2,Z6.change A1 A1' A0 A0' h1 h0 hL hw hs s0 s1 xs us' e3⟩
theorem Zbt.change (A1 A1' A0 A0':Nat->Prop) (h1:∀b,b<w.heap.size->A1 b->A1' b) (h0:∀b,b<w.heap.size->A0 b->A0' b) (hL:∀b,b<w.heap.size->AL b->AL' b)
  (hw:∀b,b<w.heap.size->AL b->w'.heap[b]? = w.heap[b]?) (hs:w.heap.size<=w'.heap.size) (s0:∀b,A0 b->AL b) (s1:∀b,A1 b->AL b) (b off:Nat) :
  ∀(xs:List D),w'.heap[b]? = w.heap[b]? -> Zbt A1 A0 AL w b off xs->Zbt A1' A0' AL' w' b off xs
 | [],_,h=>trivial
 | x :: xs,hb,h=>by
  obtain⟨⟨u,e1,e2⟩,e3⟩:=h
  exact⟨⟨u,by rw[Zti hb];exact e1,Zaf.change A1 A1' A0 A0' h1 h0 hL hw hs s0 s1 x u e2⟩,Zbt.change A1 A1' A0 A0' h1 h0 hL hw hs s0 s1 b (off+1) xs hb e3⟩
theorem ZeG.change (A1 A1' A0 A0':Nat->Prop) (h1:∀b,b<w.heap.size->A1 b->A1' b) (h0:∀b,b<w.heap.size->A0 b->A0' b) (hL:∀b,b<w.heap.size->AL b->AL' b)
  (hw:∀b,b<w.heap.size->AL b->w'.heap[b]? = w.heap[b]?) (hs:w.heap.size<=w'.heap.size) (s0:∀b,A0 b->AL b) (s1:∀b,A1 b->AL b) (b sz off:Nat) :
  ∀(xs:List D),w'.heap[b]? = w.heap[b]? -> ZeG A1 A0 AL w b sz off xs->ZeG A1' A0' AL' w' b sz off xs
 | [],_,h=>trivial
 | x :: xs,hb,h=>by
  obtain⟨⟨u,e1,e2,e3⟩,e4⟩:=h
  exact⟨⟨u,Zaf.change A1 A1' A0 A0' h1 h0 hL hw hs s0 s1 x u e1,e2,fun k v hk=>by rw[Zti hb];exact e3 k v hk⟩,
   ZeG.change A1 A1' A0 A0' h1 h0 hL hw hs s0 s1 b sz (off+sz) xs hb e4⟩
end
mutual
theorem Zaf.lift (h1:∀b,A1 b->A1' b):∀(x:D) (u:Value),x.esc=true->Zaf A1 A0 AL w x u->Zaf A1' A0' AL' w x u
 | .bool b,u,_,h=>h
 | .int k n,u,_,h=>h
 | .str s,u,_,h=>h
 | .list own xs,u,he,h=>by
  obtain⟨a,len,cap,e1,e2,e3,e4,e5⟩:=h
  simp only[D.esc] at he
  subst he
  refine⟨a,len,cap,e1,e2,e3,e4,fun hne=>?_⟩
  obtain⟨b,off,sz,f1,f2,f3,f4⟩:=e5 hne
  exact⟨b,off,sz,f1,h1 _ f2,f3,ZeG.lift h1 b sz off xs e4 f4⟩
 | .agg cs,u,he,h=>by
  obtain⟨us,e1,e2⟩:=h
  exact⟨us,e1,Z6.lift h1 cs us he e2⟩
 | .tup cs,u,he,h=>by simp[D.esc] at he
 | .fn f caps,u,he,h=>by
  obtain⟨us,e1,e2⟩:=h
  simp only[D.esc,List.isEmpty_iff] at he
  subst he
  exact⟨us,e1,e2⟩
 | .nilfn,u,_,h=>h
 | .rptr cs,u,he,h=>by simp[D.esc] at he
 | .nilp,u,_,h=>h
 | .iface t v,u,he,h=>by
  obtain⟨u',e1,e2⟩:=h
  exact⟨u',e1,Zaf.lift h1 v u' he e2⟩
 | .nilI,u,_,h=>h
theorem Z6.lift (h1:∀b,A1 b->A1' b):∀(xs:List D) (us:List Value),D.escs xs=true->Z6 A1 A0 AL w xs us->Z6 A1' A0' AL' w xs us
 | [],us,_,h=>h
 | x :: xs,us,he,h=>by
  obtain⟨u,us',e1,e2,e3⟩:=h
  simp only[D.escs,aT] at he
  exact⟨u,us',e1,Zaf.lift h1 x u he.1 e2,Z6.lift h1 xs us' he.2.2 e3⟩
theorem ZeG.lift (h1:∀b,A1 b->A1' b) (b sz off:Nat):∀(xs:List D),(∀x∈xs,x.esc=true)->ZeG A1 A0 AL w b sz off xs->ZeG A1' A0' AL' w b sz off xs
 | [],_,h=>trivial
 | x :: xs,he,h=>by
  obtain⟨⟨u,e1,e2,e3⟩,e4⟩:=h
  exact⟨⟨u,Zaf.lift h1 x u (he x (by simp)) e1,e2,e3⟩,ZeG.lift h1 b sz (off+sz) xs (fun y hy=>he y (by simp[hy])) e4⟩
end
end
theorem Z6.liftT {A1 A1' A0 A0' AL AL':Nat->Prop}{w:World} (h1:∀b,A1 b->A1' b):∀(xs:List D) (us:List Value),Zw0 xs=true->Z6 A1 A0 AL w xs us->Z6 A1' A0' AL' w xs us
 | [],us,_,h=>h
 | x :: xs,us,he,h=>by
  obtain⟨u,us',e1,e2,e3⟩:=h
  simp only[Zw0,aT] at he
  exact⟨u,us',e1,Zaf.lift h1 x u he.1 e2,Z6.liftT h1 xs us' he.2 e3⟩
theorem ZI {α:Type}:∀(l:List α) (n:Nat),nth l n=l[n]?
 | [],n=>by simp[nth]
 | a :: l,0=>by simp[nth]
 | a :: l,n+1=>by simp[nth,ZI l n]
theorem Zah {α:Type}:∀(l:List α) (n:Nat) (v:α),ZbL l n v=l.set n v
 | [],n,v=>by simp[ZbL]
 | a :: l,0,v=>by simp[ZbL]
 | a :: l,n+1,v=>by simp[ZbL,Zah l n v]
theorem Zi2 {α:Type} (l:List α) (i:Int) (x:α) (h:Zt l i=some x):0<=i/\i<l.length/\l[i.toNat]? = some x:=by
 unfold Zt at h
 by_cases h0:0<=i
 ·simp only[h0,decide_true,cT,ZI] at h
  have:=(gQ h).1
  exact⟨h0,by omega,h⟩
 ·simp[h0] at h
section
variable {A1 A0 AL:Nat->Prop} {w:World}
theorem ZjH {b sz:Nat}:∀(xs:List D) (off j:Nat) (x:D),ZeG A1 A0 AL w b sz off xs->xs[j]? = some x ->
  ∃u,Zaf A1 A0 AL w x u/\u.cells.size=sz/\∀k v,u.cells[k]? = some v->w.cell? ⟨b,off+j*sz+k,none⟩=some v
 | [],off,j,x,_,hj=>by simp at hj
 | y :: xs,off,0,x,h,hj=>by
  simp at hj;subst hj
  obtain⟨⟨u,e1,e2,e3⟩,_⟩:=h
  exact⟨u,e1,e2,by simpa using e3⟩
 | y :: xs,off,j+1,x,h,hj=>by
  obtain⟨u,e1,e2,e3⟩:=ZjH xs (off+sz) j x h.2 (by simpa using hj)
  exact⟨u,e1,e2,fun k v hk=>by rw[<- e3 k v hk];congr 2;rw[succ_mul];omega⟩
theorem Zh6 {b sz:Nat}:∀(xs:List D) (off:Nat),(∀(j:Nat) x,xs[j]? = some x->∃u,Zaf A1 A0 AL w x u/\u.cells.size=sz/\∀k v,u.cells[k]? = some v->w.cell? ⟨b,off+j*sz+k,none⟩=some v) ->
  ZeG A1 A0 AL w b sz off xs
 | [],off,_=>trivial
 | y :: xs,off,h=>by
  refine⟨by simpa using h 0 y (by simp),Zh6 xs (off+sz) fun j x hj=>?_⟩
  obtain⟨u,e1,e2,e3⟩:=h (j+1) x (by simpa using hj)
  exact⟨u,e1,e2,fun k v hk=>by rw[<- e3 k v hk];congr 2;rw[succ_mul];omega⟩
theorem Zi3 {b:Nat}:∀(xs:List D) (off j:Nat) (x:D),Zbt A1 A0 AL w b off xs->xs[j]? = some x->∃u,w.cell? ⟨b,off+j,none⟩=some u/\Zaf A1 A0 AL w x u
 | [],off,j,x,_,hj=>by simp at hj
 | y :: xs,off,0,x,h,hj=>by simp at hj;subst hj;simpa using h.1
 | y :: xs,off,j+1,x,h,hj=>by
  have:=Zi3 xs (off+1) j x h.2 (by simpa using hj)
  rwa [show off+1+j=off+(j+1) from by omega] at this
theorem Zhj {b:Nat}:∀(xs:List D) (off:Nat),(∀(j:Nat) x,xs[j]? = some x->∃u,w.cell? ⟨b,off+j,none⟩=some u/\Zaf A1 A0 AL w x u)->Zbt A1 A0 AL w b off xs
 | [],off,_=>trivial
 | y :: xs,off,h=>⟨by simpa using h 0 y (by simp),Zhj xs (off+1) fun j x hj=>by
   have:=h (j+1) x (by simpa using hj)
   rwa [show off+(j+1)=off+1+j from by omega] at this⟩
theorem ZsV {b:Nat} (xs:List D) (off n:Nat) (h:Zbt A1 A0 AL w b off xs):Zbt A1 A0 AL w b (off+n) (xs.drop n):=
 Zhj _ _ fun j x hj=>by
  have:=Zi3 xs off (n+j) x h (by simpa using hj)
  rwa [<- Nat.add_assoc] at this
theorem Zfd:∀(xs:List D) (us:List Value) (j:Nat) (x:D),Z6 A1 A0 AL w xs us->xs[j]? = some x->∃u,us[j]? = some u/\Zaf A1 A0 AL w x u
 | [],us,j,x,_,hj=>by simp at hj
 | y :: xs,us,0,x,h,hj=>by
  obtain⟨u,us',rfl,e1,e2⟩:=h
  simp at hj;subst hj
  exact⟨u,by simp,e1⟩
 | y :: xs,us,j+1,x,h,hj=>by
  obtain⟨u,us',rfl,e1,e2⟩:=h
  simpa using Zfd xs us' j x e2 (by simpa using hj)
theorem ZsZ:∀(xs:List D) (us:List Value),Z6 A1 A0 AL w xs us->us.length=xs.length
 | [],us,h=>by simp only[Z6] at h;subst h;rfl
 | y :: xs,us,h=>by
  obtain⟨u,us',rfl,e1,e2⟩:=h
  simp[ZsZ xs us' e2]
end
structure RP where
 B1:Nat->Prop
 B0:Nat->Prop
 M:Nat->Option (Option Nat)
 H:Zi
def RP.live (R:RP) (c:Nat):Prop:=∃i,ZN R.H i=true/\R.M i=some (some c)
def RP.AL (R:RP) (c:Nat):Prop:=¬R.live c
def RP.A0 (R:RP) (c:Nat):Prop:=¬R.live c/\¬R.B0 c
def RP.A1 (R:RP) (c:Nat):Prop:=¬R.live c/\¬R.B1 c
abbrev RP.den (R:RP) (w:World) (x:D) (u:Value):Prop:=Zaf R.A1 R.A0 R.AL w x u
def Zt9 (w:World) (m:Option Nat) (xs:List D) (sz o len:Nat) (u:Value):Prop:=
 o+len<=xs.length/\∃a cap,u = .slice a len cap/\len<=cap /\
  ((cap=0/\o=xs.length)∨∃c cs el fr,m=some c/\a=some ⟨c,o*sz,none⟩/\w.heap[c]? = some (.cells cs el fr)/\cs.size=(o+cap)*sz)
mutual
def Z5 (R:RP) (w:World):V->Value->Prop
 | .d x,u=>R.den w x u
 | .bad,_=>True
 | .ptr b o,u=>∃c,R.M b=some (some c)/\u = .pointer (some ⟨c,o,none⟩)
 | .eptr b sz i k,u=>∃c,R.M b=some (some c)/\u = .pointer (some ⟨c,i*sz+k,none⟩)
 | .sl b sz,u=>(∃a n c,u = .slice a n c)/\∃m,R.M b=some m/\∀xs,nth R.H b=some (.arr sz xs)->Zt9 w m xs sz 0 xs.length u
 | .slp b sz o len,u=>(∃a n c,u = .slice a n c)/\∃m,R.M b=some m/\∀xs,nth R.H b=some (.arr sz xs)->Zt9 w m xs sz o len u
 | .nilsl _,u=>∃a,u = .slice a 0 0
 | .agg cs,u=>∃us:List Value,u = .agg us.toArray/\ZY R w cs us
 | .tup cs,u=>∃us:List Value,u = .tuple us.toArray/\ZY R w cs us
 | .fn f caps,u=>∃us:List Value,u=Zjy f us/\ZY R w caps us
 | .mp b,u=>(∃a,u = .map a)/\∃m,R.M b=some m/\∀es,nth R.H b=some (.mp es)->∃c,m=some c/\u = .map (some c)
 | .ch b,u=>(∃a,u = .chan a)/\∃m,R.M b=some m/\∀xs,nth R.H b=some (.ch xs)->∃c,m=some c/\u = .chan (some c)
def ZY (R:RP) (w:World):List V->List Value->Prop
 | [],us=>us=[]
 | x :: xs,us=>∃u us',us=u :: us'/\Z5 R w x u/\ZY R w xs us'
end
end
section
def ZuT (fr:Nat×Nat):Prop:=fr.2<=fr.1
theorem ZuT.not {w:World}{c:Nat}{cs:Array Value}{el:TypeId}{fr:Nat×Nat} (h:ZuT fr) (hc:w.heap[c]? = some (.cells cs el fr)) (o:Nat):w.frozen? ⟨c,o,none⟩=false:=by
 unfold ZuT at h
 simp only[World.frozen?,hc]
 by_cases h1:fr.1<=o
 ·by_cases h2:o<fr.2
  ·omega
  ·simp[h2]
 ·simp[h1]
def Zew:D->Value
 | .bool b=>.bool b
 | .int k n=>.int k n
 | _=>undef
def Zjx:D->Value
 | .agg cs=>.agg (cs.map Zew).toArray
 | x=>Zew x
def Zne:D->Bool
 | .agg cs=>cs.all ZhB
 | x=>ZhB x
structure ZIV (w:World) (c:Nat) (es:List (D×D)):Prop where
 mk ::
 ex:∃mes clock,w.heap[c]? = some (.map mes clock)/\mes.toList.map (fun e=>(e.key,e.val))=es.map (fun q=>(Zjx q.1,Zew q.2))
 fl:∀q∈es,Zne q.1=true/\ZhB q.2=true
def ZID (w:World) (c:Nat) (xs:List Int):Prop:=∃cap s r,w.heap[c]? = some (.chan cap (xs.map fun n=>Value.int .i64 n).toArray false s r false)
def Zgl (R:RP) (w:World) (m:Option Nat):Blk->Prop
 | .dead=>True
 | .cells vs=>∃c cs el fr,m=some c/\w.heap[c]? = some (.cells cs el fr)/\ZuT fr/\vs.length<=cs.size/\∀(k:Nat) v,vs[k]? = some v->∃u,cs[k]? = some u/\Z5 R w v u
 | .arr sz xs=>0<sz/\(∀x∈xs,x.esc=true)/\((m=none/\xs=[])∨∃c cs el,m=some c/\w.heap[c]? = some (.cells cs el (0,0))/\xs.length*sz<=cs.size /\
   ∀(j:Nat) x,xs[j]? = some x->∃u,R.den w x u/\u.cells.size=sz/\∀(k:Nat) v,u.cells[k]? = some v->cs[j*sz+k]? = some v)
 | .mp es=>∃c,m=some c/\ZIV w c es
 | .ch xs=>∃c,m=some c/\ZID w c xs
structure RP.OK (R:RP) (w:World):Prop where
 b01:∀c,R.B0 c->R.B1 c
 al:∀(i:Nat) blk,R.H[i]? = some blk->blk ≠ .dead->∃m,R.M i=some m
 inj:∀i j c,ZN R.H i=true->ZN R.H j=true->R.M i=some (some c)->R.M j=some (some c)->i=j
 lt:∀i c,R.M i=some (some c)->c<w.heap.size
 blk:∀(i:Nat) m blk,R.H[i]? = some blk->R.M i=some m->Zgl R w m blk
 nb:∀i c,ZN R.H i=true->R.M i=some (some c)->¬R.B1 c
 bl:∀c,R.B1 c->c<w.heap.size
theorem Zm {H:Zi}{i:Nat}:ZN H i=true↔∃blk,H[i]? = some blk/\blk ≠ .dead:=by
 unfold ZN
 rw[ZI]
 cases h:H[i]? with
 | none=>simp
 | some blk=>cases blk<;>simp
def Blk.like:Blk->Blk->Prop
 | .cells _,.cells _=>True
 | .arr sz xs,.arr sz' ys=>sz=sz'/\ys.length=xs.length
 | .mp _,.mp _=>True
 | .ch _,.ch _=>True
 | _,_=>False
structure Ext (R:RP) (w:World) (R':RP) (w':World):Prop where
 m:∀i x,R.M i=some x->R'.M i=some x
 h:∀(i:Nat) x blk,R.M i=some x->R'.H[i]? = some blk->blk ≠ .dead->∃old,R.H[i]? = some old/\old.like blk
 b1:R'.B1=R.B1
 b0:R'.B0=R.B0
 same:∀(b:Nat),b<w.heap.size->¬R.live b->w'.heap[b]? = w.heap[b]?
 row:∀(b:Nat) cs el fr,w.heap[b]? = some (Obj.cells cs el fr)->∃cs' el' fr',w'.heap[b]? = some (Obj.cells cs' el' fr')/\cs'.size=cs.size
 grow:w.heap.size<=w'.heap.size
 liv:∀c,c<w.heap.size->R'.live c->R.live c
 os:w'.os=w.os
 tape:w'.tape=w.tape
 output:w'.output=w.output
theorem Blk.like_refl {b:Blk} (h:b ≠ .dead):b.like b:=by cases b<;>simp_all [Blk.like]
theorem Ext.refl (R:RP) (w:World):Ext R w R w:=
 ⟨fun _ _ h=>h,fun i x blk _ h hd=>⟨blk,h,Blk.like_refl hd⟩,rfl,rfl,fun _ _ _=>rfl,fun _ cs el fr h=>⟨cs,el,fr,h,rfl⟩,Nat.le_refl _,fun _ _ h=>h,rfl,rfl,rfl⟩
theorem Blk.like_trans {a b c:Blk} (h:a.like b) (k:b.like c):a.like c:=by
 cases a<;>cases b<;>cases c<;>simp_all [Blk.like]
theorem Blk.like_ne {a b:Blk} (h:a.like b):a ≠ .dead:=by cases a<;>cases b<;>simp_all [Blk.like]
theorem Ext.trans {R R1 R2:RP}{w w1 w2:World} (h:Ext R w R1 w1) (k:Ext R1 w1 R2 w2):Ext R w R2 w2 where
 m:=fun i x hx=>k.m i x (h.m i x hx)
 h:=fun i x blk hx hb hd=>by
  obtain⟨o1,e1,e2⟩:=k.h i x blk (h.m i x hx) hb hd
  obtain⟨o,f1,f2⟩:=h.h i x o1 hx e1 (Blk.like_ne e2)
  exact⟨o,f1,Blk.like_trans f2 e2⟩
 b1:=k.b1.trans h.b1
 b0:=k.b0.trans h.b0
 same:=fun b hb hl=>(k.same b (lt_of_lt_of_le hb h.grow) (fun hl'=>hl (h.liv b hb hl'))).trans (h.same b hb hl)
 row:=fun b cs el fr hb=>by
  obtain⟨cs1,el1,fr1,e1,e2⟩:=h.row b cs el fr hb
  obtain⟨cs2,el2,fr2,f1,f2⟩:=k.row b cs1 el1 fr1 e1
  exact⟨cs2,el2,fr2,f1,f2.trans e2⟩
 grow:=le_trans h.grow k.grow
 liv:=fun c hc hl=>h.liv c hc (k.liv c (lt_of_lt_of_le hc h.grow) hl)
 os:=k.os.trans h.os
 tape:=k.tape.trans h.tape
 output:=k.output.trans h.output
section
variable {R R':RP} {w w':World}
theorem Ext.den (e:Ext R w R' w') (hb:∀c,R.B0 c->R.B1 c) {x:D}{u:Value} (h:R.den w x u):R'.den w' x u:=by
 refine Zaf.change _ _ _ _ ?_ ?_ ?_ ?_ e.grow ?_ ?_ x u h
 ·exact fun b hb' ⟨h1,h2⟩=>⟨fun hl=>h1 (e.liv b hb' hl),by rw[e.b1];exact h2⟩
 ·exact fun b hb' ⟨h1,h2⟩=>⟨fun hl=>h1 (e.liv b hb' hl),by rw[e.b0];exact h2⟩
 ·exact fun b hb' h1 hl=>h1 (e.liv b hb' hl)
 ·exact fun b hb' hl=>e.same b hb' hl
 ·exact fun b h=>h.1
 ·exact fun b h=>h.1
theorem Ext.slAt (e:Ext R w R' w') {m:Option Nat}{xs ys:List D}{sz o len:Nat}{u:Value} (hl:ys.length=xs.length) (h:Zt9 w m xs sz o len u):Zt9 w' m ys sz o len u:=by
 obtain⟨h1,a,cap,h2,h3,h4⟩:=h
 refine⟨by omega,a,cap,h2,h3,?_⟩
 rcases h4 with⟨h4,h5⟩ | ⟨c,cs,el,fr,h4,h5,h6,h7⟩
 ·exact .inl ⟨h4,by omega⟩
 ·obtain⟨cs',el',fr',f1,f2⟩:=e.row c cs el fr h6
  exact .inr ⟨c,cs',el',fr',h4,h5,f1,by omega⟩
mutual
theorem Ext.denV (e:Ext R w R' w') (hb:∀c,R.B0 c->R.B1 c):∀(v:V) (u:Value),Z5 R w v u->Z5 R' w' v u
 | .d x,u,h=>e.den hb h
 | .bad,_,h=>h
 | .ptr b o,u,h=>by
  obtain⟨c,h1,h2⟩:=h
  exact⟨c,e.m b _ h1,h2⟩
 | .eptr b sz i k,u,h=>by
  obtain⟨c,h1,h2⟩:=h
  exact⟨c,e.m b _ h1,h2⟩
 | .sl b sz,u,h=>by
  obtain⟨h0,m,h1,h2⟩:=h
  refine⟨h0,m,e.m b m h1,fun xs hc=>?_⟩
  rw[ZI] at hc
  obtain⟨old,f1,f2⟩:=e.h b m _ h1 hc (by simp)
  cases old<;>simp[Blk.like] at f2
  rename_i sz0 xs0
  obtain⟨rfl,f2⟩:=f2
  have:=e.slAt f2 (h2 xs0 (by rw[ZI];exact f1))
  rw[f2]
  exact this
 | .slp b sz o len,u,h=>by
  obtain⟨h0,m,h1,h2⟩:=h
  refine⟨h0,m,e.m b m h1,fun xs hc=>?_⟩
  rw[ZI] at hc
  obtain⟨old,f1,f2⟩:=e.h b m _ h1 hc (by simp)
  cases old<;>simp[Blk.like] at f2
  rename_i sz0 xs0
  obtain⟨rfl,f2⟩:=f2
  exact e.slAt f2 (h2 xs0 (by rw[ZI];exact f1))
 | .nilsl sz,u,h=>h
 | .agg cs,u,h=>by
  obtain⟨us,h1,h2⟩:=h
  exact⟨us,h1,Ext.denVs e hb cs us h2⟩
 | .tup cs,u,h=>by
  obtain⟨us,h1,h2⟩:=h
  exact⟨us,h1,Ext.denVs e hb cs us h2⟩
 | .fn f caps,u,h=>by
  obtain⟨us,h1,h2⟩:=h
  exact⟨us,h1,Ext.denVs e hb caps us h2⟩
 | .mp b,u,h=>by
  obtain⟨h0,m,h1,h2⟩:=h
  refine⟨h0,m,e.m b m h1,fun es hc=>?_⟩
  rw[ZI] at hc
  obtain⟨old,f1,f2⟩:=e.h b m _ h1 hc (by simp)
  cases old<;>simp[Blk.like] at f2
  rename_i es0
  exact h2 es0 (by rw[ZI];exact f1)
 | .ch b,u,h=>by
  obtain⟨h0,m,h1,h2⟩:=h
  refine⟨h0,m,e.m b m h1,fun es hc=>?_⟩
  rw[ZI] at hc
  obtain⟨old,f1,f2⟩:=e.h b m _ h1 hc (by simp)
  cases old<;>simp[Blk.like] at f2
  rename_i es0
  exact h2 es0 (by rw[ZI];exact f1)
theorem Ext.denVs (e:Ext R w R' w') (hb:∀c,R.B0 c->R.B1 c):∀(vs:List V) (us:List Value),ZY R w vs us->ZY R' w' vs us
 | [],us,h=>h
 | v :: vs,us,h=>by
  obtain⟨u,us',h1,h2,h3⟩:=h
  exact⟨u,us',h1,Ext.denV e hb v u h2,Ext.denVs e hb vs us' h3⟩
end
theorem Ext.blkOK (e:Ext R w R' w') (hb:∀c,R.B0 c->R.B1 c) {m:Option Nat}{blk:Blk} (hs:∀(c:Nat),m=some c->w'.heap[c]? = w.heap[c]?) (h:Zgl R w m blk):Zgl R' w' m blk:=by
 cases blk with
 | dead=>trivial
 | cells vs=>
  obtain⟨c,cs,el,fr,h1,h2,h3,h4,h5⟩:=h
  refine⟨c,cs,el,fr,h1,by rw[hs c h1];exact h2,h3,h4,fun k v hk=>?_⟩
  obtain⟨u,f1,f2⟩:=h5 k v hk
  exact⟨u,f1,e.denV hb v u f2⟩
 | arr sz xs=>
  obtain⟨h0,h1,h2⟩:=h
  refine⟨h0,h1,?_⟩
  rcases h2 with h2 | ⟨c,cs,el,h3,h4,h5,h6⟩
  ·exact .inl h2
  ·refine .inr ⟨c,cs,el,h3,by rw[hs c h3];exact h4,h5,fun j x hj=>?_⟩
   obtain⟨u,f1,f2,f3⟩:=h6 j x hj
   exact⟨u,e.den hb f1,f2,f3⟩
 | mp es=>
  obtain⟨c,h1,⟨mes,clock,h2,h3⟩,h4⟩:=h
  exact⟨c,h1,⟨mes,clock,by rw[hs c h1];exact h2,h3⟩,h4⟩
 | ch xs=>
  obtain⟨c,h1,cap,s,r,h2⟩:=h
  exact⟨c,h1,cap,s,r,by rw[hs c h1];exact h2⟩
end
theorem Ext.draw {R:RP}{w w':World} (hh:w'.heap=w.heap) (ho:w'.os=w.os) (ht:w'.tape=w.tape) (hp:w'.output=w.output):Ext R w R w':=
 ⟨fun _ _ h=>h,fun i x blk _ h hd=>⟨blk,h,Blk.like_refl hd⟩,rfl,rfl,fun _ _ _=>by rw[hh],fun _ cs el fr h=>⟨cs,el,fr,by rw[hh];exact h,rfl⟩,by rw[hh];exact Nat.le_refl _,fun _ _ h=>h,ho,ht,hp⟩
theorem RP.OK.draw {R:RP}{w w':World} (h:R.OK w) (hh:w'.heap=w.heap) (ho:w'.os=w.os) (ht:w'.tape=w.tape) (hp:w'.output=w.output):R.OK w':=
 ⟨h.b01,h.al,h.inj,fun i c hc=>by rw[hh];exact h.lt i c hc,fun i m blk h1 h2=>(Ext.draw (R:=R) hh ho ht hp).blkOK h.b01 (fun c _=>by rw[hh]) (h.blk i m blk h1 h2),h.nb,fun c hc=>by rw[hh];exact h.bl c hc⟩
theorem Ext.new {R:RP}{w:World}{H':Zi}{n:Nat}{blk:Blk}{m:Option Nat} (o:Obj) (hn:R.M n=none) (hH:∀(i:Nat),i≠n->H'[i]? = R.H[i]?) (hb:H'[n]? = some blk)
  (hm:m=none∨m=some w.heap.size) (lt:∀i c,R.M i=some (some c)->c<w.heap.size) (al:∀(i:Nat) blk,R.H[i]? = some blk->blk ≠ .dead->∃m,R.M i=some m) :
  Ext R w { R with M:=fun i=>if i=n then some m else R.M i,H:=H' } (w.alloc o) where
 m:=fun i x hx=>by
  have:i≠n:=fun e=>by rw[e,hn] at hx;cases hx
  simp[this,hx]
 h:=fun i x blk' hx hb' hd=>by
  have:i≠n:=fun e=>by rw[e,hn] at hx;cases hx
  simp only[hH i this] at hb'
  exact⟨blk',hb',Blk.like_refl hd⟩
 b1:=rfl
 b0:=rfl
 same:=fun b hb' _=>Go.RowKit.Below.heap_alloc _ _ _ hb'
 row:=fun b cs el fr hb'=>by
  have hlt:b<w.heap.size:=by
   rcases lt_or_ge b w.heap.size with h | h
   ·exact h
   ·rw[Array.getElem?_eq_none h] at hb';cases hb'
  exact⟨cs,el,fr,by rw[Go.RowKit.Below.heap_alloc _ _ _ hlt];exact hb',rfl⟩
 grow:=by simp
 liv:=fun c hc ⟨i,h1,h2⟩=>by
  by_cases e:i=n
  ·subst e
   simp only[if_true] at h2
   rcases hm with h | h
   ·rw[h] at h2;cases h2
   ·rw[h] at h2;cases h2;omega
  ·simp only[e,if_false] at h2
   refine⟨i,?_,h2⟩
   rw[Zm] at h1 ⊢
   obtain⟨b',f1,f2⟩:=h1
   exact⟨b',by rw[<- hH i e];exact f1,f2⟩
 os:=rfl
 tape:=rfl
 output:=rfl
theorem RP.OK.new {R:RP}{w:World}{H':Zi}{n:Nat}{blk:Blk}{m:Option Nat}{o:Obj} (h:R.OK w) (hn:R.M n=none) (hH:∀(i:Nat),i≠n->H'[i]? = R.H[i]?) (hb:H'[n]? = some blk)
  (hm:m=none∨m=some w.heap.size)
  (hk:Ext R w { R with M:=fun i=>if i=n then some m else R.M i,H:=H' } (w.alloc o)->Zgl { R with M:=fun i=>if i=n then some m else R.M i,H:=H' } (w.alloc o) m blk) :
  RP.OK { R with M:=fun i=>if i=n then some m else R.M i,H:=H' } (w.alloc o):=by
 have e:=Ext.new (R:=R) (w:=w) (H':=H') (n:=n) (blk:=blk) (m:=m) o hn hH hb hm h.lt h.al
 refine⟨h.b01,?_,?_,?_,?_,?_,fun c hc=>by have:=h.bl c hc;simp;omega⟩
 ·intro i blk' hi hd
  by_cases ei:i=n
  ·exact⟨m,by simp[ei]⟩
  ·simp only[hH i ei] at hi
   obtain⟨x,hx⟩:=h.al i blk' hi hd
   exact⟨x,by simp[ei,hx]⟩
 ·intro i j c hi hj h1 h2
  simp only at h1 h2
  by_cases ei:i=n<;>by_cases ej:j=n
  ·rw[ei,ej]
  ·rw[if_pos ei] at h1;rw[if_neg ej] at h2
   have:=h.lt j c h2
   rcases hm with h' | h'<;>rw[h'] at h1<;>cases h1
   omega
  ·rw[if_neg ei] at h1;rw[if_pos ej] at h2
   have:=h.lt i c h1
   rcases hm with h' | h'<;>rw[h'] at h2<;>cases h2
   omega
  ·rw[if_neg ei] at h1;rw[if_neg ej] at h2
   have l1:ZN R.H i=true:=by rw[Zm] at hi ⊢;obtain⟨b',f1,f2⟩:=hi;exact⟨b',by rw[<- hH i ei];exact f1,f2⟩
   have l2:ZN R.H j=true:=by rw[Zm] at hj ⊢;obtain⟨b',f1,f2⟩:=hj;exact⟨b',by rw[<- hH j ej];exact f1,f2⟩
   exact h.inj i j c l1 l2 h1 h2
 ·intro i c hc
  simp only at hc
  by_cases ei:i=n
  ·rw[if_pos ei] at hc
   rcases hm with h' | h'<;>rw[h'] at hc<;>cases hc
   simp
  ·rw[if_neg ei] at hc
   have:=h.lt i c hc
   simp;omega
 ·intro i x blk' hi hx
  simp only at hi hx
  by_cases ei:i=n
  ·subst ei
   rw[if_pos rfl] at hx
   cases hx
   rw[hb] at hi
   cases hi
   exact hk e
  ·rw[if_neg ei] at hx
   rw[hH i ei] at hi
   refine e.blkOK h.b01 (fun c hc=>?_) (h.blk i x blk' hi hx)
   exact Go.RowKit.Below.heap_alloc _ _ _ (h.lt i c (by rw[hx,hc]))
 ·intro i c hl hc hb1
  simp only at hc hb1
  by_cases ei:i=n
  ·rw[if_pos ei] at hc
   rcases hm with h' | h'<;>rw[h'] at hc<;>cases hc
   exact absurd (h.bl _ hb1) (by omega)
  ·rw[if_neg ei] at hc
   refine h.nb i c ?_ hc hb1
   rw[Zm] at hl ⊢;obtain⟨b',f1,f2⟩:=hl;exact⟨b',by rw[<- hH i ei];exact f1,f2⟩
theorem Ext.kill {R:RP}{w:World}{H':Zi} (hH:∀(i:Nat) blk,H'[i]? = some blk->blk ≠ .dead->R.H[i]? = some blk):Ext R w { R with H:=H' } w:=
 ⟨fun _ _ h=>h,fun i x blk _ h hd=>⟨blk,hH i blk h hd,Blk.like_refl hd⟩,rfl,rfl,fun _ _ _=>rfl,fun _ cs el fr h=>⟨cs,el,fr,h,rfl⟩,Nat.le_refl _,
  fun c _ ⟨i,h1,h2⟩=>by
   rw[Zm] at h1
   obtain⟨blk,f1,f2⟩:=h1
   exact⟨i,Zm.2 ⟨blk,hH i blk f1 f2,f2⟩,h2⟩,rfl,rfl,rfl⟩
theorem RP.OK.kill {R:RP}{w:World}{H':Zi} (h:R.OK w) (hH:∀(i:Nat) blk,H'[i]? = some blk->blk ≠ .dead->R.H[i]? = some blk):RP.OK { R with H:=H' } w:=by
 have e:=Ext.kill (R:=R) (w:=w) hH
 have lv:∀i,ZN H' i=true->ZN R.H i=true:=fun i hi=>by
  rw[Zm] at hi ⊢
  obtain⟨blk,f1,f2⟩:=hi
  exact⟨blk,hH i blk f1 f2,f2⟩
 refine⟨h.b01,fun i blk hi hd=>h.al i blk (hH i blk hi hd) hd,fun i j c hi hj=>h.inj i j c (lv i hi) (lv j hj),h.lt,fun i m blk hi hm=>?_,fun i c hl=>h.nb i c (lv i hl),h.bl⟩
 by_cases hd:blk = .dead
 ·subst hd;trivial
 ·exact e.blkOK h.b01 (fun _ _=>rfl) (h.blk i m blk (hH i blk hi hd) hm)
end
open List (length_nil length_take length_drop length_map)
def Zbl (P:Program) (o:Oper) (a:Act) (w:World) (Post:Value->World->Prop):Prop:=
 (∃u w',(execOp a.eval o).run P w = .ok (.value u) w'/\Post u w')∨(∃w',(execOp a.eval o).run P w = .ok .skip w'/\Post undef w') ∨
 (∃f args w',(execOp a.eval o).run P w = .ok (.enter f args) w'/\Calls P f args w' fun e w''=>∃u,e = .returned u/\Post u w'')
theorem Zbl.wp {P:Program}{o:Oper}{a:Act}{w:World}{Post:Value->World->Prop}{K:Act->World->Prop}{Q:Exit->Act->World->Prop}
  (h:Zbl P o a w Post) (hK:∀u w',Post u w'->K (a.put o.dst u) w'):o.wp P a w K Q:=by
 unfold Oper.wp
 rcases h with⟨u,w',h1,h2⟩ | ⟨w',h1,h2⟩ | ⟨f,args,w',h1,h2⟩
 ·rw[h1];exact hK _ _ h2
 ·rw[h1];exact hK _ _ h2
 ·rw[h1]
  exact h2.mono fun e w'' ⟨u,he,hp⟩=>by subst he;exact hK _ _ hp
theorem Zbl.val {P:Program}{o:Oper}{a:Act}{w w':World}{Post:Value->World->Prop}{u:Value} (h:(execOp a.eval o).run P w = .ok (.value u) w') (hp:Post u w'):Zbl P o a w Post:=
 .inl ⟨u,w',h,hp⟩
mutual
def cv:V->Value->Bool
 | .d (.bool a),.bool b=>a==b
 | .d (.int k n),.int k' m=>k==k'&&n==m
 | .d (.str s),.string t=>decide (s=t)
 | .d .nilfn,.nilFunc=>true
 | .d .nilp,.pointer none=>true
 | .d .nilI,.nilIface=>true
 | .d (.fn f []),.func (.func g) a b=>isU f&&(f==g&&a.isEmpty&&b.isEmpty)
 | .d (.agg ds),.agg us=>cds ds us.toList
 | .d (.list _ []),.slice _ n _=>n==0
 | .nilsl _,.slice _ n c=>n==0&&c==0
 | .agg vs,.agg us=>cvs vs us.toList
 | .bad,_=>true
 | _,_=>false
def cvs:List V->List Value->Bool
 | [],[]=>true
 | v :: vs,u :: us=>cv v u&&cvs vs us
 | _,_=>false
def cds:List D->List Value->Bool
 | [],[]=>true
 | .bool a :: ds,.bool b :: us=>a==b&&cds ds us
 | .int k n :: ds,.int k' m :: us=>k==k'&&n==m&&cds ds us
 | .str s :: ds,.string t :: us=>decide (s=t)&&cds ds us
 | .nilfn :: ds,.nilFunc :: us=>cds ds us
 | .nilp :: ds,.pointer none :: us=>cds ds us
 | .nilI :: ds,.nilIface :: us=>cds ds us
 | .list _ [] :: ds,.slice _ n _ :: us=>n==0&&cds ds us
 | _,_=>false
end
theorem ZEJ {A1 A0 AL:Nat->Prop}{w:World}:∀(ds:List D) (us:List Value),cds ds us=true->Z6 A1 A0 AL w ds us:=by
 intro ds
 induction ds with
 | nil=>intro us h;cases us<;>simp_all [cds,Z6]
 | cons x ds ih=>
  intro us h
  cases us with
  | nil=>cases x<;>simp_all [cds]
  | cons u us=>
   refine⟨u,us,rfl,?_⟩
   cases x with
   | bool a=>cases u<;>simp_all [cds,Zaf]
   | int k n=>cases u<;>simp_all [cds,Zaf]
   | str s=>
    cases u<;>simp only[cds,aT,decide_eq_true_eq,Bool.false_eq_true] at h
    exact⟨by rw[h.1];rfl,ih us h.2⟩
   | nilfn=>cases u<;>simp_all [cds,Zaf]
   | nilI=>cases u<;>simp_all [cds,Zaf]
   | nilp=>
    cases u with
    | pointer a=>cases a<;>simp_all [cds,Zaf]
    | _=>simp_all [cds]
   | list own xs=>
    cases xs with
    | nil=>
     cases u with
     | slice a n c=>
      simp only[cds,aT,beq_iff_eq] at h
      obtain⟨rfl,h⟩:=h
      exact⟨⟨a,0,c,rfl,rfl,zero_le _,by simp,by simp⟩,ih us h⟩
     | _=>simp_all [cds]
    | cons y ys=>cases u<;>simp_all [cds]
   | agg cs=>cases u<;>simp_all [cds]
   | tup cs=>cases u<;>simp_all [cds]
   | fn f cs=>cases u<;>simp_all [cds]
   | rptr cs=>cases u<;>simp_all [cds]
   | iface t v=>cases u<;>simp_all [cds]
mutual
theorem Zsb {R:RP}{w:World}:∀(v:V) (u:Value),cv v u=true->Z5 R w v u
 | .bad,_,_=>trivial
 | .nilsl sz,u,h=>by
  cases u<;>simp_all [cv,Z5]
 | .agg vs,u,h=>by
  cases u<;>simp only[cv] at h<;>try (cases h;done)
  rename_i us
  exact⟨us.toList,rfl,Zwl vs us.toList h⟩
 | .d x,u,h=>by
  cases x with
  | bool a=>cases u<;>simp_all [cv,Z5,RP.den,Zaf]
  | int k n=>cases u<;>simp_all [cv,Z5,RP.den,Zaf]
  | str s=>
   cases u<;>simp only[cv,decide_eq_true_eq,Bool.false_eq_true] at h
   rw[h];rfl
  | nilfn=>cases u<;>simp_all [cv,Z5,RP.den,Zaf]
  | nilI=>cases u<;>simp_all [cv,Z5,RP.den,Zaf]
  | nilp=>
   cases u with
   | pointer a=>cases a<;>simp_all [cv,Z5,RP.den,Zaf]
   | _=>simp_all [cv]
  | fn f cs=>
   cases cs with
   | cons=>cases u<;>simp_all [cv]
   | nil=>
    cases u with
    | func fn a b=>
     cases fn<;>simp only[cv,aT,beq_iff_eq,Array.isEmpty_iff,Bool.false_eq_true] at h
     obtain⟨hlt,⟨rfl,rfl⟩,rfl⟩:=h
     exact⟨[],(ZqJ hlt _).symm,rfl⟩
    | _=>simp_all [cv]
  | agg ds=>
   cases u<;>simp only[cv] at h<;>try (cases h;done)
   rename_i us
   exact⟨us.toList,rfl,ZEJ ds us.toList h⟩
  | list own xs=>
   cases xs with
   | cons=>cases u<;>simp_all [cv]
   | nil=>
    cases u<;>simp only[cv,beq_iff_eq] at h<;>try (cases h;done)
    subst h
    exact⟨_,0,_,rfl,rfl,zero_le _,by simp,by simp⟩
  | tup cs=>cases u<;>simp_all [cv]
  | rptr cs=>cases u<;>simp_all [cv]
  | iface t v=>cases u<;>simp_all [cv]
 | .ptr b o,u,h=>by cases u<;>simp_all [cv]
 | .eptr b sz i k,u,h=>by cases u<;>simp_all [cv]
 | .sl b sz,u,h=>by cases u<;>simp_all [cv]
 | .slp b sz o l,u,h=>by cases u<;>simp_all [cv]
 | .tup cs,u,h=>by cases u<;>simp_all [cv]
 | .fn f cs,u,h=>by cases u<;>simp_all [cv]
 | .mp b,u,h=>by cases u<;>simp_all [cv]
 | .ch b,u,h=>by cases u<;>simp_all [cv]
theorem Zwl {R:RP}{w:World}:∀(vs:List V) (us:List Value),cvs vs us=true->ZY R w vs us
 | [],us,h=>by cases us<;>simp_all [cvs,ZY]
 | v :: vs,[],h=>by simp[cvs] at h
 | v :: vs,u :: us,h=>by
  simp only[cvs,aT] at h
  exact⟨u,us,rfl,Zsb v u h.1,Zwl vs us h.2⟩
end
abbrev Z1:=Nat->Option (List (IntKind×Int))
def gD:List (IntKind×Int)->List D
 | []=>[]
 | (k,n) :: r=>.int k n :: gD r
def eqG:List (IntKind×Int)->List D->Bool
 | [],[]=>true
 | (k,n) :: r,.int k' n' :: s=>k==k'&&n==n'&&eqG r s
 | _,_=>false
theorem ZBr:∀(g:List (IntKind×Int)) (l:List D),eqG g l=true->l=gD g
 | [],[],_=>rfl
 | [],_ :: _,h=>by simp[eqG] at h
 | (k,n) :: r,[],h=>by simp[eqG] at h
 | (k,n) :: r,x :: s,h=>by
  cases x<;>simp only[eqG,aT,beq_iff_eq,Bool.false_eq_true] at h
  obtain⟨⟨rfl,rfl⟩,h⟩:=h
  rw[gD,ZBr r s h]
def Zz (G:Z1):Operand->Opd->Bool
 | .tmp i,.t j=>i==j
 | .const u,.c v=>cv v u
 | .func f,.c (.d (.fn g []))=>isU f&&f==g
 | .global g,.c (.d (.rptr cs))=>match G g with | some l=>eqG l cs | none=>false
 | _,_=>false
def ZcM (G:Z1):List Operand->List Opd->Bool
 | [],[]=>true
 | x :: xs,y :: ys=>Zz G x y&&ZcM G xs ys
 | _,_=>false
def GOK (G:Z1) (R:RP) (w:World):Prop:=∀g l,G g=some l->R.den w (.rptr (gD l)) (.pointer (some ⟨g,0,none⟩))
def Zgj (R:RP) (w:World) (e:Env) (a:Act):Prop:=∀t,Z5 R w (e t) (a.tmps.getD t undef)
theorem Zn6 {G:Z1}{R:RP}{w:World}{e:Env}{a:Act} (hg:GOK G R w) (he:Zgj R w e a) {x:Operand}{y:Opd} (h:Zz G x y=true):Z5 R w (y.val e) (a.eval x):=by
 cases x with
 | tmp i=>
  cases y with
  | t j=>
   simp only[Zz,beq_iff_eq] at h
   subst h
   exact he i
  | c v=>simp[Zz] at h
 | const u=>
  cases y with
  | t j=>simp[Zz] at h
  | c v=>exact Zsb v u h
 | func f=>
  cases y with
  | t j=>simp[Zz] at h
  | c v=>
   cases v with
   | d x=>
    cases x with
    | fn g caps=>
     cases caps with
     | nil=>
      simp only[Zz,aT,beq_iff_eq] at h
      obtain⟨hlt,rfl⟩:=h
      exact⟨[],(ZqJ hlt _).symm,rfl⟩
     | cons=>simp[Zz] at h
    | _=>simp[Zz] at h
   | _=>simp[Zz] at h
 | global g=>
  cases y with
  | t j=>simp[Zz] at h
  | c v=>
   cases v with
   | d x=>
    cases x with
    | rptr cs=>
     cases hG:G g with
     | none=>simp[Zz,hG] at h
     | some l=>
      simp only[Zz,hG] at h
      rw[ZBr l cs h]
      exact hg g l hG
    | _=>simp[Zz] at h
   | _=>simp[Zz] at h
theorem ZtK {G:Z1}{R:RP}{w:World}{e:Env}{a:Act} (hg:GOK G R w) (he:Zgj R w e a):∀{xs:List Operand}{ys:List Opd},ZcM G xs ys=true->ZY R w (Zd4 e ys) (xs.map a.eval)
 | [],[],_=>rfl
 | [],_ :: _,h=>by simp[ZcM] at h
 | _ :: _,[],h=>by simp[ZcM] at h
 | x :: xs,y :: ys,h=>by
  simp only[ZcM,aT] at h
  exact⟨_,_,rfl,Zn6 hg he h.1,ZtK hg he h.2⟩
theorem Ext.gok {G:Z1}{R R':RP}{w w':World} (e:Ext R w R' w') (hb:∀c,R.B0 c->R.B1 c) (h:GOK G R w):GOK G R' w':=fun g l hg=>e.den hb (h g l hg)
theorem Ext.envOK {R R':RP}{w w':World} (x:Ext R w R' w') (hb:∀c,R.B0 c->R.B1 c) {e:Env}{a:Act} (h:Zgj R w e a):Zgj R' w' e a:=fun t=>x.denV hb _ _ (h t)
def ZK (H:Zi) (up:List (Nat×Blk)) (nid:Nat) (nw:List Blk) (H':Zi):Prop:=
 ∀i,H'[i]? = if nid<=i/\i<nid+nw.length then nw[i-nid]? else (Zbc H up)[i]?
def Post (R:RP) (w:World) (nid n:Nat) (H':Zi) (v:V) (u:Value) (w':World):Prop:=
 ∃R',Ext R w R' w'/\R'.OK w'/\R'.H=H'/\Z5 R' w' v u/\∀i,R.M i=none->¬(nid<=i/\i<nid+n)->R'.M i=none
theorem ZK.same {H H':Zi}{nid:Nat} (h:ZK H [] nid [] H'):H'=H:=by
 apply List.ext_getElem?
 intro i
 have:=h i
 simp only[length_nil,add_zero,Zbc] at this
 rw[this,if_neg (by omega)]
theorem Post.still {R:RP}{w w':World}{nid:Nat}{H':Zi}{v:V}{u:Value} (ok:R.OK w) (hp:ZK R.H [] nid [] H') (hh:w'.heap=w.heap) (ho:w'.os=w.os) (ht:w'.tape=w.tape) (hpt:w'.output=w.output)
  (hv:Z5 R w v u):Post R w nid 0 H' v u w':=
 ⟨R,Ext.draw hh ho ht hpt,ok.draw hh ho ht hpt,hp.same.symm,(Ext.draw hh ho ht hpt).denV ok.b01 v u hv,fun i h _=>h⟩
theorem Post.stay {R:RP}{w:World}{nid:Nat}{H':Zi}{v:V}{u:Value} (ok:R.OK w) (hp:ZK R.H [] nid [] H') (hv:Z5 R w v u):Post R w nid 0 H' v u w:=
 Post.still ok hp rfl rfl rfl rfl hv
theorem Post.new {R:RP}{w:World}{nid:Nat}{H':Zi}{v:V}{u:Value}{blk:Blk}{m:Option Nat} (o:Obj) (ok:R.OK w) (hp:ZK R.H [] nid [blk] H') (hn:R.M nid=none) (hm:m=none∨m=some w.heap.size)
  (hk:∀R':RP,Ext R w R' (w.alloc o)->R'.M nid=some m->R'.H[nid]? = some blk->Zgl R' (w.alloc o) m blk/\(Zgl R' (w.alloc o) m blk->Z5 R' (w.alloc o) v u)):Post R w nid 1 H' v u (w.alloc o):=by
 have hH:∀i,i≠nid->H'[i]? = R.H[i]?:=fun i hi=>by
  have:=hp i
  rw[this,if_neg (by simp;omega)];rfl
 have hb:H'[nid]? = some blk:=by
  have:=hp nid
  rw[this,if_pos (by simp)];simp
 have e:=Ext.new (R:=R) (w:=w) (H':=H') (n:=nid) (blk:=blk) (m:=m) o hn hH hb hm ok.lt ok.al
 have hk':=hk _ e (by simp) hb
 exact⟨_,e,ok.new hn hH hb hm (fun _=>hk'.1),rfl,hk'.2 hk'.1,fun i hi hni=>by
  have:i≠nid:=fun h=>hni (by subst h;simp)
  simp[this,hi]⟩
section
def Le {α:Type} (x y:Option α):Prop:=∀a,x=some a->y=some a
theorem Le.refl {α:Type} (x:Option α):Le x x:=fun _ h=>h
theorem Le.trans {α:Type}{x y z:Option α} (h:Le x y) (k:Le y z):Le x z:=fun a ha=>k a (h a ha)
theorem Le.none {α:Type} (x:Option α):Le none x:=fun _ h=>by cases h
noncomputable def ZDQ {α:Type} (F:Nat->Option α):Option α:=open Classical in if h:∃n,(F n).isSome=true then F (Classical.choose h) else none
theorem Zxu {α:Type}{F:Nat->Option α} (mono:∀n m,n<=m->Le (F n) (F m)) (a:α):ZDQ F=some a↔∃n,F n=some a:=by
 unfold ZDQ
 constructor
 ·intro h
  split at h
  ·rename_i hx;exact⟨_,h⟩
  ·cases h
 ·rintro ⟨n,hn⟩
  have hx:∃n,(F n).isSome=true:=⟨n,by simp[hn]⟩
  rw[dif_pos hx]
  have hs:=Classical.choose_spec hx
  cases hv:F (Classical.choose hx) with
  | none=>rw[hv] at hs;cases hs
  | some b=>
   rcases Nat.le_total n (Classical.choose hx) with h | h
   ·rw[<- hv];exact mono _ _ h a hn
   ·have:=mono _ _ h b hv;rw[hn] at this;exact this.symm
def LeC (f g:Zac):Prop:=∀a b c,Le (f a b c) (g a b c)
abbrev Rnd:=List V->Zi->Option Lp
abbrev ItF:=Rnd->List V->Zi->Option (Ex×List V×Zi)
def LeR (f g:Rnd):Prop:=∀a b,Le (f a b) (g a b)
def LeI (f g:ItF):Prop:=∀F G,LeR F G->∀a b,Le (f F a b) (g G a b)
theorem ZkM {Γ:Ctx}{cf cg:Zac} (h:LeC cf cg) (nid:Nat) (H:Zi) (f:Nat) (args:List V):Le (Zgc Γ cf nid H f args) (Zgc Γ cg nid H f args):=by
 intro r hr
 unfold Zgc at hr ⊢
 split at hr
 ·rename_i hm
  cases h1:fzs H args with
  | none=>simp[h1] at hr
  | some l=>
   simp only[h1] at hr ⊢
   cases h2:cf f (ZbM l) [] with
   | none=>simp[h2] at hr
   | some p=>rw[h2] at hr;rw[h _ _ _ p h2];exact hr
 ·rename_i hm
  cases h1:fzs H args with
  | none=>simp[h1] at hr
  | some l=>
   simp only[h1] at hr ⊢
   cases h2:cf f (ZbM l) [] with
   | none=>simp[h2] at hr
   | some p=>rw[h2] at hr;rw[h _ _ _ p h2];exact hr
 ·cases h1:extract 0 args H with
  | none=>simp[h1] at hr
  | some q=>
   obtain⟨L,args',H0⟩:=q
   simp only[h1] at hr ⊢
   cases h2:cf f args' H0 with
   | none=>simp[h2] at hr
   | some p=>rw[h2] at hr;rw[h _ _ _ p h2];exact hr
theorem Zgx {Γ:Ctx}{cf:Zac} (e:Env) (nid:Nat) (H:Zi) (x:Opd) (args:List Opd) :
  opE Γ cf e nid H (.callv x args)=match Zk5 (x.val e) with | some (f,caps)=>(match Zgd Γ (x.val e) f caps with | true=>none | false=>Zgc Γ cf nid H (Zm5 f) (Zp4 f caps (Zd4 e args))) | none=>none:=rfl
theorem Zfx {Γ:Ctx}{cf:Zac} (e:Env) (nid:Nat) (H:Zi) (tab:List (Nat×Nat)) (x:Opd) (args:List Opd) :
  opE Γ cf e nid H (.invoke tab x args)=match x.val e with
   | .d (.iface t y)=>(match ZlR tab t with | some f=>Zgc Γ cf nid H f (.d y :: Zd4 e args) | none=>none)
   | _=>none:=rfl
theorem Zoq {Γ:Ctx}{cf cg:Zac} (h:LeC cf cg) (e:Env) (nid:Nat) (H:Zi) (o:O):Le (opE Γ cf e nid H o) (opE Γ cg e nid H o):=by
 intro r hr
 cases o<;>try exact hr
 ·exact ZkM h _ _ _ _ r hr
 ·rename_i x args
  rw[Zgx] at hr ⊢
  cases h1:Zk5 (x.val e) with
  | none=>simp[h1] at hr
  | some q=>
   obtain⟨f,caps⟩:=q;simp only[h1] at hr ⊢
   cases hb:Zgd Γ (x.val e) f caps with
   | true=>rw[hb] at hr;cases hr
   | false=>rw[hb] at hr;exact ZkM h _ _ _ _ r hr
 ·rename_i tab x args
  rw[Zfx] at hr ⊢
  split at hr
  ·rename_i t y hx
   split at hr
   ·exact ZkM h _ _ _ _ r hr
   ·cases hr
  ·cases hr
 ·exact ZkM h _ _ _ _ r hr
theorem Zmp {Γ:Ctx}{cf cg:Zac} (h:LeC cf cg):∀(l:List Op1) (e:Env) (H:Zi),Le (Zd7 Γ cf l e H) (Zd7 Γ cg l e H)
 | [],e,H,r,hr=>hr
 | o :: l,e,H,r,hr=>by
  unfold Zd7 at hr ⊢
  cases hw:Zb2 e o.guard with
  | none=>simp[hw] at hr
  | some b=>
   cases b with
   | false=>simp only[hw] at hr ⊢;exact Zmp h l _ _ r hr
   | true=>
    simp only[hw] at hr ⊢
    cases ho:opE Γ cf e H.length H o.op with
    | none=>simp[ho] at hr
    | some q=>
     rw[ho] at hr;rw[Zoq h _ _ _ _ q ho]
     exact Zmp h l _ _ r hr
theorem Zkp {Γ:Ctx}{cf cg:Zac} (h:LeC cf cg):∀(l:List Op1) (pos:List (Nat×Nat)) (e:Env) (H:Zi),Le (ZeH Γ cf pos l e H) (ZeH Γ cg pos l e H)
 | [],pos,e,H,r,hr=>hr
 | o :: l,pos,e,H,r,hr=>by
  unfold ZeH at hr ⊢
  cases hw:Zb2 e o.guard with
  | none=>simp[hw] at hr
  | some b=>
   cases b with
   | false=>simp only[hw] at hr ⊢;exact Zkp h l _ _ _ r hr
   | true=>
    simp only[hw] at hr ⊢
    cases ho:opE Γ cf e H.length (Zga H pos o.mask) o.op with
    | none=>simp[ho] at hr
    | some q=>
     rw[ho] at hr;rw[Zoq h _ _ _ _ q ho]
     obtain⟨v,up,nw⟩:=q
     dsimp only at hr ⊢
     cases hb:(Zq6 e H o up nw) with
     | false=>simp[hb] at hr
     | true=>simp only[hb,cT] at hr ⊢;exact Zkp h l _ _ _ r hr
theorem ZlX {k:Nat}{live outs:List Nat}{x y:Option (Ex×Env×Zi)} (h:Le x y):Le (ZdE k live outs x) (ZdE k live outs y):=by
 intro r hr
 cases x with
 | none=>simp[ZdE] at hr
 | some q=>rw[h q rfl];exact hr
theorem ZrA {Γ:Ctx}{cf cg:Zac}{It Jt:ItF} (h:LeC cf cg) (hi:LeI It Jt) (k:Nat):∀(c:C) (e:Env) (H:Zi),Le (ZG Γ cf It k c e H) (ZG Γ cg Jt k c e H):=by
 intro c
 induction c with
 | skip=>intro e H;exact Le.refl _
 | ret=>intro e H;exact Le.refl _
 | exit id=>intro e H;exact Le.refl _
 | seq a b iha ihb=>
  intro e H r hr
  unfold ZG at hr ⊢
  cases ha:ZG Γ cf It k a e H with
  | none=>simp[ha] at hr
  | some q=>
   rw[ha] at hr;rw[iha e H q ha]
   obtain⟨x,e1,H1⟩:=q
   cases x with
   | normal=>exact ihb e1 H1 r hr
   | exit id=>exact hr
   | ret=>exact hr
 | cond x a b iha ihb=>
  intro e H r hr
  unfold ZG at hr ⊢
  split at hr
  ·rename_i t ht
   cases t with
   | true=>exact iha e H r hr
   | false=>exact ihb e H r hr
  ·cases hr
 | block id a iha=>
  intro e H r hr
  unfold ZG at hr ⊢
  cases ha:ZG Γ cf It k a e H with
  | none=>simp[ha] at hr
  | some q=>rw[ha] at hr;rw[iha e H q ha];exact hr
 | loop live outs a iha=>
  intro e H r hr
  unfold ZG at hr ⊢
  cases hh:Zqs k (live.map e) H with
  | none=>simp[hh] at hr
  | some q=>
   obtain⟨vs,H1⟩:=q
   simp only[hh] at hr ⊢
   cases hit:It (fun vs H=>ZdE k live outs (ZG Γ cf It k a (ZcJ live vs) H)) vs H1 with
   | none=>simp[hit] at hr
   | some p=>
    rw[hit] at hr
    rw[hi _ (fun vs H=>ZdE k live outs (ZG Γ cg Jt k a (ZcJ live vs) H)) (fun vs H=>ZlX (iha (ZcJ live vs) H)) vs H1 p hit]
    exact hr
 | ops l=>
  intro e H r hr
  unfold ZG at hr ⊢
  cases ho:Zd7 Γ cf l e H with
  | none=>simp[ho] at hr
  | some q=>rw[ho] at hr;rw[Zmp h l e H q ho];exact hr
 | draw l=>
  intro e H r hr
  unfold ZG at hr ⊢
  cases ho:ZeH Γ cf [] l e H with
  | none=>simp[ho] at hr
  | some q=>rw[ho] at hr;rw[Zkp h l _ e H q ho];exact hr
theorem Ztq {Γ:Ctx}{cf cg:Zac}{It Jt:ItF} (h:LeC cf cg) (hi:LeI It Jt) (f:Nat) (args:List V) (H:Zi):Le (ZeX Γ cf It f args H) (ZeX Γ cg Jt f args H):=by
 intro r hr
 unfold ZeX at hr ⊢
 cases hc:Γ.code f with
 | none=>simp[hc] at hr
 | some fn=>
  simp only[hc] at hr ⊢
  cases hn:Nat.beq args.length fn.nargs with
  | false=>simp[hn] at hr
  | true=>
   simp only[hn,cT] at hr ⊢
   cases hx:ZG Γ cf It H.length fn.body (ZaA 0 args) H with
   | none=>simp[hx] at hr
   | some q=>rw[hx] at hr;rw[ZrA h hi _ _ _ _ q hx];exact hr
theorem Zft {F G:Rnd} (h:LeR F G):∀(n m:Nat),n<=m->∀vs H,Le (ZaR F n vs H) (ZaR G m vs H)
 | 0,m,_,vs,H=>Le.none _
 | n+1,0,hm,vs,H=>absurd hm (by omega)
 | n+1,m+1,hm,vs,H=>by
  intro r hr
  unfold ZaR at hr ⊢
  cases hf:F vs H with
  | none=>simp[hf] at hr
  | some q=>
   rw[hf] at hr;rw[h vs H q hf]
   cases q with
   | again vs H=>exact Zft h n m (by omega) vs H r hr
   | done x vs H=>exact hr
theorem Zir (Γ:Ctx):∀(n m:Nat),n<=m->LeC (evN Γ n) (evN Γ m)
 | 0,m,_=>fun _ _ _=>Le.none _
 | n+1,0,hm=>absurd hm (by omega)
 | n+1,m+1,hm=>fun f args H=>Ztq (Zir Γ n m (by omega)) (fun F G h vs H=>Zft h n m (by omega) vs H) f args H
noncomputable def evW (Γ:Ctx):Zac:=fun f args H=>ZDQ fun n=>evN Γ n f args H
noncomputable def itW:ItF:=fun F vs H=>ZDQ fun n=>ZaR F n vs H
theorem Zi0 (Γ:Ctx) (f:Nat) (args:List V) (H:Zi) (r:V×Zi):evW Γ f args H=some r↔∃n,evN Γ n f args H=some r:=
 Zxu (fun n m h=>Zir Γ n m h f args H) r
theorem Zjm (F:Rnd) (vs:List V) (H:Zi) (r:Ex×List V×Zi):itW F vs H=some r↔∃n,ZaR F n vs H=some r:=
 Zxu (fun n m h=>Zft (fun _ _=>Le.refl _) n m h vs H) r
theorem ZED (F:Rnd) (vs:List V) (H:Zi):itW F vs H=match F vs H with | some (.again vs H)=>itW F vs H | some (.done x vs H)=>some (x,vs,H) | none=>none:=by
 cases hf:F vs H with
 | none=>
  cases h:itW F vs H with
  | none=>rfl
  | some r=>
   obtain⟨n,hn⟩:=(Zjm F vs H r).1 h
   cases n with
   | zero=>simp[ZaR] at hn
   | succ n=>simp[ZaR,hf] at hn
 | some q=>
  cases q with
  | done x vs' H'=>exact(Zjm F vs H _).2 ⟨1,by simp[ZaR,hf]⟩
  | again vs' H'=>
   dsimp only
   cases h:itW F vs' H' with
   | some r=>
    obtain⟨n,hn⟩:=(Zjm F vs' H' r).1 h
    exact(Zjm F vs H r).2 ⟨n+1,by simp[ZaR,hf,hn]⟩
   | none=>
    cases h2:itW F vs H with
    | none=>rfl
    | some r=>
     obtain⟨n,hn⟩:=(Zjm F vs H r).1 h2
     cases n with
     | zero=>simp[ZaR] at hn
     | succ n=>
      simp[ZaR,hf] at hn
      rw[(Zjm F vs' H' r).2 ⟨n,hn⟩] at h
      cases h
section
variable {Γ:Ctx}
theorem Zkv (nid:Nat) (H:Zi) (f:Nat) (args:List V) (r:V×List (Nat×Blk)×List Blk) (hr:Zgc Γ (evW Γ) nid H f args=some r):∃n,Zgc Γ (evN Γ n) nid H f args=some r:=by
 unfold Zgc at hr ⊢
 split at hr
 ·cases h1:fzs H args with
  | none=>simp[h1] at hr
  | some l=>
   simp only[h1] at hr ⊢
   cases h2:evW Γ f (ZbM l) [] with
   | none=>simp[h2] at hr
   | some p=>obtain⟨n,hn⟩:=(Zi0 Γ f (ZbM l) [] p).1 h2;exact⟨n,by rw[hn];rw[h2] at hr;exact hr⟩
 ·cases h1:fzs H args with
  | none=>simp[h1] at hr
  | some l=>
   simp only[h1] at hr ⊢
   cases h2:evW Γ f (ZbM l) [] with
   | none=>simp[h2] at hr
   | some p=>obtain⟨n,hn⟩:=(Zi0 Γ f (ZbM l) [] p).1 h2;exact⟨n,by rw[hn];rw[h2] at hr;exact hr⟩
 ·cases h1:extract 0 args H with
  | none=>simp[h1] at hr
  | some q=>
   obtain⟨L,args',H0⟩:=q
   simp only[h1] at hr ⊢
   cases h2:evW Γ f args' H0 with
   | none=>simp[h2] at hr
   | some p=>obtain⟨n,hn⟩:=(Zi0 Γ f args' H0 p).1 h2;exact⟨n,by rw[hn];rw[h2] at hr;exact hr⟩
theorem ZvI (e:Env) (nid:Nat) (H:Zi) (o:O) (r:V×List (Nat×Blk)×List Blk) (hr:opE Γ (evW Γ) e nid H o=some r):∃n,opE Γ (evN Γ n) e nid H o=some r:=by
 cases o<;>try exact⟨0,hr⟩
 ·exact Zkv _ _ _ _ r hr
 ·rename_i x args
  rw[Zgx] at hr
  cases h1:Zk5 (x.val e) with
  | none=>simp[h1] at hr
  | some q=>
   obtain⟨f,caps⟩:=q;simp only[h1] at hr
   cases hb:Zgd Γ (x.val e) f caps with
   | true=>rw[hb] at hr;cases hr
   | false=>
    rw[hb] at hr
    obtain⟨n,hn⟩:=Zkv _ _ _ _ r hr
    exact⟨n,by rw[Zgx];simp only[h1,hb];exact hn⟩
 ·rename_i tab x args
  rw[Zfx] at hr
  split at hr
  ·rename_i t y hx
   cases hl:ZlR tab t with
   | none=>simp[hl] at hr
   | some f=>
    simp only[hl] at hr
    obtain⟨n,hn⟩:=Zkv _ _ _ _ r hr
    exact⟨n,by rw[Zfx];simp only[hx,hl];exact hn⟩
  ·cases hr
 ·exact Zkv _ _ _ _ r hr
theorem ZpL:∀(l:List Op1) (e:Env) (H:Zi) (r:Env×Zi),Zd7 Γ (evW Γ) l e H=some r->∃n,Zd7 Γ (evN Γ n) l e H=some r
 | [],e,H,r,hr=>⟨0,hr⟩
 | o :: l,e,H,r,hr=>by
  unfold Zd7 at hr
  cases hw:Zb2 e o.guard with
  | none=>simp[hw] at hr
  | some b=>
   cases b with
   | false=>
    simp only[hw] at hr
    obtain⟨n,hn⟩:=ZpL l _ _ r hr
    exact⟨n,by unfold Zd7;simp only[hw];exact hn⟩
   | true=>
    simp only[hw] at hr
    cases ho:opE Γ (evW Γ) e H.length H o.op with
    | none=>simp[ho] at hr
    | some q=>
     rw[ho] at hr
     obtain⟨n,hn⟩:=ZvI _ _ _ _ q ho
     obtain⟨v,up,nw⟩:=q
     obtain⟨m,hm⟩:=ZpL l _ _ r hr
     refine⟨max n m,?_⟩
     unfold Zd7
     simp only[hw]
     rw[Zoq (Zir Γ n (max n m) (Nat.le_max_left _ _)) _ _ _ _ _ hn]
     exact Zmp (Zir Γ m (max n m) (Nat.le_max_right _ _)) l _ _ r hm
theorem ZnC:∀(l:List Op1) (pos:List (Nat×Nat)) (e:Env) (H:Zi) (r:Env×Zi),ZeH Γ (evW Γ) pos l e H=some r->∃n,ZeH Γ (evN Γ n) pos l e H=some r
 | [],pos,e,H,r,hr=>⟨0,hr⟩
 | o :: l,pos,e,H,r,hr=>by
  unfold ZeH at hr
  cases hw:Zb2 e o.guard with
  | none=>simp[hw] at hr
  | some b=>
   cases b with
   | false=>
    simp only[hw] at hr
    obtain⟨n,hn⟩:=ZnC l _ _ _ r hr
    exact⟨n,by unfold ZeH;simp only[hw];exact hn⟩
   | true=>
    simp only[hw] at hr
    cases ho:opE Γ (evW Γ) e H.length (Zga H pos o.mask) o.op with
    | none=>simp[ho] at hr
    | some q=>
     rw[ho] at hr
     obtain⟨n,hn⟩:=ZvI _ _ _ _ q ho
     obtain⟨v,up,nw⟩:=q
     dsimp only at hr
     cases hb:(Zq6 e H o up nw) with
     | false=>simp[hb] at hr
     | true=>
      simp only[hb,cT] at hr
      obtain⟨m,hm⟩:=ZnC l _ _ _ r hr
      refine⟨max n m,?_⟩
      unfold ZeH
      simp only[hw]
      rw[Zoq (Zir Γ n (max n m) (Nat.le_max_left _ _)) _ _ _ _ _ hn]
      simp only[hb,cT]
      exact Zkp (Zir Γ m (max n m) (Nat.le_max_right _ _)) l _ _ _ r hm
theorem Zxd (k:Nat):∀(c:C) (e:Env) (H:Zi) (r:Ex×Env×Zi),ZG Γ (evW Γ) itW k c e H=some r->∃n,ZG Γ (evN Γ n) (fun F=>ZaR F n) k c e H=some r:=by
 have up:∀(c:C) (e:Env) (H:Zi) (r:Ex×Env×Zi) (n m:Nat),n<=m->ZG Γ (evN Γ n) (fun F=>ZaR F n) k c e H=some r->ZG Γ (evN Γ m) (fun F=>ZaR F m) k c e H=some r:=
  fun c e H r n m h=>ZrA (Zir Γ n m h) (fun F G hFG vs H=>Zft hFG n m h vs H) k c e H r
 intro c
 induction c with
 | skip=>intro e H r hr;exact⟨0,hr⟩
 | ret=>intro e H r hr;exact⟨0,hr⟩
 | exit id=>intro e H r hr;exact⟨0,hr⟩
 | seq a b iha ihb=>
  intro e H r hr
  unfold ZG at hr
  cases ha:ZG Γ (evW Γ) itW k a e H with
  | none=>simp[ha] at hr
  | some q=>
   rw[ha] at hr
   obtain⟨n,hn⟩:=iha e H q ha
   obtain⟨x,e1,H1⟩:=q
   cases x with
   | normal=>
    obtain⟨m,hm⟩:=ihb e1 H1 r hr
    refine⟨max n m,?_⟩
    unfold ZG
    rw[up a e H _ n _ (Nat.le_max_left _ _) hn]
    exact up b e1 H1 r m _ (Nat.le_max_right _ _) hm
   | exit id=>exact⟨n,by unfold ZG;rw[hn];exact hr⟩
   | ret=>exact⟨n,by unfold ZG;rw[hn];exact hr⟩
 | cond x a b iha ihb=>
  intro e H r hr
  unfold ZG at hr
  split at hr
  ·rename_i t ht
   cases t with
   | true=>obtain⟨n,hn⟩:=iha e H r hr;exact⟨n,by unfold ZG;simp only[ht];exact hn⟩
   | false=>obtain⟨n,hn⟩:=ihb e H r hr;exact⟨n,by unfold ZG;simp only[ht];exact hn⟩
  ·cases hr
 | block id a iha=>
  intro e H r hr
  unfold ZG at hr
  cases ha:ZG Γ (evW Γ) itW k a e H with
  | none=>simp[ha] at hr
  | some q=>rw[ha] at hr;obtain⟨n,hn⟩:=iha e H q ha;exact⟨n,by unfold ZG;rw[hn];exact hr⟩
 | loop live outs a iha=>
  intro e H r hr
  unfold ZG at hr
  cases hh:Zqs k (live.map e) H with
  | none=>simp[hh] at hr
  | some q=>
   obtain⟨vs,H1⟩:=q
   simp only[hh] at hr
   cases hit:itW (fun vs H=>ZdE k live outs (ZG Γ (evW Γ) itW k a (ZcJ live vs) H)) vs H1 with
   | none=>simp[hit] at hr
   | some p=>
    rw[hit] at hr
    obtain⟨n,hn⟩:=(Zjm _ vs H1 p).1 hit
    have key:∀(n:Nat) (vs:List V) (H1:Zi) (p:Ex×List V×Zi),ZaR (fun vs H=>ZdE k live outs (ZG Γ (evW Γ) itW k a (ZcJ live vs) H)) n vs H1=some p ->
      ∃m,ZaR (fun vs H=>ZdE k live outs (ZG Γ (evN Γ m) (fun F=>ZaR F m) k a (ZcJ live vs) H)) n vs H1=some p:=by
     intro n
     induction n with
     | zero=>intro vs H1 p h;simp[ZaR] at h
     | succ n ih=>
      intro vs H1 p h
      unfold ZaR at h
      cases hc:ZG Γ (evW Γ) itW k a (ZcJ live vs) H1 with
      | none=>simp[hc,ZdE] at h
      | some q=>
       obtain⟨m1,hm1⟩:=iha _ _ q hc
       simp only[hc] at h
       cases hr2:ZdE k live outs (some q) with
       | none=>simp[hr2] at h
       | some z=>
        rw[hr2] at h
        cases z with
        | done x vs' H'=>exact⟨m1,by unfold ZaR;simp only[hm1,hr2];exact h⟩
        | again vs' H'=>
         obtain⟨m2,hm2⟩:=ih vs' H' p h
         refine⟨max m1 m2,?_⟩
         unfold ZaR
         simp only[up a _ _ q m1 _ (Nat.le_max_left m1 m2) hm1,hr2]
         exact Zft (fun vs H=>ZlX (fun q hq=>up a _ _ q m2 _ (Nat.le_max_right m1 m2) hq)) n n (Nat.le_refl _) vs' H' p hm2
    obtain⟨m,hm⟩:=key n vs H1 p hn
    refine⟨max n m,?_⟩
    unfold ZG
    simp only[hh]
    rw[Zft (fun vs H=>ZlX (fun q hq=>up a _ _ q m _ (Nat.le_max_right n m) hq)) n _ (Nat.le_max_left n m) vs H1 p hm]
    exact hr
 | ops l=>
  intro e H r hr
  unfold ZG at hr
  cases ho:Zd7 Γ (evW Γ) l e H with
  | none=>simp[ho] at hr
  | some q=>rw[ho] at hr;obtain⟨n,hn⟩:=ZpL l e H q ho;exact⟨n,by unfold ZG;rw[hn];exact hr⟩
 | draw l=>
  intro e H r hr
  unfold ZG at hr
  cases ho:ZeH Γ (evW Γ) [] l e H with
  | none=>simp[ho] at hr
  | some q=>rw[ho] at hr;obtain⟨n,hn⟩:=ZnC l _ e H q ho;exact⟨n,by unfold ZG;rw[hn];exact hr⟩
theorem ZE3 (f:Nat) (args:List V) (H:Zi):evW Γ f args H=ZeX Γ (evW Γ) itW f args H:=by
 have h1:Le (evW Γ f args H) (ZeX Γ (evW Γ) itW f args H):=by
  intro r hr
  obtain⟨n,hn⟩:=(Zi0 Γ f args H r).1 hr
  cases n with
  | zero=>simp[evN] at hn
  | succ n=>exact Ztq (fun a b c r h=>(Zi0 Γ a b c r).2 ⟨n,h⟩) (fun F G h vs H r hr=>(Zjm G vs H r).2 ⟨n,Zft h n n (Nat.le_refl _) vs H r hr⟩) f args H r hn
 have h2:Le (ZeX Γ (evW Γ) itW f args H) (evW Γ f args H):=by
  intro r hr
  unfold ZeX at hr
  cases hc:Γ.code f with
  | none=>simp[hc] at hr
  | some fn=>
   simp only[hc] at hr
   cases hn:Nat.beq args.length fn.nargs with
   | false=>simp[hn] at hr
   | true=>
    simp only[hn,cT] at hr
    cases hx:ZG Γ (evW Γ) itW H.length fn.body (ZaA 0 args) H with
    | none=>simp[hx] at hr
    | some q=>
     rw[hx] at hr
     obtain⟨n,hn2⟩:=Zxd _ _ _ _ q hx
     refine(Zi0 Γ f args H r).2 ⟨n+1,?_⟩
     show ZeX Γ (evN Γ n) (fun F=>ZaR F n) f args H=some r
     unfold ZeX
     simp only[hc,hn,cT,hn2]
     exact hr
 cases h:evW Γ f args H with
 | some r=>exact(h1 r h).symm
 | none=>
  cases h':ZeX Γ (evW Γ) itW f args H with
  | none=>rfl
  | some r=>rw[h2 r h'] at h;cases h
end
end
open Option (map_some)
section
def Zhz (P:Program) (t:TypeId):Option Bool:=
 match P.underlying t with
 | some (.struct _)=>some true
 | some (.array _ _)=>some true
 | some _=>some false
 | none=>none
def Zfb (P:Program) (t:TypeId):Option Nat:=(P.info? t).map (·.size)
theorem Ze0 {P:Program}{w:World}{t:TypeId}{ag:Bool} (h:Zhz P t=some ag):(isAgg t).run P w = .ok ag w:=by
 unfold Zhz at h
 cases hu:P.underlying t with
 | none=>simp[hu] at h
 | some d=>
  rw[hu] at h
  have:=run_underlying (P:=P) (w:=w) hu
  simp only[isAgg,Sem.run_bind,this,Result.andThen_ok]
  cases d<;>simp_all
theorem Zc6 {P:Program}{w:World}{t:TypeId}{n:Nat} (h:Zfb P t=some n):(sizeOf t).run P w = .ok n w:=by
 unfold Zfb at h
 cases hi:P.info? t with
 | none=>simp[hi] at h
 | some i=>
  simp only[hi,map_some,sJ] at h
  subst h
  simp[sizeOf,typeInfo,hi]
section
variable {R:RP} {w:World}
theorem ZcV:∀(vs:List V) (us:List Value),ZY R w vs us->us.length=vs.length
 | [],us,h=>by simp only[ZY] at h;subst h;rfl
 | v :: vs,us,h=>by
  obtain⟨u,us',rfl,e1,e2⟩:=h
  simp[ZcV vs us' e2]
theorem ZeB:∀(vs:List V) (us:List Value) (j:Nat) (v:V),ZY R w vs us->vs[j]? = some v->∃u,us[j]? = some u/\Z5 R w v u
 | [],us,j,v,_,hj=>by simp at hj
 | y :: vs,us,0,v,h,hj=>by
  obtain⟨u,us',rfl,e1,e2⟩:=h
  simp at hj;subst hj
  exact⟨u,by simp,e1⟩
 | y :: vs,us,j+1,v,h,hj=>by
  obtain⟨u,us',rfl,e1,e2⟩:=h
  simpa using ZeB vs us' j v e2 (by simpa using hj)
theorem Zj0:∀(vs:List V) (us:List Value),us.length=vs.length->(∀(j:Nat) v u,vs[j]? = some v->us[j]? = some u->Z5 R w v u)->ZY R w vs us
 | [],us,hl,_=>by simpa [ZY] using hl
 | y :: vs,[],hl,_=>by simp at hl
 | y :: vs,u :: us,hl,h=>⟨u,us,rfl,h 0 y u rfl rfl,Zj0 vs us (by simpa using hl) fun j x v hx hv=>h (j+1) x v (by simpa using hx) (by simpa using hv)⟩
theorem Zmg:∀(l:List D),ZbM l=l.map V.d
 | []=>rfl
 | x :: l=>by simp[ZbM,Zmg l]
theorem ZcC:∀(l:List D) (us:List Value),ZY R w (ZbM l) us↔Z6 R.A1 R.A0 R.AL w l us
 | [],us=>Iff.rfl
 | x :: l,us=>by
  simp only[ZbM,ZY,Z6]
  constructor
  ·rintro ⟨u,us',e,h1,h2⟩;exact⟨u,us',e,h1,(ZcC l us').1 h2⟩
  ·rintro ⟨u,us',e,h1,h2⟩;exact⟨u,us',e,h1,(ZcC l us').2 h2⟩
theorem Zmk:∀{vs:List V}{l:List D},ZkE vs=some l->vs=ZbM l
 | [],l,h=>by simp[ZkE] at h;subst h;rfl
 | v :: vs,l,h=>by
  cases v<;>simp only[ZkE] at h<;>try (cases h;done)
  rename_i x
  cases hr:ZkE vs with
  | none=>simp[hr] at h
  | some l'=>
   simp only[hr,sJ] at h
   subst h
   rw[Zmk hr,ZbM]
theorem Zry {vs:List V}{us:List Value} (h:ZY R w vs us):Z5 R w (Zvl vs) (.agg us.toArray):=by
 unfold Zvl
 cases ha:ZkE vs with
 | none=>exact⟨us,rfl,h⟩
 | some l=>
  rw[Zmk ha,ZcC] at h
  exact⟨us,rfl,h⟩
theorem ZCB {vs:List V}{us:List Value} (h:ZY R w vs us):Z5 R w (Zu0 vs) (.tuple us.toArray):=by
 unfold Zu0
 cases ha:ZkE vs with
 | none=>exact⟨us,rfl,h⟩
 | some l=>
  rw[Zmk ha,ZcC] at h
  exact⟨us,rfl,h⟩
theorem ZgY {v:V}{u:Value} (h:Z5 R w v u) (hv:v.okb=true):ZY R w v.cells u.cells.toList:=by
 cases v with
 | d x=>
  cases x with
  | agg cs=>
   obtain⟨us,rfl,h⟩:=h
   simpa [V.cells,Value.cells] using (ZcC cs us).2 h
  | tup cs=>simp[V.okb] at hv
  | bool b=>simp only[Z5,RP.den,Zaf] at h;subst h;exact⟨_,[],rfl,by simp[Z5,RP.den,Zaf],rfl⟩
  | int k n=>simp only[Z5,RP.den,Zaf] at h;subst h;exact⟨_,[],rfl,by simp[Z5,RP.den,Zaf],rfl⟩
  | str s=>simp only[Z5,RP.den,Zaf] at h;subst h;exact⟨_,[],rfl,by simp[Z5,RP.den,Zaf],rfl⟩
  | nilfn=>simp only[Z5,RP.den,Zaf] at h;subst h;exact⟨_,[],rfl,by simp[Z5,RP.den,Zaf],rfl⟩
  | nilp=>simp only[Z5,RP.den,Zaf] at h;subst h;exact⟨_,[],rfl,by simp[Z5,RP.den,Zaf],rfl⟩
  | nilI=>simp only[Z5,RP.den,Zaf] at h;subst h;exact⟨_,[],rfl,by simp[Z5,RP.den,Zaf],rfl⟩
  | list own xs=>
   have h':=h
   obtain⟨a,len,cap,rfl,_⟩:=h'
   exact⟨_,[],rfl,h,rfl⟩
  | fn f caps=>
   have h':=h
   obtain⟨us,rfl,_⟩:=h'
   exact⟨_,[],Zr2 _ _,h,rfl⟩
  | rptr cs=>
   have h':=h
   obtain⟨b,off,rfl,_⟩:=h'
   exact⟨_,[],rfl,h,rfl⟩
  | iface t v=>
   have h':=h
   obtain⟨u',rfl,_⟩:=h'
   exact⟨_,[],rfl,h,rfl⟩
 | bad=>simp[V.okb] at hv
 | tup cs=>simp[V.okb] at hv
 | agg cs=>
  obtain⟨us,rfl,h⟩:=h
  simpa [V.cells,Value.cells] using h
 | nilsl sz=>
  have h':=h
  obtain⟨a,rfl⟩:=h'
  exact⟨_,[],rfl,h,rfl⟩
 | fn f caps=>
  have h':=h
  obtain⟨us,rfl,_⟩:=h'
  exact⟨_,[],Zr2 _ _,h,rfl⟩
 | ptr b o=>
  have h':=h
  obtain⟨c,_,rfl⟩:=h'
  exact⟨_,[],rfl,h,rfl⟩
 | eptr b sz i k=>
  have h':=h
  obtain⟨c,_,rfl⟩:=h'
  exact⟨_,[],rfl,h,rfl⟩
 | sl b sz=>
  have h':=h
  obtain⟨⟨a,n,c,rfl⟩,_⟩:=h'
  exact⟨_,[],rfl,h,rfl⟩
 | slp b sz o l=>
  have h':=h
  obtain⟨⟨a,n,c,rfl⟩,_⟩:=h'
  exact⟨_,[],rfl,h,rfl⟩
 | mp b=>
  have h':=h
  obtain⟨⟨a,rfl⟩,_⟩:=h'
  exact⟨_,[],rfl,h,rfl⟩
 | ch b=>
  have h':=h
  obtain⟨⟨a,rfl⟩,_⟩:=h'
  exact⟨_,[],rfl,h,rfl⟩
end
structure Pre (G:Z1) (R:RP) (w:World) (e:Env) (a:Act) (Hm:Zi):Prop where
 ok:R.OK w
 g:GOK G R w
 env:Zgj R w e a
 le:∀b blk,nth Hm b=some blk->blk ≠ .dead->nth R.H b=some blk
section
variable {P:Program} {G:Z1} {R:RP} {w:World} {e:Env} {a:Act} {Hm H':Zi} {nid:Nat} {o:Oper}
theorem Pre.opd (pre:Pre G R w e a Hm) {x:Operand}{y:Opd} (h:Zz G x y=true):Z5 R w (y.val e) (a.eval x):=Zn6 pre.g pre.env h
theorem Pre.opds (pre:Pre G R w e a Hm) {xs:List Operand}{ys:List Opd} (h:ZcM G xs ys=true):ZY R w (Zd4 e ys) (xs.map a.eval):=ZtK pre.g pre.env h
theorem Zaq {s:Sem Value}{u:Value}{w':World}{Po:Value->World->Prop} (hx:execOp a.eval o=(do pure (Next.value (<- s)))) (hr:s.run P w = .ok u w') (hp:Po u w'):Zbl P o a w Po:=
 .val (by rw[hx];simp[hr]) hp
theorem ZEj (pre:Pre G R w e a Hm) {x:Operand}{y:Opd} (hop:o.op = .move x∨o.op = .assign x) (hx:Zz G x y=true) (hp:ZK R.H [] nid [] H') :
  Zbl P o a w (Post R w nid 0 H' (y.val e)):=by
 refine .val (u:=a.eval x) (w':=w) ?_ (Post.stay pre.ok hp (pre.opd hx))
 rcases hop with h | h<;>(unfold execOp;rw[h];rfl)
theorem ZFP (pre:Pre G R w e a Hm) {c x y:Operand}{c' x' y':Opd}{t:Bool} (hop:o.op = .pick c x y) (hc:Zz G c c'=true) (hx:Zz G x x'=true) (hy:Zz G y y'=true)
  (ht:c'.val e = .d (.bool t)) (hp:ZK R.H [] nid [] H'):Zbl P o a w (Post R w nid 0 H' (bif t then x'.val e else y'.val e)):=by
 have hcv:=pre.opd hc
 rw[ht] at hcv
 simp only[Z5,RP.den,Zaf] at hcv
 refine .val (u:=if t=true then a.eval x else a.eval y) (w':=w) ?_ (Post.stay pre.ok hp ?_)
 ·unfold execOp;rw[hop];simp[hcv,asBool]
 ·cases t
  ·exact pre.opd hy
  ·exact pre.opd hx
theorem Zqv {t:TypeId}{x:Addr}{u:Value} (h:Zhz P t=some false) (hc:w.cell? x=some u):(loadVar t x).run P w = .ok u w:=by
 unfold loadVar
 simp only[Sem.run_bind,Ze0 h,Result.andThen_ok,Bool.false_eq_true,if_false,run_load,hc]
theorem ZqA {t:TypeId}{x:Addr}{us:List Value} (h:Zhz P t=some true) (hs:Zfb P t=some us.length) (hc:∀(j:Nat) v,us[j]? = some v->w.cell? (x.add j)=some v) :
  (loadVar t x).run P w = .ok (.agg us.toArray) w:=by
 unfold loadVar
 simp only[Sem.run_bind,Ze0 h,Zc6 hs,Result.andThen_ok,if_true,run_loadCells_list w x us hc,Sem.run_pure]
theorem Zk3 {n:Nat}{ag:Bool}{cs:List V}{v:V}{t:TypeId}{b off:Nat} (hc:∀(j:Nat) v,cs[j]? = some v->∃u,w.cell? ⟨b,off+j,none⟩=some u/\Z5 R w v u)
  (hag:Zhz P t=some ag) (hsz:Zfb P t=some n) (h:ZfR n ag cs=some v):∃u,(loadVar t ⟨b,off,none⟩).run P w = .ok u w/\Z5 R w v u:=by
 unfold ZfR at h
 cases ag with
 | false=>
  simp only[cF] at h
  obtain⟨u,h1,h2⟩:=hc 0 v (by rw[<- List.head?_eq_getElem?];exact h)
  exact⟨u,Zqv hag (by simpa using h1),h2⟩
 | true=>
  simp only[cT] at h
  cases hl:Nat.beq (cs.take n).length n with
  | false=>rw[hl] at h;cases h
  | true=>
   rw[hl] at h
   simp only[cT,sJ] at h
   subst h
   have hl':(cs.take n).length=n:=nQ hl
   let us:List Value:=(List.range n).map fun j=>(w.cell? ⟨b,off+j,none⟩).getD undef
   have hus:us.length=n:=by simp[us]
   have key:∀(j:Nat) v,(cs.take n)[j]? = some v->∃u,us[j]? = some u/\w.cell? ⟨b,off+j,none⟩=some u/\Z5 R w v u:=by
    intro j v hj
    have hjn:j<n:=by have:=(gQ hj).1;omega
    obtain⟨u,h1,h2⟩:=hc j v (by rw[List.getElem?_take] at hj;simpa [hjn] using hj)
    exact⟨u,by simp[us,hjn,h1],h1,h2⟩
   refine⟨.agg us.toArray,ZqA hag (by rw[hus];exact hsz) ?_,Zry (Zj0 _ _ (by omega) ?_)⟩
   ·intro j v hv
    have hjn:j<n:=by have:=(gQ hv).1;omega
    obtain⟨v0,hv0⟩:∃v0,(cs.take n)[j]? = some v0:=⟨_,gE (by omega)⟩
    obtain⟨u,f1,f2,_⟩:=key j v0 hv0
    rw[hv] at f1;cases f1
    rw[Addr.add_lit];exact f2
   ·intro j v u hv hu
    obtain⟨u',f1,_,f3⟩:=key j v hv
    rw[hu] at f1;cases f1;exact f3
theorem Za2 {b off:Nat}{cs:Array Value}{el:TypeId}{fr:Nat×Nat} (h:w.heap[b]? = some (.cells cs el fr)):w.cell? ⟨b,off,none⟩=cs[off]?:=by
 simp[World.cell?,h]
theorem Zun (pre:Pre G R w e a Hm) {n:Nat}{ag:Bool}{t:TypeId}{x v:V}{u0:Value} (hag:Zhz P t=some ag) (hsz:Zfb P t=some n) (hx:Z5 R w x u0) (h:Zb5 Hm n ag x=some v) :
  ∃u,(Instr.loadAt t u0).run P w = .ok u w/\Z5 R w v u:=by
 unfold Zb5 at h
 cases x with
 | ptr b o=>
  dsimp only at h
  cases hb:nth Hm b with
  | none=>simp[hb] at h
  | some blk=>
   rw[hb] at h
   cases blk<;>try (cases h;done)
   rename_i cs
   have hb':=pre.le b _ hb (by simp)
   obtain⟨c,h1,rfl⟩:=hx
   rw[ZI] at hb'
   obtain⟨c',cs',el,fr,e1,e2,e3,e4,e5⟩:=pre.ok.blk b _ _ hb' h1
   cases e1
   obtain⟨u,f1,f2⟩:=Zk3 (P:=P) (cs:=cs.drop o) (b:=c) (off:=o) (by
    intro j v hj
    obtain⟨u,g1,g2⟩:=e5 (o+j) v (by simpa using hj)
    exact⟨u,by rw[Za2 e2];exact g1,g2⟩) hag hsz h
   exact⟨u,by simpa [Instr.loadAt,Instr.sureAddr] using f1,f2⟩
 | eptr b sz i k=>
  dsimp only at h
  cases hb:nth Hm b with
  | none=>simp[hb] at h
  | some blk=>
   rw[hb] at h
   cases blk<;>try (cases h;done)
   rename_i sz' xs
   dsimp only at h
   cases hs:Nat.beq sz sz' with
   | false=>simp[hs] at h
   | true=>
    obtain rfl:=nQ hs
    simp only[hs,cT] at h
    cases hxi:nth xs i with
    | none=>simp[hxi] at h
    | some y=>
     simp only[hxi] at h
     have hb':=pre.le b _ hb (by simp)
     obtain⟨c,h1,rfl⟩:=hx
     rw[ZI] at hb' hxi
     obtain⟨e0,e1,e2⟩:=pre.ok.blk b _ _ hb' h1
     rcases e2 with⟨e2,_⟩ | ⟨c',cs,el,e2,e3,e4,e5⟩
     ·cases e2
     ·cases e2
      obtain⟨uy,f1,f2,f3⟩:=e5 i y hxi
      have hyb:(V.d y).okb=true∨∃ts,y = .tup ts:=by cases y<;>simp[V.okb]
      rcases hyb with hyb | ⟨ts,rfl⟩
      ·have hcs:=ZgY (R:=R) (v:=.d y) f1 hyb
       have hVc:(V.d y).cells=ZbM y.cells:=by cases y<;>rfl
       rw[hVc] at hcs
       obtain⟨u,g1,g2⟩:=Zk3 (P:=P) (cs:=ZbM (y.cells.drop k)) (b:=c) (off:=i*sz+k) (by
        intro j v hj
        have hj':(ZbM y.cells)[k+j]? = some v:=by
         rw[Zmg,List.getElem?_map] at hj ⊢
         simpa using hj
        obtain⟨u,p1,p2⟩:=ZeB _ _ _ _ hcs hj'
        refine⟨u,?_,p2⟩
        rw[Za2 e3,Nat.add_assoc]
        exact f3 (k+j) u (by simpa using p1)) hag hsz h
       exact⟨u,by simpa [Instr.loadAt,Instr.sureAddr] using g1,g2⟩
      ·have f1':=f1
       obtain⟨us,rfl,_⟩:=f1'
       obtain⟨u,g1,g2⟩:=Zk3 (P:=P) (cs:=ZbM (D.cells (.tup ts) |>.drop k)) (b:=c) (off:=i*sz+k) (by
        intro j v hj
        cases k with
        | zero=>
         cases j with
         | zero=>
          simp[D.cells,ZbM] at hj
          subst hj
          refine⟨.tuple us.toArray,?_,f1⟩
          rw[Za2 e3]
          have:=f3 0 (.tuple us.toArray) rfl
          simpa using this
         | succ j=>simp[D.cells,ZbM] at hj
        | succ k=>simp[D.cells,ZbM] at hj) hag hsz h
       exact⟨u,by simpa [Instr.loadAt,Instr.sureAddr] using g1,g2⟩
 | d y=>
  cases y<;>try (cases h;done)
  rename_i cs
  dsimp only at h
  obtain⟨b,off,rfl,h1,h2,h3⟩:=hx
  obtain⟨u,g1,g2⟩:=Zk3 (P:=P) (cs:=ZbM cs) (b:=b) (off:=off) (by
   intro j v hj
   rw[Zmg,List.getElem?_map] at hj
   cases hcj:cs[j]? with
   | none=>simp[hcj] at hj
   | some x=>
    simp[hcj] at hj
    subst hj
    obtain⟨u,p1,p2⟩:=Zi3 cs off j x h3 hcj
    exact⟨u,p1,p2⟩) hag hsz h
  exact⟨u,by simpa [Instr.loadAt,Instr.sureAddr] using g1,g2⟩
 | bad=>cases h
 | sl b sz=>cases h
 | slp b sz o l=>cases h
 | nilsl sz=>cases h
 | agg cs=>cases h
 | tup cs=>cases h
 | fn f cs=>cases h
 | mp b=>cases h
 | ch b=>cases h
theorem ZEI (pre:Pre G R w e a Hm) {n:Nat}{ag:Bool}{t:TypeId}{x:Operand}{y:Opd}{v:V} (hop:o.op = .load t x) (hx:Zz G x y=true) (hag:Zhz P t=some ag) (hsz:Zfb P t=some n)
  (h:Zb5 Hm n ag (y.val e)=some v) (hp:ZK R.H [] nid [] H'):Zbl P o a w (Post R w nid 0 H' v):=by
 obtain⟨u,h1,h2⟩:=Zun pre hag hsz (pre.opd hx) h
 exact Zaq (s:=Instr.loadAt t (a.eval x)) (by unfold execOp;rw[hop]) h1 (Post.stay pre.ok hp h2)
def ZoJ (P:Program) (s:TypeId) (f:Nat):Option (Nat×TypeId):=
 match P.underlying s with
 | some (.struct fields)=>(fields[f]?).map fun x=>(x.offset,x.type)
 | _=>none
theorem Zuh {s:TypeId}{f off:Nat}{t:TypeId} (h:ZoJ P s f=some (off,t)):∃fields fd,P.underlying s=some (.struct fields)/\fields[f]? = some fd/\fd.offset=off/\fd.type=t:=by
 unfold ZoJ at h
 split at h
 ·rename_i fields hu
  cases hf:fields[f]? with
  | none=>simp[hf] at h
  | some fd=>
   simp only[hf,map_some,sJ,pJ] at h
   exact⟨fields,fd,hu,hf,h.1,h.2⟩
 ·cases h
theorem ZvD {s:TypeId}{f off n:Nat}{t:TypeId}{x:Addr} (h:ZoJ P s f=some (off,t)) (hn:Zfb P t=some n) (h0:n≠0) :
  (Instr.fieldAt s (.pointer (some x)) f).run P w = .ok (.pointer (some (x.add off))) w:=by
 obtain⟨fields,fd,h1,h2,rfl,rfl⟩:=Zuh h
 simp[Instr.fieldAt,run_underlying h1,h2,Instr.sureAddr,fieldPlace,Zc6 hn,h0]
theorem Zvn (pre:Pre G R w e a Hm) {off:Nat}{x v:V}{u0:Value} (hx:Z5 R w x u0) (h:ZkN Hm off x=some v):∃ad,u0 = .pointer (some ad)/\Z5 R w v (.pointer (some (ad.add off))):=by
 unfold ZkN at h
 cases x<;>try (cases h;done)
 ·rename_i y
  cases y<;>try (cases h;done)
  rename_i cs
  simp only[sJ] at h
  subst h
  obtain⟨b,of,rfl,h1,h2,h3⟩:=hx
  exact⟨_,rfl,b,of+off,by rw[Addr.add_lit],h1,h2,ZsV cs of off h3⟩
 ·rename_i b o
  simp only[sJ] at h
  subst h
  obtain⟨c,h1,rfl⟩:=hx
  exact⟨_,rfl,c,h1,by rw[Addr.add_lit]⟩
 ·rename_i b sz i k
  simp only[sJ] at h
  subst h
  obtain⟨c,h1,rfl⟩:=hx
  exact⟨_,rfl,c,h1,by rw[Addr.add_lit,Nat.add_assoc]⟩
theorem ZD2 (pre:Pre G R w e a Hm) {s t:TypeId}{f off n:Nat}{x:Operand}{y:Opd}{v:V} (hop:o.op = .fieldAddr s x f) (hx:Zz G x y=true) (hf:ZoJ P s f=some (off,t)) (hn:Zfb P t=some n) (h0:n≠0)
  (h:ZkN Hm off (y.val e)=some v) (hp:ZK R.H [] nid [] H'):Zbl P o a w (Post R w nid 0 H' v):=by
 obtain⟨ad,h1,h2⟩:=Zvn pre (pre.opd hx) h
 exact Zaq (s:=Instr.fieldAt s (a.eval x) f) (by unfold execOp;rw[hop]) (by rw[h1];exact ZvD hf hn h0) (Post.stay pre.ok hp h2)
theorem ZjE {k:IntKind}{n:Int}{u:Value} (h:Z5 R w (.d (.int k n)) u):u = .int k n:=h
theorem Zui {b:Bool}{u:Value} (h:Z5 R w (.d (.bool b)) u):u = .bool b:=h
theorem ZD1 {op:BinOp}{x y:V}{r:D}{u1 u2:Value} (t:TypeId) (ox oy:Operand) (hx:Z5 R w x u1) (hy:Z5 R w y u2) (h:ZnW op x y=some r) :
  ∃u,((do eqGuard op t ox oy u1 u2;binOp op t u1 u2:Sem Value)).run P w = .ok u w/\R.den w r u:=by
 unfold ZnW at h
 split at h
 ·rename_i i a1 j b1
  cases ZjE hx;cases ZjE hy
  unfold shI at h
  cases hb:decide (b1<0) with
  | true=>simp[hb] at h
  | false=>
   simp only[hb,cF,sJ] at h
   subst h
   have hb':¬b1<0:=of_decide_eq_false hb
   refine⟨_,?_,rfl⟩
   simp[eqGuard,binOp,Op.shift,hb']
 ·rename_i i a1 j b1
  cases ZjE hx;cases ZjE hy
  unfold shI at h
  cases hb:decide (b1<0) with
  | true=>simp[hb] at h
  | false=>
   simp only[hb,cF,sJ] at h
   subst h
   have hb':¬b1<0:=of_decide_eq_false hb
   refine⟨_,?_,rfl⟩
   simp[eqGuard,binOp,Op.shift,hb']
 ·rename_i op' i a1 j b1 hn1 hn2
  cases ZjE hx;cases ZjE hy
  cases hk:i==j with
  | false=>simp[hk] at h
  | true=>
   obtain rfl:i=j:=by simpa using hk
   simp only[hk,cT] at h
   cases op<;>simp only[ZDR,sJ] at h
   case shl=>exact(hn1 rfl).elim
   case shr=>exact(hn2 rfl).elim
   case andNot=>cases h
   case quo=>
    cases hb:b1==0 with
    | true=>simp[hb] at h
    | false=>
     simp only[hb,cF,sJ] at h
     subst h
     exact⟨_,by simp[eqGuard,binOp,Op.intDiv,show ¬b1=0 by simpa using hb],rfl⟩
   case rem=>
    cases hb:b1==0 with
    | true=>simp[hb] at h
    | false=>
     simp only[hb,cF,sJ] at h
     subst h
     exact⟨_,by simp[eqGuard,binOp,Op.intDiv,show ¬b1=0 by simpa using hb],rfl⟩
   all_goals (subst h;exact⟨_,by simp[eqGuard,binOp,Op.intArith,Op.intBits,Op.intCmp],rfl⟩)
 ·cases h
theorem ZGy (pre:Pre G R w e a Hm) {op:BinOp}{t t':TypeId}{x y:Operand}{x' y':Opd}{r:D} (hop:o.op = .binOp op t x y t') (hx:Zz G x x'=true) (hy:Zz G y y'=true)
  (h:ZnW op (x'.val e) (y'.val e)=some r) (hp:ZK R.H [] nid [] H'):Zbl P o a w (Post R w nid 0 H' (.d r)):=by
 obtain⟨u,h1,h2⟩:=ZD1 (P:=P) t x y (pre.opd hx) (pre.opd hy) h
 exact Zaq (s:=do eqGuard op t x y (a.eval x) (a.eval y);binOp op t (a.eval x) (a.eval y)) (by unfold execOp;rw[hop]) h1 (Post.stay pre.ok hp h2)
theorem ZJk (pre:Pre G R w e a Hm) {op:UnOp}{t:TypeId}{x:Operand}{x':Opd}{r:D} (hop:o.op = .unOp op t x) (hx:Zz G x x'=true)
  (h:unE op (x'.val e)=some r) (hp:ZK R.H [] nid [] H'):Zbl P o a w (Post R w nid 0 H' (.d r)):=by
 have hv:=pre.opd hx
 unfold unE at h
 split at h
 ·rename_i b hb
  rw[hb] at hv
  simp only[sJ] at h
  subst h
  exact Zaq (s:=Op.unary .not (a.eval x)) (u:=.bool !b) (by unfold execOp;rw[hop]) (by rw[Zui hv];rfl) (Post.stay pre.ok hp rfl)
 ·rename_i k n hb
  rw[hb] at hv
  simp only[sJ] at h
  subst h
  exact Zaq (s:=Op.unary .neg (a.eval x)) (u:=.int k (k.wrap (0-n))) (by unfold execOp;rw[hop]) (by rw[ZjE hv];rfl) (Post.stay pre.ok hp rfl)
 ·cases h
theorem ZE8 (pre:Pre G R w e a Hm) {s t:TypeId}{k k0:IntKind}{n:Int}{ds:TypeDesc}{x:Operand}{x':Opd} (hop:o.op = .convert s t x) (hx:Zz G x x'=true) (hs:P.underlying s=some ds) (ht:P.underlying t=some (.int k))
  (h:x'.val e = .d (.int k0 n)) (hp:ZK R.H [] nid [] H'):Zbl P o a w (Post R w nid 0 H' (.d (.int k (k.wrap n)))):=by
 have hv:=pre.opd hx
 rw[h] at hv
 refine Zaq (s:=convert s t (a.eval x)) (u:=.int k (k.wrap n)) (by unfold execOp;rw[hop]) ?_ (Post.stay pre.ok hp rfl)
 rw[ZjE hv]
 simp[convert,run_underlying hs,run_underlying ht,Conv.intToInt]
theorem ZtN (pre:Pre G R w e a Hm) {x:Operand}{x':Opd}{i:Nat}{v:V} (hop:o.op = .extract x i) (hx:Zz G x x'=true)
  (h:(∃vs,x'.val e = .tup vs/\nth vs i=some v)∨(∃vs y,x'.val e = .d (.tup vs)/\nth vs i=some y/\v = .d y)) (hp:ZK R.H [] nid [] H'):Zbl P o a w (Post R w nid 0 H' v):=by
 have hv:=pre.opd hx
 rcases h with⟨vs,h1,h2⟩ | ⟨vs,y,h1,h2,rfl⟩
 ·rw[h1] at hv
  obtain⟨us,h3,h4⟩:=hv
  rw[ZI] at h2
  obtain⟨u,h5,h6⟩:=ZeB vs us i v h4 h2
  exact Zaq (s:=Instr.extract (a.eval x) i) (u:=u) (by unfold execOp;rw[hop]) (by rw[h3];simp[Instr.extract,h5]) (Post.stay pre.ok hp h6)
 ·rw[h1] at hv
  obtain⟨us,h3,h4⟩:=hv
  rw[ZI] at h2
  obtain⟨u,h5,h6⟩:=Zfd vs us i y h4 h2
  exact Zaq (s:=Instr.extract (a.eval x) i) (u:=u) (by unfold execOp;rw[hop]) (by rw[h3];simp[Instr.extract,h5]) (Post.stay pre.ok hp h6)
theorem ZFs (pre:Pre G R w e a Hm) {f:Nat}{first caps:Array Operand}{ys:List Opd} (hop:o.op = .makeFunc (.func f) first caps) (hlt:isU f=true) (hf:first = #[]) (hx:ZcM G caps.toList ys=true) (hp:ZK R.H [] nid [] H') :
  Zbl P o a w (Post R w nid 0 H' (match ys with | []=>.d (.fn f []) | ys=>.fn f (Zd4 e ys))):=by
 subst hf
 have hv:=pre.opds hx
 refine Zaq (s:=Instr.makeFunc (.func f) (#[].map a.eval) (caps.map a.eval)) (u:=.func (.func f) #[] (caps.toList.map a.eval).toArray) (by unfold execOp;rw[hop]) (by
  have hc:caps.map a.eval=(caps.toList.map a.eval).toArray:=by apply Array.ext';simp
  rw[hc];simp[Instr.makeFunc]) (Post.stay pre.ok hp ?_)
 cases ys with
 | nil=>
  simp only[Zd4,ZY] at hv
  exact⟨[],by rw[ZqJ hlt];simp[hv],rfl⟩
 | cons y ys=>exact⟨_,(ZqJ hlt _).symm,hv⟩
theorem ZDW (pre:Pre G R w e a Hm) {f:Nat}{first caps:Array Operand}{y:Opd}{ys:List Opd} (hop:o.op = .makeFunc (.func f) first caps) (hb:Nat.beq (1000000+f) 2000000=false) (hf:caps = #[]) (hx:ZcM G first.toList (y :: ys)=true) (hp:ZK R.H [] nid [] H') :
  Zbl P o a w (Post R w nid 0 H' (.fn (1000000+f) (Zd4 e (y :: ys)))):=by
 subst hf
 have hv:=pre.opds hx
 refine Zaq (s:=Instr.makeFunc (.func f) (first.map a.eval) (#[].map a.eval)) (u:=.func (.func f) (first.toList.map a.eval).toArray #[]) (by unfold execOp;rw[hop]) (by
  have hc:first.map a.eval=(first.toList.map a.eval).toArray:=by apply Array.ext';simp
  rw[hc];simp[Instr.makeFunc]) (Post.stay pre.ok hp ?_)
 refine⟨_,?_,hv⟩
 unfold Zjy
 have h1:isU (1000000+f)=false:=by
  cases h:isU (1000000+f) with
  | false=>rfl
  | true=>exact absurd (Nat.le_of_ble_eq_true (show Nat.ble (1000000+f+1) 1000000=true from h)) (by omega)
 have h2:unB (1000000+f)=f:=Nat.add_sub_cancel_left 1000000 f
 rw[h1,hb,h2]
 rfl
theorem ZDM (pre:Pre G R w e a Hm) {first caps:Array Operand}{y:Opd}{ys:List Opd} (hop:o.op = .makeFunc (.method Zjs) first caps) (hf:caps = #[]) (hx:ZcM G first.toList (y :: ys)=true) (hp:ZK R.H [] nid [] H') :
  Zbl P o a w (Post R w nid 0 H' (.fn 2000000 (Zd4 e (y :: ys)))):=by
 subst hf
 have hv:=pre.opds hx
 refine Zaq (s:=Instr.makeFunc (.method Zjs) (first.map a.eval) (#[].map a.eval)) (u:=.func (.method Zjs) (first.toList.map a.eval).toArray #[]) (by unfold execOp;rw[hop]) (by
  have hc:first.map a.eval=(first.toList.map a.eval).toArray:=by apply Array.ext';simp
  rw[hc];simp[Instr.makeFunc]) (Post.stay pre.ok hp ?_)
 exact⟨_,rfl,hv⟩
end
end
section
section
variable {P:Program} {G:Z1} {R:RP} {w:World} {e:Env} {a:Act} {Hm H':Zi} {nid:Nat} {o:Oper}
theorem ZDO {n:Nat}{ag:Bool}{cs:List V}{us:List Value}{v:V}{t:TypeId}{off:Nat} (hd:ZY R w cs us) (hag:Zhz P t=some ag) (hsz:Zfb P t=some n) (h:ZfR n ag (cs.drop off)=some v) :
  ∃u,(part t us.toArray off).run P w = .ok u w/\Z5 R w v u:=by
 unfold ZfR at h
 cases ag with
 | false=>
  simp only[cF] at h
  rw[List.head?_eq_getElem?,List.getElem?_drop] at h
  obtain⟨u,h1,h2⟩:=ZeB cs us _ v hd h
  refine⟨u,?_,h2⟩
  simp only[add_zero] at h1
  simp[part,Ze0 hag,h1]
 | true=>
  simp only[cT] at h
  cases hl:Nat.beq ((cs.drop off).take n).length n with
  | false=>rw[hl] at h;cases h
  | true=>
   rw[hl] at h
   simp only[cT,sJ] at h
   subst h
   have hl':((cs.drop off).take n).length=n:=nQ hl
   refine⟨.agg (((us.drop off).take n).toArray),?_,Zry (Zj0 _ _ ?_ ?_)⟩
   ·simp[part,Ze0 hag,Zc6 hsz,List.drop_take]
   ·have:=ZcV cs us hd
    simp only[length_take,length_drop] at hl' ⊢
    omega
   ·intro j v u hv hu
    have hj:j<n:=by have:=(gQ hv).1;omega
    rw[List.getElem?_take,if_pos hj,List.getElem?_drop] at hv hu
    obtain⟨u',g1,g2⟩:=ZeB cs us _ v hd hv
    rw[hu] at g1;cases g1;exact g2
def Ztx (P:Program) (t:TypeId):Option (Nat×TypeId):=match P.underlying t with | some (.array n e)=>some (n,e) | _=>none
theorem Zsx {t el:TypeId}{n:Nat} (h:Ztx P t=some (n,el)):P.underlying t=some (.array n el):=by
 unfold Ztx at h;split at h<;>simp_all
def ZqC (P:Program) (t:TypeId):Option TypeId:=match P.underlying t with | some (.slice e)=>some e | _=>none
theorem Zmj {t el:TypeId} (h:ZqC P t=some el):P.underlying t=some (.slice el):=by
 unfold ZqC at h;split at h<;>simp_all
theorem ZC9 (pre:Pre G R w e a Hm) {t el:TypeId}{len n:Nat}{ag:Bool}{x i:Operand}{y j:Opd}{v:V} (hop:o.op = .index t x i) (hx:Zz G x y=true) (hi:Zz G i j=true) (ht:Ztx P t=some (len,el)) (hag:Zhz P el=some ag) (hsz:Zfb P el=some n)
  (h:Zn2 len n ag (y.val e) (j.val e)=some v) (hp:ZK R.H [] nid [] H'):Zbl P o a w (Post R w nid 0 H' v):=by
 have hv:=pre.opd hx
 have hiv:=pre.opd hi
 unfold Zn2 at h
 split at h
 ·rename_i k m hj
  rw[hj] at hiv
  cases hc:((y.val e).isAggV&&(decide (0<=m)&&decide (m<len))) with
  | false=>rw[hc] at h;cases h
  | true=>
   rw[hc] at h
   simp only[cT] at h
   simp only[aT,decide_eq_true_eq] at hc
   obtain⟨hav,hc⟩:=hc
   have hagg:(∃cs,y.val e = .d (.agg cs))∨∃cs,y.val e = .agg cs:=by
    unfold V.isAggV at hav
    split at hav
    ·rename_i cs hv';exact .inl ⟨cs,hv'⟩
    ·rename_i cs hv';exact .inr ⟨cs,hv'⟩
    ·cases hav
   have hb:(y.val e).okb=true:=by rcases hagg with⟨cs,h3⟩ | ⟨cs,h3⟩<;>rw[h3]<;>rfl
   have hcs:=ZgY hv hb
   have hag':∃us,a.eval x = .agg us:=by
    rcases hagg with⟨cs,h3⟩ | ⟨cs,h3⟩<;>(rw[h3] at hv;obtain⟨us,h5,_⟩:=hv;exact⟨_,h5⟩)
   obtain⟨us,hus⟩:=hag'
   rw[hus] at hcs
   obtain⟨u,h1,h2⟩:=ZDO (P:=P) hcs hag hsz h
   refine Zaq (s:=Instr.index t (a.eval x) (a.eval i)) (u:=u) (by unfold execOp;rw[hop]) ?_ (Post.stay pre.ok hp h2)
   rw[hus,ZjE hiv]
   simp only[Value.cells,Array.toArray_toList] at h1
   simp[Instr.index,asIntOf,run_underlying (Zsx ht),hc,Zc6 hsz,h1]
 ·cases h
theorem ZCM (pre:Pre G R w e a Hm) {t:TypeId}{x i:Operand}{y j:Opd}{v:V} (hop:o.op = .index t x i) (hx:Zz G x y=true) (hi:Zz G i j=true) (ht:P.underlying t=some .string)
  (h:ZkV (y.val e) (j.val e)=some v) (hp:ZK R.H [] nid [] H'):Zbl P o a w (Post R w nid 0 H' v):=by
 have hv:=pre.opd hx
 have hiv:=pre.opd hi
 unfold ZkV at h
 split at h
 ·rename_i s k m hy hj
  rw[hj] at hiv
  rw[hy] at hv
  cases hc:decide (0<=m) with
  | false=>rw[hc] at h;cases h
  | true=>
   rw[hc] at h
   simp only[cT] at h
   have h0:0<=m:=of_decide_eq_true hc
   cases hs:s[m.toNat]? with
   | none=>rw[hs] at h;cases h
   | some b=>
    rw[hs] at h
    simp only[sJ] at h
    subst h
    refine Zaq (s:=Instr.index t (a.eval x) (a.eval i)) (u:=.int .u8 b.toNat) (by unfold execOp;rw[hop]) ?_ (Post.stay pre.ok hp rfl)
    rw[ZjE hiv,show a.eval x = .string s from hv]
    simp[Instr.index,asIntOf,run_underlying ht,h0,hs]
 ·cases h
theorem Zem {m:Option Nat}{xs:List D}{sz of len:Nat}{u:Value} (h:Zt9 w m xs sz of len u) (h0:0<len∨of<xs.length) :
  ∃c cs el fr cap,m=some c/\u = .slice (some ⟨c,of*sz,none⟩) len cap/\len<=cap/\w.heap[c]? = some (.cells cs el fr)/\cs.size=(of+cap)*sz:=by
 obtain⟨h1,ad,cap,rfl,h3,h4⟩:=h
 rcases h4 with⟨rfl,h4⟩ | ⟨c,cs,el,fr,rfl,rfl,h6,h7⟩
 ·exfalso;omega
 ·exact⟨c,cs,el,fr,cap,rfl,rfl,h3,h6,h7⟩
theorem ZuY {t el:TypeId}{n:Nat}{ad:Addr}{len cap:Nat}{k:IntKind}{i:Int} (ht:ZqC P t=some el) (hsz:Zfb P el=some n) (h0:0<=i) (h1:i<len) :
  (Instr.indexAt t (.slice (some ad) len cap) (.int k i)).run P w = .ok (.pointer (some (ad.add (i.toNat*n)))) w:=by
 simp[Instr.indexAt,asIntOf,run_underlying (Zmj ht),Zc6 hsz,h0,h1]
theorem ZCU {A1 A0 AL:Nat->Prop}{b off:Nat}{x:D}{u:Value} (hu:Zaf A1 A0 AL w x u) (hb:(V.d x).okb=true) (hc:∀(k:Nat) v,u.cells[k]? = some v->w.cell? ⟨b,off+k,none⟩=some v) :
  u.cells.size=x.cells.length/\Zbt A1 A0 AL w b off x.cells:=by
 have one:∀{x:D} {u:Value},Zaf A1 A0 AL w x u->u.cells = #[u]->x.cells=[x]->(∀(k:Nat) v,u.cells[k]? = some v->w.cell? ⟨b,off+k,none⟩=some v)->u.cells.size=x.cells.length/\Zbt A1 A0 AL w b off x.cells:=by
  intro x u h1 h2 h3 h4
  have h5:=h4 0 u (by rw[h2];rfl)
  rw[h2,h3]
  exact⟨rfl,⟨u,by simpa using h5,h1⟩,trivial⟩
 cases x with
 | agg cs=>
  obtain⟨us,rfl,h⟩:=hu
  refine⟨by simpa [Value.cells,D.cells] using ZsZ cs us h,Zhj _ _ fun j y hj=>?_⟩
  obtain⟨u,h1,h2⟩:=Zfd cs us j y h hj
  exact⟨u,hc j u (by simpa [Value.cells] using h1),h2⟩
 | tup cs=>simp[V.okb] at hb
 | bool b=>cases hu;exact one (x:=.bool b) rfl rfl rfl hc
 | int k n=>cases hu;exact one (x:=.int k n) rfl rfl rfl hc
 | str s=>cases hu;exact one (x:=.str s) rfl rfl rfl hc
 | nilfn=>cases hu;exact one (x:=.nilfn) rfl rfl rfl hc
 | nilp=>cases hu;exact one (x:=.nilp) rfl rfl rfl hc
 | nilI=>cases hu;exact one (x:=.nilI) rfl rfl rfl hc
 | list own xs=>
  have hu':=hu
  obtain⟨ad,len,cap,rfl,_⟩:=hu'
  exact one hu rfl rfl hc
 | fn f caps=>
  have hu':=hu
  obtain⟨us,rfl,_⟩:=hu'
  exact one hu (Zvd _ _) rfl hc
 | rptr cs=>
  have hu':=hu
  obtain⟨b',off',rfl,_⟩:=hu'
  exact one hu rfl rfl hc
 | iface t v=>
  have hu':=hu
  obtain⟨u',rfl,_⟩:=hu'
  exact one hu rfl rfl hc
theorem Znm (pre:Pre G R w e a Hm) {b sz:Nat}{xs:List D}{u:Value} (hb:nth Hm b=some (.arr sz xs)) (h:Z5 R w (.sl b sz) u) :
  ∃m,R.M b=some m/\nth R.H b=some (.arr sz xs)/\Zgl R w m (.arr sz xs)/\Zt9 w m xs sz 0 xs.length u:=by
 have hb':=pre.le b _ hb (by simp)
 obtain⟨_,m,h1,h2⟩:=h
 exact⟨m,h1,hb',pre.ok.blk b _ _ (by rw[<- ZI];exact hb') h1,h2 xs hb'⟩
theorem ZkY (pre:Pre G R w e a Hm) {b sz o len:Nat}{xs:List D}{u:Value} (hb:nth Hm b=some (.arr sz xs)) (h:Z5 R w (.slp b sz o len) u) :
  ∃m,R.M b=some m/\nth R.H b=some (.arr sz xs)/\Zgl R w m (.arr sz xs)/\Zt9 w m xs sz o len u:=by
 have hb':=pre.le b _ hb (by simp)
 obtain⟨_,m,h1,h2⟩:=h
 exact⟨m,h1,hb',pre.ok.blk b _ _ (by rw[<- ZI];exact hb') h1,h2 xs hb'⟩
theorem ZDk (pre:Pre G R w e a Hm) {t el:TypeId}{n:Nat}{x i:Operand}{y j:Opd}{v:V} (hop:o.op = .indexAddr t x i) (hx:Zz G x y=true) (hi:Zz G i j=true) (ht:ZqC P t=some el) (hsz:Zfb P el=some n)
  (h:Zib Hm n (y.val e) (j.val e)=some v) (hp:ZK R.H [] nid [] H'):Zbl P o a w (Post R w nid 0 H' v):=by
 have hv:=pre.opd hx
 have hiv:=pre.opd hi
 unfold Zib at h
 have fin:∀{k:IntKind} {m:Int} {ad:Addr} {len cap:Nat} ,a.eval i = .int k m->a.eval x = .slice (some ad) len cap->0<=m->m<len->Z5 R w v (.pointer (some (ad.add (m.toNat*n))))->Zbl P o a w (Post R w nid 0 H' v):=
  fun h1 h2 h3 h4 h5=>Zaq (s:=Instr.indexAt t (a.eval x) (a.eval i)) (by unfold execOp;rw[hop]) (by rw[h1,h2];exact ZuY ht hsz h3 h4) (Post.stay pre.ok hp h5)
 split at h
 ·rename_i k m hj
  rw[hj] at hiv
  split at h
  ·rename_i own xs hy
   rw[hy] at hv
   cases hg:Zt xs m with
   | none=>rw[hg] at h;cases h
   | some z=>
    rw[hg] at h
    dsimp only at h
    cases hc:(Nat.beq z.cells.length n&&(V.d z).okb) with
    | false=>rw[hc] at h;cases h
    | true=>
     rw[hc] at h
     simp only[cT,sJ] at h
     subst h
     simp only[aT] at hc
     obtain⟨h0,h1,h2⟩:=Zi2 xs m z hg
     obtain⟨ad,len,cap,e1,rfl,e3,e4,e5⟩:=hv
     obtain⟨b,off,sz,rfl,f2,f3,f4⟩:=e5 (by intro hn;rw[hn] at h2;simp at h2)
     obtain⟨u,g1,g2,g3⟩:=ZjH xs off m.toNat z f4 h2
     obtain⟨q1,q2⟩:=ZCU (b:=b) (off:=off+m.toNat*sz) g1 hc.2 g3
     have hn:sz=n:=by rw[<- g2,q1];exact nQ hc.1
     subst hn
     refine fin (ZjE hiv) e1 h0 h1 ⟨b,off+m.toNat*sz,by rw[Addr.add_lit],?_,f3,q2⟩
     cases own
     ·exact f2
     ·exact⟨f2.1,fun hb=>f2.2 (pre.ok.b01 _ hb)⟩
  ·rename_i b sz' hy
   rw[hy] at hv
   cases hb:nth Hm b with
   | none=>rw[hb] at h;cases h
   | some blk=>
    rw[hb] at h
    cases blk<;>try (cases h;done)
    rename_i sz'' xs
    dsimp only at h
    cases hs:(Nat.beq n sz'&&Nat.beq n sz'') with
    | false=>rw[hs] at h;cases h
    | true=>
     rw[hs] at h
     simp only[aT] at hs
     obtain rfl:=nQ hs.1
     obtain rfl:=nQ hs.2
     simp only[cT] at h
     cases hg:Zt xs m with
     | none=>rw[hg] at h;cases h
     | some z=>
      rw[hg] at h
      simp only[sJ] at h
      subst h
      obtain⟨h0,h1,h2⟩:=Zi2 xs m z hg
      obtain⟨mm,q1,q2,q3,q4⟩:=Znm pre hb hv
      obtain⟨c,cs,el',fr,cap,rfl,e1,e2,e3,e4⟩:=Zem q4 (.inr (by omega))
      refine fin (ZjE hiv) e1 h0 h1 ⟨c,q1,?_⟩
      rw[Addr.add_lit,zero_mul,zero_add];rfl
  ·rename_i b sz' of ln hy
   rw[hy] at hv
   cases hb:nth Hm b with
   | none=>rw[hb] at h;cases h
   | some blk=>
    rw[hb] at h
    cases blk<;>try (cases h;done)
    rename_i sz'' xs
    dsimp only at h
    cases hs:(Nat.beq n sz'&&Nat.beq n sz'') with
    | false=>rw[hs] at h;cases h
    | true=>
     rw[hs] at h
     simp only[aT] at hs
     obtain rfl:=nQ hs.1
     obtain rfl:=nQ hs.2
     simp only[cT] at h
     cases hg:Zt ((xs.drop of).take ln) m with
     | none=>rw[hg] at h;cases h
     | some z=>
      rw[hg] at h
      simp only[sJ] at h
      subst h
      obtain⟨h0,h1,h2⟩:=Zi2 _ m z hg
      simp only[length_take,length_drop] at h1
      obtain⟨mm,q1,q2,q3,q4⟩:=ZkY pre hb hv
      obtain⟨c,cs,el',fr,cap,rfl,e1,e2,e3,e4⟩:=Zem q4 (.inr (by omega))
      refine fin (ZjE hiv) e1 h0 (by omega) ⟨c,q1,?_⟩
      rw[Addr.add_lit,add_mul];rfl
  ·cases h
 ·cases h
end
end
open Int (toNat_of_nonneg)
section
section
variable {P:Program} {G:Z1} {R:RP} {w:World} {e:Env} {a:Act} {Hm H':Zi} {nid:Nat} {o:Oper}
theorem ZzY (pre:Pre G R w e a Hm) {t el:TypeId}{n len:Nat}{x i:Operand}{y j:Opd}{v:V} (hop:o.op = .indexAddr t x i) (hx:Zz G x y=true) (hi:Zz G i j=true) (ht:Ztx P t=some (len,el)) (hsz:Zfb P el=some n)
  (h:ZfT Hm len n (y.val e) (j.val e)=some v) (hp:ZK R.H [] nid [] H'):Zbl P o a w (Post R w nid 0 H' v):=by
 have hv:=pre.opd hx
 have hiv:=pre.opd hi
 unfold ZfT at h
 split at h
 ·rename_i k m hj
  rw[hj] at hiv
  cases hc:(decide (0<=m)&&decide (m<len)) with
  | false=>rw[hc] at h;cases h
  | true=>
   rw[hc] at h
   simp only[cT] at h
   simp only[aT,decide_eq_true_eq] at hc
   obtain⟨ad,h1,h2⟩:=Zvn pre hv h
   refine Zaq (s:=Instr.indexAt t (a.eval x) (a.eval i)) (by unfold execOp;rw[hop]) ?_ (Post.stay pre.ok hp h2)
   rw[h1,ZjE hiv]
   simp[Instr.indexAt,asIntOf,Instr.sureAddr,run_underlying (Zsx ht),Zc6 hsz,hc]
 ·cases h
theorem Zxb (pre:Pre G R w e a Hm) {x:V}{xs:List D}{u:Value} (hx:Z5 R w x u) (h:elems Hm x=some xs) (hl:0<xs.length):∃ad cap,u = .slice (some ad) xs.length cap:=by
 unfold elems at h
 split at h
 ·rename_i own xs'
  simp only[sJ] at h
  subst h
  obtain⟨ad,len,cap,rfl,rfl,e3,e4,e5⟩:=hx
  obtain⟨b,off,sz,rfl,_⟩:=e5 (by intro hn;rw[hn] at hl;simp at hl)
  exact⟨_,cap,rfl⟩
 ·rename_i b sz
  cases hb:nth Hm b with
  | none=>rw[hb] at h;cases h
  | some blk=>
   rw[hb] at h
   cases blk<;>try (cases h;done)
   rename_i sz' xs'
   dsimp only at h
   cases hs:Nat.beq sz sz' with
   | false=>rw[hs] at h;cases h
   | true=>
    rw[hs] at h
    simp only[cT,sJ] at h
    subst h
    obtain rfl:=nQ hs
    obtain⟨m,q1,q2,q3,q4⟩:=Znm pre hb hx
    obtain⟨c,cs,el,fr,cap,rfl,rfl,_⟩:=Zem q4 (.inl hl)
    exact⟨_,cap,rfl⟩
 ·rename_i b sz of len
  cases hb:nth Hm b with
  | none=>rw[hb] at h;cases h
  | some blk=>
   rw[hb] at h
   cases blk<;>try (cases h;done)
   rename_i sz' xs'
   dsimp only at h
   cases hs:Nat.beq sz sz' with
   | false=>rw[hs] at h;cases h
   | true=>
    rw[hs] at h
    simp only[cT,sJ] at h
    subst h
    obtain rfl:=nQ hs
    obtain⟨m,q1,q2,q3,q4⟩:=ZkY pre hb hx
    have hlen:((xs'.drop of).take len).length=len:=by
     have:=q4.1
     simp only[length_take,length_drop];omega
    rw[hlen] at hl ⊢
    obtain⟨c,cs,el,fr,cap,rfl,rfl,_⟩:=Zem q4 (.inl hl)
    exact⟨_,cap,rfl⟩
 ·simp only[sJ] at h
  subst h
  simp at hl
 ·cases h
theorem ZtP (pre:Pre G R w e a Hm) {x:V}{xs:List D}{u:Value} (hx:Z5 R w x u) (h:elems Hm x=some xs):∃ad cap,u = .slice ad xs.length cap/\xs.length<=cap:=by
 unfold elems at h
 split at h
 ·rename_i own xs'
  simp only[sJ] at h
  subst h
  obtain⟨ad,len,cap,rfl,rfl,e3,_⟩:=hx
  exact⟨ad,cap,rfl,e3⟩
 ·rename_i b sz
  cases hb:nth Hm b with
  | none=>rw[hb] at h;cases h
  | some blk=>
   rw[hb] at h
   cases blk<;>try (cases h;done)
   rename_i sz' xs'
   dsimp only at h
   cases hs:Nat.beq sz sz' with
   | false=>rw[hs] at h;cases h
   | true=>
    rw[hs] at h
    simp only[cT,sJ] at h
    subst h
    obtain rfl:=nQ hs
    obtain⟨m,q1,q2,q3,q4,ad,cap,rfl,q5,_⟩:=Znm pre hb hx
    exact⟨ad,cap,rfl,q5⟩
 ·rename_i b sz of len
  cases hb:nth Hm b with
  | none=>rw[hb] at h;cases h
  | some blk=>
   rw[hb] at h
   cases blk<;>try (cases h;done)
   rename_i sz' xs'
   dsimp only at h
   cases hs:Nat.beq sz sz' with
   | false=>rw[hs] at h;cases h
   | true=>
    rw[hs] at h
    simp only[cT,sJ] at h
    subst h
    obtain rfl:=nQ hs
    obtain⟨m,q1,q2,q3,q4,ad,cap,rfl,q5,_⟩:=ZkY pre hb hx
    have:((xs'.drop of).take len).length=len:=by simp only[length_take,length_drop];omega
    rw[this]
    exact⟨ad,cap,rfl,q5⟩
 ·simp only[sJ] at h
  subst h
  obtain⟨ad,rfl⟩:=hx
  exact⟨ad,0,rfl,Nat.le_refl _⟩
 ·cases h
theorem ZeY {b:Builtin}{xs:Array Operand}{ats:Array TypeId} (hop:o.op = .call { callee:=.builtin b,args:=xs,argTypes:=ats }) :
  execOp a.eval o=builtin b ats o.type (xs.map fun | .const _=>true | _=>false) (xs.map a.eval):=by
 obtain⟨dst,op,ty,pos,after,guard⟩:=o
 simp only at hop
 subst hop
 rfl
theorem ZHM (pre:Pre G R w e a Hm) {t el:TypeId}{x:Operand}{y:Opd}{r:D} (hop:o.op = .call { callee:=.builtin .len,args:=#[x],argTypes:=#[t] }) (hx:Zz G x y=true) (ht:ZqC P t=some el)
  (h:Zue Hm (y.val e)=some r) (hp:ZK R.H [] nid [] H'):Zbl P o a w (Post R w nid 0 H' (.d r)):=by
 have hv:=pre.opd hx
 unfold Zue at h
 cases hes:elems Hm (y.val e) with
 | none=>rw[hes] at h;cases h
 | some xs=>
  rw[hes] at h
  simp only[sJ] at h
  subst h
  obtain⟨ad,cap,h1,_⟩:=ZtP pre hv hes
  refine Zaq (s:=Builtin.len_ #[t] o.type #[a.eval x]) (u:=.int .i64 xs.length) (by rw[ZeY hop,BigFrame.builtin_len];simp) ?_ (Post.stay pre.ok hp rfl)
  rw[h1]
  simp[Builtin.len_,run_underlying (Zmj ht),goInt]
def Zxl (x:Option Value) (d l:Nat):Prop:=(x=none/\l=d)∨∃k,x=some (.int k (l:Int))
theorem ZFY {t el:TypeId}{sz:Nat}{ad:Option Addr}{len cap l h:Nat}{lo hi:Option Value} (ht:ZqC P t=some el) (hsz:Zfb P el=some sz) (h1:Zxl lo 0 l) (h2:Zxl hi len h) (h3:l<=h) (h4:h<=cap) (h5:len<=cap) :
  (Instr.sliceAt t (.slice ad len cap) lo hi none).run P w = .ok (.slice (if cap=l then ad else ad.map (·.add (l*sz))) (h-l) (cap-l)) w:=by
 have ht':=Zmj ht
 rcases h1 with⟨rfl,rfl⟩ | ⟨k1,rfl⟩<;>rcases h2 with⟨rfl,rfl⟩ | ⟨k2,rfl⟩<;>
  simp[Instr.sliceAt,Instr.slice,run_underlying ht',Instr.sliceBounds,Instr.sliceBound,asIntOf,Zc6 hsz, *]
theorem ZDD {t el:TypeId}{sz:Nat}{ad:Option Addr}{len cap l h m:Nat}{lo hi mx:Option Value} (ht:ZqC P t=some el) (hsz:Zfb P el=some sz) (h1:Zxl lo 0 l) (h2:∃k,hi=some (.int k (h:Int))) (h6:∃k,mx=some (.int k (m:Int))) (h3:l<=h) (h4:h<=m) (h5:m<=cap) :
  (Instr.sliceAt t (.slice ad len cap) lo hi mx).run P w = .ok (.slice (if m=l then ad else ad.map (·.add (l*sz))) (h-l) (m-l)) w:=by
 have ht':=Zmj ht
 obtain⟨k2,rfl⟩:=h2
 obtain⟨k3,rfl⟩:=h6
 rcases h1 with⟨rfl,rfl⟩ | ⟨k1,rfl⟩<;>
  simp[Instr.sliceAt,Instr.slice,run_underlying ht',Instr.sliceBounds,Instr.sliceBound,asIntOf,Zc6 hsz, *]
def ZnO (G:Z1):Option Operand->Option Opd->Bool
 | none,none=>true
 | some x,some y=>Zz G x y
 | _,_=>false
theorem Zwd (pre:Pre G R w e a Hm) {x:Option Operand}{y:Option Opd}{d l:Nat} (hx:ZnO G x y=true) (h:Zhw (y.map (·.val e)) d=some l):Zxl (x.map a.eval) d l:=by
 cases x with
 | none=>
  cases y with
  | some y=>cases hx
  | none=>simp[Zhw] at h;exact .inl ⟨rfl,h.symm⟩
 | some x=>
  cases y with
  | none=>cases hx
  | some y=>
   have hv:=pre.opd (x:=x) (y:=y) hx
   simp only[map_some] at h
   unfold Zhw at h
   split at h
   ·cases ‹some _=none›
   ·rename_i k n hy
    simp only[sJ] at hy
    rw[hy] at hv
    cases h0:decide (0<=n) with
    | false=>rw[h0] at h;cases h
    | true=>
     rw[h0] at h
     simp only[cT,sJ] at h
     have h0':0<=n:=of_decide_eq_true h0
     refine .inr ⟨k,?_⟩
     simp only[map_some]
     rw[ZjE hv,<- h,toNat_of_nonneg h0']
   ·cases h
theorem ZDJ (pre:Pre G R w e a Hm) {t el:TypeId}{n:Nat}{x:Operand}{y:Opd}{lo hi mx:Option Operand}{lo' hi' mx':Option Opd}{v:V} (hop:o.op = .slice t x lo hi mx) (hx:Zz G x y=true)
  (hlo:ZnO G lo lo'=true) (hhi:ZnO G hi hi'=true) (hmx:ZnO G mx mx'=true) (hh:mx'.isSome=true->hi'.isSome=true) (ht:ZqC P t=some el) (hsz:Zfb P el=some n)
  (h:ZiK Hm n (y.val e) (lo'.map (·.val e)) (hi'.map (·.val e)) (mx'.map (·.val e))=some v) (hp:ZK R.H [] nid [] H'):Zbl P o a w (Post R w nid 0 H' v):=by
 have hv:=pre.opd hx
 unfold ZiK at h
 cases hes:elems Hm (y.val e) with
 | none=>rw[hes] at h;cases h
 | some xs=>
  rw[hes] at h
  dsimp only at h
  cases hl:Zhw (lo'.map (·.val e)) 0 with
  | none=>rw[hl] at h;cases h
  | some l=>
   rw[hl] at h
   cases hhn:Zhw (hi'.map (·.val e)) xs.length with
   | none=>rw[hhn] at h;cases h
   | some hn=>
    rw[hhn] at h
    dsimp only at h
    cases hc:(Nat.ble l hn&&Nat.ble hn xs.length) with
    | false=>rw[hc] at h;cases h
    | true=>
     rw[hc] at h
     simp only[cT] at h
     simp only[aT,ble_eq] at hc
     obtain⟨c1,c2⟩:=hc
     obtain⟨ad,cap,q1,q2⟩:=ZtP pre hv hes
     have b1:=Zwd pre hlo hl
     have b2:=Zwd pre hhi hhn
     have fin:Z5 R w v (.slice (if cap=l then ad else ad.map (·.add (l*n))) (hn-l) (cap-l))->mx=none->Zbl P o a w (Post R w nid 0 H' v):=fun h5 hm=>
      Zaq (s:=Instr.sliceAt t (a.eval x) (lo.map a.eval) (hi.map a.eval) (mx.map a.eval)) (by unfold execOp;rw[hop]) (by rw[q1,hm];exact ZFY ht hsz b1 b2 c1 (by omega) q2) (Post.stay pre.ok hp h5)
     cases mx' with
     | none=>
      have hm:mx=none:=by cases mx with | none=>rfl | some m=>cases hmx
      simp only[Option.map_none] at h
      refine fin ?_ hm
      rw[q1] at hv
      cases hy:y.val e<;>rw[hy] at h hv hes<;>try (cases h;done)
      ·rename_i z
       cases z<;>try (cases h;done)
       rename_i own xs'
       simp only[elems,sJ] at hes
       subst hes
       dsimp only at h
       cases hg:(Nat.beq l 0 || Zjz n xs' l) with
       | false=>rw[hg] at h;cases h
       | true=>
        rw[hg] at h
        simp only[cT,sJ] at h
        subst h
        obtain⟨ad',len',cap',e1,e2,e3,e4,e5⟩:=hv
        cases e1
        have hlen:((xs'.drop l).take (hn-l)).length=hn-l:=by simp only[length_take,length_drop];omega
        refine⟨_,_,_,rfl,hlen.symm,by omega,fun z hz=>e4 z (List.mem_of_mem_drop (List.mem_of_mem_take hz)),fun hne=>?_⟩
        have hlt:l<hn:=by
         rcases lt_or_ge l hn with h | h
         ·exact h
         ·exact absurd (List.eq_nil_of_length_eq_zero (by omega)) hne
        obtain⟨b,off,sz,rfl,f2,f3,f4⟩:=e5 (by intro hn';rw[hn'] at c2;simp at c2;omega)
        have hcl:cap≠l:=by omega
        have hsame:l*n=l*sz:=by
         simp only[Bool.or_eq_true] at hg
         rcases hg with hg | hg
         ·rw[nQ hg,zero_mul,zero_mul]
         ·have hll:l<xs'.length:=by omega
          unfold Zjz at hg
          rw[ZI,gE hll] at hg
          simp only[aT] at hg
          obtain⟨u,g1,g2,g3⟩:=ZjH xs' off l _ f4 (gE hll)
          have:=ZgY (R:=R) (v:=.d xs'[l]) g1 hg.2
          have h6:=ZcV _ _ this
          have hVc:(V.d xs'[l]).cells=ZbM xs'[l].cells:=by cases xs'[l]<;>rfl
          rw[hVc,Zmg,length_map,nQ hg.1] at h6
          rw[<- g2];simp at h6;rw[h6]
        refine⟨b,off+l*sz,sz,by rw[if_neg hcl,hsame];simp[Addr.add_lit],f2,f3,Zh6 _ _ fun j z hz=>?_⟩
        have hj:j<hn-l:=by have:=(gQ hz).1;omega
        rw[List.getElem?_take,if_pos hj,List.getElem?_drop] at hz
        obtain⟨u,g1,g2,g3⟩:=ZjH xs' off (l+j) z f4 hz
        exact⟨u,g1,g2,fun k v hk=>by rw[<- g3 k v hk,add_mul];congr 2;omega⟩
      ·rename_i b sz'
       dsimp only at h
       cases hg:Nat.beq n sz' with
       | false=>rw[hg] at h;cases h
       | true=>
        rw[hg] at h
        simp only[cT,sJ] at h
        obtain rfl:=nQ hg
        subst h
        simp only[elems] at hes
        cases hb:nth Hm b with
        | none=>rw[hb] at hes;cases hes
        | some blk=>
         rw[hb] at hes
         cases blk<;>try (cases hes;done)
         rename_i sz'' xs'
         dsimp only at hes
         cases hs:Nat.beq n sz'' with
         | false=>rw[hs] at hes;cases hes
         | true=>
          rw[hs] at hes
          simp only[cT,sJ] at hes
          obtain rfl:=nQ hs
          subst hes
          obtain⟨m,r1,r2,r3,r4⟩:=Znm pre hb hv
          refine⟨⟨_,_,_,rfl⟩,m,r1,fun ys hys=>?_⟩
          rw[r2] at hys;cases hys
          obtain⟨_,ad',cap',s1,s2,s3⟩:=r4
          cases s1
          refine⟨by omega,_,_,rfl,by omega,?_⟩
          rcases s3 with⟨s3,s4⟩ | ⟨c,cs,el',fr,s4,s5,s6,s7⟩
          ·exact .inl ⟨by omega,by omega⟩
          ·by_cases hcl:cap=l
           ·exact .inl ⟨by omega,by omega⟩
           ·refine .inr ⟨c,cs,el',fr,s4,?_,s6,?_⟩
            ·rw[if_neg hcl,s5];simp[Addr.add_lit]
            ·rw[s7];congr 1;omega
      ·rename_i b sz' of len
       dsimp only at h
       cases hg:Nat.beq n sz' with
       | false=>rw[hg] at h;cases h
       | true=>
        rw[hg] at h
        simp only[cT,sJ] at h
        obtain rfl:=nQ hg
        subst h
        simp only[elems] at hes
        cases hb:nth Hm b with
        | none=>rw[hb] at hes;cases hes
        | some blk=>
         rw[hb] at hes
         cases blk<;>try (cases hes;done)
         rename_i sz'' xs'
         dsimp only at hes
         cases hs:Nat.beq n sz'' with
         | false=>rw[hs] at hes;cases hes
         | true=>
          rw[hs] at hes
          simp only[cT,sJ] at hes
          obtain rfl:=nQ hs
          subst hes
          obtain⟨m,r1,r2,r3,r4⟩:=ZkY pre hb hv
          simp only[length_take,length_drop] at c2 r4 q2
          refine⟨⟨_,_,_,rfl⟩,m,r1,fun ys hys=>?_⟩
          rw[r2] at hys;cases hys
          obtain⟨s0,ad',cap',s1,s2,s3⟩:=r4
          simp only[Value.slice.injEq] at s1
          obtain⟨rfl,_,rfl⟩:=s1
          refine⟨by omega,_,_,rfl,by omega,?_⟩
          rcases s3 with⟨s3,s4⟩ | ⟨c,cs,el',fr,s4,s5,s6,s7⟩
          ·exact .inl ⟨by omega,by omega⟩
          ·obtain⟨t0,_,t1⟩:=r3
           by_cases hcl:cap=l
           ·refine .inl ⟨by omega,?_⟩
            rcases t1 with⟨t1,t2⟩ | ⟨c',cs',el'',t1,t2,t3,_⟩
            ·rw[t1] at s4;cases s4
            ·rw[t1] at s4;cases s4
             rw[t2] at s6;cases s6
             rw[s7] at t3
             have:=Nat.le_of_mul_le_mul_right t3 t0
             omega
           ·refine .inr ⟨c,cs,el',fr,s4,?_,s6,?_⟩
            ·rw[if_neg hcl,s5];simp[Addr.add_lit,add_mul]
            ·rw[s7];congr 1;omega
      ·rename_i sz'
       simp only[sJ] at h
       subst h
       simp only[elems,sJ] at hes
       subst hes
       obtain⟨ad',hv⟩:=hv
       cases hv
       simp only[length_nil] at c2
       obtain rfl:l=0:=by omega
       obtain rfl:hn=0:=by omega
       exact⟨_,rfl⟩
     | some m'=>
      cases mx with
      | none=>cases hmx
      | some m=>
       cases hhs:hi' with
       | none=>rw[hhs] at hh;cases hh rfl
       | some hi1=>
        dsimp only[map_some] at h
        cases hm:Zhw (some (m'.val e)) 0 with
        | none=>rw[hm] at h;cases h
        | some mm=>
         rw[hm] at h
         dsimp only at h
         cases hg:(Nat.beq mm l&&Nat.beq mm hn) with
         | false=>rw[hg] at h;cases h
         | true=>
          rw[hg] at h
          simp only[cT,sJ] at h
          subst h
          simp only[aT] at hg
          obtain rfl:=nQ hg.1
          obtain rfl:=nQ hg.2
          have b3:=Zwd pre (x:=some m) (y:=some m') hmx (by simpa using hm)
          refine Zaq (s:=Instr.sliceAt t (a.eval x) (lo.map a.eval) (hi.map a.eval) ((some m).map a.eval)) (by unfold execOp;rw[hop]) (by
           rw[q1]
           refine ZDD ht hsz b1 ?_ ?_ c1 (Nat.le_refl _) (by omega)
           ·rcases b2 with⟨b2,_⟩ | b2
            ·exfalso
             cases hi with
             | none=>rw[hhs] at hhi;cases hhi
             | some hi0=>cases b2
            ·exact b2
           ·rcases b3 with⟨b3,_⟩ | b3
            ·cases b3
            ·exact b3) (Post.stay pre.ok hp ?_)
          exact⟨_,by rw[Nat.sub_self]⟩
end
end
section
section
variable {P:Program} {G:Z1} {R:RP} {w:World} {e:Env} {a:Act} {Hm H':Zi} {nid:Nat} {o:Oper}
theorem ZAb:∀(vs:List V) (us:List Value) (k:IntKind) (n:Int) (r:D),ZY R w vs us->mxE.go true k n vs=some r->∃u,(us.foldlM Builtin.max2 (.int k n)).run P w = .ok u w/\R.den w r u
 | [],us,k,n,r,hd,h=>by
  simp only[mxE.go,sJ] at h
  simp only[ZY] at hd
  subst h;subst hd
  exact⟨.int k n,rfl,rfl⟩
 | v :: vs,us,k,n,r,hd,h=>by
  obtain⟨u,us',rfl,h1,h2⟩:=hd
  cases v<;>try (cases h;done)
  rename_i x
  cases x<;>try (cases h;done)
  rename_i k' m
  simp only[mxE.go,cT] at h
  obtain⟨u,h3,h4⟩:=ZAb vs us' k _ r h2 h
  refine⟨u,?_,h4⟩
  cases h1
  rw[List.foldlM_cons,Sem.run_bind,<- h3]
  by_cases hlt:n<m
  ·simp[Builtin.max2,hlt]
  ·simp[Builtin.max2,hlt]
theorem ZzV:∀(vs:List V) (us:List Value) (k:IntKind) (n:Int) (r:D),ZY R w vs us->mxE.go false k n vs=some r->∃u,(us.foldlM Builtin.min2 (.int k n)).run P w = .ok u w/\R.den w r u
 | [],us,k,n,r,hd,h=>by
  simp only[mxE.go,sJ] at h
  simp only[ZY] at hd
  subst h;subst hd
  exact⟨.int k n,rfl,rfl⟩
 | v :: vs,us,k,n,r,hd,h=>by
  obtain⟨u,us',rfl,h1,h2⟩:=hd
  cases v<;>try (cases h;done)
  rename_i x
  cases x<;>try (cases h;done)
  rename_i k' m
  simp only[mxE.go,cF] at h
  obtain⟨u,h3,h4⟩:=ZzV vs us' k _ r h2 h
  refine⟨u,?_,h4⟩
  cases h1
  rw[List.foldlM_cons,Sem.run_bind,<- h3]
  by_cases hlt:m<n
  ·simp[Builtin.min2,hlt]
  ·simp[Builtin.min2,hlt]
theorem ZHp (pre:Pre G R w e a Hm) {b:Bool}{ats:Array TypeId}{xs:Array Operand}{ys:List Opd}{r:D} (hop:o.op = .call { callee:=.builtin (bif b then .max else .min),args:=xs,argTypes:=ats }) (hx:ZcM G xs.toList ys=true)
  (h:mxE b (Zd4 e ys)=some r) (hp:ZK R.H [] nid [] H'):Zbl P o a w (Post R w nid 0 H' (.d r)):=by
 have hv:=pre.opds hx
 have hl:(xs.map a.eval).toList=xs.toList.map a.eval:=by simp
 cases hvs:Zd4 e ys with
 | nil=>rw[hvs] at h;cases h
 | cons v vs=>
  rw[hvs] at h hv
  obtain⟨u,us,hus,h1,h2⟩:=hv
  cases v<;>try (cases h;done)
  rename_i x
  cases x<;>try (cases h;done)
  rename_i k n
  cases h1
  simp only[mxE] at h
  cases b with
  | true=>
   obtain⟨u,h3,h4⟩:=ZAb (P:=P) vs us k n r h2 h
   refine Zaq (s:=Builtin.max_ ats o.type (xs.map a.eval)) (u:=u) (by rw[ZeY hop];rfl) ?_ (Post.stay pre.ok hp h4)
   rw[Builtin.max_,hl,hus];exact h3
  | false=>
   obtain⟨u,h3,h4⟩:=ZzV (P:=P) vs us k n r h2 h
   refine Zaq (s:=Builtin.min_ ats o.type (xs.map a.eval)) (u:=u) (by rw[ZeY hop];rfl) ?_ (Post.stay pre.ok hp h4)
   rw[Builtin.min_,hl,hus];exact h3
theorem ZDi (pre:Pre G R w e a Hm) {x:Operand}{y:Opd}{v:V} (hop:o.op = .nilCheck x) (hx:Zz G x y=true) (h:ZwM Hm (y.val e)=some v) (hp:ZK R.H [] nid [] H'):Zbl P o a w (Post R w nid 0 H' v):=by
 have hv:=pre.opd hx
 have ptr:∀(ad:Addr) v,a.eval x = .pointer (some ad)->Z5 R w v (a.eval x)->Zbl P o a w (Post R w nid 0 H' v):=fun ad v h1 h2=>
  .val (u:=a.eval x) (w':=w) (by unfold execOp;rw[hop];simp[h1]) (Post.stay pre.ok hp h2)
 unfold ZwM at h
 split at h
 ·rename_i f caps hy
  cases hb:Nat.beq f 2000000 with
  | true=>rw[hb] at h;cases h
  | false=>
  rw[hb] at h
  simp only[cF,sJ] at h
  subst h
  rw[hy] at hv
  have hv':=hv
  obtain⟨us,h1,_⟩:=hv'
  exact .val (u:=a.eval x) (w':=w) (by unfold execOp;rw[hop];simp only[h1];unfold Zjy;rw[hb];cases isU _<;>simp) (Post.stay pre.ok hp hv)
 ·rename_i f caps hy
  cases hb:Nat.beq f 2000000 with
  | true=>rw[hb] at h;cases h
  | false=>
  rw[hb] at h
  simp only[cF,sJ] at h
  subst h
  rw[hy] at hv
  have hv':=hv
  obtain⟨us,h1,_⟩:=hv'
  exact .val (u:=a.eval x) (w':=w) (by unfold execOp;rw[hop];simp only[h1];unfold Zjy;rw[hb];cases isU _<;>simp) (Post.stay pre.ok hp hv)
 ·rename_i t z hy
  simp only[sJ] at h
  subst h
  rw[hy] at hv
  have hv':=hv
  obtain⟨u',h1,_⟩:=hv'
  exact .val (u:=a.eval x) (w':=w) (by unfold execOp;rw[hop];simp[h1]) (Post.stay pre.ok hp hv)
 ·rename_i cs hy
  simp only[sJ] at h
  subst h
  rw[hy] at hv
  have hv':=hv
  obtain⟨b,off,h1,_⟩:=hv'
  exact ptr _ _ h1 hv
 ·rename_i b off hy
  simp only[sJ] at h
  subst h
  rw[hy] at hv
  have hv':=hv
  obtain⟨c,_,h1⟩:=hv'
  exact ptr _ _ h1 hv
 ·rename_i b sz i k hy
  simp only[sJ] at h
  subst h
  rw[hy] at hv
  have hv':=hv
  obtain⟨c,_,h1⟩:=hv'
  exact ptr _ _ h1 hv
 ·cases h
structure Zij (R R':RP) (ks:List Nat):Prop where
 m:R'.M=R.M
 b1:R'.B1=R.B1
 live:∀i,ZN R'.H i=true->ZN R.H i=true
 dead:∀k∈ks,ZN R'.H k=false
theorem Zij.a1 {R R':RP}{ks:List Nat} (h:Zij R R' ks):∀b,R.A1 b->R'.A1 b:=fun b ⟨h1,h2⟩=>
 ⟨fun⟨i,l1,l2⟩=>h1 ⟨i,h.live i l1,by rw[<- h.m];exact l2⟩,by rw[h.b1];exact h2⟩
theorem Zij.own {R R':RP}{ks:List Nat} (h:Zij R R' ks) (ok:R.OK w) {b c:Nat} (hb:ZN R.H b=true) (hk:b∈ks) (hm:R.M b=some (some c)):R'.A1 c:=
 ⟨fun⟨i,l1,l2⟩=>by
  rw[h.m] at l2
  have:=ok.inj i b c (h.live i l1) hb l2 hm
  subst this
  rw[h.dead i hk] at l1
  exact Bool.noConfusion l1,by rw[h.b1];exact ok.nb b c hb hm⟩
theorem ZuK {H:Zi}{b sz:Nat}{xs:List D} (h:nth H b=some (.arr sz xs)):ZN H b=true:=by
 unfold ZN;rw[h]
theorem ZqN (ok:R.OK w) {c sz:Nat}{xs:List D}{A1' A0' AL':Nat->Prop} (h1:∀b,R.A1 b->A1' b) {l n:Nat} (hb:Zgl R w (some c) (.arr sz xs)) (hne:(xs.drop l).take n≠[]) :
  ZeG A1' A0' AL' w c sz (l*sz) ((xs.drop l).take n):=by
 obtain⟨_,he,hb⟩:=hb
 rcases hb with⟨hb,_⟩ | ⟨c',cs,el,e1,e2,e3,e4⟩
 ·cases hb
 ·cases e1
  refine Zh6 _ _ fun j x hj=>?_
  rw[List.getElem?_take] at hj
  by_cases hjn:j<n
  ·rw[if_pos hjn,List.getElem?_drop] at hj
   obtain⟨u,f1,f2,f3⟩:=e4 (l+j) x hj
   refine⟨u,Zaf.lift h1 x u (he x (mG hj)) f1,f2,fun k v hk=>?_⟩
   rw[Za2 e2,<- f3 k v hk,add_mul]
  ·rw[if_neg hjn] at hj;cases hj
mutual
theorem Zmn (n:Nat):∀(v:V) (y:D) (ks:List Nat),(pre:Pre G R w e a Hm)->fr Hm n v=some (y,ks)->∀{R':RP}{ks':List Nat},Zij R R' ks'->(∀k∈ks,k∈ks')->∀u,Z5 R w v u->(y.esc=true∨∃ts,y = .tup ts)/\∀A0' AL',Zaf R'.A1 A0' AL' w y u:=by
 intro v y ks pre h R' ks' hL hks u hu
 cases n with
 | zero=>cases h
 | succ n=>
  simp only[fr] at h
  cases v<;>try (cases h;done)
  ·rename_i x
   dsimp only at h
   split at h
   ·rename_i ts
    cases he:Zw0 ts with
    | false=>rw[he] at h;cases h
    | true=>
     rw[he] at h
     simp only[cT,sJ,pJ] at h
     obtain⟨rfl,_⟩:=h
     obtain⟨us,rfl,hu⟩:=hu
     exact⟨.inr ⟨ts,rfl⟩,fun A0' AL'=>⟨us,rfl,Z6.liftT hL.a1 ts us he hu⟩⟩
   ·cases he:x.esc with
    | false=>rw[he] at h;cases h
    | true=>
     rw[he] at h
     simp only[cT,sJ,pJ] at h
     obtain⟨rfl,_⟩:=h
     exact⟨.inl he,fun A0' AL'=>Zaf.lift hL.a1 x u he hu⟩
  ·rename_i b sz
   dsimp only at h
   cases hb:nth Hm b with
   | none=>rw[hb] at h;cases h
   | some blk=>
    rw[hb] at h
    cases blk<;>try (cases h;done)
    rename_i sz' xs
    dsimp only at h
    cases hs:Nat.beq sz sz' with
    | false=>rw[hs] at h;cases h
    | true=>
     rw[hs] at h
     obtain rfl:=nQ hs
     simp only[cT,sJ,pJ] at h
     obtain⟨rfl,rfl⟩:=h
     refine⟨.inl rfl,fun A0' AL'=>?_⟩
     obtain⟨m,q1,q2,q3,q4⟩:=Znm pre hb hu
     have q5:=q4
     obtain⟨_,ad,cap,rfl,q6,q7⟩:=q5
     refine⟨_,_,_,rfl,rfl,q6,q3.2.1,fun hne=>?_⟩
     obtain⟨c,cs,el,fr',cap',rfl,e1,e2,e3,e4⟩:=Zem q4 (.inl (List.length_pos_iff.2 hne))
     cases e1
     refine⟨c,0*sz,sz,rfl,hL.own pre.ok (ZuK q2) (hks _ (by simp)) q1,pre.ok.lt _ _ q1,?_⟩
     have:=ZqN pre.ok (A0':=A0') (AL':=AL') hL.a1 (l:=0) (n:=xs.length) q3 (by simpa using hne)
     simpa using this
  ·rename_i b sz of len
   dsimp only at h
   cases hb:nth Hm b with
   | none=>rw[hb] at h;cases h
   | some blk=>
    rw[hb] at h
    cases blk<;>try (cases h;done)
    rename_i sz' xs
    dsimp only at h
    cases hs:Nat.beq sz sz' with
    | false=>rw[hs] at h;cases h
    | true=>
     rw[hs] at h
     obtain rfl:=nQ hs
     simp only[cT,sJ,pJ] at h
     obtain⟨rfl,rfl⟩:=h
     refine⟨.inl rfl,fun A0' AL'=>?_⟩
     obtain⟨m,q1,q2,q3,q4⟩:=ZkY pre hb hu
     have q5:=q4
     obtain⟨q8,ad,cap,rfl,q6,q7⟩:=q5
     have hlen:((xs.drop of).take len).length=len:=by simp only[length_take,length_drop];omega
     refine⟨_,_,_,rfl,hlen.symm,q6,fun x hx=>q3.2.1 x (List.mem_of_mem_drop (List.mem_of_mem_take hx)),fun hne=>?_⟩
     obtain⟨c,cs,el,fr',cap',rfl,e1,e2,e3,e4⟩:=Zem q4 (.inl (by rw[<- hlen];exact List.length_pos_iff.2 hne))
     cases e1
     exact⟨c,of*sz,sz,rfl,hL.own pre.ok (ZuK q2) (hks _ (by simp)) q1,pre.ok.lt _ _ q1,ZqN pre.ok hL.a1 q3 hne⟩
  ·simp only[sJ,pJ] at h
   obtain⟨rfl,rfl⟩:=h
   obtain⟨ad,rfl⟩:=hu
   exact⟨.inl rfl,fun A0' AL'=>⟨_,_,_,rfl,rfl,Nat.le_refl _,by simp,by simp⟩⟩
  ·rename_i cs
   dsimp only at h
   cases hl:frl (fr Hm n) cs with
   | none=>rw[hl] at h;cases h
   | some p=>
    obtain⟨l,ks1⟩:=p
    rw[hl] at h
    dsimp only at h
    cases he:D.escs l with
    | false=>rw[he] at h;cases h
    | true=>
     rw[he] at h
     simp only[cT,sJ,pJ] at h
     obtain⟨rfl,rfl⟩:=h
     obtain⟨us,rfl,h1⟩:=hu
     have g2:=Zuc n cs l ks1 pre hl hL hks us h1
     exact⟨.inl he,fun A0' AL'=>⟨us,rfl,g2 A0' AL'⟩⟩
  ·rename_i cs
   dsimp only at h
   cases hl:frl (fr Hm n) cs with
   | none=>rw[hl] at h;cases h
   | some p=>
    obtain⟨l,ks1⟩:=p
    rw[hl] at h
    simp only[sJ,pJ] at h
    obtain⟨rfl,rfl⟩:=h
    obtain⟨us,rfl,h1⟩:=hu
    have g2:=Zuc n cs l ks1 pre hl hL hks us h1
    exact⟨.inr ⟨_,rfl⟩,fun A0' AL'=>⟨us,rfl,g2 A0' AL'⟩⟩
termination_by (n,0)
theorem Zuc (n:Nat):∀(vs:List V) (ys:List D) (ks:List Nat),(pre:Pre G R w e a Hm)->frl (fr Hm n) vs=some (ys,ks)->∀{R':RP}{ks':List Nat},Zij R R' ks'->(∀k∈ks,k∈ks')->∀us,ZY R w vs us->∀A0' AL',Z6 R'.A1 A0' AL' w ys us
 | [],ys,ks,pre,h,R',ks',hL,hks,us,hu=>by
  simp only[frl,sJ,pJ] at h
  obtain⟨rfl,rfl⟩:=h
  exact fun _ _=>hu
 | v :: vs,ys,ks,pre,h,R',ks',hL,hks,us,hu=>by
  simp only[frl] at h
  cases h1:fr Hm n v with
  | none=>rw[h1] at h;cases h
  | some p=>
   obtain⟨y,k1⟩:=p
   cases h2:frl (fr Hm n) vs with
   | none=>rw[h1,h2] at h;cases h
   | some q=>
    obtain⟨ys',k2⟩:=q
    rw[h1,h2] at h
    simp only[sJ,pJ] at h
    obtain⟨rfl,rfl⟩:=h
    obtain⟨u,us',rfl,e1,e2⟩:=hu
    obtain⟨g1,g2⟩:=Zmn n v y k1 pre h1 hL (fun k hk=>hks k (by simp[hk])) u e1
    have g4:=Zuc n vs ys' k2 pre h2 hL (fun k hk=>hks k (by simp[hk])) us' e2
    exact fun A0' AL'=>⟨u,us',rfl,g2 A0' AL',g4 A0' AL'⟩
termination_by vs=>(n,vs.length+1)
end
theorem Zij.refl (R:RP):Zij R R []:=⟨rfl,rfl,fun _ h=>h,by simp⟩
theorem ZFR (pre:Pre G R w e a Hm) {t:TypeId}{x:Operand}{y:Opd}{z:D} (hop:o.op = .makeInterface t x) (hx:Zz G x y=true) (ht:P.concrete t=true)
  (h:fr Hm 6 (y.val e)=some (z,[])) (hp:ZK R.H [] nid [] H'):Zbl P o a w (Post R w nid 0 H' (.d (.iface t z))):=by
 have hv:=pre.opd hx
 obtain⟨_,g⟩:=Zmn 6 _ z [] pre h (Zij.refl R) (fun _ h=>h) _ hv
 exact Zaq (s:=Instr.makeInterface t (a.eval x)) (by unfold execOp;rw[hop]) (run_makeInterface w t _ ht) (Post.stay pre.ok hp ⟨_,rfl,g _ _⟩)
end
end
end Go.Proofs.YtgcfmiajkbbmeaaGreatE
