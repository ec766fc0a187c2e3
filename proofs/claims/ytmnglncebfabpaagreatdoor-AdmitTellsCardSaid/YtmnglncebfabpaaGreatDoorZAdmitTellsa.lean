/- AdmitTells: part 1 of 6 of the proof. -/
import Derived.Calls
import Derived.Orders
import Derived.Test.YtmnglncebfabpaaGreatDoorProg
import Derived.Below
import Derived.WalkKit
import Derived.Laws.MakeOwn
set_option maxRecDepth 100000
set_option maxHeartbeats 40000000
set_option linter.unusedVariables false
set_option linter.unusedSimpArgs false
namespace Go.Proofs.YtmnglncebfabpaaGreatDoorE
open Go
open Go.IntKind (u64 i64 u32 i32 u8)
universe u v
theorem lA {α:Type u}{l m:List α}:(l++m).length=l.length+m.length:=List.length_append
theorem gQ {α:Type u}{l:List α}{i:Nat}{a:α} (h:l[i]? = some a):∃h:i<l.length,l[i]=a:=List.getElem?_eq_some_iff.1 h
theorem nQ {n m:Nat} (h:Nat.beq n m=true):n=m:=Nat.eq_of_beq_eq_true h
theorem mG {α:Type u}{l:List α}{i:Nat}{a:α} (h:l[i]? = some a):a∈l:=List.mem_of_getElem? h
theorem gE {α:Type u}{l:List α}{i:Nat} (h:i<l.length):l[i]? = some l[i]:=List.getElem?_eq_getElem h
theorem aT (a b:Bool):((a&&b)=true)=(a=true/\b=true):=Bool.and_eq_true a b
theorem pJ {α:Type u}{β:Type v} (a:α) (b:β) (c:α) (d:β):((a,b)=(c,d))=(a=c/\b=d):=Prod.mk.injEq a b c d
theorem sJ {α:Type u} (a b:α):(some a=some b)=(a=b):=Option.some.injEq a b
theorem bS {α:Type u}{β:Type v} (a:α) (f:α->Option β):(some a).bind f=f a:=rfl
theorem dF {p:Prop} [Decidable p] (h:¬p):decide p=false:=decide_eq_false h
theorem dT {p:Prop} [Decidable p] (h:p):decide p=true:=decide_eq_true h
theorem cF {α:Type u} (a b:α):cond false a b=b:=rfl
theorem cT {α:Type u} (a b:α):cond true a b=a:=rfl
abbrev Zs (n:Int):BitVec u64.bits:=BitVec.ofInt u64.bits n
abbrev ZJL (n:Int):BitVec i64.bits:=BitVec.ofInt i64.bits n
abbrev ZPh (n:Int):BitVec u32.bits:=BitVec.ofInt u32.bits n
abbrev ZPi (n:Int):BitVec i32.bits:=BitVec.ofInt i32.bits n
abbrev zE:Int->Int->Bool:=fun ka kb=>(ka==kb)
abbrev zT0:ByteArray:=⟨#[0,1,1,2,1,2,2,3,1,2,2,3,2,3,3,4,1,2,2,3,2,3,3,4,2,3,3,4,3,4,4,5,1,2,2,3,2,3,3,4,2,3,3,4,3,4,4,5,2,3,3,4,3,4,4,5,3,4,4,5,4,5,5,6,1,2,2,3,2,3,3,4,2,3,3,4,3,4,4,5,2,3,3,4,3,4,4,5,3,4,4,5,4,5,5,6,2,3,3,4,3,4,4,5,3,4,4,5,4,5,5,6,3,4,4,5,4,5,5,6,4,5,5,6,5,6,6,7,1,2,2,3,2,3,3,4,2,3,3,4,3,4,4,5,2,3,3,4,3,4,4,5,3,4,4,5,4,5,5,6,2,3,3,4,3,4,4,5,3,4,4,5,4,5,5,6,3,4,4,5,4,5,5,6,4,5,5,6,5,6,6,7,2,3,3,4,3,4,4,5,3,4,4,5,4,5,5,6,3,4,4,5,4,5,5,6,4,5,5,6,5,6,6,7,3,4,4,5,4,5,5,6,4,5,5,6,5,6,6,7,4,5,5,6,5,6,6,7,5,6,6,7,6,7,7,8]⟩
abbrev zT1:ByteArray:=⟨#[0,1,2,2,3,3,3,3,4,4,4,4,4,4,4,4,5,5,5,5,5,5,5,5,5,5,5,5,5,5,5,5,6,6,6,6,6,6,6,6,6,6,6,6,6,6,6,6,6,6,6,6,6,6,6,6,6,6,6,6,6,6,6,6,7,7,7,7,7,7,7,7,7,7,7,7,7,7,7,7,7,7,7,7,7,7,7,7,7,7,7,7,7,7,7,7,7,7,7,7,7,7,7,7,7,7,7,7,7,7,7,7,7,7,7,7,7,7,7,7,7,7,7,7,7,7,7,7,8,8,8,8,8,8,8,8,8,8,8,8,8,8,8,8,8,8,8,8,8,8,8,8,8,8,8,8,8,8,8,8,8,8,8,8,8,8,8,8,8,8,8,8,8,8,8,8,8,8,8,8,8,8,8,8,8,8,8,8,8,8,8,8,8,8,8,8,8,8,8,8,8,8,8,8,8,8,8,8,8,8,8,8,8,8,8,8,8,8,8,8,8,8,8,8,8,8,8,8,8,8,8,8,8,8,8,8,8,8,8,8,8,8,8,8,8,8,8,8,8,8,8,8,8,8,8,8]⟩
inductive D where
 | bool (b:Bool) | int (k:IntKind) (n:Int) | str (s:ByteArray)
 | list (own:Bool) (xs:List D) | agg (cs:List D) | tup (vs:List D)
 | fn (f:Nat) (caps:List D) | nilfn
 | rptr (cs:List D) | nilp
 | iface (t:Nat) (v:D) | nilI
inductive V where
 | d (x:D) | bad
 | ptr (b o:Nat) | eptr (b sz i k:Nat)
 | sl (b sz:Nat) | slp (b sz o len:Nat) | nilsl (sz:Nat)
 | agg (cs:List V) | tup (vs:List V)
 | fn (f:Nat) (caps:List V)
 | mp (b:Nat)
 | ch (b:Nat)
inductive Blk where
 | dead | cells (cs:List V) | arr (sz:Nat) (xs:List D)
 | mp (es:List (D×D))
 | ch (xs:List Int)
abbrev Zm:=List Blk
abbrev Env:=Nat->V
def Env.set (e:Env) (i:Nat) (v:V):Env:=fun j=>bif Nat.beq i j then v else e j
def env0:Env:=fun _=>.bad
def Zfg:List Nat->List V->Env
 | i :: is,v :: vs=>(Zfg is vs).set i v
 | _,_=>env0
def D.isAgg:D->Bool
 | .agg _=>true
 | _=>false
mutual
def D.esc:D->Bool
 | .list own _=>own
 | .agg cs=>D.escs cs
 | .tup _=>false
 | .iface _ v=>v.esc
 | .fn _ caps=>caps.isEmpty
 | .rptr _=>false
 | _=>true
def D.escs:List D->Bool
 | []=>true
 | c :: cs=>c.esc&&(!c.isAgg&&D.escs cs)
end
def ZBF:List D->Bool
 | []=>true
 | c :: cs=>c.esc&&ZBF cs
mutual
def D.nofn:D->Bool
 | .fn _ caps=>caps.isEmpty
 | .agg cs=>D.nofns cs
 | .tup cs=>D.nofns cs
 | .rptr cs=>D.nofns cs
 | .iface _ v=>v.nofn
 | _=>true
def D.nofns:List D->Bool
 | []=>true
 | c :: cs=>c.nofn&&D.nofns cs
end
mutual
def Zwi:V->Bool
 | .d (.tup ts)=>ZBF ts
 | .d x=>x.esc
 | .agg cs=>ZtX cs
 | .tup cs=>ZtX cs
 | .fn _ cs=>ZtX cs
 | _=>true
def ZtX:List V->Bool
 | []=>true
 | v :: vs=>Zwi v&&ZtX vs
end
mutual
def Zqf:V->Bool
 | .d x=>x.nofn
 | .agg cs=>Zo6 cs
 | .tup cs=>Zo6 cs
 | .fn _ cs=>Zo6 cs
 | _=>true
def Zo6:List V->Bool
 | []=>true
 | v :: vs=>Zqf v&&Zo6 vs
end
def Zqj:List Blk->Bool
 | []=>true
 | .cells cs :: r=>ZtX cs&&Zqj r
 | _ :: r=>Zqj r
def ZmF:List Blk->Bool
 | []=>true
 | .cells cs :: r=>Zo6 cs&&ZmF r
 | _ :: r=>ZmF r
def V.isAggV:V->Bool
 | .d (.agg _)=>true
 | .agg _=>true
 | _=>false
def V.isD:V->Bool
 | .d _=>true
 | _=>false
def D.cells:D->List D
 | .agg cs=>cs
 | x=>[x]
inductive Opd where
 | t (i:Nat) | c (v:V)
inductive O where
 | mov (x:Opd)
 | pick (c a b:Opd)
 | alloc (z:V)
 | box (x:Opd)
 | build (z:List V) (ps:List (Nat×Nat×Opd))
 | bslice (sz:Nat) (z:List D) (len:Nat) (ps:List (Nat×Opd))
 | load (n:Nat) (ag:Bool) (x:Opd)
 | store (n:Nat) (x v:Opd)
 | nilck (x:Opd)
 | bin (op:BinOp) (x y:Opd)
 | eqv (ks:List Bool) (neg:Bool) (x y:Opd)
 | un (op:UnOp) (x:Opd)
 | conv (k:IntKind) (x:Opd)
 | mkfn (f:Nat) (caps:List Opd)
 | mkslice (sz:Nat) (z:List D) (n c:Opd)
 | slice (sz:Nat) (x:Opd) (lo hi mx:Option Opd)
 | faddr (off:Nat) (x:Opd)
 | iaddr (sz:Nat) (x i:Opd)
 | index (len sz:Nat) (ag:Bool) (x i:Opd)
 | indexS (x i:Opd)
 | iaddrA (len sz:Nat) (x i:Opd)
 | len (x:Opd)
 | append (sz:Nat) (x y:Opd)
 | appendD (sz:Nat) (x y:Opd)
 | mx (isMax:Bool) (xs:List Opd)
 | extract (x:Opd) (i:Nat)
 | mkif (t:Nat) (x:Opd)
 | call (f:Nat) (args:List Opd)
 | callv (x:Opd) (args:List Opd)
 | invoke (tab:List (Nat×Nat)) (x:Opd) (args:List Opd)
 | mkmap
 | mapset (ks:List Bool) (m k v:Opd)
 | mapget (ks:List Bool) (z:D) (m k:Opd)
 | panic
 | callk (f:Nat) (args:List Opd) (chk:List Opd)
 | nilq (x:Opd)
 | spec (id:Nat) (args:List Opd)
 | storek (n:Nat) (x v:Opd) (chk:List Opd)
 | sortI (x:Opd)
 | chNew (x:Opd)
 | chTake (x n:Opd)
 | chLen (x:Opd)
 | bsD (x:Opd)
 | loadF (n:Nat) (ag:Bool) (x:Opd)
structure Op1 where
 dst:Option Nat
 op:O
 guard:Option (Nat×Bool)
 mask:List Nat
 eff:Nat
inductive C where
 | skip | ret | exit (id:Nat)
 | seq (a b:C)
 | cond (x:Opd) (a b:C)
 | block (id:Nat) (a:C)
 | loop (live outs:List Nat) (a:C)
 | ops (l:List Op1)
 | draw (l:List Op1)
inductive Ex where
 | normal | exit (id:Nat) | ret
structure FnI where
 nargs:Nat
 body:C
 res:List (Nat×Option (Nat×Bool))
structure Ctx where
 code:Nat->Option FnI
 mode:Nat->Nat
abbrev oA (op:O):Op1:=⟨none,op,none,[],0⟩
abbrev oB (d:Nat) (op:O):Op1:=⟨some d,op,none,[],0⟩
abbrev oG (d:Nat) (op:O) (s:Nat) (b:Bool):Op1:=⟨some d,op,some (s,b),[],0⟩
abbrev oM (d:Nat) (op:O) (m:List Nat):Op1:=⟨some d,op,none,m,0⟩
abbrev iN (n:Int):Opd:=.c (.d (.int .i64 n))
abbrev bT:Opd:=.c (.d (.bool true))
abbrev bF:Opd:=.c (.d (.bool false))
def Opd.val (e:Env):Opd->V
 | .t i=>e i
 | .c v=>v
def ZgU (e:Env):List Opd->List V
 | []=>[]
 | x :: xs=>x.val e :: ZgU e xs
def ZnF:List V->Option (List D)
 | []=>some []
 | .d x :: r=>match ZnF r with | some l=>some (x :: l) | none=>none
 | _ :: _=>none
def ZzJ (cs:List V):V:=match ZnF cs with | some l=>.d (.agg l) | none=>.agg cs
def Zzr (cs:List V):V:=match ZnF cs with | some l=>.d (.tup l) | none=>.tup cs
def ZdE:List D->List V
 | []=>[]
 | x :: xs=>.d x :: ZdE xs
def V.cells:V->List V
 | .d (.agg cs)=>ZdE cs
 | .agg cs=>cs
 | v=>[v]
def nth {α:Type}:List α->Nat->Option α
 | [],_=>none
 | x :: _,0=>some x
 | _ :: xs,n+1=>nth xs n
def ZdC {α:Type}:List α->Nat->α->List α
 | [],_,_=>[]
 | _ :: xs,0,v=>v :: xs
 | x :: xs,n+1,v=>x :: ZdC xs n v
def Zax {α:Type}:List α->Nat->List α->List α
 | cs,_,[]=>cs
 | cs,o,v :: vs=>Zax (ZdC cs o v) (o+1) vs
def fzl (f:V->Option D):List V->Option (List D)
 | []=>some []
 | v :: vs=>match f v,fzl f vs with | some x,some l=>some (x :: l) | _,_=>none
def fz (H:Zm):Nat->V->Option D
 | 0,_=>none
 | n+1,v=>match v with
  | .d x=>some x
  | .sl b sz=>match nth H b with
   | some (.arr sz' xs)=>bif Nat.beq sz sz' then some (.list false xs) else none
   | _=>none
  | .slp b sz o len=>match nth H b with
   | some (.arr sz' xs)=>bif Nat.beq sz sz' then some (.list false ((xs.drop o).take len)) else none
   | _=>none
  | .nilsl _=>some (.list true [])
  | .agg cs=>match fzl (fz H n) cs with | some l=>some (.agg l) | none=>none
  | .fn f caps=>match fzl (fz H n) caps with | some l=>some (.fn f l) | none=>none
  | .ptr b o=>match nth H b with
   | some (.cells cs)=>match fzl (fz H n) (cs.drop o) with | some l=>some (.rptr l) | none=>none
   | _=>none
  | _=>none
def fzs (H:Zm) (l:List V):Option (List D):=fzl (fz H 6) l
def frl (f:V->Option (D×List Nat)):List V->Option (List D×List Nat)
 | []=>some ([],[])
 | v :: vs=>match f v,frl f vs with | some (x,k),some (l,ks)=>some (x :: l,k++ks) | _,_=>none
def fr (H:Zm):Nat->V->Option (D×List Nat)
 | 0,_=>none
 | n+1,v=>match v with
  | .d x=>match x with
   | .tup ts=>bif ZBF ts then some (.tup ts,[]) else none
   | x=>bif x.esc then some (x,[]) else none
  | .sl b sz=>match nth H b with
   | some (.arr sz' xs)=>bif Nat.beq sz sz' then some (.list true xs,[b]) else none
   | _=>none
  | .slp b sz o len=>match nth H b with
   | some (.arr sz' xs)=>bif Nat.beq sz sz' then some (.list true ((xs.drop o).take len),[b]) else none
   | _=>none
  | .nilsl _=>some (.list true [],[])
  | .agg cs=>match frl (fr H n) cs with | some (l,ks)=>bif D.escs l then some (.agg l,ks) else none | none=>none
  | .tup cs=>match frl (fr H n) cs with | some (l,ks)=>some (.tup l,ks) | none=>none
  | _=>none
def idx:List Nat->Nat->Nat->Option Nat
 | [],_,_=>none
 | a :: l,b,i=>bif Nat.beq a b then some i else idx l b (i+1)
mutual
def ZqP (ρ:Nat->Option Nat):V->V
 | .d x=>.d x
 | .bad=>.bad
 | .ptr b o=>match ρ b with | some j=>.ptr j o | none=>.bad
 | .eptr b sz i k=>match ρ b with | some j=>.eptr j sz i k | none=>.bad
 | .sl b sz=>match ρ b with | some j=>.sl j sz | none=>.bad
 | .slp b sz o len=>match ρ b with | some j=>.slp j sz o len | none=>.bad
 | .nilsl sz=>.nilsl sz
 | .agg cs=>.agg (Zk6 ρ cs)
 | .tup cs=>.tup (Zk6 ρ cs)
 | .fn f caps=>.fn f (Zk6 ρ caps)
 | .mp b=>match ρ b with | some j=>.mp j | none=>.bad
 | .ch b=>match ρ b with | some j=>.ch j | none=>.bad
def Zk6 (ρ:Nat->Option Nat):List V->List V
 | []=>[]
 | v :: vs=>ZqP ρ v :: Zk6 ρ vs
end
def Zku (ρ:Nat->Option Nat):Blk->Blk
 | .cells cs=>.cells (Zk6 ρ cs)
 | b=>b
mutual
def ZNG:V->List Nat
 | .ptr b _=>[b]
 | .eptr b _ _ _=>[b]
 | .sl b _=>[b]
 | .slp b _ _ _=>[b]
 | .mp b=>[b]
 | .ch b=>[b]
 | .agg cs=>ZkV cs
 | .tup cs=>ZkV cs
 | .fn _ caps=>ZkV caps
 | _=>[]
def ZkV:List V->List Nat
 | []=>[]
 | v :: vs=>ZNG v++ZkV vs
end
def ZCR (H:Zm) (b:Nat):List Nat:=match nth H b with | some (.cells cs)=>ZkV cs | _=>[]
def Zad (H:Zm) (b:Nat):Bool:=match nth H b with | some .dead=>false | some _=>true | none=>false
def Zkn (l:List Nat) (b:Nat):Bool:=match l with | []=>false | a :: l=>bif Nat.beq a b then true else Zkn l b
def Zil (H:Zm):List Nat->List Nat->List Nat
 | l,[]=>l
 | l,b :: bs=>bif Zkn l b || !(Zad H b) then Zil H l bs else Zil H (l++[b]) bs
def Zo8 (H:Zm):Nat->Nat->List Nat->List Nat
 | 0,_,l=>l
 | n+1,i,l=>match nth l i with
  | some b=>Zo8 H n (i+1) (Zil H l (ZCR H b))
  | none=>l
def Zru:Nat->List Nat
 | 0=>[]
 | n+1=>Zru n++[n]
def ZrS (H:Zm) (k:Nat) (vs:List V):List Nat:=
 Zo8 H (H.length+1) 0 (Zil H (Zru k) (ZkV vs))
def Zrm:List Nat->Bool
 | []=>true
 | a :: l=>!(Zkn l a)&&Zrm l
def pick (H:Zm) (ρ:Nat->Option Nat):List Nat->Zm
 | []=>[]
 | b :: bs=>(match nth H b with | some blk=>Zku ρ blk | none=>.dead) :: pick H ρ bs
def Zwg (n:Nat):List Nat->Bool
 | []=>true
 | a :: l=>Nat.blt a n&&Zwg n l
def extract (k:Nat) (vs:List V) (H:Zm):Option (List Nat×List V×Zm):=
 let L:=ZrS H k vs
 bif Zrm L&&Zwg H.length L then some (L,Zk6 (fun b=>idx L b 0) vs,pick H (fun b=>idx L b 0) L) else none
def ZcA:Nat->List V->List V×List Blk
 | _,[]=>([],[])
 | n,.nilsl sz :: vs=>bif Nat.blt 0 sz then (let r:=ZcA (n+1) vs;(.sl n sz :: r.1,.arr sz [] :: r.2)) else (let r:=ZcA n vs;(.nilsl sz :: r.1,r.2))
 | n,v :: vs=>let r:=ZcA n vs;(v :: r.1,r.2)
def Zdc:Nat->Zm->Zm×List Blk
 | _,[]=>([],[])
 | n,.cells cs :: H=>let r:=ZcA n cs;let q:=Zdc (n+r.2.length) H;(.cells r.1 :: q.1,r.2++q.2)
 | n,b :: H=>let q:=Zdc n H;(b :: q.1,q.2)
def Zt6 (k:Nat) (vs:List V) (H:Zm):Option (List V×Zm):=
 match extract k vs H with
 | none=>none
 | some (_,vs1,H1)=>
  let r:=ZcA H1.length vs1
  let q:=Zdc (H1.length+r.2.length) H1
  match extract k r.1 (q.1++(r.2++q.2)) with
  | none=>none
  | some (_,vs2,H2)=>some (vs2,H2)
mutual
def eqD:D->D->Option Bool
 | .bool a,.bool b=>some (a==b)
 | .int k a,.int k' b=>bif k==k' then some (a==b) else none
 | .agg xs,.agg ys=>Zow xs ys
 | _,_=>none
def Zow:List D->List D->Option Bool
 | [],[]=>some true
 | x :: xs,y :: ys=>match eqD x y,Zow xs ys with | some a,some b=>some (a&&b) | _,_=>none
 | _,_=>none
end
def Zed:List Bool->List D->Bool
 | [],[]=>true
 | true :: ks,.bool _ :: cs=>Zed ks cs
 | false :: ks,.int _ _ :: cs=>Zed ks cs
 | _,_=>false
def Zc7 (ks:List Bool):D->Bool
 | .agg cs=>(match ks with | [_]=>false | ks=>Zed ks cs)
 | x=>(match ks with | [_]=>Zed ks [x] | _=>false)
def lim:Nat:=1073741824
def ZA {α:Type} (xs:List α) (i:Int):Option α:=bif decide (0<=i) then nth xs i.toNat else none
abbrev Res:=Option (V×List (Nat×Blk)×List Blk)
def Zc2 (v:V):Res:=some (v,[],[])
def ZI7 (op:BinOp) (k:IntKind) (a b:Int):Option D:=
 match op with
 | .add=>some (.int k (k.wrap (a+b)))
 | .sub=>some (.int k (k.wrap (a-b)))
 | .mul=>some (.int k (k.wrap (a*b)))
 | .quo=>bif b==0 then none else some (.int k (k.wrap (a.tdiv b)))
 | .rem=>bif b==0 then none else some (.int k (a.tmod b))
 | .and=>some (.int k (k.wrap (BitVec.ofInt k.bits a &&& BitVec.ofInt k.bits b).toNat))
 | .or=>some (.int k (k.wrap (BitVec.ofInt k.bits a ||| BitVec.ofInt k.bits b).toNat))
 | .xor=>some (.int k (k.wrap (BitVec.ofInt k.bits a ^^^ BitVec.ofInt k.bits b).toNat))
 | .eql=>some (.bool (a==b))
 | .neq=>some (.bool (a != b))
 | .lss=>some (.bool (decide (a<b)))
 | .leq=>some (.bool (decide (a<=b)))
 | .gtr=>some (.bool (decide (b<a)))
 | .geq=>some (.bool (decide (b<=a)))
 | _=>none
def shI (op:BinOp) (k:IntKind) (a b:Int):Option D:=
 bif decide (b<0) then none else
 match op with
 | .shl=>some (.int k (k.wrap (a*2 ^ (min b.toNat k.bits))))
 | .shr=>some (.int k (a.fdiv (2 ^ (min b.toNat k.bits))))
 | _=>none
def Zrh (op:BinOp) (x y:V):Option D:=
 match op,x,y with
 | .shl,.d (.int k a),.d (.int _ b)=>shI .shl k a b
 | .shr,.d (.int k a),.d (.int _ b)=>shI .shr k a b
 | op,.d (.int k a),.d (.int k' b)=>bif k==k' then ZI7 op k a b else none
 | _,_,_=>none
def unE (op:UnOp) (x:V):Option D:=
 match op,x with
 | .not,.d (.bool b)=>some (.bool !b)
 | .neg,.d (.int k n)=>some (.int k (k.wrap (0-n)))
 | _,_=>none
def V.okb:V->Bool
 | .bad=>false
 | .tup _=>false
 | .d (.tup _)=>false
 | _=>true
def V.flat:V->Bool
 | .bad=>false
 | .tup _=>false
 | .agg _=>false
 | .d (.tup _)=>false
 | .d (.agg _)=>false
 | _=>true
def ZxH:List V->Bool
 | []=>true
 | v :: vs=>v.flat&&ZxH vs
def ZiA (n:Nat) (ag:Bool) (cs:List V):Option V:=
 bif ag then (bif Nat.beq (cs.take n).length n then some (ZzJ (cs.take n)) else none) else cs.head?
def ZdD (H:Zm) (n:Nat) (ag:Bool) (x:V):Option V:=
 match x with
 | .ptr b o=>match nth H b with
  | some (.cells cs)=>ZiA n ag (cs.drop o)
  | _=>none
 | .eptr b sz i k=>match nth H b with
  | some (.arr sz' xs)=>bif Nat.beq sz sz' then
    match nth xs i with
    | some x=>ZiA n ag (ZdE (x.cells.drop k))
    | none=>none
   else none
  | _=>none
 | .d (.rptr cs)=>ZiA n ag (ZdE cs)
 | _=>none
def ZnT (H:Zm) (n:Nat) (x v:V):Res:=
 match x with
 | .ptr b o=>match nth H b with
  | some (.cells cs)=>bif Nat.beq v.cells.length n&&Nat.ble (o+n) cs.length&&v.okb&&ZxH v.cells then some (.bad,[(b,.cells (Zax cs o v.cells))],[]) else none
  | _=>none
 | .eptr b sz i k=>match nth H b with
  | some (.arr sz' xs)=>bif Nat.beq sz sz' then
    match nth xs i,fr H 6 v with
    | some x,some (y,ks)=>
     bif Zkn ks b then none else
     bif Nat.beq y.cells.length n&&Nat.ble (k+n) x.cells.length&&(V.d y).okb&&(x.isAgg || !y.isAgg) then
      some (.bad,(b,.arr sz (ZdC xs i (bif x.isAgg then .agg (Zax x.cells k y.cells) else y))) :: ks.map (fun j=>(j,.dead)),[])
     else none
    | _,_=>none
   else none
  | _=>none
 | _=>none
def elems (H:Zm) (x:V):Option (List D):=
 match x with
 | .d (.list _ xs)=>some xs
 | .sl b sz=>match nth H b with | some (.arr sz' xs)=>bif Nat.beq sz sz' then some xs else none | _=>none
 | .slp b sz o len=>match nth H b with | some (.arr sz' xs)=>bif Nat.beq sz sz' then some ((xs.drop o).take len) else none | _=>none
 | .nilsl _=>some []
 | _=>none
def ZmC (sz:Nat) (xs:List D) (l:Nat):Bool:=match nth xs l with | some z=>Nat.beq z.cells.length sz&&(V.d z).okb | none=>true
def Zjw (nid:Nat) (H:Zm) (sz:Nat) (x y:V):Res:=
 match elems H y with
 | none=>none
 | some ys=>
  bif ZmC sz ys 0 then
   match x with
   | .nilsl _=>bif Nat.ble ys.length lim then some (.sl nid sz,[],[.arr sz ys]) else none
   | .sl b sz'=>match nth H b with
    | some (.arr sz'' xs)=>bif Nat.beq sz sz'&&Nat.beq sz sz'' then
      (bif Nat.ble (xs.length+ys.length) lim then some (.sl nid sz,[(b,.dead)],[.arr sz (xs++ys)]) else none)
     else none
    | _=>none
   | .slp b sz' o len=>match nth H b with
    | some (.arr sz'' xs)=>bif Nat.beq sz sz'&&Nat.beq sz sz''&&Nat.ble (o+len+ys.length) xs.length then
      some (.slp b sz o (len+ys.length),[(b,.arr sz (xs.take (o+len)++(ys++xs.drop (o+len+ys.length))))],[])
     else none
    | _=>none
   | _=>none
  else none
def ZlM (H:Zm) (sz:Nat) (x y:V):Option V:=
 match x with
 | .nilsl _=>(match elems H y with
  | some ys=>bif ZmC sz ys 0&&Nat.ble ys.length lim then some (.d (.list true ys)) else none
  | none=>none)
 | _=>none
def Zkf (v:Option V) (dflt:Nat):Option Nat:=
 match v with
 | none=>some dflt
 | some (.d (.int _ n))=>bif decide (0<=n) then some n.toNat else none
 | _=>none
def ZlJ (H:Zm) (sz:Nat) (x:V) (lo hi mx:Option V):Option V:=
 match elems H x with
 | none=>none
 | some xs=>
  match Zkf lo 0,Zkf hi xs.length with
  | some l,some h=>
   bif Nat.ble l h&&Nat.ble h xs.length then
    match mx with
    | none=>match x with
     | .d (.list own _)=>bif Nat.beq l 0 || ZmC sz xs l then some (.d (.list own ((xs.drop l).take (h-l)))) else none
     | .sl b sz'=>bif Nat.beq sz sz' then some (.slp b sz l (h-l)) else none
     | .slp b sz' o _=>bif Nat.beq sz sz' then some (.slp b sz (o+l) (h-l)) else none
     | .nilsl _=>some (.nilsl sz)
     | _=>none
    | some m=>match Zkf (some m) 0 with
     | some m=>bif Nat.beq m l&&Nat.beq m h then some (.nilsl sz) else none
     | none=>none
   else none
  | _,_=>none
def ZkU (H:Zm) (sz:Nat) (x i:V):Option V:=
 match i with
 | .d (.int _ i)=>
  match x with
  | .d (.list _ xs)=>match ZA xs i with | some x=>bif Nat.beq x.cells.length sz&&(V.d x).okb then some (.d (.rptr x.cells)) else none | none=>none
  | .sl b sz'=>match nth H b with
   | some (.arr sz'' xs)=>bif Nat.beq sz sz'&&Nat.beq sz sz'' then (match ZA xs i with | some _=>some (.eptr b sz i.toNat 0) | none=>none) else none
   | _=>none
  | .slp b sz' o len=>match nth H b with
   | some (.arr sz'' xs)=>bif Nat.beq sz sz'&&Nat.beq sz sz'' then (match ZA ((xs.drop o).take len) i with | some _=>some (.eptr b sz (o+i.toNat) 0) | none=>none) else none
   | _=>none
  | _=>none
 | _=>none
def Zrl (len sz:Nat) (ag:Bool) (x i:V):Option V:=
 match i with
 | .d (.int _ i)=>bif x.isAggV&&(decide (0<=i)&&decide (i<len)) then ZiA sz ag (x.cells.drop (i.toNat*sz)) else none
 | _=>none
def ZnU (x i:V):Option V:=
 match x,i with
 | .d (.str s),.d (.int _ i)=>bif decide (0<=i) then (match s[i.toNat]? with | some b=>some (.d (.int .u8 b.toNat)) | none=>none) else none
 | _,_=>none
def ZnP (_:Zm) (off:Nat) (x:V):Option V:=
 match x with
 | .ptr b o=>some (.ptr b (o+off))
 | .eptr b sz i k=>some (.eptr b sz i (k+off))
 | .d (.rptr cs)=>some (.d (.rptr (cs.drop off)))
 | _=>none
def ZBr (_:Zm) (x:V):Option V:=
 match x with
 | .d (.fn f caps)=>bif Nat.beq f 2000000 then none else some (.d (.fn f caps))
 | .fn f caps=>bif Nat.beq f 2000000 then none else some (.fn f caps)
 | .d (.iface t v)=>some (.d (.iface t v))
 | .d (.rptr cs)=>some (.d (.rptr cs))
 | .ptr b o=>some (.ptr b o)
 | .eptr b sz i k=>some (.eptr b sz i k)
 | _=>none
def ZiB (H:Zm) (len sz:Nat) (x i:V):Option V:=
 match i with
 | .d (.int _ i)=>bif decide (0<=i)&&decide (i<len) then ZnP H (i.toNat*sz) x else none
 | _=>none
def Zyl (H:Zm) (x:V):Option D:=
 match elems H x with | some xs=>some (.int .i64 xs.length) | none=>none
def mxE (isMax:Bool):List V->Option D
 | []=>none
 | .d (.int k a) :: r=>go k a r
 | _=>none
where
 go (k:IntKind) (a:Int):List V->Option D
  | []=>some (.int k a)
  | .d (.int _ b) :: r=>go k (bif isMax then (bif decide (a<b) then b else a) else (bif decide (b<a) then b else a)) r
  | _=>none
def ZwL (z:List V):List (Nat×Nat×V)->Option (List V)
 | []=>some z
 | (off,size,v) :: r=>bif v.okb&&Nat.beq v.cells.length size&&Nat.ble (off+size) z.length then ZwL (Zax z off v.cells) r else none
def ZvT (H:Zm) (sz:Nat) (xs:List D):List (Nat×V)->Option (List D×List Nat)
 | []=>some (xs,[])
 | (i,v) :: r=>match fr H 6 v with
  | some (y,ks)=>(bif Nat.blt i xs.length&&Nat.beq y.cells.length sz&&(V.d y).okb then match ZvT H sz (ZdC xs i y) r with | some (l,k2)=>some (l,ks++k2) | none=>none else none)
  | none=>none
def Znh (es:List (D×D)) (k:D):Option (Option D):=
 match es with
 | []=>some none
 | (a,v) :: r=>match eqD k a with | some true=>some (some v) | some false=>Znh r k | none=>none
def ZHl (es:List (D×D)) (k z:D):Option D:=match Znh es k with | some (some y)=>some y | some none=>some z | none=>none
def Zmx (es:List (D×D)) (k v:D):Option (List (D×D)):=
 match es with
 | []=>some [(k,v)]
 | (a,u) :: r=>match eqD k a with
  | some true=>some ((a,v) :: r)
  | some false=>(match Zmx r k v with | some l=>some ((a,u) :: l) | none=>none)
  | none=>none
def Zkm:D->Bool
 | .bool _=>true
 | .int _ _=>true
 | _=>false
def Zrs (H:Zm) (ks:List Bool) (m k v:V):Res:=
 match m,k,v with
 | .mp b,.d k,.d y=>(match nth H b with
  | some (.mp es)=>(match Zc7 ks k&&Zkm y with | true=>(match Zmx es k y with | some l=>some (.bad,[(b,.mp l)],[]) | none=>none) | false=>none)
  | _=>none)
 | _,_,_=>none
def Zpw (H:Zm) (ks:List Bool) (z:D) (m k:V):Option D:=
 match m,k with
 | .mp b,.d k=>(match nth H b with
  | some (.mp es)=>(match Zc7 ks k with | true=>ZHl es k z | false=>none)
  | _=>none)
 | _,_=>none
def ZNs:List D->Option (List (Int×Int))
 | []=>some []
 | .agg [.int .i64 a,.int .i64 b] :: r=>match ZNs r with | some l=>some ((a,b) :: l) | none=>none
 | _=>none
def pc (zs:List (Int×Int)) (j:Nat):Int×Int:=zs[j]?.getD (0,0)
def ZzG (zs:List (Int×Int)) (p:Int):Nat->Int
 | 0=>-1
 | k+1=>bif ((pc zs k).1 != p || decide (p<0)) then ZzG zs p k else (k:Int)
def Zqk (id:Nat) (l:List D):Option D:=
 match id,l with
 | 0,[.agg [_,_,.list _ xs],.int .i64 p]=>(match ZNs xs with | some zs=>bif Nat.ble zs.length lim then some (.int .i64 (ZzG zs p zs.length)) else none | none=>none)
 | _,_=>none
def Zj8:List D->Option (List Int)
 | []=>some []
 | .int .i64 a :: r=>match Zj8 r with | some l=>some (a :: l) | none=>none
 | _=>none
def ZxP (x:Int):List Int->List Int
 | []=>[x]
 | y :: r=>bif decide (x<=y) then x :: y :: r else y :: ZxP x r
def sortI:List Int->List Int
 | []=>[]
 | x :: r=>ZxP x (sortI r)
def Zw5 (H:Zm):V->Option (Nat×List Int)
 | .sl b 1=>(match nth H b with
  | some (.arr 1 xs)=>(match Zj8 xs with | some zs=>some (b,zs) | none=>none)
  | _=>none)
 | _=>none
def ZAw (H:Zm) (x:V):Res:=match Zw5 H x with | some (b,zs)=>(bif Nat.ble zs.length lim then some (.bad,[(b,.arr 1 ((sortI zs).map fun n=>.int .i64 n))],[]) else none) | none=>none
def ZdO (n:Int):List Int:=(List.range n.toNat).map fun k:Nat=>(k:Int)
def Zwk (H:Zm):V->Option (Nat×List Int)
 | .ch b=>(match nth H b with | some (.ch xs)=>some (b,xs) | _=>none)
 | _=>none
def Zty (nid:Nat) (x:V):Res:=match x with | .d (.int .i64 n)=>(bif decide (0<=n)&&decide (n<=1000) then some (.ch nid,[],[.ch (ZdO n)]) else none) | _=>none
def Zpj (H:Zm) (c x:V):Res:=match Zwk H c with
 | some (b,xs)=>(match x with
  | .d (.int .i64 n)=>(bif decide (0<=n)&&decide (n<=1000) then (bif Nat.ble n.toNat xs.length then some (.tup [.d (.list true ((xs.take n.toNat).map fun n=>.int .i64 n)),.d (.bool true)],[(b,.ch (xs.drop n.toNat))],[]) else some (.tup [.d (.list true []),.d (.bool false)],[(b,.ch [])],[])) else none)
  | _=>none)
 | none=>none
def ZuG (H:Zm) (c:V):Option D:=match Zwk H c with | some (_,xs)=>some (.int .i64 xs.length) | none=>none
abbrev Zbd:=Nat->List V->Zm->Option (V×Zm)
def ZwZ (Γ:Ctx) (f:Nat) (args:List V):Nat:=match Γ.mode f with
 | 3=>(match ZnF args with | some _=>0 | none=>2)
 | m=>m
def ZiV (Γ:Ctx) (cf:Zbd) (nid:Nat) (H:Zm) (f:Nat) (args:List V):Res:=
 match ZwZ Γ f args with
 | 0=>match fzs H args with
  | some l=>match cf f (ZdE l) [] with
   | some (v,H1)=>match fr H1 6 v with | some (x,_)=>(match x with | .tup ts=>some (.tup (ZdE ts),[],[]) | x=>some (.d x,[],[])) | none=>none
   | none=>none
  | none=>none
 | 1=>match fzs H args with
  | some l=>match cf f (ZdE l) [] with
   | some (v,H1)=>bif Zwi v&&Zqj H1 then let up:=fun j=>some (nid+j);some (ZqP up v,[],H1.map (Zku up)) else none
   | none=>none
  | none=>none
 | _=>
  match extract 0 args H with
  | none=>none
  | some (L,args',H0)=>match cf f args' H0 with
   | some (v,H1)=>bif Zqf v&&ZmF H1 then
     let back:=fun j=>match nth L j with | some b=>some b | none=>some (nid+(j-L.length))
     some (ZqP back v,L.zip (H1.map (Zku back)),(H1.drop L.length).map (Zku back)) else none
   | none=>none
def ZcS (H:Zm):List (Nat×Blk)->Zm
 | []=>H
 | (b,blk) :: r=>ZcS (ZdC H b blk) r
def ZDR (e:Env) (H H':Zm):List Opd->Bool
 | []=>true
 | x :: xs=>(match x.val e with
  | .ptr b o=>(match ZdD H 1 false (.ptr b o),ZdD H' 1 false (.ptr b o) with | some (.mp i),some (.mp j)=>Nat.beq i j | _,_=>false)
  | _=>false)&&ZDR e H H' xs
def isU (f:Nat):Bool:=Nat.blt f 1000000
def unB (f:Nat):Nat:=f-1000000
def Zqi (f:Nat):Nat:=bif isU f then f else unB f
def ZtJ (f:Nat) (caps args:List V):List V:=bif isU f then args++caps else caps++args
def ZtU:List (Nat×Blk)->Nat->Bool
 | [],_=>false
 | (a,_) :: r,b=>bif Nat.beq a b then true else ZtU r b
def Ztc (e:Env) (up:List (Nat×Blk)):List Opd->Bool
 | []=>true
 | x :: xs=>(match x.val e with
  | .ptr b _=>!(ZtU up b)
  | .eptr b _ _ _=>!(ZtU up b)
  | .d _=>true
  | _=>false)&&Ztc e up xs
def Zn7:V->Option (Nat×List V)
 | .fn f caps=>some (f,caps)
 | .d (.fn f caps)=>some (f,ZdE caps)
 | _=>none
def ZiW (Γ:Ctx) (v:V) (f:Nat) (caps:List V):Bool:=Nat.beq f 2000000 || v.isD&&(!(Nat.ble (Γ.mode (Zqi f)) 1) && !caps.isEmpty)
def Zsx : String := "trefoil/team.begin"
def Zqn (tab:List (Nat×Nat)) (t:Nat):Option Nat:=
 match tab with
 | []=>none
 | (a,f) :: r=>bif Nat.beq a t then some f else Zqn r t
def opE (Γ:Ctx) (cf:Zbd) (e:Env) (nid:Nat) (H:Zm):O->Res
 | .mov x=>Zc2 (x.val e)
 | .pick c a b=>match c.val e with | .d (.bool t)=>Zc2 (bif t then a.val e else b.val e) | _=>none
 | .alloc z=>some (.ptr nid 0,[],[.cells z.cells])
 | .box x=>bif (x.val e).okb then some (.ptr nid 0,[],[.cells (x.val e).cells]) else none
 | .build z ps=>match ZwL z (ps.map fun(o,s,x)=>(o,s,x.val e)) with | some cs=>Zc2 (ZzJ cs) | none=>none
 | .bslice sz z len ps=>bif Nat.beq len 0 then Zc2 (.nilsl sz) else match ZvT H sz (List.replicate len (match z with | [x]=>x | z=>.agg z)) (ps.map fun(i,x)=>(i,x.val e)) with
  | some (xs,ks)=>some (.sl nid sz,ks.map (fun j=>(j,.dead)),[.arr sz xs])
  | none=>none
 | .load n ag x=>match ZdD H n ag (x.val e) with | some v=>Zc2 v | none=>none
 | .store n x v=>ZnT H n (x.val e) (v.val e)
 | .nilck x=>match ZBr H (x.val e) with | some v=>Zc2 v | none=>none
 | .bin op x y=>match Zrh op (x.val e) (y.val e) with | some r=>Zc2 (.d r) | none=>none
 | .eqv ks neg x y=>match x.val e,y.val e with
  | .d a,.d b=>(match Zc7 ks a with | true=>(match eqD a b with | some r=>Zc2 (.d (.bool (bif neg then !r else r))) | none=>none) | false=>none)
  | _,_=>none
 | .un op x=>match unE op (x.val e) with | some r=>Zc2 (.d r) | none=>none
 | .conv k x=>match x.val e with | .d (.int _ n)=>Zc2 (.d (.int k (k.wrap n))) | _=>none
 | .mkfn f caps=>Zc2 (match caps with | []=>.d (.fn f []) | caps=>.fn f (ZgU e caps))
 | .mkslice sz z n c=>match n.val e,c.val e with
  | .d (.int _ n),.d (.int _ c)=>bif decide (0<=n)&&decide (n<=lim)&&decide (n==c) then
    some (.sl nid sz,[],[.arr sz (List.replicate n.toNat (match z with | [x]=>x | z=>.agg z))]) else none
  | _,_=>none
 | .slice sz x lo hi mx=>match ZlJ H sz (x.val e) (lo.map (·.val e)) (hi.map (·.val e)) (mx.map (·.val e)) with | some v=>Zc2 v | none=>none
 | .faddr off x=>match ZnP H off (x.val e) with | some v=>Zc2 v | none=>none
 | .iaddr sz x i=>match ZkU H sz (x.val e) (i.val e) with | some v=>Zc2 v | none=>none
 | .index len sz ag x i=>match Zrl len sz ag (x.val e) (i.val e) with | some v=>Zc2 v | none=>none
 | .indexS x i=>match ZnU (x.val e) (i.val e) with | some v=>Zc2 v | none=>none
 | .iaddrA len sz x i=>match ZiB H len sz (x.val e) (i.val e) with | some v=>Zc2 v | none=>none
 | .len x=>match Zyl H (x.val e) with | some r=>Zc2 (.d r) | none=>none
 | .append sz x y=>Zjw nid H sz (x.val e) (y.val e)
 | .appendD sz x y=>match ZlM H sz (x.val e) (y.val e) with | some v=>Zc2 v | none=>none
 | .mx b xs=>match mxE b (ZgU e xs) with | some r=>Zc2 (.d r) | none=>none
 | .extract x i=>match x.val e with
  | .tup vs=>(match nth vs i with | some v=>Zc2 v | none=>none)
  | .d (.tup vs)=>(match nth vs i with | some v=>Zc2 (.d v) | none=>none)
  | _=>none
 | .mkif t x=>match fr H 6 (x.val e) with | some (y,[])=>Zc2 (.d (.iface t y)) | _=>none
 | .call f args=>ZiV Γ cf nid H f (ZgU e args)
 | .callv x args=>match Zn7 (x.val e) with
  | some (f,caps)=>(match ZiW Γ (x.val e) f caps with | true=>none | false=>ZiV Γ cf nid H (Zqi f) (ZtJ f caps (ZgU e args)))
  | none=>none
 | .invoke tab x args=>match x.val e with
  | .d (.iface t y)=>(match Zqn tab t with | some f=>ZiV Γ cf nid H f (.d y :: ZgU e args) | none=>none)
  | _=>none
 | .mkmap=>some (.mp nid,[],[.mp []])
 | .mapset ks m k v=>Zrs H ks (m.val e) (k.val e) (v.val e)
 | .mapget ks z m k=>match Zpw H ks z (m.val e) (k.val e) with | some r=>Zc2 (.d r) | none=>none
 | .panic=>none
 | .callk f args _=>ZiV Γ cf nid H f (ZgU e args)
 | .storek n x v _=>ZnT H n (x.val e) (v.val e)
 | .sortI x=>ZAw H (x.val e)
 | .chNew x=>Zty nid (x.val e)
 | .chTake x n=>Zpj H (x.val e) (n.val e)
 | .chLen x=>match ZuG H (x.val e) with | some r=>Zc2 (.d r) | none=>none
 | .bsD x=>match x.val e with | .d (.int .i64 n)=>Zc2 (.d (.list true [.int .i64 n])) | _=>none
 | .loadF n ag x=>(match ZdD H n ag (x.val e) with | some v=>(match fr H 6 v with | some (y,ks)=>some (.d y,ks.map (fun j=>(j,.dead)),[]) | none=>none) | none=>none)
 | .spec id args=>match H,ZnF (ZgU e args) with | [],some l=>(match Zqk id l with | some r=>Zc2 (.d r) | none=>none) | _,_=>none
 | .nilq x=>match elems H (x.val e) with | some xs=>(match Nat.blt 0 xs.length with | true=>Zc2 (.d (.bool false)) | false=>none) | none=>none
def Zoq (e:Env) (dst:Option Nat) (v:V):Env:=match dst with | some i=>e.set i v | none=>e
def Zd0 (e:Env) (g:Option (Nat×Bool)):Option Bool:=
 match g with
 | none=>some true
 | some (s,b)=>match e s with | .d (.bool t)=>some (t==b) | .d (.tup [])=>some false | _=>none
def ZgY (Γ:Ctx) (cf:Zbd):List Op1->Env->Zm->Option (Env×Zm)
 | [],e,H=>some (e,H)
 | o :: r,e,H=>match Zd0 e o.guard with
  | some true=>(match opE Γ cf e H.length H o.op with
   | some (v,up,nw)=>ZgY Γ cf r (Zoq e o.dst v) (ZcS H up++nw)
   | none=>none)
  | some false=>ZgY Γ cf r (Zoq e o.dst (.d (.tup []))) H
  | none=>none
def ZGi (H:Zm) (b:Nat):Nat->Zm
 | 0=>H
 | n+1=>ZGi (ZdC H b .dead) (b+1) n
def ZiS (H:Zm) (pos:List (Nat×Nat)):List Nat->Zm
 | []=>H
 | i :: r=>match nth pos i with | some (b,n)=>ZiS (ZGi H b n) pos r | none=>ZiS H pos r
def ZAA:List (Nat×Blk)->Bool
 | []=>true
 | (_,.dead) :: _=>false
 | _ :: r=>ZAA r
def ZuQ (eff:Nat) (up:List (Nat×Blk)) (nw:List Blk):Bool:=match eff with | 0=>up.isEmpty | 1=>up.isEmpty&&nw.isEmpty | 3=>ZAA up&&nw.isEmpty | _=>true
def ZME (e:Env) (H:Zm) (up:List (Nat×Blk)):O->Bool
 | .callk _ _ chk=>ZDR e H (ZcS H up) chk
 | .storek _ _ _ chk=>Ztc e up chk
 | _=>true
def ZuM (e:Env) (H:Zm) (o:Op1) (up:List (Nat×Blk)) (nw:List Blk):Bool:=ZuQ o.eff up nw&&ZME e H up o.op
def Zhx (Γ:Ctx) (cf:Zbd) (pos:List (Nat×Nat)):List Op1->Env->Zm->Option (Env×Zm)
 | [],e,H=>some (e,H)
 | o :: r,e,H=>match Zd0 e o.guard with
  | some true=>(match opE Γ cf e H.length (ZiS H pos o.mask) o.op with
   | some (v,up,nw)=>bif ZuM e H o up nw then Zhx Γ cf (pos++[(H.length,nw.length)]) r (Zoq e o.dst v) (ZcS H up++nw) else none
   | _=>none)
  | some false=>Zhx Γ cf (pos++[(H.length,0)]) r (Zoq e o.dst (.d (.tup []))) H
  | none=>none
inductive Lp where
 | again (vs:List V) (H:Zm)
 | done (x:Ex) (vs:List V) (H:Zm)
abbrev St:=Env×Zm
def Zcv (F:List V->Zm->Option Lp):Nat->List V->Zm->Option (Ex×List V×Zm)
 | 0,_,_=>none
 | n+1,vs,H=>match F vs H with
  | some (.again vs H)=>Zcv F n vs H
  | some (.done x vs H)=>some (x,vs,H)
  | none=>none
def Zgx (k:Nat) (live outs:List Nat) (r:Option (Ex×Env×Zm)):Option Lp:=
 match r with
 | some (.normal,e,H)=>(match Zt6 k (live.map e) H with | some (vs,H)=>some (.again vs H) | none=>none)
 | some (x,e,H)=>(match extract k (outs.map e) H with | some (_,vs,H)=>some (.done x vs H) | none=>none)
 | none=>none
def ZV (Γ:Ctx) (cf:Zbd) (It:(List V->Zm->Option Lp)->List V->Zm->Option (Ex×List V×Zm)) (k:Nat):C->Env->Zm->Option (Ex×Env×Zm)
 | .skip,e,H=>some (.normal,e,H)
 | .ret,e,H=>some (.ret,e,H)
 | .exit id,e,H=>some (.exit id,e,H)
 | .seq a b,e,H=>match ZV Γ cf It k a e H with
  | some (.normal,e,H)=>ZV Γ cf It k b e H
  | r=>r
 | .cond x a b,e,H=>match x.val e with
  | .d (.bool t)=>(match t with | true=>ZV Γ cf It k a e H | false=>ZV Γ cf It k b e H)
  | _=>none
 | .block id a,e,H=>match ZV Γ cf It k a e H with
  | some (.exit j,e,H)=>bif Nat.beq j id then some (.normal,e,H) else some (.exit j,e,H)
  | r=>r
 | .loop live outs a,e,H=>match Zt6 k (live.map e) H with
  | some (vs,H)=>(match It (fun vs H=>Zgx k live outs (ZV Γ cf It k a (Zfg live vs) H)) vs H with
   | some (x,vs,H)=>some (x,Zfg outs vs,H)
   | none=>none)
  | none=>none
 | .ops l,e,H=>match ZgY Γ cf l e H with | some (e,H)=>some (.normal,e,H) | none=>none
 | .draw l,e,H=>match Zhx Γ cf [] l e H with | some (e,H)=>some (.normal,e,H) | none=>none
def ZbY (i:Nat):List V->Env
 | []=>env0
 | v :: vs=>(ZbY (i+1) vs).set i v
def ZlR (e:Env) (H:Zm):List (Nat×Option (Nat×Bool))->Option (List V)
 | []=>some []
 | (i,none) :: r=>match ZlR e H r with | some l=>some (e i :: l) | none=>none
 | (i,some (n,ag)) :: r=>match ZdD H n ag (e i),ZlR e H r with | some v,some l=>some (v :: l) | _,_=>none
def Zis:List V->V
 | [v]=>v
 | l=>Zzr l
def ZhO (Γ:Ctx) (cf:Zbd) (It:(List V->Zm->Option Lp)->List V->Zm->Option (Ex×List V×Zm)) (f:Nat) (args:List V) (H:Zm):Option (V×Zm):=
 match Γ.code f with
 | none=>none
 | some fn=>
  bif Nat.beq args.length fn.nargs then
   match ZV Γ cf It H.length fn.body (ZbY 0 args) H with
   | some (.exit _,_,_)=>none
   | some (_,e,H1)=>(match ZlR e H1 fn.res with
    | some l=>(match extract H.length [Zis l] H1 with | some (_,[v],H2)=>some (v,H2) | _=>none)
    | none=>none)
   | none=>none
  else none
def evN (Γ:Ctx):Nat->Zbd
 | 0=>fun _ _ _=>none
 | n+1=>ZhO Γ (evN Γ n) (fun F=>Zcv F n)
end Go.Proofs.YtmnglncebfabpaaGreatDoorE
namespace Go.Proofs.YtmnglncebfabpaaGreatDoor
open Go Go.Proofs.YtmnglncebfabpaaGreatDoorE
open Go.IntKind (u64 i64 u32 i32 u8)
abbrev qM (d x:Nat):Op1:=⟨some d,.mov (.t x),none,[],0⟩
abbrev uM (d x:Nat) (l:List Nat):Op1:=⟨some d,.mov (.t x),none,l,0⟩
abbrev vM (d x s:Nat) (b:Bool):Op1:=⟨some d,.mov (.t x),some (s,b),[],0⟩
abbrev wM (d x s:Nat) (b:Bool) (l:List Nat):Op1:=⟨some d,.mov (.t x),some (s,b),l,0⟩
abbrev qL (d x:Nat):Op1:=⟨some d,.load 1 false (.t x),none,[],0⟩
abbrev uL (d x:Nat) (l:List Nat):Op1:=⟨some d,.load 1 false (.t x),none,l,0⟩
abbrev vL (d x s:Nat) (b:Bool):Op1:=⟨some d,.load 1 false (.t x),some (s,b),[],0⟩
abbrev wL (d x s:Nat) (b:Bool) (l:List Nat):Op1:=⟨some d,.load 1 false (.t x),some (s,b),l,0⟩
abbrev qA (d n x:Nat):Op1:=⟨some d,.load n true (.t x),none,[],0⟩
abbrev uA (d n x:Nat) (l:List Nat):Op1:=⟨some d,.load n true (.t x),none,l,0⟩
abbrev vA (d n x s:Nat) (b:Bool):Op1:=⟨some d,.load n true (.t x),some (s,b),[],0⟩
abbrev wA (d n x s:Nat) (b:Bool) (l:List Nat):Op1:=⟨some d,.load n true (.t x),some (s,b),l,0⟩
abbrev qF (d n x:Nat):Op1:=⟨some d,.faddr n (.t x),none,[],0⟩
abbrev uF (d n x:Nat) (l:List Nat):Op1:=⟨some d,.faddr n (.t x),none,l,0⟩
abbrev vF (d n x s:Nat) (b:Bool):Op1:=⟨some d,.faddr n (.t x),some (s,b),[],0⟩
abbrev wF (d n x s:Nat) (b:Bool) (l:List Nat):Op1:=⟨some d,.faddr n (.t x),some (s,b),l,0⟩
abbrev qN (d x:Nat):Op1:=⟨some d,.len (.t x),none,[],0⟩
abbrev uN (d x:Nat) (l:List Nat):Op1:=⟨some d,.len (.t x),none,l,0⟩
abbrev vN (d x s:Nat) (b:Bool):Op1:=⟨some d,.len (.t x),some (s,b),[],0⟩
abbrev qI (d n x y:Nat):Op1:=⟨some d,.iaddr n (.t x) (.t y),none,[],0⟩
abbrev uI (d n x y:Nat) (l:List Nat):Op1:=⟨some d,.iaddr n (.t x) (.t y),none,l,0⟩
abbrev vI (d n x y s:Nat) (b:Bool):Op1:=⟨some d,.iaddr n (.t x) (.t y),some (s,b),[],0⟩
abbrev wI (d n x y s:Nat) (b:Bool) (l:List Nat):Op1:=⟨some d,.iaddr n (.t x) (.t y),some (s,b),l,0⟩
abbrev qU (d x:Nat):Op1:=⟨some d,.un .not (.t x),none,[],0⟩
abbrev vU (d x s:Nat) (b:Bool):Op1:=⟨some d,.un .not (.t x),some (s,b),[],0⟩
abbrev qE (d x n:Nat):Op1:=⟨some d,.extract (.t x) n,none,[],0⟩
abbrev qB (d:Nat) (o:BinOp) (x y:Nat):Op1:=⟨some d,.bin o (.t x) (.t y),none,[],0⟩
abbrev qK (d:Nat) (o:BinOp) (x:Nat) (n:Int):Op1:=⟨some d,.bin o (.t x) (iN n),none,[],0⟩
abbrev vB (d:Nat) (o:BinOp) (x y s:Nat) (b:Bool):Op1:=⟨some d,.bin o (.t x) (.t y),some (s,b),[],0⟩
abbrev vK (d:Nat) (o:BinOp) (x:Nat) (n:Int) (s:Nat) (b:Bool):Op1:=⟨some d,.bin o (.t x) (iN n),some (s,b),[],0⟩
abbrev qW (d:Nat) (n:Int):Op1:=⟨some d,.mov (iN n),none,[],0⟩
abbrev qC (d f x:Nat):Op1:=⟨some d,.call f [.t x],none,[],0⟩
abbrev qD (d f x y:Nat):Op1:=⟨some d,.call f [.t x,.t y],none,[],0⟩
abbrev uS (d:Nat) (l:List Nat):Op1:=⟨some d,.bslice 1 [.int .i64 0] 0 [],none,l,0⟩
abbrev qZ (d x:Nat):Op1:=⟨some d,.nilck (.t x),none,[],0⟩
abbrev uZ (d x:Nat) (l:List Nat):Op1:=⟨some d,.nilck (.t x),none,l,0⟩
abbrev qO (d x:Nat):Op1:=⟨some d,.box (.t x),none,[],0⟩
abbrev qJ (d x y:Nat):Op1:=⟨some d,.pick (.t x) bT (.t y),none,[],0⟩
abbrev vJ (d x y s:Nat) (b:Bool):Op1:=⟨some d,.pick (.t x) bT (.t y),some (s,b),[],0⟩
abbrev qY (d x y:Nat):Op1:=⟨some d,.append 1 (.t x) (.t y),none,[],0⟩
abbrev ZhT (d n:Nat):Op1:=⟨some d,.mov (.c (.nilsl n)),none,[],0⟩
abbrev qff (d:Nat):Op1:=⟨some d,.mov bF,none,[],0⟩
abbrev qtt (d:Nat):Op1:=⟨some d,.mov bT,none,[],0⟩
abbrev vC (d f x s:Nat) (b:Bool):Op1:=⟨some d,.call f [.t x],some (s,b),[],0⟩
abbrev uD (d f x y:Nat) (l:List Nat):Op1:=⟨some d,.call f [.t x,.t y],none,l,0⟩
abbrev vD (d f x y s:Nat) (b:Bool):Op1:=⟨some d,.call f [.t x,.t y],some (s,b),[],0⟩
abbrev qG (d f x y z:Nat):Op1:=⟨some d,.call f [.t x,.t y,.t z],none,[],0⟩
abbrev vG (d f x y z s:Nat) (b:Bool):Op1:=⟨some d,.call f [.t x,.t y,.t z],some (s,b),[],0⟩
abbrev qV (d f x:Nat):Op1:=⟨some d,.callv (.t f) [.t x],none,[],0⟩
abbrev vV (d f x s:Nat) (b:Bool):Op1:=⟨some d,.callv (.t f) [.t x],some (s,b),[],0⟩
abbrev qH (d x:Nat):Op1:=⟨some d,.bslice 1 [.int .i64 0] 1 [(0,(.t x))],none,[],0⟩
abbrev uH (d x:Nat) (l:List Nat):Op1:=⟨some d,.bslice 1 [.int .i64 0] 1 [(0,(.t x))],none,l,0⟩
abbrev qS (n x y:Nat):Op1:=⟨none,.store n (.t x) (.t y),none,[],0⟩
abbrev qR (n x:Nat) (y:Int):Op1:=⟨none,.store n (.t x) (iN y),none,[],0⟩
abbrev qX (n x y k:Nat):Op1:=⟨none,.store n (.t x) (.t y),none,[],k⟩
abbrev qP (d x y:Nat):Op1:=⟨some d,.pick (.t x) (.t y) bF,none,[],0⟩
abbrev zI:V:=.d (.int .i64 0)
abbrev zD:D:=.int .i64 0
abbrev cX (x n:Nat):C:=.cond (.t x) .skip (.exit n)
abbrev cY (x:Nat) (a b:C):C:=.cond (.t x) a b
abbrev Lz0:List V:=[(.nilsl 5),(.nilsl 1)]
abbrev Lz1:List V:=[zI,zI]
abbrev Lz2:List V:=[(.nilsl 1),(.nilsl 2),(.nilsl 2)]
abbrev Lz3:List V:=[zI,zI,(.nilsl 3),(.nilsl 2),(.nilsl 3),(.nilsl 2)]
abbrev Lz4:List V:=[zI,zI,zI,zI,zI]
abbrev Lz5:List V:=[(.nilsl 1),(.nilsl 1)]
abbrev Lz6:List V:=[zI,zI,zI]
abbrev oS (l:List Op1) (c:C):C:=.seq (.ops l) c
abbrev oR (l:List Op1):C:=.seq (.ops l) .ret
abbrev oC (x:Nat) (l:List Op1):C:=.cond (.t x) (.seq (.ops l) .ret) .skip
def ZMN:List D:=[.int .u8 0,.int .u8 1,.int .u8 28,.int .u8 2,.int .u8 29,.int .u8 14,.int .u8 24,.int .u8 3,.int .u8 30,.int .u8 22,.int .u8 20,.int .u8 15,.int .u8 25,.int .u8 17,.int .u8 4,.int .u8 8,.int .u8 31,.int .u8 27,.int .u8 13,.int .u8 23,.int .u8 21,.int .u8 19,.int .u8 16,.int .u8 7,.int .u8 26,.int .u8 12,.int .u8 18,.int .u8 6,.int .u8 11,.int .u8 5,.int .u8 10,.int .u8 9]
def ZGw:List D:=[.int .u8 0,.int .u8 1,.int .u8 56,.int .u8 2,.int .u8 57,.int .u8 49,.int .u8 28,.int .u8 3,.int .u8 61,.int .u8 58,.int .u8 42,.int .u8 50,.int .u8 38,.int .u8 29,.int .u8 17,.int .u8 4,.int .u8 62,.int .u8 47,.int .u8 59,.int .u8 36,.int .u8 45,.int .u8 43,.int .u8 51,.int .u8 22,.int .u8 53,.int .u8 39,.int .u8 33,.int .u8 30,.int .u8 24,.int .u8 18,.int .u8 12,.int .u8 5,.int .u8 63,.int .u8 55,.int .u8 48,.int .u8 27,.int .u8 60,.int .u8 41,.int .u8 37,.int .u8 16,.int .u8 46,.int .u8 35,.int .u8 44,.int .u8 21,.int .u8 52,.int .u8 32,.int .u8 23,.int .u8 11,.int .u8 54,.int .u8 26,.int .u8 40,.int .u8 15,.int .u8 34,.int .u8 20,.int .u8 31,.int .u8 10,.int .u8 25,.int .u8 14,.int .u8 19,.int .u8 9,.int .u8 13,.int .u8 8,.int .u8 7,.int .u8 6]
def ir3:C:=oS [qff 4] (.seq (oS [oB 9 (.call 9 []),qU 10 9,qM 11 10,vM 12 0 11 false,vC 13 10 12 11 false,vU 14 13 11 false,qJ 15 11 14] (oC 15 [oB 16 (.call 9 []),qM 4 16])) (oS [qM 18 0,qC 19 12 18,qM 20 1,qD 21 11 19 20,qM 17 21,qE 22 17 0,qE 23 17 1,oB 5 (.alloc (.agg Lz0)),qS 2 5 22,qM 6 23] (oS [qM 25 0,qM 26 1,qD 27 13 25 26,qM 24 27,qE 28 24 0,qE 29 24 1,oB 7 (.alloc (.agg Lz0)),qS 2 7 28,qM 8 29] (oR [qA 30 2 5,qA 31 2 7,qD 32 14 30 31,qM 33 32,vM 34 6 33 true,vM 35 8 33 true,vB 36 .eql 34 35 33 true,qP 37 33 36,qM 4 37]))))
def fn3:FnI:=⟨2,ir3,[(4,none)]⟩
def ir9:C:=oS [qff 0] (oS [oB 8 (.build Lz6 [(2,1,(iN 4))]),oB 9 (.build Lz6 [(2,1,(iN 4))]),oB 10 (.bslice 3 [zD,zD,zD] 2 [(0,(.t 8)),(1,(.t 9))]),oB 11 (.build Lz3 [(0,1,(iN 8)),(1,1,(iN 6)),(2,1,(.t 10))]),oB 1 (.alloc (.agg Lz3)),qS 6 1 11] (oS [oB 12 (.build Lz6 [(2,1,(iN 2))]),oB 13 (.bslice 3 [zD,zD,zD] 1 [(0,(.t 12))]),oB 14 (.build Lz3 [(0,1,(iN 8)),(1,1,(iN 8)),(2,1,(.t 13))]),oB 2 (.alloc (.agg Lz3)),qS 6 2 14] (oS [qA 15 6 2,qA 16 6 1,qA 17 6 2,oB 18 (.bslice 6 [zD,zD,.list true [],.list true [],.list true [],.list true []] 3 [(0,(.t 15)),(1,(.t 16)),(2,(.t 17))]),qM 3 18] (oS [qM 20 3,oB 21 (.call 11 [.t 20,(iN 3)]),qM 19 21,qE 22 19 0,qE 23 19 1,oB 4 (.alloc (.agg Lz0)),qS 2 4 22,qM 5 23] (oS [qM 25 3,oB 26 (.call 11 [.t 25,(iN 2)]),qM 24 26,qE 27 24 0,qE 28 24 1,oB 6 (.alloc (.agg Lz0)),qS 2 6 27,qM 7 28] (oR [qM 29 5,qK 30 .eql 29 0,qM 31 30,vM 32 7 31 true,vK 33 .eql 32 171 31 true,qP 34 31 33,qM 35 34,vF 36 1 4 35 true,vL 37 36 35 true,vN 38 37 35 true,vK 39 .eql 38 3 35 true,qP 40 35 39,qM 41 40,vF 42 1 4 41 true,vL 43 42 41 true,oG 44 (.iaddr 1 (.t 43) (iN 0)) 41 true,vL 45 44 41 true,oG 46 (.bslice 1 [zD] 1 [(0,(iN 2))]) 41 true,vD 47 21 45 46 41 true,qP 48 41 47,qM 49 48,vF 50 1 4 49 true,vL 51 50 49 true,oG 52 (.iaddr 1 (.t 51) (iN 1)) 49 true,vL 53 52 49 true,oG 54 (.bslice 1 [zD] 2 [(0,(iN 0)),(1,(iN 1))]) 49 true,vD 55 21 53 54 49 true,qP 56 49 55,qM 57 56,vA 58 2 4 57 true,oG 59 (.call 16 [.t 58,(iN 3)]) 57 true,qP 60 57 59,qM 61 60,vA 62 2 4 61 true,oG 63 (.call 16 [.t 62,(iN 2)]) 61 true,vU 64 63 61 true,qP 65 61 64,qM 66 65,vA 67 2 4 66 true,oG 68 (.call 19 [.t 67,(iN 1)]) 66 true,vK 69 .eql 68 1 66 true,qP 70 66 69,qM 71 70,vA 72 2 4 71 true,oG 73 (.call 19 [.t 72,(iN 2)]) 71 true,vK 74 .eql 73 (-1) 71 true,qP 75 71 74,qM 76 75,vA 77 2 4 76 true,oG 78 (.call 22 [.t 77,(iN 2)]) 76 true,oG 79 (.bslice 1 [zD] 2 [(0,(iN 0)),(1,(iN 2))]) 76 true,vD 80 21 78 79 76 true,qP 81 76 80,qM 82 81,vA 83 2 4 82 true,vA 84 2 4 82 true,vD 85 24 83 84 82 true,qP 86 82 85,qM 87 86,vA 88 2 4 87 true,oG 89 (.build Lz0 []) 87 true,vD 90 24 88 89 87 true,vU 91 90 87 true,qP 92 87 91,qM 0 92]))))))
def fn9:FnI:=⟨0,ir9,[(0,none)]⟩
def ZHt:C:=.seq (oS [qM 4 3,qM 5 0,qN 6 5,qB 7 .lss 4 6,qM 8 7,vM 9 3 8 true,vK 10 .lss 9 13 8 true,qP 11 8 10] (cX 11 0)) (.seq (.block 1 (oS [qM 14 0,qM 15 3,qI 16 6 14 15,qA 17 6 16,qC 18 32 17,qU 19 18] (oC 19 [qff 2]))) (.ops [qM 12 3,qK 13 .add 12 1,qM 3 13]))
def ZPc:C:=oS [qff 2] (.seq (oS [qW 3 0] (.block 0 (.loop [0,3] [0,2] ZHt))) (oR [qM 20 0,qN 21 20,qK 22 .leq 21 12,qM 2 22]))
def ZJ8:FnI:=⟨1,ZPc,[(2,none)]⟩
def ZHN:C:=oS [qB 52 .lss 51 50] (.seq (cX 52 0) (.seq (.block 1 (oS [qM 53 51,qI 54 5 49 51,qA 55 5 54,oB 12 (.alloc (.d (.agg [zD,zD,zD,zD,zD]))),qM 11 53,qS 5 12 55] (.seq (oS [qA 56 5 12,qC 57 28 56,qU 58 57] (cY 58 (oS [qM 59 10,qA 60 5 12,oB 61 (.bslice 5 [zD,zD,zD,zD,zD] 1 [(0,(.t 60))]),oB 62 (.append 5 (.t 59) (.t 61)),qM 10 62] (.exit 1)) .skip)) (oS [qA 64 5 12,qC 65 27 64,qM 63 65,qE 66 63 0,qE 67 63 1,qM 13 66,qM 14 67] (oS [qM 69 9,qM 70 13,qD 71 35 69 70,qM 68 71,qE 72 68 0,qE 73 68 1,qM 15 72,qM 16 73] (.seq (oS [qM 74 16,qU 75 74] (oC 75 [oB 76 (.build Lz0 []),qS 2 4 76,qW 5 171])) (.ops [qF 77 1 8,qL 78 77,qM 79 11,qM 80 15,qI 81 1 78 79,qS 1 81 80]))))))) (.ops [qK 82 .add 51 1,qM 51 82])))
def ZGp:C:=oS [qB 100 .lss 99 98] (.seq (cX 100 2) (.seq (.block 3 (oS [qM 101 99,qI 102 5 97 99,qA 103 5 102,oB 20 (.alloc (.d (.agg [zD,zD,zD,zD,zD]))),qM 19 101,qS 5 20 103] (oS [qA 104 5 20,qC 105 28 104,qU 106 105] (cY 106 (.draw [qF 107 1 8,qL 108 107,uM 109 19 [0,1],uM 110 18 [0,1,2],uM 111 17 [0,1,2,3],oM 112 (.iaddr 1 (.t 111) (iN 0)) [0,1,2,3],uL 113 112 [0,1,2,3],oM 114 (.bin .add (.t 110) (.t 113)) [0,1,2],oM 115 (.bsD (.t 114)) [0,1,2],uM 116 17 [0,1,2,3,4,5,6,7,8],oM 117 (.slice 1 (.t 116) (some (iN 1)) none none) [0,1,2,3,4,5,6,7,8],uI 118 1 108 109 [9,10],qX 1 118 115 3,qM 17 117]) .skip)))) (.ops [qK 119 .add 99 1,qM 99 119])))
def ZO3:C:=oS [oB 4 (.alloc (.agg Lz0)),qW 5 0] (.seq (oS [qM 21 0,qN 22 21,qK 23 .gtr 22 8,qM 24 23,vM 25 1 24 false,vK 26 .lss 25 1 24 false,qJ 27 24 26,qM 28 27,vM 29 1 28 false,vK 30 .gtr 29 8 28 false,qJ 31 28 30] (oC 31 [oB 32 (.build Lz0 []),qS 2 4 32,qW 5 170])) (oS [qM 34 0,qC 35 33 34,qM 33 35,qE 36 33 0,qE 37 33 1,qM 6 36,qM 7 37] (.seq (oS [qM 38 7,qK 39 .neq 38 0] (oC 39 [oB 40 (.build Lz0 []),qM 41 7,qS 2 4 40,qM 5 41])) (oS [qM 42 6,qM 43 6,qN 44 43,oB 45 (.mkslice 1 [.list true []] (.t 44) (.t 44)),oB 46 (.build Lz0 [(0,1,(.t 42)),(1,1,(.t 45))]),oB 8 (.alloc (.agg Lz0)),qS 2 8 46] (oS [qM 47 1,qC 48 34 47,qM 9 48] (oS [ZhT 10 5] (.seq (oS [qM 49 6,qN 50 49,qW 51 0] (.block 0 (.loop [1,4,6,8,9,10,49,50,51] [1,4,5,6,8,9,10] ZHN))) (oS [qM 84 10,qM 85 9,oB 86 (.chLen (.t 85)),qD 87 36 84 86,qM 83 87,qE 88 83 0,qE 89 83 1,qM 17 88,qM 7 89] (.seq (oS [qM 90 7,qK 91 .neq 90 0] (oC 91 [oB 92 (.build Lz0 []),qS 2 4 92,qW 5 171])) (oS [qM 93 1,qM 94 9,oB 95 (.chLen (.t 94)),qB 96 .sub 93 95,qM 18 96] (.seq (oS [qM 97 6,qN 98 97,qW 99 0] (.block 2 (.loop [4,8,17,18,97,98,99] [4,8] ZGp))) (oR [qA 120 2 8,qS 2 4 120,qW 5 0]))))))))))))
def ZLu:FnI:=⟨2,ZO3,[(4,some (2,true)),(5,none)]⟩
def ZEy:C:=.seq (oS [qM 6 4,qM 7 0,qN 8 7,qB 9 .lss 6 8] (cX 9 0)) (.seq (.block 1 (.ops [qM 12 3,qM 13 0,qM 14 4,qI 15 6 13 14,qA 16 6 15,qC 17 26 16,oB 18 (.bslice 6 [zD,zD,.list true [],.list true [],.list true [],.list true []] 1 [(0,(.t 17))]),oB 19 (.append 6 (.t 12) (.t 18)),qM 3 19])) (.ops [qM 10 4,qK 11 .add 10 1,qM 4 11]))
def ZOw:C:=oS [ZhT 2 6] (oS [oB 5 (.bslice 6 [zD,zD,.list true [],.list true [],.list true [],.list true []] 0 []),qM 3 5] (.seq (oS [qW 4 0] (.block 0 (.loop [0,3,4] [3] ZEy))) (oR [qM 20 3,qM 2 20])))
def ZKH:FnI:=⟨1,ZOw,[(2,none)]⟩
def ZGs:C:=.seq (oS [qM 41 8,qM 42 0,qN 43 42,qB 44 .lss 41 43] (cX 44 0)) (.seq (.block 1 (oS [qM 48 0,qM 49 8,qI 50 6 48 49,qA 51 6 50,qC 52 37 51,qM 47 52,qE 53 47 0,qE 54 47 1,oB 9 (.alloc (.d (.agg [zD,zD,zD,zD,zD]))),qS 5 9 53,qM 10 54] (.seq (oS [qM 55 10,qK 56 .neq 55 0] (oC 56 [qA 57 2 6,qM 58 10,qS 2 4 57,qM 5 58])) (.ops [qF 59 0 7,qL 60 59,qA 61 5 9,oB 62 (.bslice 5 [zD,zD,zD,zD,zD] 1 [(0,(.t 61))]),oB 63 (.append 5 (.t 60) (.t 62)),qF 64 0 7,qS 1 64 63])))) (.ops [qM 45 8,qK 46 .add 45 1,qM 8 46]))
def ZHu:C:=.seq (oS [qM 66 13,qF 67 0 7,qL 68 67,qN 69 68,qB 70 .lss 66 69] (cX 70 2)) (.seq (.block 3 (oS [qF 73 0 7,qL 74 73,qM 75 13,qI 76 5 74 75,qA 77 5 76,oB 14 (.alloc (.d (.agg [zD,zD,zD,zD,zD]))),qS 5 14 77] (oS [qA 79 5 14,qC 80 38 79,qM 78 80,qE 81 78 0,qE 82 78 1,qM 15 81,qM 16 82] (.seq (oS [qM 83 16,qK 84 .neq 83 0] (oC 84 [qA 85 2 6,qM 86 16,qS 2 4 85,qM 5 86])) (.seq (oS [qF 87 0 14,qL 88 87,qF 89 3 14,qL 90 89,qB 91 .leq 88 90] (cY 91 (oS [qM 92 12,qA 93 5 14,oB 94 (.bslice 5 [zD,zD,zD,zD,zD] 1 [(0,(.t 93))]),oB 95 (.append 5 (.t 92) (.t 94)),qM 12 95] (.exit 3)) .skip)) (.ops [qM 96 11,qM 97 15,qB 98 .add 96 97,qM 11 98])))))) (.ops [qM 71 13,qK 72 .add 71 1,qM 13 72]))
def ZE2:C:=.seq (oS [qM 148 26,qM 149 23,qB 150 .lss 148 149] (cX 150 6)) (.seq (.block 7 (oS [qM 153 25,qM 154 19,qH 155 154,qY 156 153 155,qM 25 156] (.ops [qM 157 19,qK 158 .add 157 1,qM 19 158]))) (.ops [qM 151 26,qK 152 .add 151 1,qM 26 152]))
def ZH5:C:=.seq (oS [qM 114 21,qF 115 0 7,qL 116 115,qN 117 116,qB 118 .lss 114 117] (cX 118 4)) (.seq (.block 5 (oS [qF 121 0 7,qL 122 121,qM 123 21,qI 124 5 122 123,qA 125 5 124,oB 22 (.alloc (.d (.agg [zD,zD,zD,zD,zD]))),qS 5 22 125] (oS [qA 127 5 22,qC 128 38 127,qM 126 128,qE 129 126 0,qE 130 126 1,qM 23 129,qM 24 130] (oS [oB 131 (.bslice 1 [zD] 0 []),qM 25 131] (.seq (oS [qF 132 0 22,qL 133 132,qF 134 3 22,qL 135 134,qB 136 .leq 133 135] (cY 136 (oS [qM 137 25,qM 138 11,qM 139 17,qM 140 20,qI 141 1 139 140,qL 142 141,qB 143 .add 138 142,qH 144 143,qY 145 137 144,qM 25 145] (.ops [qM 146 20,qK 147 .add 146 1,qM 20 147])) (oS [qW 26 0] (.block 6 (.loop [4,7,11,17,19,20,21,23,25,26] [4,7,11,17,19,20,21,25] ZE2))))) (.ops [qF 159 1 7,qL 160 159,qM 161 25,oB 162 (.bslice 1 [.list true []] 1 [(0,(.t 161))]),qY 163 160 162,qF 164 1 7,qS 1 164 163])))))) (.ops [qM 119 21,qK 120 .add 119 1,qM 21 120]))
def ZOU:C:=oS [oB 4 (.alloc (.agg Lz0)),qW 5 0] (oS [oB 27 (.build Lz0 []),oB 6 (.alloc (.agg Lz0)),qS 2 6 27] (.seq (oS [qM 28 0,qN 29 28,qK 30 .gtr 29 8,qM 31 30,vM 32 1 31 false,vK 33 .lss 32 1 31 false,qJ 34 31 33,qM 35 34,vM 36 1 35 false,vK 37 .gtr 36 8 35 false,qJ 38 35 37] (oC 38 [qA 39 2 6,qS 2 4 39,qW 5 170])) (oS [oB 40 (.build Lz0 []),oB 7 (.alloc (.agg Lz0)),qS 2 7 40] (.seq (oS [qW 8 0] (.block 0 (.loop [0,1,4,6,7,8] [1,4,5,6,7] ZGs))) (oS [qW 11 0] (oS [oB 65 (.bslice 5 [zD,zD,zD,zD,zD] 0 []),qM 12 65] (.seq (oS [qW 13 0] (.block 2 (.loop [1,4,6,7,11,12,13] [1,4,5,6,7,11,12] ZHu))) (.seq (oS [qM 99 11,qM 100 1,qB 101 .gtr 99 100] (oC 101 [qA 102 2 6,qS 2 4 102,qW 5 171])) (oS [qM 104 12,qM 105 1,qM 106 11,qB 107 .sub 105 106,qD 108 39 104 107,qM 103 108,qE 109 103 0,qE 110 103 1,qM 17 109,qM 18 110] (.seq (oS [qM 111 18,qK 112 .neq 111 0] (oC 112 [qA 113 2 6,qS 2 4 113,qW 5 171])) (oS [qW 19 0,qW 20 0] (.seq (oS [qW 21 0] (.block 4 (.loop [4,7,11,17,19,20,21] [4,7] ZH5))) (oR [qA 165 2 7,qS 2 4 165,qW 5 0])))))))))))))
def ZLh:FnI:=⟨2,ZOU,[(4,some (2,true)),(5,none)]⟩
def ZGC:C:=.seq (oS [qM 21 5,qF 22 1 2,qL 23 22,qN 24 23,qB 25 .lss 21 24] (cX 25 0)) (.seq (.block 1 (.seq (.draw [qF 28 1 2,qL 29 28,uM 30 5 [0,1],qI 31 1 29 30,qL 32 31,uF 33 1 3 [0,1,2,3,4],uL 34 33 [0,1,2,3,4],uM 35 5 [0,1,2,3,4,5,6],uI 36 1 34 35 [0,1,2,3,4],uL 37 36 [0,1,2,3,4],qD 38 21 32 37,qU 39 38]) (oC 39 [qff 4]))) (.ops [qM 26 5,qK 27 .add 26 1,qM 5 27]))
def ZOz:C:=oS [qO 2 0,qO 3 1,qff 4] (.seq (oS [qF 6 0 2,qL 7 6,qF 8 0 3,qL 9 8,qD 10 40 7 9,qU 11 10,qM 12 11,vF 13 1 2 12 false,vL 14 13 12 false,vN 15 14 12 false,vF 16 1 3 12 false,vL 17 16 12 false,vN 18 17 12 false,vB 19 .neq 15 18 12 false,qJ 20 12 19] (oC 20 [qff 4])) (.seq (oS [qW 5 0] (.block 0 (.loop [2,3,5] [4] ZGC))) (oR [qtt 4])))
def ZLD:FnI:=⟨2,ZOz,[(4,none)]⟩
def ZJ9:C:=oS [qB 37 .lss 36 35] (.seq (cX 37 0) (.seq (.block 1 (oS [qM 38 36,oB 6 (.alloc zI),qS 1 6 38] (oS [oB 7 (.alloc (.nilsl 5))] (oS [oB 8 (.alloc zI),qR 1 8 0] (oS [qA 39 2 2,oB 40 (.mkfn 44 [.t 6,.t 8,.t 7]),qD 41 41 39 40] (oS [qL 42 8,qK 43 .gtr 42 1,qM 44 43,vL 45 8 44 false,vK 46 .eql 45 1 44 false,vM 47 46 44 false,vL 48 7 47 true,vN 49 48 47 true,vK 50 .gtr 49 0 47 true,oG 51 (.pick (.t 47) (.t 50) bF) 44 false,qJ 52 44 51,qM 53 52,vL 54 7 53 false,vC 55 46 54 53 false,vU 56 55 53 false,qJ 57 53 56] (oC 57 [qff 4]))))))) (.ops [qK 58 .add 36 1,qM 36 58])))
def ZN9:C:=oS [qO 2 0,qO 3 1,qff 4] (.seq (oS [qL 9 3,qK 10 .lss 9 1,qM 11 10,vL 12 3 11 false,vK 13 .gtr 12 8 11 false,qJ 14 11 13,qM 15 14,vF 16 0 2 15 false,vL 17 16 15 false,vN 18 17 15 false,vK 19 .gtr 18 8 15 false,qJ 20 15 19,qM 21 20,vF 22 1 2 21 false,vL 23 22 21 false,vN 24 23 21 false,vF 25 0 2 21 false,vL 26 25 21 false,vN 27 26 21 false,vB 28 .neq 24 27 21 false,qJ 29 21 28] (oC 29 [qff 4])) (oS [oB 5 (.alloc (.d (.bool false))),oA (.store 1 (.t 5) bT)] (oS [qA 30 2 2,oB 31 (.mkfn 42 [.t 5,.t 3]),qD 32 41 30 31] (.seq (oS [qL 33 5,qU 34 33] (oC 34 [qff 4])) (.seq (oS [qL 35 3,qW 36 0] (.block 0 (.loop [2,35,36] [4] ZJ9))) (oR [qtt 4]))))))
def ZNB:FnI:=⟨2,ZN9,[(4,none)]⟩
def ZPf:C:=oS [qO 2 0,qO 3 1,qW 4 0] (oS [oB 5 (.alloc zI),qR 1 5 (-1)] (oS [qA 6 2 2,oB 7 (.mkfn 48 [.t 5,.t 3]),qD 8 41 6 7] (oR [qL 9 5,qM 4 9])))
def ZLJ:FnI:=⟨2,ZPf,[(4,none)]⟩
def ZHH:C:=.seq (oS [qM 11 5,qM 12 0,qN 13 12,qB 14 .lss 11 13] (cX 14 0)) (.seq (.block 1 (.seq (.draw [qM 17 0,uM 18 5 [0],qI 19 1 17 18,qL 20 19,uM 21 1 [0,1,2,3],uM 22 5 [0,1,2,3,4],uI 23 1 21 22 [0,1,2,3],uL 24 23 [0,1,2,3],qB 25 .neq 20 24]) (oC 25 [qff 4]))) (.ops [qM 15 5,qK 16 .add 15 1,qM 5 16]))
def ZOp:C:=oS [qff 4] (.seq (oS [qM 6 0,qN 7 6,qM 8 1,qN 9 8,qB 10 .neq 7 9] (oC 10 [qff 4])) (.seq (oS [qW 5 0] (.block 0 (.loop [0,1,5] [4] ZHH))) (oR [qtt 4])))
def ZLn:FnI:=⟨2,ZOp,[(4,none)]⟩
def ZO8:C:=oS [qO 2 0,qO 3 1,ZhT 4 1] (oS [oB 5 (.alloc (.nilsl 1))] (oS [qA 6 2 2,oB 7 (.mkfn 50 [.t 3,.t 5]),qD 8 41 6 7] (oR [qL 9 5,qM 4 9])))
def ZMZ:FnI:=⟨2,ZO8,[(4,none)]⟩
def ZOE:C:=oS [qO 2 0,qO 3 1,qff 4] (oR [qF 5 0 2,qL 6 5,qF 7 0 3,qL 8 7,qD 9 52 6 8,qM 10 9,vF 11 1 2 10 true,vL 12 11 10 true,vF 13 1 3 10 true,vL 14 13 10 true,oG 15 (.call 53 [.t 12,.t 14,(.c (.d (.fn 54 [])))]) 10 true,qP 16 10 15,qM 4 16])
def ZLX:FnI:=⟨2,ZOE,[(4,none)]⟩
def ZNW:C:=oS [qO 1 0,oB 2 (.alloc (.d (.agg [zD,zD,zD,zD,zD]))),qW 3 0] (oS [qA 7 6 1,qC 8 55 7,qM 6 8,qE 9 6 0,qE 10 6 1,oB 4 (.alloc (.agg Lz2)),qS 3 4 9,qM 5 10] (.seq (oS [qM 11 5,qK 12 .neq 11 0] (oC 12 [oB 13 (.build Lz4 []),qM 14 5,qS 5 2 13,qM 3 14])) (.seq (.draw [qF 15 0 4,qA 16 2 15,qC 17 56 16,uF 18 0 4 [0,1,2],uA 19 2 18 [0,1,2],qC 20 57 19,uF 21 0 4 [0,1,2,3,4,5],uF 22 0 21 [0,1,2,3,4,5],uL 23 22 [0,1,2,3,4,5],qC 24 58 23,uF 25 1 1 [0,1,2,3,4,5,6,7,8,9],uL 26 25 [0,1,2,3,4,5,6,7,8,9],uF 27 0 1 [0,1,2,3,4,5,6,7,8,9,10,11],uL 28 27 [0,1,2,3,4,5,6,7,8,9,10,11],oB 29 (.build Lz4 [(0,1,(.t 17)),(1,1,(.t 20)),(2,1,(.t 24)),(3,1,(.t 26)),(4,1,(.t 28))]),qX 5 2 29 4,qW 3 0]) .ret)))
def ZLl:FnI:=⟨1,ZNW,[(2,some (5,true)),(3,none)]⟩
def ZFU:C:=.seq (oS [qM 22 4,qF 23 5 1,qL 24 23,qN 25 24,qB 26 .lss 22 25] (cX 26 0)) (.seq (.block 1 (.draw [qF 29 5 3,qL 30 29,uS 31 [0,1],uF 32 5 1 [0,1,2],uL 33 32 [0,1,2],uM 34 4 [0,1,2,3,4],uI 35 2 33 34 [0,1,2],uF 36 0 35 [0,1,2],uL 37 36 [0,1,2],oM 38 (.appendD 1 (.t 31) (.t 37)) [0,1],uS 39 [0,1,2,3,4,5,6,7,8,9],uF 40 5 1 [0,1,2,3,4,5,6,7,8,9,10],uL 41 40 [0,1,2,3,4,5,6,7,8,9,10],uM 42 4 [0,1,2,3,4,5,6,7,8,9,10,11,12],uI 43 2 41 42 [0,1,2,3,4,5,6,7,8,9,10],uF 44 1 43 [0,1,2,3,4,5,6,7,8,9,10],uL 45 44 [0,1,2,3,4,5,6,7,8,9,10],oM 46 (.appendD 1 (.t 39) (.t 45)) [0,1],oM 47 (.build Lz5 [(0,1,(.t 38)),(1,1,(.t 46))]) [0,1],oM 48 (.bslice 2 [.list true [],.list true []] 1 [(0,(.t 47))]) [0,1],⟨some 49,.append 2 (.t 30) (.t 48),none,[],4⟩,qF 50 5 3,qX 1 50 49 4])) (.ops [qM 27 4,qK 28 .add 27 1,qM 4 28]))
def ZOt:C:=oS [qO 1 0,oB 2 (.alloc (.agg Lz3))] (.seq (.draw [qF 5 0 1,qL 6 5,uF 7 1 1 [0,1],uL 8 7 [0,1],oM 9 (.bslice 3 [zD,zD,zD] 0 []) [0,1,2,3],uF 10 2 1 [0,1,2,3,4],uL 11 10 [0,1,2,3,4],oM 12 (.append 3 (.t 9) (.t 11)) [0,1,2,3],oM 13 (.bslice 2 [zD,zD] 0 []) [0,1,2,3,4,5,6,7],uF 14 3 1 [0,1,2,3,4,5,6,7,8],uL 15 14 [0,1,2,3,4,5,6,7,8],oM 16 (.append 2 (.t 13) (.t 15)) [0,1,2,3],oM 17 (.bslice 3 [zD,zD,zD] 0 []) [0,1,2,3,4,5,6,7,8,9,10,11],uF 18 4 1 [0,1,2,3,4,5,6,7,8,9,10,11,12],uL 19 18 [0,1,2,3,4,5,6,7,8,9,10,11,12],oM 20 (.append 3 (.t 17) (.t 19)) [0,1,2,3],oB 21 (.build Lz3 [(0,1,(.t 6)),(1,1,(.t 8)),(2,1,(.t 12)),(3,1,(.t 16)),(4,1,(.t 20))]),oM 3 (.alloc (.agg Lz3)) [0,1,2,3,4,5,6,7,8,9,10,11,12,13,14,15,16],qX 6 3 21 4]) (.seq (oS [qW 4 0] (.block 0 (.loop [1,2,3,4] [2,3] ZFU))) (oR [qA 51 6 3,qS 6 2 51])))
def ZKa:FnI:=⟨1,ZOt,[(2,some (6,true))]⟩
def ZPg:C:=oS [qO 1 0,qW 2 0,qW 3 0] (.seq (oS [qA 6 5 1,qC 7 51 6,qM 4 7] (oS [qM 8 4,qK 9 .neq 8 0] (oC 9 [qM 10 4,qW 2 0,qM 3 10]))) (oS [qA 11 5 1,qC 12 59 11,oB 13 (.invoke [(97,60),(128,196)] (.t 12) []),oB 5 (.alloc (.d (.agg [zD,zD]))),qS 2 5 13] (.seq (.draw [qF 14 0 5,qL 15 14,uF 16 1 5 [0,1],uL 17 16 [0,1],uM 2 15 [2,3],qM 3 17]) .ret)))
def ZJ3:FnI:=⟨1,ZPg,[(2,none),(3,none)]⟩
def ZNQ:C:=oS [qO 1 0,qff 2] (.seq (.draw [qA 3 5 1,qC 4 51 3,qK 5 .eql 4 0,qM 6 5,vA 7 5 1 6 true,vC 8 59 7 6 true,oG 9 (.invoke [(97,60),(128,196)] (.t 8) []) 6 true,wA 10 5 1 6 true [4,5,6],⟨some 11,.build Lz4 [(0,5,(.t 10))],some (6,true),[4,5,6],0⟩,vC 12 60 11 6 true,oG 13 (.eqv [false,false] true (.t 9) (.t 12)) 6 true,qP 14 6 13,qM 2 14]) .ret)
def ZKy:FnI:=⟨1,ZNQ,[(2,none)]⟩
def ZEM:C:=.seq (oS [qM 6 5,qM 7 0,qN 8 7,qB 9 .lss 6 8] (cX 9 0)) (.seq (.block 1 (oS [qM 12 0,qM 13 5,qI 14 1 12 13,qL 15 14,qM 16 1,qB 17 .eql 15 16] (oC 17 [qtt 4]))) (.ops [qM 10 5,qK 11 .add 10 1,qM 5 11]))
def ZOJ:C:=oS [qff 4] (.seq (oS [qW 5 0] (.block 0 (.loop [0,1,5] [4] ZEM))) (oR [qff 4]))
def ZKC:FnI:=⟨2,ZOJ,[(4,none)]⟩
def ZFz:C:=.seq (oS [qM 4 3,qF 5 5 1,qL 6 5,qN 7 6,qB 8 .lss 4 7,qM 9 8,vM 10 3 9 true,vK 11 .lss 10 9 9 true,qP 12 9 11] (cX 12 0)) (.seq (.block 1 (oS [qF 15 5 1,qL 16 15,qM 17 3,qI 18 2 16 17,qF 19 0 18,qL 20 19,qN 21 20,qK 22 .gtr 21 20,qM 23 22,vF 24 5 1 23 false,vL 25 24 23 false,vM 26 3 23 false,vI 27 2 25 26 23 false,vF 28 1 27 23 false,vL 29 28 23 false,vN 30 29 23 false,vK 31 .gtr 30 20 23 false,qJ 32 23 31] (oC 32 [qff 2]))) (.ops [qM 13 3,qK 14 .add 13 1,qM 3 14]))
def ZOr:C:=oS [qO 1 0,qff 2] (.seq (oS [qW 3 0] (.block 0 (.loop [1,3] [1,2] ZFz))) (oR [qF 33 2 1,qL 34 33,qN 35 34,qK 36 .leq 35 20,qM 37 36,vF 38 3 1 37 true,vL 39 38 37 true,vN 40 39 37 true,vK 41 .leq 40 60 37 true,qP 42 37 41,qM 43 42,vF 44 4 1 43 true,vL 45 44 43 true,vN 46 45 43 true,vK 47 .leq 46 20 43 true,qP 48 43 47,qM 49 48,vF 50 5 1 49 true,vL 51 50 49 true,vN 52 51 49 true,vK 53 .leq 52 8 49 true,qP 54 49 53,qM 2 54]))
def ZKz:FnI:=⟨1,ZOr,[(2,none)]⟩
def ZGt:C:=oS [qB 16 .lss 15 14] (.seq (cX 16 0) (.seq (.block 1 (oS [qI 17 6 13 15,qA 18 6 17,oB 6 (.alloc (.agg Lz3)),qS 6 6 18] (oS [qA 20 6 6,qC 21 25 20,qM 19 21,qE 22 19 0,qE 23 19 1,oB 7 (.alloc (.d (.agg [zD,zD,zD,zD,zD]))),qS 5 7 22,qM 8 23] (.seq (oS [qM 24 8,qK 25 .neq 24 0] (oC 25 [qM 26 8,ZhT 2 5,qM 3 26])) (.ops [qM 27 4,qA 28 5 7,oB 29 (.bslice 5 [zD,zD,zD,zD,zD] 1 [(0,(.t 28))]),oB 30 (.append 5 (.t 27) (.t 29)),qM 4 30]))))) (.ops [qK 31 .add 15 1,qM 15 31])))
def ZEO:C:=oS [qB 35 .lss 34 33] (.seq (cX 35 2) (.seq (.block 3 (oS [qI 36 5 32 34,qA 37 5 36,oB 10 (.alloc (.d (.agg [zD,zD,zD,zD,zD]))),qS 5 10 37] (oS [qA 39 5 10,qC 40 27 39,qM 38 40,qE 41 38 0,qE 42 38 1,qM 11 41,qM 12 42] (oS [qM 43 12,qK 44 .neq 43 0] (oC 44 [qM 45 12,ZhT 2 5,qM 3 45]))))) (.ops [qK 46 .add 34 1,qM 34 46])))
def ZO6:C:=oS [ZhT 2 5,qW 3 0] (oS [ZhT 4 5] (.seq (oS [qM 13 0,qN 14 13,qW 15 0] (.block 0 (.loop [4,13,14,15] [2,3,4] ZGt))) (.seq (oS [qM 32 4,qN 33 32,qW 34 0] (.block 2 (.loop [4,32,33,34] [2,3,4] ZEO))) (oR [qM 47 4,qM 2 47,qW 3 0]))))
def ZLr:FnI:=⟨1,ZO6,[(2,none),(3,none)]⟩
def ZOl:C:=oR [⟨some 1,.chNew (.t 0),none,[],0⟩]
def ZMh:FnI:=⟨1,ZOl,[(1,none)]⟩
def ZOV:C:=oR [⟨some 2,.chTake (.t 0) (.t 1),none,[],0⟩,⟨some 3,.extract (.t 2) 0,none,[],0⟩,⟨some 4,.extract (.t 2) 1,none,[],0⟩]
def ZM6:FnI:=⟨2,ZOV,[(3,none),(4,none)]⟩
def ZFm:C:=oS [qB 26 .lss 25 24] (.seq (cX 26 0) (.seq (.block 1 (oS [qM 27 25,qM 7 27] (.ops [qL 28 6,qM 29 7,qI 30 1 28 29,qR 1 30 (-1)]))) (.ops [qK 31 .add 25 1,qM 25 31])))
def ZFP:C:=oS [qB 42 .lss 41 40] (.seq (cX 42 4) (.seq (.block 5 (oS [qM 43 41,qM 11 43] (oS [qM 44 10,qM 45 11,qV 46 44 45] (cY 46 (.exit 3) .skip)))) (.ops [qK 47 .add 41 1,qM 41 47])))
def ZGV:C:=oS [qB 36 .lss 35 34] (.seq (cX 36 2) (.seq (.block 3 (oS [qI 37 1 33 35,qL 38 37,oB 9 (.alloc zI),qS 1 9 38] (oS [oB 39 (.mkfn 67 [.t 6,.t 9,.t 2]),qM 10 39] (.seq (oS [qM 40 1,qW 41 0] (.block 4 (.loop [1,2,6,10,33,34,35,40,41] [1,2,6,33,34,35] ZFP))) (oR [ZhT 4 1,qW 5 161]))))) (.ops [qK 48 .add 35 1,qM 35 48])))
def ZOo:C:=oS [qO 2 0,ZhT 4 1,qW 5 0] (.seq (oS [qL 12 2,qC 13 64 12,qK 14 .neq 13 0,qM 15 14,vM 16 1 15 false,vC 17 65 16 15 false,vU 18 17 15 false,qJ 19 15 18] (oC 19 [ZhT 4 1,qW 5 160])) (oS [qL 20 2,qN 21 20,oB 22 (.mkslice 1 [zD] (.t 21) (.t 21)),oB 6 (.alloc (.nilsl 1)),qS 1 6 22] (.seq (oS [qL 23 6,qN 24 23,qW 25 0] (.block 0 (.loop [1,2,6,24,25] [1,2,6] ZFm))) (.seq .skip (.seq (oS [qL 32 2,qC 33 66 32,qN 34 33,qW 35 0] (.block 2 (.loop [1,2,6,33,34,35] [4,5,6] ZGV))) (oR [qL 49 6,qM 4 49,qW 5 0]))))))
def ZLv:FnI:=⟨2,ZOo,[(4,none),(5,none)]⟩
def ZEx:C:=.seq (oS [qM 28 7,qF 29 0 4,qF 30 0 29,qL 31 30,qN 32 31,qB 33 .lss 28 32] (cX 33 0)) (.seq (.block 1 (.draw [qF 36 2 6,qL 37 36,uF 38 0 4 [0,1],uF 39 0 38 [0,1],uL 40 39 [0,1],uM 41 7 [0,1,2,3,4],uI 42 1 40 41 [0,1],uL 43 42 [0,1],oB 44 (.mx true [.t 37,.t 43]),qF 45 2 6,qX 1 45 44 4])) (.ops [qM 34 7,qK 35 .add 34 1,qM 7 35]))
def ZO7:C:=oS [qO 1 0,oB 2 (.alloc (.d (.agg [zD,zD,zD,zD,zD]))),qW 3 0] (oS [qA 9 6 1,qC 10 69 9,qM 8 10,qE 11 8 0,qE 12 8 1,oB 4 (.alloc (.agg Lz2)),qS 3 4 11,qM 5 12] (.seq (oS [qM 13 5,qK 14 .neq 13 0] (oC 14 [oB 15 (.build Lz4 []),qM 16 5,qS 5 2 15,qM 3 16])) (.seq (.draw [qF 17 0 4,qA 18 2 17,qC 19 70 18,uF 20 0 4 [0,1,2],uA 21 2 20 [0,1,2],qC 22 71 21,uF 23 1 1 [0,1,2,3,4,5],uL 24 23 [0,1,2,3,4,5],uF 25 0 1 [0,1,2,3,4,5,6,7],uL 26 25 [0,1,2,3,4,5,6,7],oB 27 (.build Lz4 [(0,1,(.t 19)),(1,1,(.t 22)),(3,1,(.t 24)),(4,1,(.t 26))]),oM 6 (.alloc (.d (.agg [zD,zD,zD,zD,zD]))) [0,1,2,3,4,5,6,7,8,9,10],qX 5 6 27 4]) (.seq (oS [qW 7 0] (.block 0 (.loop [2,4,6,7] [2,6] ZEx))) (oR [qA 46 5 6,qS 5 2 46,qW 3 0])))))
def ZLs:FnI:=⟨1,ZO7,[(2,some (5,true)),(3,none)]⟩
def ZF5:C:=.seq (oS [qM 18 4,qK 19 .leq 18 8] (cX 19 0)) (.seq (.block 1 (oS [qM 22 4,qF 23 3 1,qL 24 23,qF 25 1 1,qL 26 25,qB 27 .sub 24 26,qB 28 .mul 22 27,qF 29 0 1,qL 30 29,qF 31 1 1,qL 32 31,qB 33 .sub 30 32,qB 34 .geq 28 33] (oC 34 [qM 35 4,qM 2 35,qW 3 0]))) (.ops [qM 20 4,qK 21 .add 20 1,qM 4 21]))
def ZOx:C:=oS [qO 1 0,qW 2 0,qW 3 0] (.seq (oS [qA 5 5 1,qC 6 49 5,qU 7 6] (oC 7 [qW 2 0,qW 3 140])) (.seq (oS [qF 8 0 1,qL 9 8,qF 10 3 1,qL 11 10,qB 12 .leq 9 11] (oC 12 [qW 2 1,qW 3 0])) (.seq (oS [qF 13 1 1,qL 14 13,qF 15 3 1,qL 16 15,qB 17 .geq 14 16] (oC 17 [qW 2 0,qW 3 141])) (.seq (oS [qW 4 1] (.block 0 (.loop [1,4] [2,3] ZF5))) (oR [qW 2 0,qW 3 142])))))
def ZJW:FnI:=⟨1,ZOx,[(2,none),(3,none)]⟩
def ZFn:C:=.seq (oS [qM 24 7,qM 25 0,qN 26 25,qB 27 .lss 24 26] (cX 27 0)) (.seq (.block 1 (.ops [qM 30 6,oB 31 (.bslice 1 [zD] 1 [(0,(iN (-1)))]),qY 32 30 31,qM 6 32])) (.ops [qM 28 7,qK 29 .add 28 1,qM 7 29]))
def ZA3:C:=.seq (oS [qM 45 11,qM 46 1,qB 47 .lss 45 46,qM 48 47,vM 49 0 48 true,vM 50 6 48 true,vM 51 10 48 true,vM 52 11 48 true,vG 53 75 50 51 52 48 true,vM 54 11 48 true,vG 55 74 49 53 54 48 true,vC 56 47 55 48 true,vU 57 56 48 true,qP 58 48 57] (cX 58 4)) (.block 5 (.ops [qM 59 11,qK 60 .add 59 1,qM 11 60]))
def ZA4:C:=.seq (oS [qM 35 9,qM 36 8,qN 37 36,qB 38 .lss 35 37] (cX 38 2)) (.seq (.block 3 (oS [qM 41 8,qM 42 9,qI 43 1 41 42,qL 44 43,qM 10 44] (oS [qW 11 0] (.seq (.block 4 (.loop [0,1,6,8,9,10,11] [0,1,6,8,9,10,11] ZA3)) (.seq (oS [qM 61 11,qM 62 1,qB 63 .geq 61 62] (oC 63 [ZhT 4 1,qW 5 161])) (.ops [qM 64 6,qM 65 10,qM 66 11,qG 67 75 64 65 66,qM 6 67])))))) (.ops [qM 39 9,qK 40 .add 39 1,qM 9 40]))
def ZOW:C:=oS [ZhT 4 1,qW 5 0] (.seq (oS [qM 12 0,qC 13 72 12,qU 14 13,qM 15 14,vM 16 1 15 false,vK 17 .lss 16 0 15 false,qJ 18 15 17,qM 19 18,vM 20 1 19 false,vK 21 .gtr 20 8 19 false,qJ 22 19 21] (oC 22 [ZhT 4 1,qW 5 160])) (oS [oB 23 (.bslice 1 [zD] 0 []),qM 6 23] (.seq (oS [qW 7 0] (.block 0 (.loop [0,1,6,7] [0,1,6] ZFn))) (oS [qM 33 0,qC 34 73 33,qM 8 34] (.seq (oS [qW 9 0] (.block 2 (.loop [0,1,6,8,9] [4,5,6] ZA4))) (oR [qM 68 6,qM 4 68,qW 5 0]))))))
def ZJU:FnI:=⟨2,ZOW,[(4,none),(5,none)]⟩
def ZFt:C:=.seq (oS [qM 11 5,qM 12 0,qN 13 12,qB 14 .lss 11 13] (cX 14 0)) (.seq (.block 1 (.seq (.draw [qM 17 0,uM 18 5 [0],qI 19 5 17 18,qA 20 5 19,uM 21 1 [0,1,2,3],uM 22 5 [0,1,2,3,4],uI 23 5 21 22 [0,1,2,3],uA 24 5 23 [0,1,2,3],oB 25 (.eqv [false,false,false,false,false] true (.t 20) (.t 24))]) (oC 25 [qff 4]))) (.ops [qM 15 5,qK 16 .add 15 1,qM 5 16]))
def ZOH:C:=oS [qff 4] (.seq (oS [qM 6 0,qN 7 6,qM 8 1,qN 9 8,qB 10 .neq 7 9] (oC 10 [qff 4])) (.seq (oS [qW 5 0] (.block 0 (.loop [0,1,5] [4] ZFt))) (oR [qtt 4])))
def ZJ0:FnI:=⟨2,ZOH,[(4,none)]⟩
def ZKL:C:=oS [qB 13 .lss 12 11] (.seq (cX 13 0) (.seq (.block 1 (oS [qM 14 12,qM 4 14] (.draw [qM 15 1,uM 16 4 [0],uF 17 0 2 [0,1],uL 18 17 [0,1],uM 19 4 [0,1,2,3],uI 20 5 18 19 [0,1],uA 21 5 20 [0,1],uF 22 1 2 [0,1,2,3,4,5,6],uL 23 22 [0,1,2,3,4,5,6],uM 24 4 [0,1,2,3,4,5,6,7,8],uI 25 1 23 24 [0,1,2,3,4,5,6],uL 26 25 [0,1,2,3,4,5,6],⟨some 27,.callv (.t 15) [.t 16,.t 21,.t 26],none,[],4⟩]))) (.ops [qK 28 .add 12 1,qM 12 28])))
def ZOf:C:=oS [qO 2 0] (oS [qF 5 0 2,qL 6 5,qN 7 6,qF 8 1 2,qL 9 8,qN 10 9,oB 11 (.mx false [.t 7,.t 10]),qW 12 0] (.block 0 (.loop [1,2,11,12] [] ZKL)))
def ZMS:FnI:=⟨2,ZOf,[]⟩
def ZNP:C:=oS [qO 6 1] (.ops [qL 8 3,qM 9 8,vA 10 5 6 9 true,vM 11 2 9 true,vL 12 4 9 true,vG 13 43 10 11 12 9 true,qP 14 9 13,qS 1 3 14])
def ZNH:FnI:=⟨5,ZNP,[]⟩
def ZKS:C:=oS [qB 19 .lss 18 17] (.seq (cX 19 0) (.seq (.block 1 (oS [qM 20 18,qI 21 1 16 18,qL 22 21,qM 9 20,qM 10 22] (oS [qM 23 10,qK 24 .lss 23 0,qM 25 24,vM 26 10 25 false,vM 27 2 25 false,vB 28 .geq 26 27 25 false,qJ 29 25 28,qM 30 29,vM 31 9 30 false,vK 32 .gtr 31 0 30 false,vM 33 32 30 false,vM 34 1 33 true,vM 35 9 33 true,vK 36 .sub 35 1 33 true,vI 37 1 34 36 33 true,vL 38 37 33 true,vM 39 10 33 true,vB 40 .geq 38 39 33 true,oG 41 (.pick (.t 33) (.t 40) bF) 30 false,qJ 42 30 41] (oC 42 [qff 6])))) (.ops [qK 43 .add 18 1,qM 18 43])))
def ZNV:C:=oS [qO 3 0,qff 6] (oS [qA 12 5 3,qC 13 27 12,qM 11 13,qE 14 11 0,qE 15 11 1,qM 7 14,qM 8 15] (.seq (oS [qM 16 1,qN 17 16,qW 18 0] (.block 0 (.loop [1,2,7,8,16,17,18] [1,6,7,8] ZKS))) (oR [qM 44 8,qK 45 .eql 44 0,qM 46 45,vM 47 1 46 true,vN 48 47 46 true,vM 49 7 46 true,vB 50 .eql 48 49 46 true,qP 51 46 50,qM 6 51])))
def ZM3:FnI:=⟨3,ZNV,[(6,none)]⟩
def ZPe:C:=oS [qO 7 1] (.block 0 (oS [qM 14 2,qL 15 3,qD 16 45 14 15,qU 17 16,qM 13 17] (cY 13 .skip (oS [qA 19 5 7,qC 20 28 19,qM 18 20] (cY 18 (.ops [qL 21 4,qK 22 .add 21 1,qS 1 4 22]) (.ops [qL 9 5,qA 10 5 7,oB 11 (.bslice 5 [zD,zD,zD,zD,zD] 1 [(0,(.t 10))]),oB 12 (.append 5 (.t 9) (.t 11)),qS 1 5 12]))))))
def ZNg:FnI:=⟨6,ZPe,[]⟩
def ZNL:C:=oS [qff 4] (oR [qM 5 0,qM 6 1,qD 7 76 5 6,qK 8 .geq 7 0,qM 4 8])
def ZKW:FnI:=⟨2,ZNL,[(4,none)]⟩
def ZFE:C:=.seq (oS [qM 17 5,qM 18 0,qC 19 77 18,qB 20 .leq 17 19] (cX 20 2)) (.seq (.block 3 (oS [qM 25 0,qM 26 5,qD 27 62 25 26,qM 28 0,qM 29 5,qD 30 63 28 29,qB 31 .add 27 30,qM 32 5,qB 33 .gtr 31 32] (oC 33 [qff 2]))) (.ops [qM 21 5,qF 22 4 4,qL 23 22,qB 24 .add 21 23,qM 5 24]))
def ZH4:C:=oS [qB 12 .lss 11 10] (.seq (cX 12 0) (.seq (.block 1 (oS [qI 13 5 9 11,qA 14 5 13,oB 4 (.alloc (.d (.agg [zD,zD,zD,zD,zD]))),qS 5 4 14] (oS [qF 15 3 4,qL 16 15,qM 5 16] (.block 2 (.loop [0,4,5,9,10,11] [0,2,9,10,11] ZFE))))) (.ops [qK 34 .add 11 1,qM 11 34])))
def ZN2:C:=oS [qff 2] (.seq (oS [qM 6 0,qC 7 64 6,qK 8 .neq 7 0] (oC 8 [qff 2])) (.seq (oS [qM 9 0,qN 10 9,qW 11 0] (.block 0 (.loop [0,9,10,11] [2] ZH4))) (oR [qtt 2])))
def ZKX:FnI:=⟨1,ZN2,[(2,none)]⟩
def ZHP:C:=.seq (oS [qM 8 3,qM 9 0,qC 10 78 9,qB 11 .leq 8 10] (cX 11 0)) (.seq (.block 1 (oS [qM 14 0,qM 15 3,qD 16 79 14 15,qM 4 16] (oS [qM 17 4,qK 18 .gtr 17 0,qM 19 18,vM 20 4 19 true,vM 21 0 19 true,vM 22 3 19 true,vD 23 80 21 22 19 true,vB 24 .add 20 23 19 true,vM 25 3 19 true,vB 26 .gtr 24 25 19 true,qP 27 19 26] (oC 27 [qff 2])))) (.ops [qM 12 3,qK 13 .add 12 1,qM 3 13]))
def ZNT:C:=oS [qff 2] (.seq (oS [qM 5 0,qC 6 72 5,qU 7 6] (oC 7 [qff 2])) (.seq (oS [qW 3 1] (.block 0 (.loop [0,3] [2] ZHP))) (oR [qtt 2])))
def ZJ6:FnI:=⟨1,ZNT,[(2,none)]⟩
def ZNR:C:=oS [qO 6 1] (oS [qL 8 3,qK 9 .lss 8 0,qM 10 9,vA 11 5 6 10 true,vC 12 28 11 10 true,qP 13 10 12,qM 14 13,vM 15 2 14 true,vL 16 4 14 true,vD 17 45 15 16 14 true,qP 18 14 17] (cY 18 (.ops [qM 19 0,qS 1 3 19]) .skip))
def ZM4:FnI:=⟨5,ZNR,[]⟩
def ZOk:C:=oS [qO 1 0,qff 2] (oS [qF 6 4 1,qL 7 6,qC 8 81 7,qM 5 8,qE 9 5 0,qE 10 5 1,qM 3 9,qM 4 10] (oR [qM 11 4,qM 12 11,vF 13 4 1 12 true,vL 14 13 12 true,vK 15 .leq 14 4096 12 true,qP 16 12 15,qM 17 16,vF 18 3 1 17 true,vL 19 18 17 true,vK 20 .geq 19 1 17 true,qP 21 17 20,qM 22 21,vF 23 3 1 22 true,vL 24 23 22 true,vF 25 4 1 22 true,vL 26 25 22 true,vB 27 .leq 24 26 22 true,qP 28 22 27,qM 29 28,vF 30 0 1 29 true,vL 31 30 29 true,vK 32 .geq 31 1 29 true,qP 33 29 32,qM 34 33,vF 35 0 1 34 true,vL 36 35 34 true,vK 37 .leq 36 4096 34 true,qP 38 34 37,qM 39 38,vF 40 1 1 39 true,vL 41 40 39 true,vK 42 .geq 41 1 39 true,qP 43 39 42,qM 44 43,vF 45 1 1 44 true,vL 46 45 44 true,vF 47 0 1 44 true,vL 48 47 44 true,vB 49 .leq 46 48 44 true,qP 50 44 49,qM 51 50,vF 52 2 1 51 true,vL 53 52 51 true,vK 54 .geq 53 1 51 true,qP 55 51 54,qM 56 55,vF 57 2 1 56 true,vL 58 57 56 true,vF 59 1 1 56 true,vL 60 59 56 true,vB 61 .leq 58 60 56 true,qP 62 56 61,qM 2 62]))
def ZLF:FnI:=⟨1,ZOk,[(2,none)]⟩
def ZOO:C:=oS [qO 6 1] (oS [qA 8 5 6,qC 9 51 8,qK 10 .eql 9 0,qM 11 10,vA 12 5 6 11 true,vC 13 28 12 11 true,vU 14 13 11 true,qP 15 11 14,qM 16 15,vM 17 2 16 true,vL 18 3 16 true,vD 19 45 17 18 16 true,qP 20 16 19] (cY 20 (.ops [qL 21 4,qM 22 0,qH 23 22,qY 24 21 23,qS 1 4 24]) .skip))
def ZNF:FnI:=⟨5,ZOO,[]⟩
def ZOa:C:=oS [qO 1 0,qW 2 0] (oS [qF 7 4 1,qL 8 7,qC 9 82 8,qM 6 9,qE 10 6 0,qE 11 6 1,qM 3 10,qM 4 11] (oS [oB 5 (.mov (.c (.d (.fn 83 []))))] (.seq (oS [qM 12 4,qU 13 12,qM 14 13,vF 15 4 1 14 false,vL 16 15 14 false,vK 17 .gtr 16 4096 14 false,qJ 18 14 17,qM 19 18,vM 20 5 19 false,vF 21 3 1 19 false,vL 22 21 19 false,vF 23 4 1 19 false,vL 24 23 19 false,oG 25 (.callv (.t 20) [.t 22,.t 24]) 19 false,vU 26 25 19 false,qJ 27 19 26,qM 28 27,vM 29 5 28 false,vF 30 0 1 28 false,vL 31 30 28 false,oG 32 (.callv (.t 29) [.t 31,(iN 4096)]) 28 false,vU 33 32 28 false,qJ 34 28 33,qM 35 34,vM 36 5 35 false,vF 37 1 1 35 false,vL 38 37 35 false,vF 39 0 1 35 false,vL 40 39 35 false,oG 41 (.callv (.t 36) [.t 38,.t 40]) 35 false,vU 42 41 35 false,qJ 43 35 42,qM 44 43,vM 45 5 44 false,vF 46 2 1 44 false,vL 47 46 44 false,vF 48 1 1 44 false,vL 49 48 44 false,oG 50 (.callv (.t 45) [.t 47,.t 49]) 44 false,vU 51 50 44 false,qJ 52 44 51] (oC 52 [qW 2 140])) (oR [qW 2 0]))))
def ZKU:FnI:=⟨1,ZOa,[(2,none)]⟩
def ZKA:C:=oS [qB 14 .lss 13 12] (.seq (cX 14 0) (.seq (.block 1 (oS [qM 15 13,qM 5 15] (.seq (.draw [qM 16 0,uM 17 5 [0],qI 18 5 16 17,qA 19 5 18,uM 20 1 [0,1,2,3],uM 21 5 [0,1,2,3,4],uI 22 5 20 21 [0,1,2,3],uA 23 5 22 [0,1,2,3],oB 24 (.eqv [false,false,false,false,false] true (.t 19) (.t 23))]) (oC 24 [qff 4])))) (.ops [qK 25 .add 13 1,qM 13 25])))
def ZNN:C:=oS [qff 4] (.seq (oS [qM 6 0,qN 7 6,qM 8 1,qN 9 8,qB 10 .neq 7 9] (oC 10 [qff 4])) (.seq (oS [qM 11 0,qN 12 11,qW 13 0] (.block 0 (.loop [0,1,12,13] [4] ZKA))) (oR [qtt 4])))
def ZNy:FnI:=⟨2,ZNN,[(4,none)]⟩
def ZKn:C:=oS [qB 18 .lss 17 16] (.seq (cX 18 0) (.seq (.block 1 (oS [qM 19 17,qI 20 1 15 17,qL 21 20,qM 7 19,qM 8 21] (oS [qM 22 1,qM 23 7,qI 24 1 22 23,qL 25 24,qM 9 25] (oS [qM 26 2,qM 27 8,qM 28 9,oB 29 (.callv (.t 26) [.t 27,.t 28]),qU 30 29] (oC 30 [qff 6]))))) (.ops [qK 31 .add 17 1,qM 17 31])))
def ZOc:C:=oS [qff 6] (.seq (oS [qM 10 0,qN 11 10,qM 12 1,qN 13 12,qB 14 .neq 11 13] (oC 14 [qff 6])) (.seq (oS [qM 15 0,qN 16 15,qW 17 0] (.block 0 (.loop [1,2,15,16,17] [6] ZKn))) (oR [qtt 6])))
def ZNE:FnI:=⟨3,ZOc,[(6,none)]⟩
def ZJ7:C:=oS [qB 14 .lss 13 12] (.seq (cX 14 0) (.seq (.block 1 (oS [qM 15 13,qM 5 15] (.seq (.draw [qM 16 0,uM 17 5 [0],qI 18 1 16 17,qL 19 18,uM 20 1 [0,1,2,3],uM 21 5 [0,1,2,3,4],uI 22 1 20 21 [0,1,2,3],uL 23 22 [0,1,2,3],qB 24 .neq 19 23]) (oC 24 [qff 4])))) (.ops [qK 25 .add 13 1,qM 13 25])))
def ZN5:C:=oS [qff 4] (.seq (oS [qM 6 0,qN 7 6,qM 8 1,qN 9 8,qB 10 .neq 7 9] (oC 10 [qff 4])) (.seq (oS [qM 11 0,qN 12 11,qW 13 0] (.block 0 (.loop [0,1,12,13] [4] ZJ7))) (oR [qtt 4])))
def ZMA:FnI:=⟨2,ZN5,[(4,none)]⟩
def ZEv:C:=oS [qB 33 .lss 32 31] (.seq (cX 33 0) (.seq (.block 1 (oS [qM 34 32,qM 6 34] (.ops [qM 35 5,qA 36 6 1,qM 37 6,qG 38 85 35 36 37]))) (.ops [qK 39 .add 32 1,qM 32 39])))
def ZFY:C:=oS [qB 44 .lss 43 42] (.seq (cX 44 2) (.seq (.block 3 (oS [qI 45 2 41 43,qA 46 2 45,oB 8 (.alloc (.d (.agg [zD,zD]))),qS 2 8 46] (.draw [qM 47 5,uM 48 5 [0],uZ 49 48 [0],uF 50 4 49 [0],uL 51 50 [0],uF 52 0 8 [0,1,2,3,4],uL 53 52 [0,1,2,3,4],oM 54 (.mapget [false] (.int .i64 0) (.t 51) (.t 53)) [0],uM 55 5 [0,1,2,3,4,5,6,7],uZ 56 55 [0,1,2,3,4,5,6,7],uF 57 3 56 [0,1,2,3,4,5,6,7],uL 58 57 [0,1,2,3,4,5,6,7],uF 59 1 8 [0,1,2,3,4,5,6,7,8,9,10,11],uL 60 59 [0,1,2,3,4,5,6,7,8,9,10,11],oM 61 (.mapget [false] (.int .i64 0) (.t 58) (.t 60)) [0,1,2,3,4,5,6,7],⟨some 62,.call 86 [.t 47,.t 54,.t 61],none,[],4⟩]))) (.ops [qK 63 .add 43 1,qM 43 63])))
def ZHh:C:=oS [qB 68 .lss 67 66] (.seq (cX 68 4) (.seq (.block 5 (oS [qI 69 3 65 67,qA 70 3 69,oB 10 (.alloc (.d (.agg [zD,zD,zD]))),qS 3 10 70] (.draw [qM 71 5,uM 72 5 [0],uZ 73 72 [0],uF 74 4 73 [0],uL 75 74 [0],uF 76 0 10 [0,1,2,3,4],uL 77 76 [0,1,2,3,4],oM 78 (.mapget [false] (.int .i64 0) (.t 75) (.t 77)) [0],uM 79 5 [0,1,2,3,4,5,6,7],uZ 80 79 [0,1,2,3,4,5,6,7],uF 81 5 80 [0,1,2,3,4,5,6,7],uL 82 81 [0,1,2,3,4,5,6,7],uA 83 3 10 [0,1,2,3,4,5,6,7,8,9,10,11],oM 84 (.mapget [false,false,false] (.int .i64 0) (.t 82) (.t 83)) [0,1,2,3,4,5,6,7],⟨some 85,.call 86 [.t 71,.t 78,.t 84],none,[],4⟩]))) (.ops [qK 86 .add 67 1,qM 67 86])))
def ZGM:C:=oS [qB 103 .lss 102 101] (.seq (cX 103 8) (.seq (.block 9 (oS [qI 104 1 100 102,qL 105 104,qM 15 105] (.ops [qM 106 5,qM 107 5,qZ 108 107,qF 109 4 108,qL 110 109,qM 111 15,oB 112 (.mapget [false] (.int .i64 0) (.t 110) (.t 111)),qM 113 13,qG 114 86 106 112 113]))) (.ops [qK 115 .add 102 1,qM 102 115])))
def ZHd:C:=oS [qB 120 .lss 119 118] (.seq (cX 120 10) (.seq (.block 11 (oS [qI 121 1 117 119,qL 122 121,qM 17 122] (.ops [qM 123 5,qM 124 13,qM 125 5,qZ 126 125,qF 127 3 126,qL 128 127,qM 129 17,oB 130 (.mapget [false] (.int .i64 0) (.t 128) (.t 129)),qG 131 86 123 124 130]))) (.ops [qK 132 .add 119 1,qM 119 132])))
def ZHs:C:=oS [qB 91 .lss 90 89] (.seq (cX 91 6) (.seq (.block 7 (oS [qM 92 90,qI 93 2 88 90,qA 94 2 93,oB 12 (.alloc (.agg Lz5)),qM 11 92,qS 2 12 94] (oS [qM 95 5,qM 96 11,oB 97 (.build Lz1 [(0,1,(iN (-1))),(1,1,(.t 96))]),oB 98 (.call 87 [.t 95,.t 97,(iN 1)]),qM 13 98] (.seq (oS [qF 99 0 12,qL 100 99,qN 101 100,qW 102 0] (.block 8 (.loop [2,5,12,13,88,89,90,100,101,102] [2,5,12,13,88,89,90] ZGM))) (oS [qF 116 1 12,qL 117 116,qN 118 117,qW 119 0] (.block 10 (.loop [2,5,13,88,89,90,117,118,119] [2,5,88,89,90] ZHd))))))) (.ops [qK 133 .add 90 1,qM 90 133])))
def ZOI:C:=oS [qO 1 0,oB 2 (.alloc (.agg Lz2)),qW 3 0] (.seq (oS [qA 18 6 1,qC 19 84 18,qM 4 19] (oS [qM 20 4,qK 21 .neq 20 0] (oC 21 [oB 22 (.build Lz2 []),qM 23 4,qS 3 2 22,qM 3 23]))) (oS [oB 24 .mkmap,oB 25 .mkmap,oB 26 .mkmap,oB 27 (.build [(.nilsl 1),(.nilsl 2),(.nilsl 2),.bad,.bad,.bad] [(3,1,(.t 24)),(4,1,(.t 25)),(5,1,(.t 26))]),qO 28 27,qM 5 28] (.seq (oS [qF 29 2 1,qL 30 29,qN 31 30,qW 32 0] (.block 0 (.loop [1,2,5,31,32] [1,2,5] ZEv))) (.seq (oS [qF 40 3 1,qL 41 40,qN 42 41,qW 43 0] (.block 2 (.loop [1,2,5,41,42,43] [1,2,5] ZFY))) (.seq (oS [qF 64 4 1,qL 65 64,qN 66 65,qW 67 0] (.block 4 (.loop [1,2,5,65,66,67] [1,2,5] ZHh))) (.seq (oS [qF 87 5 1,qL 88 87,qN 89 88,qW 90 0] (.block 6 (.loop [2,5,88,89,90] [2,5] ZHs))) (.seq (oS [qM 134 5,qZ 135 134,qF 136 0 135,qF 137 0 136,qA 138 2 137,qC 139 88 138,qK 140 .neq 139 0] (oC 140 [oB 141 (.build Lz2 []),qS 3 2 141,qW 3 70])) (oR [qM 142 5,qZ 143 142,qF 144 0 143,qA 145 3 144,qS 3 2 145,qW 3 0]))))))))
def ZKv:FnI:=⟨1,ZOI,[(2,some (3,true)),(3,none)]⟩
def ZFJ:C:=oS [qB 13 .lss 12 11] (.seq (cX 13 0) (.seq (.block 1 (oS [qI 14 1 10 12,qL 15 14,qM 5 15] (.ops [qM 16 3,qM 17 5,qB 18 .add 16 17,qM 3 18]))) (.ops [qK 19 .add 12 1,qM 12 19])))
def ZOu:C:=oS [qO 1 0,qW 2 0] (oS [qW 3 0] (.seq (oS [qA 6 2 1,qC 7 88 6,qK 8 .eql 7 0] (cY 8 (oS [qF 9 0 1,qL 10 9,qN 11 10,qW 12 0] (.block 0 (.loop [3,10,11,12] [3] ZFJ))) .skip)) (oR [qM 20 3,qM 2 20])))
def ZKV:FnI:=⟨1,ZOu,[(2,none)]⟩
def ZFW:C:=oS [qB 25 .lss 24 23] (.seq (cX 25 2) (.seq (.block 3 (oS [qI 26 1 22 24,qL 27 26,qM 8 27] (.draw [qM 28 3,uM 29 6 [0],uM 30 3 [0,1],uM 31 6 [0,1,2],uI 32 1 30 31 [0,1],uL 33 32 [0,1],uM 34 3 [0,1,2,3,4,5],uM 35 8 [0,1,2,3,4,5,6],uI 36 1 34 35 [0,1,2,3,4,5],uL 37 36 [0,1,2,3,4,5],oM 38 (.mx true [.t 33,.t 37]) [0,1],qI 39 1 28 29,qX 1 39 38 4]))) (.ops [qK 40 .add 24 1,qM 24 40])))
def ZGD:C:=oS [qB 17 .lss 16 15] (.seq (cX 17 0) (.seq (.block 1 (oS [qI 18 1 14 16,qL 19 18,qM 6 19] (.seq (oS [qA 20 2 1,qM 21 6,qD 22 90 20 21,qN 23 22,qW 24 0] (.block 2 (.loop [1,3,4,6,14,15,16,22,23,24] [1,3,4,6,14,15,16] ZFW))) (.seq (.draw [qM 41 3,uM 42 6 [0],qI 43 1 41 42,qL 44 43,uF 45 0 1 [0,1,2,3],uL 46 45 [0,1,2,3],uM 47 6 [0,1,2,3,4,5],uI 48 1 46 47 [0,1,2,3],uL 49 48 [0,1,2,3],qB 50 .add 44 49,qI 51 1 41 42,qX 1 51 50 4]) (.ops [qM 52 4,qM 53 3,qM 54 6,qI 55 1 53 54,qL 56 55,oB 57 (.mx true [.t 52,.t 56]),qM 4 57]))))) (.ops [qK 58 .add 16 1,qM 16 58])))
def ZOd:C:=oS [qO 1 0,qW 2 0] (oS [qF 9 0 1,qL 10 9,qN 11 10,oB 12 (.mkslice 1 [zD] (.t 11) (.t 11)),qM 3 12] (oS [qW 4 0] (.seq (oS [qA 13 2 1,qC 14 89 13,qN 15 14,qW 16 0] (.block 0 (.loop [1,3,4,14,15,16] [4] ZGD))) (oR [qM 59 4,qM 2 59]))))
def ZLt:FnI:=⟨1,ZOd,[(2,none)]⟩
def ZGT:C:=.seq (oS [qM 12 4,qM 13 0,qN 14 13,qB 15 .lss 12 14] (cX 15 0)) (.seq (.block 1 (.ops [qM 18 3,qM 19 0,qM 20 4,qI 21 1 19 20,qL 22 21,oB 23 (.mx true [.t 18,.t 22]),qM 3 23])) (.ops [qM 16 4,qK 17 .add 16 1,qM 4 17]))
def ZN4:C:=oS [qW 2 0] (.seq (oS [qM 5 0,qN 6 5,qK 7 .lss 6 1] (cY 7 (.ops [oB 8 (.mkif 9 (.c (.d (.str ⟨#[115,108,105,99,101,115,46,77,97,120,58,32,101,109,112,116,121,32,108,105,115,116]⟩)))),oA (.panic)]) .skip)) (oS [qM 9 0,oB 10 (.iaddr 1 (.t 9) (iN 0)),qL 11 10,qM 3 11] (.seq (oS [qW 4 1] (.block 0 (.loop [0,3,4] [3] ZGT))) (oR [qM 24 3,qM 2 24]))))
def ZKu:FnI:=⟨1,ZN4,[(2,none)]⟩
def ZOQ:C:=oS [qO 1 0,oB 2 (.mov (.c (.d (.nilI))))] (.seq (oS [qF 3 0 1,qL 4 3,qF 5 3 1,qL 6 5,qB 7 .gtr 4 6] (oC 7 [qA 8 5 1,oB 9 (.build Lz4 [(0,5,(.t 8))]),oB 10 (.mkif 128 (.t 9)),qM 2 10])) (oR [qA 11 5 1,oB 12 (.build Lz4 [(0,5,(.t 11))]),oB 13 (.mkif 97 (.t 12)),qM 2 13]))
def ZKf:FnI:=⟨1,ZOQ,[(2,none)]⟩
def ZN1:C:=oS [qO 1 0,oB 2 (.alloc (.d (.agg [zD,zD])))] (oR [oB 3 (.build Lz1 [(0,1,(iN 1))]),qS 2 2 3])
def ZJZ:FnI:=⟨1,ZN1,[(2,some (2,true))]⟩
def ZOs:C:=oS [qO 3 1,qW 4 0] (oR [qM 5 0,oB 6 (.mkfn 92 [.t 3]),qD 7 91 5 6,qM 4 7])
def ZKw:FnI:=⟨2,ZOs,[(4,none)]⟩
def ZOR:C:=oS [qO 3 1,qW 4 0] (oR [qM 5 0,oB 6 (.mkfn 93 [.t 3]),qD 7 91 5 6,qM 4 7])
def ZK0:FnI:=⟨2,ZOR,[(4,none)]⟩
def ZN3:C:=oS [qW 2 0] (oS [oB 3 (.mov (.c (.d (.fn 94 []))))] (.seq (oS [qM 4 0,qN 5 4,qK 6 .gtr 5 8,qM 7 6,vM 8 0 7 false,vM 9 3 7 false,vD 10 95 8 9 7 false,qJ 11 7 10] (oC 11 [qW 2 150])) (oR [qW 2 0])))
def ZKE:FnI:=⟨1,ZN3,[(2,none)]⟩
def ZOe:C:=oS [qff 2] (oR [qM 3 0,qK 4 .geq 3 0,qM 5 4,vM 6 0 5 true,vK 7 .leq 6 8 5 true,qP 8 5 7,qM 2 8])
def ZLG:FnI:=⟨1,ZOe,[(2,none)]⟩
def ZGz:C:=oS [qB 8 .lss 7 6] (.seq (cX 8 0) (.seq (.block 1 (oS [qM 9 7,qM 4 9] (.ops [qM 10 3,qM 11 4,qH 12 11,qY 13 10 12,qM 3 13]))) (.ops [qK 14 .add 7 1,qM 7 14])))
def ZNM:C:=oS [qO 1 0,ZhT 2 1] (oS [ZhT 3 1] (.seq (oS [qL 5 1,qN 6 5,qW 7 0] (.block 0 (.loop [1,3,6,7] [1,3] ZGz))) (oS [qM 15 3,oB 16 (.mkfn 97 [.t 1]),qD 17 96 15 16] (oR [qM 18 3,qM 2 18]))))
def ZKP:FnI:=⟨1,ZNM,[(2,none)]⟩
def ZNU:C:=oS [qff 5] (oS [qL 6 1,qL 7 2,qM 8 0,qI 9 1 6 7,qS 1 9 8] (oR [qL 10 3,qL 11 1,qM 12 0,qG 13 68 10 11 12,qC 14 46 13,qM 5 14]))
def ZKD:FnI:=⟨4,ZNU,[(5,none)]⟩
def ZE8:C:=oS [qB 13 .lss 12 11] (.seq (cX 13 0) (.seq (.block 1 (oS [qM 14 12,qI 15 5 10 12,qA 16 5 15,oB 9 (.alloc (.d (.agg [zD,zD,zD,zD,zD]))),qM 8 14,qS 5 9 16] (oS [qM 17 8,qM 18 1,qN 19 18,qB 20 .lss 17 19,qM 21 20,vM 22 1 21 true,vM 23 8 21 true,vI 24 1 22 23 21 true,vL 25 24 21 true,vM 26 2 21 true,vB 27 .eql 25 26 21 true,qP 28 21 27] (cY 28 (.ops [qM 29 7,qA 30 5 9,oB 31 (.bslice 5 [zD,zD,zD,zD,zD] 1 [(0,(.t 30))]),oB 32 (.append 5 (.t 29) (.t 31)),qM 7 32]) .skip)))) (.ops [qK 33 .add 12 1,qM 12 33])))
def ZO0:C:=oS [ZhT 6 5] (oS [ZhT 7 5] (.seq (oS [qM 10 0,qN 11 10,qW 12 0] (.block 0 (.loop [1,2,7,10,11,12] [7] ZE8))) (oR [qM 34 7,qM 6 34])))
def ZJ4:FnI:=⟨3,ZO0,[(6,none)]⟩
def ZO1:C:=oS [qO 1 0,oB 2 (.alloc (.agg Lz2)),qW 3 0] (oS [qA 6 6 1,qC 7 98 6,qM 4 7] (.seq (oS [qM 8 4,qK 9 .neq 8 0] (oC 9 [oB 10 (.build Lz2 []),qM 11 4,qS 3 2 10,qM 3 11])) (oS [qA 12 6 1,qC 13 99 12,oB 5 (.alloc (.agg Lz2)),qS 3 5 13] (.seq (oS [qF 14 0 5,qA 15 2 14,qC 16 100 15,qK 17 .neq 16 0] (oC 17 [oB 18 (.build Lz2 []),qS 3 2 18,qW 3 70])) (oR [qA 19 3 5,qS 3 2 19,qW 3 0])))))
def ZLq:FnI:=⟨1,ZO1,[(2,some (3,true)),(3,none)]⟩
def ZFk:C:=.seq (oS [qM 5 4,qF 6 0 1,qL 7 6,qN 8 7,qB 9 .lss 5 8] (cX 9 0)) (.seq (.block 1 (.ops [qM 12 3,qF 13 0 1,qL 14 13,qM 15 4,qI 16 1 14 15,qL 17 16,qB 18 .add 12 17,qM 3 18])) (.ops [qM 10 4,qK 11 .add 10 1,qM 4 11]))
def ZPa:C:=oS [qO 1 0,qW 2 0] (oS [qW 3 0] (.seq (oS [qW 4 0] (.block 0 (.loop [1,3,4] [3] ZFk))) (oR [qM 19 3,qM 2 19])))
def ZLg:FnI:=⟨1,ZPa,[(2,none)]⟩
def ZGZ:C:=.seq (oS [qM 20 5,qF 21 1 1,qL 22 21,qN 23 22,qB 24 .lss 20 23] (cX 24 2)) (.seq (.block 3 (oS [qF 27 1 1,qL 28 27,qM 29 5,qI 30 2 28 29,qA 31 2 30,oB 6 (.alloc (.d (.agg [zD,zD]))),qS 2 6 31] (.seq (.draw [qM 32 3,uF 33 0 6 [0],uL 34 33 [0],qI 35 1 32 34,qL 36 35,uF 37 0 1 [0,1,2,3,4],uL 38 37 [0,1,2,3,4],uF 39 1 6 [0,1,2,3,4,5,6],uL 40 39 [0,1,2,3,4,5,6],uI 41 1 38 40 [0,1,2,3,4],uL 42 41 [0,1,2,3,4],qB 43 .add 36 42,uM 44 3 [0,1,2,3,4,5,6,7,8,9,10,11],uF 45 1 6 [0,1,2,3,4,5,6,7,8,9,10,11,12],uL 46 45 [0,1,2,3,4,5,6,7,8,9,10,11,12],uI 47 1 44 46 [0,1,2,3,4,5,6,7,8,9,10,11],uL 48 47 [0,1,2,3,4,5,6,7,8,9,10,11],qB 49 .gtr 43 48]) (cY 49 (.draw [qM 50 3,uF 51 1 6 [0],uL 52 51 [0],uM 53 3 [0,1,2],uF 54 0 6 [0,1,2,3],uL 55 54 [0,1,2,3],uI 56 1 53 55 [0,1,2],uL 57 56 [0,1,2],uF 58 0 1 [0,1,2,3,4,5,6,7],uL 59 58 [0,1,2,3,4,5,6,7],uF 60 1 6 [0,1,2,3,4,5,6,7,8,9],uL 61 60 [0,1,2,3,4,5,6,7,8,9],uI 62 1 59 61 [0,1,2,3,4,5,6,7],uL 63 62 [0,1,2,3,4,5,6,7],oM 64 (.bin .add (.t 57) (.t 63)) [0,1,2],qI 65 1 50 52,qX 1 65 64 4]) .skip)))) (.ops [qM 25 5,qK 26 .add 25 1,qM 5 26]))
def ZHU:C:=.seq (oS [qM 13 4,qF 14 0 1,qL 15 14,qN 16 15,qB 17 .lss 13 16] (cX 17 0)) (.seq (.block 1 (oS [qW 5 0] (.block 2 (.loop [1,3,4,5] [1,3,4] ZGZ)))) (.ops [qM 18 4,qK 19 .add 18 1,qM 4 19]))
def ZEH:C:=.seq (oS [qM 66 8,qM 67 3,qN 68 67,qB 69 .lss 66 68] (cX 69 4)) (.seq (.block 5 (.ops [qM 72 7,qM 73 3,qM 74 8,qI 75 1 73 74,qL 76 75,oB 77 (.mx true [.t 72,.t 76]),qM 7 77])) (.ops [qM 70 8,qK 71 .add 70 1,qM 8 71]))
def ZON:C:=oS [qO 1 0,qW 2 0] (oS [oB 9 (.bslice 1 [zD] 0 []),qF 10 0 1,qL 11 10,qY 12 9 11,qM 3 12] (.seq (oS [qW 4 0] (.block 0 (.loop [1,3,4] [3] ZHU))) (oS [qW 7 0] (.seq (oS [qW 8 0] (.block 4 (.loop [3,7,8] [7] ZEH))) (oR [qM 78 7,qM 2 78])))))
def ZK1:FnI:=⟨1,ZON,[(2,none)]⟩
def ZGu:C:=.seq (oS [qM 4 3,qM 5 0,qN 6 5,qB 7 .lss 4 6] (cX 7 0)) (.seq (.block 1 (.seq (.draw [qM 10 0,uM 11 3 [0],qI 12 5 10 11,qA 13 5 12,qC 14 49 13,qU 15 14,qM 16 15,vM 17 0 16 false,wM 18 3 16 false [7],vI 19 5 17 18 16 false,vF 20 0 19 16 false,vL 21 20 16 false,wM 22 0 16 false [7,8,9,10,11],wM 23 3 16 false [7,8,9,10,11,12],wI 24 5 22 23 16 false [7,8,9,10,11],wF 25 3 24 16 false [7,8,9,10,11],wL 26 25 16 false [7,8,9,10,11],vB 27 .gtr 21 26 16 false,qJ 28 16 27]) (oC 28 [qff 2]))) (.ops [qM 8 3,qK 9 .add 8 1,qM 3 9]))
def ZN6:C:=oS [qff 2] (.seq (oS [qW 3 0] (.block 0 (.loop [0,3] [0,2] ZGu))) (oR [qM 29 0,qN 30 29,qK 31 .leq 30 8,qM 2 31]))
def ZJV:FnI:=⟨1,ZN6,[(2,none)]⟩
def ZHB:C:=.seq (oS [qM 14 6,qM 15 0,qN 16 15,qB 17 .lss 14 16] (cX 17 2)) (.seq (.block 3 (.seq (.draw [qM 20 3,uM 21 6 [0],qD 22 29 20 21,qU 23 22,qM 24 23,vM 25 5 24 true,vK 26 .lss 25 0 24 true,vM 27 26 24 true,vM 28 0 27 false,wM 29 6 27 false [8],vI 30 5 28 29 27 false,vF 31 0 30 27 false,vL 32 31 27 false,wM 33 0 27 false [8,9,10,11,12],wM 34 5 27 false [8,9,10,11,12,13],wI 35 5 33 34 27 false [8,9,10,11,12],wF 36 0 35 27 false [8,9,10,11,12],wL 37 36 27 false [8,9,10,11,12],vB 38 .gtr 32 37 27 false,vJ 39 27 38 24 true,qP 40 24 39]) (cY 40 (.ops [qM 41 6,qM 5 41]) .skip))) (.ops [qM 18 6,qK 19 .add 18 1,qM 6 19]))
def ZFu:C:=.seq (oS [qM 8 4,qM 9 0,qN 10 9,qB 11 .lss 8 10] (cX 11 0)) (.seq (.block 1 (oS [qW 5 (-1)] (.seq (oS [qW 6 0] (.block 2 (.loop [0,3,4,5,6] [0,3,4,5] ZHB))) (.ops [qM 42 3,qM 43 5,qH 44 43,qY 45 42 44,qM 3 45])))) (.ops [qM 12 4,qK 13 .add 12 1,qM 4 13]))
def ZOA:C:=oS [ZhT 2 1] (oS [oB 7 (.bslice 1 [zD] 0 []),qM 3 7] (.seq (oS [qW 4 0] (.block 0 (.loop [0,3,4] [3] ZFu))) (oR [qM 46 3,qM 2 46])))
def ZKk:FnI:=⟨1,ZOA,[(2,none)]⟩
def ZFF:C:=.seq (oS [qM 10 8,qM 11 0,qN 12 11,qB 13 .lss 10 12,qM 14 13,vM 15 8 14 true,vM 16 1 14 true,vN 17 16 14 true,vB 18 .lss 15 17 14 true,qP 19 14 18] (cX 19 0)) (.seq (.block 1 (oS [qM 22 1,qM 23 8,qI 24 1 22 23,qL 25 24,qM 26 2,qB 27 .eql 25 26] (cY 27 (.ops [qM 28 7,qM 29 0,qM 30 8,qI 31 5 29 30,qA 32 5 31,oB 33 (.bslice 5 [zD,zD,zD,zD,zD] 1 [(0,(.t 32))]),oB 34 (.append 5 (.t 28) (.t 33)),qM 7 34]) .skip))) (.ops [qM 20 8,qK 21 .add 20 1,qM 8 21]))
def ZNX:C:=oS [ZhT 6 5] (oS [oB 9 (.bslice 5 [zD,zD,zD,zD,zD] 0 []),qM 7 9] (.seq (oS [qW 8 0] (.block 0 (.loop [0,1,2,7,8] [7] ZFF))) (oR [qM 35 7,qM 6 35])))
def ZK5:FnI:=⟨3,ZNX,[(6,none)]⟩
def ZOi:C:=oS [ZhT 6 1] (oS [oB 8 (.bslice 1 [zD] 0 []),qM 9 0,qY 10 8 9,qM 7 10] (oS [qM 11 7,qM 12 1,qM 13 2,qI 14 1 11 12,qS 1 14 13] (oR [qM 15 7,qM 6 15])))
def ZKG:FnI:=⟨3,ZOi,[(6,none)]⟩
def ZGy:C:=oS [qB 9 .lss 8 7] (.seq (cX 9 0) (.seq (.block 1 (oS [qM 10 8,qM 5 10] (oS [qM 11 1,qM 12 0,qM 13 5,qI 14 1 12 13,qL 15 14,qB 16 .eql 11 15] (oC 16 [qM 17 5,qM 4 17])))) (.ops [qK 18 .add 8 1,qM 8 18])))
def ZOC:C:=oS [qW 4 0] (.seq (oS [qM 6 0,qN 7 6,qW 8 0] (.block 0 (.loop [0,1,7,8] [4] ZGy))) (oR [qW 4 (-1)]))
def ZKF:FnI:=⟨2,ZOC,[(4,none)]⟩
def ZPd:C:=oS [qW 2 0] (.seq (oS [qM 3 0,qC 4 64 3,qK 5 .neq 4 0] (oC 5 [qW 2 0])) (oR [qM 6 0,oB 7 (.call 91 [.t 6,(.c (.d (.fn 101 [])))]),qM 2 7]))
def ZJ2:FnI:=⟨1,ZPd,[(2,none)]⟩
def ZEJ:C:=.seq (oS [qM 5 4,qM 6 0,qN 7 6,qB 8 .lss 5 7,qM 9 8,vM 10 0 9 true,vC 11 72 10 9 true,qP 12 9 11] (cX 12 0)) (.seq (.block 1 (.ops [qM 15 3,qM 16 0,qM 17 4,qI 18 5 16 17,qF 19 4 18,qL 20 19,oB 21 (.mx true [.t 15,.t 20]),qM 3 21])) (.ops [qM 13 4,qK 14 .add 13 1,qM 4 14]))
def ZOX:C:=oS [qW 2 0] (oS [qW 3 0] (.seq (oS [qW 4 0] (.block 0 (.loop [0,3,4] [3] ZEJ))) (oR [qM 22 3,qM 2 22])))
def ZLy:FnI:=⟨1,ZOX,[(2,none)]⟩
def ZE9:C:=.seq (oS [qM 7 6,qM 8 0,qN 9 8,qB 10 .lss 7 9] (cX 10 0)) (.seq (.block 1 (oS [qM 13 1,qM 14 0,qM 15 6,qI 16 5 14 15,qF 17 3 16,qL 18 17,qB 19 .geq 13 18] (cY 19 (.draw [qM 20 5,uM 21 0 [0],uM 22 6 [0,1],uI 23 5 21 22 [0],uF 24 0 23 [0],uL 25 24 [0],uM 26 1 [0,1,2,3,4,5],uM 27 0 [0,1,2,3,4,5,6],uM 28 6 [0,1,2,3,4,5,6,7],uI 29 5 27 28 [0,1,2,3,4,5,6],uF 30 3 29 [0,1,2,3,4,5,6],uL 31 30 [0,1,2,3,4,5,6],oM 32 (.bin .sub (.t 26) (.t 31)) [0,1,2,3,4,5],uM 33 0 [0,1,2,3,4,5,6,7,8,9,10,11,12],uM 34 6 [0,1,2,3,4,5,6,7,8,9,10,11,12,13],uI 35 5 33 34 [0,1,2,3,4,5,6,7,8,9,10,11,12],uF 36 4 35 [0,1,2,3,4,5,6,7,8,9,10,11,12],uL 37 36 [0,1,2,3,4,5,6,7,8,9,10,11,12],oM 38 (.bin .quo (.t 32) (.t 37)) [0,1,2,3,4,5],oM 39 (.bin .add (.t 38) (iN 1)) [0,1,2,3,4,5],oM 40 (.bin .mul (.t 25) (.t 39)) [0],qB 41 .add 20 40,qM 5 41]) .skip))) (.ops [qM 11 6,qK 12 .add 11 1,qM 6 12]))
def ZOM:C:=oS [qW 4 0] (oS [qW 5 0] (.seq (oS [qW 6 0] (.block 0 (.loop [0,1,5,6] [5] ZE9))) (oR [qM 42 5,qM 4 42])))
def ZKm:FnI:=⟨2,ZOM,[(4,none)]⟩
def ZHc:C:=.seq (oS [qM 7 6,qM 8 0,qN 9 8,qB 10 .lss 7 9] (cX 10 0)) (.seq (.block 1 (oS [qM 13 0,qM 14 6,qI 15 5 13 14,qF 16 3 15,qL 17 16,qM 18 1,qB 19 .gtr 17 18] (cY 19 (.ops [qM 20 5,qM 21 0,qM 22 6,qI 23 5 21 22,qF 24 2 23,qL 25 24,oB 26 (.mx true [.t 20,.t 25]),qM 5 26]) .skip))) (.ops [qM 11 6,qK 12 .add 11 1,qM 6 12]))
def ZOB:C:=oS [qW 4 0] (oS [qW 5 0] (.seq (oS [qW 6 0] (.block 0 (.loop [0,1,5,6] [5] ZHc))) (oR [qM 27 5,qM 4 27])))
def ZLA:FnI:=⟨2,ZOB,[(4,none)]⟩
def ZIh:C:=.seq (oS [qM 6 5,qK 7 .lss 6 40] (cX 7 0)) (.seq (.block 1 (.seq (oS [qM 10 4,qM 11 0,qB 12 .eql 10 11] (oC 12 [qM 13 5,qM 2 13,qtt 3])) (.ops [qM 14 4,oB 15 (.bin .mul (iN 2) (.t 14)),qM 4 15]))) (.ops [qM 8 5,qK 9 .add 8 1,qM 5 9]))
def ZOG:C:=oS [qW 2 0,qff 3] (oS [qW 4 1] (.seq (oS [qW 5 0] (.block 0 (.loop [0,4,5] [2,3] ZIh))) (oR [qW 2 0,qff 3])))
def ZKj:FnI:=⟨1,ZOG,[(2,none),(3,none)]⟩
def ZOP:C:=oS [qW 2 0,qff 3] (.seq (oS [qM 4 0,qC 5 102 4,qK 6 .neq 5 0,qM 7 6,vM 8 0 7 false,oG 9 (.conv .u64 (.t 8)) 7 false,vC 10 103 9 7 false,vK 11 .neq 10 1 7 false,qJ 12 7 11] (oC 12 [qW 2 0,qff 3])) (oR [qM 13 0,oB 14 (.conv .u64 (.t 13)),qC 15 104 14,qM 2 15,qtt 3]))
def ZLo:FnI:=⟨1,ZOP,[(2,none),(3,none)]⟩
def ZOK:C:=oS [qff 4] (oR [qM 5 0,qK 6 .geq 5 1,qM 7 6,vM 8 0 7 true,vM 9 1 7 true,vB 10 .leq 8 9 7 true,qP 11 7 10,qM 4 11])
def ZKl:FnI:=⟨2,ZOK,[(4,none)]⟩
def ZH8:C:=oS [qB 64 .lss 63 62] (.seq (cX 64 0) (.seq (.block 1 (oS [qM 65 63,qI 66 2 61 63,qA 67 2 66,oB 6 (.alloc (.d (.agg [zD,zD]))),qM 5 65,qS 2 6 67] (.seq (.draw [qA 68 6 1,uF 69 0 6 [0],uL 70 69 [0],uF 71 1 6 [0,1,2],uL 72 71 [0,1,2],qG 73 108 68 70 72,qU 74 73,qM 75 74,vF 76 3 1 75 false,vL 77 76 75 false,wM 78 5 75 false [8,9],oG 79 (.slice 2 (.t 77) none (some (.t 78)) none) 75 false,wA 80 2 6 75 false [8,9,10,11],vD 81 109 79 80 75 false,qJ 82 75 81]) (oC 82 [qW 2 53])))) (.ops [qK 83 .add 63 1,qM 63 83])))
def ZE3:C:=oS [qB 88 .lss 87 86] (.seq (cX 88 2) (.seq (.block 3 (oS [qM 89 87,qI 90 3 85 87,qA 91 3 90,oB 8 (.alloc (.d (.agg [zD,zD,zD]))),qM 7 89,qS 3 8 91] (oS [oB 92 (.mkfn 110 [.t 8]),qM 9 92] (.seq (.draw [qA 93 6 1,uF 94 0 8 [0],uL 95 94 [0],uF 96 1 8 [0,1,2],uL 97 96 [0,1,2],qG 98 108 93 95 97,qU 99 98,qM 100 99,vF 101 2 8 100 false,vL 102 101 100 false,wF 103 2 1 100 false [8,9],wL 104 103 100 false [8,9],wF 105 1 8 100 false [8,9,10,11],wL 106 105 100 false [8,9,10,11],wI 107 3 104 106 100 false [8,9],wF 108 2 107 100 false [8,9],wL 109 108 100 false [8,9],⟨some 110,.bin .sub (.t 109) (iN 1),some (100,false),[8,9],0⟩,oG 111 (.call 105 [.t 102,(iN 1),.t 110]) 100 false,vU 112 111 100 false,qJ 113 100 112,qM 114 113,vF 115 4 1 114 false,vL 116 115 114 false,wM 117 7 114 false [22,23],oG 118 (.slice 3 (.t 116) none (some (.t 117)) none) 114 false,wM 119 9 114 false [22,23,24,25],vD 120 111 118 119 114 false,qJ 121 114 120]) (oC 121 [qW 2 54]))))) (.ops [qK 122 .add 87 1,qM 87 122])))
def ZHp:C:=oS [qB 127 .lss 126 125] (.seq (cX 127 4) (.seq (.block 5 (oS [qI 128 2 124 126,qA 129 2 128,oB 11 (.alloc (.agg Lz5)),qS 2 11 129] (oS [oB 130 (.mkfn 112 [.t 11]),qM 12 130] (oS [qA 131 6 1,qF 132 0 11,qL 133 132,qD 134 113 131 133,qU 135 134,qM 136 135,vA 137 6 1 136 false,vF 138 1 11 136 false,vL 139 138 136 false,vD 140 113 137 139 136 false,vU 141 140 136 false,qJ 142 136 141,qM 143 142,vF 144 0 11 143 false,vL 145 144 143 false,vM 146 12 143 false,vD 147 114 145 146 143 false,qJ 148 143 147] (oC 148 [qW 2 55]))))) (.ops [qK 149 .add 126 1,qM 126 149])))
def ZOq:C:=oS [qO 1 0,qW 2 0] (.seq (oS [qF 13 2 1,qL 14 13,qN 15 14,oB 16 (.call 105 [.t 15,(iN 1),(iN 16)]),qU 17 16,qM 18 17,vF 19 3 1 18 false,vL 20 19 18 false,vN 21 20 18 false,vK 22 .gtr 21 48 18 false,qJ 23 18 22,qM 24 23,vF 25 4 1 24 false,vL 26 25 24 false,vN 27 26 24 false,vK 28 .gtr 27 16 24 false,qJ 29 24 28,qM 30 29,vF 31 5 1 30 false,vL 32 31 30 false,vN 33 32 30 false,vK 34 .gtr 33 4 30 false,qJ 35 30 34] (oC 35 [qW 2 50])) (.seq (oS [qF 37 0 1,qL 38 37,qC 39 82 38,qM 36 39,qE 40 36 0,qE 41 36 1,qM 3 40,qM 4 41] (oS [qM 42 4,qU 43 42,qM 44 43,vF 45 0 1 44 false,vL 46 45 44 false,vK 47 .gtr 46 4096 44 false,qJ 48 44 47,qM 49 48,vF 50 1 1 49 false,vL 51 50 49 false,vF 52 0 1 49 false,vL 53 52 49 false,oG 54 (.call 105 [.t 51,(iN 1),.t 53]) 49 false,vU 55 54 49 false,qJ 56 49 55] (oC 56 [qW 2 51]))) (.seq (oS [qF 57 2 1,qL 58 57,oB 59 (.call 106 [.t 58,(.c (.d (.fn 107 [])))])] (oC 59 [qW 2 52])) (.seq (oS [qF 60 3 1,qL 61 60,qN 62 61,qW 63 0] (.block 0 (.loop [1,61,62,63] [1,2] ZH8))) (.seq (oS [qF 84 4 1,qL 85 84,qN 86 85,qW 87 0] (.block 2 (.loop [1,85,86,87] [1,2] ZE3))) (.seq (oS [qF 123 5 1,qL 124 123,qN 125 124,qW 126 0] (.block 4 (.loop [1,124,125,126] [2] ZHp))) (oR [qW 2 0])))))))
def ZLa:FnI:=⟨1,ZOq,[(2,none)]⟩
def Zvo:C:=oS [qB 28 .lss 27 26] (.seq (cX 28 0) (.seq (.block 1 (oS [qM 29 27,qM 8 29] (oS [qF 30 2 4,qL 31 30,qM 32 2,qI 33 3 31 32,qF 34 2 33,qL 35 34,qM 9 35] (.seq (oS [qM 36 8,qM 37 7,qN 38 37,qB 39 .lss 36 38] (cY 39 (.draw [qF 40 4 4,qL 41 40,uM 42 7 [0,1],uM 43 8 [0,1,2],uI 44 1 42 43 [0,1],uL 45 44 [0,1],qI 46 3 41 45,qF 47 2 46,qL 48 47,qM 9 48]) .skip)) (.seq (.draw [qM 49 0,qZ 50 49,qF 51 4 50,⟨some 52,.load 1 false (.t 51),none,[],1⟩,uM 53 2 [0,1,2,3],uM 54 0 [0,1,2,3,4],uM 55 2 [0,1,2,3,4,5],uM 56 8 [0,1,2,3,4,5,6],oM 57 (.build Lz1 [(0,1,(.t 55)),(1,1,(.t 56))]) [0,1,2,3,4,5],uM 58 9 [0,1,2,3,4,5,6,7,8],uM 59 6 [0,1,2,3,4,5,6,7,8,9],oM 60 (.bin .sub (.t 58) (.t 59)) [0,1,2,3,4,5,6,7,8],⟨some 61,.callk 87 [.t 54,.t 57,.t 60] [.t 51],none,[],4⟩,⟨none,.mapset [false] (.t 52) (.t 53) (.t 61),none,[],4⟩]) (.seq (oS [qM 62 8,qK 63 .gtr 62 0] (cY 63 (.seq (.draw [qM 64 0,uM 65 0 [0],uZ 66 65 [0],uF 67 4 66 [0],uL 68 67 [0],uM 69 2 [0,1,2,3,4],oM 70 (.mapget [false] (.int .i64 0) (.t 68) (.t 69)) [0],oM 71 (.bin .sub (.t 70) (iN 1)) [0],uM 72 0 [0,1,2,3,4,5,6,7],uZ 73 72 [0,1,2,3,4,5,6,7],uF 74 4 73 [0,1,2,3,4,5,6,7],uL 75 74 [0,1,2,3,4,5,6,7],uM 76 2 [0,1,2,3,4,5,6,7,8,9,10,11],oM 77 (.mapget [false] (.int .i64 0) (.t 75) (.t 76)) [0,1,2,3,4,5,6,7],⟨some 78,.call 86 [.t 64,.t 71,.t 77],none,[],4⟩]) (.draw [qM 79 0,qZ 80 79,qF 81 5 80,qL 82 81,uF 83 4 4 [0,1,2,3],uL 84 83 [0,1,2,3],uM 85 7 [0,1,2,3,4,5],uM 86 8 [0,1,2,3,4,5,6],oM 87 (.bin .sub (.t 86) (iN 1)) [0,1,2,3,4,5,6],uI 88 1 85 87 [0,1,2,3,4,5],uL 89 88 [0,1,2,3,4,5],uI 90 3 84 89 [0,1,2,3],uA 91 3 90 [0,1,2,3],uM 92 0 [0,1,2,3,4,5,6,7,8,9,10,11,12],uZ 93 92 [0,1,2,3,4,5,6,7,8,9,10,11,12],uF 94 4 93 [0,1,2,3,4,5,6,7,8,9,10,11,12],uL 95 94 [0,1,2,3,4,5,6,7,8,9,10,11,12],uM 96 2 [0,1,2,3,4,5,6,7,8,9,10,11,12,13,14,15,16],oM 97 (.mapget [false] (.int .i64 0) (.t 95) (.t 96)) [0,1,2,3,4,5,6,7,8,9,10,11,12],⟨none,.mapset [false,false,false] (.t 82) (.t 91) (.t 97),none,[],4⟩])) .skip)) (.ops [qM 98 9,qM 6 98]))))))) (.ops [qK 99 .add 27 1,qM 27 99])))
def ZOm:C:=oS [qO 4 1] (oS [qW 6 0] (.seq (.draw [qM 10 0,qZ 11 10,qF 12 3 11,qL 13 12,uM 14 2 [0,1,2,3],uM 15 0 [0,1,2,3,4],uZ 16 15 [0,1,2,3,4],uF 17 0 16 [0,1,2,3,4],uF 18 2 17 [0,1,2,3,4],uL 19 18 [0,1,2,3,4],uN 20 19 [0,1,2,3,4],⟨none,.mapset [false] (.t 13) (.t 14) (.t 20),none,[],4⟩]) (oS [qA 21 6 4,qM 22 2,qD 23 115 21 22,qM 7 23] (oS [qM 24 7,qN 25 24,qK 26 .add 25 1,qW 27 0] (.block 0 (.loop [0,2,4,6,7,26,27] [] Zvo))))))
def ZKc:FnI:=⟨3,ZOm,[]⟩
def ZNZ:C:=.ops [qM 6 0,qM 7 0,qZ 8 7,qF 9 0 8,qF 10 0 9,qF 11 1 10,qL 12 11,qM 13 1,qM 14 2,oB 15 (.build Lz1 [(0,1,(.t 13)),(1,1,(.t 14))]),oB 16 (.bslice 2 [zD,zD] 1 [(0,(.t 15))]),oB 17 (.append 2 (.t 12) (.t 16)),qZ 18 6,qF 19 0 18,qF 20 0 19,qF 21 1 20,qS 1 21 17]
def ZLb:FnI:=⟨3,ZNZ,[]⟩
def ZO5:C:=oS [qO 4 1,qW 6 0] (.seq (.draw [qM 7 0,uM 8 0 [0],uZ 9 8 [0],uF 10 0 9 [0],uF 11 2 10 [0],uL 12 11 [0],uA 13 2 4 [0,1,2,3,4,5],oM 14 (.bslice 2 [zD,zD] 1 [(0,(.t 13))]) [0,1,2,3,4,5],⟨some 15,.append 2 (.t 12) (.t 14),none,[],4⟩,qZ 16 7,qF 17 0 16,qF 18 2 17,qX 1 18 15 4]) (oS [qM 19 0,qM 20 0,qZ 21 20,qF 22 0 21,qF 23 0 22,qF 24 0 23,qL 25 24,qM 26 2,qH 27 26,qY 28 25 27,qZ 29 19,qF 30 0 29,qF 31 0 30,qF 32 0 31,qS 1 32 28] (oR [qM 33 0,qZ 34 33,qF 35 0 34,qF 36 2 35,qL 37 36,qN 38 37,qK 39 .sub 38 1,qM 6 39])))
def ZK6:FnI:=⟨3,ZO5,[(6,none)]⟩
def ZEN:C:=oS [qB 26 .lss 25 24] (.seq (cX 26 0) (.seq (.block 1 (oS [qM 27 25,qI 28 2 23 25,qA 29 2 28,oB 5 (.alloc (.d (.agg [zD,zD]))),qM 4 27,qS 2 5 29] (.seq (.draw [qM 30 3,uF 31 0 5 [0],uL 32 31 [0],⟨some 33,.callv (.t 30) [.t 32],none,[],4⟩,qU 34 33,qM 35 34,vM 36 3 35 false,wF 37 1 5 35 false [6],wL 38 37 35 false [6],vV 39 36 38 35 false,vU 40 39 35 false,qJ 41 35 40,qM 42 41,vF 43 0 5 42 false,vL 44 43 42 false,wF 45 1 5 42 false [13,14],wL 46 45 42 false [13,14],vB 47 .eql 44 46 42 false,qJ 48 42 47,qM 49 48,vF 50 1 1 49 false,vL 51 50 49 false,wM 52 4 49 false [20,21],oG 53 (.slice 2 (.t 51) none (some (.t 52)) none) 49 false,wA 54 2 5 49 false [20,21,22,23],vD 55 109 53 54 49 false,qJ 56 49 55]) (oC 56 [qW 2 42])))) (.ops [qK 57 .add 25 1,qM 25 57])))
def ZOj:C:=oS [qO 1 0,qW 2 0] (.seq (oS [qF 8 0 1,qL 9 8,qN 10 9,qK 11 .gtr 10 64,qM 12 11,vF 13 1 1 12 false,vL 14 13 12 false,vN 15 14 12 false,vK 16 .gtr 15 256 12 false,qJ 17 12 16] (oC 17 [qW 2 40])) (.seq (oS [qF 18 0 1,qL 19 18,oB 20 (.call 114 [.t 19,(.c (.d (.fn 116 [])))])] (oC 20 [qW 2 41])) (oS [oB 21 (.mkfn 117 [.t 1]),qM 3 21] (.seq (oS [qF 22 1 1,qL 23 22,qN 24 23,qW 25 0] (.block 0 (.loop [1,3,23,24,25] [1,2] ZEN))) (.seq (oS [qA 59 2 1,qC 60 118 59,qM 58 60,qE 61 58 0,qE 62 58 1,qM 6 61,qM 7 62] (oS [qM 63 7,qU 64 63] (oC 64 [qW 2 43]))) (oR [qW 2 0]))))))
def ZK4:FnI:=⟨1,ZOj,[(2,none)]⟩
def ZOS:C:=oS [qO 1 0,ZhT 2 1] (.seq (oS [qA 5 2 1,qC 6 88 5,qK 7 .neq 6 0] (oC 7 [ZhT 2 1])) (oS [qA 9 2 1,qC 10 118 9,qM 8 10,qE 11 8 0,qE 12 8 1,qM 3 11,qM 4 12] (oR [qM 13 3,qM 2 13])))
def ZKO:FnI:=⟨1,ZOS,[(2,none)]⟩
def ZOF:C:=oS [qO 2 0,qO 3 1,ZhT 4 1] (oR [qA 5 2 2,oB 6 (.mkfn 120 [.t 3]),qD 7 119 5 6,qM 4 7])
def ZLk:FnI:=⟨2,ZOF,[(4,none)]⟩
def Zyc:C:=oS [qB 11 .lss 10 9] (.seq (cX 11 0) (.seq (.block 1 (oS [qI 12 5 8 10,qA 13 5 12,oB 7 (.alloc (.d (.agg [zD,zD,zD,zD,zD]))),qS 5 7 13] (.ops [qM 14 1,qM 15 5,qA 16 5 7,oB 17 (.callv (.t 14) [.t 15,.t 16]),qM 5 17]))) (.ops [qK 18 .add 10 1,qM 10 18])))
def ZOZ:C:=oS [qW 4 0] (oS [qW 5 0] (.seq (oS [qM 8 0,qN 9 8,qW 10 0] (.block 0 (.loop [1,5,8,9,10] [5] Zyc))) (oR [qM 19 5,qM 4 19])))
def ZGk:FnI:=⟨2,ZOZ,[(4,none)]⟩
def ZNY:C:=oS [qO 4 1,qW 5 0] (.seq (oS [qL 6 2,qF 7 3 4,qL 8 7,qB 9 .lss 6 8] (oC 9 [qM 10 0,qM 5 10])) (.seq (.draw [qM 11 0,uF 12 0 4 [0],uL 13 12 [0],uL 14 2 [0,1,2],uF 15 3 4 [0,1,2,3],uL 16 15 [0,1,2,3],oM 17 (.bin .sub (.t 14) (.t 16)) [0,1,2],uF 18 4 4 [0,1,2,3,4,5,6],uL 19 18 [0,1,2,3,4,5,6],oM 20 (.bin .quo (.t 17) (.t 19)) [0,1,2],oM 21 (.bin .add (.t 20) (iN 1)) [0,1,2],oM 22 (.bin .mul (.t 13) (.t 21)) [0],qB 23 .add 11 22,qM 5 23]) .ret))
def ZJ1:FnI:=⟨3,ZNY,[(5,none)]⟩
def ZOT:C:=oS [qO 4 1,qW 5 0] (.seq (oS [qF 6 3 4,qL 7 6,qL 8 2,qB 9 .gtr 7 8] (oC 9 [qM 10 0,qF 11 2 4,qL 12 11,oB 13 (.mx true [.t 10,.t 12]),qM 5 13])) (oR [qM 14 0,qM 5 14]))
def ZK3:FnI:=⟨3,ZOT,[(5,none)]⟩
def ZOh:C:=oS [qO 1 0,qff 2] (oR [qA 3 5 1,qC 4 51 3,qK 5 .neq 4 0,qM 6 5,vA 7 5 1 6 false,vC 8 28 7 6 false,qJ 9 6 8,qM 2 9])
def ZLi:FnI:=⟨1,ZOh,[(2,none)]⟩
def ZN7:C:=oS [qff 4] (oR [qM 5 0,qM 6 1,qD 7 121 5 6,qK 8 .geq 7 0,qM 4 8])
def ZKY:FnI:=⟨2,ZN7,[(4,none)]⟩
def ZOn:C:=oS [qM 5 0,qN 6 5,qM 4 6] (.ops [qM 7 0,qM 8 4,qM 9 4,oB 10 (.conv .u64 (.t 9)),qC 11 123 10,qM 12 1,oB 13 (.call 122 [.t 7,(iN 0),.t 8,.t 11,.t 12])])
def ZIz:FnI:=⟨2,ZOn,[]⟩
def ZO4:C:=oS [qW 5 0] (.seq (.block 0 (.seq (.draw [qL 7 2,uM 8 0 [0],qI 9 5 7 8,qF 10 0 9,qL 11 10,uL 12 2 [0,1,2,3,4],uM 13 1 [0,1,2,3,4,5],uI 14 5 12 13 [0,1,2,3,4],uF 15 0 14 [0,1,2,3,4],uL 16 15 [0,1,2,3,4],qB 17 .gtr 11 16,qM 6 17]) (cY 6 (oR [qW 5 (-1)]) (.seq (.draw [qL 19 2,uM 20 0 [0],qI 21 5 19 20,qF 22 0 21,qL 23 22,uL 24 2 [0,1,2,3,4],uM 25 1 [0,1,2,3,4,5],uI 26 5 24 25 [0,1,2,3,4],uF 27 0 26 [0,1,2,3,4],uL 28 27 [0,1,2,3,4],qB 29 .lss 23 28,qM 18 29]) (oC 18 [qW 5 1]))))) (oR [qM 30 0,qM 31 1,qB 32 .sub 30 31,qM 5 32]))
def ZKT:FnI:=⟨3,ZO4,[(5,none)]⟩
def ZNO:C:=oS [qO 1 0,qW 2 0] (.seq (oS [qF 3 2 1,qL 4 3,qN 5 4,qK 6 .lss 5 1,qM 7 6,vF 8 2 1 7 false,vL 9 8 7 false,vN 10 9 7 false,vK 11 .gtr 10 16 7 false,qJ 12 7 11,qM 13 12,vF 14 3 1 13 false,vL 15 14 13 false,vN 16 15 13 false,vK 17 .gtr 16 48 13 false,qJ 18 13 17,qM 19 18,vF 20 4 1 19 false,vL 21 20 19 false,vN 22 21 19 false,vK 23 .gtr 22 16 19 false,qJ 24 19 23,qM 25 24,vF 26 5 1 25 false,vL 27 26 25 false,vN 28 27 25 false,vK 29 .gtr 28 4 25 false,qJ 30 25 29] (oC 30 [qW 2 50])) (.seq (oS [qA 31 6 1,qC 32 124 31,qU 33 32] (oC 33 [qW 2 51])) (.seq (oS [qA 34 6 1,qC 35 125 34,qU 36 35] (oC 36 [qW 2 52])) (.seq (oS [qA 37 6 1,qC 38 126 37,qU 39 38] (oC 39 [qW 2 53])) (.seq (oS [qA 40 6 1,qC 41 127 40,qU 42 41] (oC 42 [qW 2 54])) (.seq (oS [qA 43 6 1,qC 44 128 43,qU 45 44] (oC 45 [qW 2 55])) (oR [qW 2 0])))))))
def ZLp:FnI:=⟨1,ZNO,[(2,none)]⟩
def ZFc:C:=.seq (oS [qM 27 7,qM 28 6,qN 29 28,qB 30 .lss 27 29] (cX 30 2)) (.seq (.block 3 (oS [qF 33 2 3,qL 34 33,qM 35 5,qM 36 7,oB 37 (.build Lz1 [(0,1,(.t 35)),(1,1,(.t 36))]),oB 38 (.bslice 2 [zD,zD] 1 [(0,(.t 37))]),oB 39 (.append 2 (.t 34) (.t 38)),qF 40 2 3,qS 1 40 39] (.seq (.draw [qF 41 0 3,qF 42 0 41,qL 43 42,uM 44 6 [0,1,2],uM 45 7 [0,1,2,3],uI 46 1 44 45 [0,1,2],uL 47 46 [0,1,2],uH 48 47 [0,1,2],⟨some 49,.append 1 (.t 43) (.t 48),none,[],4⟩,qF 50 0 3,qF 51 0 50,qX 1 51 49 4]) (oS [qM 52 7,qK 53 .gtr 52 0] (cY 53 (.draw [qM 54 4,uA 55 6 1 [0],uM 56 5 [0,1],uD 57 130 55 56 [0],uM 58 7 [0,1,2,3],oM 59 (.bin .add (.t 57) (.t 58)) [0],oM 60 (.bin .sub (.t 59) (iN 1)) [0],uA 61 6 1 [0,1,2,3,4,5,6],uM 62 5 [0,1,2,3,4,5,6,7],uD 63 130 61 62 [0,4,5,6],uM 64 7 [0,1,2,3,4,5,6,7,8,9],oM 65 (.bin .add (.t 63) (.t 64)) [0,4,5,6],oM 66 (.build Lz1 [(0,1,(.t 60)),(1,1,(.t 65))]) [0],oM 67 (.bslice 2 [zD,zD] 1 [(0,(.t 66))]) [0],⟨some 68,.append 2 (.t 54) (.t 67),none,[],4⟩,qM 4 68]) .skip))))) (.ops [qM 31 7,qK 32 .add 31 1,qM 7 32]))
def ZH7:C:=.seq (oS [qM 17 5,qF 18 2 1,qL 19 18,qN 20 19,qB 21 .lss 17 20] (cX 21 0)) (.seq (.block 1 (oS [qA 24 6 1,qM 25 5,qD 26 129 24 25,qM 6 26] (oS [qW 7 0] (.block 2 (.loop [1,2,3,4,5,6,7] [1,2,3,4,5] ZFc))))) (.ops [qM 22 5,qK 23 .add 22 1,qM 5 23]))
def ZGO:C:=.seq (oS [qM 69 8,qF 70 3 1,qL 71 70,qN 72 71,qB 73 .lss 69 72] (cX 73 4)) (.seq (.block 5 (.draw [qM 76 4,uA 77 6 1 [0],uF 78 3 1 [0,1],uL 79 78 [0,1],uM 80 8 [0,1,2,3],uI 81 2 79 80 [0,1],uF 82 0 81 [0,1],uL 83 82 [0,1],uD 84 131 77 83 [0],uA 85 6 1 [0,1,2,3,4,5,6,7,8],uF 86 3 1 [0,1,2,3,4,5,6,7,8,9],uL 87 86 [0,1,2,3,4,5,6,7,8,9],uM 88 8 [0,1,2,3,4,5,6,7,8,9,10,11],uI 89 2 87 88 [0,1,2,3,4,5,6,7,8,9],uF 90 1 89 [0,1,2,3,4,5,6,7,8,9],uL 91 90 [0,1,2,3,4,5,6,7,8,9],uD 92 130 85 91 [0],oM 93 (.build Lz1 [(0,1,(.t 84)),(1,1,(.t 92))]) [0],oM 94 (.bslice 2 [zD,zD] 1 [(0,(.t 93))]) [0],⟨some 95,.append 2 (.t 76) (.t 94),none,[],4⟩,qM 4 95])) (.ops [qM 74 8,qK 75 .add 74 1,qM 8 75]))
def ZGB:C:=.seq (oS [qM 96 9,qF 97 4 1,qL 98 97,qN 99 98,qB 100 .lss 96 99] (cX 100 6)) (.seq (.block 7 (.draw [qM 103 4,uA 104 6 1 [0],uF 105 4 1 [0,1],uL 106 105 [0,1],uM 107 9 [0,1,2,3],uI 108 3 106 107 [0,1],uF 109 0 108 [0,1],uL 110 109 [0,1],uD 111 131 104 110 [0],uA 112 6 1 [0,1,2,3,4,5,6,7,8],uF 113 4 1 [0,1,2,3,4,5,6,7,8,9],uL 114 113 [0,1,2,3,4,5,6,7,8,9],uM 115 9 [0,1,2,3,4,5,6,7,8,9,10,11],uI 116 3 114 115 [0,1,2,3,4,5,6,7,8,9],uA 117 3 116 [0,1,2,3,4,5,6,7,8,9],uD 118 132 112 117 [0],oM 119 (.build Lz1 [(0,1,(.t 111)),(1,1,(.t 118))]) [0],oM 120 (.bslice 2 [zD,zD] 1 [(0,(.t 119))]) [0],⟨some 121,.append 2 (.t 103) (.t 120),none,[],4⟩,qM 4 121])) (.ops [qM 101 9,qK 102 .add 101 1,qM 9 102]))
def ZEK:C:=.seq (oS [qM 151 13,qF 152 0 12,qL 153 152,qN 154 153,qB 155 .lss 151 154] (cX 155 10)) (.seq (.block 11 (.draw [qM 158 4,uA 159 6 1 [0],uF 160 0 12 [0,1],uL 161 160 [0,1],uM 162 13 [0,1,2,3],uI 163 1 161 162 [0,1],uL 164 163 [0,1],uD 165 131 159 164 [0],uM 166 11 [0,1,2,3,4,5,6,7],oM 167 (.build Lz1 [(0,1,(.t 165)),(1,1,(.t 166))]) [0],oM 168 (.bslice 2 [zD,zD] 1 [(0,(.t 167))]) [0],⟨some 169,.append 2 (.t 158) (.t 168),none,[],4⟩,qM 4 169])) (.ops [qM 156 13,qK 157 .add 156 1,qM 13 157]))
def ZEV:C:=.seq (oS [qM 170 14,qF 171 1 12,qL 172 171,qN 173 172,qB 174 .lss 170 173] (cX 174 12)) (.seq (.block 13 (.draw [qM 177 4,uM 178 11 [0],uA 179 6 1 [0,1],uF 180 1 12 [0,1,2],uL 181 180 [0,1,2],uM 182 14 [0,1,2,3,4],uI 183 1 181 182 [0,1,2],uL 184 183 [0,1,2],uD 185 130 179 184 [0,1],oM 186 (.build Lz1 [(0,1,(.t 178)),(1,1,(.t 185))]) [0],oM 187 (.bslice 2 [zD,zD] 1 [(0,(.t 186))]) [0],⟨some 188,.append 2 (.t 177) (.t 187),none,[],4⟩,qM 4 188])) (.ops [qM 175 14,qK 176 .add 175 1,qM 14 176]))
def ZF9:C:=.seq (oS [qM 122 10,qF 123 5 1,qL 124 123,qN 125 124,qB 126 .lss 122 125] (cX 126 8)) (.seq (.block 9 (oS [qF 129 2 3,qL 130 129,qN 131 130,qM 11 131] (oS [qF 132 2 3,qL 133 132,qM 134 10,oB 135 (.build Lz1 [(0,1,(iN (-1))),(1,1,(.t 134))]),oB 136 (.bslice 2 [zD,zD] 1 [(0,(.t 135))]),oB 137 (.append 2 (.t 133) (.t 136)),qF 138 2 3,qS 1 138 137] (oS [qF 139 0 3,qF 140 0 139,qL 141 140,oB 142 (.bslice 1 [zD] 1 [(0,(iN 1))]),qY 143 141 142,qF 144 0 3,qF 145 0 144,qS 1 145 143] (oS [qF 146 5 1,qL 147 146,qM 148 10,qI 149 2 147 148,qA 150 2 149,oB 12 (.alloc (.agg Lz5)),qS 2 12 150] (.seq (oS [qW 13 0] (.block 10 (.loop [1,2,3,4,10,11,12,13] [1,2,3,4,10,11,12] ZEK))) (oS [qW 14 0] (.block 12 (.loop [1,2,3,4,10,11,12,14] [1,2,3,4,10] ZEV))))))))) (.ops [qM 127 10,qK 128 .add 127 1,qM 10 128]))
def ZOb:C:=oS [qO 1 0,oB 2 (.alloc (.agg Lz2))] (oS [oB 15 (.build Lz2 []),oB 3 (.alloc (.agg Lz2)),qS 3 3 15] (oS [oB 16 (.bslice 2 [zD,zD] 0 []),qM 4 16] (.seq (oS [qW 5 0] (.block 0 (.loop [1,2,3,4,5] [1,2,3,4] ZH7))) (.seq (oS [qW 8 0] (.block 4 (.loop [1,2,3,4,8] [1,2,3,4] ZGO))) (.seq (oS [qW 9 0] (.block 6 (.loop [1,2,3,4,9] [1,2,3,4] ZGB))) (.seq (oS [qW 10 0] (.block 8 (.loop [1,2,3,4,10] [2,3,4] ZF9))) (oS [qM 189 4,qF 190 0 3,qF 191 1 190,qS 1 191 189] (oR [qA 192 3 3,qS 3 2 192]))))))))
def ZJ5:FnI:=⟨1,ZOb,[(2,some (3,true))]⟩
def ZCh:C:=.seq (oS [qM 10 4,qF 11 0 1,qL 12 11,qN 13 12,qB 14 .lss 10 13] (cX 14 0)) (.seq (.block 1 (oS [qA 17 2 1,qM 18 4,qD 19 134 17 18,qM 20 4,qI 21 1 19 20,qL 22 21] (oC 22 [qW 2 43]))) (.ops [qM 15 4,qK 16 .add 15 1,qM 4 16]))
def ZLI:C:=oS [qO 1 0,qW 2 0] (oS [qA 5 2 1,qC 6 133 5,qM 3 6] (.seq (oS [qM 7 3,qK 8 .neq 7 0] (oC 8 [qM 9 3,qM 2 9])) (.seq (oS [qW 4 0] (.block 0 (.loop [1,4] [2] ZCh))) (oR [qW 2 0]))))
def ZHA:FnI:=⟨1,ZLI,[(2,none)]⟩
def ZL9:C:=oS [qO 3 1,qW 4 0] (oR [qM 5 0,qF 6 4 3,qL 7 6,oB 8 (.mx true [.t 5,.t 7]),qM 4 8])
def ZFy:FnI:=⟨2,ZL9,[(4,none)]⟩
def ZMQ:C:=oS [qW 2 0] (.seq (.block 0 (oS [qM 4 0,qK 5 .lss 4 0,qM 3 5] (cY 3 (oR [qW 2 10]) (oS [qM 7 0,qK 8 .gtr 7 1099511627775,qM 6 8] (oC 6 [qW 2 11]))))) (oR [qW 2 0]))
def ZF0:FnI:=⟨1,ZMQ,[(2,none)]⟩
def ZLS:C:=oS [qW 2 0] (.seq (.cond bF (oR [qM 3 0,oB 4 (.conv .u32 (.t 3)),qC 5 135 4,qM 2 5]) .skip) (oR [qM 6 0,qC 7 136 6,qM 2 7]))
def ZGf:FnI:=⟨1,ZLS,[(2,none)]⟩
def ZMW:C:=oS [qW 2 0] (.seq (.cond bF (oR [qM 3 0,oB 4 (.conv .u32 (.t 3)),qC 5 137 4,qM 2 5]) .skip) (oR [qM 6 0,qC 7 138 6,qM 2 7]))
def ZFI:FnI:=⟨1,ZMW,[(2,none)]⟩
def ZNx:C:=oS [qff 6] (oR [qM 7 1,qM 8 0,qB 9 .leq 7 8,qM 10 9,vM 11 0 10 true,vM 12 2 10 true,vB 13 .leq 11 12 10 true,qP 14 10 13,qM 6 14])
def ZHf:FnI:=⟨3,ZNx,[(6,none)]⟩
def ZL5:C:=oS [qff 4] (oR [qM 5 0,qM 6 1,qD 7 139 5 6,qK 8 .geq 7 0,qM 4 8])
def ZFB:FnI:=⟨2,ZL5,[(4,none)]⟩
def ZMM:C:=oS [qO 1 0,qff 2] (oR [qF 3 0 1,qL 4 3,oB 5 (.call 105 [.t 4,(iN 0),(iN 5)]),qU 6 5,qM 7 6,vF 8 1 1 7 false,vL 9 8 7 false,oG 10 (.call 105 [.t 9,(iN 0),(iN 2147483647)]) 7 false,vU 11 10 7 false,qJ 12 7 11,qM 13 12,vF 14 2 1 13 false,vL 15 14 13 false,oG 16 (.call 105 [.t 15,(iN 1),(iN 100)]) 13 false,vU 17 16 13 false,qJ 18 13 17,qM 2 18])
def ZF1:FnI:=⟨1,ZMM,[(2,none)]⟩
def ZLV:C:=oS [qO 3 0,qff 6] (oR [qM 7 1,qM 8 2,qB 9 .neq 7 8,qM 10 9,vM 11 1 10 true,vF 12 2 3 10 true,vL 13 12 10 true,vN 14 13 10 true,vK 15 .sub 14 1 10 true,oG 16 (.call 105 [.t 11,(iN 0),.t 15]) 10 true,qP 17 10 16,qM 18 17,vM 19 2 18 true,vF 20 2 3 18 true,vL 21 20 18 true,vN 22 21 18 true,vK 23 .sub 22 1 18 true,oG 24 (.call 105 [.t 19,(iN 0),.t 23]) 18 true,qP 25 18 24,qM 6 25])
def ZFL:FnI:=⟨3,ZLV,[(6,none)]⟩
def ZMg:C:=oS [qO 3 1,qff 4] (oR [qM 5 0,qA 6 2 3,qD 7 140 5 6,qK 8 .geq 7 0,qM 4 8])
def ZGc:FnI:=⟨2,ZMg,[(4,none)]⟩
def ZNw:C:=oS [qO 2 0,qff 3] (oR [qF 4 1 2,qL 5 4,qF 6 1 1,qL 7 6,qB 8 .eql 5 7,qM 9 8,vF 10 2 2 9 true,vL 11 10 9 true,vF 12 2 1 9 true,vL 13 12 9 true,vB 14 .eql 11 13 9 true,qP 15 9 14,qM 3 15])
def ZFK:FnI:=⟨2,ZNw,[(3,none)]⟩
def ZNm:C:=oS [qff 4] (oR [qM 5 0,qM 6 1,qD 7 141 5 6,qK 8 .geq 7 0,qM 4 8])
def ZEC:FnI:=⟨2,ZNm,[(4,none)]⟩
def ZMj:C:=oS [qff 3] (oR [qF 4 1 1,qL 5 4,qM 6 0,qD 7 45 5 6,qM 3 7])
def ZHR:FnI:=⟨2,ZMj,[(3,none)]⟩
def ZCu:C:=oS [qB 10 .lss 9 8] (.seq (cX 10 0) (.seq (.block 1 (oS [qM 11 9,qI 12 1 7 9,qL 13 12,qM 5 11,qM 6 13] (oS [qM 14 6,qF 15 2 2,qL 16 15,qN 17 16,qK 18 .sub 17 1,oB 19 (.call 105 [.t 14,(iN 0),.t 18]),qU 20 19,qM 21 20,vM 22 5 21 false,vK 23 .gtr 22 0 21 false,vM 24 23 21 false,vM 25 1 24 true,vM 26 5 24 true,vK 27 .sub 26 1 24 true,vI 28 1 25 27 24 true,vL 29 28 24 true,vM 30 6 24 true,vB 31 .geq 29 30 24 true,oG 32 (.pick (.t 24) (.t 31) bF) 21 false,qJ 33 21 32] (oC 33 [qff 4])))) (.ops [qK 34 .add 9 1,qM 9 34])))
def ZMc:C:=oS [qO 2 0,qff 4] (.seq (oS [qM 7 1,qN 8 7,qW 9 0] (.block 0 (.loop [1,2,7,8,9] [1,4] ZCu))) (oR [qM 35 1,qN 36 35,qK 37 .gtr 36 0,qM 4 37]))
def ZIa:FnI:=⟨2,ZMc,[(4,none)]⟩
def ZNj:C:=oS [qff 4] (oR [qM 5 0,qM 6 1,qD 7 142 5 6,qK 8 .geq 7 0,qM 4 8])
def ZCv:FnI:=⟨2,ZNj,[(4,none)]⟩
def ZBY:C:=oS [qB 15 .lss 14 13] (.seq (cX 15 0) (.seq (.block 1 (oS [qM 16 14,qI 17 3 12 14,qA 18 3 17,oB 7 (.alloc (.d (.agg [zD,zD,zD]))),qM 6 16,qS 3 7 18] (oS [qF 19 1 7,qL 20 19,qM 21 1,qB 22 .eql 20 21] (cY 22 (.ops [qM 23 5,qM 24 6,qH 25 24,qY 26 23 25,qM 5 26]) .skip)))) (.ops [qK 27 .add 14 1,qM 14 27])))
def ZMB:C:=oS [qO 2 0,ZhT 4 1] (.seq (oS [qA 8 6 2,qC 9 84 8,qK 10 .neq 9 0] (oC 10 [ZhT 4 1])) (oS [ZhT 5 1] (.seq (oS [qF 11 4 2,qL 12 11,qN 13 12,qW 14 0] (.block 0 (.loop [1,2,5,12,13,14] [2,5] ZBY))) (oS [qM 28 5,oB 29 (.mkfn 143 [.t 2]),qD 30 96 28 29] (oR [qM 31 5,qM 4 31])))))
def ZHC:FnI:=⟨2,ZMB,[(4,none)]⟩
def ZNq:C:=oS [qff 2] (oR [qM 3 0,qK 4 .lss 3 0,qM 5 4,vM 6 0 5 false,vK 7 .gtr 6 1000 5 false,qJ 8 5 7,qM 2 8])
def ZHV:FnI:=⟨1,ZNq,[(2,none)]⟩
def ZNn:C:=oS [qff 3] (oR [qM 4 0,qK 5 .geq 4 0,qM 6 5,vM 7 0 6 true,vF 8 0 1 6 true,vL 9 8 6 true,vN 10 9 6 true,vB 11 .lss 7 10 6 true,qP 12 6 11,qM 3 12])
def ZEs:FnI:=⟨2,ZNn,[(3,none)]⟩
def ZC9:C:=oS [qB 33 .lss 32 31] (.seq (cX 33 4) (.seq (.block 5 (oS [qI 34 2 30 32,qA 35 2 34,oB 8 (.alloc (.d (.agg [zD,zD]))),qS 2 8 35] (oS [qF 36 1 8,qL 37 36,qM 38 6,qB 39 .eql 37 38,qM 40 39,vM 41 5 40 true,vF 42 0 8 40 true,vL 43 42 40 true,vI 44 1 41 43 40 true,vL 45 44 40 true,vU 46 45 40 true,qP 47 40 46] (cY 47 (.exit 3) .skip)))) (.ops [qK 48 .add 32 1,qM 32 48])))
def ZCl:C:=oS [qB 23 .lss 22 21] (.seq (cX 23 2) (.seq (.block 3 (oS [qM 24 22,qM 6 24] (.seq (oS [qM 25 5,qM 26 6,qI 27 1 25 26,qL 28 27] (cY 28 (.exit 3) .skip)) (.seq (oS [qF 29 1 1,qL 30 29,qN 31 30,qW 32 0] (.block 4 (.loop [1,4,5,6,21,22,30,31,32] [1,4,5,6,21,22] ZC9))) (oS [qM 49 5,qM 50 6,qI 51 1 49 50,oA (.store 1 (.t 51) bT)] (oS [qM 52 4,qM 53 6,qH 54 53,qY 55 52 54,qM 4 55] (.exit 1))))))) (.ops [qK 56 .add 22 1,qM 22 56])))
def ZBX:C:=.seq (oS [qM 13 4,qN 14 13,qF 15 0 1,qL 16 15,qN 17 16,qB 18 .lss 14 17] (cX 18 0)) (.block 1 (.seq .skip (.seq (oS [qF 19 0 1,qL 20 19,qN 21 20,qW 22 0] (.block 2 (.loop [1,4,5,21,22] [1,4,5] ZCl))) (oR [ZhT 2 1,qff 3]))))
def ZNv:C:=oS [qO 1 0,ZhT 2 1,qff 3] (oS [ZhT 4 1] (oS [qF 9 0 1,qL 10 9,qN 11 10,oB 12 (.mkslice 1 [.bool false] (.t 11) (.t 11)),qM 5 12] (.seq .skip (.seq (.block 0 (.loop [1,4,5] [2,3,4] ZBX)) (oR [qM 57 4,qM 2 57,qtt 3])))))
def ZGU:FnI:=⟨1,ZNv,[(2,none),(3,none)]⟩
def ZCg:C:=oS [qB 14 .lss 13 12] (.seq (cX 14 0) (.seq (.block 1 (oS [qI 15 2 11 13,qA 16 2 15,oB 7 (.alloc (.d (.agg [zD,zD]))),qS 2 7 16] (oS [qM 18 1,qA 19 2 7,qV 20 18 19,qM 17 20,qE 21 17 0,qE 22 17 1,qM 8 21,qM 9 22] (oS [qM 23 9] (cY 23 (.ops [qM 24 5,qM 25 8,qH 26 25,qY 27 24 26,qM 5 27]) .skip))))) (.ops [qK 28 .add 13 1,qM 13 28])))
def ZMK:C:=oS [qO 2 0,ZhT 4 1] (oS [ZhT 5 1] (.seq (oS [qF 10 1 2,qL 11 10,qN 12 11,qW 13 0] (.block 0 (.loop [1,5,11,12,13] [5] ZCg))) (oS [qM 29 5,qC 30 144 29] (oR [qM 31 5,qM 4 31]))))
def ZGN:FnI:=⟨2,ZMK,[(4,none)]⟩
def ZNI:C:=oS [qO 2 0,qW 3 0,qff 4] (.seq (.draw [qF 5 0 2,qL 6 5,uF 7 1 2 [0,1],uL 8 7 [0,1],uL 9 1 [0,1,2,3],oM 10 (.bin .eql (.t 8) (.t 9)) [0,1],uM 3 6 [2,3,4,5],qM 4 10]) .ret)
def ZGA:FnI:=⟨2,ZNI,[(3,none),(4,none)]⟩
def ZCG:C:=oS [qB 9 .lss 8 7] (.seq (cX 9 0) (.seq (.block 1 (oS [qM 10 8,qM 5 10] (oS [qM 11 1,qM 12 0,qM 13 5,qI 14 5 12 13,qA 15 5 14,qV 16 11 15] (oC 16 [qM 17 5,qM 4 17])))) (.ops [qK 18 .add 8 1,qM 8 18])))
def ZL2:C:=oS [qW 4 0] (.seq (oS [qM 6 0,qN 7 6,qW 8 0] (.block 0 (.loop [0,1,7,8] [4] ZCG))) (oR [qW 4 (-1)]))
def ZFa:FnI:=⟨2,ZL2,[(4,none)]⟩
def ZyH:C:=.block 1 (oS [qM 21 2,qM 22 1,qB 23 .sub 21 22,qM 12 23] (.seq (oS [qM 24 12,qK 25 .leq 24 12] (oC 25 [qM 26 0,qM 27 1,qM 28 2,qM 29 4,oB 30 (.call 145 [.t 26,.t 27,.t 28,.t 29])])) (.seq (oS [qM 31 3,qK 32 .eql 31 0] (oC 32 [qM 33 0,qM 34 1,qM 35 2,qM 36 4,oB 37 (.call 146 [.t 33,.t 34,.t 35,.t 36])])) (.seq (oS [qM 38 10,qU 39 38] (cY 39 (oS [qM 40 0,qM 41 1,qM 42 2,qM 43 4,oB 44 (.call 147 [.t 40,.t 41,.t 42,.t 43])] (.ops [qM 45 3,qK 46 .sub 45 1,qM 3 46])) .skip)) (oS [qM 48 0,qM 49 1,qM 50 2,qM 51 4,oB 52 (.call 148 [.t 48,.t 49,.t 50,.t 51]),qM 47 52,qE 53 47 0,qE 54 47 1,qM 13 53,qM 14 54] (.seq (oS [qM 55 14,qK 56 .eql 55 2] (cY 56 (oS [qM 57 0,qM 58 1,qM 59 2,qM 60 4,oB 61 (.call 149 [.t 57,.t 58,.t 59,.t 60])] (oS [qM 62 2,qK 63 .sub 62 1,qM 64 13,qM 65 1,qB 66 .sub 64 65,qB 67 .sub 63 66,qM 13 67] (.ops [qW 14 1]))) .skip)) (.seq (oS [qM 68 10,qM 69 68,vM 70 11 69 true,qP 71 69 70,qM 72 71,vM 73 14 72 true,vK 74 .eql 73 1 72 true,qP 75 72 74] (cY 75 (oS [qM 76 0,qM 77 1,qM 78 2,qM 79 4,oB 80 (.call 150 [.t 76,.t 77,.t 78,.t 79])] (cY 80 .ret .skip)) .skip)) (.seq (.seq (.draw [qM 81 1,qK 82 .gtr 81 0,qM 83 82,vM 84 4 83 true,wM 85 0 83 true [3],wM 86 1 83 true [3,4],⟨some 87,.bin .sub (.t 86) (iN 1),some (83,true),[3,4],0⟩,wI 88 1 85 87 83 true [3],wL 89 88 83 true [3],wM 90 0 83 true [3,4,5,6,7,8],wM 91 13 83 true [3,4,5,6,7,8,9],wI 92 1 90 91 83 true [3,4,5,6,7,8],wL 93 92 83 true [3,4,5,6,7,8],oG 94 (.callv (.t 84) [.t 89,.t 93]) 83 true,vK 95 .lss 94 0 83 true,vU 96 95 83 true,qP 97 83 96]) (cY 97 (oS [qM 98 0,qM 99 1,qM 100 2,qM 101 13,qM 102 4,oB 103 (.call 151 [.t 98,.t 99,.t 100,.t 101,.t 102]),qM 15 103] (oS [qM 104 15,qM 1 104] (.exit 1))) .skip)) (oS [qM 106 0,qM 107 1,qM 108 2,qM 109 13,qM 110 4,oB 111 (.call 152 [.t 106,.t 107,.t 108,.t 109,.t 110]),qM 105 111,qE 112 105 0,qE 113 105 1,qM 16 112,qM 17 113] (oS [qM 114 17,qM 11 114] (oS [qM 115 16,qM 116 1,qB 117 .sub 115 116,qM 118 2,qM 119 16,qB 120 .sub 118 119,qM 18 117,qM 19 120] (oS [qM 121 12,qK 122 .quo 121 8,qM 20 122] (oS [qM 123 18,qM 124 19,qB 125 .lss 123 124] (cY 125 (oS [qM 126 18,qM 127 20,qB 128 .geq 126 127,qM 10 128] (oS [qM 129 0,qM 130 1,qM 131 16,qM 132 3,qM 133 4,oB 134 (.call 122 [.t 129,.t 130,.t 131,.t 132,.t 133])] (.ops [qM 135 16,qK 136 .add 135 1,qM 1 136]))) (oS [qM 137 19,qM 138 20,qB 139 .geq 137 138,qM 10 139] (oS [qM 140 0,qM 141 16,qK 142 .add 141 1,qM 143 2,qM 144 3,qM 145 4,oB 146 (.call 122 [.t 140,.t 142,.t 143,.t 144,.t 145])] (.ops [qM 147 16,qM 2 147])))))))))))))))))
def ZNr:C:=oS [qtt 10] (oS [qtt 11] (.block 0 (.loop [0,1,2,3,4,10,11] [] ZyH)))
def ZBZ:FnI:=⟨5,ZNr,[]⟩
def ZNf:C:=oS [qW 2 0] (.seq (.cond bF (oR [qM 3 0,oB 4 (.conv .u32 (.t 3)),qC 5 153 4,qM 2 5]) .skip) (oR [qM 6 0,qC 7 154 6,qM 2 7]))
def ZG3:FnI:=⟨1,ZNf,[(2,none)]⟩
def ZL1:C:=oS [qO 1 0,qff 2] (oS [qF 6 0 1,qL 7 6,qC 8 81 7,qM 5 8,qE 9 5 0,qE 10 5 1,qM 3 9,qM 4 10] (oR [qM 11 4,qM 12 11,vF 13 0 1 12 true,vL 14 13 12 true,vK 15 .leq 14 4096 12 true,qP 16 12 15,qM 17 16,vF 18 1 1 17 true,vL 19 18 17 true,vK 20 .geq 19 1 17 true,qP 21 17 20,qM 22 21,vF 23 1 1 22 true,vL 24 23 22 true,vF 25 0 1 22 true,vL 26 25 22 true,vB 27 .leq 24 26 22 true,qP 28 22 27,qM 2 28]))
def ZH9:FnI:=⟨1,ZL1,[(2,none)]⟩
def ZCt:C:=.seq (oS [qM 5 3,qF 6 2 1,qL 7 6,qN 8 7,qB 9 .lss 5 8] (cX 9 0)) (.seq (.block 1 (oS [qF 12 2 1,qL 13 12,qM 14 3,qI 15 3 13 14,qA 16 3 15,oB 4 (.alloc (.d (.agg [zD,zD,zD]))),qS 3 4 16] (oS [qF 17 0 4,qL 18 17,qK 19 .lss 18 0,qM 20 19,vF 21 0 4 20 false,vL 22 21 20 false,vK 23 .gtr 22 5 20 false,qJ 24 20 23,qM 25 24,vF 26 1 4 25 false,vL 27 26 25 false,vK 28 .lss 27 0 25 false,qJ 29 25 28,qM 30 29,vF 31 1 4 30 false,vL 32 31 30 false,vK 33 .gtr 32 2147483647 30 false,qJ 34 30 33,qM 35 34,vF 36 2 4 35 false,vL 37 36 35 false,vK 38 .lss 37 1 35 false,qJ 39 35 38,qM 40 39,vF 41 2 4 40 false,vL 42 41 40 false,vK 43 .gtr 42 100 40 false,qJ 44 40 43] (oC 44 [qff 2])))) (.ops [qM 10 3,qK 11 .add 10 1,qM 3 11]))
def ZMo:C:=oS [qO 1 0,qff 2] (.seq (oS [qW 3 0] (.block 0 (.loop [1,3] [2] ZCt))) (oR [qtt 2]))
def ZGn:FnI:=⟨1,ZMo,[(2,none)]⟩
def ZCc:C:=.seq (oS [qM 37 5,qM 38 3,qB 39 .lss 37 38] (cX 39 2)) (.seq (.block 3 (.seq (.draw [qF 42 3 1,qL 43 42,uM 44 5 [0,1],qI 45 2 43 44,qF 46 0 45,qL 47 46,uF 48 0 4 [0,1,2,3,4,5],uL 49 48 [0,1,2,3,4,5],qB 50 .eql 47 49,qM 51 50,vF 52 3 1 51 true,vL 53 52 51 true,wM 54 5 51 true [10,11],vI 55 2 53 54 51 true,vF 56 1 55 51 true,vL 57 56 51 true,wF 58 1 4 51 true [10,11,12,13,14,15],wL 59 58 51 true [10,11,12,13,14,15],vB 60 .eql 57 59 51 true,qP 61 51 60]) (oC 61 [qff 2]))) (.ops [qM 40 5,qK 41 .add 40 1,qM 5 41]))
def ZB9:C:=.seq (oS [qM 6 3,qF 7 3 1,qL 8 7,qN 9 8,qB 10 .lss 6 9] (cX 10 0)) (.seq (.block 1 (oS [qF 13 3 1,qL 14 13,qM 15 3,qI 16 2 14 15,qA 17 2 16,oB 4 (.alloc (.d (.agg [zD,zD]))),qS 2 4 17] (.seq (oS [qA 18 6 1,qF 19 0 4,qL 20 19,qD 21 155 18 20,qU 22 21,qM 23 22,vA 24 6 1 23 false,vF 25 1 4 23 false,vL 26 25 23 false,vD 27 155 24 26 23 false,vU 28 27 23 false,qJ 29 23 28,qM 30 29,vF 31 0 4 30 false,vL 32 31 30 false,vF 33 1 4 30 false,vL 34 33 30 false,vB 35 .eql 32 34 30 false,qJ 36 30 35] (oC 36 [qff 2])) (oS [qW 5 0] (.block 2 (.loop [1,3,4,5] [1,2,3] ZCc)))))) (.ops [qM 11 3,qK 12 .add 11 1,qM 3 12]))
def ZNa:C:=oS [qO 1 0,qff 2] (.seq (oS [qW 3 0] (.block 0 (.loop [1,3] [2] ZB9))) (oR [qtt 2]))
def ZGS:FnI:=⟨1,ZNa,[(2,none)]⟩
def ZCM:C:=.seq (oS [qM 54 5,qM 55 3,qB 56 .lss 54 55] (cX 56 2)) (.seq (.block 3 (.seq (.draw [qF 59 4 1,qL 60 59,uM 61 5 [0,1],qI 62 3 60 61,qF 63 1 62,qL 64 63,uF 65 1 4 [0,1,2,3,4,5],uL 66 65 [0,1,2,3,4,5],qB 67 .eql 64 66,qM 68 67,vF 69 4 1 68 true,vL 70 69 68 true,wM 71 5 68 true [10,11],vI 72 3 70 71 68 true,vF 73 2 72 68 true,vL 74 73 68 true,wF 75 2 4 68 true [10,11,12,13,14,15],wL 76 75 68 true [10,11,12,13,14,15],vB 77 .eql 74 76 68 true,qP 78 68 77]) (oC 78 [qff 2]))) (.ops [qM 57 5,qK 58 .add 57 1,qM 5 58]))
def ZCj:C:=.seq (oS [qM 6 3,qF 7 4 1,qL 8 7,qN 9 8,qB 10 .lss 6 9] (cX 10 0)) (.seq (.block 1 (oS [qF 13 4 1,qL 14 13,qM 15 3,qI 16 3 14 15,qA 17 3 16,oB 4 (.alloc (.d (.agg [zD,zD,zD]))),qS 3 4 17] (.seq (.seq (.draw [qA 18 6 1,uF 19 0 4 [0],uL 20 19 [0],qD 21 155 18 20,qU 22 21,qM 23 22,vA 24 6 1 23 false,wF 25 1 4 23 false [6],wL 26 25 23 false [6],vD 27 155 24 26 23 false,vU 28 27 23 false,qJ 29 23 28,qM 30 29,vF 31 0 4 30 false,vL 32 31 30 false,wF 33 1 4 30 false [13,14],wL 34 33 30 false [13,14],vB 35 .eql 32 34 30 false,qJ 36 30 35,qM 37 36,vF 38 2 4 37 false,vL 39 38 37 false,vK 40 .lss 39 1 37 false,qJ 41 37 40,qM 42 41,vF 43 2 4 42 false,vL 44 43 42 false,wF 45 2 1 42 false [25,26],wL 46 45 42 false [25,26],wF 47 1 4 42 false [25,26,27,28],wL 48 47 42 false [25,26,27,28],wI 49 3 46 48 42 false [25,26],wF 50 2 49 42 false [25,26],wL 51 50 42 false [25,26],vB 52 .geq 44 51 42 false,qJ 53 42 52]) (oC 53 [qff 2])) (oS [qW 5 0] (.block 2 (.loop [1,3,4,5] [1,2,3] ZCM)))))) (.ops [qM 11 3,qK 12 .add 11 1,qM 3 12]))
def ZNc:C:=oS [qO 1 0,qff 2] (.seq (oS [qW 3 0] (.block 0 (.loop [1,3] [2] ZCj))) (oR [qtt 2]))
def ZGY:FnI:=⟨1,ZNc,[(2,none)]⟩
def ZCW:C:=.seq (oS [qM 30 5,qF 31 0 4,qL 32 31,qN 33 32,qB 34 .lss 30 33] (cX 34 2)) (.seq (.block 3 (.seq (.draw [qF 37 1 4,qL 38 37,uF 39 0 4 [0,1],uL 40 39 [0,1],uM 41 5 [0,1,2,3],uI 42 1 40 41 [0,1],uL 43 42 [0,1],qD 44 29 38 43]) (oC 44 [qff 2]))) (.ops [qM 35 5,qK 36 .add 35 1,qM 5 36]))
def ZCP:C:=.seq (oS [qM 6 3,qF 7 5 1,qL 8 7,qN 9 8,qB 10 .lss 6 9] (cX 10 0)) (.seq (.block 1 (oS [qF 13 5 1,qL 14 13,qM 15 3,qI 16 2 14 15,qA 17 2 16,oB 4 (.alloc (.agg Lz5)),qS 2 4 17] (.seq (oS [qA 18 6 1,qF 19 0 4,qL 20 19,qD 21 156 18 20,qU 22 21,qM 23 22,vA 24 6 1 23 false,vF 25 1 4 23 false,vL 26 25 23 false,vD 27 156 24 26 23 false,vU 28 27 23 false,qJ 29 23 28] (oC 29 [qff 2])) (oS [qW 5 0] (.block 2 (.loop [1,3,4,5] [1,2,3] ZCW)))))) (.ops [qM 11 3,qK 12 .add 11 1,qM 3 12]))
def ZLL:C:=oS [qO 1 0,qff 2] (.seq (oS [qW 3 0] (.block 0 (.loop [1,3] [2] ZCP))) (oR [qtt 2]))
def ZGW:FnI:=⟨1,ZLL,[(2,none)]⟩
def ZC6:C:=.seq (oS [qM 14 8,qM 15 7,qN 16 15,qB 17 .lss 14 16] (cX 17 0)) (.seq (.block 1 (.seq (.draw [qF 20 4 2,qL 21 20,uM 22 7 [0,1],uM 23 8 [0,1,2],uI 24 1 22 23 [0,1],uL 25 24 [0,1],qI 26 3 21 25,qF 27 2 26,qL 28 27,qM 9 28]) (oS [qM 29 5,qM 30 9,qM 31 6,qB 32 .sub 30 31,qH 33 32,qY 34 29 33,qM 5 34] (.ops [qM 35 9,qM 6 35])))) (.ops [qM 18 8,qK 19 .add 18 1,qM 8 19]))
def ZMU:C:=oS [qO 2 0,ZhT 4 1] (oS [oB 10 (.bslice 1 [zD] 0 []),qM 5 10,qW 6 0] (oS [qA 11 6 2,qM 12 1,qD 13 157 11 12,qM 7 13] (.seq (oS [qW 8 0] (.block 0 (.loop [1,2,5,6,7,8] [1,2,5,6] ZC6))) (oR [qM 36 5,qF 37 2 2,qL 38 37,qM 39 1,qI 40 3 38 39,qF 41 2 40,qL 42 41,qM 43 6,qB 44 .sub 42 43,qH 45 44,qY 46 36 45,qM 4 46]))))
def ZHj:FnI:=⟨2,ZMU,[(4,none)]⟩
def ZB2:C:=.seq (oS [qM 7 6,qM 8 1,qB 9 .lss 7 8] (cX 9 0)) (.seq (.block 1 (.ops [qM 12 5,qA 13 6 2,qM 14 6,qD 15 129 13 14,qN 16 15,qB 17 .add 12 16,qM 5 17])) (.ops [qM 10 6,qK 11 .add 10 1,qM 6 11]))
def ZM7:C:=oS [qO 2 0,qW 4 0] (oS [qW 5 0] (.seq (oS [qW 6 0] (.block 0 (.loop [1,2,5,6] [5] ZB2))) (oR [qM 18 5,qM 4 18])))
def ZGH:FnI:=⟨2,ZM7,[(4,none)]⟩
def ZMO:C:=oS [qO 2 0,qW 4 0] (oR [qA 5 6 2,qM 6 1,qK 7 .add 6 1,qD 8 130 5 7,qK 9 .sub 8 1,qM 4 9])
def ZHL:FnI:=⟨2,ZMO,[(4,none)]⟩
def ZCH:C:=.seq (oS [qM 11 6,qM 12 5,qN 13 12,qB 14 .lss 11 13] (cX 14 0)) (.seq (.block 1 (.seq (.draw [qF 17 4 2,qL 18 17,uM 19 5 [0,1],uM 20 6 [0,1,2],uI 21 1 19 20 [0,1],uL 22 21 [0,1],qI 23 3 18 22,qF 24 2 23,qL 25 24,uF 26 2 3 [0,1,2,3,4,5,6,7,8],uL 27 26 [0,1,2,3,4,5,6,7,8],qB 28 .eql 25 27]) (oC 28 [qA 29 6 2,qF 30 1 3,qL 31 30,qD 32 130 29 31,qM 33 6,qB 34 .add 32 33,qK 35 .add 34 1,qM 4 35]))) (.ops [qM 15 6,qK 16 .add 15 1,qM 6 16]))
def ZMq:C:=oS [qO 2 0,qO 3 1,qW 4 0] (oS [qA 7 6 2,qF 8 1 3,qL 9 8,qD 10 157 7 9,qM 5 10] (.seq (oS [qW 6 0] (.block 0 (.loop [2,3,5,6] [4] ZCH))) (oR [qW 4 (-1)])))
def ZHS:FnI:=⟨2,ZMq,[(4,none)]⟩
def ZCO:C:=.seq (oS [qM 17 3,qF 18 0 1,qL 19 18,qN 20 19,qB 21 .lss 17 20] (cX 21 0)) (.seq (.block 1 (oS [qF 24 0 1,qL 25 24,qM 26 3,qI 27 1 25 26,qL 28 27,qK 29 .lss 28 0,qM 30 29,vF 31 0 1 30 false,vL 32 31 30 false,vM 33 3 30 false,vI 34 1 32 33 30 false,vL 35 34 30 false,vK 36 .gtr 35 1000 30 false,qJ 37 30 36] (oC 37 [qW 2 41]))) (.ops [qM 22 3,qK 23 .add 22 1,qM 3 23]))
def ZCU:C:=.seq (oS [qM 69 6,qM 70 4,qB 71 .lss 69 70] (cX 71 4)) (.seq (.block 5 (.seq (.draw [qF 74 1 1,qL 75 74,uM 76 6 [0,1],qI 77 2 75 76,qA 78 2 77,uA 79 2 5 [0,1,2,3,4],oB 80 (.eqv [false,false] false (.t 78) (.t 79))]) (oC 80 [qW 2 42]))) (.ops [qM 72 6,qK 73 .add 72 1,qM 6 73]))
def ZCd:C:=.seq (oS [qM 38 4,qF 39 1 1,qL 40 39,qN 41 40,qB 42 .lss 38 41] (cX 42 2)) (.seq (.block 3 (oS [qF 45 1 1,qL 46 45,qM 47 4,qI 48 2 46 47,qA 49 2 48,oB 5 (.alloc (.d (.agg [zD,zD]))),qS 2 5 49] (.seq (oS [qA 50 2 1,qF 51 0 5,qL 52 51,qD 53 158 50 52,qU 54 53,qM 55 54,vA 56 2 1 55 false,vF 57 1 5 55 false,vL 58 57 55 false,vD 59 158 56 58 55 false,vU 60 59 55 false,qJ 61 55 60,qM 62 61,vF 63 0 5 62 false,vL 64 63 62 false,vF 65 1 5 62 false,vL 66 65 62 false,vB 67 .eql 64 66 62 false,qJ 68 62 67] (oC 68 [qW 2 42])) (oS [qW 6 0] (.block 4 (.loop [1,4,5,6] [1,2,4] ZCU)))))) (.ops [qM 43 4,qK 44 .add 43 1,qM 4 44]))
def ZLP:C:=oS [qO 1 0,qW 2 0] (.seq (oS [qF 7 0 1,qL 8 7,qN 9 8,qK 10 .gtr 9 64,qM 11 10,vF 12 1 1 11 false,vL 13 12 11 false,vN 14 13 11 false,vK 15 .gtr 14 256 11 false,qJ 16 11 15] (oC 16 [qW 2 40])) (.seq (oS [qW 3 0] (.block 0 (.loop [1,3] [1,2] ZCO))) (.seq (oS [qW 4 0] (.block 2 (.loop [1,4] [2] ZCd))) (oR [qW 2 0]))))
def ZFS:FnI:=⟨1,ZLP,[(2,none)]⟩
def ZCk:C:=.seq (oS [qM 20 7,qF 21 1 2,qL 22 21,qN 23 22,qB 24 .lss 20 23] (cX 24 2)) (.seq (.block 3 (oS [qF 27 1 2,qL 28 27,qM 29 7,qI 30 2 28 29,qA 31 2 30,oB 8 (.alloc (.d (.agg [zD,zD]))),qS 2 8 31] (oS [qF 32 0 8,qL 33 32,qM 34 1,qB 35 .eql 33 34,qM 36 35,vM 37 5 36 false,vF 38 0 8 36 false,vL 39 38 36 false,vI 40 1 37 39 36 false,vL 41 40 36 false,qJ 42 36 41] (cY 42 (.ops [qM 43 5,qF 44 1 8,qL 45 44,qI 46 1 43 45,oA (.store 1 (.t 46) bT)]) .skip)))) (.ops [qM 25 7,qK 26 .add 25 1,qM 7 26]))
def ZCT:C:=.seq (oS [qM 13 6,qF 14 0 2,qL 15 14,qN 16 15,qB 17 .lss 13 16] (cX 17 0)) (.seq (.block 1 (oS [qW 7 0] (.block 2 (.loop [1,2,5,6,7] [1,2,5,6] ZCk)))) (.ops [qM 18 6,qK 19 .add 18 1,qM 6 19]))
def ZLW:C:=oS [qO 2 0,ZhT 4 1] (oS [qF 9 0 2,qL 10 9,qN 11 10,oB 12 (.mkslice 1 [.bool false] (.t 11) (.t 11)),qM 5 12] (.seq (oS [qW 6 0] (.block 0 (.loop [1,2,5,6] [5] ZCT))) (oR [qM 47 5,qM 4 47])))
def ZEE:FnI:=⟨2,ZLW,[(4,none)]⟩
def ZM0:C:=oS [qW 2 0] (.seq (.draw [qM 3 0,oB 4 (.bin .shr (.t 3) (.c (.d (.int .u64 24)))),oB 5 (.indexS (.c (.d (.str zT0))) (.t 4)),uM 6 0 [0,1,2],oM 7 (.bin .shr (.t 6) (.c (.d (.int .u64 16)))) [0,1,2],oM 8 (.bin .and (.t 7) (.c (.d (.int .u32 255)))) [0,1,2],oM 9 (.indexS (.c (.d (.str zT0))) (.t 8)) [0,1,2],qB 10 .add 5 9,uM 11 0 [0,1,2,3,4,5,6,7],oM 12 (.bin .shr (.t 11) (.c (.d (.int .u64 8)))) [0,1,2,3,4,5,6,7],oM 13 (.bin .and (.t 12) (.c (.d (.int .u32 255)))) [0,1,2,3,4,5,6,7],oM 14 (.indexS (.c (.d (.str zT0))) (.t 13)) [0,1,2,3,4,5,6,7],qB 15 .add 10 14,uM 16 0 [0,1,2,3,4,5,6,7,8,9,10,11,12],oM 17 (.bin .and (.t 16) (.c (.d (.int .u32 255)))) [0,1,2,3,4,5,6,7,8,9,10,11,12],oM 18 (.indexS (.c (.d (.str zT0))) (.t 17)) [0,1,2,3,4,5,6,7,8,9,10,11,12],qB 19 .add 15 18,oB 20 (.conv .i64 (.t 19)),qM 2 20]) .ret)
def ZJA:FnI:=⟨1,ZM0,[(2,none)]⟩
def ZMu:C:=oS [qW 2 0] (oS [qM 3 0,oB 4 (.bin .shr (.t 3) (.c (.d (.int .u64 1)))),oB 5 (.bin .and (.t 4) (.c (.d (.int .u64 6148914691236517205)))),qM 6 0,oB 7 (.bin .and (.t 6) (.c (.d (.int .u64 6148914691236517205)))),qB 8 .add 5 7,qM 0 8] (oS [qM 9 0,oB 10 (.bin .shr (.t 9) (.c (.d (.int .u64 2)))),oB 11 (.bin .and (.t 10) (.c (.d (.int .u64 3689348814741910323)))),qM 12 0,oB 13 (.bin .and (.t 12) (.c (.d (.int .u64 3689348814741910323)))),qB 14 .add 11 13,qM 0 14] (oS [qM 15 0,oB 16 (.bin .shr (.t 15) (.c (.d (.int .u64 4)))),qM 17 0,qB 18 .add 16 17,oB 19 (.bin .and (.t 18) (.c (.d (.int .u64 1085102592571150095)))),qM 0 19] (oS [qM 20 0,qM 21 0,oB 22 (.bin .shr (.t 21) (.c (.d (.int .u64 8)))),qB 23 .add 20 22,qM 0 23] (oS [qM 24 0,qM 25 0,oB 26 (.bin .shr (.t 25) (.c (.d (.int .u64 16)))),qB 27 .add 24 26,qM 0 27] (oS [qM 28 0,qM 29 0,oB 30 (.bin .shr (.t 29) (.c (.d (.int .u64 32)))),qB 31 .add 28 30,qM 0 31] (oR [qM 32 0,oB 33 (.conv .i64 (.t 32)),qK 34 .and 33 127,qM 2 34])))))))
def ZGP:FnI:=⟨1,ZMu,[(2,none)]⟩
def ZLT:C:=oS [qW 2 0] (.seq (oS [qM 3 0,oB 4 (.bin .eql (.t 3) (.c (.d (.int .u32 0))))] (oC 4 [qW 2 32])) (oR [qM 5 0,qM 6 0,oB 7 (.un .neg (.t 6)),qB 8 .and 5 7,oB 9 (.bin .mul (.t 8) (.c (.d (.int .u32 125613361)))),oB 10 (.bin .shr (.t 9) (.c (.d (.int .u64 27)))),oB 11 (.iaddrA 32 1 (.c (.d (.rptr ZMN))) (.t 10)),qL 12 11,oB 13 (.conv .i64 (.t 12)),qM 2 13]))
def ZJv:FnI:=⟨1,ZLT,[(2,none)]⟩
def ZLO:C:=oS [qW 2 0] (.seq (oS [qM 3 0,oB 4 (.bin .eql (.t 3) (.c (.d (.int .u64 0))))] (oC 4 [qW 2 64])) (oR [qM 5 0,qM 6 0,oB 7 (.un .neg (.t 6)),qB 8 .and 5 7,oB 9 (.bin .mul (.t 8) (.c (.d (.int .u64 285870213051353865)))),oB 10 (.bin .shr (.t 9) (.c (.d (.int .u64 58)))),oB 11 (.iaddrA 64 1 (.c (.d (.rptr ZGw))) (.t 10)),qL 12 11,oB 13 (.conv .i64 (.t 12)),qM 2 13]))
def ZFQ:FnI:=⟨1,ZLO,[(2,none)]⟩
def ZCx:C:=oS [qB 9 .lss 8 7] (.seq (cX 9 0) (.seq (.block 1 (oS [qM 10 8,qM 5 10] (oS [qM 11 1,qM 12 0,qM 13 5,qI 14 3 12 13,qA 15 3 14,qV 16 11 15] (oC 16 [qM 17 5,qM 4 17])))) (.ops [qK 18 .add 8 1,qM 8 18])))
def ZMv:C:=oS [qW 4 0] (.seq (oS [qM 6 0,qN 7 6,qW 8 0] (.block 0 (.loop [0,1,7,8] [4] ZCx))) (oR [qW 4 (-1)]))
def ZGh:FnI:=⟨2,ZMv,[(4,none)]⟩
def ZCp:C:=oS [qB 9 .lss 8 7] (.seq (cX 9 0) (.seq (.block 1 (oS [qM 10 8,qM 5 10] (.seq (.draw [qA 11 2 3,uM 12 0 [0],uM 13 5 [0,1],uI 14 2 12 13 [0],uA 15 2 14 [0],oB 16 (.eqv [false,false] false (.t 11) (.t 15))]) (oC 16 [qM 17 5,qM 4 17])))) (.ops [qK 18 .add 8 1,qM 8 18])))
def ZMT:C:=oS [qO 3 1,qW 4 0] (.seq (oS [qM 6 0,qN 7 6,qW 8 0] (.block 0 (.loop [0,3,7,8] [4] ZCp))) (oR [qW 4 (-1)]))
def ZG1:FnI:=⟨2,ZMT,[(4,none)]⟩
def ZDg:C:=oS [qB 9 .lss 8 7] (.seq (cX 9 0) (.seq (.block 1 (oS [qM 10 8,qM 5 10] (oS [qM 11 1,qM 12 0,qM 13 5,qI 14 3 12 13,qA 15 3 14,qV 16 11 15] (oC 16 [qM 17 5,qM 4 17])))) (.ops [qK 18 .add 8 1,qM 8 18])))
def ZMb:C:=oS [qW 4 0] (.seq (oS [qM 6 0,qN 7 6,qW 8 0] (.block 0 (.loop [0,1,7,8] [4] ZDg))) (oR [qW 4 (-1)]))
def ZGF:FnI:=⟨2,ZMb,[(4,none)]⟩
def Zup:C:=oS [qB 9 .lss 8 7] (.seq (cX 9 0) (.seq (.block 1 (oS [qM 10 8,qM 5 10] (oS [qM 11 1,qM 12 0,qM 13 5,qI 14 1 12 13,qL 15 14,qV 16 11 15] (oC 16 [qM 17 5,qM 4 17])))) (.ops [qK 18 .add 8 1,qM 8 18])))
def ZNe:C:=oS [qW 4 0] (.seq (oS [qM 6 0,qN 7 6,qW 8 0] (.block 0 (.loop [0,1,7,8] [4] Zup))) (oR [qW 4 (-1)]))
def ZzV:FnI:=⟨2,ZNe,[(4,none)]⟩
def ZMi:C:=oS [qW 5 0] (.seq (.draw [qF 6 4 2,qL 7 6,uM 8 0 [0,1],qI 9 3 7 8,qF 10 2 9,qL 11 10,uF 12 4 2 [0,1,2,3,4,5],uL 13 12 [0,1,2,3,4,5],uM 14 1 [0,1,2,3,4,5,6,7],uI 15 3 13 14 [0,1,2,3,4,5],uF 16 2 15 [0,1,2,3,4,5],uL 17 16 [0,1,2,3,4,5],qB 18 .sub 11 17,qM 5 18]) .ret)
def ZHi:FnI:=⟨3,ZMi,[(5,none)]⟩
def ZNb:C:=oR [⟨none,.sortI (.t 0),none,[],0⟩]
def ZJz:FnI:=⟨1,ZNb,[]⟩
def Zyq:C:=.seq (.seq (.draw [qM 18 9,uM 19 1 [0],qB 20 .gtr 18 19,qM 21 20,vM 22 3 21 true,wM 23 0 21 true [4],wM 24 9 21 true [4,5],wI 25 1 23 24 21 true [4],wL 26 25 21 true [4],wM 27 0 21 true [4,5,6,7,8],wM 28 9 21 true [4,5,6,7,8,9],⟨some 29,.bin .sub (.t 28) (iN 1),some (21,true),[4,5,6,7,8,9],0⟩,wI 30 1 27 29 21 true [4,5,6,7,8],wL 31 30 21 true [4,5,6,7,8],oG 32 (.callv (.t 22) [.t 26,.t 31]) 21 true,vK 33 .lss 32 0 21 true,qP 34 21 33]) (cX 34 2)) (.seq (.block 3 (.draw [qM 37 0,uM 38 9 [0],uM 39 0 [0,1],uM 40 9 [0,1,2],oM 41 (.bin .sub (.t 40) (iN 1)) [0,1,2],uM 42 0 [0,1,2,3,4],uM 43 9 [0,1,2,3,4,5],oM 44 (.bin .sub (.t 43) (iN 1)) [0,1,2,3,4,5],uI 45 1 42 44 [0,1,2,3,4],uL 46 45 [0,1,2,3,4],uM 47 0 [0,1,2,3,4,5,6,7,8,9],uM 48 9 [0,1,2,3,4,5,6,7,8,9,10],uI 49 1 47 48 [0,1,2,3,4,5,6,7,8,9],uL 50 49 [0,1,2,3,4,5,6,7,8,9],uI 51 1 37 38 [2,3,4],qX 1 51 46 4,qI 52 1 39 41,qX 1 52 50 4])) (.ops [qM 35 9,qK 36 .sub 35 1,qM 9 36]))
def ZyA:C:=.seq (oS [qM 12 8,qM 13 2,qB 14 .lss 12 13] (cX 14 0)) (.seq (.block 1 (oS [qM 17 8,qM 9 17] (.block 2 (.loop [0,1,2,3,8,9] [0,1,2,3,8] Zyq)))) (.ops [qM 15 8,qK 16 .add 15 1,qM 8 16]))
def ZNu:C:=oS [qM 10 1,qK 11 .add 10 1,qM 8 11] (.block 0 (.loop [0,1,2,3,8] [] ZyA))
def ZCm:FnI:=⟨4,ZNu,[]⟩
def ZxW:C:=.seq (oS [qM 20 11,qK 21 .geq 20 0] (cX 21 0)) (.seq (.block 1 (.ops [qM 24 0,qM 25 11,qM 26 10,qM 27 8,qM 28 3,oB 29 (.call 160 [.t 24,.t 25,.t 26,.t 27,.t 28])])) (.ops [qM 22 11,qK 23 .sub 22 1,qM 11 23]))
def ZxZ:C:=.seq (oS [qM 32 12,qK 33 .geq 32 0] (cX 33 2)) (.seq (.block 3 (.seq (.draw [qM 36 0,uM 37 8 [0],uM 38 0 [0,1],uM 39 8 [0,1,2],uM 40 12 [0,1,2,3],oM 41 (.bin .add (.t 39) (.t 40)) [0,1,2],uM 42 0 [0,1,2,3,4,5],uM 43 8 [0,1,2,3,4,5,6],uM 44 12 [0,1,2,3,4,5,6,7],oM 45 (.bin .add (.t 43) (.t 44)) [0,1,2,3,4,5,6],uI 46 1 42 45 [0,1,2,3,4,5],uL 47 46 [0,1,2,3,4,5],uM 48 0 [0,1,2,3,4,5,6,7,8,9,10,11],uM 49 8 [0,1,2,3,4,5,6,7,8,9,10,11,12],uI 50 1 48 49 [0,1,2,3,4,5,6,7,8,9,10,11],uL 51 50 [0,1,2,3,4,5,6,7,8,9,10,11],uI 52 1 36 37 [2,3,4,5],qX 1 52 47 4,qI 53 1 38 41,qX 1 53 51 4]) (.ops [qM 54 0,qM 55 9,qM 56 12,qM 57 8,qM 58 3,oB 59 (.call 160 [.t 54,.t 55,.t 56,.t 57,.t 58])]))) (.ops [qM 34 12,qK 35 .sub 34 1,qM 12 35]))
def ZMR:C:=oS [qM 13 1,qM 8 13] (oS [qW 9 0] (oS [qM 14 2,qM 15 1,qB 16 .sub 14 15,qM 10 16] (.seq (oS [qM 17 10,qK 18 .sub 17 1,qK 19 .quo 18 2,qM 11 19] (.block 0 (.loop [0,3,8,9,10,11] [0,3,8,9,10] ZxW))) (oS [qM 30 10,qK 31 .sub 30 1,qM 12 31] (.block 2 (.loop [0,3,8,9,12] [] ZxZ))))))
def ZDj:FnI:=⟨4,ZMR,[]⟩
def ZxK:C:=.seq (oS [qM 28 11,qM 29 1,qM 30 8,qK 31 .quo 30 4,qK 32 .mul 31 2,qB 33 .add 29 32,qK 34 .add 33 1,qB 35 .leq 28 34] (cX 35 0)) (.seq (.block 1 (oS [qC 38 162 9,qM 39 10,oB 40 (.bin .sub (.t 39) (.c (.d (.int .u64 1)))),qB 41 .and 38 40,oB 42 (.conv .i64 (.t 41)),qM 12 42] (.seq (oS [qM 43 12,qM 44 8,qB 45 .geq 43 44] (cY 45 (.ops [qM 46 12,qM 47 8,qB 48 .sub 46 47,qM 12 48]) .skip)) (.draw [qM 49 0,uM 50 11 [0],uM 51 0 [0,1],uM 52 1 [0,1,2],uM 53 12 [0,1,2,3],oM 54 (.bin .add (.t 52) (.t 53)) [0,1,2],uM 55 0 [0,1,2,3,4,5],uM 56 1 [0,1,2,3,4,5,6],uM 57 12 [0,1,2,3,4,5,6,7],oM 58 (.bin .add (.t 56) (.t 57)) [0,1,2,3,4,5,6],uI 59 1 55 58 [0,1,2,3,4,5],uL 60 59 [0,1,2,3,4,5],uM 61 0 [0,1,2,3,4,5,6,7,8,9,10,11],uM 62 11 [0,1,2,3,4,5,6,7,8,9,10,11,12],uI 63 1 61 62 [0,1,2,3,4,5,6,7,8,9,10,11],uL 64 63 [0,1,2,3,4,5,6,7,8,9,10,11],uI 65 1 49 50 [2,3,4,5],qX 1 65 60 4,qI 66 1 51 54,qX 1 66 64 4])))) (.ops [qM 36 11,qK 37 .add 36 1,qM 11 37]))
def ZMX:C:=oS [qM 13 2,qM 14 1,qB 15 .sub 13 14,qM 8 15] (oS [qM 16 8,qK 17 .geq 16 8] (cY 17 (oS [qM 18 8,oB 19 (.conv .u64 (.t 18)),oB 9 (.alloc (.d (.int .u64 0))),qS 1 9 19] (oS [qM 20 8,qC 21 161 20,qM 10 21] (oS [qM 22 1,qM 23 8,qK 24 .quo 23 4,qK 25 .mul 24 2,qB 26 .add 22 25,qK 27 .sub 26 1,qM 11 27] (.block 0 (.loop [0,1,8,9,10,11] [] ZxK))))) .skip))
def ZCw:FnI:=⟨4,ZMX,[]⟩
def ZNl:C:=oS [qW 8 0,qW 9 0] (oS [qM 15 2,qM 16 1,qB 17 .sub 15 16,qM 10 17] (oS [oB 11 (.alloc zI)] (oS [qM 18 1,qM 19 10,qK 20 .quo 19 4,qK 21 .mul 20 1,qB 22 .add 18 21,qM 12 22] (oS [qM 23 1,qM 24 10,qK 25 .quo 24 4,qK 26 .mul 25 2,qB 27 .add 23 26,qM 13 27] (oS [qM 28 1,qM 29 10,qK 30 .quo 29 4,qK 31 .mul 30 3,qB 32 .add 28 31,qM 14 32] (.seq (oS [qM 33 10,qK 34 .geq 33 8] (cY 34 (.seq (oS [qM 35 10,qK 36 .geq 35 50] (cY 36 (oS [qM 37 0,qM 38 12,qM 39 3,oB 40 (.call 163 [.t 37,.t 38,.t 11,.t 39]),qM 12 40] (oS [qM 41 0,qM 42 13,qM 43 3,oB 44 (.call 163 [.t 41,.t 42,.t 11,.t 43]),qM 13 44] (.ops [qM 45 0,qM 46 14,qM 47 3,oB 48 (.call 163 [.t 45,.t 46,.t 11,.t 47]),qM 14 48]))) .skip)) (.ops [qM 49 0,qM 50 12,qM 51 13,qM 52 14,qM 53 3,oB 54 (.call 164 [.t 49,.t 50,.t 51,.t 52,.t 11,.t 53]),qM 13 54])) .skip)) (oS [qL 55 11] (.block 0 (oS [qK 58 .eql 55 0,qM 57 58] (cY 57 (oR [qM 59 13,qM 8 59,qW 9 1]) (oS [qK 61 .eql 55 12,qM 60 61] (cY 60 (oR [qM 62 13,qM 8 62,qW 9 2]) (oR [qM 56 13,qM 8 56,qW 9 0])))))))))))))
def ZC8:FnI:=⟨4,ZNl,[(8,none),(9,none)]⟩
def ZyK:C:=.seq (oS [qM 13 8,qM 14 9,qB 15 .lss 13 14] (cX 15 0)) (.block 1 (.seq (.draw [qM 16 0,uM 17 8 [0],uM 18 0 [0,1],uM 19 9 [0,1,2],uM 20 0 [0,1,2,3],uM 21 9 [0,1,2,3,4],uI 22 1 20 21 [0,1,2,3],uL 23 22 [0,1,2,3],uM 24 0 [0,1,2,3,4,5,6,7],uM 25 8 [0,1,2,3,4,5,6,7,8],uI 26 1 24 25 [0,1,2,3,4,5,6,7],uL 27 26 [0,1,2,3,4,5,6,7],uI 28 1 16 17 [2,3],qX 1 28 23 4,qI 29 1 18 19,qX 1 29 27 4]) (oS [qM 30 8,qK 31 .add 30 1,qM 8 31] (.ops [qM 32 9,qK 33 .sub 32 1,qM 9 33]))))
def ZMY:C:=oS [qM 10 1,qM 8 10] (oS [qM 11 2,qK 12 .sub 11 1,qM 9 12] (.block 0 (.loop [0,8,9] [] ZyK)))
def ZDc:FnI:=⟨4,ZMY,[]⟩
def ZyM:C:=.seq (.seq (.draw [qM 19 9,uM 20 2 [0],qB 21 .lss 19 20,qM 22 21,vM 23 3 22 true,wM 24 0 22 true [4],wM 25 9 22 true [4,5],wI 26 1 24 25 22 true [4],wL 27 26 22 true [4],wM 28 0 22 true [4,5,6,7,8],wM 29 9 22 true [4,5,6,7,8,9],⟨some 30,.bin .sub (.t 29) (iN 1),some (22,true),[4,5,6,7,8,9],0⟩,wI 31 1 28 30 22 true [4,5,6,7,8],wL 32 31 22 true [4,5,6,7,8],oG 33 (.callv (.t 23) [.t 27,.t 32]) 22 true,vK 34 .lss 33 0 22 true,vU 35 34 22 true,qP 36 22 35]) (cX 36 2)) (.block 3 (.ops [qM 37 9,qK 38 .add 37 1,qM 9 38]))
def Zya:C:=.seq (oS [qM 68 11,qK 69 .geq 68 1] (cX 69 4)) (.seq (.block 5 (.seq (.seq (.draw [qM 72 3,uM 73 0 [0],uM 74 11 [0,1],uI 75 1 73 74 [0],uL 76 75 [0],uM 77 0 [0,1,2,3,4],uM 78 11 [0,1,2,3,4,5],oM 79 (.bin .sub (.t 78) (iN 1)) [0,1,2,3,4,5],uI 80 1 77 79 [0,1,2,3,4],uL 81 80 [0,1,2,3,4],⟨some 82,.callv (.t 72) [.t 76,.t 81],none,[],4⟩,qK 83 .lss 82 0,qU 84 83]) (cY 84 (.exit 4) .skip)) (.draw [qM 85 0,uM 86 11 [0],uM 87 0 [0,1],uM 88 11 [0,1,2],oM 89 (.bin .sub (.t 88) (iN 1)) [0,1,2],uM 90 0 [0,1,2,3,4],uM 91 11 [0,1,2,3,4,5],oM 92 (.bin .sub (.t 91) (iN 1)) [0,1,2,3,4,5],uI 93 1 90 92 [0,1,2,3,4],uL 94 93 [0,1,2,3,4],uM 95 0 [0,1,2,3,4,5,6,7,8,9],uM 96 11 [0,1,2,3,4,5,6,7,8,9,10],uI 97 1 95 96 [0,1,2,3,4,5,6,7,8,9],uL 98 97 [0,1,2,3,4,5,6,7,8,9],uI 99 1 85 86 [2,3,4],qX 1 99 94 4,qI 100 1 87 89,qX 1 100 98 4]))) (.ops [qM 70 11,qK 71 .sub 70 1,qM 11 71]))
def ZxO:C:=.seq (oS [qM 107 12,qM 108 2,qB 109 .lss 107 108] (cX 109 6)) (.seq (.block 7 (.seq (.seq (.draw [qM 112 3,uM 113 0 [0],uM 114 12 [0,1],uI 115 1 113 114 [0],uL 116 115 [0],uM 117 0 [0,1,2,3,4],uM 118 12 [0,1,2,3,4,5],oM 119 (.bin .sub (.t 118) (iN 1)) [0,1,2,3,4,5],uI 120 1 117 119 [0,1,2,3,4],uL 121 120 [0,1,2,3,4],⟨some 122,.callv (.t 112) [.t 116,.t 121],none,[],4⟩,qK 123 .lss 122 0,qU 124 123]) (cY 124 (.exit 6) .skip)) (.draw [qM 125 0,uM 126 12 [0],uM 127 0 [0,1],uM 128 12 [0,1,2],oM 129 (.bin .sub (.t 128) (iN 1)) [0,1,2],uM 130 0 [0,1,2,3,4],uM 131 12 [0,1,2,3,4,5],oM 132 (.bin .sub (.t 131) (iN 1)) [0,1,2,3,4,5],uI 133 1 130 132 [0,1,2,3,4],uL 134 133 [0,1,2,3,4],uM 135 0 [0,1,2,3,4,5,6,7,8,9],uM 136 12 [0,1,2,3,4,5,6,7,8,9,10],uI 137 1 135 136 [0,1,2,3,4,5,6,7,8,9],uL 138 137 [0,1,2,3,4,5,6,7,8,9],uI 139 1 125 126 [2,3,4],qX 1 139 134 4,qI 140 1 127 129,qX 1 140 138 4]))) (.ops [qM 110 12,qK 111 .add 110 1,qM 12 111]))
def Zyx:C:=.seq (oS [qM 15 10,qK 16 .lss 15 5] (cX 16 0)) (.seq (.block 1 (.seq (.block 2 (.loop [0,1,2,3,9,10] [0,1,2,3,9,10] ZyM)) (.seq (oS [qM 39 9,qM 40 2,qB 41 .eql 39 40] (oC 41 [qtt 8])) (.seq (oS [qM 42 2,qM 43 1,qB 44 .sub 42 43,qK 45 .lss 44 50] (oC 45 [qff 8])) (.seq (.draw [qM 46 0,uM 47 9 [0],uM 48 0 [0,1],uM 49 9 [0,1,2],oM 50 (.bin .sub (.t 49) (iN 1)) [0,1,2],uM 51 0 [0,1,2,3,4],uM 52 9 [0,1,2,3,4,5],oM 53 (.bin .sub (.t 52) (iN 1)) [0,1,2,3,4,5],uI 54 1 51 53 [0,1,2,3,4],uL 55 54 [0,1,2,3,4],uM 56 0 [0,1,2,3,4,5,6,7,8,9],uM 57 9 [0,1,2,3,4,5,6,7,8,9,10],uI 58 1 56 57 [0,1,2,3,4,5,6,7,8,9],uL 59 58 [0,1,2,3,4,5,6,7,8,9],uI 60 1 46 47 [2,3,4],qX 1 60 55 4,qI 61 1 48 50,qX 1 61 59 4]) (.seq (oS [qM 62 9,qM 63 1,qB 64 .sub 62 63,qK 65 .geq 64 2] (cY 65 (oS [qM 66 9,qK 67 .sub 66 1,qM 11 67] (.block 4 (.loop [0,1,2,3,9,10,11] [0,1,2,3,9,10] Zya))) .skip)) (oS [qM 101 2,qM 102 9,qB 103 .sub 101 102,qK 104 .geq 103 2] (cY 104 (oS [qM 105 9,qK 106 .add 105 1,qM 12 106] (.block 6 (.loop [0,1,2,3,9,10,12] [0,1,2,3,9,10] ZxO))) .skip)))))))) (.ops [qM 17 10,qK 18 .add 17 1,qM 10 18]))
def ZMl:C:=oS [qff 8] (oS [qM 13 1,qK 14 .add 13 1,qM 9 14] (.seq (oS [qW 10 0] (.block 0 (.loop [0,1,2,3,9,10] [8] Zyx))) (oR [qff 8])))
def ZCa:FnI:=⟨4,ZMl,[(8,none)]⟩
def ZyX:C:=.seq (.seq (.draw [qM 31 11,uM 32 12 [0],qB 33 .leq 31 32,qM 34 33,vM 35 4 34 true,wM 36 0 34 true [4],wM 37 1 34 true [4,5],wI 38 1 36 37 34 true [4],wL 39 38 34 true [4],wM 40 0 34 true [4,5,6,7,8],wM 41 11 34 true [4,5,6,7,8,9],wI 42 1 40 41 34 true [4,5,6,7,8],wL 43 42 34 true [4,5,6,7,8],oG 44 (.callv (.t 35) [.t 39,.t 43]) 34 true,vK 45 .lss 44 0 34 true,vU 46 45 34 true,qP 47 34 46]) (cX 47 2)) (.block 3 (.ops [qM 48 11,qK 49 .add 48 1,qM 11 49]))
def Zyn:C:=.seq (.seq (.draw [qM 50 11,uM 51 12 [0],qB 52 .leq 50 51,qM 53 52,vM 54 4 53 true,wM 55 0 53 true [4],wM 56 1 53 true [4,5],wI 57 1 55 56 53 true [4],wL 58 57 53 true [4],wM 59 0 53 true [4,5,6,7,8],wM 60 12 53 true [4,5,6,7,8,9],wI 61 1 59 60 53 true [4,5,6,7,8],wL 62 61 53 true [4,5,6,7,8],oG 63 (.callv (.t 54) [.t 58,.t 62]) 53 true,vK 64 .lss 63 0 53 true,qP 65 53 64]) (cX 65 4)) (.block 5 (.ops [qM 66 12,qK 67 .sub 66 1,qM 12 67]))
def Zyy:C:=.block 1 (.seq (.block 2 (.loop [0,1,4,11,12] [0,1,4,11,12] ZyX)) (.seq (.block 4 (.loop [0,1,4,11,12] [0,1,4,11,12] Zyn)) (.seq (oS [qM 68 11,qM 69 12,qB 70 .gtr 68 69] (cY 70 (.exit 0) .skip)) (.seq (.draw [qM 71 0,uM 72 11 [0],uM 73 0 [0,1],uM 74 12 [0,1,2],uM 75 0 [0,1,2,3],uM 76 12 [0,1,2,3,4],uI 77 1 75 76 [0,1,2,3],uL 78 77 [0,1,2,3],uM 79 0 [0,1,2,3,4,5,6,7],uM 80 11 [0,1,2,3,4,5,6,7,8],uI 81 1 79 80 [0,1,2,3,4,5,6,7],uL 82 81 [0,1,2,3,4,5,6,7],uI 83 1 71 72 [2,3],qX 1 83 78 4,qI 84 1 73 74,qX 1 84 82 4]) (oS [qM 85 11,qK 86 .add 85 1,qM 11 86] (.ops [qM 87 12,qK 88 .sub 87 1,qM 12 88]))))))
def ZMd:C:=oS [qW 10 0] (.seq (.draw [qM 13 0,uM 14 1 [0],uM 15 0 [0,1],uM 16 3 [0,1,2],uM 17 0 [0,1,2,3],uM 18 3 [0,1,2,3,4],uI 19 1 17 18 [0,1,2,3],uL 20 19 [0,1,2,3],uM 21 0 [0,1,2,3,4,5,6,7],uM 22 1 [0,1,2,3,4,5,6,7,8],uI 23 1 21 22 [0,1,2,3,4,5,6,7],uL 24 23 [0,1,2,3,4,5,6,7],uI 25 1 13 14 [2,3],qX 1 25 20 4,qI 26 1 15 16,qX 1 26 24 4]) (oS [qM 27 1,qK 28 .add 27 1,qM 29 2,qK 30 .sub 29 1,qM 11 28,qM 12 30] (.seq (.block 0 (.loop [0,1,4,11,12] [11] Zyy)) (oR [qM 89 11,qM 10 89]))))
def ZCI:FnI:=⟨5,ZMd,[(10,none)]⟩
def ZyI:C:=.seq (.seq (.draw [qM 32 12,uM 33 13 [0],qB 34 .leq 32 33,qM 35 34,vM 36 4 35 true,wM 37 0 35 true [4],wM 38 12 35 true [4,5],wI 39 1 37 38 35 true [4],wL 40 39 35 true [4],wM 41 0 35 true [4,5,6,7,8],wM 42 1 35 true [4,5,6,7,8,9],wI 43 1 41 42 35 true [4,5,6,7,8],wL 44 43 35 true [4,5,6,7,8],oG 45 (.callv (.t 36) [.t 40,.t 44]) 35 true,vK 46 .lss 45 0 35 true,qP 47 35 46]) (cX 47 0)) (.block 1 (.ops [qM 48 12,qK 49 .add 48 1,qM 12 49]))
def Zx4:C:=.seq (.seq (.draw [qM 50 12,uM 51 13 [0],qB 52 .leq 50 51,qM 53 52,vM 54 4 53 true,wM 55 0 53 true [4],wM 56 13 53 true [4,5],wI 57 1 55 56 53 true [4],wL 58 57 53 true [4],wM 59 0 53 true [4,5,6,7,8],wM 60 1 53 true [4,5,6,7,8,9],wI 61 1 59 60 53 true [4,5,6,7,8],wL 62 61 53 true [4,5,6,7,8],oG 63 (.callv (.t 54) [.t 58,.t 62]) 53 true,vK 64 .lss 63 0 53 true,vU 65 64 53 true,qP 66 53 65]) (cX 66 2)) (.block 3 (.ops [qM 67 13,qK 68 .sub 67 1,qM 13 68]))
def ZxT:C:=.seq (.seq (.draw [qM 105 12,uM 106 13 [0],qB 107 .leq 105 106,qM 108 107,vM 109 4 108 true,wM 110 0 108 true [4],wM 111 12 108 true [4,5],wI 112 1 110 111 108 true [4],wL 113 112 108 true [4],wM 114 0 108 true [4,5,6,7,8],wM 115 1 108 true [4,5,6,7,8,9],wI 116 1 114 115 108 true [4,5,6,7,8],wL 117 116 108 true [4,5,6,7,8],oG 118 (.callv (.t 109) [.t 113,.t 117]) 108 true,vK 119 .lss 118 0 108 true,qP 120 108 119]) (cX 120 6)) (.block 7 (.ops [qM 121 12,qK 122 .add 121 1,qM 12 122]))
def ZyP:C:=.seq (.seq (.draw [qM 123 12,uM 124 13 [0],qB 125 .leq 123 124,qM 126 125,vM 127 4 126 true,wM 128 0 126 true [4],wM 129 13 126 true [4,5],wI 130 1 128 129 126 true [4],wL 131 130 126 true [4],wM 132 0 126 true [4,5,6,7,8],wM 133 1 126 true [4,5,6,7,8,9],wI 134 1 132 133 126 true [4,5,6,7,8],wL 135 134 126 true [4,5,6,7,8],oG 136 (.callv (.t 127) [.t 131,.t 135]) 126 true,vK 137 .lss 136 0 126 true,vU 138 137 126 true,qP 139 126 138]) (cX 139 8)) (.block 9 (.ops [qM 140 13,qK 141 .sub 140 1,qM 13 141]))
def Zyr:C:=.block 5 (.seq (.block 6 (.loop [0,1,4,12,13] [0,1,4,12,13] ZxT)) (.seq (.block 8 (.loop [0,1,4,12,13] [0,1,4,12,13] ZyP)) (.seq (oS [qM 142 12,qM 143 13,qB 144 .gtr 142 143] (cY 144 (.exit 4) .skip)) (.seq (.draw [qM 145 0,uM 146 12 [0],uM 147 0 [0,1],uM 148 13 [0,1,2],uM 149 0 [0,1,2,3],uM 150 13 [0,1,2,3,4],uI 151 1 149 150 [0,1,2,3],uL 152 151 [0,1,2,3],uM 153 0 [0,1,2,3,4,5,6,7],uM 154 12 [0,1,2,3,4,5,6,7,8],uI 155 1 153 154 [0,1,2,3,4,5,6,7],uL 156 155 [0,1,2,3,4,5,6,7],uI 157 1 145 146 [2,3],qX 1 157 152 4,qI 158 1 147 148,qX 1 158 156 4]) (oS [qM 159 12,qK 160 .add 159 1,qM 12 160] (.ops [qM 161 13,qK 162 .sub 161 1,qM 13 162]))))))
def ZMV:C:=oS [qW 10 0,qff 11] (.seq (.draw [qM 14 0,uM 15 1 [0],uM 16 0 [0,1],uM 17 3 [0,1,2],uM 18 0 [0,1,2,3],uM 19 3 [0,1,2,3,4],uI 20 1 18 19 [0,1,2,3],uL 21 20 [0,1,2,3],uM 22 0 [0,1,2,3,4,5,6,7],uM 23 1 [0,1,2,3,4,5,6,7,8],uI 24 1 22 23 [0,1,2,3,4,5,6,7],uL 25 24 [0,1,2,3,4,5,6,7],uI 26 1 14 15 [2,3],qX 1 26 21 4,qI 27 1 16 17,qX 1 27 25 4]) (oS [qM 28 1,qK 29 .add 28 1,qM 30 2,qK 31 .sub 30 1,qM 12 29,qM 13 31] (.seq (.block 0 (.loop [0,1,4,12,13] [0,1,4,12,13] ZyI)) (.seq (.block 2 (.loop [0,1,4,12,13] [0,1,4,12,13] Zx4)) (.seq (oS [qM 69 12,qM 70 13,qB 71 .gtr 69 70] (cY 71 (.seq (.draw [qM 72 0,uM 73 13 [0],uM 74 0 [0,1],uM 75 1 [0,1,2],uM 76 0 [0,1,2,3],uM 77 1 [0,1,2,3,4],uI 78 1 76 77 [0,1,2,3],uL 79 78 [0,1,2,3],uM 80 0 [0,1,2,3,4,5,6,7],uM 81 13 [0,1,2,3,4,5,6,7,8],uI 82 1 80 81 [0,1,2,3,4,5,6,7],uL 83 82 [0,1,2,3,4,5,6,7],uI 84 1 72 73 [2,3],qX 1 84 79 4,qI 85 1 74 75,qX 1 85 83 4]) (oR [qM 86 13,qM 10 86,qtt 11])) .skip)) (.seq (.draw [qM 87 0,uM 88 12 [0],uM 89 0 [0,1],uM 90 13 [0,1,2],uM 91 0 [0,1,2,3],uM 92 13 [0,1,2,3,4],uI 93 1 91 92 [0,1,2,3],uL 94 93 [0,1,2,3],uM 95 0 [0,1,2,3,4,5,6,7],uM 96 12 [0,1,2,3,4,5,6,7,8],uI 97 1 95 96 [0,1,2,3,4,5,6,7],uL 98 97 [0,1,2,3,4,5,6,7],uI 99 1 87 88 [2,3],qX 1 99 94 4,qI 100 1 89 90,qX 1 100 98 4]) (oS [qM 101 12,qK 102 .add 101 1,qM 12 102] (oS [qM 103 13,qK 104 .sub 103 1,qM 13 104] (.seq (.block 4 (.loop [0,1,4,12,13] [0,1,13] Zyr)) (.seq (.draw [qM 163 0,uM 164 13 [0],uM 165 0 [0,1],uM 166 1 [0,1,2],uM 167 0 [0,1,2,3],uM 168 1 [0,1,2,3,4],uI 169 1 167 168 [0,1,2,3],uL 170 169 [0,1,2,3],uM 171 0 [0,1,2,3,4,5,6,7],uM 172 13 [0,1,2,3,4,5,6,7,8],uI 173 1 171 172 [0,1,2,3,4,5,6,7],uL 174 173 [0,1,2,3,4,5,6,7],uI 175 1 163 164 [2,3],qX 1 175 170 4,qI 176 1 165 166,qX 1 176 174 4]) (oR [qM 177 13,qM 10 177,qff 11])))))))))))
def ZCD:FnI:=⟨5,ZMV,[(10,none),(11,none)]⟩
def ZM5:C:=oS [qW 2 0] (.seq (oS [qM 3 0,oB 4 (.bin .geq (.t 3) (.c (.d (.int .u32 65536))))] (cY 4 (oS [qM 5 0,oB 6 (.bin .shr (.t 5) (.c (.d (.int .u64 16)))),qM 0 6] (.ops [qW 2 16])) .skip)) (.seq (oS [qM 7 0,oB 8 (.bin .geq (.t 7) (.c (.d (.int .u32 256))))] (cY 8 (oS [qM 9 0,oB 10 (.bin .shr (.t 9) (.c (.d (.int .u64 8)))),qM 0 10] (.ops [qM 11 2,qK 12 .add 11 8,qM 2 12])) .skip)) (oR [qM 13 2,qM 14 0,oB 15 (.conv .u8 (.t 14)),oB 16 (.indexS (.c (.d (.str zT1))) (.t 15)),oB 17 (.conv .i64 (.t 16)),qB 18 .add 13 17,qM 2 18])))
def ZJE:FnI:=⟨1,ZM5,[(2,none)]⟩
def ZNA:C:=oS [qW 2 0] (.seq (oS [qM 3 0,oB 4 (.bin .geq (.t 3) (.c (.d (.int .u64 4294967296))))] (cY 4 (oS [qM 5 0,oB 6 (.bin .shr (.t 5) (.c (.d (.int .u64 32)))),qM 0 6] (.ops [qW 2 32])) .skip)) (.seq (oS [qM 7 0,oB 8 (.bin .geq (.t 7) (.c (.d (.int .u64 65536))))] (cY 8 (oS [qM 9 0,oB 10 (.bin .shr (.t 9) (.c (.d (.int .u64 16)))),qM 0 10] (.ops [qM 11 2,qK 12 .add 11 16,qM 2 12])) .skip)) (.seq (oS [qM 13 0,oB 14 (.bin .geq (.t 13) (.c (.d (.int .u64 256))))] (cY 14 (oS [qM 15 0,oB 16 (.bin .shr (.t 15) (.c (.d (.int .u64 8)))),qM 0 16] (.ops [qM 17 2,qK 18 .add 17 8,qM 2 18])) .skip)) (oR [qM 19 2,qM 20 0,oB 21 (.conv .u8 (.t 20)),oB 22 (.indexS (.c (.d (.str zT1))) (.t 21)),oB 23 (.conv .i64 (.t 22)),qB 24 .add 19 23,qM 2 24]))))
def ZES:FnI:=⟨1,ZNA,[(2,none)]⟩
def ZNz:C:=oS [qO 2 0,qff 4] (oR [qM 5 1,qK 6 .geq 5 0,qM 7 6,vM 8 1 7 true,vF 9 2 2 7 true,vL 10 9 7 true,vN 11 10 7 true,vB 12 .lss 8 11 7 true,qP 13 7 12,qM 4 13])
def ZFv:FnI:=⟨2,ZNz,[(4,none)]⟩
def ZB0:C:=.seq (oS [qM 6 5,qM 7 1,qN 8 7,qB 9 .lss 6 8] (cX 9 0)) (.seq (.block 1 (.seq (.draw [qA 12 6 2,uM 13 1 [0],uM 14 5 [0,1],uI 15 1 13 14 [0],uL 16 15 [0],qD 17 155 12 16,qU 18 17,qM 19 18,vM 20 5 19 false,vK 21 .gtr 20 0 19 false,vM 22 21 19 false,vM 23 1 22 true,wM 24 5 22 true [11],⟨some 25,.bin .sub (.t 24) (iN 1),some (22,true),[11],0⟩,vI 26 1 23 25 22 true,vL 27 26 22 true,wM 28 1 22 true [11,12,13,14,15],wM 29 5 22 true [11,12,13,14,15,16],wI 30 1 28 29 22 true [11,12,13,14,15],wL 31 30 22 true [11,12,13,14,15],vB 32 .geq 27 31 22 true,oG 33 (.pick (.t 22) (.t 32) bF) 19 false,qJ 34 19 33]) (oC 34 [qff 4]))) (.ops [qM 10 5,qK 11 .add 10 1,qM 5 11]))
def ZM9:C:=oS [qO 2 0,qff 4] (.seq (oS [qW 5 0] (.block 0 (.loop [1,2,5] [1,4] ZB0))) (oR [qM 35 1,qN 36 35,qK 37 .gtr 36 0,qM 4 37]))
def ZHr:FnI:=⟨2,ZM9,[(4,none)]⟩
def ZCo:C:=.seq (oS [qM 13 7,qF 14 4 2,qL 15 14,qN 16 15,qB 17 .lss 13 16] (cX 17 2)) (.seq (.block 3 (oS [qF 20 4 2,qL 21 20,qM 22 7,qI 23 3 21 22,qF 24 1 23,qL 25 24,qM 26 1,qB 27 .eql 25 26,qM 28 27,vF 29 4 2 28 true,vL 30 29 28 true,vM 31 7 28 true,vI 32 3 30 31 28 true,vF 33 2 32 28 true,vL 34 33 28 true,vM 35 6 28 true,vB 36 .eql 34 35 28 true,qP 37 28 36] (cY 37 (.ops [qM 38 5,qM 39 7,qH 40 39,qY 41 38 40,qM 5 41]) .skip))) (.ops [qM 18 7,qK 19 .add 18 1,qM 7 19]))
def ZDk:C:=.seq (oS [qM 9 6,qK 10 .lss 9 100] (cX 10 0)) (.seq (.block 1 (oS [qW 7 0] (.block 2 (.loop [1,2,5,6,7] [1,2,5,6] ZCo)))) (.ops [qM 11 6,qK 12 .add 11 1,qM 6 12]))
def ZMm:C:=oS [qO 2 0,ZhT 4 1] (oS [oB 8 (.bslice 1 [zD] 0 []),qM 5 8] (.seq (oS [qW 6 1] (.block 0 (.loop [1,2,5,6] [5] ZDk))) (oR [qM 42 5,qM 4 42])))
def ZHW:FnI:=⟨2,ZMm,[(4,none)]⟩
def ZMf:C:=oS [qO 2 0,qff 4] (oR [qM 5 1,qK 6 .geq 5 0,qM 7 6,vM 8 1 7 true,vF 9 0 2 7 true,vL 10 9 7 true,vN 11 10 7 true,vB 12 .lss 8 11 7 true,qP 13 7 12,qM 4 13])
def ZFZ:FnI:=⟨2,ZMf,[(4,none)]⟩
def Zyg:C:=.block 1 (oS [qM 13 10,oB 14 (.bin .mul (iN 2) (.t 13)),qK 15 .add 14 1,qM 11 15] (.seq (oS [qM 16 11,qM 17 2,qB 18 .geq 16 17] (cY 18 (.exit 0) .skip)) (.seq (.seq (.draw [qM 19 11,qK 20 .add 19 1,uM 21 2 [0,1],qB 22 .lss 20 21,qM 23 22,vM 24 4 23 true,wM 25 0 23 true [5],wM 26 3 23 true [5,6],wM 27 11 23 true [5,6,7],⟨some 28,.bin .add (.t 26) (.t 27),some (23,true),[5,6],0⟩,wI 29 1 25 28 23 true [5],wL 30 29 23 true [5],wM 31 0 23 true [5,6,7,8,9,10,11],wM 32 3 23 true [5,6,7,8,9,10,11,12],wM 33 11 23 true [5,6,7,8,9,10,11,12,13],⟨some 34,.bin .add (.t 32) (.t 33),some (23,true),[5,6,7,8,9,10,11,12],0⟩,⟨some 35,.bin .add (.t 34) (iN 1),some (23,true),[5,6,7,8,9,10,11,12],0⟩,wI 36 1 31 35 23 true [5,6,7,8,9,10,11],wL 37 36 23 true [5,6,7,8,9,10,11],oG 38 (.callv (.t 24) [.t 30,.t 37]) 23 true,vK 39 .lss 38 0 23 true,qP 40 23 39]) (cY 40 (.ops [qM 41 11,qK 42 .add 41 1,qM 11 42]) .skip)) (.seq (.seq (.draw [qM 43 4,uM 44 0 [0],uM 45 3 [0,1],uM 46 10 [0,1,2],oM 47 (.bin .add (.t 45) (.t 46)) [0,1],uI 48 1 44 47 [0],uL 49 48 [0],uM 50 0 [0,1,2,3,4,5,6],uM 51 3 [0,1,2,3,4,5,6,7],uM 52 11 [0,1,2,3,4,5,6,7,8],oM 53 (.bin .add (.t 51) (.t 52)) [0,1,2,3,4,5,6,7],uI 54 1 50 53 [0,1,2,3,4,5,6],uL 55 54 [0,1,2,3,4,5,6],⟨some 56,.callv (.t 43) [.t 49,.t 55],none,[],4⟩,qK 57 .lss 56 0,qU 58 57]) (cY 58 .ret .skip)) (.seq (.draw [qM 59 0,uM 60 3 [0],uM 61 10 [0,1],oM 62 (.bin .add (.t 60) (.t 61)) [0],uM 63 0 [0,1,2,3],uM 64 3 [0,1,2,3,4],uM 65 11 [0,1,2,3,4,5],oM 66 (.bin .add (.t 64) (.t 65)) [0,1,2,3,4],uM 67 0 [0,1,2,3,4,5,6,7],uM 68 3 [0,1,2,3,4,5,6,7,8],uM 69 11 [0,1,2,3,4,5,6,7,8,9],oM 70 (.bin .add (.t 68) (.t 69)) [0,1,2,3,4,5,6,7,8],uI 71 1 67 70 [0,1,2,3,4,5,6,7],uL 72 71 [0,1,2,3,4,5,6,7],uM 73 0 [0,1,2,3,4,5,6,7,8,9,10,11,12,13],uM 74 3 [0,1,2,3,4,5,6,7,8,9,10,11,12,13,14],uM 75 10 [0,1,2,3,4,5,6,7,8,9,10,11,12,13,14,15],oM 76 (.bin .add (.t 74) (.t 75)) [0,1,2,3,4,5,6,7,8,9,10,11,12,13,14],uI 77 1 73 76 [0,1,2,3,4,5,6,7,8,9,10,11,12,13],uL 78 77 [0,1,2,3,4,5,6,7,8,9,10,11,12,13],uI 79 1 59 62 [4,5,6,7],qX 1 79 72 4,qI 80 1 63 66,qX 1 80 78 4]) (.ops [qM 81 11,qM 10 81]))))))
def ZND:C:=oS [qM 12 1,qM 10 12] (.block 0 (.loop [0,2,3,4,10] [] Zyg))
def ZCY:FnI:=⟨5,ZND,[]⟩
def ZMk:C:=oS [oB 2 (.mov (.c (.d (.int .u64 0))))] (oR [qM 3 0,oB 4 (.conv .u64 (.t 3)),qC 5 123 4,oB 6 (.bin .shl (.c (.d (.int .u64 1))) (.t 5)),qM 2 6])
def ZE4:FnI:=⟨1,ZMk,[(2,none)]⟩
def ZMG:C:=oS [oB 2 (.mov (.c (.d (.int .u64 0))))] (.seq (.draw [qM 3 0,qZ 4 3,qL 5 4,uM 6 0 [0,1,2],uZ 7 6 [0,1,2],uL 8 7 [0,1,2],oM 9 (.bin .shl (.t 8) (.c (.d (.int .u64 13)))) [0,1,2],qB 10 .xor 5 9,qZ 11 3,qX 1 11 10 4]) (.seq (.draw [qM 12 0,qZ 13 12,qL 14 13,uM 15 0 [0,1,2],uZ 16 15 [0,1,2],uL 17 16 [0,1,2],oM 18 (.bin .shr (.t 17) (.c (.d (.int .u64 7)))) [0,1,2],qB 19 .xor 14 18,qZ 20 12,qX 1 20 19 4]) (.seq (.draw [qM 21 0,qZ 22 21,qL 23 22,uM 24 0 [0,1,2],uZ 25 24 [0,1,2],uL 26 25 [0,1,2],oM 27 (.bin .shl (.t 26) (.c (.d (.int .u64 17)))) [0,1,2],qB 28 .xor 23 27,qZ 29 21,qX 1 29 28 4]) (oR [qM 30 0,qZ 31 30,qL 32 31,qM 2 32]))))
def ZHX:FnI:=⟨1,ZMG,[(2,none)]⟩
def ZNJ:C:=oS [qW 8 0] (oR [qM 9 0,qM 10 1,qK 11 .sub 10 1,qM 12 1,qM 13 1,qK 14 .add 13 1,qM 15 2,qM 16 3,oB 17 (.call 164 [.t 9,.t 11,.t 12,.t 14,.t 15,.t 16]),qM 8 17])
def ZDd:FnI:=⟨4,ZNJ,[(8,none)]⟩
def ZNh:C:=oS [qW 12 0] (oS [qM 14 0,qM 15 1,qM 16 2,qM 17 4,qM 18 5,oB 19 (.call 174 [.t 14,.t 15,.t 16,.t 17,.t 18]),qM 13 19,qE 20 13 0,qE 21 13 1,qM 1 20,qM 2 21] (oS [qM 23 0,qM 24 2,qM 25 3,qM 26 4,qM 27 5,oB 28 (.call 174 [.t 23,.t 24,.t 25,.t 26,.t 27]),qM 22 28,qE 29 22 0,qE 30 22 1,qM 2 29,qM 3 30] (oS [qM 32 0,qM 33 1,qM 34 2,qM 35 4,qM 36 5,oB 37 (.call 174 [.t 32,.t 33,.t 34,.t 35,.t 36]),qM 31 37,qE 38 31 0,qE 39 31 1,qM 1 38,qM 2 39] (oR [qM 40 2,qM 12 40]))))
def ZDi:FnI:=⟨6,ZNh,[(12,none)]⟩
def ZMy:C:=oS [qW 10 0,qW 11 0] (.seq (.seq (.draw [qM 12 4,uM 13 0 [0],uM 14 2 [0,1],uI 15 1 13 14 [0],uL 16 15 [0],uM 17 0 [0,1,2,3,4],uM 18 1 [0,1,2,3,4,5],uI 19 1 17 18 [0,1,2,3,4],uL 20 19 [0,1,2,3,4],⟨some 21,.callv (.t 12) [.t 16,.t 20],none,[],4⟩,qK 22 .lss 21 0]) (cY 22 (oS [qM 23 3,qZ 24 23,qL 25 24,qK 26 .add 25 1,qZ 27 23,qS 1 27 26] (oR [qM 28 2,qM 29 1,qM 10 28,qM 11 29])) .skip)) (oR [qM 30 1,qM 31 2,qM 10 30,qM 11 31]))
def ZCX:FnI:=⟨5,ZMy,[(10,none),(11,none)]⟩
def ZL4:C:=oS [qO 1 0,oB 2 (.alloc (.d (.agg [zD,zD])))] (.seq (oS [qF 5 0 1,qF 6 1 5,qL 7 6,qF 8 0 1,qF 9 3 8,qL 10 9,qB 11 .geq 7 10] (oC 11 [oB 12 (.build Lz1 [(1,1,(iN 141))]),qS 2 2 12])) (oS [qF 14 0 1,qF 15 0 14,qL 16 15,qF 17 0 1,qF 18 1 17,qL 19 18,qB 20 .sub 16 19,qF 21 0 1,qF 22 3 21,qL 23 22,qF 24 0 1,qF 25 1 24,qL 26 25,qB 27 .sub 23 26,qD 28 197 20 27,qM 13 28,qE 29 13 0,qE 30 13 1,qM 3 29,qM 4 30] (.seq (oS [qM 31 4,qK 32 .eql 31 0,qM 33 32,vM 34 3 33 true,vK 35 .gtr 34 8 33 true,qP 36 33 35] (oC 36 [oB 37 (.build Lz1 [(1,1,(iN 142))]),qS 2 2 37])) (oR [qM 38 3,qM 39 4,oB 40 (.build Lz1 [(0,1,(.t 38)),(1,1,(.t 39))]),qS 2 2 40]))))
def ZFT:FnI:=⟨1,ZL4,[(2,some (2,true))]⟩
def ZLY:C:=oS [qO 3 1,qW 4 0,qW 5 0] (oR [qM 6 0,qL 7 3,oB 8 (.mkfn 199 [.t 3]),qG 9 198 6 7 8,qE 10 9 0,qE 11 9 1,qM 4 10,qM 5 11])
def ZFX:FnI:=⟨2,ZLY,[(4,none),(5,none)]⟩
def ZMx:C:=oS [qW 6 0,qW 7 0] (.seq (oS [qM 9 0,qM 10 1,oB 11 (.bslice 1 [zD] 2 [(0,(.t 9)),(1,(.t 10))]),qC 12 200 11,qM 8 12] (oS [qM 13 8,qK 14 .neq 13 0] (oC 14 [qM 15 8,qW 6 0,qM 7 15]))) (.seq (oS [qM 16 1,qK 17 .eql 16 0] (oC 17 [qW 6 0,qW 7 12])) (oR [qM 18 0,qM 19 2,oB 20 (.callv (.t 19) []),qB 21 .add 18 20,qM 22 1,qB 23 .quo 21 22,qM 6 23,qW 7 0])))
def ZH1:FnI:=⟨3,ZMx,[(6,none),(7,none)]⟩
def ZMC:C:=oS [qW 1 0] (oR [qL 2 0,qK 3 .sub 2 1,qM 1 3])
def ZGb:FnI:=⟨1,ZMC,[(1,none)]⟩
def ZL0:C:=oS [qW 2 0] (oS [qM 4 0,oB 5 (.call 142 [.t 4,(.c (.d (.fn 201 [])))]),qM 3 5] (.seq (oS [qM 6 3,qK 7 .lss 6 0] (oC 7 [qW 2 0])) (oR [qM 8 0,qM 9 3,qI 10 1 8 9,qL 11 10,qC 12 102 11,qM 2 12])))
def ZHv:FnI:=⟨1,ZL0,[(2,none)]⟩
def ZM2:C:=oS [qff 2] (oR [qM 3 0,qC 4 102 3,qK 5 .neq 4 0,qM 2 5])
def ZGX:FnI:=⟨1,ZM2,[(2,none)]⟩
def code:Nat->Option FnI
 | 3=>some fn3
 | 9=>some fn9
 | 10=>some ZJ8
 | 11=>some ZLu
 | 12=>some ZKH
 | 13=>some ZLh
 | 14=>some ZLD
 | 16=>some ZNB
 | 19=>some ZLJ
 | 21=>some ZLn
 | 22=>some ZMZ
 | 24=>some ZLX
 | 25=>some ZLl
 | 26=>some ZKa
 | 27=>some ZJ3
 | 28=>some ZKy
 | 29=>some ZKC
 | 32=>some ZKz
 | 33=>some ZLr
 | 34=>some ZMh
 | 35=>some ZM6
 | 36=>some ZLv
 | 37=>some ZLs
 | 38=>some ZJW
 | 39=>some ZJU
 | 40=>some ZJ0
 | 41=>some ZMS
 | 42=>some ZNH
 | 43=>some ZM3
 | 44=>some ZNg
 | 45=>some ZKW
 | 46=>some ZKX
 | 47=>some ZJ6
 | 48=>some ZM4
 | 49=>some ZLF
 | 50=>some ZNF
 | 51=>some ZKU
 | 52=>some ZNy
 | 53=>some ZNE
 | 54=>some ZMA
 | 55=>some ZKv
 | 56=>some ZKV
 | 57=>some ZLt
 | 58=>some ZKu
 | 59=>some ZKf
 | 60=>some ZJZ
 | 62=>some ZKw
 | 63=>some ZK0
 | 64=>some ZKE
 | 65=>some ZLG
 | 66=>some ZKP
 | 67=>some ZKD
 | 68=>some ZJ4
 | 69=>some ZLq
 | 70=>some ZLg
 | 71=>some ZK1
 | 72=>some ZJV
 | 73=>some ZKk
 | 74=>some ZK5
 | 75=>some ZKG
 | 76=>some ZKF
 | 77=>some ZJ2
 | 78=>some ZLy
 | 79=>some ZKm
 | 80=>some ZLA
 | 81=>some ZKj
 | 82=>some ZLo
 | 83=>some ZKl
 | 84=>some ZLa
 | 85=>some ZKc
 | 86=>some ZLb
 | 87=>some ZK6
 | 88=>some ZK4
 | 89=>some ZKO
 | 90=>some ZLk
 | 91=>some ZGk
 | 92=>some ZJ1
 | 93=>some ZK3
 | 94=>some ZLi
 | 95=>some ZKY
 | 96=>some ZIz
 | 97=>some ZKT
 | 98=>some ZLp
 | 99=>some ZJ5
 | 100=>some ZHA
 | 101=>some ZFy
 | 102=>some ZF0
 | 103=>some ZGf
 | 104=>some ZFI
 | 105=>some ZHf
 | 106=>some ZFB
 | 107=>some ZF1
 | 108=>some ZFL
 | 109=>some ZGc
 | 110=>some ZFK
 | 111=>some ZEC
 | 112=>some ZHR
 | 113=>some ZIa
 | 114=>some ZCv
 | 115=>some ZHC
 | 116=>some ZHV
 | 117=>some ZEs
 | 118=>some ZGU
 | 119=>some ZGN
 | 120=>some ZGA
 | 121=>some ZFa
 | 122=>some ZBZ
 | 123=>some ZG3
 | 124=>some ZH9
 | 125=>some ZGn
 | 126=>some ZGS
 | 127=>some ZGY
 | 128=>some ZGW
 | 129=>some ZHj
 | 130=>some ZGH
 | 131=>some ZHL
 | 132=>some ZHS
 | 133=>some ZFS
 | 134=>some ZEE
 | 135=>some ZJA
 | 136=>some ZGP
 | 137=>some ZJv
 | 138=>some ZFQ
 | 139=>some ZGh
 | 140=>some ZG1
 | 141=>some ZGF
 | 142=>some ZzV
 | 143=>some ZHi
 | 144=>some ZJz
 | 145=>some ZCm
 | 146=>some ZDj
 | 147=>some ZCw
 | 148=>some ZC8
 | 149=>some ZDc
 | 150=>some ZCa
 | 151=>some ZCI
 | 152=>some ZCD
 | 153=>some ZJE
 | 154=>some ZES
 | 155=>some ZFv
 | 156=>some ZHr
 | 157=>some ZHW
 | 158=>some ZFZ
 | 160=>some ZCY
 | 161=>some ZE4
 | 162=>some ZHX
 | 163=>some ZDd
 | 164=>some ZDi
 | 174=>some ZCX
 | 196=>some ZFT
 | 197=>some ZFX
 | 198=>some ZH1
 | 199=>some ZGb
 | 200=>some ZHv
 | 201=>some ZGX
 | _=>none
def mode:Nat->Nat
 | 12=>1
 | 26=>1
 | 34=>1
 | 35=>2
 | 41=>2
 | 42=>2
 | 44=>2
 | 48=>2
 | 50=>2
 | 67=>2
 | 85=>2
 | 86=>2
 | 87=>2
 | 96=>2
 | 122=>2
 | 144=>2
 | 145=>2
 | 146=>2
 | 147=>2
 | 148=>2
 | 149=>2
 | 150=>2
 | 151=>2
 | 152=>2
 | 160=>2
 | 162=>2
 | 163=>2
 | 164=>2
 | 174=>2
 | _=>0
def ctx:Ctx:=⟨code,mode⟩
end Go.Proofs.YtmnglncebfabpaaGreatDoor
namespace Go.Proofs.YtmnglncebfabpaaGreatDoorE
open Go
open Go.IntKind (u64 i64 u32 i32 u8)
open Nat (succ_mul lt_of_lt_of_le le_trans lt_or_ge zero_le add_zero zero_mul zero_add add_mul ble_eq sub_self)
section
def Zm7 (f:Nat) (us:List Value):Value:=bif isU f then .func (.func f) #[] us.toArray else bif Nat.beq f 2000000 then .func (.method Zsx) us.toArray #[] else .func (.func (unB f)) us.toArray #[]
theorem ZvD (f:Nat) (us:List Value):(Zm7 f us).cells.toList=[Zm7 f us]:=by unfold Zm7;cases isU f<;>cases Nat.beq f 2000000<;>rfl
theorem ZzB (f:Nat) (us:List Value):(Zm7 f us).cells = #[Zm7 f us]:=by unfold Zm7;cases isU f<;>cases Nat.beq f 2000000<;>rfl
theorem Zur {f:Nat} (h:isU f=true) (us:List Value):Zm7 f us = .func (.func f) #[] us.toArray:=by unfold Zm7;rw[h];rfl
mutual
def Zbu (A1 A0 AL:Nat->Prop) (w:World):D->Value->Prop
 | .bool b,u=>u = .bool b
 | .int k n,u=>u = .int k n
 | .str s,u=>u = .string s
 | .list own xs,u=>∃a len cap,u = .slice a len cap/\len=xs.length/\len<=cap/\(∀x∈xs,x.esc=true) /\
   (xs≠[]->∃b off sz,a=some ⟨b,off,none⟩/\(match own with | true=>A1 b | false=>A0 b)/\b<w.heap.size/\Zhv A1 A0 AL w b sz off xs)
 | .agg cs,u=>∃us:List Value,u = .agg us.toArray/\Za7 A1 A0 AL w cs us
 | .tup cs,u=>∃us:List Value,u = .tuple us.toArray/\Za7 A1 A0 AL w cs us
 | .fn f caps,u=>∃us:List Value,u=Zm7 f us/\Za7 A1 AL AL w caps us
 | .nilfn,u=>u = .nilFunc
 | .rptr cs,u=>∃b off,u = .pointer (some ⟨b,off,none⟩)/\A0 b/\b<w.heap.size/\Zdb A1 A0 AL w b off cs
 | .nilp,u=>u = .pointer none
 | .iface t v,u=>∃u',u = .iface t u'/\Zbu A1 A0 AL w v u'
 | .nilI,u=>u = .nilIface
def Za7 (A1 A0 AL:Nat->Prop) (w:World):List D->List Value->Prop
 | [],us=>us=[]
 | x :: xs,us=>∃u us',us=u :: us'/\Zbu A1 A0 AL w x u/\Za7 A1 A0 AL w xs us'
def Zdb (A1 A0 AL:Nat->Prop) (w:World) (b off:Nat):List D->Prop
 | []=>True
 | x :: xs=>(∃u,w.cell? ⟨b,off,none⟩=some u/\Zbu A1 A0 AL w x u)/\Zdb A1 A0 AL w b (off+1) xs
def Zhv (A1 A0 AL:Nat->Prop) (w:World) (b sz off:Nat):List D->Prop
 | []=>True
 | x :: xs=>(∃u,Zbu A1 A0 AL w x u/\u.cells.size=sz/\∀k v,u.cells[k]? = some v->w.cell? ⟨b,off+k,none⟩=some v)/\Zhv A1 A0 AL w b sz (off+sz) xs
end
section
variable {A1 A1' A0 A0' AL AL':Nat->Prop} {w w':World}
theorem ZwU {b:Nat} (h:w'.heap[b]? = w.heap[b]?) (off:Nat):w'.cell? ⟨b,off,none⟩=w.cell? ⟨b,off,none⟩:=by
 unfold World.cell?;simp only[h]
mutual
theorem Zbu.change (A1 A1' A0 A0':Nat->Prop) (h1:∀b,b<w.heap.size->A1 b->A1' b) (h0:∀b,b<w.heap.size->A0 b->A0' b) (hL:∀b,b<w.heap.size->AL b->AL' b)
  (hw:∀b,b<w.heap.size->AL b->w'.heap[b]? = w.heap[b]?) (hs:w.heap.size<=w'.heap.size) (s0:∀b,A0 b->AL b) (s1:∀b,A1 b->AL b) :
  ∀(x:D) (u:Value),Zbu A1 A0 AL w x u->Zbu A1' A0' AL' w' x u
 | .bool b,u,h=>h
 | .int k n,u,h=>h
 | .str s,u,h=>h
 | .list own xs,u,h=>by
  obtain⟨a,len,cap,e1,e2,e3,e4,e5⟩:=h
  refine⟨a,len,cap,e1,e2,e3,e4,fun hne=>?_⟩
  obtain⟨b,off,sz,f1,f2,f3,f4⟩:=e5 hne
  have hb:AL b:=by
   cases own
   ·exact s0 _ f2
   ·exact s1 _ f2
  refine⟨b,off,sz,f1,?_,by omega,Zhv.change A1 A1' A0 A0' h1 h0 hL hw hs s0 s1 b sz off xs (hw b f3 hb) f4⟩
  cases own
  ·exact h0 _ f3 f2
  ·exact h1 _ f3 f2
 | .agg cs,u,h=>by
  obtain⟨us,e1,e2⟩:=h
  exact⟨us,e1,Za7.change A1 A1' A0 A0' h1 h0 hL hw hs s0 s1 cs us e2⟩
 | .tup cs,u,h=>by
  obtain⟨us,e1,e2⟩:=h
  exact⟨us,e1,Za7.change A1 A1' A0 A0' h1 h0 hL hw hs s0 s1 cs us e2⟩
 | .fn f caps,u,h=>by
  obtain⟨us,e1,e2⟩:=h
  exact⟨us,e1,Za7.change A1 A1' AL AL' h1 hL hL hw hs (fun _ h=>h) s1 caps us e2⟩
 | .nilfn,u,h=>h
 | .rptr cs,u,h=>by
  obtain⟨b,off,e1,e2,e3,e4⟩:=h
  exact⟨b,off,e1,h0 _ e3 e2,by omega,Zdb.change A1 A1' A0 A0' h1 h0 hL hw hs s0 s1 b off cs (hw b e3 (s0 _ e2)) e4⟩
 | .nilp,u,h=>h
 | .iface t v,u,h=>by
  obtain⟨u',e1,e2⟩:=h
  exact⟨u',e1,Zbu.change A1 A1' A0 A0' h1 h0 hL hw hs s0 s1 v u' e2⟩
 | .nilI,u,h=>h
theorem Za7.change (A1 A1' A0 A0':Nat->Prop) (h1:∀b,b<w.heap.size->A1 b->A1' b) (h0:∀b,b<w.heap.size->A0 b->A0' b) (hL:∀b,b<w.heap.size->AL b->AL' b)
  (hw:∀b,b<w.heap.size->AL b->w'.heap[b]? = w.heap[b]?) (hs:w.heap.size<=w'.heap.size) (s0:∀b,A0 b->AL b) (s1:∀b,A1 b->AL b) :
  ∀(xs:List D) (us:List Value),Za7 A1 A0 AL w xs us->Za7 A1' A0' AL' w' xs us
 | [],us,h=>h
 | x :: xs,us,h=>by
  obtain⟨u,us',e1,e2,e3⟩:=h
  exact⟨u,us',e1,Zbu.change A1 A1' A0 A0' h1 h0 hL hw hs s0 s1 x u e2,Za7.change A1 A1' A0 A0' h1 h0 hL hw hs s0 s1 xs us' e3⟩
theorem Zdb.change (A1 A1' A0 A0':Nat->Prop) (h1:∀b,b<w.heap.size->A1 b->A1' b) (h0:∀b,b<w.heap.size->A0 b->A0' b) (hL:∀b,b<w.heap.size->AL b->AL' b)
  (hw:∀b,b<w.heap.size->AL b->w'.heap[b]? = w.heap[b]?) (hs:w.heap.size<=w'.heap.size) (s0:∀b,A0 b->AL b) (s1:∀b,A1 b->AL b) (b off:Nat) :
  ∀(xs:List D),w'.heap[b]? = w.heap[b]? -> Zdb A1 A0 AL w b off xs->Zdb A1' A0' AL' w' b off xs
 | [],_,h=>trivial
 | x :: xs,hb,h=>by
  obtain⟨⟨u,e1,e2⟩,e3⟩:=h
  exact⟨⟨u,by rw[ZwU hb];exact e1,Zbu.change A1 A1' A0 A0' h1 h0 hL hw hs s0 s1 x u e2⟩,Zdb.change A1 A1' A0 A0' h1 h0 hL hw hs s0 s1 b (off+1) xs hb e3⟩
theorem Zhv.change (A1 A1' A0 A0':Nat->Prop) (h1:∀b,b<w.heap.size->A1 b->A1' b) (h0:∀b,b<w.heap.size->A0 b->A0' b) (hL:∀b,b<w.heap.size->AL b->AL' b)
  (hw:∀b,b<w.heap.size->AL b->w'.heap[b]? = w.heap[b]?) (hs:w.heap.size<=w'.heap.size) (s0:∀b,A0 b->AL b) (s1:∀b,A1 b->AL b) (b sz off:Nat) :
  ∀(xs:List D),w'.heap[b]? = w.heap[b]? -> Zhv A1 A0 AL w b sz off xs->Zhv A1' A0' AL' w' b sz off xs
 | [],_,h=>trivial
 | x :: xs,hb,h=>by
  obtain⟨⟨u,e1,e2,e3⟩,e4⟩:=h
  exact⟨⟨u,Zbu.change A1 A1' A0 A0' h1 h0 hL hw hs s0 s1 x u e1,e2,fun k v hk=>by rw[ZwU hb];exact e3 k v hk⟩,
   Zhv.change A1 A1' A0 A0' h1 h0 hL hw hs s0 s1 b sz (off+sz) xs hb e4⟩
end
mutual
theorem Zbu.lift (h1:∀b,A1 b->A1' b):∀(x:D) (u:Value),x.esc=true->Zbu A1 A0 AL w x u->Zbu A1' A0' AL' w x u
 | .bool b,u,_,h=>h
 | .int k n,u,_,h=>h
 | .str s,u,_,h=>h
 | .list own xs,u,he,h=>by
  obtain⟨a,len,cap,e1,e2,e3,e4,e5⟩:=h
  simp only[D.esc] at he
  subst he
  refine⟨a,len,cap,e1,e2,e3,e4,fun hne=>?_⟩
  obtain⟨b,off,sz,f1,f2,f3,f4⟩:=e5 hne
  exact⟨b,off,sz,f1,h1 _ f2,f3,Zhv.lift h1 b sz off xs e4 f4⟩
 | .agg cs,u,he,h=>by
  obtain⟨us,e1,e2⟩:=h
  exact⟨us,e1,Za7.lift h1 cs us he e2⟩
 | .tup cs,u,he,h=>by simp[D.esc] at he
 | .fn f caps,u,he,h=>by
  obtain⟨us,e1,e2⟩:=h
  simp only[D.esc,List.isEmpty_iff] at he
  subst he
  exact⟨us,e1,e2⟩
 | .nilfn,u,_,h=>h
 | .rptr cs,u,he,h=>by simp[D.esc] at he
 | .nilp,u,_,h=>h
 | .iface t v,u,he,h=>by
  obtain⟨u',e1,e2⟩:=h
  exact⟨u',e1,Zbu.lift h1 v u' he e2⟩
 | .nilI,u,_,h=>h
theorem Za7.lift (h1:∀b,A1 b->A1' b):∀(xs:List D) (us:List Value),D.escs xs=true->Za7 A1 A0 AL w xs us->Za7 A1' A0' AL' w xs us
 | [],us,_,h=>h
 | x :: xs,us,he,h=>by
  obtain⟨u,us',e1,e2,e3⟩:=h
  simp only[D.escs,aT] at he
  exact⟨u,us',e1,Zbu.lift h1 x u he.1 e2,Za7.lift h1 xs us' he.2.2 e3⟩
theorem Zhv.lift (h1:∀b,A1 b->A1' b) (b sz off:Nat):∀(xs:List D),(∀x∈xs,x.esc=true)->Zhv A1 A0 AL w b sz off xs->Zhv A1' A0' AL' w b sz off xs
 | [],_,h=>trivial
 | x :: xs,he,h=>by
  obtain⟨⟨u,e1,e2,e3⟩,e4⟩:=h
  exact⟨⟨u,Zbu.lift h1 x u (he x (by simp)) e1,e2,e3⟩,Zhv.lift h1 b sz (off+sz) xs (fun y hy=>he y (by simp[hy])) e4⟩
end
end
theorem Za7.liftT {A1 A1' A0 A0' AL AL':Nat->Prop}{w:World} (h1:∀b,A1 b->A1' b):∀(xs:List D) (us:List Value),ZBF xs=true->Za7 A1 A0 AL w xs us->Za7 A1' A0' AL' w xs us
 | [],us,_,h=>h
 | x :: xs,us,he,h=>by
  obtain⟨u,us',e1,e2,e3⟩:=h
  simp only[ZBF,aT] at he
  exact⟨u,us',e1,Zbu.lift h1 x u he.1 e2,Za7.liftT h1 xs us' he.2 e3⟩
theorem Z2 {α:Type}:∀(l:List α) (n:Nat),nth l n=l[n]?
 | [],n=>by simp[nth]
 | a :: l,0=>by simp[nth]
 | a :: l,n+1=>by simp[nth,Z2 l n]
theorem Zbw {α:Type}:∀(l:List α) (n:Nat) (v:α),ZdC l n v=l.set n v
 | [],n,v=>by simp[ZdC]
 | a :: l,0,v=>by simp[ZdC]
 | a :: l,n+1,v=>by simp[ZdC,Zbw l n v]
theorem Zrz {α:Type} (l:List α) (i:Int) (x:α) (h:ZA l i=some x):0<=i/\i<l.length/\l[i.toNat]? = some x:=by
 unfold ZA at h
 by_cases h0:0<=i
 ·simp only[h0,decide_true,cT,Z2] at h
  have:=(gQ h).1
  exact⟨h0,by omega,h⟩
 ·simp[h0] at h
section
variable {A1 A0 AL:Nat->Prop} {w:World}
theorem ZmH {b sz:Nat}:∀(xs:List D) (off j:Nat) (x:D),Zhv A1 A0 AL w b sz off xs->xs[j]? = some x ->
  ∃u,Zbu A1 A0 AL w x u/\u.cells.size=sz/\∀k v,u.cells[k]? = some v->w.cell? ⟨b,off+j*sz+k,none⟩=some v
 | [],off,j,x,_,hj=>by simp at hj
 | y :: xs,off,0,x,h,hj=>by
  simp at hj;subst hj
  obtain⟨⟨u,e1,e2,e3⟩,_⟩:=h
  exact⟨u,e1,e2,by simpa using e3⟩
 | y :: xs,off,j+1,x,h,hj=>by
  obtain⟨u,e1,e2,e3⟩:=ZmH xs (off+sz) j x h.2 (by simpa using hj)
  exact⟨u,e1,e2,fun k v hk=>by rw[<- e3 k v hk];congr 2;rw[succ_mul];omega⟩
theorem Zm6 {b sz:Nat}:∀(xs:List D) (off:Nat),(∀(j:Nat) x,xs[j]? = some x->∃u,Zbu A1 A0 AL w x u/\u.cells.size=sz/\∀k v,u.cells[k]? = some v->w.cell? ⟨b,off+j*sz+k,none⟩=some v) ->
  Zhv A1 A0 AL w b sz off xs
 | [],off,_=>trivial
 | y :: xs,off,h=>by
  refine⟨by simpa using h 0 y (by simp),Zm6 xs (off+sz) fun j x hj=>?_⟩
  obtain⟨u,e1,e2,e3⟩:=h (j+1) x (by simpa using hj)
  exact⟨u,e1,e2,fun k v hk=>by rw[<- e3 k v hk];congr 2;rw[succ_mul];omega⟩
theorem ZoK {b:Nat}:∀(xs:List D) (off j:Nat) (x:D),Zdb A1 A0 AL w b off xs->xs[j]? = some x->∃u,w.cell? ⟨b,off+j,none⟩=some u/\Zbu A1 A0 AL w x u
 | [],off,j,x,_,hj=>by simp at hj
 | y :: xs,off,0,x,h,hj=>by simp at hj;subst hj;simpa using h.1
 | y :: xs,off,j+1,x,h,hj=>by
  have:=ZoK xs (off+1) j x h.2 (by simpa using hj)
  rwa [show off+1+j=off+(j+1) from by omega] at this
theorem Zj4 {b:Nat}:∀(xs:List D) (off:Nat),(∀(j:Nat) x,xs[j]? = some x->∃u,w.cell? ⟨b,off+j,none⟩=some u/\Zbu A1 A0 AL w x u)->Zdb A1 A0 AL w b off xs
 | [],off,_=>trivial
 | y :: xs,off,h=>⟨by simpa using h 0 y (by simp),Zj4 xs (off+1) fun j x hj=>by
   have:=h (j+1) x (by simpa using hj)
   rwa [show off+(j+1)=off+1+j from by omega] at this⟩
theorem Zwt {b:Nat} (xs:List D) (off n:Nat) (h:Zdb A1 A0 AL w b off xs):Zdb A1 A0 AL w b (off+n) (xs.drop n):=
 Zj4 _ _ fun j x hj=>by
  have:=ZoK xs off (n+j) x h (by simpa using hj)
  rwa [<- Nat.add_assoc] at this
theorem Zh0:∀(xs:List D) (us:List Value) (j:Nat) (x:D),Za7 A1 A0 AL w xs us->xs[j]? = some x->∃u,us[j]? = some u/\Zbu A1 A0 AL w x u
 | [],us,j,x,_,hj=>by simp at hj
 | y :: xs,us,0,x,h,hj=>by
  obtain⟨u,us',rfl,e1,e2⟩:=h
  simp at hj;subst hj
  exact⟨u,by simp,e1⟩
 | y :: xs,us,j+1,x,h,hj=>by
  obtain⟨u,us',rfl,e1,e2⟩:=h
  simpa using Zh0 xs us' j x e2 (by simpa using hj)
theorem Zwu:∀(xs:List D) (us:List Value),Za7 A1 A0 AL w xs us->us.length=xs.length
 | [],us,h=>by simp only[Za7] at h;subst h;rfl
 | y :: xs,us,h=>by
  obtain⟨u,us',rfl,e1,e2⟩:=h
  simp[Zwu xs us' e2]
end
structure RP where
 B1:Nat->Prop
 B0:Nat->Prop
 M:Nat->Option (Option Nat)
 H:Zm
def RP.live (R:RP) (c:Nat):Prop:=∃i,Zad R.H i=true/\R.M i=some (some c)
def RP.AL (R:RP) (c:Nat):Prop:=¬R.live c
def RP.A0 (R:RP) (c:Nat):Prop:=¬R.live c/\¬R.B0 c
def RP.A1 (R:RP) (c:Nat):Prop:=¬R.live c/\¬R.B1 c
abbrev RP.den (R:RP) (w:World) (x:D) (u:Value):Prop:=Zbu R.A1 R.A0 R.AL w x u
def Zx6 (w:World) (m:Option Nat) (xs:List D) (sz o len:Nat) (u:Value):Prop:=
 o+len<=xs.length/\∃a cap,u = .slice a len cap/\len<=cap /\
  ((cap=0/\o=xs.length)∨∃c cs el fr,m=some c/\a=some ⟨c,o*sz,none⟩/\w.heap[c]? = some (.cells cs el fr)/\cs.size=(o+cap)*sz)
mutual
def Za6 (R:RP) (w:World):V->Value->Prop
 | .d x,u=>R.den w x u
 | .bad,_=>True
 | .ptr b o,u=>∃c,R.M b=some (some c)/\u = .pointer (some ⟨c,o,none⟩)
 | .eptr b sz i k,u=>∃c,R.M b=some (some c)/\u = .pointer (some ⟨c,i*sz+k,none⟩)
 | .sl b sz,u=>(∃a n c,u = .slice a n c)/\∃m,R.M b=some m/\∀xs,nth R.H b=some (.arr sz xs)->Zx6 w m xs sz 0 xs.length u
 | .slp b sz o len,u=>(∃a n c,u = .slice a n c)/\∃m,R.M b=some m/\∀xs,nth R.H b=some (.arr sz xs)->Zx6 w m xs sz o len u
 | .nilsl _,u=>∃a,u = .slice a 0 0
 | .agg cs,u=>∃us:List Value,u = .agg us.toArray/\ZaT R w cs us
 | .tup cs,u=>∃us:List Value,u = .tuple us.toArray/\ZaT R w cs us
 | .fn f caps,u=>∃us:List Value,u=Zm7 f us/\ZaT R w caps us
 | .mp b,u=>(∃a,u = .map a)/\∃m,R.M b=some m/\∀es,nth R.H b=some (.mp es)->∃c,m=some c/\u = .map (some c)
 | .ch b,u=>(∃a,u = .chan a)/\∃m,R.M b=some m/\∀xs,nth R.H b=some (.ch xs)->∃c,m=some c/\u = .chan (some c)
def ZaT (R:RP) (w:World):List V->List Value->Prop
 | [],us=>us=[]
 | x :: xs,us=>∃u us',us=u :: us'/\Za6 R w x u/\ZaT R w xs us'
end
end
section
def Zzm (fr:Nat×Nat):Prop:=fr.2<=fr.1
theorem Zzm.not {w:World}{c:Nat}{cs:Array Value}{el:TypeId}{fr:Nat×Nat} (h:Zzm fr) (hc:w.heap[c]? = some (.cells cs el fr)) (o:Nat):w.frozen? ⟨c,o,none⟩=false:=by
 unfold Zzm at h
 simp only[World.frozen?,hc]
 by_cases h1:fr.1<=o
 ·by_cases h2:o<fr.2
  ·omega
  ·simp[h2]
 ·simp[h1]
def Zhk:D->Value
 | .bool b=>.bool b
 | .int k n=>.int k n
 | _=>undef
def ZmA:D->Value
 | .agg cs=>.agg (cs.map Zhk).toArray
 | x=>Zhk x
def Zqs:D->Bool
 | .agg cs=>cs.all Zkm
 | x=>Zkm x
structure ZOy (w:World) (c:Nat) (es:List (D×D)):Prop where
 mk ::
 ex:∃mes clock,w.heap[c]? = some (.map mes clock)/\mes.toList.map (fun e=>(e.key,e.val))=es.map (fun q=>(ZmA q.1,Zhk q.2))
 fl:∀q∈es,Zqs q.1=true/\Zkm q.2=true
def ZOg (w:World) (c:Nat) (xs:List Int):Prop:=∃cap s r,w.heap[c]? = some (.chan cap (xs.map fun n=>Value.int .i64 n).toArray false s r false)
def Zi1 (R:RP) (w:World) (m:Option Nat):Blk->Prop
 | .dead=>True
 | .cells vs=>∃c cs el fr,m=some c/\w.heap[c]? = some (.cells cs el fr)/\Zzm fr/\vs.length<=cs.size/\∀(k:Nat) v,vs[k]? = some v->∃u,cs[k]? = some u/\Za6 R w v u
 | .arr sz xs=>0<sz/\(∀x∈xs,x.esc=true)/\((m=none/\xs=[])∨∃c cs el,m=some c/\w.heap[c]? = some (.cells cs el (0,0))/\xs.length*sz<=cs.size /\
   ∀(j:Nat) x,xs[j]? = some x->∃u,R.den w x u/\u.cells.size=sz/\∀(k:Nat) v,u.cells[k]? = some v->cs[j*sz+k]? = some v)
 | .mp es=>∃c,m=some c/\ZOy w c es
 | .ch xs=>∃c,m=some c/\ZOg w c xs
structure RP.OK (R:RP) (w:World):Prop where
 b01:∀c,R.B0 c->R.B1 c
 al:∀(i:Nat) blk,R.H[i]? = some blk->blk ≠ .dead->∃m,R.M i=some m
 inj:∀i j c,Zad R.H i=true->Zad R.H j=true->R.M i=some (some c)->R.M j=some (some c)->i=j
 lt:∀i c,R.M i=some (some c)->c<w.heap.size
 blk:∀(i:Nat) m blk,R.H[i]? = some blk->R.M i=some m->Zi1 R w m blk
 nb:∀i c,Zad R.H i=true->R.M i=some (some c)->¬R.B1 c
 bl:∀c,R.B1 c->c<w.heap.size
theorem Zx {H:Zm}{i:Nat}:Zad H i=true↔∃blk,H[i]? = some blk/\blk ≠ .dead:=by
 unfold Zad
 rw[Z2]
 cases h:H[i]? with
 | none=>simp
 | some blk=>cases blk<;>simp
def Blk.like:Blk->Blk->Prop
 | .cells _,.cells _=>True
 | .arr sz xs,.arr sz' ys=>sz=sz'/\ys.length=xs.length
 | .mp _,.mp _=>True
 | .ch _,.ch _=>True
 | _,_=>False
structure Ext (R:RP) (w:World) (R':RP) (w':World):Prop where
 m:∀i x,R.M i=some x->R'.M i=some x
 h:∀(i:Nat) x blk,R.M i=some x->R'.H[i]? = some blk->blk ≠ .dead->∃old,R.H[i]? = some old/\old.like blk
 b1:R'.B1=R.B1
 b0:R'.B0=R.B0
 same:∀(b:Nat),b<w.heap.size->¬R.live b->w'.heap[b]? = w.heap[b]?
 row:∀(b:Nat) cs el fr,w.heap[b]? = some (Obj.cells cs el fr)->∃cs' el' fr',w'.heap[b]? = some (Obj.cells cs' el' fr')/\cs'.size=cs.size
 grow:w.heap.size<=w'.heap.size
 liv:∀c,c<w.heap.size->R'.live c->R.live c
 os:w'.os=w.os
 tape:w'.tape=w.tape
 output:w'.output=w.output
theorem Blk.like_refl {b:Blk} (h:b ≠ .dead):b.like b:=by cases b<;>simp_all [Blk.like]
theorem Ext.refl (R:RP) (w:World):Ext R w R w:=
 ⟨fun _ _ h=>h,fun i x blk _ h hd=>⟨blk,h,Blk.like_refl hd⟩,rfl,rfl,fun _ _ _=>rfl,fun _ cs el fr h=>⟨cs,el,fr,h,rfl⟩,Nat.le_refl _,fun _ _ h=>h,rfl,rfl,rfl⟩
theorem Blk.like_trans {a b c:Blk} (h:a.like b) (k:b.like c):a.like c:=by
 cases a<;>cases b<;>cases c<;>simp_all [Blk.like]
theorem Blk.like_ne {a b:Blk} (h:a.like b):a ≠ .dead:=by cases a<;>cases b<;>simp_all [Blk.like]
theorem Ext.trans {R R1 R2:RP}{w w1 w2:World} (h:Ext R w R1 w1) (k:Ext R1 w1 R2 w2):Ext R w R2 w2 where
 m:=fun i x hx=>k.m i x (h.m i x hx)
 h:=fun i x blk hx hb hd=>by
  obtain⟨o1,e1,e2⟩:=k.h i x blk (h.m i x hx) hb hd
  obtain⟨o,f1,f2⟩:=h.h i x o1 hx e1 (Blk.like_ne e2)
  exact⟨o,f1,Blk.like_trans f2 e2⟩
 b1:=k.b1.trans h.b1
 b0:=k.b0.trans h.b0
 same:=fun b hb hl=>(k.same b (lt_of_lt_of_le hb h.grow) (fun hl'=>hl (h.liv b hb hl'))).trans (h.same b hb hl)
 row:=fun b cs el fr hb=>by
  obtain⟨cs1,el1,fr1,e1,e2⟩:=h.row b cs el fr hb
  obtain⟨cs2,el2,fr2,f1,f2⟩:=k.row b cs1 el1 fr1 e1
  exact⟨cs2,el2,fr2,f1,f2.trans e2⟩
 grow:=le_trans h.grow k.grow
 liv:=fun c hc hl=>h.liv c hc (k.liv c (lt_of_lt_of_le hc h.grow) hl)
 os:=k.os.trans h.os
 tape:=k.tape.trans h.tape
 output:=k.output.trans h.output
section
variable {R R':RP} {w w':World}
theorem Ext.den (e:Ext R w R' w') (hb:∀c,R.B0 c->R.B1 c) {x:D}{u:Value} (h:R.den w x u):R'.den w' x u:=by
 refine Zbu.change _ _ _ _ ?_ ?_ ?_ ?_ e.grow ?_ ?_ x u h
 ·exact fun b hb' ⟨h1,h2⟩=>⟨fun hl=>h1 (e.liv b hb' hl),by rw[e.b1];exact h2⟩
 ·exact fun b hb' ⟨h1,h2⟩=>⟨fun hl=>h1 (e.liv b hb' hl),by rw[e.b0];exact h2⟩
 ·exact fun b hb' h1 hl=>h1 (e.liv b hb' hl)
 ·exact fun b hb' hl=>e.same b hb' hl
 ·exact fun b h=>h.1
 ·exact fun b h=>h.1
theorem Ext.slAt (e:Ext R w R' w') {m:Option Nat}{xs ys:List D}{sz o len:Nat}{u:Value} (hl:ys.length=xs.length) (h:Zx6 w m xs sz o len u):Zx6 w' m ys sz o len u:=by
 obtain⟨h1,a,cap,h2,h3,h4⟩:=h
 refine⟨by omega,a,cap,h2,h3,?_⟩
 rcases h4 with⟨h4,h5⟩ | ⟨c,cs,el,fr,h4,h5,h6,h7⟩
 ·exact .inl ⟨h4,by omega⟩
 ·obtain⟨cs',el',fr',f1,f2⟩:=e.row c cs el fr h6
  exact .inr ⟨c,cs',el',fr',h4,h5,f1,by omega⟩
mutual
theorem Ext.denV (e:Ext R w R' w') (hb:∀c,R.B0 c->R.B1 c):∀(v:V) (u:Value),Za6 R w v u->Za6 R' w' v u
 | .d x,u,h=>e.den hb h
 | .bad,_,h=>h
 | .ptr b o,u,h=>by
  obtain⟨c,h1,h2⟩:=h
  exact⟨c,e.m b _ h1,h2⟩
 | .eptr b sz i k,u,h=>by
  obtain⟨c,h1,h2⟩:=h
  exact⟨c,e.m b _ h1,h2⟩
 | .sl b sz,u,h=>by
  obtain⟨h0,m,h1,h2⟩:=h
  refine⟨h0,m,e.m b m h1,fun xs hc=>?_⟩
  rw[Z2] at hc
  obtain⟨old,f1,f2⟩:=e.h b m _ h1 hc (by simp)
  cases old<;>simp[Blk.like] at f2
  rename_i sz0 xs0
  obtain⟨rfl,f2⟩:=f2
  have:=e.slAt f2 (h2 xs0 (by rw[Z2];exact f1))
  rw[f2]
  exact this
 | .slp b sz o len,u,h=>by
  obtain⟨h0,m,h1,h2⟩:=h
  refine⟨h0,m,e.m b m h1,fun xs hc=>?_⟩
  rw[Z2] at hc
  obtain⟨old,f1,f2⟩:=e.h b m _ h1 hc (by simp)
  cases old<;>simp[Blk.like] at f2
  rename_i sz0 xs0
  obtain⟨rfl,f2⟩:=f2
  exact e.slAt f2 (h2 xs0 (by rw[Z2];exact f1))
 | .nilsl sz,u,h=>h
 | .agg cs,u,h=>by
  obtain⟨us,h1,h2⟩:=h
  exact⟨us,h1,Ext.denVs e hb cs us h2⟩
 | .tup cs,u,h=>by
  obtain⟨us,h1,h2⟩:=h
  exact⟨us,h1,Ext.denVs e hb cs us h2⟩
 | .fn f caps,u,h=>by
  obtain⟨us,h1,h2⟩:=h
  exact⟨us,h1,Ext.denVs e hb caps us h2⟩
 | .mp b,u,h=>by
  obtain⟨h0,m,h1,h2⟩:=h
  refine⟨h0,m,e.m b m h1,fun es hc=>?_⟩
  rw[Z2] at hc
  obtain⟨old,f1,f2⟩:=e.h b m _ h1 hc (by simp)
  cases old<;>simp[Blk.like] at f2
  rename_i es0
  exact h2 es0 (by rw[Z2];exact f1)
 | .ch b,u,h=>by
  obtain⟨h0,m,h1,h2⟩:=h
  refine⟨h0,m,e.m b m h1,fun es hc=>?_⟩
  rw[Z2] at hc
  obtain⟨old,f1,f2⟩:=e.h b m _ h1 hc (by simp)
  cases old<;>simp[Blk.like] at f2
  rename_i es0
  exact h2 es0 (by rw[Z2];exact f1)
theorem Ext.denVs (e:Ext R w R' w') (hb:∀c,R.B0 c->R.B1 c):∀(vs:List V) (us:List Value),ZaT R w vs us->ZaT R' w' vs us
 | [],us,h=>h
 | v :: vs,us,h=>by
  obtain⟨u,us',h1,h2,h3⟩:=h
  exact⟨u,us',h1,Ext.denV e hb v u h2,Ext.denVs e hb vs us' h3⟩
end
theorem Ext.blkOK (e:Ext R w R' w') (hb:∀c,R.B0 c->R.B1 c) {m:Option Nat}{blk:Blk} (hs:∀(c:Nat),m=some c->w'.heap[c]? = w.heap[c]?) (h:Zi1 R w m blk):Zi1 R' w' m blk:=by
 cases blk with
 | dead=>trivial
 | cells vs=>
  obtain⟨c,cs,el,fr,h1,h2,h3,h4,h5⟩:=h
  refine⟨c,cs,el,fr,h1,by rw[hs c h1];exact h2,h3,h4,fun k v hk=>?_⟩
  obtain⟨u,f1,f2⟩:=h5 k v hk
  exact⟨u,f1,e.denV hb v u f2⟩
 | arr sz xs=>
  obtain⟨h0,h1,h2⟩:=h
  refine⟨h0,h1,?_⟩
  rcases h2 with h2 | ⟨c,cs,el,h3,h4,h5,h6⟩
  ·exact .inl h2
  ·refine .inr ⟨c,cs,el,h3,by rw[hs c h3];exact h4,h5,fun j x hj=>?_⟩
   obtain⟨u,f1,f2,f3⟩:=h6 j x hj
   exact⟨u,e.den hb f1,f2,f3⟩
 | mp es=>
  obtain⟨c,h1,⟨mes,clock,h2,h3⟩,h4⟩:=h
  exact⟨c,h1,⟨mes,clock,by rw[hs c h1];exact h2,h3⟩,h4⟩
 | ch xs=>
  obtain⟨c,h1,cap,s,r,h2⟩:=h
  exact⟨c,h1,cap,s,r,by rw[hs c h1];exact h2⟩
end
theorem Ext.draw {R:RP}{w w':World} (hh:w'.heap=w.heap) (ho:w'.os=w.os) (ht:w'.tape=w.tape) (hp:w'.output=w.output):Ext R w R w':=
 ⟨fun _ _ h=>h,fun i x blk _ h hd=>⟨blk,h,Blk.like_refl hd⟩,rfl,rfl,fun _ _ _=>by rw[hh],fun _ cs el fr h=>⟨cs,el,fr,by rw[hh];exact h,rfl⟩,by rw[hh];exact Nat.le_refl _,fun _ _ h=>h,ho,ht,hp⟩
theorem RP.OK.draw {R:RP}{w w':World} (h:R.OK w) (hh:w'.heap=w.heap) (ho:w'.os=w.os) (ht:w'.tape=w.tape) (hp:w'.output=w.output):R.OK w':=
 ⟨h.b01,h.al,h.inj,fun i c hc=>by rw[hh];exact h.lt i c hc,fun i m blk h1 h2=>(Ext.draw (R:=R) hh ho ht hp).blkOK h.b01 (fun c _=>by rw[hh]) (h.blk i m blk h1 h2),h.nb,fun c hc=>by rw[hh];exact h.bl c hc⟩
theorem Ext.new {R:RP}{w:World}{H':Zm}{n:Nat}{blk:Blk}{m:Option Nat} (o:Obj) (hn:R.M n=none) (hH:∀(i:Nat),i≠n->H'[i]? = R.H[i]?) (hb:H'[n]? = some blk)
  (hm:m=none∨m=some w.heap.size) (lt:∀i c,R.M i=some (some c)->c<w.heap.size) (al:∀(i:Nat) blk,R.H[i]? = some blk->blk ≠ .dead->∃m,R.M i=some m) :
  Ext R w { R with M:=fun i=>if i=n then some m else R.M i,H:=H' } (w.alloc o) where
 m:=fun i x hx=>by
  have:i≠n:=fun e=>by rw[e,hn] at hx;cases hx
  simp[this,hx]
 h:=fun i x blk' hx hb' hd=>by
  have:i≠n:=fun e=>by rw[e,hn] at hx;cases hx
  simp only[hH i this] at hb'
  exact⟨blk',hb',Blk.like_refl hd⟩
 b1:=rfl
 b0:=rfl
 same:=fun b hb' _=>Go.RowKit.Below.heap_alloc _ _ _ hb'
 row:=fun b cs el fr hb'=>by
  have hlt:b<w.heap.size:=by
   rcases lt_or_ge b w.heap.size with h | h
   ·exact h
   ·rw[Array.getElem?_eq_none h] at hb';cases hb'
  exact⟨cs,el,fr,by rw[Go.RowKit.Below.heap_alloc _ _ _ hlt];exact hb',rfl⟩
 grow:=by simp
 liv:=fun c hc ⟨i,h1,h2⟩=>by
  by_cases e:i=n
  ·subst e
   simp only[if_true] at h2
   rcases hm with h | h
   ·rw[h] at h2;cases h2
   ·rw[h] at h2;cases h2;omega
  ·simp only[e,if_false] at h2
   refine⟨i,?_,h2⟩
   rw[Zx] at h1 ⊢
   obtain⟨b',f1,f2⟩:=h1
   exact⟨b',by rw[<- hH i e];exact f1,f2⟩
 os:=rfl
 tape:=rfl
 output:=rfl
theorem RP.OK.new {R:RP}{w:World}{H':Zm}{n:Nat}{blk:Blk}{m:Option Nat}{o:Obj} (h:R.OK w) (hn:R.M n=none) (hH:∀(i:Nat),i≠n->H'[i]? = R.H[i]?) (hb:H'[n]? = some blk)
  (hm:m=none∨m=some w.heap.size)
  (hk:Ext R w { R with M:=fun i=>if i=n then some m else R.M i,H:=H' } (w.alloc o)->Zi1 { R with M:=fun i=>if i=n then some m else R.M i,H:=H' } (w.alloc o) m blk) :
  RP.OK { R with M:=fun i=>if i=n then some m else R.M i,H:=H' } (w.alloc o):=by
 have e:=Ext.new (R:=R) (w:=w) (H':=H') (n:=n) (blk:=blk) (m:=m) o hn hH hb hm h.lt h.al
 refine⟨h.b01,?_,?_,?_,?_,?_,fun c hc=>by have:=h.bl c hc;simp;omega⟩
 ·intro i blk' hi hd
  by_cases ei:i=n
  ·exact⟨m,by simp[ei]⟩
  ·simp only[hH i ei] at hi
   obtain⟨x,hx⟩:=h.al i blk' hi hd
   exact⟨x,by simp[ei,hx]⟩
 ·intro i j c hi hj h1 h2
  simp only at h1 h2
  by_cases ei:i=n<;>by_cases ej:j=n
  ·rw[ei,ej]
  ·rw[if_pos ei] at h1;rw[if_neg ej] at h2
   have:=h.lt j c h2
   rcases hm with h' | h'<;>rw[h'] at h1<;>cases h1
   omega
  ·rw[if_neg ei] at h1;rw[if_pos ej] at h2
   have:=h.lt i c h1
   rcases hm with h' | h'<;>rw[h'] at h2<;>cases h2
   omega
  ·rw[if_neg ei] at h1;rw[if_neg ej] at h2
   have l1:Zad R.H i=true:=by rw[Zx] at hi ⊢;obtain⟨b',f1,f2⟩:=hi;exact⟨b',by rw[<- hH i ei];exact f1,f2⟩
   have l2:Zad R.H j=true:=by rw[Zx] at hj ⊢;obtain⟨b',f1,f2⟩:=hj;exact⟨b',by rw[<- hH j ej];exact f1,f2⟩
   exact h.inj i j c l1 l2 h1 h2
 ·intro i c hc
  simp only at hc
  by_cases ei:i=n
  ·rw[if_pos ei] at hc
   rcases hm with h' | h'<;>rw[h'] at hc<;>cases hc
   simp
  ·rw[if_neg ei] at hc
   have:=h.lt i c hc
   simp;omega
 ·intro i x blk' hi hx
  simp only at hi hx
  by_cases ei:i=n
  ·subst ei
   rw[if_pos rfl] at hx
   cases hx
   rw[hb] at hi
   cases hi
   exact hk e
  ·rw[if_neg ei] at hx
   rw[hH i ei] at hi
   refine e.blkOK h.b01 (fun c hc=>?_) (h.blk i x blk' hi hx)
   exact Go.RowKit.Below.heap_alloc _ _ _ (h.lt i c (by rw[hx,hc]))
 ·intro i c hl hc hb1
  simp only at hc hb1
  by_cases ei:i=n
  ·rw[if_pos ei] at hc
   rcases hm with h' | h'<;>rw[h'] at hc<;>cases hc
   exact absurd (h.bl _ hb1) (by omega)
  ·rw[if_neg ei] at hc
   refine h.nb i c ?_ hc hb1
   rw[Zx] at hl ⊢;obtain⟨b',f1,f2⟩:=hl;exact⟨b',by rw[<- hH i ei];exact f1,f2⟩
theorem Ext.kill {R:RP}{w:World}{H':Zm} (hH:∀(i:Nat) blk,H'[i]? = some blk->blk ≠ .dead->R.H[i]? = some blk):Ext R w { R with H:=H' } w:=
 ⟨fun _ _ h=>h,fun i x blk _ h hd=>⟨blk,hH i blk h hd,Blk.like_refl hd⟩,rfl,rfl,fun _ _ _=>rfl,fun _ cs el fr h=>⟨cs,el,fr,h,rfl⟩,Nat.le_refl _,
  fun c _ ⟨i,h1,h2⟩=>by
   rw[Zx] at h1
   obtain⟨blk,f1,f2⟩:=h1
   exact⟨i,Zx.2 ⟨blk,hH i blk f1 f2,f2⟩,h2⟩,rfl,rfl,rfl⟩
theorem RP.OK.kill {R:RP}{w:World}{H':Zm} (h:R.OK w) (hH:∀(i:Nat) blk,H'[i]? = some blk->blk ≠ .dead->R.H[i]? = some blk):RP.OK { R with H:=H' } w:=by
 have e:=Ext.kill (R:=R) (w:=w) hH
 have lv:∀i,Zad H' i=true->Zad R.H i=true:=fun i hi=>by
  rw[Zx] at hi ⊢
  obtain⟨blk,f1,f2⟩:=hi
  exact⟨blk,hH i blk f1 f2,f2⟩
 refine⟨h.b01,fun i blk hi hd=>h.al i blk (hH i blk hi hd) hd,fun i j c hi hj=>h.inj i j c (lv i hi) (lv j hj),h.lt,fun i m blk hi hm=>?_,fun i c hl=>h.nb i c (lv i hl),h.bl⟩
 by_cases hd:blk = .dead
 ·subst hd;trivial
 ·exact e.blkOK h.b01 (fun _ _=>rfl) (h.blk i m blk (hH i blk hi hd) hm)
end
open List (length_nil length_take length_drop length_map)
def Zc9 (P:Program) (o:Oper) (a:Act) (w:World) (Post:Value->World->Prop):Prop:=
 (∃u w',(execOp a.eval o).run P w = .ok (.value u) w'/\Post u w')∨(∃w',(execOp a.eval o).run P w = .ok .skip w'/\Post undef w') ∨
 (∃f args w',(execOp a.eval o).run P w = .ok (.enter f args) w'/\Calls P f args w' fun e w''=>∃u,e = .returned u/\Post u w'')
theorem Zc9.wp {P:Program}{o:Oper}{a:Act}{w:World}{Post:Value->World->Prop}{K:Act->World->Prop}{Q:Exit->Act->World->Prop}
  (h:Zc9 P o a w Post) (hK:∀u w',Post u w'->K (a.put o.dst u) w'):o.wp P a w K Q:=by
 unfold Oper.wp
 rcases h with⟨u,w',h1,h2⟩ | ⟨w',h1,h2⟩ | ⟨f,args,w',h1,h2⟩
 ·rw[h1];exact hK _ _ h2
 ·rw[h1];exact hK _ _ h2
 ·rw[h1]
  exact h2.mono fun e w'' ⟨u,he,hp⟩=>by subst he;exact hK _ _ hp
theorem Zc9.val {P:Program}{o:Oper}{a:Act}{w w':World}{Post:Value->World->Prop}{u:Value} (h:(execOp a.eval o).run P w = .ok (.value u) w') (hp:Post u w'):Zc9 P o a w Post:=
 .inl ⟨u,w',h,hp⟩
mutual
def cv:V->Value->Bool
 | .d (.bool a),.bool b=>a==b
 | .d (.int k n),.int k' m=>k==k'&&n==m
 | .d (.str s),.string t=>decide (s=t)
 | .d .nilfn,.nilFunc=>true
 | .d .nilp,.pointer none=>true
 | .d .nilI,.nilIface=>true
 | .d (.fn f []),.func (.func g) a b=>isU f&&(f==g&&a.isEmpty&&b.isEmpty)
 | .d (.agg ds),.agg us=>cds ds us.toList
 | .d (.list _ []),.slice _ n _=>n==0
 | .nilsl _,.slice _ n c=>n==0&&c==0
 | .agg vs,.agg us=>cvs vs us.toList
 | .bad,_=>true
 | _,_=>false
def cvs:List V->List Value->Bool
 | [],[]=>true
 | v :: vs,u :: us=>cv v u&&cvs vs us
 | _,_=>false
def cds:List D->List Value->Bool
 | [],[]=>true
 | .bool a :: ds,.bool b :: us=>a==b&&cds ds us
 | .int k n :: ds,.int k' m :: us=>k==k'&&n==m&&cds ds us
 | .str s :: ds,.string t :: us=>decide (s=t)&&cds ds us
 | .nilfn :: ds,.nilFunc :: us=>cds ds us
 | .nilp :: ds,.pointer none :: us=>cds ds us
 | .nilI :: ds,.nilIface :: us=>cds ds us
 | .list _ [] :: ds,.slice _ n _ :: us=>n==0&&cds ds us
 | _,_=>false
end
theorem ZKh {A1 A0 AL:Nat->Prop}{w:World}:∀(ds:List D) (us:List Value),cds ds us=true->Za7 A1 A0 AL w ds us:=by
 intro ds
 induction ds with
 | nil=>intro us h;cases us<;>simp_all [cds,Za7]
 | cons x ds ih=>
  intro us h
  cases us with
  | nil=>cases x<;>simp_all [cds]
  | cons u us=>
   refine⟨u,us,rfl,?_⟩
   cases x with
   | bool a=>cases u<;>simp_all [cds,Zbu]
   | int k n=>cases u<;>simp_all [cds,Zbu]
   | str s=>
    cases u<;>simp only[cds,aT,decide_eq_true_eq,Bool.false_eq_true] at h
    exact⟨by rw[h.1];rfl,ih us h.2⟩
   | nilfn=>cases u<;>simp_all [cds,Zbu]
   | nilI=>cases u<;>simp_all [cds,Zbu]
   | nilp=>
    cases u with
    | pointer a=>cases a<;>simp_all [cds,Zbu]
    | _=>simp_all [cds]
   | list own xs=>
    cases xs with
    | nil=>
     cases u with
     | slice a n c=>
      simp only[cds,aT,beq_iff_eq] at h
      obtain⟨rfl,h⟩:=h
      exact⟨⟨a,0,c,rfl,rfl,zero_le _,by simp,by simp⟩,ih us h⟩
     | _=>simp_all [cds]
    | cons y ys=>cases u<;>simp_all [cds]
   | agg cs=>cases u<;>simp_all [cds]
   | tup cs=>cases u<;>simp_all [cds]
   | fn f cs=>cases u<;>simp_all [cds]
   | rptr cs=>cases u<;>simp_all [cds]
   | iface t v=>cases u<;>simp_all [cds]
mutual
theorem Zxi {R:RP}{w:World}:∀(v:V) (u:Value),cv v u=true->Za6 R w v u
 | .bad,_,_=>trivial
 | .nilsl sz,u,h=>by
  cases u<;>simp_all [cv,Za6]
 | .agg vs,u,h=>by
  cases u<;>simp only[cv] at h<;>try (cases h;done)
  rename_i us
  exact⟨us.toList,rfl,ZAR vs us.toList h⟩
 | .d x,u,h=>by
  cases x with
  | bool a=>cases u<;>simp_all [cv,Za6,RP.den,Zbu]
  | int k n=>cases u<;>simp_all [cv,Za6,RP.den,Zbu]
  | str s=>
   cases u<;>simp only[cv,decide_eq_true_eq,Bool.false_eq_true] at h
   rw[h];rfl
  | nilfn=>cases u<;>simp_all [cv,Za6,RP.den,Zbu]
  | nilI=>cases u<;>simp_all [cv,Za6,RP.den,Zbu]
  | nilp=>
   cases u with
   | pointer a=>cases a<;>simp_all [cv,Za6,RP.den,Zbu]
   | _=>simp_all [cv]
  | fn f cs=>
   cases cs with
   | cons=>cases u<;>simp_all [cv]
   | nil=>
    cases u with
    | func fn a b=>
     cases fn<;>simp only[cv,aT,beq_iff_eq,Array.isEmpty_iff,Bool.false_eq_true] at h
     obtain⟨hlt,⟨rfl,rfl⟩,rfl⟩:=h
     exact⟨[],(Zur hlt _).symm,rfl⟩
    | _=>simp_all [cv]
  | agg ds=>
   cases u<;>simp only[cv] at h<;>try (cases h;done)
   rename_i us
   exact⟨us.toList,rfl,ZKh ds us.toList h⟩
  | list own xs=>
   cases xs with
   | cons=>cases u<;>simp_all [cv]
   | nil=>
    cases u<;>simp only[cv,beq_iff_eq] at h<;>try (cases h;done)
    subst h
    exact⟨_,0,_,rfl,rfl,zero_le _,by simp,by simp⟩
  | tup cs=>cases u<;>simp_all [cv]
  | rptr cs=>cases u<;>simp_all [cv]
  | iface t v=>cases u<;>simp_all [cv]
 | .ptr b o,u,h=>by cases u<;>simp_all [cv]
 | .eptr b sz i k,u,h=>by cases u<;>simp_all [cv]
 | .sl b sz,u,h=>by cases u<;>simp_all [cv]
 | .slp b sz o l,u,h=>by cases u<;>simp_all [cv]
 | .tup cs,u,h=>by cases u<;>simp_all [cv]
 | .fn f cs,u,h=>by cases u<;>simp_all [cv]
 | .mp b,u,h=>by cases u<;>simp_all [cv]
 | .ch b,u,h=>by cases u<;>simp_all [cv]
theorem ZAR {R:RP}{w:World}:∀(vs:List V) (us:List Value),cvs vs us=true->ZaT R w vs us
 | [],us,h=>by cases us<;>simp_all [cvs,ZaT]
 | v :: vs,[],h=>by simp[cvs] at h
 | v :: vs,u :: us,h=>by
  simp only[cvs,aT] at h
  exact⟨u,us,rfl,Zxi v u h.1,ZAR vs us h.2⟩
end
abbrev Zbq:=Nat->Option (List (IntKind×Int))
def gD:List (IntKind×Int)->List D
 | []=>[]
 | (k,n) :: r=>.int k n :: gD r
def eqG:List (IntKind×Int)->List D->Bool
 | [],[]=>true
 | (k,n) :: r,.int k' n' :: s=>k==k'&&n==n'&&eqG r s
 | _,_=>false
theorem ZGx:∀(g:List (IntKind×Int)) (l:List D),eqG g l=true->l=gD g
 | [],[],_=>rfl
 | [],_ :: _,h=>by simp[eqG] at h
 | (k,n) :: r,[],h=>by simp[eqG] at h
 | (k,n) :: r,x :: s,h=>by
  cases x<;>simp only[eqG,aT,beq_iff_eq,Bool.false_eq_true] at h
  obtain⟨⟨rfl,rfl⟩,h⟩:=h
  rw[gD,ZGx r s h]
def ZS (G:Zbq):Operand->Opd->Bool
 | .tmp i,.t j=>i==j
 | .const u,.c v=>cv v u
 | .func f,.c (.d (.fn g []))=>isU f&&f==g
 | .global g,.c (.d (.rptr cs))=>match G g with | some l=>eqG l cs | none=>false
 | _,_=>false
def Zfl (G:Zbq):List Operand->List Opd->Bool
 | [],[]=>true
 | x :: xs,y :: ys=>ZS G x y&&Zfl G xs ys
 | _,_=>false
def GOK (G:Zbq) (R:RP) (w:World):Prop:=∀g l,G g=some l->R.den w (.rptr (gD l)) (.pointer (some ⟨g,0,none⟩))
def Zi0 (R:RP) (w:World) (e:Env) (a:Act):Prop:=∀t,Za6 R w (e t) (a.tmps.getD t undef)
theorem Zrp {G:Zbq}{R:RP}{w:World}{e:Env}{a:Act} (hg:GOK G R w) (he:Zi0 R w e a) {x:Operand}{y:Opd} (h:ZS G x y=true):Za6 R w (y.val e) (a.eval x):=by
 cases x with
 | tmp i=>
  cases y with
  | t j=>
   simp only[ZS,beq_iff_eq] at h
   subst h
   exact he i
  | c v=>simp[ZS] at h
 | const u=>
  cases y with
  | t j=>simp[ZS] at h
  | c v=>exact Zxi v u h
 | func f=>
  cases y with
  | t j=>simp[ZS] at h
  | c v=>
   cases v with
   | d x=>
    cases x with
    | fn g caps=>
     cases caps with
     | nil=>
      simp only[ZS,aT,beq_iff_eq] at h
      obtain⟨hlt,rfl⟩:=h
      exact⟨[],(Zur hlt _).symm,rfl⟩
     | cons=>simp[ZS] at h
    | _=>simp[ZS] at h
   | _=>simp[ZS] at h
 | global g=>
  cases y with
  | t j=>simp[ZS] at h
  | c v=>
   cases v with
   | d x=>
    cases x with
    | rptr cs=>
     cases hG:G g with
     | none=>simp[ZS,hG] at h
     | some l=>
      simp only[ZS,hG] at h
      rw[ZGx l cs h]
      exact hg g l hG
    | _=>simp[ZS] at h
   | _=>simp[ZS] at h
theorem Zxu {G:Zbq}{R:RP}{w:World}{e:Env}{a:Act} (hg:GOK G R w) (he:Zi0 R w e a):∀{xs:List Operand}{ys:List Opd},Zfl G xs ys=true->ZaT R w (ZgU e ys) (xs.map a.eval)
 | [],[],_=>rfl
 | [],_ :: _,h=>by simp[Zfl] at h
 | _ :: _,[],h=>by simp[Zfl] at h
 | x :: xs,y :: ys,h=>by
  simp only[Zfl,aT] at h
  exact⟨_,_,rfl,Zrp hg he h.1,Zxu hg he h.2⟩
theorem Ext.gok {G:Zbq}{R R':RP}{w w':World} (e:Ext R w R' w') (hb:∀c,R.B0 c->R.B1 c) (h:GOK G R w):GOK G R' w':=fun g l hg=>e.den hb (h g l hg)
theorem Ext.envOK {R R':RP}{w w':World} (x:Ext R w R' w') (hb:∀c,R.B0 c->R.B1 c) {e:Env}{a:Act} (h:Zi0 R w e a):Zi0 R' w' e a:=fun t=>x.denV hb _ _ (h t)
def Z8 (H:Zm) (up:List (Nat×Blk)) (nid:Nat) (nw:List Blk) (H':Zm):Prop:=
 ∀i,H'[i]? = if nid<=i/\i<nid+nw.length then nw[i-nid]? else (ZcS H up)[i]?
def Post (R:RP) (w:World) (nid n:Nat) (H':Zm) (v:V) (u:Value) (w':World):Prop:=
 ∃R',Ext R w R' w'/\R'.OK w'/\R'.H=H'/\Za6 R' w' v u/\∀i,R.M i=none->¬(nid<=i/\i<nid+n)->R'.M i=none
theorem Z8.same {H H':Zm}{nid:Nat} (h:Z8 H [] nid [] H'):H'=H:=by
 apply List.ext_getElem?
 intro i
 have:=h i
 simp only[length_nil,add_zero,ZcS] at this
 rw[this,if_neg (by omega)]
theorem Post.still {R:RP}{w w':World}{nid:Nat}{H':Zm}{v:V}{u:Value} (ok:R.OK w) (hp:Z8 R.H [] nid [] H') (hh:w'.heap=w.heap) (ho:w'.os=w.os) (ht:w'.tape=w.tape) (hpt:w'.output=w.output)
  (hv:Za6 R w v u):Post R w nid 0 H' v u w':=
 ⟨R,Ext.draw hh ho ht hpt,ok.draw hh ho ht hpt,hp.same.symm,(Ext.draw hh ho ht hpt).denV ok.b01 v u hv,fun i h _=>h⟩
theorem Post.stay {R:RP}{w:World}{nid:Nat}{H':Zm}{v:V}{u:Value} (ok:R.OK w) (hp:Z8 R.H [] nid [] H') (hv:Za6 R w v u):Post R w nid 0 H' v u w:=
 Post.still ok hp rfl rfl rfl rfl hv
theorem Post.new {R:RP}{w:World}{nid:Nat}{H':Zm}{v:V}{u:Value}{blk:Blk}{m:Option Nat} (o:Obj) (ok:R.OK w) (hp:Z8 R.H [] nid [blk] H') (hn:R.M nid=none) (hm:m=none∨m=some w.heap.size)
  (hk:∀R':RP,Ext R w R' (w.alloc o)->R'.M nid=some m->R'.H[nid]? = some blk->Zi1 R' (w.alloc o) m blk/\(Zi1 R' (w.alloc o) m blk->Za6 R' (w.alloc o) v u)):Post R w nid 1 H' v u (w.alloc o):=by
 have hH:∀i,i≠nid->H'[i]? = R.H[i]?:=fun i hi=>by
  have:=hp i
  rw[this,if_neg (by simp;omega)];rfl
 have hb:H'[nid]? = some blk:=by
  have:=hp nid
  rw[this,if_pos (by simp)];simp
 have e:=Ext.new (R:=R) (w:=w) (H':=H') (n:=nid) (blk:=blk) (m:=m) o hn hH hb hm ok.lt ok.al
 have hk':=hk _ e (by simp) hb
 exact⟨_,e,ok.new hn hH hb hm (fun _=>hk'.1),rfl,hk'.2 hk'.1,fun i hi hni=>by
  have:i≠nid:=fun h=>hni (by subst h;simp)
  simp[this,hi]⟩
section
def Le {α:Type} (x y:Option α):Prop:=∀a,x=some a->y=some a
theorem Le.refl {α:Type} (x:Option α):Le x x:=fun _ h=>h
theorem Le.trans {α:Type}{x y z:Option α} (h:Le x y) (k:Le y z):Le x z:=fun a ha=>k a (h a ha)
theorem Le.none {α:Type} (x:Option α):Le none x:=fun _ h=>by cases h
noncomputable def ZI4 {α:Type} (F:Nat->Option α):Option α:=open Classical in if h:∃n,(F n).isSome=true then F (Classical.choose h) else none
theorem ZB4 {α:Type}{F:Nat->Option α} (mono:∀n m,n<=m->Le (F n) (F m)) (a:α):ZI4 F=some a↔∃n,F n=some a:=by
 unfold ZI4
 constructor
 ·intro h
  split at h
  ·rename_i hx;exact⟨_,h⟩
  ·cases h
 ·rintro ⟨n,hn⟩
  have hx:∃n,(F n).isSome=true:=⟨n,by simp[hn]⟩
  rw[dif_pos hx]
  have hs:=Classical.choose_spec hx
  cases hv:F (Classical.choose hx) with
  | none=>rw[hv] at hs;cases hs
  | some b=>
   rcases Nat.le_total n (Classical.choose hx) with h | h
   ·rw[<- hv];exact mono _ _ h a hn
   ·have:=mono _ _ h b hv;rw[hn] at this;exact this.symm
def LeC (f g:Zbd):Prop:=∀a b c,Le (f a b c) (g a b c)
abbrev Rnd:=List V->Zm->Option Lp
abbrev ItF:=Rnd->List V->Zm->Option (Ex×List V×Zm)
def LeR (f g:Rnd):Prop:=∀a b,Le (f a b) (g a b)
def LeI (f g:ItF):Prop:=∀F G,LeR F G->∀a b,Le (f F a b) (g G a b)
theorem ZnO {Γ:Ctx}{cf cg:Zbd} (h:LeC cf cg) (nid:Nat) (H:Zm) (f:Nat) (args:List V):Le (ZiV Γ cf nid H f args) (ZiV Γ cg nid H f args):=by
 intro r hr
 unfold ZiV at hr ⊢
 split at hr
 ·rename_i hm
  cases h1:fzs H args with
  | none=>simp[h1] at hr
  | some l=>
   simp only[h1] at hr ⊢
   cases h2:cf f (ZdE l) [] with
   | none=>simp[h2] at hr
   | some p=>rw[h2] at hr;rw[h _ _ _ p h2];exact hr
 ·rename_i hm
  cases h1:fzs H args with
  | none=>simp[h1] at hr
  | some l=>
   simp only[h1] at hr ⊢
   cases h2:cf f (ZdE l) [] with
   | none=>simp[h2] at hr
   | some p=>rw[h2] at hr;rw[h _ _ _ p h2];exact hr
 ·cases h1:extract 0 args H with
  | none=>simp[h1] at hr
  | some q=>
   obtain⟨L,args',H0⟩:=q
   simp only[h1] at hr ⊢
   cases h2:cf f args' H0 with
   | none=>simp[h2] at hr
   | some p=>rw[h2] at hr;rw[h _ _ _ p h2];exact hr
theorem Zjd {Γ:Ctx}{cf:Zbd} (e:Env) (nid:Nat) (H:Zm) (x:Opd) (args:List Opd) :
  opE Γ cf e nid H (.callv x args)=match Zn7 (x.val e) with | some (f,caps)=>(match ZiW Γ (x.val e) f caps with | true=>none | false=>ZiV Γ cf nid H (Zqi f) (ZtJ f caps (ZgU e args))) | none=>none:=rfl
theorem Zin {Γ:Ctx}{cf:Zbd} (e:Env) (nid:Nat) (H:Zm) (tab:List (Nat×Nat)) (x:Opd) (args:List Opd) :
  opE Γ cf e nid H (.invoke tab x args)=match x.val e with
   | .d (.iface t y)=>(match Zqn tab t with | some f=>ZiV Γ cf nid H f (.d y :: ZgU e args) | none=>none)
   | _=>none:=rfl
theorem ZrG {Γ:Ctx}{cf cg:Zbd} (h:LeC cf cg) (e:Env) (nid:Nat) (H:Zm) (o:O):Le (opE Γ cf e nid H o) (opE Γ cg e nid H o):=by
 intro r hr
 cases o<;>try exact hr
 ·exact ZnO h _ _ _ _ r hr
 ·rename_i x args
  rw[Zjd] at hr ⊢
  cases h1:Zn7 (x.val e) with
  | none=>simp[h1] at hr
  | some q=>
   obtain⟨f,caps⟩:=q;simp only[h1] at hr ⊢
   cases hb:ZiW Γ (x.val e) f caps with
   | true=>rw[hb] at hr;cases hr
   | false=>rw[hb] at hr;exact ZnO h _ _ _ _ r hr
 ·rename_i tab x args
  rw[Zin] at hr ⊢
  split at hr
  ·rename_i t y hx
   split at hr
   ·exact ZnO h _ _ _ _ r hr
   ·cases hr
  ·cases hr
 ·exact ZnO h _ _ _ _ r hr
theorem Zps {Γ:Ctx}{cf cg:Zbd} (h:LeC cf cg):∀(l:List Op1) (e:Env) (H:Zm),Le (ZgY Γ cf l e H) (ZgY Γ cg l e H)
 | [],e,H,r,hr=>hr
 | o :: l,e,H,r,hr=>by
  unfold ZgY at hr ⊢
  cases hw:Zd0 e o.guard with
  | none=>simp[hw] at hr
  | some b=>
   cases b with
   | false=>simp only[hw] at hr ⊢;exact Zps h l _ _ r hr
   | true=>
    simp only[hw] at hr ⊢
    cases ho:opE Γ cf e H.length H o.op with
    | none=>simp[ho] at hr
    | some q=>
     rw[ho] at hr;rw[ZrG h _ _ _ _ q ho]
     exact Zps h l _ _ r hr
theorem Znr {Γ:Ctx}{cf cg:Zbd} (h:LeC cf cg):∀(l:List Op1) (pos:List (Nat×Nat)) (e:Env) (H:Zm),Le (Zhx Γ cf pos l e H) (Zhx Γ cg pos l e H)
 | [],pos,e,H,r,hr=>hr
 | o :: l,pos,e,H,r,hr=>by
  unfold Zhx at hr ⊢
  cases hw:Zd0 e o.guard with
  | none=>simp[hw] at hr
  | some b=>
   cases b with
   | false=>simp only[hw] at hr ⊢;exact Znr h l _ _ _ r hr
   | true=>
    simp only[hw] at hr ⊢
    cases ho:opE Γ cf e H.length (ZiS H pos o.mask) o.op with
    | none=>simp[ho] at hr
    | some q=>
     rw[ho] at hr;rw[ZrG h _ _ _ _ q ho]
     obtain⟨v,up,nw⟩:=q
     dsimp only at hr ⊢
     cases hb:(ZuM e H o up nw) with
     | false=>simp[hb] at hr
     | true=>simp only[hb,cT] at hr ⊢;exact Znr h l _ _ _ r hr
theorem Zo7 {k:Nat}{live outs:List Nat}{x y:Option (Ex×Env×Zm)} (h:Le x y):Le (Zgx k live outs x) (Zgx k live outs y):=by
 intro r hr
 cases x with
 | none=>simp[Zgx] at hr
 | some q=>rw[h q rfl];exact hr
theorem Zvf {Γ:Ctx}{cf cg:Zbd}{It Jt:ItF} (h:LeC cf cg) (hi:LeI It Jt) (k:Nat):∀(c:C) (e:Env) (H:Zm),Le (ZV Γ cf It k c e H) (ZV Γ cg Jt k c e H):=by
 intro c
 induction c with
 | skip=>intro e H;exact Le.refl _
 | ret=>intro e H;exact Le.refl _
 | exit id=>intro e H;exact Le.refl _
 | seq a b iha ihb=>
  intro e H r hr
  unfold ZV at hr ⊢
  cases ha:ZV Γ cf It k a e H with
  | none=>simp[ha] at hr
  | some q=>
   rw[ha] at hr;rw[iha e H q ha]
   obtain⟨x,e1,H1⟩:=q
   cases x with
   | normal=>exact ihb e1 H1 r hr
   | exit id=>exact hr
   | ret=>exact hr
 | cond x a b iha ihb=>
  intro e H r hr
  unfold ZV at hr ⊢
  split at hr
  ·rename_i t ht
   cases t with
   | true=>exact iha e H r hr
   | false=>exact ihb e H r hr
  ·cases hr
 | block id a iha=>
  intro e H r hr
  unfold ZV at hr ⊢
  cases ha:ZV Γ cf It k a e H with
  | none=>simp[ha] at hr
  | some q=>rw[ha] at hr;rw[iha e H q ha];exact hr
 | loop live outs a iha=>
  intro e H r hr
  unfold ZV at hr ⊢
  cases hh:Zt6 k (live.map e) H with
  | none=>simp[hh] at hr
  | some q=>
   obtain⟨vs,H1⟩:=q
   simp only[hh] at hr ⊢
   cases hit:It (fun vs H=>Zgx k live outs (ZV Γ cf It k a (Zfg live vs) H)) vs H1 with
   | none=>simp[hit] at hr
   | some p=>
    rw[hit] at hr
    rw[hi _ (fun vs H=>Zgx k live outs (ZV Γ cg Jt k a (Zfg live vs) H)) (fun vs H=>Zo7 (iha (Zfg live vs) H)) vs H1 p hit]
    exact hr
 | ops l=>
  intro e H r hr
  unfold ZV at hr ⊢
  cases ho:ZgY Γ cf l e H with
  | none=>simp[ho] at hr
  | some q=>rw[ho] at hr;rw[Zps h l e H q ho];exact hr
 | draw l=>
  intro e H r hr
  unfold ZV at hr ⊢
  cases ho:Zhx Γ cf [] l e H with
  | none=>simp[ho] at hr
  | some q=>rw[ho] at hr;rw[Znr h l _ e H q ho];exact hr
theorem Zw3 {Γ:Ctx}{cf cg:Zbd}{It Jt:ItF} (h:LeC cf cg) (hi:LeI It Jt) (f:Nat) (args:List V) (H:Zm):Le (ZhO Γ cf It f args H) (ZhO Γ cg Jt f args H):=by
 intro r hr
 unfold ZhO at hr ⊢
 cases hc:Γ.code f with
 | none=>simp[hc] at hr
 | some fn=>
  simp only[hc] at hr ⊢
  cases hn:Nat.beq args.length fn.nargs with
  | false=>simp[hn] at hr
  | true=>
   simp only[hn,cT] at hr ⊢
   cases hx:ZV Γ cf It H.length fn.body (ZbY 0 args) H with
   | none=>simp[hx] at hr
   | some q=>rw[hx] at hr;rw[Zvf h hi _ _ _ _ q hx];exact hr
theorem Zij {F G:Rnd} (h:LeR F G):∀(n m:Nat),n<=m->∀vs H,Le (Zcv F n vs H) (Zcv G m vs H)
 | 0,m,_,vs,H=>Le.none _
 | n+1,0,hm,vs,H=>absurd hm (by omega)
 | n+1,m+1,hm,vs,H=>by
  intro r hr
  unfold Zcv at hr ⊢
  cases hf:F vs H with
  | none=>simp[hf] at hr
  | some q=>
   rw[hf] at hr;rw[h vs H q hf]
   cases q with
   | again vs H=>exact Zij h n m (by omega) vs H r hr
   | done x vs H=>exact hr
theorem Zli (Γ:Ctx):∀(n m:Nat),n<=m->LeC (evN Γ n) (evN Γ m)
 | 0,m,_=>fun _ _ _=>Le.none _
 | n+1,0,hm=>absurd hm (by omega)
 | n+1,m+1,hm=>fun f args H=>Zw3 (Zli Γ n m (by omega)) (fun F G h vs H=>Zij h n m (by omega) vs H) f args H
noncomputable def evW (Γ:Ctx):Zbd:=fun f args H=>ZI4 fun n=>evN Γ n f args H
noncomputable def itW:ItF:=fun F vs H=>ZI4 fun n=>Zcv F n vs H
theorem Zl0 (Γ:Ctx) (f:Nat) (args:List V) (H:Zm) (r:V×Zm):evW Γ f args H=some r↔∃n,evN Γ n f args H=some r:=
 ZB4 (fun n m h=>Zli Γ n m h f args H) r
theorem Zmo (F:Rnd) (vs:List V) (H:Zm) (r:Ex×List V×Zm):itW F vs H=some r↔∃n,Zcv F n vs H=some r:=
 ZB4 (fun n m h=>Zij (fun _ _=>Le.refl _) n m h vs H) r
theorem ZKd (F:Rnd) (vs:List V) (H:Zm):itW F vs H=match F vs H with | some (.again vs H)=>itW F vs H | some (.done x vs H)=>some (x,vs,H) | none=>none:=by
 cases hf:F vs H with
 | none=>
  cases h:itW F vs H with
  | none=>rfl
  | some r=>
   obtain⟨n,hn⟩:=(Zmo F vs H r).1 h
   cases n with
   | zero=>simp[Zcv] at hn
   | succ n=>simp[Zcv,hf] at hn
 | some q=>
  cases q with
  | done x vs' H'=>exact(Zmo F vs H _).2 ⟨1,by simp[Zcv,hf]⟩
  | again vs' H'=>
   dsimp only
   cases h:itW F vs' H' with
   | some r=>
    obtain⟨n,hn⟩:=(Zmo F vs' H' r).1 h
    exact(Zmo F vs H r).2 ⟨n+1,by simp[Zcv,hf,hn]⟩
   | none=>
    cases h2:itW F vs H with
    | none=>rfl
    | some r=>
     obtain⟨n,hn⟩:=(Zmo F vs H r).1 h2
     cases n with
     | zero=>simp[Zcv] at hn
     | succ n=>
      simp[Zcv,hf] at hn
      rw[(Zmo F vs' H' r).2 ⟨n,hn⟩] at h
      cases h
section
variable {Γ:Ctx}
theorem Znx (nid:Nat) (H:Zm) (f:Nat) (args:List V) (r:V×List (Nat×Blk)×List Blk) (hr:ZiV Γ (evW Γ) nid H f args=some r):∃n,ZiV Γ (evN Γ n) nid H f args=some r:=by
 unfold ZiV at hr ⊢
 split at hr
 ·cases h1:fzs H args with
  | none=>simp[h1] at hr
  | some l=>
   simp only[h1] at hr ⊢
   cases h2:evW Γ f (ZdE l) [] with
   | none=>simp[h2] at hr
   | some p=>obtain⟨n,hn⟩:=(Zl0 Γ f (ZdE l) [] p).1 h2;exact⟨n,by rw[hn];rw[h2] at hr;exact hr⟩
 ·cases h1:fzs H args with
  | none=>simp[h1] at hr
  | some l=>
   simp only[h1] at hr ⊢
   cases h2:evW Γ f (ZdE l) [] with
   | none=>simp[h2] at hr
   | some p=>obtain⟨n,hn⟩:=(Zl0 Γ f (ZdE l) [] p).1 h2;exact⟨n,by rw[hn];rw[h2] at hr;exact hr⟩
 ·cases h1:extract 0 args H with
  | none=>simp[h1] at hr
  | some q=>
   obtain⟨L,args',H0⟩:=q
   simp only[h1] at hr ⊢
   cases h2:evW Γ f args' H0 with
   | none=>simp[h2] at hr
   | some p=>obtain⟨n,hn⟩:=(Zl0 Γ f args' H0 p).1 h2;exact⟨n,by rw[hn];rw[h2] at hr;exact hr⟩
theorem Zz5 (e:Env) (nid:Nat) (H:Zm) (o:O) (r:V×List (Nat×Blk)×List Blk) (hr:opE Γ (evW Γ) e nid H o=some r):∃n,opE Γ (evN Γ n) e nid H o=some r:=by
 cases o<;>try exact⟨0,hr⟩
 ·exact Znx _ _ _ _ r hr
 ·rename_i x args
  rw[Zjd] at hr
  cases h1:Zn7 (x.val e) with
  | none=>simp[h1] at hr
  | some q=>
   obtain⟨f,caps⟩:=q;simp only[h1] at hr
   cases hb:ZiW Γ (x.val e) f caps with
   | true=>rw[hb] at hr;cases hr
   | false=>
    rw[hb] at hr
    obtain⟨n,hn⟩:=Znx _ _ _ _ r hr
    exact⟨n,by rw[Zjd];simp only[h1,hb];exact hn⟩
 ·rename_i tab x args
  rw[Zin] at hr
  split at hr
  ·rename_i t y hx
   cases hl:Zqn tab t with
   | none=>simp[hl] at hr
   | some f=>
    simp only[hl] at hr
    obtain⟨n,hn⟩:=Znx _ _ _ _ r hr
    exact⟨n,by rw[Zin];simp only[hx,hl];exact hn⟩
  ·cases hr
 ·exact Znx _ _ _ _ r hr
theorem Ztq:∀(l:List Op1) (e:Env) (H:Zm) (r:Env×Zm),ZgY Γ (evW Γ) l e H=some r->∃n,ZgY Γ (evN Γ n) l e H=some r
 | [],e,H,r,hr=>⟨0,hr⟩
 | o :: l,e,H,r,hr=>by
  unfold ZgY at hr
  cases hw:Zd0 e o.guard with
  | none=>simp[hw] at hr
  | some b=>
   cases b with
   | false=>
    simp only[hw] at hr
    obtain⟨n,hn⟩:=Ztq l _ _ r hr
    exact⟨n,by unfold ZgY;simp only[hw];exact hn⟩
   | true=>
    simp only[hw] at hr
    cases ho:opE Γ (evW Γ) e H.length H o.op with
    | none=>simp[ho] at hr
    | some q=>
     rw[ho] at hr
     obtain⟨n,hn⟩:=Zz5 _ _ _ _ q ho
     obtain⟨v,up,nw⟩:=q
     obtain⟨m,hm⟩:=Ztq l _ _ r hr
     refine⟨max n m,?_⟩
     unfold ZgY
     simp only[hw]
     rw[ZrG (Zli Γ n (max n m) (Nat.le_max_left _ _)) _ _ _ _ _ hn]
     exact Zps (Zli Γ m (max n m) (Nat.le_max_right _ _)) l _ _ r hm
theorem ZqU:∀(l:List Op1) (pos:List (Nat×Nat)) (e:Env) (H:Zm) (r:Env×Zm),Zhx Γ (evW Γ) pos l e H=some r->∃n,Zhx Γ (evN Γ n) pos l e H=some r
 | [],pos,e,H,r,hr=>⟨0,hr⟩
 | o :: l,pos,e,H,r,hr=>by
  unfold Zhx at hr
  cases hw:Zd0 e o.guard with
  | none=>simp[hw] at hr
  | some b=>
   cases b with
   | false=>
    simp only[hw] at hr
    obtain⟨n,hn⟩:=ZqU l _ _ _ r hr
    exact⟨n,by unfold Zhx;simp only[hw];exact hn⟩
   | true=>
    simp only[hw] at hr
    cases ho:opE Γ (evW Γ) e H.length (ZiS H pos o.mask) o.op with
    | none=>simp[ho] at hr
    | some q=>
     rw[ho] at hr
     obtain⟨n,hn⟩:=Zz5 _ _ _ _ q ho
     obtain⟨v,up,nw⟩:=q
     dsimp only at hr
     cases hb:(ZuM e H o up nw) with
     | false=>simp[hb] at hr
     | true=>
      simp only[hb,cT] at hr
      obtain⟨m,hm⟩:=ZqU l _ _ _ r hr
      refine⟨max n m,?_⟩
      unfold Zhx
      simp only[hw]
      rw[ZrG (Zli Γ n (max n m) (Nat.le_max_left _ _)) _ _ _ _ _ hn]
      simp only[hb,cT]
      exact Znr (Zli Γ m (max n m) (Nat.le_max_right _ _)) l _ _ _ r hm
theorem ZBR (k:Nat):∀(c:C) (e:Env) (H:Zm) (r:Ex×Env×Zm),ZV Γ (evW Γ) itW k c e H=some r->∃n,ZV Γ (evN Γ n) (fun F=>Zcv F n) k c e H=some r:=by
 have up:∀(c:C) (e:Env) (H:Zm) (r:Ex×Env×Zm) (n m:Nat),n<=m->ZV Γ (evN Γ n) (fun F=>Zcv F n) k c e H=some r->ZV Γ (evN Γ m) (fun F=>Zcv F m) k c e H=some r:=
  fun c e H r n m h=>Zvf (Zli Γ n m h) (fun F G hFG vs H=>Zij hFG n m h vs H) k c e H r
 intro c
 induction c with
 | skip=>intro e H r hr;exact⟨0,hr⟩
 | ret=>intro e H r hr;exact⟨0,hr⟩
 | exit id=>intro e H r hr;exact⟨0,hr⟩
 | seq a b iha ihb=>
  intro e H r hr
  unfold ZV at hr
  cases ha:ZV Γ (evW Γ) itW k a e H with
  | none=>simp[ha] at hr
  | some q=>
   rw[ha] at hr
   obtain⟨n,hn⟩:=iha e H q ha
   obtain⟨x,e1,H1⟩:=q
   cases x with
   | normal=>
    obtain⟨m,hm⟩:=ihb e1 H1 r hr
    refine⟨max n m,?_⟩
    unfold ZV
    rw[up a e H _ n _ (Nat.le_max_left _ _) hn]
    exact up b e1 H1 r m _ (Nat.le_max_right _ _) hm
   | exit id=>exact⟨n,by unfold ZV;rw[hn];exact hr⟩
   | ret=>exact⟨n,by unfold ZV;rw[hn];exact hr⟩
 | cond x a b iha ihb=>
  intro e H r hr
  unfold ZV at hr
  split at hr
  ·rename_i t ht
   cases t with
   | true=>obtain⟨n,hn⟩:=iha e H r hr;exact⟨n,by unfold ZV;simp only[ht];exact hn⟩
   | false=>obtain⟨n,hn⟩:=ihb e H r hr;exact⟨n,by unfold ZV;simp only[ht];exact hn⟩
  ·cases hr
 | block id a iha=>
  intro e H r hr
  unfold ZV at hr
  cases ha:ZV Γ (evW Γ) itW k a e H with
  | none=>simp[ha] at hr
  | some q=>rw[ha] at hr;obtain⟨n,hn⟩:=iha e H q ha;exact⟨n,by unfold ZV;rw[hn];exact hr⟩
 | loop live outs a iha=>
  intro e H r hr
  unfold ZV at hr
  cases hh:Zt6 k (live.map e) H with
  | none=>simp[hh] at hr
  | some q=>
   obtain⟨vs,H1⟩:=q
   simp only[hh] at hr
   cases hit:itW (fun vs H=>Zgx k live outs (ZV Γ (evW Γ) itW k a (Zfg live vs) H)) vs H1 with
   | none=>simp[hit] at hr
   | some p=>
    rw[hit] at hr
    obtain⟨n,hn⟩:=(Zmo _ vs H1 p).1 hit
    have key:∀(n:Nat) (vs:List V) (H1:Zm) (p:Ex×List V×Zm),Zcv (fun vs H=>Zgx k live outs (ZV Γ (evW Γ) itW k a (Zfg live vs) H)) n vs H1=some p ->
      ∃m,Zcv (fun vs H=>Zgx k live outs (ZV Γ (evN Γ m) (fun F=>Zcv F m) k a (Zfg live vs) H)) n vs H1=some p:=by
     intro n
     induction n with
     | zero=>intro vs H1 p h;simp[Zcv] at h
     | succ n ih=>
      intro vs H1 p h
      unfold Zcv at h
      cases hc:ZV Γ (evW Γ) itW k a (Zfg live vs) H1 with
      | none=>simp[hc,Zgx] at h
      | some q=>
       obtain⟨m1,hm1⟩:=iha _ _ q hc
       simp only[hc] at h
       cases hr2:Zgx k live outs (some q) with
       | none=>simp[hr2] at h
       | some z=>
        rw[hr2] at h
        cases z with
        | done x vs' H'=>exact⟨m1,by unfold Zcv;simp only[hm1,hr2];exact h⟩
        | again vs' H'=>
         obtain⟨m2,hm2⟩:=ih vs' H' p h
         refine⟨max m1 m2,?_⟩
         unfold Zcv
         simp only[up a _ _ q m1 _ (Nat.le_max_left m1 m2) hm1,hr2]
         exact Zij (fun vs H=>Zo7 (fun q hq=>up a _ _ q m2 _ (Nat.le_max_right m1 m2) hq)) n n (Nat.le_refl _) vs' H' p hm2
    obtain⟨m,hm⟩:=key n vs H1 p hn
    refine⟨max n m,?_⟩
    unfold ZV
    simp only[hh]
    rw[Zij (fun vs H=>Zo7 (fun q hq=>up a _ _ q m _ (Nat.le_max_right n m) hq)) n _ (Nat.le_max_left n m) vs H1 p hm]
    exact hr
 | ops l=>
  intro e H r hr
  unfold ZV at hr
  cases ho:ZgY Γ (evW Γ) l e H with
  | none=>simp[ho] at hr
  | some q=>rw[ho] at hr;obtain⟨n,hn⟩:=Ztq l e H q ho;exact⟨n,by unfold ZV;rw[hn];exact hr⟩
 | draw l=>
  intro e H r hr
  unfold ZV at hr
  cases ho:Zhx Γ (evW Γ) [] l e H with
  | none=>simp[ho] at hr
  | some q=>rw[ho] at hr;obtain⟨n,hn⟩:=ZqU l _ e H q ho;exact⟨n,by unfold ZV;rw[hn];exact hr⟩
theorem ZKK (f:Nat) (args:List V) (H:Zm):evW Γ f args H=ZhO Γ (evW Γ) itW f args H:=by
 have h1:Le (evW Γ f args H) (ZhO Γ (evW Γ) itW f args H):=by
  intro r hr
  obtain⟨n,hn⟩:=(Zl0 Γ f args H r).1 hr
  cases n with
  | zero=>simp[evN] at hn
  | succ n=>exact Zw3 (fun a b c r h=>(Zl0 Γ a b c r).2 ⟨n,h⟩) (fun F G h vs H r hr=>(Zmo G vs H r).2 ⟨n,Zij h n n (Nat.le_refl _) vs H r hr⟩) f args H r hn
 have h2:Le (ZhO Γ (evW Γ) itW f args H) (evW Γ f args H):=by
  intro r hr
  unfold ZhO at hr
  cases hc:Γ.code f with
  | none=>simp[hc] at hr
  | some fn=>
   simp only[hc] at hr
   cases hn:Nat.beq args.length fn.nargs with
   | false=>simp[hn] at hr
   | true=>
    simp only[hn,cT] at hr
    cases hx:ZV Γ (evW Γ) itW H.length fn.body (ZbY 0 args) H with
    | none=>simp[hx] at hr
    | some q=>
     rw[hx] at hr
     obtain⟨n,hn2⟩:=ZBR _ _ _ _ q hx
     refine(Zl0 Γ f args H r).2 ⟨n+1,?_⟩
     show ZhO Γ (evN Γ n) (fun F=>Zcv F n) f args H=some r
     unfold ZhO
     simp only[hc,hn,cT,hn2]
     exact hr
 cases h:evW Γ f args H with
 | some r=>exact(h1 r h).symm
 | none=>
  cases h':ZhO Γ (evW Γ) itW f args H with
  | none=>rfl
  | some r=>rw[h2 r h'] at h;cases h
end
end
open Option (map_some)
section
def Zkh (P:Program) (t:TypeId):Option Bool:=
 match P.underlying t with
 | some (.struct _)=>some true
 | some (.array _ _)=>some true
 | some _=>some false
 | none=>none
def ZhY (P:Program) (t:TypeId):Option Nat:=(P.info? t).map (·.size)
theorem ZhQ {P:Program}{w:World}{t:TypeId}{ag:Bool} (h:Zkh P t=some ag):(isAgg t).run P w = .ok ag w:=by
 unfold Zkh at h
 cases hu:P.underlying t with
 | none=>simp[hu] at h
 | some d=>
  rw[hu] at h
  have:=run_underlying (P:=P) (w:=w) hu
  simp only[isAgg,Sem.run_bind,this,Result.andThen_ok]
  cases d<;>simp_all
theorem ZfX {P:Program}{w:World}{t:TypeId}{n:Nat} (h:ZhY P t=some n):(sizeOf t).run P w = .ok n w:=by
 unfold ZhY at h
 cases hi:P.info? t with
 | none=>simp[hi] at h
 | some i=>
  simp only[hi,map_some,sJ] at h
  subst h
  simp[sizeOf,typeInfo,hi]
section
variable {R:RP} {w:World}
theorem ZfD:∀(vs:List V) (us:List Value),ZaT R w vs us->us.length=vs.length
 | [],us,h=>by simp only[ZaT] at h;subst h;rfl
 | v :: vs,us,h=>by
  obtain⟨u,us',rfl,e1,e2⟩:=h
  simp[ZfD vs us' e2]
theorem Zhs:∀(vs:List V) (us:List Value) (j:Nat) (v:V),ZaT R w vs us->vs[j]? = some v->∃u,us[j]? = some u/\Za6 R w v u
 | [],us,j,v,_,hj=>by simp at hj
 | y :: vs,us,0,v,h,hj=>by
  obtain⟨u,us',rfl,e1,e2⟩:=h
  simp at hj;subst hj
  exact⟨u,by simp,e1⟩
 | y :: vs,us,j+1,v,h,hj=>by
  obtain⟨u,us',rfl,e1,e2⟩:=h
  simpa using Zhs vs us' j v e2 (by simpa using hj)
theorem Zm0:∀(vs:List V) (us:List Value),us.length=vs.length->(∀(j:Nat) v u,vs[j]? = some v->us[j]? = some u->Za6 R w v u)->ZaT R w vs us
 | [],us,hl,_=>by simpa [ZaT] using hl
 | y :: vs,[],hl,_=>by simp at hl
 | y :: vs,u :: us,hl,h=>⟨u,us,rfl,h 0 y u rfl rfl,Zm0 vs us (by simpa using hl) fun j x v hx hv=>h (j+1) x v (by simpa using hx) (by simpa using hv)⟩
theorem Zpi:∀(l:List D),ZdE l=l.map V.d
 | []=>rfl
 | x :: l=>by simp[ZdE,Zpi l]
theorem Ze2:∀(l:List D) (us:List Value),ZaT R w (ZdE l) us↔Za7 R.A1 R.A0 R.AL w l us
 | [],us=>Iff.rfl
 | x :: l,us=>by
  simp only[ZdE,ZaT,Za7]
  constructor
  ·rintro ⟨u,us',e,h1,h2⟩;exact⟨u,us',e,h1,(Ze2 l us').1 h2⟩
  ·rintro ⟨u,us',e,h1,h2⟩;exact⟨u,us',e,h1,(Ze2 l us').2 h2⟩
theorem Zpl:∀{vs:List V}{l:List D},ZnF vs=some l->vs=ZdE l
 | [],l,h=>by simp[ZnF] at h;subst h;rfl
 | v :: vs,l,h=>by
  cases v<;>simp only[ZnF] at h<;>try (cases h;done)
  rename_i x
  cases hr:ZnF vs with
  | none=>simp[hr] at h
  | some l'=>
   simp only[hr,sJ] at h
   subst h
   rw[Zpl hr,ZdE]
theorem Zve {vs:List V}{us:List Value} (h:ZaT R w vs us):Za6 R w (ZzJ vs) (.agg us.toArray):=by
 unfold ZzJ
 cases ha:ZnF vs with
 | none=>exact⟨us,rfl,h⟩
 | some l=>
  rw[Zpl ha,Ze2] at h
  exact⟨us,rfl,h⟩
theorem ZHT {vs:List V}{us:List Value} (h:ZaT R w vs us):Za6 R w (Zzr vs) (.tuple us.toArray):=by
 unfold Zzr
 cases ha:ZnF vs with
 | none=>exact⟨us,rfl,h⟩
 | some l=>
  rw[Zpl ha,Ze2] at h
  exact⟨us,rfl,h⟩
theorem ZjJ {v:V}{u:Value} (h:Za6 R w v u) (hv:v.okb=true):ZaT R w v.cells u.cells.toList:=by
 cases v with
 | d x=>
  cases x with
  | agg cs=>
   obtain⟨us,rfl,h⟩:=h
   simpa [V.cells,Value.cells] using (Ze2 cs us).2 h
  | tup cs=>simp[V.okb] at hv
  | bool b=>simp only[Za6,RP.den,Zbu] at h;subst h;exact⟨_,[],rfl,by simp[Za6,RP.den,Zbu],rfl⟩
  | int k n=>simp only[Za6,RP.den,Zbu] at h;subst h;exact⟨_,[],rfl,by simp[Za6,RP.den,Zbu],rfl⟩
  | str s=>simp only[Za6,RP.den,Zbu] at h;subst h;exact⟨_,[],rfl,by simp[Za6,RP.den,Zbu],rfl⟩
  | nilfn=>simp only[Za6,RP.den,Zbu] at h;subst h;exact⟨_,[],rfl,by simp[Za6,RP.den,Zbu],rfl⟩
  | nilp=>simp only[Za6,RP.den,Zbu] at h;subst h;exact⟨_,[],rfl,by simp[Za6,RP.den,Zbu],rfl⟩
  | nilI=>simp only[Za6,RP.den,Zbu] at h;subst h;exact⟨_,[],rfl,by simp[Za6,RP.den,Zbu],rfl⟩
  | list own xs=>
   have h':=h
   obtain⟨a,len,cap,rfl,_⟩:=h'
   exact⟨_,[],rfl,h,rfl⟩
  | fn f caps=>
   have h':=h
   obtain⟨us,rfl,_⟩:=h'
   exact⟨_,[],ZvD _ _,h,rfl⟩
  | rptr cs=>
   have h':=h
   obtain⟨b,off,rfl,_⟩:=h'
   exact⟨_,[],rfl,h,rfl⟩
  | iface t v=>
   have h':=h
   obtain⟨u',rfl,_⟩:=h'
   exact⟨_,[],rfl,h,rfl⟩
 | bad=>simp[V.okb] at hv
 | tup cs=>simp[V.okb] at hv
 | agg cs=>
  obtain⟨us,rfl,h⟩:=h
  simpa [V.cells,Value.cells] using h
 | nilsl sz=>
  have h':=h
  obtain⟨a,rfl⟩:=h'
  exact⟨_,[],rfl,h,rfl⟩
 | fn f caps=>
  have h':=h
  obtain⟨us,rfl,_⟩:=h'
  exact⟨_,[],ZvD _ _,h,rfl⟩
 | ptr b o=>
  have h':=h
  obtain⟨c,_,rfl⟩:=h'
  exact⟨_,[],rfl,h,rfl⟩
 | eptr b sz i k=>
  have h':=h
  obtain⟨c,_,rfl⟩:=h'
  exact⟨_,[],rfl,h,rfl⟩
 | sl b sz=>
  have h':=h
  obtain⟨⟨a,n,c,rfl⟩,_⟩:=h'
  exact⟨_,[],rfl,h,rfl⟩
 | slp b sz o l=>
  have h':=h
  obtain⟨⟨a,n,c,rfl⟩,_⟩:=h'
  exact⟨_,[],rfl,h,rfl⟩
 | mp b=>
  have h':=h
  obtain⟨⟨a,rfl⟩,_⟩:=h'
  exact⟨_,[],rfl,h,rfl⟩
 | ch b=>
  have h':=h
  obtain⟨⟨a,rfl⟩,_⟩:=h'
  exact⟨_,[],rfl,h,rfl⟩
end
structure Pre (G:Zbq) (R:RP) (w:World) (e:Env) (a:Act) (Hm:Zm):Prop where
 ok:R.OK w
 g:GOK G R w
 env:Zi0 R w e a
 le:∀b blk,nth Hm b=some blk->blk ≠ .dead->nth R.H b=some blk
section
variable {P:Program} {G:Zbq} {R:RP} {w:World} {e:Env} {a:Act} {Hm H':Zm} {nid:Nat} {o:Oper}
theorem Pre.opd (pre:Pre G R w e a Hm) {x:Operand}{y:Opd} (h:ZS G x y=true):Za6 R w (y.val e) (a.eval x):=Zrp pre.g pre.env h
theorem Pre.opds (pre:Pre G R w e a Hm) {xs:List Operand}{ys:List Opd} (h:Zfl G xs ys=true):ZaT R w (ZgU e ys) (xs.map a.eval):=Zxu pre.g pre.env h
theorem ZbL {s:Sem Value}{u:Value}{w':World}{Po:Value->World->Prop} (hx:execOp a.eval o=(do pure (Next.value (<- s)))) (hr:s.run P w = .ok u w') (hp:Po u w'):Zc9 P o a w Po:=
 .val (by rw[hx];simp[hr]) hp
theorem ZJI (pre:Pre G R w e a Hm) {x:Operand}{y:Opd} (hop:o.op = .move x∨o.op = .assign x) (hx:ZS G x y=true) (hp:Z8 R.H [] nid [] H') :
  Zc9 P o a w (Post R w nid 0 H' (y.val e)):=by
 refine .val (u:=a.eval x) (w':=w) ?_ (Post.stay pre.ok hp (pre.opd hx))
 rcases hop with h | h<;>(unfold execOp;rw[h];rfl)
theorem ZLx (pre:Pre G R w e a Hm) {c x y:Operand}{c' x' y':Opd}{t:Bool} (hop:o.op = .pick c x y) (hc:ZS G c c'=true) (hx:ZS G x x'=true) (hy:ZS G y y'=true)
  (ht:c'.val e = .d (.bool t)) (hp:Z8 R.H [] nid [] H'):Zc9 P o a w (Post R w nid 0 H' (bif t then x'.val e else y'.val e)):=by
 have hcv:=pre.opd hc
 rw[ht] at hcv
 simp only[Za6,RP.den,Zbu] at hcv
 refine .val (u:=if t=true then a.eval x else a.eval y) (w':=w) ?_ (Post.stay pre.ok hp ?_)
 ·unfold execOp;rw[hop];simp[hcv,asBool]
 ·cases t
  ·exact pre.opd hy
  ·exact pre.opd hx
theorem Zt8 {t:TypeId}{x:Addr}{u:Value} (h:Zkh P t=some false) (hc:w.cell? x=some u):(loadVar t x).run P w = .ok u w:=by
 unfold loadVar
 simp only[Sem.run_bind,ZhQ h,Result.andThen_ok,Bool.false_eq_true,if_false,run_load,hc]
theorem Zue {t:TypeId}{x:Addr}{us:List Value} (h:Zkh P t=some true) (hs:ZhY P t=some us.length) (hc:∀(j:Nat) v,us[j]? = some v->w.cell? (x.add j)=some v) :
  (loadVar t x).run P w = .ok (.agg us.toArray) w:=by
 unfold loadVar
 simp only[Sem.run_bind,ZhQ h,ZfX hs,Result.andThen_ok,if_true,run_loadCells_list w x us hc,Sem.run_pure]
theorem Zn4 {n:Nat}{ag:Bool}{cs:List V}{v:V}{t:TypeId}{b off:Nat} (hc:∀(j:Nat) v,cs[j]? = some v->∃u,w.cell? ⟨b,off+j,none⟩=some u/\Za6 R w v u)
  (hag:Zkh P t=some ag) (hsz:ZhY P t=some n) (h:ZiA n ag cs=some v):∃u,(loadVar t ⟨b,off,none⟩).run P w = .ok u w/\Za6 R w v u:=by
 unfold ZiA at h
 cases ag with
 | false=>
  simp only[cF] at h
  obtain⟨u,h1,h2⟩:=hc 0 v (by rw[<- List.head?_eq_getElem?];exact h)
  exact⟨u,Zt8 hag (by simpa using h1),h2⟩
 | true=>
  simp only[cT] at h
  cases hl:Nat.beq (cs.take n).length n with
  | false=>rw[hl] at h;cases h
  | true=>
   rw[hl] at h
   simp only[cT,sJ] at h
   subst h
   have hl':(cs.take n).length=n:=nQ hl
   let us:List Value:=(List.range n).map fun j=>(w.cell? ⟨b,off+j,none⟩).getD undef
   have hus:us.length=n:=by simp[us]
   have key:∀(j:Nat) v,(cs.take n)[j]? = some v->∃u,us[j]? = some u/\w.cell? ⟨b,off+j,none⟩=some u/\Za6 R w v u:=by
    intro j v hj
    have hjn:j<n:=by have:=(gQ hj).1;omega
    obtain⟨u,h1,h2⟩:=hc j v (by rw[List.getElem?_take] at hj;simpa [hjn] using hj)
    exact⟨u,by simp[us,hjn,h1],h1,h2⟩
   refine⟨.agg us.toArray,Zue hag (by rw[hus];exact hsz) ?_,Zve (Zm0 _ _ (by omega) ?_)⟩
   ·intro j v hv
    have hjn:j<n:=by have:=(gQ hv).1;omega
    obtain⟨v0,hv0⟩:∃v0,(cs.take n)[j]? = some v0:=⟨_,gE (by omega)⟩
    obtain⟨u,f1,f2,_⟩:=key j v0 hv0
    rw[hv] at f1;cases f1
    rw[Addr.add_lit];exact f2
   ·intro j v u hv hu
    obtain⟨u',f1,_,f3⟩:=key j v hv
    rw[hu] at f1;cases f1;exact f3
theorem ZcY {b off:Nat}{cs:Array Value}{el:TypeId}{fr:Nat×Nat} (h:w.heap[b]? = some (.cells cs el fr)):w.cell? ⟨b,off,none⟩=cs[off]?:=by
 simp[World.cell?,h]
theorem ZyC (pre:Pre G R w e a Hm) {n:Nat}{ag:Bool}{t:TypeId}{x v:V}{u0:Value} (hag:Zkh P t=some ag) (hsz:ZhY P t=some n) (hx:Za6 R w x u0) (h:ZdD Hm n ag x=some v) :
  ∃u,(Instr.loadAt t u0).run P w = .ok u w/\Za6 R w v u:=by
 unfold ZdD at h
 cases x with
 | ptr b o=>
  dsimp only at h
  cases hb:nth Hm b with
  | none=>simp[hb] at h
  | some blk=>
   rw[hb] at h
   cases blk<;>try (cases h;done)
   rename_i cs
   have hb':=pre.le b _ hb (by simp)
   obtain⟨c,h1,rfl⟩:=hx
   rw[Z2] at hb'
   obtain⟨c',cs',el,fr,e1,e2,e3,e4,e5⟩:=pre.ok.blk b _ _ hb' h1
   cases e1
   obtain⟨u,f1,f2⟩:=Zn4 (P:=P) (cs:=cs.drop o) (b:=c) (off:=o) (by
    intro j v hj
    obtain⟨u,g1,g2⟩:=e5 (o+j) v (by simpa using hj)
    exact⟨u,by rw[ZcY e2];exact g1,g2⟩) hag hsz h
   exact⟨u,by simpa [Instr.loadAt,Instr.sureAddr] using f1,f2⟩
 | eptr b sz i k=>
  dsimp only at h
  cases hb:nth Hm b with
  | none=>simp[hb] at h
  | some blk=>
   rw[hb] at h
   cases blk<;>try (cases h;done)
   rename_i sz' xs
   dsimp only at h
   cases hs:Nat.beq sz sz' with
   | false=>simp[hs] at h
   | true=>
    obtain rfl:=nQ hs
    simp only[hs,cT] at h
    cases hxi:nth xs i with
    | none=>simp[hxi] at h
    | some y=>
     simp only[hxi] at h
     have hb':=pre.le b _ hb (by simp)
     obtain⟨c,h1,rfl⟩:=hx
     rw[Z2] at hb' hxi
     obtain⟨e0,e1,e2⟩:=pre.ok.blk b _ _ hb' h1
     rcases e2 with⟨e2,_⟩ | ⟨c',cs,el,e2,e3,e4,e5⟩
     ·cases e2
     ·cases e2
      obtain⟨uy,f1,f2,f3⟩:=e5 i y hxi
      have hyb:(V.d y).okb=true∨∃ts,y = .tup ts:=by cases y<;>simp[V.okb]
      rcases hyb with hyb | ⟨ts,rfl⟩
      ·have hcs:=ZjJ (R:=R) (v:=.d y) f1 hyb
       have hVc:(V.d y).cells=ZdE y.cells:=by cases y<;>rfl
       rw[hVc] at hcs
       obtain⟨u,g1,g2⟩:=Zn4 (P:=P) (cs:=ZdE (y.cells.drop k)) (b:=c) (off:=i*sz+k) (by
        intro j v hj
        have hj':(ZdE y.cells)[k+j]? = some v:=by
         rw[Zpi,List.getElem?_map] at hj ⊢
         simpa using hj
        obtain⟨u,p1,p2⟩:=Zhs _ _ _ _ hcs hj'
        refine⟨u,?_,p2⟩
        rw[ZcY e3,Nat.add_assoc]
        exact f3 (k+j) u (by simpa using p1)) hag hsz h
       exact⟨u,by simpa [Instr.loadAt,Instr.sureAddr] using g1,g2⟩
      ·have f1':=f1
       obtain⟨us,rfl,_⟩:=f1'
       obtain⟨u,g1,g2⟩:=Zn4 (P:=P) (cs:=ZdE (D.cells (.tup ts) |>.drop k)) (b:=c) (off:=i*sz+k) (by
        intro j v hj
        cases k with
        | zero=>
         cases j with
         | zero=>
          simp[D.cells,ZdE] at hj
          subst hj
          refine⟨.tuple us.toArray,?_,f1⟩
          rw[ZcY e3]
          have:=f3 0 (.tuple us.toArray) rfl
          simpa using this
         | succ j=>simp[D.cells,ZdE] at hj
        | succ k=>simp[D.cells,ZdE] at hj) hag hsz h
       exact⟨u,by simpa [Instr.loadAt,Instr.sureAddr] using g1,g2⟩
 | d y=>
  cases y<;>try (cases h;done)
  rename_i cs
  dsimp only at h
  obtain⟨b,off,rfl,h1,h2,h3⟩:=hx
  obtain⟨u,g1,g2⟩:=Zn4 (P:=P) (cs:=ZdE cs) (b:=b) (off:=off) (by
   intro j v hj
   rw[Zpi,List.getElem?_map] at hj
   cases hcj:cs[j]? with
   | none=>simp[hcj] at hj
   | some x=>
    simp[hcj] at hj
    subst hj
    obtain⟨u,p1,p2⟩:=ZoK cs off j x h3 hcj
    exact⟨u,p1,p2⟩) hag hsz h
  exact⟨u,by simpa [Instr.loadAt,Instr.sureAddr] using g1,g2⟩
 | bad=>cases h
 | sl b sz=>cases h
 | slp b sz o l=>cases h
 | nilsl sz=>cases h
 | agg cs=>cases h
 | tup cs=>cases h
 | fn f cs=>cases h
 | mp b=>cases h
 | ch b=>cases h
theorem ZKg (pre:Pre G R w e a Hm) {n:Nat}{ag:Bool}{t:TypeId}{x:Operand}{y:Opd}{v:V} (hop:o.op = .load t x) (hx:ZS G x y=true) (hag:Zkh P t=some ag) (hsz:ZhY P t=some n)
  (h:ZdD Hm n ag (y.val e)=some v) (hp:Z8 R.H [] nid [] H'):Zc9 P o a w (Post R w nid 0 H' v):=by
 obtain⟨u,h1,h2⟩:=ZyC pre hag hsz (pre.opd hx) h
 exact ZbL (s:=Instr.loadAt t (a.eval x)) (by unfold execOp;rw[hop]) h1 (Post.stay pre.ok hp h2)
def Zr7 (P:Program) (s:TypeId) (f:Nat):Option (Nat×TypeId):=
 match P.underlying s with
 | some (.struct fields)=>(fields[f]?).map fun x=>(x.offset,x.type)
 | _=>none
theorem Zyp {s:TypeId}{f off:Nat}{t:TypeId} (h:Zr7 P s f=some (off,t)):∃fields fd,P.underlying s=some (.struct fields)/\fields[f]? = some fd/\fd.offset=off/\fd.type=t:=by
 unfold Zr7 at h
 split at h
 ·rename_i fields hu
  cases hf:fields[f]? with
  | none=>simp[hf] at h
  | some fd=>
   simp only[hf,map_some,sJ,pJ] at h
   exact⟨fields,fd,hu,hf,h.1,h.2⟩
 ·cases h
theorem ZzW {s:TypeId}{f off n:Nat}{t:TypeId}{x:Addr} (h:Zr7 P s f=some (off,t)) (hn:ZhY P t=some n) (h0:n≠0) :
  (Instr.fieldAt s (.pointer (some x)) f).run P w = .ok (.pointer (some (x.add off))) w:=by
 obtain⟨fields,fd,h1,h2,rfl,rfl⟩:=Zyp h
 simp[Instr.fieldAt,run_underlying h1,h2,Instr.sureAddr,fieldPlace,ZfX hn,h0]
theorem ZzL (pre:Pre G R w e a Hm) {off:Nat}{x v:V}{u0:Value} (hx:Za6 R w x u0) (h:ZnP Hm off x=some v):∃ad,u0 = .pointer (some ad)/\Za6 R w v (.pointer (some (ad.add off))):=by
 unfold ZnP at h
 cases x<;>try (cases h;done)
 ·rename_i y
  cases y<;>try (cases h;done)
  rename_i cs
  simp only[sJ] at h
  subst h
  obtain⟨b,of,rfl,h1,h2,h3⟩:=hx
  exact⟨_,rfl,b,of+off,by rw[Addr.add_lit],h1,h2,Zwt cs of off h3⟩
 ·rename_i b o
  simp only[sJ] at h
  subst h
  obtain⟨c,h1,rfl⟩:=hx
  exact⟨_,rfl,c,h1,by rw[Addr.add_lit]⟩
 ·rename_i b sz i k
  simp only[sJ] at h
  subst h
  obtain⟨c,h1,rfl⟩:=hx
  exact⟨_,rfl,c,h1,by rw[Addr.add_lit,Nat.add_assoc]⟩
theorem ZJi (pre:Pre G R w e a Hm) {s t:TypeId}{f off n:Nat}{x:Operand}{y:Opd}{v:V} (hop:o.op = .fieldAddr s x f) (hx:ZS G x y=true) (hf:Zr7 P s f=some (off,t)) (hn:ZhY P t=some n) (h0:n≠0)
  (h:ZnP Hm off (y.val e)=some v) (hp:Z8 R.H [] nid [] H'):Zc9 P o a w (Post R w nid 0 H' v):=by
 obtain⟨ad,h1,h2⟩:=ZzL pre (pre.opd hx) h
 exact ZbL (s:=Instr.fieldAt s (a.eval x) f) (by unfold execOp;rw[hop]) (by rw[h1];exact ZzW hf hn h0) (Post.stay pre.ok hp h2)
theorem ZnW {k:IntKind}{n:Int}{u:Value} (h:Za6 R w (.d (.int k n)) u):u = .int k n:=h
theorem Zys {b:Bool}{u:Value} (h:Za6 R w (.d (.bool b)) u):u = .bool b:=h
theorem ZJh {op:BinOp}{x y:V}{r:D}{u1 u2:Value} (t:TypeId) (ox oy:Operand) (hx:Za6 R w x u1) (hy:Za6 R w y u2) (h:Zrh op x y=some r) :
  ∃u,((do eqGuard op t ox oy u1 u2;binOp op t u1 u2:Sem Value)).run P w = .ok u w/\R.den w r u:=by
 unfold Zrh at h
 split at h
 ·rename_i i a1 j b1
  cases ZnW hx;cases ZnW hy
  unfold shI at h
  cases hb:decide (b1<0) with
  | true=>simp[hb] at h
  | false=>
   simp only[hb,cF,sJ] at h
   subst h
   have hb':¬b1<0:=of_decide_eq_false hb
   refine⟨_,?_,rfl⟩
   simp[eqGuard,binOp,Op.shift,hb']
 ·rename_i i a1 j b1
  cases ZnW hx;cases ZnW hy
  unfold shI at h
  cases hb:decide (b1<0) with
  | true=>simp[hb] at h
  | false=>
   simp only[hb,cF,sJ] at h
   subst h
   have hb':¬b1<0:=of_decide_eq_false hb
   refine⟨_,?_,rfl⟩
   simp[eqGuard,binOp,Op.shift,hb']
 ·rename_i op' i a1 j b1 hn1 hn2
  cases ZnW hx;cases ZnW hy
  cases hk:i==j with
  | false=>simp[hk] at h
  | true=>
   obtain rfl:i=j:=by simpa using hk
   simp only[hk,cT] at h
   cases op<;>simp only[ZI7,sJ] at h
   case shl=>exact(hn1 rfl).elim
   case shr=>exact(hn2 rfl).elim
   case andNot=>cases h
   case quo=>
    cases hb:b1==0 with
    | true=>simp[hb] at h
    | false=>
     simp only[hb,cF,sJ] at h
     subst h
     exact⟨_,by simp[eqGuard,binOp,Op.intDiv,show ¬b1=0 by simpa using hb],rfl⟩
   case rem=>
    cases hb:b1==0 with
    | true=>simp[hb] at h
    | false=>
     simp only[hb,cF,sJ] at h
     subst h
     exact⟨_,by simp[eqGuard,binOp,Op.intDiv,show ¬b1=0 by simpa using hb],rfl⟩
   all_goals (subst h;exact⟨_,by simp[eqGuard,binOp,Op.intArith,Op.intBits,Op.intCmp],rfl⟩)
 ·cases h
theorem ZL6 (pre:Pre G R w e a Hm) {op:BinOp}{t t':TypeId}{x y:Operand}{x' y':Opd}{r:D} (hop:o.op = .binOp op t x y t') (hx:ZS G x x'=true) (hy:ZS G y y'=true)
  (h:Zrh op (x'.val e) (y'.val e)=some r) (hp:Z8 R.H [] nid [] H'):Zc9 P o a w (Post R w nid 0 H' (.d r)):=by
 obtain⟨u,h1,h2⟩:=ZJh (P:=P) t x y (pre.opd hx) (pre.opd hy) h
 exact ZbL (s:=do eqGuard op t x y (a.eval x) (a.eval y);binOp op t (a.eval x) (a.eval y)) (by unfold execOp;rw[hop]) h1 (Post.stay pre.ok hp h2)
theorem ZOY (pre:Pre G R w e a Hm) {op:UnOp}{t:TypeId}{x:Operand}{x':Opd}{r:D} (hop:o.op = .unOp op t x) (hx:ZS G x x'=true)
  (h:unE op (x'.val e)=some r) (hp:Z8 R.H [] nid [] H'):Zc9 P o a w (Post R w nid 0 H' (.d r)):=by
 have hv:=pre.opd hx
 unfold unE at h
 split at h
 ·rename_i b hb
  rw[hb] at hv
  simp only[sJ] at h
  subst h
  exact ZbL (s:=Op.unary .not (a.eval x)) (u:=.bool !b) (by unfold execOp;rw[hop]) (by rw[Zys hv];rfl) (Post.stay pre.ok hp rfl)
 ·rename_i k n hb
  rw[hb] at hv
  simp only[sJ] at h
  subst h
  exact ZbL (s:=Op.unary .neg (a.eval x)) (u:=.int k (k.wrap (0-n))) (by unfold execOp;rw[hop]) (by rw[ZnW hv];rfl) (Post.stay pre.ok hp rfl)
 ·cases h
theorem ZKQ (pre:Pre G R w e a Hm) {s t:TypeId}{k k0:IntKind}{n:Int}{ds:TypeDesc}{x:Operand}{x':Opd} (hop:o.op = .convert s t x) (hx:ZS G x x'=true) (hs:P.underlying s=some ds) (ht:P.underlying t=some (.int k))
  (h:x'.val e = .d (.int k0 n)) (hp:Z8 R.H [] nid [] H'):Zc9 P o a w (Post R w nid 0 H' (.d (.int k (k.wrap n)))):=by
 have hv:=pre.opd hx
 rw[h] at hv
 refine ZbL (s:=convert s t (a.eval x)) (u:=.int k (k.wrap n)) (by unfold execOp;rw[hop]) ?_ (Post.stay pre.ok hp rfl)
 rw[ZnW hv]
 simp[convert,run_underlying hs,run_underlying ht,Conv.intToInt]
theorem Zxz (pre:Pre G R w e a Hm) {x:Operand}{x':Opd}{i:Nat}{v:V} (hop:o.op = .extract x i) (hx:ZS G x x'=true)
  (h:(∃vs,x'.val e = .tup vs/\nth vs i=some v)∨(∃vs y,x'.val e = .d (.tup vs)/\nth vs i=some y/\v = .d y)) (hp:Z8 R.H [] nid [] H'):Zc9 P o a w (Post R w nid 0 H' v):=by
 have hv:=pre.opd hx
 rcases h with⟨vs,h1,h2⟩ | ⟨vs,y,h1,h2,rfl⟩
 ·rw[h1] at hv
  obtain⟨us,h3,h4⟩:=hv
  rw[Z2] at h2
  obtain⟨u,h5,h6⟩:=Zhs vs us i v h4 h2
  exact ZbL (s:=Instr.extract (a.eval x) i) (u:=u) (by unfold execOp;rw[hop]) (by rw[h3];simp[Instr.extract,h5]) (Post.stay pre.ok hp h6)
 ·rw[h1] at hv
  obtain⟨us,h3,h4⟩:=hv
  rw[Z2] at h2
  obtain⟨u,h5,h6⟩:=Zh0 vs us i y h4 h2
  exact ZbL (s:=Instr.extract (a.eval x) i) (u:=u) (by unfold execOp;rw[hop]) (by rw[h3];simp[Instr.extract,h5]) (Post.stay pre.ok hp h6)
theorem ZK9 (pre:Pre G R w e a Hm) {f:Nat}{first caps:Array Operand}{ys:List Opd} (hop:o.op = .makeFunc (.func f) first caps) (hlt:isU f=true) (hf:first = #[]) (hx:Zfl G caps.toList ys=true) (hp:Z8 R.H [] nid [] H') :
  Zc9 P o a w (Post R w nid 0 H' (match ys with | []=>.d (.fn f []) | ys=>.fn f (ZgU e ys))):=by
 subst hf
 have hv:=pre.opds hx
 refine ZbL (s:=Instr.makeFunc (.func f) (#[].map a.eval) (caps.map a.eval)) (u:=.func (.func f) #[] (caps.toList.map a.eval).toArray) (by unfold execOp;rw[hop]) (by
  have hc:caps.map a.eval=(caps.toList.map a.eval).toArray:=by apply Array.ext';simp
  rw[hc];simp[Instr.makeFunc]) (Post.stay pre.ok hp ?_)
 cases ys with
 | nil=>
  simp only[ZgU,ZaT] at hv
  exact⟨[],by rw[Zur hlt];simp[hv],rfl⟩
 | cons y ys=>exact⟨_,(Zur hlt _).symm,hv⟩
theorem ZI9 (pre:Pre G R w e a Hm) {f:Nat}{first caps:Array Operand}{y:Opd}{ys:List Opd} (hop:o.op = .makeFunc (.func f) first caps) (hb:Nat.beq (1000000+f) 2000000=false) (hf:caps = #[]) (hx:Zfl G first.toList (y :: ys)=true) (hp:Z8 R.H [] nid [] H') :
  Zc9 P o a w (Post R w nid 0 H' (.fn (1000000+f) (ZgU e (y :: ys)))):=by
 subst hf
 have hv:=pre.opds hx
 refine ZbL (s:=Instr.makeFunc (.func f) (first.map a.eval) (#[].map a.eval)) (u:=.func (.func f) (first.toList.map a.eval).toArray #[]) (by unfold execOp;rw[hop]) (by
  have hc:first.map a.eval=(first.toList.map a.eval).toArray:=by apply Array.ext';simp
  rw[hc];simp[Instr.makeFunc]) (Post.stay pre.ok hp ?_)
 refine⟨_,?_,hv⟩
 unfold Zm7
 have h1:isU (1000000+f)=false:=by
  cases h:isU (1000000+f) with
  | false=>rfl
  | true=>exact absurd (Nat.le_of_ble_eq_true (show Nat.ble (1000000+f+1) 1000000=true from h)) (by omega)
 have h2:unB (1000000+f)=f:=Nat.add_sub_cancel_left 1000000 f
 rw[h1,hb,h2]
 rfl
theorem ZI1 (pre:Pre G R w e a Hm) {first caps:Array Operand}{y:Opd}{ys:List Opd} (hop:o.op = .makeFunc (.method Zsx) first caps) (hf:caps = #[]) (hx:Zfl G first.toList (y :: ys)=true) (hp:Z8 R.H [] nid [] H') :
  Zc9 P o a w (Post R w nid 0 H' (.fn 2000000 (ZgU e (y :: ys)))):=by
 subst hf
 have hv:=pre.opds hx
 refine ZbL (s:=Instr.makeFunc (.method Zsx) (first.map a.eval) (#[].map a.eval)) (u:=.func (.method Zsx) (first.toList.map a.eval).toArray #[]) (by unfold execOp;rw[hop]) (by
  have hc:first.map a.eval=(first.toList.map a.eval).toArray:=by apply Array.ext';simp
  rw[hc];simp[Instr.makeFunc]) (Post.stay pre.ok hp ?_)
 exact⟨_,rfl,hv⟩
end
end
section
section
variable {P:Program} {G:Zbq} {R:RP} {w:World} {e:Env} {a:Act} {Hm H':Zm} {nid:Nat} {o:Oper}
theorem ZI2 {n:Nat}{ag:Bool}{cs:List V}{us:List Value}{v:V}{t:TypeId}{off:Nat} (hd:ZaT R w cs us) (hag:Zkh P t=some ag) (hsz:ZhY P t=some n) (h:ZiA n ag (cs.drop off)=some v) :
  ∃u,(part t us.toArray off).run P w = .ok u w/\Za6 R w v u:=by
 unfold ZiA at h
 cases ag with
 | false=>
  simp only[cF] at h
  rw[List.head?_eq_getElem?,List.getElem?_drop] at h
  obtain⟨u,h1,h2⟩:=Zhs cs us _ v hd h
  refine⟨u,?_,h2⟩
  simp only[add_zero] at h1
  simp[part,ZhQ hag,h1]
 | true=>
  simp only[cT] at h
  cases hl:Nat.beq ((cs.drop off).take n).length n with
  | false=>rw[hl] at h;cases h
  | true=>
   rw[hl] at h
   simp only[cT,sJ] at h
   subst h
   have hl':((cs.drop off).take n).length=n:=nQ hl
   refine⟨.agg (((us.drop off).take n).toArray),?_,Zve (Zm0 _ _ ?_ ?_)⟩
   ·simp[part,ZhQ hag,ZfX hsz,List.drop_take]
   ·have:=ZfD cs us hd
    simp only[length_take,length_drop] at hl' ⊢
    omega
   ·intro j v u hv hu
    have hj:j<n:=by have:=(gQ hv).1;omega
    rw[List.getElem?_take,if_pos hj,List.getElem?_drop] at hv hu
    obtain⟨u',g1,g2⟩:=Zhs cs us _ v hd hv
    rw[hu] at g1;cases g1;exact g2
def Zxd (P:Program) (t:TypeId):Option (Nat×TypeId):=match P.underlying t with | some (.array n e)=>some (n,e) | _=>none
theorem Zv6 {t el:TypeId}{n:Nat} (h:Zxd P t=some (n,el)):P.underlying t=some (.array n el):=by
 unfold Zxd at h;split at h<;>simp_all
def Zuh (P:Program) (t:TypeId):Option TypeId:=match P.underlying t with | some (.slice e)=>some e | _=>none
theorem Zpk {t el:TypeId} (h:Zuh P t=some el):P.underlying t=some (.slice el):=by
 unfold Zuh at h;split at h<;>simp_all
theorem ZIo (pre:Pre G R w e a Hm) {t el:TypeId}{len n:Nat}{ag:Bool}{x i:Operand}{y j:Opd}{v:V} (hop:o.op = .index t x i) (hx:ZS G x y=true) (hi:ZS G i j=true) (ht:Zxd P t=some (len,el)) (hag:Zkh P el=some ag) (hsz:ZhY P el=some n)
  (h:Zrl len n ag (y.val e) (j.val e)=some v) (hp:Z8 R.H [] nid [] H'):Zc9 P o a w (Post R w nid 0 H' v):=by
 have hv:=pre.opd hx
 have hiv:=pre.opd hi
 unfold Zrl at h
 split at h
 ·rename_i k m hj
  rw[hj] at hiv
  cases hc:((y.val e).isAggV&&(decide (0<=m)&&decide (m<len))) with
  | false=>rw[hc] at h;cases h
  | true=>
   rw[hc] at h
   simp only[cT] at h
   simp only[aT,decide_eq_true_eq] at hc
   obtain⟨hav,hc⟩:=hc
   have hagg:(∃cs,y.val e = .d (.agg cs))∨∃cs,y.val e = .agg cs:=by
    unfold V.isAggV at hav
    split at hav
    ·rename_i cs hv';exact .inl ⟨cs,hv'⟩
    ·rename_i cs hv';exact .inr ⟨cs,hv'⟩
    ·cases hav
   have hb:(y.val e).okb=true:=by rcases hagg with⟨cs,h3⟩ | ⟨cs,h3⟩<;>rw[h3]<;>rfl
   have hcs:=ZjJ hv hb
   have hag':∃us,a.eval x = .agg us:=by
    rcases hagg with⟨cs,h3⟩ | ⟨cs,h3⟩<;>(rw[h3] at hv;obtain⟨us,h5,_⟩:=hv;exact⟨_,h5⟩)
   obtain⟨us,hus⟩:=hag'
   rw[hus] at hcs
   obtain⟨u,h1,h2⟩:=ZI2 (P:=P) hcs hag hsz h
   refine ZbL (s:=Instr.index t (a.eval x) (a.eval i)) (u:=u) (by unfold execOp;rw[hop]) ?_ (Post.stay pre.ok hp h2)
   rw[hus,ZnW hiv]
   simp only[Value.cells,Array.toArray_toList] at h1
   simp[Instr.index,asIntOf,run_underlying (Zv6 ht),hc,ZfX hsz,h1]
 ·cases h
theorem ZH2 (pre:Pre G R w e a Hm) {t:TypeId}{x i:Operand}{y j:Opd}{v:V} (hop:o.op = .index t x i) (hx:ZS G x y=true) (hi:ZS G i j=true) (ht:P.underlying t=some .string)
  (h:ZnU (y.val e) (j.val e)=some v) (hp:Z8 R.H [] nid [] H'):Zc9 P o a w (Post R w nid 0 H' v):=by
 have hv:=pre.opd hx
 have hiv:=pre.opd hi
 unfold ZnU at h
 split at h
 ·rename_i s k m hy hj
  rw[hj] at hiv
  rw[hy] at hv
  cases hc:decide (0<=m) with
  | false=>rw[hc] at h;cases h
  | true=>
   rw[hc] at h
   simp only[cT] at h
   have h0:0<=m:=of_decide_eq_true hc
   cases hs:s[m.toNat]? with
   | none=>rw[hs] at h;cases h
   | some b=>
    rw[hs] at h
    simp only[sJ] at h
    subst h
    refine ZbL (s:=Instr.index t (a.eval x) (a.eval i)) (u:=.int .u8 b.toNat) (by unfold execOp;rw[hop]) ?_ (Post.stay pre.ok hp rfl)
    rw[ZnW hiv,show a.eval x = .string s from hv]
    simp[Instr.index,asIntOf,run_underlying ht,h0,hs]
 ·cases h
theorem Zhb {m:Option Nat}{xs:List D}{sz of len:Nat}{u:Value} (h:Zx6 w m xs sz of len u) (h0:0<len∨of<xs.length) :
  ∃c cs el fr cap,m=some c/\u = .slice (some ⟨c,of*sz,none⟩) len cap/\len<=cap/\w.heap[c]? = some (.cells cs el fr)/\cs.size=(of+cap)*sz:=by
 obtain⟨h1,ad,cap,rfl,h3,h4⟩:=h
 rcases h4 with⟨rfl,h4⟩ | ⟨c,cs,el,fr,rfl,rfl,h6,h7⟩
 ·exfalso;omega
 ·exact⟨c,cs,el,fr,cap,rfl,rfl,h3,h6,h7⟩
theorem Zzq {t el:TypeId}{n:Nat}{ad:Addr}{len cap:Nat}{k:IntKind}{i:Int} (ht:Zuh P t=some el) (hsz:ZhY P el=some n) (h0:0<=i) (h1:i<len) :
  (Instr.indexAt t (.slice (some ad) len cap) (.int k i)).run P w = .ok (.pointer (some (ad.add (i.toNat*n)))) w:=by
 simp[Instr.indexAt,asIntOf,run_underlying (Zpk ht),ZfX hsz,h0,h1]
theorem ZIb {A1 A0 AL:Nat->Prop}{b off:Nat}{x:D}{u:Value} (hu:Zbu A1 A0 AL w x u) (hb:(V.d x).okb=true) (hc:∀(k:Nat) v,u.cells[k]? = some v->w.cell? ⟨b,off+k,none⟩=some v) :
  u.cells.size=x.cells.length/\Zdb A1 A0 AL w b off x.cells:=by
 have one:∀{x:D} {u:Value},Zbu A1 A0 AL w x u->u.cells = #[u]->x.cells=[x]->(∀(k:Nat) v,u.cells[k]? = some v->w.cell? ⟨b,off+k,none⟩=some v)->u.cells.size=x.cells.length/\Zdb A1 A0 AL w b off x.cells:=by
  intro x u h1 h2 h3 h4
  have h5:=h4 0 u (by rw[h2];rfl)
  rw[h2,h3]
  exact⟨rfl,⟨u,by simpa using h5,h1⟩,trivial⟩
 cases x with
 | agg cs=>
  obtain⟨us,rfl,h⟩:=hu
  refine⟨by simpa [Value.cells,D.cells] using Zwu cs us h,Zj4 _ _ fun j y hj=>?_⟩
  obtain⟨u,h1,h2⟩:=Zh0 cs us j y h hj
  exact⟨u,hc j u (by simpa [Value.cells] using h1),h2⟩
 | tup cs=>simp[V.okb] at hb
 | bool b=>cases hu;exact one (x:=.bool b) rfl rfl rfl hc
 | int k n=>cases hu;exact one (x:=.int k n) rfl rfl rfl hc
 | str s=>cases hu;exact one (x:=.str s) rfl rfl rfl hc
 | nilfn=>cases hu;exact one (x:=.nilfn) rfl rfl rfl hc
 | nilp=>cases hu;exact one (x:=.nilp) rfl rfl rfl hc
 | nilI=>cases hu;exact one (x:=.nilI) rfl rfl rfl hc
 | list own xs=>
  have hu':=hu
  obtain⟨ad,len,cap,rfl,_⟩:=hu'
  exact one hu rfl rfl hc
 | fn f caps=>
  have hu':=hu
  obtain⟨us,rfl,_⟩:=hu'
  exact one hu (ZzB _ _) rfl hc
 | rptr cs=>
  have hu':=hu
  obtain⟨b',off',rfl,_⟩:=hu'
  exact one hu rfl rfl hc
 | iface t v=>
  have hu':=hu
  obtain⟨u',rfl,_⟩:=hu'
  exact one hu rfl rfl hc
theorem Zqy (pre:Pre G R w e a Hm) {b sz:Nat}{xs:List D}{u:Value} (hb:nth Hm b=some (.arr sz xs)) (h:Za6 R w (.sl b sz) u) :
  ∃m,R.M b=some m/\nth R.H b=some (.arr sz xs)/\Zi1 R w m (.arr sz xs)/\Zx6 w m xs sz 0 xs.length u:=by
 have hb':=pre.le b _ hb (by simp)
 obtain⟨_,m,h1,h2⟩:=h
 exact⟨m,h1,hb',pre.ok.blk b _ _ (by rw[<- Z2];exact hb') h1,h2 xs hb'⟩
theorem ZnY (pre:Pre G R w e a Hm) {b sz o len:Nat}{xs:List D}{u:Value} (hb:nth Hm b=some (.arr sz xs)) (h:Za6 R w (.slp b sz o len) u) :
  ∃m,R.M b=some m/\nth R.H b=some (.arr sz xs)/\Zi1 R w m (.arr sz xs)/\Zx6 w m xs sz o len u:=by
 have hb':=pre.le b _ hb (by simp)
 obtain⟨_,m,h1,h2⟩:=h
 exact⟨m,h1,hb',pre.ok.blk b _ _ (by rw[<- Z2];exact hb') h1,h2 xs hb'⟩
theorem ZIx (pre:Pre G R w e a Hm) {t el:TypeId}{n:Nat}{x i:Operand}{y j:Opd}{v:V} (hop:o.op = .indexAddr t x i) (hx:ZS G x y=true) (hi:ZS G i j=true) (ht:Zuh P t=some el) (hsz:ZhY P el=some n)
  (h:ZkU Hm n (y.val e) (j.val e)=some v) (hp:Z8 R.H [] nid [] H'):Zc9 P o a w (Post R w nid 0 H' v):=by
 have hv:=pre.opd hx
 have hiv:=pre.opd hi
 unfold ZkU at h
 have fin:∀{k:IntKind} {m:Int} {ad:Addr} {len cap:Nat} ,a.eval i = .int k m->a.eval x = .slice (some ad) len cap->0<=m->m<len->Za6 R w v (.pointer (some (ad.add (m.toNat*n))))->Zc9 P o a w (Post R w nid 0 H' v):=
  fun h1 h2 h3 h4 h5=>ZbL (s:=Instr.indexAt t (a.eval x) (a.eval i)) (by unfold execOp;rw[hop]) (by rw[h1,h2];exact Zzq ht hsz h3 h4) (Post.stay pre.ok hp h5)
 split at h
 ·rename_i k m hj
  rw[hj] at hiv
  split at h
  ·rename_i own xs hy
   rw[hy] at hv
   cases hg:ZA xs m with
   | none=>rw[hg] at h;cases h
   | some z=>
    rw[hg] at h
    dsimp only at h
    cases hc:(Nat.beq z.cells.length n&&(V.d z).okb) with
    | false=>rw[hc] at h;cases h
    | true=>
     rw[hc] at h
     simp only[cT,sJ] at h
     subst h
     simp only[aT] at hc
     obtain⟨h0,h1,h2⟩:=Zrz xs m z hg
     obtain⟨ad,len,cap,e1,rfl,e3,e4,e5⟩:=hv
     obtain⟨b,off,sz,rfl,f2,f3,f4⟩:=e5 (by intro hn;rw[hn] at h2;simp at h2)
     obtain⟨u,g1,g2,g3⟩:=ZmH xs off m.toNat z f4 h2
     obtain⟨q1,q2⟩:=ZIb (b:=b) (off:=off+m.toNat*sz) g1 hc.2 g3
     have hn:sz=n:=by rw[<- g2,q1];exact nQ hc.1
     subst hn
     refine fin (ZnW hiv) e1 h0 h1 ⟨b,off+m.toNat*sz,by rw[Addr.add_lit],?_,f3,q2⟩
     cases own
     ·exact f2
     ·exact⟨f2.1,fun hb=>f2.2 (pre.ok.b01 _ hb)⟩
  ·rename_i b sz' hy
   rw[hy] at hv
   cases hb:nth Hm b with
   | none=>rw[hb] at h;cases h
   | some blk=>
    rw[hb] at h
    cases blk<;>try (cases h;done)
    rename_i sz'' xs
    dsimp only at h
    cases hs:(Nat.beq n sz'&&Nat.beq n sz'') with
    | false=>rw[hs] at h;cases h
    | true=>
     rw[hs] at h
     simp only[aT] at hs
     obtain rfl:=nQ hs.1
     obtain rfl:=nQ hs.2
     simp only[cT] at h
     cases hg:ZA xs m with
     | none=>rw[hg] at h;cases h
     | some z=>
      rw[hg] at h
      simp only[sJ] at h
      subst h
      obtain⟨h0,h1,h2⟩:=Zrz xs m z hg
      obtain⟨mm,q1,q2,q3,q4⟩:=Zqy pre hb hv
      obtain⟨c,cs,el',fr,cap,rfl,e1,e2,e3,e4⟩:=Zhb q4 (.inr (by omega))
      refine fin (ZnW hiv) e1 h0 h1 ⟨c,q1,?_⟩
      rw[Addr.add_lit,zero_mul,zero_add];rfl
  ·rename_i b sz' of ln hy
   rw[hy] at hv
   cases hb:nth Hm b with
   | none=>rw[hb] at h;cases h
   | some blk=>
    rw[hb] at h
    cases blk<;>try (cases h;done)
    rename_i sz'' xs
    dsimp only at h
    cases hs:(Nat.beq n sz'&&Nat.beq n sz'') with
    | false=>rw[hs] at h;cases h
    | true=>
     rw[hs] at h
     simp only[aT] at hs
     obtain rfl:=nQ hs.1
     obtain rfl:=nQ hs.2
     simp only[cT] at h
     cases hg:ZA ((xs.drop of).take ln) m with
     | none=>rw[hg] at h;cases h
     | some z=>
      rw[hg] at h
      simp only[sJ] at h
      subst h
      obtain⟨h0,h1,h2⟩:=Zrz _ m z hg
      simp only[length_take,length_drop] at h1
      obtain⟨mm,q1,q2,q3,q4⟩:=ZnY pre hb hv
      obtain⟨c,cs,el',fr,cap,rfl,e1,e2,e3,e4⟩:=Zhb q4 (.inr (by omega))
      refine fin (ZnW hiv) e1 h0 (by omega) ⟨c,q1,?_⟩
      rw[Addr.add_lit,add_mul];rfl
  ·cases h
 ·cases h
end
end
open Int (toNat_of_nonneg)
section
section
variable {P:Program} {G:Zbq} {R:RP} {w:World} {e:Env} {a:Act} {Hm H':Zm} {nid:Nat} {o:Oper}
theorem ZEZ (pre:Pre G R w e a Hm) {t el:TypeId}{n len:Nat}{x i:Operand}{y j:Opd}{v:V} (hop:o.op = .indexAddr t x i) (hx:ZS G x y=true) (hi:ZS G i j=true) (ht:Zxd P t=some (len,el)) (hsz:ZhY P el=some n)
  (h:ZiB Hm len n (y.val e) (j.val e)=some v) (hp:Z8 R.H [] nid [] H'):Zc9 P o a w (Post R w nid 0 H' v):=by
 have hv:=pre.opd hx
 have hiv:=pre.opd hi
 unfold ZiB at h
 split at h
 ·rename_i k m hj
  rw[hj] at hiv
  cases hc:(decide (0<=m)&&decide (m<len)) with
  | false=>rw[hc] at h;cases h
  | true=>
   rw[hc] at h
   simp only[cT] at h
   simp only[aT,decide_eq_true_eq] at hc
   obtain⟨ad,h1,h2⟩:=ZzL pre hv h
   refine ZbL (s:=Instr.indexAt t (a.eval x) (a.eval i)) (by unfold execOp;rw[hop]) ?_ (Post.stay pre.ok hp h2)
   rw[h1,ZnW hiv]
   simp[Instr.indexAt,asIntOf,Instr.sureAddr,run_underlying (Zv6 ht),ZfX hsz,hc]
 ·cases h
theorem ZBO (pre:Pre G R w e a Hm) {x:V}{xs:List D}{u:Value} (hx:Za6 R w x u) (h:elems Hm x=some xs) (hl:0<xs.length):∃ad cap,u = .slice (some ad) xs.length cap:=by
 unfold elems at h
 split at h
 ·rename_i own xs'
  simp only[sJ] at h
  subst h
  obtain⟨ad,len,cap,rfl,rfl,e3,e4,e5⟩:=hx
  obtain⟨b,off,sz,rfl,_⟩:=e5 (by intro hn;rw[hn] at hl;simp at hl)
  exact⟨_,cap,rfl⟩
 ·rename_i b sz
  cases hb:nth Hm b with
  | none=>rw[hb] at h;cases h
  | some blk=>
   rw[hb] at h
   cases blk<;>try (cases h;done)
   rename_i sz' xs'
   dsimp only at h
   cases hs:Nat.beq sz sz' with
   | false=>rw[hs] at h;cases h
   | true=>
    rw[hs] at h
    simp only[cT,sJ] at h
    subst h
    obtain rfl:=nQ hs
    obtain⟨m,q1,q2,q3,q4⟩:=Zqy pre hb hx
    obtain⟨c,cs,el,fr,cap,rfl,rfl,_⟩:=Zhb q4 (.inl hl)
    exact⟨_,cap,rfl⟩
 ·rename_i b sz of len
  cases hb:nth Hm b with
  | none=>rw[hb] at h;cases h
  | some blk=>
   rw[hb] at h
   cases blk<;>try (cases h;done)
   rename_i sz' xs'
   dsimp only at h
   cases hs:Nat.beq sz sz' with
   | false=>rw[hs] at h;cases h
   | true=>
    rw[hs] at h
    simp only[cT,sJ] at h
    subst h
    obtain rfl:=nQ hs
    obtain⟨m,q1,q2,q3,q4⟩:=ZnY pre hb hx
    have hlen:((xs'.drop of).take len).length=len:=by
     have:=q4.1
     simp only[length_take,length_drop];omega
    rw[hlen] at hl ⊢
    obtain⟨c,cs,el,fr,cap,rfl,rfl,_⟩:=Zhb q4 (.inl hl)
    exact⟨_,cap,rfl⟩
 ·simp only[sJ] at h
  subst h
  simp at hl
 ·cases h
theorem ZxB (pre:Pre G R w e a Hm) {x:V}{xs:List D}{u:Value} (hx:Za6 R w x u) (h:elems Hm x=some xs):∃ad cap,u = .slice ad xs.length cap/\xs.length<=cap:=by
 unfold elems at h
 split at h
 ·rename_i own xs'
  simp only[sJ] at h
  subst h
  obtain⟨ad,len,cap,rfl,rfl,e3,_⟩:=hx
  exact⟨ad,cap,rfl,e3⟩
 ·rename_i b sz
  cases hb:nth Hm b with
  | none=>rw[hb] at h;cases h
  | some blk=>
   rw[hb] at h
   cases blk<;>try (cases h;done)
   rename_i sz' xs'
   dsimp only at h
   cases hs:Nat.beq sz sz' with
   | false=>rw[hs] at h;cases h
   | true=>
    rw[hs] at h
    simp only[cT,sJ] at h
    subst h
    obtain rfl:=nQ hs
    obtain⟨m,q1,q2,q3,q4,ad,cap,rfl,q5,_⟩:=Zqy pre hb hx
    exact⟨ad,cap,rfl,q5⟩
 ·rename_i b sz of len
  cases hb:nth Hm b with
  | none=>rw[hb] at h;cases h
  | some blk=>
   rw[hb] at h
   cases blk<;>try (cases h;done)
   rename_i sz' xs'
   dsimp only at h
   cases hs:Nat.beq sz sz' with
   | false=>rw[hs] at h;cases h
   | true=>
    rw[hs] at h
    simp only[cT,sJ] at h
    subst h
    obtain rfl:=nQ hs
    obtain⟨m,q1,q2,q3,q4,ad,cap,rfl,q5,_⟩:=ZnY pre hb hx
    have:((xs'.drop of).take len).length=len:=by simp only[length_take,length_drop];omega
    rw[this]
    exact⟨ad,cap,rfl,q5⟩
 ·simp only[sJ] at h
  subst h
  obtain⟨ad,rfl⟩:=hx
  exact⟨ad,0,rfl,Nat.le_refl _⟩
 ·cases h
theorem ZhP {b:Builtin}{xs:Array Operand}{ats:Array TypeId} (hop:o.op = .call { callee:=.builtin b,args:=xs,argTypes:=ats }) :
  execOp a.eval o=builtin b ats o.type (xs.map fun | .const _=>true | _=>false) (xs.map a.eval):=by
 obtain⟨dst,op,ty,pos,after,guard⟩:=o
 simp only at hop
 subst hop
 rfl
theorem ZNo (pre:Pre G R w e a Hm) {t el:TypeId}{x:Operand}{y:Opd}{r:D} (hop:o.op = .call { callee:=.builtin .len,args:=#[x],argTypes:=#[t] }) (hx:ZS G x y=true) (ht:Zuh P t=some el)
  (h:Zyl Hm (y.val e)=some r) (hp:Z8 R.H [] nid [] H'):Zc9 P o a w (Post R w nid 0 H' (.d r)):=by
 have hv:=pre.opd hx
 unfold Zyl at h
 cases hes:elems Hm (y.val e) with
 | none=>rw[hes] at h;cases h
 | some xs=>
  rw[hes] at h
  simp only[sJ] at h
  subst h
  obtain⟨ad,cap,h1,_⟩:=ZxB pre hv hes
  refine ZbL (s:=Builtin.len_ #[t] o.type #[a.eval x]) (u:=.int .i64 xs.length) (by rw[ZhP hop,BigFrame.builtin_len];simp) ?_ (Post.stay pre.ok hp rfl)
  rw[h1]
  simp[Builtin.len_,run_underlying (Zpk ht),goInt]
def ZB1 (x:Option Value) (d l:Nat):Prop:=(x=none/\l=d)∨∃k,x=some (.int k (l:Int))
theorem ZLB {t el:TypeId}{sz:Nat}{ad:Option Addr}{len cap l h:Nat}{lo hi:Option Value} (ht:Zuh P t=some el) (hsz:ZhY P el=some sz) (h1:ZB1 lo 0 l) (h2:ZB1 hi len h) (h3:l<=h) (h4:h<=cap) (h5:len<=cap) :
  (Instr.sliceAt t (.slice ad len cap) lo hi none).run P w = .ok (.slice (if cap=l then ad else ad.map (·.add (l*sz))) (h-l) (cap-l)) w:=by
 have ht':=Zpk ht
 rcases h1 with⟨rfl,rfl⟩ | ⟨k1,rfl⟩<;>rcases h2 with⟨rfl,rfl⟩ | ⟨k2,rfl⟩<;>
  simp[Instr.sliceAt,Instr.slice,run_underlying ht',Instr.sliceBounds,Instr.sliceBound,asIntOf,ZfX hsz, *]
theorem ZIQ {t el:TypeId}{sz:Nat}{ad:Option Addr}{len cap l h m:Nat}{lo hi mx:Option Value} (ht:Zuh P t=some el) (hsz:ZhY P el=some sz) (h1:ZB1 lo 0 l) (h2:∃k,hi=some (.int k (h:Int))) (h6:∃k,mx=some (.int k (m:Int))) (h3:l<=h) (h4:h<=m) (h5:m<=cap) :
  (Instr.sliceAt t (.slice ad len cap) lo hi mx).run P w = .ok (.slice (if m=l then ad else ad.map (·.add (l*sz))) (h-l) (m-l)) w:=by
 have ht':=Zpk ht
 obtain⟨k2,rfl⟩:=h2
 obtain⟨k3,rfl⟩:=h6
 rcases h1 with⟨rfl,rfl⟩ | ⟨k1,rfl⟩<;>
  simp[Instr.sliceAt,Instr.slice,run_underlying ht',Instr.sliceBounds,Instr.sliceBound,asIntOf,ZfX hsz, *]
def Zq7 (G:Zbq):Option Operand->Option Opd->Bool
 | none,none=>true
 | some x,some y=>ZS G x y
 | _,_=>false
theorem ZAK (pre:Pre G R w e a Hm) {x:Option Operand}{y:Option Opd}{d l:Nat} (hx:Zq7 G x y=true) (h:Zkf (y.map (·.val e)) d=some l):ZB1 (x.map a.eval) d l:=by
 cases x with
 | none=>
  cases y with
  | some y=>cases hx
  | none=>simp[Zkf] at h;exact .inl ⟨rfl,h.symm⟩
 | some x=>
  cases y with
  | none=>cases hx
  | some y=>
   have hv:=pre.opd (x:=x) (y:=y) hx
   simp only[map_some] at h
   unfold Zkf at h
   split at h
   ·cases ‹some _=none›
   ·rename_i k n hy
    simp only[sJ] at hy
    rw[hy] at hv
    cases h0:decide (0<=n) with
    | false=>rw[h0] at h;cases h
    | true=>
     rw[h0] at h
     simp only[cT,sJ] at h
     have h0':0<=n:=of_decide_eq_true h0
     refine .inr ⟨k,?_⟩
     simp only[map_some]
     rw[ZnW hv,<- h,toNat_of_nonneg h0']
   ·cases h
theorem ZIX (pre:Pre G R w e a Hm) {t el:TypeId}{n:Nat}{x:Operand}{y:Opd}{lo hi mx:Option Operand}{lo' hi' mx':Option Opd}{v:V} (hop:o.op = .slice t x lo hi mx) (hx:ZS G x y=true)
  (hlo:Zq7 G lo lo'=true) (hhi:Zq7 G hi hi'=true) (hmx:Zq7 G mx mx'=true) (hh:mx'.isSome=true->hi'.isSome=true) (ht:Zuh P t=some el) (hsz:ZhY P el=some n)
  (h:ZlJ Hm n (y.val e) (lo'.map (·.val e)) (hi'.map (·.val e)) (mx'.map (·.val e))=some v) (hp:Z8 R.H [] nid [] H'):Zc9 P o a w (Post R w nid 0 H' v):=by
 have hv:=pre.opd hx
 unfold ZlJ at h
 cases hes:elems Hm (y.val e) with
 | none=>rw[hes] at h;cases h
 | some xs=>
  rw[hes] at h
  dsimp only at h
  cases hl:Zkf (lo'.map (·.val e)) 0 with
  | none=>rw[hl] at h;cases h
  | some l=>
   rw[hl] at h
   cases hhn:Zkf (hi'.map (·.val e)) xs.length with
   | none=>rw[hhn] at h;cases h
   | some hn=>
    rw[hhn] at h
    dsimp only at h
    cases hc:(Nat.ble l hn&&Nat.ble hn xs.length) with
    | false=>rw[hc] at h;cases h
    | true=>
     rw[hc] at h
     simp only[cT] at h
     simp only[aT,ble_eq] at hc
     obtain⟨c1,c2⟩:=hc
     obtain⟨ad,cap,q1,q2⟩:=ZxB pre hv hes
     have b1:=ZAK pre hlo hl
     have b2:=ZAK pre hhi hhn
     have fin:Za6 R w v (.slice (if cap=l then ad else ad.map (·.add (l*n))) (hn-l) (cap-l))->mx=none->Zc9 P o a w (Post R w nid 0 H' v):=fun h5 hm=>
      ZbL (s:=Instr.sliceAt t (a.eval x) (lo.map a.eval) (hi.map a.eval) (mx.map a.eval)) (by unfold execOp;rw[hop]) (by rw[q1,hm];exact ZLB ht hsz b1 b2 c1 (by omega) q2) (Post.stay pre.ok hp h5)
     cases mx' with
     | none=>
      have hm:mx=none:=by cases mx with | none=>rfl | some m=>cases hmx
      simp only[Option.map_none] at h
      refine fin ?_ hm
      rw[q1] at hv
      cases hy:y.val e<;>rw[hy] at h hv hes<;>try (cases h;done)
      ·rename_i z
       cases z<;>try (cases h;done)
       rename_i own xs'
       simp only[elems,sJ] at hes
       subst hes
       dsimp only at h
       cases hg:(Nat.beq l 0 || ZmC n xs' l) with
       | false=>rw[hg] at h;cases h
       | true=>
        rw[hg] at h
        simp only[cT,sJ] at h
        subst h
        obtain⟨ad',len',cap',e1,e2,e3,e4,e5⟩:=hv
        cases e1
        have hlen:((xs'.drop l).take (hn-l)).length=hn-l:=by simp only[length_take,length_drop];omega
        refine⟨_,_,_,rfl,hlen.symm,by omega,fun z hz=>e4 z (List.mem_of_mem_drop (List.mem_of_mem_take hz)),fun hne=>?_⟩
        have hlt:l<hn:=by
         rcases lt_or_ge l hn with h | h
         ·exact h
         ·exact absurd (List.eq_nil_of_length_eq_zero (by omega)) hne
        obtain⟨b,off,sz,rfl,f2,f3,f4⟩:=e5 (by intro hn';rw[hn'] at c2;simp at c2;omega)
        have hcl:cap≠l:=by omega
        have hsame:l*n=l*sz:=by
         simp only[Bool.or_eq_true] at hg
         rcases hg with hg | hg
         ·rw[nQ hg,zero_mul,zero_mul]
         ·have hll:l<xs'.length:=by omega
          unfold ZmC at hg
          rw[Z2,gE hll] at hg
          simp only[aT] at hg
          obtain⟨u,g1,g2,g3⟩:=ZmH xs' off l _ f4 (gE hll)
          have:=ZjJ (R:=R) (v:=.d xs'[l]) g1 hg.2
          have h6:=ZfD _ _ this
          have hVc:(V.d xs'[l]).cells=ZdE xs'[l].cells:=by cases xs'[l]<;>rfl
          rw[hVc,Zpi,length_map,nQ hg.1] at h6
          rw[<- g2];simp at h6;rw[h6]
        refine⟨b,off+l*sz,sz,by rw[if_neg hcl,hsame];simp[Addr.add_lit],f2,f3,Zm6 _ _ fun j z hz=>?_⟩
        have hj:j<hn-l:=by have:=(gQ hz).1;omega
        rw[List.getElem?_take,if_pos hj,List.getElem?_drop] at hz
        obtain⟨u,g1,g2,g3⟩:=ZmH xs' off (l+j) z f4 hz
        exact⟨u,g1,g2,fun k v hk=>by rw[<- g3 k v hk,add_mul];congr 2;omega⟩
      ·rename_i b sz'
       dsimp only at h
       cases hg:Nat.beq n sz' with
       | false=>rw[hg] at h;cases h
       | true=>
        rw[hg] at h
        simp only[cT,sJ] at h
        obtain rfl:=nQ hg
        subst h
        simp only[elems] at hes
        cases hb:nth Hm b with
        | none=>rw[hb] at hes;cases hes
        | some blk=>
         rw[hb] at hes
         cases blk<;>try (cases hes;done)
         rename_i sz'' xs'
         dsimp only at hes
         cases hs:Nat.beq n sz'' with
         | false=>rw[hs] at hes;cases hes
         | true=>
          rw[hs] at hes
          simp only[cT,sJ] at hes
          obtain rfl:=nQ hs
          subst hes
          obtain⟨m,r1,r2,r3,r4⟩:=Zqy pre hb hv
          refine⟨⟨_,_,_,rfl⟩,m,r1,fun ys hys=>?_⟩
          rw[r2] at hys;cases hys
          obtain⟨_,ad',cap',s1,s2,s3⟩:=r4
          cases s1
          refine⟨by omega,_,_,rfl,by omega,?_⟩
          rcases s3 with⟨s3,s4⟩ | ⟨c,cs,el',fr,s4,s5,s6,s7⟩
          ·exact .inl ⟨by omega,by omega⟩
          ·by_cases hcl:cap=l
           ·exact .inl ⟨by omega,by omega⟩
           ·refine .inr ⟨c,cs,el',fr,s4,?_,s6,?_⟩
            ·rw[if_neg hcl,s5];simp[Addr.add_lit]
            ·rw[s7];congr 1;omega
      ·rename_i b sz' of len
       dsimp only at h
       cases hg:Nat.beq n sz' with
       | false=>rw[hg] at h;cases h
       | true=>
        rw[hg] at h
        simp only[cT,sJ] at h
        obtain rfl:=nQ hg
        subst h
        simp only[elems] at hes
        cases hb:nth Hm b with
        | none=>rw[hb] at hes;cases hes
        | some blk=>
         rw[hb] at hes
         cases blk<;>try (cases hes;done)
         rename_i sz'' xs'
         dsimp only at hes
         cases hs:Nat.beq n sz'' with
         | false=>rw[hs] at hes;cases hes
         | true=>
          rw[hs] at hes
          simp only[cT,sJ] at hes
          obtain rfl:=nQ hs
          subst hes
          obtain⟨m,r1,r2,r3,r4⟩:=ZnY pre hb hv
          simp only[length_take,length_drop] at c2 r4 q2
          refine⟨⟨_,_,_,rfl⟩,m,r1,fun ys hys=>?_⟩
          rw[r2] at hys;cases hys
          obtain⟨s0,ad',cap',s1,s2,s3⟩:=r4
          simp only[Value.slice.injEq] at s1
          obtain⟨rfl,_,rfl⟩:=s1
          refine⟨by omega,_,_,rfl,by omega,?_⟩
          rcases s3 with⟨s3,s4⟩ | ⟨c,cs,el',fr,s4,s5,s6,s7⟩
          ·exact .inl ⟨by omega,by omega⟩
          ·obtain⟨t0,_,t1⟩:=r3
           by_cases hcl:cap=l
           ·refine .inl ⟨by omega,?_⟩
            rcases t1 with⟨t1,t2⟩ | ⟨c',cs',el'',t1,t2,t3,_⟩
            ·rw[t1] at s4;cases s4
            ·rw[t1] at s4;cases s4
             rw[t2] at s6;cases s6
             rw[s7] at t3
             have:=Nat.le_of_mul_le_mul_right t3 t0
             omega
           ·refine .inr ⟨c,cs,el',fr,s4,?_,s6,?_⟩
            ·rw[if_neg hcl,s5];simp[Addr.add_lit,add_mul]
            ·rw[s7];congr 1;omega
      ·rename_i sz'
       simp only[sJ] at h
       subst h
       simp only[elems,sJ] at hes
       subst hes
       obtain⟨ad',hv⟩:=hv
       cases hv
       simp only[length_nil] at c2
       obtain rfl:l=0:=by omega
       obtain rfl:hn=0:=by omega
       exact⟨_,rfl⟩
     | some m'=>
      cases mx with
      | none=>cases hmx
      | some m=>
       cases hhs:hi' with
       | none=>rw[hhs] at hh;cases hh rfl
       | some hi1=>
        dsimp only[map_some] at h
        cases hm:Zkf (some (m'.val e)) 0 with
        | none=>rw[hm] at h;cases h
        | some mm=>
         rw[hm] at h
         dsimp only at h
         cases hg:(Nat.beq mm l&&Nat.beq mm hn) with
         | false=>rw[hg] at h;cases h
         | true=>
          rw[hg] at h
          simp only[cT,sJ] at h
          subst h
          simp only[aT] at hg
          obtain rfl:=nQ hg.1
          obtain rfl:=nQ hg.2
          have b3:=ZAK pre (x:=some m) (y:=some m') hmx (by simpa using hm)
          refine ZbL (s:=Instr.sliceAt t (a.eval x) (lo.map a.eval) (hi.map a.eval) ((some m).map a.eval)) (by unfold execOp;rw[hop]) (by
           rw[q1]
           refine ZIQ ht hsz b1 ?_ ?_ c1 (Nat.le_refl _) (by omega)
           ·rcases b2 with⟨b2,_⟩ | b2
            ·exfalso
             cases hi with
             | none=>rw[hhs] at hhi;cases hhi
             | some hi0=>cases b2
            ·exact b2
           ·rcases b3 with⟨b3,_⟩ | b3
            ·cases b3
            ·exact b3) (Post.stay pre.ok hp ?_)
          exact⟨_,by rw[sub_self]⟩
end
end
section
section
variable {P:Program} {G:Zbq} {R:RP} {w:World} {e:Env} {a:Act} {Hm H':Zm} {nid:Nat} {o:Oper}
theorem ZFd:∀(vs:List V) (us:List Value) (k:IntKind) (n:Int) (r:D),ZaT R w vs us->mxE.go true k n vs=some r->∃u,(us.foldlM Builtin.max2 (.int k n)).run P w = .ok u w/\R.den w r u
 | [],us,k,n,r,hd,h=>by
  simp only[mxE.go,sJ] at h
  simp only[ZaT] at hd
  subst h;subst hd
  exact⟨.int k n,rfl,rfl⟩
 | v :: vs,us,k,n,r,hd,h=>by
  obtain⟨u,us',rfl,h1,h2⟩:=hd
  cases v<;>try (cases h;done)
  rename_i x
  cases x<;>try (cases h;done)
  rename_i k' m
  simp only[mxE.go,cT] at h
  obtain⟨u,h3,h4⟩:=ZFd vs us' k _ r h2 h
  refine⟨u,?_,h4⟩
  cases h1
  rw[List.foldlM_cons,Sem.run_bind,<- h3]
  by_cases hlt:n<m
  ·simp[Builtin.max2,hlt]
  ·simp[Builtin.max2,hlt]
theorem ZET:∀(vs:List V) (us:List Value) (k:IntKind) (n:Int) (r:D),ZaT R w vs us->mxE.go false k n vs=some r->∃u,(us.foldlM Builtin.min2 (.int k n)).run P w = .ok u w/\R.den w r u
 | [],us,k,n,r,hd,h=>by
  simp only[mxE.go,sJ] at h
  simp only[ZaT] at hd
  subst h;subst hd
  exact⟨.int k n,rfl,rfl⟩
 | v :: vs,us,k,n,r,hd,h=>by
  obtain⟨u,us',rfl,h1,h2⟩:=hd
  cases v<;>try (cases h;done)
  rename_i x
  cases x<;>try (cases h;done)
  rename_i k' m
  simp only[mxE.go,cF] at h
  obtain⟨u,h3,h4⟩:=ZET vs us' k _ r h2 h
  refine⟨u,?_,h4⟩
  cases h1
  rw[List.foldlM_cons,Sem.run_bind,<- h3]
  by_cases hlt:m<n
  ·simp[Builtin.min2,hlt]
  ·simp[Builtin.min2,hlt]
theorem ZM8 (pre:Pre G R w e a Hm) {b:Bool}{ats:Array TypeId}{xs:Array Operand}{ys:List Opd}{r:D} (hop:o.op = .call { callee:=.builtin (bif b then .max else .min),args:=xs,argTypes:=ats }) (hx:Zfl G xs.toList ys=true)
  (h:mxE b (ZgU e ys)=some r) (hp:Z8 R.H [] nid [] H'):Zc9 P o a w (Post R w nid 0 H' (.d r)):=by
 have hv:=pre.opds hx
 have hl:(xs.map a.eval).toList=xs.toList.map a.eval:=by simp
 cases hvs:ZgU e ys with
 | nil=>rw[hvs] at h;cases h
 | cons v vs=>
  rw[hvs] at h hv
  obtain⟨u,us,hus,h1,h2⟩:=hv
  cases v<;>try (cases h;done)
  rename_i x
  cases x<;>try (cases h;done)
  rename_i k n
  cases h1
  simp only[mxE] at h
  cases b with
  | true=>
   obtain⟨u,h3,h4⟩:=ZFd (P:=P) vs us k n r h2 h
   refine ZbL (s:=Builtin.max_ ats o.type (xs.map a.eval)) (u:=u) (by rw[ZhP hop];rfl) ?_ (Post.stay pre.ok hp h4)
   rw[Builtin.max_,hl,hus];exact h3
  | false=>
   obtain⟨u,h3,h4⟩:=ZET (P:=P) vs us k n r h2 h
   refine ZbL (s:=Builtin.min_ ats o.type (xs.map a.eval)) (u:=u) (by rw[ZhP hop];rfl) ?_ (Post.stay pre.ok hp h4)
   rw[Builtin.min_,hl,hus];exact h3
theorem ZIv (pre:Pre G R w e a Hm) {x:Operand}{y:Opd}{v:V} (hop:o.op = .nilCheck x) (hx:ZS G x y=true) (h:ZBr Hm (y.val e)=some v) (hp:Z8 R.H [] nid [] H'):Zc9 P o a w (Post R w nid 0 H' v):=by
 have hv:=pre.opd hx
 have ptr:∀(ad:Addr) v,a.eval x = .pointer (some ad)->Za6 R w v (a.eval x)->Zc9 P o a w (Post R w nid 0 H' v):=fun ad v h1 h2=>
  .val (u:=a.eval x) (w':=w) (by unfold execOp;rw[hop];simp[h1]) (Post.stay pre.ok hp h2)
 unfold ZBr at h
 split at h
 ·rename_i f caps hy
  cases hb:Nat.beq f 2000000 with
  | true=>rw[hb] at h;cases h
  | false=>
  rw[hb] at h
  simp only[cF,sJ] at h
  subst h
  rw[hy] at hv
  have hv':=hv
  obtain⟨us,h1,_⟩:=hv'
  exact .val (u:=a.eval x) (w':=w) (by unfold execOp;rw[hop];simp only[h1];unfold Zm7;rw[hb];cases isU _<;>simp) (Post.stay pre.ok hp hv)
 ·rename_i f caps hy
  cases hb:Nat.beq f 2000000 with
  | true=>rw[hb] at h;cases h
  | false=>
  rw[hb] at h
  simp only[cF,sJ] at h
  subst h
  rw[hy] at hv
  have hv':=hv
  obtain⟨us,h1,_⟩:=hv'
  exact .val (u:=a.eval x) (w':=w) (by unfold execOp;rw[hop];simp only[h1];unfold Zm7;rw[hb];cases isU _<;>simp) (Post.stay pre.ok hp hv)
 ·rename_i t z hy
  simp only[sJ] at h
  subst h
  rw[hy] at hv
  have hv':=hv
  obtain⟨u',h1,_⟩:=hv'
  exact .val (u:=a.eval x) (w':=w) (by unfold execOp;rw[hop];simp[h1]) (Post.stay pre.ok hp hv)
 ·rename_i cs hy
  simp only[sJ] at h
  subst h
  rw[hy] at hv
  have hv':=hv
  obtain⟨b,off,h1,_⟩:=hv'
  exact ptr _ _ h1 hv
 ·rename_i b off hy
  simp only[sJ] at h
  subst h
  rw[hy] at hv
  have hv':=hv
  obtain⟨c,_,h1⟩:=hv'
  exact ptr _ _ h1 hv
 ·rename_i b sz i k hy
  simp only[sJ] at h
  subst h
  rw[hy] at hv
  have hv':=hv
  obtain⟨c,_,h1⟩:=hv'
  exact ptr _ _ h1 hv
 ·cases h
structure Zk7 (R R':RP) (ks:List Nat):Prop where
 m:R'.M=R.M
 b1:R'.B1=R.B1
 live:∀i,Zad R'.H i=true->Zad R.H i=true
 dead:∀k∈ks,Zad R'.H k=false
theorem Zk7.a1 {R R':RP}{ks:List Nat} (h:Zk7 R R' ks):∀b,R.A1 b->R'.A1 b:=fun b ⟨h1,h2⟩=>
 ⟨fun⟨i,l1,l2⟩=>h1 ⟨i,h.live i l1,by rw[<- h.m];exact l2⟩,by rw[h.b1];exact h2⟩
theorem Zk7.own {R R':RP}{ks:List Nat} (h:Zk7 R R' ks) (ok:R.OK w) {b c:Nat} (hb:Zad R.H b=true) (hk:b∈ks) (hm:R.M b=some (some c)):R'.A1 c:=
 ⟨fun⟨i,l1,l2⟩=>by
  rw[h.m] at l2
  have:=ok.inj i b c (h.live i l1) hb l2 hm
  subst this
  rw[h.dead i hk] at l1
  exact Bool.noConfusion l1,by rw[h.b1];exact ok.nb b c hb hm⟩
theorem Zy3 {H:Zm}{b sz:Nat}{xs:List D} (h:nth H b=some (.arr sz xs)):Zad H b=true:=by
 unfold Zad;rw[h]
theorem Zuu (ok:R.OK w) {c sz:Nat}{xs:List D}{A1' A0' AL':Nat->Prop} (h1:∀b,R.A1 b->A1' b) {l n:Nat} (hb:Zi1 R w (some c) (.arr sz xs)) (hne:(xs.drop l).take n≠[]) :
  Zhv A1' A0' AL' w c sz (l*sz) ((xs.drop l).take n):=by
 obtain⟨_,he,hb⟩:=hb
 rcases hb with⟨hb,_⟩ | ⟨c',cs,el,e1,e2,e3,e4⟩
 ·cases hb
 ·cases e1
  refine Zm6 _ _ fun j x hj=>?_
  rw[List.getElem?_take] at hj
  by_cases hjn:j<n
  ·rw[if_pos hjn,List.getElem?_drop] at hj
   obtain⟨u,f1,f2,f3⟩:=e4 (l+j) x hj
   refine⟨u,Zbu.lift h1 x u (he x (mG hj)) f1,f2,fun k v hk=>?_⟩
   rw[ZcY e2,<- f3 k v hk,add_mul]
  ·rw[if_neg hjn] at hj;cases hj
mutual
theorem Zpq (n:Nat):∀(v:V) (y:D) (ks:List Nat),(pre:Pre G R w e a Hm)->fr Hm n v=some (y,ks)->∀{R':RP}{ks':List Nat},Zk7 R R' ks'->(∀k∈ks,k∈ks')->∀u,Za6 R w v u->(y.esc=true∨∃ts,y = .tup ts)/\∀A0' AL',Zbu R'.A1 A0' AL' w y u:=by
 intro v y ks pre h R' ks' hL hks u hu
 cases n with
 | zero=>cases h
 | succ n=>
  simp only[fr] at h
  cases v<;>try (cases h;done)
  ·rename_i x
   dsimp only at h
   split at h
   ·rename_i ts
    cases he:ZBF ts with
    | false=>rw[he] at h;cases h
    | true=>
     rw[he] at h
     simp only[cT,sJ,pJ] at h
     obtain⟨rfl,_⟩:=h
     obtain⟨us,rfl,hu⟩:=hu
     exact⟨.inr ⟨ts,rfl⟩,fun A0' AL'=>⟨us,rfl,Za7.liftT hL.a1 ts us he hu⟩⟩
   ·cases he:x.esc with
    | false=>rw[he] at h;cases h
    | true=>
     rw[he] at h
     simp only[cT,sJ,pJ] at h
     obtain⟨rfl,_⟩:=h
     exact⟨.inl he,fun A0' AL'=>Zbu.lift hL.a1 x u he hu⟩
  ·rename_i b sz
   dsimp only at h
   cases hb:nth Hm b with
   | none=>rw[hb] at h;cases h
   | some blk=>
    rw[hb] at h
    cases blk<;>try (cases h;done)
    rename_i sz' xs
    dsimp only at h
    cases hs:Nat.beq sz sz' with
    | false=>rw[hs] at h;cases h
    | true=>
     rw[hs] at h
     obtain rfl:=nQ hs
     simp only[cT,sJ,pJ] at h
     obtain⟨rfl,rfl⟩:=h
     refine⟨.inl rfl,fun A0' AL'=>?_⟩
     obtain⟨m,q1,q2,q3,q4⟩:=Zqy pre hb hu
     have q5:=q4
     obtain⟨_,ad,cap,rfl,q6,q7⟩:=q5
     refine⟨_,_,_,rfl,rfl,q6,q3.2.1,fun hne=>?_⟩
     obtain⟨c,cs,el,fr',cap',rfl,e1,e2,e3,e4⟩:=Zhb q4 (.inl (List.length_pos_iff.2 hne))
     cases e1
     refine⟨c,0*sz,sz,rfl,hL.own pre.ok (Zy3 q2) (hks _ (by simp)) q1,pre.ok.lt _ _ q1,?_⟩
     have:=Zuu pre.ok (A0':=A0') (AL':=AL') hL.a1 (l:=0) (n:=xs.length) q3 (by simpa using hne)
     simpa using this
  ·rename_i b sz of len
   dsimp only at h
   cases hb:nth Hm b with
   | none=>rw[hb] at h;cases h
   | some blk=>
    rw[hb] at h
    cases blk<;>try (cases h;done)
    rename_i sz' xs
    dsimp only at h
    cases hs:Nat.beq sz sz' with
    | false=>rw[hs] at h;cases h
    | true=>
     rw[hs] at h
     obtain rfl:=nQ hs
     simp only[cT,sJ,pJ] at h
     obtain⟨rfl,rfl⟩:=h
     refine⟨.inl rfl,fun A0' AL'=>?_⟩
     obtain⟨m,q1,q2,q3,q4⟩:=ZnY pre hb hu
     have q5:=q4
     obtain⟨q8,ad,cap,rfl,q6,q7⟩:=q5
     have hlen:((xs.drop of).take len).length=len:=by simp only[length_take,length_drop];omega
     refine⟨_,_,_,rfl,hlen.symm,q6,fun x hx=>q3.2.1 x (List.mem_of_mem_drop (List.mem_of_mem_take hx)),fun hne=>?_⟩
     obtain⟨c,cs,el,fr',cap',rfl,e1,e2,e3,e4⟩:=Zhb q4 (.inl (by rw[<- hlen];exact List.length_pos_iff.2 hne))
     cases e1
     exact⟨c,of*sz,sz,rfl,hL.own pre.ok (Zy3 q2) (hks _ (by simp)) q1,pre.ok.lt _ _ q1,Zuu pre.ok hL.a1 q3 hne⟩
  ·simp only[sJ,pJ] at h
   obtain⟨rfl,rfl⟩:=h
   obtain⟨ad,rfl⟩:=hu
   exact⟨.inl rfl,fun A0' AL'=>⟨_,_,_,rfl,rfl,Nat.le_refl _,by simp,by simp⟩⟩
  ·rename_i cs
   dsimp only at h
   cases hl:frl (fr Hm n) cs with
   | none=>rw[hl] at h;cases h
   | some p=>
    obtain⟨l,ks1⟩:=p
    rw[hl] at h
    dsimp only at h
    cases he:D.escs l with
    | false=>rw[he] at h;cases h
    | true=>
     rw[he] at h
     simp only[cT,sJ,pJ] at h
     obtain⟨rfl,rfl⟩:=h
     obtain⟨us,rfl,h1⟩:=hu
     have g2:=Zyj n cs l ks1 pre hl hL hks us h1
     exact⟨.inl he,fun A0' AL'=>⟨us,rfl,g2 A0' AL'⟩⟩
  ·rename_i cs
   dsimp only at h
   cases hl:frl (fr Hm n) cs with
   | none=>rw[hl] at h;cases h
   | some p=>
    obtain⟨l,ks1⟩:=p
    rw[hl] at h
    simp only[sJ,pJ] at h
    obtain⟨rfl,rfl⟩:=h
    obtain⟨us,rfl,h1⟩:=hu
    have g2:=Zyj n cs l ks1 pre hl hL hks us h1
    exact⟨.inr ⟨_,rfl⟩,fun A0' AL'=>⟨us,rfl,g2 A0' AL'⟩⟩
termination_by (n,0)
theorem Zyj (n:Nat):∀(vs:List V) (ys:List D) (ks:List Nat),(pre:Pre G R w e a Hm)->frl (fr Hm n) vs=some (ys,ks)->∀{R':RP}{ks':List Nat},Zk7 R R' ks'->(∀k∈ks,k∈ks')->∀us,ZaT R w vs us->∀A0' AL',Za7 R'.A1 A0' AL' w ys us
 | [],ys,ks,pre,h,R',ks',hL,hks,us,hu=>by
  simp only[frl,sJ,pJ] at h
  obtain⟨rfl,rfl⟩:=h
  exact fun _ _=>hu
 | v :: vs,ys,ks,pre,h,R',ks',hL,hks,us,hu=>by
  simp only[frl] at h
  cases h1:fr Hm n v with
  | none=>rw[h1] at h;cases h
  | some p=>
   obtain⟨y,k1⟩:=p
   cases h2:frl (fr Hm n) vs with
   | none=>rw[h1,h2] at h;cases h
   | some q=>
    obtain⟨ys',k2⟩:=q
    rw[h1,h2] at h
    simp only[sJ,pJ] at h
    obtain⟨rfl,rfl⟩:=h
    obtain⟨u,us',rfl,e1,e2⟩:=hu
    obtain⟨g1,g2⟩:=Zpq n v y k1 pre h1 hL (fun k hk=>hks k (by simp[hk])) u e1
    have g4:=Zyj n vs ys' k2 pre h2 hL (fun k hk=>hks k (by simp[hk])) us' e2
    exact fun A0' AL'=>⟨u,us',rfl,g2 A0' AL',g4 A0' AL'⟩
termination_by vs=>(n,vs.length+1)
end
theorem Zk7.refl (R:RP):Zk7 R R []:=⟨rfl,rfl,fun _ h=>h,by simp⟩
theorem ZLz (pre:Pre G R w e a Hm) {t:TypeId}{x:Operand}{y:Opd}{z:D} (hop:o.op = .makeInterface t x) (hx:ZS G x y=true) (ht:P.concrete t=true)
  (h:fr Hm 6 (y.val e)=some (z,[])) (hp:Z8 R.H [] nid [] H'):Zc9 P o a w (Post R w nid 0 H' (.d (.iface t z))):=by
 have hv:=pre.opd hx
 obtain⟨_,g⟩:=Zpq 6 _ z [] pre h (Zk7.refl R) (fun _ h=>h) _ hv
 exact ZbL (s:=Instr.makeInterface t (a.eval x)) (by unfold execOp;rw[hop]) (run_makeInterface w t _ ht) (Post.stay pre.ok hp ⟨_,rfl,g _ _⟩)
end
end
end Go.Proofs.YtmnglncebfabpaaGreatDoorE
