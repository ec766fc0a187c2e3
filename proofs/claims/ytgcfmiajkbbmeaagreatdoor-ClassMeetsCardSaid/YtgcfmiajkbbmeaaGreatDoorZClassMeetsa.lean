/- ClassMeets: part 1 of 6 of the proof. -/
import Derived.Calls
import Derived.Orders
import Derived.Test.YtgcfmiajkbbmeaaGreatDoorProg
import Derived.Below
import Derived.WalkKit
import Derived.Laws.MakeOwn
import Derived.ChangeKeysEq
set_option maxRecDepth 100000
set_option maxHeartbeats 40000000
set_option linter.unusedVariables false
set_option linter.unusedSimpArgs false
namespace Go.Proofs.YtgcfmiajkbbmeaaGreatDoorE
open Go
open Go.IntKind (u64 i64 u32 i32 u8)
abbrev Zo (n:Int):BitVec u64.bits:=BitVec.ofInt u64.bits n
abbrev ZGZ (n:Int):BitVec i64.bits:=BitVec.ofInt i64.bits n
abbrev ZLA (n:Int):BitVec u32.bits:=BitVec.ofInt u32.bits n
abbrev ZLB (n:Int):BitVec i32.bits:=BitVec.ofInt i32.bits n
inductive D where
 | bool (b:Bool) | int (k:IntKind) (n:Int) | str (s:ByteArray)
 | list (own:Bool) (xs:List D) | agg (cs:List D) | tup (vs:List D)
 | fn (f:Nat) (caps:List D) | nilfn
 | rptr (cs:List D) | nilp
 | iface (t:Nat) (v:D) | nilI
inductive V where
 | d (x:D) | bad
 | ptr (b o:Nat) | eptr (b sz i k:Nat)
 | sl (b sz:Nat) | slp (b sz o len:Nat) | nilsl (sz:Nat)
 | agg (cs:List V) | tup (vs:List V)
 | fn (f:Nat) (caps:List V)
 | mp (b:Nat)
inductive Blk where
 | dead | cells (cs:List V) | arr (sz:Nat) (xs:List D)
 | mp (es:List (D×D))
abbrev Zk:=List Blk
abbrev Env:=Nat->V
def Env.set (e:Env) (i:Nat) (v:V):Env:=fun j=>bif Nat.beq i j then v else e j
def env0:Env:=fun _=>.bad
def Zeq:List Nat->List V->Env
 | i :: is,v :: vs=>(Zeq is vs).set i v
 | _,_=>env0
def D.isAgg:D->Bool
 | .agg _=>true
 | _=>false
mutual
def D.esc:D->Bool
 | .list own _=>own
 | .agg cs=>D.escs cs
 | .tup _=>false
 | .iface _ v=>v.esc
 | .fn _ caps=>caps.isEmpty
 | .rptr _=>false
 | _=>true
def D.escs:List D->Bool
 | []=>true
 | c :: cs=>c.esc&&(!c.isAgg&&D.escs cs)
end
def Zzh:List D->Bool
 | []=>true
 | c :: cs=>c.esc&&Zzh cs
mutual
def D.nofn:D->Bool
 | .fn _ caps=>caps.isEmpty
 | .agg cs=>D.nofns cs
 | .tup cs=>D.nofns cs
 | .rptr cs=>D.nofns cs
 | .iface _ v=>v.nofn
 | _=>true
def D.nofns:List D->Bool
 | []=>true
 | c :: cs=>c.nofn&&D.nofns cs
end
mutual
def Zud:V->Bool
 | .d (.tup ts)=>Zzh ts
 | .d x=>x.esc
 | .agg cs=>Zrp cs
 | .tup cs=>Zrp cs
 | .fn _ cs=>Zrp cs
 | _=>true
def Zrp:List V->Bool
 | []=>true
 | v :: vs=>Zud v&&Zrp vs
end
mutual
def Zoe:V->Bool
 | .d x=>x.nofn
 | .agg cs=>Znn cs
 | .tup cs=>Znn cs
 | .fn _ cs=>Znn cs
 | _=>true
def Znn:List V->Bool
 | []=>true
 | v :: vs=>Zoe v&&Znn vs
end
def Zoh:List Blk->Bool
 | []=>true
 | .cells cs :: r=>Zrp cs&&Zoh r
 | _ :: r=>Zoh r
def Zk6:List Blk->Bool
 | []=>true
 | .cells cs :: r=>Znn cs&&Zk6 r
 | _ :: r=>Zk6 r
def V.isAggV:V->Bool
 | .d (.agg _)=>true
 | .agg _=>true
 | _=>false
def V.isD:V->Bool
 | .d _=>true
 | _=>false
def D.cells:D->List D
 | .agg cs=>cs
 | x=>[x]
inductive Opd where
 | t (i:Nat) | c (v:V)
inductive O where
 | mov (x:Opd)
 | pick (c a b:Opd)
 | alloc (z:V)
 | box (x:Opd)
 | build (z:List V) (ps:List (Nat×Nat×Opd))
 | bslice (sz:Nat) (z:List D) (len:Nat) (ps:List (Nat×Opd))
 | load (n:Nat) (ag:Bool) (x:Opd)
 | store (n:Nat) (x v:Opd)
 | nilck (x:Opd)
 | bin (op:BinOp) (x y:Opd)
 | eqv (ks:List Bool) (neg:Bool) (x y:Opd)
 | un (op:UnOp) (x:Opd)
 | conv (k:IntKind) (x:Opd)
 | mkfn (f:Nat) (caps:List Opd)
 | mkslice (sz:Nat) (z:List D) (n c:Opd)
 | slice (sz:Nat) (x:Opd) (lo hi mx:Option Opd)
 | faddr (off:Nat) (x:Opd)
 | field (off n:Nat) (ag:Bool) (x:Opd)
 | iaddr (sz:Nat) (x i:Opd)
 | index (len sz:Nat) (ag:Bool) (x i:Opd)
 | indexS (x i:Opd)
 | iaddrA (len sz:Nat) (x i:Opd)
 | len (x:Opd)
 | append (sz:Nat) (x y:Opd)
 | appendD (sz:Nat) (x y:Opd)
 | mx (isMax:Bool) (xs:List Opd)
 | extract (x:Opd) (i:Nat)
 | mkif (t:Nat) (x:Opd)
 | call (f:Nat) (args:List Opd)
 | callv (x:Opd) (args:List Opd)
 | invoke (tab:List (Nat×Nat)) (x:Opd) (args:List Opd)
 | mkmap
 | mapset (ks:List Bool) (m k v:Opd)
 | mapget (ks:List Bool) (z:D) (m k:Opd)
 | panic
 | callk (f:Nat) (args:List Opd) (chk:List Opd)
 | nilq (x:Opd)
 | spec (id:Nat) (args:List Opd)
 | storek (n:Nat) (x v:Opd) (chk:List Opd)
 | sortI (x:Opd)
 | nilckm (tab:List (Nat×Nat)) (x:Opd)
structure Op1 where
 dst:Option Nat
 op:O
 guard:Option (Nat×Bool)
 mask:List Nat
 eff:Nat
inductive C where
 | skip | ret | exit (id:Nat)
 | seq (a b:C)
 | cond (x:Opd) (a b:C)
 | block (id:Nat) (a:C)
 | loop (live outs:List Nat) (a:C)
 | ops (l:List Op1)
 | draw (l:List Op1)
inductive Ex where
 | normal | exit (id:Nat) | ret
structure FnI where
 nargs:Nat
 body:C
 res:List (Nat×Option (Nat×Bool))
structure Ctx where
 code:Nat->Option FnI
 mode:Nat->Nat
abbrev oA (op:O):Op1:=⟨none,op,none,[],0⟩
abbrev oB (d:Nat) (op:O):Op1:=⟨some d,op,none,[],0⟩
abbrev oG (d:Nat) (op:O) (s:Nat) (b:Bool):Op1:=⟨some d,op,some (s,b),[],0⟩
abbrev oM (d:Nat) (op:O) (m:List Nat):Op1:=⟨some d,op,none,m,0⟩
abbrev iN (n:Int):Opd:=.c (.d (.int .i64 n))
abbrev bT:Opd:=.c (.d (.bool true))
abbrev bF:Opd:=.c (.d (.bool false))
def Opd.val (e:Env):Opd->V
 | .t i=>e i
 | .c v=>v
def Zgl (e:Env):List Opd->List V
 | []=>[]
 | x :: xs=>x.val e :: Zgl e xs
def ZmO:List V->Option (List D)
 | []=>some []
 | .d x :: r=>match ZmO r with | some l=>some (x :: l) | none=>none
 | _ :: _=>none
def Zxq (cs:List V):V:=match ZmO cs with | some l=>.d (.agg l) | none=>.agg cs
def Zw9 (cs:List V):V:=match ZmO cs with | some l=>.d (.tup l) | none=>.tup cs
def ZcD:List D->List V
 | []=>[]
 | x :: xs=>.d x :: ZcD xs
def V.cells:V->List V
 | .d (.agg cs)=>ZcD cs
 | .agg cs=>cs
 | v=>[v]
def nth {α:Type}:List α->Nat->Option α
 | [],_=>none
 | x :: _,0=>some x
 | _ :: xs,n+1=>nth xs n
def Ze1 {α:Type}:List α->Nat->α->List α
 | [],_,_=>[]
 | _ :: xs,0,v=>v :: xs
 | x :: xs,n+1,v=>x :: Ze1 xs n v
def Zah {α:Type}:List α->Nat->List α->List α
 | cs,_,[]=>cs
 | cs,o,v :: vs=>Zah (Ze1 cs o v) (o+1) vs
def fzl (f:V->Option D):List V->Option (List D)
 | []=>some []
 | v :: vs=>match f v,fzl f vs with | some x,some l=>some (x :: l) | _,_=>none
def fz (H:Zk):Nat->V->Option D
 | 0,_=>none
 | n+1,v=>match v with
  | .d x=>some x
  | .sl b sz=>match nth H b with
   | some (.arr sz' xs)=>bif Nat.beq sz sz' then some (.list false xs) else none
   | _=>none
  | .slp b sz o len=>match nth H b with
   | some (.arr sz' xs)=>bif Nat.beq sz sz' then some (.list false ((xs.drop o).take len)) else none
   | _=>none
  | .nilsl _=>some (.list true [])
  | .agg cs=>match fzl (fz H n) cs with | some l=>some (.agg l) | none=>none
  | .fn f caps=>match fzl (fz H n) caps with | some l=>some (.fn f l) | none=>none
  | .ptr b o=>match nth H b with
   | some (.cells cs)=>match fzl (fz H n) (cs.drop o) with | some l=>some (.rptr l) | none=>none
   | _=>none
  | _=>none
def fzs (H:Zk) (l:List V):Option (List D):=fzl (fz H 6) l
def frl (f:V->Option (D×List Nat)):List V->Option (List D×List Nat)
 | []=>some ([],[])
 | v :: vs=>match f v,frl f vs with | some (x,k),some (l,ks)=>some (x :: l,k++ks) | _,_=>none
def fr (H:Zk):Nat->V->Option (D×List Nat)
 | 0,_=>none
 | n+1,v=>match v with
  | .d x=>match x with
   | .tup ts=>bif Zzh ts then some (.tup ts,[]) else none
   | x=>bif x.esc then some (x,[]) else none
  | .sl b sz=>match nth H b with
   | some (.arr sz' xs)=>bif Nat.beq sz sz' then some (.list true xs,[b]) else none
   | _=>none
  | .slp b sz o len=>match nth H b with
   | some (.arr sz' xs)=>bif Nat.beq sz sz' then some (.list true ((xs.drop o).take len),[b]) else none
   | _=>none
  | .nilsl _=>some (.list true [],[])
  | .agg cs=>match frl (fr H n) cs with | some (l,ks)=>bif D.escs l then some (.agg l,ks) else none | none=>none
  | .tup cs=>match frl (fr H n) cs with | some (l,ks)=>some (.tup l,ks) | none=>none
  | _=>none
def idx:List Nat->Nat->Nat->Option Nat
 | [],_,_=>none
 | a :: l,b,i=>bif Nat.beq a b then some i else idx l b (i+1)
mutual
def ZpE (ρ:Nat->Option Nat):V->V
 | .d x=>.d x
 | .bad=>.bad
 | .ptr b o=>match ρ b with | some j=>.ptr j o | none=>.bad
 | .eptr b sz i k=>match ρ b with | some j=>.eptr j sz i k | none=>.bad
 | .sl b sz=>match ρ b with | some j=>.sl j sz | none=>.bad
 | .slp b sz o len=>match ρ b with | some j=>.slp j sz o len | none=>.bad
 | .nilsl sz=>.nilsl sz
 | .agg cs=>.agg (ZjL ρ cs)
 | .tup cs=>.tup (ZjL ρ cs)
 | .fn f caps=>.fn f (ZjL ρ caps)
 | .mp b=>match ρ b with | some j=>.mp j | none=>.bad
def ZjL (ρ:Nat->Option Nat):List V->List V
 | []=>[]
 | v :: vs=>ZpE ρ v :: ZjL ρ vs
end
def Zjk (ρ:Nat->Option Nat):Blk->Blk
 | .cells cs=>.cells (ZjL ρ cs)
 | b=>b
mutual
def ZKB:V->List Nat
 | .ptr b _=>[b]
 | .eptr b _ _ _=>[b]
 | .sl b _=>[b]
 | .slp b _ _ _=>[b]
 | .mp b=>[b]
 | .agg cs=>ZjF cs
 | .tup cs=>ZjF cs
 | .fn _ caps=>ZjF caps
 | _=>[]
def ZjF:List V->List Nat
 | []=>[]
 | v :: vs=>ZKB v++ZjF vs
end
def ZAm (H:Zk) (b:Nat):List Nat:=match nth H b with | some (.cells cs)=>ZjF cs | _=>[]
def Z7 (H:Zk) (b:Nat):Bool:=match nth H b with | some .dead=>false | some _=>true | none=>false
def Zjd (l:List Nat) (b:Nat):Bool:=match l with | []=>false | a :: l=>bif Nat.beq a b then true else Zjd l b
def ZhC (H:Zk):List Nat->List Nat->List Nat
 | l,[]=>l
 | l,b :: bs=>bif Zjd l b || !(Z7 H b) then ZhC H l bs else ZhC H (l++[b]) bs
def Znp (H:Zk):Nat->Nat->List Nat->List Nat
 | 0,_,l=>l
 | n+1,i,l=>match nth l i with
  | some b=>Znp H n (i+1) (ZhC H l (ZAm H b))
  | none=>l
def Zpn:Nat->List Nat
 | 0=>[]
 | n+1=>Zpn n++[n]
def ZpH (H:Zk) (k:Nat) (vs:List V):List Nat:=
 Znp H (H.length+1) 0 (ZhC H (Zpn k) (ZjF vs))
def Zpb:List Nat->Bool
 | []=>true
 | a :: l=>!(Zjd l a)&&Zpb l
def pick (H:Zk) (ρ:Nat->Option Nat):List Nat->Zk
 | []=>[]
 | b :: bs=>(match nth H b with | some blk=>Zjk ρ blk | none=>.dead) :: pick H ρ bs
def Zt9 (n:Nat):List Nat->Bool
 | []=>true
 | a :: l=>Nat.blt a n&&Zt9 n l
def extract (k:Nat) (vs:List V) (H:Zk):Option (List Nat×List V×Zk):=
 let L:=ZpH H k vs
 bif Zpb L&&Zt9 H.length L then some (L,ZjL (fun b=>idx L b 0) vs,pick H (fun b=>idx L b 0) L) else none
def Zb5:Nat->List V->List V×List Blk
 | _,[]=>([],[])
 | n,.nilsl sz :: vs=>bif Nat.blt 0 sz then (let r:=Zb5 (n+1) vs;(.sl n sz :: r.1,.arr sz [] :: r.2)) else (let r:=Zb5 n vs;(.nilsl sz :: r.1,r.2))
 | n,v :: vs=>let r:=Zb5 n vs;(v :: r.1,r.2)
def ZcC:Nat->Zk->Zk×List Blk
 | _,[]=>([],[])
 | n,.cells cs :: H=>let r:=Zb5 n cs;let q:=ZcC (n+r.2.length) H;(.cells r.1 :: q.1,r.2++q.2)
 | n,b :: H=>let q:=ZcC n H;(b :: q.1,q.2)
def ZrH (k:Nat) (vs:List V) (H:Zk):Option (List V×Zk):=
 match extract k vs H with
 | none=>none
 | some (_,vs1,H1)=>
  let r:=Zb5 H1.length vs1
  let q:=ZcC (H1.length+r.2.length) H1
  match extract k r.1 (q.1++(r.2++q.2)) with
  | none=>none
  | some (_,vs2,H2)=>some (vs2,H2)
mutual
def eqD:D->D->Option Bool
 | .bool a,.bool b=>some (a==b)
 | .int k a,.int k' b=>bif k==k' then some (a==b) else none
 | .agg xs,.agg ys=>ZmV xs ys
 | _,_=>none
def ZmV:List D->List D->Option Bool
 | [],[]=>some true
 | x :: xs,y :: ys=>match eqD x y,ZmV xs ys with | some a,some b=>some (a&&b) | _,_=>none
 | _,_=>none
end
def Zdz:List Bool->List D->Bool
 | [],[]=>true
 | true :: ks,.bool _ :: cs=>Zdz ks cs
 | false :: ks,.int _ _ :: cs=>Zdz ks cs
 | _,_=>false
def Zcw (ks:List Bool):D->Bool
 | .agg cs=>(match ks with | [_]=>false | ks=>Zdz ks cs)
 | x=>(match ks with | [_]=>Zdz ks [x] | _=>false)
def lim:Nat:=1073741824
def Zy {α:Type} (xs:List α) (i:Int):Option α:=bif decide (0<=i) then nth xs i.toNat else none
abbrev Res:=Option (V×List (Nat×Blk)×List Blk)
def Zcu (v:V):Res:=some (v,[],[])
def ZGg (op:BinOp) (k:IntKind) (a b:Int):Option D:=
 match op with
 | .add=>some (.int k (k.wrap (a+b)))
 | .sub=>some (.int k (k.wrap (a-b)))
 | .mul=>some (.int k (k.wrap (a*b)))
 | .quo=>bif b==0 then none else some (.int k (k.wrap (a.tdiv b)))
 | .rem=>bif b==0 then none else some (.int k (a.tmod b))
 | .and=>some (.int k (k.wrap (BitVec.ofInt k.bits a &&& BitVec.ofInt k.bits b).toNat))
 | .or=>some (.int k (k.wrap (BitVec.ofInt k.bits a ||| BitVec.ofInt k.bits b).toNat))
 | .xor=>some (.int k (k.wrap (BitVec.ofInt k.bits a ^^^ BitVec.ofInt k.bits b).toNat))
 | .eql=>some (.bool (a==b))
 | .neq=>some (.bool (a != b))
 | .lss=>some (.bool (decide (a<b)))
 | .leq=>some (.bool (decide (a<=b)))
 | .gtr=>some (.bool (decide (b<a)))
 | .geq=>some (.bool (decide (b<=a)))
 | _=>none
def shI (op:BinOp) (k:IntKind) (a b:Int):Option D:=
 bif decide (b<0) then none else
 match op with
 | .shl=>some (.int k (k.wrap (a*2 ^ (min b.toNat k.bits))))
 | .shr=>some (.int k (a.fdiv (2 ^ (min b.toNat k.bits))))
 | _=>none
def Zo3 (op:BinOp) (x y:V):Option D:=
 match op,x,y with
 | .shl,.d (.int k a),.d (.int _ b)=>shI .shl k a b
 | .shr,.d (.int k a),.d (.int _ b)=>shI .shr k a b
 | op,.d (.int k a),.d (.int k' b)=>bif k==k' then ZGg op k a b else none
 | _,_,_=>none
def unE (op:UnOp) (x:V):Option D:=
 match op,x with
 | .not,.d (.bool b)=>some (.bool !b)
 | .neg,.d (.int k n)=>some (.int k (k.wrap (0-n)))
 | _,_=>none
def V.okb:V->Bool
 | .bad=>false
 | .tup _=>false
 | .d (.tup _)=>false
 | _=>true
def V.flat:V->Bool
 | .bad=>false
 | .tup _=>false
 | .agg _=>false
 | .d (.tup _)=>false
 | .d (.agg _)=>false
 | _=>true
def ZvF:List V->Bool
 | []=>true
 | v :: vs=>v.flat&&ZvF vs
def Zf9 (n:Nat) (ag:Bool) (cs:List V):Option V:=
 bif ag then (bif Nat.beq (cs.take n).length n then some (Zxq (cs.take n)) else none) else cs.head?
def Zdp (H:Zk) (n:Nat) (ag:Bool) (x:V):Option V:=
 match x with
 | .ptr b o=>match nth H b with
  | some (.cells cs)=>Zf9 n ag (cs.drop o)
  | _=>none
 | .eptr b sz i k=>match nth H b with
  | some (.arr sz' xs)=>bif Nat.beq sz sz' then
    match nth xs i with
    | some x=>Zf9 n ag (ZcD (x.cells.drop k))
    | none=>none
   else none
  | _=>none
 | .d (.rptr cs)=>Zf9 n ag (ZcD cs)
 | _=>none
def Zml (H:Zk) (n:Nat) (x v:V):Res:=
 match x with
 | .ptr b o=>match nth H b with
  | some (.cells cs)=>bif Nat.beq v.cells.length n&&Nat.ble (o+n) cs.length&&v.okb&&ZvF v.cells then some (.bad,[(b,.cells (Zah cs o v.cells))],[]) else none
  | _=>none
 | .eptr b sz i k=>match nth H b with
  | some (.arr sz' xs)=>bif Nat.beq sz sz' then
    match nth xs i,fr H 6 v with
    | some x,some (y,ks)=>
     bif Zjd ks b then none else
     bif Nat.beq y.cells.length n&&Nat.ble (k+n) x.cells.length&&(V.d y).okb&&(x.isAgg || !y.isAgg) then
      some (.bad,(b,.arr sz (Ze1 xs i (bif x.isAgg then .agg (Zah x.cells k y.cells) else y))) :: ks.map (fun j=>(j,.dead)),[])
     else none
    | _,_=>none
   else none
  | _=>none
 | _=>none
def elems (H:Zk) (x:V):Option (List D):=
 match x with
 | .d (.list _ xs)=>some xs
 | .sl b sz=>match nth H b with | some (.arr sz' xs)=>bif Nat.beq sz sz' then some xs else none | _=>none
 | .slp b sz o len=>match nth H b with | some (.arr sz' xs)=>bif Nat.beq sz sz' then some ((xs.drop o).take len) else none | _=>none
 | .nilsl _=>some []
 | _=>none
def Zk2 (sz:Nat) (xs:List D) (l:Nat):Bool:=match nth xs l with | some z=>Nat.beq z.cells.length sz&&(V.d z).okb | none=>true
def ZiB (nid:Nat) (H:Zk) (sz:Nat) (x y:V):Res:=
 match elems H y with
 | none=>none
 | some ys=>
  bif Zk2 sz ys 0 then
   match x with
   | .nilsl _=>bif Nat.ble ys.length lim then some (.sl nid sz,[],[.arr sz ys]) else none
   | .sl b sz'=>match nth H b with
    | some (.arr sz'' xs)=>bif Nat.beq sz sz'&&Nat.beq sz sz'' then
      (bif Nat.ble (xs.length+ys.length) lim then some (.sl nid sz,[(b,.dead)],[.arr sz (xs++ys)]) else none)
     else none
    | _=>none
   | .slp b sz' o len=>match nth H b with
    | some (.arr sz'' xs)=>bif Nat.beq sz sz'&&Nat.beq sz sz''&&Nat.ble (o+len+ys.length) xs.length then
      some (.slp b sz o (len+ys.length),[(b,.arr sz (xs.take (o+len)++(ys++xs.drop (o+len+ys.length))))],[])
     else none
    | _=>none
   | _=>none
  else none
def Zj8 (H:Zk) (sz:Nat) (x y:V):Option V:=
 match x with
 | .nilsl _=>(match elems H y with
  | some ys=>bif Zk2 sz ys 0&&Nat.ble ys.length lim then some (.d (.list true ys)) else none
  | none=>none)
 | _=>none
def Zi8 (v:Option V) (dflt:Nat):Option Nat:=
 match v with
 | none=>some dflt
 | some (.d (.int _ n))=>bif decide (0<=n) then some n.toNat else none
 | _=>none
def Zj6 (H:Zk) (sz:Nat) (x:V) (lo hi mx:Option V):Option V:=
 match elems H x with
 | none=>none
 | some xs=>
  match Zi8 lo 0,Zi8 hi xs.length with
  | some l,some h=>
   bif Nat.ble l h&&Nat.ble h xs.length then
    match mx with
    | none=>match x with
     | .d (.list own _)=>bif Nat.beq l 0 || Zk2 sz xs l then some (.d (.list own ((xs.drop l).take (h-l)))) else none
     | .sl b sz'=>bif Nat.beq sz sz' then some (.slp b sz l (h-l)) else none
     | .slp b sz' o _=>bif Nat.beq sz sz' then some (.slp b sz (o+l) (h-l)) else none
     | .nilsl _=>some (.nilsl sz)
     | _=>none
    | some m=>match Zi8 (some m) 0 with
     | some m=>bif Nat.beq m l&&Nat.beq m h then some (.nilsl sz) else none
     | none=>none
   else none
  | _,_=>none
def ZjE (H:Zk) (sz:Nat) (x i:V):Option V:=
 match i with
 | .d (.int _ i)=>
  match x with
  | .d (.list _ xs)=>match Zy xs i with | some x=>bif Nat.beq x.cells.length sz&&(V.d x).okb then some (.d (.rptr x.cells)) else none | none=>none
  | .sl b sz'=>match nth H b with
   | some (.arr sz'' xs)=>bif Nat.beq sz sz'&&Nat.beq sz sz'' then (match Zy xs i with | some _=>some (.eptr b sz i.toNat 0) | none=>none) else none
   | _=>none
  | .slp b sz' o len=>match nth H b with
   | some (.arr sz'' xs)=>bif Nat.beq sz sz'&&Nat.beq sz sz'' then (match Zy ((xs.drop o).take len) i with | some _=>some (.eptr b sz (o+i.toNat) 0) | none=>none) else none
   | _=>none
  | _=>none
 | _=>none
def Zo9 (len sz:Nat) (ag:Bool) (x i:V):Option V:=
 match i with
 | .d (.int _ i)=>bif x.isAggV&&(decide (0<=i)&&decide (i<len)) then Zf9 sz ag (x.cells.drop (i.toNat*sz)) else none
 | _=>none
def Zmm (x i:V):Option V:=
 match x,i with
 | .d (.str s),.d (.int _ i)=>bif decide (0<=i) then (match s[i.toNat]? with | some b=>some (.d (.int .u8 b.toNat)) | none=>none) else none
 | _,_=>none
def Zmi (_:Zk) (off:Nat) (x:V):Option V:=
 match x with
 | .ptr b o=>some (.ptr b (o+off))
 | .eptr b sz i k=>some (.eptr b sz i (k+off))
 | .d (.rptr cs)=>some (.d (.rptr (cs.drop off)))
 | _=>none
def Zy1 (_:Zk) (x:V):Option V:=
 match x with
 | .d (.fn f caps)=>bif Nat.beq f 2000000 then none else some (.d (.fn f caps))
 | .fn f caps=>bif Nat.beq f 2000000 then none else some (.fn f caps)
 | .d (.iface t v)=>some (.d (.iface t v))
 | .d (.rptr cs)=>some (.d (.rptr cs))
 | .ptr b o=>some (.ptr b o)
 | .eptr b sz i k=>some (.eptr b sz i k)
 | _=>none
def ZhU (H:Zk) (len sz:Nat) (x i:V):Option V:=
 match i with
 | .d (.int _ i)=>bif decide (0<=i)&&decide (i<len) then Zmi H (i.toNat*sz) x else none
 | _=>none
def Zwb (H:Zk) (x:V):Option D:=
 match elems H x with | some xs=>some (.int .i64 xs.length) | none=>none
def mxE (isMax:Bool):List V->Option D
 | []=>none
 | .d (.int k a) :: r=>go k a r
 | _=>none
where
 go (k:IntKind) (a:Int):List V->Option D
  | []=>some (.int k a)
  | .d (.int _ b) :: r=>go k (bif isMax then (bif decide (a<b) then b else a) else (bif decide (b<a) then b else a)) r
  | _=>none
def ZuS (z:List V):List (Nat×Nat×V)->Option (List V)
 | []=>some z
 | (off,size,v) :: r=>bif v.okb&&Nat.beq v.cells.length size&&Nat.ble (off+size) z.length then ZuS (Zah z off v.cells) r else none
def ZtQ (H:Zk) (sz:Nat) (xs:List D):List (Nat×V)->Option (List D×List Nat)
 | []=>some (xs,[])
 | (i,v) :: r=>match fr H 6 v with
  | some (y,ks)=>(bif Nat.blt i xs.length&&Nat.beq y.cells.length sz&&(V.d y).okb then match ZtQ H sz (Ze1 xs i y) r with | some (l,k2)=>some (l,ks++k2) | none=>none else none)
  | none=>none
def ZlL (es:List (D×D)) (k:D):Option (Option D):=
 match es with
 | []=>some none
 | (a,v) :: r=>match eqD k a with | some true=>some (some v) | some false=>ZlL r k | none=>none
def ZEt (es:List (D×D)) (k z:D):Option D:=match ZlL es k with | some (some y)=>some y | some none=>some z | none=>none
def ZkR (es:List (D×D)) (k v:D):Option (List (D×D)):=
 match es with
 | []=>some [(k,v)]
 | (a,u) :: r=>match eqD k a with
  | some true=>some ((a,v) :: r)
  | some false=>(match ZkR r k v with | some l=>some ((a,u) :: l) | none=>none)
  | none=>none
def Zjc:D->Bool
 | .bool _=>true
 | .int _ _=>true
 | _=>false
def Zpk (H:Zk) (ks:List Bool) (m k v:V):Res:=
 match m,k,v with
 | .mp b,.d k,.d y=>(match nth H b with
  | some (.mp es)=>(match Zcw ks k&&Zjc y with | true=>(match ZkR es k y with | some l=>some (.bad,[(b,.mp l)],[]) | none=>none) | false=>none)
  | _=>none)
 | _,_,_=>none
def ZnU (H:Zk) (ks:List Bool) (z:D) (m k:V):Option D:=
 match m,k with
 | .mp b,.d k=>(match nth H b with
  | some (.mp es)=>(match Zcw ks k with | true=>ZEt es k z | false=>none)
  | _=>none)
 | _,_=>none
def ZKo:List D->Option (List (Int×Int))
 | []=>some []
 | .agg [.int .i64 a,.int .i64 b] :: r=>match ZKo r with | some l=>some ((a,b) :: l) | none=>none
 | _=>none
def pc (zs:List (Int×Int)) (j:Nat):Int×Int:=zs[j]?.getD (0,0)
def Zxo (zs:List (Int×Int)) (p:Int):Nat->Int
 | 0=>-1
 | k+1=>bif ((pc zs k).1 != p || decide (p<0)) then Zxo zs p k else (k:Int)
def Zoi (id:Nat) (l:List D):Option D:=
 match id,l with
 | 0,[.agg [_,_,.list _ xs],.int .i64 p]=>(match ZKo xs with | some zs=>bif Nat.ble zs.length lim then some (.int .i64 (Zxo zs p zs.length)) else none | none=>none)
 | _,_=>none
def Zi3:List D->Option (List Int)
 | []=>some []
 | .int .i64 a :: r=>match Zi3 r with | some l=>some (a :: l) | none=>none
 | _=>none
def ZvK (x:Int):List Int->List Int
 | []=>[x]
 | y :: r=>bif decide (x<=y) then x :: y :: r else y :: ZvK x r
def sortI:List Int->List Int
 | []=>[]
 | x :: r=>ZvK x (sortI r)
def Zvb (H:Zk):V->Option (Nat×List Int)
 | .sl b 1=>(match nth H b with
  | some (.arr 1 xs)=>(match Zi3 xs with | some zs=>some (b,zs) | none=>none)
  | _=>none)
 | _=>none
def Zyc (H:Zk) (x:V):Res:=match Zvb H x with | some (b,zs)=>(bif Nat.ble zs.length lim then some (.bad,[(b,.arr 1 ((sortI zs).map fun n=>.int .i64 n))],[]) else none) | none=>none
abbrev Zba:=Nat->List V->Zk->Option (V×Zk)
def Zh9 (Γ:Ctx) (cf:Zba) (nid:Nat) (H:Zk) (f:Nat) (args:List V):Res:=
 match Γ.mode f with
 | 0=>match fzs H args with
  | some l=>match cf f (ZcD l) [] with
   | some (v,H1)=>match fr H1 6 v with | some (x,_)=>(match x with | .tup ts=>some (.tup (ZcD ts),[],[]) | x=>some (.d x,[],[])) | none=>none
   | none=>none
  | none=>none
 | 1=>match fzs H args with
  | some l=>match cf f (ZcD l) [] with
   | some (v,H1)=>bif Zud v&&Zoh H1 then let up:=fun j=>some (nid+j);some (ZpE up v,[],H1.map (Zjk up)) else none
   | none=>none
  | none=>none
 | _=>
  match extract 0 args H with
  | none=>none
  | some (L,args',H0)=>match cf f args' H0 with
   | some (v,H1)=>bif Zoe v&&Zk6 H1 then
     let back:=fun j=>match nth L j with | some b=>some b | none=>some (nid+(j-L.length))
     some (ZpE back v,L.zip (H1.map (Zjk back)),(H1.drop L.length).map (Zjk back)) else none
   | none=>none
def ZcR (H:Zk):List (Nat×Blk)->Zk
 | []=>H
 | (b,blk) :: r=>ZcR (Ze1 H b blk) r
def ZBk (e:Env) (H H':Zk):List Opd->Bool
 | []=>true
 | x :: xs=>(match x.val e with
  | .ptr b o=>(match Zdp H 1 false (.ptr b o),Zdp H' 1 false (.ptr b o) with | some (.mp i),some (.mp j)=>Nat.beq i j | _,_=>false)
  | _=>false)&&ZBk e H H' xs
def isU (f:Nat):Bool:=Nat.blt f 1000000
def unB (f:Nat):Nat:=f-1000000
def Zog (f:Nat):Nat:=bif isU f then f else unB f
def Zrh (f:Nat) (caps args:List V):List V:=bif isU f then args++caps else caps++args
def Zro:List (Nat×Blk)->Nat->Bool
 | [],_=>false
 | (a,_) :: r,b=>bif Nat.beq a b then true else Zro r b
def ZqN (e:Env) (up:List (Nat×Blk)):List Opd->Bool
 | []=>true
 | x :: xs=>(match x.val e with
  | .ptr b _=>!(Zro up b)
  | .eptr b _ _ _=>!(Zro up b)
  | .d _=>true
  | _=>false)&&ZqN e up xs
def Zmw:V->Option (Nat×List V)
 | .fn f caps=>some (f,caps)
 | .d (.fn f caps)=>some (f,ZcD caps)
 | _=>none
def Zia (Γ:Ctx) (v:V) (f:Nat) (caps:List V):Bool:=Nat.beq f 2000000 || v.isD&&(!(Nat.ble (Γ.mode (Zog f)) 1) && !caps.isEmpty)
def ZkP : String := "trefoil/team.begin"
def Znk (tab:List (Nat×Nat)) (t:Nat):Option Nat:=
 match tab with
 | []=>none
 | (a,f) :: r=>bif Nat.beq a t then some f else Znk r t
def Zsc (tab:List (Nat×Nat)) (x:V):Res:=match x with
 | .fn f [.d (.iface t y)]=>(match Znk tab t with | some _=>bif Nat.beq f 2000000 then Zcu (.fn f [.d (.iface t y)]) else none | none=>none)
 | _=>none
def opE (Γ:Ctx) (cf:Zba) (e:Env) (nid:Nat) (H:Zk):O->Res
 | .mov x=>Zcu (x.val e)
 | .pick c a b=>match c.val e with | .d (.bool t)=>Zcu (bif t then a.val e else b.val e) | _=>none
 | .alloc z=>some (.ptr nid 0,[],[.cells z.cells])
 | .box x=>bif (x.val e).okb then some (.ptr nid 0,[],[.cells (x.val e).cells]) else none
 | .build z ps=>match ZuS z (ps.map fun(o,s,x)=>(o,s,x.val e)) with | some cs=>Zcu (Zxq cs) | none=>none
 | .bslice sz z len ps=>bif Nat.beq len 0 then Zcu (.nilsl sz) else match ZtQ H sz (List.replicate len (match z with | [x]=>x | z=>.agg z)) (ps.map fun(i,x)=>(i,x.val e)) with
  | some (xs,ks)=>some (.sl nid sz,ks.map (fun j=>(j,.dead)),[.arr sz xs])
  | none=>none
 | .load n ag x=>match Zdp H n ag (x.val e) with | some v=>Zcu v | none=>none
 | .store n x v=>Zml H n (x.val e) (v.val e)
 | .nilck x=>match Zy1 H (x.val e) with | some v=>Zcu v | none=>none
 | .bin op x y=>match Zo3 op (x.val e) (y.val e) with | some r=>Zcu (.d r) | none=>none
 | .eqv ks neg x y=>match x.val e,y.val e with
  | .d a,.d b=>(match Zcw ks a with | true=>(match eqD a b with | some r=>Zcu (.d (.bool (bif neg then !r else r))) | none=>none) | false=>none)
  | _,_=>none
 | .un op x=>match unE op (x.val e) with | some r=>Zcu (.d r) | none=>none
 | .conv k x=>match x.val e with | .d (.int _ n)=>Zcu (.d (.int k (k.wrap n))) | _=>none
 | .mkfn f caps=>Zcu (match caps with | []=>.d (.fn f []) | caps=>.fn f (Zgl e caps))
 | .mkslice sz z n c=>match n.val e,c.val e with
  | .d (.int _ n),.d (.int _ c)=>bif decide (0<=n)&&decide (n<=lim)&&decide (n==c) then
    some (.sl nid sz,[],[.arr sz (List.replicate n.toNat (match z with | [x]=>x | z=>.agg z))]) else none
  | _,_=>none
 | .slice sz x lo hi mx=>match Zj6 H sz (x.val e) (lo.map (·.val e)) (hi.map (·.val e)) (mx.map (·.val e)) with | some v=>Zcu v | none=>none
 | .faddr off x=>match Zmi H off (x.val e) with | some v=>Zcu v | none=>none
 | .field off n ag x=>match x.val e with
  | .d (.agg cs)=>(match Zf9 n ag (ZcD (cs.drop off)) with | some v=>Zcu v | none=>none)
  | .agg cs=>(match Zf9 n ag (cs.drop off) with | some v=>Zcu v | none=>none)
  | _=>none
 | .iaddr sz x i=>match ZjE H sz (x.val e) (i.val e) with | some v=>Zcu v | none=>none
 | .index len sz ag x i=>match Zo9 len sz ag (x.val e) (i.val e) with | some v=>Zcu v | none=>none
 | .indexS x i=>match Zmm (x.val e) (i.val e) with | some v=>Zcu v | none=>none
 | .iaddrA len sz x i=>match ZhU H len sz (x.val e) (i.val e) with | some v=>Zcu v | none=>none
 | .len x=>match Zwb H (x.val e) with | some r=>Zcu (.d r) | none=>none
 | .append sz x y=>ZiB nid H sz (x.val e) (y.val e)
 | .appendD sz x y=>match Zj8 H sz (x.val e) (y.val e) with | some v=>Zcu v | none=>none
 | .mx b xs=>match mxE b (Zgl e xs) with | some r=>Zcu (.d r) | none=>none
 | .extract x i=>match x.val e with
  | .tup vs=>(match nth vs i with | some v=>Zcu v | none=>none)
  | .d (.tup vs)=>(match nth vs i with | some v=>Zcu (.d v) | none=>none)
  | _=>none
 | .mkif t x=>match fr H 6 (x.val e) with | some (y,[])=>Zcu (.d (.iface t y)) | _=>none
 | .call f args=>Zh9 Γ cf nid H f (Zgl e args)
 | .callv x args=>match Zmw (x.val e) with
  | some (f,caps)=>(match Zia Γ (x.val e) f caps with | true=>none | false=>Zh9 Γ cf nid H (Zog f) (Zrh f caps (Zgl e args)))
  | none=>none
 | .invoke tab x args=>match x.val e with
  | .d (.iface t y)=>(match Znk tab t with | some f=>Zh9 Γ cf nid H f (.d y :: Zgl e args) | none=>none)
  | _=>none
 | .mkmap=>some (.mp nid,[],[.mp []])
 | .mapset ks m k v=>Zpk H ks (m.val e) (k.val e) (v.val e)
 | .mapget ks z m k=>match ZnU H ks z (m.val e) (k.val e) with | some r=>Zcu (.d r) | none=>none
 | .panic=>none
 | .callk f args _=>Zh9 Γ cf nid H f (Zgl e args)
 | .storek n x v _=>Zml H n (x.val e) (v.val e)
 | .sortI x=>Zyc H (x.val e)
 | .nilckm tab x=>Zsc tab (x.val e)
 | .spec id args=>match H,ZmO (Zgl e args) with | [],some l=>(match Zoi id l with | some r=>Zcu (.d r) | none=>none) | _,_=>none
 | .nilq x=>match elems H (x.val e) with | some xs=>(match Nat.blt 0 xs.length with | true=>Zcu (.d (.bool false)) | false=>none) | none=>none
def ZoQ (e:Env) (dst:Option Nat) (v:V):Env:=match dst with | some i=>e.set i v | none=>e
def ZeL (e:Env) (g:Option (Nat×Bool)):Option Bool:=
 match g with
 | none=>some true
 | some (s,b)=>match e s with | .d (.bool t)=>some (t==b) | .d (.tup [])=>some false | _=>none
def Zhm (Γ:Ctx) (cf:Zba):List Op1->Env->Zk->Option (Env×Zk)
 | [],e,H=>some (e,H)
 | o :: r,e,H=>match ZeL e o.guard with
  | some true=>(match opE Γ cf e H.length H o.op with
   | some (v,up,nw)=>Zhm Γ cf r (ZoQ e o.dst v) (ZcR H up++nw)
   | none=>none)
  | some false=>Zhm Γ cf r (ZoQ e o.dst (.d (.tup []))) H
  | none=>none
def ZDx (H:Zk) (b:Nat):Nat->Zk
 | 0=>H
 | n+1=>ZDx (Ze1 H b .dead) (b+1) n
def Zh6 (H:Zk) (pos:List (Nat×Nat)):List Nat->Zk
 | []=>H
 | i :: r=>match nth pos i with | some (b,n)=>Zh6 (ZDx H b n) pos r | none=>Zh6 H pos r
def Zyg:List (Nat×Blk)->Bool
 | []=>true
 | (_,.dead) :: _=>false
 | _ :: r=>Zyg r
def Zst (eff:Nat) (up:List (Nat×Blk)) (nw:List Blk):Bool:=match eff with | 0=>up.isEmpty | 1=>up.isEmpty&&nw.isEmpty | 3=>Zyg up&&nw.isEmpty | _=>true
def ZJw (e:Env) (H:Zk) (up:List (Nat×Blk)):O->Bool
 | .callk _ _ chk=>ZBk e H (ZcR H up) chk
 | .storek _ _ _ chk=>ZqN e up chk
 | _=>true
def Zso (e:Env) (H:Zk) (o:Op1) (up:List (Nat×Blk)) (nw:List Blk):Bool:=Zst o.eff up nw&&ZJw e H up o.op
def ZgV (Γ:Ctx) (cf:Zba) (pos:List (Nat×Nat)):List Op1->Env->Zk->Option (Env×Zk)
 | [],e,H=>some (e,H)
 | o :: r,e,H=>match ZeL e o.guard with
  | some true=>(match opE Γ cf e H.length (Zh6 H pos o.mask) o.op with
   | some (v,up,nw)=>bif Zso e H o up nw then ZgV Γ cf (pos++[(H.length,nw.length)]) r (ZoQ e o.dst v) (ZcR H up++nw) else none
   | _=>none)
  | some false=>ZgV Γ cf (pos++[(H.length,0)]) r (ZoQ e o.dst (.d (.tup []))) H
  | none=>none
inductive Lp where
 | again (vs:List V) (H:Zk)
 | done (x:Ex) (vs:List V) (H:Zk)
abbrev St:=Env×Zk
def Zcf (F:List V->Zk->Option Lp):Nat->List V->Zk->Option (Ex×List V×Zk)
 | 0,_,_=>none
 | n+1,vs,H=>match F vs H with
  | some (.again vs H)=>Zcf F n vs H
  | some (.done x vs H)=>some (x,vs,H)
  | none=>none
def ZfN (k:Nat) (live outs:List Nat) (r:Option (Ex×Env×Zk)):Option Lp:=
 match r with
 | some (.normal,e,H)=>(match ZrH k (live.map e) H with | some (vs,H)=>some (.again vs H) | none=>none)
 | some (x,e,H)=>(match extract k (outs.map e) H with | some (_,vs,H)=>some (.done x vs H) | none=>none)
 | none=>none
def ZO (Γ:Ctx) (cf:Zba) (It:(List V->Zk->Option Lp)->List V->Zk->Option (Ex×List V×Zk)) (k:Nat):C->Env->Zk->Option (Ex×Env×Zk)
 | .skip,e,H=>some (.normal,e,H)
 | .ret,e,H=>some (.ret,e,H)
 | .exit id,e,H=>some (.exit id,e,H)
 | .seq a b,e,H=>match ZO Γ cf It k a e H with
  | some (.normal,e,H)=>ZO Γ cf It k b e H
  | r=>r
 | .cond x a b,e,H=>match x.val e with
  | .d (.bool t)=>(match t with | true=>ZO Γ cf It k a e H | false=>ZO Γ cf It k b e H)
  | _=>none
 | .block id a,e,H=>match ZO Γ cf It k a e H with
  | some (.exit j,e,H)=>bif Nat.beq j id then some (.normal,e,H) else some (.exit j,e,H)
  | r=>r
 | .loop live outs a,e,H=>match ZrH k (live.map e) H with
  | some (vs,H)=>(match It (fun vs H=>ZfN k live outs (ZO Γ cf It k a (Zeq live vs) H)) vs H with
   | some (x,vs,H)=>some (x,Zeq outs vs,H)
   | none=>none)
  | none=>none
 | .ops l,e,H=>match Zhm Γ cf l e H with | some (e,H)=>some (.normal,e,H) | none=>none
 | .draw l,e,H=>match ZgV Γ cf [] l e H with | some (e,H)=>some (.normal,e,H) | none=>none
def Zdd (i:Nat):List V->Env
 | []=>env0
 | v :: vs=>(Zdd (i+1) vs).set i v
def Zlp (e:Env) (H:Zk):List (Nat×Option (Nat×Bool))->Option (List V)
 | []=>some []
 | (i,none) :: r=>match Zlp e H r with | some l=>some (e i :: l) | none=>none
 | (i,some (n,ag)) :: r=>match Zdp H n ag (e i),Zlp e H r with | some v,some l=>some (v :: l) | _,_=>none
def ZhF:List V->V
 | [v]=>v
 | l=>Zw9 l
def ZiK (Γ:Ctx) (cf:Zba) (It:(List V->Zk->Option Lp)->List V->Zk->Option (Ex×List V×Zk)) (f:Nat) (args:List V) (H:Zk):Option (V×Zk):=
 match Γ.code f with
 | none=>none
 | some fn=>
  bif Nat.beq args.length fn.nargs then
   match ZO Γ cf It H.length fn.body (Zdd 0 args) H with
   | some (.exit _,_,_)=>none
   | some (_,e,H1)=>(match Zlp e H1 fn.res with
    | some l=>(match extract H.length [ZhF l] H1 with | some (_,[v],H2)=>some (v,H2) | _=>none)
    | none=>none)
   | none=>none
  else none
def evN (Γ:Ctx):Nat->Zba
 | 0=>fun _ _ _=>none
 | n+1=>ZiK Γ (evN Γ n) (fun F=>Zcf F n)
end Go.Proofs.YtgcfmiajkbbmeaaGreatDoorE
namespace Go.Proofs.YtgcfmiajkbbmeaaGreatDoor
open Go Go.Proofs.YtgcfmiajkbbmeaaGreatDoorE
open Go.IntKind (u64 i64 u32 i32 u8)
abbrev qM (d x:Nat):Op1:=⟨some d,.mov (.t x),none,[],0⟩
abbrev uM (d x:Nat) (l:List Nat):Op1:=⟨some d,.mov (.t x),none,l,0⟩
abbrev vM (d x s:Nat) (b:Bool):Op1:=⟨some d,.mov (.t x),some (s,b),[],0⟩
abbrev wM (d x s:Nat) (b:Bool) (l:List Nat):Op1:=⟨some d,.mov (.t x),some (s,b),l,0⟩
abbrev qL (d x:Nat):Op1:=⟨some d,.load 1 false (.t x),none,[],0⟩
abbrev uL (d x:Nat) (l:List Nat):Op1:=⟨some d,.load 1 false (.t x),none,l,0⟩
abbrev vL (d x s:Nat) (b:Bool):Op1:=⟨some d,.load 1 false (.t x),some (s,b),[],0⟩
abbrev wL (d x s:Nat) (b:Bool) (l:List Nat):Op1:=⟨some d,.load 1 false (.t x),some (s,b),l,0⟩
abbrev qA (d n x:Nat):Op1:=⟨some d,.load n true (.t x),none,[],0⟩
abbrev uA (d n x:Nat) (l:List Nat):Op1:=⟨some d,.load n true (.t x),none,l,0⟩
abbrev vA (d n x s:Nat) (b:Bool):Op1:=⟨some d,.load n true (.t x),some (s,b),[],0⟩
abbrev wA (d n x s:Nat) (b:Bool) (l:List Nat):Op1:=⟨some d,.load n true (.t x),some (s,b),l,0⟩
abbrev qF (d n x:Nat):Op1:=⟨some d,.faddr n (.t x),none,[],0⟩
abbrev uF (d n x:Nat) (l:List Nat):Op1:=⟨some d,.faddr n (.t x),none,l,0⟩
abbrev vF (d n x s:Nat) (b:Bool):Op1:=⟨some d,.faddr n (.t x),some (s,b),[],0⟩
abbrev wF (d n x s:Nat) (b:Bool) (l:List Nat):Op1:=⟨some d,.faddr n (.t x),some (s,b),l,0⟩
abbrev qN (d x:Nat):Op1:=⟨some d,.len (.t x),none,[],0⟩
abbrev uN (d x:Nat) (l:List Nat):Op1:=⟨some d,.len (.t x),none,l,0⟩
abbrev vN (d x s:Nat) (b:Bool):Op1:=⟨some d,.len (.t x),some (s,b),[],0⟩
abbrev qI (d n x y:Nat):Op1:=⟨some d,.iaddr n (.t x) (.t y),none,[],0⟩
abbrev uI (d n x y:Nat) (l:List Nat):Op1:=⟨some d,.iaddr n (.t x) (.t y),none,l,0⟩
abbrev vI (d n x y s:Nat) (b:Bool):Op1:=⟨some d,.iaddr n (.t x) (.t y),some (s,b),[],0⟩
abbrev wI (d n x y s:Nat) (b:Bool) (l:List Nat):Op1:=⟨some d,.iaddr n (.t x) (.t y),some (s,b),l,0⟩
abbrev qU (d x:Nat):Op1:=⟨some d,.un .not (.t x),none,[],0⟩
abbrev vU (d x s:Nat) (b:Bool):Op1:=⟨some d,.un .not (.t x),some (s,b),[],0⟩
abbrev qE (d x n:Nat):Op1:=⟨some d,.extract (.t x) n,none,[],0⟩
abbrev uE (d x n:Nat) (l:List Nat):Op1:=⟨some d,.extract (.t x) n,none,l,0⟩
abbrev qB (d:Nat) (o:BinOp) (x y:Nat):Op1:=⟨some d,.bin o (.t x) (.t y),none,[],0⟩
abbrev qK (d:Nat) (o:BinOp) (x:Nat) (n:Int):Op1:=⟨some d,.bin o (.t x) (iN n),none,[],0⟩
abbrev vB (d:Nat) (o:BinOp) (x y s:Nat) (b:Bool):Op1:=⟨some d,.bin o (.t x) (.t y),some (s,b),[],0⟩
abbrev vK (d:Nat) (o:BinOp) (x:Nat) (n:Int) (s:Nat) (b:Bool):Op1:=⟨some d,.bin o (.t x) (iN n),some (s,b),[],0⟩
abbrev qW (d:Nat) (n:Int):Op1:=⟨some d,.mov (iN n),none,[],0⟩
abbrev qC (d f x:Nat):Op1:=⟨some d,.call f [.t x],none,[],0⟩
abbrev qD (d f x y:Nat):Op1:=⟨some d,.call f [.t x,.t y],none,[],0⟩
abbrev uS (d:Nat) (l:List Nat):Op1:=⟨some d,.bslice 1 [.int .i64 0] 0 [],none,l,0⟩
abbrev qZ (d x:Nat):Op1:=⟨some d,.nilck (.t x),none,[],0⟩
abbrev uZ (d x:Nat) (l:List Nat):Op1:=⟨some d,.nilck (.t x),none,l,0⟩
abbrev vZ (d x s:Nat) (b:Bool):Op1:=⟨some d,.nilck (.t x),some (s,b),[],0⟩
abbrev qO (d x:Nat):Op1:=⟨some d,.box (.t x),none,[],0⟩
abbrev qJ (d x y:Nat):Op1:=⟨some d,.pick (.t x) bT (.t y),none,[],0⟩
abbrev vJ (d x y s:Nat) (b:Bool):Op1:=⟨some d,.pick (.t x) bT (.t y),some (s,b),[],0⟩
abbrev qY (d x y:Nat):Op1:=⟨some d,.append 1 (.t x) (.t y),none,[],0⟩
abbrev uY (d x y:Nat) (l:List Nat):Op1:=⟨some d,.append 1 (.t x) (.t y),none,l,0⟩
abbrev ZgB (d n:Nat):Op1:=⟨some d,.mov (.c (.nilsl n)),none,[],0⟩
abbrev qff (d:Nat):Op1:=⟨some d,.mov bF,none,[],0⟩
abbrev qtt (d:Nat):Op1:=⟨some d,.mov bT,none,[],0⟩
abbrev vC (d f x s:Nat) (b:Bool):Op1:=⟨some d,.call f [.t x],some (s,b),[],0⟩
abbrev uD (d f x y:Nat) (l:List Nat):Op1:=⟨some d,.call f [.t x,.t y],none,l,0⟩
abbrev vD (d f x y s:Nat) (b:Bool):Op1:=⟨some d,.call f [.t x,.t y],some (s,b),[],0⟩
abbrev qG (d f x y z:Nat):Op1:=⟨some d,.call f [.t x,.t y,.t z],none,[],0⟩
abbrev vG (d f x y z s:Nat) (b:Bool):Op1:=⟨some d,.call f [.t x,.t y,.t z],some (s,b),[],0⟩
abbrev qV (d f x:Nat):Op1:=⟨some d,.callv (.t f) [.t x],none,[],0⟩
abbrev vV (d f x s:Nat) (b:Bool):Op1:=⟨some d,.callv (.t f) [.t x],some (s,b),[],0⟩
abbrev qH (d x:Nat):Op1:=⟨some d,.bslice 1 [.int .i64 0] 1 [(0,(.t x))],none,[],0⟩
abbrev qS (n x y:Nat):Op1:=⟨none,.store n (.t x) (.t y),none,[],0⟩
abbrev qR (n x:Nat) (y:Int):Op1:=⟨none,.store n (.t x) (iN y),none,[],0⟩
abbrev qX (n x y k:Nat):Op1:=⟨none,.store n (.t x) (.t y),none,[],k⟩
abbrev qP (d x y:Nat):Op1:=⟨some d,.pick (.t x) (.t y) bF,none,[],0⟩
abbrev zI:V:=.d (.int .i64 0)
abbrev zD:D:=.int .i64 0
abbrev cX (x n:Nat):C:=.cond (.t x) .skip (.exit n)
abbrev cY (x:Nat) (a b:C):C:=.cond (.t x) a b
abbrev Lz0:List V:=[(.nilsl 1),zI,zI]
abbrev Lz1:List V:=[(.nilsl 1),(.nilsl 1)]
abbrev Lz2:List V:=[zI,zI]
abbrev Lz3:List V:=[zI,zI,zI,zI,zI]
abbrev Lz4:List V:=[(.nilsl 1),(.nilsl 2),(.nilsl 2)]
abbrev Lz5:List V:=[zI,zI,(.nilsl 3),(.nilsl 2),(.nilsl 3),(.nilsl 2)]
abbrev Lz6:List V:=[(.nilsl 1),(.nilsl 1),(.nilsl 3),(.nilsl 6),(.nilsl 1)]
abbrev Lz7:List V:=[(.d (.bool false)),zI,zI,zI,zI,zI]
abbrev oS (l:List Op1) (c:C):C:=.seq (.ops l) c
abbrev oR (l:List Op1):C:=.seq (.ops l) .ret
abbrev oC (x:Nat) (l:List Op1):C:=.cond (.t x) (.seq (.ops l) .ret) .skip
def ZJC:List D:=[.int .u8 0,.int .u8 1,.int .u8 28,.int .u8 2,.int .u8 29,.int .u8 14,.int .u8 24,.int .u8 3,.int .u8 30,.int .u8 22,.int .u8 20,.int .u8 15,.int .u8 25,.int .u8 17,.int .u8 4,.int .u8 8,.int .u8 31,.int .u8 27,.int .u8 13,.int .u8 23,.int .u8 21,.int .u8 19,.int .u8 16,.int .u8 7,.int .u8 26,.int .u8 12,.int .u8 18,.int .u8 6,.int .u8 11,.int .u8 5,.int .u8 10,.int .u8 9]
def ZDI:List D:=[.int .u8 0,.int .u8 1,.int .u8 56,.int .u8 2,.int .u8 57,.int .u8 49,.int .u8 28,.int .u8 3,.int .u8 61,.int .u8 58,.int .u8 42,.int .u8 50,.int .u8 38,.int .u8 29,.int .u8 17,.int .u8 4,.int .u8 62,.int .u8 47,.int .u8 59,.int .u8 36,.int .u8 45,.int .u8 43,.int .u8 51,.int .u8 22,.int .u8 53,.int .u8 39,.int .u8 33,.int .u8 30,.int .u8 24,.int .u8 18,.int .u8 12,.int .u8 5,.int .u8 63,.int .u8 55,.int .u8 48,.int .u8 27,.int .u8 60,.int .u8 41,.int .u8 37,.int .u8 16,.int .u8 46,.int .u8 35,.int .u8 44,.int .u8 21,.int .u8 52,.int .u8 32,.int .u8 23,.int .u8 11,.int .u8 54,.int .u8 26,.int .u8 40,.int .u8 15,.int .u8 34,.int .u8 20,.int .u8 31,.int .u8 10,.int .u8 25,.int .u8 14,.int .u8 19,.int .u8 9,.int .u8 13,.int .u8 8,.int .u8 7,.int .u8 6]
def ZGL:C:=.seq (oS [qM 71 14,qM 72 13,qN 73 72,qB 74 .lss 71 73,qM 75 74,vM 76 14 75 true,vM 77 1 75 true,vN 78 77 75 true,vB 79 .lss 76 78 75 true,qP 80 75 79] (cX 80 0)) (.seq (.block 1 (.draw [qM 83 13,uM 84 14 [0],uM 85 13 [0,1],uM 86 14 [0,1,2],uI 87 1 85 86 [0,1],uL 88 87 [0,1],uM 89 1 [0,1,2,3,4,5],uM 90 14 [0,1,2,3,4,5,6],uI 91 1 89 90 [0,1,2,3,4,5],uL 92 91 [0,1,2,3,4,5],oM 93 (.mx false [.t 92,(iN 1000)]) [0,1,2,3,4,5],oM 94 (.mx true [.t 93,(iN 0)]) [0,1,2,3,4,5],oM 95 (.bin .sub (.t 88) (.t 94)) [0,1],oM 96 (.mx true [(iN 1),.t 95]) [0,1],qI 97 1 83 84,qX 1 97 96 4])) (.ops [qM 81 14,qK 82 .add 81 1,qM 14 82]))
def ir8:C:=oS [qO 3 0,qff 6] (.seq (oS [oB 20 (.call 34 []),qU 21 20,qM 22 21,vA 23 6 3 22 false,vC 24 35 23 22 false,vU 25 24 22 false,qJ 26 22 25,qM 27 26,vM 28 1 27 false,vN 29 28 27 false,vK 30 .gtr 29 60 27 false,qJ 31 27 30,qM 32 31,vM 33 2 32 false,vN 34 33 32 false,vK 35 .gtr 34 300 32 false,qJ 36 32 35] (oC 36 [oB 37 (.call 34 []),qM 6 37])) (oS [qA 39 6 3,qC 40 37 39,qC 41 36 40,qM 38 41,qE 42 38 0,qE 43 38 1,oB 7 (.alloc (.d (.agg [zD,zD,zD,zD,zD]))),qS 5 7 42,qM 8 43] (oS [qA 45 5 7,qC 46 38 45,qM 44 46,qE 47 44 0,qE 48 44 1,qM 9 47,qM 10 48] (.seq (oS [qM 49 8,qK 50 .neq 49 0,qM 51 50,vM 52 10 51 false,vK 53 .neq 52 0 51 false,qJ 54 51 53,qM 55 54,vF 56 0 7 55 false,vL 57 56 55 false,vK 58 .gtr 57 300 55 false,qJ 59 55 58] (oC 59 [qtt 6])) (oS [qA 61 6 3,qC 62 37 61,qC 63 39 62,qM 60 63,qE 64 60 0,qE 65 60 1,oB 11 (.alloc (.agg Lz4)),qS 3 11 64,qM 12 65] (oS [oB 66 (.bslice 1 [zD] 0 []),qF 67 0 11,qF 68 0 67,qL 69 68,qY 70 66 69,qM 13 70] (.seq (oS [qW 14 0] (.block 0 (.loop [1,2,3,9,11,13,14] [2,3,9,11,13] ZGL))) (.seq (.draw [qF 99 0 11,qA 100 2 99,uS 101 [0,1],uM 102 13 [0,1,2],uY 103 101 102 [0,1],uM 104 9 [0,1,2,3,4],qG 105 40 100 103 104,qM 98 105,qE 106 98 0,uE 107 98 1 [8],uM 15 106 [9],qM 16 107]) (.seq (.draw [qF 109 0 11,qA 110 2 109,uS 111 [0,1],uM 112 13 [0,1,2],uY 113 111 112 [0,1],uM 114 9 [0,1,2,3,4],uS 115 [0,1,2,3,4,5],uM 116 2 [0,1,2,3,4,5,6],uY 117 115 116 [0,1,5],oB 118 (.call 12 [.t 110,.t 113,.t 114,.t 117]),qM 108 118,qE 119 108 0,uE 120 108 1 [11],uE 121 108 2 [11,12],uM 17 119 [12,13],uM 18 120 [13],qM 19 121]) (oR [qM 122 16,qK 123 .eql 122 0,qM 124 123,vM 125 19 124 true,vK 126 .eql 125 0 124 true,qP 127 124 126,qM 128 127,vM 129 15 128 true,vN 130 129 128 true,vF 131 1 3 128 true,vL 132 131 128 true,vB 133 .leq 130 132 128 true,qP 134 128 133,qM 135 134,vM 136 17 135 true,vN 137 136 135 true,vF 138 1 3 135 true,vL 139 138 135 true,vB 140 .leq 137 139 135 true,qP 141 135 140,qM 6 141]))))))))))
def fn8:FnI:=⟨3,ir8,[(6,none)]⟩
def ZBV:C:=oS [qB 36 .lss 35 34] (.seq (cX 36 0) (.seq (.block 1 (oS [qI 37 1 33 35,qL 38 37,qM 15 38] (.ops [qM 39 13,qM 40 15,qB 41 .add 39 40,qM 13 41]))) (.ops [qK 42 .add 35 1,qM 35 42])))
def ZEv:C:=.seq (oS [qM 49 16,qZ 50 49,qF 51 0 50,qF 52 0 51,qF 53 1 52,qL 54 53,oB 55 (.call 44 [.t 54,(.c (.d (.fn 45 [])))])] (cX 55 2)) (.block 3 (oS [qM 57 16,qM 58 3,qM 59 18,qM 60 3,qN 61 60,oB 62 (.mx false [.t 59,.t 61]),oB 63 (.slice 1 (.t 58) (some (.t 62)) none none),qD 64 46 57 63,qM 56 64,qE 65 56 0,qE 66 56 1,qM 19 65,qM 20 66] (.seq (oS [qM 67 20,qK 68 .neq 67 0] (oC 68 [qM 69 20,ZgB 8 1,qW 9 0,qM 10 69])) (oS [qM 70 18,qM 71 19,qB 72 .add 70 71,qM 18 72] (oS [qM 73 17,qM 74 16,qZ 75 74,qF 76 0 75,qF 77 0 76,qF 78 0 77,qL 79 78,qC 80 47 79,oB 81 (.bslice 1 [.list true []] 1 [(0,(.t 80))]),qY 82 73 81,qM 17 82] (oS [qM 84 16,qC 85 48 84,qM 83 85,qE 86 83 0,qE 87 83 1,qM 21 86,qM 22 87] (oS [qM 88 22,qK 89 .neq 88 0] (oC 89 [qM 90 22,ZgB 8 1,qW 9 0,qM 10 90]))))))))
def ZK6:C:=oS [qO 4 0,ZgB 8 1,qW 9 0,qW 10 0] (oS [qA 24 2 4,qM 25 1,qM 26 2,qG 27 16 24 25 26,qM 23 27,qE 28 23 0,qE 29 23 1,oB 11 (.alloc (.agg Lz6)),qS 5 11 28,qM 12 29] (.seq (oS [qM 30 12,qK 31 .neq 30 0] (oC 31 [qM 32 12,ZgB 8 1,qW 9 0,qM 10 32])) (oS [qW 13 0] (.seq (oS [qM 33 1,qN 34 33,qW 35 0] (.block 0 (.loop [3,4,11,13,33,34,35] [3,4,11,13] ZBV))) (.seq (oS [qM 43 13,qK 44 .gtr 43 4096] (oC 44 [ZgB 8 1,qW 9 0,qW 10 100])) (oS [qA 45 5 11,qA 46 2 4,oB 47 (.build [(.nilsl 1),(.nilsl 1),(.nilsl 3),(.nilsl 6),(.nilsl 1),(.nilsl 1),(.nilsl 2),zI] [(0,5,(.t 45)),(5,2,(.t 46))]),qO 48 47,qM 16 48] (oS [ZgB 17 1] (oS [qW 18 0] (.seq (.block 2 (.loop [3,16,17,18] [8,9,10,17,18] ZEv)) (oR [qM 91 17,qM 92 18,qM 8 91,qM 9 92,qW 10 0]))))))))))
def ZHC:FnI:=⟨4,ZK6,[(8,none),(9,none),(10,none)]⟩
def ZB9:C:=oS [qB 37 .lss 36 35] (.seq (cX 37 0) (.seq (.block 1 (oS [oB 39 (.call 52 [(iN 64)]),qM 38 39,qE 40 38 0,qE 41 38 1,oB 11 (.alloc (.agg Lz0)),qS 3 11 40,qM 12 41] (.draw [qM 42 10,uM 43 10 [0],uZ 44 43 [0],uF 45 0 44 [0],uF 46 2 45 [0],uL 47 46 [0],uA 48 3 11 [0,1,2,3,4,5],oM 49 (.bslice 3 [.list true [],zD,zD] 1 [(0,(.t 48))]) [0,1,2,3,4,5],⟨some 50,.append 3 (.t 47) (.t 49),none,[],4⟩,qZ 51 42,qF 52 0 51,qF 53 2 52,qX 1 53 50 4]))) (.ops [qK 54 .add 36 1,qM 36 54])))
def ZC8:C:=oS [qB 60 .lss 59 58] (.seq (cX 60 2) (.seq (.block 3 (oS [qI 61 1 57 59,qL 62 61,qM 14 62] (.ops [qM 63 10,qM 64 14,qM 65 2,qB 66 .rem 64 65,qM 67 14,qG 68 54 63 66 67]))) (.ops [qK 69 .add 59 1,qM 59 69])))
def ZKU:C:=oS [qO 3 0,oB 6 (.alloc (.agg Lz6)),qW 7 0] (oS [qA 16 2 3,qM 17 1,qM 18 2,qG 19 51 16 17 18,qM 15 19,qE 20 15 0,qE 21 15 1,oB 8 (.alloc (.agg Lz1)),qS 2 8 20,qM 9 21] (.seq (oS [qM 22 9,qK 23 .neq 22 0] (oC 23 [oB 24 (.build Lz6 []),qM 25 9,qS 5 6 24,qM 7 25])) (.seq (.draw [qA 26 2 8,uM 27 2 [0],oM 28 (.mkslice 6 [.bool false,zD,zD,zD,zD,zD] (.t 27) (.t 27)) [0],uM 29 2 [0,1,2],oM 30 (.mkslice 1 [zD] (.t 29) (.t 29)) [0,1,2],oB 31 (.build Lz6 [(0,2,(.t 26)),(3,1,(.t 28)),(4,1,(.t 30))]),uA 32 2 3 [0,1,2,3,4,5],oB 33 (.build [(.nilsl 1),(.nilsl 1),(.nilsl 3),(.nilsl 6),(.nilsl 1),(.nilsl 1),(.nilsl 2),zI] [(0,5,(.t 31)),(5,2,(.t 32))]),qO 34 33,qM 10 34]) (.seq (oS [qM 35 2,qW 36 0] (.block 0 (.loop [2,3,6,8,10,35,36] [2,3,6,8,10] ZB9))) (.seq (oS [qA 55 2 3,qA 56 2 8,qD 57 53 55 56,qN 58 57,qW 59 0] (.block 2 (.loop [2,6,10,57,58,59] [6,10] ZC8))) (oR [qM 70 10,qZ 71 70,qF 72 0 71,qA 73 5 72,qS 5 6 73,qW 7 0]))))))
def ZIm:FnI:=⟨3,ZKU,[(6,some (5,true)),(7,none)]⟩
def ZLk:C:=oS [qO 4 0,qW 8 0] (oS [qA 12 2 4,qM 13 1,qM 14 2,qM 15 3,oB 16 (.call 68 [.t 12,.t 13,.t 14,.t 15,(.c (.d (.fn 69 [])))]),qM 11 16,qE 17 11 0,qE 18 11 1,qM 9 17,qM 10 18] (oR [qM 19 10,qM 8 19]))
def ZHD:FnI:=⟨4,ZLk,[(8,none)]⟩
def ZK1:C:=oS [qff 0] (oS [oB 11 (.build Lz3 [(0,1,(iN 20)),(1,1,(iN 4)),(2,1,(iN 4)),(3,1,(iN 8)),(4,1,(iN 8))]),oB 1 (.alloc (.d (.agg [zD,zD,zD,zD,zD]))),qS 5 1 11] (oS [qA 13 5 1,qC 14 38 13,qM 12 14,qE 15 12 0,qE 16 12 1,qM 2 15,qM 3 16] (oS [oB 17 (.build [zI,zI,zI] [(2,1,(iN 2))]),oB 18 (.build [zI,zI,zI] [(2,1,(iN 3))]),oB 19 (.bslice 3 [zD,zD,zD] 2 [(0,(.t 17)),(1,(.t 18))]),oB 20 (.build Lz5 [(0,1,(iN 8)),(1,1,(iN 5)),(2,1,(.t 19))]),oB 4 (.alloc (.agg Lz5)),qS 6 4 20] (oS [qA 22 6 4,qC 23 36 22,qM 21 23,qE 24 21 0,qE 25 21 1,oB 5 (.alloc (.d (.agg [zD,zD,zD,zD,zD]))),qS 5 5 24,qM 6 25] (oS [qA 27 5 5,qC 28 38 27,qM 26 28,qE 29 26 0,qE 30 26 1,qM 7 29,qM 8 30] (oS [oB 32 (.build Lz3 [(0,1,(iN 20)),(1,1,(iN 8)),(2,1,(iN 4)),(3,1,(iN 8)),(4,1,(iN 8))]),qC 33 38 32,qM 31 33,qE 34 31 0,qE 35 31 1,qM 9 34,qM 10 35] (oR [qM 36 2,qK 37 .eql 36 4,qM 38 37,vM 39 3 38 true,vK 40 .eql 39 0 38 true,qP 41 38 40,qM 42 41,vM 43 6 42 true,vK 44 .eql 43 0 42 true,qP 45 42 44,qM 46 45,vA 47 5 5 46 true,oG 48 (.build Lz3 [(0,1,(iN 5)),(1,1,(iN 3)),(2,1,(iN 3)),(3,1,(iN 5)),(4,1,(iN 8))]) 46 true,oG 49 (.eqv [false,false,false,false,false] false (.t 47) (.t 48)) 46 true,qP 50 46 49,qM 51 50,vM 52 7 51 true,vK 53 .eql 52 1 51 true,qP 54 51 53,qM 55 54,vM 56 8 55 true,vK 57 .eql 56 0 55 true,qP 58 55 57,qM 59 58,vM 60 10 59 true,vK 61 .eql 60 141 59 true,qP 62 59 61,qM 63 62,vA 64 5 1 63 true,vC 65 76 64 63 true,qP 66 63 65,qM 67 66,vA 68 5 5 67 true,vC 69 76 68 67 true,vU 70 69 67 true,qP 71 67 70,qM 72 71,vA 73 5 1 72 true,oG 74 (.call 77 [.t 73,(iN 4)]) 72 true,vK 75 .eql 74 8 72 true,qP 76 72 75,qM 77 76,vA 78 5 1 77 true,vC 79 78 78 77 true,vK 80 .eql 79 0 77 true,qP 81 77 80,qM 0 81])))))))
def ZI5:FnI:=⟨0,ZK1,[(0,none)]⟩
def ZEW:C:=.seq (oS [qM 4 3,qF 5 5 1,qL 6 5,qN 7 6,qB 8 .lss 4 7,qM 9 8,vM 10 3 9 true,vK 11 .lss 10 9 9 true,qP 12 9 11] (cX 12 0)) (.seq (.block 1 (oS [qF 15 5 1,qL 16 15,qM 17 3,qI 18 2 16 17,qF 19 0 18,qL 20 19,qN 21 20,qK 22 .gtr 21 20,qM 23 22,vF 24 5 1 23 false,vL 25 24 23 false,vM 26 3 23 false,vI 27 2 25 26 23 false,vF 28 1 27 23 false,vL 29 28 23 false,vN 30 29 23 false,vK 31 .gtr 30 20 23 false,qJ 32 23 31] (oC 32 [qff 2]))) (.ops [qM 13 3,qK 14 .add 13 1,qM 3 14]))
def ZLn:C:=oS [qO 1 0,qff 2] (.seq (oS [qW 3 0] (.block 0 (.loop [1,3] [1,2] ZEW))) (oR [qF 33 2 1,qL 34 33,qN 35 34,qK 36 .leq 35 20,qM 37 36,vF 38 3 1 37 true,vL 39 38 37 true,vN 40 39 37 true,vK 41 .leq 40 60 37 true,qP 42 37 41,qM 43 42,vF 44 4 1 43 true,vL 45 44 43 true,vN 46 45 43 true,vK 47 .leq 46 20 43 true,qP 48 43 47,qM 49 48,vF 50 5 1 49 true,vL 51 50 49 true,vN 52 51 49 true,vK 53 .leq 52 8 49 true,qP 54 49 53,qM 2 54]))
def ZH1:FnI:=⟨1,ZLn,[(2,none)]⟩
def ZK4:C:=oS [qO 1 0,oB 2 (.alloc (.d (.agg [zD,zD,zD,zD,zD]))),qW 3 0] (oS [qA 7 6 1,qC 8 39 7,qM 6 8,qE 9 6 0,qE 10 6 1,oB 4 (.alloc (.agg Lz4)),qS 3 4 9,qM 5 10] (.seq (oS [qM 11 5,qK 12 .neq 11 0] (oC 12 [oB 13 (.build Lz3 []),qM 14 5,qS 5 2 13,qM 3 14])) (.seq (.draw [qF 15 0 4,qA 16 2 15,qC 17 74 16,uF 18 0 4 [0,1,2],uA 19 2 18 [0,1,2],qC 20 75 19,uF 21 0 4 [0,1,2,3,4,5],uF 22 0 21 [0,1,2,3,4,5],uL 23 22 [0,1,2,3,4,5],qC 24 79 23,uF 25 1 1 [0,1,2,3,4,5,6,7,8,9],uL 26 25 [0,1,2,3,4,5,6,7,8,9],uF 27 0 1 [0,1,2,3,4,5,6,7,8,9,10,11],uL 28 27 [0,1,2,3,4,5,6,7,8,9,10,11],oB 29 (.build Lz3 [(0,1,(.t 17)),(1,1,(.t 20)),(2,1,(.t 24)),(3,1,(.t 26)),(4,1,(.t 28))]),qX 5 2 29 4,qW 3 0]) .ret)))
def ZIe:FnI:=⟨1,ZK4,[(2,some (5,true)),(3,none)]⟩
def ZBU:C:=.seq (oS [qM 22 4,qF 23 5 1,qL 24 23,qN 25 24,qB 26 .lss 22 25] (cX 26 0)) (.seq (.block 1 (.draw [qF 29 5 3,qL 30 29,uS 31 [0,1],uF 32 5 1 [0,1,2],uL 33 32 [0,1,2],uM 34 4 [0,1,2,3,4],uI 35 2 33 34 [0,1,2],uF 36 0 35 [0,1,2],uL 37 36 [0,1,2],oM 38 (.appendD 1 (.t 31) (.t 37)) [0,1],uS 39 [0,1,2,3,4,5,6,7,8,9],uF 40 5 1 [0,1,2,3,4,5,6,7,8,9,10],uL 41 40 [0,1,2,3,4,5,6,7,8,9,10],uM 42 4 [0,1,2,3,4,5,6,7,8,9,10,11,12],uI 43 2 41 42 [0,1,2,3,4,5,6,7,8,9,10],uF 44 1 43 [0,1,2,3,4,5,6,7,8,9,10],uL 45 44 [0,1,2,3,4,5,6,7,8,9,10],oM 46 (.appendD 1 (.t 39) (.t 45)) [0,1],oM 47 (.build Lz1 [(0,1,(.t 38)),(1,1,(.t 46))]) [0,1],oM 48 (.bslice 2 [.list true [],.list true []] 1 [(0,(.t 47))]) [0,1],⟨some 49,.append 2 (.t 30) (.t 48),none,[],4⟩,qF 50 5 3,qX 1 50 49 4])) (.ops [qM 27 4,qK 28 .add 27 1,qM 4 28]))
def ZLw:C:=oS [qO 1 0,oB 2 (.alloc (.agg Lz5))] (.seq (.draw [qF 5 0 1,qL 6 5,uF 7 1 1 [0,1],uL 8 7 [0,1],oM 9 (.bslice 3 [zD,zD,zD] 0 []) [0,1,2,3],uF 10 2 1 [0,1,2,3,4],uL 11 10 [0,1,2,3,4],oM 12 (.append 3 (.t 9) (.t 11)) [0,1,2,3],oM 13 (.bslice 2 [zD,zD] 0 []) [0,1,2,3,4,5,6,7],uF 14 3 1 [0,1,2,3,4,5,6,7,8],uL 15 14 [0,1,2,3,4,5,6,7,8],oM 16 (.append 2 (.t 13) (.t 15)) [0,1,2,3],oM 17 (.bslice 3 [zD,zD,zD] 0 []) [0,1,2,3,4,5,6,7,8,9,10,11],uF 18 4 1 [0,1,2,3,4,5,6,7,8,9,10,11,12],uL 19 18 [0,1,2,3,4,5,6,7,8,9,10,11,12],oM 20 (.append 3 (.t 17) (.t 19)) [0,1,2,3],oB 21 (.build Lz5 [(0,1,(.t 6)),(1,1,(.t 8)),(2,1,(.t 12)),(3,1,(.t 16)),(4,1,(.t 20))]),oM 3 (.alloc (.agg Lz5)) [0,1,2,3,4,5,6,7,8,9,10,11,12,13,14,15,16],qX 6 3 21 4]) (.seq (oS [qW 4 0] (.block 0 (.loop [1,2,3,4] [2,3] ZBU))) (oR [qA 51 6 3,qS 6 2 51])))
def ZId:FnI:=⟨1,ZLw,[(2,some (6,true))]⟩
def ZK7:C:=oS [qO 1 0,qW 2 0,qW 3 0] (.seq (oS [qA 6 5 1,qC 7 78 6,qM 4 7] (oS [qM 8 4,qK 9 .neq 8 0] (oC 9 [qM 10 4,qW 2 0,qM 3 10]))) (oS [qA 11 5 1,qC 12 80 11,oB 13 (.invoke [(192,130),(193,239)] (.t 12) []),oB 5 (.alloc (.d (.agg [zD,zD]))),qS 2 5 13] (.seq (.draw [qF 14 0 5,qL 15 14,uF 16 1 5 [0,1],uL 17 16 [0,1],uM 2 15 [2,3],qM 3 17]) .ret)))
def ZHc:FnI:=⟨1,ZK7,[(2,none),(3,none)]⟩
def ZCG:C:=oS [qB 33 .lss 32 31] (.seq (cX 33 0) (.seq (.block 1 (oS [qM 34 32,qM 6 34] (.ops [qM 35 5,qA 36 6 1,qM 37 6,qG 38 82 35 36 37]))) (.ops [qK 39 .add 32 1,qM 32 39])))
def ZDb:C:=oS [qB 44 .lss 43 42] (.seq (cX 44 2) (.seq (.block 3 (oS [qI 45 2 41 43,qA 46 2 45,oB 8 (.alloc (.d (.agg [zD,zD]))),qS 2 8 46] (.draw [qM 47 5,uM 48 5 [0],uZ 49 48 [0],uF 50 4 49 [0],uL 51 50 [0],uF 52 0 8 [0,1,2,3,4],uL 53 52 [0,1,2,3,4],oM 54 (.mapget [false] (.int .i64 0) (.t 51) (.t 53)) [0],uM 55 5 [0,1,2,3,4,5,6,7],uZ 56 55 [0,1,2,3,4,5,6,7],uF 57 3 56 [0,1,2,3,4,5,6,7],uL 58 57 [0,1,2,3,4,5,6,7],uF 59 1 8 [0,1,2,3,4,5,6,7,8,9,10,11],uL 60 59 [0,1,2,3,4,5,6,7,8,9,10,11],oM 61 (.mapget [false] (.int .i64 0) (.t 58) (.t 60)) [0,1,2,3,4,5,6,7],⟨some 62,.call 83 [.t 47,.t 54,.t 61],none,[],4⟩]))) (.ops [qK 63 .add 43 1,qM 43 63])))
def ZDc:C:=oS [qB 68 .lss 67 66] (.seq (cX 68 4) (.seq (.block 5 (oS [qI 69 3 65 67,qA 70 3 69,oB 10 (.alloc (.d (.agg [zD,zD,zD]))),qS 3 10 70] (.draw [qM 71 5,uM 72 5 [0],uZ 73 72 [0],uF 74 4 73 [0],uL 75 74 [0],uF 76 0 10 [0,1,2,3,4],uL 77 76 [0,1,2,3,4],oM 78 (.mapget [false] (.int .i64 0) (.t 75) (.t 77)) [0],uM 79 5 [0,1,2,3,4,5,6,7],uZ 80 79 [0,1,2,3,4,5,6,7],uF 81 5 80 [0,1,2,3,4,5,6,7],uL 82 81 [0,1,2,3,4,5,6,7],uA 83 3 10 [0,1,2,3,4,5,6,7,8,9,10,11],oM 84 (.mapget [false,false,false] (.int .i64 0) (.t 82) (.t 83)) [0,1,2,3,4,5,6,7],⟨some 85,.call 83 [.t 71,.t 78,.t 84],none,[],4⟩]))) (.ops [qK 86 .add 67 1,qM 67 86])))
def ZCY:C:=oS [qB 103 .lss 102 101] (.seq (cX 103 8) (.seq (.block 9 (oS [qI 104 1 100 102,qL 105 104,qM 15 105] (.ops [qM 106 5,qM 107 5,qZ 108 107,qF 109 4 108,qL 110 109,qM 111 15,oB 112 (.mapget [false] (.int .i64 0) (.t 110) (.t 111)),qM 113 13,qG 114 83 106 112 113]))) (.ops [qK 115 .add 102 1,qM 102 115])))
def ZD5:C:=oS [qB 120 .lss 119 118] (.seq (cX 120 10) (.seq (.block 11 (oS [qI 121 1 117 119,qL 122 121,qM 17 122] (.ops [qM 123 5,qM 124 13,qM 125 5,qZ 126 125,qF 127 3 126,qL 128 127,qM 129 17,oB 130 (.mapget [false] (.int .i64 0) (.t 128) (.t 129)),qG 131 83 123 124 130]))) (.ops [qK 132 .add 119 1,qM 119 132])))
def ZDq:C:=oS [qB 91 .lss 90 89] (.seq (cX 91 6) (.seq (.block 7 (oS [qM 92 90,qI 93 2 88 90,qA 94 2 93,oB 12 (.alloc (.agg Lz1)),qM 11 92,qS 2 12 94] (oS [qM 95 5,qM 96 11,oB 97 (.build Lz2 [(0,1,(iN (-1))),(1,1,(.t 96))]),oB 98 (.call 84 [.t 95,.t 97,(iN 1)]),qM 13 98] (.seq (oS [qF 99 0 12,qL 100 99,qN 101 100,qW 102 0] (.block 8 (.loop [2,5,12,13,88,89,90,100,101,102] [2,5,12,13,88,89,90] ZCY))) (oS [qF 116 1 12,qL 117 116,qN 118 117,qW 119 0] (.block 10 (.loop [2,5,13,88,89,90,117,118,119] [2,5,88,89,90] ZD5))))))) (.ops [qK 133 .add 90 1,qM 90 133])))
def ZLo:C:=oS [qO 1 0,oB 2 (.alloc (.agg Lz4)),qW 3 0] (.seq (oS [qA 18 6 1,qC 19 81 18,qM 4 19] (oS [qM 20 4,qK 21 .neq 20 0] (oC 21 [oB 22 (.build Lz4 []),qM 23 4,qS 3 2 22,qM 3 23]))) (oS [oB 24 .mkmap,oB 25 .mkmap,oB 26 .mkmap,oB 27 (.build [(.nilsl 1),(.nilsl 2),(.nilsl 2),.bad,.bad,.bad] [(3,1,(.t 24)),(4,1,(.t 25)),(5,1,(.t 26))]),qO 28 27,qM 5 28] (.seq (oS [qF 29 2 1,qL 30 29,qN 31 30,qW 32 0] (.block 0 (.loop [1,2,5,31,32] [1,2,5] ZCG))) (.seq (oS [qF 40 3 1,qL 41 40,qN 42 41,qW 43 0] (.block 2 (.loop [1,2,5,41,42,43] [1,2,5] ZDb))) (.seq (oS [qF 64 4 1,qL 65 64,qN 66 65,qW 67 0] (.block 4 (.loop [1,2,5,65,66,67] [1,2,5] ZDc))) (.seq (oS [qF 87 5 1,qL 88 87,qN 89 88,qW 90 0] (.block 6 (.loop [2,5,88,89,90] [2,5] ZDq))) (.seq (oS [qM 134 5,qZ 135 134,qF 136 0 135,qF 137 0 136,qA 138 2 137,qC 139 85 138,qK 140 .neq 139 0] (oC 140 [oB 141 (.build Lz4 []),qS 3 2 141,qW 3 70])) (oR [qM 142 5,qZ 143 142,qF 144 0 143,qA 145 3 144,qS 3 2 145,qW 3 0]))))))))
def ZHa:FnI:=⟨1,ZLo,[(2,some (3,true)),(3,none)]⟩
def ZCI:C:=oS [qB 27 .lss 26 25] (.seq (cX 27 0) (.seq (.block 1 (oS [qI 28 1 24 26,qL 29 28,qM 12 29] (.ops [qM 30 10,qM 31 12,qB 32 .add 30 31,qM 10 32]))) (.ops [qK 33 .add 26 1,qM 26 33])))
def ZDw:C:=.seq (oS [qF 36 1 8,qL 37 36,oB 38 (.call 44 [.t 37,(.c (.d (.fn 86 [])))])] (cX 38 2)) (.block 3 (oS [qA 39 2 3,qA 40 2 8,qD 41 87 39 40] (oS [qM 42 13,qF 43 0 8,qL 44 43,qC 45 47 44,oB 46 (.bslice 1 [.list true []] 1 [(0,(.t 45))]),qY 47 42 46,qM 13 47] (.ops [qA 48 2 8,qC 49 88 48]))))
def ZLe:C:=oS [qO 3 0,ZgB 6 1,qW 7 0] (oS [qA 15 2 3,qM 16 1,qM 17 2,qG 18 51 15 16 17,qM 14 18,qE 19 14 0,qE 20 14 1,oB 8 (.alloc (.agg Lz1)),qS 2 8 19,qM 9 20] (.seq (oS [qM 21 9,qK 22 .neq 21 0] (oC 22 [qM 23 9,ZgB 6 1,qM 7 23])) (oS [qW 10 0] (.seq (oS [qM 24 1,qN 25 24,qW 26 0] (.block 0 (.loop [3,8,10,24,25,26] [3,8,10] ZCI))) (.seq (oS [qM 34 10,qK 35 .gtr 34 4096] (oC 35 [ZgB 6 1,qW 7 100])) (oS [ZgB 13 1] (.seq (.block 2 (.loop [3,8,13] [13] ZDw)) (oR [qM 50 13,qM 6 50,qW 7 0]))))))))
def ZHe:FnI:=⟨3,ZLe,[(6,none),(7,none)]⟩
def ZLz:C:=oS [qff 4] (oR [qM 5 0,qM 6 1,qD 7 94 5 6,qK 8 .geq 7 0,qM 4 8])
def ZxR:FnI:=⟨2,ZLz,[(4,none)]⟩
def ZKH:C:=oS [qff 2] (oR [qM 3 0,qK 4 .gtr 3 0,qM 2 4])
def ZHO:FnI:=⟨1,ZKH,[(2,none)]⟩
def ZCR:C:=.seq (oS [qM 15 7,qN 16 15,qK 17 .gtr 16 0] (cX 17 0)) (.seq (.block 1 (oS [qM 20 0,qM 21 7,qM 22 1,qM 23 6,oB 24 (.call 95 [.t 20,.t 21,.t 22,.t 23]),qM 8 24] (.seq (oS [qM 25 0,qM 26 8,qD 27 67 25 26,qM 9 27] (oS [qM 28 9,qK 29 .neq 28 0] (oC 29 [qM 30 9,qW 4 0,qM 5 30]))) (oS [qM 31 0,qM 32 8,qZ 33 31,qF 34 7 33,qS 1 34 32] (.ops [qM 35 6,qK 36 .add 35 1,qM 6 36]))))) (.ops [qM 18 0,qC 19 63 18,qM 7 19]))
def ZKP:C:=oS [qW 4 0,qW 5 0] (oS [qW 6 0] (oS [qM 10 0,qZ 11 10,qF 12 7 11,qR 1 12 (-1)] (.seq (oS [qM 13 0,qC 14 63 13,qM 7 14] (.block 0 (.loop [0,1,6,7] [4,5,6] ZCR))) (oR [qM 37 6,qM 4 37,qW 5 0]))))
def ZHP:FnI:=⟨2,ZKP,[(4,none),(5,none)]⟩
def ZKL:C:=oR [(oB 2 (.append 1 (.c (.nilsl 1)) (.t 0)))]
def ZHg:FnI:=⟨1,ZKL,[(2,none)]⟩
def ZFo:C:=oS [qB 81 .lss 80 79] (.seq (cX 81 2) (.seq (.block 3 (oS [qI 82 1 78 80,qL 83 82,qM 14 83] (.seq (oS [qM 84 8,qM 85 14,qD 86 71 84 85,qU 87 86,qM 88 87,vM 89 10 88 false,vM 90 14 88 false,vD 91 71 89 90 88 false,qJ 92 88 91] (cY 92 (.exit 3) .skip)) (.seq (oS [qM 93 9,qM 94 11,qM 95 14,oB 96 (.callv (.t 93) [.t 94,.t 95]),qU 97 96] (oC 97 [ZgB 2 1,qW 3 130])) (.ops [qM 98 10,qM 99 14,qH 100 99,qY 101 98 100,qM 10 101]))))) (.ops [qK 102 .add 80 1,qM 80 102])))
def ZDf:C:=oS [qB 55 .lss 54 53] (.seq (cX 55 0) (.seq (.block 1 (oS [qM 56 54,qI 57 1 52 54,qL 58 57,qM 11 56,qM 12 58] (.seq (oS [qM 59 12,qK 60 .eql 59 (-1),qM 61 60,vM 62 0 61 false,vZ 63 62 61 false,vF 64 0 63 61 false,vF 65 0 64 61 false,vF 66 0 65 61 false,vL 67 66 61 false,vM 68 11 61 false,vI 69 1 67 68 61 false,vL 70 69 61 false,vK 71 .neq 70 (-1) 61 false,qJ 72 61 71] (cY 72 (.exit 1) .skip)) (oS [qM 73 0,qZ 74 73,qF 75 5 74,qA 76 2 75,qM 77 12,qD 78 97 76 77,qN 79 78,qW 80 0] (.block 2 (.loop [0,6,8,9,10,11,52,53,54,78,79,80] [0,2,3,6,8,9,10,52,53,54] ZFo)))))) (.ops [qK 103 .add 54 1,qM 54 103])))
def ZKJ:C:=oS [ZgB 2 1,qW 3 0] (oS [qM 15 0,qZ 16 15,qF 17 0 16,qF 18 0 17,qF 19 0 18,qL 20 19,qC 21 47 20,qM 4 21] (.seq (.draw [qM 23 0,qZ 24 23,qF 25 5 24,qA 26 2 25,uM 27 0 [0,1,2,3],uZ 28 27 [0,1,2,3],uF 29 0 28 [0,1,2,3],uF 30 0 29 [0,1,2,3],uA 31 2 30 [0,1,2,3],qD 32 96 26 31,qM 22 32,qE 33 22 0,uE 34 22 1 [11],uE 35 22 2 [11,12],oM 5 (.alloc (.agg Lz1)) [0,1,2,3,4,5,6,7,8,9,10,11,12,13],qX 2 5 33 4,uM 6 34 [13],qM 7 35]) (.seq (oS [qM 36 7,qK 37 .neq 36 0] (oC 37 [qM 38 7,ZgB 2 1,qM 3 38])) (oS [qM 39 0,qA 40 2 5,qZ 41 39,qF 42 0 41,qF 43 0 42,qS 2 43 40] (.seq (.draw [qM 44 0,qZ 45 44,qF 46 5 45,qA 47 2 46,uA 48 2 5 [0,1,2,3],qD 49 53 47 48,qM 8 49]) (oS [qM 50 0,oB 51 (.mkfn 1000054 [.t 50]),qM 9 51] (oS [ZgB 10 1] (.seq (oS [qM 52 4,qN 53 52,qW 54 0] (.block 0 (.loop [0,6,8,9,10,52,53,54] [2,3,6] ZDf))) (oR [qM 104 6,qM 2 104,qW 3 0])))))))))
def ZHU:FnI:=⟨1,ZKJ,[(2,none),(3,none)]⟩
def ZFb:C:=oS [qB 23 .lss 22 21] (.seq (cX 23 0) (.seq (.block 1 (.ops [qF 24 0 9,qL 25 24,oB 26 (.bslice 1 [zD] 1 [(0,(iN (-1)))]),qY 27 25 26,qF 28 0 9,qS 1 28 27])) (.ops [qK 29 .add 22 1,qM 22 29])))
def ZKV:C:=oS [qO 3 0,oB 6 (.alloc (.agg Lz1)),qW 7 0] (.seq (oS [qA 10 2 3,qM 11 1,qM 12 2,oB 13 (.call 31 [.t 10,.t 11,.t 12,(.c (.nilsl 1))]),qM 8 13] (oS [qM 14 8,qK 15 .neq 14 0] (oC 15 [oB 16 (.build Lz1 []),qM 17 8,qS 2 6 16,qM 7 17]))) (oS [qM 18 1,qC 19 47 18,oB 20 (.build Lz1 [(1,1,(.t 19))]),oB 9 (.alloc (.agg Lz1)),qS 2 9 20] (.seq (oS [qM 21 2,qW 22 0] (.block 0 (.loop [6,9,21,22] [6,9] ZFb))) (oR [qA 30 2 9,qS 2 6 30,qW 7 0]))))
def ZHN:FnI:=⟨3,ZKV,[(6,some (2,true)),(7,none)]⟩
def ZKI:C:=oS [oB 2 (.alloc (.agg Lz0)),qW 3 0] (.seq (oS [qM 7 0,qC 8 103 7,qM 6 8,qE 9 6 0,qE 10 6 1,qM 4 9,qM 5 10] (oS [qM 11 5,qU 12 11,qM 13 12,vM 14 0 13 false,vK 15 .gtr 14 64 13 false,qJ 16 13 15] (oC 16 [oB 17 (.build Lz0 []),qS 3 2 17,qW 3 120]))) (oR [qM 18 0,oB 19 (.mkslice 1 [zD] (.t 18) (.t 18)),oB 20 (.build Lz0 [(0,1,(.t 19))]),qS 3 2 20,qW 3 0]))
def ZIl:FnI:=⟨1,ZKI,[(2,some (3,true)),(3,none)]⟩
def ZKW:C:=oS [qO 2 0,qO 3 1,ZgB 4 1] (.seq (oS [qA 5 2 2,qA 6 2 3,qD 7 65 5 6,qK 8 .neq 7 0] (oC 8 [ZgB 4 1])) (oR [qA 9 2 2,qA 10 2 3,qD 11 104 9 10,qM 4 11]))
def ZIr:FnI:=⟨2,ZKW,[(4,none)]⟩
def ZKQ:C:=oS [qff 6] (oS [qM 10 0,qZ 11 10,qF 12 0 11,qF 13 2 12,qL 14 13,qM 15 1,qI 16 3 14 15,qA 17 3 16,qM 18 2,qD 19 105 17 18,qM 9 19,qE 20 9 0,qE 21 9 1,oB 7 (.alloc (.agg Lz0)),qS 3 7 20,qM 8 21] (.seq (oS [qM 22 8,qK 23 .eql 22 0] (cY 23 (.draw [qM 24 0,qZ 25 24,qF 26 0 25,qF 27 2 26,qL 28 27,uM 29 1 [0,1,2,3,4],uA 30 3 7 [0,1,2,3,4,5],qI 31 3 28 29,qX 3 31 30 4]) .skip)) (oR [qM 32 8,qK 33 .eql 32 0,qM 6 33])))
def ZHG:FnI:=⟨3,ZKQ,[(6,none)]⟩
def ZyG:C:=oS [qB 21 .lss 20 19] (.seq (cX 21 0) (.seq (.block 1 (oS [qM 22 20,qI 23 1 18 20,qL 24 23,qM 5 22,qM 6 24] (oS [qM 25 6,qK 26 .eql 25 (-1),qM 27 26,vM 28 3 27 true,vM 29 28 27 true,vM 30 0 29 false,vZ 31 30 29 false,vF 32 0 31 29 false,vF 33 3 32 29 false,vL 34 33 29 false,vM 35 5 29 false,vI 36 6 34 35 29 false,vF 37 1 36 29 false,vL 38 37 29 false,vK 39 .neq 38 0 29 false,vJ 40 29 39 27 true,qP 41 27 40] (cY 41 (.ops [qM 42 4,qM 43 5,qH 44 43,qY 45 42 44,qM 4 45]) .skip)))) (.ops [qK 46 .add 20 1,qM 20 46])))
def ZLl:C:=oS [ZgB 2 1] (oS [qM 7 0,qZ 8 7,qF 9 0 8,qF 10 2 9,qL 11 10,oB 12 (.call 111 [.t 11,(.c (.d (.fn 112 [])))]),qM 3 12] (oS [ZgB 4 1] (.seq (oS [qM 13 0,qZ 14 13,qF 15 0 14,qF 16 0 15,qF 17 0 16,qL 18 17,qN 19 18,qW 20 0] (.block 0 (.loop [0,3,4,18,19,20] [4] ZyG))) (oR [qM 47 4,qM 2 47]))))
def ZHR:FnI:=⟨1,ZLl,[(2,none)]⟩
def ZKX:C:=oS [qO 2 0,qO 3 1,qW 4 0] (oS [qA 6 2 2,qC 7 85 6,qM 5 7] (.seq (oS [qM 8 5,qK 9 .eql 8 0,qM 10 9,vA 11 2 2 10 true,vA 12 2 3 10 true,vD 13 114 11 12 10 true,vU 14 13 10 true,qP 15 10 14] (cY 15 (.ops [qW 5 110]) .skip)) (oR [qM 16 5,qM 4 16])))
def ZIu:FnI:=⟨2,ZKX,[(4,none)]⟩
def ZKM:C:=oS [qW 4 0] (oS [qM 10 0,qZ 11 10,qF 12 0 11,qF 13 0 12,qF 14 0 13,qL 15 14,qN 16 15,qM 5 16] (oS [qM 17 1,qM 18 0,qZ 19 18,qF 20 0 19,qF 21 4 20,qL 22 21,qM 23 1,qI 24 1 22 23,qL 25 24,qB 26 .add 17 25,qM 27 5,qB 28 .rem 26 27,qM 6 28] (.seq (.draw [qM 30 0,qZ 31 30,qF 32 0 31,qF 33 2 32,qL 34 33,uM 35 6 [0,1,2,3,4],qI 36 3 34 35,qA 37 3 36,uM 38 0 [0,1,2,3,4,5,6,7],uZ 39 38 [0,1,2,3,4,5,6,7],uF 40 0 39 [0,1,2,3,4,5,6,7],uF 41 3 40 [0,1,2,3,4,5,6,7],uL 42 41 [0,1,2,3,4,5,6,7],uM 43 1 [0,1,2,3,4,5,6,7,8,9,10,11,12],uI 44 6 42 43 [0,1,2,3,4,5,6,7],uA 45 6 44 [0,1,2,3,4,5,6,7],qD 46 116 37 45,qM 29 46,qE 47 29 0,uE 48 29 1 [18],uE 49 29 2 [18,19],oM 7 (.alloc (.agg Lz0)) [0,1,2,3,4,5,6,7,8,9,10,11,12,13,14,15,16,17,18,19,20],oM 8 (.alloc (.d (.agg [.bool false,zD,zD,zD,zD,zD]))) [0,1,2,3,4,5,6,7,8,9,10,11,12,13,14,15,16,17,18,19,20,21],qX 3 7 47 4,qX 6 8 48 4,qM 9 49]) (.seq (oS [qM 50 9,qK 51 .neq 50 0] (oC 51 [qW 4 130])) (.seq (.draw [qM 52 0,qZ 53 52,qF 54 0 53,qF 55 2 54,qL 56 55,uM 57 6 [0,1,2,3,4],uM 58 0 [0,1,2,3,4,5],uZ 59 58 [0,1,2,3,4,5],uF 60 0 59 [0,1,2,3,4,5],uF 61 3 60 [0,1,2,3,4,5],uL 62 61 [0,1,2,3,4,5],uM 63 1 [0,1,2,3,4,5,6,7,8,9,10],uA 64 3 7 [0,1,2,3,4,5,6,7,8,9,10,11],⟨some 65,.load 6 true (.t 8),none,[0,1,2,3,4,5,6,7,8,9,10,11,12],1⟩,uI 66 3 56 57 [11,13],⟨none,.storek 3 (.t 66) (.t 64) [.t 8],none,[],3⟩,qI 67 6 62 63,qX 6 67 65 4]) (.seq (oS [qF 68 5 8,qL 69 68] (.block 0 (oS [qK 71 .eql 69 1,qM 70 71] (cY 70 (.seq (.seq (.draw [qM 72 0,qZ 73 72,qF 74 5 73,qA 75 2 74,uM 76 0 [0,1,2,3],uZ 77 76 [0,1,2,3],uF 78 0 77 [0,1,2,3],uF 79 0 78 [0,1,2,3],uA 80 2 79 [0,1,2,3],qD 81 53 75 80,uF 82 4 8 [0,1,2,3,4,5,6,7,8,9],uL 83 82 [0,1,2,3,4,5,6,7,8,9],qD 84 71 81 83,qU 85 84]) (oC 85 [qW 4 130])) (.seq (.draw [qM 86 0,qZ 87 86,qF 88 0 87,qF 89 0 88,qF 90 0 89,qL 91 90,uM 92 1 [0,1,2,3,4,5],uF 93 4 8 [0,1,2,3,4,5,6],uL 94 93 [0,1,2,3,4,5,6],qI 95 1 91 92,qX 1 95 94 4]) (.ops [qM 96 0,qM 97 1,oB 98 (.call 117 [.t 96,.t 97,(iN 0)])]))) (.seq (oS [qK 100 .eql 69 2,qM 99 100] (cY 99 .skip (.ops [qK 101 .eql 69 3,qM 99 101]))) (cY 99 (.ops [qM 102 0,qM 103 1,qM 104 0,qZ 105 104,qF 106 0 105,qF 107 4 106,qL 108 107,qM 109 1,qI 110 1 108 109,qL 111 110,qK 112 .add 111 1,qM 113 5,qB 114 .rem 112 113,qG 115 117 102 103 114]) .skip)))))) (oR [qW 4 0])))))))
def ZHA:FnI:=⟨2,ZKM,[(4,none)]⟩
def ZCr:C:=oS [qB 57 .lss 56 55] (.seq (cX 57 2) (.seq (.block 3 (oS [qM 58 56,qI 59 1 54 56,qL 60 59,qM 18 58,qM 19 60] (.seq (oS [qM 61 19,qK 62 .eql 61 (-1)] (cY 62 (.exit 3) .skip)) (oS [qM 63 15,qA 64 2 5,qM 65 17,qM 66 16,qM 67 18,oB 68 (.call 121 [.t 63,.t 64,.t 65,.t 66,.t 67]),qM 13 68] (oS [qM 69 13,qK 70 .neq 69 0] (cY 70 (.exit 0) .skip)))))) (.ops [qK 71 .add 56 1,qM 56 71])))
def ZCV:C:=oS [qB 80 .lss 79 78] (.seq (cX 80 4) (.seq (.block 5 (oS [qM 81 79,qI 82 1 77 79,qL 83 82,qM 20 81,qM 21 83] (oS [qM 84 21,qK 85 .neq 84 (-1)] (cY 85 (.ops [qM 86 15,qM 87 21,qM 88 16,qM 89 20,oB 90 (.call 122 [.t 86,.t 87,.t 88,.t 89])]) .skip)))) (.ops [qK 91 .add 79 1,qM 79 91])))
def ZC5:C:=oS [qB 50 .lss 49 48] (.seq (cX 50 0) (.seq (.block 1 (oS [qM 51 49,qI 52 1 47 49,qL 53 52,qM 16 51,qM 17 53] (.seq (oS [qM 54 17,qN 55 54,qW 56 0] (.block 2 (.loop [4,5,13,15,16,17,47,48,49,54,55,56] [4,5,13,15,16,17,47,48,49] ZCr))) (oS [qM 72 4,qM 73 15,qM 74 16,qM 75 17,oB 76 (.callv (.t 72) [.t 73,.t 74,.t 75])] (oS [qM 77 17,qN 78 77,qW 79 0] (.block 4 (.loop [4,5,13,15,16,47,48,49,77,78,79] [4,5,13,15,47,48,49] ZCV))))))) (.ops [qK 92 .add 49 1,qM 49 92])))
def ZLr:C:=oS [qO 5 0,qO 7 2,oB 10 (.mov (.c (.d (.nilp)))),qW 11 0] (oS [qA 23 2 5,qM 24 1,qL 25 7,qG 26 73 23 24 25,qM 22 26,qE 27 22 0,qE 28 22 1,qM 12 27,qM 13 28] (.seq (oS [qM 29 13,qK 30 .neq 29 0] (oC 30 [qM 31 13,oB 10 (.mov (.c (.d (.nilp)))),qM 11 31])) (oS [oB 32 (.mkfn 118 [.t 7]),qM 14 32] (.seq (oS [qM 33 12,qU 34 33,qM 35 34,vM 36 3 35 false,vN 37 36 35 false,vK 38 .gtr 37 4096 35 false,qJ 39 35 38,qM 40 39,vM 41 3 40 false,vM 42 14 40 false,vD 43 119 41 42 40 false,qJ 44 40 43] (oC 44 [oB 10 (.mov (.c (.d (.nilp)))),qW 11 100])) (oS [qM 45 1,qC 46 120 45,qM 15 46] (.seq .skip (.seq (oS [qM 47 3,qN 48 47,qW 49 0] (.block 0 (.loop [4,5,13,15,47,48,49] [13,15] ZC5))) (oR [qM 93 15,qM 94 13,qM 10 93,qM 11 94]))))))))
def ZHf:FnI:=⟨5,ZLr,[(10,none),(11,none)]⟩
def ZLs:C:=.skip
def ZIc:FnI:=⟨3,ZLs,[]⟩
def ZLi:C:=oS [qff 4] (oR [qM 5 0,qM 6 1,qD 7 123 5 6,qK 8 .geq 7 0,qM 4 8])
def ZHS:FnI:=⟨2,ZLi,[(4,none)]⟩
def ZKR:C:=oS [qO 4 0,qO 5 1,qO 6 2,qO 7 3,qff 8] (oR [qF 9 1 5,qL 10 9,oB 11 (.mkfn 125 [.t 6,.t 4,.t 7]),qD 12 124 10 11,qU 13 12,qM 8 13])
def ZHb:FnI:=⟨4,ZKR,[(8,none)]⟩
def ZK9:C:=oS [qO 3 0,qff 6,qW 7 0] (.seq (oS [qA 10 2 3,qC 11 85 10,qM 8 11] (oS [qM 12 8,qK 13 .neq 12 0] (oC 13 [qM 14 8,qff 6,qM 7 14]))) (oS [oB 9 (.mov (.c (.d (.fn 127 []))))] (oR [qM 15 1,qN 16 15,qF 17 0 3,qL 18 17,qN 19 18,qB 20 .eql 16 19,qM 21 20,vM 22 1 21 true,vM 23 9 21 true,vD 24 44 22 23 21 true,vU 25 24 21 true,qP 26 21 25,qM 27 26,vM 28 2 27 true,vK 29 .geq 28 1 27 true,qP 30 27 29,qM 31 30,vM 32 2 31 true,vK 33 .leq 32 8 31 true,qP 34 31 33,qM 6 34,qW 7 0])))
def ZHp:FnI:=⟨3,ZK9,[(6,none),(7,none)]⟩
def ZCS:C:=oS [qB 13 .lss 12 11] (.seq (cX 13 0) (.seq (.block 1 (oS [qI 14 1 10 12,qL 15 14,qM 5 15] (.ops [qM 16 3,qM 17 5,qB 18 .add 16 17,qM 3 18]))) (.ops [qK 19 .add 12 1,qM 12 19])))
def ZKN:C:=oS [qO 1 0,qW 2 0] (oS [qW 3 0] (.seq (oS [qA 6 2 1,qC 7 85 6,qK 8 .eql 7 0] (cY 8 (oS [qF 9 0 1,qL 10 9,qN 11 10,qW 12 0] (.block 0 (.loop [3,10,11,12] [3] ZCS))) .skip)) (oR [qM 20 3,qM 2 20])))
def ZHV:FnI:=⟨1,ZKN,[(2,none)]⟩
def ZC4:C:=oS [qB 25 .lss 24 23] (.seq (cX 25 2) (.seq (.block 3 (oS [qI 26 1 22 24,qL 27 26,qM 8 27] (.draw [qM 28 3,uM 29 6 [0],uM 30 3 [0,1],uM 31 6 [0,1,2],uI 32 1 30 31 [0,1],uL 33 32 [0,1],uM 34 3 [0,1,2,3,4,5],uM 35 8 [0,1,2,3,4,5,6],uI 36 1 34 35 [0,1,2,3,4,5],uL 37 36 [0,1,2,3,4,5],oM 38 (.mx true [.t 33,.t 37]) [0,1],qI 39 1 28 29,qX 1 39 38 4]))) (.ops [qK 40 .add 24 1,qM 24 40])))
def ZDD:C:=oS [qB 17 .lss 16 15] (.seq (cX 17 0) (.seq (.block 1 (oS [qI 18 1 14 16,qL 19 18,qM 6 19] (.seq (oS [qA 20 2 1,qM 21 6,qD 22 129 20 21,qN 23 22,qW 24 0] (.block 2 (.loop [1,3,4,6,14,15,16,22,23,24] [1,3,4,6,14,15,16] ZC4))) (.seq (.draw [qM 41 3,uM 42 6 [0],qI 43 1 41 42,qL 44 43,uF 45 0 1 [0,1,2,3],uL 46 45 [0,1,2,3],uM 47 6 [0,1,2,3,4,5],uI 48 1 46 47 [0,1,2,3],uL 49 48 [0,1,2,3],qB 50 .add 44 49,qI 51 1 41 42,qX 1 51 50 4]) (.ops [qM 52 4,qM 53 3,qM 54 6,qI 55 1 53 54,qL 56 55,oB 57 (.mx true [.t 52,.t 56]),qM 4 57]))))) (.ops [qK 58 .add 16 1,qM 16 58])))
def ZKZ:C:=oS [qO 1 0,qW 2 0] (oS [qF 9 0 1,qL 10 9,qN 11 10,oB 12 (.mkslice 1 [zD] (.t 11) (.t 11)),qM 3 12] (oS [qW 4 0] (.seq (oS [qA 13 2 1,qC 14 128 13,qN 15 14,qW 16 0] (.block 0 (.loop [1,3,4,14,15,16] [4] ZDD))) (oR [qM 59 4,qM 2 59]))))
def ZHB:FnI:=⟨1,ZKZ,[(2,none)]⟩
def ZLb:C:=oS [qO 1 0,qff 2] (.seq (.draw [qA 3 5 1,qC 4 78 3,qK 5 .eql 4 0,qM 6 5,vA 7 5 1 6 true,vC 8 80 7 6 true,oG 9 (.invoke [(192,130),(193,239)] (.t 8) []) 6 true,wA 10 5 1 6 true [4,5,6],⟨some 11,.build Lz3 [(0,5,(.t 10))],some (6,true),[4,5,6],0⟩,vC 12 130 11 6 true,oG 13 (.eqv [false,false] true (.t 9) (.t 12)) 6 true,qP 14 6 13,qM 2 14]) .ret)
def ZJk:FnI:=⟨1,ZLb,[(2,none)]⟩
def ZLy:C:=oS [qO 2 0,qW 4 0] (.seq (oS [qA 5 5 2,qC 6 78 5,qK 7 .neq 6 0,qM 8 7,vM 9 1 8 false,vK 10 .lss 9 1 8 false,qJ 11 8 10,qM 12 11,vM 13 1 12 false,vK 14 .gtr 13 8 12 false,qJ 15 12 14] (oC 15 [qW 4 0])) (oR [qF 16 0 2,qL 17 16,qM 18 1,qK 19 .sub 18 1,qF 20 1 2,qL 21 20,qB 22 .mul 19 21,qB 23 .add 17 22,qM 24 1,qB 25 .quo 23 24,qM 4 25]))
def ZIA:FnI:=⟨2,ZLy,[(4,none)]⟩
def ZLp:C:=oS [qO 1 0,qW 2 0] (oS [qF 7 4 1,qL 8 7,qC 9 103 8,qM 6 9,qE 10 6 0,qE 11 6 1,qM 3 10,qM 4 11] (oS [oB 5 (.mov (.c (.d (.fn 131 []))))] (.seq (oS [qM 12 4,qU 13 12,qM 14 13,vF 15 4 1 14 false,vL 16 15 14 false,vK 17 .gtr 16 4096 14 false,qJ 18 14 17,qM 19 18,vM 20 5 19 false,vF 21 3 1 19 false,vL 22 21 19 false,vF 23 4 1 19 false,vL 24 23 19 false,oG 25 (.callv (.t 20) [.t 22,.t 24]) 19 false,vU 26 25 19 false,qJ 27 19 26,qM 28 27,vM 29 5 28 false,vF 30 0 1 28 false,vL 31 30 28 false,oG 32 (.callv (.t 29) [.t 31,(iN 4096)]) 28 false,vU 33 32 28 false,qJ 34 28 33,qM 35 34,vM 36 5 35 false,vF 37 1 1 35 false,vL 38 37 35 false,vF 39 0 1 35 false,vL 40 39 35 false,oG 41 (.callv (.t 36) [.t 38,.t 40]) 35 false,vU 42 41 35 false,qJ 43 35 42,qM 44 43,vM 45 5 44 false,vF 46 2 1 44 false,vL 47 46 44 false,vF 48 1 1 44 false,vL 49 48 44 false,oG 50 (.callv (.t 45) [.t 47,.t 49]) 44 false,vU 51 50 44 false,qJ 52 44 51] (oC 52 [qW 2 140])) (oR [qW 2 0]))))
def ZIh:FnI:=⟨1,ZLp,[(2,none)]⟩
def ZCs:C:=.seq (oS [qM 12 4,qM 13 0,qN 14 13,qB 15 .lss 12 14] (cX 15 0)) (.seq (.block 1 (.ops [qM 18 3,qM 19 0,qM 20 4,qI 21 1 19 20,qL 22 21,oB 23 (.mx true [.t 18,.t 22]),qM 3 23])) (.ops [qM 16 4,qK 17 .add 16 1,qM 4 17]))
def ZLh:C:=oS [qW 2 0] (.seq (oS [qM 5 0,qN 6 5,qK 7 .lss 6 1] (cY 7 (.ops [oB 8 (.mkif 9 (.c (.d (.str ⟨#[115,108,105,99,101,115,46,77,97,120,58,32,101,109,112,116,121,32,108,105,115,116]⟩)))),oA (.panic)]) .skip)) (oS [qM 9 0,oB 10 (.iaddr 1 (.t 9) (iN 0)),qL 11 10,qM 3 11] (.seq (oS [qW 4 1] (.block 0 (.loop [0,3,4] [3] ZCs))) (oR [qM 24 3,qM 2 24]))))
def ZHr:FnI:=⟨1,ZLh,[(2,none)]⟩
def ZLa:C:=oS [qO 1 0,oB 2 (.mov (.c (.d (.nilI))))] (.seq (oS [qF 3 0 1,qL 4 3,qF 5 3 1,qL 6 5,qB 7 .gtr 4 6] (oC 7 [qA 8 5 1,oB 9 (.build Lz3 [(0,5,(.t 8))]),oB 10 (.mkif 193 (.t 9)),qM 2 10])) (oR [qA 11 5 1,oB 12 (.build Lz3 [(0,5,(.t 11))]),oB 13 (.mkif 192 (.t 12)),qM 2 13]))
def ZIk:FnI:=⟨1,ZLa,[(2,none)]⟩
def ZFr:C:=oS [qB 64 .lss 63 62] (.seq (cX 64 0) (.seq (.block 1 (oS [qM 65 63,qI 66 2 61 63,qA 67 2 66,oB 6 (.alloc (.d (.agg [zD,zD]))),qM 5 65,qS 2 6 67] (.seq (.draw [qA 68 6 1,uF 69 0 6 [0],uL 70 69 [0],uF 71 1 6 [0,1,2],uL 72 71 [0,1,2],qG 73 135 68 70 72,qU 74 73,qM 75 74,vF 76 3 1 75 false,vL 77 76 75 false,wM 78 5 75 false [8,9],oG 79 (.slice 2 (.t 77) none (some (.t 78)) none) 75 false,wA 80 2 6 75 false [8,9,10,11],vD 81 136 79 80 75 false,qJ 82 75 81]) (oC 82 [qW 2 53])))) (.ops [qK 83 .add 63 1,qM 63 83])))
def ZEA:C:=oS [qB 88 .lss 87 86] (.seq (cX 88 2) (.seq (.block 3 (oS [qM 89 87,qI 90 3 85 87,qA 91 3 90,oB 8 (.alloc (.d (.agg [zD,zD,zD]))),qM 7 89,qS 3 8 91] (oS [oB 92 (.mkfn 137 [.t 8]),qM 9 92] (.seq (.draw [qA 93 6 1,uF 94 0 8 [0],uL 95 94 [0],uF 96 1 8 [0,1,2],uL 97 96 [0,1,2],qG 98 135 93 95 97,qU 99 98,qM 100 99,vF 101 2 8 100 false,vL 102 101 100 false,wF 103 2 1 100 false [8,9],wL 104 103 100 false [8,9],wF 105 1 8 100 false [8,9,10,11],wL 106 105 100 false [8,9,10,11],wI 107 3 104 106 100 false [8,9],wF 108 2 107 100 false [8,9],wL 109 108 100 false [8,9],⟨some 110,.bin .sub (.t 109) (iN 1),some (100,false),[8,9],0⟩,oG 111 (.call 132 [.t 102,(iN 1),.t 110]) 100 false,vU 112 111 100 false,qJ 113 100 112,qM 114 113,vF 115 4 1 114 false,vL 116 115 114 false,wM 117 7 114 false [22,23],oG 118 (.slice 3 (.t 116) none (some (.t 117)) none) 114 false,wM 119 9 114 false [22,23,24,25],vD 120 138 118 119 114 false,qJ 121 114 120]) (oC 121 [qW 2 54]))))) (.ops [qK 122 .add 87 1,qM 87 122])))
def ZEd:C:=oS [qB 127 .lss 126 125] (.seq (cX 127 4) (.seq (.block 5 (oS [qI 128 2 124 126,qA 129 2 128,oB 11 (.alloc (.agg Lz1)),qS 2 11 129] (oS [oB 130 (.mkfn 139 [.t 11]),qM 12 130] (oS [qA 131 6 1,qF 132 0 11,qL 133 132,qD 134 140 131 133,qU 135 134,qM 136 135,vA 137 6 1 136 false,vF 138 1 11 136 false,vL 139 138 136 false,vD 140 140 137 139 136 false,vU 141 140 136 false,qJ 142 136 141,qM 143 142,vF 144 0 11 143 false,vL 145 144 143 false,vM 146 12 143 false,vD 147 44 145 146 143 false,qJ 148 143 147] (oC 148 [qW 2 55]))))) (.ops [qK 149 .add 126 1,qM 126 149])))
def ZLd:C:=oS [qO 1 0,qW 2 0] (.seq (oS [qF 13 2 1,qL 14 13,qN 15 14,oB 16 (.call 132 [.t 15,(iN 1),(iN 16)]),qU 17 16,qM 18 17,vF 19 3 1 18 false,vL 20 19 18 false,vN 21 20 18 false,vK 22 .gtr 21 48 18 false,qJ 23 18 22,qM 24 23,vF 25 4 1 24 false,vL 26 25 24 false,vN 27 26 24 false,vK 28 .gtr 27 16 24 false,qJ 29 24 28,qM 30 29,vF 31 5 1 30 false,vL 32 31 30 false,vN 33 32 30 false,vK 34 .gtr 33 4 30 false,qJ 35 30 34] (oC 35 [qW 2 50])) (.seq (oS [qF 37 0 1,qL 38 37,qC 39 103 38,qM 36 39,qE 40 36 0,qE 41 36 1,qM 3 40,qM 4 41] (oS [qM 42 4,qU 43 42,qM 44 43,vF 45 0 1 44 false,vL 46 45 44 false,vK 47 .gtr 46 4096 44 false,qJ 48 44 47,qM 49 48,vF 50 1 1 49 false,vL 51 50 49 false,vF 52 0 1 49 false,vL 53 52 49 false,oG 54 (.call 132 [.t 51,(iN 1),.t 53]) 49 false,vU 55 54 49 false,qJ 56 49 55] (oC 56 [qW 2 51]))) (.seq (oS [qF 57 2 1,qL 58 57,oB 59 (.call 133 [.t 58,(.c (.d (.fn 134 [])))])] (oC 59 [qW 2 52])) (.seq (oS [qF 60 3 1,qL 61 60,qN 62 61,qW 63 0] (.block 0 (.loop [1,61,62,63] [1,2] ZFr))) (.seq (oS [qF 84 4 1,qL 85 84,qN 86 85,qW 87 0] (.block 2 (.loop [1,85,86,87] [1,2] ZEA))) (.seq (oS [qF 123 5 1,qL 124 123,qN 125 124,qW 126 0] (.block 4 (.loop [1,124,125,126] [2] ZEd))) (oR [qW 2 0])))))))
def ZHo:FnI:=⟨1,ZLd,[(2,none)]⟩
def ZtH:C:=oS [qB 28 .lss 27 26] (.seq (cX 28 0) (.seq (.block 1 (oS [qM 29 27,qM 8 29] (oS [qF 30 2 4,qL 31 30,qM 32 2,qI 33 3 31 32,qF 34 2 33,qL 35 34,qM 9 35] (.seq (oS [qM 36 8,qM 37 7,qN 38 37,qB 39 .lss 36 38] (cY 39 (.draw [qF 40 4 4,qL 41 40,uM 42 7 [0,1],uM 43 8 [0,1,2],uI 44 1 42 43 [0,1],uL 45 44 [0,1],qI 46 3 41 45,qF 47 2 46,qL 48 47,qM 9 48]) .skip)) (.seq (.draw [qM 49 0,qZ 50 49,qF 51 4 50,⟨some 52,.load 1 false (.t 51),none,[],1⟩,uM 53 2 [0,1,2,3],uM 54 0 [0,1,2,3,4],uM 55 2 [0,1,2,3,4,5],uM 56 8 [0,1,2,3,4,5,6],oM 57 (.build Lz2 [(0,1,(.t 55)),(1,1,(.t 56))]) [0,1,2,3,4,5],uM 58 9 [0,1,2,3,4,5,6,7,8],uM 59 6 [0,1,2,3,4,5,6,7,8,9],oM 60 (.bin .sub (.t 58) (.t 59)) [0,1,2,3,4,5,6,7,8],⟨some 61,.callk 84 [.t 54,.t 57,.t 60] [.t 51],none,[],4⟩,⟨none,.mapset [false] (.t 52) (.t 53) (.t 61),none,[],4⟩]) (.seq (oS [qM 62 8,qK 63 .gtr 62 0] (cY 63 (.seq (.draw [qM 64 0,uM 65 0 [0],uZ 66 65 [0],uF 67 4 66 [0],uL 68 67 [0],uM 69 2 [0,1,2,3,4],oM 70 (.mapget [false] (.int .i64 0) (.t 68) (.t 69)) [0],oM 71 (.bin .sub (.t 70) (iN 1)) [0],uM 72 0 [0,1,2,3,4,5,6,7],uZ 73 72 [0,1,2,3,4,5,6,7],uF 74 4 73 [0,1,2,3,4,5,6,7],uL 75 74 [0,1,2,3,4,5,6,7],uM 76 2 [0,1,2,3,4,5,6,7,8,9,10,11],oM 77 (.mapget [false] (.int .i64 0) (.t 75) (.t 76)) [0,1,2,3,4,5,6,7],⟨some 78,.call 83 [.t 64,.t 71,.t 77],none,[],4⟩]) (.draw [qM 79 0,qZ 80 79,qF 81 5 80,qL 82 81,uF 83 4 4 [0,1,2,3],uL 84 83 [0,1,2,3],uM 85 7 [0,1,2,3,4,5],uM 86 8 [0,1,2,3,4,5,6],oM 87 (.bin .sub (.t 86) (iN 1)) [0,1,2,3,4,5,6],uI 88 1 85 87 [0,1,2,3,4,5],uL 89 88 [0,1,2,3,4,5],uI 90 3 84 89 [0,1,2,3],uA 91 3 90 [0,1,2,3],uM 92 0 [0,1,2,3,4,5,6,7,8,9,10,11,12],uZ 93 92 [0,1,2,3,4,5,6,7,8,9,10,11,12],uF 94 4 93 [0,1,2,3,4,5,6,7,8,9,10,11,12],uL 95 94 [0,1,2,3,4,5,6,7,8,9,10,11,12],uM 96 2 [0,1,2,3,4,5,6,7,8,9,10,11,12,13,14,15,16],oM 97 (.mapget [false] (.int .i64 0) (.t 95) (.t 96)) [0,1,2,3,4,5,6,7,8,9,10,11,12],⟨none,.mapset [false,false,false] (.t 82) (.t 91) (.t 97),none,[],4⟩])) .skip)) (.ops [qM 98 9,qM 6 98]))))))) (.ops [qK 99 .add 27 1,qM 27 99])))
def ZLj:C:=oS [qO 4 1] (oS [qW 6 0] (.seq (.draw [qM 10 0,qZ 11 10,qF 12 3 11,qL 13 12,uM 14 2 [0,1,2,3],uM 15 0 [0,1,2,3,4],uZ 16 15 [0,1,2,3,4],uF 17 0 16 [0,1,2,3,4],uF 18 2 17 [0,1,2,3,4],uL 19 18 [0,1,2,3,4],uN 20 19 [0,1,2,3,4],⟨none,.mapset [false] (.t 13) (.t 14) (.t 20),none,[],4⟩]) (oS [qA 21 6 4,qM 22 2,qD 23 141 21 22,qM 7 23] (oS [qM 24 7,qN 25 24,qK 26 .add 25 1,qW 27 0] (.block 0 (.loop [0,2,4,6,7,26,27] [] ZtH))))))
def ZIb:FnI:=⟨3,ZLj,[]⟩
def ZLf:C:=.ops [qM 6 0,qM 7 0,qZ 8 7,qF 9 0 8,qF 10 0 9,qF 11 1 10,qL 12 11,qM 13 1,qM 14 2,oB 15 (.build Lz2 [(0,1,(.t 13)),(1,1,(.t 14))]),oB 16 (.bslice 2 [zD,zD] 1 [(0,(.t 15))]),oB 17 (.append 2 (.t 12) (.t 16)),qZ 18 6,qF 19 0 18,qF 20 0 19,qF 21 1 20,qS 1 21 17]
def ZHq:FnI:=⟨3,ZLf,[]⟩
def ZK5:C:=oS [qO 4 1,qW 6 0] (.seq (.draw [qM 7 0,uM 8 0 [0],uZ 9 8 [0],uF 10 0 9 [0],uF 11 2 10 [0],uL 12 11 [0],uA 13 2 4 [0,1,2,3,4,5],oM 14 (.bslice 2 [zD,zD] 1 [(0,(.t 13))]) [0,1,2,3,4,5],⟨some 15,.append 2 (.t 12) (.t 14),none,[],4⟩,qZ 16 7,qF 17 0 16,qF 18 2 17,qX 1 18 15 4]) (oS [qM 19 0,qM 20 0,qZ 21 20,qF 22 0 21,qF 23 0 22,qF 24 0 23,qL 25 24,qM 26 2,qH 27 26,qY 28 25 27,qZ 29 19,qF 30 0 29,qF 31 0 30,qF 32 0 31,qS 1 32 28] (oR [qM 33 0,qZ 34 33,qF 35 0 34,qF 36 2 35,qL 37 36,qN 38 37,qK 39 .sub 38 1,qM 6 39])))
def ZH2:FnI:=⟨3,ZK5,[(6,none)]⟩
def ZDo:C:=oS [qB 26 .lss 25 24] (.seq (cX 26 0) (.seq (.block 1 (oS [qM 27 25,qI 28 2 23 25,qA 29 2 28,oB 5 (.alloc (.d (.agg [zD,zD]))),qM 4 27,qS 2 5 29] (.seq (.draw [qM 30 3,uF 31 0 5 [0],uL 32 31 [0],qV 33 30 32,qU 34 33,qM 35 34,vM 36 3 35 false,wF 37 1 5 35 false [6],wL 38 37 35 false [6],vV 39 36 38 35 false,vU 40 39 35 false,qJ 41 35 40,qM 42 41,vF 43 0 5 42 false,vL 44 43 42 false,wF 45 1 5 42 false [13,14],wL 46 45 42 false [13,14],vB 47 .eql 44 46 42 false,qJ 48 42 47,qM 49 48,vF 50 1 1 49 false,vL 51 50 49 false,wM 52 4 49 false [20,21],oG 53 (.slice 2 (.t 51) none (some (.t 52)) none) 49 false,wA 54 2 5 49 false [20,21,22,23],vD 55 136 53 54 49 false,qJ 56 49 55]) (oC 56 [qW 2 42])))) (.ops [qK 57 .add 25 1,qM 25 57])))
def ZK2:C:=oS [qO 1 0,qW 2 0] (.seq (oS [qF 8 0 1,qL 9 8,qN 10 9,qK 11 .gtr 10 64,qM 12 11,vF 13 1 1 12 false,vL 14 13 12 false,vN 15 14 12 false,vK 16 .gtr 15 256 12 false,qJ 17 12 16] (oC 17 [qW 2 40])) (.seq (oS [qF 18 0 1,qL 19 18,oB 20 (.call 44 [.t 19,(.c (.d (.fn 142 [])))])] (oC 20 [qW 2 41])) (oS [oB 21 (.mkfn 143 [.t 1]),qM 3 21] (.seq (oS [qF 22 1 1,qL 23 22,qN 24 23,qW 25 0] (.block 0 (.loop [1,3,23,24,25] [1,2] ZDo))) (.seq (oS [qA 59 2 1,qC 60 144 59,qM 58 60,qE 61 58 0,qE 62 58 1,qM 6 61,qM 7 62] (oS [qM 63 7,qU 64 63] (oC 64 [qW 2 43]))) (oR [qW 2 0]))))))
def ZHh:FnI:=⟨1,ZK2,[(2,none)]⟩
def ZKO:C:=oS [qff 2] (oR [qM 3 0,qK 4 .gtr 3 0,qM 2 4])
def ZH3:FnI:=⟨1,ZKO,[(2,none)]⟩
def ZED:C:=oS [qB 14 .lss 13 12] (.seq (cX 14 0) (.seq (.block 1 (oS [qM 15 13,qI 16 1 11 13,qL 17 16,qM 5 15,qM 6 17] (oS [qM 18 6,qK 19 .eql 18 (-1),qM 20 19,vM 21 4 20 true,vN 22 21 20 true,vK 23 .gtr 22 0 20 true,qP 24 20 23] (cY 24 (.draw [qF 25 0 3,qL 26 25,uM 27 5 [0,1],uM 28 4 [0,1,2],oM 29 (.iaddr 1 (.t 28) (iN 0)) [0,1,2],uL 30 29 [0,1,2],uM 31 4 [0,1,2,3,4,5],oM 32 (.slice 1 (.t 31) (some (iN 1)) none none) [0,1,2,3,4,5],uI 33 1 26 27 [6,7],qX 1 33 30 3,qM 4 32]) .skip)))) (.ops [qK 34 .add 13 1,qM 13 34])))
def ZLv:C:=oS [qO 2 0,qO 3 1] (oS [qA 7 2 2,qA 8 2 3,qD 9 104 7 8,qM 4 9] (oS [qF 10 0 3,qL 11 10,qN 12 11,qW 13 0] (.block 0 (.loop [3,4,11,12,13] [] ZED))))
def ZHW:FnI:=⟨2,ZLv,[]⟩
def ZB8:C:=oS [qB 10 .lss 9 8] (.seq (cX 10 0) (.seq (.block 1 (oS [qM 11 9,qI 12 1 7 9,qL 13 12,qM 4 11,qM 5 13] (.seq (oS [qM 14 5,qK 15 .eql 14 (-1)] (cY 15 (.exit 1) .skip)) (oS [qF 16 1 1,qL 17 16,qM 18 5,qI 19 1 17 18,qL 20 19,qK 21 .sub 20 1,qI 22 1 17 18,qS 1 22 21] (oS [qA 23 2 1,qM 24 5,qD 25 145 23 24] (cY 25 (oS [qF 26 0 1,qL 27 26,qM 28 4,qI 29 1 27 28,qR 1 29 (-1)] (.ops [qM 30 3,qM 31 5,qH 32 31,qY 33 30 32,qM 3 33])) .skip)))))) (.ops [qK 34 .add 9 1,qM 9 34])))
def ZK0:C:=oS [qO 1 0,ZgB 2 1] (oS [ZgB 3 1] (.seq (oS [qF 6 0 1,qL 7 6,qN 8 7,qW 9 0] (.block 0 (.loop [1,3,7,8,9] [3] ZB8))) (oS [qM 35 3,qC 36 146 35] (oR [qM 37 3,qM 2 37]))))
def ZHT:FnI:=⟨1,ZK0,[(2,none)]⟩
def Zl7:C:=oS [qB 9 .lss 8 7] (.seq (cX 9 0) (.seq (.block 1 (oS [qM 10 8,qM 5 10] (oS [qM 11 1,qM 12 0,qM 13 5,qI 14 1 12 13,qL 15 14,qV 16 11 15] (oC 16 [qM 17 5,qM 4 17])))) (.ops [qK 18 .add 8 1,qM 8 18])))
def ZKY:C:=oS [qW 4 0] (.seq (oS [qM 6 0,qN 7 6,qW 8 0] (.block 0 (.loop [0,1,7,8] [4] Zl7))) (oR [qW 4 (-1)]))
def Zuz:FnI:=⟨2,ZKY,[(4,none)]⟩
def ZKS:C:=oS [qO 4 0,qW 8 0] (.seq (oS [qM 10 3,qM 11 2,qN 12 11,qB 13 .lss 10 12] (oC 13 [qM 14 1,qM 15 2,qM 16 3,qI 17 1 15 16,qL 18 17,oB 19 (.mx true [.t 18,(iN 0)]),qM 20 1,qN 21 20,qB 22 .rem 19 21,qI 23 1 14 22,qL 24 23,qM 8 24])) (oS [qM 25 1,oB 26 (.mkfn 147 [.t 4]),qD 27 94 25 26,qM 9 27] (oR [qM 28 1,qM 29 9,oB 30 (.mx true [.t 29,(iN 0)]),qI 31 1 28 30,qL 32 31,qM 8 32])))
def ZHQ:FnI:=⟨4,ZKS,[(8,none)]⟩
def ZK3:C:=oS [qO 2 0,qO 3 1,oB 4 (.alloc (.agg Lz1)),ZgB 5 1,qW 6 0] (.seq (oS [qA 9 2 2,qA 10 2 3,qD 11 65 9 10,qM 7 11] (oS [qM 12 7,qK 13 .neq 12 0] (oC 13 [oB 14 (.build Lz1 []),qM 15 7,qS 2 4 14,ZgB 5 1,qM 6 15]))) (oS [qA 16 2 3,qC 17 148 16,qS 2 3 17] (oS [qA 18 2 3,qC 19 88 18,qM 8 19] (oR [qA 20 2 3,qM 21 8,qS 2 4 20,qM 5 21,qW 6 0]))))
def ZHy:FnI:=⟨2,ZK3,[(4,some (2,true)),(5,none),(6,none)]⟩
def ZLu:C:=oS [qO 2 0,qO 3 1,ZgB 4 1] (.seq (oS [qA 5 2 2,qC 6 85 5,qK 7 .neq 6 0] (oC 7 [ZgB 4 1])) (oR [qA 8 2 2,oB 9 (.mkfn 150 [.t 3]),qD 10 149 8 9,qM 4 10]))
def ZHM:FnI:=⟨2,ZLu,[(4,none)]⟩
def ZIG:C:=oS [qW 2 0,qff 3] (.seq (oS [qM 4 0,qC 5 156 4,qK 6 .neq 5 0,qM 7 6,vM 8 0 7 false,oG 9 (.conv .u64 (.t 8)) 7 false,vC 10 157 9 7 false,vK 11 .neq 10 1 7 false,qJ 12 7 11] (oC 12 [qW 2 0,qff 3])) (oR [qM 13 0,oB 14 (.conv .u64 (.t 13)),qC 15 158 14,qM 2 15,qtt 3]))
def ZDt:FnI:=⟨1,ZIG,[(2,none),(3,none)]⟩
def ZAD:C:=oS [qB 11 .lss 10 9] (.seq (cX 11 0) (.seq (.block 1 (oS [qM 12 10,qM 6 12] (oS [qA 13 2 3,qM 14 6,qD 15 145 13 14,qU 16 15,qM 17 16,vF 18 0 3 17 true,vL 19 18 17 true,vM 20 6 17 true,vD 21 71 19 20 17 true,vU 22 21 17 true,qP 23 17 22,qM 24 23,vA 25 2 2 24 true,vA 26 2 3 24 true,vM 27 6 24 true,vG 28 159 25 26 27 24 true,qP 29 24 28] (cY 29 (.ops [qM 30 5,qM 31 6,qH 32 31,qY 33 30 32,qM 5 33]) .skip)))) (.ops [qK 34 .add 10 1,qM 10 34])))
def ZJI:C:=oS [qO 2 0,qO 3 1,ZgB 4 1] (oS [ZgB 5 1] (.seq (oS [qF 7 1 3,qL 8 7,qN 9 8,qW 10 0] (.block 0 (.loop [2,3,5,9,10] [5] ZAD))) (oR [qM 35 5,qM 4 35])))
def ZCX:FnI:=⟨2,ZJI,[(4,none)]⟩
def ZKu:C:=oS [qO 2 0,oB 4 (.alloc (.agg Lz0)),qW 5 0] (.seq (oS [qA 7 3 2,qC 8 115 7,qM 6 8] (oS [qM 9 6,qK 10 .neq 9 0] (oC 10 [oB 11 (.build Lz0 []),qM 12 6,qS 3 4 11,qM 5 12]))) (.seq (oS [qF 13 2 2,qL 14 13,qF 15 1 2,qL 16 15,qB 17 .lss 14 16,qM 18 17,vF 19 2 2 18 false,vL 20 19 18 false,vF 21 1 2 18 false,vL 22 21 18 false,vB 23 .sub 20 22 18 false,vF 24 0 2 18 false,vL 25 24 18 false,vN 26 25 18 false,vB 27 .eql 23 26 18 false,qJ 28 18 27] (oC 28 [oB 29 (.build Lz0 []),qS 3 4 29,qW 5 121])) (oS [qA 30 3 2,qC 31 160 30,qS 3 2 31] (.seq (.draw [qF 32 0 2,qL 33 32,uA 34 3 2 [0,1],uF 35 2 2 [0,1,2],uL 36 35 [0,1,2],uD 37 161 34 36 [0,1],uM 38 1 [0,1,2,3,4,5],qI 39 1 33 37,qX 1 39 38 4]) (oS [qF 40 2 2,qL 41 40,qK 42 .add 41 1,qF 43 2 2,qS 1 43 42] (oR [qA 44 3 2,qS 3 4 44,qW 5 0]))))))
def ZEk:FnI:=⟨2,ZKu,[(4,some (3,true)),(5,none)]⟩
def ZKa:C:=oS [qff 4] (oR [qM 5 0,qM 6 1,qD 7 165 5 6,qK 8 .geq 7 0,qM 4 8])
def ZBZ:FnI:=⟨2,ZKa,[(4,none)]⟩
def ZI7:C:=oS [qO 1 0,qff 2] (oR [qF 3 2 1,qL 4 3,qF 5 1 1,qL 6 5,qB 7 .gtr 4 6,qM 2 7])
def ZEY:FnI:=⟨1,ZI7,[(2,none)]⟩
def Zz5:C:=oS [qB 38 .lss 37 36] (.seq (cX 38 0) (.seq (.block 1 (oS [qM 39 37,qI 40 1 35 37,qL 41 40,qM 6 39,qM 7 41] (.seq (oS [qM 42 7,qK 43 .eql 42 (-1)] (cY 43 (.exit 1) .skip)) (oS [qM 44 7,qK 45 .lss 44 0,qM 46 45,vM 47 7 46 false,vF 48 1 3 46 false,vL 49 48 46 false,vN 50 49 46 false,vB 51 .geq 47 50 46 false,qJ 52 46 51,qM 53 52,vA 54 2 3 53 false,vM 55 7 53 false,vD 56 145 54 55 53 false,qJ 57 53 56,qM 58 57,vF 59 0 3 58 false,vL 60 59 58 false,vM 61 6 58 false,oG 62 (.slice 1 (.t 60) none (some (.t 61)) none) 58 false,vM 63 7 58 false,vD 64 71 62 63 58 false,qJ 65 58 64,qM 66 65,vA 67 2 2 66 false,vA 68 2 3 66 false,vM 69 7 66 false,vG 70 159 67 68 69 66 false,vU 71 70 66 false,qJ 72 66 71] (oC 72 [qff 4]))))) (.ops [qK 73 .add 37 1,qM 37 73])))
def ZzC:C:=oS [qB 78 .lss 77 76] (.seq (cX 78 2) (.seq (.block 3 (oS [qM 79 77,qM 8 79] (oS [qA 80 2 3,qM 81 8,qD 82 145 80 81,qM 83 82,vA 84 2 2 83 true,vA 85 2 3 83 true,vM 86 8 83 true,vG 87 159 84 85 86 83 true,vU 88 87 83 true,qP 89 83 88] (oC 89 [qff 4])))) (.ops [qK 90 .add 77 1,qM 77 90])))
def ZJ5:C:=oS [qO 2 0,qO 3 1,qff 4] (oS [oB 5 (.mov (.c (.d (.fn 166 []))))] (.seq (oS [qF 9 0 3,qL 10 9,qN 11 10,qK 12 .lss 11 1,qM 13 12,vF 14 0 3 13 false,vL 15 14 13 false,vN 16 15 13 false,vK 17 .gtr 16 8 13 false,qJ 18 13 17,qM 19 18,vF 20 1 3 19 false,vL 21 20 19 false,vN 22 21 19 false,vF 23 0 2 19 false,vL 24 23 19 false,vN 25 24 19 false,vB 26 .neq 22 25 19 false,qJ 27 19 26,qM 28 27,vF 29 1 3 28 false,vL 30 29 28 false,vM 31 5 28 false,vD 32 44 30 31 28 false,qJ 33 28 32] (oC 33 [qff 4])) (.seq (oS [qF 34 0 3,qL 35 34,qN 36 35,qW 37 0] (.block 0 (.loop [2,3,35,36,37] [2,3,4] Zz5))) (.seq (oS [qF 74 1 3,qL 75 74,qN 76 75,qW 77 0] (.block 2 (.loop [2,3,76,77] [4] ZzC))) (oR [qtt 4])))))
def ZDg:FnI:=⟨2,ZJ5,[(4,none)]⟩
def ZJu:C:=oS [qO 1 0,qW 2 0] (oS [qF 6 0 1,qL 7 6,qN 8 7,qC 9 103 8,qM 5 9,qE 10 5 0,qE 11 5 1,qM 3 10,qM 4 11] (.seq (oS [qM 12 4,qU 13 12,qM 14 13,vF 15 0 1 14 false,vL 16 15 14 false,vN 17 16 14 false,vK 18 .gtr 17 64 14 false,qJ 19 14 18,qM 20 19,vF 21 1 1 20 false,vL 22 21 20 false,vC 23 156 22 20 false,vK 24 .neq 23 0 20 false,qJ 25 20 24,qM 26 25,vF 27 2 1 26 false,vL 28 27 26 false,vF 29 1 1 26 false,vL 30 29 26 false,vK 31 .sub 30 1 26 false,vB 32 .lss 28 31 26 false,qJ 33 26 32,qM 34 33,vF 35 2 1 34 false,vL 36 35 34 false,vF 37 1 1 34 false,vL 38 37 34 false,vF 39 0 1 34 false,vL 40 39 34 false,vN 41 40 34 false,vB 42 .add 38 41 34 false,vB 43 .gtr 36 42 34 false,qJ 44 34 43] (oC 44 [qW 2 120])) (oR [qW 2 0])))
def ZEK:FnI:=⟨1,ZJu,[(2,none)]⟩
def ZKk:C:=oS [qO 2 0,qO 3 1,oB 4 (.alloc (.agg Lz0)),oB 5 (.alloc (.d (.agg [.bool false,zD,zD,zD,zD,zD]))),qW 6 0] (.seq (oS [qA 9 3 2,qC 10 115 9,qM 7 10] (oS [qM 11 7,qK 12 .neq 11 0] (oC 12 [oB 13 (.build Lz0 []),oB 14 (.build Lz7 []),qM 15 7,qS 3 4 13,qS 6 5 14,qM 6 15]))) (.seq (oS [qA 16 6 3,qC 17 167 16,qU 18 17] (oC 18 [oB 19 (.build Lz0 []),oB 20 (.build Lz7 []),qS 3 4 19,qS 6 5 20,qW 6 122])) (oS [qA 21 3 2,qC 22 160 21,qS 3 2 22] (.seq (oS [qF 23 0 3,qL 24 23] (cY 24 (.ops [qD 25 168 2 3]) (.ops [qD 26 169 2 3]))) (.seq (oS [qA 27 3 2,qC 28 115 27,qM 8 28] (oS [qM 29 8,qK 30 .neq 29 0] (oC 30 [oB 31 (.build Lz0 []),oB 32 (.build Lz7 []),qM 33 8,qS 3 4 31,qS 6 5 32,qM 6 33]))) (.seq (.draw [qA 34 3 2,⟨some 35,.load 6 true (.t 3),none,[0],1⟩,⟨none,.storek 3 (.t 4) (.t 34) [.t 3],none,[],3⟩,qX 6 5 35 4,qW 6 0]) .ret))))))
def ZE4:FnI:=⟨2,ZKk,[(4,some (3,true)),(5,some (6,true)),(6,none)]⟩
def ZKh:C:=oS [qM 6 0,qZ 7 6,qF 8 0 7,qF 9 4 8,qL 10 9,qM 11 1,qM 12 2,qI 13 1 10 11,qS 1 13 12] (.ops [qM 14 0,qZ 15 14,qF 16 0 15,qF 17 3 16,qL 18 17,qM 19 1,qM 20 2,qK 21 .neq 20 0,oB 22 (.build Lz7 [(0,1,(.t 21))]),qI 23 6 18 19,qS 6 23 22])
def ZBQ:FnI:=⟨3,ZKh,[]⟩
def ZKr:C:=oS [qff 3] (oR [qM 4 0,qN 5 4,qL 6 1,qB 7 .neq 5 6,qM 3 7])
def ZD1:FnI:=⟨2,ZKr,[(3,none)]⟩
def ZJB:C:=oS [qff 4] (oR [qM 5 0,qM 6 1,qD 7 170 5 6,qK 8 .geq 7 0,qM 4 8])
def ZDT:FnI:=⟨2,ZJB,[(4,none)]⟩
def ZAh:C:=oS [qB 20 .lss 19 18] (.seq (cX 20 0) (.seq (.block 1 (oS [qM 21 19,qM 4 21] (.ops [qM 22 3,qZ 23 22,qF 24 3 23,qL 25 24,qM 26 4,qI 27 1 25 26,qR 1 27 (-1)]))) (.ops [qK 28 .add 19 1,qM 19 28])))
def ZKG:C:=oS [oB 2 (.mov (.c (.d (.nilp))))] (.seq (.draw [qM 5 0,uM 6 0 [0],uN 7 6 [0],oM 8 (.mkslice 1 [zD] (.t 7) (.t 7)) [0],uM 9 0 [0,1,2,3],uN 10 9 [0,1,2,3],oM 11 (.mkslice 2 [zD,zD] (.t 10) (.t 10)) [0,1,2,3],uM 12 0 [0,1,2,3,4,5,6],uN 13 12 [0,1,2,3,4,5,6],oM 14 (.mkslice 1 [zD] (.t 13) (.t 13)) [0,1,2,3,4,5,6],oB 15 (.build [(.nilsl 1),(.nilsl 1),(.nilsl 2),(.nilsl 1)] [(0,1,(.t 5)),(1,1,(.t 8)),(2,1,(.t 11)),(3,1,(.t 14))]),qO 16 15,qM 3 16]) (.seq (oS [qM 17 0,qN 18 17,qW 19 0] (.block 0 (.loop [3,18,19] [3] ZAh))) (oR [qM 29 3,qM 2 29])))
def ZDK:FnI:=⟨1,ZKG,[(2,none)]⟩
def ZIQ:C:=oS [qO 6 1,qW 10 0] (oS [qM 12 2,qM 13 4,qI 14 1 12 13,qL 15 14,qM 11 15] (.seq (.block 0 (oS [qM 17 11,qK 18 .lss 17 (-1),qM 19 18,vM 20 11 19 false,vM 21 0 19 false,vZ 22 21 19 false,vF 23 0 22 19 false,vL 24 23 19 false,vN 25 24 19 false,vB 26 .geq 20 25 19 false,qJ 27 19 26,qM 16 27] (cY 16 (oR [qW 10 101]) (oS [qM 29 2,qM 30 4,oB 31 (.slice 1 (.t 29) none (some (.t 30)) none),qM 32 11,qD 33 71 31 32,qM 28 33] (cY 28 (oR [qW 10 102]) (.seq (.draw [qM 35 0,qZ 36 35,qF 37 1 36,qL 38 37,uM 39 11 [0,1,2,3],qI 40 1 38 39,qL 41 40,uM 42 0 [0,1,2,3,4,5,6],uZ 43 42 [0,1,2,3,4,5,6],uF 44 0 43 [0,1,2,3,4,5,6],uL 45 44 [0,1,2,3,4,5,6],uM 46 11 [0,1,2,3,4,5,6,7,8,9,10],uI 47 1 45 46 [0,1,2,3,4,5,6],uL 48 47 [0,1,2,3,4,5,6],qB 49 .geq 41 48,qM 34 49]) (cY 34 (oR [qW 10 105]) (oS [qM 51 0,qZ 52 51,qF 53 1 52,qL 54 53,qM 55 11,qI 56 1 54 55,qL 57 56,qK 58 .gtr 57 0,qM 59 58,vM 60 0 59 true,vZ 61 60 59 true,vF 62 2 61 59 true,vL 63 62 59 true,vM 64 11 59 true,vI 65 2 63 64 59 true,vA 66 2 65 59 true,vM 67 3 59 true,vK 68 .sub 67 1 59 true,vM 69 4 59 true,oG 70 (.build Lz2 [(0,1,(.t 68)),(1,1,(.t 69))]) 59 true,oG 71 (.eqv [false,false] true (.t 66) (.t 70)) 59 true,qP 72 59 71,qM 50 72] (cY 50 (oR [qW 10 104]) (oS [qM 74 0,qZ 75 74,qF 76 1 75,qL 77 76,qM 78 11,qI 79 1 77 78,qL 80 79,qK 81 .eql 80 0,qM 82 81,vM 83 0 82 true,vA 84 2 6 82 true,vM 85 11 82 true,vM 86 3 82 true,oG 87 (.call 72 [.t 83,.t 84,.t 85,.t 86]) 82 true,vU 88 87 82 true,qP 89 82 88,qM 73 89] (oC 73 [qW 10 103]))))))))))) (oR [qW 10 0])))
def ZCt:FnI:=⟨5,ZIQ,[(10,none)]⟩
def ZKl:C:=oS [qM 8 0,qZ 9 8,qF 10 1 9,qL 11 10,qM 12 1,qI 13 1 11 12,qL 14 13,qK 15 .add 14 1,qI 16 1 11 12,qS 1 16 15] (oS [qM 17 0,qZ 18 17,qF 19 2 18,qL 20 19,qM 21 1,qM 22 2,qM 23 3,oB 24 (.build Lz2 [(0,1,(.t 22)),(1,1,(.t 23))]),qI 25 2 20 21,qS 2 25 24] (.seq (.draw [qM 26 0,qZ 27 26,qF 28 1 27,qL 29 28,uM 30 1 [0,1,2,3],qI 31 1 29 30,qL 32 31,uM 33 0 [0,1,2,3,4,5,6],uZ 34 33 [0,1,2,3,4,5,6],uF 35 0 34 [0,1,2,3,4,5,6],uL 36 35 [0,1,2,3,4,5,6],uM 37 1 [0,1,2,3,4,5,6,7,8,9,10],uI 38 1 36 37 [0,1,2,3,4,5,6],uL 39 38 [0,1,2,3,4,5,6],qB 40 .eql 32 39]) (cY 40 (.ops [qM 41 0,qZ 42 41,qF 43 3 42,qL 44 43,qM 45 1,qM 46 2,qK 47 .add 46 1,qI 48 1 44 45,qS 1 48 47]) .skip)))
def ZB7:FnI:=⟨4,ZKl,[]⟩
def Zzw:C:=oS [qB 9 .lss 8 7] (.seq (cX 9 0) (.seq (.block 1 (oS [qM 10 8,qM 5 10] (oS [qM 11 1,qM 12 0,qM 13 5,qI 14 1 12 13,qL 15 14,qB 16 .eql 11 15] (oC 16 [qM 17 5,qM 4 17])))) (.ops [qK 18 .add 8 1,qM 8 18])))
def ZJ3:C:=oS [qW 4 0] (.seq (oS [qM 6 0,qN 7 6,qW 8 0] (.block 0 (.loop [0,1,7,8] [4] Zzw))) (oR [qW 4 (-1)]))
def ZEb:FnI:=⟨2,ZJ3,[(4,none)]⟩
def ZIP:C:=oS [qff 4] (oR [qM 5 0,qM 6 1,qD 7 171 5 6,qK 8 .geq 7 0,qM 4 8])
def ZAK:FnI:=⟨2,ZIP,[(4,none)]⟩
def ZJc:C:=oS [qO 4 0,qff 5] (oR [qF 6 1 4,qL 7 6,qL 8 1,qB 9 .eql 7 8,qM 10 9,vL 11 2 10 true,vF 12 0 4 10 true,vL 13 12 10 true,vL 14 3 10 true,vG 15 126 11 13 14 10 true,vU 16 15 10 true,qP 17 10 16,qM 5 17])
def ZDB:FnI:=⟨4,ZJc,[(5,none)]⟩
def ZJW:C:=oS [qff 6] (oR [qM 7 0,qZ 8 7,qF 9 3 8,qL 10 9,qM 11 1,qI 12 1 10 11,qL 13 12,qK 14 .geq 13 0,qM 15 14,vM 16 0 15 true,vZ 17 16 15 true,vF 18 3 17 15 true,vL 19 18 15 true,vM 20 1 15 true,vI 21 1 19 20 15 true,vL 22 21 15 true,vM 23 2 15 true,vB 24 .leq 22 23 15 true,qP 25 15 24,qM 6 25])
def ZDZ:FnI:=⟨3,ZJW,[(6,none)]⟩
def ZJY:C:=oS [qff 2] (oR [qM 3 0,qK 4 .lss 3 1,qM 5 4,vM 6 0 5 false,vK 7 .gtr 6 1000 5 false,qJ 8 5 7,qM 2 8])
def ZD3:FnI:=⟨1,ZJY,[(2,none)]⟩
def ZIy:C:=oS [qO 1 0,ZgB 2 1] (.seq (oS [qA 5 2 1,qC 6 85 5,qK 7 .neq 6 0] (oC 7 [ZgB 2 1])) (oS [qA 9 2 1,qC 10 144 9,qM 8 10,qE 11 8 0,qE 12 8 1,qM 3 11,qM 4 12] (oR [qM 13 3,qM 2 13])))
def ZD2:FnI:=⟨1,ZIy,[(2,none)]⟩
def ZJH:C:=oS [qO 2 0,qO 3 1,ZgB 4 1] (oR [qA 5 2 2,oB 6 (.mkfn 172 [.t 3]),qD 7 149 5 6,qM 4 7])
def ZEn:FnI:=⟨2,ZJH,[(4,none)]⟩
def ZJR:C:=oS [qO 1 0,oB 2 (.alloc (.d (.agg [zD,zD])))] (oR [oB 3 (.build Lz2 [(0,1,(iN 1))]),qS 2 2 3])
def ZDP:FnI:=⟨1,ZJR,[(2,some (2,true))]⟩
def ZJD:C:=oS [qff 4] (oR [qM 5 0,qK 6 .geq 5 1,qM 7 6,vM 8 0 7 true,vM 9 1 7 true,vB 10 .leq 8 9 7 true,qP 11 7 10,qM 4 11])
def ZES:FnI:=⟨2,ZJD,[(4,none)]⟩
def ZJf:C:=oS [qff 6] (oR [qM 7 1,qM 8 0,qB 9 .leq 7 8,qM 10 9,vM 11 0 10 true,vM 12 2 10 true,vB 13 .leq 11 12 10 true,qP 14 10 13,qM 6 14])
def ZEZ:FnI:=⟨3,ZJf,[(6,none)]⟩
def ZIE:C:=oS [qff 4] (oR [qM 5 0,qM 6 1,qD 7 173 5 6,qK 8 .geq 7 0,qM 4 8])
def ZDa:FnI:=⟨2,ZIE,[(4,none)]⟩
def ZIL:C:=oS [qO 1 0,qff 2] (oR [qF 3 0 1,qL 4 3,oB 5 (.call 132 [.t 4,(iN 0),(iN 5)]),qU 6 5,qM 7 6,vF 8 1 1 7 false,vL 9 8 7 false,oG 10 (.call 132 [.t 9,(iN 0),(iN 2147483647)]) 7 false,vU 11 10 7 false,qJ 12 7 11,qM 13 12,vF 14 2 1 13 false,vL 15 14 13 false,oG 16 (.call 132 [.t 15,(iN 1),(iN 100)]) 13 false,vU 17 16 13 false,qJ 18 13 17,qM 2 18])
def ZB1:FnI:=⟨1,ZIL,[(2,none)]⟩
def ZJL:C:=oS [qO 3 0,qff 6] (oR [qM 7 1,qM 8 2,qB 9 .neq 7 8,qM 10 9,vM 11 1 10 true,vF 12 2 3 10 true,vL 13 12 10 true,vN 14 13 10 true,vK 15 .sub 14 1 10 true,oG 16 (.call 132 [.t 11,(iN 0),.t 15]) 10 true,qP 17 10 16,qM 18 17,vM 19 2 18 true,vF 20 2 3 18 true,vL 21 20 18 true,vN 22 21 18 true,vK 23 .sub 22 1 18 true,oG 24 (.call 132 [.t 19,(iN 0),.t 23]) 18 true,qP 25 18 24,qM 6 25])
def ZCM:FnI:=⟨3,ZJL,[(6,none)]⟩
def ZJn:C:=oS [qO 3 1,qff 4] (oR [qM 5 0,qA 6 2 3,qD 7 174 5 6,qK 8 .geq 7 0,qM 4 8])
def ZDU:FnI:=⟨2,ZJn,[(4,none)]⟩
def ZIH:C:=oS [qO 2 0,qff 3] (oR [qF 4 1 2,qL 5 4,qF 6 1 1,qL 7 6,qB 8 .eql 5 7,qM 9 8,vF 10 2 2 9 true,vL 11 10 9 true,vF 12 2 1 9 true,vL 13 12 9 true,vB 14 .eql 11 13 9 true,qP 15 9 14,qM 3 15])
def ZCf:FnI:=⟨2,ZIH,[(3,none)]⟩
def ZIC:C:=oS [qff 4] (oR [qM 5 0,qM 6 1,qD 7 175 5 6,qK 8 .geq 7 0,qM 4 8])
def ZC6:FnI:=⟨2,ZIC,[(4,none)]⟩
def ZJo:C:=oS [qff 3] (oR [qF 4 1 1,qL 5 4,qM 6 0,qD 7 71 5 6,qM 3 7])
def ZDv:FnI:=⟨2,ZJo,[(3,none)]⟩
def Zz3:C:=oS [qB 10 .lss 9 8] (.seq (cX 10 0) (.seq (.block 1 (oS [qM 11 9,qI 12 1 7 9,qL 13 12,qM 5 11,qM 6 13] (oS [qM 14 6,qF 15 2 2,qL 16 15,qN 17 16,qK 18 .sub 17 1,oB 19 (.call 132 [.t 14,(iN 0),.t 18]),qU 20 19,qM 21 20,vM 22 5 21 false,vK 23 .gtr 22 0 21 false,vM 24 23 21 false,vM 25 1 24 true,vM 26 5 24 true,vK 27 .sub 26 1 24 true,vI 28 1 25 27 24 true,vL 29 28 24 true,vM 30 6 24 true,vB 31 .geq 29 30 24 true,oG 32 (.pick (.t 24) (.t 31) bF) 21 false,qJ 33 21 32] (oC 33 [qff 4])))) (.ops [qK 34 .add 9 1,qM 9 34])))
def ZJG:C:=oS [qO 2 0,qff 4] (.seq (oS [qM 7 1,qN 8 7,qW 9 0] (.block 0 (.loop [1,2,7,8,9] [1,4] Zz3))) (oR [qM 35 1,qN 36 35,qK 37 .gtr 36 0,qM 4 37]))
def ZD8:FnI:=⟨2,ZJG,[(4,none)]⟩
def ZAI:C:=oS [qB 15 .lss 14 13] (.seq (cX 15 0) (.seq (.block 1 (oS [qM 16 14,qI 17 3 12 14,qA 18 3 17,oB 7 (.alloc (.d (.agg [zD,zD,zD]))),qM 6 16,qS 3 7 18] (oS [qF 19 1 7,qL 20 19,qM 21 1,qB 22 .eql 20 21] (cY 22 (.ops [qM 23 5,qM 24 6,qH 25 24,qY 26 23 25,qM 5 26]) .skip)))) (.ops [qK 27 .add 14 1,qM 14 27])))
def ZIV:C:=oS [qO 2 0,ZgB 4 1] (.seq (oS [qA 8 6 2,qC 9 81 8,qK 10 .neq 9 0] (oC 10 [ZgB 4 1])) (oS [ZgB 5 1] (.seq (oS [qF 11 4 2,qL 12 11,qN 13 12,qW 14 0] (.block 0 (.loop [1,2,5,12,13,14] [2,5] ZAI))) (oS [qM 28 5,oB 29 (.mkfn 177 [.t 2]),qD 30 176 28 29] (oR [qM 31 5,qM 4 31])))))
def ZDO:FnI:=⟨2,ZIV,[(4,none)]⟩
def ZJ2:C:=oS [qff 2] (oR [qM 3 0,qK 4 .lss 3 0,qM 5 4,vM 6 0 5 false,vK 7 .gtr 6 1000 5 false,qJ 8 5 7,qM 2 8])
def ZDW:FnI:=⟨1,ZJ2,[(2,none)]⟩
def ZI6:C:=oS [qff 3] (oR [qM 4 0,qK 5 .geq 4 0,qM 6 5,vM 7 0 6 true,vF 8 0 1 6 true,vL 9 8 6 true,vN 10 9 6 true,vB 11 .lss 7 10 6 true,qP 12 6 11,qM 3 12])
def ZEm:FnI:=⟨2,ZI6,[(3,none)]⟩
def Zz2:C:=oS [qB 33 .lss 32 31] (.seq (cX 33 4) (.seq (.block 5 (oS [qI 34 2 30 32,qA 35 2 34,oB 8 (.alloc (.d (.agg [zD,zD]))),qS 2 8 35] (oS [qF 36 1 8,qL 37 36,qM 38 6,qB 39 .eql 37 38,qM 40 39,vM 41 5 40 true,vF 42 0 8 40 true,vL 43 42 40 true,vI 44 1 41 43 40 true,vL 45 44 40 true,vU 46 45 40 true,qP 47 40 46] (cY 47 (.exit 3) .skip)))) (.ops [qK 48 .add 32 1,qM 32 48])))
def ZAB:C:=oS [qB 23 .lss 22 21] (.seq (cX 23 2) (.seq (.block 3 (oS [qM 24 22,qM 6 24] (.seq (oS [qM 25 5,qM 26 6,qI 27 1 25 26,qL 28 27] (cY 28 (.exit 3) .skip)) (.seq (oS [qF 29 1 1,qL 30 29,qN 31 30,qW 32 0] (.block 4 (.loop [1,4,5,6,21,22,30,31,32] [1,4,5,6,21,22] Zz2))) (oS [qM 49 5,qM 50 6,qI 51 1 49 50,oA (.store 1 (.t 51) bT)] (oS [qM 52 4,qM 53 6,qH 54 53,qY 55 52 54,qM 4 55] (.exit 1))))))) (.ops [qK 56 .add 22 1,qM 22 56])))
def Zz6:C:=.seq (oS [qM 13 4,qN 14 13,qF 15 0 1,qL 16 15,qN 17 16,qB 18 .lss 14 17] (cX 18 0)) (.block 1 (.seq .skip (.seq (oS [qF 19 0 1,qL 20 19,qN 21 20,qW 22 0] (.block 2 (.loop [1,4,5,21,22] [1,4,5] ZAB))) (oR [ZgB 2 1,qff 3]))))
def ZJX:C:=oS [qO 1 0,ZgB 2 1,qff 3] (oS [ZgB 4 1] (oS [qF 9 0 1,qL 10 9,qN 11 10,oB 12 (.mkslice 1 [.bool false] (.t 11) (.t 11)),qM 5 12] (.seq .skip (.seq (.block 0 (.loop [1,4,5] [2,3,4] Zz6)) (oR [qM 57 4,qM 2 57,qtt 3])))))
def ZCF:FnI:=⟨1,ZJX,[(2,none),(3,none)]⟩
def ZKq:C:=oS [qO 2 0,qff 4] (oR [qF 5 1 2,qL 6 5,qM 7 1,qI 8 1 6 7,qL 9 8,qK 10 .eql 9 0,qM 4 10])
def ZCQ:FnI:=⟨2,ZKq,[(4,none)]⟩
def ZJF:C:=oR [⟨none,.sortI (.t 0),none,[],0⟩]
def ZG9:FnI:=⟨1,ZJF,[]⟩
def ZJJ:C:=oS [qff 3] (oR [qM 4 0,qL 5 1,qZ 6 5,qF 7 7 6,qL 8 7,qB 9 .gtr 4 8,qM 3 9])
def ZDh:FnI:=⟨2,ZJJ,[(3,none)]⟩
def ZJ7:C:=oS [qO 1 0,oB 2 (.alloc (.agg Lz1))] (.seq (.draw [qF 3 0 1,qL 4 3,qC 5 47 4,uF 6 1 1 [0,1,2],uL 7 6 [0,1,2],qC 8 47 7,oB 9 (.build Lz1 [(0,1,(.t 5)),(1,1,(.t 8))]),qX 2 2 9 4]) .ret)
def ZEP:FnI:=⟨1,ZJ7,[(2,some (2,true))]⟩
def ZwC:C:=oS [qB 14 .lss 13 12] (.seq (cX 14 0) (.seq (.block 1 (oS [qI 15 2 11 13,qA 16 2 15,oB 7 (.alloc (.d (.agg [zD,zD]))),qS 2 7 16] (oS [qM 18 1,qA 19 2 7,qV 20 18 19,qM 17 20,qE 21 17 0,qE 22 17 1,qM 8 21,qM 9 22] (oS [qM 23 9] (cY 23 (.ops [qM 24 5,qM 25 8,qH 26 25,qY 27 24 26,qM 5 27]) .skip))))) (.ops [qK 28 .add 13 1,qM 13 28])))
def ZJK:C:=oS [qO 2 0,ZgB 4 1] (oS [ZgB 5 1] (.seq (oS [qF 10 1 2,qL 11 10,qN 12 11,qW 13 0] (.block 0 (.loop [1,5,11,12,13] [5] ZwC))) (oS [qM 29 5,qC 30 146 29] (oR [qM 31 5,qM 4 31]))))
def ZAA:FnI:=⟨2,ZJK,[(4,none)]⟩
def ZI9:C:=oS [qO 2 0,qW 3 0,qff 4] (.seq (.draw [qF 5 1 2,qL 6 5,uF 7 0 2 [0,1],uL 8 7 [0,1],uL 9 1 [0,1,2,3],oM 10 (.bin .eql (.t 8) (.t 9)) [0,1],uM 3 6 [2,3,4,5],qM 4 10]) .ret)
def ZCC:FnI:=⟨2,ZI9,[(3,none),(4,none)]⟩
def ZJT:C:=oS [qW 2 0] (.seq (.block 0 (oS [qM 4 0,qK 5 .lss 4 0,qM 3 5] (cY 3 (oR [qW 2 10]) (oS [qM 7 0,qK 8 .gtr 7 1099511627775,qM 6 8] (oC 6 [qW 2 11]))))) (oR [qW 2 0]))
def ZEB:FnI:=⟨1,ZJT,[(2,none)]⟩
def ZJa:C:=oS [qW 2 0] (.seq (.cond bF (oR [qM 3 0,oB 4 (.conv .u32 (.t 3)),qC 5 183 4,qM 2 5]) .skip) (oR [qM 6 0,qC 7 184 6,qM 2 7]))
def ZE5:FnI:=⟨1,ZJa,[(2,none)]⟩
def ZI4:C:=oS [qW 2 0] (.seq (.cond bF (oR [qM 3 0,oB 4 (.conv .u32 (.t 3)),qC 5 185 4,qM 2 5]) .skip) (oR [qM 6 0,qC 7 186 6,qM 2 7]))
def ZDe:FnI:=⟨1,ZI4,[(2,none)]⟩
def ZIX:C:=oS [qO 3 0,qO 4 1,qO 5 2,qff 6] (oR [qF 7 1 3,qL 8 7,oB 9 (.mkfn 187 [.t 5,.t 4]),qD 10 124 8 9,qU 11 10,qM 6 11])
def ZFi:FnI:=⟨3,ZIX,[(6,none)]⟩
def ZKz:C:=oS [qO 1 0,oB 2 (.alloc (.agg Lz0))] (oS [qF 3 0 1,qL 4 3,qC 5 47 4,qF 6 0 1,qS 1 6 5] (oR [qA 7 3 1,qS 3 2 7]))
def ZEx:FnI:=⟨1,ZKz,[(2,some (3,true))]⟩
def ZI8:C:=oS [qO 2 0,qW 4 0] (oR [qM 5 1,oB 6 (.mx true [.t 5,(iN 0)]),qF 7 0 2,qL 8 7,qN 9 8,qB 10 .rem 6 9,qM 4 10])
def ZCo:FnI:=⟨2,ZI8,[(4,none)]⟩
def ZAx:C:=oS [qB 9 .lss 8 7] (.seq (cX 9 0) (.seq (.block 1 (oS [qM 10 8,qM 5 10] (oS [qM 11 1,qM 12 0,qM 13 5,qI 14 3 12 13,qA 15 3 14,qV 16 11 15] (oC 16 [qM 17 5,qM 4 17])))) (.ops [qK 18 .add 8 1,qM 8 18])))
def ZKd:C:=oS [qW 4 0] (.seq (oS [qM 6 0,qN 7 6,qW 8 0] (.block 0 (.loop [0,1,7,8] [4] ZAx))) (oR [qW 4 (-1)]))
def ZCD:FnI:=⟨2,ZKd,[(4,none)]⟩
def ZKc:C:=oS [qff 2] (oR [qM 3 0,qK 4 .lss 3 0,qM 5 4,vM 6 0 5 false,vK 7 .gtr 6 1000 5 false,qJ 8 5 7,qM 2 8])
def ZCL:FnI:=⟨1,ZKc,[(2,none)]⟩
def ZIW:C:=oS [qO 1 0,qff 2] (oS [qW 3 4] (.seq (oS [qF 5 0 1,qL 6 5] (cY 6 (.ops [qW 3 3]) .skip)) (oS [oB 4 (.mov (.c (.d (.fn 190 []))))] (oR [qF 7 5 1,qL 8 7,qK 9 .eql 8 0,qM 10 9,vF 11 1 1 10 true,vL 12 11 10 true,vK 13 .geq 12 0 10 true,qP 14 10 13,qM 15 14,vF 16 1 1 15 true,vL 17 16 15 true,vM 18 3 15 true,vB 19 .leq 17 18 15 true,qP 20 15 19,qM 21 20,vF 22 1 1 21 true,vL 23 22 21 true,vK 24 .eql 23 0 21 true,vM 25 24 21 true,vM 26 4 25 false,vF 27 2 1 25 false,vL 28 27 25 false,vV 29 26 28 25 false,vU 30 29 25 false,vM 31 30 25 false,vM 32 4 31 true,vF 33 3 1 31 true,vL 34 33 31 true,vV 35 32 34 31 true,vU 36 35 31 true,oG 37 (.pick (.t 31) (.t 36) bF) 25 false,vJ 38 25 37 21 true,qP 39 21 38,qM 2 39]))))
def ZCa:FnI:=⟨1,ZIW,[(2,none)]⟩
def ZKs:C:=.block 1000 (.seq (oS [qM 4 1,qZ 5 4,qF 6 1 5,qL 7 6] (.block 0 (oS [qK 9 .eql 7 0,qM 8 9] (cY 8 (.seq (.seq .skip (oR [qM 26 1,qM 27 1,qM 28 0,qZ 29 28,qF 30 1 29,qL 31 30,qZ 32 26,qF 33 2 32,qS 1 33 31,qZ 34 27,qF 35 1 34,qR 1 35 1])) (.exit 1000)) (oS [qK 11 .eql 7 1,qM 10 11] (cY 10 (.seq (.seq .skip (oS [qM 36 1,qM 37 1,qM 38 0,qZ 39 38,qF 40 2 39,qL 41 40,qZ 42 36,qF 43 3 42,qS 1 43 41,qZ 44 37,qF 45 1 44,qR 1 45 2] (.seq (.seq (.draw [qM 46 1,qZ 47 46,qF 48 2 47,qL 49 48,uM 50 1 [0,1,2,3],uZ 51 50 [0,1,2,3],uF 52 3 51 [0,1,2,3],uL 53 52 [0,1,2,3],qB 54 .geq 49 53]) (cY 54 (.ops [qM 55 1,qM 56 1,qZ 57 55,qF 58 1 57,qR 1 58 1,qZ 59 56,qF 60 5 59,qR 1 60 2]) .skip)) .ret))) (.exit 1000)) (oS [qK 13 .eql 7 2,qM 12 13] (cY 12 (.seq (.seq .skip (.draw [qM 61 1,uM 62 1 [0],uM 63 0 [0,1],uZ 64 63 [0,1],uF 65 0 64 [0,1],uL 66 65 [0,1],uM 67 0 [0,1,2,3,4,5],uZ 68 67 [0,1,2,3,4,5],uA 69 3 68 [0,1,2,3,4,5],uM 70 1 [0,1,2,3,4,5,6,7,8],uZ 71 70 [0,1,2,3,4,5,6,7,8],uF 72 2 71 [0,1,2,3,4,5,6,7,8],uL 73 72 [0,1,2,3,4,5,6,7,8],uD 74 161 69 73 [0,1,2,3,4,5],uI 75 1 66 74 [0,1],uL 76 75 [0,1],uZ 77 61 [1],uF 78 4 77 [1],qX 1 78 76 4,qZ 79 62,qF 80 1 79,⟨none,.store 1 (.t 80) (iN 3),none,[],4⟩])) (.exit 1000)) .skip)))))))) (oS [qM 14 1,qZ 15 14,qF 16 5 15,qR 1 16 3] (.seq (oS [qM 17 0,qM 18 1,qD 19 191 17 18] (cY 19 (.ops [qM 20 1,qZ 21 20,qF 22 5 21,qR 1 22 1]) (.ops [qM 23 1,qZ 24 23,qF 25 4 24,qR 1 25 0]))) .ret)))
def ZEU:FnI:=⟨2,ZKs,[]⟩
def ZIJ:C:=.block 1000 (.seq (oS [qM 4 1,qZ 5 4,qF 6 1 5,qL 7 6] (.block 0 (oS [qK 9 .eql 7 0,qM 8 9] (cY 8 (.seq (.seq .skip (oS [qM 33 0,qZ 34 33,qF 35 2 34,qL 36 35,qK 37 .sub 36 1,qZ 38 33,qF 39 2 38,qS 1 39 37] (oR [qM 40 1,qM 41 1,qM 42 0,qZ 43 42,qF 44 2 43,qL 45 44,qZ 46 40,qF 47 3 46,qS 1 47 45,qZ 48 41,qF 49 1 48,qR 1 49 1]))) (.exit 1000)) (oS [qK 11 .eql 7 1,qM 10 11] (cY 10 (.seq (.seq .skip (oS [qM 50 1,qM 51 0,qZ 52 51,qF 53 1 52,qL 54 53,qZ 55 50,qF 56 2 55,qS 1 56 54] (.seq (.block 1 (.seq (.draw [qM 61 1,qZ 62 61,qF 63 2 62,qL 64 63,uM 65 1 [0,1,2,3],uZ 66 65 [0,1,2,3],uF 67 3 66 [0,1,2,3],uL 68 67 [0,1,2,3],qB 69 .lss 64 68,qM 60 69]) (cY 60 (.draw [qM 70 1,uM 71 1 [0],uM 72 0 [0,1],uZ 73 72 [0,1],uF 74 0 73 [0,1],uL 75 74 [0,1],uM 76 0 [0,1,2,3,4,5],uZ 77 76 [0,1,2,3,4,5],uA 78 3 77 [0,1,2,3,4,5],uM 79 1 [0,1,2,3,4,5,6,7,8],uZ 80 79 [0,1,2,3,4,5,6,7,8],uF 81 3 80 [0,1,2,3,4,5,6,7,8],uL 82 81 [0,1,2,3,4,5,6,7,8],uD 83 161 78 82 [0,1,2,3,4,5],uI 84 1 75 83 [0,1],uL 85 84 [0,1],uZ 86 70 [1],uF 87 4 86 [1],qX 1 87 85 4,qZ 88 71,qF 89 5 88,⟨none,.store 1 (.t 89) (iN 1),none,[],4⟩]) (.seq (.draw [qM 91 1,qZ 92 91,qF 93 2 92,qL 94 93,uM 95 1 [0,1,2,3],uZ 96 95 [0,1,2,3],uF 97 3 96 [0,1,2,3],uL 98 97 [0,1,2,3],qB 99 .eql 94 98,qM 90 99]) (cY 90 (.ops [qM 100 1,qZ 101 100,qF 102 1 101,qR 1 102 2]) (.ops [qM 57 1,qZ 58 57,qF 59 1 58,qR 1 59 3])))))) .ret))) (.exit 1000)) (oS [qK 13 .eql 7 2,qM 12 13] (cY 12 (.seq (.seq .skip (oS [qM 103 1,qZ 104 103,qF 105 1 104,qR 1 105 3] (oS [qM 106 0,qM 107 1,qD 108 191 106 107] (cY 108 (.draw [qM 109 1,uM 110 1 [0],uM 111 0 [0,1],uZ 112 111 [0,1],uF 113 0 112 [0,1],uL 114 113 [0,1],uM 115 0 [0,1,2,3,4,5],uZ 116 115 [0,1,2,3,4,5],uA 117 3 116 [0,1,2,3,4,5],uM 118 1 [0,1,2,3,4,5,6,7,8],uZ 119 118 [0,1,2,3,4,5,6,7,8],uF 120 3 119 [0,1,2,3,4,5,6,7,8],uL 121 120 [0,1,2,3,4,5,6,7,8],uD 122 161 117 121 [0,1,2,3,4,5],uI 123 1 114 122 [0,1],uL 124 123 [0,1],uZ 125 109 [1],uF 126 4 125 [1],qX 1 126 124 4,qZ 127 110,qF 128 1 127,⟨none,.store 1 (.t 128) (iN 4),none,[],4⟩]) .skip)))) (.exit 1000)) .skip)))))))) (oS [qM 14 0,qM 15 1,qZ 16 15,qF 17 3 16,qL 18 17,qK 19 .add 18 1,qZ 20 14,qF 21 2 20,qS 1 21 19] (oS [qM 22 1,qZ 23 22,qF 24 5 23,qR 1 24 2] (.seq (oS [qM 25 1,qZ 26 25,qF 27 1 26,qL 28 27,qK 29 .eql 28 4] (cY 29 (.ops [qM 30 1,qZ 31 30,qF 32 5 31,qR 1 32 1]) .skip)) .ret))))
def ZDC:FnI:=⟨2,ZIJ,[]⟩
def ZAe:C:=oS [qB 9 .lss 8 7] (.seq (cX 9 0) (.seq (.block 1 (oS [qM 10 8,qM 5 10] (oS [qM 11 1,qM 12 0,qM 13 5,qI 14 1 12 13,qL 15 14,qV 16 11 15] (oC 16 [qM 17 5,qM 4 17])))) (.ops [qK 18 .add 8 1,qM 8 18])))
def ZJ0:C:=oS [qW 4 0] (.seq (oS [qM 6 0,qN 7 6,qW 8 0] (.block 0 (.loop [0,1,7,8] [4] ZAe))) (oR [qW 4 (-1)]))
def ZC9:FnI:=⟨2,ZJ0,[(4,none)]⟩
def Zwi:C:=oS [qB 9 .lss 8 7] (.seq (cX 9 0) (.seq (.block 1 (oS [qM 10 8,qM 5 10] (oS [qM 11 1,qM 12 0,qM 13 5,qI 14 2 12 13,qA 15 2 14,qV 16 11 15] (oC 16 [qM 17 5,qM 4 17])))) (.ops [qK 18 .add 8 1,qM 8 18])))
def ZKt:C:=oS [qW 4 0] (.seq (oS [qM 6 0,qN 7 6,qW 8 0] (.block 0 (.loop [0,1,7,8] [4] Zwi))) (oR [qW 4 (-1)]))
def ZzZ:FnI:=⟨2,ZKt,[(4,none)]⟩
def ZID:C:=oS [qO 2 0,qW 3 0,qff 4] (.seq (.draw [qF 5 0 2,qL 6 5,uF 7 1 2 [0,1],uL 8 7 [0,1],uL 9 1 [0,1,2,3],oM 10 (.bin .eql (.t 8) (.t 9)) [0,1],uM 3 6 [2,3,4,5],qM 4 10]) .ret)
def ZC2:FnI:=⟨2,ZID,[(3,none),(4,none)]⟩
def ZzL:C:=oS [qB 9 .lss 8 7] (.seq (cX 9 0) (.seq (.block 1 (oS [qM 10 8,qM 5 10] (oS [qM 11 1,qM 12 0,qM 13 5,qI 14 3 12 13,qA 15 3 14,qV 16 11 15] (oC 16 [qM 17 5,qM 4 17])))) (.ops [qK 18 .add 8 1,qM 8 18])))
def ZJt:C:=oS [qW 4 0] (.seq (oS [qM 6 0,qN 7 6,qW 8 0] (.block 0 (.loop [0,1,7,8] [4] ZzL))) (oR [qW 4 (-1)]))
def ZE1:FnI:=⟨2,ZJt,[(4,none)]⟩
def ZzE:C:=oS [qB 9 .lss 8 7] (.seq (cX 9 0) (.seq (.block 1 (oS [qM 10 8,qM 5 10] (.seq (.draw [qA 11 2 3,uM 12 0 [0],uM 13 5 [0,1],uI 14 2 12 13 [0],uA 15 2 14 [0],oB 16 (.eqv [false,false] false (.t 11) (.t 15))]) (oC 16 [qM 17 5,qM 4 17])))) (.ops [qK 18 .add 8 1,qM 8 18])))
def ZJr:C:=oS [qO 3 1,qW 4 0] (.seq (oS [qM 6 0,qN 7 6,qW 8 0] (.block 0 (.loop [0,3,7,8] [4] ZzE))) (oR [qW 4 (-1)]))
def ZEw:FnI:=⟨2,ZJr,[(4,none)]⟩
def ZAl:C:=oS [qB 9 .lss 8 7] (.seq (cX 9 0) (.seq (.block 1 (oS [qM 10 8,qM 5 10] (oS [qM 11 1,qM 12 0,qM 13 5,qI 14 3 12 13,qA 15 3 14,qV 16 11 15] (oC 16 [qM 17 5,qM 4 17])))) (.ops [qK 18 .add 8 1,qM 8 18])))
def ZIw:C:=oS [qW 4 0] (.seq (oS [qM 6 0,qN 7 6,qW 8 0] (.block 0 (.loop [0,1,7,8] [4] ZAl))) (oR [qW 4 (-1)]))
def ZEH:FnI:=⟨2,ZIw,[(4,none)]⟩
def ZKb:C:=oS [qM 5 0,qN 6 5,qM 4 6] (.ops [qM 7 0,qM 8 4,qM 9 4,oB 10 (.conv .u64 (.t 9)),qC 11 179 10,qM 12 1,oB 13 (.call 192 [.t 7,(iN 0),.t 8,.t 11,.t 12])])
def ZCv:FnI:=⟨2,ZKb,[]⟩
def ZJQ:C:=oS [qW 5 0] (.seq (.draw [qF 6 4 2,qL 7 6,uM 8 0 [0,1],qI 9 3 7 8,qF 10 2 9,qL 11 10,uF 12 4 2 [0,1,2,3,4,5],uL 13 12 [0,1,2,3,4,5],uM 14 1 [0,1,2,3,4,5,6,7],uI 15 3 13 14 [0,1,2,3,4,5],uF 16 2 15 [0,1,2,3,4,5],uL 17 16 [0,1,2,3,4,5],qB 18 .sub 11 17,qM 5 18]) .ret)
def ZB5:FnI:=⟨3,ZJQ,[(5,none)]⟩
def ZI2:C:=oS [qW 2 0] (.seq (.cond bF (oR [qM 3 0,oB 4 (.conv .u32 (.t 3)),qC 5 202 4,qM 2 5]) .skip) (oR [qM 6 0,qC 7 203 6,qM 2 7]))
def ZFd:FnI:=⟨1,ZI2,[(2,none)]⟩
def ZJV:C:=oS [qW 2 0] (.seq (.draw [qM 3 0,oB 4 (.bin .shr (.t 3) (.c (.d (.int .u64 24)))),oB 5 (.indexS (.c (.d (.str ⟨#[0,1,1,2,1,2,2,3,1,2,2,3,2,3,3,4,1,2,2,3,2,3,3,4,2,3,3,4,3,4,4,5,1,2,2,3,2,3,3,4,2,3,3,4,3,4,4,5,2,3,3,4,3,4,4,5,3,4,4,5,4,5,5,6,1,2,2,3,2,3,3,4,2,3,3,4,3,4,4,5,2,3,3,4,3,4,4,5,3,4,4,5,4,5,5,6,2,3,3,4,3,4,4,5,3,4,4,5,4,5,5,6,3,4,4,5,4,5,5,6,4,5,5,6,5,6,6,7,1,2,2,3,2,3,3,4,2,3,3,4,3,4,4,5,2,3,3,4,3,4,4,5,3,4,4,5,4,5,5,6,2,3,3,4,3,4,4,5,3,4,4,5,4,5,5,6,3,4,4,5,4,5,5,6,4,5,5,6,5,6,6,7,2,3,3,4,3,4,4,5,3,4,4,5,4,5,5,6,3,4,4,5,4,5,5,6,4,5,5,6,5,6,6,7,3,4,4,5,4,5,5,6,4,5,5,6,5,6,6,7,4,5,5,6,5,6,6,7,5,6,6,7,6,7,7,8]⟩))) (.t 4)),uM 6 0 [0,1,2],oM 7 (.bin .shr (.t 6) (.c (.d (.int .u64 16)))) [0,1,2],oM 8 (.bin .and (.t 7) (.c (.d (.int .u32 255)))) [0,1,2],oM 9 (.indexS (.c (.d (.str ⟨#[0,1,1,2,1,2,2,3,1,2,2,3,2,3,3,4,1,2,2,3,2,3,3,4,2,3,3,4,3,4,4,5,1,2,2,3,2,3,3,4,2,3,3,4,3,4,4,5,2,3,3,4,3,4,4,5,3,4,4,5,4,5,5,6,1,2,2,3,2,3,3,4,2,3,3,4,3,4,4,5,2,3,3,4,3,4,4,5,3,4,4,5,4,5,5,6,2,3,3,4,3,4,4,5,3,4,4,5,4,5,5,6,3,4,4,5,4,5,5,6,4,5,5,6,5,6,6,7,1,2,2,3,2,3,3,4,2,3,3,4,3,4,4,5,2,3,3,4,3,4,4,5,3,4,4,5,4,5,5,6,2,3,3,4,3,4,4,5,3,4,4,5,4,5,5,6,3,4,4,5,4,5,5,6,4,5,5,6,5,6,6,7,2,3,3,4,3,4,4,5,3,4,4,5,4,5,5,6,3,4,4,5,4,5,5,6,4,5,5,6,5,6,6,7,3,4,4,5,4,5,5,6,4,5,5,6,5,6,6,7,4,5,5,6,5,6,6,7,5,6,6,7,6,7,7,8]⟩))) (.t 8)) [0,1,2],qB 10 .add 5 9,uM 11 0 [0,1,2,3,4,5,6,7],oM 12 (.bin .shr (.t 11) (.c (.d (.int .u64 8)))) [0,1,2,3,4,5,6,7],oM 13 (.bin .and (.t 12) (.c (.d (.int .u32 255)))) [0,1,2,3,4,5,6,7],oM 14 (.indexS (.c (.d (.str ⟨#[0,1,1,2,1,2,2,3,1,2,2,3,2,3,3,4,1,2,2,3,2,3,3,4,2,3,3,4,3,4,4,5,1,2,2,3,2,3,3,4,2,3,3,4,3,4,4,5,2,3,3,4,3,4,4,5,3,4,4,5,4,5,5,6,1,2,2,3,2,3,3,4,2,3,3,4,3,4,4,5,2,3,3,4,3,4,4,5,3,4,4,5,4,5,5,6,2,3,3,4,3,4,4,5,3,4,4,5,4,5,5,6,3,4,4,5,4,5,5,6,4,5,5,6,5,6,6,7,1,2,2,3,2,3,3,4,2,3,3,4,3,4,4,5,2,3,3,4,3,4,4,5,3,4,4,5,4,5,5,6,2,3,3,4,3,4,4,5,3,4,4,5,4,5,5,6,3,4,4,5,4,5,5,6,4,5,5,6,5,6,6,7,2,3,3,4,3,4,4,5,3,4,4,5,4,5,5,6,3,4,4,5,4,5,5,6,4,5,5,6,5,6,6,7,3,4,4,5,4,5,5,6,4,5,5,6,5,6,6,7,4,5,5,6,5,6,6,7,5,6,6,7,6,7,7,8]⟩))) (.t 13)) [0,1,2,3,4,5,6,7],qB 15 .add 10 14,uM 16 0 [0,1,2,3,4,5,6,7,8,9,10,11,12],oM 17 (.bin .and (.t 16) (.c (.d (.int .u32 255)))) [0,1,2,3,4,5,6,7,8,9,10,11,12],oM 18 (.indexS (.c (.d (.str ⟨#[0,1,1,2,1,2,2,3,1,2,2,3,2,3,3,4,1,2,2,3,2,3,3,4,2,3,3,4,3,4,4,5,1,2,2,3,2,3,3,4,2,3,3,4,3,4,4,5,2,3,3,4,3,4,4,5,3,4,4,5,4,5,5,6,1,2,2,3,2,3,3,4,2,3,3,4,3,4,4,5,2,3,3,4,3,4,4,5,3,4,4,5,4,5,5,6,2,3,3,4,3,4,4,5,3,4,4,5,4,5,5,6,3,4,4,5,4,5,5,6,4,5,5,6,5,6,6,7,1,2,2,3,2,3,3,4,2,3,3,4,3,4,4,5,2,3,3,4,3,4,4,5,3,4,4,5,4,5,5,6,2,3,3,4,3,4,4,5,3,4,4,5,4,5,5,6,3,4,4,5,4,5,5,6,4,5,5,6,5,6,6,7,2,3,3,4,3,4,4,5,3,4,4,5,4,5,5,6,3,4,4,5,4,5,5,6,4,5,5,6,5,6,6,7,3,4,4,5,4,5,5,6,4,5,5,6,5,6,6,7,4,5,5,6,5,6,6,7,5,6,6,7,6,7,7,8]⟩))) (.t 17)) [0,1,2,3,4,5,6,7,8,9,10,11,12],qB 19 .add 15 18,oB 20 (.conv .i64 (.t 19)),qM 2 20]) .ret)
def ZG8:FnI:=⟨1,ZJV,[(2,none)]⟩
def ZJg:C:=oS [qW 2 0] (oS [qM 3 0,oB 4 (.bin .shr (.t 3) (.c (.d (.int .u64 1)))),oB 5 (.bin .and (.t 4) (.c (.d (.int .u64 6148914691236517205)))),qM 6 0,oB 7 (.bin .and (.t 6) (.c (.d (.int .u64 6148914691236517205)))),qB 8 .add 5 7,qM 0 8] (oS [qM 9 0,oB 10 (.bin .shr (.t 9) (.c (.d (.int .u64 2)))),oB 11 (.bin .and (.t 10) (.c (.d (.int .u64 3689348814741910323)))),qM 12 0,oB 13 (.bin .and (.t 12) (.c (.d (.int .u64 3689348814741910323)))),qB 14 .add 11 13,qM 0 14] (oS [qM 15 0,oB 16 (.bin .shr (.t 15) (.c (.d (.int .u64 4)))),qM 17 0,qB 18 .add 16 17,oB 19 (.bin .and (.t 18) (.c (.d (.int .u64 1085102592571150095)))),qM 0 19] (oS [qM 20 0,qM 21 0,oB 22 (.bin .shr (.t 21) (.c (.d (.int .u64 8)))),qB 23 .add 20 22,qM 0 23] (oS [qM 24 0,qM 25 0,oB 26 (.bin .shr (.t 25) (.c (.d (.int .u64 16)))),qB 27 .add 24 26,qM 0 27] (oS [qM 28 0,qM 29 0,oB 30 (.bin .shr (.t 29) (.c (.d (.int .u64 32)))),qB 31 .add 28 30,qM 0 31] (oR [qM 32 0,oB 33 (.conv .i64 (.t 32)),qK 34 .and 33 127,qM 2 34])))))))
def ZBX:FnI:=⟨1,ZJg,[(2,none)]⟩
def ZIB:C:=oS [qW 2 0] (.seq (oS [qM 3 0,oB 4 (.bin .eql (.t 3) (.c (.d (.int .u32 0))))] (oC 4 [qW 2 32])) (oR [qM 5 0,qM 6 0,oB 7 (.un .neg (.t 6)),qB 8 .and 5 7,oB 9 (.bin .mul (.t 8) (.c (.d (.int .u32 125613361)))),oB 10 (.bin .shr (.t 9) (.c (.d (.int .u64 27)))),oB 11 (.iaddrA 32 1 (.c (.d (.rptr ZJC))) (.t 10)),qL 12 11,oB 13 (.conv .i64 (.t 12)),qM 2 13]))
def ZG7:FnI:=⟨1,ZIB,[(2,none)]⟩
def ZKe:C:=oS [qW 2 0] (.seq (oS [qM 3 0,oB 4 (.bin .eql (.t 3) (.c (.d (.int .u64 0))))] (oC 4 [qW 2 64])) (oR [qM 5 0,qM 6 0,oB 7 (.un .neg (.t 6)),qB 8 .and 5 7,oB 9 (.bin .mul (.t 8) (.c (.d (.int .u64 285870213051353865)))),oB 10 (.bin .shr (.t 9) (.c (.d (.int .u64 58)))),oB 11 (.iaddrA 64 1 (.c (.d (.rptr ZDI))) (.t 10)),qL 12 11,oB 13 (.conv .i64 (.t 12)),qM 2 13]))
def ZCO:FnI:=⟨1,ZKe,[(2,none)]⟩
def ZJU:C:=oS [qO 3 0,qff 4] (oR [qF 5 1 3,qL 6 5,qL 7 1,qB 8 .eql 6 7,qM 9 8,vA 10 2 2 9 true,vF 11 0 3 9 true,vL 12 11 9 true,vD 13 145 10 12 9 true,vU 14 13 9 true,qP 15 9 14,qM 4 15])
def ZBY:FnI:=⟨3,ZJU,[(4,none)]⟩
def ZKg:C:=oS [qff 2] (oR [qM 3 0,qK 4 .lss 3 (-1),qM 5 4,vM 6 0 5 false,vK 7 .gtr 6 1099511627775 5 false,qJ 8 5 7,qM 2 8])
def ZDS:FnI:=⟨1,ZKg,[(2,none)]⟩
def ZJd:C:=oS [qff 4] (.seq (.seq (.draw [qM 5 0,qZ 6 5,qF 7 1 6,qL 8 7,uM 9 1 [0,1,2,3],uZ 10 9 [0,1,2,3],uF 11 2 10 [0,1,2,3],uL 12 11 [0,1,2,3],qB 13 .neq 8 12]) (oC 13 [qff 4])) (oS [qM 14 0,qZ 15 14,qF 16 1 15,qL 17 16,qK 18 .add 17 1,qZ 19 14,qF 20 1 19,qS 1 20 18] (oR [qtt 4])))
def ZE0:FnI:=⟨2,ZJd,[(4,none)]⟩
def Zzz:C:=.block 1 (oS [qM 21 2,qM 22 1,qB 23 .sub 21 22,qM 12 23] (.seq (oS [qM 24 12,qK 25 .leq 24 12] (oC 25 [qM 26 0,qM 27 1,qM 28 2,qM 29 4,oB 30 (.call 204 [.t 26,.t 27,.t 28,.t 29])])) (.seq (oS [qM 31 3,qK 32 .eql 31 0] (oC 32 [qM 33 0,qM 34 1,qM 35 2,qM 36 4,oB 37 (.call 205 [.t 33,.t 34,.t 35,.t 36])])) (.seq (oS [qM 38 10,qU 39 38] (cY 39 (oS [qM 40 0,qM 41 1,qM 42 2,qM 43 4,oB 44 (.call 206 [.t 40,.t 41,.t 42,.t 43])] (.ops [qM 45 3,qK 46 .sub 45 1,qM 3 46])) .skip)) (oS [qM 48 0,qM 49 1,qM 50 2,qM 51 4,oB 52 (.call 207 [.t 48,.t 49,.t 50,.t 51]),qM 47 52,qE 53 47 0,qE 54 47 1,qM 13 53,qM 14 54] (.seq (oS [qM 55 14,qK 56 .eql 55 2] (cY 56 (oS [qM 57 0,qM 58 1,qM 59 2,qM 60 4,oB 61 (.call 208 [.t 57,.t 58,.t 59,.t 60])] (oS [qM 62 2,qK 63 .sub 62 1,qM 64 13,qM 65 1,qB 66 .sub 64 65,qB 67 .sub 63 66,qM 13 67] (.ops [qW 14 1]))) .skip)) (.seq (oS [qM 68 10,qM 69 68,vM 70 11 69 true,qP 71 69 70,qM 72 71,vM 73 14 72 true,vK 74 .eql 73 1 72 true,qP 75 72 74] (cY 75 (oS [qM 76 0,qM 77 1,qM 78 2,qM 79 4,oB 80 (.call 209 [.t 76,.t 77,.t 78,.t 79])] (cY 80 .ret .skip)) .skip)) (.seq (.seq (.draw [qM 81 1,qK 82 .gtr 81 0,qM 83 82,vM 84 4 83 true,wM 85 0 83 true [3],wM 86 1 83 true [3,4],⟨some 87,.bin .sub (.t 86) (iN 1),some (83,true),[3,4],0⟩,wI 88 1 85 87 83 true [3],wL 89 88 83 true [3],wM 90 0 83 true [3,4,5,6,7,8],wM 91 13 83 true [3,4,5,6,7,8,9],wI 92 1 90 91 83 true [3,4,5,6,7,8],wL 93 92 83 true [3,4,5,6,7,8],oG 94 (.callv (.t 84) [.t 89,.t 93]) 83 true,vK 95 .lss 94 0 83 true,vU 96 95 83 true,qP 97 83 96]) (cY 97 (oS [qM 98 0,qM 99 1,qM 100 2,qM 101 13,qM 102 4,oB 103 (.call 210 [.t 98,.t 99,.t 100,.t 101,.t 102]),qM 15 103] (oS [qM 104 15,qM 1 104] (.exit 1))) .skip)) (oS [qM 106 0,qM 107 1,qM 108 2,qM 109 13,qM 110 4,oB 111 (.call 211 [.t 106,.t 107,.t 108,.t 109,.t 110]),qM 105 111,qE 112 105 0,qE 113 105 1,qM 16 112,qM 17 113] (oS [qM 114 17,qM 11 114] (oS [qM 115 16,qM 116 1,qB 117 .sub 115 116,qM 118 2,qM 119 16,qB 120 .sub 118 119,qM 18 117,qM 19 120] (oS [qM 121 12,qK 122 .quo 121 8,qM 20 122] (oS [qM 123 18,qM 124 19,qB 125 .lss 123 124] (cY 125 (oS [qM 126 18,qM 127 20,qB 128 .geq 126 127,qM 10 128] (oS [qM 129 0,qM 130 1,qM 131 16,qM 132 3,qM 133 4,oB 134 (.call 192 [.t 129,.t 130,.t 131,.t 132,.t 133])] (.ops [qM 135 16,qK 136 .add 135 1,qM 1 136]))) (oS [qM 137 19,qM 138 20,qB 139 .geq 137 138,qM 10 139] (oS [qM 140 0,qM 141 16,qK 142 .add 141 1,qM 143 2,qM 144 3,qM 145 4,oB 146 (.call 192 [.t 140,.t 142,.t 143,.t 144,.t 145])] (.ops [qM 147 16,qM 2 147])))))))))))))))))
def ZJh:C:=oS [qtt 10] (oS [qtt 11] (.block 0 (.loop [0,1,2,3,4,10,11] [] Zzz)))
def ZBS:FnI:=⟨5,ZJh,[]⟩
def ZJi:C:=oS [qW 2 0] (.seq (oS [qM 3 0,oB 4 (.bin .geq (.t 3) (.c (.d (.int .u32 65536))))] (cY 4 (oS [qM 5 0,oB 6 (.bin .shr (.t 5) (.c (.d (.int .u64 16)))),qM 0 6] (.ops [qW 2 16])) .skip)) (.seq (oS [qM 7 0,oB 8 (.bin .geq (.t 7) (.c (.d (.int .u32 256))))] (cY 8 (oS [qM 9 0,oB 10 (.bin .shr (.t 9) (.c (.d (.int .u64 8)))),qM 0 10] (.ops [qM 11 2,qK 12 .add 11 8,qM 2 12])) .skip)) (oR [qM 13 2,qM 14 0,oB 15 (.conv .u8 (.t 14)),oB 16 (.indexS (.c (.d (.str ⟨#[0,1,2,2,3,3,3,3,4,4,4,4,4,4,4,4,5,5,5,5,5,5,5,5,5,5,5,5,5,5,5,5,6,6,6,6,6,6,6,6,6,6,6,6,6,6,6,6,6,6,6,6,6,6,6,6,6,6,6,6,6,6,6,6,7,7,7,7,7,7,7,7,7,7,7,7,7,7,7,7,7,7,7,7,7,7,7,7,7,7,7,7,7,7,7,7,7,7,7,7,7,7,7,7,7,7,7,7,7,7,7,7,7,7,7,7,7,7,7,7,7,7,7,7,7,7,7,7,8,8,8,8,8,8,8,8,8,8,8,8,8,8,8,8,8,8,8,8,8,8,8,8,8,8,8,8,8,8,8,8,8,8,8,8,8,8,8,8,8,8,8,8,8,8,8,8,8,8,8,8,8,8,8,8,8,8,8,8,8,8,8,8,8,8,8,8,8,8,8,8,8,8,8,8,8,8,8,8,8,8,8,8,8,8,8,8,8,8,8,8,8,8,8,8,8,8,8,8,8,8,8,8,8,8,8,8,8,8,8,8,8,8,8,8,8,8,8,8,8,8,8,8,8,8,8,8]⟩))) (.t 15)),oB 17 (.conv .i64 (.t 16)),qB 18 .add 13 17,qM 2 18])))
def ZGR:FnI:=⟨1,ZJi,[(2,none)]⟩
def ZKf:C:=oS [qW 2 0] (.seq (oS [qM 3 0,oB 4 (.bin .geq (.t 3) (.c (.d (.int .u64 4294967296))))] (cY 4 (oS [qM 5 0,oB 6 (.bin .shr (.t 5) (.c (.d (.int .u64 32)))),qM 0 6] (.ops [qW 2 32])) .skip)) (.seq (oS [qM 7 0,oB 8 (.bin .geq (.t 7) (.c (.d (.int .u64 65536))))] (cY 8 (oS [qM 9 0,oB 10 (.bin .shr (.t 9) (.c (.d (.int .u64 16)))),qM 0 10] (.ops [qM 11 2,qK 12 .add 11 16,qM 2 12])) .skip)) (.seq (oS [qM 13 0,oB 14 (.bin .geq (.t 13) (.c (.d (.int .u64 256))))] (cY 14 (oS [qM 15 0,oB 16 (.bin .shr (.t 15) (.c (.d (.int .u64 8)))),qM 0 16] (.ops [qM 17 2,qK 18 .add 17 8,qM 2 18])) .skip)) (oR [qM 19 2,qM 20 0,oB 21 (.conv .u8 (.t 20)),oB 22 (.indexS (.c (.d (.str ⟨#[0,1,2,2,3,3,3,3,4,4,4,4,4,4,4,4,5,5,5,5,5,5,5,5,5,5,5,5,5,5,5,5,6,6,6,6,6,6,6,6,6,6,6,6,6,6,6,6,6,6,6,6,6,6,6,6,6,6,6,6,6,6,6,6,7,7,7,7,7,7,7,7,7,7,7,7,7,7,7,7,7,7,7,7,7,7,7,7,7,7,7,7,7,7,7,7,7,7,7,7,7,7,7,7,7,7,7,7,7,7,7,7,7,7,7,7,7,7,7,7,7,7,7,7,7,7,7,7,8,8,8,8,8,8,8,8,8,8,8,8,8,8,8,8,8,8,8,8,8,8,8,8,8,8,8,8,8,8,8,8,8,8,8,8,8,8,8,8,8,8,8,8,8,8,8,8,8,8,8,8,8,8,8,8,8,8,8,8,8,8,8,8,8,8,8,8,8,8,8,8,8,8,8,8,8,8,8,8,8,8,8,8,8,8,8,8,8,8,8,8,8,8,8,8,8,8,8,8,8,8,8,8,8,8,8,8,8,8,8,8,8,8,8,8,8,8,8,8,8,8,8,8,8,8,8,8]⟩))) (.t 21)),oB 23 (.conv .i64 (.t 22)),qB 24 .add 19 23,qM 2 24]))))
def ZFg:FnI:=⟨1,ZKf,[(2,none)]⟩
def ZAL:C:=.seq (.seq (.draw [qM 18 9,uM 19 1 [0],qB 20 .gtr 18 19,qM 21 20,vM 22 3 21 true,wM 23 0 21 true [4],wM 24 9 21 true [4,5],wI 25 1 23 24 21 true [4],wL 26 25 21 true [4],wM 27 0 21 true [4,5,6,7,8],wM 28 9 21 true [4,5,6,7,8,9],⟨some 29,.bin .sub (.t 28) (iN 1),some (21,true),[4,5,6,7,8,9],0⟩,wI 30 1 27 29 21 true [4,5,6,7,8],wL 31 30 21 true [4,5,6,7,8],oG 32 (.callv (.t 22) [.t 26,.t 31]) 21 true,vK 33 .lss 32 0 21 true,qP 34 21 33]) (cX 34 2)) (.seq (.block 3 (.draw [qM 37 0,uM 38 9 [0],uM 39 0 [0,1],uM 40 9 [0,1,2],oM 41 (.bin .sub (.t 40) (iN 1)) [0,1,2],uM 42 0 [0,1,2,3,4],uM 43 9 [0,1,2,3,4,5],oM 44 (.bin .sub (.t 43) (iN 1)) [0,1,2,3,4,5],uI 45 1 42 44 [0,1,2,3,4],uL 46 45 [0,1,2,3,4],uM 47 0 [0,1,2,3,4,5,6,7,8,9],uM 48 9 [0,1,2,3,4,5,6,7,8,9,10],uI 49 1 47 48 [0,1,2,3,4,5,6,7,8,9],uL 50 49 [0,1,2,3,4,5,6,7,8,9],uI 51 1 37 38 [2,3,4],qX 1 51 46 4,qI 52 1 39 41,qX 1 52 50 4])) (.ops [qM 35 9,qK 36 .sub 35 1,qM 9 36]))
def ZzD:C:=.seq (oS [qM 12 8,qM 13 2,qB 14 .lss 12 13] (cX 14 0)) (.seq (.block 1 (oS [qM 17 8,qM 9 17] (.block 2 (.loop [0,1,2,3,8,9] [0,1,2,3,8] ZAL)))) (.ops [qM 15 8,qK 16 .add 15 1,qM 8 16]))
def ZIZ:C:=oS [qM 10 1,qK 11 .add 10 1,qM 8 11] (.block 0 (.loop [0,1,2,3,8] [] ZzD))
def ZCu:FnI:=⟨4,ZIZ,[]⟩
def ZzA:C:=.seq (oS [qM 20 11,qK 21 .geq 20 0] (cX 21 0)) (.seq (.block 1 (.ops [qM 24 0,qM 25 11,qM 26 10,qM 27 8,qM 28 3,oB 29 (.call 218 [.t 24,.t 25,.t 26,.t 27,.t 28])])) (.ops [qM 22 11,qK 23 .sub 22 1,qM 11 23]))
def ZzT:C:=.seq (oS [qM 32 12,qK 33 .geq 32 0] (cX 33 2)) (.seq (.block 3 (.seq (.draw [qM 36 0,uM 37 8 [0],uM 38 0 [0,1],uM 39 8 [0,1,2],uM 40 12 [0,1,2,3],oM 41 (.bin .add (.t 39) (.t 40)) [0,1,2],uM 42 0 [0,1,2,3,4,5],uM 43 8 [0,1,2,3,4,5,6],uM 44 12 [0,1,2,3,4,5,6,7],oM 45 (.bin .add (.t 43) (.t 44)) [0,1,2,3,4,5,6],uI 46 1 42 45 [0,1,2,3,4,5],uL 47 46 [0,1,2,3,4,5],uM 48 0 [0,1,2,3,4,5,6,7,8,9,10,11],uM 49 8 [0,1,2,3,4,5,6,7,8,9,10,11,12],uI 50 1 48 49 [0,1,2,3,4,5,6,7,8,9,10,11],uL 51 50 [0,1,2,3,4,5,6,7,8,9,10,11],uI 52 1 36 37 [2,3,4,5],qX 1 52 47 4,qI 53 1 38 41,qX 1 53 51 4]) (.ops [qM 54 0,qM 55 9,qM 56 12,qM 57 8,qM 58 3,oB 59 (.call 218 [.t 54,.t 55,.t 56,.t 57,.t 58])]))) (.ops [qM 34 12,qK 35 .sub 34 1,qM 12 35]))
def ZKw:C:=oS [qM 13 1,qM 8 13] (oS [qW 9 0] (oS [qM 14 2,qM 15 1,qB 16 .sub 14 15,qM 10 16] (.seq (oS [qM 17 10,qK 18 .sub 17 1,qK 19 .quo 18 2,qM 11 19] (.block 0 (.loop [0,3,8,9,10,11] [0,3,8,9,10] ZzA))) (oS [qM 30 10,qK 31 .sub 30 1,qM 12 31] (.block 2 (.loop [0,3,8,9,12] [] ZzT))))))
def ZE6:FnI:=⟨4,ZKw,[]⟩
def ZzX:C:=.seq (oS [qM 28 11,qM 29 1,qM 30 8,qK 31 .quo 30 4,qK 32 .mul 31 2,qB 33 .add 29 32,qK 34 .add 33 1,qB 35 .leq 28 34] (cX 35 0)) (.seq (.block 1 (oS [qC 38 214 9,qM 39 10,oB 40 (.bin .sub (.t 39) (.c (.d (.int .u64 1)))),qB 41 .and 38 40,oB 42 (.conv .i64 (.t 41)),qM 12 42] (.seq (oS [qM 43 12,qM 44 8,qB 45 .geq 43 44] (cY 45 (.ops [qM 46 12,qM 47 8,qB 48 .sub 46 47,qM 12 48]) .skip)) (.draw [qM 49 0,uM 50 11 [0],uM 51 0 [0,1],uM 52 1 [0,1,2],uM 53 12 [0,1,2,3],oM 54 (.bin .add (.t 52) (.t 53)) [0,1,2],uM 55 0 [0,1,2,3,4,5],uM 56 1 [0,1,2,3,4,5,6],uM 57 12 [0,1,2,3,4,5,6,7],oM 58 (.bin .add (.t 56) (.t 57)) [0,1,2,3,4,5,6],uI 59 1 55 58 [0,1,2,3,4,5],uL 60 59 [0,1,2,3,4,5],uM 61 0 [0,1,2,3,4,5,6,7,8,9,10,11],uM 62 11 [0,1,2,3,4,5,6,7,8,9,10,11,12],uI 63 1 61 62 [0,1,2,3,4,5,6,7,8,9,10,11],uL 64 63 [0,1,2,3,4,5,6,7,8,9,10,11],uI 65 1 49 50 [2,3,4,5],qX 1 65 60 4,qI 66 1 51 54,qX 1 66 64 4])))) (.ops [qM 36 11,qK 37 .add 36 1,qM 11 37]))
def ZJP:C:=oS [qM 13 2,qM 14 1,qB 15 .sub 13 14,qM 8 15] (oS [qM 16 8,qK 17 .geq 16 8] (cY 17 (oS [qM 18 8,oB 19 (.conv .u64 (.t 18)),oB 9 (.alloc (.d (.int .u64 0))),qS 1 9 19] (oS [qM 20 8,qC 21 213 20,qM 10 21] (oS [qM 22 1,qM 23 8,qK 24 .quo 23 4,qK 25 .mul 24 2,qB 26 .add 22 25,qK 27 .sub 26 1,qM 11 27] (.block 0 (.loop [0,1,8,9,10,11] [] ZzX))))) .skip))
def ZEL:FnI:=⟨4,ZJP,[]⟩
def ZKy:C:=oS [qW 8 0,qW 9 0] (oS [qM 15 2,qM 16 1,qB 17 .sub 15 16,qM 10 17] (oS [oB 11 (.alloc zI)] (oS [qM 18 1,qM 19 10,qK 20 .quo 19 4,qK 21 .mul 20 1,qB 22 .add 18 21,qM 12 22] (oS [qM 23 1,qM 24 10,qK 25 .quo 24 4,qK 26 .mul 25 2,qB 27 .add 23 26,qM 13 27] (oS [qM 28 1,qM 29 10,qK 30 .quo 29 4,qK 31 .mul 30 3,qB 32 .add 28 31,qM 14 32] (.seq (oS [qM 33 10,qK 34 .geq 33 8] (cY 34 (.seq (oS [qM 35 10,qK 36 .geq 35 50] (cY 36 (oS [qM 37 0,qM 38 12,qM 39 3,oB 40 (.call 219 [.t 37,.t 38,.t 11,.t 39]),qM 12 40] (oS [qM 41 0,qM 42 13,qM 43 3,oB 44 (.call 219 [.t 41,.t 42,.t 11,.t 43]),qM 13 44] (.ops [qM 45 0,qM 46 14,qM 47 3,oB 48 (.call 219 [.t 45,.t 46,.t 11,.t 47]),qM 14 48]))) .skip)) (.ops [qM 49 0,qM 50 12,qM 51 13,qM 52 14,qM 53 3,oB 54 (.call 220 [.t 49,.t 50,.t 51,.t 52,.t 11,.t 53]),qM 13 54])) .skip)) (oS [qL 55 11] (.block 0 (oS [qK 58 .eql 55 0,qM 57 58] (cY 57 (oR [qM 59 13,qM 8 59,qW 9 1]) (oS [qK 61 .eql 55 12,qM 60 61] (cY 60 (oR [qM 62 13,qM 8 62,qW 9 2]) (oR [qM 56 13,qM 8 56,qW 9 0])))))))))))))
def ZCm:FnI:=⟨4,ZKy,[(8,none),(9,none)]⟩
def Zz0:C:=.seq (oS [qM 13 8,qM 14 9,qB 15 .lss 13 14] (cX 15 0)) (.block 1 (.seq (.draw [qM 16 0,uM 17 8 [0],uM 18 0 [0,1],uM 19 9 [0,1,2],uM 20 0 [0,1,2,3],uM 21 9 [0,1,2,3,4],uI 22 1 20 21 [0,1,2,3],uL 23 22 [0,1,2,3],uM 24 0 [0,1,2,3,4,5,6,7],uM 25 8 [0,1,2,3,4,5,6,7,8],uI 26 1 24 25 [0,1,2,3,4,5,6,7],uL 27 26 [0,1,2,3,4,5,6,7],uI 28 1 16 17 [2,3],qX 1 28 23 4,qI 29 1 18 19,qX 1 29 27 4]) (oS [qM 30 8,qK 31 .add 30 1,qM 8 31] (.ops [qM 32 9,qK 33 .sub 32 1,qM 9 33]))))
def ZIO:C:=oS [qM 10 1,qM 8 10] (oS [qM 11 2,qK 12 .sub 11 1,qM 9 12] (.block 0 (.loop [0,8,9] [] Zz0)))
def ZCy:FnI:=⟨4,ZIO,[]⟩
def ZAd:C:=.seq (.seq (.draw [qM 19 9,uM 20 2 [0],qB 21 .lss 19 20,qM 22 21,vM 23 3 22 true,wM 24 0 22 true [4],wM 25 9 22 true [4,5],wI 26 1 24 25 22 true [4],wL 27 26 22 true [4],wM 28 0 22 true [4,5,6,7,8],wM 29 9 22 true [4,5,6,7,8,9],⟨some 30,.bin .sub (.t 29) (iN 1),some (22,true),[4,5,6,7,8,9],0⟩,wI 31 1 28 30 22 true [4,5,6,7,8],wL 32 31 22 true [4,5,6,7,8],oG 33 (.callv (.t 23) [.t 27,.t 32]) 22 true,vK 34 .lss 33 0 22 true,vU 35 34 22 true,qP 36 22 35]) (cX 36 2)) (.block 3 (.ops [qM 37 9,qK 38 .add 37 1,qM 9 38]))
def ZAJ:C:=.seq (oS [qM 68 11,qK 69 .geq 68 1] (cX 69 4)) (.seq (.block 5 (.seq (.seq (.draw [qM 72 3,uM 73 0 [0],uM 74 11 [0,1],uI 75 1 73 74 [0],uL 76 75 [0],uM 77 0 [0,1,2,3,4],uM 78 11 [0,1,2,3,4,5],oM 79 (.bin .sub (.t 78) (iN 1)) [0,1,2,3,4,5],uI 80 1 77 79 [0,1,2,3,4],uL 81 80 [0,1,2,3,4],oB 82 (.callv (.t 72) [.t 76,.t 81]),qK 83 .lss 82 0,qU 84 83]) (cY 84 (.exit 4) .skip)) (.draw [qM 85 0,uM 86 11 [0],uM 87 0 [0,1],uM 88 11 [0,1,2],oM 89 (.bin .sub (.t 88) (iN 1)) [0,1,2],uM 90 0 [0,1,2,3,4],uM 91 11 [0,1,2,3,4,5],oM 92 (.bin .sub (.t 91) (iN 1)) [0,1,2,3,4,5],uI 93 1 90 92 [0,1,2,3,4],uL 94 93 [0,1,2,3,4],uM 95 0 [0,1,2,3,4,5,6,7,8,9],uM 96 11 [0,1,2,3,4,5,6,7,8,9,10],uI 97 1 95 96 [0,1,2,3,4,5,6,7,8,9],uL 98 97 [0,1,2,3,4,5,6,7,8,9],uI 99 1 85 86 [2,3,4],qX 1 99 94 4,qI 100 1 87 89,qX 1 100 98 4]))) (.ops [qM 70 11,qK 71 .sub 70 1,qM 11 71]))
def ZAr:C:=.seq (oS [qM 107 12,qM 108 2,qB 109 .lss 107 108] (cX 109 6)) (.seq (.block 7 (.seq (.seq (.draw [qM 112 3,uM 113 0 [0],uM 114 12 [0,1],uI 115 1 113 114 [0],uL 116 115 [0],uM 117 0 [0,1,2,3,4],uM 118 12 [0,1,2,3,4,5],oM 119 (.bin .sub (.t 118) (iN 1)) [0,1,2,3,4,5],uI 120 1 117 119 [0,1,2,3,4],uL 121 120 [0,1,2,3,4],oB 122 (.callv (.t 112) [.t 116,.t 121]),qK 123 .lss 122 0,qU 124 123]) (cY 124 (.exit 6) .skip)) (.draw [qM 125 0,uM 126 12 [0],uM 127 0 [0,1],uM 128 12 [0,1,2],oM 129 (.bin .sub (.t 128) (iN 1)) [0,1,2],uM 130 0 [0,1,2,3,4],uM 131 12 [0,1,2,3,4,5],oM 132 (.bin .sub (.t 131) (iN 1)) [0,1,2,3,4,5],uI 133 1 130 132 [0,1,2,3,4],uL 134 133 [0,1,2,3,4],uM 135 0 [0,1,2,3,4,5,6,7,8,9],uM 136 12 [0,1,2,3,4,5,6,7,8,9,10],uI 137 1 135 136 [0,1,2,3,4,5,6,7,8,9],uL 138 137 [0,1,2,3,4,5,6,7,8,9],uI 139 1 125 126 [2,3,4],qX 1 139 134 4,qI 140 1 127 129,qX 1 140 138 4]))) (.ops [qM 110 12,qK 111 .add 110 1,qM 12 111]))
def Zzx:C:=.seq (oS [qM 15 10,qK 16 .lss 15 5] (cX 16 0)) (.seq (.block 1 (.seq (.block 2 (.loop [0,1,2,3,9,10] [0,1,2,3,9,10] ZAd)) (.seq (oS [qM 39 9,qM 40 2,qB 41 .eql 39 40] (oC 41 [qtt 8])) (.seq (oS [qM 42 2,qM 43 1,qB 44 .sub 42 43,qK 45 .lss 44 50] (oC 45 [qff 8])) (.seq (.draw [qM 46 0,uM 47 9 [0],uM 48 0 [0,1],uM 49 9 [0,1,2],oM 50 (.bin .sub (.t 49) (iN 1)) [0,1,2],uM 51 0 [0,1,2,3,4],uM 52 9 [0,1,2,3,4,5],oM 53 (.bin .sub (.t 52) (iN 1)) [0,1,2,3,4,5],uI 54 1 51 53 [0,1,2,3,4],uL 55 54 [0,1,2,3,4],uM 56 0 [0,1,2,3,4,5,6,7,8,9],uM 57 9 [0,1,2,3,4,5,6,7,8,9,10],uI 58 1 56 57 [0,1,2,3,4,5,6,7,8,9],uL 59 58 [0,1,2,3,4,5,6,7,8,9],uI 60 1 46 47 [2,3,4],qX 1 60 55 4,qI 61 1 48 50,qX 1 61 59 4]) (.seq (oS [qM 62 9,qM 63 1,qB 64 .sub 62 63,qK 65 .geq 64 2] (cY 65 (oS [qM 66 9,qK 67 .sub 66 1,qM 11 67] (.block 4 (.loop [0,1,2,3,9,10,11] [0,1,2,3,9,10] ZAJ))) .skip)) (oS [qM 101 2,qM 102 9,qB 103 .sub 101 102,qK 104 .geq 103 2] (cY 104 (oS [qM 105 9,qK 106 .add 105 1,qM 12 106] (.block 6 (.loop [0,1,2,3,9,10,12] [0,1,2,3,9,10] ZAr))) .skip)))))))) (.ops [qM 17 10,qK 18 .add 17 1,qM 10 18]))
def ZIK:C:=oS [qff 8] (oS [qM 13 1,qK 14 .add 13 1,qM 9 14] (.seq (oS [qW 10 0] (.block 0 (.loop [0,1,2,3,9,10] [8] Zzx))) (oR [qff 8])))
def ZEq:FnI:=⟨4,ZIK,[(8,none)]⟩
def ZzF:C:=.seq (.seq (.draw [qM 31 11,uM 32 12 [0],qB 33 .leq 31 32,qM 34 33,vM 35 4 34 true,wM 36 0 34 true [4],wM 37 1 34 true [4,5],wI 38 1 36 37 34 true [4],wL 39 38 34 true [4],wM 40 0 34 true [4,5,6,7,8],wM 41 11 34 true [4,5,6,7,8,9],wI 42 1 40 41 34 true [4,5,6,7,8],wL 43 42 34 true [4,5,6,7,8],oG 44 (.callv (.t 35) [.t 39,.t 43]) 34 true,vK 45 .lss 44 0 34 true,vU 46 45 34 true,qP 47 34 46]) (cX 47 2)) (.block 3 (.ops [qM 48 11,qK 49 .add 48 1,qM 11 49]))
def ZzR:C:=.seq (.seq (.draw [qM 50 11,uM 51 12 [0],qB 52 .leq 50 51,qM 53 52,vM 54 4 53 true,wM 55 0 53 true [4],wM 56 1 53 true [4,5],wI 57 1 55 56 53 true [4],wL 58 57 53 true [4],wM 59 0 53 true [4,5,6,7,8],wM 60 12 53 true [4,5,6,7,8,9],wI 61 1 59 60 53 true [4,5,6,7,8],wL 62 61 53 true [4,5,6,7,8],oG 63 (.callv (.t 54) [.t 58,.t 62]) 53 true,vK 64 .lss 63 0 53 true,qP 65 53 64]) (cX 65 4)) (.block 5 (.ops [qM 66 12,qK 67 .sub 66 1,qM 12 67]))
def ZAC:C:=.block 1 (.seq (.block 2 (.loop [0,1,4,11,12] [0,1,4,11,12] ZzF)) (.seq (.block 4 (.loop [0,1,4,11,12] [0,1,4,11,12] ZzR)) (.seq (oS [qM 68 11,qM 69 12,qB 70 .gtr 68 69] (cY 70 (.exit 0) .skip)) (.seq (.draw [qM 71 0,uM 72 11 [0],uM 73 0 [0,1],uM 74 12 [0,1,2],uM 75 0 [0,1,2,3],uM 76 12 [0,1,2,3,4],uI 77 1 75 76 [0,1,2,3],uL 78 77 [0,1,2,3],uM 79 0 [0,1,2,3,4,5,6,7],uM 80 11 [0,1,2,3,4,5,6,7,8],uI 81 1 79 80 [0,1,2,3,4,5,6,7],uL 82 81 [0,1,2,3,4,5,6,7],uI 83 1 71 72 [2,3],qX 1 83 78 4,qI 84 1 73 74,qX 1 84 82 4]) (oS [qM 85 11,qK 86 .add 85 1,qM 11 86] (.ops [qM 87 12,qK 88 .sub 87 1,qM 12 88]))))))
def ZKA:C:=oS [qW 10 0] (.seq (.draw [qM 13 0,uM 14 1 [0],uM 15 0 [0,1],uM 16 3 [0,1,2],uM 17 0 [0,1,2,3],uM 18 3 [0,1,2,3,4],uI 19 1 17 18 [0,1,2,3],uL 20 19 [0,1,2,3],uM 21 0 [0,1,2,3,4,5,6,7],uM 22 1 [0,1,2,3,4,5,6,7,8],uI 23 1 21 22 [0,1,2,3,4,5,6,7],uL 24 23 [0,1,2,3,4,5,6,7],uI 25 1 13 14 [2,3],qX 1 25 20 4,qI 26 1 15 16,qX 1 26 24 4]) (oS [qM 27 1,qK 28 .add 27 1,qM 29 2,qK 30 .sub 29 1,qM 11 28,qM 12 30] (.seq (.block 0 (.loop [0,1,4,11,12] [11] ZAC)) (oR [qM 89 11,qM 10 89]))))
def ZFf:FnI:=⟨5,ZKA,[(10,none)]⟩
def ZAN:C:=.seq (.seq (.draw [qM 32 12,uM 33 13 [0],qB 34 .leq 32 33,qM 35 34,vM 36 4 35 true,wM 37 0 35 true [4],wM 38 12 35 true [4,5],wI 39 1 37 38 35 true [4],wL 40 39 35 true [4],wM 41 0 35 true [4,5,6,7,8],wM 42 1 35 true [4,5,6,7,8,9],wI 43 1 41 42 35 true [4,5,6,7,8],wL 44 43 35 true [4,5,6,7,8],oG 45 (.callv (.t 36) [.t 40,.t 44]) 35 true,vK 46 .lss 45 0 35 true,qP 47 35 46]) (cX 47 0)) (.block 1 (.ops [qM 48 12,qK 49 .add 48 1,qM 12 49]))
def ZAG:C:=.seq (.seq (.draw [qM 50 12,uM 51 13 [0],qB 52 .leq 50 51,qM 53 52,vM 54 4 53 true,wM 55 0 53 true [4],wM 56 13 53 true [4,5],wI 57 1 55 56 53 true [4],wL 58 57 53 true [4],wM 59 0 53 true [4,5,6,7,8],wM 60 1 53 true [4,5,6,7,8,9],wI 61 1 59 60 53 true [4,5,6,7,8],wL 62 61 53 true [4,5,6,7,8],oG 63 (.callv (.t 54) [.t 58,.t 62]) 53 true,vK 64 .lss 63 0 53 true,vU 65 64 53 true,qP 66 53 65]) (cX 66 2)) (.block 3 (.ops [qM 67 13,qK 68 .sub 67 1,qM 13 68]))
def ZAq:C:=.seq (.seq (.draw [qM 105 12,uM 106 13 [0],qB 107 .leq 105 106,qM 108 107,vM 109 4 108 true,wM 110 0 108 true [4],wM 111 12 108 true [4,5],wI 112 1 110 111 108 true [4],wL 113 112 108 true [4],wM 114 0 108 true [4,5,6,7,8],wM 115 1 108 true [4,5,6,7,8,9],wI 116 1 114 115 108 true [4,5,6,7,8],wL 117 116 108 true [4,5,6,7,8],oG 118 (.callv (.t 109) [.t 113,.t 117]) 108 true,vK 119 .lss 118 0 108 true,qP 120 108 119]) (cX 120 6)) (.block 7 (.ops [qM 121 12,qK 122 .add 121 1,qM 12 122]))
def ZAi:C:=.seq (.seq (.draw [qM 123 12,uM 124 13 [0],qB 125 .leq 123 124,qM 126 125,vM 127 4 126 true,wM 128 0 126 true [4],wM 129 13 126 true [4,5],wI 130 1 128 129 126 true [4],wL 131 130 126 true [4],wM 132 0 126 true [4,5,6,7,8],wM 133 1 126 true [4,5,6,7,8,9],wI 134 1 132 133 126 true [4,5,6,7,8],wL 135 134 126 true [4,5,6,7,8],oG 136 (.callv (.t 127) [.t 131,.t 135]) 126 true,vK 137 .lss 136 0 126 true,vU 138 137 126 true,qP 139 126 138]) (cX 139 8)) (.block 9 (.ops [qM 140 13,qK 141 .sub 140 1,qM 13 141]))
def ZzN:C:=.block 5 (.seq (.block 6 (.loop [0,1,4,12,13] [0,1,4,12,13] ZAq)) (.seq (.block 8 (.loop [0,1,4,12,13] [0,1,4,12,13] ZAi)) (.seq (oS [qM 142 12,qM 143 13,qB 144 .gtr 142 143] (cY 144 (.exit 4) .skip)) (.seq (.draw [qM 145 0,uM 146 12 [0],uM 147 0 [0,1],uM 148 13 [0,1,2],uM 149 0 [0,1,2,3],uM 150 13 [0,1,2,3,4],uI 151 1 149 150 [0,1,2,3],uL 152 151 [0,1,2,3],uM 153 0 [0,1,2,3,4,5,6,7],uM 154 12 [0,1,2,3,4,5,6,7,8],uI 155 1 153 154 [0,1,2,3,4,5,6,7],uL 156 155 [0,1,2,3,4,5,6,7],uI 157 1 145 146 [2,3],qX 1 157 152 4,qI 158 1 147 148,qX 1 158 156 4]) (oS [qM 159 12,qK 160 .add 159 1,qM 12 160] (.ops [qM 161 13,qK 162 .sub 161 1,qM 13 162]))))))
def ZKF:C:=oS [qW 10 0,qff 11] (.seq (.draw [qM 14 0,uM 15 1 [0],uM 16 0 [0,1],uM 17 3 [0,1,2],uM 18 0 [0,1,2,3],uM 19 3 [0,1,2,3,4],uI 20 1 18 19 [0,1,2,3],uL 21 20 [0,1,2,3],uM 22 0 [0,1,2,3,4,5,6,7],uM 23 1 [0,1,2,3,4,5,6,7,8],uI 24 1 22 23 [0,1,2,3,4,5,6,7],uL 25 24 [0,1,2,3,4,5,6,7],uI 26 1 14 15 [2,3],qX 1 26 21 4,qI 27 1 16 17,qX 1 27 25 4]) (oS [qM 28 1,qK 29 .add 28 1,qM 30 2,qK 31 .sub 30 1,qM 12 29,qM 13 31] (.seq (.block 0 (.loop [0,1,4,12,13] [0,1,4,12,13] ZAN)) (.seq (.block 2 (.loop [0,1,4,12,13] [0,1,4,12,13] ZAG)) (.seq (oS [qM 69 12,qM 70 13,qB 71 .gtr 69 70] (cY 71 (.seq (.draw [qM 72 0,uM 73 13 [0],uM 74 0 [0,1],uM 75 1 [0,1,2],uM 76 0 [0,1,2,3],uM 77 1 [0,1,2,3,4],uI 78 1 76 77 [0,1,2,3],uL 79 78 [0,1,2,3],uM 80 0 [0,1,2,3,4,5,6,7],uM 81 13 [0,1,2,3,4,5,6,7,8],uI 82 1 80 81 [0,1,2,3,4,5,6,7],uL 83 82 [0,1,2,3,4,5,6,7],uI 84 1 72 73 [2,3],qX 1 84 79 4,qI 85 1 74 75,qX 1 85 83 4]) (oR [qM 86 13,qM 10 86,qtt 11])) .skip)) (.seq (.draw [qM 87 0,uM 88 12 [0],uM 89 0 [0,1],uM 90 13 [0,1,2],uM 91 0 [0,1,2,3],uM 92 13 [0,1,2,3,4],uI 93 1 91 92 [0,1,2,3],uL 94 93 [0,1,2,3],uM 95 0 [0,1,2,3,4,5,6,7],uM 96 12 [0,1,2,3,4,5,6,7,8],uI 97 1 95 96 [0,1,2,3,4,5,6,7],uL 98 97 [0,1,2,3,4,5,6,7],uI 99 1 87 88 [2,3],qX 1 99 94 4,qI 100 1 89 90,qX 1 100 98 4]) (oS [qM 101 12,qK 102 .add 101 1,qM 12 102] (oS [qM 103 13,qK 104 .sub 103 1,qM 13 104] (.seq (.block 4 (.loop [0,1,4,12,13] [0,1,13] ZzN)) (.seq (.draw [qM 163 0,uM 164 13 [0],uM 165 0 [0,1],uM 166 1 [0,1,2],uM 167 0 [0,1,2,3],uM 168 1 [0,1,2,3,4],uI 169 1 167 168 [0,1,2,3],uL 170 169 [0,1,2,3],uM 171 0 [0,1,2,3,4,5,6,7],uM 172 13 [0,1,2,3,4,5,6,7,8],uI 173 1 171 172 [0,1,2,3,4,5,6,7],uL 174 173 [0,1,2,3,4,5,6,7],uI 175 1 163 164 [2,3],qX 1 175 170 4,qI 176 1 165 166,qX 1 176 174 4]) (oR [qM 177 13,qM 10 177,qff 11])))))))))))
def ZDG:FnI:=⟨5,ZKF,[(10,none),(11,none)]⟩
def ZJ8:C:=oS [oB 2 (.mov (.c (.d (.int .u64 0))))] (oR [qM 3 0,oB 4 (.conv .u64 (.t 3)),qC 5 179 4,oB 6 (.bin .shl (.c (.d (.int .u64 1))) (.t 5)),qM 2 6])
def ZEs:FnI:=⟨1,ZJ8,[(2,none)]⟩
def ZKC:C:=oS [oB 2 (.mov (.c (.d (.int .u64 0))))] (.seq (.draw [qM 3 0,qZ 4 3,qL 5 4,uM 6 0 [0,1,2],uZ 7 6 [0,1,2],uL 8 7 [0,1,2],oM 9 (.bin .shl (.t 8) (.c (.d (.int .u64 13)))) [0,1,2],qB 10 .xor 5 9,qZ 11 3,qX 1 11 10 4]) (.seq (.draw [qM 12 0,qZ 13 12,qL 14 13,uM 15 0 [0,1,2],uZ 16 15 [0,1,2],uL 17 16 [0,1,2],oM 18 (.bin .shr (.t 17) (.c (.d (.int .u64 7)))) [0,1,2],qB 19 .xor 14 18,qZ 20 12,qX 1 20 19 4]) (.seq (.draw [qM 21 0,qZ 22 21,qL 23 22,uM 24 0 [0,1,2],uZ 25 24 [0,1,2],uL 26 25 [0,1,2],oM 27 (.bin .shl (.t 26) (.c (.d (.int .u64 17)))) [0,1,2],qB 28 .xor 23 27,qZ 29 21,qX 1 29 28 4]) (oR [qM 30 0,qZ 31 30,qL 32 31,qM 2 32]))))
def ZDR:FnI:=⟨1,ZKC,[(2,none)]⟩
def ZAa:C:=.block 1 (oS [qM 13 10,oB 14 (.bin .mul (iN 2) (.t 13)),qK 15 .add 14 1,qM 11 15] (.seq (oS [qM 16 11,qM 17 2,qB 18 .geq 16 17] (cY 18 (.exit 0) .skip)) (.seq (.seq (.draw [qM 19 11,qK 20 .add 19 1,uM 21 2 [0,1],qB 22 .lss 20 21,qM 23 22,vM 24 4 23 true,wM 25 0 23 true [5],wM 26 3 23 true [5,6],wM 27 11 23 true [5,6,7],⟨some 28,.bin .add (.t 26) (.t 27),some (23,true),[5,6],0⟩,wI 29 1 25 28 23 true [5],wL 30 29 23 true [5],wM 31 0 23 true [5,6,7,8,9,10,11],wM 32 3 23 true [5,6,7,8,9,10,11,12],wM 33 11 23 true [5,6,7,8,9,10,11,12,13],⟨some 34,.bin .add (.t 32) (.t 33),some (23,true),[5,6,7,8,9,10,11,12],0⟩,⟨some 35,.bin .add (.t 34) (iN 1),some (23,true),[5,6,7,8,9,10,11,12],0⟩,wI 36 1 31 35 23 true [5,6,7,8,9,10,11],wL 37 36 23 true [5,6,7,8,9,10,11],oG 38 (.callv (.t 24) [.t 30,.t 37]) 23 true,vK 39 .lss 38 0 23 true,qP 40 23 39]) (cY 40 (.ops [qM 41 11,qK 42 .add 41 1,qM 11 42]) .skip)) (.seq (.seq (.draw [qM 43 4,uM 44 0 [0],uM 45 3 [0,1],uM 46 10 [0,1,2],oM 47 (.bin .add (.t 45) (.t 46)) [0,1],uI 48 1 44 47 [0],uL 49 48 [0],uM 50 0 [0,1,2,3,4,5,6],uM 51 3 [0,1,2,3,4,5,6,7],uM 52 11 [0,1,2,3,4,5,6,7,8],oM 53 (.bin .add (.t 51) (.t 52)) [0,1,2,3,4,5,6,7],uI 54 1 50 53 [0,1,2,3,4,5,6],uL 55 54 [0,1,2,3,4,5,6],oB 56 (.callv (.t 43) [.t 49,.t 55]),qK 57 .lss 56 0,qU 58 57]) (cY 58 .ret .skip)) (.seq (.draw [qM 59 0,uM 60 3 [0],uM 61 10 [0,1],oM 62 (.bin .add (.t 60) (.t 61)) [0],uM 63 0 [0,1,2,3],uM 64 3 [0,1,2,3,4],uM 65 11 [0,1,2,3,4,5],oM 66 (.bin .add (.t 64) (.t 65)) [0,1,2,3,4],uM 67 0 [0,1,2,3,4,5,6,7],uM 68 3 [0,1,2,3,4,5,6,7,8],uM 69 11 [0,1,2,3,4,5,6,7,8,9],oM 70 (.bin .add (.t 68) (.t 69)) [0,1,2,3,4,5,6,7,8],uI 71 1 67 70 [0,1,2,3,4,5,6,7],uL 72 71 [0,1,2,3,4,5,6,7],uM 73 0 [0,1,2,3,4,5,6,7,8,9,10,11,12,13],uM 74 3 [0,1,2,3,4,5,6,7,8,9,10,11,12,13,14],uM 75 10 [0,1,2,3,4,5,6,7,8,9,10,11,12,13,14,15],oM 76 (.bin .add (.t 74) (.t 75)) [0,1,2,3,4,5,6,7,8,9,10,11,12,13,14],uI 77 1 73 76 [0,1,2,3,4,5,6,7,8,9,10,11,12,13],uL 78 77 [0,1,2,3,4,5,6,7,8,9,10,11,12,13],uI 79 1 59 62 [4,5,6,7],qX 1 79 72 4,qI 80 1 63 66,qX 1 80 78 4]) (.ops [qM 81 11,qM 10 81]))))))
def ZJ1:C:=oS [qM 12 1,qM 10 12] (.block 0 (.loop [0,2,3,4,10] [] ZAa))
def ZEh:FnI:=⟨5,ZJ1,[]⟩
def ZJ9:C:=oS [qW 8 0] (oR [qM 9 0,qM 10 1,qK 11 .sub 10 1,qM 12 1,qM 13 1,qK 14 .add 13 1,qM 15 2,qM 16 3,oB 17 (.call 220 [.t 9,.t 11,.t 12,.t 14,.t 15,.t 16]),qM 8 17])
def ZE2:FnI:=⟨4,ZJ9,[(8,none)]⟩
def ZIM:C:=oS [qW 12 0] (oS [qM 14 0,qM 15 1,qM 16 2,qM 17 4,qM 18 5,oB 19 (.call 222 [.t 14,.t 15,.t 16,.t 17,.t 18]),qM 13 19,qE 20 13 0,qE 21 13 1,qM 1 20,qM 2 21] (oS [qM 23 0,qM 24 2,qM 25 3,qM 26 4,qM 27 5,oB 28 (.call 222 [.t 23,.t 24,.t 25,.t 26,.t 27]),qM 22 28,qE 29 22 0,qE 30 22 1,qM 2 29,qM 3 30] (oS [qM 32 0,qM 33 1,qM 34 2,qM 35 4,qM 36 5,oB 37 (.call 222 [.t 32,.t 33,.t 34,.t 35,.t 36]),qM 31 37,qE 38 31 0,qE 39 31 1,qM 1 38,qM 2 39] (oR [qM 40 2,qM 12 40]))))
def ZD6:FnI:=⟨6,ZIM,[(12,none)]⟩
def ZIY:C:=oS [qW 10 0,qW 11 0] (.seq (.seq (.draw [qM 12 4,uM 13 0 [0],uM 14 2 [0,1],uI 15 1 13 14 [0],uL 16 15 [0],uM 17 0 [0,1,2,3,4],uM 18 1 [0,1,2,3,4,5],uI 19 1 17 18 [0,1,2,3,4],uL 20 19 [0,1,2,3,4],oB 21 (.callv (.t 12) [.t 16,.t 20]),qK 22 .lss 21 0]) (cY 22 (oS [qM 23 3,qZ 24 23,qL 25 24,qK 26 .add 25 1,qZ 27 23,qS 1 27 26] (oR [qM 28 2,qM 29 1,qM 10 28,qM 11 29])) .skip)) (oR [qM 30 1,qM 31 2,qM 10 30,qM 11 31]))
def ZCz:FnI:=⟨5,ZIY,[(10,none),(11,none)]⟩
def ZIR:C:=oS [qO 1 0,oB 2 (.alloc (.d (.agg [zD,zD])))] (.seq (oS [qF 5 0 1,qF 6 1 5,qL 7 6,qF 8 0 1,qF 9 3 8,qL 10 9,qB 11 .geq 7 10] (oC 11 [oB 12 (.build Lz2 [(1,1,(iN 141))]),qS 2 2 12])) (oS [qF 14 0 1,qF 15 0 14,qL 16 15,qF 17 0 1,qF 18 1 17,qL 19 18,qB 20 .sub 16 19,qF 21 0 1,qF 22 3 21,qL 23 22,qF 24 0 1,qF 25 1 24,qL 26 25,qB 27 .sub 23 26,qD 28 240 20 27,qM 13 28,qE 29 13 0,qE 30 13 1,qM 3 29,qM 4 30] (.seq (oS [qM 31 4,qK 32 .eql 31 0,qM 33 32,vM 34 3 33 true,vK 35 .gtr 34 8 33 true,qP 36 33 35] (oC 36 [oB 37 (.build Lz2 [(1,1,(iN 142))]),qS 2 2 37])) (oR [qM 38 3,qM 39 4,oB 40 (.build Lz2 [(0,1,(.t 38)),(1,1,(.t 39))]),qS 2 2 40]))))
def ZEz:FnI:=⟨1,ZIR,[(2,some (2,true))]⟩
def ZKv:C:=oS [qO 3 1,qW 4 0,qW 5 0] (oR [qM 6 0,qL 7 3,oB 8 (.mkfn 242 [.t 3]),qG 9 241 6 7 8,qE 10 9 0,qE 11 9 1,qM 4 10,qM 5 11])
def ZDs:FnI:=⟨2,ZKv,[(4,none),(5,none)]⟩
def ZKE:C:=oS [qW 6 0,qW 7 0] (.seq (oS [qM 9 0,qM 10 1,oB 11 (.bslice 1 [zD] 2 [(0,(.t 9)),(1,(.t 10))]),qC 12 243 11,qM 8 12] (oS [qM 13 8,qK 14 .neq 13 0] (oC 14 [qM 15 8,qW 6 0,qM 7 15]))) (.seq (oS [qM 16 1,qK 17 .eql 16 0] (oC 17 [qW 6 0,qW 7 12])) (oR [qM 18 0,qM 19 2,oB 20 (.callv (.t 19) []),qB 21 .add 18 20,qM 22 1,qB 23 .quo 21 22,qM 6 23,qW 7 0])))
def ZDL:FnI:=⟨3,ZKE,[(6,none),(7,none)]⟩
def ZJq:C:=oS [qW 1 0] (oR [qL 2 0,qK 3 .sub 2 1,qM 1 3])
def ZEI:FnI:=⟨1,ZJq,[(1,none)]⟩
def ZKD:C:=oS [qW 2 0] (oS [qM 4 0,oB 5 (.call 94 [.t 4,(.c (.d (.fn 244 [])))]),qM 3 5] (.seq (oS [qM 6 3,qK 7 .lss 6 0] (oC 7 [qW 2 0])) (oR [qM 8 0,qM 9 3,qI 10 1 8 9,qL 11 10,qC 12 156 11,qM 2 12])))
def ZDN:FnI:=⟨1,ZKD,[(2,none)]⟩
def ZI1:C:=oS [qff 2] (oR [qM 3 0,qC 4 156 3,qK 5 .neq 4 0,qM 2 5])
def ZEC:FnI:=⟨1,ZI1,[(2,none)]⟩
def code:Nat->Option FnI
 | 8=>some fn8
 | 12=>some ZHC
 | 16=>some ZIm
 | 31=>some ZHD
 | 34=>some ZI5
 | 35=>some ZH1
 | 36=>some ZIe
 | 37=>some ZId
 | 38=>some ZHc
 | 39=>some ZHa
 | 40=>some ZHe
 | 44=>some ZxR
 | 45=>some ZHO
 | 46=>some ZHP
 | 47=>some ZHg
 | 48=>some ZHU
 | 51=>some ZHN
 | 52=>some ZIl
 | 53=>some ZIr
 | 54=>some ZHG
 | 63=>some ZHR
 | 65=>some ZIu
 | 67=>some ZHA
 | 68=>some ZHf
 | 69=>some ZIc
 | 71=>some ZHS
 | 72=>some ZHb
 | 73=>some ZHp
 | 74=>some ZHV
 | 75=>some ZHB
 | 76=>some ZJk
 | 77=>some ZIA
 | 78=>some ZIh
 | 79=>some ZHr
 | 80=>some ZIk
 | 81=>some ZHo
 | 82=>some ZIb
 | 83=>some ZHq
 | 84=>some ZH2
 | 85=>some ZHh
 | 86=>some ZH3
 | 87=>some ZHW
 | 88=>some ZHT
 | 94=>some Zuz
 | 95=>some ZHQ
 | 96=>some ZHy
 | 97=>some ZHM
 | 103=>some ZDt
 | 104=>some ZCX
 | 105=>some ZEk
 | 111=>some ZBZ
 | 112=>some ZEY
 | 114=>some ZDg
 | 115=>some ZEK
 | 116=>some ZE4
 | 117=>some ZBQ
 | 118=>some ZD1
 | 119=>some ZDT
 | 120=>some ZDK
 | 121=>some ZCt
 | 122=>some ZB7
 | 123=>some ZEb
 | 124=>some ZAK
 | 125=>some ZDB
 | 126=>some ZDZ
 | 127=>some ZD3
 | 128=>some ZD2
 | 129=>some ZEn
 | 130=>some ZDP
 | 131=>some ZES
 | 132=>some ZEZ
 | 133=>some ZDa
 | 134=>some ZB1
 | 135=>some ZCM
 | 136=>some ZDU
 | 137=>some ZCf
 | 138=>some ZC6
 | 139=>some ZDv
 | 140=>some ZD8
 | 141=>some ZDO
 | 142=>some ZDW
 | 143=>some ZEm
 | 144=>some ZCF
 | 145=>some ZCQ
 | 146=>some ZG9
 | 147=>some ZDh
 | 148=>some ZEP
 | 149=>some ZAA
 | 150=>some ZCC
 | 156=>some ZEB
 | 157=>some ZE5
 | 158=>some ZDe
 | 159=>some ZFi
 | 160=>some ZEx
 | 161=>some ZCo
 | 165=>some ZCD
 | 166=>some ZCL
 | 167=>some ZCa
 | 168=>some ZEU
 | 169=>some ZDC
 | 170=>some ZC9
 | 171=>some ZzZ
 | 172=>some ZC2
 | 173=>some ZE1
 | 174=>some ZEw
 | 175=>some ZEH
 | 176=>some ZCv
 | 177=>some ZB5
 | 179=>some ZFd
 | 183=>some ZG8
 | 184=>some ZBX
 | 185=>some ZG7
 | 186=>some ZCO
 | 187=>some ZBY
 | 190=>some ZDS
 | 191=>some ZE0
 | 192=>some ZBS
 | 202=>some ZGR
 | 203=>some ZFg
 | 204=>some ZCu
 | 205=>some ZE6
 | 206=>some ZEL
 | 207=>some ZCm
 | 208=>some ZCy
 | 209=>some ZEq
 | 210=>some ZFf
 | 211=>some ZDG
 | 213=>some ZEs
 | 214=>some ZDR
 | 218=>some ZEh
 | 219=>some ZE2
 | 220=>some ZD6
 | 222=>some ZCz
 | 239=>some ZEz
 | 240=>some ZDs
 | 241=>some ZDL
 | 242=>some ZEI
 | 243=>some ZDN
 | 244=>some ZEC
 | _=>none
def mode:Nat->Nat
 | 16=>1
 | 37=>1
 | 46=>2
 | 47=>1
 | 48=>2
 | 51=>1
 | 54=>2
 | 67=>2
 | 68=>2
 | 69=>2
 | 82=>2
 | 83=>2
 | 84=>2
 | 87=>2
 | 88=>2
 | 96=>1
 | 117=>2
 | 120=>2
 | 122=>2
 | 146=>2
 | 148=>1
 | 160=>1
 | 168=>2
 | 169=>2
 | 176=>2
 | 191=>2
 | 192=>2
 | 204=>2
 | 205=>2
 | 206=>2
 | 207=>2
 | 208=>2
 | 209=>2
 | 210=>2
 | 211=>2
 | 214=>2
 | 218=>2
 | 219=>2
 | 220=>2
 | 222=>2
 | _=>0
def ctx:Ctx:=⟨code,mode⟩
end Go.Proofs.YtgcfmiajkbbmeaaGreatDoor
namespace Go.Proofs.YtgcfmiajkbbmeaaGreatDoorE
open Go
open Go.IntKind (u64 i64 u32 i32 u8)
def Zk1 (f:Nat) (us:List Value):Value:=bif isU f then .func (.func f) #[] us.toArray else bif Nat.beq f 2000000 then .func (.method ZkP) us.toArray #[] else .func (.func (unB f)) us.toArray #[]
theorem Ztr (f:Nat) (us:List Value):(Zk1 f us).cells.toList=[Zk1 f us]:=by unfold Zk1;cases isU f<;>cases Nat.beq f 2000000<;>rfl
theorem Zxj (f:Nat) (us:List Value):(Zk1 f us).cells = #[Zk1 f us]:=by unfold Zk1;cases isU f<;>cases Nat.beq f 2000000<;>rfl
theorem Zr2 {f:Nat} (h:isU f=true) (us:List Value):Zk1 f us = .func (.func f) #[] us.toArray:=by unfold Zk1;rw[h];rfl
mutual
def Za3 (A1 A0 AL:Nat->Prop) (w:World):D->Value->Prop
 | .bool b,u=>u = .bool b
 | .int k n,u=>u = .int k n
 | .str s,u=>u = .string s
 | .list own xs,u=>∃a len cap,u = .slice a len cap/\len=xs.length/\len<=cap/\(∀x∈xs,x.esc=true) /\
   (xs≠[]->∃b off sz,a=some ⟨b,off,none⟩/\(match own with | true=>A1 b | false=>A0 b)/\b<w.heap.size/\Zhg A1 A0 AL w b sz off xs)
 | .agg cs,u=>∃us:List Value,u = .agg us.toArray/\ZaI A1 A0 AL w cs us
 | .tup cs,u=>∃us:List Value,u = .tuple us.toArray/\ZaI A1 A0 AL w cs us
 | .fn f caps,u=>∃us:List Value,u=Zk1 f us/\ZaI A1 AL AL w caps us
 | .nilfn,u=>u = .nilFunc
 | .rptr cs,u=>∃b off,u = .pointer (some ⟨b,off,none⟩)/\A0 b/\b<w.heap.size/\ZcA A1 A0 AL w b off cs
 | .nilp,u=>u = .pointer none
 | .iface t v,u=>∃u',u = .iface t u'/\Za3 A1 A0 AL w v u'
 | .nilI,u=>u = .nilIface
def ZaI (A1 A0 AL:Nat->Prop) (w:World):List D->List Value->Prop
 | [],us=>us=[]
 | x :: xs,us=>∃u us',us=u :: us'/\Za3 A1 A0 AL w x u/\ZaI A1 A0 AL w xs us'
def ZcA (A1 A0 AL:Nat->Prop) (w:World) (b off:Nat):List D->Prop
 | []=>True
 | x :: xs=>(∃u,w.cell? ⟨b,off,none⟩=some u/\Za3 A1 A0 AL w x u)/\ZcA A1 A0 AL w b (off+1) xs
def Zhg (A1 A0 AL:Nat->Prop) (w:World) (b sz off:Nat):List D->Prop
 | []=>True
 | x :: xs=>(∃u,Za3 A1 A0 AL w x u/\u.cells.size=sz/\∀k v,u.cells[k]? = some v->w.cell? ⟨b,off+k,none⟩=some v)/\Zhg A1 A0 AL w b sz (off+sz) xs
end
section
variable {A1 A1' A0 A0' AL AL':Nat->Prop} {w w':World}
theorem ZuZ {b:Nat} (h:w'.heap[b]? = w.heap[b]?) (off:Nat):w'.cell? ⟨b,off,none⟩=w.cell? ⟨b,off,none⟩:=by
 unfold World.cell?;simp only[h]
mutual
theorem Za3.change (A1 A1' A0 A0':Nat->Prop) (h1:∀b,b<w.heap.size->A1 b->A1' b) (h0:∀b,b<w.heap.size->A0 b->A0' b) (hL:∀b,b<w.heap.size->AL b->AL' b)
  (hw:∀b,b<w.heap.size->AL b->w'.heap[b]? = w.heap[b]?) (hs:w.heap.size<=w'.heap.size) (s0:∀b,A0 b->AL b) (s1:∀b,A1 b->AL b) :
  ∀(x:D) (u:Value),Za3 A1 A0 AL w x u->Za3 A1' A0' AL' w' x u
 | .bool b,u,h=>h
 | .int k n,u,h=>h
 | .str s,u,h=>h
 | .list own xs,u,h=>by
  obtain⟨a,len,cap,e1,e2,e3,e4,e5⟩:=h
  refine⟨a,len,cap,e1,e2,e3,e4,fun hne=>?_⟩
  obtain⟨b,off,sz,f1,f2,f3,f4⟩:=e5 hne
  have hb:AL b:=by
   cases own
   ·exact s0 _ f2
   ·exact s1 _ f2
  refine⟨b,off,sz,f1,?_,by omega,Zhg.change A1 A1' A0 A0' h1 h0 hL hw hs s0 s1 b sz off xs (hw b f3 hb) f4⟩
  cases own
  ·exact h0 _ f3 f2
  ·exact h1 _ f3 f2
 | .agg cs,u,h=>by
  obtain⟨us,e1,e2⟩:=h
  exact⟨us,e1,ZaI.change A1 A1' A0 A0' h1 h0 hL hw hs s0 s1 cs us e2⟩
 | .tup cs,u,h=>by
  obtain⟨us,e1,e2⟩:=h
  exact⟨us,e1,ZaI.change A1 A1' A0 A0' h1 h0 hL hw hs s0 s1 cs us e2⟩
 | .fn f caps,u,h=>by
  obtain⟨us,e1,e2⟩:=h
  exact⟨us,e1,ZaI.change A1 A1' AL AL' h1 hL hL hw hs (fun _ h=>h) s1 caps us e2⟩
 | .nilfn,u,h=>h
 | .rptr cs,u,h=>by
  obtain⟨b,off,e1,e2,e3,e4⟩:=h
  exact⟨b,off,e1,h0 _ e3 e2,by omega,ZcA.change A1 A1' A0 A0' h1 h0 hL hw hs s0 s1 b off cs (hw b e3 (s0 _ e2)) e4⟩
 | .nilp,u,h=>h
 | .iface t v,u,h=>by
  obtain⟨u',e1,e2⟩:=h
  exact⟨u',e1,Za3.change A1 A1' A0 A0' h1 h0 hL hw hs s0 s1 v u' e2⟩
 | .nilI,u,h=>h
theorem ZaI.change (A1 A1' A0 A0':Nat->Prop) (h1:∀b,b<w.heap.size->A1 b->A1' b) (h0:∀b,b<w.heap.size->A0 b->A0' b) (hL:∀b,b<w.heap.size->AL b->AL' b)
  (hw:∀b,b<w.heap.size->AL b->w'.heap[b]? = w.heap[b]?) (hs:w.heap.size<=w'.heap.size) (s0:∀b,A0 b->AL b) (s1:∀b,A1 b->AL b) :
  ∀(xs:List D) (us:List Value),ZaI A1 A0 AL w xs us->ZaI A1' A0' AL' w' xs us
 | [],us,h=>h
 | x :: xs,us,h=>by
  obtain⟨u,us',e1,e2,e3⟩:=h
  exact⟨u,us',e1,Za3.change A1 A1' A0 A0' h1 h0 hL hw hs s0 s1 x u e2,ZaI.change A1 A1' A0 A0' h1 h0 hL hw hs s0 s1 xs us' e3⟩
theorem ZcA.change (A1 A1' A0 A0':Nat->Prop) (h1:∀b,b<w.heap.size->A1 b->A1' b) (h0:∀b,b<w.heap.size->A0 b->A0' b) (hL:∀b,b<w.heap.size->AL b->AL' b)
  (hw:∀b,b<w.heap.size->AL b->w'.heap[b]? = w.heap[b]?) (hs:w.heap.size<=w'.heap.size) (s0:∀b,A0 b->AL b) (s1:∀b,A1 b->AL b) (b off:Nat) :
  ∀(xs:List D),w'.heap[b]? = w.heap[b]? -> ZcA A1 A0 AL w b off xs->ZcA A1' A0' AL' w' b off xs
 | [],_,h=>trivial
 | x :: xs,hb,h=>by
  obtain⟨⟨u,e1,e2⟩,e3⟩:=h
  exact⟨⟨u,by rw[ZuZ hb];exact e1,Za3.change A1 A1' A0 A0' h1 h0 hL hw hs s0 s1 x u e2⟩,ZcA.change A1 A1' A0 A0' h1 h0 hL hw hs s0 s1 b (off+1) xs hb e3⟩
theorem Zhg.change (A1 A1' A0 A0':Nat->Prop) (h1:∀b,b<w.heap.size->A1 b->A1' b) (h0:∀b,b<w.heap.size->A0 b->A0' b) (hL:∀b,b<w.heap.size->AL b->AL' b)
  (hw:∀b,b<w.heap.size->AL b->w'.heap[b]? = w.heap[b]?) (hs:w.heap.size<=w'.heap.size) (s0:∀b,A0 b->AL b) (s1:∀b,A1 b->AL b) (b sz off:Nat) :
  ∀(xs:List D),w'.heap[b]? = w.heap[b]? -> Zhg A1 A0 AL w b sz off xs->Zhg A1' A0' AL' w' b sz off xs
 | [],_,h=>trivial
 | x :: xs,hb,h=>by
  obtain⟨⟨u,e1,e2,e3⟩,e4⟩:=h
  exact⟨⟨u,Za3.change A1 A1' A0 A0' h1 h0 hL hw hs s0 s1 x u e1,e2,fun k v hk=>by rw[ZuZ hb];exact e3 k v hk⟩,
   Zhg.change A1 A1' A0 A0' h1 h0 hL hw hs s0 s1 b sz (off+sz) xs hb e4⟩
end
mutual
theorem Za3.lift (h1:∀b,A1 b->A1' b):∀(x:D) (u:Value),x.esc=true->Za3 A1 A0 AL w x u->Za3 A1' A0' AL' w x u
 | .bool b,u,_,h=>h
 | .int k n,u,_,h=>h
 | .str s,u,_,h=>h
 | .list own xs,u,he,h=>by
  obtain⟨a,len,cap,e1,e2,e3,e4,e5⟩:=h
  simp only[D.esc] at he
  subst he
  refine⟨a,len,cap,e1,e2,e3,e4,fun hne=>?_⟩
  obtain⟨b,off,sz,f1,f2,f3,f4⟩:=e5 hne
  exact⟨b,off,sz,f1,h1 _ f2,f3,Zhg.lift h1 b sz off xs e4 f4⟩
 | .agg cs,u,he,h=>by
  obtain⟨us,e1,e2⟩:=h
  exact⟨us,e1,ZaI.lift h1 cs us he e2⟩
 | .tup cs,u,he,h=>by simp[D.esc] at he
 | .fn f caps,u,he,h=>by
  obtain⟨us,e1,e2⟩:=h
  simp only[D.esc,List.isEmpty_iff] at he
  subst he
  exact⟨us,e1,e2⟩
 | .nilfn,u,_,h=>h
 | .rptr cs,u,he,h=>by simp[D.esc] at he
 | .nilp,u,_,h=>h
 | .iface t v,u,he,h=>by
  obtain⟨u',e1,e2⟩:=h
  exact⟨u',e1,Za3.lift h1 v u' he e2⟩
 | .nilI,u,_,h=>h
theorem ZaI.lift (h1:∀b,A1 b->A1' b):∀(xs:List D) (us:List Value),D.escs xs=true->ZaI A1 A0 AL w xs us->ZaI A1' A0' AL' w xs us
 | [],us,_,h=>h
 | x :: xs,us,he,h=>by
  obtain⟨u,us',e1,e2,e3⟩:=h
  simp only[D.escs,Bool.and_eq_true] at he
  exact⟨u,us',e1,Za3.lift h1 x u he.1 e2,ZaI.lift h1 xs us' he.2.2 e3⟩
theorem Zhg.lift (h1:∀b,A1 b->A1' b) (b sz off:Nat):∀(xs:List D),(∀x∈xs,x.esc=true)->Zhg A1 A0 AL w b sz off xs->Zhg A1' A0' AL' w b sz off xs
 | [],_,h=>trivial
 | x :: xs,he,h=>by
  obtain⟨⟨u,e1,e2,e3⟩,e4⟩:=h
  exact⟨⟨u,Za3.lift h1 x u (he x (by simp)) e1,e2,e3⟩,Zhg.lift h1 b sz (off+sz) xs (fun y hy=>he y (by simp[hy])) e4⟩
end
end
theorem ZaI.liftT {A1 A1' A0 A0' AL AL':Nat->Prop}{w:World} (h1:∀b,A1 b->A1' b):∀(xs:List D) (us:List Value),Zzh xs=true->ZaI A1 A0 AL w xs us->ZaI A1' A0' AL' w xs us
 | [],us,_,h=>h
 | x :: xs,us,he,h=>by
  obtain⟨u,us',e1,e2,e3⟩:=h
  simp only[Zzh,Bool.and_eq_true] at he
  exact⟨u,us',e1,Za3.lift h1 x u he.1 e2,ZaI.liftT h1 xs us' he.2 e3⟩
theorem ZW {α:Type}:∀(l:List α) (n:Nat),nth l n=l[n]?
 | [],n=>by simp[nth]
 | a :: l,0=>by simp[nth]
 | a :: l,n+1=>by simp[nth,ZW l n]
theorem Zbk {α:Type}:∀(l:List α) (n:Nat) (v:α),Ze1 l n v=l.set n v
 | [],n,v=>by simp[Ze1]
 | a :: l,0,v=>by simp[Ze1]
 | a :: l,n+1,v=>by simp[Ze1,Zbk l n v]
theorem ZrX {α:Type} (l:List α) (i:Int) (x:α) (h:Zy l i=some x):0<=i/\i<l.length/\l[i.toNat]? = some x:=by
 unfold Zy at h
 by_cases h0:0<=i
 ·simp only[h0,decide_true,cond_true,ZW] at h
  have:=(List.getElem?_eq_some_iff.1 h).1
  exact⟨h0,by omega,h⟩
 ·simp[h0] at h
section
variable {A1 A0 AL:Nat->Prop} {w:World}
theorem Zk9 {b sz:Nat}:∀(xs:List D) (off j:Nat) (x:D),Zhg A1 A0 AL w b sz off xs->xs[j]? = some x ->
  ∃u,Za3 A1 A0 AL w x u/\u.cells.size=sz/\∀k v,u.cells[k]? = some v->w.cell? ⟨b,off+j*sz+k,none⟩=some v
 | [],off,j,x,_,hj=>by simp at hj
 | y :: xs,off,0,x,h,hj=>by
  simp at hj;subst hj
  obtain⟨⟨u,e1,e2,e3⟩,_⟩:=h
  exact⟨u,e1,e2,by simpa using e3⟩
 | y :: xs,off,j+1,x,h,hj=>by
  obtain⟨u,e1,e2,e3⟩:=Zk9 xs (off+sz) j x h.2 (by simpa using hj)
  exact⟨u,e1,e2,fun k v hk=>by rw[<- e3 k v hk];congr 2;rw[Nat.succ_mul];omega⟩
theorem Zly {b sz:Nat}:∀(xs:List D) (off:Nat),(∀(j:Nat) x,xs[j]? = some x->∃u,Za3 A1 A0 AL w x u/\u.cells.size=sz/\∀k v,u.cells[k]? = some v->w.cell? ⟨b,off+j*sz+k,none⟩=some v) ->
  Zhg A1 A0 AL w b sz off xs
 | [],off,_=>trivial
 | y :: xs,off,h=>by
  refine⟨by simpa using h 0 y (by simp),Zly xs (off+sz) fun j x hj=>?_⟩
  obtain⟨u,e1,e2,e3⟩:=h (j+1) x (by simpa using hj)
  exact⟨u,e1,e2,fun k v hk=>by rw[<- e3 k v hk];congr 2;rw[Nat.succ_mul];omega⟩
theorem Zm7 {b:Nat}:∀(xs:List D) (off j:Nat) (x:D),ZcA A1 A0 AL w b off xs->xs[j]? = some x->∃u,w.cell? ⟨b,off+j,none⟩=some u/\Za3 A1 A0 AL w x u
 | [],off,j,x,_,hj=>by simp at hj
 | y :: xs,off,0,x,h,hj=>by simp at hj;subst hj;simpa using h.1
 | y :: xs,off,j+1,x,h,hj=>by
  have:=Zm7 xs (off+1) j x h.2 (by simpa using hj)
  rwa [show off+1+j=off+(j+1) from by omega] at this
theorem ZiZ {b:Nat}:∀(xs:List D) (off:Nat),(∀(j:Nat) x,xs[j]? = some x->∃u,w.cell? ⟨b,off+j,none⟩=some u/\Za3 A1 A0 AL w x u)->ZcA A1 A0 AL w b off xs
 | [],off,_=>trivial
 | y :: xs,off,h=>⟨by simpa using h 0 y (by simp),ZiZ xs (off+1) fun j x hj=>by
   have:=h (j+1) x (by simpa using hj)
   rwa [show off+(j+1)=off+1+j from by omega] at this⟩
theorem ZuF {b:Nat} (xs:List D) (off n:Nat) (h:ZcA A1 A0 AL w b off xs):ZcA A1 A0 AL w b (off+n) (xs.drop n):=
 ZiZ _ _ fun j x hj=>by
  have:=Zm7 xs off (n+j) x h (by simpa using hj)
  rwa [<- Nat.add_assoc] at this
theorem Zhj:∀(xs:List D) (us:List Value) (j:Nat) (x:D),ZaI A1 A0 AL w xs us->xs[j]? = some x->∃u,us[j]? = some u/\Za3 A1 A0 AL w x u
 | [],us,j,x,_,hj=>by simp at hj
 | y :: xs,us,0,x,h,hj=>by
  obtain⟨u,us',rfl,e1,e2⟩:=h
  simp at hj;subst hj
  exact⟨u,by simp,e1⟩
 | y :: xs,us,j+1,x,h,hj=>by
  obtain⟨u,us',rfl,e1,e2⟩:=h
  simpa using Zhj xs us' j x e2 (by simpa using hj)
theorem ZuJ:∀(xs:List D) (us:List Value),ZaI A1 A0 AL w xs us->us.length=xs.length
 | [],us,h=>by simp only[ZaI] at h;subst h;rfl
 | y :: xs,us,h=>by
  obtain⟨u,us',rfl,e1,e2⟩:=h
  simp[ZuJ xs us' e2]
end
structure RP where
 B1:Nat->Prop
 B0:Nat->Prop
 M:Nat->Option (Option Nat)
 H:Zk
def RP.live (R:RP) (c:Nat):Prop:=∃i,Z7 R.H i=true/\R.M i=some (some c)
def RP.AL (R:RP) (c:Nat):Prop:=¬R.live c
def RP.A0 (R:RP) (c:Nat):Prop:=¬R.live c/\¬R.B0 c
def RP.A1 (R:RP) (c:Nat):Prop:=¬R.live c/\¬R.B1 c
abbrev RP.den (R:RP) (w:World) (x:D) (u:Value):Prop:=Za3 R.A1 R.A0 R.AL w x u
def ZvX (w:World) (m:Option Nat) (xs:List D) (sz o len:Nat) (u:Value):Prop:=
 o+len<=xs.length/\∃a cap,u = .slice a len cap/\len<=cap /\
  ((cap=0/\o=xs.length)∨∃c cs el fr,m=some c/\a=some ⟨c,o*sz,none⟩/\w.heap[c]? = some (.cells cs el fr)/\cs.size=(o+cap)*sz)
mutual
def ZaK (R:RP) (w:World):V->Value->Prop
 | .d x,u=>R.den w x u
 | .bad,_=>True
 | .ptr b o,u=>∃c,R.M b=some (some c)/\u = .pointer (some ⟨c,o,none⟩)
 | .eptr b sz i k,u=>∃c,R.M b=some (some c)/\u = .pointer (some ⟨c,i*sz+k,none⟩)
 | .sl b sz,u=>(∃a n c,u = .slice a n c)/\∃m,R.M b=some m/\∀xs,nth R.H b=some (.arr sz xs)->ZvX w m xs sz 0 xs.length u
 | .slp b sz o len,u=>(∃a n c,u = .slice a n c)/\∃m,R.M b=some m/\∀xs,nth R.H b=some (.arr sz xs)->ZvX w m xs sz o len u
 | .nilsl _,u=>∃a,u = .slice a 0 0
 | .agg cs,u=>∃us:List Value,u = .agg us.toArray/\Zay R w cs us
 | .tup cs,u=>∃us:List Value,u = .tuple us.toArray/\Zay R w cs us
 | .fn f caps,u=>∃us:List Value,u=Zk1 f us/\Zay R w caps us
 | .mp b,u=>(∃a,u = .map a)/\∃m,R.M b=some m/\∀es,nth R.H b=some (.mp es)->∃c,m=some c/\u = .map (some c)
def Zay (R:RP) (w:World):List V->List Value->Prop
 | [],us=>us=[]
 | x :: xs,us=>∃u us',us=u :: us'/\ZaK R w x u/\Zay R w xs us'
end
end Go.Proofs.YtgcfmiajkbbmeaaGreatDoorE
namespace Go.Proofs.YtgcfmiajkbbmeaaGreatDoorE
open Go
open Go.IntKind (u64 i64 u32 i32 u8)
def Zw0 (fr:Nat×Nat):Prop:=fr.2<=fr.1
theorem Zw0.not {w:World}{c:Nat}{cs:Array Value}{el:TypeId}{fr:Nat×Nat} (h:Zw0 fr) (hc:w.heap[c]? = some (.cells cs el fr)) (o:Nat):w.frozen? ⟨c,o,none⟩=false:=by
 unfold Zw0 at h
 simp only[World.frozen?,hc]
 by_cases h1:fr.1<=o
 ·by_cases h2:o<fr.2
  ·omega
  ·simp[h2]
 ·simp[h1]
def ZgK:D->Value
 | .bool b=>.bool b
 | .int k n=>.int k n
 | _=>undef
def ZkW:D->Value
 | .agg cs=>.agg (cs.map ZgK).toArray
 | x=>ZgK x
def Zon:D->Bool
 | .agg cs=>cs.all Zjc
 | x=>Zjc x
structure ZK8 (w:World) (c:Nat) (es:List (D×D)):Prop where
 mk ::
 ex:∃mes clock,w.heap[c]? = some (.map mes clock)/\mes.toList.map (fun e=>(e.key,e.val))=es.map (fun q=>(ZkW q.1,ZgK q.2))
 fl:∀q∈es,Zon q.1=true/\Zjc q.2=true
def ZiW (R:RP) (w:World) (m:Option Nat):Blk->Prop
 | .dead=>True
 | .cells vs=>∃c cs el fr,m=some c/\w.heap[c]? = some (.cells cs el fr)/\Zw0 fr/\vs.length<=cs.size/\∀(k:Nat) v,vs[k]? = some v->∃u,cs[k]? = some u/\ZaK R w v u
 | .arr sz xs=>0<sz/\(∀x∈xs,x.esc=true)/\((m=none/\xs=[])∨∃c cs el,m=some c/\w.heap[c]? = some (.cells cs el (0,0))/\xs.length*sz<=cs.size /\
   ∀(j:Nat) x,xs[j]? = some x->∃u,R.den w x u/\u.cells.size=sz/\∀(k:Nat) v,u.cells[k]? = some v->cs[j*sz+k]? = some v)
 | .mp es=>∃c,m=some c/\ZK8 w c es
structure RP.OK (R:RP) (w:World):Prop where
 b01:∀c,R.B0 c->R.B1 c
 al:∀(i:Nat) blk,R.H[i]? = some blk->blk ≠ .dead->∃m,R.M i=some m
 inj:∀i j c,Z7 R.H i=true->Z7 R.H j=true->R.M i=some (some c)->R.M j=some (some c)->i=j
 lt:∀i c,R.M i=some (some c)->c<w.heap.size
 blk:∀(i:Nat) m blk,R.H[i]? = some blk->R.M i=some m->ZiW R w m blk
 nb:∀i c,Z7 R.H i=true->R.M i=some (some c)->¬R.B1 c
 bl:∀c,R.B1 c->c<w.heap.size
theorem Zw {H:Zk}{i:Nat}:Z7 H i=true↔∃blk,H[i]? = some blk/\blk ≠ .dead:=by
 unfold Z7
 rw[ZW]
 cases h:H[i]? with
 | none=>simp
 | some blk=>cases blk<;>simp
def Blk.like:Blk->Blk->Prop
 | .cells _,.cells _=>True
 | .arr sz xs,.arr sz' ys=>sz=sz'/\ys.length=xs.length
 | .mp _,.mp _=>True
 | _,_=>False
structure Ext (R:RP) (w:World) (R':RP) (w':World):Prop where
 m:∀i x,R.M i=some x->R'.M i=some x
 h:∀(i:Nat) x blk,R.M i=some x->R'.H[i]? = some blk->blk ≠ .dead->∃old,R.H[i]? = some old/\old.like blk
 b1:R'.B1=R.B1
 b0:R'.B0=R.B0
 same:∀(b:Nat),b<w.heap.size->¬R.live b->w'.heap[b]? = w.heap[b]?
 row:∀(b:Nat) cs el fr,w.heap[b]? = some (Obj.cells cs el fr)->∃cs' el' fr',w'.heap[b]? = some (Obj.cells cs' el' fr')/\cs'.size=cs.size
 grow:w.heap.size<=w'.heap.size
 liv:∀c,c<w.heap.size->R'.live c->R.live c
 os:w'.os=w.os
 tape:w'.tape=w.tape
 output:w'.output=w.output
theorem Blk.like_refl {b:Blk} (h:b ≠ .dead):b.like b:=by cases b<;>simp_all [Blk.like]
theorem Ext.refl (R:RP) (w:World):Ext R w R w:=
 ⟨fun _ _ h=>h,fun i x blk _ h hd=>⟨blk,h,Blk.like_refl hd⟩,rfl,rfl,fun _ _ _=>rfl,fun _ cs el fr h=>⟨cs,el,fr,h,rfl⟩,Nat.le_refl _,fun _ _ h=>h,rfl,rfl,rfl⟩
theorem Blk.like_trans {a b c:Blk} (h:a.like b) (k:b.like c):a.like c:=by
 cases a<;>cases b<;>cases c<;>simp_all [Blk.like]
theorem Blk.like_ne {a b:Blk} (h:a.like b):a ≠ .dead:=by cases a<;>cases b<;>simp_all [Blk.like]
theorem Ext.trans {R R1 R2:RP}{w w1 w2:World} (h:Ext R w R1 w1) (k:Ext R1 w1 R2 w2):Ext R w R2 w2 where
 m:=fun i x hx=>k.m i x (h.m i x hx)
 h:=fun i x blk hx hb hd=>by
  obtain⟨o1,e1,e2⟩:=k.h i x blk (h.m i x hx) hb hd
  obtain⟨o,f1,f2⟩:=h.h i x o1 hx e1 (Blk.like_ne e2)
  exact⟨o,f1,Blk.like_trans f2 e2⟩
 b1:=k.b1.trans h.b1
 b0:=k.b0.trans h.b0
 same:=fun b hb hl=>(k.same b (Nat.lt_of_lt_of_le hb h.grow) (fun hl'=>hl (h.liv b hb hl'))).trans (h.same b hb hl)
 row:=fun b cs el fr hb=>by
  obtain⟨cs1,el1,fr1,e1,e2⟩:=h.row b cs el fr hb
  obtain⟨cs2,el2,fr2,f1,f2⟩:=k.row b cs1 el1 fr1 e1
  exact⟨cs2,el2,fr2,f1,f2.trans e2⟩
 grow:=Nat.le_trans h.grow k.grow
 liv:=fun c hc hl=>h.liv c hc (k.liv c (Nat.lt_of_lt_of_le hc h.grow) hl)
 os:=k.os.trans h.os
 tape:=k.tape.trans h.tape
 output:=k.output.trans h.output
section
variable {R R':RP} {w w':World}
theorem Ext.den (e:Ext R w R' w') (hb:∀c,R.B0 c->R.B1 c) {x:D}{u:Value} (h:R.den w x u):R'.den w' x u:=by
 refine Za3.change _ _ _ _ ?_ ?_ ?_ ?_ e.grow ?_ ?_ x u h
 ·exact fun b hb' ⟨h1,h2⟩=>⟨fun hl=>h1 (e.liv b hb' hl),by rw[e.b1];exact h2⟩
 ·exact fun b hb' ⟨h1,h2⟩=>⟨fun hl=>h1 (e.liv b hb' hl),by rw[e.b0];exact h2⟩
 ·exact fun b hb' h1 hl=>h1 (e.liv b hb' hl)
 ·exact fun b hb' hl=>e.same b hb' hl
 ·exact fun b h=>h.1
 ·exact fun b h=>h.1
theorem Ext.slAt (e:Ext R w R' w') {m:Option Nat}{xs ys:List D}{sz o len:Nat}{u:Value} (hl:ys.length=xs.length) (h:ZvX w m xs sz o len u):ZvX w' m ys sz o len u:=by
 obtain⟨h1,a,cap,h2,h3,h4⟩:=h
 refine⟨by omega,a,cap,h2,h3,?_⟩
 rcases h4 with⟨h4,h5⟩ | ⟨c,cs,el,fr,h4,h5,h6,h7⟩
 ·exact .inl ⟨h4,by omega⟩
 ·obtain⟨cs',el',fr',f1,f2⟩:=e.row c cs el fr h6
  exact .inr ⟨c,cs',el',fr',h4,h5,f1,by omega⟩
mutual
theorem Ext.denV (e:Ext R w R' w') (hb:∀c,R.B0 c->R.B1 c):∀(v:V) (u:Value),ZaK R w v u->ZaK R' w' v u
 | .d x,u,h=>e.den hb h
 | .bad,_,h=>h
 | .ptr b o,u,h=>by
  obtain⟨c,h1,h2⟩:=h
  exact⟨c,e.m b _ h1,h2⟩
 | .eptr b sz i k,u,h=>by
  obtain⟨c,h1,h2⟩:=h
  exact⟨c,e.m b _ h1,h2⟩
 | .sl b sz,u,h=>by
  obtain⟨h0,m,h1,h2⟩:=h
  refine⟨h0,m,e.m b m h1,fun xs hc=>?_⟩
  rw[ZW] at hc
  obtain⟨old,f1,f2⟩:=e.h b m _ h1 hc (by simp)
  cases old<;>simp[Blk.like] at f2
  rename_i sz0 xs0
  obtain⟨rfl,f2⟩:=f2
  have:=e.slAt f2 (h2 xs0 (by rw[ZW];exact f1))
  rw[f2]
  exact this
 | .slp b sz o len,u,h=>by
  obtain⟨h0,m,h1,h2⟩:=h
  refine⟨h0,m,e.m b m h1,fun xs hc=>?_⟩
  rw[ZW] at hc
  obtain⟨old,f1,f2⟩:=e.h b m _ h1 hc (by simp)
  cases old<;>simp[Blk.like] at f2
  rename_i sz0 xs0
  obtain⟨rfl,f2⟩:=f2
  exact e.slAt f2 (h2 xs0 (by rw[ZW];exact f1))
 | .nilsl sz,u,h=>h
 | .agg cs,u,h=>by
  obtain⟨us,h1,h2⟩:=h
  exact⟨us,h1,Ext.denVs e hb cs us h2⟩
 | .tup cs,u,h=>by
  obtain⟨us,h1,h2⟩:=h
  exact⟨us,h1,Ext.denVs e hb cs us h2⟩
 | .fn f caps,u,h=>by
  obtain⟨us,h1,h2⟩:=h
  exact⟨us,h1,Ext.denVs e hb caps us h2⟩
 | .mp b,u,h=>by
  obtain⟨h0,m,h1,h2⟩:=h
  refine⟨h0,m,e.m b m h1,fun es hc=>?_⟩
  rw[ZW] at hc
  obtain⟨old,f1,f2⟩:=e.h b m _ h1 hc (by simp)
  cases old<;>simp[Blk.like] at f2
  rename_i es0
  exact h2 es0 (by rw[ZW];exact f1)
theorem Ext.denVs (e:Ext R w R' w') (hb:∀c,R.B0 c->R.B1 c):∀(vs:List V) (us:List Value),Zay R w vs us->Zay R' w' vs us
 | [],us,h=>h
 | v :: vs,us,h=>by
  obtain⟨u,us',h1,h2,h3⟩:=h
  exact⟨u,us',h1,Ext.denV e hb v u h2,Ext.denVs e hb vs us' h3⟩
end
theorem Ext.blkOK (e:Ext R w R' w') (hb:∀c,R.B0 c->R.B1 c) {m:Option Nat}{blk:Blk} (hs:∀(c:Nat),m=some c->w'.heap[c]? = w.heap[c]?) (h:ZiW R w m blk):ZiW R' w' m blk:=by
 cases blk with
 | dead=>trivial
 | cells vs=>
  obtain⟨c,cs,el,fr,h1,h2,h3,h4,h5⟩:=h
  refine⟨c,cs,el,fr,h1,by rw[hs c h1];exact h2,h3,h4,fun k v hk=>?_⟩
  obtain⟨u,f1,f2⟩:=h5 k v hk
  exact⟨u,f1,e.denV hb v u f2⟩
 | arr sz xs=>
  obtain⟨h0,h1,h2⟩:=h
  refine⟨h0,h1,?_⟩
  rcases h2 with h2 | ⟨c,cs,el,h3,h4,h5,h6⟩
  ·exact .inl h2
  ·refine .inr ⟨c,cs,el,h3,by rw[hs c h3];exact h4,h5,fun j x hj=>?_⟩
   obtain⟨u,f1,f2,f3⟩:=h6 j x hj
   exact⟨u,e.den hb f1,f2,f3⟩
 | mp es=>
  obtain⟨c,h1,⟨mes,clock,h2,h3⟩,h4⟩:=h
  exact⟨c,h1,⟨mes,clock,by rw[hs c h1];exact h2,h3⟩,h4⟩
end
theorem Ext.draw {R:RP}{w w':World} (hh:w'.heap=w.heap) (ho:w'.os=w.os) (ht:w'.tape=w.tape) (hp:w'.output=w.output):Ext R w R w':=
 ⟨fun _ _ h=>h,fun i x blk _ h hd=>⟨blk,h,Blk.like_refl hd⟩,rfl,rfl,fun _ _ _=>by rw[hh],fun _ cs el fr h=>⟨cs,el,fr,by rw[hh];exact h,rfl⟩,by rw[hh];exact Nat.le_refl _,fun _ _ h=>h,ho,ht,hp⟩
theorem RP.OK.draw {R:RP}{w w':World} (h:R.OK w) (hh:w'.heap=w.heap) (ho:w'.os=w.os) (ht:w'.tape=w.tape) (hp:w'.output=w.output):R.OK w':=
 ⟨h.b01,h.al,h.inj,fun i c hc=>by rw[hh];exact h.lt i c hc,fun i m blk h1 h2=>(Ext.draw (R:=R) hh ho ht hp).blkOK h.b01 (fun c _=>by rw[hh]) (h.blk i m blk h1 h2),h.nb,fun c hc=>by rw[hh];exact h.bl c hc⟩
theorem Ext.new {R:RP}{w:World}{H':Zk}{n:Nat}{blk:Blk}{m:Option Nat} (o:Obj) (hn:R.M n=none) (hH:∀(i:Nat),i≠n->H'[i]? = R.H[i]?) (hb:H'[n]? = some blk)
  (hm:m=none∨m=some w.heap.size) (lt:∀i c,R.M i=some (some c)->c<w.heap.size) (al:∀(i:Nat) blk,R.H[i]? = some blk->blk ≠ .dead->∃m,R.M i=some m) :
  Ext R w { R with M:=fun i=>if i=n then some m else R.M i,H:=H' } (w.alloc o) where
 m:=fun i x hx=>by
  have:i≠n:=fun e=>by rw[e,hn] at hx;cases hx
  simp[this,hx]
 h:=fun i x blk' hx hb' hd=>by
  have:i≠n:=fun e=>by rw[e,hn] at hx;cases hx
  simp only[hH i this] at hb'
  exact⟨blk',hb',Blk.like_refl hd⟩
 b1:=rfl
 b0:=rfl
 same:=fun b hb' _=>Go.RowKit.Below.heap_alloc _ _ _ hb'
 row:=fun b cs el fr hb'=>by
  have hlt:b<w.heap.size:=by
   rcases Nat.lt_or_ge b w.heap.size with h | h
   ·exact h
   ·rw[Array.getElem?_eq_none h] at hb';cases hb'
  exact⟨cs,el,fr,by rw[Go.RowKit.Below.heap_alloc _ _ _ hlt];exact hb',rfl⟩
 grow:=by simp
 liv:=fun c hc ⟨i,h1,h2⟩=>by
  by_cases e:i=n
  ·subst e
   simp only[if_true] at h2
   rcases hm with h | h
   ·rw[h] at h2;cases h2
   ·rw[h] at h2;cases h2;omega
  ·simp only[e,if_false] at h2
   refine⟨i,?_,h2⟩
   rw[Zw] at h1 ⊢
   obtain⟨b',f1,f2⟩:=h1
   exact⟨b',by rw[<- hH i e];exact f1,f2⟩
 os:=rfl
 tape:=rfl
 output:=rfl
theorem RP.OK.new {R:RP}{w:World}{H':Zk}{n:Nat}{blk:Blk}{m:Option Nat}{o:Obj} (h:R.OK w) (hn:R.M n=none) (hH:∀(i:Nat),i≠n->H'[i]? = R.H[i]?) (hb:H'[n]? = some blk)
  (hm:m=none∨m=some w.heap.size)
  (hk:Ext R w { R with M:=fun i=>if i=n then some m else R.M i,H:=H' } (w.alloc o)->ZiW { R with M:=fun i=>if i=n then some m else R.M i,H:=H' } (w.alloc o) m blk) :
  RP.OK { R with M:=fun i=>if i=n then some m else R.M i,H:=H' } (w.alloc o):=by
 have e:=Ext.new (R:=R) (w:=w) (H':=H') (n:=n) (blk:=blk) (m:=m) o hn hH hb hm h.lt h.al
 refine⟨h.b01,?_,?_,?_,?_,?_,fun c hc=>by have:=h.bl c hc;simp;omega⟩
 ·intro i blk' hi hd
  by_cases ei:i=n
  ·exact⟨m,by simp[ei]⟩
  ·simp only[hH i ei] at hi
   obtain⟨x,hx⟩:=h.al i blk' hi hd
   exact⟨x,by simp[ei,hx]⟩
 ·intro i j c hi hj h1 h2
  simp only at h1 h2
  by_cases ei:i=n<;>by_cases ej:j=n
  ·rw[ei,ej]
  ·rw[if_pos ei] at h1;rw[if_neg ej] at h2
   have:=h.lt j c h2
   rcases hm with h' | h'<;>rw[h'] at h1<;>cases h1
   omega
  ·rw[if_neg ei] at h1;rw[if_pos ej] at h2
   have:=h.lt i c h1
   rcases hm with h' | h'<;>rw[h'] at h2<;>cases h2
   omega
  ·rw[if_neg ei] at h1;rw[if_neg ej] at h2
   have l1:Z7 R.H i=true:=by rw[Zw] at hi ⊢;obtain⟨b',f1,f2⟩:=hi;exact⟨b',by rw[<- hH i ei];exact f1,f2⟩
   have l2:Z7 R.H j=true:=by rw[Zw] at hj ⊢;obtain⟨b',f1,f2⟩:=hj;exact⟨b',by rw[<- hH j ej];exact f1,f2⟩
   exact h.inj i j c l1 l2 h1 h2
 ·intro i c hc
  simp only at hc
  by_cases ei:i=n
  ·rw[if_pos ei] at hc
   rcases hm with h' | h'<;>rw[h'] at hc<;>cases hc
   simp
  ·rw[if_neg ei] at hc
   have:=h.lt i c hc
   simp;omega
 ·intro i x blk' hi hx
  simp only at hi hx
  by_cases ei:i=n
  ·subst ei
   rw[if_pos rfl] at hx
   cases hx
   rw[hb] at hi
   cases hi
   exact hk e
  ·rw[if_neg ei] at hx
   rw[hH i ei] at hi
   refine e.blkOK h.b01 (fun c hc=>?_) (h.blk i x blk' hi hx)
   exact Go.RowKit.Below.heap_alloc _ _ _ (h.lt i c (by rw[hx,hc]))
 ·intro i c hl hc hb1
  simp only at hc hb1
  by_cases ei:i=n
  ·rw[if_pos ei] at hc
   rcases hm with h' | h'<;>rw[h'] at hc<;>cases hc
   exact absurd (h.bl _ hb1) (by omega)
  ·rw[if_neg ei] at hc
   refine h.nb i c ?_ hc hb1
   rw[Zw] at hl ⊢;obtain⟨b',f1,f2⟩:=hl;exact⟨b',by rw[<- hH i ei];exact f1,f2⟩
theorem Ext.kill {R:RP}{w:World}{H':Zk} (hH:∀(i:Nat) blk,H'[i]? = some blk->blk ≠ .dead->R.H[i]? = some blk):Ext R w { R with H:=H' } w:=
 ⟨fun _ _ h=>h,fun i x blk _ h hd=>⟨blk,hH i blk h hd,Blk.like_refl hd⟩,rfl,rfl,fun _ _ _=>rfl,fun _ cs el fr h=>⟨cs,el,fr,h,rfl⟩,Nat.le_refl _,
  fun c _ ⟨i,h1,h2⟩=>by
   rw[Zw] at h1
   obtain⟨blk,f1,f2⟩:=h1
   exact⟨i,Zw.2 ⟨blk,hH i blk f1 f2,f2⟩,h2⟩,rfl,rfl,rfl⟩
theorem RP.OK.kill {R:RP}{w:World}{H':Zk} (h:R.OK w) (hH:∀(i:Nat) blk,H'[i]? = some blk->blk ≠ .dead->R.H[i]? = some blk):RP.OK { R with H:=H' } w:=by
 have e:=Ext.kill (R:=R) (w:=w) hH
 have lv:∀i,Z7 H' i=true->Z7 R.H i=true:=fun i hi=>by
  rw[Zw] at hi ⊢
  obtain⟨blk,f1,f2⟩:=hi
  exact⟨blk,hH i blk f1 f2,f2⟩
 refine⟨h.b01,fun i blk hi hd=>h.al i blk (hH i blk hi hd) hd,fun i j c hi hj=>h.inj i j c (lv i hi) (lv j hj),h.lt,fun i m blk hi hm=>?_,fun i c hl=>h.nb i c (lv i hl),h.bl⟩
 by_cases hd:blk = .dead
 ·subst hd;trivial
 ·exact e.blkOK h.b01 (fun _ _=>rfl) (h.blk i m blk (hH i blk hi hd) hm)
end Go.Proofs.YtgcfmiajkbbmeaaGreatDoorE
namespace Go.Proofs.YtgcfmiajkbbmeaaGreatDoorE
open Go
open Go.IntKind (u64 i64 u32 i32 u8)
def ZcG (P:Program) (o:Oper) (a:Act) (w:World) (Post:Value->World->Prop):Prop:=
 (∃u w',(execOp a.eval o).run P w = .ok (.value u) w'/\Post u w')∨(∃w',(execOp a.eval o).run P w = .ok .skip w'/\Post undef w') ∨
 (∃f args w',(execOp a.eval o).run P w = .ok (.enter f args) w'/\Calls P f args w' fun e w''=>∃u,e = .returned u/\Post u w'')
theorem ZcG.wp {P:Program}{o:Oper}{a:Act}{w:World}{Post:Value->World->Prop}{K:Act->World->Prop}{Q:Exit->Act->World->Prop}
  (h:ZcG P o a w Post) (hK:∀u w',Post u w'->K (a.put o.dst u) w'):o.wp P a w K Q:=by
 unfold Oper.wp
 rcases h with⟨u,w',h1,h2⟩ | ⟨w',h1,h2⟩ | ⟨f,args,w',h1,h2⟩
 ·rw[h1];exact hK _ _ h2
 ·rw[h1];exact hK _ _ h2
 ·rw[h1]
  exact h2.mono fun e w'' ⟨u,he,hp⟩=>by subst he;exact hK _ _ hp
theorem ZcG.val {P:Program}{o:Oper}{a:Act}{w w':World}{Post:Value->World->Prop}{u:Value} (h:(execOp a.eval o).run P w = .ok (.value u) w') (hp:Post u w'):ZcG P o a w Post:=
 .inl ⟨u,w',h,hp⟩
mutual
def cv:V->Value->Bool
 | .d (.bool a),.bool b=>a==b
 | .d (.int k n),.int k' m=>k==k'&&n==m
 | .d (.str s),.string t=>decide (s=t)
 | .d .nilfn,.nilFunc=>true
 | .d .nilp,.pointer none=>true
 | .d .nilI,.nilIface=>true
 | .d (.fn f []),.func (.func g) a b=>isU f&&(f==g&&a.isEmpty&&b.isEmpty)
 | .d (.agg ds),.agg us=>cds ds us.toList
 | .d (.list _ []),.slice _ n _=>n==0
 | .nilsl _,.slice _ n c=>n==0&&c==0
 | .agg vs,.agg us=>cvs vs us.toList
 | .bad,_=>true
 | _,_=>false
def cvs:List V->List Value->Bool
 | [],[]=>true
 | v :: vs,u :: us=>cv v u&&cvs vs us
 | _,_=>false
def cds:List D->List Value->Bool
 | [],[]=>true
 | .bool a :: ds,.bool b :: us=>a==b&&cds ds us
 | .int k n :: ds,.int k' m :: us=>k==k'&&n==m&&cds ds us
 | .str s :: ds,.string t :: us=>decide (s=t)&&cds ds us
 | .nilfn :: ds,.nilFunc :: us=>cds ds us
 | .nilp :: ds,.pointer none :: us=>cds ds us
 | .nilI :: ds,.nilIface :: us=>cds ds us
 | .list _ [] :: ds,.slice _ n _ :: us=>n==0&&cds ds us
 | _,_=>false
end
theorem ZHm {A1 A0 AL:Nat->Prop}{w:World}:∀(ds:List D) (us:List Value),cds ds us=true->ZaI A1 A0 AL w ds us:=by
 intro ds
 induction ds with
 | nil=>intro us h;cases us<;>simp_all [cds,ZaI]
 | cons x ds ih=>
  intro us h
  cases us with
  | nil=>cases x<;>simp_all [cds]
  | cons u us=>
   refine⟨u,us,rfl,?_⟩
   cases x with
   | bool a=>cases u<;>simp_all [cds,Za3]
   | int k n=>cases u<;>simp_all [cds,Za3]
   | str s=>
    cases u<;>simp only[cds,Bool.and_eq_true,decide_eq_true_eq,Bool.false_eq_true] at h
    exact⟨by rw[h.1];rfl,ih us h.2⟩
   | nilfn=>cases u<;>simp_all [cds,Za3]
   | nilI=>cases u<;>simp_all [cds,Za3]
   | nilp=>
    cases u with
    | pointer a=>cases a<;>simp_all [cds,Za3]
    | _=>simp_all [cds]
   | list own xs=>
    cases xs with
    | nil=>
     cases u with
     | slice a n c=>
      simp only[cds,Bool.and_eq_true,beq_iff_eq] at h
      obtain⟨rfl,h⟩:=h
      exact⟨⟨a,0,c,rfl,rfl,Nat.zero_le _,by simp,by simp⟩,ih us h⟩
     | _=>simp_all [cds]
    | cons y ys=>cases u<;>simp_all [cds]
   | agg cs=>cases u<;>simp_all [cds]
   | tup cs=>cases u<;>simp_all [cds]
   | fn f cs=>cases u<;>simp_all [cds]
   | rptr cs=>cases u<;>simp_all [cds]
   | iface t v=>cases u<;>simp_all [cds]
mutual
theorem Zvl {R:RP}{w:World}:∀(v:V) (u:Value),cv v u=true->ZaK R w v u
 | .bad,_,_=>trivial
 | .nilsl sz,u,h=>by
  cases u<;>simp_all [cv,ZaK]
 | .agg vs,u,h=>by
  cases u<;>simp only[cv] at h<;>try (cases h;done)
  rename_i us
  exact⟨us.toList,rfl,Zyy vs us.toList h⟩
 | .d x,u,h=>by
  cases x with
  | bool a=>cases u<;>simp_all [cv,ZaK,RP.den,Za3]
  | int k n=>cases u<;>simp_all [cv,ZaK,RP.den,Za3]
  | str s=>
   cases u<;>simp only[cv,decide_eq_true_eq,Bool.false_eq_true] at h
   rw[h];rfl
  | nilfn=>cases u<;>simp_all [cv,ZaK,RP.den,Za3]
  | nilI=>cases u<;>simp_all [cv,ZaK,RP.den,Za3]
  | nilp=>
   cases u with
   | pointer a=>cases a<;>simp_all [cv,ZaK,RP.den,Za3]
   | _=>simp_all [cv]
  | fn f cs=>
   cases cs with
   | cons=>cases u<;>simp_all [cv]
   | nil=>
    cases u with
    | func fn a b=>
     cases fn<;>simp only[cv,Bool.and_eq_true,beq_iff_eq,Array.isEmpty_iff,Bool.false_eq_true] at h
     obtain⟨hlt,⟨rfl,rfl⟩,rfl⟩:=h
     exact⟨[],(Zr2 hlt _).symm,rfl⟩
    | _=>simp_all [cv]
  | agg ds=>
   cases u<;>simp only[cv] at h<;>try (cases h;done)
   rename_i us
   exact⟨us.toList,rfl,ZHm ds us.toList h⟩
  | list own xs=>
   cases xs with
   | cons=>cases u<;>simp_all [cv]
   | nil=>
    cases u<;>simp only[cv,beq_iff_eq] at h<;>try (cases h;done)
    subst h
    exact⟨_,0,_,rfl,rfl,Nat.zero_le _,by simp,by simp⟩
  | tup cs=>cases u<;>simp_all [cv]
  | rptr cs=>cases u<;>simp_all [cv]
  | iface t v=>cases u<;>simp_all [cv]
 | .ptr b o,u,h=>by cases u<;>simp_all [cv]
 | .eptr b sz i k,u,h=>by cases u<;>simp_all [cv]
 | .sl b sz,u,h=>by cases u<;>simp_all [cv]
 | .slp b sz o l,u,h=>by cases u<;>simp_all [cv]
 | .tup cs,u,h=>by cases u<;>simp_all [cv]
 | .fn f cs,u,h=>by cases u<;>simp_all [cv]
 | .mp b,u,h=>by cases u<;>simp_all [cv]
theorem Zyy {R:RP}{w:World}:∀(vs:List V) (us:List Value),cvs vs us=true->Zay R w vs us
 | [],us,h=>by cases us<;>simp_all [cvs,Zay]
 | v :: vs,[],h=>by simp[cvs] at h
 | v :: vs,u :: us,h=>by
  simp only[cvs,Bool.and_eq_true] at h
  exact⟨u,us,rfl,Zvl v u h.1,Zyy vs us h.2⟩
end
abbrev Za8:=Nat->Option (List (IntKind×Int))
def gD:List (IntKind×Int)->List D
 | []=>[]
 | (k,n) :: r=>.int k n :: gD r
def eqG:List (IntKind×Int)->List D->Bool
 | [],[]=>true
 | (k,n) :: r,.int k' n' :: s=>k==k'&&n==n'&&eqG r s
 | _,_=>false
theorem ZDJ:∀(g:List (IntKind×Int)) (l:List D),eqG g l=true->l=gD g
 | [],[],_=>rfl
 | [],_ :: _,h=>by simp[eqG] at h
 | (k,n) :: r,[],h=>by simp[eqG] at h
 | (k,n) :: r,x :: s,h=>by
  cases x<;>simp only[eqG,Bool.and_eq_true,beq_iff_eq,Bool.false_eq_true] at h
  obtain⟨⟨rfl,rfl⟩,h⟩:=h
  rw[gD,ZDJ r s h]
def ZK (G:Za8):Operand->Opd->Bool
 | .tmp i,.t j=>i==j
 | .const u,.c v=>cv v u
 | .func f,.c (.d (.fn g []))=>isU f&&f==g
 | .global g,.c (.d (.rptr cs))=>match G g with | some l=>eqG l cs | none=>false
 | _,_=>false
def Zeu (G:Za8):List Operand->List Opd->Bool
 | [],[]=>true
 | x :: xs,y :: ys=>ZK G x y&&Zeu G xs ys
 | _,_=>false
def GOK (G:Za8) (R:RP) (w:World):Prop:=∀g l,G g=some l->R.den w (.rptr (gD l)) (.pointer (some ⟨g,0,none⟩))
def Zih (R:RP) (w:World) (e:Env) (a:Act):Prop:=∀t,ZaK R w (e t) (a.tmps.getD t undef)
theorem Zpg {G:Za8}{R:RP}{w:World}{e:Env}{a:Act} (hg:GOK G R w) (he:Zih R w e a) {x:Operand}{y:Opd} (h:ZK G x y=true):ZaK R w (y.val e) (a.eval x):=by
 cases x with
 | tmp i=>
  cases y with
  | t j=>
   simp only[ZK,beq_iff_eq] at h
   subst h
   exact he i
  | c v=>simp[ZK] at h
 | const u=>
  cases y with
  | t j=>simp[ZK] at h
  | c v=>exact Zvl v u h
 | func f=>
  cases y with
  | t j=>simp[ZK] at h
  | c v=>
   cases v with
   | d x=>
    cases x with
    | fn g caps=>
     cases caps with
     | nil=>
      simp only[ZK,Bool.and_eq_true,beq_iff_eq] at h
      obtain⟨hlt,rfl⟩:=h
      exact⟨[],(Zr2 hlt _).symm,rfl⟩
     | cons=>simp[ZK] at h
    | _=>simp[ZK] at h
   | _=>simp[ZK] at h
 | global g=>
  cases y with
  | t j=>simp[ZK] at h
  | c v=>
   cases v with
   | d x=>
    cases x with
    | rptr cs=>
     cases hG:G g with
     | none=>simp[ZK,hG] at h
     | some l=>
      simp only[ZK,hG] at h
      rw[ZDJ l cs h]
      exact hg g l hG
    | _=>simp[ZK] at h
   | _=>simp[ZK] at h
theorem Zvw {G:Za8}{R:RP}{w:World}{e:Env}{a:Act} (hg:GOK G R w) (he:Zih R w e a):∀{xs:List Operand}{ys:List Opd},Zeu G xs ys=true->Zay R w (Zgl e ys) (xs.map a.eval)
 | [],[],_=>rfl
 | [],_ :: _,h=>by simp[Zeu] at h
 | _ :: _,[],h=>by simp[Zeu] at h
 | x :: xs,y :: ys,h=>by
  simp only[Zeu,Bool.and_eq_true] at h
  exact⟨_,_,rfl,Zpg hg he h.1,Zvw hg he h.2⟩
theorem Ext.gok {G:Za8}{R R':RP}{w w':World} (e:Ext R w R' w') (hb:∀c,R.B0 c->R.B1 c) (h:GOK G R w):GOK G R' w':=fun g l hg=>e.den hb (h g l hg)
theorem Ext.envOK {R R':RP}{w w':World} (x:Ext R w R' w') (hb:∀c,R.B0 c->R.B1 c) {e:Env}{a:Act} (h:Zih R w e a):Zih R' w' e a:=fun t=>x.denV hb _ _ (h t)
def Z3 (H:Zk) (up:List (Nat×Blk)) (nid:Nat) (nw:List Blk) (H':Zk):Prop:=
 ∀i,H'[i]? = if nid<=i/\i<nid+nw.length then nw[i-nid]? else (ZcR H up)[i]?
def Post (R:RP) (w:World) (nid n:Nat) (H':Zk) (v:V) (u:Value) (w':World):Prop:=
 ∃R',Ext R w R' w'/\R'.OK w'/\R'.H=H'/\ZaK R' w' v u/\∀i,R.M i=none->¬(nid<=i/\i<nid+n)->R'.M i=none
theorem Z3.same {H H':Zk}{nid:Nat} (h:Z3 H [] nid [] H'):H'=H:=by
 apply List.ext_getElem?
 intro i
 have:=h i
 simp only[List.length_nil,Nat.add_zero,ZcR] at this
 rw[this,if_neg (by omega)]
theorem Post.still {R:RP}{w w':World}{nid:Nat}{H':Zk}{v:V}{u:Value} (ok:R.OK w) (hp:Z3 R.H [] nid [] H') (hh:w'.heap=w.heap) (ho:w'.os=w.os) (ht:w'.tape=w.tape) (hpt:w'.output=w.output)
  (hv:ZaK R w v u):Post R w nid 0 H' v u w':=
 ⟨R,Ext.draw hh ho ht hpt,ok.draw hh ho ht hpt,hp.same.symm,(Ext.draw hh ho ht hpt).denV ok.b01 v u hv,fun i h _=>h⟩
theorem Post.stay {R:RP}{w:World}{nid:Nat}{H':Zk}{v:V}{u:Value} (ok:R.OK w) (hp:Z3 R.H [] nid [] H') (hv:ZaK R w v u):Post R w nid 0 H' v u w:=
 Post.still ok hp rfl rfl rfl rfl hv
theorem Post.new {R:RP}{w:World}{nid:Nat}{H':Zk}{v:V}{u:Value}{blk:Blk}{m:Option Nat} (o:Obj) (ok:R.OK w) (hp:Z3 R.H [] nid [blk] H') (hn:R.M nid=none) (hm:m=none∨m=some w.heap.size)
  (hk:∀R':RP,Ext R w R' (w.alloc o)->R'.M nid=some m->R'.H[nid]? = some blk->ZiW R' (w.alloc o) m blk/\(ZiW R' (w.alloc o) m blk->ZaK R' (w.alloc o) v u)):Post R w nid 1 H' v u (w.alloc o):=by
 have hH:∀i,i≠nid->H'[i]? = R.H[i]?:=fun i hi=>by
  have:=hp i
  rw[this,if_neg (by simp;omega)];rfl
 have hb:H'[nid]? = some blk:=by
  have:=hp nid
  rw[this,if_pos (by simp)];simp
 have e:=Ext.new (R:=R) (w:=w) (H':=H') (n:=nid) (blk:=blk) (m:=m) o hn hH hb hm ok.lt ok.al
 have hk':=hk _ e (by simp) hb
 exact⟨_,e,ok.new hn hH hb hm (fun _=>hk'.1),rfl,hk'.2 hk'.1,fun i hi hni=>by
  have:i≠nid:=fun h=>hni (by subst h;simp)
  simp[this,hi]⟩
def Le {α:Type} (x y:Option α):Prop:=∀a,x=some a->y=some a
theorem Le.refl {α:Type} (x:Option α):Le x x:=fun _ h=>h
theorem Le.trans {α:Type}{x y z:Option α} (h:Le x y) (k:Le y z):Le x z:=fun a ha=>k a (h a ha)
theorem Le.none {α:Type} (x:Option α):Le none x:=fun _ h=>by cases h
noncomputable def ZGd {α:Type} (F:Nat->Option α):Option α:=open Classical in if h:∃n,(F n).isSome=true then F (Classical.choose h) else none
theorem ZzM {α:Type}{F:Nat->Option α} (mono:∀n m,n<=m->Le (F n) (F m)) (a:α):ZGd F=some a↔∃n,F n=some a:=by
 unfold ZGd
 constructor
 ·intro h
  split at h
  ·rename_i hx;exact⟨_,h⟩
  ·cases h
 ·rintro ⟨n,hn⟩
  have hx:∃n,(F n).isSome=true:=⟨n,by simp[hn]⟩
  rw[dif_pos hx]
  have hs:=Classical.choose_spec hx
  cases hv:F (Classical.choose hx) with
  | none=>rw[hv] at hs;cases hs
  | some b=>
   rcases Nat.le_total n (Classical.choose hx) with h | h
   ·rw[<- hv];exact mono _ _ h a hn
   ·have:=mono _ _ h b hv;rw[hn] at this;exact this.symm
def LeC (f g:Zba):Prop:=∀a b c,Le (f a b c) (g a b c)
abbrev Rnd:=List V->Zk->Option Lp
abbrev ItF:=Rnd->List V->Zk->Option (Ex×List V×Zk)
def LeR (f g:Rnd):Prop:=∀a b,Le (f a b) (g a b)
def LeI (f g:ItF):Prop:=∀F G,LeR F G->∀a b,Le (f F a b) (g G a b)
theorem Zmh {Γ:Ctx}{cf cg:Zba} (h:LeC cf cg) (nid:Nat) (H:Zk) (f:Nat) (args:List V):Le (Zh9 Γ cf nid H f args) (Zh9 Γ cg nid H f args):=by
 intro r hr
 unfold Zh9 at hr ⊢
 split at hr
 ·rename_i hm
  cases h1:fzs H args with
  | none=>simp[h1] at hr
  | some l=>
   simp only[h1] at hr ⊢
   cases h2:cf f (ZcD l) [] with
   | none=>simp[h2] at hr
   | some p=>rw[h2] at hr;rw[h _ _ _ p h2];exact hr
 ·rename_i hm
  cases h1:fzs H args with
  | none=>simp[h1] at hr
  | some l=>
   simp only[h1] at hr ⊢
   cases h2:cf f (ZcD l) [] with
   | none=>simp[h2] at hr
   | some p=>rw[h2] at hr;rw[h _ _ _ p h2];exact hr
 ·cases h1:extract 0 args H with
  | none=>simp[h1] at hr
  | some q=>
   obtain⟨L,args',H0⟩:=q
   simp only[h1] at hr ⊢
   cases h2:cf f args' H0 with
   | none=>simp[h2] at hr
   | some p=>rw[h2] at hr;rw[h _ _ _ p h2];exact hr
theorem Zis {Γ:Ctx}{cf:Zba} (e:Env) (nid:Nat) (H:Zk) (x:Opd) (args:List Opd) :
  opE Γ cf e nid H (.callv x args)=match Zmw (x.val e) with | some (f,caps)=>(match Zia Γ (x.val e) f caps with | true=>none | false=>Zh9 Γ cf nid H (Zog f) (Zrh f caps (Zgl e args))) | none=>none:=rfl
theorem ZhE {Γ:Ctx}{cf:Zba} (e:Env) (nid:Nat) (H:Zk) (tab:List (Nat×Nat)) (x:Opd) (args:List Opd) :
  opE Γ cf e nid H (.invoke tab x args)=match x.val e with
   | .d (.iface t y)=>(match Znk tab t with | some f=>Zh9 Γ cf nid H f (.d y :: Zgl e args) | none=>none)
   | _=>none:=rfl
theorem Zpy {Γ:Ctx}{cf cg:Zba} (h:LeC cf cg) (e:Env) (nid:Nat) (H:Zk) (o:O):Le (opE Γ cf e nid H o) (opE Γ cg e nid H o):=by
 intro r hr
 cases o<;>try exact hr
 ·exact Zmh h _ _ _ _ r hr
 ·rename_i x args
  rw[Zis] at hr ⊢
  cases h1:Zmw (x.val e) with
  | none=>simp[h1] at hr
  | some q=>
   obtain⟨f,caps⟩:=q;simp only[h1] at hr ⊢
   cases hb:Zia Γ (x.val e) f caps with
   | true=>rw[hb] at hr;cases hr
   | false=>rw[hb] at hr;exact Zmh h _ _ _ _ r hr
 ·rename_i tab x args
  rw[ZhE] at hr ⊢
  split at hr
  ·rename_i t y hx
   split at hr
   ·exact Zmh h _ _ _ _ r hr
   ·cases hr
  ·cases hr
 ·exact Zmh h _ _ _ _ r hr
theorem ZnR {Γ:Ctx}{cf cg:Zba} (h:LeC cf cg):∀(l:List Op1) (e:Env) (H:Zk),Le (Zhm Γ cf l e H) (Zhm Γ cg l e H)
 | [],e,H,r,hr=>hr
 | o :: l,e,H,r,hr=>by
  unfold Zhm at hr ⊢
  cases hw:ZeL e o.guard with
  | none=>simp[hw] at hr
  | some b=>
   cases b with
   | false=>simp only[hw] at hr ⊢;exact ZnR h l _ _ r hr
   | true=>
    simp only[hw] at hr ⊢
    cases ho:opE Γ cf e H.length H o.op with
    | none=>simp[ho] at hr
    | some q=>
     rw[ho] at hr;rw[Zpy h _ _ _ _ q ho]
     exact ZnR h l _ _ r hr
theorem ZlX {Γ:Ctx}{cf cg:Zba} (h:LeC cf cg):∀(l:List Op1) (pos:List (Nat×Nat)) (e:Env) (H:Zk),Le (ZgV Γ cf pos l e H) (ZgV Γ cg pos l e H)
 | [],pos,e,H,r,hr=>hr
 | o :: l,pos,e,H,r,hr=>by
  unfold ZgV at hr ⊢
  cases hw:ZeL e o.guard with
  | none=>simp[hw] at hr
  | some b=>
   cases b with
   | false=>simp only[hw] at hr ⊢;exact ZlX h l _ _ _ r hr
   | true=>
    simp only[hw] at hr ⊢
    cases ho:opE Γ cf e H.length (Zh6 H pos o.mask) o.op with
    | none=>simp[ho] at hr
    | some q=>
     rw[ho] at hr;rw[Zpy h _ _ _ _ q ho]
     obtain⟨v,up,nw⟩:=q
     dsimp only at hr ⊢
     cases hb:(Zso e H o up nw) with
     | false=>simp[hb] at hr
     | true=>simp only[hb,cond_true] at hr ⊢;exact ZlX h l _ _ _ r hr
theorem Zno {k:Nat}{live outs:List Nat}{x y:Option (Ex×Env×Zk)} (h:Le x y):Le (ZfN k live outs x) (ZfN k live outs y):=by
 intro r hr
 cases x with
 | none=>simp[ZfN] at hr
 | some q=>rw[h q rfl];exact hr
theorem ZsZ {Γ:Ctx}{cf cg:Zba}{It Jt:ItF} (h:LeC cf cg) (hi:LeI It Jt) (k:Nat):∀(c:C) (e:Env) (H:Zk),Le (ZO Γ cf It k c e H) (ZO Γ cg Jt k c e H):=by
 intro c
 induction c with
 | skip=>intro e H;exact Le.refl _
 | ret=>intro e H;exact Le.refl _
 | exit id=>intro e H;exact Le.refl _
 | seq a b iha ihb=>
  intro e H r hr
  unfold ZO at hr ⊢
  cases ha:ZO Γ cf It k a e H with
  | none=>simp[ha] at hr
  | some q=>
   rw[ha] at hr;rw[iha e H q ha]
   obtain⟨x,e1,H1⟩:=q
   cases x with
   | normal=>exact ihb e1 H1 r hr
   | exit id=>exact hr
   | ret=>exact hr
 | cond x a b iha ihb=>
  intro e H r hr
  unfold ZO at hr ⊢
  split at hr
  ·rename_i t ht
   cases t with
   | true=>exact iha e H r hr
   | false=>exact ihb e H r hr
  ·cases hr
 | block id a iha=>
  intro e H r hr
  unfold ZO at hr ⊢
  cases ha:ZO Γ cf It k a e H with
  | none=>simp[ha] at hr
  | some q=>rw[ha] at hr;rw[iha e H q ha];exact hr
 | loop live outs a iha=>
  intro e H r hr
  unfold ZO at hr ⊢
  cases hh:ZrH k (live.map e) H with
  | none=>simp[hh] at hr
  | some q=>
   obtain⟨vs,H1⟩:=q
   simp only[hh] at hr ⊢
   cases hit:It (fun vs H=>ZfN k live outs (ZO Γ cf It k a (Zeq live vs) H)) vs H1 with
   | none=>simp[hit] at hr
   | some p=>
    rw[hit] at hr
    rw[hi _ (fun vs H=>ZfN k live outs (ZO Γ cg Jt k a (Zeq live vs) H)) (fun vs H=>Zno (iha (Zeq live vs) H)) vs H1 p hit]
    exact hr
 | ops l=>
  intro e H r hr
  unfold ZO at hr ⊢
  cases ho:Zhm Γ cf l e H with
  | none=>simp[ho] at hr
  | some q=>rw[ho] at hr;rw[ZnR h l e H q ho];exact hr
 | draw l=>
  intro e H r hr
  unfold ZO at hr ⊢
  cases ho:ZgV Γ cf [] l e H with
  | none=>simp[ho] at hr
  | some q=>rw[ho] at hr;rw[ZlX h l _ e H q ho];exact hr
theorem Zu8 {Γ:Ctx}{cf cg:Zba}{It Jt:ItF} (h:LeC cf cg) (hi:LeI It Jt) (f:Nat) (args:List V) (H:Zk):Le (ZiK Γ cf It f args H) (ZiK Γ cg Jt f args H):=by
 intro r hr
 unfold ZiK at hr ⊢
 cases hc:Γ.code f with
 | none=>simp[hc] at hr
 | some fn=>
  simp only[hc] at hr ⊢
  cases hn:Nat.beq args.length fn.nargs with
  | false=>simp[hn] at hr
  | true=>
   simp only[hn,cond_true] at hr ⊢
   cases hx:ZO Γ cf It H.length fn.body (Zdd 0 args) H with
   | none=>simp[hx] at hr
   | some q=>rw[hx] at hr;rw[ZsZ h hi _ _ _ _ q hx];exact hr
theorem Zhy {F G:Rnd} (h:LeR F G):∀(n m:Nat),n<=m->∀vs H,Le (Zcf F n vs H) (Zcf G m vs H)
 | 0,m,_,vs,H=>Le.none _
 | n+1,0,hm,vs,H=>absurd hm (by omega)
 | n+1,m+1,hm,vs,H=>by
  intro r hr
  unfold Zcf at hr ⊢
  cases hf:F vs H with
  | none=>simp[hf] at hr
  | some q=>
   rw[hf] at hr;rw[h vs H q hf]
   cases q with
   | again vs H=>exact Zhy h n m (by omega) vs H r hr
   | done x vs H=>exact hr
theorem ZjP (Γ:Ctx):∀(n m:Nat),n<=m->LeC (evN Γ n) (evN Γ m)
 | 0,m,_=>fun _ _ _=>Le.none _
 | n+1,0,hm=>absurd hm (by omega)
 | n+1,m+1,hm=>fun f args H=>Zu8 (ZjP Γ n m (by omega)) (fun F G h vs H=>Zhy h n m (by omega) vs H) f args H
noncomputable def evW (Γ:Ctx):Zba:=fun f args H=>ZGd fun n=>evN Γ n f args H
noncomputable def itW:ItF:=fun F vs H=>ZGd fun n=>Zcf F n vs H
theorem Zkn (Γ:Ctx) (f:Nat) (args:List V) (H:Zk) (r:V×Zk):evW Γ f args H=some r↔∃n,evN Γ n f args H=some r:=
 ZzM (fun n m h=>ZjP Γ n m h f args H) r
theorem ZkE (F:Rnd) (vs:List V) (H:Zk) (r:Ex×List V×Zk):itW F vs H=some r↔∃n,Zcf F n vs H=some r:=
 ZzM (fun n m h=>Zhy (fun _ _=>Le.refl _) n m h vs H) r
theorem ZHi (F:Rnd) (vs:List V) (H:Zk):itW F vs H=match F vs H with | some (.again vs H)=>itW F vs H | some (.done x vs H)=>some (x,vs,H) | none=>none:=by
 cases hf:F vs H with
 | none=>
  cases h:itW F vs H with
  | none=>rfl
  | some r=>
   obtain⟨n,hn⟩:=(ZkE F vs H r).1 h
   cases n with
   | zero=>simp[Zcf] at hn
   | succ n=>simp[Zcf,hf] at hn
 | some q=>
  cases q with
  | done x vs' H'=>exact(ZkE F vs H _).2 ⟨1,by simp[Zcf,hf]⟩
  | again vs' H'=>
   dsimp only
   cases h:itW F vs' H' with
   | some r=>
    obtain⟨n,hn⟩:=(ZkE F vs' H' r).1 h
    exact(ZkE F vs H r).2 ⟨n+1,by simp[Zcf,hf,hn]⟩
   | none=>
    cases h2:itW F vs H with
    | none=>rfl
    | some r=>
     obtain⟨n,hn⟩:=(ZkE F vs H r).1 h2
     cases n with
     | zero=>simp[Zcf] at hn
     | succ n=>
      simp[Zcf,hf] at hn
      rw[(ZkE F vs' H' r).2 ⟨n,hn⟩] at h
      cases h
section
variable {Γ:Ctx}
theorem Zl4 (nid:Nat) (H:Zk) (f:Nat) (args:List V) (r:V×List (Nat×Blk)×List Blk) (hr:Zh9 Γ (evW Γ) nid H f args=some r):∃n,Zh9 Γ (evN Γ n) nid H f args=some r:=by
 unfold Zh9 at hr ⊢
 split at hr
 ·cases h1:fzs H args with
  | none=>simp[h1] at hr
  | some l=>
   simp only[h1] at hr ⊢
   cases h2:evW Γ f (ZcD l) [] with
   | none=>simp[h2] at hr
   | some p=>obtain⟨n,hn⟩:=(Zkn Γ f (ZcD l) [] p).1 h2;exact⟨n,by rw[hn];rw[h2] at hr;exact hr⟩
 ·cases h1:fzs H args with
  | none=>simp[h1] at hr
  | some l=>
   simp only[h1] at hr ⊢
   cases h2:evW Γ f (ZcD l) [] with
   | none=>simp[h2] at hr
   | some p=>obtain⟨n,hn⟩:=(Zkn Γ f (ZcD l) [] p).1 h2;exact⟨n,by rw[hn];rw[h2] at hr;exact hr⟩
 ·cases h1:extract 0 args H with
  | none=>simp[h1] at hr
  | some q=>
   obtain⟨L,args',H0⟩:=q
   simp only[h1] at hr ⊢
   cases h2:evW Γ f args' H0 with
   | none=>simp[h2] at hr
   | some p=>obtain⟨n,hn⟩:=(Zkn Γ f args' H0 p).1 h2;exact⟨n,by rw[hn];rw[h2] at hr;exact hr⟩
theorem ZxN (e:Env) (nid:Nat) (H:Zk) (o:O) (r:V×List (Nat×Blk)×List Blk) (hr:opE Γ (evW Γ) e nid H o=some r):∃n,opE Γ (evN Γ n) e nid H o=some r:=by
 cases o<;>try exact⟨0,hr⟩
 ·exact Zl4 _ _ _ _ r hr
 ·rename_i x args
  rw[Zis] at hr
  cases h1:Zmw (x.val e) with
  | none=>simp[h1] at hr
  | some q=>
   obtain⟨f,caps⟩:=q;simp only[h1] at hr
   cases hb:Zia Γ (x.val e) f caps with
   | true=>rw[hb] at hr;cases hr
   | false=>
    rw[hb] at hr
    obtain⟨n,hn⟩:=Zl4 _ _ _ _ r hr
    exact⟨n,by rw[Zis];simp only[h1,hb];exact hn⟩
 ·rename_i tab x args
  rw[ZhE] at hr
  split at hr
  ·rename_i t y hx
   cases hl:Znk tab t with
   | none=>simp[hl] at hr
   | some f=>
    simp only[hl] at hr
    obtain⟨n,hn⟩:=Zl4 _ _ _ _ r hr
    exact⟨n,by rw[ZhE];simp only[hx,hl];exact hn⟩
  ·cases hr
 ·exact Zl4 _ _ _ _ r hr
theorem ZqW:∀(l:List Op1) (e:Env) (H:Zk) (r:Env×Zk),Zhm Γ (evW Γ) l e H=some r->∃n,Zhm Γ (evN Γ n) l e H=some r
 | [],e,H,r,hr=>⟨0,hr⟩
 | o :: l,e,H,r,hr=>by
  unfold Zhm at hr
  cases hw:ZeL e o.guard with
  | none=>simp[hw] at hr
  | some b=>
   cases b with
   | false=>
    simp only[hw] at hr
    obtain⟨n,hn⟩:=ZqW l _ _ r hr
    exact⟨n,by unfold Zhm;simp only[hw];exact hn⟩
   | true=>
    simp only[hw] at hr
    cases ho:opE Γ (evW Γ) e H.length H o.op with
    | none=>simp[ho] at hr
    | some q=>
     rw[ho] at hr
     obtain⟨n,hn⟩:=ZxN _ _ _ _ q ho
     obtain⟨v,up,nw⟩:=q
     obtain⟨m,hm⟩:=ZqW l _ _ r hr
     refine⟨max n m,?_⟩
     unfold Zhm
     simp only[hw]
     rw[Zpy (ZjP Γ n (max n m) (Nat.le_max_left _ _)) _ _ _ _ _ hn]
     exact ZnR (ZjP Γ m (max n m) (Nat.le_max_right _ _)) l _ _ r hm
theorem ZoJ:∀(l:List Op1) (pos:List (Nat×Nat)) (e:Env) (H:Zk) (r:Env×Zk),ZgV Γ (evW Γ) pos l e H=some r->∃n,ZgV Γ (evN Γ n) pos l e H=some r
 | [],pos,e,H,r,hr=>⟨0,hr⟩
 | o :: l,pos,e,H,r,hr=>by
  unfold ZgV at hr
  cases hw:ZeL e o.guard with
  | none=>simp[hw] at hr
  | some b=>
   cases b with
   | false=>
    simp only[hw] at hr
    obtain⟨n,hn⟩:=ZoJ l _ _ _ r hr
    exact⟨n,by unfold ZgV;simp only[hw];exact hn⟩
   | true=>
    simp only[hw] at hr
    cases ho:opE Γ (evW Γ) e H.length (Zh6 H pos o.mask) o.op with
    | none=>simp[ho] at hr
    | some q=>
     rw[ho] at hr
     obtain⟨n,hn⟩:=ZxN _ _ _ _ q ho
     obtain⟨v,up,nw⟩:=q
     dsimp only at hr
     cases hb:(Zso e H o up nw) with
     | false=>simp[hb] at hr
     | true=>
      simp only[hb,cond_true] at hr
      obtain⟨m,hm⟩:=ZoJ l _ _ _ r hr
      refine⟨max n m,?_⟩
      unfold ZgV
      simp only[hw]
      rw[Zpy (ZjP Γ n (max n m) (Nat.le_max_left _ _)) _ _ _ _ _ hn]
      simp only[hb,cond_true]
      exact ZlX (ZjP Γ m (max n m) (Nat.le_max_right _ _)) l _ _ _ r hm
theorem Zzu (k:Nat):∀(c:C) (e:Env) (H:Zk) (r:Ex×Env×Zk),ZO Γ (evW Γ) itW k c e H=some r->∃n,ZO Γ (evN Γ n) (fun F=>Zcf F n) k c e H=some r:=by
 have up:∀(c:C) (e:Env) (H:Zk) (r:Ex×Env×Zk) (n m:Nat),n<=m->ZO Γ (evN Γ n) (fun F=>Zcf F n) k c e H=some r->ZO Γ (evN Γ m) (fun F=>Zcf F m) k c e H=some r:=
  fun c e H r n m h=>ZsZ (ZjP Γ n m h) (fun F G hFG vs H=>Zhy hFG n m h vs H) k c e H r
 intro c
 induction c with
 | skip=>intro e H r hr;exact⟨0,hr⟩
 | ret=>intro e H r hr;exact⟨0,hr⟩
 | exit id=>intro e H r hr;exact⟨0,hr⟩
 | seq a b iha ihb=>
  intro e H r hr
  unfold ZO at hr
  cases ha:ZO Γ (evW Γ) itW k a e H with
  | none=>simp[ha] at hr
  | some q=>
   rw[ha] at hr
   obtain⟨n,hn⟩:=iha e H q ha
   obtain⟨x,e1,H1⟩:=q
   cases x with
   | normal=>
    obtain⟨m,hm⟩:=ihb e1 H1 r hr
    refine⟨max n m,?_⟩
    unfold ZO
    rw[up a e H _ n _ (Nat.le_max_left _ _) hn]
    exact up b e1 H1 r m _ (Nat.le_max_right _ _) hm
   | exit id=>exact⟨n,by unfold ZO;rw[hn];exact hr⟩
   | ret=>exact⟨n,by unfold ZO;rw[hn];exact hr⟩
 | cond x a b iha ihb=>
  intro e H r hr
  unfold ZO at hr
  split at hr
  ·rename_i t ht
   cases t with
   | true=>obtain⟨n,hn⟩:=iha e H r hr;exact⟨n,by unfold ZO;simp only[ht];exact hn⟩
   | false=>obtain⟨n,hn⟩:=ihb e H r hr;exact⟨n,by unfold ZO;simp only[ht];exact hn⟩
  ·cases hr
 | block id a iha=>
  intro e H r hr
  unfold ZO at hr
  cases ha:ZO Γ (evW Γ) itW k a e H with
  | none=>simp[ha] at hr
  | some q=>rw[ha] at hr;obtain⟨n,hn⟩:=iha e H q ha;exact⟨n,by unfold ZO;rw[hn];exact hr⟩
 | loop live outs a iha=>
  intro e H r hr
  unfold ZO at hr
  cases hh:ZrH k (live.map e) H with
  | none=>simp[hh] at hr
  | some q=>
   obtain⟨vs,H1⟩:=q
   simp only[hh] at hr
   cases hit:itW (fun vs H=>ZfN k live outs (ZO Γ (evW Γ) itW k a (Zeq live vs) H)) vs H1 with
   | none=>simp[hit] at hr
   | some p=>
    rw[hit] at hr
    obtain⟨n,hn⟩:=(ZkE _ vs H1 p).1 hit
    have key:∀(n:Nat) (vs:List V) (H1:Zk) (p:Ex×List V×Zk),Zcf (fun vs H=>ZfN k live outs (ZO Γ (evW Γ) itW k a (Zeq live vs) H)) n vs H1=some p ->
      ∃m,Zcf (fun vs H=>ZfN k live outs (ZO Γ (evN Γ m) (fun F=>Zcf F m) k a (Zeq live vs) H)) n vs H1=some p:=by
     intro n
     induction n with
     | zero=>intro vs H1 p h;simp[Zcf] at h
     | succ n ih=>
      intro vs H1 p h
      unfold Zcf at h
      cases hc:ZO Γ (evW Γ) itW k a (Zeq live vs) H1 with
      | none=>simp[hc,ZfN] at h
      | some q=>
       obtain⟨m1,hm1⟩:=iha _ _ q hc
       simp only[hc] at h
       cases hr2:ZfN k live outs (some q) with
       | none=>simp[hr2] at h
       | some z=>
        rw[hr2] at h
        cases z with
        | done x vs' H'=>exact⟨m1,by unfold Zcf;simp only[hm1,hr2];exact h⟩
        | again vs' H'=>
         obtain⟨m2,hm2⟩:=ih vs' H' p h
         refine⟨max m1 m2,?_⟩
         unfold Zcf
         simp only[up a _ _ q m1 _ (Nat.le_max_left m1 m2) hm1,hr2]
         exact Zhy (fun vs H=>Zno (fun q hq=>up a _ _ q m2 _ (Nat.le_max_right m1 m2) hq)) n n (Nat.le_refl _) vs' H' p hm2
    obtain⟨m,hm⟩:=key n vs H1 p hn
    refine⟨max n m,?_⟩
    unfold ZO
    simp only[hh]
    rw[Zhy (fun vs H=>Zno (fun q hq=>up a _ _ q m _ (Nat.le_max_right n m) hq)) n _ (Nat.le_max_left n m) vs H1 p hm]
    exact hr
 | ops l=>
  intro e H r hr
  unfold ZO at hr
  cases ho:Zhm Γ (evW Γ) l e H with
  | none=>simp[ho] at hr
  | some q=>rw[ho] at hr;obtain⟨n,hn⟩:=ZqW l e H q ho;exact⟨n,by unfold ZO;rw[hn];exact hr⟩
 | draw l=>
  intro e H r hr
  unfold ZO at hr
  cases ho:ZgV Γ (evW Γ) [] l e H with
  | none=>simp[ho] at hr
  | some q=>rw[ho] at hr;obtain⟨n,hn⟩:=ZoJ l _ e H q ho;exact⟨n,by unfold ZO;rw[hn];exact hr⟩
theorem ZHH (f:Nat) (args:List V) (H:Zk):evW Γ f args H=ZiK Γ (evW Γ) itW f args H:=by
 have h1:Le (evW Γ f args H) (ZiK Γ (evW Γ) itW f args H):=by
  intro r hr
  obtain⟨n,hn⟩:=(Zkn Γ f args H r).1 hr
  cases n with
  | zero=>simp[evN] at hn
  | succ n=>exact Zu8 (fun a b c r h=>(Zkn Γ a b c r).2 ⟨n,h⟩) (fun F G h vs H r hr=>(ZkE G vs H r).2 ⟨n,Zhy h n n (Nat.le_refl _) vs H r hr⟩) f args H r hn
 have h2:Le (ZiK Γ (evW Γ) itW f args H) (evW Γ f args H):=by
  intro r hr
  unfold ZiK at hr
  cases hc:Γ.code f with
  | none=>simp[hc] at hr
  | some fn=>
   simp only[hc] at hr
   cases hn:Nat.beq args.length fn.nargs with
   | false=>simp[hn] at hr
   | true=>
    simp only[hn,cond_true] at hr
    cases hx:ZO Γ (evW Γ) itW H.length fn.body (Zdd 0 args) H with
    | none=>simp[hx] at hr
    | some q=>
     rw[hx] at hr
     obtain⟨n,hn2⟩:=Zzu _ _ _ _ q hx
     refine(Zkn Γ f args H r).2 ⟨n+1,?_⟩
     show ZiK Γ (evN Γ n) (fun F=>Zcf F n) f args H=some r
     unfold ZiK
     simp only[hc,hn,cond_true,hn2]
     exact hr
 cases h:evW Γ f args H with
 | some r=>exact(h1 r h).symm
 | none=>
  cases h':ZiK Γ (evW Γ) itW f args H with
  | none=>rfl
  | some r=>rw[h2 r h'] at h;cases h
end
end Go.Proofs.YtgcfmiajkbbmeaaGreatDoorE
namespace Go.Proofs.YtgcfmiajkbbmeaaGreatDoorE
open Go
open Go.IntKind (u64 i64 u32 i32 u8)
def Zjb (P:Program) (t:TypeId):Option Bool:=
 match P.underlying t with
 | some (.struct _)=>some true
 | some (.array _ _)=>some true
 | some _=>some false
 | none=>none
def Zhh (P:Program) (t:TypeId):Option Nat:=(P.info? t).map (·.size)
theorem Zg9 {P:Program}{w:World}{t:TypeId}{ag:Bool} (h:Zjb P t=some ag):(isAgg t).run P w = .ok ag w:=by
 unfold Zjb at h
 cases hu:P.underlying t with
 | none=>simp[hu] at h
 | some d=>
  rw[hu] at h
  have:=run_underlying (P:=P) (w:=w) hu
  simp only[isAgg,Sem.run_bind,this,Result.andThen_ok]
  cases d<;>simp_all
theorem Zfd {P:Program}{w:World}{t:TypeId}{n:Nat} (h:Zhh P t=some n):(sizeOf t).run P w = .ok n w:=by
 unfold Zhh at h
 cases hi:P.info? t with
 | none=>simp[hi] at h
 | some i=>
  simp only[hi,Option.map_some,Option.some.injEq] at h
  subst h
  simp[sizeOf,typeInfo,hi]
section
variable {R:RP} {w:World}
theorem ZeJ:∀(vs:List V) (us:List Value),Zay R w vs us->us.length=vs.length
 | [],us,h=>by simp only[Zay] at h;subst h;rfl
 | v :: vs,us,h=>by
  obtain⟨u,us',rfl,e1,e2⟩:=h
  simp[ZeJ vs us' e2]
theorem ZgR:∀(vs:List V) (us:List Value) (j:Nat) (v:V),Zay R w vs us->vs[j]? = some v->∃u,us[j]? = some u/\ZaK R w v u
 | [],us,j,v,_,hj=>by simp at hj
 | y :: vs,us,0,v,h,hj=>by
  obtain⟨u,us',rfl,e1,e2⟩:=h
  simp at hj;subst hj
  exact⟨u,by simp,e1⟩
 | y :: vs,us,j+1,v,h,hj=>by
  obtain⟨u,us',rfl,e1,e2⟩:=h
  simpa using ZgR vs us' j v e2 (by simpa using hj)
theorem Zlr:∀(vs:List V) (us:List Value),us.length=vs.length->(∀(j:Nat) v u,vs[j]? = some v->us[j]? = some u->ZaK R w v u)->Zay R w vs us
 | [],us,hl,_=>by simpa [Zay] using hl
 | y :: vs,[],hl,_=>by simp at hl
 | y :: vs,u :: us,hl,h=>⟨u,us,rfl,h 0 y u rfl rfl,Zlr vs us (by simpa using hl) fun j x v hx hv=>h (j+1) x v (by simpa using hx) (by simpa using hv)⟩
theorem ZlW:∀(l:List D),ZcD l=l.map V.d
 | []=>rfl
 | x :: l=>by simp[ZcD,ZlW l]
theorem Zdg:∀(l:List D) (us:List Value),Zay R w (ZcD l) us↔ZaI R.A1 R.A0 R.AL w l us
 | [],us=>Iff.rfl
 | x :: l,us=>by
  simp only[ZcD,Zay,ZaI]
  constructor
  ·rintro ⟨u,us',e,h1,h2⟩;exact⟨u,us',e,h1,(Zdg l us').1 h2⟩
  ·rintro ⟨u,us',e,h1,h2⟩;exact⟨u,us',e,h1,(Zdg l us').2 h2⟩
theorem ZnK:∀{vs:List V}{l:List D},ZmO vs=some l->vs=ZcD l
 | [],l,h=>by simp[ZmO] at h;subst h;rfl
 | v :: vs,l,h=>by
  cases v<;>simp only[ZmO] at h<;>try (cases h;done)
  rename_i x
  cases hr:ZmO vs with
  | none=>simp[hr] at h
  | some l'=>
   simp only[hr,Option.some.injEq] at h
   subst h
   rw[ZnK hr,ZcD]
theorem ZsX {vs:List V}{us:List Value} (h:Zay R w vs us):ZaK R w (Zxq vs) (.agg us.toArray):=by
 unfold Zxq
 cases ha:ZmO vs with
 | none=>exact⟨us,rfl,h⟩
 | some l=>
  rw[ZnK ha,Zdg] at h
  exact⟨us,rfl,h⟩
theorem ZE3 {vs:List V}{us:List Value} (h:Zay R w vs us):ZaK R w (Zw9 vs) (.tuple us.toArray):=by
 unfold Zw9
 cases ha:ZmO vs with
 | none=>exact⟨us,rfl,h⟩
 | some l=>
  rw[ZnK ha,Zdg] at h
  exact⟨us,rfl,h⟩
theorem ZiG {v:V}{u:Value} (h:ZaK R w v u) (hv:v.okb=true):Zay R w v.cells u.cells.toList:=by
 cases v with
 | d x=>
  cases x with
  | agg cs=>
   obtain⟨us,rfl,h⟩:=h
   simpa [V.cells,Value.cells] using (Zdg cs us).2 h
  | tup cs=>simp[V.okb] at hv
  | bool b=>simp only[ZaK,RP.den,Za3] at h;subst h;exact⟨_,[],rfl,by simp[ZaK,RP.den,Za3],rfl⟩
  | int k n=>simp only[ZaK,RP.den,Za3] at h;subst h;exact⟨_,[],rfl,by simp[ZaK,RP.den,Za3],rfl⟩
  | str s=>simp only[ZaK,RP.den,Za3] at h;subst h;exact⟨_,[],rfl,by simp[ZaK,RP.den,Za3],rfl⟩
  | nilfn=>simp only[ZaK,RP.den,Za3] at h;subst h;exact⟨_,[],rfl,by simp[ZaK,RP.den,Za3],rfl⟩
  | nilp=>simp only[ZaK,RP.den,Za3] at h;subst h;exact⟨_,[],rfl,by simp[ZaK,RP.den,Za3],rfl⟩
  | nilI=>simp only[ZaK,RP.den,Za3] at h;subst h;exact⟨_,[],rfl,by simp[ZaK,RP.den,Za3],rfl⟩
  | list own xs=>
   have h':=h
   obtain⟨a,len,cap,rfl,_⟩:=h'
   exact⟨_,[],rfl,h,rfl⟩
  | fn f caps=>
   have h':=h
   obtain⟨us,rfl,_⟩:=h'
   exact⟨_,[],Ztr _ _,h,rfl⟩
  | rptr cs=>
   have h':=h
   obtain⟨b,off,rfl,_⟩:=h'
   exact⟨_,[],rfl,h,rfl⟩
  | iface t v=>
   have h':=h
   obtain⟨u',rfl,_⟩:=h'
   exact⟨_,[],rfl,h,rfl⟩
 | bad=>simp[V.okb] at hv
 | tup cs=>simp[V.okb] at hv
 | agg cs=>
  obtain⟨us,rfl,h⟩:=h
  simpa [V.cells,Value.cells] using h
 | nilsl sz=>
  have h':=h
  obtain⟨a,rfl⟩:=h'
  exact⟨_,[],rfl,h,rfl⟩
 | fn f caps=>
  have h':=h
  obtain⟨us,rfl,_⟩:=h'
  exact⟨_,[],Ztr _ _,h,rfl⟩
 | ptr b o=>
  have h':=h
  obtain⟨c,_,rfl⟩:=h'
  exact⟨_,[],rfl,h,rfl⟩
 | eptr b sz i k=>
  have h':=h
  obtain⟨c,_,rfl⟩:=h'
  exact⟨_,[],rfl,h,rfl⟩
 | sl b sz=>
  have h':=h
  obtain⟨⟨a,n,c,rfl⟩,_⟩:=h'
  exact⟨_,[],rfl,h,rfl⟩
 | slp b sz o l=>
  have h':=h
  obtain⟨⟨a,n,c,rfl⟩,_⟩:=h'
  exact⟨_,[],rfl,h,rfl⟩
 | mp b=>
  have h':=h
  obtain⟨⟨a,rfl⟩,_⟩:=h'
  exact⟨_,[],rfl,h,rfl⟩
end
structure Pre (G:Za8) (R:RP) (w:World) (e:Env) (a:Act) (Hm:Zk):Prop where
 ok:R.OK w
 g:GOK G R w
 env:Zih R w e a
 le:∀b blk,nth Hm b=some blk->blk ≠ .dead->nth R.H b=some blk
section
variable {P:Program} {G:Za8} {R:RP} {w:World} {e:Env} {a:Act} {Hm H':Zk} {nid:Nat} {o:Oper}
theorem Pre.opd (pre:Pre G R w e a Hm) {x:Operand}{y:Opd} (h:ZK G x y=true):ZaK R w (y.val e) (a.eval x):=Zpg pre.g pre.env h
theorem Pre.opds (pre:Pre G R w e a Hm) {xs:List Operand}{ys:List Opd} (h:Zeu G xs ys=true):Zay R w (Zgl e ys) (xs.map a.eval):=Zvw pre.g pre.env h
theorem ZbG {s:Sem Value}{u:Value}{w':World}{Po:Value->World->Prop} (hx:execOp a.eval o=(do pure (Next.value (<- s)))) (hr:s.run P w = .ok u w') (hp:Po u w'):ZcG P o a w Po:=
 .val (by rw[hx];simp[hr]) hp
theorem ZGV (pre:Pre G R w e a Hm) {x:Operand}{y:Opd} (hop:o.op = .move x∨o.op = .assign x) (hx:ZK G x y=true) (hp:Z3 R.H [] nid [] H') :
  ZcG P o a w (Post R w nid 0 H' (y.val e)):=by
 refine .val (u:=a.eval x) (w':=w) ?_ (Post.stay pre.ok hp (pre.opd hx))
 rcases hop with h | h<;>(unfold execOp;rw[h];rfl)
theorem ZIg (pre:Pre G R w e a Hm) {c x y:Operand}{c' x' y':Opd}{t:Bool} (hop:o.op = .pick c x y) (hc:ZK G c c'=true) (hx:ZK G x x'=true) (hy:ZK G y y'=true)
  (ht:c'.val e = .d (.bool t)) (hp:Z3 R.H [] nid [] H'):ZcG P o a w (Post R w nid 0 H' (bif t then x'.val e else y'.val e)):=by
 have hcv:=pre.opd hc
 rw[ht] at hcv
 simp only[ZaK,RP.den,Za3] at hcv
 refine .val (u:=if t=true then a.eval x else a.eval y) (w':=w) ?_ (Post.stay pre.ok hp ?_)
 ·unfold execOp;rw[hop];simp[hcv,asBool]
 ·cases t
  ·exact pre.opd hy
  ·exact pre.opd hx
theorem ZrI {t:TypeId}{x:Addr}{u:Value} (h:Zjb P t=some false) (hc:w.cell? x=some u):(loadVar t x).run P w = .ok u w:=by
 unfold loadVar
 simp only[Sem.run_bind,Zg9 h,Result.andThen_ok,Bool.false_eq_true,if_false,run_load,hc]
theorem ZrR {t:TypeId}{x:Addr}{us:List Value} (h:Zjb P t=some true) (hs:Zhh P t=some us.length) (hc:∀(j:Nat) v,us[j]? = some v->w.cell? (x.add j)=some v) :
  (loadVar t x).run P w = .ok (.agg us.toArray) w:=by
 unfold loadVar
 simp only[Sem.run_bind,Zg9 h,Zfd hs,Result.andThen_ok,if_true,run_loadCells_list w x us hc,Sem.run_pure]
theorem Zmv {n:Nat}{ag:Bool}{cs:List V}{v:V}{t:TypeId}{b off:Nat} (hc:∀(j:Nat) v,cs[j]? = some v->∃u,w.cell? ⟨b,off+j,none⟩=some u/\ZaK R w v u)
  (hag:Zjb P t=some ag) (hsz:Zhh P t=some n) (h:Zf9 n ag cs=some v):∃u,(loadVar t ⟨b,off,none⟩).run P w = .ok u w/\ZaK R w v u:=by
 unfold Zf9 at h
 cases ag with
 | false=>
  simp only[cond_false] at h
  obtain⟨u,h1,h2⟩:=hc 0 v (by rw[<- List.head?_eq_getElem?];exact h)
  exact⟨u,ZrI hag (by simpa using h1),h2⟩
 | true=>
  simp only[cond_true] at h
  cases hl:Nat.beq (cs.take n).length n with
  | false=>rw[hl] at h;cases h
  | true=>
   rw[hl] at h
   simp only[cond_true,Option.some.injEq] at h
   subst h
   have hl':(cs.take n).length=n:=Nat.eq_of_beq_eq_true hl
   let us:List Value:=(List.range n).map fun j=>(w.cell? ⟨b,off+j,none⟩).getD undef
   have hus:us.length=n:=by simp[us]
   have key:∀(j:Nat) v,(cs.take n)[j]? = some v->∃u,us[j]? = some u/\w.cell? ⟨b,off+j,none⟩=some u/\ZaK R w v u:=by
    intro j v hj
    have hjn:j<n:=by have:=(List.getElem?_eq_some_iff.1 hj).1;omega
    obtain⟨u,h1,h2⟩:=hc j v (by rw[List.getElem?_take] at hj;simpa [hjn] using hj)
    exact⟨u,by simp[us,hjn,h1],h1,h2⟩
   refine⟨.agg us.toArray,ZrR hag (by rw[hus];exact hsz) ?_,ZsX (Zlr _ _ (by omega) ?_)⟩
   ·intro j v hv
    have hjn:j<n:=by have:=(List.getElem?_eq_some_iff.1 hv).1;omega
    obtain⟨v0,hv0⟩:∃v0,(cs.take n)[j]? = some v0:=⟨_,List.getElem?_eq_getElem (by omega)⟩
    obtain⟨u,f1,f2,_⟩:=key j v0 hv0
    rw[hv] at f1;cases f1
    rw[Addr.add_lit];exact f2
   ·intro j v u hv hu
    obtain⟨u',f1,_,f3⟩:=key j v hv
    rw[hu] at f1;cases f1;exact f3
theorem Zcr {b off:Nat}{cs:Array Value}{el:TypeId}{fr:Nat×Nat} (h:w.heap[b]? = some (.cells cs el fr)):w.cell? ⟨b,off,none⟩=cs[off]?:=by
 simp[World.cell?,h]
theorem ZAp (pre:Pre G R w e a Hm) {n:Nat}{ag:Bool}{t:TypeId}{x v:V}{u0:Value} (hag:Zjb P t=some ag) (hsz:Zhh P t=some n) (hx:ZaK R w x u0) (h:Zdp Hm n ag x=some v) :
  ∃u,(Instr.loadAt t u0).run P w = .ok u w/\ZaK R w v u:=by
 unfold Zdp at h
 cases x with
 | ptr b o=>
  dsimp only at h
  cases hb:nth Hm b with
  | none=>simp[hb] at h
  | some blk=>
   rw[hb] at h
   cases blk<;>try (cases h;done)
   rename_i cs
   have hb':=pre.le b _ hb (by simp)
   obtain⟨c,h1,rfl⟩:=hx
   rw[ZW] at hb'
   obtain⟨c',cs',el,fr,e1,e2,e3,e4,e5⟩:=pre.ok.blk b _ _ hb' h1
   cases e1
   obtain⟨u,f1,f2⟩:=Zmv (P:=P) (cs:=cs.drop o) (b:=c) (off:=o) (by
    intro j v hj
    obtain⟨u,g1,g2⟩:=e5 (o+j) v (by simpa using hj)
    exact⟨u,by rw[Zcr e2];exact g1,g2⟩) hag hsz h
   exact⟨u,by simpa [Instr.loadAt,Instr.sureAddr] using f1,f2⟩
 | eptr b sz i k=>
  dsimp only at h
  cases hb:nth Hm b with
  | none=>simp[hb] at h
  | some blk=>
   rw[hb] at h
   cases blk<;>try (cases h;done)
   rename_i sz' xs
   dsimp only at h
   cases hs:Nat.beq sz sz' with
   | false=>simp[hs] at h
   | true=>
    obtain rfl:=Nat.eq_of_beq_eq_true hs
    simp only[hs,cond_true] at h
    cases hxi:nth xs i with
    | none=>simp[hxi] at h
    | some y=>
     simp only[hxi] at h
     have hb':=pre.le b _ hb (by simp)
     obtain⟨c,h1,rfl⟩:=hx
     rw[ZW] at hb' hxi
     obtain⟨e0,e1,e2⟩:=pre.ok.blk b _ _ hb' h1
     rcases e2 with⟨e2,_⟩ | ⟨c',cs,el,e2,e3,e4,e5⟩
     ·cases e2
     ·cases e2
      obtain⟨uy,f1,f2,f3⟩:=e5 i y hxi
      have hyb:(V.d y).okb=true∨∃ts,y = .tup ts:=by cases y<;>simp[V.okb]
      rcases hyb with hyb | ⟨ts,rfl⟩
      ·have hcs:=ZiG (R:=R) (v:=.d y) f1 hyb
       have hVc:(V.d y).cells=ZcD y.cells:=by cases y<;>rfl
       rw[hVc] at hcs
       obtain⟨u,g1,g2⟩:=Zmv (P:=P) (cs:=ZcD (y.cells.drop k)) (b:=c) (off:=i*sz+k) (by
        intro j v hj
        have hj':(ZcD y.cells)[k+j]? = some v:=by
         rw[ZlW,List.getElem?_map] at hj ⊢
         simpa using hj
        obtain⟨u,p1,p2⟩:=ZgR _ _ _ _ hcs hj'
        refine⟨u,?_,p2⟩
        rw[Zcr e3,Nat.add_assoc]
        exact f3 (k+j) u (by simpa using p1)) hag hsz h
       exact⟨u,by simpa [Instr.loadAt,Instr.sureAddr] using g1,g2⟩
      ·have f1':=f1
       obtain⟨us,rfl,_⟩:=f1'
       obtain⟨u,g1,g2⟩:=Zmv (P:=P) (cs:=ZcD (D.cells (.tup ts) |>.drop k)) (b:=c) (off:=i*sz+k) (by
        intro j v hj
        cases k with
        | zero=>
         cases j with
         | zero=>
          simp[D.cells,ZcD] at hj
          subst hj
          refine⟨.tuple us.toArray,?_,f1⟩
          rw[Zcr e3]
          have:=f3 0 (.tuple us.toArray) rfl
          simpa using this
         | succ j=>simp[D.cells,ZcD] at hj
        | succ k=>simp[D.cells,ZcD] at hj) hag hsz h
       exact⟨u,by simpa [Instr.loadAt,Instr.sureAddr] using g1,g2⟩
 | d y=>
  cases y<;>try (cases h;done)
  rename_i cs
  dsimp only at h
  obtain⟨b,off,rfl,h1,h2,h3⟩:=hx
  obtain⟨u,g1,g2⟩:=Zmv (P:=P) (cs:=ZcD cs) (b:=b) (off:=off) (by
   intro j v hj
   rw[ZlW,List.getElem?_map] at hj
   cases hcj:cs[j]? with
   | none=>simp[hcj] at hj
   | some x=>
    simp[hcj] at hj
    subst hj
    obtain⟨u,p1,p2⟩:=Zm7 cs off j x h3 hcj
    exact⟨u,p1,p2⟩) hag hsz h
  exact⟨u,by simpa [Instr.loadAt,Instr.sureAddr] using g1,g2⟩
 | bad=>cases h
 | sl b sz=>cases h
 | slp b sz o l=>cases h
 | nilsl sz=>cases h
 | agg cs=>cases h
 | tup cs=>cases h
 | fn f cs=>cases h
 | mp b=>cases h
theorem ZHl (pre:Pre G R w e a Hm) {n:Nat}{ag:Bool}{t:TypeId}{x:Operand}{y:Opd}{v:V} (hop:o.op = .load t x) (hx:ZK G x y=true) (hag:Zjb P t=some ag) (hsz:Zhh P t=some n)
  (h:Zdp Hm n ag (y.val e)=some v) (hp:Z3 R.H [] nid [] H'):ZcG P o a w (Post R w nid 0 H' v):=by
 obtain⟨u,h1,h2⟩:=ZAp pre hag hsz (pre.opd hx) h
 exact ZbG (s:=Instr.loadAt t (a.eval x)) (by unfold execOp;rw[hop]) h1 (Post.stay pre.ok hp h2)
def Zme (P:Program) (s:TypeId) (f:Nat):Option (Nat×TypeId):=
 match P.underlying s with
 | some (.struct fields)=>(fields[f]?).map fun x=>(x.offset,x.type)
 | _=>none
theorem ZpN {s:TypeId}{f off:Nat}{t:TypeId} (h:Zme P s f=some (off,t)):∃fields fd,P.underlying s=some (.struct fields)/\fields[f]? = some fd/\fd.offset=off/\fd.type=t:=by
 unfold Zme at h
 split at h
 ·rename_i fields hu
  cases hf:fields[f]? with
  | none=>simp[hf] at h
  | some fd=>
   simp only[hf,Option.map_some,Option.some.injEq,Prod.mk.injEq] at h
   exact⟨fields,fd,hu,hf,h.1,h.2⟩
 ·cases h
theorem ZxG {s:TypeId}{f off n:Nat}{t:TypeId}{x:Addr} (h:Zme P s f=some (off,t)) (hn:Zhh P t=some n) (h0:n≠0) :
  (Instr.fieldAt s (.pointer (some x)) f).run P w = .ok (.pointer (some (x.add off))) w:=by
 obtain⟨fields,fd,h1,h2,rfl,rfl⟩:=ZpN h
 simp[Instr.fieldAt,run_underlying h1,h2,Instr.sureAddr,fieldPlace,Zfd hn,h0]
theorem Zxs (pre:Pre G R w e a Hm) {off:Nat}{x v:V}{u0:Value} (hx:ZaK R w x u0) (h:Zmi Hm off x=some v):∃ad,u0 = .pointer (some ad)/\ZaK R w v (.pointer (some (ad.add off))):=by
 unfold Zmi at h
 cases x<;>try (cases h;done)
 ·rename_i y
  cases y<;>try (cases h;done)
  rename_i cs
  simp only[Option.some.injEq] at h
  subst h
  obtain⟨b,of,rfl,h1,h2,h3⟩:=hx
  exact⟨_,rfl,b,of+off,by rw[Addr.add_lit],h1,h2,ZuF cs of off h3⟩
 ·rename_i b o
  simp only[Option.some.injEq] at h
  subst h
  obtain⟨c,h1,rfl⟩:=hx
  exact⟨_,rfl,c,h1,by rw[Addr.add_lit]⟩
 ·rename_i b sz i k
  simp only[Option.some.injEq] at h
  subst h
  obtain⟨c,h1,rfl⟩:=hx
  exact⟨_,rfl,c,h1,by rw[Addr.add_lit,Nat.add_assoc]⟩
theorem ZGw (pre:Pre G R w e a Hm) {s t:TypeId}{f off n:Nat}{x:Operand}{y:Opd}{v:V} (hop:o.op = .fieldAddr s x f) (hx:ZK G x y=true) (hf:Zme P s f=some (off,t)) (hn:Zhh P t=some n) (h0:n≠0)
  (h:Zmi Hm off (y.val e)=some v) (hp:Z3 R.H [] nid [] H'):ZcG P o a w (Post R w nid 0 H' v):=by
 obtain⟨ad,h1,h2⟩:=Zxs pre (pre.opd hx) h
 exact ZbG (s:=Instr.fieldAt s (a.eval x) f) (by unfold execOp;rw[hop]) (by rw[h1];exact ZxG hf hn h0) (Post.stay pre.ok hp h2)
theorem Zmn {k:IntKind}{n:Int}{u:Value} (h:ZaK R w (.d (.int k n)) u):u = .int k n:=h
theorem Zwg {b:Bool}{u:Value} (h:ZaK R w (.d (.bool b)) u):u = .bool b:=h
theorem ZGv {op:BinOp}{x y:V}{r:D}{u1 u2:Value} (t:TypeId) (ox oy:Operand) (hx:ZaK R w x u1) (hy:ZaK R w y u2) (h:Zo3 op x y=some r) :
  ∃u,((do eqGuard op t ox oy u1 u2;binOp op t u1 u2:Sem Value)).run P w = .ok u w/\R.den w r u:=by
 unfold Zo3 at h
 split at h
 ·rename_i i a1 j b1
  cases Zmn hx;cases Zmn hy
  unfold shI at h
  cases hb:decide (b1<0) with
  | true=>simp[hb] at h
  | false=>
   simp only[hb,cond_false,Option.some.injEq] at h
   subst h
   have hb':¬b1<0:=of_decide_eq_false hb
   refine⟨_,?_,rfl⟩
   simp[eqGuard,binOp,Op.shift,hb']
 ·rename_i i a1 j b1
  cases Zmn hx;cases Zmn hy
  unfold shI at h
  cases hb:decide (b1<0) with
  | true=>simp[hb] at h
  | false=>
   simp only[hb,cond_false,Option.some.injEq] at h
   subst h
   have hb':¬b1<0:=of_decide_eq_false hb
   refine⟨_,?_,rfl⟩
   simp[eqGuard,binOp,Op.shift,hb']
 ·rename_i op' i a1 j b1 hn1 hn2
  cases Zmn hx;cases Zmn hy
  cases hk:i==j with
  | false=>simp[hk] at h
  | true=>
   obtain rfl:i=j:=by simpa using hk
   simp only[hk,cond_true] at h
   cases op<;>simp only[ZGg,Option.some.injEq] at h
   case shl=>exact(hn1 rfl).elim
   case shr=>exact(hn2 rfl).elim
   case andNot=>cases h
   case quo=>
    cases hb:b1==0 with
    | true=>simp[hb] at h
    | false=>
     simp only[hb,cond_false,Option.some.injEq] at h
     subst h
     exact⟨_,by simp[eqGuard,binOp,Op.intDiv,show ¬b1=0 by simpa using hb],rfl⟩
   case rem=>
    cases hb:b1==0 with
    | true=>simp[hb] at h
    | false=>
     simp only[hb,cond_false,Option.some.injEq] at h
     subst h
     exact⟨_,by simp[eqGuard,binOp,Op.intDiv,show ¬b1=0 by simpa using hb],rfl⟩
   all_goals (subst h;exact⟨_,by simp[eqGuard,binOp,Op.intArith,Op.intBits,Op.intCmp],rfl⟩)
 ·cases h
theorem ZIS (pre:Pre G R w e a Hm) {op:BinOp}{t t':TypeId}{x y:Operand}{x' y':Opd}{r:D} (hop:o.op = .binOp op t x y t') (hx:ZK G x x'=true) (hy:ZK G y y'=true)
  (h:Zo3 op (x'.val e) (y'.val e)=some r) (hp:Z3 R.H [] nid [] H'):ZcG P o a w (Post R w nid 0 H' (.d r)):=by
 obtain⟨u,h1,h2⟩:=ZGv (P:=P) t x y (pre.opd hx) (pre.opd hy) h
 exact ZbG (s:=do eqGuard op t x y (a.eval x) (a.eval y);binOp op t (a.eval x) (a.eval y)) (by unfold execOp;rw[hop]) h1 (Post.stay pre.ok hp h2)
theorem ZLq (pre:Pre G R w e a Hm) {op:UnOp}{t:TypeId}{x:Operand}{x':Opd}{r:D} (hop:o.op = .unOp op t x) (hx:ZK G x x'=true)
  (h:unE op (x'.val e)=some r) (hp:Z3 R.H [] nid [] H'):ZcG P o a w (Post R w nid 0 H' (.d r)):=by
 have hv:=pre.opd hx
 unfold unE at h
 split at h
 ·rename_i b hb
  rw[hb] at hv
  simp only[Option.some.injEq] at h
  subst h
  exact ZbG (s:=Op.unary .not (a.eval x)) (u:=.bool !b) (by unfold execOp;rw[hop]) (by rw[Zwg hv];rfl) (Post.stay pre.ok hp rfl)
 ·rename_i k n hb
  rw[hb] at hv
  simp only[Option.some.injEq] at h
  subst h
  exact ZbG (s:=Op.unary .neg (a.eval x)) (u:=.int k (k.wrap (0-n))) (by unfold execOp;rw[hop]) (by rw[Zmn hv];rfl) (Post.stay pre.ok hp rfl)
 ·cases h
theorem ZHK (pre:Pre G R w e a Hm) {s t:TypeId}{k k0:IntKind}{n:Int}{ds:TypeDesc}{x:Operand}{x':Opd} (hop:o.op = .convert s t x) (hx:ZK G x x'=true) (hs:P.underlying s=some ds) (ht:P.underlying t=some (.int k))
  (h:x'.val e = .d (.int k0 n)) (hp:Z3 R.H [] nid [] H'):ZcG P o a w (Post R w nid 0 H' (.d (.int k (k.wrap n)))):=by
 have hv:=pre.opd hx
 rw[h] at hv
 refine ZbG (s:=convert s t (a.eval x)) (u:=.int k (k.wrap n)) (by unfold execOp;rw[hop]) ?_ (Post.stay pre.ok hp rfl)
 rw[Zmn hv]
 simp[convert,run_underlying hs,run_underlying ht,Conv.intToInt]
theorem ZvA (pre:Pre G R w e a Hm) {x:Operand}{x':Opd}{i:Nat}{v:V} (hop:o.op = .extract x i) (hx:ZK G x x'=true)
  (h:(∃vs,x'.val e = .tup vs/\nth vs i=some v)∨(∃vs y,x'.val e = .d (.tup vs)/\nth vs i=some y/\v = .d y)) (hp:Z3 R.H [] nid [] H'):ZcG P o a w (Post R w nid 0 H' v):=by
 have hv:=pre.opd hx
 rcases h with⟨vs,h1,h2⟩ | ⟨vs,y,h1,h2,rfl⟩
 ·rw[h1] at hv
  obtain⟨us,h3,h4⟩:=hv
  rw[ZW] at h2
  obtain⟨u,h5,h6⟩:=ZgR vs us i v h4 h2
  exact ZbG (s:=Instr.extract (a.eval x) i) (u:=u) (by unfold execOp;rw[hop]) (by rw[h3];simp[Instr.extract,h5]) (Post.stay pre.ok hp h6)
 ·rw[h1] at hv
  obtain⟨us,h3,h4⟩:=hv
  rw[ZW] at h2
  obtain⟨u,h5,h6⟩:=Zhj vs us i y h4 h2
  exact ZbG (s:=Instr.extract (a.eval x) i) (u:=u) (by unfold execOp;rw[hop]) (by rw[h3];simp[Instr.extract,h5]) (Post.stay pre.ok hp h6)
theorem ZH0 (pre:Pre G R w e a Hm) {f:Nat}{first caps:Array Operand}{ys:List Opd} (hop:o.op = .makeFunc (.func f) first caps) (hlt:isU f=true) (hf:first = #[]) (hx:Zeu G caps.toList ys=true) (hp:Z3 R.H [] nid [] H') :
  ZcG P o a w (Post R w nid 0 H' (match ys with | []=>.d (.fn f []) | ys=>.fn f (Zgl e ys))):=by
 subst hf
 have hv:=pre.opds hx
 refine ZbG (s:=Instr.makeFunc (.func f) (#[].map a.eval) (caps.map a.eval)) (u:=.func (.func f) #[] (caps.toList.map a.eval).toArray) (by unfold execOp;rw[hop]) (by
  have hc:caps.map a.eval=(caps.toList.map a.eval).toArray:=by apply Array.ext';simp
  rw[hc];simp[Instr.makeFunc]) (Post.stay pre.ok hp ?_)
 cases ys with
 | nil=>
  simp only[Zgl,Zay] at hv
  exact⟨[],by rw[Zr2 hlt];simp[hv],rfl⟩
 | cons y ys=>exact⟨_,(Zr2 hlt _).symm,hv⟩
theorem ZGk (pre:Pre G R w e a Hm) {f:Nat}{first caps:Array Operand}{y:Opd}{ys:List Opd} (hop:o.op = .makeFunc (.func f) first caps) (hb:Nat.beq (1000000+f) 2000000=false) (hf:caps = #[]) (hx:Zeu G first.toList (y :: ys)=true) (hp:Z3 R.H [] nid [] H') :
  ZcG P o a w (Post R w nid 0 H' (.fn (1000000+f) (Zgl e (y :: ys)))):=by
 subst hf
 have hv:=pre.opds hx
 refine ZbG (s:=Instr.makeFunc (.func f) (first.map a.eval) (#[].map a.eval)) (u:=.func (.func f) (first.toList.map a.eval).toArray #[]) (by unfold execOp;rw[hop]) (by
  have hc:first.map a.eval=(first.toList.map a.eval).toArray:=by apply Array.ext';simp
  rw[hc];simp[Instr.makeFunc]) (Post.stay pre.ok hp ?_)
 refine⟨_,?_,hv⟩
 unfold Zk1
 have h1:isU (1000000+f)=false:=by
  cases h:isU (1000000+f) with
  | false=>rfl
  | true=>exact absurd (Nat.le_of_ble_eq_true (show Nat.ble (1000000+f+1) 1000000=true from h)) (by omega)
 have h2:unB (1000000+f)=f:=Nat.add_sub_cancel_left 1000000 f
 rw[h1,hb,h2]
 rfl
theorem ZGa (pre:Pre G R w e a Hm) {first caps:Array Operand}{y:Opd}{ys:List Opd} (hop:o.op = .makeFunc (.method ZkP) first caps) (hf:caps = #[]) (hx:Zeu G first.toList (y :: ys)=true) (hp:Z3 R.H [] nid [] H') :
  ZcG P o a w (Post R w nid 0 H' (.fn 2000000 (Zgl e (y :: ys)))):=by
 subst hf
 have hv:=pre.opds hx
 refine ZbG (s:=Instr.makeFunc (.method ZkP) (first.map a.eval) (#[].map a.eval)) (u:=.func (.method ZkP) (first.toList.map a.eval).toArray #[]) (by unfold execOp;rw[hop]) (by
  have hc:first.map a.eval=(first.toList.map a.eval).toArray:=by apply Array.ext';simp
  rw[hc];simp[Instr.makeFunc]) (Post.stay pre.ok hp ?_)
 exact⟨_,rfl,hv⟩
end
end Go.Proofs.YtgcfmiajkbbmeaaGreatDoorE
namespace Go.Proofs.YtgcfmiajkbbmeaaGreatDoorE
open Go
open Go.IntKind (u64 i64 u32 i32 u8)
section
variable {P:Program} {G:Za8} {R:RP} {w:World} {e:Env} {a:Act} {Hm H':Zk} {nid:Nat} {o:Oper}
theorem Zwr {n:Nat}{ag:Bool}{cs:List V}{us:List Value}{v:V}{t:TypeId}{off:Nat} (hd:Zay R w cs us) (hag:Zjb P t=some ag) (hsz:Zhh P t=some n) (h:Zf9 n ag (cs.drop off)=some v) :
  ∃u,(part t us.toArray off).run P w = .ok u w/\ZaK R w v u:=by
 unfold Zf9 at h
 cases ag with
 | false=>
  simp only[cond_false] at h
  rw[List.head?_eq_getElem?,List.getElem?_drop] at h
  obtain⟨u,h1,h2⟩:=ZgR cs us _ v hd h
  refine⟨u,?_,h2⟩
  simp only[Nat.add_zero] at h1
  simp[part,Zg9 hag,h1]
 | true=>
  simp only[cond_true] at h
  cases hl:Nat.beq ((cs.drop off).take n).length n with
  | false=>rw[hl] at h;cases h
  | true=>
   rw[hl] at h
   simp only[cond_true,Option.some.injEq] at h
   subst h
   have hl':((cs.drop off).take n).length=n:=Nat.eq_of_beq_eq_true hl
   refine⟨.agg (((us.drop off).take n).toArray),?_,ZsX (Zlr _ _ ?_ ?_)⟩
   ·simp[part,Zg9 hag,Zfd hsz,List.drop_take]
   ·have:=ZeJ cs us hd
    simp only[List.length_take,List.length_drop] at hl' ⊢
    omega
   ·intro j v u hv hu
    have hj:j<n:=by have:=(List.getElem?_eq_some_iff.1 hv).1;omega
    rw[List.getElem?_take,if_pos hj,List.getElem?_drop] at hv hu
    obtain⟨u',g1,g2⟩:=ZgR cs us _ v hd hv
    rw[hu] at g1;cases g1;exact g2
theorem ZzH (pre:Pre G R w e a Hm) {s t:TypeId}{f off n:Nat}{ag:Bool}{x:Operand}{y:Opd}{v:V} (hop:o.op = .field s x f) (hx:ZK G x y=true) (hf:Zme P s f=some (off,t)) (hag:Zjb P t=some ag) (hsz:Zhh P t=some n)
  (h:(∃cs,y.val e = .d (.agg cs)/\Zf9 n ag (ZcD (cs.drop off))=some v)∨(∃cs,y.val e = .agg cs/\Zf9 n ag (cs.drop off)=some v)) (hp:Z3 R.H [] nid [] H'):ZcG P o a w (Post R w nid 0 H' v):=by
 obtain⟨fields,fd,h1,h2,rfl,rfl⟩:=ZpN hf
 have hv:=pre.opd hx
 have key:∃us:List Value,a.eval x = .agg us.toArray/\∃u,(part fd.type us.toArray fd.offset).run P w = .ok u w/\ZaK R w v u:=by
  rcases h with⟨cs,h3,h4⟩ | ⟨cs,h3,h4⟩
  ·rw[h3] at hv
   obtain⟨us,h5,h6⟩:=hv
   refine⟨us,h5,Zwr (cs:=ZcD cs) ((Zdg cs us).2 h6) hag hsz ?_⟩
   rw[ZlW] at h4 ⊢
   rw[<- List.map_drop];exact h4
  ·rw[h3] at hv
   obtain⟨us,h5,h6⟩:=hv
   exact⟨us,h5,Zwr h6 hag hsz h4⟩
 obtain⟨us,h5,u,h6,h7⟩:=key
 exact ZbG (s:=Instr.field s (a.eval x) f) (by unfold execOp;rw[hop]) (by rw[h5];simp[Instr.field,run_underlying h1,h2,asAgg,h6]) (Post.stay pre.ok hp h7)
def Zvh (P:Program) (t:TypeId):Option (Nat×TypeId):=match P.underlying t with | some (.array n e)=>some (n,e) | _=>none
theorem Zt1 {t el:TypeId}{n:Nat} (h:Zvh P t=some (n,el)):P.underlying t=some (.array n el):=by
 unfold Zvh at h;split at h<;>simp_all
def ZrT (P:Program) (t:TypeId):Option TypeId:=match P.underlying t with | some (.slice e)=>some e | _=>none
theorem ZnI {t el:TypeId} (h:ZrT P t=some el):P.underlying t=some (.slice el):=by
 unfold ZrT at h;split at h<;>simp_all
theorem ZFx (pre:Pre G R w e a Hm) {t el:TypeId}{len n:Nat}{ag:Bool}{x i:Operand}{y j:Opd}{v:V} (hop:o.op = .index t x i) (hx:ZK G x y=true) (hi:ZK G i j=true) (ht:Zvh P t=some (len,el)) (hag:Zjb P el=some ag) (hsz:Zhh P el=some n)
  (h:Zo9 len n ag (y.val e) (j.val e)=some v) (hp:Z3 R.H [] nid [] H'):ZcG P o a w (Post R w nid 0 H' v):=by
 have hv:=pre.opd hx
 have hiv:=pre.opd hi
 unfold Zo9 at h
 split at h
 ·rename_i k m hj
  rw[hj] at hiv
  cases hc:((y.val e).isAggV&&(decide (0<=m)&&decide (m<len))) with
  | false=>rw[hc] at h;cases h
  | true=>
   rw[hc] at h
   simp only[cond_true] at h
   simp only[Bool.and_eq_true,decide_eq_true_eq] at hc
   obtain⟨hav,hc⟩:=hc
   have hagg:(∃cs,y.val e = .d (.agg cs))∨∃cs,y.val e = .agg cs:=by
    unfold V.isAggV at hav
    split at hav
    ·rename_i cs hv';exact .inl ⟨cs,hv'⟩
    ·rename_i cs hv';exact .inr ⟨cs,hv'⟩
    ·cases hav
   have hb:(y.val e).okb=true:=by rcases hagg with⟨cs,h3⟩ | ⟨cs,h3⟩<;>rw[h3]<;>rfl
   have hcs:=ZiG hv hb
   have hag':∃us,a.eval x = .agg us:=by
    rcases hagg with⟨cs,h3⟩ | ⟨cs,h3⟩<;>(rw[h3] at hv;obtain⟨us,h5,_⟩:=hv;exact⟨_,h5⟩)
   obtain⟨us,hus⟩:=hag'
   rw[hus] at hcs
   obtain⟨u,h1,h2⟩:=Zwr (P:=P) hcs hag hsz h
   refine ZbG (s:=Instr.index t (a.eval x) (a.eval i)) (u:=u) (by unfold execOp;rw[hop]) ?_ (Post.stay pre.ok hp h2)
   rw[hus,Zmn hiv]
   simp only[Value.cells,Array.toArray_toList] at h1
   simp[Instr.index,asIntOf,run_underlying (Zt1 ht),hc,Zfd hsz,h1]
 ·cases h
theorem ZFc (pre:Pre G R w e a Hm) {t:TypeId}{x i:Operand}{y j:Opd}{v:V} (hop:o.op = .index t x i) (hx:ZK G x y=true) (hi:ZK G i j=true) (ht:P.underlying t=some .string)
  (h:Zmm (y.val e) (j.val e)=some v) (hp:Z3 R.H [] nid [] H'):ZcG P o a w (Post R w nid 0 H' v):=by
 have hv:=pre.opd hx
 have hiv:=pre.opd hi
 unfold Zmm at h
 split at h
 ·rename_i s k m hy hj
  rw[hj] at hiv
  rw[hy] at hv
  cases hc:decide (0<=m) with
  | false=>rw[hc] at h;cases h
  | true=>
   rw[hc] at h
   simp only[cond_true] at h
   have h0:0<=m:=of_decide_eq_true hc
   cases hs:s[m.toNat]? with
   | none=>rw[hs] at h;cases h
   | some b=>
    rw[hs] at h
    simp only[Option.some.injEq] at h
    subst h
    refine ZbG (s:=Instr.index t (a.eval x) (a.eval i)) (u:=.int .u8 b.toNat) (by unfold execOp;rw[hop]) ?_ (Post.stay pre.ok hp rfl)
    rw[Zmn hiv,show a.eval x = .string s from hv]
    simp[Instr.index,asIntOf,run_underlying ht,h0,hs]
 ·cases h
theorem Zgz {m:Option Nat}{xs:List D}{sz of len:Nat}{u:Value} (h:ZvX w m xs sz of len u) (h0:0<len∨of<xs.length) :
  ∃c cs el fr cap,m=some c/\u = .slice (some ⟨c,of*sz,none⟩) len cap/\len<=cap/\w.heap[c]? = some (.cells cs el fr)/\cs.size=(of+cap)*sz:=by
 obtain⟨h1,ad,cap,rfl,h3,h4⟩:=h
 rcases h4 with⟨rfl,h4⟩ | ⟨c,cs,el,fr,rfl,rfl,h6,h7⟩
 ·exfalso;omega
 ·exact⟨c,cs,el,fr,cap,rfl,rfl,h3,h6,h7⟩
theorem Zw7 {t el:TypeId}{n:Nat}{ad:Addr}{len cap:Nat}{k:IntKind}{i:Int} (ht:ZrT P t=some el) (hsz:Zhh P el=some n) (h0:0<=i) (h1:i<len) :
  (Instr.indexAt t (.slice (some ad) len cap) (.int k i)).run P w = .ok (.pointer (some (ad.add (i.toNat*n)))) w:=by
 simp[Instr.indexAt,asIntOf,run_underlying (ZnI ht),Zfd hsz,h0,h1]
theorem ZFj {A1 A0 AL:Nat->Prop}{b off:Nat}{x:D}{u:Value} (hu:Za3 A1 A0 AL w x u) (hb:(V.d x).okb=true) (hc:∀(k:Nat) v,u.cells[k]? = some v->w.cell? ⟨b,off+k,none⟩=some v) :
  u.cells.size=x.cells.length/\ZcA A1 A0 AL w b off x.cells:=by
 have one:∀{x:D} {u:Value},Za3 A1 A0 AL w x u->u.cells = #[u]->x.cells=[x]->(∀(k:Nat) v,u.cells[k]? = some v->w.cell? ⟨b,off+k,none⟩=some v)->u.cells.size=x.cells.length/\ZcA A1 A0 AL w b off x.cells:=by
  intro x u h1 h2 h3 h4
  have h5:=h4 0 u (by rw[h2];rfl)
  rw[h2,h3]
  exact⟨rfl,⟨u,by simpa using h5,h1⟩,trivial⟩
 cases x with
 | agg cs=>
  obtain⟨us,rfl,h⟩:=hu
  refine⟨by simpa [Value.cells,D.cells] using ZuJ cs us h,ZiZ _ _ fun j y hj=>?_⟩
  obtain⟨u,h1,h2⟩:=Zhj cs us j y h hj
  exact⟨u,hc j u (by simpa [Value.cells] using h1),h2⟩
 | tup cs=>simp[V.okb] at hb
 | bool b=>cases hu;exact one (x:=.bool b) rfl rfl rfl hc
 | int k n=>cases hu;exact one (x:=.int k n) rfl rfl rfl hc
 | str s=>cases hu;exact one (x:=.str s) rfl rfl rfl hc
 | nilfn=>cases hu;exact one (x:=.nilfn) rfl rfl rfl hc
 | nilp=>cases hu;exact one (x:=.nilp) rfl rfl rfl hc
 | nilI=>cases hu;exact one (x:=.nilI) rfl rfl rfl hc
 | list own xs=>
  have hu':=hu
  obtain⟨ad,len,cap,rfl,_⟩:=hu'
  exact one hu rfl rfl hc
 | fn f caps=>
  have hu':=hu
  obtain⟨us,rfl,_⟩:=hu'
  exact one hu (Zxj _ _) rfl hc
 | rptr cs=>
  have hu':=hu
  obtain⟨b',off',rfl,_⟩:=hu'
  exact one hu rfl rfl hc
 | iface t v=>
  have hu':=hu
  obtain⟨u',rfl,_⟩:=hu'
  exact one hu rfl rfl hc
theorem Zos (pre:Pre G R w e a Hm) {b sz:Nat}{xs:List D}{u:Value} (hb:nth Hm b=some (.arr sz xs)) (h:ZaK R w (.sl b sz) u) :
  ∃m,R.M b=some m/\nth R.H b=some (.arr sz xs)/\ZiW R w m (.arr sz xs)/\ZvX w m xs sz 0 xs.length u:=by
 have hb':=pre.le b _ hb (by simp)
 obtain⟨_,m,h1,h2⟩:=h
 exact⟨m,h1,hb',pre.ok.blk b _ _ (by rw[<- ZW];exact hb') h1,h2 xs hb'⟩
theorem Zmq (pre:Pre G R w e a Hm) {b sz o len:Nat}{xs:List D}{u:Value} (hb:nth Hm b=some (.arr sz xs)) (h:ZaK R w (.slp b sz o len) u) :
  ∃m,R.M b=some m/\nth R.H b=some (.arr sz xs)/\ZiW R w m (.arr sz xs)/\ZvX w m xs sz o len u:=by
 have hb':=pre.le b _ hb (by simp)
 obtain⟨_,m,h1,h2⟩:=h
 exact⟨m,h1,hb',pre.ok.blk b _ _ (by rw[<- ZW];exact hb') h1,h2 xs hb'⟩
theorem ZFH (pre:Pre G R w e a Hm) {t el:TypeId}{n:Nat}{x i:Operand}{y j:Opd}{v:V} (hop:o.op = .indexAddr t x i) (hx:ZK G x y=true) (hi:ZK G i j=true) (ht:ZrT P t=some el) (hsz:Zhh P el=some n)
  (h:ZjE Hm n (y.val e) (j.val e)=some v) (hp:Z3 R.H [] nid [] H'):ZcG P o a w (Post R w nid 0 H' v):=by
 have hv:=pre.opd hx
 have hiv:=pre.opd hi
 unfold ZjE at h
 have fin:∀{k:IntKind} {m:Int} {ad:Addr} {len cap:Nat} ,a.eval i = .int k m->a.eval x = .slice (some ad) len cap->0<=m->m<len->ZaK R w v (.pointer (some (ad.add (m.toNat*n))))->ZcG P o a w (Post R w nid 0 H' v):=
  fun h1 h2 h3 h4 h5=>ZbG (s:=Instr.indexAt t (a.eval x) (a.eval i)) (by unfold execOp;rw[hop]) (by rw[h1,h2];exact Zw7 ht hsz h3 h4) (Post.stay pre.ok hp h5)
 split at h
 ·rename_i k m hj
  rw[hj] at hiv
  split at h
  ·rename_i own xs hy
   rw[hy] at hv
   cases hg:Zy xs m with
   | none=>rw[hg] at h;cases h
   | some z=>
    rw[hg] at h
    dsimp only at h
    cases hc:(Nat.beq z.cells.length n&&(V.d z).okb) with
    | false=>rw[hc] at h;cases h
    | true=>
     rw[hc] at h
     simp only[cond_true,Option.some.injEq] at h
     subst h
     simp only[Bool.and_eq_true] at hc
     obtain⟨h0,h1,h2⟩:=ZrX xs m z hg
     obtain⟨ad,len,cap,e1,rfl,e3,e4,e5⟩:=hv
     obtain⟨b,off,sz,rfl,f2,f3,f4⟩:=e5 (by intro hn;rw[hn] at h2;simp at h2)
     obtain⟨u,g1,g2,g3⟩:=Zk9 xs off m.toNat z f4 h2
     obtain⟨q1,q2⟩:=ZFj (b:=b) (off:=off+m.toNat*sz) g1 hc.2 g3
     have hn:sz=n:=by rw[<- g2,q1];exact Nat.eq_of_beq_eq_true hc.1
     subst hn
     refine fin (Zmn hiv) e1 h0 h1 ⟨b,off+m.toNat*sz,by rw[Addr.add_lit],?_,f3,q2⟩
     cases own
     ·exact f2
     ·exact⟨f2.1,fun hb=>f2.2 (pre.ok.b01 _ hb)⟩
  ·rename_i b sz' hy
   rw[hy] at hv
   cases hb:nth Hm b with
   | none=>rw[hb] at h;cases h
   | some blk=>
    rw[hb] at h
    cases blk<;>try (cases h;done)
    rename_i sz'' xs
    dsimp only at h
    cases hs:(Nat.beq n sz'&&Nat.beq n sz'') with
    | false=>rw[hs] at h;cases h
    | true=>
     rw[hs] at h
     simp only[Bool.and_eq_true] at hs
     obtain rfl:=Nat.eq_of_beq_eq_true hs.1
     obtain rfl:=Nat.eq_of_beq_eq_true hs.2
     simp only[cond_true] at h
     cases hg:Zy xs m with
     | none=>rw[hg] at h;cases h
     | some z=>
      rw[hg] at h
      simp only[Option.some.injEq] at h
      subst h
      obtain⟨h0,h1,h2⟩:=ZrX xs m z hg
      obtain⟨mm,q1,q2,q3,q4⟩:=Zos pre hb hv
      obtain⟨c,cs,el',fr,cap,rfl,e1,e2,e3,e4⟩:=Zgz q4 (.inr (by omega))
      refine fin (Zmn hiv) e1 h0 h1 ⟨c,q1,?_⟩
      rw[Addr.add_lit,Nat.zero_mul,Nat.zero_add];rfl
  ·rename_i b sz' of ln hy
   rw[hy] at hv
   cases hb:nth Hm b with
   | none=>rw[hb] at h;cases h
   | some blk=>
    rw[hb] at h
    cases blk<;>try (cases h;done)
    rename_i sz'' xs
    dsimp only at h
    cases hs:(Nat.beq n sz'&&Nat.beq n sz'') with
    | false=>rw[hs] at h;cases h
    | true=>
     rw[hs] at h
     simp only[Bool.and_eq_true] at hs
     obtain rfl:=Nat.eq_of_beq_eq_true hs.1
     obtain rfl:=Nat.eq_of_beq_eq_true hs.2
     simp only[cond_true] at h
     cases hg:Zy ((xs.drop of).take ln) m with
     | none=>rw[hg] at h;cases h
     | some z=>
      rw[hg] at h
      simp only[Option.some.injEq] at h
      subst h
      obtain⟨h0,h1,h2⟩:=ZrX _ m z hg
      simp only[List.length_take,List.length_drop] at h1
      obtain⟨mm,q1,q2,q3,q4⟩:=Zmq pre hb hv
      obtain⟨c,cs,el',fr,cap,rfl,e1,e2,e3,e4⟩:=Zgz q4 (.inr (by omega))
      refine fin (Zmn hiv) e1 h0 (by omega) ⟨c,q1,?_⟩
      rw[Addr.add_lit,Nat.add_mul];rfl
  ·cases h
 ·cases h
end
end Go.Proofs.YtgcfmiajkbbmeaaGreatDoorE
namespace Go.Proofs.YtgcfmiajkbbmeaaGreatDoorE
open Go
open Go.IntKind (u64 i64 u32 i32 u8)
section
variable {P:Program} {G:Za8} {R:RP} {w:World} {e:Env} {a:Act} {Hm H':Zk} {nid:Nat} {o:Oper}
theorem ZCj (pre:Pre G R w e a Hm) {t el:TypeId}{n len:Nat}{x i:Operand}{y j:Opd}{v:V} (hop:o.op = .indexAddr t x i) (hx:ZK G x y=true) (hi:ZK G i j=true) (ht:Zvh P t=some (len,el)) (hsz:Zhh P el=some n)
  (h:ZhU Hm len n (y.val e) (j.val e)=some v) (hp:Z3 R.H [] nid [] H'):ZcG P o a w (Post R w nid 0 H' v):=by
 have hv:=pre.opd hx
 have hiv:=pre.opd hi
 unfold ZhU at h
 split at h
 ·rename_i k m hj
  rw[hj] at hiv
  cases hc:(decide (0<=m)&&decide (m<len)) with
  | false=>rw[hc] at h;cases h
  | true=>
   rw[hc] at h
   simp only[cond_true] at h
   simp only[Bool.and_eq_true,decide_eq_true_eq] at hc
   obtain⟨ad,h1,h2⟩:=Zxs pre hv h
   refine ZbG (s:=Instr.indexAt t (a.eval x) (a.eval i)) (by unfold execOp;rw[hop]) ?_ (Post.stay pre.ok hp h2)
   rw[h1,Zmn hiv]
   simp[Instr.indexAt,asIntOf,Instr.sureAddr,run_underlying (Zt1 ht),Zfd hsz,hc]
 ·cases h
theorem Zzr (pre:Pre G R w e a Hm) {x:V}{xs:List D}{u:Value} (hx:ZaK R w x u) (h:elems Hm x=some xs) (hl:0<xs.length):∃ad cap,u = .slice (some ad) xs.length cap:=by
 unfold elems at h
 split at h
 ·rename_i own xs'
  simp only[Option.some.injEq] at h
  subst h
  obtain⟨ad,len,cap,rfl,rfl,e3,e4,e5⟩:=hx
  obtain⟨b,off,sz,rfl,_⟩:=e5 (by intro hn;rw[hn] at hl;simp at hl)
  exact⟨_,cap,rfl⟩
 ·rename_i b sz
  cases hb:nth Hm b with
  | none=>rw[hb] at h;cases h
  | some blk=>
   rw[hb] at h
   cases blk<;>try (cases h;done)
   rename_i sz' xs'
   dsimp only at h
   cases hs:Nat.beq sz sz' with
   | false=>rw[hs] at h;cases h
   | true=>
    rw[hs] at h
    simp only[cond_true,Option.some.injEq] at h
    subst h
    obtain rfl:=Nat.eq_of_beq_eq_true hs
    obtain⟨m,q1,q2,q3,q4⟩:=Zos pre hb hx
    obtain⟨c,cs,el,fr,cap,rfl,rfl,_⟩:=Zgz q4 (.inl hl)
    exact⟨_,cap,rfl⟩
 ·rename_i b sz of len
  cases hb:nth Hm b with
  | none=>rw[hb] at h;cases h
  | some blk=>
   rw[hb] at h
   cases blk<;>try (cases h;done)
   rename_i sz' xs'
   dsimp only at h
   cases hs:Nat.beq sz sz' with
   | false=>rw[hs] at h;cases h
   | true=>
    rw[hs] at h
    simp only[cond_true,Option.some.injEq] at h
    subst h
    obtain rfl:=Nat.eq_of_beq_eq_true hs
    obtain⟨m,q1,q2,q3,q4⟩:=Zmq pre hb hx
    have hlen:((xs'.drop of).take len).length=len:=by
     have:=q4.1
     simp only[List.length_take,List.length_drop];omega
    rw[hlen] at hl ⊢
    obtain⟨c,cs,el,fr,cap,rfl,rfl,_⟩:=Zgz q4 (.inl hl)
    exact⟨_,cap,rfl⟩
 ·simp only[Option.some.injEq] at h
  subst h
  simp at hl
 ·cases h
theorem ZvC (pre:Pre G R w e a Hm) {x:V}{xs:List D}{u:Value} (hx:ZaK R w x u) (h:elems Hm x=some xs):∃ad cap,u = .slice ad xs.length cap/\xs.length<=cap:=by
 unfold elems at h
 split at h
 ·rename_i own xs'
  simp only[Option.some.injEq] at h
  subst h
  obtain⟨ad,len,cap,rfl,rfl,e3,_⟩:=hx
  exact⟨ad,cap,rfl,e3⟩
 ·rename_i b sz
  cases hb:nth Hm b with
  | none=>rw[hb] at h;cases h
  | some blk=>
   rw[hb] at h
   cases blk<;>try (cases h;done)
   rename_i sz' xs'
   dsimp only at h
   cases hs:Nat.beq sz sz' with
   | false=>rw[hs] at h;cases h
   | true=>
    rw[hs] at h
    simp only[cond_true,Option.some.injEq] at h
    subst h
    obtain rfl:=Nat.eq_of_beq_eq_true hs
    obtain⟨m,q1,q2,q3,q4,ad,cap,rfl,q5,_⟩:=Zos pre hb hx
    exact⟨ad,cap,rfl,q5⟩
 ·rename_i b sz of len
  cases hb:nth Hm b with
  | none=>rw[hb] at h;cases h
  | some blk=>
   rw[hb] at h
   cases blk<;>try (cases h;done)
   rename_i sz' xs'
   dsimp only at h
   cases hs:Nat.beq sz sz' with
   | false=>rw[hs] at h;cases h
   | true=>
    rw[hs] at h
    simp only[cond_true,Option.some.injEq] at h
    subst h
    obtain rfl:=Nat.eq_of_beq_eq_true hs
    obtain⟨m,q1,q2,q3,q4,ad,cap,rfl,q5,_⟩:=Zmq pre hb hx
    have:((xs'.drop of).take len).length=len:=by simp only[List.length_take,List.length_drop];omega
    rw[this]
    exact⟨ad,cap,rfl,q5⟩
 ·simp only[Option.some.injEq] at h
  subst h
  obtain⟨ad,rfl⟩:=hx
  exact⟨ad,0,rfl,Nat.le_refl _⟩
 ·cases h
theorem ZhZ {b:Builtin}{xs:Array Operand}{ats:Array TypeId} (hop:o.op = .call { callee:=.builtin b,args:=xs,argTypes:=ats }) :
  execOp a.eval o=builtin b ats o.type (xs.map fun | .const _=>true | _=>false) (xs.map a.eval):=by
 obtain⟨dst,op,ty,pos,after,guard⟩:=o
 simp only at hop
 subst hop
 rfl
theorem ZKi (pre:Pre G R w e a Hm) {t el:TypeId}{x:Operand}{y:Opd}{r:D} (hop:o.op = .call { callee:=.builtin .len,args:=#[x],argTypes:=#[t] }) (hx:ZK G x y=true) (ht:ZrT P t=some el)
  (h:Zwb Hm (y.val e)=some r) (hp:Z3 R.H [] nid [] H'):ZcG P o a w (Post R w nid 0 H' (.d r)):=by
 have hv:=pre.opd hx
 unfold Zwb at h
 cases hes:elems Hm (y.val e) with
 | none=>rw[hes] at h;cases h
 | some xs=>
  rw[hes] at h
  simp only[Option.some.injEq] at h
  subst h
  obtain⟨ad,cap,h1,_⟩:=ZvC pre hv hes
  refine ZbG (s:=Builtin.len_ #[t] o.type #[a.eval x]) (u:=.int .i64 xs.length) (by rw[ZhZ hop,BigFrame.builtin_len];simp) ?_ (Post.stay pre.ok hp rfl)
  rw[h1]
  simp[Builtin.len_,run_underlying (ZnI ht),goInt]
def ZzB (x:Option Value) (d l:Nat):Prop:=(x=none/\l=d)∨∃k,x=some (.int k (l:Int))
theorem ZIn {t el:TypeId}{sz:Nat}{ad:Option Addr}{len cap l h:Nat}{lo hi:Option Value} (ht:ZrT P t=some el) (hsz:Zhh P el=some sz) (h1:ZzB lo 0 l) (h2:ZzB hi len h) (h3:l<=h) (h4:h<=cap) (h5:len<=cap) :
  (Instr.sliceAt t (.slice ad len cap) lo hi none).run P w = .ok (.slice (if cap=l then ad else ad.map (·.add (l*sz))) (h-l) (cap-l)) w:=by
 have ht':=ZnI ht
 rcases h1 with⟨rfl,rfl⟩ | ⟨k1,rfl⟩<;>rcases h2 with⟨rfl,rfl⟩ | ⟨k2,rfl⟩<;>
  simp[Instr.sliceAt,Instr.slice,run_underlying ht',Instr.sliceBounds,Instr.sliceBound,asIntOf,Zfd hsz, *]
theorem ZFZ {t el:TypeId}{sz:Nat}{ad:Option Addr}{len cap l h m:Nat}{lo hi mx:Option Value} (ht:ZrT P t=some el) (hsz:Zhh P el=some sz) (h1:ZzB lo 0 l) (h2:∃k,hi=some (.int k (h:Int))) (h6:∃k,mx=some (.int k (m:Int))) (h3:l<=h) (h4:h<=m) (h5:m<=cap) :
  (Instr.sliceAt t (.slice ad len cap) lo hi mx).run P w = .ok (.slice (if m=l then ad else ad.map (·.add (l*sz))) (h-l) (m-l)) w:=by
 have ht':=ZnI ht
 obtain⟨k2,rfl⟩:=h2
 obtain⟨k3,rfl⟩:=h6
 rcases h1 with⟨rfl,rfl⟩ | ⟨k1,rfl⟩<;>
  simp[Instr.sliceAt,Instr.slice,run_underlying ht',Instr.sliceBounds,Instr.sliceBound,asIntOf,Zfd hsz, *]
def ZoW (G:Za8):Option Operand->Option Opd->Bool
 | none,none=>true
 | some x,some y=>ZK G x y
 | _,_=>false
theorem Zyq (pre:Pre G R w e a Hm) {x:Option Operand}{y:Option Opd}{d l:Nat} (hx:ZoW G x y=true) (h:Zi8 (y.map (·.val e)) d=some l):ZzB (x.map a.eval) d l:=by
 cases x with
 | none=>
  cases y with
  | some y=>cases hx
  | none=>simp[Zi8] at h;exact .inl ⟨rfl,h.symm⟩
 | some x=>
  cases y with
  | none=>cases hx
  | some y=>
   have hv:=pre.opd (x:=x) (y:=y) hx
   simp only[Option.map_some] at h
   unfold Zi8 at h
   split at h
   ·cases ‹some _=none›
   ·rename_i k n hy
    simp only[Option.some.injEq] at hy
    rw[hy] at hv
    cases h0:decide (0<=n) with
    | false=>rw[h0] at h;cases h
    | true=>
     rw[h0] at h
     simp only[cond_true,Option.some.injEq] at h
     have h0':0<=n:=of_decide_eq_true h0
     refine .inr ⟨k,?_⟩
     simp only[Option.map_some]
     rw[Zmn hv,<- h,Int.toNat_of_nonneg h0']
   ·cases h
theorem ZF8 (pre:Pre G R w e a Hm) {t el:TypeId}{n:Nat}{x:Operand}{y:Opd}{lo hi mx:Option Operand}{lo' hi' mx':Option Opd}{v:V} (hop:o.op = .slice t x lo hi mx) (hx:ZK G x y=true)
  (hlo:ZoW G lo lo'=true) (hhi:ZoW G hi hi'=true) (hmx:ZoW G mx mx'=true) (hh:mx'.isSome=true->hi'.isSome=true) (ht:ZrT P t=some el) (hsz:Zhh P el=some n)
  (h:Zj6 Hm n (y.val e) (lo'.map (·.val e)) (hi'.map (·.val e)) (mx'.map (·.val e))=some v) (hp:Z3 R.H [] nid [] H'):ZcG P o a w (Post R w nid 0 H' v):=by
 have hv:=pre.opd hx
 unfold Zj6 at h
 cases hes:elems Hm (y.val e) with
 | none=>rw[hes] at h;cases h
 | some xs=>
  rw[hes] at h
  dsimp only at h
  cases hl:Zi8 (lo'.map (·.val e)) 0 with
  | none=>rw[hl] at h;cases h
  | some l=>
   rw[hl] at h
   cases hhn:Zi8 (hi'.map (·.val e)) xs.length with
   | none=>rw[hhn] at h;cases h
   | some hn=>
    rw[hhn] at h
    dsimp only at h
    cases hc:(Nat.ble l hn&&Nat.ble hn xs.length) with
    | false=>rw[hc] at h;cases h
    | true=>
     rw[hc] at h
     simp only[cond_true] at h
     simp only[Bool.and_eq_true,Nat.ble_eq] at hc
     obtain⟨c1,c2⟩:=hc
     obtain⟨ad,cap,q1,q2⟩:=ZvC pre hv hes
     have b1:=Zyq pre hlo hl
     have b2:=Zyq pre hhi hhn
     have fin:ZaK R w v (.slice (if cap=l then ad else ad.map (·.add (l*n))) (hn-l) (cap-l))->mx=none->ZcG P o a w (Post R w nid 0 H' v):=fun h5 hm=>
      ZbG (s:=Instr.sliceAt t (a.eval x) (lo.map a.eval) (hi.map a.eval) (mx.map a.eval)) (by unfold execOp;rw[hop]) (by rw[q1,hm];exact ZIn ht hsz b1 b2 c1 (by omega) q2) (Post.stay pre.ok hp h5)
     cases mx' with
     | none=>
      have hm:mx=none:=by cases mx with | none=>rfl | some m=>cases hmx
      simp only[Option.map_none] at h
      refine fin ?_ hm
      rw[q1] at hv
      cases hy:y.val e<;>rw[hy] at h hv hes<;>try (cases h;done)
      ·rename_i z
       cases z<;>try (cases h;done)
       rename_i own xs'
       simp only[elems,Option.some.injEq] at hes
       subst hes
       dsimp only at h
       cases hg:(Nat.beq l 0 || Zk2 n xs' l) with
       | false=>rw[hg] at h;cases h
       | true=>
        rw[hg] at h
        simp only[cond_true,Option.some.injEq] at h
        subst h
        obtain⟨ad',len',cap',e1,e2,e3,e4,e5⟩:=hv
        cases e1
        have hlen:((xs'.drop l).take (hn-l)).length=hn-l:=by simp only[List.length_take,List.length_drop];omega
        refine⟨_,_,_,rfl,hlen.symm,by omega,fun z hz=>e4 z (List.mem_of_mem_drop (List.mem_of_mem_take hz)),fun hne=>?_⟩
        have hlt:l<hn:=by
         rcases Nat.lt_or_ge l hn with h | h
         ·exact h
         ·exact absurd (List.eq_nil_of_length_eq_zero (by omega)) hne
        obtain⟨b,off,sz,rfl,f2,f3,f4⟩:=e5 (by intro hn';rw[hn'] at c2;simp at c2;omega)
        have hcl:cap≠l:=by omega
        have hsame:l*n=l*sz:=by
         simp only[Bool.or_eq_true] at hg
         rcases hg with hg | hg
         ·rw[Nat.eq_of_beq_eq_true hg,Nat.zero_mul,Nat.zero_mul]
         ·have hll:l<xs'.length:=by omega
          unfold Zk2 at hg
          rw[ZW,List.getElem?_eq_getElem hll] at hg
          simp only[Bool.and_eq_true] at hg
          obtain⟨u,g1,g2,g3⟩:=Zk9 xs' off l _ f4 (List.getElem?_eq_getElem hll)
          have:=ZiG (R:=R) (v:=.d xs'[l]) g1 hg.2
          have h6:=ZeJ _ _ this
          have hVc:(V.d xs'[l]).cells=ZcD xs'[l].cells:=by cases xs'[l]<;>rfl
          rw[hVc,ZlW,List.length_map,Nat.eq_of_beq_eq_true hg.1] at h6
          rw[<- g2];simp at h6;rw[h6]
        refine⟨b,off+l*sz,sz,by rw[if_neg hcl,hsame];simp[Addr.add_lit],f2,f3,Zly _ _ fun j z hz=>?_⟩
        have hj:j<hn-l:=by have:=(List.getElem?_eq_some_iff.1 hz).1;omega
        rw[List.getElem?_take,if_pos hj,List.getElem?_drop] at hz
        obtain⟨u,g1,g2,g3⟩:=Zk9 xs' off (l+j) z f4 hz
        exact⟨u,g1,g2,fun k v hk=>by rw[<- g3 k v hk,Nat.add_mul];congr 2;omega⟩
      ·rename_i b sz'
       dsimp only at h
       cases hg:Nat.beq n sz' with
       | false=>rw[hg] at h;cases h
       | true=>
        rw[hg] at h
        simp only[cond_true,Option.some.injEq] at h
        obtain rfl:=Nat.eq_of_beq_eq_true hg
        subst h
        simp only[elems] at hes
        cases hb:nth Hm b with
        | none=>rw[hb] at hes;cases hes
        | some blk=>
         rw[hb] at hes
         cases blk<;>try (cases hes;done)
         rename_i sz'' xs'
         dsimp only at hes
         cases hs:Nat.beq n sz'' with
         | false=>rw[hs] at hes;cases hes
         | true=>
          rw[hs] at hes
          simp only[cond_true,Option.some.injEq] at hes
          obtain rfl:=Nat.eq_of_beq_eq_true hs
          subst hes
          obtain⟨m,r1,r2,r3,r4⟩:=Zos pre hb hv
          refine⟨⟨_,_,_,rfl⟩,m,r1,fun ys hys=>?_⟩
          rw[r2] at hys;cases hys
          obtain⟨_,ad',cap',s1,s2,s3⟩:=r4
          cases s1
          refine⟨by omega,_,_,rfl,by omega,?_⟩
          rcases s3 with⟨s3,s4⟩ | ⟨c,cs,el',fr,s4,s5,s6,s7⟩
          ·exact .inl ⟨by omega,by omega⟩
          ·by_cases hcl:cap=l
           ·exact .inl ⟨by omega,by omega⟩
           ·refine .inr ⟨c,cs,el',fr,s4,?_,s6,?_⟩
            ·rw[if_neg hcl,s5];simp[Addr.add_lit]
            ·rw[s7];congr 1;omega
      ·rename_i b sz' of len
       dsimp only at h
       cases hg:Nat.beq n sz' with
       | false=>rw[hg] at h;cases h
       | true=>
        rw[hg] at h
        simp only[cond_true,Option.some.injEq] at h
        obtain rfl:=Nat.eq_of_beq_eq_true hg
        subst h
        simp only[elems] at hes
        cases hb:nth Hm b with
        | none=>rw[hb] at hes;cases hes
        | some blk=>
         rw[hb] at hes
         cases blk<;>try (cases hes;done)
         rename_i sz'' xs'
         dsimp only at hes
         cases hs:Nat.beq n sz'' with
         | false=>rw[hs] at hes;cases hes
         | true=>
          rw[hs] at hes
          simp only[cond_true,Option.some.injEq] at hes
          obtain rfl:=Nat.eq_of_beq_eq_true hs
          subst hes
          obtain⟨m,r1,r2,r3,r4⟩:=Zmq pre hb hv
          simp only[List.length_take,List.length_drop] at c2 r4 q2
          refine⟨⟨_,_,_,rfl⟩,m,r1,fun ys hys=>?_⟩
          rw[r2] at hys;cases hys
          obtain⟨s0,ad',cap',s1,s2,s3⟩:=r4
          simp only[Value.slice.injEq] at s1
          obtain⟨rfl,_,rfl⟩:=s1
          refine⟨by omega,_,_,rfl,by omega,?_⟩
          rcases s3 with⟨s3,s4⟩ | ⟨c,cs,el',fr,s4,s5,s6,s7⟩
          ·exact .inl ⟨by omega,by omega⟩
          ·obtain⟨t0,_,t1⟩:=r3
           by_cases hcl:cap=l
           ·refine .inl ⟨by omega,?_⟩
            rcases t1 with⟨t1,t2⟩ | ⟨c',cs',el'',t1,t2,t3,_⟩
            ·rw[t1] at s4;cases s4
            ·rw[t1] at s4;cases s4
             rw[t2] at s6;cases s6
             rw[s7] at t3
             have:=Nat.le_of_mul_le_mul_right t3 t0
             omega
           ·refine .inr ⟨c,cs,el',fr,s4,?_,s6,?_⟩
            ·rw[if_neg hcl,s5];simp[Addr.add_lit,Nat.add_mul]
            ·rw[s7];congr 1;omega
      ·rename_i sz'
       simp only[Option.some.injEq] at h
       subst h
       simp only[elems,Option.some.injEq] at hes
       subst hes
       obtain⟨ad',hv⟩:=hv
       cases hv
       simp only[List.length_nil] at c2
       obtain rfl:l=0:=by omega
       obtain rfl:hn=0:=by omega
       exact⟨_,rfl⟩
     | some m'=>
      cases mx with
      | none=>cases hmx
      | some m=>
       cases hhs:hi' with
       | none=>rw[hhs] at hh;cases hh rfl
       | some hi1=>
        dsimp only[Option.map_some] at h
        cases hm:Zi8 (some (m'.val e)) 0 with
        | none=>rw[hm] at h;cases h
        | some mm=>
         rw[hm] at h
         dsimp only at h
         cases hg:(Nat.beq mm l&&Nat.beq mm hn) with
         | false=>rw[hg] at h;cases h
         | true=>
          rw[hg] at h
          simp only[cond_true,Option.some.injEq] at h
          subst h
          simp only[Bool.and_eq_true] at hg
          obtain rfl:=Nat.eq_of_beq_eq_true hg.1
          obtain rfl:=Nat.eq_of_beq_eq_true hg.2
          have b3:=Zyq pre (x:=some m) (y:=some m') hmx (by simpa using hm)
          refine ZbG (s:=Instr.sliceAt t (a.eval x) (lo.map a.eval) (hi.map a.eval) ((some m).map a.eval)) (by unfold execOp;rw[hop]) (by
           rw[q1]
           refine ZFZ ht hsz b1 ?_ ?_ c1 (Nat.le_refl _) (by omega)
           ·rcases b2 with⟨b2,_⟩ | b2
            ·exfalso
             cases hi with
             | none=>rw[hhs] at hhi;cases hhi
             | some hi0=>cases b2
            ·exact b2
           ·rcases b3 with⟨b3,_⟩ | b3
            ·cases b3
            ·exact b3) (Post.stay pre.ok hp ?_)
          exact⟨_,by rw[Nat.sub_self]⟩
end
end Go.Proofs.YtgcfmiajkbbmeaaGreatDoorE
namespace Go.Proofs.YtgcfmiajkbbmeaaGreatDoorE
open Go
open Go.IntKind (u64 i64 u32 i32 u8)
section
variable {P:Program} {G:Za8} {R:RP} {w:World} {e:Env} {a:Act} {Hm H':Zk} {nid:Nat} {o:Oper}
theorem ZCw:∀(vs:List V) (us:List Value) (k:IntKind) (n:Int) (r:D),Zay R w vs us->mxE.go true k n vs=some r->∃u,(us.foldlM Builtin.max2 (.int k n)).run P w = .ok u w/\R.den w r u
 | [],us,k,n,r,hd,h=>by
  simp only[mxE.go,Option.some.injEq] at h
  simp only[Zay] at hd
  subst h;subst hd
  exact⟨.int k n,rfl,rfl⟩
 | v :: vs,us,k,n,r,hd,h=>by
  obtain⟨u,us',rfl,h1,h2⟩:=hd
  cases v<;>try (cases h;done)
  rename_i x
  cases x<;>try (cases h;done)
  rename_i k' m
  simp only[mxE.go,cond_true] at h
  obtain⟨u,h3,h4⟩:=ZCw vs us' k _ r h2 h
  refine⟨u,?_,h4⟩
  cases h1
  rw[List.foldlM_cons,Sem.run_bind,<- h3]
  by_cases hlt:n<m
  ·simp[Builtin.max2,hlt]
  ·simp[Builtin.max2,hlt]
theorem ZCe:∀(vs:List V) (us:List Value) (k:IntKind) (n:Int) (r:D),Zay R w vs us->mxE.go false k n vs=some r->∃u,(us.foldlM Builtin.min2 (.int k n)).run P w = .ok u w/\R.den w r u
 | [],us,k,n,r,hd,h=>by
  simp only[mxE.go,Option.some.injEq] at h
  simp only[Zay] at hd
  subst h;subst hd
  exact⟨.int k n,rfl,rfl⟩
 | v :: vs,us,k,n,r,hd,h=>by
  obtain⟨u,us',rfl,h1,h2⟩:=hd
  cases v<;>try (cases h;done)
  rename_i x
  cases x<;>try (cases h;done)
  rename_i k' m
  simp only[mxE.go,cond_false] at h
  obtain⟨u,h3,h4⟩:=ZCe vs us' k _ r h2 h
  refine⟨u,?_,h4⟩
  cases h1
  rw[List.foldlM_cons,Sem.run_bind,<- h3]
  by_cases hlt:m<n
  ·simp[Builtin.min2,hlt]
  ·simp[Builtin.min2,hlt]
theorem ZJS (pre:Pre G R w e a Hm) {b:Bool}{ats:Array TypeId}{xs:Array Operand}{ys:List Opd}{r:D} (hop:o.op = .call { callee:=.builtin (bif b then .max else .min),args:=xs,argTypes:=ats }) (hx:Zeu G xs.toList ys=true)
  (h:mxE b (Zgl e ys)=some r) (hp:Z3 R.H [] nid [] H'):ZcG P o a w (Post R w nid 0 H' (.d r)):=by
 have hv:=pre.opds hx
 have hl:(xs.map a.eval).toList=xs.toList.map a.eval:=by simp
 cases hvs:Zgl e ys with
 | nil=>rw[hvs] at h;cases h
 | cons v vs=>
  rw[hvs] at h hv
  obtain⟨u,us,hus,h1,h2⟩:=hv
  cases v<;>try (cases h;done)
  rename_i x
  cases x<;>try (cases h;done)
  rename_i k n
  cases h1
  simp only[mxE] at h
  cases b with
  | true=>
   obtain⟨u,h3,h4⟩:=ZCw (P:=P) vs us k n r h2 h
   refine ZbG (s:=Builtin.max_ ats o.type (xs.map a.eval)) (u:=u) (by rw[ZhZ hop];rfl) ?_ (Post.stay pre.ok hp h4)
   rw[Builtin.max_,hl,hus];exact h3
  | false=>
   obtain⟨u,h3,h4⟩:=ZCe (P:=P) vs us k n r h2 h
   refine ZbG (s:=Builtin.min_ ats o.type (xs.map a.eval)) (u:=u) (by rw[ZhZ hop];rfl) ?_ (Post.stay pre.ok hp h4)
   rw[Builtin.min_,hl,hus];exact h3
theorem ZFF (pre:Pre G R w e a Hm) {x:Operand}{y:Opd}{v:V} (hop:o.op = .nilCheck x) (hx:ZK G x y=true) (h:Zy1 Hm (y.val e)=some v) (hp:Z3 R.H [] nid [] H'):ZcG P o a w (Post R w nid 0 H' v):=by
 have hv:=pre.opd hx
 have ptr:∀(ad:Addr) v,a.eval x = .pointer (some ad)->ZaK R w v (a.eval x)->ZcG P o a w (Post R w nid 0 H' v):=fun ad v h1 h2=>
  .val (u:=a.eval x) (w':=w) (by unfold execOp;rw[hop];simp[h1]) (Post.stay pre.ok hp h2)
 unfold Zy1 at h
 split at h
 ·rename_i f caps hy
  cases hb:Nat.beq f 2000000 with
  | true=>rw[hb] at h;cases h
  | false=>
  rw[hb] at h
  simp only[cond_false,Option.some.injEq] at h
  subst h
  rw[hy] at hv
  have hv':=hv
  obtain⟨us,h1,_⟩:=hv'
  exact .val (u:=a.eval x) (w':=w) (by unfold execOp;rw[hop];simp only[h1];unfold Zk1;rw[hb];cases isU _<;>simp) (Post.stay pre.ok hp hv)
 ·rename_i f caps hy
  cases hb:Nat.beq f 2000000 with
  | true=>rw[hb] at h;cases h
  | false=>
  rw[hb] at h
  simp only[cond_false,Option.some.injEq] at h
  subst h
  rw[hy] at hv
  have hv':=hv
  obtain⟨us,h1,_⟩:=hv'
  exact .val (u:=a.eval x) (w':=w) (by unfold execOp;rw[hop];simp only[h1];unfold Zk1;rw[hb];cases isU _<;>simp) (Post.stay pre.ok hp hv)
 ·rename_i t z hy
  simp only[Option.some.injEq] at h
  subst h
  rw[hy] at hv
  have hv':=hv
  obtain⟨u',h1,_⟩:=hv'
  exact .val (u:=a.eval x) (w':=w) (by unfold execOp;rw[hop];simp[h1]) (Post.stay pre.ok hp hv)
 ·rename_i cs hy
  simp only[Option.some.injEq] at h
  subst h
  rw[hy] at hv
  have hv':=hv
  obtain⟨b,off,h1,_⟩:=hv'
  exact ptr _ _ h1 hv
 ·rename_i b off hy
  simp only[Option.some.injEq] at h
  subst h
  rw[hy] at hv
  have hv':=hv
  obtain⟨c,_,h1⟩:=hv'
  exact ptr _ _ h1 hv
 ·rename_i b sz i k hy
  simp only[Option.some.injEq] at h
  subst h
  rw[hy] at hv
  have hv':=hv
  obtain⟨c,_,h1⟩:=hv'
  exact ptr _ _ h1 hv
 ·cases h
structure Zlh (R R':RP) (ks:List Nat):Prop where
 m:R'.M=R.M
 b1:R'.B1=R.B1
 live:∀i,Z7 R'.H i=true->Z7 R.H i=true
 dead:∀k∈ks,Z7 R'.H k=false
theorem Zlh.a1 {R R':RP}{ks:List Nat} (h:Zlh R R' ks):∀b,R.A1 b->R'.A1 b:=fun b ⟨h1,h2⟩=>
 ⟨fun⟨i,l1,l2⟩=>h1 ⟨i,h.live i l1,by rw[<- h.m];exact l2⟩,by rw[h.b1];exact h2⟩
theorem Zlh.own {R R':RP}{ks:List Nat} (h:Zlh R R' ks) (ok:R.OK w) {b c:Nat} (hb:Z7 R.H b=true) (hk:b∈ks) (hm:R.M b=some (some c)):R'.A1 c:=
 ⟨fun⟨i,l1,l2⟩=>by
  rw[h.m] at l2
  have:=ok.inj i b c (h.live i l1) hb l2 hm
  subst this
  rw[h.dead i hk] at l1
  exact Bool.noConfusion l1,by rw[h.b1];exact ok.nb b c hb hm⟩
theorem ZwM {H:Zk}{b sz:Nat}{xs:List D} (h:nth H b=some (.arr sz xs)):Z7 H b=true:=by
 unfold Z7;rw[h]
theorem Zr6 (ok:R.OK w) {c sz:Nat}{xs:List D}{A1' A0' AL':Nat->Prop} (h1:∀b,R.A1 b->A1' b) {l n:Nat} (hb:ZiW R w (some c) (.arr sz xs)) (hne:(xs.drop l).take n≠[]) :
  Zhg A1' A0' AL' w c sz (l*sz) ((xs.drop l).take n):=by
 obtain⟨_,he,hb⟩:=hb
 rcases hb with⟨hb,_⟩ | ⟨c',cs,el,e1,e2,e3,e4⟩
 ·cases hb
 ·cases e1
  refine Zly _ _ fun j x hj=>?_
  rw[List.getElem?_take] at hj
  by_cases hjn:j<n
  ·rw[if_pos hjn,List.getElem?_drop] at hj
   obtain⟨u,f1,f2,f3⟩:=e4 (l+j) x hj
   refine⟨u,Za3.lift h1 x u (he x (List.mem_of_getElem? hj)) f1,f2,fun k v hk=>?_⟩
   rw[Zcr e2,<- f3 k v hk,Nat.add_mul]
  ·rw[if_neg hjn] at hj;cases hj
mutual
theorem ZpO (n:Nat):∀(v:V) (y:D) (ks:List Nat),(pre:Pre G R w e a Hm)->fr Hm n v=some (y,ks)->∀{R':RP}{ks':List Nat},Zlh R R' ks'->(∀k∈ks,k∈ks')->∀u,ZaK R w v u->(y.esc=true∨∃ts,y = .tup ts)/\∀A0' AL',Za3 R'.A1 A0' AL' w y u:=by
 intro v y ks pre h R' ks' hL hks u hu
 cases n with
 | zero=>cases h
 | succ n=>
  simp only[fr] at h
  cases v<;>try (cases h;done)
  ·rename_i x
   dsimp only at h
   split at h
   ·rename_i ts
    cases he:Zzh ts with
    | false=>rw[he] at h;cases h
    | true=>
     rw[he] at h
     simp only[cond_true,Option.some.injEq,Prod.mk.injEq] at h
     obtain⟨rfl,_⟩:=h
     obtain⟨us,rfl,hu⟩:=hu
     exact⟨.inr ⟨ts,rfl⟩,fun A0' AL'=>⟨us,rfl,ZaI.liftT hL.a1 ts us he hu⟩⟩
   ·cases he:x.esc with
    | false=>rw[he] at h;cases h
    | true=>
     rw[he] at h
     simp only[cond_true,Option.some.injEq,Prod.mk.injEq] at h
     obtain⟨rfl,_⟩:=h
     exact⟨.inl he,fun A0' AL'=>Za3.lift hL.a1 x u he hu⟩
  ·rename_i b sz
   dsimp only at h
   cases hb:nth Hm b with
   | none=>rw[hb] at h;cases h
   | some blk=>
    rw[hb] at h
    cases blk<;>try (cases h;done)
    rename_i sz' xs
    dsimp only at h
    cases hs:Nat.beq sz sz' with
    | false=>rw[hs] at h;cases h
    | true=>
     rw[hs] at h
     obtain rfl:=Nat.eq_of_beq_eq_true hs
     simp only[cond_true,Option.some.injEq,Prod.mk.injEq] at h
     obtain⟨rfl,rfl⟩:=h
     refine⟨.inl rfl,fun A0' AL'=>?_⟩
     obtain⟨m,q1,q2,q3,q4⟩:=Zos pre hb hu
     have q5:=q4
     obtain⟨_,ad,cap,rfl,q6,q7⟩:=q5
     refine⟨_,_,_,rfl,rfl,q6,q3.2.1,fun hne=>?_⟩
     obtain⟨c,cs,el,fr',cap',rfl,e1,e2,e3,e4⟩:=Zgz q4 (.inl (List.length_pos_iff.2 hne))
     cases e1
     refine⟨c,0*sz,sz,rfl,hL.own pre.ok (ZwM q2) (hks _ (by simp)) q1,pre.ok.lt _ _ q1,?_⟩
     have:=Zr6 pre.ok (A0':=A0') (AL':=AL') hL.a1 (l:=0) (n:=xs.length) q3 (by simpa using hne)
     simpa using this
  ·rename_i b sz of len
   dsimp only at h
   cases hb:nth Hm b with
   | none=>rw[hb] at h;cases h
   | some blk=>
    rw[hb] at h
    cases blk<;>try (cases h;done)
    rename_i sz' xs
    dsimp only at h
    cases hs:Nat.beq sz sz' with
    | false=>rw[hs] at h;cases h
    | true=>
     rw[hs] at h
     obtain rfl:=Nat.eq_of_beq_eq_true hs
     simp only[cond_true,Option.some.injEq,Prod.mk.injEq] at h
     obtain⟨rfl,rfl⟩:=h
     refine⟨.inl rfl,fun A0' AL'=>?_⟩
     obtain⟨m,q1,q2,q3,q4⟩:=Zmq pre hb hu
     have q5:=q4
     obtain⟨q8,ad,cap,rfl,q6,q7⟩:=q5
     have hlen:((xs.drop of).take len).length=len:=by simp only[List.length_take,List.length_drop];omega
     refine⟨_,_,_,rfl,hlen.symm,q6,fun x hx=>q3.2.1 x (List.mem_of_mem_drop (List.mem_of_mem_take hx)),fun hne=>?_⟩
     obtain⟨c,cs,el,fr',cap',rfl,e1,e2,e3,e4⟩:=Zgz q4 (.inl (by rw[<- hlen];exact List.length_pos_iff.2 hne))
     cases e1
     exact⟨c,of*sz,sz,rfl,hL.own pre.ok (ZwM q2) (hks _ (by simp)) q1,pre.ok.lt _ _ q1,Zr6 pre.ok hL.a1 q3 hne⟩
  ·simp only[Option.some.injEq,Prod.mk.injEq] at h
   obtain⟨rfl,rfl⟩:=h
   obtain⟨ad,rfl⟩:=hu
   exact⟨.inl rfl,fun A0' AL'=>⟨_,_,_,rfl,rfl,Nat.le_refl _,by simp,by simp⟩⟩
  ·rename_i cs
   dsimp only at h
   cases hl:frl (fr Hm n) cs with
   | none=>rw[hl] at h;cases h
   | some p=>
    obtain⟨l,ks1⟩:=p
    rw[hl] at h
    dsimp only at h
    cases he:D.escs l with
    | false=>rw[he] at h;cases h
    | true=>
     rw[he] at h
     simp only[cond_true,Option.some.injEq,Prod.mk.injEq] at h
     obtain⟨rfl,rfl⟩:=h
     obtain⟨us,rfl,h1⟩:=hu
     have g2:=Zv9 n cs l ks1 pre hl hL hks us h1
     exact⟨.inl he,fun A0' AL'=>⟨us,rfl,g2 A0' AL'⟩⟩
  ·rename_i cs
   dsimp only at h
   cases hl:frl (fr Hm n) cs with
   | none=>rw[hl] at h;cases h
   | some p=>
    obtain⟨l,ks1⟩:=p
    rw[hl] at h
    simp only[Option.some.injEq,Prod.mk.injEq] at h
    obtain⟨rfl,rfl⟩:=h
    obtain⟨us,rfl,h1⟩:=hu
    have g2:=Zv9 n cs l ks1 pre hl hL hks us h1
    exact⟨.inr ⟨_,rfl⟩,fun A0' AL'=>⟨us,rfl,g2 A0' AL'⟩⟩
termination_by (n,0)
theorem Zv9 (n:Nat):∀(vs:List V) (ys:List D) (ks:List Nat),(pre:Pre G R w e a Hm)->frl (fr Hm n) vs=some (ys,ks)->∀{R':RP}{ks':List Nat},Zlh R R' ks'->(∀k∈ks,k∈ks')->∀us,Zay R w vs us->∀A0' AL',ZaI R'.A1 A0' AL' w ys us
 | [],ys,ks,pre,h,R',ks',hL,hks,us,hu=>by
  simp only[frl,Option.some.injEq,Prod.mk.injEq] at h
  obtain⟨rfl,rfl⟩:=h
  exact fun _ _=>hu
 | v :: vs,ys,ks,pre,h,R',ks',hL,hks,us,hu=>by
  simp only[frl] at h
  cases h1:fr Hm n v with
  | none=>rw[h1] at h;cases h
  | some p=>
   obtain⟨y,k1⟩:=p
   cases h2:frl (fr Hm n) vs with
   | none=>rw[h1,h2] at h;cases h
   | some q=>
    obtain⟨ys',k2⟩:=q
    rw[h1,h2] at h
    simp only[Option.some.injEq,Prod.mk.injEq] at h
    obtain⟨rfl,rfl⟩:=h
    obtain⟨u,us',rfl,e1,e2⟩:=hu
    obtain⟨g1,g2⟩:=ZpO n v y k1 pre h1 hL (fun k hk=>hks k (by simp[hk])) u e1
    have g4:=Zv9 n vs ys' k2 pre h2 hL (fun k hk=>hks k (by simp[hk])) us' e2
    exact fun A0' AL'=>⟨u,us',rfl,g2 A0' AL',g4 A0' AL'⟩
termination_by vs=>(n,vs.length+1)
end
theorem Zlh.refl (R:RP):Zlh R R []:=⟨rfl,rfl,fun _ h=>h,by simp⟩
theorem ZIj (pre:Pre G R w e a Hm) {t:TypeId}{x:Operand}{y:Opd}{z:D} (hop:o.op = .makeInterface t x) (hx:ZK G x y=true) (ht:P.concrete t=true)
  (h:fr Hm 6 (y.val e)=some (z,[])) (hp:Z3 R.H [] nid [] H'):ZcG P o a w (Post R w nid 0 H' (.d (.iface t z))):=by
 have hv:=pre.opd hx
 obtain⟨_,g⟩:=ZpO 6 _ z [] pre h (Zlh.refl R) (fun _ h=>h) _ hv
 exact ZbG (s:=Instr.makeInterface t (a.eval x)) (by unfold execOp;rw[hop]) (run_makeInterface w t _ ht) (Post.stay pre.ok hp ⟨_,rfl,g _ _⟩)
end
end Go.Proofs.YtgcfmiajkbbmeaaGreatDoorE
namespace Go.Proofs.YtgcfmiajkbbmeaaGreatDoorE
open Go
open Go.IntKind (u64 i64 u32 i32 u8)
theorem Zds {α:Type}:∀(vs cs:List α) (o:Nat),(Zah cs o vs).length=cs.length
 | [],cs,o=>rfl
 | v :: vs,cs,o=>by rw[Zah,Zds vs,Zbk,List.length_set]
theorem Zcb {α:Type}:∀(vs cs:List α) (o j:Nat),(Zah cs o vs)[j]? = if o<=j/\j<o+vs.length then (if j<cs.length then vs[j-o]? else none) else cs[j]?
 | [],cs,o,j=>by rw[Zah,if_neg (by simp only[List.length_nil];omega)]
 | v :: vs,cs,o,j=>by
  rw[Zah,Zcb vs,Zbk,List.length_set,List.getElem?_set]
  by_cases h1:o=j
  ·subst h1
   have hR:o<=o/\o<o+(v :: vs).length:=by simp only[List.length_cons];omega
   have hL:¬(o+1<=o/\o<o+1+vs.length):=by omega
   rw[if_neg hL,if_pos rfl,if_pos hR]
   by_cases h2:o<cs.length
   ·rw[if_pos h2,if_pos h2,Nat.sub_self,List.getElem?_cons_zero]
   ·rw[if_neg h2,if_neg h2]
  ·rw[if_neg h1]
   by_cases h2:o+1<=j/\j<o+1+vs.length
   ·have hR:o<=j/\j<o+(v :: vs).length:=by simp only[List.length_cons];omega
    rw[if_pos h2,if_pos hR]
    have:j-o=(j-(o+1))+1:=by omega
    rw[this,List.getElem?_cons_succ]
   ·have hR:¬(o<=j/\j<o+(v :: vs).length):=by simp only[List.length_cons];omega
    rw[if_neg h2,if_neg hR]
theorem ZtZ:∀(vs:List Value) (k off:Nat) (cs:Array Value),((vs.zipIdx k).foldl (fun cs (p:Value×Nat)=>cs.setIfInBounds (off+p.2) p.1) cs).toList=Zah cs.toList (off+k) vs
 | [],k,off,cs=>rfl
 | v :: vs,k,off,cs=>by
  rw[List.zipIdx_cons,List.foldl_cons,ZtZ vs (k+1) off,Zah,Zbk]
  simp[Nat.add_assoc]
section
variable {P:Program} {G:Za8} {R:RP} {w:World} {e:Env} {a:Act} {Hm H':Zk} {nid:Nat} {o:Oper}
theorem ZuQ {cs vs:List V}{us ws:List Value} (h:Zay R w cs us) (k:Zay R w vs ws) (off:Nat):Zay R w (Zah cs off vs) (Zah us off ws):=by
 have l1:=ZeJ _ _ h
 have l2:=ZeJ _ _ k
 refine Zlr _ _ (by rw[Zds,Zds,l1]) fun j v u hv hu=>?_
 rw[Zcb] at hv hu
 rw[l2] at hu
 by_cases hj:off<=j/\j<off+vs.length
 ·rw[if_pos hj] at hv hu
  by_cases hc:j<cs.length
  ·rw[if_pos hc] at hv
   rw[if_pos (by omega)] at hu
   obtain⟨u',e1,e2⟩:=ZgR _ _ _ _ k hv
   rw[hu] at e1;cases e1;exact e2
  ·rw[if_neg hc] at hv;cases hv
 ·rw[if_neg hj] at hv hu
  obtain⟨u',e1,e2⟩:=ZgR _ _ _ _ h hv
  rw[hu] at e1;cases e1;exact e2
def ZpF (G:Za8) (place:Nat->Option (Nat×Nat)):List (Nat×Operand)->List (Nat×Nat×Opd)->Bool
 | [],[]=>true
 | (i,x) :: r,(off,size,y) :: s=>(match place i with | some (off',size')=>Nat.beq off off'&&Nat.beq size size' | none=>false)&&ZK G x y&&ZpF G place r s
 | _,_=>false
theorem ZzY (pre:Pre G R w e a Hm) {place:Nat->Option (Nat×Nat)}:∀(ps:List (Nat×Operand)) (qs:List (Nat×Nat×Opd)) (z:List V) (cells:Array Value) (z':List V),ZpF G place ps qs=true->Zay R w z cells.toList ->
  ZuS z (qs.map fun(o,s,x)=>(o,s,x.val e))=some z'->∃cells',Instr.fill place cells (ps.map fun(i,x)=>(i,a.eval x))=some cells'/\Zay R w z' cells'.toList
 | [],[],z,cells,z',_,hd,h=>by
  simp only[List.map_nil,ZuS,Option.some.injEq] at h
  subst h
  exact⟨cells,rfl,hd⟩
 | [],_ :: _,z,cells,z',hp,_,_=>by cases hp
 | _ :: _,[],z,cells,z',hp,_,_=>by cases hp
 | (i,x) :: ps,(off,size,y) :: qs,z,cells,z',hp,hd,h=>by
  simp only[ZpF,Bool.and_eq_true] at hp
  obtain⟨⟨h1,h2⟩,h3⟩:=hp
  cases hpl:place i with
  | none=>rw[hpl] at h1;cases h1
  | some q=>
   obtain⟨off',size'⟩:=q
   rw[hpl] at h1
   simp only[Bool.and_eq_true] at h1
   obtain rfl:=Nat.eq_of_beq_eq_true h1.1
   obtain rfl:=Nat.eq_of_beq_eq_true h1.2
   simp only[List.map_cons,ZuS] at h
   cases hc:((y.val e).okb&&Nat.beq (y.val e).cells.length size&&Nat.ble (off+size) z.length) with
   | false=>rw[hc] at h;cases h
   | true=>
    rw[hc] at h
    simp only[cond_true] at h
    simp only[Bool.and_eq_true,Nat.ble_eq] at hc
    have hv:=pre.opd h2
    have hcs:=ZiG hv hc.1.1
    have hl:=ZeJ _ _ hcs
    have hn:=Nat.eq_of_beq_eq_true hc.1.2
    have hz:=ZeJ _ _ hd
    simp only[Array.length_toList] at hl hz
    obtain⟨cells',e1,e2⟩:=ZzY pre ps qs (Zah z off (y.val e).cells) ((a.eval x).cells.zipIdx.foldl (fun cs (c,j)=>cs.setIfInBounds (off+j) c) cells) z' h3 (by
     have:((a.eval x).cells.zipIdx.foldl (fun cs (c,j)=>cs.setIfInBounds (off+j) c) cells).toList=Zah cells.toList off (a.eval x).cells.toList:=by
      rw[<- Array.foldl_toList,Array.toList_zipIdx]
      exact ZtZ _ 0 off cells
     rw[this]
     exact ZuQ hd hcs off) h
    refine⟨cells',?_,e2⟩
    simp only[List.map_cons,Instr.fill,hpl]
    rw[if_neg (by simp;omega)]
    exact e1
def Zs5 (P:Program) (t:TypeId):Option (Nat->Option (Nat×Nat)):=
 match P.underlying t with
 | some (.array _ e)=>(P.info? e).map fun ie=>fun i=>some (i*ie.size,ie.size)
 | some (.struct fields)=>(fields.toList.mapM (fun f=>(P.info? f.type).map fun i=>(f.offset,i.size))).map fun places=>(places.toArray[·]?)
 | _=>none
def Zma (P:Program) (t:TypeId):Option Value:=match P.info? t with | some i=>i.zero | none=>none
theorem ZFM (pre:Pre G R w e a Hm) {t:TypeId}{parts:Array (Nat×Operand)}{z:List V}{ps:List (Nat×Nat×Opd)}{cs:List V}{place:Nat->Option (Nat×Nat)}{zv:Value} (hop:o.op = .build t parts)
  (hpl:Zs5 P t=some place) (hz:Zma P t=some zv) (hzc:cvs z zv.cells.toList=true) (hps:ZpF G place parts.toList ps=true) (h:ZuS z (ps.map fun(o,s,x)=>(o,s,x.val e))=some cs) (hp:Z3 R.H [] nid [] H') :
  ZcG P o a w (Post R w nid 0 H' (Zxq cs)):=by
 obtain⟨cells',h1,h2⟩:=ZzY pre parts.toList ps z zv.cells cs hps (Zyy _ _ hzc) h
 have hb:P.built t (parts.map fun(i,x)=>(i,a.eval x)).toList=some cells':=by
  rw[Array.toList_map]
  unfold Program.built
  unfold Zma at hz
  unfold Zs5 at hpl
  cases hi:P.info? t with
  | none=>rw[hi] at hz;cases hz
  | some it=>
   rw[hi] at hz
   dsimp only at hz
   cases hu:P.underlying t with
   | none=>rw[hu] at hpl;cases hpl
   | some d=>
    rw[hu] at hpl
    cases d<;>try (cases hpl;done)
    ·rename_i n el
     dsimp only at hpl ⊢
     cases hie:P.info? el with
     | none=>rw[hie] at hpl;cases hpl
     | some ie=>
      rw[hie] at hpl
      simp only[Option.map_some,Option.some.injEq] at hpl
      subst hpl
      simp only[hz]
      exact h1
    ·rename_i fields
     dsimp only at hpl ⊢
     cases hm:fields.toList.mapM (fun f=>(P.info? f.type).map fun i=>(f.offset,i.size)) with
     | none=>rw[hm] at hpl;cases hpl
     | some places=>
      rw[hm] at hpl
      simp only[Option.map_some,Option.some.injEq] at hpl
      subst hpl
      simp only[hz,hm]
      exact h1
 refine ZbG (s:=Instr.build t (parts.map fun(i,x)=>(i,a.eval x))) (by unfold execOp;rw[hop]) (run_build w t _ cells' hb) (Post.stay pre.ok hp ?_)
 have:=ZsX h2
 simpa using this
def Zhf (P:Program) (t:TypeId):Option Bool:=match P.underlying t with | some .bool=>some true | some (.int _)=>some false | _=>none
def ZcN (P:Program):Nat->List Field->Option (List Bool)
 | _,[]=>some []
 | i, f :: fs => bif (f.name != "_") && Nat.beq f.offset i then (match Zhf P f.type, ZcN P (i + 1) fs with | some b, some l => some (b :: l) | _, _ => none) else none
theorem Zh0:∀(fs:List Field) (i:Nat) (ks:List Bool),ZcN P i fs=some ks->ks.length=fs.length
 | [],i,ks,h=>by simp only[ZcN,Option.some.injEq] at h;subst h;rfl
 | f :: fs,i,ks,h=>by
  simp only[ZcN] at h
  cases hc : ((f.name != "_") && Nat.beq f.offset i) with
  | false=>rw[hc] at h;cases h
  | true=>
   rw[hc] at h
   simp only[cond_true] at h
   cases hkt:Zhf P f.type with
   | none=>rw[hkt] at h;cases h
   | some b=>
    rw[hkt] at h
    cases hff:ZcN P (i+1) fs with
    | none=>rw[hff] at h;cases h
    | some ks'=>
     rw[hff] at h
     simp only[Option.some.injEq] at h
     subst h
     simp[Zh0 fs (i+1) ks' hff]
def ZoU (P:Program) (t:TypeId):Option (List Bool):=
 match P.underlying t with
 | some .bool=>some [true]
 | some (.int _)=>some [false]
 | some (.struct fs)=>bif !(Nat.beq fs.toList.length 1)&&(!(P.stoodInHeld t) && !(P.eqGuardType P.depth t)) then ZcN P 0 fs.toList else none
 | _=>none
theorem Zj0 {t:TypeId}{b:Bool} (h:Zhf P t=some b):Zjb P t=some false:=by
 unfold Zhf at h;unfold Zjb
 split at h<;>simp_all
theorem ZwD {t:TypeId}{b:Bool} (ht:Zhf P t=some b) {x y:D}{u1 u2:Value}{r:Bool} (hx:R.den w x u1) (hy:R.den w y u2) (h:eqD x y=some r) (hb:Zdz [b] [x]=true) (d:Nat):(Op.equalIn (d+1) t u1 u2).run P w = .ok r w:=by
 unfold Zhf at ht
 split at ht
 ·rename_i hu
  cases ht
  cases x<;>try (cases hb;done)
  cases y<;>try (cases h;done)
  cases hx;cases hy
  simp only[eqD,Option.some.injEq] at h
  subst h
  simp[Op.equalIn,run_underlying hu]
 ·rename_i k0 hu
  cases ht
  cases x<;>try (cases hb;done)
  cases y<;>try (cases h;done)
  cases hx;cases hy
  rename_i k n k' m
  simp only[eqD] at h
  cases hk:k==k' with
  | false=>rw[hk] at h;cases h
  | true=>
   rw[hk] at h
   obtain rfl:k=k':=by simpa using hk
   simp only[cond_true,Option.some.injEq] at h
   subst h
   simp[Op.equalIn,run_underlying hu]
 ·cases ht
theorem ZmZ {b:Bool}{ks:List Bool}{c:D}{cs:List D} (h:Zdz (b :: ks) (c :: cs)=true):Zdz [b] [c]=true/\Zdz ks cs=true:=by
 cases b<;>cases c<;>simp_all [Zdz]
theorem Zqn (d:Nat) (us vs:List Value):∀(fs:List Field) (i:Nat) (ks:List Bool) (xs ys:List D) (r:Bool),ZcN P i fs=some ks->Zdz ks xs=true->ZmV xs ys=some r ->
  (∀(j:Nat) x,xs[j]? = some x->∃u,us[i+j]? = some u/\R.den w x u)->(∀(j:Nat) y,ys[j]? = some y->∃u,vs[i+j]? = some u/\R.den w y u)->(Op.eqFields (d+1) us.toArray vs.toArray fs).run P w = .ok r w
 | [],i,ks,xs,ys,r,hf,hk,h,_,_=>by
  simp only[ZcN,Option.some.injEq] at hf
  subst hf
  cases xs with
  | cons x xs=>simp[Zdz] at hk
  | nil=>
   cases ys with
   | cons y ys=>simp[ZmV] at h
   | nil=>
    simp only[ZmV,Option.some.injEq] at h
    subst h
    simp[Op.eqFields]
 | f :: fs,i,ks,xs,ys,r,hf,hk,h,h1,h2=>by
  simp only[ZcN] at hf
  cases hc : ((f.name != "_") && Nat.beq f.offset i) with
  | false=>rw[hc] at hf;cases hf
  | true=>
   rw[hc] at hf
   simp only[cond_true] at hf
   simp only[Bool.and_eq_true] at hc
   cases hkt:Zhf P f.type with
   | none=>rw[hkt] at hf;cases hf
   | some b=>
    rw[hkt] at hf
    cases hff:ZcN P (i+1) fs with
    | none=>rw[hff] at hf;cases hf
    | some ks'=>
     rw[hff] at hf
     simp only[Option.some.injEq] at hf
     subst hf
     cases xs with
     | nil=>cases b<;>simp[Zdz] at hk
     | cons x xs=>
      cases ys with
      | nil=>simp[ZmV] at h
      | cons y ys=>
       obtain⟨k1,k2⟩:=ZmZ hk
       simp only[ZmV] at h
       cases e1:eqD x y with
       | none=>rw[e1] at h;cases h
       | some r1=>
        cases e2:ZmV xs ys with
        | none=>rw[e1,e2] at h;cases h
        | some r2=>
         rw[e1,e2] at h
         simp only[Option.some.injEq] at h
         subst h
         obtain⟨u,f1,f2⟩:=h1 0 x rfl
         obtain⟨v,g1,g2⟩:=h2 0 y rfl
         have hrest:=Zqn d us vs fs (i+1) ks' xs ys r2 hff k2 e2
          (fun j x hj=>by have:=h1 (j+1) x (by simpa using hj);rwa [show i+(j+1)=i+1+j from by omega] at this)
          (fun j x hj=>by have:=h2 (j+1) x (by simpa using hj);rwa [show i+(j+1)=i+1+j from by omega] at this)
         have hq:=ZwD (P:=P) hkt f2 g2 e1 k1 d
         have hn : f.name ≠ "_" := by simpa using hc.1
         have ho:=Nat.eq_of_beq_eq_true hc.2
         simp only[Nat.add_zero] at f1 g1
         have p1:(part f.type us.toArray f.offset).run P w = .ok u w:=by simp[part,Zg9 (Zj0 hkt),ho,f1]
         have p2:(part f.type vs.toArray f.offset).run P w = .ok v w:=by simp[part,Zg9 (Zj0 hkt),ho,g1]
         rw[Op.eqFields,if_pos hn]
         simp only[Sem.run_bind,p1,p2,hq,Result.andThen_ok]
         cases r1
         ·simp
         ·simpa using hrest
theorem ZJs (pre:Pre G R w e a Hm) {neg:Bool}{t t':TypeId}{x y:Operand}{x' y':Opd}{ks:List Bool}{d1 d2:D}{r:Bool} (hop:o.op = .binOp (bif neg then .neq else .eql) t x y t') (hx:ZK G x x'=true) (hy:ZK G y y'=true)
  (ht:ZoU P t=some ks) (h1:x'.val e = .d d1) (h2:y'.val e = .d d2) (hk:Zcw ks d1=true) (h:eqD d1 d2=some r) (hp:Z3 R.H [] nid [] H'):ZcG P o a w (Post R w nid 0 H' (.d (.bool (bif neg then !r else r)))):=by
 have hv1:=pre.opd hx
 have hv2:=pre.opd hy
 rw[h1] at hv1
 rw[h2] at hv2
 refine ZbG (s:=do eqGuard (bif neg then .neq else .eql) t x y (a.eval x) (a.eval y);binOp (bif neg then .neq else .eql) t (a.eval x) (a.eval y)) (u:=.bool (bif neg then !r else r)) (by unfold execOp;rw[hop]) ?_ (Post.stay pre.ok hp rfl)
 cases d1<;>try (cases h;done)
 ·cases d2<;>try (cases h;done)
  rename_i b1 b2
  rw[Zwg hv1,Zwg hv2]
  have hk':∃b,ks=[b]/\Zdz [b] [D.bool b1]=true:=by
   unfold Zcw at hk
   split at hk
   ·rename_i e1;cases e1
   ·split at hk
    ·exact⟨_,rfl,hk⟩
    ·cases hk
  obtain⟨b,rfl,hkb⟩:=hk'
  have hkt:Zhf P t=some true:=by
   cases b with
   | false=>cases hkb
   | true=>
    unfold ZoU at ht;unfold Zhf
    split at ht
    ·rename_i hu;rw[hu]
    ·cases ht
    ·rename_i fs hu
     cases hg:(!(Nat.beq fs.toList.length 1)&&(!(P.stoodInHeld t) && !(P.eqGuardType P.depth t))) with
     | false=>rw[hg] at ht;cases ht
     | true=>
      rw[hg] at ht
      simp only[cond_true] at ht
      have:=Zh0 _ _ _ ht
      rw[<- this] at hg
      cases hg
    ·cases ht
  have hq:=ZwD (P:=P) (R:=R) (w:=w) hkt (x:=.bool b1) (y:=.bool b2) rfl rfl h (by rfl) 9999
  cases neg<;>simp[eqGuard,binOp,Op.equal,Op.maxDepth,hq]
 ·cases d2<;>try (cases h;done)
  rename_i k n k' m
  rw[Zmn hv1,Zmn hv2]
  simp only[eqD] at h
  cases hkk:k==k' with
  | false=>rw[hkk] at h;cases h
  | true=>
   rw[hkk] at h
   obtain rfl:k=k':=by simpa using hkk
   simp only[cond_true,Option.some.injEq] at h
   subst h
   cases neg<;>simp[eqGuard,binOp,Op.intCmp]
   rfl
 ·cases d2<;>try (cases h;done)
  rename_i cs cs'
  obtain⟨us,e1,e2⟩:=hv1
  obtain⟨vs,e3,e4⟩:=hv2
  rw[e1,e3]
  have hk':(∀b,ks≠[b])/\Zdz ks cs=true:=by
   unfold Zcw at hk
   dsimp only at hk
   split at hk
   ·cases hk
   ·rename_i hn;exact⟨fun b hb=>hn b hb,hk⟩
  obtain⟨hn1,hk⟩:=hk'
  simp only[eqD] at h
  unfold ZoU at ht
  split at ht
  ·cases ht;exact absurd rfl (hn1 _)
  ·cases ht;exact absurd rfl (hn1 _)
  ·rename_i fs hu
   cases hg':(!(Nat.beq fs.toList.length 1)&&(!(P.stoodInHeld t) && !(P.eqGuardType P.depth t))) with
   | false=>rw[hg'] at ht;cases ht
   | true=>
    rw[hg'] at ht
    simp only[cond_true] at ht
    simp only[Bool.and_eq_true,Bool.not_eq_true'] at hg'
    obtain⟨_,hg⟩:=hg'
    have hfs:P.fieldsOf t=fs:=by unfold Program.fieldsOf;rw[hu]
    have hq:(Op.equalIn 10000 t (.agg us.toArray) (.agg vs.toArray)).run P w = .ok r w:=by
     rw[run_equalIn_struct w 9999 t us.toArray vs.toArray (by rw[hfs];exact hu) hg.1,hfs]
     exact Zqn 9998 us vs fs.toList 0 ks cs cs' r ht hk h (fun j x hj=>by simpa using Zhj cs us j x e2 hj) (fun j x hj=>by simpa using Zhj cs' vs j x e4 hj)
    cases neg<;>simp[eqGuard,binOp,Op.equal,Op.maxDepth,hq,hg.2]
  ·cases ht
def ZFQ (P:Program) (t:TypeId):Option (List Bool):=
 match P.underlying t with
 | some (.array n el)=>(match Zhf P el,Zhh P el with
  | some b,some m=>bif Nat.beq m 1&&(!(Nat.beq n 1) && !(P.eqGuardType P.depth t)) then some (List.replicate n b) else none
  | _,_=>none)
 | _=>none
theorem Zxp (d:Nat) (us vs:List Value) {el:TypeId}{b:Bool} (hkt:Zhf P el=some b):∀(m i:Nat) (xs ys:List D) (r:Bool),Zdz (List.replicate m b) xs=true->ZmV xs ys=some r ->
  (∀(j:Nat) x,xs[j]? = some x->∃u,us[i+j]? = some u/\R.den w x u)->(∀(j:Nat) y,ys[j]? = some y->∃u,vs[i+j]? = some u/\R.den w y u)->(Op.eqItems (d+1) el 1 us.toArray vs.toArray (List.range' i m)).run P w = .ok r w
 | 0,i,xs,ys,r,hk,h,_,_=>by
  cases xs with
  | cons x xs=>simp[Zdz] at hk
  | nil=>
   cases ys with
   | cons y ys=>simp[ZmV] at h
   | nil=>
    simp only[ZmV,Option.some.injEq] at h
    subst h
    simp[Op.eqItems]
 | m+1,i,xs,ys,r,hk,h,h1,h2=>by
  rw[List.replicate_succ] at hk
  cases xs with
  | nil=>cases b<;>simp[Zdz] at hk
  | cons x xs=>
   cases ys with
   | nil=>simp[ZmV] at h
   | cons y ys=>
    obtain⟨k1,k2⟩:=ZmZ hk
    simp only[ZmV] at h
    cases e1:eqD x y with
    | none=>rw[e1] at h;cases h
    | some r1=>
     cases e2:ZmV xs ys with
     | none=>rw[e1,e2] at h;cases h
     | some r2=>
      rw[e1,e2] at h
      simp only[Option.some.injEq] at h
      subst h
      obtain⟨u,f1,f2⟩:=h1 0 x rfl
      obtain⟨v,g1,g2⟩:=h2 0 y rfl
      have hrest:=Zxp d us vs hkt m (i+1) xs ys r2 k2 e2
       (fun j x hj=>by have:=h1 (j+1) x (by simpa using hj);rwa [show i+(j+1)=i+1+j from by omega] at this)
       (fun j x hj=>by have:=h2 (j+1) x (by simpa using hj);rwa [show i+(j+1)=i+1+j from by omega] at this)
      have hq:=ZwD (P:=P) hkt f2 g2 e1 k1 d
      simp only[Nat.add_zero] at f1 g1
      have p1:(part el us.toArray i).run P w = .ok u w:=by simp[part,Zg9 (Zj0 hkt),f1]
      have p2:(part el vs.toArray i).run P w = .ok v w:=by simp[part,Zg9 (Zj0 hkt),g1]
      rw[List.range'_succ]
      simp only[Op.eqItems,Nat.mul_one,Sem.run_bind,p1,p2,hq,Result.andThen_ok]
      cases r1
      ·simp
      ·simpa using hrest
theorem ZIq (pre:Pre G R w e a Hm) {neg:Bool}{t t':TypeId}{x y:Operand}{x' y':Opd}{ks:List Bool}{d1 d2:D}{r:Bool} (hop:o.op = .binOp (bif neg then .neq else .eql) t x y t') (hx:ZK G x x'=true) (hy:ZK G y y'=true)
  (ht:ZFQ P t=some ks) (h1:x'.val e = .d d1) (h2:y'.val e = .d d2) (hk:Zcw ks d1=true) (h:eqD d1 d2=some r) (hp:Z3 R.H [] nid [] H'):ZcG P o a w (Post R w nid 0 H' (.d (.bool (bif neg then !r else r)))):=by
 have hv1:=pre.opd hx
 have hv2:=pre.opd hy
 rw[h1] at hv1
 rw[h2] at hv2
 refine ZbG (s:=do eqGuard (bif neg then .neq else .eql) t x y (a.eval x) (a.eval y);binOp (bif neg then .neq else .eql) t (a.eval x) (a.eval y)) (u:=.bool (bif neg then !r else r)) (by unfold execOp;rw[hop]) ?_ (Post.stay pre.ok hp rfl)
 unfold ZFQ at ht
 split at ht
 ·rename_i n el hu
  split at ht
  ·rename_i b m hkt hsz
   cases hg':(Nat.beq m 1&&(!(Nat.beq n 1) && !(P.eqGuardType P.depth t))) with
   | false=>rw[hg'] at ht;cases ht
   | true=>
    rw[hg'] at ht
    simp only[cond_true,Option.some.injEq] at ht
    simp only[Bool.and_eq_true,Bool.not_eq_true'] at hg'
    obtain⟨hm,hn,hg⟩:=hg'
    obtain rfl:=Nat.eq_of_beq_eq_true hm
    have hn1:∀b',ks≠[b']:=fun b' hb=>by
     rw[hb] at ht
     have:=congrArg List.length ht
     rw[List.length_replicate] at this
     subst this
     cases hn
    cases d1<;>try (cases h;done)
    ·unfold Zcw at hk
     dsimp only at hk
     split at hk
     ·rename_i b';exact absurd rfl (hn1 b')
     ·cases hk
    ·unfold Zcw at hk
     dsimp only at hk
     split at hk
     ·rename_i b';exact absurd rfl (hn1 b')
     ·cases hk
    ·cases d2<;>try (cases h;done)
     rename_i cs cs'
     obtain⟨us,e1,e2⟩:=hv1
     obtain⟨vs,e3,e4⟩:=hv2
     rw[e1,e3]
     have hk':Zdz ks cs=true:=by
      unfold Zcw at hk
      dsimp only at hk
      split at hk
      ·cases hk
      ·exact hk
     simp only[eqD] at h
     subst ht
     obtain⟨info,hi,hsi⟩:∃i,P.info? el=some i/\i.size=1:=by
      unfold Zhh at hsz
      cases hi:P.info? el with
      | none=>rw[hi] at hsz;cases hsz
      | some i=>rw[hi] at hsz;exact⟨i,rfl,Option.some.inj hsz⟩
     have hc:P.cellsOf el=1:=by unfold Program.cellsOf;rw[hi];exact hsi
     have hq:(Op.equalIn 10000 t (.agg us.toArray) (.agg vs.toArray)).run P w = .ok r w:=by
      rw[run_equalIn_array w 9999 us.toArray vs.toArray hu hi,hc,List.range_eq_range']
      exact Zxp 9998 us vs hkt n 0 cs cs' r hk' h (fun j x hj=>by simpa using Zhj cs us j x e2 hj) (fun j x hj=>by simpa using Zhj cs' vs j x e4 hj)
     cases neg<;>simp[eqGuard,binOp,Op.equal,Op.maxDepth,hq,hg]
  ·cases ht
 ·cases ht
end
end Go.Proofs.YtgcfmiajkbbmeaaGreatDoorE
