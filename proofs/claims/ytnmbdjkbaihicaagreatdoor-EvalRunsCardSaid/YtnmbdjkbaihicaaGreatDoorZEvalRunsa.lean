/- EvalRuns: part 1 of 7 of the proof. -/
import Derived.Calls
import Derived.Orders
import Derived.Test.YtnmbdjkbaihicaaGreatDoorProg
import Derived.Below
import Derived.WalkKit
import Derived.Laws.MakeOwn
set_option maxRecDepth 100000
set_option maxHeartbeats 40000000
namespace Go.Proofs.YtnmbdjkbaihicaaGreatDoorE
open Go
inductive D where
 | bool (b:Bool) | int (k:IntKind) (n:Int) | str (s:ByteArray)
 | list (own:Bool) (xs:List D) | agg (cs:List D) | tup (vs:List D)
 | fn (f:Nat) (caps:List D) | nilfn
 | rptr (cs:List D) | nilp
 | iface (t:Nat) (v:D) | nilI
inductive V where
 | d (x:D) | bad
 | ptr (b o:Nat) | eptr (b sz i k:Nat)
 | sl (b sz:Nat) | slp (b sz o len:Nat) | nilsl (sz:Nat)
 | agg (cs:List V) | tup (vs:List V)
 | fn (f:Nat) (caps:List V)
 | mp (b:Nat)
inductive Blk where
 | dead | cells (cs:List V) | arr (sz:Nat) (xs:List D)
 | mp (es:List (D×D))
abbrev Zp:=List Blk
abbrev Env:=Nat→V
def Env.set (e:Env) (i:Nat) (v:V):Env:=fun j=>bif Nat.beq i j then v else e j
def env0:Env:=fun _=>.bad
def ZeK:List Nat→List V→Env
 | i :: is,v :: vs=>(ZeK is vs).set i v
 | _,_=>env0
def D.isAgg:D→Bool
 | .agg _=>true
 | _=>false
mutual
def D.esc:D→Bool
 | .list own _=>own
 | .agg cs=>D.escs cs
 | .tup _=>false
 | .iface _ v=>v.esc
 | .fn _ caps=>caps.isEmpty
 | .rptr _=>false
 | _=>true
def D.escs:List D→Bool
 | []=>true
 | c :: cs=>c.esc&&(!c.isAgg&&D.escs cs)
end
def Zw7:List D→Bool
 | []=>true
 | c :: cs=>c.esc&&Zw7 cs
mutual
def D.nofn:D→Bool
 | .fn _ caps=>caps.isEmpty
 | .agg cs=>D.nofns cs
 | .tup cs=>D.nofns cs
 | .rptr cs=>D.nofns cs
 | .iface _ v=>v.nofn
 | _=>true
def D.nofns:List D→Bool
 | []=>true
 | c :: cs=>c.nofn&&D.nofns cs
end
mutual
def ZsV:V→Bool
 | .d (.tup ts)=>Zw7 ts
 | .d x=>x.esc
 | .agg cs=>ZqT cs
 | .tup cs=>ZqT cs
 | .fn _ cs=>ZqT cs
 | _=>true
def ZqT:List V→Bool
 | []=>true
 | v :: vs=>ZsV v&&ZqT vs
end
mutual
def ZnZ:V→Bool
 | .d x=>x.nofn
 | .agg cs=>ZmN cs
 | .tup cs=>ZmN cs
 | .fn _ cs=>ZmN cs
 | _=>true
def ZmN:List V→Bool
 | []=>true
 | v :: vs=>ZnZ v&&ZmN vs
end
def Zn7:List Blk→Bool
 | []=>true
 | .cells cs :: r=>ZqT cs&&Zn7 r
 | _ :: r=>Zn7 r
def Zkg:List Blk→Bool
 | []=>true
 | .cells cs :: r=>ZmN cs&&Zkg r
 | _ :: r=>Zkg r
def V.isAggV:V→Bool
 | .d (.agg _)=>true
 | .agg _=>true
 | _=>false
def V.isD:V→Bool
 | .d _=>true
 | _=>false
def D.cells:D→List D
 | .agg cs=>cs
 | x=>[x]
inductive Opd where
 | t (i:Nat) | c (v:V)
inductive O where
 | mov (x:Opd)
 | pick (c a b:Opd)
 | alloc (z:V)
 | box (x:Opd)
 | build (z:List V) (ps:List (Nat×Nat×Opd))
 | bslice (sz:Nat) (z:List D) (len:Nat) (ps:List (Nat×Opd))
 | load (n:Nat) (ag:Bool) (x:Opd)
 | store (n:Nat) (x v:Opd)
 | nilck (x:Opd)
 | bin (op:BinOp) (x y:Opd)
 | eqv (ks:List Bool) (neg:Bool) (x y:Opd)
 | un (op:UnOp) (x:Opd)
 | conv (k:IntKind) (x:Opd)
 | mkfn (f:Nat) (caps:List Opd)
 | mkslice (sz:Nat) (z:List D) (n c:Opd)
 | slice (sz:Nat) (x:Opd) (lo hi mx:Option Opd)
 | faddr (off:Nat) (x:Opd)
 | field (off n:Nat) (ag:Bool) (x:Opd)
 | iaddr (sz:Nat) (x i:Opd)
 | index (len sz:Nat) (ag:Bool) (x i:Opd)
 | indexS (x i:Opd)
 | iaddrA (len sz:Nat) (x i:Opd)
 | len (x:Opd)
 | append (sz:Nat) (x y:Opd)
 | appendD (sz:Nat) (x y:Opd)
 | mx (isMax:Bool) (xs:List Opd)
 | extract (x:Opd) (i:Nat)
 | mkif (t:Nat) (x:Opd)
 | call (f:Nat) (args:List Opd)
 | callv (x:Opd) (args:List Opd)
 | invoke (tab:List (Nat×Nat)) (x:Opd) (args:List Opd)
 | mkmap
 | mapset (ks:List Bool) (m k v:Opd)
 | mapget (ks:List Bool) (z:D) (m k:Opd)
 | panic
 | callk (f:Nat) (args:List Opd) (chk:List Opd)
 | nilq (x:Opd)
 | spec (id:Nat) (args:List Opd)
structure Op1 where
 dst:Option Nat
 op:O
 guard:Option (Nat×Bool)
 mask:List Nat
 eff:Nat
inductive C where
 | skip | ret | exit (id:Nat)
 | seq (a b:C)
 | cond (x:Opd) (a b:C)
 | block (id:Nat) (a:C)
 | loop (live outs:List Nat) (a:C)
 | ops (l:List Op1)
 | draw (l:List Op1)
inductive Ex where
 | normal | exit (id:Nat) | ret
structure FnI where
 nargs:Nat
 body:C
 res:List (Nat×Option (Nat×Bool))
structure Ctx where
 code:Nat→Option FnI
 mode:Nat→Nat
abbrev oA (op:O):Op1:=⟨none,op,none,[],0⟩
abbrev oB (d:Nat) (op:O):Op1:=⟨some d,op,none,[],0⟩
abbrev oG (d:Nat) (op:O) (s:Nat) (b:Bool):Op1:=⟨some d,op,some (s,b),[],0⟩
abbrev oM (d:Nat) (op:O) (m:List Nat):Op1:=⟨some d,op,none,m,0⟩
abbrev iN (n:Int):Opd:=.c (.d (.int .i64 n))
abbrev bT:Opd:=.c (.d (.bool true))
abbrev bF:Opd:=.c (.d (.bool false))
def Opd.val (e:Env):Opd→V
 | .t i=>e i
 | .c v=>v
def vals (e:Env):List Opd→List V
 | []=>[]
 | x :: xs=>x.val e :: vals e xs
def Zmy:List V→Option (List D)
 | []=>some []
 | .d x :: r=>match Zmy r with | some l=>some (x :: l) | none=>none
 | _ :: _=>none
def Zvw (cs:List V):V:=match Zmy cs with | some l=>.d (.agg l) | none=>.agg cs
def Zxw (cs:List V):V:=match Zmy cs with | some l=>.d (.tup l) | none=>.tup cs
def ZcZ:List D→List V
 | []=>[]
 | x :: xs=>.d x :: ZcZ xs
def V.cells:V→List V
 | .d (.agg cs)=>ZcZ cs
 | .agg cs=>cs
 | v=>[v]
def nth {α:Type}:List α→Nat→Option α
 | [],_=>none
 | x :: _,0=>some x
 | _ :: xs,n+1=>nth xs n
def Zf9 {α:Type}:List α→Nat→α→List α
 | [],_,_=>[]
 | _ :: xs,0,v=>v :: xs
 | x :: xs,n+1,v=>x :: Zf9 xs n v
def Zay {α:Type}:List α→Nat→List α→List α
 | cs,_,[]=>cs
 | cs,o,v :: vs=>Zay (Zf9 cs o v) (o+1) vs
def fzl (f:V→Option D):List V→Option (List D)
 | []=>some []
 | v :: vs=>match f v,fzl f vs with | some x,some l=>some (x :: l) | _,_=>none
def fz (H:Zp):Nat→V→Option D
 | 0,_=>none
 | n+1,v=>match v with
  | .d x=>some x
  | .sl b sz=>match nth H b with
   | some (.arr sz' xs)=>bif Nat.beq sz sz' then some (.list false xs) else none
   | _=>none
  | .slp b sz o len=>match nth H b with
   | some (.arr sz' xs)=>bif Nat.beq sz sz' then some (.list false ((xs.drop o).take len)) else none
   | _=>none
  | .nilsl _=>some (.list true [])
  | .agg cs=>match fzl (fz H n) cs with | some l=>some (.agg l) | none=>none
  | .fn f caps=>match fzl (fz H n) caps with | some l=>some (.fn f l) | none=>none
  | .ptr b o=>match nth H b with
   | some (.cells cs)=>match fzl (fz H n) (cs.drop o) with | some l=>some (.rptr l) | none=>none
   | _=>none
  | _=>none
def fzs (H:Zp) (l:List V):Option (List D):=fzl (fz H 6) l
def frl (f:V→Option (D×List Nat)):List V→Option (List D×List Nat)
 | []=>some ([],[])
 | v :: vs=>match f v,frl f vs with | some (x,k),some (l,ks)=>some (x :: l,k++ks) | _,_=>none
def fr (H:Zp):Nat→V→Option (D×List Nat)
 | 0,_=>none
 | n+1,v=>match v with
  | .d x=>match x with
   | .tup ts=>bif Zw7 ts then some (.tup ts,[]) else none
   | x=>bif x.esc then some (x,[]) else none
  | .sl b sz=>match nth H b with
   | some (.arr sz' xs)=>bif Nat.beq sz sz' then some (.list true xs,[b]) else none
   | _=>none
  | .slp b sz o len=>match nth H b with
   | some (.arr sz' xs)=>bif Nat.beq sz sz' then some (.list true ((xs.drop o).take len),[b]) else none
   | _=>none
  | .nilsl _=>some (.list true [],[])
  | .agg cs=>match frl (fr H n) cs with | some (l,ks)=>bif D.escs l then some (.agg l,ks) else none | none=>none
  | .tup cs=>match frl (fr H n) cs with | some (l,ks)=>some (.tup l,ks) | none=>none
  | _=>none
def idx:List Nat→Nat→Nat→Option Nat
 | [],_,_=>none
 | a :: l,b,i=>bif Nat.beq a b then some i else idx l b (i+1)
mutual
def Zph (ρ:Nat→Option Nat):V→V
 | .d x=>.d x
 | .bad=>.bad
 | .ptr b o=>match ρ b with | some j=>.ptr j o | none=>.bad
 | .eptr b sz i k=>match ρ b with | some j=>.eptr j sz i k | none=>.bad
 | .sl b sz=>match ρ b with | some j=>.sl j sz | none=>.bad
 | .slp b sz o len=>match ρ b with | some j=>.slp j sz o len | none=>.bad
 | .nilsl sz=>.nilsl sz
 | .agg cs=>.agg (ZiZ ρ cs)
 | .tup cs=>.tup (ZiZ ρ cs)
 | .fn f caps=>.fn f (ZiZ ρ caps)
 | .mp b=>match ρ b with | some j=>.mp j | none=>.bad
def ZiZ (ρ:Nat→Option Nat):List V→List V
 | []=>[]
 | v :: vs=>Zph ρ v :: ZiZ ρ vs
end
def ZiC (ρ:Nat→Option Nat):Blk→Blk
 | .cells cs=>.cells (ZiZ ρ cs)
 | b=>b
mutual
def ZG6:V→List Nat
 | .ptr b _=>[b]
 | .eptr b _ _ _=>[b]
 | .sl b _=>[b]
 | .slp b _ _ _=>[b]
 | .mp b=>[b]
 | .agg cs=>ZiT cs
 | .tup cs=>ZiT cs
 | .fn _ caps=>ZiT caps
 | _=>[]
def ZiT:List V→List Nat
 | []=>[]
 | v :: vs=>ZG6 v++ZiT vs
end
def Zx5 (H:Zp) (b:Nat):List Nat:=match nth H b with | some (.cells cs)=>ZiT cs | _=>[]
def Zai (H:Zp) (b:Nat):Bool:=match nth H b with | some .dead=>false | some _=>true | none=>false
def Zj8 (l:List Nat) (b:Nat):Bool:=match l with | []=>false | a :: l=>bif Nat.beq a b then true else Zj8 l b
def ZgY (H:Zp):List Nat→List Nat→List Nat
 | l,[]=>l
 | l,b :: bs=>bif Zj8 l b || !(Zai H b) then ZgY H l bs else ZgY H (l++[b]) bs
def ZmQ (H:Zp):Nat→Nat→List Nat→List Nat
 | 0,_,l=>l
 | n+1,i,l=>match nth l i with
  | some b=>ZmQ H n (i+1) (ZgY H l (Zx5 H b))
  | none=>l
def Zo4:Nat→List Nat
 | 0=>[]
 | n+1=>Zo4 n++[n]
def Zpj (H:Zp) (k:Nat) (vs:List V):List Nat:=
 ZmQ H (H.length+1) 0 (ZgY H (Zo4 k) (ZiT vs))
def ZoX:List Nat→Bool
 | []=>true
 | a :: l=>!(Zj8 l a)&&ZoX l
def pick (H:Zp) (ρ:Nat→Option Nat):List Nat→Zp
 | []=>[]
 | b :: bs=>(match nth H b with | some blk=>ZiC ρ blk | none=>.dead) :: pick H ρ bs
def ZsS (n:Nat):List Nat→Bool
 | []=>true
 | a :: l=>Nat.blt a n&&ZsS n l
def extract (k:Nat) (vs:List V) (H:Zp):Option (List Nat×List V×Zp):=
 let L:=Zpj H k vs
 bif ZoX L&&ZsS H.length L then some (L,ZiZ (fun b=>idx L b 0) vs,pick H (fun b=>idx L b 0) L) else none
def Zcg:Nat→List V→List V×List Blk
 | _,[]=>([],[])
 | n,.nilsl sz :: vs=>bif Nat.blt 0 sz then (let r:=Zcg (n+1) vs;(.sl n sz :: r.1,.arr sz [] :: r.2)) else (let r:=Zcg n vs;(.nilsl sz :: r.1,r.2))
 | n,v :: vs=>let r:=Zcg n vs;(v :: r.1,r.2)
def ZcX:Nat→Zp→Zp×List Blk
 | _,[]=>([],[])
 | n,.cells cs :: H=>let r:=Zcg n cs;let q:=ZcX (n+r.2.length) H;(.cells r.1 :: q.1,r.2++q.2)
 | n,b :: H=>let q:=ZcX n H;(b :: q.1,q.2)
def Zq3 (k:Nat) (vs:List V) (H:Zp):Option (List V×Zp):=
 match extract k vs H with
 | none=>none
 | some (_,vs1,H1)=>
  let r:=Zcg H1.length vs1
  let q:=ZcX (H1.length+r.2.length) H1
  match extract k r.1 (q.1++(r.2++q.2)) with
  | none=>none
  | some (_,vs2,H2)=>some (vs2,H2)
mutual
def eqD:D→D→Option Bool
 | .bool a,.bool b=>some (a==b)
 | .int k a,.int k' b=>bif k==k' then some (a==b) else none
 | .agg xs,.agg ys=>Zrq xs ys
 | _,_=>none
def Zrq:List D→List D→Option Bool
 | [],[]=>some true
 | x :: xs,y :: ys=>match eqD x y,Zrq xs ys with | some a,some b=>some (a&&b) | _,_=>none
 | _,_=>none
end
def Zff:List Bool→List D→Bool
 | [],[]=>true
 | true :: ks,.bool _ :: cs=>Zff ks cs
 | false :: ks,.int _ _ :: cs=>Zff ks cs
 | _,_=>false
def ZdS (ks:List Bool):D→Bool
 | .agg cs=>(match ks with | [_]=>false | ks=>Zff ks cs)
 | x=>(match ks with | [_]=>Zff ks [x] | _=>false)
def lim:Nat:=1073741824
def ZA {α:Type} (xs:List α) (i:Int):Option α:=bif decide (0≤i) then nth xs i.toNat else none
abbrev Res:=Option (V×List (Nat×Blk)×List Blk)
def Zdt (v:V):Res:=some (v,[],[])
def ZCY (op:BinOp) (k:IntKind) (a b:Int):Option D:=
 match op with
 | .add=>some (.int k (k.wrap (a+b)))
 | .sub=>some (.int k (k.wrap (a-b)))
 | .mul=>some (.int k (k.wrap (a*b)))
 | .quo=>bif b==0 then none else some (.int k (k.wrap (a.tdiv b)))
 | .rem=>bif b==0 then none else some (.int k (a.tmod b))
 | .and=>some (.int k (k.wrap (BitVec.ofInt k.bits a &&& BitVec.ofInt k.bits b).toNat))
 | .or=>some (.int k (k.wrap (BitVec.ofInt k.bits a ||| BitVec.ofInt k.bits b).toNat))
 | .xor=>some (.int k (k.wrap (BitVec.ofInt k.bits a ^^^ BitVec.ofInt k.bits b).toNat))
 | .eql=>some (.bool (a==b))
 | .neq=>some (.bool (a != b))
 | .lss=>some (.bool (decide (a<b)))
 | .leq=>some (.bool (decide (a≤b)))
 | .gtr=>some (.bool (decide (b<a)))
 | .geq=>some (.bool (decide (b≤a)))
 | _=>none
def shI (op:BinOp) (k:IntKind) (a b:Int):Option D:=
 bif decide (b<0) then none else
 match op with
 | .shl=>some (.int k (k.wrap (a*2 ^ (min b.toNat k.bits))))
 | .shr=>some (.int k (a.fdiv (2 ^ (min b.toNat k.bits))))
 | _=>none
def Zqw (op:BinOp) (x y:V):Option D:=
 match op,x,y with
 | .shl,.d (.int k a),.d (.int _ b)=>shI .shl k a b
 | .shr,.d (.int k a),.d (.int _ b)=>shI .shr k a b
 | op,.d (.int k a),.d (.int k' b)=>bif k==k' then ZCY op k a b else none
 | _,_,_=>none
def unE (op:UnOp) (x:V):Option D:=
 match op,x with
 | .not,.d (.bool b)=>some (.bool !b)
 | .neg,.d (.int k n)=>some (.int k (k.wrap (0-n)))
 | _,_=>none
def V.okb:V→Bool
 | .bad=>false
 | .tup _=>false
 | .d (.tup _)=>false
 | _=>true
def V.flat:V→Bool
 | .bad=>false
 | .tup _=>false
 | .agg _=>false
 | .d (.tup _)=>false
 | .d (.agg _)=>false
 | _=>true
def ZtV:List V→Bool
 | []=>true
 | v :: vs=>v.flat&&ZtV vs
def Zdv (n:Nat) (ag:Bool) (cs:List V):Option V:=
 bif ag then (bif Nat.beq (cs.take n).length n then some (Zvw (cs.take n)) else none) else cs.head?
def ZdK (H:Zp) (n:Nat) (ag:Bool) (x:V):Option V:=
 match x with
 | .ptr b o=>match nth H b with
  | some (.cells cs)=>Zdv n ag (cs.drop o)
  | _=>none
 | .eptr b sz i k=>match nth H b with
  | some (.arr sz' xs)=>bif Nat.beq sz sz' then
    match nth xs i with
    | some x=>Zdv n ag (ZcZ (x.cells.drop k))
    | none=>none
   else none
  | _=>none
 | .d (.rptr cs)=>Zdv n ag (ZcZ cs)
 | _=>none
def ZoO (H:Zp) (n:Nat) (x v:V):Res:=
 match x with
 | .ptr b o=>match nth H b with
  | some (.cells cs)=>bif Nat.beq v.cells.length n&&Nat.ble (o+n) cs.length&&v.okb&&ZtV v.cells then some (.bad,[(b,.cells (Zay cs o v.cells))],[]) else none
  | _=>none
 | .eptr b sz i k=>match nth H b with
  | some (.arr sz' xs)=>bif Nat.beq sz sz' then
    match nth xs i,fr H 6 v with
    | some x,some (y,ks)=>
     bif Zj8 ks b then none else
     bif Nat.beq y.cells.length n&&Nat.ble (k+n) x.cells.length&&(V.d y).okb&&(x.isAgg || !y.isAgg) then
      some (.bad,(b,.arr sz (Zf9 xs i (bif x.isAgg then .agg (Zay x.cells k y.cells) else y))) :: ks.map (fun j=>(j,.dead)),[])
     else none
    | _,_=>none
   else none
  | _=>none
 | _=>none
def elems (H:Zp) (x:V):Option (List D):=
 match x with
 | .d (.list _ xs)=>some xs
 | .sl b sz=>match nth H b with | some (.arr sz' xs)=>bif Nat.beq sz sz' then some xs else none | _=>none
 | .slp b sz o len=>match nth H b with | some (.arr sz' xs)=>bif Nat.beq sz sz' then some ((xs.drop o).take len) else none | _=>none
 | .nilsl _=>some []
 | _=>none
def Zme (sz:Nat) (xs:List D) (l:Nat):Bool:=match nth xs l with | some z=>Nat.beq z.cells.length sz&&(V.d z).okb | none=>true
def Zm7 (nid:Nat) (H:Zp) (sz:Nat) (x y:V):Res:=
 match elems H y with
 | none=>none
 | some ys=>
  bif Zme sz ys 0 then
   match x with
   | .nilsl _=>bif Nat.ble ys.length lim then some (.sl nid sz,[],[.arr sz ys]) else none
   | .sl b sz'=>match nth H b with
    | some (.arr sz'' xs)=>bif Nat.beq sz sz'&&Nat.beq sz sz'' then
      (bif Nat.ble (xs.length+ys.length) lim then some (.sl nid sz,[(b,.dead)],[.arr sz (xs++ys)]) else none)
     else none
    | _=>none
   | .slp b sz' o len=>match nth H b with
    | some (.arr sz'' xs)=>bif Nat.beq sz sz'&&Nat.beq sz sz''&&Nat.ble (o+len+ys.length) xs.length then
      some (.slp b sz o (len+ys.length),[(b,.arr sz (xs.take (o+len)++(ys++xs.drop (o+len+ys.length))))],[])
     else none
    | _=>none
   | _=>none
  else none
def ZjC (H:Zp) (sz:Nat) (x y:V):Option V:=
 match x with
 | .nilsl _=>(match elems H y with
  | some ys=>bif Zme sz ys 0&&Nat.ble ys.length lim then some (.d (.list true ys)) else none
  | none=>none)
 | _=>none
def Ziq (v:Option V) (dflt:Nat):Option Nat:=
 match v with
 | none=>some dflt
 | some (.d (.int _ n))=>bif decide (0≤n) then some n.toNat else none
 | _=>none
def Zjx (H:Zp) (sz:Nat) (x:V) (lo hi mx:Option V):Option V:=
 match elems H x with
 | none=>none
 | some xs=>
  match Ziq lo 0,Ziq hi xs.length with
  | some l,some h=>
   bif Nat.ble l h&&Nat.ble h xs.length then
    match mx with
    | none=>match x with
     | .d (.list own _)=>bif Nat.beq l 0 || Zme sz xs l then some (.d (.list own ((xs.drop l).take (h-l)))) else none
     | .sl b sz'=>bif Nat.beq sz sz' then some (.slp b sz l (h-l)) else none
     | .slp b sz' o _=>bif Nat.beq sz sz' then some (.slp b sz (o+l) (h-l)) else none
     | .nilsl _=>some (.nilsl sz)
     | _=>none
    | some m=>match Ziq (some m) 0 with
     | some m=>bif Nat.beq m l&&Nat.beq m h then some (.nilsl sz) else none
     | none=>none
   else none
  | _,_=>none
def ZiS (H:Zp) (sz:Nat) (x i:V):Option V:=
 match i with
 | .d (.int _ i)=>
  match x with
  | .d (.list _ xs)=>match ZA xs i with | some x=>bif Nat.beq x.cells.length sz&&(V.d x).okb then some (.d (.rptr x.cells)) else none | none=>none
  | .sl b sz'=>match nth H b with
   | some (.arr sz'' xs)=>bif Nat.beq sz sz'&&Nat.beq sz sz'' then (match ZA xs i with | some _=>some (.eptr b sz i.toNat 0) | none=>none) else none
   | _=>none
  | .slp b sz' o len=>match nth H b with
   | some (.arr sz'' xs)=>bif Nat.beq sz sz'&&Nat.beq sz sz'' then (match ZA ((xs.drop o).take len) i with | some _=>some (.eptr b sz (o+i.toNat) 0) | none=>none) else none
   | _=>none
  | _=>none
 | _=>none
def ZoV (len sz:Nat) (ag:Bool) (x i:V):Option V:=
 match i with
 | .d (.int _ i)=>bif x.isAggV&&(decide (0≤i)&&decide (i<len)) then Zdv sz ag (x.cells.drop (i.toNat*sz)) else none
 | _=>none
def Zlk (x i:V):Option V:=
 match x,i with
 | .d (.str s),.d (.int _ i)=>bif decide (0≤i) then (match s[i.toNat]? with | some b=>some (.d (.int .u8 b.toNat)) | none=>none) else none
 | _,_=>none
def Zlh (_:Zp) (off:Nat) (x:V):Option V:=
 match x with
 | .ptr b o=>some (.ptr b (o+off))
 | .eptr b sz i k=>some (.eptr b sz i (k+off))
 | .d (.rptr cs)=>some (.d (.rptr (cs.drop off)))
 | _=>none
def ZwW (_:Zp) (x:V):Option V:=
 match x with
 | .d (.fn f caps)=>some (.d (.fn f caps))
 | .fn f caps=>some (.fn f caps)
 | .d (.iface t v)=>some (.d (.iface t v))
 | .d (.rptr cs)=>some (.d (.rptr cs))
 | .ptr b o=>some (.ptr b o)
 | .eptr b sz i k=>some (.eptr b sz i k)
 | _=>none
def Zhb (H:Zp) (len sz:Nat) (x i:V):Option V:=
 match i with
 | .d (.int _ i)=>bif decide (0≤i)&&decide (i<len) then Zlh H (i.toNat*sz) x else none
 | _=>none
def Zur (H:Zp) (x:V):Option D:=
 match elems H x with | some xs=>some (.int .i64 xs.length) | none=>none
def mxE (isMax:Bool):List V→Option D
 | []=>none
 | .d (.int k a) :: r=>go k a r
 | _=>none
where
 go (k:IntKind) (a:Int):List V→Option D
  | []=>some (.int k a)
  | .d (.int _ b) :: r=>go k (bif isMax then (bif decide (a<b) then b else a) else (bif decide (b<a) then b else a)) r
  | _=>none
def Ztc (z:List V):List (Nat×Nat×V)→Option (List V)
 | []=>some z
 | (off,size,v) :: r=>bif v.okb&&Nat.beq v.cells.length size&&Nat.ble (off+size) z.length then Ztc (Zay z off v.cells) r else none
def ZsE (H:Zp) (sz:Nat) (xs:List D):List (Nat×V)→Option (List D×List Nat)
 | []=>some (xs,[])
 | (i,v) :: r=>match fr H 6 v with
  | some (y,ks)=>(bif Nat.blt i xs.length&&Nat.beq y.cells.length sz&&(V.d y).okb then match ZsE H sz (Zf9 xs i y) r with | some (l,k2)=>some (l,ks++k2) | none=>none else none)
  | none=>none
def ZkP (es:List (D×D)) (k:D):Option (Option D):=
 match es with
 | []=>some none
 | (a,v) :: r=>match eqD k a with | some true=>some (some v) | some false=>ZkP r k | none=>none
def ZBn (es:List (D×D)) (k z:D):Option D:=match ZkP es k with | some (some y)=>some y | some none=>some z | none=>none
def Zka (es:List (D×D)) (k v:D):Option (List (D×D)):=
 match es with
 | []=>some [(k,v)]
 | (a,u) :: r=>match eqD k a with
  | some true=>some ((a,v) :: r)
  | some false=>(match Zka r k v with | some l=>some ((a,u) :: l) | none=>none)
  | none=>none
def Ziv:D→Bool
 | .bool _=>true
 | .int _ _=>true
 | _=>false
def Zo3 (H:Zp) (ks:List Bool) (m k v:V):Res:=
 match m,k,v with
 | .mp b,.d k,.d y=>(match nth H b with
  | some (.mp es)=>(match ZdS ks k&&Ziv y with | true=>(match Zka es k y with | some l=>some (.bad,[(b,.mp l)],[]) | none=>none) | false=>none)
  | _=>none)
 | _,_,_=>none
def Znl (H:Zp) (ks:List Bool) (z:D) (m k:V):Option D:=
 match m,k with
 | .mp b,.d k=>(match nth H b with
  | some (.mp es)=>(match ZdS ks k with | true=>ZBn es k z | false=>none)
  | _=>none)
 | _,_=>none
def ZuJ:List D→Option (List (Int×Int))
 | []=>some []
 | .agg [.int .i64 a,.int .i64 b] :: r=>match ZuJ r with | some l=>some ((a,b) :: l) | none=>none
 | _=>none
def pc (zs:List (Int×Int)) (j:Nat):Int×Int:=zs[j]?.getD (0,0)
def Zfx (zs:List (Int×Int)) (p:Int):Nat→Int
 | 0=>-1
 | k+1=>bif ((pc zs k).1 != p || decide (p<0)) then Zfx zs p k else (k:Int)
def ZlT (id:Nat) (l:List D):Option D:=
 match id,l with
 | 0,[.agg [_,_,.list _ xs],.int .i64 p]=>(match ZuJ xs with | some zs=>bif Nat.ble zs.length lim then some (.int .i64 (Zfx zs p zs.length)) else none | none=>none)
 | _,_=>none
abbrev Zbs:=Nat→List V→Zp→Option (V×Zp)
def Zhn (Γ:Ctx) (cf:Zbs) (nid:Nat) (H:Zp) (f:Nat) (args:List V):Res:=
 match Γ.mode f with
 | 0=>match fzs H args with
  | some l=>match cf f (ZcZ l) [] with
   | some (v,H1)=>match fr H1 6 v with | some (x,_)=>(match x with | .tup ts=>some (.tup (ZcZ ts),[],[]) | x=>some (.d x,[],[])) | none=>none
   | none=>none
  | none=>none
 | 1=>match fzs H args with
  | some l=>match cf f (ZcZ l) [] with
   | some (v,H1)=>bif ZsV v&&Zn7 H1 then let up:=fun j=>some (nid+j);some (Zph up v,[],H1.map (ZiC up)) else none
   | none=>none
  | none=>none
 | _=>
  match extract 0 args H with
  | none=>none
  | some (L,args',H0)=>match cf f args' H0 with
   | some (v,H1)=>bif ZnZ v&&Zkg H1 then
     let back:=fun j=>match nth L j with | some b=>some b | none=>some (nid+(j-L.length))
     some (Zph back v,L.zip (H1.map (ZiC back)),(H1.drop L.length).map (ZiC back)) else none
   | none=>none
def ZeX (H:Zp):List (Nat×Blk)→Zp
 | []=>H
 | (b,blk) :: r=>ZeX (Zf9 H b blk) r
def ZyO (e:Env) (H H':Zp):List Opd→Bool
 | []=>true
 | x :: xs=>(match x.val e with
  | .ptr b o=>(match ZdK H 1 false (.ptr b o),ZdK H' 1 false (.ptr b o) with | some (.mp i),some (.mp j)=>Nat.beq i j | _,_=>false)
  | _=>false)&&ZyO e H H' xs
def Zlx:V→Option (Nat×List V)
 | .fn f caps=>some (f,caps)
 | .d (.fn f caps)=>some (f,ZcZ caps)
 | _=>none
def Zhq (Γ:Ctx) (v:V) (f:Nat) (caps:List V):Bool:=v.isD&&(!(Nat.ble (Γ.mode f) 1) && !caps.isEmpty)
def Zoa (tab:List (Nat×Nat)) (t:Nat):Option Nat:=
 match tab with
 | []=>none
 | (a,f) :: r=>bif Nat.beq a t then some f else Zoa r t
def opE (Γ:Ctx) (cf:Zbs) (e:Env) (nid:Nat) (H:Zp):O→Res
 | .mov x=>Zdt (x.val e)
 | .pick c a b=>match c.val e with | .d (.bool t)=>Zdt (bif t then a.val e else b.val e) | _=>none
 | .alloc z=>some (.ptr nid 0,[],[.cells z.cells])
 | .box x=>bif (x.val e).okb then some (.ptr nid 0,[],[.cells (x.val e).cells]) else none
 | .build z ps=>match Ztc z (ps.map fun(o,s,x)=>(o,s,x.val e)) with | some cs=>Zdt (Zvw cs) | none=>none
 | .bslice sz z len ps=>bif Nat.beq len 0 then Zdt (.nilsl sz) else match ZsE H sz (List.replicate len (match z with | [x]=>x | z=>.agg z)) (ps.map fun(i,x)=>(i,x.val e)) with
  | some (xs,ks)=>some (.sl nid sz,ks.map (fun j=>(j,.dead)),[.arr sz xs])
  | none=>none
 | .load n ag x=>match ZdK H n ag (x.val e) with | some v=>Zdt v | none=>none
 | .store n x v=>ZoO H n (x.val e) (v.val e)
 | .nilck x=>match ZwW H (x.val e) with | some v=>Zdt v | none=>none
 | .bin op x y=>match Zqw op (x.val e) (y.val e) with | some r=>Zdt (.d r) | none=>none
 | .eqv ks neg x y=>match x.val e,y.val e with
  | .d a,.d b=>(match ZdS ks a with | true=>(match eqD a b with | some r=>Zdt (.d (.bool (bif neg then !r else r))) | none=>none) | false=>none)
  | _,_=>none
 | .un op x=>match unE op (x.val e) with | some r=>Zdt (.d r) | none=>none
 | .conv k x=>match x.val e with | .d (.int _ n)=>Zdt (.d (.int k (k.wrap n))) | _=>none
 | .mkfn f caps=>Zdt (match caps with | []=>.d (.fn f []) | caps=>.fn f (vals e caps))
 | .mkslice sz z n c=>match n.val e,c.val e with
  | .d (.int _ n),.d (.int _ c)=>bif decide (0≤n)&&decide (n≤lim)&&decide (n==c) then
    some (.sl nid sz,[],[.arr sz (List.replicate n.toNat (match z with | [x]=>x | z=>.agg z))]) else none
  | _,_=>none
 | .slice sz x lo hi mx=>match Zjx H sz (x.val e) (lo.map (·.val e)) (hi.map (·.val e)) (mx.map (·.val e)) with | some v=>Zdt v | none=>none
 | .faddr off x=>match Zlh H off (x.val e) with | some v=>Zdt v | none=>none
 | .field off n ag x=>match x.val e with
  | .d (.agg cs)=>(match Zdv n ag (ZcZ (cs.drop off)) with | some v=>Zdt v | none=>none)
  | .agg cs=>(match Zdv n ag (cs.drop off) with | some v=>Zdt v | none=>none)
  | _=>none
 | .iaddr sz x i=>match ZiS H sz (x.val e) (i.val e) with | some v=>Zdt v | none=>none
 | .index len sz ag x i=>match ZoV len sz ag (x.val e) (i.val e) with | some v=>Zdt v | none=>none
 | .indexS x i=>match Zlk (x.val e) (i.val e) with | some v=>Zdt v | none=>none
 | .iaddrA len sz x i=>match Zhb H len sz (x.val e) (i.val e) with | some v=>Zdt v | none=>none
 | .len x=>match Zur H (x.val e) with | some r=>Zdt (.d r) | none=>none
 | .append sz x y=>Zm7 nid H sz (x.val e) (y.val e)
 | .appendD sz x y=>match ZjC H sz (x.val e) (y.val e) with | some v=>Zdt v | none=>none
 | .mx b xs=>match mxE b (vals e xs) with | some r=>Zdt (.d r) | none=>none
 | .extract x i=>match x.val e with
  | .tup vs=>(match nth vs i with | some v=>Zdt v | none=>none)
  | .d (.tup vs)=>(match nth vs i with | some v=>Zdt (.d v) | none=>none)
  | _=>none
 | .mkif t x=>match fr H 6 (x.val e) with | some (y,[])=>Zdt (.d (.iface t y)) | _=>none
 | .call f args=>Zhn Γ cf nid H f (vals e args)
 | .callv x args=>match Zlx (x.val e) with
  | some (f,caps)=>(match Zhq Γ (x.val e) f caps with | true=>none | false=>Zhn Γ cf nid H f (vals e args++caps))
  | none=>none
 | .invoke tab x args=>match x.val e with
  | .d (.iface t y)=>(match Zoa tab t with | some f=>Zhn Γ cf nid H f (.d y :: vals e args) | none=>none)
  | _=>none
 | .mkmap=>some (.mp nid,[],[.mp []])
 | .mapset ks m k v=>Zo3 H ks (m.val e) (k.val e) (v.val e)
 | .mapget ks z m k=>match Znl H ks z (m.val e) (k.val e) with | some r=>Zdt (.d r) | none=>none
 | .panic=>none
 | .callk f args _=>Zhn Γ cf nid H f (vals e args)
 | .spec id args=>match H,Zmy (vals e args) with | [],some l=>(match ZlT id l with | some r=>Zdt (.d r) | none=>none) | _,_=>none
 | .nilq x=>match elems H (x.val e) with | some xs=>(match Nat.blt 0 xs.length with | true=>Zdt (.d (.bool false)) | false=>none) | none=>none
def Zsn (e:Env) (dst:Option Nat) (v:V):Env:=match dst with | some i=>e.set i v | none=>e
def Zgv (e:Env) (g:Option (Nat×Bool)):Option Bool:=
 match g with
 | none=>some true
 | some (s,b)=>match e s with | .d (.bool t)=>some (t==b) | .d (.tup [])=>some false | _=>none
def Zi8 (Γ:Ctx) (cf:Zbs):List Op1→Env→Zp→Option (Env×Zp)
 | [],e,H=>some (e,H)
 | o :: r,e,H=>match Zgv e o.guard with
  | some true=>(match opE Γ cf e H.length H o.op with
   | some (v,up,nw)=>Zi8 Γ cf r (Zsn e o.dst v) (ZeX H up++nw)
   | none=>none)
  | some false=>Zi8 Γ cf r (Zsn e o.dst (.d (.tup []))) H
  | none=>none
def ZAt (H:Zp) (b:Nat):Nat→Zp
 | 0=>H
 | n+1=>ZAt (Zf9 H b .dead) (b+1) n
def Zhm (H:Zp) (pos:List (Nat×Nat)):List Nat→Zp
 | []=>H
 | i :: r=>match nth pos i with | some (b,n)=>Zhm (ZAt H b n) pos r | none=>Zhm H pos r
def Zwi:List (Nat×Blk)→Bool
 | []=>true
 | (_,.dead) :: _=>false
 | _ :: r=>Zwi r
def ZrB (eff:Nat) (up:List (Nat×Blk)) (nw:List Blk):Bool:=match eff with | 0=>up.isEmpty | 1=>up.isEmpty&&nw.isEmpty | 3=>Zwi up&&nw.isEmpty | _=>true
def ZGe (e:Env) (H:Zp) (up:List (Nat×Blk)):O→Bool
 | .callk _ _ chk=>ZyO e H (ZeX H up) chk
 | _=>true
def Zrx (e:Env) (H:Zp) (o:Op1) (up:List (Nat×Blk)) (nw:List Blk):Bool:=ZrB o.eff up nw&&ZGe e H up o.op
def Zgq (Γ:Ctx) (cf:Zbs) (pos:List (Nat×Nat)):List Op1→Env→Zp→Option (Env×Zp)
 | [],e,H=>some (e,H)
 | o :: r,e,H=>match Zgv e o.guard with
  | some true=>(match opE Γ cf e H.length (Zhm H pos o.mask) o.op with
   | some (v,up,nw)=>bif Zrx e H o up nw then Zgq Γ cf (pos++[(H.length,nw.length)]) r (Zsn e o.dst v) (ZeX H up++nw) else none
   | _=>none)
  | some false=>Zgq Γ cf (pos++[(H.length,0)]) r (Zsn e o.dst (.d (.tup []))) H
  | none=>none
inductive Lp where
 | again (vs:List V) (H:Zp)
 | done (x:Ex) (vs:List V) (H:Zp)
abbrev St:=Env×Zp
def Zdw (F:List V→Zp→Option Lp):Nat→List V→Zp→Option (Ex×List V×Zp)
 | 0,_,_=>none
 | n+1,vs,H=>match F vs H with
  | some (.again vs H)=>Zdw F n vs H
  | some (.done x vs H)=>some (x,vs,H)
  | none=>none
def Zfe (k:Nat) (live outs:List Nat) (r:Option (Ex×Env×Zp)):Option Lp:=
 match r with
 | some (.normal,e,H)=>(match Zq3 k (live.map e) H with | some (vs,H)=>some (.again vs H) | none=>none)
 | some (x,e,H)=>(match extract k (outs.map e) H with | some (_,vs,H)=>some (.done x vs H) | none=>none)
 | none=>none
def Zav (Γ:Ctx) (cf:Zbs) (It:(List V→Zp→Option Lp)→List V→Zp→Option (Ex×List V×Zp)) (k:Nat):C→Env→Zp→Option (Ex×Env×Zp)
 | .skip,e,H=>some (.normal,e,H)
 | .ret,e,H=>some (.ret,e,H)
 | .exit id,e,H=>some (.exit id,e,H)
 | .seq a b,e,H=>match Zav Γ cf It k a e H with
  | some (.normal,e,H)=>Zav Γ cf It k b e H
  | r=>r
 | .cond x a b,e,H=>match x.val e with
  | .d (.bool t)=>(match t with | true=>Zav Γ cf It k a e H | false=>Zav Γ cf It k b e H)
  | _=>none
 | .block id a,e,H=>match Zav Γ cf It k a e H with
  | some (.exit j,e,H)=>bif Nat.beq j id then some (.normal,e,H) else some (.exit j,e,H)
  | r=>r
 | .loop live outs a,e,H=>match Zq3 k (live.map e) H with
  | some (vs,H)=>(match It (fun vs H=>Zfe k live outs (Zav Γ cf It k a (ZeK live vs) H)) vs H with
   | some (x,vs,H)=>some (x,ZeK outs vs,H)
   | none=>none)
  | none=>none
 | .ops l,e,H=>match Zi8 Γ cf l e H with | some (e,H)=>some (.normal,e,H) | none=>none
 | .draw l,e,H=>match Zgq Γ cf [] l e H with | some (e,H)=>some (.normal,e,H) | none=>none
def Zfr (i:Nat):List V→Env
 | []=>env0
 | v :: vs=>(Zfr (i+1) vs).set i v
def Znz (e:Env) (H:Zp):List (Nat×Option (Nat×Bool))→Option (List V)
 | []=>some []
 | (i,none) :: r=>match Znz e H r with | some l=>some (e i :: l) | none=>none
 | (i,some (n,ag)) :: r=>match ZdK H n ag (e i),Znz e H r with | some v,some l=>some (v :: l) | _,_=>none
def Zin:List V→V
 | [v]=>v
 | l=>Zxw l
def Zmd (Γ:Ctx) (cf:Zbs) (It:(List V→Zp→Option Lp)→List V→Zp→Option (Ex×List V×Zp)) (f:Nat) (args:List V) (H:Zp):Option (V×Zp):=
 match Γ.code f with
 | none=>none
 | some fn=>
  bif Nat.beq args.length fn.nargs then
   match Zav Γ cf It H.length fn.body (Zfr 0 args) H with
   | some (.exit _,_,_)=>none
   | some (_,e,H1)=>(match Znz e H1 fn.res with
    | some l=>(match extract H.length [Zin l] H1 with | some (_,[v],H2)=>some (v,H2) | _=>none)
    | none=>none)
   | none=>none
  else none
def evN (Γ:Ctx):Nat→Zbs
 | 0=>fun _ _ _=>none
 | n+1=>Zmd Γ (evN Γ n) (fun F=>Zdw F n)
end Go.Proofs.YtnmbdjkbaihicaaGreatDoorE
namespace Go.Proofs.YtnmbdjkbaihicaaGreatDoor
open Go Go.Proofs.YtnmbdjkbaihicaaGreatDoorE
abbrev qM (d x:Nat):Op1:=⟨some d,.mov (.t x),none,[],0⟩
abbrev uM (d x:Nat) (l:List Nat):Op1:=⟨some d,.mov (.t x),none,l,0⟩
abbrev vM (d x s:Nat) (b:Bool):Op1:=⟨some d,.mov (.t x),some (s,b),[],0⟩
abbrev wM (d x s:Nat) (b:Bool) (l:List Nat):Op1:=⟨some d,.mov (.t x),some (s,b),l,0⟩
abbrev qL (d x:Nat):Op1:=⟨some d,.load 1 false (.t x),none,[],0⟩
abbrev uL (d x:Nat) (l:List Nat):Op1:=⟨some d,.load 1 false (.t x),none,l,0⟩
abbrev vL (d x s:Nat) (b:Bool):Op1:=⟨some d,.load 1 false (.t x),some (s,b),[],0⟩
abbrev wL (d x s:Nat) (b:Bool) (l:List Nat):Op1:=⟨some d,.load 1 false (.t x),some (s,b),l,0⟩
abbrev qA (d n x:Nat):Op1:=⟨some d,.load n true (.t x),none,[],0⟩
abbrev uA (d n x:Nat) (l:List Nat):Op1:=⟨some d,.load n true (.t x),none,l,0⟩
abbrev vA (d n x s:Nat) (b:Bool):Op1:=⟨some d,.load n true (.t x),some (s,b),[],0⟩
abbrev wA (d n x s:Nat) (b:Bool) (l:List Nat):Op1:=⟨some d,.load n true (.t x),some (s,b),l,0⟩
abbrev qF (d n x:Nat):Op1:=⟨some d,.faddr n (.t x),none,[],0⟩
abbrev uF (d n x:Nat) (l:List Nat):Op1:=⟨some d,.faddr n (.t x),none,l,0⟩
abbrev vF (d n x s:Nat) (b:Bool):Op1:=⟨some d,.faddr n (.t x),some (s,b),[],0⟩
abbrev wF (d n x s:Nat) (b:Bool) (l:List Nat):Op1:=⟨some d,.faddr n (.t x),some (s,b),l,0⟩
abbrev qN (d x:Nat):Op1:=⟨some d,.len (.t x),none,[],0⟩
abbrev uN (d x:Nat) (l:List Nat):Op1:=⟨some d,.len (.t x),none,l,0⟩
abbrev vN (d x s:Nat) (b:Bool):Op1:=⟨some d,.len (.t x),some (s,b),[],0⟩
abbrev qI (d n x y:Nat):Op1:=⟨some d,.iaddr n (.t x) (.t y),none,[],0⟩
abbrev uI (d n x y:Nat) (l:List Nat):Op1:=⟨some d,.iaddr n (.t x) (.t y),none,l,0⟩
abbrev vI (d n x y s:Nat) (b:Bool):Op1:=⟨some d,.iaddr n (.t x) (.t y),some (s,b),[],0⟩
abbrev wI (d n x y s:Nat) (b:Bool) (l:List Nat):Op1:=⟨some d,.iaddr n (.t x) (.t y),some (s,b),l,0⟩
abbrev qU (d x:Nat):Op1:=⟨some d,.un .not (.t x),none,[],0⟩
abbrev vU (d x s:Nat) (b:Bool):Op1:=⟨some d,.un .not (.t x),some (s,b),[],0⟩
abbrev qE (d x n:Nat):Op1:=⟨some d,.extract (.t x) n,none,[],0⟩
abbrev uE (d x n:Nat) (l:List Nat):Op1:=⟨some d,.extract (.t x) n,none,l,0⟩
abbrev qB (d:Nat) (o:BinOp) (x y:Nat):Op1:=⟨some d,.bin o (.t x) (.t y),none,[],0⟩
abbrev qK (d:Nat) (o:BinOp) (x:Nat) (n:Int):Op1:=⟨some d,.bin o (.t x) (iN n),none,[],0⟩
abbrev vB (d:Nat) (o:BinOp) (x y s:Nat) (b:Bool):Op1:=⟨some d,.bin o (.t x) (.t y),some (s,b),[],0⟩
abbrev vK (d:Nat) (o:BinOp) (x:Nat) (n:Int) (s:Nat) (b:Bool):Op1:=⟨some d,.bin o (.t x) (iN n),some (s,b),[],0⟩
abbrev qW (d:Nat) (n:Int):Op1:=⟨some d,.mov (iN n),none,[],0⟩
abbrev qC (d f x:Nat):Op1:=⟨some d,.call f [.t x],none,[],0⟩
abbrev qD (d f x y:Nat):Op1:=⟨some d,.call f [.t x,.t y],none,[],0⟩
abbrev uS (d:Nat) (l:List Nat):Op1:=⟨some d,.bslice 1 [.int .i64 0] 0 [],none,l,0⟩
abbrev qP (d x y:Nat):Op1:=⟨some d,.pick (.t x) (.t y) bF,none,[],0⟩
abbrev zI:V:=.d (.int .i64 0)
abbrev zD:D:=.int .i64 0
def ZGl:List D:=[.int .u8 0,.int .u8 1,.int .u8 28,.int .u8 2,.int .u8 29,.int .u8 14,.int .u8 24,.int .u8 3,.int .u8 30,.int .u8 22,.int .u8 20,.int .u8 15,.int .u8 25,.int .u8 17,.int .u8 4,.int .u8 8,.int .u8 31,.int .u8 27,.int .u8 13,.int .u8 23,.int .u8 21,.int .u8 19,.int .u8 16,.int .u8 7,.int .u8 26,.int .u8 12,.int .u8 18,.int .u8 6,.int .u8 11,.int .u8 5,.int .u8 10,.int .u8 9]
def ZAE:List D:=[.int .u8 0,.int .u8 1,.int .u8 56,.int .u8 2,.int .u8 57,.int .u8 49,.int .u8 28,.int .u8 3,.int .u8 61,.int .u8 58,.int .u8 42,.int .u8 50,.int .u8 38,.int .u8 29,.int .u8 17,.int .u8 4,.int .u8 62,.int .u8 47,.int .u8 59,.int .u8 36,.int .u8 45,.int .u8 43,.int .u8 51,.int .u8 22,.int .u8 53,.int .u8 39,.int .u8 33,.int .u8 30,.int .u8 24,.int .u8 18,.int .u8 12,.int .u8 5,.int .u8 63,.int .u8 55,.int .u8 48,.int .u8 27,.int .u8 60,.int .u8 41,.int .u8 37,.int .u8 16,.int .u8 46,.int .u8 35,.int .u8 44,.int .u8 21,.int .u8 52,.int .u8 32,.int .u8 23,.int .u8 11,.int .u8 54,.int .u8 26,.int .u8 40,.int .u8 15,.int .u8 34,.int .u8 20,.int .u8 31,.int .u8 10,.int .u8 25,.int .u8 14,.int .u8 19,.int .u8 9,.int .u8 13,.int .u8 8,.int .u8 7,.int .u8 6]
def ir4:C:=.seq (.ops [oB 2 (.box (.t 0)),oB 4 (.mov bF)]) (.seq (.seq (.ops [oB 11 (.call 6 []),qU 12 11,qM 13 12,vA 14 6 2 13 false,vM 15 1 13 false,oG 16 (.build [(.nilsl 1),(.nilsl 1)] []) 13 false,oG 17 (.call 7 [.t 14,.t 15,.t 16]) 13 false,vU 18 17 13 false,oB 19 (.pick (.t 13) bT (.t 18))]) (.cond (.t 19) (.seq (.ops [oB 20 (.call 6 []),qM 4 20]) .ret) .skip)) (.seq (.ops [qA 22 6 2,qC 23 9 22,oB 24 (.bslice 1 [zD] 0 []),qM 25 1,oB 26 (.append 1 (.t 24) (.t 25)),qD 27 19 23 26,qM 21 27,qE 28 21 0,qE 29 21 1,qM 5 28,qM 6 29]) (.seq (.ops [qA 31 6 2,qM 32 1,qD 33 20 31 32,qM 30 33,qE 34 30 0,qE 35 30 1,qM 7 34,qM 8 35]) (.seq (.ops [qA 37 6 2,qC 38 9 37,qC 39 21 38,qM 36 39,qE 40 36 0,qE 41 36 1,oB 9 (.alloc (.agg [(.nilsl 1),(.nilsl 1)])),oA (.store 2 (.t 9) (.t 40)),qM 10 41]) (.seq (.seq (.ops [qM 42 8,qK 43 .neq 42 0]) (.cond (.t 43) (.seq (.ops [qM 44 5,qN 45 44,qK 46 .eql 45 0,qM 47 46,vM 48 6 47 true,vM 49 8 47 true,vB 50 .eql 48 49 47 true,qP 51 47 50,qM 52 51,vM 53 10 52 true,vM 54 8 52 true,vB 55 .eql 53 54 52 true,qP 56 52 55,qM 57 56,vA 58 2 9 57 true,oG 59 (.build [(.nilsl 1),(.nilsl 1)] []) 57 true,oG 60 (.call 16 [.t 58,.t 59]) 57 true,qP 61 57 60,qM 4 61]) .ret) .skip)) (.seq (.draw [qM 62 5,uM 63 7 [0],qD 64 14 62 63,qM 65 64,vM 66 6 65 true,vK 67 .eql 66 0 65 true,qP 68 65 67,qM 69 68,vM 70 10 69 true,vK 71 .eql 70 0 69 true,qP 72 69 71,qM 73 72,vA 74 2 9 73 true,wA 75 6 2 73 true [12],⟨some 76,.call 22 [.t 75],some (73,true),[12],0⟩,oG 77 (.call 16 [.t 74,.t 76]) 73 true,qP 78 73 77,qM 4 78]) .ret))))))
def fn4:FnI:=⟨2,ir4,[(4,none)]⟩
def ir6:C:=.seq (.ops [oB 0 (.mov bF)]) (.seq (.ops [oB 10 (.build [zI,zI,zI] [(0,1,(iN 1)),(1,1,(iN 1)),(2,1,(iN 1))]),oB 11 (.build [zI,zI,zI] [(0,1,(iN 0)),(1,1,(iN 0)),(2,1,(iN 1))]),oB 12 (.build [zI,zI,zI] [(0,1,(iN 5)),(2,1,(iN 2))]),oB 13 (.bslice 3 [zD,zD,zD] 3 [(0,(.t 10)),(1,(.t 11)),(2,(.t 12))]),oB 14 (.build [zI,zI] [(0,1,(iN 0)),(1,1,(iN 2))]),oB 15 (.bslice 2 [zD,zD] 1 [(0,(.t 14))]),oB 16 (.build [zI,zI,zI] [(0,1,(iN 1)),(1,1,(iN 2)),(2,1,(iN 1))]),oB 17 (.bslice 3 [zD,zD,zD] 1 [(0,(.t 16))]),oB 18 (.build [zI,zI,(.nilsl 3),(.nilsl 2),(.nilsl 3),(.nilsl 2)] [(0,1,(iN 8)),(1,1,(iN 8)),(2,1,(.t 13)),(3,1,(.t 15)),(4,1,(.t 17))]),oB 1 (.alloc (.agg [zI,zI,(.nilsl 3),(.nilsl 2),(.nilsl 3),(.nilsl 2)])),oA (.store 6 (.t 1) (.t 18))]) (.seq (.ops [qA 20 6 1,oB 21 (.bslice 1 [zD] 1 [(0,(iN 2))]),qD 22 19 20 21,qM 19 22,qE 23 19 0,qE 24 19 1,qM 2 23,qM 3 24]) (.seq (.ops [qA 26 6 1,qC 27 21 26,qM 25 27,qE 28 25 0,qE 29 25 1,oB 4 (.alloc (.agg [(.nilsl 1),(.nilsl 1)])),oA (.store 2 (.t 4) (.t 28)),qM 5 29]) (.seq (.ops [qA 31 6 1,oB 32 (.bslice 1 [zD] 1 [(0,(iN 2))]),qA 33 2 4,oB 34 (.call 8 [.t 31,.t 32,.t 33,(iN 0)]),qM 30 34,qE 35 30 0,qE 36 30 1,oB 6 (.alloc (.agg [(.nilsl 1),(.nilsl 1)])),oA (.store 2 (.t 6) (.t 35)),qM 7 36]) (.seq (.ops [qA 38 6 1,oB 39 (.bslice 1 [zD] 1 [(0,(iN 2))]),qA 40 2 4,oB 41 (.call 8 [.t 38,.t 39,.t 40,(iN 3)]),qM 37 41,qE 42 37 0,qE 43 37 1,oB 8 (.alloc (.agg [(.nilsl 1),(.nilsl 1)])),oA (.store 2 (.t 8) (.t 42)),qM 9 43]) (.seq (.ops [qM 44 3,qK 45 .eql 44 0,qM 46 45,vM 47 2 46 true,oG 48 (.bslice 1 [zD] 3 [(0,(iN 1)),(1,(iN 2)),(2,(iN 6760))]) 46 true,oG 49 (.call 14 [.t 47,.t 48]) 46 true,qP 50 46 49,qM 51 50,vM 52 5 51 true,vK 53 .eql 52 0 51 true,qP 54 51 53,qM 55 54,vM 56 7 55 true,vK 57 .eql 56 0 55 true,qP 58 55 57,qM 59 58,vF 60 1 6 59 true,vL 61 60 59 true,oG 62 (.iaddr 1 (.t 61) (iN 0)) 59 true,vL 63 62 59 true,vK 64 .eql 63 1 59 true,qP 65 59 64,qM 66 65,vM 67 9 66 true,vK 68 .eql 67 83 66 true,qP 69 66 68,qM 70 69,vA 71 6 1 70 true,vA 72 2 6 70 true,oG 73 (.call 13 [.t 71,.t 72]) 70 true,oG 74 (.bslice 1 [zD] 2 [(0,(iN 1)),(1,(iN 2))]) 70 true,oG 75 (.call 14 [.t 73,.t 74]) 70 true,qP 76 70 75,qM 77 76,vA 78 6 1 77 true,vA 79 2 6 77 true,oG 80 (.call 17 [.t 78,.t 79]) 77 true,vK 81 .eql 80 0 77 true,qP 82 77 81,qM 83 82,vA 84 2 6 83 true,vA 85 2 6 83 true,oG 86 (.call 18 [.t 84,.t 85]) 83 true,qP 87 83 86,qM 88 87,vA 89 2 6 88 true,vA 90 2 4 88 true,oG 91 (.call 18 [.t 89,.t 90]) 88 true,vU 92 91 88 true,qP 93 88 92,qM 94 93,oG 95 (.build [zI,zI,zI] [(0,1,(iN 5))]) 94 true,oG 96 (.bslice 1 [zD] 2 [(0,(iN 1)),(1,(iN 2))]) 94 true,oG 97 (.call 26 [.t 95,(.c (.nilsl 1)),.t 96]) 94 true,vK 98 .eql 97 6760 94 true,qP 99 94 98,qM 0 99]) .ret))))))
def fn6:FnI:=⟨0,ir6,[(0,none)]⟩
def ir7:C:=.seq (.ops [oB 3 (.box (.t 0)),oB 5 (.box (.t 2)),oB 6 (.mov bF)]) (.seq (.ops [qA 7 6 3,qC 8 27 7,qM 9 8,vM 10 1 9 true,vN 11 10 9 true,vK 12 .leq 11 60 9 true,qP 13 9 12,qM 14 13,vF 15 0 5 14 true,vL 16 15 14 true,vN 17 16 14 true,vK 18 .leq 17 70 14 true,qP 19 14 18,qM 20 19,vF 21 1 5 20 true,vL 22 21 20 true,vN 23 22 20 true,vK 24 .leq 23 70 20 true,qP 25 20 24,qM 6 25]) .ret)
def fn7:FnI:=⟨3,ir7,[(6,none)]⟩
def ir8:C:=.seq (.ops [oB 4 (.box (.t 0)),oB 6 (.box (.t 2)),oB 8 (.alloc (.agg [(.nilsl 1),(.nilsl 1)])),qW 9 0]) (.seq (.ops [qA 13 6 4,qC 14 23 13,qM 12 14,qE 15 12 0,qE 16 12 1,oB 10 (.alloc (.agg [(.nilsl 1),(.nilsl 2),(.nilsl 2)])),oA (.store 3 (.t 10) (.t 15)),qM 11 16]) (.seq (.block 0 (.seq (.ops [qM 18 11,qK 19 .neq 18 0,qM 17 19]) (.cond (.t 17) .skip (.seq (.ops [qA 21 6 4,qF 22 0 10,qA 23 2 22,qA 24 2 6,oB 25 (.call 28 [.t 21,.t 23,.t 24]),qU 26 25,qM 20 26]) (.cond (.t 20) (.ops [qW 11 80]) (.seq (.ops [qM 28 3,qK 29 .lss 28 0,qM 30 29,vM 31 3 30 false,vF 32 0 6 30 false,vL 33 32 30 false,vN 34 33 30 false,vB 35 .geq 31 34 30 false,oB 36 (.pick (.t 30) bT (.t 35)),qM 27 36]) (.cond (.t 27) (.ops [qW 11 81]) (.seq (.ops [qF 38 0 6,qL 39 38,qM 40 3,qI 41 1 39 40,qL 42 41,qM 37 42]) (.cond (.t 37) (.ops [qW 11 82]) (.seq (.ops [qF 44 0 10,qA 45 2 44,qA 46 2 6,qM 47 3,oB 48 (.call 29 [.t 45,.t 46,.t 47]),qM 43 48]) (.cond (.t 43) (.ops [qW 11 83]) .skip))))))))))) (.seq (.seq (.ops [qM 49 11,qK 50 .neq 49 0]) (.cond (.t 50) (.seq (.ops [oB 51 (.build [(.nilsl 1),(.nilsl 1)] []),qM 52 11,oA (.store 2 (.t 8) (.t 51)),qM 9 52]) .ret) .skip)) (.seq (.ops [qA 53 6 4,qA 54 3 10,qM 55 1,qA 56 2 6,qM 57 3,oB 58 (.call 30 [.t 53,.t 54,.t 55,.t 56,.t 57]),oA (.store 2 (.t 8) (.t 58)),qW 9 0]) .ret))))
def fn8:FnI:=⟨4,ir8,[(8,some (2,true)),(9,none)]⟩
def ZDm:C:=.seq (.seq (.ops [qM 22 4,qF 23 5 1,qL 24 23,qN 25 24,qB 26 .lss 22 25]) (.cond (.t 26) .skip (.exit 0))) (.seq (.block 1 (.draw [qF 29 5 3,qL 30 29,uS 31 [0,1],uF 32 5 1 [0,1,2],uL 33 32 [0,1,2],uM 34 4 [0,1,2,3,4],uI 35 2 33 34 [0,1,2],uF 36 0 35 [0,1,2],uL 37 36 [0,1,2],oM 38 (.appendD 1 (.t 31) (.t 37)) [0,1],uS 39 [0,1,2,3,4,5,6,7,8,9],uF 40 5 1 [0,1,2,3,4,5,6,7,8,9,10],uL 41 40 [0,1,2,3,4,5,6,7,8,9,10],uM 42 4 [0,1,2,3,4,5,6,7,8,9,10,11,12],uI 43 2 41 42 [0,1,2,3,4,5,6,7,8,9,10],uF 44 1 43 [0,1,2,3,4,5,6,7,8,9,10],uL 45 44 [0,1,2,3,4,5,6,7,8,9,10],oM 46 (.appendD 1 (.t 39) (.t 45)) [0,1],oM 47 (.build [(.nilsl 1),(.nilsl 1)] [(0,1,(.t 38)),(1,1,(.t 46))]) [0,1],oM 48 (.bslice 2 [.list true [],.list true []] 1 [(0,(.t 47))]) [0,1],⟨some 49,.append 2 (.t 30) (.t 48),none,[],4⟩,qF 50 5 3,⟨none,.store 1 (.t 50) (.t 49),none,[],3⟩])) (.ops [qM 27 4,qK 28 .add 27 1,qM 4 28]))
def ir9:C:=.seq (.ops [oB 1 (.box (.t 0)),oB 2 (.alloc (.agg [zI,zI,(.nilsl 3),(.nilsl 2),(.nilsl 3),(.nilsl 2)]))]) (.seq (.draw [qF 5 0 1,qL 6 5,uF 7 1 1 [0,1],uL 8 7 [0,1],oM 9 (.bslice 3 [zD,zD,zD] 0 []) [0,1,2,3],uF 10 2 1 [0,1,2,3,4],uL 11 10 [0,1,2,3,4],oM 12 (.append 3 (.t 9) (.t 11)) [0,1,2,3],oM 13 (.bslice 2 [zD,zD] 0 []) [0,1,2,3,4,5,6,7],uF 14 3 1 [0,1,2,3,4,5,6,7,8],uL 15 14 [0,1,2,3,4,5,6,7,8],oM 16 (.append 2 (.t 13) (.t 15)) [0,1,2,3],oM 17 (.bslice 3 [zD,zD,zD] 0 []) [0,1,2,3,4,5,6,7,8,9,10,11],uF 18 4 1 [0,1,2,3,4,5,6,7,8,9,10,11,12],uL 19 18 [0,1,2,3,4,5,6,7,8,9,10,11,12],oM 20 (.append 3 (.t 17) (.t 19)) [0,1,2,3],oB 21 (.build [zI,zI,(.nilsl 3),(.nilsl 2),(.nilsl 3),(.nilsl 2)] [(0,1,(.t 6)),(1,1,(.t 8)),(2,1,(.t 12)),(3,1,(.t 16)),(4,1,(.t 20))]),oM 3 (.alloc (.agg [zI,zI,(.nilsl 3),(.nilsl 2),(.nilsl 3),(.nilsl 2)])) [0,1,2,3,4,5,6,7,8,9,10,11,12,13,14,15,16],⟨none,.store 6 (.t 3) (.t 21),none,[],3⟩]) (.seq (.seq (.ops [qW 4 0]) (.block 0 (.loop [1,2,3,4] [2,3] ZDm))) (.seq (.ops [qA 51 6 3,oA (.store 6 (.t 2) (.t 51))]) .ret)))
def fn9:FnI:=⟨1,ir9,[(2,some (6,true))]⟩
def ZBI:C:=.seq (.seq (.ops [qM 74 15,qM 75 14,qN 76 75,qB 77 .lss 74 76]) (.cond (.t 77) .skip (.exit 2))) (.seq (.block 3 (.draw [qM 80 13,uF 81 1 6 [0],uL 82 81 [0],uM 83 14 [0,1,2],uM 84 15 [0,1,2,3],uI 85 1 83 84 [0,1,2],uL 86 85 [0,1,2],uI 87 1 82 86 [0],uL 88 87 [0],oM 89 (.bslice 1 [zD] 1 [(0,(.t 88))]) [0],⟨some 90,.append 1 (.t 80) (.t 89),none,[],4⟩,qM 13 90])) (.ops [qM 78 15,qK 79 .add 78 1,qM 15 79]))
def ZAx:C:=.seq (.seq (.ops [qM 58 12,qF 59 2 4,qL 60 59,qN 61 60,qB 62 .lss 58 61]) (.cond (.t 62) .skip (.exit 0))) (.seq (.block 1 (.seq (.seq (.ops [qA 65 6 4,qM 66 12,qD 67 32 65 66,qM 68 3,qB 69 .neq 67 68]) (.cond (.t 69) (.exit 1) .skip)) (.seq (.ops [oB 70 (.bslice 1 [zD] 0 []),qM 13 70]) (.seq (.ops [qA 71 6 4,qM 72 12,qD 73 33 71 72,qM 14 73]) (.seq (.seq (.ops [qW 15 0]) (.block 2 (.loop [1,3,4,6,8,11,12,13,14,15] [1,3,4,6,8,11,12,13] ZBI))) (.draw [qF 91 1 11,qL 92 91,uM 93 12 [0,1],uF 94 2 4 [0,1,2],uL 95 94 [0,1,2],uM 96 12 [0,1,2,3,4],uI 97 3 95 96 [0,1,2],uA 98 3 97 [0,1,2],uM 99 1 [0,1,2,3,4,5,6,7],uM 100 13 [0,1,2,3,4,5,6,7,8],oM 101 (.call 34 [.t 98,.t 99,.t 100]) [0,1,2],qI 102 1 92 93,⟨none,.store 1 (.t 102) (.t 101),none,[],3⟩])))))) (.ops [qM 63 12,qK 64 .add 63 1,qM 12 64]))
def ZJs:C:=.seq (.ops [oB 4 (.box (.t 0)),oB 6 (.box (.t 2)),oB 8 (.alloc (.agg [(.nilsl 1),(.nilsl 1)])),qW 9 0]) (.seq (.ops [qA 16 6 4,qA 17 2 6,qD 18 12 16 17,qM 10 18]) (.seq (.seq (.ops [qM 19 10,qK 20 .neq 19 0]) (.cond (.t 20) (.seq (.ops [oB 21 (.build [(.nilsl 1),(.nilsl 1)] []),qM 22 10,oA (.store 2 (.t 8) (.t 21)),qM 9 22]) .ret) .skip)) (.seq (.seq (.ops [qM 23 3,qK 24 .lss 23 0,qM 25 24,vM 26 3 25 false,vF 27 0 6 25 false,vL 28 27 25 false,vN 29 28 25 false,vB 30 .geq 26 29 25 false,oB 31 (.pick (.t 25) bT (.t 30))]) (.cond (.t 31) (.seq (.ops [oB 32 (.build [(.nilsl 1),(.nilsl 1)] []),oA (.store 2 (.t 8) (.t 32)),qW 9 81]) .ret) .skip)) (.seq (.seq (.ops [qF 33 0 6,qL 34 33,qM 35 3,qI 36 1 34 35,qL 37 36]) (.cond (.t 37) (.seq (.ops [oB 38 (.build [(.nilsl 1),(.nilsl 1)] []),oA (.store 2 (.t 8) (.t 38)),qW 9 82]) .ret) .skip)) (.seq (.seq (.ops [qA 39 6 4,qA 40 2 6,qM 41 3,oB 42 (.call 31 [.t 39,.t 40,.t 41]),qU 43 42]) (.cond (.t 43) (.seq (.ops [oB 44 (.build [(.nilsl 1),(.nilsl 1)] []),oA (.store 2 (.t 8) (.t 44)),qW 9 83]) .ret) .skip)) (.seq (.draw [oB 45 (.bslice 1 [.bool false] 0 []),uF 46 0 6 [0],uL 47 46 [0],oB 48 (.append 1 (.t 45) (.t 47)),uS 49 [0,1,2,3],uF 50 1 6 [0,1,2,3,4],uL 51 50 [0,1,2,3,4],oB 52 (.append 1 (.t 49) (.t 51)),oB 53 (.build [(.nilsl 1),(.nilsl 1)] [(0,1,(.t 48)),(1,1,(.t 52))]),oM 11 (.alloc (.agg [(.nilsl 1),(.nilsl 1)])) [0,1,2,3,4,5,6,7,8],⟨none,.store 2 (.t 11) (.t 53),none,[],3⟩]) (.seq (.ops [qF 54 0 11,qL 55 54,qM 56 3,qI 57 1 55 56,oA (.store 1 (.t 57) bT)]) (.seq (.seq (.ops [qW 12 0]) (.block 0 (.loop [1,3,4,6,8,11,12] [8,11] ZAx))) (.seq (.ops [qA 103 2 11,oA (.store 2 (.t 8) (.t 103)),qW 9 0]) .ret)))))))))
def ZE4:FnI:=⟨4,ZJs,[(8,some (2,true)),(9,none)]⟩
def Zzk:C:=.seq (.seq (.ops [qM 32 7,qF 33 0 5,qF 34 1 33,qL 35 34,qN 36 35,qB 37 .lss 32 36]) (.cond (.t 37) .skip (.exit 0))) (.seq (.block 1 (.seq (.draw [qF 40 0 3,qL 41 40,uF 42 0 5 [0,1],uF 43 1 42 [0,1],uL 44 43 [0,1],uM 45 7 [0,1,2,3,4],uI 46 2 44 45 [0,1],uF 47 1 46 [0,1],uL 48 47 [0,1],qI 49 1 41 48,qL 50 49,qM 51 50,vF 52 0 3 51 true,vL 53 52 51 true,wF 54 0 5 51 true [12,13],wF 55 1 54 51 true [12,13],wL 56 55 51 true [12,13],wM 57 7 51 true [12,13,14,15,16],wI 58 2 56 57 51 true [12,13],wF 59 0 58 51 true [12,13],wL 60 59 51 true [12,13],vI 61 1 53 60 51 true,vL 62 61 51 true,vU 63 62 51 true,qP 64 51 63]) (.cond (.t 64) (.seq (.ops [qW 4 80]) .ret) .skip))) (.ops [qM 38 7,qK 39 .add 38 1,qM 7 39]))
def ZIA:C:=.seq (.ops [oB 2 (.box (.t 0)),oB 3 (.box (.t 1)),qW 4 0]) (.seq (.ops [qA 9 6 2,qC 10 35 9,qM 8 10,qE 11 8 0,qE 12 8 1,oB 5 (.alloc (.agg [(.nilsl 1),(.nilsl 2),(.nilsl 2)])),oA (.store 3 (.t 5) (.t 11)),qM 6 12]) (.seq (.seq (.ops [qM 13 6,qK 14 .neq 13 0]) (.cond (.t 14) (.seq (.ops [qM 15 6,qM 4 15]) .ret) .skip)) (.seq (.seq (.ops [qF 16 0 3,qL 17 16,qN 18 17,qF 19 2 5,qL 20 19,qN 21 20,qB 22 .neq 18 21,qM 23 22,vF 24 1 3 23 false,vL 25 24 23 false,vN 26 25 23 false,vF 27 2 2 23 false,vL 28 27 23 false,vN 29 28 23 false,vB 30 .neq 26 29 23 false,oB 31 (.pick (.t 23) bT (.t 30))]) (.cond (.t 31) (.seq (.ops [qW 4 80]) .ret) .skip)) (.seq (.seq (.ops [qW 7 0]) (.block 0 (.loop [3,5,7] [4] Zzk))) (.seq (.ops [qW 4 0]) .ret)))))
def ZEj:FnI:=⟨2,ZIA,[(4,none)]⟩
def ZEs:C:=.seq (.ops [qB 29 .lss 28 27]) (.seq (.cond (.t 29) .skip (.exit 0)) (.seq (.block 1 (.seq (.ops [qM 30 28,qI 31 1 26 28,qL 32 31,qM 8 30,qM 9 32]) (.seq (.ops [qM 33 9,qU 34 33,qM 35 34,vF 36 0 5 35 true,vA 37 2 36 35 true,vA 38 2 3 35 true,vM 39 8 35 true,oG 40 (.call 29 [.t 37,.t 38,.t 39]) 35 true,vU 41 40 35 true,qP 42 35 41]) (.cond (.t 42) (.ops [qM 43 7,qM 44 8,oB 45 (.bslice 1 [zD] 1 [(0,(.t 44))]),oB 46 (.append 1 (.t 43) (.t 45)),qM 7 46]) .skip)))) (.ops [qK 47 .add 28 1,qM 28 47])))
def ZI9:C:=.seq (.ops [oB 2 (.box (.t 0)),oB 3 (.box (.t 1)),oB 4 (.mov (.c (.nilsl 1)))]) (.seq (.ops [qA 11 6 2,qC 12 23 11,qM 10 12,qE 13 10 0,qE 14 10 1,oB 5 (.alloc (.agg [(.nilsl 1),(.nilsl 2),(.nilsl 2)])),oA (.store 3 (.t 5) (.t 13)),qM 6 14]) (.seq (.seq (.ops [qM 15 6,qK 16 .neq 15 0,qM 17 16,vA 18 6 2 17 false,vF 19 0 5 17 false,vA 20 2 19 17 false,vA 21 2 3 17 false,oG 22 (.call 28 [.t 18,.t 20,.t 21]) 17 false,vU 23 22 17 false,oB 24 (.pick (.t 17) bT (.t 23))]) (.cond (.t 24) (.seq (.ops [oB 4 (.mov (.c (.nilsl 1)))]) .ret) .skip)) (.seq (.ops [oB 7 (.mov (.c (.nilsl 1)))]) (.seq (.seq (.ops [qF 25 0 3,qL 26 25,qN 27 26,qW 28 0]) (.block 0 (.loop [3,5,7,26,27,28] [7] ZEs))) (.seq (.ops [qM 48 7,qM 4 48]) .ret)))))
def ZGE:FnI:=⟨2,ZI9,[(4,none)]⟩
def ZAL:C:=.seq (.seq (.ops [qM 11 5,qM 12 0,qN 13 12,qB 14 .lss 11 13]) (.cond (.t 14) .skip (.exit 0))) (.seq (.block 1 (.seq (.draw [qM 17 0,uM 18 5 [0],qI 19 1 17 18,qL 20 19,uM 21 1 [0,1,2,3],uM 22 5 [0,1,2,3,4],uI 23 1 21 22 [0,1,2,3],uL 24 23 [0,1,2,3],qB 25 .neq 20 24]) (.cond (.t 25) (.seq (.ops [oB 4 (.mov bF)]) .ret) .skip))) (.ops [qM 15 5,qK 16 .add 15 1,qM 5 16]))
def ZIF:C:=.seq (.ops [oB 4 (.mov bF)]) (.seq (.seq (.ops [qM 6 0,qN 7 6,qM 8 1,qN 9 8,qB 10 .neq 7 9]) (.cond (.t 10) (.seq (.ops [oB 4 (.mov bF)]) .ret) .skip)) (.seq (.seq (.ops [qW 5 0]) (.block 0 (.loop [0,1,5] [4] ZAL))) (.seq (.ops [oB 4 (.mov bT)]) .ret)))
def ZFh:FnI:=⟨2,ZIF,[(4,none)]⟩
def ZAD:C:=.seq (.seq (.ops [qM 8 6,qF 9 0 3,qL 10 9,qN 11 10,qB 12 .lss 8 11]) (.cond (.t 12) .skip (.exit 0))) (.seq (.block 1 (.seq (.ops [qA 15 6 2,qA 16 2 3,qM 17 6,oB 18 (.call 31 [.t 15,.t 16,.t 17])]) (.cond (.t 18) (.ops [qM 19 5,qM 20 6,oB 21 (.bslice 1 [zD] 1 [(0,(.t 20))]),oB 22 (.append 1 (.t 19) (.t 21)),qM 5 22]) .skip))) (.ops [qM 13 6,qK 14 .add 13 1,qM 6 14]))
def ZIc:C:=.seq (.ops [oB 2 (.box (.t 0)),oB 3 (.box (.t 1)),oB 4 (.mov (.c (.nilsl 1)))]) (.seq (.ops [oB 7 (.bslice 1 [zD] 0 []),qM 5 7]) (.seq (.seq (.ops [qW 6 0]) (.block 0 (.loop [2,3,5,6] [5] ZAD))) (.seq (.ops [qM 23 5,qM 4 23]) .ret)))
def ZEY:FnI:=⟨2,ZIc,[(4,none)]⟩
def ZHT:C:=.seq (.ops [oB 2 (.box (.t 0)),oB 3 (.box (.t 1)),oB 4 (.mov bF)]) (.seq (.ops [qF 5 0 2,qL 6 5,qF 7 0 3,qL 8 7,qD 9 36 6 8,qM 10 9,vF 11 1 2 10 true,vL 12 11 10 true,vF 13 1 3 10 true,vL 14 13 10 true,oG 15 (.call 14 [.t 12,.t 14]) 10 true,qP 16 10 15,qM 4 16]) .ret)
def ZFe:FnI:=⟨2,ZHT,[(4,none)]⟩
def ZHE:C:=.seq (.ops [oB 2 (.box (.t 0)),oB 3 (.box (.t 1)),qW 4 0]) (.seq (.ops [qA 8 6 2,qC 9 23 8,qM 7 9,qE 10 7 0,qE 11 7 1,oB 5 (.alloc (.agg [(.nilsl 1),(.nilsl 2),(.nilsl 2)])),oA (.store 3 (.t 5) (.t 10)),qM 6 11]) (.seq (.seq (.ops [qM 12 6,qK 13 .eql 12 0,qM 14 13,vA 15 6 2 14 true,vF 16 0 5 14 true,vA 17 2 16 14 true,vA 18 2 3 14 true,oG 19 (.call 28 [.t 15,.t 17,.t 18]) 14 true,vU 20 19 14 true,qP 21 14 20]) (.cond (.t 21) (.ops [qW 6 80]) .skip)) (.seq (.ops [qM 22 6,qM 4 22]) .ret)))
def ZG8:FnI:=⟨2,ZHE,[(4,none)]⟩
def ZJQ:C:=.seq (.ops [oB 2 (.box (.t 0)),oB 3 (.box (.t 1)),oB 4 (.mov bF)]) (.seq (.ops [qF 5 0 2,qL 6 5,qF 7 0 3,qL 8 7,qD 9 37 6 8,qM 10 9,vF 11 1 2 10 true,vL 12 11 10 true,vF 13 1 3 10 true,vL 14 13 10 true,oG 15 (.call 38 [.t 12,.t 14]) 10 true,qP 16 10 15,qM 4 16]) .ret)
def ZG2:FnI:=⟨2,ZJQ,[(4,none)]⟩
def ZBu:C:=.seq (.ops [qB 30 .lss 29 28]) (.seq (.cond (.t 30) .skip (.exit 0)) (.seq (.block 1 (.seq (.ops [qI 31 1 27 29,qL 32 31,qM 11 32]) (.ops [qA 33 6 2,qA 34 3 8,qM 35 1,qA 36 2 6,qM 37 11,oB 38 (.call 30 [.t 33,.t 34,.t 35,.t 36,.t 37]),oA (.store 2 (.t 6) (.t 38))]))) (.ops [qK 39 .add 29 1,qM 29 39])))
def ZJU:C:=.seq (.ops [oB 2 (.box (.t 0)),oB 4 (.mov (.c (.nilsl 1))),qW 5 0]) (.seq (.ops [qA 13 6 2,qC 14 21 13,qM 12 14,qE 15 12 0,qE 16 12 1,oB 6 (.alloc (.agg [(.nilsl 1),(.nilsl 1)])),oA (.store 2 (.t 6) (.t 15)),qM 7 16]) (.seq (.seq (.ops [qM 17 7,qK 18 .neq 17 0]) (.cond (.t 18) (.seq (.ops [qM 19 7,oB 4 (.mov (.c (.nilsl 1))),qM 5 19]) .ret) .skip)) (.seq (.ops [qA 21 6 2,qC 22 23 21,qM 20 22,qE 23 20 0,qE 24 20 1,oB 8 (.alloc (.agg [(.nilsl 1),(.nilsl 2),(.nilsl 2)])),oA (.store 3 (.t 8) (.t 23)),qM 9 24]) (.seq (.seq (.ops [qF 25 0 8,qA 26 2 25,qC 27 39 26,qN 28 27,qW 29 0]) (.block 0 (.loop [1,2,6,8,27,28,29] [6] ZBu))) (.seq (.ops [qF 40 1 6,qL 41 40,qM 4 41,qW 5 0]) .ret)))))
def ZDI:FnI:=⟨2,ZJU,[(4,none),(5,none)]⟩
def ZBr:C:=.seq (.seq (.ops [qM 21 9,qF 22 0 8,qL 23 22,qN 24 23,qB 25 .lss 21 24]) (.cond (.t 25) .skip (.exit 0))) (.seq (.block 1 (.seq (.ops [qA 28 6 2,qA 29 2 8,qD 30 15 28 29,qM 10 30]) (.seq (.ops [qM 31 10,qN 32 31,qK 33 .gtr 32 0]) (.cond (.t 33) (.draw [qA 35 6 2,uM 36 1 [0],uA 37 2 8 [0,1],uM 38 10 [0,1,2],uM 39 10 [0,1,2,3],uN 40 39 [0,1,2,3],oM 41 (.bin .sub (.t 40) (iN 1)) [0,1,2,3],uI 42 1 38 41 [0,1,2],uL 43 42 [0,1,2],oB 44 (.call 11 [.t 35,.t 36,.t 37,.t 43]),qM 34 44,qE 45 34 0,uE 46 34 1 [11],⟨none,.store 2 (.t 8) (.t 45),none,[],3⟩]) .skip)))) (.ops [qM 26 9,qK 27 .add 26 1,qM 9 27]))
def ZJi:C:=.seq (.ops [oB 2 (.box (.t 0)),oB 4 (.mov (.c (.nilsl 1))),qW 5 0]) (.seq (.ops [qA 12 6 2,qC 13 35 12,qM 11 13,qE 14 11 0,qE 15 11 1,oB 6 (.alloc (.agg [(.nilsl 1),(.nilsl 2),(.nilsl 2)])),oA (.store 3 (.t 6) (.t 14)),qM 7 15]) (.seq (.seq (.ops [qM 16 7,qK 17 .neq 16 0]) (.cond (.t 17) (.seq (.ops [qM 18 7,oB 4 (.mov (.c (.nilsl 1))),qM 5 18]) .ret) .skip)) (.seq (.ops [qA 19 6 2,qC 20 22 19,oB 8 (.alloc (.agg [(.nilsl 1),(.nilsl 1)])),oA (.store 2 (.t 8) (.t 20))]) (.seq (.seq (.ops [qW 9 0]) (.block 0 (.loop [1,2,8,9] [8] ZBr))) (.seq (.ops [qF 47 1 8,qL 48 47,qM 4 48,qW 5 0]) .ret)))))
def ZEo:FnI:=⟨2,ZJi,[(4,none),(5,none)]⟩
def ZIq:C:=.seq (.ops [oB 1 (.box (.t 0)),oB 2 (.alloc (.agg [(.nilsl 1),(.nilsl 1)])),qW 3 0]) (.seq (.ops [qA 7 6 1,qC 8 23 7,qM 6 8,qE 9 6 0,qE 10 6 1,oB 4 (.alloc (.agg [(.nilsl 1),(.nilsl 2),(.nilsl 2)])),oA (.store 3 (.t 4) (.t 9)),qM 5 10]) (.seq (.seq (.ops [qM 11 5,qK 12 .neq 11 0]) (.cond (.t 12) (.seq (.ops [oB 13 (.build [(.nilsl 1),(.nilsl 1)] []),qM 14 5,oA (.store 2 (.t 2) (.t 13)),qM 3 14]) .ret) .skip)) (.seq (.draw [qF 15 2 4,qL 16 15,qN 17 16,oB 18 (.mkslice 1 [.bool false] (.t 17) (.t 17)),uF 19 2 1 [0,1,2,3],uL 20 19 [0,1,2,3],uN 21 20 [0,1,2,3],oM 22 (.mkslice 1 [zD] (.t 21) (.t 21)) [0,1,2,3],oB 23 (.build [(.nilsl 1),(.nilsl 1)] [(0,1,(.t 18)),(1,1,(.t 22))]),⟨none,.store 2 (.t 2) (.t 23),none,[],3⟩,qW 3 0]) .ret)))
def ZEX:FnI:=⟨1,ZIq,[(2,some (2,true)),(3,none)]⟩
def ZJI:C:=.seq (.ops [oB 1 (.box (.t 0)),oB 2 (.alloc (.agg [(.nilsl 1),(.nilsl 1)]))]) (.seq (.draw [qA 3 6 1,qC 4 40 3,oB 5 (.field 2 1 false (.t 4)),qN 6 5,oB 7 (.mkslice 1 [.bool false] (.t 6) (.t 6)),uF 8 2 1 [0,1,2,3,4],uL 9 8 [0,1,2,3,4],uN 10 9 [0,1,2,3,4],oM 11 (.mkslice 1 [zD] (.t 10) (.t 10)) [0,1,2,3,4],oB 12 (.build [(.nilsl 1),(.nilsl 1)] [(0,1,(.t 7)),(1,1,(.t 11))]),⟨none,.store 2 (.t 2) (.t 12),none,[],3⟩]) .ret)
def ZEz:FnI:=⟨1,ZJI,[(2,some (2,true))]⟩
def ZBT:C:=.seq (.ops [qB 33 .lss 32 31]) (.seq (.cond (.t 33) .skip (.exit 0)) (.seq (.block 1 (.seq (.ops [qM 34 32,qM 6 34]) (.ops [qM 35 5,qA 36 6 1,qM 37 6,oB 38 (.call 42 [.t 35,.t 36,.t 37])]))) (.ops [qK 39 .add 32 1,qM 32 39])))
def ZAS:C:=.seq (.ops [qB 44 .lss 43 42]) (.seq (.cond (.t 44) .skip (.exit 2)) (.seq (.block 3 (.seq (.ops [qI 45 2 41 43,qA 46 2 45,oB 8 (.alloc (.d (.agg [zD,zD]))),oA (.store 2 (.t 8) (.t 46))]) (.draw [qM 47 5,uM 48 5 [0],oM 49 (.nilck (.t 48)) [0],uF 50 4 49 [0],uL 51 50 [0],uF 52 0 8 [0,1,2,3,4],uL 53 52 [0,1,2,3,4],oM 54 (.mapget [false] (.int .i64 0) (.t 51) (.t 53)) [0],uM 55 5 [0,1,2,3,4,5,6,7],oM 56 (.nilck (.t 55)) [0,1,2,3,4,5,6,7],uF 57 3 56 [0,1,2,3,4,5,6,7],uL 58 57 [0,1,2,3,4,5,6,7],uF 59 1 8 [0,1,2,3,4,5,6,7,8,9,10,11],uL 60 59 [0,1,2,3,4,5,6,7,8,9,10,11],oM 61 (.mapget [false] (.int .i64 0) (.t 58) (.t 60)) [0,1,2,3,4,5,6,7],⟨some 62,.call 43 [.t 47,.t 54,.t 61],none,[],4⟩]))) (.ops [qK 63 .add 43 1,qM 43 63])))
def ZAM:C:=.seq (.ops [qB 68 .lss 67 66]) (.seq (.cond (.t 68) .skip (.exit 4)) (.seq (.block 5 (.seq (.ops [qI 69 3 65 67,qA 70 3 69,oB 10 (.alloc (.d (.agg [zD,zD,zD]))),oA (.store 3 (.t 10) (.t 70))]) (.draw [qM 71 5,uM 72 5 [0],oM 73 (.nilck (.t 72)) [0],uF 74 4 73 [0],uL 75 74 [0],uF 76 0 10 [0,1,2,3,4],uL 77 76 [0,1,2,3,4],oM 78 (.mapget [false] (.int .i64 0) (.t 75) (.t 77)) [0],uM 79 5 [0,1,2,3,4,5,6,7],oM 80 (.nilck (.t 79)) [0,1,2,3,4,5,6,7],uF 81 5 80 [0,1,2,3,4,5,6,7],uL 82 81 [0,1,2,3,4,5,6,7],uA 83 3 10 [0,1,2,3,4,5,6,7,8,9,10,11],oM 84 (.mapget [false,false,false] (.int .i64 0) (.t 82) (.t 83)) [0,1,2,3,4,5,6,7],⟨some 85,.call 43 [.t 71,.t 78,.t 84],none,[],4⟩]))) (.ops [qK 86 .add 67 1,qM 67 86])))
def ZBi:C:=.seq (.ops [qB 103 .lss 102 101]) (.seq (.cond (.t 103) .skip (.exit 8)) (.seq (.block 9 (.seq (.ops [qI 104 1 100 102,qL 105 104,qM 15 105]) (.ops [qM 106 5,qM 107 5,oB 108 (.nilck (.t 107)),qF 109 4 108,qL 110 109,qM 111 15,oB 112 (.mapget [false] (.int .i64 0) (.t 110) (.t 111)),qM 113 13,oB 114 (.call 43 [.t 106,.t 112,.t 113])]))) (.ops [qK 115 .add 102 1,qM 102 115])))
def ZBL:C:=.seq (.ops [qB 120 .lss 119 118]) (.seq (.cond (.t 120) .skip (.exit 10)) (.seq (.block 11 (.seq (.ops [qI 121 1 117 119,qL 122 121,qM 17 122]) (.ops [qM 123 5,qM 124 13,qM 125 5,oB 126 (.nilck (.t 125)),qF 127 3 126,qL 128 127,qM 129 17,oB 130 (.mapget [false] (.int .i64 0) (.t 128) (.t 129)),oB 131 (.call 43 [.t 123,.t 124,.t 130])]))) (.ops [qK 132 .add 119 1,qM 119 132])))
def ZBB:C:=.seq (.ops [qB 91 .lss 90 89]) (.seq (.cond (.t 91) .skip (.exit 6)) (.seq (.block 7 (.seq (.ops [qM 92 90,qI 93 2 88 90,qA 94 2 93,oB 12 (.alloc (.agg [(.nilsl 1),(.nilsl 1)])),qM 11 92,oA (.store 2 (.t 12) (.t 94))]) (.seq (.ops [qM 95 5,qM 96 11,oB 97 (.build [zI,zI] [(0,1,(iN (-1))),(1,1,(.t 96))]),oB 98 (.call 44 [.t 95,.t 97,(iN 1)]),qM 13 98]) (.seq (.seq (.ops [qF 99 0 12,qL 100 99,qN 101 100,qW 102 0]) (.block 8 (.loop [2,5,12,13,88,89,90,100,101,102] [2,5,12,13,88,89,90] ZBi))) (.seq (.ops [qF 116 1 12,qL 117 116,qN 118 117,qW 119 0]) (.block 10 (.loop [2,5,13,88,89,90,117,118,119] [2,5,88,89,90] ZBL))))))) (.ops [qK 133 .add 90 1,qM 90 133])))
def ZIn:C:=.seq (.ops [oB 1 (.box (.t 0)),oB 2 (.alloc (.agg [(.nilsl 1),(.nilsl 2),(.nilsl 2)])),qW 3 0]) (.seq (.seq (.ops [qA 18 6 1,qC 19 41 18,qM 4 19]) (.seq (.ops [qM 20 4,qK 21 .neq 20 0]) (.cond (.t 21) (.seq (.ops [oB 22 (.build [(.nilsl 1),(.nilsl 2),(.nilsl 2)] []),qM 23 4,oA (.store 3 (.t 2) (.t 22)),qM 3 23]) .ret) .skip))) (.seq (.ops [oB 24 .mkmap,oB 25 .mkmap,oB 26 .mkmap,oB 27 (.build [(.nilsl 1),(.nilsl 2),(.nilsl 2),.bad,.bad,.bad] [(3,1,(.t 24)),(4,1,(.t 25)),(5,1,(.t 26))]),oB 28 (.box (.t 27)),qM 5 28]) (.seq (.seq (.ops [qF 29 2 1,qL 30 29,qN 31 30,qW 32 0]) (.block 0 (.loop [1,2,5,31,32] [1,2,5] ZBT))) (.seq (.seq (.ops [qF 40 3 1,qL 41 40,qN 42 41,qW 43 0]) (.block 2 (.loop [1,2,5,41,42,43] [1,2,5] ZAS))) (.seq (.seq (.ops [qF 64 4 1,qL 65 64,qN 66 65,qW 67 0]) (.block 4 (.loop [1,2,5,65,66,67] [1,2,5] ZAM))) (.seq (.seq (.ops [qF 87 5 1,qL 88 87,qN 89 88,qW 90 0]) (.block 6 (.loop [2,5,88,89,90] [2,5] ZBB))) (.seq (.seq (.ops [qM 134 5,oB 135 (.nilck (.t 134)),qF 136 0 135,qF 137 0 136,qA 138 2 137,qC 139 45 138,qK 140 .neq 139 0]) (.cond (.t 140) (.seq (.ops [oB 141 (.build [(.nilsl 1),(.nilsl 2),(.nilsl 2)] []),oA (.store 3 (.t 2) (.t 141)),qW 3 70]) .ret) .skip)) (.seq (.ops [qM 142 5,oB 143 (.nilck (.t 142)),qF 144 0 143,qA 145 3 144,oA (.store 3 (.t 2) (.t 145)),qW 3 0]) .ret))))))))
def ZFd:FnI:=⟨1,ZIn,[(2,some (3,true)),(3,none)]⟩
def ZHy:C:=.ops [⟨some 2,.spec 0 [.t 0,.t 1],none,[],0⟩]
def ZGI:FnI:=⟨2,ZHy,[(2,none)]⟩
def ZAa:C:=.seq (.ops [qB 22 .lss 21 20]) (.seq (.cond (.t 22) .skip (.exit 1)) (.seq (.block 2 (.seq (.ops [qM 23 21,qI 24 1 19 21,qL 25 24,qM 8 23,qM 9 25]) (.ops [qM 26 7,qM 27 8,qM 28 9,oA (.mapset [false] (.t 26) (.t 27) (.t 28))]))) (.ops [qK 29 .add 21 1,qM 21 29])))
def Zsa:C:=.seq (.ops [qB 63 .lss 62 61]) (.seq (.cond (.t 63) .skip (.exit 3)) (.seq (.block 4 (.seq (.ops [qI 64 1 60 62,qL 65 64,qM 13 65]) (.draw [qF 66 1 10,qL 67 66,uM 68 11 [0,1],uM 69 13 [0,1,2],oM 70 (.call 49 [.t 69]) [0,1,2],oB 71 (.callv (.t 67) [.t 68,.t 70]),qM 11 71]))) (.ops [qK 72 .add 62 1,qM 62 72])))
def ZIy:C:=.seq (.ops [oB 3 (.box (.t 0)),qW 6 0]) (.seq (.block 0 (.seq (.ops [qF 15 0 3,qL 16 15,qK 17 .eql 16 0,qM 14 17]) (.cond (.t 14) (.seq (.ops [oB 18 .mkmap,qM 7 18]) (.seq (.seq (.ops [qM 19 1,qN 20 19,qW 21 0]) (.block 1 (.loop [3,7,19,20,21] [3,7] ZAa))) (.seq (.ops [qM 30 7,qF 31 1 3,qL 32 31,oB 33 (.mapget [false] (.int .i64 0) (.t 30) (.t 32)),qC 34 49 33,oB 35 (.conv .i64 (.t 34)),qM 6 35]) .ret))) (.seq (.ops [qF 37 0 3,qL 38 37,qK 39 .eql 38 1,qM 36 39]) (.cond (.t 36) (.seq (.ops [qF 40 1 3,qL 41 40,qC 42 49 41,oB 43 (.conv .i64 (.t 42)),qM 6 43]) .ret) (.seq (.ops [qF 45 0 3,qL 46 45,qK 47 .lss 46 0,qM 48 47,vF 49 0 3 48 false,vL 50 49 48 false,vK 51 .gtr 50 5 48 false,oB 52 (.pick (.t 48) bT (.t 51)),qM 44 52]) (.cond (.t 44) (.seq (.ops [qW 6 0]) .ret) .skip))))))) (.seq (.draw [oB 53 (.call 50 []),uF 54 0 3 [0],uL 55 54 [0],oM 56 (.bin .sub (.t 55) (iN 2)) [0],oB 57 (.index 4 2 true (.t 53) (.t 56)),oM 10 (.alloc (.d (.agg [.int .u32 0,.nilfn]))) [0,1,2,3,4],⟨none,.store 2 (.t 10) (.t 57),none,[],3⟩]) (.seq (.ops [qF 58 0 10,qL 59 58,qM 11 59]) (.seq (.seq (.ops [qM 60 2,qN 61 60,qW 62 0]) (.block 3 (.loop [10,11,60,61,62] [11] Zsa))) (.seq (.ops [qM 73 11,oB 74 (.conv .i64 (.t 73)),qM 6 74]) .ret)))))
def ZDR:FnI:=⟨3,ZIy,[(6,none)]⟩
def ZAU:C:=.seq (.seq (.ops [qM 4 3,qF 5 5 1,qL 6 5,qN 7 6,qB 8 .lss 4 7,qM 9 8,vM 10 3 9 true,vK 11 .lss 10 9 9 true,qP 12 9 11]) (.cond (.t 12) .skip (.exit 0))) (.seq (.block 1 (.seq (.ops [qF 15 5 1,qL 16 15,qM 17 3,qI 18 2 16 17,qF 19 0 18,qL 20 19,qN 21 20,qK 22 .gtr 21 20,qM 23 22,vF 24 5 1 23 false,vL 25 24 23 false,vM 26 3 23 false,vI 27 2 25 26 23 false,vF 28 1 27 23 false,vL 29 28 23 false,vN 30 29 23 false,vK 31 .gtr 30 20 23 false,oB 32 (.pick (.t 23) bT (.t 31))]) (.cond (.t 32) (.seq (.ops [oB 2 (.mov bF)]) .ret) .skip))) (.ops [qM 13 3,qK 14 .add 13 1,qM 3 14]))
def ZJX:C:=.seq (.ops [oB 1 (.box (.t 0)),oB 2 (.mov bF)]) (.seq (.seq (.ops [qW 3 0]) (.block 0 (.loop [1,3] [1,2] ZAU))) (.seq (.ops [qF 33 2 1,qL 34 33,qN 35 34,qK 36 .leq 35 20,qM 37 36,vF 38 3 1 37 true,vL 39 38 37 true,vN 40 39 37 true,vK 41 .leq 40 60 37 true,qP 42 37 41,qM 43 42,vF 44 4 1 43 true,vL 45 44 43 true,vN 46 45 43 true,vK 47 .leq 46 20 43 true,qP 48 43 47,qM 49 48,vF 50 5 1 49 true,vL 51 50 49 true,vN 52 51 49 true,vK 53 .leq 52 8 49 true,qP 54 49 53,qM 2 54]) .ret))
def ZDM:FnI:=⟨1,ZJX,[(2,none)]⟩
def ZHn:C:=.seq (.ops [oB 3 (.box (.t 0)),oB 4 (.box (.t 1)),oB 5 (.box (.t 2)),oB 6 (.mov bF)]) (.seq (.seq (.ops [qF 7 0 5,qL 8 7,qN 9 8,qF 10 0 4,qL 11 10,qN 12 11,qB 13 .neq 9 12,qM 14 13,vF 15 1 5 14 false,vL 16 15 14 false,vN 17 16 14 false,vF 18 2 3 14 false,vL 19 18 14 false,vN 20 19 14 false,vB 21 .neq 17 20 14 false,oB 22 (.pick (.t 14) bT (.t 21))]) (.cond (.t 22) (.seq (.ops [oB 6 (.mov bF)]) .ret) .skip)) (.seq (.ops [qF 23 1 4,qL 24 23,oB 25 (.mkfn 52 [.t 5]),qD 26 51 24 25,qU 27 26,qM 6 27]) .ret))
def ZF2:FnI:=⟨3,ZHn,[(6,none)]⟩
def ZIU:C:=.seq (.ops [oB 3 (.box (.t 0)),oB 4 (.box (.t 1)),oB 5 (.box (.t 2)),oB 6 (.mov bF)]) (.seq (.ops [qF 7 1 3,qL 8 7,oB 9 (.mkfn 53 [.t 5,.t 4]),qD 10 51 8 9,qM 6 10]) .ret)
def ZF5:FnI:=⟨3,ZIU,[(6,none)]⟩
def ZAg:C:=.seq (.ops [qB 47 .lss 46 45]) (.seq (.cond (.t 47) .skip (.exit 0)) (.seq (.block 1 (.seq (.ops [qI 48 1 44 46,qL 49 48,qM 14 49]) (.ops [qM 50 12,qF 51 1 8,qL 52 51,qM 53 14,qI 54 1 52 53,qL 55 54,oB 56 (.bslice 1 [zD] 1 [(0,(.t 55))]),oB 57 (.append 1 (.t 50) (.t 56)),qM 12 57]))) (.ops [qK 58 .add 46 1,qM 46 58])))
def ZIo:C:=.seq (.ops [oB 5 (.box (.t 0)),oB 6 (.box (.t 1)),oB 8 (.box (.t 3)),oB 10 (.alloc (.agg [(.nilsl 1),(.nilsl 1)]))]) (.seq (.draw [qF 15 0 8,qL 16 15,qC 17 54 16,uF 18 1 8 [0,1,2],uL 19 18 [0,1,2],qC 20 55 19,oB 21 (.build [(.nilsl 1),(.nilsl 1)] [(0,1,(.t 17)),(1,1,(.t 20))]),⟨none,.store 2 (.t 8) (.t 21),none,[],3⟩]) (.seq (.ops [qF 22 0 8,qL 23 22,qM 24 4,qI 25 1 23 24,oA (.store 1 (.t 25) bT)]) (.seq (.ops [qF 26 2 6,qL 27 26,qM 28 4,qI 29 2 27 28,qF 30 0 29,qL 31 30,qM 11 31]) (.seq (.seq (.ops [qM 32 11,qK 33 .lss 32 0,qM 34 33,vA 35 3 6 34 false,vM 36 11 34 false,oG 37 (.call 25 [.t 35,.t 36]) 34 false,vM 38 4 34 false,vB 39 .neq 37 38 34 false,oB 40 (.pick (.t 34) bT (.t 39))]) (.cond (.t 40) (.seq (.ops [qA 41 2 8,oA (.store 2 (.t 10) (.t 41))]) .ret) .skip)) (.seq (.ops [oB 12 (.mov (.c (.nilsl 1)))]) (.seq (.seq (.ops [qA 42 6 5,qM 43 11,qD 44 56 42 43,qN 45 44,qW 46 0]) (.block 0 (.loop [2,5,8,10,11,12,44,45,46] [2,5,8,10,11,12] ZAg))) (.seq (.draw [qF 59 1 8,qL 60 59,uM 61 11 [0,1],uF 62 2 5 [0,1,2],uL 63 62 [0,1,2],uM 64 11 [0,1,2,3,4],uI 65 3 63 64 [0,1,2],uA 66 3 65 [0,1,2],uM 67 2 [0,1,2,3,4,5,6,7],uM 68 12 [0,1,2,3,4,5,6,7,8],oM 69 (.call 26 [.t 66,.t 67,.t 68]) [0,1,2],qI 70 1 60 61,⟨none,.store 1 (.t 70) (.t 69),none,[],3⟩]) (.seq (.ops [qA 71 2 8,oA (.store 2 (.t 10) (.t 71))]) .ret))))))))
def ZDY:FnI:=⟨5,ZIo,[(10,some (2,true))]⟩
def ZBO:C:=.seq (.seq (.ops [qM 14 8,qM 15 7,qN 16 15,qB 17 .lss 14 16]) (.cond (.t 17) .skip (.exit 0))) (.seq (.block 1 (.seq (.draw [qF 20 0 4,qL 21 20,uM 22 7 [0,1],uM 23 8 [0,1,2],uI 24 1 22 23 [0,1],uL 25 24 [0,1],qI 26 1 21 25,qL 27 26,qU 28 27]) (.cond (.t 28) (.seq (.ops [oB 6 (.mov bF)]) .ret) .skip))) (.ops [qM 18 8,qK 19 .add 18 1,qM 8 19]))
def ZI2:C:=.seq (.ops [oB 3 (.box (.t 0)),oB 4 (.box (.t 1)),oB 6 (.mov bF)]) (.seq (.ops [qA 9 6 3,qC 10 40 9,oB 11 (.field 0 2 true (.t 10)),qM 12 2,qD 13 57 11 12,qM 7 13]) (.seq (.seq (.ops [qW 8 0]) (.block 0 (.loop [2,4,7,8] [2,4,6] ZBO))) (.seq (.ops [qF 29 0 4,qL 30 29,qM 31 2,qI 32 1 30 31,qL 33 32,qU 34 33,qM 6 34]) .ret)))
def ZEk:FnI:=⟨3,ZI2,[(6,none)]⟩
def ZIw:C:=.seq (.ops [oB 2 (.box (.t 0)),qW 4 0]) (.seq (.ops [qA 5 6 2,qM 6 1,qK 7 .add 6 1,qD 8 58 5 7,qK 9 .sub 8 1,qM 4 9]) .ret)
def ZEd:FnI:=⟨2,ZIw,[(4,none)]⟩
def ZAz:C:=.seq (.seq (.ops [qM 10 6,qF 11 3 2,qL 12 11,qN 13 12,qB 14 .lss 10 13]) (.cond (.t 14) .skip (.exit 0))) (.seq (.block 1 (.seq (.ops [qF 17 3 2,qL 18 17,qM 19 6,qI 20 2 18 19,qF 21 1 20,qL 22 21,qM 23 1,qB 24 .eql 22 23]) (.cond (.t 24) (.ops [qM 25 5,qF 26 3 2,qL 27 26,qM 28 6,qI 29 2 27 28,qF 30 0 29,qL 31 30,oB 32 (.bslice 1 [zD] 1 [(0,(.t 31))]),oB 33 (.append 1 (.t 25) (.t 32)),qM 5 33]) .skip))) (.ops [qM 15 6,qK 16 .add 15 1,qM 6 16]))
def Zzt:C:=.seq (.seq (.ops [qM 37 8,qM 38 7,qN 39 38,qB 40 .lss 37 39]) (.cond (.t 40) .skip (.exit 2))) (.seq (.block 3 (.draw [qM 43 5,uF 44 4 2 [0],uL 45 44 [0],uM 46 7 [0,1,2],uM 47 8 [0,1,2,3],uI 48 1 46 47 [0,1,2],uL 49 48 [0,1,2],uI 50 3 45 49 [0],uF 51 0 50 [0],uL 52 51 [0],oM 53 (.bslice 1 [zD] 1 [(0,(.t 52))]) [0],⟨some 54,.append 1 (.t 43) (.t 53),none,[],4⟩,qM 5 54])) (.ops [qM 41 8,qK 42 .add 41 1,qM 8 42]))
def ZJA:C:=.seq (.ops [oB 2 (.box (.t 0)),oB 4 (.mov (.c (.nilsl 1)))]) (.seq (.ops [oB 9 (.bslice 1 [zD] 0 []),qM 5 9]) (.seq (.seq (.ops [qW 6 0]) (.block 0 (.loop [1,2,5,6] [1,2,5] ZAz))) (.seq (.ops [qA 34 6 2,qM 35 1,qD 36 59 34 35,qM 7 36]) (.seq (.seq (.ops [qW 8 0]) (.block 2 (.loop [2,5,7,8] [5] Zzt))) (.seq (.ops [qM 55 5,qM 4 55]) .ret)))))
def ZE1:FnI:=⟨2,ZJA,[(4,none)]⟩
def ZAh:C:=.seq (.seq (.ops [qM 49 8,qM 50 2,qN 51 50,qB 52 .lss 49 51]) (.cond (.t 52) .skip (.exit 1))) (.seq (.block 2 (.seq (.ops [qM 55 2,qM 56 8,qI 57 1 55 56,qL 58 57,qC 59 60 58,qM 9 59]) (.seq (.ops [qF 60 0 3,qL 61 60]) (.block 3 (.seq (.ops [qK 63 .eql 61 2,qM 62 63]) (.cond (.t 62) (.ops [qM 64 7,qM 65 9,qB 66 .add 64 65,qC 67 60 66,qM 7 67]) (.seq (.ops [qK 69 .eql 61 3,qM 68 69]) (.cond (.t 68) (.ops [qM 70 7,qM 71 9,qD 72 61 70 71,qM 7 72]) (.seq (.ops [qK 74 .eql 61 4,qM 73 74]) (.cond (.t 73) (.ops [qM 75 7,qM 76 9,oB 77 (.mx true [.t 75,.t 76]),qM 7 77]) (.seq (.ops [qK 79 .eql 61 5,qM 78 79]) (.cond (.t 78) (.ops [qM 80 7,qK 81 .mul 80 31,qM 82 9,qB 83 .add 81 82,qC 84 60 83,qM 7 84]) .skip)))))))))))) (.ops [qM 53 8,qK 54 .add 53 1,qM 8 54]))
def ZIh:C:=.seq (.ops [oB 3 (.box (.t 0)),qW 6 0]) (.seq (.seq (.ops [qF 10 0 3,qL 11 10]) (.block 0 (.seq (.ops [qK 13 .eql 11 0,qM 12 13]) (.cond (.t 12) (.seq (.seq (.ops [qF 14 1 3,qL 15 14,qK 16 .lss 15 0,qM 17 16,vF 18 1 3 17 false,vL 19 18 17 false,vM 20 1 17 false,vN 21 20 17 false,vB 22 .geq 19 21 17 false,oB 23 (.pick (.t 17) bT (.t 22))]) (.cond (.t 23) (.seq (.ops [qW 6 0]) .ret) .skip)) (.seq (.ops [qM 24 1,qF 25 1 3,qL 26 25,qI 27 1 24 26,qL 28 27,qC 29 60 28,qM 6 29]) .ret)) (.seq (.ops [qK 31 .eql 11 1,qM 30 31]) (.cond (.t 30) (.seq (.ops [qF 32 1 3,qL 33 32,qC 34 60 33,qM 6 34]) .ret) .skip)))))) (.seq (.seq (.ops [qF 35 0 3,qL 36 35,qK 37 .lss 36 0,qM 38 37,vF 39 0 3 38 false,vL 40 39 38 false,vK 41 .gtr 40 5 38 false,oB 42 (.pick (.t 38) bT (.t 41))]) (.cond (.t 42) (.seq (.ops [qW 6 0]) .ret) .skip)) (.seq (.ops [qW 7 0]) (.seq (.seq (.ops [qF 43 0 3,qL 44 43,qK 45 .eql 44 3]) (.cond (.t 45) (.ops [qW 7 1]) .skip)) (.seq (.seq (.ops [qF 46 0 3,qL 47 46,qK 48 .eql 47 5]) (.cond (.t 48) (.ops [qW 7 7]) .skip)) (.seq (.seq (.ops [qW 8 0]) (.block 1 (.loop [2,3,7,8] [7] ZAh))) (.seq (.ops [qM 85 7,qM 6 85]) .ret)))))))
def ZEa:FnI:=⟨3,ZIh,[(6,none)]⟩
def ZJg:C:=.seq (.ops [oB 1 (.box (.t 0)),oB 2 (.alloc (.agg [(.nilsl 1),(.nilsl 2),(.nilsl 2)])),qW 3 0]) (.seq (.ops [qA 6 6 1,qC 7 62 6,qM 4 7]) (.seq (.seq (.ops [qM 8 4,qK 9 .neq 8 0]) (.cond (.t 9) (.seq (.ops [oB 10 (.build [(.nilsl 1),(.nilsl 2),(.nilsl 2)] []),qM 11 4,oA (.store 3 (.t 2) (.t 10)),qM 3 11]) .ret) .skip)) (.seq (.ops [qA 12 6 1,qC 13 40 12,oB 5 (.alloc (.agg [(.nilsl 1),(.nilsl 2),(.nilsl 2)])),oA (.store 3 (.t 5) (.t 13))]) (.seq (.seq (.ops [qF 14 0 5,qA 15 2 14,qC 16 63 15,qK 17 .neq 16 0]) (.cond (.t 17) (.seq (.ops [oB 18 (.build [(.nilsl 1),(.nilsl 2),(.nilsl 2)] []),oA (.store 3 (.t 2) (.t 18)),qW 3 70]) .ret) .skip)) (.seq (.ops [qA 19 3 5,oA (.store 3 (.t 2) (.t 19)),qW 3 0]) .ret)))))
def ZEL:FnI:=⟨1,ZJg,[(2,some (3,true)),(3,none)]⟩
def ZzN:C:=.seq (.seq (.ops [qM 11 5,qM 12 0,qN 13 12,qB 14 .lss 11 13]) (.cond (.t 14) .skip (.exit 0))) (.seq (.block 1 (.seq (.draw [qM 17 0,uM 18 5 [0],qI 19 1 17 18,qL 20 19,uM 21 1 [0,1,2,3],uM 22 5 [0,1,2,3,4],uI 23 1 21 22 [0,1,2,3],uL 24 23 [0,1,2,3],oB 25 (.eqv [true] true (.t 20) (.t 24))]) (.cond (.t 25) (.seq (.ops [oB 4 (.mov bF)]) .ret) .skip))) (.ops [qM 15 5,qK 16 .add 15 1,qM 5 16]))
def ZIl:C:=.seq (.ops [oB 4 (.mov bF)]) (.seq (.seq (.ops [qM 6 0,qN 7 6,qM 8 1,qN 9 8,qB 10 .neq 7 9]) (.cond (.t 10) (.seq (.ops [oB 4 (.mov bF)]) .ret) .skip)) (.seq (.seq (.ops [qW 5 0]) (.block 0 (.loop [0,1,5] [4] ZzN))) (.seq (.ops [oB 4 (.mov bT)]) .ret)))
def ZE5:FnI:=⟨2,ZIl,[(4,none)]⟩
def ZDJ:C:=.seq (.ops [qB 14 .lss 13 12]) (.seq (.cond (.t 14) .skip (.exit 0)) (.seq (.block 1 (.seq (.ops [qM 15 13,qM 5 15]) (.seq (.draw [qM 16 0,uM 17 5 [0],qI 18 1 16 17,qL 19 18,uM 20 1 [0,1,2,3],uM 21 5 [0,1,2,3,4],uI 22 1 20 21 [0,1,2,3],uL 23 22 [0,1,2,3],oB 24 (.eqv [true] true (.t 19) (.t 23))]) (.cond (.t 24) (.seq (.ops [oB 4 (.mov bF)]) .ret) .skip)))) (.ops [qK 25 .add 13 1,qM 13 25])))
def ZJC:C:=.seq (.ops [oB 4 (.mov bF)]) (.seq (.seq (.ops [qM 6 0,qN 7 6,qM 8 1,qN 9 8,qB 10 .neq 7 9]) (.cond (.t 10) (.seq (.ops [oB 4 (.mov bF)]) .ret) .skip)) (.seq (.seq (.ops [qM 11 0,qN 12 11,qW 13 0]) (.block 0 (.loop [0,1,12,13] [4] ZDJ))) (.seq (.ops [oB 4 (.mov bT)]) .ret)))
def ZGR:FnI:=⟨2,ZJC,[(4,none)]⟩
def ZEi:C:=.seq (.ops [qB 14 .lss 13 12]) (.seq (.cond (.t 14) .skip (.exit 0)) (.seq (.block 1 (.seq (.ops [qM 15 13,qM 5 15]) (.seq (.draw [qM 16 0,uM 17 5 [0],qI 18 1 16 17,qL 19 18,uM 20 1 [0,1,2,3],uM 21 5 [0,1,2,3,4],uI 22 1 20 21 [0,1,2,3],uL 23 22 [0,1,2,3],qB 24 .neq 19 23]) (.cond (.t 24) (.seq (.ops [oB 4 (.mov bF)]) .ret) .skip)))) (.ops [qK 25 .add 13 1,qM 13 25])))
def ZIB:C:=.seq (.ops [oB 4 (.mov bF)]) (.seq (.seq (.ops [qM 6 0,qN 7 6,qM 8 1,qN 9 8,qB 10 .neq 7 9]) (.cond (.t 10) (.seq (.ops [oB 4 (.mov bF)]) .ret) .skip)) (.seq (.seq (.ops [qM 11 0,qN 12 11,qW 13 0]) (.block 0 (.loop [0,1,12,13] [4] ZEi))) (.seq (.ops [oB 4 (.mov bT)]) .ret)))
def ZFp:FnI:=⟨2,ZIB,[(4,none)]⟩
def ZJh:C:=.seq (.ops [oB 1 (.box (.t 0)),oB 2 (.mov (.c (.nilsl 1)))]) (.seq (.seq (.ops [qA 5 2 1,qC 6 45 5,qK 7 .neq 6 0]) (.cond (.t 7) (.seq (.ops [oB 2 (.mov (.c (.nilsl 1)))]) .ret) .skip)) (.seq (.ops [qA 9 2 1,qC 10 64 9,qM 8 10,qE 11 8 0,qE 12 8 1,qM 3 11,qM 4 12]) (.seq (.ops [qM 13 3,qM 2 13]) .ret)))
def ZDD:FnI:=⟨1,ZJh,[(2,none)]⟩
def ZzQ:C:=.seq (.seq (.ops [qM 27 7,qM 28 6,qN 29 28,qB 30 .lss 27 29]) (.cond (.t 30) .skip (.exit 2))) (.seq (.block 3 (.seq (.ops [qF 33 2 3,qL 34 33,qM 35 5,qM 36 7,oB 37 (.build [zI,zI] [(0,1,(.t 35)),(1,1,(.t 36))]),oB 38 (.bslice 2 [zD,zD] 1 [(0,(.t 37))]),oB 39 (.append 2 (.t 34) (.t 38)),qF 40 2 3,oA (.store 1 (.t 40) (.t 39))]) (.seq (.draw [qF 41 0 3,qF 42 0 41,qL 43 42,uM 44 6 [0,1,2],uM 45 7 [0,1,2,3],uI 46 1 44 45 [0,1,2],uL 47 46 [0,1,2],oM 48 (.bslice 1 [zD] 1 [(0,(.t 47))]) [0,1,2],⟨some 49,.append 1 (.t 43) (.t 48),none,[],4⟩,qF 50 0 3,qF 51 0 50,⟨none,.store 1 (.t 51) (.t 49),none,[],3⟩]) (.seq (.ops [qM 52 7,qK 53 .gtr 52 0]) (.cond (.t 53) (.draw [qM 54 4,uA 55 6 1 [0],uM 56 5 [0,1],oM 57 (.call 58 [.t 55,.t 56]) [0],uM 58 7 [0,1,2,3],oM 59 (.bin .add (.t 57) (.t 58)) [0],oM 60 (.bin .sub (.t 59) (iN 1)) [0],uA 61 6 1 [0,1,2,3,4,5,6],uM 62 5 [0,1,2,3,4,5,6,7],oM 63 (.call 58 [.t 61,.t 62]) [0,4,5,6],uM 64 7 [0,1,2,3,4,5,6,7,8,9],oM 65 (.bin .add (.t 63) (.t 64)) [0,4,5,6],oM 66 (.build [zI,zI] [(0,1,(.t 60)),(1,1,(.t 65))]) [0],oM 67 (.bslice 2 [zD,zD] 1 [(0,(.t 66))]) [0],⟨some 68,.append 2 (.t 54) (.t 67),none,[],4⟩,qM 4 68]) .skip))))) (.ops [qM 31 7,qK 32 .add 31 1,qM 7 32]))
def ZAs:C:=.seq (.seq (.ops [qM 17 5,qF 18 2 1,qL 19 18,qN 20 19,qB 21 .lss 17 20]) (.cond (.t 21) .skip (.exit 0))) (.seq (.block 1 (.seq (.ops [qA 24 6 1,qM 25 5,qD 26 65 24 25,qM 6 26]) (.seq (.ops [qW 7 0]) (.block 2 (.loop [1,2,3,4,5,6,7] [1,2,3,4,5] ZzQ))))) (.ops [qM 22 5,qK 23 .add 22 1,qM 5 23]))
def ZAZ:C:=.seq (.seq (.ops [qM 69 8,qF 70 3 1,qL 71 70,qN 72 71,qB 73 .lss 69 72]) (.cond (.t 73) .skip (.exit 4))) (.seq (.block 5 (.draw [qM 76 4,uA 77 6 1 [0],uF 78 3 1 [0,1],uL 79 78 [0,1],uM 80 8 [0,1,2,3],uI 81 2 79 80 [0,1],uF 82 0 81 [0,1],uL 83 82 [0,1],oM 84 (.call 32 [.t 77,.t 83]) [0],uA 85 6 1 [0,1,2,3,4,5,6,7,8],uF 86 3 1 [0,1,2,3,4,5,6,7,8,9],uL 87 86 [0,1,2,3,4,5,6,7,8,9],uM 88 8 [0,1,2,3,4,5,6,7,8,9,10,11],uI 89 2 87 88 [0,1,2,3,4,5,6,7,8,9],uF 90 1 89 [0,1,2,3,4,5,6,7,8,9],uL 91 90 [0,1,2,3,4,5,6,7,8,9],oM 92 (.call 58 [.t 85,.t 91]) [0],oM 93 (.build [zI,zI] [(0,1,(.t 84)),(1,1,(.t 92))]) [0],oM 94 (.bslice 2 [zD,zD] 1 [(0,(.t 93))]) [0],⟨some 95,.append 2 (.t 76) (.t 94),none,[],4⟩,qM 4 95])) (.ops [qM 74 8,qK 75 .add 74 1,qM 8 75]))
def ZzY:C:=.seq (.seq (.ops [qM 96 9,qF 97 4 1,qL 98 97,qN 99 98,qB 100 .lss 96 99]) (.cond (.t 100) .skip (.exit 6))) (.seq (.block 7 (.draw [qM 103 4,uA 104 6 1 [0],uF 105 4 1 [0,1],uL 106 105 [0,1],uM 107 9 [0,1,2,3],uI 108 3 106 107 [0,1],uF 109 0 108 [0,1],uL 110 109 [0,1],oM 111 (.call 32 [.t 104,.t 110]) [0],uA 112 6 1 [0,1,2,3,4,5,6,7,8],uF 113 4 1 [0,1,2,3,4,5,6,7,8,9],uL 114 113 [0,1,2,3,4,5,6,7,8,9],uM 115 9 [0,1,2,3,4,5,6,7,8,9,10,11],uI 116 3 114 115 [0,1,2,3,4,5,6,7,8,9],uA 117 3 116 [0,1,2,3,4,5,6,7,8,9],oM 118 (.call 66 [.t 112,.t 117]) [0],oM 119 (.build [zI,zI] [(0,1,(.t 111)),(1,1,(.t 118))]) [0],oM 120 (.bslice 2 [zD,zD] 1 [(0,(.t 119))]) [0],⟨some 121,.append 2 (.t 103) (.t 120),none,[],4⟩,qM 4 121])) (.ops [qM 101 9,qK 102 .add 101 1,qM 9 102]))
def ZAB:C:=.seq (.seq (.ops [qM 151 13,qF 152 0 12,qL 153 152,qN 154 153,qB 155 .lss 151 154]) (.cond (.t 155) .skip (.exit 10))) (.seq (.block 11 (.draw [qM 158 4,uA 159 6 1 [0],uF 160 0 12 [0,1],uL 161 160 [0,1],uM 162 13 [0,1,2,3],uI 163 1 161 162 [0,1],uL 164 163 [0,1],oM 165 (.call 32 [.t 159,.t 164]) [0],uM 166 11 [0,1,2,3,4,5,6,7],oM 167 (.build [zI,zI] [(0,1,(.t 165)),(1,1,(.t 166))]) [0],oM 168 (.bslice 2 [zD,zD] 1 [(0,(.t 167))]) [0],⟨some 169,.append 2 (.t 158) (.t 168),none,[],4⟩,qM 4 169])) (.ops [qM 156 13,qK 157 .add 156 1,qM 13 157]))
def ZBv:C:=.seq (.seq (.ops [qM 170 14,qF 171 1 12,qL 172 171,qN 173 172,qB 174 .lss 170 173]) (.cond (.t 174) .skip (.exit 12))) (.seq (.block 13 (.draw [qM 177 4,uM 178 11 [0],uA 179 6 1 [0,1],uF 180 1 12 [0,1,2],uL 181 180 [0,1,2],uM 182 14 [0,1,2,3,4],uI 183 1 181 182 [0,1,2],uL 184 183 [0,1,2],oM 185 (.call 58 [.t 179,.t 184]) [0,1],oM 186 (.build [zI,zI] [(0,1,(.t 178)),(1,1,(.t 185))]) [0],oM 187 (.bslice 2 [zD,zD] 1 [(0,(.t 186))]) [0],⟨some 188,.append 2 (.t 177) (.t 187),none,[],4⟩,qM 4 188])) (.ops [qM 175 14,qK 176 .add 175 1,qM 14 176]))
def ZzT:C:=.seq (.seq (.ops [qM 122 10,qF 123 5 1,qL 124 123,qN 125 124,qB 126 .lss 122 125]) (.cond (.t 126) .skip (.exit 8))) (.seq (.block 9 (.seq (.ops [qF 129 2 3,qL 130 129,qN 131 130,qM 11 131]) (.seq (.ops [qF 132 2 3,qL 133 132,qM 134 10,oB 135 (.build [zI,zI] [(0,1,(iN (-1))),(1,1,(.t 134))]),oB 136 (.bslice 2 [zD,zD] 1 [(0,(.t 135))]),oB 137 (.append 2 (.t 133) (.t 136)),qF 138 2 3,oA (.store 1 (.t 138) (.t 137))]) (.seq (.ops [qF 139 0 3,qF 140 0 139,qL 141 140,oB 142 (.bslice 1 [zD] 1 [(0,(iN 1))]),oB 143 (.append 1 (.t 141) (.t 142)),qF 144 0 3,qF 145 0 144,oA (.store 1 (.t 145) (.t 143))]) (.seq (.ops [qF 146 5 1,qL 147 146,qM 148 10,qI 149 2 147 148,qA 150 2 149,oB 12 (.alloc (.agg [(.nilsl 1),(.nilsl 1)])),oA (.store 2 (.t 12) (.t 150))]) (.seq (.seq (.ops [qW 13 0]) (.block 10 (.loop [1,2,3,4,10,11,12,13] [1,2,3,4,10,11,12] ZAB))) (.seq (.ops [qW 14 0]) (.block 12 (.loop [1,2,3,4,10,11,12,14] [1,2,3,4,10] ZBv))))))))) (.ops [qM 127 10,qK 128 .add 127 1,qM 10 128]))
def ZIS:C:=.seq (.ops [oB 1 (.box (.t 0)),oB 2 (.alloc (.agg [(.nilsl 1),(.nilsl 2),(.nilsl 2)]))]) (.seq (.ops [oB 15 (.build [(.nilsl 1),(.nilsl 2),(.nilsl 2)] []),oB 3 (.alloc (.agg [(.nilsl 1),(.nilsl 2),(.nilsl 2)])),oA (.store 3 (.t 3) (.t 15))]) (.seq (.ops [oB 16 (.bslice 2 [zD,zD] 0 []),qM 4 16]) (.seq (.seq (.ops [qW 5 0]) (.block 0 (.loop [1,2,3,4,5] [1,2,3,4] ZAs))) (.seq (.seq (.ops [qW 8 0]) (.block 4 (.loop [1,2,3,4,8] [1,2,3,4] ZAZ))) (.seq (.seq (.ops [qW 9 0]) (.block 6 (.loop [1,2,3,4,9] [1,2,3,4] ZzY))) (.seq (.seq (.ops [qW 10 0]) (.block 8 (.loop [1,2,3,4,10] [2,3,4] ZzT))) (.seq (.ops [qM 189 4,qF 190 0 3,qF 191 1 190,oA (.store 1 (.t 191) (.t 189))]) (.seq (.ops [qA 192 3 3,oA (.store 3 (.t 2) (.t 192))]) .ret))))))))
def ZDK:FnI:=⟨1,ZIS,[(2,some (3,true))]⟩
def ZAr:C:=.seq (.ops [qB 64 .lss 63 62]) (.seq (.cond (.t 64) .skip (.exit 0)) (.seq (.block 1 (.seq (.ops [qM 65 63,qI 66 2 61 63,qA 67 2 66,oB 6 (.alloc (.d (.agg [zD,zD]))),qM 5 65,oA (.store 2 (.t 6) (.t 67))]) (.seq (.draw [qA 68 6 1,uF 69 0 6 [0],uL 70 69 [0],uF 71 1 6 [0,1,2],uL 72 71 [0,1,2],oB 73 (.call 71 [.t 68,.t 70,.t 72]),qU 74 73,qM 75 74,vF 76 3 1 75 false,vL 77 76 75 false,wM 78 5 75 false [8,9],oG 79 (.slice 2 (.t 77) none (some (.t 78)) none) 75 false,wA 80 2 6 75 false [8,9,10,11],oG 81 (.call 72 [.t 79,.t 80]) 75 false,oB 82 (.pick (.t 75) bT (.t 81))]) (.cond (.t 82) (.seq (.ops [qW 2 53]) .ret) .skip)))) (.ops [qK 83 .add 63 1,qM 63 83])))
def Zzw:C:=.seq (.ops [qB 88 .lss 87 86]) (.seq (.cond (.t 88) .skip (.exit 2)) (.seq (.block 3 (.seq (.ops [qM 89 87,qI 90 3 85 87,qA 91 3 90,oB 8 (.alloc (.d (.agg [zD,zD,zD]))),qM 7 89,oA (.store 3 (.t 8) (.t 91))]) (.seq (.ops [oB 92 (.mkfn 73 [.t 8]),qM 9 92]) (.seq (.draw [qA 93 6 1,uF 94 0 8 [0],uL 95 94 [0],uF 96 1 8 [0,1,2],uL 97 96 [0,1,2],oB 98 (.call 71 [.t 93,.t 95,.t 97]),qU 99 98,qM 100 99,vF 101 2 8 100 false,vL 102 101 100 false,wF 103 2 1 100 false [8,9],wL 104 103 100 false [8,9],wF 105 1 8 100 false [8,9,10,11],wL 106 105 100 false [8,9,10,11],wI 107 3 104 106 100 false [8,9],wF 108 2 107 100 false [8,9],wL 109 108 100 false [8,9],⟨some 110,.bin .sub (.t 109) (iN 1),some (100,false),[8,9],0⟩,oG 111 (.call 67 [.t 102,(iN 1),.t 110]) 100 false,vU 112 111 100 false,oB 113 (.pick (.t 100) bT (.t 112)),qM 114 113,vF 115 4 1 114 false,vL 116 115 114 false,wM 117 7 114 false [22,23],oG 118 (.slice 3 (.t 116) none (some (.t 117)) none) 114 false,wM 119 9 114 false [22,23,24,25],oG 120 (.call 74 [.t 118,.t 119]) 114 false,oB 121 (.pick (.t 114) bT (.t 120))]) (.cond (.t 121) (.seq (.ops [qW 2 54]) .ret) .skip))))) (.ops [qK 122 .add 87 1,qM 87 122])))
def ZBg:C:=.seq (.ops [qB 127 .lss 126 125]) (.seq (.cond (.t 127) .skip (.exit 4)) (.seq (.block 5 (.seq (.ops [qI 128 2 124 126,qA 129 2 128,oB 11 (.alloc (.agg [(.nilsl 1),(.nilsl 1)])),oA (.store 2 (.t 11) (.t 129))]) (.seq (.ops [oB 130 (.mkfn 75 [.t 11]),qM 12 130]) (.seq (.ops [qA 131 6 1,qF 132 0 11,qL 133 132,qD 134 76 131 133,qU 135 134,qM 136 135,vA 137 6 1 136 false,vF 138 1 11 136 false,vL 139 138 136 false,oG 140 (.call 76 [.t 137,.t 139]) 136 false,vU 141 140 136 false,oB 142 (.pick (.t 136) bT (.t 141)),qM 143 142,vF 144 0 11 143 false,vL 145 144 143 false,vM 146 12 143 false,oG 147 (.call 77 [.t 145,.t 146]) 143 false,oB 148 (.pick (.t 143) bT (.t 147))]) (.cond (.t 148) (.seq (.ops [qW 2 55]) .ret) .skip))))) (.ops [qK 149 .add 126 1,qM 126 149])))
def ZH6:C:=.seq (.ops [oB 1 (.box (.t 0)),qW 2 0]) (.seq (.seq (.ops [qF 13 2 1,qL 14 13,qN 15 14,oB 16 (.call 67 [.t 15,(iN 1),(iN 16)]),qU 17 16,qM 18 17,vF 19 3 1 18 false,vL 20 19 18 false,vN 21 20 18 false,vK 22 .gtr 21 48 18 false,oB 23 (.pick (.t 18) bT (.t 22)),qM 24 23,vF 25 4 1 24 false,vL 26 25 24 false,vN 27 26 24 false,vK 28 .gtr 27 16 24 false,oB 29 (.pick (.t 24) bT (.t 28)),qM 30 29,vF 31 5 1 30 false,vL 32 31 30 false,vN 33 32 30 false,vK 34 .gtr 33 4 30 false,oB 35 (.pick (.t 30) bT (.t 34))]) (.cond (.t 35) (.seq (.ops [qW 2 50]) .ret) .skip)) (.seq (.seq (.ops [qF 37 0 1,qL 38 37,qC 39 68 38,qM 36 39,qE 40 36 0,qE 41 36 1,qM 3 40,qM 4 41]) (.seq (.ops [qM 42 4,qU 43 42,qM 44 43,vF 45 0 1 44 false,vL 46 45 44 false,vK 47 .gtr 46 4096 44 false,oB 48 (.pick (.t 44) bT (.t 47)),qM 49 48,vF 50 1 1 49 false,vL 51 50 49 false,vF 52 0 1 49 false,vL 53 52 49 false,oG 54 (.call 67 [.t 51,(iN 1),.t 53]) 49 false,vU 55 54 49 false,oB 56 (.pick (.t 49) bT (.t 55))]) (.cond (.t 56) (.seq (.ops [qW 2 51]) .ret) .skip))) (.seq (.seq (.ops [qF 57 2 1,qL 58 57,oB 59 (.call 69 [.t 58,(.c (.d (.fn 70 [])))])]) (.cond (.t 59) (.seq (.ops [qW 2 52]) .ret) .skip)) (.seq (.seq (.ops [qF 60 3 1,qL 61 60,qN 62 61,qW 63 0]) (.block 0 (.loop [1,61,62,63] [1,2] ZAr))) (.seq (.seq (.ops [qF 84 4 1,qL 85 84,qN 86 85,qW 87 0]) (.block 2 (.loop [1,85,86,87] [1,2] Zzw))) (.seq (.seq (.ops [qF 123 5 1,qL 124 123,qN 125 124,qW 126 0]) (.block 4 (.loop [1,124,125,126] [2] ZBg))) (.seq (.ops [qW 2 0]) .ret)))))))
def ZEw:FnI:=⟨1,ZH6,[(2,none)]⟩
def ZsC:C:=.seq (.ops [qB 28 .lss 27 26]) (.seq (.cond (.t 28) .skip (.exit 0)) (.seq (.block 1 (.seq (.ops [qM 29 27,qM 8 29]) (.seq (.ops [qF 30 2 4,qL 31 30,qM 32 2,qI 33 3 31 32,qF 34 2 33,qL 35 34,qM 9 35]) (.seq (.seq (.ops [qM 36 8,qM 37 7,qN 38 37,qB 39 .lss 36 38]) (.cond (.t 39) (.draw [qF 40 4 4,qL 41 40,uM 42 7 [0,1],uM 43 8 [0,1,2],uI 44 1 42 43 [0,1],uL 45 44 [0,1],qI 46 3 41 45,qF 47 2 46,qL 48 47,qM 9 48]) .skip)) (.seq (.draw [qM 49 0,oB 50 (.nilck (.t 49)),qF 51 4 50,⟨some 52,.load 1 false (.t 51),none,[],1⟩,uM 53 2 [0,1,2,3],uM 54 0 [0,1,2,3,4],uM 55 2 [0,1,2,3,4,5],uM 56 8 [0,1,2,3,4,5,6],oM 57 (.build [zI,zI] [(0,1,(.t 55)),(1,1,(.t 56))]) [0,1,2,3,4,5],uM 58 9 [0,1,2,3,4,5,6,7,8],uM 59 6 [0,1,2,3,4,5,6,7,8,9],oM 60 (.bin .sub (.t 58) (.t 59)) [0,1,2,3,4,5,6,7,8],⟨some 61,.callk 44 [.t 54,.t 57,.t 60] [.t 51],none,[],4⟩,⟨none,.mapset [false] (.t 52) (.t 53) (.t 61),none,[],4⟩]) (.seq (.seq (.ops [qM 62 8,qK 63 .gtr 62 0]) (.cond (.t 63) (.seq (.draw [qM 64 0,uM 65 0 [0],oM 66 (.nilck (.t 65)) [0],uF 67 4 66 [0],uL 68 67 [0],uM 69 2 [0,1,2,3,4],oM 70 (.mapget [false] (.int .i64 0) (.t 68) (.t 69)) [0],oM 71 (.bin .sub (.t 70) (iN 1)) [0],uM 72 0 [0,1,2,3,4,5,6,7],oM 73 (.nilck (.t 72)) [0,1,2,3,4,5,6,7],uF 74 4 73 [0,1,2,3,4,5,6,7],uL 75 74 [0,1,2,3,4,5,6,7],uM 76 2 [0,1,2,3,4,5,6,7,8,9,10,11],oM 77 (.mapget [false] (.int .i64 0) (.t 75) (.t 76)) [0,1,2,3,4,5,6,7],⟨some 78,.call 43 [.t 64,.t 71,.t 77],none,[],4⟩]) (.draw [qM 79 0,oB 80 (.nilck (.t 79)),qF 81 5 80,qL 82 81,uF 83 4 4 [0,1,2,3],uL 84 83 [0,1,2,3],uM 85 7 [0,1,2,3,4,5],uM 86 8 [0,1,2,3,4,5,6],oM 87 (.bin .sub (.t 86) (iN 1)) [0,1,2,3,4,5,6],uI 88 1 85 87 [0,1,2,3,4,5],uL 89 88 [0,1,2,3,4,5],uI 90 3 84 89 [0,1,2,3],uA 91 3 90 [0,1,2,3],uM 92 0 [0,1,2,3,4,5,6,7,8,9,10,11,12],oM 93 (.nilck (.t 92)) [0,1,2,3,4,5,6,7,8,9,10,11,12],uF 94 4 93 [0,1,2,3,4,5,6,7,8,9,10,11,12],uL 95 94 [0,1,2,3,4,5,6,7,8,9,10,11,12],uM 96 2 [0,1,2,3,4,5,6,7,8,9,10,11,12,13,14,15,16],oM 97 (.mapget [false] (.int .i64 0) (.t 95) (.t 96)) [0,1,2,3,4,5,6,7,8,9,10,11,12],⟨none,.mapset [false,false,false] (.t 82) (.t 91) (.t 97),none,[],4⟩])) .skip)) (.ops [qM 98 9,qM 6 98]))))))) (.ops [qK 99 .add 27 1,qM 27 99])))
def ZHm:C:=.seq (.ops [oB 4 (.box (.t 1))]) (.seq (.ops [qW 6 0]) (.seq (.draw [qM 10 0,oB 11 (.nilck (.t 10)),qF 12 3 11,qL 13 12,uM 14 2 [0,1,2,3],uM 15 0 [0,1,2,3,4],oM 16 (.nilck (.t 15)) [0,1,2,3,4],uF 17 0 16 [0,1,2,3,4],uF 18 2 17 [0,1,2,3,4],uL 19 18 [0,1,2,3,4],uN 20 19 [0,1,2,3,4],⟨none,.mapset [false] (.t 13) (.t 14) (.t 20),none,[],4⟩]) (.seq (.ops [qA 21 6 4,qM 22 2,qD 23 78 21 22,qM 7 23]) (.seq (.ops [qM 24 7,qN 25 24,qK 26 .add 25 1,qW 27 0]) (.block 0 (.loop [0,2,4,6,7,26,27] [] ZsC))))))
def ZFm:FnI:=⟨3,ZHm,[]⟩
def ZHw:C:=.ops [qM 6 0,qM 7 0,oB 8 (.nilck (.t 7)),qF 9 0 8,qF 10 0 9,qF 11 1 10,qL 12 11,qM 13 1,qM 14 2,oB 15 (.build [zI,zI] [(0,1,(.t 13)),(1,1,(.t 14))]),oB 16 (.bslice 2 [zD,zD] 1 [(0,(.t 15))]),oB 17 (.append 2 (.t 12) (.t 16)),oB 18 (.nilck (.t 6)),qF 19 0 18,qF 20 0 19,qF 21 1 20,oA (.store 1 (.t 21) (.t 17))]
def ZED:FnI:=⟨3,ZHw,[]⟩
def ZJT:C:=.seq (.ops [oB 4 (.box (.t 1)),qW 6 0]) (.seq (.draw [qM 7 0,uM 8 0 [0],oM 9 (.nilck (.t 8)) [0],uF 10 0 9 [0],uF 11 2 10 [0],uL 12 11 [0],uA 13 2 4 [0,1,2,3,4,5],oM 14 (.bslice 2 [zD,zD] 1 [(0,(.t 13))]) [0,1,2,3,4,5],⟨some 15,.append 2 (.t 12) (.t 14),none,[],4⟩,oB 16 (.nilck (.t 7)),qF 17 0 16,qF 18 2 17,⟨none,.store 1 (.t 18) (.t 15),none,[],3⟩]) (.seq (.ops [qM 19 0,qM 20 0,oB 21 (.nilck (.t 20)),qF 22 0 21,qF 23 0 22,qF 24 0 23,qL 25 24,qM 26 2,oB 27 (.bslice 1 [zD] 1 [(0,(.t 26))]),oB 28 (.append 1 (.t 25) (.t 27)),oB 29 (.nilck (.t 19)),qF 30 0 29,qF 31 0 30,qF 32 0 31,oA (.store 1 (.t 32) (.t 28))]) (.seq (.ops [qM 33 0,oB 34 (.nilck (.t 33)),qF 35 0 34,qF 36 2 35,qL 37 36,qN 38 37,qK 39 .sub 38 1,qM 6 39]) .ret)))
def ZET:FnI:=⟨3,ZJT,[(6,none)]⟩
def ZAG:C:=.seq (.ops [qB 26 .lss 25 24]) (.seq (.cond (.t 26) .skip (.exit 0)) (.seq (.block 1 (.seq (.ops [qM 27 25,qI 28 2 23 25,qA 29 2 28,oB 5 (.alloc (.d (.agg [zD,zD]))),qM 4 27,oA (.store 2 (.t 5) (.t 29))]) (.seq (.draw [qM 30 3,uF 31 0 5 [0],uL 32 31 [0],oB 33 (.callv (.t 30) [.t 32]),qU 34 33,qM 35 34,vM 36 3 35 false,wF 37 1 5 35 false [6],wL 38 37 35 false [6],oG 39 (.callv (.t 36) [.t 38]) 35 false,vU 40 39 35 false,oB 41 (.pick (.t 35) bT (.t 40)),qM 42 41,vF 43 0 5 42 false,vL 44 43 42 false,wF 45 1 5 42 false [13,14],wL 46 45 42 false [13,14],vB 47 .eql 44 46 42 false,oB 48 (.pick (.t 42) bT (.t 47)),qM 49 48,vF 50 1 1 49 false,vL 51 50 49 false,wM 52 4 49 false [20,21],oG 53 (.slice 2 (.t 51) none (some (.t 52)) none) 49 false,wA 54 2 5 49 false [20,21,22,23],oG 55 (.call 72 [.t 53,.t 54]) 49 false,oB 56 (.pick (.t 49) bT (.t 55))]) (.cond (.t 56) (.seq (.ops [qW 2 42]) .ret) .skip)))) (.ops [qK 57 .add 25 1,qM 25 57])))
def ZHa:C:=.seq (.ops [oB 1 (.box (.t 0)),qW 2 0]) (.seq (.seq (.ops [qF 8 0 1,qL 9 8,qN 10 9,qK 11 .gtr 10 64,qM 12 11,vF 13 1 1 12 false,vL 14 13 12 false,vN 15 14 12 false,vK 16 .gtr 15 256 12 false,oB 17 (.pick (.t 12) bT (.t 16))]) (.cond (.t 17) (.seq (.ops [qW 2 40]) .ret) .skip)) (.seq (.seq (.ops [qF 18 0 1,qL 19 18,oB 20 (.call 77 [.t 19,(.c (.d (.fn 79 [])))])]) (.cond (.t 20) (.seq (.ops [qW 2 41]) .ret) .skip)) (.seq (.ops [oB 21 (.mkfn 80 [.t 1]),qM 3 21]) (.seq (.seq (.ops [qF 22 1 1,qL 23 22,qN 24 23,qW 25 0]) (.block 0 (.loop [1,3,23,24,25] [1,2] ZAG))) (.seq (.seq (.ops [qA 59 2 1,qC 60 64 59,qM 58 60,qE 61 58 0,qE 62 58 1,qM 6 61,qM 7 62]) (.seq (.ops [qM 63 7,qU 64 63]) (.cond (.t 64) (.seq (.ops [qW 2 43]) .ret) .skip))) (.seq (.ops [qW 2 0]) .ret))))))
def ZEy:FnI:=⟨1,ZHa,[(2,none)]⟩
def ZHs:C:=.seq (.ops [oB 4 (.mov bF)]) (.seq (.ops [qM 5 0,qM 6 1,qD 7 83 5 6,qK 8 .geq 7 0,qM 4 8]) .ret)
def ZDP:FnI:=⟨2,ZHs,[(4,none)]⟩
def ZHq:C:=.seq (.ops [oB 1 (.box (.t 0)),oB 2 (.mov (.c (.d (.nilfn))))]) (.seq (.ops [oB 3 (.mkfn 84 [.t 1]),qM 2 3]) .ret)
def ZGx:FnI:=⟨1,ZHq,[(2,none)]⟩
def ZIf:C:=.seq (.ops [oB 2 (.mov (.c (.d (.int .u32 0))))]) (.seq (.ops [qM 3 0,oB 4 (.conv .u32 (.t 3)),qM 2 4]) .ret)
def ZFk:FnI:=⟨1,ZIf,[(2,none)]⟩
def ZIZ:C:=.seq (.ops [oB 0 (.alloc (.d (.agg [.int .u32 0,.nilfn,.int .u32 0,.nilfn,.int .u32 0,.nilfn,.int .u32 0,.nilfn])))]) (.seq (.ops [oB 1 (.build [(.d (.int .u32 0)),(.d (.nilfn))] [(0,1,(.c (.d (.int .u32 0)))),(1,1,(.c (.d (.fn 85 []))))]),oB 2 (.build [(.d (.int .u32 0)),(.d (.nilfn))] [(0,1,(.c (.d (.int .u32 1)))),(1,1,(.c (.d (.fn 86 []))))]),oB 3 (.build [(.d (.int .u32 0)),(.d (.nilfn))] [(0,1,(.c (.d (.int .u32 0)))),(1,1,(.c (.d (.fn 87 []))))]),oB 4 (.build [(.d (.int .u32 0)),(.d (.nilfn))] [(0,1,(.c (.d (.int .u32 7)))),(1,1,(.c (.d (.fn 88 []))))]),oB 5 (.build [(.d (.int .u32 0)),(.d (.nilfn)),(.d (.int .u32 0)),(.d (.nilfn)),(.d (.int .u32 0)),(.d (.nilfn)),(.d (.int .u32 0)),(.d (.nilfn))] [(0,2,(.t 1)),(2,2,(.t 2)),(4,2,(.t 3)),(6,2,(.t 4))]),oA (.store 8 (.t 0) (.t 5))]) .ret)
def ZFl:FnI:=⟨0,ZIZ,[(0,some (8,true))]⟩
def ZHV:C:=.seq (.ops [oB 4 (.mov bF)]) (.seq (.ops [qM 5 0,qM 6 1,qD 7 89 5 6,qK 8 .geq 7 0,qM 4 8]) .ret)
def ZGo:FnI:=⟨2,ZHV,[(4,none)]⟩
def ZHe:C:=.seq (.ops [oB 2 (.box (.t 0)),oB 3 (.mov bF)]) (.seq (.ops [qF 4 0 1,qL 5 4,qF 6 1 2,qL 7 6,qI 8 1 5 7,qL 9 8,qM 10 9,vF 11 0 1 10 true,vL 12 11 10 true,vF 13 0 2 10 true,vL 14 13 10 true,vI 15 1 12 14 10 true,vL 16 15 10 true,vU 17 16 10 true,qP 18 10 17,qM 3 18]) .ret)
def ZG1:FnI:=⟨2,ZHe,[(3,none)]⟩
def ZH0:C:=.seq (.ops [oB 3 (.box (.t 0)),oB 4 (.mov bF)]) (.seq (.ops [qF 5 1 3,qL 6 5,qL 7 1,qB 8 .eql 6 7,qM 9 8,vF 10 0 2 9 true,vL 11 10 9 true,vF 12 0 3 9 true,vL 13 12 9 true,vI 14 1 11 13 9 true,vL 15 14 9 true,vU 16 15 9 true,qP 17 9 16,qM 4 17]) .ret)
def ZG5:FnI:=⟨3,ZH0,[(4,none)]⟩
def ZHL:C:=.seq (.ops [oB 2 (.mov (.c (.nilsl 1)))]) (.seq (.seq (.ops [qM 3 0,oB 4 (.nilq (.t 3))]) (.cond (.t 4) (.seq (.ops [oB 2 (.mov (.c (.nilsl 1)))]) .ret) .skip)) (.seq (.ops [oB 5 (.bslice 1 [.bool false] 0 []),qM 6 0,oB 7 (.append 1 (.t 5) (.t 6)),qM 2 7]) .ret))
def ZEm:FnI:=⟨1,ZHL,[(2,none)]⟩
def ZIT:C:=.seq (.ops [oB 2 (.mov (.c (.nilsl 1)))]) (.seq (.seq (.ops [qM 3 0,oB 4 (.nilq (.t 3))]) (.cond (.t 4) (.seq (.ops [oB 2 (.mov (.c (.nilsl 1)))]) .ret) .skip)) (.seq (.ops [oB 5 (.bslice 1 [zD] 0 []),qM 6 0,oB 7 (.append 1 (.t 5) (.t 6)),qM 2 7]) .ret))
def ZD9:FnI:=⟨1,ZIT,[(2,none)]⟩
def Zz1:C:=.seq (.ops [qB 17 .lss 16 15]) (.seq (.cond (.t 17) .skip (.exit 0)) (.seq (.block 1 (.seq (.ops [qI 18 2 14 16,qA 19 2 18,oB 7 (.alloc (.d (.agg [zD,zD]))),oA (.store 2 (.t 7) (.t 19))]) (.seq (.ops [qF 20 1 7,qL 21 20,qM 22 1,qB 23 .eql 21 22]) (.cond (.t 23) (.ops [qM 24 5,qF 25 0 7,qL 26 25,oB 27 (.bslice 1 [zD] 1 [(0,(.t 26))]),oB 28 (.append 1 (.t 24) (.t 27)),qM 5 28]) .skip)))) (.ops [qK 29 .add 16 1,qM 16 29])))
def ZzJ:C:=.seq (.ops [qB 35 .lss 34 33]) (.seq (.cond (.t 35) .skip (.exit 2)) (.seq (.block 3 (.seq (.ops [qI 36 1 32 34,qL 37 36,qM 9 37]) (.ops [qM 38 5,qF 39 4 2,qL 40 39,qM 41 9,qI 42 3 40 41,qF 43 0 42,qL 44 43,oB 45 (.bslice 1 [zD] 1 [(0,(.t 44))]),oB 46 (.append 1 (.t 38) (.t 45)),qM 5 46]))) (.ops [qK 47 .add 34 1,qM 34 47])))
def ZIz:C:=.seq (.ops [oB 2 (.box (.t 0)),oB 4 (.mov (.c (.nilsl 1)))]) (.seq (.seq (.ops [qA 10 6 2,qC 11 41 10,qK 12 .neq 11 0]) (.cond (.t 12) (.seq (.ops [oB 4 (.mov (.c (.nilsl 1)))]) .ret) .skip)) (.seq (.ops [oB 5 (.mov (.c (.nilsl 1)))]) (.seq (.seq (.ops [qF 13 3 2,qL 14 13,qN 15 14,qW 16 0]) (.block 0 (.loop [1,2,5,14,15,16] [1,2,5] Zz1))) (.seq (.seq (.ops [qA 30 6 2,qM 31 1,qD 32 78 30 31,qN 33 32,qW 34 0]) (.block 2 (.loop [2,5,32,33,34] [5] ZzJ))) (.seq (.ops [qM 48 5,qM 4 48]) .ret)))))
def ZEx:FnI:=⟨2,ZIz,[(4,none)]⟩
def ZAb:C:=.seq (.seq (.ops [qM 8 6,qF 9 0 2,qL 10 9,qN 11 10,qB 12 .lss 8 11]) (.cond (.t 12) .skip (.exit 0))) (.seq (.block 1 (.seq (.ops [qA 15 2 2,qM 16 6,qM 17 1,oB 18 (.call 90 [.t 15,.t 16,.t 17])]) (.cond (.t 18) (.ops [qM 19 5,qM 20 6,oB 21 (.bslice 1 [zD] 1 [(0,(.t 20))]),oB 22 (.append 1 (.t 19) (.t 21)),qM 5 22]) .skip))) (.ops [qM 13 6,qK 14 .add 13 1,qM 6 14]))
def ZH4:C:=.seq (.ops [oB 2 (.box (.t 0)),oB 4 (.mov (.c (.nilsl 1)))]) (.seq (.ops [oB 7 (.bslice 1 [zD] 0 []),qM 5 7]) (.seq (.seq (.ops [qW 6 0]) (.block 0 (.loop [1,2,5,6] [5] ZAb))) (.seq (.ops [qM 23 5,qM 4 23]) .ret)))
def ZE3:FnI:=⟨2,ZH4,[(4,none)]⟩
def ZA0:C:=.seq (.seq (.ops [qM 7 6,qM 8 1,qB 9 .lss 7 8]) (.cond (.t 9) .skip (.exit 0))) (.seq (.block 1 (.ops [qM 12 5,qA 13 6 2,qM 14 6,qD 15 65 13 14,qN 16 15,qB 17 .add 12 16,qM 5 17])) (.ops [qM 10 6,qK 11 .add 10 1,qM 6 11]))
def ZHI:C:=.seq (.ops [oB 2 (.box (.t 0)),qW 4 0]) (.seq (.ops [qW 5 0]) (.seq (.seq (.ops [qW 6 0]) (.block 0 (.loop [1,2,5,6] [5] ZA0))) (.seq (.ops [qM 18 5,qM 4 18]) .ret)))
def ZD8:FnI:=⟨2,ZHI,[(4,none)]⟩
def ZB4:C:=.seq (.seq (.ops [qM 13 7,qF 14 4 2,qL 15 14,qN 16 15,qB 17 .lss 13 16]) (.cond (.t 17) .skip (.exit 2))) (.seq (.block 3 (.seq (.ops [qF 20 4 2,qL 21 20,qM 22 7,qI 23 3 21 22,qF 24 1 23,qL 25 24,qM 26 1,qB 27 .eql 25 26,qM 28 27,vF 29 4 2 28 true,vL 30 29 28 true,vM 31 7 28 true,vI 32 3 30 31 28 true,vF 33 2 32 28 true,vL 34 33 28 true,vM 35 6 28 true,vB 36 .eql 34 35 28 true,qP 37 28 36]) (.cond (.t 37) (.ops [qM 38 5,qM 39 7,oB 40 (.bslice 1 [zD] 1 [(0,(.t 39))]),oB 41 (.append 1 (.t 38) (.t 40)),qM 5 41]) .skip))) (.ops [qM 18 7,qK 19 .add 18 1,qM 7 19]))
def Zz6:C:=.seq (.seq (.ops [qM 9 6,qK 10 .lss 9 100]) (.cond (.t 10) .skip (.exit 0))) (.seq (.block 1 (.seq (.ops [qW 7 0]) (.block 2 (.loop [1,2,5,6,7] [1,2,5,6] ZB4)))) (.ops [qM 11 6,qK 12 .add 11 1,qM 6 12]))
def ZI0:C:=.seq (.ops [oB 2 (.box (.t 0)),oB 4 (.mov (.c (.nilsl 1)))]) (.seq (.ops [oB 8 (.bslice 1 [zD] 0 []),qM 5 8]) (.seq (.seq (.ops [qW 6 1]) (.block 0 (.loop [1,2,5,6] [5] Zz6))) (.seq (.ops [qM 42 5,qM 4 42]) .ret)))
def ZDV:FnI:=⟨2,ZI0,[(4,none)]⟩
def ZHD:C:=.seq (.ops [qW 2 0]) (.seq (.ops [qM 3 0,qK 4 .rem 3 4294967296,qM 0 4]) (.seq (.seq (.ops [qM 5 0,qK 6 .lss 5 0]) (.cond (.t 6) (.ops [qM 7 0,qK 8 .add 7 4294967296,qM 0 8]) .skip)) (.seq (.ops [qM 9 0,qM 2 9]) .ret)))
def ZDH:FnI:=⟨1,ZHD,[(2,none)]⟩
def ZJa:C:=.seq (.ops [qW 4 0]) (.seq (.ops [qM 7 0,qK 8 .quo 7 65536,qM 9 0,qK 10 .rem 9 65536,qM 5 8,qM 6 10]) (.seq (.ops [qM 11 5,qM 12 1,qB 13 .mul 11 12,qC 14 60 13,qK 15 .rem 14 65536,qK 16 .mul 15 65536,qM 17 6,qM 18 1,qB 19 .mul 17 18,qB 20 .add 16 19,qC 21 60 20,qM 4 21]) .ret))
def ZEq:FnI:=⟨2,ZJa,[(4,none)]⟩
def ZIx:C:=.seq (.ops [oB 1 (.box (.t 0)),qW 2 0]) (.seq (.seq (.ops [qF 3 2 1,qL 4 3,qN 5 4,qK 6 .lss 5 1,qM 7 6,vF 8 2 1 7 false,vL 9 8 7 false,vN 10 9 7 false,vK 11 .gtr 10 16 7 false,oB 12 (.pick (.t 7) bT (.t 11)),qM 13 12,vF 14 3 1 13 false,vL 15 14 13 false,vN 16 15 13 false,vK 17 .gtr 16 48 13 false,oB 18 (.pick (.t 13) bT (.t 17)),qM 19 18,vF 20 4 1 19 false,vL 21 20 19 false,vN 22 21 19 false,vK 23 .gtr 22 16 19 false,oB 24 (.pick (.t 19) bT (.t 23)),qM 25 24,vF 26 5 1 25 false,vL 27 26 25 false,vN 28 27 25 false,vK 29 .gtr 28 4 25 false,oB 30 (.pick (.t 25) bT (.t 29))]) (.cond (.t 30) (.seq (.ops [qW 2 50]) .ret) .skip)) (.seq (.seq (.ops [qA 31 6 1,qC 32 91 31,qU 33 32]) (.cond (.t 33) (.seq (.ops [qW 2 51]) .ret) .skip)) (.seq (.seq (.ops [qA 34 6 1,qC 35 92 34,qU 36 35]) (.cond (.t 36) (.seq (.ops [qW 2 52]) .ret) .skip)) (.seq (.seq (.ops [qA 37 6 1,qC 38 93 37,qU 39 38]) (.cond (.t 39) (.seq (.ops [qW 2 53]) .ret) .skip)) (.seq (.seq (.ops [qA 40 6 1,qC 41 94 40,qU 42 41]) (.cond (.t 42) (.seq (.ops [qW 2 54]) .ret) .skip)) (.seq (.seq (.ops [qA 43 6 1,qC 44 95 43,qU 45 44]) (.cond (.t 45) (.seq (.ops [qW 2 55]) .ret) .skip)) (.seq (.ops [qW 2 0]) .ret)))))))
def ZEb:FnI:=⟨1,ZIx,[(2,none)]⟩
def Zz3:C:=.seq (.seq (.ops [qM 10 4,qF 11 0 1,qL 12 11,qN 13 12,qB 14 .lss 10 13]) (.cond (.t 14) .skip (.exit 0))) (.seq (.block 1 (.seq (.ops [qA 17 2 1,qM 18 4,qD 19 97 17 18,qM 20 4,qI 21 1 19 20,qL 22 21]) (.cond (.t 22) (.seq (.ops [qW 2 43]) .ret) .skip))) (.ops [qM 15 4,qK 16 .add 15 1,qM 4 16]))
def ZI3:C:=.seq (.ops [oB 1 (.box (.t 0)),qW 2 0]) (.seq (.ops [qA 5 2 1,qC 6 96 5,qM 3 6]) (.seq (.seq (.ops [qM 7 3,qK 8 .neq 7 0]) (.cond (.t 8) (.seq (.ops [qM 9 3,qM 2 9]) .ret) .skip)) (.seq (.seq (.ops [qW 4 0]) (.block 0 (.loop [1,4] [2] Zz3))) (.seq (.ops [qW 2 0]) .ret))))
def ZEB:FnI:=⟨1,ZI3,[(2,none)]⟩
def ZzM:C:=.seq (.ops [qB 33 .lss 32 31]) (.seq (.cond (.t 33) .skip (.exit 4)) (.seq (.block 5 (.seq (.ops [qI 34 2 30 32,qA 35 2 34,oB 8 (.alloc (.d (.agg [zD,zD]))),oA (.store 2 (.t 8) (.t 35))]) (.seq (.ops [qF 36 1 8,qL 37 36,qM 38 6,qB 39 .eql 37 38,qM 40 39,vM 41 5 40 true,vF 42 0 8 40 true,vL 43 42 40 true,vI 44 1 41 43 40 true,vL 45 44 40 true,vU 46 45 40 true,qP 47 40 46]) (.cond (.t 47) (.exit 3) .skip)))) (.ops [qK 48 .add 32 1,qM 32 48])))
def ZB3:C:=.seq (.ops [qB 23 .lss 22 21]) (.seq (.cond (.t 23) .skip (.exit 2)) (.seq (.block 3 (.seq (.ops [qM 24 22,qM 6 24]) (.seq (.seq (.ops [qM 25 5,qM 26 6,qI 27 1 25 26,qL 28 27]) (.cond (.t 28) (.exit 3) .skip)) (.seq (.seq (.ops [qF 29 1 1,qL 30 29,qN 31 30,qW 32 0]) (.block 4 (.loop [1,4,5,6,21,22,30,31,32] [1,4,5,6,21,22] ZzM))) (.seq (.ops [qM 49 5,qM 50 6,qI 51 1 49 50,oA (.store 1 (.t 51) bT)]) (.seq (.ops [qM 52 4,qM 53 6,oB 54 (.bslice 1 [zD] 1 [(0,(.t 53))]),oB 55 (.append 1 (.t 52) (.t 54)),qM 4 55]) (.exit 1))))))) (.ops [qK 56 .add 22 1,qM 22 56])))
def ZBJ:C:=.seq (.seq (.ops [qM 13 4,qN 14 13,qF 15 0 1,qL 16 15,qN 17 16,qB 18 .lss 14 17]) (.cond (.t 18) .skip (.exit 0))) (.block 1 (.seq .skip (.seq (.seq (.ops [qF 19 0 1,qL 20 19,qN 21 20,qW 22 0]) (.block 2 (.loop [1,4,5,21,22] [1,4,5] ZB3))) (.seq (.ops [oB 2 (.mov (.c (.nilsl 1))),oB 3 (.mov bF)]) .ret))))
def ZHH:C:=.seq (.ops [oB 1 (.box (.t 0)),oB 2 (.mov (.c (.nilsl 1))),oB 3 (.mov bF)]) (.seq (.ops [oB 4 (.mov (.c (.nilsl 1)))]) (.seq (.ops [qF 9 0 1,qL 10 9,qN 11 10,oB 12 (.mkslice 1 [.bool false] (.t 11) (.t 11)),qM 5 12]) (.seq .skip (.seq (.block 0 (.loop [1,4,5] [2,3,4] ZBJ)) (.seq (.ops [qM 57 4,qM 2 57,oB 3 (.mov bT)]) .ret)))))
def ZEf:FnI:=⟨1,ZHH,[(2,none),(3,none)]⟩
def ZBE:C:=.seq (.seq (.ops [qM 14 8,qM 15 7,qN 16 15,qB 17 .lss 14 16]) (.cond (.t 17) .skip (.exit 0))) (.seq (.block 1 (.seq (.draw [qF 20 4 2,qL 21 20,uM 22 7 [0,1],uM 23 8 [0,1,2],uI 24 1 22 23 [0,1],uL 25 24 [0,1],qI 26 3 21 25,qF 27 2 26,qL 28 27,qM 9 28]) (.seq (.ops [qM 29 5,qM 30 9,qM 31 6,qB 32 .sub 30 31,oB 33 (.bslice 1 [zD] 1 [(0,(.t 32))]),oB 34 (.append 1 (.t 29) (.t 33)),qM 5 34]) (.ops [qM 35 9,qM 6 35])))) (.ops [qM 18 8,qK 19 .add 18 1,qM 8 19]))
def ZH5:C:=.seq (.ops [oB 2 (.box (.t 0)),oB 4 (.mov (.c (.nilsl 1)))]) (.seq (.ops [oB 10 (.bslice 1 [zD] 0 []),qM 5 10,qW 6 0]) (.seq (.ops [qA 11 6 2,qM 12 1,qD 13 59 11 12,qM 7 13]) (.seq (.seq (.ops [qW 8 0]) (.block 0 (.loop [1,2,5,6,7,8] [1,2,5,6] ZBE))) (.seq (.ops [qM 36 5,qF 37 2 2,qL 38 37,qM 39 1,qI 40 3 38 39,qF 41 2 40,qL 42 41,qM 43 6,qB 44 .sub 42 43,oB 45 (.bslice 1 [zD] 1 [(0,(.t 44))]),oB 46 (.append 1 (.t 36) (.t 45)),qM 4 46]) .ret))))
def ZFn:FnI:=⟨2,ZH5,[(4,none)]⟩
def ZAJ:C:=.seq (.seq (.ops [qM 11 6,qM 12 5,qN 13 12,qB 14 .lss 11 13]) (.cond (.t 14) .skip (.exit 0))) (.seq (.block 1 (.seq (.draw [qF 17 4 2,qL 18 17,uM 19 5 [0,1],uM 20 6 [0,1,2],uI 21 1 19 20 [0,1],uL 22 21 [0,1],qI 23 3 18 22,qF 24 2 23,qL 25 24,uF 26 2 3 [0,1,2,3,4,5,6,7,8],uL 27 26 [0,1,2,3,4,5,6,7,8],qB 28 .eql 25 27]) (.cond (.t 28) (.seq (.ops [qA 29 6 2,qF 30 1 3,qL 31 30,qD 32 58 29 31,qM 33 6,qB 34 .add 32 33,qK 35 .add 34 1,qM 4 35]) .ret) .skip))) (.ops [qM 15 6,qK 16 .add 15 1,qM 6 16]))
def ZHb:C:=.seq (.ops [oB 2 (.box (.t 0)),oB 3 (.box (.t 1)),qW 4 0]) (.seq (.ops [qA 7 6 2,qF 8 1 3,qL 9 8,qD 10 59 7 9,qM 5 10]) (.seq (.seq (.ops [qW 6 0]) (.block 0 (.loop [2,3,5,6] [4] ZAJ))) (.seq (.ops [qW 4 (-1)]) .ret)))
def ZEt:FnI:=⟨2,ZHb,[(4,none)]⟩
def ZHu:C:=.seq (.ops [oB 6 (.mov bF)]) (.seq (.ops [qM 7 1,qM 8 0,qB 9 .leq 7 8,qM 10 9,vM 11 0 10 true,vM 12 2 10 true,vB 13 .leq 11 12 10 true,qP 14 10 13,qM 6 14]) .ret)
def ZEe:FnI:=⟨3,ZHu,[(6,none)]⟩
def ZJm:C:=.seq (.ops [qW 2 0,oB 3 (.mov bF)]) (.seq (.seq (.ops [qM 4 0,qC 5 98 4,qK 6 .neq 5 0,qM 7 6,vM 8 0 7 false,oG 9 (.conv .u64 (.t 8)) 7 false,oG 10 (.call 99 [.t 9]) 7 false,vK 11 .neq 10 1 7 false,oB 12 (.pick (.t 7) bT (.t 11))]) (.cond (.t 12) (.seq (.ops [qW 2 0,oB 3 (.mov bF)]) .ret) .skip)) (.seq (.ops [qM 13 0,oB 14 (.conv .u64 (.t 13)),qC 15 100 14,qM 2 15,oB 3 (.mov bT)]) .ret))
def ZDN:FnI:=⟨1,ZJm,[(2,none),(3,none)]⟩
def ZJn:C:=.seq (.ops [oB 4 (.mov bF)]) (.seq (.ops [qM 5 0,qM 6 1,qD 7 101 5 6,qK 8 .geq 7 0,qM 4 8]) .ret)
def ZE0:FnI:=⟨2,ZJn,[(4,none)]⟩
def ZJN:C:=.seq (.ops [oB 1 (.box (.t 0)),oB 2 (.mov bF)]) (.seq (.ops [qF 3 0 1,qL 4 3,oB 5 (.call 67 [.t 4,(iN 0),(iN 5)]),qU 6 5,qM 7 6,vF 8 1 1 7 false,vL 9 8 7 false,oG 10 (.call 67 [.t 9,(iN 0),(iN 2147483647)]) 7 false,vU 11 10 7 false,oB 12 (.pick (.t 7) bT (.t 11)),qM 13 12,vF 14 2 1 13 false,vL 15 14 13 false,oG 16 (.call 67 [.t 15,(iN 1),(iN 100)]) 13 false,vU 17 16 13 false,oB 18 (.pick (.t 13) bT (.t 17)),qM 2 18]) .ret)
def ZES:FnI:=⟨1,ZJN,[(2,none)]⟩
def ZIY:C:=.seq (.ops [oB 3 (.box (.t 0)),oB 6 (.mov bF)]) (.seq (.ops [qM 7 1,qM 8 2,qB 9 .neq 7 8,qM 10 9,vM 11 1 10 true,vF 12 2 3 10 true,vL 13 12 10 true,vN 14 13 10 true,vK 15 .sub 14 1 10 true,oG 16 (.call 67 [.t 11,(iN 0),.t 15]) 10 true,qP 17 10 16,qM 18 17,vM 19 2 18 true,vF 20 2 3 18 true,vL 21 20 18 true,vN 22 21 18 true,vK 23 .sub 22 1 18 true,oG 24 (.call 67 [.t 19,(iN 0),.t 23]) 18 true,qP 25 18 24,qM 6 25]) .ret)
def ZEC:FnI:=⟨3,ZIY,[(6,none)]⟩
def ZHM:C:=.seq (.ops [oB 3 (.box (.t 1)),oB 4 (.mov bF)]) (.seq (.ops [qM 5 0,qA 6 2 3,qD 7 102 5 6,qK 8 .geq 7 0,qM 4 8]) .ret)
def ZDE:FnI:=⟨2,ZHM,[(4,none)]⟩
def ZIG:C:=.seq (.ops [oB 2 (.box (.t 0)),oB 3 (.mov bF)]) (.seq (.ops [qF 4 1 2,qL 5 4,qF 6 1 1,qL 7 6,qB 8 .eql 5 7,qM 9 8,vF 10 2 2 9 true,vL 11 10 9 true,vF 12 2 1 9 true,vL 13 12 9 true,vB 14 .eql 11 13 9 true,qP 15 9 14,qM 3 15]) .ret)
def ZDZ:FnI:=⟨2,ZIG,[(3,none)]⟩
def ZHA:C:=.seq (.ops [oB 4 (.mov bF)]) (.seq (.ops [qM 5 0,qM 6 1,qD 7 103 5 6,qK 8 .geq 7 0,qM 4 8]) .ret)
def ZEG:FnI:=⟨2,ZHA,[(4,none)]⟩
def ZIb:C:=.seq (.ops [oB 3 (.mov bF)]) (.seq (.ops [qF 4 1 1,qL 5 4,qM 6 0,qD 7 47 5 6,qM 3 7]) .ret)
def ZEh:FnI:=⟨2,ZIb,[(3,none)]⟩
def ZAI:C:=.seq (.ops [qB 10 .lss 9 8]) (.seq (.cond (.t 10) .skip (.exit 0)) (.seq (.block 1 (.seq (.ops [qM 11 9,qI 12 1 7 9,qL 13 12,qM 5 11,qM 6 13]) (.seq (.ops [qM 14 6,qF 15 2 2,qL 16 15,qN 17 16,qK 18 .sub 17 1,oB 19 (.call 67 [.t 14,(iN 0),.t 18]),qU 20 19,qM 21 20,vM 22 5 21 false,vK 23 .gtr 22 0 21 false,vM 24 23 21 false,vM 25 1 24 true,vM 26 5 24 true,vK 27 .sub 26 1 24 true,vI 28 1 25 27 24 true,vL 29 28 24 true,vM 30 6 24 true,vB 31 .geq 29 30 24 true,oG 32 (.pick (.t 24) (.t 31) bF) 21 false,oB 33 (.pick (.t 21) bT (.t 32))]) (.cond (.t 33) (.seq (.ops [oB 4 (.mov bF)]) .ret) .skip)))) (.ops [qK 34 .add 9 1,qM 9 34])))
def ZIJ:C:=.seq (.ops [oB 2 (.box (.t 0)),oB 4 (.mov bF)]) (.seq (.seq (.ops [qM 7 1,qN 8 7,qW 9 0]) (.block 0 (.loop [1,2,7,8,9] [1,4] ZAI))) (.seq (.ops [qM 35 1,qN 36 35,qK 37 .gtr 36 0,qM 4 37]) .ret))
def ZEg:FnI:=⟨2,ZIJ,[(4,none)]⟩
def ZJS:C:=.seq (.ops [oB 4 (.mov bF)]) (.seq (.ops [qM 5 0,qM 6 1,qD 7 104 5 6,qK 8 .geq 7 0,qM 4 8]) .ret)
def ZCc:FnI:=⟨2,ZJS,[(4,none)]⟩
def Zzq:C:=.seq (.ops [qB 15 .lss 14 13]) (.seq (.cond (.t 15) .skip (.exit 0)) (.seq (.block 1 (.seq (.ops [qM 16 14,qI 17 3 12 14,qA 18 3 17,oB 7 (.alloc (.d (.agg [zD,zD,zD]))),qM 6 16,oA (.store 3 (.t 7) (.t 18))]) (.seq (.ops [qF 19 1 7,qL 20 19,qM 21 1,qB 22 .eql 20 21]) (.cond (.t 22) (.ops [qM 23 5,qM 24 6,oB 25 (.bslice 1 [zD] 1 [(0,(.t 24))]),oB 26 (.append 1 (.t 23) (.t 25)),qM 5 26]) .skip)))) (.ops [qK 27 .add 14 1,qM 14 27])))
def ZJj:C:=.seq (.ops [oB 2 (.box (.t 0)),oB 4 (.mov (.c (.nilsl 1)))]) (.seq (.seq (.ops [qA 8 6 2,qC 9 41 8,qK 10 .neq 9 0]) (.cond (.t 10) (.seq (.ops [oB 4 (.mov (.c (.nilsl 1)))]) .ret) .skip)) (.seq (.ops [oB 5 (.mov (.c (.nilsl 1)))]) (.seq (.seq (.ops [qF 11 4 2,qL 12 11,qN 13 12,qW 14 0]) (.block 0 (.loop [1,2,5,12,13,14] [2,5] Zzq))) (.seq (.ops [qM 28 5,oB 29 (.mkfn 106 [.t 2]),qD 30 105 28 29]) (.seq (.ops [qM 31 5,qM 4 31]) .ret)))))
def ZFa:FnI:=⟨2,ZJj,[(4,none)]⟩
def ZIX:C:=.seq (.ops [oB 2 (.mov bF)]) (.seq (.ops [qM 3 0,qK 4 .lss 3 0,qM 5 4,vM 6 0 5 false,vK 7 .gtr 6 1000 5 false,oB 8 (.pick (.t 5) bT (.t 7)),qM 2 8]) .ret)
def ZD1:FnI:=⟨1,ZIX,[(2,none)]⟩
def ZIH:C:=.seq (.ops [oB 3 (.mov bF)]) (.seq (.ops [qM 4 0,qK 5 .geq 4 0,qM 6 5,vM 7 0 6 true,vF 8 0 1 6 true,vL 9 8 6 true,vN 10 9 6 true,vB 11 .lss 7 10 6 true,qP 12 6 11,qM 3 12]) .ret)
def ZFc:FnI:=⟨2,ZIH,[(3,none)]⟩
def Zz8:C:=.seq (.ops [qB 9 .lss 8 7]) (.seq (.cond (.t 9) .skip (.exit 0)) (.seq (.block 1 (.seq (.ops [qM 10 8,qM 5 10]) (.seq (.ops [qM 11 1,qM 12 0,qM 13 5,qI 14 1 12 13,qL 15 14,qB 16 .eql 11 15]) (.cond (.t 16) (.seq (.ops [qM 17 5,qM 4 17]) .ret) .skip)))) (.ops [qK 18 .add 8 1,qM 8 18])))
def ZIV:C:=.seq (.ops [qW 4 0]) (.seq (.seq (.ops [qM 6 0,qN 7 6,qW 8 0]) (.block 0 (.loop [0,1,7,8] [4] Zz8))) (.seq (.ops [qW 4 (-1)]) .ret))
def ZD0:FnI:=⟨2,ZIV,[(4,none)]⟩
def ZFj:C:=.seq (.seq (.ops [qM 7 3,qK 8 .geq 7 0]) (.cond (.t 8) .skip (.exit 0))) (.seq (.block 1 (.seq (.ops [qM 11 0,qM 12 3,qL 13 1,qM 14 3,qI 15 2 13 14,qA 16 2 15,oB 17 (.callv (.t 11) [.t 12,.t 16]),qU 18 17]) (.cond (.t 18) .ret .skip))) (.ops [qM 9 3,qK 10 .sub 9 1,qM 3 10]))
def ZIr:C:=.seq (.ops [qL 4 1,qN 5 4,qK 6 .sub 5 1,qM 3 6]) (.block 0 (.loop [0,1,3] [] ZFj))
def ZGy:FnI:=⟨2,ZIr,[]⟩
def ZIj:C:=.seq (.ops [oB 4 (.mov (.c (.d (.int .u32 0))))]) (.seq (.ops [qM 5 0,qM 6 1,qB 7 .add 5 6,qM 4 7]) .ret)
def ZDS:FnI:=⟨2,ZIj,[(4,none)]⟩
def ZHC:C:=.seq (.ops [oB 4 (.mov (.c (.d (.int .u32 0))))]) (.seq (.ops [qM 5 0,qM 6 1,qB 7 .mul 5 6,qM 4 7]) .ret)
def ZEM:FnI:=⟨2,ZHC,[(4,none)]⟩
def ZJz:C:=.seq (.ops [oB 4 (.mov (.c (.d (.int .u32 0))))]) (.seq (.ops [qM 5 0,qM 6 1,oB 7 (.mx true [.t 5,.t 6]),qM 4 7]) .ret)
def ZEH:FnI:=⟨2,ZJz,[(4,none)]⟩
def ZIe:C:=.seq (.ops [oB 4 (.mov (.c (.d (.int .u32 0))))]) (.seq (.ops [qM 5 0,oB 6 (.bin .mul (.t 5) (.c (.d (.int .u32 31)))),qM 7 1,qB 8 .add 6 7,qM 4 8]) .ret)
def ZEF:FnI:=⟨2,ZIe,[(4,none)]⟩
def ZFi:C:=.seq (.ops [qB 9 .lss 8 7]) (.seq (.cond (.t 9) .skip (.exit 0)) (.seq (.block 1 (.seq (.ops [qM 10 8,qM 5 10]) (.seq (.ops [qM 11 1,qM 12 0,qM 13 5,qI 14 2 12 13,qA 15 2 14,oB 16 (.callv (.t 11) [.t 15])]) (.cond (.t 16) (.seq (.ops [qM 17 5,qM 4 17]) .ret) .skip)))) (.ops [qK 18 .add 8 1,qM 8 18])))
def ZI5:C:=.seq (.ops [qW 4 0]) (.seq (.seq (.ops [qM 6 0,qN 7 6,qW 8 0]) (.block 0 (.loop [0,1,7,8] [4] ZFi))) (.seq (.ops [qW 4 (-1)]) .ret))
def ZGi:FnI:=⟨2,ZI5,[(4,none)]⟩
def ZBK:C:=.seq (.seq (.ops [qM 8 7,qF 9 1 3,qL 10 9,qN 11 10,qB 12 .lss 8 11]) (.cond (.t 12) .skip (.exit 0))) (.seq (.block 1 (.seq (.ops [qF 15 1 3,qL 16 15,qM 17 7,qI 18 2 16 17,qF 19 0 18,qL 20 19,qM 21 1,qB 22 .eql 20 21,qM 23 22,vF 24 1 3 23 true,vL 25 24 23 true,vM 26 7 23 true,vI 27 2 25 26 23 true,vF 28 1 27 23 true,vL 29 28 23 true,vM 30 2 23 true,vB 31 .eql 29 30 23 true,qP 32 23 31]) (.cond (.t 32) (.seq (.ops [oB 6 (.mov bT)]) .ret) .skip))) (.ops [qM 13 7,qK 14 .add 13 1,qM 7 14]))
def ZIO:C:=.seq (.ops [oB 3 (.box (.t 0)),oB 6 (.mov bF)]) (.seq (.seq (.ops [qW 7 0]) (.block 0 (.loop [1,2,3,7] [6] ZBK))) (.seq (.ops [oB 6 (.mov bF)]) .ret))
def ZEW:FnI:=⟨3,ZIO,[(6,none)]⟩
def ZJl:C:=.seq (.ops [oB 1 (.box (.t 0)),oB 2 (.mov bF)]) (.seq (.ops [qF 6 0 1,qL 7 6,qC 8 108 7,qM 5 8,qE 9 5 0,qE 10 5 1,qM 3 9,qM 4 10]) (.seq (.ops [qM 11 4,qM 12 11,vF 13 0 1 12 true,vL 14 13 12 true,vK 15 .leq 14 4096 12 true,qP 16 12 15,qM 17 16,vF 18 1 1 17 true,vL 19 18 17 true,vK 20 .geq 19 1 17 true,qP 21 17 20,qM 22 21,vF 23 1 1 22 true,vL 24 23 22 true,vF 25 0 1 22 true,vL 26 25 22 true,vB 27 .leq 24 26 22 true,qP 28 22 27,qM 2 28]) .ret))
def ZEp:FnI:=⟨1,ZJl,[(2,none)]⟩
def ZA5:C:=.seq (.seq (.ops [qM 5 3,qF 6 2 1,qL 7 6,qN 8 7,qB 9 .lss 5 8]) (.cond (.t 9) .skip (.exit 0))) (.seq (.block 1 (.seq (.ops [qF 12 2 1,qL 13 12,qM 14 3,qI 15 3 13 14,qA 16 3 15,oB 4 (.alloc (.d (.agg [zD,zD,zD]))),oA (.store 3 (.t 4) (.t 16))]) (.seq (.ops [qF 17 0 4,qL 18 17,qK 19 .lss 18 0,qM 20 19,vF 21 0 4 20 false,vL 22 21 20 false,vK 23 .gtr 22 5 20 false,oB 24 (.pick (.t 20) bT (.t 23)),qM 25 24,vF 26 1 4 25 false,vL 27 26 25 false,vK 28 .lss 27 0 25 false,oB 29 (.pick (.t 25) bT (.t 28)),qM 30 29,vF 31 1 4 30 false,vL 32 31 30 false,vK 33 .gtr 32 2147483647 30 false,oB 34 (.pick (.t 30) bT (.t 33)),qM 35 34,vF 36 2 4 35 false,vL 37 36 35 false,vK 38 .lss 37 1 35 false,oB 39 (.pick (.t 35) bT (.t 38)),qM 40 39,vF 41 2 4 40 false,vL 42 41 40 false,vK 43 .gtr 42 100 40 false,oB 44 (.pick (.t 40) bT (.t 43))]) (.cond (.t 44) (.seq (.ops [oB 2 (.mov bF)]) .ret) .skip)))) (.ops [qM 10 3,qK 11 .add 10 1,qM 3 11]))
def ZHB:C:=.seq (.ops [oB 1 (.box (.t 0)),oB 2 (.mov bF)]) (.seq (.seq (.ops [qW 3 0]) (.block 0 (.loop [1,3] [2] ZA5))) (.seq (.ops [oB 2 (.mov bT)]) .ret))
def ZDL:FnI:=⟨1,ZHB,[(2,none)]⟩
def ZA4:C:=.seq (.seq (.ops [qM 37 5,qM 38 3,qB 39 .lss 37 38]) (.cond (.t 39) .skip (.exit 2))) (.seq (.block 3 (.seq (.draw [qF 42 3 1,qL 43 42,uM 44 5 [0,1],qI 45 2 43 44,qF 46 0 45,qL 47 46,uF 48 0 4 [0,1,2,3,4,5],uL 49 48 [0,1,2,3,4,5],qB 50 .eql 47 49,qM 51 50,vF 52 3 1 51 true,vL 53 52 51 true,wM 54 5 51 true [10,11],vI 55 2 53 54 51 true,vF 56 1 55 51 true,vL 57 56 51 true,wF 58 1 4 51 true [10,11,12,13,14,15],wL 59 58 51 true [10,11,12,13,14,15],vB 60 .eql 57 59 51 true,qP 61 51 60]) (.cond (.t 61) (.seq (.ops [oB 2 (.mov bF)]) .ret) .skip))) (.ops [qM 40 5,qK 41 .add 40 1,qM 5 41]))
def Zzp:C:=.seq (.seq (.ops [qM 6 3,qF 7 3 1,qL 8 7,qN 9 8,qB 10 .lss 6 9]) (.cond (.t 10) .skip (.exit 0))) (.seq (.block 1 (.seq (.ops [qF 13 3 1,qL 14 13,qM 15 3,qI 16 2 14 15,qA 17 2 16,oB 4 (.alloc (.d (.agg [zD,zD]))),oA (.store 2 (.t 4) (.t 17))]) (.seq (.seq (.ops [qA 18 6 1,qF 19 0 4,qL 20 19,qD 21 109 18 20,qU 22 21,qM 23 22,vA 24 6 1 23 false,vF 25 1 4 23 false,vL 26 25 23 false,oG 27 (.call 109 [.t 24,.t 26]) 23 false,vU 28 27 23 false,oB 29 (.pick (.t 23) bT (.t 28)),qM 30 29,vF 31 0 4 30 false,vL 32 31 30 false,vF 33 1 4 30 false,vL 34 33 30 false,vB 35 .eql 32 34 30 false,oB 36 (.pick (.t 30) bT (.t 35))]) (.cond (.t 36) (.seq (.ops [oB 2 (.mov bF)]) .ret) .skip)) (.seq (.ops [qW 5 0]) (.block 2 (.loop [1,3,4,5] [1,2,3] ZA4)))))) (.ops [qM 11 3,qK 12 .add 11 1,qM 3 12]))
def ZI8:C:=.seq (.ops [oB 1 (.box (.t 0)),oB 2 (.mov bF)]) (.seq (.seq (.ops [qW 3 0]) (.block 0 (.loop [1,3] [2] Zzp))) (.seq (.ops [oB 2 (.mov bT)]) .ret))
def ZEE:FnI:=⟨1,ZI8,[(2,none)]⟩
def Zz9:C:=.seq (.seq (.ops [qM 54 5,qM 55 3,qB 56 .lss 54 55]) (.cond (.t 56) .skip (.exit 2))) (.seq (.block 3 (.seq (.draw [qF 59 4 1,qL 60 59,uM 61 5 [0,1],qI 62 3 60 61,qF 63 1 62,qL 64 63,uF 65 1 4 [0,1,2,3,4,5],uL 66 65 [0,1,2,3,4,5],qB 67 .eql 64 66,qM 68 67,vF 69 4 1 68 true,vL 70 69 68 true,wM 71 5 68 true [10,11],vI 72 3 70 71 68 true,vF 73 2 72 68 true,vL 74 73 68 true,wF 75 2 4 68 true [10,11,12,13,14,15],wL 76 75 68 true [10,11,12,13,14,15],vB 77 .eql 74 76 68 true,qP 78 68 77]) (.cond (.t 78) (.seq (.ops [oB 2 (.mov bF)]) .ret) .skip))) (.ops [qM 57 5,qK 58 .add 57 1,qM 5 58]))
def ZAc:C:=.seq (.seq (.ops [qM 6 3,qF 7 4 1,qL 8 7,qN 9 8,qB 10 .lss 6 9]) (.cond (.t 10) .skip (.exit 0))) (.seq (.block 1 (.seq (.ops [qF 13 4 1,qL 14 13,qM 15 3,qI 16 3 14 15,qA 17 3 16,oB 4 (.alloc (.d (.agg [zD,zD,zD]))),oA (.store 3 (.t 4) (.t 17))]) (.seq (.seq (.draw [qA 18 6 1,uF 19 0 4 [0],uL 20 19 [0],qD 21 109 18 20,qU 22 21,qM 23 22,vA 24 6 1 23 false,wF 25 1 4 23 false [6],wL 26 25 23 false [6],oG 27 (.call 109 [.t 24,.t 26]) 23 false,vU 28 27 23 false,oB 29 (.pick (.t 23) bT (.t 28)),qM 30 29,vF 31 0 4 30 false,vL 32 31 30 false,wF 33 1 4 30 false [13,14],wL 34 33 30 false [13,14],vB 35 .eql 32 34 30 false,oB 36 (.pick (.t 30) bT (.t 35)),qM 37 36,vF 38 2 4 37 false,vL 39 38 37 false,vK 40 .lss 39 1 37 false,oB 41 (.pick (.t 37) bT (.t 40)),qM 42 41,vF 43 2 4 42 false,vL 44 43 42 false,wF 45 2 1 42 false [25,26],wL 46 45 42 false [25,26],wF 47 1 4 42 false [25,26,27,28],wL 48 47 42 false [25,26,27,28],wI 49 3 46 48 42 false [25,26],wF 50 2 49 42 false [25,26],wL 51 50 42 false [25,26],vB 52 .geq 44 51 42 false,oB 53 (.pick (.t 42) bT (.t 52))]) (.cond (.t 53) (.seq (.ops [oB 2 (.mov bF)]) .ret) .skip)) (.seq (.ops [qW 5 0]) (.block 2 (.loop [1,3,4,5] [1,2,3] Zz9)))))) (.ops [qM 11 3,qK 12 .add 11 1,qM 3 12]))
def ZIa:C:=.seq (.ops [oB 1 (.box (.t 0)),oB 2 (.mov bF)]) (.seq (.seq (.ops [qW 3 0]) (.block 0 (.loop [1,3] [2] ZAc))) (.seq (.ops [oB 2 (.mov bT)]) .ret))
def ZEU:FnI:=⟨1,ZIa,[(2,none)]⟩
def ZAy:C:=.seq (.seq (.ops [qM 30 5,qF 31 0 4,qL 32 31,qN 33 32,qB 34 .lss 30 33]) (.cond (.t 34) .skip (.exit 2))) (.seq (.block 3 (.seq (.draw [qF 37 1 4,qL 38 37,uF 39 0 4 [0,1],uL 40 39 [0,1],uM 41 5 [0,1,2,3],uI 42 1 40 41 [0,1],uL 43 42 [0,1],qD 44 111 38 43]) (.cond (.t 44) (.seq (.ops [oB 2 (.mov bF)]) .ret) .skip))) (.ops [qM 35 5,qK 36 .add 35 1,qM 5 36]))
def ZBQ:C:=.seq (.seq (.ops [qM 6 3,qF 7 5 1,qL 8 7,qN 9 8,qB 10 .lss 6 9]) (.cond (.t 10) .skip (.exit 0))) (.seq (.block 1 (.seq (.ops [qF 13 5 1,qL 14 13,qM 15 3,qI 16 2 14 15,qA 17 2 16,oB 4 (.alloc (.agg [(.nilsl 1),(.nilsl 1)])),oA (.store 2 (.t 4) (.t 17))]) (.seq (.seq (.ops [qA 18 6 1,qF 19 0 4,qL 20 19,qD 21 110 18 20,qU 22 21,qM 23 22,vA 24 6 1 23 false,vF 25 1 4 23 false,vL 26 25 23 false,oG 27 (.call 110 [.t 24,.t 26]) 23 false,vU 28 27 23 false,oB 29 (.pick (.t 23) bT (.t 28))]) (.cond (.t 29) (.seq (.ops [oB 2 (.mov bF)]) .ret) .skip)) (.seq (.ops [qW 5 0]) (.block 2 (.loop [1,3,4,5] [1,2,3] ZAy)))))) (.ops [qM 11 3,qK 12 .add 11 1,qM 3 12]))
def ZHO:C:=.seq (.ops [oB 1 (.box (.t 0)),oB 2 (.mov bF)]) (.seq (.seq (.ops [qW 3 0]) (.block 0 (.loop [1,3] [2] ZBQ))) (.seq (.ops [oB 2 (.mov bT)]) .ret))
def ZEA:FnI:=⟨1,ZHO,[(2,none)]⟩
def Zzs:C:=.seq (.seq (.ops [qM 17 3,qF 18 0 1,qL 19 18,qN 20 19,qB 21 .lss 17 20]) (.cond (.t 21) .skip (.exit 0))) (.seq (.block 1 (.seq (.ops [qF 24 0 1,qL 25 24,qM 26 3,qI 27 1 25 26,qL 28 27,qK 29 .lss 28 0,qM 30 29,vF 31 0 1 30 false,vL 32 31 30 false,vM 33 3 30 false,vI 34 1 32 33 30 false,vL 35 34 30 false,vK 36 .gtr 35 1000 30 false,oB 37 (.pick (.t 30) bT (.t 36))]) (.cond (.t 37) (.seq (.ops [qW 2 41]) .ret) .skip))) (.ops [qM 22 3,qK 23 .add 22 1,qM 3 23]))
def ZBe:C:=.seq (.seq (.ops [qM 69 6,qM 70 4,qB 71 .lss 69 70]) (.cond (.t 71) .skip (.exit 4))) (.seq (.block 5 (.seq (.draw [qF 74 1 1,qL 75 74,uM 76 6 [0,1],qI 77 2 75 76,qA 78 2 77,uA 79 2 5 [0,1,2,3,4],oB 80 (.eqv [false,false] false (.t 78) (.t 79))]) (.cond (.t 80) (.seq (.ops [qW 2 42]) .ret) .skip))) (.ops [qM 72 6,qK 73 .add 72 1,qM 6 73]))
def ZA1:C:=.seq (.seq (.ops [qM 38 4,qF 39 1 1,qL 40 39,qN 41 40,qB 42 .lss 38 41]) (.cond (.t 42) .skip (.exit 2))) (.seq (.block 3 (.seq (.ops [qF 45 1 1,qL 46 45,qM 47 4,qI 48 2 46 47,qA 49 2 48,oB 5 (.alloc (.d (.agg [zD,zD]))),oA (.store 2 (.t 5) (.t 49))]) (.seq (.seq (.ops [qA 50 2 1,qF 51 0 5,qL 52 51,qD 53 112 50 52,qU 54 53,qM 55 54,vA 56 2 1 55 false,vF 57 1 5 55 false,vL 58 57 55 false,oG 59 (.call 112 [.t 56,.t 58]) 55 false,vU 60 59 55 false,oB 61 (.pick (.t 55) bT (.t 60)),qM 62 61,vF 63 0 5 62 false,vL 64 63 62 false,vF 65 1 5 62 false,vL 66 65 62 false,vB 67 .eql 64 66 62 false,oB 68 (.pick (.t 62) bT (.t 67))]) (.cond (.t 68) (.seq (.ops [qW 2 42]) .ret) .skip)) (.seq (.ops [qW 6 0]) (.block 4 (.loop [1,4,5,6] [1,2,4] ZBe)))))) (.ops [qM 43 4,qK 44 .add 43 1,qM 4 44]))
def ZIk:C:=.seq (.ops [oB 1 (.box (.t 0)),qW 2 0]) (.seq (.seq (.ops [qF 7 0 1,qL 8 7,qN 9 8,qK 10 .gtr 9 64,qM 11 10,vF 12 1 1 11 false,vL 13 12 11 false,vN 14 13 11 false,vK 15 .gtr 14 256 11 false,oB 16 (.pick (.t 11) bT (.t 15))]) (.cond (.t 16) (.seq (.ops [qW 2 40]) .ret) .skip)) (.seq (.seq (.ops [qW 3 0]) (.block 0 (.loop [1,3] [1,2] Zzs))) (.seq (.seq (.ops [qW 4 0]) (.block 2 (.loop [1,4] [2] ZA1))) (.seq (.ops [qW 2 0]) .ret))))
def ZD7:FnI:=⟨1,ZIk,[(2,none)]⟩
def Zzj:C:=.seq (.seq (.ops [qM 20 7,qF 21 1 2,qL 22 21,qN 23 22,qB 24 .lss 20 23]) (.cond (.t 24) .skip (.exit 2))) (.seq (.block 3 (.seq (.ops [qF 27 1 2,qL 28 27,qM 29 7,qI 30 2 28 29,qA 31 2 30,oB 8 (.alloc (.d (.agg [zD,zD]))),oA (.store 2 (.t 8) (.t 31))]) (.seq (.ops [qF 32 0 8,qL 33 32,qM 34 1,qB 35 .eql 33 34,qM 36 35,vM 37 5 36 false,vF 38 0 8 36 false,vL 39 38 36 false,vI 40 1 37 39 36 false,vL 41 40 36 false,oB 42 (.pick (.t 36) bT (.t 41))]) (.cond (.t 42) (.ops [qM 43 5,qF 44 1 8,qL 45 44,qI 46 1 43 45,oA (.store 1 (.t 46) bT)]) .skip)))) (.ops [qM 25 7,qK 26 .add 25 1,qM 7 26]))
def ZBs:C:=.seq (.seq (.ops [qM 13 6,qF 14 0 2,qL 15 14,qN 16 15,qB 17 .lss 13 16]) (.cond (.t 17) .skip (.exit 0))) (.seq (.block 1 (.seq (.ops [qW 7 0]) (.block 2 (.loop [1,2,5,6,7] [1,2,5,6] Zzj)))) (.ops [qM 18 6,qK 19 .add 18 1,qM 6 19]))
def ZJt:C:=.seq (.ops [oB 2 (.box (.t 0)),oB 4 (.mov (.c (.nilsl 1)))]) (.seq (.ops [qF 9 0 2,qL 10 9,qN 11 10,oB 12 (.mkslice 1 [.bool false] (.t 11) (.t 11)),qM 5 12]) (.seq (.seq (.ops [qW 6 0]) (.block 0 (.loop [1,2,5,6] [5] ZBs))) (.seq (.ops [qM 47 5,qM 4 47]) .ret)))
def ZEv:FnI:=⟨2,ZJt,[(4,none)]⟩
def ZHf:C:=.seq (.ops [qW 2 0]) (.seq (.block 0 (.seq (.ops [qM 4 0,qK 5 .lss 4 0,qM 3 5]) (.cond (.t 3) (.seq (.ops [qW 2 10]) .ret) (.seq (.ops [qM 7 0,qK 8 .gtr 7 1099511627775,qM 6 8]) (.cond (.t 6) (.seq (.ops [qW 2 11]) .ret) .skip))))) (.seq (.ops [qW 2 0]) .ret))
def ZEZ:FnI:=⟨1,ZHf,[(2,none)]⟩
def ZHY:C:=.seq (.ops [qW 2 0]) (.seq (.cond bF (.seq (.ops [qM 3 0,oB 4 (.conv .u32 (.t 3)),qC 5 113 4,qM 2 5]) .ret) .skip) (.seq (.ops [qM 6 0,qC 7 114 6,qM 2 7]) .ret))
def ZDO:FnI:=⟨1,ZHY,[(2,none)]⟩
def ZFo:C:=.seq (.ops [qW 2 0]) (.seq (.cond bF (.seq (.ops [qM 3 0,oB 4 (.conv .u32 (.t 3)),qC 5 115 4,qM 2 5]) .ret) .skip) (.seq (.ops [qM 6 0,qC 7 116 6,qM 2 7]) .ret))
def ZBx:FnI:=⟨1,ZFo,[(2,none)]⟩
def Zyk:C:=.seq (.ops [qB 9 .lss 8 7]) (.seq (.cond (.t 9) .skip (.exit 0)) (.seq (.block 1 (.seq (.ops [qM 10 8,qM 5 10]) (.seq (.ops [qM 11 1,qM 12 0,qM 13 5,qI 14 3 12 13,qA 15 3 14,oB 16 (.callv (.t 11) [.t 15])]) (.cond (.t 16) (.seq (.ops [qM 17 5,qM 4 17]) .ret) .skip)))) (.ops [qK 18 .add 8 1,qM 8 18])))
def ZFO:C:=.seq (.ops [qW 4 0]) (.seq (.seq (.ops [qM 6 0,qN 7 6,qW 8 0]) (.block 0 (.loop [0,1,7,8] [4] Zyk))) (.seq (.ops [qW 4 (-1)]) .ret))
def ZzV:FnI:=⟨2,ZFO,[(4,none)]⟩
def ZxN:C:=.seq (.ops [qB 9 .lss 8 7]) (.seq (.cond (.t 9) .skip (.exit 0)) (.seq (.block 1 (.seq (.ops [qM 10 8,qM 5 10]) (.seq (.draw [qA 11 2 3,uM 12 0 [0],uM 13 5 [0,1],uI 14 2 12 13 [0],uA 15 2 14 [0],oB 16 (.eqv [false,false] false (.t 11) (.t 15))]) (.cond (.t 16) (.seq (.ops [qM 17 5,qM 4 17]) .ret) .skip)))) (.ops [qK 18 .add 8 1,qM 8 18])))
def ZGp:C:=.seq (.ops [oB 3 (.box (.t 1)),qW 4 0]) (.seq (.seq (.ops [qM 6 0,qN 7 6,qW 8 0]) (.block 0 (.loop [0,3,7,8] [4] ZxN))) (.seq (.ops [qW 4 (-1)]) .ret))
def ZAd:FnI:=⟨2,ZGp,[(4,none)]⟩
def ZxJ:C:=.seq (.ops [qB 9 .lss 8 7]) (.seq (.cond (.t 9) .skip (.exit 0)) (.seq (.block 1 (.seq (.ops [qM 10 8,qM 5 10]) (.seq (.ops [qM 11 1,qM 12 0,qM 13 5,qI 14 3 12 13,qA 15 3 14,oB 16 (.callv (.t 11) [.t 15])]) (.cond (.t 16) (.seq (.ops [qM 17 5,qM 4 17]) .ret) .skip)))) (.ops [qK 18 .add 8 1,qM 8 18])))
def ZFy:C:=.seq (.ops [qW 4 0]) (.seq (.seq (.ops [qM 6 0,qN 7 6,qW 8 0]) (.block 0 (.loop [0,1,7,8] [4] ZxJ))) (.seq (.ops [qW 4 (-1)]) .ret))
def ZAo:FnI:=⟨2,ZFy,[(4,none)]⟩
def ZuK:C:=.seq (.ops [qB 9 .lss 8 7]) (.seq (.cond (.t 9) .skip (.exit 0)) (.seq (.block 1 (.seq (.ops [qM 10 8,qM 5 10]) (.seq (.ops [qM 11 1,qM 12 0,qM 13 5,qI 14 1 12 13,qL 15 14,oB 16 (.callv (.t 11) [.t 15])]) (.cond (.t 16) (.seq (.ops [qM 17 5,qM 4 17]) .ret) .skip)))) (.ops [qK 18 .add 8 1,qM 8 18])))
def ZGs:C:=.seq (.ops [qW 4 0]) (.seq (.seq (.ops [qM 6 0,qN 7 6,qW 8 0]) (.block 0 (.loop [0,1,7,8] [4] ZuK))) (.seq (.ops [qW 4 (-1)]) .ret))
def ZxC:FnI:=⟨2,ZGs,[(4,none)]⟩
def ZG0:C:=.seq (.ops [qM 5 0,qN 6 5,qM 4 6]) (.ops [qM 7 0,qM 8 4,qM 9 4,oB 10 (.conv .u64 (.t 9)),qC 11 118 10,qM 12 1,oB 13 (.call 117 [.t 7,(iN 0),.t 8,.t 11,.t 12])])
def ZBf:FnI:=⟨2,ZG0,[]⟩
def ZFH:C:=.seq (.ops [qW 5 0]) (.seq (.draw [qF 6 4 2,qL 7 6,uM 8 0 [0,1],qI 9 3 7 8,qF 10 2 9,qL 11 10,uF 12 4 2 [0,1,2,3,4,5],uL 13 12 [0,1,2,3,4,5],uM 14 1 [0,1,2,3,4,5,6,7],uI 15 3 13 14 [0,1,2,3,4,5],uF 16 2 15 [0,1,2,3,4,5],uL 17 16 [0,1,2,3,4,5],qB 18 .sub 11 17,qM 5 18]) .ret)
def ZzX:FnI:=⟨3,ZFH,[(5,none)]⟩
def ZxV:C:=.seq (.seq (.ops [qM 6 5,qK 7 .lss 6 40]) (.cond (.t 7) .skip (.exit 0))) (.seq (.block 1 (.seq (.seq (.ops [qM 10 4,qM 11 0,qB 12 .eql 10 11]) (.cond (.t 12) (.seq (.ops [qM 13 5,qM 2 13,oB 3 (.mov bT)]) .ret) .skip)) (.ops [qM 14 4,oB 15 (.bin .mul (iN 2) (.t 14)),qM 4 15]))) (.ops [qM 8 5,qK 9 .add 8 1,qM 5 9]))
def ZFz:C:=.seq (.ops [qW 2 0,oB 3 (.mov bF)]) (.seq (.ops [qW 4 1]) (.seq (.seq (.ops [qW 5 0]) (.block 0 (.loop [0,4,5] [2,3] ZxV))) (.seq (.ops [qW 2 0,oB 3 (.mov bF)]) .ret)))
def Zz4:FnI:=⟨1,ZFz,[(2,none),(3,none)]⟩
def ZFW:C:=.seq (.ops [oB 2 (.box (.t 0)),oB 4 (.mov bF)]) (.seq (.ops [qM 5 1,qK 6 .geq 5 0,qM 7 6,vM 8 1 7 true,vF 9 2 2 7 true,vL 10 9 7 true,vN 11 10 7 true,vB 12 .lss 8 11 7 true,qP 13 7 12,qM 4 13]) .ret)
def ZAm:FnI:=⟨2,ZFW,[(4,none)]⟩
def Zyj:C:=.seq (.seq (.ops [qM 6 5,qM 7 1,qN 8 7,qB 9 .lss 6 8]) (.cond (.t 9) .skip (.exit 0))) (.seq (.block 1 (.seq (.draw [qA 12 6 2,uM 13 1 [0],uM 14 5 [0,1],uI 15 1 13 14 [0],uL 16 15 [0],qD 17 109 12 16,qU 18 17,qM 19 18,vM 20 5 19 false,vK 21 .gtr 20 0 19 false,vM 22 21 19 false,vM 23 1 22 true,wM 24 5 22 true [11],⟨some 25,.bin .sub (.t 24) (iN 1),some (22,true),[11],0⟩,vI 26 1 23 25 22 true,vL 27 26 22 true,wM 28 1 22 true [11,12,13,14,15],wM 29 5 22 true [11,12,13,14,15,16],wI 30 1 28 29 22 true [11,12,13,14,15],wL 31 30 22 true [11,12,13,14,15],vB 32 .geq 27 31 22 true,oG 33 (.pick (.t 22) (.t 32) bF) 19 false,oB 34 (.pick (.t 19) bT (.t 33))]) (.cond (.t 34) (.seq (.ops [oB 4 (.mov bF)]) .ret) .skip))) (.ops [qM 10 5,qK 11 .add 10 1,qM 5 11]))
def ZGZ:C:=.seq (.ops [oB 2 (.box (.t 0)),oB 4 (.mov bF)]) (.seq (.seq (.ops [qW 5 0]) (.block 0 (.loop [1,2,5] [1,4] Zyj))) (.seq (.ops [qM 35 1,qN 36 35,qK 37 .gtr 36 0,qM 4 37]) .ret))
def Zz2:FnI:=⟨2,ZGZ,[(4,none)]⟩
def ZxF:C:=.seq (.seq (.ops [qM 6 5,qM 7 0,qN 8 7,qB 9 .lss 6 8]) (.cond (.t 9) .skip (.exit 0))) (.seq (.block 1 (.seq (.ops [qM 12 0,qM 13 5,qI 14 1 12 13,qL 15 14,qM 16 1,qB 17 .eql 15 16]) (.cond (.t 17) (.seq (.ops [oB 4 (.mov bT)]) .ret) .skip))) (.ops [qM 10 5,qK 11 .add 10 1,qM 5 11]))
def ZGN:C:=.seq (.ops [oB 4 (.mov bF)]) (.seq (.seq (.ops [qW 5 0]) (.block 0 (.loop [0,1,5] [4] ZxF))) (.seq (.ops [oB 4 (.mov bF)]) .ret))
def Zzm:FnI:=⟨2,ZGN,[(4,none)]⟩
def ZFZ:C:=.seq (.ops [oB 2 (.box (.t 0)),oB 4 (.mov bF)]) (.seq (.ops [qM 5 1,qK 6 .geq 5 0,qM 7 6,vM 8 1 7 true,vF 9 0 2 7 true,vL 10 9 7 true,vN 11 10 7 true,vB 12 .lss 8 11 7 true,qP 13 7 12,qM 4 13]) .ret)
def ZBN:FnI:=⟨2,ZFZ,[(4,none)]⟩
def ZFQ:C:=.seq (.ops [qW 2 0]) (.seq (.draw [qM 3 0,oB 4 (.bin .shr (.t 3) (.c (.d (.int .u64 24)))),oB 5 (.indexS (.c (.d (.str ⟨#[0,1,1,2,1,2,2,3,1,2,2,3,2,3,3,4,1,2,2,3,2,3,3,4,2,3,3,4,3,4,4,5,1,2,2,3,2,3,3,4,2,3,3,4,3,4,4,5,2,3,3,4,3,4,4,5,3,4,4,5,4,5,5,6,1,2,2,3,2,3,3,4,2,3,3,4,3,4,4,5,2,3,3,4,3,4,4,5,3,4,4,5,4,5,5,6,2,3,3,4,3,4,4,5,3,4,4,5,4,5,5,6,3,4,4,5,4,5,5,6,4,5,5,6,5,6,6,7,1,2,2,3,2,3,3,4,2,3,3,4,3,4,4,5,2,3,3,4,3,4,4,5,3,4,4,5,4,5,5,6,2,3,3,4,3,4,4,5,3,4,4,5,4,5,5,6,3,4,4,5,4,5,5,6,4,5,5,6,5,6,6,7,2,3,3,4,3,4,4,5,3,4,4,5,4,5,5,6,3,4,4,5,4,5,5,6,4,5,5,6,5,6,6,7,3,4,4,5,4,5,5,6,4,5,5,6,5,6,6,7,4,5,5,6,5,6,6,7,5,6,6,7,6,7,7,8]⟩))) (.t 4)),uM 6 0 [0,1,2],oM 7 (.bin .shr (.t 6) (.c (.d (.int .u64 16)))) [0,1,2],oM 8 (.bin .and (.t 7) (.c (.d (.int .u32 255)))) [0,1,2],oM 9 (.indexS (.c (.d (.str ⟨#[0,1,1,2,1,2,2,3,1,2,2,3,2,3,3,4,1,2,2,3,2,3,3,4,2,3,3,4,3,4,4,5,1,2,2,3,2,3,3,4,2,3,3,4,3,4,4,5,2,3,3,4,3,4,4,5,3,4,4,5,4,5,5,6,1,2,2,3,2,3,3,4,2,3,3,4,3,4,4,5,2,3,3,4,3,4,4,5,3,4,4,5,4,5,5,6,2,3,3,4,3,4,4,5,3,4,4,5,4,5,5,6,3,4,4,5,4,5,5,6,4,5,5,6,5,6,6,7,1,2,2,3,2,3,3,4,2,3,3,4,3,4,4,5,2,3,3,4,3,4,4,5,3,4,4,5,4,5,5,6,2,3,3,4,3,4,4,5,3,4,4,5,4,5,5,6,3,4,4,5,4,5,5,6,4,5,5,6,5,6,6,7,2,3,3,4,3,4,4,5,3,4,4,5,4,5,5,6,3,4,4,5,4,5,5,6,4,5,5,6,5,6,6,7,3,4,4,5,4,5,5,6,4,5,5,6,5,6,6,7,4,5,5,6,5,6,6,7,5,6,6,7,6,7,7,8]⟩))) (.t 8)) [0,1,2],qB 10 .add 5 9,uM 11 0 [0,1,2,3,4,5,6,7],oM 12 (.bin .shr (.t 11) (.c (.d (.int .u64 8)))) [0,1,2,3,4,5,6,7],oM 13 (.bin .and (.t 12) (.c (.d (.int .u32 255)))) [0,1,2,3,4,5,6,7],oM 14 (.indexS (.c (.d (.str ⟨#[0,1,1,2,1,2,2,3,1,2,2,3,2,3,3,4,1,2,2,3,2,3,3,4,2,3,3,4,3,4,4,5,1,2,2,3,2,3,3,4,2,3,3,4,3,4,4,5,2,3,3,4,3,4,4,5,3,4,4,5,4,5,5,6,1,2,2,3,2,3,3,4,2,3,3,4,3,4,4,5,2,3,3,4,3,4,4,5,3,4,4,5,4,5,5,6,2,3,3,4,3,4,4,5,3,4,4,5,4,5,5,6,3,4,4,5,4,5,5,6,4,5,5,6,5,6,6,7,1,2,2,3,2,3,3,4,2,3,3,4,3,4,4,5,2,3,3,4,3,4,4,5,3,4,4,5,4,5,5,6,2,3,3,4,3,4,4,5,3,4,4,5,4,5,5,6,3,4,4,5,4,5,5,6,4,5,5,6,5,6,6,7,2,3,3,4,3,4,4,5,3,4,4,5,4,5,5,6,3,4,4,5,4,5,5,6,4,5,5,6,5,6,6,7,3,4,4,5,4,5,5,6,4,5,5,6,5,6,6,7,4,5,5,6,5,6,6,7,5,6,6,7,6,7,7,8]⟩))) (.t 13)) [0,1,2,3,4,5,6,7],qB 15 .add 10 14,uM 16 0 [0,1,2,3,4,5,6,7,8,9,10,11,12],oM 17 (.bin .and (.t 16) (.c (.d (.int .u32 255)))) [0,1,2,3,4,5,6,7,8,9,10,11,12],oM 18 (.indexS (.c (.d (.str ⟨#[0,1,1,2,1,2,2,3,1,2,2,3,2,3,3,4,1,2,2,3,2,3,3,4,2,3,3,4,3,4,4,5,1,2,2,3,2,3,3,4,2,3,3,4,3,4,4,5,2,3,3,4,3,4,4,5,3,4,4,5,4,5,5,6,1,2,2,3,2,3,3,4,2,3,3,4,3,4,4,5,2,3,3,4,3,4,4,5,3,4,4,5,4,5,5,6,2,3,3,4,3,4,4,5,3,4,4,5,4,5,5,6,3,4,4,5,4,5,5,6,4,5,5,6,5,6,6,7,1,2,2,3,2,3,3,4,2,3,3,4,3,4,4,5,2,3,3,4,3,4,4,5,3,4,4,5,4,5,5,6,2,3,3,4,3,4,4,5,3,4,4,5,4,5,5,6,3,4,4,5,4,5,5,6,4,5,5,6,5,6,6,7,2,3,3,4,3,4,4,5,3,4,4,5,4,5,5,6,3,4,4,5,4,5,5,6,4,5,5,6,5,6,6,7,3,4,4,5,4,5,5,6,4,5,5,6,5,6,6,7,4,5,5,6,5,6,6,7,5,6,6,7,6,7,7,8]⟩))) (.t 17)) [0,1,2,3,4,5,6,7,8,9,10,11,12],qB 19 .add 15 18,oB 20 (.conv .i64 (.t 19)),qM 2 20]) .ret)
def ZDC:FnI:=⟨1,ZFQ,[(2,none)]⟩
def ZGK:C:=.seq (.ops [qW 2 0]) (.seq (.ops [qM 3 0,oB 4 (.bin .shr (.t 3) (.c (.d (.int .u64 1)))),oB 5 (.bin .and (.t 4) (.c (.d (.int .u64 6148914691236517205)))),qM 6 0,oB 7 (.bin .and (.t 6) (.c (.d (.int .u64 6148914691236517205)))),qB 8 .add 5 7,qM 0 8]) (.seq (.ops [qM 9 0,oB 10 (.bin .shr (.t 9) (.c (.d (.int .u64 2)))),oB 11 (.bin .and (.t 10) (.c (.d (.int .u64 3689348814741910323)))),qM 12 0,oB 13 (.bin .and (.t 12) (.c (.d (.int .u64 3689348814741910323)))),qB 14 .add 11 13,qM 0 14]) (.seq (.ops [qM 15 0,oB 16 (.bin .shr (.t 15) (.c (.d (.int .u64 4)))),qM 17 0,qB 18 .add 16 17,oB 19 (.bin .and (.t 18) (.c (.d (.int .u64 1085102592571150095)))),qM 0 19]) (.seq (.ops [qM 20 0,qM 21 0,oB 22 (.bin .shr (.t 21) (.c (.d (.int .u64 8)))),qB 23 .add 20 22,qM 0 23]) (.seq (.ops [qM 24 0,qM 25 0,oB 26 (.bin .shr (.t 25) (.c (.d (.int .u64 16)))),qB 27 .add 24 26,qM 0 27]) (.seq (.ops [qM 28 0,qM 29 0,oB 30 (.bin .shr (.t 29) (.c (.d (.int .u64 32)))),qB 31 .add 28 30,qM 0 31]) (.seq (.ops [qM 32 0,oB 33 (.conv .i64 (.t 32)),qK 34 .and 33 127,qM 2 34]) .ret)))))))
def ZAe:FnI:=⟨1,ZGK,[(2,none)]⟩
def ZGa:C:=.seq (.ops [qW 2 0]) (.seq (.seq (.ops [qM 3 0,oB 4 (.bin .eql (.t 3) (.c (.d (.int .u32 0))))]) (.cond (.t 4) (.seq (.ops [qW 2 32]) .ret) .skip)) (.seq (.ops [qM 5 0,qM 6 0,oB 7 (.un .neg (.t 6)),qB 8 .and 5 7,oB 9 (.bin .mul (.t 8) (.c (.d (.int .u32 125613361)))),oB 10 (.bin .shr (.t 9) (.c (.d (.int .u64 27)))),oB 11 (.iaddrA 32 1 (.c (.d (.rptr ZGl))) (.t 10)),qL 12 11,oB 13 (.conv .i64 (.t 12)),qM 2 13]) .ret))
def ZDB:FnI:=⟨1,ZGa,[(2,none)]⟩
def ZGU:C:=.seq (.ops [qW 2 0]) (.seq (.seq (.ops [qM 3 0,oB 4 (.bin .eql (.t 3) (.c (.d (.int .u64 0))))]) (.cond (.t 4) (.seq (.ops [qW 2 64]) .ret) .skip)) (.seq (.ops [qM 5 0,qM 6 0,oB 7 (.un .neg (.t 6)),qB 8 .and 5 7,oB 9 (.bin .mul (.t 8) (.c (.d (.int .u64 285870213051353865)))),oB 10 (.bin .shr (.t 9) (.c (.d (.int .u64 58)))),oB 11 (.iaddrA 64 1 (.c (.d (.rptr ZAE))) (.t 10)),qL 12 11,oB 13 (.conv .i64 (.t 12)),qM 2 13]) .ret))
def ZBS:FnI:=⟨1,ZGU,[(2,none)]⟩
def ZxU:C:=.block 1 (.seq (.ops [qM 21 2,qM 22 1,qB 23 .sub 21 22,qM 12 23]) (.seq (.seq (.ops [qM 24 12,qK 25 .leq 24 12]) (.cond (.t 25) (.seq (.ops [qM 26 0,qM 27 1,qM 28 2,qM 29 4,oB 30 (.call 120 [.t 26,.t 27,.t 28,.t 29])]) .ret) .skip)) (.seq (.seq (.ops [qM 31 3,qK 32 .eql 31 0]) (.cond (.t 32) (.seq (.ops [qM 33 0,qM 34 1,qM 35 2,qM 36 4,oB 37 (.call 121 [.t 33,.t 34,.t 35,.t 36])]) .ret) .skip)) (.seq (.seq (.ops [qM 38 10,qU 39 38]) (.cond (.t 39) (.seq (.ops [qM 40 0,qM 41 1,qM 42 2,qM 43 4,oB 44 (.call 122 [.t 40,.t 41,.t 42,.t 43])]) (.ops [qM 45 3,qK 46 .sub 45 1,qM 3 46])) .skip)) (.seq (.ops [qM 48 0,qM 49 1,qM 50 2,qM 51 4,oB 52 (.call 123 [.t 48,.t 49,.t 50,.t 51]),qM 47 52,qE 53 47 0,qE 54 47 1,qM 13 53,qM 14 54]) (.seq (.seq (.ops [qM 55 14,qK 56 .eql 55 2]) (.cond (.t 56) (.seq (.ops [qM 57 0,qM 58 1,qM 59 2,qM 60 4,oB 61 (.call 124 [.t 57,.t 58,.t 59,.t 60])]) (.seq (.ops [qM 62 2,qK 63 .sub 62 1,qM 64 13,qM 65 1,qB 66 .sub 64 65,qB 67 .sub 63 66,qM 13 67]) (.ops [qW 14 1]))) .skip)) (.seq (.seq (.ops [qM 68 10,qM 69 68,vM 70 11 69 true,qP 71 69 70,qM 72 71,vM 73 14 72 true,vK 74 .eql 73 1 72 true,qP 75 72 74]) (.cond (.t 75) (.seq (.ops [qM 76 0,qM 77 1,qM 78 2,qM 79 4,oB 80 (.call 125 [.t 76,.t 77,.t 78,.t 79])]) (.cond (.t 80) .ret .skip)) .skip)) (.seq (.seq (.draw [qM 81 1,qK 82 .gtr 81 0,qM 83 82,vM 84 4 83 true,wM 85 0 83 true [3],wM 86 1 83 true [3,4],⟨some 87,.bin .sub (.t 86) (iN 1),some (83,true),[3,4],0⟩,wI 88 1 85 87 83 true [3],wL 89 88 83 true [3],wM 90 0 83 true [3,4,5,6,7,8],wM 91 13 83 true [3,4,5,6,7,8,9],wI 92 1 90 91 83 true [3,4,5,6,7,8],wL 93 92 83 true [3,4,5,6,7,8],oG 94 (.callv (.t 84) [.t 89,.t 93]) 83 true,vK 95 .lss 94 0 83 true,vU 96 95 83 true,qP 97 83 96]) (.cond (.t 97) (.seq (.ops [qM 98 0,qM 99 1,qM 100 2,qM 101 13,qM 102 4,oB 103 (.call 126 [.t 98,.t 99,.t 100,.t 101,.t 102]),qM 15 103]) (.seq (.ops [qM 104 15,qM 1 104]) (.exit 1))) .skip)) (.seq (.ops [qM 106 0,qM 107 1,qM 108 2,qM 109 13,qM 110 4,oB 111 (.call 127 [.t 106,.t 107,.t 108,.t 109,.t 110]),qM 105 111,qE 112 105 0,qE 113 105 1,qM 16 112,qM 17 113]) (.seq (.ops [qM 114 17,qM 11 114]) (.seq (.ops [qM 115 16,qM 116 1,qB 117 .sub 115 116,qM 118 2,qM 119 16,qB 120 .sub 118 119,qM 18 117,qM 19 120]) (.seq (.ops [qM 121 12,qK 122 .quo 121 8,qM 20 122]) (.seq (.ops [qM 123 18,qM 124 19,qB 125 .lss 123 124]) (.cond (.t 125) (.seq (.ops [qM 126 18,qM 127 20,qB 128 .geq 126 127,qM 10 128]) (.seq (.ops [qM 129 0,qM 130 1,qM 131 16,qM 132 3,qM 133 4,oB 134 (.call 117 [.t 129,.t 130,.t 131,.t 132,.t 133])]) (.ops [qM 135 16,qK 136 .add 135 1,qM 1 136]))) (.seq (.ops [qM 137 19,qM 138 20,qB 139 .geq 137 138,qM 10 139]) (.seq (.ops [qM 140 0,qM 141 16,qK 142 .add 141 1,qM 143 2,qM 144 3,qM 145 4,oB 146 (.call 117 [.t 140,.t 142,.t 143,.t 144,.t 145])]) (.ops [qM 147 16,qM 2 147])))))))))))))))))
def ZGO:C:=.seq (.ops [oB 10 (.mov bT)]) (.seq (.ops [oB 11 (.mov bT)]) (.block 0 (.loop [0,1,2,3,4,10,11] [] ZxU)))
def Zzi:FnI:=⟨5,ZGO,[]⟩
def ZGY:C:=.seq (.ops [qW 2 0]) (.seq (.cond bF (.seq (.ops [qM 3 0,oB 4 (.conv .u32 (.t 3)),qC 5 128 4,qM 2 5]) .ret) .skip) (.seq (.ops [qM 6 0,qC 7 129 6,qM 2 7]) .ret))
def ZA2:FnI:=⟨1,ZGY,[(2,none)]⟩
def Zx1:C:=.seq (.seq (.draw [qM 18 9,uM 19 1 [0],qB 20 .gtr 18 19,qM 21 20,vM 22 3 21 true,wM 23 0 21 true [4],wM 24 9 21 true [4,5],wI 25 1 23 24 21 true [4],wL 26 25 21 true [4],wM 27 0 21 true [4,5,6,7,8],wM 28 9 21 true [4,5,6,7,8,9],⟨some 29,.bin .sub (.t 28) (iN 1),some (21,true),[4,5,6,7,8,9],0⟩,wI 30 1 27 29 21 true [4,5,6,7,8],wL 31 30 21 true [4,5,6,7,8],oG 32 (.callv (.t 22) [.t 26,.t 31]) 21 true,vK 33 .lss 32 0 21 true,qP 34 21 33]) (.cond (.t 34) .skip (.exit 2))) (.seq (.block 3 (.draw [qM 37 0,uM 38 9 [0],uM 39 0 [0,1],uM 40 9 [0,1,2],oM 41 (.bin .sub (.t 40) (iN 1)) [0,1,2],uM 42 0 [0,1,2,3,4],uM 43 9 [0,1,2,3,4,5],oM 44 (.bin .sub (.t 43) (iN 1)) [0,1,2,3,4,5],uI 45 1 42 44 [0,1,2,3,4],uL 46 45 [0,1,2,3,4],uM 47 0 [0,1,2,3,4,5,6,7,8,9],uM 48 9 [0,1,2,3,4,5,6,7,8,9,10],uI 49 1 47 48 [0,1,2,3,4,5,6,7,8,9],uL 50 49 [0,1,2,3,4,5,6,7,8,9],uI 51 1 37 38 [2,3,4],⟨none,.store 1 (.t 51) (.t 46),none,[],3⟩,qI 52 1 39 41,⟨none,.store 1 (.t 52) (.t 50),none,[],3⟩])) (.ops [qM 35 9,qK 36 .sub 35 1,qM 9 36]))
def ZxS:C:=.seq (.seq (.ops [qM 12 8,qM 13 2,qB 14 .lss 12 13]) (.cond (.t 14) .skip (.exit 0))) (.seq (.block 1 (.seq (.ops [qM 17 8,qM 9 17]) (.block 2 (.loop [0,1,2,3,8,9] [0,1,2,3,8] Zx1)))) (.ops [qM 15 8,qK 16 .add 15 1,qM 8 16]))
def ZG9:C:=.seq (.ops [qM 10 1,qK 11 .add 10 1,qM 8 11]) (.block 0 (.loop [0,1,2,3,8] [] ZxS))
def ZAK:FnI:=⟨4,ZG9,[]⟩
def ZxQ:C:=.seq (.seq (.ops [qM 20 11,qK 21 .geq 20 0]) (.cond (.t 21) .skip (.exit 0))) (.seq (.block 1 (.ops [qM 24 0,qM 25 11,qM 26 10,qM 27 8,qM 28 3,oB 29 (.call 139 [.t 24,.t 25,.t 26,.t 27,.t 28])])) (.ops [qM 22 11,qK 23 .sub 22 1,qM 11 23]))
def ZxA:C:=.seq (.seq (.ops [qM 32 12,qK 33 .geq 32 0]) (.cond (.t 33) .skip (.exit 2))) (.seq (.block 3 (.seq (.draw [qM 36 0,uM 37 8 [0],uM 38 0 [0,1],uM 39 8 [0,1,2],uM 40 12 [0,1,2,3],oM 41 (.bin .add (.t 39) (.t 40)) [0,1,2],uM 42 0 [0,1,2,3,4,5],uM 43 8 [0,1,2,3,4,5,6],uM 44 12 [0,1,2,3,4,5,6,7],oM 45 (.bin .add (.t 43) (.t 44)) [0,1,2,3,4,5,6],uI 46 1 42 45 [0,1,2,3,4,5],uL 47 46 [0,1,2,3,4,5],uM 48 0 [0,1,2,3,4,5,6,7,8,9,10,11],uM 49 8 [0,1,2,3,4,5,6,7,8,9,10,11,12],uI 50 1 48 49 [0,1,2,3,4,5,6,7,8,9,10,11],uL 51 50 [0,1,2,3,4,5,6,7,8,9,10,11],uI 52 1 36 37 [2,3,4,5],⟨none,.store 1 (.t 52) (.t 47),none,[],3⟩,qI 53 1 38 41,⟨none,.store 1 (.t 53) (.t 51),none,[],3⟩]) (.ops [qM 54 0,qM 55 9,qM 56 12,qM 57 8,qM 58 3,oB 59 (.call 139 [.t 54,.t 55,.t 56,.t 57,.t 58])]))) (.ops [qM 34 12,qK 35 .sub 34 1,qM 12 35]))
def ZFF:C:=.seq (.ops [qM 13 1,qM 8 13]) (.seq (.ops [qW 9 0]) (.seq (.ops [qM 14 2,qM 15 1,qB 16 .sub 14 15,qM 10 16]) (.seq (.seq (.ops [qM 17 10,qK 18 .sub 17 1,qK 19 .quo 18 2,qM 11 19]) (.block 0 (.loop [0,3,8,9,10,11] [0,3,8,9,10] ZxQ))) (.seq (.ops [qM 30 10,qK 31 .sub 30 1,qM 12 31]) (.block 2 (.loop [0,3,8,9,12] [] ZxA))))))
def ZzH:FnI:=⟨4,ZFF,[]⟩
def Zyb:C:=.seq (.seq (.ops [qM 28 11,qM 29 1,qM 30 8,qK 31 .quo 30 4,qK 32 .mul 31 2,qB 33 .add 29 32,qK 34 .add 33 1,qB 35 .leq 28 34]) (.cond (.t 35) .skip (.exit 0))) (.seq (.block 1 (.seq (.ops [qC 38 141 9,qM 39 10,oB 40 (.bin .sub (.t 39) (.c (.d (.int .u64 1)))),qB 41 .and 38 40,oB 42 (.conv .i64 (.t 41)),qM 12 42]) (.seq (.seq (.ops [qM 43 12,qM 44 8,qB 45 .geq 43 44]) (.cond (.t 45) (.ops [qM 46 12,qM 47 8,qB 48 .sub 46 47,qM 12 48]) .skip)) (.draw [qM 49 0,uM 50 11 [0],uM 51 0 [0,1],uM 52 1 [0,1,2],uM 53 12 [0,1,2,3],oM 54 (.bin .add (.t 52) (.t 53)) [0,1,2],uM 55 0 [0,1,2,3,4,5],uM 56 1 [0,1,2,3,4,5,6],uM 57 12 [0,1,2,3,4,5,6,7],oM 58 (.bin .add (.t 56) (.t 57)) [0,1,2,3,4,5,6],uI 59 1 55 58 [0,1,2,3,4,5],uL 60 59 [0,1,2,3,4,5],uM 61 0 [0,1,2,3,4,5,6,7,8,9,10,11],uM 62 11 [0,1,2,3,4,5,6,7,8,9,10,11,12],uI 63 1 61 62 [0,1,2,3,4,5,6,7,8,9,10,11],uL 64 63 [0,1,2,3,4,5,6,7,8,9,10,11],uI 65 1 49 50 [2,3,4,5],⟨none,.store 1 (.t 65) (.t 60),none,[],3⟩,qI 66 1 51 54,⟨none,.store 1 (.t 66) (.t 64),none,[],3⟩])))) (.ops [qM 36 11,qK 37 .add 36 1,qM 11 37]))
def ZGV:C:=.seq (.ops [qM 13 2,qM 14 1,qB 15 .sub 13 14,qM 8 15]) (.seq (.ops [qM 16 8,qK 17 .geq 16 8]) (.cond (.t 17) (.seq (.ops [qM 18 8,oB 19 (.conv .u64 (.t 18)),oB 9 (.alloc (.d (.int .u64 0))),oA (.store 1 (.t 9) (.t 19))]) (.seq (.ops [qM 20 8,qC 21 140 20,qM 10 21]) (.seq (.ops [qM 22 1,qM 23 8,qK 24 .quo 23 4,qK 25 .mul 24 2,qB 26 .add 22 25,qK 27 .sub 26 1,qM 11 27]) (.block 0 (.loop [0,1,8,9,10,11] [] Zyb))))) .skip))
def Zzr:FnI:=⟨4,ZGV,[]⟩
def ZGG:C:=.seq (.ops [qW 8 0,qW 9 0]) (.seq (.ops [qM 15 2,qM 16 1,qB 17 .sub 15 16,qM 10 17]) (.seq (.ops [oB 11 (.alloc zI)]) (.seq (.ops [qM 18 1,qM 19 10,qK 20 .quo 19 4,qK 21 .mul 20 1,qB 22 .add 18 21,qM 12 22]) (.seq (.ops [qM 23 1,qM 24 10,qK 25 .quo 24 4,qK 26 .mul 25 2,qB 27 .add 23 26,qM 13 27]) (.seq (.ops [qM 28 1,qM 29 10,qK 30 .quo 29 4,qK 31 .mul 30 3,qB 32 .add 28 31,qM 14 32]) (.seq (.seq (.ops [qM 33 10,qK 34 .geq 33 8]) (.cond (.t 34) (.seq (.seq (.ops [qM 35 10,qK 36 .geq 35 50]) (.cond (.t 36) (.seq (.ops [qM 37 0,qM 38 12,qM 39 3,oB 40 (.call 142 [.t 37,.t 38,.t 11,.t 39]),qM 12 40]) (.seq (.ops [qM 41 0,qM 42 13,qM 43 3,oB 44 (.call 142 [.t 41,.t 42,.t 11,.t 43]),qM 13 44]) (.ops [qM 45 0,qM 46 14,qM 47 3,oB 48 (.call 142 [.t 45,.t 46,.t 11,.t 47]),qM 14 48]))) .skip)) (.ops [qM 49 0,qM 50 12,qM 51 13,qM 52 14,qM 53 3,oB 54 (.call 143 [.t 49,.t 50,.t 51,.t 52,.t 11,.t 53]),qM 13 54])) .skip)) (.seq (.ops [qL 55 11]) (.block 0 (.seq (.ops [qK 58 .eql 55 0,qM 57 58]) (.cond (.t 57) (.seq (.ops [qM 59 13,qM 8 59,qW 9 1]) .ret) (.seq (.ops [qK 61 .eql 55 12,qM 60 61]) (.cond (.t 60) (.seq (.ops [qM 62 13,qM 8 62,qW 9 2]) .ret) (.seq (.ops [qM 56 13,qM 8 56,qW 9 0]) .ret)))))))))))))
def ZA8:FnI:=⟨4,ZGG,[(8,none),(9,none)]⟩
def Zx0:C:=.seq (.seq (.ops [qM 13 8,qM 14 9,qB 15 .lss 13 14]) (.cond (.t 15) .skip (.exit 0))) (.block 1 (.seq (.draw [qM 16 0,uM 17 8 [0],uM 18 0 [0,1],uM 19 9 [0,1,2],uM 20 0 [0,1,2,3],uM 21 9 [0,1,2,3,4],uI 22 1 20 21 [0,1,2,3],uL 23 22 [0,1,2,3],uM 24 0 [0,1,2,3,4,5,6,7],uM 25 8 [0,1,2,3,4,5,6,7,8],uI 26 1 24 25 [0,1,2,3,4,5,6,7],uL 27 26 [0,1,2,3,4,5,6,7],uI 28 1 16 17 [2,3],⟨none,.store 1 (.t 28) (.t 23),none,[],3⟩,qI 29 1 18 19,⟨none,.store 1 (.t 29) (.t 27),none,[],3⟩]) (.seq (.ops [qM 30 8,qK 31 .add 30 1,qM 8 31]) (.ops [qM 32 9,qK 33 .sub 32 1,qM 9 33]))))
def ZFD:C:=.seq (.ops [qM 10 1,qM 8 10]) (.seq (.ops [qM 11 2,qK 12 .sub 11 1,qM 9 12]) (.block 0 (.loop [0,8,9] [] Zx0)))
def ZB5:FnI:=⟨4,ZFD,[]⟩
def ZxG:C:=.seq (.seq (.draw [qM 19 9,uM 20 2 [0],qB 21 .lss 19 20,qM 22 21,vM 23 3 22 true,wM 24 0 22 true [4],wM 25 9 22 true [4,5],wI 26 1 24 25 22 true [4],wL 27 26 22 true [4],wM 28 0 22 true [4,5,6,7,8],wM 29 9 22 true [4,5,6,7,8,9],⟨some 30,.bin .sub (.t 29) (iN 1),some (22,true),[4,5,6,7,8,9],0⟩,wI 31 1 28 30 22 true [4,5,6,7,8],wL 32 31 22 true [4,5,6,7,8],oG 33 (.callv (.t 23) [.t 27,.t 32]) 22 true,vK 34 .lss 33 0 22 true,vU 35 34 22 true,qP 36 22 35]) (.cond (.t 36) .skip (.exit 2))) (.block 3 (.ops [qM 37 9,qK 38 .add 37 1,qM 9 38]))
def Zyg:C:=.seq (.seq (.ops [qM 68 11,qK 69 .geq 68 1]) (.cond (.t 69) .skip (.exit 4))) (.seq (.block 5 (.seq (.seq (.draw [qM 72 3,uM 73 0 [0],uM 74 11 [0,1],uI 75 1 73 74 [0],uL 76 75 [0],uM 77 0 [0,1,2,3,4],uM 78 11 [0,1,2,3,4,5],oM 79 (.bin .sub (.t 78) (iN 1)) [0,1,2,3,4,5],uI 80 1 77 79 [0,1,2,3,4],uL 81 80 [0,1,2,3,4],oB 82 (.callv (.t 72) [.t 76,.t 81]),qK 83 .lss 82 0,qU 84 83]) (.cond (.t 84) (.exit 4) .skip)) (.draw [qM 85 0,uM 86 11 [0],uM 87 0 [0,1],uM 88 11 [0,1,2],oM 89 (.bin .sub (.t 88) (iN 1)) [0,1,2],uM 90 0 [0,1,2,3,4],uM 91 11 [0,1,2,3,4,5],oM 92 (.bin .sub (.t 91) (iN 1)) [0,1,2,3,4,5],uI 93 1 90 92 [0,1,2,3,4],uL 94 93 [0,1,2,3,4],uM 95 0 [0,1,2,3,4,5,6,7,8,9],uM 96 11 [0,1,2,3,4,5,6,7,8,9,10],uI 97 1 95 96 [0,1,2,3,4,5,6,7,8,9],uL 98 97 [0,1,2,3,4,5,6,7,8,9],uI 99 1 85 86 [2,3,4],⟨none,.store 1 (.t 99) (.t 94),none,[],3⟩,qI 100 1 87 89,⟨none,.store 1 (.t 100) (.t 98),none,[],3⟩]))) (.ops [qM 70 11,qK 71 .sub 70 1,qM 11 71]))
def ZxI:C:=.seq (.seq (.ops [qM 107 12,qM 108 2,qB 109 .lss 107 108]) (.cond (.t 109) .skip (.exit 6))) (.seq (.block 7 (.seq (.seq (.draw [qM 112 3,uM 113 0 [0],uM 114 12 [0,1],uI 115 1 113 114 [0],uL 116 115 [0],uM 117 0 [0,1,2,3,4],uM 118 12 [0,1,2,3,4,5],oM 119 (.bin .sub (.t 118) (iN 1)) [0,1,2,3,4,5],uI 120 1 117 119 [0,1,2,3,4],uL 121 120 [0,1,2,3,4],oB 122 (.callv (.t 112) [.t 116,.t 121]),qK 123 .lss 122 0,qU 124 123]) (.cond (.t 124) (.exit 6) .skip)) (.draw [qM 125 0,uM 126 12 [0],uM 127 0 [0,1],uM 128 12 [0,1,2],oM 129 (.bin .sub (.t 128) (iN 1)) [0,1,2],uM 130 0 [0,1,2,3,4],uM 131 12 [0,1,2,3,4,5],oM 132 (.bin .sub (.t 131) (iN 1)) [0,1,2,3,4,5],uI 133 1 130 132 [0,1,2,3,4],uL 134 133 [0,1,2,3,4],uM 135 0 [0,1,2,3,4,5,6,7,8,9],uM 136 12 [0,1,2,3,4,5,6,7,8,9,10],uI 137 1 135 136 [0,1,2,3,4,5,6,7,8,9],uL 138 137 [0,1,2,3,4,5,6,7,8,9],uI 139 1 125 126 [2,3,4],⟨none,.store 1 (.t 139) (.t 134),none,[],3⟩,qI 140 1 127 129,⟨none,.store 1 (.t 140) (.t 138),none,[],3⟩]))) (.ops [qM 110 12,qK 111 .add 110 1,qM 12 111]))
def Zyi:C:=.seq (.seq (.ops [qM 15 10,qK 16 .lss 15 5]) (.cond (.t 16) .skip (.exit 0))) (.seq (.block 1 (.seq (.block 2 (.loop [0,1,2,3,9,10] [0,1,2,3,9,10] ZxG)) (.seq (.seq (.ops [qM 39 9,qM 40 2,qB 41 .eql 39 40]) (.cond (.t 41) (.seq (.ops [oB 8 (.mov bT)]) .ret) .skip)) (.seq (.seq (.ops [qM 42 2,qM 43 1,qB 44 .sub 42 43,qK 45 .lss 44 50]) (.cond (.t 45) (.seq (.ops [oB 8 (.mov bF)]) .ret) .skip)) (.seq (.draw [qM 46 0,uM 47 9 [0],uM 48 0 [0,1],uM 49 9 [0,1,2],oM 50 (.bin .sub (.t 49) (iN 1)) [0,1,2],uM 51 0 [0,1,2,3,4],uM 52 9 [0,1,2,3,4,5],oM 53 (.bin .sub (.t 52) (iN 1)) [0,1,2,3,4,5],uI 54 1 51 53 [0,1,2,3,4],uL 55 54 [0,1,2,3,4],uM 56 0 [0,1,2,3,4,5,6,7,8,9],uM 57 9 [0,1,2,3,4,5,6,7,8,9,10],uI 58 1 56 57 [0,1,2,3,4,5,6,7,8,9],uL 59 58 [0,1,2,3,4,5,6,7,8,9],uI 60 1 46 47 [2,3,4],⟨none,.store 1 (.t 60) (.t 55),none,[],3⟩,qI 61 1 48 50,⟨none,.store 1 (.t 61) (.t 59),none,[],3⟩]) (.seq (.seq (.ops [qM 62 9,qM 63 1,qB 64 .sub 62 63,qK 65 .geq 64 2]) (.cond (.t 65) (.seq (.ops [qM 66 9,qK 67 .sub 66 1,qM 11 67]) (.block 4 (.loop [0,1,2,3,9,10,11] [0,1,2,3,9,10] Zyg))) .skip)) (.seq (.ops [qM 101 2,qM 102 9,qB 103 .sub 101 102,qK 104 .geq 103 2]) (.cond (.t 104) (.seq (.ops [qM 105 9,qK 106 .add 105 1,qM 12 106]) (.block 6 (.loop [0,1,2,3,9,10,12] [0,1,2,3,9,10] ZxI))) .skip)))))))) (.ops [qM 17 10,qK 18 .add 17 1,qM 10 18]))
def ZF1:C:=.seq (.ops [oB 8 (.mov bF)]) (.seq (.ops [qM 13 1,qK 14 .add 13 1,qM 9 14]) (.seq (.seq (.ops [qW 10 0]) (.block 0 (.loop [0,1,2,3,9,10] [8] Zyi))) (.seq (.ops [oB 8 (.mov bF)]) .ret)))
def ZAw:FnI:=⟨4,ZF1,[(8,none)]⟩
def Zxu:C:=.seq (.seq (.draw [qM 31 11,uM 32 12 [0],qB 33 .leq 31 32,qM 34 33,vM 35 4 34 true,wM 36 0 34 true [4],wM 37 1 34 true [4,5],wI 38 1 36 37 34 true [4],wL 39 38 34 true [4],wM 40 0 34 true [4,5,6,7,8],wM 41 11 34 true [4,5,6,7,8,9],wI 42 1 40 41 34 true [4,5,6,7,8],wL 43 42 34 true [4,5,6,7,8],oG 44 (.callv (.t 35) [.t 39,.t 43]) 34 true,vK 45 .lss 44 0 34 true,vU 46 45 34 true,qP 47 34 46]) (.cond (.t 47) .skip (.exit 2))) (.block 3 (.ops [qM 48 11,qK 49 .add 48 1,qM 11 49]))
def Zxr:C:=.seq (.seq (.draw [qM 50 11,uM 51 12 [0],qB 52 .leq 50 51,qM 53 52,vM 54 4 53 true,wM 55 0 53 true [4],wM 56 1 53 true [4,5],wI 57 1 55 56 53 true [4],wL 58 57 53 true [4],wM 59 0 53 true [4,5,6,7,8],wM 60 12 53 true [4,5,6,7,8,9],wI 61 1 59 60 53 true [4,5,6,7,8],wL 62 61 53 true [4,5,6,7,8],oG 63 (.callv (.t 54) [.t 58,.t 62]) 53 true,vK 64 .lss 63 0 53 true,qP 65 53 64]) (.cond (.t 65) .skip (.exit 4))) (.block 5 (.ops [qM 66 12,qK 67 .sub 66 1,qM 12 67]))
def Zyl:C:=.block 1 (.seq (.block 2 (.loop [0,1,4,11,12] [0,1,4,11,12] Zxu)) (.seq (.block 4 (.loop [0,1,4,11,12] [0,1,4,11,12] Zxr)) (.seq (.seq (.ops [qM 68 11,qM 69 12,qB 70 .gtr 68 69]) (.cond (.t 70) (.exit 0) .skip)) (.seq (.draw [qM 71 0,uM 72 11 [0],uM 73 0 [0,1],uM 74 12 [0,1,2],uM 75 0 [0,1,2,3],uM 76 12 [0,1,2,3,4],uI 77 1 75 76 [0,1,2,3],uL 78 77 [0,1,2,3],uM 79 0 [0,1,2,3,4,5,6,7],uM 80 11 [0,1,2,3,4,5,6,7,8],uI 81 1 79 80 [0,1,2,3,4,5,6,7],uL 82 81 [0,1,2,3,4,5,6,7],uI 83 1 71 72 [2,3],⟨none,.store 1 (.t 83) (.t 78),none,[],3⟩,qI 84 1 73 74,⟨none,.store 1 (.t 84) (.t 82),none,[],3⟩]) (.seq (.ops [qM 85 11,qK 86 .add 85 1,qM 11 86]) (.ops [qM 87 12,qK 88 .sub 87 1,qM 12 88]))))))
def ZGA:C:=.seq (.ops [qW 10 0]) (.seq (.draw [qM 13 0,uM 14 1 [0],uM 15 0 [0,1],uM 16 3 [0,1,2],uM 17 0 [0,1,2,3],uM 18 3 [0,1,2,3,4],uI 19 1 17 18 [0,1,2,3],uL 20 19 [0,1,2,3],uM 21 0 [0,1,2,3,4,5,6,7],uM 22 1 [0,1,2,3,4,5,6,7,8],uI 23 1 21 22 [0,1,2,3,4,5,6,7],uL 24 23 [0,1,2,3,4,5,6,7],uI 25 1 13 14 [2,3],⟨none,.store 1 (.t 25) (.t 20),none,[],3⟩,qI 26 1 15 16,⟨none,.store 1 (.t 26) (.t 24),none,[],3⟩]) (.seq (.ops [qM 27 1,qK 28 .add 27 1,qM 29 2,qK 30 .sub 29 1,qM 11 28,qM 12 30]) (.seq (.block 0 (.loop [0,1,4,11,12] [11] Zyl)) (.seq (.ops [qM 89 11,qM 10 89]) .ret))))
def ZAX:FnI:=⟨5,ZGA,[(10,none)]⟩
def ZxZ:C:=.seq (.seq (.draw [qM 32 12,uM 33 13 [0],qB 34 .leq 32 33,qM 35 34,vM 36 4 35 true,wM 37 0 35 true [4],wM 38 12 35 true [4,5],wI 39 1 37 38 35 true [4],wL 40 39 35 true [4],wM 41 0 35 true [4,5,6,7,8],wM 42 1 35 true [4,5,6,7,8,9],wI 43 1 41 42 35 true [4,5,6,7,8],wL 44 43 35 true [4,5,6,7,8],oG 45 (.callv (.t 36) [.t 40,.t 44]) 35 true,vK 46 .lss 45 0 35 true,qP 47 35 46]) (.cond (.t 47) .skip (.exit 0))) (.block 1 (.ops [qM 48 12,qK 49 .add 48 1,qM 12 49]))
def Zxz:C:=.seq (.seq (.draw [qM 50 12,uM 51 13 [0],qB 52 .leq 50 51,qM 53 52,vM 54 4 53 true,wM 55 0 53 true [4],wM 56 13 53 true [4,5],wI 57 1 55 56 53 true [4],wL 58 57 53 true [4],wM 59 0 53 true [4,5,6,7,8],wM 60 1 53 true [4,5,6,7,8,9],wI 61 1 59 60 53 true [4,5,6,7,8],wL 62 61 53 true [4,5,6,7,8],oG 63 (.callv (.t 54) [.t 58,.t 62]) 53 true,vK 64 .lss 63 0 53 true,vU 65 64 53 true,qP 66 53 65]) (.cond (.t 66) .skip (.exit 2))) (.block 3 (.ops [qM 67 13,qK 68 .sub 67 1,qM 13 68]))
def Zxl:C:=.seq (.seq (.draw [qM 105 12,uM 106 13 [0],qB 107 .leq 105 106,qM 108 107,vM 109 4 108 true,wM 110 0 108 true [4],wM 111 12 108 true [4,5],wI 112 1 110 111 108 true [4],wL 113 112 108 true [4],wM 114 0 108 true [4,5,6,7,8],wM 115 1 108 true [4,5,6,7,8,9],wI 116 1 114 115 108 true [4,5,6,7,8],wL 117 116 108 true [4,5,6,7,8],oG 118 (.callv (.t 109) [.t 113,.t 117]) 108 true,vK 119 .lss 118 0 108 true,qP 120 108 119]) (.cond (.t 120) .skip (.exit 6))) (.block 7 (.ops [qM 121 12,qK 122 .add 121 1,qM 12 122]))
def Zxs:C:=.seq (.seq (.draw [qM 123 12,uM 124 13 [0],qB 125 .leq 123 124,qM 126 125,vM 127 4 126 true,wM 128 0 126 true [4],wM 129 13 126 true [4,5],wI 130 1 128 129 126 true [4],wL 131 130 126 true [4],wM 132 0 126 true [4,5,6,7,8],wM 133 1 126 true [4,5,6,7,8,9],wI 134 1 132 133 126 true [4,5,6,7,8],wL 135 134 126 true [4,5,6,7,8],oG 136 (.callv (.t 127) [.t 131,.t 135]) 126 true,vK 137 .lss 136 0 126 true,vU 138 137 126 true,qP 139 126 138]) (.cond (.t 139) .skip (.exit 8))) (.block 9 (.ops [qM 140 13,qK 141 .sub 140 1,qM 13 141]))
def ZxP:C:=.block 5 (.seq (.block 6 (.loop [0,1,4,12,13] [0,1,4,12,13] Zxl)) (.seq (.block 8 (.loop [0,1,4,12,13] [0,1,4,12,13] Zxs)) (.seq (.seq (.ops [qM 142 12,qM 143 13,qB 144 .gtr 142 143]) (.cond (.t 144) (.exit 4) .skip)) (.seq (.draw [qM 145 0,uM 146 12 [0],uM 147 0 [0,1],uM 148 13 [0,1,2],uM 149 0 [0,1,2,3],uM 150 13 [0,1,2,3,4],uI 151 1 149 150 [0,1,2,3],uL 152 151 [0,1,2,3],uM 153 0 [0,1,2,3,4,5,6,7],uM 154 12 [0,1,2,3,4,5,6,7,8],uI 155 1 153 154 [0,1,2,3,4,5,6,7],uL 156 155 [0,1,2,3,4,5,6,7],uI 157 1 145 146 [2,3],⟨none,.store 1 (.t 157) (.t 152),none,[],3⟩,qI 158 1 147 148,⟨none,.store 1 (.t 158) (.t 156),none,[],3⟩]) (.seq (.ops [qM 159 12,qK 160 .add 159 1,qM 12 160]) (.ops [qM 161 13,qK 162 .sub 161 1,qM 13 162]))))))
def ZGD:C:=.seq (.ops [qW 10 0,oB 11 (.mov bF)]) (.seq (.draw [qM 14 0,uM 15 1 [0],uM 16 0 [0,1],uM 17 3 [0,1,2],uM 18 0 [0,1,2,3],uM 19 3 [0,1,2,3,4],uI 20 1 18 19 [0,1,2,3],uL 21 20 [0,1,2,3],uM 22 0 [0,1,2,3,4,5,6,7],uM 23 1 [0,1,2,3,4,5,6,7,8],uI 24 1 22 23 [0,1,2,3,4,5,6,7],uL 25 24 [0,1,2,3,4,5,6,7],uI 26 1 14 15 [2,3],⟨none,.store 1 (.t 26) (.t 21),none,[],3⟩,qI 27 1 16 17,⟨none,.store 1 (.t 27) (.t 25),none,[],3⟩]) (.seq (.ops [qM 28 1,qK 29 .add 28 1,qM 30 2,qK 31 .sub 30 1,qM 12 29,qM 13 31]) (.seq (.block 0 (.loop [0,1,4,12,13] [0,1,4,12,13] ZxZ)) (.seq (.block 2 (.loop [0,1,4,12,13] [0,1,4,12,13] Zxz)) (.seq (.seq (.ops [qM 69 12,qM 70 13,qB 71 .gtr 69 70]) (.cond (.t 71) (.seq (.draw [qM 72 0,uM 73 13 [0],uM 74 0 [0,1],uM 75 1 [0,1,2],uM 76 0 [0,1,2,3],uM 77 1 [0,1,2,3,4],uI 78 1 76 77 [0,1,2,3],uL 79 78 [0,1,2,3],uM 80 0 [0,1,2,3,4,5,6,7],uM 81 13 [0,1,2,3,4,5,6,7,8],uI 82 1 80 81 [0,1,2,3,4,5,6,7],uL 83 82 [0,1,2,3,4,5,6,7],uI 84 1 72 73 [2,3],⟨none,.store 1 (.t 84) (.t 79),none,[],3⟩,qI 85 1 74 75,⟨none,.store 1 (.t 85) (.t 83),none,[],3⟩]) (.seq (.ops [qM 86 13,qM 10 86,oB 11 (.mov bT)]) .ret)) .skip)) (.seq (.draw [qM 87 0,uM 88 12 [0],uM 89 0 [0,1],uM 90 13 [0,1,2],uM 91 0 [0,1,2,3],uM 92 13 [0,1,2,3,4],uI 93 1 91 92 [0,1,2,3],uL 94 93 [0,1,2,3],uM 95 0 [0,1,2,3,4,5,6,7],uM 96 12 [0,1,2,3,4,5,6,7,8],uI 97 1 95 96 [0,1,2,3,4,5,6,7],uL 98 97 [0,1,2,3,4,5,6,7],uI 99 1 87 88 [2,3],⟨none,.store 1 (.t 99) (.t 94),none,[],3⟩,qI 100 1 89 90,⟨none,.store 1 (.t 100) (.t 98),none,[],3⟩]) (.seq (.ops [qM 101 12,qK 102 .add 101 1,qM 12 102]) (.seq (.ops [qM 103 13,qK 104 .sub 103 1,qM 13 104]) (.seq (.block 4 (.loop [0,1,4,12,13] [0,1,13] ZxP)) (.seq (.draw [qM 163 0,uM 164 13 [0],uM 165 0 [0,1],uM 166 1 [0,1,2],uM 167 0 [0,1,2,3],uM 168 1 [0,1,2,3,4],uI 169 1 167 168 [0,1,2,3],uL 170 169 [0,1,2,3],uM 171 0 [0,1,2,3,4,5,6,7],uM 172 13 [0,1,2,3,4,5,6,7,8],uI 173 1 171 172 [0,1,2,3,4,5,6,7],uL 174 173 [0,1,2,3,4,5,6,7],uI 175 1 163 164 [2,3],⟨none,.store 1 (.t 175) (.t 170),none,[],3⟩,qI 176 1 165 166,⟨none,.store 1 (.t 176) (.t 174),none,[],3⟩]) (.seq (.ops [qM 177 13,qM 10 177,oB 11 (.mov bF)]) .ret)))))))))))
def ZA3:FnI:=⟨5,ZGD,[(10,none),(11,none)]⟩
def ZFt:C:=.seq (.ops [qW 2 0]) (.seq (.seq (.ops [qM 3 0,oB 4 (.bin .geq (.t 3) (.c (.d (.int .u32 65536))))]) (.cond (.t 4) (.seq (.ops [qM 5 0,oB 6 (.bin .shr (.t 5) (.c (.d (.int .u64 16)))),qM 0 6]) (.ops [qW 2 16])) .skip)) (.seq (.seq (.ops [qM 7 0,oB 8 (.bin .geq (.t 7) (.c (.d (.int .u32 256))))]) (.cond (.t 8) (.seq (.ops [qM 9 0,oB 10 (.bin .shr (.t 9) (.c (.d (.int .u64 8)))),qM 0 10]) (.ops [qM 11 2,qK 12 .add 11 8,qM 2 12])) .skip)) (.seq (.ops [qM 13 2,qM 14 0,oB 15 (.conv .u8 (.t 14)),oB 16 (.indexS (.c (.d (.str ⟨#[0,1,2,2,3,3,3,3,4,4,4,4,4,4,4,4,5,5,5,5,5,5,5,5,5,5,5,5,5,5,5,5,6,6,6,6,6,6,6,6,6,6,6,6,6,6,6,6,6,6,6,6,6,6,6,6,6,6,6,6,6,6,6,6,7,7,7,7,7,7,7,7,7,7,7,7,7,7,7,7,7,7,7,7,7,7,7,7,7,7,7,7,7,7,7,7,7,7,7,7,7,7,7,7,7,7,7,7,7,7,7,7,7,7,7,7,7,7,7,7,7,7,7,7,7,7,7,7,8,8,8,8,8,8,8,8,8,8,8,8,8,8,8,8,8,8,8,8,8,8,8,8,8,8,8,8,8,8,8,8,8,8,8,8,8,8,8,8,8,8,8,8,8,8,8,8,8,8,8,8,8,8,8,8,8,8,8,8,8,8,8,8,8,8,8,8,8,8,8,8,8,8,8,8,8,8,8,8,8,8,8,8,8,8,8,8,8,8,8,8,8,8,8,8,8,8,8,8,8,8,8,8,8,8,8,8,8,8,8,8,8,8,8,8,8,8,8,8,8,8,8,8,8,8,8,8]⟩))) (.t 15)),oB 17 (.conv .i64 (.t 16)),qB 18 .add 13 17,qM 2 18]) .ret)))
def ZDv:FnI:=⟨1,ZFt,[(2,none)]⟩
def ZGr:C:=.seq (.ops [qW 2 0]) (.seq (.seq (.ops [qM 3 0,oB 4 (.bin .geq (.t 3) (.c (.d (.int .u64 4294967296))))]) (.cond (.t 4) (.seq (.ops [qM 5 0,oB 6 (.bin .shr (.t 5) (.c (.d (.int .u64 32)))),qM 0 6]) (.ops [qW 2 32])) .skip)) (.seq (.seq (.ops [qM 7 0,oB 8 (.bin .geq (.t 7) (.c (.d (.int .u64 65536))))]) (.cond (.t 8) (.seq (.ops [qM 9 0,oB 10 (.bin .shr (.t 9) (.c (.d (.int .u64 16)))),qM 0 10]) (.ops [qM 11 2,qK 12 .add 11 16,qM 2 12])) .skip)) (.seq (.seq (.ops [qM 13 0,oB 14 (.bin .geq (.t 13) (.c (.d (.int .u64 256))))]) (.cond (.t 14) (.seq (.ops [qM 15 0,oB 16 (.bin .shr (.t 15) (.c (.d (.int .u64 8)))),qM 0 16]) (.ops [qM 17 2,qK 18 .add 17 8,qM 2 18])) .skip)) (.seq (.ops [qM 19 2,qM 20 0,oB 21 (.conv .u8 (.t 20)),oB 22 (.indexS (.c (.d (.str ⟨#[0,1,2,2,3,3,3,3,4,4,4,4,4,4,4,4,5,5,5,5,5,5,5,5,5,5,5,5,5,5,5,5,6,6,6,6,6,6,6,6,6,6,6,6,6,6,6,6,6,6,6,6,6,6,6,6,6,6,6,6,6,6,6,6,7,7,7,7,7,7,7,7,7,7,7,7,7,7,7,7,7,7,7,7,7,7,7,7,7,7,7,7,7,7,7,7,7,7,7,7,7,7,7,7,7,7,7,7,7,7,7,7,7,7,7,7,7,7,7,7,7,7,7,7,7,7,7,7,8,8,8,8,8,8,8,8,8,8,8,8,8,8,8,8,8,8,8,8,8,8,8,8,8,8,8,8,8,8,8,8,8,8,8,8,8,8,8,8,8,8,8,8,8,8,8,8,8,8,8,8,8,8,8,8,8,8,8,8,8,8,8,8,8,8,8,8,8,8,8,8,8,8,8,8,8,8,8,8,8,8,8,8,8,8,8,8,8,8,8,8,8,8,8,8,8,8,8,8,8,8,8,8,8,8,8,8,8,8,8,8,8,8,8,8,8,8,8,8,8,8,8,8,8,8,8,8]⟩))) (.t 21)),oB 23 (.conv .i64 (.t 22)),qB 24 .add 19 23,qM 2 24]) .ret))))
def ZBk:FnI:=⟨1,ZGr,[(2,none)]⟩
def ZxH:C:=.block 1 (.seq (.ops [qM 13 10,oB 14 (.bin .mul (iN 2) (.t 13)),qK 15 .add 14 1,qM 11 15]) (.seq (.seq (.ops [qM 16 11,qM 17 2,qB 18 .geq 16 17]) (.cond (.t 18) (.exit 0) .skip)) (.seq (.seq (.draw [qM 19 11,qK 20 .add 19 1,uM 21 2 [0,1],qB 22 .lss 20 21,qM 23 22,vM 24 4 23 true,wM 25 0 23 true [5],wM 26 3 23 true [5,6],wM 27 11 23 true [5,6,7],⟨some 28,.bin .add (.t 26) (.t 27),some (23,true),[5,6],0⟩,wI 29 1 25 28 23 true [5],wL 30 29 23 true [5],wM 31 0 23 true [5,6,7,8,9,10,11],wM 32 3 23 true [5,6,7,8,9,10,11,12],wM 33 11 23 true [5,6,7,8,9,10,11,12,13],⟨some 34,.bin .add (.t 32) (.t 33),some (23,true),[5,6,7,8,9,10,11,12],0⟩,⟨some 35,.bin .add (.t 34) (iN 1),some (23,true),[5,6,7,8,9,10,11,12],0⟩,wI 36 1 31 35 23 true [5,6,7,8,9,10,11],wL 37 36 23 true [5,6,7,8,9,10,11],oG 38 (.callv (.t 24) [.t 30,.t 37]) 23 true,vK 39 .lss 38 0 23 true,qP 40 23 39]) (.cond (.t 40) (.ops [qM 41 11,qK 42 .add 41 1,qM 11 42]) .skip)) (.seq (.seq (.draw [qM 43 4,uM 44 0 [0],uM 45 3 [0,1],uM 46 10 [0,1,2],oM 47 (.bin .add (.t 45) (.t 46)) [0,1],uI 48 1 44 47 [0],uL 49 48 [0],uM 50 0 [0,1,2,3,4,5,6],uM 51 3 [0,1,2,3,4,5,6,7],uM 52 11 [0,1,2,3,4,5,6,7,8],oM 53 (.bin .add (.t 51) (.t 52)) [0,1,2,3,4,5,6,7],uI 54 1 50 53 [0,1,2,3,4,5,6],uL 55 54 [0,1,2,3,4,5,6],oB 56 (.callv (.t 43) [.t 49,.t 55]),qK 57 .lss 56 0,qU 58 57]) (.cond (.t 58) .ret .skip)) (.seq (.draw [qM 59 0,uM 60 3 [0],uM 61 10 [0,1],oM 62 (.bin .add (.t 60) (.t 61)) [0],uM 63 0 [0,1,2,3],uM 64 3 [0,1,2,3,4],uM 65 11 [0,1,2,3,4,5],oM 66 (.bin .add (.t 64) (.t 65)) [0,1,2,3,4],uM 67 0 [0,1,2,3,4,5,6,7],uM 68 3 [0,1,2,3,4,5,6,7,8],uM 69 11 [0,1,2,3,4,5,6,7,8,9],oM 70 (.bin .add (.t 68) (.t 69)) [0,1,2,3,4,5,6,7,8],uI 71 1 67 70 [0,1,2,3,4,5,6,7],uL 72 71 [0,1,2,3,4,5,6,7],uM 73 0 [0,1,2,3,4,5,6,7,8,9,10,11,12,13],uM 74 3 [0,1,2,3,4,5,6,7,8,9,10,11,12,13,14],uM 75 10 [0,1,2,3,4,5,6,7,8,9,10,11,12,13,14,15],oM 76 (.bin .add (.t 74) (.t 75)) [0,1,2,3,4,5,6,7,8,9,10,11,12,13,14],uI 77 1 73 76 [0,1,2,3,4,5,6,7,8,9,10,11,12,13],uL 78 77 [0,1,2,3,4,5,6,7,8,9,10,11,12,13],uI 79 1 59 62 [4,5,6,7],⟨none,.store 1 (.t 79) (.t 72),none,[],3⟩,qI 80 1 63 66,⟨none,.store 1 (.t 80) (.t 78),none,[],3⟩]) (.ops [qM 81 11,qM 10 81]))))))
def ZF8:C:=.seq (.ops [qM 12 1,qM 10 12]) (.block 0 (.loop [0,2,3,4,10] [] ZxH))
def ZAq:FnI:=⟨5,ZF8,[]⟩
def ZGq:C:=.seq (.ops [oB 2 (.mov (.c (.d (.int .u64 0))))]) (.seq (.ops [qM 3 0,oB 4 (.conv .u64 (.t 3)),qC 5 118 4,oB 6 (.bin .shl (.c (.d (.int .u64 1))) (.t 5)),qM 2 6]) .ret)
def ZA6:FnI:=⟨1,ZGq,[(2,none)]⟩
def ZFP:C:=.seq (.ops [oB 2 (.mov (.c (.d (.int .u64 0))))]) (.seq (.draw [qM 3 0,oB 4 (.nilck (.t 3)),qL 5 4,uM 6 0 [0,1,2],oM 7 (.nilck (.t 6)) [0,1,2],uL 8 7 [0,1,2],oM 9 (.bin .shl (.t 8) (.c (.d (.int .u64 13)))) [0,1,2],qB 10 .xor 5 9,oB 11 (.nilck (.t 3)),⟨none,.store 1 (.t 11) (.t 10),none,[],3⟩]) (.seq (.draw [qM 12 0,oB 13 (.nilck (.t 12)),qL 14 13,uM 15 0 [0,1,2],oM 16 (.nilck (.t 15)) [0,1,2],uL 17 16 [0,1,2],oM 18 (.bin .shr (.t 17) (.c (.d (.int .u64 7)))) [0,1,2],qB 19 .xor 14 18,oB 20 (.nilck (.t 12)),⟨none,.store 1 (.t 20) (.t 19),none,[],3⟩]) (.seq (.draw [qM 21 0,oB 22 (.nilck (.t 21)),qL 23 22,uM 24 0 [0,1,2],oM 25 (.nilck (.t 24)) [0,1,2],uL 26 25 [0,1,2],oM 27 (.bin .shl (.t 26) (.c (.d (.int .u64 17)))) [0,1,2],qB 28 .xor 23 27,oB 29 (.nilck (.t 21)),⟨none,.store 1 (.t 29) (.t 28),none,[],3⟩]) (.seq (.ops [qM 30 0,oB 31 (.nilck (.t 30)),qL 32 31,qM 2 32]) .ret))))
def ZAO:FnI:=⟨1,ZFP,[(2,none)]⟩
def ZGF:C:=.seq (.ops [qW 8 0]) (.seq (.ops [qM 9 0,qM 10 1,qK 11 .sub 10 1,qM 12 1,qM 13 1,qK 14 .add 13 1,qM 15 2,qM 16 3,oB 17 (.call 143 [.t 9,.t 11,.t 12,.t 14,.t 15,.t 16]),qM 8 17]) .ret)
def ZAV:FnI:=⟨4,ZGF,[(8,none)]⟩
def ZFX:C:=.seq (.ops [qW 12 0]) (.seq (.ops [qM 14 0,qM 15 1,qM 16 2,qM 17 4,qM 18 5,oB 19 (.call 148 [.t 14,.t 15,.t 16,.t 17,.t 18]),qM 13 19,qE 20 13 0,qE 21 13 1,qM 1 20,qM 2 21]) (.seq (.ops [qM 23 0,qM 24 2,qM 25 3,qM 26 4,qM 27 5,oB 28 (.call 148 [.t 23,.t 24,.t 25,.t 26,.t 27]),qM 22 28,qE 29 22 0,qE 30 22 1,qM 2 29,qM 3 30]) (.seq (.ops [qM 32 0,qM 33 1,qM 34 2,qM 35 4,qM 36 5,oB 37 (.call 148 [.t 32,.t 33,.t 34,.t 35,.t 36]),qM 31 37,qE 38 31 0,qE 39 31 1,qM 1 38,qM 2 39]) (.seq (.ops [qM 40 2,qM 12 40]) .ret))))
def ZBj:FnI:=⟨6,ZFX,[(12,none)]⟩
def ZGM:C:=.seq (.ops [qW 10 0,qW 11 0]) (.seq (.seq (.draw [qM 12 4,uM 13 0 [0],uM 14 2 [0,1],uI 15 1 13 14 [0],uL 16 15 [0],uM 17 0 [0,1,2,3,4],uM 18 1 [0,1,2,3,4,5],uI 19 1 17 18 [0,1,2,3,4],uL 20 19 [0,1,2,3,4],oB 21 (.callv (.t 12) [.t 16,.t 20]),qK 22 .lss 21 0]) (.cond (.t 22) (.seq (.ops [qM 23 3,oB 24 (.nilck (.t 23)),qL 25 24,qK 26 .add 25 1,oB 27 (.nilck (.t 23)),oA (.store 1 (.t 27) (.t 26))]) (.seq (.ops [qM 28 2,qM 29 1,qM 10 28,qM 11 29]) .ret)) .skip)) (.seq (.ops [qM 30 1,qM 31 2,qM 10 30,qM 11 31]) .ret))
def ZBC:FnI:=⟨5,ZGM,[(10,none),(11,none)]⟩
def code:Nat→Option FnI
 | 4=>some fn4
 | 6=>some fn6
 | 7=>some fn7
 | 8=>some fn8
 | 9=>some fn9
 | 11=>some ZE4
 | 12=>some ZEj
 | 13=>some ZGE
 | 14=>some ZFh
 | 15=>some ZEY
 | 16=>some ZFe
 | 17=>some ZG8
 | 18=>some ZG2
 | 19=>some ZDI
 | 20=>some ZEo
 | 21=>some ZEX
 | 22=>some ZEz
 | 23=>some ZFd
 | 25=>some ZGI
 | 26=>some ZDR
 | 27=>some ZDM
 | 28=>some ZF2
 | 29=>some ZF5
 | 30=>some ZDY
 | 31=>some ZEk
 | 32=>some ZEd
 | 33=>some ZE1
 | 34=>some ZEa
 | 35=>some ZEL
 | 36=>some ZE5
 | 37=>some ZGR
 | 38=>some ZFp
 | 39=>some ZDD
 | 40=>some ZDK
 | 41=>some ZEw
 | 42=>some ZFm
 | 43=>some ZED
 | 44=>some ZET
 | 45=>some ZEy
 | 47=>some ZDP
 | 48=>some ZGx
 | 49=>some ZFk
 | 50=>some ZFl
 | 51=>some ZGo
 | 52=>some ZG1
 | 53=>some ZG5
 | 54=>some ZEm
 | 55=>some ZD9
 | 56=>some ZEx
 | 57=>some ZE3
 | 58=>some ZD8
 | 59=>some ZDV
 | 60=>some ZDH
 | 61=>some ZEq
 | 62=>some ZEb
 | 63=>some ZEB
 | 64=>some ZEf
 | 65=>some ZFn
 | 66=>some ZEt
 | 67=>some ZEe
 | 68=>some ZDN
 | 69=>some ZE0
 | 70=>some ZES
 | 71=>some ZEC
 | 72=>some ZDE
 | 73=>some ZDZ
 | 74=>some ZEG
 | 75=>some ZEh
 | 76=>some ZEg
 | 77=>some ZCc
 | 78=>some ZFa
 | 79=>some ZD1
 | 80=>some ZFc
 | 83=>some ZD0
 | 84=>some ZGy
 | 85=>some ZDS
 | 86=>some ZEM
 | 87=>some ZEH
 | 88=>some ZEF
 | 89=>some ZGi
 | 90=>some ZEW
 | 91=>some ZEp
 | 92=>some ZDL
 | 93=>some ZEE
 | 94=>some ZEU
 | 95=>some ZEA
 | 96=>some ZD7
 | 97=>some ZEv
 | 98=>some ZEZ
 | 99=>some ZDO
 | 100=>some ZBx
 | 101=>some ZzV
 | 102=>some ZAd
 | 103=>some ZAo
 | 104=>some ZxC
 | 105=>some ZBf
 | 106=>some ZzX
 | 108=>some Zz4
 | 109=>some ZAm
 | 110=>some Zz2
 | 111=>some Zzm
 | 112=>some ZBN
 | 113=>some ZDC
 | 114=>some ZAe
 | 115=>some ZDB
 | 116=>some ZBS
 | 117=>some Zzi
 | 118=>some ZA2
 | 120=>some ZAK
 | 121=>some ZzH
 | 122=>some Zzr
 | 123=>some ZA8
 | 124=>some ZB5
 | 125=>some ZAw
 | 126=>some ZAX
 | 127=>some ZA3
 | 128=>some ZDv
 | 129=>some ZBk
 | 139=>some ZAq
 | 140=>some ZA6
 | 141=>some ZAO
 | 142=>some ZAV
 | 143=>some ZBj
 | 148=>some ZBC
 | _=>none
def mode:Nat→Nat
 | 9=>1
 | 42=>2
 | 43=>2
 | 44=>2
 | 54=>1
 | 55=>1
 | 105=>2
 | 117=>2
 | 120=>2
 | 121=>2
 | 122=>2
 | 123=>2
 | 124=>2
 | 125=>2
 | 126=>2
 | 127=>2
 | 139=>2
 | 141=>2
 | 142=>2
 | 143=>2
 | 148=>2
 | _=>0
def ctx:Ctx:=⟨code,mode⟩
end Go.Proofs.YtnmbdjkbaihicaaGreatDoor
namespace Go.Proofs.YtnmbdjkbaihicaaGreatDoorE
open Go
set_option linter.unusedVariables false
set_option linter.unusedSimpArgs false
mutual
def Zbi (A1 A0 AL:Nat→Prop) (w:World):D→Value→Prop
 | .bool b,u=>u = .bool b
 | .int k n,u=>u = .int k n
 | .str s,u=>u = .string s
 | .list own xs,u=>∃a len cap,u = .slice a len cap∧len=xs.length∧len≤cap∧(∀x∈xs,x.esc=true) ∧
   (xs≠[]→∃b off sz,a=some ⟨b,off,none⟩∧(match own with | true=>A1 b | false=>A0 b)∧b<w.heap.size∧Zf2 A1 A0 AL w b sz off xs)
 | .agg cs,u=>∃us:List Value,u = .agg us.toArray∧Za6 A1 A0 AL w cs us
 | .tup cs,u=>∃us:List Value,u = .tuple us.toArray∧Za6 A1 A0 AL w cs us
 | .fn f caps,u=>∃us:List Value,u = .func (.func f) #[] us.toArray∧Za6 A1 AL AL w caps us
 | .nilfn,u=>u = .nilFunc
 | .rptr cs,u=>∃b off,u = .pointer (some ⟨b,off,none⟩)∧A0 b∧b<w.heap.size∧ZcV A1 A0 AL w b off cs
 | .nilp,u=>u = .pointer none
 | .iface t v,u=>∃u',u = .iface t u'∧Zbi A1 A0 AL w v u'
 | .nilI,u=>u = .nilIface
def Za6 (A1 A0 AL:Nat→Prop) (w:World):List D→List Value→Prop
 | [],us=>us=[]
 | x :: xs,us=>∃u us',us=u :: us'∧Zbi A1 A0 AL w x u∧Za6 A1 A0 AL w xs us'
def ZcV (A1 A0 AL:Nat→Prop) (w:World) (b off:Nat):List D→Prop
 | []=>True
 | x :: xs=>(∃u,w.cell? ⟨b,off,none⟩=some u∧Zbi A1 A0 AL w x u)∧ZcV A1 A0 AL w b (off+1) xs
def Zf2 (A1 A0 AL:Nat→Prop) (w:World) (b sz off:Nat):List D→Prop
 | []=>True
 | x :: xs=>(∃u,Zbi A1 A0 AL w x u∧u.cells.size=sz∧∀k v,u.cells[k]? = some v→w.cell? ⟨b,off+k,none⟩=some v)∧Zf2 A1 A0 AL w b sz (off+sz) xs
end
section
variable {A1 A1' A0 A0' AL AL':Nat→Prop} {w w':World}
theorem Ztk {b:Nat} (h:w'.heap[b]? = w.heap[b]?) (off:Nat):w'.cell? ⟨b,off,none⟩=w.cell? ⟨b,off,none⟩:=by
 unfold World.cell?;simp only[h]
mutual
theorem Zbi.change (A1 A1' A0 A0':Nat→Prop) (h1:∀b,b<w.heap.size→A1 b→A1' b) (h0:∀b,b<w.heap.size→A0 b→A0' b) (hL:∀b,b<w.heap.size→AL b→AL' b)
  (hw:∀b,b<w.heap.size→AL b→w'.heap[b]? = w.heap[b]?) (hs:w.heap.size≤w'.heap.size) (s0:∀b,A0 b→AL b) (s1:∀b,A1 b→AL b) :
  ∀(x:D) (u:Value),Zbi A1 A0 AL w x u→Zbi A1' A0' AL' w' x u
 | .bool b,u,h=>h
 | .int k n,u,h=>h
 | .str s,u,h=>h
 | .list own xs,u,h=>by
  obtain⟨a,len,cap,e1,e2,e3,e4,e5⟩:=h
  refine⟨a,len,cap,e1,e2,e3,e4,fun hne=>?_⟩
  obtain⟨b,off,sz,f1,f2,f3,f4⟩:=e5 hne
  have hb:AL b:=by
   cases own
   ·exact s0 _ f2
   ·exact s1 _ f2
  refine⟨b,off,sz,f1,?_,by omega,Zf2.change A1 A1' A0 A0' h1 h0 hL hw hs s0 s1 b sz off xs (hw b f3 hb) f4⟩
  cases own
  ·exact h0 _ f3 f2
  ·exact h1 _ f3 f2
 | .agg cs,u,h=>by
  obtain⟨us,e1,e2⟩:=h
  exact⟨us,e1,Za6.change A1 A1' A0 A0' h1 h0 hL hw hs s0 s1 cs us e2⟩
 | .tup cs,u,h=>by
  obtain⟨us,e1,e2⟩:=h
  exact⟨us,e1,Za6.change A1 A1' A0 A0' h1 h0 hL hw hs s0 s1 cs us e2⟩
 | .fn f caps,u,h=>by
  obtain⟨us,e1,e2⟩:=h
  exact⟨us,e1,Za6.change A1 A1' AL AL' h1 hL hL hw hs (fun _ h=>h) s1 caps us e2⟩
 | .nilfn,u,h=>h
 | .rptr cs,u,h=>by
  obtain⟨b,off,e1,e2,e3,e4⟩:=h
  exact⟨b,off,e1,h0 _ e3 e2,by omega,ZcV.change A1 A1' A0 A0' h1 h0 hL hw hs s0 s1 b off cs (hw b e3 (s0 _ e2)) e4⟩
 | .nilp,u,h=>h
 | .iface t v,u,h=>by
  obtain⟨u',e1,e2⟩:=h
  exact⟨u',e1,Zbi.change A1 A1' A0 A0' h1 h0 hL hw hs s0 s1 v u' e2⟩
 | .nilI,u,h=>h
theorem Za6.change (A1 A1' A0 A0':Nat→Prop) (h1:∀b,b<w.heap.size→A1 b→A1' b) (h0:∀b,b<w.heap.size→A0 b→A0' b) (hL:∀b,b<w.heap.size→AL b→AL' b)
  (hw:∀b,b<w.heap.size→AL b→w'.heap[b]? = w.heap[b]?) (hs:w.heap.size≤w'.heap.size) (s0:∀b,A0 b→AL b) (s1:∀b,A1 b→AL b) :
  ∀(xs:List D) (us:List Value),Za6 A1 A0 AL w xs us→Za6 A1' A0' AL' w' xs us
 | [],us,h=>h
 | x :: xs,us,h=>by
  obtain⟨u,us',e1,e2,e3⟩:=h
  exact⟨u,us',e1,Zbi.change A1 A1' A0 A0' h1 h0 hL hw hs s0 s1 x u e2,Za6.change A1 A1' A0 A0' h1 h0 hL hw hs s0 s1 xs us' e3⟩
theorem ZcV.change (A1 A1' A0 A0':Nat→Prop) (h1:∀b,b<w.heap.size→A1 b→A1' b) (h0:∀b,b<w.heap.size→A0 b→A0' b) (hL:∀b,b<w.heap.size→AL b→AL' b)
  (hw:∀b,b<w.heap.size→AL b→w'.heap[b]? = w.heap[b]?) (hs:w.heap.size≤w'.heap.size) (s0:∀b,A0 b→AL b) (s1:∀b,A1 b→AL b) (b off:Nat) :
  ∀(xs:List D),w'.heap[b]? = w.heap[b]? → ZcV A1 A0 AL w b off xs→ZcV A1' A0' AL' w' b off xs
 | [],_,h=>trivial
 | x :: xs,hb,h=>by
  obtain⟨⟨u,e1,e2⟩,e3⟩:=h
  exact⟨⟨u,by rw[Ztk hb];exact e1,Zbi.change A1 A1' A0 A0' h1 h0 hL hw hs s0 s1 x u e2⟩,ZcV.change A1 A1' A0 A0' h1 h0 hL hw hs s0 s1 b (off+1) xs hb e3⟩
theorem Zf2.change (A1 A1' A0 A0':Nat→Prop) (h1:∀b,b<w.heap.size→A1 b→A1' b) (h0:∀b,b<w.heap.size→A0 b→A0' b) (hL:∀b,b<w.heap.size→AL b→AL' b)
  (hw:∀b,b<w.heap.size→AL b→w'.heap[b]? = w.heap[b]?) (hs:w.heap.size≤w'.heap.size) (s0:∀b,A0 b→AL b) (s1:∀b,A1 b→AL b) (b sz off:Nat) :
  ∀(xs:List D),w'.heap[b]? = w.heap[b]? → Zf2 A1 A0 AL w b sz off xs→Zf2 A1' A0' AL' w' b sz off xs
 | [],_,h=>trivial
 | x :: xs,hb,h=>by
  obtain⟨⟨u,e1,e2,e3⟩,e4⟩:=h
  exact⟨⟨u,Zbi.change A1 A1' A0 A0' h1 h0 hL hw hs s0 s1 x u e1,e2,fun k v hk=>by rw[Ztk hb];exact e3 k v hk⟩,
   Zf2.change A1 A1' A0 A0' h1 h0 hL hw hs s0 s1 b sz (off+sz) xs hb e4⟩
end
mutual
theorem Zbi.lift (h1:∀b,A1 b→A1' b):∀(x:D) (u:Value),x.esc=true→Zbi A1 A0 AL w x u→Zbi A1' A0' AL' w x u
 | .bool b,u,_,h=>h
 | .int k n,u,_,h=>h
 | .str s,u,_,h=>h
 | .list own xs,u,he,h=>by
  obtain⟨a,len,cap,e1,e2,e3,e4,e5⟩:=h
  simp only[D.esc] at he
  subst he
  refine⟨a,len,cap,e1,e2,e3,e4,fun hne=>?_⟩
  obtain⟨b,off,sz,f1,f2,f3,f4⟩:=e5 hne
  exact⟨b,off,sz,f1,h1 _ f2,f3,Zf2.lift h1 b sz off xs e4 f4⟩
 | .agg cs,u,he,h=>by
  obtain⟨us,e1,e2⟩:=h
  exact⟨us,e1,Za6.lift h1 cs us he e2⟩
 | .tup cs,u,he,h=>by simp[D.esc] at he
 | .fn f caps,u,he,h=>by
  obtain⟨us,e1,e2⟩:=h
  simp only[D.esc,List.isEmpty_iff] at he
  subst he
  exact⟨us,e1,e2⟩
 | .nilfn,u,_,h=>h
 | .rptr cs,u,he,h=>by simp[D.esc] at he
 | .nilp,u,_,h=>h
 | .iface t v,u,he,h=>by
  obtain⟨u',e1,e2⟩:=h
  exact⟨u',e1,Zbi.lift h1 v u' he e2⟩
 | .nilI,u,_,h=>h
theorem Za6.lift (h1:∀b,A1 b→A1' b):∀(xs:List D) (us:List Value),D.escs xs=true→Za6 A1 A0 AL w xs us→Za6 A1' A0' AL' w xs us
 | [],us,_,h=>h
 | x :: xs,us,he,h=>by
  obtain⟨u,us',e1,e2,e3⟩:=h
  simp only[D.escs,Bool.and_eq_true] at he
  exact⟨u,us',e1,Zbi.lift h1 x u he.1 e2,Za6.lift h1 xs us' he.2.2 e3⟩
theorem Zf2.lift (h1:∀b,A1 b→A1' b) (b sz off:Nat):∀(xs:List D),(∀x∈xs,x.esc=true)→Zf2 A1 A0 AL w b sz off xs→Zf2 A1' A0' AL' w b sz off xs
 | [],_,h=>trivial
 | x :: xs,he,h=>by
  obtain⟨⟨u,e1,e2,e3⟩,e4⟩:=h
  exact⟨⟨u,Zbi.lift h1 x u (he x (by simp)) e1,e2,e3⟩,Zf2.lift h1 b sz (off+sz) xs (fun y hy=>he y (by simp[hy])) e4⟩
end
end
theorem Za6.liftT {A1 A1' A0 A0' AL AL':Nat→Prop}{w:World} (h1:∀b,A1 b→A1' b):∀(xs:List D) (us:List Value),Zw7 xs=true→Za6 A1 A0 AL w xs us→Za6 A1' A0' AL' w xs us
 | [],us,_,h=>h
 | x :: xs,us,he,h=>by
  obtain⟨u,us',e1,e2,e3⟩:=h
  simp only[Zw7,Bool.and_eq_true] at he
  exact⟨u,us',e1,Zbi.lift h1 x u he.1 e2,Za6.liftT h1 xs us' he.2 e3⟩
theorem Z4 {α:Type}:∀(l:List α) (n:Nat),nth l n=l[n]?
 | [],n=>by simp[nth]
 | a :: l,0=>by simp[nth]
 | a :: l,n+1=>by simp[nth,Z4 l n]
theorem Zb2 {α:Type}:∀(l:List α) (n:Nat) (v:α),Zf9 l n v=l.set n v
 | [],n,v=>by simp[Zf9]
 | a :: l,0,v=>by simp[Zf9]
 | a :: l,n+1,v=>by simp[Zf9,Zb2 l n v]
theorem Zrb {α:Type} (l:List α) (i:Int) (x:α) (h:ZA l i=some x):0≤i∧i<l.length∧l[i.toNat]? = some x:=by
 unfold ZA at h
 by_cases h0:0≤i
 ·simp only[h0,decide_true,cond_true,Z4] at h
  have:=(List.getElem?_eq_some_iff.1 h).1
  exact⟨h0,by omega,h⟩
 ·simp[h0] at h
section
variable {A1 A0 AL:Nat→Prop} {w:World}
theorem Zkj {b sz:Nat}:∀(xs:List D) (off j:Nat) (x:D),Zf2 A1 A0 AL w b sz off xs→xs[j]? = some x →
  ∃u,Zbi A1 A0 AL w x u∧u.cells.size=sz∧∀k v,u.cells[k]? = some v→w.cell? ⟨b,off+j*sz+k,none⟩=some v
 | [],off,j,x,_,hj=>by simp at hj
 | y :: xs,off,0,x,h,hj=>by
  simp at hj;subst hj
  obtain⟨⟨u,e1,e2,e3⟩,_⟩:=h
  exact⟨u,e1,e2,by simpa using e3⟩
 | y :: xs,off,j+1,x,h,hj=>by
  obtain⟨u,e1,e2,e3⟩:=Zkj xs (off+sz) j x h.2 (by simpa using hj)
  exact⟨u,e1,e2,fun k v hk=>by rw[← e3 k v hk];congr 2;rw[Nat.succ_mul];omega⟩
theorem ZkH {b sz:Nat}:∀(xs:List D) (off:Nat),(∀(j:Nat) x,xs[j]? = some x→∃u,Zbi A1 A0 AL w x u∧u.cells.size=sz∧∀k v,u.cells[k]? = some v→w.cell? ⟨b,off+j*sz+k,none⟩=some v) →
  Zf2 A1 A0 AL w b sz off xs
 | [],off,_=>trivial
 | y :: xs,off,h=>by
  refine⟨by simpa using h 0 y (by simp),ZkH xs (off+sz) fun j x hj=>?_⟩
  obtain⟨u,e1,e2,e3⟩:=h (j+1) x (by simpa using hj)
  exact⟨u,e1,e2,fun k v hk=>by rw[← e3 k v hk];congr 2;rw[Nat.succ_mul];omega⟩
theorem Zmr {b:Nat}:∀(xs:List D) (off j:Nat) (x:D),ZcV A1 A0 AL w b off xs→xs[j]? = some x→∃u,w.cell? ⟨b,off+j,none⟩=some u∧Zbi A1 A0 AL w x u
 | [],off,j,x,_,hj=>by simp at hj
 | y :: xs,off,0,x,h,hj=>by simp at hj;subst hj;simpa using h.1
 | y :: xs,off,j+1,x,h,hj=>by
  have:=Zmr xs (off+1) j x h.2 (by simpa using hj)
  rwa [show off+1+j=off+(j+1) from by omega] at this
theorem Zih {b:Nat}:∀(xs:List D) (off:Nat),(∀(j:Nat) x,xs[j]? = some x→∃u,w.cell? ⟨b,off+j,none⟩=some u∧Zbi A1 A0 AL w x u)→ZcV A1 A0 AL w b off xs
 | [],off,_=>trivial
 | y :: xs,off,h=>⟨by simpa using h 0 y (by simp),Zih xs (off+1) fun j x hj=>by
   have:=h (j+1) x (by simpa using hj)
   rwa [show off+(j+1)=off+1+j from by omega] at this⟩
theorem Zs0 {b:Nat} (xs:List D) (off n:Nat) (h:ZcV A1 A0 AL w b off xs):ZcV A1 A0 AL w b (off+n) (xs.drop n):=
 Zih _ _ fun j x hj=>by
  have:=Zmr xs off (n+j) x h (by simpa using hj)
  rwa [← Nat.add_assoc] at this
theorem ZhR:∀(xs:List D) (us:List Value) (j:Nat) (x:D),Za6 A1 A0 AL w xs us→xs[j]? = some x→∃u,us[j]? = some u∧Zbi A1 A0 AL w x u
 | [],us,j,x,_,hj=>by simp at hj
 | y :: xs,us,0,x,h,hj=>by
  obtain⟨u,us',rfl,e1,e2⟩:=h
  simp at hj;subst hj
  exact⟨u,by simp,e1⟩
 | y :: xs,us,j+1,x,h,hj=>by
  obtain⟨u,us',rfl,e1,e2⟩:=h
  simpa using ZhR xs us' j x e2 (by simpa using hj)
theorem Zs1:∀(xs:List D) (us:List Value),Za6 A1 A0 AL w xs us→us.length=xs.length
 | [],us,h=>by simp only[Za6] at h;subst h;rfl
 | y :: xs,us,h=>by
  obtain⟨u,us',rfl,e1,e2⟩:=h
  simp[Zs1 xs us' e2]
end
structure RP where
 B1:Nat→Prop
 B0:Nat→Prop
 M:Nat→Option (Option Nat)
 H:Zp
def RP.live (R:RP) (c:Nat):Prop:=∃i,Zai R.H i=true∧R.M i=some (some c)
def RP.AL (R:RP) (c:Nat):Prop:=¬R.live c
def RP.A0 (R:RP) (c:Nat):Prop:=¬R.live c∧¬R.B0 c
def RP.A1 (R:RP) (c:Nat):Prop:=¬R.live c∧¬R.B1 c
abbrev RP.den (R:RP) (w:World) (x:D) (u:Value):Prop:=Zbi R.A1 R.A0 R.AL w x u
def Zuf (w:World) (m:Option Nat) (xs:List D) (sz o len:Nat) (u:Value):Prop:=
 o+len≤xs.length∧∃a cap,u = .slice a len cap∧len≤cap ∧
  ((cap=0∧o=xs.length)∨∃c cs el fr,m=some c∧a=some ⟨c,o*sz,none⟩∧w.heap[c]? = some (.cells cs el fr)∧cs.size=(o+cap)*sz)
mutual
def Zbd (R:RP) (w:World):V→Value→Prop
 | .d x,u=>R.den w x u
 | .bad,_=>True
 | .ptr b o,u=>∃c,R.M b=some (some c)∧u = .pointer (some ⟨c,o,none⟩)
 | .eptr b sz i k,u=>∃c,R.M b=some (some c)∧u = .pointer (some ⟨c,i*sz+k,none⟩)
 | .sl b sz,u=>(∃a n c,u = .slice a n c)∧∃m,R.M b=some m∧∀xs,nth R.H b=some (.arr sz xs)→Zuf w m xs sz 0 xs.length u
 | .slp b sz o len,u=>(∃a n c,u = .slice a n c)∧∃m,R.M b=some m∧∀xs,nth R.H b=some (.arr sz xs)→Zuf w m xs sz o len u
 | .nilsl _,u=>∃a,u = .slice a 0 0
 | .agg cs,u=>∃us:List Value,u = .agg us.toArray∧ZaQ R w cs us
 | .tup cs,u=>∃us:List Value,u = .tuple us.toArray∧ZaQ R w cs us
 | .fn f caps,u=>∃us:List Value,u = .func (.func f) #[] us.toArray∧ZaQ R w caps us
 | .mp b,u=>(∃a,u = .map a)∧∃m,R.M b=some m∧∀es,nth R.H b=some (.mp es)→∃c,m=some c∧u = .map (some c)
def ZaQ (R:RP) (w:World):List V→List Value→Prop
 | [],us=>us=[]
 | x :: xs,us=>∃u us',us=u :: us'∧Zbd R w x u∧ZaQ R w xs us'
end
end Go.Proofs.YtnmbdjkbaihicaaGreatDoorE
namespace Go.Proofs.YtnmbdjkbaihicaaGreatDoorE
open Go
set_option linter.unusedVariables false
set_option linter.unusedSimpArgs false
def Zvf (fr:Nat×Nat):Prop:=fr.2≤fr.1
theorem Zvf.not {w:World}{c:Nat}{cs:Array Value}{el:TypeId}{fr:Nat×Nat} (h:Zvf fr) (hc:w.heap[c]? = some (.cells cs el fr)) (o:Nat):w.frozen? ⟨c,o,none⟩=false:=by
 unfold Zvf at h
 simp only[World.frozen?,hc]
 by_cases h1:fr.1≤o
 ·by_cases h2:o<fr.2
  ·omega
  ·simp[h2]
 ·simp[h1]
def ZfT:D→Value
 | .bool b=>.bool b
 | .int k n=>.int k n
 | _=>undef
def Zkc:D→Value
 | .agg cs=>.agg (cs.map ZfT).toArray
 | x=>ZfT x
def Zom:D→Bool
 | .agg cs=>cs.all Ziv
 | x=>Ziv x
structure ZIE (w:World) (c:Nat) (es:List (D×D)):Prop where
 mk ::
 ex:∃mes clock,w.heap[c]? = some (.map mes clock)∧mes.toList.map (fun e=>(e.key,e.val))=es.map (fun q=>(Zkc q.1,ZfT q.2))
 fl:∀q∈es,Zom q.1=true∧Ziv q.2=true
def Zig (R:RP) (w:World) (m:Option Nat):Blk→Prop
 | .dead=>True
 | .cells vs=>∃c cs el fr,m=some c∧w.heap[c]? = some (.cells cs el fr)∧Zvf fr∧vs.length≤cs.size∧∀(k:Nat) v,vs[k]? = some v→∃u,cs[k]? = some u∧Zbd R w v u
 | .arr sz xs=>0<sz∧(∀x∈xs,x.esc=true)∧((m=none∧xs=[])∨∃c cs el,m=some c∧w.heap[c]? = some (.cells cs el (0,0))∧xs.length*sz≤cs.size ∧
   ∀(j:Nat) x,xs[j]? = some x→∃u,R.den w x u∧u.cells.size=sz∧∀(k:Nat) v,u.cells[k]? = some v→cs[j*sz+k]? = some v)
 | .mp es=>∃c,m=some c∧ZIE w c es
structure RP.OK (R:RP) (w:World):Prop where
 b01:∀c,R.B0 c→R.B1 c
 al:∀(i:Nat) blk,R.H[i]? = some blk→blk ≠ .dead→∃m,R.M i=some m
 inj:∀i j c,Zai R.H i=true→Zai R.H j=true→R.M i=some (some c)→R.M j=some (some c)→i=j
 lt:∀i c,R.M i=some (some c)→c<w.heap.size
 blk:∀(i:Nat) m blk,R.H[i]? = some blk→R.M i=some m→Zig R w m blk
 nb:∀i c,Zai R.H i=true→R.M i=some (some c)→¬R.B1 c
 bl:∀c,R.B1 c→c<w.heap.size
theorem Zz {H:Zp}{i:Nat}:Zai H i=true↔∃blk,H[i]? = some blk∧blk ≠ .dead:=by
 unfold Zai
 rw[Z4]
 cases h:H[i]? with
 | none=>simp
 | some blk=>cases blk<;>simp
def Blk.like:Blk→Blk→Prop
 | .cells _,.cells _=>True
 | .arr sz xs,.arr sz' ys=>sz=sz'∧ys.length=xs.length
 | .mp _,.mp _=>True
 | _,_=>False
structure Ext (R:RP) (w:World) (R':RP) (w':World):Prop where
 m:∀i x,R.M i=some x→R'.M i=some x
 h:∀(i:Nat) x blk,R.M i=some x→R'.H[i]? = some blk→blk ≠ .dead→∃old,R.H[i]? = some old∧old.like blk
 b1:R'.B1=R.B1
 b0:R'.B0=R.B0
 same:∀(b:Nat),b<w.heap.size→¬R.live b→w'.heap[b]? = w.heap[b]?
 row:∀(b:Nat) cs el fr,w.heap[b]? = some (Obj.cells cs el fr)→∃cs' el' fr',w'.heap[b]? = some (Obj.cells cs' el' fr')∧cs'.size=cs.size
 grow:w.heap.size≤w'.heap.size
 liv:∀c,c<w.heap.size→R'.live c→R.live c
 os:w'.os=w.os
 tape:w'.tape=w.tape
 output:w'.output=w.output
theorem Blk.like_refl {b:Blk} (h:b ≠ .dead):b.like b:=by cases b<;>simp_all [Blk.like]
theorem Ext.refl (R:RP) (w:World):Ext R w R w:=
 ⟨fun _ _ h=>h,fun i x blk _ h hd=>⟨blk,h,Blk.like_refl hd⟩,rfl,rfl,fun _ _ _=>rfl,fun _ cs el fr h=>⟨cs,el,fr,h,rfl⟩,Nat.le_refl _,fun _ _ h=>h,rfl,rfl,rfl⟩
theorem Blk.like_trans {a b c:Blk} (h:a.like b) (k:b.like c):a.like c:=by
 cases a<;>cases b<;>cases c<;>simp_all [Blk.like]
theorem Blk.like_ne {a b:Blk} (h:a.like b):a ≠ .dead:=by cases a<;>cases b<;>simp_all [Blk.like]
theorem Ext.trans {R R1 R2:RP}{w w1 w2:World} (h:Ext R w R1 w1) (k:Ext R1 w1 R2 w2):Ext R w R2 w2 where
 m:=fun i x hx=>k.m i x (h.m i x hx)
 h:=fun i x blk hx hb hd=>by
  obtain⟨o1,e1,e2⟩:=k.h i x blk (h.m i x hx) hb hd
  obtain⟨o,f1,f2⟩:=h.h i x o1 hx e1 (Blk.like_ne e2)
  exact⟨o,f1,Blk.like_trans f2 e2⟩
 b1:=k.b1.trans h.b1
 b0:=k.b0.trans h.b0
 same:=fun b hb hl=>(k.same b (Nat.lt_of_lt_of_le hb h.grow) (fun hl'=>hl (h.liv b hb hl'))).trans (h.same b hb hl)
 row:=fun b cs el fr hb=>by
  obtain⟨cs1,el1,fr1,e1,e2⟩:=h.row b cs el fr hb
  obtain⟨cs2,el2,fr2,f1,f2⟩:=k.row b cs1 el1 fr1 e1
  exact⟨cs2,el2,fr2,f1,f2.trans e2⟩
 grow:=Nat.le_trans h.grow k.grow
 liv:=fun c hc hl=>h.liv c hc (k.liv c (Nat.lt_of_lt_of_le hc h.grow) hl)
 os:=k.os.trans h.os
 tape:=k.tape.trans h.tape
 output:=k.output.trans h.output
section
variable {R R':RP} {w w':World}
theorem Ext.den (e:Ext R w R' w') (hb:∀c,R.B0 c→R.B1 c) {x:D}{u:Value} (h:R.den w x u):R'.den w' x u:=by
 refine Zbi.change _ _ _ _ ?_ ?_ ?_ ?_ e.grow ?_ ?_ x u h
 ·exact fun b hb' ⟨h1,h2⟩=>⟨fun hl=>h1 (e.liv b hb' hl),by rw[e.b1];exact h2⟩
 ·exact fun b hb' ⟨h1,h2⟩=>⟨fun hl=>h1 (e.liv b hb' hl),by rw[e.b0];exact h2⟩
 ·exact fun b hb' h1 hl=>h1 (e.liv b hb' hl)
 ·exact fun b hb' hl=>e.same b hb' hl
 ·exact fun b h=>h.1
 ·exact fun b h=>h.1
theorem Ext.slAt (e:Ext R w R' w') {m:Option Nat}{xs ys:List D}{sz o len:Nat}{u:Value} (hl:ys.length=xs.length) (h:Zuf w m xs sz o len u):Zuf w' m ys sz o len u:=by
 obtain⟨h1,a,cap,h2,h3,h4⟩:=h
 refine⟨by omega,a,cap,h2,h3,?_⟩
 rcases h4 with⟨h4,h5⟩ | ⟨c,cs,el,fr,h4,h5,h6,h7⟩
 ·exact .inl ⟨h4,by omega⟩
 ·obtain⟨cs',el',fr',f1,f2⟩:=e.row c cs el fr h6
  exact .inr ⟨c,cs',el',fr',h4,h5,f1,by omega⟩
mutual
theorem Ext.denV (e:Ext R w R' w') (hb:∀c,R.B0 c→R.B1 c):∀(v:V) (u:Value),Zbd R w v u→Zbd R' w' v u
 | .d x,u,h=>e.den hb h
 | .bad,_,h=>h
 | .ptr b o,u,h=>by
  obtain⟨c,h1,h2⟩:=h
  exact⟨c,e.m b _ h1,h2⟩
 | .eptr b sz i k,u,h=>by
  obtain⟨c,h1,h2⟩:=h
  exact⟨c,e.m b _ h1,h2⟩
 | .sl b sz,u,h=>by
  obtain⟨h0,m,h1,h2⟩:=h
  refine⟨h0,m,e.m b m h1,fun xs hc=>?_⟩
  rw[Z4] at hc
  obtain⟨old,f1,f2⟩:=e.h b m _ h1 hc (by simp)
  cases old<;>simp[Blk.like] at f2
  rename_i sz0 xs0
  obtain⟨rfl,f2⟩:=f2
  have:=e.slAt f2 (h2 xs0 (by rw[Z4];exact f1))
  rw[f2]
  exact this
 | .slp b sz o len,u,h=>by
  obtain⟨h0,m,h1,h2⟩:=h
  refine⟨h0,m,e.m b m h1,fun xs hc=>?_⟩
  rw[Z4] at hc
  obtain⟨old,f1,f2⟩:=e.h b m _ h1 hc (by simp)
  cases old<;>simp[Blk.like] at f2
  rename_i sz0 xs0
  obtain⟨rfl,f2⟩:=f2
  exact e.slAt f2 (h2 xs0 (by rw[Z4];exact f1))
 | .nilsl sz,u,h=>h
 | .agg cs,u,h=>by
  obtain⟨us,h1,h2⟩:=h
  exact⟨us,h1,Ext.denVs e hb cs us h2⟩
 | .tup cs,u,h=>by
  obtain⟨us,h1,h2⟩:=h
  exact⟨us,h1,Ext.denVs e hb cs us h2⟩
 | .fn f caps,u,h=>by
  obtain⟨us,h1,h2⟩:=h
  exact⟨us,h1,Ext.denVs e hb caps us h2⟩
 | .mp b,u,h=>by
  obtain⟨h0,m,h1,h2⟩:=h
  refine⟨h0,m,e.m b m h1,fun es hc=>?_⟩
  rw[Z4] at hc
  obtain⟨old,f1,f2⟩:=e.h b m _ h1 hc (by simp)
  cases old<;>simp[Blk.like] at f2
  rename_i es0
  exact h2 es0 (by rw[Z4];exact f1)
theorem Ext.denVs (e:Ext R w R' w') (hb:∀c,R.B0 c→R.B1 c):∀(vs:List V) (us:List Value),ZaQ R w vs us→ZaQ R' w' vs us
 | [],us,h=>h
 | v :: vs,us,h=>by
  obtain⟨u,us',h1,h2,h3⟩:=h
  exact⟨u,us',h1,Ext.denV e hb v u h2,Ext.denVs e hb vs us' h3⟩
end
theorem Ext.blkOK (e:Ext R w R' w') (hb:∀c,R.B0 c→R.B1 c) {m:Option Nat}{blk:Blk} (hs:∀(c:Nat),m=some c→w'.heap[c]? = w.heap[c]?) (h:Zig R w m blk):Zig R' w' m blk:=by
 cases blk with
 | dead=>trivial
 | cells vs=>
  obtain⟨c,cs,el,fr,h1,h2,h3,h4,h5⟩:=h
  refine⟨c,cs,el,fr,h1,by rw[hs c h1];exact h2,h3,h4,fun k v hk=>?_⟩
  obtain⟨u,f1,f2⟩:=h5 k v hk
  exact⟨u,f1,e.denV hb v u f2⟩
 | arr sz xs=>
  obtain⟨h0,h1,h2⟩:=h
  refine⟨h0,h1,?_⟩
  rcases h2 with h2 | ⟨c,cs,el,h3,h4,h5,h6⟩
  ·exact .inl h2
  ·refine .inr ⟨c,cs,el,h3,by rw[hs c h3];exact h4,h5,fun j x hj=>?_⟩
   obtain⟨u,f1,f2,f3⟩:=h6 j x hj
   exact⟨u,e.den hb f1,f2,f3⟩
 | mp es=>
  obtain⟨c,h1,⟨mes,clock,h2,h3⟩,h4⟩:=h
  exact⟨c,h1,⟨mes,clock,by rw[hs c h1];exact h2,h3⟩,h4⟩
end
theorem Ext.draw {R:RP}{w w':World} (hh:w'.heap=w.heap) (ho:w'.os=w.os) (ht:w'.tape=w.tape) (hp:w'.output=w.output):Ext R w R w':=
 ⟨fun _ _ h=>h,fun i x blk _ h hd=>⟨blk,h,Blk.like_refl hd⟩,rfl,rfl,fun _ _ _=>by rw[hh],fun _ cs el fr h=>⟨cs,el,fr,by rw[hh];exact h,rfl⟩,by rw[hh];exact Nat.le_refl _,fun _ _ h=>h,ho,ht,hp⟩
theorem RP.OK.draw {R:RP}{w w':World} (h:R.OK w) (hh:w'.heap=w.heap) (ho:w'.os=w.os) (ht:w'.tape=w.tape) (hp:w'.output=w.output):R.OK w':=
 ⟨h.b01,h.al,h.inj,fun i c hc=>by rw[hh];exact h.lt i c hc,fun i m blk h1 h2=>(Ext.draw (R:=R) hh ho ht hp).blkOK h.b01 (fun c _=>by rw[hh]) (h.blk i m blk h1 h2),h.nb,fun c hc=>by rw[hh];exact h.bl c hc⟩
theorem Ext.new {R:RP}{w:World}{H':Zp}{n:Nat}{blk:Blk}{m:Option Nat} (o:Obj) (hn:R.M n=none) (hH:∀(i:Nat),i≠n→H'[i]? = R.H[i]?) (hb:H'[n]? = some blk)
  (hm:m=none∨m=some w.heap.size) (lt:∀i c,R.M i=some (some c)→c<w.heap.size) (al:∀(i:Nat) blk,R.H[i]? = some blk→blk ≠ .dead→∃m,R.M i=some m) :
  Ext R w { R with M:=fun i=>if i=n then some m else R.M i,H:=H' } (w.alloc o) where
 m:=fun i x hx=>by
  have:i≠n:=fun e=>by rw[e,hn] at hx;cases hx
  simp[this,hx]
 h:=fun i x blk' hx hb' hd=>by
  have:i≠n:=fun e=>by rw[e,hn] at hx;cases hx
  simp only[hH i this] at hb'
  exact⟨blk',hb',Blk.like_refl hd⟩
 b1:=rfl
 b0:=rfl
 same:=fun b hb' _=>Go.RowKit.Below.heap_alloc _ _ _ hb'
 row:=fun b cs el fr hb'=>by
  have hlt:b<w.heap.size:=by
   rcases Nat.lt_or_ge b w.heap.size with h | h
   ·exact h
   ·rw[Array.getElem?_eq_none h] at hb';cases hb'
  exact⟨cs,el,fr,by rw[Go.RowKit.Below.heap_alloc _ _ _ hlt];exact hb',rfl⟩
 grow:=by simp
 liv:=fun c hc ⟨i,h1,h2⟩=>by
  by_cases e:i=n
  ·subst e
   simp only[if_true] at h2
   rcases hm with h | h
   ·rw[h] at h2;cases h2
   ·rw[h] at h2;cases h2;omega
  ·simp only[e,if_false] at h2
   refine⟨i,?_,h2⟩
   rw[Zz] at h1 ⊢
   obtain⟨b',f1,f2⟩:=h1
   exact⟨b',by rw[← hH i e];exact f1,f2⟩
 os:=rfl
 tape:=rfl
 output:=rfl
theorem RP.OK.new {R:RP}{w:World}{H':Zp}{n:Nat}{blk:Blk}{m:Option Nat}{o:Obj} (h:R.OK w) (hn:R.M n=none) (hH:∀(i:Nat),i≠n→H'[i]? = R.H[i]?) (hb:H'[n]? = some blk)
  (hm:m=none∨m=some w.heap.size)
  (hk:Ext R w { R with M:=fun i=>if i=n then some m else R.M i,H:=H' } (w.alloc o)→Zig { R with M:=fun i=>if i=n then some m else R.M i,H:=H' } (w.alloc o) m blk) :
  RP.OK { R with M:=fun i=>if i=n then some m else R.M i,H:=H' } (w.alloc o):=by
 have e:=Ext.new (R:=R) (w:=w) (H':=H') (n:=n) (blk:=blk) (m:=m) o hn hH hb hm h.lt h.al
 refine⟨h.b01,?_,?_,?_,?_,?_,fun c hc=>by have:=h.bl c hc;simp;omega⟩
 ·intro i blk' hi hd
  by_cases ei:i=n
  ·exact⟨m,by simp[ei]⟩
  ·simp only[hH i ei] at hi
   obtain⟨x,hx⟩:=h.al i blk' hi hd
   exact⟨x,by simp[ei,hx]⟩
 ·intro i j c hi hj h1 h2
  simp only at h1 h2
  by_cases ei:i=n<;>by_cases ej:j=n
  ·rw[ei,ej]
  ·rw[if_pos ei] at h1;rw[if_neg ej] at h2
   have:=h.lt j c h2
   rcases hm with h' | h'<;>rw[h'] at h1<;>cases h1
   omega
  ·rw[if_neg ei] at h1;rw[if_pos ej] at h2
   have:=h.lt i c h1
   rcases hm with h' | h'<;>rw[h'] at h2<;>cases h2
   omega
  ·rw[if_neg ei] at h1;rw[if_neg ej] at h2
   have l1:Zai R.H i=true:=by rw[Zz] at hi ⊢;obtain⟨b',f1,f2⟩:=hi;exact⟨b',by rw[← hH i ei];exact f1,f2⟩
   have l2:Zai R.H j=true:=by rw[Zz] at hj ⊢;obtain⟨b',f1,f2⟩:=hj;exact⟨b',by rw[← hH j ej];exact f1,f2⟩
   exact h.inj i j c l1 l2 h1 h2
 ·intro i c hc
  simp only at hc
  by_cases ei:i=n
  ·rw[if_pos ei] at hc
   rcases hm with h' | h'<;>rw[h'] at hc<;>cases hc
   simp
  ·rw[if_neg ei] at hc
   have:=h.lt i c hc
   simp;omega
 ·intro i x blk' hi hx
  simp only at hi hx
  by_cases ei:i=n
  ·subst ei
   rw[if_pos rfl] at hx
   cases hx
   rw[hb] at hi
   cases hi
   exact hk e
  ·rw[if_neg ei] at hx
   rw[hH i ei] at hi
   refine e.blkOK h.b01 (fun c hc=>?_) (h.blk i x blk' hi hx)
   exact Go.RowKit.Below.heap_alloc _ _ _ (h.lt i c (by rw[hx,hc]))
 ·intro i c hl hc hb1
  simp only at hc hb1
  by_cases ei:i=n
  ·rw[if_pos ei] at hc
   rcases hm with h' | h'<;>rw[h'] at hc<;>cases hc
   exact absurd (h.bl _ hb1) (by omega)
  ·rw[if_neg ei] at hc
   refine h.nb i c ?_ hc hb1
   rw[Zz] at hl ⊢;obtain⟨b',f1,f2⟩:=hl;exact⟨b',by rw[← hH i ei];exact f1,f2⟩
theorem Ext.kill {R:RP}{w:World}{H':Zp} (hH:∀(i:Nat) blk,H'[i]? = some blk→blk ≠ .dead→R.H[i]? = some blk):Ext R w { R with H:=H' } w:=
 ⟨fun _ _ h=>h,fun i x blk _ h hd=>⟨blk,hH i blk h hd,Blk.like_refl hd⟩,rfl,rfl,fun _ _ _=>rfl,fun _ cs el fr h=>⟨cs,el,fr,h,rfl⟩,Nat.le_refl _,
  fun c _ ⟨i,h1,h2⟩=>by
   rw[Zz] at h1
   obtain⟨blk,f1,f2⟩:=h1
   exact⟨i,Zz.2 ⟨blk,hH i blk f1 f2,f2⟩,h2⟩,rfl,rfl,rfl⟩
theorem RP.OK.kill {R:RP}{w:World}{H':Zp} (h:R.OK w) (hH:∀(i:Nat) blk,H'[i]? = some blk→blk ≠ .dead→R.H[i]? = some blk):RP.OK { R with H:=H' } w:=by
 have e:=Ext.kill (R:=R) (w:=w) hH
 have lv:∀i,Zai H' i=true→Zai R.H i=true:=fun i hi=>by
  rw[Zz] at hi ⊢
  obtain⟨blk,f1,f2⟩:=hi
  exact⟨blk,hH i blk f1 f2,f2⟩
 refine⟨h.b01,fun i blk hi hd=>h.al i blk (hH i blk hi hd) hd,fun i j c hi hj=>h.inj i j c (lv i hi) (lv j hj),h.lt,fun i m blk hi hm=>?_,fun i c hl=>h.nb i c (lv i hl),h.bl⟩
 by_cases hd:blk = .dead
 ·subst hd;trivial
 ·exact e.blkOK h.b01 (fun _ _=>rfl) (h.blk i m blk (hH i blk hi hd) hm)
end Go.Proofs.YtnmbdjkbaihicaaGreatDoorE
namespace Go.Proofs.YtnmbdjkbaihicaaGreatDoorE
open Go
set_option linter.unusedVariables false
set_option linter.unusedSimpArgs false
def ZdH (P:Program) (o:Oper) (a:Act) (w:World) (Z7:Value→World→Prop):Prop:=
 (∃u w',(execOp a.eval o).run P w = .ok (.value u) w'∧Z7 u w')∨(∃w',(execOp a.eval o).run P w = .ok .skip w'∧Z7 undef w') ∨
 (∃f args w',(execOp a.eval o).run P w = .ok (.enter f args) w'∧Calls P f args w' fun e w''=>∃u,e = .returned u∧Z7 u w'')
theorem ZdH.wp {P:Program}{o:Oper}{a:Act}{w:World}{Z7:Value→World→Prop}{K:Act→World→Prop}{Q:Exit→Act→World→Prop}
  (h:ZdH P o a w Z7) (hK:∀u w',Z7 u w'→K (a.put o.dst u) w'):o.wp P a w K Q:=by
 unfold Oper.wp
 rcases h with⟨u,w',h1,h2⟩ | ⟨w',h1,h2⟩ | ⟨f,args,w',h1,h2⟩
 ·rw[h1];exact hK _ _ h2
 ·rw[h1];exact hK _ _ h2
 ·rw[h1]
  exact h2.mono fun e w'' ⟨u,he,hp⟩=>by subst he;exact hK _ _ hp
theorem ZdH.val {P:Program}{o:Oper}{a:Act}{w w':World}{Z7:Value→World→Prop}{u:Value} (h:(execOp a.eval o).run P w = .ok (.value u) w') (hp:Z7 u w'):ZdH P o a w Z7:=
 .inl ⟨u,w',h,hp⟩
mutual
def cv:V→Value→Bool
 | .d (.bool a),.bool b=>a==b
 | .d (.int k n),.int k' m=>k==k'&&n==m
 | .d (.str s),.string t=>decide (s=t)
 | .d .nilfn,.nilFunc=>true
 | .d .nilp,.pointer none=>true
 | .d .nilI,.nilIface=>true
 | .d (.fn f []),.func (.func g) a b=>f==g&&a.isEmpty&&b.isEmpty
 | .d (.agg ds),.agg us=>cds ds us.toList
 | .d (.list _ []),.slice _ n _=>n==0
 | .nilsl _,.slice _ n c=>n==0&&c==0
 | .agg vs,.agg us=>cvs vs us.toList
 | .bad,_=>true
 | _,_=>false
def cvs:List V→List Value→Bool
 | [],[]=>true
 | v :: vs,u :: us=>cv v u&&cvs vs us
 | _,_=>false
def cds:List D→List Value→Bool
 | [],[]=>true
 | .bool a :: ds,.bool b :: us=>a==b&&cds ds us
 | .int k n :: ds,.int k' m :: us=>k==k'&&n==m&&cds ds us
 | .str s :: ds,.string t :: us=>decide (s=t)&&cds ds us
 | .nilfn :: ds,.nilFunc :: us=>cds ds us
 | .nilp :: ds,.pointer none :: us=>cds ds us
 | .nilI :: ds,.nilIface :: us=>cds ds us
 | .list _ [] :: ds,.slice _ n _ :: us=>n==0&&cds ds us
 | _,_=>false
end
theorem ZDX {A1 A0 AL:Nat→Prop}{w:World}:∀(ds:List D) (us:List Value),cds ds us=true→Za6 A1 A0 AL w ds us:=by
 intro ds
 induction ds with
 | nil=>intro us h;cases us<;>simp_all [cds,Za6]
 | cons x ds ih=>
  intro us h
  cases us with
  | nil=>cases x<;>simp_all [cds]
  | cons u us=>
   refine⟨u,us,rfl,?_⟩
   cases x with
   | bool a=>cases u<;>simp_all [cds,Zbi]
   | int k n=>cases u<;>simp_all [cds,Zbi]
   | str s=>
    cases u<;>simp only[cds,Bool.and_eq_true,decide_eq_true_eq,Bool.false_eq_true] at h
    exact⟨by rw[h.1];rfl,ih us h.2⟩
   | nilfn=>cases u<;>simp_all [cds,Zbi]
   | nilI=>cases u<;>simp_all [cds,Zbi]
   | nilp=>
    cases u with
    | pointer a=>cases a<;>simp_all [cds,Zbi]
    | _=>simp_all [cds]
   | list own xs=>
    cases xs with
    | nil=>
     cases u with
     | slice a n c=>
      simp only[cds,Bool.and_eq_true,beq_iff_eq] at h
      obtain⟨rfl,h⟩:=h
      exact⟨⟨a,0,c,rfl,rfl,Nat.zero_le _,by simp,by simp⟩,ih us h⟩
     | _=>simp_all [cds]
    | cons y ys=>cases u<;>simp_all [cds]
   | agg cs=>cases u<;>simp_all [cds]
   | tup cs=>cases u<;>simp_all [cds]
   | fn f cs=>cases u<;>simp_all [cds]
   | rptr cs=>cases u<;>simp_all [cds]
   | iface t v=>cases u<;>simp_all [cds]
mutual
theorem ZtB {R:RP}{w:World}:∀(v:V) (u:Value),cv v u=true→Zbd R w v u
 | .bad,_,_=>trivial
 | .nilsl sz,u,h=>by
  cases u<;>simp_all [cv,Zbd]
 | .agg vs,u,h=>by
  cases u<;>simp only[cv] at h<;>try (cases h;done)
  rename_i us
  exact⟨us.toList,rfl,Zww vs us.toList h⟩
 | .d x,u,h=>by
  cases x with
  | bool a=>cases u<;>simp_all [cv,Zbd,RP.den,Zbi]
  | int k n=>cases u<;>simp_all [cv,Zbd,RP.den,Zbi]
  | str s=>
   cases u<;>simp only[cv,decide_eq_true_eq,Bool.false_eq_true] at h
   rw[h];rfl
  | nilfn=>cases u<;>simp_all [cv,Zbd,RP.den,Zbi]
  | nilI=>cases u<;>simp_all [cv,Zbd,RP.den,Zbi]
  | nilp=>
   cases u with
   | pointer a=>cases a<;>simp_all [cv,Zbd,RP.den,Zbi]
   | _=>simp_all [cv]
  | fn f cs=>
   cases cs with
   | cons=>cases u<;>simp_all [cv]
   | nil=>
    cases u with
    | func fn a b=>
     cases fn<;>simp only[cv,Bool.and_eq_true,beq_iff_eq,Array.isEmpty_iff,Bool.false_eq_true] at h
     obtain⟨⟨rfl,rfl⟩,rfl⟩:=h
     exact⟨[],rfl,rfl⟩
    | _=>simp_all [cv]
  | agg ds=>
   cases u<;>simp only[cv] at h<;>try (cases h;done)
   rename_i us
   exact⟨us.toList,rfl,ZDX ds us.toList h⟩
  | list own xs=>
   cases xs with
   | cons=>cases u<;>simp_all [cv]
   | nil=>
    cases u<;>simp only[cv,beq_iff_eq] at h<;>try (cases h;done)
    subst h
    exact⟨_,0,_,rfl,rfl,Nat.zero_le _,by simp,by simp⟩
  | tup cs=>cases u<;>simp_all [cv]
  | rptr cs=>cases u<;>simp_all [cv]
  | iface t v=>cases u<;>simp_all [cv]
 | .ptr b o,u,h=>by cases u<;>simp_all [cv]
 | .eptr b sz i k,u,h=>by cases u<;>simp_all [cv]
 | .sl b sz,u,h=>by cases u<;>simp_all [cv]
 | .slp b sz o l,u,h=>by cases u<;>simp_all [cv]
 | .tup cs,u,h=>by cases u<;>simp_all [cv]
 | .fn f cs,u,h=>by cases u<;>simp_all [cv]
 | .mp b,u,h=>by cases u<;>simp_all [cv]
theorem Zww {R:RP}{w:World}:∀(vs:List V) (us:List Value),cvs vs us=true→ZaQ R w vs us
 | [],us,h=>by cases us<;>simp_all [cvs,ZaQ]
 | v :: vs,[],h=>by simp[cvs] at h
 | v :: vs,u :: us,h=>by
  simp only[cvs,Bool.and_eq_true] at h
  exact⟨u,us,rfl,ZtB v u h.1,Zww vs us h.2⟩
end
abbrev ZbH:=Nat→Option (List (IntKind×Int))
def gD:List (IntKind×Int)→List D
 | []=>[]
 | (k,n) :: r=>.int k n :: gD r
def eqG:List (IntKind×Int)→List D→Bool
 | [],[]=>true
 | (k,n) :: r,.int k' n' :: s=>k==k'&&n==n'&&eqG r s
 | _,_=>false
theorem ZAF:∀(g:List (IntKind×Int)) (l:List D),eqG g l=true→l=gD g
 | [],[],_=>rfl
 | [],_ :: _,h=>by simp[eqG] at h
 | (k,n) :: r,[],h=>by simp[eqG] at h
 | (k,n) :: r,x :: s,h=>by
  cases x<;>simp only[eqG,Bool.and_eq_true,beq_iff_eq,Bool.false_eq_true] at h
  obtain⟨⟨rfl,rfl⟩,h⟩:=h
  rw[gD,ZAF r s h]
def ZY (G:ZbH):Operand→Opd→Bool
 | .tmp i,.t j=>i==j
 | .const u,.c v=>cv v u
 | .func f,.c (.d (.fn g []))=>f==g
 | .global g,.c (.d (.rptr cs))=>match G g with | some l=>eqG l cs | none=>false
 | _,_=>false
def ZfN (G:ZbH):List Operand→List Opd→Bool
 | [],[]=>true
 | x :: xs,y :: ys=>ZY G x y&&ZfN G xs ys
 | _,_=>false
def GOK (G:ZbH) (R:RP) (w:World):Prop:=∀g l,G g=some l→R.den w (.rptr (gD l)) (.pointer (some ⟨g,0,none⟩))
def Zit (R:RP) (w:World) (e:Env) (a:Act):Prop:=∀t,Zbd R w (e t) (a.tmps.getD t undef)
theorem Zry {G:ZbH}{R:RP}{w:World}{e:Env}{a:Act} (hg:GOK G R w) (he:Zit R w e a) {x:Operand}{y:Opd} (h:ZY G x y=true):Zbd R w (y.val e) (a.eval x):=by
 cases x with
 | tmp i=>
  cases y with
  | t j=>
   simp only[ZY,beq_iff_eq] at h
   subst h
   exact he i
  | c v=>simp[ZY] at h
 | const u=>
  cases y with
  | t j=>simp[ZY] at h
  | c v=>exact ZtB v u h
 | func f=>
  cases y with
  | t j=>simp[ZY] at h
  | c v=>
   cases v with
   | d x=>
    cases x with
    | fn g caps=>
     cases caps with
     | nil=>
      simp only[ZY,beq_iff_eq] at h
      subst h
      exact⟨[],rfl,rfl⟩
     | cons=>simp[ZY] at h
    | _=>simp[ZY] at h
   | _=>simp[ZY] at h
 | global g=>
  cases y with
  | t j=>simp[ZY] at h
  | c v=>
   cases v with
   | d x=>
    cases x with
    | rptr cs=>
     cases hG:G g with
     | none=>simp[ZY,hG] at h
     | some l=>
      simp only[ZY,hG] at h
      rw[ZAF l cs h]
      exact hg g l hG
    | _=>simp[ZY] at h
   | _=>simp[ZY] at h
theorem ZtM {G:ZbH}{R:RP}{w:World}{e:Env}{a:Act} (hg:GOK G R w) (he:Zit R w e a):∀{xs:List Operand}{ys:List Opd},ZfN G xs ys=true→ZaQ R w (vals e ys) (xs.map a.eval)
 | [],[],_=>rfl
 | [],_ :: _,h=>by simp[ZfN] at h
 | _ :: _,[],h=>by simp[ZfN] at h
 | x :: xs,y :: ys,h=>by
  simp only[ZfN,Bool.and_eq_true] at h
  exact⟨_,_,rfl,Zry hg he h.1,ZtM hg he h.2⟩
theorem Ext.gok {G:ZbH}{R R':RP}{w w':World} (e:Ext R w R' w') (hb:∀c,R.B0 c→R.B1 c) (h:GOK G R w):GOK G R' w':=fun g l hg=>e.den hb (h g l hg)
theorem Ext.envOK {R R':RP}{w w':World} (x:Ext R w R' w') (hb:∀c,R.B0 c→R.B1 c) {e:Env}{a:Act} (h:Zit R w e a):Zit R' w' e a:=fun t=>x.denV hb _ _ (h t)
def Zas (H:Zp) (up:List (Nat×Blk)) (nid:Nat) (nw:List Blk) (H':Zp):Prop:=
 ∀i,H'[i]? = if nid≤i∧i<nid+nw.length then nw[i-nid]? else (ZeX H up)[i]?
def Z7 (R:RP) (w:World) (nid n:Nat) (H':Zp) (v:V) (u:Value) (w':World):Prop:=
 ∃R',Ext R w R' w'∧R'.OK w'∧R'.H=H'∧Zbd R' w' v u∧∀i,R.M i=none→¬(nid≤i∧i<nid+n)→R'.M i=none
theorem Zas.same {H H':Zp}{nid:Nat} (h:Zas H [] nid [] H'):H'=H:=by
 apply List.ext_getElem?
 intro i
 have:=h i
 simp only[List.length_nil,Nat.add_zero,ZeX] at this
 rw[this,if_neg (by omega)]
theorem Z7.still {R:RP}{w w':World}{nid:Nat}{H':Zp}{v:V}{u:Value} (ok:R.OK w) (hp:Zas R.H [] nid [] H') (hh:w'.heap=w.heap) (ho:w'.os=w.os) (ht:w'.tape=w.tape) (hpt:w'.output=w.output)
  (hv:Zbd R w v u):Z7 R w nid 0 H' v u w':=
 ⟨R,Ext.draw hh ho ht hpt,ok.draw hh ho ht hpt,hp.same.symm,(Ext.draw hh ho ht hpt).denV ok.b01 v u hv,fun i h _=>h⟩
theorem Z7.stay {R:RP}{w:World}{nid:Nat}{H':Zp}{v:V}{u:Value} (ok:R.OK w) (hp:Zas R.H [] nid [] H') (hv:Zbd R w v u):Z7 R w nid 0 H' v u w:=
 Z7.still ok hp rfl rfl rfl rfl hv
theorem Z7.new {R:RP}{w:World}{nid:Nat}{H':Zp}{v:V}{u:Value}{blk:Blk}{m:Option Nat} (o:Obj) (ok:R.OK w) (hp:Zas R.H [] nid [blk] H') (hn:R.M nid=none) (hm:m=none∨m=some w.heap.size)
  (hk:∀R':RP,Ext R w R' (w.alloc o)→R'.M nid=some m→R'.H[nid]? = some blk→Zig R' (w.alloc o) m blk∧(Zig R' (w.alloc o) m blk→Zbd R' (w.alloc o) v u)):Z7 R w nid 1 H' v u (w.alloc o):=by
 have hH:∀i,i≠nid→H'[i]? = R.H[i]?:=fun i hi=>by
  have:=hp i
  rw[this,if_neg (by simp;omega)];rfl
 have hb:H'[nid]? = some blk:=by
  have:=hp nid
  rw[this,if_pos (by simp)];simp
 have e:=Ext.new (R:=R) (w:=w) (H':=H') (n:=nid) (blk:=blk) (m:=m) o hn hH hb hm ok.lt ok.al
 have hk':=hk _ e (by simp) hb
 exact⟨_,e,ok.new hn hH hb hm (fun _=>hk'.1),rfl,hk'.2 hk'.1,fun i hi hni=>by
  have:i≠nid:=fun h=>hni (by subst h;simp)
  simp[this,hi]⟩
end Go.Proofs.YtnmbdjkbaihicaaGreatDoorE
namespace Go.Proofs.YtnmbdjkbaihicaaGreatDoorE
open Go
set_option linter.unusedVariables false
set_option linter.unusedSimpArgs false
def Le {α:Type} (x y:Option α):Prop:=∀a,x=some a→y=some a
theorem Le.refl {α:Type} (x:Option α):Le x x:=fun _ h=>h
theorem Le.trans {α:Type}{x y z:Option α} (h:Le x y) (k:Le y z):Le x z:=fun a ha=>k a (h a ha)
theorem Le.none {α:Type} (x:Option α):Le none x:=fun _ h=>by cases h
noncomputable def ZCV {α:Type} (F:Nat→Option α):Option α:=open Classical in if h:∃n,(F n).isSome=true then F (Classical.choose h) else none
theorem Zxp {α:Type}{F:Nat→Option α} (mono:∀n m,n≤m→Le (F n) (F m)) (a:α):ZCV F=some a↔∃n,F n=some a:=by
 unfold ZCV
 constructor
 ·intro h
  split at h
  ·rename_i hx;exact⟨_,h⟩
  ·cases h
 ·rintro ⟨n,hn⟩
  have hx:∃n,(F n).isSome=true:=⟨n,by simp[hn]⟩
  rw[dif_pos hx]
  have hs:=Classical.choose_spec hx
  cases hv:F (Classical.choose hx) with
  | none=>rw[hv] at hs;cases hs
  | some b=>
   rcases Nat.le_total n (Classical.choose hx) with h | h
   ·rw[← hv];exact mono _ _ h a hn
   ·have:=mono _ _ h b hv;rw[hn] at this;exact this.symm
def LeC (f g:Zbs):Prop:=∀a b c,Le (f a b c) (g a b c)
abbrev Rnd:=List V→Zp→Option Lp
abbrev ItF:=Rnd→List V→Zp→Option (Ex×List V×Zp)
def LeR (f g:Rnd):Prop:=∀a b,Le (f a b) (g a b)
def LeI (f g:ItF):Prop:=∀F G,LeR F G→∀a b,Le (f F a b) (g G a b)
theorem Zlf {Γ:Ctx}{cf cg:Zbs} (h:LeC cf cg) (nid:Nat) (H:Zp) (f:Nat) (args:List V):Le (Zhn Γ cf nid H f args) (Zhn Γ cg nid H f args):=by
 intro r hr
 unfold Zhn at hr ⊢
 split at hr
 ·rename_i hm
  cases h1:fzs H args with
  | none=>simp[h1] at hr
  | some l=>
   simp only[h1] at hr ⊢
   cases h2:cf f (ZcZ l) [] with
   | none=>simp[h2] at hr
   | some p=>rw[h2] at hr;rw[h _ _ _ p h2];exact hr
 ·rename_i hm
  cases h1:fzs H args with
  | none=>simp[h1] at hr
  | some l=>
   simp only[h1] at hr ⊢
   cases h2:cf f (ZcZ l) [] with
   | none=>simp[h2] at hr
   | some p=>rw[h2] at hr;rw[h _ _ _ p h2];exact hr
 ·cases h1:extract 0 args H with
  | none=>simp[h1] at hr
  | some q=>
   obtain⟨L,args',H0⟩:=q
   simp only[h1] at hr ⊢
   cases h2:cf f args' H0 with
   | none=>simp[h2] at hr
   | some p=>rw[h2] at hr;rw[h _ _ _ p h2];exact hr
theorem ZhD {Γ:Ctx}{cf:Zbs} (e:Env) (nid:Nat) (H:Zp) (x:Opd) (args:List Opd) :
  opE Γ cf e nid H (.callv x args)=match Zlx (x.val e) with | some (f,caps)=>(match Zhq Γ (x.val e) f caps with | true=>none | false=>Zhn Γ cf nid H f (vals e args++caps)) | none=>none:=rfl
theorem ZgZ {Γ:Ctx}{cf:Zbs} (e:Env) (nid:Nat) (H:Zp) (tab:List (Nat×Nat)) (x:Opd) (args:List Opd) :
  opE Γ cf e nid H (.invoke tab x args)=match x.val e with
   | .d (.iface t y)=>(match Zoa tab t with | some f=>Zhn Γ cf nid H f (.d y :: vals e args) | none=>none)
   | _=>none:=rfl
theorem Zpb {Γ:Ctx}{cf cg:Zbs} (h:LeC cf cg) (e:Env) (nid:Nat) (H:Zp) (o:O):Le (opE Γ cf e nid H o) (opE Γ cg e nid H o):=by
 intro r hr
 cases o<;>try exact hr
 ·exact Zlf h _ _ _ _ r hr
 ·rename_i x args
  rw[ZhD] at hr ⊢
  cases h1:Zlx (x.val e) with
  | none=>simp[h1] at hr
  | some q=>
   obtain⟨f,caps⟩:=q;simp only[h1] at hr ⊢
   cases hb:Zhq Γ (x.val e) f caps with
   | true=>rw[hb] at hr;cases hr
   | false=>rw[hb] at hr;exact Zlf h _ _ _ _ r hr
 ·rename_i tab x args
  rw[ZgZ] at hr ⊢
  split at hr
  ·rename_i t y hx
   split at hr
   ·exact Zlf h _ _ _ _ r hr
   ·cases hr
  ·cases hr
 ·exact Zlf h _ _ _ _ r hr
theorem Zng {Γ:Ctx}{cf cg:Zbs} (h:LeC cf cg):∀(l:List Op1) (e:Env) (H:Zp),Le (Zi8 Γ cf l e H) (Zi8 Γ cg l e H)
 | [],e,H,r,hr=>hr
 | o :: l,e,H,r,hr=>by
  unfold Zi8 at hr ⊢
  cases hw:Zgv e o.guard with
  | none=>simp[hw] at hr
  | some b=>
   cases b with
   | false=>simp only[hw] at hr ⊢;exact Zng h l _ _ r hr
   | true=>
    simp only[hw] at hr ⊢
    cases ho:opE Γ cf e H.length H o.op with
    | none=>simp[ho] at hr
    | some q=>
     rw[ho] at hr;rw[Zpb h _ _ _ _ q ho]
     exact Zng h l _ _ r hr
theorem Zk1 {Γ:Ctx}{cf cg:Zbs} (h:LeC cf cg):∀(l:List Op1) (pos:List (Nat×Nat)) (e:Env) (H:Zp),Le (Zgq Γ cf pos l e H) (Zgq Γ cg pos l e H)
 | [],pos,e,H,r,hr=>hr
 | o :: l,pos,e,H,r,hr=>by
  unfold Zgq at hr ⊢
  cases hw:Zgv e o.guard with
  | none=>simp[hw] at hr
  | some b=>
   cases b with
   | false=>simp only[hw] at hr ⊢;exact Zk1 h l _ _ _ r hr
   | true=>
    simp only[hw] at hr ⊢
    cases ho:opE Γ cf e H.length (Zhm H pos o.mask) o.op with
    | none=>simp[ho] at hr
    | some q=>
     rw[ho] at hr;rw[Zpb h _ _ _ _ q ho]
     obtain⟨v,up,nw⟩:=q
     dsimp only at hr ⊢
     cases hb:(Zrx e H o up nw) with
     | false=>simp[hb] at hr
     | true=>simp only[hb,cond_true] at hr ⊢;exact Zk1 h l _ _ _ r hr
theorem ZmO {k:Nat}{live outs:List Nat}{x y:Option (Ex×Env×Zp)} (h:Le x y):Le (Zfe k live outs x) (Zfe k live outs y):=by
 intro r hr
 cases x with
 | none=>simp[Zfe] at hr
 | some q=>rw[h q rfl];exact hr
theorem Zr1 {Γ:Ctx}{cf cg:Zbs}{It Jt:ItF} (h:LeC cf cg) (hi:LeI It Jt) (k:Nat):∀(c:C) (e:Env) (H:Zp),Le (Zav Γ cf It k c e H) (Zav Γ cg Jt k c e H):=by
 intro c
 induction c with
 | skip=>intro e H;exact Le.refl _
 | ret=>intro e H;exact Le.refl _
 | exit id=>intro e H;exact Le.refl _
 | seq a b iha ihb=>
  intro e H r hr
  unfold Zav at hr ⊢
  cases ha:Zav Γ cf It k a e H with
  | none=>simp[ha] at hr
  | some q=>
   rw[ha] at hr;rw[iha e H q ha]
   obtain⟨x,e1,H1⟩:=q
   cases x with
   | normal=>exact ihb e1 H1 r hr
   | exit id=>exact hr
   | ret=>exact hr
 | cond x a b iha ihb=>
  intro e H r hr
  unfold Zav at hr ⊢
  split at hr
  ·rename_i t ht
   cases t with
   | true=>exact iha e H r hr
   | false=>exact ihb e H r hr
  ·cases hr
 | block id a iha=>
  intro e H r hr
  unfold Zav at hr ⊢
  cases ha:Zav Γ cf It k a e H with
  | none=>simp[ha] at hr
  | some q=>rw[ha] at hr;rw[iha e H q ha];exact hr
 | loop live outs a iha=>
  intro e H r hr
  unfold Zav at hr ⊢
  cases hh:Zq3 k (live.map e) H with
  | none=>simp[hh] at hr
  | some q=>
   obtain⟨vs,H1⟩:=q
   simp only[hh] at hr ⊢
   cases hit:It (fun vs H=>Zfe k live outs (Zav Γ cf It k a (ZeK live vs) H)) vs H1 with
   | none=>simp[hit] at hr
   | some p=>
    rw[hit] at hr
    rw[hi _ (fun vs H=>Zfe k live outs (Zav Γ cg Jt k a (ZeK live vs) H)) (fun vs H=>ZmO (iha (ZeK live vs) H)) vs H1 p hit]
    exact hr
 | ops l=>
  intro e H r hr
  unfold Zav at hr ⊢
  cases ho:Zi8 Γ cf l e H with
  | none=>simp[ho] at hr
  | some q=>rw[ho] at hr;rw[Zng h l e H q ho];exact hr
 | draw l=>
  intro e H r hr
  unfold Zav at hr ⊢
  cases ho:Zgq Γ cf [] l e H with
  | none=>simp[ho] at hr
  | some q=>rw[ho] at hr;rw[Zk1 h l _ e H q ho];exact hr
theorem Ztq {Γ:Ctx}{cf cg:Zbs}{It Jt:ItF} (h:LeC cf cg) (hi:LeI It Jt) (f:Nat) (args:List V) (H:Zp):Le (Zmd Γ cf It f args H) (Zmd Γ cg Jt f args H):=by
 intro r hr
 unfold Zmd at hr ⊢
 cases hc:Γ.code f with
 | none=>simp[hc] at hr
 | some fn=>
  simp only[hc] at hr ⊢
  cases hn:Nat.beq args.length fn.nargs with
  | false=>simp[hn] at hr
  | true=>
   simp only[hn,cond_true] at hr ⊢
   cases hx:Zav Γ cf It H.length fn.body (Zfr 0 args) H with
   | none=>simp[hx] at hr
   | some q=>rw[hx] at hr;rw[Zr1 h hi _ _ _ _ q hx];exact hr
theorem ZgU {F G:Rnd} (h:LeR F G):∀(n m:Nat),n≤m→∀vs H,Le (Zdw F n vs H) (Zdw G m vs H)
 | 0,m,_,vs,H=>Le.none _
 | n+1,0,hm,vs,H=>absurd hm (by omega)
 | n+1,m+1,hm,vs,H=>by
  intro r hr
  unfold Zdw at hr ⊢
  cases hf:F vs H with
  | none=>simp[hf] at hr
  | some q=>
   rw[hf] at hr;rw[h vs H q hf]
   cases q with
   | again vs H=>exact ZgU h n m (by omega) vs H r hr
   | done x vs H=>exact hr
theorem Zja (Γ:Ctx):∀(n m:Nat),n≤m→LeC (evN Γ n) (evN Γ m)
 | 0,m,_=>fun _ _ _=>Le.none _
 | n+1,0,hm=>absurd hm (by omega)
 | n+1,m+1,hm=>fun f args H=>Ztq (Zja Γ n m (by omega)) (fun F G h vs H=>ZgU h n m (by omega) vs H) f args H
noncomputable def evW (Γ:Ctx):Zbs:=fun f args H=>ZCV fun n=>evN Γ n f args H
noncomputable def itW:ItF:=fun F vs H=>ZCV fun n=>Zdw F n vs H
theorem ZjJ (Γ:Ctx) (f:Nat) (args:List V) (H:Zp) (r:V×Zp):evW Γ f args H=some r↔∃n,evN Γ n f args H=some r:=
 Zxp (fun n m h=>Zja Γ n m h f args H) r
theorem Zj0 (F:Rnd) (vs:List V) (H:Zp) (r:Ex×List V×Zp):itW F vs H=some r↔∃n,Zdw F n vs H=some r:=
 Zxp (fun n m h=>ZgU (fun _ _=>Le.refl _) n m h vs H) r
theorem ZDT (F:Rnd) (vs:List V) (H:Zp):itW F vs H=match F vs H with | some (.again vs H)=>itW F vs H | some (.done x vs H)=>some (x,vs,H) | none=>none:=by
 cases hf:F vs H with
 | none=>
  cases h:itW F vs H with
  | none=>rfl
  | some r=>
   obtain⟨n,hn⟩:=(Zj0 F vs H r).1 h
   cases n with
   | zero=>simp[Zdw] at hn
   | succ n=>simp[Zdw,hf] at hn
 | some q=>
  cases q with
  | done x vs' H'=>exact(Zj0 F vs H _).2 ⟨1,by simp[Zdw,hf]⟩
  | again vs' H'=>
   dsimp only
   cases h:itW F vs' H' with
   | some r=>
    obtain⟨n,hn⟩:=(Zj0 F vs' H' r).1 h
    exact(Zj0 F vs H r).2 ⟨n+1,by simp[Zdw,hf,hn]⟩
   | none=>
    cases h2:itW F vs H with
    | none=>rfl
    | some r=>
     obtain⟨n,hn⟩:=(Zj0 F vs H r).1 h2
     cases n with
     | zero=>simp[Zdw] at hn
     | succ n=>
      simp[Zdw,hf] at hn
      rw[(Zj0 F vs' H' r).2 ⟨n,hn⟩] at h
      cases h
section
variable {Γ:Ctx}
theorem Zk6 (nid:Nat) (H:Zp) (f:Nat) (args:List V) (r:V×List (Nat×Blk)×List Blk) (hr:Zhn Γ (evW Γ) nid H f args=some r):∃n,Zhn Γ (evN Γ n) nid H f args=some r:=by
 unfold Zhn at hr ⊢
 split at hr
 ·cases h1:fzs H args with
  | none=>simp[h1] at hr
  | some l=>
   simp only[h1] at hr ⊢
   cases h2:evW Γ f (ZcZ l) [] with
   | none=>simp[h2] at hr
   | some p=>obtain⟨n,hn⟩:=(ZjJ Γ f (ZcZ l) [] p).1 h2;exact⟨n,by rw[hn];rw[h2] at hr;exact hr⟩
 ·cases h1:fzs H args with
  | none=>simp[h1] at hr
  | some l=>
   simp only[h1] at hr ⊢
   cases h2:evW Γ f (ZcZ l) [] with
   | none=>simp[h2] at hr
   | some p=>obtain⟨n,hn⟩:=(ZjJ Γ f (ZcZ l) [] p).1 h2;exact⟨n,by rw[hn];rw[h2] at hr;exact hr⟩
 ·cases h1:extract 0 args H with
  | none=>simp[h1] at hr
  | some q=>
   obtain⟨L,args',H0⟩:=q
   simp only[h1] at hr ⊢
   cases h2:evW Γ f args' H0 with
   | none=>simp[h2] at hr
   | some p=>obtain⟨n,hn⟩:=(ZjJ Γ f args' H0 p).1 h2;exact⟨n,by rw[hn];rw[h2] at hr;exact hr⟩
theorem ZvT (e:Env) (nid:Nat) (H:Zp) (o:O) (r:V×List (Nat×Blk)×List Blk) (hr:opE Γ (evW Γ) e nid H o=some r):∃n,opE Γ (evN Γ n) e nid H o=some r:=by
 cases o<;>try exact⟨0,hr⟩
 ·exact Zk6 _ _ _ _ r hr
 ·rename_i x args
  rw[ZhD] at hr
  cases h1:Zlx (x.val e) with
  | none=>simp[h1] at hr
  | some q=>
   obtain⟨f,caps⟩:=q;simp only[h1] at hr
   cases hb:Zhq Γ (x.val e) f caps with
   | true=>rw[hb] at hr;cases hr
   | false=>
    rw[hb] at hr
    obtain⟨n,hn⟩:=Zk6 _ _ _ _ r hr
    exact⟨n,by rw[ZhD];simp only[h1,hb];exact hn⟩
 ·rename_i tab x args
  rw[ZgZ] at hr
  split at hr
  ·rename_i t y hx
   cases hl:Zoa tab t with
   | none=>simp[hl] at hr
   | some f=>
    simp only[hl] at hr
    obtain⟨n,hn⟩:=Zk6 _ _ _ _ r hr
    exact⟨n,by rw[ZgZ];simp only[hx,hl];exact hn⟩
  ·cases hr
 ·exact Zk6 _ _ _ _ r hr
theorem Zqv:∀(l:List Op1) (e:Env) (H:Zp) (r:Env×Zp),Zi8 Γ (evW Γ) l e H=some r→∃n,Zi8 Γ (evN Γ n) l e H=some r
 | [],e,H,r,hr=>⟨0,hr⟩
 | o :: l,e,H,r,hr=>by
  unfold Zi8 at hr
  cases hw:Zgv e o.guard with
  | none=>simp[hw] at hr
  | some b=>
   cases b with
   | false=>
    simp only[hw] at hr
    obtain⟨n,hn⟩:=Zqv l _ _ r hr
    exact⟨n,by unfold Zi8;simp only[hw];exact hn⟩
   | true=>
    simp only[hw] at hr
    cases ho:opE Γ (evW Γ) e H.length H o.op with
    | none=>simp[ho] at hr
    | some q=>
     rw[ho] at hr
     obtain⟨n,hn⟩:=ZvT _ _ _ _ q ho
     obtain⟨v,up,nw⟩:=q
     obtain⟨m,hm⟩:=Zqv l _ _ r hr
     refine⟨max n m,?_⟩
     unfold Zi8
     simp only[hw]
     rw[Zpb (Zja Γ n (max n m) (Nat.le_max_left _ _)) _ _ _ _ _ hn]
     exact Zng (Zja Γ m (max n m) (Nat.le_max_right _ _)) l _ _ r hm
theorem ZoB:∀(l:List Op1) (pos:List (Nat×Nat)) (e:Env) (H:Zp) (r:Env×Zp),Zgq Γ (evW Γ) pos l e H=some r→∃n,Zgq Γ (evN Γ n) pos l e H=some r
 | [],pos,e,H,r,hr=>⟨0,hr⟩
 | o :: l,pos,e,H,r,hr=>by
  unfold Zgq at hr
  cases hw:Zgv e o.guard with
  | none=>simp[hw] at hr
  | some b=>
   cases b with
   | false=>
    simp only[hw] at hr
    obtain⟨n,hn⟩:=ZoB l _ _ _ r hr
    exact⟨n,by unfold Zgq;simp only[hw];exact hn⟩
   | true=>
    simp only[hw] at hr
    cases ho:opE Γ (evW Γ) e H.length (Zhm H pos o.mask) o.op with
    | none=>simp[ho] at hr
    | some q=>
     rw[ho] at hr
     obtain⟨n,hn⟩:=ZvT _ _ _ _ q ho
     obtain⟨v,up,nw⟩:=q
     dsimp only at hr
     cases hb:(Zrx e H o up nw) with
     | false=>simp[hb] at hr
     | true=>
      simp only[hb,cond_true] at hr
      obtain⟨m,hm⟩:=ZoB l _ _ _ r hr
      refine⟨max n m,?_⟩
      unfold Zgq
      simp only[hw]
      rw[Zpb (Zja Γ n (max n m) (Nat.le_max_left _ _)) _ _ _ _ _ hn]
      simp only[hb,cond_true]
      exact Zk1 (Zja Γ m (max n m) (Nat.le_max_right _ _)) l _ _ _ r hm
theorem Zxh (k:Nat):∀(c:C) (e:Env) (H:Zp) (r:Ex×Env×Zp),Zav Γ (evW Γ) itW k c e H=some r→∃n,Zav Γ (evN Γ n) (fun F=>Zdw F n) k c e H=some r:=by
 have up:∀(c:C) (e:Env) (H:Zp) (r:Ex×Env×Zp) (n m:Nat),n≤m→Zav Γ (evN Γ n) (fun F=>Zdw F n) k c e H=some r→Zav Γ (evN Γ m) (fun F=>Zdw F m) k c e H=some r:=
  fun c e H r n m h=>Zr1 (Zja Γ n m h) (fun F G hFG vs H=>ZgU hFG n m h vs H) k c e H r
 intro c
 induction c with
 | skip=>intro e H r hr;exact⟨0,hr⟩
 | ret=>intro e H r hr;exact⟨0,hr⟩
 | exit id=>intro e H r hr;exact⟨0,hr⟩
 | seq a b iha ihb=>
  intro e H r hr
  unfold Zav at hr
  cases ha:Zav Γ (evW Γ) itW k a e H with
  | none=>simp[ha] at hr
  | some q=>
   rw[ha] at hr
   obtain⟨n,hn⟩:=iha e H q ha
   obtain⟨x,e1,H1⟩:=q
   cases x with
   | normal=>
    obtain⟨m,hm⟩:=ihb e1 H1 r hr
    refine⟨max n m,?_⟩
    unfold Zav
    rw[up a e H _ n _ (Nat.le_max_left _ _) hn]
    exact up b e1 H1 r m _ (Nat.le_max_right _ _) hm
   | exit id=>exact⟨n,by unfold Zav;rw[hn];exact hr⟩
   | ret=>exact⟨n,by unfold Zav;rw[hn];exact hr⟩
 | cond x a b iha ihb=>
  intro e H r hr
  unfold Zav at hr
  split at hr
  ·rename_i t ht
   cases t with
   | true=>obtain⟨n,hn⟩:=iha e H r hr;exact⟨n,by unfold Zav;simp only[ht];exact hn⟩
   | false=>obtain⟨n,hn⟩:=ihb e H r hr;exact⟨n,by unfold Zav;simp only[ht];exact hn⟩
  ·cases hr
 | block id a iha=>
  intro e H r hr
  unfold Zav at hr
  cases ha:Zav Γ (evW Γ) itW k a e H with
  | none=>simp[ha] at hr
  | some q=>rw[ha] at hr;obtain⟨n,hn⟩:=iha e H q ha;exact⟨n,by unfold Zav;rw[hn];exact hr⟩
 | loop live outs a iha=>
  intro e H r hr
  unfold Zav at hr
  cases hh:Zq3 k (live.map e) H with
  | none=>simp[hh] at hr
  | some q=>
   obtain⟨vs,H1⟩:=q
   simp only[hh] at hr
   cases hit:itW (fun vs H=>Zfe k live outs (Zav Γ (evW Γ) itW k a (ZeK live vs) H)) vs H1 with
   | none=>simp[hit] at hr
   | some p=>
    rw[hit] at hr
    obtain⟨n,hn⟩:=(Zj0 _ vs H1 p).1 hit
    have key:∀(n:Nat) (vs:List V) (H1:Zp) (p:Ex×List V×Zp),Zdw (fun vs H=>Zfe k live outs (Zav Γ (evW Γ) itW k a (ZeK live vs) H)) n vs H1=some p →
      ∃m,Zdw (fun vs H=>Zfe k live outs (Zav Γ (evN Γ m) (fun F=>Zdw F m) k a (ZeK live vs) H)) n vs H1=some p:=by
     intro n
     induction n with
     | zero=>intro vs H1 p h;simp[Zdw] at h
     | succ n ih=>
      intro vs H1 p h
      unfold Zdw at h
      cases hc:Zav Γ (evW Γ) itW k a (ZeK live vs) H1 with
      | none=>simp[hc,Zfe] at h
      | some q=>
       obtain⟨m1,hm1⟩:=iha _ _ q hc
       simp only[hc] at h
       cases hr2:Zfe k live outs (some q) with
       | none=>simp[hr2] at h
       | some z=>
        rw[hr2] at h
        cases z with
        | done x vs' H'=>exact⟨m1,by unfold Zdw;simp only[hm1,hr2];exact h⟩
        | again vs' H'=>
         obtain⟨m2,hm2⟩:=ih vs' H' p h
         refine⟨max m1 m2,?_⟩
         unfold Zdw
         simp only[up a _ _ q m1 _ (Nat.le_max_left m1 m2) hm1,hr2]
         exact ZgU (fun vs H=>ZmO (fun q hq=>up a _ _ q m2 _ (Nat.le_max_right m1 m2) hq)) n n (Nat.le_refl _) vs' H' p hm2
    obtain⟨m,hm⟩:=key n vs H1 p hn
    refine⟨max n m,?_⟩
    unfold Zav
    simp only[hh]
    rw[ZgU (fun vs H=>ZmO (fun q hq=>up a _ _ q m _ (Nat.le_max_right n m) hq)) n _ (Nat.le_max_left n m) vs H1 p hm]
    exact hr
 | ops l=>
  intro e H r hr
  unfold Zav at hr
  cases ho:Zi8 Γ (evW Γ) l e H with
  | none=>simp[ho] at hr
  | some q=>rw[ho] at hr;obtain⟨n,hn⟩:=Zqv l e H q ho;exact⟨n,by unfold Zav;rw[hn];exact hr⟩
 | draw l=>
  intro e H r hr
  unfold Zav at hr
  cases ho:Zgq Γ (evW Γ) [] l e H with
  | none=>simp[ho] at hr
  | some q=>rw[ho] at hr;obtain⟨n,hn⟩:=ZoB l _ e H q ho;exact⟨n,by unfold Zav;rw[hn];exact hr⟩
theorem ZEn (f:Nat) (args:List V) (H:Zp):evW Γ f args H=Zmd Γ (evW Γ) itW f args H:=by
 have h1:Le (evW Γ f args H) (Zmd Γ (evW Γ) itW f args H):=by
  intro r hr
  obtain⟨n,hn⟩:=(ZjJ Γ f args H r).1 hr
  cases n with
  | zero=>simp[evN] at hn
  | succ n=>exact Ztq (fun a b c r h=>(ZjJ Γ a b c r).2 ⟨n,h⟩) (fun F G h vs H r hr=>(Zj0 G vs H r).2 ⟨n,ZgU h n n (Nat.le_refl _) vs H r hr⟩) f args H r hn
 have h2:Le (Zmd Γ (evW Γ) itW f args H) (evW Γ f args H):=by
  intro r hr
  unfold Zmd at hr
  cases hc:Γ.code f with
  | none=>simp[hc] at hr
  | some fn=>
   simp only[hc] at hr
   cases hn:Nat.beq args.length fn.nargs with
   | false=>simp[hn] at hr
   | true=>
    simp only[hn,cond_true] at hr
    cases hx:Zav Γ (evW Γ) itW H.length fn.body (Zfr 0 args) H with
    | none=>simp[hx] at hr
    | some q=>
     rw[hx] at hr
     obtain⟨n,hn2⟩:=Zxh _ _ _ _ q hx
     refine(ZjJ Γ f args H r).2 ⟨n+1,?_⟩
     show Zmd Γ (evN Γ n) (fun F=>Zdw F n) f args H=some r
     unfold Zmd
     simp only[hc,hn,cond_true,hn2]
     exact hr
 cases h:evW Γ f args H with
 | some r=>exact(h1 r h).symm
 | none=>
  cases h':Zmd Γ (evW Γ) itW f args H with
  | none=>rfl
  | some r=>rw[h2 r h'] at h;cases h
end
end Go.Proofs.YtnmbdjkbaihicaaGreatDoorE
namespace Go.Proofs.YtnmbdjkbaihicaaGreatDoorE
open Go
set_option linter.unusedVariables false
set_option linter.unusedSimpArgs false
def Zis (P:Program) (t:TypeId):Option Bool:=
 match P.underlying t with
 | some (.struct _)=>some true
 | some (.array _ _)=>some true
 | some _=>some false
 | none=>none
def Zg9 (P:Program) (t:TypeId):Option Nat:=(P.info? t).map (·.size)
theorem ZhI {P:Program}{w:World}{t:TypeId}{ag:Bool} (h:Zis P t=some ag):(isAgg t).run P w = .ok ag w:=by
 unfold Zis at h
 cases hu:P.underlying t with
 | none=>simp[hu] at h
 | some d=>
  rw[hu] at h
  have:=run_underlying (P:=P) (w:=w) hu
  simp only[isAgg,Sem.run_bind,this,Result.andThen_ok]
  cases d<;>simp_all
theorem ZeW {P:Program}{w:World}{t:TypeId}{n:Nat} (h:Zg9 P t=some n):(sizeOf t).run P w = .ok n w:=by
 unfold Zg9 at h
 cases hi:P.info? t with
 | none=>simp[hi] at h
 | some i=>
  simp only[hi,Option.map_some,Option.some.injEq] at h
  subst h
  simp[sizeOf,typeInfo,hi]
section
variable {R:RP} {w:World}
theorem ZeI:∀(vs:List V) (us:List Value),ZaQ R w vs us→us.length=vs.length
 | [],us,h=>by simp only[ZaQ] at h;subst h;rfl
 | v :: vs,us,h=>by
  obtain⟨u,us',rfl,e1,e2⟩:=h
  simp[ZeI vs us' e2]
theorem ZfZ:∀(vs:List V) (us:List Value) (j:Nat) (v:V),ZaQ R w vs us→vs[j]? = some v→∃u,us[j]? = some u∧Zbd R w v u
 | [],us,j,v,_,hj=>by simp at hj
 | y :: vs,us,0,v,h,hj=>by
  obtain⟨u,us',rfl,e1,e2⟩:=h
  simp at hj;subst hj
  exact⟨u,by simp,e1⟩
 | y :: vs,us,j+1,v,h,hj=>by
  obtain⟨u,us',rfl,e1,e2⟩:=h
  simpa using ZfZ vs us' j v e2 (by simpa using hj)
theorem ZkB:∀(vs:List V) (us:List Value),us.length=vs.length→(∀(j:Nat) v u,vs[j]? = some v→us[j]? = some u→Zbd R w v u)→ZaQ R w vs us
 | [],us,hl,_=>by simpa [ZaQ] using hl
 | y :: vs,[],hl,_=>by simp at hl
 | y :: vs,u :: us,hl,h=>⟨u,us,rfl,h 0 y u rfl rfl,ZkB vs us (by simpa using hl) fun j x v hx hv=>h (j+1) x v (by simpa using hx) (by simpa using hv)⟩
theorem ZkZ:∀(l:List D),ZcZ l=l.map V.d
 | []=>rfl
 | x :: l=>by simp[ZcZ,ZkZ l]
theorem ZdF:∀(l:List D) (us:List Value),ZaQ R w (ZcZ l) us↔Za6 R.A1 R.A0 R.AL w l us
 | [],us=>Iff.rfl
 | x :: l,us=>by
  simp only[ZcZ,ZaQ,Za6]
  constructor
  ·rintro ⟨u,us',e,h1,h2⟩;exact⟨u,us',e,h1,(ZdF l us').1 h2⟩
  ·rintro ⟨u,us',e,h1,h2⟩;exact⟨u,us',e,h1,(ZdF l us').2 h2⟩
theorem Zm5:∀{vs:List V}{l:List D},Zmy vs=some l→vs=ZcZ l
 | [],l,h=>by simp[Zmy] at h;subst h;rfl
 | v :: vs,l,h=>by
  cases v<;>simp only[Zmy] at h<;>try (cases h;done)
  rename_i x
  cases hr:Zmy vs with
  | none=>simp[hr] at h
  | some l'=>
   simp only[hr,Option.some.injEq] at h
   subst h
   rw[Zm5 hr,ZcZ]
theorem Zr0 {vs:List V}{us:List Value} (h:ZaQ R w vs us):Zbd R w (Zvw vs) (.agg us.toArray):=by
 unfold Zvw
 cases ha:Zmy vs with
 | none=>exact⟨us,rfl,h⟩
 | some l=>
  rw[Zm5 ha,ZdF] at h
  exact⟨us,rfl,h⟩
theorem ZBR {vs:List V}{us:List Value} (h:ZaQ R w vs us):Zbd R w (Zxw vs) (.tuple us.toArray):=by
 unfold Zxw
 cases ha:Zmy vs with
 | none=>exact⟨us,rfl,h⟩
 | some l=>
  rw[Zm5 ha,ZdF] at h
  exact⟨us,rfl,h⟩
theorem ZhS {v:V}{u:Value} (h:Zbd R w v u) (hv:v.okb=true):ZaQ R w v.cells u.cells.toList:=by
 cases v with
 | d x=>
  cases x with
  | agg cs=>
   obtain⟨us,rfl,h⟩:=h
   simpa [V.cells,Value.cells] using (ZdF cs us).2 h
  | tup cs=>simp[V.okb] at hv
  | bool b=>simp only[Zbd,RP.den,Zbi] at h;subst h;exact⟨_,[],rfl,by simp[Zbd,RP.den,Zbi],rfl⟩
  | int k n=>simp only[Zbd,RP.den,Zbi] at h;subst h;exact⟨_,[],rfl,by simp[Zbd,RP.den,Zbi],rfl⟩
  | str s=>simp only[Zbd,RP.den,Zbi] at h;subst h;exact⟨_,[],rfl,by simp[Zbd,RP.den,Zbi],rfl⟩
  | nilfn=>simp only[Zbd,RP.den,Zbi] at h;subst h;exact⟨_,[],rfl,by simp[Zbd,RP.den,Zbi],rfl⟩
  | nilp=>simp only[Zbd,RP.den,Zbi] at h;subst h;exact⟨_,[],rfl,by simp[Zbd,RP.den,Zbi],rfl⟩
  | nilI=>simp only[Zbd,RP.den,Zbi] at h;subst h;exact⟨_,[],rfl,by simp[Zbd,RP.den,Zbi],rfl⟩
  | list own xs=>
   have h':=h
   obtain⟨a,len,cap,rfl,_⟩:=h'
   exact⟨_,[],rfl,h,rfl⟩
  | fn f caps=>
   have h':=h
   obtain⟨us,rfl,_⟩:=h'
   exact⟨_,[],rfl,h,rfl⟩
  | rptr cs=>
   have h':=h
   obtain⟨b,off,rfl,_⟩:=h'
   exact⟨_,[],rfl,h,rfl⟩
  | iface t v=>
   have h':=h
   obtain⟨u',rfl,_⟩:=h'
   exact⟨_,[],rfl,h,rfl⟩
 | bad=>simp[V.okb] at hv
 | tup cs=>simp[V.okb] at hv
 | agg cs=>
  obtain⟨us,rfl,h⟩:=h
  simpa [V.cells,Value.cells] using h
 | nilsl sz=>
  have h':=h
  obtain⟨a,rfl⟩:=h'
  exact⟨_,[],rfl,h,rfl⟩
 | fn f caps=>
  have h':=h
  obtain⟨us,rfl,_⟩:=h'
  exact⟨_,[],rfl,h,rfl⟩
 | ptr b o=>
  have h':=h
  obtain⟨c,_,rfl⟩:=h'
  exact⟨_,[],rfl,h,rfl⟩
 | eptr b sz i k=>
  have h':=h
  obtain⟨c,_,rfl⟩:=h'
  exact⟨_,[],rfl,h,rfl⟩
 | sl b sz=>
  have h':=h
  obtain⟨⟨a,n,c,rfl⟩,_⟩:=h'
  exact⟨_,[],rfl,h,rfl⟩
 | slp b sz o l=>
  have h':=h
  obtain⟨⟨a,n,c,rfl⟩,_⟩:=h'
  exact⟨_,[],rfl,h,rfl⟩
 | mp b=>
  have h':=h
  obtain⟨⟨a,rfl⟩,_⟩:=h'
  exact⟨_,[],rfl,h,rfl⟩
end
structure Pre (G:ZbH) (R:RP) (w:World) (e:Env) (a:Act) (Hm:Zp):Prop where
 ok:R.OK w
 g:GOK G R w
 env:Zit R w e a
 le:∀b blk,nth Hm b=some blk→blk ≠ .dead→nth R.H b=some blk
section
variable {P:Program} {G:ZbH} {R:RP} {w:World} {e:Env} {a:Act} {Hm H':Zp} {nid:Nat} {o:Oper}
theorem Pre.opd (pre:Pre G R w e a Hm) {x:Operand}{y:Opd} (h:ZY G x y=true):Zbd R w (y.val e) (a.eval x):=Zry pre.g pre.env h
theorem Pre.opds (pre:Pre G R w e a Hm) {xs:List Operand}{ys:List Opd} (h:ZfN G xs ys=true):ZaQ R w (vals e ys) (xs.map a.eval):=ZtM pre.g pre.env h
theorem Zb5 {s:Sem Value}{u:Value}{w':World}{Po:Value→World→Prop} (hx:execOp a.eval o=(do pure (Next.value (← s)))) (hr:s.run P w = .ok u w') (hp:Po u w'):ZdH P o a w Po:=
 .val (by rw[hx];simp[hr]) hp
theorem ZDs (pre:Pre G R w e a Hm) {x:Operand}{y:Opd} (hop:o.op = .move x∨o.op = .assign x) (hx:ZY G x y=true) (hp:Zas R.H [] nid [] H') :
  ZdH P o a w (Z7 R w nid 0 H' (y.val e)):=by
 refine .val (u:=a.eval x) (w':=w) ?_ (Z7.stay pre.ok hp (pre.opd hx))
 rcases hop with h | h<;>(unfold execOp;rw[h];rfl)
theorem ZE9 (pre:Pre G R w e a Hm) {c x y:Operand}{c' x' y':Opd}{t:Bool} (hop:o.op = .pick c x y) (hc:ZY G c c'=true) (hx:ZY G x x'=true) (hy:ZY G y y'=true)
  (ht:c'.val e = .d (.bool t)) (hp:Zas R.H [] nid [] H'):ZdH P o a w (Z7 R w nid 0 H' (bif t then x'.val e else y'.val e)):=by
 have hcv:=pre.opd hc
 rw[ht] at hcv
 simp only[Zbd,RP.den,Zbi] at hcv
 refine .val (u:=if t=true then a.eval x else a.eval y) (w':=w) ?_ (Z7.stay pre.ok hp ?_)
 ·unfold execOp;rw[hop];simp[hcv,asBool]
 ·cases t
  ·exact pre.opd hy
  ·exact pre.opd hx
theorem Zq4 {t:TypeId}{x:Addr}{u:Value} (h:Zis P t=some false) (hc:w.cell? x=some u):(loadVar t x).run P w = .ok u w:=by
 unfold loadVar
 simp only[Sem.run_bind,ZhI h,Result.andThen_ok,Bool.false_eq_true,if_false,run_load,hc]
theorem Zq7 {t:TypeId}{x:Addr}{us:List Value} (h:Zis P t=some true) (hs:Zg9 P t=some us.length) (hc:∀(j:Nat) v,us[j]? = some v→w.cell? (x.add j)=some v) :
  (loadVar t x).run P w = .ok (.agg us.toArray) w:=by
 unfold loadVar
 simp only[Sem.run_bind,ZhI h,ZeW hs,Result.andThen_ok,if_true,run_loadCells_list w x us hc,Sem.run_pure]
theorem Zlv {n:Nat}{ag:Bool}{cs:List V}{v:V}{t:TypeId}{b off:Nat} (hc:∀(j:Nat) v,cs[j]? = some v→∃u,w.cell? ⟨b,off+j,none⟩=some u∧Zbd R w v u)
  (hag:Zis P t=some ag) (hsz:Zg9 P t=some n) (h:Zdv n ag cs=some v):∃u,(loadVar t ⟨b,off,none⟩).run P w = .ok u w∧Zbd R w v u:=by
 unfold Zdv at h
 cases ag with
 | false=>
  simp only[cond_false] at h
  obtain⟨u,h1,h2⟩:=hc 0 v (by rw[← List.head?_eq_getElem?];exact h)
  exact⟨u,Zq4 hag (by simpa using h1),h2⟩
 | true=>
  simp only[cond_true] at h
  cases hl:Nat.beq (cs.take n).length n with
  | false=>rw[hl] at h;cases h
  | true=>
   rw[hl] at h
   simp only[cond_true,Option.some.injEq] at h
   subst h
   have hl':(cs.take n).length=n:=Nat.eq_of_beq_eq_true hl
   let us:List Value:=(List.range n).map fun j=>(w.cell? ⟨b,off+j,none⟩).getD undef
   have hus:us.length=n:=by simp[us]
   have key:∀(j:Nat) v,(cs.take n)[j]? = some v→∃u,us[j]? = some u∧w.cell? ⟨b,off+j,none⟩=some u∧Zbd R w v u:=by
    intro j v hj
    have hjn:j<n:=by have:=(List.getElem?_eq_some_iff.1 hj).1;omega
    obtain⟨u,h1,h2⟩:=hc j v (by rw[List.getElem?_take] at hj;simpa [hjn] using hj)
    exact⟨u,by simp[us,hjn,h1],h1,h2⟩
   refine⟨.agg us.toArray,Zq7 hag (by rw[hus];exact hsz) ?_,Zr0 (ZkB _ _ (by omega) ?_)⟩
   ·intro j v hv
    have hjn:j<n:=by have:=(List.getElem?_eq_some_iff.1 hv).1;omega
    obtain⟨v0,hv0⟩:∃v0,(cs.take n)[j]? = some v0:=⟨_,List.getElem?_eq_getElem (by omega)⟩
    obtain⟨u,f1,f2,_⟩:=key j v0 hv0
    rw[hv] at f1;cases f1
    rw[Addr.add_lit];exact f2
   ·intro j v u hv hu
    obtain⟨u',f1,_,f3⟩:=key j v hv
    rw[hu] at f1;cases f1;exact f3
theorem ZcL {b off:Nat}{cs:Array Value}{el:TypeId}{fr:Nat×Nat} (h:w.heap[b]? = some (.cells cs el fr)):w.cell? ⟨b,off,none⟩=cs[off]?:=by
 simp[World.cell?,h]
theorem Zx7 (pre:Pre G R w e a Hm) {n:Nat}{ag:Bool}{t:TypeId}{x v:V}{u0:Value} (hag:Zis P t=some ag) (hsz:Zg9 P t=some n) (hx:Zbd R w x u0) (h:ZdK Hm n ag x=some v) :
  ∃u,(Instr.loadAt t u0).run P w = .ok u w∧Zbd R w v u:=by
 unfold ZdK at h
 cases x with
 | ptr b o=>
  dsimp only at h
  cases hb:nth Hm b with
  | none=>simp[hb] at h
  | some blk=>
   rw[hb] at h
   cases blk<;>try (cases h;done)
   rename_i cs
   have hb':=pre.le b _ hb (by simp)
   obtain⟨c,h1,rfl⟩:=hx
   rw[Z4] at hb'
   obtain⟨c',cs',el,fr,e1,e2,e3,e4,e5⟩:=pre.ok.blk b _ _ hb' h1
   cases e1
   obtain⟨u,f1,f2⟩:=Zlv (P:=P) (cs:=cs.drop o) (b:=c) (off:=o) (by
    intro j v hj
    obtain⟨u,g1,g2⟩:=e5 (o+j) v (by simpa using hj)
    exact⟨u,by rw[ZcL e2];exact g1,g2⟩) hag hsz h
   exact⟨u,by simpa [Instr.loadAt,Instr.sureAddr] using f1,f2⟩
 | eptr b sz i k=>
  dsimp only at h
  cases hb:nth Hm b with
  | none=>simp[hb] at h
  | some blk=>
   rw[hb] at h
   cases blk<;>try (cases h;done)
   rename_i sz' xs
   dsimp only at h
   cases hs:Nat.beq sz sz' with
   | false=>simp[hs] at h
   | true=>
    obtain rfl:=Nat.eq_of_beq_eq_true hs
    simp only[hs,cond_true] at h
    cases hxi:nth xs i with
    | none=>simp[hxi] at h
    | some y=>
     simp only[hxi] at h
     have hb':=pre.le b _ hb (by simp)
     obtain⟨c,h1,rfl⟩:=hx
     rw[Z4] at hb' hxi
     obtain⟨e0,e1,e2⟩:=pre.ok.blk b _ _ hb' h1
     rcases e2 with⟨e2,_⟩ | ⟨c',cs,el,e2,e3,e4,e5⟩
     ·cases e2
     ·cases e2
      obtain⟨uy,f1,f2,f3⟩:=e5 i y hxi
      have hyb:(V.d y).okb=true∨∃ts,y = .tup ts:=by cases y<;>simp[V.okb]
      rcases hyb with hyb | ⟨ts,rfl⟩
      ·have hcs:=ZhS (R:=R) (v:=.d y) f1 hyb
       have hVc:(V.d y).cells=ZcZ y.cells:=by cases y<;>rfl
       rw[hVc] at hcs
       obtain⟨u,g1,g2⟩:=Zlv (P:=P) (cs:=ZcZ (y.cells.drop k)) (b:=c) (off:=i*sz+k) (by
        intro j v hj
        have hj':(ZcZ y.cells)[k+j]? = some v:=by
         rw[ZkZ,List.getElem?_map] at hj ⊢
         simpa using hj
        obtain⟨u,p1,p2⟩:=ZfZ _ _ _ _ hcs hj'
        refine⟨u,?_,p2⟩
        rw[ZcL e3,Nat.add_assoc]
        exact f3 (k+j) u (by simpa using p1)) hag hsz h
       exact⟨u,by simpa [Instr.loadAt,Instr.sureAddr] using g1,g2⟩
      ·have f1':=f1
       obtain⟨us,rfl,_⟩:=f1'
       obtain⟨u,g1,g2⟩:=Zlv (P:=P) (cs:=ZcZ (D.cells (.tup ts) |>.drop k)) (b:=c) (off:=i*sz+k) (by
        intro j v hj
        cases k with
        | zero=>
         cases j with
         | zero=>
          simp[D.cells,ZcZ] at hj
          subst hj
          refine⟨.tuple us.toArray,?_,f1⟩
          rw[ZcL e3]
          have:=f3 0 (.tuple us.toArray) rfl
          simpa using this
         | succ j=>simp[D.cells,ZcZ] at hj
        | succ k=>simp[D.cells,ZcZ] at hj) hag hsz h
       exact⟨u,by simpa [Instr.loadAt,Instr.sureAddr] using g1,g2⟩
 | d y=>
  cases y<;>try (cases h;done)
  rename_i cs
  dsimp only at h
  obtain⟨b,off,rfl,h1,h2,h3⟩:=hx
  obtain⟨u,g1,g2⟩:=Zlv (P:=P) (cs:=ZcZ cs) (b:=b) (off:=off) (by
   intro j v hj
   rw[ZkZ,List.getElem?_map] at hj
   cases hcj:cs[j]? with
   | none=>simp[hcj] at hj
   | some x=>
    simp[hcj] at hj
    subst hj
    obtain⟨u,p1,p2⟩:=Zmr cs off j x h3 hcj
    exact⟨u,p1,p2⟩) hag hsz h
  exact⟨u,by simpa [Instr.loadAt,Instr.sureAddr] using g1,g2⟩
 | bad=>cases h
 | sl b sz=>cases h
 | slp b sz o l=>cases h
 | nilsl sz=>cases h
 | agg cs=>cases h
 | tup cs=>cases h
 | fn f cs=>cases h
 | mp b=>cases h
theorem ZDW (pre:Pre G R w e a Hm) {n:Nat}{ag:Bool}{t:TypeId}{x:Operand}{y:Opd}{v:V} (hop:o.op = .load t x) (hx:ZY G x y=true) (hag:Zis P t=some ag) (hsz:Zg9 P t=some n)
  (h:ZdK Hm n ag (y.val e)=some v) (hp:Zas R.H [] nid [] H'):ZdH P o a w (Z7 R w nid 0 H' v):=by
 obtain⟨u,h1,h2⟩:=Zx7 pre hag hsz (pre.opd hx) h
 exact Zb5 (s:=Instr.loadAt t (a.eval x)) (by unfold execOp;rw[hop]) h1 (Z7.stay pre.ok hp h2)
def Zle (P:Program) (s:TypeId) (f:Nat):Option (Nat×TypeId):=
 match P.underlying s with
 | some (.struct fields)=>(fields[f]?).map fun x=>(x.offset,x.type)
 | _=>none
theorem Zpt {s:TypeId}{f off:Nat}{t:TypeId} (h:Zle P s f=some (off,t)):∃fields fd,P.underlying s=some (.struct fields)∧fields[f]? = some fd∧fd.offset=off∧fd.type=t:=by
 unfold Zle at h
 split at h
 ·rename_i fields hu
  cases hf:fields[f]? with
  | none=>simp[hf] at h
  | some fd=>
   simp only[hf,Option.map_some,Option.some.injEq,Prod.mk.injEq] at h
   exact⟨fields,fd,hu,hf,h.1,h.2⟩
 ·cases h
theorem ZvM {s:TypeId}{f off n:Nat}{t:TypeId}{x:Addr} (h:Zle P s f=some (off,t)) (hn:Zg9 P t=some n) (h0:n≠0) :
  (Instr.fieldAt s (.pointer (some x)) f).run P w = .ok (.pointer (some (x.add off))) w:=by
 obtain⟨fields,fd,h1,h2,rfl,rfl⟩:=Zpt h
 simp[Instr.fieldAt,run_underlying h1,h2,Instr.sureAddr,fieldPlace,ZeW hn,h0]
theorem Zvy (pre:Pre G R w e a Hm) {off:Nat}{x v:V}{u0:Value} (hx:Zbd R w x u0) (h:Zlh Hm off x=some v):∃ad,u0 = .pointer (some ad)∧Zbd R w v (.pointer (some (ad.add off))):=by
 unfold Zlh at h
 cases x<;>try (cases h;done)
 ·rename_i y
  cases y<;>try (cases h;done)
  rename_i cs
  simp only[Option.some.injEq] at h
  subst h
  obtain⟨b,of,rfl,h1,h2,h3⟩:=hx
  exact⟨_,rfl,b,of+off,by rw[Addr.add_lit],h1,h2,Zs0 cs of off h3⟩
 ·rename_i b o
  simp only[Option.some.injEq] at h
  subst h
  obtain⟨c,h1,rfl⟩:=hx
  exact⟨_,rfl,c,h1,by rw[Addr.add_lit]⟩
 ·rename_i b sz i k
  simp only[Option.some.injEq] at h
  subst h
  obtain⟨c,h1,rfl⟩:=hx
  exact⟨_,rfl,c,h1,by rw[Addr.add_lit,Nat.add_assoc]⟩
theorem ZC9 (pre:Pre G R w e a Hm) {s t:TypeId}{f off n:Nat}{x:Operand}{y:Opd}{v:V} (hop:o.op = .fieldAddr s x f) (hx:ZY G x y=true) (hf:Zle P s f=some (off,t)) (hn:Zg9 P t=some n) (h0:n≠0)
  (h:Zlh Hm off (y.val e)=some v) (hp:Zas R.H [] nid [] H'):ZdH P o a w (Z7 R w nid 0 H' v):=by
 obtain⟨ad,h1,h2⟩:=Zvy pre (pre.opd hx) h
 exact Zb5 (s:=Instr.fieldAt s (a.eval x) f) (by unfold execOp;rw[hop]) (by rw[h1];exact ZvM hf hn h0) (Z7.stay pre.ok hp h2)
theorem Zln {k:IntKind}{n:Int}{u:Value} (h:Zbd R w (.d (.int k n)) u):u = .int k n:=h
theorem ZyU {b:Bool}{u:Value} (h:Zbd R w (.d (.bool b)) u):u = .bool b:=h
theorem ZC8 {op:BinOp}{x y:V}{r:D}{u1 u2:Value} (t:TypeId) (ox oy:Operand) (hx:Zbd R w x u1) (hy:Zbd R w y u2) (h:Zqw op x y=some r) :
  ∃u,((do eqGuard op t ox oy u1 u2;binOp op t u1 u2:Sem Value)).run P w = .ok u w∧R.den w r u:=by
 unfold Zqw at h
 split at h
 ·rename_i i a1 j b1
  cases Zln hx;cases Zln hy
  unfold shI at h
  cases hb:decide (b1<0) with
  | true=>simp[hb] at h
  | false=>
   simp only[hb,cond_false,Option.some.injEq] at h
   subst h
   have hb':¬b1<0:=of_decide_eq_false hb
   refine⟨_,?_,rfl⟩
   simp[eqGuard,binOp,Op.shift,hb']
 ·rename_i i a1 j b1
  cases Zln hx;cases Zln hy
  unfold shI at h
  cases hb:decide (b1<0) with
  | true=>simp[hb] at h
  | false=>
   simp only[hb,cond_false,Option.some.injEq] at h
   subst h
   have hb':¬b1<0:=of_decide_eq_false hb
   refine⟨_,?_,rfl⟩
   simp[eqGuard,binOp,Op.shift,hb']
 ·rename_i op' i a1 j b1 hn1 hn2
  cases Zln hx;cases Zln hy
  cases hk:i==j with
  | false=>simp[hk] at h
  | true=>
   obtain rfl:i=j:=by simpa using hk
   simp only[hk,cond_true] at h
   cases op<;>simp only[ZCY,Option.some.injEq] at h
   case shl=>exact(hn1 rfl).elim
   case shr=>exact(hn2 rfl).elim
   case andNot=>cases h
   case quo=>
    cases hb:b1==0 with
    | true=>simp[hb] at h
    | false=>
     simp only[hb,cond_false,Option.some.injEq] at h
     subst h
     exact⟨_,by simp[eqGuard,binOp,Op.intDiv,show ¬b1=0 by simpa using hb],rfl⟩
   case rem=>
    cases hb:b1==0 with
    | true=>simp[hb] at h
    | false=>
     simp only[hb,cond_false,Option.some.injEq] at h
     subst h
     exact⟨_,by simp[eqGuard,binOp,Op.intDiv,show ¬b1=0 by simpa using hb],rfl⟩
   all_goals (subst h;exact⟨_,by simp[eqGuard,binOp,Op.intArith,Op.intBits,Op.intCmp],rfl⟩)
 ·cases h
theorem ZFI (pre:Pre G R w e a Hm) {op:BinOp}{t t':TypeId}{x y:Operand}{x' y':Opd}{r:D} (hop:o.op = .binOp op t x y t') (hx:ZY G x x'=true) (hy:ZY G y y'=true)
  (h:Zqw op (x'.val e) (y'.val e)=some r) (hp:Zas R.H [] nid [] H'):ZdH P o a w (Z7 R w nid 0 H' (.d r)):=by
 obtain⟨u,h1,h2⟩:=ZC8 (P:=P) t x y (pre.opd hx) (pre.opd hy) h
 exact Zb5 (s:=do eqGuard op t x y (a.eval x) (a.eval y);binOp op t (a.eval x) (a.eval y)) (by unfold execOp;rw[hop]) h1 (Z7.stay pre.ok hp h2)
theorem ZJk (pre:Pre G R w e a Hm) {op:UnOp}{t:TypeId}{x:Operand}{x':Opd}{r:D} (hop:o.op = .unOp op t x) (hx:ZY G x x'=true)
  (h:unE op (x'.val e)=some r) (hp:Zas R.H [] nid [] H'):ZdH P o a w (Z7 R w nid 0 H' (.d r)):=by
 have hv:=pre.opd hx
 unfold unE at h
 split at h
 ·rename_i b hb
  rw[hb] at hv
  simp only[Option.some.injEq] at h
  subst h
  exact Zb5 (s:=Op.unary .not (a.eval x)) (u:=.bool !b) (by unfold execOp;rw[hop]) (by rw[ZyU hv];rfl) (Z7.stay pre.ok hp rfl)
 ·rename_i k n hb
  rw[hb] at hv
  simp only[Option.some.injEq] at h
  subst h
  exact Zb5 (s:=Op.unary .neg (a.eval x)) (u:=.int k (k.wrap (0-n))) (by unfold execOp;rw[hop]) (by rw[Zln hv];rfl) (Z7.stay pre.ok hp rfl)
 ·cases h
theorem ZEu (pre:Pre G R w e a Hm) {s t:TypeId}{k k0:IntKind}{n:Int}{ds:TypeDesc}{x:Operand}{x':Opd} (hop:o.op = .convert s t x) (hx:ZY G x x'=true) (hs:P.underlying s=some ds) (ht:P.underlying t=some (.int k))
  (h:x'.val e = .d (.int k0 n)) (hp:Zas R.H [] nid [] H'):ZdH P o a w (Z7 R w nid 0 H' (.d (.int k (k.wrap n)))):=by
 have hv:=pre.opd hx
 rw[h] at hv
 refine Zb5 (s:=convert s t (a.eval x)) (u:=.int k (k.wrap n)) (by unfold execOp;rw[hop]) ?_ (Z7.stay pre.ok hp rfl)
 rw[Zln hv]
 simp[convert,run_underlying hs,run_underlying ht,Conv.intToInt]
theorem ZtR (pre:Pre G R w e a Hm) {x:Operand}{x':Opd}{i:Nat}{v:V} (hop:o.op = .extract x i) (hx:ZY G x x'=true)
  (h:(∃vs,x'.val e = .tup vs∧nth vs i=some v)∨(∃vs y,x'.val e = .d (.tup vs)∧nth vs i=some y∧v = .d y)) (hp:Zas R.H [] nid [] H'):ZdH P o a w (Z7 R w nid 0 H' v):=by
 have hv:=pre.opd hx
 rcases h with⟨vs,h1,h2⟩ | ⟨vs,y,h1,h2,rfl⟩
 ·rw[h1] at hv
  obtain⟨us,h3,h4⟩:=hv
  rw[Z4] at h2
  obtain⟨u,h5,h6⟩:=ZfZ vs us i v h4 h2
  exact Zb5 (s:=Instr.extract (a.eval x) i) (u:=u) (by unfold execOp;rw[hop]) (by rw[h3];simp[Instr.extract,h5]) (Z7.stay pre.ok hp h6)
 ·rw[h1] at hv
  obtain⟨us,h3,h4⟩:=hv
  rw[Z4] at h2
  obtain⟨u,h5,h6⟩:=ZhR vs us i y h4 h2
  exact Zb5 (s:=Instr.extract (a.eval x) i) (u:=u) (by unfold execOp;rw[hop]) (by rw[h3];simp[Instr.extract,h5]) (Z7.stay pre.ok hp h6)
theorem ZEK (pre:Pre G R w e a Hm) {f:Nat}{first caps:Array Operand}{ys:List Opd} (hop:o.op = .makeFunc (.func f) first caps) (hf:first = #[]) (hx:ZfN G caps.toList ys=true) (hp:Zas R.H [] nid [] H') :
  ZdH P o a w (Z7 R w nid 0 H' (match ys with | []=>.d (.fn f []) | ys=>.fn f (vals e ys))):=by
 subst hf
 have hv:=pre.opds hx
 refine Zb5 (s:=Instr.makeFunc (.func f) (#[].map a.eval) (caps.map a.eval)) (u:=.func (.func f) #[] (caps.toList.map a.eval).toArray) (by unfold execOp;rw[hop]) (by
  have hc:caps.map a.eval=(caps.toList.map a.eval).toArray:=by apply Array.ext';simp
  rw[hc];simp[Instr.makeFunc]) (Z7.stay pre.ok hp ?_)
 cases ys with
 | nil=>
  simp only[vals,ZaQ] at hv
  exact⟨[],by simp[hv],rfl⟩
 | cons y ys=>exact⟨_,rfl,hv⟩
end
end Go.Proofs.YtnmbdjkbaihicaaGreatDoorE
namespace Go.Proofs.YtnmbdjkbaihicaaGreatDoorE
open Go
set_option linter.unusedVariables false
set_option linter.unusedSimpArgs false
section
variable {P:Program} {G:ZbH} {R:RP} {w:World} {e:Env} {a:Act} {Hm H':Zp} {nid:Nat} {o:Oper}
theorem Zuz {n:Nat}{ag:Bool}{cs:List V}{us:List Value}{v:V}{t:TypeId}{off:Nat} (hd:ZaQ R w cs us) (hag:Zis P t=some ag) (hsz:Zg9 P t=some n) (h:Zdv n ag (cs.drop off)=some v) :
  ∃u,(part t us.toArray off).run P w = .ok u w∧Zbd R w v u:=by
 unfold Zdv at h
 cases ag with
 | false=>
  simp only[cond_false] at h
  rw[List.head?_eq_getElem?,List.getElem?_drop] at h
  obtain⟨u,h1,h2⟩:=ZfZ cs us _ v hd h
  refine⟨u,?_,h2⟩
  simp only[Nat.add_zero] at h1
  simp[part,ZhI hag,h1]
 | true=>
  simp only[cond_true] at h
  cases hl:Nat.beq ((cs.drop off).take n).length n with
  | false=>rw[hl] at h;cases h
  | true=>
   rw[hl] at h
   simp only[cond_true,Option.some.injEq] at h
   subst h
   have hl':((cs.drop off).take n).length=n:=Nat.eq_of_beq_eq_true hl
   refine⟨.agg (((us.drop off).take n).toArray),?_,Zr0 (ZkB _ _ ?_ ?_)⟩
   ·simp[part,ZhI hag,ZeW hsz,List.drop_take]
   ·have:=ZeI cs us hd
    simp only[List.length_take,List.length_drop] at hl' ⊢
    omega
   ·intro j v u hv hu
    have hj:j<n:=by have:=(List.getElem?_eq_some_iff.1 hv).1;omega
    rw[List.getElem?_take,if_pos hj,List.getElem?_drop] at hv hu
    obtain⟨u',g1,g2⟩:=ZfZ cs us _ v hd hv
    rw[hu] at g1;cases g1;exact g2
theorem Zxn (pre:Pre G R w e a Hm) {s t:TypeId}{f off n:Nat}{ag:Bool}{x:Operand}{y:Opd}{v:V} (hop:o.op = .field s x f) (hx:ZY G x y=true) (hf:Zle P s f=some (off,t)) (hag:Zis P t=some ag) (hsz:Zg9 P t=some n)
  (h:(∃cs,y.val e = .d (.agg cs)∧Zdv n ag (ZcZ (cs.drop off))=some v)∨(∃cs,y.val e = .agg cs∧Zdv n ag (cs.drop off)=some v)) (hp:Zas R.H [] nid [] H'):ZdH P o a w (Z7 R w nid 0 H' v):=by
 obtain⟨fields,fd,h1,h2,rfl,rfl⟩:=Zpt hf
 have hv:=pre.opd hx
 have key:∃us:List Value,a.eval x = .agg us.toArray∧∃u,(part fd.type us.toArray fd.offset).run P w = .ok u w∧Zbd R w v u:=by
  rcases h with⟨cs,h3,h4⟩ | ⟨cs,h3,h4⟩
  ·rw[h3] at hv
   obtain⟨us,h5,h6⟩:=hv
   refine⟨us,h5,Zuz (cs:=ZcZ cs) ((ZdF cs us).2 h6) hag hsz ?_⟩
   rw[ZkZ] at h4 ⊢
   rw[← List.map_drop];exact h4
  ·rw[h3] at hv
   obtain⟨us,h5,h6⟩:=hv
   exact⟨us,h5,Zuz h6 hag hsz h4⟩
 obtain⟨us,h5,u,h6,h7⟩:=key
 exact Zb5 (s:=Instr.field s (a.eval x) f) (by unfold execOp;rw[hop]) (by rw[h5];simp[Instr.field,run_underlying h1,h2,asAgg,h6]) (Z7.stay pre.ok hp h7)
def Ztx (P:Program) (t:TypeId):Option (Nat×TypeId):=match P.underlying t with | some (.array n e)=>some (n,e) | _=>none
theorem ZsL {t el:TypeId}{n:Nat} (h:Ztx P t=some (n,el)):P.underlying t=some (.array n el):=by
 unfold Ztx at h;split at h<;>simp_all
def Zq8 (P:Program) (t:TypeId):Option TypeId:=match P.underlying t with | some (.slice e)=>some e | _=>none
theorem Zm3 {t el:TypeId} (h:Zq8 P t=some el):P.underlying t=some (.slice el):=by
 unfold Zq8 at h;split at h<;>simp_all
theorem ZCf (pre:Pre G R w e a Hm) {t el:TypeId}{len n:Nat}{ag:Bool}{x i:Operand}{y j:Opd}{v:V} (hop:o.op = .index t x i) (hx:ZY G x y=true) (hi:ZY G i j=true) (ht:Ztx P t=some (len,el)) (hag:Zis P el=some ag) (hsz:Zg9 P el=some n)
  (h:ZoV len n ag (y.val e) (j.val e)=some v) (hp:Zas R.H [] nid [] H'):ZdH P o a w (Z7 R w nid 0 H' v):=by
 have hv:=pre.opd hx
 have hiv:=pre.opd hi
 unfold ZoV at h
 split at h
 ·rename_i k m hj
  rw[hj] at hiv
  cases hc:((y.val e).isAggV&&(decide (0≤m)&&decide (m<len))) with
  | false=>rw[hc] at h;cases h
  | true=>
   rw[hc] at h
   simp only[cond_true] at h
   simp only[Bool.and_eq_true,decide_eq_true_eq] at hc
   obtain⟨hav,hc⟩:=hc
   have hagg:(∃cs,y.val e = .d (.agg cs))∨∃cs,y.val e = .agg cs:=by
    unfold V.isAggV at hav
    split at hav
    ·rename_i cs hv';exact .inl ⟨cs,hv'⟩
    ·rename_i cs hv';exact .inr ⟨cs,hv'⟩
    ·cases hav
   have hb:(y.val e).okb=true:=by rcases hagg with⟨cs,h3⟩ | ⟨cs,h3⟩<;>rw[h3]<;>rfl
   have hcs:=ZhS hv hb
   have hag':∃us,a.eval x = .agg us:=by
    rcases hagg with⟨cs,h3⟩ | ⟨cs,h3⟩<;>(rw[h3] at hv;obtain⟨us,h5,_⟩:=hv;exact⟨_,h5⟩)
   obtain⟨us,hus⟩:=hag'
   rw[hus] at hcs
   obtain⟨u,h1,h2⟩:=Zuz (P:=P) hcs hag hsz h
   refine Zb5 (s:=Instr.index t (a.eval x) (a.eval i)) (u:=u) (by unfold execOp;rw[hop]) ?_ (Z7.stay pre.ok hp h2)
   rw[hus,Zln hiv]
   simp only[Value.cells,Array.toArray_toList] at h1
   simp[Instr.index,asIntOf,run_underlying (ZsL ht),hc,ZeW hsz,h1]
 ·cases h
theorem ZB1 (pre:Pre G R w e a Hm) {t:TypeId}{x i:Operand}{y j:Opd}{v:V} (hop:o.op = .index t x i) (hx:ZY G x y=true) (hi:ZY G i j=true) (ht:P.underlying t=some .string)
  (h:Zlk (y.val e) (j.val e)=some v) (hp:Zas R.H [] nid [] H'):ZdH P o a w (Z7 R w nid 0 H' v):=by
 have hv:=pre.opd hx
 have hiv:=pre.opd hi
 unfold Zlk at h
 split at h
 ·rename_i s k m hy hj
  rw[hj] at hiv
  rw[hy] at hv
  cases hc:decide (0≤m) with
  | false=>rw[hc] at h;cases h
  | true=>
   rw[hc] at h
   simp only[cond_true] at h
   have h0:0≤m:=of_decide_eq_true hc
   cases hs:s[m.toNat]? with
   | none=>rw[hs] at h;cases h
   | some b=>
    rw[hs] at h
    simp only[Option.some.injEq] at h
    subst h
    refine Zb5 (s:=Instr.index t (a.eval x) (a.eval i)) (u:=.int .u8 b.toNat) (by unfold execOp;rw[hop]) ?_ (Z7.stay pre.ok hp rfl)
    rw[Zln hiv,show a.eval x = .string s from hv]
    simp[Instr.index,asIntOf,run_underlying ht,h0,hs]
 ·cases h
theorem ZfJ {m:Option Nat}{xs:List D}{sz of len:Nat}{u:Value} (h:Zuf w m xs sz of len u) (h0:0<len∨of<xs.length) :
  ∃c cs el fr cap,m=some c∧u = .slice (some ⟨c,of*sz,none⟩) len cap∧len≤cap∧w.heap[c]? = some (.cells cs el fr)∧cs.size=(of+cap)*sz:=by
 obtain⟨h1,ad,cap,rfl,h3,h4⟩:=h
 rcases h4 with⟨rfl,h4⟩ | ⟨c,cs,el,fr,rfl,rfl,h6,h7⟩
 ·exfalso;omega
 ·exact⟨c,cs,el,fr,cap,rfl,rfl,h3,h6,h7⟩
theorem Zvj {t el:TypeId}{n:Nat}{ad:Addr}{len cap:Nat}{k:IntKind}{i:Int} (ht:Zq8 P t=some el) (hsz:Zg9 P el=some n) (h0:0≤i) (h1:i<len) :
  (Instr.indexAt t (.slice (some ad) len cap) (.int k i)).run P w = .ok (.pointer (some (ad.add (i.toNat*n)))) w:=by
 simp[Instr.indexAt,asIntOf,run_underlying (Zm3 ht),ZeW hsz,h0,h1]
theorem ZB6 {A1 A0 AL:Nat→Prop}{b off:Nat}{x:D}{u:Value} (hu:Zbi A1 A0 AL w x u) (hb:(V.d x).okb=true) (hc:∀(k:Nat) v,u.cells[k]? = some v→w.cell? ⟨b,off+k,none⟩=some v) :
  u.cells.size=x.cells.length∧ZcV A1 A0 AL w b off x.cells:=by
 have one:∀{x:D} {u:Value},Zbi A1 A0 AL w x u→u.cells = #[u]→x.cells=[x]→(∀(k:Nat) v,u.cells[k]? = some v→w.cell? ⟨b,off+k,none⟩=some v)→u.cells.size=x.cells.length∧ZcV A1 A0 AL w b off x.cells:=by
  intro x u h1 h2 h3 h4
  have h5:=h4 0 u (by rw[h2];rfl)
  rw[h2,h3]
  exact⟨rfl,⟨u,by simpa using h5,h1⟩,trivial⟩
 cases x with
 | agg cs=>
  obtain⟨us,rfl,h⟩:=hu
  refine⟨by simpa [Value.cells,D.cells] using Zs1 cs us h,Zih _ _ fun j y hj=>?_⟩
  obtain⟨u,h1,h2⟩:=ZhR cs us j y h hj
  exact⟨u,hc j u (by simpa [Value.cells] using h1),h2⟩
 | tup cs=>simp[V.okb] at hb
 | bool b=>cases hu;exact one (x:=.bool b) rfl rfl rfl hc
 | int k n=>cases hu;exact one (x:=.int k n) rfl rfl rfl hc
 | str s=>cases hu;exact one (x:=.str s) rfl rfl rfl hc
 | nilfn=>cases hu;exact one (x:=.nilfn) rfl rfl rfl hc
 | nilp=>cases hu;exact one (x:=.nilp) rfl rfl rfl hc
 | nilI=>cases hu;exact one (x:=.nilI) rfl rfl rfl hc
 | list own xs=>
  have hu':=hu
  obtain⟨ad,len,cap,rfl,_⟩:=hu'
  exact one hu rfl rfl hc
 | fn f caps=>
  have hu':=hu
  obtain⟨us,rfl,_⟩:=hu'
  exact one hu rfl rfl hc
 | rptr cs=>
  have hu':=hu
  obtain⟨b',off',rfl,_⟩:=hu'
  exact one hu rfl rfl hc
 | iface t v=>
  have hu':=hu
  obtain⟨u',rfl,_⟩:=hu'
  exact one hu rfl rfl hc
theorem Zor (pre:Pre G R w e a Hm) {b sz:Nat}{xs:List D}{u:Value} (hb:nth Hm b=some (.arr sz xs)) (h:Zbd R w (.sl b sz) u) :
  ∃m,R.M b=some m∧nth R.H b=some (.arr sz xs)∧Zig R w m (.arr sz xs)∧Zuf w m xs sz 0 xs.length u:=by
 have hb':=pre.le b _ hb (by simp)
 obtain⟨_,m,h1,h2⟩:=h
 exact⟨m,h1,hb',pre.ok.blk b _ _ (by rw[← Z4];exact hb') h1,h2 xs hb'⟩
theorem Zlq (pre:Pre G R w e a Hm) {b sz o len:Nat}{xs:List D}{u:Value} (hb:nth Hm b=some (.arr sz xs)) (h:Zbd R w (.slp b sz o len) u) :
  ∃m,R.M b=some m∧nth R.H b=some (.arr sz xs)∧Zig R w m (.arr sz xs)∧Zuf w m xs sz o len u:=by
 have hb':=pre.le b _ hb (by simp)
 obtain⟨_,m,h1,h2⟩:=h
 exact⟨m,h1,hb',pre.ok.blk b _ _ (by rw[← Z4];exact hb') h1,h2 xs hb'⟩
theorem ZCp (pre:Pre G R w e a Hm) {t el:TypeId}{n:Nat}{x i:Operand}{y j:Opd}{v:V} (hop:o.op = .indexAddr t x i) (hx:ZY G x y=true) (hi:ZY G i j=true) (ht:Zq8 P t=some el) (hsz:Zg9 P el=some n)
  (h:ZiS Hm n (y.val e) (j.val e)=some v) (hp:Zas R.H [] nid [] H'):ZdH P o a w (Z7 R w nid 0 H' v):=by
 have hv:=pre.opd hx
 have hiv:=pre.opd hi
 unfold ZiS at h
 have fin:∀{k:IntKind} {m:Int} {ad:Addr} {len cap:Nat} ,a.eval i = .int k m→a.eval x = .slice (some ad) len cap→0≤m→m<len→Zbd R w v (.pointer (some (ad.add (m.toNat*n))))→ZdH P o a w (Z7 R w nid 0 H' v):=
  fun h1 h2 h3 h4 h5=>Zb5 (s:=Instr.indexAt t (a.eval x) (a.eval i)) (by unfold execOp;rw[hop]) (by rw[h1,h2];exact Zvj ht hsz h3 h4) (Z7.stay pre.ok hp h5)
 split at h
 ·rename_i k m hj
  rw[hj] at hiv
  split at h
  ·rename_i own xs hy
   rw[hy] at hv
   cases hg:ZA xs m with
   | none=>rw[hg] at h;cases h
   | some z=>
    rw[hg] at h
    dsimp only at h
    cases hc:(Nat.beq z.cells.length n&&(V.d z).okb) with
    | false=>rw[hc] at h;cases h
    | true=>
     rw[hc] at h
     simp only[cond_true,Option.some.injEq] at h
     subst h
     simp only[Bool.and_eq_true] at hc
     obtain⟨h0,h1,h2⟩:=Zrb xs m z hg
     obtain⟨ad,len,cap,e1,rfl,e3,e4,e5⟩:=hv
     obtain⟨b,off,sz,rfl,f2,f3,f4⟩:=e5 (by intro hn;rw[hn] at h2;simp at h2)
     obtain⟨u,g1,g2,g3⟩:=Zkj xs off m.toNat z f4 h2
     obtain⟨q1,q2⟩:=ZB6 (b:=b) (off:=off+m.toNat*sz) g1 hc.2 g3
     have hn:sz=n:=by rw[← g2,q1];exact Nat.eq_of_beq_eq_true hc.1
     subst hn
     refine fin (Zln hiv) e1 h0 h1 ⟨b,off+m.toNat*sz,by rw[Addr.add_lit],?_,f3,q2⟩
     cases own
     ·exact f2
     ·exact⟨f2.1,fun hb=>f2.2 (pre.ok.b01 _ hb)⟩
  ·rename_i b sz' hy
   rw[hy] at hv
   cases hb:nth Hm b with
   | none=>rw[hb] at h;cases h
   | some blk=>
    rw[hb] at h
    cases blk<;>try (cases h;done)
    rename_i sz'' xs
    dsimp only at h
    cases hs:(Nat.beq n sz'&&Nat.beq n sz'') with
    | false=>rw[hs] at h;cases h
    | true=>
     rw[hs] at h
     simp only[Bool.and_eq_true] at hs
     obtain rfl:=Nat.eq_of_beq_eq_true hs.1
     obtain rfl:=Nat.eq_of_beq_eq_true hs.2
     simp only[cond_true] at h
     cases hg:ZA xs m with
     | none=>rw[hg] at h;cases h
     | some z=>
      rw[hg] at h
      simp only[Option.some.injEq] at h
      subst h
      obtain⟨h0,h1,h2⟩:=Zrb xs m z hg
      obtain⟨mm,q1,q2,q3,q4⟩:=Zor pre hb hv
      obtain⟨c,cs,el',fr,cap,rfl,e1,e2,e3,e4⟩:=ZfJ q4 (.inr (by omega))
      refine fin (Zln hiv) e1 h0 h1 ⟨c,q1,?_⟩
      rw[Addr.add_lit,Nat.zero_mul,Nat.zero_add];rfl
  ·rename_i b sz' of ln hy
   rw[hy] at hv
   cases hb:nth Hm b with
   | none=>rw[hb] at h;cases h
   | some blk=>
    rw[hb] at h
    cases blk<;>try (cases h;done)
    rename_i sz'' xs
    dsimp only at h
    cases hs:(Nat.beq n sz'&&Nat.beq n sz'') with
    | false=>rw[hs] at h;cases h
    | true=>
     rw[hs] at h
     simp only[Bool.and_eq_true] at hs
     obtain rfl:=Nat.eq_of_beq_eq_true hs.1
     obtain rfl:=Nat.eq_of_beq_eq_true hs.2
     simp only[cond_true] at h
     cases hg:ZA ((xs.drop of).take ln) m with
     | none=>rw[hg] at h;cases h
     | some z=>
      rw[hg] at h
      simp only[Option.some.injEq] at h
      subst h
      obtain⟨h0,h1,h2⟩:=Zrb _ m z hg
      simp only[List.length_take,List.length_drop] at h1
      obtain⟨mm,q1,q2,q3,q4⟩:=Zlq pre hb hv
      obtain⟨c,cs,el',fr,cap,rfl,e1,e2,e3,e4⟩:=ZfJ q4 (.inr (by omega))
      refine fin (Zln hiv) e1 h0 (by omega) ⟨c,q1,?_⟩
      rw[Addr.add_lit,Nat.add_mul];rfl
  ·cases h
 ·cases h
end
end Go.Proofs.YtnmbdjkbaihicaaGreatDoorE
namespace Go.Proofs.YtnmbdjkbaihicaaGreatDoorE
open Go
set_option linter.unusedVariables false
set_option linter.unusedSimpArgs false
section
variable {P:Program} {G:ZbH} {R:RP} {w:World} {e:Env} {a:Act} {Hm H':Zp} {nid:Nat} {o:Oper}
theorem ZzB (pre:Pre G R w e a Hm) {t el:TypeId}{n len:Nat}{x i:Operand}{y j:Opd}{v:V} (hop:o.op = .indexAddr t x i) (hx:ZY G x y=true) (hi:ZY G i j=true) (ht:Ztx P t=some (len,el)) (hsz:Zg9 P el=some n)
  (h:Zhb Hm len n (y.val e) (j.val e)=some v) (hp:Zas R.H [] nid [] H'):ZdH P o a w (Z7 R w nid 0 H' v):=by
 have hv:=pre.opd hx
 have hiv:=pre.opd hi
 unfold Zhb at h
 split at h
 ·rename_i k m hj
  rw[hj] at hiv
  cases hc:(decide (0≤m)&&decide (m<len)) with
  | false=>rw[hc] at h;cases h
  | true=>
   rw[hc] at h
   simp only[cond_true] at h
   simp only[Bool.and_eq_true,decide_eq_true_eq] at hc
   obtain⟨ad,h1,h2⟩:=Zvy pre hv h
   refine Zb5 (s:=Instr.indexAt t (a.eval x) (a.eval i)) (by unfold execOp;rw[hop]) ?_ (Z7.stay pre.ok hp h2)
   rw[h1,Zln hiv]
   simp[Instr.indexAt,asIntOf,Instr.sureAddr,run_underlying (ZsL ht),ZeW hsz,hc]
 ·cases h
theorem Zxf (pre:Pre G R w e a Hm) {x:V}{xs:List D}{u:Value} (hx:Zbd R w x u) (h:elems Hm x=some xs) (hl:0<xs.length):∃ad cap,u = .slice (some ad) xs.length cap:=by
 unfold elems at h
 split at h
 ·rename_i own xs'
  simp only[Option.some.injEq] at h
  subst h
  obtain⟨ad,len,cap,rfl,rfl,e3,e4,e5⟩:=hx
  obtain⟨b,off,sz,rfl,_⟩:=e5 (by intro hn;rw[hn] at hl;simp at hl)
  exact⟨_,cap,rfl⟩
 ·rename_i b sz
  cases hb:nth Hm b with
  | none=>rw[hb] at h;cases h
  | some blk=>
   rw[hb] at h
   cases blk<;>try (cases h;done)
   rename_i sz' xs'
   dsimp only at h
   cases hs:Nat.beq sz sz' with
   | false=>rw[hs] at h;cases h
   | true=>
    rw[hs] at h
    simp only[cond_true,Option.some.injEq] at h
    subst h
    obtain rfl:=Nat.eq_of_beq_eq_true hs
    obtain⟨m,q1,q2,q3,q4⟩:=Zor pre hb hx
    obtain⟨c,cs,el,fr,cap,rfl,rfl,_⟩:=ZfJ q4 (.inl hl)
    exact⟨_,cap,rfl⟩
 ·rename_i b sz of len
  cases hb:nth Hm b with
  | none=>rw[hb] at h;cases h
  | some blk=>
   rw[hb] at h
   cases blk<;>try (cases h;done)
   rename_i sz' xs'
   dsimp only at h
   cases hs:Nat.beq sz sz' with
   | false=>rw[hs] at h;cases h
   | true=>
    rw[hs] at h
    simp only[cond_true,Option.some.injEq] at h
    subst h
    obtain rfl:=Nat.eq_of_beq_eq_true hs
    obtain⟨m,q1,q2,q3,q4⟩:=Zlq pre hb hx
    have hlen:((xs'.drop of).take len).length=len:=by
     have:=q4.1
     simp only[List.length_take,List.length_drop];omega
    rw[hlen] at hl ⊢
    obtain⟨c,cs,el,fr,cap,rfl,rfl,_⟩:=ZfJ q4 (.inl hl)
    exact⟨_,cap,rfl⟩
 ·simp only[Option.some.injEq] at h
  subst h
  simp at hl
 ·cases h
theorem ZtT (pre:Pre G R w e a Hm) {x:V}{xs:List D}{u:Value} (hx:Zbd R w x u) (h:elems Hm x=some xs):∃ad cap,u = .slice ad xs.length cap∧xs.length≤cap:=by
 unfold elems at h
 split at h
 ·rename_i own xs'
  simp only[Option.some.injEq] at h
  subst h
  obtain⟨ad,len,cap,rfl,rfl,e3,_⟩:=hx
  exact⟨ad,cap,rfl,e3⟩
 ·rename_i b sz
  cases hb:nth Hm b with
  | none=>rw[hb] at h;cases h
  | some blk=>
   rw[hb] at h
   cases blk<;>try (cases h;done)
   rename_i sz' xs'
   dsimp only at h
   cases hs:Nat.beq sz sz' with
   | false=>rw[hs] at h;cases h
   | true=>
    rw[hs] at h
    simp only[cond_true,Option.some.injEq] at h
    subst h
    obtain rfl:=Nat.eq_of_beq_eq_true hs
    obtain⟨m,q1,q2,q3,q4,ad,cap,rfl,q5,_⟩:=Zor pre hb hx
    exact⟨ad,cap,rfl,q5⟩
 ·rename_i b sz of len
  cases hb:nth Hm b with
  | none=>rw[hb] at h;cases h
  | some blk=>
   rw[hb] at h
   cases blk<;>try (cases h;done)
   rename_i sz' xs'
   dsimp only at h
   cases hs:Nat.beq sz sz' with
   | false=>rw[hs] at h;cases h
   | true=>
    rw[hs] at h
    simp only[cond_true,Option.some.injEq] at h
    subst h
    obtain rfl:=Nat.eq_of_beq_eq_true hs
    obtain⟨m,q1,q2,q3,q4,ad,cap,rfl,q5,_⟩:=Zlq pre hb hx
    have:((xs'.drop of).take len).length=len:=by simp only[List.length_take,List.length_drop];omega
    rw[this]
    exact⟨ad,cap,rfl,q5⟩
 ·simp only[Option.some.injEq] at h
  subst h
  obtain⟨ad,rfl⟩:=hx
  exact⟨ad,0,rfl,Nat.le_refl _⟩
 ·cases h
theorem Zhj {b:Builtin}{xs:Array Operand}{ats:Array TypeId} (hop:o.op = .call { callee:=.builtin b,args:=xs,argTypes:=ats }) :
  execOp a.eval o=builtin b ats o.type (xs.map fun | .const _=>true | _=>false) (xs.map a.eval):=by
 obtain⟨dst,op,ty,pos,after,guard⟩:=o
 simp only at hop
 subst hop
 rfl
theorem ZGP (pre:Pre G R w e a Hm) {t el:TypeId}{x:Operand}{y:Opd}{r:D} (hop:o.op = .call { callee:=.builtin .len,args:=#[x],argTypes:=#[t] }) (hx:ZY G x y=true) (ht:Zq8 P t=some el)
  (h:Zur Hm (y.val e)=some r) (hp:Zas R.H [] nid [] H'):ZdH P o a w (Z7 R w nid 0 H' (.d r)):=by
 have hv:=pre.opd hx
 unfold Zur at h
 cases hes:elems Hm (y.val e) with
 | none=>rw[hes] at h;cases h
 | some xs=>
  rw[hes] at h
  simp only[Option.some.injEq] at h
  subst h
  obtain⟨ad,cap,h1,_⟩:=ZtT pre hv hes
  refine Zb5 (s:=Builtin.len_ #[t] o.type #[a.eval x]) (u:=.int .i64 xs.length) (by rw[Zhj hop,BigFrame.builtin_len];simp) ?_ (Z7.stay pre.ok hp rfl)
  rw[h1]
  simp[Builtin.len_,run_underlying (Zm3 ht),goInt]
def Zxm (x:Option Value) (d l:Nat):Prop:=(x=none∧l=d)∨∃k,x=some (.int k (l:Int))
theorem ZFf {t el:TypeId}{sz:Nat}{ad:Option Addr}{len cap l h:Nat}{lo hi:Option Value} (ht:Zq8 P t=some el) (hsz:Zg9 P el=some sz) (h1:Zxm lo 0 l) (h2:Zxm hi len h) (h3:l≤h) (h4:h≤cap) (h5:len≤cap) :
  (Instr.sliceAt t (.slice ad len cap) lo hi none).run P w = .ok (.slice (if cap=l then ad else ad.map (·.add (l*sz))) (h-l) (cap-l)) w:=by
 have ht':=Zm3 ht
 rcases h1 with⟨rfl,rfl⟩ | ⟨k1,rfl⟩<;>rcases h2 with⟨rfl,rfl⟩ | ⟨k2,rfl⟩<;>
  simp[Instr.sliceAt,Instr.slice,run_underlying ht',Instr.sliceBounds,Instr.sliceBound,asIntOf,ZeW hsz, *]
theorem ZCH {t el:TypeId}{sz:Nat}{ad:Option Addr}{len cap l h m:Nat}{lo hi mx:Option Value} (ht:Zq8 P t=some el) (hsz:Zg9 P el=some sz) (h1:Zxm lo 0 l) (h2:∃k,hi=some (.int k (h:Int))) (h6:∃k,mx=some (.int k (m:Int))) (h3:l≤h) (h4:h≤m) (h5:m≤cap) :
  (Instr.sliceAt t (.slice ad len cap) lo hi mx).run P w = .ok (.slice (if m=l then ad else ad.map (·.add (l*sz))) (h-l) (m-l)) w:=by
 have ht':=Zm3 ht
 obtain⟨k2,rfl⟩:=h2
 obtain⟨k3,rfl⟩:=h6
 rcases h1 with⟨rfl,rfl⟩ | ⟨k1,rfl⟩<;>
  simp[Instr.sliceAt,Instr.slice,run_underlying ht',Instr.sliceBounds,Instr.sliceBound,asIntOf,ZeW hsz, *]
def ZoK (G:ZbH):Option Operand→Option Opd→Bool
 | none,none=>true
 | some x,some y=>ZY G x y
 | _,_=>false
theorem Zwq (pre:Pre G R w e a Hm) {x:Option Operand}{y:Option Opd}{d l:Nat} (hx:ZoK G x y=true) (h:Ziq (y.map (·.val e)) d=some l):Zxm (x.map a.eval) d l:=by
 cases x with
 | none=>
  cases y with
  | some y=>cases hx
  | none=>simp[Ziq] at h;exact .inl ⟨rfl,h.symm⟩
 | some x=>
  cases y with
  | none=>cases hx
  | some y=>
   have hv:=pre.opd (x:=x) (y:=y) hx
   simp only[Option.map_some] at h
   unfold Ziq at h
   split at h
   ·cases ‹some _=none›
   ·rename_i k n hy
    simp only[Option.some.injEq] at hy
    rw[hy] at hv
    cases h0:decide (0≤n) with
    | false=>rw[h0] at h;cases h
    | true=>
     rw[h0] at h
     simp only[cond_true,Option.some.injEq] at h
     have h0':0≤n:=of_decide_eq_true h0
     refine .inr ⟨k,?_⟩
     simp only[Option.map_some]
     rw[Zln hv,← h,Int.toNat_of_nonneg h0']
   ·cases h
theorem ZCP (pre:Pre G R w e a Hm) {t el:TypeId}{n:Nat}{x:Operand}{y:Opd}{lo hi mx:Option Operand}{lo' hi' mx':Option Opd}{v:V} (hop:o.op = .slice t x lo hi mx) (hx:ZY G x y=true)
  (hlo:ZoK G lo lo'=true) (hhi:ZoK G hi hi'=true) (hmx:ZoK G mx mx'=true) (hh:mx'.isSome=true→hi'.isSome=true) (ht:Zq8 P t=some el) (hsz:Zg9 P el=some n)
  (h:Zjx Hm n (y.val e) (lo'.map (·.val e)) (hi'.map (·.val e)) (mx'.map (·.val e))=some v) (hp:Zas R.H [] nid [] H'):ZdH P o a w (Z7 R w nid 0 H' v):=by
 have hv:=pre.opd hx
 unfold Zjx at h
 cases hes:elems Hm (y.val e) with
 | none=>rw[hes] at h;cases h
 | some xs=>
  rw[hes] at h
  dsimp only at h
  cases hl:Ziq (lo'.map (·.val e)) 0 with
  | none=>rw[hl] at h;cases h
  | some l=>
   rw[hl] at h
   cases hhn:Ziq (hi'.map (·.val e)) xs.length with
   | none=>rw[hhn] at h;cases h
   | some hn=>
    rw[hhn] at h
    dsimp only at h
    cases hc:(Nat.ble l hn&&Nat.ble hn xs.length) with
    | false=>rw[hc] at h;cases h
    | true=>
     rw[hc] at h
     simp only[cond_true] at h
     simp only[Bool.and_eq_true,Nat.ble_eq] at hc
     obtain⟨c1,c2⟩:=hc
     obtain⟨ad,cap,q1,q2⟩:=ZtT pre hv hes
     have b1:=Zwq pre hlo hl
     have b2:=Zwq pre hhi hhn
     have fin:Zbd R w v (.slice (if cap=l then ad else ad.map (·.add (l*n))) (hn-l) (cap-l))→mx=none→ZdH P o a w (Z7 R w nid 0 H' v):=fun h5 hm=>
      Zb5 (s:=Instr.sliceAt t (a.eval x) (lo.map a.eval) (hi.map a.eval) (mx.map a.eval)) (by unfold execOp;rw[hop]) (by rw[q1,hm];exact ZFf ht hsz b1 b2 c1 (by omega) q2) (Z7.stay pre.ok hp h5)
     cases mx' with
     | none=>
      have hm:mx=none:=by cases mx with | none=>rfl | some m=>cases hmx
      simp only[Option.map_none] at h
      refine fin ?_ hm
      rw[q1] at hv
      cases hy:y.val e<;>rw[hy] at h hv hes<;>try (cases h;done)
      ·rename_i z
       cases z<;>try (cases h;done)
       rename_i own xs'
       simp only[elems,Option.some.injEq] at hes
       subst hes
       dsimp only at h
       cases hg:(Nat.beq l 0 || Zme n xs' l) with
       | false=>rw[hg] at h;cases h
       | true=>
        rw[hg] at h
        simp only[cond_true,Option.some.injEq] at h
        subst h
        obtain⟨ad',len',cap',e1,e2,e3,e4,e5⟩:=hv
        cases e1
        have hlen:((xs'.drop l).take (hn-l)).length=hn-l:=by simp only[List.length_take,List.length_drop];omega
        refine⟨_,_,_,rfl,hlen.symm,by omega,fun z hz=>e4 z (List.mem_of_mem_drop (List.mem_of_mem_take hz)),fun hne=>?_⟩
        have hlt:l<hn:=by
         rcases Nat.lt_or_ge l hn with h | h
         ·exact h
         ·exact absurd (List.eq_nil_of_length_eq_zero (by omega)) hne
        obtain⟨b,off,sz,rfl,f2,f3,f4⟩:=e5 (by intro hn';rw[hn'] at c2;simp at c2;omega)
        have hcl:cap≠l:=by omega
        have hsame:l*n=l*sz:=by
         simp only[Bool.or_eq_true] at hg
         rcases hg with hg | hg
         ·rw[Nat.eq_of_beq_eq_true hg,Nat.zero_mul,Nat.zero_mul]
         ·have hll:l<xs'.length:=by omega
          unfold Zme at hg
          rw[Z4,List.getElem?_eq_getElem hll] at hg
          simp only[Bool.and_eq_true] at hg
          obtain⟨u,g1,g2,g3⟩:=Zkj xs' off l _ f4 (List.getElem?_eq_getElem hll)
          have:=ZhS (R:=R) (v:=.d xs'[l]) g1 hg.2
          have h6:=ZeI _ _ this
          have hVc:(V.d xs'[l]).cells=ZcZ xs'[l].cells:=by cases xs'[l]<;>rfl
          rw[hVc,ZkZ,List.length_map,Nat.eq_of_beq_eq_true hg.1] at h6
          rw[← g2];simp at h6;rw[h6]
        refine⟨b,off+l*sz,sz,by rw[if_neg hcl,hsame];simp[Addr.add_lit],f2,f3,ZkH _ _ fun j z hz=>?_⟩
        have hj:j<hn-l:=by have:=(List.getElem?_eq_some_iff.1 hz).1;omega
        rw[List.getElem?_take,if_pos hj,List.getElem?_drop] at hz
        obtain⟨u,g1,g2,g3⟩:=Zkj xs' off (l+j) z f4 hz
        exact⟨u,g1,g2,fun k v hk=>by rw[← g3 k v hk,Nat.add_mul];congr 2;omega⟩
      ·rename_i b sz'
       dsimp only at h
       cases hg:Nat.beq n sz' with
       | false=>rw[hg] at h;cases h
       | true=>
        rw[hg] at h
        simp only[cond_true,Option.some.injEq] at h
        obtain rfl:=Nat.eq_of_beq_eq_true hg
        subst h
        simp only[elems] at hes
        cases hb:nth Hm b with
        | none=>rw[hb] at hes;cases hes
        | some blk=>
         rw[hb] at hes
         cases blk<;>try (cases hes;done)
         rename_i sz'' xs'
         dsimp only at hes
         cases hs:Nat.beq n sz'' with
         | false=>rw[hs] at hes;cases hes
         | true=>
          rw[hs] at hes
          simp only[cond_true,Option.some.injEq] at hes
          obtain rfl:=Nat.eq_of_beq_eq_true hs
          subst hes
          obtain⟨m,r1,r2,r3,r4⟩:=Zor pre hb hv
          refine⟨⟨_,_,_,rfl⟩,m,r1,fun ys hys=>?_⟩
          rw[r2] at hys;cases hys
          obtain⟨_,ad',cap',s1,s2,s3⟩:=r4
          cases s1
          refine⟨by omega,_,_,rfl,by omega,?_⟩
          rcases s3 with⟨s3,s4⟩ | ⟨c,cs,el',fr,s4,s5,s6,s7⟩
          ·exact .inl ⟨by omega,by omega⟩
          ·by_cases hcl:cap=l
           ·exact .inl ⟨by omega,by omega⟩
           ·refine .inr ⟨c,cs,el',fr,s4,?_,s6,?_⟩
            ·rw[if_neg hcl,s5];simp[Addr.add_lit]
            ·rw[s7];congr 1;omega
      ·rename_i b sz' of len
       dsimp only at h
       cases hg:Nat.beq n sz' with
       | false=>rw[hg] at h;cases h
       | true=>
        rw[hg] at h
        simp only[cond_true,Option.some.injEq] at h
        obtain rfl:=Nat.eq_of_beq_eq_true hg
        subst h
        simp only[elems] at hes
        cases hb:nth Hm b with
        | none=>rw[hb] at hes;cases hes
        | some blk=>
         rw[hb] at hes
         cases blk<;>try (cases hes;done)
         rename_i sz'' xs'
         dsimp only at hes
         cases hs:Nat.beq n sz'' with
         | false=>rw[hs] at hes;cases hes
         | true=>
          rw[hs] at hes
          simp only[cond_true,Option.some.injEq] at hes
          obtain rfl:=Nat.eq_of_beq_eq_true hs
          subst hes
          obtain⟨m,r1,r2,r3,r4⟩:=Zlq pre hb hv
          simp only[List.length_take,List.length_drop] at c2 r4 q2
          refine⟨⟨_,_,_,rfl⟩,m,r1,fun ys hys=>?_⟩
          rw[r2] at hys;cases hys
          obtain⟨s0,ad',cap',s1,s2,s3⟩:=r4
          simp only[Value.slice.injEq] at s1
          obtain⟨rfl,_,rfl⟩:=s1
          refine⟨by omega,_,_,rfl,by omega,?_⟩
          rcases s3 with⟨s3,s4⟩ | ⟨c,cs,el',fr,s4,s5,s6,s7⟩
          ·exact .inl ⟨by omega,by omega⟩
          ·obtain⟨t0,_,t1⟩:=r3
           by_cases hcl:cap=l
           ·refine .inl ⟨by omega,?_⟩
            rcases t1 with⟨t1,t2⟩ | ⟨c',cs',el'',t1,t2,t3,_⟩
            ·rw[t1] at s4;cases s4
            ·rw[t1] at s4;cases s4
             rw[t2] at s6;cases s6
             rw[s7] at t3
             have:=Nat.le_of_mul_le_mul_right t3 t0
             omega
           ·refine .inr ⟨c,cs,el',fr,s4,?_,s6,?_⟩
            ·rw[if_neg hcl,s5];simp[Addr.add_lit,Nat.add_mul]
            ·rw[s7];congr 1;omega
      ·rename_i sz'
       simp only[Option.some.injEq] at h
       subst h
       simp only[elems,Option.some.injEq] at hes
       subst hes
       obtain⟨ad',hv⟩:=hv
       cases hv
       simp only[List.length_nil] at c2
       obtain rfl:l=0:=by omega
       obtain rfl:hn=0:=by omega
       exact⟨_,rfl⟩
     | some m'=>
      cases mx with
      | none=>cases hmx
      | some m=>
       cases hhs:hi' with
       | none=>rw[hhs] at hh;cases hh rfl
       | some hi1=>
        dsimp only[Option.map_some] at h
        cases hm:Ziq (some (m'.val e)) 0 with
        | none=>rw[hm] at h;cases h
        | some mm=>
         rw[hm] at h
         dsimp only at h
         cases hg:(Nat.beq mm l&&Nat.beq mm hn) with
         | false=>rw[hg] at h;cases h
         | true=>
          rw[hg] at h
          simp only[cond_true,Option.some.injEq] at h
          subst h
          simp only[Bool.and_eq_true] at hg
          obtain rfl:=Nat.eq_of_beq_eq_true hg.1
          obtain rfl:=Nat.eq_of_beq_eq_true hg.2
          have b3:=Zwq pre (x:=some m) (y:=some m') hmx (by simpa using hm)
          refine Zb5 (s:=Instr.sliceAt t (a.eval x) (lo.map a.eval) (hi.map a.eval) ((some m).map a.eval)) (by unfold execOp;rw[hop]) (by
           rw[q1]
           refine ZCH ht hsz b1 ?_ ?_ c1 (Nat.le_refl _) (by omega)
           ·rcases b2 with⟨b2,_⟩ | b2
            ·exfalso
             cases hi with
             | none=>rw[hhs] at hhi;cases hhi
             | some hi0=>cases b2
            ·exact b2
           ·rcases b3 with⟨b3,_⟩ | b3
            ·cases b3
            ·exact b3) (Z7.stay pre.ok hp ?_)
          exact⟨_,by rw[Nat.sub_self]⟩
end
end Go.Proofs.YtnmbdjkbaihicaaGreatDoorE
namespace Go.Proofs.YtnmbdjkbaihicaaGreatDoorE
open Go
set_option linter.unusedVariables false
set_option linter.unusedSimpArgs false
section
variable {P:Program} {G:ZbH} {R:RP} {w:World} {e:Env} {a:Act} {Hm H':Zp} {nid:Nat} {o:Oper}
theorem ZzI:∀(vs:List V) (us:List Value) (k:IntKind) (n:Int) (r:D),ZaQ R w vs us→mxE.go true k n vs=some r→∃u,(us.foldlM Builtin.max2 (.int k n)).run P w = .ok u w∧R.den w r u
 | [],us,k,n,r,hd,h=>by
  simp only[mxE.go,Option.some.injEq] at h
  simp only[ZaQ] at hd
  subst h;subst hd
  exact⟨.int k n,rfl,rfl⟩
 | v :: vs,us,k,n,r,hd,h=>by
  obtain⟨u,us',rfl,h1,h2⟩:=hd
  cases v<;>try (cases h;done)
  rename_i x
  cases x<;>try (cases h;done)
  rename_i k' m
  simp only[mxE.go,cond_true] at h
  obtain⟨u,h3,h4⟩:=ZzI vs us' k _ r h2 h
  refine⟨u,?_,h4⟩
  cases h1
  rw[List.foldlM_cons,Sem.run_bind,← h3]
  by_cases hlt:n<m
  ·simp[Builtin.max2,hlt]
  ·simp[Builtin.max2,hlt]
theorem Zzz:∀(vs:List V) (us:List Value) (k:IntKind) (n:Int) (r:D),ZaQ R w vs us→mxE.go false k n vs=some r→∃u,(us.foldlM Builtin.min2 (.int k n)).run P w = .ok u w∧R.den w r u
 | [],us,k,n,r,hd,h=>by
  simp only[mxE.go,Option.some.injEq] at h
  simp only[ZaQ] at hd
  subst h;subst hd
  exact⟨.int k n,rfl,rfl⟩
 | v :: vs,us,k,n,r,hd,h=>by
  obtain⟨u,us',rfl,h1,h2⟩:=hd
  cases v<;>try (cases h;done)
  rename_i x
  cases x<;>try (cases h;done)
  rename_i k' m
  simp only[mxE.go,cond_false] at h
  obtain⟨u,h3,h4⟩:=Zzz vs us' k _ r h2 h
  refine⟨u,?_,h4⟩
  cases h1
  rw[List.foldlM_cons,Sem.run_bind,← h3]
  by_cases hlt:m<n
  ·simp[Builtin.min2,hlt]
  ·simp[Builtin.min2,hlt]
theorem ZGz (pre:Pre G R w e a Hm) {b:Bool}{ats:Array TypeId}{xs:Array Operand}{ys:List Opd}{r:D} (hop:o.op = .call { callee:=.builtin (bif b then .max else .min),args:=xs,argTypes:=ats }) (hx:ZfN G xs.toList ys=true)
  (h:mxE b (vals e ys)=some r) (hp:Zas R.H [] nid [] H'):ZdH P o a w (Z7 R w nid 0 H' (.d r)):=by
 have hv:=pre.opds hx
 have hl:(xs.map a.eval).toList=xs.toList.map a.eval:=by simp
 cases hvs:vals e ys with
 | nil=>rw[hvs] at h;cases h
 | cons v vs=>
  rw[hvs] at h hv
  obtain⟨u,us,hus,h1,h2⟩:=hv
  cases v<;>try (cases h;done)
  rename_i x
  cases x<;>try (cases h;done)
  rename_i k n
  cases h1
  simp only[mxE] at h
  cases b with
  | true=>
   obtain⟨u,h3,h4⟩:=ZzI (P:=P) vs us k n r h2 h
   refine Zb5 (s:=Builtin.max_ ats o.type (xs.map a.eval)) (u:=u) (by rw[Zhj hop];rfl) ?_ (Z7.stay pre.ok hp h4)
   rw[Builtin.max_,hl,hus];exact h3
  | false=>
   obtain⟨u,h3,h4⟩:=Zzz (P:=P) vs us k n r h2 h
   refine Zb5 (s:=Builtin.min_ ats o.type (xs.map a.eval)) (u:=u) (by rw[Zhj hop];rfl) ?_ (Z7.stay pre.ok hp h4)
   rw[Builtin.min_,hl,hus];exact h3
theorem ZCn (pre:Pre G R w e a Hm) {x:Operand}{y:Opd}{v:V} (hop:o.op = .nilCheck x) (hx:ZY G x y=true) (h:ZwW Hm (y.val e)=some v) (hp:Zas R.H [] nid [] H'):ZdH P o a w (Z7 R w nid 0 H' v):=by
 have hv:=pre.opd hx
 have ptr:∀(ad:Addr) v,a.eval x = .pointer (some ad)→Zbd R w v (a.eval x)→ZdH P o a w (Z7 R w nid 0 H' v):=fun ad v h1 h2=>
  .val (u:=a.eval x) (w':=w) (by unfold execOp;rw[hop];simp[h1]) (Z7.stay pre.ok hp h2)
 unfold ZwW at h
 split at h
 ·rename_i f caps hy
  simp only[Option.some.injEq] at h
  subst h
  rw[hy] at hv
  have hv':=hv
  obtain⟨us,h1,_⟩:=hv'
  exact .val (u:=a.eval x) (w':=w) (by unfold execOp;rw[hop];simp[h1]) (Z7.stay pre.ok hp hv)
 ·rename_i f caps hy
  simp only[Option.some.injEq] at h
  subst h
  rw[hy] at hv
  have hv':=hv
  obtain⟨us,h1,_⟩:=hv'
  exact .val (u:=a.eval x) (w':=w) (by unfold execOp;rw[hop];simp[h1]) (Z7.stay pre.ok hp hv)
 ·rename_i t z hy
  simp only[Option.some.injEq] at h
  subst h
  rw[hy] at hv
  have hv':=hv
  obtain⟨u',h1,_⟩:=hv'
  exact .val (u:=a.eval x) (w':=w) (by unfold execOp;rw[hop];simp[h1]) (Z7.stay pre.ok hp hv)
 ·rename_i cs hy
  simp only[Option.some.injEq] at h
  subst h
  rw[hy] at hv
  have hv':=hv
  obtain⟨b,off,h1,_⟩:=hv'
  exact ptr _ _ h1 hv
 ·rename_i b off hy
  simp only[Option.some.injEq] at h
  subst h
  rw[hy] at hv
  have hv':=hv
  obtain⟨c,_,h1⟩:=hv'
  exact ptr _ _ h1 hv
 ·rename_i b sz i k hy
  simp only[Option.some.injEq] at h
  subst h
  rw[hy] at hv
  have hv':=hv
  obtain⟨c,_,h1⟩:=hv'
  exact ptr _ _ h1 hv
 ·cases h
structure Zkr (R R':RP) (ks:List Nat):Prop where
 m:R'.M=R.M
 b1:R'.B1=R.B1
 live:∀i,Zai R'.H i=true→Zai R.H i=true
 dead:∀k∈ks,Zai R'.H k=false
theorem Zkr.a1 {R R':RP}{ks:List Nat} (h:Zkr R R' ks):∀b,R.A1 b→R'.A1 b:=fun b ⟨h1,h2⟩=>
 ⟨fun⟨i,l1,l2⟩=>h1 ⟨i,h.live i l1,by rw[← h.m];exact l2⟩,by rw[h.b1];exact h2⟩
theorem Zkr.own {R R':RP}{ks:List Nat} (h:Zkr R R' ks) (ok:R.OK w) {b c:Nat} (hb:Zai R.H b=true) (hk:b∈ks) (hm:R.M b=some (some c)):R'.A1 c:=
 ⟨fun⟨i,l1,l2⟩=>by
  rw[h.m] at l2
  have:=ok.inj i b c (h.live i l1) hb l2 hm
  subst this
  rw[h.dead i hk] at l1
  exact Bool.noConfusion l1,by rw[h.b1];exact ok.nb b c hb hm⟩
theorem ZuV {H:Zp}{b sz:Nat}{xs:List D} (h:nth H b=some (.arr sz xs)):Zai H b=true:=by
 unfold Zai;rw[h]
theorem Zri (ok:R.OK w) {c:Nat}{sz:Nat}{xs:List D}{A1' A0' AL':Nat→Prop} (h1:∀b,R.A1 b→A1' b) {l n:Nat} (hb:Zig R w (some c) (.arr sz xs)) (hne:(xs.drop l).take n≠[]) :
  Zf2 A1' A0' AL' w c sz (l*sz) ((xs.drop l).take n):=by
 obtain⟨_,he,hb⟩:=hb
 rcases hb with⟨hb,_⟩ | ⟨c',cs,el,e1,e2,e3,e4⟩
 ·cases hb
 ·cases e1
  refine ZkH _ _ fun j x hj=>?_
  rw[List.getElem?_take] at hj
  by_cases hjn:j<n
  ·rw[if_pos hjn,List.getElem?_drop] at hj
   obtain⟨u,f1,f2,f3⟩:=e4 (l+j) x hj
   refine⟨u,Zbi.lift h1 x u (he x (List.mem_of_getElem? hj)) f1,f2,fun k v hk=>?_⟩
   rw[ZcL e2,← f3 k v hk,Nat.add_mul]
  ·rw[if_neg hjn] at hj;cases hj
mutual
theorem Zpv (n:Nat):∀(v:V) (y:D) (ks:List Nat),(pre:Pre G R w e a Hm)→fr Hm n v=some (y,ks)→∀{R':RP}{ks':List Nat},Zkr R R' ks'→(∀k∈ks,k∈ks')→∀u,Zbd R w v u→(y.esc=true∨∃ts,y = .tup ts)∧∀A0' AL',Zbi R'.A1 A0' AL' w y u:=by
 intro v y ks pre h R' ks' hL hks u hu
 cases n with
 | zero=>cases h
 | succ n=>
  simp only[fr] at h
  cases v<;>try (cases h;done)
  ·rename_i x
   dsimp only at h
   split at h
   ·rename_i ts
    cases he:Zw7 ts with
    | false=>rw[he] at h;cases h
    | true=>
     rw[he] at h
     simp only[cond_true,Option.some.injEq,Prod.mk.injEq] at h
     obtain⟨rfl,_⟩:=h
     obtain⟨us,rfl,hu⟩:=hu
     exact⟨.inr ⟨ts,rfl⟩,fun A0' AL'=>⟨us,rfl,Za6.liftT hL.a1 ts us he hu⟩⟩
   ·cases he:x.esc with
    | false=>rw[he] at h;cases h
    | true=>
     rw[he] at h
     simp only[cond_true,Option.some.injEq,Prod.mk.injEq] at h
     obtain⟨rfl,_⟩:=h
     exact⟨.inl he,fun A0' AL'=>Zbi.lift hL.a1 x u he hu⟩
  ·rename_i b sz
   dsimp only at h
   cases hb:nth Hm b with
   | none=>rw[hb] at h;cases h
   | some blk=>
    rw[hb] at h
    cases blk<;>try (cases h;done)
    rename_i sz' xs
    dsimp only at h
    cases hs:Nat.beq sz sz' with
    | false=>rw[hs] at h;cases h
    | true=>
     rw[hs] at h
     obtain rfl:=Nat.eq_of_beq_eq_true hs
     simp only[cond_true,Option.some.injEq,Prod.mk.injEq] at h
     obtain⟨rfl,rfl⟩:=h
     refine⟨.inl rfl,fun A0' AL'=>?_⟩
     obtain⟨m,q1,q2,q3,q4⟩:=Zor pre hb hu
     have q5:=q4
     obtain⟨_,ad,cap,rfl,q6,q7⟩:=q5
     refine⟨_,_,_,rfl,rfl,q6,q3.2.1,fun hne=>?_⟩
     obtain⟨c,cs,el,fr',cap',rfl,e1,e2,e3,e4⟩:=ZfJ q4 (.inl (List.length_pos_iff.2 hne))
     cases e1
     refine⟨c,0*sz,sz,rfl,hL.own pre.ok (ZuV q2) (hks _ (by simp)) q1,pre.ok.lt _ _ q1,?_⟩
     have:=Zri pre.ok (A0':=A0') (AL':=AL') hL.a1 (l:=0) (n:=xs.length) q3 (by simpa using hne)
     simpa using this
  ·rename_i b sz of len
   dsimp only at h
   cases hb:nth Hm b with
   | none=>rw[hb] at h;cases h
   | some blk=>
    rw[hb] at h
    cases blk<;>try (cases h;done)
    rename_i sz' xs
    dsimp only at h
    cases hs:Nat.beq sz sz' with
    | false=>rw[hs] at h;cases h
    | true=>
     rw[hs] at h
     obtain rfl:=Nat.eq_of_beq_eq_true hs
     simp only[cond_true,Option.some.injEq,Prod.mk.injEq] at h
     obtain⟨rfl,rfl⟩:=h
     refine⟨.inl rfl,fun A0' AL'=>?_⟩
     obtain⟨m,q1,q2,q3,q4⟩:=Zlq pre hb hu
     have q5:=q4
     obtain⟨q8,ad,cap,rfl,q6,q7⟩:=q5
     have hlen:((xs.drop of).take len).length=len:=by simp only[List.length_take,List.length_drop];omega
     refine⟨_,_,_,rfl,hlen.symm,q6,fun x hx=>q3.2.1 x (List.mem_of_mem_drop (List.mem_of_mem_take hx)),fun hne=>?_⟩
     obtain⟨c,cs,el,fr',cap',rfl,e1,e2,e3,e4⟩:=ZfJ q4 (.inl (by rw[← hlen];exact List.length_pos_iff.2 hne))
     cases e1
     exact⟨c,of*sz,sz,rfl,hL.own pre.ok (ZuV q2) (hks _ (by simp)) q1,pre.ok.lt _ _ q1,Zri pre.ok hL.a1 q3 hne⟩
  ·simp only[Option.some.injEq,Prod.mk.injEq] at h
   obtain⟨rfl,rfl⟩:=h
   obtain⟨ad,rfl⟩:=hu
   exact⟨.inl rfl,fun A0' AL'=>⟨_,_,_,rfl,rfl,Nat.le_refl _,by simp,by simp⟩⟩
  ·rename_i cs
   dsimp only at h
   cases hl:frl (fr Hm n) cs with
   | none=>rw[hl] at h;cases h
   | some p=>
    obtain⟨l,ks1⟩:=p
    rw[hl] at h
    dsimp only at h
    cases he:D.escs l with
    | false=>rw[he] at h;cases h
    | true=>
     rw[he] at h
     simp only[cond_true,Option.some.injEq,Prod.mk.injEq] at h
     obtain⟨rfl,rfl⟩:=h
     obtain⟨us,rfl,h1⟩:=hu
     have g2:=Zup n cs l ks1 pre hl hL hks us h1
     exact⟨.inl he,fun A0' AL'=>⟨us,rfl,g2 A0' AL'⟩⟩
  ·rename_i cs
   dsimp only at h
   cases hl:frl (fr Hm n) cs with
   | none=>rw[hl] at h;cases h
   | some p=>
    obtain⟨l,ks1⟩:=p
    rw[hl] at h
    simp only[Option.some.injEq,Prod.mk.injEq] at h
    obtain⟨rfl,rfl⟩:=h
    obtain⟨us,rfl,h1⟩:=hu
    have g2:=Zup n cs l ks1 pre hl hL hks us h1
    exact⟨.inr ⟨_,rfl⟩,fun A0' AL'=>⟨us,rfl,g2 A0' AL'⟩⟩
termination_by (n,0)
theorem Zup (n:Nat):∀(vs:List V) (ys:List D) (ks:List Nat),(pre:Pre G R w e a Hm)→frl (fr Hm n) vs=some (ys,ks)→∀{R':RP}{ks':List Nat},Zkr R R' ks'→(∀k∈ks,k∈ks')→∀us,ZaQ R w vs us→∀A0' AL',Za6 R'.A1 A0' AL' w ys us
 | [],ys,ks,pre,h,R',ks',hL,hks,us,hu=>by
  simp only[frl,Option.some.injEq,Prod.mk.injEq] at h
  obtain⟨rfl,rfl⟩:=h
  exact fun _ _=>hu
 | v :: vs,ys,ks,pre,h,R',ks',hL,hks,us,hu=>by
  simp only[frl] at h
  cases h1:fr Hm n v with
  | none=>rw[h1] at h;cases h
  | some p=>
   obtain⟨y,k1⟩:=p
   cases h2:frl (fr Hm n) vs with
   | none=>rw[h1,h2] at h;cases h
   | some q=>
    obtain⟨ys',k2⟩:=q
    rw[h1,h2] at h
    simp only[Option.some.injEq,Prod.mk.injEq] at h
    obtain⟨rfl,rfl⟩:=h
    obtain⟨u,us',rfl,e1,e2⟩:=hu
    obtain⟨g1,g2⟩:=Zpv n v y k1 pre h1 hL (fun k hk=>hks k (by simp[hk])) u e1
    have g4:=Zup n vs ys' k2 pre h2 hL (fun k hk=>hks k (by simp[hk])) us' e2
    exact fun A0' AL'=>⟨u,us',rfl,g2 A0' AL',g4 A0' AL'⟩
termination_by vs=>(n,vs.length+1)
end
theorem Zkr.refl (R:RP):Zkr R R []:=⟨rfl,rfl,fun _ h=>h,by simp⟩
theorem ZFb (pre:Pre G R w e a Hm) {t:TypeId}{x:Operand}{y:Opd}{z:D} (hop:o.op = .makeInterface t x) (hx:ZY G x y=true) (ht:P.concrete t=true)
  (h:fr Hm 6 (y.val e)=some (z,[])) (hp:Zas R.H [] nid [] H'):ZdH P o a w (Z7 R w nid 0 H' (.d (.iface t z))):=by
 have hv:=pre.opd hx
 obtain⟨_,g⟩:=Zpv 6 _ z [] pre h (Zkr.refl R) (fun _ h=>h) _ hv
 exact Zb5 (s:=Instr.makeInterface t (a.eval x)) (by unfold execOp;rw[hop]) (run_makeInterface w t _ ht) (Z7.stay pre.ok hp ⟨_,rfl,g _ _⟩)
end
end Go.Proofs.YtnmbdjkbaihicaaGreatDoorE
