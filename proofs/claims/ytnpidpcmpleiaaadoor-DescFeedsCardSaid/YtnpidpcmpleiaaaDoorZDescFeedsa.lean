/- DescFeeds: part 1 of 4 of the proof. -/
import Derived.Calls
import Derived.Orders
import Derived.Test.YtnpidpcmpleiaaaDoorProg
import Derived.Below
import Derived.WalkKit
import Derived.Laws.MakeOwn
import Derived.ArgAppend
set_option maxRecDepth 100000
set_option maxHeartbeats 40000000
namespace Go.Proofs.YtnpidpcmpleiaaaDoorE
open Go
inductive D where
 | bool (b:Bool) | int (k:IntKind) (n:Int) | str (s:ByteArray)
 | list (own:Bool) (xs:List D) | agg (cs:List D) | tup (vs:List D)
 | fn (f:Nat) (caps:List D) | nilfn
 | rptr (cs:List D) | nilp
 | iface (t:Nat) (v:D) | nilI
inductive V where
 | d (x:D) | bad
 | ptr (b o:Nat) | eptr (b sz i k:Nat)
 | sl (b sz:Nat) | slp (b sz o len:Nat) | nilsl (sz:Nat)
 | agg (cs:List V) | tup (vs:List V)
 | fn (f:Nat) (caps:List V)
 | mp (b:Nat)
inductive Blk where
 | dead | cells (cs:List V) | arr (sz:Nat) (xs:List D)
 | mp (es:List (D×D))
abbrev Zi:=List Blk
abbrev Env:=Nat→V
def Env.set (e:Env) (i:Nat) (v:V):Env:=fun j=>bif Nat.beq i j then v else e j
def env0:Env:=fun _=>.bad
def Zdd:List Nat→List V→Env
 | i :: is,v :: vs=>(Zdd is vs).set i v
 | _,_=>env0
def D.isAgg:D→Bool
 | .agg _=>true
 | _=>false
mutual
def D.esc:D→Bool
 | .list own _=>own
 | .agg cs=>D.escs cs
 | .tup _=>false
 | .iface _ v=>v.esc
 | .fn _ caps=>caps.isEmpty
 | .rptr _=>false
 | _=>true
def D.escs:List D→Bool
 | []=>true
 | c :: cs=>c.esc&&(!c.isAgg&&D.escs cs)
end
def ZoS:List D→Bool
 | []=>true
 | c :: cs=>c.esc&&ZoS cs
mutual
def D.nofn:D→Bool
 | .fn _ caps=>caps.isEmpty
 | .agg cs=>D.nofns cs
 | .tup cs=>D.nofns cs
 | .rptr cs=>D.nofns cs
 | .iface _ v=>v.nofn
 | _=>true
def D.nofns:List D→Bool
 | []=>true
 | c :: cs=>c.nofn&&D.nofns cs
end
mutual
def ZlM:V→Bool
 | .d (.tup ts)=>ZoS ts
 | .d x=>x.esc
 | .agg cs=>Zkd cs
 | .tup cs=>Zkd cs
 | .fn _ cs=>Zkd cs
 | _=>true
def Zkd:List V→Bool
 | []=>true
 | v :: vs=>ZlM v&&Zkd vs
end
mutual
def Zip:V→Bool
 | .d x=>x.nofn
 | .agg cs=>ZhQ cs
 | .tup cs=>ZhQ cs
 | .fn _ cs=>ZhQ cs
 | _=>true
def ZhQ:List V→Bool
 | []=>true
 | v :: vs=>Zip v&&ZhQ vs
end
def Zit:List Blk→Bool
 | []=>true
 | .cells cs :: r=>Zkd cs&&Zit r
 | _ :: r=>Zit r
def Zgs:List Blk→Bool
 | []=>true
 | .cells cs :: r=>ZhQ cs&&Zgs r
 | _ :: r=>Zgs r
def V.isAggV:V→Bool
 | .d (.agg _)=>true
 | .agg _=>true
 | _=>false
def V.isD:V→Bool
 | .d _=>true
 | _=>false
def D.cells:D→List D
 | .agg cs=>cs
 | x=>[x]
inductive Opd where
 | t (i:Nat) | c (v:V)
inductive O where
 | mov (x:Opd)
 | pick (c a b:Opd)
 | alloc (z:V)
 | box (x:Opd)
 | build (z:List V) (ps:List (Nat×Nat×Opd))
 | bslice (sz:Nat) (z:List D) (len:Nat) (ps:List (Nat×Opd))
 | load (n:Nat) (ag:Bool) (x:Opd)
 | store (n:Nat) (x v:Opd)
 | nilck (x:Opd)
 | bin (op:BinOp) (x y:Opd)
 | eqv (ks:List Bool) (neg:Bool) (x y:Opd)
 | un (op:UnOp) (x:Opd)
 | conv (k:IntKind) (x:Opd)
 | mkfn (f:Nat) (caps:List Opd)
 | mkslice (sz:Nat) (z:List D) (n c:Opd)
 | slice (sz:Nat) (x:Opd) (lo hi mx:Option Opd)
 | faddr (off:Nat) (x:Opd)
 | field (off n:Nat) (ag:Bool) (x:Opd)
 | iaddr (sz:Nat) (x i:Opd)
 | index (len sz:Nat) (ag:Bool) (x i:Opd)
 | indexS (x i:Opd)
 | iaddrA (len sz:Nat) (x i:Opd)
 | len (x:Opd)
 | append (sz:Nat) (x y:Opd)
 | appendD (sz:Nat) (x y:Opd)
 | mx (isMax:Bool) (xs:List Opd)
 | extract (x:Opd) (i:Nat)
 | mkif (t:Nat) (x:Opd)
 | call (f:Nat) (args:List Opd)
 | callv (x:Opd) (args:List Opd)
 | invoke (tab:List (Nat×Nat)) (x:Opd) (args:List Opd)
 | mkmap
 | mapset (ks:List Bool) (m k v:Opd)
 | mapget (ks:List Bool) (z:D) (m k:Opd)
 | panic
 | callk (f:Nat) (args:List Opd) (chk:List Opd)
 | nilq (x:Opd)
 | spec (id:Nat) (args:List Opd)
 | storek (n:Nat) (x v:Opd) (chk:List Opd)
structure Op1 where
 dst:Option Nat
 op:O
 guard:Option (Nat×Bool)
 mask:List Nat
 eff:Nat
inductive C where
 | skip | ret | exit (id:Nat)
 | seq (a b:C)
 | cond (x:Opd) (a b:C)
 | block (id:Nat) (a:C)
 | loop (live outs:List Nat) (a:C)
 | ops (l:List Op1)
 | draw (l:List Op1)
inductive Ex where
 | normal | exit (id:Nat) | ret
structure FnI where
 nargs:Nat
 body:C
 res:List (Nat×Option (Nat×Bool))
structure Ctx where
 code:Nat→Option FnI
 mode:Nat→Nat
abbrev oA (op:O):Op1:=⟨none,op,none,[],0⟩
abbrev oB (d:Nat) (op:O):Op1:=⟨some d,op,none,[],0⟩
abbrev oG (d:Nat) (op:O) (s:Nat) (b:Bool):Op1:=⟨some d,op,some (s,b),[],0⟩
abbrev oM (d:Nat) (op:O) (m:List Nat):Op1:=⟨some d,op,none,m,0⟩
abbrev iN (n:Int):Opd:=.c (.d (.int .i64 n))
abbrev bT:Opd:=.c (.d (.bool true))
abbrev bF:Opd:=.c (.d (.bool false))
def Opd.val (e:Env):Opd→V
 | .t i=>e i
 | .c v=>v
def ZdO (e:Env):List Opd→List V
 | []=>[]
 | x :: xs=>x.val e :: ZdO e xs
def ZhG:List V→Option (List D)
 | []=>some []
 | .d x :: r=>match ZhG r with | some l=>some (x :: l) | none=>none
 | _ :: _=>none
def ZnG (cs:List V):V:=match ZhG cs with | some l=>.d (.agg l) | none=>.agg cs
def Zo8 (cs:List V):V:=match ZhG cs with | some l=>.d (.tup l) | none=>.tup cs
def Zcf:List D→List V
 | []=>[]
 | x :: xs=>.d x :: Zcf xs
def V.cells:V→List V
 | .d (.agg cs)=>Zcf cs
 | .agg cs=>cs
 | v=>[v]
def nth {α:Type}:List α→Nat→Option α
 | [],_=>none
 | x :: _,0=>some x
 | _ :: xs,n+1=>nth xs n
def ZdV {α:Type}:List α→Nat→α→List α
 | [],_,_=>[]
 | _ :: xs,0,v=>v :: xs
 | x :: xs,n+1,v=>x :: ZdV xs n v
def Zac {α:Type}:List α→Nat→List α→List α
 | cs,_,[]=>cs
 | cs,o,v :: vs=>Zac (ZdV cs o v) (o+1) vs
def fzl (f:V→Option D):List V→Option (List D)
 | []=>some []
 | v :: vs=>match f v,fzl f vs with | some x,some l=>some (x :: l) | _,_=>none
def fz (H:Zi):Nat→V→Option D
 | 0,_=>none
 | n+1,v=>match v with
  | .d x=>some x
  | .sl b sz=>match nth H b with
   | some (.arr sz' xs)=>bif Nat.beq sz sz' then some (.list false xs) else none
   | _=>none
  | .slp b sz o len=>match nth H b with
   | some (.arr sz' xs)=>bif Nat.beq sz sz' then some (.list false ((xs.drop o).take len)) else none
   | _=>none
  | .nilsl _=>some (.list true [])
  | .agg cs=>match fzl (fz H n) cs with | some l=>some (.agg l) | none=>none
  | .fn f caps=>match fzl (fz H n) caps with | some l=>some (.fn f l) | none=>none
  | .ptr b o=>match nth H b with
   | some (.cells cs)=>match fzl (fz H n) (cs.drop o) with | some l=>some (.rptr l) | none=>none
   | _=>none
  | _=>none
def fzs (H:Zi) (l:List V):Option (List D):=fzl (fz H 6) l
def frl (f:V→Option (D×List Nat)):List V→Option (List D×List Nat)
 | []=>some ([],[])
 | v :: vs=>match f v,frl f vs with | some (x,k),some (l,ks)=>some (x :: l,k++ks) | _,_=>none
def fr (H:Zi):Nat→V→Option (D×List Nat)
 | 0,_=>none
 | n+1,v=>match v with
  | .d x=>match x with
   | .tup ts=>bif ZoS ts then some (.tup ts,[]) else none
   | x=>bif x.esc then some (x,[]) else none
  | .sl b sz=>match nth H b with
   | some (.arr sz' xs)=>bif Nat.beq sz sz' then some (.list true xs,[b]) else none
   | _=>none
  | .slp b sz o len=>match nth H b with
   | some (.arr sz' xs)=>bif Nat.beq sz sz' then some (.list true ((xs.drop o).take len),[b]) else none
   | _=>none
  | .nilsl _=>some (.list true [],[])
  | .agg cs=>match frl (fr H n) cs with | some (l,ks)=>bif D.escs l then some (.agg l,ks) else none | none=>none
  | .tup cs=>match frl (fr H n) cs with | some (l,ks)=>some (.tup l,ks) | none=>none
  | _=>none
def idx:List Nat→Nat→Nat→Option Nat
 | [],_,_=>none
 | a :: l,b,i=>bif Nat.beq a b then some i else idx l b (i+1)
mutual
def Zje (ρ:Nat→Option Nat):V→V
 | .d x=>.d x
 | .bad=>.bad
 | .ptr b o=>match ρ b with | some j=>.ptr j o | none=>.bad
 | .eptr b sz i k=>match ρ b with | some j=>.eptr j sz i k | none=>.bad
 | .sl b sz=>match ρ b with | some j=>.sl j sz | none=>.bad
 | .slp b sz o len=>match ρ b with | some j=>.slp j sz o len | none=>.bad
 | .nilsl sz=>.nilsl sz
 | .agg cs=>.agg (ZfR ρ cs)
 | .tup cs=>.tup (ZfR ρ cs)
 | .fn f caps=>.fn f (ZfR ρ caps)
 | .mp b=>match ρ b with | some j=>.mp j | none=>.bad
def ZfR (ρ:Nat→Option Nat):List V→List V
 | []=>[]
 | v :: vs=>Zje ρ v :: ZfR ρ vs
end
def ZfD (ρ:Nat→Option Nat):Blk→Blk
 | .cells cs=>.cells (ZfR ρ cs)
 | b=>b
mutual
def Zvc:V→List Nat
 | .ptr b _=>[b]
 | .eptr b _ _ _=>[b]
 | .sl b _=>[b]
 | .slp b _ _ _=>[b]
 | .mp b=>[b]
 | .agg cs=>ZfO cs
 | .tup cs=>ZfO cs
 | .fn _ caps=>ZfO caps
 | _=>[]
def ZfO:List V→List Nat
 | []=>[]
 | v :: vs=>Zvc v++ZfO vs
end
def Zpi (H:Zi) (b:Nat):List Nat:=match nth H b with | some (.cells cs)=>ZfO cs | _=>[]
def Z1 (H:Zi) (b:Nat):Bool:=match nth H b with | some .dead=>false | some _=>true | none=>false
def Zfy (l:List Nat) (b:Nat):Bool:=match l with | []=>false | a :: l=>bif Nat.beq a b then true else Zfy l b
def Zem (H:Zi):List Nat→List Nat→List Nat
 | l,[]=>l
 | l,b :: bs=>bif Zfy l b || !(Z1 H b) then Zem H l bs else Zem H (l++[b]) bs
def ZhS (H:Zi):Nat→Nat→List Nat→List Nat
 | 0,_,l=>l
 | n+1,i,l=>match nth l i with
  | some b=>ZhS H n (i+1) (Zem H l (Zpi H b))
  | none=>l
def Zi4:Nat→List Nat
 | 0=>[]
 | n+1=>Zi4 n++[n]
def Zjg (H:Zi) (k:Nat) (vs:List V):List Nat:=
 ZhS H (H.length+1) 0 (Zem H (Zi4 k) (ZfO vs))
def ZiZ:List Nat→Bool
 | []=>true
 | a :: l=>!(Zfy l a)&&ZiZ l
def pick (H:Zi) (ρ:Nat→Option Nat):List Nat→Zi
 | []=>[]
 | b :: bs=>(match nth H b with | some blk=>ZfD ρ blk | none=>.dead) :: pick H ρ bs
def ZlJ (n:Nat):List Nat→Bool
 | []=>true
 | a :: l=>Nat.blt a n&&ZlJ n l
def extract (k:Nat) (vs:List V) (H:Zi):Option (List Nat×List V×Zi):=
 let L:=Zjg H k vs
 bif ZiZ L&&ZlJ H.length L then some (L,ZfR (fun b=>idx L b 0) vs,pick H (fun b=>idx L b 0) L) else none
def ZbI:Nat→List V→List V×List Blk
 | _,[]=>([],[])
 | n,.nilsl sz :: vs=>bif Nat.blt 0 sz then (let r:=ZbI (n+1) vs;(.sl n sz :: r.1,.arr sz [] :: r.2)) else (let r:=ZbI n vs;(.nilsl sz :: r.1,r.2))
 | n,v :: vs=>let r:=ZbI n vs;(v :: r.1,r.2)
def Zce:Nat→Zi→Zi×List Blk
 | _,[]=>([],[])
 | n,.cells cs :: H=>let r:=ZbI n cs;let q:=Zce (n+r.2.length) H;(.cells r.1 :: q.1,r.2++q.2)
 | n,b :: H=>let q:=Zce n H;(b :: q.1,q.2)
def Zkh (k:Nat) (vs:List V) (H:Zi):Option (List V×Zi):=
 match extract k vs H with
 | none=>none
 | some (_,vs1,H1)=>
  let r:=ZbI H1.length vs1
  let q:=Zce (H1.length+r.2.length) H1
  match extract k r.1 (q.1++(r.2++q.2)) with
  | none=>none
  | some (_,vs2,H2)=>some (vs2,H2)
mutual
def eqD:D→D→Option Bool
 | .bool a,.bool b=>some (a==b)
 | .int k a,.int k' b=>bif k==k' then some (a==b) else none
 | .agg xs,.agg ys=>ZkB xs ys
 | _,_=>none
def ZkB:List D→List D→Option Bool
 | [],[]=>some true
 | x :: xs,y :: ys=>match eqD x y,ZkB xs ys with | some a,some b=>some (a&&b) | _,_=>none
 | _,_=>none
end
def Zdv:List Bool→List D→Bool
 | [],[]=>true
 | true :: ks,.bool _ :: cs=>Zdv ks cs
 | false :: ks,.int _ _ :: cs=>Zdv ks cs
 | _,_=>false
def ZcK (ks:List Bool):D→Bool
 | .agg cs=>(match ks with | [_]=>false | ks=>Zdv ks cs)
 | x=>(match ks with | [_]=>Zdv ks [x] | _=>false)
def lim:Nat:=1073741824
def ZF {α:Type} (xs:List α) (i:Int):Option α:=bif decide (0≤i) then nth xs i.toNat else none
abbrev Res:=Option (V×List (Nat×Blk)×List Blk)
def Zct (v:V):Res:=some (v,[],[])
def Zsz (op:BinOp) (k:IntKind) (a b:Int):Option D:=
 match op with
 | .add=>some (.int k (k.wrap (a+b)))
 | .sub=>some (.int k (k.wrap (a-b)))
 | .mul=>some (.int k (k.wrap (a*b)))
 | .quo=>bif b==0 then none else some (.int k (k.wrap (a.tdiv b)))
 | .rem=>bif b==0 then none else some (.int k (a.tmod b))
 | .and=>some (.int k (k.wrap (BitVec.ofInt k.bits a &&& BitVec.ofInt k.bits b).toNat))
 | .or=>some (.int k (k.wrap (BitVec.ofInt k.bits a ||| BitVec.ofInt k.bits b).toNat))
 | .xor=>some (.int k (k.wrap (BitVec.ofInt k.bits a ^^^ BitVec.ofInt k.bits b).toNat))
 | .eql=>some (.bool (a==b))
 | .neq=>some (.bool (a != b))
 | .lss=>some (.bool (decide (a<b)))
 | .leq=>some (.bool (decide (a≤b)))
 | .gtr=>some (.bool (decide (b<a)))
 | .geq=>some (.bool (decide (b≤a)))
 | _=>none
def shI (op:BinOp) (k:IntKind) (a b:Int):Option D:=
 bif decide (b<0) then none else
 match op with
 | .shl=>some (.int k (k.wrap (a*2 ^ (min b.toNat k.bits))))
 | .shr=>some (.int k (a.fdiv (2 ^ (min b.toNat k.bits))))
 | _=>none
def ZjU (op:BinOp) (x y:V):Option D:=
 match op,x,y with
 | .shl,.d (.int k a),.d (.int _ b)=>shI .shl k a b
 | .shr,.d (.int k a),.d (.int _ b)=>shI .shr k a b
 | op,.d (.int k a),.d (.int k' b)=>bif k==k' then Zsz op k a b else none
 | _,_,_=>none
def unE (op:UnOp) (x:V):Option D:=
 match op,x with
 | .not,.d (.bool b)=>some (.bool !b)
 | .neg,.d (.int k n)=>some (.int k (k.wrap (0-n)))
 | _,_=>none
def V.okb:V→Bool
 | .bad=>false
 | .tup _=>false
 | .d (.tup _)=>false
 | _=>true
def V.flat:V→Bool
 | .bad=>false
 | .tup _=>false
 | .agg _=>false
 | .d (.tup _)=>false
 | .d (.agg _)=>false
 | _=>true
def ZmB:List V→Bool
 | []=>true
 | v :: vs=>v.flat&&ZmB vs
def ZdB (n:Nat) (ag:Bool) (cs:List V):Option V:=
 bif ag then (bif Nat.beq (cs.take n).length n then some (ZnG (cs.take n)) else none) else cs.head?
def ZcE (H:Zi) (n:Nat) (ag:Bool) (x:V):Option V:=
 match x with
 | .ptr b o=>match nth H b with
  | some (.cells cs)=>ZdB n ag (cs.drop o)
  | _=>none
 | .eptr b sz i k=>match nth H b with
  | some (.arr sz' xs)=>bif Nat.beq sz sz' then
    match nth xs i with
    | some x=>ZdB n ag (Zcf (x.cells.drop k))
    | none=>none
   else none
  | _=>none
 | .d (.rptr cs)=>ZdB n ag (Zcf cs)
 | _=>none
def Zg8 (H:Zi) (n:Nat) (x v:V):Res:=
 match x with
 | .ptr b o=>match nth H b with
  | some (.cells cs)=>bif Nat.beq v.cells.length n&&Nat.ble (o+n) cs.length&&v.okb&&ZmB v.cells then some (.bad,[(b,.cells (Zac cs o v.cells))],[]) else none
  | _=>none
 | .eptr b sz i k=>match nth H b with
  | some (.arr sz' xs)=>bif Nat.beq sz sz' then
    match nth xs i,fr H 6 v with
    | some x,some (y,ks)=>
     bif Zfy ks b then none else
     bif Nat.beq y.cells.length n&&Nat.ble (k+n) x.cells.length&&(V.d y).okb&&(x.isAgg || !y.isAgg) then
      some (.bad,(b,.arr sz (ZdV xs i (bif x.isAgg then .agg (Zac x.cells k y.cells) else y))) :: ks.map (fun j=>(j,.dead)),[])
     else none
    | _,_=>none
   else none
  | _=>none
 | _=>none
def elems (H:Zi) (x:V):Option (List D):=
 match x with
 | .d (.list _ xs)=>some xs
 | .sl b sz=>match nth H b with | some (.arr sz' xs)=>bif Nat.beq sz sz' then some xs else none | _=>none
 | .slp b sz o len=>match nth H b with | some (.arr sz' xs)=>bif Nat.beq sz sz' then some ((xs.drop o).take len) else none | _=>none
 | .nilsl _=>some []
 | _=>none
def Zhu (sz:Nat) (xs:List D) (l:Nat):Bool:=match nth xs l with | some z=>Nat.beq z.cells.length sz&&(V.d z).okb | none=>true
def Zh8 (nid:Nat) (H:Zi) (sz:Nat) (x y:V):Res:=
 match elems H y with
 | none=>none
 | some ys=>
  bif Zhu sz ys 0 then
   match x with
   | .nilsl _=>bif Nat.ble ys.length lim then some (.sl nid sz,[],[.arr sz ys]) else none
   | .sl b sz'=>match nth H b with
    | some (.arr sz'' xs)=>bif Nat.beq sz sz'&&Nat.beq sz sz'' then
      (bif Nat.ble (xs.length+ys.length) lim then some (.sl nid sz,[(b,.dead)],[.arr sz (xs++ys)]) else none)
     else none
    | _=>none
   | .slp b sz' o len=>match nth H b with
    | some (.arr sz'' xs)=>bif Nat.beq sz sz'&&Nat.beq sz sz''&&Nat.ble (o+len+ys.length) xs.length then
      some (.slp b sz o (len+ys.length),[(b,.arr sz (xs.take (o+len)++(ys++xs.drop (o+len+ys.length))))],[])
     else none
    | _=>none
   | _=>none
  else none
def Zf1 (H:Zi) (sz:Nat) (x y:V):Option V:=
 match x with
 | .nilsl _=>(match elems H y with
  | some ys=>bif Zhu sz ys 0&&Nat.ble ys.length lim then some (.d (.list true ys)) else none
  | none=>none)
 | _=>none
def Zfq (v:Option V) (dflt:Nat):Option Nat:=
 match v with
 | none=>some dflt
 | some (.d (.int _ n))=>bif decide (0≤n) then some n.toNat else none
 | _=>none
def Zf0 (H:Zi) (sz:Nat) (x:V) (lo hi mx:Option V):Option V:=
 match elems H x with
 | none=>none
 | some xs=>
  match Zfq lo 0,Zfq hi xs.length with
  | some l,some h=>
   bif Nat.ble l h&&Nat.ble h xs.length then
    match mx with
    | none=>match x with
     | .d (.list own _)=>bif Nat.beq l 0 || Zhu sz xs l then some (.d (.list own ((xs.drop l).take (h-l)))) else none
     | .sl b sz'=>bif Nat.beq sz sz' then some (.slp b sz l (h-l)) else none
     | .slp b sz' o _=>bif Nat.beq sz sz' then some (.slp b sz (o+l) (h-l)) else none
     | .nilsl _=>some (.nilsl sz)
     | _=>none
    | some m=>match Zfq (some m) 0 with
     | some m=>bif Nat.beq m l&&Nat.beq m h then some (.nilsl sz) else none
     | none=>none
   else none
  | _,_=>none
def ZfN (H:Zi) (sz:Nat) (x i:V):Option V:=
 match i with
 | .d (.int _ i)=>
  match x with
  | .d (.list _ xs)=>match ZF xs i with | some x=>bif Nat.beq x.cells.length sz&&(V.d x).okb then some (.d (.rptr x.cells)) else none | none=>none
  | .sl b sz'=>match nth H b with
   | some (.arr sz'' xs)=>bif Nat.beq sz sz'&&Nat.beq sz sz'' then (match ZF xs i with | some _=>some (.eptr b sz i.toNat 0) | none=>none) else none
   | _=>none
  | .slp b sz' o len=>match nth H b with
   | some (.arr sz'' xs)=>bif Nat.beq sz sz'&&Nat.beq sz sz'' then (match ZF ((xs.drop o).take len) i with | some _=>some (.eptr b sz (o+i.toNat) 0) | none=>none) else none
   | _=>none
  | _=>none
 | _=>none
def ZiY (len sz:Nat) (ag:Bool) (x i:V):Option V:=
 match i with
 | .d (.int _ i)=>bif x.isAggV&&(decide (0≤i)&&decide (i<len)) then ZdB sz ag (x.cells.drop (i.toNat*sz)) else none
 | _=>none
def Zg9 (x i:V):Option V:=
 match x,i with
 | .d (.str s),.d (.int _ i)=>bif decide (0≤i) then (match s[i.toNat]? with | some b=>some (.d (.int .u8 b.toNat)) | none=>none) else none
 | _,_=>none
def Zg5 (_:Zi) (off:Nat) (x:V):Option V:=
 match x with
 | .ptr b o=>some (.ptr b (o+off))
 | .eptr b sz i k=>some (.eptr b sz i (k+off))
 | .d (.rptr cs)=>some (.d (.rptr (cs.drop off)))
 | _=>none
def ZoJ (_:Zi) (x:V):Option V:=
 match x with
 | .d (.fn f caps)=>some (.d (.fn f caps))
 | .fn f caps=>some (.fn f caps)
 | .d (.iface t v)=>some (.d (.iface t v))
 | .d (.rptr cs)=>some (.d (.rptr cs))
 | .ptr b o=>some (.ptr b o)
 | .eptr b sz i k=>some (.eptr b sz i k)
 | _=>none
def Zeu (H:Zi) (len sz:Nat) (x i:V):Option V:=
 match i with
 | .d (.int _ i)=>bif decide (0≤i)&&decide (i<len) then Zg5 H (i.toNat*sz) x else none
 | _=>none
def ZmZ (H:Zi) (x:V):Option D:=
 match elems H x with | some xs=>some (.int .i64 xs.length) | none=>none
def mxE (isMax:Bool):List V→Option D
 | []=>none
 | .d (.int k a) :: r=>go k a r
 | _=>none
where
 go (k:IntKind) (a:Int):List V→Option D
  | []=>some (.int k a)
  | .d (.int _ b) :: r=>go k (bif isMax then (bif decide (a<b) then b else a) else (bif decide (b<a) then b else a)) r
  | _=>none
def Zl0 (z:List V):List (Nat×Nat×V)→Option (List V)
 | []=>some z
 | (off,size,v) :: r=>bif v.okb&&Nat.beq v.cells.length size&&Nat.ble (off+size) z.length then Zl0 (Zac z off v.cells) r else none
def Zlx (H:Zi) (sz:Nat) (xs:List D):List (Nat×V)→Option (List D×List Nat)
 | []=>some (xs,[])
 | (i,v) :: r=>match fr H 6 v with
  | some (y,ks)=>(bif Nat.blt i xs.length&&Nat.beq y.cells.length sz&&(V.d y).okb then match Zlx H sz (ZdV xs i y) r with | some (l,k2)=>some (l,ks++k2) | none=>none else none)
  | none=>none
def Zhp (es:List (D×D)) (k:D):Option (Option D):=
 match es with
 | []=>some none
 | (a,v) :: r=>match eqD k a with | some true=>some (some v) | some false=>Zhp r k | none=>none
def ZsA (es:List (D×D)) (k z:D):Option D:=match Zhp es k with | some (some y)=>some y | some none=>some z | none=>none
def ZgS (es:List (D×D)) (k v:D):Option (List (D×D)):=
 match es with
 | []=>some [(k,v)]
 | (a,u) :: r=>match eqD k a with
  | some true=>some ((a,v) :: r)
  | some false=>(match ZgS r k v with | some l=>some ((a,u) :: l) | none=>none)
  | none=>none
def Zfx:D→Bool
 | .bool _=>true
 | .int _ _=>true
 | _=>false
def Zi3 (H:Zi) (ks:List Bool) (m k v:V):Res:=
 match m,k,v with
 | .mp b,.d k,.d y=>(match nth H b with
  | some (.mp es)=>(match ZcK ks k&&Zfx y with | true=>(match ZgS es k y with | some l=>some (.bad,[(b,.mp l)],[]) | none=>none) | false=>none)
  | _=>none)
 | _,_,_=>none
def Zig (H:Zi) (ks:List Bool) (z:D) (m k:V):Option D:=
 match m,k with
 | .mp b,.d k=>(match nth H b with
  | some (.mp es)=>(match ZcK ks k with | true=>ZsA es k z | false=>none)
  | _=>none)
 | _,_=>none
def Zu8:List D→Option (List (Int×Int))
 | []=>some []
 | .agg [.int .i64 a,.int .i64 b] :: r=>match Zu8 r with | some l=>some ((a,b) :: l) | none=>none
 | _=>none
def pc (zs:List (Int×Int)) (j:Nat):Int×Int:=zs[j]?.getD (0,0)
def ZnF (zs:List (Int×Int)) (p:Int):Nat→Int
 | 0=>-1
 | k+1=>bif ((pc zs k).1 != p || decide (p<0)) then ZnF zs p k else (k:Int)
def Ziu (id:Nat) (l:List D):Option D:=
 match id,l with
 | 0,[.agg [_,_,.list _ xs],.int .i64 p]=>(match Zu8 xs with | some zs=>bif Nat.ble zs.length lim then some (.int .i64 (ZnF zs p zs.length)) else none | none=>none)
 | _,_=>none
abbrev ZaY:=Nat→List V→Zi→Option (V×Zi)
def ZeD (Γ:Ctx) (cf:ZaY) (nid:Nat) (H:Zi) (f:Nat) (args:List V):Res:=
 match Γ.mode f with
 | 0=>match fzs H args with
  | some l=>match cf f (Zcf l) [] with
   | some (v,H1)=>match fr H1 6 v with | some (x,_)=>(match x with | .tup ts=>some (.tup (Zcf ts),[],[]) | x=>some (.d x,[],[])) | none=>none
   | none=>none
  | none=>none
 | 1=>match fzs H args with
  | some l=>match cf f (Zcf l) [] with
   | some (v,H1)=>bif ZlM v&&Zit H1 then let up:=fun j=>some (nid+j);some (Zje up v,[],H1.map (ZfD up)) else none
   | none=>none
  | none=>none
 | _=>
  match extract 0 args H with
  | none=>none
  | some (L,args',H0)=>match cf f args' H0 with
   | some (v,H1)=>bif Zip v&&Zgs H1 then
     let back:=fun j=>match nth L j with | some b=>some b | none=>some (nid+(j-L.length))
     some (Zje back v,L.zip (H1.map (ZfD back)),(H1.drop L.length).map (ZfD back)) else none
   | none=>none
def Zc6 (H:Zi):List (Nat×Blk)→Zi
 | []=>H
 | (b,blk) :: r=>Zc6 (ZdV H b blk) r
def ZpN (e:Env) (H H':Zi):List Opd→Bool
 | []=>true
 | x :: xs=>(match x.val e with
  | .ptr b o=>(match ZcE H 1 false (.ptr b o),ZcE H' 1 false (.ptr b o) with | some (.mp i),some (.mp j)=>Nat.beq i j | _,_=>false)
  | _=>false)&&ZpN e H H' xs
def isU (f:Nat):Bool:=Nat.blt f 1000000
def unB (f:Nat):Nat:=f-1000000
def Ziq (f:Nat):Nat:=bif isU f then f else unB f
def Zj7 (f:Nat) (caps args:List V):List V:=bif isU f then args++caps else caps++args
def Zkc:List (Nat×Blk)→Nat→Bool
 | [],_=>false
 | (a,_) :: r,b=>bif Nat.beq a b then true else Zkc r b
def ZjQ (e:Env) (up:List (Nat×Blk)):List Opd→Bool
 | []=>true
 | x :: xs=>(match x.val e with
  | .ptr b _=>!(Zkc up b)
  | .eptr b _ _ _=>!(Zkc up b)
  | .d _=>true
  | _=>false)&&ZjQ e up xs
def Zhg:V→Option (Nat×List V)
 | .fn f caps=>some (f,caps)
 | .d (.fn f caps)=>some (f,Zcf caps)
 | _=>none
def ZeG (Γ:Ctx) (v:V) (f:Nat) (caps:List V):Bool:=v.isD&&(!(Nat.ble (Γ.mode (Ziq f)) 1) && !caps.isEmpty)
def Ziw (tab:List (Nat×Nat)) (t:Nat):Option Nat:=
 match tab with
 | []=>none
 | (a,f) :: r=>bif Nat.beq a t then some f else Ziw r t
def opE (Γ:Ctx) (cf:ZaY) (e:Env) (nid:Nat) (H:Zi):O→Res
 | .mov x=>Zct (x.val e)
 | .pick c a b=>match c.val e with | .d (.bool t)=>Zct (bif t then a.val e else b.val e) | _=>none
 | .alloc z=>some (.ptr nid 0,[],[.cells z.cells])
 | .box x=>bif (x.val e).okb then some (.ptr nid 0,[],[.cells (x.val e).cells]) else none
 | .build z ps=>match Zl0 z (ps.map fun(o,s,x)=>(o,s,x.val e)) with | some cs=>Zct (ZnG cs) | none=>none
 | .bslice sz z len ps=>bif Nat.beq len 0 then Zct (.nilsl sz) else match Zlx H sz (List.replicate len (match z with | [x]=>x | z=>.agg z)) (ps.map fun(i,x)=>(i,x.val e)) with
  | some (xs,ks)=>some (.sl nid sz,ks.map (fun j=>(j,.dead)),[.arr sz xs])
  | none=>none
 | .load n ag x=>match ZcE H n ag (x.val e) with | some v=>Zct v | none=>none
 | .store n x v=>Zg8 H n (x.val e) (v.val e)
 | .nilck x=>match ZoJ H (x.val e) with | some v=>Zct v | none=>none
 | .bin op x y=>match ZjU op (x.val e) (y.val e) with | some r=>Zct (.d r) | none=>none
 | .eqv ks neg x y=>match x.val e,y.val e with
  | .d a,.d b=>(match ZcK ks a with | true=>(match eqD a b with | some r=>Zct (.d (.bool (bif neg then !r else r))) | none=>none) | false=>none)
  | _,_=>none
 | .un op x=>match unE op (x.val e) with | some r=>Zct (.d r) | none=>none
 | .conv k x=>match x.val e with | .d (.int _ n)=>Zct (.d (.int k (k.wrap n))) | _=>none
 | .mkfn f caps=>Zct (match caps with | []=>.d (.fn f []) | caps=>.fn f (ZdO e caps))
 | .mkslice sz z n c=>match n.val e,c.val e with
  | .d (.int _ n),.d (.int _ c)=>bif decide (0≤n)&&decide (n≤lim)&&decide (n==c) then
    some (.sl nid sz,[],[.arr sz (List.replicate n.toNat (match z with | [x]=>x | z=>.agg z))]) else none
  | _,_=>none
 | .slice sz x lo hi mx=>match Zf0 H sz (x.val e) (lo.map (·.val e)) (hi.map (·.val e)) (mx.map (·.val e)) with | some v=>Zct v | none=>none
 | .faddr off x=>match Zg5 H off (x.val e) with | some v=>Zct v | none=>none
 | .field off n ag x=>match x.val e with
  | .d (.agg cs)=>(match ZdB n ag (Zcf (cs.drop off)) with | some v=>Zct v | none=>none)
  | .agg cs=>(match ZdB n ag (cs.drop off) with | some v=>Zct v | none=>none)
  | _=>none
 | .iaddr sz x i=>match ZfN H sz (x.val e) (i.val e) with | some v=>Zct v | none=>none
 | .index len sz ag x i=>match ZiY len sz ag (x.val e) (i.val e) with | some v=>Zct v | none=>none
 | .indexS x i=>match Zg9 (x.val e) (i.val e) with | some v=>Zct v | none=>none
 | .iaddrA len sz x i=>match Zeu H len sz (x.val e) (i.val e) with | some v=>Zct v | none=>none
 | .len x=>match ZmZ H (x.val e) with | some r=>Zct (.d r) | none=>none
 | .append sz x y=>Zh8 nid H sz (x.val e) (y.val e)
 | .appendD sz x y=>match Zf1 H sz (x.val e) (y.val e) with | some v=>Zct v | none=>none
 | .mx b xs=>match mxE b (ZdO e xs) with | some r=>Zct (.d r) | none=>none
 | .extract x i=>match x.val e with
  | .tup vs=>(match nth vs i with | some v=>Zct v | none=>none)
  | .d (.tup vs)=>(match nth vs i with | some v=>Zct (.d v) | none=>none)
  | _=>none
 | .mkif t x=>match fr H 6 (x.val e) with | some (y,[])=>Zct (.d (.iface t y)) | _=>none
 | .call f args=>ZeD Γ cf nid H f (ZdO e args)
 | .callv x args=>match Zhg (x.val e) with
  | some (f,caps)=>(match ZeG Γ (x.val e) f caps with | true=>none | false=>ZeD Γ cf nid H (Ziq f) (Zj7 f caps (ZdO e args)))
  | none=>none
 | .invoke tab x args=>match x.val e with
  | .d (.iface t y)=>(match Ziw tab t with | some f=>ZeD Γ cf nid H f (.d y :: ZdO e args) | none=>none)
  | _=>none
 | .mkmap=>some (.mp nid,[],[.mp []])
 | .mapset ks m k v=>Zi3 H ks (m.val e) (k.val e) (v.val e)
 | .mapget ks z m k=>match Zig H ks z (m.val e) (k.val e) with | some r=>Zct (.d r) | none=>none
 | .panic=>none
 | .callk f args _=>ZeD Γ cf nid H f (ZdO e args)
 | .storek n x v _=>Zg8 H n (x.val e) (v.val e)
 | .spec id args=>match H,ZhG (ZdO e args) with | [],some l=>(match Ziu id l with | some r=>Zct (.d r) | none=>none) | _,_=>none
 | .nilq x=>match elems H (x.val e) with | some xs=>(match Nat.blt 0 xs.length with | true=>Zct (.d (.bool false)) | false=>none) | none=>none
def Zlk (e:Env) (dst:Option Nat) (v:V):Env:=match dst with | some i=>e.set i v | none=>e
def Zeb (e:Env) (g:Option (Nat×Bool)):Option Bool:=
 match g with
 | none=>some true
 | some (s,b)=>match e s with | .d (.bool t)=>some (t==b) | .d (.tup [])=>some false | _=>none
def ZfC (Γ:Ctx) (cf:ZaY):List Op1→Env→Zi→Option (Env×Zi)
 | [],e,H=>some (e,H)
 | o :: r,e,H=>match Zeb e o.guard with
  | some true=>(match opE Γ cf e H.length H o.op with
   | some (v,up,nw)=>ZfC Γ cf r (Zlk e o.dst v) (Zc6 H up++nw)
   | none=>none)
  | some false=>ZfC Γ cf r (Zlk e o.dst (.d (.tup []))) H
  | none=>none
def Zq0 (H:Zi) (b:Nat):Nat→Zi
 | 0=>H
 | n+1=>Zq0 (ZdV H b .dead) (b+1) n
def ZeB (H:Zi) (pos:List (Nat×Nat)):List Nat→Zi
 | []=>H
 | i :: r=>match nth pos i with | some (b,n)=>ZeB (Zq0 H b n) pos r | none=>ZeB H pos r
def Zoh:List (Nat×Blk)→Bool
 | []=>true
 | (_,.dead) :: _=>false
 | _ :: r=>Zoh r
def ZkI (eff:Nat) (up:List (Nat×Blk)) (nw:List Blk):Bool:=match eff with | 0=>up.isEmpty | 1=>up.isEmpty&&nw.isEmpty | 3=>Zoh up&&nw.isEmpty | _=>true
def ZuS (e:Env) (H:Zi) (up:List (Nat×Blk)):O→Bool
 | .callk _ _ chk=>ZpN e H (Zc6 H up) chk
 | .storek _ _ _ chk=>ZjQ e up chk
 | _=>true
def ZkG (e:Env) (H:Zi) (o:Op1) (up:List (Nat×Blk)) (nw:List Blk):Bool:=ZkI o.eff up nw&&ZuS e H up o.op
def ZdX (Γ:Ctx) (cf:ZaY) (pos:List (Nat×Nat)):List Op1→Env→Zi→Option (Env×Zi)
 | [],e,H=>some (e,H)
 | o :: r,e,H=>match Zeb e o.guard with
  | some true=>(match opE Γ cf e H.length (ZeB H pos o.mask) o.op with
   | some (v,up,nw)=>bif ZkG e H o up nw then ZdX Γ cf (pos++[(H.length,nw.length)]) r (Zlk e o.dst v) (Zc6 H up++nw) else none
   | _=>none)
  | some false=>ZdX Γ cf (pos++[(H.length,0)]) r (Zlk e o.dst (.d (.tup []))) H
  | none=>none
inductive Lp where
 | again (vs:List V) (H:Zi)
 | done (x:Ex) (vs:List V) (H:Zi)
abbrev St:=Env×Zi
def ZbX (F:List V→Zi→Option Lp):Nat→List V→Zi→Option (Ex×List V×Zi)
 | 0,_,_=>none
 | n+1,vs,H=>match F vs H with
  | some (.again vs H)=>ZbX F n vs H
  | some (.done x vs H)=>some (x,vs,H)
  | none=>none
def Zdu (k:Nat) (live outs:List Nat) (r:Option (Ex×Env×Zi)):Option Lp:=
 match r with
 | some (.normal,e,H)=>(match Zkh k (live.map e) H with | some (vs,H)=>some (.again vs H) | none=>none)
 | some (x,e,H)=>(match extract k (outs.map e) H with | some (_,vs,H)=>some (.done x vs H) | none=>none)
 | none=>none
def ZK (Γ:Ctx) (cf:ZaY) (It:(List V→Zi→Option Lp)→List V→Zi→Option (Ex×List V×Zi)) (k:Nat):C→Env→Zi→Option (Ex×Env×Zi)
 | .skip,e,H=>some (.normal,e,H)
 | .ret,e,H=>some (.ret,e,H)
 | .exit id,e,H=>some (.exit id,e,H)
 | .seq a b,e,H=>match ZK Γ cf It k a e H with
  | some (.normal,e,H)=>ZK Γ cf It k b e H
  | r=>r
 | .cond x a b,e,H=>match x.val e with
  | .d (.bool t)=>(match t with | true=>ZK Γ cf It k a e H | false=>ZK Γ cf It k b e H)
  | _=>none
 | .block id a,e,H=>match ZK Γ cf It k a e H with
  | some (.exit j,e,H)=>bif Nat.beq j id then some (.normal,e,H) else some (.exit j,e,H)
  | r=>r
 | .loop live outs a,e,H=>match Zkh k (live.map e) H with
  | some (vs,H)=>(match It (fun vs H=>Zdu k live outs (ZK Γ cf It k a (Zdd live vs) H)) vs H with
   | some (x,vs,H)=>some (x,Zdd outs vs,H)
   | none=>none)
  | none=>none
 | .ops l,e,H=>match ZfC Γ cf l e H with | some (e,H)=>some (.normal,e,H) | none=>none
 | .draw l,e,H=>match ZdX Γ cf [] l e H with | some (e,H)=>some (.normal,e,H) | none=>none
def ZdC (i:Nat):List V→Env
 | []=>env0
 | v :: vs=>(ZdC (i+1) vs).set i v
def Zik (e:Env) (H:Zi):List (Nat×Option (Nat×Bool))→Option (List V)
 | []=>some []
 | (i,none) :: r=>match Zik e H r with | some l=>some (e i :: l) | none=>none
 | (i,some (n,ag)) :: r=>match ZcE H n ag (e i),Zik e H r with | some v,some l=>some (v :: l) | _,_=>none
def Zfo:List V→V
 | [v]=>v
 | l=>Zo8 l
def Zht (Γ:Ctx) (cf:ZaY) (It:(List V→Zi→Option Lp)→List V→Zi→Option (Ex×List V×Zi)) (f:Nat) (args:List V) (H:Zi):Option (V×Zi):=
 match Γ.code f with
 | none=>none
 | some fn=>
  bif Nat.beq args.length fn.nargs then
   match ZK Γ cf It H.length fn.body (ZdC 0 args) H with
   | some (.exit _,_,_)=>none
   | some (_,e,H1)=>(match Zik e H1 fn.res with
    | some l=>(match extract H.length [Zfo l] H1 with | some (_,[v],H2)=>some (v,H2) | _=>none)
    | none=>none)
   | none=>none
  else none
def evN (Γ:Ctx):Nat→ZaY
 | 0=>fun _ _ _=>none
 | n+1=>Zht Γ (evN Γ n) (fun F=>ZbX F n)
end Go.Proofs.YtnpidpcmpleiaaaDoorE
namespace Go.Proofs.YtnpidpcmpleiaaaDoor
open Go Go.Proofs.YtnpidpcmpleiaaaDoorE
abbrev qM (d x:Nat):Op1:=⟨some d,.mov (.t x),none,[],0⟩
abbrev uM (d x:Nat) (l:List Nat):Op1:=⟨some d,.mov (.t x),none,l,0⟩
abbrev vM (d x s:Nat) (b:Bool):Op1:=⟨some d,.mov (.t x),some (s,b),[],0⟩
abbrev wM (d x s:Nat) (b:Bool) (l:List Nat):Op1:=⟨some d,.mov (.t x),some (s,b),l,0⟩
abbrev qL (d x:Nat):Op1:=⟨some d,.load 1 false (.t x),none,[],0⟩
abbrev uL (d x:Nat) (l:List Nat):Op1:=⟨some d,.load 1 false (.t x),none,l,0⟩
abbrev vL (d x s:Nat) (b:Bool):Op1:=⟨some d,.load 1 false (.t x),some (s,b),[],0⟩
abbrev wL (d x s:Nat) (b:Bool) (l:List Nat):Op1:=⟨some d,.load 1 false (.t x),some (s,b),l,0⟩
abbrev qA (d n x:Nat):Op1:=⟨some d,.load n true (.t x),none,[],0⟩
abbrev uA (d n x:Nat) (l:List Nat):Op1:=⟨some d,.load n true (.t x),none,l,0⟩
abbrev vA (d n x s:Nat) (b:Bool):Op1:=⟨some d,.load n true (.t x),some (s,b),[],0⟩
abbrev wA (d n x s:Nat) (b:Bool) (l:List Nat):Op1:=⟨some d,.load n true (.t x),some (s,b),l,0⟩
abbrev qF (d n x:Nat):Op1:=⟨some d,.faddr n (.t x),none,[],0⟩
abbrev uF (d n x:Nat) (l:List Nat):Op1:=⟨some d,.faddr n (.t x),none,l,0⟩
abbrev vF (d n x s:Nat) (b:Bool):Op1:=⟨some d,.faddr n (.t x),some (s,b),[],0⟩
abbrev wF (d n x s:Nat) (b:Bool) (l:List Nat):Op1:=⟨some d,.faddr n (.t x),some (s,b),l,0⟩
abbrev qN (d x:Nat):Op1:=⟨some d,.len (.t x),none,[],0⟩
abbrev vN (d x s:Nat) (b:Bool):Op1:=⟨some d,.len (.t x),some (s,b),[],0⟩
abbrev qI (d n x y:Nat):Op1:=⟨some d,.iaddr n (.t x) (.t y),none,[],0⟩
abbrev uI (d n x y:Nat) (l:List Nat):Op1:=⟨some d,.iaddr n (.t x) (.t y),none,l,0⟩
abbrev vI (d n x y s:Nat) (b:Bool):Op1:=⟨some d,.iaddr n (.t x) (.t y),some (s,b),[],0⟩
abbrev wI (d n x y s:Nat) (b:Bool) (l:List Nat):Op1:=⟨some d,.iaddr n (.t x) (.t y),some (s,b),l,0⟩
abbrev qU (d x:Nat):Op1:=⟨some d,.un .not (.t x),none,[],0⟩
abbrev vU (d x s:Nat) (b:Bool):Op1:=⟨some d,.un .not (.t x),some (s,b),[],0⟩
abbrev qE (d x n:Nat):Op1:=⟨some d,.extract (.t x) n,none,[],0⟩
abbrev qB (d:Nat) (o:BinOp) (x y:Nat):Op1:=⟨some d,.bin o (.t x) (.t y),none,[],0⟩
abbrev qK (d:Nat) (o:BinOp) (x:Nat) (n:Int):Op1:=⟨some d,.bin o (.t x) (iN n),none,[],0⟩
abbrev vB (d:Nat) (o:BinOp) (x y s:Nat) (b:Bool):Op1:=⟨some d,.bin o (.t x) (.t y),some (s,b),[],0⟩
abbrev vK (d:Nat) (o:BinOp) (x:Nat) (n:Int) (s:Nat) (b:Bool):Op1:=⟨some d,.bin o (.t x) (iN n),some (s,b),[],0⟩
abbrev qW (d:Nat) (n:Int):Op1:=⟨some d,.mov (iN n),none,[],0⟩
abbrev qC (d f x:Nat):Op1:=⟨some d,.call f [.t x],none,[],0⟩
abbrev qD (d f x y:Nat):Op1:=⟨some d,.call f [.t x,.t y],none,[],0⟩
abbrev uS (d:Nat) (l:List Nat):Op1:=⟨some d,.bslice 1 [.int .i64 0] 0 [],none,l,0⟩
abbrev qP (d x y:Nat):Op1:=⟨some d,.pick (.t x) (.t y) bF,none,[],0⟩
abbrev zI:V:=.d (.int .i64 0)
abbrev zD:D:=.int .i64 0
def ZuW:List D:=[.int .u8 0,.int .u8 1,.int .u8 28,.int .u8 2,.int .u8 29,.int .u8 14,.int .u8 24,.int .u8 3,.int .u8 30,.int .u8 22,.int .u8 20,.int .u8 15,.int .u8 25,.int .u8 17,.int .u8 4,.int .u8 8,.int .u8 31,.int .u8 27,.int .u8 13,.int .u8 23,.int .u8 21,.int .u8 19,.int .u8 16,.int .u8 7,.int .u8 26,.int .u8 12,.int .u8 18,.int .u8 6,.int .u8 11,.int .u8 5,.int .u8 10,.int .u8 9]
def Zq7:List D:=[.int .u8 0,.int .u8 1,.int .u8 56,.int .u8 2,.int .u8 57,.int .u8 49,.int .u8 28,.int .u8 3,.int .u8 61,.int .u8 58,.int .u8 42,.int .u8 50,.int .u8 38,.int .u8 29,.int .u8 17,.int .u8 4,.int .u8 62,.int .u8 47,.int .u8 59,.int .u8 36,.int .u8 45,.int .u8 43,.int .u8 51,.int .u8 22,.int .u8 53,.int .u8 39,.int .u8 33,.int .u8 30,.int .u8 24,.int .u8 18,.int .u8 12,.int .u8 5,.int .u8 63,.int .u8 55,.int .u8 48,.int .u8 27,.int .u8 60,.int .u8 41,.int .u8 37,.int .u8 16,.int .u8 46,.int .u8 35,.int .u8 44,.int .u8 21,.int .u8 52,.int .u8 32,.int .u8 23,.int .u8 11,.int .u8 54,.int .u8 26,.int .u8 40,.int .u8 15,.int .u8 34,.int .u8 20,.int .u8 31,.int .u8 10,.int .u8 25,.int .u8 14,.int .u8 19,.int .u8 9,.int .u8 13,.int .u8 8,.int .u8 7,.int .u8 6]
def ir3:C:=.seq (.ops [oB 2 (.box (.t 0)),oB 4 (.mov bF)]) (.seq (.seq (.ops [oB 7 (.call 4 []),qU 8 7,qM 9 8,vA 10 6 2 9 false,oG 11 (.call 5 [.t 10]) 9 false,vU 12 11 9 false,oB 13 (.pick (.t 9) bT (.t 12))]) (.cond (.t 13) (.seq (.ops [oB 14 (.call 4 []),qM 4 14]) .ret) .skip)) (.seq (.draw [qA 15 6 2,qC 16 7 15,uM 17 1 [0,1],qD 18 6 16 17,uA 19 6 2 [0,1,2,3],qC 20 7 19,uM 21 1 [0,1,2,3,4,5],qD 22 8 20 21,qM 5 18,qM 6 22]) (.seq (.seq (.ops [qA 23 6 2,qC 24 9 23,qK 25 .neq 24 0]) (.cond (.t 25) (.seq (.ops [qM 26 5,qN 27 26,qK 28 .eql 27 0,qM 29 28,vM 30 6 29 true,vN 31 30 29 true,vK 32 .eql 31 0 29 true,qP 33 29 32,qM 4 33]) .ret) .skip)) (.seq (.ops [qM 34 5,qA 35 6 2,qM 36 1,qD 37 11 35 36,qD 38 10 34 37,qM 39 38,vM 40 6 39 true,vA 41 6 2 39 true,vM 42 1 39 true,oG 43 (.call 12 [.t 41,.t 42]) 39 true,oG 44 (.call 10 [.t 40,.t 43]) 39 true,qP 45 39 44,qM 4 45]) .ret))))
def fn3:FnI:=⟨2,ir3,[(4,none)]⟩
def ir4:C:=.seq (.ops [oB 0 (.mov bF)]) (.seq (.ops [oB 2 (.build [zI,zI,zI] [(0,1,(iN 1)),(2,1,(iN 1))]),oB 3 (.build [zI,zI,zI] [(0,1,(iN 1)),(2,1,(iN 1))]),oB 4 (.build [zI,zI,zI] [(0,1,(iN 2)),(2,1,(iN 5))]),oB 5 (.bslice 3 [zD,zD,zD] 3 [(0,(.t 2)),(1,(.t 3)),(2,(.t 4))]),oB 6 (.build [zI,zI] [(0,1,(iN 0)),(1,1,(iN 2))]),oB 7 (.bslice 2 [zD,zD] 1 [(0,(.t 6))]),oB 8 (.build [zI,zI,zI] [(0,1,(iN 1)),(1,1,(iN 2)),(2,1,(iN 3))]),oB 9 (.bslice 3 [zD,zD,zD] 1 [(0,(.t 8))]),oB 10 (.bslice 1 [zD] 1 [(0,(iN 0))]),oB 11 (.bslice 1 [zD] 1 [(0,(iN 1))]),oB 12 (.build [(.nilsl 1),(.nilsl 1)] [(0,1,(.t 10)),(1,1,(.t 11))]),oB 13 (.bslice 2 [.list true [],.list true []] 1 [(0,(.t 12))]),oB 14 (.build [zI,zI,(.nilsl 3),(.nilsl 2),(.nilsl 3),(.nilsl 2)] [(0,1,(iN 8)),(1,1,(iN 8)),(2,1,(.t 5)),(3,1,(.t 7)),(4,1,(.t 9)),(5,1,(.t 13))]),oB 1 (.alloc (.agg [zI,zI,(.nilsl 3),(.nilsl 2),(.nilsl 3),(.nilsl 2)])),oA (.store 6 (.t 1) (.t 14))]) (.seq (.ops [qA 15 6 1,qC 16 13 15,qK 17 .eql 16 0,qM 18 17,vA 19 6 1 18 true,oG 20 (.call 8 [.t 19,(iN 2)]) 18 true,oG 21 (.bslice 1 [zD] 2 [(0,(iN 0)),(1,(iN 1))]) 18 true,oG 22 (.call 10 [.t 20,.t 21]) 18 true,qP 23 18 22,qM 24 23,vA 25 6 1 24 true,oG 26 (.call 6 [.t 25,(iN 2)]) 24 true,oG 27 (.bslice 1 [zD] 1 [(0,(iN 0))]) 24 true,oG 28 (.call 10 [.t 26,.t 27]) 24 true,qP 29 24 28,qM 30 29,vA 31 6 1 30 true,vA 32 6 1 30 true,oG 33 (.call 14 [.t 31,.t 32]) 30 true,qP 34 30 33,qM 35 34,vA 36 6 1 35 true,oG 37 (.build [zI,zI,(.nilsl 3),(.nilsl 2),(.nilsl 3),(.nilsl 2)] []) 35 true,oG 38 (.call 14 [.t 36,.t 37]) 35 true,vU 39 38 35 true,qP 40 35 39,qM 41 40,oG 42 (.build [zI,zI,(.nilsl 3),(.nilsl 2),(.nilsl 3),(.nilsl 2)] []) 41 true,oG 43 (.call 13 [.t 42]) 41 true,vK 44 .eql 43 50 41 true,qP 45 41 44,qM 0 45]) .ret))
def fn4:FnI:=⟨0,ir4,[(0,none)]⟩
def ZsP:C:=.seq (.seq (.ops [qM 4 3,qF 5 5 1,qL 6 5,qN 7 6,qB 8 .lss 4 7,qM 9 8,vM 10 3 9 true,vK 11 .lss 10 9 9 true,qP 12 9 11]) (.cond (.t 12) .skip (.exit 0))) (.seq (.block 1 (.seq (.ops [qF 15 5 1,qL 16 15,qM 17 3,qI 18 2 16 17,qF 19 0 18,qL 20 19,qN 21 20,qK 22 .gtr 21 20,qM 23 22,vF 24 5 1 23 false,vL 25 24 23 false,vM 26 3 23 false,vI 27 2 25 26 23 false,vF 28 1 27 23 false,vL 29 28 23 false,vN 30 29 23 false,vK 31 .gtr 30 20 23 false,oB 32 (.pick (.t 23) bT (.t 31))]) (.cond (.t 32) (.seq (.ops [oB 2 (.mov bF)]) .ret) .skip))) (.ops [qM 13 3,qK 14 .add 13 1,qM 3 14]))
def ir5:C:=.seq (.ops [oB 1 (.box (.t 0)),oB 2 (.mov bF)]) (.seq (.seq (.ops [qW 3 0]) (.block 0 (.loop [1,3] [1,2] ZsP))) (.seq (.ops [qF 33 2 1,qL 34 33,qN 35 34,qK 36 .leq 35 20,qM 37 36,vF 38 3 1 37 true,vL 39 38 37 true,vN 40 39 37 true,vK 41 .leq 40 60 37 true,qP 42 37 41,qM 43 42,vF 44 4 1 43 true,vL 45 44 43 true,vN 46 45 43 true,vK 47 .leq 46 20 43 true,qP 48 43 47,qM 49 48,vF 50 5 1 49 true,vL 51 50 49 true,vN 52 51 49 true,vK 53 .leq 52 8 49 true,qP 54 49 53,qM 2 54]) .ret))
def fn5:FnI:=⟨1,ir5,[(2,none)]⟩
def Zs4:C:=.seq (.ops [qB 15 .lss 14 13]) (.seq (.cond (.t 15) .skip (.exit 0)) (.seq (.block 1 (.seq (.ops [qM 16 14,qI 17 3 12 14,qA 18 3 17,oB 7 (.alloc (.d (.agg [zD,zD,zD]))),qM 6 16,oA (.store 3 (.t 7) (.t 18))]) (.seq (.ops [qF 19 1 7,qL 20 19,qM 21 1,qB 22 .eql 20 21]) (.cond (.t 22) (.ops [qM 23 5,qM 24 6,oB 25 (.bslice 1 [zD] 1 [(0,(.t 24))]),oB 26 (.append 1 (.t 23) (.t 25)),qM 5 26]) .skip)))) (.ops [qK 27 .add 14 1,qM 14 27])))
def ir6:C:=.seq (.ops [oB 2 (.box (.t 0)),oB 4 (.mov (.c (.nilsl 1)))]) (.seq (.seq (.ops [qA 8 6 2,qC 9 13 8,qK 10 .neq 9 0]) (.cond (.t 10) (.seq (.ops [oB 4 (.mov (.c (.nilsl 1)))]) .ret) .skip)) (.seq (.ops [oB 5 (.mov (.c (.nilsl 1)))]) (.seq (.seq (.ops [qF 11 4 2,qL 12 11,qN 13 12,qW 14 0]) (.block 0 (.loop [1,2,5,12,13,14] [2,5] Zs4))) (.seq (.ops [qM 28 5,oB 29 (.mkfn 16 [.t 2]),qD 30 15 28 29]) (.seq (.ops [qM 31 5,qM 4 31]) .ret)))))
def fn6:FnI:=⟨2,ir6,[(4,none)]⟩
def ZsV:C:=.seq (.seq (.ops [qM 22 4,qF 23 5 1,qL 24 23,qN 25 24,qB 26 .lss 22 25]) (.cond (.t 26) .skip (.exit 0))) (.seq (.block 1 (.draw [qF 29 5 3,qL 30 29,uS 31 [0,1],uF 32 5 1 [0,1,2],uL 33 32 [0,1,2],uM 34 4 [0,1,2,3,4],uI 35 2 33 34 [0,1,2],uF 36 0 35 [0,1,2],uL 37 36 [0,1,2],oM 38 (.appendD 1 (.t 31) (.t 37)) [0,1],uS 39 [0,1,2,3,4,5,6,7,8,9],uF 40 5 1 [0,1,2,3,4,5,6,7,8,9,10],uL 41 40 [0,1,2,3,4,5,6,7,8,9,10],uM 42 4 [0,1,2,3,4,5,6,7,8,9,10,11,12],uI 43 2 41 42 [0,1,2,3,4,5,6,7,8,9,10],uF 44 1 43 [0,1,2,3,4,5,6,7,8,9,10],uL 45 44 [0,1,2,3,4,5,6,7,8,9,10],oM 46 (.appendD 1 (.t 39) (.t 45)) [0,1],oM 47 (.build [(.nilsl 1),(.nilsl 1)] [(0,1,(.t 38)),(1,1,(.t 46))]) [0,1],oM 48 (.bslice 2 [.list true [],.list true []] 1 [(0,(.t 47))]) [0,1],⟨some 49,.append 2 (.t 30) (.t 48),none,[],4⟩,qF 50 5 3,⟨none,.store 1 (.t 50) (.t 49),none,[],3⟩])) (.ops [qM 27 4,qK 28 .add 27 1,qM 4 28]))
def ir7:C:=.seq (.ops [oB 1 (.box (.t 0)),oB 2 (.alloc (.agg [zI,zI,(.nilsl 3),(.nilsl 2),(.nilsl 3),(.nilsl 2)]))]) (.seq (.draw [qF 5 0 1,qL 6 5,uF 7 1 1 [0,1],uL 8 7 [0,1],oM 9 (.bslice 3 [zD,zD,zD] 0 []) [0,1,2,3],uF 10 2 1 [0,1,2,3,4],uL 11 10 [0,1,2,3,4],oM 12 (.append 3 (.t 9) (.t 11)) [0,1,2,3],oM 13 (.bslice 2 [zD,zD] 0 []) [0,1,2,3,4,5,6,7],uF 14 3 1 [0,1,2,3,4,5,6,7,8],uL 15 14 [0,1,2,3,4,5,6,7,8],oM 16 (.append 2 (.t 13) (.t 15)) [0,1,2,3],oM 17 (.bslice 3 [zD,zD,zD] 0 []) [0,1,2,3,4,5,6,7,8,9,10,11],uF 18 4 1 [0,1,2,3,4,5,6,7,8,9,10,11,12],uL 19 18 [0,1,2,3,4,5,6,7,8,9,10,11,12],oM 20 (.append 3 (.t 17) (.t 19)) [0,1,2,3],oB 21 (.build [zI,zI,(.nilsl 3),(.nilsl 2),(.nilsl 3),(.nilsl 2)] [(0,1,(.t 6)),(1,1,(.t 8)),(2,1,(.t 12)),(3,1,(.t 16)),(4,1,(.t 20))]),oM 3 (.alloc (.agg [zI,zI,(.nilsl 3),(.nilsl 2),(.nilsl 3),(.nilsl 2)])) [0,1,2,3,4,5,6,7,8,9,10,11,12,13,14,15,16],⟨none,.store 6 (.t 3) (.t 21),none,[],3⟩]) (.seq (.seq (.ops [qW 4 0]) (.block 0 (.loop [1,2,3,4] [2,3] ZsV))) (.seq (.ops [qA 51 6 3,oA (.store 6 (.t 2) (.t 51))]) .ret)))
def fn7:FnI:=⟨1,ir7,[(2,some (6,true))]⟩
def ZsS:C:=.seq (.ops [qB 17 .lss 16 15]) (.seq (.cond (.t 17) .skip (.exit 0)) (.seq (.block 1 (.seq (.ops [qI 18 2 14 16,qA 19 2 18,oB 7 (.alloc (.d (.agg [zD,zD]))),oA (.store 2 (.t 7) (.t 19))]) (.seq (.ops [qF 20 1 7,qL 21 20,qM 22 1,qB 23 .eql 21 22]) (.cond (.t 23) (.ops [qM 24 5,qF 25 0 7,qL 26 25,oB 27 (.bslice 1 [zD] 1 [(0,(.t 26))]),oB 28 (.append 1 (.t 24) (.t 27)),qM 5 28]) .skip)))) (.ops [qK 29 .add 16 1,qM 16 29])))
def Zs9:C:=.seq (.ops [qB 35 .lss 34 33]) (.seq (.cond (.t 35) .skip (.exit 2)) (.seq (.block 3 (.seq (.ops [qI 36 1 32 34,qL 37 36,qM 9 37]) (.ops [qM 38 5,qF 39 4 2,qL 40 39,qM 41 9,qI 42 3 40 41,qF 43 0 42,qL 44 43,oB 45 (.bslice 1 [zD] 1 [(0,(.t 44))]),oB 46 (.append 1 (.t 38) (.t 45)),qM 5 46]))) (.ops [qK 47 .add 34 1,qM 34 47])))
def ir8:C:=.seq (.ops [oB 2 (.box (.t 0)),oB 4 (.mov (.c (.nilsl 1)))]) (.seq (.seq (.ops [qA 10 6 2,qC 11 13 10,qK 12 .neq 11 0]) (.cond (.t 12) (.seq (.ops [oB 4 (.mov (.c (.nilsl 1)))]) .ret) .skip)) (.seq (.ops [oB 5 (.mov (.c (.nilsl 1)))]) (.seq (.seq (.ops [qF 13 3 2,qL 14 13,qN 15 14,qW 16 0]) (.block 0 (.loop [1,2,5,14,15,16] [1,2,5] ZsS))) (.seq (.seq (.ops [qA 30 6 2,qM 31 1,qD 32 6 30 31,qN 33 32,qW 34 0]) (.block 2 (.loop [2,5,32,33,34] [5] Zs9))) (.seq (.ops [qM 48 5,qM 4 48]) .ret)))))
def fn8:FnI:=⟨2,ir8,[(4,none)]⟩
def ir9:C:=.seq (.ops [oB 1 (.box (.t 0)),qW 2 0]) (.seq (.seq (.ops [qF 3 2 1,qL 4 3,qN 5 4,qK 6 .lss 5 1,qM 7 6,vF 8 2 1 7 false,vL 9 8 7 false,vN 10 9 7 false,vK 11 .gtr 10 16 7 false,oB 12 (.pick (.t 7) bT (.t 11)),qM 13 12,vF 14 3 1 13 false,vL 15 14 13 false,vN 16 15 13 false,vK 17 .gtr 16 48 13 false,oB 18 (.pick (.t 13) bT (.t 17)),qM 19 18,vF 20 4 1 19 false,vL 21 20 19 false,vN 22 21 19 false,vK 23 .gtr 22 16 19 false,oB 24 (.pick (.t 19) bT (.t 23)),qM 25 24,vF 26 5 1 25 false,vL 27 26 25 false,vN 28 27 25 false,vK 29 .gtr 28 4 25 false,oB 30 (.pick (.t 25) bT (.t 29))]) (.cond (.t 30) (.seq (.ops [qW 2 50]) .ret) .skip)) (.seq (.seq (.ops [qA 31 6 1,qC 32 17 31,qU 33 32]) (.cond (.t 33) (.seq (.ops [qW 2 51]) .ret) .skip)) (.seq (.seq (.ops [qA 34 6 1,qC 35 18 34,qU 36 35]) (.cond (.t 36) (.seq (.ops [qW 2 52]) .ret) .skip)) (.seq (.seq (.ops [qA 37 6 1,qC 38 19 37,qU 39 38]) (.cond (.t 39) (.seq (.ops [qW 2 53]) .ret) .skip)) (.seq (.seq (.ops [qA 40 6 1,qC 41 20 40,qU 42 41]) (.cond (.t 42) (.seq (.ops [qW 2 54]) .ret) .skip)) (.seq (.seq (.ops [qA 43 6 1,qC 44 21 43,qU 45 44]) (.cond (.t 45) (.seq (.ops [qW 2 55]) .ret) .skip)) (.seq (.ops [qW 2 0]) .ret)))))))
def fn9:FnI:=⟨1,ir9,[(2,none)]⟩
def Zrv:C:=.seq (.seq (.ops [qM 11 5,qM 12 0,qN 13 12,qB 14 .lss 11 13]) (.cond (.t 14) .skip (.exit 0))) (.seq (.block 1 (.seq (.draw [qM 17 0,uM 18 5 [0],qI 19 1 17 18,qL 20 19,uM 21 1 [0,1,2,3],uM 22 5 [0,1,2,3,4],uI 23 1 21 22 [0,1,2,3],uL 24 23 [0,1,2,3],qB 25 .neq 20 24]) (.cond (.t 25) (.seq (.ops [oB 4 (.mov bF)]) .ret) .skip))) (.ops [qM 15 5,qK 16 .add 15 1,qM 5 16]))
def Zxf:C:=.seq (.ops [oB 4 (.mov bF)]) (.seq (.seq (.ops [qM 6 0,qN 7 6,qM 8 1,qN 9 8,qB 10 .neq 7 9]) (.cond (.t 10) (.seq (.ops [oB 4 (.mov bF)]) .ret) .skip)) (.seq (.seq (.ops [qW 5 0]) (.block 0 (.loop [0,1,5] [4] Zrv))) (.seq (.ops [oB 4 (.mov bT)]) .ret)))
def Ztj:FnI:=⟨2,Zxf,[(4,none)]⟩
def ZrI:C:=.seq (.seq (.ops [qM 13 7,qF 14 4 2,qL 15 14,qN 16 15,qB 17 .lss 13 16]) (.cond (.t 17) .skip (.exit 2))) (.seq (.block 3 (.seq (.ops [qF 20 4 2,qL 21 20,qM 22 7,qI 23 3 21 22,qF 24 1 23,qL 25 24,qM 26 1,qB 27 .eql 25 26,qM 28 27,vF 29 4 2 28 true,vL 30 29 28 true,vM 31 7 28 true,vI 32 3 30 31 28 true,vF 33 2 32 28 true,vL 34 33 28 true,vM 35 6 28 true,vB 36 .eql 34 35 28 true,qP 37 28 36]) (.cond (.t 37) (.ops [qM 38 5,qM 39 7,oB 40 (.bslice 1 [zD] 1 [(0,(.t 39))]),oB 41 (.append 1 (.t 38) (.t 40)),qM 5 41]) .skip))) (.ops [qM 18 7,qK 19 .add 18 1,qM 7 19]))
def Zq4:C:=.seq (.seq (.ops [qM 9 6,qK 10 .lss 9 100]) (.cond (.t 10) .skip (.exit 0))) (.seq (.block 1 (.seq (.ops [qW 7 0]) (.block 2 (.loop [1,2,5,6,7] [1,2,5,6] ZrI)))) (.ops [qM 11 6,qK 12 .add 11 1,qM 6 12]))
def ZwS:C:=.seq (.ops [oB 2 (.box (.t 0)),oB 4 (.mov (.c (.nilsl 1)))]) (.seq (.ops [oB 8 (.bslice 1 [zD] 0 []),qM 5 8]) (.seq (.seq (.ops [qW 6 1]) (.block 0 (.loop [1,2,5,6] [5] Zq4))) (.seq (.ops [qM 42 5,qM 4 42]) .ret)))
def Zul:FnI:=⟨2,ZwS,[(4,none)]⟩
def Zqc:C:=.seq (.seq (.ops [qM 10 6,qF 11 3 2,qL 12 11,qN 13 12,qB 14 .lss 10 13]) (.cond (.t 14) .skip (.exit 0))) (.seq (.block 1 (.seq (.ops [qF 17 3 2,qL 18 17,qM 19 6,qI 20 2 18 19,qF 21 1 20,qL 22 21,qM 23 1,qB 24 .eql 22 23]) (.cond (.t 24) (.ops [qM 25 5,qF 26 3 2,qL 27 26,qM 28 6,qI 29 2 27 28,qF 30 0 29,qL 31 30,oB 32 (.bslice 1 [zD] 1 [(0,(.t 31))]),oB 33 (.append 1 (.t 25) (.t 32)),qM 5 33]) .skip))) (.ops [qM 15 6,qK 16 .add 15 1,qM 6 16]))
def Zrr:C:=.seq (.seq (.ops [qM 37 8,qM 38 7,qN 39 38,qB 40 .lss 37 39]) (.cond (.t 40) .skip (.exit 2))) (.seq (.block 3 (.draw [qM 43 5,uF 44 4 2 [0],uL 45 44 [0],uM 46 7 [0,1,2],uM 47 8 [0,1,2,3],uI 48 1 46 47 [0,1,2],uL 49 48 [0,1,2],uI 50 3 45 49 [0],uF 51 0 50 [0],uL 52 51 [0],oM 53 (.bslice 1 [zD] 1 [(0,(.t 52))]) [0],⟨some 54,.append 1 (.t 43) (.t 53),none,[],4⟩,qM 5 54])) (.ops [qM 41 8,qK 42 .add 41 1,qM 8 42]))
def Zwj:C:=.seq (.ops [oB 2 (.box (.t 0)),oB 4 (.mov (.c (.nilsl 1)))]) (.seq (.ops [oB 9 (.bslice 1 [zD] 0 []),qM 5 9]) (.seq (.seq (.ops [qW 6 0]) (.block 0 (.loop [1,2,5,6] [1,2,5] Zqc))) (.seq (.ops [qA 34 6 2,qM 35 1,qD 36 11 34 35,qM 7 36]) (.seq (.seq (.ops [qW 8 0]) (.block 2 (.loop [2,5,7,8] [5] Zrr))) (.seq (.ops [qM 55 5,qM 4 55]) .ret)))))
def ZtJ:FnI:=⟨2,Zwj,[(4,none)]⟩
def Zq5:C:=.seq (.ops [qB 64 .lss 63 62]) (.seq (.cond (.t 64) .skip (.exit 0)) (.seq (.block 1 (.seq (.ops [qM 65 63,qI 66 2 61 63,qA 67 2 66,oB 6 (.alloc (.d (.agg [zD,zD]))),qM 5 65,oA (.store 2 (.t 6) (.t 67))]) (.seq (.draw [qA 68 6 1,uF 69 0 6 [0],uL 70 69 [0],uF 71 1 6 [0,1,2],uL 72 71 [0,1,2],oB 73 (.call 26 [.t 68,.t 70,.t 72]),qU 74 73,qM 75 74,vF 76 3 1 75 false,vL 77 76 75 false,wM 78 5 75 false [8,9],oG 79 (.slice 2 (.t 77) none (some (.t 78)) none) 75 false,wA 80 2 6 75 false [8,9,10,11],oG 81 (.call 27 [.t 79,.t 80]) 75 false,oB 82 (.pick (.t 75) bT (.t 81))]) (.cond (.t 82) (.seq (.ops [qW 2 53]) .ret) .skip)))) (.ops [qK 83 .add 63 1,qM 63 83])))
def Zrw:C:=.seq (.ops [qB 88 .lss 87 86]) (.seq (.cond (.t 88) .skip (.exit 2)) (.seq (.block 3 (.seq (.ops [qM 89 87,qI 90 3 85 87,qA 91 3 90,oB 8 (.alloc (.d (.agg [zD,zD,zD]))),qM 7 89,oA (.store 3 (.t 8) (.t 91))]) (.seq (.ops [oB 92 (.mkfn 28 [.t 8]),qM 9 92]) (.seq (.draw [qA 93 6 1,uF 94 0 8 [0],uL 95 94 [0],uF 96 1 8 [0,1,2],uL 97 96 [0,1,2],oB 98 (.call 26 [.t 93,.t 95,.t 97]),qU 99 98,qM 100 99,vF 101 2 8 100 false,vL 102 101 100 false,wF 103 2 1 100 false [8,9],wL 104 103 100 false [8,9],wF 105 1 8 100 false [8,9,10,11],wL 106 105 100 false [8,9,10,11],wI 107 3 104 106 100 false [8,9],wF 108 2 107 100 false [8,9],wL 109 108 100 false [8,9],⟨some 110,.bin .sub (.t 109) (iN 1),some (100,false),[8,9],0⟩,oG 111 (.call 22 [.t 102,(iN 1),.t 110]) 100 false,vU 112 111 100 false,oB 113 (.pick (.t 100) bT (.t 112)),qM 114 113,vF 115 4 1 114 false,vL 116 115 114 false,wM 117 7 114 false [22,23],oG 118 (.slice 3 (.t 116) none (some (.t 117)) none) 114 false,wM 119 9 114 false [22,23,24,25],oG 120 (.call 29 [.t 118,.t 119]) 114 false,oB 121 (.pick (.t 114) bT (.t 120))]) (.cond (.t 121) (.seq (.ops [qW 2 54]) .ret) .skip))))) (.ops [qK 122 .add 87 1,qM 87 122])))
def Zqu:C:=.seq (.ops [qB 127 .lss 126 125]) (.seq (.cond (.t 127) .skip (.exit 4)) (.seq (.block 5 (.seq (.ops [qI 128 2 124 126,qA 129 2 128,oB 11 (.alloc (.agg [(.nilsl 1),(.nilsl 1)])),oA (.store 2 (.t 11) (.t 129))]) (.seq (.ops [oB 130 (.mkfn 30 [.t 11]),qM 12 130]) (.seq (.ops [qA 131 6 1,qF 132 0 11,qL 133 132,qD 134 32 131 133,qU 135 134,qM 136 135,vA 137 6 1 136 false,vF 138 1 11 136 false,vL 139 138 136 false,oG 140 (.call 32 [.t 137,.t 139]) 136 false,vU 141 140 136 false,oB 142 (.pick (.t 136) bT (.t 141)),qM 143 142,vF 144 0 11 143 false,vL 145 144 143 false,vM 146 12 143 false,oG 147 (.call 33 [.t 145,.t 146]) 143 false,oB 148 (.pick (.t 143) bT (.t 147))]) (.cond (.t 148) (.seq (.ops [qW 2 55]) .ret) .skip))))) (.ops [qK 149 .add 126 1,qM 126 149])))
def ZwD:C:=.seq (.ops [oB 1 (.box (.t 0)),qW 2 0]) (.seq (.seq (.ops [qF 13 2 1,qL 14 13,qN 15 14,oB 16 (.call 22 [.t 15,(iN 1),(iN 16)]),qU 17 16,qM 18 17,vF 19 3 1 18 false,vL 20 19 18 false,vN 21 20 18 false,vK 22 .gtr 21 48 18 false,oB 23 (.pick (.t 18) bT (.t 22)),qM 24 23,vF 25 4 1 24 false,vL 26 25 24 false,vN 27 26 24 false,vK 28 .gtr 27 16 24 false,oB 29 (.pick (.t 24) bT (.t 28)),qM 30 29,vF 31 5 1 30 false,vL 32 31 30 false,vN 33 32 30 false,vK 34 .gtr 33 4 30 false,oB 35 (.pick (.t 30) bT (.t 34))]) (.cond (.t 35) (.seq (.ops [qW 2 50]) .ret) .skip)) (.seq (.seq (.ops [qF 37 0 1,qL 38 37,qC 39 23 38,qM 36 39,qE 40 36 0,qE 41 36 1,qM 3 40,qM 4 41]) (.seq (.ops [qM 42 4,qU 43 42,qM 44 43,vF 45 0 1 44 false,vL 46 45 44 false,vK 47 .gtr 46 4096 44 false,oB 48 (.pick (.t 44) bT (.t 47)),qM 49 48,vF 50 1 1 49 false,vL 51 50 49 false,vF 52 0 1 49 false,vL 53 52 49 false,oG 54 (.call 22 [.t 51,(iN 1),.t 53]) 49 false,vU 55 54 49 false,oB 56 (.pick (.t 49) bT (.t 55))]) (.cond (.t 56) (.seq (.ops [qW 2 51]) .ret) .skip))) (.seq (.seq (.ops [qF 57 2 1,qL 58 57,oB 59 (.call 24 [.t 58,(.c (.d (.fn 25 [])))])]) (.cond (.t 59) (.seq (.ops [qW 2 52]) .ret) .skip)) (.seq (.seq (.ops [qF 60 3 1,qL 61 60,qN 62 61,qW 63 0]) (.block 0 (.loop [1,61,62,63] [1,2] Zq5))) (.seq (.seq (.ops [qF 84 4 1,qL 85 84,qN 86 85,qW 87 0]) (.block 2 (.loop [1,85,86,87] [1,2] Zrw))) (.seq (.seq (.ops [qF 123 5 1,qL 124 123,qN 125 124,qW 126 0]) (.block 4 (.loop [1,124,125,126] [2] Zqu))) (.seq (.ops [qW 2 0]) .ret)))))))
def Zub:FnI:=⟨1,ZwD,[(2,none)]⟩
def Zwn:C:=.seq (.ops [oB 2 (.box (.t 0)),oB 3 (.box (.t 1)),oB 4 (.mov bF)]) (.seq (.ops [oB 5 (.mov (.c (.d (.fn 34 []))))]) (.seq (.ops [qF 6 0 2,qL 7 6,qF 8 0 3,qL 9 8,qB 10 .eql 7 9,qM 11 10,vF 12 1 2 11 true,vL 13 12 11 true,vF 14 1 3 11 true,vL 15 14 11 true,vB 16 .eql 13 15 11 true,qP 17 11 16,qM 18 17,vF 19 2 2 18 true,vL 20 19 18 true,vF 21 2 3 18 true,vL 22 21 18 true,oG 23 (.call 36 [.t 20,.t 22]) 18 true,qP 24 18 23,qM 25 24,vF 26 3 2 25 true,vL 27 26 25 true,vF 28 3 3 25 true,vL 29 28 25 true,oG 30 (.call 37 [.t 27,.t 29]) 25 true,qP 31 25 30,qM 32 31,vF 33 4 2 32 true,vL 34 33 32 true,vF 35 4 3 32 true,vL 36 35 32 true,oG 37 (.call 38 [.t 34,.t 36]) 32 true,qP 38 32 37,qM 39 38,vF 40 5 2 39 true,vL 41 40 39 true,vF 42 5 3 39 true,vL 43 42 39 true,vM 44 5 39 true,oG 45 (.call 39 [.t 41,.t 43,.t 44]) 39 true,qP 46 39 45,qM 4 46]) .ret))
def Zva:FnI:=⟨2,Zwn,[(4,none)]⟩
def ZvZ:C:=.seq (.ops [qM 5 0,qN 6 5,qM 4 6]) (.ops [qM 7 0,qM 8 4,qM 9 4,oB 10 (.conv .u64 (.t 9)),qC 11 41 10,qM 12 1,oB 13 (.call 40 [.t 7,(iN 0),.t 8,.t 11,.t 12])])
def Zug:FnI:=⟨2,ZvZ,[]⟩
def ZvN:C:=.seq (.ops [qW 5 0]) (.seq (.draw [qF 6 4 2,qL 7 6,uM 8 0 [0,1],qI 9 3 7 8,qF 10 2 9,qL 11 10,uF 12 4 2 [0,1,2,3,4,5],uL 13 12 [0,1,2,3,4,5],uM 14 1 [0,1,2,3,4,5,6,7],uI 15 3 13 14 [0,1,2,3,4,5],uF 16 2 15 [0,1,2,3,4,5],uL 17 16 [0,1,2,3,4,5],qB 18 .sub 11 17,qM 5 18]) .ret)
def Zus:FnI:=⟨3,ZvN,[(5,none)]⟩
def ZvA:C:=.seq (.ops [oB 1 (.box (.t 0)),oB 2 (.mov bF)]) (.seq (.ops [qF 6 0 1,qL 7 6,qC 8 42 7,qM 5 8,qE 9 5 0,qE 10 5 1,qM 3 9,qM 4 10]) (.seq (.ops [qM 11 4,qM 12 11,vF 13 0 1 12 true,vL 14 13 12 true,vK 15 .leq 14 4096 12 true,qP 16 12 15,qM 17 16,vF 18 1 1 17 true,vL 19 18 17 true,vK 20 .geq 19 1 17 true,qP 21 17 20,qM 22 21,vF 23 1 1 22 true,vL 24 23 22 true,vF 25 0 1 22 true,vL 26 25 22 true,vB 27 .leq 24 26 22 true,qP 28 22 27,qM 2 28]) .ret))
def Zuz:FnI:=⟨1,ZvA,[(2,none)]⟩
def ZqT:C:=.seq (.seq (.ops [qM 5 3,qF 6 2 1,qL 7 6,qN 8 7,qB 9 .lss 5 8]) (.cond (.t 9) .skip (.exit 0))) (.seq (.block 1 (.seq (.ops [qF 12 2 1,qL 13 12,qM 14 3,qI 15 3 13 14,qA 16 3 15,oB 4 (.alloc (.d (.agg [zD,zD,zD]))),oA (.store 3 (.t 4) (.t 16))]) (.seq (.ops [qF 17 0 4,qL 18 17,qK 19 .lss 18 0,qM 20 19,vF 21 0 4 20 false,vL 22 21 20 false,vK 23 .gtr 22 5 20 false,oB 24 (.pick (.t 20) bT (.t 23)),qM 25 24,vF 26 1 4 25 false,vL 27 26 25 false,vK 28 .lss 27 0 25 false,oB 29 (.pick (.t 25) bT (.t 28)),qM 30 29,vF 31 1 4 30 false,vL 32 31 30 false,vK 33 .gtr 32 2147483647 30 false,oB 34 (.pick (.t 30) bT (.t 33)),qM 35 34,vF 36 2 4 35 false,vL 37 36 35 false,vK 38 .lss 37 1 35 false,oB 39 (.pick (.t 35) bT (.t 38)),qM 40 39,vF 41 2 4 40 false,vL 42 41 40 false,vK 43 .gtr 42 100 40 false,oB 44 (.pick (.t 40) bT (.t 43))]) (.cond (.t 44) (.seq (.ops [oB 2 (.mov bF)]) .ret) .skip)))) (.ops [qM 10 3,qK 11 .add 10 1,qM 3 11]))
def Zxd:C:=.seq (.ops [oB 1 (.box (.t 0)),oB 2 (.mov bF)]) (.seq (.seq (.ops [qW 3 0]) (.block 0 (.loop [1,3] [2] ZqT))) (.seq (.ops [oB 2 (.mov bT)]) .ret))
def Zut:FnI:=⟨1,Zxd,[(2,none)]⟩
def Zry:C:=.seq (.seq (.ops [qM 37 5,qM 38 3,qB 39 .lss 37 38]) (.cond (.t 39) .skip (.exit 2))) (.seq (.block 3 (.seq (.draw [qF 42 3 1,qL 43 42,uM 44 5 [0,1],qI 45 2 43 44,qF 46 0 45,qL 47 46,uF 48 0 4 [0,1,2,3,4,5],uL 49 48 [0,1,2,3,4,5],qB 50 .eql 47 49,qM 51 50,vF 52 3 1 51 true,vL 53 52 51 true,wM 54 5 51 true [10,11],vI 55 2 53 54 51 true,vF 56 1 55 51 true,vL 57 56 51 true,wF 58 1 4 51 true [10,11,12,13,14,15],wL 59 58 51 true [10,11,12,13,14,15],vB 60 .eql 57 59 51 true,qP 61 51 60]) (.cond (.t 61) (.seq (.ops [oB 2 (.mov bF)]) .ret) .skip))) (.ops [qM 40 5,qK 41 .add 40 1,qM 5 41]))
def Zqn:C:=.seq (.seq (.ops [qM 6 3,qF 7 3 1,qL 8 7,qN 9 8,qB 10 .lss 6 9]) (.cond (.t 10) .skip (.exit 0))) (.seq (.block 1 (.seq (.ops [qF 13 3 1,qL 14 13,qM 15 3,qI 16 2 14 15,qA 17 2 16,oB 4 (.alloc (.d (.agg [zD,zD]))),oA (.store 2 (.t 4) (.t 17))]) (.seq (.seq (.ops [qA 18 6 1,qF 19 0 4,qL 20 19,qD 21 43 18 20,qU 22 21,qM 23 22,vA 24 6 1 23 false,vF 25 1 4 23 false,vL 26 25 23 false,oG 27 (.call 43 [.t 24,.t 26]) 23 false,vU 28 27 23 false,oB 29 (.pick (.t 23) bT (.t 28)),qM 30 29,vF 31 0 4 30 false,vL 32 31 30 false,vF 33 1 4 30 false,vL 34 33 30 false,vB 35 .eql 32 34 30 false,oB 36 (.pick (.t 30) bT (.t 35))]) (.cond (.t 36) (.seq (.ops [oB 2 (.mov bF)]) .ret) .skip)) (.seq (.ops [qW 5 0]) (.block 2 (.loop [1,3,4,5] [1,2,3] Zry)))))) (.ops [qM 11 3,qK 12 .add 11 1,qM 3 12]))
def Zxh:C:=.seq (.ops [oB 1 (.box (.t 0)),oB 2 (.mov bF)]) (.seq (.seq (.ops [qW 3 0]) (.block 0 (.loop [1,3] [2] Zqn))) (.seq (.ops [oB 2 (.mov bT)]) .ret))
def Ztd:FnI:=⟨1,Zxh,[(2,none)]⟩
def Zru:C:=.seq (.seq (.ops [qM 54 5,qM 55 3,qB 56 .lss 54 55]) (.cond (.t 56) .skip (.exit 2))) (.seq (.block 3 (.seq (.draw [qF 59 4 1,qL 60 59,uM 61 5 [0,1],qI 62 3 60 61,qF 63 1 62,qL 64 63,uF 65 1 4 [0,1,2,3,4,5],uL 66 65 [0,1,2,3,4,5],qB 67 .eql 64 66,qM 68 67,vF 69 4 1 68 true,vL 70 69 68 true,wM 71 5 68 true [10,11],vI 72 3 70 71 68 true,vF 73 2 72 68 true,vL 74 73 68 true,wF 75 2 4 68 true [10,11,12,13,14,15],wL 76 75 68 true [10,11,12,13,14,15],vB 77 .eql 74 76 68 true,qP 78 68 77]) (.cond (.t 78) (.seq (.ops [oB 2 (.mov bF)]) .ret) .skip))) (.ops [qM 57 5,qK 58 .add 57 1,qM 5 58]))
def Zrn:C:=.seq (.seq (.ops [qM 6 3,qF 7 4 1,qL 8 7,qN 9 8,qB 10 .lss 6 9]) (.cond (.t 10) .skip (.exit 0))) (.seq (.block 1 (.seq (.ops [qF 13 4 1,qL 14 13,qM 15 3,qI 16 3 14 15,qA 17 3 16,oB 4 (.alloc (.d (.agg [zD,zD,zD]))),oA (.store 3 (.t 4) (.t 17))]) (.seq (.seq (.draw [qA 18 6 1,uF 19 0 4 [0],uL 20 19 [0],qD 21 43 18 20,qU 22 21,qM 23 22,vA 24 6 1 23 false,wF 25 1 4 23 false [6],wL 26 25 23 false [6],oG 27 (.call 43 [.t 24,.t 26]) 23 false,vU 28 27 23 false,oB 29 (.pick (.t 23) bT (.t 28)),qM 30 29,vF 31 0 4 30 false,vL 32 31 30 false,wF 33 1 4 30 false [13,14],wL 34 33 30 false [13,14],vB 35 .eql 32 34 30 false,oB 36 (.pick (.t 30) bT (.t 35)),qM 37 36,vF 38 2 4 37 false,vL 39 38 37 false,vK 40 .lss 39 1 37 false,oB 41 (.pick (.t 37) bT (.t 40)),qM 42 41,vF 43 2 4 42 false,vL 44 43 42 false,wF 45 2 1 42 false [25,26],wL 46 45 42 false [25,26],wF 47 1 4 42 false [25,26,27,28],wL 48 47 42 false [25,26,27,28],wI 49 3 46 48 42 false [25,26],wF 50 2 49 42 false [25,26],wL 51 50 42 false [25,26],vB 52 .geq 44 51 42 false,oB 53 (.pick (.t 42) bT (.t 52))]) (.cond (.t 53) (.seq (.ops [oB 2 (.mov bF)]) .ret) .skip)) (.seq (.ops [qW 5 0]) (.block 2 (.loop [1,3,4,5] [1,2,3] Zru)))))) (.ops [qM 11 3,qK 12 .add 11 1,qM 3 12]))
def ZwM:C:=.seq (.ops [oB 1 (.box (.t 0)),oB 2 (.mov bF)]) (.seq (.seq (.ops [qW 3 0]) (.block 0 (.loop [1,3] [2] Zrn))) (.seq (.ops [oB 2 (.mov bT)]) .ret))
def ZtO:FnI:=⟨1,ZwM,[(2,none)]⟩
def ZrE:C:=.seq (.seq (.ops [qM 30 5,qF 31 0 4,qL 32 31,qN 33 32,qB 34 .lss 30 33]) (.cond (.t 34) .skip (.exit 2))) (.seq (.block 3 (.seq (.draw [qF 37 1 4,qL 38 37,uF 39 0 4 [0,1],uL 40 39 [0,1],uM 41 5 [0,1,2,3],uI 42 1 40 41 [0,1],uL 43 42 [0,1],qD 44 45 38 43]) (.cond (.t 44) (.seq (.ops [oB 2 (.mov bF)]) .ret) .skip))) (.ops [qM 35 5,qK 36 .add 35 1,qM 5 36]))
def Zrs:C:=.seq (.seq (.ops [qM 6 3,qF 7 5 1,qL 8 7,qN 9 8,qB 10 .lss 6 9]) (.cond (.t 10) .skip (.exit 0))) (.seq (.block 1 (.seq (.ops [qF 13 5 1,qL 14 13,qM 15 3,qI 16 2 14 15,qA 17 2 16,oB 4 (.alloc (.agg [(.nilsl 1),(.nilsl 1)])),oA (.store 2 (.t 4) (.t 17))]) (.seq (.seq (.ops [qA 18 6 1,qF 19 0 4,qL 20 19,qD 21 44 18 20,qU 22 21,qM 23 22,vA 24 6 1 23 false,vF 25 1 4 23 false,vL 26 25 23 false,oG 27 (.call 44 [.t 24,.t 26]) 23 false,vU 28 27 23 false,oB 29 (.pick (.t 23) bT (.t 28))]) (.cond (.t 29) (.seq (.ops [oB 2 (.mov bF)]) .ret) .skip)) (.seq (.ops [qW 5 0]) (.block 2 (.loop [1,3,4,5] [1,2,3] ZrE)))))) (.ops [qM 11 3,qK 12 .add 11 1,qM 3 12]))
def Zwa:C:=.seq (.ops [oB 1 (.box (.t 0)),oB 2 (.mov bF)]) (.seq (.seq (.ops [qW 3 0]) (.block 0 (.loop [1,3] [2] Zrs))) (.seq (.ops [oB 2 (.mov bT)]) .ret))
def Zuf:FnI:=⟨1,Zwa,[(2,none)]⟩
def Zw4:C:=.seq (.ops [oB 6 (.mov bF)]) (.seq (.ops [qM 7 1,qM 8 0,qB 9 .leq 7 8,qM 10 9,vM 11 0 10 true,vM 12 2 10 true,vB 13 .leq 11 12 10 true,qP 14 10 13,qM 6 14]) .ret)
def ZtW:FnI:=⟨3,Zw4,[(6,none)]⟩
def Zv7:C:=.seq (.ops [qW 2 0,oB 3 (.mov bF)]) (.seq (.seq (.ops [qM 4 0,qC 5 46 4,qK 6 .neq 5 0,qM 7 6,vM 8 0 7 false,oG 9 (.conv .u64 (.t 8)) 7 false,oG 10 (.call 47 [.t 9]) 7 false,vK 11 .neq 10 1 7 false,oB 12 (.pick (.t 7) bT (.t 11))]) (.cond (.t 12) (.seq (.ops [qW 2 0,oB 3 (.mov bF)]) .ret) .skip)) (.seq (.ops [qM 13 0,oB 14 (.conv .u64 (.t 13)),qC 15 48 14,qM 2 15,oB 3 (.mov bT)]) .ret))
def Zur:FnI:=⟨1,Zv7,[(2,none),(3,none)]⟩
def Zwp:C:=.seq (.ops [oB 4 (.mov bF)]) (.seq (.ops [qM 5 0,qM 6 1,qD 7 49 5 6,qK 8 .geq 7 0,qM 4 8]) .ret)
def Ztm:FnI:=⟨2,Zwp,[(4,none)]⟩
def Zvx:C:=.seq (.ops [oB 1 (.box (.t 0)),oB 2 (.mov bF)]) (.seq (.ops [qF 3 0 1,qL 4 3,oB 5 (.call 22 [.t 4,(iN 0),(iN 5)]),qU 6 5,qM 7 6,vF 8 1 1 7 false,vL 9 8 7 false,oG 10 (.call 22 [.t 9,(iN 0),(iN 2147483647)]) 7 false,vU 11 10 7 false,oB 12 (.pick (.t 7) bT (.t 11)),qM 13 12,vF 14 2 1 13 false,vL 15 14 13 false,oG 16 (.call 22 [.t 15,(iN 1),(iN 100)]) 13 false,vU 17 16 13 false,oB 18 (.pick (.t 13) bT (.t 17)),qM 2 18]) .ret)
def Zue:FnI:=⟨1,Zvx,[(2,none)]⟩
def Zwh:C:=.seq (.ops [oB 3 (.box (.t 0)),oB 6 (.mov bF)]) (.seq (.ops [qM 7 1,qM 8 2,qB 9 .neq 7 8,qM 10 9,vM 11 1 10 true,vF 12 2 3 10 true,vL 13 12 10 true,vN 14 13 10 true,vK 15 .sub 14 1 10 true,oG 16 (.call 22 [.t 11,(iN 0),.t 15]) 10 true,qP 17 10 16,qM 18 17,vM 19 2 18 true,vF 20 2 3 18 true,vL 21 20 18 true,vN 22 21 18 true,vK 23 .sub 22 1 18 true,oG 24 (.call 22 [.t 19,(iN 0),.t 23]) 18 true,qP 25 18 24,qM 6 25]) .ret)
def Ztk:FnI:=⟨3,Zwh,[(6,none)]⟩
def Zxk:C:=.seq (.ops [oB 3 (.box (.t 1)),oB 4 (.mov bF)]) (.seq (.ops [qM 5 0,qA 6 2 3,qD 7 50 5 6,qK 8 .geq 7 0,qM 4 8]) .ret)
def Ztg:FnI:=⟨2,Zxk,[(4,none)]⟩
def Zvp:C:=.seq (.ops [oB 2 (.box (.t 0)),oB 3 (.mov bF)]) (.seq (.ops [qF 4 1 2,qL 5 4,qF 6 1 1,qL 7 6,qB 8 .eql 5 7,qM 9 8,vF 10 2 2 9 true,vL 11 10 9 true,vF 12 2 1 9 true,vL 13 12 9 true,vB 14 .eql 11 13 9 true,qP 15 9 14,qM 3 15]) .ret)
def ZtE:FnI:=⟨2,Zvp,[(3,none)]⟩
def Zwv:C:=.seq (.ops [oB 4 (.mov bF)]) (.seq (.ops [qM 5 0,qM 6 1,qD 7 51 5 6,qK 8 .geq 7 0,qM 4 8]) .ret)
def ZtG:FnI:=⟨2,Zwv,[(4,none)]⟩
def Zv8:C:=.seq (.ops [oB 3 (.mov bF)]) (.seq (.ops [qF 4 1 1,qL 5 4,qM 6 0,qD 7 31 5 6,qM 3 7]) .ret)
def Ztr:FnI:=⟨2,Zv8,[(3,none)]⟩
def Zwz:C:=.seq (.ops [oB 4 (.mov bF)]) (.seq (.ops [qM 5 0,qM 6 1,qD 7 52 5 6,qK 8 .geq 7 0,qM 4 8]) .ret)
def ZtK:FnI:=⟨2,Zwz,[(4,none)]⟩
def ZqI:C:=.seq (.ops [qB 10 .lss 9 8]) (.seq (.cond (.t 10) .skip (.exit 0)) (.seq (.block 1 (.seq (.ops [qM 11 9,qI 12 1 7 9,qL 13 12,qM 5 11,qM 6 13]) (.seq (.ops [qM 14 6,qF 15 2 2,qL 16 15,qN 17 16,qK 18 .sub 17 1,oB 19 (.call 22 [.t 14,(iN 0),.t 18]),qU 20 19,qM 21 20,vM 22 5 21 false,vK 23 .gtr 22 0 21 false,vM 24 23 21 false,vM 25 1 24 true,vM 26 5 24 true,vK 27 .sub 26 1 24 true,vI 28 1 25 27 24 true,vL 29 28 24 true,vM 30 6 24 true,vB 31 .geq 29 30 24 true,oG 32 (.pick (.t 24) (.t 31) bF) 21 false,oB 33 (.pick (.t 21) bT (.t 32))]) (.cond (.t 33) (.seq (.ops [oB 4 (.mov bF)]) .ret) .skip)))) (.ops [qK 34 .add 9 1,qM 9 34])))
def Zwf:C:=.seq (.ops [oB 2 (.box (.t 0)),oB 4 (.mov bF)]) (.seq (.seq (.ops [qM 7 1,qN 8 7,qW 9 0]) (.block 0 (.loop [1,2,7,8,9] [1,4] ZqI))) (.seq (.ops [qM 35 1,qN 36 35,qK 37 .gtr 36 0,qM 4 37]) .ret))
def ZtF:FnI:=⟨2,Zwf,[(4,none)]⟩
def ZwX:C:=.seq (.ops [oB 4 (.mov bF)]) (.seq (.ops [qM 5 0,qM 6 1,qD 7 53 5 6,qK 8 .geq 7 0,qM 4 8]) .ret)
def Zui:FnI:=⟨2,ZwX,[(4,none)]⟩
def Zv3:C:=.seq (.ops [oB 2 (.box (.t 0)),oB 3 (.box (.t 1)),oB 4 (.mov bF)]) (.seq (.ops [qF 5 0 2,qL 6 5,qF 7 0 3,qL 8 7,qD 9 35 6 8,qM 10 9,vF 11 1 2 10 true,vL 12 11 10 true,vF 13 1 3 10 true,vL 14 13 10 true,oG 15 (.call 35 [.t 12,.t 14]) 10 true,qP 16 10 15,qM 4 16]) .ret)
def ZuL:FnI:=⟨2,Zv3,[(4,none)]⟩
def Zuo:C:=.seq (.ops [qB 14 .lss 13 12]) (.seq (.cond (.t 14) .skip (.exit 0)) (.seq (.block 1 (.seq (.ops [qM 15 13,qM 5 15]) (.seq (.draw [qM 16 0,uM 17 5 [0],qI 18 1 16 17,qL 19 18,uM 20 1 [0,1,2,3],uM 21 5 [0,1,2,3,4],uI 22 1 20 21 [0,1,2,3],uL 23 22 [0,1,2,3],qB 24 .neq 19 23]) (.cond (.t 24) (.seq (.ops [oB 4 (.mov bF)]) .ret) .skip)))) (.ops [qK 25 .add 13 1,qM 13 25])))
def ZwK:C:=.seq (.ops [oB 4 (.mov bF)]) (.seq (.seq (.ops [qM 6 0,qN 7 6,qM 8 1,qN 9 8,qB 10 .neq 7 9]) (.cond (.t 10) (.seq (.ops [oB 4 (.mov bF)]) .ret) .skip)) (.seq (.seq (.ops [qM 11 0,qN 12 11,qW 13 0]) (.block 0 (.loop [0,1,12,13] [4] Zuo))) (.seq (.ops [oB 4 (.mov bT)]) .ret)))
def Zu0:FnI:=⟨2,ZwK,[(4,none)]⟩
def Zts:C:=.seq (.ops [qB 14 .lss 13 12]) (.seq (.cond (.t 14) .skip (.exit 0)) (.seq (.block 1 (.seq (.ops [qM 15 13,qM 5 15]) (.seq (.draw [qM 16 0,uM 17 5 [0],qI 18 3 16 17,qA 19 3 18,uM 20 1 [0,1,2,3],uM 21 5 [0,1,2,3,4],uI 22 3 20 21 [0,1,2,3],uA 23 3 22 [0,1,2,3],oB 24 (.eqv [false,false,false] true (.t 19) (.t 23))]) (.cond (.t 24) (.seq (.ops [oB 4 (.mov bF)]) .ret) .skip)))) (.ops [qK 25 .add 13 1,qM 13 25])))
def Zv5:C:=.seq (.ops [oB 4 (.mov bF)]) (.seq (.seq (.ops [qM 6 0,qN 7 6,qM 8 1,qN 9 8,qB 10 .neq 7 9]) (.cond (.t 10) (.seq (.ops [oB 4 (.mov bF)]) .ret) .skip)) (.seq (.seq (.ops [qM 11 0,qN 12 11,qW 13 0]) (.block 0 (.loop [0,1,12,13] [4] Zts))) (.seq (.ops [oB 4 (.mov bT)]) .ret)))
def Zu7:FnI:=⟨2,Zv5,[(4,none)]⟩
def Zte:C:=.seq (.ops [qB 14 .lss 13 12]) (.seq (.cond (.t 14) .skip (.exit 0)) (.seq (.block 1 (.seq (.ops [qM 15 13,qM 5 15]) (.seq (.draw [qM 16 0,uM 17 5 [0],qI 18 2 16 17,qA 19 2 18,uM 20 1 [0,1,2,3],uM 21 5 [0,1,2,3,4],uI 22 2 20 21 [0,1,2,3],uA 23 2 22 [0,1,2,3],oB 24 (.eqv [false,false] true (.t 19) (.t 23))]) (.cond (.t 24) (.seq (.ops [oB 4 (.mov bF)]) .ret) .skip)))) (.ops [qK 25 .add 13 1,qM 13 25])))
def ZwZ:C:=.seq (.ops [oB 4 (.mov bF)]) (.seq (.seq (.ops [qM 6 0,qN 7 6,qM 8 1,qN 9 8,qB 10 .neq 7 9]) (.cond (.t 10) (.seq (.ops [oB 4 (.mov bF)]) .ret) .skip)) (.seq (.seq (.ops [qM 11 0,qN 12 11,qW 13 0]) (.block 0 (.loop [0,1,12,13] [4] Zte))) (.seq (.ops [oB 4 (.mov bT)]) .ret)))
def Zu5:FnI:=⟨2,ZwZ,[(4,none)]⟩
def ZtI:C:=.seq (.ops [qB 14 .lss 13 12]) (.seq (.cond (.t 14) .skip (.exit 0)) (.seq (.block 1 (.seq (.ops [qM 15 13,qM 5 15]) (.seq (.draw [qM 16 0,uM 17 5 [0],qI 18 3 16 17,qA 19 3 18,uM 20 1 [0,1,2,3],uM 21 5 [0,1,2,3,4],uI 22 3 20 21 [0,1,2,3],uA 23 3 22 [0,1,2,3],oB 24 (.eqv [false,false,false] true (.t 19) (.t 23))]) (.cond (.t 24) (.seq (.ops [oB 4 (.mov bF)]) .ret) .skip)))) (.ops [qK 25 .add 13 1,qM 13 25])))
def Zwk:C:=.seq (.ops [oB 4 (.mov bF)]) (.seq (.seq (.ops [qM 6 0,qN 7 6,qM 8 1,qN 9 8,qB 10 .neq 7 9]) (.cond (.t 10) (.seq (.ops [oB 4 (.mov bF)]) .ret) .skip)) (.seq (.seq (.ops [qM 11 0,qN 12 11,qW 13 0]) (.block 0 (.loop [0,1,12,13] [4] ZtI))) (.seq (.ops [oB 4 (.mov bT)]) .ret)))
def ZuE:FnI:=⟨2,Zwk,[(4,none)]⟩
def Ztt:C:=.seq (.ops [qB 18 .lss 17 16]) (.seq (.cond (.t 18) .skip (.exit 0)) (.seq (.block 1 (.seq (.ops [qM 19 17,qI 20 2 15 17,qA 21 2 20,oB 8 (.alloc (.agg [(.nilsl 1),(.nilsl 1)])),qM 7 19,oA (.store 2 (.t 8) (.t 21))]) (.seq (.ops [qM 22 1,qM 23 7,qI 24 2 22 23,qA 25 2 24,oB 9 (.alloc (.agg [(.nilsl 1),(.nilsl 1)])),oA (.store 2 (.t 9) (.t 25))]) (.seq (.ops [qM 26 2,qA 27 2 8,qA 28 2 9,oB 29 (.callv (.t 26) [.t 27,.t 28]),qU 30 29]) (.cond (.t 30) (.seq (.ops [oB 6 (.mov bF)]) .ret) .skip))))) (.ops [qK 31 .add 17 1,qM 17 31])))
def ZwL:C:=.seq (.ops [oB 6 (.mov bF)]) (.seq (.seq (.ops [qM 10 0,qN 11 10,qM 12 1,qN 13 12,qB 14 .neq 11 13]) (.cond (.t 14) (.seq (.ops [oB 6 (.mov bF)]) .ret) .skip)) (.seq (.seq (.ops [qM 15 0,qN 16 15,qW 17 0]) (.block 0 (.loop [1,2,15,16,17] [6] Ztt))) (.seq (.ops [oB 6 (.mov bT)]) .ret)))
def ZuD:FnI:=⟨3,ZwL,[(6,none)]⟩
def ZqG:C:=.block 1 (.seq (.ops [qM 21 2,qM 22 1,qB 23 .sub 21 22,qM 12 23]) (.seq (.seq (.ops [qM 24 12,qK 25 .leq 24 12]) (.cond (.t 25) (.seq (.ops [qM 26 0,qM 27 1,qM 28 2,qM 29 4,oB 30 (.call 54 [.t 26,.t 27,.t 28,.t 29])]) .ret) .skip)) (.seq (.seq (.ops [qM 31 3,qK 32 .eql 31 0]) (.cond (.t 32) (.seq (.ops [qM 33 0,qM 34 1,qM 35 2,qM 36 4,oB 37 (.call 55 [.t 33,.t 34,.t 35,.t 36])]) .ret) .skip)) (.seq (.seq (.ops [qM 38 10,qU 39 38]) (.cond (.t 39) (.seq (.ops [qM 40 0,qM 41 1,qM 42 2,qM 43 4,oB 44 (.call 56 [.t 40,.t 41,.t 42,.t 43])]) (.ops [qM 45 3,qK 46 .sub 45 1,qM 3 46])) .skip)) (.seq (.ops [qM 48 0,qM 49 1,qM 50 2,qM 51 4,oB 52 (.call 57 [.t 48,.t 49,.t 50,.t 51]),qM 47 52,qE 53 47 0,qE 54 47 1,qM 13 53,qM 14 54]) (.seq (.seq (.ops [qM 55 14,qK 56 .eql 55 2]) (.cond (.t 56) (.seq (.ops [qM 57 0,qM 58 1,qM 59 2,qM 60 4,oB 61 (.call 58 [.t 57,.t 58,.t 59,.t 60])]) (.seq (.ops [qM 62 2,qK 63 .sub 62 1,qM 64 13,qM 65 1,qB 66 .sub 64 65,qB 67 .sub 63 66,qM 13 67]) (.ops [qW 14 1]))) .skip)) (.seq (.seq (.ops [qM 68 10,qM 69 68,vM 70 11 69 true,qP 71 69 70,qM 72 71,vM 73 14 72 true,vK 74 .eql 73 1 72 true,qP 75 72 74]) (.cond (.t 75) (.seq (.ops [qM 76 0,qM 77 1,qM 78 2,qM 79 4,oB 80 (.call 59 [.t 76,.t 77,.t 78,.t 79])]) (.cond (.t 80) .ret .skip)) .skip)) (.seq (.seq (.draw [qM 81 1,qK 82 .gtr 81 0,qM 83 82,vM 84 4 83 true,wM 85 0 83 true [3],wM 86 1 83 true [3,4],⟨some 87,.bin .sub (.t 86) (iN 1),some (83,true),[3,4],0⟩,wI 88 1 85 87 83 true [3],wL 89 88 83 true [3],wM 90 0 83 true [3,4,5,6,7,8],wM 91 13 83 true [3,4,5,6,7,8,9],wI 92 1 90 91 83 true [3,4,5,6,7,8],wL 93 92 83 true [3,4,5,6,7,8],oG 94 (.callv (.t 84) [.t 89,.t 93]) 83 true,vK 95 .lss 94 0 83 true,vU 96 95 83 true,qP 97 83 96]) (.cond (.t 97) (.seq (.ops [qM 98 0,qM 99 1,qM 100 2,qM 101 13,qM 102 4,oB 103 (.call 60 [.t 98,.t 99,.t 100,.t 101,.t 102]),qM 15 103]) (.seq (.ops [qM 104 15,qM 1 104]) (.exit 1))) .skip)) (.seq (.ops [qM 106 0,qM 107 1,qM 108 2,qM 109 13,qM 110 4,oB 111 (.call 61 [.t 106,.t 107,.t 108,.t 109,.t 110]),qM 105 111,qE 112 105 0,qE 113 105 1,qM 16 112,qM 17 113]) (.seq (.ops [qM 114 17,qM 11 114]) (.seq (.ops [qM 115 16,qM 116 1,qB 117 .sub 115 116,qM 118 2,qM 119 16,qB 120 .sub 118 119,qM 18 117,qM 19 120]) (.seq (.ops [qM 121 12,qK 122 .quo 121 8,qM 20 122]) (.seq (.ops [qM 123 18,qM 124 19,qB 125 .lss 123 124]) (.cond (.t 125) (.seq (.ops [qM 126 18,qM 127 20,qB 128 .geq 126 127,qM 10 128]) (.seq (.ops [qM 129 0,qM 130 1,qM 131 16,qM 132 3,qM 133 4,oB 134 (.call 40 [.t 129,.t 130,.t 131,.t 132,.t 133])]) (.ops [qM 135 16,qK 136 .add 135 1,qM 1 136]))) (.seq (.ops [qM 137 19,qM 138 20,qB 139 .geq 137 138,qM 10 139]) (.seq (.ops [qM 140 0,qM 141 16,qK 142 .add 141 1,qM 143 2,qM 144 3,qM 145 4,oB 146 (.call 40 [.t 140,.t 142,.t 143,.t 144,.t 145])]) (.ops [qM 147 16,qM 2 147])))))))))))))))))
def Zwt:C:=.seq (.ops [oB 10 (.mov bT)]) (.seq (.ops [oB 11 (.mov bT)]) (.block 0 (.loop [0,1,2,3,4,10,11] [] ZqG)))
def Ztf:FnI:=⟨5,Zwt,[]⟩
def ZvX:C:=.seq (.ops [qW 2 0]) (.seq (.cond bF (.seq (.ops [qM 3 0,oB 4 (.conv .u32 (.t 3)),qC 5 62 4,qM 2 5]) .ret) .skip) (.seq (.ops [qM 6 0,qC 7 63 6,qM 2 7]) .ret))
def ZtT:FnI:=⟨1,ZvX,[(2,none)]⟩
def Zrz:C:=.seq (.seq (.ops [qM 6 5,qK 7 .lss 6 40]) (.cond (.t 7) .skip (.exit 0))) (.seq (.block 1 (.seq (.seq (.ops [qM 10 4,qM 11 0,qB 12 .eql 10 11]) (.cond (.t 12) (.seq (.ops [qM 13 5,qM 2 13,oB 3 (.mov bT)]) .ret) .skip)) (.ops [qM 14 4,oB 15 (.bin .mul (iN 2) (.t 14)),qM 4 15]))) (.ops [qM 8 5,qK 9 .add 8 1,qM 5 9]))
def Zvn:C:=.seq (.ops [qW 2 0,oB 3 (.mov bF)]) (.seq (.ops [qW 4 1]) (.seq (.seq (.ops [qW 5 0]) (.block 0 (.loop [0,4,5] [2,3] Zrz))) (.seq (.ops [qW 2 0,oB 3 (.mov bF)]) .ret)))
def ZuA:FnI:=⟨1,Zvn,[(2,none),(3,none)]⟩
def Zvw:C:=.seq (.ops [oB 2 (.box (.t 0)),oB 4 (.mov bF)]) (.seq (.ops [qM 5 1,qK 6 .geq 5 0,qM 7 6,vM 8 1 7 true,vF 9 2 2 7 true,vL 10 9 7 true,vN 11 10 7 true,vB 12 .lss 8 11 7 true,qP 13 7 12,qM 4 13]) .ret)
def Zt1:FnI:=⟨2,Zvw,[(4,none)]⟩
def Zql:C:=.seq (.seq (.ops [qM 6 5,qM 7 1,qN 8 7,qB 9 .lss 6 8]) (.cond (.t 9) .skip (.exit 0))) (.seq (.block 1 (.seq (.draw [qA 12 6 2,uM 13 1 [0],uM 14 5 [0,1],uI 15 1 13 14 [0],uL 16 15 [0],qD 17 43 12 16,qU 18 17,qM 19 18,vM 20 5 19 false,vK 21 .gtr 20 0 19 false,vM 22 21 19 false,vM 23 1 22 true,wM 24 5 22 true [11],⟨some 25,.bin .sub (.t 24) (iN 1),some (22,true),[11],0⟩,vI 26 1 23 25 22 true,vL 27 26 22 true,wM 28 1 22 true [11,12,13,14,15],wM 29 5 22 true [11,12,13,14,15,16],wI 30 1 28 29 22 true [11,12,13,14,15],wL 31 30 22 true [11,12,13,14,15],vB 32 .geq 27 31 22 true,oG 33 (.pick (.t 22) (.t 32) bF) 19 false,oB 34 (.pick (.t 19) bT (.t 33))]) (.cond (.t 34) (.seq (.ops [oB 4 (.mov bF)]) .ret) .skip))) (.ops [qM 10 5,qK 11 .add 10 1,qM 5 11]))
def Zxg:C:=.seq (.ops [oB 2 (.box (.t 0)),oB 4 (.mov bF)]) (.seq (.seq (.ops [qW 5 0]) (.block 0 (.loop [1,2,5] [1,4] Zql))) (.seq (.ops [qM 35 1,qN 36 35,qK 37 .gtr 36 0,qM 4 37]) .ret))
def Zuc:FnI:=⟨2,Zxg,[(4,none)]⟩
def Zq9:C:=.seq (.seq (.ops [qM 6 5,qM 7 0,qN 8 7,qB 9 .lss 6 8]) (.cond (.t 9) .skip (.exit 0))) (.seq (.block 1 (.seq (.ops [qM 12 0,qM 13 5,qI 14 1 12 13,qL 15 14,qM 16 1,qB 17 .eql 15 16]) (.cond (.t 17) (.seq (.ops [oB 4 (.mov bT)]) .ret) .skip))) (.ops [qM 10 5,qK 11 .add 10 1,qM 5 11]))
def Zvd:C:=.seq (.ops [oB 4 (.mov bF)]) (.seq (.seq (.ops [qW 5 0]) (.block 0 (.loop [0,1,5] [4] Zq9))) (.seq (.ops [oB 4 (.mov bF)]) .ret))
def ZtV:FnI:=⟨2,Zvd,[(4,none)]⟩
def ZvB:C:=.seq (.ops [qW 2 0]) (.seq (.block 0 (.seq (.ops [qM 4 0,qK 5 .lss 4 0,qM 3 5]) (.cond (.t 3) (.seq (.ops [qW 2 10]) .ret) (.seq (.ops [qM 7 0,qK 8 .gtr 7 1099511627775,qM 6 8]) (.cond (.t 6) (.seq (.ops [qW 2 11]) .ret) .skip))))) (.seq (.ops [qW 2 0]) .ret))
def ZtX:FnI:=⟨1,ZvB,[(2,none)]⟩
def Zvt:C:=.seq (.ops [qW 2 0]) (.seq (.cond bF (.seq (.ops [qM 3 0,oB 4 (.conv .u32 (.t 3)),qC 5 64 4,qM 2 5]) .ret) .skip) (.seq (.ops [qM 6 0,qC 7 65 6,qM 2 7]) .ret))
def Zti:FnI:=⟨1,Zvt,[(2,none)]⟩
def Zvr:C:=.seq (.ops [qW 2 0]) (.seq (.cond bF (.seq (.ops [qM 3 0,oB 4 (.conv .u32 (.t 3)),qC 5 66 4,qM 2 5]) .ret) .skip) (.seq (.ops [qM 6 0,qC 7 67 6,qM 2 7]) .ret))
def Zt2:FnI:=⟨1,Zvr,[(2,none)]⟩
def ZrL:C:=.seq (.ops [qB 9 .lss 8 7]) (.seq (.cond (.t 9) .skip (.exit 0)) (.seq (.block 1 (.seq (.ops [qM 10 8,qM 5 10]) (.seq (.ops [qM 11 1,qM 12 0,qM 13 5,qI 14 3 12 13,qA 15 3 14,oB 16 (.callv (.t 11) [.t 15])]) (.cond (.t 16) (.seq (.ops [qM 17 5,qM 4 17]) .ret) .skip)))) (.ops [qK 18 .add 8 1,qM 8 18])))
def Zv1:C:=.seq (.ops [qW 4 0]) (.seq (.seq (.ops [qM 6 0,qN 7 6,qW 8 0]) (.block 0 (.loop [0,1,7,8] [4] ZrL))) (.seq (.ops [qW 4 (-1)]) .ret))
def Zuw:FnI:=⟨2,Zv1,[(4,none)]⟩
def Zqe:C:=.seq (.ops [qB 9 .lss 8 7]) (.seq (.cond (.t 9) .skip (.exit 0)) (.seq (.block 1 (.seq (.ops [qM 10 8,qM 5 10]) (.seq (.draw [qA 11 2 3,uM 12 0 [0],uM 13 5 [0,1],uI 14 2 12 13 [0],uA 15 2 14 [0],oB 16 (.eqv [false,false] false (.t 11) (.t 15))]) (.cond (.t 16) (.seq (.ops [qM 17 5,qM 4 17]) .ret) .skip)))) (.ops [qK 18 .add 8 1,qM 8 18])))
def Zwx:C:=.seq (.ops [oB 3 (.box (.t 1)),qW 4 0]) (.seq (.seq (.ops [qM 6 0,qN 7 6,qW 8 0]) (.block 0 (.loop [0,3,7,8] [4] Zqe))) (.seq (.ops [qW 4 (-1)]) .ret))
def Zuy:FnI:=⟨2,Zwx,[(4,none)]⟩
def ZrQ:C:=.seq (.ops [qB 9 .lss 8 7]) (.seq (.cond (.t 9) .skip (.exit 0)) (.seq (.block 1 (.seq (.ops [qM 10 8,qM 5 10]) (.seq (.ops [qM 11 1,qM 12 0,qM 13 5,qI 14 3 12 13,qA 15 3 14,oB 16 (.callv (.t 11) [.t 15])]) (.cond (.t 16) (.seq (.ops [qM 17 5,qM 4 17]) .ret) .skip)))) (.ops [qK 18 .add 8 1,qM 8 18])))
def ZvP:C:=.seq (.ops [qW 4 0]) (.seq (.seq (.ops [qM 6 0,qN 7 6,qW 8 0]) (.block 0 (.loop [0,1,7,8] [4] ZrQ))) (.seq (.ops [qW 4 (-1)]) .ret))
def ZtS:FnI:=⟨2,ZvP,[(4,none)]⟩
def ZqR:C:=.seq (.ops [qB 9 .lss 8 7]) (.seq (.cond (.t 9) .skip (.exit 0)) (.seq (.block 1 (.seq (.ops [qM 10 8,qM 5 10]) (.seq (.ops [qM 11 1,qM 12 0,qM 13 5,qI 14 1 12 13,qL 15 14,qB 16 .eql 11 15]) (.cond (.t 16) (.seq (.ops [qM 17 5,qM 4 17]) .ret) .skip)))) (.ops [qK 18 .add 8 1,qM 8 18])))
def Zvi:C:=.seq (.ops [qW 4 0]) (.seq (.seq (.ops [qM 6 0,qN 7 6,qW 8 0]) (.block 0 (.loop [0,1,7,8] [4] ZqR))) (.seq (.ops [qW 4 (-1)]) .ret))
def Zuq:FnI:=⟨2,Zvi,[(4,none)]⟩
def ZqH:C:=.seq (.ops [qB 9 .lss 8 7]) (.seq (.cond (.t 9) .skip (.exit 0)) (.seq (.block 1 (.seq (.ops [qM 10 8,qM 5 10]) (.seq (.ops [qM 11 1,qM 12 0,qM 13 5,qI 14 1 12 13,qL 15 14,oB 16 (.callv (.t 11) [.t 15])]) (.cond (.t 16) (.seq (.ops [qM 17 5,qM 4 17]) .ret) .skip)))) (.ops [qK 18 .add 8 1,qM 8 18])))
def ZvS:C:=.seq (.ops [qW 4 0]) (.seq (.seq (.ops [qM 6 0,qN 7 6,qW 8 0]) (.block 0 (.loop [0,1,7,8] [4] ZqH))) (.seq (.ops [qW 4 (-1)]) .ret))
def Zux:FnI:=⟨2,ZvS,[(4,none)]⟩
def Zqh:C:=.seq (.seq (.draw [qM 18 9,uM 19 1 [0],qB 20 .gtr 18 19,qM 21 20,vM 22 3 21 true,wM 23 0 21 true [4],wM 24 9 21 true [4,5],wI 25 1 23 24 21 true [4],wL 26 25 21 true [4],wM 27 0 21 true [4,5,6,7,8],wM 28 9 21 true [4,5,6,7,8,9],⟨some 29,.bin .sub (.t 28) (iN 1),some (21,true),[4,5,6,7,8,9],0⟩,wI 30 1 27 29 21 true [4,5,6,7,8],wL 31 30 21 true [4,5,6,7,8],oG 32 (.callv (.t 22) [.t 26,.t 31]) 21 true,vK 33 .lss 32 0 21 true,qP 34 21 33]) (.cond (.t 34) .skip (.exit 2))) (.seq (.block 3 (.draw [qM 37 0,uM 38 9 [0],uM 39 0 [0,1],uM 40 9 [0,1,2],oM 41 (.bin .sub (.t 40) (iN 1)) [0,1,2],uM 42 0 [0,1,2,3,4],uM 43 9 [0,1,2,3,4,5],oM 44 (.bin .sub (.t 43) (iN 1)) [0,1,2,3,4,5],uI 45 1 42 44 [0,1,2,3,4],uL 46 45 [0,1,2,3,4],uM 47 0 [0,1,2,3,4,5,6,7,8,9],uM 48 9 [0,1,2,3,4,5,6,7,8,9,10],uI 49 1 47 48 [0,1,2,3,4,5,6,7,8,9],uL 50 49 [0,1,2,3,4,5,6,7,8,9],uI 51 1 37 38 [2,3,4],⟨none,.store 1 (.t 51) (.t 46),none,[],3⟩,qI 52 1 39 41,⟨none,.store 1 (.t 52) (.t 50),none,[],3⟩])) (.ops [qM 35 9,qK 36 .sub 35 1,qM 9 36]))
def Zrt:C:=.seq (.seq (.ops [qM 12 8,qM 13 2,qB 14 .lss 12 13]) (.cond (.t 14) .skip (.exit 0))) (.seq (.block 1 (.seq (.ops [qM 17 8,qM 9 17]) (.block 2 (.loop [0,1,2,3,8,9] [0,1,2,3,8] Zqh)))) (.ops [qM 15 8,qK 16 .add 15 1,qM 8 16]))
def ZvH:C:=.seq (.ops [qM 10 1,qK 11 .add 10 1,qM 8 11]) (.block 0 (.loop [0,1,2,3,8] [] Zrt))
def ZtM:FnI:=⟨4,ZvH,[]⟩
def Zqb:C:=.seq (.seq (.ops [qM 20 11,qK 21 .geq 20 0]) (.cond (.t 21) .skip (.exit 0))) (.seq (.block 1 (.ops [qM 24 0,qM 25 11,qM 26 10,qM 27 8,qM 28 3,oB 29 (.call 68 [.t 24,.t 25,.t 26,.t 27,.t 28])])) (.ops [qM 22 11,qK 23 .sub 22 1,qM 11 23]))
def ZqS:C:=.seq (.seq (.ops [qM 32 12,qK 33 .geq 32 0]) (.cond (.t 33) .skip (.exit 2))) (.seq (.block 3 (.seq (.draw [qM 36 0,uM 37 8 [0],uM 38 0 [0,1],uM 39 8 [0,1,2],uM 40 12 [0,1,2,3],oM 41 (.bin .add (.t 39) (.t 40)) [0,1,2],uM 42 0 [0,1,2,3,4,5],uM 43 8 [0,1,2,3,4,5,6],uM 44 12 [0,1,2,3,4,5,6,7],oM 45 (.bin .add (.t 43) (.t 44)) [0,1,2,3,4,5,6],uI 46 1 42 45 [0,1,2,3,4,5],uL 47 46 [0,1,2,3,4,5],uM 48 0 [0,1,2,3,4,5,6,7,8,9,10,11],uM 49 8 [0,1,2,3,4,5,6,7,8,9,10,11,12],uI 50 1 48 49 [0,1,2,3,4,5,6,7,8,9,10,11],uL 51 50 [0,1,2,3,4,5,6,7,8,9,10,11],uI 52 1 36 37 [2,3,4,5],⟨none,.store 1 (.t 52) (.t 47),none,[],3⟩,qI 53 1 38 41,⟨none,.store 1 (.t 53) (.t 51),none,[],3⟩]) (.ops [qM 54 0,qM 55 9,qM 56 12,qM 57 8,qM 58 3,oB 59 (.call 68 [.t 54,.t 55,.t 56,.t 57,.t 58])]))) (.ops [qM 34 12,qK 35 .sub 34 1,qM 12 35]))
def Zwu:C:=.seq (.ops [qM 13 1,qM 8 13]) (.seq (.ops [qW 9 0]) (.seq (.ops [qM 14 2,qM 15 1,qB 16 .sub 14 15,qM 10 16]) (.seq (.seq (.ops [qM 17 10,qK 18 .sub 17 1,qK 19 .quo 18 2,qM 11 19]) (.block 0 (.loop [0,3,8,9,10,11] [0,3,8,9,10] Zqb))) (.seq (.ops [qM 30 10,qK 31 .sub 30 1,qM 12 31]) (.block 2 (.loop [0,3,8,9,12] [] ZqS))))))
def ZtC:FnI:=⟨4,Zwu,[]⟩
def ZqM:C:=.seq (.seq (.ops [qM 28 11,qM 29 1,qM 30 8,qK 31 .quo 30 4,qK 32 .mul 31 2,qB 33 .add 29 32,qK 34 .add 33 1,qB 35 .leq 28 34]) (.cond (.t 35) .skip (.exit 0))) (.seq (.block 1 (.seq (.ops [qC 38 70 9,qM 39 10,oB 40 (.bin .sub (.t 39) (.c (.d (.int .u64 1)))),qB 41 .and 38 40,oB 42 (.conv .i64 (.t 41)),qM 12 42]) (.seq (.seq (.ops [qM 43 12,qM 44 8,qB 45 .geq 43 44]) (.cond (.t 45) (.ops [qM 46 12,qM 47 8,qB 48 .sub 46 47,qM 12 48]) .skip)) (.draw [qM 49 0,uM 50 11 [0],uM 51 0 [0,1],uM 52 1 [0,1,2],uM 53 12 [0,1,2,3],oM 54 (.bin .add (.t 52) (.t 53)) [0,1,2],uM 55 0 [0,1,2,3,4,5],uM 56 1 [0,1,2,3,4,5,6],uM 57 12 [0,1,2,3,4,5,6,7],oM 58 (.bin .add (.t 56) (.t 57)) [0,1,2,3,4,5,6],uI 59 1 55 58 [0,1,2,3,4,5],uL 60 59 [0,1,2,3,4,5],uM 61 0 [0,1,2,3,4,5,6,7,8,9,10,11],uM 62 11 [0,1,2,3,4,5,6,7,8,9,10,11,12],uI 63 1 61 62 [0,1,2,3,4,5,6,7,8,9,10,11],uL 64 63 [0,1,2,3,4,5,6,7,8,9,10,11],uI 65 1 49 50 [2,3,4,5],⟨none,.store 1 (.t 65) (.t 60),none,[],3⟩,qI 66 1 51 54,⟨none,.store 1 (.t 66) (.t 64),none,[],3⟩])))) (.ops [qM 36 11,qK 37 .add 36 1,qM 11 37]))
def Zwi:C:=.seq (.ops [qM 13 2,qM 14 1,qB 15 .sub 13 14,qM 8 15]) (.seq (.ops [qM 16 8,qK 17 .geq 16 8]) (.cond (.t 17) (.seq (.ops [qM 18 8,oB 19 (.conv .u64 (.t 18)),oB 9 (.alloc (.d (.int .u64 0))),oA (.store 1 (.t 9) (.t 19))]) (.seq (.ops [qM 20 8,qC 21 69 20,qM 10 21]) (.seq (.ops [qM 22 1,qM 23 8,qK 24 .quo 23 4,qK 25 .mul 24 2,qB 26 .add 22 25,qK 27 .sub 26 1,qM 11 27]) (.block 0 (.loop [0,1,8,9,10,11] [] ZqM))))) .skip))
def ZtU:FnI:=⟨4,Zwi,[]⟩
def ZvV:C:=.seq (.ops [qW 8 0,qW 9 0]) (.seq (.ops [qM 15 2,qM 16 1,qB 17 .sub 15 16,qM 10 17]) (.seq (.ops [oB 11 (.alloc zI)]) (.seq (.ops [qM 18 1,qM 19 10,qK 20 .quo 19 4,qK 21 .mul 20 1,qB 22 .add 18 21,qM 12 22]) (.seq (.ops [qM 23 1,qM 24 10,qK 25 .quo 24 4,qK 26 .mul 25 2,qB 27 .add 23 26,qM 13 27]) (.seq (.ops [qM 28 1,qM 29 10,qK 30 .quo 29 4,qK 31 .mul 30 3,qB 32 .add 28 31,qM 14 32]) (.seq (.seq (.ops [qM 33 10,qK 34 .geq 33 8]) (.cond (.t 34) (.seq (.seq (.ops [qM 35 10,qK 36 .geq 35 50]) (.cond (.t 36) (.seq (.ops [qM 37 0,qM 38 12,qM 39 3,oB 40 (.call 71 [.t 37,.t 38,.t 11,.t 39]),qM 12 40]) (.seq (.ops [qM 41 0,qM 42 13,qM 43 3,oB 44 (.call 71 [.t 41,.t 42,.t 11,.t 43]),qM 13 44]) (.ops [qM 45 0,qM 46 14,qM 47 3,oB 48 (.call 71 [.t 45,.t 46,.t 11,.t 47]),qM 14 48]))) .skip)) (.ops [qM 49 0,qM 50 12,qM 51 13,qM 52 14,qM 53 3,oB 54 (.call 72 [.t 49,.t 50,.t 51,.t 52,.t 11,.t 53]),qM 13 54])) .skip)) (.seq (.ops [qL 55 11]) (.block 0 (.seq (.ops [qK 58 .eql 55 0,qM 57 58]) (.cond (.t 57) (.seq (.ops [qM 59 13,qM 8 59,qW 9 1]) .ret) (.seq (.ops [qK 61 .eql 55 12,qM 60 61]) (.cond (.t 60) (.seq (.ops [qM 62 13,qM 8 62,qW 9 2]) .ret) (.seq (.ops [qM 56 13,qM 8 56,qW 9 0]) .ret)))))))))))))
def Zuk:FnI:=⟨4,ZvV,[(8,none),(9,none)]⟩
def Zrg:C:=.seq (.seq (.ops [qM 13 8,qM 14 9,qB 15 .lss 13 14]) (.cond (.t 15) .skip (.exit 0))) (.block 1 (.seq (.draw [qM 16 0,uM 17 8 [0],uM 18 0 [0,1],uM 19 9 [0,1,2],uM 20 0 [0,1,2,3],uM 21 9 [0,1,2,3,4],uI 22 1 20 21 [0,1,2,3],uL 23 22 [0,1,2,3],uM 24 0 [0,1,2,3,4,5,6,7],uM 25 8 [0,1,2,3,4,5,6,7,8],uI 26 1 24 25 [0,1,2,3,4,5,6,7],uL 27 26 [0,1,2,3,4,5,6,7],uI 28 1 16 17 [2,3],⟨none,.store 1 (.t 28) (.t 23),none,[],3⟩,qI 29 1 18 19,⟨none,.store 1 (.t 29) (.t 27),none,[],3⟩]) (.seq (.ops [qM 30 8,qK 31 .add 30 1,qM 8 31]) (.ops [qM 32 9,qK 33 .sub 32 1,qM 9 33]))))
def ZvF:C:=.seq (.ops [qM 10 1,qM 8 10]) (.seq (.ops [qM 11 2,qK 12 .sub 11 1,qM 9 12]) (.block 0 (.loop [0,8,9] [] Zrg)))
def ZtB:FnI:=⟨4,ZvF,[]⟩
def ZrT:C:=.seq (.seq (.draw [qM 19 9,uM 20 2 [0],qB 21 .lss 19 20,qM 22 21,vM 23 3 22 true,wM 24 0 22 true [4],wM 25 9 22 true [4,5],wI 26 1 24 25 22 true [4],wL 27 26 22 true [4],wM 28 0 22 true [4,5,6,7,8],wM 29 9 22 true [4,5,6,7,8,9],⟨some 30,.bin .sub (.t 29) (iN 1),some (22,true),[4,5,6,7,8,9],0⟩,wI 31 1 28 30 22 true [4,5,6,7,8],wL 32 31 22 true [4,5,6,7,8],oG 33 (.callv (.t 23) [.t 27,.t 32]) 22 true,vK 34 .lss 33 0 22 true,vU 35 34 22 true,qP 36 22 35]) (.cond (.t 36) .skip (.exit 2))) (.block 3 (.ops [qM 37 9,qK 38 .add 37 1,qM 9 38]))
def ZqO:C:=.seq (.seq (.ops [qM 68 11,qK 69 .geq 68 1]) (.cond (.t 69) .skip (.exit 4))) (.seq (.block 5 (.seq (.seq (.draw [qM 72 3,uM 73 0 [0],uM 74 11 [0,1],uI 75 1 73 74 [0],uL 76 75 [0],uM 77 0 [0,1,2,3,4],uM 78 11 [0,1,2,3,4,5],oM 79 (.bin .sub (.t 78) (iN 1)) [0,1,2,3,4,5],uI 80 1 77 79 [0,1,2,3,4],uL 81 80 [0,1,2,3,4],oB 82 (.callv (.t 72) [.t 76,.t 81]),qK 83 .lss 82 0,qU 84 83]) (.cond (.t 84) (.exit 4) .skip)) (.draw [qM 85 0,uM 86 11 [0],uM 87 0 [0,1],uM 88 11 [0,1,2],oM 89 (.bin .sub (.t 88) (iN 1)) [0,1,2],uM 90 0 [0,1,2,3,4],uM 91 11 [0,1,2,3,4,5],oM 92 (.bin .sub (.t 91) (iN 1)) [0,1,2,3,4,5],uI 93 1 90 92 [0,1,2,3,4],uL 94 93 [0,1,2,3,4],uM 95 0 [0,1,2,3,4,5,6,7,8,9],uM 96 11 [0,1,2,3,4,5,6,7,8,9,10],uI 97 1 95 96 [0,1,2,3,4,5,6,7,8,9],uL 98 97 [0,1,2,3,4,5,6,7,8,9],uI 99 1 85 86 [2,3,4],⟨none,.store 1 (.t 99) (.t 94),none,[],3⟩,qI 100 1 87 89,⟨none,.store 1 (.t 100) (.t 98),none,[],3⟩]))) (.ops [qM 70 11,qK 71 .sub 70 1,qM 11 71]))
def ZqB:C:=.seq (.seq (.ops [qM 107 12,qM 108 2,qB 109 .lss 107 108]) (.cond (.t 109) .skip (.exit 6))) (.seq (.block 7 (.seq (.seq (.draw [qM 112 3,uM 113 0 [0],uM 114 12 [0,1],uI 115 1 113 114 [0],uL 116 115 [0],uM 117 0 [0,1,2,3,4],uM 118 12 [0,1,2,3,4,5],oM 119 (.bin .sub (.t 118) (iN 1)) [0,1,2,3,4,5],uI 120 1 117 119 [0,1,2,3,4],uL 121 120 [0,1,2,3,4],oB 122 (.callv (.t 112) [.t 116,.t 121]),qK 123 .lss 122 0,qU 124 123]) (.cond (.t 124) (.exit 6) .skip)) (.draw [qM 125 0,uM 126 12 [0],uM 127 0 [0,1],uM 128 12 [0,1,2],oM 129 (.bin .sub (.t 128) (iN 1)) [0,1,2],uM 130 0 [0,1,2,3,4],uM 131 12 [0,1,2,3,4,5],oM 132 (.bin .sub (.t 131) (iN 1)) [0,1,2,3,4,5],uI 133 1 130 132 [0,1,2,3,4],uL 134 133 [0,1,2,3,4],uM 135 0 [0,1,2,3,4,5,6,7,8,9],uM 136 12 [0,1,2,3,4,5,6,7,8,9,10],uI 137 1 135 136 [0,1,2,3,4,5,6,7,8,9],uL 138 137 [0,1,2,3,4,5,6,7,8,9],uI 139 1 125 126 [2,3,4],⟨none,.store 1 (.t 139) (.t 134),none,[],3⟩,qI 140 1 127 129,⟨none,.store 1 (.t 140) (.t 138),none,[],3⟩]))) (.ops [qM 110 12,qK 111 .add 110 1,qM 12 111]))
def ZqD:C:=.seq (.seq (.ops [qM 15 10,qK 16 .lss 15 5]) (.cond (.t 16) .skip (.exit 0))) (.seq (.block 1 (.seq (.block 2 (.loop [0,1,2,3,9,10] [0,1,2,3,9,10] ZrT)) (.seq (.seq (.ops [qM 39 9,qM 40 2,qB 41 .eql 39 40]) (.cond (.t 41) (.seq (.ops [oB 8 (.mov bT)]) .ret) .skip)) (.seq (.seq (.ops [qM 42 2,qM 43 1,qB 44 .sub 42 43,qK 45 .lss 44 50]) (.cond (.t 45) (.seq (.ops [oB 8 (.mov bF)]) .ret) .skip)) (.seq (.draw [qM 46 0,uM 47 9 [0],uM 48 0 [0,1],uM 49 9 [0,1,2],oM 50 (.bin .sub (.t 49) (iN 1)) [0,1,2],uM 51 0 [0,1,2,3,4],uM 52 9 [0,1,2,3,4,5],oM 53 (.bin .sub (.t 52) (iN 1)) [0,1,2,3,4,5],uI 54 1 51 53 [0,1,2,3,4],uL 55 54 [0,1,2,3,4],uM 56 0 [0,1,2,3,4,5,6,7,8,9],uM 57 9 [0,1,2,3,4,5,6,7,8,9,10],uI 58 1 56 57 [0,1,2,3,4,5,6,7,8,9],uL 59 58 [0,1,2,3,4,5,6,7,8,9],uI 60 1 46 47 [2,3,4],⟨none,.store 1 (.t 60) (.t 55),none,[],3⟩,qI 61 1 48 50,⟨none,.store 1 (.t 61) (.t 59),none,[],3⟩]) (.seq (.seq (.ops [qM 62 9,qM 63 1,qB 64 .sub 62 63,qK 65 .geq 64 2]) (.cond (.t 65) (.seq (.ops [qM 66 9,qK 67 .sub 66 1,qM 11 67]) (.block 4 (.loop [0,1,2,3,9,10,11] [0,1,2,3,9,10] ZqO))) .skip)) (.seq (.ops [qM 101 2,qM 102 9,qB 103 .sub 101 102,qK 104 .geq 103 2]) (.cond (.t 104) (.seq (.ops [qM 105 9,qK 106 .add 105 1,qM 12 106]) (.block 6 (.loop [0,1,2,3,9,10,12] [0,1,2,3,9,10] ZqB))) .skip)))))))) (.ops [qM 17 10,qK 18 .add 17 1,qM 10 18]))
def Zwy:C:=.seq (.ops [oB 8 (.mov bF)]) (.seq (.ops [qM 13 1,qK 14 .add 13 1,qM 9 14]) (.seq (.seq (.ops [qW 10 0]) (.block 0 (.loop [0,1,2,3,9,10] [8] ZqD))) (.seq (.ops [oB 8 (.mov bF)]) .ret)))
def Zto:FnI:=⟨4,Zwy,[(8,none)]⟩
def Zrh:C:=.seq (.seq (.draw [qM 31 11,uM 32 12 [0],qB 33 .leq 31 32,qM 34 33,vM 35 4 34 true,wM 36 0 34 true [4],wM 37 1 34 true [4,5],wI 38 1 36 37 34 true [4],wL 39 38 34 true [4],wM 40 0 34 true [4,5,6,7,8],wM 41 11 34 true [4,5,6,7,8,9],wI 42 1 40 41 34 true [4,5,6,7,8],wL 43 42 34 true [4,5,6,7,8],oG 44 (.callv (.t 35) [.t 39,.t 43]) 34 true,vK 45 .lss 44 0 34 true,vU 46 45 34 true,qP 47 34 46]) (.cond (.t 47) .skip (.exit 2))) (.block 3 (.ops [qM 48 11,qK 49 .add 48 1,qM 11 49]))
def Zqp:C:=.seq (.seq (.draw [qM 50 11,uM 51 12 [0],qB 52 .leq 50 51,qM 53 52,vM 54 4 53 true,wM 55 0 53 true [4],wM 56 1 53 true [4,5],wI 57 1 55 56 53 true [4],wL 58 57 53 true [4],wM 59 0 53 true [4,5,6,7,8],wM 60 12 53 true [4,5,6,7,8,9],wI 61 1 59 60 53 true [4,5,6,7,8],wL 62 61 53 true [4,5,6,7,8],oG 63 (.callv (.t 54) [.t 58,.t 62]) 53 true,vK 64 .lss 63 0 53 true,qP 65 53 64]) (.cond (.t 65) .skip (.exit 4))) (.block 5 (.ops [qM 66 12,qK 67 .sub 66 1,qM 12 67]))
def Zrp:C:=.block 1 (.seq (.block 2 (.loop [0,1,4,11,12] [0,1,4,11,12] Zrh)) (.seq (.block 4 (.loop [0,1,4,11,12] [0,1,4,11,12] Zqp)) (.seq (.seq (.ops [qM 68 11,qM 69 12,qB 70 .gtr 68 69]) (.cond (.t 70) (.exit 0) .skip)) (.seq (.draw [qM 71 0,uM 72 11 [0],uM 73 0 [0,1],uM 74 12 [0,1,2],uM 75 0 [0,1,2,3],uM 76 12 [0,1,2,3,4],uI 77 1 75 76 [0,1,2,3],uL 78 77 [0,1,2,3],uM 79 0 [0,1,2,3,4,5,6,7],uM 80 11 [0,1,2,3,4,5,6,7,8],uI 81 1 79 80 [0,1,2,3,4,5,6,7],uL 82 81 [0,1,2,3,4,5,6,7],uI 83 1 71 72 [2,3],⟨none,.store 1 (.t 83) (.t 78),none,[],3⟩,qI 84 1 73 74,⟨none,.store 1 (.t 84) (.t 82),none,[],3⟩]) (.seq (.ops [qM 85 11,qK 86 .add 85 1,qM 11 86]) (.ops [qM 87 12,qK 88 .sub 87 1,qM 12 88]))))))
def Zvz:C:=.seq (.ops [qW 10 0]) (.seq (.draw [qM 13 0,uM 14 1 [0],uM 15 0 [0,1],uM 16 3 [0,1,2],uM 17 0 [0,1,2,3],uM 18 3 [0,1,2,3,4],uI 19 1 17 18 [0,1,2,3],uL 20 19 [0,1,2,3],uM 21 0 [0,1,2,3,4,5,6,7],uM 22 1 [0,1,2,3,4,5,6,7,8],uI 23 1 21 22 [0,1,2,3,4,5,6,7],uL 24 23 [0,1,2,3,4,5,6,7],uI 25 1 13 14 [2,3],⟨none,.store 1 (.t 25) (.t 20),none,[],3⟩,qI 26 1 15 16,⟨none,.store 1 (.t 26) (.t 24),none,[],3⟩]) (.seq (.ops [qM 27 1,qK 28 .add 27 1,qM 29 2,qK 30 .sub 29 1,qM 11 28,qM 12 30]) (.seq (.block 0 (.loop [0,1,4,11,12] [11] Zrp)) (.seq (.ops [qM 89 11,qM 10 89]) .ret))))
def Ztc:FnI:=⟨5,Zvz,[(10,none)]⟩
def Zqi:C:=.seq (.seq (.draw [qM 32 12,uM 33 13 [0],qB 34 .leq 32 33,qM 35 34,vM 36 4 35 true,wM 37 0 35 true [4],wM 38 12 35 true [4,5],wI 39 1 37 38 35 true [4],wL 40 39 35 true [4],wM 41 0 35 true [4,5,6,7,8],wM 42 1 35 true [4,5,6,7,8,9],wI 43 1 41 42 35 true [4,5,6,7,8],wL 44 43 35 true [4,5,6,7,8],oG 45 (.callv (.t 36) [.t 40,.t 44]) 35 true,vK 46 .lss 45 0 35 true,qP 47 35 46]) (.cond (.t 47) .skip (.exit 0))) (.block 1 (.ops [qM 48 12,qK 49 .add 48 1,qM 12 49]))
def Zrj:C:=.seq (.seq (.draw [qM 50 12,uM 51 13 [0],qB 52 .leq 50 51,qM 53 52,vM 54 4 53 true,wM 55 0 53 true [4],wM 56 13 53 true [4,5],wI 57 1 55 56 53 true [4],wL 58 57 53 true [4],wM 59 0 53 true [4,5,6,7,8],wM 60 1 53 true [4,5,6,7,8,9],wI 61 1 59 60 53 true [4,5,6,7,8],wL 62 61 53 true [4,5,6,7,8],oG 63 (.callv (.t 54) [.t 58,.t 62]) 53 true,vK 64 .lss 63 0 53 true,vU 65 64 53 true,qP 66 53 65]) (.cond (.t 66) .skip (.exit 2))) (.block 3 (.ops [qM 67 13,qK 68 .sub 67 1,qM 13 68]))
def ZrJ:C:=.seq (.seq (.draw [qM 105 12,uM 106 13 [0],qB 107 .leq 105 106,qM 108 107,vM 109 4 108 true,wM 110 0 108 true [4],wM 111 12 108 true [4,5],wI 112 1 110 111 108 true [4],wL 113 112 108 true [4],wM 114 0 108 true [4,5,6,7,8],wM 115 1 108 true [4,5,6,7,8,9],wI 116 1 114 115 108 true [4,5,6,7,8],wL 117 116 108 true [4,5,6,7,8],oG 118 (.callv (.t 109) [.t 113,.t 117]) 108 true,vK 119 .lss 118 0 108 true,qP 120 108 119]) (.cond (.t 120) .skip (.exit 6))) (.block 7 (.ops [qM 121 12,qK 122 .add 121 1,qM 12 122]))
def ZqV:C:=.seq (.seq (.draw [qM 123 12,uM 124 13 [0],qB 125 .leq 123 124,qM 126 125,vM 127 4 126 true,wM 128 0 126 true [4],wM 129 13 126 true [4,5],wI 130 1 128 129 126 true [4],wL 131 130 126 true [4],wM 132 0 126 true [4,5,6,7,8],wM 133 1 126 true [4,5,6,7,8,9],wI 134 1 132 133 126 true [4,5,6,7,8],wL 135 134 126 true [4,5,6,7,8],oG 136 (.callv (.t 127) [.t 131,.t 135]) 126 true,vK 137 .lss 136 0 126 true,vU 138 137 126 true,qP 139 126 138]) (.cond (.t 139) .skip (.exit 8))) (.block 9 (.ops [qM 140 13,qK 141 .sub 140 1,qM 13 141]))
def Zqd:C:=.block 5 (.seq (.block 6 (.loop [0,1,4,12,13] [0,1,4,12,13] ZrJ)) (.seq (.block 8 (.loop [0,1,4,12,13] [0,1,4,12,13] ZqV)) (.seq (.seq (.ops [qM 142 12,qM 143 13,qB 144 .gtr 142 143]) (.cond (.t 144) (.exit 4) .skip)) (.seq (.draw [qM 145 0,uM 146 12 [0],uM 147 0 [0,1],uM 148 13 [0,1,2],uM 149 0 [0,1,2,3],uM 150 13 [0,1,2,3,4],uI 151 1 149 150 [0,1,2,3],uL 152 151 [0,1,2,3],uM 153 0 [0,1,2,3,4,5,6,7],uM 154 12 [0,1,2,3,4,5,6,7,8],uI 155 1 153 154 [0,1,2,3,4,5,6,7],uL 156 155 [0,1,2,3,4,5,6,7],uI 157 1 145 146 [2,3],⟨none,.store 1 (.t 157) (.t 152),none,[],3⟩,qI 158 1 147 148,⟨none,.store 1 (.t 158) (.t 156),none,[],3⟩]) (.seq (.ops [qM 159 12,qK 160 .add 159 1,qM 12 160]) (.ops [qM 161 13,qK 162 .sub 161 1,qM 13 162]))))))
def ZwE:C:=.seq (.ops [qW 10 0,oB 11 (.mov bF)]) (.seq (.draw [qM 14 0,uM 15 1 [0],uM 16 0 [0,1],uM 17 3 [0,1,2],uM 18 0 [0,1,2,3],uM 19 3 [0,1,2,3,4],uI 20 1 18 19 [0,1,2,3],uL 21 20 [0,1,2,3],uM 22 0 [0,1,2,3,4,5,6,7],uM 23 1 [0,1,2,3,4,5,6,7,8],uI 24 1 22 23 [0,1,2,3,4,5,6,7],uL 25 24 [0,1,2,3,4,5,6,7],uI 26 1 14 15 [2,3],⟨none,.store 1 (.t 26) (.t 21),none,[],3⟩,qI 27 1 16 17,⟨none,.store 1 (.t 27) (.t 25),none,[],3⟩]) (.seq (.ops [qM 28 1,qK 29 .add 28 1,qM 30 2,qK 31 .sub 30 1,qM 12 29,qM 13 31]) (.seq (.block 0 (.loop [0,1,4,12,13] [0,1,4,12,13] Zqi)) (.seq (.block 2 (.loop [0,1,4,12,13] [0,1,4,12,13] Zrj)) (.seq (.seq (.ops [qM 69 12,qM 70 13,qB 71 .gtr 69 70]) (.cond (.t 71) (.seq (.draw [qM 72 0,uM 73 13 [0],uM 74 0 [0,1],uM 75 1 [0,1,2],uM 76 0 [0,1,2,3],uM 77 1 [0,1,2,3,4],uI 78 1 76 77 [0,1,2,3],uL 79 78 [0,1,2,3],uM 80 0 [0,1,2,3,4,5,6,7],uM 81 13 [0,1,2,3,4,5,6,7,8],uI 82 1 80 81 [0,1,2,3,4,5,6,7],uL 83 82 [0,1,2,3,4,5,6,7],uI 84 1 72 73 [2,3],⟨none,.store 1 (.t 84) (.t 79),none,[],3⟩,qI 85 1 74 75,⟨none,.store 1 (.t 85) (.t 83),none,[],3⟩]) (.seq (.ops [qM 86 13,qM 10 86,oB 11 (.mov bT)]) .ret)) .skip)) (.seq (.draw [qM 87 0,uM 88 12 [0],uM 89 0 [0,1],uM 90 13 [0,1,2],uM 91 0 [0,1,2,3],uM 92 13 [0,1,2,3,4],uI 93 1 91 92 [0,1,2,3],uL 94 93 [0,1,2,3],uM 95 0 [0,1,2,3,4,5,6,7],uM 96 12 [0,1,2,3,4,5,6,7,8],uI 97 1 95 96 [0,1,2,3,4,5,6,7],uL 98 97 [0,1,2,3,4,5,6,7],uI 99 1 87 88 [2,3],⟨none,.store 1 (.t 99) (.t 94),none,[],3⟩,qI 100 1 89 90,⟨none,.store 1 (.t 100) (.t 98),none,[],3⟩]) (.seq (.ops [qM 101 12,qK 102 .add 101 1,qM 12 102]) (.seq (.ops [qM 103 13,qK 104 .sub 103 1,qM 13 104]) (.seq (.block 4 (.loop [0,1,4,12,13] [0,1,13] Zqd)) (.seq (.draw [qM 163 0,uM 164 13 [0],uM 165 0 [0,1],uM 166 1 [0,1,2],uM 167 0 [0,1,2,3],uM 168 1 [0,1,2,3,4],uI 169 1 167 168 [0,1,2,3],uL 170 169 [0,1,2,3],uM 171 0 [0,1,2,3,4,5,6,7],uM 172 13 [0,1,2,3,4,5,6,7,8],uI 173 1 171 172 [0,1,2,3,4,5,6,7],uL 174 173 [0,1,2,3,4,5,6,7],uI 175 1 163 164 [2,3],⟨none,.store 1 (.t 175) (.t 170),none,[],3⟩,qI 176 1 165 166,⟨none,.store 1 (.t 176) (.t 174),none,[],3⟩]) (.seq (.ops [qM 177 13,qM 10 177,oB 11 (.mov bF)]) .ret)))))))))))
def ZtP:FnI:=⟨5,ZwE,[(10,none),(11,none)]⟩
def Zwg:C:=.seq (.ops [qW 2 0]) (.seq (.seq (.ops [qM 3 0,oB 4 (.bin .geq (.t 3) (.c (.d (.int .u32 65536))))]) (.cond (.t 4) (.seq (.ops [qM 5 0,oB 6 (.bin .shr (.t 5) (.c (.d (.int .u64 16)))),qM 0 6]) (.ops [qW 2 16])) .skip)) (.seq (.seq (.ops [qM 7 0,oB 8 (.bin .geq (.t 7) (.c (.d (.int .u32 256))))]) (.cond (.t 8) (.seq (.ops [qM 9 0,oB 10 (.bin .shr (.t 9) (.c (.d (.int .u64 8)))),qM 0 10]) (.ops [qM 11 2,qK 12 .add 11 8,qM 2 12])) .skip)) (.seq (.ops [qM 13 2,qM 14 0,oB 15 (.conv .u8 (.t 14)),oB 16 (.indexS (.c (.d (.str ⟨#[0,1,2,2,3,3,3,3,4,4,4,4,4,4,4,4,5,5,5,5,5,5,5,5,5,5,5,5,5,5,5,5,6,6,6,6,6,6,6,6,6,6,6,6,6,6,6,6,6,6,6,6,6,6,6,6,6,6,6,6,6,6,6,6,7,7,7,7,7,7,7,7,7,7,7,7,7,7,7,7,7,7,7,7,7,7,7,7,7,7,7,7,7,7,7,7,7,7,7,7,7,7,7,7,7,7,7,7,7,7,7,7,7,7,7,7,7,7,7,7,7,7,7,7,7,7,7,7,8,8,8,8,8,8,8,8,8,8,8,8,8,8,8,8,8,8,8,8,8,8,8,8,8,8,8,8,8,8,8,8,8,8,8,8,8,8,8,8,8,8,8,8,8,8,8,8,8,8,8,8,8,8,8,8,8,8,8,8,8,8,8,8,8,8,8,8,8,8,8,8,8,8,8,8,8,8,8,8,8,8,8,8,8,8,8,8,8,8,8,8,8,8,8,8,8,8,8,8,8,8,8,8,8,8,8,8,8,8,8,8,8,8,8,8,8,8,8,8,8,8,8,8,8,8,8,8]⟩))) (.t 15)),oB 17 (.conv .i64 (.t 16)),qB 18 .add 13 17,qM 2 18]) .ret)))
def ZuN:FnI:=⟨1,Zwg,[(2,none)]⟩
def ZwA:C:=.seq (.ops [qW 2 0]) (.seq (.seq (.ops [qM 3 0,oB 4 (.bin .geq (.t 3) (.c (.d (.int .u64 4294967296))))]) (.cond (.t 4) (.seq (.ops [qM 5 0,oB 6 (.bin .shr (.t 5) (.c (.d (.int .u64 32)))),qM 0 6]) (.ops [qW 2 32])) .skip)) (.seq (.seq (.ops [qM 7 0,oB 8 (.bin .geq (.t 7) (.c (.d (.int .u64 65536))))]) (.cond (.t 8) (.seq (.ops [qM 9 0,oB 10 (.bin .shr (.t 9) (.c (.d (.int .u64 16)))),qM 0 10]) (.ops [qM 11 2,qK 12 .add 11 16,qM 2 12])) .skip)) (.seq (.seq (.ops [qM 13 0,oB 14 (.bin .geq (.t 13) (.c (.d (.int .u64 256))))]) (.cond (.t 14) (.seq (.ops [qM 15 0,oB 16 (.bin .shr (.t 15) (.c (.d (.int .u64 8)))),qM 0 16]) (.ops [qM 17 2,qK 18 .add 17 8,qM 2 18])) .skip)) (.seq (.ops [qM 19 2,qM 20 0,oB 21 (.conv .u8 (.t 20)),oB 22 (.indexS (.c (.d (.str ⟨#[0,1,2,2,3,3,3,3,4,4,4,4,4,4,4,4,5,5,5,5,5,5,5,5,5,5,5,5,5,5,5,5,6,6,6,6,6,6,6,6,6,6,6,6,6,6,6,6,6,6,6,6,6,6,6,6,6,6,6,6,6,6,6,6,7,7,7,7,7,7,7,7,7,7,7,7,7,7,7,7,7,7,7,7,7,7,7,7,7,7,7,7,7,7,7,7,7,7,7,7,7,7,7,7,7,7,7,7,7,7,7,7,7,7,7,7,7,7,7,7,7,7,7,7,7,7,7,7,8,8,8,8,8,8,8,8,8,8,8,8,8,8,8,8,8,8,8,8,8,8,8,8,8,8,8,8,8,8,8,8,8,8,8,8,8,8,8,8,8,8,8,8,8,8,8,8,8,8,8,8,8,8,8,8,8,8,8,8,8,8,8,8,8,8,8,8,8,8,8,8,8,8,8,8,8,8,8,8,8,8,8,8,8,8,8,8,8,8,8,8,8,8,8,8,8,8,8,8,8,8,8,8,8,8,8,8,8,8,8,8,8,8,8,8,8,8,8,8,8,8,8,8,8,8,8,8]⟩))) (.t 21)),oB 23 (.conv .i64 (.t 22)),qB 24 .add 19 23,qM 2 24]) .ret))))
def ZtZ:FnI:=⟨1,ZwA,[(2,none)]⟩
def ZvE:C:=.seq (.ops [qW 2 0]) (.seq (.draw [qM 3 0,oB 4 (.bin .shr (.t 3) (.c (.d (.int .u64 24)))),oB 5 (.indexS (.c (.d (.str ⟨#[0,1,1,2,1,2,2,3,1,2,2,3,2,3,3,4,1,2,2,3,2,3,3,4,2,3,3,4,3,4,4,5,1,2,2,3,2,3,3,4,2,3,3,4,3,4,4,5,2,3,3,4,3,4,4,5,3,4,4,5,4,5,5,6,1,2,2,3,2,3,3,4,2,3,3,4,3,4,4,5,2,3,3,4,3,4,4,5,3,4,4,5,4,5,5,6,2,3,3,4,3,4,4,5,3,4,4,5,4,5,5,6,3,4,4,5,4,5,5,6,4,5,5,6,5,6,6,7,1,2,2,3,2,3,3,4,2,3,3,4,3,4,4,5,2,3,3,4,3,4,4,5,3,4,4,5,4,5,5,6,2,3,3,4,3,4,4,5,3,4,4,5,4,5,5,6,3,4,4,5,4,5,5,6,4,5,5,6,5,6,6,7,2,3,3,4,3,4,4,5,3,4,4,5,4,5,5,6,3,4,4,5,4,5,5,6,4,5,5,6,5,6,6,7,3,4,4,5,4,5,5,6,4,5,5,6,5,6,6,7,4,5,5,6,5,6,6,7,5,6,6,7,6,7,7,8]⟩))) (.t 4)),uM 6 0 [0,1,2],oM 7 (.bin .shr (.t 6) (.c (.d (.int .u64 16)))) [0,1,2],oM 8 (.bin .and (.t 7) (.c (.d (.int .u32 255)))) [0,1,2],oM 9 (.indexS (.c (.d (.str ⟨#[0,1,1,2,1,2,2,3,1,2,2,3,2,3,3,4,1,2,2,3,2,3,3,4,2,3,3,4,3,4,4,5,1,2,2,3,2,3,3,4,2,3,3,4,3,4,4,5,2,3,3,4,3,4,4,5,3,4,4,5,4,5,5,6,1,2,2,3,2,3,3,4,2,3,3,4,3,4,4,5,2,3,3,4,3,4,4,5,3,4,4,5,4,5,5,6,2,3,3,4,3,4,4,5,3,4,4,5,4,5,5,6,3,4,4,5,4,5,5,6,4,5,5,6,5,6,6,7,1,2,2,3,2,3,3,4,2,3,3,4,3,4,4,5,2,3,3,4,3,4,4,5,3,4,4,5,4,5,5,6,2,3,3,4,3,4,4,5,3,4,4,5,4,5,5,6,3,4,4,5,4,5,5,6,4,5,5,6,5,6,6,7,2,3,3,4,3,4,4,5,3,4,4,5,4,5,5,6,3,4,4,5,4,5,5,6,4,5,5,6,5,6,6,7,3,4,4,5,4,5,5,6,4,5,5,6,5,6,6,7,4,5,5,6,5,6,6,7,5,6,6,7,6,7,7,8]⟩))) (.t 8)) [0,1,2],qB 10 .add 5 9,uM 11 0 [0,1,2,3,4,5,6,7],oM 12 (.bin .shr (.t 11) (.c (.d (.int .u64 8)))) [0,1,2,3,4,5,6,7],oM 13 (.bin .and (.t 12) (.c (.d (.int .u32 255)))) [0,1,2,3,4,5,6,7],oM 14 (.indexS (.c (.d (.str ⟨#[0,1,1,2,1,2,2,3,1,2,2,3,2,3,3,4,1,2,2,3,2,3,3,4,2,3,3,4,3,4,4,5,1,2,2,3,2,3,3,4,2,3,3,4,3,4,4,5,2,3,3,4,3,4,4,5,3,4,4,5,4,5,5,6,1,2,2,3,2,3,3,4,2,3,3,4,3,4,4,5,2,3,3,4,3,4,4,5,3,4,4,5,4,5,5,6,2,3,3,4,3,4,4,5,3,4,4,5,4,5,5,6,3,4,4,5,4,5,5,6,4,5,5,6,5,6,6,7,1,2,2,3,2,3,3,4,2,3,3,4,3,4,4,5,2,3,3,4,3,4,4,5,3,4,4,5,4,5,5,6,2,3,3,4,3,4,4,5,3,4,4,5,4,5,5,6,3,4,4,5,4,5,5,6,4,5,5,6,5,6,6,7,2,3,3,4,3,4,4,5,3,4,4,5,4,5,5,6,3,4,4,5,4,5,5,6,4,5,5,6,5,6,6,7,3,4,4,5,4,5,5,6,4,5,5,6,5,6,6,7,4,5,5,6,5,6,6,7,5,6,6,7,6,7,7,8]⟩))) (.t 13)) [0,1,2,3,4,5,6,7],qB 15 .add 10 14,uM 16 0 [0,1,2,3,4,5,6,7,8,9,10,11,12],oM 17 (.bin .and (.t 16) (.c (.d (.int .u32 255)))) [0,1,2,3,4,5,6,7,8,9,10,11,12],oM 18 (.indexS (.c (.d (.str ⟨#[0,1,1,2,1,2,2,3,1,2,2,3,2,3,3,4,1,2,2,3,2,3,3,4,2,3,3,4,3,4,4,5,1,2,2,3,2,3,3,4,2,3,3,4,3,4,4,5,2,3,3,4,3,4,4,5,3,4,4,5,4,5,5,6,1,2,2,3,2,3,3,4,2,3,3,4,3,4,4,5,2,3,3,4,3,4,4,5,3,4,4,5,4,5,5,6,2,3,3,4,3,4,4,5,3,4,4,5,4,5,5,6,3,4,4,5,4,5,5,6,4,5,5,6,5,6,6,7,1,2,2,3,2,3,3,4,2,3,3,4,3,4,4,5,2,3,3,4,3,4,4,5,3,4,4,5,4,5,5,6,2,3,3,4,3,4,4,5,3,4,4,5,4,5,5,6,3,4,4,5,4,5,5,6,4,5,5,6,5,6,6,7,2,3,3,4,3,4,4,5,3,4,4,5,4,5,5,6,3,4,4,5,4,5,5,6,4,5,5,6,5,6,6,7,3,4,4,5,4,5,5,6,4,5,5,6,5,6,6,7,4,5,5,6,5,6,6,7,5,6,6,7,6,7,7,8]⟩))) (.t 17)) [0,1,2,3,4,5,6,7,8,9,10,11,12],qB 19 .add 15 18,oB 20 (.conv .i64 (.t 19)),qM 2 20]) .ret)
def ZuO:FnI:=⟨1,ZvE,[(2,none)]⟩
def ZvW:C:=.seq (.ops [qW 2 0]) (.seq (.ops [qM 3 0,oB 4 (.bin .shr (.t 3) (.c (.d (.int .u64 1)))),oB 5 (.bin .and (.t 4) (.c (.d (.int .u64 6148914691236517205)))),qM 6 0,oB 7 (.bin .and (.t 6) (.c (.d (.int .u64 6148914691236517205)))),qB 8 .add 5 7,qM 0 8]) (.seq (.ops [qM 9 0,oB 10 (.bin .shr (.t 9) (.c (.d (.int .u64 2)))),oB 11 (.bin .and (.t 10) (.c (.d (.int .u64 3689348814741910323)))),qM 12 0,oB 13 (.bin .and (.t 12) (.c (.d (.int .u64 3689348814741910323)))),qB 14 .add 11 13,qM 0 14]) (.seq (.ops [qM 15 0,oB 16 (.bin .shr (.t 15) (.c (.d (.int .u64 4)))),qM 17 0,qB 18 .add 16 17,oB 19 (.bin .and (.t 18) (.c (.d (.int .u64 1085102592571150095)))),qM 0 19]) (.seq (.ops [qM 20 0,qM 21 0,oB 22 (.bin .shr (.t 21) (.c (.d (.int .u64 8)))),qB 23 .add 20 22,qM 0 23]) (.seq (.ops [qM 24 0,qM 25 0,oB 26 (.bin .shr (.t 25) (.c (.d (.int .u64 16)))),qB 27 .add 24 26,qM 0 27]) (.seq (.ops [qM 28 0,qM 29 0,oB 30 (.bin .shr (.t 29) (.c (.d (.int .u64 32)))),qB 31 .add 28 30,qM 0 31]) (.seq (.ops [qM 32 0,oB 33 (.conv .i64 (.t 32)),qK 34 .and 33 127,qM 2 34]) .ret)))))))
def ZuB:FnI:=⟨1,ZvW,[(2,none)]⟩
def Zve:C:=.seq (.ops [qW 2 0]) (.seq (.seq (.ops [qM 3 0,oB 4 (.bin .eql (.t 3) (.c (.d (.int .u32 0))))]) (.cond (.t 4) (.seq (.ops [qW 2 32]) .ret) .skip)) (.seq (.ops [qM 5 0,qM 6 0,oB 7 (.un .neg (.t 6)),qB 8 .and 5 7,oB 9 (.bin .mul (.t 8) (.c (.d (.int .u32 125613361)))),oB 10 (.bin .shr (.t 9) (.c (.d (.int .u64 27)))),oB 11 (.iaddrA 32 1 (.c (.d (.rptr ZuW))) (.t 10)),qL 12 11,oB 13 (.conv .i64 (.t 12)),qM 2 13]) .ret))
def ZuV:FnI:=⟨1,Zve,[(2,none)]⟩
def Zvu:C:=.seq (.ops [qW 2 0]) (.seq (.seq (.ops [qM 3 0,oB 4 (.bin .eql (.t 3) (.c (.d (.int .u64 0))))]) (.cond (.t 4) (.seq (.ops [qW 2 64]) .ret) .skip)) (.seq (.ops [qM 5 0,qM 6 0,oB 7 (.un .neg (.t 6)),qB 8 .and 5 7,oB 9 (.bin .mul (.t 8) (.c (.d (.int .u64 285870213051353865)))),oB 10 (.bin .shr (.t 9) (.c (.d (.int .u64 58)))),oB 11 (.iaddrA 64 1 (.c (.d (.rptr Zq7))) (.t 10)),qL 12 11,oB 13 (.conv .i64 (.t 12)),qM 2 13]) .ret))
def ZtH:FnI:=⟨1,Zvu,[(2,none)]⟩
def Zqy:C:=.block 1 (.seq (.ops [qM 13 10,oB 14 (.bin .mul (iN 2) (.t 13)),qK 15 .add 14 1,qM 11 15]) (.seq (.seq (.ops [qM 16 11,qM 17 2,qB 18 .geq 16 17]) (.cond (.t 18) (.exit 0) .skip)) (.seq (.seq (.draw [qM 19 11,qK 20 .add 19 1,uM 21 2 [0,1],qB 22 .lss 20 21,qM 23 22,vM 24 4 23 true,wM 25 0 23 true [5],wM 26 3 23 true [5,6],wM 27 11 23 true [5,6,7],⟨some 28,.bin .add (.t 26) (.t 27),some (23,true),[5,6],0⟩,wI 29 1 25 28 23 true [5],wL 30 29 23 true [5],wM 31 0 23 true [5,6,7,8,9,10,11],wM 32 3 23 true [5,6,7,8,9,10,11,12],wM 33 11 23 true [5,6,7,8,9,10,11,12,13],⟨some 34,.bin .add (.t 32) (.t 33),some (23,true),[5,6,7,8,9,10,11,12],0⟩,⟨some 35,.bin .add (.t 34) (iN 1),some (23,true),[5,6,7,8,9,10,11,12],0⟩,wI 36 1 31 35 23 true [5,6,7,8,9,10,11],wL 37 36 23 true [5,6,7,8,9,10,11],oG 38 (.callv (.t 24) [.t 30,.t 37]) 23 true,vK 39 .lss 38 0 23 true,qP 40 23 39]) (.cond (.t 40) (.ops [qM 41 11,qK 42 .add 41 1,qM 11 42]) .skip)) (.seq (.seq (.draw [qM 43 4,uM 44 0 [0],uM 45 3 [0,1],uM 46 10 [0,1,2],oM 47 (.bin .add (.t 45) (.t 46)) [0,1],uI 48 1 44 47 [0],uL 49 48 [0],uM 50 0 [0,1,2,3,4,5,6],uM 51 3 [0,1,2,3,4,5,6,7],uM 52 11 [0,1,2,3,4,5,6,7,8],oM 53 (.bin .add (.t 51) (.t 52)) [0,1,2,3,4,5,6,7],uI 54 1 50 53 [0,1,2,3,4,5,6],uL 55 54 [0,1,2,3,4,5,6],oB 56 (.callv (.t 43) [.t 49,.t 55]),qK 57 .lss 56 0,qU 58 57]) (.cond (.t 58) .ret .skip)) (.seq (.draw [qM 59 0,uM 60 3 [0],uM 61 10 [0,1],oM 62 (.bin .add (.t 60) (.t 61)) [0],uM 63 0 [0,1,2,3],uM 64 3 [0,1,2,3,4],uM 65 11 [0,1,2,3,4,5],oM 66 (.bin .add (.t 64) (.t 65)) [0,1,2,3,4],uM 67 0 [0,1,2,3,4,5,6,7],uM 68 3 [0,1,2,3,4,5,6,7,8],uM 69 11 [0,1,2,3,4,5,6,7,8,9],oM 70 (.bin .add (.t 68) (.t 69)) [0,1,2,3,4,5,6,7,8],uI 71 1 67 70 [0,1,2,3,4,5,6,7],uL 72 71 [0,1,2,3,4,5,6,7],uM 73 0 [0,1,2,3,4,5,6,7,8,9,10,11,12,13],uM 74 3 [0,1,2,3,4,5,6,7,8,9,10,11,12,13,14],uM 75 10 [0,1,2,3,4,5,6,7,8,9,10,11,12,13,14,15],oM 76 (.bin .add (.t 74) (.t 75)) [0,1,2,3,4,5,6,7,8,9,10,11,12,13,14],uI 77 1 73 76 [0,1,2,3,4,5,6,7,8,9,10,11,12,13],uL 78 77 [0,1,2,3,4,5,6,7,8,9,10,11,12,13],uI 79 1 59 62 [4,5,6,7],⟨none,.store 1 (.t 79) (.t 72),none,[],3⟩,qI 80 1 63 66,⟨none,.store 1 (.t 80) (.t 78),none,[],3⟩]) (.ops [qM 81 11,qM 10 81]))))))
def ZwO:C:=.seq (.ops [qM 12 1,qM 10 12]) (.block 0 (.loop [0,2,3,4,10] [] Zqy))
def Zth:FnI:=⟨5,ZwO,[]⟩
def ZwP:C:=.seq (.ops [oB 2 (.mov (.c (.d (.int .u64 0))))]) (.seq (.ops [qM 3 0,oB 4 (.conv .u64 (.t 3)),qC 5 41 4,oB 6 (.bin .shl (.c (.d (.int .u64 1))) (.t 5)),qM 2 6]) .ret)
def Zuh:FnI:=⟨1,ZwP,[(2,none)]⟩
def Zxa:C:=.seq (.ops [oB 2 (.mov (.c (.d (.int .u64 0))))]) (.seq (.draw [qM 3 0,oB 4 (.nilck (.t 3)),qL 5 4,uM 6 0 [0,1,2],oM 7 (.nilck (.t 6)) [0,1,2],uL 8 7 [0,1,2],oM 9 (.bin .shl (.t 8) (.c (.d (.int .u64 13)))) [0,1,2],qB 10 .xor 5 9,oB 11 (.nilck (.t 3)),⟨none,.store 1 (.t 11) (.t 10),none,[],3⟩]) (.seq (.draw [qM 12 0,oB 13 (.nilck (.t 12)),qL 14 13,uM 15 0 [0,1,2],oM 16 (.nilck (.t 15)) [0,1,2],uL 17 16 [0,1,2],oM 18 (.bin .shr (.t 17) (.c (.d (.int .u64 7)))) [0,1,2],qB 19 .xor 14 18,oB 20 (.nilck (.t 12)),⟨none,.store 1 (.t 20) (.t 19),none,[],3⟩]) (.seq (.draw [qM 21 0,oB 22 (.nilck (.t 21)),qL 23 22,uM 24 0 [0,1,2],oM 25 (.nilck (.t 24)) [0,1,2],uL 26 25 [0,1,2],oM 27 (.bin .shl (.t 26) (.c (.d (.int .u64 17)))) [0,1,2],qB 28 .xor 23 27,oB 29 (.nilck (.t 21)),⟨none,.store 1 (.t 29) (.t 28),none,[],3⟩]) (.seq (.ops [qM 30 0,oB 31 (.nilck (.t 30)),qL 32 31,qM 2 32]) .ret))))
def Zua:FnI:=⟨1,Zxa,[(2,none)]⟩
def Zww:C:=.seq (.ops [qW 8 0]) (.seq (.ops [qM 9 0,qM 10 1,qK 11 .sub 10 1,qM 12 1,qM 13 1,qK 14 .add 13 1,qM 15 2,qM 16 3,oB 17 (.call 72 [.t 9,.t 11,.t 12,.t 14,.t 15,.t 16]),qM 8 17]) .ret)
def Zt0:FnI:=⟨4,Zww,[(8,none)]⟩
def ZvI:C:=.seq (.ops [qW 12 0]) (.seq (.ops [qM 14 0,qM 15 1,qM 16 2,qM 17 4,qM 18 5,oB 19 (.call 73 [.t 14,.t 15,.t 16,.t 17,.t 18]),qM 13 19,qE 20 13 0,qE 21 13 1,qM 1 20,qM 2 21]) (.seq (.ops [qM 23 0,qM 24 2,qM 25 3,qM 26 4,qM 27 5,oB 28 (.call 73 [.t 23,.t 24,.t 25,.t 26,.t 27]),qM 22 28,qE 29 22 0,qE 30 22 1,qM 2 29,qM 3 30]) (.seq (.ops [qM 32 0,qM 33 1,qM 34 2,qM 35 4,qM 36 5,oB 37 (.call 73 [.t 32,.t 33,.t 34,.t 35,.t 36]),qM 31 37,qE 38 31 0,qE 39 31 1,qM 1 38,qM 2 39]) (.seq (.ops [qM 40 2,qM 12 40]) .ret))))
def Zta:FnI:=⟨6,ZvI,[(12,none)]⟩
def Zwo:C:=.seq (.ops [qW 10 0,qW 11 0]) (.seq (.seq (.draw [qM 12 4,uM 13 0 [0],uM 14 2 [0,1],uI 15 1 13 14 [0],uL 16 15 [0],uM 17 0 [0,1,2,3,4],uM 18 1 [0,1,2,3,4,5],uI 19 1 17 18 [0,1,2,3,4],uL 20 19 [0,1,2,3,4],oB 21 (.callv (.t 12) [.t 16,.t 20]),qK 22 .lss 21 0]) (.cond (.t 22) (.seq (.ops [qM 23 3,oB 24 (.nilck (.t 23)),qL 25 24,qK 26 .add 25 1,oB 27 (.nilck (.t 23)),oA (.store 1 (.t 27) (.t 26))]) (.seq (.ops [qM 28 2,qM 29 1,qM 10 28,qM 11 29]) .ret)) .skip)) (.seq (.ops [qM 30 1,qM 31 2,qM 10 30,qM 11 31]) .ret))
def Ztu:FnI:=⟨5,Zwo,[(10,none),(11,none)]⟩
def code:Nat→Option FnI
 | 3=>some fn3
 | 4=>some fn4
 | 5=>some fn5
 | 6=>some fn6
 | 7=>some fn7
 | 8=>some fn8
 | 9=>some fn9
 | 10=>some Ztj
 | 11=>some Zul
 | 12=>some ZtJ
 | 13=>some Zub
 | 14=>some Zva
 | 15=>some Zug
 | 16=>some Zus
 | 17=>some Zuz
 | 18=>some Zut
 | 19=>some Ztd
 | 20=>some ZtO
 | 21=>some Zuf
 | 22=>some ZtW
 | 23=>some Zur
 | 24=>some Ztm
 | 25=>some Zue
 | 26=>some Ztk
 | 27=>some Ztg
 | 28=>some ZtE
 | 29=>some ZtG
 | 30=>some Ztr
 | 31=>some ZtK
 | 32=>some ZtF
 | 33=>some Zui
 | 34=>some ZuL
 | 35=>some Zu0
 | 36=>some Zu7
 | 37=>some Zu5
 | 38=>some ZuE
 | 39=>some ZuD
 | 40=>some Ztf
 | 41=>some ZtT
 | 42=>some ZuA
 | 43=>some Zt1
 | 44=>some Zuc
 | 45=>some ZtV
 | 46=>some ZtX
 | 47=>some Zti
 | 48=>some Zt2
 | 49=>some Zuw
 | 50=>some Zuy
 | 51=>some ZtS
 | 52=>some Zuq
 | 53=>some Zux
 | 54=>some ZtM
 | 55=>some ZtC
 | 56=>some ZtU
 | 57=>some Zuk
 | 58=>some ZtB
 | 59=>some Zto
 | 60=>some Ztc
 | 61=>some ZtP
 | 62=>some ZuN
 | 63=>some ZtZ
 | 64=>some ZuO
 | 65=>some ZuB
 | 66=>some ZuV
 | 67=>some ZtH
 | 68=>some Zth
 | 69=>some Zuh
 | 70=>some Zua
 | 71=>some Zt0
 | 72=>some Zta
 | 73=>some Ztu
 | _=>none
def mode:Nat→Nat
 | 7=>1
 | 15=>2
 | 40=>2
 | 54=>2
 | 55=>2
 | 56=>2
 | 57=>2
 | 58=>2
 | 59=>2
 | 60=>2
 | 61=>2
 | 68=>2
 | 70=>2
 | 71=>2
 | 72=>2
 | 73=>2
 | _=>0
def ctx:Ctx:=⟨code,mode⟩
end Go.Proofs.YtnpidpcmpleiaaaDoor
namespace Go.Proofs.YtnpidpcmpleiaaaDoorE
open Go
set_option linter.unusedVariables false
set_option linter.unusedSimpArgs false
def ZgK (f:Nat) (us:List Value):Value:=bif isU f then .func (.func f) #[] us.toArray else .func (.func (unB f)) us.toArray #[]
theorem Zll (f:Nat) (us:List Value):(ZgK f us).cells.toList=[ZgK f us]:=by unfold ZgK;cases isU f<;>rfl
theorem ZnB (f:Nat) (us:List Value):(ZgK f us).cells = #[ZgK f us]:=by unfold ZgK;cases isU f<;>rfl
theorem Zks {f:Nat} (h:isU f=true) (us:List Value):ZgK f us = .func (.func f) #[] us.toArray:=by unfold ZgK;rw[h];rfl
mutual
def ZaR (A1 A0 AL:Nat→Prop) (w:World):D→Value→Prop
 | .bool b,u=>u = .bool b
 | .int k n,u=>u = .int k n
 | .str s,u=>u = .string s
 | .list own xs,u=>∃a len cap,u = .slice a len cap∧len=xs.length∧len≤cap∧(∀x∈xs,x.esc=true) ∧
   (xs≠[]→∃b off sz,a=some ⟨b,off,none⟩∧(match own with | true=>A1 b | false=>A0 b)∧b<w.heap.size∧Zd9 A1 A0 AL w b sz off xs)
 | .agg cs,u=>∃us:List Value,u = .agg us.toArray∧ZaD A1 A0 AL w cs us
 | .tup cs,u=>∃us:List Value,u = .tuple us.toArray∧ZaD A1 A0 AL w cs us
 | .fn f caps,u=>∃us:List Value,u=ZgK f us∧ZaD A1 AL AL w caps us
 | .nilfn,u=>u = .nilFunc
 | .rptr cs,u=>∃b off,u = .pointer (some ⟨b,off,none⟩)∧A0 b∧b<w.heap.size∧Zcd A1 A0 AL w b off cs
 | .nilp,u=>u = .pointer none
 | .iface t v,u=>∃u',u = .iface t u'∧ZaR A1 A0 AL w v u'
 | .nilI,u=>u = .nilIface
def ZaD (A1 A0 AL:Nat→Prop) (w:World):List D→List Value→Prop
 | [],us=>us=[]
 | x :: xs,us=>∃u us',us=u :: us'∧ZaR A1 A0 AL w x u∧ZaD A1 A0 AL w xs us'
def Zcd (A1 A0 AL:Nat→Prop) (w:World) (b off:Nat):List D→Prop
 | []=>True
 | x :: xs=>(∃u,w.cell? ⟨b,off,none⟩=some u∧ZaR A1 A0 AL w x u)∧Zcd A1 A0 AL w b (off+1) xs
def Zd9 (A1 A0 AL:Nat→Prop) (w:World) (b sz off:Nat):List D→Prop
 | []=>True
 | x :: xs=>(∃u,ZaR A1 A0 AL w x u∧u.cells.size=sz∧∀k v,u.cells[k]? = some v→w.cell? ⟨b,off+k,none⟩=some v)∧Zd9 A1 A0 AL w b sz (off+sz) xs
end
section
variable {A1 A1' A0 A0' AL AL':Nat→Prop} {w w':World}
theorem Zl7 {b:Nat} (h:w'.heap[b]? = w.heap[b]?) (off:Nat):w'.cell? ⟨b,off,none⟩=w.cell? ⟨b,off,none⟩:=by
 unfold World.cell?;simp only[h]
mutual
theorem ZaR.change (A1 A1' A0 A0':Nat→Prop) (h1:∀b,b<w.heap.size→A1 b→A1' b) (h0:∀b,b<w.heap.size→A0 b→A0' b) (hL:∀b,b<w.heap.size→AL b→AL' b)
  (hw:∀b,b<w.heap.size→AL b→w'.heap[b]? = w.heap[b]?) (hs:w.heap.size≤w'.heap.size) (s0:∀b,A0 b→AL b) (s1:∀b,A1 b→AL b) :
  ∀(x:D) (u:Value),ZaR A1 A0 AL w x u→ZaR A1' A0' AL' w' x u
 | .bool b,u,h=>h
 | .int k n,u,h=>h
 | .str s,u,h=>h
 | .list own xs,u,h=>by
  obtain⟨a,len,cap,e1,e2,e3,e4,e5⟩:=h
  refine⟨a,len,cap,e1,e2,e3,e4,fun hne=>?_⟩
  obtain⟨b,off,sz,f1,f2,f3,f4⟩:=e5 hne
  have hb:AL b:=by
   cases own
   ·exact s0 _ f2
   ·exact s1 _ f2
  refine⟨b,off,sz,f1,?_,by omega,Zd9.change A1 A1' A0 A0' h1 h0 hL hw hs s0 s1 b sz off xs (hw b f3 hb) f4⟩
  cases own
  ·exact h0 _ f3 f2
  ·exact h1 _ f3 f2
 | .agg cs,u,h=>by
  obtain⟨us,e1,e2⟩:=h
  exact⟨us,e1,ZaD.change A1 A1' A0 A0' h1 h0 hL hw hs s0 s1 cs us e2⟩
 | .tup cs,u,h=>by
  obtain⟨us,e1,e2⟩:=h
  exact⟨us,e1,ZaD.change A1 A1' A0 A0' h1 h0 hL hw hs s0 s1 cs us e2⟩
 | .fn f caps,u,h=>by
  obtain⟨us,e1,e2⟩:=h
  exact⟨us,e1,ZaD.change A1 A1' AL AL' h1 hL hL hw hs (fun _ h=>h) s1 caps us e2⟩
 | .nilfn,u,h=>h
 | .rptr cs,u,h=>by
  obtain⟨b,off,e1,e2,e3,e4⟩:=h
  exact⟨b,off,e1,h0 _ e3 e2,by omega,Zcd.change A1 A1' A0 A0' h1 h0 hL hw hs s0 s1 b off cs (hw b e3 (s0 _ e2)) e4⟩
 | .nilp,u,h=>h
 | .iface t v,u,h=>by
  obtain⟨u',e1,e2⟩:=h
  exact⟨u',e1,ZaR.change A1 A1' A0 A0' h1 h0 hL hw hs s0 s1 v u' e2⟩
 | .nilI,u,h=>h
theorem ZaD.change (A1 A1' A0 A0':Nat→Prop) (h1:∀b,b<w.heap.size→A1 b→A1' b) (h0:∀b,b<w.heap.size→A0 b→A0' b) (hL:∀b,b<w.heap.size→AL b→AL' b)
  (hw:∀b,b<w.heap.size→AL b→w'.heap[b]? = w.heap[b]?) (hs:w.heap.size≤w'.heap.size) (s0:∀b,A0 b→AL b) (s1:∀b,A1 b→AL b) :
  ∀(xs:List D) (us:List Value),ZaD A1 A0 AL w xs us→ZaD A1' A0' AL' w' xs us
 | [],us,h=>h
 | x :: xs,us,h=>by
  obtain⟨u,us',e1,e2,e3⟩:=h
  exact⟨u,us',e1,ZaR.change A1 A1' A0 A0' h1 h0 hL hw hs s0 s1 x u e2,ZaD.change A1 A1' A0 A0' h1 h0 hL hw hs s0 s1 xs us' e3⟩
theorem Zcd.change (A1 A1' A0 A0':Nat→Prop) (h1:∀b,b<w.heap.size→A1 b→A1' b) (h0:∀b,b<w.heap.size→A0 b→A0' b) (hL:∀b,b<w.heap.size→AL b→AL' b)
  (hw:∀b,b<w.heap.size→AL b→w'.heap[b]? = w.heap[b]?) (hs:w.heap.size≤w'.heap.size) (s0:∀b,A0 b→AL b) (s1:∀b,A1 b→AL b) (b off:Nat) :
  ∀(xs:List D),w'.heap[b]? = w.heap[b]? → Zcd A1 A0 AL w b off xs→Zcd A1' A0' AL' w' b off xs
 | [],_,h=>trivial
 | x :: xs,hb,h=>by
  obtain⟨⟨u,e1,e2⟩,e3⟩:=h
  exact⟨⟨u,by rw[Zl7 hb];exact e1,ZaR.change A1 A1' A0 A0' h1 h0 hL hw hs s0 s1 x u e2⟩,Zcd.change A1 A1' A0 A0' h1 h0 hL hw hs s0 s1 b (off+1) xs hb e3⟩
theorem Zd9.change (A1 A1' A0 A0':Nat→Prop) (h1:∀b,b<w.heap.size→A1 b→A1' b) (h0:∀b,b<w.heap.size→A0 b→A0' b) (hL:∀b,b<w.heap.size→AL b→AL' b)
  (hw:∀b,b<w.heap.size→AL b→w'.heap[b]? = w.heap[b]?) (hs:w.heap.size≤w'.heap.size) (s0:∀b,A0 b→AL b) (s1:∀b,A1 b→AL b) (b sz off:Nat) :
  ∀(xs:List D),w'.heap[b]? = w.heap[b]? → Zd9 A1 A0 AL w b sz off xs→Zd9 A1' A0' AL' w' b sz off xs
 | [],_,h=>trivial
 | x :: xs,hb,h=>by
  obtain⟨⟨u,e1,e2,e3⟩,e4⟩:=h
  exact⟨⟨u,ZaR.change A1 A1' A0 A0' h1 h0 hL hw hs s0 s1 x u e1,e2,fun k v hk=>by rw[Zl7 hb];exact e3 k v hk⟩,
   Zd9.change A1 A1' A0 A0' h1 h0 hL hw hs s0 s1 b sz (off+sz) xs hb e4⟩
end
mutual
theorem ZaR.lift (h1:∀b,A1 b→A1' b):∀(x:D) (u:Value),x.esc=true→ZaR A1 A0 AL w x u→ZaR A1' A0' AL' w x u
 | .bool b,u,_,h=>h
 | .int k n,u,_,h=>h
 | .str s,u,_,h=>h
 | .list own xs,u,he,h=>by
  obtain⟨a,len,cap,e1,e2,e3,e4,e5⟩:=h
  simp only[D.esc] at he
  subst he
  refine⟨a,len,cap,e1,e2,e3,e4,fun hne=>?_⟩
  obtain⟨b,off,sz,f1,f2,f3,f4⟩:=e5 hne
  exact⟨b,off,sz,f1,h1 _ f2,f3,Zd9.lift h1 b sz off xs e4 f4⟩
 | .agg cs,u,he,h=>by
  obtain⟨us,e1,e2⟩:=h
  exact⟨us,e1,ZaD.lift h1 cs us he e2⟩
 | .tup cs,u,he,h=>by simp[D.esc] at he
 | .fn f caps,u,he,h=>by
  obtain⟨us,e1,e2⟩:=h
  simp only[D.esc,List.isEmpty_iff] at he
  subst he
  exact⟨us,e1,e2⟩
 | .nilfn,u,_,h=>h
 | .rptr cs,u,he,h=>by simp[D.esc] at he
 | .nilp,u,_,h=>h
 | .iface t v,u,he,h=>by
  obtain⟨u',e1,e2⟩:=h
  exact⟨u',e1,ZaR.lift h1 v u' he e2⟩
 | .nilI,u,_,h=>h
theorem ZaD.lift (h1:∀b,A1 b→A1' b):∀(xs:List D) (us:List Value),D.escs xs=true→ZaD A1 A0 AL w xs us→ZaD A1' A0' AL' w xs us
 | [],us,_,h=>h
 | x :: xs,us,he,h=>by
  obtain⟨u,us',e1,e2,e3⟩:=h
  simp only[D.escs,Bool.and_eq_true] at he
  exact⟨u,us',e1,ZaR.lift h1 x u he.1 e2,ZaD.lift h1 xs us' he.2.2 e3⟩
theorem Zd9.lift (h1:∀b,A1 b→A1' b) (b sz off:Nat):∀(xs:List D),(∀x∈xs,x.esc=true)→Zd9 A1 A0 AL w b sz off xs→Zd9 A1' A0' AL' w b sz off xs
 | [],_,h=>trivial
 | x :: xs,he,h=>by
  obtain⟨⟨u,e1,e2,e3⟩,e4⟩:=h
  exact⟨⟨u,ZaR.lift h1 x u (he x (by simp)) e1,e2,e3⟩,Zd9.lift h1 b sz (off+sz) xs (fun y hy=>he y (by simp[hy])) e4⟩
end
end
theorem ZaD.liftT {A1 A1' A0 A0' AL AL':Nat→Prop}{w:World} (h1:∀b,A1 b→A1' b):∀(xs:List D) (us:List Value),ZoS xs=true→ZaD A1 A0 AL w xs us→ZaD A1' A0' AL' w xs us
 | [],us,_,h=>h
 | x :: xs,us,he,h=>by
  obtain⟨u,us',e1,e2,e3⟩:=h
  simp only[ZoS,Bool.and_eq_true] at he
  exact⟨u,us',e1,ZaR.lift h1 x u he.1 e2,ZaD.liftT h1 xs us' he.2 e3⟩
theorem ZS {α:Type}:∀(l:List α) (n:Nat),nth l n=l[n]?
 | [],n=>by simp[nth]
 | a :: l,0=>by simp[nth]
 | a :: l,n+1=>by simp[nth,ZS l n]
theorem Zbn {α:Type}:∀(l:List α) (n:Nat) (v:α),ZdV l n v=l.set n v
 | [],n,v=>by simp[ZdV]
 | a :: l,0,v=>by simp[ZdV]
 | a :: l,n+1,v=>by simp[ZdV,Zbn l n v]
theorem Zko {α:Type} (l:List α) (i:Int) (x:α) (h:ZF l i=some x):0≤i∧i<l.length∧l[i.toNat]? = some x:=by
 unfold ZF at h
 by_cases h0:0≤i
 ·simp only[h0,decide_true,cond_true,ZS] at h
  have:=(List.getElem?_eq_some_iff.1 h).1
  exact⟨h0,by omega,h⟩
 ·simp[h0] at h
section
variable {A1 A0 AL:Nat→Prop} {w:World}
theorem Zgv {b sz:Nat}:∀(xs:List D) (off j:Nat) (x:D),Zd9 A1 A0 AL w b sz off xs→xs[j]? = some x →
  ∃u,ZaR A1 A0 AL w x u∧u.cells.size=sz∧∀k v,u.cells[k]? = some v→w.cell? ⟨b,off+j*sz+k,none⟩=some v
 | [],off,j,x,_,hj=>by simp at hj
 | y :: xs,off,0,x,h,hj=>by
  simp at hj;subst hj
  obtain⟨⟨u,e1,e2,e3⟩,_⟩:=h
  exact⟨u,e1,e2,by simpa using e3⟩
 | y :: xs,off,j+1,x,h,hj=>by
  obtain⟨u,e1,e2,e3⟩:=Zgv xs (off+sz) j x h.2 (by simpa using hj)
  exact⟨u,e1,e2,fun k v hk=>by rw[← e3 k v hk];congr 2;rw[Nat.succ_mul];omega⟩
theorem ZgJ {b sz:Nat}:∀(xs:List D) (off:Nat),(∀(j:Nat) x,xs[j]? = some x→∃u,ZaR A1 A0 AL w x u∧u.cells.size=sz∧∀k v,u.cells[k]? = some v→w.cell? ⟨b,off+j*sz+k,none⟩=some v) →
  Zd9 A1 A0 AL w b sz off xs
 | [],off,_=>trivial
 | y :: xs,off,h=>by
  refine⟨by simpa using h 0 y (by simp),ZgJ xs (off+sz) fun j x hj=>?_⟩
  obtain⟨u,e1,e2,e3⟩:=h (j+1) x (by simpa using hj)
  exact⟨u,e1,e2,fun k v hk=>by rw[← e3 k v hk];congr 2;rw[Nat.succ_mul];omega⟩
theorem ZhB {b:Nat}:∀(xs:List D) (off j:Nat) (x:D),Zcd A1 A0 AL w b off xs→xs[j]? = some x→∃u,w.cell? ⟨b,off+j,none⟩=some u∧ZaR A1 A0 AL w x u
 | [],off,j,x,_,hj=>by simp at hj
 | y :: xs,off,0,x,h,hj=>by simp at hj;subst hj;simpa using h.1
 | y :: xs,off,j+1,x,h,hj=>by
  have:=ZhB xs (off+1) j x h.2 (by simpa using hj)
  rwa [show off+1+j=off+(j+1) from by omega] at this
theorem Zfi {b:Nat}:∀(xs:List D) (off:Nat),(∀(j:Nat) x,xs[j]? = some x→∃u,w.cell? ⟨b,off+j,none⟩=some u∧ZaR A1 A0 AL w x u)→Zcd A1 A0 AL w b off xs
 | [],off,_=>trivial
 | y :: xs,off,h=>⟨by simpa using h 0 y (by simp),Zfi xs (off+1) fun j x hj=>by
   have:=h (j+1) x (by simpa using hj)
   rwa [show off+(j+1)=off+1+j from by omega] at this⟩
theorem ZlR {b:Nat} (xs:List D) (off n:Nat) (h:Zcd A1 A0 AL w b off xs):Zcd A1 A0 AL w b (off+n) (xs.drop n):=
 Zfi _ _ fun j x hj=>by
  have:=ZhB xs off (n+j) x h (by simpa using hj)
  rwa [← Nat.add_assoc] at this
theorem ZeX:∀(xs:List D) (us:List Value) (j:Nat) (x:D),ZaD A1 A0 AL w xs us→xs[j]? = some x→∃u,us[j]? = some u∧ZaR A1 A0 AL w x u
 | [],us,j,x,_,hj=>by simp at hj
 | y :: xs,us,0,x,h,hj=>by
  obtain⟨u,us',rfl,e1,e2⟩:=h
  simp at hj;subst hj
  exact⟨u,by simp,e1⟩
 | y :: xs,us,j+1,x,h,hj=>by
  obtain⟨u,us',rfl,e1,e2⟩:=h
  simpa using ZeX xs us' j x e2 (by simpa using hj)
theorem ZlS:∀(xs:List D) (us:List Value),ZaD A1 A0 AL w xs us→us.length=xs.length
 | [],us,h=>by simp only[ZaD] at h;subst h;rfl
 | y :: xs,us,h=>by
  obtain⟨u,us',rfl,e1,e2⟩:=h
  simp[ZlS xs us' e2]
end
structure RP where
 B1:Nat→Prop
 B0:Nat→Prop
 M:Nat→Option (Option Nat)
 H:Zi
def RP.live (R:RP) (c:Nat):Prop:=∃i,Z1 R.H i=true∧R.M i=some (some c)
def RP.AL (R:RP) (c:Nat):Prop:=¬R.live c
def RP.A0 (R:RP) (c:Nat):Prop:=¬R.live c∧¬R.B0 c
def RP.A1 (R:RP) (c:Nat):Prop:=¬R.live c∧¬R.B1 c
abbrev RP.den (R:RP) (w:World) (x:D) (u:Value):Prop:=ZaR R.A1 R.A0 R.AL w x u
def ZmP (w:World) (m:Option Nat) (xs:List D) (sz o len:Nat) (u:Value):Prop:=
 o+len≤xs.length∧∃a cap,u = .slice a len cap∧len≤cap ∧
  ((cap=0∧o=xs.length)∨∃c cs el fr,m=some c∧a=some ⟨c,o*sz,none⟩∧w.heap[c]? = some (.cells cs el fr)∧cs.size=(o+cap)*sz)
mutual
def ZaM (R:RP) (w:World):V→Value→Prop
 | .d x,u=>R.den w x u
 | .bad,_=>True
 | .ptr b o,u=>∃c,R.M b=some (some c)∧u = .pointer (some ⟨c,o,none⟩)
 | .eptr b sz i k,u=>∃c,R.M b=some (some c)∧u = .pointer (some ⟨c,i*sz+k,none⟩)
 | .sl b sz,u=>(∃a n c,u = .slice a n c)∧∃m,R.M b=some m∧∀xs,nth R.H b=some (.arr sz xs)→ZmP w m xs sz 0 xs.length u
 | .slp b sz o len,u=>(∃a n c,u = .slice a n c)∧∃m,R.M b=some m∧∀xs,nth R.H b=some (.arr sz xs)→ZmP w m xs sz o len u
 | .nilsl _,u=>∃a,u = .slice a 0 0
 | .agg cs,u=>∃us:List Value,u = .agg us.toArray∧Zat R w cs us
 | .tup cs,u=>∃us:List Value,u = .tuple us.toArray∧Zat R w cs us
 | .fn f caps,u=>∃us:List Value,u=ZgK f us∧Zat R w caps us
 | .mp b,u=>(∃a,u = .map a)∧∃m,R.M b=some m∧∀es,nth R.H b=some (.mp es)→∃c,m=some c∧u = .map (some c)
def Zat (R:RP) (w:World):List V→List Value→Prop
 | [],us=>us=[]
 | x :: xs,us=>∃u us',us=u :: us'∧ZaM R w x u∧Zat R w xs us'
end
end Go.Proofs.YtnpidpcmpleiaaaDoorE
namespace Go.Proofs.YtnpidpcmpleiaaaDoorE
open Go
set_option linter.unusedVariables false
set_option linter.unusedSimpArgs false
def Znp (fr:Nat×Nat):Prop:=fr.2≤fr.1
theorem Znp.not {w:World}{c:Nat}{cs:Array Value}{el:TypeId}{fr:Nat×Nat} (h:Znp fr) (hc:w.heap[c]? = some (.cells cs el fr)) (o:Nat):w.frozen? ⟨c,o,none⟩=false:=by
 unfold Znp at h
 simp only[World.frozen?,hc]
 by_cases h1:fr.1≤o
 ·by_cases h2:o<fr.2
  ·omega
  ·simp[h2]
 ·simp[h1]
def ZdT:D→Value
 | .bool b=>.bool b
 | .int k n=>.int k n
 | _=>undef
def Zgp:D→Value
 | .agg cs=>.agg (cs.map ZdT).toArray
 | x=>ZdT x
def ZiE:D→Bool
 | .agg cs=>cs.all Zfx
 | x=>Zfx x
structure Zwm (w:World) (c:Nat) (es:List (D×D)):Prop where
 mk ::
 ex:∃mes clock,w.heap[c]? = some (.map mes clock)∧mes.toList.map (fun e=>(e.key,e.val))=es.map (fun q=>(Zgp q.1,ZdT q.2))
 fl:∀q∈es,ZiE q.1=true∧Zfx q.2=true
def Zfh (R:RP) (w:World) (m:Option Nat):Blk→Prop
 | .dead=>True
 | .cells vs=>∃c cs el fr,m=some c∧w.heap[c]? = some (.cells cs el fr)∧Znp fr∧vs.length≤cs.size∧∀(k:Nat) v,vs[k]? = some v→∃u,cs[k]? = some u∧ZaM R w v u
 | .arr sz xs=>0<sz∧(∀x∈xs,x.esc=true)∧((m=none∧xs=[])∨∃c cs el,m=some c∧w.heap[c]? = some (.cells cs el (0,0))∧xs.length*sz≤cs.size ∧
   ∀(j:Nat) x,xs[j]? = some x→∃u,R.den w x u∧u.cells.size=sz∧∀(k:Nat) v,u.cells[k]? = some v→cs[j*sz+k]? = some v)
 | .mp es=>∃c,m=some c∧Zwm w c es
structure RP.OK (R:RP) (w:World):Prop where
 b01:∀c,R.B0 c→R.B1 c
 al:∀(i:Nat) blk,R.H[i]? = some blk→blk ≠ .dead→∃m,R.M i=some m
 inj:∀i j c,Z1 R.H i=true→Z1 R.H j=true→R.M i=some (some c)→R.M j=some (some c)→i=j
 lt:∀i c,R.M i=some (some c)→c<w.heap.size
 blk:∀(i:Nat) m blk,R.H[i]? = some blk→R.M i=some m→Zfh R w m blk
 nb:∀i c,Z1 R.H i=true→R.M i=some (some c)→¬R.B1 c
 bl:∀c,R.B1 c→c<w.heap.size
theorem Zo {H:Zi}{i:Nat}:Z1 H i=true↔∃blk,H[i]? = some blk∧blk ≠ .dead:=by
 unfold Z1
 rw[ZS]
 cases h:H[i]? with
 | none=>simp
 | some blk=>cases blk<;>simp
def Blk.like:Blk→Blk→Prop
 | .cells _,.cells _=>True
 | .arr sz xs,.arr sz' ys=>sz=sz'∧ys.length=xs.length
 | .mp _,.mp _=>True
 | _,_=>False
structure Ext (R:RP) (w:World) (R':RP) (w':World):Prop where
 m:∀i x,R.M i=some x→R'.M i=some x
 h:∀(i:Nat) x blk,R.M i=some x→R'.H[i]? = some blk→blk ≠ .dead→∃old,R.H[i]? = some old∧old.like blk
 b1:R'.B1=R.B1
 b0:R'.B0=R.B0
 same:∀(b:Nat),b<w.heap.size→¬R.live b→w'.heap[b]? = w.heap[b]?
 row:∀(b:Nat) cs el fr,w.heap[b]? = some (Obj.cells cs el fr)→∃cs' el' fr',w'.heap[b]? = some (Obj.cells cs' el' fr')∧cs'.size=cs.size
 grow:w.heap.size≤w'.heap.size
 liv:∀c,c<w.heap.size→R'.live c→R.live c
 os:w'.os=w.os
 tape:w'.tape=w.tape
 output:w'.output=w.output
theorem Blk.like_refl {b:Blk} (h:b ≠ .dead):b.like b:=by cases b<;>simp_all [Blk.like]
theorem Ext.refl (R:RP) (w:World):Ext R w R w:=
 ⟨fun _ _ h=>h,fun i x blk _ h hd=>⟨blk,h,Blk.like_refl hd⟩,rfl,rfl,fun _ _ _=>rfl,fun _ cs el fr h=>⟨cs,el,fr,h,rfl⟩,Nat.le_refl _,fun _ _ h=>h,rfl,rfl,rfl⟩
theorem Blk.like_trans {a b c:Blk} (h:a.like b) (k:b.like c):a.like c:=by
 cases a<;>cases b<;>cases c<;>simp_all [Blk.like]
theorem Blk.like_ne {a b:Blk} (h:a.like b):a ≠ .dead:=by cases a<;>cases b<;>simp_all [Blk.like]
theorem Ext.trans {R R1 R2:RP}{w w1 w2:World} (h:Ext R w R1 w1) (k:Ext R1 w1 R2 w2):Ext R w R2 w2 where
 m:=fun i x hx=>k.m i x (h.m i x hx)
 h:=fun i x blk hx hb hd=>by
  obtain⟨o1,e1,e2⟩:=k.h i x blk (h.m i x hx) hb hd
  obtain⟨o,f1,f2⟩:=h.h i x o1 hx e1 (Blk.like_ne e2)
  exact⟨o,f1,Blk.like_trans f2 e2⟩
 b1:=k.b1.trans h.b1
 b0:=k.b0.trans h.b0
 same:=fun b hb hl=>(k.same b (Nat.lt_of_lt_of_le hb h.grow) (fun hl'=>hl (h.liv b hb hl'))).trans (h.same b hb hl)
 row:=fun b cs el fr hb=>by
  obtain⟨cs1,el1,fr1,e1,e2⟩:=h.row b cs el fr hb
  obtain⟨cs2,el2,fr2,f1,f2⟩:=k.row b cs1 el1 fr1 e1
  exact⟨cs2,el2,fr2,f1,f2.trans e2⟩
 grow:=Nat.le_trans h.grow k.grow
 liv:=fun c hc hl=>h.liv c hc (k.liv c (Nat.lt_of_lt_of_le hc h.grow) hl)
 os:=k.os.trans h.os
 tape:=k.tape.trans h.tape
 output:=k.output.trans h.output
section
variable {R R':RP} {w w':World}
theorem Ext.den (e:Ext R w R' w') (hb:∀c,R.B0 c→R.B1 c) {x:D}{u:Value} (h:R.den w x u):R'.den w' x u:=by
 refine ZaR.change _ _ _ _ ?_ ?_ ?_ ?_ e.grow ?_ ?_ x u h
 ·exact fun b hb' ⟨h1,h2⟩=>⟨fun hl=>h1 (e.liv b hb' hl),by rw[e.b1];exact h2⟩
 ·exact fun b hb' ⟨h1,h2⟩=>⟨fun hl=>h1 (e.liv b hb' hl),by rw[e.b0];exact h2⟩
 ·exact fun b hb' h1 hl=>h1 (e.liv b hb' hl)
 ·exact fun b hb' hl=>e.same b hb' hl
 ·exact fun b h=>h.1
 ·exact fun b h=>h.1
theorem Ext.slAt (e:Ext R w R' w') {m:Option Nat}{xs ys:List D}{sz o len:Nat}{u:Value} (hl:ys.length=xs.length) (h:ZmP w m xs sz o len u):ZmP w' m ys sz o len u:=by
 obtain⟨h1,a,cap,h2,h3,h4⟩:=h
 refine⟨by omega,a,cap,h2,h3,?_⟩
 rcases h4 with⟨h4,h5⟩ | ⟨c,cs,el,fr,h4,h5,h6,h7⟩
 ·exact .inl ⟨h4,by omega⟩
 ·obtain⟨cs',el',fr',f1,f2⟩:=e.row c cs el fr h6
  exact .inr ⟨c,cs',el',fr',h4,h5,f1,by omega⟩
mutual
theorem Ext.denV (e:Ext R w R' w') (hb:∀c,R.B0 c→R.B1 c):∀(v:V) (u:Value),ZaM R w v u→ZaM R' w' v u
 | .d x,u,h=>e.den hb h
 | .bad,_,h=>h
 | .ptr b o,u,h=>by
  obtain⟨c,h1,h2⟩:=h
  exact⟨c,e.m b _ h1,h2⟩
 | .eptr b sz i k,u,h=>by
  obtain⟨c,h1,h2⟩:=h
  exact⟨c,e.m b _ h1,h2⟩
 | .sl b sz,u,h=>by
  obtain⟨h0,m,h1,h2⟩:=h
  refine⟨h0,m,e.m b m h1,fun xs hc=>?_⟩
  rw[ZS] at hc
  obtain⟨old,f1,f2⟩:=e.h b m _ h1 hc (by simp)
  cases old<;>simp[Blk.like] at f2
  rename_i sz0 xs0
  obtain⟨rfl,f2⟩:=f2
  have:=e.slAt f2 (h2 xs0 (by rw[ZS];exact f1))
  rw[f2]
  exact this
 | .slp b sz o len,u,h=>by
  obtain⟨h0,m,h1,h2⟩:=h
  refine⟨h0,m,e.m b m h1,fun xs hc=>?_⟩
  rw[ZS] at hc
  obtain⟨old,f1,f2⟩:=e.h b m _ h1 hc (by simp)
  cases old<;>simp[Blk.like] at f2
  rename_i sz0 xs0
  obtain⟨rfl,f2⟩:=f2
  exact e.slAt f2 (h2 xs0 (by rw[ZS];exact f1))
 | .nilsl sz,u,h=>h
 | .agg cs,u,h=>by
  obtain⟨us,h1,h2⟩:=h
  exact⟨us,h1,Ext.denVs e hb cs us h2⟩
 | .tup cs,u,h=>by
  obtain⟨us,h1,h2⟩:=h
  exact⟨us,h1,Ext.denVs e hb cs us h2⟩
 | .fn f caps,u,h=>by
  obtain⟨us,h1,h2⟩:=h
  exact⟨us,h1,Ext.denVs e hb caps us h2⟩
 | .mp b,u,h=>by
  obtain⟨h0,m,h1,h2⟩:=h
  refine⟨h0,m,e.m b m h1,fun es hc=>?_⟩
  rw[ZS] at hc
  obtain⟨old,f1,f2⟩:=e.h b m _ h1 hc (by simp)
  cases old<;>simp[Blk.like] at f2
  rename_i es0
  exact h2 es0 (by rw[ZS];exact f1)
theorem Ext.denVs (e:Ext R w R' w') (hb:∀c,R.B0 c→R.B1 c):∀(vs:List V) (us:List Value),Zat R w vs us→Zat R' w' vs us
 | [],us,h=>h
 | v :: vs,us,h=>by
  obtain⟨u,us',h1,h2,h3⟩:=h
  exact⟨u,us',h1,Ext.denV e hb v u h2,Ext.denVs e hb vs us' h3⟩
end
theorem Ext.blkOK (e:Ext R w R' w') (hb:∀c,R.B0 c→R.B1 c) {m:Option Nat}{blk:Blk} (hs:∀(c:Nat),m=some c→w'.heap[c]? = w.heap[c]?) (h:Zfh R w m blk):Zfh R' w' m blk:=by
 cases blk with
 | dead=>trivial
 | cells vs=>
  obtain⟨c,cs,el,fr,h1,h2,h3,h4,h5⟩:=h
  refine⟨c,cs,el,fr,h1,by rw[hs c h1];exact h2,h3,h4,fun k v hk=>?_⟩
  obtain⟨u,f1,f2⟩:=h5 k v hk
  exact⟨u,f1,e.denV hb v u f2⟩
 | arr sz xs=>
  obtain⟨h0,h1,h2⟩:=h
  refine⟨h0,h1,?_⟩
  rcases h2 with h2 | ⟨c,cs,el,h3,h4,h5,h6⟩
  ·exact .inl h2
  ·refine .inr ⟨c,cs,el,h3,by rw[hs c h3];exact h4,h5,fun j x hj=>?_⟩
   obtain⟨u,f1,f2,f3⟩:=h6 j x hj
   exact⟨u,e.den hb f1,f2,f3⟩
 | mp es=>
  obtain⟨c,h1,⟨mes,clock,h2,h3⟩,h4⟩:=h
  exact⟨c,h1,⟨mes,clock,by rw[hs c h1];exact h2,h3⟩,h4⟩
end
theorem Ext.draw {R:RP}{w w':World} (hh:w'.heap=w.heap) (ho:w'.os=w.os) (ht:w'.tape=w.tape) (hp:w'.output=w.output):Ext R w R w':=
 ⟨fun _ _ h=>h,fun i x blk _ h hd=>⟨blk,h,Blk.like_refl hd⟩,rfl,rfl,fun _ _ _=>by rw[hh],fun _ cs el fr h=>⟨cs,el,fr,by rw[hh];exact h,rfl⟩,by rw[hh];exact Nat.le_refl _,fun _ _ h=>h,ho,ht,hp⟩
theorem RP.OK.draw {R:RP}{w w':World} (h:R.OK w) (hh:w'.heap=w.heap) (ho:w'.os=w.os) (ht:w'.tape=w.tape) (hp:w'.output=w.output):R.OK w':=
 ⟨h.b01,h.al,h.inj,fun i c hc=>by rw[hh];exact h.lt i c hc,fun i m blk h1 h2=>(Ext.draw (R:=R) hh ho ht hp).blkOK h.b01 (fun c _=>by rw[hh]) (h.blk i m blk h1 h2),h.nb,fun c hc=>by rw[hh];exact h.bl c hc⟩
theorem Ext.new {R:RP}{w:World}{H':Zi}{n:Nat}{blk:Blk}{m:Option Nat} (o:Obj) (hn:R.M n=none) (hH:∀(i:Nat),i≠n→H'[i]? = R.H[i]?) (hb:H'[n]? = some blk)
  (hm:m=none∨m=some w.heap.size) (lt:∀i c,R.M i=some (some c)→c<w.heap.size) (al:∀(i:Nat) blk,R.H[i]? = some blk→blk ≠ .dead→∃m,R.M i=some m) :
  Ext R w { R with M:=fun i=>if i=n then some m else R.M i,H:=H' } (w.alloc o) where
 m:=fun i x hx=>by
  have:i≠n:=fun e=>by rw[e,hn] at hx;cases hx
  simp[this,hx]
 h:=fun i x blk' hx hb' hd=>by
  have:i≠n:=fun e=>by rw[e,hn] at hx;cases hx
  simp only[hH i this] at hb'
  exact⟨blk',hb',Blk.like_refl hd⟩
 b1:=rfl
 b0:=rfl
 same:=fun b hb' _=>Go.RowKit.Below.heap_alloc _ _ _ hb'
 row:=fun b cs el fr hb'=>by
  have hlt:b<w.heap.size:=by
   rcases Nat.lt_or_ge b w.heap.size with h | h
   ·exact h
   ·rw[Array.getElem?_eq_none h] at hb';cases hb'
  exact⟨cs,el,fr,by rw[Go.RowKit.Below.heap_alloc _ _ _ hlt];exact hb',rfl⟩
 grow:=by simp
 liv:=fun c hc ⟨i,h1,h2⟩=>by
  by_cases e:i=n
  ·subst e
   simp only[if_true] at h2
   rcases hm with h | h
   ·rw[h] at h2;cases h2
   ·rw[h] at h2;cases h2;omega
  ·simp only[e,if_false] at h2
   refine⟨i,?_,h2⟩
   rw[Zo] at h1 ⊢
   obtain⟨b',f1,f2⟩:=h1
   exact⟨b',by rw[← hH i e];exact f1,f2⟩
 os:=rfl
 tape:=rfl
 output:=rfl
theorem RP.OK.new {R:RP}{w:World}{H':Zi}{n:Nat}{blk:Blk}{m:Option Nat}{o:Obj} (h:R.OK w) (hn:R.M n=none) (hH:∀(i:Nat),i≠n→H'[i]? = R.H[i]?) (hb:H'[n]? = some blk)
  (hm:m=none∨m=some w.heap.size)
  (hk:Ext R w { R with M:=fun i=>if i=n then some m else R.M i,H:=H' } (w.alloc o)→Zfh { R with M:=fun i=>if i=n then some m else R.M i,H:=H' } (w.alloc o) m blk) :
  RP.OK { R with M:=fun i=>if i=n then some m else R.M i,H:=H' } (w.alloc o):=by
 have e:=Ext.new (R:=R) (w:=w) (H':=H') (n:=n) (blk:=blk) (m:=m) o hn hH hb hm h.lt h.al
 refine⟨h.b01,?_,?_,?_,?_,?_,fun c hc=>by have:=h.bl c hc;simp;omega⟩
 ·intro i blk' hi hd
  by_cases ei:i=n
  ·exact⟨m,by simp[ei]⟩
  ·simp only[hH i ei] at hi
   obtain⟨x,hx⟩:=h.al i blk' hi hd
   exact⟨x,by simp[ei,hx]⟩
 ·intro i j c hi hj h1 h2
  simp only at h1 h2
  by_cases ei:i=n<;>by_cases ej:j=n
  ·rw[ei,ej]
  ·rw[if_pos ei] at h1;rw[if_neg ej] at h2
   have:=h.lt j c h2
   rcases hm with h' | h'<;>rw[h'] at h1<;>cases h1
   omega
  ·rw[if_neg ei] at h1;rw[if_pos ej] at h2
   have:=h.lt i c h1
   rcases hm with h' | h'<;>rw[h'] at h2<;>cases h2
   omega
  ·rw[if_neg ei] at h1;rw[if_neg ej] at h2
   have l1:Z1 R.H i=true:=by rw[Zo] at hi ⊢;obtain⟨b',f1,f2⟩:=hi;exact⟨b',by rw[← hH i ei];exact f1,f2⟩
   have l2:Z1 R.H j=true:=by rw[Zo] at hj ⊢;obtain⟨b',f1,f2⟩:=hj;exact⟨b',by rw[← hH j ej];exact f1,f2⟩
   exact h.inj i j c l1 l2 h1 h2
 ·intro i c hc
  simp only at hc
  by_cases ei:i=n
  ·rw[if_pos ei] at hc
   rcases hm with h' | h'<;>rw[h'] at hc<;>cases hc
   simp
  ·rw[if_neg ei] at hc
   have:=h.lt i c hc
   simp;omega
 ·intro i x blk' hi hx
  simp only at hi hx
  by_cases ei:i=n
  ·subst ei
   rw[if_pos rfl] at hx
   cases hx
   rw[hb] at hi
   cases hi
   exact hk e
  ·rw[if_neg ei] at hx
   rw[hH i ei] at hi
   refine e.blkOK h.b01 (fun c hc=>?_) (h.blk i x blk' hi hx)
   exact Go.RowKit.Below.heap_alloc _ _ _ (h.lt i c (by rw[hx,hc]))
 ·intro i c hl hc hb1
  simp only at hc hb1
  by_cases ei:i=n
  ·rw[if_pos ei] at hc
   rcases hm with h' | h'<;>rw[h'] at hc<;>cases hc
   exact absurd (h.bl _ hb1) (by omega)
  ·rw[if_neg ei] at hc
   refine h.nb i c ?_ hc hb1
   rw[Zo] at hl ⊢;obtain⟨b',f1,f2⟩:=hl;exact⟨b',by rw[← hH i ei];exact f1,f2⟩
theorem Ext.kill {R:RP}{w:World}{H':Zi} (hH:∀(i:Nat) blk,H'[i]? = some blk→blk ≠ .dead→R.H[i]? = some blk):Ext R w { R with H:=H' } w:=
 ⟨fun _ _ h=>h,fun i x blk _ h hd=>⟨blk,hH i blk h hd,Blk.like_refl hd⟩,rfl,rfl,fun _ _ _=>rfl,fun _ cs el fr h=>⟨cs,el,fr,h,rfl⟩,Nat.le_refl _,
  fun c _ ⟨i,h1,h2⟩=>by
   rw[Zo] at h1
   obtain⟨blk,f1,f2⟩:=h1
   exact⟨i,Zo.2 ⟨blk,hH i blk f1 f2,f2⟩,h2⟩,rfl,rfl,rfl⟩
theorem RP.OK.kill {R:RP}{w:World}{H':Zi} (h:R.OK w) (hH:∀(i:Nat) blk,H'[i]? = some blk→blk ≠ .dead→R.H[i]? = some blk):RP.OK { R with H:=H' } w:=by
 have e:=Ext.kill (R:=R) (w:=w) hH
 have lv:∀i,Z1 H' i=true→Z1 R.H i=true:=fun i hi=>by
  rw[Zo] at hi ⊢
  obtain⟨blk,f1,f2⟩:=hi
  exact⟨blk,hH i blk f1 f2,f2⟩
 refine⟨h.b01,fun i blk hi hd=>h.al i blk (hH i blk hi hd) hd,fun i j c hi hj=>h.inj i j c (lv i hi) (lv j hj),h.lt,fun i m blk hi hm=>?_,fun i c hl=>h.nb i c (lv i hl),h.bl⟩
 by_cases hd:blk = .dead
 ·subst hd;trivial
 ·exact e.blkOK h.b01 (fun _ _=>rfl) (h.blk i m blk (hH i blk hi hd) hm)
end Go.Proofs.YtnpidpcmpleiaaaDoorE
namespace Go.Proofs.YtnpidpcmpleiaaaDoorE
open Go
set_option linter.unusedVariables false
set_option linter.unusedSimpArgs false
def Zcx (P:Program) (o:Oper) (a:Act) (w:World) (ZT:Value→World→Prop):Prop:=
 (∃u w',(execOp a.eval o).run P w = .ok (.value u) w'∧ZT u w')∨(∃w',(execOp a.eval o).run P w = .ok .skip w'∧ZT undef w') ∨
 (∃f args w',(execOp a.eval o).run P w = .ok (.enter f args) w'∧Calls P f args w' fun e w''=>∃u,e = .returned u∧ZT u w'')
theorem Zcx.wp {P:Program}{o:Oper}{a:Act}{w:World}{ZT:Value→World→Prop}{K:Act→World→Prop}{Q:Exit→Act→World→Prop}
  (h:Zcx P o a w ZT) (hK:∀u w',ZT u w'→K (a.put o.dst u) w'):o.wp P a w K Q:=by
 unfold Oper.wp
 rcases h with⟨u,w',h1,h2⟩ | ⟨w',h1,h2⟩ | ⟨f,args,w',h1,h2⟩
 ·rw[h1];exact hK _ _ h2
 ·rw[h1];exact hK _ _ h2
 ·rw[h1]
  exact h2.mono fun e w'' ⟨u,he,hp⟩=>by subst he;exact hK _ _ hp
theorem Zcx.val {P:Program}{o:Oper}{a:Act}{w w':World}{ZT:Value→World→Prop}{u:Value} (h:(execOp a.eval o).run P w = .ok (.value u) w') (hp:ZT u w'):Zcx P o a w ZT:=
 .inl ⟨u,w',h,hp⟩
mutual
def cv:V→Value→Bool
 | .d (.bool a),.bool b=>a==b
 | .d (.int k n),.int k' m=>k==k'&&n==m
 | .d (.str s),.string t=>decide (s=t)
 | .d .nilfn,.nilFunc=>true
 | .d .nilp,.pointer none=>true
 | .d .nilI,.nilIface=>true
 | .d (.fn f []),.func (.func g) a b=>isU f&&(f==g&&a.isEmpty&&b.isEmpty)
 | .d (.agg ds),.agg us=>cds ds us.toList
 | .d (.list _ []),.slice _ n _=>n==0
 | .nilsl _,.slice _ n c=>n==0&&c==0
 | .agg vs,.agg us=>cvs vs us.toList
 | .bad,_=>true
 | _,_=>false
def cvs:List V→List Value→Bool
 | [],[]=>true
 | v :: vs,u :: us=>cv v u&&cvs vs us
 | _,_=>false
def cds:List D→List Value→Bool
 | [],[]=>true
 | .bool a :: ds,.bool b :: us=>a==b&&cds ds us
 | .int k n :: ds,.int k' m :: us=>k==k'&&n==m&&cds ds us
 | .str s :: ds,.string t :: us=>decide (s=t)&&cds ds us
 | .nilfn :: ds,.nilFunc :: us=>cds ds us
 | .nilp :: ds,.pointer none :: us=>cds ds us
 | .nilI :: ds,.nilIface :: us=>cds ds us
 | .list _ [] :: ds,.slice _ n _ :: us=>n==0&&cds ds us
 | _,_=>false
end
theorem Ztq {A1 A0 AL:Nat→Prop}{w:World}:∀(ds:List D) (us:List Value),cds ds us=true→ZaD A1 A0 AL w ds us:=by
 intro ds
 induction ds with
 | nil=>intro us h;cases us<;>simp_all [cds,ZaD]
 | cons x ds ih=>
  intro us h
  cases us with
  | nil=>cases x<;>simp_all [cds]
  | cons u us=>
   refine⟨u,us,rfl,?_⟩
   cases x with
   | bool a=>cases u<;>simp_all [cds,ZaR]
   | int k n=>cases u<;>simp_all [cds,ZaR]
   | str s=>
    cases u<;>simp only[cds,Bool.and_eq_true,decide_eq_true_eq,Bool.false_eq_true] at h
    exact⟨by rw[h.1];rfl,ih us h.2⟩
   | nilfn=>cases u<;>simp_all [cds,ZaR]
   | nilI=>cases u<;>simp_all [cds,ZaR]
   | nilp=>
    cases u with
    | pointer a=>cases a<;>simp_all [cds,ZaR]
    | _=>simp_all [cds]
   | list own xs=>
    cases xs with
    | nil=>
     cases u with
     | slice a n c=>
      simp only[cds,Bool.and_eq_true,beq_iff_eq] at h
      obtain⟨rfl,h⟩:=h
      exact⟨⟨a,0,c,rfl,rfl,Nat.zero_le _,by simp,by simp⟩,ih us h⟩
     | _=>simp_all [cds]
    | cons y ys=>cases u<;>simp_all [cds]
   | agg cs=>cases u<;>simp_all [cds]
   | tup cs=>cases u<;>simp_all [cds]
   | fn f cs=>cases u<;>simp_all [cds]
   | rptr cs=>cases u<;>simp_all [cds]
   | iface t v=>cases u<;>simp_all [cds]
mutual
theorem Zml {R:RP}{w:World}:∀(v:V) (u:Value),cv v u=true→ZaM R w v u
 | .bad,_,_=>trivial
 | .nilsl sz,u,h=>by
  cases u<;>simp_all [cv,ZaM]
 | .agg vs,u,h=>by
  cases u<;>simp only[cv] at h<;>try (cases h;done)
  rename_i us
  exact⟨us.toList,rfl,Zos vs us.toList h⟩
 | .d x,u,h=>by
  cases x with
  | bool a=>cases u<;>simp_all [cv,ZaM,RP.den,ZaR]
  | int k n=>cases u<;>simp_all [cv,ZaM,RP.den,ZaR]
  | str s=>
   cases u<;>simp only[cv,decide_eq_true_eq,Bool.false_eq_true] at h
   rw[h];rfl
  | nilfn=>cases u<;>simp_all [cv,ZaM,RP.den,ZaR]
  | nilI=>cases u<;>simp_all [cv,ZaM,RP.den,ZaR]
  | nilp=>
   cases u with
   | pointer a=>cases a<;>simp_all [cv,ZaM,RP.den,ZaR]
   | _=>simp_all [cv]
  | fn f cs=>
   cases cs with
   | cons=>cases u<;>simp_all [cv]
   | nil=>
    cases u with
    | func fn a b=>
     cases fn<;>simp only[cv,Bool.and_eq_true,beq_iff_eq,Array.isEmpty_iff,Bool.false_eq_true] at h
     obtain⟨hlt,⟨rfl,rfl⟩,rfl⟩:=h
     exact⟨[],(Zks hlt _).symm,rfl⟩
    | _=>simp_all [cv]
  | agg ds=>
   cases u<;>simp only[cv] at h<;>try (cases h;done)
   rename_i us
   exact⟨us.toList,rfl,Ztq ds us.toList h⟩
  | list own xs=>
   cases xs with
   | cons=>cases u<;>simp_all [cv]
   | nil=>
    cases u<;>simp only[cv,beq_iff_eq] at h<;>try (cases h;done)
    subst h
    exact⟨_,0,_,rfl,rfl,Nat.zero_le _,by simp,by simp⟩
  | tup cs=>cases u<;>simp_all [cv]
  | rptr cs=>cases u<;>simp_all [cv]
  | iface t v=>cases u<;>simp_all [cv]
 | .ptr b o,u,h=>by cases u<;>simp_all [cv]
 | .eptr b sz i k,u,h=>by cases u<;>simp_all [cv]
 | .sl b sz,u,h=>by cases u<;>simp_all [cv]
 | .slp b sz o l,u,h=>by cases u<;>simp_all [cv]
 | .tup cs,u,h=>by cases u<;>simp_all [cv]
 | .fn f cs,u,h=>by cases u<;>simp_all [cv]
 | .mp b,u,h=>by cases u<;>simp_all [cv]
theorem Zos {R:RP}{w:World}:∀(vs:List V) (us:List Value),cvs vs us=true→Zat R w vs us
 | [],us,h=>by cases us<;>simp_all [cvs,Zat]
 | v :: vs,[],h=>by simp[cvs] at h
 | v :: vs,u :: us,h=>by
  simp only[cvs,Bool.and_eq_true] at h
  exact⟨u,us,rfl,Zml v u h.1,Zos vs us h.2⟩
end
abbrev Za9:=Nat→Option (List (IntKind×Int))
def gD:List (IntKind×Int)→List D
 | []=>[]
 | (k,n) :: r=>.int k n :: gD r
def eqG:List (IntKind×Int)→List D→Bool
 | [],[]=>true
 | (k,n) :: r,.int k' n' :: s=>k==k'&&n==n'&&eqG r s
 | _,_=>false
theorem Zq8:∀(g:List (IntKind×Int)) (l:List D),eqG g l=true→l=gD g
 | [],[],_=>rfl
 | [],_ :: _,h=>by simp[eqG] at h
 | (k,n) :: r,[],h=>by simp[eqG] at h
 | (k,n) :: r,x :: s,h=>by
  cases x<;>simp only[eqG,Bool.and_eq_true,beq_iff_eq,Bool.false_eq_true] at h
  obtain⟨⟨rfl,rfl⟩,h⟩:=h
  rw[gD,Zq8 r s h]
def ZG (G:Za9):Operand→Opd→Bool
 | .tmp i,.t j=>i==j
 | .const u,.c v=>cv v u
 | .func f,.c (.d (.fn g []))=>isU f&&f==g
 | .global g,.c (.d (.rptr cs))=>match G g with | some l=>eqG l cs | none=>false
 | _,_=>false
def Zdq (G:Za9):List Operand→List Opd→Bool
 | [],[]=>true
 | x :: xs,y :: ys=>ZG G x y&&Zdq G xs ys
 | _,_=>false
def GOK (G:Za9) (R:RP) (w:World):Prop:=∀g l,G g=some l→R.den w (.rptr (gD l)) (.pointer (some ⟨g,0,none⟩))
def Zfv (R:RP) (w:World) (e:Env) (a:Act):Prop:=∀t,ZaM R w (e t) (a.tmps.getD t undef)
theorem Zi1 {G:Za9}{R:RP}{w:World}{e:Env}{a:Act} (hg:GOK G R w) (he:Zfv R w e a) {x:Operand}{y:Opd} (h:ZG G x y=true):ZaM R w (y.val e) (a.eval x):=by
 cases x with
 | tmp i=>
  cases y with
  | t j=>
   simp only[ZG,beq_iff_eq] at h
   subst h
   exact he i
  | c v=>simp[ZG] at h
 | const u=>
  cases y with
  | t j=>simp[ZG] at h
  | c v=>exact Zml v u h
 | func f=>
  cases y with
  | t j=>simp[ZG] at h
  | c v=>
   cases v with
   | d x=>
    cases x with
    | fn g caps=>
     cases caps with
     | nil=>
      simp only[ZG,Bool.and_eq_true,beq_iff_eq] at h
      obtain⟨hlt,rfl⟩:=h
      exact⟨[],(Zks hlt _).symm,rfl⟩
     | cons=>simp[ZG] at h
    | _=>simp[ZG] at h
   | _=>simp[ZG] at h
 | global g=>
  cases y with
  | t j=>simp[ZG] at h
  | c v=>
   cases v with
   | d x=>
    cases x with
    | rptr cs=>
     cases hG:G g with
     | none=>simp[ZG,hG] at h
     | some l=>
      simp only[ZG,hG] at h
      rw[Zq8 l cs h]
      exact hg g l hG
    | _=>simp[ZG] at h
   | _=>simp[ZG] at h
theorem Zmv {G:Za9}{R:RP}{w:World}{e:Env}{a:Act} (hg:GOK G R w) (he:Zfv R w e a):∀{xs:List Operand}{ys:List Opd},Zdq G xs ys=true→Zat R w (ZdO e ys) (xs.map a.eval)
 | [],[],_=>rfl
 | [],_ :: _,h=>by simp[Zdq] at h
 | _ :: _,[],h=>by simp[Zdq] at h
 | x :: xs,y :: ys,h=>by
  simp only[Zdq,Bool.and_eq_true] at h
  exact⟨_,_,rfl,Zi1 hg he h.1,Zmv hg he h.2⟩
theorem Ext.gok {G:Za9}{R R':RP}{w w':World} (e:Ext R w R' w') (hb:∀c,R.B0 c→R.B1 c) (h:GOK G R w):GOK G R' w':=fun g l hg=>e.den hb (h g l hg)
theorem Ext.envOK {R R':RP}{w w':World} (x:Ext R w R' w') (hb:∀c,R.B0 c→R.B1 c) {e:Env}{a:Act} (h:Zfv R w e a):Zfv R' w' e a:=fun t=>x.denV hb _ _ (h t)
def Z7 (H:Zi) (up:List (Nat×Blk)) (nid:Nat) (nw:List Blk) (H':Zi):Prop:=
 ∀i,H'[i]? = if nid≤i∧i<nid+nw.length then nw[i-nid]? else (Zc6 H up)[i]?
def ZT (R:RP) (w:World) (nid n:Nat) (H':Zi) (v:V) (u:Value) (w':World):Prop:=
 ∃R',Ext R w R' w'∧R'.OK w'∧R'.H=H'∧ZaM R' w' v u∧∀i,R.M i=none→¬(nid≤i∧i<nid+n)→R'.M i=none
theorem Z7.same {H H':Zi}{nid:Nat} (h:Z7 H [] nid [] H'):H'=H:=by
 apply List.ext_getElem?
 intro i
 have:=h i
 simp only[List.length_nil,Nat.add_zero,Zc6] at this
 rw[this,if_neg (by omega)]
theorem ZT.still {R:RP}{w w':World}{nid:Nat}{H':Zi}{v:V}{u:Value} (ok:R.OK w) (hp:Z7 R.H [] nid [] H') (hh:w'.heap=w.heap) (ho:w'.os=w.os) (ht:w'.tape=w.tape) (hpt:w'.output=w.output)
  (hv:ZaM R w v u):ZT R w nid 0 H' v u w':=
 ⟨R,Ext.draw hh ho ht hpt,ok.draw hh ho ht hpt,hp.same.symm,(Ext.draw hh ho ht hpt).denV ok.b01 v u hv,fun i h _=>h⟩
theorem ZT.stay {R:RP}{w:World}{nid:Nat}{H':Zi}{v:V}{u:Value} (ok:R.OK w) (hp:Z7 R.H [] nid [] H') (hv:ZaM R w v u):ZT R w nid 0 H' v u w:=
 ZT.still ok hp rfl rfl rfl rfl hv
theorem ZT.new {R:RP}{w:World}{nid:Nat}{H':Zi}{v:V}{u:Value}{blk:Blk}{m:Option Nat} (o:Obj) (ok:R.OK w) (hp:Z7 R.H [] nid [blk] H') (hn:R.M nid=none) (hm:m=none∨m=some w.heap.size)
  (hk:∀R':RP,Ext R w R' (w.alloc o)→R'.M nid=some m→R'.H[nid]? = some blk→Zfh R' (w.alloc o) m blk∧(Zfh R' (w.alloc o) m blk→ZaM R' (w.alloc o) v u)):ZT R w nid 1 H' v u (w.alloc o):=by
 have hH:∀i,i≠nid→H'[i]? = R.H[i]?:=fun i hi=>by
  have:=hp i
  rw[this,if_neg (by simp;omega)];rfl
 have hb:H'[nid]? = some blk:=by
  have:=hp nid
  rw[this,if_pos (by simp)];simp
 have e:=Ext.new (R:=R) (w:=w) (H':=H') (n:=nid) (blk:=blk) (m:=m) o hn hH hb hm ok.lt ok.al
 have hk':=hk _ e (by simp) hb
 exact⟨_,e,ok.new hn hH hb hm (fun _=>hk'.1),rfl,hk'.2 hk'.1,fun i hi hni=>by
  have:i≠nid:=fun h=>hni (by subst h;simp)
  simp[this,hi]⟩
end Go.Proofs.YtnpidpcmpleiaaaDoorE
namespace Go.Proofs.YtnpidpcmpleiaaaDoorE
open Go
set_option linter.unusedVariables false
set_option linter.unusedSimpArgs false
def Le {α:Type} (x y:Option α):Prop:=∀a,x=some a→y=some a
theorem Le.refl {α:Type} (x:Option α):Le x x:=fun _ h=>h
theorem Le.trans {α:Type}{x y z:Option α} (h:Le x y) (k:Le y z):Le x z:=fun a ha=>k a (h a ha)
theorem Le.none {α:Type} (x:Option α):Le none x:=fun _ h=>by cases h
noncomputable def Zsw {α:Type} (F:Nat→Option α):Option α:=open Classical in if h:∃n,(F n).isSome=true then F (Classical.choose h) else none
theorem Zo3 {α:Type}{F:Nat→Option α} (mono:∀n m,n≤m→Le (F n) (F m)) (a:α):Zsw F=some a↔∃n,F n=some a:=by
 unfold Zsw
 constructor
 ·intro h
  split at h
  ·rename_i hx;exact⟨_,h⟩
  ·cases h
 ·rintro ⟨n,hn⟩
  have hx:∃n,(F n).isSome=true:=⟨n,by simp[hn]⟩
  rw[dif_pos hx]
  have hs:=Classical.choose_spec hx
  cases hv:F (Classical.choose hx) with
  | none=>rw[hv] at hs;cases hs
  | some b=>
   rcases Nat.le_total n (Classical.choose hx) with h | h
   ·rw[← hv];exact mono _ _ h a hn
   ·have:=mono _ _ h b hv;rw[hn] at this;exact this.symm
def LeC (f g:ZaY):Prop:=∀a b c,Le (f a b c) (g a b c)
abbrev Rnd:=List V→Zi→Option Lp
abbrev ItF:=Rnd→List V→Zi→Option (Ex×List V×Zi)
def LeR (f g:Rnd):Prop:=∀a b,Le (f a b) (g a b)
def LeI (f g:ItF):Prop:=∀F G,LeR F G→∀a b,Le (f F a b) (g G a b)
theorem Zg4 {Γ:Ctx}{cf cg:ZaY} (h:LeC cf cg) (nid:Nat) (H:Zi) (f:Nat) (args:List V):Le (ZeD Γ cf nid H f args) (ZeD Γ cg nid H f args):=by
 intro r hr
 unfold ZeD at hr ⊢
 split at hr
 ·rename_i hm
  cases h1:fzs H args with
  | none=>simp[h1] at hr
  | some l=>
   simp only[h1] at hr ⊢
   cases h2:cf f (Zcf l) [] with
   | none=>simp[h2] at hr
   | some p=>rw[h2] at hr;rw[h _ _ _ p h2];exact hr
 ·rename_i hm
  cases h1:fzs H args with
  | none=>simp[h1] at hr
  | some l=>
   simp only[h1] at hr ⊢
   cases h2:cf f (Zcf l) [] with
   | none=>simp[h2] at hr
   | some p=>rw[h2] at hr;rw[h _ _ _ p h2];exact hr
 ·cases h1:extract 0 args H with
  | none=>simp[h1] at hr
  | some q=>
   obtain⟨L,args',H0⟩:=q
   simp only[h1] at hr ⊢
   cases h2:cf f args' H0 with
   | none=>simp[h2] at hr
   | some p=>rw[h2] at hr;rw[h _ _ _ p h2];exact hr
theorem ZeQ {Γ:Ctx}{cf:ZaY} (e:Env) (nid:Nat) (H:Zi) (x:Opd) (args:List Opd) :
  opE Γ cf e nid H (.callv x args)=match Zhg (x.val e) with | some (f,caps)=>(match ZeG Γ (x.val e) f caps with | true=>none | false=>ZeD Γ cf nid H (Ziq f) (Zj7 f caps (ZdO e args))) | none=>none:=rfl
theorem Zep {Γ:Ctx}{cf:ZaY} (e:Env) (nid:Nat) (H:Zi) (tab:List (Nat×Nat)) (x:Opd) (args:List Opd) :
  opE Γ cf e nid H (.invoke tab x args)=match x.val e with
   | .d (.iface t y)=>(match Ziw tab t with | some f=>ZeD Γ cf nid H f (.d y :: ZdO e args) | none=>none)
   | _=>none:=rfl
theorem Zjb {Γ:Ctx}{cf cg:ZaY} (h:LeC cf cg) (e:Env) (nid:Nat) (H:Zi) (o:O):Le (opE Γ cf e nid H o) (opE Γ cg e nid H o):=by
 intro r hr
 cases o<;>try exact hr
 ·exact Zg4 h _ _ _ _ r hr
 ·rename_i x args
  rw[ZeQ] at hr ⊢
  cases h1:Zhg (x.val e) with
  | none=>simp[h1] at hr
  | some q=>
   obtain⟨f,caps⟩:=q;simp only[h1] at hr ⊢
   cases hb:ZeG Γ (x.val e) f caps with
   | true=>rw[hb] at hr;cases hr
   | false=>rw[hb] at hr;exact Zg4 h _ _ _ _ r hr
 ·rename_i tab x args
  rw[Zep] at hr ⊢
  split at hr
  ·rename_i t y hx
   split at hr
   ·exact Zg4 h _ _ _ _ r hr
   ·cases hr
  ·cases hr
 ·exact Zg4 h _ _ _ _ r hr
theorem Zie {Γ:Ctx}{cf cg:ZaY} (h:LeC cf cg):∀(l:List Op1) (e:Env) (H:Zi),Le (ZfC Γ cf l e H) (ZfC Γ cg l e H)
 | [],e,H,r,hr=>hr
 | o :: l,e,H,r,hr=>by
  unfold ZfC at hr ⊢
  cases hw:Zeb e o.guard with
  | none=>simp[hw] at hr
  | some b=>
   cases b with
   | false=>simp only[hw] at hr ⊢;exact Zie h l _ _ r hr
   | true=>
    simp only[hw] at hr ⊢
    cases ho:opE Γ cf e H.length H o.op with
    | none=>simp[ho] at hr
    | some q=>
     rw[ho] at hr;rw[Zjb h _ _ _ _ q ho]
     exact Zie h l _ _ r hr
theorem ZgU {Γ:Ctx}{cf cg:ZaY} (h:LeC cf cg):∀(l:List Op1) (pos:List (Nat×Nat)) (e:Env) (H:Zi),Le (ZdX Γ cf pos l e H) (ZdX Γ cg pos l e H)
 | [],pos,e,H,r,hr=>hr
 | o :: l,pos,e,H,r,hr=>by
  unfold ZdX at hr ⊢
  cases hw:Zeb e o.guard with
  | none=>simp[hw] at hr
  | some b=>
   cases b with
   | false=>simp only[hw] at hr ⊢;exact ZgU h l _ _ _ r hr
   | true=>
    simp only[hw] at hr ⊢
    cases ho:opE Γ cf e H.length (ZeB H pos o.mask) o.op with
    | none=>simp[ho] at hr
    | some q=>
     rw[ho] at hr;rw[Zjb h _ _ _ _ q ho]
     obtain⟨v,up,nw⟩:=q
     dsimp only at hr ⊢
     cases hb:(ZkG e H o up nw) with
     | false=>simp[hb] at hr
     | true=>simp only[hb,cond_true] at hr ⊢;exact ZgU h l _ _ _ r hr
theorem ZhR {k:Nat}{live outs:List Nat}{x y:Option (Ex×Env×Zi)} (h:Le x y):Le (Zdu k live outs x) (Zdu k live outs y):=by
 intro r hr
 cases x with
 | none=>simp[Zdu] at hr
 | some q=>rw[h q rfl];exact hr
theorem Zk5 {Γ:Ctx}{cf cg:ZaY}{It Jt:ItF} (h:LeC cf cg) (hi:LeI It Jt) (k:Nat):∀(c:C) (e:Env) (H:Zi),Le (ZK Γ cf It k c e H) (ZK Γ cg Jt k c e H):=by
 intro c
 induction c with
 | skip=>intro e H;exact Le.refl _
 | ret=>intro e H;exact Le.refl _
 | exit id=>intro e H;exact Le.refl _
 | seq a b iha ihb=>
  intro e H r hr
  unfold ZK at hr ⊢
  cases ha:ZK Γ cf It k a e H with
  | none=>simp[ha] at hr
  | some q=>
   rw[ha] at hr;rw[iha e H q ha]
   obtain⟨x,e1,H1⟩:=q
   cases x with
   | normal=>exact ihb e1 H1 r hr
   | exit id=>exact hr
   | ret=>exact hr
 | cond x a b iha ihb=>
  intro e H r hr
  unfold ZK at hr ⊢
  split at hr
  ·rename_i t ht
   cases t with
   | true=>exact iha e H r hr
   | false=>exact ihb e H r hr
  ·cases hr
 | block id a iha=>
  intro e H r hr
  unfold ZK at hr ⊢
  cases ha:ZK Γ cf It k a e H with
  | none=>simp[ha] at hr
  | some q=>rw[ha] at hr;rw[iha e H q ha];exact hr
 | loop live outs a iha=>
  intro e H r hr
  unfold ZK at hr ⊢
  cases hh:Zkh k (live.map e) H with
  | none=>simp[hh] at hr
  | some q=>
   obtain⟨vs,H1⟩:=q
   simp only[hh] at hr ⊢
   cases hit:It (fun vs H=>Zdu k live outs (ZK Γ cf It k a (Zdd live vs) H)) vs H1 with
   | none=>simp[hit] at hr
   | some p=>
    rw[hit] at hr
    rw[hi _ (fun vs H=>Zdu k live outs (ZK Γ cg Jt k a (Zdd live vs) H)) (fun vs H=>ZhR (iha (Zdd live vs) H)) vs H1 p hit]
    exact hr
 | ops l=>
  intro e H r hr
  unfold ZK at hr ⊢
  cases ho:ZfC Γ cf l e H with
  | none=>simp[ho] at hr
  | some q=>rw[ho] at hr;rw[Zie h l e H q ho];exact hr
 | draw l=>
  intro e H r hr
  unfold ZK at hr ⊢
  cases ho:ZdX Γ cf [] l e H with
  | none=>simp[ho] at hr
  | some q=>rw[ho] at hr;rw[ZgU h l _ e H q ho];exact hr
theorem Zmc {Γ:Ctx}{cf cg:ZaY}{It Jt:ItF} (h:LeC cf cg) (hi:LeI It Jt) (f:Nat) (args:List V) (H:Zi):Le (Zht Γ cf It f args H) (Zht Γ cg Jt f args H):=by
 intro r hr
 unfold Zht at hr ⊢
 cases hc:Γ.code f with
 | none=>simp[hc] at hr
 | some fn=>
  simp only[hc] at hr ⊢
  cases hn:Nat.beq args.length fn.nargs with
  | false=>simp[hn] at hr
  | true=>
   simp only[hn,cond_true] at hr ⊢
   cases hx:ZK Γ cf It H.length fn.body (ZdC 0 args) H with
   | none=>simp[hx] at hr
   | some q=>rw[hx] at hr;rw[Zk5 h hi _ _ _ _ q hx];exact hr
theorem Zek {F G:Rnd} (h:LeR F G):∀(n m:Nat),n≤m→∀vs H,Le (ZbX F n vs H) (ZbX G m vs H)
 | 0,m,_,vs,H=>Le.none _
 | n+1,0,hm,vs,H=>absurd hm (by omega)
 | n+1,m+1,hm,vs,H=>by
  intro r hr
  unfold ZbX at hr ⊢
  cases hf:F vs H with
  | none=>simp[hf] at hr
  | some q=>
   rw[hf] at hr;rw[h vs H q hf]
   cases q with
   | again vs H=>exact Zek h n m (by omega) vs H r hr
   | done x vs H=>exact hr
theorem ZfU (Γ:Ctx):∀(n m:Nat),n≤m→LeC (evN Γ n) (evN Γ m)
 | 0,m,_=>fun _ _ _=>Le.none _
 | n+1,0,hm=>absurd hm (by omega)
 | n+1,m+1,hm=>fun f args H=>Zmc (ZfU Γ n m (by omega)) (fun F G h vs H=>Zek h n m (by omega) vs H) f args H
noncomputable def evW (Γ:Ctx):ZaY:=fun f args H=>Zsw fun n=>evN Γ n f args H
noncomputable def itW:ItF:=fun F vs H=>Zsw fun n=>ZbX F n vs H
theorem Zf5 (Γ:Ctx) (f:Nat) (args:List V) (H:Zi) (r:V×Zi):evW Γ f args H=some r↔∃n,evN Γ n f args H=some r:=
 Zo3 (fun n m h=>ZfU Γ n m h f args H) r
theorem Zgi (F:Rnd) (vs:List V) (H:Zi) (r:Ex×List V×Zi):itW F vs H=some r↔∃n,ZbX F n vs H=some r:=
 Zo3 (fun n m h=>Zek (fun _ _=>Le.refl _) n m h vs H) r
theorem Ztl (F:Rnd) (vs:List V) (H:Zi):itW F vs H=match F vs H with | some (.again vs H)=>itW F vs H | some (.done x vs H)=>some (x,vs,H) | none=>none:=by
 cases hf:F vs H with
 | none=>
  cases h:itW F vs H with
  | none=>rfl
  | some r=>
   obtain⟨n,hn⟩:=(Zgi F vs H r).1 h
   cases n with
   | zero=>simp[ZbX] at hn
   | succ n=>simp[ZbX,hf] at hn
 | some q=>
  cases q with
  | done x vs' H'=>exact(Zgi F vs H _).2 ⟨1,by simp[ZbX,hf]⟩
  | again vs' H'=>
   dsimp only
   cases h:itW F vs' H' with
   | some r=>
    obtain⟨n,hn⟩:=(Zgi F vs' H' r).1 h
    exact(Zgi F vs H r).2 ⟨n+1,by simp[ZbX,hf,hn]⟩
   | none=>
    cases h2:itW F vs H with
    | none=>rfl
    | some r=>
     obtain⟨n,hn⟩:=(Zgi F vs H r).1 h2
     cases n with
     | zero=>simp[ZbX] at hn
     | succ n=>
      simp[ZbX,hf] at hn
      rw[(Zgi F vs' H' r).2 ⟨n,hn⟩] at h
      cases h
section
variable {Γ:Ctx}
theorem ZgY (nid:Nat) (H:Zi) (f:Nat) (args:List V) (r:V×List (Nat×Blk)×List Blk) (hr:ZeD Γ (evW Γ) nid H f args=some r):∃n,ZeD Γ (evN Γ n) nid H f args=some r:=by
 unfold ZeD at hr ⊢
 split at hr
 ·cases h1:fzs H args with
  | none=>simp[h1] at hr
  | some l=>
   simp only[h1] at hr ⊢
   cases h2:evW Γ f (Zcf l) [] with
   | none=>simp[h2] at hr
   | some p=>obtain⟨n,hn⟩:=(Zf5 Γ f (Zcf l) [] p).1 h2;exact⟨n,by rw[hn];rw[h2] at hr;exact hr⟩
 ·cases h1:fzs H args with
  | none=>simp[h1] at hr
  | some l=>
   simp only[h1] at hr ⊢
   cases h2:evW Γ f (Zcf l) [] with
   | none=>simp[h2] at hr
   | some p=>obtain⟨n,hn⟩:=(Zf5 Γ f (Zcf l) [] p).1 h2;exact⟨n,by rw[hn];rw[h2] at hr;exact hr⟩
 ·cases h1:extract 0 args H with
  | none=>simp[h1] at hr
  | some q=>
   obtain⟨L,args',H0⟩:=q
   simp only[h1] at hr ⊢
   cases h2:evW Γ f args' H0 with
   | none=>simp[h2] at hr
   | some p=>obtain⟨n,hn⟩:=(Zf5 Γ f args' H0 p).1 h2;exact⟨n,by rw[hn];rw[h2] at hr;exact hr⟩
theorem Zn0 (e:Env) (nid:Nat) (H:Zi) (o:O) (r:V×List (Nat×Blk)×List Blk) (hr:opE Γ (evW Γ) e nid H o=some r):∃n,opE Γ (evN Γ n) e nid H o=some r:=by
 cases o<;>try exact⟨0,hr⟩
 ·exact ZgY _ _ _ _ r hr
 ·rename_i x args
  rw[ZeQ] at hr
  cases h1:Zhg (x.val e) with
  | none=>simp[h1] at hr
  | some q=>
   obtain⟨f,caps⟩:=q;simp only[h1] at hr
   cases hb:ZeG Γ (x.val e) f caps with
   | true=>rw[hb] at hr;cases hr
   | false=>
    rw[hb] at hr
    obtain⟨n,hn⟩:=ZgY _ _ _ _ r hr
    exact⟨n,by rw[ZeQ];simp only[h1,hb];exact hn⟩
 ·rename_i tab x args
  rw[Zep] at hr
  split at hr
  ·rename_i t y hx
   cases hl:Ziw tab t with
   | none=>simp[hl] at hr
   | some f=>
    simp only[hl] at hr
    obtain⟨n,hn⟩:=ZgY _ _ _ _ r hr
    exact⟨n,by rw[Zep];simp only[hx,hl];exact hn⟩
  ·cases hr
 ·exact ZgY _ _ _ _ r hr
theorem ZjT:∀(l:List Op1) (e:Env) (H:Zi) (r:Env×Zi),ZfC Γ (evW Γ) l e H=some r→∃n,ZfC Γ (evN Γ n) l e H=some r
 | [],e,H,r,hr=>⟨0,hr⟩
 | o :: l,e,H,r,hr=>by
  unfold ZfC at hr
  cases hw:Zeb e o.guard with
  | none=>simp[hw] at hr
  | some b=>
   cases b with
   | false=>
    simp only[hw] at hr
    obtain⟨n,hn⟩:=ZjT l _ _ r hr
    exact⟨n,by unfold ZfC;simp only[hw];exact hn⟩
   | true=>
    simp only[hw] at hr
    cases ho:opE Γ (evW Γ) e H.length H o.op with
    | none=>simp[ho] at hr
    | some q=>
     rw[ho] at hr
     obtain⟨n,hn⟩:=Zn0 _ _ _ _ q ho
     obtain⟨v,up,nw⟩:=q
     obtain⟨m,hm⟩:=ZjT l _ _ r hr
     refine⟨max n m,?_⟩
     unfold ZfC
     simp only[hw]
     rw[Zjb (ZfU Γ n (max n m) (Nat.le_max_left _ _)) _ _ _ _ _ hn]
     exact Zie (ZfU Γ m (max n m) (Nat.le_max_right _ _)) l _ _ r hm
theorem ZiM:∀(l:List Op1) (pos:List (Nat×Nat)) (e:Env) (H:Zi) (r:Env×Zi),ZdX Γ (evW Γ) pos l e H=some r→∃n,ZdX Γ (evN Γ n) pos l e H=some r
 | [],pos,e,H,r,hr=>⟨0,hr⟩
 | o :: l,pos,e,H,r,hr=>by
  unfold ZdX at hr
  cases hw:Zeb e o.guard with
  | none=>simp[hw] at hr
  | some b=>
   cases b with
   | false=>
    simp only[hw] at hr
    obtain⟨n,hn⟩:=ZiM l _ _ _ r hr
    exact⟨n,by unfold ZdX;simp only[hw];exact hn⟩
   | true=>
    simp only[hw] at hr
    cases ho:opE Γ (evW Γ) e H.length (ZeB H pos o.mask) o.op with
    | none=>simp[ho] at hr
    | some q=>
     rw[ho] at hr
     obtain⟨n,hn⟩:=Zn0 _ _ _ _ q ho
     obtain⟨v,up,nw⟩:=q
     dsimp only at hr
     cases hb:(ZkG e H o up nw) with
     | false=>simp[hb] at hr
     | true=>
      simp only[hb,cond_true] at hr
      obtain⟨m,hm⟩:=ZiM l _ _ _ r hr
      refine⟨max n m,?_⟩
      unfold ZdX
      simp only[hw]
      rw[Zjb (ZfU Γ n (max n m) (Nat.le_max_left _ _)) _ _ _ _ _ hn]
      simp only[hb,cond_true]
      exact ZgU (ZfU Γ m (max n m) (Nat.le_max_right _ _)) l _ _ _ r hm
theorem ZoW (k:Nat):∀(c:C) (e:Env) (H:Zi) (r:Ex×Env×Zi),ZK Γ (evW Γ) itW k c e H=some r→∃n,ZK Γ (evN Γ n) (fun F=>ZbX F n) k c e H=some r:=by
 have up:∀(c:C) (e:Env) (H:Zi) (r:Ex×Env×Zi) (n m:Nat),n≤m→ZK Γ (evN Γ n) (fun F=>ZbX F n) k c e H=some r→ZK Γ (evN Γ m) (fun F=>ZbX F m) k c e H=some r:=
  fun c e H r n m h=>Zk5 (ZfU Γ n m h) (fun F G hFG vs H=>Zek hFG n m h vs H) k c e H r
 intro c
 induction c with
 | skip=>intro e H r hr;exact⟨0,hr⟩
 | ret=>intro e H r hr;exact⟨0,hr⟩
 | exit id=>intro e H r hr;exact⟨0,hr⟩
 | seq a b iha ihb=>
  intro e H r hr
  unfold ZK at hr
  cases ha:ZK Γ (evW Γ) itW k a e H with
  | none=>simp[ha] at hr
  | some q=>
   rw[ha] at hr
   obtain⟨n,hn⟩:=iha e H q ha
   obtain⟨x,e1,H1⟩:=q
   cases x with
   | normal=>
    obtain⟨m,hm⟩:=ihb e1 H1 r hr
    refine⟨max n m,?_⟩
    unfold ZK
    rw[up a e H _ n _ (Nat.le_max_left _ _) hn]
    exact up b e1 H1 r m _ (Nat.le_max_right _ _) hm
   | exit id=>exact⟨n,by unfold ZK;rw[hn];exact hr⟩
   | ret=>exact⟨n,by unfold ZK;rw[hn];exact hr⟩
 | cond x a b iha ihb=>
  intro e H r hr
  unfold ZK at hr
  split at hr
  ·rename_i t ht
   cases t with
   | true=>obtain⟨n,hn⟩:=iha e H r hr;exact⟨n,by unfold ZK;simp only[ht];exact hn⟩
   | false=>obtain⟨n,hn⟩:=ihb e H r hr;exact⟨n,by unfold ZK;simp only[ht];exact hn⟩
  ·cases hr
 | block id a iha=>
  intro e H r hr
  unfold ZK at hr
  cases ha:ZK Γ (evW Γ) itW k a e H with
  | none=>simp[ha] at hr
  | some q=>rw[ha] at hr;obtain⟨n,hn⟩:=iha e H q ha;exact⟨n,by unfold ZK;rw[hn];exact hr⟩
 | loop live outs a iha=>
  intro e H r hr
  unfold ZK at hr
  cases hh:Zkh k (live.map e) H with
  | none=>simp[hh] at hr
  | some q=>
   obtain⟨vs,H1⟩:=q
   simp only[hh] at hr
   cases hit:itW (fun vs H=>Zdu k live outs (ZK Γ (evW Γ) itW k a (Zdd live vs) H)) vs H1 with
   | none=>simp[hit] at hr
   | some p=>
    rw[hit] at hr
    obtain⟨n,hn⟩:=(Zgi _ vs H1 p).1 hit
    have key:∀(n:Nat) (vs:List V) (H1:Zi) (p:Ex×List V×Zi),ZbX (fun vs H=>Zdu k live outs (ZK Γ (evW Γ) itW k a (Zdd live vs) H)) n vs H1=some p →
      ∃m,ZbX (fun vs H=>Zdu k live outs (ZK Γ (evN Γ m) (fun F=>ZbX F m) k a (Zdd live vs) H)) n vs H1=some p:=by
     intro n
     induction n with
     | zero=>intro vs H1 p h;simp[ZbX] at h
     | succ n ih=>
      intro vs H1 p h
      unfold ZbX at h
      cases hc:ZK Γ (evW Γ) itW k a (Zdd live vs) H1 with
      | none=>simp[hc,Zdu] at h
      | some q=>
       obtain⟨m1,hm1⟩:=iha _ _ q hc
       simp only[hc] at h
       cases hr2:Zdu k live outs (some q) with
       | none=>simp[hr2] at h
       | some z=>
        rw[hr2] at h
        cases z with
        | done x vs' H'=>exact⟨m1,by unfold ZbX;simp only[hm1,hr2];exact h⟩
        | again vs' H'=>
         obtain⟨m2,hm2⟩:=ih vs' H' p h
         refine⟨max m1 m2,?_⟩
         unfold ZbX
         simp only[up a _ _ q m1 _ (Nat.le_max_left m1 m2) hm1,hr2]
         exact Zek (fun vs H=>ZhR (fun q hq=>up a _ _ q m2 _ (Nat.le_max_right m1 m2) hq)) n n (Nat.le_refl _) vs' H' p hm2
    obtain⟨m,hm⟩:=key n vs H1 p hn
    refine⟨max n m,?_⟩
    unfold ZK
    simp only[hh]
    rw[Zek (fun vs H=>ZhR (fun q hq=>up a _ _ q m _ (Nat.le_max_right n m) hq)) n _ (Nat.le_max_left n m) vs H1 p hm]
    exact hr
 | ops l=>
  intro e H r hr
  unfold ZK at hr
  cases ho:ZfC Γ (evW Γ) l e H with
  | none=>simp[ho] at hr
  | some q=>rw[ho] at hr;obtain⟨n,hn⟩:=ZjT l e H q ho;exact⟨n,by unfold ZK;rw[hn];exact hr⟩
 | draw l=>
  intro e H r hr
  unfold ZK at hr
  cases ho:ZdX Γ (evW Γ) [] l e H with
  | none=>simp[ho] at hr
  | some q=>rw[ho] at hr;obtain⟨n,hn⟩:=ZiM l _ e H q ho;exact⟨n,by unfold ZK;rw[hn];exact hr⟩
theorem ZtN (f:Nat) (args:List V) (H:Zi):evW Γ f args H=Zht Γ (evW Γ) itW f args H:=by
 have h1:Le (evW Γ f args H) (Zht Γ (evW Γ) itW f args H):=by
  intro r hr
  obtain⟨n,hn⟩:=(Zf5 Γ f args H r).1 hr
  cases n with
  | zero=>simp[evN] at hn
  | succ n=>exact Zmc (fun a b c r h=>(Zf5 Γ a b c r).2 ⟨n,h⟩) (fun F G h vs H r hr=>(Zgi G vs H r).2 ⟨n,Zek h n n (Nat.le_refl _) vs H r hr⟩) f args H r hn
 have h2:Le (Zht Γ (evW Γ) itW f args H) (evW Γ f args H):=by
  intro r hr
  unfold Zht at hr
  cases hc:Γ.code f with
  | none=>simp[hc] at hr
  | some fn=>
   simp only[hc] at hr
   cases hn:Nat.beq args.length fn.nargs with
   | false=>simp[hn] at hr
   | true=>
    simp only[hn,cond_true] at hr
    cases hx:ZK Γ (evW Γ) itW H.length fn.body (ZdC 0 args) H with
    | none=>simp[hx] at hr
    | some q=>
     rw[hx] at hr
     obtain⟨n,hn2⟩:=ZoW _ _ _ _ q hx
     refine(Zf5 Γ f args H r).2 ⟨n+1,?_⟩
     show Zht Γ (evN Γ n) (fun F=>ZbX F n) f args H=some r
     unfold Zht
     simp only[hc,hn,cond_true,hn2]
     exact hr
 cases h:evW Γ f args H with
 | some r=>exact(h1 r h).symm
 | none=>
  cases h':Zht Γ (evW Γ) itW f args H with
  | none=>rfl
  | some r=>rw[h2 r h'] at h;cases h
end
end Go.Proofs.YtnpidpcmpleiaaaDoorE
namespace Go.Proofs.YtnpidpcmpleiaaaDoorE
open Go
set_option linter.unusedVariables false
set_option linter.unusedSimpArgs false
def Zfu (P:Program) (t:TypeId):Option Bool:=
 match P.underlying t with
 | some (.struct _)=>some true
 | some (.array _ _)=>some true
 | some _=>some false
 | none=>none
def Zen (P:Program) (t:TypeId):Option Nat:=(P.info? t).map (·.size)
theorem ZeU {P:Program}{w:World}{t:TypeId}{ag:Bool} (h:Zfu P t=some ag):(isAgg t).run P w = .ok ag w:=by
 unfold Zfu at h
 cases hu:P.underlying t with
 | none=>simp[hu] at h
 | some d=>
  rw[hu] at h
  have:=run_underlying (P:=P) (w:=w) hu
  simp only[isAgg,Sem.run_bind,this,Result.andThen_ok]
  cases d<;>simp_all
theorem Zdi {P:Program}{w:World}{t:TypeId}{n:Nat} (h:Zen P t=some n):(sizeOf t).run P w = .ok n w:=by
 unfold Zen at h
 cases hi:P.info? t with
 | none=>simp[hi] at h
 | some i=>
  simp only[hi,Option.map_some,Option.some.injEq] at h
  subst h
  simp[sizeOf,typeInfo,hi]
section
variable {R:RP} {w:World}
theorem Zda:∀(vs:List V) (us:List Value),Zat R w vs us→us.length=vs.length
 | [],us,h=>by simp only[Zat] at h;subst h;rfl
 | v :: vs,us,h=>by
  obtain⟨u,us',rfl,e1,e2⟩:=h
  simp[Zda vs us' e2]
theorem ZdW:∀(vs:List V) (us:List Value) (j:Nat) (v:V),Zat R w vs us→vs[j]? = some v→∃u,us[j]? = some u∧ZaM R w v u
 | [],us,j,v,_,hj=>by simp at hj
 | y :: vs,us,0,v,h,hj=>by
  obtain⟨u,us',rfl,e1,e2⟩:=h
  simp at hj;subst hj
  exact⟨u,by simp,e1⟩
 | y :: vs,us,j+1,v,h,hj=>by
  obtain⟨u,us',rfl,e1,e2⟩:=h
  simpa using ZdW vs us' j v e2 (by simpa using hj)
theorem ZgF:∀(vs:List V) (us:List Value),us.length=vs.length→(∀(j:Nat) v u,vs[j]? = some v→us[j]? = some u→ZaM R w v u)→Zat R w vs us
 | [],us,hl,_=>by simpa [Zat] using hl
 | y :: vs,[],hl,_=>by simp at hl
 | y :: vs,u :: us,hl,h=>⟨u,us,rfl,h 0 y u rfl rfl,ZgF vs us (by simpa using hl) fun j x v hx hv=>h (j+1) x v (by simpa using hx) (by simpa using hv)⟩
theorem ZgT:∀(l:List D),Zcf l=l.map V.d
 | []=>rfl
 | x :: l=>by simp[Zcf,ZgT l]
theorem ZcC:∀(l:List D) (us:List Value),Zat R w (Zcf l) us↔ZaD R.A1 R.A0 R.AL w l us
 | [],us=>Iff.rfl
 | x :: l,us=>by
  simp only[Zcf,Zat,ZaD]
  constructor
  ·rintro ⟨u,us',e,h1,h2⟩;exact⟨u,us',e,h1,(ZcC l us').1 h2⟩
  ·rintro ⟨u,us',e,h1,h2⟩;exact⟨u,us',e,h1,(ZcC l us').2 h2⟩
theorem Zh6:∀{vs:List V}{l:List D},ZhG vs=some l→vs=Zcf l
 | [],l,h=>by simp[ZhG] at h;subst h;rfl
 | v :: vs,l,h=>by
  cases v<;>simp only[ZhG] at h<;>try (cases h;done)
  rename_i x
  cases hr:ZhG vs with
  | none=>simp[hr] at h
  | some l'=>
   simp only[hr,Option.some.injEq] at h
   subst h
   rw[Zh6 hr,Zcf]
theorem Zk3 {vs:List V}{us:List Value} (h:Zat R w vs us):ZaM R w (ZnG vs) (.agg us.toArray):=by
 unfold ZnG
 cases ha:ZhG vs with
 | none=>exact⟨us,rfl,h⟩
 | some l=>
  rw[Zh6 ha,ZcC] at h
  exact⟨us,rfl,h⟩
theorem ZrM {vs:List V}{us:List Value} (h:Zat R w vs us):ZaM R w (Zo8 vs) (.tuple us.toArray):=by
 unfold Zo8
 cases ha:ZhG vs with
 | none=>exact⟨us,rfl,h⟩
 | some l=>
  rw[Zh6 ha,ZcC] at h
  exact⟨us,rfl,h⟩
theorem ZeY {v:V}{u:Value} (h:ZaM R w v u) (hv:v.okb=true):Zat R w v.cells u.cells.toList:=by
 cases v with
 | d x=>
  cases x with
  | agg cs=>
   obtain⟨us,rfl,h⟩:=h
   simpa [V.cells,Value.cells] using (ZcC cs us).2 h
  | tup cs=>simp[V.okb] at hv
  | bool b=>simp only[ZaM,RP.den,ZaR] at h;subst h;exact⟨_,[],rfl,by simp[ZaM,RP.den,ZaR],rfl⟩
  | int k n=>simp only[ZaM,RP.den,ZaR] at h;subst h;exact⟨_,[],rfl,by simp[ZaM,RP.den,ZaR],rfl⟩
  | str s=>simp only[ZaM,RP.den,ZaR] at h;subst h;exact⟨_,[],rfl,by simp[ZaM,RP.den,ZaR],rfl⟩
  | nilfn=>simp only[ZaM,RP.den,ZaR] at h;subst h;exact⟨_,[],rfl,by simp[ZaM,RP.den,ZaR],rfl⟩
  | nilp=>simp only[ZaM,RP.den,ZaR] at h;subst h;exact⟨_,[],rfl,by simp[ZaM,RP.den,ZaR],rfl⟩
  | nilI=>simp only[ZaM,RP.den,ZaR] at h;subst h;exact⟨_,[],rfl,by simp[ZaM,RP.den,ZaR],rfl⟩
  | list own xs=>
   have h':=h
   obtain⟨a,len,cap,rfl,_⟩:=h'
   exact⟨_,[],rfl,h,rfl⟩
  | fn f caps=>
   have h':=h
   obtain⟨us,rfl,_⟩:=h'
   exact⟨_,[],Zll _ _,h,rfl⟩
  | rptr cs=>
   have h':=h
   obtain⟨b,off,rfl,_⟩:=h'
   exact⟨_,[],rfl,h,rfl⟩
  | iface t v=>
   have h':=h
   obtain⟨u',rfl,_⟩:=h'
   exact⟨_,[],rfl,h,rfl⟩
 | bad=>simp[V.okb] at hv
 | tup cs=>simp[V.okb] at hv
 | agg cs=>
  obtain⟨us,rfl,h⟩:=h
  simpa [V.cells,Value.cells] using h
 | nilsl sz=>
  have h':=h
  obtain⟨a,rfl⟩:=h'
  exact⟨_,[],rfl,h,rfl⟩
 | fn f caps=>
  have h':=h
  obtain⟨us,rfl,_⟩:=h'
  exact⟨_,[],Zll _ _,h,rfl⟩
 | ptr b o=>
  have h':=h
  obtain⟨c,_,rfl⟩:=h'
  exact⟨_,[],rfl,h,rfl⟩
 | eptr b sz i k=>
  have h':=h
  obtain⟨c,_,rfl⟩:=h'
  exact⟨_,[],rfl,h,rfl⟩
 | sl b sz=>
  have h':=h
  obtain⟨⟨a,n,c,rfl⟩,_⟩:=h'
  exact⟨_,[],rfl,h,rfl⟩
 | slp b sz o l=>
  have h':=h
  obtain⟨⟨a,n,c,rfl⟩,_⟩:=h'
  exact⟨_,[],rfl,h,rfl⟩
 | mp b=>
  have h':=h
  obtain⟨⟨a,rfl⟩,_⟩:=h'
  exact⟨_,[],rfl,h,rfl⟩
end
structure Pre (G:Za9) (R:RP) (w:World) (e:Env) (a:Act) (Hm:Zi):Prop where
 ok:R.OK w
 g:GOK G R w
 env:Zfv R w e a
 le:∀b blk,nth Hm b=some blk→blk ≠ .dead→nth R.H b=some blk
section
variable {P:Program} {G:Za9} {R:RP} {w:World} {e:Env} {a:Act} {Hm H':Zi} {nid:Nat} {o:Oper}
theorem Pre.opd (pre:Pre G R w e a Hm) {x:Operand}{y:Opd} (h:ZG G x y=true):ZaM R w (y.val e) (a.eval x):=Zi1 pre.g pre.env h
theorem Pre.opds (pre:Pre G R w e a Hm) {xs:List Operand}{ys:List Opd} (h:Zdq G xs ys=true):Zat R w (ZdO e ys) (xs.map a.eval):=Zmv pre.g pre.env h
theorem Zbz {s:Sem Value}{u:Value}{w':World}{Po:Value→World→Prop} (hx:execOp a.eval o=(do pure (Next.value (← s)))) (hr:s.run P w = .ok u w') (hp:Po u w'):Zcx P o a w Po:=
 .val (by rw[hx];simp[hr]) hp
theorem ZsZ (pre:Pre G R w e a Hm) {x:Operand}{y:Opd} (hop:o.op = .move x∨o.op = .assign x) (hx:ZG G x y=true) (hp:Z7 R.H [] nid [] H') :
  Zcx P o a w (ZT R w nid 0 H' (y.val e)):=by
 refine .val (u:=a.eval x) (w':=w) ?_ (ZT.stay pre.ok hp (pre.opd hx))
 rcases hop with h | h<;>(unfold execOp;rw[h];rfl)
theorem Zun (pre:Pre G R w e a Hm) {c x y:Operand}{c' x' y':Opd}{t:Bool} (hop:o.op = .pick c x y) (hc:ZG G c c'=true) (hx:ZG G x x'=true) (hy:ZG G y y'=true)
  (ht:c'.val e = .d (.bool t)) (hp:Z7 R.H [] nid [] H'):Zcx P o a w (ZT R w nid 0 H' (bif t then x'.val e else y'.val e)):=by
 have hcv:=pre.opd hc
 rw[ht] at hcv
 simp only[ZaM,RP.den,ZaR] at hcv
 refine .val (u:=if t=true then a.eval x else a.eval y) (w':=w) ?_ (ZT.stay pre.ok hp ?_)
 ·unfold execOp;rw[hop];simp[hcv,asBool]
 ·cases t
  ·exact pre.opd hy
  ·exact pre.opd hx
theorem Zki {t:TypeId}{x:Addr}{u:Value} (h:Zfu P t=some false) (hc:w.cell? x=some u):(loadVar t x).run P w = .ok u w:=by
 unfold loadVar
 simp only[Sem.run_bind,ZeU h,Result.andThen_ok,Bool.false_eq_true,if_false,run_load,hc]
theorem Zkk {t:TypeId}{x:Addr}{us:List Value} (h:Zfu P t=some true) (hs:Zen P t=some us.length) (hc:∀(j:Nat) v,us[j]? = some v→w.cell? (x.add j)=some v) :
  (loadVar t x).run P w = .ok (.agg us.toArray) w:=by
 unfold loadVar
 simp only[Sem.run_bind,ZeU h,Zdi hs,Result.andThen_ok,if_true,run_loadCells_list w x us hc,Sem.run_pure]
theorem Zhf {n:Nat}{ag:Bool}{cs:List V}{v:V}{t:TypeId}{b off:Nat} (hc:∀(j:Nat) v,cs[j]? = some v→∃u,w.cell? ⟨b,off+j,none⟩=some u∧ZaM R w v u)
  (hag:Zfu P t=some ag) (hsz:Zen P t=some n) (h:ZdB n ag cs=some v):∃u,(loadVar t ⟨b,off,none⟩).run P w = .ok u w∧ZaM R w v u:=by
 unfold ZdB at h
 cases ag with
 | false=>
  simp only[cond_false] at h
  obtain⟨u,h1,h2⟩:=hc 0 v (by rw[← List.head?_eq_getElem?];exact h)
  exact⟨u,Zki hag (by simpa using h1),h2⟩
 | true=>
  simp only[cond_true] at h
  cases hl:Nat.beq (cs.take n).length n with
  | false=>rw[hl] at h;cases h
  | true=>
   rw[hl] at h
   simp only[cond_true,Option.some.injEq] at h
   subst h
   have hl':(cs.take n).length=n:=Nat.eq_of_beq_eq_true hl
   let us:List Value:=(List.range n).map fun j=>(w.cell? ⟨b,off+j,none⟩).getD undef
   have hus:us.length=n:=by simp[us]
   have key:∀(j:Nat) v,(cs.take n)[j]? = some v→∃u,us[j]? = some u∧w.cell? ⟨b,off+j,none⟩=some u∧ZaM R w v u:=by
    intro j v hj
    have hjn:j<n:=by have:=(List.getElem?_eq_some_iff.1 hj).1;omega
    obtain⟨u,h1,h2⟩:=hc j v (by rw[List.getElem?_take] at hj;simpa [hjn] using hj)
    exact⟨u,by simp[us,hjn,h1],h1,h2⟩
   refine⟨.agg us.toArray,Zkk hag (by rw[hus];exact hsz) ?_,Zk3 (ZgF _ _ (by omega) ?_)⟩
   ·intro j v hv
    have hjn:j<n:=by have:=(List.getElem?_eq_some_iff.1 hv).1;omega
    obtain⟨v0,hv0⟩:∃v0,(cs.take n)[j]? = some v0:=⟨_,List.getElem?_eq_getElem (by omega)⟩
    obtain⟨u,f1,f2,_⟩:=key j v0 hv0
    rw[hv] at f1;cases f1
    rw[Addr.add_lit];exact f2
   ·intro j v u hv hu
    obtain⟨u',f1,_,f3⟩:=key j v hv
    rw[hu] at f1;cases f1;exact f3
theorem Zb3 {b off:Nat}{cs:Array Value}{el:TypeId}{fr:Nat×Nat} (h:w.heap[b]? = some (.cells cs el fr)):w.cell? ⟨b,off,none⟩=cs[off]?:=by
 simp[World.cell?,h]
theorem Zpk (pre:Pre G R w e a Hm) {n:Nat}{ag:Bool}{t:TypeId}{x v:V}{u0:Value} (hag:Zfu P t=some ag) (hsz:Zen P t=some n) (hx:ZaM R w x u0) (h:ZcE Hm n ag x=some v) :
  ∃u,(Instr.loadAt t u0).run P w = .ok u w∧ZaM R w v u:=by
 unfold ZcE at h
 cases x with
 | ptr b o=>
  dsimp only at h
  cases hb:nth Hm b with
  | none=>simp[hb] at h
  | some blk=>
   rw[hb] at h
   cases blk<;>try (cases h;done)
   rename_i cs
   have hb':=pre.le b _ hb (by simp)
   obtain⟨c,h1,rfl⟩:=hx
   rw[ZS] at hb'
   obtain⟨c',cs',el,fr,e1,e2,e3,e4,e5⟩:=pre.ok.blk b _ _ hb' h1
   cases e1
   obtain⟨u,f1,f2⟩:=Zhf (P:=P) (cs:=cs.drop o) (b:=c) (off:=o) (by
    intro j v hj
    obtain⟨u,g1,g2⟩:=e5 (o+j) v (by simpa using hj)
    exact⟨u,by rw[Zb3 e2];exact g1,g2⟩) hag hsz h
   exact⟨u,by simpa [Instr.loadAt,Instr.sureAddr] using f1,f2⟩
 | eptr b sz i k=>
  dsimp only at h
  cases hb:nth Hm b with
  | none=>simp[hb] at h
  | some blk=>
   rw[hb] at h
   cases blk<;>try (cases h;done)
   rename_i sz' xs
   dsimp only at h
   cases hs:Nat.beq sz sz' with
   | false=>simp[hs] at h
   | true=>
    obtain rfl:=Nat.eq_of_beq_eq_true hs
    simp only[hs,cond_true] at h
    cases hxi:nth xs i with
    | none=>simp[hxi] at h
    | some y=>
     simp only[hxi] at h
     have hb':=pre.le b _ hb (by simp)
     obtain⟨c,h1,rfl⟩:=hx
     rw[ZS] at hb' hxi
     obtain⟨e0,e1,e2⟩:=pre.ok.blk b _ _ hb' h1
     rcases e2 with⟨e2,_⟩ | ⟨c',cs,el,e2,e3,e4,e5⟩
     ·cases e2
     ·cases e2
      obtain⟨uy,f1,f2,f3⟩:=e5 i y hxi
      have hyb:(V.d y).okb=true∨∃ts,y = .tup ts:=by cases y<;>simp[V.okb]
      rcases hyb with hyb | ⟨ts,rfl⟩
      ·have hcs:=ZeY (R:=R) (v:=.d y) f1 hyb
       have hVc:(V.d y).cells=Zcf y.cells:=by cases y<;>rfl
       rw[hVc] at hcs
       obtain⟨u,g1,g2⟩:=Zhf (P:=P) (cs:=Zcf (y.cells.drop k)) (b:=c) (off:=i*sz+k) (by
        intro j v hj
        have hj':(Zcf y.cells)[k+j]? = some v:=by
         rw[ZgT,List.getElem?_map] at hj ⊢
         simpa using hj
        obtain⟨u,p1,p2⟩:=ZdW _ _ _ _ hcs hj'
        refine⟨u,?_,p2⟩
        rw[Zb3 e3,Nat.add_assoc]
        exact f3 (k+j) u (by simpa using p1)) hag hsz h
       exact⟨u,by simpa [Instr.loadAt,Instr.sureAddr] using g1,g2⟩
      ·have f1':=f1
       obtain⟨us,rfl,_⟩:=f1'
       obtain⟨u,g1,g2⟩:=Zhf (P:=P) (cs:=Zcf (D.cells (.tup ts) |>.drop k)) (b:=c) (off:=i*sz+k) (by
        intro j v hj
        cases k with
        | zero=>
         cases j with
         | zero=>
          simp[D.cells,Zcf] at hj
          subst hj
          refine⟨.tuple us.toArray,?_,f1⟩
          rw[Zb3 e3]
          have:=f3 0 (.tuple us.toArray) rfl
          simpa using this
         | succ j=>simp[D.cells,Zcf] at hj
        | succ k=>simp[D.cells,Zcf] at hj) hag hsz h
       exact⟨u,by simpa [Instr.loadAt,Instr.sureAddr] using g1,g2⟩
 | d y=>
  cases y<;>try (cases h;done)
  rename_i cs
  dsimp only at h
  obtain⟨b,off,rfl,h1,h2,h3⟩:=hx
  obtain⟨u,g1,g2⟩:=Zhf (P:=P) (cs:=Zcf cs) (b:=b) (off:=off) (by
   intro j v hj
   rw[ZgT,List.getElem?_map] at hj
   cases hcj:cs[j]? with
   | none=>simp[hcj] at hj
   | some x=>
    simp[hcj] at hj
    subst hj
    obtain⟨u,p1,p2⟩:=ZhB cs off j x h3 hcj
    exact⟨u,p1,p2⟩) hag hsz h
  exact⟨u,by simpa [Instr.loadAt,Instr.sureAddr] using g1,g2⟩
 | bad=>cases h
 | sl b sz=>cases h
 | slp b sz o l=>cases h
 | nilsl sz=>cases h
 | agg cs=>cases h
 | tup cs=>cases h
 | fn f cs=>cases h
 | mp b=>cases h
theorem Ztp (pre:Pre G R w e a Hm) {n:Nat}{ag:Bool}{t:TypeId}{x:Operand}{y:Opd}{v:V} (hop:o.op = .load t x) (hx:ZG G x y=true) (hag:Zfu P t=some ag) (hsz:Zen P t=some n)
  (h:ZcE Hm n ag (y.val e)=some v) (hp:Z7 R.H [] nid [] H'):Zcx P o a w (ZT R w nid 0 H' v):=by
 obtain⟨u,h1,h2⟩:=Zpk pre hag hsz (pre.opd hx) h
 exact Zbz (s:=Instr.loadAt t (a.eval x)) (by unfold execOp;rw[hop]) h1 (ZT.stay pre.ok hp h2)
def Zg3 (P:Program) (s:TypeId) (f:Nat):Option (Nat×TypeId):=
 match P.underlying s with
 | some (.struct fields)=>(fields[f]?).map fun x=>(x.offset,x.type)
 | _=>none
theorem Zjn {s:TypeId}{f off:Nat}{t:TypeId} (h:Zg3 P s f=some (off,t)):∃fields fd,P.underlying s=some (.struct fields)∧fields[f]? = some fd∧fd.offset=off∧fd.type=t:=by
 unfold Zg3 at h
 split at h
 ·rename_i fields hu
  cases hf:fields[f]? with
  | none=>simp[hf] at h
  | some fd=>
   simp only[hf,Option.map_some,Option.some.injEq,Prod.mk.injEq] at h
   exact⟨fields,fd,hu,hf,h.1,h.2⟩
 ·cases h
theorem ZnU {s:TypeId}{f off n:Nat}{t:TypeId}{x:Addr} (h:Zg3 P s f=some (off,t)) (hn:Zen P t=some n) (h0:n≠0) :
  (Instr.fieldAt s (.pointer (some x)) f).run P w = .ok (.pointer (some (x.add off))) w:=by
 obtain⟨fields,fd,h1,h2,rfl,rfl⟩:=Zjn h
 simp[Instr.fieldAt,run_underlying h1,h2,Instr.sureAddr,fieldPlace,Zdi hn,h0]
theorem ZnI (pre:Pre G R w e a Hm) {off:Nat}{x v:V}{u0:Value} (hx:ZaM R w x u0) (h:Zg5 Hm off x=some v):∃ad,u0 = .pointer (some ad)∧ZaM R w v (.pointer (some (ad.add off))):=by
 unfold Zg5 at h
 cases x<;>try (cases h;done)
 ·rename_i y
  cases y<;>try (cases h;done)
  rename_i cs
  simp only[Option.some.injEq] at h
  subst h
  obtain⟨b,of,rfl,h1,h2,h3⟩:=hx
  exact⟨_,rfl,b,of+off,by rw[Addr.add_lit],h1,h2,ZlR cs of off h3⟩
 ·rename_i b o
  simp only[Option.some.injEq] at h
  subst h
  obtain⟨c,h1,rfl⟩:=hx
  exact⟨_,rfl,c,h1,by rw[Addr.add_lit]⟩
 ·rename_i b sz i k
  simp only[Option.some.injEq] at h
  subst h
  obtain⟨c,h1,rfl⟩:=hx
  exact⟨_,rfl,c,h1,by rw[Addr.add_lit,Nat.add_assoc]⟩
theorem ZsI (pre:Pre G R w e a Hm) {s t:TypeId}{f off n:Nat}{x:Operand}{y:Opd}{v:V} (hop:o.op = .fieldAddr s x f) (hx:ZG G x y=true) (hf:Zg3 P s f=some (off,t)) (hn:Zen P t=some n) (h0:n≠0)
  (h:Zg5 Hm off (y.val e)=some v) (hp:Z7 R.H [] nid [] H'):Zcx P o a w (ZT R w nid 0 H' v):=by
 obtain⟨ad,h1,h2⟩:=ZnI pre (pre.opd hx) h
 exact Zbz (s:=Instr.fieldAt s (a.eval x) f) (by unfold execOp;rw[hop]) (by rw[h1];exact ZnU hf hn h0) (ZT.stay pre.ok hp h2)
theorem Zha {k:IntKind}{n:Int}{u:Value} (h:ZaM R w (.d (.int k n)) u):u = .int k n:=h
theorem ZnT {b:Bool}{u:Value} (h:ZaM R w (.d (.bool b)) u):u = .bool b:=h
theorem ZsH {op:BinOp}{x y:V}{r:D}{u1 u2:Value} (t:TypeId) (ox oy:Operand) (hx:ZaM R w x u1) (hy:ZaM R w y u2) (h:ZjU op x y=some r) :
  ∃u,((do eqGuard op t ox oy u1 u2;binOp op t u1 u2:Sem Value)).run P w = .ok u w∧R.den w r u:=by
 unfold ZjU at h
 split at h
 ·rename_i i a1 j b1
  cases Zha hx;cases Zha hy
  unfold shI at h
  cases hb:decide (b1<0) with
  | true=>simp[hb] at h
  | false=>
   simp only[hb,cond_false,Option.some.injEq] at h
   subst h
   have hb':¬b1<0:=of_decide_eq_false hb
   refine⟨_,?_,rfl⟩
   simp[eqGuard,binOp,Op.shift,hb']
 ·rename_i i a1 j b1
  cases Zha hx;cases Zha hy
  unfold shI at h
  cases hb:decide (b1<0) with
  | true=>simp[hb] at h
  | false=>
   simp only[hb,cond_false,Option.some.injEq] at h
   subst h
   have hb':¬b1<0:=of_decide_eq_false hb
   refine⟨_,?_,rfl⟩
   simp[eqGuard,binOp,Op.shift,hb']
 ·rename_i op' i a1 j b1 hn1 hn2
  cases Zha hx;cases Zha hy
  cases hk:i==j with
  | false=>simp[hk] at h
  | true=>
   obtain rfl:i=j:=by simpa using hk
   simp only[hk,cond_true] at h
   cases op<;>simp only[Zsz,Option.some.injEq] at h
   case shl=>exact(hn1 rfl).elim
   case shr=>exact(hn2 rfl).elim
   case andNot=>cases h
   case quo=>
    cases hb:b1==0 with
    | true=>simp[hb] at h
    | false=>
     simp only[hb,cond_false,Option.some.injEq] at h
     subst h
     exact⟨_,by simp[eqGuard,binOp,Op.intDiv,show ¬b1=0 by simpa using hb],rfl⟩
   case rem=>
    cases hb:b1==0 with
    | true=>simp[hb] at h
    | false=>
     simp only[hb,cond_false,Option.some.injEq] at h
     subst h
     exact⟨_,by simp[eqGuard,binOp,Op.intDiv,show ¬b1=0 by simpa using hb],rfl⟩
   all_goals (subst h;exact⟨_,by simp[eqGuard,binOp,Op.intArith,Op.intBits,Op.intCmp],rfl⟩)
 ·cases h
theorem ZuJ (pre:Pre G R w e a Hm) {op:BinOp}{t t':TypeId}{x y:Operand}{x' y':Opd}{r:D} (hop:o.op = .binOp op t x y t') (hx:ZG G x x'=true) (hy:ZG G y y'=true)
  (h:ZjU op (x'.val e) (y'.val e)=some r) (hp:Z7 R.H [] nid [] H'):Zcx P o a w (ZT R w nid 0 H' (.d r)):=by
 obtain⟨u,h1,h2⟩:=ZsH (P:=P) t x y (pre.opd hx) (pre.opd hy) h
 exact Zbz (s:=do eqGuard op t x y (a.eval x) (a.eval y);binOp op t (a.eval x) (a.eval y)) (by unfold execOp;rw[hop]) h1 (ZT.stay pre.ok hp h2)
theorem ZwN (pre:Pre G R w e a Hm) {op:UnOp}{t:TypeId}{x:Operand}{x':Opd}{r:D} (hop:o.op = .unOp op t x) (hx:ZG G x x'=true)
  (h:unE op (x'.val e)=some r) (hp:Z7 R.H [] nid [] H'):Zcx P o a w (ZT R w nid 0 H' (.d r)):=by
 have hv:=pre.opd hx
 unfold unE at h
 split at h
 ·rename_i b hb
  rw[hb] at hv
  simp only[Option.some.injEq] at h
  subst h
  exact Zbz (s:=Op.unary .not (a.eval x)) (u:=.bool !b) (by unfold execOp;rw[hop]) (by rw[ZnT hv];rfl) (ZT.stay pre.ok hp rfl)
 ·rename_i k n hb
  rw[hb] at hv
  simp only[Option.some.injEq] at h
  subst h
  exact Zbz (s:=Op.unary .neg (a.eval x)) (u:=.int k (k.wrap (0-n))) (by unfold execOp;rw[hop]) (by rw[Zha hv];rfl) (ZT.stay pre.ok hp rfl)
 ·cases h
theorem ZtR (pre:Pre G R w e a Hm) {s t:TypeId}{k k0:IntKind}{n:Int}{ds:TypeDesc}{x:Operand}{x':Opd} (hop:o.op = .convert s t x) (hx:ZG G x x'=true) (hs:P.underlying s=some ds) (ht:P.underlying t=some (.int k))
  (h:x'.val e = .d (.int k0 n)) (hp:Z7 R.H [] nid [] H'):Zcx P o a w (ZT R w nid 0 H' (.d (.int k (k.wrap n)))):=by
 have hv:=pre.opd hx
 rw[h] at hv
 refine Zbz (s:=convert s t (a.eval x)) (u:=.int k (k.wrap n)) (by unfold execOp;rw[hop]) ?_ (ZT.stay pre.ok hp rfl)
 rw[Zha hv]
 simp[convert,run_underlying hs,run_underlying ht,Conv.intToInt]
theorem Zmy (pre:Pre G R w e a Hm) {x:Operand}{x':Opd}{i:Nat}{v:V} (hop:o.op = .extract x i) (hx:ZG G x x'=true)
  (h:(∃vs,x'.val e = .tup vs∧nth vs i=some v)∨(∃vs y,x'.val e = .d (.tup vs)∧nth vs i=some y∧v = .d y)) (hp:Z7 R.H [] nid [] H'):Zcx P o a w (ZT R w nid 0 H' v):=by
 have hv:=pre.opd hx
 rcases h with⟨vs,h1,h2⟩ | ⟨vs,y,h1,h2,rfl⟩
 ·rw[h1] at hv
  obtain⟨us,h3,h4⟩:=hv
  rw[ZS] at h2
  obtain⟨u,h5,h6⟩:=ZdW vs us i v h4 h2
  exact Zbz (s:=Instr.extract (a.eval x) i) (u:=u) (by unfold execOp;rw[hop]) (by rw[h3];simp[Instr.extract,h5]) (ZT.stay pre.ok hp h6)
 ·rw[h1] at hv
  obtain⟨us,h3,h4⟩:=hv
  rw[ZS] at h2
  obtain⟨u,h5,h6⟩:=ZeX vs us i y h4 h2
  exact Zbz (s:=Instr.extract (a.eval x) i) (u:=u) (by unfold execOp;rw[hop]) (by rw[h3];simp[Instr.extract,h5]) (ZT.stay pre.ok hp h6)
theorem Zt5 (pre:Pre G R w e a Hm) {f:Nat}{first caps:Array Operand}{ys:List Opd} (hop:o.op = .makeFunc (.func f) first caps) (hlt:isU f=true) (hf:first = #[]) (hx:Zdq G caps.toList ys=true) (hp:Z7 R.H [] nid [] H') :
  Zcx P o a w (ZT R w nid 0 H' (match ys with | []=>.d (.fn f []) | ys=>.fn f (ZdO e ys))):=by
 subst hf
 have hv:=pre.opds hx
 refine Zbz (s:=Instr.makeFunc (.func f) (#[].map a.eval) (caps.map a.eval)) (u:=.func (.func f) #[] (caps.toList.map a.eval).toArray) (by unfold execOp;rw[hop]) (by
  have hc:caps.map a.eval=(caps.toList.map a.eval).toArray:=by apply Array.ext';simp
  rw[hc];simp[Instr.makeFunc]) (ZT.stay pre.ok hp ?_)
 cases ys with
 | nil=>
  simp only[ZdO,Zat] at hv
  exact⟨[],by rw[Zks hlt];simp[hv],rfl⟩
 | cons y ys=>exact⟨_,(Zks hlt _).symm,hv⟩
theorem ZsC (pre:Pre G R w e a Hm) {f:Nat}{first caps:Array Operand}{y:Opd}{ys:List Opd} (hop:o.op = .makeFunc (.func f) first caps) (hf:caps = #[]) (hx:Zdq G first.toList (y :: ys)=true) (hp:Z7 R.H [] nid [] H') :
  Zcx P o a w (ZT R w nid 0 H' (.fn (1000000+f) (ZdO e (y :: ys)))):=by
 subst hf
 have hv:=pre.opds hx
 refine Zbz (s:=Instr.makeFunc (.func f) (first.map a.eval) (#[].map a.eval)) (u:=.func (.func f) (first.toList.map a.eval).toArray #[]) (by unfold execOp;rw[hop]) (by
  have hc:first.map a.eval=(first.toList.map a.eval).toArray:=by apply Array.ext';simp
  rw[hc];simp[Instr.makeFunc]) (ZT.stay pre.ok hp ?_)
 refine⟨_,?_,hv⟩
 unfold ZgK
 have h1:isU (1000000+f)=false:=by
  cases h:isU (1000000+f) with
  | false=>rfl
  | true=>exact absurd (Nat.le_of_ble_eq_true (show Nat.ble (1000000+f+1) 1000000=true from h)) (by omega)
 have h2:unB (1000000+f)=f:=Nat.add_sub_cancel_left 1000000 f
 rw[h1,h2]
 rfl
end
end Go.Proofs.YtnpidpcmpleiaaaDoorE
namespace Go.Proofs.YtnpidpcmpleiaaaDoorE
open Go
set_option linter.unusedVariables false
set_option linter.unusedSimpArgs false
section
variable {P:Program} {G:Za9} {R:RP} {w:World} {e:Env} {a:Act} {Hm H':Zi} {nid:Nat} {o:Oper}
theorem Zm2 {n:Nat}{ag:Bool}{cs:List V}{us:List Value}{v:V}{t:TypeId}{off:Nat} (hd:Zat R w cs us) (hag:Zfu P t=some ag) (hsz:Zen P t=some n) (h:ZdB n ag (cs.drop off)=some v) :
  ∃u,(part t us.toArray off).run P w = .ok u w∧ZaM R w v u:=by
 unfold ZdB at h
 cases ag with
 | false=>
  simp only[cond_false] at h
  rw[List.head?_eq_getElem?,List.getElem?_drop] at h
  obtain⟨u,h1,h2⟩:=ZdW cs us _ v hd h
  refine⟨u,?_,h2⟩
  simp only[Nat.add_zero] at h1
  simp[part,ZeU hag,h1]
 | true=>
  simp only[cond_true] at h
  cases hl:Nat.beq ((cs.drop off).take n).length n with
  | false=>rw[hl] at h;cases h
  | true=>
   rw[hl] at h
   simp only[cond_true,Option.some.injEq] at h
   subst h
   have hl':((cs.drop off).take n).length=n:=Nat.eq_of_beq_eq_true hl
   refine⟨.agg (((us.drop off).take n).toArray),?_,Zk3 (ZgF _ _ ?_ ?_)⟩
   ·simp[part,ZeU hag,Zdi hsz,List.drop_take]
   ·have:=Zda cs us hd
    simp only[List.length_take,List.length_drop] at hl' ⊢
    omega
   ·intro j v u hv hu
    have hj:j<n:=by have:=(List.getElem?_eq_some_iff.1 hv).1;omega
    rw[List.getElem?_take,if_pos hj,List.getElem?_drop] at hv hu
    obtain⟨u',g1,g2⟩:=ZdW cs us _ v hd hv
    rw[hu] at g1;cases g1;exact g2
theorem Zo2 (pre:Pre G R w e a Hm) {s t:TypeId}{f off n:Nat}{ag:Bool}{x:Operand}{y:Opd}{v:V} (hop:o.op = .field s x f) (hx:ZG G x y=true) (hf:Zg3 P s f=some (off,t)) (hag:Zfu P t=some ag) (hsz:Zen P t=some n)
  (h:(∃cs,y.val e = .d (.agg cs)∧ZdB n ag (Zcf (cs.drop off))=some v)∨(∃cs,y.val e = .agg cs∧ZdB n ag (cs.drop off)=some v)) (hp:Z7 R.H [] nid [] H'):Zcx P o a w (ZT R w nid 0 H' v):=by
 obtain⟨fields,fd,h1,h2,rfl,rfl⟩:=Zjn hf
 have hv:=pre.opd hx
 have key:∃us:List Value,a.eval x = .agg us.toArray∧∃u,(part fd.type us.toArray fd.offset).run P w = .ok u w∧ZaM R w v u:=by
  rcases h with⟨cs,h3,h4⟩ | ⟨cs,h3,h4⟩
  ·rw[h3] at hv
   obtain⟨us,h5,h6⟩:=hv
   refine⟨us,h5,Zm2 (cs:=Zcf cs) ((ZcC cs us).2 h6) hag hsz ?_⟩
   rw[ZgT] at h4 ⊢
   rw[← List.map_drop];exact h4
  ·rw[h3] at hv
   obtain⟨us,h5,h6⟩:=hv
   exact⟨us,h5,Zm2 h6 hag hsz h4⟩
 obtain⟨us,h5,u,h6,h7⟩:=key
 exact Zbz (s:=Instr.field s (a.eval x) f) (by unfold execOp;rw[hop]) (by rw[h5];simp[Instr.field,run_underlying h1,h2,asAgg,h6]) (ZT.stay pre.ok hp h7)
def Zmj (P:Program) (t:TypeId):Option (Nat×TypeId):=match P.underlying t with | some (.array n e)=>some (n,e) | _=>none
theorem ZlE {t el:TypeId}{n:Nat} (h:Zmj P t=some (n,el)):P.underlying t=some (.array n el):=by
 unfold Zmj at h;split at h<;>simp_all
def Zkl (P:Program) (t:TypeId):Option TypeId:=match P.underlying t with | some (.slice e)=>some e | _=>none
theorem Zh4 {t el:TypeId} (h:Zkl P t=some el):P.underlying t=some (.slice el):=by
 unfold Zkl at h;split at h<;>simp_all
theorem Zr2 (pre:Pre G R w e a Hm) {t el:TypeId}{len n:Nat}{ag:Bool}{x i:Operand}{y j:Opd}{v:V} (hop:o.op = .index t x i) (hx:ZG G x y=true) (hi:ZG G i j=true) (ht:Zmj P t=some (len,el)) (hag:Zfu P el=some ag) (hsz:Zen P el=some n)
  (h:ZiY len n ag (y.val e) (j.val e)=some v) (hp:Z7 R.H [] nid [] H'):Zcx P o a w (ZT R w nid 0 H' v):=by
 have hv:=pre.opd hx
 have hiv:=pre.opd hi
 unfold ZiY at h
 split at h
 ·rename_i k m hj
  rw[hj] at hiv
  cases hc:((y.val e).isAggV&&(decide (0≤m)&&decide (m<len))) with
  | false=>rw[hc] at h;cases h
  | true=>
   rw[hc] at h
   simp only[cond_true] at h
   simp only[Bool.and_eq_true,decide_eq_true_eq] at hc
   obtain⟨hav,hc⟩:=hc
   have hagg:(∃cs,y.val e = .d (.agg cs))∨∃cs,y.val e = .agg cs:=by
    unfold V.isAggV at hav
    split at hav
    ·rename_i cs hv';exact .inl ⟨cs,hv'⟩
    ·rename_i cs hv';exact .inr ⟨cs,hv'⟩
    ·cases hav
   have hb:(y.val e).okb=true:=by rcases hagg with⟨cs,h3⟩ | ⟨cs,h3⟩<;>rw[h3]<;>rfl
   have hcs:=ZeY hv hb
   have hag':∃us,a.eval x = .agg us:=by
    rcases hagg with⟨cs,h3⟩ | ⟨cs,h3⟩<;>(rw[h3] at hv;obtain⟨us,h5,_⟩:=hv;exact⟨_,h5⟩)
   obtain⟨us,hus⟩:=hag'
   rw[hus] at hcs
   obtain⟨u,h1,h2⟩:=Zm2 (P:=P) hcs hag hsz h
   refine Zbz (s:=Instr.index t (a.eval x) (a.eval i)) (u:=u) (by unfold execOp;rw[hop]) ?_ (ZT.stay pre.ok hp h2)
   rw[hus,Zha hiv]
   simp only[Value.cells,Array.toArray_toList] at h1
   simp[Instr.index,asIntOf,run_underlying (ZlE ht),hc,Zdi hsz,h1]
 ·cases h
theorem ZrR (pre:Pre G R w e a Hm) {t:TypeId}{x i:Operand}{y j:Opd}{v:V} (hop:o.op = .index t x i) (hx:ZG G x y=true) (hi:ZG G i j=true) (ht:P.underlying t=some .string)
  (h:Zg9 (y.val e) (j.val e)=some v) (hp:Z7 R.H [] nid [] H'):Zcx P o a w (ZT R w nid 0 H' v):=by
 have hv:=pre.opd hx
 have hiv:=pre.opd hi
 unfold Zg9 at h
 split at h
 ·rename_i s k m hy hj
  rw[hj] at hiv
  rw[hy] at hv
  cases hc:decide (0≤m) with
  | false=>rw[hc] at h;cases h
  | true=>
   rw[hc] at h
   simp only[cond_true] at h
   have h0:0≤m:=of_decide_eq_true hc
   cases hs:s[m.toNat]? with
   | none=>rw[hs] at h;cases h
   | some b=>
    rw[hs] at h
    simp only[Option.some.injEq] at h
    subst h
    refine Zbz (s:=Instr.index t (a.eval x) (a.eval i)) (u:=.int .u8 b.toNat) (by unfold execOp;rw[hop]) ?_ (ZT.stay pre.ok hp rfl)
    rw[Zha hiv,show a.eval x = .string s from hv]
    simp[Instr.index,asIntOf,run_underlying ht,h0,hs]
 ·cases h
theorem ZdM {m:Option Nat}{xs:List D}{sz of len:Nat}{u:Value} (h:ZmP w m xs sz of len u) (h0:0<len∨of<xs.length) :
  ∃c cs el fr cap,m=some c∧u = .slice (some ⟨c,of*sz,none⟩) len cap∧len≤cap∧w.heap[c]? = some (.cells cs el fr)∧cs.size=(of+cap)*sz:=by
 obtain⟨h1,ad,cap,rfl,h3,h4⟩:=h
 rcases h4 with⟨rfl,h4⟩ | ⟨c,cs,el,fr,rfl,rfl,h6,h7⟩
 ·exfalso;omega
 ·exact⟨c,cs,el,fr,cap,rfl,rfl,h3,h6,h7⟩
theorem Znt {t el:TypeId}{n:Nat}{ad:Addr}{len cap:Nat}{k:IntKind}{i:Int} (ht:Zkl P t=some el) (hsz:Zen P el=some n) (h0:0≤i) (h1:i<len) :
  (Instr.indexAt t (.slice (some ad) len cap) (.int k i)).run P w = .ok (.pointer (some (ad.add (i.toNat*n)))) w:=by
 simp[Instr.indexAt,asIntOf,run_underlying (Zh4 ht),Zdi hsz,h0,h1]
theorem ZrU {A1 A0 AL:Nat→Prop}{b off:Nat}{x:D}{u:Value} (hu:ZaR A1 A0 AL w x u) (hb:(V.d x).okb=true) (hc:∀(k:Nat) v,u.cells[k]? = some v→w.cell? ⟨b,off+k,none⟩=some v) :
  u.cells.size=x.cells.length∧Zcd A1 A0 AL w b off x.cells:=by
 have one:∀{x:D} {u:Value},ZaR A1 A0 AL w x u→u.cells = #[u]→x.cells=[x]→(∀(k:Nat) v,u.cells[k]? = some v→w.cell? ⟨b,off+k,none⟩=some v)→u.cells.size=x.cells.length∧Zcd A1 A0 AL w b off x.cells:=by
  intro x u h1 h2 h3 h4
  have h5:=h4 0 u (by rw[h2];rfl)
  rw[h2,h3]
  exact⟨rfl,⟨u,by simpa using h5,h1⟩,trivial⟩
 cases x with
 | agg cs=>
  obtain⟨us,rfl,h⟩:=hu
  refine⟨by simpa [Value.cells,D.cells] using ZlS cs us h,Zfi _ _ fun j y hj=>?_⟩
  obtain⟨u,h1,h2⟩:=ZeX cs us j y h hj
  exact⟨u,hc j u (by simpa [Value.cells] using h1),h2⟩
 | tup cs=>simp[V.okb] at hb
 | bool b=>cases hu;exact one (x:=.bool b) rfl rfl rfl hc
 | int k n=>cases hu;exact one (x:=.int k n) rfl rfl rfl hc
 | str s=>cases hu;exact one (x:=.str s) rfl rfl rfl hc
 | nilfn=>cases hu;exact one (x:=.nilfn) rfl rfl rfl hc
 | nilp=>cases hu;exact one (x:=.nilp) rfl rfl rfl hc
 | nilI=>cases hu;exact one (x:=.nilI) rfl rfl rfl hc
 | list own xs=>
  have hu':=hu
  obtain⟨ad,len,cap,rfl,_⟩:=hu'
  exact one hu rfl rfl hc
 | fn f caps=>
  have hu':=hu
  obtain⟨us,rfl,_⟩:=hu'
  exact one hu (ZnB _ _) rfl hc
 | rptr cs=>
  have hu':=hu
  obtain⟨b',off',rfl,_⟩:=hu'
  exact one hu rfl rfl hc
 | iface t v=>
  have hu':=hu
  obtain⟨u',rfl,_⟩:=hu'
  exact one hu rfl rfl hc
theorem ZiG (pre:Pre G R w e a Hm) {b sz:Nat}{xs:List D}{u:Value} (hb:nth Hm b=some (.arr sz xs)) (h:ZaM R w (.sl b sz) u) :
  ∃m,R.M b=some m∧nth R.H b=some (.arr sz xs)∧Zfh R w m (.arr sz xs)∧ZmP w m xs sz 0 xs.length u:=by
 have hb':=pre.le b _ hb (by simp)
 obtain⟨_,m,h1,h2⟩:=h
 exact⟨m,h1,hb',pre.ok.blk b _ _ (by rw[← ZS];exact hb') h1,h2 xs hb'⟩
theorem Zhc (pre:Pre G R w e a Hm) {b sz o len:Nat}{xs:List D}{u:Value} (hb:nth Hm b=some (.arr sz xs)) (h:ZaM R w (.slp b sz o len) u) :
  ∃m,R.M b=some m∧nth R.H b=some (.arr sz xs)∧Zfh R w m (.arr sz xs)∧ZmP w m xs sz o len u:=by
 have hb':=pre.le b _ hb (by simp)
 obtain⟨_,m,h1,h2⟩:=h
 exact⟨m,h1,hb',pre.ok.blk b _ _ (by rw[← ZS];exact hb') h1,h2 xs hb'⟩
theorem Zr9 (pre:Pre G R w e a Hm) {t el:TypeId}{n:Nat}{x i:Operand}{y j:Opd}{v:V} (hop:o.op = .indexAddr t x i) (hx:ZG G x y=true) (hi:ZG G i j=true) (ht:Zkl P t=some el) (hsz:Zen P el=some n)
  (h:ZfN Hm n (y.val e) (j.val e)=some v) (hp:Z7 R.H [] nid [] H'):Zcx P o a w (ZT R w nid 0 H' v):=by
 have hv:=pre.opd hx
 have hiv:=pre.opd hi
 unfold ZfN at h
 have fin:∀{k:IntKind} {m:Int} {ad:Addr} {len cap:Nat} ,a.eval i = .int k m→a.eval x = .slice (some ad) len cap→0≤m→m<len→ZaM R w v (.pointer (some (ad.add (m.toNat*n))))→Zcx P o a w (ZT R w nid 0 H' v):=
  fun h1 h2 h3 h4 h5=>Zbz (s:=Instr.indexAt t (a.eval x) (a.eval i)) (by unfold execOp;rw[hop]) (by rw[h1,h2];exact Znt ht hsz h3 h4) (ZT.stay pre.ok hp h5)
 split at h
 ·rename_i k m hj
  rw[hj] at hiv
  split at h
  ·rename_i own xs hy
   rw[hy] at hv
   cases hg:ZF xs m with
   | none=>rw[hg] at h;cases h
   | some z=>
    rw[hg] at h
    dsimp only at h
    cases hc:(Nat.beq z.cells.length n&&(V.d z).okb) with
    | false=>rw[hc] at h;cases h
    | true=>
     rw[hc] at h
     simp only[cond_true,Option.some.injEq] at h
     subst h
     simp only[Bool.and_eq_true] at hc
     obtain⟨h0,h1,h2⟩:=Zko xs m z hg
     obtain⟨ad,len,cap,e1,rfl,e3,e4,e5⟩:=hv
     obtain⟨b,off,sz,rfl,f2,f3,f4⟩:=e5 (by intro hn;rw[hn] at h2;simp at h2)
     obtain⟨u,g1,g2,g3⟩:=Zgv xs off m.toNat z f4 h2
     obtain⟨q1,q2⟩:=ZrU (b:=b) (off:=off+m.toNat*sz) g1 hc.2 g3
     have hn:sz=n:=by rw[← g2,q1];exact Nat.eq_of_beq_eq_true hc.1
     subst hn
     refine fin (Zha hiv) e1 h0 h1 ⟨b,off+m.toNat*sz,by rw[Addr.add_lit],?_,f3,q2⟩
     cases own
     ·exact f2
     ·exact⟨f2.1,fun hb=>f2.2 (pre.ok.b01 _ hb)⟩
  ·rename_i b sz' hy
   rw[hy] at hv
   cases hb:nth Hm b with
   | none=>rw[hb] at h;cases h
   | some blk=>
    rw[hb] at h
    cases blk<;>try (cases h;done)
    rename_i sz'' xs
    dsimp only at h
    cases hs:(Nat.beq n sz'&&Nat.beq n sz'') with
    | false=>rw[hs] at h;cases h
    | true=>
     rw[hs] at h
     simp only[Bool.and_eq_true] at hs
     obtain rfl:=Nat.eq_of_beq_eq_true hs.1
     obtain rfl:=Nat.eq_of_beq_eq_true hs.2
     simp only[cond_true] at h
     cases hg:ZF xs m with
     | none=>rw[hg] at h;cases h
     | some z=>
      rw[hg] at h
      simp only[Option.some.injEq] at h
      subst h
      obtain⟨h0,h1,h2⟩:=Zko xs m z hg
      obtain⟨mm,q1,q2,q3,q4⟩:=ZiG pre hb hv
      obtain⟨c,cs,el',fr,cap,rfl,e1,e2,e3,e4⟩:=ZdM q4 (.inr (by omega))
      refine fin (Zha hiv) e1 h0 h1 ⟨c,q1,?_⟩
      rw[Addr.add_lit,Nat.zero_mul,Nat.zero_add];rfl
  ·rename_i b sz' of ln hy
   rw[hy] at hv
   cases hb:nth Hm b with
   | none=>rw[hb] at h;cases h
   | some blk=>
    rw[hb] at h
    cases blk<;>try (cases h;done)
    rename_i sz'' xs
    dsimp only at h
    cases hs:(Nat.beq n sz'&&Nat.beq n sz'') with
    | false=>rw[hs] at h;cases h
    | true=>
     rw[hs] at h
     simp only[Bool.and_eq_true] at hs
     obtain rfl:=Nat.eq_of_beq_eq_true hs.1
     obtain rfl:=Nat.eq_of_beq_eq_true hs.2
     simp only[cond_true] at h
     cases hg:ZF ((xs.drop of).take ln) m with
     | none=>rw[hg] at h;cases h
     | some z=>
      rw[hg] at h
      simp only[Option.some.injEq] at h
      subst h
      obtain⟨h0,h1,h2⟩:=Zko _ m z hg
      simp only[List.length_take,List.length_drop] at h1
      obtain⟨mm,q1,q2,q3,q4⟩:=Zhc pre hb hv
      obtain⟨c,cs,el',fr,cap,rfl,e1,e2,e3,e4⟩:=ZdM q4 (.inr (by omega))
      refine fin (Zha hiv) e1 h0 (by omega) ⟨c,q1,?_⟩
      rw[Addr.add_lit,Nat.add_mul];rfl
  ·cases h
 ·cases h
end
end Go.Proofs.YtnpidpcmpleiaaaDoorE
namespace Go.Proofs.YtnpidpcmpleiaaaDoorE
open Go
set_option linter.unusedVariables false
set_option linter.unusedSimpArgs false
section
variable {P:Program} {G:Za9} {R:RP} {w:World} {e:Env} {a:Act} {Hm H':Zi} {nid:Nat} {o:Oper}
theorem Zqr (pre:Pre G R w e a Hm) {t el:TypeId}{n len:Nat}{x i:Operand}{y j:Opd}{v:V} (hop:o.op = .indexAddr t x i) (hx:ZG G x y=true) (hi:ZG G i j=true) (ht:Zmj P t=some (len,el)) (hsz:Zen P el=some n)
  (h:Zeu Hm len n (y.val e) (j.val e)=some v) (hp:Z7 R.H [] nid [] H'):Zcx P o a w (ZT R w nid 0 H' v):=by
 have hv:=pre.opd hx
 have hiv:=pre.opd hi
 unfold Zeu at h
 split at h
 ·rename_i k m hj
  rw[hj] at hiv
  cases hc:(decide (0≤m)&&decide (m<len)) with
  | false=>rw[hc] at h;cases h
  | true=>
   rw[hc] at h
   simp only[cond_true] at h
   simp only[Bool.and_eq_true,decide_eq_true_eq] at hc
   obtain⟨ad,h1,h2⟩:=ZnI pre hv h
   refine Zbz (s:=Instr.indexAt t (a.eval x) (a.eval i)) (by unfold execOp;rw[hop]) ?_ (ZT.stay pre.ok hp h2)
   rw[h1,Zha hiv]
   simp[Instr.indexAt,asIntOf,Instr.sureAddr,run_underlying (ZlE ht),Zdi hsz,hc]
 ·cases h
theorem ZoV (pre:Pre G R w e a Hm) {x:V}{xs:List D}{u:Value} (hx:ZaM R w x u) (h:elems Hm x=some xs) (hl:0<xs.length):∃ad cap,u = .slice (some ad) xs.length cap:=by
 unfold elems at h
 split at h
 ·rename_i own xs'
  simp only[Option.some.injEq] at h
  subst h
  obtain⟨ad,len,cap,rfl,rfl,e3,e4,e5⟩:=hx
  obtain⟨b,off,sz,rfl,_⟩:=e5 (by intro hn;rw[hn] at hl;simp at hl)
  exact⟨_,cap,rfl⟩
 ·rename_i b sz
  cases hb:nth Hm b with
  | none=>rw[hb] at h;cases h
  | some blk=>
   rw[hb] at h
   cases blk<;>try (cases h;done)
   rename_i sz' xs'
   dsimp only at h
   cases hs:Nat.beq sz sz' with
   | false=>rw[hs] at h;cases h
   | true=>
    rw[hs] at h
    simp only[cond_true,Option.some.injEq] at h
    subst h
    obtain rfl:=Nat.eq_of_beq_eq_true hs
    obtain⟨m,q1,q2,q3,q4⟩:=ZiG pre hb hx
    obtain⟨c,cs,el,fr,cap,rfl,rfl,_⟩:=ZdM q4 (.inl hl)
    exact⟨_,cap,rfl⟩
 ·rename_i b sz of len
  cases hb:nth Hm b with
  | none=>rw[hb] at h;cases h
  | some blk=>
   rw[hb] at h
   cases blk<;>try (cases h;done)
   rename_i sz' xs'
   dsimp only at h
   cases hs:Nat.beq sz sz' with
   | false=>rw[hs] at h;cases h
   | true=>
    rw[hs] at h
    simp only[cond_true,Option.some.injEq] at h
    subst h
    obtain rfl:=Nat.eq_of_beq_eq_true hs
    obtain⟨m,q1,q2,q3,q4⟩:=Zhc pre hb hx
    have hlen:((xs'.drop of).take len).length=len:=by
     have:=q4.1
     simp only[List.length_take,List.length_drop];omega
    rw[hlen] at hl ⊢
    obtain⟨c,cs,el,fr,cap,rfl,rfl,_⟩:=ZdM q4 (.inl hl)
    exact⟨_,cap,rfl⟩
 ·simp only[Option.some.injEq] at h
  subst h
  simp at hl
 ·cases h
theorem Zmz (pre:Pre G R w e a Hm) {x:V}{xs:List D}{u:Value} (hx:ZaM R w x u) (h:elems Hm x=some xs):∃ad cap,u = .slice ad xs.length cap∧xs.length≤cap:=by
 unfold elems at h
 split at h
 ·rename_i own xs'
  simp only[Option.some.injEq] at h
  subst h
  obtain⟨ad,len,cap,rfl,rfl,e3,_⟩:=hx
  exact⟨ad,cap,rfl,e3⟩
 ·rename_i b sz
  cases hb:nth Hm b with
  | none=>rw[hb] at h;cases h
  | some blk=>
   rw[hb] at h
   cases blk<;>try (cases h;done)
   rename_i sz' xs'
   dsimp only at h
   cases hs:Nat.beq sz sz' with
   | false=>rw[hs] at h;cases h
   | true=>
    rw[hs] at h
    simp only[cond_true,Option.some.injEq] at h
    subst h
    obtain rfl:=Nat.eq_of_beq_eq_true hs
    obtain⟨m,q1,q2,q3,q4,ad,cap,rfl,q5,_⟩:=ZiG pre hb hx
    exact⟨ad,cap,rfl,q5⟩
 ·rename_i b sz of len
  cases hb:nth Hm b with
  | none=>rw[hb] at h;cases h
  | some blk=>
   rw[hb] at h
   cases blk<;>try (cases h;done)
   rename_i sz' xs'
   dsimp only at h
   cases hs:Nat.beq sz sz' with
   | false=>rw[hs] at h;cases h
   | true=>
    rw[hs] at h
    simp only[cond_true,Option.some.injEq] at h
    subst h
    obtain rfl:=Nat.eq_of_beq_eq_true hs
    obtain⟨m,q1,q2,q3,q4,ad,cap,rfl,q5,_⟩:=Zhc pre hb hx
    have:((xs'.drop of).take len).length=len:=by simp only[List.length_take,List.length_drop];omega
    rw[this]
    exact⟨ad,cap,rfl,q5⟩
 ·simp only[Option.some.injEq] at h
  subst h
  obtain⟨ad,rfl⟩:=hx
  exact⟨ad,0,rfl,Nat.le_refl _⟩
 ·cases h
theorem Zez {b:Builtin}{xs:Array Operand}{ats:Array TypeId} (hop:o.op = .call { callee:=.builtin b,args:=xs,argTypes:=ats }) :
  execOp a.eval o=builtin b ats o.type (xs.map fun | .const _=>true | _=>false) (xs.map a.eval):=by
 obtain⟨dst,op,ty,pos,after,guard⟩:=o
 simp only at hop
 subst hop
 rfl
theorem Zu4 (pre:Pre G R w e a Hm) {t el:TypeId}{x:Operand}{y:Opd}{r:D} (hop:o.op = .call { callee:=.builtin .len,args:=#[x],argTypes:=#[t] }) (hx:ZG G x y=true) (ht:Zkl P t=some el)
  (h:ZmZ Hm (y.val e)=some r) (hp:Z7 R.H [] nid [] H'):Zcx P o a w (ZT R w nid 0 H' (.d r)):=by
 have hv:=pre.opd hx
 unfold ZmZ at h
 cases hes:elems Hm (y.val e) with
 | none=>rw[hes] at h;cases h
 | some xs=>
  rw[hes] at h
  simp only[Option.some.injEq] at h
  subst h
  obtain⟨ad,cap,h1,_⟩:=Zmz pre hv hes
  refine Zbz (s:=Builtin.len_ #[t] o.type #[a.eval x]) (u:=.int .i64 xs.length) (by rw[Zez hop,BigFrame.builtin_len];simp) ?_ (ZT.stay pre.ok hp rfl)
  rw[h1]
  simp[Builtin.len_,run_underlying (Zh4 ht),goInt]
def Zo0 (x:Option Value) (d l:Nat):Prop:=(x=none∧l=d)∨∃k,x=some (.int k (l:Int))
theorem Zuu {t el:TypeId}{sz:Nat}{ad:Option Addr}{len cap l h:Nat}{lo hi:Option Value} (ht:Zkl P t=some el) (hsz:Zen P el=some sz) (h1:Zo0 lo 0 l) (h2:Zo0 hi len h) (h3:l≤h) (h4:h≤cap) (h5:len≤cap) :
  (Instr.sliceAt t (.slice ad len cap) lo hi none).run P w = .ok (.slice (if cap=l then ad else ad.map (·.add (l*sz))) (h-l) (cap-l)) w:=by
 have ht':=Zh4 ht
 rcases h1 with⟨rfl,rfl⟩ | ⟨k1,rfl⟩<;>rcases h2 with⟨rfl,rfl⟩ | ⟨k2,rfl⟩<;>
  simp[Instr.sliceAt,Instr.slice,run_underlying ht',Instr.sliceBounds,Instr.sliceBound,asIntOf,Zdi hsz, *]
theorem Zsm {t el:TypeId}{sz:Nat}{ad:Option Addr}{len cap l h m:Nat}{lo hi mx:Option Value} (ht:Zkl P t=some el) (hsz:Zen P el=some sz) (h1:Zo0 lo 0 l) (h2:∃k,hi=some (.int k (h:Int))) (h6:∃k,mx=some (.int k (m:Int))) (h3:l≤h) (h4:h≤m) (h5:m≤cap) :
  (Instr.sliceAt t (.slice ad len cap) lo hi mx).run P w = .ok (.slice (if m=l then ad else ad.map (·.add (l*sz))) (h-l) (m-l)) w:=by
 have ht':=Zh4 ht
 obtain⟨k2,rfl⟩:=h2
 obtain⟨k3,rfl⟩:=h6
 rcases h1 with⟨rfl,rfl⟩ | ⟨k1,rfl⟩<;>
  simp[Instr.sliceAt,Instr.slice,run_underlying ht',Instr.sliceBounds,Instr.sliceBound,asIntOf,Zdi hsz, *]
def ZiQ (G:Za9):Option Operand→Option Opd→Bool
 | none,none=>true
 | some x,some y=>ZG G x y
 | _,_=>false
theorem Zop (pre:Pre G R w e a Hm) {x:Option Operand}{y:Option Opd}{d l:Nat} (hx:ZiQ G x y=true) (h:Zfq (y.map (·.val e)) d=some l):Zo0 (x.map a.eval) d l:=by
 cases x with
 | none=>
  cases y with
  | some y=>cases hx
  | none=>simp[Zfq] at h;exact .inl ⟨rfl,h.symm⟩
 | some x=>
  cases y with
  | none=>cases hx
  | some y=>
   have hv:=pre.opd (x:=x) (y:=y) hx
   simp only[Option.map_some] at h
   unfold Zfq at h
   split at h
   ·cases ‹some _=none›
   ·rename_i k n hy
    simp only[Option.some.injEq] at hy
    rw[hy] at hv
    cases h0:decide (0≤n) with
    | false=>rw[h0] at h;cases h
    | true=>
     rw[h0] at h
     simp only[cond_true,Option.some.injEq] at h
     have h0':0≤n:=of_decide_eq_true h0
     refine .inr ⟨k,?_⟩
     simp only[Option.map_some]
     rw[Zha hv,← h,Int.toNat_of_nonneg h0']
   ·cases h
theorem Zst (pre:Pre G R w e a Hm) {t el:TypeId}{n:Nat}{x:Operand}{y:Opd}{lo hi mx:Option Operand}{lo' hi' mx':Option Opd}{v:V} (hop:o.op = .slice t x lo hi mx) (hx:ZG G x y=true)
  (hlo:ZiQ G lo lo'=true) (hhi:ZiQ G hi hi'=true) (hmx:ZiQ G mx mx'=true) (hh:mx'.isSome=true→hi'.isSome=true) (ht:Zkl P t=some el) (hsz:Zen P el=some n)
  (h:Zf0 Hm n (y.val e) (lo'.map (·.val e)) (hi'.map (·.val e)) (mx'.map (·.val e))=some v) (hp:Z7 R.H [] nid [] H'):Zcx P o a w (ZT R w nid 0 H' v):=by
 have hv:=pre.opd hx
 unfold Zf0 at h
 cases hes:elems Hm (y.val e) with
 | none=>rw[hes] at h;cases h
 | some xs=>
  rw[hes] at h
  dsimp only at h
  cases hl:Zfq (lo'.map (·.val e)) 0 with
  | none=>rw[hl] at h;cases h
  | some l=>
   rw[hl] at h
   cases hhn:Zfq (hi'.map (·.val e)) xs.length with
   | none=>rw[hhn] at h;cases h
   | some hn=>
    rw[hhn] at h
    dsimp only at h
    cases hc:(Nat.ble l hn&&Nat.ble hn xs.length) with
    | false=>rw[hc] at h;cases h
    | true=>
     rw[hc] at h
     simp only[cond_true] at h
     simp only[Bool.and_eq_true,Nat.ble_eq] at hc
     obtain⟨c1,c2⟩:=hc
     obtain⟨ad,cap,q1,q2⟩:=Zmz pre hv hes
     have b1:=Zop pre hlo hl
     have b2:=Zop pre hhi hhn
     have fin:ZaM R w v (.slice (if cap=l then ad else ad.map (·.add (l*n))) (hn-l) (cap-l))→mx=none→Zcx P o a w (ZT R w nid 0 H' v):=fun h5 hm=>
      Zbz (s:=Instr.sliceAt t (a.eval x) (lo.map a.eval) (hi.map a.eval) (mx.map a.eval)) (by unfold execOp;rw[hop]) (by rw[q1,hm];exact Zuu ht hsz b1 b2 c1 (by omega) q2) (ZT.stay pre.ok hp h5)
     cases mx' with
     | none=>
      have hm:mx=none:=by cases mx with | none=>rfl | some m=>cases hmx
      simp only[Option.map_none] at h
      refine fin ?_ hm
      rw[q1] at hv
      cases hy:y.val e<;>rw[hy] at h hv hes<;>try (cases h;done)
      ·rename_i z
       cases z<;>try (cases h;done)
       rename_i own xs'
       simp only[elems,Option.some.injEq] at hes
       subst hes
       dsimp only at h
       cases hg:(Nat.beq l 0 || Zhu n xs' l) with
       | false=>rw[hg] at h;cases h
       | true=>
        rw[hg] at h
        simp only[cond_true,Option.some.injEq] at h
        subst h
        obtain⟨ad',len',cap',e1,e2,e3,e4,e5⟩:=hv
        cases e1
        have hlen:((xs'.drop l).take (hn-l)).length=hn-l:=by simp only[List.length_take,List.length_drop];omega
        refine⟨_,_,_,rfl,hlen.symm,by omega,fun z hz=>e4 z (List.mem_of_mem_drop (List.mem_of_mem_take hz)),fun hne=>?_⟩
        have hlt:l<hn:=by
         rcases Nat.lt_or_ge l hn with h | h
         ·exact h
         ·exact absurd (List.eq_nil_of_length_eq_zero (by omega)) hne
        obtain⟨b,off,sz,rfl,f2,f3,f4⟩:=e5 (by intro hn';rw[hn'] at c2;simp at c2;omega)
        have hcl:cap≠l:=by omega
        have hsame:l*n=l*sz:=by
         simp only[Bool.or_eq_true] at hg
         rcases hg with hg | hg
         ·rw[Nat.eq_of_beq_eq_true hg,Nat.zero_mul,Nat.zero_mul]
         ·have hll:l<xs'.length:=by omega
          unfold Zhu at hg
          rw[ZS,List.getElem?_eq_getElem hll] at hg
          simp only[Bool.and_eq_true] at hg
          obtain⟨u,g1,g2,g3⟩:=Zgv xs' off l _ f4 (List.getElem?_eq_getElem hll)
          have:=ZeY (R:=R) (v:=.d xs'[l]) g1 hg.2
          have h6:=Zda _ _ this
          have hVc:(V.d xs'[l]).cells=Zcf xs'[l].cells:=by cases xs'[l]<;>rfl
          rw[hVc,ZgT,List.length_map,Nat.eq_of_beq_eq_true hg.1] at h6
          rw[← g2];simp at h6;rw[h6]
        refine⟨b,off+l*sz,sz,by rw[if_neg hcl,hsame];simp[Addr.add_lit],f2,f3,ZgJ _ _ fun j z hz=>?_⟩
        have hj:j<hn-l:=by have:=(List.getElem?_eq_some_iff.1 hz).1;omega
        rw[List.getElem?_take,if_pos hj,List.getElem?_drop] at hz
        obtain⟨u,g1,g2,g3⟩:=Zgv xs' off (l+j) z f4 hz
        exact⟨u,g1,g2,fun k v hk=>by rw[← g3 k v hk,Nat.add_mul];congr 2;omega⟩
      ·rename_i b sz'
       dsimp only at h
       cases hg:Nat.beq n sz' with
       | false=>rw[hg] at h;cases h
       | true=>
        rw[hg] at h
        simp only[cond_true,Option.some.injEq] at h
        obtain rfl:=Nat.eq_of_beq_eq_true hg
        subst h
        simp only[elems] at hes
        cases hb:nth Hm b with
        | none=>rw[hb] at hes;cases hes
        | some blk=>
         rw[hb] at hes
         cases blk<;>try (cases hes;done)
         rename_i sz'' xs'
         dsimp only at hes
         cases hs:Nat.beq n sz'' with
         | false=>rw[hs] at hes;cases hes
         | true=>
          rw[hs] at hes
          simp only[cond_true,Option.some.injEq] at hes
          obtain rfl:=Nat.eq_of_beq_eq_true hs
          subst hes
          obtain⟨m,r1,r2,r3,r4⟩:=ZiG pre hb hv
          refine⟨⟨_,_,_,rfl⟩,m,r1,fun ys hys=>?_⟩
          rw[r2] at hys;cases hys
          obtain⟨_,ad',cap',s1,s2,s3⟩:=r4
          cases s1
          refine⟨by omega,_,_,rfl,by omega,?_⟩
          rcases s3 with⟨s3,s4⟩ | ⟨c,cs,el',fr,s4,s5,s6,s7⟩
          ·exact .inl ⟨by omega,by omega⟩
          ·by_cases hcl:cap=l
           ·exact .inl ⟨by omega,by omega⟩
           ·refine .inr ⟨c,cs,el',fr,s4,?_,s6,?_⟩
            ·rw[if_neg hcl,s5];simp[Addr.add_lit]
            ·rw[s7];congr 1;omega
      ·rename_i b sz' of len
       dsimp only at h
       cases hg:Nat.beq n sz' with
       | false=>rw[hg] at h;cases h
       | true=>
        rw[hg] at h
        simp only[cond_true,Option.some.injEq] at h
        obtain rfl:=Nat.eq_of_beq_eq_true hg
        subst h
        simp only[elems] at hes
        cases hb:nth Hm b with
        | none=>rw[hb] at hes;cases hes
        | some blk=>
         rw[hb] at hes
         cases blk<;>try (cases hes;done)
         rename_i sz'' xs'
         dsimp only at hes
         cases hs:Nat.beq n sz'' with
         | false=>rw[hs] at hes;cases hes
         | true=>
          rw[hs] at hes
          simp only[cond_true,Option.some.injEq] at hes
          obtain rfl:=Nat.eq_of_beq_eq_true hs
          subst hes
          obtain⟨m,r1,r2,r3,r4⟩:=Zhc pre hb hv
          simp only[List.length_take,List.length_drop] at c2 r4 q2
          refine⟨⟨_,_,_,rfl⟩,m,r1,fun ys hys=>?_⟩
          rw[r2] at hys;cases hys
          obtain⟨s0,ad',cap',s1,s2,s3⟩:=r4
          simp only[Value.slice.injEq] at s1
          obtain⟨rfl,_,rfl⟩:=s1
          refine⟨by omega,_,_,rfl,by omega,?_⟩
          rcases s3 with⟨s3,s4⟩ | ⟨c,cs,el',fr,s4,s5,s6,s7⟩
          ·exact .inl ⟨by omega,by omega⟩
          ·obtain⟨t0,_,t1⟩:=r3
           by_cases hcl:cap=l
           ·refine .inl ⟨by omega,?_⟩
            rcases t1 with⟨t1,t2⟩ | ⟨c',cs',el'',t1,t2,t3,_⟩
            ·rw[t1] at s4;cases s4
            ·rw[t1] at s4;cases s4
             rw[t2] at s6;cases s6
             rw[s7] at t3
             have:=Nat.le_of_mul_le_mul_right t3 t0
             omega
           ·refine .inr ⟨c,cs,el',fr,s4,?_,s6,?_⟩
            ·rw[if_neg hcl,s5];simp[Addr.add_lit,Nat.add_mul]
            ·rw[s7];congr 1;omega
      ·rename_i sz'
       simp only[Option.some.injEq] at h
       subst h
       simp only[elems,Option.some.injEq] at hes
       subst hes
       obtain⟨ad',hv⟩:=hv
       cases hv
       simp only[List.length_nil] at c2
       obtain rfl:l=0:=by omega
       obtain rfl:hn=0:=by omega
       exact⟨_,rfl⟩
     | some m'=>
      cases mx with
      | none=>cases hmx
      | some m=>
       cases hhs:hi' with
       | none=>rw[hhs] at hh;cases hh rfl
       | some hi1=>
        dsimp only[Option.map_some] at h
        cases hm:Zfq (some (m'.val e)) 0 with
        | none=>rw[hm] at h;cases h
        | some mm=>
         rw[hm] at h
         dsimp only at h
         cases hg:(Nat.beq mm l&&Nat.beq mm hn) with
         | false=>rw[hg] at h;cases h
         | true=>
          rw[hg] at h
          simp only[cond_true,Option.some.injEq] at h
          subst h
          simp only[Bool.and_eq_true] at hg
          obtain rfl:=Nat.eq_of_beq_eq_true hg.1
          obtain rfl:=Nat.eq_of_beq_eq_true hg.2
          have b3:=Zop pre (x:=some m) (y:=some m') hmx (by simpa using hm)
          refine Zbz (s:=Instr.sliceAt t (a.eval x) (lo.map a.eval) (hi.map a.eval) ((some m).map a.eval)) (by unfold execOp;rw[hop]) (by
           rw[q1]
           refine Zsm ht hsz b1 ?_ ?_ c1 (Nat.le_refl _) (by omega)
           ·rcases b2 with⟨b2,_⟩ | b2
            ·exfalso
             cases hi with
             | none=>rw[hhs] at hhi;cases hhi
             | some hi0=>cases b2
            ·exact b2
           ·rcases b3 with⟨b3,_⟩ | b3
            ·cases b3
            ·exact b3) (ZT.stay pre.ok hp ?_)
          exact⟨_,by rw[Nat.sub_self]⟩
end
end Go.Proofs.YtnpidpcmpleiaaaDoorE
namespace Go.Proofs.YtnpidpcmpleiaaaDoorE
open Go
set_option linter.unusedVariables false
set_option linter.unusedSimpArgs false
section
variable {P:Program} {G:Za9} {R:RP} {w:World} {e:Env} {a:Act} {Hm H':Zi} {nid:Nat} {o:Oper}
theorem Zqz:∀(vs:List V) (us:List Value) (k:IntKind) (n:Int) (r:D),Zat R w vs us→mxE.go true k n vs=some r→∃u,(us.foldlM Builtin.max2 (.int k n)).run P w = .ok u w∧R.den w r u
 | [],us,k,n,r,hd,h=>by
  simp only[mxE.go,Option.some.injEq] at h
  simp only[Zat] at hd
  subst h;subst hd
  exact⟨.int k n,rfl,rfl⟩
 | v :: vs,us,k,n,r,hd,h=>by
  obtain⟨u,us',rfl,h1,h2⟩:=hd
  cases v<;>try (cases h;done)
  rename_i x
  cases x<;>try (cases h;done)
  rename_i k' m
  simp only[mxE.go,cond_true] at h
  obtain⟨u,h3,h4⟩:=Zqz vs us' k _ r h2 h
  refine⟨u,?_,h4⟩
  cases h1
  rw[List.foldlM_cons,Sem.run_bind,← h3]
  by_cases hlt:n<m
  ·simp[Builtin.max2,hlt]
  ·simp[Builtin.max2,hlt]
theorem Zqm:∀(vs:List V) (us:List Value) (k:IntKind) (n:Int) (r:D),Zat R w vs us→mxE.go false k n vs=some r→∃u,(us.foldlM Builtin.min2 (.int k n)).run P w = .ok u w∧R.den w r u
 | [],us,k,n,r,hd,h=>by
  simp only[mxE.go,Option.some.injEq] at h
  simp only[Zat] at hd
  subst h;subst hd
  exact⟨.int k n,rfl,rfl⟩
 | v :: vs,us,k,n,r,hd,h=>by
  obtain⟨u,us',rfl,h1,h2⟩:=hd
  cases v<;>try (cases h;done)
  rename_i x
  cases x<;>try (cases h;done)
  rename_i k' m
  simp only[mxE.go,cond_false] at h
  obtain⟨u,h3,h4⟩:=Zqm vs us' k _ r h2 h
  refine⟨u,?_,h4⟩
  cases h1
  rw[List.foldlM_cons,Sem.run_bind,← h3]
  by_cases hlt:m<n
  ·simp[Builtin.min2,hlt]
  ·simp[Builtin.min2,hlt]
theorem Zu1 (pre:Pre G R w e a Hm) {b:Bool}{ats:Array TypeId}{xs:Array Operand}{ys:List Opd}{r:D} (hop:o.op = .call { callee:=.builtin (bif b then .max else .min),args:=xs,argTypes:=ats }) (hx:Zdq G xs.toList ys=true)
  (h:mxE b (ZdO e ys)=some r) (hp:Z7 R.H [] nid [] H'):Zcx P o a w (ZT R w nid 0 H' (.d r)):=by
 have hv:=pre.opds hx
 have hl:(xs.map a.eval).toList=xs.toList.map a.eval:=by simp
 cases hvs:ZdO e ys with
 | nil=>rw[hvs] at h;cases h
 | cons v vs=>
  rw[hvs] at h hv
  obtain⟨u,us,hus,h1,h2⟩:=hv
  cases v<;>try (cases h;done)
  rename_i x
  cases x<;>try (cases h;done)
  rename_i k n
  cases h1
  simp only[mxE] at h
  cases b with
  | true=>
   obtain⟨u,h3,h4⟩:=Zqz (P:=P) vs us k n r h2 h
   refine Zbz (s:=Builtin.max_ ats o.type (xs.map a.eval)) (u:=u) (by rw[Zez hop];rfl) ?_ (ZT.stay pre.ok hp h4)
   rw[Builtin.max_,hl,hus];exact h3
  | false=>
   obtain⟨u,h3,h4⟩:=Zqm (P:=P) vs us k n r h2 h
   refine Zbz (s:=Builtin.min_ ats o.type (xs.map a.eval)) (u:=u) (by rw[Zez hop];rfl) ?_ (ZT.stay pre.ok hp h4)
   rw[Builtin.min_,hl,hus];exact h3
theorem Zr8 (pre:Pre G R w e a Hm) {x:Operand}{y:Opd}{v:V} (hop:o.op = .nilCheck x) (hx:ZG G x y=true) (h:ZoJ Hm (y.val e)=some v) (hp:Z7 R.H [] nid [] H'):Zcx P o a w (ZT R w nid 0 H' v):=by
 have hv:=pre.opd hx
 have ptr:∀(ad:Addr) v,a.eval x = .pointer (some ad)→ZaM R w v (a.eval x)→Zcx P o a w (ZT R w nid 0 H' v):=fun ad v h1 h2=>
  .val (u:=a.eval x) (w':=w) (by unfold execOp;rw[hop];simp[h1]) (ZT.stay pre.ok hp h2)
 unfold ZoJ at h
 split at h
 ·rename_i f caps hy
  simp only[Option.some.injEq] at h
  subst h
  rw[hy] at hv
  have hv':=hv
  obtain⟨us,h1,_⟩:=hv'
  exact .val (u:=a.eval x) (w':=w) (by unfold execOp;rw[hop];simp only[h1];unfold ZgK;cases isU _<;>simp) (ZT.stay pre.ok hp hv)
 ·rename_i f caps hy
  simp only[Option.some.injEq] at h
  subst h
  rw[hy] at hv
  have hv':=hv
  obtain⟨us,h1,_⟩:=hv'
  exact .val (u:=a.eval x) (w':=w) (by unfold execOp;rw[hop];simp only[h1];unfold ZgK;cases isU _<;>simp) (ZT.stay pre.ok hp hv)
 ·rename_i t z hy
  simp only[Option.some.injEq] at h
  subst h
  rw[hy] at hv
  have hv':=hv
  obtain⟨u',h1,_⟩:=hv'
  exact .val (u:=a.eval x) (w':=w) (by unfold execOp;rw[hop];simp[h1]) (ZT.stay pre.ok hp hv)
 ·rename_i cs hy
  simp only[Option.some.injEq] at h
  subst h
  rw[hy] at hv
  have hv':=hv
  obtain⟨b,off,h1,_⟩:=hv'
  exact ptr _ _ h1 hv
 ·rename_i b off hy
  simp only[Option.some.injEq] at h
  subst h
  rw[hy] at hv
  have hv':=hv
  obtain⟨c,_,h1⟩:=hv'
  exact ptr _ _ h1 hv
 ·rename_i b sz i k hy
  simp only[Option.some.injEq] at h
  subst h
  rw[hy] at hv
  have hv':=hv
  obtain⟨c,_,h1⟩:=hv'
  exact ptr _ _ h1 hv
 ·cases h
structure ZgB (R R':RP) (ks:List Nat):Prop where
 m:R'.M=R.M
 b1:R'.B1=R.B1
 live:∀i,Z1 R'.H i=true→Z1 R.H i=true
 dead:∀k∈ks,Z1 R'.H k=false
theorem ZgB.a1 {R R':RP}{ks:List Nat} (h:ZgB R R' ks):∀b,R.A1 b→R'.A1 b:=fun b ⟨h1,h2⟩=>
 ⟨fun⟨i,l1,l2⟩=>h1 ⟨i,h.live i l1,by rw[← h.m];exact l2⟩,by rw[h.b1];exact h2⟩
theorem ZgB.own {R R':RP}{ks:List Nat} (h:ZgB R R' ks) (ok:R.OK w) {b c:Nat} (hb:Z1 R.H b=true) (hk:b∈ks) (hm:R.M b=some (some c)):R'.A1 c:=
 ⟨fun⟨i,l1,l2⟩=>by
  rw[h.m] at l2
  have:=ok.inj i b c (h.live i l1) hb l2 hm
  subst this
  rw[h.dead i hk] at l1
  exact Bool.noConfusion l1,by rw[h.b1];exact ok.nb b c hb hm⟩
theorem Znf {H:Zi}{b sz:Nat}{xs:List D} (h:nth H b=some (.arr sz xs)):Z1 H b=true:=by
 unfold Z1;rw[h]
theorem Zku (ok:R.OK w) {c:Nat}{sz:Nat}{xs:List D}{A1' A0' AL':Nat→Prop} (h1:∀b,R.A1 b→A1' b) {l n:Nat} (hb:Zfh R w (some c) (.arr sz xs)) (hne:(xs.drop l).take n≠[]) :
  Zd9 A1' A0' AL' w c sz (l*sz) ((xs.drop l).take n):=by
 obtain⟨_,he,hb⟩:=hb
 rcases hb with⟨hb,_⟩ | ⟨c',cs,el,e1,e2,e3,e4⟩
 ·cases hb
 ·cases e1
  refine ZgJ _ _ fun j x hj=>?_
  rw[List.getElem?_take] at hj
  by_cases hjn:j<n
  ·rw[if_pos hjn,List.getElem?_drop] at hj
   obtain⟨u,f1,f2,f3⟩:=e4 (l+j) x hj
   refine⟨u,ZaR.lift h1 x u (he x (List.mem_of_getElem? hj)) f1,f2,fun k v hk=>?_⟩
   rw[Zb3 e2,← f3 k v hk,Nat.add_mul]
  ·rw[if_neg hjn] at hj;cases hj
mutual
theorem Zjo (n:Nat):∀(v:V) (y:D) (ks:List Nat),(pre:Pre G R w e a Hm)→fr Hm n v=some (y,ks)→∀{R':RP}{ks':List Nat},ZgB R R' ks'→(∀k∈ks,k∈ks')→∀u,ZaM R w v u→(y.esc=true∨∃ts,y = .tup ts)∧∀A0' AL',ZaR R'.A1 A0' AL' w y u:=by
 intro v y ks pre h R' ks' hL hks u hu
 cases n with
 | zero=>cases h
 | succ n=>
  simp only[fr] at h
  cases v<;>try (cases h;done)
  ·rename_i x
   dsimp only at h
   split at h
   ·rename_i ts
    cases he:ZoS ts with
    | false=>rw[he] at h;cases h
    | true=>
     rw[he] at h
     simp only[cond_true,Option.some.injEq,Prod.mk.injEq] at h
     obtain⟨rfl,_⟩:=h
     obtain⟨us,rfl,hu⟩:=hu
     exact⟨.inr ⟨ts,rfl⟩,fun A0' AL'=>⟨us,rfl,ZaD.liftT hL.a1 ts us he hu⟩⟩
   ·cases he:x.esc with
    | false=>rw[he] at h;cases h
    | true=>
     rw[he] at h
     simp only[cond_true,Option.some.injEq,Prod.mk.injEq] at h
     obtain⟨rfl,_⟩:=h
     exact⟨.inl he,fun A0' AL'=>ZaR.lift hL.a1 x u he hu⟩
  ·rename_i b sz
   dsimp only at h
   cases hb:nth Hm b with
   | none=>rw[hb] at h;cases h
   | some blk=>
    rw[hb] at h
    cases blk<;>try (cases h;done)
    rename_i sz' xs
    dsimp only at h
    cases hs:Nat.beq sz sz' with
    | false=>rw[hs] at h;cases h
    | true=>
     rw[hs] at h
     obtain rfl:=Nat.eq_of_beq_eq_true hs
     simp only[cond_true,Option.some.injEq,Prod.mk.injEq] at h
     obtain⟨rfl,rfl⟩:=h
     refine⟨.inl rfl,fun A0' AL'=>?_⟩
     obtain⟨m,q1,q2,q3,q4⟩:=ZiG pre hb hu
     have q5:=q4
     obtain⟨_,ad,cap,rfl,q6,q7⟩:=q5
     refine⟨_,_,_,rfl,rfl,q6,q3.2.1,fun hne=>?_⟩
     obtain⟨c,cs,el,fr',cap',rfl,e1,e2,e3,e4⟩:=ZdM q4 (.inl (List.length_pos_iff.2 hne))
     cases e1
     refine⟨c,0*sz,sz,rfl,hL.own pre.ok (Znf q2) (hks _ (by simp)) q1,pre.ok.lt _ _ q1,?_⟩
     have:=Zku pre.ok (A0':=A0') (AL':=AL') hL.a1 (l:=0) (n:=xs.length) q3 (by simpa using hne)
     simpa using this
  ·rename_i b sz of len
   dsimp only at h
   cases hb:nth Hm b with
   | none=>rw[hb] at h;cases h
   | some blk=>
    rw[hb] at h
    cases blk<;>try (cases h;done)
    rename_i sz' xs
    dsimp only at h
    cases hs:Nat.beq sz sz' with
    | false=>rw[hs] at h;cases h
    | true=>
     rw[hs] at h
     obtain rfl:=Nat.eq_of_beq_eq_true hs
     simp only[cond_true,Option.some.injEq,Prod.mk.injEq] at h
     obtain⟨rfl,rfl⟩:=h
     refine⟨.inl rfl,fun A0' AL'=>?_⟩
     obtain⟨m,q1,q2,q3,q4⟩:=Zhc pre hb hu
     have q5:=q4
     obtain⟨q8,ad,cap,rfl,q6,q7⟩:=q5
     have hlen:((xs.drop of).take len).length=len:=by simp only[List.length_take,List.length_drop];omega
     refine⟨_,_,_,rfl,hlen.symm,q6,fun x hx=>q3.2.1 x (List.mem_of_mem_drop (List.mem_of_mem_take hx)),fun hne=>?_⟩
     obtain⟨c,cs,el,fr',cap',rfl,e1,e2,e3,e4⟩:=ZdM q4 (.inl (by rw[← hlen];exact List.length_pos_iff.2 hne))
     cases e1
     exact⟨c,of*sz,sz,rfl,hL.own pre.ok (Znf q2) (hks _ (by simp)) q1,pre.ok.lt _ _ q1,Zku pre.ok hL.a1 q3 hne⟩
  ·simp only[Option.some.injEq,Prod.mk.injEq] at h
   obtain⟨rfl,rfl⟩:=h
   obtain⟨ad,rfl⟩:=hu
   exact⟨.inl rfl,fun A0' AL'=>⟨_,_,_,rfl,rfl,Nat.le_refl _,by simp,by simp⟩⟩
  ·rename_i cs
   dsimp only at h
   cases hl:frl (fr Hm n) cs with
   | none=>rw[hl] at h;cases h
   | some p=>
    obtain⟨l,ks1⟩:=p
    rw[hl] at h
    dsimp only at h
    cases he:D.escs l with
    | false=>rw[he] at h;cases h
    | true=>
     rw[he] at h
     simp only[cond_true,Option.some.injEq,Prod.mk.injEq] at h
     obtain⟨rfl,rfl⟩:=h
     obtain⟨us,rfl,h1⟩:=hu
     have g2:=ZmX n cs l ks1 pre hl hL hks us h1
     exact⟨.inl he,fun A0' AL'=>⟨us,rfl,g2 A0' AL'⟩⟩
  ·rename_i cs
   dsimp only at h
   cases hl:frl (fr Hm n) cs with
   | none=>rw[hl] at h;cases h
   | some p=>
    obtain⟨l,ks1⟩:=p
    rw[hl] at h
    simp only[Option.some.injEq,Prod.mk.injEq] at h
    obtain⟨rfl,rfl⟩:=h
    obtain⟨us,rfl,h1⟩:=hu
    have g2:=ZmX n cs l ks1 pre hl hL hks us h1
    exact⟨.inr ⟨_,rfl⟩,fun A0' AL'=>⟨us,rfl,g2 A0' AL'⟩⟩
termination_by (n,0)
theorem ZmX (n:Nat):∀(vs:List V) (ys:List D) (ks:List Nat),(pre:Pre G R w e a Hm)→frl (fr Hm n) vs=some (ys,ks)→∀{R':RP}{ks':List Nat},ZgB R R' ks'→(∀k∈ks,k∈ks')→∀us,Zat R w vs us→∀A0' AL',ZaD R'.A1 A0' AL' w ys us
 | [],ys,ks,pre,h,R',ks',hL,hks,us,hu=>by
  simp only[frl,Option.some.injEq,Prod.mk.injEq] at h
  obtain⟨rfl,rfl⟩:=h
  exact fun _ _=>hu
 | v :: vs,ys,ks,pre,h,R',ks',hL,hks,us,hu=>by
  simp only[frl] at h
  cases h1:fr Hm n v with
  | none=>rw[h1] at h;cases h
  | some p=>
   obtain⟨y,k1⟩:=p
   cases h2:frl (fr Hm n) vs with
   | none=>rw[h1,h2] at h;cases h
   | some q=>
    obtain⟨ys',k2⟩:=q
    rw[h1,h2] at h
    simp only[Option.some.injEq,Prod.mk.injEq] at h
    obtain⟨rfl,rfl⟩:=h
    obtain⟨u,us',rfl,e1,e2⟩:=hu
    obtain⟨g1,g2⟩:=Zjo n v y k1 pre h1 hL (fun k hk=>hks k (by simp[hk])) u e1
    have g4:=ZmX n vs ys' k2 pre h2 hL (fun k hk=>hks k (by simp[hk])) us' e2
    exact fun A0' AL'=>⟨u,us',rfl,g2 A0' AL',g4 A0' AL'⟩
termination_by vs=>(n,vs.length+1)
end
theorem ZgB.refl (R:RP):ZgB R R []:=⟨rfl,rfl,fun _ h=>h,by simp⟩
theorem Zup (pre:Pre G R w e a Hm) {t:TypeId}{x:Operand}{y:Opd}{z:D} (hop:o.op = .makeInterface t x) (hx:ZG G x y=true) (ht:P.concrete t=true)
  (h:fr Hm 6 (y.val e)=some (z,[])) (hp:Z7 R.H [] nid [] H'):Zcx P o a w (ZT R w nid 0 H' (.d (.iface t z))):=by
 have hv:=pre.opd hx
 obtain⟨_,g⟩:=Zjo 6 _ z [] pre h (ZgB.refl R) (fun _ h=>h) _ hv
 exact Zbz (s:=Instr.makeInterface t (a.eval x)) (by unfold execOp;rw[hop]) (run_makeInterface w t _ ht) (ZT.stay pre.ok hp ⟨_,rfl,g _ _⟩)
end
end Go.Proofs.YtnpidpcmpleiaaaDoorE
namespace Go.Proofs.YtnpidpcmpleiaaaDoorE
open Go
set_option linter.unusedVariables false
set_option linter.unusedSimpArgs false
theorem ZcI {α:Type}:∀(vs cs:List α) (o:Nat),(Zac cs o vs).length=cs.length
 | [],cs,o=>rfl
 | v :: vs,cs,o=>by rw[Zac,ZcI vs,Zbn,List.length_set]
theorem ZbM {α:Type}:∀(vs cs:List α) (o j:Nat),(Zac cs o vs)[j]? = if o≤j∧j<o+vs.length then (if j<cs.length then vs[j-o]? else none) else cs[j]?
 | [],cs,o,j=>by rw[Zac,if_neg (by simp only[List.length_nil];omega)]
 | v :: vs,cs,o,j=>by
  rw[Zac,ZbM vs,Zbn,List.length_set,List.getElem?_set]
  by_cases h1:o=j
  ·subst h1
   have hR:o≤o∧o<o+(v :: vs).length:=by simp only[List.length_cons];omega
   have hL:¬(o+1≤o∧o<o+1+vs.length):=by omega
   rw[if_neg hL,if_pos rfl,if_pos hR]
   by_cases h2:o<cs.length
   ·rw[if_pos h2,if_pos h2,Nat.sub_self,List.getElem?_cons_zero]
   ·rw[if_neg h2,if_neg h2]
  ·rw[if_neg h1]
   by_cases h2:o+1≤j∧j<o+1+vs.length
   ·have hR:o≤j∧j<o+(v :: vs).length:=by simp only[List.length_cons];omega
    rw[if_pos h2,if_pos hR]
    have:j-o=(j-(o+1))+1:=by omega
    rw[this,List.getElem?_cons_succ]
   ·have hR:¬(o≤j∧j<o+(v :: vs).length):=by simp only[List.length_cons];omega
    rw[if_neg h2,if_neg hR]
theorem ZlB:∀(vs:List Value) (k off:Nat) (cs:Array Value),((vs.zipIdx k).foldl (fun cs (p:Value×Nat)=>cs.setIfInBounds (off+p.2) p.1) cs).toList=Zac cs.toList (off+k) vs
 | [],k,off,cs=>rfl
 | v :: vs,k,off,cs=>by
  rw[List.zipIdx_cons,List.foldl_cons,ZlB vs (k+1) off,Zac,Zbn]
  simp[Nat.add_assoc]
section
variable {P:Program} {G:Za9} {R:RP} {w:World} {e:Env} {a:Act} {Hm H':Zi} {nid:Nat} {o:Oper}
theorem ZlZ {cs vs:List V}{us ws:List Value} (h:Zat R w cs us) (k:Zat R w vs ws) (off:Nat):Zat R w (Zac cs off vs) (Zac us off ws):=by
 have l1:=Zda _ _ h
 have l2:=Zda _ _ k
 refine ZgF _ _ (by rw[ZcI,ZcI,l1]) fun j v u hv hu=>?_
 rw[ZbM] at hv hu
 rw[l2] at hu
 by_cases hj:off≤j∧j<off+vs.length
 ·rw[if_pos hj] at hv hu
  by_cases hc:j<cs.length
  ·rw[if_pos hc] at hv
   rw[if_pos (by omega)] at hu
   obtain⟨u',e1,e2⟩:=ZdW _ _ _ _ k hv
   rw[hu] at e1;cases e1;exact e2
  ·rw[if_neg hc] at hv;cases hv
 ·rw[if_neg hj] at hv hu
  obtain⟨u',e1,e2⟩:=ZdW _ _ _ _ h hv
  rw[hu] at e1;cases e1;exact e2
def Zjf (G:Za9) (place:Nat→Option (Nat×Nat)):List (Nat×Operand)→List (Nat×Nat×Opd)→Bool
 | [],[]=>true
 | (i,x) :: r,(off,size,y) :: s=>(match place i with | some (off',size')=>Nat.beq off off'&&Nat.beq size size' | none=>false)&&ZG G x y&&Zjf G place r s
 | _,_=>false
theorem Zpa (pre:Pre G R w e a Hm) {place:Nat→Option (Nat×Nat)}:∀(ps:List (Nat×Operand)) (qs:List (Nat×Nat×Opd)) (z:List V) (cells:Array Value) (z':List V),Zjf G place ps qs=true→Zat R w z cells.toList →
  Zl0 z (qs.map fun(o,s,x)=>(o,s,x.val e))=some z'→∃cells',Instr.fill place cells (ps.map fun(i,x)=>(i,a.eval x))=some cells'∧Zat R w z' cells'.toList
 | [],[],z,cells,z',_,hd,h=>by
  simp only[List.map_nil,Zl0,Option.some.injEq] at h
  subst h
  exact⟨cells,rfl,hd⟩
 | [],_ :: _,z,cells,z',hp,_,_=>by cases hp
 | _ :: _,[],z,cells,z',hp,_,_=>by cases hp
 | (i,x) :: ps,(off,size,y) :: qs,z,cells,z',hp,hd,h=>by
  simp only[Zjf,Bool.and_eq_true] at hp
  obtain⟨⟨h1,h2⟩,h3⟩:=hp
  cases hpl:place i with
  | none=>rw[hpl] at h1;cases h1
  | some q=>
   obtain⟨off',size'⟩:=q
   rw[hpl] at h1
   simp only[Bool.and_eq_true] at h1
   obtain rfl:=Nat.eq_of_beq_eq_true h1.1
   obtain rfl:=Nat.eq_of_beq_eq_true h1.2
   simp only[List.map_cons,Zl0] at h
   cases hc:((y.val e).okb&&Nat.beq (y.val e).cells.length size&&Nat.ble (off+size) z.length) with
   | false=>rw[hc] at h;cases h
   | true=>
    rw[hc] at h
    simp only[cond_true] at h
    simp only[Bool.and_eq_true,Nat.ble_eq] at hc
    have hv:=pre.opd h2
    have hcs:=ZeY hv hc.1.1
    have hl:=Zda _ _ hcs
    have hn:=Nat.eq_of_beq_eq_true hc.1.2
    have hz:=Zda _ _ hd
    simp only[Array.length_toList] at hl hz
    obtain⟨cells',e1,e2⟩:=Zpa pre ps qs (Zac z off (y.val e).cells) ((a.eval x).cells.zipIdx.foldl (fun cs (c,j)=>cs.setIfInBounds (off+j) c) cells) z' h3 (by
     have:((a.eval x).cells.zipIdx.foldl (fun cs (c,j)=>cs.setIfInBounds (off+j) c) cells).toList=Zac cells.toList off (a.eval x).cells.toList:=by
      rw[← Array.foldl_toList,Array.toList_zipIdx]
      exact ZlB _ 0 off cells
     rw[this]
     exact ZlZ hd hcs off) h
    refine⟨cells',?_,e2⟩
    simp only[List.map_cons,Instr.fill,hpl]
    rw[if_neg (by simp;omega)]
    exact e1
def Zk9 (P:Program) (t:TypeId):Option (Nat→Option (Nat×Nat)):=
 match P.underlying t with
 | some (.array _ e)=>(P.info? e).map fun ie=>fun i=>some (i*ie.size,ie.size)
 | some (.struct fields)=>(fields.toList.mapM (fun f=>(P.info? f.type).map fun i=>(f.offset,i.size))).map fun places=>(places.toArray[·]?)
 | _=>none
def Zg1 (P:Program) (t:TypeId):Option Value:=match P.info? t with | some i=>i.zero | none=>none
theorem Zsc (pre:Pre G R w e a Hm) {t:TypeId}{parts:Array (Nat×Operand)}{z:List V}{ps:List (Nat×Nat×Opd)}{cs:List V}{place:Nat→Option (Nat×Nat)}{zv:Value} (hop:o.op = .build t parts)
  (hpl:Zk9 P t=some place) (hz:Zg1 P t=some zv) (hzc:cvs z zv.cells.toList=true) (hps:Zjf G place parts.toList ps=true) (h:Zl0 z (ps.map fun(o,s,x)=>(o,s,x.val e))=some cs) (hp:Z7 R.H [] nid [] H') :
  Zcx P o a w (ZT R w nid 0 H' (ZnG cs)):=by
 obtain⟨cells',h1,h2⟩:=Zpa pre parts.toList ps z zv.cells cs hps (Zos _ _ hzc) h
 have hb:P.built t (parts.map fun(i,x)=>(i,a.eval x)).toList=some cells':=by
  rw[Array.toList_map]
  unfold Program.built
  unfold Zg1 at hz
  unfold Zk9 at hpl
  cases hi:P.info? t with
  | none=>rw[hi] at hz;cases hz
  | some it=>
   rw[hi] at hz
   dsimp only at hz
   cases hu:P.underlying t with
   | none=>rw[hu] at hpl;cases hpl
   | some d=>
    rw[hu] at hpl
    cases d<;>try (cases hpl;done)
    ·rename_i n el
     dsimp only at hpl ⊢
     cases hie:P.info? el with
     | none=>rw[hie] at hpl;cases hpl
     | some ie=>
      rw[hie] at hpl
      simp only[Option.map_some,Option.some.injEq] at hpl
      subst hpl
      simp only[hz]
      exact h1
    ·rename_i fields
     dsimp only at hpl ⊢
     cases hm:fields.toList.mapM (fun f=>(P.info? f.type).map fun i=>(f.offset,i.size)) with
     | none=>rw[hm] at hpl;cases hpl
     | some places=>
      rw[hm] at hpl
      simp only[Option.map_some,Option.some.injEq] at hpl
      subst hpl
      simp only[hz,hm]
      exact h1
 refine Zbz (s:=Instr.build t (parts.map fun(i,x)=>(i,a.eval x))) (by unfold execOp;rw[hop]) (run_build w t _ cells' hb) (ZT.stay pre.ok hp ?_)
 have:=Zk3 h2
 simpa using this
def Zet (P:Program) (t:TypeId):Option Bool:=match P.underlying t with | some .bool=>some true | some (.int _)=>some false | _=>none
def Zci (P:Program):Nat→List Field→Option (List Bool)
 | _,[]=>some []
 | i, f :: fs => bif (f.name != "_") && Nat.beq f.offset i then (match Zet P f.type, Zci P (i + 1) fs with | some b, some l => some (b :: l) | _, _ => none) else none
theorem ZeA:∀(fs:List Field) (i:Nat) (ks:List Bool),Zci P i fs=some ks→ks.length=fs.length
 | [],i,ks,h=>by simp only[Zci,Option.some.injEq] at h;subst h;rfl
 | f :: fs,i,ks,h=>by
  simp only[Zci] at h
  cases hc : ((f.name != "_") && Nat.beq f.offset i) with
  | false=>rw[hc] at h;cases h
  | true=>
   rw[hc] at h
   simp only[cond_true] at h
   cases hkt:Zet P f.type with
   | none=>rw[hkt] at h;cases h
   | some b=>
    rw[hkt] at h
    cases hff:Zci P (i+1) fs with
    | none=>rw[hff] at h;cases h
    | some ks'=>
     rw[hff] at h
     simp only[Option.some.injEq] at h
     subst h
     simp[ZeA fs (i+1) ks' hff]
def Zjr (P:Program) (t:TypeId):Option (List Bool):=
 match P.underlying t with
 | some .bool=>some [true]
 | some (.int _)=>some [false]
 | some (.struct fs)=>bif !(Nat.beq fs.toList.length 1)&&(!(P.stoodInHeld t) && !(P.eqGuardType P.depth t)) then Zci P 0 fs.toList else none
 | _=>none
theorem ZiS {t:TypeId}{b:Bool} (h:Zet P t=some b):Zfu P t=some false:=by
 unfold Zet at h;unfold Zfu
 split at h<;>simp_all
theorem Zpq {t:TypeId}{b:Bool} (ht:Zet P t=some b) {x y:D}{u1 u2:Value}{r:Bool} (hx:R.den w x u1) (hy:R.den w y u2) (h:eqD x y=some r) (hb:Zdv [b] [x]=true) (d:Nat):(Op.equalIn (d+1) t u1 u2).run P w = .ok r w:=by
 unfold Zet at ht
 split at ht
 ·rename_i hu
  cases ht
  cases x<;>try (cases hb;done)
  cases y<;>try (cases h;done)
  cases hx;cases hy
  simp only[eqD,Option.some.injEq] at h
  subst h
  simp[Op.equalIn,run_underlying hu]
 ·rename_i k0 hu
  cases ht
  cases x<;>try (cases hb;done)
  cases y<;>try (cases h;done)
  cases hx;cases hy
  rename_i k n k' m
  simp only[eqD] at h
  cases hk:k==k' with
  | false=>rw[hk] at h;cases h
  | true=>
   rw[hk] at h
   obtain rfl:k=k':=by simpa using hk
   simp only[cond_true,Option.some.injEq] at h
   subst h
   simp[Op.equalIn,run_underlying hu]
 ·cases ht
theorem Zj1 {b:Bool}{ks:List Bool}{c:D}{cs:List D} (h:Zdv (b :: ks) (c :: cs)=true):Zdv [b] [c]=true∧Zdv ks cs=true:=by
 cases b<;>cases c<;>simp_all [Zdv]
theorem ZjC (d:Nat) (us vs:List Value):∀(fs:List Field) (i:Nat) (ks:List Bool) (xs ys:List D) (r:Bool),Zci P i fs=some ks→Zdv ks xs=true→ZkB xs ys=some r →
  (∀(j:Nat) x,xs[j]? = some x→∃u,us[i+j]? = some u∧R.den w x u)→(∀(j:Nat) y,ys[j]? = some y→∃u,vs[i+j]? = some u∧R.den w y u)→(Op.eqFields (d+1) us.toArray vs.toArray fs).run P w = .ok r w
 | [],i,ks,xs,ys,r,hf,hk,h,_,_=>by
  simp only[Zci,Option.some.injEq] at hf
  subst hf
  cases xs with
  | cons x xs=>simp[Zdv] at hk
  | nil=>
   cases ys with
   | cons y ys=>simp[ZkB] at h
   | nil=>
    simp only[ZkB,Option.some.injEq] at h
    subst h
    simp[Op.eqFields]
 | f :: fs,i,ks,xs,ys,r,hf,hk,h,h1,h2=>by
  simp only[Zci] at hf
  cases hc : ((f.name != "_") && Nat.beq f.offset i) with
  | false=>rw[hc] at hf;cases hf
  | true=>
   rw[hc] at hf
   simp only[cond_true] at hf
   simp only[Bool.and_eq_true] at hc
   cases hkt:Zet P f.type with
   | none=>rw[hkt] at hf;cases hf
   | some b=>
    rw[hkt] at hf
    cases hff:Zci P (i+1) fs with
    | none=>rw[hff] at hf;cases hf
    | some ks'=>
     rw[hff] at hf
     simp only[Option.some.injEq] at hf
     subst hf
     cases xs with
     | nil=>cases b<;>simp[Zdv] at hk
     | cons x xs=>
      cases ys with
      | nil=>simp[ZkB] at h
      | cons y ys=>
       obtain⟨k1,k2⟩:=Zj1 hk
       simp only[ZkB] at h
       cases e1:eqD x y with
       | none=>rw[e1] at h;cases h
       | some r1=>
        cases e2:ZkB xs ys with
        | none=>rw[e1,e2] at h;cases h
        | some r2=>
         rw[e1,e2] at h
         simp only[Option.some.injEq] at h
         subst h
         obtain⟨u,f1,f2⟩:=h1 0 x rfl
         obtain⟨v,g1,g2⟩:=h2 0 y rfl
         have hrest:=ZjC d us vs fs (i+1) ks' xs ys r2 hff k2 e2
          (fun j x hj=>by have:=h1 (j+1) x (by simpa using hj);rwa [show i+(j+1)=i+1+j from by omega] at this)
          (fun j x hj=>by have:=h2 (j+1) x (by simpa using hj);rwa [show i+(j+1)=i+1+j from by omega] at this)
         have hq:=Zpq (P:=P) hkt f2 g2 e1 k1 d
         have hn : f.name ≠ "_" := by simpa using hc.1
         have ho:=Nat.eq_of_beq_eq_true hc.2
         simp only[Nat.add_zero] at f1 g1
         have p1:(part f.type us.toArray f.offset).run P w = .ok u w:=by simp[part,ZeU (ZiS hkt),ho,f1]
         have p2:(part f.type vs.toArray f.offset).run P w = .ok v w:=by simp[part,ZeU (ZiS hkt),ho,g1]
         rw[Op.eqFields,if_pos hn]
         simp only[Sem.run_bind,p1,p2,hq,Result.andThen_ok]
         cases r1
         ·simp
         ·simpa using hrest
theorem ZuR (pre:Pre G R w e a Hm) {neg:Bool}{t t':TypeId}{x y:Operand}{x' y':Opd}{ks:List Bool}{d1 d2:D}{r:Bool} (hop:o.op = .binOp (bif neg then .neq else .eql) t x y t') (hx:ZG G x x'=true) (hy:ZG G y y'=true)
  (ht:Zjr P t=some ks) (h1:x'.val e = .d d1) (h2:y'.val e = .d d2) (hk:ZcK ks d1=true) (h:eqD d1 d2=some r) (hp:Z7 R.H [] nid [] H'):Zcx P o a w (ZT R w nid 0 H' (.d (.bool (bif neg then !r else r)))):=by
 have hv1:=pre.opd hx
 have hv2:=pre.opd hy
 rw[h1] at hv1
 rw[h2] at hv2
 refine Zbz (s:=do eqGuard (bif neg then .neq else .eql) t x y (a.eval x) (a.eval y);binOp (bif neg then .neq else .eql) t (a.eval x) (a.eval y)) (u:=.bool (bif neg then !r else r)) (by unfold execOp;rw[hop]) ?_ (ZT.stay pre.ok hp rfl)
 cases d1<;>try (cases h;done)
 ·cases d2<;>try (cases h;done)
  rename_i b1 b2
  rw[ZnT hv1,ZnT hv2]
  have hk':∃b,ks=[b]∧Zdv [b] [D.bool b1]=true:=by
   unfold ZcK at hk
   split at hk
   ·rename_i e1;cases e1
   ·split at hk
    ·exact⟨_,rfl,hk⟩
    ·cases hk
  obtain⟨b,rfl,hkb⟩:=hk'
  have hkt:Zet P t=some true:=by
   cases b with
   | false=>cases hkb
   | true=>
    unfold Zjr at ht;unfold Zet
    split at ht
    ·rename_i hu;rw[hu]
    ·cases ht
    ·rename_i fs hu
     cases hg:(!(Nat.beq fs.toList.length 1)&&(!(P.stoodInHeld t) && !(P.eqGuardType P.depth t))) with
     | false=>rw[hg] at ht;cases ht
     | true=>
      rw[hg] at ht
      simp only[cond_true] at ht
      have:=ZeA _ _ _ ht
      rw[← this] at hg
      cases hg
    ·cases ht
  have hq:=Zpq (P:=P) (R:=R) (w:=w) hkt (x:=.bool b1) (y:=.bool b2) rfl rfl h (by rfl) 9999
  cases neg<;>simp[eqGuard,binOp,Op.equal,Op.maxDepth,hq]
 ·cases d2<;>try (cases h;done)
  rename_i k n k' m
  rw[Zha hv1,Zha hv2]
  simp only[eqD] at h
  cases hkk:k==k' with
  | false=>rw[hkk] at h;cases h
  | true=>
   rw[hkk] at h
   obtain rfl:k=k':=by simpa using hkk
   simp only[cond_true,Option.some.injEq] at h
   subst h
   cases neg<;>simp[eqGuard,binOp,Op.intCmp]
   rfl
 ·cases d2<;>try (cases h;done)
  rename_i cs cs'
  obtain⟨us,e1,e2⟩:=hv1
  obtain⟨vs,e3,e4⟩:=hv2
  rw[e1,e3]
  have hk':(∀b,ks≠[b])∧Zdv ks cs=true:=by
   unfold ZcK at hk
   dsimp only at hk
   split at hk
   ·cases hk
   ·rename_i hn;exact⟨fun b hb=>hn b hb,hk⟩
  obtain⟨hn1,hk⟩:=hk'
  simp only[eqD] at h
  unfold Zjr at ht
  split at ht
  ·cases ht;exact absurd rfl (hn1 _)
  ·cases ht;exact absurd rfl (hn1 _)
  ·rename_i fs hu
   cases hg':(!(Nat.beq fs.toList.length 1)&&(!(P.stoodInHeld t) && !(P.eqGuardType P.depth t))) with
   | false=>rw[hg'] at ht;cases ht
   | true=>
    rw[hg'] at ht
    simp only[cond_true] at ht
    simp only[Bool.and_eq_true,Bool.not_eq_true'] at hg'
    obtain⟨_,hg⟩:=hg'
    have hfs:P.fieldsOf t=fs:=by unfold Program.fieldsOf;rw[hu]
    have hq:(Op.equalIn 10000 t (.agg us.toArray) (.agg vs.toArray)).run P w = .ok r w:=by
     rw[run_equalIn_struct w 9999 t us.toArray vs.toArray (by rw[hfs];exact hu) hg.1,hfs]
     exact ZjC 9998 us vs fs.toList 0 ks cs cs' r ht hk h (fun j x hj=>by simpa using ZeX cs us j x e2 hj) (fun j x hj=>by simpa using ZeX cs' vs j x e4 hj)
    cases neg<;>simp[eqGuard,binOp,Op.equal,Op.maxDepth,hq,hg.2]
  ·cases ht
end
end Go.Proofs.YtnpidpcmpleiaaaDoorE
namespace Go.Proofs.YtnpidpcmpleiaaaDoorE
open Go
set_option linter.unusedVariables false
set_option linter.unusedSimpArgs false
def Zfc (ks:List Nat):List (Nat×Blk):=ks.map (fun j=>(j,.dead))
theorem ZfB:∀(ks:List Nat) (H:Zi) (i:Nat) (blk:Blk),(Zc6 H (Zfc ks))[i]? = some blk→blk ≠ .dead→H[i]? = some blk
 | [],H,i,blk,h,_=>h
 | k :: ks,H,i,blk,h,hd=>by
  have h1:=ZfB ks (ZdV H k .dead) i blk h hd
  rw[Zbn,List.getElem?_set] at h1
  split at h1
  ·split at h1
   ·cases h1;exact absurd rfl hd
   ·cases h1
  ·exact h1
theorem Zh9:∀(ks:List Nat) (H:Zi) (k:Nat),k∈ks→Z1 (Zc6 H (Zfc ks)) k=false
 | [],H,k,h=>by cases h
 | j :: ks,H,k,h=>by
  by_cases hk:k∈ks
  ·exact Zh9 ks (ZdV H j .dead) k hk
  ·have hj:k=j:=by simpa [hk] using h
   subst hj
   cases hl:Z1 (Zc6 H (Zfc (k :: ks))) k with
   | false=>rfl
   | true=>
    obtain⟨blk,h1,h2⟩:=Zo.1 hl
    have h3:=ZfB ks (ZdV H k .dead) k blk h1 h2
    rw[Zbn,List.getElem?_set,if_pos rfl] at h3
    split at h3
    ·cases h3;exact absurd rfl h2
    ·cases h3
section
variable {P:Program} {R:RP} {w w':World} {nid n:Nat} {H':Zi} {v:V} {u:Value}
theorem ZgB.kill (R:RP) (ks:List Nat):ZgB R { R with H:=Zc6 R.H (Zfc ks) } ks:=
 ⟨rfl,rfl,fun i hi=>by
  obtain⟨blk,h1,h2⟩:=Zo.1 hi
  exact Zo.2 ⟨blk,ZfB ks _ i blk h1 h2,h2⟩,fun k hk=>Zh9 ks _ k hk⟩
theorem ZT.afterKill (ok:R.OK w) {ks:List Nat} (h:ZT { R with H:=Zc6 R.H (Zfc ks) } w nid n H' v u w'):ZT R w nid n H' v u w':=by
 obtain⟨R',h1,h2,h3,h4,h5⟩:=h
 exact⟨R',(Ext.kill (R:=R) (w:=w) (H':=Zc6 R.H (Zfc ks)) (fun i blk=>ZfB ks _ i blk)).trans h1,h2,h3,h4,h5⟩
theorem ZT.drew (h:ZT R w.drew nid n H' v u w'):ZT R w nid n H' v u w':=by
 obtain⟨R',h1,h2,h3,h4,h5⟩:=h
 exact⟨R',(Ext.draw (R:=R) (w:=w) (w':=w.drew) rfl rfl rfl rfl).trans h1,h2,h3,h4,h5⟩
theorem Ext.junk (R:RP) (w:World) (o:Obj):Ext R w R (w.alloc o) where
 m:=fun _ _ h=>h
 h:=fun i x blk _ h hd=>⟨blk,h,Blk.like_refl hd⟩
 b1:=rfl
 b0:=rfl
 same:=fun b hb' _=>Go.RowKit.Below.heap_alloc _ _ _ hb'
 row:=fun b cs el fr hb'=>by
  have hlt:b<w.heap.size:=(Array.getElem?_eq_some_iff.1 hb').1
  exact⟨cs,el,fr,by rw[Go.RowKit.Below.heap_alloc _ _ _ hlt];exact hb',rfl⟩
 grow:=by simp
 liv:=fun c hc h=>h
 os:=rfl
 tape:=rfl
 output:=rfl
theorem RP.OK.junk (h:R.OK w) (o:Obj):R.OK (w.alloc o):=
 ⟨h.b01,h.al,h.inj,fun i c hc=>by have:=h.lt i c hc;simp;omega,
  fun i m blk h1 h2=>(Ext.junk R w o).blkOK h.b01 (fun c hc=>Go.RowKit.Below.heap_alloc _ _ _ (h.lt i c (by rw[h2,hc]))) (h.blk i m blk h1 h2),
  h.nb,fun c hc=>by have:=h.bl c hc;simp;omega⟩
theorem ZT.junk (o:Obj) (ok:R.OK w) (hp:Z7 R.H [] nid [] H') (hv:ZaM R (w.alloc o) v u):ZT R w nid 0 H' v u (w.alloc o):=
 ⟨R,Ext.junk R w o,ok.junk o,hp.same.symm,hv,fun i h _=>h⟩
theorem ZT.write (ok:R.OK w) {b c:Nat}{old blk:Blk}{cs cs':Array Value}{el:TypeId}{fr:Nat×Nat}{ks:List Nat} (hb:R.H[b]? = some old) (hm:R.M b=some (some c)) (hl:old.like blk)
  (hw:w.heap[c]? = some (.cells cs el fr)) (hw':w'.heap[c]? = some (.cells cs' el fr)) (hs:cs'.size=cs.size) (ho:∀c',c'≠c→w'.heap[c']? = w.heap[c']?) (hsz:w'.heap.size=w.heap.size)
  (h1:w'.os=w.os) (h2:w'.tape=w.tape) (h3:w'.output=w.output) (hbk:b∉ks) (hp:Z7 R.H ((b,blk) :: Zfc ks) nid [] H')
  (hk:∀R':RP,Ext R w R' w'→ZgB R R' ks→R'.live c→R'.B0=R.B0→Zfh R' w' (some c) blk)
  (hv:∀R':RP,Ext R w R' w'→R'.M=R.M→(∀blk',R'.H[b]? = some blk'→blk' ≠ .dead→blk'=blk)→ZaM R' w' v u):ZT R w nid 0 H' v u w':=by
 have hd:old ≠ .dead:=Blk.like_ne hl
 have hH:H'=Zc6 (ZdV R.H b blk) (Zfc ks):=by
  apply List.ext_getElem?
  intro i
  have:=hp i
  rwa [if_neg (by simp only[List.length_nil];omega)] at this
 have hHb:∀i blk',H'[i]? = some blk'→blk' ≠ .dead→(i=b∧blk'=blk)∨(i≠b∧R.H[i]? = some blk'):=by
  intro i blk' hi hd'
  rw[hH] at hi
  have:=ZfB ks _ i blk' hi hd'
  rw[Zbn,List.getElem?_set] at this
  split at this
  ·rename_i e
   split at this
   ·cases this;exact .inl ⟨e.symm,rfl⟩
   ·cases this
  ·exact .inr ⟨fun e=>by rename_i hne;exact hne e.symm,this⟩
 have hlive:∀i,Z1 H' i=true→Z1 R.H i=true:=fun i hi=>by
  obtain⟨blk',g1,g2⟩:=Zo.1 hi
  rcases hHb i blk' g1 g2 with⟨rfl,rfl⟩ | ⟨_,g3⟩
  ·exact Zo.2 ⟨old,hb,hd⟩
  ·exact Zo.2 ⟨blk',g3,g2⟩
 have lb:Z1 R.H b=true:=Zo.2 ⟨old,hb,hd⟩
 have e:Ext R w { R with H:=H' } w':=by
  refine⟨fun _ _ h=>h,?_,rfl,rfl,?_,?_,by omega,?_,h1,h2,h3⟩
  ·intro i x blk' _ hi hd'
   rcases hHb i blk' hi hd' with⟨rfl,rfl⟩ | ⟨_,g3⟩
   ·exact⟨old,hb,hl⟩
   ·exact⟨blk',g3,Blk.like_refl hd'⟩
  ·intro c' _ hnl
   exact ho c' fun e=>hnl ⟨b,lb,by rw[e];exact hm⟩
  ·intro c' cs0 el0 fr0 hc'
   by_cases e:c'=c
   ·subst e
    rw[hw] at hc';cases hc'
    exact⟨cs',el,fr,hw',hs⟩
   ·exact⟨cs0,el0,fr0,by rw[ho c' e];exact hc',rfl⟩
  ·rintro c' _ ⟨i,g1,g2⟩
   exact⟨i,hlive i g1,g2⟩
 have hL:ZgB R { R with H:=H' } ks:=⟨rfl,rfl,hlive,fun k hk=>by rw[hH];exact Zh9 ks _ k hk⟩
 refine⟨{ R with H:=H' },e,?_,rfl,hv _ e rfl ?_,fun i h _=>h⟩
 ·refine⟨ok.b01,?_,?_,?_,?_,fun i c hl=>ok.nb i c (hlive i hl),fun c hc=>by rw[hsz];exact ok.bl c hc⟩
  ·intro i blk' hi hd'
   rcases hHb i blk' hi hd' with⟨rfl,rfl⟩ | ⟨_,g3⟩
   ·exact⟨_,hm⟩
   ·exact ok.al i blk' g3 hd'
  ·intro i j c' hi hj
   exact ok.inj i j c' (hlive i hi) (hlive j hj)
  ·intro i c' hc
   rw[hsz];exact ok.lt i c' hc
  ·intro i m blk' hi hmi
   by_cases hd':blk' = .dead
   ·subst hd';trivial
   ·rcases hHb i blk' hi hd' with⟨rfl,rfl⟩ | ⟨hne,g3⟩
    ·have hmi':R.M i=some m:=hmi
     rw[hm] at hmi';cases hmi'
     refine hk _ e hL ⟨i,Zo.2 ⟨blk',?_,hd'⟩,hmi⟩ rfl
     show H'[i]? = some blk'
     exact hi
    ·refine e.blkOK ok.b01 (fun c' hc'=>ho c' fun e'=>hne ?_) (ok.blk i m blk' g3 hmi)
     exact ok.inj i b c (Zo.2 ⟨blk',g3,hd'⟩) lb (by rw[← e',← hc'];exact hmi) hm
 ·intro blk' hi hd'
  rcases hHb b blk' hi hd' with⟨_,h⟩ | ⟨h,_⟩
  ·exact h
  ·exact absurd rfl h
theorem ZT.writeM (ok:R.OK w) {b c:Nat}{old blk:Blk}{mes:Array MapEntry}{clock:Nat}{ks:List Nat} (hb:R.H[b]? = some old) (hm:R.M b=some (some c)) (hl:old.like blk)
  (hw:w.heap[c]? = some (.map mes clock)) (ho:∀c',c'≠c→w'.heap[c']? = w.heap[c']?) (hsz:w'.heap.size=w.heap.size)
  (h1:w'.os=w.os) (h2:w'.tape=w.tape) (h3:w'.output=w.output) (hbk:b∉ks) (hp:Z7 R.H ((b,blk) :: Zfc ks) nid [] H')
  (hk:∀R':RP,Ext R w R' w'→ZgB R R' ks→R'.live c→R'.B0=R.B0→Zfh R' w' (some c) blk)
  (hv:∀R':RP,Ext R w R' w'→R'.M=R.M→(∀blk',R'.H[b]? = some blk'→blk' ≠ .dead→blk'=blk)→ZaM R' w' v u):ZT R w nid 0 H' v u w':=by
 have hd:old ≠ .dead:=Blk.like_ne hl
 have hH:H'=Zc6 (ZdV R.H b blk) (Zfc ks):=by
  apply List.ext_getElem?
  intro i
  have:=hp i
  rwa [if_neg (by simp only[List.length_nil];omega)] at this
 have hHb:∀i blk',H'[i]? = some blk'→blk' ≠ .dead→(i=b∧blk'=blk)∨(i≠b∧R.H[i]? = some blk'):=by
  intro i blk' hi hd'
  rw[hH] at hi
  have:=ZfB ks _ i blk' hi hd'
  rw[Zbn,List.getElem?_set] at this
  split at this
  ·rename_i e
   split at this
   ·cases this;exact .inl ⟨e.symm,rfl⟩
   ·cases this
  ·exact .inr ⟨fun e=>by rename_i hne;exact hne e.symm,this⟩
 have hlive:∀i,Z1 H' i=true→Z1 R.H i=true:=fun i hi=>by
  obtain⟨blk',g1,g2⟩:=Zo.1 hi
  rcases hHb i blk' g1 g2 with⟨rfl,rfl⟩ | ⟨_,g3⟩
  ·exact Zo.2 ⟨old,hb,hd⟩
  ·exact Zo.2 ⟨blk',g3,g2⟩
 have lb:Z1 R.H b=true:=Zo.2 ⟨old,hb,hd⟩
 have e:Ext R w { R with H:=H' } w':=by
  refine⟨fun _ _ h=>h,?_,rfl,rfl,?_,?_,by omega,?_,h1,h2,h3⟩
  ·intro i x blk' _ hi hd'
   rcases hHb i blk' hi hd' with⟨rfl,rfl⟩ | ⟨_,g3⟩
   ·exact⟨old,hb,hl⟩
   ·exact⟨blk',g3,Blk.like_refl hd'⟩
  ·intro c' _ hnl
   exact ho c' fun e=>hnl ⟨b,lb,by rw[e];exact hm⟩
  ·intro c' cs0 el0 fr0 hc'
   by_cases e:c'=c
   ·subst e
    rw[hw] at hc';cases hc'
   ·exact⟨cs0,el0,fr0,by rw[ho c' e];exact hc',rfl⟩
  ·rintro c' _ ⟨i,g1,g2⟩
   exact⟨i,hlive i g1,g2⟩
 have hL:ZgB R { R with H:=H' } ks:=⟨rfl,rfl,hlive,fun k hk=>by rw[hH];exact Zh9 ks _ k hk⟩
 refine⟨{ R with H:=H' },e,?_,rfl,hv _ e rfl ?_,fun i h _=>h⟩
 ·refine⟨ok.b01,?_,?_,?_,?_,fun i c hl=>ok.nb i c (hlive i hl),fun c hc=>by rw[hsz];exact ok.bl c hc⟩
  ·intro i blk' hi hd'
   rcases hHb i blk' hi hd' with⟨rfl,rfl⟩ | ⟨_,g3⟩
   ·exact⟨_,hm⟩
   ·exact ok.al i blk' g3 hd'
  ·intro i j c' hi hj
   exact ok.inj i j c' (hlive i hi) (hlive j hj)
  ·intro i c' hc
   rw[hsz];exact ok.lt i c' hc
  ·intro i m blk' hi hmi
   by_cases hd':blk' = .dead
   ·subst hd';trivial
   ·rcases hHb i blk' hi hd' with⟨rfl,rfl⟩ | ⟨hne,g3⟩
    ·have hmi':R.M i=some m:=hmi
     rw[hm] at hmi';cases hmi'
     refine hk _ e hL ⟨i,Zo.2 ⟨blk',?_,hd'⟩,hmi⟩ rfl
     show H'[i]? = some blk'
     exact hi
    ·refine e.blkOK ok.b01 (fun c' hc'=>ho c' fun e'=>hne ?_) (ok.blk i m blk' g3 hmi)
     exact ok.inj i b c (Zo.2 ⟨blk',g3,hd'⟩) lb (by rw[← e',← hc'];exact hmi) hm
 ·intro blk' hi hd'
  rcases hHb b blk' hi hd' with⟨_,h⟩ | ⟨h,_⟩
  ·exact h
  ·exact absurd rfl h
theorem ZT.reuse (ok:R.OK w) {b c:Nat}{old blk:Blk}{cs cs':Array Value}{el:TypeId}{fr:Nat×Nat} (hb:R.H[b]? = some old) (hd:old ≠ .dead) (hm:R.M b=some (some c)) (hn:R.M nid=none)
  (hw:w.heap[c]? = some (.cells cs el fr)) (hw':w'.heap[c]? = some (.cells cs' el fr)) (hs:cs'.size=cs.size) (ho:∀c',c'≠c→w'.heap[c']? = w.heap[c']?) (hsz:w'.heap.size=w.heap.size)
  (h1:w'.os=w.os) (h2:w'.tape=w.tape) (h3:w'.output=w.output) (hp:Z7 R.H [(b,.dead)] nid [blk] H')
  (hk:∀R':RP,Ext R w R' w'→R'.M nid=some (some c)→R'.H[nid]? = some blk→Zfh R' w' (some c) blk∧ZaM R' w' v u):ZT R w nid 1 H' v u w':=by
 have hbn:b≠nid:=fun e=>by rw[e,hn] at hm;cases hm
 have hHn:H'[nid]? = some blk:=by
  have:=hp nid
  rw[this,if_pos (by simp)];simp
 have hHb:∀i blk',H'[i]? = some blk'→blk' ≠ .dead→(i=nid∧blk'=blk)∨(i≠nid∧i≠b∧R.H[i]? = some blk'):=by
  intro i blk' hi hd'
  by_cases hin:i=nid
  ·subst hin
   rw[hHn] at hi;cases hi
   exact .inl ⟨rfl,rfl⟩
  ·have:=hp i
   rw[if_neg (by simp only[List.length_singleton];omega),hi] at this
   simp only[Zc6,Zbn,List.getElem?_set] at this
   split at this
   ·split at this
    ·cases this;exact absurd rfl hd'
    ·cases this
   ·rename_i hne
    exact .inr ⟨hin,fun e=>hne e.symm,this.symm⟩
 have lb:Z1 R.H b=true:=Zo.2 ⟨old,hb,hd⟩
 have e:Ext R w { R with M:=fun i=>if i=nid then some (some c) else R.M i,H:=H' } w':=by
  refine⟨?_,?_,rfl,rfl,?_,?_,by omega,?_,h1,h2,h3⟩
  ·intro i x hx
   have:i≠nid:=fun e=>by rw[e,hn] at hx;cases hx
   simp[this,hx]
  ·intro i x blk' hx hi hd'
   have:i≠nid:=fun e=>by rw[e,hn] at hx;cases hx
   rcases hHb i blk' hi hd' with⟨h,_⟩ | ⟨_,_,g3⟩
   ·exact absurd h this
   ·exact⟨blk',g3,Blk.like_refl hd'⟩
  ·intro c' _ hnl
   exact ho c' fun e=>hnl ⟨b,lb,by rw[e];exact hm⟩
  ·intro c' cs0 el0 fr0 hc'
   by_cases e:c'=c
   ·subst e
    rw[hw] at hc';cases hc'
    exact⟨cs',el,fr,hw',hs⟩
   ·exact⟨cs0,el0,fr0,by rw[ho c' e];exact hc',rfl⟩
  ·rintro c' _ ⟨i,g1,g2⟩
   simp only at g1 g2
   by_cases hin:i=nid
   ·rw[if_pos hin] at g2
    cases g2
    exact⟨b,lb,hm⟩
   ·rw[if_neg hin] at g2
    obtain⟨blk',q1,q2⟩:=Zo.1 g1
    rcases hHb i blk' q1 q2 with⟨h,_⟩ | ⟨_,_,g3⟩
    ·exact absurd h hin
    ·exact⟨i,Zo.2 ⟨blk',g3,q2⟩,g2⟩
 obtain⟨k1,k2⟩:=hk _ e (by simp) hHn
 refine⟨_,e,?_,rfl,k2,fun i h hni=>by
  have:i≠nid:=fun h=>hni (by subst h;simp)
  simp[this,h]⟩
 refine⟨ok.b01,?_,?_,?_,?_,?_,fun c hc=>by rw[hsz];exact ok.bl c hc⟩
 ·intro i blk' hi hd'
  by_cases hin:i=nid
  ·exact⟨some c,by simp[hin]⟩
  ·rcases hHb i blk' hi hd' with⟨h,_⟩ | ⟨_,_,g3⟩
   ·exact absurd h hin
   ·obtain⟨x,hx⟩:=ok.al i blk' g3 hd'
    exact⟨x,by simp[hin,hx]⟩
 ·intro i j c' hi hj g1 g2
  simp only at g1 g2
  have aux:∀j,Z1 H' j=true→j≠nid→R.M j=some (some c)→False:=by
   intro j hj hjn hmj
   obtain⟨blk',q1,q2⟩:=Zo.1 hj
   rcases hHb j blk' q1 q2 with⟨h,_⟩ | ⟨_,hjb,g3⟩
   ·exact hjn h
   ·exact hjb (ok.inj j b c (Zo.2 ⟨blk',g3,q2⟩) lb hmj hm)
  by_cases hin:i=nid<;>by_cases hjn:j=nid
  ·rw[hin,hjn]
  ·rw[if_pos hin] at g1;rw[if_neg hjn] at g2;cases g1
   exact(aux j hj hjn g2).elim
  ·rw[if_neg hin] at g1;rw[if_pos hjn] at g2;cases g2
   exact(aux i hi hin g1).elim
  ·rw[if_neg hin] at g1;rw[if_neg hjn] at g2
   have lv:∀i,Z1 H' i=true→i≠nid→Z1 R.H i=true:=fun i hi hin=>by
    obtain⟨blk',q1,q2⟩:=Zo.1 hi
    rcases hHb i blk' q1 q2 with⟨h,_⟩ | ⟨_,_,g3⟩
    ·exact absurd h hin
    ·exact Zo.2 ⟨blk',g3,q2⟩
   exact ok.inj i j c' (lv i hi hin) (lv j hj hjn) g1 g2
 ·intro i c' hc
  simp only at hc
  rw[hsz]
  by_cases hin:i=nid
  ·rw[if_pos hin] at hc;cases hc;exact ok.lt b c hm
  ·rw[if_neg hin] at hc;exact ok.lt i c' hc
 ·intro i m blk' hi hmi
  simp only at hi hmi
  by_cases hd':blk' = .dead
  ·subst hd';trivial
  ·rcases hHb i blk' hi hd' with⟨rfl,rfl⟩ | ⟨hin,hne,g3⟩
   ·rw[if_pos rfl] at hmi;cases hmi
    exact k1
   ·rw[if_neg hin] at hmi
    refine e.blkOK ok.b01 (fun c' hc'=>ho c' fun e'=>hne ?_) (ok.blk i m blk' g3 hmi)
    exact ok.inj i b c (Zo.2 ⟨blk',g3,hd'⟩) lb (by rw[← e',← hc'];exact hmi) hm
 ·intro i c' hl hc
  simp only at hc
  by_cases hin:i=nid
  ·rw[if_pos hin] at hc;cases hc;exact ok.nb b c lb hm
  ·rw[if_neg hin] at hc
   obtain⟨blk',q1,q2⟩:=Zo.1 hl
   rcases hHb i blk' q1 q2 with⟨h,_⟩ | ⟨_,_,g3⟩
   ·exact absurd h hin
   ·exact ok.nb i c' (Zo.2 ⟨blk',g3,q2⟩) hc
end
theorem ZdK (b:Nat):∀(vs:List Value) (o:Nat) (w:World) (cs:Array Value) (el:TypeId) (fr:Nat×Nat),w.heap[b]? = some (.cells cs el fr) →
  (∃cs':Array Value,cs'.toList=Zac cs.toList o vs∧(w.setCells b o vs).heap[b]? = some (.cells cs' el fr))∧(∀c,c≠b→(w.setCells b o vs).heap[c]? = w.heap[c]?)∧(w.setCells b o vs).heap.size=w.heap.size ∧
   (w.setCells b o vs).os=w.os∧(w.setCells b o vs).tape=w.tape∧(w.setCells b o vs).output=w.output
 | [],o,w,cs,el,fr,h=>⟨⟨cs,rfl,h⟩,fun _ _=>rfl,rfl,rfl,rfl,rfl⟩
 | v :: vs,o,w,cs,el,fr,h=>by
  have hlt:b<w.heap.size:=(Array.getElem?_eq_some_iff.1 h).1
  have hv:w.heap[b] = .cells cs el fr:=(Array.getElem?_eq_some_iff.1 h).2
  have h1:(w.setCell ⟨b,o,none⟩ v).heap[b]? = some (.cells (cs.setIfInBounds o v) el fr):=by
   unfold World.setCell
   rw[Array.getElem?_eq_getElem (by simpa using hlt),Array.getElem_modify]
   simp[hv]
  obtain⟨⟨cs',e1,e2⟩,e3,e4,e5,e6,e7⟩:=ZdK b vs (o+1) (w.setCell ⟨b,o,none⟩ v) _ el fr h1
  refine⟨⟨cs',?_,e2⟩,fun c hc=>?_,by rw[World.setCells,e4];simp,e5,e6,e7⟩
  ·rw[e1,Zac,Zbn];simp
  ·rw[World.setCells,e3 c hc]
   exact heap_setCell_other w _ c v hc
def cellsOf (us:List Value):List Value:=us.flatMap fun u=>u.cells.toList
theorem ZfE (u:Value) (us:List Value):cellsOf (u :: us)=u.cells.toList++cellsOf us:=by simp[cellsOf]
theorem Zlc (us vs:List Value):cellsOf (us++vs)=cellsOf us++cellsOf vs:=by simp[cellsOf]
theorem Zdr {sz:Nat}:∀(us:List Value),(∀u∈us,u.cells.size=sz)→(cellsOf us).length=us.length*sz
 | [],_=>by simp[cellsOf]
 | u :: us,h=>by
  rw[ZfE,List.length_append,Zdr us (fun v hv=>h v (by simp[hv])),Array.length_toList,h u (by simp),List.length_cons,Nat.succ_mul];omega
theorem Zd1 {sz:Nat}:∀(us:List Value),(∀u∈us,u.cells.size=sz)→∀(i k:Nat) (u:Value) (v:Value),us[i]? = some u→u.cells[k]? = some v→(cellsOf us)[i*sz+k]? = some v
 | [],_,i,k,u,v,h,_=>by simp at h
 | u0 :: us,h,0,k,u,v,h1,h2=>by
  simp at h1;subst h1
  have hk:k<u0.cells.size:=(Array.getElem?_eq_some_iff.1 h2).1
  rw[ZfE,Nat.zero_mul,Nat.zero_add,List.getElem?_append_left (by simpa using hk)]
  simpa using h2
 | u0 :: us,h,i+1,k,u,v,h1,h2=>by
  have h0:=h u0 (by simp)
  rw[ZfE,List.getElem?_append_right (by rw[Array.length_toList,h0,Nat.succ_mul];omega),Array.length_toList,h0]
  have:(i+1)*sz+k-sz=i*sz+k:=by rw[Nat.succ_mul];omega
  rw[this]
  exact Zd1 us (fun v hv=>h v (by simp[hv])) i k u v (by simpa using h1) h2
theorem Zjx {sz:Nat}:∀(us:List Value),(∀u∈us,u.cells.size=sz)→∀(j:Nat) (v:Value),(cellsOf us)[j]? = some v→∃i k u,us[i]? = some u∧u.cells[k]? = some v∧j=i*sz+k
 | [],_,j,v,h=>by simp[cellsOf] at h
 | u0 :: us,h,j,v,hj=>by
  have h0:=h u0 (by simp)
  rw[ZfE] at hj
  by_cases hlt:j<sz
  ·rw[List.getElem?_append_left (by rw[Array.length_toList,h0];exact hlt)] at hj
   exact⟨0,j,u0,rfl,by simpa using hj,by omega⟩
  ·rw[List.getElem?_append_right (by rw[Array.length_toList,h0];omega),Array.length_toList,h0] at hj
   obtain⟨i,k,u,e1,e2,e3⟩:=Zjx us (fun v hv=>h v (by simp[hv])) (j-sz) v hj
   exact⟨i+1,k,u,by simpa using e1,e2,by rw[Nat.succ_mul];omega⟩
theorem Ze6 {α β:Type}:∀(ys:List α) (Q:Nat→α→β→Prop),(∀(j:Nat) x,ys[j]? = some x→∃u,Q j x u)→∃us:List β,us.length=ys.length∧∀(j:Nat) x u,ys[j]? = some x→us[j]? = some u→Q j x u
 | [],Q,_=>⟨[],rfl,by simp⟩
 | y :: ys,Q,h=>by
  obtain⟨u,hu⟩:=h 0 y rfl
  obtain⟨us,h1,h2⟩:=Ze6 ys (fun j=>Q (j+1)) (fun j x hj=>h (j+1) x (by simpa using hj))
  refine⟨u :: us,by simp[h1],fun j x v hx hv=>?_⟩
  cases j with
  | zero=>simp at hx hv;subst hx;subst hv;exact hu
  | succ j=>exact h2 j x v (by simpa using hx) (by simpa using hv)
end Go.Proofs.YtnpidpcmpleiaaaDoorE
namespace Go.Proofs.YtnpidpcmpleiaaaDoorE
open Go
set_option linter.unusedVariables false
set_option linter.unusedSimpArgs false
section
variable {A1 A0 AL:Nat→Prop} {w:World}
theorem Zpj {y:D}{v:Value} (he:y.esc=true) (ha:y.isAgg=false) (h:ZaR A1 A0 AL w y v):v.oneCell'=true:=by
 cases y with
 | agg cs=>cases ha
 | tup cs=>cases he
 | rptr cs=>cases he
 | bool b=>cases h;rfl
 | int k n=>cases h;rfl
 | str s=>cases h;rfl
 | nilfn=>cases h;rfl
 | nilp=>cases h;rfl
 | nilI=>cases h;rfl
 | list own xs=>obtain⟨ad,len,cap,rfl,_⟩:=h;rfl
 | fn f caps=>obtain⟨us,rfl,_⟩:=h;unfold ZgK;cases isU f<;>rfl
 | iface t v=>obtain⟨u',rfl,_⟩:=h;rfl
theorem ZnH:∀(cs:List D) (us:List Value),D.escs cs=true→ZaD A1 A0 AL w cs us→∀v∈us,v.oneCell'=true
 | [],us,_,h,v,hv=>by simp only[ZaD] at h;subst h;cases hv
 | c :: cs,us,he,h,v,hv=>by
  obtain⟨u,us',rfl,h1,h2⟩:=h
  simp only[D.escs,Bool.and_eq_true,Bool.not_eq_true'] at he
  rcases List.mem_cons.1 hv with rfl | hv
  ·exact Zpj he.1 he.2.1 h1
  ·exact ZnH cs us' he.2.2 h2 v hv
theorem ZlX {y:D}{v:Value} (he:y.esc=true) (h:ZaR A1 A0 AL w y v):∀c∈v.cells.toList,c.oneCell'=true:=by
 cases ha:y.isAgg with
 | true=>
  cases y<;>try (cases ha;done)
  obtain⟨us,rfl,h1⟩:=h
  simpa [Value.cells] using ZnH _ us he h1
 | false=>
  have h1:=Zpj he ha h
  intro c hc
  cases v<;>first
   | (cases h1;done)
   | (simp only[Value.cells] at hc;simp at hc;rw[hc];exact h1)
theorem Zjy {R:RP}{y:D}{v:Value} (he:(V.d y).okb=true) (h:R.den w y v):v.cells.size=y.cells.length:=by
 have h1:=Zda _ _ (ZeY (R:=R) (v:=.d y) h he)
 have hVc:(V.d y).cells=Zcf y.cells:=by cases y<;>rfl
 rw[hVc,ZgT,List.length_map] at h1
 simpa using h1
end
section
variable {P:Program} {G:Za9} {R:RP} {w:World} {e:Env} {a:Act} {Hm H':Zi} {nid:Nat} {o:Oper}
theorem Zpu {R':RP}{w':World}{c:Nat}{el:TypeId}{vs:List V}{us:Array Value} (hc:w'.heap[c]? = some (.cells us el (0,0))) (h:Zat R' w' vs us.toList):Zfh R' w' (some c) (.cells vs):=by
 have hl:=Zda _ _ h
 refine⟨c,us,el,(0,0),rfl,hc,Nat.le_refl _,by simp at hl;omega,fun k v hk=>?_⟩
 obtain⟨u,e1,e2⟩:=ZdW _ _ k v h hk
 exact⟨u,by simpa using e1,e2⟩
theorem ZjA (w:World) (ob:Obj):(w.alloc ob).heap[w.heap.size]? = some ob:=by
 show(w.heap.push ob)[w.heap.size]? = some ob
 simp
theorem Zn2 (pre:Pre G R w e a Hm) {z:V}{u:Value}{t:TypeId} (hz:z.okb=true) (hu:ZaM R w z u) (hn:R.M nid=none) (hp:Z7 R.H [] nid [.cells z.cells] H') :
  ZT R w nid 1 H' (.ptr nid 0) (.pointer (some ⟨w.heap.size,0,none⟩)) (w.alloc (.cells u.cells t)):=by
 refine ZT.new (m:=some w.heap.size) _ pre.ok hp hn (.inr rfl) fun R' hx hM hH=>⟨?_,fun _=>?_⟩
 ·exact Zpu (ZjA w _) (hx.denVs pre.ok.b01 _ _ (ZeY hu hz))
 ·exact⟨_,hM,rfl⟩
theorem Zso (pre:Pre G R w e a Hm) {t:TypeId}{z:V}{zv:Value} (hop:o.op = .alloc t) (hz:Zg1 P t=some zv) (hc:cv z zv=true) (hb:z.okb=true) (hn:R.M nid=none) (hp:Z7 R.H [] nid [.cells z.cells] H') :
  Zcx P o a w (ZT R w nid 1 H' (.ptr nid 0)):=by
 unfold Zg1 at hz
 cases hi:P.info? t with
 | none=>rw[hi] at hz;cases hz
 | some i=>
  rw[hi] at hz
  refine Zbz (s:=Instr.alloc t true (.tuple #[])) (u:=.pointer (some ⟨w.heap.size,0,none⟩)) (w':=w.alloc (.cells zv.cells t)) (by unfold execOp;rw[hop]) ?_ (Zn2 pre hb (Zml z zv hc) hn hp)
  simp[Instr.alloc,zeroValue,typeInfo,hi,hz,newVar,newRow]
theorem ZuZ (pre:Pre G R w e a Hm) {t:TypeId}{x:Operand}{y:Opd} (hop:o.op = .box t x) (hx:ZG G x y=true) (hb:(y.val e).okb=true) (hn:R.M nid=none) (hp:Z7 R.H [] nid [.cells (y.val e).cells] H') :
  Zcx P o a w (ZT R w nid 1 H' (.ptr nid 0)):=
 Zbz (s:=Instr.box t (a.eval x)) (u:=.pointer (some ⟨w.heap.size,0,none⟩)) (w':=w.alloc (.cells (a.eval x).cells t)) (by unfold execOp;rw[hop]) (by simp[Instr.box,newVar,newRow]) (Zn2 pre hb (pre.opd hx) hn hp)
theorem ZnQ:∀(vs:List V) (us:List Value),ZmB vs=true→Zat R w vs us→∀u∈us,u.oneCell'=true
 | [],us,_,h,u,hu=>by simp only[Zat] at h;subst h;cases hu
 | v :: vs,us,hf,h,u,hu=>by
  obtain⟨u0,us',rfl,h1,h2⟩:=h
  simp only[ZmB,Bool.and_eq_true] at hf
  rcases List.mem_cons.1 hu with rfl | hu
  ·cases v with
   | bad=>cases hf.1
   | tup cs=>cases hf.1
   | agg cs=>cases hf.1
   | d x=>
    cases x with
    | agg cs=>cases hf.1
    | tup cs=>cases hf.1
    | bool b=>cases h1;rfl
    | int k n=>cases h1;rfl
    | str s=>cases h1;rfl
    | nilfn=>cases h1;rfl
    | nilp=>cases h1;rfl
    | nilI=>cases h1;rfl
    | rptr cs=>obtain⟨b,off,rfl,_⟩:=h1;rfl
    | list own xs=>obtain⟨ad,len,cap,rfl,_⟩:=h1;rfl
    | fn f caps=>obtain⟨us,rfl,_⟩:=h1;unfold ZgK;cases isU f<;>rfl
    | iface t v=>obtain⟨u',rfl,_⟩:=h1;rfl
   | ptr b o=>obtain⟨c,_,rfl⟩:=h1;rfl
   | eptr b sz i k=>obtain⟨c,_,rfl⟩:=h1;rfl
   | sl b sz=>obtain⟨⟨a,n,c,rfl⟩,_⟩:=h1;rfl
   | slp b sz o l=>obtain⟨⟨a,n,c,rfl⟩,_⟩:=h1;rfl
   | nilsl sz=>obtain⟨a,rfl⟩:=h1;rfl
   | fn f caps=>obtain⟨us,rfl,_⟩:=h1;unfold ZgK;cases isU f<;>rfl
   | mp b=>obtain⟨⟨a,rfl⟩,_⟩:=h1;rfl
  ·exact ZnQ vs us' hf.2 h2 u hu
structure Els (R:RP) (w:World) (sz:Nat) (xs:List D) (us:List Value):Prop where
 len:us.length=xs.length
 den:∀(j:Nat) x u,xs[j]? = some x→us[j]? = some u→R.den w x u
 size:∀u∈us,u.cells.size=sz
 esc:∀x∈xs,x.esc=true
theorem Els.one {sz:Nat}{xs:List D}{us:List Value} (h:Els R w sz xs us):∀c∈cellsOf us,c.oneCell'=true:=by
 intro c hc
 simp only[cellsOf,List.mem_flatMap] at hc
 obtain⟨u,hu,hc⟩:=hc
 obtain⟨j,hj⟩:=List.mem_iff_getElem?.1 hu
 have hlt:j<xs.length:=by rw[← h.len];exact(List.getElem?_eq_some_iff.1 hj).1
 exact ZlX (h.esc _ (List.getElem_mem hlt)) (h.den j _ u (List.getElem?_eq_getElem hlt) hj) c hc
theorem Els.append {sz:Nat}{xs ys:List D}{us vs:List Value} (h:Els R w sz xs us) (k:Els R w sz ys vs):Els R w sz (xs++ys) (us++vs) where
 len:=by simp[h.len,k.len]
 den:=fun j x u hx hu=>by
  by_cases hj:j<xs.length
  ·rw[List.getElem?_append_left hj] at hx
   rw[List.getElem?_append_left (by rw[h.len];exact hj)] at hu
   exact h.den j x u hx hu
  ·rw[List.getElem?_append_right (by omega)] at hx
   rw[List.getElem?_append_right (by rw[h.len];omega),h.len] at hu
   exact k.den _ x u hx hu
 size:=fun u hu=>by
  rcases List.mem_append.1 hu with hu | hu
  ·exact h.size u hu
  ·exact k.size u hu
 esc:=fun x hx=>by
  rcases List.mem_append.1 hx with hx | hx
  ·exact h.esc x hx
  ·exact k.esc x hx
theorem Els.ext {R':RP}{w':World}{sz:Nat}{xs:List D}{us:List Value} (x:Ext R w R' w') (hb:∀c,R.B0 c→R.B1 c) (h:Els R w sz xs us):Els R' w' sz xs us:=
 ⟨h.len,fun j y u hy hu=>x.den hb (h.den j y u hy hu),h.size,h.esc⟩
theorem Els.blk {R':RP}{w':World}{sz c:Nat}{el:TypeId}{xs:List D}{us:List Value}{cs:Array Value} (h:Els R' w' sz xs us) (h0:0<sz) (hc:w'.heap[c]? = some (.cells cs el (0,0)))
  (hcs:∀(j:Nat) v,(cellsOf us)[j]? = some v→cs[j]? = some v):Zfh R' w' (some c) (.arr sz xs):=by
 refine⟨h0,h.esc,.inr ⟨c,cs,el,rfl,hc,?_,fun j x hx=>?_⟩⟩
 ·rw[← h.len,← Zdr us h.size]
  rcases Nat.eq_zero_or_pos (cellsOf us).length with hz | hz
  ·omega
  ·have:=hcs ((cellsOf us).length-1) _ (List.getElem?_eq_getElem (by omega))
   have:=(Array.getElem?_eq_some_iff.1 this).1
   omega
 ·have hlt:j<us.length:=by rw[h.len];exact(List.getElem?_eq_some_iff.1 hx).1
  have hu:=List.getElem?_eq_getElem hlt
  exact⟨us[j],h.den j x _ hx hu,h.size _ (List.getElem_mem hlt),fun k v hk=>hcs _ v (Zd1 us h.size j k _ v hu hk)⟩
theorem Zlv {c sz:Nat}{xs:List D} (h:Zfh R w (some c) (.arr sz xs)):∃us cs el,Els R w sz xs us∧w.heap[c]? = some (.cells cs el (0,0))∧∀(j:Nat) v,(cellsOf us)[j]? = some v→cs[j]? = some v:=by
 obtain⟨h0,h1,h2⟩:=h
 rcases h2 with⟨h2,_⟩ | ⟨c',cs,el,e1,e2,e3,e4⟩
 ·cases h2
 ·cases e1
  obtain⟨us,f1,f2⟩:=Ze6 xs (fun j x u=>R.den w x u∧u.cells.size=sz∧∀(k:Nat) v,u.cells[k]? = some v→cs[j*sz+k]? = some v) e4
  have hs:∀u∈us,u.cells.size=sz:=fun u hu=>by
   obtain⟨j,hj⟩:=List.mem_iff_getElem?.1 hu
   have hlt:j<xs.length:=by rw[← f1];exact(List.getElem?_eq_some_iff.1 hj).1
   exact(f2 j _ u (List.getElem?_eq_getElem hlt) hj).2.1
  refine⟨us,cs,el,⟨f1,fun j x u hx hu=>(f2 j x u hx hu).1,hs,h1⟩,e2,fun j v hv=>?_⟩
  obtain⟨i,k,u,g1,g2,rfl⟩:=Zjx us hs j v hv
  have hlt:i<xs.length:=by rw[← f1];exact(List.getElem?_eq_some_iff.1 g1).1
  exact(f2 i _ u (List.getElem?_eq_getElem hlt) g1).2.2 k v g2
theorem Zra (pre:Pre G R w e a Hm) {y:V}{ys:List D}{u:Value}{sz:Nat} (h:elems Hm y=some ys) (hs:Zhu sz ys 0=true) (hu:ZaM R w y u) :
  ∃us ad cap,u = .slice ad ys.length cap∧ys.length≤cap∧Els R w sz ys us∧(ys≠[]→∃b off,ad=some ⟨b,off,none⟩∧∀(j:Nat) v,(cellsOf us)[j]? = some v→w.cell? ⟨b,off+j,none⟩=some v):=by
 have fin:∀{ad:Option Addr} {cap:Nat},u = .slice ad ys.length cap→ys.length≤cap→(∀x∈ys,x.esc=true)→(ys≠[]→∃b off sz',ad=some ⟨b,off,none⟩∧∀(j:Nat) x,ys[j]? = some x→∃u,R.den w x u∧u.cells.size=sz'∧∀(k:Nat) v,u.cells[k]? = some v→w.cell? ⟨b,off+j*sz'+k,none⟩=some v) →
   ∃us ad cap,u = .slice ad ys.length cap∧ys.length≤cap∧Els R w sz ys us∧(ys≠[]→∃b off,ad=some ⟨b,off,none⟩∧∀(j:Nat) v,(cellsOf us)[j]? = some v→w.cell? ⟨b,off+j,none⟩=some v):=by
  intro ad cap h1 h2 h3 h4
  cases ys with
  | nil=>exact⟨[],ad,cap,h1,h2,⟨rfl,by simp,by simp,by simp⟩,fun h=>absurd rfl h⟩
  | cons y0 ys0=>
   obtain⟨b,off,sz',e1,e2⟩:=h4 (by simp)
   have hsz:sz'=sz:=by
    simp only[Zhu,nth,Bool.and_eq_true] at hs
    obtain⟨u0,f1,f2,_⟩:=e2 0 y0 rfl
    rw[← f2,Zjy hs.2 f1]
    exact Nat.eq_of_beq_eq_true hs.1
   subst hsz
   obtain⟨us,f1,f2⟩:=Ze6 (y0 :: ys0) (fun j x u=>R.den w x u∧u.cells.size=sz'∧∀(k:Nat) v,u.cells[k]? = some v→w.cell? ⟨b,off+j*sz'+k,none⟩=some v) e2
   have hss:∀u∈us,u.cells.size=sz':=fun u hu=>by
    obtain⟨j,hj⟩:=List.mem_iff_getElem?.1 hu
    have hlt:j<(y0 :: ys0).length:=by rw[← f1];exact(List.getElem?_eq_some_iff.1 hj).1
    exact(f2 j _ u (List.getElem?_eq_getElem hlt) hj).2.1
   refine⟨us,ad,cap,h1,h2,⟨f1,fun j x u hx hu=>(f2 j x u hx hu).1,hss,h3⟩,fun _=>⟨b,off,e1,fun j v hv=>?_⟩⟩
   obtain⟨i,k,u,g1,g2,rfl⟩:=Zjx us hss j v hv
   have hlt:i<(y0 :: ys0).length:=by rw[← f1];exact(List.getElem?_eq_some_iff.1 g1).1
   rw[← Nat.add_assoc]
   exact(f2 i _ u (List.getElem?_eq_getElem hlt) g1).2.2 k v g2
 unfold elems at h
 split at h
 ·rename_i own xs'
  simp only[Option.some.injEq] at h
  subst h
  obtain⟨ad,len,cap,e1,rfl,e3,e4,e5⟩:=hu
  refine fin e1 e3 e4 fun hne=>?_
  obtain⟨b,off,sz',f1,f2,f3,f4⟩:=e5 hne
  refine⟨b,off,sz',f1,fun j x hx=>?_⟩
  obtain⟨u,g1,g2,g3⟩:=Zgv xs' off j x f4 hx
  refine⟨u,?_,g2,g3⟩
  cases own
  ·exact g1
  ·exact g1
 ·rename_i b sz0
  cases hb:nth Hm b with
  | none=>rw[hb] at h;cases h
  | some blk=>
   rw[hb] at h
   cases blk<;>try (cases h;done)
   rename_i sz' xs'
   dsimp only at h
   cases hs':Nat.beq sz0 sz' with
   | false=>rw[hs'] at h;cases h
   | true=>
    rw[hs'] at h
    simp only[cond_true,Option.some.injEq] at h
    subst h
    obtain rfl:=Nat.eq_of_beq_eq_true hs'
    obtain⟨m,q1,q2,q3,q4⟩:=ZiG pre hb hu
    have q5:=q4
    obtain⟨_,ad,cap,e1,q6,q7⟩:=q5
    refine fin e1 q6 q3.2.1 fun hne=>?_
    obtain⟨c,cs,el,fr',cap',rfl,e2,e3,e4,e5⟩:=ZdM q4 (.inl (List.length_pos_iff.2 hne))
    rw[e1] at e2;cases e2
    refine⟨c,0*sz0,sz0,rfl,fun j x hx=>?_⟩
    obtain⟨_,_,q3⟩:=q3
    rcases q3 with⟨q3,_⟩ | ⟨c',cs',el',r1,r2,r3,r4⟩
    ·cases q3
    ·cases r1
     obtain⟨u,s1,s2,s3⟩:=r4 j x hx
     exact⟨u,s1,s2,fun k v hk=>by rw[Zb3 r2,Nat.zero_mul,Nat.zero_add];exact s3 k v hk⟩
 ·rename_i b sz0 of len
  cases hb:nth Hm b with
  | none=>rw[hb] at h;cases h
  | some blk=>
   rw[hb] at h
   cases blk<;>try (cases h;done)
   rename_i sz' xs'
   dsimp only at h
   cases hs':Nat.beq sz0 sz' with
   | false=>rw[hs'] at h;cases h
   | true=>
    rw[hs'] at h
    simp only[cond_true,Option.some.injEq] at h
    subst h
    obtain rfl:=Nat.eq_of_beq_eq_true hs'
    obtain⟨m,q1,q2,q3,q4⟩:=Zhc pre hb hu
    have q5:=q4
    obtain⟨q8,ad,cap,e1,q6,q7⟩:=q5
    have hlen:((xs'.drop of).take len).length=len:=by simp only[List.length_take,List.length_drop];omega
    refine fin (by rw[hlen];exact e1) (by rw[hlen];exact q6) (fun x hx=>q3.2.1 x (List.mem_of_mem_drop (List.mem_of_mem_take hx))) fun hne=>?_
    obtain⟨c,cs,el,fr',cap',rfl,e2,e3,e4,e5⟩:=ZdM q4 (.inl (by rw[← hlen];exact List.length_pos_iff.2 hne))
    rw[e1] at e2;cases e2
    refine⟨c,of*sz0,sz0,rfl,fun j x hx=>?_⟩
    obtain⟨_,_,q3⟩:=q3
    rcases q3 with⟨q3,_⟩ | ⟨c',cs',el',r1,r2,r3,r4⟩
    ·cases q3
    ·cases r1
     have hj:j<len:=by rw[← hlen];exact(List.getElem?_eq_some_iff.1 hx).1
     rw[List.getElem?_take,if_pos hj,List.getElem?_drop] at hx
     obtain⟨u,s1,s2,s3⟩:=r4 (of+j) x hx
     exact⟨u,s1,s2,fun k v hk=>by rw[Zb3 r2,← s3 k v hk,Nat.add_mul]⟩
 ·simp only[Option.some.injEq] at h
  subst h
  obtain⟨ad,rfl⟩:=hu
  exact fin rfl (Nat.le_refl _) (by simp) (fun h=>absurd rfl h)
 ·cases h
end
end Go.Proofs.YtnpidpcmpleiaaaDoorE
