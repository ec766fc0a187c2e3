/- ClassShapes: part 1 of 7 of the proof. -/
import Derived.Calls
import Derived.Orders
import Derived.Test.YtnpidpcmpleiaaaGreatDoorProg
import Derived.Below
import Derived.WalkKit
import Derived.Laws.MakeOwn
set_option maxRecDepth 100000
set_option maxHeartbeats 40000000
set_option linter.unusedVariables false
set_option linter.unusedSimpArgs false
namespace Go.Proofs.YtnpidpcmpleiaaaGreatDoorE
open Go
open Go.IntKind (u64 i64 u32 i32 u8)
abbrev Zi (n:Int):BitVec u64.bits:=BitVec.ofInt u64.bits n
abbrev ZDe (n:Int):BitVec i64.bits:=BitVec.ofInt i64.bits n
abbrev ZJu (n:Int):BitVec u32.bits:=BitVec.ofInt u32.bits n
abbrev ZJv (n:Int):BitVec i32.bits:=BitVec.ofInt i32.bits n
inductive D where
 | bool (b:Bool) | int (k:IntKind) (n:Int) | str (s:ByteArray)
 | list (own:Bool) (xs:List D) | agg (cs:List D) | tup (vs:List D)
 | fn (f:Nat) (caps:List D) | nilfn
 | rptr (cs:List D) | nilp
 | iface (t:Nat) (v:D) | nilI
inductive V where
 | d (x:D) | bad
 | ptr (b o:Nat) | eptr (b sz i k:Nat)
 | sl (b sz:Nat) | slp (b sz o len:Nat) | nilsl (sz:Nat)
 | agg (cs:List V) | tup (vs:List V)
 | fn (f:Nat) (caps:List V)
 | mp (b:Nat)
inductive Blk where
 | dead | cells (cs:List V) | arr (sz:Nat) (xs:List D)
 | mp (es:List (D×D))
abbrev Zs:=List Blk
abbrev Env:=Nat→V
def Env.set (e:Env) (i:Nat) (v:V):Env:=fun j=>bif Nat.beq i j then v else e j
def env0:Env:=fun _=>.bad
def Zgc:List Nat→List V→Env
 | i :: is,v :: vs=>(Zgc is vs).set i v
 | _,_=>env0
def D.isAgg:D→Bool
 | .agg _=>true
 | _=>false
mutual
def D.esc:D→Bool
 | .list own _=>own
 | .agg cs=>D.escs cs
 | .tup _=>false
 | .iface _ v=>v.esc
 | .fn _ caps=>caps.isEmpty
 | .rptr _=>false
 | _=>true
def D.escs:List D→Bool
 | []=>true
 | c :: cs=>c.esc&&(!c.isAgg&&D.escs cs)
end
def Zw9:List D→Bool
 | []=>true
 | c :: cs=>c.esc&&Zw9 cs
mutual
def D.nofn:D→Bool
 | .fn _ caps=>caps.isEmpty
 | .agg cs=>D.nofns cs
 | .tup cs=>D.nofns cs
 | .rptr cs=>D.nofns cs
 | .iface _ v=>v.nofn
 | _=>true
def D.nofns:List D→Bool
 | []=>true
 | c :: cs=>c.nofn&&D.nofns cs
end
mutual
def Ztn:V→Bool
 | .d (.tup ts)=>Zw9 ts
 | .d x=>x.esc
 | .agg cs=>Zru cs
 | .tup cs=>Zru cs
 | .fn _ cs=>Zru cs
 | _=>true
def Zru:List V→Bool
 | []=>true
 | v :: vs=>Ztn v&&Zru vs
end
mutual
def ZoH:V→Bool
 | .d x=>x.nofn
 | .agg cs=>ZnO cs
 | .tup cs=>ZnO cs
 | .fn _ cs=>ZnO cs
 | _=>true
def ZnO:List V→Bool
 | []=>true
 | v :: vs=>ZoH v&&ZnO vs
end
def ZoO:List Blk→Bool
 | []=>true
 | .cells cs :: r=>Zru cs&&ZoO r
 | _ :: r=>ZoO r
def ZlF:List Blk→Bool
 | []=>true
 | .cells cs :: r=>ZnO cs&&ZlF r
 | _ :: r=>ZlF r
def V.isAggV:V→Bool
 | .d (.agg _)=>true
 | .agg _=>true
 | _=>false
def V.isD:V→Bool
 | .d _=>true
 | _=>false
def D.cells:D→List D
 | .agg cs=>cs
 | x=>[x]
inductive Opd where
 | t (i:Nat) | c (v:V)
inductive O where
 | mov (x:Opd)
 | pick (c a b:Opd)
 | alloc (z:V)
 | box (x:Opd)
 | build (z:List V) (ps:List (Nat×Nat×Opd))
 | bslice (sz:Nat) (z:List D) (len:Nat) (ps:List (Nat×Opd))
 | load (n:Nat) (ag:Bool) (x:Opd)
 | store (n:Nat) (x v:Opd)
 | nilck (x:Opd)
 | bin (op:BinOp) (x y:Opd)
 | eqv (ks:List Bool) (neg:Bool) (x y:Opd)
 | un (op:UnOp) (x:Opd)
 | conv (k:IntKind) (x:Opd)
 | mkfn (f:Nat) (caps:List Opd)
 | mkslice (sz:Nat) (z:List D) (n c:Opd)
 | slice (sz:Nat) (x:Opd) (lo hi mx:Option Opd)
 | faddr (off:Nat) (x:Opd)
 | field (off n:Nat) (ag:Bool) (x:Opd)
 | iaddr (sz:Nat) (x i:Opd)
 | index (len sz:Nat) (ag:Bool) (x i:Opd)
 | indexS (x i:Opd)
 | iaddrA (len sz:Nat) (x i:Opd)
 | len (x:Opd)
 | append (sz:Nat) (x y:Opd)
 | appendD (sz:Nat) (x y:Opd)
 | mx (isMax:Bool) (xs:List Opd)
 | extract (x:Opd) (i:Nat)
 | mkif (t:Nat) (x:Opd)
 | call (f:Nat) (args:List Opd)
 | callv (x:Opd) (args:List Opd)
 | invoke (tab:List (Nat×Nat)) (x:Opd) (args:List Opd)
 | mkmap
 | mapset (ks:List Bool) (m k v:Opd)
 | mapget (ks:List Bool) (z:D) (m k:Opd)
 | panic
 | callk (f:Nat) (args:List Opd) (chk:List Opd)
 | nilq (x:Opd)
 | spec (id:Nat) (args:List Opd)
 | storek (n:Nat) (x v:Opd) (chk:List Opd)
structure Op1 where
 dst:Option Nat
 op:O
 guard:Option (Nat×Bool)
 mask:List Nat
 eff:Nat
inductive C where
 | skip | ret | exit (id:Nat)
 | seq (a b:C)
 | cond (x:Opd) (a b:C)
 | block (id:Nat) (a:C)
 | loop (live outs:List Nat) (a:C)
 | ops (l:List Op1)
 | draw (l:List Op1)
inductive Ex where
 | normal | exit (id:Nat) | ret
structure FnI where
 nargs:Nat
 body:C
 res:List (Nat×Option (Nat×Bool))
structure Ctx where
 code:Nat→Option FnI
 mode:Nat→Nat
abbrev oA (op:O):Op1:=⟨none,op,none,[],0⟩
abbrev oB (d:Nat) (op:O):Op1:=⟨some d,op,none,[],0⟩
abbrev oG (d:Nat) (op:O) (s:Nat) (b:Bool):Op1:=⟨some d,op,some (s,b),[],0⟩
abbrev oM (d:Nat) (op:O) (m:List Nat):Op1:=⟨some d,op,none,m,0⟩
abbrev iN (n:Int):Opd:=.c (.d (.int .i64 n))
abbrev bT:Opd:=.c (.d (.bool true))
abbrev bF:Opd:=.c (.d (.bool false))
def Opd.val (e:Env):Opd→V
 | .t i=>e i
 | .c v=>v
def Zhl (e:Env):List Opd→List V
 | []=>[]
 | x :: xs=>x.val e :: Zhl e xs
def ZnC:List V→Option (List D)
 | []=>some []
 | .d x :: r=>match ZnC r with | some l=>some (x :: l) | none=>none
 | _ :: _=>none
def ZvI (cs:List V):V:=match ZnC cs with | some l=>.d (.agg l) | none=>.agg cs
def Zxz (cs:List V):V:=match ZnC cs with | some l=>.d (.tup l) | none=>.tup cs
def Zd1:List D→List V
 | []=>[]
 | x :: xs=>.d x :: Zd1 xs
def V.cells:V→List V
 | .d (.agg cs)=>Zd1 cs
 | .agg cs=>cs
 | v=>[v]
def nth {α:Type}:List α→Nat→Option α
 | [],_=>none
 | x :: _,0=>some x
 | _ :: xs,n+1=>nth xs n
def Zhv {α:Type}:List α→Nat→α→List α
 | [],_,_=>[]
 | _ :: xs,0,v=>v :: xs
 | x :: xs,n+1,v=>x :: Zhv xs n v
def Zbf {α:Type}:List α→Nat→List α→List α
 | cs,_,[]=>cs
 | cs,o,v :: vs=>Zbf (Zhv cs o v) (o+1) vs
def fzl (f:V→Option D):List V→Option (List D)
 | []=>some []
 | v :: vs=>match f v,fzl f vs with | some x,some l=>some (x :: l) | _,_=>none
def fz (H:Zs):Nat→V→Option D
 | 0,_=>none
 | n+1,v=>match v with
  | .d x=>some x
  | .sl b sz=>match nth H b with
   | some (.arr sz' xs)=>bif Nat.beq sz sz' then some (.list false xs) else none
   | _=>none
  | .slp b sz o len=>match nth H b with
   | some (.arr sz' xs)=>bif Nat.beq sz sz' then some (.list false ((xs.drop o).take len)) else none
   | _=>none
  | .nilsl _=>some (.list true [])
  | .agg cs=>match fzl (fz H n) cs with | some l=>some (.agg l) | none=>none
  | .fn f caps=>match fzl (fz H n) caps with | some l=>some (.fn f l) | none=>none
  | .ptr b o=>match nth H b with
   | some (.cells cs)=>match fzl (fz H n) (cs.drop o) with | some l=>some (.rptr l) | none=>none
   | _=>none
  | _=>none
def fzs (H:Zs) (l:List V):Option (List D):=fzl (fz H 6) l
def frl (f:V→Option (D×List Nat)):List V→Option (List D×List Nat)
 | []=>some ([],[])
 | v :: vs=>match f v,frl f vs with | some (x,k),some (l,ks)=>some (x :: l,k++ks) | _,_=>none
def fr (H:Zs):Nat→V→Option (D×List Nat)
 | 0,_=>none
 | n+1,v=>match v with
  | .d x=>match x with
   | .tup ts=>bif Zw9 ts then some (.tup ts,[]) else none
   | x=>bif x.esc then some (x,[]) else none
  | .sl b sz=>match nth H b with
   | some (.arr sz' xs)=>bif Nat.beq sz sz' then some (.list true xs,[b]) else none
   | _=>none
  | .slp b sz o len=>match nth H b with
   | some (.arr sz' xs)=>bif Nat.beq sz sz' then some (.list true ((xs.drop o).take len),[b]) else none
   | _=>none
  | .nilsl _=>some (.list true [],[])
  | .agg cs=>match frl (fr H n) cs with | some (l,ks)=>bif D.escs l then some (.agg l,ks) else none | none=>none
  | .tup cs=>match frl (fr H n) cs with | some (l,ks)=>some (.tup l,ks) | none=>none
  | _=>none
def idx:List Nat→Nat→Nat→Option Nat
 | [],_,_=>none
 | a :: l,b,i=>bif Nat.beq a b then some i else idx l b (i+1)
mutual
def ZpT (ρ:Nat→Option Nat):V→V
 | .d x=>.d x
 | .bad=>.bad
 | .ptr b o=>match ρ b with | some j=>.ptr j o | none=>.bad
 | .eptr b sz i k=>match ρ b with | some j=>.eptr j sz i k | none=>.bad
 | .sl b sz=>match ρ b with | some j=>.sl j sz | none=>.bad
 | .slp b sz o len=>match ρ b with | some j=>.slp j sz o len | none=>.bad
 | .nilsl sz=>.nilsl sz
 | .agg cs=>.agg (Zky ρ cs)
 | .tup cs=>.tup (Zky ρ cs)
 | .fn f caps=>.fn f (Zky ρ caps)
 | .mp b=>match ρ b with | some j=>.mp j | none=>.bad
def Zky (ρ:Nat→Option Nat):List V→List V
 | []=>[]
 | v :: vs=>ZpT ρ v :: Zky ρ vs
end
def Zka (ρ:Nat→Option Nat):Blk→Blk
 | .cells cs=>.cells (Zky ρ cs)
 | b=>b
mutual
def ZGu:V→List Nat
 | .ptr b _=>[b]
 | .eptr b _ _ _=>[b]
 | .sl b _=>[b]
 | .slp b _ _ _=>[b]
 | .mp b=>[b]
 | .agg cs=>Zks cs
 | .tup cs=>Zks cs
 | .fn _ caps=>Zks caps
 | _=>[]
def Zks:List V→List Nat
 | []=>[]
 | v :: vs=>ZGu v++Zks vs
end
def ZxS (H:Zs) (b:Nat):List Nat:=match nth H b with | some (.cells cs)=>Zks cs | _=>[]
def ZaY (H:Zs) (b:Nat):Bool:=match nth H b with | some .dead=>false | some _=>true | none=>false
def Zj4 (l:List Nat) (b:Nat):Bool:=match l with | []=>false | a :: l=>bif Nat.beq a b then true else Zj4 l b
def Ziw (H:Zs):List Nat→List Nat→List Nat
 | l,[]=>l
 | l,b :: bs=>bif Zj4 l b || !(ZaY H b) then Ziw H l bs else Ziw H (l++[b]) bs
def ZnQ (H:Zs):Nat→Nat→List Nat→List Nat
 | 0,_,l=>l
 | n+1,i,l=>match nth l i with
  | some b=>ZnQ H n (i+1) (Ziw H l (ZxS H b))
  | none=>l
def ZpE:Nat→List Nat
 | 0=>[]
 | n+1=>ZpE n++[n]
def ZpV (H:Zs) (k:Nat) (vs:List V):List Nat:=
 ZnQ H (H.length+1) 0 (Ziw H (ZpE k) (Zks vs))
def Zpz:List Nat→Bool
 | []=>true
 | a :: l=>!(Zj4 l a)&&Zpz l
def pick (H:Zs) (ρ:Nat→Option Nat):List Nat→Zs
 | []=>[]
 | b :: bs=>(match nth H b with | some blk=>Zka ρ blk | none=>.dead) :: pick H ρ bs
def Ztk (n:Nat):List Nat→Bool
 | []=>true
 | a :: l=>Nat.blt a n&&Ztk n l
def extract (k:Nat) (vs:List V) (H:Zs):Option (List Nat×List V×Zs):=
 let L:=ZpV H k vs
 bif Zpz L&&Ztk H.length L then some (L,Zky (fun b=>idx L b 0) vs,pick H (fun b=>idx L b 0) L) else none
def Zdb:Nat→List V→List V×List Blk
 | _,[]=>([],[])
 | n,.nilsl sz :: vs=>bif Nat.blt 0 sz then (let r:=Zdb (n+1) vs;(.sl n sz :: r.1,.arr sz [] :: r.2)) else (let r:=Zdb n vs;(.nilsl sz :: r.1,r.2))
 | n,v :: vs=>let r:=Zdb n vs;(v :: r.1,r.2)
def Zd0:Nat→Zs→Zs×List Blk
 | _,[]=>([],[])
 | n,.cells cs :: H=>let r:=Zdb n cs;let q:=Zd0 (n+r.2.length) H;(.cells r.1 :: q.1,r.2++q.2)
 | n,b :: H=>let q:=Zd0 n H;(b :: q.1,q.2)
def Zrz (k:Nat) (vs:List V) (H:Zs):Option (List V×Zs):=
 match extract k vs H with
 | none=>none
 | some (_,vs1,H1)=>
  let r:=Zdb H1.length vs1
  let q:=Zd0 (H1.length+r.2.length) H1
  match extract k r.1 (q.1++(r.2++q.2)) with
  | none=>none
  | some (_,vs2,H2)=>some (vs2,H2)
mutual
def eqD:D→D→Option Bool
 | .bool a,.bool b=>some (a==b)
 | .int k a,.int k' b=>bif k==k' then some (a==b) else none
 | .agg xs,.agg ys=>ZrW xs ys
 | _,_=>none
def ZrW:List D→List D→Option Bool
 | [],[]=>some true
 | x :: xs,y :: ys=>match eqD x y,ZrW xs ys with | some a,some b=>some (a&&b) | _,_=>none
 | _,_=>none
end
def ZgP:List Bool→List D→Bool
 | [],[]=>true
 | true :: ks,.bool _ :: cs=>ZgP ks cs
 | false :: ks,.int _ _ :: cs=>ZgP ks cs
 | _,_=>false
def Zfe (ks:List Bool):D→Bool
 | .agg cs=>(match ks with | [_]=>false | ks=>ZgP ks cs)
 | x=>(match ks with | [_]=>ZgP ks [x] | _=>false)
def lim:Nat:=1073741824
def Zx {α:Type} (xs:List α) (i:Int):Option α:=bif decide (0≤i) then nth xs i.toNat else none
abbrev Res:=Option (V×List (Nat×Blk)×List Blk)
def ZeH (v:V):Res:=some (v,[],[])
def ZCI (op:BinOp) (k:IntKind) (a b:Int):Option D:=
 match op with
 | .add=>some (.int k (k.wrap (a+b)))
 | .sub=>some (.int k (k.wrap (a-b)))
 | .mul=>some (.int k (k.wrap (a*b)))
 | .quo=>bif b==0 then none else some (.int k (k.wrap (a.tdiv b)))
 | .rem=>bif b==0 then none else some (.int k (a.tmod b))
 | .and=>some (.int k (k.wrap (BitVec.ofInt k.bits a &&& BitVec.ofInt k.bits b).toNat))
 | .or=>some (.int k (k.wrap (BitVec.ofInt k.bits a ||| BitVec.ofInt k.bits b).toNat))
 | .xor=>some (.int k (k.wrap (BitVec.ofInt k.bits a ^^^ BitVec.ofInt k.bits b).toNat))
 | .eql=>some (.bool (a==b))
 | .neq=>some (.bool (a != b))
 | .lss=>some (.bool (decide (a<b)))
 | .leq=>some (.bool (decide (a≤b)))
 | .gtr=>some (.bool (decide (b<a)))
 | .geq=>some (.bool (decide (b≤a)))
 | _=>none
def shI (op:BinOp) (k:IntKind) (a b:Int):Option D:=
 bif decide (b<0) then none else
 match op with
 | .shl=>some (.int k (k.wrap (a*2 ^ (min b.toNat k.bits))))
 | .shr=>some (.int k (a.fdiv (2 ^ (min b.toNat k.bits))))
 | _=>none
def Zq5 (op:BinOp) (x y:V):Option D:=
 match op,x,y with
 | .shl,.d (.int k a),.d (.int _ b)=>shI .shl k a b
 | .shr,.d (.int k a),.d (.int _ b)=>shI .shr k a b
 | op,.d (.int k a),.d (.int k' b)=>bif k==k' then ZCI op k a b else none
 | _,_,_=>none
def unE (op:UnOp) (x:V):Option D:=
 match op,x with
 | .not,.d (.bool b)=>some (.bool !b)
 | .neg,.d (.int k n)=>some (.int k (k.wrap (0-n)))
 | _,_=>none
def V.okb:V→Bool
 | .bad=>false
 | .tup _=>false
 | .d (.tup _)=>false
 | _=>true
def V.flat:V→Bool
 | .bad=>false
 | .tup _=>false
 | .agg _=>false
 | .d (.tup _)=>false
 | .d (.agg _)=>false
 | _=>true
def Zun:List V→Bool
 | []=>true
 | v :: vs=>v.flat&&Zun vs
def Zg2 (n:Nat) (ag:Bool) (cs:List V):Option V:=
 bif ag then (bif Nat.beq (cs.take n).length n then some (ZvI (cs.take n)) else none) else cs.head?
def Ze7 (H:Zs) (n:Nat) (ag:Bool) (x:V):Option V:=
 match x with
 | .ptr b o=>match nth H b with
  | some (.cells cs)=>Zg2 n ag (cs.drop o)
  | _=>none
 | .eptr b sz i k=>match nth H b with
  | some (.arr sz' xs)=>bif Nat.beq sz sz' then
    match nth xs i with
    | some x=>Zg2 n ag (Zd1 (x.cells.drop k))
    | none=>none
   else none
  | _=>none
 | .d (.rptr cs)=>Zg2 n ag (Zd1 cs)
 | _=>none
def ZmB (H:Zs) (n:Nat) (x v:V):Res:=
 match x with
 | .ptr b o=>match nth H b with
  | some (.cells cs)=>bif Nat.beq v.cells.length n&&Nat.ble (o+n) cs.length&&v.okb&&Zun v.cells then some (.bad,[(b,.cells (Zbf cs o v.cells))],[]) else none
  | _=>none
 | .eptr b sz i k=>match nth H b with
  | some (.arr sz' xs)=>bif Nat.beq sz sz' then
    match nth xs i,fr H 6 v with
    | some x,some (y,ks)=>
     bif Zj4 ks b then none else
     bif Nat.beq y.cells.length n&&Nat.ble (k+n) x.cells.length&&(V.d y).okb&&(x.isAgg || !y.isAgg) then
      some (.bad,(b,.arr sz (Zhv xs i (bif x.isAgg then .agg (Zbf x.cells k y.cells) else y))) :: ks.map (fun j=>(j,.dead)),[])
     else none
    | _,_=>none
   else none
  | _=>none
 | _=>none
def elems (H:Zs) (x:V):Option (List D):=
 match x with
 | .d (.list _ xs)=>some xs
 | .sl b sz=>match nth H b with | some (.arr sz' xs)=>bif Nat.beq sz sz' then some xs else none | _=>none
 | .slp b sz o len=>match nth H b with | some (.arr sz' xs)=>bif Nat.beq sz sz' then some ((xs.drop o).take len) else none | _=>none
 | .nilsl _=>some []
 | _=>none
def Znl (sz:Nat) (xs:List D) (l:Nat):Bool:=match nth xs l with | some z=>Nat.beq z.cells.length sz&&(V.d z).okb | none=>true
def Zn3 (nid:Nat) (H:Zs) (sz:Nat) (x y:V):Res:=
 match elems H y with
 | none=>none
 | some ys=>
  bif Znl sz ys 0 then
   match x with
   | .nilsl _=>bif Nat.ble ys.length lim then some (.sl nid sz,[],[.arr sz ys]) else none
   | .sl b sz'=>match nth H b with
    | some (.arr sz'' xs)=>bif Nat.beq sz sz'&&Nat.beq sz sz'' then
      (bif Nat.ble (xs.length+ys.length) lim then some (.sl nid sz,[(b,.dead)],[.arr sz (xs++ys)]) else none)
     else none
    | _=>none
   | .slp b sz' o len=>match nth H b with
    | some (.arr sz'' xs)=>bif Nat.beq sz sz'&&Nat.beq sz sz''&&Nat.ble (o+len+ys.length) xs.length then
      some (.slp b sz o (len+ys.length),[(b,.arr sz (xs.take (o+len)++(ys++xs.drop (o+len+ys.length))))],[])
     else none
    | _=>none
   | _=>none
  else none
def Zk4 (H:Zs) (sz:Nat) (x y:V):Option V:=
 match x with
 | .nilsl _=>(match elems H y with
  | some ys=>bif Znl sz ys 0&&Nat.ble ys.length lim then some (.d (.list true ys)) else none
  | none=>none)
 | _=>none
def ZjY (v:Option V) (dflt:Nat):Option Nat:=
 match v with
 | none=>some dflt
 | some (.d (.int _ n))=>bif decide (0≤n) then some n.toNat else none
 | _=>none
def Zk1 (H:Zs) (sz:Nat) (x:V) (lo hi mx:Option V):Option V:=
 match elems H x with
 | none=>none
 | some xs=>
  match ZjY lo 0,ZjY hi xs.length with
  | some l,some h=>
   bif Nat.ble l h&&Nat.ble h xs.length then
    match mx with
    | none=>match x with
     | .d (.list own _)=>bif Nat.beq l 0 || Znl sz xs l then some (.d (.list own ((xs.drop l).take (h-l)))) else none
     | .sl b sz'=>bif Nat.beq sz sz' then some (.slp b sz l (h-l)) else none
     | .slp b sz' o _=>bif Nat.beq sz sz' then some (.slp b sz (o+l) (h-l)) else none
     | .nilsl _=>some (.nilsl sz)
     | _=>none
    | some m=>match ZjY (some m) 0 with
     | some m=>bif Nat.beq m l&&Nat.beq m h then some (.nilsl sz) else none
     | none=>none
   else none
  | _,_=>none
def Zkr (H:Zs) (sz:Nat) (x i:V):Option V:=
 match i with
 | .d (.int _ i)=>
  match x with
  | .d (.list _ xs)=>match Zx xs i with | some x=>bif Nat.beq x.cells.length sz&&(V.d x).okb then some (.d (.rptr x.cells)) else none | none=>none
  | .sl b sz'=>match nth H b with
   | some (.arr sz'' xs)=>bif Nat.beq sz sz'&&Nat.beq sz sz'' then (match Zx xs i with | some _=>some (.eptr b sz i.toNat 0) | none=>none) else none
   | _=>none
  | .slp b sz' o len=>match nth H b with
   | some (.arr sz'' xs)=>bif Nat.beq sz sz'&&Nat.beq sz sz'' then (match Zx ((xs.drop o).take len) i with | some _=>some (.eptr b sz (o+i.toNat) 0) | none=>none) else none
   | _=>none
  | _=>none
 | _=>none
def Zpy (len sz:Nat) (ag:Bool) (x i:V):Option V:=
 match i with
 | .d (.int _ i)=>bif x.isAggV&&(decide (0≤i)&&decide (i<len)) then Zg2 sz ag (x.cells.drop (i.toNat*sz)) else none
 | _=>none
def ZmC (x i:V):Option V:=
 match x,i with
 | .d (.str s),.d (.int _ i)=>bif decide (0≤i) then (match s[i.toNat]? with | some b=>some (.d (.int .u8 b.toNat)) | none=>none) else none
 | _,_=>none
def Zmz (_:Zs) (off:Nat) (x:V):Option V:=
 match x with
 | .ptr b o=>some (.ptr b (o+off))
 | .eptr b sz i k=>some (.eptr b sz i (k+off))
 | .d (.rptr cs)=>some (.d (.rptr (cs.drop off)))
 | _=>none
def ZwX (_:Zs) (x:V):Option V:=
 match x with
 | .d (.fn f caps)=>some (.d (.fn f caps))
 | .fn f caps=>some (.fn f caps)
 | .d (.iface t v)=>some (.d (.iface t v))
 | .d (.rptr cs)=>some (.d (.rptr cs))
 | .ptr b o=>some (.ptr b o)
 | .eptr b sz i k=>some (.eptr b sz i k)
 | _=>none
def ZiJ (H:Zs) (len sz:Nat) (x i:V):Option V:=
 match i with
 | .d (.int _ i)=>bif decide (0≤i)&&decide (i<len) then Zmz H (i.toNat*sz) x else none
 | _=>none
def ZuO (H:Zs) (x:V):Option D:=
 match elems H x with | some xs=>some (.int .i64 xs.length) | none=>none
def mxE (isMax:Bool):List V→Option D
 | []=>none
 | .d (.int k a) :: r=>go k a r
 | _=>none
where
 go (k:IntKind) (a:Int):List V→Option D
  | []=>some (.int k a)
  | .d (.int _ b) :: r=>go k (bif isMax then (bif decide (a<b) then b else a) else (bif decide (b<a) then b else a)) r
  | _=>none
def ZtC (z:List V):List (Nat×Nat×V)→Option (List V)
 | []=>some z
 | (off,size,v) :: r=>bif v.okb&&Nat.beq v.cells.length size&&Nat.ble (off+size) z.length then ZtC (Zbf z off v.cells) r else none
def Zs4 (H:Zs) (sz:Nat) (xs:List D):List (Nat×V)→Option (List D×List Nat)
 | []=>some (xs,[])
 | (i,v) :: r=>match fr H 6 v with
  | some (y,ks)=>(bif Nat.blt i xs.length&&Nat.beq y.cells.length sz&&(V.d y).okb then match Zs4 H sz (Zhv xs i y) r with | some (l,k2)=>some (l,ks++k2) | none=>none else none)
  | none=>none
def Zl8 (es:List (D×D)) (k:D):Option (Option D):=
 match es with
 | []=>some none
 | (a,v) :: r=>match eqD k a with | some true=>some (some v) | some false=>Zl8 r k | none=>none
def ZBc (es:List (D×D)) (k z:D):Option D:=match Zl8 es k with | some (some y)=>some y | some none=>some z | none=>none
def ZlA (es:List (D×D)) (k v:D):Option (List (D×D)):=
 match es with
 | []=>some [(k,v)]
 | (a,u) :: r=>match eqD k a with
  | some true=>some ((a,v) :: r)
  | some false=>(match ZlA r k v with | some l=>some ((a,u) :: l) | none=>none)
  | none=>none
def Zj3:D→Bool
 | .bool _=>true
 | .int _ _=>true
 | _=>false
def ZpD (H:Zs) (ks:List Bool) (m k v:V):Res:=
 match m,k,v with
 | .mp b,.d k,.d y=>(match nth H b with
  | some (.mp es)=>(match Zfe ks k&&Zj3 y with | true=>(match ZlA es k y with | some l=>some (.bad,[(b,.mp l)],[]) | none=>none) | false=>none)
  | _=>none)
 | _,_,_=>none
def Zob (H:Zs) (ks:List Bool) (z:D) (m k:V):Option D:=
 match m,k with
 | .mp b,.d k=>(match nth H b with
  | some (.mp es)=>(match Zfe ks k with | true=>ZBc es k z | false=>none)
  | _=>none)
 | _,_=>none
def ZGn:List D→Option (List (Int×Int))
 | []=>some []
 | .agg [.int .i64 a,.int .i64 b] :: r=>match ZGn r with | some l=>some ((a,b) :: l) | none=>none
 | _=>none
def pc (zs:List (Int×Int)) (j:Nat):Int×Int:=zs[j]?.getD (0,0)
def ZvG (zs:List (Int×Int)) (p:Int):Nat→Int
 | 0=>-1
 | k+1=>bif ((pc zs k).1 != p || decide (p<0)) then ZvG zs p k else (k:Int)
def ZoP (id:Nat) (l:List D):Option D:=
 match id,l with
 | 0,[.agg [_,_,.list _ xs],.int .i64 p]=>(match ZGn xs with | some zs=>bif Nat.ble zs.length lim then some (.int .i64 (ZvG zs p zs.length)) else none | none=>none)
 | _,_=>none
abbrev Zcl:=Nat→List V→Zs→Option (V×Zs)
def ZiW (Γ:Ctx) (cf:Zcl) (nid:Nat) (H:Zs) (f:Nat) (args:List V):Res:=
 match Γ.mode f with
 | 0=>match fzs H args with
  | some l=>match cf f (Zd1 l) [] with
   | some (v,H1)=>match fr H1 6 v with | some (x,_)=>(match x with | .tup ts=>some (.tup (Zd1 ts),[],[]) | x=>some (.d x,[],[])) | none=>none
   | none=>none
  | none=>none
 | 1=>match fzs H args with
  | some l=>match cf f (Zd1 l) [] with
   | some (v,H1)=>bif Ztn v&&ZoO H1 then let up:=fun j=>some (nid+j);some (ZpT up v,[],H1.map (Zka up)) else none
   | none=>none
  | none=>none
 | _=>
  match extract 0 args H with
  | none=>none
  | some (L,args',H0)=>match cf f args' H0 with
   | some (v,H1)=>bif ZoH v&&ZlF H1 then
     let back:=fun j=>match nth L j with | some b=>some b | none=>some (nid+(j-L.length))
     some (ZpT back v,L.zip (H1.map (Zka back)),(H1.drop L.length).map (Zka back)) else none
   | none=>none
def Zf5 (H:Zs):List (Nat×Blk)→Zs
 | []=>H
 | (b,blk) :: r=>Zf5 (Zhv H b blk) r
def ZyA (e:Env) (H H':Zs):List Opd→Bool
 | []=>true
 | x :: xs=>(match x.val e with
  | .ptr b o=>(match Ze7 H 1 false (.ptr b o),Ze7 H' 1 false (.ptr b o) with | some (.mp i),some (.mp j)=>Nat.beq i j | _,_=>false)
  | _=>false)&&ZyA e H H' xs
def isU (f:Nat):Bool:=Nat.blt f 1000000
def unB (f:Nat):Nat:=f-1000000
def ZoI (f:Nat):Nat:=bif isU f then f else unB f
def Zrl (f:Nat) (caps args:List V):List V:=bif isU f then args++caps else caps++args
def Zrt:List (Nat×Blk)→Nat→Bool
 | [],_=>false
 | (a,_) :: r,b=>bif Nat.beq a b then true else Zrt r b
def ZqV (e:Env) (up:List (Nat×Blk)):List Opd→Bool
 | []=>true
 | x :: xs=>(match x.val e with
  | .ptr b _=>!(Zrt up b)
  | .eptr b _ _ _=>!(Zrt up b)
  | .d _=>true
  | _=>false)&&ZqV e up xs
def ZmN:V→Option (Nat×List V)
 | .fn f caps=>some (f,caps)
 | .d (.fn f caps)=>some (f,Zd1 caps)
 | _=>none
def ZiZ (Γ:Ctx) (v:V) (f:Nat) (caps:List V):Bool:=v.isD&&(!(Nat.ble (Γ.mode (ZoI f)) 1) && !caps.isEmpty)
def ZoR (tab:List (Nat×Nat)) (t:Nat):Option Nat:=
 match tab with
 | []=>none
 | (a,f) :: r=>bif Nat.beq a t then some f else ZoR r t
def opE (Γ:Ctx) (cf:Zcl) (e:Env) (nid:Nat) (H:Zs):O→Res
 | .mov x=>ZeH (x.val e)
 | .pick c a b=>match c.val e with | .d (.bool t)=>ZeH (bif t then a.val e else b.val e) | _=>none
 | .alloc z=>some (.ptr nid 0,[],[.cells z.cells])
 | .box x=>bif (x.val e).okb then some (.ptr nid 0,[],[.cells (x.val e).cells]) else none
 | .build z ps=>match ZtC z (ps.map fun(o,s,x)=>(o,s,x.val e)) with | some cs=>ZeH (ZvI cs) | none=>none
 | .bslice sz z len ps=>bif Nat.beq len 0 then ZeH (.nilsl sz) else match Zs4 H sz (List.replicate len (match z with | [x]=>x | z=>.agg z)) (ps.map fun(i,x)=>(i,x.val e)) with
  | some (xs,ks)=>some (.sl nid sz,ks.map (fun j=>(j,.dead)),[.arr sz xs])
  | none=>none
 | .load n ag x=>match Ze7 H n ag (x.val e) with | some v=>ZeH v | none=>none
 | .store n x v=>ZmB H n (x.val e) (v.val e)
 | .nilck x=>match ZwX H (x.val e) with | some v=>ZeH v | none=>none
 | .bin op x y=>match Zq5 op (x.val e) (y.val e) with | some r=>ZeH (.d r) | none=>none
 | .eqv ks neg x y=>match x.val e,y.val e with
  | .d a,.d b=>(match Zfe ks a with | true=>(match eqD a b with | some r=>ZeH (.d (.bool (bif neg then !r else r))) | none=>none) | false=>none)
  | _,_=>none
 | .un op x=>match unE op (x.val e) with | some r=>ZeH (.d r) | none=>none
 | .conv k x=>match x.val e with | .d (.int _ n)=>ZeH (.d (.int k (k.wrap n))) | _=>none
 | .mkfn f caps=>ZeH (match caps with | []=>.d (.fn f []) | caps=>.fn f (Zhl e caps))
 | .mkslice sz z n c=>match n.val e,c.val e with
  | .d (.int _ n),.d (.int _ c)=>bif decide (0≤n)&&decide (n≤lim)&&decide (n==c) then
    some (.sl nid sz,[],[.arr sz (List.replicate n.toNat (match z with | [x]=>x | z=>.agg z))]) else none
  | _,_=>none
 | .slice sz x lo hi mx=>match Zk1 H sz (x.val e) (lo.map (·.val e)) (hi.map (·.val e)) (mx.map (·.val e)) with | some v=>ZeH v | none=>none
 | .faddr off x=>match Zmz H off (x.val e) with | some v=>ZeH v | none=>none
 | .field off n ag x=>match x.val e with
  | .d (.agg cs)=>(match Zg2 n ag (Zd1 (cs.drop off)) with | some v=>ZeH v | none=>none)
  | .agg cs=>(match Zg2 n ag (cs.drop off) with | some v=>ZeH v | none=>none)
  | _=>none
 | .iaddr sz x i=>match Zkr H sz (x.val e) (i.val e) with | some v=>ZeH v | none=>none
 | .index len sz ag x i=>match Zpy len sz ag (x.val e) (i.val e) with | some v=>ZeH v | none=>none
 | .indexS x i=>match ZmC (x.val e) (i.val e) with | some v=>ZeH v | none=>none
 | .iaddrA len sz x i=>match ZiJ H len sz (x.val e) (i.val e) with | some v=>ZeH v | none=>none
 | .len x=>match ZuO H (x.val e) with | some r=>ZeH (.d r) | none=>none
 | .append sz x y=>Zn3 nid H sz (x.val e) (y.val e)
 | .appendD sz x y=>match Zk4 H sz (x.val e) (y.val e) with | some v=>ZeH v | none=>none
 | .mx b xs=>match mxE b (Zhl e xs) with | some r=>ZeH (.d r) | none=>none
 | .extract x i=>match x.val e with
  | .tup vs=>(match nth vs i with | some v=>ZeH v | none=>none)
  | .d (.tup vs)=>(match nth vs i with | some v=>ZeH (.d v) | none=>none)
  | _=>none
 | .mkif t x=>match fr H 6 (x.val e) with | some (y,[])=>ZeH (.d (.iface t y)) | _=>none
 | .call f args=>ZiW Γ cf nid H f (Zhl e args)
 | .callv x args=>match ZmN (x.val e) with
  | some (f,caps)=>(match ZiZ Γ (x.val e) f caps with | true=>none | false=>ZiW Γ cf nid H (ZoI f) (Zrl f caps (Zhl e args)))
  | none=>none
 | .invoke tab x args=>match x.val e with
  | .d (.iface t y)=>(match ZoR tab t with | some f=>ZiW Γ cf nid H f (.d y :: Zhl e args) | none=>none)
  | _=>none
 | .mkmap=>some (.mp nid,[],[.mp []])
 | .mapset ks m k v=>ZpD H ks (m.val e) (k.val e) (v.val e)
 | .mapget ks z m k=>match Zob H ks z (m.val e) (k.val e) with | some r=>ZeH (.d r) | none=>none
 | .panic=>none
 | .callk f args _=>ZiW Γ cf nid H f (Zhl e args)
 | .storek n x v _=>ZmB H n (x.val e) (v.val e)
 | .spec id args=>match H,ZnC (Zhl e args) with | [],some l=>(match ZoP id l with | some r=>ZeH (.d r) | none=>none) | _,_=>none
 | .nilq x=>match elems H (x.val e) with | some xs=>(match Nat.blt 0 xs.length with | true=>ZeH (.d (.bool false)) | false=>none) | none=>none
def ZsO (e:Env) (dst:Option Nat) (v:V):Env:=match dst with | some i=>e.set i v | none=>e
def Zh3 (e:Env) (g:Option (Nat×Bool)):Option Bool:=
 match g with
 | none=>some true
 | some (s,b)=>match e s with | .d (.bool t)=>some (t==b) | .d (.tup [])=>some false | _=>none
def Zj9 (Γ:Ctx) (cf:Zcl):List Op1→Env→Zs→Option (Env×Zs)
 | [],e,H=>some (e,H)
 | o :: r,e,H=>match Zh3 e o.guard with
  | some true=>(match opE Γ cf e H.length H o.op with
   | some (v,up,nw)=>Zj9 Γ cf r (ZsO e o.dst v) (Zf5 H up++nw)
   | none=>none)
  | some false=>Zj9 Γ cf r (ZsO e o.dst (.d (.tup []))) H
  | none=>none
def ZAs (H:Zs) (b:Nat):Nat→Zs
 | 0=>H
 | n+1=>ZAs (Zhv H b .dead) (b+1) n
def ZiV (H:Zs) (pos:List (Nat×Nat)):List Nat→Zs
 | []=>H
 | i :: r=>match nth pos i with | some (b,n)=>ZiV (ZAs H b n) pos r | none=>ZiV H pos r
def Zwk:List (Nat×Blk)→Bool
 | []=>true
 | (_,.dead) :: _=>false
 | _ :: r=>Zwk r
def Zr6 (eff:Nat) (up:List (Nat×Blk)) (nw:List Blk):Bool:=match eff with | 0=>up.isEmpty | 1=>up.isEmpty&&nw.isEmpty | 3=>Zwk up&&nw.isEmpty | _=>true
def ZFQ (e:Env) (H:Zs) (up:List (Nat×Blk)):O→Bool
 | .callk _ _ chk=>ZyA e H (Zf5 H up) chk
 | .storek _ _ _ chk=>ZqV e up chk
 | _=>true
def Zr4 (e:Env) (H:Zs) (o:Op1) (up:List (Nat×Blk)) (nw:List Blk):Bool:=Zr6 o.eff up nw&&ZFQ e H up o.op
def ZhG (Γ:Ctx) (cf:Zcl) (pos:List (Nat×Nat)):List Op1→Env→Zs→Option (Env×Zs)
 | [],e,H=>some (e,H)
 | o :: r,e,H=>match Zh3 e o.guard with
  | some true=>(match opE Γ cf e H.length (ZiV H pos o.mask) o.op with
   | some (v,up,nw)=>bif Zr4 e H o up nw then ZhG Γ cf (pos++[(H.length,nw.length)]) r (ZsO e o.dst v) (Zf5 H up++nw) else none
   | _=>none)
  | some false=>ZhG Γ cf (pos++[(H.length,0)]) r (ZsO e o.dst (.d (.tup []))) H
  | none=>none
inductive Lp where
 | again (vs:List V) (H:Zs)
 | done (x:Ex) (vs:List V) (H:Zs)
abbrev St:=Env×Zs
def ZdF (F:List V→Zs→Option Lp):Nat→List V→Zs→Option (Ex×List V×Zs)
 | 0,_,_=>none
 | n+1,vs,H=>match F vs H with
  | some (.again vs H)=>ZdF F n vs H
  | some (.done x vs H)=>some (x,vs,H)
  | none=>none
def ZgO (k:Nat) (live outs:List Nat) (r:Option (Ex×Env×Zs)):Option Lp:=
 match r with
 | some (.normal,e,H)=>(match Zrz k (live.map e) H with | some (vs,H)=>some (.again vs H) | none=>none)
 | some (x,e,H)=>(match extract k (outs.map e) H with | some (_,vs,H)=>some (.done x vs H) | none=>none)
 | none=>none
def Zae (Γ:Ctx) (cf:Zcl) (It:(List V→Zs→Option Lp)→List V→Zs→Option (Ex×List V×Zs)) (k:Nat):C→Env→Zs→Option (Ex×Env×Zs)
 | .skip,e,H=>some (.normal,e,H)
 | .ret,e,H=>some (.ret,e,H)
 | .exit id,e,H=>some (.exit id,e,H)
 | .seq a b,e,H=>match Zae Γ cf It k a e H with
  | some (.normal,e,H)=>Zae Γ cf It k b e H
  | r=>r
 | .cond x a b,e,H=>match x.val e with
  | .d (.bool t)=>(match t with | true=>Zae Γ cf It k a e H | false=>Zae Γ cf It k b e H)
  | _=>none
 | .block id a,e,H=>match Zae Γ cf It k a e H with
  | some (.exit j,e,H)=>bif Nat.beq j id then some (.normal,e,H) else some (.exit j,e,H)
  | r=>r
 | .loop live outs a,e,H=>match Zrz k (live.map e) H with
  | some (vs,H)=>(match It (fun vs H=>ZgO k live outs (Zae Γ cf It k a (Zgc live vs) H)) vs H with
   | some (x,vs,H)=>some (x,Zgc outs vs,H)
   | none=>none)
  | none=>none
 | .ops l,e,H=>match Zj9 Γ cf l e H with | some (e,H)=>some (.normal,e,H) | none=>none
 | .draw l,e,H=>match ZhG Γ cf [] l e H with | some (e,H)=>some (.normal,e,H) | none=>none
def Zg3 (i:Nat):List V→Env
 | []=>env0
 | v :: vs=>(Zg3 (i+1) vs).set i v
def Zok (e:Env) (H:Zs):List (Nat×Option (Nat×Bool))→Option (List V)
 | []=>some []
 | (i,none) :: r=>match Zok e H r with | some l=>some (e i :: l) | none=>none
 | (i,some (n,ag)) :: r=>match Ze7 H n ag (e i),Zok e H r with | some v,some l=>some (v :: l) | _,_=>none
def ZjX:List V→V
 | [v]=>v
 | l=>Zxz l
def Znk (Γ:Ctx) (cf:Zcl) (It:(List V→Zs→Option Lp)→List V→Zs→Option (Ex×List V×Zs)) (f:Nat) (args:List V) (H:Zs):Option (V×Zs):=
 match Γ.code f with
 | none=>none
 | some fn=>
  bif Nat.beq args.length fn.nargs then
   match Zae Γ cf It H.length fn.body (Zg3 0 args) H with
   | some (.exit _,_,_)=>none
   | some (_,e,H1)=>(match Zok e H1 fn.res with
    | some l=>(match extract H.length [ZjX l] H1 with | some (_,[v],H2)=>some (v,H2) | _=>none)
    | none=>none)
   | none=>none
  else none
def evN (Γ:Ctx):Nat→Zcl
 | 0=>fun _ _ _=>none
 | n+1=>Znk Γ (evN Γ n) (fun F=>ZdF F n)
end Go.Proofs.YtnpidpcmpleiaaaGreatDoorE
namespace Go.Proofs.YtnpidpcmpleiaaaGreatDoor
open Go Go.Proofs.YtnpidpcmpleiaaaGreatDoorE
open Go.IntKind (u64 i64 u32 i32 u8)
abbrev qM (d x:Nat):Op1:=⟨some d,.mov (.t x),none,[],0⟩
abbrev uM (d x:Nat) (l:List Nat):Op1:=⟨some d,.mov (.t x),none,l,0⟩
abbrev vM (d x s:Nat) (b:Bool):Op1:=⟨some d,.mov (.t x),some (s,b),[],0⟩
abbrev wM (d x s:Nat) (b:Bool) (l:List Nat):Op1:=⟨some d,.mov (.t x),some (s,b),l,0⟩
abbrev qL (d x:Nat):Op1:=⟨some d,.load 1 false (.t x),none,[],0⟩
abbrev uL (d x:Nat) (l:List Nat):Op1:=⟨some d,.load 1 false (.t x),none,l,0⟩
abbrev vL (d x s:Nat) (b:Bool):Op1:=⟨some d,.load 1 false (.t x),some (s,b),[],0⟩
abbrev wL (d x s:Nat) (b:Bool) (l:List Nat):Op1:=⟨some d,.load 1 false (.t x),some (s,b),l,0⟩
abbrev qA (d n x:Nat):Op1:=⟨some d,.load n true (.t x),none,[],0⟩
abbrev uA (d n x:Nat) (l:List Nat):Op1:=⟨some d,.load n true (.t x),none,l,0⟩
abbrev vA (d n x s:Nat) (b:Bool):Op1:=⟨some d,.load n true (.t x),some (s,b),[],0⟩
abbrev wA (d n x s:Nat) (b:Bool) (l:List Nat):Op1:=⟨some d,.load n true (.t x),some (s,b),l,0⟩
abbrev qF (d n x:Nat):Op1:=⟨some d,.faddr n (.t x),none,[],0⟩
abbrev uF (d n x:Nat) (l:List Nat):Op1:=⟨some d,.faddr n (.t x),none,l,0⟩
abbrev vF (d n x s:Nat) (b:Bool):Op1:=⟨some d,.faddr n (.t x),some (s,b),[],0⟩
abbrev wF (d n x s:Nat) (b:Bool) (l:List Nat):Op1:=⟨some d,.faddr n (.t x),some (s,b),l,0⟩
abbrev qN (d x:Nat):Op1:=⟨some d,.len (.t x),none,[],0⟩
abbrev uN (d x:Nat) (l:List Nat):Op1:=⟨some d,.len (.t x),none,l,0⟩
abbrev vN (d x s:Nat) (b:Bool):Op1:=⟨some d,.len (.t x),some (s,b),[],0⟩
abbrev qI (d n x y:Nat):Op1:=⟨some d,.iaddr n (.t x) (.t y),none,[],0⟩
abbrev uI (d n x y:Nat) (l:List Nat):Op1:=⟨some d,.iaddr n (.t x) (.t y),none,l,0⟩
abbrev vI (d n x y s:Nat) (b:Bool):Op1:=⟨some d,.iaddr n (.t x) (.t y),some (s,b),[],0⟩
abbrev wI (d n x y s:Nat) (b:Bool) (l:List Nat):Op1:=⟨some d,.iaddr n (.t x) (.t y),some (s,b),l,0⟩
abbrev qU (d x:Nat):Op1:=⟨some d,.un .not (.t x),none,[],0⟩
abbrev vU (d x s:Nat) (b:Bool):Op1:=⟨some d,.un .not (.t x),some (s,b),[],0⟩
abbrev qE (d x n:Nat):Op1:=⟨some d,.extract (.t x) n,none,[],0⟩
abbrev qB (d:Nat) (o:BinOp) (x y:Nat):Op1:=⟨some d,.bin o (.t x) (.t y),none,[],0⟩
abbrev qK (d:Nat) (o:BinOp) (x:Nat) (n:Int):Op1:=⟨some d,.bin o (.t x) (iN n),none,[],0⟩
abbrev vB (d:Nat) (o:BinOp) (x y s:Nat) (b:Bool):Op1:=⟨some d,.bin o (.t x) (.t y),some (s,b),[],0⟩
abbrev vK (d:Nat) (o:BinOp) (x:Nat) (n:Int) (s:Nat) (b:Bool):Op1:=⟨some d,.bin o (.t x) (iN n),some (s,b),[],0⟩
abbrev qW (d:Nat) (n:Int):Op1:=⟨some d,.mov (iN n),none,[],0⟩
abbrev qC (d f x:Nat):Op1:=⟨some d,.call f [.t x],none,[],0⟩
abbrev qD (d f x y:Nat):Op1:=⟨some d,.call f [.t x,.t y],none,[],0⟩
abbrev uS (d:Nat) (l:List Nat):Op1:=⟨some d,.bslice 1 [.int .i64 0] 0 [],none,l,0⟩
abbrev qP (d x y:Nat):Op1:=⟨some d,.pick (.t x) (.t y) bF,none,[],0⟩
abbrev zI:V:=.d (.int .i64 0)
abbrev zD:D:=.int .i64 0
abbrev cX (x n:Nat):C:=.cond (.t x) .skip (.exit n)
abbrev cY (x:Nat) (a b:C):C:=.cond (.t x) a b
abbrev oS (l:List Op1) (c:C):C:=.seq (.ops l) c
def ZFZ:List D:=[.int .u8 0,.int .u8 1,.int .u8 28,.int .u8 2,.int .u8 29,.int .u8 14,.int .u8 24,.int .u8 3,.int .u8 30,.int .u8 22,.int .u8 20,.int .u8 15,.int .u8 25,.int .u8 17,.int .u8 4,.int .u8 8,.int .u8 31,.int .u8 27,.int .u8 13,.int .u8 23,.int .u8 21,.int .u8 19,.int .u8 16,.int .u8 7,.int .u8 26,.int .u8 12,.int .u8 18,.int .u8 6,.int .u8 11,.int .u8 5,.int .u8 10,.int .u8 9]
def ZAF:List D:=[.int .u8 0,.int .u8 1,.int .u8 56,.int .u8 2,.int .u8 57,.int .u8 49,.int .u8 28,.int .u8 3,.int .u8 61,.int .u8 58,.int .u8 42,.int .u8 50,.int .u8 38,.int .u8 29,.int .u8 17,.int .u8 4,.int .u8 62,.int .u8 47,.int .u8 59,.int .u8 36,.int .u8 45,.int .u8 43,.int .u8 51,.int .u8 22,.int .u8 53,.int .u8 39,.int .u8 33,.int .u8 30,.int .u8 24,.int .u8 18,.int .u8 12,.int .u8 5,.int .u8 63,.int .u8 55,.int .u8 48,.int .u8 27,.int .u8 60,.int .u8 41,.int .u8 37,.int .u8 16,.int .u8 46,.int .u8 35,.int .u8 44,.int .u8 21,.int .u8 52,.int .u8 32,.int .u8 23,.int .u8 11,.int .u8 54,.int .u8 26,.int .u8 40,.int .u8 15,.int .u8 34,.int .u8 20,.int .u8 31,.int .u8 10,.int .u8 25,.int .u8 14,.int .u8 19,.int .u8 9,.int .u8 13,.int .u8 8,.int .u8 7,.int .u8 6]
def ir3:C:=oS [oB 1 (.box (.t 0)),oB 2 (.mov bF)] (.seq (oS [oB 7 (.call 4 []),qU 8 7,qM 9 8,vA 10 6 1 9 false,oG 11 (.call 5 [.t 10]) 9 false,vU 12 11 9 false,oB 13 (.pick (.t 9) bT (.t 12))] (cY 13 (oS [oB 14 (.call 4 []),qM 2 14] .ret) .skip)) (oS [qA 16 6 1,qC 17 7 16,qC 18 6 17,qM 15 18,qE 19 15 0,qE 20 15 1,oB 3 (.alloc (.d (.agg [zD,zD,zD,zD,zD]))),oA (.store 5 (.t 3) (.t 19)),qM 4 20] (oS [qA 22 6 1,qC 23 8 22,qM 21 23,qE 24 21 0,qE 25 21 1,oB 5 (.alloc (.d (.agg [zD,zD,zD,zD,zD]))),oA (.store 5 (.t 5) (.t 24)),qM 6 25] (oS [qA 26 5 3,qA 27 5 5,oB 28 (.eqv [false,false,false,false,false] false (.t 26) (.t 27)),qM 29 28,vM 30 4 29 true,vM 31 6 29 true,vB 32 .eql 30 31 29 true,qP 33 29 32,qM 34 33,vM 35 4 34 true,vK 36 .neq 35 0 34 true,vM 37 36 34 true,vA 38 5 3 37 false,oG 39 (.call 9 [.t 38]) 37 false,vK 40 .eql 39 0 37 false,oG 41 (.pick (.t 37) bT (.t 40)) 34 true,qP 42 34 41,qM 2 42] .ret))))
def fn3:FnI:=⟨1,ir3,[(2,none)]⟩
def ir4:C:=oS [oB 0 (.mov bF)] (oS [oB 11 (.build [zI,zI,zI,zI,zI] [(0,1,(iN 20)),(1,1,(iN 4)),(2,1,(iN 4)),(3,1,(iN 8)),(4,1,(iN 8))]),oB 1 (.alloc (.d (.agg [zD,zD,zD,zD,zD]))),oA (.store 5 (.t 1) (.t 11))] (oS [qA 13 5 1,qC 14 10 13,qM 12 14,qE 15 12 0,qE 16 12 1,qM 2 15,qM 3 16] (oS [oB 17 (.build [zI,zI,zI] [(2,1,(iN 2))]),oB 18 (.build [zI,zI,zI] [(2,1,(iN 3))]),oB 19 (.bslice 3 [zD,zD,zD] 2 [(0,(.t 17)),(1,(.t 18))]),oB 20 (.build [zI,zI,(.nilsl 3),(.nilsl 2),(.nilsl 3),(.nilsl 2)] [(0,1,(iN 8)),(1,1,(iN 5)),(2,1,(.t 19))]),oB 4 (.alloc (.agg [zI,zI,(.nilsl 3),(.nilsl 2),(.nilsl 3),(.nilsl 2)])),oA (.store 6 (.t 4) (.t 20))] (oS [qA 22 6 4,qC 23 6 22,qM 21 23,qE 24 21 0,qE 25 21 1,oB 5 (.alloc (.d (.agg [zD,zD,zD,zD,zD]))),oA (.store 5 (.t 5) (.t 24)),qM 6 25] (oS [qA 27 5 5,qC 28 10 27,qM 26 28,qE 29 26 0,qE 30 26 1,qM 7 29,qM 8 30] (oS [oB 32 (.build [zI,zI,zI,zI,zI] [(0,1,(iN 20)),(1,1,(iN 8)),(2,1,(iN 4)),(3,1,(iN 8)),(4,1,(iN 8))]),qC 33 10 32,qM 31 33,qE 34 31 0,qE 35 31 1,qM 9 34,qM 10 35] (oS [qM 36 2,qK 37 .eql 36 4,qM 38 37,vM 39 3 38 true,vK 40 .eql 39 0 38 true,qP 41 38 40,qM 42 41,vM 43 6 42 true,vK 44 .eql 43 0 42 true,qP 45 42 44,qM 46 45,vA 47 5 5 46 true,oG 48 (.build [zI,zI,zI,zI,zI] [(0,1,(iN 5)),(1,1,(iN 3)),(2,1,(iN 3)),(3,1,(iN 5)),(4,1,(iN 8))]) 46 true,oG 49 (.eqv [false,false,false,false,false] false (.t 47) (.t 48)) 46 true,qP 50 46 49,qM 51 50,vM 52 7 51 true,vK 53 .eql 52 1 51 true,qP 54 51 53,qM 55 54,vM 56 8 55 true,vK 57 .eql 56 0 55 true,qP 58 55 57,qM 59 58,vM 60 10 59 true,vK 61 .eql 60 141 59 true,qP 62 59 61,qM 63 62,vA 64 5 1 63 true,oG 65 (.call 11 [.t 64]) 63 true,qP 66 63 65,qM 67 66,vA 68 5 5 67 true,oG 69 (.call 11 [.t 68]) 67 true,vU 70 69 67 true,qP 71 67 70,qM 72 71,vA 73 5 1 72 true,oG 74 (.call 12 [.t 73,(iN 4)]) 72 true,vK 75 .eql 74 8 72 true,qP 76 72 75,qM 77 76,vA 78 5 1 77 true,oG 79 (.call 9 [.t 78]) 77 true,vK 80 .eql 79 0 77 true,qP 81 77 80,qM 0 81] .ret)))))))
def fn4:FnI:=⟨0,ir4,[(0,none)]⟩
def ZCZ:C:=.seq (oS [qM 4 3,qF 5 5 1,qL 6 5,qN 7 6,qB 8 .lss 4 7,qM 9 8,vM 10 3 9 true,vK 11 .lss 10 9 9 true,qP 12 9 11] (cX 12 0)) (.seq (.block 1 (oS [qF 15 5 1,qL 16 15,qM 17 3,qI 18 2 16 17,qF 19 0 18,qL 20 19,qN 21 20,qK 22 .gtr 21 20,qM 23 22,vF 24 5 1 23 false,vL 25 24 23 false,vM 26 3 23 false,vI 27 2 25 26 23 false,vF 28 1 27 23 false,vL 29 28 23 false,vN 30 29 23 false,vK 31 .gtr 30 20 23 false,oB 32 (.pick (.t 23) bT (.t 31))] (cY 32 (oS [oB 2 (.mov bF)] .ret) .skip))) (.ops [qM 13 3,qK 14 .add 13 1,qM 3 14]))
def ir5:C:=oS [oB 1 (.box (.t 0)),oB 2 (.mov bF)] (.seq (oS [qW 3 0] (.block 0 (.loop [1,3] [1,2] ZCZ))) (oS [qF 33 2 1,qL 34 33,qN 35 34,qK 36 .leq 35 20,qM 37 36,vF 38 3 1 37 true,vL 39 38 37 true,vN 40 39 37 true,vK 41 .leq 40 60 37 true,qP 42 37 41,qM 43 42,vF 44 4 1 43 true,vL 45 44 43 true,vN 46 45 43 true,vK 47 .leq 46 20 43 true,qP 48 43 47,qM 49 48,vF 50 5 1 49 true,vL 51 50 49 true,vN 52 51 49 true,vK 53 .leq 52 8 49 true,qP 54 49 53,qM 2 54] .ret))
def fn5:FnI:=⟨1,ir5,[(2,none)]⟩
def ir6:C:=oS [oB 1 (.box (.t 0)),oB 2 (.alloc (.d (.agg [zD,zD,zD,zD,zD]))),qW 3 0] (oS [qA 7 6 1,qC 8 13 7,qM 6 8,qE 9 6 0,qE 10 6 1,oB 4 (.alloc (.agg [(.nilsl 1),(.nilsl 2),(.nilsl 2)])),oA (.store 3 (.t 4) (.t 9)),qM 5 10] (.seq (oS [qM 11 5,qK 12 .neq 11 0] (cY 12 (oS [oB 13 (.build [zI,zI,zI,zI,zI] []),qM 14 5,oA (.store 5 (.t 2) (.t 13)),qM 3 14] .ret) .skip)) (.seq (.draw [qF 15 0 4,qA 16 2 15,qC 17 14 16,uF 18 0 4 [0,1,2],uA 19 2 18 [0,1,2],qC 20 15 19,uF 21 0 4 [0,1,2,3,4,5],uF 22 0 21 [0,1,2,3,4,5],uL 23 22 [0,1,2,3,4,5],qC 24 16 23,uF 25 1 1 [0,1,2,3,4,5,6,7,8,9],uL 26 25 [0,1,2,3,4,5,6,7,8,9],uF 27 0 1 [0,1,2,3,4,5,6,7,8,9,10,11],uL 28 27 [0,1,2,3,4,5,6,7,8,9,10,11],oB 29 (.build [zI,zI,zI,zI,zI] [(0,1,(.t 17)),(1,1,(.t 20)),(2,1,(.t 24)),(3,1,(.t 26)),(4,1,(.t 28))]),⟨none,.store 5 (.t 2) (.t 29),none,[],3⟩,qW 3 0]) .ret)))
def fn6:FnI:=⟨1,ir6,[(2,some (5,true)),(3,none)]⟩
def ZC7:C:=.seq (oS [qM 22 4,qF 23 5 1,qL 24 23,qN 25 24,qB 26 .lss 22 25] (cX 26 0)) (.seq (.block 1 (.draw [qF 29 5 3,qL 30 29,uS 31 [0,1],uF 32 5 1 [0,1,2],uL 33 32 [0,1,2],uM 34 4 [0,1,2,3,4],uI 35 2 33 34 [0,1,2],uF 36 0 35 [0,1,2],uL 37 36 [0,1,2],oM 38 (.appendD 1 (.t 31) (.t 37)) [0,1],uS 39 [0,1,2,3,4,5,6,7,8,9],uF 40 5 1 [0,1,2,3,4,5,6,7,8,9,10],uL 41 40 [0,1,2,3,4,5,6,7,8,9,10],uM 42 4 [0,1,2,3,4,5,6,7,8,9,10,11,12],uI 43 2 41 42 [0,1,2,3,4,5,6,7,8,9,10],uF 44 1 43 [0,1,2,3,4,5,6,7,8,9,10],uL 45 44 [0,1,2,3,4,5,6,7,8,9,10],oM 46 (.appendD 1 (.t 39) (.t 45)) [0,1],oM 47 (.build [(.nilsl 1),(.nilsl 1)] [(0,1,(.t 38)),(1,1,(.t 46))]) [0,1],oM 48 (.bslice 2 [.list true [],.list true []] 1 [(0,(.t 47))]) [0,1],⟨some 49,.append 2 (.t 30) (.t 48),none,[],4⟩,qF 50 5 3,⟨none,.store 1 (.t 50) (.t 49),none,[],3⟩])) (.ops [qM 27 4,qK 28 .add 27 1,qM 4 28]))
def ir7:C:=oS [oB 1 (.box (.t 0)),oB 2 (.alloc (.agg [zI,zI,(.nilsl 3),(.nilsl 2),(.nilsl 3),(.nilsl 2)]))] (.seq (.draw [qF 5 0 1,qL 6 5,uF 7 1 1 [0,1],uL 8 7 [0,1],oM 9 (.bslice 3 [zD,zD,zD] 0 []) [0,1,2,3],uF 10 2 1 [0,1,2,3,4],uL 11 10 [0,1,2,3,4],oM 12 (.append 3 (.t 9) (.t 11)) [0,1,2,3],oM 13 (.bslice 2 [zD,zD] 0 []) [0,1,2,3,4,5,6,7],uF 14 3 1 [0,1,2,3,4,5,6,7,8],uL 15 14 [0,1,2,3,4,5,6,7,8],oM 16 (.append 2 (.t 13) (.t 15)) [0,1,2,3],oM 17 (.bslice 3 [zD,zD,zD] 0 []) [0,1,2,3,4,5,6,7,8,9,10,11],uF 18 4 1 [0,1,2,3,4,5,6,7,8,9,10,11,12],uL 19 18 [0,1,2,3,4,5,6,7,8,9,10,11,12],oM 20 (.append 3 (.t 17) (.t 19)) [0,1,2,3],oB 21 (.build [zI,zI,(.nilsl 3),(.nilsl 2),(.nilsl 3),(.nilsl 2)] [(0,1,(.t 6)),(1,1,(.t 8)),(2,1,(.t 12)),(3,1,(.t 16)),(4,1,(.t 20))]),oM 3 (.alloc (.agg [zI,zI,(.nilsl 3),(.nilsl 2),(.nilsl 3),(.nilsl 2)])) [0,1,2,3,4,5,6,7,8,9,10,11,12,13,14,15,16],⟨none,.store 6 (.t 3) (.t 21),none,[],3⟩]) (.seq (oS [qW 4 0] (.block 0 (.loop [1,2,3,4] [2,3] ZC7))) (oS [qA 51 6 3,oA (.store 6 (.t 2) (.t 51))] .ret)))
def fn7:FnI:=⟨1,ir7,[(2,some (6,true))]⟩
def ZC3:C:=.seq (oS [qM 28 7,qF 29 0 4,qF 30 0 29,qL 31 30,qN 32 31,qB 33 .lss 28 32] (cX 33 0)) (.seq (.block 1 (.draw [qF 36 2 6,qL 37 36,uF 38 0 4 [0,1],uF 39 0 38 [0,1],uL 40 39 [0,1],uM 41 7 [0,1,2,3,4],uI 42 1 40 41 [0,1],uL 43 42 [0,1],oB 44 (.mx true [.t 37,.t 43]),qF 45 2 6,⟨none,.store 1 (.t 45) (.t 44),none,[],3⟩])) (.ops [qM 34 7,qK 35 .add 34 1,qM 7 35]))
def ir8:C:=oS [oB 1 (.box (.t 0)),oB 2 (.alloc (.d (.agg [zD,zD,zD,zD,zD]))),qW 3 0] (oS [qA 9 6 1,qC 10 17 9,qM 8 10,qE 11 8 0,qE 12 8 1,oB 4 (.alloc (.agg [(.nilsl 1),(.nilsl 2),(.nilsl 2)])),oA (.store 3 (.t 4) (.t 11)),qM 5 12] (.seq (oS [qM 13 5,qK 14 .neq 13 0] (cY 14 (oS [oB 15 (.build [zI,zI,zI,zI,zI] []),qM 16 5,oA (.store 5 (.t 2) (.t 15)),qM 3 16] .ret) .skip)) (.seq (.draw [qF 17 0 4,qA 18 2 17,qC 19 18 18,uF 20 0 4 [0,1,2],uA 21 2 20 [0,1,2],qC 22 19 21,uF 23 1 1 [0,1,2,3,4,5],uL 24 23 [0,1,2,3,4,5],uF 25 0 1 [0,1,2,3,4,5,6,7],uL 26 25 [0,1,2,3,4,5,6,7],oB 27 (.build [zI,zI,zI,zI,zI] [(0,1,(.t 19)),(1,1,(.t 22)),(3,1,(.t 24)),(4,1,(.t 26))]),oM 6 (.alloc (.d (.agg [zD,zD,zD,zD,zD]))) [0,1,2,3,4,5,6,7,8,9,10],⟨none,.store 5 (.t 6) (.t 27),none,[],3⟩]) (.seq (oS [qW 7 0] (.block 0 (.loop [2,4,6,7] [2,6] ZC3))) (oS [qA 46 5 6,oA (.store 5 (.t 2) (.t 46)),qW 3 0] .ret)))))
def fn8:FnI:=⟨1,ir8,[(2,some (5,true)),(3,none)]⟩
def ir9:C:=oS [oB 1 (.box (.t 0)),qW 2 0] (oS [qF 7 4 1,qL 8 7,qC 9 20 8,qM 6 9,qE 10 6 0,qE 11 6 1,qM 3 10,qM 4 11] (oS [oB 5 (.mov (.c (.d (.fn 21 []))))] (.seq (oS [qM 12 4,qU 13 12,qM 14 13,vF 15 4 1 14 false,vL 16 15 14 false,vK 17 .gtr 16 4096 14 false,oB 18 (.pick (.t 14) bT (.t 17)),qM 19 18,vM 20 5 19 false,vF 21 3 1 19 false,vL 22 21 19 false,vF 23 4 1 19 false,vL 24 23 19 false,oG 25 (.callv (.t 20) [.t 22,.t 24]) 19 false,vU 26 25 19 false,oB 27 (.pick (.t 19) bT (.t 26)),qM 28 27,vM 29 5 28 false,vF 30 0 1 28 false,vL 31 30 28 false,oG 32 (.callv (.t 29) [.t 31,(iN 4096)]) 28 false,vU 33 32 28 false,oB 34 (.pick (.t 28) bT (.t 33)),qM 35 34,vM 36 5 35 false,vF 37 1 1 35 false,vL 38 37 35 false,vF 39 0 1 35 false,vL 40 39 35 false,oG 41 (.callv (.t 36) [.t 38,.t 40]) 35 false,vU 42 41 35 false,oB 43 (.pick (.t 35) bT (.t 42)),qM 44 43,vM 45 5 44 false,vF 46 2 1 44 false,vL 47 46 44 false,vF 48 1 1 44 false,vL 49 48 44 false,oG 50 (.callv (.t 45) [.t 47,.t 49]) 44 false,vU 51 50 44 false,oB 52 (.pick (.t 44) bT (.t 51))] (cY 52 (oS [qW 2 140] .ret) .skip)) (oS [qW 2 0] .ret))))
def fn9:FnI:=⟨1,ir9,[(2,none)]⟩
def ZJn:C:=oS [oB 1 (.box (.t 0)),qW 2 0,qW 3 0] (.seq (oS [qA 6 5 1,qC 7 9 6,qM 4 7] (oS [qM 8 4,qK 9 .neq 8 0] (cY 9 (oS [qM 10 4,qW 2 0,qM 3 10] .ret) .skip))) (oS [qA 11 5 1,qC 12 22 11,oB 13 (.invoke [(66,23),(89,132)] (.t 12) []),oB 5 (.alloc (.d (.agg [zD,zD]))),oA (.store 2 (.t 5) (.t 13))] (.seq (.draw [qF 14 0 5,qL 15 14,uF 16 1 5 [0,1],uL 17 16 [0,1],uM 2 15 [2,3],qM 3 17]) .ret)))
def ZFk:FnI:=⟨1,ZJn,[(2,none),(3,none)]⟩
def ZIW:C:=oS [oB 1 (.box (.t 0)),oB 2 (.mov bF)] (.seq (.draw [qA 3 5 1,qC 4 9 3,qK 5 .eql 4 0,qM 6 5,vA 7 5 1 6 true,oG 8 (.call 22 [.t 7]) 6 true,oG 9 (.invoke [(66,23),(89,132)] (.t 8) []) 6 true,wA 10 5 1 6 true [4,5,6],⟨some 11,.build [zI,zI,zI,zI,zI] [(0,5,(.t 10))],some (6,true),[4,5,6],0⟩,oG 12 (.call 23 [.t 11]) 6 true,oG 13 (.eqv [false,false] true (.t 9) (.t 12)) 6 true,qP 14 6 13,qM 2 14]) .ret)
def ZGm:FnI:=⟨1,ZIW,[(2,none)]⟩
def ZH2:C:=oS [oB 2 (.box (.t 0)),qW 4 0] (.seq (oS [qA 5 5 2,qC 6 9 5,qK 7 .neq 6 0,qM 8 7,vM 9 1 8 false,vK 10 .lss 9 1 8 false,oB 11 (.pick (.t 8) bT (.t 10)),qM 12 11,vM 13 1 12 false,vK 14 .gtr 13 8 12 false,oB 15 (.pick (.t 12) bT (.t 14))] (cY 15 (oS [qW 4 0] .ret) .skip)) (oS [qF 16 0 2,qL 17 16,qM 18 1,qK 19 .sub 18 1,qF 20 1 2,qL 21 20,qB 22 .mul 19 21,qB 23 .add 17 22,qM 24 1,qB 25 .quo 23 24,qM 4 25] .ret))
def ZFM:FnI:=⟨2,ZH2,[(4,none)]⟩
def ZAz:C:=oS [qB 33 .lss 32 31] (.seq (cX 33 0) (.seq (.block 1 (oS [qM 34 32,qM 6 34] (.ops [qM 35 5,qA 36 6 1,qM 37 6,oB 38 (.call 25 [.t 35,.t 36,.t 37])]))) (.ops [qK 39 .add 32 1,qM 32 39])))
def ZBj:C:=oS [qB 44 .lss 43 42] (.seq (cX 44 2) (.seq (.block 3 (oS [qI 45 2 41 43,qA 46 2 45,oB 8 (.alloc (.d (.agg [zD,zD]))),oA (.store 2 (.t 8) (.t 46))] (.draw [qM 47 5,uM 48 5 [0],oM 49 (.nilck (.t 48)) [0],uF 50 4 49 [0],uL 51 50 [0],uF 52 0 8 [0,1,2,3,4],uL 53 52 [0,1,2,3,4],oM 54 (.mapget [false] (.int .i64 0) (.t 51) (.t 53)) [0],uM 55 5 [0,1,2,3,4,5,6,7],oM 56 (.nilck (.t 55)) [0,1,2,3,4,5,6,7],uF 57 3 56 [0,1,2,3,4,5,6,7],uL 58 57 [0,1,2,3,4,5,6,7],uF 59 1 8 [0,1,2,3,4,5,6,7,8,9,10,11],uL 60 59 [0,1,2,3,4,5,6,7,8,9,10,11],oM 61 (.mapget [false] (.int .i64 0) (.t 58) (.t 60)) [0,1,2,3,4,5,6,7],⟨some 62,.call 26 [.t 47,.t 54,.t 61],none,[],4⟩]))) (.ops [qK 63 .add 43 1,qM 43 63])))
def Zzv:C:=oS [qB 68 .lss 67 66] (.seq (cX 68 4) (.seq (.block 5 (oS [qI 69 3 65 67,qA 70 3 69,oB 10 (.alloc (.d (.agg [zD,zD,zD]))),oA (.store 3 (.t 10) (.t 70))] (.draw [qM 71 5,uM 72 5 [0],oM 73 (.nilck (.t 72)) [0],uF 74 4 73 [0],uL 75 74 [0],uF 76 0 10 [0,1,2,3,4],uL 77 76 [0,1,2,3,4],oM 78 (.mapget [false] (.int .i64 0) (.t 75) (.t 77)) [0],uM 79 5 [0,1,2,3,4,5,6,7],oM 80 (.nilck (.t 79)) [0,1,2,3,4,5,6,7],uF 81 5 80 [0,1,2,3,4,5,6,7],uL 82 81 [0,1,2,3,4,5,6,7],uA 83 3 10 [0,1,2,3,4,5,6,7,8,9,10,11],oM 84 (.mapget [false,false,false] (.int .i64 0) (.t 82) (.t 83)) [0,1,2,3,4,5,6,7],⟨some 85,.call 26 [.t 71,.t 78,.t 84],none,[],4⟩]))) (.ops [qK 86 .add 67 1,qM 67 86])))
def ZBL:C:=oS [qB 103 .lss 102 101] (.seq (cX 103 8) (.seq (.block 9 (oS [qI 104 1 100 102,qL 105 104,qM 15 105] (.ops [qM 106 5,qM 107 5,oB 108 (.nilck (.t 107)),qF 109 4 108,qL 110 109,qM 111 15,oB 112 (.mapget [false] (.int .i64 0) (.t 110) (.t 111)),qM 113 13,oB 114 (.call 26 [.t 106,.t 112,.t 113])]))) (.ops [qK 115 .add 102 1,qM 102 115])))
def Zzk:C:=oS [qB 120 .lss 119 118] (.seq (cX 120 10) (.seq (.block 11 (oS [qI 121 1 117 119,qL 122 121,qM 17 122] (.ops [qM 123 5,qM 124 13,qM 125 5,oB 126 (.nilck (.t 125)),qF 127 3 126,qL 128 127,qM 129 17,oB 130 (.mapget [false] (.int .i64 0) (.t 128) (.t 129)),oB 131 (.call 26 [.t 123,.t 124,.t 130])]))) (.ops [qK 132 .add 119 1,qM 119 132])))
def ZAe:C:=oS [qB 91 .lss 90 89] (.seq (cX 91 6) (.seq (.block 7 (oS [qM 92 90,qI 93 2 88 90,qA 94 2 93,oB 12 (.alloc (.agg [(.nilsl 1),(.nilsl 1)])),qM 11 92,oA (.store 2 (.t 12) (.t 94))] (oS [qM 95 5,qM 96 11,oB 97 (.build [zI,zI] [(0,1,(iN (-1))),(1,1,(.t 96))]),oB 98 (.call 27 [.t 95,.t 97,(iN 1)]),qM 13 98] (.seq (oS [qF 99 0 12,qL 100 99,qN 101 100,qW 102 0] (.block 8 (.loop [2,5,12,13,88,89,90,100,101,102] [2,5,12,13,88,89,90] ZBL))) (oS [qF 116 1 12,qL 117 116,qN 118 117,qW 119 0] (.block 10 (.loop [2,5,13,88,89,90,117,118,119] [2,5,88,89,90] Zzk))))))) (.ops [qK 133 .add 90 1,qM 90 133])))
def ZID:C:=oS [oB 1 (.box (.t 0)),oB 2 (.alloc (.agg [(.nilsl 1),(.nilsl 2),(.nilsl 2)])),qW 3 0] (.seq (oS [qA 18 6 1,qC 19 24 18,qM 4 19] (oS [qM 20 4,qK 21 .neq 20 0] (cY 21 (oS [oB 22 (.build [(.nilsl 1),(.nilsl 2),(.nilsl 2)] []),qM 23 4,oA (.store 3 (.t 2) (.t 22)),qM 3 23] .ret) .skip))) (oS [oB 24 .mkmap,oB 25 .mkmap,oB 26 .mkmap,oB 27 (.build [(.nilsl 1),(.nilsl 2),(.nilsl 2),.bad,.bad,.bad] [(3,1,(.t 24)),(4,1,(.t 25)),(5,1,(.t 26))]),oB 28 (.box (.t 27)),qM 5 28] (.seq (oS [qF 29 2 1,qL 30 29,qN 31 30,qW 32 0] (.block 0 (.loop [1,2,5,31,32] [1,2,5] ZAz))) (.seq (oS [qF 40 3 1,qL 41 40,qN 42 41,qW 43 0] (.block 2 (.loop [1,2,5,41,42,43] [1,2,5] ZBj))) (.seq (oS [qF 64 4 1,qL 65 64,qN 66 65,qW 67 0] (.block 4 (.loop [1,2,5,65,66,67] [1,2,5] Zzv))) (.seq (oS [qF 87 5 1,qL 88 87,qN 89 88,qW 90 0] (.block 6 (.loop [2,5,88,89,90] [2,5] ZAe))) (.seq (oS [qM 134 5,oB 135 (.nilck (.t 134)),qF 136 0 135,qF 137 0 136,qA 138 2 137,qC 139 28 138,qK 140 .neq 139 0] (cY 140 (oS [oB 141 (.build [(.nilsl 1),(.nilsl 2),(.nilsl 2)] []),oA (.store 3 (.t 2) (.t 141)),qW 3 70] .ret) .skip)) (oS [qM 142 5,oB 143 (.nilck (.t 142)),qF 144 0 143,qA 145 3 144,oA (.store 3 (.t 2) (.t 145)),qW 3 0] .ret))))))))
def ZEI:FnI:=⟨1,ZID,[(2,some (3,true)),(3,none)]⟩
def ZAI:C:=oS [qB 13 .lss 12 11] (.seq (cX 13 0) (.seq (.block 1 (oS [qI 14 1 10 12,qL 15 14,qM 5 15] (.ops [qM 16 3,qM 17 5,qB 18 .add 16 17,qM 3 18]))) (.ops [qK 19 .add 12 1,qM 12 19])))
def ZH7:C:=oS [oB 1 (.box (.t 0)),qW 2 0] (oS [qW 3 0] (.seq (oS [qA 6 2 1,qC 7 28 6,qK 8 .eql 7 0] (cY 8 (oS [qF 9 0 1,qL 10 9,qN 11 10,qW 12 0] (.block 0 (.loop [3,10,11,12] [3] ZAI))) .skip)) (oS [qM 20 3,qM 2 20] .ret)))
def ZE7:FnI:=⟨1,ZH7,[(2,none)]⟩
def ZAD:C:=oS [qB 25 .lss 24 23] (.seq (cX 25 2) (.seq (.block 3 (oS [qI 26 1 22 24,qL 27 26,qM 8 27] (.draw [qM 28 3,uM 29 6 [0],uM 30 3 [0,1],uM 31 6 [0,1,2],uI 32 1 30 31 [0,1],uL 33 32 [0,1],uM 34 3 [0,1,2,3,4,5],uM 35 8 [0,1,2,3,4,5,6],uI 36 1 34 35 [0,1,2,3,4,5],uL 37 36 [0,1,2,3,4,5],oM 38 (.mx true [.t 33,.t 37]) [0,1],qI 39 1 28 29,⟨none,.store 1 (.t 39) (.t 38),none,[],3⟩]))) (.ops [qK 40 .add 24 1,qM 24 40])))
def ZBi:C:=oS [qB 17 .lss 16 15] (.seq (cX 17 0) (.seq (.block 1 (oS [qI 18 1 14 16,qL 19 18,qM 6 19] (.seq (oS [qA 20 2 1,qM 21 6,qD 22 30 20 21,qN 23 22,qW 24 0] (.block 2 (.loop [1,3,4,6,14,15,16,22,23,24] [1,3,4,6,14,15,16] ZAD))) (.seq (.draw [qM 41 3,uM 42 6 [0],qI 43 1 41 42,qL 44 43,uF 45 0 1 [0,1,2,3],uL 46 45 [0,1,2,3],uM 47 6 [0,1,2,3,4,5],uI 48 1 46 47 [0,1,2,3],uL 49 48 [0,1,2,3],qB 50 .add 44 49,qI 51 1 41 42,⟨none,.store 1 (.t 51) (.t 50),none,[],3⟩]) (.ops [qM 52 4,qM 53 3,qM 54 6,qI 55 1 53 54,qL 56 55,oB 57 (.mx true [.t 52,.t 56]),qM 4 57]))))) (.ops [qK 58 .add 16 1,qM 16 58])))
def ZHE:C:=oS [oB 1 (.box (.t 0)),qW 2 0] (oS [qF 9 0 1,qL 10 9,qN 11 10,oB 12 (.mkslice 1 [zD] (.t 11) (.t 11)),qM 3 12] (oS [qW 4 0] (.seq (oS [qA 13 2 1,qC 14 29 13,qN 15 14,qW 16 0] (.block 0 (.loop [1,3,4,14,15,16] [4] ZBi))) (oS [qM 59 4,qM 2 59] .ret))))
def ZEO:FnI:=⟨1,ZHE,[(2,none)]⟩
def Zzf:C:=.seq (oS [qM 12 4,qM 13 0,qN 14 13,qB 15 .lss 12 14] (cX 15 0)) (.seq (.block 1 (.ops [qM 18 3,qM 19 0,qM 20 4,qI 21 1 19 20,qL 22 21,oB 23 (.mx true [.t 18,.t 22]),qM 3 23])) (.ops [qM 16 4,qK 17 .add 16 1,qM 4 17]))
def ZHl:C:=oS [qW 2 0] (.seq (oS [qM 5 0,qN 6 5,qK 7 .lss 6 1] (cY 7 (.ops [oB 8 (.mkif 9 (.c (.d (.str ⟨#[115,108,105,99,101,115,46,77,97,120,58,32,101,109,112,116,121,32,108,105,115,116]⟩)))),oA (.panic)]) .skip)) (oS [qM 9 0,oB 10 (.iaddr 1 (.t 9) (iN 0)),qL 11 10,qM 3 11] (.seq (oS [qW 4 1] (.block 0 (.loop [0,3,4] [3] Zzf))) (oS [qM 24 3,qM 2 24] .ret))))
def ZE3:FnI:=⟨1,ZHl,[(2,none)]⟩
def ZG3:C:=oS [oB 1 (.box (.t 0)),oB 2 (.alloc (.agg [(.nilsl 1),(.nilsl 2),(.nilsl 2)])),qW 3 0] (oS [qA 6 6 1,qC 7 31 6,qM 4 7] (.seq (oS [qM 8 4,qK 9 .neq 8 0] (cY 9 (oS [oB 10 (.build [(.nilsl 1),(.nilsl 2),(.nilsl 2)] []),qM 11 4,oA (.store 3 (.t 2) (.t 10)),qM 3 11] .ret) .skip)) (oS [qA 12 6 1,qC 13 32 12,oB 5 (.alloc (.agg [(.nilsl 1),(.nilsl 2),(.nilsl 2)])),oA (.store 3 (.t 5) (.t 13))] (.seq (oS [qF 14 0 5,qA 15 2 14,qC 16 33 15,qK 17 .neq 16 0] (cY 17 (oS [oB 18 (.build [(.nilsl 1),(.nilsl 2),(.nilsl 2)] []),oA (.store 3 (.t 2) (.t 18)),qW 3 70] .ret) .skip)) (oS [qA 19 3 5,oA (.store 3 (.t 2) (.t 19)),qW 3 0] .ret)))))
def ZFb:FnI:=⟨1,ZG3,[(2,some (3,true)),(3,none)]⟩
def ZAf:C:=.seq (oS [qM 5 4,qF 6 0 1,qL 7 6,qN 8 7,qB 9 .lss 5 8] (cX 9 0)) (.seq (.block 1 (.ops [qM 12 3,qF 13 0 1,qL 14 13,qM 15 4,qI 16 1 14 15,qL 17 16,qB 18 .add 12 17,qM 3 18])) (.ops [qM 10 4,qK 11 .add 10 1,qM 4 11]))
def ZJl:C:=oS [oB 1 (.box (.t 0)),qW 2 0] (oS [qW 3 0] (.seq (oS [qW 4 0] (.block 0 (.loop [1,3,4] [3] ZAf))) (oS [qM 19 3,qM 2 19] .ret)))
def ZE4:FnI:=⟨1,ZJl,[(2,none)]⟩
def ZBn:C:=.seq (oS [qM 20 5,qF 21 1 1,qL 22 21,qN 23 22,qB 24 .lss 20 23] (cX 24 2)) (.seq (.block 3 (oS [qF 27 1 1,qL 28 27,qM 29 5,qI 30 2 28 29,qA 31 2 30,oB 6 (.alloc (.d (.agg [zD,zD]))),oA (.store 2 (.t 6) (.t 31))] (.seq (.draw [qM 32 3,uF 33 0 6 [0],uL 34 33 [0],qI 35 1 32 34,qL 36 35,uF 37 0 1 [0,1,2,3,4],uL 38 37 [0,1,2,3,4],uF 39 1 6 [0,1,2,3,4,5,6],uL 40 39 [0,1,2,3,4,5,6],uI 41 1 38 40 [0,1,2,3,4],uL 42 41 [0,1,2,3,4],qB 43 .add 36 42,uM 44 3 [0,1,2,3,4,5,6,7,8,9,10,11],uF 45 1 6 [0,1,2,3,4,5,6,7,8,9,10,11,12],uL 46 45 [0,1,2,3,4,5,6,7,8,9,10,11,12],uI 47 1 44 46 [0,1,2,3,4,5,6,7,8,9,10,11],uL 48 47 [0,1,2,3,4,5,6,7,8,9,10,11],qB 49 .gtr 43 48]) (cY 49 (.draw [qM 50 3,uF 51 1 6 [0],uL 52 51 [0],uM 53 3 [0,1,2],uF 54 0 6 [0,1,2,3],uL 55 54 [0,1,2,3],uI 56 1 53 55 [0,1,2],uL 57 56 [0,1,2],uF 58 0 1 [0,1,2,3,4,5,6,7],uL 59 58 [0,1,2,3,4,5,6,7],uF 60 1 6 [0,1,2,3,4,5,6,7,8,9],uL 61 60 [0,1,2,3,4,5,6,7,8,9],uI 62 1 59 61 [0,1,2,3,4,5,6,7],uL 63 62 [0,1,2,3,4,5,6,7],oM 64 (.bin .add (.t 57) (.t 63)) [0,1,2],qI 65 1 50 52,⟨none,.store 1 (.t 65) (.t 64),none,[],3⟩]) .skip)))) (.ops [qM 25 5,qK 26 .add 25 1,qM 5 26]))
def Zzm:C:=.seq (oS [qM 13 4,qF 14 0 1,qL 15 14,qN 16 15,qB 17 .lss 13 16] (cX 17 0)) (.seq (.block 1 (oS [qW 5 0] (.block 2 (.loop [1,3,4,5] [1,3,4] ZBn)))) (.ops [qM 18 4,qK 19 .add 18 1,qM 4 19]))
def ZBO:C:=.seq (oS [qM 66 8,qM 67 3,qN 68 67,qB 69 .lss 66 68] (cX 69 4)) (.seq (.block 5 (.ops [qM 72 7,qM 73 3,qM 74 8,qI 75 1 73 74,qL 76 75,oB 77 (.mx true [.t 72,.t 76]),qM 7 77])) (.ops [qM 70 8,qK 71 .add 70 1,qM 8 71]))
def ZJq:C:=oS [oB 1 (.box (.t 0)),qW 2 0] (oS [oB 9 (.bslice 1 [zD] 0 []),qF 10 0 1,qL 11 10,oB 12 (.append 1 (.t 9) (.t 11)),qM 3 12] (.seq (oS [qW 4 0] (.block 0 (.loop [1,3,4] [3] Zzm))) (oS [qW 7 0] (.seq (oS [qW 8 0] (.block 4 (.loop [3,7,8] [7] ZBO))) (oS [qM 78 7,qM 2 78] .ret)))))
def ZDt:FnI:=⟨1,ZJq,[(2,none)]⟩
def ZIM:C:=oS [qW 2 0,oB 3 (.mov bF)] (.seq (oS [qM 4 0,qC 5 34 4,qK 6 .neq 5 0,qM 7 6,vM 8 0 7 false,oG 9 (.conv .u64 (.t 8)) 7 false,oG 10 (.call 35 [.t 9]) 7 false,vK 11 .neq 10 1 7 false,oB 12 (.pick (.t 7) bT (.t 11))] (cY 12 (oS [qW 2 0,oB 3 (.mov bF)] .ret) .skip)) (oS [qM 13 0,oB 14 (.conv .u64 (.t 13)),qC 15 36 14,qM 2 15,oB 3 (.mov bT)] .ret))
def ZEa:FnI:=⟨1,ZIM,[(2,none),(3,none)]⟩
def ZHS:C:=oS [oB 4 (.mov bF)] (oS [qM 5 0,qK 6 .geq 5 1,qM 7 6,vM 8 0 7 true,vM 9 1 7 true,vB 10 .leq 8 9 7 true,qP 11 7 10,qM 4 11] .ret)
def ZEN:FnI:=⟨2,ZHS,[(4,none)]⟩
def ZJc:C:=oS [oB 1 (.box (.t 0)),oB 2 (.mov (.c (.d (.nilI))))] (.seq (oS [qF 3 0 1,qL 4 3,qF 5 3 1,qL 6 5,qB 7 .gtr 4 6] (cY 7 (oS [qA 8 5 1,oB 9 (.build [zI,zI,zI,zI,zI] [(0,5,(.t 8))]),oB 10 (.mkif 89 (.t 9)),qM 2 10] .ret) .skip)) (oS [qA 11 5 1,oB 12 (.build [zI,zI,zI,zI,zI] [(0,5,(.t 11))]),oB 13 (.mkif 66 (.t 12)),qM 2 13] .ret))
def ZF4:FnI:=⟨1,ZJc,[(2,none)]⟩
def ZHP:C:=oS [oB 1 (.box (.t 0)),oB 2 (.alloc (.d (.agg [zD,zD])))] (oS [oB 3 (.build [zI,zI] [(0,1,(iN 1))]),oA (.store 2 (.t 2) (.t 3))] .ret)
def ZGr:FnI:=⟨1,ZHP,[(2,some (2,true))]⟩
def Zz5:C:=oS [qB 64 .lss 63 62] (.seq (cX 64 0) (.seq (.block 1 (oS [qM 65 63,qI 66 2 61 63,qA 67 2 66,oB 6 (.alloc (.d (.agg [zD,zD]))),qM 5 65,oA (.store 2 (.t 6) (.t 67))] (.seq (.draw [qA 68 6 1,uF 69 0 6 [0],uL 70 69 [0],uF 71 1 6 [0,1,2],uL 72 71 [0,1,2],oB 73 (.call 40 [.t 68,.t 70,.t 72]),qU 74 73,qM 75 74,vF 76 3 1 75 false,vL 77 76 75 false,wM 78 5 75 false [8,9],oG 79 (.slice 2 (.t 77) none (some (.t 78)) none) 75 false,wA 80 2 6 75 false [8,9,10,11],oG 81 (.call 41 [.t 79,.t 80]) 75 false,oB 82 (.pick (.t 75) bT (.t 81))]) (cY 82 (oS [qW 2 53] .ret) .skip)))) (.ops [qK 83 .add 63 1,qM 63 83])))
def Zzx:C:=oS [qB 88 .lss 87 86] (.seq (cX 88 2) (.seq (.block 3 (oS [qM 89 87,qI 90 3 85 87,qA 91 3 90,oB 8 (.alloc (.d (.agg [zD,zD,zD]))),qM 7 89,oA (.store 3 (.t 8) (.t 91))] (oS [oB 92 (.mkfn 42 [.t 8]),qM 9 92] (.seq (.draw [qA 93 6 1,uF 94 0 8 [0],uL 95 94 [0],uF 96 1 8 [0,1,2],uL 97 96 [0,1,2],oB 98 (.call 40 [.t 93,.t 95,.t 97]),qU 99 98,qM 100 99,vF 101 2 8 100 false,vL 102 101 100 false,wF 103 2 1 100 false [8,9],wL 104 103 100 false [8,9],wF 105 1 8 100 false [8,9,10,11],wL 106 105 100 false [8,9,10,11],wI 107 3 104 106 100 false [8,9],wF 108 2 107 100 false [8,9],wL 109 108 100 false [8,9],⟨some 110,.bin .sub (.t 109) (iN 1),some (100,false),[8,9],0⟩,oG 111 (.call 37 [.t 102,(iN 1),.t 110]) 100 false,vU 112 111 100 false,oB 113 (.pick (.t 100) bT (.t 112)),qM 114 113,vF 115 4 1 114 false,vL 116 115 114 false,wM 117 7 114 false [22,23],oG 118 (.slice 3 (.t 116) none (some (.t 117)) none) 114 false,wM 119 9 114 false [22,23,24,25],oG 120 (.call 43 [.t 118,.t 119]) 114 false,oB 121 (.pick (.t 114) bT (.t 120))]) (cY 121 (oS [qW 2 54] .ret) .skip))))) (.ops [qK 122 .add 87 1,qM 87 122])))
def ZA2:C:=oS [qB 127 .lss 126 125] (.seq (cX 127 4) (.seq (.block 5 (oS [qI 128 2 124 126,qA 129 2 128,oB 11 (.alloc (.agg [(.nilsl 1),(.nilsl 1)])),oA (.store 2 (.t 11) (.t 129))] (oS [oB 130 (.mkfn 44 [.t 11]),qM 12 130] (oS [qA 131 6 1,qF 132 0 11,qL 133 132,qD 134 46 131 133,qU 135 134,qM 136 135,vA 137 6 1 136 false,vF 138 1 11 136 false,vL 139 138 136 false,oG 140 (.call 46 [.t 137,.t 139]) 136 false,vU 141 140 136 false,oB 142 (.pick (.t 136) bT (.t 141)),qM 143 142,vF 144 0 11 143 false,vL 145 144 143 false,vM 146 12 143 false,oG 147 (.call 47 [.t 145,.t 146]) 143 false,oB 148 (.pick (.t 143) bT (.t 147))] (cY 148 (oS [qW 2 55] .ret) .skip))))) (.ops [qK 149 .add 126 1,qM 126 149])))
def ZIc:C:=oS [oB 1 (.box (.t 0)),qW 2 0] (.seq (oS [qF 13 2 1,qL 14 13,qN 15 14,oB 16 (.call 37 [.t 15,(iN 1),(iN 16)]),qU 17 16,qM 18 17,vF 19 3 1 18 false,vL 20 19 18 false,vN 21 20 18 false,vK 22 .gtr 21 48 18 false,oB 23 (.pick (.t 18) bT (.t 22)),qM 24 23,vF 25 4 1 24 false,vL 26 25 24 false,vN 27 26 24 false,vK 28 .gtr 27 16 24 false,oB 29 (.pick (.t 24) bT (.t 28)),qM 30 29,vF 31 5 1 30 false,vL 32 31 30 false,vN 33 32 30 false,vK 34 .gtr 33 4 30 false,oB 35 (.pick (.t 30) bT (.t 34))] (cY 35 (oS [qW 2 50] .ret) .skip)) (.seq (oS [qF 37 0 1,qL 38 37,qC 39 20 38,qM 36 39,qE 40 36 0,qE 41 36 1,qM 3 40,qM 4 41] (oS [qM 42 4,qU 43 42,qM 44 43,vF 45 0 1 44 false,vL 46 45 44 false,vK 47 .gtr 46 4096 44 false,oB 48 (.pick (.t 44) bT (.t 47)),qM 49 48,vF 50 1 1 49 false,vL 51 50 49 false,vF 52 0 1 49 false,vL 53 52 49 false,oG 54 (.call 37 [.t 51,(iN 1),.t 53]) 49 false,vU 55 54 49 false,oB 56 (.pick (.t 49) bT (.t 55))] (cY 56 (oS [qW 2 51] .ret) .skip))) (.seq (oS [qF 57 2 1,qL 58 57,oB 59 (.call 38 [.t 58,(.c (.d (.fn 39 [])))])] (cY 59 (oS [qW 2 52] .ret) .skip)) (.seq (oS [qF 60 3 1,qL 61 60,qN 62 61,qW 63 0] (.block 0 (.loop [1,61,62,63] [1,2] Zz5))) (.seq (oS [qF 84 4 1,qL 85 84,qN 86 85,qW 87 0] (.block 2 (.loop [1,85,86,87] [1,2] Zzx))) (.seq (oS [qF 123 5 1,qL 124 123,qN 125 124,qW 126 0] (.block 4 (.loop [1,124,125,126] [2] ZA2))) (oS [qW 2 0] .ret)))))))
def ZDD:FnI:=⟨1,ZIc,[(2,none)]⟩
def ZsL:C:=oS [qB 28 .lss 27 26] (.seq (cX 28 0) (.seq (.block 1 (oS [qM 29 27,qM 8 29] (oS [qF 30 2 4,qL 31 30,qM 32 2,qI 33 3 31 32,qF 34 2 33,qL 35 34,qM 9 35] (.seq (oS [qM 36 8,qM 37 7,qN 38 37,qB 39 .lss 36 38] (cY 39 (.draw [qF 40 4 4,qL 41 40,uM 42 7 [0,1],uM 43 8 [0,1,2],uI 44 1 42 43 [0,1],uL 45 44 [0,1],qI 46 3 41 45,qF 47 2 46,qL 48 47,qM 9 48]) .skip)) (.seq (.draw [qM 49 0,oB 50 (.nilck (.t 49)),qF 51 4 50,⟨some 52,.load 1 false (.t 51),none,[],1⟩,uM 53 2 [0,1,2,3],uM 54 0 [0,1,2,3,4],uM 55 2 [0,1,2,3,4,5],uM 56 8 [0,1,2,3,4,5,6],oM 57 (.build [zI,zI] [(0,1,(.t 55)),(1,1,(.t 56))]) [0,1,2,3,4,5],uM 58 9 [0,1,2,3,4,5,6,7,8],uM 59 6 [0,1,2,3,4,5,6,7,8,9],oM 60 (.bin .sub (.t 58) (.t 59)) [0,1,2,3,4,5,6,7,8],⟨some 61,.callk 27 [.t 54,.t 57,.t 60] [.t 51],none,[],4⟩,⟨none,.mapset [false] (.t 52) (.t 53) (.t 61),none,[],4⟩]) (.seq (oS [qM 62 8,qK 63 .gtr 62 0] (cY 63 (.seq (.draw [qM 64 0,uM 65 0 [0],oM 66 (.nilck (.t 65)) [0],uF 67 4 66 [0],uL 68 67 [0],uM 69 2 [0,1,2,3,4],oM 70 (.mapget [false] (.int .i64 0) (.t 68) (.t 69)) [0],oM 71 (.bin .sub (.t 70) (iN 1)) [0],uM 72 0 [0,1,2,3,4,5,6,7],oM 73 (.nilck (.t 72)) [0,1,2,3,4,5,6,7],uF 74 4 73 [0,1,2,3,4,5,6,7],uL 75 74 [0,1,2,3,4,5,6,7],uM 76 2 [0,1,2,3,4,5,6,7,8,9,10,11],oM 77 (.mapget [false] (.int .i64 0) (.t 75) (.t 76)) [0,1,2,3,4,5,6,7],⟨some 78,.call 26 [.t 64,.t 71,.t 77],none,[],4⟩]) (.draw [qM 79 0,oB 80 (.nilck (.t 79)),qF 81 5 80,qL 82 81,uF 83 4 4 [0,1,2,3],uL 84 83 [0,1,2,3],uM 85 7 [0,1,2,3,4,5],uM 86 8 [0,1,2,3,4,5,6],oM 87 (.bin .sub (.t 86) (iN 1)) [0,1,2,3,4,5,6],uI 88 1 85 87 [0,1,2,3,4,5],uL 89 88 [0,1,2,3,4,5],uI 90 3 84 89 [0,1,2,3],uA 91 3 90 [0,1,2,3],uM 92 0 [0,1,2,3,4,5,6,7,8,9,10,11,12],oM 93 (.nilck (.t 92)) [0,1,2,3,4,5,6,7,8,9,10,11,12],uF 94 4 93 [0,1,2,3,4,5,6,7,8,9,10,11,12],uL 95 94 [0,1,2,3,4,5,6,7,8,9,10,11,12],uM 96 2 [0,1,2,3,4,5,6,7,8,9,10,11,12,13,14,15,16],oM 97 (.mapget [false] (.int .i64 0) (.t 95) (.t 96)) [0,1,2,3,4,5,6,7,8,9,10,11,12],⟨none,.mapset [false,false,false] (.t 82) (.t 91) (.t 97),none,[],4⟩])) .skip)) (.ops [qM 98 9,qM 6 98]))))))) (.ops [qK 99 .add 27 1,qM 27 99])))
def ZGX:C:=oS [oB 4 (.box (.t 1))] (oS [qW 6 0] (.seq (.draw [qM 10 0,oB 11 (.nilck (.t 10)),qF 12 3 11,qL 13 12,uM 14 2 [0,1,2,3],uM 15 0 [0,1,2,3,4],oM 16 (.nilck (.t 15)) [0,1,2,3,4],uF 17 0 16 [0,1,2,3,4],uF 18 2 17 [0,1,2,3,4],uL 19 18 [0,1,2,3,4],uN 20 19 [0,1,2,3,4],⟨none,.mapset [false] (.t 13) (.t 14) (.t 20),none,[],4⟩]) (oS [qA 21 6 4,qM 22 2,qD 23 48 21 22,qM 7 23] (oS [qM 24 7,qN 25 24,qK 26 .add 25 1,qW 27 0] (.block 0 (.loop [0,2,4,6,7,26,27] [] ZsL))))))
def ZEM:FnI:=⟨3,ZGX,[]⟩
def ZH0:C:=.ops [qM 6 0,qM 7 0,oB 8 (.nilck (.t 7)),qF 9 0 8,qF 10 0 9,qF 11 1 10,qL 12 11,qM 13 1,qM 14 2,oB 15 (.build [zI,zI] [(0,1,(.t 13)),(1,1,(.t 14))]),oB 16 (.bslice 2 [zD,zD] 1 [(0,(.t 15))]),oB 17 (.append 2 (.t 12) (.t 16)),oB 18 (.nilck (.t 6)),qF 19 0 18,qF 20 0 19,qF 21 1 20,oA (.store 1 (.t 21) (.t 17))]
def ZDA:FnI:=⟨3,ZH0,[]⟩
def ZJt:C:=oS [oB 4 (.box (.t 1)),qW 6 0] (.seq (.draw [qM 7 0,uM 8 0 [0],oM 9 (.nilck (.t 8)) [0],uF 10 0 9 [0],uF 11 2 10 [0],uL 12 11 [0],uA 13 2 4 [0,1,2,3,4,5],oM 14 (.bslice 2 [zD,zD] 1 [(0,(.t 13))]) [0,1,2,3,4,5],⟨some 15,.append 2 (.t 12) (.t 14),none,[],4⟩,oB 16 (.nilck (.t 7)),qF 17 0 16,qF 18 2 17,⟨none,.store 1 (.t 18) (.t 15),none,[],3⟩]) (oS [qM 19 0,qM 20 0,oB 21 (.nilck (.t 20)),qF 22 0 21,qF 23 0 22,qF 24 0 23,qL 25 24,qM 26 2,oB 27 (.bslice 1 [zD] 1 [(0,(.t 26))]),oB 28 (.append 1 (.t 25) (.t 27)),oB 29 (.nilck (.t 19)),qF 30 0 29,qF 31 0 30,qF 32 0 31,oA (.store 1 (.t 32) (.t 28))] (oS [qM 33 0,oB 34 (.nilck (.t 33)),qF 35 0 34,qF 36 2 35,qL 37 36,qN 38 37,qK 39 .sub 38 1,qM 6 39] .ret)))
def ZDx:FnI:=⟨3,ZJt,[(6,none)]⟩
def Zy2:C:=oS [qB 26 .lss 25 24] (.seq (cX 26 0) (.seq (.block 1 (oS [qM 27 25,qI 28 2 23 25,qA 29 2 28,oB 5 (.alloc (.d (.agg [zD,zD]))),qM 4 27,oA (.store 2 (.t 5) (.t 29))] (.seq (.draw [qM 30 3,uF 31 0 5 [0],uL 32 31 [0],oB 33 (.callv (.t 30) [.t 32]),qU 34 33,qM 35 34,vM 36 3 35 false,wF 37 1 5 35 false [6],wL 38 37 35 false [6],oG 39 (.callv (.t 36) [.t 38]) 35 false,vU 40 39 35 false,oB 41 (.pick (.t 35) bT (.t 40)),qM 42 41,vF 43 0 5 42 false,vL 44 43 42 false,wF 45 1 5 42 false [13,14],wL 46 45 42 false [13,14],vB 47 .eql 44 46 42 false,oB 48 (.pick (.t 42) bT (.t 47)),qM 49 48,vF 50 1 1 49 false,vL 51 50 49 false,wM 52 4 49 false [20,21],oG 53 (.slice 2 (.t 51) none (some (.t 52)) none) 49 false,wA 54 2 5 49 false [20,21,22,23],oG 55 (.call 41 [.t 53,.t 54]) 49 false,oB 56 (.pick (.t 49) bT (.t 55))]) (cY 56 (oS [qW 2 42] .ret) .skip)))) (.ops [qK 57 .add 25 1,qM 25 57])))
def ZGM:C:=oS [oB 1 (.box (.t 0)),qW 2 0] (.seq (oS [qF 8 0 1,qL 9 8,qN 10 9,qK 11 .gtr 10 64,qM 12 11,vF 13 1 1 12 false,vL 14 13 12 false,vN 15 14 12 false,vK 16 .gtr 15 256 12 false,oB 17 (.pick (.t 12) bT (.t 16))] (cY 17 (oS [qW 2 40] .ret) .skip)) (.seq (oS [qF 18 0 1,qL 19 18,oB 20 (.call 47 [.t 19,(.c (.d (.fn 49 [])))])] (cY 20 (oS [qW 2 41] .ret) .skip)) (oS [oB 21 (.mkfn 50 [.t 1]),qM 3 21] (.seq (oS [qF 22 1 1,qL 23 22,qN 24 23,qW 25 0] (.block 0 (.loop [1,3,23,24,25] [1,2] Zy2))) (.seq (oS [qA 59 2 1,qC 60 51 59,qM 58 60,qE 61 58 0,qE 62 58 1,qM 6 61,qM 7 62] (oS [qM 63 7,qU 64 63] (cY 64 (oS [qW 2 43] .ret) .skip))) (oS [qW 2 0] .ret))))))
def ZD0:FnI:=⟨1,ZGM,[(2,none)]⟩
def ZIn:C:=oS [oB 1 (.box (.t 0)),oB 2 (.mov (.c (.nilsl 1)))] (.seq (oS [qA 5 2 1,qC 6 28 5,qK 7 .neq 6 0] (cY 7 (oS [oB 2 (.mov (.c (.nilsl 1)))] .ret) .skip)) (oS [qA 9 2 1,qC 10 51 9,qM 8 10,qE 11 8 0,qE 12 8 1,qM 3 11,qM 4 12] (oS [qM 13 3,qM 2 13] .ret)))
def ZD2:FnI:=⟨1,ZIn,[(2,none)]⟩
def ZHQ:C:=oS [oB 2 (.box (.t 0)),oB 3 (.box (.t 1)),oB 4 (.mov (.c (.nilsl 1)))] (oS [qA 5 2 2,oB 6 (.mkfn 53 [.t 3]),qD 7 52 5 6,qM 4 7] .ret)
def ZDJ:FnI:=⟨2,ZHQ,[(4,none)]⟩
def ZIw:C:=oS [oB 1 (.box (.t 0)),qW 2 0] (.seq (oS [qF 3 2 1,qL 4 3,qN 5 4,qK 6 .lss 5 1,qM 7 6,vF 8 2 1 7 false,vL 9 8 7 false,vN 10 9 7 false,vK 11 .gtr 10 16 7 false,oB 12 (.pick (.t 7) bT (.t 11)),qM 13 12,vF 14 3 1 13 false,vL 15 14 13 false,vN 16 15 13 false,vK 17 .gtr 16 48 13 false,oB 18 (.pick (.t 13) bT (.t 17)),qM 19 18,vF 20 4 1 19 false,vL 21 20 19 false,vN 22 21 19 false,vK 23 .gtr 22 16 19 false,oB 24 (.pick (.t 19) bT (.t 23)),qM 25 24,vF 26 5 1 25 false,vL 27 26 25 false,vN 28 27 25 false,vK 29 .gtr 28 4 25 false,oB 30 (.pick (.t 25) bT (.t 29))] (cY 30 (oS [qW 2 50] .ret) .skip)) (.seq (oS [qA 31 6 1,qC 32 54 31,qU 33 32] (cY 33 (oS [qW 2 51] .ret) .skip)) (.seq (oS [qA 34 6 1,qC 35 55 34,qU 36 35] (cY 36 (oS [qW 2 52] .ret) .skip)) (.seq (oS [qA 37 6 1,qC 38 56 37,qU 39 38] (cY 39 (oS [qW 2 53] .ret) .skip)) (.seq (oS [qA 40 6 1,qC 41 57 40,qU 42 41] (cY 42 (oS [qW 2 54] .ret) .skip)) (.seq (oS [qA 43 6 1,qC 44 58 43,qU 45 44] (cY 45 (oS [qW 2 55] .ret) .skip)) (oS [qW 2 0] .ret)))))))
def ZD6:FnI:=⟨1,ZIw,[(2,none)]⟩
def ZzP:C:=.seq (oS [qM 27 7,qM 28 6,qN 29 28,qB 30 .lss 27 29] (cX 30 2)) (.seq (.block 3 (oS [qF 33 2 3,qL 34 33,qM 35 5,qM 36 7,oB 37 (.build [zI,zI] [(0,1,(.t 35)),(1,1,(.t 36))]),oB 38 (.bslice 2 [zD,zD] 1 [(0,(.t 37))]),oB 39 (.append 2 (.t 34) (.t 38)),qF 40 2 3,oA (.store 1 (.t 40) (.t 39))] (.seq (.draw [qF 41 0 3,qF 42 0 41,qL 43 42,uM 44 6 [0,1,2],uM 45 7 [0,1,2,3],uI 46 1 44 45 [0,1,2],uL 47 46 [0,1,2],oM 48 (.bslice 1 [zD] 1 [(0,(.t 47))]) [0,1,2],⟨some 49,.append 1 (.t 43) (.t 48),none,[],4⟩,qF 50 0 3,qF 51 0 50,⟨none,.store 1 (.t 51) (.t 49),none,[],3⟩]) (oS [qM 52 7,qK 53 .gtr 52 0] (cY 53 (.draw [qM 54 4,uA 55 6 1 [0],uM 56 5 [0,1],oM 57 (.call 60 [.t 55,.t 56]) [0],uM 58 7 [0,1,2,3],oM 59 (.bin .add (.t 57) (.t 58)) [0],oM 60 (.bin .sub (.t 59) (iN 1)) [0],uA 61 6 1 [0,1,2,3,4,5,6],uM 62 5 [0,1,2,3,4,5,6,7],oM 63 (.call 60 [.t 61,.t 62]) [0,4,5,6],uM 64 7 [0,1,2,3,4,5,6,7,8,9],oM 65 (.bin .add (.t 63) (.t 64)) [0,4,5,6],oM 66 (.build [zI,zI] [(0,1,(.t 60)),(1,1,(.t 65))]) [0],oM 67 (.bslice 2 [zD,zD] 1 [(0,(.t 66))]) [0],⟨some 68,.append 2 (.t 54) (.t 67),none,[],4⟩,qM 4 68]) .skip))))) (.ops [qM 31 7,qK 32 .add 31 1,qM 7 32]))
def ZAQ:C:=.seq (oS [qM 17 5,qF 18 2 1,qL 19 18,qN 20 19,qB 21 .lss 17 20] (cX 21 0)) (.seq (.block 1 (oS [qA 24 6 1,qM 25 5,qD 26 59 24 25,qM 6 26] (oS [qW 7 0] (.block 2 (.loop [1,2,3,4,5,6,7] [1,2,3,4,5] ZzP))))) (.ops [qM 22 5,qK 23 .add 22 1,qM 5 23]))
def ZBh:C:=.seq (oS [qM 69 8,qF 70 3 1,qL 71 70,qN 72 71,qB 73 .lss 69 72] (cX 73 4)) (.seq (.block 5 (.draw [qM 76 4,uA 77 6 1 [0],uF 78 3 1 [0,1],uL 79 78 [0,1],uM 80 8 [0,1,2,3],uI 81 2 79 80 [0,1],uF 82 0 81 [0,1],uL 83 82 [0,1],oM 84 (.call 61 [.t 77,.t 83]) [0],uA 85 6 1 [0,1,2,3,4,5,6,7,8],uF 86 3 1 [0,1,2,3,4,5,6,7,8,9],uL 87 86 [0,1,2,3,4,5,6,7,8,9],uM 88 8 [0,1,2,3,4,5,6,7,8,9,10,11],uI 89 2 87 88 [0,1,2,3,4,5,6,7,8,9],uF 90 1 89 [0,1,2,3,4,5,6,7,8,9],uL 91 90 [0,1,2,3,4,5,6,7,8,9],oM 92 (.call 60 [.t 85,.t 91]) [0],oM 93 (.build [zI,zI] [(0,1,(.t 84)),(1,1,(.t 92))]) [0],oM 94 (.bslice 2 [zD,zD] 1 [(0,(.t 93))]) [0],⟨some 95,.append 2 (.t 76) (.t 94),none,[],4⟩,qM 4 95])) (.ops [qM 74 8,qK 75 .add 74 1,qM 8 75]))
def ZA0:C:=.seq (oS [qM 96 9,qF 97 4 1,qL 98 97,qN 99 98,qB 100 .lss 96 99] (cX 100 6)) (.seq (.block 7 (.draw [qM 103 4,uA 104 6 1 [0],uF 105 4 1 [0,1],uL 106 105 [0,1],uM 107 9 [0,1,2,3],uI 108 3 106 107 [0,1],uF 109 0 108 [0,1],uL 110 109 [0,1],oM 111 (.call 61 [.t 104,.t 110]) [0],uA 112 6 1 [0,1,2,3,4,5,6,7,8],uF 113 4 1 [0,1,2,3,4,5,6,7,8,9],uL 114 113 [0,1,2,3,4,5,6,7,8,9],uM 115 9 [0,1,2,3,4,5,6,7,8,9,10,11],uI 116 3 114 115 [0,1,2,3,4,5,6,7,8,9],uA 117 3 116 [0,1,2,3,4,5,6,7,8,9],oM 118 (.call 62 [.t 112,.t 117]) [0],oM 119 (.build [zI,zI] [(0,1,(.t 111)),(1,1,(.t 118))]) [0],oM 120 (.bslice 2 [zD,zD] 1 [(0,(.t 119))]) [0],⟨some 121,.append 2 (.t 103) (.t 120),none,[],4⟩,qM 4 121])) (.ops [qM 101 9,qK 102 .add 101 1,qM 9 102]))
def Zzp:C:=.seq (oS [qM 151 13,qF 152 0 12,qL 153 152,qN 154 153,qB 155 .lss 151 154] (cX 155 10)) (.seq (.block 11 (.draw [qM 158 4,uA 159 6 1 [0],uF 160 0 12 [0,1],uL 161 160 [0,1],uM 162 13 [0,1,2,3],uI 163 1 161 162 [0,1],uL 164 163 [0,1],oM 165 (.call 61 [.t 159,.t 164]) [0],uM 166 11 [0,1,2,3,4,5,6,7],oM 167 (.build [zI,zI] [(0,1,(.t 165)),(1,1,(.t 166))]) [0],oM 168 (.bslice 2 [zD,zD] 1 [(0,(.t 167))]) [0],⟨some 169,.append 2 (.t 158) (.t 168),none,[],4⟩,qM 4 169])) (.ops [qM 156 13,qK 157 .add 156 1,qM 13 157]))
def ZA9:C:=.seq (oS [qM 170 14,qF 171 1 12,qL 172 171,qN 173 172,qB 174 .lss 170 173] (cX 174 12)) (.seq (.block 13 (.draw [qM 177 4,uM 178 11 [0],uA 179 6 1 [0,1],uF 180 1 12 [0,1,2],uL 181 180 [0,1,2],uM 182 14 [0,1,2,3,4],uI 183 1 181 182 [0,1,2],uL 184 183 [0,1,2],oM 185 (.call 60 [.t 179,.t 184]) [0,1],oM 186 (.build [zI,zI] [(0,1,(.t 178)),(1,1,(.t 185))]) [0],oM 187 (.bslice 2 [zD,zD] 1 [(0,(.t 186))]) [0],⟨some 188,.append 2 (.t 177) (.t 187),none,[],4⟩,qM 4 188])) (.ops [qM 175 14,qK 176 .add 175 1,qM 14 176]))
def ZzL:C:=.seq (oS [qM 122 10,qF 123 5 1,qL 124 123,qN 125 124,qB 126 .lss 122 125] (cX 126 8)) (.seq (.block 9 (oS [qF 129 2 3,qL 130 129,qN 131 130,qM 11 131] (oS [qF 132 2 3,qL 133 132,qM 134 10,oB 135 (.build [zI,zI] [(0,1,(iN (-1))),(1,1,(.t 134))]),oB 136 (.bslice 2 [zD,zD] 1 [(0,(.t 135))]),oB 137 (.append 2 (.t 133) (.t 136)),qF 138 2 3,oA (.store 1 (.t 138) (.t 137))] (oS [qF 139 0 3,qF 140 0 139,qL 141 140,oB 142 (.bslice 1 [zD] 1 [(0,(iN 1))]),oB 143 (.append 1 (.t 141) (.t 142)),qF 144 0 3,qF 145 0 144,oA (.store 1 (.t 145) (.t 143))] (oS [qF 146 5 1,qL 147 146,qM 148 10,qI 149 2 147 148,qA 150 2 149,oB 12 (.alloc (.agg [(.nilsl 1),(.nilsl 1)])),oA (.store 2 (.t 12) (.t 150))] (.seq (oS [qW 13 0] (.block 10 (.loop [1,2,3,4,10,11,12,13] [1,2,3,4,10,11,12] Zzp))) (oS [qW 14 0] (.block 12 (.loop [1,2,3,4,10,11,12,14] [1,2,3,4,10] ZA9))))))))) (.ops [qM 127 10,qK 128 .add 127 1,qM 10 128]))
def ZHY:C:=oS [oB 1 (.box (.t 0)),oB 2 (.alloc (.agg [(.nilsl 1),(.nilsl 2),(.nilsl 2)]))] (oS [oB 15 (.build [(.nilsl 1),(.nilsl 2),(.nilsl 2)] []),oB 3 (.alloc (.agg [(.nilsl 1),(.nilsl 2),(.nilsl 2)])),oA (.store 3 (.t 3) (.t 15))] (oS [oB 16 (.bslice 2 [zD,zD] 0 []),qM 4 16] (.seq (oS [qW 5 0] (.block 0 (.loop [1,2,3,4,5] [1,2,3,4] ZAQ))) (.seq (oS [qW 8 0] (.block 4 (.loop [1,2,3,4,8] [1,2,3,4] ZBh))) (.seq (oS [qW 9 0] (.block 6 (.loop [1,2,3,4,9] [1,2,3,4] ZA0))) (.seq (oS [qW 10 0] (.block 8 (.loop [1,2,3,4,10] [2,3,4] ZzL))) (oS [qM 189 4,qF 190 0 3,qF 191 1 190,oA (.store 1 (.t 191) (.t 189))] (oS [qA 192 3 3,oA (.store 3 (.t 2) (.t 192))] .ret))))))))
def ZD1:FnI:=⟨1,ZHY,[(2,some (3,true))]⟩
def ZAA:C:=.seq (oS [qM 10 4,qF 11 0 1,qL 12 11,qN 13 12,qB 14 .lss 10 13] (cX 14 0)) (.seq (.block 1 (oS [qA 17 2 1,qM 18 4,qD 19 64 17 18,qM 20 4,qI 21 1 19 20,qL 22 21] (cY 22 (oS [qW 2 43] .ret) .skip))) (.ops [qM 15 4,qK 16 .add 15 1,qM 4 16]))
def ZI4:C:=oS [oB 1 (.box (.t 0)),qW 2 0] (oS [qA 5 2 1,qC 6 63 5,qM 3 6] (.seq (oS [qM 7 3,qK 8 .neq 7 0] (cY 8 (oS [qM 9 3,qM 2 9] .ret) .skip)) (.seq (oS [qW 4 0] (.block 0 (.loop [1,4] [2] ZAA))) (oS [qW 2 0] .ret))))
def ZES:FnI:=⟨1,ZI4,[(2,none)]⟩
def ZHJ:C:=oS [qW 2 0] (.seq (.block 0 (oS [qM 4 0,qK 5 .lss 4 0,qM 3 5] (cY 3 (oS [qW 2 10] .ret) (oS [qM 7 0,qK 8 .gtr 7 1099511627775,qM 6 8] (cY 6 (oS [qW 2 11] .ret) .skip))))) (oS [qW 2 0] .ret))
def ZDX:FnI:=⟨1,ZHJ,[(2,none)]⟩
def ZIK:C:=oS [qW 2 0] (.seq (.cond bF (oS [qM 3 0,oB 4 (.conv .u32 (.t 3)),qC 5 65 4,qM 2 5] .ret) .skip) (oS [qM 6 0,qC 7 66 6,qM 2 7] .ret))
def ZEA:FnI:=⟨1,ZIK,[(2,none)]⟩
def ZHN:C:=oS [qW 2 0] (.seq (.cond bF (oS [qM 3 0,oB 4 (.conv .u32 (.t 3)),qC 5 67 4,qM 2 5] .ret) .skip) (oS [qM 6 0,qC 7 68 6,qM 2 7] .ret))
def ZEW:FnI:=⟨1,ZHN,[(2,none)]⟩
def ZI6:C:=oS [oB 6 (.mov bF)] (oS [qM 7 1,qM 8 0,qB 9 .leq 7 8,qM 10 9,vM 11 0 10 true,vM 12 2 10 true,vB 13 .leq 11 12 10 true,qP 14 10 13,qM 6 14] .ret)
def ZET:FnI:=⟨3,ZI6,[(6,none)]⟩
def ZH3:C:=oS [oB 4 (.mov bF)] (oS [qM 5 0,qM 6 1,qD 7 69 5 6,qK 8 .geq 7 0,qM 4 8] .ret)
def ZDp:FnI:=⟨2,ZH3,[(4,none)]⟩
def ZIL:C:=oS [oB 1 (.box (.t 0)),oB 2 (.mov bF)] (oS [qF 3 0 1,qL 4 3,oB 5 (.call 37 [.t 4,(iN 0),(iN 5)]),qU 6 5,qM 7 6,vF 8 1 1 7 false,vL 9 8 7 false,oG 10 (.call 37 [.t 9,(iN 0),(iN 2147483647)]) 7 false,vU 11 10 7 false,oB 12 (.pick (.t 7) bT (.t 11)),qM 13 12,vF 14 2 1 13 false,vL 15 14 13 false,oG 16 (.call 37 [.t 15,(iN 1),(iN 100)]) 13 false,vU 17 16 13 false,oB 18 (.pick (.t 13) bT (.t 17)),qM 2 18] .ret)
def ZDn:FnI:=⟨1,ZIL,[(2,none)]⟩
def ZIl:C:=oS [oB 3 (.box (.t 0)),oB 6 (.mov bF)] (oS [qM 7 1,qM 8 2,qB 9 .neq 7 8,qM 10 9,vM 11 1 10 true,vF 12 2 3 10 true,vL 13 12 10 true,vN 14 13 10 true,vK 15 .sub 14 1 10 true,oG 16 (.call 37 [.t 11,(iN 0),.t 15]) 10 true,qP 17 10 16,qM 18 17,vM 19 2 18 true,vF 20 2 3 18 true,vL 21 20 18 true,vN 22 21 18 true,vK 23 .sub 22 1 18 true,oG 24 (.call 37 [.t 19,(iN 0),.t 23]) 18 true,qP 25 18 24,qM 6 25] .ret)
def ZDu:FnI:=⟨3,ZIl,[(6,none)]⟩
def ZHy:C:=oS [oB 3 (.box (.t 1)),oB 4 (.mov bF)] (oS [qM 5 0,qA 6 2 3,qD 7 70 5 6,qK 8 .geq 7 0,qM 4 8] .ret)
def ZEk:FnI:=⟨2,ZHy,[(4,none)]⟩
def ZGK:C:=oS [oB 2 (.box (.t 0)),oB 3 (.mov bF)] (oS [qF 4 1 2,qL 5 4,qF 6 1 1,qL 7 6,qB 8 .eql 5 7,qM 9 8,vF 10 2 2 9 true,vL 11 10 9 true,vF 12 2 1 9 true,vL 13 12 9 true,vB 14 .eql 11 13 9 true,qP 15 9 14,qM 3 15] .ret)
def ZFc:FnI:=⟨2,ZGK,[(3,none)]⟩
def ZGV:C:=oS [oB 4 (.mov bF)] (oS [qM 5 0,qM 6 1,qD 7 71 5 6,qK 8 .geq 7 0,qM 4 8] .ret)
def ZEr:FnI:=⟨2,ZGV,[(4,none)]⟩
def ZJp:C:=oS [oB 3 (.mov bF)] (oS [qF 4 1 1,qL 5 4,qM 6 0,qD 7 45 5 6,qM 3 7] .ret)
def ZEJ:FnI:=⟨2,ZJp,[(3,none)]⟩
def ZGw:C:=oS [oB 4 (.mov bF)] (oS [qM 5 0,qM 6 1,qD 7 72 5 6,qK 8 .geq 7 0,qM 4 8] .ret)
def ZEm:FnI:=⟨2,ZGw,[(4,none)]⟩
def ZzV:C:=oS [qB 10 .lss 9 8] (.seq (cX 10 0) (.seq (.block 1 (oS [qM 11 9,qI 12 1 7 9,qL 13 12,qM 5 11,qM 6 13] (oS [qM 14 6,qF 15 2 2,qL 16 15,qN 17 16,qK 18 .sub 17 1,oB 19 (.call 37 [.t 14,(iN 0),.t 18]),qU 20 19,qM 21 20,vM 22 5 21 false,vK 23 .gtr 22 0 21 false,vM 24 23 21 false,vM 25 1 24 true,vM 26 5 24 true,vK 27 .sub 26 1 24 true,vI 28 1 25 27 24 true,vL 29 28 24 true,vM 30 6 24 true,vB 31 .geq 29 30 24 true,oG 32 (.pick (.t 24) (.t 31) bF) 21 false,oB 33 (.pick (.t 21) bT (.t 32))] (cY 33 (oS [oB 4 (.mov bF)] .ret) .skip)))) (.ops [qK 34 .add 9 1,qM 9 34])))
def ZG4:C:=oS [oB 2 (.box (.t 0)),oB 4 (.mov bF)] (.seq (oS [qM 7 1,qN 8 7,qW 9 0] (.block 0 (.loop [1,2,7,8,9] [1,4] ZzV))) (oS [qM 35 1,qN 36 35,qK 37 .gtr 36 0,qM 4 37] .ret))
def ZEn:FnI:=⟨2,ZG4,[(4,none)]⟩
def ZGR:C:=oS [oB 4 (.mov bF)] (oS [qM 5 0,qM 6 1,qD 7 73 5 6,qK 8 .geq 7 0,qM 4 8] .ret)
def ZB2:FnI:=⟨2,ZGR,[(4,none)]⟩
def ZBU:C:=oS [qB 15 .lss 14 13] (.seq (cX 15 0) (.seq (.block 1 (oS [qM 16 14,qI 17 3 12 14,qA 18 3 17,oB 7 (.alloc (.d (.agg [zD,zD,zD]))),qM 6 16,oA (.store 3 (.t 7) (.t 18))] (oS [qF 19 1 7,qL 20 19,qM 21 1,qB 22 .eql 20 21] (cY 22 (.ops [qM 23 5,qM 24 6,oB 25 (.bslice 1 [zD] 1 [(0,(.t 24))]),oB 26 (.append 1 (.t 23) (.t 25)),qM 5 26]) .skip)))) (.ops [qK 27 .add 14 1,qM 14 27])))
def ZGP:C:=oS [oB 2 (.box (.t 0)),oB 4 (.mov (.c (.nilsl 1)))] (.seq (oS [qA 8 6 2,qC 9 24 8,qK 10 .neq 9 0] (cY 10 (oS [oB 4 (.mov (.c (.nilsl 1)))] .ret) .skip)) (oS [oB 5 (.mov (.c (.nilsl 1)))] (.seq (oS [qF 11 4 2,qL 12 11,qN 13 12,qW 14 0] (.block 0 (.loop [1,2,5,12,13,14] [2,5] ZBU))) (oS [qM 28 5,oB 29 (.mkfn 75 [.t 2]),qD 30 74 28 29] (oS [qM 31 5,qM 4 31] .ret)))))
def ZEu:FnI:=⟨2,ZGP,[(4,none)]⟩
def ZHH:C:=oS [oB 2 (.mov bF)] (oS [qM 3 0,qK 4 .lss 3 0,qM 5 4,vM 6 0 5 false,vK 7 .gtr 6 1000 5 false,oB 8 (.pick (.t 5) bT (.t 7)),qM 2 8] .ret)
def ZE8:FnI:=⟨1,ZHH,[(2,none)]⟩
def ZIs:C:=oS [oB 3 (.mov bF)] (oS [qM 4 0,qK 5 .geq 4 0,qM 6 5,vM 7 0 6 true,vF 8 0 1 6 true,vL 9 8 6 true,vN 10 9 6 true,vB 11 .lss 7 10 6 true,qP 12 6 11,qM 3 12] .ret)
def ZFa:FnI:=⟨2,ZIs,[(3,none)]⟩
def ZBI:C:=oS [qB 33 .lss 32 31] (.seq (cX 33 4) (.seq (.block 5 (oS [qI 34 2 30 32,qA 35 2 34,oB 8 (.alloc (.d (.agg [zD,zD]))),oA (.store 2 (.t 8) (.t 35))] (oS [qF 36 1 8,qL 37 36,qM 38 6,qB 39 .eql 37 38,qM 40 39,vM 41 5 40 true,vF 42 0 8 40 true,vL 43 42 40 true,vI 44 1 41 43 40 true,vL 45 44 40 true,vU 46 45 40 true,qP 47 40 46] (cY 47 (.exit 3) .skip)))) (.ops [qK 48 .add 32 1,qM 32 48])))
def ZAi:C:=oS [qB 23 .lss 22 21] (.seq (cX 23 2) (.seq (.block 3 (oS [qM 24 22,qM 6 24] (.seq (oS [qM 25 5,qM 26 6,qI 27 1 25 26,qL 28 27] (cY 28 (.exit 3) .skip)) (.seq (oS [qF 29 1 1,qL 30 29,qN 31 30,qW 32 0] (.block 4 (.loop [1,4,5,6,21,22,30,31,32] [1,4,5,6,21,22] ZBI))) (oS [qM 49 5,qM 50 6,qI 51 1 49 50,oA (.store 1 (.t 51) bT)] (oS [qM 52 4,qM 53 6,oB 54 (.bslice 1 [zD] 1 [(0,(.t 53))]),oB 55 (.append 1 (.t 52) (.t 54)),qM 4 55] (.exit 1))))))) (.ops [qK 56 .add 22 1,qM 22 56])))
def ZzC:C:=.seq (oS [qM 13 4,qN 14 13,qF 15 0 1,qL 16 15,qN 17 16,qB 18 .lss 14 17] (cX 18 0)) (.block 1 (.seq .skip (.seq (oS [qF 19 0 1,qL 20 19,qN 21 20,qW 22 0] (.block 2 (.loop [1,4,5,21,22] [1,4,5] ZAi))) (oS [oB 2 (.mov (.c (.nilsl 1))),oB 3 (.mov bF)] .ret))))
def ZHn:C:=oS [oB 1 (.box (.t 0)),oB 2 (.mov (.c (.nilsl 1))),oB 3 (.mov bF)] (oS [oB 4 (.mov (.c (.nilsl 1)))] (oS [qF 9 0 1,qL 10 9,qN 11 10,oB 12 (.mkslice 1 [.bool false] (.t 11) (.t 11)),qM 5 12] (.seq .skip (.seq (.block 0 (.loop [1,4,5] [2,3,4] ZzC)) (oS [qM 57 4,qM 2 57,oB 3 (.mov bT)] .ret)))))
def ZEj:FnI:=⟨1,ZHn,[(2,none),(3,none)]⟩
def Zz8:C:=oS [qB 14 .lss 13 12] (.seq (cX 14 0) (.seq (.block 1 (oS [qI 15 2 11 13,qA 16 2 15,oB 7 (.alloc (.d (.agg [zD,zD]))),oA (.store 2 (.t 7) (.t 16))] (oS [qM 18 1,qA 19 2 7,oB 20 (.callv (.t 18) [.t 19]),qM 17 20,qE 21 17 0,qE 22 17 1,qM 8 21,qM 9 22] (oS [qM 23 9] (cY 23 (.ops [qM 24 5,qM 25 8,oB 26 (.bslice 1 [zD] 1 [(0,(.t 25))]),oB 27 (.append 1 (.t 24) (.t 26)),qM 5 27]) .skip))))) (.ops [qK 28 .add 13 1,qM 13 28])))
def ZGB:C:=oS [oB 2 (.box (.t 0)),oB 4 (.mov (.c (.nilsl 1)))] (oS [oB 5 (.mov (.c (.nilsl 1)))] (.seq (oS [qF 10 1 2,qL 11 10,qN 12 11,qW 13 0] (.block 0 (.loop [1,5,11,12,13] [5] Zz8))) (oS [qM 29 5,qC 30 76 29] (oS [qM 31 5,qM 4 31] .ret))))
def ZE2:FnI:=⟨2,ZGB,[(4,none)]⟩
def ZHs:C:=oS [oB 2 (.box (.t 0)),qW 3 0,oB 4 (.mov bF)] (.seq (.draw [qF 5 0 2,qL 6 5,uF 7 1 2 [0,1],uL 8 7 [0,1],uL 9 1 [0,1,2,3],oM 10 (.bin .eql (.t 8) (.t 9)) [0,1],uM 3 6 [2,3,4,5],qM 4 10]) .ret)
def ZE9:FnI:=⟨2,ZHs,[(3,none),(4,none)]⟩
def ZHb:C:=oS [oB 1 (.box (.t 0)),oB 2 (.mov bF)] (oS [qF 6 0 1,qL 7 6,qC 8 77 7,qM 5 8,qE 9 5 0,qE 10 5 1,qM 3 9,qM 4 10] (oS [qM 11 4,qM 12 11,vF 13 0 1 12 true,vL 14 13 12 true,vK 15 .leq 14 4096 12 true,qP 16 12 15,qM 17 16,vF 18 1 1 17 true,vL 19 18 17 true,vK 20 .geq 19 1 17 true,qP 21 17 20,qM 22 21,vF 23 1 1 22 true,vL 24 23 22 true,vF 25 0 1 22 true,vL 26 25 22 true,vB 27 .leq 24 26 22 true,qP 28 22 27,qM 2 28] .ret))
def ZD8:FnI:=⟨1,ZHb,[(2,none)]⟩
def Zy4:C:=.seq (oS [qM 5 3,qF 6 2 1,qL 7 6,qN 8 7,qB 9 .lss 5 8] (cX 9 0)) (.seq (.block 1 (oS [qF 12 2 1,qL 13 12,qM 14 3,qI 15 3 13 14,qA 16 3 15,oB 4 (.alloc (.d (.agg [zD,zD,zD]))),oA (.store 3 (.t 4) (.t 16))] (oS [qF 17 0 4,qL 18 17,qK 19 .lss 18 0,qM 20 19,vF 21 0 4 20 false,vL 22 21 20 false,vK 23 .gtr 22 5 20 false,oB 24 (.pick (.t 20) bT (.t 23)),qM 25 24,vF 26 1 4 25 false,vL 27 26 25 false,vK 28 .lss 27 0 25 false,oB 29 (.pick (.t 25) bT (.t 28)),qM 30 29,vF 31 1 4 30 false,vL 32 31 30 false,vK 33 .gtr 32 2147483647 30 false,oB 34 (.pick (.t 30) bT (.t 33)),qM 35 34,vF 36 2 4 35 false,vL 37 36 35 false,vK 38 .lss 37 1 35 false,oB 39 (.pick (.t 35) bT (.t 38)),qM 40 39,vF 41 2 4 40 false,vL 42 41 40 false,vK 43 .gtr 42 100 40 false,oB 44 (.pick (.t 40) bT (.t 43))] (cY 44 (oS [oB 2 (.mov bF)] .ret) .skip)))) (.ops [qM 10 3,qK 11 .add 10 1,qM 3 11]))
def ZIm:C:=oS [oB 1 (.box (.t 0)),oB 2 (.mov bF)] (.seq (oS [qW 3 0] (.block 0 (.loop [1,3] [2] Zy4))) (oS [oB 2 (.mov bT)] .ret))
def ZDW:FnI:=⟨1,ZIm,[(2,none)]⟩
def ZzY:C:=.seq (oS [qM 37 5,qM 38 3,qB 39 .lss 37 38] (cX 39 2)) (.seq (.block 3 (.seq (.draw [qF 42 3 1,qL 43 42,uM 44 5 [0,1],qI 45 2 43 44,qF 46 0 45,qL 47 46,uF 48 0 4 [0,1,2,3,4,5],uL 49 48 [0,1,2,3,4,5],qB 50 .eql 47 49,qM 51 50,vF 52 3 1 51 true,vL 53 52 51 true,wM 54 5 51 true [10,11],vI 55 2 53 54 51 true,vF 56 1 55 51 true,vL 57 56 51 true,wF 58 1 4 51 true [10,11,12,13,14,15],wL 59 58 51 true [10,11,12,13,14,15],vB 60 .eql 57 59 51 true,qP 61 51 60]) (cY 61 (oS [oB 2 (.mov bF)] .ret) .skip))) (.ops [qM 40 5,qK 41 .add 40 1,qM 5 41]))
def ZzB:C:=.seq (oS [qM 6 3,qF 7 3 1,qL 8 7,qN 9 8,qB 10 .lss 6 9] (cX 10 0)) (.seq (.block 1 (oS [qF 13 3 1,qL 14 13,qM 15 3,qI 16 2 14 15,qA 17 2 16,oB 4 (.alloc (.d (.agg [zD,zD]))),oA (.store 2 (.t 4) (.t 17))] (.seq (oS [qA 18 6 1,qF 19 0 4,qL 20 19,qD 21 78 18 20,qU 22 21,qM 23 22,vA 24 6 1 23 false,vF 25 1 4 23 false,vL 26 25 23 false,oG 27 (.call 78 [.t 24,.t 26]) 23 false,vU 28 27 23 false,oB 29 (.pick (.t 23) bT (.t 28)),qM 30 29,vF 31 0 4 30 false,vL 32 31 30 false,vF 33 1 4 30 false,vL 34 33 30 false,vB 35 .eql 32 34 30 false,oB 36 (.pick (.t 30) bT (.t 35))] (cY 36 (oS [oB 2 (.mov bF)] .ret) .skip)) (oS [qW 5 0] (.block 2 (.loop [1,3,4,5] [1,2,3] ZzY)))))) (.ops [qM 11 3,qK 12 .add 11 1,qM 3 12]))
def ZH1:C:=oS [oB 1 (.box (.t 0)),oB 2 (.mov bF)] (.seq (oS [qW 3 0] (.block 0 (.loop [1,3] [2] ZzB))) (oS [oB 2 (.mov bT)] .ret))
def ZEl:FnI:=⟨1,ZH1,[(2,none)]⟩
def Zz9:C:=.seq (oS [qM 54 5,qM 55 3,qB 56 .lss 54 55] (cX 56 2)) (.seq (.block 3 (.seq (.draw [qF 59 4 1,qL 60 59,uM 61 5 [0,1],qI 62 3 60 61,qF 63 1 62,qL 64 63,uF 65 1 4 [0,1,2,3,4,5],uL 66 65 [0,1,2,3,4,5],qB 67 .eql 64 66,qM 68 67,vF 69 4 1 68 true,vL 70 69 68 true,wM 71 5 68 true [10,11],vI 72 3 70 71 68 true,vF 73 2 72 68 true,vL 74 73 68 true,wF 75 2 4 68 true [10,11,12,13,14,15],wL 76 75 68 true [10,11,12,13,14,15],vB 77 .eql 74 76 68 true,qP 78 68 77]) (cY 78 (oS [oB 2 (.mov bF)] .ret) .skip))) (.ops [qM 57 5,qK 58 .add 57 1,qM 5 58]))
def ZAJ:C:=.seq (oS [qM 6 3,qF 7 4 1,qL 8 7,qN 9 8,qB 10 .lss 6 9] (cX 10 0)) (.seq (.block 1 (oS [qF 13 4 1,qL 14 13,qM 15 3,qI 16 3 14 15,qA 17 3 16,oB 4 (.alloc (.d (.agg [zD,zD,zD]))),oA (.store 3 (.t 4) (.t 17))] (.seq (.seq (.draw [qA 18 6 1,uF 19 0 4 [0],uL 20 19 [0],qD 21 78 18 20,qU 22 21,qM 23 22,vA 24 6 1 23 false,wF 25 1 4 23 false [6],wL 26 25 23 false [6],oG 27 (.call 78 [.t 24,.t 26]) 23 false,vU 28 27 23 false,oB 29 (.pick (.t 23) bT (.t 28)),qM 30 29,vF 31 0 4 30 false,vL 32 31 30 false,wF 33 1 4 30 false [13,14],wL 34 33 30 false [13,14],vB 35 .eql 32 34 30 false,oB 36 (.pick (.t 30) bT (.t 35)),qM 37 36,vF 38 2 4 37 false,vL 39 38 37 false,vK 40 .lss 39 1 37 false,oB 41 (.pick (.t 37) bT (.t 40)),qM 42 41,vF 43 2 4 42 false,vL 44 43 42 false,wF 45 2 1 42 false [25,26],wL 46 45 42 false [25,26],wF 47 1 4 42 false [25,26,27,28],wL 48 47 42 false [25,26,27,28],wI 49 3 46 48 42 false [25,26],wF 50 2 49 42 false [25,26],wL 51 50 42 false [25,26],vB 52 .geq 44 51 42 false,oB 53 (.pick (.t 42) bT (.t 52))]) (cY 53 (oS [oB 2 (.mov bF)] .ret) .skip)) (oS [qW 5 0] (.block 2 (.loop [1,3,4,5] [1,2,3] Zz9)))))) (.ops [qM 11 3,qK 12 .add 11 1,qM 3 12]))
def ZHw:C:=oS [oB 1 (.box (.t 0)),oB 2 (.mov bF)] (.seq (oS [qW 3 0] (.block 0 (.loop [1,3] [2] ZAJ))) (oS [oB 2 (.mov bT)] .ret))
def ZEV:FnI:=⟨1,ZHw,[(2,none)]⟩
def ZAP:C:=.seq (oS [qM 30 5,qF 31 0 4,qL 32 31,qN 33 32,qB 34 .lss 30 33] (cX 34 2)) (.seq (.block 3 (.seq (.draw [qF 37 1 4,qL 38 37,uF 39 0 4 [0,1],uL 40 39 [0,1],uM 41 5 [0,1,2,3],uI 42 1 40 41 [0,1],uL 43 42 [0,1],qD 44 80 38 43]) (cY 44 (oS [oB 2 (.mov bF)] .ret) .skip))) (.ops [qM 35 5,qK 36 .add 35 1,qM 5 36]))
def Zza:C:=.seq (oS [qM 6 3,qF 7 5 1,qL 8 7,qN 9 8,qB 10 .lss 6 9] (cX 10 0)) (.seq (.block 1 (oS [qF 13 5 1,qL 14 13,qM 15 3,qI 16 2 14 15,qA 17 2 16,oB 4 (.alloc (.agg [(.nilsl 1),(.nilsl 1)])),oA (.store 2 (.t 4) (.t 17))] (.seq (oS [qA 18 6 1,qF 19 0 4,qL 20 19,qD 21 79 18 20,qU 22 21,qM 23 22,vA 24 6 1 23 false,vF 25 1 4 23 false,vL 26 25 23 false,oG 27 (.call 79 [.t 24,.t 26]) 23 false,vU 28 27 23 false,oB 29 (.pick (.t 23) bT (.t 28))] (cY 29 (oS [oB 2 (.mov bF)] .ret) .skip)) (oS [qW 5 0] (.block 2 (.loop [1,3,4,5] [1,2,3] ZAP)))))) (.ops [qM 11 3,qK 12 .add 11 1,qM 3 12]))
def ZG8:C:=oS [oB 1 (.box (.t 0)),oB 2 (.mov bF)] (.seq (oS [qW 3 0] (.block 0 (.loop [1,3] [2] Zza))) (oS [oB 2 (.mov bT)] .ret))
def ZDV:FnI:=⟨1,ZG8,[(2,none)]⟩
def ZBN:C:=.seq (oS [qM 14 8,qM 15 7,qN 16 15,qB 17 .lss 14 16] (cX 17 0)) (.seq (.block 1 (.seq (.draw [qF 20 4 2,qL 21 20,uM 22 7 [0,1],uM 23 8 [0,1,2],uI 24 1 22 23 [0,1],uL 25 24 [0,1],qI 26 3 21 25,qF 27 2 26,qL 28 27,qM 9 28]) (oS [qM 29 5,qM 30 9,qM 31 6,qB 32 .sub 30 31,oB 33 (.bslice 1 [zD] 1 [(0,(.t 32))]),oB 34 (.append 1 (.t 29) (.t 33)),qM 5 34] (.ops [qM 35 9,qM 6 35])))) (.ops [qM 18 8,qK 19 .add 18 1,qM 8 19]))
def ZIu:C:=oS [oB 2 (.box (.t 0)),oB 4 (.mov (.c (.nilsl 1)))] (oS [oB 10 (.bslice 1 [zD] 0 []),qM 5 10,qW 6 0] (oS [qA 11 6 2,qM 12 1,qD 13 81 11 12,qM 7 13] (.seq (oS [qW 8 0] (.block 0 (.loop [1,2,5,6,7,8] [1,2,5,6] ZBN))) (oS [qM 36 5,qF 37 2 2,qL 38 37,qM 39 1,qI 40 3 38 39,qF 41 2 40,qL 42 41,qM 43 6,qB 44 .sub 42 43,oB 45 (.bslice 1 [zD] 1 [(0,(.t 44))]),oB 46 (.append 1 (.t 36) (.t 45)),qM 4 46] .ret))))
def ZDF:FnI:=⟨2,ZIu,[(4,none)]⟩
def ZAU:C:=.seq (oS [qM 7 6,qM 8 1,qB 9 .lss 7 8] (cX 9 0)) (.seq (.block 1 (.ops [qM 12 5,qA 13 6 2,qM 14 6,qD 15 59 13 14,qN 16 15,qB 17 .add 12 16,qM 5 17])) (.ops [qM 10 6,qK 11 .add 10 1,qM 6 11]))
def ZG2:C:=oS [oB 2 (.box (.t 0)),qW 4 0] (oS [qW 5 0] (.seq (oS [qW 6 0] (.block 0 (.loop [1,2,5,6] [5] ZAU))) (oS [qM 18 5,qM 4 18] .ret)))
def ZDs:FnI:=⟨2,ZG2,[(4,none)]⟩
def ZIE:C:=oS [oB 2 (.box (.t 0)),qW 4 0] (oS [qA 5 6 2,qM 6 1,qK 7 .add 6 1,qD 8 60 5 7,qK 9 .sub 8 1,qM 4 9] .ret)
def ZEc:FnI:=⟨2,ZIE,[(4,none)]⟩
def ZBa:C:=.seq (oS [qM 11 6,qM 12 5,qN 13 12,qB 14 .lss 11 13] (cX 14 0)) (.seq (.block 1 (.seq (.draw [qF 17 4 2,qL 18 17,uM 19 5 [0,1],uM 20 6 [0,1,2],uI 21 1 19 20 [0,1],uL 22 21 [0,1],qI 23 3 18 22,qF 24 2 23,qL 25 24,uF 26 2 3 [0,1,2,3,4,5,6,7,8],uL 27 26 [0,1,2,3,4,5,6,7,8],qB 28 .eql 25 27]) (cY 28 (oS [qA 29 6 2,qF 30 1 3,qL 31 30,qD 32 60 29 31,qM 33 6,qB 34 .add 32 33,qK 35 .add 34 1,qM 4 35] .ret) .skip))) (.ops [qM 15 6,qK 16 .add 15 1,qM 6 16]))
def ZHZ:C:=oS [oB 2 (.box (.t 0)),oB 3 (.box (.t 1)),qW 4 0] (oS [qA 7 6 2,qF 8 1 3,qL 9 8,qD 10 81 7 9,qM 5 10] (.seq (oS [qW 6 0] (.block 0 (.loop [2,3,5,6] [4] ZBa))) (oS [qW 4 (-1)] .ret)))
def ZDY:FnI:=⟨2,ZHZ,[(4,none)]⟩
def Zz1:C:=.seq (oS [qM 17 3,qF 18 0 1,qL 19 18,qN 20 19,qB 21 .lss 17 20] (cX 21 0)) (.seq (.block 1 (oS [qF 24 0 1,qL 25 24,qM 26 3,qI 27 1 25 26,qL 28 27,qK 29 .lss 28 0,qM 30 29,vF 31 0 1 30 false,vL 32 31 30 false,vM 33 3 30 false,vI 34 1 32 33 30 false,vL 35 34 30 false,vK 36 .gtr 35 1000 30 false,oB 37 (.pick (.t 30) bT (.t 36))] (cY 37 (oS [qW 2 41] .ret) .skip))) (.ops [qM 22 3,qK 23 .add 22 1,qM 3 23]))
def ZzQ:C:=.seq (oS [qM 69 6,qM 70 4,qB 71 .lss 69 70] (cX 71 4)) (.seq (.block 5 (.seq (.draw [qF 74 1 1,qL 75 74,uM 76 6 [0,1],qI 77 2 75 76,qA 78 2 77,uA 79 2 5 [0,1,2,3,4],oB 80 (.eqv [false,false] false (.t 78) (.t 79))]) (cY 80 (oS [qW 2 42] .ret) .skip))) (.ops [qM 72 6,qK 73 .add 72 1,qM 6 73]))
def ZBs:C:=.seq (oS [qM 38 4,qF 39 1 1,qL 40 39,qN 41 40,qB 42 .lss 38 41] (cX 42 2)) (.seq (.block 3 (oS [qF 45 1 1,qL 46 45,qM 47 4,qI 48 2 46 47,qA 49 2 48,oB 5 (.alloc (.d (.agg [zD,zD]))),oA (.store 2 (.t 5) (.t 49))] (.seq (oS [qA 50 2 1,qF 51 0 5,qL 52 51,qD 53 82 50 52,qU 54 53,qM 55 54,vA 56 2 1 55 false,vF 57 1 5 55 false,vL 58 57 55 false,oG 59 (.call 82 [.t 56,.t 58]) 55 false,vU 60 59 55 false,oB 61 (.pick (.t 55) bT (.t 60)),qM 62 61,vF 63 0 5 62 false,vL 64 63 62 false,vF 65 1 5 62 false,vL 66 65 62 false,vB 67 .eql 64 66 62 false,oB 68 (.pick (.t 62) bT (.t 67))] (cY 68 (oS [qW 2 42] .ret) .skip)) (oS [qW 6 0] (.block 4 (.loop [1,4,5,6] [1,2,4] ZzQ)))))) (.ops [qM 43 4,qK 44 .add 43 1,qM 4 44]))
def ZIx:C:=oS [oB 1 (.box (.t 0)),qW 2 0] (.seq (oS [qF 7 0 1,qL 8 7,qN 9 8,qK 10 .gtr 9 64,qM 11 10,vF 12 1 1 11 false,vL 13 12 11 false,vN 14 13 11 false,vK 15 .gtr 14 256 11 false,oB 16 (.pick (.t 11) bT (.t 15))] (cY 16 (oS [qW 2 40] .ret) .skip)) (.seq (oS [qW 3 0] (.block 0 (.loop [1,3] [1,2] Zz1))) (.seq (oS [qW 4 0] (.block 2 (.loop [1,4] [2] ZBs))) (oS [qW 2 0] .ret))))
def ZEp:FnI:=⟨1,ZIx,[(2,none)]⟩
def ZzI:C:=.seq (oS [qM 20 7,qF 21 1 2,qL 22 21,qN 23 22,qB 24 .lss 20 23] (cX 24 2)) (.seq (.block 3 (oS [qF 27 1 2,qL 28 27,qM 29 7,qI 30 2 28 29,qA 31 2 30,oB 8 (.alloc (.d (.agg [zD,zD]))),oA (.store 2 (.t 8) (.t 31))] (oS [qF 32 0 8,qL 33 32,qM 34 1,qB 35 .eql 33 34,qM 36 35,vM 37 5 36 false,vF 38 0 8 36 false,vL 39 38 36 false,vI 40 1 37 39 36 false,vL 41 40 36 false,oB 42 (.pick (.t 36) bT (.t 41))] (cY 42 (.ops [qM 43 5,qF 44 1 8,qL 45 44,qI 46 1 43 45,oA (.store 1 (.t 46) bT)]) .skip)))) (.ops [qM 25 7,qK 26 .add 25 1,qM 7 26]))
def ZBM:C:=.seq (oS [qM 13 6,qF 14 0 2,qL 15 14,qN 16 15,qB 17 .lss 13 16] (cX 17 0)) (.seq (.block 1 (oS [qW 7 0] (.block 2 (.loop [1,2,5,6,7] [1,2,5,6] ZzI)))) (.ops [qM 18 6,qK 19 .add 18 1,qM 6 19]))
def ZG7:C:=oS [oB 2 (.box (.t 0)),oB 4 (.mov (.c (.nilsl 1)))] (oS [qF 9 0 2,qL 10 9,qN 11 10,oB 12 (.mkslice 1 [.bool false] (.t 11) (.t 11)),qM 5 12] (.seq (oS [qW 6 0] (.block 0 (.loop [1,2,5,6] [5] ZBM))) (oS [qM 47 5,qM 4 47] .ret)))
def ZD3:FnI:=⟨2,ZG7,[(4,none)]⟩
def ZHx:C:=oS [qW 2 0] (.seq (.draw [qM 3 0,oB 4 (.bin .shr (.t 3) (.c (.d (.int .u64 24)))),oB 5 (.indexS (.c (.d (.str ⟨#[0,1,1,2,1,2,2,3,1,2,2,3,2,3,3,4,1,2,2,3,2,3,3,4,2,3,3,4,3,4,4,5,1,2,2,3,2,3,3,4,2,3,3,4,3,4,4,5,2,3,3,4,3,4,4,5,3,4,4,5,4,5,5,6,1,2,2,3,2,3,3,4,2,3,3,4,3,4,4,5,2,3,3,4,3,4,4,5,3,4,4,5,4,5,5,6,2,3,3,4,3,4,4,5,3,4,4,5,4,5,5,6,3,4,4,5,4,5,5,6,4,5,5,6,5,6,6,7,1,2,2,3,2,3,3,4,2,3,3,4,3,4,4,5,2,3,3,4,3,4,4,5,3,4,4,5,4,5,5,6,2,3,3,4,3,4,4,5,3,4,4,5,4,5,5,6,3,4,4,5,4,5,5,6,4,5,5,6,5,6,6,7,2,3,3,4,3,4,4,5,3,4,4,5,4,5,5,6,3,4,4,5,4,5,5,6,4,5,5,6,5,6,6,7,3,4,4,5,4,5,5,6,4,5,5,6,5,6,6,7,4,5,5,6,5,6,6,7,5,6,6,7,6,7,7,8]⟩))) (.t 4)),uM 6 0 [0,1,2],oM 7 (.bin .shr (.t 6) (.c (.d (.int .u64 16)))) [0,1,2],oM 8 (.bin .and (.t 7) (.c (.d (.int .u32 255)))) [0,1,2],oM 9 (.indexS (.c (.d (.str ⟨#[0,1,1,2,1,2,2,3,1,2,2,3,2,3,3,4,1,2,2,3,2,3,3,4,2,3,3,4,3,4,4,5,1,2,2,3,2,3,3,4,2,3,3,4,3,4,4,5,2,3,3,4,3,4,4,5,3,4,4,5,4,5,5,6,1,2,2,3,2,3,3,4,2,3,3,4,3,4,4,5,2,3,3,4,3,4,4,5,3,4,4,5,4,5,5,6,2,3,3,4,3,4,4,5,3,4,4,5,4,5,5,6,3,4,4,5,4,5,5,6,4,5,5,6,5,6,6,7,1,2,2,3,2,3,3,4,2,3,3,4,3,4,4,5,2,3,3,4,3,4,4,5,3,4,4,5,4,5,5,6,2,3,3,4,3,4,4,5,3,4,4,5,4,5,5,6,3,4,4,5,4,5,5,6,4,5,5,6,5,6,6,7,2,3,3,4,3,4,4,5,3,4,4,5,4,5,5,6,3,4,4,5,4,5,5,6,4,5,5,6,5,6,6,7,3,4,4,5,4,5,5,6,4,5,5,6,5,6,6,7,4,5,5,6,5,6,6,7,5,6,6,7,6,7,7,8]⟩))) (.t 8)) [0,1,2],qB 10 .add 5 9,uM 11 0 [0,1,2,3,4,5,6,7],oM 12 (.bin .shr (.t 11) (.c (.d (.int .u64 8)))) [0,1,2,3,4,5,6,7],oM 13 (.bin .and (.t 12) (.c (.d (.int .u32 255)))) [0,1,2,3,4,5,6,7],oM 14 (.indexS (.c (.d (.str ⟨#[0,1,1,2,1,2,2,3,1,2,2,3,2,3,3,4,1,2,2,3,2,3,3,4,2,3,3,4,3,4,4,5,1,2,2,3,2,3,3,4,2,3,3,4,3,4,4,5,2,3,3,4,3,4,4,5,3,4,4,5,4,5,5,6,1,2,2,3,2,3,3,4,2,3,3,4,3,4,4,5,2,3,3,4,3,4,4,5,3,4,4,5,4,5,5,6,2,3,3,4,3,4,4,5,3,4,4,5,4,5,5,6,3,4,4,5,4,5,5,6,4,5,5,6,5,6,6,7,1,2,2,3,2,3,3,4,2,3,3,4,3,4,4,5,2,3,3,4,3,4,4,5,3,4,4,5,4,5,5,6,2,3,3,4,3,4,4,5,3,4,4,5,4,5,5,6,3,4,4,5,4,5,5,6,4,5,5,6,5,6,6,7,2,3,3,4,3,4,4,5,3,4,4,5,4,5,5,6,3,4,4,5,4,5,5,6,4,5,5,6,5,6,6,7,3,4,4,5,4,5,5,6,4,5,5,6,5,6,6,7,4,5,5,6,5,6,6,7,5,6,6,7,6,7,7,8]⟩))) (.t 13)) [0,1,2,3,4,5,6,7],qB 15 .add 10 14,uM 16 0 [0,1,2,3,4,5,6,7,8,9,10,11,12],oM 17 (.bin .and (.t 16) (.c (.d (.int .u32 255)))) [0,1,2,3,4,5,6,7,8,9,10,11,12],oM 18 (.indexS (.c (.d (.str ⟨#[0,1,1,2,1,2,2,3,1,2,2,3,2,3,3,4,1,2,2,3,2,3,3,4,2,3,3,4,3,4,4,5,1,2,2,3,2,3,3,4,2,3,3,4,3,4,4,5,2,3,3,4,3,4,4,5,3,4,4,5,4,5,5,6,1,2,2,3,2,3,3,4,2,3,3,4,3,4,4,5,2,3,3,4,3,4,4,5,3,4,4,5,4,5,5,6,2,3,3,4,3,4,4,5,3,4,4,5,4,5,5,6,3,4,4,5,4,5,5,6,4,5,5,6,5,6,6,7,1,2,2,3,2,3,3,4,2,3,3,4,3,4,4,5,2,3,3,4,3,4,4,5,3,4,4,5,4,5,5,6,2,3,3,4,3,4,4,5,3,4,4,5,4,5,5,6,3,4,4,5,4,5,5,6,4,5,5,6,5,6,6,7,2,3,3,4,3,4,4,5,3,4,4,5,4,5,5,6,3,4,4,5,4,5,5,6,4,5,5,6,5,6,6,7,3,4,4,5,4,5,5,6,4,5,5,6,5,6,6,7,4,5,5,6,5,6,6,7,5,6,6,7,6,7,7,8]⟩))) (.t 17)) [0,1,2,3,4,5,6,7,8,9,10,11,12],qB 19 .add 15 18,oB 20 (.conv .i64 (.t 19)),qM 2 20]) .ret)
def ZGv:FnI:=⟨1,ZHx,[(2,none)]⟩
def ZGx:C:=oS [qW 2 0] (oS [qM 3 0,oB 4 (.bin .shr (.t 3) (.c (.d (.int .u64 1)))),oB 5 (.bin .and (.t 4) (.c (.d (.int .u64 6148914691236517205)))),qM 6 0,oB 7 (.bin .and (.t 6) (.c (.d (.int .u64 6148914691236517205)))),qB 8 .add 5 7,qM 0 8] (oS [qM 9 0,oB 10 (.bin .shr (.t 9) (.c (.d (.int .u64 2)))),oB 11 (.bin .and (.t 10) (.c (.d (.int .u64 3689348814741910323)))),qM 12 0,oB 13 (.bin .and (.t 12) (.c (.d (.int .u64 3689348814741910323)))),qB 14 .add 11 13,qM 0 14] (oS [qM 15 0,oB 16 (.bin .shr (.t 15) (.c (.d (.int .u64 4)))),qM 17 0,qB 18 .add 16 17,oB 19 (.bin .and (.t 18) (.c (.d (.int .u64 1085102592571150095)))),qM 0 19] (oS [qM 20 0,qM 21 0,oB 22 (.bin .shr (.t 21) (.c (.d (.int .u64 8)))),qB 23 .add 20 22,qM 0 23] (oS [qM 24 0,qM 25 0,oB 26 (.bin .shr (.t 25) (.c (.d (.int .u64 16)))),qB 27 .add 24 26,qM 0 27] (oS [qM 28 0,qM 29 0,oB 30 (.bin .shr (.t 29) (.c (.d (.int .u64 32)))),qB 31 .add 28 30,qM 0 31] (oS [qM 32 0,oB 33 (.conv .i64 (.t 32)),qK 34 .and 33 127,qM 2 34] .ret)))))))
def ZEf:FnI:=⟨1,ZGx,[(2,none)]⟩
def ZGT:C:=oS [qW 2 0] (.seq (oS [qM 3 0,oB 4 (.bin .eql (.t 3) (.c (.d (.int .u32 0))))] (cY 4 (oS [qW 2 32] .ret) .skip)) (oS [qM 5 0,qM 6 0,oB 7 (.un .neg (.t 6)),qB 8 .and 5 7,oB 9 (.bin .mul (.t 8) (.c (.d (.int .u32 125613361)))),oB 10 (.bin .shr (.t 9) (.c (.d (.int .u64 27)))),oB 11 (.iaddrA 32 1 (.c (.d (.rptr ZFZ))) (.t 10)),qL 12 11,oB 13 (.conv .i64 (.t 12)),qM 2 13] .ret))
def ZFI:FnI:=⟨1,ZGT,[(2,none)]⟩
def ZIQ:C:=oS [qW 2 0] (.seq (oS [qM 3 0,oB 4 (.bin .eql (.t 3) (.c (.d (.int .u64 0))))] (cY 4 (oS [qW 2 64] .ret) .skip)) (oS [qM 5 0,qM 6 0,oB 7 (.un .neg (.t 6)),qB 8 .and 5 7,oB 9 (.bin .mul (.t 8) (.c (.d (.int .u64 285870213051353865)))),oB 10 (.bin .shr (.t 9) (.c (.d (.int .u64 58)))),oB 11 (.iaddrA 64 1 (.c (.d (.rptr ZAF))) (.t 10)),qL 12 11,oB 13 (.conv .i64 (.t 12)),qM 2 13] .ret))
def ZDy:FnI:=⟨1,ZIQ,[(2,none)]⟩
def ZzK:C:=oS [qB 9 .lss 8 7] (.seq (cX 9 0) (.seq (.block 1 (oS [qM 10 8,qM 5 10] (oS [qM 11 1,qM 12 0,qM 13 5,qI 14 3 12 13,qA 15 3 14,oB 16 (.callv (.t 11) [.t 15])] (cY 16 (oS [qM 17 5,qM 4 17] .ret) .skip)))) (.ops [qK 18 .add 8 1,qM 8 18])))
def ZIR:C:=oS [qW 4 0] (.seq (oS [qM 6 0,qN 7 6,qW 8 0] (.block 0 (.loop [0,1,7,8] [4] ZzK))) (oS [qW 4 (-1)] .ret))
def ZER:FnI:=⟨2,ZIR,[(4,none)]⟩
def ZzH:C:=oS [qB 9 .lss 8 7] (.seq (cX 9 0) (.seq (.block 1 (oS [qM 10 8,qM 5 10] (.seq (.draw [qA 11 2 3,uM 12 0 [0],uM 13 5 [0,1],uI 14 2 12 13 [0],uA 15 2 14 [0],oB 16 (.eqv [false,false] false (.t 11) (.t 15))]) (cY 16 (oS [qM 17 5,qM 4 17] .ret) .skip)))) (.ops [qK 18 .add 8 1,qM 8 18])))
def ZJi:C:=oS [oB 3 (.box (.t 1)),qW 4 0] (.seq (oS [qM 6 0,qN 7 6,qW 8 0] (.block 0 (.loop [0,3,7,8] [4] ZzH))) (oS [qW 4 (-1)] .ret))
def ZEH:FnI:=⟨2,ZJi,[(4,none)]⟩
def ZAS:C:=oS [qB 9 .lss 8 7] (.seq (cX 9 0) (.seq (.block 1 (oS [qM 10 8,qM 5 10] (oS [qM 11 1,qM 12 0,qM 13 5,qI 14 3 12 13,qA 15 3 14,oB 16 (.callv (.t 11) [.t 15])] (cY 16 (oS [qM 17 5,qM 4 17] .ret) .skip)))) (.ops [qK 18 .add 8 1,qM 8 18])))
def ZIr:C:=oS [qW 4 0] (.seq (oS [qM 6 0,qN 7 6,qW 8 0] (.block 0 (.loop [0,1,7,8] [4] ZAS))) (oS [qW 4 (-1)] .ret))
def ZEq:FnI:=⟨2,ZIr,[(4,none)]⟩
def ZAB:C:=oS [qB 9 .lss 8 7] (.seq (cX 9 0) (.seq (.block 1 (oS [qM 10 8,qM 5 10] (oS [qM 11 1,qM 12 0,qM 13 5,qI 14 1 12 13,qL 15 14,qB 16 .eql 11 15] (cY 16 (oS [qM 17 5,qM 4 17] .ret) .skip)))) (.ops [qK 18 .add 8 1,qM 8 18])))
def ZHc:C:=oS [qW 4 0] (.seq (oS [qM 6 0,qN 7 6,qW 8 0] (.block 0 (.loop [0,1,7,8] [4] ZAB))) (oS [qW 4 (-1)] .ret))
def ZDo:FnI:=⟨2,ZHc,[(4,none)]⟩
def Zxc:C:=oS [qB 9 .lss 8 7] (.seq (cX 9 0) (.seq (.block 1 (oS [qM 10 8,qM 5 10] (oS [qM 11 1,qM 12 0,qM 13 5,qI 14 1 12 13,qL 15 14,oB 16 (.callv (.t 11) [.t 15])] (cY 16 (oS [qM 17 5,qM 4 17] .ret) .skip)))) (.ops [qK 18 .add 8 1,qM 8 18])))
def ZH8:C:=oS [qW 4 0] (.seq (oS [qM 6 0,qN 7 6,qW 8 0] (.block 0 (.loop [0,1,7,8] [4] Zxc))) (oS [qW 4 (-1)] .ret))
def ZB6:FnI:=⟨2,ZH8,[(4,none)]⟩
def ZGZ:C:=oS [qM 5 0,qN 6 5,qM 4 6] (.ops [qM 7 0,qM 8 4,qM 9 4,oB 10 (.conv .u64 (.t 9)),qC 11 84 10,qM 12 1,oB 13 (.call 83 [.t 7,(iN 0),.t 8,.t 11,.t 12])])
def ZEv:FnI:=⟨2,ZGZ,[]⟩
def ZHD:C:=oS [qW 5 0] (.seq (.draw [qF 6 4 2,qL 7 6,uM 8 0 [0,1],qI 9 3 7 8,qF 10 2 9,qL 11 10,uF 12 4 2 [0,1,2,3,4,5],uL 13 12 [0,1,2,3,4,5],uM 14 1 [0,1,2,3,4,5,6,7],uI 15 3 13 14 [0,1,2,3,4,5],uF 16 2 15 [0,1,2,3,4,5],uL 17 16 [0,1,2,3,4,5],qB 18 .sub 11 17,qM 5 18]) .ret)
def ZD5:FnI:=⟨3,ZHD,[(5,none)]⟩
def ZIb:C:=oS [qM 3 0,qN 4 3,qM 2 4] (.ops [qM 5 0,qM 6 2,qM 7 2,oB 8 (.conv .u64 (.t 7)),qC 9 84 8,oB 10 (.call 85 [.t 5,(iN 0),.t 6,.t 9])])
def ZD4:FnI:=⟨1,ZIb,[]⟩
def ZA5:C:=.seq (oS [qM 6 5,qK 7 .lss 6 40] (cX 7 0)) (.seq (.block 1 (.seq (oS [qM 10 4,qM 11 0,qB 12 .eql 10 11] (cY 12 (oS [qM 13 5,qM 2 13,oB 3 (.mov bT)] .ret) .skip)) (.ops [qM 14 4,oB 15 (.bin .mul (iN 2) (.t 14)),qM 4 15]))) (.ops [qM 8 5,qK 9 .add 8 1,qM 5 9]))
def ZJo:C:=oS [qW 2 0,oB 3 (.mov bF)] (oS [qW 4 1] (.seq (oS [qW 5 0] (.block 0 (.loop [0,4,5] [2,3] ZA5))) (oS [qW 2 0,oB 3 (.mov bF)] .ret)))
def ZDw:FnI:=⟨1,ZJo,[(2,none),(3,none)]⟩
def ZIN:C:=oS [oB 2 (.box (.t 0)),oB 4 (.mov bF)] (oS [qM 5 1,qK 6 .geq 5 0,qM 7 6,vM 8 1 7 true,vF 9 2 2 7 true,vL 10 9 7 true,vN 11 10 7 true,vB 12 .lss 8 11 7 true,qP 13 7 12,qM 4 13] .ret)
def ZEZ:FnI:=⟨2,ZIN,[(4,none)]⟩
def Zzz:C:=.seq (oS [qM 6 5,qM 7 1,qN 8 7,qB 9 .lss 6 8] (cX 9 0)) (.seq (.block 1 (.seq (.draw [qA 12 6 2,uM 13 1 [0],uM 14 5 [0,1],uI 15 1 13 14 [0],uL 16 15 [0],qD 17 78 12 16,qU 18 17,qM 19 18,vM 20 5 19 false,vK 21 .gtr 20 0 19 false,vM 22 21 19 false,vM 23 1 22 true,wM 24 5 22 true [11],⟨some 25,.bin .sub (.t 24) (iN 1),some (22,true),[11],0⟩,vI 26 1 23 25 22 true,vL 27 26 22 true,wM 28 1 22 true [11,12,13,14,15],wM 29 5 22 true [11,12,13,14,15,16],wI 30 1 28 29 22 true [11,12,13,14,15],wL 31 30 22 true [11,12,13,14,15],vB 32 .geq 27 31 22 true,oG 33 (.pick (.t 22) (.t 32) bF) 19 false,oB 34 (.pick (.t 19) bT (.t 33))]) (cY 34 (oS [oB 4 (.mov bF)] .ret) .skip))) (.ops [qM 10 5,qK 11 .add 10 1,qM 5 11]))
def ZIq:C:=oS [oB 2 (.box (.t 0)),oB 4 (.mov bF)] (.seq (oS [qW 5 0] (.block 0 (.loop [1,2,5] [1,4] Zzz))) (oS [qM 35 1,qN 36 35,qK 37 .gtr 36 0,qM 4 37] .ret))
def ZDN:FnI:=⟨2,ZIq,[(4,none)]⟩
def ZA4:C:=.seq (oS [qM 6 5,qM 7 0,qN 8 7,qB 9 .lss 6 8] (cX 9 0)) (.seq (.block 1 (oS [qM 12 0,qM 13 5,qI 14 1 12 13,qL 15 14,qM 16 1,qB 17 .eql 15 16] (cY 17 (oS [oB 4 (.mov bT)] .ret) .skip))) (.ops [qM 10 5,qK 11 .add 10 1,qM 5 11]))
def ZH9:C:=oS [oB 4 (.mov bF)] (.seq (oS [qW 5 0] (.block 0 (.loop [0,1,5] [4] ZA4))) (oS [oB 4 (.mov bF)] .ret))
def ZE1:FnI:=⟨2,ZH9,[(4,none)]⟩
def ZBY:C:=.seq (oS [qM 13 7,qF 14 4 2,qL 15 14,qN 16 15,qB 17 .lss 13 16] (cX 17 2)) (.seq (.block 3 (oS [qF 20 4 2,qL 21 20,qM 22 7,qI 23 3 21 22,qF 24 1 23,qL 25 24,qM 26 1,qB 27 .eql 25 26,qM 28 27,vF 29 4 2 28 true,vL 30 29 28 true,vM 31 7 28 true,vI 32 3 30 31 28 true,vF 33 2 32 28 true,vL 34 33 28 true,vM 35 6 28 true,vB 36 .eql 34 35 28 true,qP 37 28 36] (cY 37 (.ops [qM 38 5,qM 39 7,oB 40 (.bslice 1 [zD] 1 [(0,(.t 39))]),oB 41 (.append 1 (.t 38) (.t 40)),qM 5 41]) .skip))) (.ops [qM 18 7,qK 19 .add 18 1,qM 7 19]))
def ZBf:C:=.seq (oS [qM 9 6,qK 10 .lss 9 100] (cX 10 0)) (.seq (.block 1 (oS [qW 7 0] (.block 2 (.loop [1,2,5,6,7] [1,2,5,6] ZBY)))) (.ops [qM 11 6,qK 12 .add 11 1,qM 6 12]))
def ZIk:C:=oS [oB 2 (.box (.t 0)),oB 4 (.mov (.c (.nilsl 1)))] (oS [oB 8 (.bslice 1 [zD] 0 []),qM 5 8] (.seq (oS [qW 6 1] (.block 0 (.loop [1,2,5,6] [5] ZBf))) (oS [qM 42 5,qM 4 42] .ret)))
def ZDK:FnI:=⟨2,ZIk,[(4,none)]⟩
def ZIt:C:=oS [oB 2 (.box (.t 0)),oB 4 (.mov bF)] (oS [qM 5 1,qK 6 .geq 5 0,qM 7 6,vM 8 1 7 true,vF 9 0 2 7 true,vL 10 9 7 true,vN 11 10 7 true,vB 12 .lss 8 11 7 true,qP 13 7 12,qM 4 13] .ret)
def ZEP:FnI:=⟨2,ZIt,[(4,none)]⟩
def Zz6:C:=.block 1 (oS [qM 21 2,qM 22 1,qB 23 .sub 21 22,qM 12 23] (.seq (oS [qM 24 12,qK 25 .leq 24 12] (cY 25 (oS [qM 26 0,qM 27 1,qM 28 2,qM 29 4,oB 30 (.call 86 [.t 26,.t 27,.t 28,.t 29])] .ret) .skip)) (.seq (oS [qM 31 3,qK 32 .eql 31 0] (cY 32 (oS [qM 33 0,qM 34 1,qM 35 2,qM 36 4,oB 37 (.call 87 [.t 33,.t 34,.t 35,.t 36])] .ret) .skip)) (.seq (oS [qM 38 10,qU 39 38] (cY 39 (oS [qM 40 0,qM 41 1,qM 42 2,qM 43 4,oB 44 (.call 88 [.t 40,.t 41,.t 42,.t 43])] (.ops [qM 45 3,qK 46 .sub 45 1,qM 3 46])) .skip)) (oS [qM 48 0,qM 49 1,qM 50 2,qM 51 4,oB 52 (.call 89 [.t 48,.t 49,.t 50,.t 51]),qM 47 52,qE 53 47 0,qE 54 47 1,qM 13 53,qM 14 54] (.seq (oS [qM 55 14,qK 56 .eql 55 2] (cY 56 (oS [qM 57 0,qM 58 1,qM 59 2,qM 60 4,oB 61 (.call 90 [.t 57,.t 58,.t 59,.t 60])] (oS [qM 62 2,qK 63 .sub 62 1,qM 64 13,qM 65 1,qB 66 .sub 64 65,qB 67 .sub 63 66,qM 13 67] (.ops [qW 14 1]))) .skip)) (.seq (oS [qM 68 10,qM 69 68,vM 70 11 69 true,qP 71 69 70,qM 72 71,vM 73 14 72 true,vK 74 .eql 73 1 72 true,qP 75 72 74] (cY 75 (oS [qM 76 0,qM 77 1,qM 78 2,qM 79 4,oB 80 (.call 91 [.t 76,.t 77,.t 78,.t 79])] (cY 80 .ret .skip)) .skip)) (.seq (.seq (.draw [qM 81 1,qK 82 .gtr 81 0,qM 83 82,vM 84 4 83 true,wM 85 0 83 true [3],wM 86 1 83 true [3,4],⟨some 87,.bin .sub (.t 86) (iN 1),some (83,true),[3,4],0⟩,wI 88 1 85 87 83 true [3],wL 89 88 83 true [3],wM 90 0 83 true [3,4,5,6,7,8],wM 91 13 83 true [3,4,5,6,7,8,9],wI 92 1 90 91 83 true [3,4,5,6,7,8],wL 93 92 83 true [3,4,5,6,7,8],oG 94 (.callv (.t 84) [.t 89,.t 93]) 83 true,vK 95 .lss 94 0 83 true,vU 96 95 83 true,qP 97 83 96]) (cY 97 (oS [qM 98 0,qM 99 1,qM 100 2,qM 101 13,qM 102 4,oB 103 (.call 92 [.t 98,.t 99,.t 100,.t 101,.t 102]),qM 15 103] (oS [qM 104 15,qM 1 104] (.exit 1))) .skip)) (oS [qM 106 0,qM 107 1,qM 108 2,qM 109 13,qM 110 4,oB 111 (.call 93 [.t 106,.t 107,.t 108,.t 109,.t 110]),qM 105 111,qE 112 105 0,qE 113 105 1,qM 16 112,qM 17 113] (oS [qM 114 17,qM 11 114] (oS [qM 115 16,qM 116 1,qB 117 .sub 115 116,qM 118 2,qM 119 16,qB 120 .sub 118 119,qM 18 117,qM 19 120] (oS [qM 121 12,qK 122 .quo 121 8,qM 20 122] (oS [qM 123 18,qM 124 19,qB 125 .lss 123 124] (cY 125 (oS [qM 126 18,qM 127 20,qB 128 .geq 126 127,qM 10 128] (oS [qM 129 0,qM 130 1,qM 131 16,qM 132 3,qM 133 4,oB 134 (.call 83 [.t 129,.t 130,.t 131,.t 132,.t 133])] (.ops [qM 135 16,qK 136 .add 135 1,qM 1 136]))) (oS [qM 137 19,qM 138 20,qB 139 .geq 137 138,qM 10 139] (oS [qM 140 0,qM 141 16,qK 142 .add 141 1,qM 143 2,qM 144 3,qM 145 4,oB 146 (.call 83 [.t 140,.t 142,.t 143,.t 144,.t 145])] (.ops [qM 147 16,qM 2 147])))))))))))))))))
def ZIo:C:=oS [oB 10 (.mov bT)] (oS [oB 11 (.mov bT)] (.block 0 (.loop [0,1,2,3,4,10,11] [] Zz6)))
def ZDL:FnI:=⟨5,ZIo,[]⟩
def ZHT:C:=oS [qW 2 0] (.seq (.cond bF (oS [qM 3 0,oB 4 (.conv .u32 (.t 3)),qC 5 94 4,qM 2 5] .ret) .skip) (oS [qM 6 0,qC 7 95 6,qM 2 7] .ret))
def ZEB:FnI:=⟨1,ZHT,[(2,none)]⟩
def ZAl:C:=.block 1 (oS [qM 19 2,qM 20 1,qB 21 .sub 19 20,qM 10 21] (.seq (oS [qM 22 10,qK 23 .leq 22 12] (cY 23 (oS [qM 24 0,qM 25 1,qM 26 2,oB 27 (.call 96 [.t 24,.t 25,.t 26])] .ret) .skip)) (.seq (oS [qM 28 3,qK 29 .eql 28 0] (cY 29 (oS [qM 30 0,qM 31 1,qM 32 2,oB 33 (.call 97 [.t 30,.t 31,.t 32])] .ret) .skip)) (.seq (oS [qM 34 8,qU 35 34] (cY 35 (oS [qM 36 0,qM 37 1,qM 38 2,oB 39 (.call 98 [.t 36,.t 37,.t 38])] (.ops [qM 40 3,qK 41 .sub 40 1,qM 3 41])) .skip)) (oS [qM 43 0,qM 44 1,qM 45 2,oB 46 (.call 99 [.t 43,.t 44,.t 45]),qM 42 46,qE 47 42 0,qE 48 42 1,qM 11 47,qM 12 48] (.seq (oS [qM 49 12,qK 50 .eql 49 2] (cY 50 (oS [qM 51 0,qM 52 1,qM 53 2,oB 54 (.call 100 [.t 51,.t 52,.t 53])] (oS [qM 55 2,qK 56 .sub 55 1,qM 57 11,qM 58 1,qB 59 .sub 57 58,qB 60 .sub 56 59,qM 11 60] (.ops [qW 12 1]))) .skip)) (.seq (oS [qM 61 8,qM 62 61,vM 63 9 62 true,qP 64 62 63,qM 65 64,vM 66 12 65 true,vK 67 .eql 66 1 65 true,qP 68 65 67] (cY 68 (oS [qM 69 0,qM 70 1,qM 71 2,oB 72 (.call 101 [.t 69,.t 70,.t 71])] (cY 72 .ret .skip)) .skip)) (.seq (.seq (.draw [qM 73 1,qK 74 .gtr 73 0,qM 75 74,vM 76 0 75 true,wM 77 1 75 true [3],⟨some 78,.bin .sub (.t 77) (iN 1),some (75,true),[3],0⟩,vI 79 1 76 78 75 true,vL 80 79 75 true,wM 81 0 75 true [3,4,5,6,7],wM 82 11 75 true [3,4,5,6,7,8],wI 83 1 81 82 75 true [3,4,5,6,7],wL 84 83 75 true [3,4,5,6,7],oG 85 (.call 102 [.t 80,.t 84]) 75 true,vU 86 85 75 true,qP 87 75 86]) (cY 87 (oS [qM 88 0,qM 89 1,qM 90 2,qM 91 11,oB 92 (.call 103 [.t 88,.t 89,.t 90,.t 91]),qM 13 92] (oS [qM 93 13,qM 1 93] (.exit 1))) .skip)) (oS [qM 95 0,qM 96 1,qM 97 2,qM 98 11,oB 99 (.call 104 [.t 95,.t 96,.t 97,.t 98]),qM 94 99,qE 100 94 0,qE 101 94 1,qM 14 100,qM 15 101] (oS [qM 102 15,qM 9 102] (oS [qM 103 14,qM 104 1,qB 105 .sub 103 104,qM 106 2,qM 107 14,qB 108 .sub 106 107,qM 16 105,qM 17 108] (oS [qM 109 10,qK 110 .quo 109 8,qM 18 110] (oS [qM 111 16,qM 112 17,qB 113 .lss 111 112] (cY 113 (oS [qM 114 16,qM 115 18,qB 116 .geq 114 115,qM 8 116] (oS [qM 117 0,qM 118 1,qM 119 14,qM 120 3,oB 121 (.call 85 [.t 117,.t 118,.t 119,.t 120])] (.ops [qM 122 14,qK 123 .add 122 1,qM 1 123]))) (oS [qM 124 17,qM 125 18,qB 126 .geq 124 125,qM 8 126] (oS [qM 127 0,qM 128 14,qK 129 .add 128 1,qM 130 2,qM 131 3,oB 132 (.call 85 [.t 127,.t 129,.t 130,.t 131])] (.ops [qM 133 14,qM 2 133])))))))))))))))))
def ZHL:C:=oS [oB 8 (.mov bT)] (oS [oB 9 (.mov bT)] (.block 0 (.loop [0,1,2,3,8,9] [] ZAl)))
def ZDB:FnI:=⟨4,ZHL,[]⟩
def Zzo:C:=.seq (.seq (.draw [qM 18 9,uM 19 1 [0],qB 20 .gtr 18 19,qM 21 20,vM 22 3 21 true,wM 23 0 21 true [4],wM 24 9 21 true [4,5],wI 25 1 23 24 21 true [4],wL 26 25 21 true [4],wM 27 0 21 true [4,5,6,7,8],wM 28 9 21 true [4,5,6,7,8,9],⟨some 29,.bin .sub (.t 28) (iN 1),some (21,true),[4,5,6,7,8,9],0⟩,wI 30 1 27 29 21 true [4,5,6,7,8],wL 31 30 21 true [4,5,6,7,8],oG 32 (.callv (.t 22) [.t 26,.t 31]) 21 true,vK 33 .lss 32 0 21 true,qP 34 21 33]) (cX 34 2)) (.seq (.block 3 (.draw [qM 37 0,uM 38 9 [0],uM 39 0 [0,1],uM 40 9 [0,1,2],oM 41 (.bin .sub (.t 40) (iN 1)) [0,1,2],uM 42 0 [0,1,2,3,4],uM 43 9 [0,1,2,3,4,5],oM 44 (.bin .sub (.t 43) (iN 1)) [0,1,2,3,4,5],uI 45 1 42 44 [0,1,2,3,4],uL 46 45 [0,1,2,3,4],uM 47 0 [0,1,2,3,4,5,6,7,8,9],uM 48 9 [0,1,2,3,4,5,6,7,8,9,10],uI 49 1 47 48 [0,1,2,3,4,5,6,7,8,9],uL 50 49 [0,1,2,3,4,5,6,7,8,9],uI 51 1 37 38 [2,3,4],⟨none,.store 1 (.t 51) (.t 46),none,[],3⟩,qI 52 1 39 41,⟨none,.store 1 (.t 52) (.t 50),none,[],3⟩])) (.ops [qM 35 9,qK 36 .sub 35 1,qM 9 36]))
def ZAu:C:=.seq (oS [qM 12 8,qM 13 2,qB 14 .lss 12 13] (cX 14 0)) (.seq (.block 1 (oS [qM 17 8,qM 9 17] (.block 2 (.loop [0,1,2,3,8,9] [0,1,2,3,8] Zzo)))) (.ops [qM 15 8,qK 16 .add 15 1,qM 8 16]))
def ZG1:C:=oS [qM 10 1,qK 11 .add 10 1,qM 8 11] (.block 0 (.loop [0,1,2,3,8] [] ZAu))
def ZEC:FnI:=⟨4,ZG1,[]⟩
def ZBg:C:=.seq (oS [qM 20 11,qK 21 .geq 20 0] (cX 21 0)) (.seq (.block 1 (.ops [qM 24 0,qM 25 11,qM 26 10,qM 27 8,qM 28 3,oB 29 (.call 105 [.t 24,.t 25,.t 26,.t 27,.t 28])])) (.ops [qM 22 11,qK 23 .sub 22 1,qM 11 23]))
def ZAx:C:=.seq (oS [qM 32 12,qK 33 .geq 32 0] (cX 33 2)) (.seq (.block 3 (.seq (.draw [qM 36 0,uM 37 8 [0],uM 38 0 [0,1],uM 39 8 [0,1,2],uM 40 12 [0,1,2,3],oM 41 (.bin .add (.t 39) (.t 40)) [0,1,2],uM 42 0 [0,1,2,3,4,5],uM 43 8 [0,1,2,3,4,5,6],uM 44 12 [0,1,2,3,4,5,6,7],oM 45 (.bin .add (.t 43) (.t 44)) [0,1,2,3,4,5,6],uI 46 1 42 45 [0,1,2,3,4,5],uL 47 46 [0,1,2,3,4,5],uM 48 0 [0,1,2,3,4,5,6,7,8,9,10,11],uM 49 8 [0,1,2,3,4,5,6,7,8,9,10,11,12],uI 50 1 48 49 [0,1,2,3,4,5,6,7,8,9,10,11],uL 51 50 [0,1,2,3,4,5,6,7,8,9,10,11],uI 52 1 36 37 [2,3,4,5],⟨none,.store 1 (.t 52) (.t 47),none,[],3⟩,qI 53 1 38 41,⟨none,.store 1 (.t 53) (.t 51),none,[],3⟩]) (.ops [qM 54 0,qM 55 9,qM 56 12,qM 57 8,qM 58 3,oB 59 (.call 105 [.t 54,.t 55,.t 56,.t 57,.t 58])]))) (.ops [qM 34 12,qK 35 .sub 34 1,qM 12 35]))
def ZI3:C:=oS [qM 13 1,qM 8 13] (oS [qW 9 0] (oS [qM 14 2,qM 15 1,qB 16 .sub 14 15,qM 10 16] (.seq (oS [qM 17 10,qK 18 .sub 17 1,qK 19 .quo 18 2,qM 11 19] (.block 0 (.loop [0,3,8,9,10,11] [0,3,8,9,10] ZBg))) (oS [qM 30 10,qK 31 .sub 30 1,qM 12 31] (.block 2 (.loop [0,3,8,9,12] [] ZAx))))))
def ZEw:FnI:=⟨4,ZI3,[]⟩
def Zze:C:=.seq (oS [qM 28 11,qM 29 1,qM 30 8,qK 31 .quo 30 4,qK 32 .mul 31 2,qB 33 .add 29 32,qK 34 .add 33 1,qB 35 .leq 28 34] (cX 35 0)) (.seq (.block 1 (oS [qC 38 107 9,qM 39 10,oB 40 (.bin .sub (.t 39) (.c (.d (.int .u64 1)))),qB 41 .and 38 40,oB 42 (.conv .i64 (.t 41)),qM 12 42] (.seq (oS [qM 43 12,qM 44 8,qB 45 .geq 43 44] (cY 45 (.ops [qM 46 12,qM 47 8,qB 48 .sub 46 47,qM 12 48]) .skip)) (.draw [qM 49 0,uM 50 11 [0],uM 51 0 [0,1],uM 52 1 [0,1,2],uM 53 12 [0,1,2,3],oM 54 (.bin .add (.t 52) (.t 53)) [0,1,2],uM 55 0 [0,1,2,3,4,5],uM 56 1 [0,1,2,3,4,5,6],uM 57 12 [0,1,2,3,4,5,6,7],oM 58 (.bin .add (.t 56) (.t 57)) [0,1,2,3,4,5,6],uI 59 1 55 58 [0,1,2,3,4,5],uL 60 59 [0,1,2,3,4,5],uM 61 0 [0,1,2,3,4,5,6,7,8,9,10,11],uM 62 11 [0,1,2,3,4,5,6,7,8,9,10,11,12],uI 63 1 61 62 [0,1,2,3,4,5,6,7,8,9,10,11],uL 64 63 [0,1,2,3,4,5,6,7,8,9,10,11],uI 65 1 49 50 [2,3,4,5],⟨none,.store 1 (.t 65) (.t 60),none,[],3⟩,qI 66 1 51 54,⟨none,.store 1 (.t 66) (.t 64),none,[],3⟩])))) (.ops [qM 36 11,qK 37 .add 36 1,qM 11 37]))
def ZHG:C:=oS [qM 13 2,qM 14 1,qB 15 .sub 13 14,qM 8 15] (oS [qM 16 8,qK 17 .geq 16 8] (cY 17 (oS [qM 18 8,oB 19 (.conv .u64 (.t 18)),oB 9 (.alloc (.d (.int .u64 0))),oA (.store 1 (.t 9) (.t 19))] (oS [qM 20 8,qC 21 106 20,qM 10 21] (oS [qM 22 1,qM 23 8,qK 24 .quo 23 4,qK 25 .mul 24 2,qB 26 .add 22 25,qK 27 .sub 26 1,qM 11 27] (.block 0 (.loop [0,1,8,9,10,11] [] Zze))))) .skip))
def ZEt:FnI:=⟨4,ZHG,[]⟩
def ZIz:C:=oS [qW 8 0,qW 9 0] (oS [qM 15 2,qM 16 1,qB 17 .sub 15 16,qM 10 17] (oS [oB 11 (.alloc zI)] (oS [qM 18 1,qM 19 10,qK 20 .quo 19 4,qK 21 .mul 20 1,qB 22 .add 18 21,qM 12 22] (oS [qM 23 1,qM 24 10,qK 25 .quo 24 4,qK 26 .mul 25 2,qB 27 .add 23 26,qM 13 27] (oS [qM 28 1,qM 29 10,qK 30 .quo 29 4,qK 31 .mul 30 3,qB 32 .add 28 31,qM 14 32] (.seq (oS [qM 33 10,qK 34 .geq 33 8] (cY 34 (.seq (oS [qM 35 10,qK 36 .geq 35 50] (cY 36 (oS [qM 37 0,qM 38 12,qM 39 3,oB 40 (.call 108 [.t 37,.t 38,.t 11,.t 39]),qM 12 40] (oS [qM 41 0,qM 42 13,qM 43 3,oB 44 (.call 108 [.t 41,.t 42,.t 11,.t 43]),qM 13 44] (.ops [qM 45 0,qM 46 14,qM 47 3,oB 48 (.call 108 [.t 45,.t 46,.t 11,.t 47]),qM 14 48]))) .skip)) (.ops [qM 49 0,qM 50 12,qM 51 13,qM 52 14,qM 53 3,oB 54 (.call 109 [.t 49,.t 50,.t 51,.t 52,.t 11,.t 53]),qM 13 54])) .skip)) (oS [qL 55 11] (.block 0 (oS [qK 58 .eql 55 0,qM 57 58] (cY 57 (oS [qM 59 13,qM 8 59,qW 9 1] .ret) (oS [qK 61 .eql 55 12,qM 60 61] (cY 60 (oS [qM 62 13,qM 8 62,qW 9 2] .ret) (oS [qM 56 13,qM 8 56,qW 9 0] .ret)))))))))))))
def ZEe:FnI:=⟨4,ZIz,[(8,none),(9,none)]⟩
def ZBz:C:=.seq (oS [qM 13 8,qM 14 9,qB 15 .lss 13 14] (cX 15 0)) (.block 1 (.seq (.draw [qM 16 0,uM 17 8 [0],uM 18 0 [0,1],uM 19 9 [0,1,2],uM 20 0 [0,1,2,3],uM 21 9 [0,1,2,3,4],uI 22 1 20 21 [0,1,2,3],uL 23 22 [0,1,2,3],uM 24 0 [0,1,2,3,4,5,6,7],uM 25 8 [0,1,2,3,4,5,6,7,8],uI 26 1 24 25 [0,1,2,3,4,5,6,7],uL 27 26 [0,1,2,3,4,5,6,7],uI 28 1 16 17 [2,3],⟨none,.store 1 (.t 28) (.t 23),none,[],3⟩,qI 29 1 18 19,⟨none,.store 1 (.t 29) (.t 27),none,[],3⟩]) (oS [qM 30 8,qK 31 .add 30 1,qM 8 31] (.ops [qM 32 9,qK 33 .sub 32 1,qM 9 33]))))
def ZIg:C:=oS [qM 10 1,qM 8 10] (oS [qM 11 2,qK 12 .sub 11 1,qM 9 12] (.block 0 (.loop [0,8,9] [] ZBz)))
def ZEL:FnI:=⟨4,ZIg,[]⟩
def ZAd:C:=.seq (.seq (.draw [qM 19 9,uM 20 2 [0],qB 21 .lss 19 20,qM 22 21,vM 23 3 22 true,wM 24 0 22 true [4],wM 25 9 22 true [4,5],wI 26 1 24 25 22 true [4],wL 27 26 22 true [4],wM 28 0 22 true [4,5,6,7,8],wM 29 9 22 true [4,5,6,7,8,9],⟨some 30,.bin .sub (.t 29) (iN 1),some (22,true),[4,5,6,7,8,9],0⟩,wI 31 1 28 30 22 true [4,5,6,7,8],wL 32 31 22 true [4,5,6,7,8],oG 33 (.callv (.t 23) [.t 27,.t 32]) 22 true,vK 34 .lss 33 0 22 true,vU 35 34 22 true,qP 36 22 35]) (cX 36 2)) (.block 3 (.ops [qM 37 9,qK 38 .add 37 1,qM 9 38]))
def ZAa:C:=.seq (oS [qM 68 11,qK 69 .geq 68 1] (cX 69 4)) (.seq (.block 5 (.seq (.seq (.draw [qM 72 3,uM 73 0 [0],uM 74 11 [0,1],uI 75 1 73 74 [0],uL 76 75 [0],uM 77 0 [0,1,2,3,4],uM 78 11 [0,1,2,3,4,5],oM 79 (.bin .sub (.t 78) (iN 1)) [0,1,2,3,4,5],uI 80 1 77 79 [0,1,2,3,4],uL 81 80 [0,1,2,3,4],oB 82 (.callv (.t 72) [.t 76,.t 81]),qK 83 .lss 82 0,qU 84 83]) (cY 84 (.exit 4) .skip)) (.draw [qM 85 0,uM 86 11 [0],uM 87 0 [0,1],uM 88 11 [0,1,2],oM 89 (.bin .sub (.t 88) (iN 1)) [0,1,2],uM 90 0 [0,1,2,3,4],uM 91 11 [0,1,2,3,4,5],oM 92 (.bin .sub (.t 91) (iN 1)) [0,1,2,3,4,5],uI 93 1 90 92 [0,1,2,3,4],uL 94 93 [0,1,2,3,4],uM 95 0 [0,1,2,3,4,5,6,7,8,9],uM 96 11 [0,1,2,3,4,5,6,7,8,9,10],uI 97 1 95 96 [0,1,2,3,4,5,6,7,8,9],uL 98 97 [0,1,2,3,4,5,6,7,8,9],uI 99 1 85 86 [2,3,4],⟨none,.store 1 (.t 99) (.t 94),none,[],3⟩,qI 100 1 87 89,⟨none,.store 1 (.t 100) (.t 98),none,[],3⟩]))) (.ops [qM 70 11,qK 71 .sub 70 1,qM 11 71]))
def ZAV:C:=.seq (oS [qM 107 12,qM 108 2,qB 109 .lss 107 108] (cX 109 6)) (.seq (.block 7 (.seq (.seq (.draw [qM 112 3,uM 113 0 [0],uM 114 12 [0,1],uI 115 1 113 114 [0],uL 116 115 [0],uM 117 0 [0,1,2,3,4],uM 118 12 [0,1,2,3,4,5],oM 119 (.bin .sub (.t 118) (iN 1)) [0,1,2,3,4,5],uI 120 1 117 119 [0,1,2,3,4],uL 121 120 [0,1,2,3,4],oB 122 (.callv (.t 112) [.t 116,.t 121]),qK 123 .lss 122 0,qU 124 123]) (cY 124 (.exit 6) .skip)) (.draw [qM 125 0,uM 126 12 [0],uM 127 0 [0,1],uM 128 12 [0,1,2],oM 129 (.bin .sub (.t 128) (iN 1)) [0,1,2],uM 130 0 [0,1,2,3,4],uM 131 12 [0,1,2,3,4,5],oM 132 (.bin .sub (.t 131) (iN 1)) [0,1,2,3,4,5],uI 133 1 130 132 [0,1,2,3,4],uL 134 133 [0,1,2,3,4],uM 135 0 [0,1,2,3,4,5,6,7,8,9],uM 136 12 [0,1,2,3,4,5,6,7,8,9,10],uI 137 1 135 136 [0,1,2,3,4,5,6,7,8,9],uL 138 137 [0,1,2,3,4,5,6,7,8,9],uI 139 1 125 126 [2,3,4],⟨none,.store 1 (.t 139) (.t 134),none,[],3⟩,qI 140 1 127 129,⟨none,.store 1 (.t 140) (.t 138),none,[],3⟩]))) (.ops [qM 110 12,qK 111 .add 110 1,qM 12 111]))
def ZzF:C:=.seq (oS [qM 15 10,qK 16 .lss 15 5] (cX 16 0)) (.seq (.block 1 (.seq (.block 2 (.loop [0,1,2,3,9,10] [0,1,2,3,9,10] ZAd)) (.seq (oS [qM 39 9,qM 40 2,qB 41 .eql 39 40] (cY 41 (oS [oB 8 (.mov bT)] .ret) .skip)) (.seq (oS [qM 42 2,qM 43 1,qB 44 .sub 42 43,qK 45 .lss 44 50] (cY 45 (oS [oB 8 (.mov bF)] .ret) .skip)) (.seq (.draw [qM 46 0,uM 47 9 [0],uM 48 0 [0,1],uM 49 9 [0,1,2],oM 50 (.bin .sub (.t 49) (iN 1)) [0,1,2],uM 51 0 [0,1,2,3,4],uM 52 9 [0,1,2,3,4,5],oM 53 (.bin .sub (.t 52) (iN 1)) [0,1,2,3,4,5],uI 54 1 51 53 [0,1,2,3,4],uL 55 54 [0,1,2,3,4],uM 56 0 [0,1,2,3,4,5,6,7,8,9],uM 57 9 [0,1,2,3,4,5,6,7,8,9,10],uI 58 1 56 57 [0,1,2,3,4,5,6,7,8,9],uL 59 58 [0,1,2,3,4,5,6,7,8,9],uI 60 1 46 47 [2,3,4],⟨none,.store 1 (.t 60) (.t 55),none,[],3⟩,qI 61 1 48 50,⟨none,.store 1 (.t 61) (.t 59),none,[],3⟩]) (.seq (oS [qM 62 9,qM 63 1,qB 64 .sub 62 63,qK 65 .geq 64 2] (cY 65 (oS [qM 66 9,qK 67 .sub 66 1,qM 11 67] (.block 4 (.loop [0,1,2,3,9,10,11] [0,1,2,3,9,10] ZAa))) .skip)) (oS [qM 101 2,qM 102 9,qB 103 .sub 101 102,qK 104 .geq 103 2] (cY 104 (oS [qM 105 9,qK 106 .add 105 1,qM 12 106] (.block 6 (.loop [0,1,2,3,9,10,12] [0,1,2,3,9,10] ZAV))) .skip)))))))) (.ops [qM 17 10,qK 18 .add 17 1,qM 10 18]))
def ZIP:C:=oS [oB 8 (.mov bF)] (oS [qM 13 1,qK 14 .add 13 1,qM 9 14] (.seq (oS [qW 10 0] (.block 0 (.loop [0,1,2,3,9,10] [8] ZzF))) (oS [oB 8 (.mov bF)] .ret)))
def ZEb:FnI:=⟨4,ZIP,[(8,none)]⟩
def ZAT:C:=.seq (.seq (.draw [qM 31 11,uM 32 12 [0],qB 33 .leq 31 32,qM 34 33,vM 35 4 34 true,wM 36 0 34 true [4],wM 37 1 34 true [4,5],wI 38 1 36 37 34 true [4],wL 39 38 34 true [4],wM 40 0 34 true [4,5,6,7,8],wM 41 11 34 true [4,5,6,7,8,9],wI 42 1 40 41 34 true [4,5,6,7,8],wL 43 42 34 true [4,5,6,7,8],oG 44 (.callv (.t 35) [.t 39,.t 43]) 34 true,vK 45 .lss 44 0 34 true,vU 46 45 34 true,qP 47 34 46]) (cX 47 2)) (.block 3 (.ops [qM 48 11,qK 49 .add 48 1,qM 11 49]))
def Zzb:C:=.seq (.seq (.draw [qM 50 11,uM 51 12 [0],qB 52 .leq 50 51,qM 53 52,vM 54 4 53 true,wM 55 0 53 true [4],wM 56 1 53 true [4,5],wI 57 1 55 56 53 true [4],wL 58 57 53 true [4],wM 59 0 53 true [4,5,6,7,8],wM 60 12 53 true [4,5,6,7,8,9],wI 61 1 59 60 53 true [4,5,6,7,8],wL 62 61 53 true [4,5,6,7,8],oG 63 (.callv (.t 54) [.t 58,.t 62]) 53 true,vK 64 .lss 63 0 53 true,qP 65 53 64]) (cX 65 4)) (.block 5 (.ops [qM 66 12,qK 67 .sub 66 1,qM 12 67]))
def ZAE:C:=.block 1 (.seq (.block 2 (.loop [0,1,4,11,12] [0,1,4,11,12] ZAT)) (.seq (.block 4 (.loop [0,1,4,11,12] [0,1,4,11,12] Zzb)) (.seq (oS [qM 68 11,qM 69 12,qB 70 .gtr 68 69] (cY 70 (.exit 0) .skip)) (.seq (.draw [qM 71 0,uM 72 11 [0],uM 73 0 [0,1],uM 74 12 [0,1,2],uM 75 0 [0,1,2,3],uM 76 12 [0,1,2,3,4],uI 77 1 75 76 [0,1,2,3],uL 78 77 [0,1,2,3],uM 79 0 [0,1,2,3,4,5,6,7],uM 80 11 [0,1,2,3,4,5,6,7,8],uI 81 1 79 80 [0,1,2,3,4,5,6,7],uL 82 81 [0,1,2,3,4,5,6,7],uI 83 1 71 72 [2,3],⟨none,.store 1 (.t 83) (.t 78),none,[],3⟩,qI 84 1 73 74,⟨none,.store 1 (.t 84) (.t 82),none,[],3⟩]) (oS [qM 85 11,qK 86 .add 85 1,qM 11 86] (.ops [qM 87 12,qK 88 .sub 87 1,qM 12 88]))))))
def ZG0:C:=oS [qW 10 0] (.seq (.draw [qM 13 0,uM 14 1 [0],uM 15 0 [0,1],uM 16 3 [0,1,2],uM 17 0 [0,1,2,3],uM 18 3 [0,1,2,3,4],uI 19 1 17 18 [0,1,2,3],uL 20 19 [0,1,2,3],uM 21 0 [0,1,2,3,4,5,6,7],uM 22 1 [0,1,2,3,4,5,6,7,8],uI 23 1 21 22 [0,1,2,3,4,5,6,7],uL 24 23 [0,1,2,3,4,5,6,7],uI 25 1 13 14 [2,3],⟨none,.store 1 (.t 25) (.t 20),none,[],3⟩,qI 26 1 15 16,⟨none,.store 1 (.t 26) (.t 24),none,[],3⟩]) (oS [qM 27 1,qK 28 .add 27 1,qM 29 2,qK 30 .sub 29 1,qM 11 28,qM 12 30] (.seq (.block 0 (.loop [0,1,4,11,12] [11] ZAE)) (oS [qM 89 11,qM 10 89] .ret))))
def ZDv:FnI:=⟨5,ZG0,[(10,none)]⟩
def ZAR:C:=.seq (.seq (.draw [qM 32 12,uM 33 13 [0],qB 34 .leq 32 33,qM 35 34,vM 36 4 35 true,wM 37 0 35 true [4],wM 38 12 35 true [4,5],wI 39 1 37 38 35 true [4],wL 40 39 35 true [4],wM 41 0 35 true [4,5,6,7,8],wM 42 1 35 true [4,5,6,7,8,9],wI 43 1 41 42 35 true [4,5,6,7,8],wL 44 43 35 true [4,5,6,7,8],oG 45 (.callv (.t 36) [.t 40,.t 44]) 35 true,vK 46 .lss 45 0 35 true,qP 47 35 46]) (cX 47 0)) (.block 1 (.ops [qM 48 12,qK 49 .add 48 1,qM 12 49]))
def Zzc:C:=.seq (.seq (.draw [qM 50 12,uM 51 13 [0],qB 52 .leq 50 51,qM 53 52,vM 54 4 53 true,wM 55 0 53 true [4],wM 56 13 53 true [4,5],wI 57 1 55 56 53 true [4],wL 58 57 53 true [4],wM 59 0 53 true [4,5,6,7,8],wM 60 1 53 true [4,5,6,7,8,9],wI 61 1 59 60 53 true [4,5,6,7,8],wL 62 61 53 true [4,5,6,7,8],oG 63 (.callv (.t 54) [.t 58,.t 62]) 53 true,vK 64 .lss 63 0 53 true,vU 65 64 53 true,qP 66 53 65]) (cX 66 2)) (.block 3 (.ops [qM 67 13,qK 68 .sub 67 1,qM 13 68]))
def ZBl:C:=.seq (.seq (.draw [qM 105 12,uM 106 13 [0],qB 107 .leq 105 106,qM 108 107,vM 109 4 108 true,wM 110 0 108 true [4],wM 111 12 108 true [4,5],wI 112 1 110 111 108 true [4],wL 113 112 108 true [4],wM 114 0 108 true [4,5,6,7,8],wM 115 1 108 true [4,5,6,7,8,9],wI 116 1 114 115 108 true [4,5,6,7,8],wL 117 116 108 true [4,5,6,7,8],oG 118 (.callv (.t 109) [.t 113,.t 117]) 108 true,vK 119 .lss 118 0 108 true,qP 120 108 119]) (cX 120 6)) (.block 7 (.ops [qM 121 12,qK 122 .add 121 1,qM 12 122]))
def Zz0:C:=.seq (.seq (.draw [qM 123 12,uM 124 13 [0],qB 125 .leq 123 124,qM 126 125,vM 127 4 126 true,wM 128 0 126 true [4],wM 129 13 126 true [4,5],wI 130 1 128 129 126 true [4],wL 131 130 126 true [4],wM 132 0 126 true [4,5,6,7,8],wM 133 1 126 true [4,5,6,7,8,9],wI 134 1 132 133 126 true [4,5,6,7,8],wL 135 134 126 true [4,5,6,7,8],oG 136 (.callv (.t 127) [.t 131,.t 135]) 126 true,vK 137 .lss 136 0 126 true,vU 138 137 126 true,qP 139 126 138]) (cX 139 8)) (.block 9 (.ops [qM 140 13,qK 141 .sub 140 1,qM 13 141]))
def ZAy:C:=.block 5 (.seq (.block 6 (.loop [0,1,4,12,13] [0,1,4,12,13] ZBl)) (.seq (.block 8 (.loop [0,1,4,12,13] [0,1,4,12,13] Zz0)) (.seq (oS [qM 142 12,qM 143 13,qB 144 .gtr 142 143] (cY 144 (.exit 4) .skip)) (.seq (.draw [qM 145 0,uM 146 12 [0],uM 147 0 [0,1],uM 148 13 [0,1,2],uM 149 0 [0,1,2,3],uM 150 13 [0,1,2,3,4],uI 151 1 149 150 [0,1,2,3],uL 152 151 [0,1,2,3],uM 153 0 [0,1,2,3,4,5,6,7],uM 154 12 [0,1,2,3,4,5,6,7,8],uI 155 1 153 154 [0,1,2,3,4,5,6,7],uL 156 155 [0,1,2,3,4,5,6,7],uI 157 1 145 146 [2,3],⟨none,.store 1 (.t 157) (.t 152),none,[],3⟩,qI 158 1 147 148,⟨none,.store 1 (.t 158) (.t 156),none,[],3⟩]) (oS [qM 159 12,qK 160 .add 159 1,qM 12 160] (.ops [qM 161 13,qK 162 .sub 161 1,qM 13 162]))))))
def ZIC:C:=oS [qW 10 0,oB 11 (.mov bF)] (.seq (.draw [qM 14 0,uM 15 1 [0],uM 16 0 [0,1],uM 17 3 [0,1,2],uM 18 0 [0,1,2,3],uM 19 3 [0,1,2,3,4],uI 20 1 18 19 [0,1,2,3],uL 21 20 [0,1,2,3],uM 22 0 [0,1,2,3,4,5,6,7],uM 23 1 [0,1,2,3,4,5,6,7,8],uI 24 1 22 23 [0,1,2,3,4,5,6,7],uL 25 24 [0,1,2,3,4,5,6,7],uI 26 1 14 15 [2,3],⟨none,.store 1 (.t 26) (.t 21),none,[],3⟩,qI 27 1 16 17,⟨none,.store 1 (.t 27) (.t 25),none,[],3⟩]) (oS [qM 28 1,qK 29 .add 28 1,qM 30 2,qK 31 .sub 30 1,qM 12 29,qM 13 31] (.seq (.block 0 (.loop [0,1,4,12,13] [0,1,4,12,13] ZAR)) (.seq (.block 2 (.loop [0,1,4,12,13] [0,1,4,12,13] Zzc)) (.seq (oS [qM 69 12,qM 70 13,qB 71 .gtr 69 70] (cY 71 (.seq (.draw [qM 72 0,uM 73 13 [0],uM 74 0 [0,1],uM 75 1 [0,1,2],uM 76 0 [0,1,2,3],uM 77 1 [0,1,2,3,4],uI 78 1 76 77 [0,1,2,3],uL 79 78 [0,1,2,3],uM 80 0 [0,1,2,3,4,5,6,7],uM 81 13 [0,1,2,3,4,5,6,7,8],uI 82 1 80 81 [0,1,2,3,4,5,6,7],uL 83 82 [0,1,2,3,4,5,6,7],uI 84 1 72 73 [2,3],⟨none,.store 1 (.t 84) (.t 79),none,[],3⟩,qI 85 1 74 75,⟨none,.store 1 (.t 85) (.t 83),none,[],3⟩]) (oS [qM 86 13,qM 10 86,oB 11 (.mov bT)] .ret)) .skip)) (.seq (.draw [qM 87 0,uM 88 12 [0],uM 89 0 [0,1],uM 90 13 [0,1,2],uM 91 0 [0,1,2,3],uM 92 13 [0,1,2,3,4],uI 93 1 91 92 [0,1,2,3],uL 94 93 [0,1,2,3],uM 95 0 [0,1,2,3,4,5,6,7],uM 96 12 [0,1,2,3,4,5,6,7,8],uI 97 1 95 96 [0,1,2,3,4,5,6,7],uL 98 97 [0,1,2,3,4,5,6,7],uI 99 1 87 88 [2,3],⟨none,.store 1 (.t 99) (.t 94),none,[],3⟩,qI 100 1 89 90,⟨none,.store 1 (.t 100) (.t 98),none,[],3⟩]) (oS [qM 101 12,qK 102 .add 101 1,qM 12 102] (oS [qM 103 13,qK 104 .sub 103 1,qM 13 104] (.seq (.block 4 (.loop [0,1,4,12,13] [0,1,13] ZAy)) (.seq (.draw [qM 163 0,uM 164 13 [0],uM 165 0 [0,1],uM 166 1 [0,1,2],uM 167 0 [0,1,2,3],uM 168 1 [0,1,2,3,4],uI 169 1 167 168 [0,1,2,3],uL 170 169 [0,1,2,3],uM 171 0 [0,1,2,3,4,5,6,7],uM 172 13 [0,1,2,3,4,5,6,7,8],uI 173 1 171 172 [0,1,2,3,4,5,6,7],uL 174 173 [0,1,2,3,4,5,6,7],uI 175 1 163 164 [2,3],⟨none,.store 1 (.t 175) (.t 170),none,[],3⟩,qI 176 1 165 166,⟨none,.store 1 (.t 176) (.t 174),none,[],3⟩]) (oS [qM 177 13,qM 10 177,oB 11 (.mov bF)] .ret)))))))))))
def ZEs:FnI:=⟨5,ZIC,[(10,none),(11,none)]⟩
def ZHC:C:=oS [qW 2 0] (.seq (oS [qM 3 0,oB 4 (.bin .geq (.t 3) (.c (.d (.int .u32 65536))))] (cY 4 (oS [qM 5 0,oB 6 (.bin .shr (.t 5) (.c (.d (.int .u64 16)))),qM 0 6] (.ops [qW 2 16])) .skip)) (.seq (oS [qM 7 0,oB 8 (.bin .geq (.t 7) (.c (.d (.int .u32 256))))] (cY 8 (oS [qM 9 0,oB 10 (.bin .shr (.t 9) (.c (.d (.int .u64 8)))),qM 0 10] (.ops [qM 11 2,qK 12 .add 11 8,qM 2 12])) .skip)) (oS [qM 13 2,qM 14 0,oB 15 (.conv .u8 (.t 14)),oB 16 (.indexS (.c (.d (.str ⟨#[0,1,2,2,3,3,3,3,4,4,4,4,4,4,4,4,5,5,5,5,5,5,5,5,5,5,5,5,5,5,5,5,6,6,6,6,6,6,6,6,6,6,6,6,6,6,6,6,6,6,6,6,6,6,6,6,6,6,6,6,6,6,6,6,7,7,7,7,7,7,7,7,7,7,7,7,7,7,7,7,7,7,7,7,7,7,7,7,7,7,7,7,7,7,7,7,7,7,7,7,7,7,7,7,7,7,7,7,7,7,7,7,7,7,7,7,7,7,7,7,7,7,7,7,7,7,7,7,8,8,8,8,8,8,8,8,8,8,8,8,8,8,8,8,8,8,8,8,8,8,8,8,8,8,8,8,8,8,8,8,8,8,8,8,8,8,8,8,8,8,8,8,8,8,8,8,8,8,8,8,8,8,8,8,8,8,8,8,8,8,8,8,8,8,8,8,8,8,8,8,8,8,8,8,8,8,8,8,8,8,8,8,8,8,8,8,8,8,8,8,8,8,8,8,8,8,8,8,8,8,8,8,8,8,8,8,8,8,8,8,8,8,8,8,8,8,8,8,8,8,8,8,8,8,8,8]⟩))) (.t 15)),oB 17 (.conv .i64 (.t 16)),qB 18 .add 13 17,qM 2 18] .ret)))
def ZGc:FnI:=⟨1,ZHC,[(2,none)]⟩
def ZHg:C:=oS [qW 2 0] (.seq (oS [qM 3 0,oB 4 (.bin .geq (.t 3) (.c (.d (.int .u64 4294967296))))] (cY 4 (oS [qM 5 0,oB 6 (.bin .shr (.t 5) (.c (.d (.int .u64 32)))),qM 0 6] (.ops [qW 2 32])) .skip)) (.seq (oS [qM 7 0,oB 8 (.bin .geq (.t 7) (.c (.d (.int .u64 65536))))] (cY 8 (oS [qM 9 0,oB 10 (.bin .shr (.t 9) (.c (.d (.int .u64 16)))),qM 0 10] (.ops [qM 11 2,qK 12 .add 11 16,qM 2 12])) .skip)) (.seq (oS [qM 13 0,oB 14 (.bin .geq (.t 13) (.c (.d (.int .u64 256))))] (cY 14 (oS [qM 15 0,oB 16 (.bin .shr (.t 15) (.c (.d (.int .u64 8)))),qM 0 16] (.ops [qM 17 2,qK 18 .add 17 8,qM 2 18])) .skip)) (oS [qM 19 2,qM 20 0,oB 21 (.conv .u8 (.t 20)),oB 22 (.indexS (.c (.d (.str ⟨#[0,1,2,2,3,3,3,3,4,4,4,4,4,4,4,4,5,5,5,5,5,5,5,5,5,5,5,5,5,5,5,5,6,6,6,6,6,6,6,6,6,6,6,6,6,6,6,6,6,6,6,6,6,6,6,6,6,6,6,6,6,6,6,6,7,7,7,7,7,7,7,7,7,7,7,7,7,7,7,7,7,7,7,7,7,7,7,7,7,7,7,7,7,7,7,7,7,7,7,7,7,7,7,7,7,7,7,7,7,7,7,7,7,7,7,7,7,7,7,7,7,7,7,7,7,7,7,7,8,8,8,8,8,8,8,8,8,8,8,8,8,8,8,8,8,8,8,8,8,8,8,8,8,8,8,8,8,8,8,8,8,8,8,8,8,8,8,8,8,8,8,8,8,8,8,8,8,8,8,8,8,8,8,8,8,8,8,8,8,8,8,8,8,8,8,8,8,8,8,8,8,8,8,8,8,8,8,8,8,8,8,8,8,8,8,8,8,8,8,8,8,8,8,8,8,8,8,8,8,8,8,8,8,8,8,8,8,8,8,8,8,8,8,8,8,8,8,8,8,8,8,8,8,8,8,8]⟩))) (.t 21)),oB 23 (.conv .i64 (.t 22)),qB 24 .add 19 23,qM 2 24] .ret))))
def ZEo:FnI:=⟨1,ZHg,[(2,none)]⟩
def Zzd:C:=.seq (.seq (.draw [qM 16 7,uM 17 1 [0],qB 18 .gtr 16 17,qM 19 18,vM 20 0 19 true,wM 21 7 19 true [4],vI 22 1 20 21 19 true,vL 23 22 19 true,wM 24 0 19 true [4,5,6,7],wM 25 7 19 true [4,5,6,7,8],⟨some 26,.bin .sub (.t 25) (iN 1),some (19,true),[4,5,6,7,8],0⟩,wI 27 1 24 26 19 true [4,5,6,7],wL 28 27 19 true [4,5,6,7],oG 29 (.call 102 [.t 23,.t 28]) 19 true,qP 30 19 29]) (cX 30 2)) (.seq (.block 3 (.draw [qM 33 0,uM 34 7 [0],uM 35 0 [0,1],uM 36 7 [0,1,2],oM 37 (.bin .sub (.t 36) (iN 1)) [0,1,2],uM 38 0 [0,1,2,3,4],uM 39 7 [0,1,2,3,4,5],oM 40 (.bin .sub (.t 39) (iN 1)) [0,1,2,3,4,5],uI 41 1 38 40 [0,1,2,3,4],uL 42 41 [0,1,2,3,4],uM 43 0 [0,1,2,3,4,5,6,7,8,9],uM 44 7 [0,1,2,3,4,5,6,7,8,9,10],uI 45 1 43 44 [0,1,2,3,4,5,6,7,8,9],uL 46 45 [0,1,2,3,4,5,6,7,8,9],uI 47 1 33 34 [2,3,4],⟨none,.store 1 (.t 47) (.t 42),none,[],3⟩,qI 48 1 35 37,⟨none,.store 1 (.t 48) (.t 46),none,[],3⟩])) (.ops [qM 31 7,qK 32 .sub 31 1,qM 7 32]))
def ZA6:C:=.seq (oS [qM 10 6,qM 11 2,qB 12 .lss 10 11] (cX 12 0)) (.seq (.block 1 (oS [qM 15 6,qM 7 15] (.block 2 (.loop [0,1,2,6,7] [0,1,2,6] Zzd)))) (.ops [qM 13 6,qK 14 .add 13 1,qM 6 14]))
def ZHM:C:=oS [qM 8 1,qK 9 .add 8 1,qM 6 9] (.block 0 (.loop [0,1,2,6] [] ZA6))
def ZDU:FnI:=⟨3,ZHM,[]⟩
def Zy5:C:=.seq (oS [qM 18 9,qK 19 .geq 18 0] (cX 19 0)) (.seq (.block 1 (.ops [qM 22 0,qM 23 9,qM 24 8,qM 25 6,oB 26 (.call 110 [.t 22,.t 23,.t 24,.t 25])])) (.ops [qM 20 9,qK 21 .sub 20 1,qM 9 21]))
def ZBk:C:=.seq (oS [qM 29 10,qK 30 .geq 29 0] (cX 30 2)) (.seq (.block 3 (.seq (.draw [qM 33 0,uM 34 6 [0],uM 35 0 [0,1],uM 36 6 [0,1,2],uM 37 10 [0,1,2,3],oM 38 (.bin .add (.t 36) (.t 37)) [0,1,2],uM 39 0 [0,1,2,3,4,5],uM 40 6 [0,1,2,3,4,5,6],uM 41 10 [0,1,2,3,4,5,6,7],oM 42 (.bin .add (.t 40) (.t 41)) [0,1,2,3,4,5,6],uI 43 1 39 42 [0,1,2,3,4,5],uL 44 43 [0,1,2,3,4,5],uM 45 0 [0,1,2,3,4,5,6,7,8,9,10,11],uM 46 6 [0,1,2,3,4,5,6,7,8,9,10,11,12],uI 47 1 45 46 [0,1,2,3,4,5,6,7,8,9,10,11],uL 48 47 [0,1,2,3,4,5,6,7,8,9,10,11],uI 49 1 33 34 [2,3,4,5],⟨none,.store 1 (.t 49) (.t 44),none,[],3⟩,qI 50 1 35 38,⟨none,.store 1 (.t 50) (.t 48),none,[],3⟩]) (.ops [qM 51 0,qM 52 7,qM 53 10,qM 54 6,oB 55 (.call 110 [.t 51,.t 52,.t 53,.t 54])]))) (.ops [qM 31 10,qK 32 .sub 31 1,qM 10 32]))
def ZIX:C:=oS [qM 11 1,qM 6 11] (oS [qW 7 0] (oS [qM 12 2,qM 13 1,qB 14 .sub 12 13,qM 8 14] (.seq (oS [qM 15 8,qK 16 .sub 15 1,qK 17 .quo 16 2,qM 9 17] (.block 0 (.loop [0,6,7,8,9] [0,6,7,8] Zy5))) (oS [qM 27 8,qK 28 .sub 27 1,qM 10 28] (.block 2 (.loop [0,6,7,10] [] ZBk))))))
def ZEi:FnI:=⟨3,ZIX,[]⟩
def Zzs:C:=.seq (oS [qM 26 9,qM 27 1,qM 28 6,qK 29 .quo 28 4,qK 30 .mul 29 2,qB 31 .add 27 30,qK 32 .add 31 1,qB 33 .leq 26 32] (cX 33 0)) (.seq (.block 1 (oS [qC 36 107 7,qM 37 8,oB 38 (.bin .sub (.t 37) (.c (.d (.int .u64 1)))),qB 39 .and 36 38,oB 40 (.conv .i64 (.t 39)),qM 10 40] (.seq (oS [qM 41 10,qM 42 6,qB 43 .geq 41 42] (cY 43 (.ops [qM 44 10,qM 45 6,qB 46 .sub 44 45,qM 10 46]) .skip)) (.draw [qM 47 0,uM 48 9 [0],uM 49 0 [0,1],uM 50 1 [0,1,2],uM 51 10 [0,1,2,3],oM 52 (.bin .add (.t 50) (.t 51)) [0,1,2],uM 53 0 [0,1,2,3,4,5],uM 54 1 [0,1,2,3,4,5,6],uM 55 10 [0,1,2,3,4,5,6,7],oM 56 (.bin .add (.t 54) (.t 55)) [0,1,2,3,4,5,6],uI 57 1 53 56 [0,1,2,3,4,5],uL 58 57 [0,1,2,3,4,5],uM 59 0 [0,1,2,3,4,5,6,7,8,9,10,11],uM 60 9 [0,1,2,3,4,5,6,7,8,9,10,11,12],uI 61 1 59 60 [0,1,2,3,4,5,6,7,8,9,10,11],uL 62 61 [0,1,2,3,4,5,6,7,8,9,10,11],uI 63 1 47 48 [2,3,4,5],⟨none,.store 1 (.t 63) (.t 58),none,[],3⟩,qI 64 1 49 52,⟨none,.store 1 (.t 64) (.t 62),none,[],3⟩])))) (.ops [qM 34 9,qK 35 .add 34 1,qM 9 35]))
def ZGC:C:=oS [qM 11 2,qM 12 1,qB 13 .sub 11 12,qM 6 13] (oS [qM 14 6,qK 15 .geq 14 8] (cY 15 (oS [qM 16 6,oB 17 (.conv .u64 (.t 16)),oB 7 (.alloc (.d (.int .u64 0))),oA (.store 1 (.t 7) (.t 17))] (oS [qM 18 6,qC 19 106 18,qM 8 19] (oS [qM 20 1,qM 21 6,qK 22 .quo 21 4,qK 23 .mul 22 2,qB 24 .add 20 23,qK 25 .sub 24 1,qM 9 25] (.block 0 (.loop [0,1,6,7,8,9] [] Zzs))))) .skip))
def ZEQ:FnI:=⟨3,ZGC,[]⟩
def ZHq:C:=oS [qW 6 0,qW 7 0] (oS [qM 13 2,qM 14 1,qB 15 .sub 13 14,qM 8 15] (oS [oB 9 (.alloc zI)] (oS [qM 16 1,qM 17 8,qK 18 .quo 17 4,qK 19 .mul 18 1,qB 20 .add 16 19,qM 10 20] (oS [qM 21 1,qM 22 8,qK 23 .quo 22 4,qK 24 .mul 23 2,qB 25 .add 21 24,qM 11 25] (oS [qM 26 1,qM 27 8,qK 28 .quo 27 4,qK 29 .mul 28 3,qB 30 .add 26 29,qM 12 30] (.seq (oS [qM 31 8,qK 32 .geq 31 8] (cY 32 (.seq (oS [qM 33 8,qK 34 .geq 33 50] (cY 34 (oS [qM 35 0,qM 36 10,oB 37 (.call 111 [.t 35,.t 36,.t 9]),qM 10 37] (oS [qM 38 0,qM 39 11,oB 40 (.call 111 [.t 38,.t 39,.t 9]),qM 11 40] (.ops [qM 41 0,qM 42 12,oB 43 (.call 111 [.t 41,.t 42,.t 9]),qM 12 43]))) .skip)) (.ops [qM 44 0,qM 45 10,qM 46 11,qM 47 12,oB 48 (.call 112 [.t 44,.t 45,.t 46,.t 47,.t 9]),qM 11 48])) .skip)) (oS [qL 49 9] (.block 0 (oS [qK 52 .eql 49 0,qM 51 52] (cY 51 (oS [qM 53 11,qM 6 53,qW 7 1] .ret) (oS [qK 55 .eql 49 12,qM 54 55] (cY 54 (oS [qM 56 11,qM 6 56,qW 7 2] .ret) (oS [qM 50 11,qM 6 50,qW 7 0] .ret)))))))))))))
def ZDz:FnI:=⟨3,ZHq,[(6,none),(7,none)]⟩
def ZxB:C:=.seq (oS [qM 11 6,qM 12 7,qB 13 .lss 11 12] (cX 13 0)) (.block 1 (.seq (.draw [qM 14 0,uM 15 6 [0],uM 16 0 [0,1],uM 17 7 [0,1,2],uM 18 0 [0,1,2,3],uM 19 7 [0,1,2,3,4],uI 20 1 18 19 [0,1,2,3],uL 21 20 [0,1,2,3],uM 22 0 [0,1,2,3,4,5,6,7],uM 23 6 [0,1,2,3,4,5,6,7,8],uI 24 1 22 23 [0,1,2,3,4,5,6,7],uL 25 24 [0,1,2,3,4,5,6,7],uI 26 1 14 15 [2,3],⟨none,.store 1 (.t 26) (.t 21),none,[],3⟩,qI 27 1 16 17,⟨none,.store 1 (.t 27) (.t 25),none,[],3⟩]) (oS [qM 28 6,qK 29 .add 28 1,qM 6 29] (.ops [qM 30 7,qK 31 .sub 30 1,qM 7 31]))))
def ZFe:C:=oS [qM 8 1,qM 6 8] (oS [qM 9 2,qK 10 .sub 9 1,qM 7 10] (.block 0 (.loop [0,6,7] [] ZxB)))
def ZBo:FnI:=⟨3,ZFe,[]⟩
def Zx9:C:=.seq (.seq (.draw [qM 17 7,uM 18 2 [0],qB 19 .lss 17 18,qM 20 19,vM 21 0 20 true,wM 22 7 20 true [4],vI 23 1 21 22 20 true,vL 24 23 20 true,wM 25 0 20 true [4,5,6,7],wM 26 7 20 true [4,5,6,7,8],⟨some 27,.bin .sub (.t 26) (iN 1),some (20,true),[4,5,6,7,8],0⟩,wI 28 1 25 27 20 true [4,5,6,7],wL 29 28 20 true [4,5,6,7],oG 30 (.call 102 [.t 24,.t 29]) 20 true,vU 31 30 20 true,qP 32 20 31]) (cX 32 2)) (.block 3 (.ops [qM 33 7,qK 34 .add 33 1,qM 7 34]))
def Zxp:C:=.seq (oS [qM 64 9,qK 65 .geq 64 1] (cX 65 4)) (.seq (.block 5 (.seq (.seq (.draw [qM 68 0,uM 69 9 [0],qI 70 1 68 69,qL 71 70,uM 72 0 [0,1,2,3],uM 73 9 [0,1,2,3,4],oM 74 (.bin .sub (.t 73) (iN 1)) [0,1,2,3,4],uI 75 1 72 74 [0,1,2,3],uL 76 75 [0,1,2,3],qD 77 102 71 76,qU 78 77]) (cY 78 (.exit 4) .skip)) (.draw [qM 79 0,uM 80 9 [0],uM 81 0 [0,1],uM 82 9 [0,1,2],oM 83 (.bin .sub (.t 82) (iN 1)) [0,1,2],uM 84 0 [0,1,2,3,4],uM 85 9 [0,1,2,3,4,5],oM 86 (.bin .sub (.t 85) (iN 1)) [0,1,2,3,4,5],uI 87 1 84 86 [0,1,2,3,4],uL 88 87 [0,1,2,3,4],uM 89 0 [0,1,2,3,4,5,6,7,8,9],uM 90 9 [0,1,2,3,4,5,6,7,8,9,10],uI 91 1 89 90 [0,1,2,3,4,5,6,7,8,9],uL 92 91 [0,1,2,3,4,5,6,7,8,9],uI 93 1 79 80 [2,3,4],⟨none,.store 1 (.t 93) (.t 88),none,[],3⟩,qI 94 1 81 83,⟨none,.store 1 (.t 94) (.t 92),none,[],3⟩]))) (.ops [qM 66 9,qK 67 .sub 66 1,qM 9 67]))
def ZxK:C:=.seq (oS [qM 101 10,qM 102 2,qB 103 .lss 101 102] (cX 103 6)) (.seq (.block 7 (.seq (.seq (.draw [qM 106 0,uM 107 10 [0],qI 108 1 106 107,qL 109 108,uM 110 0 [0,1,2,3],uM 111 10 [0,1,2,3,4],oM 112 (.bin .sub (.t 111) (iN 1)) [0,1,2,3,4],uI 113 1 110 112 [0,1,2,3],uL 114 113 [0,1,2,3],qD 115 102 109 114,qU 116 115]) (cY 116 (.exit 6) .skip)) (.draw [qM 117 0,uM 118 10 [0],uM 119 0 [0,1],uM 120 10 [0,1,2],oM 121 (.bin .sub (.t 120) (iN 1)) [0,1,2],uM 122 0 [0,1,2,3,4],uM 123 10 [0,1,2,3,4,5],oM 124 (.bin .sub (.t 123) (iN 1)) [0,1,2,3,4,5],uI 125 1 122 124 [0,1,2,3,4],uL 126 125 [0,1,2,3,4],uM 127 0 [0,1,2,3,4,5,6,7,8,9],uM 128 10 [0,1,2,3,4,5,6,7,8,9,10],uI 129 1 127 128 [0,1,2,3,4,5,6,7,8,9],uL 130 129 [0,1,2,3,4,5,6,7,8,9],uI 131 1 117 118 [2,3,4],⟨none,.store 1 (.t 131) (.t 126),none,[],3⟩,qI 132 1 119 121,⟨none,.store 1 (.t 132) (.t 130),none,[],3⟩]))) (.ops [qM 104 10,qK 105 .add 104 1,qM 10 105]))
def Zx1:C:=.seq (oS [qM 13 8,qK 14 .lss 13 5] (cX 14 0)) (.seq (.block 1 (.seq (.block 2 (.loop [0,1,2,7,8] [0,1,2,7,8] Zx9)) (.seq (oS [qM 35 7,qM 36 2,qB 37 .eql 35 36] (cY 37 (oS [oB 6 (.mov bT)] .ret) .skip)) (.seq (oS [qM 38 2,qM 39 1,qB 40 .sub 38 39,qK 41 .lss 40 50] (cY 41 (oS [oB 6 (.mov bF)] .ret) .skip)) (.seq (.draw [qM 42 0,uM 43 7 [0],uM 44 0 [0,1],uM 45 7 [0,1,2],oM 46 (.bin .sub (.t 45) (iN 1)) [0,1,2],uM 47 0 [0,1,2,3,4],uM 48 7 [0,1,2,3,4,5],oM 49 (.bin .sub (.t 48) (iN 1)) [0,1,2,3,4,5],uI 50 1 47 49 [0,1,2,3,4],uL 51 50 [0,1,2,3,4],uM 52 0 [0,1,2,3,4,5,6,7,8,9],uM 53 7 [0,1,2,3,4,5,6,7,8,9,10],uI 54 1 52 53 [0,1,2,3,4,5,6,7,8,9],uL 55 54 [0,1,2,3,4,5,6,7,8,9],uI 56 1 42 43 [2,3,4],⟨none,.store 1 (.t 56) (.t 51),none,[],3⟩,qI 57 1 44 46,⟨none,.store 1 (.t 57) (.t 55),none,[],3⟩]) (.seq (oS [qM 58 7,qM 59 1,qB 60 .sub 58 59,qK 61 .geq 60 2] (cY 61 (oS [qM 62 7,qK 63 .sub 62 1,qM 9 63] (.block 4 (.loop [0,1,2,7,8,9] [0,1,2,7,8] Zxp))) .skip)) (oS [qM 95 2,qM 96 7,qB 97 .sub 95 96,qK 98 .geq 97 2] (cY 98 (oS [qM 99 7,qK 100 .add 99 1,qM 10 100] (.block 6 (.loop [0,1,2,7,8,10] [0,1,2,7,8] ZxK))) .skip)))))))) (.ops [qM 15 8,qK 16 .add 15 1,qM 8 16]))
def ZFy:C:=oS [oB 6 (.mov bF)] (oS [qM 11 1,qK 12 .add 11 1,qM 7 12] (.seq (oS [qW 8 0] (.block 0 (.loop [0,1,2,7,8] [6] Zx1))) (oS [oB 6 (.mov bF)] .ret)))
def ZzO:FnI:=⟨3,ZFy,[(6,none)]⟩
def ZF1:C:=oS [oB 4 (.mov bF)] (oS [qM 5 0,qC 6 113 5,qM 7 6,vM 8 1 7 true,oG 9 (.call 113 [.t 8]) 7 true,vU 10 9 7 true,qP 11 7 10,qM 12 11,vM 13 0 12 false,vM 14 1 12 false,vB 15 .lss 13 14 12 false,oB 16 (.pick (.t 12) bT (.t 15)),qM 4 16] .ret)
def ZAb:FnI:=⟨2,ZF1,[(4,none)]⟩
def ZxG:C:=.seq (.seq (.draw [qM 29 9,uM 30 10 [0],qB 31 .leq 29 30,qM 32 31,vM 33 0 32 true,wM 34 1 32 true [4],vI 35 1 33 34 32 true,vL 36 35 32 true,wM 37 0 32 true [4,5,6,7],wM 38 9 32 true [4,5,6,7,8],wI 39 1 37 38 32 true [4,5,6,7],wL 40 39 32 true [4,5,6,7],oG 41 (.call 102 [.t 36,.t 40]) 32 true,vU 42 41 32 true,qP 43 32 42]) (cX 43 2)) (.block 3 (.ops [qM 44 9,qK 45 .add 44 1,qM 9 45]))
def Zxw:C:=.seq (.seq (.draw [qM 46 9,uM 47 10 [0],qB 48 .leq 46 47,qM 49 48,vM 50 0 49 true,wM 51 1 49 true [4],vI 52 1 50 51 49 true,vL 53 52 49 true,wM 54 0 49 true [4,5,6,7],wM 55 10 49 true [4,5,6,7,8],wI 56 1 54 55 49 true [4,5,6,7],wL 57 56 49 true [4,5,6,7],oG 58 (.call 102 [.t 53,.t 57]) 49 true,qP 59 49 58]) (cX 59 4)) (.block 5 (.ops [qM 60 10,qK 61 .sub 60 1,qM 10 61]))
def ZxN:C:=.block 1 (.seq (.block 2 (.loop [0,1,9,10] [0,1,9,10] ZxG)) (.seq (.block 4 (.loop [0,1,9,10] [0,1,9,10] Zxw)) (.seq (oS [qM 62 9,qM 63 10,qB 64 .gtr 62 63] (cY 64 (.exit 0) .skip)) (.seq (.draw [qM 65 0,uM 66 9 [0],uM 67 0 [0,1],uM 68 10 [0,1,2],uM 69 0 [0,1,2,3],uM 70 10 [0,1,2,3,4],uI 71 1 69 70 [0,1,2,3],uL 72 71 [0,1,2,3],uM 73 0 [0,1,2,3,4,5,6,7],uM 74 9 [0,1,2,3,4,5,6,7,8],uI 75 1 73 74 [0,1,2,3,4,5,6,7],uL 76 75 [0,1,2,3,4,5,6,7],uI 77 1 65 66 [2,3],⟨none,.store 1 (.t 77) (.t 72),none,[],3⟩,qI 78 1 67 68,⟨none,.store 1 (.t 78) (.t 76),none,[],3⟩]) (oS [qM 79 9,qK 80 .add 79 1,qM 9 80] (.ops [qM 81 10,qK 82 .sub 81 1,qM 10 82]))))))
def ZFn:C:=oS [qW 8 0] (.seq (.draw [qM 11 0,uM 12 1 [0],uM 13 0 [0,1],uM 14 3 [0,1,2],uM 15 0 [0,1,2,3],uM 16 3 [0,1,2,3,4],uI 17 1 15 16 [0,1,2,3],uL 18 17 [0,1,2,3],uM 19 0 [0,1,2,3,4,5,6,7],uM 20 1 [0,1,2,3,4,5,6,7,8],uI 21 1 19 20 [0,1,2,3,4,5,6,7],uL 22 21 [0,1,2,3,4,5,6,7],uI 23 1 11 12 [2,3],⟨none,.store 1 (.t 23) (.t 18),none,[],3⟩,qI 24 1 13 14,⟨none,.store 1 (.t 24) (.t 22),none,[],3⟩]) (oS [qM 25 1,qK 26 .add 25 1,qM 27 2,qK 28 .sub 27 1,qM 9 26,qM 10 28] (.seq (.block 0 (.loop [0,1,9,10] [9] ZxN)) (oS [qM 83 9,qM 8 83] .ret))))
def ZAq:FnI:=⟨4,ZFn,[(8,none)]⟩
def Zx5:C:=.seq (.seq (.draw [qM 30 10,uM 31 11 [0],qB 32 .leq 30 31,qM 33 32,vM 34 0 33 true,wM 35 10 33 true [4],vI 36 1 34 35 33 true,vL 37 36 33 true,wM 38 0 33 true [4,5,6,7],wM 39 1 33 true [4,5,6,7,8],wI 40 1 38 39 33 true [4,5,6,7],wL 41 40 33 true [4,5,6,7],oG 42 (.call 102 [.t 37,.t 41]) 33 true,qP 43 33 42]) (cX 43 0)) (.block 1 (.ops [qM 44 10,qK 45 .add 44 1,qM 10 45]))
def ZxO:C:=.seq (.seq (.draw [qM 46 10,uM 47 11 [0],qB 48 .leq 46 47,qM 49 48,vM 50 0 49 true,wM 51 11 49 true [4],vI 52 1 50 51 49 true,vL 53 52 49 true,wM 54 0 49 true [4,5,6,7],wM 55 1 49 true [4,5,6,7,8],wI 56 1 54 55 49 true [4,5,6,7],wL 57 56 49 true [4,5,6,7],oG 58 (.call 102 [.t 53,.t 57]) 49 true,vU 59 58 49 true,qP 60 49 59]) (cX 60 2)) (.block 3 (.ops [qM 61 11,qK 62 .sub 61 1,qM 11 62]))
def ZxF:C:=.seq (.seq (.draw [qM 99 10,uM 100 11 [0],qB 101 .leq 99 100,qM 102 101,vM 103 0 102 true,wM 104 10 102 true [4],vI 105 1 103 104 102 true,vL 106 105 102 true,wM 107 0 102 true [4,5,6,7],wM 108 1 102 true [4,5,6,7,8],wI 109 1 107 108 102 true [4,5,6,7],wL 110 109 102 true [4,5,6,7],oG 111 (.call 102 [.t 106,.t 110]) 102 true,qP 112 102 111]) (cX 112 6)) (.block 7 (.ops [qM 113 10,qK 114 .add 113 1,qM 10 114]))
def ZxE:C:=.seq (.seq (.draw [qM 115 10,uM 116 11 [0],qB 117 .leq 115 116,qM 118 117,vM 119 0 118 true,wM 120 11 118 true [4],vI 121 1 119 120 118 true,vL 122 121 118 true,wM 123 0 118 true [4,5,6,7],wM 124 1 118 true [4,5,6,7,8],wI 125 1 123 124 118 true [4,5,6,7],wL 126 125 118 true [4,5,6,7],oG 127 (.call 102 [.t 122,.t 126]) 118 true,vU 128 127 118 true,qP 129 118 128]) (cX 129 8)) (.block 9 (.ops [qM 130 11,qK 131 .sub 130 1,qM 11 131]))
def Zxu:C:=.block 5 (.seq (.block 6 (.loop [0,1,10,11] [0,1,10,11] ZxF)) (.seq (.block 8 (.loop [0,1,10,11] [0,1,10,11] ZxE)) (.seq (oS [qM 132 10,qM 133 11,qB 134 .gtr 132 133] (cY 134 (.exit 4) .skip)) (.seq (.draw [qM 135 0,uM 136 10 [0],uM 137 0 [0,1],uM 138 11 [0,1,2],uM 139 0 [0,1,2,3],uM 140 11 [0,1,2,3,4],uI 141 1 139 140 [0,1,2,3],uL 142 141 [0,1,2,3],uM 143 0 [0,1,2,3,4,5,6,7],uM 144 10 [0,1,2,3,4,5,6,7,8],uI 145 1 143 144 [0,1,2,3,4,5,6,7],uL 146 145 [0,1,2,3,4,5,6,7],uI 147 1 135 136 [2,3],⟨none,.store 1 (.t 147) (.t 142),none,[],3⟩,qI 148 1 137 138,⟨none,.store 1 (.t 148) (.t 146),none,[],3⟩]) (oS [qM 149 10,qK 150 .add 149 1,qM 10 150] (.ops [qM 151 11,qK 152 .sub 151 1,qM 11 152]))))))
def ZF2:C:=oS [qW 8 0,oB 9 (.mov bF)] (.seq (.draw [qM 12 0,uM 13 1 [0],uM 14 0 [0,1],uM 15 3 [0,1,2],uM 16 0 [0,1,2,3],uM 17 3 [0,1,2,3,4],uI 18 1 16 17 [0,1,2,3],uL 19 18 [0,1,2,3],uM 20 0 [0,1,2,3,4,5,6,7],uM 21 1 [0,1,2,3,4,5,6,7,8],uI 22 1 20 21 [0,1,2,3,4,5,6,7],uL 23 22 [0,1,2,3,4,5,6,7],uI 24 1 12 13 [2,3],⟨none,.store 1 (.t 24) (.t 19),none,[],3⟩,qI 25 1 14 15,⟨none,.store 1 (.t 25) (.t 23),none,[],3⟩]) (oS [qM 26 1,qK 27 .add 26 1,qM 28 2,qK 29 .sub 28 1,qM 10 27,qM 11 29] (.seq (.block 0 (.loop [0,1,10,11] [0,1,10,11] Zx5)) (.seq (.block 2 (.loop [0,1,10,11] [0,1,10,11] ZxO)) (.seq (oS [qM 63 10,qM 64 11,qB 65 .gtr 63 64] (cY 65 (.seq (.draw [qM 66 0,uM 67 11 [0],uM 68 0 [0,1],uM 69 1 [0,1,2],uM 70 0 [0,1,2,3],uM 71 1 [0,1,2,3,4],uI 72 1 70 71 [0,1,2,3],uL 73 72 [0,1,2,3],uM 74 0 [0,1,2,3,4,5,6,7],uM 75 11 [0,1,2,3,4,5,6,7,8],uI 76 1 74 75 [0,1,2,3,4,5,6,7],uL 77 76 [0,1,2,3,4,5,6,7],uI 78 1 66 67 [2,3],⟨none,.store 1 (.t 78) (.t 73),none,[],3⟩,qI 79 1 68 69,⟨none,.store 1 (.t 79) (.t 77),none,[],3⟩]) (oS [qM 80 11,qM 8 80,oB 9 (.mov bT)] .ret)) .skip)) (.seq (.draw [qM 81 0,uM 82 10 [0],uM 83 0 [0,1],uM 84 11 [0,1,2],uM 85 0 [0,1,2,3],uM 86 11 [0,1,2,3,4],uI 87 1 85 86 [0,1,2,3],uL 88 87 [0,1,2,3],uM 89 0 [0,1,2,3,4,5,6,7],uM 90 10 [0,1,2,3,4,5,6,7,8],uI 91 1 89 90 [0,1,2,3,4,5,6,7],uL 92 91 [0,1,2,3,4,5,6,7],uI 93 1 81 82 [2,3],⟨none,.store 1 (.t 93) (.t 88),none,[],3⟩,qI 94 1 83 84,⟨none,.store 1 (.t 94) (.t 92),none,[],3⟩]) (oS [qM 95 10,qK 96 .add 95 1,qM 10 96] (oS [qM 97 11,qK 98 .sub 97 1,qM 11 98] (.seq (.block 4 (.loop [0,1,10,11] [0,1,11] Zxu)) (.seq (.draw [qM 153 0,uM 154 11 [0],uM 155 0 [0,1],uM 156 1 [0,1,2],uM 157 0 [0,1,2,3],uM 158 1 [0,1,2,3,4],uI 159 1 157 158 [0,1,2,3],uL 160 159 [0,1,2,3],uM 161 0 [0,1,2,3,4,5,6,7],uM 162 11 [0,1,2,3,4,5,6,7,8],uI 163 1 161 162 [0,1,2,3,4,5,6,7],uL 164 163 [0,1,2,3,4,5,6,7],uI 165 1 153 154 [2,3],⟨none,.store 1 (.t 165) (.t 160),none,[],3⟩,qI 166 1 155 156,⟨none,.store 1 (.t 166) (.t 164),none,[],3⟩]) (oS [qM 167 11,qM 8 167,oB 9 (.mov bF)] .ret)))))))))))
def ZzX:FnI:=⟨4,ZF2,[(8,none),(9,none)]⟩
def ZxM:C:=.block 1 (oS [qM 13 10,oB 14 (.bin .mul (iN 2) (.t 13)),qK 15 .add 14 1,qM 11 15] (.seq (oS [qM 16 11,qM 17 2,qB 18 .geq 16 17] (cY 18 (.exit 0) .skip)) (.seq (.seq (.draw [qM 19 11,qK 20 .add 19 1,uM 21 2 [0,1],qB 22 .lss 20 21,qM 23 22,vM 24 4 23 true,wM 25 0 23 true [5],wM 26 3 23 true [5,6],wM 27 11 23 true [5,6,7],⟨some 28,.bin .add (.t 26) (.t 27),some (23,true),[5,6],0⟩,wI 29 1 25 28 23 true [5],wL 30 29 23 true [5],wM 31 0 23 true [5,6,7,8,9,10,11],wM 32 3 23 true [5,6,7,8,9,10,11,12],wM 33 11 23 true [5,6,7,8,9,10,11,12,13],⟨some 34,.bin .add (.t 32) (.t 33),some (23,true),[5,6,7,8,9,10,11,12],0⟩,⟨some 35,.bin .add (.t 34) (iN 1),some (23,true),[5,6,7,8,9,10,11,12],0⟩,wI 36 1 31 35 23 true [5,6,7,8,9,10,11],wL 37 36 23 true [5,6,7,8,9,10,11],oG 38 (.callv (.t 24) [.t 30,.t 37]) 23 true,vK 39 .lss 38 0 23 true,qP 40 23 39]) (cY 40 (.ops [qM 41 11,qK 42 .add 41 1,qM 11 42]) .skip)) (.seq (.seq (.draw [qM 43 4,uM 44 0 [0],uM 45 3 [0,1],uM 46 10 [0,1,2],oM 47 (.bin .add (.t 45) (.t 46)) [0,1],uI 48 1 44 47 [0],uL 49 48 [0],uM 50 0 [0,1,2,3,4,5,6],uM 51 3 [0,1,2,3,4,5,6,7],uM 52 11 [0,1,2,3,4,5,6,7,8],oM 53 (.bin .add (.t 51) (.t 52)) [0,1,2,3,4,5,6,7],uI 54 1 50 53 [0,1,2,3,4,5,6],uL 55 54 [0,1,2,3,4,5,6],oB 56 (.callv (.t 43) [.t 49,.t 55]),qK 57 .lss 56 0,qU 58 57]) (cY 58 .ret .skip)) (.seq (.draw [qM 59 0,uM 60 3 [0],uM 61 10 [0,1],oM 62 (.bin .add (.t 60) (.t 61)) [0],uM 63 0 [0,1,2,3],uM 64 3 [0,1,2,3,4],uM 65 11 [0,1,2,3,4,5],oM 66 (.bin .add (.t 64) (.t 65)) [0,1,2,3,4],uM 67 0 [0,1,2,3,4,5,6,7],uM 68 3 [0,1,2,3,4,5,6,7,8],uM 69 11 [0,1,2,3,4,5,6,7,8,9],oM 70 (.bin .add (.t 68) (.t 69)) [0,1,2,3,4,5,6,7,8],uI 71 1 67 70 [0,1,2,3,4,5,6,7],uL 72 71 [0,1,2,3,4,5,6,7],uM 73 0 [0,1,2,3,4,5,6,7,8,9,10,11,12,13],uM 74 3 [0,1,2,3,4,5,6,7,8,9,10,11,12,13,14],uM 75 10 [0,1,2,3,4,5,6,7,8,9,10,11,12,13,14,15],oM 76 (.bin .add (.t 74) (.t 75)) [0,1,2,3,4,5,6,7,8,9,10,11,12,13,14],uI 77 1 73 76 [0,1,2,3,4,5,6,7,8,9,10,11,12,13],uL 78 77 [0,1,2,3,4,5,6,7,8,9,10,11,12,13],uI 79 1 59 62 [4,5,6,7],⟨none,.store 1 (.t 79) (.t 72),none,[],3⟩,qI 80 1 63 66,⟨none,.store 1 (.t 80) (.t 78),none,[],3⟩]) (.ops [qM 81 11,qM 10 81]))))))
def ZGq:C:=oS [qM 12 1,qM 10 12] (.block 0 (.loop [0,2,3,4,10] [] ZxM))
def ZA7:FnI:=⟨5,ZGq,[]⟩
def ZFu:C:=oS [oB 2 (.mov (.c (.d (.int .u64 0))))] (oS [qM 3 0,oB 4 (.conv .u64 (.t 3)),qC 5 84 4,oB 6 (.bin .shl (.c (.d (.int .u64 1))) (.t 5)),qM 2 6] .ret)
def ZzS:FnI:=⟨1,ZFu,[(2,none)]⟩
def ZFY:C:=oS [oB 2 (.mov (.c (.d (.int .u64 0))))] (.seq (.draw [qM 3 0,oB 4 (.nilck (.t 3)),qL 5 4,uM 6 0 [0,1,2],oM 7 (.nilck (.t 6)) [0,1,2],uL 8 7 [0,1,2],oM 9 (.bin .shl (.t 8) (.c (.d (.int .u64 13)))) [0,1,2],qB 10 .xor 5 9,oB 11 (.nilck (.t 3)),⟨none,.store 1 (.t 11) (.t 10),none,[],3⟩]) (.seq (.draw [qM 12 0,oB 13 (.nilck (.t 12)),qL 14 13,uM 15 0 [0,1,2],oM 16 (.nilck (.t 15)) [0,1,2],uL 17 16 [0,1,2],oM 18 (.bin .shr (.t 17) (.c (.d (.int .u64 7)))) [0,1,2],qB 19 .xor 14 18,oB 20 (.nilck (.t 12)),⟨none,.store 1 (.t 20) (.t 19),none,[],3⟩]) (.seq (.draw [qM 21 0,oB 22 (.nilck (.t 21)),qL 23 22,uM 24 0 [0,1,2],oM 25 (.nilck (.t 24)) [0,1,2],uL 26 25 [0,1,2],oM 27 (.bin .shl (.t 26) (.c (.d (.int .u64 17)))) [0,1,2],qB 28 .xor 23 27,oB 29 (.nilck (.t 21)),⟨none,.store 1 (.t 29) (.t 28),none,[],3⟩]) (oS [qM 30 0,oB 31 (.nilck (.t 30)),qL 32 31,qM 2 32] .ret))))
def ZAg:FnI:=⟨1,ZFY,[(2,none)]⟩
def ZFp:C:=oS [qW 8 0] (oS [qM 9 0,qM 10 1,qK 11 .sub 10 1,qM 12 1,qM 13 1,qK 14 .add 13 1,qM 15 2,qM 16 3,oB 17 (.call 109 [.t 9,.t 11,.t 12,.t 14,.t 15,.t 16]),qM 8 17] .ret)
def Zz2:FnI:=⟨4,ZFp,[(8,none)]⟩
def ZFE:C:=oS [qW 12 0] (oS [qM 14 0,qM 15 1,qM 16 2,qM 17 4,qM 18 5,oB 19 (.call 114 [.t 14,.t 15,.t 16,.t 17,.t 18]),qM 13 19,qE 20 13 0,qE 21 13 1,qM 1 20,qM 2 21] (oS [qM 23 0,qM 24 2,qM 25 3,qM 26 4,qM 27 5,oB 28 (.call 114 [.t 23,.t 24,.t 25,.t 26,.t 27]),qM 22 28,qE 29 22 0,qE 30 22 1,qM 2 29,qM 3 30] (oS [qM 32 0,qM 33 1,qM 34 2,qM 35 4,qM 36 5,oB 37 (.call 114 [.t 32,.t 33,.t 34,.t 35,.t 36]),qM 31 37,qE 38 31 0,qE 39 31 1,qM 1 38,qM 2 39] (oS [qM 40 2,qM 12 40] .ret))))
def ZAo:FnI:=⟨6,ZFE,[(12,none)]⟩
def Zx8:C:=.block 1 (oS [qM 11 8,oB 12 (.bin .mul (iN 2) (.t 11)),qK 13 .add 12 1,qM 9 13] (.seq (oS [qM 14 9,qM 15 2,qB 16 .geq 14 15] (cY 16 (.exit 0) .skip)) (.seq (.seq (.draw [qM 17 9,qK 18 .add 17 1,uM 19 2 [0,1],qB 20 .lss 18 19,qM 21 20,vM 22 0 21 true,wM 23 3 21 true [5],wM 24 9 21 true [5,6],⟨some 25,.bin .add (.t 23) (.t 24),some (21,true),[5],0⟩,vI 26 1 22 25 21 true,vL 27 26 21 true,wM 28 0 21 true [5,6,7,8,9,10],wM 29 3 21 true [5,6,7,8,9,10,11],wM 30 9 21 true [5,6,7,8,9,10,11,12],⟨some 31,.bin .add (.t 29) (.t 30),some (21,true),[5,6,7,8,9,10,11],0⟩,⟨some 32,.bin .add (.t 31) (iN 1),some (21,true),[5,6,7,8,9,10,11],0⟩,wI 33 1 28 32 21 true [5,6,7,8,9,10],wL 34 33 21 true [5,6,7,8,9,10],oG 35 (.call 102 [.t 27,.t 34]) 21 true,qP 36 21 35]) (cY 36 (.ops [qM 37 9,qK 38 .add 37 1,qM 9 38]) .skip)) (.seq (.seq (.draw [qM 39 0,uM 40 3 [0],uM 41 8 [0,1],oM 42 (.bin .add (.t 40) (.t 41)) [0],qI 43 1 39 42,qL 44 43,uM 45 0 [0,1,2,3,4,5],uM 46 3 [0,1,2,3,4,5,6],uM 47 9 [0,1,2,3,4,5,6,7],oM 48 (.bin .add (.t 46) (.t 47)) [0,1,2,3,4,5,6],uI 49 1 45 48 [0,1,2,3,4,5],uL 50 49 [0,1,2,3,4,5],qD 51 102 44 50,qU 52 51]) (cY 52 .ret .skip)) (.seq (.draw [qM 53 0,uM 54 3 [0],uM 55 8 [0,1],oM 56 (.bin .add (.t 54) (.t 55)) [0],uM 57 0 [0,1,2,3],uM 58 3 [0,1,2,3,4],uM 59 9 [0,1,2,3,4,5],oM 60 (.bin .add (.t 58) (.t 59)) [0,1,2,3,4],uM 61 0 [0,1,2,3,4,5,6,7],uM 62 3 [0,1,2,3,4,5,6,7,8],uM 63 9 [0,1,2,3,4,5,6,7,8,9],oM 64 (.bin .add (.t 62) (.t 63)) [0,1,2,3,4,5,6,7,8],uI 65 1 61 64 [0,1,2,3,4,5,6,7],uL 66 65 [0,1,2,3,4,5,6,7],uM 67 0 [0,1,2,3,4,5,6,7,8,9,10,11,12,13],uM 68 3 [0,1,2,3,4,5,6,7,8,9,10,11,12,13,14],uM 69 8 [0,1,2,3,4,5,6,7,8,9,10,11,12,13,14,15],oM 70 (.bin .add (.t 68) (.t 69)) [0,1,2,3,4,5,6,7,8,9,10,11,12,13,14],uI 71 1 67 70 [0,1,2,3,4,5,6,7,8,9,10,11,12,13],uL 72 71 [0,1,2,3,4,5,6,7,8,9,10,11,12,13],uI 73 1 53 56 [4,5,6,7],⟨none,.store 1 (.t 73) (.t 66),none,[],3⟩,qI 74 1 57 60,⟨none,.store 1 (.t 74) (.t 72),none,[],3⟩]) (.ops [qM 75 9,qM 8 75]))))))
def ZGp:C:=oS [qM 10 1,qM 8 10] (.block 0 (.loop [0,2,3,8] [] Zx8))
def ZzZ:FnI:=⟨4,ZGp,[]⟩
def ZGh:C:=oS [qW 6 0] (oS [qM 7 0,qM 8 1,qK 9 .sub 8 1,qM 10 1,qM 11 1,qK 12 .add 11 1,qM 13 2,oB 14 (.call 112 [.t 7,.t 9,.t 10,.t 12,.t 13]),qM 6 14] .ret)
def Zy7:FnI:=⟨3,ZGh,[(6,none)]⟩
def ZFF:C:=oS [qW 10 0] (oS [qM 12 0,qM 13 1,qM 14 2,qM 15 4,oB 16 (.call 115 [.t 12,.t 13,.t 14,.t 15]),qM 11 16,qE 17 11 0,qE 18 11 1,qM 1 17,qM 2 18] (oS [qM 20 0,qM 21 2,qM 22 3,qM 23 4,oB 24 (.call 115 [.t 20,.t 21,.t 22,.t 23]),qM 19 24,qE 25 19 0,qE 26 19 1,qM 2 25,qM 3 26] (oS [qM 28 0,qM 29 1,qM 30 2,qM 31 4,oB 32 (.call 115 [.t 28,.t 29,.t 30,.t 31]),qM 27 32,qE 33 27 0,qE 34 27 1,qM 1 33,qM 2 34] (oS [qM 35 2,qM 10 35] .ret))))
def ZBB:FnI:=⟨5,ZFF,[(10,none)]⟩
def ZFz:C:=oS [oB 2 (.mov bF)] (oS [qM 3 0,qM 4 0,qB 5 .neq 3 4,qM 2 5] .ret)
def ZBP:FnI:=⟨1,ZFz,[(2,none)]⟩
def ZGf:C:=oS [qW 10 0,qW 11 0] (.seq (.seq (.draw [qM 12 4,uM 13 0 [0],uM 14 2 [0,1],uI 15 1 13 14 [0],uL 16 15 [0],uM 17 0 [0,1,2,3,4],uM 18 1 [0,1,2,3,4,5],uI 19 1 17 18 [0,1,2,3,4],uL 20 19 [0,1,2,3,4],oB 21 (.callv (.t 12) [.t 16,.t 20]),qK 22 .lss 21 0]) (cY 22 (oS [qM 23 3,oB 24 (.nilck (.t 23)),qL 25 24,qK 26 .add 25 1,oB 27 (.nilck (.t 23)),oA (.store 1 (.t 27) (.t 26))] (oS [qM 28 2,qM 29 1,qM 10 28,qM 11 29] .ret)) .skip)) (oS [qM 30 1,qM 31 2,qM 10 30,qM 11 31] .ret))
def ZAc:FnI:=⟨5,ZGf,[(10,none),(11,none)]⟩
def ZFO:C:=oS [qW 8 0,qW 9 0] (.seq (.seq (.draw [qM 10 0,uM 11 2 [0],qI 12 1 10 11,qL 13 12,uM 14 0 [0,1,2,3],uM 15 1 [0,1,2,3,4],uI 16 1 14 15 [0,1,2,3],uL 17 16 [0,1,2,3],qD 18 102 13 17]) (cY 18 (oS [qM 19 3,oB 20 (.nilck (.t 19)),qL 21 20,qK 22 .add 21 1,oB 23 (.nilck (.t 19)),oA (.store 1 (.t 23) (.t 22))] (oS [qM 24 2,qM 25 1,qM 8 24,qM 9 25] .ret)) .skip)) (oS [qM 26 1,qM 27 2,qM 8 26,qM 9 27] .ret))
def ZBp:FnI:=⟨4,ZFO,[(8,none),(9,none)]⟩
def ZFH:C:=oS [oB 1 (.box (.t 0)),oB 2 (.alloc (.d (.agg [zD,zD])))] (.seq (oS [qF 5 0 1,qF 6 1 5,qL 7 6,qF 8 0 1,qF 9 3 8,qL 10 9,qB 11 .geq 7 10] (cY 11 (oS [oB 12 (.build [zI,zI] [(1,1,(iN 141))]),oA (.store 2 (.t 2) (.t 12))] .ret) .skip)) (oS [qF 14 0 1,qF 15 0 14,qL 16 15,qF 17 0 1,qF 18 1 17,qL 19 18,qB 20 .sub 16 19,qF 21 0 1,qF 22 3 21,qL 23 22,qF 24 0 1,qF 25 1 24,qL 26 25,qB 27 .sub 23 26,qD 28 133 20 27,qM 13 28,qE 29 13 0,qE 30 13 1,qM 3 29,qM 4 30] (.seq (oS [qM 31 4,qK 32 .eql 31 0,qM 33 32,vM 34 3 33 true,vK 35 .gtr 34 8 33 true,qP 36 33 35] (cY 36 (oS [oB 37 (.build [zI,zI] [(1,1,(iN 142))]),oA (.store 2 (.t 2) (.t 37))] .ret) .skip)) (oS [qM 38 3,qM 39 4,oB 40 (.build [zI,zI] [(0,1,(.t 38)),(1,1,(.t 39))]),oA (.store 2 (.t 2) (.t 40))] .ret))))
def ZDm:FnI:=⟨1,ZFH,[(2,some (2,true))]⟩
def ZFl:C:=oS [oB 3 (.box (.t 1)),qW 4 0,qW 5 0] (oS [qM 6 0,qL 7 3,oB 8 (.mkfn 135 [.t 3]),oB 9 (.call 134 [.t 6,.t 7,.t 8]),qE 10 9 0,qE 11 9 1,qM 4 10,qM 5 11] .ret)
def ZDa:FnI:=⟨2,ZFl,[(4,none),(5,none)]⟩
def ZFq:C:=oS [qW 6 0,qW 7 0] (.seq (oS [qM 9 0,qM 10 1,oB 11 (.bslice 1 [zD] 2 [(0,(.t 9)),(1,(.t 10))]),qC 12 136 11,qM 8 12] (oS [qM 13 8,qK 14 .neq 13 0] (cY 14 (oS [qM 15 8,qW 6 0,qM 7 15] .ret) .skip))) (.seq (oS [qM 16 1,qK 17 .eql 16 0] (cY 17 (oS [qW 6 0,qW 7 12] .ret) .skip)) (oS [qM 18 0,qM 19 2,oB 20 (.callv (.t 19) []),qB 21 .add 18 20,qM 22 1,qB 23 .quo 21 22,qM 6 23,qW 7 0] .ret)))
def ZCY:FnI:=⟨3,ZFq,[(6,none),(7,none)]⟩
def ZF5:C:=oS [qW 1 0] (oS [qL 2 0,qK 3 .sub 2 1,qM 1 3] .ret)
def ZC6:FnI:=⟨1,ZF5,[(1,none)]⟩
def ZFL:C:=oS [qW 2 0] (oS [qM 4 0,oB 5 (.call 73 [.t 4,(.c (.d (.fn 137 [])))]),qM 3 5] (.seq (oS [qM 6 3,qK 7 .lss 6 0] (cY 7 (oS [qW 2 0] .ret) .skip)) (oS [qM 8 0,qM 9 3,qI 10 1 8 9,qL 11 10,qC 12 34 11,qM 2 12] .ret)))
def ZDg:FnI:=⟨1,ZFL,[(2,none)]⟩
def ZFo:C:=oS [oB 2 (.mov bF)] (oS [qM 3 0,qC 4 34 3,qK 5 .neq 4 0,qM 2 5] .ret)
def ZC1:FnI:=⟨1,ZFo,[(2,none)]⟩
def code:Nat→Option FnI
 | 3=>some fn3
 | 4=>some fn4
 | 5=>some fn5
 | 6=>some fn6
 | 7=>some fn7
 | 8=>some fn8
 | 9=>some fn9
 | 10=>some ZFk
 | 11=>some ZGm
 | 12=>some ZFM
 | 13=>some ZEI
 | 14=>some ZE7
 | 15=>some ZEO
 | 16=>some ZE3
 | 17=>some ZFb
 | 18=>some ZE4
 | 19=>some ZDt
 | 20=>some ZEa
 | 21=>some ZEN
 | 22=>some ZF4
 | 23=>some ZGr
 | 24=>some ZDD
 | 25=>some ZEM
 | 26=>some ZDA
 | 27=>some ZDx
 | 28=>some ZD0
 | 29=>some ZD2
 | 30=>some ZDJ
 | 31=>some ZD6
 | 32=>some ZD1
 | 33=>some ZES
 | 34=>some ZDX
 | 35=>some ZEA
 | 36=>some ZEW
 | 37=>some ZET
 | 38=>some ZDp
 | 39=>some ZDn
 | 40=>some ZDu
 | 41=>some ZEk
 | 42=>some ZFc
 | 43=>some ZEr
 | 44=>some ZEJ
 | 45=>some ZEm
 | 46=>some ZEn
 | 47=>some ZB2
 | 48=>some ZEu
 | 49=>some ZE8
 | 50=>some ZFa
 | 51=>some ZEj
 | 52=>some ZE2
 | 53=>some ZE9
 | 54=>some ZD8
 | 55=>some ZDW
 | 56=>some ZEl
 | 57=>some ZEV
 | 58=>some ZDV
 | 59=>some ZDF
 | 60=>some ZDs
 | 61=>some ZEc
 | 62=>some ZDY
 | 63=>some ZEp
 | 64=>some ZD3
 | 65=>some ZGv
 | 66=>some ZEf
 | 67=>some ZFI
 | 68=>some ZDy
 | 69=>some ZER
 | 70=>some ZEH
 | 71=>some ZEq
 | 72=>some ZDo
 | 73=>some ZB6
 | 74=>some ZEv
 | 75=>some ZD5
 | 76=>some ZD4
 | 77=>some ZDw
 | 78=>some ZEZ
 | 79=>some ZDN
 | 80=>some ZE1
 | 81=>some ZDK
 | 82=>some ZEP
 | 83=>some ZDL
 | 84=>some ZEB
 | 85=>some ZDB
 | 86=>some ZEC
 | 87=>some ZEw
 | 88=>some ZEt
 | 89=>some ZEe
 | 90=>some ZEL
 | 91=>some ZEb
 | 92=>some ZDv
 | 93=>some ZEs
 | 94=>some ZGc
 | 95=>some ZEo
 | 96=>some ZDU
 | 97=>some ZEi
 | 98=>some ZEQ
 | 99=>some ZDz
 | 100=>some ZBo
 | 101=>some ZzO
 | 102=>some ZAb
 | 103=>some ZAq
 | 104=>some ZzX
 | 105=>some ZA7
 | 106=>some ZzS
 | 107=>some ZAg
 | 108=>some Zz2
 | 109=>some ZAo
 | 110=>some ZzZ
 | 111=>some Zy7
 | 112=>some ZBB
 | 113=>some ZBP
 | 114=>some ZAc
 | 115=>some ZBp
 | 132=>some ZDm
 | 133=>some ZDa
 | 134=>some ZCY
 | 135=>some ZC6
 | 136=>some ZDg
 | 137=>some ZC1
 | _=>none
def mode:Nat→Nat
 | 7=>1
 | 25=>2
 | 26=>2
 | 27=>2
 | 74=>2
 | 76=>2
 | 83=>2
 | 85=>2
 | 86=>2
 | 87=>2
 | 88=>2
 | 89=>2
 | 90=>2
 | 91=>2
 | 92=>2
 | 93=>2
 | 96=>2
 | 97=>2
 | 98=>2
 | 99=>2
 | 100=>2
 | 101=>2
 | 103=>2
 | 104=>2
 | 105=>2
 | 107=>2
 | 108=>2
 | 109=>2
 | 110=>2
 | 111=>2
 | 112=>2
 | 114=>2
 | 115=>2
 | _=>0
def ctx:Ctx:=⟨code,mode⟩
end Go.Proofs.YtnpidpcmpleiaaaGreatDoor
namespace Go.Proofs.YtnpidpcmpleiaaaGreatDoorE
open Go
open Go.IntKind (u64 i64 u32 i32 u8)
def Zl1 (f:Nat) (us:List Value):Value:=bif isU f then .func (.func f) #[] us.toArray else .func (.func (unB f)) us.toArray #[]
theorem ZsP (f:Nat) (us:List Value):(Zl1 f us).cells.toList=[Zl1 f us]:=by unfold Zl1;cases isU f<;>rfl
theorem ZvC (f:Nat) (us:List Value):(Zl1 f us).cells = #[Zl1 f us]:=by unfold Zl1;cases isU f<;>rfl
theorem ZrN {f:Nat} (h:isU f=true) (us:List Value):Zl1 f us = .func (.func f) #[] us.toArray:=by unfold Zl1;rw[h];rfl
mutual
def Zca (A1 A0 AL:Nat→Prop) (w:World):D→Value→Prop
 | .bool b,u=>u = .bool b
 | .int k n,u=>u = .int k n
 | .str s,u=>u = .string s
 | .list own xs,u=>∃a len cap,u = .slice a len cap∧len=xs.length∧len≤cap∧(∀x∈xs,x.esc=true) ∧
   (xs≠[]→∃b off sz,a=some ⟨b,off,none⟩∧(match own with | true=>A1 b | false=>A0 b)∧b<w.heap.size∧Zh0 A1 A0 AL w b sz off xs)
 | .agg cs,u=>∃us:List Value,u = .agg us.toArray∧ZbP A1 A0 AL w cs us
 | .tup cs,u=>∃us:List Value,u = .tuple us.toArray∧ZbP A1 A0 AL w cs us
 | .fn f caps,u=>∃us:List Value,u=Zl1 f us∧ZbP A1 AL AL w caps us
 | .nilfn,u=>u = .nilFunc
 | .rptr cs,u=>∃b off,u = .pointer (some ⟨b,off,none⟩)∧A0 b∧b<w.heap.size∧ZdZ A1 A0 AL w b off cs
 | .nilp,u=>u = .pointer none
 | .iface t v,u=>∃u',u = .iface t u'∧Zca A1 A0 AL w v u'
 | .nilI,u=>u = .nilIface
def ZbP (A1 A0 AL:Nat→Prop) (w:World):List D→List Value→Prop
 | [],us=>us=[]
 | x :: xs,us=>∃u us',us=u :: us'∧Zca A1 A0 AL w x u∧ZbP A1 A0 AL w xs us'
def ZdZ (A1 A0 AL:Nat→Prop) (w:World) (b off:Nat):List D→Prop
 | []=>True
 | x :: xs=>(∃u,w.cell? ⟨b,off,none⟩=some u∧Zca A1 A0 AL w x u)∧ZdZ A1 A0 AL w b (off+1) xs
def Zh0 (A1 A0 AL:Nat→Prop) (w:World) (b sz off:Nat):List D→Prop
 | []=>True
 | x :: xs=>(∃u,Zca A1 A0 AL w x u∧u.cells.size=sz∧∀k v,u.cells[k]? = some v→w.cell? ⟨b,off+k,none⟩=some v)∧Zh0 A1 A0 AL w b sz (off+sz) xs
end
section
variable {A1 A1' A0 A0' AL AL':Nat→Prop} {w w':World}
theorem ZtK {b:Nat} (h:w'.heap[b]? = w.heap[b]?) (off:Nat):w'.cell? ⟨b,off,none⟩=w.cell? ⟨b,off,none⟩:=by
 unfold World.cell?;simp only[h]
mutual
theorem Zca.change (A1 A1' A0 A0':Nat→Prop) (h1:∀b,b<w.heap.size→A1 b→A1' b) (h0:∀b,b<w.heap.size→A0 b→A0' b) (hL:∀b,b<w.heap.size→AL b→AL' b)
  (hw:∀b,b<w.heap.size→AL b→w'.heap[b]? = w.heap[b]?) (hs:w.heap.size≤w'.heap.size) (s0:∀b,A0 b→AL b) (s1:∀b,A1 b→AL b) :
  ∀(x:D) (u:Value),Zca A1 A0 AL w x u→Zca A1' A0' AL' w' x u
 | .bool b,u,h=>h
 | .int k n,u,h=>h
 | .str s,u,h=>h
 | .list own xs,u,h=>by
  obtain⟨a,len,cap,e1,e2,e3,e4,e5⟩:=h
  refine⟨a,len,cap,e1,e2,e3,e4,fun hne=>?_⟩
  obtain⟨b,off,sz,f1,f2,f3,f4⟩:=e5 hne
  have hb:AL b:=by
   cases own
   ·exact s0 _ f2
   ·exact s1 _ f2
  refine⟨b,off,sz,f1,?_,by omega,Zh0.change A1 A1' A0 A0' h1 h0 hL hw hs s0 s1 b sz off xs (hw b f3 hb) f4⟩
  cases own
  ·exact h0 _ f3 f2
  ·exact h1 _ f3 f2
 | .agg cs,u,h=>by
  obtain⟨us,e1,e2⟩:=h
  exact⟨us,e1,ZbP.change A1 A1' A0 A0' h1 h0 hL hw hs s0 s1 cs us e2⟩
 | .tup cs,u,h=>by
  obtain⟨us,e1,e2⟩:=h
  exact⟨us,e1,ZbP.change A1 A1' A0 A0' h1 h0 hL hw hs s0 s1 cs us e2⟩
 | .fn f caps,u,h=>by
  obtain⟨us,e1,e2⟩:=h
  exact⟨us,e1,ZbP.change A1 A1' AL AL' h1 hL hL hw hs (fun _ h=>h) s1 caps us e2⟩
 | .nilfn,u,h=>h
 | .rptr cs,u,h=>by
  obtain⟨b,off,e1,e2,e3,e4⟩:=h
  exact⟨b,off,e1,h0 _ e3 e2,by omega,ZdZ.change A1 A1' A0 A0' h1 h0 hL hw hs s0 s1 b off cs (hw b e3 (s0 _ e2)) e4⟩
 | .nilp,u,h=>h
 | .iface t v,u,h=>by
  obtain⟨u',e1,e2⟩:=h
  exact⟨u',e1,Zca.change A1 A1' A0 A0' h1 h0 hL hw hs s0 s1 v u' e2⟩
 | .nilI,u,h=>h
theorem ZbP.change (A1 A1' A0 A0':Nat→Prop) (h1:∀b,b<w.heap.size→A1 b→A1' b) (h0:∀b,b<w.heap.size→A0 b→A0' b) (hL:∀b,b<w.heap.size→AL b→AL' b)
  (hw:∀b,b<w.heap.size→AL b→w'.heap[b]? = w.heap[b]?) (hs:w.heap.size≤w'.heap.size) (s0:∀b,A0 b→AL b) (s1:∀b,A1 b→AL b) :
  ∀(xs:List D) (us:List Value),ZbP A1 A0 AL w xs us→ZbP A1' A0' AL' w' xs us
 | [],us,h=>h
 | x :: xs,us,h=>by
  obtain⟨u,us',e1,e2,e3⟩:=h
  exact⟨u,us',e1,Zca.change A1 A1' A0 A0' h1 h0 hL hw hs s0 s1 x u e2,ZbP.change A1 A1' A0 A0' h1 h0 hL hw hs s0 s1 xs us' e3⟩
theorem ZdZ.change (A1 A1' A0 A0':Nat→Prop) (h1:∀b,b<w.heap.size→A1 b→A1' b) (h0:∀b,b<w.heap.size→A0 b→A0' b) (hL:∀b,b<w.heap.size→AL b→AL' b)
  (hw:∀b,b<w.heap.size→AL b→w'.heap[b]? = w.heap[b]?) (hs:w.heap.size≤w'.heap.size) (s0:∀b,A0 b→AL b) (s1:∀b,A1 b→AL b) (b off:Nat) :
  ∀(xs:List D),w'.heap[b]? = w.heap[b]? → ZdZ A1 A0 AL w b off xs→ZdZ A1' A0' AL' w' b off xs
 | [],_,h=>trivial
 | x :: xs,hb,h=>by
  obtain⟨⟨u,e1,e2⟩,e3⟩:=h
  exact⟨⟨u,by rw[ZtK hb];exact e1,Zca.change A1 A1' A0 A0' h1 h0 hL hw hs s0 s1 x u e2⟩,ZdZ.change A1 A1' A0 A0' h1 h0 hL hw hs s0 s1 b (off+1) xs hb e3⟩
theorem Zh0.change (A1 A1' A0 A0':Nat→Prop) (h1:∀b,b<w.heap.size→A1 b→A1' b) (h0:∀b,b<w.heap.size→A0 b→A0' b) (hL:∀b,b<w.heap.size→AL b→AL' b)
  (hw:∀b,b<w.heap.size→AL b→w'.heap[b]? = w.heap[b]?) (hs:w.heap.size≤w'.heap.size) (s0:∀b,A0 b→AL b) (s1:∀b,A1 b→AL b) (b sz off:Nat) :
  ∀(xs:List D),w'.heap[b]? = w.heap[b]? → Zh0 A1 A0 AL w b sz off xs→Zh0 A1' A0' AL' w' b sz off xs
 | [],_,h=>trivial
 | x :: xs,hb,h=>by
  obtain⟨⟨u,e1,e2,e3⟩,e4⟩:=h
  exact⟨⟨u,Zca.change A1 A1' A0 A0' h1 h0 hL hw hs s0 s1 x u e1,e2,fun k v hk=>by rw[ZtK hb];exact e3 k v hk⟩,
   Zh0.change A1 A1' A0 A0' h1 h0 hL hw hs s0 s1 b sz (off+sz) xs hb e4⟩
end
mutual
theorem Zca.lift (h1:∀b,A1 b→A1' b):∀(x:D) (u:Value),x.esc=true→Zca A1 A0 AL w x u→Zca A1' A0' AL' w x u
 | .bool b,u,_,h=>h
 | .int k n,u,_,h=>h
 | .str s,u,_,h=>h
 | .list own xs,u,he,h=>by
  obtain⟨a,len,cap,e1,e2,e3,e4,e5⟩:=h
  simp only[D.esc] at he
  subst he
  refine⟨a,len,cap,e1,e2,e3,e4,fun hne=>?_⟩
  obtain⟨b,off,sz,f1,f2,f3,f4⟩:=e5 hne
  exact⟨b,off,sz,f1,h1 _ f2,f3,Zh0.lift h1 b sz off xs e4 f4⟩
 | .agg cs,u,he,h=>by
  obtain⟨us,e1,e2⟩:=h
  exact⟨us,e1,ZbP.lift h1 cs us he e2⟩
 | .tup cs,u,he,h=>by simp[D.esc] at he
 | .fn f caps,u,he,h=>by
  obtain⟨us,e1,e2⟩:=h
  simp only[D.esc,List.isEmpty_iff] at he
  subst he
  exact⟨us,e1,e2⟩
 | .nilfn,u,_,h=>h
 | .rptr cs,u,he,h=>by simp[D.esc] at he
 | .nilp,u,_,h=>h
 | .iface t v,u,he,h=>by
  obtain⟨u',e1,e2⟩:=h
  exact⟨u',e1,Zca.lift h1 v u' he e2⟩
 | .nilI,u,_,h=>h
theorem ZbP.lift (h1:∀b,A1 b→A1' b):∀(xs:List D) (us:List Value),D.escs xs=true→ZbP A1 A0 AL w xs us→ZbP A1' A0' AL' w xs us
 | [],us,_,h=>h
 | x :: xs,us,he,h=>by
  obtain⟨u,us',e1,e2,e3⟩:=h
  simp only[D.escs,Bool.and_eq_true] at he
  exact⟨u,us',e1,Zca.lift h1 x u he.1 e2,ZbP.lift h1 xs us' he.2.2 e3⟩
theorem Zh0.lift (h1:∀b,A1 b→A1' b) (b sz off:Nat):∀(xs:List D),(∀x∈xs,x.esc=true)→Zh0 A1 A0 AL w b sz off xs→Zh0 A1' A0' AL' w b sz off xs
 | [],_,h=>trivial
 | x :: xs,he,h=>by
  obtain⟨⟨u,e1,e2,e3⟩,e4⟩:=h
  exact⟨⟨u,Zca.lift h1 x u (he x (by simp)) e1,e2,e3⟩,Zh0.lift h1 b sz (off+sz) xs (fun y hy=>he y (by simp[hy])) e4⟩
end
end
theorem ZbP.liftT {A1 A1' A0 A0' AL AL':Nat→Prop}{w:World} (h1:∀b,A1 b→A1' b):∀(xs:List D) (us:List Value),Zw9 xs=true→ZbP A1 A0 AL w xs us→ZbP A1' A0' AL' w xs us
 | [],us,_,h=>h
 | x :: xs,us,he,h=>by
  obtain⟨u,us',e1,e2,e3⟩:=h
  simp only[Zw9,Bool.and_eq_true] at he
  exact⟨u,us',e1,Zca.lift h1 x u he.1 e2,ZbP.liftT h1 xs us' he.2 e3⟩
theorem Zaw {α:Type}:∀(l:List α) (n:Nat),nth l n=l[n]?
 | [],n=>by simp[nth]
 | a :: l,0=>by simp[nth]
 | a :: l,n+1=>by simp[nth,Zaw l n]
theorem ZcK {α:Type}:∀(l:List α) (n:Nat) (v:α),Zhv l n v=l.set n v
 | [],n,v=>by simp[Zhv]
 | a :: l,0,v=>by simp[Zhv]
 | a :: l,n+1,v=>by simp[Zhv,ZcK l n v]
theorem ZrH {α:Type} (l:List α) (i:Int) (x:α) (h:Zx l i=some x):0≤i∧i<l.length∧l[i.toNat]? = some x:=by
 unfold Zx at h
 by_cases h0:0≤i
 ·simp only[h0,decide_true,cond_true,Zaw] at h
  have:=(List.getElem?_eq_some_iff.1 h).1
  exact⟨h0,by omega,h⟩
 ·simp[h0] at h
section
variable {A1 A0 AL:Nat→Prop} {w:World}
theorem ZlH {b sz:Nat}:∀(xs:List D) (off j:Nat) (x:D),Zh0 A1 A0 AL w b sz off xs→xs[j]? = some x →
  ∃u,Zca A1 A0 AL w x u∧u.cells.size=sz∧∀k v,u.cells[k]? = some v→w.cell? ⟨b,off+j*sz+k,none⟩=some v
 | [],off,j,x,_,hj=>by simp at hj
 | y :: xs,off,0,x,h,hj=>by
  simp at hj;subst hj
  obtain⟨⟨u,e1,e2,e3⟩,_⟩:=h
  exact⟨u,e1,e2,by simpa using e3⟩
 | y :: xs,off,j+1,x,h,hj=>by
  obtain⟨u,e1,e2,e3⟩:=ZlH xs (off+sz) j x h.2 (by simpa using hj)
  exact⟨u,e1,e2,fun k v hk=>by rw[← e3 k v hk];congr 2;rw[Nat.succ_mul];omega⟩
theorem Zl0 {b sz:Nat}:∀(xs:List D) (off:Nat),(∀(j:Nat) x,xs[j]? = some x→∃u,Zca A1 A0 AL w x u∧u.cells.size=sz∧∀k v,u.cells[k]? = some v→w.cell? ⟨b,off+j*sz+k,none⟩=some v) →
  Zh0 A1 A0 AL w b sz off xs
 | [],off,_=>trivial
 | y :: xs,off,h=>by
  refine⟨by simpa using h 0 y (by simp),Zl0 xs (off+sz) fun j x hj=>?_⟩
  obtain⟨u,e1,e2,e3⟩:=h (j+1) x (by simpa using hj)
  exact⟨u,e1,e2,fun k v hk=>by rw[← e3 k v hk];congr 2;rw[Nat.succ_mul];omega⟩
theorem Znu {b:Nat}:∀(xs:List D) (off j:Nat) (x:D),ZdZ A1 A0 AL w b off xs→xs[j]? = some x→∃u,w.cell? ⟨b,off+j,none⟩=some u∧Zca A1 A0 AL w x u
 | [],off,j,x,_,hj=>by simp at hj
 | y :: xs,off,0,x,h,hj=>by simp at hj;subst hj;simpa using h.1
 | y :: xs,off,j+1,x,h,hj=>by
  have:=Znu xs (off+1) j x h.2 (by simpa using hj)
  rwa [show off+1+j=off+(j+1) from by omega] at this
theorem ZjQ {b:Nat}:∀(xs:List D) (off:Nat),(∀(j:Nat) x,xs[j]? = some x→∃u,w.cell? ⟨b,off+j,none⟩=some u∧Zca A1 A0 AL w x u)→ZdZ A1 A0 AL w b off xs
 | [],off,_=>trivial
 | y :: xs,off,h=>⟨by simpa using h 0 y (by simp),ZjQ xs (off+1) fun j x hj=>by
   have:=h (j+1) x (by simpa using hj)
   rwa [show off+(j+1)=off+1+j from by omega] at this⟩
theorem Ztq {b:Nat} (xs:List D) (off n:Nat) (h:ZdZ A1 A0 AL w b off xs):ZdZ A1 A0 AL w b (off+n) (xs.drop n):=
 ZjQ _ _ fun j x hj=>by
  have:=Znu xs off (n+j) x h (by simpa using hj)
  rwa [← Nat.add_assoc] at this
theorem Zjs:∀(xs:List D) (us:List Value) (j:Nat) (x:D),ZbP A1 A0 AL w xs us→xs[j]? = some x→∃u,us[j]? = some u∧Zca A1 A0 AL w x u
 | [],us,j,x,_,hj=>by simp at hj
 | y :: xs,us,0,x,h,hj=>by
  obtain⟨u,us',rfl,e1,e2⟩:=h
  simp at hj;subst hj
  exact⟨u,by simp,e1⟩
 | y :: xs,us,j+1,x,h,hj=>by
  obtain⟨u,us',rfl,e1,e2⟩:=h
  simpa using Zjs xs us' j x e2 (by simpa using hj)
theorem Ztr:∀(xs:List D) (us:List Value),ZbP A1 A0 AL w xs us→us.length=xs.length
 | [],us,h=>by simp only[ZbP] at h;subst h;rfl
 | y :: xs,us,h=>by
  obtain⟨u,us',rfl,e1,e2⟩:=h
  simp[Ztr xs us' e2]
end
structure RP where
 B1:Nat→Prop
 B0:Nat→Prop
 M:Nat→Option (Option Nat)
 H:Zs
def RP.live (R:RP) (c:Nat):Prop:=∃i,ZaY R.H i=true∧R.M i=some (some c)
def RP.AL (R:RP) (c:Nat):Prop:=¬R.live c
def RP.A0 (R:RP) (c:Nat):Prop:=¬R.live c∧¬R.B0 c
def RP.A1 (R:RP) (c:Nat):Prop:=¬R.live c∧¬R.B1 c
abbrev RP.den (R:RP) (w:World) (x:D) (u:Value):Prop:=Zca R.A1 R.A0 R.AL w x u
def ZuE (w:World) (m:Option Nat) (xs:List D) (sz o len:Nat) (u:Value):Prop:=
 o+len≤xs.length∧∃a cap,u = .slice a len cap∧len≤cap ∧
  ((cap=0∧o=xs.length)∨∃c cs el fr,m=some c∧a=some ⟨c,o*sz,none⟩∧w.heap[c]? = some (.cells cs el fr)∧cs.size=(o+cap)*sz)
mutual
def ZbZ (R:RP) (w:World):V→Value→Prop
 | .d x,u=>R.den w x u
 | .bad,_=>True
 | .ptr b o,u=>∃c,R.M b=some (some c)∧u = .pointer (some ⟨c,o,none⟩)
 | .eptr b sz i k,u=>∃c,R.M b=some (some c)∧u = .pointer (some ⟨c,i*sz+k,none⟩)
 | .sl b sz,u=>(∃a n c,u = .slice a n c)∧∃m,R.M b=some m∧∀xs,nth R.H b=some (.arr sz xs)→ZuE w m xs sz 0 xs.length u
 | .slp b sz o len,u=>(∃a n c,u = .slice a n c)∧∃m,R.M b=some m∧∀xs,nth R.H b=some (.arr sz xs)→ZuE w m xs sz o len u
 | .nilsl _,u=>∃a,u = .slice a 0 0
 | .agg cs,u=>∃us:List Value,u = .agg us.toArray∧Zby R w cs us
 | .tup cs,u=>∃us:List Value,u = .tuple us.toArray∧Zby R w cs us
 | .fn f caps,u=>∃us:List Value,u=Zl1 f us∧Zby R w caps us
 | .mp b,u=>(∃a,u = .map a)∧∃m,R.M b=some m∧∀es,nth R.H b=some (.mp es)→∃c,m=some c∧u = .map (some c)
def Zby (R:RP) (w:World):List V→List Value→Prop
 | [],us=>us=[]
 | x :: xs,us=>∃u us',us=u :: us'∧ZbZ R w x u∧Zby R w xs us'
end
end Go.Proofs.YtnpidpcmpleiaaaGreatDoorE
namespace Go.Proofs.YtnpidpcmpleiaaaGreatDoorE
open Go
open Go.IntKind (u64 i64 u32 i32 u8)
def Zvq (fr:Nat×Nat):Prop:=fr.2≤fr.1
theorem Zvq.not {w:World}{c:Nat}{cs:Array Value}{el:TypeId}{fr:Nat×Nat} (h:Zvq fr) (hc:w.heap[c]? = some (.cells cs el fr)) (o:Nat):w.frozen? ⟨c,o,none⟩=false:=by
 unfold Zvq at h
 simp only[World.frozen?,hc]
 by_cases h1:fr.1≤o
 ·by_cases h2:o<fr.2
  ·omega
  ·simp[h2]
 ·simp[h1]
def Zhs:D→Value
 | .bool b=>.bool b
 | .int k n=>.int k n
 | _=>undef
def ZlC:D→Value
 | .agg cs=>.agg (cs.map Zhs).toArray
 | x=>Zhs x
def Zo2:D→Bool
 | .agg cs=>cs.all Zj3
 | x=>Zj3 x
structure ZH6 (w:World) (c:Nat) (es:List (D×D)):Prop where
 mk ::
 ex:∃mes clock,w.heap[c]? = some (.map mes clock)∧mes.toList.map (fun e=>(e.key,e.val))=es.map (fun q=>(ZlC q.1,Zhs q.2))
 fl:∀q∈es,Zo2 q.1=true∧Zj3 q.2=true
def ZjP (R:RP) (w:World) (m:Option Nat):Blk→Prop
 | .dead=>True
 | .cells vs=>∃c cs el fr,m=some c∧w.heap[c]? = some (.cells cs el fr)∧Zvq fr∧vs.length≤cs.size∧∀(k:Nat) v,vs[k]? = some v→∃u,cs[k]? = some u∧ZbZ R w v u
 | .arr sz xs=>0<sz∧(∀x∈xs,x.esc=true)∧((m=none∧xs=[])∨∃c cs el,m=some c∧w.heap[c]? = some (.cells cs el (0,0))∧xs.length*sz≤cs.size ∧
   ∀(j:Nat) x,xs[j]? = some x→∃u,R.den w x u∧u.cells.size=sz∧∀(k:Nat) v,u.cells[k]? = some v→cs[j*sz+k]? = some v)
 | .mp es=>∃c,m=some c∧ZH6 w c es
structure RP.OK (R:RP) (w:World):Prop where
 b01:∀c,R.B0 c→R.B1 c
 al:∀(i:Nat) blk,R.H[i]? = some blk→blk ≠ .dead→∃m,R.M i=some m
 inj:∀i j c,ZaY R.H i=true→ZaY R.H j=true→R.M i=some (some c)→R.M j=some (some c)→i=j
 lt:∀i c,R.M i=some (some c)→c<w.heap.size
 blk:∀(i:Nat) m blk,R.H[i]? = some blk→R.M i=some m→ZjP R w m blk
 nb:∀i c,ZaY R.H i=true→R.M i=some (some c)→¬R.B1 c
 bl:∀c,R.B1 c→c<w.heap.size
theorem ZE {H:Zs}{i:Nat}:ZaY H i=true↔∃blk,H[i]? = some blk∧blk ≠ .dead:=by
 unfold ZaY
 rw[Zaw]
 cases h:H[i]? with
 | none=>simp
 | some blk=>cases blk<;>simp
def Blk.like:Blk→Blk→Prop
 | .cells _,.cells _=>True
 | .arr sz xs,.arr sz' ys=>sz=sz'∧ys.length=xs.length
 | .mp _,.mp _=>True
 | _,_=>False
structure Ext (R:RP) (w:World) (R':RP) (w':World):Prop where
 m:∀i x,R.M i=some x→R'.M i=some x
 h:∀(i:Nat) x blk,R.M i=some x→R'.H[i]? = some blk→blk ≠ .dead→∃old,R.H[i]? = some old∧old.like blk
 b1:R'.B1=R.B1
 b0:R'.B0=R.B0
 same:∀(b:Nat),b<w.heap.size→¬R.live b→w'.heap[b]? = w.heap[b]?
 row:∀(b:Nat) cs el fr,w.heap[b]? = some (Obj.cells cs el fr)→∃cs' el' fr',w'.heap[b]? = some (Obj.cells cs' el' fr')∧cs'.size=cs.size
 grow:w.heap.size≤w'.heap.size
 liv:∀c,c<w.heap.size→R'.live c→R.live c
 os:w'.os=w.os
 tape:w'.tape=w.tape
 output:w'.output=w.output
theorem Blk.like_refl {b:Blk} (h:b ≠ .dead):b.like b:=by cases b<;>simp_all [Blk.like]
theorem Ext.refl (R:RP) (w:World):Ext R w R w:=
 ⟨fun _ _ h=>h,fun i x blk _ h hd=>⟨blk,h,Blk.like_refl hd⟩,rfl,rfl,fun _ _ _=>rfl,fun _ cs el fr h=>⟨cs,el,fr,h,rfl⟩,Nat.le_refl _,fun _ _ h=>h,rfl,rfl,rfl⟩
theorem Blk.like_trans {a b c:Blk} (h:a.like b) (k:b.like c):a.like c:=by
 cases a<;>cases b<;>cases c<;>simp_all [Blk.like]
theorem Blk.like_ne {a b:Blk} (h:a.like b):a ≠ .dead:=by cases a<;>cases b<;>simp_all [Blk.like]
theorem Ext.trans {R R1 R2:RP}{w w1 w2:World} (h:Ext R w R1 w1) (k:Ext R1 w1 R2 w2):Ext R w R2 w2 where
 m:=fun i x hx=>k.m i x (h.m i x hx)
 h:=fun i x blk hx hb hd=>by
  obtain⟨o1,e1,e2⟩:=k.h i x blk (h.m i x hx) hb hd
  obtain⟨o,f1,f2⟩:=h.h i x o1 hx e1 (Blk.like_ne e2)
  exact⟨o,f1,Blk.like_trans f2 e2⟩
 b1:=k.b1.trans h.b1
 b0:=k.b0.trans h.b0
 same:=fun b hb hl=>(k.same b (Nat.lt_of_lt_of_le hb h.grow) (fun hl'=>hl (h.liv b hb hl'))).trans (h.same b hb hl)
 row:=fun b cs el fr hb=>by
  obtain⟨cs1,el1,fr1,e1,e2⟩:=h.row b cs el fr hb
  obtain⟨cs2,el2,fr2,f1,f2⟩:=k.row b cs1 el1 fr1 e1
  exact⟨cs2,el2,fr2,f1,f2.trans e2⟩
 grow:=Nat.le_trans h.grow k.grow
 liv:=fun c hc hl=>h.liv c hc (k.liv c (Nat.lt_of_lt_of_le hc h.grow) hl)
 os:=k.os.trans h.os
 tape:=k.tape.trans h.tape
 output:=k.output.trans h.output
section
variable {R R':RP} {w w':World}
theorem Ext.den (e:Ext R w R' w') (hb:∀c,R.B0 c→R.B1 c) {x:D}{u:Value} (h:R.den w x u):R'.den w' x u:=by
 refine Zca.change _ _ _ _ ?_ ?_ ?_ ?_ e.grow ?_ ?_ x u h
 ·exact fun b hb' ⟨h1,h2⟩=>⟨fun hl=>h1 (e.liv b hb' hl),by rw[e.b1];exact h2⟩
 ·exact fun b hb' ⟨h1,h2⟩=>⟨fun hl=>h1 (e.liv b hb' hl),by rw[e.b0];exact h2⟩
 ·exact fun b hb' h1 hl=>h1 (e.liv b hb' hl)
 ·exact fun b hb' hl=>e.same b hb' hl
 ·exact fun b h=>h.1
 ·exact fun b h=>h.1
theorem Ext.slAt (e:Ext R w R' w') {m:Option Nat}{xs ys:List D}{sz o len:Nat}{u:Value} (hl:ys.length=xs.length) (h:ZuE w m xs sz o len u):ZuE w' m ys sz o len u:=by
 obtain⟨h1,a,cap,h2,h3,h4⟩:=h
 refine⟨by omega,a,cap,h2,h3,?_⟩
 rcases h4 with⟨h4,h5⟩ | ⟨c,cs,el,fr,h4,h5,h6,h7⟩
 ·exact .inl ⟨h4,by omega⟩
 ·obtain⟨cs',el',fr',f1,f2⟩:=e.row c cs el fr h6
  exact .inr ⟨c,cs',el',fr',h4,h5,f1,by omega⟩
mutual
theorem Ext.denV (e:Ext R w R' w') (hb:∀c,R.B0 c→R.B1 c):∀(v:V) (u:Value),ZbZ R w v u→ZbZ R' w' v u
 | .d x,u,h=>e.den hb h
 | .bad,_,h=>h
 | .ptr b o,u,h=>by
  obtain⟨c,h1,h2⟩:=h
  exact⟨c,e.m b _ h1,h2⟩
 | .eptr b sz i k,u,h=>by
  obtain⟨c,h1,h2⟩:=h
  exact⟨c,e.m b _ h1,h2⟩
 | .sl b sz,u,h=>by
  obtain⟨h0,m,h1,h2⟩:=h
  refine⟨h0,m,e.m b m h1,fun xs hc=>?_⟩
  rw[Zaw] at hc
  obtain⟨old,f1,f2⟩:=e.h b m _ h1 hc (by simp)
  cases old<;>simp[Blk.like] at f2
  rename_i sz0 xs0
  obtain⟨rfl,f2⟩:=f2
  have:=e.slAt f2 (h2 xs0 (by rw[Zaw];exact f1))
  rw[f2]
  exact this
 | .slp b sz o len,u,h=>by
  obtain⟨h0,m,h1,h2⟩:=h
  refine⟨h0,m,e.m b m h1,fun xs hc=>?_⟩
  rw[Zaw] at hc
  obtain⟨old,f1,f2⟩:=e.h b m _ h1 hc (by simp)
  cases old<;>simp[Blk.like] at f2
  rename_i sz0 xs0
  obtain⟨rfl,f2⟩:=f2
  exact e.slAt f2 (h2 xs0 (by rw[Zaw];exact f1))
 | .nilsl sz,u,h=>h
 | .agg cs,u,h=>by
  obtain⟨us,h1,h2⟩:=h
  exact⟨us,h1,Ext.denVs e hb cs us h2⟩
 | .tup cs,u,h=>by
  obtain⟨us,h1,h2⟩:=h
  exact⟨us,h1,Ext.denVs e hb cs us h2⟩
 | .fn f caps,u,h=>by
  obtain⟨us,h1,h2⟩:=h
  exact⟨us,h1,Ext.denVs e hb caps us h2⟩
 | .mp b,u,h=>by
  obtain⟨h0,m,h1,h2⟩:=h
  refine⟨h0,m,e.m b m h1,fun es hc=>?_⟩
  rw[Zaw] at hc
  obtain⟨old,f1,f2⟩:=e.h b m _ h1 hc (by simp)
  cases old<;>simp[Blk.like] at f2
  rename_i es0
  exact h2 es0 (by rw[Zaw];exact f1)
theorem Ext.denVs (e:Ext R w R' w') (hb:∀c,R.B0 c→R.B1 c):∀(vs:List V) (us:List Value),Zby R w vs us→Zby R' w' vs us
 | [],us,h=>h
 | v :: vs,us,h=>by
  obtain⟨u,us',h1,h2,h3⟩:=h
  exact⟨u,us',h1,Ext.denV e hb v u h2,Ext.denVs e hb vs us' h3⟩
end
theorem Ext.blkOK (e:Ext R w R' w') (hb:∀c,R.B0 c→R.B1 c) {m:Option Nat}{blk:Blk} (hs:∀(c:Nat),m=some c→w'.heap[c]? = w.heap[c]?) (h:ZjP R w m blk):ZjP R' w' m blk:=by
 cases blk with
 | dead=>trivial
 | cells vs=>
  obtain⟨c,cs,el,fr,h1,h2,h3,h4,h5⟩:=h
  refine⟨c,cs,el,fr,h1,by rw[hs c h1];exact h2,h3,h4,fun k v hk=>?_⟩
  obtain⟨u,f1,f2⟩:=h5 k v hk
  exact⟨u,f1,e.denV hb v u f2⟩
 | arr sz xs=>
  obtain⟨h0,h1,h2⟩:=h
  refine⟨h0,h1,?_⟩
  rcases h2 with h2 | ⟨c,cs,el,h3,h4,h5,h6⟩
  ·exact .inl h2
  ·refine .inr ⟨c,cs,el,h3,by rw[hs c h3];exact h4,h5,fun j x hj=>?_⟩
   obtain⟨u,f1,f2,f3⟩:=h6 j x hj
   exact⟨u,e.den hb f1,f2,f3⟩
 | mp es=>
  obtain⟨c,h1,⟨mes,clock,h2,h3⟩,h4⟩:=h
  exact⟨c,h1,⟨mes,clock,by rw[hs c h1];exact h2,h3⟩,h4⟩
end
theorem Ext.draw {R:RP}{w w':World} (hh:w'.heap=w.heap) (ho:w'.os=w.os) (ht:w'.tape=w.tape) (hp:w'.output=w.output):Ext R w R w':=
 ⟨fun _ _ h=>h,fun i x blk _ h hd=>⟨blk,h,Blk.like_refl hd⟩,rfl,rfl,fun _ _ _=>by rw[hh],fun _ cs el fr h=>⟨cs,el,fr,by rw[hh];exact h,rfl⟩,by rw[hh];exact Nat.le_refl _,fun _ _ h=>h,ho,ht,hp⟩
theorem RP.OK.draw {R:RP}{w w':World} (h:R.OK w) (hh:w'.heap=w.heap) (ho:w'.os=w.os) (ht:w'.tape=w.tape) (hp:w'.output=w.output):R.OK w':=
 ⟨h.b01,h.al,h.inj,fun i c hc=>by rw[hh];exact h.lt i c hc,fun i m blk h1 h2=>(Ext.draw (R:=R) hh ho ht hp).blkOK h.b01 (fun c _=>by rw[hh]) (h.blk i m blk h1 h2),h.nb,fun c hc=>by rw[hh];exact h.bl c hc⟩
theorem Ext.new {R:RP}{w:World}{H':Zs}{n:Nat}{blk:Blk}{m:Option Nat} (o:Obj) (hn:R.M n=none) (hH:∀(i:Nat),i≠n→H'[i]? = R.H[i]?) (hb:H'[n]? = some blk)
  (hm:m=none∨m=some w.heap.size) (lt:∀i c,R.M i=some (some c)→c<w.heap.size) (al:∀(i:Nat) blk,R.H[i]? = some blk→blk ≠ .dead→∃m,R.M i=some m) :
  Ext R w { R with M:=fun i=>if i=n then some m else R.M i,H:=H' } (w.alloc o) where
 m:=fun i x hx=>by
  have:i≠n:=fun e=>by rw[e,hn] at hx;cases hx
  simp[this,hx]
 h:=fun i x blk' hx hb' hd=>by
  have:i≠n:=fun e=>by rw[e,hn] at hx;cases hx
  simp only[hH i this] at hb'
  exact⟨blk',hb',Blk.like_refl hd⟩
 b1:=rfl
 b0:=rfl
 same:=fun b hb' _=>Go.RowKit.Below.heap_alloc _ _ _ hb'
 row:=fun b cs el fr hb'=>by
  have hlt:b<w.heap.size:=by
   rcases Nat.lt_or_ge b w.heap.size with h | h
   ·exact h
   ·rw[Array.getElem?_eq_none h] at hb';cases hb'
  exact⟨cs,el,fr,by rw[Go.RowKit.Below.heap_alloc _ _ _ hlt];exact hb',rfl⟩
 grow:=by simp
 liv:=fun c hc ⟨i,h1,h2⟩=>by
  by_cases e:i=n
  ·subst e
   simp only[if_true] at h2
   rcases hm with h | h
   ·rw[h] at h2;cases h2
   ·rw[h] at h2;cases h2;omega
  ·simp only[e,if_false] at h2
   refine⟨i,?_,h2⟩
   rw[ZE] at h1 ⊢
   obtain⟨b',f1,f2⟩:=h1
   exact⟨b',by rw[← hH i e];exact f1,f2⟩
 os:=rfl
 tape:=rfl
 output:=rfl
theorem RP.OK.new {R:RP}{w:World}{H':Zs}{n:Nat}{blk:Blk}{m:Option Nat}{o:Obj} (h:R.OK w) (hn:R.M n=none) (hH:∀(i:Nat),i≠n→H'[i]? = R.H[i]?) (hb:H'[n]? = some blk)
  (hm:m=none∨m=some w.heap.size)
  (hk:Ext R w { R with M:=fun i=>if i=n then some m else R.M i,H:=H' } (w.alloc o)→ZjP { R with M:=fun i=>if i=n then some m else R.M i,H:=H' } (w.alloc o) m blk) :
  RP.OK { R with M:=fun i=>if i=n then some m else R.M i,H:=H' } (w.alloc o):=by
 have e:=Ext.new (R:=R) (w:=w) (H':=H') (n:=n) (blk:=blk) (m:=m) o hn hH hb hm h.lt h.al
 refine⟨h.b01,?_,?_,?_,?_,?_,fun c hc=>by have:=h.bl c hc;simp;omega⟩
 ·intro i blk' hi hd
  by_cases ei:i=n
  ·exact⟨m,by simp[ei]⟩
  ·simp only[hH i ei] at hi
   obtain⟨x,hx⟩:=h.al i blk' hi hd
   exact⟨x,by simp[ei,hx]⟩
 ·intro i j c hi hj h1 h2
  simp only at h1 h2
  by_cases ei:i=n<;>by_cases ej:j=n
  ·rw[ei,ej]
  ·rw[if_pos ei] at h1;rw[if_neg ej] at h2
   have:=h.lt j c h2
   rcases hm with h' | h'<;>rw[h'] at h1<;>cases h1
   omega
  ·rw[if_neg ei] at h1;rw[if_pos ej] at h2
   have:=h.lt i c h1
   rcases hm with h' | h'<;>rw[h'] at h2<;>cases h2
   omega
  ·rw[if_neg ei] at h1;rw[if_neg ej] at h2
   have l1:ZaY R.H i=true:=by rw[ZE] at hi ⊢;obtain⟨b',f1,f2⟩:=hi;exact⟨b',by rw[← hH i ei];exact f1,f2⟩
   have l2:ZaY R.H j=true:=by rw[ZE] at hj ⊢;obtain⟨b',f1,f2⟩:=hj;exact⟨b',by rw[← hH j ej];exact f1,f2⟩
   exact h.inj i j c l1 l2 h1 h2
 ·intro i c hc
  simp only at hc
  by_cases ei:i=n
  ·rw[if_pos ei] at hc
   rcases hm with h' | h'<;>rw[h'] at hc<;>cases hc
   simp
  ·rw[if_neg ei] at hc
   have:=h.lt i c hc
   simp;omega
 ·intro i x blk' hi hx
  simp only at hi hx
  by_cases ei:i=n
  ·subst ei
   rw[if_pos rfl] at hx
   cases hx
   rw[hb] at hi
   cases hi
   exact hk e
  ·rw[if_neg ei] at hx
   rw[hH i ei] at hi
   refine e.blkOK h.b01 (fun c hc=>?_) (h.blk i x blk' hi hx)
   exact Go.RowKit.Below.heap_alloc _ _ _ (h.lt i c (by rw[hx,hc]))
 ·intro i c hl hc hb1
  simp only at hc hb1
  by_cases ei:i=n
  ·rw[if_pos ei] at hc
   rcases hm with h' | h'<;>rw[h'] at hc<;>cases hc
   exact absurd (h.bl _ hb1) (by omega)
  ·rw[if_neg ei] at hc
   refine h.nb i c ?_ hc hb1
   rw[ZE] at hl ⊢;obtain⟨b',f1,f2⟩:=hl;exact⟨b',by rw[← hH i ei];exact f1,f2⟩
theorem Ext.kill {R:RP}{w:World}{H':Zs} (hH:∀(i:Nat) blk,H'[i]? = some blk→blk ≠ .dead→R.H[i]? = some blk):Ext R w { R with H:=H' } w:=
 ⟨fun _ _ h=>h,fun i x blk _ h hd=>⟨blk,hH i blk h hd,Blk.like_refl hd⟩,rfl,rfl,fun _ _ _=>rfl,fun _ cs el fr h=>⟨cs,el,fr,h,rfl⟩,Nat.le_refl _,
  fun c _ ⟨i,h1,h2⟩=>by
   rw[ZE] at h1
   obtain⟨blk,f1,f2⟩:=h1
   exact⟨i,ZE.2 ⟨blk,hH i blk f1 f2,f2⟩,h2⟩,rfl,rfl,rfl⟩
theorem RP.OK.kill {R:RP}{w:World}{H':Zs} (h:R.OK w) (hH:∀(i:Nat) blk,H'[i]? = some blk→blk ≠ .dead→R.H[i]? = some blk):RP.OK { R with H:=H' } w:=by
 have e:=Ext.kill (R:=R) (w:=w) hH
 have lv:∀i,ZaY H' i=true→ZaY R.H i=true:=fun i hi=>by
  rw[ZE] at hi ⊢
  obtain⟨blk,f1,f2⟩:=hi
  exact⟨blk,hH i blk f1 f2,f2⟩
 refine⟨h.b01,fun i blk hi hd=>h.al i blk (hH i blk hi hd) hd,fun i j c hi hj=>h.inj i j c (lv i hi) (lv j hj),h.lt,fun i m blk hi hm=>?_,fun i c hl=>h.nb i c (lv i hl),h.bl⟩
 by_cases hd:blk = .dead
 ·subst hd;trivial
 ·exact e.blkOK h.b01 (fun _ _=>rfl) (h.blk i m blk (hH i blk hi hd) hm)
end Go.Proofs.YtnpidpcmpleiaaaGreatDoorE
namespace Go.Proofs.YtnpidpcmpleiaaaGreatDoorE
open Go
open Go.IntKind (u64 i64 u32 i32 u8)
def ZeO (P:Program) (o:Oper) (a:Act) (w:World) (ZaA:Value→World→Prop):Prop:=
 (∃u w',(execOp a.eval o).run P w = .ok (.value u) w'∧ZaA u w')∨(∃w',(execOp a.eval o).run P w = .ok .skip w'∧ZaA undef w') ∨
 (∃f args w',(execOp a.eval o).run P w = .ok (.enter f args) w'∧Calls P f args w' fun e w''=>∃u,e = .returned u∧ZaA u w'')
theorem ZeO.wp {P:Program}{o:Oper}{a:Act}{w:World}{ZaA:Value→World→Prop}{K:Act→World→Prop}{Q:Exit→Act→World→Prop}
  (h:ZeO P o a w ZaA) (hK:∀u w',ZaA u w'→K (a.put o.dst u) w'):o.wp P a w K Q:=by
 unfold Oper.wp
 rcases h with⟨u,w',h1,h2⟩ | ⟨w',h1,h2⟩ | ⟨f,args,w',h1,h2⟩
 ·rw[h1];exact hK _ _ h2
 ·rw[h1];exact hK _ _ h2
 ·rw[h1]
  exact h2.mono fun e w'' ⟨u,he,hp⟩=>by subst he;exact hK _ _ hp
theorem ZeO.val {P:Program}{o:Oper}{a:Act}{w w':World}{ZaA:Value→World→Prop}{u:Value} (h:(execOp a.eval o).run P w = .ok (.value u) w') (hp:ZaA u w'):ZeO P o a w ZaA:=
 .inl ⟨u,w',h,hp⟩
mutual
def cv:V→Value→Bool
 | .d (.bool a),.bool b=>a==b
 | .d (.int k n),.int k' m=>k==k'&&n==m
 | .d (.str s),.string t=>decide (s=t)
 | .d .nilfn,.nilFunc=>true
 | .d .nilp,.pointer none=>true
 | .d .nilI,.nilIface=>true
 | .d (.fn f []),.func (.func g) a b=>isU f&&(f==g&&a.isEmpty&&b.isEmpty)
 | .d (.agg ds),.agg us=>cds ds us.toList
 | .d (.list _ []),.slice _ n _=>n==0
 | .nilsl _,.slice _ n c=>n==0&&c==0
 | .agg vs,.agg us=>cvs vs us.toList
 | .bad,_=>true
 | _,_=>false
def cvs:List V→List Value→Bool
 | [],[]=>true
 | v :: vs,u :: us=>cv v u&&cvs vs us
 | _,_=>false
def cds:List D→List Value→Bool
 | [],[]=>true
 | .bool a :: ds,.bool b :: us=>a==b&&cds ds us
 | .int k n :: ds,.int k' m :: us=>k==k'&&n==m&&cds ds us
 | .str s :: ds,.string t :: us=>decide (s=t)&&cds ds us
 | .nilfn :: ds,.nilFunc :: us=>cds ds us
 | .nilp :: ds,.pointer none :: us=>cds ds us
 | .nilI :: ds,.nilIface :: us=>cds ds us
 | .list _ [] :: ds,.slice _ n _ :: us=>n==0&&cds ds us
 | _,_=>false
end
theorem ZDH {A1 A0 AL:Nat→Prop}{w:World}:∀(ds:List D) (us:List Value),cds ds us=true→ZbP A1 A0 AL w ds us:=by
 intro ds
 induction ds with
 | nil=>intro us h;cases us<;>simp_all [cds,ZbP]
 | cons x ds ih=>
  intro us h
  cases us with
  | nil=>cases x<;>simp_all [cds]
  | cons u us=>
   refine⟨u,us,rfl,?_⟩
   cases x with
   | bool a=>cases u<;>simp_all [cds,Zca]
   | int k n=>cases u<;>simp_all [cds,Zca]
   | str s=>
    cases u<;>simp only[cds,Bool.and_eq_true,decide_eq_true_eq,Bool.false_eq_true] at h
    exact⟨by rw[h.1];rfl,ih us h.2⟩
   | nilfn=>cases u<;>simp_all [cds,Zca]
   | nilI=>cases u<;>simp_all [cds,Zca]
   | nilp=>
    cases u with
    | pointer a=>cases a<;>simp_all [cds,Zca]
    | _=>simp_all [cds]
   | list own xs=>
    cases xs with
    | nil=>
     cases u with
     | slice a n c=>
      simp only[cds,Bool.and_eq_true,beq_iff_eq] at h
      obtain⟨rfl,h⟩:=h
      exact⟨⟨a,0,c,rfl,rfl,Nat.zero_le _,by simp,by simp⟩,ih us h⟩
     | _=>simp_all [cds]
    | cons y ys=>cases u<;>simp_all [cds]
   | agg cs=>cases u<;>simp_all [cds]
   | tup cs=>cases u<;>simp_all [cds]
   | fn f cs=>cases u<;>simp_all [cds]
   | rptr cs=>cases u<;>simp_all [cds]
   | iface t v=>cases u<;>simp_all [cds]
mutual
theorem Zt2 {R:RP}{w:World}:∀(v:V) (u:Value),cv v u=true→ZbZ R w v u
 | .bad,_,_=>trivial
 | .nilsl sz,u,h=>by
  cases u<;>simp_all [cv,ZbZ]
 | .agg vs,u,h=>by
  cases u<;>simp only[cv] at h<;>try (cases h;done)
  rename_i us
  exact⟨us.toList,rfl,Zww vs us.toList h⟩
 | .d x,u,h=>by
  cases x with
  | bool a=>cases u<;>simp_all [cv,ZbZ,RP.den,Zca]
  | int k n=>cases u<;>simp_all [cv,ZbZ,RP.den,Zca]
  | str s=>
   cases u<;>simp only[cv,decide_eq_true_eq,Bool.false_eq_true] at h
   rw[h];rfl
  | nilfn=>cases u<;>simp_all [cv,ZbZ,RP.den,Zca]
  | nilI=>cases u<;>simp_all [cv,ZbZ,RP.den,Zca]
  | nilp=>
   cases u with
   | pointer a=>cases a<;>simp_all [cv,ZbZ,RP.den,Zca]
   | _=>simp_all [cv]
  | fn f cs=>
   cases cs with
   | cons=>cases u<;>simp_all [cv]
   | nil=>
    cases u with
    | func fn a b=>
     cases fn<;>simp only[cv,Bool.and_eq_true,beq_iff_eq,Array.isEmpty_iff,Bool.false_eq_true] at h
     obtain⟨hlt,⟨rfl,rfl⟩,rfl⟩:=h
     exact⟨[],(ZrN hlt _).symm,rfl⟩
    | _=>simp_all [cv]
  | agg ds=>
   cases u<;>simp only[cv] at h<;>try (cases h;done)
   rename_i us
   exact⟨us.toList,rfl,ZDH ds us.toList h⟩
  | list own xs=>
   cases xs with
   | cons=>cases u<;>simp_all [cv]
   | nil=>
    cases u<;>simp only[cv,beq_iff_eq] at h<;>try (cases h;done)
    subst h
    exact⟨_,0,_,rfl,rfl,Nat.zero_le _,by simp,by simp⟩
  | tup cs=>cases u<;>simp_all [cv]
  | rptr cs=>cases u<;>simp_all [cv]
  | iface t v=>cases u<;>simp_all [cv]
 | .ptr b o,u,h=>by cases u<;>simp_all [cv]
 | .eptr b sz i k,u,h=>by cases u<;>simp_all [cv]
 | .sl b sz,u,h=>by cases u<;>simp_all [cv]
 | .slp b sz o l,u,h=>by cases u<;>simp_all [cv]
 | .tup cs,u,h=>by cases u<;>simp_all [cv]
 | .fn f cs,u,h=>by cases u<;>simp_all [cv]
 | .mp b,u,h=>by cases u<;>simp_all [cv]
theorem Zww {R:RP}{w:World}:∀(vs:List V) (us:List Value),cvs vs us=true→Zby R w vs us
 | [],us,h=>by cases us<;>simp_all [cvs,Zby]
 | v :: vs,[],h=>by simp[cvs] at h
 | v :: vs,u :: us,h=>by
  simp only[cvs,Bool.and_eq_true] at h
  exact⟨u,us,rfl,Zt2 v u h.1,Zww vs us h.2⟩
end
abbrev Zcu:=Nat→Option (List (IntKind×Int))
def gD:List (IntKind×Int)→List D
 | []=>[]
 | (k,n) :: r=>.int k n :: gD r
def eqG:List (IntKind×Int)→List D→Bool
 | [],[]=>true
 | (k,n) :: r,.int k' n' :: s=>k==k'&&n==n'&&eqG r s
 | _,_=>false
theorem ZAG:∀(g:List (IntKind×Int)) (l:List D),eqG g l=true→l=gD g
 | [],[],_=>rfl
 | [],_ :: _,h=>by simp[eqG] at h
 | (k,n) :: r,[],h=>by simp[eqG] at h
 | (k,n) :: r,x :: s,h=>by
  cases x<;>simp only[eqG,Bool.and_eq_true,beq_iff_eq,Bool.false_eq_true] at h
  obtain⟨⟨rfl,rfl⟩,h⟩:=h
  rw[gD,ZAG r s h]
def Zac (G:Zcu):Operand→Opd→Bool
 | .tmp i,.t j=>i==j
 | .const u,.c v=>cv v u
 | .func f,.c (.d (.fn g []))=>isU f&&f==g
 | .global g,.c (.d (.rptr cs))=>match G g with | some l=>eqG l cs | none=>false
 | _,_=>false
def ZgH (G:Zcu):List Operand→List Opd→Bool
 | [],[]=>true
 | x :: xs,y :: ys=>Zac G x y&&ZgH G xs ys
 | _,_=>false
def GOK (G:Zcu) (R:RP) (w:World):Prop:=∀g l,G g=some l→R.den w (.rptr (gD l)) (.pointer (some ⟨g,0,none⟩))
def Zj1 (R:RP) (w:World) (e:Env) (a:Act):Prop:=∀t,ZbZ R w (e t) (a.tmps.getD t undef)
theorem ZpB {G:Zcu}{R:RP}{w:World}{e:Env}{a:Act} (hg:GOK G R w) (he:Zj1 R w e a) {x:Operand}{y:Opd} (h:Zac G x y=true):ZbZ R w (y.val e) (a.eval x):=by
 cases x with
 | tmp i=>
  cases y with
  | t j=>
   simp only[Zac,beq_iff_eq] at h
   subst h
   exact he i
  | c v=>simp[Zac] at h
 | const u=>
  cases y with
  | t j=>simp[Zac] at h
  | c v=>exact Zt2 v u h
 | func f=>
  cases y with
  | t j=>simp[Zac] at h
  | c v=>
   cases v with
   | d x=>
    cases x with
    | fn g caps=>
     cases caps with
     | nil=>
      simp only[Zac,Bool.and_eq_true,beq_iff_eq] at h
      obtain⟨hlt,rfl⟩:=h
      exact⟨[],(ZrN hlt _).symm,rfl⟩
     | cons=>simp[Zac] at h
    | _=>simp[Zac] at h
   | _=>simp[Zac] at h
 | global g=>
  cases y with
  | t j=>simp[Zac] at h
  | c v=>
   cases v with
   | d x=>
    cases x with
    | rptr cs=>
     cases hG:G g with
     | none=>simp[Zac,hG] at h
     | some l=>
      simp only[Zac,hG] at h
      rw[ZAG l cs h]
      exact hg g l hG
    | _=>simp[Zac] at h
   | _=>simp[Zac] at h
theorem Zud {G:Zcu}{R:RP}{w:World}{e:Env}{a:Act} (hg:GOK G R w) (he:Zj1 R w e a):∀{xs:List Operand}{ys:List Opd},ZgH G xs ys=true→Zby R w (Zhl e ys) (xs.map a.eval)
 | [],[],_=>rfl
 | [],_ :: _,h=>by simp[ZgH] at h
 | _ :: _,[],h=>by simp[ZgH] at h
 | x :: xs,y :: ys,h=>by
  simp only[ZgH,Bool.and_eq_true] at h
  exact⟨_,_,rfl,ZpB hg he h.1,Zud hg he h.2⟩
theorem Ext.gok {G:Zcu}{R R':RP}{w w':World} (e:Ext R w R' w') (hb:∀c,R.B0 c→R.B1 c) (h:GOK G R w):GOK G R' w':=fun g l hg=>e.den hb (h g l hg)
theorem Ext.envOK {R R':RP}{w w':World} (x:Ext R w R' w') (hb:∀c,R.B0 c→R.B1 c) {e:Env}{a:Act} (h:Zj1 R w e a):Zj1 R' w' e a:=fun t=>x.denV hb _ _ (h t)
def Za4 (H:Zs) (up:List (Nat×Blk)) (nid:Nat) (nw:List Blk) (H':Zs):Prop:=
 ∀i,H'[i]? = if nid≤i∧i<nid+nw.length then nw[i-nid]? else (Zf5 H up)[i]?
def ZaA (R:RP) (w:World) (nid n:Nat) (H':Zs) (v:V) (u:Value) (w':World):Prop:=
 ∃R',Ext R w R' w'∧R'.OK w'∧R'.H=H'∧ZbZ R' w' v u∧∀i,R.M i=none→¬(nid≤i∧i<nid+n)→R'.M i=none
theorem Za4.same {H H':Zs}{nid:Nat} (h:Za4 H [] nid [] H'):H'=H:=by
 apply List.ext_getElem?
 intro i
 have:=h i
 simp only[List.length_nil,Nat.add_zero,Zf5] at this
 rw[this,if_neg (by omega)]
theorem ZaA.still {R:RP}{w w':World}{nid:Nat}{H':Zs}{v:V}{u:Value} (ok:R.OK w) (hp:Za4 R.H [] nid [] H') (hh:w'.heap=w.heap) (ho:w'.os=w.os) (ht:w'.tape=w.tape) (hpt:w'.output=w.output)
  (hv:ZbZ R w v u):ZaA R w nid 0 H' v u w':=
 ⟨R,Ext.draw hh ho ht hpt,ok.draw hh ho ht hpt,hp.same.symm,(Ext.draw hh ho ht hpt).denV ok.b01 v u hv,fun i h _=>h⟩
theorem ZaA.stay {R:RP}{w:World}{nid:Nat}{H':Zs}{v:V}{u:Value} (ok:R.OK w) (hp:Za4 R.H [] nid [] H') (hv:ZbZ R w v u):ZaA R w nid 0 H' v u w:=
 ZaA.still ok hp rfl rfl rfl rfl hv
theorem ZaA.new {R:RP}{w:World}{nid:Nat}{H':Zs}{v:V}{u:Value}{blk:Blk}{m:Option Nat} (o:Obj) (ok:R.OK w) (hp:Za4 R.H [] nid [blk] H') (hn:R.M nid=none) (hm:m=none∨m=some w.heap.size)
  (hk:∀R':RP,Ext R w R' (w.alloc o)→R'.M nid=some m→R'.H[nid]? = some blk→ZjP R' (w.alloc o) m blk∧(ZjP R' (w.alloc o) m blk→ZbZ R' (w.alloc o) v u)):ZaA R w nid 1 H' v u (w.alloc o):=by
 have hH:∀i,i≠nid→H'[i]? = R.H[i]?:=fun i hi=>by
  have:=hp i
  rw[this,if_neg (by simp;omega)];rfl
 have hb:H'[nid]? = some blk:=by
  have:=hp nid
  rw[this,if_pos (by simp)];simp
 have e:=Ext.new (R:=R) (w:=w) (H':=H') (n:=nid) (blk:=blk) (m:=m) o hn hH hb hm ok.lt ok.al
 have hk':=hk _ e (by simp) hb
 exact⟨_,e,ok.new hn hH hb hm (fun _=>hk'.1),rfl,hk'.2 hk'.1,fun i hi hni=>by
  have:i≠nid:=fun h=>hni (by subst h;simp)
  simp[this,hi]⟩
def Le {α:Type} (x y:Option α):Prop:=∀a,x=some a→y=some a
theorem Le.refl {α:Type} (x:Option α):Le x x:=fun _ h=>h
theorem Le.trans {α:Type}{x y z:Option α} (h:Le x y) (k:Le y z):Le x z:=fun a ha=>k a (h a ha)
theorem Le.none {α:Type} (x:Option α):Le none x:=fun _ h=>by cases h
noncomputable def ZCF {α:Type} (F:Nat→Option α):Option α:=open Classical in if h:∃n,(F n).isSome=true then F (Classical.choose h) else none
theorem Zxs {α:Type}{F:Nat→Option α} (mono:∀n m,n≤m→Le (F n) (F m)) (a:α):ZCF F=some a↔∃n,F n=some a:=by
 unfold ZCF
 constructor
 ·intro h
  split at h
  ·rename_i hx;exact⟨_,h⟩
  ·cases h
 ·rintro ⟨n,hn⟩
  have hx:∃n,(F n).isSome=true:=⟨n,by simp[hn]⟩
  rw[dif_pos hx]
  have hs:=Classical.choose_spec hx
  cases hv:F (Classical.choose hx) with
  | none=>rw[hv] at hs;cases hs
  | some b=>
   rcases Nat.le_total n (Classical.choose hx) with h | h
   ·rw[← hv];exact mono _ _ h a hn
   ·have:=mono _ _ h b hv;rw[hn] at this;exact this.symm
def LeC (f g:Zcl):Prop:=∀a b c,Le (f a b c) (g a b c)
abbrev Rnd:=List V→Zs→Option Lp
abbrev ItF:=Rnd→List V→Zs→Option (Ex×List V×Zs)
def LeR (f g:Rnd):Prop:=∀a b,Le (f a b) (g a b)
def LeI (f g:ItF):Prop:=∀F G,LeR F G→∀a b,Le (f F a b) (g G a b)
theorem Zmy {Γ:Ctx}{cf cg:Zcl} (h:LeC cf cg) (nid:Nat) (H:Zs) (f:Nat) (args:List V):Le (ZiW Γ cf nid H f args) (ZiW Γ cg nid H f args):=by
 intro r hr
 unfold ZiW at hr ⊢
 split at hr
 ·rename_i hm
  cases h1:fzs H args with
  | none=>simp[h1] at hr
  | some l=>
   simp only[h1] at hr ⊢
   cases h2:cf f (Zd1 l) [] with
   | none=>simp[h2] at hr
   | some p=>rw[h2] at hr;rw[h _ _ _ p h2];exact hr
 ·rename_i hm
  cases h1:fzs H args with
  | none=>simp[h1] at hr
  | some l=>
   simp only[h1] at hr ⊢
   cases h2:cf f (Zd1 l) [] with
   | none=>simp[h2] at hr
   | some p=>rw[h2] at hr;rw[h _ _ _ p h2];exact hr
 ·cases h1:extract 0 args H with
  | none=>simp[h1] at hr
  | some q=>
   obtain⟨L,args',H0⟩:=q
   simp only[h1] at hr ⊢
   cases h2:cf f args' H0 with
   | none=>simp[h2] at hr
   | some p=>rw[h2] at hr;rw[h _ _ _ p h2];exact hr
theorem Zjd {Γ:Ctx}{cf:Zcl} (e:Env) (nid:Nat) (H:Zs) (x:Opd) (args:List Opd) :
  opE Γ cf e nid H (.callv x args)=match ZmN (x.val e) with | some (f,caps)=>(match ZiZ Γ (x.val e) f caps with | true=>none | false=>ZiW Γ cf nid H (ZoI f) (Zrl f caps (Zhl e args))) | none=>none:=rfl
theorem ZiA {Γ:Ctx}{cf:Zcl} (e:Env) (nid:Nat) (H:Zs) (tab:List (Nat×Nat)) (x:Opd) (args:List Opd) :
  opE Γ cf e nid H (.invoke tab x args)=match x.val e with
   | .d (.iface t y)=>(match ZoR tab t with | some f=>ZiW Γ cf nid H f (.d y :: Zhl e args) | none=>none)
   | _=>none:=rfl
theorem ZpN {Γ:Ctx}{cf cg:Zcl} (h:LeC cf cg) (e:Env) (nid:Nat) (H:Zs) (o:O):Le (opE Γ cf e nid H o) (opE Γ cg e nid H o):=by
 intro r hr
 cases o<;>try exact hr
 ·exact Zmy h _ _ _ _ r hr
 ·rename_i x args
  rw[Zjd] at hr ⊢
  cases h1:ZmN (x.val e) with
  | none=>simp[h1] at hr
  | some q=>
   obtain⟨f,caps⟩:=q;simp only[h1] at hr ⊢
   cases hb:ZiZ Γ (x.val e) f caps with
   | true=>rw[hb] at hr;cases hr
   | false=>rw[hb] at hr;exact Zmy h _ _ _ _ r hr
 ·rename_i tab x args
  rw[ZiA] at hr ⊢
  split at hr
  ·rename_i t y hx
   split at hr
   ·exact Zmy h _ _ _ _ r hr
   ·cases hr
  ·cases hr
 ·exact Zmy h _ _ _ _ r hr
theorem Zn8 {Γ:Ctx}{cf cg:Zcl} (h:LeC cf cg):∀(l:List Op1) (e:Env) (H:Zs),Le (Zj9 Γ cf l e H) (Zj9 Γ cg l e H)
 | [],e,H,r,hr=>hr
 | o :: l,e,H,r,hr=>by
  unfold Zj9 at hr ⊢
  cases hw:Zh3 e o.guard with
  | none=>simp[hw] at hr
  | some b=>
   cases b with
   | false=>simp only[hw] at hr ⊢;exact Zn8 h l _ _ r hr
   | true=>
    simp only[hw] at hr ⊢
    cases ho:opE Γ cf e H.length H o.op with
    | none=>simp[ho] at hr
    | some q=>
     rw[ho] at hr;rw[ZpN h _ _ _ _ q ho]
     exact Zn8 h l _ _ r hr
theorem Zmj {Γ:Ctx}{cf cg:Zcl} (h:LeC cf cg):∀(l:List Op1) (pos:List (Nat×Nat)) (e:Env) (H:Zs),Le (ZhG Γ cf pos l e H) (ZhG Γ cg pos l e H)
 | [],pos,e,H,r,hr=>hr
 | o :: l,pos,e,H,r,hr=>by
  unfold ZhG at hr ⊢
  cases hw:Zh3 e o.guard with
  | none=>simp[hw] at hr
  | some b=>
   cases b with
   | false=>simp only[hw] at hr ⊢;exact Zmj h l _ _ _ r hr
   | true=>
    simp only[hw] at hr ⊢
    cases ho:opE Γ cf e H.length (ZiV H pos o.mask) o.op with
    | none=>simp[ho] at hr
    | some q=>
     rw[ho] at hr;rw[ZpN h _ _ _ _ q ho]
     obtain⟨v,up,nw⟩:=q
     dsimp only at hr ⊢
     cases hb:(Zr4 e H o up nw) with
     | false=>simp[hb] at hr
     | true=>simp only[hb,cond_true] at hr ⊢;exact Zmj h l _ _ _ r hr
theorem ZnP {k:Nat}{live outs:List Nat}{x y:Option (Ex×Env×Zs)} (h:Le x y):Le (ZgO k live outs x) (ZgO k live outs y):=by
 intro r hr
 cases x with
 | none=>simp[ZgO] at hr
 | some q=>rw[h q rfl];exact hr
theorem Zsv {Γ:Ctx}{cf cg:Zcl}{It Jt:ItF} (h:LeC cf cg) (hi:LeI It Jt) (k:Nat):∀(c:C) (e:Env) (H:Zs),Le (Zae Γ cf It k c e H) (Zae Γ cg Jt k c e H):=by
 intro c
 induction c with
 | skip=>intro e H;exact Le.refl _
 | ret=>intro e H;exact Le.refl _
 | exit id=>intro e H;exact Le.refl _
 | seq a b iha ihb=>
  intro e H r hr
  unfold Zae at hr ⊢
  cases ha:Zae Γ cf It k a e H with
  | none=>simp[ha] at hr
  | some q=>
   rw[ha] at hr;rw[iha e H q ha]
   obtain⟨x,e1,H1⟩:=q
   cases x with
   | normal=>exact ihb e1 H1 r hr
   | exit id=>exact hr
   | ret=>exact hr
 | cond x a b iha ihb=>
  intro e H r hr
  unfold Zae at hr ⊢
  split at hr
  ·rename_i t ht
   cases t with
   | true=>exact iha e H r hr
   | false=>exact ihb e H r hr
  ·cases hr
 | block id a iha=>
  intro e H r hr
  unfold Zae at hr ⊢
  cases ha:Zae Γ cf It k a e H with
  | none=>simp[ha] at hr
  | some q=>rw[ha] at hr;rw[iha e H q ha];exact hr
 | loop live outs a iha=>
  intro e H r hr
  unfold Zae at hr ⊢
  cases hh:Zrz k (live.map e) H with
  | none=>simp[hh] at hr
  | some q=>
   obtain⟨vs,H1⟩:=q
   simp only[hh] at hr ⊢
   cases hit:It (fun vs H=>ZgO k live outs (Zae Γ cf It k a (Zgc live vs) H)) vs H1 with
   | none=>simp[hit] at hr
   | some p=>
    rw[hit] at hr
    rw[hi _ (fun vs H=>ZgO k live outs (Zae Γ cg Jt k a (Zgc live vs) H)) (fun vs H=>ZnP (iha (Zgc live vs) H)) vs H1 p hit]
    exact hr
 | ops l=>
  intro e H r hr
  unfold Zae at hr ⊢
  cases ho:Zj9 Γ cf l e H with
  | none=>simp[ho] at hr
  | some q=>rw[ho] at hr;rw[Zn8 h l e H q ho];exact hr
 | draw l=>
  intro e H r hr
  unfold Zae at hr ⊢
  cases ho:ZhG Γ cf [] l e H with
  | none=>simp[ho] at hr
  | some q=>rw[ho] at hr;rw[Zmj h l _ e H q ho];exact hr
theorem ZtR {Γ:Ctx}{cf cg:Zcl}{It Jt:ItF} (h:LeC cf cg) (hi:LeI It Jt) (f:Nat) (args:List V) (H:Zs):Le (Znk Γ cf It f args H) (Znk Γ cg Jt f args H):=by
 intro r hr
 unfold Znk at hr ⊢
 cases hc:Γ.code f with
 | none=>simp[hc] at hr
 | some fn=>
  simp only[hc] at hr ⊢
  cases hn:Nat.beq args.length fn.nargs with
  | false=>simp[hn] at hr
  | true=>
   simp only[hn,cond_true] at hr ⊢
   cases hx:Zae Γ cf It H.length fn.body (Zg3 0 args) H with
   | none=>simp[hx] at hr
   | some q=>rw[hx] at hr;rw[Zsv h hi _ _ _ _ q hx];exact hr
theorem Zis {F G:Rnd} (h:LeR F G):∀(n m:Nat),n≤m→∀vs H,Le (ZdF F n vs H) (ZdF G m vs H)
 | 0,m,_,vs,H=>Le.none _
 | n+1,0,hm,vs,H=>absurd hm (by omega)
 | n+1,m+1,hm,vs,H=>by
  intro r hr
  unfold ZdF at hr ⊢
  cases hf:F vs H with
  | none=>simp[hf] at hr
  | some q=>
   rw[hf] at hr;rw[h vs H q hf]
   cases q with
   | again vs H=>exact Zis h n m (by omega) vs H r hr
   | done x vs H=>exact hr
theorem ZkI (Γ:Ctx):∀(n m:Nat),n≤m→LeC (evN Γ n) (evN Γ m)
 | 0,m,_=>fun _ _ _=>Le.none _
 | n+1,0,hm=>absurd hm (by omega)
 | n+1,m+1,hm=>fun f args H=>ZtR (ZkI Γ n m (by omega)) (fun F G h vs H=>Zis h n m (by omega) vs H) f args H
noncomputable def evW (Γ:Ctx):Zcl:=fun f args H=>ZCF fun n=>evN Γ n f args H
noncomputable def itW:ItF:=fun F vs H=>ZCF fun n=>ZdF F n vs H
theorem Zld (Γ:Ctx) (f:Nat) (args:List V) (H:Zs) (r:V×Zs):evW Γ f args H=some r↔∃n,evN Γ n f args H=some r:=
 Zxs (fun n m h=>ZkI Γ n m h f args H) r
theorem Zlt (F:Rnd) (vs:List V) (H:Zs) (r:Ex×List V×Zs):itW F vs H=some r↔∃n,ZdF F n vs H=some r:=
 Zxs (fun n m h=>Zis (fun _ _=>Le.refl _) n m h vs H) r
theorem ZDC (F:Rnd) (vs:List V) (H:Zs):itW F vs H=match F vs H with | some (.again vs H)=>itW F vs H | some (.done x vs H)=>some (x,vs,H) | none=>none:=by
 cases hf:F vs H with
 | none=>
  cases h:itW F vs H with
  | none=>rfl
  | some r=>
   obtain⟨n,hn⟩:=(Zlt F vs H r).1 h
   cases n with
   | zero=>simp[ZdF] at hn
   | succ n=>simp[ZdF,hf] at hn
 | some q=>
  cases q with
  | done x vs' H'=>exact(Zlt F vs H _).2 ⟨1,by simp[ZdF,hf]⟩
  | again vs' H'=>
   dsimp only
   cases h:itW F vs' H' with
   | some r=>
    obtain⟨n,hn⟩:=(Zlt F vs' H' r).1 h
    exact(Zlt F vs H r).2 ⟨n+1,by simp[ZdF,hf,hn]⟩
   | none=>
    cases h2:itW F vs H with
    | none=>rfl
    | some r=>
     obtain⟨n,hn⟩:=(Zlt F vs H r).1 h2
     cases n with
     | zero=>simp[ZdF] at hn
     | succ n=>
      simp[ZdF,hf] at hn
      rw[(Zlt F vs' H' r).2 ⟨n,hn⟩] at h
      cases h
section
variable {Γ:Ctx}
theorem Zmn (nid:Nat) (H:Zs) (f:Nat) (args:List V) (r:V×List (Nat×Blk)×List Blk) (hr:ZiW Γ (evW Γ) nid H f args=some r):∃n,ZiW Γ (evN Γ n) nid H f args=some r:=by
 unfold ZiW at hr ⊢
 split at hr
 ·cases h1:fzs H args with
  | none=>simp[h1] at hr
  | some l=>
   simp only[h1] at hr ⊢
   cases h2:evW Γ f (Zd1 l) [] with
   | none=>simp[h2] at hr
   | some p=>obtain⟨n,hn⟩:=(Zld Γ f (Zd1 l) [] p).1 h2;exact⟨n,by rw[hn];rw[h2] at hr;exact hr⟩
 ·cases h1:fzs H args with
  | none=>simp[h1] at hr
  | some l=>
   simp only[h1] at hr ⊢
   cases h2:evW Γ f (Zd1 l) [] with
   | none=>simp[h2] at hr
   | some p=>obtain⟨n,hn⟩:=(Zld Γ f (Zd1 l) [] p).1 h2;exact⟨n,by rw[hn];rw[h2] at hr;exact hr⟩
 ·cases h1:extract 0 args H with
  | none=>simp[h1] at hr
  | some q=>
   obtain⟨L,args',H0⟩:=q
   simp only[h1] at hr ⊢
   cases h2:evW Γ f args' H0 with
   | none=>simp[h2] at hr
   | some p=>obtain⟨n,hn⟩:=(Zld Γ f args' H0 p).1 h2;exact⟨n,by rw[hn];rw[h2] at hr;exact hr⟩
theorem Zv0 (e:Env) (nid:Nat) (H:Zs) (o:O) (r:V×List (Nat×Blk)×List Blk) (hr:opE Γ (evW Γ) e nid H o=some r):∃n,opE Γ (evN Γ n) e nid H o=some r:=by
 cases o<;>try exact⟨0,hr⟩
 ·exact Zmn _ _ _ _ r hr
 ·rename_i x args
  rw[Zjd] at hr
  cases h1:ZmN (x.val e) with
  | none=>simp[h1] at hr
  | some q=>
   obtain⟨f,caps⟩:=q;simp only[h1] at hr
   cases hb:ZiZ Γ (x.val e) f caps with
   | true=>rw[hb] at hr;cases hr
   | false=>
    rw[hb] at hr
    obtain⟨n,hn⟩:=Zmn _ _ _ _ r hr
    exact⟨n,by rw[Zjd];simp only[h1,hb];exact hn⟩
 ·rename_i tab x args
  rw[ZiA] at hr
  split at hr
  ·rename_i t y hx
   cases hl:ZoR tab t with
   | none=>simp[hl] at hr
   | some f=>
    simp only[hl] at hr
    obtain⟨n,hn⟩:=Zmn _ _ _ _ r hr
    exact⟨n,by rw[ZiA];simp only[hx,hl];exact hn⟩
  ·cases hr
 ·exact Zmn _ _ _ _ r hr
theorem Zq4:∀(l:List Op1) (e:Env) (H:Zs) (r:Env×Zs),Zj9 Γ (evW Γ) l e H=some r→∃n,Zj9 Γ (evN Γ n) l e H=some r
 | [],e,H,r,hr=>⟨0,hr⟩
 | o :: l,e,H,r,hr=>by
  unfold Zj9 at hr
  cases hw:Zh3 e o.guard with
  | none=>simp[hw] at hr
  | some b=>
   cases b with
   | false=>
    simp only[hw] at hr
    obtain⟨n,hn⟩:=Zq4 l _ _ r hr
    exact⟨n,by unfold Zj9;simp only[hw];exact hn⟩
   | true=>
    simp only[hw] at hr
    cases ho:opE Γ (evW Γ) e H.length H o.op with
    | none=>simp[ho] at hr
    | some q=>
     rw[ho] at hr
     obtain⟨n,hn⟩:=Zv0 _ _ _ _ q ho
     obtain⟨v,up,nw⟩:=q
     obtain⟨m,hm⟩:=Zq4 l _ _ r hr
     refine⟨max n m,?_⟩
     unfold Zj9
     simp only[hw]
     rw[ZpN (ZkI Γ n (max n m) (Nat.le_max_left _ _)) _ _ _ _ _ hn]
     exact Zn8 (ZkI Γ m (max n m) (Nat.le_max_right _ _)) l _ _ r hm
theorem Zpi:∀(l:List Op1) (pos:List (Nat×Nat)) (e:Env) (H:Zs) (r:Env×Zs),ZhG Γ (evW Γ) pos l e H=some r→∃n,ZhG Γ (evN Γ n) pos l e H=some r
 | [],pos,e,H,r,hr=>⟨0,hr⟩
 | o :: l,pos,e,H,r,hr=>by
  unfold ZhG at hr
  cases hw:Zh3 e o.guard with
  | none=>simp[hw] at hr
  | some b=>
   cases b with
   | false=>
    simp only[hw] at hr
    obtain⟨n,hn⟩:=Zpi l _ _ _ r hr
    exact⟨n,by unfold ZhG;simp only[hw];exact hn⟩
   | true=>
    simp only[hw] at hr
    cases ho:opE Γ (evW Γ) e H.length (ZiV H pos o.mask) o.op with
    | none=>simp[ho] at hr
    | some q=>
     rw[ho] at hr
     obtain⟨n,hn⟩:=Zv0 _ _ _ _ q ho
     obtain⟨v,up,nw⟩:=q
     dsimp only at hr
     cases hb:(Zr4 e H o up nw) with
     | false=>simp[hb] at hr
     | true=>
      simp only[hb,cond_true] at hr
      obtain⟨m,hm⟩:=Zpi l _ _ _ r hr
      refine⟨max n m,?_⟩
      unfold ZhG
      simp only[hw]
      rw[ZpN (ZkI Γ n (max n m) (Nat.le_max_left _ _)) _ _ _ _ _ hn]
      simp only[hb,cond_true]
      exact Zmj (ZkI Γ m (max n m) (Nat.le_max_right _ _)) l _ _ _ r hm
theorem Zxl (k:Nat):∀(c:C) (e:Env) (H:Zs) (r:Ex×Env×Zs),Zae Γ (evW Γ) itW k c e H=some r→∃n,Zae Γ (evN Γ n) (fun F=>ZdF F n) k c e H=some r:=by
 have up:∀(c:C) (e:Env) (H:Zs) (r:Ex×Env×Zs) (n m:Nat),n≤m→Zae Γ (evN Γ n) (fun F=>ZdF F n) k c e H=some r→Zae Γ (evN Γ m) (fun F=>ZdF F m) k c e H=some r:=
  fun c e H r n m h=>Zsv (ZkI Γ n m h) (fun F G hFG vs H=>Zis hFG n m h vs H) k c e H r
 intro c
 induction c with
 | skip=>intro e H r hr;exact⟨0,hr⟩
 | ret=>intro e H r hr;exact⟨0,hr⟩
 | exit id=>intro e H r hr;exact⟨0,hr⟩
 | seq a b iha ihb=>
  intro e H r hr
  unfold Zae at hr
  cases ha:Zae Γ (evW Γ) itW k a e H with
  | none=>simp[ha] at hr
  | some q=>
   rw[ha] at hr
   obtain⟨n,hn⟩:=iha e H q ha
   obtain⟨x,e1,H1⟩:=q
   cases x with
   | normal=>
    obtain⟨m,hm⟩:=ihb e1 H1 r hr
    refine⟨max n m,?_⟩
    unfold Zae
    rw[up a e H _ n _ (Nat.le_max_left _ _) hn]
    exact up b e1 H1 r m _ (Nat.le_max_right _ _) hm
   | exit id=>exact⟨n,by unfold Zae;rw[hn];exact hr⟩
   | ret=>exact⟨n,by unfold Zae;rw[hn];exact hr⟩
 | cond x a b iha ihb=>
  intro e H r hr
  unfold Zae at hr
  split at hr
  ·rename_i t ht
   cases t with
   | true=>obtain⟨n,hn⟩:=iha e H r hr;exact⟨n,by unfold Zae;simp only[ht];exact hn⟩
   | false=>obtain⟨n,hn⟩:=ihb e H r hr;exact⟨n,by unfold Zae;simp only[ht];exact hn⟩
  ·cases hr
 | block id a iha=>
  intro e H r hr
  unfold Zae at hr
  cases ha:Zae Γ (evW Γ) itW k a e H with
  | none=>simp[ha] at hr
  | some q=>rw[ha] at hr;obtain⟨n,hn⟩:=iha e H q ha;exact⟨n,by unfold Zae;rw[hn];exact hr⟩
 | loop live outs a iha=>
  intro e H r hr
  unfold Zae at hr
  cases hh:Zrz k (live.map e) H with
  | none=>simp[hh] at hr
  | some q=>
   obtain⟨vs,H1⟩:=q
   simp only[hh] at hr
   cases hit:itW (fun vs H=>ZgO k live outs (Zae Γ (evW Γ) itW k a (Zgc live vs) H)) vs H1 with
   | none=>simp[hit] at hr
   | some p=>
    rw[hit] at hr
    obtain⟨n,hn⟩:=(Zlt _ vs H1 p).1 hit
    have key:∀(n:Nat) (vs:List V) (H1:Zs) (p:Ex×List V×Zs),ZdF (fun vs H=>ZgO k live outs (Zae Γ (evW Γ) itW k a (Zgc live vs) H)) n vs H1=some p →
      ∃m,ZdF (fun vs H=>ZgO k live outs (Zae Γ (evN Γ m) (fun F=>ZdF F m) k a (Zgc live vs) H)) n vs H1=some p:=by
     intro n
     induction n with
     | zero=>intro vs H1 p h;simp[ZdF] at h
     | succ n ih=>
      intro vs H1 p h
      unfold ZdF at h
      cases hc:Zae Γ (evW Γ) itW k a (Zgc live vs) H1 with
      | none=>simp[hc,ZgO] at h
      | some q=>
       obtain⟨m1,hm1⟩:=iha _ _ q hc
       simp only[hc] at h
       cases hr2:ZgO k live outs (some q) with
       | none=>simp[hr2] at h
       | some z=>
        rw[hr2] at h
        cases z with
        | done x vs' H'=>exact⟨m1,by unfold ZdF;simp only[hm1,hr2];exact h⟩
        | again vs' H'=>
         obtain⟨m2,hm2⟩:=ih vs' H' p h
         refine⟨max m1 m2,?_⟩
         unfold ZdF
         simp only[up a _ _ q m1 _ (Nat.le_max_left m1 m2) hm1,hr2]
         exact Zis (fun vs H=>ZnP (fun q hq=>up a _ _ q m2 _ (Nat.le_max_right m1 m2) hq)) n n (Nat.le_refl _) vs' H' p hm2
    obtain⟨m,hm⟩:=key n vs H1 p hn
    refine⟨max n m,?_⟩
    unfold Zae
    simp only[hh]
    rw[Zis (fun vs H=>ZnP (fun q hq=>up a _ _ q m _ (Nat.le_max_right n m) hq)) n _ (Nat.le_max_left n m) vs H1 p hm]
    exact hr
 | ops l=>
  intro e H r hr
  unfold Zae at hr
  cases ho:Zj9 Γ (evW Γ) l e H with
  | none=>simp[ho] at hr
  | some q=>rw[ho] at hr;obtain⟨n,hn⟩:=Zq4 l e H q ho;exact⟨n,by unfold Zae;rw[hn];exact hr⟩
 | draw l=>
  intro e H r hr
  unfold Zae at hr
  cases ho:ZhG Γ (evW Γ) [] l e H with
  | none=>simp[ho] at hr
  | some q=>rw[ho] at hr;obtain⟨n,hn⟩:=Zpi l _ e H q ho;exact⟨n,by unfold Zae;rw[hn];exact hr⟩
theorem ZD9 (f:Nat) (args:List V) (H:Zs):evW Γ f args H=Znk Γ (evW Γ) itW f args H:=by
 have h1:Le (evW Γ f args H) (Znk Γ (evW Γ) itW f args H):=by
  intro r hr
  obtain⟨n,hn⟩:=(Zld Γ f args H r).1 hr
  cases n with
  | zero=>simp[evN] at hn
  | succ n=>exact ZtR (fun a b c r h=>(Zld Γ a b c r).2 ⟨n,h⟩) (fun F G h vs H r hr=>(Zlt G vs H r).2 ⟨n,Zis h n n (Nat.le_refl _) vs H r hr⟩) f args H r hn
 have h2:Le (Znk Γ (evW Γ) itW f args H) (evW Γ f args H):=by
  intro r hr
  unfold Znk at hr
  cases hc:Γ.code f with
  | none=>simp[hc] at hr
  | some fn=>
   simp only[hc] at hr
   cases hn:Nat.beq args.length fn.nargs with
   | false=>simp[hn] at hr
   | true=>
    simp only[hn,cond_true] at hr
    cases hx:Zae Γ (evW Γ) itW H.length fn.body (Zg3 0 args) H with
    | none=>simp[hx] at hr
    | some q=>
     rw[hx] at hr
     obtain⟨n,hn2⟩:=Zxl _ _ _ _ q hx
     refine(Zld Γ f args H r).2 ⟨n+1,?_⟩
     show Znk Γ (evN Γ n) (fun F=>ZdF F n) f args H=some r
     unfold Znk
     simp only[hc,hn,cond_true,hn2]
     exact hr
 cases h:evW Γ f args H with
 | some r=>exact(h1 r h).symm
 | none=>
  cases h':Znk Γ (evW Γ) itW f args H with
  | none=>rfl
  | some r=>rw[h2 r h'] at h;cases h
end
end Go.Proofs.YtnpidpcmpleiaaaGreatDoorE
namespace Go.Proofs.YtnpidpcmpleiaaaGreatDoorE
open Go
open Go.IntKind (u64 i64 u32 i32 u8)
def Zj0 (P:Program) (t:TypeId):Option Bool:=
 match P.underlying t with
 | some (.struct _)=>some true
 | some (.array _ _)=>some true
 | some _=>some false
 | none=>none
def Zix (P:Program) (t:TypeId):Option Nat:=(P.info? t).map (·.size)
theorem Zjl {P:Program}{w:World}{t:TypeId}{ag:Bool} (h:Zj0 P t=some ag):(isAgg t).run P w = .ok ag w:=by
 unfold Zj0 at h
 cases hu:P.underlying t with
 | none=>simp[hu] at h
 | some d=>
  rw[hu] at h
  have:=run_underlying (P:=P) (w:=w) hu
  simp only[isAgg,Sem.run_bind,this,Result.andThen_ok]
  cases d<;>simp_all
theorem Zgo {P:Program}{w:World}{t:TypeId}{n:Nat} (h:Zix P t=some n):(sizeOf t).run P w = .ok n w:=by
 unfold Zix at h
 cases hi:P.info? t with
 | none=>simp[hi] at h
 | some i=>
  simp only[hi,Option.map_some,Option.some.injEq] at h
  subst h
  simp[sizeOf,typeInfo,hi]
section
variable {R:RP} {w:World}
theorem Zga:∀(vs:List V) (us:List Value),Zby R w vs us→us.length=vs.length
 | [],us,h=>by simp only[Zby] at h;subst h;rfl
 | v :: vs,us,h=>by
  obtain⟨u,us',rfl,e1,e2⟩:=h
  simp[Zga vs us' e2]
theorem ZhD:∀(vs:List V) (us:List Value) (j:Nat) (v:V),Zby R w vs us→vs[j]? = some v→∃u,us[j]? = some u∧ZbZ R w v u
 | [],us,j,v,_,hj=>by simp at hj
 | y :: vs,us,0,v,h,hj=>by
  obtain⟨u,us',rfl,e1,e2⟩:=h
  simp at hj;subst hj
  exact⟨u,by simp,e1⟩
 | y :: vs,us,j+1,v,h,hj=>by
  obtain⟨u,us',rfl,e1,e2⟩:=h
  simpa using ZhD vs us' j v e2 (by simpa using hj)
theorem ZlV:∀(vs:List V) (us:List Value),us.length=vs.length→(∀(j:Nat) v u,vs[j]? = some v→us[j]? = some u→ZbZ R w v u)→Zby R w vs us
 | [],us,hl,_=>by simpa [Zby] using hl
 | y :: vs,[],hl,_=>by simp at hl
 | y :: vs,u :: us,hl,h=>⟨u,us,rfl,h 0 y u rfl rfl,ZlV vs us (by simpa using hl) fun j x v hx hv=>h (j+1) x v (by simpa using hx) (by simpa using hv)⟩
theorem Zmi:∀(l:List D),Zd1 l=l.map V.d
 | []=>rfl
 | x :: l=>by simp[Zd1,Zmi l]
theorem ZeU:∀(l:List D) (us:List Value),Zby R w (Zd1 l) us↔ZbP R.A1 R.A0 R.AL w l us
 | [],us=>Iff.rfl
 | x :: l,us=>by
  simp only[Zd1,Zby,ZbP]
  constructor
  ·rintro ⟨u,us',e,h1,h2⟩;exact⟨u,us',e,h1,(ZeU l us').1 h2⟩
  ·rintro ⟨u,us',e,h1,h2⟩;exact⟨u,us',e,h1,(ZeU l us').2 h2⟩
theorem Zn2:∀{vs:List V}{l:List D},ZnC vs=some l→vs=Zd1 l
 | [],l,h=>by simp[ZnC] at h;subst h;rfl
 | v :: vs,l,h=>by
  cases v<;>simp only[ZnC] at h<;>try (cases h;done)
  rename_i x
  cases hr:ZnC vs with
  | none=>simp[hr] at h
  | some l'=>
   simp only[hr,Option.some.injEq] at h
   subst h
   rw[Zn2 hr,Zd1]
theorem Zsu {vs:List V}{us:List Value} (h:Zby R w vs us):ZbZ R w (ZvI vs) (.agg us.toArray):=by
 unfold ZvI
 cases ha:ZnC vs with
 | none=>exact⟨us,rfl,h⟩
 | some l=>
  rw[Zn2 ha,ZeU] at h
  exact⟨us,rfl,h⟩
theorem ZBC {vs:List V}{us:List Value} (h:Zby R w vs us):ZbZ R w (Zxz vs) (.tuple us.toArray):=by
 unfold Zxz
 cases ha:ZnC vs with
 | none=>exact⟨us,rfl,h⟩
 | some l=>
  rw[Zn2 ha,ZeU] at h
  exact⟨us,rfl,h⟩
theorem Zjt {v:V}{u:Value} (h:ZbZ R w v u) (hv:v.okb=true):Zby R w v.cells u.cells.toList:=by
 cases v with
 | d x=>
  cases x with
  | agg cs=>
   obtain⟨us,rfl,h⟩:=h
   simpa [V.cells,Value.cells] using (ZeU cs us).2 h
  | tup cs=>simp[V.okb] at hv
  | bool b=>simp only[ZbZ,RP.den,Zca] at h;subst h;exact⟨_,[],rfl,by simp[ZbZ,RP.den,Zca],rfl⟩
  | int k n=>simp only[ZbZ,RP.den,Zca] at h;subst h;exact⟨_,[],rfl,by simp[ZbZ,RP.den,Zca],rfl⟩
  | str s=>simp only[ZbZ,RP.den,Zca] at h;subst h;exact⟨_,[],rfl,by simp[ZbZ,RP.den,Zca],rfl⟩
  | nilfn=>simp only[ZbZ,RP.den,Zca] at h;subst h;exact⟨_,[],rfl,by simp[ZbZ,RP.den,Zca],rfl⟩
  | nilp=>simp only[ZbZ,RP.den,Zca] at h;subst h;exact⟨_,[],rfl,by simp[ZbZ,RP.den,Zca],rfl⟩
  | nilI=>simp only[ZbZ,RP.den,Zca] at h;subst h;exact⟨_,[],rfl,by simp[ZbZ,RP.den,Zca],rfl⟩
  | list own xs=>
   have h':=h
   obtain⟨a,len,cap,rfl,_⟩:=h'
   exact⟨_,[],rfl,h,rfl⟩
  | fn f caps=>
   have h':=h
   obtain⟨us,rfl,_⟩:=h'
   exact⟨_,[],ZsP _ _,h,rfl⟩
  | rptr cs=>
   have h':=h
   obtain⟨b,off,rfl,_⟩:=h'
   exact⟨_,[],rfl,h,rfl⟩
  | iface t v=>
   have h':=h
   obtain⟨u',rfl,_⟩:=h'
   exact⟨_,[],rfl,h,rfl⟩
 | bad=>simp[V.okb] at hv
 | tup cs=>simp[V.okb] at hv
 | agg cs=>
  obtain⟨us,rfl,h⟩:=h
  simpa [V.cells,Value.cells] using h
 | nilsl sz=>
  have h':=h
  obtain⟨a,rfl⟩:=h'
  exact⟨_,[],rfl,h,rfl⟩
 | fn f caps=>
  have h':=h
  obtain⟨us,rfl,_⟩:=h'
  exact⟨_,[],ZsP _ _,h,rfl⟩
 | ptr b o=>
  have h':=h
  obtain⟨c,_,rfl⟩:=h'
  exact⟨_,[],rfl,h,rfl⟩
 | eptr b sz i k=>
  have h':=h
  obtain⟨c,_,rfl⟩:=h'
  exact⟨_,[],rfl,h,rfl⟩
 | sl b sz=>
  have h':=h
  obtain⟨⟨a,n,c,rfl⟩,_⟩:=h'
  exact⟨_,[],rfl,h,rfl⟩
 | slp b sz o l=>
  have h':=h
  obtain⟨⟨a,n,c,rfl⟩,_⟩:=h'
  exact⟨_,[],rfl,h,rfl⟩
 | mp b=>
  have h':=h
  obtain⟨⟨a,rfl⟩,_⟩:=h'
  exact⟨_,[],rfl,h,rfl⟩
end
structure Pre (G:Zcu) (R:RP) (w:World) (e:Env) (a:Act) (Hm:Zs):Prop where
 ok:R.OK w
 g:GOK G R w
 env:Zj1 R w e a
 le:∀b blk,nth Hm b=some blk→blk ≠ .dead→nth R.H b=some blk
section
variable {P:Program} {G:Zcu} {R:RP} {w:World} {e:Env} {a:Act} {Hm H':Zs} {nid:Nat} {o:Oper}
theorem Pre.opd (pre:Pre G R w e a Hm) {x:Operand}{y:Opd} (h:Zac G x y=true):ZbZ R w (y.val e) (a.eval x):=ZpB pre.g pre.env h
theorem Pre.opds (pre:Pre G R w e a Hm) {xs:List Operand}{ys:List Opd} (h:ZgH G xs ys=true):Zby R w (Zhl e ys) (xs.map a.eval):=Zud pre.g pre.env h
theorem Zc0 {s:Sem Value}{u:Value}{w':World}{Po:Value→World→Prop} (hx:execOp a.eval o=(do pure (Next.value (← s)))) (hr:s.run P w = .ok u w') (hp:Po u w'):ZeO P o a w Po:=
 .val (by rw[hx];simp[hr]) hp
theorem ZDc (pre:Pre G R w e a Hm) {x:Operand}{y:Opd} (hop:o.op = .move x∨o.op = .assign x) (hx:Zac G x y=true) (hp:Za4 R.H [] nid [] H') :
  ZeO P o a w (ZaA R w nid 0 H' (y.val e)):=by
 refine .val (u:=a.eval x) (w':=w) ?_ (ZaA.stay pre.ok hp (pre.opd hx))
 rcases hop with h | h<;>(unfold execOp;rw[h];rfl)
theorem ZEY (pre:Pre G R w e a Hm) {c x y:Operand}{c' x' y':Opd}{t:Bool} (hop:o.op = .pick c x y) (hc:Zac G c c'=true) (hx:Zac G x x'=true) (hy:Zac G y y'=true)
  (ht:c'.val e = .d (.bool t)) (hp:Za4 R.H [] nid [] H'):ZeO P o a w (ZaA R w nid 0 H' (bif t then x'.val e else y'.val e)):=by
 have hcv:=pre.opd hc
 rw[ht] at hcv
 simp only[ZbZ,RP.den,Zca] at hcv
 refine .val (u:=if t=true then a.eval x else a.eval y) (w':=w) ?_ (ZaA.stay pre.ok hp ?_)
 ·unfold execOp;rw[hop];simp[hcv,asBool]
 ·cases t
  ·exact pre.opd hy
  ·exact pre.opd hx
theorem ZrA {t:TypeId}{x:Addr}{u:Value} (h:Zj0 P t=some false) (hc:w.cell? x=some u):(loadVar t x).run P w = .ok u w:=by
 unfold loadVar
 simp only[Sem.run_bind,Zjl h,Result.andThen_ok,Bool.false_eq_true,if_false,run_load,hc]
theorem ZrD {t:TypeId}{x:Addr}{us:List Value} (h:Zj0 P t=some true) (hs:Zix P t=some us.length) (hc:∀(j:Nat) v,us[j]? = some v→w.cell? (x.add j)=some v) :
  (loadVar t x).run P w = .ok (.agg us.toArray) w:=by
 unfold loadVar
 simp only[Sem.run_bind,Zjl h,Zgo hs,Result.andThen_ok,if_true,run_loadCells_list w x us hc,Sem.run_pure]
theorem ZmL {n:Nat}{ag:Bool}{cs:List V}{v:V}{t:TypeId}{b off:Nat} (hc:∀(j:Nat) v,cs[j]? = some v→∃u,w.cell? ⟨b,off+j,none⟩=some u∧ZbZ R w v u)
  (hag:Zj0 P t=some ag) (hsz:Zix P t=some n) (h:Zg2 n ag cs=some v):∃u,(loadVar t ⟨b,off,none⟩).run P w = .ok u w∧ZbZ R w v u:=by
 unfold Zg2 at h
 cases ag with
 | false=>
  simp only[cond_false] at h
  obtain⟨u,h1,h2⟩:=hc 0 v (by rw[← List.head?_eq_getElem?];exact h)
  exact⟨u,ZrA hag (by simpa using h1),h2⟩
 | true=>
  simp only[cond_true] at h
  cases hl:Nat.beq (cs.take n).length n with
  | false=>rw[hl] at h;cases h
  | true=>
   rw[hl] at h
   simp only[cond_true,Option.some.injEq] at h
   subst h
   have hl':(cs.take n).length=n:=Nat.eq_of_beq_eq_true hl
   let us:List Value:=(List.range n).map fun j=>(w.cell? ⟨b,off+j,none⟩).getD undef
   have hus:us.length=n:=by simp[us]
   have key:∀(j:Nat) v,(cs.take n)[j]? = some v→∃u,us[j]? = some u∧w.cell? ⟨b,off+j,none⟩=some u∧ZbZ R w v u:=by
    intro j v hj
    have hjn:j<n:=by have:=(List.getElem?_eq_some_iff.1 hj).1;omega
    obtain⟨u,h1,h2⟩:=hc j v (by rw[List.getElem?_take] at hj;simpa [hjn] using hj)
    exact⟨u,by simp[us,hjn,h1],h1,h2⟩
   refine⟨.agg us.toArray,ZrD hag (by rw[hus];exact hsz) ?_,Zsu (ZlV _ _ (by omega) ?_)⟩
   ·intro j v hv
    have hjn:j<n:=by have:=(List.getElem?_eq_some_iff.1 hv).1;omega
    obtain⟨v0,hv0⟩:∃v0,(cs.take n)[j]? = some v0:=⟨_,List.getElem?_eq_getElem (by omega)⟩
    obtain⟨u,f1,f2,_⟩:=key j v0 hv0
    rw[hv] at f1;cases f1
    rw[Addr.add_lit];exact f2
   ·intro j v u hv hu
    obtain⟨u',f1,_,f3⟩:=key j v hv
    rw[hu] at f1;cases f1;exact f3
theorem ZdP {b off:Nat}{cs:Array Value}{el:TypeId}{fr:Nat×Nat} (h:w.heap[b]? = some (.cells cs el fr)):w.cell? ⟨b,off,none⟩=cs[off]?:=by
 simp[World.cell?,h]
theorem ZxU (pre:Pre G R w e a Hm) {n:Nat}{ag:Bool}{t:TypeId}{x v:V}{u0:Value} (hag:Zj0 P t=some ag) (hsz:Zix P t=some n) (hx:ZbZ R w x u0) (h:Ze7 Hm n ag x=some v) :
  ∃u,(Instr.loadAt t u0).run P w = .ok u w∧ZbZ R w v u:=by
 unfold Ze7 at h
 cases x with
 | ptr b o=>
  dsimp only at h
  cases hb:nth Hm b with
  | none=>simp[hb] at h
  | some blk=>
   rw[hb] at h
   cases blk<;>try (cases h;done)
   rename_i cs
   have hb':=pre.le b _ hb (by simp)
   obtain⟨c,h1,rfl⟩:=hx
   rw[Zaw] at hb'
   obtain⟨c',cs',el,fr,e1,e2,e3,e4,e5⟩:=pre.ok.blk b _ _ hb' h1
   cases e1
   obtain⟨u,f1,f2⟩:=ZmL (P:=P) (cs:=cs.drop o) (b:=c) (off:=o) (by
    intro j v hj
    obtain⟨u,g1,g2⟩:=e5 (o+j) v (by simpa using hj)
    exact⟨u,by rw[ZdP e2];exact g1,g2⟩) hag hsz h
   exact⟨u,by simpa [Instr.loadAt,Instr.sureAddr] using f1,f2⟩
 | eptr b sz i k=>
  dsimp only at h
  cases hb:nth Hm b with
  | none=>simp[hb] at h
  | some blk=>
   rw[hb] at h
   cases blk<;>try (cases h;done)
   rename_i sz' xs
   dsimp only at h
   cases hs:Nat.beq sz sz' with
   | false=>simp[hs] at h
   | true=>
    obtain rfl:=Nat.eq_of_beq_eq_true hs
    simp only[hs,cond_true] at h
    cases hxi:nth xs i with
    | none=>simp[hxi] at h
    | some y=>
     simp only[hxi] at h
     have hb':=pre.le b _ hb (by simp)
     obtain⟨c,h1,rfl⟩:=hx
     rw[Zaw] at hb' hxi
     obtain⟨e0,e1,e2⟩:=pre.ok.blk b _ _ hb' h1
     rcases e2 with⟨e2,_⟩ | ⟨c',cs,el,e2,e3,e4,e5⟩
     ·cases e2
     ·cases e2
      obtain⟨uy,f1,f2,f3⟩:=e5 i y hxi
      have hyb:(V.d y).okb=true∨∃ts,y = .tup ts:=by cases y<;>simp[V.okb]
      rcases hyb with hyb | ⟨ts,rfl⟩
      ·have hcs:=Zjt (R:=R) (v:=.d y) f1 hyb
       have hVc:(V.d y).cells=Zd1 y.cells:=by cases y<;>rfl
       rw[hVc] at hcs
       obtain⟨u,g1,g2⟩:=ZmL (P:=P) (cs:=Zd1 (y.cells.drop k)) (b:=c) (off:=i*sz+k) (by
        intro j v hj
        have hj':(Zd1 y.cells)[k+j]? = some v:=by
         rw[Zmi,List.getElem?_map] at hj ⊢
         simpa using hj
        obtain⟨u,p1,p2⟩:=ZhD _ _ _ _ hcs hj'
        refine⟨u,?_,p2⟩
        rw[ZdP e3,Nat.add_assoc]
        exact f3 (k+j) u (by simpa using p1)) hag hsz h
       exact⟨u,by simpa [Instr.loadAt,Instr.sureAddr] using g1,g2⟩
      ·have f1':=f1
       obtain⟨us,rfl,_⟩:=f1'
       obtain⟨u,g1,g2⟩:=ZmL (P:=P) (cs:=Zd1 (D.cells (.tup ts) |>.drop k)) (b:=c) (off:=i*sz+k) (by
        intro j v hj
        cases k with
        | zero=>
         cases j with
         | zero=>
          simp[D.cells,Zd1] at hj
          subst hj
          refine⟨.tuple us.toArray,?_,f1⟩
          rw[ZdP e3]
          have:=f3 0 (.tuple us.toArray) rfl
          simpa using this
         | succ j=>simp[D.cells,Zd1] at hj
        | succ k=>simp[D.cells,Zd1] at hj) hag hsz h
       exact⟨u,by simpa [Instr.loadAt,Instr.sureAddr] using g1,g2⟩
 | d y=>
  cases y<;>try (cases h;done)
  rename_i cs
  dsimp only at h
  obtain⟨b,off,rfl,h1,h2,h3⟩:=hx
  obtain⟨u,g1,g2⟩:=ZmL (P:=P) (cs:=Zd1 cs) (b:=b) (off:=off) (by
   intro j v hj
   rw[Zmi,List.getElem?_map] at hj
   cases hcj:cs[j]? with
   | none=>simp[hcj] at hj
   | some x=>
    simp[hcj] at hj
    subst hj
    obtain⟨u,p1,p2⟩:=Znu cs off j x h3 hcj
    exact⟨u,p1,p2⟩) hag hsz h
  exact⟨u,by simpa [Instr.loadAt,Instr.sureAddr] using g1,g2⟩
 | bad=>cases h
 | sl b sz=>cases h
 | slp b sz o l=>cases h
 | nilsl sz=>cases h
 | agg cs=>cases h
 | tup cs=>cases h
 | fn f cs=>cases h
 | mp b=>cases h
theorem ZDG (pre:Pre G R w e a Hm) {n:Nat}{ag:Bool}{t:TypeId}{x:Operand}{y:Opd}{v:V} (hop:o.op = .load t x) (hx:Zac G x y=true) (hag:Zj0 P t=some ag) (hsz:Zix P t=some n)
  (h:Ze7 Hm n ag (y.val e)=some v) (hp:Za4 R.H [] nid [] H'):ZeO P o a w (ZaA R w nid 0 H' v):=by
 obtain⟨u,h1,h2⟩:=ZxU pre hag hsz (pre.opd hx) h
 exact Zc0 (s:=Instr.loadAt t (a.eval x)) (by unfold execOp;rw[hop]) h1 (ZaA.stay pre.ok hp h2)
def Zmw (P:Program) (s:TypeId) (f:Nat):Option (Nat×TypeId):=
 match P.underlying s with
 | some (.struct fields)=>(fields[f]?).map fun x=>(x.offset,x.type)
 | _=>none
theorem Zp6 {s:TypeId}{f off:Nat}{t:TypeId} (h:Zmw P s f=some (off,t)):∃fields fd,P.underlying s=some (.struct fields)∧fields[f]? = some fd∧fd.offset=off∧fd.type=t:=by
 unfold Zmw at h
 split at h
 ·rename_i fields hu
  cases hf:fields[f]? with
  | none=>simp[hf] at h
  | some fd=>
   simp only[hf,Option.map_some,Option.some.injEq,Prod.mk.injEq] at h
   exact⟨fields,fd,hu,hf,h.1,h.2⟩
 ·cases h
theorem ZvU {s:TypeId}{f off n:Nat}{t:TypeId}{x:Addr} (h:Zmw P s f=some (off,t)) (hn:Zix P t=some n) (h0:n≠0) :
  (Instr.fieldAt s (.pointer (some x)) f).run P w = .ok (.pointer (some (x.add off))) w:=by
 obtain⟨fields,fd,h1,h2,rfl,rfl⟩:=Zp6 h
 simp[Instr.fieldAt,run_underlying h1,h2,Instr.sureAddr,fieldPlace,Zgo hn,h0]
theorem ZvK (pre:Pre G R w e a Hm) {off:Nat}{x v:V}{u0:Value} (hx:ZbZ R w x u0) (h:Zmz Hm off x=some v):∃ad,u0 = .pointer (some ad)∧ZbZ R w v (.pointer (some (ad.add off))):=by
 unfold Zmz at h
 cases x<;>try (cases h;done)
 ·rename_i y
  cases y<;>try (cases h;done)
  rename_i cs
  simp only[Option.some.injEq] at h
  subst h
  obtain⟨b,of,rfl,h1,h2,h3⟩:=hx
  exact⟨_,rfl,b,of+off,by rw[Addr.add_lit],h1,h2,Ztq cs of off h3⟩
 ·rename_i b o
  simp only[Option.some.injEq] at h
  subst h
  obtain⟨c,h1,rfl⟩:=hx
  exact⟨_,rfl,c,h1,by rw[Addr.add_lit]⟩
 ·rename_i b sz i k
  simp only[Option.some.injEq] at h
  subst h
  obtain⟨c,h1,rfl⟩:=hx
  exact⟨_,rfl,c,h1,by rw[Addr.add_lit,Nat.add_assoc]⟩
theorem ZCQ (pre:Pre G R w e a Hm) {s t:TypeId}{f off n:Nat}{x:Operand}{y:Opd}{v:V} (hop:o.op = .fieldAddr s x f) (hx:Zac G x y=true) (hf:Zmw P s f=some (off,t)) (hn:Zix P t=some n) (h0:n≠0)
  (h:Zmz Hm off (y.val e)=some v) (hp:Za4 R.H [] nid [] H'):ZeO P o a w (ZaA R w nid 0 H' v):=by
 obtain⟨ad,h1,h2⟩:=ZvK pre (pre.opd hx) h
 exact Zc0 (s:=Instr.fieldAt s (a.eval x) f) (by unfold execOp;rw[hop]) (by rw[h1];exact ZvU hf hn h0) (ZaA.stay pre.ok hp h2)
theorem ZmE {k:IntKind}{n:Int}{u:Value} (h:ZbZ R w (.d (.int k n)) u):u = .int k n:=h
theorem ZvT {b:Bool}{u:Value} (h:ZbZ R w (.d (.bool b)) u):u = .bool b:=h
theorem ZCP {op:BinOp}{x y:V}{r:D}{u1 u2:Value} (t:TypeId) (ox oy:Operand) (hx:ZbZ R w x u1) (hy:ZbZ R w y u2) (h:Zq5 op x y=some r) :
  ∃u,((do eqGuard op t ox oy u1 u2;binOp op t u1 u2:Sem Value)).run P w = .ok u w∧R.den w r u:=by
 unfold Zq5 at h
 split at h
 ·rename_i i a1 j b1
  cases ZmE hx;cases ZmE hy
  unfold shI at h
  cases hb:decide (b1<0) with
  | true=>simp[hb] at h
  | false=>
   simp only[hb,cond_false,Option.some.injEq] at h
   subst h
   have hb':¬b1<0:=of_decide_eq_false hb
   refine⟨_,?_,rfl⟩
   simp[eqGuard,binOp,Op.shift,hb']
 ·rename_i i a1 j b1
  cases ZmE hx;cases ZmE hy
  unfold shI at h
  cases hb:decide (b1<0) with
  | true=>simp[hb] at h
  | false=>
   simp only[hb,cond_false,Option.some.injEq] at h
   subst h
   have hb':¬b1<0:=of_decide_eq_false hb
   refine⟨_,?_,rfl⟩
   simp[eqGuard,binOp,Op.shift,hb']
 ·rename_i op' i a1 j b1 hn1 hn2
  cases ZmE hx;cases ZmE hy
  cases hk:i==j with
  | false=>simp[hk] at h
  | true=>
   obtain rfl:i=j:=by simpa using hk
   simp only[hk,cond_true] at h
   cases op<;>simp only[ZCI,Option.some.injEq] at h
   case shl=>exact(hn1 rfl).elim
   case shr=>exact(hn2 rfl).elim
   case andNot=>cases h
   case quo=>
    cases hb:b1==0 with
    | true=>simp[hb] at h
    | false=>
     simp only[hb,cond_false,Option.some.injEq] at h
     subst h
     exact⟨_,by simp[eqGuard,binOp,Op.intDiv,show ¬b1=0 by simpa using hb],rfl⟩
   case rem=>
    cases hb:b1==0 with
    | true=>simp[hb] at h
    | false=>
     simp only[hb,cond_false,Option.some.injEq] at h
     subst h
     exact⟨_,by simp[eqGuard,binOp,Op.intDiv,show ¬b1=0 by simpa using hb],rfl⟩
   all_goals (subst h;exact⟨_,by simp[eqGuard,binOp,Op.intArith,Op.intBits,Op.intCmp],rfl⟩)
 ·cases h
theorem ZFv (pre:Pre G R w e a Hm) {op:BinOp}{t t':TypeId}{x y:Operand}{x' y':Opd}{r:D} (hop:o.op = .binOp op t x y t') (hx:Zac G x x'=true) (hy:Zac G y y'=true)
  (h:Zq5 op (x'.val e) (y'.val e)=some r) (hp:Za4 R.H [] nid [] H'):ZeO P o a w (ZaA R w nid 0 H' (.d r)):=by
 obtain⟨u,h1,h2⟩:=ZCP (P:=P) t x y (pre.opd hx) (pre.opd hy) h
 exact Zc0 (s:=do eqGuard op t x y (a.eval x) (a.eval y);binOp op t (a.eval x) (a.eval y)) (by unfold execOp;rw[hop]) h1 (ZaA.stay pre.ok hp h2)
theorem ZIO (pre:Pre G R w e a Hm) {op:UnOp}{t:TypeId}{x:Operand}{x':Opd}{r:D} (hop:o.op = .unOp op t x) (hx:Zac G x x'=true)
  (h:unE op (x'.val e)=some r) (hp:Za4 R.H [] nid [] H'):ZeO P o a w (ZaA R w nid 0 H' (.d r)):=by
 have hv:=pre.opd hx
 unfold unE at h
 split at h
 ·rename_i b hb
  rw[hb] at hv
  simp only[Option.some.injEq] at h
  subst h
  exact Zc0 (s:=Op.unary .not (a.eval x)) (u:=.bool !b) (by unfold execOp;rw[hop]) (by rw[ZvT hv];rfl) (ZaA.stay pre.ok hp rfl)
 ·rename_i k n hb
  rw[hb] at hv
  simp only[Option.some.injEq] at h
  subst h
  exact Zc0 (s:=Op.unary .neg (a.eval x)) (u:=.int k (k.wrap (0-n))) (by unfold execOp;rw[hop]) (by rw[ZmE hv];rfl) (ZaA.stay pre.ok hp rfl)
 ·cases h
theorem ZEg (pre:Pre G R w e a Hm) {s t:TypeId}{k k0:IntKind}{n:Int}{ds:TypeDesc}{x:Operand}{x':Opd} (hop:o.op = .convert s t x) (hx:Zac G x x'=true) (hs:P.underlying s=some ds) (ht:P.underlying t=some (.int k))
  (h:x'.val e = .d (.int k0 n)) (hp:Za4 R.H [] nid [] H'):ZeO P o a w (ZaA R w nid 0 H' (.d (.int k (k.wrap n)))):=by
 have hv:=pre.opd hx
 rw[h] at hv
 refine Zc0 (s:=convert s t (a.eval x)) (u:=.int k (k.wrap n)) (by unfold execOp;rw[hop]) ?_ (ZaA.stay pre.ok hp rfl)
 rw[ZmE hv]
 simp[convert,run_underlying hs,run_underlying ht,Conv.intToInt]
theorem Zui (pre:Pre G R w e a Hm) {x:Operand}{x':Opd}{i:Nat}{v:V} (hop:o.op = .extract x i) (hx:Zac G x x'=true)
  (h:(∃vs,x'.val e = .tup vs∧nth vs i=some v)∨(∃vs y,x'.val e = .d (.tup vs)∧nth vs i=some y∧v = .d y)) (hp:Za4 R.H [] nid [] H'):ZeO P o a w (ZaA R w nid 0 H' v):=by
 have hv:=pre.opd hx
 rcases h with⟨vs,h1,h2⟩ | ⟨vs,y,h1,h2,rfl⟩
 ·rw[h1] at hv
  obtain⟨us,h3,h4⟩:=hv
  rw[Zaw] at h2
  obtain⟨u,h5,h6⟩:=ZhD vs us i v h4 h2
  exact Zc0 (s:=Instr.extract (a.eval x) i) (u:=u) (by unfold execOp;rw[hop]) (by rw[h3];simp[Instr.extract,h5]) (ZaA.stay pre.ok hp h6)
 ·rw[h1] at hv
  obtain⟨us,h3,h4⟩:=hv
  rw[Zaw] at h2
  obtain⟨u,h5,h6⟩:=Zjs vs us i y h4 h2
  exact Zc0 (s:=Instr.extract (a.eval x) i) (u:=u) (by unfold execOp;rw[hop]) (by rw[h3];simp[Instr.extract,h5]) (ZaA.stay pre.ok hp h6)
theorem ZEz (pre:Pre G R w e a Hm) {f:Nat}{first caps:Array Operand}{ys:List Opd} (hop:o.op = .makeFunc (.func f) first caps) (hlt:isU f=true) (hf:first = #[]) (hx:ZgH G caps.toList ys=true) (hp:Za4 R.H [] nid [] H') :
  ZeO P o a w (ZaA R w nid 0 H' (match ys with | []=>.d (.fn f []) | ys=>.fn f (Zhl e ys))):=by
 subst hf
 have hv:=pre.opds hx
 refine Zc0 (s:=Instr.makeFunc (.func f) (#[].map a.eval) (caps.map a.eval)) (u:=.func (.func f) #[] (caps.toList.map a.eval).toArray) (by unfold execOp;rw[hop]) (by
  have hc:caps.map a.eval=(caps.toList.map a.eval).toArray:=by apply Array.ext';simp
  rw[hc];simp[Instr.makeFunc]) (ZaA.stay pre.ok hp ?_)
 cases ys with
 | nil=>
  simp only[Zhl,Zby] at hv
  exact⟨[],by rw[ZrN hlt];simp[hv],rfl⟩
 | cons y ys=>exact⟨_,(ZrN hlt _).symm,hv⟩
theorem ZCK (pre:Pre G R w e a Hm) {f:Nat}{first caps:Array Operand}{y:Opd}{ys:List Opd} (hop:o.op = .makeFunc (.func f) first caps) (hf:caps = #[]) (hx:ZgH G first.toList (y :: ys)=true) (hp:Za4 R.H [] nid [] H') :
  ZeO P o a w (ZaA R w nid 0 H' (.fn (1000000+f) (Zhl e (y :: ys)))):=by
 subst hf
 have hv:=pre.opds hx
 refine Zc0 (s:=Instr.makeFunc (.func f) (first.map a.eval) (#[].map a.eval)) (u:=.func (.func f) (first.toList.map a.eval).toArray #[]) (by unfold execOp;rw[hop]) (by
  have hc:first.map a.eval=(first.toList.map a.eval).toArray:=by apply Array.ext';simp
  rw[hc];simp[Instr.makeFunc]) (ZaA.stay pre.ok hp ?_)
 refine⟨_,?_,hv⟩
 unfold Zl1
 have h1:isU (1000000+f)=false:=by
  cases h:isU (1000000+f) with
  | false=>rfl
  | true=>exact absurd (Nat.le_of_ble_eq_true (show Nat.ble (1000000+f+1) 1000000=true from h)) (by omega)
 have h2:unB (1000000+f)=f:=Nat.add_sub_cancel_left 1000000 f
 rw[h1,h2]
 rfl
end
end Go.Proofs.YtnpidpcmpleiaaaGreatDoorE
namespace Go.Proofs.YtnpidpcmpleiaaaGreatDoorE
open Go
open Go.IntKind (u64 i64 u32 i32 u8)
section
variable {P:Program} {G:Zcu} {R:RP} {w:World} {e:Env} {a:Act} {Hm H':Zs} {nid:Nat} {o:Oper}
theorem ZuW {n:Nat}{ag:Bool}{cs:List V}{us:List Value}{v:V}{t:TypeId}{off:Nat} (hd:Zby R w cs us) (hag:Zj0 P t=some ag) (hsz:Zix P t=some n) (h:Zg2 n ag (cs.drop off)=some v) :
  ∃u,(part t us.toArray off).run P w = .ok u w∧ZbZ R w v u:=by
 unfold Zg2 at h
 cases ag with
 | false=>
  simp only[cond_false] at h
  rw[List.head?_eq_getElem?,List.getElem?_drop] at h
  obtain⟨u,h1,h2⟩:=ZhD cs us _ v hd h
  refine⟨u,?_,h2⟩
  simp only[Nat.add_zero] at h1
  simp[part,Zjl hag,h1]
 | true=>
  simp only[cond_true] at h
  cases hl:Nat.beq ((cs.drop off).take n).length n with
  | false=>rw[hl] at h;cases h
  | true=>
   rw[hl] at h
   simp only[cond_true,Option.some.injEq] at h
   subst h
   have hl':((cs.drop off).take n).length=n:=Nat.eq_of_beq_eq_true hl
   refine⟨.agg (((us.drop off).take n).toArray),?_,Zsu (ZlV _ _ ?_ ?_)⟩
   ·simp[part,Zjl hag,Zgo hsz,List.drop_take]
   ·have:=Zga cs us hd
    simp only[List.length_take,List.length_drop] at hl' ⊢
    omega
   ·intro j v u hv hu
    have hj:j<n:=by have:=(List.getElem?_eq_some_iff.1 hv).1;omega
    rw[List.getElem?_take,if_pos hj,List.getElem?_drop] at hv hu
    obtain⟨u',g1,g2⟩:=ZhD cs us _ v hd hv
    rw[hu] at g1;cases g1;exact g2
theorem Zxq (pre:Pre G R w e a Hm) {s t:TypeId}{f off n:Nat}{ag:Bool}{x:Operand}{y:Opd}{v:V} (hop:o.op = .field s x f) (hx:Zac G x y=true) (hf:Zmw P s f=some (off,t)) (hag:Zj0 P t=some ag) (hsz:Zix P t=some n)
  (h:(∃cs,y.val e = .d (.agg cs)∧Zg2 n ag (Zd1 (cs.drop off))=some v)∨(∃cs,y.val e = .agg cs∧Zg2 n ag (cs.drop off)=some v)) (hp:Za4 R.H [] nid [] H'):ZeO P o a w (ZaA R w nid 0 H' v):=by
 obtain⟨fields,fd,h1,h2,rfl,rfl⟩:=Zp6 hf
 have hv:=pre.opd hx
 have key:∃us:List Value,a.eval x = .agg us.toArray∧∃u,(part fd.type us.toArray fd.offset).run P w = .ok u w∧ZbZ R w v u:=by
  rcases h with⟨cs,h3,h4⟩ | ⟨cs,h3,h4⟩
  ·rw[h3] at hv
   obtain⟨us,h5,h6⟩:=hv
   refine⟨us,h5,ZuW (cs:=Zd1 cs) ((ZeU cs us).2 h6) hag hsz ?_⟩
   rw[Zmi] at h4 ⊢
   rw[← List.map_drop];exact h4
  ·rw[h3] at hv
   obtain⟨us,h5,h6⟩:=hv
   exact⟨us,h5,ZuW h6 hag hsz h4⟩
 obtain⟨us,h5,u,h6,h7⟩:=key
 exact Zc0 (s:=Instr.field s (a.eval x) f) (by unfold execOp;rw[hop]) (by rw[h5];simp[Instr.field,run_underlying h1,h2,asAgg,h6]) (ZaA.stay pre.ok hp h7)
def ZtY (P:Program) (t:TypeId):Option (Nat×TypeId):=match P.underlying t with | some (.array n e)=>some (n,e) | _=>none
theorem Ztd {t el:TypeId}{n:Nat} (h:ZtY P t=some (n,el)):P.underlying t=some (.array n el):=by
 unfold ZtY at h;split at h<;>simp_all
def ZrE (P:Program) (t:TypeId):Option TypeId:=match P.underlying t with | some (.slice e)=>some e | _=>none
theorem Zn0 {t el:TypeId} (h:ZrE P t=some el):P.underlying t=some (.slice el):=by
 unfold ZrE at h;split at h<;>simp_all
theorem ZB3 (pre:Pre G R w e a Hm) {t el:TypeId}{len n:Nat}{ag:Bool}{x i:Operand}{y j:Opd}{v:V} (hop:o.op = .index t x i) (hx:Zac G x y=true) (hi:Zac G i j=true) (ht:ZtY P t=some (len,el)) (hag:Zj0 P el=some ag) (hsz:Zix P el=some n)
  (h:Zpy len n ag (y.val e) (j.val e)=some v) (hp:Za4 R.H [] nid [] H'):ZeO P o a w (ZaA R w nid 0 H' v):=by
 have hv:=pre.opd hx
 have hiv:=pre.opd hi
 unfold Zpy at h
 split at h
 ·rename_i k m hj
  rw[hj] at hiv
  cases hc:((y.val e).isAggV&&(decide (0≤m)&&decide (m<len))) with
  | false=>rw[hc] at h;cases h
  | true=>
   rw[hc] at h
   simp only[cond_true] at h
   simp only[Bool.and_eq_true,decide_eq_true_eq] at hc
   obtain⟨hav,hc⟩:=hc
   have hagg:(∃cs,y.val e = .d (.agg cs))∨∃cs,y.val e = .agg cs:=by
    unfold V.isAggV at hav
    split at hav
    ·rename_i cs hv';exact .inl ⟨cs,hv'⟩
    ·rename_i cs hv';exact .inr ⟨cs,hv'⟩
    ·cases hav
   have hb:(y.val e).okb=true:=by rcases hagg with⟨cs,h3⟩ | ⟨cs,h3⟩<;>rw[h3]<;>rfl
   have hcs:=Zjt hv hb
   have hag':∃us,a.eval x = .agg us:=by
    rcases hagg with⟨cs,h3⟩ | ⟨cs,h3⟩<;>(rw[h3] at hv;obtain⟨us,h5,_⟩:=hv;exact⟨_,h5⟩)
   obtain⟨us,hus⟩:=hag'
   rw[hus] at hcs
   obtain⟨u,h1,h2⟩:=ZuW (P:=P) hcs hag hsz h
   refine Zc0 (s:=Instr.index t (a.eval x) (a.eval i)) (u:=u) (by unfold execOp;rw[hop]) ?_ (ZaA.stay pre.ok hp h2)
   rw[hus,ZmE hiv]
   simp only[Value.cells,Array.toArray_toList] at h1
   simp[Instr.index,asIntOf,run_underlying (Ztd ht),hc,Zgo hsz,h1]
 ·cases h
theorem ZBJ (pre:Pre G R w e a Hm) {t:TypeId}{x i:Operand}{y j:Opd}{v:V} (hop:o.op = .index t x i) (hx:Zac G x y=true) (hi:Zac G i j=true) (ht:P.underlying t=some .string)
  (h:ZmC (y.val e) (j.val e)=some v) (hp:Za4 R.H [] nid [] H'):ZeO P o a w (ZaA R w nid 0 H' v):=by
 have hv:=pre.opd hx
 have hiv:=pre.opd hi
 unfold ZmC at h
 split at h
 ·rename_i s k m hy hj
  rw[hj] at hiv
  rw[hy] at hv
  cases hc:decide (0≤m) with
  | false=>rw[hc] at h;cases h
  | true=>
   rw[hc] at h
   simp only[cond_true] at h
   have h0:0≤m:=of_decide_eq_true hc
   cases hs:s[m.toNat]? with
   | none=>rw[hs] at h;cases h
   | some b=>
    rw[hs] at h
    simp only[Option.some.injEq] at h
    subst h
    refine Zc0 (s:=Instr.index t (a.eval x) (a.eval i)) (u:=.int .u8 b.toNat) (by unfold execOp;rw[hop]) ?_ (ZaA.stay pre.ok hp rfl)
    rw[ZmE hiv,show a.eval x = .string s from hv]
    simp[Instr.index,asIntOf,run_underlying ht,h0,hs]
 ·cases h
theorem Zhi {m:Option Nat}{xs:List D}{sz of len:Nat}{u:Value} (h:ZuE w m xs sz of len u) (h0:0<len∨of<xs.length) :
  ∃c cs el fr cap,m=some c∧u = .slice (some ⟨c,of*sz,none⟩) len cap∧len≤cap∧w.heap[c]? = some (.cells cs el fr)∧cs.size=(of+cap)*sz:=by
 obtain⟨h1,ad,cap,rfl,h3,h4⟩:=h
 rcases h4 with⟨rfl,h4⟩ | ⟨c,cs,el,fr,rfl,rfl,h6,h7⟩
 ·exfalso;omega
 ·exact⟨c,cs,el,fr,cap,rfl,rfl,h3,h6,h7⟩
theorem Zvu {t el:TypeId}{n:Nat}{ad:Addr}{len cap:Nat}{k:IntKind}{i:Int} (ht:ZrE P t=some el) (hsz:Zix P el=some n) (h0:0≤i) (h1:i<len) :
  (Instr.indexAt t (.slice (some ad) len cap) (.int k i)).run P w = .ok (.pointer (some (ad.add (i.toNat*n)))) w:=by
 simp[Instr.indexAt,asIntOf,run_underlying (Zn0 ht),Zgo hsz,h0,h1]
theorem ZBQ {A1 A0 AL:Nat→Prop}{b off:Nat}{x:D}{u:Value} (hu:Zca A1 A0 AL w x u) (hb:(V.d x).okb=true) (hc:∀(k:Nat) v,u.cells[k]? = some v→w.cell? ⟨b,off+k,none⟩=some v) :
  u.cells.size=x.cells.length∧ZdZ A1 A0 AL w b off x.cells:=by
 have one:∀{x:D} {u:Value},Zca A1 A0 AL w x u→u.cells = #[u]→x.cells=[x]→(∀(k:Nat) v,u.cells[k]? = some v→w.cell? ⟨b,off+k,none⟩=some v)→u.cells.size=x.cells.length∧ZdZ A1 A0 AL w b off x.cells:=by
  intro x u h1 h2 h3 h4
  have h5:=h4 0 u (by rw[h2];rfl)
  rw[h2,h3]
  exact⟨rfl,⟨u,by simpa using h5,h1⟩,trivial⟩
 cases x with
 | agg cs=>
  obtain⟨us,rfl,h⟩:=hu
  refine⟨by simpa [Value.cells,D.cells] using Ztr cs us h,ZjQ _ _ fun j y hj=>?_⟩
  obtain⟨u,h1,h2⟩:=Zjs cs us j y h hj
  exact⟨u,hc j u (by simpa [Value.cells] using h1),h2⟩
 | tup cs=>simp[V.okb] at hb
 | bool b=>cases hu;exact one (x:=.bool b) rfl rfl rfl hc
 | int k n=>cases hu;exact one (x:=.int k n) rfl rfl rfl hc
 | str s=>cases hu;exact one (x:=.str s) rfl rfl rfl hc
 | nilfn=>cases hu;exact one (x:=.nilfn) rfl rfl rfl hc
 | nilp=>cases hu;exact one (x:=.nilp) rfl rfl rfl hc
 | nilI=>cases hu;exact one (x:=.nilI) rfl rfl rfl hc
 | list own xs=>
  have hu':=hu
  obtain⟨ad,len,cap,rfl,_⟩:=hu'
  exact one hu rfl rfl hc
 | fn f caps=>
  have hu':=hu
  obtain⟨us,rfl,_⟩:=hu'
  exact one hu (ZvC _ _) rfl hc
 | rptr cs=>
  have hu':=hu
  obtain⟨b',off',rfl,_⟩:=hu'
  exact one hu rfl rfl hc
 | iface t v=>
  have hu':=hu
  obtain⟨u',rfl,_⟩:=hu'
  exact one hu rfl rfl hc
theorem Zo7 (pre:Pre G R w e a Hm) {b sz:Nat}{xs:List D}{u:Value} (hb:nth Hm b=some (.arr sz xs)) (h:ZbZ R w (.sl b sz) u) :
  ∃m,R.M b=some m∧nth R.H b=some (.arr sz xs)∧ZjP R w m (.arr sz xs)∧ZuE w m xs sz 0 xs.length u:=by
 have hb':=pre.le b _ hb (by simp)
 obtain⟨_,m,h1,h2⟩:=h
 exact⟨m,h1,hb',pre.ok.blk b _ _ (by rw[← Zaw];exact hb') h1,h2 xs hb'⟩
theorem ZmG (pre:Pre G R w e a Hm) {b sz o len:Nat}{xs:List D}{u:Value} (hb:nth Hm b=some (.arr sz xs)) (h:ZbZ R w (.slp b sz o len) u) :
  ∃m,R.M b=some m∧nth R.H b=some (.arr sz xs)∧ZjP R w m (.arr sz xs)∧ZuE w m xs sz o len u:=by
 have hb':=pre.le b _ hb (by simp)
 obtain⟨_,m,h1,h2⟩:=h
 exact⟨m,h1,hb',pre.ok.blk b _ _ (by rw[← Zaw];exact hb') h1,h2 xs hb'⟩
theorem ZCc (pre:Pre G R w e a Hm) {t el:TypeId}{n:Nat}{x i:Operand}{y j:Opd}{v:V} (hop:o.op = .indexAddr t x i) (hx:Zac G x y=true) (hi:Zac G i j=true) (ht:ZrE P t=some el) (hsz:Zix P el=some n)
  (h:Zkr Hm n (y.val e) (j.val e)=some v) (hp:Za4 R.H [] nid [] H'):ZeO P o a w (ZaA R w nid 0 H' v):=by
 have hv:=pre.opd hx
 have hiv:=pre.opd hi
 unfold Zkr at h
 have fin:∀{k:IntKind} {m:Int} {ad:Addr} {len cap:Nat} ,a.eval i = .int k m→a.eval x = .slice (some ad) len cap→0≤m→m<len→ZbZ R w v (.pointer (some (ad.add (m.toNat*n))))→ZeO P o a w (ZaA R w nid 0 H' v):=
  fun h1 h2 h3 h4 h5=>Zc0 (s:=Instr.indexAt t (a.eval x) (a.eval i)) (by unfold execOp;rw[hop]) (by rw[h1,h2];exact Zvu ht hsz h3 h4) (ZaA.stay pre.ok hp h5)
 split at h
 ·rename_i k m hj
  rw[hj] at hiv
  split at h
  ·rename_i own xs hy
   rw[hy] at hv
   cases hg:Zx xs m with
   | none=>rw[hg] at h;cases h
   | some z=>
    rw[hg] at h
    dsimp only at h
    cases hc:(Nat.beq z.cells.length n&&(V.d z).okb) with
    | false=>rw[hc] at h;cases h
    | true=>
     rw[hc] at h
     simp only[cond_true,Option.some.injEq] at h
     subst h
     simp only[Bool.and_eq_true] at hc
     obtain⟨h0,h1,h2⟩:=ZrH xs m z hg
     obtain⟨ad,len,cap,e1,rfl,e3,e4,e5⟩:=hv
     obtain⟨b,off,sz,rfl,f2,f3,f4⟩:=e5 (by intro hn;rw[hn] at h2;simp at h2)
     obtain⟨u,g1,g2,g3⟩:=ZlH xs off m.toNat z f4 h2
     obtain⟨q1,q2⟩:=ZBQ (b:=b) (off:=off+m.toNat*sz) g1 hc.2 g3
     have hn:sz=n:=by rw[← g2,q1];exact Nat.eq_of_beq_eq_true hc.1
     subst hn
     refine fin (ZmE hiv) e1 h0 h1 ⟨b,off+m.toNat*sz,by rw[Addr.add_lit],?_,f3,q2⟩
     cases own
     ·exact f2
     ·exact⟨f2.1,fun hb=>f2.2 (pre.ok.b01 _ hb)⟩
  ·rename_i b sz' hy
   rw[hy] at hv
   cases hb:nth Hm b with
   | none=>rw[hb] at h;cases h
   | some blk=>
    rw[hb] at h
    cases blk<;>try (cases h;done)
    rename_i sz'' xs
    dsimp only at h
    cases hs:(Nat.beq n sz'&&Nat.beq n sz'') with
    | false=>rw[hs] at h;cases h
    | true=>
     rw[hs] at h
     simp only[Bool.and_eq_true] at hs
     obtain rfl:=Nat.eq_of_beq_eq_true hs.1
     obtain rfl:=Nat.eq_of_beq_eq_true hs.2
     simp only[cond_true] at h
     cases hg:Zx xs m with
     | none=>rw[hg] at h;cases h
     | some z=>
      rw[hg] at h
      simp only[Option.some.injEq] at h
      subst h
      obtain⟨h0,h1,h2⟩:=ZrH xs m z hg
      obtain⟨mm,q1,q2,q3,q4⟩:=Zo7 pre hb hv
      obtain⟨c,cs,el',fr,cap,rfl,e1,e2,e3,e4⟩:=Zhi q4 (.inr (by omega))
      refine fin (ZmE hiv) e1 h0 h1 ⟨c,q1,?_⟩
      rw[Addr.add_lit,Nat.zero_mul,Nat.zero_add];rfl
  ·rename_i b sz' of ln hy
   rw[hy] at hv
   cases hb:nth Hm b with
   | none=>rw[hb] at h;cases h
   | some blk=>
    rw[hb] at h
    cases blk<;>try (cases h;done)
    rename_i sz'' xs
    dsimp only at h
    cases hs:(Nat.beq n sz'&&Nat.beq n sz'') with
    | false=>rw[hs] at h;cases h
    | true=>
     rw[hs] at h
     simp only[Bool.and_eq_true] at hs
     obtain rfl:=Nat.eq_of_beq_eq_true hs.1
     obtain rfl:=Nat.eq_of_beq_eq_true hs.2
     simp only[cond_true] at h
     cases hg:Zx ((xs.drop of).take ln) m with
     | none=>rw[hg] at h;cases h
     | some z=>
      rw[hg] at h
      simp only[Option.some.injEq] at h
      subst h
      obtain⟨h0,h1,h2⟩:=ZrH _ m z hg
      simp only[List.length_take,List.length_drop] at h1
      obtain⟨mm,q1,q2,q3,q4⟩:=ZmG pre hb hv
      obtain⟨c,cs,el',fr,cap,rfl,e1,e2,e3,e4⟩:=Zhi q4 (.inr (by omega))
      refine fin (ZmE hiv) e1 h0 (by omega) ⟨c,q1,?_⟩
      rw[Addr.add_lit,Nat.add_mul];rfl
  ·cases h
 ·cases h
end
end Go.Proofs.YtnpidpcmpleiaaaGreatDoorE
namespace Go.Proofs.YtnpidpcmpleiaaaGreatDoorE
open Go
open Go.IntKind (u64 i64 u32 i32 u8)
section
variable {P:Program} {G:Zcu} {R:RP} {w:World} {e:Env} {a:Act} {Hm H':Zs} {nid:Nat} {o:Oper}
theorem Zzr (pre:Pre G R w e a Hm) {t el:TypeId}{n len:Nat}{x i:Operand}{y j:Opd}{v:V} (hop:o.op = .indexAddr t x i) (hx:Zac G x y=true) (hi:Zac G i j=true) (ht:ZtY P t=some (len,el)) (hsz:Zix P el=some n)
  (h:ZiJ Hm len n (y.val e) (j.val e)=some v) (hp:Za4 R.H [] nid [] H'):ZeO P o a w (ZaA R w nid 0 H' v):=by
 have hv:=pre.opd hx
 have hiv:=pre.opd hi
 unfold ZiJ at h
 split at h
 ·rename_i k m hj
  rw[hj] at hiv
  cases hc:(decide (0≤m)&&decide (m<len)) with
  | false=>rw[hc] at h;cases h
  | true=>
   rw[hc] at h
   simp only[cond_true] at h
   simp only[Bool.and_eq_true,decide_eq_true_eq] at hc
   obtain⟨ad,h1,h2⟩:=ZvK pre hv h
   refine Zc0 (s:=Instr.indexAt t (a.eval x) (a.eval i)) (by unfold execOp;rw[hop]) ?_ (ZaA.stay pre.ok hp h2)
   rw[h1,ZmE hiv]
   simp[Instr.indexAt,asIntOf,Instr.sureAddr,run_underlying (Ztd ht),Zgo hsz,hc]
 ·cases h
theorem Zxi (pre:Pre G R w e a Hm) {x:V}{xs:List D}{u:Value} (hx:ZbZ R w x u) (h:elems Hm x=some xs) (hl:0<xs.length):∃ad cap,u = .slice (some ad) xs.length cap:=by
 unfold elems at h
 split at h
 ·rename_i own xs'
  simp only[Option.some.injEq] at h
  subst h
  obtain⟨ad,len,cap,rfl,rfl,e3,e4,e5⟩:=hx
  obtain⟨b,off,sz,rfl,_⟩:=e5 (by intro hn;rw[hn] at hl;simp at hl)
  exact⟨_,cap,rfl⟩
 ·rename_i b sz
  cases hb:nth Hm b with
  | none=>rw[hb] at h;cases h
  | some blk=>
   rw[hb] at h
   cases blk<;>try (cases h;done)
   rename_i sz' xs'
   dsimp only at h
   cases hs:Nat.beq sz sz' with
   | false=>rw[hs] at h;cases h
   | true=>
    rw[hs] at h
    simp only[cond_true,Option.some.injEq] at h
    subst h
    obtain rfl:=Nat.eq_of_beq_eq_true hs
    obtain⟨m,q1,q2,q3,q4⟩:=Zo7 pre hb hx
    obtain⟨c,cs,el,fr,cap,rfl,rfl,_⟩:=Zhi q4 (.inl hl)
    exact⟨_,cap,rfl⟩
 ·rename_i b sz of len
  cases hb:nth Hm b with
  | none=>rw[hb] at h;cases h
  | some blk=>
   rw[hb] at h
   cases blk<;>try (cases h;done)
   rename_i sz' xs'
   dsimp only at h
   cases hs:Nat.beq sz sz' with
   | false=>rw[hs] at h;cases h
   | true=>
    rw[hs] at h
    simp only[cond_true,Option.some.injEq] at h
    subst h
    obtain rfl:=Nat.eq_of_beq_eq_true hs
    obtain⟨m,q1,q2,q3,q4⟩:=ZmG pre hb hx
    have hlen:((xs'.drop of).take len).length=len:=by
     have:=q4.1
     simp only[List.length_take,List.length_drop];omega
    rw[hlen] at hl ⊢
    obtain⟨c,cs,el,fr,cap,rfl,rfl,_⟩:=Zhi q4 (.inl hl)
    exact⟨_,cap,rfl⟩
 ·simp only[Option.some.injEq] at h
  subst h
  simp at hl
 ·cases h
theorem Zuk (pre:Pre G R w e a Hm) {x:V}{xs:List D}{u:Value} (hx:ZbZ R w x u) (h:elems Hm x=some xs):∃ad cap,u = .slice ad xs.length cap∧xs.length≤cap:=by
 unfold elems at h
 split at h
 ·rename_i own xs'
  simp only[Option.some.injEq] at h
  subst h
  obtain⟨ad,len,cap,rfl,rfl,e3,_⟩:=hx
  exact⟨ad,cap,rfl,e3⟩
 ·rename_i b sz
  cases hb:nth Hm b with
  | none=>rw[hb] at h;cases h
  | some blk=>
   rw[hb] at h
   cases blk<;>try (cases h;done)
   rename_i sz' xs'
   dsimp only at h
   cases hs:Nat.beq sz sz' with
   | false=>rw[hs] at h;cases h
   | true=>
    rw[hs] at h
    simp only[cond_true,Option.some.injEq] at h
    subst h
    obtain rfl:=Nat.eq_of_beq_eq_true hs
    obtain⟨m,q1,q2,q3,q4,ad,cap,rfl,q5,_⟩:=Zo7 pre hb hx
    exact⟨ad,cap,rfl,q5⟩
 ·rename_i b sz of len
  cases hb:nth Hm b with
  | none=>rw[hb] at h;cases h
  | some blk=>
   rw[hb] at h
   cases blk<;>try (cases h;done)
   rename_i sz' xs'
   dsimp only at h
   cases hs:Nat.beq sz sz' with
   | false=>rw[hs] at h;cases h
   | true=>
    rw[hs] at h
    simp only[cond_true,Option.some.injEq] at h
    subst h
    obtain rfl:=Nat.eq_of_beq_eq_true hs
    obtain⟨m,q1,q2,q3,q4,ad,cap,rfl,q5,_⟩:=ZmG pre hb hx
    have:((xs'.drop of).take len).length=len:=by simp only[List.length_take,List.length_drop];omega
    rw[this]
    exact⟨ad,cap,rfl,q5⟩
 ·simp only[Option.some.injEq] at h
  subst h
  obtain⟨ad,rfl⟩:=hx
  exact⟨ad,0,rfl,Nat.le_refl _⟩
 ·cases h
theorem ZiR {b:Builtin}{xs:Array Operand}{ats:Array TypeId} (hop:o.op = .call { callee:=.builtin b,args:=xs,argTypes:=ats }) :
  execOp a.eval o=builtin b ats o.type (xs.map fun | .const _=>true | _=>false) (xs.map a.eval):=by
 obtain⟨dst,op,ty,pos,after,guard⟩:=o
 simp only at hop
 subst hop
 rfl
theorem ZGi (pre:Pre G R w e a Hm) {t el:TypeId}{x:Operand}{y:Opd}{r:D} (hop:o.op = .call { callee:=.builtin .len,args:=#[x],argTypes:=#[t] }) (hx:Zac G x y=true) (ht:ZrE P t=some el)
  (h:ZuO Hm (y.val e)=some r) (hp:Za4 R.H [] nid [] H'):ZeO P o a w (ZaA R w nid 0 H' (.d r)):=by
 have hv:=pre.opd hx
 unfold ZuO at h
 cases hes:elems Hm (y.val e) with
 | none=>rw[hes] at h;cases h
 | some xs=>
  rw[hes] at h
  simp only[Option.some.injEq] at h
  subst h
  obtain⟨ad,cap,h1,_⟩:=Zuk pre hv hes
  refine Zc0 (s:=Builtin.len_ #[t] o.type #[a.eval x]) (u:=.int .i64 xs.length) (by rw[ZiR hop,BigFrame.builtin_len];simp) ?_ (ZaA.stay pre.ok hp rfl)
  rw[h1]
  simp[Builtin.len_,run_underlying (Zn0 ht),goInt]
def Zxo (x:Option Value) (d l:Nat):Prop:=(x=none∧l=d)∨∃k,x=some (.int k (l:Int))
theorem ZE5 {t el:TypeId}{sz:Nat}{ad:Option Addr}{len cap l h:Nat}{lo hi:Option Value} (ht:ZrE P t=some el) (hsz:Zix P el=some sz) (h1:Zxo lo 0 l) (h2:Zxo hi len h) (h3:l≤h) (h4:h≤cap) (h5:len≤cap) :
  (Instr.sliceAt t (.slice ad len cap) lo hi none).run P w = .ok (.slice (if cap=l then ad else ad.map (·.add (l*sz))) (h-l) (cap-l)) w:=by
 have ht':=Zn0 ht
 rcases h1 with⟨rfl,rfl⟩ | ⟨k1,rfl⟩<;>rcases h2 with⟨rfl,rfl⟩ | ⟨k2,rfl⟩<;>
  simp[Instr.sliceAt,Instr.slice,run_underlying ht',Instr.sliceBounds,Instr.sliceBound,asIntOf,Zgo hsz, *]
theorem ZCr {t el:TypeId}{sz:Nat}{ad:Option Addr}{len cap l h m:Nat}{lo hi mx:Option Value} (ht:ZrE P t=some el) (hsz:Zix P el=some sz) (h1:Zxo lo 0 l) (h2:∃k,hi=some (.int k (h:Int))) (h6:∃k,mx=some (.int k (m:Int))) (h3:l≤h) (h4:h≤m) (h5:m≤cap) :
  (Instr.sliceAt t (.slice ad len cap) lo hi mx).run P w = .ok (.slice (if m=l then ad else ad.map (·.add (l*sz))) (h-l) (m-l)) w:=by
 have ht':=Zn0 ht
 obtain⟨k2,rfl⟩:=h2
 obtain⟨k3,rfl⟩:=h6
 rcases h1 with⟨rfl,rfl⟩ | ⟨k1,rfl⟩<;>
  simp[Instr.sliceAt,Instr.slice,run_underlying ht',Instr.sliceBounds,Instr.sliceBound,asIntOf,Zgo hsz, *]
def Zpp (G:Zcu):Option Operand→Option Opd→Bool
 | none,none=>true
 | some x,some y=>Zac G x y
 | _,_=>false
theorem Zwr (pre:Pre G R w e a Hm) {x:Option Operand}{y:Option Opd}{d l:Nat} (hx:Zpp G x y=true) (h:ZjY (y.map (·.val e)) d=some l):Zxo (x.map a.eval) d l:=by
 cases x with
 | none=>
  cases y with
  | some y=>cases hx
  | none=>simp[ZjY] at h;exact .inl ⟨rfl,h.symm⟩
 | some x=>
  cases y with
  | none=>cases hx
  | some y=>
   have hv:=pre.opd (x:=x) (y:=y) hx
   simp only[Option.map_some] at h
   unfold ZjY at h
   split at h
   ·cases ‹some _=none›
   ·rename_i k n hy
    simp only[Option.some.injEq] at hy
    rw[hy] at hv
    cases h0:decide (0≤n) with
    | false=>rw[h0] at h;cases h
    | true=>
     rw[h0] at h
     simp only[cond_true,Option.some.injEq] at h
     have h0':0≤n:=of_decide_eq_true h0
     refine .inr ⟨k,?_⟩
     simp only[Option.map_some]
     rw[ZmE hv,← h,Int.toNat_of_nonneg h0']
   ·cases h
theorem ZCA (pre:Pre G R w e a Hm) {t el:TypeId}{n:Nat}{x:Operand}{y:Opd}{lo hi mx:Option Operand}{lo' hi' mx':Option Opd}{v:V} (hop:o.op = .slice t x lo hi mx) (hx:Zac G x y=true)
  (hlo:Zpp G lo lo'=true) (hhi:Zpp G hi hi'=true) (hmx:Zpp G mx mx'=true) (hh:mx'.isSome=true→hi'.isSome=true) (ht:ZrE P t=some el) (hsz:Zix P el=some n)
  (h:Zk1 Hm n (y.val e) (lo'.map (·.val e)) (hi'.map (·.val e)) (mx'.map (·.val e))=some v) (hp:Za4 R.H [] nid [] H'):ZeO P o a w (ZaA R w nid 0 H' v):=by
 have hv:=pre.opd hx
 unfold Zk1 at h
 cases hes:elems Hm (y.val e) with
 | none=>rw[hes] at h;cases h
 | some xs=>
  rw[hes] at h
  dsimp only at h
  cases hl:ZjY (lo'.map (·.val e)) 0 with
  | none=>rw[hl] at h;cases h
  | some l=>
   rw[hl] at h
   cases hhn:ZjY (hi'.map (·.val e)) xs.length with
   | none=>rw[hhn] at h;cases h
   | some hn=>
    rw[hhn] at h
    dsimp only at h
    cases hc:(Nat.ble l hn&&Nat.ble hn xs.length) with
    | false=>rw[hc] at h;cases h
    | true=>
     rw[hc] at h
     simp only[cond_true] at h
     simp only[Bool.and_eq_true,Nat.ble_eq] at hc
     obtain⟨c1,c2⟩:=hc
     obtain⟨ad,cap,q1,q2⟩:=Zuk pre hv hes
     have b1:=Zwr pre hlo hl
     have b2:=Zwr pre hhi hhn
     have fin:ZbZ R w v (.slice (if cap=l then ad else ad.map (·.add (l*n))) (hn-l) (cap-l))→mx=none→ZeO P o a w (ZaA R w nid 0 H' v):=fun h5 hm=>
      Zc0 (s:=Instr.sliceAt t (a.eval x) (lo.map a.eval) (hi.map a.eval) (mx.map a.eval)) (by unfold execOp;rw[hop]) (by rw[q1,hm];exact ZE5 ht hsz b1 b2 c1 (by omega) q2) (ZaA.stay pre.ok hp h5)
     cases mx' with
     | none=>
      have hm:mx=none:=by cases mx with | none=>rfl | some m=>cases hmx
      simp only[Option.map_none] at h
      refine fin ?_ hm
      rw[q1] at hv
      cases hy:y.val e<;>rw[hy] at h hv hes<;>try (cases h;done)
      ·rename_i z
       cases z<;>try (cases h;done)
       rename_i own xs'
       simp only[elems,Option.some.injEq] at hes
       subst hes
       dsimp only at h
       cases hg:(Nat.beq l 0 || Znl n xs' l) with
       | false=>rw[hg] at h;cases h
       | true=>
        rw[hg] at h
        simp only[cond_true,Option.some.injEq] at h
        subst h
        obtain⟨ad',len',cap',e1,e2,e3,e4,e5⟩:=hv
        cases e1
        have hlen:((xs'.drop l).take (hn-l)).length=hn-l:=by simp only[List.length_take,List.length_drop];omega
        refine⟨_,_,_,rfl,hlen.symm,by omega,fun z hz=>e4 z (List.mem_of_mem_drop (List.mem_of_mem_take hz)),fun hne=>?_⟩
        have hlt:l<hn:=by
         rcases Nat.lt_or_ge l hn with h | h
         ·exact h
         ·exact absurd (List.eq_nil_of_length_eq_zero (by omega)) hne
        obtain⟨b,off,sz,rfl,f2,f3,f4⟩:=e5 (by intro hn';rw[hn'] at c2;simp at c2;omega)
        have hcl:cap≠l:=by omega
        have hsame:l*n=l*sz:=by
         simp only[Bool.or_eq_true] at hg
         rcases hg with hg | hg
         ·rw[Nat.eq_of_beq_eq_true hg,Nat.zero_mul,Nat.zero_mul]
         ·have hll:l<xs'.length:=by omega
          unfold Znl at hg
          rw[Zaw,List.getElem?_eq_getElem hll] at hg
          simp only[Bool.and_eq_true] at hg
          obtain⟨u,g1,g2,g3⟩:=ZlH xs' off l _ f4 (List.getElem?_eq_getElem hll)
          have:=Zjt (R:=R) (v:=.d xs'[l]) g1 hg.2
          have h6:=Zga _ _ this
          have hVc:(V.d xs'[l]).cells=Zd1 xs'[l].cells:=by cases xs'[l]<;>rfl
          rw[hVc,Zmi,List.length_map,Nat.eq_of_beq_eq_true hg.1] at h6
          rw[← g2];simp at h6;rw[h6]
        refine⟨b,off+l*sz,sz,by rw[if_neg hcl,hsame];simp[Addr.add_lit],f2,f3,Zl0 _ _ fun j z hz=>?_⟩
        have hj:j<hn-l:=by have:=(List.getElem?_eq_some_iff.1 hz).1;omega
        rw[List.getElem?_take,if_pos hj,List.getElem?_drop] at hz
        obtain⟨u,g1,g2,g3⟩:=ZlH xs' off (l+j) z f4 hz
        exact⟨u,g1,g2,fun k v hk=>by rw[← g3 k v hk,Nat.add_mul];congr 2;omega⟩
      ·rename_i b sz'
       dsimp only at h
       cases hg:Nat.beq n sz' with
       | false=>rw[hg] at h;cases h
       | true=>
        rw[hg] at h
        simp only[cond_true,Option.some.injEq] at h
        obtain rfl:=Nat.eq_of_beq_eq_true hg
        subst h
        simp only[elems] at hes
        cases hb:nth Hm b with
        | none=>rw[hb] at hes;cases hes
        | some blk=>
         rw[hb] at hes
         cases blk<;>try (cases hes;done)
         rename_i sz'' xs'
         dsimp only at hes
         cases hs:Nat.beq n sz'' with
         | false=>rw[hs] at hes;cases hes
         | true=>
          rw[hs] at hes
          simp only[cond_true,Option.some.injEq] at hes
          obtain rfl:=Nat.eq_of_beq_eq_true hs
          subst hes
          obtain⟨m,r1,r2,r3,r4⟩:=Zo7 pre hb hv
          refine⟨⟨_,_,_,rfl⟩,m,r1,fun ys hys=>?_⟩
          rw[r2] at hys;cases hys
          obtain⟨_,ad',cap',s1,s2,s3⟩:=r4
          cases s1
          refine⟨by omega,_,_,rfl,by omega,?_⟩
          rcases s3 with⟨s3,s4⟩ | ⟨c,cs,el',fr,s4,s5,s6,s7⟩
          ·exact .inl ⟨by omega,by omega⟩
          ·by_cases hcl:cap=l
           ·exact .inl ⟨by omega,by omega⟩
           ·refine .inr ⟨c,cs,el',fr,s4,?_,s6,?_⟩
            ·rw[if_neg hcl,s5];simp[Addr.add_lit]
            ·rw[s7];congr 1;omega
      ·rename_i b sz' of len
       dsimp only at h
       cases hg:Nat.beq n sz' with
       | false=>rw[hg] at h;cases h
       | true=>
        rw[hg] at h
        simp only[cond_true,Option.some.injEq] at h
        obtain rfl:=Nat.eq_of_beq_eq_true hg
        subst h
        simp only[elems] at hes
        cases hb:nth Hm b with
        | none=>rw[hb] at hes;cases hes
        | some blk=>
         rw[hb] at hes
         cases blk<;>try (cases hes;done)
         rename_i sz'' xs'
         dsimp only at hes
         cases hs:Nat.beq n sz'' with
         | false=>rw[hs] at hes;cases hes
         | true=>
          rw[hs] at hes
          simp only[cond_true,Option.some.injEq] at hes
          obtain rfl:=Nat.eq_of_beq_eq_true hs
          subst hes
          obtain⟨m,r1,r2,r3,r4⟩:=ZmG pre hb hv
          simp only[List.length_take,List.length_drop] at c2 r4 q2
          refine⟨⟨_,_,_,rfl⟩,m,r1,fun ys hys=>?_⟩
          rw[r2] at hys;cases hys
          obtain⟨s0,ad',cap',s1,s2,s3⟩:=r4
          simp only[Value.slice.injEq] at s1
          obtain⟨rfl,_,rfl⟩:=s1
          refine⟨by omega,_,_,rfl,by omega,?_⟩
          rcases s3 with⟨s3,s4⟩ | ⟨c,cs,el',fr,s4,s5,s6,s7⟩
          ·exact .inl ⟨by omega,by omega⟩
          ·obtain⟨t0,_,t1⟩:=r3
           by_cases hcl:cap=l
           ·refine .inl ⟨by omega,?_⟩
            rcases t1 with⟨t1,t2⟩ | ⟨c',cs',el'',t1,t2,t3,_⟩
            ·rw[t1] at s4;cases s4
            ·rw[t1] at s4;cases s4
             rw[t2] at s6;cases s6
             rw[s7] at t3
             have:=Nat.le_of_mul_le_mul_right t3 t0
             omega
           ·refine .inr ⟨c,cs,el',fr,s4,?_,s6,?_⟩
            ·rw[if_neg hcl,s5];simp[Addr.add_lit,Nat.add_mul]
            ·rw[s7];congr 1;omega
      ·rename_i sz'
       simp only[Option.some.injEq] at h
       subst h
       simp only[elems,Option.some.injEq] at hes
       subst hes
       obtain⟨ad',hv⟩:=hv
       cases hv
       simp only[List.length_nil] at c2
       obtain rfl:l=0:=by omega
       obtain rfl:hn=0:=by omega
       exact⟨_,rfl⟩
     | some m'=>
      cases mx with
      | none=>cases hmx
      | some m=>
       cases hhs:hi' with
       | none=>rw[hhs] at hh;cases hh rfl
       | some hi1=>
        dsimp only[Option.map_some] at h
        cases hm:ZjY (some (m'.val e)) 0 with
        | none=>rw[hm] at h;cases h
        | some mm=>
         rw[hm] at h
         dsimp only at h
         cases hg:(Nat.beq mm l&&Nat.beq mm hn) with
         | false=>rw[hg] at h;cases h
         | true=>
          rw[hg] at h
          simp only[cond_true,Option.some.injEq] at h
          subst h
          simp only[Bool.and_eq_true] at hg
          obtain rfl:=Nat.eq_of_beq_eq_true hg.1
          obtain rfl:=Nat.eq_of_beq_eq_true hg.2
          have b3:=Zwr pre (x:=some m) (y:=some m') hmx (by simpa using hm)
          refine Zc0 (s:=Instr.sliceAt t (a.eval x) (lo.map a.eval) (hi.map a.eval) ((some m).map a.eval)) (by unfold execOp;rw[hop]) (by
           rw[q1]
           refine ZCr ht hsz b1 ?_ ?_ c1 (Nat.le_refl _) (by omega)
           ·rcases b2 with⟨b2,_⟩ | b2
            ·exfalso
             cases hi with
             | none=>rw[hhs] at hhi;cases hhi
             | some hi0=>cases b2
            ·exact b2
           ·rcases b3 with⟨b3,_⟩ | b3
            ·cases b3
            ·exact b3) (ZaA.stay pre.ok hp ?_)
          exact⟨_,by rw[Nat.sub_self]⟩
end
end Go.Proofs.YtnpidpcmpleiaaaGreatDoorE
namespace Go.Proofs.YtnpidpcmpleiaaaGreatDoorE
open Go
open Go.IntKind (u64 i64 u32 i32 u8)
section
variable {P:Program} {G:Zcu} {R:RP} {w:World} {e:Env} {a:Act} {Hm H':Zs} {nid:Nat} {o:Oper}
theorem ZzA:∀(vs:List V) (us:List Value) (k:IntKind) (n:Int) (r:D),Zby R w vs us→mxE.go true k n vs=some r→∃u,(us.foldlM Builtin.max2 (.int k n)).run P w = .ok u w∧R.den w r u
 | [],us,k,n,r,hd,h=>by
  simp only[mxE.go,Option.some.injEq] at h
  simp only[Zby] at hd
  subst h;subst hd
  exact⟨.int k n,rfl,rfl⟩
 | v :: vs,us,k,n,r,hd,h=>by
  obtain⟨u,us',rfl,h1,h2⟩:=hd
  cases v<;>try (cases h;done)
  rename_i x
  cases x<;>try (cases h;done)
  rename_i k' m
  simp only[mxE.go,cond_true] at h
  obtain⟨u,h3,h4⟩:=ZzA vs us' k _ r h2 h
  refine⟨u,?_,h4⟩
  cases h1
  rw[List.foldlM_cons,Sem.run_bind,← h3]
  by_cases hlt:n<m
  ·simp[Builtin.max2,hlt]
  ·simp[Builtin.max2,hlt]
theorem Zzl:∀(vs:List V) (us:List Value) (k:IntKind) (n:Int) (r:D),Zby R w vs us→mxE.go false k n vs=some r→∃u,(us.foldlM Builtin.min2 (.int k n)).run P w = .ok u w∧R.den w r u
 | [],us,k,n,r,hd,h=>by
  simp only[mxE.go,Option.some.injEq] at h
  simp only[Zby] at hd
  subst h;subst hd
  exact⟨.int k n,rfl,rfl⟩
 | v :: vs,us,k,n,r,hd,h=>by
  obtain⟨u,us',rfl,h1,h2⟩:=hd
  cases v<;>try (cases h;done)
  rename_i x
  cases x<;>try (cases h;done)
  rename_i k' m
  simp only[mxE.go,cond_false] at h
  obtain⟨u,h3,h4⟩:=Zzl vs us' k _ r h2 h
  refine⟨u,?_,h4⟩
  cases h1
  rw[List.foldlM_cons,Sem.run_bind,← h3]
  by_cases hlt:m<n
  ·simp[Builtin.min2,hlt]
  ·simp[Builtin.min2,hlt]
theorem ZF8 (pre:Pre G R w e a Hm) {b:Bool}{ats:Array TypeId}{xs:Array Operand}{ys:List Opd}{r:D} (hop:o.op = .call { callee:=.builtin (bif b then .max else .min),args:=xs,argTypes:=ats }) (hx:ZgH G xs.toList ys=true)
  (h:mxE b (Zhl e ys)=some r) (hp:Za4 R.H [] nid [] H'):ZeO P o a w (ZaA R w nid 0 H' (.d r)):=by
 have hv:=pre.opds hx
 have hl:(xs.map a.eval).toList=xs.toList.map a.eval:=by simp
 cases hvs:Zhl e ys with
 | nil=>rw[hvs] at h;cases h
 | cons v vs=>
  rw[hvs] at h hv
  obtain⟨u,us,hus,h1,h2⟩:=hv
  cases v<;>try (cases h;done)
  rename_i x
  cases x<;>try (cases h;done)
  rename_i k n
  cases h1
  simp only[mxE] at h
  cases b with
  | true=>
   obtain⟨u,h3,h4⟩:=ZzA (P:=P) vs us k n r h2 h
   refine Zc0 (s:=Builtin.max_ ats o.type (xs.map a.eval)) (u:=u) (by rw[ZiR hop];rfl) ?_ (ZaA.stay pre.ok hp h4)
   rw[Builtin.max_,hl,hus];exact h3
  | false=>
   obtain⟨u,h3,h4⟩:=Zzl (P:=P) vs us k n r h2 h
   refine Zc0 (s:=Builtin.min_ ats o.type (xs.map a.eval)) (u:=u) (by rw[ZiR hop];rfl) ?_ (ZaA.stay pre.ok hp h4)
   rw[Builtin.min_,hl,hus];exact h3
theorem ZCa (pre:Pre G R w e a Hm) {x:Operand}{y:Opd}{v:V} (hop:o.op = .nilCheck x) (hx:Zac G x y=true) (h:ZwX Hm (y.val e)=some v) (hp:Za4 R.H [] nid [] H'):ZeO P o a w (ZaA R w nid 0 H' v):=by
 have hv:=pre.opd hx
 have ptr:∀(ad:Addr) v,a.eval x = .pointer (some ad)→ZbZ R w v (a.eval x)→ZeO P o a w (ZaA R w nid 0 H' v):=fun ad v h1 h2=>
  .val (u:=a.eval x) (w':=w) (by unfold execOp;rw[hop];simp[h1]) (ZaA.stay pre.ok hp h2)
 unfold ZwX at h
 split at h
 ·rename_i f caps hy
  simp only[Option.some.injEq] at h
  subst h
  rw[hy] at hv
  have hv':=hv
  obtain⟨us,h1,_⟩:=hv'
  exact .val (u:=a.eval x) (w':=w) (by unfold execOp;rw[hop];simp only[h1];unfold Zl1;cases isU _<;>simp) (ZaA.stay pre.ok hp hv)
 ·rename_i f caps hy
  simp only[Option.some.injEq] at h
  subst h
  rw[hy] at hv
  have hv':=hv
  obtain⟨us,h1,_⟩:=hv'
  exact .val (u:=a.eval x) (w':=w) (by unfold execOp;rw[hop];simp only[h1];unfold Zl1;cases isU _<;>simp) (ZaA.stay pre.ok hp hv)
 ·rename_i t z hy
  simp only[Option.some.injEq] at h
  subst h
  rw[hy] at hv
  have hv':=hv
  obtain⟨u',h1,_⟩:=hv'
  exact .val (u:=a.eval x) (w':=w) (by unfold execOp;rw[hop];simp[h1]) (ZaA.stay pre.ok hp hv)
 ·rename_i cs hy
  simp only[Option.some.injEq] at h
  subst h
  rw[hy] at hv
  have hv':=hv
  obtain⟨b,off,h1,_⟩:=hv'
  exact ptr _ _ h1 hv
 ·rename_i b off hy
  simp only[Option.some.injEq] at h
  subst h
  rw[hy] at hv
  have hv':=hv
  obtain⟨c,_,h1⟩:=hv'
  exact ptr _ _ h1 hv
 ·rename_i b sz i k hy
  simp only[Option.some.injEq] at h
  subst h
  rw[hy] at hv
  have hv':=hv
  obtain⟨c,_,h1⟩:=hv'
  exact ptr _ _ h1 hv
 ·cases h
structure ZlN (R R':RP) (ks:List Nat):Prop where
 m:R'.M=R.M
 b1:R'.B1=R.B1
 live:∀i,ZaY R'.H i=true→ZaY R.H i=true
 dead:∀k∈ks,ZaY R'.H k=false
theorem ZlN.a1 {R R':RP}{ks:List Nat} (h:ZlN R R' ks):∀b,R.A1 b→R'.A1 b:=fun b ⟨h1,h2⟩=>
 ⟨fun⟨i,l1,l2⟩=>h1 ⟨i,h.live i l1,by rw[← h.m];exact l2⟩,by rw[h.b1];exact h2⟩
theorem ZlN.own {R R':RP}{ks:List Nat} (h:ZlN R R' ks) (ok:R.OK w) {b c:Nat} (hb:ZaY R.H b=true) (hk:b∈ks) (hm:R.M b=some (some c)):R'.A1 c:=
 ⟨fun⟨i,l1,l2⟩=>by
  rw[h.m] at l2
  have:=ok.inj i b c (h.live i l1) hb l2 hm
  subst this
  rw[h.dead i hk] at l1
  exact Bool.noConfusion l1,by rw[h.b1];exact ok.nb b c hb hm⟩
theorem Zvb {H:Zs}{b sz:Nat}{xs:List D} (h:nth H b=some (.arr sz xs)):ZaY H b=true:=by
 unfold ZaY;rw[h]
theorem ZrP (ok:R.OK w) {c sz:Nat}{xs:List D}{A1' A0' AL':Nat→Prop} (h1:∀b,R.A1 b→A1' b) {l n:Nat} (hb:ZjP R w (some c) (.arr sz xs)) (hne:(xs.drop l).take n≠[]) :
  Zh0 A1' A0' AL' w c sz (l*sz) ((xs.drop l).take n):=by
 obtain⟨_,he,hb⟩:=hb
 rcases hb with⟨hb,_⟩ | ⟨c',cs,el,e1,e2,e3,e4⟩
 ·cases hb
 ·cases e1
  refine Zl0 _ _ fun j x hj=>?_
  rw[List.getElem?_take] at hj
  by_cases hjn:j<n
  ·rw[if_pos hjn,List.getElem?_drop] at hj
   obtain⟨u,f1,f2,f3⟩:=e4 (l+j) x hj
   refine⟨u,Zca.lift h1 x u (he x (List.mem_of_getElem? hj)) f1,f2,fun k v hk=>?_⟩
   rw[ZdP e2,← f3 k v hk,Nat.add_mul]
  ·rw[if_neg hjn] at hj;cases hj
mutual
theorem Zp9 (n:Nat):∀(v:V) (y:D) (ks:List Nat),(pre:Pre G R w e a Hm)→fr Hm n v=some (y,ks)→∀{R':RP}{ks':List Nat},ZlN R R' ks'→(∀k∈ks,k∈ks')→∀u,ZbZ R w v u→(y.esc=true∨∃ts,y = .tup ts)∧∀A0' AL',Zca R'.A1 A0' AL' w y u:=by
 intro v y ks pre h R' ks' hL hks u hu
 cases n with
 | zero=>cases h
 | succ n=>
  simp only[fr] at h
  cases v<;>try (cases h;done)
  ·rename_i x
   dsimp only at h
   split at h
   ·rename_i ts
    cases he:Zw9 ts with
    | false=>rw[he] at h;cases h
    | true=>
     rw[he] at h
     simp only[cond_true,Option.some.injEq,Prod.mk.injEq] at h
     obtain⟨rfl,_⟩:=h
     obtain⟨us,rfl,hu⟩:=hu
     exact⟨.inr ⟨ts,rfl⟩,fun A0' AL'=>⟨us,rfl,ZbP.liftT hL.a1 ts us he hu⟩⟩
   ·cases he:x.esc with
    | false=>rw[he] at h;cases h
    | true=>
     rw[he] at h
     simp only[cond_true,Option.some.injEq,Prod.mk.injEq] at h
     obtain⟨rfl,_⟩:=h
     exact⟨.inl he,fun A0' AL'=>Zca.lift hL.a1 x u he hu⟩
  ·rename_i b sz
   dsimp only at h
   cases hb:nth Hm b with
   | none=>rw[hb] at h;cases h
   | some blk=>
    rw[hb] at h
    cases blk<;>try (cases h;done)
    rename_i sz' xs
    dsimp only at h
    cases hs:Nat.beq sz sz' with
    | false=>rw[hs] at h;cases h
    | true=>
     rw[hs] at h
     obtain rfl:=Nat.eq_of_beq_eq_true hs
     simp only[cond_true,Option.some.injEq,Prod.mk.injEq] at h
     obtain⟨rfl,rfl⟩:=h
     refine⟨.inl rfl,fun A0' AL'=>?_⟩
     obtain⟨m,q1,q2,q3,q4⟩:=Zo7 pre hb hu
     have q5:=q4
     obtain⟨_,ad,cap,rfl,q6,q7⟩:=q5
     refine⟨_,_,_,rfl,rfl,q6,q3.2.1,fun hne=>?_⟩
     obtain⟨c,cs,el,fr',cap',rfl,e1,e2,e3,e4⟩:=Zhi q4 (.inl (List.length_pos_iff.2 hne))
     cases e1
     refine⟨c,0*sz,sz,rfl,hL.own pre.ok (Zvb q2) (hks _ (by simp)) q1,pre.ok.lt _ _ q1,?_⟩
     have:=ZrP pre.ok (A0':=A0') (AL':=AL') hL.a1 (l:=0) (n:=xs.length) q3 (by simpa using hne)
     simpa using this
  ·rename_i b sz of len
   dsimp only at h
   cases hb:nth Hm b with
   | none=>rw[hb] at h;cases h
   | some blk=>
    rw[hb] at h
    cases blk<;>try (cases h;done)
    rename_i sz' xs
    dsimp only at h
    cases hs:Nat.beq sz sz' with
    | false=>rw[hs] at h;cases h
    | true=>
     rw[hs] at h
     obtain rfl:=Nat.eq_of_beq_eq_true hs
     simp only[cond_true,Option.some.injEq,Prod.mk.injEq] at h
     obtain⟨rfl,rfl⟩:=h
     refine⟨.inl rfl,fun A0' AL'=>?_⟩
     obtain⟨m,q1,q2,q3,q4⟩:=ZmG pre hb hu
     have q5:=q4
     obtain⟨q8,ad,cap,rfl,q6,q7⟩:=q5
     have hlen:((xs.drop of).take len).length=len:=by simp only[List.length_take,List.length_drop];omega
     refine⟨_,_,_,rfl,hlen.symm,q6,fun x hx=>q3.2.1 x (List.mem_of_mem_drop (List.mem_of_mem_take hx)),fun hne=>?_⟩
     obtain⟨c,cs,el,fr',cap',rfl,e1,e2,e3,e4⟩:=Zhi q4 (.inl (by rw[← hlen];exact List.length_pos_iff.2 hne))
     cases e1
     exact⟨c,of*sz,sz,rfl,hL.own pre.ok (Zvb q2) (hks _ (by simp)) q1,pre.ok.lt _ _ q1,ZrP pre.ok hL.a1 q3 hne⟩
  ·simp only[Option.some.injEq,Prod.mk.injEq] at h
   obtain⟨rfl,rfl⟩:=h
   obtain⟨ad,rfl⟩:=hu
   exact⟨.inl rfl,fun A0' AL'=>⟨_,_,_,rfl,rfl,Nat.le_refl _,by simp,by simp⟩⟩
  ·rename_i cs
   dsimp only at h
   cases hl:frl (fr Hm n) cs with
   | none=>rw[hl] at h;cases h
   | some p=>
    obtain⟨l,ks1⟩:=p
    rw[hl] at h
    dsimp only at h
    cases he:D.escs l with
    | false=>rw[he] at h;cases h
    | true=>
     rw[he] at h
     simp only[cond_true,Option.some.injEq,Prod.mk.injEq] at h
     obtain⟨rfl,rfl⟩:=h
     obtain⟨us,rfl,h1⟩:=hu
     have g2:=ZuM n cs l ks1 pre hl hL hks us h1
     exact⟨.inl he,fun A0' AL'=>⟨us,rfl,g2 A0' AL'⟩⟩
  ·rename_i cs
   dsimp only at h
   cases hl:frl (fr Hm n) cs with
   | none=>rw[hl] at h;cases h
   | some p=>
    obtain⟨l,ks1⟩:=p
    rw[hl] at h
    simp only[Option.some.injEq,Prod.mk.injEq] at h
    obtain⟨rfl,rfl⟩:=h
    obtain⟨us,rfl,h1⟩:=hu
    have g2:=ZuM n cs l ks1 pre hl hL hks us h1
    exact⟨.inr ⟨_,rfl⟩,fun A0' AL'=>⟨us,rfl,g2 A0' AL'⟩⟩
termination_by (n,0)
theorem ZuM (n:Nat):∀(vs:List V) (ys:List D) (ks:List Nat),(pre:Pre G R w e a Hm)→frl (fr Hm n) vs=some (ys,ks)→∀{R':RP}{ks':List Nat},ZlN R R' ks'→(∀k∈ks,k∈ks')→∀us,Zby R w vs us→∀A0' AL',ZbP R'.A1 A0' AL' w ys us
 | [],ys,ks,pre,h,R',ks',hL,hks,us,hu=>by
  simp only[frl,Option.some.injEq,Prod.mk.injEq] at h
  obtain⟨rfl,rfl⟩:=h
  exact fun _ _=>hu
 | v :: vs,ys,ks,pre,h,R',ks',hL,hks,us,hu=>by
  simp only[frl] at h
  cases h1:fr Hm n v with
  | none=>rw[h1] at h;cases h
  | some p=>
   obtain⟨y,k1⟩:=p
   cases h2:frl (fr Hm n) vs with
   | none=>rw[h1,h2] at h;cases h
   | some q=>
    obtain⟨ys',k2⟩:=q
    rw[h1,h2] at h
    simp only[Option.some.injEq,Prod.mk.injEq] at h
    obtain⟨rfl,rfl⟩:=h
    obtain⟨u,us',rfl,e1,e2⟩:=hu
    obtain⟨g1,g2⟩:=Zp9 n v y k1 pre h1 hL (fun k hk=>hks k (by simp[hk])) u e1
    have g4:=ZuM n vs ys' k2 pre h2 hL (fun k hk=>hks k (by simp[hk])) us' e2
    exact fun A0' AL'=>⟨u,us',rfl,g2 A0' AL',g4 A0' AL'⟩
termination_by vs=>(n,vs.length+1)
end
theorem ZlN.refl (R:RP):ZlN R R []:=⟨rfl,rfl,fun _ h=>h,by simp⟩
theorem ZE0 (pre:Pre G R w e a Hm) {t:TypeId}{x:Operand}{y:Opd}{z:D} (hop:o.op = .makeInterface t x) (hx:Zac G x y=true) (ht:P.concrete t=true)
  (h:fr Hm 6 (y.val e)=some (z,[])) (hp:Za4 R.H [] nid [] H'):ZeO P o a w (ZaA R w nid 0 H' (.d (.iface t z))):=by
 have hv:=pre.opd hx
 obtain⟨_,g⟩:=Zp9 6 _ z [] pre h (ZlN.refl R) (fun _ h=>h) _ hv
 exact Zc0 (s:=Instr.makeInterface t (a.eval x)) (by unfold execOp;rw[hop]) (run_makeInterface w t _ ht) (ZaA.stay pre.ok hp ⟨_,rfl,g _ _⟩)
end
end Go.Proofs.YtnpidpcmpleiaaaGreatDoorE
