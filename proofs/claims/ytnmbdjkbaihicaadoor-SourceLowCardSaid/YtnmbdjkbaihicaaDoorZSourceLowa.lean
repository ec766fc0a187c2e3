/- SourceLow: part 1 of 6 of the proof. -/
import Derived.Calls
import Derived.Orders
import Derived.Test.YtnmbdjkbaihicaaDoorProg
import Derived.Below
import Derived.WalkKit
import Derived.Laws.MakeOwn
set_option maxRecDepth 100000
set_option maxHeartbeats 40000000
namespace Go.Proofs.YtnmbdjkbaihicaaDoorE
open Go
inductive D where
 | bool (b:Bool) | int (k:IntKind) (n:Int) | str (s:ByteArray)
 | list (own:Bool) (xs:List D) | agg (cs:List D) | tup (vs:List D)
 | fn (f:Nat) (caps:List D) | nilfn
 | rptr (cs:List D) | nilp
 | iface (t:Nat) (v:D) | nilI
inductive V where
 | d (x:D) | bad
 | ptr (b o:Nat) | eptr (b sz i k:Nat)
 | sl (b sz:Nat) | slp (b sz o len:Nat) | nilsl (sz:Nat)
 | agg (cs:List V) | tup (vs:List V)
 | fn (f:Nat) (caps:List V)
 | mp (b:Nat)
inductive Blk where
 | dead | cells (cs:List V) | arr (sz:Nat) (xs:List D)
 | mp (es:List (D×D))
abbrev Zo:=List Blk
abbrev Env:=Nat→V
def Env.set (e:Env) (i:Nat) (v:V):Env:=fun j=>bif Nat.beq i j then v else e j
def env0:Env:=fun _=>.bad
def Zeb:List Nat→List V→Env
 | i :: is,v :: vs=>(Zeb is vs).set i v
 | _,_=>env0
def D.isAgg:D→Bool
 | .agg _=>true
 | _=>false
mutual
def D.esc:D→Bool
 | .list own _=>own
 | .agg cs=>D.escs cs
 | .tup _=>false
 | .iface _ v=>v.esc
 | .fn _ caps=>caps.isEmpty
 | .rptr _=>false
 | _=>true
def D.escs:List D→Bool
 | []=>true
 | c :: cs=>c.esc&&(!c.isAgg&&D.escs cs)
end
def ZuF:List D→Bool
 | []=>true
 | c :: cs=>c.esc&&ZuF cs
mutual
def D.nofn:D→Bool
 | .fn _ caps=>caps.isEmpty
 | .agg cs=>D.nofns cs
 | .tup cs=>D.nofns cs
 | .rptr cs=>D.nofns cs
 | .iface _ v=>v.nofn
 | _=>true
def D.nofns:List D→Bool
 | []=>true
 | c :: cs=>c.nofn&&D.nofns cs
end
mutual
def Zqm:V→Bool
 | .d (.tup ts)=>ZuF ts
 | .d x=>x.esc
 | .agg cs=>Zoi cs
 | .tup cs=>Zoi cs
 | .fn _ cs=>Zoi cs
 | _=>true
def Zoi:List V→Bool
 | []=>true
 | v :: vs=>Zqm v&&Zoi vs
end
mutual
def Zlu:V→Bool
 | .d x=>x.nofn
 | .agg cs=>ZkL cs
 | .tup cs=>ZkL cs
 | .fn _ cs=>ZkL cs
 | _=>true
def ZkL:List V→Bool
 | []=>true
 | v :: vs=>Zlu v&&ZkL vs
end
def Zlz:List Blk→Bool
 | []=>true
 | .cells cs :: r=>Zoi cs&&Zlz r
 | _ :: r=>Zlz r
def ZiS:List Blk→Bool
 | []=>true
 | .cells cs :: r=>ZkL cs&&ZiS r
 | _ :: r=>ZiS r
def V.isAggV:V→Bool
 | .d (.agg _)=>true
 | .agg _=>true
 | _=>false
def V.isD:V→Bool
 | .d _=>true
 | _=>false
def D.cells:D→List D
 | .agg cs=>cs
 | x=>[x]
inductive Opd where
 | t (i:Nat) | c (v:V)
inductive O where
 | mov (x:Opd)
 | pick (c a b:Opd)
 | alloc (z:V)
 | box (x:Opd)
 | build (z:List V) (ps:List (Nat×Nat×Opd))
 | bslice (sz:Nat) (z:List D) (len:Nat) (ps:List (Nat×Opd))
 | load (n:Nat) (ag:Bool) (x:Opd)
 | store (n:Nat) (x v:Opd)
 | nilck (x:Opd)
 | bin (op:BinOp) (x y:Opd)
 | eqv (ks:List Bool) (neg:Bool) (x y:Opd)
 | un (op:UnOp) (x:Opd)
 | conv (k:IntKind) (x:Opd)
 | mkfn (f:Nat) (caps:List Opd)
 | mkslice (sz:Nat) (z:List D) (n c:Opd)
 | slice (sz:Nat) (x:Opd) (lo hi mx:Option Opd)
 | faddr (off:Nat) (x:Opd)
 | field (off n:Nat) (ag:Bool) (x:Opd)
 | iaddr (sz:Nat) (x i:Opd)
 | index (len sz:Nat) (ag:Bool) (x i:Opd)
 | indexS (x i:Opd)
 | iaddrA (len sz:Nat) (x i:Opd)
 | len (x:Opd)
 | append (sz:Nat) (x y:Opd)
 | appendD (sz:Nat) (x y:Opd)
 | mx (isMax:Bool) (xs:List Opd)
 | extract (x:Opd) (i:Nat)
 | mkif (t:Nat) (x:Opd)
 | call (f:Nat) (args:List Opd)
 | callv (x:Opd) (args:List Opd)
 | invoke (tab:List (Nat×Nat)) (x:Opd) (args:List Opd)
 | mkmap
 | mapset (ks:List Bool) (m k v:Opd)
 | mapget (ks:List Bool) (z:D) (m k:Opd)
 | panic
 | callk (f:Nat) (args:List Opd) (chk:List Opd)
 | nilq (x:Opd)
 | spec (id:Nat) (args:List Opd)
structure Op1 where
 dst:Option Nat
 op:O
 guard:Option (Nat×Bool)
 mask:List Nat
 eff:Nat
inductive C where
 | skip | ret | exit (id:Nat)
 | seq (a b:C)
 | cond (x:Opd) (a b:C)
 | block (id:Nat) (a:C)
 | loop (live outs:List Nat) (a:C)
 | ops (l:List Op1)
 | draw (l:List Op1)
inductive Ex where
 | normal | exit (id:Nat) | ret
structure FnI where
 nargs:Nat
 body:C
 res:List (Nat×Option (Nat×Bool))
structure Ctx where
 code:Nat→Option FnI
 mode:Nat→Nat
abbrev oA (op:O):Op1:=⟨none,op,none,[],0⟩
abbrev oB (d:Nat) (op:O):Op1:=⟨some d,op,none,[],0⟩
abbrev oG (d:Nat) (op:O) (s:Nat) (b:Bool):Op1:=⟨some d,op,some (s,b),[],0⟩
abbrev oM (d:Nat) (op:O) (m:List Nat):Op1:=⟨some d,op,none,m,0⟩
abbrev iN (n:Int):Opd:=.c (.d (.int .i64 n))
abbrev bT:Opd:=.c (.d (.bool true))
abbrev bF:Opd:=.c (.d (.bool false))
def Opd.val (e:Env):Opd→V
 | .t i=>e i
 | .c v=>v
def vals (e:Env):List Opd→List V
 | []=>[]
 | x :: xs=>x.val e :: vals e xs
def Zkz:List V→Option (List D)
 | []=>some []
 | .d x :: r=>match Zkz r with | some l=>some (x :: l) | none=>none
 | _ :: _=>none
def Zs8 (cs:List V):V:=match Zkz cs with | some l=>.d (.agg l) | none=>.agg cs
def Zu6 (cs:List V):V:=match Zkz cs with | some l=>.d (.tup l) | none=>.tup cs
def ZcN:List D→List V
 | []=>[]
 | x :: xs=>.d x :: ZcN xs
def V.cells:V→List V
 | .d (.agg cs)=>ZcN cs
 | .agg cs=>cs
 | v=>[v]
def nth {α:Type}:List α→Nat→Option α
 | [],_=>none
 | x :: _,0=>some x
 | _ :: xs,n+1=>nth xs n
def Zfu {α:Type}:List α→Nat→α→List α
 | [],_,_=>[]
 | _ :: xs,0,v=>v :: xs
 | x :: xs,n+1,v=>x :: Zfu xs n v
def Zap {α:Type}:List α→Nat→List α→List α
 | cs,_,[]=>cs
 | cs,o,v :: vs=>Zap (Zfu cs o v) (o+1) vs
def fzl (f:V→Option D):List V→Option (List D)
 | []=>some []
 | v :: vs=>match f v,fzl f vs with | some x,some l=>some (x :: l) | _,_=>none
def fz (H:Zo):Nat→V→Option D
 | 0,_=>none
 | n+1,v=>match v with
  | .d x=>some x
  | .sl b sz=>match nth H b with
   | some (.arr sz' xs)=>bif Nat.beq sz sz' then some (.list false xs) else none
   | _=>none
  | .slp b sz o len=>match nth H b with
   | some (.arr sz' xs)=>bif Nat.beq sz sz' then some (.list false ((xs.drop o).take len)) else none
   | _=>none
  | .nilsl _=>some (.list true [])
  | .agg cs=>match fzl (fz H n) cs with | some l=>some (.agg l) | none=>none
  | .fn f caps=>match fzl (fz H n) caps with | some l=>some (.fn f l) | none=>none
  | .ptr b o=>match nth H b with
   | some (.cells cs)=>match fzl (fz H n) (cs.drop o) with | some l=>some (.rptr l) | none=>none
   | _=>none
  | _=>none
def fzs (H:Zo) (l:List V):Option (List D):=fzl (fz H 6) l
def frl (f:V→Option (D×List Nat)):List V→Option (List D×List Nat)
 | []=>some ([],[])
 | v :: vs=>match f v,frl f vs with | some (x,k),some (l,ks)=>some (x :: l,k++ks) | _,_=>none
def fr (H:Zo):Nat→V→Option (D×List Nat)
 | 0,_=>none
 | n+1,v=>match v with
  | .d x=>match x with
   | .tup ts=>bif ZuF ts then some (.tup ts,[]) else none
   | x=>bif x.esc then some (x,[]) else none
  | .sl b sz=>match nth H b with
   | some (.arr sz' xs)=>bif Nat.beq sz sz' then some (.list true xs,[b]) else none
   | _=>none
  | .slp b sz o len=>match nth H b with
   | some (.arr sz' xs)=>bif Nat.beq sz sz' then some (.list true ((xs.drop o).take len),[b]) else none
   | _=>none
  | .nilsl _=>some (.list true [],[])
  | .agg cs=>match frl (fr H n) cs with | some (l,ks)=>bif D.escs l then some (.agg l,ks) else none | none=>none
  | .tup cs=>match frl (fr H n) cs with | some (l,ks)=>some (.tup l,ks) | none=>none
  | _=>none
def idx:List Nat→Nat→Nat→Option Nat
 | [],_,_=>none
 | a :: l,b,i=>bif Nat.beq a b then some i else idx l b (i+1)
mutual
def ZmE (ρ:Nat→Option Nat):V→V
 | .d x=>.d x
 | .bad=>.bad
 | .ptr b o=>match ρ b with | some j=>.ptr j o | none=>.bad
 | .eptr b sz i k=>match ρ b with | some j=>.eptr j sz i k | none=>.bad
 | .sl b sz=>match ρ b with | some j=>.sl j sz | none=>.bad
 | .slp b sz o len=>match ρ b with | some j=>.slp j sz o len | none=>.bad
 | .nilsl sz=>.nilsl sz
 | .agg cs=>.agg (ZhS ρ cs)
 | .tup cs=>.tup (ZhS ρ cs)
 | .fn f caps=>.fn f (ZhS ρ caps)
 | .mp b=>match ρ b with | some j=>.mp j | none=>.bad
def ZhS (ρ:Nat→Option Nat):List V→List V
 | []=>[]
 | v :: vs=>ZmE ρ v :: ZhS ρ vs
end
def Zhw (ρ:Nat→Option Nat):Blk→Blk
 | .cells cs=>.cells (ZhS ρ cs)
 | b=>b
mutual
def ZDL:V→List Nat
 | .ptr b _=>[b]
 | .eptr b _ _ _=>[b]
 | .sl b _=>[b]
 | .slp b _ _ _=>[b]
 | .mp b=>[b]
 | .agg cs=>ZhP cs
 | .tup cs=>ZhP cs
 | .fn _ caps=>ZhP caps
 | _=>[]
def ZhP:List V→List Nat
 | []=>[]
 | v :: vs=>ZDL v++ZhP vs
end
def Zvv (H:Zo) (b:Nat):List Nat:=match nth H b with | some (.cells cs)=>ZhP cs | _=>[]
def Zab (H:Zo) (b:Nat):Bool:=match nth H b with | some .dead=>false | some _=>true | none=>false
def ZiK (l:List Nat) (b:Nat):Bool:=match l with | []=>false | a :: l=>bif Nat.beq a b then true else ZiK l b
def Zf3 (H:Zo):List Nat→List Nat→List Nat
 | l,[]=>l
 | l,b :: bs=>bif ZiK l b || !(Zab H b) then Zf3 H l bs else Zf3 H (l++[b]) bs
def ZkQ (H:Zo):Nat→Nat→List Nat→List Nat
 | 0,_,l=>l
 | n+1,i,l=>match nth l i with
  | some b=>ZkQ H n (i+1) (Zf3 H l (Zvv H b))
  | none=>l
def Zmr:Nat→List Nat
 | 0=>[]
 | n+1=>Zmr n++[n]
def ZmG (H:Zo) (k:Nat) (vs:List V):List Nat:=
 ZkQ H (H.length+1) 0 (Zf3 H (Zmr k) (ZhP vs))
def Zmm:List Nat→Bool
 | []=>true
 | a :: l=>!(ZiK l a)&&Zmm l
def pick (H:Zo) (ρ:Nat→Option Nat):List Nat→Zo
 | []=>[]
 | b :: bs=>(match nth H b with | some blk=>Zhw ρ blk | none=>.dead) :: pick H ρ bs
def Zqj (n:Nat):List Nat→Bool
 | []=>true
 | a :: l=>Nat.blt a n&&Zqj n l
def extract (k:Nat) (vs:List V) (H:Zo):Option (List Nat×List V×Zo):=
 let L:=ZmG H k vs
 bif Zmm L&&Zqj H.length L then some (L,ZhS (fun b=>idx L b 0) vs,pick H (fun b=>idx L b 0) L) else none
def Zb8:Nat→List V→List V×List Blk
 | _,[]=>([],[])
 | n,.nilsl sz :: vs=>bif Nat.blt 0 sz then (let r:=Zb8 (n+1) vs;(.sl n sz :: r.1,.arr sz [] :: r.2)) else (let r:=Zb8 n vs;(.nilsl sz :: r.1,r.2))
 | n,v :: vs=>let r:=Zb8 n vs;(v :: r.1,r.2)
def ZcM:Nat→Zo→Zo×List Blk
 | _,[]=>([],[])
 | n,.cells cs :: H=>let r:=Zb8 n cs;let q:=ZcM (n+r.2.length) H;(.cells r.1 :: q.1,r.2++q.2)
 | n,b :: H=>let q:=ZcM n H;(b :: q.1,q.2)
def Zor (k:Nat) (vs:List V) (H:Zo):Option (List V×Zo):=
 match extract k vs H with
 | none=>none
 | some (_,vs1,H1)=>
  let r:=Zb8 H1.length vs1
  let q:=ZcM (H1.length+r.2.length) H1
  match extract k r.1 (q.1++(r.2++q.2)) with
  | none=>none
  | some (_,vs2,H2)=>some (vs2,H2)
mutual
def eqD:D→D→Option Bool
 | .bool a,.bool b=>some (a==b)
 | .int k a,.int k' b=>bif k==k' then some (a==b) else none
 | .agg xs,.agg ys=>ZoO xs ys
 | _,_=>none
def ZoO:List D→List D→Option Bool
 | [],[]=>some true
 | x :: xs,y :: ys=>match eqD x y,ZoO xs ys with | some a,some b=>some (a&&b) | _,_=>none
 | _,_=>none
end
def ZeB:List Bool→List D→Bool
 | [],[]=>true
 | true :: ks,.bool _ :: cs=>ZeB ks cs
 | false :: ks,.int _ _ :: cs=>ZeB ks cs
 | _,_=>false
def Zdz (ks:List Bool):D→Bool
 | .agg cs=>(match ks with | [_]=>false | ks=>ZeB ks cs)
 | x=>(match ks with | [_]=>ZeB ks [x] | _=>false)
def lim:Nat:=1073741824
def ZE {α:Type} (xs:List α) (i:Int):Option α:=bif decide (0≤i) then nth xs i.toNat else none
abbrev Res:=Option (V×List (Nat×Blk)×List Blk)
def Zc7 (v:V):Res:=some (v,[],[])
def ZzX (op:BinOp) (k:IntKind) (a b:Int):Option D:=
 match op with
 | .add=>some (.int k (k.wrap (a+b)))
 | .sub=>some (.int k (k.wrap (a-b)))
 | .mul=>some (.int k (k.wrap (a*b)))
 | .quo=>bif b==0 then none else some (.int k (k.wrap (a.tdiv b)))
 | .rem=>bif b==0 then none else some (.int k (a.tmod b))
 | .and=>some (.int k (k.wrap (BitVec.ofInt k.bits a &&& BitVec.ofInt k.bits b).toNat))
 | .or=>some (.int k (k.wrap (BitVec.ofInt k.bits a ||| BitVec.ofInt k.bits b).toNat))
 | .xor=>some (.int k (k.wrap (BitVec.ofInt k.bits a ^^^ BitVec.ofInt k.bits b).toNat))
 | .eql=>some (.bool (a==b))
 | .neq=>some (.bool (a != b))
 | .lss=>some (.bool (decide (a<b)))
 | .leq=>some (.bool (decide (a≤b)))
 | .gtr=>some (.bool (decide (b<a)))
 | .geq=>some (.bool (decide (b≤a)))
 | _=>none
def shI (op:BinOp) (k:IntKind) (a b:Int):Option D:=
 bif decide (b<0) then none else
 match op with
 | .shl=>some (.int k (k.wrap (a*2 ^ (min b.toNat k.bits))))
 | .shr=>some (.int k (a.fdiv (2 ^ (min b.toNat k.bits))))
 | _=>none
def ZnP (op:BinOp) (x y:V):Option D:=
 match op,x,y with
 | .shl,.d (.int k a),.d (.int _ b)=>shI .shl k a b
 | .shr,.d (.int k a),.d (.int _ b)=>shI .shr k a b
 | op,.d (.int k a),.d (.int k' b)=>bif k==k' then ZzX op k a b else none
 | _,_,_=>none
def unE (op:UnOp) (x:V):Option D:=
 match op,x with
 | .not,.d (.bool b)=>some (.bool !b)
 | .neg,.d (.int k n)=>some (.int k (k.wrap (0-n)))
 | _,_=>none
def V.okb:V→Bool
 | .bad=>false
 | .tup _=>false
 | .d (.tup _)=>false
 | _=>true
def V.flat:V→Bool
 | .bad=>false
 | .tup _=>false
 | .agg _=>false
 | .d (.tup _)=>false
 | .d (.agg _)=>false
 | _=>true
def ZrA:List V→Bool
 | []=>true
 | v :: vs=>v.flat&&ZrA vs
def Zdb (n:Nat) (ag:Bool) (cs:List V):Option V:=
 bif ag then (bif Nat.beq (cs.take n).length n then some (Zs8 (cs.take n)) else none) else cs.head?
def Zds (H:Zo) (n:Nat) (ag:Bool) (x:V):Option V:=
 match x with
 | .ptr b o=>match nth H b with
  | some (.cells cs)=>Zdb n ag (cs.drop o)
  | _=>none
 | .eptr b sz i k=>match nth H b with
  | some (.arr sz' xs)=>bif Nat.beq sz sz' then
    match nth xs i with
    | some x=>Zdb n ag (ZcN (x.cells.drop k))
    | none=>none
   else none
  | _=>none
 | .d (.rptr cs)=>Zdb n ag (ZcN cs)
 | _=>none
def Zmd (H:Zo) (n:Nat) (x v:V):Res:=
 match x with
 | .ptr b o=>match nth H b with
  | some (.cells cs)=>bif Nat.beq v.cells.length n&&Nat.ble (o+n) cs.length&&v.okb&&ZrA v.cells then some (.bad,[(b,.cells (Zap cs o v.cells))],[]) else none
  | _=>none
 | .eptr b sz i k=>match nth H b with
  | some (.arr sz' xs)=>bif Nat.beq sz sz' then
    match nth xs i,fr H 6 v with
    | some x,some (y,ks)=>
     bif ZiK ks b then none else
     bif Nat.beq y.cells.length n&&Nat.ble (k+n) x.cells.length&&(V.d y).okb&&(x.isAgg || !y.isAgg) then
      some (.bad,(b,.arr sz (Zfu xs i (bif x.isAgg then .agg (Zap x.cells k y.cells) else y))) :: ks.map (fun j=>(j,.dead)),[])
     else none
    | _,_=>none
   else none
  | _=>none
 | _=>none
def elems (H:Zo) (x:V):Option (List D):=
 match x with
 | .d (.list _ xs)=>some xs
 | .sl b sz=>match nth H b with | some (.arr sz' xs)=>bif Nat.beq sz sz' then some xs else none | _=>none
 | .slp b sz o len=>match nth H b with | some (.arr sz' xs)=>bif Nat.beq sz sz' then some ((xs.drop o).take len) else none | _=>none
 | .nilsl _=>some []
 | _=>none
def Zkj (sz:Nat) (xs:List D) (l:Nat):Bool:=match nth xs l with | some z=>Nat.beq z.cells.length sz&&(V.d z).okb | none=>true
def Zk8 (nid:Nat) (H:Zo) (sz:Nat) (x y:V):Res:=
 match elems H y with
 | none=>none
 | some ys=>
  bif Zkj sz ys 0 then
   match x with
   | .nilsl _=>bif Nat.ble ys.length lim then some (.sl nid sz,[],[.arr sz ys]) else none
   | .sl b sz'=>match nth H b with
    | some (.arr sz'' xs)=>bif Nat.beq sz sz'&&Nat.beq sz sz'' then
      (bif Nat.ble (xs.length+ys.length) lim then some (.sl nid sz,[(b,.dead)],[.arr sz (xs++ys)]) else none)
     else none
    | _=>none
   | .slp b sz' o len=>match nth H b with
    | some (.arr sz'' xs)=>bif Nat.beq sz sz'&&Nat.beq sz sz''&&Nat.ble (o+len+ys.length) xs.length then
      some (.slp b sz o (len+ys.length),[(b,.arr sz (xs.take (o+len)++(ys++xs.drop (o+len+ys.length))))],[])
     else none
    | _=>none
   | _=>none
  else none
def Zie (H:Zo) (sz:Nat) (x y:V):Option V:=
 match x with
 | .nilsl _=>(match elems H y with
  | some ys=>bif Zkj sz ys 0&&Nat.ble ys.length lim then some (.d (.list true ys)) else none
  | none=>none)
 | _=>none
def Zhk (v:Option V) (dflt:Nat):Option Nat:=
 match v with
 | none=>some dflt
 | some (.d (.int _ n))=>bif decide (0≤n) then some n.toNat else none
 | _=>none
def Zib (H:Zo) (sz:Nat) (x:V) (lo hi mx:Option V):Option V:=
 match elems H x with
 | none=>none
 | some xs=>
  match Zhk lo 0,Zhk hi xs.length with
  | some l,some h=>
   bif Nat.ble l h&&Nat.ble h xs.length then
    match mx with
    | none=>match x with
     | .d (.list own _)=>bif Nat.beq l 0 || Zkj sz xs l then some (.d (.list own ((xs.drop l).take (h-l)))) else none
     | .sl b sz'=>bif Nat.beq sz sz' then some (.slp b sz l (h-l)) else none
     | .slp b sz' o _=>bif Nat.beq sz sz' then some (.slp b sz (o+l) (h-l)) else none
     | .nilsl _=>some (.nilsl sz)
     | _=>none
    | some m=>match Zhk (some m) 0 with
     | some m=>bif Nat.beq m l&&Nat.beq m h then some (.nilsl sz) else none
     | none=>none
   else none
  | _,_=>none
def ZhO (H:Zo) (sz:Nat) (x i:V):Option V:=
 match i with
 | .d (.int _ i)=>
  match x with
  | .d (.list _ xs)=>match ZE xs i with | some x=>bif Nat.beq x.cells.length sz&&(V.d x).okb then some (.d (.rptr x.cells)) else none | none=>none
  | .sl b sz'=>match nth H b with
   | some (.arr sz'' xs)=>bif Nat.beq sz sz'&&Nat.beq sz sz'' then (match ZE xs i with | some _=>some (.eptr b sz i.toNat 0) | none=>none) else none
   | _=>none
  | .slp b sz' o len=>match nth H b with
   | some (.arr sz'' xs)=>bif Nat.beq sz sz'&&Nat.beq sz sz'' then (match ZE ((xs.drop o).take len) i with | some _=>some (.eptr b sz (o+i.toNat) 0) | none=>none) else none
   | _=>none
  | _=>none
 | _=>none
def Zml (len sz:Nat) (ag:Bool) (x i:V):Option V:=
 match i with
 | .d (.int _ i)=>bif x.isAggV&&(decide (0≤i)&&decide (i<len)) then Zdb sz ag (x.cells.drop (i.toNat*sz)) else none
 | _=>none
def ZjP (x i:V):Option V:=
 match x,i with
 | .d (.str s),.d (.int _ i)=>bif decide (0≤i) then (match s[i.toNat]? with | some b=>some (.d (.int .u8 b.toNat)) | none=>none) else none
 | _,_=>none
def ZjN (_:Zo) (off:Nat) (x:V):Option V:=
 match x with
 | .ptr b o=>some (.ptr b (o+off))
 | .eptr b sz i k=>some (.eptr b sz i (k+off))
 | .d (.rptr cs)=>some (.d (.rptr (cs.drop off)))
 | _=>none
def Zuw (_:Zo) (x:V):Option V:=
 match x with
 | .d (.fn f caps)=>some (.d (.fn f caps))
 | .fn f caps=>some (.fn f caps)
 | .d (.iface t v)=>some (.d (.iface t v))
 | .d (.rptr cs)=>some (.d (.rptr cs))
 | .ptr b o=>some (.ptr b o)
 | .eptr b sz i k=>some (.eptr b sz i k)
 | _=>none
def Zge (H:Zo) (len sz:Nat) (x i:V):Option V:=
 match i with
 | .d (.int _ i)=>bif decide (0≤i)&&decide (i<len) then ZjN H (i.toNat*sz) x else none
 | _=>none
def Zr5 (H:Zo) (x:V):Option D:=
 match elems H x with | some xs=>some (.int .i64 xs.length) | none=>none
def mxE (isMax:Bool):List V→Option D
 | []=>none
 | .d (.int k a) :: r=>go k a r
 | _=>none
where
 go (k:IntKind) (a:Int):List V→Option D
  | []=>some (.int k a)
  | .d (.int _ b) :: r=>go k (bif isMax then (bif decide (a<b) then b else a) else (bif decide (b<a) then b else a)) r
  | _=>none
def ZqE (z:List V):List (Nat×Nat×V)→Option (List V)
 | []=>some z
 | (off,size,v) :: r=>bif v.okb&&Nat.beq v.cells.length size&&Nat.ble (off+size) z.length then ZqE (Zap z off v.cells) r else none
def Zp2 (H:Zo) (sz:Nat) (xs:List D):List (Nat×V)→Option (List D×List Nat)
 | []=>some (xs,[])
 | (i,v) :: r=>match fr H 6 v with
  | some (y,ks)=>(bif Nat.blt i xs.length&&Nat.beq y.cells.length sz&&(V.d y).okb then match Zp2 H sz (Zfu xs i y) r with | some (l,k2)=>some (l,ks++k2) | none=>none else none)
  | none=>none
def Zjq (es:List (D×D)) (k:D):Option (Option D):=
 match es with
 | []=>some none
 | (a,v) :: r=>match eqD k a with | some true=>some (some v) | some false=>Zjq r k | none=>none
def Zyt (es:List (D×D)) (k z:D):Option D:=match Zjq es k with | some (some y)=>some y | some none=>some z | none=>none
def ZiM (es:List (D×D)) (k v:D):Option (List (D×D)):=
 match es with
 | []=>some [(k,v)]
 | (a,u) :: r=>match eqD k a with
  | some true=>some ((a,v) :: r)
  | some false=>(match ZiM r k v with | some l=>some ((a,u) :: l) | none=>none)
  | none=>none
def Zhr:D→Bool
 | .bool _=>true
 | .int _ _=>true
 | _=>false
def Zmq (H:Zo) (ks:List Bool) (m k v:V):Res:=
 match m,k,v with
 | .mp b,.d k,.d y=>(match nth H b with
  | some (.mp es)=>(match Zdz ks k&&Zhr y with | true=>(match ZiM es k y with | some l=>some (.bad,[(b,.mp l)],[]) | none=>none) | false=>none)
  | _=>none)
 | _,_,_=>none
def Zlg (H:Zo) (ks:List Bool) (z:D) (m k:V):Option D:=
 match m,k with
 | .mp b,.d k=>(match nth H b with
  | some (.mp es)=>(match Zdz ks k with | true=>Zyt es k z | false=>none)
  | _=>none)
 | _,_=>none
def Zsr:List D→Option (List (Int×Int))
 | []=>some []
 | .agg [.int .i64 a,.int .i64 b] :: r=>match Zsr r with | some l=>some ((a,b) :: l) | none=>none
 | _=>none
def pc (zs:List (Int×Int)) (j:Nat):Int×Int:=zs[j]?.getD (0,0)
def ZeV (zs:List (Int×Int)) (p:Int):Nat→Int
 | 0=>-1
 | k+1=>bif ((pc zs k).1 != p || decide (p<0)) then ZeV zs p k else (k:Int)
def Zkb (id:Nat) (l:List D):Option D:=
 match id,l with
 | 0,[.agg [_,_,.list _ xs],.int .i64 p]=>(match Zsr xs with | some zs=>bif Nat.ble zs.length lim then some (.int .i64 (ZeV zs p zs.length)) else none | none=>none)
 | _,_=>none
abbrev Zbp:=Nat→List V→Zo→Option (V×Zo)
def Zgt (Γ:Ctx) (cf:Zbp) (nid:Nat) (H:Zo) (f:Nat) (args:List V):Res:=
 match Γ.mode f with
 | 0=>match fzs H args with
  | some l=>match cf f (ZcN l) [] with
   | some (v,H1)=>match fr H1 6 v with | some (x,_)=>(match x with | .tup ts=>some (.tup (ZcN ts),[],[]) | x=>some (.d x,[],[])) | none=>none
   | none=>none
  | none=>none
 | 1=>match fzs H args with
  | some l=>match cf f (ZcN l) [] with
   | some (v,H1)=>bif Zqm v&&Zlz H1 then let up:=fun j=>some (nid+j);some (ZmE up v,[],H1.map (Zhw up)) else none
   | none=>none
  | none=>none
 | _=>
  match extract 0 args H with
  | none=>none
  | some (L,args',H0)=>match cf f args' H0 with
   | some (v,H1)=>bif Zlu v&&ZiS H1 then
     let back:=fun j=>match nth L j with | some b=>some b | none=>some (nid+(j-L.length))
     some (ZmE back v,L.zip (H1.map (Zhw back)),(H1.drop L.length).map (Zhw back)) else none
   | none=>none
def Zeo (H:Zo):List (Nat×Blk)→Zo
 | []=>H
 | (b,blk) :: r=>Zeo (Zfu H b blk) r
def Zv9 (e:Env) (H H':Zo):List Opd→Bool
 | []=>true
 | x :: xs=>(match x.val e with
  | .ptr b o=>(match Zds H 1 false (.ptr b o),Zds H' 1 false (.ptr b o) with | some (.mp i),some (.mp j)=>Nat.beq i j | _,_=>false)
  | _=>false)&&Zv9 e H H' xs
def ZjW:V→Option (Nat×List V)
 | .fn f caps=>some (f,caps)
 | .d (.fn f caps)=>some (f,ZcN caps)
 | _=>none
def Zgv (Γ:Ctx) (v:V) (f:Nat) (caps:List V):Bool:=v.isD&&(!(Nat.ble (Γ.mode f) 1) && !caps.isEmpty)
def ZlC (tab:List (Nat×Nat)) (t:Nat):Option Nat:=
 match tab with
 | []=>none
 | (a,f) :: r=>bif Nat.beq a t then some f else ZlC r t
def opE (Γ:Ctx) (cf:Zbp) (e:Env) (nid:Nat) (H:Zo):O→Res
 | .mov x=>Zc7 (x.val e)
 | .pick c a b=>match c.val e with | .d (.bool t)=>Zc7 (bif t then a.val e else b.val e) | _=>none
 | .alloc z=>some (.ptr nid 0,[],[.cells z.cells])
 | .box x=>bif (x.val e).okb then some (.ptr nid 0,[],[.cells (x.val e).cells]) else none
 | .build z ps=>match ZqE z (ps.map fun(o,s,x)=>(o,s,x.val e)) with | some cs=>Zc7 (Zs8 cs) | none=>none
 | .bslice sz z len ps=>bif Nat.beq len 0 then Zc7 (.nilsl sz) else match Zp2 H sz (List.replicate len (match z with | [x]=>x | z=>.agg z)) (ps.map fun(i,x)=>(i,x.val e)) with
  | some (xs,ks)=>some (.sl nid sz,ks.map (fun j=>(j,.dead)),[.arr sz xs])
  | none=>none
 | .load n ag x=>match Zds H n ag (x.val e) with | some v=>Zc7 v | none=>none
 | .store n x v=>Zmd H n (x.val e) (v.val e)
 | .nilck x=>match Zuw H (x.val e) with | some v=>Zc7 v | none=>none
 | .bin op x y=>match ZnP op (x.val e) (y.val e) with | some r=>Zc7 (.d r) | none=>none
 | .eqv ks neg x y=>match x.val e,y.val e with
  | .d a,.d b=>(match Zdz ks a with | true=>(match eqD a b with | some r=>Zc7 (.d (.bool (bif neg then !r else r))) | none=>none) | false=>none)
  | _,_=>none
 | .un op x=>match unE op (x.val e) with | some r=>Zc7 (.d r) | none=>none
 | .conv k x=>match x.val e with | .d (.int _ n)=>Zc7 (.d (.int k (k.wrap n))) | _=>none
 | .mkfn f caps=>Zc7 (match caps with | []=>.d (.fn f []) | caps=>.fn f (vals e caps))
 | .mkslice sz z n c=>match n.val e,c.val e with
  | .d (.int _ n),.d (.int _ c)=>bif decide (0≤n)&&decide (n≤lim)&&decide (n==c) then
    some (.sl nid sz,[],[.arr sz (List.replicate n.toNat (match z with | [x]=>x | z=>.agg z))]) else none
  | _,_=>none
 | .slice sz x lo hi mx=>match Zib H sz (x.val e) (lo.map (·.val e)) (hi.map (·.val e)) (mx.map (·.val e)) with | some v=>Zc7 v | none=>none
 | .faddr off x=>match ZjN H off (x.val e) with | some v=>Zc7 v | none=>none
 | .field off n ag x=>match x.val e with
  | .d (.agg cs)=>(match Zdb n ag (ZcN (cs.drop off)) with | some v=>Zc7 v | none=>none)
  | .agg cs=>(match Zdb n ag (cs.drop off) with | some v=>Zc7 v | none=>none)
  | _=>none
 | .iaddr sz x i=>match ZhO H sz (x.val e) (i.val e) with | some v=>Zc7 v | none=>none
 | .index len sz ag x i=>match Zml len sz ag (x.val e) (i.val e) with | some v=>Zc7 v | none=>none
 | .indexS x i=>match ZjP (x.val e) (i.val e) with | some v=>Zc7 v | none=>none
 | .iaddrA len sz x i=>match Zge H len sz (x.val e) (i.val e) with | some v=>Zc7 v | none=>none
 | .len x=>match Zr5 H (x.val e) with | some r=>Zc7 (.d r) | none=>none
 | .append sz x y=>Zk8 nid H sz (x.val e) (y.val e)
 | .appendD sz x y=>match Zie H sz (x.val e) (y.val e) with | some v=>Zc7 v | none=>none
 | .mx b xs=>match mxE b (vals e xs) with | some r=>Zc7 (.d r) | none=>none
 | .extract x i=>match x.val e with
  | .tup vs=>(match nth vs i with | some v=>Zc7 v | none=>none)
  | .d (.tup vs)=>(match nth vs i with | some v=>Zc7 (.d v) | none=>none)
  | _=>none
 | .mkif t x=>match fr H 6 (x.val e) with | some (y,[])=>Zc7 (.d (.iface t y)) | _=>none
 | .call f args=>Zgt Γ cf nid H f (vals e args)
 | .callv x args=>match ZjW (x.val e) with
  | some (f,caps)=>(match Zgv Γ (x.val e) f caps with | true=>none | false=>Zgt Γ cf nid H f (vals e args++caps))
  | none=>none
 | .invoke tab x args=>match x.val e with
  | .d (.iface t y)=>(match ZlC tab t with | some f=>Zgt Γ cf nid H f (.d y :: vals e args) | none=>none)
  | _=>none
 | .mkmap=>some (.mp nid,[],[.mp []])
 | .mapset ks m k v=>Zmq H ks (m.val e) (k.val e) (v.val e)
 | .mapget ks z m k=>match Zlg H ks z (m.val e) (k.val e) with | some r=>Zc7 (.d r) | none=>none
 | .panic=>none
 | .callk f args _=>Zgt Γ cf nid H f (vals e args)
 | .spec id args=>match H,Zkz (vals e args) with | [],some l=>(match Zkb id l with | some r=>Zc7 (.d r) | none=>none) | _,_=>none
 | .nilq x=>match elems H (x.val e) with | some xs=>(match Nat.blt 0 xs.length with | true=>Zc7 (.d (.bool false)) | false=>none) | none=>none
def ZpK (e:Env) (dst:Option Nat) (v:V):Env:=match dst with | some i=>e.set i v | none=>e
def ZfJ (e:Env) (g:Option (Nat×Bool)):Option Bool:=
 match g with
 | none=>some true
 | some (s,b)=>match e s with | .d (.bool t)=>some (t==b) | .d (.tup [])=>some false | _=>none
def ZhX (Γ:Ctx) (cf:Zbp):List Op1→Env→Zo→Option (Env×Zo)
 | [],e,H=>some (e,H)
 | o :: r,e,H=>match ZfJ e o.guard with
  | some true=>(match opE Γ cf e H.length H o.op with
   | some (v,up,nw)=>ZhX Γ cf r (ZpK e o.dst v) (Zeo H up++nw)
   | none=>none)
  | some false=>ZhX Γ cf r (ZpK e o.dst (.d (.tup []))) H
  | none=>none
def ZxI (H:Zo) (b:Nat):Nat→Zo
 | 0=>H
 | n+1=>ZxI (Zfu H b .dead) (b+1) n
def Zgr (H:Zo) (pos:List (Nat×Nat)):List Nat→Zo
 | []=>H
 | i :: r=>match nth pos i with | some (b,n)=>Zgr (ZxI H b n) pos r | none=>Zgr H pos r
def ZtX:List (Nat×Blk)→Bool
 | []=>true
 | (_,.dead) :: _=>false
 | _ :: r=>ZtX r
def Zo0 (eff:Nat) (up:List (Nat×Blk)) (nw:List Blk):Bool:=match eff with | 0=>up.isEmpty | 1=>up.isEmpty&&nw.isEmpty | 3=>ZtX up&&nw.isEmpty | _=>true
def ZCQ (e:Env) (H:Zo) (up:List (Nat×Blk)):O→Bool
 | .callk _ _ chk=>Zv9 e H (Zeo H up) chk
 | _=>true
def ZoW (e:Env) (H:Zo) (o:Op1) (up:List (Nat×Blk)) (nw:List Blk):Bool:=Zo0 o.eff up nw&&ZCQ e H up o.op
def ZfF (Γ:Ctx) (cf:Zbp) (pos:List (Nat×Nat)):List Op1→Env→Zo→Option (Env×Zo)
 | [],e,H=>some (e,H)
 | o :: r,e,H=>match ZfJ e o.guard with
  | some true=>(match opE Γ cf e H.length (Zgr H pos o.mask) o.op with
   | some (v,up,nw)=>bif ZoW e H o up nw then ZfF Γ cf (pos++[(H.length,nw.length)]) r (ZpK e o.dst v) (Zeo H up++nw) else none
   | _=>none)
  | some false=>ZfF Γ cf (pos++[(H.length,0)]) r (ZpK e o.dst (.d (.tup []))) H
  | none=>none
inductive Lp where
 | again (vs:List V) (H:Zo)
 | done (x:Ex) (vs:List V) (H:Zo)
abbrev St:=Env×Zo
def Zdd (F:List V→Zo→Option Lp):Nat→List V→Zo→Option (Ex×List V×Zo)
 | 0,_,_=>none
 | n+1,vs,H=>match F vs H with
  | some (.again vs H)=>Zdd F n vs H
  | some (.done x vs H)=>some (x,vs,H)
  | none=>none
def ZeA (k:Nat) (live outs:List Nat) (r:Option (Ex×Env×Zo)):Option Lp:=
 match r with
 | some (.normal,e,H)=>(match Zor k (live.map e) H with | some (vs,H)=>some (.again vs H) | none=>none)
 | some (x,e,H)=>(match extract k (outs.map e) H with | some (_,vs,H)=>some (.done x vs H) | none=>none)
 | none=>none
def Zam (Γ:Ctx) (cf:Zbp) (It:(List V→Zo→Option Lp)→List V→Zo→Option (Ex×List V×Zo)) (k:Nat):C→Env→Zo→Option (Ex×Env×Zo)
 | .skip,e,H=>some (.normal,e,H)
 | .ret,e,H=>some (.ret,e,H)
 | .exit id,e,H=>some (.exit id,e,H)
 | .seq a b,e,H=>match Zam Γ cf It k a e H with
  | some (.normal,e,H)=>Zam Γ cf It k b e H
  | r=>r
 | .cond x a b,e,H=>match x.val e with
  | .d (.bool t)=>(match t with | true=>Zam Γ cf It k a e H | false=>Zam Γ cf It k b e H)
  | _=>none
 | .block id a,e,H=>match Zam Γ cf It k a e H with
  | some (.exit j,e,H)=>bif Nat.beq j id then some (.normal,e,H) else some (.exit j,e,H)
  | r=>r
 | .loop live outs a,e,H=>match Zor k (live.map e) H with
  | some (vs,H)=>(match It (fun vs H=>ZeA k live outs (Zam Γ cf It k a (Zeb live vs) H)) vs H with
   | some (x,vs,H)=>some (x,Zeb outs vs,H)
   | none=>none)
  | none=>none
 | .ops l,e,H=>match ZhX Γ cf l e H with | some (e,H)=>some (.normal,e,H) | none=>none
 | .draw l,e,H=>match ZfF Γ cf [] l e H with | some (e,H)=>some (.normal,e,H) | none=>none
def ZeO (i:Nat):List V→Env
 | []=>env0
 | v :: vs=>(ZeO (i+1) vs).set i v
def Zlk (e:Env) (H:Zo):List (Nat×Option (Nat×Bool))→Option (List V)
 | []=>some []
 | (i,none) :: r=>match Zlk e H r with | some l=>some (e i :: l) | none=>none
 | (i,some (n,ag)) :: r=>match Zds H n ag (e i),Zlk e H r with | some v,some l=>some (v :: l) | _,_=>none
def Zhj:List V→V
 | [v]=>v
 | l=>Zu6 l
def Zki (Γ:Ctx) (cf:Zbp) (It:(List V→Zo→Option Lp)→List V→Zo→Option (Ex×List V×Zo)) (f:Nat) (args:List V) (H:Zo):Option (V×Zo):=
 match Γ.code f with
 | none=>none
 | some fn=>
  bif Nat.beq args.length fn.nargs then
   match Zam Γ cf It H.length fn.body (ZeO 0 args) H with
   | some (.exit _,_,_)=>none
   | some (_,e,H1)=>(match Zlk e H1 fn.res with
    | some l=>(match extract H.length [Zhj l] H1 with | some (_,[v],H2)=>some (v,H2) | _=>none)
    | none=>none)
   | none=>none
  else none
def evN (Γ:Ctx):Nat→Zbp
 | 0=>fun _ _ _=>none
 | n+1=>Zki Γ (evN Γ n) (fun F=>Zdd F n)
end Go.Proofs.YtnmbdjkbaihicaaDoorE
namespace Go.Proofs.YtnmbdjkbaihicaaDoor
open Go Go.Proofs.YtnmbdjkbaihicaaDoorE
def ZCY:List D:=[.int .u8 0,.int .u8 1,.int .u8 28,.int .u8 2,.int .u8 29,.int .u8 14,.int .u8 24,.int .u8 3,.int .u8 30,.int .u8 22,.int .u8 20,.int .u8 15,.int .u8 25,.int .u8 17,.int .u8 4,.int .u8 8,.int .u8 31,.int .u8 27,.int .u8 13,.int .u8 23,.int .u8 21,.int .u8 19,.int .u8 16,.int .u8 7,.int .u8 26,.int .u8 12,.int .u8 18,.int .u8 6,.int .u8 11,.int .u8 5,.int .u8 10,.int .u8 9]
def ZxR:List D:=[.int .u8 0,.int .u8 1,.int .u8 56,.int .u8 2,.int .u8 57,.int .u8 49,.int .u8 28,.int .u8 3,.int .u8 61,.int .u8 58,.int .u8 42,.int .u8 50,.int .u8 38,.int .u8 29,.int .u8 17,.int .u8 4,.int .u8 62,.int .u8 47,.int .u8 59,.int .u8 36,.int .u8 45,.int .u8 43,.int .u8 51,.int .u8 22,.int .u8 53,.int .u8 39,.int .u8 33,.int .u8 30,.int .u8 24,.int .u8 18,.int .u8 12,.int .u8 5,.int .u8 63,.int .u8 55,.int .u8 48,.int .u8 27,.int .u8 60,.int .u8 41,.int .u8 37,.int .u8 16,.int .u8 46,.int .u8 35,.int .u8 44,.int .u8 21,.int .u8 52,.int .u8 32,.int .u8 23,.int .u8 11,.int .u8 54,.int .u8 26,.int .u8 40,.int .u8 15,.int .u8 34,.int .u8 20,.int .u8 31,.int .u8 10,.int .u8 25,.int .u8 14,.int .u8 19,.int .u8 9,.int .u8 13,.int .u8 8,.int .u8 7,.int .u8 6]
def ZFj:C:=.seq (.ops [oB 2 (.box (.t 0)),oB 4 (.mov bF)]) (.seq (.seq (.ops [oB 9 (.call 22 []),oB 10 (.un .not (.t 9)),oB 11 (.mov (.t 10)),oG 12 (.load 6 true (.t 2)) 11 false,oG 13 (.mov (.t 1)) 11 false,oG 14 (.build [(.nilsl 1),(.nilsl 1)] []) 11 false,oG 15 (.call 23 [(.t 12),(.t 13),(.t 14)]) 11 false,oG 16 (.un .not (.t 15)) 11 false,oB 17 (.pick (.t 11) bT (.t 16))]) (.cond (.t 17) (.seq (.ops [oB 18 (.call 22 []),oB 4 (.mov (.t 18))]) (.ret)) (.skip))) (.seq (.ops [oB 20 (.load 6 true (.t 2)),oB 21 (.call 15 [(.t 20)]),oB 22 (.bslice 1 [.int .i64 0] 0 []),oB 23 (.mov (.t 1)),oB 24 (.append 1 (.t 22) (.t 23)),oB 25 (.call 33 [(.t 21),(.t 24)]),oB 19 (.mov (.t 25)),oB 26 (.extract (.t 19) 0),oB 27 (.extract (.t 19) 1),oB 5 (.mov (.t 26)),oB 6 (.mov (.t 27))]) (.seq (.ops [oB 29 (.load 6 true (.t 2)),oB 30 (.call 15 [(.t 29)]),oB 31 (.bslice 1 [.int .i64 0] 0 []),oB 32 (.mov (.t 1)),oB 33 (.append 1 (.t 31) (.t 32)),oB 34 (.call 19 [(.t 30),(.t 33)]),oB 28 (.mov (.t 34)),oB 35 (.extract (.t 28) 0),oB 36 (.extract (.t 28) 1),oB 7 (.mov (.t 35)),oB 8 (.mov (.t 36))]) (.seq (.seq (.ops [oB 37 (.mov (.t 8)),oB 38 (.bin .eql (.t 37) (iN 70))]) (.cond (.t 38) (.seq (.ops [oB 39 (.mov (.t 6)),oB 40 (.bin .eql (.t 39) (iN 94)),oB 41 (.mov (.t 40)),oG 42 (.mov (.t 5)) 41 true,oG 43 (.len (.t 42)) 41 true,oG 44 (.bin .eql (.t 43) (iN 0)) 41 true,oB 45 (.pick (.t 41) (.t 44) bF),oB 46 (.mov (.t 45)),oG 47 (.mov (.t 7)) 46 true,oG 48 (.len (.t 47)) 46 true,oG 49 (.bin .eql (.t 48) (iN 0)) 46 true,oB 50 (.pick (.t 46) (.t 49) bF),oB 4 (.mov (.t 50))]) (.ret)) (.skip))) (.seq (.ops [oB 51 (.mov (.t 6)),oB 52 (.mov (.t 8)),oB 53 (.bin .eql (.t 51) (.t 52)),oB 54 (.mov (.t 53)),oG 55 (.mov (.t 5)) 54 true,oG 56 (.mov (.t 7)) 54 true,oG 57 (.call 20 [(.t 55),(.t 56)]) 54 true,oB 58 (.pick (.t 54) (.t 57) bF),oB 4 (.mov (.t 58))]) (.ret))))))
def ZBM:FnI:=⟨2,ZFj,[(4,none)]⟩
def ZEJ:C:=.seq (.ops [oB 1 (.box (.t 0)),oB 2 (.alloc (.agg [(.nilsl 1),(.nilsl 1)])),oB 3 (.mov (iN 0))]) (.seq (.ops [oB 7 (.load 6 true (.t 1)),oB 8 (.call 41 [(.t 7)]),oB 6 (.mov (.t 8)),oB 9 (.extract (.t 6) 0),oB 10 (.extract (.t 6) 1),oB 4 (.alloc (.agg [(.nilsl 1),(.nilsl 2),(.nilsl 2)])),oA (.store 3 (.t 4) (.t 9)),oB 5 (.mov (.t 10))]) (.seq (.seq (.ops [oB 11 (.mov (.t 5)),oB 12 (.bin .neq (.t 11) (iN 0))]) (.cond (.t 12) (.seq (.ops [oB 13 (.build [(.nilsl 1),(.nilsl 1)] []),oB 14 (.mov (.t 5)),oA (.store 2 (.t 2) (.t 13)),oB 3 (.mov (.t 14))]) (.ret)) (.skip))) (.seq (.draw [oB 15 (.faddr 2 (.t 4)),oB 16 (.load 1 false (.t 15)),oB 17 (.len (.t 16)),oB 18 (.mkslice 1 [.bool false] (.t 17) (.t 17)),oM 19 (.faddr 2 (.t 1)) [0,1,2,3],oM 20 (.load 1 false (.t 19)) [0,1,2,3],oM 21 (.len (.t 20)) [0,1,2,3],oM 22 (.mkslice 1 [.int .i64 0] (.t 21) (.t 21)) [0,1,2,3],oB 23 (.build [(.nilsl 1),(.nilsl 1)] [(0,1,(.t 18)),(1,1,(.t 22))]),⟨none,.store 2 (.t 2) (.t 23),none,[],3⟩,oB 3 (.mov (iN 0))]) (.ret))))
def ZBV:FnI:=⟨1,ZEJ,[(2,some (2,true)),(3,none)]⟩
def ZxQ:C:=.seq (.seq (.ops [oB 22 (.mov (.t 4)),oB 23 (.faddr 5 (.t 1)),oB 24 (.load 1 false (.t 23)),oB 25 (.len (.t 24)),oB 26 (.bin .lss (.t 22) (.t 25))]) (.cond (.t 26) (.skip) (.exit 0))) (.seq (.block 1 (.draw [oB 29 (.faddr 5 (.t 3)),oB 30 (.load 1 false (.t 29)),oM 31 (.bslice 1 [.int .i64 0] 0 []) [0,1],oM 32 (.faddr 5 (.t 1)) [0,1,2],oM 33 (.load 1 false (.t 32)) [0,1,2],oM 34 (.mov (.t 4)) [0,1,2,3,4],oM 35 (.iaddr 2 (.t 33) (.t 34)) [0,1,2],oM 36 (.faddr 0 (.t 35)) [0,1,2],oM 37 (.load 1 false (.t 36)) [0,1,2],oM 38 (.appendD 1 (.t 31) (.t 37)) [0,1],oM 39 (.bslice 1 [.int .i64 0] 0 []) [0,1,2,3,4,5,6,7,8,9],oM 40 (.faddr 5 (.t 1)) [0,1,2,3,4,5,6,7,8,9,10],oM 41 (.load 1 false (.t 40)) [0,1,2,3,4,5,6,7,8,9,10],oM 42 (.mov (.t 4)) [0,1,2,3,4,5,6,7,8,9,10,11,12],oM 43 (.iaddr 2 (.t 41) (.t 42)) [0,1,2,3,4,5,6,7,8,9,10],oM 44 (.faddr 1 (.t 43)) [0,1,2,3,4,5,6,7,8,9,10],oM 45 (.load 1 false (.t 44)) [0,1,2,3,4,5,6,7,8,9,10],oM 46 (.appendD 1 (.t 39) (.t 45)) [0,1],oM 47 (.build [(.nilsl 1),(.nilsl 1)] [(0,1,(.t 38)),(1,1,(.t 46))]) [0,1],oM 48 (.bslice 2 [.list true [],.list true []] 1 [(0,(.t 47))]) [0,1],⟨some 49,.append 2 (.t 30) (.t 48),none,[],4⟩,oB 50 (.faddr 5 (.t 3)),⟨none,.store 1 (.t 50) (.t 49),none,[],3⟩])) (.ops [oB 27 (.mov (.t 4)),oB 28 (.bin .add (.t 27) (iN 1)),oB 4 (.mov (.t 28))]))
def ZEw:C:=.seq (.ops [oB 1 (.box (.t 0)),oB 2 (.alloc (.agg [(.d (.int .i64 0)),(.d (.int .i64 0)),(.nilsl 3),(.nilsl 2),(.nilsl 3),(.nilsl 2)]))]) (.seq (.draw [oB 5 (.faddr 0 (.t 1)),oB 6 (.load 1 false (.t 5)),oM 7 (.faddr 1 (.t 1)) [0,1],oM 8 (.load 1 false (.t 7)) [0,1],oM 9 (.bslice 3 [.int .i64 0,.int .i64 0,.int .i64 0] 0 []) [0,1,2,3],oM 10 (.faddr 2 (.t 1)) [0,1,2,3,4],oM 11 (.load 1 false (.t 10)) [0,1,2,3,4],oM 12 (.append 3 (.t 9) (.t 11)) [0,1,2,3],oM 13 (.bslice 2 [.int .i64 0,.int .i64 0] 0 []) [0,1,2,3,4,5,6,7],oM 14 (.faddr 3 (.t 1)) [0,1,2,3,4,5,6,7,8],oM 15 (.load 1 false (.t 14)) [0,1,2,3,4,5,6,7,8],oM 16 (.append 2 (.t 13) (.t 15)) [0,1,2,3],oM 17 (.bslice 3 [.int .i64 0,.int .i64 0,.int .i64 0] 0 []) [0,1,2,3,4,5,6,7,8,9,10,11],oM 18 (.faddr 4 (.t 1)) [0,1,2,3,4,5,6,7,8,9,10,11,12],oM 19 (.load 1 false (.t 18)) [0,1,2,3,4,5,6,7,8,9,10,11,12],oM 20 (.append 3 (.t 17) (.t 19)) [0,1,2,3],oB 21 (.build [(.d (.int .i64 0)),(.d (.int .i64 0)),(.nilsl 3),(.nilsl 2),(.nilsl 3),(.nilsl 2)] [(0,1,(.t 6)),(1,1,(.t 8)),(2,1,(.t 12)),(3,1,(.t 16)),(4,1,(.t 20))]),oM 3 (.alloc (.agg [(.d (.int .i64 0)),(.d (.int .i64 0)),(.nilsl 3),(.nilsl 2),(.nilsl 3),(.nilsl 2)])) [0,1,2,3,4,5,6,7,8,9,10,11,12,13,14,15,16],⟨none,.store 6 (.t 3) (.t 21),none,[],3⟩]) (.seq (.seq (.ops [oB 4 (.mov (iN 0))]) (.block 0 (.loop [1,2,3,4] [2,3] ZxQ))) (.seq (.ops [oB 51 (.load 6 true (.t 3)),oA (.store 6 (.t 2) (.t 51))]) (.ret))))
def ZBG:FnI:=⟨1,ZEw,[(2,some (6,true))]⟩
def Zyz:C:=.seq (.ops [oB 30 (.bin .lss (.t 29) (.t 28))]) (.seq (.cond (.t 30) (.skip) (.exit 0)) (.seq (.block 1 (.seq (.ops [oB 31 (.iaddr 1 (.t 27) (.t 29)),oB 32 (.load 1 false (.t 31)),oB 11 (.mov (.t 32))]) (.ops [oB 33 (.load 6 true (.t 2)),oB 34 (.load 3 true (.t 8)),oB 35 (.mov (.t 1)),oB 36 (.load 2 true (.t 6)),oB 37 (.mov (.t 11)),oB 38 (.call 44 [(.t 33),(.t 34),(.t 35),(.t 36),(.t 37)]),oA (.store 2 (.t 6) (.t 38))]))) (.ops [oB 39 (.bin .add (.t 29) (iN 1)),oB 29 (.mov (.t 39))])))
def ZFz:C:=.seq (.ops [oB 2 (.box (.t 0)),oB 4 (.mov (.c (.nilsl 1))),oB 5 (.mov (iN 0))]) (.seq (.ops [oB 13 (.load 6 true (.t 2)),oB 14 (.call 14 [(.t 13)]),oB 12 (.mov (.t 14)),oB 15 (.extract (.t 12) 0),oB 16 (.extract (.t 12) 1),oB 6 (.alloc (.agg [(.nilsl 1),(.nilsl 1)])),oA (.store 2 (.t 6) (.t 15)),oB 7 (.mov (.t 16))]) (.seq (.seq (.ops [oB 17 (.mov (.t 7)),oB 18 (.bin .neq (.t 17) (iN 0))]) (.cond (.t 18) (.seq (.ops [oB 19 (.mov (.t 7)),oB 4 (.mov (.c (.nilsl 1))),oB 5 (.mov (.t 19))]) (.ret)) (.skip))) (.seq (.ops [oB 21 (.load 6 true (.t 2)),oB 22 (.call 41 [(.t 21)]),oB 20 (.mov (.t 22)),oB 23 (.extract (.t 20) 0),oB 24 (.extract (.t 20) 1),oB 8 (.alloc (.agg [(.nilsl 1),(.nilsl 2),(.nilsl 2)])),oA (.store 3 (.t 8) (.t 23)),oB 9 (.mov (.t 24))]) (.seq (.seq (.ops [oB 25 (.faddr 0 (.t 8)),oB 26 (.load 2 true (.t 25)),oB 27 (.call 45 [(.t 26)]),oB 28 (.len (.t 27)),oB 29 (.mov (iN 0))]) (.block 0 (.loop [1,2,6,8,27,28,29] [6] Zyz))) (.seq (.ops [oB 40 (.faddr 1 (.t 6)),oB 41 (.load 1 false (.t 40)),oB 4 (.mov (.t 41)),oB 5 (.mov (iN 0))]) (.ret))))))
def ZAI:FnI:=⟨2,ZFz,[(4,none),(5,none)]⟩
def Zyx:C:=.seq (.seq (.ops [oB 11 (.mov (.t 5)),oB 12 (.mov (.t 0)),oB 13 (.len (.t 12)),oB 14 (.bin .lss (.t 11) (.t 13))]) (.cond (.t 14) (.skip) (.exit 0))) (.seq (.block 1 (.seq (.draw [oB 17 (.mov (.t 0)),oM 18 (.mov (.t 5)) [0],oB 19 (.iaddr 1 (.t 17) (.t 18)),oB 20 (.load 1 false (.t 19)),oM 21 (.mov (.t 1)) [0,1,2,3],oM 22 (.mov (.t 5)) [0,1,2,3,4],oM 23 (.iaddr 1 (.t 21) (.t 22)) [0,1,2,3],oM 24 (.load 1 false (.t 23)) [0,1,2,3],oB 25 (.bin .neq (.t 20) (.t 24))]) (.cond (.t 25) (.seq (.ops [oB 4 (.mov bF)]) (.ret)) (.skip)))) (.ops [oB 15 (.mov (.t 5)),oB 16 (.bin .add (.t 15) (iN 1)),oB 5 (.mov (.t 16))]))
def ZE9:C:=.seq (.ops [oB 4 (.mov bF)]) (.seq (.seq (.ops [oB 6 (.mov (.t 0)),oB 7 (.len (.t 6)),oB 8 (.mov (.t 1)),oB 9 (.len (.t 8)),oB 10 (.bin .neq (.t 7) (.t 9))]) (.cond (.t 10) (.seq (.ops [oB 4 (.mov bF)]) (.ret)) (.skip))) (.seq (.seq (.ops [oB 5 (.mov (iN 0))]) (.block 0 (.loop [0,1,5] [4] Zyx))) (.seq (.ops [oB 4 (.mov bT)]) (.ret))))
def ZBd:FnI:=⟨2,ZE9,[(4,none)]⟩
def ZFs:C:=.seq (.ops [oB 0 (.mov bF)]) (.seq (.ops [oB 11 (.build [(.d (.int .i64 0)),(.d (.int .i64 0)),(.d (.int .i64 0))] [(0,1,(iN 1)),(1,1,(iN 3)),(2,1,(iN 1))]),oB 12 (.build [(.d (.int .i64 0)),(.d (.int .i64 0)),(.d (.int .i64 0))] [(0,1,(iN 2)),(2,1,(iN 2))]),oB 13 (.bslice 3 [.int .i64 0,.int .i64 0,.int .i64 0] 2 [(0,(.t 11)),(1,(.t 12))]),oB 14 (.build [(.d (.int .i64 0)),(.d (.int .i64 0)),(.d (.int .i64 0))] [(0,1,(iN 0)),(1,1,(iN 1)),(2,1,(iN 1))]),oB 15 (.bslice 3 [.int .i64 0,.int .i64 0,.int .i64 0] 1 [(0,(.t 14))]),oB 16 (.build [(.d (.int .i64 0)),(.d (.int .i64 0)),(.nilsl 3),(.nilsl 2),(.nilsl 3),(.nilsl 2)] [(0,1,(iN 8)),(1,1,(iN 8)),(2,1,(.t 13)),(4,1,(.t 15))]),oB 1 (.alloc (.agg [(.d (.int .i64 0)),(.d (.int .i64 0)),(.nilsl 3),(.nilsl 2),(.nilsl 3),(.nilsl 2)])),oA (.store 6 (.t 1) (.t 16))]) (.seq (.ops [oB 18 (.load 6 true (.t 1)),oB 19 (.call 35 [(.t 18)]),oB 17 (.mov (.t 19)),oB 20 (.extract (.t 17) 0),oB 21 (.extract (.t 17) 1),oB 2 (.alloc (.agg [(.nilsl 1),(.nilsl 1)])),oA (.store 2 (.t 2) (.t 20)),oB 3 (.mov (.t 21))]) (.seq (.ops [oB 23 (.load 6 true (.t 1)),oB 24 (.load 2 true (.t 2)),oB 25 (.call 24 [(.t 23),(.c (.nilsl 1)),(.t 24),(iN 1)]),oB 22 (.mov (.t 25)),oB 26 (.extract (.t 22) 0),oB 27 (.extract (.t 22) 1),oA (.store 2 (.t 2) (.t 26)),oB 4 (.mov (.t 27))]) (.seq (.ops [oB 29 (.load 6 true (.t 1)),oB 30 (.load 2 true (.t 2)),oB 31 (.call 24 [(.t 29),(.c (.nilsl 1)),(.t 30),(iN 1)]),oB 28 (.mov (.t 31)),oB 32 (.extract (.t 28) 0),oB 33 (.extract (.t 28) 1),oB 5 (.alloc (.agg [(.nilsl 1),(.nilsl 1)])),oA (.store 2 (.t 5) (.t 32)),oB 6 (.mov (.t 33))]) (.seq (.ops [oB 35 (.load 6 true (.t 1)),oB 36 (.load 2 true (.t 2)),oB 37 (.call 24 [(.t 35),(.c (.nilsl 1)),(.t 36),(iN 0)]),oB 34 (.mov (.t 37)),oB 38 (.extract (.t 34) 0),oB 39 (.extract (.t 34) 1),oB 7 (.alloc (.agg [(.nilsl 1),(.nilsl 1)])),oA (.store 2 (.t 7) (.t 38)),oB 8 (.mov (.t 39))]) (.seq (.ops [oB 41 (.load 6 true (.t 1)),oB 42 (.call 33 [(.t 41),(.c (.nilsl 1))]),oB 40 (.mov (.t 42)),oB 43 (.extract (.t 40) 0),oB 44 (.extract (.t 40) 1),oB 9 (.mov (.t 43)),oB 10 (.mov (.t 44))]) (.seq (.ops [oB 45 (.mov (.t 3)),oB 46 (.bin .eql (.t 45) (iN 0)),oB 47 (.mov (.t 46)),oG 48 (.mov (.t 4)) 47 true,oG 49 (.bin .eql (.t 48) (iN 0)) 47 true,oB 50 (.pick (.t 47) (.t 49) bF),oB 51 (.mov (.t 50)),oG 52 (.faddr 0 (.t 2)) 51 true,oG 53 (.load 1 false (.t 52)) 51 true,oG 54 (.len (.t 53)) 51 true,oG 55 (.bin .eql (.t 54) (iN 2)) 51 true,oB 56 (.pick (.t 51) (.t 55) bF),oB 57 (.mov (.t 56)),oG 58 (.faddr 0 (.t 2)) 57 true,oG 59 (.load 1 false (.t 58)) 57 true,oG 60 (.iaddr 1 (.t 59) (iN 1)) 57 true,oG 61 (.load 1 false (.t 60)) 57 true,oG 62 (.bin .eql (.t 61) (iN 1)) 57 true,oB 63 (.pick (.t 57) (.t 62) bF),oB 64 (.mov (.t 63)),oG 65 (.mov (.t 6)) 64 true,oG 66 (.bin .eql (.t 65) (iN 93)) 64 true,oB 67 (.pick (.t 64) (.t 66) bF),oB 68 (.mov (.t 67)),oG 69 (.mov (.t 8)) 68 true,oG 70 (.bin .eql (.t 69) (iN 0)) 68 true,oB 71 (.pick (.t 68) (.t 70) bF),oB 72 (.mov (.t 71)),oG 73 (.faddr 1 (.t 7)) 72 true,oG 74 (.load 1 false (.t 73)) 72 true,oG 75 (.len (.t 74)) 72 true,oG 76 (.bin .eql (.t 75) (iN 2)) 72 true,oB 77 (.pick (.t 72) (.t 76) bF),oB 78 (.mov (.t 77)),oG 79 (.faddr 1 (.t 7)) 78 true,oG 80 (.load 1 false (.t 79)) 78 true,oG 81 (.iaddr 1 (.t 80) (iN 0)) 78 true,oG 82 (.load 1 false (.t 81)) 78 true,oG 83 (.bin .eql (.t 82) (iN 3)) 78 true,oB 84 (.pick (.t 78) (.t 83) bF),oB 85 (.mov (.t 84)),oG 86 (.mov (.t 10)) 85 true,oG 87 (.bin .eql (.t 86) (iN 0)) 85 true,oB 88 (.pick (.t 85) (.t 87) bF),oB 89 (.mov (.t 88)),oG 90 (.mov (.t 9)) 89 true,oG 91 (.bslice 1 [.int .i64 0] 2 [(0,(iN 3)),(1,(iN 3))]) 89 true,oG 92 (.call 20 [(.t 90),(.t 91)]) 89 true,oB 93 (.pick (.t 89) (.t 92) bF),oB 94 (.mov (.t 93)),oG 95 (.load 6 true (.t 1)) 94 true,oG 96 (.load 2 true (.t 2)) 94 true,oG 97 (.call 28 [(.t 95),(.t 96)]) 94 true,oG 98 (.bslice 1 [.int .i64 0] 1 [(0,(iN 0))]) 94 true,oG 99 (.call 20 [(.t 97),(.t 98)]) 94 true,oB 100 (.pick (.t 94) (.t 99) bF),oB 101 (.mov (.t 100)),oG 102 (.load 6 true (.t 1)) 101 true,oG 103 (.load 2 true (.t 7)) 101 true,oG 104 (.call 31 [(.t 102),(.t 103)]) 101 true,oG 105 (.bin .eql (.t 104) (iN 0)) 101 true,oB 106 (.pick (.t 101) (.t 105) bF),oB 107 (.mov (.t 106)),oG 108 (.load 2 true (.t 7)) 107 true,oG 109 (.load 2 true (.t 7)) 107 true,oG 110 (.call 32 [(.t 108),(.t 109)]) 107 true,oB 111 (.pick (.t 107) (.t 110) bF),oB 112 (.mov (.t 111)),oG 113 (.load 2 true (.t 2)) 112 true,oG 114 (.load 2 true (.t 7)) 112 true,oG 115 (.call 32 [(.t 113),(.t 114)]) 112 true,oG 116 (.un .not (.t 115)) 112 true,oB 117 (.pick (.t 112) (.t 116) bF),oB 0 (.mov (.t 117))]) (.ret))))))))
def ZC8:FnI:=⟨0,ZFs,[(0,none)]⟩
def ZEB:C:=.seq (.ops [oB 3 (.box (.t 0)),oB 5 (.box (.t 2)),oB 6 (.mov bF)]) (.seq (.ops [oB 7 (.load 6 true (.t 3)),oB 8 (.call 40 [(.t 7)]),oB 9 (.mov (.t 8)),oG 10 (.mov (.t 1)) 9 true,oG 11 (.len (.t 10)) 9 true,oG 12 (.bin .leq (.t 11) (iN 60)) 9 true,oB 13 (.pick (.t 9) (.t 12) bF),oB 14 (.mov (.t 13)),oG 15 (.faddr 0 (.t 5)) 14 true,oG 16 (.load 1 false (.t 15)) 14 true,oG 17 (.len (.t 16)) 14 true,oG 18 (.bin .leq (.t 17) (iN 20)) 14 true,oB 19 (.pick (.t 14) (.t 18) bF),oB 20 (.mov (.t 19)),oG 21 (.faddr 1 (.t 5)) 20 true,oG 22 (.load 1 false (.t 21)) 20 true,oG 23 (.len (.t 22)) 20 true,oG 24 (.bin .leq (.t 23) (iN 20)) 20 true,oB 25 (.pick (.t 20) (.t 24) bF),oB 6 (.mov (.t 25))]) (.ret))
def ZBS:FnI:=⟨3,ZEB,[(6,none)]⟩
def ZEN:C:=.seq (.ops [oB 4 (.box (.t 0)),oB 6 (.box (.t 2)),oB 8 (.alloc (.agg [(.nilsl 1),(.nilsl 1)])),oB 9 (.mov (iN 0))]) (.seq (.ops [oB 11 (.load 6 true (.t 4)),oB 12 (.load 2 true (.t 6)),oB 13 (.call 31 [(.t 11),(.t 12)]),oB 10 (.mov (.t 13))]) (.seq (.block 0 (.seq (.block 4 (.seq (.block 3 (.seq (.block 2 (.seq (.block 1 (.seq (.seq (.seq (.ops [oB 15 (.mov (.t 10)),oB 16 (.bin .eql (.t 15) (iN 0)),oB 17 (.mov (.t 16)),oG 18 (.mov (.t 3)) 17 true,oG 19 (.bin .lss (.t 18) (iN 0)) 17 true,oG 20 (.mov (.t 19)) 17 true,oG 21 (.mov (.t 3)) 20 false,oG 22 (.faddr 2 (.t 4)) 20 false,oG 23 (.load 1 false (.t 22)) 20 false,oG 24 (.len (.t 23)) 20 false,oG 25 (.bin .geq (.t 21) (.t 24)) 20 false,oG 26 (.pick (.t 20) bT (.t 25)) 17 true,oB 27 (.pick (.t 17) (.t 26) bF),oB 14 (.mov (.t 27))]) (.cond (.t 14) (.exit 1) (.skip))) (.seq (.seq (.ops [oB 29 (.mov (.t 10)),oB 30 (.bin .neq (.t 29) (iN 0)),oB 28 (.mov (.t 30))]) (.cond (.t 28) (.exit 2) (.skip))) (.seq (.seq (.ops [oB 32 (.load 6 true (.t 4)),oB 33 (.load 2 true (.t 6)),oB 34 (.mov (.t 3)),oB 35 (.call 46 [(.t 32),(.t 33),(.t 34)]),oB 31 (.mov (.t 35))]) (.cond (.t 31) (.exit 3) (.skip))) (.seq (.ops [oB 37 (.load 6 true (.t 4)),oB 38 (.load 2 true (.t 6)),oB 39 (.mov (.t 3)),oB 40 (.call 47 [(.t 37),(.t 38),(.t 39)]),oB 41 (.un .not (.t 40)),oB 36 (.mov (.t 41))]) (.cond (.t 36) (.exit 4) (.skip)))))) (.exit 0))) (.ops [oB 10 (.mov (iN 91))]))) (.seq (.seq (.ops [oB 42 (.build [(.nilsl 1),(.nilsl 1)] []),oB 43 (.mov (.t 10)),oA (.store 2 (.t 8) (.t 42)),oB 9 (.mov (.t 43))]) (.ret)) (.exit 0)))) (.seq (.seq (.ops [oB 44 (.build [(.nilsl 1),(.nilsl 1)] []),oA (.store 2 (.t 8) (.t 44)),oB 9 (.mov (iN 92))]) (.ret)) (.exit 0)))) (.seq (.seq (.ops [oB 45 (.build [(.nilsl 1),(.nilsl 1)] []),oA (.store 2 (.t 8) (.t 45)),oB 9 (.mov (iN 93))]) (.ret)) (.exit 0)))) (.seq (.ops [oB 46 (.load 6 true (.t 4)),oB 47 (.mov (.t 1)),oB 48 (.load 2 true (.t 6)),oB 49 (.mov (.t 3)),oB 50 (.call 48 [(.t 46),(.t 47),(.t 48),(.t 49)]),oA (.store 2 (.t 8) (.t 50)),oB 9 (.mov (iN 0))]) (.ret))))
def ZCd:FnI:=⟨4,ZEN,[(8,some (2,true)),(9,none)]⟩
def ZDZ:C:=.seq (.ops [oB 2 (.box (.t 0)),oB 3 (.box (.t 1)),oB 4 (.mov (.c (.nilsl 1)))]) (.seq (.seq (.ops [oB 5 (.load 6 true (.t 2)),oB 6 (.load 2 true (.t 3)),oB 7 (.call 31 [(.t 5),(.t 6)]),oB 8 (.bin .neq (.t 7) (iN 0))]) (.cond (.t 8) (.seq (.ops [oB 4 (.mov (.c (.nilsl 1)))]) (.ret)) (.skip))) (.seq (.ops [oB 9 (.load 6 true (.t 2)),oB 10 (.load 2 true (.t 3)),oB 11 (.call 54 [(.t 9),(.t 10)]),oB 4 (.mov (.t 11))]) (.ret)))
def ZCA:FnI:=⟨2,ZDZ,[(4,none)]⟩
def ZEZ:C:=.seq (.ops [oB 2 (.box (.t 0)),oB 3 (.box (.t 1)),oB 4 (.mov (iN 0))]) (.seq (.ops [oB 6 (.load 6 true (.t 2)),oB 7 (.call 55 [(.t 6)]),oB 5 (.mov (.t 7))]) (.seq (.seq (.ops [oB 8 (.mov (.t 5)),oB 9 (.bin .eql (.t 8) (iN 0)),oB 10 (.mov (.t 9)),oG 11 (.load 6 true (.t 2)) 10 true,oG 12 (.load 2 true (.t 3)) 10 true,oG 13 (.call 56 [(.t 11),(.t 12)]) 10 true,oG 14 (.un .not (.t 13)) 10 true,oB 15 (.pick (.t 10) (.t 14) bF)]) (.cond (.t 15) (.ops [oB 5 (.mov (iN 90))]) (.skip))) (.seq (.ops [oB 16 (.mov (.t 5)),oB 4 (.mov (.t 16))]) (.ret))))
def ZCK:FnI:=⟨2,ZEZ,[(4,none)]⟩
def ZEG:C:=.seq (.ops [oB 2 (.box (.t 0)),oB 3 (.box (.t 1)),oB 4 (.mov bF)]) (.seq (.ops [oB 5 (.faddr 0 (.t 2)),oB 6 (.load 1 false (.t 5)),oB 7 (.faddr 0 (.t 3)),oB 8 (.load 1 false (.t 7)),oB 9 (.call 57 [(.t 6),(.t 8)]),oB 10 (.mov (.t 9)),oG 11 (.faddr 1 (.t 2)) 10 true,oG 12 (.load 1 false (.t 11)) 10 true,oG 13 (.faddr 1 (.t 3)) 10 true,oG 14 (.load 1 false (.t 13)) 10 true,oG 15 (.call 57 [(.t 12),(.t 14)]) 10 true,oB 16 (.pick (.t 10) (.t 15) bF),oB 4 (.mov (.t 16))]) (.ret))
def ZCB:FnI:=⟨2,ZEG,[(4,none)]⟩
def ZxN:C:=.seq (.seq (.ops [oB 21 (.mov (.t 8)),oB 22 (.len (.t 21)),oB 23 (.bin .gtr (.t 22) (iN 0))]) (.cond (.t 23) (.skip) (.exit 0))) (.seq (.block 1 (.draw [oB 27 (.load 6 true (.t 2)),oM 28 (.mov (.t 1)) [0],oM 29 (.load 2 true (.t 6)) [0,1],oM 30 (.mov (.t 8)) [0,1,2],oM 31 (.iaddr 1 (.t 30) (iN 0)) [0,1,2],oM 32 (.load 1 false (.t 31)) [0,1,2],oB 33 (.call 48 [(.t 27),(.t 28),(.t 29),(.t 32)]),⟨none,.store 2 (.t 6) (.t 33),none,[],3⟩])) (.ops [oB 24 (.load 6 true (.t 2)),oB 25 (.load 2 true (.t 6)),oB 26 (.call 54 [(.t 24),(.t 25)]),oB 8 (.mov (.t 26))]))
def ZwL:C:=.seq (.ops [oB 38 (.bin .lss (.t 37) (.t 36))]) (.seq (.cond (.t 38) (.skip) (.exit 2)) (.seq (.block 3 (.seq (.ops [oB 39 (.mov (.t 37)),oB 9 (.mov (.t 39))]) (.seq (.ops [oB 40 (.load 6 true (.t 2)),oB 41 (.load 2 true (.t 6)),oB 42 (.mov (.t 9)),oB 43 (.call 46 [(.t 40),(.t 41),(.t 42)]),oB 44 (.un .not (.t 43))]) (.cond (.t 44) (.seq (.ops [oB 4 (.mov (.c (.nilsl 1))),oB 5 (.mov (iN 94))]) (.ret)) (.skip))))) (.ops [oB 45 (.bin .add (.t 37) (iN 1)),oB 37 (.mov (.t 45))])))
def ZFp:C:=.seq (.ops [oB 2 (.box (.t 0)),oB 4 (.mov (.c (.nilsl 1))),oB 5 (.mov (iN 0))]) (.seq (.ops [oB 11 (.load 6 true (.t 2)),oB 12 (.call 35 [(.t 11)]),oB 10 (.mov (.t 12)),oB 13 (.extract (.t 10) 0),oB 14 (.extract (.t 10) 1),oB 6 (.alloc (.agg [(.nilsl 1),(.nilsl 1)])),oA (.store 2 (.t 6) (.t 13)),oB 7 (.mov (.t 14))]) (.seq (.seq (.ops [oB 15 (.mov (.t 7)),oB 16 (.bin .neq (.t 15) (iN 0))]) (.cond (.t 16) (.seq (.ops [oB 17 (.mov (.t 7)),oB 4 (.mov (.c (.nilsl 1))),oB 5 (.mov (.t 17))]) (.ret)) (.skip))) (.seq (.seq (.ops [oB 18 (.load 6 true (.t 2)),oB 19 (.load 2 true (.t 6)),oB 20 (.call 54 [(.t 18),(.t 19)]),oB 8 (.mov (.t 20))]) (.block 0 (.loop [1,2,6,8] [2,6] ZxN))) (.seq (.seq (.ops [oB 34 (.faddr 2 (.t 2)),oB 35 (.load 1 false (.t 34)),oB 36 (.len (.t 35)),oB 37 (.mov (iN 0))]) (.block 2 (.loop [2,6,36,37] [4,5,6] ZwL))) (.seq (.ops [oB 46 (.faddr 1 (.t 6)),oB 47 (.load 1 false (.t 46)),oB 4 (.mov (.t 47)),oB 5 (.mov (iN 0))]) (.ret))))))
def ZBK:FnI:=⟨2,ZFp,[(4,none),(5,none)]⟩
def ZE7:C:=.seq (.ops [oB 1 (.box (.t 0)),oB 2 (.alloc (.agg [(.nilsl 1),(.nilsl 1)])),oB 3 (.mov (iN 0))]) (.seq (.seq (.ops [oB 5 (.load 6 true (.t 1)),oB 6 (.call 55 [(.t 5)]),oB 4 (.mov (.t 6))]) (.seq (.ops [oB 7 (.mov (.t 4)),oB 8 (.bin .neq (.t 7) (iN 0))]) (.cond (.t 8) (.seq (.ops [oB 9 (.build [(.nilsl 1),(.nilsl 1)] []),oB 10 (.mov (.t 4)),oA (.store 2 (.t 2) (.t 9)),oB 3 (.mov (.t 10))]) (.ret)) (.skip)))) (.seq (.draw [oB 11 (.faddr 2 (.t 1)),oB 12 (.load 1 false (.t 11)),oB 13 (.len (.t 12)),oB 14 (.mkslice 1 [.int .i64 0] (.t 13) (.t 13)),oM 15 (.faddr 2 (.t 1)) [0,1,2,3],oM 16 (.load 1 false (.t 15)) [0,1,2,3],oM 17 (.len (.t 16)) [0,1,2,3],oM 18 (.mkslice 1 [.int .i64 0] (.t 17) (.t 17)) [0,1,2,3],oB 19 (.build [(.nilsl 1),(.nilsl 1)] [(0,1,(.t 14)),(1,1,(.t 18))]),⟨none,.store 2 (.t 2) (.t 19),none,[],3⟩,oB 3 (.mov (iN 0))]) (.ret)))
def ZBv:FnI:=⟨1,ZE7,[(2,some (2,true)),(3,none)]⟩
def Zw6:C:=.seq (.ops [oB 22 (.bin .lss (.t 21) (.t 20))]) (.seq (.cond (.t 22) (.skip) (.exit 1)) (.seq (.block 2 (.seq (.ops [oB 23 (.mov (.t 21)),oB 24 (.iaddr 1 (.t 19) (.t 21)),oB 25 (.load 1 false (.t 24)),oB 8 (.mov (.t 23)),oB 9 (.mov (.t 25))]) (.ops [oB 26 (.mov (.t 7)),oB 27 (.mov (.t 8)),oB 28 (.mov (.t 9)),oA (.mapset [false] (.t 26) (.t 27) (.t 28))]))) (.ops [oB 29 (.bin .add (.t 21) (iN 1)),oB 21 (.mov (.t 29))])))
def Zpv:C:=.seq (.ops [oB 63 (.bin .lss (.t 62) (.t 61))]) (.seq (.cond (.t 63) (.skip) (.exit 3)) (.seq (.block 4 (.seq (.ops [oB 64 (.iaddr 1 (.t 60) (.t 62)),oB 65 (.load 1 false (.t 64)),oB 13 (.mov (.t 65))]) (.draw [oB 66 (.faddr 1 (.t 10)),oB 67 (.load 1 false (.t 66)),oM 68 (.mov (.t 11)) [0,1],oM 69 (.mov (.t 13)) [0,1,2],oM 70 (.call 64 [(.t 69)]) [0,1,2],oB 71 (.callv (.t 67) [(.t 68),(.t 70)]),oB 11 (.mov (.t 71))]))) (.ops [oB 72 (.bin .add (.t 62) (iN 1)),oB 62 (.mov (.t 72))])))
def ZE8:C:=.seq (.ops [oB 3 (.box (.t 0)),oB 6 (.mov (iN 0))]) (.seq (.block 0 (.seq (.ops [oB 15 (.faddr 0 (.t 3)),oB 16 (.load 1 false (.t 15)),oB 17 (.bin .eql (.t 16) (iN 0)),oB 14 (.mov (.t 17))]) (.cond (.t 14) (.seq (.ops [oB 18 .mkmap,oB 7 (.mov (.t 18))]) (.seq (.seq (.ops [oB 19 (.mov (.t 1)),oB 20 (.len (.t 19)),oB 21 (.mov (iN 0))]) (.block 1 (.loop [3,7,19,20,21] [3,7] Zw6))) (.seq (.ops [oB 30 (.mov (.t 7)),oB 31 (.faddr 1 (.t 3)),oB 32 (.load 1 false (.t 31)),oB 33 (.mapget [false] (.int .i64 0) (.t 30) (.t 32)),oB 34 (.call 64 [(.t 33)]),oB 35 (.conv .i64 (.t 34)),oB 6 (.mov (.t 35))]) (.ret)))) (.seq (.ops [oB 37 (.faddr 0 (.t 3)),oB 38 (.load 1 false (.t 37)),oB 39 (.bin .eql (.t 38) (iN 1)),oB 36 (.mov (.t 39))]) (.cond (.t 36) (.seq (.ops [oB 40 (.faddr 1 (.t 3)),oB 41 (.load 1 false (.t 40)),oB 42 (.call 64 [(.t 41)]),oB 43 (.conv .i64 (.t 42)),oB 6 (.mov (.t 43))]) (.ret)) (.seq (.ops [oB 45 (.faddr 0 (.t 3)),oB 46 (.load 1 false (.t 45)),oB 47 (.bin .lss (.t 46) (iN 0)),oB 48 (.mov (.t 47)),oG 49 (.faddr 0 (.t 3)) 48 false,oG 50 (.load 1 false (.t 49)) 48 false,oG 51 (.bin .gtr (.t 50) (iN 5)) 48 false,oB 52 (.pick (.t 48) bT (.t 51)),oB 44 (.mov (.t 52))]) (.cond (.t 44) (.seq (.ops [oB 6 (.mov (iN 0))]) (.ret)) (.skip)))))))) (.seq (.draw [oB 53 (.call 65 []),oM 54 (.faddr 0 (.t 3)) [0],oM 55 (.load 1 false (.t 54)) [0],oM 56 (.bin .sub (.t 55) (iN 2)) [0],oB 57 (.index 4 2 true (.t 53) (.t 56)),oM 10 (.alloc (.d (.agg [.int .u32 0,.nilfn]))) [0,1,2,3,4],⟨none,.store 2 (.t 10) (.t 57),none,[],3⟩]) (.seq (.ops [oB 58 (.faddr 0 (.t 10)),oB 59 (.load 1 false (.t 58)),oB 11 (.mov (.t 59))]) (.seq (.seq (.ops [oB 60 (.mov (.t 2)),oB 61 (.len (.t 60)),oB 62 (.mov (iN 0))]) (.block 3 (.loop [10,11,60,61,62] [11] Zpv))) (.seq (.ops [oB 73 (.mov (.t 11)),oB 74 (.conv .i64 (.t 73)),oB 6 (.mov (.t 74))]) (.ret))))))
def ZAG:FnI:=⟨3,ZE8,[(6,none)]⟩
def Zxa:C:=.seq (.seq (.ops [oB 4 (.mov (.t 3)),oB 5 (.faddr 5 (.t 1)),oB 6 (.load 1 false (.t 5)),oB 7 (.len (.t 6)),oB 8 (.bin .lss (.t 4) (.t 7)),oB 9 (.mov (.t 8)),oG 10 (.mov (.t 3)) 9 true,oG 11 (.bin .lss (.t 10) (iN 9)) 9 true,oB 12 (.pick (.t 9) (.t 11) bF)]) (.cond (.t 12) (.skip) (.exit 0))) (.seq (.block 1 (.seq (.ops [oB 15 (.faddr 5 (.t 1)),oB 16 (.load 1 false (.t 15)),oB 17 (.mov (.t 3)),oB 18 (.iaddr 2 (.t 16) (.t 17)),oB 19 (.faddr 0 (.t 18)),oB 20 (.load 1 false (.t 19)),oB 21 (.len (.t 20)),oB 22 (.bin .gtr (.t 21) (iN 20)),oB 23 (.mov (.t 22)),oG 24 (.faddr 5 (.t 1)) 23 false,oG 25 (.load 1 false (.t 24)) 23 false,oG 26 (.mov (.t 3)) 23 false,oG 27 (.iaddr 2 (.t 25) (.t 26)) 23 false,oG 28 (.faddr 1 (.t 27)) 23 false,oG 29 (.load 1 false (.t 28)) 23 false,oG 30 (.len (.t 29)) 23 false,oG 31 (.bin .gtr (.t 30) (iN 20)) 23 false,oB 32 (.pick (.t 23) bT (.t 31))]) (.cond (.t 32) (.seq (.ops [oB 2 (.mov bF)]) (.ret)) (.skip)))) (.ops [oB 13 (.mov (.t 3)),oB 14 (.bin .add (.t 13) (iN 1)),oB 3 (.mov (.t 14))]))
def ZET:C:=.seq (.ops [oB 1 (.box (.t 0)),oB 2 (.mov bF)]) (.seq (.seq (.ops [oB 3 (.mov (iN 0))]) (.block 0 (.loop [1,3] [1,2] Zxa))) (.seq (.ops [oB 33 (.faddr 2 (.t 1)),oB 34 (.load 1 false (.t 33)),oB 35 (.len (.t 34)),oB 36 (.bin .leq (.t 35) (iN 20)),oB 37 (.mov (.t 36)),oG 38 (.faddr 3 (.t 1)) 37 true,oG 39 (.load 1 false (.t 38)) 37 true,oG 40 (.len (.t 39)) 37 true,oG 41 (.bin .leq (.t 40) (iN 60)) 37 true,oB 42 (.pick (.t 37) (.t 41) bF),oB 43 (.mov (.t 42)),oG 44 (.faddr 4 (.t 1)) 43 true,oG 45 (.load 1 false (.t 44)) 43 true,oG 46 (.len (.t 45)) 43 true,oG 47 (.bin .leq (.t 46) (iN 20)) 43 true,oB 48 (.pick (.t 43) (.t 47) bF),oB 49 (.mov (.t 48)),oG 50 (.faddr 5 (.t 1)) 49 true,oG 51 (.load 1 false (.t 50)) 49 true,oG 52 (.len (.t 51)) 49 true,oG 53 (.bin .leq (.t 52) (iN 8)) 49 true,oB 54 (.pick (.t 49) (.t 53) bF),oB 2 (.mov (.t 54))]) (.ret)))
def ZAJ:FnI:=⟨1,ZET,[(2,none)]⟩
def ZxH:C:=.seq (.ops [oB 33 (.bin .lss (.t 32) (.t 31))]) (.seq (.cond (.t 33) (.skip) (.exit 0)) (.seq (.block 1 (.seq (.ops [oB 34 (.mov (.t 32)),oB 6 (.mov (.t 34))]) (.ops [oB 35 (.mov (.t 5)),oB 36 (.load 6 true (.t 1)),oB 37 (.mov (.t 6)),oB 38 (.call 66 [(.t 35),(.t 36),(.t 37)])]))) (.ops [oB 39 (.bin .add (.t 32) (iN 1)),oB 32 (.mov (.t 39))])))
def ZwO:C:=.seq (.ops [oB 44 (.bin .lss (.t 43) (.t 42))]) (.seq (.cond (.t 44) (.skip) (.exit 2)) (.seq (.block 3 (.seq (.ops [oB 45 (.iaddr 2 (.t 41) (.t 43)),oB 46 (.load 2 true (.t 45)),oB 8 (.alloc (.d (.agg [.int .i64 0,.int .i64 0]))),oA (.store 2 (.t 8) (.t 46))]) (.draw [oB 47 (.mov (.t 5)),oM 48 (.mov (.t 5)) [0],oM 49 (.nilck (.t 48)) [0],oM 50 (.faddr 4 (.t 49)) [0],oM 51 (.load 1 false (.t 50)) [0],oM 52 (.faddr 0 (.t 8)) [0,1,2,3,4],oM 53 (.load 1 false (.t 52)) [0,1,2,3,4],oM 54 (.mapget [false] (.int .i64 0) (.t 51) (.t 53)) [0],oM 55 (.mov (.t 5)) [0,1,2,3,4,5,6,7],oM 56 (.nilck (.t 55)) [0,1,2,3,4,5,6,7],oM 57 (.faddr 3 (.t 56)) [0,1,2,3,4,5,6,7],oM 58 (.load 1 false (.t 57)) [0,1,2,3,4,5,6,7],oM 59 (.faddr 1 (.t 8)) [0,1,2,3,4,5,6,7,8,9,10,11],oM 60 (.load 1 false (.t 59)) [0,1,2,3,4,5,6,7,8,9,10,11],oM 61 (.mapget [false] (.int .i64 0) (.t 58) (.t 60)) [0,1,2,3,4,5,6,7],⟨some 62,.call 67 [(.t 47),(.t 54),(.t 61)],none,[],4⟩]))) (.ops [oB 63 (.bin .add (.t 43) (iN 1)),oB 43 (.mov (.t 63))])))
def Zyn:C:=.seq (.ops [oB 68 (.bin .lss (.t 67) (.t 66))]) (.seq (.cond (.t 68) (.skip) (.exit 4)) (.seq (.block 5 (.seq (.ops [oB 69 (.iaddr 3 (.t 65) (.t 67)),oB 70 (.load 3 true (.t 69)),oB 10 (.alloc (.d (.agg [.int .i64 0,.int .i64 0,.int .i64 0]))),oA (.store 3 (.t 10) (.t 70))]) (.draw [oB 71 (.mov (.t 5)),oM 72 (.mov (.t 5)) [0],oM 73 (.nilck (.t 72)) [0],oM 74 (.faddr 4 (.t 73)) [0],oM 75 (.load 1 false (.t 74)) [0],oM 76 (.faddr 0 (.t 10)) [0,1,2,3,4],oM 77 (.load 1 false (.t 76)) [0,1,2,3,4],oM 78 (.mapget [false] (.int .i64 0) (.t 75) (.t 77)) [0],oM 79 (.mov (.t 5)) [0,1,2,3,4,5,6,7],oM 80 (.nilck (.t 79)) [0,1,2,3,4,5,6,7],oM 81 (.faddr 5 (.t 80)) [0,1,2,3,4,5,6,7],oM 82 (.load 1 false (.t 81)) [0,1,2,3,4,5,6,7],oM 83 (.load 3 true (.t 10)) [0,1,2,3,4,5,6,7,8,9,10,11],oM 84 (.mapget [false,false,false] (.int .i64 0) (.t 82) (.t 83)) [0,1,2,3,4,5,6,7],⟨some 85,.call 67 [(.t 71),(.t 78),(.t 84)],none,[],4⟩]))) (.ops [oB 86 (.bin .add (.t 67) (iN 1)),oB 67 (.mov (.t 86))])))
def Zym:C:=.seq (.ops [oB 103 (.bin .lss (.t 102) (.t 101))]) (.seq (.cond (.t 103) (.skip) (.exit 8)) (.seq (.block 9 (.seq (.ops [oB 104 (.iaddr 1 (.t 100) (.t 102)),oB 105 (.load 1 false (.t 104)),oB 15 (.mov (.t 105))]) (.ops [oB 106 (.mov (.t 5)),oB 107 (.mov (.t 5)),oB 108 (.nilck (.t 107)),oB 109 (.faddr 4 (.t 108)),oB 110 (.load 1 false (.t 109)),oB 111 (.mov (.t 15)),oB 112 (.mapget [false] (.int .i64 0) (.t 110) (.t 111)),oB 113 (.mov (.t 13)),oB 114 (.call 67 [(.t 106),(.t 112),(.t 113)])]))) (.ops [oB 115 (.bin .add (.t 102) (iN 1)),oB 102 (.mov (.t 115))])))
def Zxh:C:=.seq (.ops [oB 120 (.bin .lss (.t 119) (.t 118))]) (.seq (.cond (.t 120) (.skip) (.exit 10)) (.seq (.block 11 (.seq (.ops [oB 121 (.iaddr 1 (.t 117) (.t 119)),oB 122 (.load 1 false (.t 121)),oB 17 (.mov (.t 122))]) (.ops [oB 123 (.mov (.t 5)),oB 124 (.mov (.t 13)),oB 125 (.mov (.t 5)),oB 126 (.nilck (.t 125)),oB 127 (.faddr 3 (.t 126)),oB 128 (.load 1 false (.t 127)),oB 129 (.mov (.t 17)),oB 130 (.mapget [false] (.int .i64 0) (.t 128) (.t 129)),oB 131 (.call 67 [(.t 123),(.t 124),(.t 130)])]))) (.ops [oB 132 (.bin .add (.t 119) (iN 1)),oB 119 (.mov (.t 132))])))
def ZxV:C:=.seq (.ops [oB 91 (.bin .lss (.t 90) (.t 89))]) (.seq (.cond (.t 91) (.skip) (.exit 6)) (.seq (.block 7 (.seq (.ops [oB 92 (.mov (.t 90)),oB 93 (.iaddr 2 (.t 88) (.t 90)),oB 94 (.load 2 true (.t 93)),oB 12 (.alloc (.agg [(.nilsl 1),(.nilsl 1)])),oB 11 (.mov (.t 92)),oA (.store 2 (.t 12) (.t 94))]) (.seq (.ops [oB 95 (.mov (.t 5)),oB 96 (.mov (.t 11)),oB 97 (.build [(.d (.int .i64 0)),(.d (.int .i64 0))] [(0,1,(iN (-1))),(1,1,(.t 96))]),oB 98 (.call 68 [(.t 95),(.t 97),(iN 1)]),oB 13 (.mov (.t 98))]) (.seq (.seq (.ops [oB 99 (.faddr 0 (.t 12)),oB 100 (.load 1 false (.t 99)),oB 101 (.len (.t 100)),oB 102 (.mov (iN 0))]) (.block 8 (.loop [2,5,12,13,88,89,90,100,101,102] [2,5,12,13,88,89,90] Zym))) (.seq (.ops [oB 116 (.faddr 1 (.t 12)),oB 117 (.load 1 false (.t 116)),oB 118 (.len (.t 117)),oB 119 (.mov (iN 0))]) (.block 10 (.loop [2,5,13,88,89,90,117,118,119] [2,5,88,89,90] Zxh))))))) (.ops [oB 133 (.bin .add (.t 90) (iN 1)),oB 90 (.mov (.t 133))])))
def ZEr:C:=.seq (.ops [oB 1 (.box (.t 0)),oB 2 (.alloc (.agg [(.nilsl 1),(.nilsl 2),(.nilsl 2)])),oB 3 (.mov (iN 0))]) (.seq (.seq (.ops [oB 18 (.load 6 true (.t 1)),oB 19 (.call 55 [(.t 18)]),oB 4 (.mov (.t 19))]) (.seq (.ops [oB 20 (.mov (.t 4)),oB 21 (.bin .neq (.t 20) (iN 0))]) (.cond (.t 21) (.seq (.ops [oB 22 (.build [(.nilsl 1),(.nilsl 2),(.nilsl 2)] []),oB 23 (.mov (.t 4)),oA (.store 3 (.t 2) (.t 22)),oB 3 (.mov (.t 23))]) (.ret)) (.skip)))) (.seq (.ops [oB 24 .mkmap,oB 25 .mkmap,oB 26 .mkmap,oB 27 (.build [(.nilsl 1),(.nilsl 2),(.nilsl 2),.bad,.bad,.bad] [(3,1,(.t 24)),(4,1,(.t 25)),(5,1,(.t 26))]),oB 28 (.box (.t 27)),oB 5 (.mov (.t 28))]) (.seq (.seq (.ops [oB 29 (.faddr 2 (.t 1)),oB 30 (.load 1 false (.t 29)),oB 31 (.len (.t 30)),oB 32 (.mov (iN 0))]) (.block 0 (.loop [1,2,5,31,32] [1,2,5] ZxH))) (.seq (.seq (.ops [oB 40 (.faddr 3 (.t 1)),oB 41 (.load 1 false (.t 40)),oB 42 (.len (.t 41)),oB 43 (.mov (iN 0))]) (.block 2 (.loop [1,2,5,41,42,43] [1,2,5] ZwO))) (.seq (.seq (.ops [oB 64 (.faddr 4 (.t 1)),oB 65 (.load 1 false (.t 64)),oB 66 (.len (.t 65)),oB 67 (.mov (iN 0))]) (.block 4 (.loop [1,2,5,65,66,67] [1,2,5] Zyn))) (.seq (.seq (.ops [oB 87 (.faddr 5 (.t 1)),oB 88 (.load 1 false (.t 87)),oB 89 (.len (.t 88)),oB 90 (.mov (iN 0))]) (.block 6 (.loop [2,5,88,89,90] [2,5] ZxV))) (.seq (.seq (.ops [oB 134 (.mov (.t 5)),oB 135 (.nilck (.t 134)),oB 136 (.faddr 0 (.t 135)),oB 137 (.faddr 0 (.t 136)),oB 138 (.load 2 true (.t 137)),oB 139 (.call 69 [(.t 138)]),oB 140 (.bin .neq (.t 139) (iN 0))]) (.cond (.t 140) (.seq (.ops [oB 141 (.build [(.nilsl 1),(.nilsl 2),(.nilsl 2)] []),oA (.store 3 (.t 2) (.t 141)),oB 3 (.mov (iN 70))]) (.ret)) (.skip))) (.seq (.ops [oB 142 (.mov (.t 5)),oB 143 (.nilck (.t 142)),oB 144 (.faddr 0 (.t 143)),oB 145 (.load 3 true (.t 144)),oA (.store 3 (.t 2) (.t 145)),oB 3 (.mov (iN 0))]) (.ret)))))))))
def ZBl:FnI:=⟨1,ZEr,[(2,some (3,true)),(3,none)]⟩
def ZwP:C:=.seq (.ops [oB 47 (.bin .lss (.t 46) (.t 45))]) (.seq (.cond (.t 47) (.skip) (.exit 0)) (.seq (.block 1 (.seq (.ops [oB 48 (.iaddr 1 (.t 44) (.t 46)),oB 49 (.load 1 false (.t 48)),oB 14 (.mov (.t 49))]) (.ops [oB 50 (.mov (.t 12)),oB 51 (.faddr 1 (.t 8)),oB 52 (.load 1 false (.t 51)),oB 53 (.mov (.t 14)),oB 54 (.iaddr 1 (.t 52) (.t 53)),oB 55 (.load 1 false (.t 54)),oB 56 (.bslice 1 [.int .i64 0] 1 [(0,(.t 55))]),oB 57 (.append 1 (.t 50) (.t 56)),oB 12 (.mov (.t 57))]))) (.ops [oB 58 (.bin .add (.t 46) (iN 1)),oB 46 (.mov (.t 58))])))
def ZFy:C:=.seq (.ops [oB 5 (.box (.t 0)),oB 6 (.box (.t 1)),oB 8 (.box (.t 3)),oB 10 (.alloc (.agg [(.nilsl 1),(.nilsl 1)]))]) (.seq (.draw [oB 15 (.faddr 0 (.t 8)),oB 16 (.load 1 false (.t 15)),oB 17 (.call 73 [(.t 16)]),oM 18 (.faddr 1 (.t 8)) [0,1,2],oM 19 (.load 1 false (.t 18)) [0,1,2],oB 20 (.call 74 [(.t 19)]),oB 21 (.build [(.nilsl 1),(.nilsl 1)] [(0,1,(.t 17)),(1,1,(.t 20))]),⟨none,.store 2 (.t 8) (.t 21),none,[],3⟩]) (.seq (.ops [oB 22 (.faddr 0 (.t 8)),oB 23 (.load 1 false (.t 22)),oB 24 (.mov (.t 4)),oB 25 (.iaddr 1 (.t 23) (.t 24)),oA (.store 1 (.t 25) bT)]) (.seq (.ops [oB 26 (.faddr 2 (.t 6)),oB 27 (.load 1 false (.t 26)),oB 28 (.mov (.t 4)),oB 29 (.iaddr 2 (.t 27) (.t 28)),oB 30 (.faddr 0 (.t 29)),oB 31 (.load 1 false (.t 30)),oB 11 (.mov (.t 31))]) (.seq (.seq (.ops [oB 32 (.mov (.t 11)),oB 33 (.bin .lss (.t 32) (iN 0)),oB 34 (.mov (.t 33)),oG 35 (.load 3 true (.t 6)) 34 false,oG 36 (.mov (.t 11)) 34 false,oG 37 (.call 75 [(.t 35),(.t 36)]) 34 false,oG 38 (.mov (.t 4)) 34 false,oG 39 (.bin .neq (.t 37) (.t 38)) 34 false,oB 40 (.pick (.t 34) bT (.t 39))]) (.cond (.t 40) (.seq (.ops [oB 41 (.load 2 true (.t 8)),oA (.store 2 (.t 10) (.t 41))]) (.ret)) (.skip))) (.seq (.ops [oB 12 (.mov (.c (.nilsl 1)))]) (.seq (.seq (.ops [oB 42 (.load 6 true (.t 5)),oB 43 (.mov (.t 11)),oB 44 (.call 76 [(.t 42),(.t 43)]),oB 45 (.len (.t 44)),oB 46 (.mov (iN 0))]) (.block 0 (.loop [2,5,8,10,11,12,44,45,46] [2,5,8,10,11,12] ZwP))) (.seq (.draw [oB 59 (.faddr 1 (.t 8)),oB 60 (.load 1 false (.t 59)),oM 61 (.mov (.t 11)) [0,1],oM 62 (.faddr 2 (.t 5)) [0,1,2],oM 63 (.load 1 false (.t 62)) [0,1,2],oM 64 (.mov (.t 11)) [0,1,2,3,4],oM 65 (.iaddr 3 (.t 63) (.t 64)) [0,1,2],oM 66 (.load 3 true (.t 65)) [0,1,2],oM 67 (.mov (.t 2)) [0,1,2,3,4,5,6,7],oM 68 (.mov (.t 12)) [0,1,2,3,4,5,6,7,8],oM 69 (.call 39 [(.t 66),(.t 67),(.t 68)]) [0,1,2],oB 70 (.iaddr 1 (.t 60) (.t 61)),⟨none,.store 1 (.t 70) (.t 69),none,[],3⟩]) (.seq (.ops [oB 71 (.load 2 true (.t 8)),oA (.store 2 (.t 10) (.t 71))]) (.ret)))))))))
def ZBD:FnI:=⟨5,ZFy,[(10,some (2,true))]⟩
def ZDO:C:=.seq (.ops [oB 1 (.box (.t 0)),oB 2 (.mov (.c (.nilsl 1)))]) (.seq (.seq (.ops [oB 5 (.load 2 true (.t 1)),oB 6 (.call 69 [(.t 5)]),oB 7 (.bin .neq (.t 6) (iN 0))]) (.cond (.t 7) (.seq (.ops [oB 2 (.mov (.c (.nilsl 1)))]) (.ret)) (.skip))) (.seq (.ops [oB 9 (.load 2 true (.t 1)),oB 10 (.call 77 [(.t 9)]),oB 8 (.mov (.t 10)),oB 11 (.extract (.t 8) 0),oB 12 (.extract (.t 8) 1),oB 3 (.mov (.t 11)),oB 4 (.mov (.t 12))]) (.seq (.ops [oB 13 (.mov (.t 3)),oB 2 (.mov (.t 13))]) (.ret))))
def ZBm:FnI:=⟨1,ZDO,[(2,none)]⟩
def ZEb:C:=.seq (.ops [oB 3 (.box (.t 0)),oB 4 (.box (.t 1)),oB 6 (.mov bF)]) (.seq (.draw [oB 7 (.faddr 0 (.t 4)),oB 8 (.load 1 false (.t 7)),oM 9 (.mov (.t 2)) [0,1],oB 10 (.iaddr 1 (.t 8) (.t 9)),oB 11 (.load 1 false (.t 10)),oM 12 (.faddr 2 (.t 3)) [0,1,2,3,4],oM 13 (.load 1 false (.t 12)) [0,1,2,3,4],oM 14 (.mov (.t 2)) [0,1,2,3,4,5,6],oM 15 (.iaddr 3 (.t 13) (.t 14)) [0,1,2,3,4],oM 16 (.faddr 2 (.t 15)) [0,1,2,3,4],oM 17 (.load 1 false (.t 16)) [0,1,2,3,4],oB 18 (.bin .eql (.t 11) (.t 17)),oB 6 (.mov (.t 18))]) (.ret))
def ZBn:FnI:=⟨3,ZEb,[(6,none)]⟩
def ZyN:C:=.seq (.ops [oB 33 (.bin .lss (.t 32) (.t 31))]) (.seq (.cond (.t 33) (.skip) (.exit 0)) (.seq (.block 1 (.seq (.ops [oB 34 (.iaddr 3 (.t 30) (.t 32)),oB 35 (.load 3 true (.t 34)),oB 9 (.alloc (.d (.agg [.int .i64 0,.int .i64 0,.int .i64 0]))),oA (.store 3 (.t 9) (.t 35))]) (.seq (.draw [oB 36 (.faddr 1 (.t 9)),oB 37 (.load 1 false (.t 36)),oM 38 (.mov (.t 2)) [0,1],oB 39 (.bin .eql (.t 37) (.t 38)),oB 40 (.mov (.t 39)),oG 41 (.faddr 2 (.t 9)) 40 true,oG 42 (.load 1 false (.t 41)) 40 true,⟨some 43,.faddr 0 (.t 4),some (40,true),[5,6],0⟩,⟨some 44,.load 1 false (.t 43),some (40,true),[5,6],0⟩,⟨some 45,.mov (.t 2),some (40,true),[5,6,7,8],0⟩,⟨some 46,.iaddr 1 (.t 44) (.t 45),some (40,true),[5,6],0⟩,⟨some 47,.load 1 false (.t 46),some (40,true),[5,6],0⟩,oG 48 (.bin .eql (.t 42) (.t 47)) 40 true,oB 49 (.pick (.t 40) (.t 48) bF)]) (.cond (.t 49) (.seq (.ops [oB 50 (.load 6 true (.t 3)),oB 51 (.load 2 true (.t 4)),oB 52 (.faddr 0 (.t 9)),oB 53 (.load 1 false (.t 52)),oB 54 (.call 46 [(.t 50),(.t 51),(.t 53)]),oB 7 (.mov (.t 54))]) (.exit 0)) (.skip))))) (.ops [oB 55 (.bin .add (.t 32) (iN 1)),oB 32 (.mov (.t 55))])))
def ZD3:C:=.seq (.ops [oB 3 (.box (.t 0)),oB 4 (.box (.t 1)),oB 6 (.mov bF)]) (.seq (.seq (.ops [oB 10 (.load 6 true (.t 3)),oB 11 (.load 2 true (.t 4)),oB 12 (.mov (.t 2)),oB 13 (.call 46 [(.t 10),(.t 11),(.t 12)]),oB 14 (.mov (.t 13)),oG 15 (.faddr 0 (.t 4)) 14 false,oG 16 (.load 1 false (.t 15)) 14 false,oG 17 (.mov (.t 2)) 14 false,oG 18 (.iaddr 1 (.t 16) (.t 17)) 14 false,oG 19 (.load 1 false (.t 18)) 14 false,oG 20 (.bin .eql (.t 19) (iN 0)) 14 false,oG 21 (.mov (.t 20)) 14 false,oG 22 (.load 6 true (.t 3)) 21 true,oG 23 (.load 2 true (.t 4)) 21 true,oG 24 (.mov (.t 2)) 21 true,oG 25 (.call 78 [(.t 22),(.t 23),(.t 24)]) 21 true,oG 26 (.un .not (.t 25)) 21 true,oG 27 (.pick (.t 21) (.t 26) bF) 14 false,oB 28 (.pick (.t 14) bT (.t 27))]) (.cond (.t 28) (.seq (.ops [oB 6 (.mov bF)]) (.ret)) (.skip))) (.seq (.ops [oB 7 (.mov bT)]) (.seq (.skip) (.seq (.seq (.ops [oB 29 (.faddr 4 (.t 3)),oB 30 (.load 1 false (.t 29)),oB 31 (.len (.t 30)),oB 32 (.mov (iN 0))]) (.block 0 (.loop [2,3,4,7,30,31,32] [7] ZyN))) (.seq (.ops [oB 56 (.mov (.t 7)),oB 6 (.mov (.t 56))]) (.ret))))))
def ZAP:FnI:=⟨3,ZD3,[(6,none)]⟩
def Zy6:C:=.seq (.ops [oB 35 (.bin .lss (.t 34) (.t 33))]) (.seq (.cond (.t 35) (.skip) (.exit 0)) (.seq (.block 1 (.seq (.ops [oB 36 (.iaddr 1 (.t 32) (.t 34)),oB 37 (.load 1 false (.t 36)),oB 11 (.mov (.t 37))]) (.ops [oB 38 (.mov (.t 9)),oB 39 (.faddr 1 (.t 6)),oB 40 (.load 1 false (.t 39)),oB 41 (.mov (.t 11)),oB 42 (.iaddr 1 (.t 40) (.t 41)),oB 43 (.load 1 false (.t 42)),oB 44 (.bslice 1 [.int .i64 0] 1 [(0,(.t 43))]),oB 45 (.append 1 (.t 38) (.t 44)),oB 9 (.mov (.t 45))]))) (.ops [oB 46 (.bin .add (.t 34) (iN 1)),oB 34 (.mov (.t 46))])))
def ZD1:C:=.seq (.ops [oB 4 (.box (.t 0)),oB 6 (.box (.t 2)),oB 8 (.alloc (.agg [(.nilsl 1),(.nilsl 1)]))]) (.seq (.draw [oB 12 (.faddr 0 (.t 6)),oB 13 (.load 1 false (.t 12)),oB 14 (.call 74 [(.t 13)]),oM 15 (.faddr 1 (.t 6)) [0,1,2],oM 16 (.load 1 false (.t 15)) [0,1,2],oB 17 (.call 74 [(.t 16)]),oB 18 (.build [(.nilsl 1),(.nilsl 1)] [(0,1,(.t 14)),(1,1,(.t 17))]),⟨none,.store 2 (.t 6) (.t 18),none,[],3⟩]) (.seq (.ops [oB 19 (.faddr 0 (.t 6)),oB 20 (.load 1 false (.t 19)),oB 21 (.mov (.t 3)),oB 22 (.iaddr 1 (.t 20) (.t 21)),oB 23 (.load 1 false (.t 22)),oB 24 (.bin .add (.t 23) (iN 1)),oB 25 (.iaddr 1 (.t 20) (.t 21)),oA (.store 1 (.t 25) (.t 24))]) (.seq (.seq (.ops [oB 26 (.load 6 true (.t 4)),oB 27 (.load 2 true (.t 6)),oB 28 (.mov (.t 3)),oB 29 (.call 46 [(.t 26),(.t 27),(.t 28)])]) (.cond (.t 29) (.seq (.ops [oB 9 (.mov (.c (.nilsl 1)))]) (.seq (.seq (.ops [oB 30 (.load 6 true (.t 4)),oB 31 (.mov (.t 3)),oB 32 (.call 76 [(.t 30),(.t 31)]),oB 33 (.len (.t 32)),oB 34 (.mov (iN 0))]) (.block 0 (.loop [1,3,4,6,8,9,32,33,34] [1,3,4,6,8,9] Zy6))) (.draw [oB 47 (.faddr 1 (.t 6)),oB 48 (.load 1 false (.t 47)),oM 49 (.mov (.t 3)) [0,1],oM 50 (.faddr 2 (.t 4)) [0,1,2],oM 51 (.load 1 false (.t 50)) [0,1,2],oM 52 (.mov (.t 3)) [0,1,2,3,4],oM 53 (.iaddr 3 (.t 51) (.t 52)) [0,1,2],oM 54 (.load 3 true (.t 53)) [0,1,2],oM 55 (.mov (.t 1)) [0,1,2,3,4,5,6,7],oM 56 (.mov (.t 9)) [0,1,2,3,4,5,6,7,8],oM 57 (.call 39 [(.t 54),(.t 55),(.t 56)]) [0,1,2],oB 58 (.iaddr 1 (.t 48) (.t 49)),⟨none,.store 1 (.t 58) (.t 57),none,[],3⟩]))) (.skip))) (.seq (.ops [oB 59 (.load 2 true (.t 6)),oA (.store 2 (.t 8) (.t 59))]) (.ret)))))
def ZBp:FnI:=⟨4,ZD1,[(8,some (2,true))]⟩
def ZwK:C:=.seq (.ops [oB 11 (.bin .lss (.t 10) (.t 9))]) (.seq (.cond (.t 11) (.skip) (.exit 0)) (.seq (.block 1 (.seq (.ops [oB 12 (.mov (.t 10)),oB 6 (.mov (.t 12))]) (.seq (.ops [oB 13 (.load 6 true (.t 2)),oB 14 (.load 2 true (.t 3)),oB 15 (.mov (.t 6)),oB 16 (.call 47 [(.t 13),(.t 14),(.t 15)])]) (.cond (.t 16) (.ops [oB 17 (.mov (.t 5)),oB 18 (.mov (.t 6)),oB 19 (.bslice 1 [.int .i64 0] 1 [(0,(.t 18))]),oB 20 (.append 1 (.t 17) (.t 19)),oB 5 (.mov (.t 20))]) (.skip))))) (.ops [oB 21 (.bin .add (.t 10) (iN 1)),oB 10 (.mov (.t 21))])))
def ZEg:C:=.seq (.ops [oB 2 (.box (.t 0)),oB 3 (.box (.t 1)),oB 4 (.mov (.c (.nilsl 1)))]) (.seq (.ops [oB 5 (.mov (.c (.nilsl 1)))]) (.seq (.seq (.ops [oB 7 (.faddr 2 (.t 2)),oB 8 (.load 1 false (.t 7)),oB 9 (.len (.t 8)),oB 10 (.mov (iN 0))]) (.block 0 (.loop [2,3,5,9,10] [5] ZwK))) (.seq (.ops [oB 22 (.mov (.t 5)),oB 4 (.mov (.t 22))]) (.ret))))
def ZBb:FnI:=⟨2,ZEg,[(4,none)]⟩
def ZwE:C:=.seq (.ops [oB 64 (.bin .lss (.t 63) (.t 62))]) (.seq (.cond (.t 64) (.skip) (.exit 0)) (.seq (.block 1 (.seq (.ops [oB 65 (.mov (.t 63)),oB 66 (.iaddr 2 (.t 61) (.t 63)),oB 67 (.load 2 true (.t 66)),oB 6 (.alloc (.d (.agg [.int .i64 0,.int .i64 0]))),oB 5 (.mov (.t 65)),oA (.store 2 (.t 6) (.t 67))]) (.seq (.draw [oB 68 (.load 6 true (.t 1)),oM 69 (.faddr 0 (.t 6)) [0],oM 70 (.load 1 false (.t 69)) [0],oM 71 (.faddr 1 (.t 6)) [0,1,2],oM 72 (.load 1 false (.t 71)) [0,1,2],oB 73 (.call 86 [(.t 68),(.t 70),(.t 72)]),oB 74 (.un .not (.t 73)),oB 75 (.mov (.t 74)),oG 76 (.faddr 3 (.t 1)) 75 false,oG 77 (.load 1 false (.t 76)) 75 false,⟨some 78,.mov (.t 5),some (75,false),[8,9],0⟩,oG 79 (.slice 2 (.t 77) none (some (.t 78)) none) 75 false,⟨some 80,.load 2 true (.t 6),some (75,false),[8,9,10,11],0⟩,oG 81 (.call 87 [(.t 79),(.t 80)]) 75 false,oB 82 (.pick (.t 75) bT (.t 81))]) (.cond (.t 82) (.seq (.ops [oB 2 (.mov (iN 53))]) (.ret)) (.skip))))) (.ops [oB 83 (.bin .add (.t 63) (iN 1)),oB 63 (.mov (.t 83))])))
def Zxs:C:=.seq (.ops [oB 88 (.bin .lss (.t 87) (.t 86))]) (.seq (.cond (.t 88) (.skip) (.exit 2)) (.seq (.block 3 (.seq (.ops [oB 89 (.mov (.t 87)),oB 90 (.iaddr 3 (.t 85) (.t 87)),oB 91 (.load 3 true (.t 90)),oB 8 (.alloc (.d (.agg [.int .i64 0,.int .i64 0,.int .i64 0]))),oB 7 (.mov (.t 89)),oA (.store 3 (.t 8) (.t 91))]) (.seq (.ops [oB 92 (.mkfn 88 [(.t 8)]),oB 9 (.mov (.t 92))]) (.seq (.draw [oB 93 (.load 6 true (.t 1)),oM 94 (.faddr 0 (.t 8)) [0],oM 95 (.load 1 false (.t 94)) [0],oM 96 (.faddr 1 (.t 8)) [0,1,2],oM 97 (.load 1 false (.t 96)) [0,1,2],oB 98 (.call 86 [(.t 93),(.t 95),(.t 97)]),oB 99 (.un .not (.t 98)),oB 100 (.mov (.t 99)),oG 101 (.faddr 2 (.t 8)) 100 false,oG 102 (.load 1 false (.t 101)) 100 false,⟨some 103,.faddr 2 (.t 1),some (100,false),[8,9],0⟩,⟨some 104,.load 1 false (.t 103),some (100,false),[8,9],0⟩,⟨some 105,.faddr 1 (.t 8),some (100,false),[8,9,10,11],0⟩,⟨some 106,.load 1 false (.t 105),some (100,false),[8,9,10,11],0⟩,⟨some 107,.iaddr 3 (.t 104) (.t 106),some (100,false),[8,9],0⟩,⟨some 108,.faddr 2 (.t 107),some (100,false),[8,9],0⟩,⟨some 109,.load 1 false (.t 108),some (100,false),[8,9],0⟩,⟨some 110,.bin .sub (.t 109) (iN 1),some (100,false),[8,9],0⟩,oG 111 (.call 82 [(.t 102),(iN 1),(.t 110)]) 100 false,oG 112 (.un .not (.t 111)) 100 false,oB 113 (.pick (.t 100) bT (.t 112)),oB 114 (.mov (.t 113)),oG 115 (.faddr 4 (.t 1)) 114 false,oG 116 (.load 1 false (.t 115)) 114 false,⟨some 117,.mov (.t 7),some (114,false),[22,23],0⟩,oG 118 (.slice 3 (.t 116) none (some (.t 117)) none) 114 false,⟨some 119,.mov (.t 9),some (114,false),[22,23,24,25],0⟩,oG 120 (.call 89 [(.t 118),(.t 119)]) 114 false,oB 121 (.pick (.t 114) bT (.t 120))]) (.cond (.t 121) (.seq (.ops [oB 2 (.mov (iN 54))]) (.ret)) (.skip)))))) (.ops [oB 122 (.bin .add (.t 87) (iN 1)),oB 87 (.mov (.t 122))])))
def Zyp:C:=.seq (.ops [oB 127 (.bin .lss (.t 126) (.t 125))]) (.seq (.cond (.t 127) (.skip) (.exit 4)) (.seq (.block 5 (.seq (.ops [oB 128 (.iaddr 2 (.t 124) (.t 126)),oB 129 (.load 2 true (.t 128)),oB 11 (.alloc (.agg [(.nilsl 1),(.nilsl 1)])),oA (.store 2 (.t 11) (.t 129))]) (.seq (.ops [oB 130 (.mkfn 90 [(.t 11)]),oB 12 (.mov (.t 130))]) (.seq (.ops [oB 131 (.load 6 true (.t 1)),oB 132 (.faddr 0 (.t 11)),oB 133 (.load 1 false (.t 132)),oB 134 (.call 92 [(.t 131),(.t 133)]),oB 135 (.un .not (.t 134)),oB 136 (.mov (.t 135)),oG 137 (.load 6 true (.t 1)) 136 false,oG 138 (.faddr 1 (.t 11)) 136 false,oG 139 (.load 1 false (.t 138)) 136 false,oG 140 (.call 92 [(.t 137),(.t 139)]) 136 false,oG 141 (.un .not (.t 140)) 136 false,oB 142 (.pick (.t 136) bT (.t 141)),oB 143 (.mov (.t 142)),oG 144 (.faddr 0 (.t 11)) 143 false,oG 145 (.load 1 false (.t 144)) 143 false,oG 146 (.mov (.t 12)) 143 false,oG 147 (.call 93 [(.t 145),(.t 146)]) 143 false,oB 148 (.pick (.t 143) bT (.t 147))]) (.cond (.t 148) (.seq (.ops [oB 2 (.mov (iN 55))]) (.ret)) (.skip)))))) (.ops [oB 149 (.bin .add (.t 126) (iN 1)),oB 126 (.mov (.t 149))])))
def ZEU:C:=.seq (.ops [oB 1 (.box (.t 0)),oB 2 (.mov (iN 0))]) (.seq (.seq (.ops [oB 13 (.faddr 2 (.t 1)),oB 14 (.load 1 false (.t 13)),oB 15 (.len (.t 14)),oB 16 (.call 82 [(.t 15),(iN 1),(iN 16)]),oB 17 (.un .not (.t 16)),oB 18 (.mov (.t 17)),oG 19 (.faddr 3 (.t 1)) 18 false,oG 20 (.load 1 false (.t 19)) 18 false,oG 21 (.len (.t 20)) 18 false,oG 22 (.bin .gtr (.t 21) (iN 48)) 18 false,oB 23 (.pick (.t 18) bT (.t 22)),oB 24 (.mov (.t 23)),oG 25 (.faddr 4 (.t 1)) 24 false,oG 26 (.load 1 false (.t 25)) 24 false,oG 27 (.len (.t 26)) 24 false,oG 28 (.bin .gtr (.t 27) (iN 16)) 24 false,oB 29 (.pick (.t 24) bT (.t 28)),oB 30 (.mov (.t 29)),oG 31 (.faddr 5 (.t 1)) 30 false,oG 32 (.load 1 false (.t 31)) 30 false,oG 33 (.len (.t 32)) 30 false,oG 34 (.bin .gtr (.t 33) (iN 4)) 30 false,oB 35 (.pick (.t 30) bT (.t 34))]) (.cond (.t 35) (.seq (.ops [oB 2 (.mov (iN 50))]) (.ret)) (.skip))) (.seq (.seq (.ops [oB 37 (.faddr 0 (.t 1)),oB 38 (.load 1 false (.t 37)),oB 39 (.call 83 [(.t 38)]),oB 36 (.mov (.t 39)),oB 40 (.extract (.t 36) 0),oB 41 (.extract (.t 36) 1),oB 3 (.mov (.t 40)),oB 4 (.mov (.t 41))]) (.seq (.ops [oB 42 (.mov (.t 4)),oB 43 (.un .not (.t 42)),oB 44 (.mov (.t 43)),oG 45 (.faddr 0 (.t 1)) 44 false,oG 46 (.load 1 false (.t 45)) 44 false,oG 47 (.bin .gtr (.t 46) (iN 4096)) 44 false,oB 48 (.pick (.t 44) bT (.t 47)),oB 49 (.mov (.t 48)),oG 50 (.faddr 1 (.t 1)) 49 false,oG 51 (.load 1 false (.t 50)) 49 false,oG 52 (.faddr 0 (.t 1)) 49 false,oG 53 (.load 1 false (.t 52)) 49 false,oG 54 (.call 82 [(.t 51),(iN 1),(.t 53)]) 49 false,oG 55 (.un .not (.t 54)) 49 false,oB 56 (.pick (.t 49) bT (.t 55))]) (.cond (.t 56) (.seq (.ops [oB 2 (.mov (iN 51))]) (.ret)) (.skip)))) (.seq (.seq (.ops [oB 57 (.faddr 2 (.t 1)),oB 58 (.load 1 false (.t 57)),oB 59 (.call 84 [(.t 58),(.c (.d (.fn 85 [])))])]) (.cond (.t 59) (.seq (.ops [oB 2 (.mov (iN 52))]) (.ret)) (.skip))) (.seq (.seq (.ops [oB 60 (.faddr 3 (.t 1)),oB 61 (.load 1 false (.t 60)),oB 62 (.len (.t 61)),oB 63 (.mov (iN 0))]) (.block 0 (.loop [1,61,62,63] [1,2] ZwE))) (.seq (.seq (.ops [oB 84 (.faddr 4 (.t 1)),oB 85 (.load 1 false (.t 84)),oB 86 (.len (.t 85)),oB 87 (.mov (iN 0))]) (.block 2 (.loop [1,85,86,87] [1,2] Zxs))) (.seq (.seq (.ops [oB 123 (.faddr 5 (.t 1)),oB 124 (.load 1 false (.t 123)),oB 125 (.len (.t 124)),oB 126 (.mov (iN 0))]) (.block 4 (.loop [1,124,125,126] [2] Zyp))) (.seq (.ops [oB 2 (.mov (iN 0))]) (.ret))))))))
def ZA4:FnI:=⟨1,ZEU,[(2,none)]⟩
def ZA3:C:=.seq (.ops [oB 29 (.bin .lss (.t 28) (.t 27))]) (.seq (.cond (.t 29) (.skip) (.exit 0)) (.seq (.block 1 (.seq (.ops [oB 30 (.mov (.t 28)),oB 31 (.iaddr 1 (.t 26) (.t 28)),oB 32 (.load 1 false (.t 31)),oB 5 (.mov (.t 30)),oB 6 (.mov (.t 32))]) (.seq (.ops [oB 33 (.mov (.t 6)),oB 34 (.bin .lss (.t 33) (iN 0)),oB 35 (.mov (.t 34)),oG 36 (.mov (.t 6)) 35 false,oG 37 (.faddr 2 (.t 2)) 35 false,oG 38 (.load 1 false (.t 37)) 35 false,oG 39 (.mov (.t 5)) 35 false,oG 40 (.iaddr 3 (.t 38) (.t 39)) 35 false,oG 41 (.faddr 2 (.t 40)) 35 false,oG 42 (.load 1 false (.t 41)) 35 false,oG 43 (.bin .gtr (.t 36) (.t 42)) 35 false,oB 44 (.pick (.t 35) bT (.t 43))]) (.cond (.t 44) (.seq (.ops [oB 4 (.mov bF)]) (.ret)) (.skip))))) (.ops [oB 45 (.bin .add (.t 28) (iN 1)),oB 28 (.mov (.t 45))])))
def ZAT:C:=.seq (.ops [oB 50 (.bin .lss (.t 49) (.t 48))]) (.seq (.cond (.t 50) (.skip) (.exit 2)) (.seq (.block 3 (.seq (.ops [oB 51 (.mov (.t 49)),oB 52 (.iaddr 1 (.t 47) (.t 49)),oB 53 (.load 1 false (.t 52)),oB 7 (.mov (.t 51)),oB 8 (.mov (.t 53))]) (.seq (.ops [oB 54 (.mov (.t 8)),oB 55 (.bin .gtr (.t 54) (iN 0)),oB 56 (.mov (.t 55)),oG 57 (.load 6 true (.t 2)) 56 true,oG 58 (.load 2 true (.t 3)) 56 true,oG 59 (.mov (.t 7)) 56 true,oG 60 (.call 78 [(.t 57),(.t 58),(.t 59)]) 56 true,oG 61 (.un .not (.t 60)) 56 true,oB 62 (.pick (.t 56) (.t 61) bF)]) (.cond (.t 62) (.seq (.ops [oB 4 (.mov bF)]) (.ret)) (.skip))))) (.ops [oB 63 (.bin .add (.t 49) (iN 1)),oB 49 (.mov (.t 63))])))
def ZEH:C:=.seq (.ops [oB 2 (.box (.t 0)),oB 3 (.box (.t 1)),oB 4 (.mov bF)]) (.seq (.seq (.ops [oB 9 (.faddr 0 (.t 3)),oB 10 (.load 1 false (.t 9)),oB 11 (.len (.t 10)),oB 12 (.faddr 2 (.t 2)),oB 13 (.load 1 false (.t 12)),oB 14 (.len (.t 13)),oB 15 (.bin .neq (.t 11) (.t 14)),oB 16 (.mov (.t 15)),oG 17 (.faddr 1 (.t 3)) 16 false,oG 18 (.load 1 false (.t 17)) 16 false,oG 19 (.len (.t 18)) 16 false,oG 20 (.faddr 2 (.t 2)) 16 false,oG 21 (.load 1 false (.t 20)) 16 false,oG 22 (.len (.t 21)) 16 false,oG 23 (.bin .neq (.t 19) (.t 22)) 16 false,oB 24 (.pick (.t 16) bT (.t 23))]) (.cond (.t 24) (.seq (.ops [oB 4 (.mov bF)]) (.ret)) (.skip))) (.seq (.seq (.ops [oB 25 (.faddr 0 (.t 3)),oB 26 (.load 1 false (.t 25)),oB 27 (.len (.t 26)),oB 28 (.mov (iN 0))]) (.block 0 (.loop [2,3,26,27,28] [2,3,4] ZA3))) (.seq (.seq (.ops [oB 46 (.faddr 0 (.t 3)),oB 47 (.load 1 false (.t 46)),oB 48 (.len (.t 47)),oB 49 (.mov (iN 0))]) (.block 2 (.loop [2,3,47,48,49] [2,3,4] ZAT))) (.seq (.ops [oB 64 (.faddr 4 (.t 2)),oB 65 (.load 1 false (.t 64)),oB 66 (.mkfn 94 [(.t 3),(.t 2)]),oB 67 (.call 89 [(.t 65),(.t 66)]),oB 68 (.un .not (.t 67)),oB 4 (.mov (.t 68))]) (.ret)))))
def ZC4:FnI:=⟨2,ZEH,[(4,none)]⟩
def ZA6:C:=.seq (.ops [oB 14 (.bin .lss (.t 13) (.t 12))]) (.seq (.cond (.t 14) (.skip) (.exit 0)) (.seq (.block 1 (.seq (.ops [oB 15 (.mov (.t 13)),oB 5 (.mov (.t 15))]) (.seq (.draw [oB 16 (.mov (.t 0)),oM 17 (.mov (.t 5)) [0],oB 18 (.iaddr 1 (.t 16) (.t 17)),oB 19 (.load 1 false (.t 18)),oM 20 (.mov (.t 1)) [0,1,2,3],oM 21 (.mov (.t 5)) [0,1,2,3,4],oM 22 (.iaddr 1 (.t 20) (.t 21)) [0,1,2,3],oM 23 (.load 1 false (.t 22)) [0,1,2,3],oB 24 (.bin .neq (.t 19) (.t 23))]) (.cond (.t 24) (.seq (.ops [oB 4 (.mov bF)]) (.ret)) (.skip))))) (.ops [oB 25 (.bin .add (.t 13) (iN 1)),oB 13 (.mov (.t 25))])))
def ZEp:C:=.seq (.ops [oB 4 (.mov bF)]) (.seq (.seq (.ops [oB 6 (.mov (.t 0)),oB 7 (.len (.t 6)),oB 8 (.mov (.t 1)),oB 9 (.len (.t 8)),oB 10 (.bin .neq (.t 7) (.t 9))]) (.cond (.t 10) (.seq (.ops [oB 4 (.mov bF)]) (.ret)) (.skip))) (.seq (.seq (.ops [oB 11 (.mov (.t 0)),oB 12 (.len (.t 11)),oB 13 (.mov (iN 0))]) (.block 0 (.loop [0,1,12,13] [4] ZA6))) (.seq (.ops [oB 4 (.mov bT)]) (.ret))))
def ZDA:FnI:=⟨2,ZEp,[(4,none)]⟩
def ZEe:C:=.seq (.ops [oB 2 (.mov (.c (.d (.int .u32 0))))]) (.seq (.ops [oB 3 (.mov (.t 0)),oB 4 (.conv .u32 (.t 3)),oB 2 (.mov (.t 4))]) (.ret))
def ZA8:FnI:=⟨1,ZEe,[(2,none)]⟩
def ZEq:C:=.seq (.ops [oB 0 (.alloc (.d (.agg [.int .u32 0,.nilfn,.int .u32 0,.nilfn,.int .u32 0,.nilfn,.int .u32 0,.nilfn])))]) (.seq (.ops [oB 1 (.build [(.d (.int .u32 0)),(.d (.nilfn))] [(0,1,(.c (.d (.int .u32 0)))),(1,1,(.c (.d (.fn 97 []))))]),oB 2 (.build [(.d (.int .u32 0)),(.d (.nilfn))] [(0,1,(.c (.d (.int .u32 1)))),(1,1,(.c (.d (.fn 98 []))))]),oB 3 (.build [(.d (.int .u32 0)),(.d (.nilfn))] [(0,1,(.c (.d (.int .u32 0)))),(1,1,(.c (.d (.fn 99 []))))]),oB 4 (.build [(.d (.int .u32 0)),(.d (.nilfn))] [(0,1,(.c (.d (.int .u32 7)))),(1,1,(.c (.d (.fn 100 []))))]),oB 5 (.build [(.d (.int .u32 0)),(.d (.nilfn)),(.d (.int .u32 0)),(.d (.nilfn)),(.d (.int .u32 0)),(.d (.nilfn)),(.d (.int .u32 0)),(.d (.nilfn))] [(0,2,(.t 1)),(2,2,(.t 2)),(4,2,(.t 3)),(6,2,(.t 4))]),oA (.store 8 (.t 0) (.t 5))]) (.ret))
def ZBX:FnI:=⟨0,ZEq,[(0,some (8,true))]⟩
def ZpG:C:=.seq (.ops [oB 28 (.bin .lss (.t 27) (.t 26))]) (.seq (.cond (.t 28) (.skip) (.exit 0)) (.seq (.block 1 (.seq (.ops [oB 29 (.mov (.t 27)),oB 8 (.mov (.t 29))]) (.seq (.ops [oB 30 (.faddr 2 (.t 4)),oB 31 (.load 1 false (.t 30)),oB 32 (.mov (.t 2)),oB 33 (.iaddr 3 (.t 31) (.t 32)),oB 34 (.faddr 2 (.t 33)),oB 35 (.load 1 false (.t 34)),oB 9 (.mov (.t 35))]) (.seq (.seq (.ops [oB 36 (.mov (.t 8)),oB 37 (.mov (.t 7)),oB 38 (.len (.t 37)),oB 39 (.bin .lss (.t 36) (.t 38))]) (.cond (.t 39) (.draw [oB 40 (.faddr 4 (.t 4)),oB 41 (.load 1 false (.t 40)),oM 42 (.mov (.t 7)) [0,1],oM 43 (.mov (.t 8)) [0,1,2],oM 44 (.iaddr 1 (.t 42) (.t 43)) [0,1],oM 45 (.load 1 false (.t 44)) [0,1],oB 46 (.iaddr 3 (.t 41) (.t 45)),oB 47 (.faddr 2 (.t 46)),oB 48 (.load 1 false (.t 47)),oB 9 (.mov (.t 48))]) (.skip))) (.seq (.draw [oB 49 (.mov (.t 0)),oB 50 (.nilck (.t 49)),oB 51 (.faddr 4 (.t 50)),⟨some 52,.load 1 false (.t 51),none,[],1⟩,oM 53 (.mov (.t 2)) [0,1,2,3],oM 54 (.mov (.t 0)) [0,1,2,3,4],oM 55 (.mov (.t 2)) [0,1,2,3,4,5],oM 56 (.mov (.t 8)) [0,1,2,3,4,5,6],oM 57 (.build [(.d (.int .i64 0)),(.d (.int .i64 0))] [(0,1,(.t 55)),(1,1,(.t 56))]) [0,1,2,3,4,5],oM 58 (.mov (.t 9)) [0,1,2,3,4,5,6,7,8],oM 59 (.mov (.t 6)) [0,1,2,3,4,5,6,7,8,9],oM 60 (.bin .sub (.t 58) (.t 59)) [0,1,2,3,4,5,6,7,8],⟨some 61,.callk 68 [(.t 54),(.t 57),(.t 60)] [(.t 51)],none,[],4⟩,⟨none,.mapset [false] (.t 52) (.t 53) (.t 61),none,[],4⟩]) (.seq (.seq (.ops [oB 62 (.mov (.t 8)),oB 63 (.bin .gtr (.t 62) (iN 0))]) (.cond (.t 63) (.seq (.draw [oB 64 (.mov (.t 0)),oM 65 (.mov (.t 0)) [0],oM 66 (.nilck (.t 65)) [0],oM 67 (.faddr 4 (.t 66)) [0],oM 68 (.load 1 false (.t 67)) [0],oM 69 (.mov (.t 2)) [0,1,2,3,4],oM 70 (.mapget [false] (.int .i64 0) (.t 68) (.t 69)) [0],oM 71 (.bin .sub (.t 70) (iN 1)) [0],oM 72 (.mov (.t 0)) [0,1,2,3,4,5,6,7],oM 73 (.nilck (.t 72)) [0,1,2,3,4,5,6,7],oM 74 (.faddr 4 (.t 73)) [0,1,2,3,4,5,6,7],oM 75 (.load 1 false (.t 74)) [0,1,2,3,4,5,6,7],oM 76 (.mov (.t 2)) [0,1,2,3,4,5,6,7,8,9,10,11],oM 77 (.mapget [false] (.int .i64 0) (.t 75) (.t 76)) [0,1,2,3,4,5,6,7],⟨some 78,.call 67 [(.t 64),(.t 71),(.t 77)],none,[],4⟩]) (.draw [oB 79 (.mov (.t 0)),oB 80 (.nilck (.t 79)),oB 81 (.faddr 5 (.t 80)),oB 82 (.load 1 false (.t 81)),oM 83 (.faddr 4 (.t 4)) [0,1,2,3],oM 84 (.load 1 false (.t 83)) [0,1,2,3],oM 85 (.mov (.t 7)) [0,1,2,3,4,5],oM 86 (.mov (.t 8)) [0,1,2,3,4,5,6],oM 87 (.bin .sub (.t 86) (iN 1)) [0,1,2,3,4,5,6],oM 88 (.iaddr 1 (.t 85) (.t 87)) [0,1,2,3,4,5],oM 89 (.load 1 false (.t 88)) [0,1,2,3,4,5],oM 90 (.iaddr 3 (.t 84) (.t 89)) [0,1,2,3],oM 91 (.load 3 true (.t 90)) [0,1,2,3],oM 92 (.mov (.t 0)) [0,1,2,3,4,5,6,7,8,9,10,11,12],oM 93 (.nilck (.t 92)) [0,1,2,3,4,5,6,7,8,9,10,11,12],oM 94 (.faddr 4 (.t 93)) [0,1,2,3,4,5,6,7,8,9,10,11,12],oM 95 (.load 1 false (.t 94)) [0,1,2,3,4,5,6,7,8,9,10,11,12],oM 96 (.mov (.t 2)) [0,1,2,3,4,5,6,7,8,9,10,11,12,13,14,15,16],oM 97 (.mapget [false] (.int .i64 0) (.t 95) (.t 96)) [0,1,2,3,4,5,6,7,8,9,10,11,12],⟨none,.mapset [false,false,false] (.t 82) (.t 91) (.t 97),none,[],4⟩])) (.skip))) (.ops [oB 98 (.mov (.t 9)),oB 6 (.mov (.t 98))]))))))) (.ops [oB 99 (.bin .add (.t 27) (iN 1)),oB 27 (.mov (.t 99))])))
def ZDP:C:=.seq (.ops [oB 4 (.box (.t 1))]) (.seq (.ops [oB 6 (.mov (iN 0))]) (.seq (.draw [oB 10 (.mov (.t 0)),oB 11 (.nilck (.t 10)),oB 12 (.faddr 3 (.t 11)),oB 13 (.load 1 false (.t 12)),oM 14 (.mov (.t 2)) [0,1,2,3],oM 15 (.mov (.t 0)) [0,1,2,3,4],oM 16 (.nilck (.t 15)) [0,1,2,3,4],oM 17 (.faddr 0 (.t 16)) [0,1,2,3,4],oM 18 (.faddr 2 (.t 17)) [0,1,2,3,4],oM 19 (.load 1 false (.t 18)) [0,1,2,3,4],oM 20 (.len (.t 19)) [0,1,2,3,4],⟨none,.mapset [false] (.t 13) (.t 14) (.t 20),none,[],4⟩]) (.seq (.ops [oB 21 (.load 6 true (.t 4)),oB 22 (.mov (.t 2)),oB 23 (.call 101 [(.t 21),(.t 22)]),oB 7 (.mov (.t 23))]) (.seq (.ops [oB 24 (.mov (.t 7)),oB 25 (.len (.t 24)),oB 26 (.bin .add (.t 25) (iN 1)),oB 27 (.mov (iN 0))]) (.block 0 (.loop [0,2,4,6,7,26,27] [] ZpG))))))
def ZBi:FnI:=⟨3,ZDP,[]⟩
def ZD5:C:=.ops [oB 6 (.mov (.t 0)),oB 7 (.mov (.t 0)),oB 8 (.nilck (.t 7)),oB 9 (.faddr 0 (.t 8)),oB 10 (.faddr 0 (.t 9)),oB 11 (.faddr 1 (.t 10)),oB 12 (.load 1 false (.t 11)),oB 13 (.mov (.t 1)),oB 14 (.mov (.t 2)),oB 15 (.build [(.d (.int .i64 0)),(.d (.int .i64 0))] [(0,1,(.t 13)),(1,1,(.t 14))]),oB 16 (.bslice 2 [.int .i64 0,.int .i64 0] 1 [(0,(.t 15))]),oB 17 (.append 2 (.t 12) (.t 16)),oB 18 (.nilck (.t 6)),oB 19 (.faddr 0 (.t 18)),oB 20 (.faddr 0 (.t 19)),oB 21 (.faddr 1 (.t 20)),oA (.store 1 (.t 21) (.t 17))]
def ZA7:FnI:=⟨3,ZD5,[]⟩
def ZFd:C:=.seq (.ops [oB 4 (.box (.t 1)),oB 6 (.mov (iN 0))]) (.seq (.draw [oB 7 (.mov (.t 0)),oM 8 (.mov (.t 0)) [0],oM 9 (.nilck (.t 8)) [0],oM 10 (.faddr 0 (.t 9)) [0],oM 11 (.faddr 2 (.t 10)) [0],oM 12 (.load 1 false (.t 11)) [0],oM 13 (.load 2 true (.t 4)) [0,1,2,3,4,5],oM 14 (.bslice 2 [.int .i64 0,.int .i64 0] 1 [(0,(.t 13))]) [0,1,2,3,4,5],⟨some 15,.append 2 (.t 12) (.t 14),none,[],4⟩,oB 16 (.nilck (.t 7)),oB 17 (.faddr 0 (.t 16)),oB 18 (.faddr 2 (.t 17)),⟨none,.store 1 (.t 18) (.t 15),none,[],3⟩]) (.seq (.ops [oB 19 (.mov (.t 0)),oB 20 (.mov (.t 0)),oB 21 (.nilck (.t 20)),oB 22 (.faddr 0 (.t 21)),oB 23 (.faddr 0 (.t 22)),oB 24 (.faddr 0 (.t 23)),oB 25 (.load 1 false (.t 24)),oB 26 (.mov (.t 2)),oB 27 (.bslice 1 [.int .i64 0] 1 [(0,(.t 26))]),oB 28 (.append 1 (.t 25) (.t 27)),oB 29 (.nilck (.t 19)),oB 30 (.faddr 0 (.t 29)),oB 31 (.faddr 0 (.t 30)),oB 32 (.faddr 0 (.t 31)),oA (.store 1 (.t 32) (.t 28))]) (.seq (.ops [oB 33 (.mov (.t 0)),oB 34 (.nilck (.t 33)),oB 35 (.faddr 0 (.t 34)),oB 36 (.faddr 2 (.t 35)),oB 37 (.load 1 false (.t 36)),oB 38 (.len (.t 37)),oB 39 (.bin .sub (.t 38) (iN 1)),oB 6 (.mov (.t 39))]) (.ret))))
def ZAN:FnI:=⟨3,ZFd,[(6,none)]⟩
def Zw9:C:=.seq (.ops [oB 26 (.bin .lss (.t 25) (.t 24))]) (.seq (.cond (.t 26) (.skip) (.exit 0)) (.seq (.block 1 (.seq (.ops [oB 27 (.mov (.t 25)),oB 28 (.iaddr 2 (.t 23) (.t 25)),oB 29 (.load 2 true (.t 28)),oB 5 (.alloc (.d (.agg [.int .i64 0,.int .i64 0]))),oB 4 (.mov (.t 27)),oA (.store 2 (.t 5) (.t 29))]) (.seq (.draw [oB 30 (.mov (.t 3)),oM 31 (.faddr 0 (.t 5)) [0],oM 32 (.load 1 false (.t 31)) [0],oB 33 (.callv (.t 30) [(.t 32)]),oB 34 (.un .not (.t 33)),oB 35 (.mov (.t 34)),oG 36 (.mov (.t 3)) 35 false,⟨some 37,.faddr 1 (.t 5),some (35,false),[6],0⟩,⟨some 38,.load 1 false (.t 37),some (35,false),[6],0⟩,oG 39 (.callv (.t 36) [(.t 38)]) 35 false,oG 40 (.un .not (.t 39)) 35 false,oB 41 (.pick (.t 35) bT (.t 40)),oB 42 (.mov (.t 41)),oG 43 (.faddr 0 (.t 5)) 42 false,oG 44 (.load 1 false (.t 43)) 42 false,⟨some 45,.faddr 1 (.t 5),some (42,false),[13,14],0⟩,⟨some 46,.load 1 false (.t 45),some (42,false),[13,14],0⟩,oG 47 (.bin .eql (.t 44) (.t 46)) 42 false,oB 48 (.pick (.t 42) bT (.t 47)),oB 49 (.mov (.t 48)),oG 50 (.faddr 1 (.t 1)) 49 false,oG 51 (.load 1 false (.t 50)) 49 false,⟨some 52,.mov (.t 4),some (49,false),[20,21],0⟩,oG 53 (.slice 2 (.t 51) none (some (.t 52)) none) 49 false,⟨some 54,.load 2 true (.t 5),some (49,false),[20,21,22,23],0⟩,oG 55 (.call 87 [(.t 53),(.t 54)]) 49 false,oB 56 (.pick (.t 49) bT (.t 55))]) (.cond (.t 56) (.seq (.ops [oB 2 (.mov (iN 42))]) (.ret)) (.skip))))) (.ops [oB 57 (.bin .add (.t 25) (iN 1)),oB 25 (.mov (.t 57))])))
def ZFe:C:=.seq (.ops [oB 1 (.box (.t 0)),oB 2 (.mov (iN 0))]) (.seq (.seq (.ops [oB 8 (.faddr 0 (.t 1)),oB 9 (.load 1 false (.t 8)),oB 10 (.len (.t 9)),oB 11 (.bin .gtr (.t 10) (iN 64)),oB 12 (.mov (.t 11)),oG 13 (.faddr 1 (.t 1)) 12 false,oG 14 (.load 1 false (.t 13)) 12 false,oG 15 (.len (.t 14)) 12 false,oG 16 (.bin .gtr (.t 15) (iN 256)) 12 false,oB 17 (.pick (.t 12) bT (.t 16))]) (.cond (.t 17) (.seq (.ops [oB 2 (.mov (iN 40))]) (.ret)) (.skip))) (.seq (.seq (.ops [oB 18 (.faddr 0 (.t 1)),oB 19 (.load 1 false (.t 18)),oB 20 (.call 93 [(.t 19),(.c (.d (.fn 102 [])))])]) (.cond (.t 20) (.seq (.ops [oB 2 (.mov (iN 41))]) (.ret)) (.skip))) (.seq (.ops [oB 21 (.mkfn 103 [(.t 1)]),oB 3 (.mov (.t 21))]) (.seq (.seq (.ops [oB 22 (.faddr 1 (.t 1)),oB 23 (.load 1 false (.t 22)),oB 24 (.len (.t 23)),oB 25 (.mov (iN 0))]) (.block 0 (.loop [1,3,23,24,25] [1,2] Zw9))) (.seq (.seq (.ops [oB 59 (.load 2 true (.t 1)),oB 60 (.call 77 [(.t 59)]),oB 58 (.mov (.t 60)),oB 61 (.extract (.t 58) 0),oB 62 (.extract (.t 58) 1),oB 6 (.mov (.t 61)),oB 7 (.mov (.t 62))]) (.seq (.ops [oB 63 (.mov (.t 7)),oB 64 (.un .not (.t 63))]) (.cond (.t 64) (.seq (.ops [oB 2 (.mov (iN 43))]) (.ret)) (.skip)))) (.seq (.ops [oB 2 (.mov (iN 0))]) (.ret)))))))
def ZBJ:FnI:=⟨1,ZFe,[(2,none)]⟩
def ZEK:C:=.seq (.ops [oB 2 (.mov (.c (.nilsl 1)))]) (.seq (.seq (.ops [oB 3 (.mov (.t 0)),oB 4 (.nilq (.t 3))]) (.cond (.t 4) (.seq (.ops [oB 2 (.mov (.c (.nilsl 1)))]) (.ret)) (.skip))) (.seq (.ops [oB 5 (.bslice 1 [.bool false] 0 []),oB 6 (.mov (.t 0)),oB 7 (.append 1 (.t 5) (.t 6)),oB 2 (.mov (.t 7))]) (.ret)))
def ZAW:FnI:=⟨1,ZEK,[(2,none)]⟩
def ZD8:C:=.seq (.ops [oB 2 (.mov (.c (.nilsl 1)))]) (.seq (.seq (.ops [oB 3 (.mov (.t 0)),oB 4 (.nilq (.t 3))]) (.cond (.t 4) (.seq (.ops [oB 2 (.mov (.c (.nilsl 1)))]) (.ret)) (.skip))) (.seq (.ops [oB 5 (.bslice 1 [.int .i64 0] 0 []),oB 6 (.mov (.t 0)),oB 7 (.append 1 (.t 5) (.t 6)),oB 2 (.mov (.t 7))]) (.ret)))
def ZBq:FnI:=⟨1,ZD8,[(2,none)]⟩
def ZEv:C:=.ops [⟨some 2,.spec 0 [(.t 0),(.t 1)],none,[],0⟩]
def ZCF:FnI:=⟨2,ZEv,[(2,none)]⟩
def ZxU:C:=.seq (.ops [oB 17 (.bin .lss (.t 16) (.t 15))]) (.seq (.cond (.t 17) (.skip) (.exit 0)) (.seq (.block 1 (.seq (.ops [oB 18 (.iaddr 2 (.t 14) (.t 16)),oB 19 (.load 2 true (.t 18)),oB 7 (.alloc (.d (.agg [.int .i64 0,.int .i64 0]))),oA (.store 2 (.t 7) (.t 19))]) (.seq (.ops [oB 20 (.faddr 1 (.t 7)),oB 21 (.load 1 false (.t 20)),oB 22 (.mov (.t 1)),oB 23 (.bin .eql (.t 21) (.t 22))]) (.cond (.t 23) (.ops [oB 24 (.mov (.t 5)),oB 25 (.faddr 0 (.t 7)),oB 26 (.load 1 false (.t 25)),oB 27 (.bslice 1 [.int .i64 0] 1 [(0,(.t 26))]),oB 28 (.append 1 (.t 24) (.t 27)),oB 5 (.mov (.t 28))]) (.skip))))) (.ops [oB 29 (.bin .add (.t 16) (iN 1)),oB 16 (.mov (.t 29))])))
def Zw5:C:=.seq (.ops [oB 35 (.bin .lss (.t 34) (.t 33))]) (.seq (.cond (.t 35) (.skip) (.exit 2)) (.seq (.block 3 (.seq (.ops [oB 36 (.iaddr 1 (.t 32) (.t 34)),oB 37 (.load 1 false (.t 36)),oB 9 (.mov (.t 37))]) (.ops [oB 38 (.mov (.t 5)),oB 39 (.faddr 4 (.t 2)),oB 40 (.load 1 false (.t 39)),oB 41 (.mov (.t 9)),oB 42 (.iaddr 3 (.t 40) (.t 41)),oB 43 (.faddr 0 (.t 42)),oB 44 (.load 1 false (.t 43)),oB 45 (.bslice 1 [.int .i64 0] 1 [(0,(.t 44))]),oB 46 (.append 1 (.t 38) (.t 45)),oB 5 (.mov (.t 46))]))) (.ops [oB 47 (.bin .add (.t 34) (iN 1)),oB 34 (.mov (.t 47))])))
def ZEM:C:=.seq (.ops [oB 2 (.box (.t 0)),oB 4 (.mov (.c (.nilsl 1)))]) (.seq (.seq (.ops [oB 10 (.load 6 true (.t 2)),oB 11 (.call 55 [(.t 10)]),oB 12 (.bin .neq (.t 11) (iN 0))]) (.cond (.t 12) (.seq (.ops [oB 4 (.mov (.c (.nilsl 1)))]) (.ret)) (.skip))) (.seq (.ops [oB 5 (.mov (.c (.nilsl 1)))]) (.seq (.seq (.ops [oB 13 (.faddr 3 (.t 2)),oB 14 (.load 1 false (.t 13)),oB 15 (.len (.t 14)),oB 16 (.mov (iN 0))]) (.block 0 (.loop [1,2,5,14,15,16] [1,2,5] ZxU))) (.seq (.seq (.ops [oB 30 (.load 6 true (.t 2)),oB 31 (.mov (.t 1)),oB 32 (.call 101 [(.t 30),(.t 31)]),oB 33 (.len (.t 32)),oB 34 (.mov (iN 0))]) (.block 2 (.loop [2,5,32,33,34] [5] Zw5))) (.seq (.ops [oB 48 (.mov (.t 5)),oB 4 (.mov (.t 48))]) (.ret))))))
def ZA9:FnI:=⟨2,ZEM,[(4,none)]⟩
def Zyl:C:=.seq (.ops [oB 33 (.bin .lss (.t 32) (.t 31))]) (.seq (.cond (.t 33) (.skip) (.exit 4)) (.seq (.block 5 (.seq (.ops [oB 34 (.iaddr 2 (.t 30) (.t 32)),oB 35 (.load 2 true (.t 34)),oB 8 (.alloc (.d (.agg [.int .i64 0,.int .i64 0]))),oA (.store 2 (.t 8) (.t 35))]) (.seq (.ops [oB 36 (.faddr 1 (.t 8)),oB 37 (.load 1 false (.t 36)),oB 38 (.mov (.t 6)),oB 39 (.bin .eql (.t 37) (.t 38)),oB 40 (.mov (.t 39)),oG 41 (.mov (.t 5)) 40 true,oG 42 (.faddr 0 (.t 8)) 40 true,oG 43 (.load 1 false (.t 42)) 40 true,oG 44 (.iaddr 1 (.t 41) (.t 43)) 40 true,oG 45 (.load 1 false (.t 44)) 40 true,oG 46 (.un .not (.t 45)) 40 true,oB 47 (.pick (.t 40) (.t 46) bF)]) (.cond (.t 47) (.exit 3) (.skip))))) (.ops [oB 48 (.bin .add (.t 32) (iN 1)),oB 32 (.mov (.t 48))])))
def Zx0:C:=.seq (.ops [oB 23 (.bin .lss (.t 22) (.t 21))]) (.seq (.cond (.t 23) (.skip) (.exit 2)) (.seq (.block 3 (.seq (.ops [oB 24 (.mov (.t 22)),oB 6 (.mov (.t 24))]) (.seq (.seq (.ops [oB 25 (.mov (.t 5)),oB 26 (.mov (.t 6)),oB 27 (.iaddr 1 (.t 25) (.t 26)),oB 28 (.load 1 false (.t 27))]) (.cond (.t 28) (.exit 3) (.skip))) (.seq (.seq (.ops [oB 29 (.faddr 1 (.t 1)),oB 30 (.load 1 false (.t 29)),oB 31 (.len (.t 30)),oB 32 (.mov (iN 0))]) (.block 4 (.loop [1,4,5,6,21,22,30,31,32] [1,4,5,6,21,22] Zyl))) (.seq (.ops [oB 49 (.mov (.t 5)),oB 50 (.mov (.t 6)),oB 51 (.iaddr 1 (.t 49) (.t 50)),oA (.store 1 (.t 51) bT)]) (.seq (.ops [oB 52 (.mov (.t 4)),oB 53 (.mov (.t 6)),oB 54 (.bslice 1 [.int .i64 0] 1 [(0,(.t 53))]),oB 55 (.append 1 (.t 52) (.t 54)),oB 4 (.mov (.t 55))]) (.exit 1))))))) (.ops [oB 56 (.bin .add (.t 22) (iN 1)),oB 22 (.mov (.t 56))])))
def ZwD:C:=.seq (.seq (.ops [oB 13 (.mov (.t 4)),oB 14 (.len (.t 13)),oB 15 (.faddr 0 (.t 1)),oB 16 (.load 1 false (.t 15)),oB 17 (.len (.t 16)),oB 18 (.bin .lss (.t 14) (.t 17))]) (.cond (.t 18) (.skip) (.exit 0))) (.block 1 (.seq (.skip) (.seq (.seq (.ops [oB 19 (.faddr 0 (.t 1)),oB 20 (.load 1 false (.t 19)),oB 21 (.len (.t 20)),oB 22 (.mov (iN 0))]) (.block 2 (.loop [1,4,5,21,22] [1,4,5] Zx0))) (.seq (.ops [oB 2 (.mov (.c (.nilsl 1))),oB 3 (.mov bF)]) (.ret)))))
def ZFx:C:=.seq (.ops [oB 1 (.box (.t 0)),oB 2 (.mov (.c (.nilsl 1))),oB 3 (.mov bF)]) (.seq (.ops [oB 4 (.mov (.c (.nilsl 1)))]) (.seq (.ops [oB 9 (.faddr 0 (.t 1)),oB 10 (.load 1 false (.t 9)),oB 11 (.len (.t 10)),oB 12 (.mkslice 1 [.bool false] (.t 11) (.t 11)),oB 5 (.mov (.t 12))]) (.seq (.skip) (.seq (.block 0 (.loop [1,4,5] [2,3,4] ZwD)) (.seq (.ops [oB 57 (.mov (.t 4)),oB 2 (.mov (.t 57)),oB 3 (.mov bT)]) (.ret))))))
def ZAL:FnI:=⟨1,ZFx,[(2,none),(3,none)]⟩
def ZwJ:C:=.seq (.ops [oB 17 (.bin .lss (.t 16) (.t 15))]) (.seq (.cond (.t 17) (.skip) (.exit 0)) (.seq (.block 1 (.seq (.ops [oB 18 (.iaddr 2 (.t 14) (.t 16)),oB 19 (.load 2 true (.t 18)),oB 8 (.alloc (.d (.agg [.int .i64 0,.int .i64 0]))),oA (.store 2 (.t 8) (.t 19))]) (.seq (.ops [oB 20 (.faddr 1 (.t 8)),oB 21 (.load 1 false (.t 20)),oB 22 (.mov (.t 2)),oB 23 (.bin .eql (.t 21) (.t 22)),oB 24 (.mov (.t 23)),oG 25 (.load 6 true (.t 3)) 24 true,oG 26 (.load 2 true (.t 4)) 24 true,oG 27 (.faddr 0 (.t 8)) 24 true,oG 28 (.load 1 false (.t 27)) 24 true,oG 29 (.call 46 [(.t 25),(.t 26),(.t 28)]) 24 true,oG 30 (.un .not (.t 29)) 24 true,oB 31 (.pick (.t 24) (.t 30) bF)]) (.cond (.t 31) (.seq (.ops [oB 6 (.mov bF)]) (.ret)) (.skip))))) (.ops [oB 32 (.bin .add (.t 16) (iN 1)),oB 16 (.mov (.t 32))])))
def ZyD:C:=.seq (.ops [oB 49 (.bin .lss (.t 48) (.t 47))]) (.seq (.cond (.t 49) (.skip) (.exit 4)) (.seq (.block 5 (.seq (.ops [oB 50 (.iaddr 1 (.t 46) (.t 48)),oB 51 (.load 1 false (.t 50)),oB 12 (.mov (.t 51))]) (.seq (.ops [oB 52 (.load 6 true (.t 3)),oB 53 (.load 2 true (.t 4)),oB 54 (.mov (.t 12)),oB 55 (.call 46 [(.t 52),(.t 53),(.t 54)]),oB 56 (.un .not (.t 55))]) (.cond (.t 56) (.seq (.ops [oB 6 (.mov bF)]) (.ret)) (.skip))))) (.ops [oB 57 (.bin .add (.t 48) (iN 1)),oB 48 (.mov (.t 57))])))
def Zys:C:=.seq (.ops [oB 37 (.bin .lss (.t 36) (.t 35))]) (.seq (.cond (.t 37) (.skip) (.exit 2)) (.seq (.block 3 (.seq (.ops [oB 38 (.iaddr 2 (.t 34) (.t 36)),oB 39 (.load 2 true (.t 38)),oB 10 (.alloc (.agg [(.nilsl 1),(.nilsl 1)])),oA (.store 2 (.t 10) (.t 39))]) (.seq (.seq (.ops [oB 40 (.faddr 1 (.t 10)),oB 41 (.load 1 false (.t 40)),oB 42 (.mov (.t 2)),oB 43 (.call 91 [(.t 41),(.t 42)]),oB 44 (.un .not (.t 43))]) (.cond (.t 44) (.exit 3) (.skip))) (.seq (.ops [oB 45 (.faddr 0 (.t 10)),oB 46 (.load 1 false (.t 45)),oB 47 (.len (.t 46)),oB 48 (.mov (iN 0))]) (.block 4 (.loop [2,3,4,34,35,36,46,47,48] [2,3,4,6,34,35,36] ZyD)))))) (.ops [oB 58 (.bin .add (.t 36) (iN 1)),oB 36 (.mov (.t 58))])))
def ZFa:C:=.seq (.ops [oB 3 (.box (.t 0)),oB 4 (.box (.t 1)),oB 6 (.mov bF)]) (.seq (.seq (.ops [oB 13 (.faddr 3 (.t 3)),oB 14 (.load 1 false (.t 13)),oB 15 (.len (.t 14)),oB 16 (.mov (iN 0))]) (.block 0 (.loop [2,3,4,14,15,16] [2,3,4,6] ZwJ))) (.seq (.skip) (.seq (.seq (.ops [oB 33 (.faddr 5 (.t 3)),oB 34 (.load 1 false (.t 33)),oB 35 (.len (.t 34)),oB 36 (.mov (iN 0))]) (.block 2 (.loop [2,3,4,34,35,36] [6] Zys))) (.seq (.ops [oB 6 (.mov bT)]) (.ret)))))
def ZBQ:FnI:=⟨3,ZFa,[(6,none)]⟩
def ZEX:C:=.seq (.ops [oB 6 (.mov bF)]) (.seq (.ops [oB 7 (.mov (.t 1)),oB 8 (.mov (.t 0)),oB 9 (.bin .leq (.t 7) (.t 8)),oB 10 (.mov (.t 9)),oG 11 (.mov (.t 0)) 10 true,oG 12 (.mov (.t 2)) 10 true,oG 13 (.bin .leq (.t 11) (.t 12)) 10 true,oB 14 (.pick (.t 10) (.t 13) bF),oB 6 (.mov (.t 14))]) (.ret))
def ZBH:FnI:=⟨3,ZEX,[(6,none)]⟩
def ZEV:C:=.seq (.ops [oB 2 (.mov (iN 0)),oB 3 (.mov bF)]) (.seq (.seq (.ops [oB 4 (.mov (.t 0)),oB 5 (.call 109 [(.t 4)]),oB 6 (.bin .neq (.t 5) (iN 0)),oB 7 (.mov (.t 6)),oG 8 (.mov (.t 0)) 7 false,oG 9 (.conv .u64 (.t 8)) 7 false,oG 10 (.call 110 [(.t 9)]) 7 false,oG 11 (.bin .neq (.t 10) (iN 1)) 7 false,oB 12 (.pick (.t 7) bT (.t 11))]) (.cond (.t 12) (.seq (.ops [oB 2 (.mov (iN 0)),oB 3 (.mov bF)]) (.ret)) (.skip))) (.seq (.ops [oB 13 (.mov (.t 0)),oB 14 (.conv .u64 (.t 13)),oB 15 (.call 111 [(.t 14)]),oB 2 (.mov (.t 15)),oB 3 (.mov bT)]) (.ret)))
def ZAX:FnI:=⟨1,ZEV,[(2,none),(3,none)]⟩
def ZED:C:=.seq (.ops [oB 4 (.mov bF)]) (.seq (.ops [oB 5 (.mov (.t 0)),oB 6 (.mov (.t 1)),oB 7 (.call 112 [(.t 5),(.t 6)]),oB 8 (.bin .geq (.t 7) (iN 0)),oB 4 (.mov (.t 8))]) (.ret))
def ZBw:FnI:=⟨2,ZED,[(4,none)]⟩
def ZEA:C:=.seq (.ops [oB 1 (.box (.t 0)),oB 2 (.mov bF)]) (.seq (.ops [oB 3 (.faddr 0 (.t 1)),oB 4 (.load 1 false (.t 3)),oB 5 (.call 82 [(.t 4),(iN 0),(iN 5)]),oB 6 (.un .not (.t 5)),oB 7 (.mov (.t 6)),oG 8 (.faddr 1 (.t 1)) 7 false,oG 9 (.load 1 false (.t 8)) 7 false,oG 10 (.call 82 [(.t 9),(iN 0),(iN 2147483647)]) 7 false,oG 11 (.un .not (.t 10)) 7 false,oB 12 (.pick (.t 7) bT (.t 11)),oB 13 (.mov (.t 12)),oG 14 (.faddr 2 (.t 1)) 13 false,oG 15 (.load 1 false (.t 14)) 13 false,oG 16 (.call 82 [(.t 15),(iN 1),(iN 100)]) 13 false,oG 17 (.un .not (.t 16)) 13 false,oB 18 (.pick (.t 13) bT (.t 17)),oB 2 (.mov (.t 18))]) (.ret))
def ZAQ:FnI:=⟨1,ZEA,[(2,none)]⟩
def ZEa:C:=.seq (.ops [oB 3 (.box (.t 0)),oB 6 (.mov bF)]) (.seq (.ops [oB 7 (.mov (.t 1)),oB 8 (.mov (.t 2)),oB 9 (.bin .neq (.t 7) (.t 8)),oB 10 (.mov (.t 9)),oG 11 (.mov (.t 1)) 10 true,oG 12 (.faddr 2 (.t 3)) 10 true,oG 13 (.load 1 false (.t 12)) 10 true,oG 14 (.len (.t 13)) 10 true,oG 15 (.bin .sub (.t 14) (iN 1)) 10 true,oG 16 (.call 82 [(.t 11),(iN 0),(.t 15)]) 10 true,oB 17 (.pick (.t 10) (.t 16) bF),oB 18 (.mov (.t 17)),oG 19 (.mov (.t 2)) 18 true,oG 20 (.faddr 2 (.t 3)) 18 true,oG 21 (.load 1 false (.t 20)) 18 true,oG 22 (.len (.t 21)) 18 true,oG 23 (.bin .sub (.t 22) (iN 1)) 18 true,oG 24 (.call 82 [(.t 19),(iN 0),(.t 23)]) 18 true,oB 25 (.pick (.t 18) (.t 24) bF),oB 6 (.mov (.t 25))]) (.ret))
def ZBx:FnI:=⟨3,ZEa,[(6,none)]⟩
def ZFo:C:=.seq (.ops [oB 3 (.box (.t 1)),oB 4 (.mov bF)]) (.seq (.ops [oB 5 (.mov (.t 0)),oB 6 (.load 2 true (.t 3)),oB 7 (.call 113 [(.t 5),(.t 6)]),oB 8 (.bin .geq (.t 7) (iN 0)),oB 4 (.mov (.t 8))]) (.ret))
def ZBr:FnI:=⟨2,ZFo,[(4,none)]⟩
def ZEy:C:=.seq (.ops [oB 2 (.box (.t 0)),oB 3 (.mov bF)]) (.seq (.ops [oB 4 (.faddr 1 (.t 2)),oB 5 (.load 1 false (.t 4)),oB 6 (.faddr 1 (.t 1)),oB 7 (.load 1 false (.t 6)),oB 8 (.bin .eql (.t 5) (.t 7)),oB 9 (.mov (.t 8)),oG 10 (.faddr 2 (.t 2)) 9 true,oG 11 (.load 1 false (.t 10)) 9 true,oG 12 (.faddr 2 (.t 1)) 9 true,oG 13 (.load 1 false (.t 12)) 9 true,oG 14 (.bin .eql (.t 11) (.t 13)) 9 true,oB 15 (.pick (.t 9) (.t 14) bF),oB 3 (.mov (.t 15))]) (.ret))
def ZBo:FnI:=⟨2,ZEy,[(3,none)]⟩
def ZE1:C:=.seq (.ops [oB 4 (.mov bF)]) (.seq (.ops [oB 5 (.mov (.t 0)),oB 6 (.mov (.t 1)),oB 7 (.call 114 [(.t 5),(.t 6)]),oB 8 (.bin .geq (.t 7) (iN 0)),oB 4 (.mov (.t 8))]) (.ret))
def ZBh:FnI:=⟨2,ZE1,[(4,none)]⟩
def ZEQ:C:=.seq (.ops [oB 3 (.mov bF)]) (.seq (.ops [oB 4 (.faddr 1 (.t 1)),oB 5 (.load 1 false (.t 4)),oB 6 (.mov (.t 0)),oB 7 (.call 91 [(.t 5),(.t 6)]),oB 3 (.mov (.t 7))]) (.ret))
def ZBF:FnI:=⟨2,ZEQ,[(3,none)]⟩
def ZFc:C:=.seq (.ops [oB 4 (.mov bF)]) (.seq (.ops [oB 5 (.mov (.t 0)),oB 6 (.mov (.t 1)),oB 7 (.call 115 [(.t 5),(.t 6)]),oB 8 (.bin .geq (.t 7) (iN 0)),oB 4 (.mov (.t 8))]) (.ret))
def ZBe:FnI:=⟨2,ZFc,[(4,none)]⟩
def Zyb:C:=.seq (.ops [oB 10 (.bin .lss (.t 9) (.t 8))]) (.seq (.cond (.t 10) (.skip) (.exit 0)) (.seq (.block 1 (.seq (.ops [oB 11 (.mov (.t 9)),oB 12 (.iaddr 1 (.t 7) (.t 9)),oB 13 (.load 1 false (.t 12)),oB 5 (.mov (.t 11)),oB 6 (.mov (.t 13))]) (.seq (.ops [oB 14 (.mov (.t 6)),oB 15 (.faddr 2 (.t 2)),oB 16 (.load 1 false (.t 15)),oB 17 (.len (.t 16)),oB 18 (.bin .sub (.t 17) (iN 1)),oB 19 (.call 82 [(.t 14),(iN 0),(.t 18)]),oB 20 (.un .not (.t 19)),oB 21 (.mov (.t 20)),oG 22 (.mov (.t 5)) 21 false,oG 23 (.bin .gtr (.t 22) (iN 0)) 21 false,oG 24 (.mov (.t 23)) 21 false,oG 25 (.mov (.t 1)) 24 true,oG 26 (.mov (.t 5)) 24 true,oG 27 (.bin .sub (.t 26) (iN 1)) 24 true,oG 28 (.iaddr 1 (.t 25) (.t 27)) 24 true,oG 29 (.load 1 false (.t 28)) 24 true,oG 30 (.mov (.t 6)) 24 true,oG 31 (.bin .geq (.t 29) (.t 30)) 24 true,oG 32 (.pick (.t 24) (.t 31) bF) 21 false,oB 33 (.pick (.t 21) bT (.t 32))]) (.cond (.t 33) (.seq (.ops [oB 4 (.mov bF)]) (.ret)) (.skip))))) (.ops [oB 34 (.bin .add (.t 9) (iN 1)),oB 9 (.mov (.t 34))])))
def ZD9:C:=.seq (.ops [oB 2 (.box (.t 0)),oB 4 (.mov bF)]) (.seq (.seq (.ops [oB 7 (.mov (.t 1)),oB 8 (.len (.t 7)),oB 9 (.mov (iN 0))]) (.block 0 (.loop [1,2,7,8,9] [1,4] Zyb))) (.seq (.ops [oB 35 (.mov (.t 1)),oB 36 (.len (.t 35)),oB 37 (.bin .gtr (.t 36) (iN 0)),oB 4 (.mov (.t 37))]) (.ret)))
def ZAK:FnI:=⟨2,ZD9,[(4,none)]⟩
def ZE4:C:=.seq (.ops [oB 4 (.mov bF)]) (.seq (.ops [oB 5 (.mov (.t 0)),oB 6 (.mov (.t 1)),oB 7 (.call 116 [(.t 5),(.t 6)]),oB 8 (.bin .geq (.t 7) (iN 0)),oB 4 (.mov (.t 8))]) (.ret))
def ZzH:FnI:=⟨2,ZE4,[(4,none)]⟩
def ZEu:C:=.seq (.ops [oB 3 (.box (.t 0)),oB 4 (.mov bF)]) (.seq (.draw [oB 5 (.faddr 0 (.t 1)),oB 6 (.load 1 false (.t 5)),oM 7 (.faddr 1 (.t 3)) [0,1],oM 8 (.load 1 false (.t 7)) [0,1],oB 9 (.iaddr 1 (.t 6) (.t 8)),oB 10 (.load 1 false (.t 9)),oM 11 (.faddr 2 (.t 3)) [0,1,2,3,4,5],oM 12 (.load 1 false (.t 11)) [0,1,2,3,4,5],oB 13 (.bin .gtr (.t 10) (.t 12)),oB 14 (.mov (.t 13)),oG 15 (.load 6 true (.t 2)) 14 true,⟨some 16,.load 2 true (.t 1),some (14,true),[10],0⟩,⟨some 17,.faddr 0 (.t 3),some (14,true),[10,11],0⟩,⟨some 18,.load 1 false (.t 17),some (14,true),[10,11],0⟩,oG 19 (.call 46 [(.t 15),(.t 16),(.t 18)]) 14 true,oG 20 (.un .not (.t 19)) 14 true,oB 21 (.pick (.t 14) (.t 20) bF),oB 4 (.mov (.t 21))]) (.ret))
def ZDn:FnI:=⟨3,ZEu,[(4,none)]⟩
def ZFk:C:=.seq (.ops [oB 4 (.mov (.c (.d (.int .u32 0))))]) (.seq (.ops [oB 5 (.mov (.t 0)),oB 6 (.mov (.t 1)),oB 7 (.bin .add (.t 5) (.t 6)),oB 4 (.mov (.t 7))]) (.ret))
def ZBk:FnI:=⟨2,ZFk,[(4,none)]⟩
def ZDT:C:=.seq (.ops [oB 4 (.mov (.c (.d (.int .u32 0))))]) (.seq (.ops [oB 5 (.mov (.t 0)),oB 6 (.mov (.t 1)),oB 7 (.bin .mul (.t 5) (.t 6)),oB 4 (.mov (.t 7))]) (.ret))
def ZBI:FnI:=⟨2,ZDT,[(4,none)]⟩
def ZEn:C:=.seq (.ops [oB 4 (.mov (.c (.d (.int .u32 0))))]) (.seq (.ops [oB 5 (.mov (.t 0)),oB 6 (.mov (.t 1)),oB 7 (.mx true [(.t 5),(.t 6)]),oB 4 (.mov (.t 7))]) (.ret))
def ZAO:FnI:=⟨2,ZEn,[(4,none)]⟩
def ZBY:C:=.seq (.ops [oB 4 (.mov (.c (.d (.int .u32 0))))]) (.seq (.ops [oB 5 (.mov (.t 0)),oB 6 (.bin .mul (.t 5) (.c (.d (.int .u32 31)))),oB 7 (.mov (.t 1)),oB 8 (.bin .add (.t 6) (.t 7)),oB 4 (.mov (.t 8))]) (.ret))
def ZyB:FnI:=⟨2,ZBY,[(4,none)]⟩
def ZvO:C:=.seq (.ops [oB 15 (.bin .lss (.t 14) (.t 13))]) (.seq (.cond (.t 15) (.skip) (.exit 0)) (.seq (.block 1 (.seq (.ops [oB 16 (.mov (.t 14)),oB 17 (.iaddr 3 (.t 12) (.t 14)),oB 18 (.load 3 true (.t 17)),oB 7 (.alloc (.d (.agg [.int .i64 0,.int .i64 0,.int .i64 0]))),oB 6 (.mov (.t 16)),oA (.store 3 (.t 7) (.t 18))]) (.seq (.ops [oB 19 (.faddr 1 (.t 7)),oB 20 (.load 1 false (.t 19)),oB 21 (.mov (.t 1)),oB 22 (.bin .eql (.t 20) (.t 21))]) (.cond (.t 22) (.ops [oB 23 (.mov (.t 5)),oB 24 (.mov (.t 6)),oB 25 (.bslice 1 [.int .i64 0] 1 [(0,(.t 24))]),oB 26 (.append 1 (.t 23) (.t 25)),oB 5 (.mov (.t 26))]) (.skip))))) (.ops [oB 27 (.bin .add (.t 14) (iN 1)),oB 14 (.mov (.t 27))])))
def ZCn:C:=.seq (.ops [oB 2 (.box (.t 0)),oB 4 (.mov (.c (.nilsl 1)))]) (.seq (.seq (.ops [oB 8 (.load 6 true (.t 2)),oB 9 (.call 55 [(.t 8)]),oB 10 (.bin .neq (.t 9) (iN 0))]) (.cond (.t 10) (.seq (.ops [oB 4 (.mov (.c (.nilsl 1)))]) (.ret)) (.skip))) (.seq (.ops [oB 5 (.mov (.c (.nilsl 1)))]) (.seq (.seq (.ops [oB 11 (.faddr 4 (.t 2)),oB 12 (.load 1 false (.t 11)),oB 13 (.len (.t 12)),oB 14 (.mov (iN 0))]) (.block 0 (.loop [1,2,5,12,13,14] [2,5] ZvO))) (.seq (.ops [oB 28 (.mov (.t 5)),oB 29 (.mkfn 118 [(.t 2)]),oB 30 (.call 117 [(.t 28),(.t 29)])]) (.seq (.ops [oB 31 (.mov (.t 5)),oB 4 (.mov (.t 31))]) (.ret))))))
def Zxe:FnI:=⟨2,ZCn,[(4,none)]⟩
def ZC2:C:=.seq (.ops [oB 2 (.mov bF)]) (.seq (.ops [oB 3 (.mov (.t 0)),oB 4 (.bin .lss (.t 3) (iN 0)),oB 5 (.mov (.t 4)),oG 6 (.mov (.t 0)) 5 false,oG 7 (.bin .gtr (.t 6) (iN 1000)) 5 false,oB 8 (.pick (.t 5) bT (.t 7)),oB 2 (.mov (.t 8))]) (.ret))
def Zxt:FnI:=⟨1,ZC2,[(2,none)]⟩
def ZB9:C:=.seq (.ops [oB 3 (.mov bF)]) (.seq (.ops [oB 4 (.mov (.t 0)),oB 5 (.bin .geq (.t 4) (iN 0)),oB 6 (.mov (.t 5)),oG 7 (.mov (.t 0)) 6 true,oG 8 (.faddr 0 (.t 1)) 6 true,oG 9 (.load 1 false (.t 8)) 6 true,oG 10 (.len (.t 9)) 6 true,oG 11 (.bin .lss (.t 7) (.t 10)) 6 true,oB 12 (.pick (.t 6) (.t 11) bF),oB 3 (.mov (.t 12))]) (.ret))
def ZxD:FnI:=⟨2,ZB9,[(3,none)]⟩
def ZDI:C:=.seq (.ops [oB 1 (.box (.t 0)),oB 2 (.mov (.c (.d (.nilfn))))]) (.seq (.ops [oB 3 (.mkfn 119 [(.t 1)]),oB 2 (.mov (.t 3))]) (.ret))
def ZAE:FnI:=⟨1,ZDI,[(2,none)]⟩
def ZCv:C:=.seq (.ops [oB 2 (.mov (iN 0))]) (.seq (.block 0 (.seq (.ops [oB 4 (.mov (.t 0)),oB 5 (.bin .lss (.t 4) (iN 0)),oB 3 (.mov (.t 5))]) (.cond (.t 3) (.seq (.ops [oB 2 (.mov (iN 10))]) (.ret)) (.seq (.ops [oB 7 (.mov (.t 0)),oB 8 (.bin .gtr (.t 7) (iN 1099511627775)),oB 6 (.mov (.t 8))]) (.cond (.t 6) (.seq (.ops [oB 2 (.mov (iN 11))]) (.ret)) (.skip)))))) (.seq (.ops [oB 2 (.mov (iN 0))]) (.ret)))
def ZxB:FnI:=⟨1,ZCv,[(2,none)]⟩
def ZDG:C:=.seq (.ops [oB 2 (.mov (iN 0))]) (.seq (.cond bF (.seq (.ops [oB 3 (.mov (.t 0)),oB 4 (.conv .u32 (.t 3)),oB 5 (.call 120 [(.t 4)]),oB 2 (.mov (.t 5))]) (.ret)) (.skip)) (.seq (.ops [oB 6 (.mov (.t 0)),oB 7 (.call 121 [(.t 6)]),oB 2 (.mov (.t 7))]) (.ret)))
def Zxm:FnI:=⟨1,ZDG,[(2,none)]⟩
def ZDs:C:=.seq (.ops [oB 2 (.mov (iN 0))]) (.seq (.cond bF (.seq (.ops [oB 3 (.mov (.t 0)),oB 4 (.conv .u32 (.t 3)),oB 5 (.call 122 [(.t 4)]),oB 2 (.mov (.t 5))]) (.ret)) (.skip)) (.seq (.ops [oB 6 (.mov (.t 0)),oB 7 (.call 123 [(.t 6)]),oB 2 (.mov (.t 7))]) (.ret)))
def ZwG:FnI:=⟨1,ZDs,[(2,none)]⟩
def Zvh:C:=.seq (.ops [oB 9 (.bin .lss (.t 8) (.t 7))]) (.seq (.cond (.t 9) (.skip) (.exit 0)) (.seq (.block 1 (.seq (.ops [oB 10 (.mov (.t 8)),oB 5 (.mov (.t 10))]) (.seq (.ops [oB 11 (.mov (.t 1)),oB 12 (.mov (.t 0)),oB 13 (.mov (.t 5)),oB 14 (.iaddr 3 (.t 12) (.t 13)),oB 15 (.load 3 true (.t 14)),oB 16 (.callv (.t 11) [(.t 15)])]) (.cond (.t 16) (.seq (.ops [oB 17 (.mov (.t 5)),oB 4 (.mov (.t 17))]) (.ret)) (.skip))))) (.ops [oB 18 (.bin .add (.t 8) (iN 1)),oB 8 (.mov (.t 18))])))
def ZCx:C:=.seq (.ops [oB 4 (.mov (iN 0))]) (.seq (.seq (.ops [oB 6 (.mov (.t 0)),oB 7 (.len (.t 6)),oB 8 (.mov (iN 0))]) (.block 0 (.loop [0,1,7,8] [4] Zvh))) (.seq (.ops [oB 4 (.mov (iN (-1)))]) (.ret)))
def ZyQ:FnI:=⟨2,ZCx,[(4,none)]⟩
def Zvf:C:=.seq (.ops [oB 9 (.bin .lss (.t 8) (.t 7))]) (.seq (.cond (.t 9) (.skip) (.exit 0)) (.seq (.block 1 (.seq (.ops [oB 10 (.mov (.t 8)),oB 5 (.mov (.t 10))]) (.seq (.draw [oB 11 (.load 2 true (.t 3)),oM 12 (.mov (.t 0)) [0],oM 13 (.mov (.t 5)) [0,1],oM 14 (.iaddr 2 (.t 12) (.t 13)) [0],oM 15 (.load 2 true (.t 14)) [0],oB 16 (.eqv [false,false] false (.t 11) (.t 15))]) (.cond (.t 16) (.seq (.ops [oB 17 (.mov (.t 5)),oB 4 (.mov (.t 17))]) (.ret)) (.skip))))) (.ops [oB 18 (.bin .add (.t 8) (iN 1)),oB 8 (.mov (.t 18))])))
def ZCp:C:=.seq (.ops [oB 3 (.box (.t 1)),oB 4 (.mov (iN 0))]) (.seq (.seq (.ops [oB 6 (.mov (.t 0)),oB 7 (.len (.t 6)),oB 8 (.mov (iN 0))]) (.block 0 (.loop [0,3,7,8] [4] Zvf))) (.seq (.ops [oB 4 (.mov (iN (-1)))]) (.ret)))
def Zy1:FnI:=⟨2,ZCp,[(4,none)]⟩
def Zve:C:=.seq (.ops [oB 9 (.bin .lss (.t 8) (.t 7))]) (.seq (.cond (.t 9) (.skip) (.exit 0)) (.seq (.block 1 (.seq (.ops [oB 10 (.mov (.t 8)),oB 5 (.mov (.t 10))]) (.seq (.ops [oB 11 (.mov (.t 1)),oB 12 (.mov (.t 0)),oB 13 (.mov (.t 5)),oB 14 (.iaddr 3 (.t 12) (.t 13)),oB 15 (.load 3 true (.t 14)),oB 16 (.callv (.t 11) [(.t 15)])]) (.cond (.t 16) (.seq (.ops [oB 17 (.mov (.t 5)),oB 4 (.mov (.t 17))]) (.ret)) (.skip))))) (.ops [oB 18 (.bin .add (.t 8) (iN 1)),oB 8 (.mov (.t 18))])))
def ZDq:C:=.seq (.ops [oB 4 (.mov (iN 0))]) (.seq (.seq (.ops [oB 6 (.mov (.t 0)),oB 7 (.len (.t 6)),oB 8 (.mov (iN 0))]) (.block 0 (.loop [0,1,7,8] [4] Zve))) (.seq (.ops [oB 4 (.mov (iN (-1)))]) (.ret)))
def Zxu:FnI:=⟨2,ZDq,[(4,none)]⟩
def ZuQ:C:=.seq (.ops [oB 9 (.bin .lss (.t 8) (.t 7))]) (.seq (.cond (.t 9) (.skip) (.exit 0)) (.seq (.block 1 (.seq (.ops [oB 10 (.mov (.t 8)),oB 5 (.mov (.t 10))]) (.seq (.ops [oB 11 (.mov (.t 1)),oB 12 (.mov (.t 0)),oB 13 (.mov (.t 5)),oB 14 (.iaddr 1 (.t 12) (.t 13)),oB 15 (.load 1 false (.t 14)),oB 16 (.bin .eql (.t 11) (.t 15))]) (.cond (.t 16) (.seq (.ops [oB 17 (.mov (.t 5)),oB 4 (.mov (.t 17))]) (.ret)) (.skip))))) (.ops [oB 18 (.bin .add (.t 8) (iN 1)),oB 8 (.mov (.t 18))])))
def ZCM:C:=.seq (.ops [oB 4 (.mov (iN 0))]) (.seq (.seq (.ops [oB 6 (.mov (.t 0)),oB 7 (.len (.t 6)),oB 8 (.mov (iN 0))]) (.block 0 (.loop [0,1,7,8] [4] ZuQ))) (.seq (.ops [oB 4 (.mov (iN (-1)))]) (.ret)))
def ZyC:FnI:=⟨2,ZCM,[(4,none)]⟩
def ZrL:C:=.seq (.ops [oB 9 (.bin .lss (.t 8) (.t 7))]) (.seq (.cond (.t 9) (.skip) (.exit 0)) (.seq (.block 1 (.seq (.ops [oB 10 (.mov (.t 8)),oB 5 (.mov (.t 10))]) (.seq (.ops [oB 11 (.mov (.t 1)),oB 12 (.mov (.t 0)),oB 13 (.mov (.t 5)),oB 14 (.iaddr 1 (.t 12) (.t 13)),oB 15 (.load 1 false (.t 14)),oB 16 (.callv (.t 11) [(.t 15)])]) (.cond (.t 16) (.seq (.ops [oB 17 (.mov (.t 5)),oB 4 (.mov (.t 17))]) (.ret)) (.skip))))) (.ops [oB 18 (.bin .add (.t 8) (iN 1)),oB 8 (.mov (.t 18))])))
def ZDy:C:=.seq (.ops [oB 4 (.mov (iN 0))]) (.seq (.seq (.ops [oB 6 (.mov (.t 0)),oB 7 (.len (.t 6)),oB 8 (.mov (iN 0))]) (.block 0 (.loop [0,1,7,8] [4] ZrL))) (.seq (.ops [oB 4 (.mov (iN (-1)))]) (.ret)))
def ZvM:FnI:=⟨2,ZDy,[(4,none)]⟩
def ZDt:C:=.seq (.ops [oB 5 (.mov (.t 0)),oB 6 (.len (.t 5)),oB 4 (.mov (.t 6))]) (.ops [oB 7 (.mov (.t 0)),oB 8 (.mov (.t 4)),oB 9 (.mov (.t 4)),oB 10 (.conv .u64 (.t 9)),oB 11 (.call 125 [(.t 10)]),oB 12 (.mov (.t 1)),oB 13 (.call 124 [(.t 7),(iN 0),(.t 8),(.t 11),(.t 12)])])
def ZwC:FnI:=⟨2,ZDt,[]⟩
def ZDF:C:=.seq (.ops [oB 5 (.mov (iN 0))]) (.seq (.draw [oB 6 (.faddr 4 (.t 2)),oB 7 (.load 1 false (.t 6)),oM 8 (.mov (.t 0)) [0,1],oB 9 (.iaddr 3 (.t 7) (.t 8)),oB 10 (.faddr 2 (.t 9)),oB 11 (.load 1 false (.t 10)),oM 12 (.faddr 4 (.t 2)) [0,1,2,3,4,5],oM 13 (.load 1 false (.t 12)) [0,1,2,3,4,5],oM 14 (.mov (.t 1)) [0,1,2,3,4,5,6,7],oM 15 (.iaddr 3 (.t 13) (.t 14)) [0,1,2,3,4,5],oM 16 (.faddr 2 (.t 15)) [0,1,2,3,4,5],oM 17 (.load 1 false (.t 16)) [0,1,2,3,4,5],oB 18 (.bin .sub (.t 11) (.t 17)),oB 5 (.mov (.t 18))]) (.ret))
def Zx6:FnI:=⟨3,ZDF,[(5,none)]⟩
def Zzl:C:=.seq (.seq (.ops [oB 7 (.mov (.t 3)),oB 8 (.bin .geq (.t 7) (iN 0))]) (.cond (.t 8) (.skip) (.exit 0))) (.seq (.block 1 (.seq (.ops [oB 11 (.mov (.t 0)),oB 12 (.mov (.t 3)),oB 13 (.load 1 false (.t 1)),oB 14 (.mov (.t 3)),oB 15 (.iaddr 2 (.t 13) (.t 14)),oB 16 (.load 2 true (.t 15)),oB 17 (.callv (.t 11) [(.t 12),(.t 16)]),oB 18 (.un .not (.t 17))]) (.cond (.t 18) (.ret) (.skip)))) (.ops [oB 9 (.mov (.t 3)),oB 10 (.bin .sub (.t 9) (iN 1)),oB 3 (.mov (.t 10))]))
def ZCU:C:=.seq (.ops [oB 4 (.load 1 false (.t 1)),oB 5 (.len (.t 4)),oB 6 (.bin .sub (.t 5) (iN 1)),oB 3 (.mov (.t 6))]) (.block 0 (.loop [0,1,3] [] Zzl))
def ZAy:FnI:=⟨2,ZCU,[]⟩
def ZDN:C:=.seq (.ops [oB 2 (.mov (iN 0))]) (.seq (.draw [oB 3 (.mov (.t 0)),oB 4 (.bin .shr (.t 3) (.c (.d (.int .u64 24)))),oB 5 (.indexS (.c (.d (.str ⟨#[0,1,1,2,1,2,2,3,1,2,2,3,2,3,3,4,1,2,2,3,2,3,3,4,2,3,3,4,3,4,4,5,1,2,2,3,2,3,3,4,2,3,3,4,3,4,4,5,2,3,3,4,3,4,4,5,3,4,4,5,4,5,5,6,1,2,2,3,2,3,3,4,2,3,3,4,3,4,4,5,2,3,3,4,3,4,4,5,3,4,4,5,4,5,5,6,2,3,3,4,3,4,4,5,3,4,4,5,4,5,5,6,3,4,4,5,4,5,5,6,4,5,5,6,5,6,6,7,1,2,2,3,2,3,3,4,2,3,3,4,3,4,4,5,2,3,3,4,3,4,4,5,3,4,4,5,4,5,5,6,2,3,3,4,3,4,4,5,3,4,4,5,4,5,5,6,3,4,4,5,4,5,5,6,4,5,5,6,5,6,6,7,2,3,3,4,3,4,4,5,3,4,4,5,4,5,5,6,3,4,4,5,4,5,5,6,4,5,5,6,5,6,6,7,3,4,4,5,4,5,5,6,4,5,5,6,5,6,6,7,4,5,5,6,5,6,6,7,5,6,6,7,6,7,7,8]⟩))) (.t 4)),oM 6 (.mov (.t 0)) [0,1,2],oM 7 (.bin .shr (.t 6) (.c (.d (.int .u64 16)))) [0,1,2],oM 8 (.bin .and (.t 7) (.c (.d (.int .u32 255)))) [0,1,2],oM 9 (.indexS (.c (.d (.str ⟨#[0,1,1,2,1,2,2,3,1,2,2,3,2,3,3,4,1,2,2,3,2,3,3,4,2,3,3,4,3,4,4,5,1,2,2,3,2,3,3,4,2,3,3,4,3,4,4,5,2,3,3,4,3,4,4,5,3,4,4,5,4,5,5,6,1,2,2,3,2,3,3,4,2,3,3,4,3,4,4,5,2,3,3,4,3,4,4,5,3,4,4,5,4,5,5,6,2,3,3,4,3,4,4,5,3,4,4,5,4,5,5,6,3,4,4,5,4,5,5,6,4,5,5,6,5,6,6,7,1,2,2,3,2,3,3,4,2,3,3,4,3,4,4,5,2,3,3,4,3,4,4,5,3,4,4,5,4,5,5,6,2,3,3,4,3,4,4,5,3,4,4,5,4,5,5,6,3,4,4,5,4,5,5,6,4,5,5,6,5,6,6,7,2,3,3,4,3,4,4,5,3,4,4,5,4,5,5,6,3,4,4,5,4,5,5,6,4,5,5,6,5,6,6,7,3,4,4,5,4,5,5,6,4,5,5,6,5,6,6,7,4,5,5,6,5,6,6,7,5,6,6,7,6,7,7,8]⟩))) (.t 8)) [0,1,2],oB 10 (.bin .add (.t 5) (.t 9)),oM 11 (.mov (.t 0)) [0,1,2,3,4,5,6,7],oM 12 (.bin .shr (.t 11) (.c (.d (.int .u64 8)))) [0,1,2,3,4,5,6,7],oM 13 (.bin .and (.t 12) (.c (.d (.int .u32 255)))) [0,1,2,3,4,5,6,7],oM 14 (.indexS (.c (.d (.str ⟨#[0,1,1,2,1,2,2,3,1,2,2,3,2,3,3,4,1,2,2,3,2,3,3,4,2,3,3,4,3,4,4,5,1,2,2,3,2,3,3,4,2,3,3,4,3,4,4,5,2,3,3,4,3,4,4,5,3,4,4,5,4,5,5,6,1,2,2,3,2,3,3,4,2,3,3,4,3,4,4,5,2,3,3,4,3,4,4,5,3,4,4,5,4,5,5,6,2,3,3,4,3,4,4,5,3,4,4,5,4,5,5,6,3,4,4,5,4,5,5,6,4,5,5,6,5,6,6,7,1,2,2,3,2,3,3,4,2,3,3,4,3,4,4,5,2,3,3,4,3,4,4,5,3,4,4,5,4,5,5,6,2,3,3,4,3,4,4,5,3,4,4,5,4,5,5,6,3,4,4,5,4,5,5,6,4,5,5,6,5,6,6,7,2,3,3,4,3,4,4,5,3,4,4,5,4,5,5,6,3,4,4,5,4,5,5,6,4,5,5,6,5,6,6,7,3,4,4,5,4,5,5,6,4,5,5,6,5,6,6,7,4,5,5,6,5,6,6,7,5,6,6,7,6,7,7,8]⟩))) (.t 13)) [0,1,2,3,4,5,6,7],oB 15 (.bin .add (.t 10) (.t 14)),oM 16 (.mov (.t 0)) [0,1,2,3,4,5,6,7,8,9,10,11,12],oM 17 (.bin .and (.t 16) (.c (.d (.int .u32 255)))) [0,1,2,3,4,5,6,7,8,9,10,11,12],oM 18 (.indexS (.c (.d (.str ⟨#[0,1,1,2,1,2,2,3,1,2,2,3,2,3,3,4,1,2,2,3,2,3,3,4,2,3,3,4,3,4,4,5,1,2,2,3,2,3,3,4,2,3,3,4,3,4,4,5,2,3,3,4,3,4,4,5,3,4,4,5,4,5,5,6,1,2,2,3,2,3,3,4,2,3,3,4,3,4,4,5,2,3,3,4,3,4,4,5,3,4,4,5,4,5,5,6,2,3,3,4,3,4,4,5,3,4,4,5,4,5,5,6,3,4,4,5,4,5,5,6,4,5,5,6,5,6,6,7,1,2,2,3,2,3,3,4,2,3,3,4,3,4,4,5,2,3,3,4,3,4,4,5,3,4,4,5,4,5,5,6,2,3,3,4,3,4,4,5,3,4,4,5,4,5,5,6,3,4,4,5,4,5,5,6,4,5,5,6,5,6,6,7,2,3,3,4,3,4,4,5,3,4,4,5,4,5,5,6,3,4,4,5,4,5,5,6,4,5,5,6,5,6,6,7,3,4,4,5,4,5,5,6,4,5,5,6,5,6,6,7,4,5,5,6,5,6,6,7,5,6,6,7,6,7,7,8]⟩))) (.t 17)) [0,1,2,3,4,5,6,7,8,9,10,11,12],oB 19 (.bin .add (.t 15) (.t 18)),oB 20 (.conv .i64 (.t 19)),oB 2 (.mov (.t 20))]) (.ret))
def ZAv:FnI:=⟨1,ZDN,[(2,none)]⟩
def ZCi:C:=.seq (.ops [oB 2 (.mov (iN 0))]) (.seq (.ops [oB 3 (.mov (.t 0)),oB 4 (.bin .shr (.t 3) (.c (.d (.int .u64 1)))),oB 5 (.bin .and (.t 4) (.c (.d (.int .u64 6148914691236517205)))),oB 6 (.mov (.t 0)),oB 7 (.bin .and (.t 6) (.c (.d (.int .u64 6148914691236517205)))),oB 8 (.bin .add (.t 5) (.t 7)),oB 0 (.mov (.t 8))]) (.seq (.ops [oB 9 (.mov (.t 0)),oB 10 (.bin .shr (.t 9) (.c (.d (.int .u64 2)))),oB 11 (.bin .and (.t 10) (.c (.d (.int .u64 3689348814741910323)))),oB 12 (.mov (.t 0)),oB 13 (.bin .and (.t 12) (.c (.d (.int .u64 3689348814741910323)))),oB 14 (.bin .add (.t 11) (.t 13)),oB 0 (.mov (.t 14))]) (.seq (.ops [oB 15 (.mov (.t 0)),oB 16 (.bin .shr (.t 15) (.c (.d (.int .u64 4)))),oB 17 (.mov (.t 0)),oB 18 (.bin .add (.t 16) (.t 17)),oB 19 (.bin .and (.t 18) (.c (.d (.int .u64 1085102592571150095)))),oB 0 (.mov (.t 19))]) (.seq (.ops [oB 20 (.mov (.t 0)),oB 21 (.mov (.t 0)),oB 22 (.bin .shr (.t 21) (.c (.d (.int .u64 8)))),oB 23 (.bin .add (.t 20) (.t 22)),oB 0 (.mov (.t 23))]) (.seq (.ops [oB 24 (.mov (.t 0)),oB 25 (.mov (.t 0)),oB 26 (.bin .shr (.t 25) (.c (.d (.int .u64 16)))),oB 27 (.bin .add (.t 24) (.t 26)),oB 0 (.mov (.t 27))]) (.seq (.ops [oB 28 (.mov (.t 0)),oB 29 (.mov (.t 0)),oB 30 (.bin .shr (.t 29) (.c (.d (.int .u64 32)))),oB 31 (.bin .add (.t 28) (.t 30)),oB 0 (.mov (.t 31))]) (.seq (.ops [oB 32 (.mov (.t 0)),oB 33 (.conv .i64 (.t 32)),oB 34 (.bin .and (.t 33) (iN 127)),oB 2 (.mov (.t 34))]) (.ret))))))))
def Zw1:FnI:=⟨1,ZCi,[(2,none)]⟩
def ZDB:C:=.seq (.ops [oB 2 (.mov (iN 0))]) (.seq (.seq (.ops [oB 3 (.mov (.t 0)),oB 4 (.bin .eql (.t 3) (.c (.d (.int .u32 0))))]) (.cond (.t 4) (.seq (.ops [oB 2 (.mov (iN 32))]) (.ret)) (.skip))) (.seq (.ops [oB 5 (.mov (.t 0)),oB 6 (.mov (.t 0)),oB 7 (.un .neg (.t 6)),oB 8 (.bin .and (.t 5) (.t 7)),oB 9 (.bin .mul (.t 8) (.c (.d (.int .u32 125613361)))),oB 10 (.bin .shr (.t 9) (.c (.d (.int .u64 27)))),oB 11 (.iaddrA 32 1 (.c (.d (.rptr ZCY))) (.t 10)),oB 12 (.load 1 false (.t 11)),oB 13 (.conv .i64 (.t 12)),oB 2 (.mov (.t 13))]) (.ret)))
def ZAl:FnI:=⟨1,ZDB,[(2,none)]⟩
def ZDl:C:=.seq (.ops [oB 2 (.mov (iN 0))]) (.seq (.seq (.ops [oB 3 (.mov (.t 0)),oB 4 (.bin .eql (.t 3) (.c (.d (.int .u64 0))))]) (.cond (.t 4) (.seq (.ops [oB 2 (.mov (iN 64))]) (.ret)) (.skip))) (.seq (.ops [oB 5 (.mov (.t 0)),oB 6 (.mov (.t 0)),oB 7 (.un .neg (.t 6)),oB 8 (.bin .and (.t 5) (.t 7)),oB 9 (.bin .mul (.t 8) (.c (.d (.int .u64 285870213051353865)))),oB 10 (.bin .shr (.t 9) (.c (.d (.int .u64 58)))),oB 11 (.iaddrA 64 1 (.c (.d (.rptr ZxR))) (.t 10)),oB 12 (.load 1 false (.t 11)),oB 13 (.conv .i64 (.t 12)),oB 2 (.mov (.t 13))]) (.ret)))
def Zyf:FnI:=⟨1,ZDl,[(2,none)]⟩
def Zvs:C:=.block 1 (.seq (.ops [oB 21 (.mov (.t 2)),oB 22 (.mov (.t 1)),oB 23 (.bin .sub (.t 21) (.t 22)),oB 12 (.mov (.t 23))]) (.seq (.seq (.ops [oB 24 (.mov (.t 12)),oB 25 (.bin .leq (.t 24) (iN 12))]) (.cond (.t 25) (.seq (.ops [oB 26 (.mov (.t 0)),oB 27 (.mov (.t 1)),oB 28 (.mov (.t 2)),oB 29 (.mov (.t 4)),oB 30 (.call 126 [(.t 26),(.t 27),(.t 28),(.t 29)])]) (.ret)) (.skip))) (.seq (.seq (.ops [oB 31 (.mov (.t 3)),oB 32 (.bin .eql (.t 31) (iN 0))]) (.cond (.t 32) (.seq (.ops [oB 33 (.mov (.t 0)),oB 34 (.mov (.t 1)),oB 35 (.mov (.t 2)),oB 36 (.mov (.t 4)),oB 37 (.call 127 [(.t 33),(.t 34),(.t 35),(.t 36)])]) (.ret)) (.skip))) (.seq (.seq (.ops [oB 38 (.mov (.t 10)),oB 39 (.un .not (.t 38))]) (.cond (.t 39) (.seq (.ops [oB 40 (.mov (.t 0)),oB 41 (.mov (.t 1)),oB 42 (.mov (.t 2)),oB 43 (.mov (.t 4)),oB 44 (.call 128 [(.t 40),(.t 41),(.t 42),(.t 43)])]) (.ops [oB 45 (.mov (.t 3)),oB 46 (.bin .sub (.t 45) (iN 1)),oB 3 (.mov (.t 46))])) (.skip))) (.seq (.ops [oB 48 (.mov (.t 0)),oB 49 (.mov (.t 1)),oB 50 (.mov (.t 2)),oB 51 (.mov (.t 4)),oB 52 (.call 129 [(.t 48),(.t 49),(.t 50),(.t 51)]),oB 47 (.mov (.t 52)),oB 53 (.extract (.t 47) 0),oB 54 (.extract (.t 47) 1),oB 13 (.mov (.t 53)),oB 14 (.mov (.t 54))]) (.seq (.seq (.ops [oB 55 (.mov (.t 14)),oB 56 (.bin .eql (.t 55) (iN 2))]) (.cond (.t 56) (.seq (.ops [oB 57 (.mov (.t 0)),oB 58 (.mov (.t 1)),oB 59 (.mov (.t 2)),oB 60 (.mov (.t 4)),oB 61 (.call 130 [(.t 57),(.t 58),(.t 59),(.t 60)])]) (.seq (.ops [oB 62 (.mov (.t 2)),oB 63 (.bin .sub (.t 62) (iN 1)),oB 64 (.mov (.t 13)),oB 65 (.mov (.t 1)),oB 66 (.bin .sub (.t 64) (.t 65)),oB 67 (.bin .sub (.t 63) (.t 66)),oB 13 (.mov (.t 67))]) (.ops [oB 14 (.mov (iN 1))]))) (.skip))) (.seq (.seq (.ops [oB 68 (.mov (.t 10)),oB 69 (.mov (.t 68)),oG 70 (.mov (.t 11)) 69 true,oB 71 (.pick (.t 69) (.t 70) bF),oB 72 (.mov (.t 71)),oG 73 (.mov (.t 14)) 72 true,oG 74 (.bin .eql (.t 73) (iN 1)) 72 true,oB 75 (.pick (.t 72) (.t 74) bF)]) (.cond (.t 75) (.seq (.ops [oB 76 (.mov (.t 0)),oB 77 (.mov (.t 1)),oB 78 (.mov (.t 2)),oB 79 (.mov (.t 4)),oB 80 (.call 131 [(.t 76),(.t 77),(.t 78),(.t 79)])]) (.cond (.t 80) (.ret) (.skip))) (.skip))) (.seq (.seq (.draw [oB 81 (.mov (.t 1)),oB 82 (.bin .gtr (.t 81) (iN 0)),oB 83 (.mov (.t 82)),oG 84 (.mov (.t 4)) 83 true,⟨some 85,.mov (.t 0),some (83,true),[3],0⟩,⟨some 86,.mov (.t 1),some (83,true),[3,4],0⟩,⟨some 87,.bin .sub (.t 86) (iN 1),some (83,true),[3,4],0⟩,⟨some 88,.iaddr 1 (.t 85) (.t 87),some (83,true),[3],0⟩,⟨some 89,.load 1 false (.t 88),some (83,true),[3],0⟩,⟨some 90,.mov (.t 0),some (83,true),[3,4,5,6,7,8],0⟩,⟨some 91,.mov (.t 13),some (83,true),[3,4,5,6,7,8,9],0⟩,⟨some 92,.iaddr 1 (.t 90) (.t 91),some (83,true),[3,4,5,6,7,8],0⟩,⟨some 93,.load 1 false (.t 92),some (83,true),[3,4,5,6,7,8],0⟩,oG 94 (.callv (.t 84) [(.t 89),(.t 93)]) 83 true,oG 95 (.bin .lss (.t 94) (iN 0)) 83 true,oG 96 (.un .not (.t 95)) 83 true,oB 97 (.pick (.t 83) (.t 96) bF)]) (.cond (.t 97) (.seq (.ops [oB 98 (.mov (.t 0)),oB 99 (.mov (.t 1)),oB 100 (.mov (.t 2)),oB 101 (.mov (.t 13)),oB 102 (.mov (.t 4)),oB 103 (.call 132 [(.t 98),(.t 99),(.t 100),(.t 101),(.t 102)]),oB 15 (.mov (.t 103))]) (.seq (.ops [oB 104 (.mov (.t 15)),oB 1 (.mov (.t 104))]) (.exit 1))) (.skip))) (.seq (.ops [oB 106 (.mov (.t 0)),oB 107 (.mov (.t 1)),oB 108 (.mov (.t 2)),oB 109 (.mov (.t 13)),oB 110 (.mov (.t 4)),oB 111 (.call 133 [(.t 106),(.t 107),(.t 108),(.t 109),(.t 110)]),oB 105 (.mov (.t 111)),oB 112 (.extract (.t 105) 0),oB 113 (.extract (.t 105) 1),oB 16 (.mov (.t 112)),oB 17 (.mov (.t 113))]) (.seq (.ops [oB 114 (.mov (.t 17)),oB 11 (.mov (.t 114))]) (.seq (.ops [oB 115 (.mov (.t 16)),oB 116 (.mov (.t 1)),oB 117 (.bin .sub (.t 115) (.t 116)),oB 118 (.mov (.t 2)),oB 119 (.mov (.t 16)),oB 120 (.bin .sub (.t 118) (.t 119)),oB 18 (.mov (.t 117)),oB 19 (.mov (.t 120))]) (.seq (.ops [oB 121 (.mov (.t 12)),oB 122 (.bin .quo (.t 121) (iN 8)),oB 20 (.mov (.t 122))]) (.seq (.ops [oB 123 (.mov (.t 18)),oB 124 (.mov (.t 19)),oB 125 (.bin .lss (.t 123) (.t 124))]) (.cond (.t 125) (.seq (.ops [oB 126 (.mov (.t 18)),oB 127 (.mov (.t 20)),oB 128 (.bin .geq (.t 126) (.t 127)),oB 10 (.mov (.t 128))]) (.seq (.ops [oB 129 (.mov (.t 0)),oB 130 (.mov (.t 1)),oB 131 (.mov (.t 16)),oB 132 (.mov (.t 3)),oB 133 (.mov (.t 4)),oB 134 (.call 124 [(.t 129),(.t 130),(.t 131),(.t 132),(.t 133)])]) (.ops [oB 135 (.mov (.t 16)),oB 136 (.bin .add (.t 135) (iN 1)),oB 1 (.mov (.t 136))]))) (.seq (.ops [oB 137 (.mov (.t 19)),oB 138 (.mov (.t 20)),oB 139 (.bin .geq (.t 137) (.t 138)),oB 10 (.mov (.t 139))]) (.seq (.ops [oB 140 (.mov (.t 0)),oB 141 (.mov (.t 16)),oB 142 (.bin .add (.t 141) (iN 1)),oB 143 (.mov (.t 2)),oB 144 (.mov (.t 3)),oB 145 (.mov (.t 4)),oB 146 (.call 124 [(.t 140),(.t 142),(.t 143),(.t 144),(.t 145)])]) (.ops [oB 147 (.mov (.t 16)),oB 2 (.mov (.t 147))])))))))))))))))))
def ZCg:C:=.seq (.ops [oB 10 (.mov bT)]) (.seq (.ops [oB 11 (.mov bT)]) (.block 0 (.loop [0,1,2,3,4,10,11] [] Zvs)))
def Zy0:FnI:=⟨5,ZCg,[]⟩
def ZCz:C:=.seq (.ops [oB 2 (.mov (iN 0))]) (.seq (.cond bF (.seq (.ops [oB 3 (.mov (.t 0)),oB 4 (.conv .u32 (.t 3)),oB 5 (.call 134 [(.t 4)]),oB 2 (.mov (.t 5))]) (.ret)) (.skip)) (.seq (.ops [oB 6 (.mov (.t 0)),oB 7 (.call 135 [(.t 6)]),oB 2 (.mov (.t 7))]) (.ret)))
def ZxM:FnI:=⟨1,ZCz,[(2,none)]⟩
def Zu3:C:=.seq (.seq (.draw [oB 18 (.mov (.t 9)),oM 19 (.mov (.t 1)) [0],oB 20 (.bin .gtr (.t 18) (.t 19)),oB 21 (.mov (.t 20)),oG 22 (.mov (.t 3)) 21 true,⟨some 23,.mov (.t 0),some (21,true),[4],0⟩,⟨some 24,.mov (.t 9),some (21,true),[4,5],0⟩,⟨some 25,.iaddr 1 (.t 23) (.t 24),some (21,true),[4],0⟩,⟨some 26,.load 1 false (.t 25),some (21,true),[4],0⟩,⟨some 27,.mov (.t 0),some (21,true),[4,5,6,7,8],0⟩,⟨some 28,.mov (.t 9),some (21,true),[4,5,6,7,8,9],0⟩,⟨some 29,.bin .sub (.t 28) (iN 1),some (21,true),[4,5,6,7,8,9],0⟩,⟨some 30,.iaddr 1 (.t 27) (.t 29),some (21,true),[4,5,6,7,8],0⟩,⟨some 31,.load 1 false (.t 30),some (21,true),[4,5,6,7,8],0⟩,oG 32 (.callv (.t 22) [(.t 26),(.t 31)]) 21 true,oG 33 (.bin .lss (.t 32) (iN 0)) 21 true,oB 34 (.pick (.t 21) (.t 33) bF)]) (.cond (.t 34) (.skip) (.exit 2))) (.seq (.block 3 (.draw [oB 37 (.mov (.t 0)),oM 38 (.mov (.t 9)) [0],oM 39 (.mov (.t 0)) [0,1],oM 40 (.mov (.t 9)) [0,1,2],oM 41 (.bin .sub (.t 40) (iN 1)) [0,1,2],oM 42 (.mov (.t 0)) [0,1,2,3,4],oM 43 (.mov (.t 9)) [0,1,2,3,4,5],oM 44 (.bin .sub (.t 43) (iN 1)) [0,1,2,3,4,5],oM 45 (.iaddr 1 (.t 42) (.t 44)) [0,1,2,3,4],oM 46 (.load 1 false (.t 45)) [0,1,2,3,4],oM 47 (.mov (.t 0)) [0,1,2,3,4,5,6,7,8,9],oM 48 (.mov (.t 9)) [0,1,2,3,4,5,6,7,8,9,10],oM 49 (.iaddr 1 (.t 47) (.t 48)) [0,1,2,3,4,5,6,7,8,9],oM 50 (.load 1 false (.t 49)) [0,1,2,3,4,5,6,7,8,9],oM 51 (.iaddr 1 (.t 37) (.t 38)) [2,3,4],⟨none,.store 1 (.t 51) (.t 46),none,[],3⟩,oB 52 (.iaddr 1 (.t 39) (.t 41)),⟨none,.store 1 (.t 52) (.t 50),none,[],3⟩])) (.ops [oB 35 (.mov (.t 9)),oB 36 (.bin .sub (.t 35) (iN 1)),oB 9 (.mov (.t 36))]))
def Zu1:C:=.seq (.seq (.ops [oB 12 (.mov (.t 8)),oB 13 (.mov (.t 2)),oB 14 (.bin .lss (.t 12) (.t 13))]) (.cond (.t 14) (.skip) (.exit 0))) (.seq (.block 1 (.seq (.ops [oB 17 (.mov (.t 8)),oB 9 (.mov (.t 17))]) (.block 2 (.loop [0,1,2,3,8,9] [0,1,2,3,8] Zu3)))) (.ops [oB 15 (.mov (.t 8)),oB 16 (.bin .add (.t 15) (iN 1)),oB 8 (.mov (.t 16))]))
def ZDg:C:=.seq (.ops [oB 10 (.mov (.t 1)),oB 11 (.bin .add (.t 10) (iN 1)),oB 8 (.mov (.t 11))]) (.block 0 (.loop [0,1,2,3,8] [] Zu1))
def Zx4:FnI:=⟨4,ZDg,[]⟩
def Zvr:C:=.seq (.seq (.ops [oB 20 (.mov (.t 11)),oB 21 (.bin .geq (.t 20) (iN 0))]) (.cond (.t 21) (.skip) (.exit 0))) (.seq (.block 1 (.ops [oB 24 (.mov (.t 0)),oB 25 (.mov (.t 11)),oB 26 (.mov (.t 10)),oB 27 (.mov (.t 8)),oB 28 (.mov (.t 3)),oB 29 (.call 136 [(.t 24),(.t 25),(.t 26),(.t 27),(.t 28)])])) (.ops [oB 22 (.mov (.t 11)),oB 23 (.bin .sub (.t 22) (iN 1)),oB 11 (.mov (.t 23))]))
def Zu9:C:=.seq (.seq (.ops [oB 32 (.mov (.t 12)),oB 33 (.bin .geq (.t 32) (iN 0))]) (.cond (.t 33) (.skip) (.exit 2))) (.seq (.block 3 (.seq (.draw [oB 36 (.mov (.t 0)),oM 37 (.mov (.t 8)) [0],oM 38 (.mov (.t 0)) [0,1],oM 39 (.mov (.t 8)) [0,1,2],oM 40 (.mov (.t 12)) [0,1,2,3],oM 41 (.bin .add (.t 39) (.t 40)) [0,1,2],oM 42 (.mov (.t 0)) [0,1,2,3,4,5],oM 43 (.mov (.t 8)) [0,1,2,3,4,5,6],oM 44 (.mov (.t 12)) [0,1,2,3,4,5,6,7],oM 45 (.bin .add (.t 43) (.t 44)) [0,1,2,3,4,5,6],oM 46 (.iaddr 1 (.t 42) (.t 45)) [0,1,2,3,4,5],oM 47 (.load 1 false (.t 46)) [0,1,2,3,4,5],oM 48 (.mov (.t 0)) [0,1,2,3,4,5,6,7,8,9,10,11],oM 49 (.mov (.t 8)) [0,1,2,3,4,5,6,7,8,9,10,11,12],oM 50 (.iaddr 1 (.t 48) (.t 49)) [0,1,2,3,4,5,6,7,8,9,10,11],oM 51 (.load 1 false (.t 50)) [0,1,2,3,4,5,6,7,8,9,10,11],oM 52 (.iaddr 1 (.t 36) (.t 37)) [2,3,4,5],⟨none,.store 1 (.t 52) (.t 47),none,[],3⟩,oB 53 (.iaddr 1 (.t 38) (.t 41)),⟨none,.store 1 (.t 53) (.t 51),none,[],3⟩]) (.ops [oB 54 (.mov (.t 0)),oB 55 (.mov (.t 9)),oB 56 (.mov (.t 12)),oB 57 (.mov (.t 8)),oB 58 (.mov (.t 3)),oB 59 (.call 136 [(.t 54),(.t 55),(.t 56),(.t 57),(.t 58)])]))) (.ops [oB 34 (.mov (.t 12)),oB 35 (.bin .sub (.t 34) (iN 1)),oB 12 (.mov (.t 35))]))
def ZDk:C:=.seq (.ops [oB 13 (.mov (.t 1)),oB 8 (.mov (.t 13))]) (.seq (.ops [oB 9 (.mov (iN 0))]) (.seq (.ops [oB 14 (.mov (.t 2)),oB 15 (.mov (.t 1)),oB 16 (.bin .sub (.t 14) (.t 15)),oB 10 (.mov (.t 16))]) (.seq (.seq (.ops [oB 17 (.mov (.t 10)),oB 18 (.bin .sub (.t 17) (iN 1)),oB 19 (.bin .quo (.t 18) (iN 2)),oB 11 (.mov (.t 19))]) (.block 0 (.loop [0,3,8,9,10,11] [0,3,8,9,10] Zvr))) (.seq (.ops [oB 30 (.mov (.t 10)),oB 31 (.bin .sub (.t 30) (iN 1)),oB 12 (.mov (.t 31))]) (.block 2 (.loop [0,3,8,9,12] [] Zu9))))))
def Zx9:FnI:=⟨4,ZDk,[]⟩
def ZvA:C:=.seq (.seq (.ops [oB 28 (.mov (.t 11)),oB 29 (.mov (.t 1)),oB 30 (.mov (.t 8)),oB 31 (.bin .quo (.t 30) (iN 4)),oB 32 (.bin .mul (.t 31) (iN 2)),oB 33 (.bin .add (.t 29) (.t 32)),oB 34 (.bin .add (.t 33) (iN 1)),oB 35 (.bin .leq (.t 28) (.t 34))]) (.cond (.t 35) (.skip) (.exit 0))) (.seq (.block 1 (.seq (.ops [oB 38 (.call 138 [(.t 9)]),oB 39 (.mov (.t 10)),oB 40 (.bin .sub (.t 39) (.c (.d (.int .u64 1)))),oB 41 (.bin .and (.t 38) (.t 40)),oB 42 (.conv .i64 (.t 41)),oB 12 (.mov (.t 42))]) (.seq (.seq (.ops [oB 43 (.mov (.t 12)),oB 44 (.mov (.t 8)),oB 45 (.bin .geq (.t 43) (.t 44))]) (.cond (.t 45) (.ops [oB 46 (.mov (.t 12)),oB 47 (.mov (.t 8)),oB 48 (.bin .sub (.t 46) (.t 47)),oB 12 (.mov (.t 48))]) (.skip))) (.draw [oB 49 (.mov (.t 0)),oM 50 (.mov (.t 11)) [0],oM 51 (.mov (.t 0)) [0,1],oM 52 (.mov (.t 1)) [0,1,2],oM 53 (.mov (.t 12)) [0,1,2,3],oM 54 (.bin .add (.t 52) (.t 53)) [0,1,2],oM 55 (.mov (.t 0)) [0,1,2,3,4,5],oM 56 (.mov (.t 1)) [0,1,2,3,4,5,6],oM 57 (.mov (.t 12)) [0,1,2,3,4,5,6,7],oM 58 (.bin .add (.t 56) (.t 57)) [0,1,2,3,4,5,6],oM 59 (.iaddr 1 (.t 55) (.t 58)) [0,1,2,3,4,5],oM 60 (.load 1 false (.t 59)) [0,1,2,3,4,5],oM 61 (.mov (.t 0)) [0,1,2,3,4,5,6,7,8,9,10,11],oM 62 (.mov (.t 11)) [0,1,2,3,4,5,6,7,8,9,10,11,12],oM 63 (.iaddr 1 (.t 61) (.t 62)) [0,1,2,3,4,5,6,7,8,9,10,11],oM 64 (.load 1 false (.t 63)) [0,1,2,3,4,5,6,7,8,9,10,11],oM 65 (.iaddr 1 (.t 49) (.t 50)) [2,3,4,5],⟨none,.store 1 (.t 65) (.t 60),none,[],3⟩,oB 66 (.iaddr 1 (.t 51) (.t 54)),⟨none,.store 1 (.t 66) (.t 64),none,[],3⟩])))) (.ops [oB 36 (.mov (.t 11)),oB 37 (.bin .add (.t 36) (iN 1)),oB 11 (.mov (.t 37))]))
def ZB2:C:=.seq (.ops [oB 13 (.mov (.t 2)),oB 14 (.mov (.t 1)),oB 15 (.bin .sub (.t 13) (.t 14)),oB 8 (.mov (.t 15))]) (.seq (.ops [oB 16 (.mov (.t 8)),oB 17 (.bin .geq (.t 16) (iN 8))]) (.cond (.t 17) (.seq (.ops [oB 18 (.mov (.t 8)),oB 19 (.conv .u64 (.t 18)),oB 9 (.alloc (.d (.int .u64 0))),oA (.store 1 (.t 9) (.t 19))]) (.seq (.ops [oB 20 (.mov (.t 8)),oB 21 (.call 137 [(.t 20)]),oB 10 (.mov (.t 21))]) (.seq (.ops [oB 22 (.mov (.t 1)),oB 23 (.mov (.t 8)),oB 24 (.bin .quo (.t 23) (iN 4)),oB 25 (.bin .mul (.t 24) (iN 2)),oB 26 (.bin .add (.t 22) (.t 25)),oB 27 (.bin .sub (.t 26) (iN 1)),oB 11 (.mov (.t 27))]) (.block 0 (.loop [0,1,8,9,10,11] [] ZvA))))) (.skip)))
def Zx7:FnI:=⟨4,ZB2,[]⟩
def ZC6:C:=.seq (.ops [oB 8 (.mov (iN 0)),oB 9 (.mov (iN 0))]) (.seq (.ops [oB 15 (.mov (.t 2)),oB 16 (.mov (.t 1)),oB 17 (.bin .sub (.t 15) (.t 16)),oB 10 (.mov (.t 17))]) (.seq (.ops [oB 11 (.alloc (.d (.int .i64 0)))]) (.seq (.ops [oB 18 (.mov (.t 1)),oB 19 (.mov (.t 10)),oB 20 (.bin .quo (.t 19) (iN 4)),oB 21 (.bin .mul (.t 20) (iN 1)),oB 22 (.bin .add (.t 18) (.t 21)),oB 12 (.mov (.t 22))]) (.seq (.ops [oB 23 (.mov (.t 1)),oB 24 (.mov (.t 10)),oB 25 (.bin .quo (.t 24) (iN 4)),oB 26 (.bin .mul (.t 25) (iN 2)),oB 27 (.bin .add (.t 23) (.t 26)),oB 13 (.mov (.t 27))]) (.seq (.ops [oB 28 (.mov (.t 1)),oB 29 (.mov (.t 10)),oB 30 (.bin .quo (.t 29) (iN 4)),oB 31 (.bin .mul (.t 30) (iN 3)),oB 32 (.bin .add (.t 28) (.t 31)),oB 14 (.mov (.t 32))]) (.seq (.seq (.ops [oB 33 (.mov (.t 10)),oB 34 (.bin .geq (.t 33) (iN 8))]) (.cond (.t 34) (.seq (.seq (.ops [oB 35 (.mov (.t 10)),oB 36 (.bin .geq (.t 35) (iN 50))]) (.cond (.t 36) (.seq (.ops [oB 37 (.mov (.t 0)),oB 38 (.mov (.t 12)),oB 39 (.mov (.t 3)),oB 40 (.call 139 [(.t 37),(.t 38),(.t 11),(.t 39)]),oB 12 (.mov (.t 40))]) (.seq (.ops [oB 41 (.mov (.t 0)),oB 42 (.mov (.t 13)),oB 43 (.mov (.t 3)),oB 44 (.call 139 [(.t 41),(.t 42),(.t 11),(.t 43)]),oB 13 (.mov (.t 44))]) (.ops [oB 45 (.mov (.t 0)),oB 46 (.mov (.t 14)),oB 47 (.mov (.t 3)),oB 48 (.call 139 [(.t 45),(.t 46),(.t 11),(.t 47)]),oB 14 (.mov (.t 48))]))) (.skip))) (.ops [oB 49 (.mov (.t 0)),oB 50 (.mov (.t 12)),oB 51 (.mov (.t 13)),oB 52 (.mov (.t 14)),oB 53 (.mov (.t 3)),oB 54 (.call 140 [(.t 49),(.t 50),(.t 51),(.t 52),(.t 11),(.t 53)]),oB 13 (.mov (.t 54))])) (.skip))) (.seq (.ops [oB 55 (.load 1 false (.t 11))]) (.block 0 (.seq (.ops [oB 58 (.bin .eql (.t 55) (iN 0)),oB 57 (.mov (.t 58))]) (.cond (.t 57) (.seq (.ops [oB 59 (.mov (.t 13)),oB 8 (.mov (.t 59)),oB 9 (.mov (iN 1))]) (.ret)) (.seq (.ops [oB 61 (.bin .eql (.t 55) (iN 12)),oB 60 (.mov (.t 61))]) (.cond (.t 60) (.seq (.ops [oB 62 (.mov (.t 13)),oB 8 (.mov (.t 62)),oB 9 (.mov (iN 2))]) (.ret)) (.seq (.ops [oB 56 (.mov (.t 13)),oB 8 (.mov (.t 56)),oB 9 (.mov (iN 0))]) (.ret))))))))))))))
def Zyq:FnI:=⟨4,ZC6,[(8,none),(9,none)]⟩
def ZuV:C:=.seq (.seq (.ops [oB 13 (.mov (.t 8)),oB 14 (.mov (.t 9)),oB 15 (.bin .lss (.t 13) (.t 14))]) (.cond (.t 15) (.skip) (.exit 0))) (.block 1 (.seq (.draw [oB 16 (.mov (.t 0)),oM 17 (.mov (.t 8)) [0],oM 18 (.mov (.t 0)) [0,1],oM 19 (.mov (.t 9)) [0,1,2],oM 20 (.mov (.t 0)) [0,1,2,3],oM 21 (.mov (.t 9)) [0,1,2,3,4],oM 22 (.iaddr 1 (.t 20) (.t 21)) [0,1,2,3],oM 23 (.load 1 false (.t 22)) [0,1,2,3],oM 24 (.mov (.t 0)) [0,1,2,3,4,5,6,7],oM 25 (.mov (.t 8)) [0,1,2,3,4,5,6,7,8],oM 26 (.iaddr 1 (.t 24) (.t 25)) [0,1,2,3,4,5,6,7],oM 27 (.load 1 false (.t 26)) [0,1,2,3,4,5,6,7],oM 28 (.iaddr 1 (.t 16) (.t 17)) [2,3],⟨none,.store 1 (.t 28) (.t 23),none,[],3⟩,oB 29 (.iaddr 1 (.t 18) (.t 19)),⟨none,.store 1 (.t 29) (.t 27),none,[],3⟩]) (.seq (.ops [oB 30 (.mov (.t 8)),oB 31 (.bin .add (.t 30) (iN 1)),oB 8 (.mov (.t 31))]) (.ops [oB 32 (.mov (.t 9)),oB 33 (.bin .sub (.t 32) (iN 1)),oB 9 (.mov (.t 33))]))))
def ZDd:C:=.seq (.ops [oB 10 (.mov (.t 1)),oB 8 (.mov (.t 10))]) (.seq (.ops [oB 11 (.mov (.t 2)),oB 12 (.bin .sub (.t 11) (iN 1)),oB 9 (.mov (.t 12))]) (.block 0 (.loop [0,8,9] [] ZuV)))
def ZxY:FnI:=⟨4,ZDd,[]⟩
def Zu8:C:=.seq (.seq (.draw [oB 19 (.mov (.t 9)),oM 20 (.mov (.t 2)) [0],oB 21 (.bin .lss (.t 19) (.t 20)),oB 22 (.mov (.t 21)),oG 23 (.mov (.t 3)) 22 true,⟨some 24,.mov (.t 0),some (22,true),[4],0⟩,⟨some 25,.mov (.t 9),some (22,true),[4,5],0⟩,⟨some 26,.iaddr 1 (.t 24) (.t 25),some (22,true),[4],0⟩,⟨some 27,.load 1 false (.t 26),some (22,true),[4],0⟩,⟨some 28,.mov (.t 0),some (22,true),[4,5,6,7,8],0⟩,⟨some 29,.mov (.t 9),some (22,true),[4,5,6,7,8,9],0⟩,⟨some 30,.bin .sub (.t 29) (iN 1),some (22,true),[4,5,6,7,8,9],0⟩,⟨some 31,.iaddr 1 (.t 28) (.t 30),some (22,true),[4,5,6,7,8],0⟩,⟨some 32,.load 1 false (.t 31),some (22,true),[4,5,6,7,8],0⟩,oG 33 (.callv (.t 23) [(.t 27),(.t 32)]) 22 true,oG 34 (.bin .lss (.t 33) (iN 0)) 22 true,oG 35 (.un .not (.t 34)) 22 true,oB 36 (.pick (.t 22) (.t 35) bF)]) (.cond (.t 36) (.skip) (.exit 2))) (.block 3 (.ops [oB 37 (.mov (.t 9)),oB 38 (.bin .add (.t 37) (iN 1)),oB 9 (.mov (.t 38))]))
def ZvF:C:=.seq (.seq (.ops [oB 68 (.mov (.t 11)),oB 69 (.bin .geq (.t 68) (iN 1))]) (.cond (.t 69) (.skip) (.exit 4))) (.seq (.block 5 (.seq (.seq (.draw [oB 72 (.mov (.t 3)),oM 73 (.mov (.t 0)) [0],oM 74 (.mov (.t 11)) [0,1],oM 75 (.iaddr 1 (.t 73) (.t 74)) [0],oM 76 (.load 1 false (.t 75)) [0],oM 77 (.mov (.t 0)) [0,1,2,3,4],oM 78 (.mov (.t 11)) [0,1,2,3,4,5],oM 79 (.bin .sub (.t 78) (iN 1)) [0,1,2,3,4,5],oM 80 (.iaddr 1 (.t 77) (.t 79)) [0,1,2,3,4],oM 81 (.load 1 false (.t 80)) [0,1,2,3,4],oB 82 (.callv (.t 72) [(.t 76),(.t 81)]),oB 83 (.bin .lss (.t 82) (iN 0)),oB 84 (.un .not (.t 83))]) (.cond (.t 84) (.exit 4) (.skip))) (.draw [oB 85 (.mov (.t 0)),oM 86 (.mov (.t 11)) [0],oM 87 (.mov (.t 0)) [0,1],oM 88 (.mov (.t 11)) [0,1,2],oM 89 (.bin .sub (.t 88) (iN 1)) [0,1,2],oM 90 (.mov (.t 0)) [0,1,2,3,4],oM 91 (.mov (.t 11)) [0,1,2,3,4,5],oM 92 (.bin .sub (.t 91) (iN 1)) [0,1,2,3,4,5],oM 93 (.iaddr 1 (.t 90) (.t 92)) [0,1,2,3,4],oM 94 (.load 1 false (.t 93)) [0,1,2,3,4],oM 95 (.mov (.t 0)) [0,1,2,3,4,5,6,7,8,9],oM 96 (.mov (.t 11)) [0,1,2,3,4,5,6,7,8,9,10],oM 97 (.iaddr 1 (.t 95) (.t 96)) [0,1,2,3,4,5,6,7,8,9],oM 98 (.load 1 false (.t 97)) [0,1,2,3,4,5,6,7,8,9],oM 99 (.iaddr 1 (.t 85) (.t 86)) [2,3,4],⟨none,.store 1 (.t 99) (.t 94),none,[],3⟩,oB 100 (.iaddr 1 (.t 87) (.t 89)),⟨none,.store 1 (.t 100) (.t 98),none,[],3⟩]))) (.ops [oB 70 (.mov (.t 11)),oB 71 (.bin .sub (.t 70) (iN 1)),oB 11 (.mov (.t 71))]))
def ZuP:C:=.seq (.seq (.ops [oB 107 (.mov (.t 12)),oB 108 (.mov (.t 2)),oB 109 (.bin .lss (.t 107) (.t 108))]) (.cond (.t 109) (.skip) (.exit 6))) (.seq (.block 7 (.seq (.seq (.draw [oB 112 (.mov (.t 3)),oM 113 (.mov (.t 0)) [0],oM 114 (.mov (.t 12)) [0,1],oM 115 (.iaddr 1 (.t 113) (.t 114)) [0],oM 116 (.load 1 false (.t 115)) [0],oM 117 (.mov (.t 0)) [0,1,2,3,4],oM 118 (.mov (.t 12)) [0,1,2,3,4,5],oM 119 (.bin .sub (.t 118) (iN 1)) [0,1,2,3,4,5],oM 120 (.iaddr 1 (.t 117) (.t 119)) [0,1,2,3,4],oM 121 (.load 1 false (.t 120)) [0,1,2,3,4],oB 122 (.callv (.t 112) [(.t 116),(.t 121)]),oB 123 (.bin .lss (.t 122) (iN 0)),oB 124 (.un .not (.t 123))]) (.cond (.t 124) (.exit 6) (.skip))) (.draw [oB 125 (.mov (.t 0)),oM 126 (.mov (.t 12)) [0],oM 127 (.mov (.t 0)) [0,1],oM 128 (.mov (.t 12)) [0,1,2],oM 129 (.bin .sub (.t 128) (iN 1)) [0,1,2],oM 130 (.mov (.t 0)) [0,1,2,3,4],oM 131 (.mov (.t 12)) [0,1,2,3,4,5],oM 132 (.bin .sub (.t 131) (iN 1)) [0,1,2,3,4,5],oM 133 (.iaddr 1 (.t 130) (.t 132)) [0,1,2,3,4],oM 134 (.load 1 false (.t 133)) [0,1,2,3,4],oM 135 (.mov (.t 0)) [0,1,2,3,4,5,6,7,8,9],oM 136 (.mov (.t 12)) [0,1,2,3,4,5,6,7,8,9,10],oM 137 (.iaddr 1 (.t 135) (.t 136)) [0,1,2,3,4,5,6,7,8,9],oM 138 (.load 1 false (.t 137)) [0,1,2,3,4,5,6,7,8,9],oM 139 (.iaddr 1 (.t 125) (.t 126)) [2,3,4],⟨none,.store 1 (.t 139) (.t 134),none,[],3⟩,oB 140 (.iaddr 1 (.t 127) (.t 129)),⟨none,.store 1 (.t 140) (.t 138),none,[],3⟩]))) (.ops [oB 110 (.mov (.t 12)),oB 111 (.bin .add (.t 110) (iN 1)),oB 12 (.mov (.t 111))]))
def Zvk:C:=.seq (.seq (.ops [oB 15 (.mov (.t 10)),oB 16 (.bin .lss (.t 15) (iN 5))]) (.cond (.t 16) (.skip) (.exit 0))) (.seq (.block 1 (.seq (.block 2 (.loop [0,1,2,3,9,10] [0,1,2,3,9,10] Zu8)) (.seq (.seq (.ops [oB 39 (.mov (.t 9)),oB 40 (.mov (.t 2)),oB 41 (.bin .eql (.t 39) (.t 40))]) (.cond (.t 41) (.seq (.ops [oB 8 (.mov bT)]) (.ret)) (.skip))) (.seq (.seq (.ops [oB 42 (.mov (.t 2)),oB 43 (.mov (.t 1)),oB 44 (.bin .sub (.t 42) (.t 43)),oB 45 (.bin .lss (.t 44) (iN 50))]) (.cond (.t 45) (.seq (.ops [oB 8 (.mov bF)]) (.ret)) (.skip))) (.seq (.draw [oB 46 (.mov (.t 0)),oM 47 (.mov (.t 9)) [0],oM 48 (.mov (.t 0)) [0,1],oM 49 (.mov (.t 9)) [0,1,2],oM 50 (.bin .sub (.t 49) (iN 1)) [0,1,2],oM 51 (.mov (.t 0)) [0,1,2,3,4],oM 52 (.mov (.t 9)) [0,1,2,3,4,5],oM 53 (.bin .sub (.t 52) (iN 1)) [0,1,2,3,4,5],oM 54 (.iaddr 1 (.t 51) (.t 53)) [0,1,2,3,4],oM 55 (.load 1 false (.t 54)) [0,1,2,3,4],oM 56 (.mov (.t 0)) [0,1,2,3,4,5,6,7,8,9],oM 57 (.mov (.t 9)) [0,1,2,3,4,5,6,7,8,9,10],oM 58 (.iaddr 1 (.t 56) (.t 57)) [0,1,2,3,4,5,6,7,8,9],oM 59 (.load 1 false (.t 58)) [0,1,2,3,4,5,6,7,8,9],oM 60 (.iaddr 1 (.t 46) (.t 47)) [2,3,4],⟨none,.store 1 (.t 60) (.t 55),none,[],3⟩,oB 61 (.iaddr 1 (.t 48) (.t 50)),⟨none,.store 1 (.t 61) (.t 59),none,[],3⟩]) (.seq (.seq (.ops [oB 62 (.mov (.t 9)),oB 63 (.mov (.t 1)),oB 64 (.bin .sub (.t 62) (.t 63)),oB 65 (.bin .geq (.t 64) (iN 2))]) (.cond (.t 65) (.seq (.ops [oB 66 (.mov (.t 9)),oB 67 (.bin .sub (.t 66) (iN 1)),oB 11 (.mov (.t 67))]) (.block 4 (.loop [0,1,2,3,9,10,11] [0,1,2,3,9,10] ZvF))) (.skip))) (.seq (.ops [oB 101 (.mov (.t 2)),oB 102 (.mov (.t 9)),oB 103 (.bin .sub (.t 101) (.t 102)),oB 104 (.bin .geq (.t 103) (iN 2))]) (.cond (.t 104) (.seq (.ops [oB 105 (.mov (.t 9)),oB 106 (.bin .add (.t 105) (iN 1)),oB 12 (.mov (.t 106))]) (.block 6 (.loop [0,1,2,3,9,10,12] [0,1,2,3,9,10] ZuP))) (.skip))))))))) (.ops [oB 17 (.mov (.t 10)),oB 18 (.bin .add (.t 17) (iN 1)),oB 10 (.mov (.t 18))]))
def ZCZ:C:=.seq (.ops [oB 8 (.mov bF)]) (.seq (.ops [oB 13 (.mov (.t 1)),oB 14 (.bin .add (.t 13) (iN 1)),oB 9 (.mov (.t 14))]) (.seq (.seq (.ops [oB 10 (.mov (iN 0))]) (.block 0 (.loop [0,1,2,3,9,10] [8] Zvk))) (.seq (.ops [oB 8 (.mov bF)]) (.ret))))
def ZyL:FnI:=⟨4,ZCZ,[(8,none)]⟩
def Zvm:C:=.seq (.seq (.draw [oB 31 (.mov (.t 11)),oM 32 (.mov (.t 12)) [0],oB 33 (.bin .leq (.t 31) (.t 32)),oB 34 (.mov (.t 33)),oG 35 (.mov (.t 4)) 34 true,⟨some 36,.mov (.t 0),some (34,true),[4],0⟩,⟨some 37,.mov (.t 1),some (34,true),[4,5],0⟩,⟨some 38,.iaddr 1 (.t 36) (.t 37),some (34,true),[4],0⟩,⟨some 39,.load 1 false (.t 38),some (34,true),[4],0⟩,⟨some 40,.mov (.t 0),some (34,true),[4,5,6,7,8],0⟩,⟨some 41,.mov (.t 11),some (34,true),[4,5,6,7,8,9],0⟩,⟨some 42,.iaddr 1 (.t 40) (.t 41),some (34,true),[4,5,6,7,8],0⟩,⟨some 43,.load 1 false (.t 42),some (34,true),[4,5,6,7,8],0⟩,oG 44 (.callv (.t 35) [(.t 39),(.t 43)]) 34 true,oG 45 (.bin .lss (.t 44) (iN 0)) 34 true,oG 46 (.un .not (.t 45)) 34 true,oB 47 (.pick (.t 34) (.t 46) bF)]) (.cond (.t 47) (.skip) (.exit 2))) (.block 3 (.ops [oB 48 (.mov (.t 11)),oB 49 (.bin .add (.t 48) (iN 1)),oB 11 (.mov (.t 49))]))
def ZuR:C:=.seq (.seq (.draw [oB 50 (.mov (.t 11)),oM 51 (.mov (.t 12)) [0],oB 52 (.bin .leq (.t 50) (.t 51)),oB 53 (.mov (.t 52)),oG 54 (.mov (.t 4)) 53 true,⟨some 55,.mov (.t 0),some (53,true),[4],0⟩,⟨some 56,.mov (.t 1),some (53,true),[4,5],0⟩,⟨some 57,.iaddr 1 (.t 55) (.t 56),some (53,true),[4],0⟩,⟨some 58,.load 1 false (.t 57),some (53,true),[4],0⟩,⟨some 59,.mov (.t 0),some (53,true),[4,5,6,7,8],0⟩,⟨some 60,.mov (.t 12),some (53,true),[4,5,6,7,8,9],0⟩,⟨some 61,.iaddr 1 (.t 59) (.t 60),some (53,true),[4,5,6,7,8],0⟩,⟨some 62,.load 1 false (.t 61),some (53,true),[4,5,6,7,8],0⟩,oG 63 (.callv (.t 54) [(.t 58),(.t 62)]) 53 true,oG 64 (.bin .lss (.t 63) (iN 0)) 53 true,oB 65 (.pick (.t 53) (.t 64) bF)]) (.cond (.t 65) (.skip) (.exit 4))) (.block 5 (.ops [oB 66 (.mov (.t 12)),oB 67 (.bin .sub (.t 66) (iN 1)),oB 12 (.mov (.t 67))]))
def ZvH:C:=.block 1 (.seq (.block 2 (.loop [0,1,4,11,12] [0,1,4,11,12] Zvm)) (.seq (.block 4 (.loop [0,1,4,11,12] [0,1,4,11,12] ZuR)) (.seq (.seq (.ops [oB 68 (.mov (.t 11)),oB 69 (.mov (.t 12)),oB 70 (.bin .gtr (.t 68) (.t 69))]) (.cond (.t 70) (.exit 0) (.skip))) (.seq (.draw [oB 71 (.mov (.t 0)),oM 72 (.mov (.t 11)) [0],oM 73 (.mov (.t 0)) [0,1],oM 74 (.mov (.t 12)) [0,1,2],oM 75 (.mov (.t 0)) [0,1,2,3],oM 76 (.mov (.t 12)) [0,1,2,3,4],oM 77 (.iaddr 1 (.t 75) (.t 76)) [0,1,2,3],oM 78 (.load 1 false (.t 77)) [0,1,2,3],oM 79 (.mov (.t 0)) [0,1,2,3,4,5,6,7],oM 80 (.mov (.t 11)) [0,1,2,3,4,5,6,7,8],oM 81 (.iaddr 1 (.t 79) (.t 80)) [0,1,2,3,4,5,6,7],oM 82 (.load 1 false (.t 81)) [0,1,2,3,4,5,6,7],oM 83 (.iaddr 1 (.t 71) (.t 72)) [2,3],⟨none,.store 1 (.t 83) (.t 78),none,[],3⟩,oB 84 (.iaddr 1 (.t 73) (.t 74)),⟨none,.store 1 (.t 84) (.t 82),none,[],3⟩]) (.seq (.ops [oB 85 (.mov (.t 11)),oB 86 (.bin .add (.t 85) (iN 1)),oB 11 (.mov (.t 86))]) (.ops [oB 87 (.mov (.t 12)),oB 88 (.bin .sub (.t 87) (iN 1)),oB 12 (.mov (.t 88))]))))))
def ZCE:C:=.seq (.ops [oB 10 (.mov (iN 0))]) (.seq (.draw [oB 13 (.mov (.t 0)),oM 14 (.mov (.t 1)) [0],oM 15 (.mov (.t 0)) [0,1],oM 16 (.mov (.t 3)) [0,1,2],oM 17 (.mov (.t 0)) [0,1,2,3],oM 18 (.mov (.t 3)) [0,1,2,3,4],oM 19 (.iaddr 1 (.t 17) (.t 18)) [0,1,2,3],oM 20 (.load 1 false (.t 19)) [0,1,2,3],oM 21 (.mov (.t 0)) [0,1,2,3,4,5,6,7],oM 22 (.mov (.t 1)) [0,1,2,3,4,5,6,7,8],oM 23 (.iaddr 1 (.t 21) (.t 22)) [0,1,2,3,4,5,6,7],oM 24 (.load 1 false (.t 23)) [0,1,2,3,4,5,6,7],oM 25 (.iaddr 1 (.t 13) (.t 14)) [2,3],⟨none,.store 1 (.t 25) (.t 20),none,[],3⟩,oB 26 (.iaddr 1 (.t 15) (.t 16)),⟨none,.store 1 (.t 26) (.t 24),none,[],3⟩]) (.seq (.ops [oB 27 (.mov (.t 1)),oB 28 (.bin .add (.t 27) (iN 1)),oB 29 (.mov (.t 2)),oB 30 (.bin .sub (.t 29) (iN 1)),oB 11 (.mov (.t 28)),oB 12 (.mov (.t 30))]) (.seq (.block 0 (.loop [0,1,4,11,12] [11] ZvH)) (.seq (.ops [oB 89 (.mov (.t 11)),oB 10 (.mov (.t 89))]) (.ret)))))
def ZyR:FnI:=⟨5,ZCE,[(10,none)]⟩
def Zvt:C:=.seq (.seq (.draw [oB 32 (.mov (.t 12)),oM 33 (.mov (.t 13)) [0],oB 34 (.bin .leq (.t 32) (.t 33)),oB 35 (.mov (.t 34)),oG 36 (.mov (.t 4)) 35 true,⟨some 37,.mov (.t 0),some (35,true),[4],0⟩,⟨some 38,.mov (.t 12),some (35,true),[4,5],0⟩,⟨some 39,.iaddr 1 (.t 37) (.t 38),some (35,true),[4],0⟩,⟨some 40,.load 1 false (.t 39),some (35,true),[4],0⟩,⟨some 41,.mov (.t 0),some (35,true),[4,5,6,7,8],0⟩,⟨some 42,.mov (.t 1),some (35,true),[4,5,6,7,8,9],0⟩,⟨some 43,.iaddr 1 (.t 41) (.t 42),some (35,true),[4,5,6,7,8],0⟩,⟨some 44,.load 1 false (.t 43),some (35,true),[4,5,6,7,8],0⟩,oG 45 (.callv (.t 36) [(.t 40),(.t 44)]) 35 true,oG 46 (.bin .lss (.t 45) (iN 0)) 35 true,oB 47 (.pick (.t 35) (.t 46) bF)]) (.cond (.t 47) (.skip) (.exit 0))) (.block 1 (.ops [oB 48 (.mov (.t 12)),oB 49 (.bin .add (.t 48) (iN 1)),oB 12 (.mov (.t 49))]))
def Zvz:C:=.seq (.seq (.draw [oB 50 (.mov (.t 12)),oM 51 (.mov (.t 13)) [0],oB 52 (.bin .leq (.t 50) (.t 51)),oB 53 (.mov (.t 52)),oG 54 (.mov (.t 4)) 53 true,⟨some 55,.mov (.t 0),some (53,true),[4],0⟩,⟨some 56,.mov (.t 13),some (53,true),[4,5],0⟩,⟨some 57,.iaddr 1 (.t 55) (.t 56),some (53,true),[4],0⟩,⟨some 58,.load 1 false (.t 57),some (53,true),[4],0⟩,⟨some 59,.mov (.t 0),some (53,true),[4,5,6,7,8],0⟩,⟨some 60,.mov (.t 1),some (53,true),[4,5,6,7,8,9],0⟩,⟨some 61,.iaddr 1 (.t 59) (.t 60),some (53,true),[4,5,6,7,8],0⟩,⟨some 62,.load 1 false (.t 61),some (53,true),[4,5,6,7,8],0⟩,oG 63 (.callv (.t 54) [(.t 58),(.t 62)]) 53 true,oG 64 (.bin .lss (.t 63) (iN 0)) 53 true,oG 65 (.un .not (.t 64)) 53 true,oB 66 (.pick (.t 53) (.t 65) bF)]) (.cond (.t 66) (.skip) (.exit 2))) (.block 3 (.ops [oB 67 (.mov (.t 13)),oB 68 (.bin .sub (.t 67) (iN 1)),oB 13 (.mov (.t 68))]))
def Zu4:C:=.seq (.seq (.draw [oB 105 (.mov (.t 12)),oM 106 (.mov (.t 13)) [0],oB 107 (.bin .leq (.t 105) (.t 106)),oB 108 (.mov (.t 107)),oG 109 (.mov (.t 4)) 108 true,⟨some 110,.mov (.t 0),some (108,true),[4],0⟩,⟨some 111,.mov (.t 12),some (108,true),[4,5],0⟩,⟨some 112,.iaddr 1 (.t 110) (.t 111),some (108,true),[4],0⟩,⟨some 113,.load 1 false (.t 112),some (108,true),[4],0⟩,⟨some 114,.mov (.t 0),some (108,true),[4,5,6,7,8],0⟩,⟨some 115,.mov (.t 1),some (108,true),[4,5,6,7,8,9],0⟩,⟨some 116,.iaddr 1 (.t 114) (.t 115),some (108,true),[4,5,6,7,8],0⟩,⟨some 117,.load 1 false (.t 116),some (108,true),[4,5,6,7,8],0⟩,oG 118 (.callv (.t 109) [(.t 113),(.t 117)]) 108 true,oG 119 (.bin .lss (.t 118) (iN 0)) 108 true,oB 120 (.pick (.t 108) (.t 119) bF)]) (.cond (.t 120) (.skip) (.exit 6))) (.block 7 (.ops [oB 121 (.mov (.t 12)),oB 122 (.bin .add (.t 121) (iN 1)),oB 12 (.mov (.t 122))]))
def ZvN:C:=.seq (.seq (.draw [oB 123 (.mov (.t 12)),oM 124 (.mov (.t 13)) [0],oB 125 (.bin .leq (.t 123) (.t 124)),oB 126 (.mov (.t 125)),oG 127 (.mov (.t 4)) 126 true,⟨some 128,.mov (.t 0),some (126,true),[4],0⟩,⟨some 129,.mov (.t 13),some (126,true),[4,5],0⟩,⟨some 130,.iaddr 1 (.t 128) (.t 129),some (126,true),[4],0⟩,⟨some 131,.load 1 false (.t 130),some (126,true),[4],0⟩,⟨some 132,.mov (.t 0),some (126,true),[4,5,6,7,8],0⟩,⟨some 133,.mov (.t 1),some (126,true),[4,5,6,7,8,9],0⟩,⟨some 134,.iaddr 1 (.t 132) (.t 133),some (126,true),[4,5,6,7,8],0⟩,⟨some 135,.load 1 false (.t 134),some (126,true),[4,5,6,7,8],0⟩,oG 136 (.callv (.t 127) [(.t 131),(.t 135)]) 126 true,oG 137 (.bin .lss (.t 136) (iN 0)) 126 true,oG 138 (.un .not (.t 137)) 126 true,oB 139 (.pick (.t 126) (.t 138) bF)]) (.cond (.t 139) (.skip) (.exit 8))) (.block 9 (.ops [oB 140 (.mov (.t 13)),oB 141 (.bin .sub (.t 140) (iN 1)),oB 13 (.mov (.t 141))]))
def ZvB:C:=.block 5 (.seq (.block 6 (.loop [0,1,4,12,13] [0,1,4,12,13] Zu4)) (.seq (.block 8 (.loop [0,1,4,12,13] [0,1,4,12,13] ZvN)) (.seq (.seq (.ops [oB 142 (.mov (.t 12)),oB 143 (.mov (.t 13)),oB 144 (.bin .gtr (.t 142) (.t 143))]) (.cond (.t 144) (.exit 4) (.skip))) (.seq (.draw [oB 145 (.mov (.t 0)),oM 146 (.mov (.t 12)) [0],oM 147 (.mov (.t 0)) [0,1],oM 148 (.mov (.t 13)) [0,1,2],oM 149 (.mov (.t 0)) [0,1,2,3],oM 150 (.mov (.t 13)) [0,1,2,3,4],oM 151 (.iaddr 1 (.t 149) (.t 150)) [0,1,2,3],oM 152 (.load 1 false (.t 151)) [0,1,2,3],oM 153 (.mov (.t 0)) [0,1,2,3,4,5,6,7],oM 154 (.mov (.t 12)) [0,1,2,3,4,5,6,7,8],oM 155 (.iaddr 1 (.t 153) (.t 154)) [0,1,2,3,4,5,6,7],oM 156 (.load 1 false (.t 155)) [0,1,2,3,4,5,6,7],oM 157 (.iaddr 1 (.t 145) (.t 146)) [2,3],⟨none,.store 1 (.t 157) (.t 152),none,[],3⟩,oB 158 (.iaddr 1 (.t 147) (.t 148)),⟨none,.store 1 (.t 158) (.t 156),none,[],3⟩]) (.seq (.ops [oB 159 (.mov (.t 12)),oB 160 (.bin .add (.t 159) (iN 1)),oB 12 (.mov (.t 160))]) (.ops [oB 161 (.mov (.t 13)),oB 162 (.bin .sub (.t 161) (iN 1)),oB 13 (.mov (.t 162))]))))))
def ZB6:C:=.seq (.ops [oB 10 (.mov (iN 0)),oB 11 (.mov bF)]) (.seq (.draw [oB 14 (.mov (.t 0)),oM 15 (.mov (.t 1)) [0],oM 16 (.mov (.t 0)) [0,1],oM 17 (.mov (.t 3)) [0,1,2],oM 18 (.mov (.t 0)) [0,1,2,3],oM 19 (.mov (.t 3)) [0,1,2,3,4],oM 20 (.iaddr 1 (.t 18) (.t 19)) [0,1,2,3],oM 21 (.load 1 false (.t 20)) [0,1,2,3],oM 22 (.mov (.t 0)) [0,1,2,3,4,5,6,7],oM 23 (.mov (.t 1)) [0,1,2,3,4,5,6,7,8],oM 24 (.iaddr 1 (.t 22) (.t 23)) [0,1,2,3,4,5,6,7],oM 25 (.load 1 false (.t 24)) [0,1,2,3,4,5,6,7],oM 26 (.iaddr 1 (.t 14) (.t 15)) [2,3],⟨none,.store 1 (.t 26) (.t 21),none,[],3⟩,oB 27 (.iaddr 1 (.t 16) (.t 17)),⟨none,.store 1 (.t 27) (.t 25),none,[],3⟩]) (.seq (.ops [oB 28 (.mov (.t 1)),oB 29 (.bin .add (.t 28) (iN 1)),oB 30 (.mov (.t 2)),oB 31 (.bin .sub (.t 30) (iN 1)),oB 12 (.mov (.t 29)),oB 13 (.mov (.t 31))]) (.seq (.block 0 (.loop [0,1,4,12,13] [0,1,4,12,13] Zvt)) (.seq (.block 2 (.loop [0,1,4,12,13] [0,1,4,12,13] Zvz)) (.seq (.seq (.ops [oB 69 (.mov (.t 12)),oB 70 (.mov (.t 13)),oB 71 (.bin .gtr (.t 69) (.t 70))]) (.cond (.t 71) (.seq (.draw [oB 72 (.mov (.t 0)),oM 73 (.mov (.t 13)) [0],oM 74 (.mov (.t 0)) [0,1],oM 75 (.mov (.t 1)) [0,1,2],oM 76 (.mov (.t 0)) [0,1,2,3],oM 77 (.mov (.t 1)) [0,1,2,3,4],oM 78 (.iaddr 1 (.t 76) (.t 77)) [0,1,2,3],oM 79 (.load 1 false (.t 78)) [0,1,2,3],oM 80 (.mov (.t 0)) [0,1,2,3,4,5,6,7],oM 81 (.mov (.t 13)) [0,1,2,3,4,5,6,7,8],oM 82 (.iaddr 1 (.t 80) (.t 81)) [0,1,2,3,4,5,6,7],oM 83 (.load 1 false (.t 82)) [0,1,2,3,4,5,6,7],oM 84 (.iaddr 1 (.t 72) (.t 73)) [2,3],⟨none,.store 1 (.t 84) (.t 79),none,[],3⟩,oB 85 (.iaddr 1 (.t 74) (.t 75)),⟨none,.store 1 (.t 85) (.t 83),none,[],3⟩]) (.seq (.ops [oB 86 (.mov (.t 13)),oB 10 (.mov (.t 86)),oB 11 (.mov bT)]) (.ret))) (.skip))) (.seq (.draw [oB 87 (.mov (.t 0)),oM 88 (.mov (.t 12)) [0],oM 89 (.mov (.t 0)) [0,1],oM 90 (.mov (.t 13)) [0,1,2],oM 91 (.mov (.t 0)) [0,1,2,3],oM 92 (.mov (.t 13)) [0,1,2,3,4],oM 93 (.iaddr 1 (.t 91) (.t 92)) [0,1,2,3],oM 94 (.load 1 false (.t 93)) [0,1,2,3],oM 95 (.mov (.t 0)) [0,1,2,3,4,5,6,7],oM 96 (.mov (.t 12)) [0,1,2,3,4,5,6,7,8],oM 97 (.iaddr 1 (.t 95) (.t 96)) [0,1,2,3,4,5,6,7],oM 98 (.load 1 false (.t 97)) [0,1,2,3,4,5,6,7],oM 99 (.iaddr 1 (.t 87) (.t 88)) [2,3],⟨none,.store 1 (.t 99) (.t 94),none,[],3⟩,oB 100 (.iaddr 1 (.t 89) (.t 90)),⟨none,.store 1 (.t 100) (.t 98),none,[],3⟩]) (.seq (.ops [oB 101 (.mov (.t 12)),oB 102 (.bin .add (.t 101) (iN 1)),oB 12 (.mov (.t 102))]) (.seq (.ops [oB 103 (.mov (.t 13)),oB 104 (.bin .sub (.t 103) (iN 1)),oB 13 (.mov (.t 104))]) (.seq (.block 4 (.loop [0,1,4,12,13] [0,1,13] ZvB)) (.seq (.draw [oB 163 (.mov (.t 0)),oM 164 (.mov (.t 13)) [0],oM 165 (.mov (.t 0)) [0,1],oM 166 (.mov (.t 1)) [0,1,2],oM 167 (.mov (.t 0)) [0,1,2,3],oM 168 (.mov (.t 1)) [0,1,2,3,4],oM 169 (.iaddr 1 (.t 167) (.t 168)) [0,1,2,3],oM 170 (.load 1 false (.t 169)) [0,1,2,3],oM 171 (.mov (.t 0)) [0,1,2,3,4,5,6,7],oM 172 (.mov (.t 13)) [0,1,2,3,4,5,6,7,8],oM 173 (.iaddr 1 (.t 171) (.t 172)) [0,1,2,3,4,5,6,7],oM 174 (.load 1 false (.t 173)) [0,1,2,3,4,5,6,7],oM 175 (.iaddr 1 (.t 163) (.t 164)) [2,3],⟨none,.store 1 (.t 175) (.t 170),none,[],3⟩,oB 176 (.iaddr 1 (.t 165) (.t 166)),⟨none,.store 1 (.t 176) (.t 174),none,[],3⟩]) (.seq (.ops [oB 177 (.mov (.t 13)),oB 10 (.mov (.t 177)),oB 11 (.mov bF)]) (.ret))))))))))))
def Zxr:FnI:=⟨5,ZB6,[(10,none),(11,none)]⟩
def ZCb:C:=.seq (.ops [oB 2 (.mov (iN 0))]) (.seq (.seq (.ops [oB 3 (.mov (.t 0)),oB 4 (.bin .geq (.t 3) (.c (.d (.int .u32 65536))))]) (.cond (.t 4) (.seq (.ops [oB 5 (.mov (.t 0)),oB 6 (.bin .shr (.t 5) (.c (.d (.int .u64 16)))),oB 0 (.mov (.t 6))]) (.ops [oB 2 (.mov (iN 16))])) (.skip))) (.seq (.seq (.ops [oB 7 (.mov (.t 0)),oB 8 (.bin .geq (.t 7) (.c (.d (.int .u32 256))))]) (.cond (.t 8) (.seq (.ops [oB 9 (.mov (.t 0)),oB 10 (.bin .shr (.t 9) (.c (.d (.int .u64 8)))),oB 0 (.mov (.t 10))]) (.ops [oB 11 (.mov (.t 2)),oB 12 (.bin .add (.t 11) (iN 8)),oB 2 (.mov (.t 12))])) (.skip))) (.seq (.ops [oB 13 (.mov (.t 2)),oB 14 (.mov (.t 0)),oB 15 (.conv .u8 (.t 14)),oB 16 (.indexS (.c (.d (.str ⟨#[0,1,2,2,3,3,3,3,4,4,4,4,4,4,4,4,5,5,5,5,5,5,5,5,5,5,5,5,5,5,5,5,6,6,6,6,6,6,6,6,6,6,6,6,6,6,6,6,6,6,6,6,6,6,6,6,6,6,6,6,6,6,6,6,7,7,7,7,7,7,7,7,7,7,7,7,7,7,7,7,7,7,7,7,7,7,7,7,7,7,7,7,7,7,7,7,7,7,7,7,7,7,7,7,7,7,7,7,7,7,7,7,7,7,7,7,7,7,7,7,7,7,7,7,7,7,7,7,8,8,8,8,8,8,8,8,8,8,8,8,8,8,8,8,8,8,8,8,8,8,8,8,8,8,8,8,8,8,8,8,8,8,8,8,8,8,8,8,8,8,8,8,8,8,8,8,8,8,8,8,8,8,8,8,8,8,8,8,8,8,8,8,8,8,8,8,8,8,8,8,8,8,8,8,8,8,8,8,8,8,8,8,8,8,8,8,8,8,8,8,8,8,8,8,8,8,8,8,8,8,8,8,8,8,8,8,8,8,8,8,8,8,8,8,8,8,8,8,8,8,8,8,8,8,8,8]⟩))) (.t 15)),oB 17 (.conv .i64 (.t 16)),oB 18 (.bin .add (.t 13) (.t 17)),oB 2 (.mov (.t 18))]) (.ret))))
def ZAk:FnI:=⟨1,ZCb,[(2,none)]⟩
def ZC9:C:=.seq (.ops [oB 2 (.mov (iN 0))]) (.seq (.seq (.ops [oB 3 (.mov (.t 0)),oB 4 (.bin .geq (.t 3) (.c (.d (.int .u64 4294967296))))]) (.cond (.t 4) (.seq (.ops [oB 5 (.mov (.t 0)),oB 6 (.bin .shr (.t 5) (.c (.d (.int .u64 32)))),oB 0 (.mov (.t 6))]) (.ops [oB 2 (.mov (iN 32))])) (.skip))) (.seq (.seq (.ops [oB 7 (.mov (.t 0)),oB 8 (.bin .geq (.t 7) (.c (.d (.int .u64 65536))))]) (.cond (.t 8) (.seq (.ops [oB 9 (.mov (.t 0)),oB 10 (.bin .shr (.t 9) (.c (.d (.int .u64 16)))),oB 0 (.mov (.t 10))]) (.ops [oB 11 (.mov (.t 2)),oB 12 (.bin .add (.t 11) (iN 16)),oB 2 (.mov (.t 12))])) (.skip))) (.seq (.seq (.ops [oB 13 (.mov (.t 0)),oB 14 (.bin .geq (.t 13) (.c (.d (.int .u64 256))))]) (.cond (.t 14) (.seq (.ops [oB 15 (.mov (.t 0)),oB 16 (.bin .shr (.t 15) (.c (.d (.int .u64 8)))),oB 0 (.mov (.t 16))]) (.ops [oB 17 (.mov (.t 2)),oB 18 (.bin .add (.t 17) (iN 8)),oB 2 (.mov (.t 18))])) (.skip))) (.seq (.ops [oB 19 (.mov (.t 2)),oB 20 (.mov (.t 0)),oB 21 (.conv .u8 (.t 20)),oB 22 (.indexS (.c (.d (.str ⟨#[0,1,2,2,3,3,3,3,4,4,4,4,4,4,4,4,5,5,5,5,5,5,5,5,5,5,5,5,5,5,5,5,6,6,6,6,6,6,6,6,6,6,6,6,6,6,6,6,6,6,6,6,6,6,6,6,6,6,6,6,6,6,6,6,7,7,7,7,7,7,7,7,7,7,7,7,7,7,7,7,7,7,7,7,7,7,7,7,7,7,7,7,7,7,7,7,7,7,7,7,7,7,7,7,7,7,7,7,7,7,7,7,7,7,7,7,7,7,7,7,7,7,7,7,7,7,7,7,8,8,8,8,8,8,8,8,8,8,8,8,8,8,8,8,8,8,8,8,8,8,8,8,8,8,8,8,8,8,8,8,8,8,8,8,8,8,8,8,8,8,8,8,8,8,8,8,8,8,8,8,8,8,8,8,8,8,8,8,8,8,8,8,8,8,8,8,8,8,8,8,8,8,8,8,8,8,8,8,8,8,8,8,8,8,8,8,8,8,8,8,8,8,8,8,8,8,8,8,8,8,8,8,8,8,8,8,8,8,8,8,8,8,8,8,8,8,8,8,8,8,8,8,8,8,8,8]⟩))) (.t 21)),oB 23 (.conv .i64 (.t 22)),oB 24 (.bin .add (.t 19) (.t 23)),oB 2 (.mov (.t 24))]) (.ret)))))
def Zxf:FnI:=⟨1,ZC9,[(2,none)]⟩
def Zvu:C:=.block 1 (.seq (.ops [oB 13 (.mov (.t 10)),oB 14 (.bin .mul (iN 2) (.t 13)),oB 15 (.bin .add (.t 14) (iN 1)),oB 11 (.mov (.t 15))]) (.seq (.seq (.ops [oB 16 (.mov (.t 11)),oB 17 (.mov (.t 2)),oB 18 (.bin .geq (.t 16) (.t 17))]) (.cond (.t 18) (.exit 0) (.skip))) (.seq (.seq (.draw [oB 19 (.mov (.t 11)),oB 20 (.bin .add (.t 19) (iN 1)),oM 21 (.mov (.t 2)) [0,1],oB 22 (.bin .lss (.t 20) (.t 21)),oB 23 (.mov (.t 22)),oG 24 (.mov (.t 4)) 23 true,⟨some 25,.mov (.t 0),some (23,true),[5],0⟩,⟨some 26,.mov (.t 3),some (23,true),[5,6],0⟩,⟨some 27,.mov (.t 11),some (23,true),[5,6,7],0⟩,⟨some 28,.bin .add (.t 26) (.t 27),some (23,true),[5,6],0⟩,⟨some 29,.iaddr 1 (.t 25) (.t 28),some (23,true),[5],0⟩,⟨some 30,.load 1 false (.t 29),some (23,true),[5],0⟩,⟨some 31,.mov (.t 0),some (23,true),[5,6,7,8,9,10,11],0⟩,⟨some 32,.mov (.t 3),some (23,true),[5,6,7,8,9,10,11,12],0⟩,⟨some 33,.mov (.t 11),some (23,true),[5,6,7,8,9,10,11,12,13],0⟩,⟨some 34,.bin .add (.t 32) (.t 33),some (23,true),[5,6,7,8,9,10,11,12],0⟩,⟨some 35,.bin .add (.t 34) (iN 1),some (23,true),[5,6,7,8,9,10,11,12],0⟩,⟨some 36,.iaddr 1 (.t 31) (.t 35),some (23,true),[5,6,7,8,9,10,11],0⟩,⟨some 37,.load 1 false (.t 36),some (23,true),[5,6,7,8,9,10,11],0⟩,oG 38 (.callv (.t 24) [(.t 30),(.t 37)]) 23 true,oG 39 (.bin .lss (.t 38) (iN 0)) 23 true,oB 40 (.pick (.t 23) (.t 39) bF)]) (.cond (.t 40) (.ops [oB 41 (.mov (.t 11)),oB 42 (.bin .add (.t 41) (iN 1)),oB 11 (.mov (.t 42))]) (.skip))) (.seq (.seq (.draw [oB 43 (.mov (.t 4)),oM 44 (.mov (.t 0)) [0],oM 45 (.mov (.t 3)) [0,1],oM 46 (.mov (.t 10)) [0,1,2],oM 47 (.bin .add (.t 45) (.t 46)) [0,1],oM 48 (.iaddr 1 (.t 44) (.t 47)) [0],oM 49 (.load 1 false (.t 48)) [0],oM 50 (.mov (.t 0)) [0,1,2,3,4,5,6],oM 51 (.mov (.t 3)) [0,1,2,3,4,5,6,7],oM 52 (.mov (.t 11)) [0,1,2,3,4,5,6,7,8],oM 53 (.bin .add (.t 51) (.t 52)) [0,1,2,3,4,5,6,7],oM 54 (.iaddr 1 (.t 50) (.t 53)) [0,1,2,3,4,5,6],oM 55 (.load 1 false (.t 54)) [0,1,2,3,4,5,6],oB 56 (.callv (.t 43) [(.t 49),(.t 55)]),oB 57 (.bin .lss (.t 56) (iN 0)),oB 58 (.un .not (.t 57))]) (.cond (.t 58) (.ret) (.skip))) (.seq (.draw [oB 59 (.mov (.t 0)),oM 60 (.mov (.t 3)) [0],oM 61 (.mov (.t 10)) [0,1],oM 62 (.bin .add (.t 60) (.t 61)) [0],oM 63 (.mov (.t 0)) [0,1,2,3],oM 64 (.mov (.t 3)) [0,1,2,3,4],oM 65 (.mov (.t 11)) [0,1,2,3,4,5],oM 66 (.bin .add (.t 64) (.t 65)) [0,1,2,3,4],oM 67 (.mov (.t 0)) [0,1,2,3,4,5,6,7],oM 68 (.mov (.t 3)) [0,1,2,3,4,5,6,7,8],oM 69 (.mov (.t 11)) [0,1,2,3,4,5,6,7,8,9],oM 70 (.bin .add (.t 68) (.t 69)) [0,1,2,3,4,5,6,7,8],oM 71 (.iaddr 1 (.t 67) (.t 70)) [0,1,2,3,4,5,6,7],oM 72 (.load 1 false (.t 71)) [0,1,2,3,4,5,6,7],oM 73 (.mov (.t 0)) [0,1,2,3,4,5,6,7,8,9,10,11,12,13],oM 74 (.mov (.t 3)) [0,1,2,3,4,5,6,7,8,9,10,11,12,13,14],oM 75 (.mov (.t 10)) [0,1,2,3,4,5,6,7,8,9,10,11,12,13,14,15],oM 76 (.bin .add (.t 74) (.t 75)) [0,1,2,3,4,5,6,7,8,9,10,11,12,13,14],oM 77 (.iaddr 1 (.t 73) (.t 76)) [0,1,2,3,4,5,6,7,8,9,10,11,12,13],oM 78 (.load 1 false (.t 77)) [0,1,2,3,4,5,6,7,8,9,10,11,12,13],oM 79 (.iaddr 1 (.t 59) (.t 62)) [4,5,6,7],⟨none,.store 1 (.t 79) (.t 72),none,[],3⟩,oB 80 (.iaddr 1 (.t 63) (.t 66)),⟨none,.store 1 (.t 80) (.t 78),none,[],3⟩]) (.ops [oB 81 (.mov (.t 11)),oB 10 (.mov (.t 81))]))))))
def ZCI:C:=.seq (.ops [oB 12 (.mov (.t 1)),oB 10 (.mov (.t 12))]) (.block 0 (.loop [0,2,3,4,10] [] Zvu))
def Zx1:FnI:=⟨5,ZCI,[]⟩
def ZCa:C:=.seq (.ops [oB 2 (.mov (.c (.d (.int .u64 0))))]) (.seq (.ops [oB 3 (.mov (.t 0)),oB 4 (.conv .u64 (.t 3)),oB 5 (.call 125 [(.t 4)]),oB 6 (.bin .shl (.c (.d (.int .u64 1))) (.t 5)),oB 2 (.mov (.t 6))]) (.ret))
def ZwT:FnI:=⟨1,ZCa,[(2,none)]⟩
def ZB4:C:=.seq (.ops [oB 2 (.mov (.c (.d (.int .u64 0))))]) (.seq (.draw [oB 3 (.mov (.t 0)),oB 4 (.nilck (.t 3)),oB 5 (.load 1 false (.t 4)),oM 6 (.mov (.t 0)) [0,1,2],oM 7 (.nilck (.t 6)) [0,1,2],oM 8 (.load 1 false (.t 7)) [0,1,2],oM 9 (.bin .shl (.t 8) (.c (.d (.int .u64 13)))) [0,1,2],oB 10 (.bin .xor (.t 5) (.t 9)),oB 11 (.nilck (.t 3)),⟨none,.store 1 (.t 11) (.t 10),none,[],3⟩]) (.seq (.draw [oB 12 (.mov (.t 0)),oB 13 (.nilck (.t 12)),oB 14 (.load 1 false (.t 13)),oM 15 (.mov (.t 0)) [0,1,2],oM 16 (.nilck (.t 15)) [0,1,2],oM 17 (.load 1 false (.t 16)) [0,1,2],oM 18 (.bin .shr (.t 17) (.c (.d (.int .u64 7)))) [0,1,2],oB 19 (.bin .xor (.t 14) (.t 18)),oB 20 (.nilck (.t 12)),⟨none,.store 1 (.t 20) (.t 19),none,[],3⟩]) (.seq (.draw [oB 21 (.mov (.t 0)),oB 22 (.nilck (.t 21)),oB 23 (.load 1 false (.t 22)),oM 24 (.mov (.t 0)) [0,1,2],oM 25 (.nilck (.t 24)) [0,1,2],oM 26 (.load 1 false (.t 25)) [0,1,2],oM 27 (.bin .shl (.t 26) (.c (.d (.int .u64 17)))) [0,1,2],oB 28 (.bin .xor (.t 23) (.t 27)),oB 29 (.nilck (.t 21)),⟨none,.store 1 (.t 29) (.t 28),none,[],3⟩]) (.seq (.ops [oB 30 (.mov (.t 0)),oB 31 (.nilck (.t 30)),oB 32 (.load 1 false (.t 31)),oB 2 (.mov (.t 32))]) (.ret)))))
def Zxq:FnI:=⟨1,ZB4,[(2,none)]⟩
def ZCJ:C:=.seq (.ops [oB 8 (.mov (iN 0))]) (.seq (.ops [oB 9 (.mov (.t 0)),oB 10 (.mov (.t 1)),oB 11 (.bin .sub (.t 10) (iN 1)),oB 12 (.mov (.t 1)),oB 13 (.mov (.t 1)),oB 14 (.bin .add (.t 13) (iN 1)),oB 15 (.mov (.t 2)),oB 16 (.mov (.t 3)),oB 17 (.call 140 [(.t 9),(.t 11),(.t 12),(.t 14),(.t 15),(.t 16)]),oB 8 (.mov (.t 17))]) (.ret))
def ZxG:FnI:=⟨4,ZCJ,[(8,none)]⟩
def ZC5:C:=.seq (.ops [oB 12 (.mov (iN 0))]) (.seq (.ops [oB 14 (.mov (.t 0)),oB 15 (.mov (.t 1)),oB 16 (.mov (.t 2)),oB 17 (.mov (.t 4)),oB 18 (.mov (.t 5)),oB 19 (.call 141 [(.t 14),(.t 15),(.t 16),(.t 17),(.t 18)]),oB 13 (.mov (.t 19)),oB 20 (.extract (.t 13) 0),oB 21 (.extract (.t 13) 1),oB 1 (.mov (.t 20)),oB 2 (.mov (.t 21))]) (.seq (.ops [oB 23 (.mov (.t 0)),oB 24 (.mov (.t 2)),oB 25 (.mov (.t 3)),oB 26 (.mov (.t 4)),oB 27 (.mov (.t 5)),oB 28 (.call 141 [(.t 23),(.t 24),(.t 25),(.t 26),(.t 27)]),oB 22 (.mov (.t 28)),oB 29 (.extract (.t 22) 0),oB 30 (.extract (.t 22) 1),oB 2 (.mov (.t 29)),oB 3 (.mov (.t 30))]) (.seq (.ops [oB 32 (.mov (.t 0)),oB 33 (.mov (.t 1)),oB 34 (.mov (.t 2)),oB 35 (.mov (.t 4)),oB 36 (.mov (.t 5)),oB 37 (.call 141 [(.t 32),(.t 33),(.t 34),(.t 35),(.t 36)]),oB 31 (.mov (.t 37)),oB 38 (.extract (.t 31) 0),oB 39 (.extract (.t 31) 1),oB 1 (.mov (.t 38)),oB 2 (.mov (.t 39))]) (.seq (.ops [oB 40 (.mov (.t 2)),oB 12 (.mov (.t 40))]) (.ret)))))
def Zyc:FnI:=⟨6,ZC5,[(12,none)]⟩
def ZCo:C:=.seq (.ops [oB 10 (.mov (iN 0)),oB 11 (.mov (iN 0))]) (.seq (.seq (.draw [oB 12 (.mov (.t 4)),oM 13 (.mov (.t 0)) [0],oM 14 (.mov (.t 2)) [0,1],oM 15 (.iaddr 1 (.t 13) (.t 14)) [0],oM 16 (.load 1 false (.t 15)) [0],oM 17 (.mov (.t 0)) [0,1,2,3,4],oM 18 (.mov (.t 1)) [0,1,2,3,4,5],oM 19 (.iaddr 1 (.t 17) (.t 18)) [0,1,2,3,4],oM 20 (.load 1 false (.t 19)) [0,1,2,3,4],oB 21 (.callv (.t 12) [(.t 16),(.t 20)]),oB 22 (.bin .lss (.t 21) (iN 0))]) (.cond (.t 22) (.seq (.ops [oB 23 (.mov (.t 3)),oB 24 (.nilck (.t 23)),oB 25 (.load 1 false (.t 24)),oB 26 (.bin .add (.t 25) (iN 1)),oB 27 (.nilck (.t 23)),oA (.store 1 (.t 27) (.t 26))]) (.seq (.ops [oB 28 (.mov (.t 2)),oB 29 (.mov (.t 1)),oB 10 (.mov (.t 28)),oB 11 (.mov (.t 29))]) (.ret))) (.skip))) (.seq (.ops [oB 30 (.mov (.t 1)),oB 31 (.mov (.t 2)),oB 10 (.mov (.t 30)),oB 11 (.mov (.t 31))]) (.ret)))
def ZxX:FnI:=⟨5,ZCo,[(10,none),(11,none)]⟩
def code:Nat→Option FnI
 | 11=>some ZBM
 | 14=>some ZBV
 | 15=>some ZBG
 | 19=>some ZAI
 | 20=>some ZBd
 | 22=>some ZC8
 | 23=>some ZBS
 | 24=>some ZCd
 | 28=>some ZCA
 | 31=>some ZCK
 | 32=>some ZCB
 | 33=>some ZBK
 | 35=>some ZBv
 | 39=>some ZAG
 | 40=>some ZAJ
 | 41=>some ZBl
 | 44=>some ZBD
 | 45=>some ZBm
 | 46=>some ZBn
 | 47=>some ZAP
 | 48=>some ZBp
 | 54=>some ZBb
 | 55=>some ZA4
 | 56=>some ZC4
 | 57=>some ZDA
 | 64=>some ZA8
 | 65=>some ZBX
 | 66=>some ZBi
 | 67=>some ZA7
 | 68=>some ZAN
 | 69=>some ZBJ
 | 73=>some ZAW
 | 74=>some ZBq
 | 75=>some ZCF
 | 76=>some ZA9
 | 77=>some ZAL
 | 78=>some ZBQ
 | 82=>some ZBH
 | 83=>some ZAX
 | 84=>some ZBw
 | 85=>some ZAQ
 | 86=>some ZBx
 | 87=>some ZBr
 | 88=>some ZBo
 | 89=>some ZBh
 | 90=>some ZBF
 | 91=>some ZBe
 | 92=>some ZAK
 | 93=>some ZzH
 | 94=>some ZDn
 | 97=>some ZBk
 | 98=>some ZBI
 | 99=>some ZAO
 | 100=>some ZyB
 | 101=>some Zxe
 | 102=>some Zxt
 | 103=>some ZxD
 | 105=>some ZAE
 | 109=>some ZxB
 | 110=>some Zxm
 | 111=>some ZwG
 | 112=>some ZyQ
 | 113=>some Zy1
 | 114=>some Zxu
 | 115=>some ZyC
 | 116=>some ZvM
 | 117=>some ZwC
 | 118=>some Zx6
 | 119=>some ZAy
 | 120=>some ZAv
 | 121=>some Zw1
 | 122=>some ZAl
 | 123=>some Zyf
 | 124=>some Zy0
 | 125=>some ZxM
 | 126=>some Zx4
 | 127=>some Zx9
 | 128=>some Zx7
 | 129=>some Zyq
 | 130=>some ZxY
 | 131=>some ZyL
 | 132=>some ZyR
 | 133=>some Zxr
 | 134=>some ZAk
 | 135=>some Zxf
 | 136=>some Zx1
 | 137=>some ZwT
 | 138=>some Zxq
 | 139=>some ZxG
 | 140=>some Zyc
 | 141=>some ZxX
 | _=>none
def mode:Nat→Nat
 | 15=>1
 | 66=>2
 | 67=>2
 | 68=>2
 | 73=>1
 | 74=>1
 | 117=>2
 | 124=>2
 | 126=>2
 | 127=>2
 | 128=>2
 | 129=>2
 | 130=>2
 | 131=>2
 | 132=>2
 | 133=>2
 | 136=>2
 | 138=>2
 | 139=>2
 | 140=>2
 | 141=>2
 | _=>0
def ctx:Ctx:=⟨code,mode⟩
end Go.Proofs.YtnmbdjkbaihicaaDoor
namespace Go.Proofs.YtnmbdjkbaihicaaDoorE
open Go
set_option linter.unusedVariables false
set_option linter.unusedSimpArgs false
mutual
def Zbe (A1 A0 AL:Nat→Prop) (w:World):D→Value→Prop
 | .bool b,u=>u = .bool b
 | .int k n,u=>u = .int k n
 | .str s,u=>u = .string s
 | .list own xs,u=>∃a len cap,u = .slice a len cap∧len=xs.length∧len≤cap∧(∀x∈xs,x.esc=true) ∧
   (xs≠[]→∃b off sz,a=some ⟨b,off,none⟩∧(match own with | true=>A1 b | false=>A0 b)∧b<w.heap.size∧Zfn A1 A0 AL w b sz off xs)
 | .agg cs,u=>∃us:List Value,u = .agg us.toArray∧ZaZ A1 A0 AL w cs us
 | .tup cs,u=>∃us:List Value,u = .tuple us.toArray∧ZaZ A1 A0 AL w cs us
 | .fn f caps,u=>∃us:List Value,u = .func (.func f) #[] us.toArray∧ZaZ A1 AL AL w caps us
 | .nilfn,u=>u = .nilFunc
 | .rptr cs,u=>∃b off,u = .pointer (some ⟨b,off,none⟩)∧A0 b∧b<w.heap.size∧ZcL A1 A0 AL w b off cs
 | .nilp,u=>u = .pointer none
 | .iface t v,u=>∃u',u = .iface t u'∧Zbe A1 A0 AL w v u'
 | .nilI,u=>u = .nilIface
def ZaZ (A1 A0 AL:Nat→Prop) (w:World):List D→List Value→Prop
 | [],us=>us=[]
 | x :: xs,us=>∃u us',us=u :: us'∧Zbe A1 A0 AL w x u∧ZaZ A1 A0 AL w xs us'
def ZcL (A1 A0 AL:Nat→Prop) (w:World) (b off:Nat):List D→Prop
 | []=>True
 | x :: xs=>(∃u,w.cell? ⟨b,off,none⟩=some u∧Zbe A1 A0 AL w x u)∧ZcL A1 A0 AL w b (off+1) xs
def Zfn (A1 A0 AL:Nat→Prop) (w:World) (b sz off:Nat):List D→Prop
 | []=>True
 | x :: xs=>(∃u,Zbe A1 A0 AL w x u∧u.cells.size=sz∧∀k v,u.cells[k]? = some v→w.cell? ⟨b,off+k,none⟩=some v)∧Zfn A1 A0 AL w b sz (off+sz) xs
end
section
variable {A1 A1' A0 A0' AL AL':Nat→Prop} {w w':World}
theorem ZqQ {b:Nat} (h:w'.heap[b]? = w.heap[b]?) (off:Nat):w'.cell? ⟨b,off,none⟩=w.cell? ⟨b,off,none⟩:=by
 unfold World.cell?;simp only[h]
mutual
theorem Zbe.change (A1 A1' A0 A0':Nat→Prop) (h1:∀b,b<w.heap.size→A1 b→A1' b) (h0:∀b,b<w.heap.size→A0 b→A0' b) (hL:∀b,b<w.heap.size→AL b→AL' b)
  (hw:∀b,b<w.heap.size→AL b→w'.heap[b]? = w.heap[b]?) (hs:w.heap.size≤w'.heap.size) (s0:∀b,A0 b→AL b) (s1:∀b,A1 b→AL b) :
  ∀(x:D) (u:Value),Zbe A1 A0 AL w x u→Zbe A1' A0' AL' w' x u
 | .bool b,u,h=>h
 | .int k n,u,h=>h
 | .str s,u,h=>h
 | .list own xs,u,h=>by
  obtain⟨a,len,cap,e1,e2,e3,e4,e5⟩:=h
  refine⟨a,len,cap,e1,e2,e3,e4,fun hne=>?_⟩
  obtain⟨b,off,sz,f1,f2,f3,f4⟩:=e5 hne
  have hb:AL b:=by
   cases own
   ·exact s0 _ f2
   ·exact s1 _ f2
  refine⟨b,off,sz,f1,?_,by omega,Zfn.change A1 A1' A0 A0' h1 h0 hL hw hs s0 s1 b sz off xs (hw b f3 hb) f4⟩
  cases own
  ·exact h0 _ f3 f2
  ·exact h1 _ f3 f2
 | .agg cs,u,h=>by
  obtain⟨us,e1,e2⟩:=h
  exact⟨us,e1,ZaZ.change A1 A1' A0 A0' h1 h0 hL hw hs s0 s1 cs us e2⟩
 | .tup cs,u,h=>by
  obtain⟨us,e1,e2⟩:=h
  exact⟨us,e1,ZaZ.change A1 A1' A0 A0' h1 h0 hL hw hs s0 s1 cs us e2⟩
 | .fn f caps,u,h=>by
  obtain⟨us,e1,e2⟩:=h
  exact⟨us,e1,ZaZ.change A1 A1' AL AL' h1 hL hL hw hs (fun _ h=>h) s1 caps us e2⟩
 | .nilfn,u,h=>h
 | .rptr cs,u,h=>by
  obtain⟨b,off,e1,e2,e3,e4⟩:=h
  exact⟨b,off,e1,h0 _ e3 e2,by omega,ZcL.change A1 A1' A0 A0' h1 h0 hL hw hs s0 s1 b off cs (hw b e3 (s0 _ e2)) e4⟩
 | .nilp,u,h=>h
 | .iface t v,u,h=>by
  obtain⟨u',e1,e2⟩:=h
  exact⟨u',e1,Zbe.change A1 A1' A0 A0' h1 h0 hL hw hs s0 s1 v u' e2⟩
 | .nilI,u,h=>h
theorem ZaZ.change (A1 A1' A0 A0':Nat→Prop) (h1:∀b,b<w.heap.size→A1 b→A1' b) (h0:∀b,b<w.heap.size→A0 b→A0' b) (hL:∀b,b<w.heap.size→AL b→AL' b)
  (hw:∀b,b<w.heap.size→AL b→w'.heap[b]? = w.heap[b]?) (hs:w.heap.size≤w'.heap.size) (s0:∀b,A0 b→AL b) (s1:∀b,A1 b→AL b) :
  ∀(xs:List D) (us:List Value),ZaZ A1 A0 AL w xs us→ZaZ A1' A0' AL' w' xs us
 | [],us,h=>h
 | x :: xs,us,h=>by
  obtain⟨u,us',e1,e2,e3⟩:=h
  exact⟨u,us',e1,Zbe.change A1 A1' A0 A0' h1 h0 hL hw hs s0 s1 x u e2,ZaZ.change A1 A1' A0 A0' h1 h0 hL hw hs s0 s1 xs us' e3⟩
theorem ZcL.change (A1 A1' A0 A0':Nat→Prop) (h1:∀b,b<w.heap.size→A1 b→A1' b) (h0:∀b,b<w.heap.size→A0 b→A0' b) (hL:∀b,b<w.heap.size→AL b→AL' b)
  (hw:∀b,b<w.heap.size→AL b→w'.heap[b]? = w.heap[b]?) (hs:w.heap.size≤w'.heap.size) (s0:∀b,A0 b→AL b) (s1:∀b,A1 b→AL b) (b off:Nat) :
  ∀(xs:List D),w'.heap[b]? = w.heap[b]? → ZcL A1 A0 AL w b off xs→ZcL A1' A0' AL' w' b off xs
 | [],_,h=>trivial
 | x :: xs,hb,h=>by
  obtain⟨⟨u,e1,e2⟩,e3⟩:=h
  exact⟨⟨u,by rw[ZqQ hb];exact e1,Zbe.change A1 A1' A0 A0' h1 h0 hL hw hs s0 s1 x u e2⟩,ZcL.change A1 A1' A0 A0' h1 h0 hL hw hs s0 s1 b (off+1) xs hb e3⟩
theorem Zfn.change (A1 A1' A0 A0':Nat→Prop) (h1:∀b,b<w.heap.size→A1 b→A1' b) (h0:∀b,b<w.heap.size→A0 b→A0' b) (hL:∀b,b<w.heap.size→AL b→AL' b)
  (hw:∀b,b<w.heap.size→AL b→w'.heap[b]? = w.heap[b]?) (hs:w.heap.size≤w'.heap.size) (s0:∀b,A0 b→AL b) (s1:∀b,A1 b→AL b) (b sz off:Nat) :
  ∀(xs:List D),w'.heap[b]? = w.heap[b]? → Zfn A1 A0 AL w b sz off xs→Zfn A1' A0' AL' w' b sz off xs
 | [],_,h=>trivial
 | x :: xs,hb,h=>by
  obtain⟨⟨u,e1,e2,e3⟩,e4⟩:=h
  exact⟨⟨u,Zbe.change A1 A1' A0 A0' h1 h0 hL hw hs s0 s1 x u e1,e2,fun k v hk=>by rw[ZqQ hb];exact e3 k v hk⟩,
   Zfn.change A1 A1' A0 A0' h1 h0 hL hw hs s0 s1 b sz (off+sz) xs hb e4⟩
end
mutual
theorem Zbe.lift (h1:∀b,A1 b→A1' b):∀(x:D) (u:Value),x.esc=true→Zbe A1 A0 AL w x u→Zbe A1' A0' AL' w x u
 | .bool b,u,_,h=>h
 | .int k n,u,_,h=>h
 | .str s,u,_,h=>h
 | .list own xs,u,he,h=>by
  obtain⟨a,len,cap,e1,e2,e3,e4,e5⟩:=h
  simp only[D.esc] at he
  subst he
  refine⟨a,len,cap,e1,e2,e3,e4,fun hne=>?_⟩
  obtain⟨b,off,sz,f1,f2,f3,f4⟩:=e5 hne
  exact⟨b,off,sz,f1,h1 _ f2,f3,Zfn.lift h1 b sz off xs e4 f4⟩
 | .agg cs,u,he,h=>by
  obtain⟨us,e1,e2⟩:=h
  exact⟨us,e1,ZaZ.lift h1 cs us he e2⟩
 | .tup cs,u,he,h=>by simp[D.esc] at he
 | .fn f caps,u,he,h=>by
  obtain⟨us,e1,e2⟩:=h
  simp only[D.esc,List.isEmpty_iff] at he
  subst he
  exact⟨us,e1,e2⟩
 | .nilfn,u,_,h=>h
 | .rptr cs,u,he,h=>by simp[D.esc] at he
 | .nilp,u,_,h=>h
 | .iface t v,u,he,h=>by
  obtain⟨u',e1,e2⟩:=h
  exact⟨u',e1,Zbe.lift h1 v u' he e2⟩
 | .nilI,u,_,h=>h
theorem ZaZ.lift (h1:∀b,A1 b→A1' b):∀(xs:List D) (us:List Value),D.escs xs=true→ZaZ A1 A0 AL w xs us→ZaZ A1' A0' AL' w xs us
 | [],us,_,h=>h
 | x :: xs,us,he,h=>by
  obtain⟨u,us',e1,e2,e3⟩:=h
  simp only[D.escs,Bool.and_eq_true] at he
  exact⟨u,us',e1,Zbe.lift h1 x u he.1 e2,ZaZ.lift h1 xs us' he.2.2 e3⟩
theorem Zfn.lift (h1:∀b,A1 b→A1' b) (b sz off:Nat):∀(xs:List D),(∀x∈xs,x.esc=true)→Zfn A1 A0 AL w b sz off xs→Zfn A1' A0' AL' w b sz off xs
 | [],_,h=>trivial
 | x :: xs,he,h=>by
  obtain⟨⟨u,e1,e2,e3⟩,e4⟩:=h
  exact⟨⟨u,Zbe.lift h1 x u (he x (by simp)) e1,e2,e3⟩,Zfn.lift h1 b sz (off+sz) xs (fun y hy=>he y (by simp[hy])) e4⟩
end
end
theorem ZaZ.liftT {A1 A1' A0 A0' AL AL':Nat→Prop}{w:World} (h1:∀b,A1 b→A1' b):∀(xs:List D) (us:List Value),ZuF xs=true→ZaZ A1 A0 AL w xs us→ZaZ A1' A0' AL' w xs us
 | [],us,_,h=>h
 | x :: xs,us,he,h=>by
  obtain⟨u,us',e1,e2,e3⟩:=h
  simp only[ZuF,Bool.and_eq_true] at he
  exact⟨u,us',e1,Zbe.lift h1 x u he.1 e2,ZaZ.liftT h1 xs us' he.2 e3⟩
theorem Z0 {α:Type}:∀(l:List α) (n:Nat),nth l n=l[n]?
 | [],n=>by simp[nth]
 | a :: l,0=>by simp[nth]
 | a :: l,n+1=>by simp[nth,Z0 l n]
theorem ZbY {α:Type}:∀(l:List α) (n:Nat) (v:α),Zfu l n v=l.set n v
 | [],n,v=>by simp[Zfu]
 | a :: l,0,v=>by simp[Zfu]
 | a :: l,n+1,v=>by simp[Zfu,ZbY l n v]
theorem ZoB {α:Type} (l:List α) (i:Int) (x:α) (h:ZE l i=some x):0≤i∧i<l.length∧l[i.toNat]? = some x:=by
 unfold ZE at h
 by_cases h0:0≤i
 ·simp only[h0,decide_true,cond_true,Z0] at h
  have:=(List.getElem?_eq_some_iff.1 h).1
  exact⟨h0,by omega,h⟩
 ·simp[h0] at h
section
variable {A1 A0 AL:Nat→Prop} {w:World}
theorem ZiV {b sz:Nat}:∀(xs:List D) (off j:Nat) (x:D),Zfn A1 A0 AL w b sz off xs→xs[j]? = some x →
  ∃u,Zbe A1 A0 AL w x u∧u.cells.size=sz∧∀k v,u.cells[k]? = some v→w.cell? ⟨b,off+j*sz+k,none⟩=some v
 | [],off,j,x,_,hj=>by simp at hj
 | y :: xs,off,0,x,h,hj=>by
  simp at hj;subst hj
  obtain⟨⟨u,e1,e2,e3⟩,_⟩:=h
  exact⟨u,e1,e2,by simpa using e3⟩
 | y :: xs,off,j+1,x,h,hj=>by
  obtain⟨u,e1,e2,e3⟩:=ZiV xs (off+sz) j x h.2 (by simpa using hj)
  exact⟨u,e1,e2,fun k v hk=>by rw[← e3 k v hk];congr 2;rw[Nat.succ_mul];omega⟩
theorem Zji {b sz:Nat}:∀(xs:List D) (off:Nat),(∀(j:Nat) x,xs[j]? = some x→∃u,Zbe A1 A0 AL w x u∧u.cells.size=sz∧∀k v,u.cells[k]? = some v→w.cell? ⟨b,off+j*sz+k,none⟩=some v) →
  Zfn A1 A0 AL w b sz off xs
 | [],off,_=>trivial
 | y :: xs,off,h=>by
  refine⟨by simpa using h 0 y (by simp),Zji xs (off+sz) fun j x hj=>?_⟩
  obtain⟨u,e1,e2,e3⟩:=h (j+1) x (by simpa using hj)
  exact⟨u,e1,e2,fun k v hk=>by rw[← e3 k v hk];congr 2;rw[Nat.succ_mul];omega⟩
theorem Zks {b:Nat}:∀(xs:List D) (off j:Nat) (x:D),ZcL A1 A0 AL w b off xs→xs[j]? = some x→∃u,w.cell? ⟨b,off+j,none⟩=some u∧Zbe A1 A0 AL w x u
 | [],off,j,x,_,hj=>by simp at hj
 | y :: xs,off,0,x,h,hj=>by simp at hj;subst hj;simpa using h.1
 | y :: xs,off,j+1,x,h,hj=>by
  have:=Zks xs (off+1) j x h.2 (by simpa using hj)
  rwa [show off+1+j=off+(j+1) from by omega] at this
theorem Zhg {b:Nat}:∀(xs:List D) (off:Nat),(∀(j:Nat) x,xs[j]? = some x→∃u,w.cell? ⟨b,off+j,none⟩=some u∧Zbe A1 A0 AL w x u)→ZcL A1 A0 AL w b off xs
 | [],off,_=>trivial
 | y :: xs,off,h=>⟨by simpa using h 0 y (by simp),Zhg xs (off+1) fun j x hj=>by
   have:=h (j+1) x (by simpa using hj)
   rwa [show off+(j+1)=off+1+j from by omega] at this⟩
theorem Zqs {b:Nat} (xs:List D) (off n:Nat) (h:ZcL A1 A0 AL w b off xs):ZcL A1 A0 AL w b (off+n) (xs.drop n):=
 Zhg _ _ fun j x hj=>by
  have:=Zks xs off (n+j) x h (by simpa using hj)
  rwa [← Nat.add_assoc] at this
theorem ZgT:∀(xs:List D) (us:List Value) (j:Nat) (x:D),ZaZ A1 A0 AL w xs us→xs[j]? = some x→∃u,us[j]? = some u∧Zbe A1 A0 AL w x u
 | [],us,j,x,_,hj=>by simp at hj
 | y :: xs,us,0,x,h,hj=>by
  obtain⟨u,us',rfl,e1,e2⟩:=h
  simp at hj;subst hj
  exact⟨u,by simp,e1⟩
 | y :: xs,us,j+1,x,h,hj=>by
  obtain⟨u,us',rfl,e1,e2⟩:=h
  simpa using ZgT xs us' j x e2 (by simpa using hj)
theorem Zqt:∀(xs:List D) (us:List Value),ZaZ A1 A0 AL w xs us→us.length=xs.length
 | [],us,h=>by simp only[ZaZ] at h;subst h;rfl
 | y :: xs,us,h=>by
  obtain⟨u,us',rfl,e1,e2⟩:=h
  simp[Zqt xs us' e2]
end
structure RP where
 B1:Nat→Prop
 B0:Nat→Prop
 M:Nat→Option (Option Nat)
 H:Zo
def RP.live (R:RP) (c:Nat):Prop:=∃i,Zab R.H i=true∧R.M i=some (some c)
def RP.AL (R:RP) (c:Nat):Prop:=¬R.live c
def RP.A0 (R:RP) (c:Nat):Prop:=¬R.live c∧¬R.B0 c
def RP.A1 (R:RP) (c:Nat):Prop:=¬R.live c∧¬R.B1 c
abbrev RP.den (R:RP) (w:World) (x:D) (u:Value):Prop:=Zbe R.A1 R.A0 R.AL w x u
def ZrT (w:World) (m:Option Nat) (xs:List D) (sz o len:Nat) (u:Value):Prop:=
 o+len≤xs.length∧∃a cap,u = .slice a len cap∧len≤cap ∧
  ((cap=0∧o=xs.length)∨∃c cs el fr,m=some c∧a=some ⟨c,o*sz,none⟩∧w.heap[c]? = some (.cells cs el fr)∧cs.size=(o+cap)*sz)
mutual
def Za9 (R:RP) (w:World):V→Value→Prop
 | .d x,u=>R.den w x u
 | .bad,_=>True
 | .ptr b o,u=>∃c,R.M b=some (some c)∧u = .pointer (some ⟨c,o,none⟩)
 | .eptr b sz i k,u=>∃c,R.M b=some (some c)∧u = .pointer (some ⟨c,i*sz+k,none⟩)
 | .sl b sz,u=>(∃a n c,u = .slice a n c)∧∃m,R.M b=some m∧∀xs,nth R.H b=some (.arr sz xs)→ZrT w m xs sz 0 xs.length u
 | .slp b sz o len,u=>(∃a n c,u = .slice a n c)∧∃m,R.M b=some m∧∀xs,nth R.H b=some (.arr sz xs)→ZrT w m xs sz o len u
 | .nilsl _,u=>∃a,u = .slice a 0 0
 | .agg cs,u=>∃us:List Value,u = .agg us.toArray∧ZaJ R w cs us
 | .tup cs,u=>∃us:List Value,u = .tuple us.toArray∧ZaJ R w cs us
 | .fn f caps,u=>∃us:List Value,u = .func (.func f) #[] us.toArray∧ZaJ R w caps us
 | .mp b,u=>(∃a,u = .map a)∧∃m,R.M b=some m∧∀es,nth R.H b=some (.mp es)→∃c,m=some c∧u = .map (some c)
def ZaJ (R:RP) (w:World):List V→List Value→Prop
 | [],us=>us=[]
 | x :: xs,us=>∃u us',us=u :: us'∧Za9 R w x u∧ZaJ R w xs us'
end
end Go.Proofs.YtnmbdjkbaihicaaDoorE
namespace Go.Proofs.YtnmbdjkbaihicaaDoorE
open Go
set_option linter.unusedVariables false
set_option linter.unusedSimpArgs false
def ZsQ (fr:Nat×Nat):Prop:=fr.2≤fr.1
theorem ZsQ.not {w:World}{c:Nat}{cs:Array Value}{el:TypeId}{fr:Nat×Nat} (h:ZsQ fr) (hc:w.heap[c]? = some (.cells cs el fr)) (o:Nat):w.frozen? ⟨c,o,none⟩=false:=by
 unfold ZsQ at h
 simp only[World.frozen?,hc]
 by_cases h1:fr.1≤o
 ·by_cases h2:o<fr.2
  ·omega
  ·simp[h2]
 ·simp[h1]
def Zfh:D→Value
 | .bool b=>.bool b
 | .int k n=>.int k n
 | _=>undef
def ZiN:D→Value
 | .agg cs=>.agg (cs.map Zfh).toArray
 | x=>Zfh x
def ZlL:D→Bool
 | .agg cs=>cs.all Zhr
 | x=>Zhr x
structure ZEI (w:World) (c:Nat) (es:List (D×D)):Prop where
 mk ::
 ex:∃mes clock,w.heap[c]? = some (.map mes clock)∧mes.toList.map (fun e=>(e.key,e.val))=es.map (fun q=>(ZiN q.1,Zfh q.2))
 fl:∀q∈es,ZlL q.1=true∧Zhr q.2=true
def Zhe (R:RP) (w:World) (m:Option Nat):Blk→Prop
 | .dead=>True
 | .cells vs=>∃c cs el fr,m=some c∧w.heap[c]? = some (.cells cs el fr)∧ZsQ fr∧vs.length≤cs.size∧∀(k:Nat) v,vs[k]? = some v→∃u,cs[k]? = some u∧Za9 R w v u
 | .arr sz xs=>0<sz∧(∀x∈xs,x.esc=true)∧((m=none∧xs=[])∨∃c cs el,m=some c∧w.heap[c]? = some (.cells cs el (0,0))∧xs.length*sz≤cs.size ∧
   ∀(j:Nat) x,xs[j]? = some x→∃u,R.den w x u∧u.cells.size=sz∧∀(k:Nat) v,u.cells[k]? = some v→cs[j*sz+k]? = some v)
 | .mp es=>∃c,m=some c∧ZEI w c es
structure RP.OK (R:RP) (w:World):Prop where
 b01:∀c,R.B0 c→R.B1 c
 al:∀(i:Nat) blk,R.H[i]? = some blk→blk ≠ .dead→∃m,R.M i=some m
 inj:∀i j c,Zab R.H i=true→Zab R.H j=true→R.M i=some (some c)→R.M j=some (some c)→i=j
 lt:∀i c,R.M i=some (some c)→c<w.heap.size
 blk:∀(i:Nat) m blk,R.H[i]? = some blk→R.M i=some m→Zhe R w m blk
 nb:∀i c,Zab R.H i=true→R.M i=some (some c)→¬R.B1 c
 bl:∀c,R.B1 c→c<w.heap.size
theorem Zx {H:Zo}{i:Nat}:Zab H i=true↔∃blk,H[i]? = some blk∧blk ≠ .dead:=by
 unfold Zab
 rw[Z0]
 cases h:H[i]? with
 | none=>simp
 | some blk=>cases blk<;>simp
def Blk.like:Blk→Blk→Prop
 | .cells _,.cells _=>True
 | .arr sz xs,.arr sz' ys=>sz=sz'∧ys.length=xs.length
 | .mp _,.mp _=>True
 | _,_=>False
structure Ext (R:RP) (w:World) (R':RP) (w':World):Prop where
 m:∀i x,R.M i=some x→R'.M i=some x
 h:∀(i:Nat) x blk,R.M i=some x→R'.H[i]? = some blk→blk ≠ .dead→∃old,R.H[i]? = some old∧old.like blk
 b1:R'.B1=R.B1
 b0:R'.B0=R.B0
 same:∀(b:Nat),b<w.heap.size→¬R.live b→w'.heap[b]? = w.heap[b]?
 row:∀(b:Nat) cs el fr,w.heap[b]? = some (Obj.cells cs el fr)→∃cs' el' fr',w'.heap[b]? = some (Obj.cells cs' el' fr')∧cs'.size=cs.size
 grow:w.heap.size≤w'.heap.size
 liv:∀c,c<w.heap.size→R'.live c→R.live c
 os:w'.os=w.os
 tape:w'.tape=w.tape
 output:w'.output=w.output
theorem Blk.like_refl {b:Blk} (h:b ≠ .dead):b.like b:=by cases b<;>simp_all [Blk.like]
theorem Ext.refl (R:RP) (w:World):Ext R w R w:=
 ⟨fun _ _ h=>h,fun i x blk _ h hd=>⟨blk,h,Blk.like_refl hd⟩,rfl,rfl,fun _ _ _=>rfl,fun _ cs el fr h=>⟨cs,el,fr,h,rfl⟩,Nat.le_refl _,fun _ _ h=>h,rfl,rfl,rfl⟩
theorem Blk.like_trans {a b c:Blk} (h:a.like b) (k:b.like c):a.like c:=by
 cases a<;>cases b<;>cases c<;>simp_all [Blk.like]
theorem Blk.like_ne {a b:Blk} (h:a.like b):a ≠ .dead:=by cases a<;>cases b<;>simp_all [Blk.like]
theorem Ext.trans {R R1 R2:RP}{w w1 w2:World} (h:Ext R w R1 w1) (k:Ext R1 w1 R2 w2):Ext R w R2 w2 where
 m:=fun i x hx=>k.m i x (h.m i x hx)
 h:=fun i x blk hx hb hd=>by
  obtain⟨o1,e1,e2⟩:=k.h i x blk (h.m i x hx) hb hd
  obtain⟨o,f1,f2⟩:=h.h i x o1 hx e1 (Blk.like_ne e2)
  exact⟨o,f1,Blk.like_trans f2 e2⟩
 b1:=k.b1.trans h.b1
 b0:=k.b0.trans h.b0
 same:=fun b hb hl=>(k.same b (Nat.lt_of_lt_of_le hb h.grow) (fun hl'=>hl (h.liv b hb hl'))).trans (h.same b hb hl)
 row:=fun b cs el fr hb=>by
  obtain⟨cs1,el1,fr1,e1,e2⟩:=h.row b cs el fr hb
  obtain⟨cs2,el2,fr2,f1,f2⟩:=k.row b cs1 el1 fr1 e1
  exact⟨cs2,el2,fr2,f1,f2.trans e2⟩
 grow:=Nat.le_trans h.grow k.grow
 liv:=fun c hc hl=>h.liv c hc (k.liv c (Nat.lt_of_lt_of_le hc h.grow) hl)
 os:=k.os.trans h.os
 tape:=k.tape.trans h.tape
 output:=k.output.trans h.output
section
variable {R R':RP} {w w':World}
theorem Ext.den (e:Ext R w R' w') (hb:∀c,R.B0 c→R.B1 c) {x:D}{u:Value} (h:R.den w x u):R'.den w' x u:=by
 refine Zbe.change _ _ _ _ ?_ ?_ ?_ ?_ e.grow ?_ ?_ x u h
 ·exact fun b hb' ⟨h1,h2⟩=>⟨fun hl=>h1 (e.liv b hb' hl),by rw[e.b1];exact h2⟩
 ·exact fun b hb' ⟨h1,h2⟩=>⟨fun hl=>h1 (e.liv b hb' hl),by rw[e.b0];exact h2⟩
 ·exact fun b hb' h1 hl=>h1 (e.liv b hb' hl)
 ·exact fun b hb' hl=>e.same b hb' hl
 ·exact fun b h=>h.1
 ·exact fun b h=>h.1
theorem Ext.slAt (e:Ext R w R' w') {m:Option Nat}{xs ys:List D}{sz o len:Nat}{u:Value} (hl:ys.length=xs.length) (h:ZrT w m xs sz o len u):ZrT w' m ys sz o len u:=by
 obtain⟨h1,a,cap,h2,h3,h4⟩:=h
 refine⟨by omega,a,cap,h2,h3,?_⟩
 rcases h4 with⟨h4,h5⟩ | ⟨c,cs,el,fr,h4,h5,h6,h7⟩
 ·exact .inl ⟨h4,by omega⟩
 ·obtain⟨cs',el',fr',f1,f2⟩:=e.row c cs el fr h6
  exact .inr ⟨c,cs',el',fr',h4,h5,f1,by omega⟩
mutual
theorem Ext.denV (e:Ext R w R' w') (hb:∀c,R.B0 c→R.B1 c):∀(v:V) (u:Value),Za9 R w v u→Za9 R' w' v u
 | .d x,u,h=>e.den hb h
 | .bad,_,h=>h
 | .ptr b o,u,h=>by
  obtain⟨c,h1,h2⟩:=h
  exact⟨c,e.m b _ h1,h2⟩
 | .eptr b sz i k,u,h=>by
  obtain⟨c,h1,h2⟩:=h
  exact⟨c,e.m b _ h1,h2⟩
 | .sl b sz,u,h=>by
  obtain⟨h0,m,h1,h2⟩:=h
  refine⟨h0,m,e.m b m h1,fun xs hc=>?_⟩
  rw[Z0] at hc
  obtain⟨old,f1,f2⟩:=e.h b m _ h1 hc (by simp)
  cases old<;>simp[Blk.like] at f2
  rename_i sz0 xs0
  obtain⟨rfl,f2⟩:=f2
  have:=e.slAt f2 (h2 xs0 (by rw[Z0];exact f1))
  rw[f2]
  exact this
 | .slp b sz o len,u,h=>by
  obtain⟨h0,m,h1,h2⟩:=h
  refine⟨h0,m,e.m b m h1,fun xs hc=>?_⟩
  rw[Z0] at hc
  obtain⟨old,f1,f2⟩:=e.h b m _ h1 hc (by simp)
  cases old<;>simp[Blk.like] at f2
  rename_i sz0 xs0
  obtain⟨rfl,f2⟩:=f2
  exact e.slAt f2 (h2 xs0 (by rw[Z0];exact f1))
 | .nilsl sz,u,h=>h
 | .agg cs,u,h=>by
  obtain⟨us,h1,h2⟩:=h
  exact⟨us,h1,Ext.denVs e hb cs us h2⟩
 | .tup cs,u,h=>by
  obtain⟨us,h1,h2⟩:=h
  exact⟨us,h1,Ext.denVs e hb cs us h2⟩
 | .fn f caps,u,h=>by
  obtain⟨us,h1,h2⟩:=h
  exact⟨us,h1,Ext.denVs e hb caps us h2⟩
 | .mp b,u,h=>by
  obtain⟨h0,m,h1,h2⟩:=h
  refine⟨h0,m,e.m b m h1,fun es hc=>?_⟩
  rw[Z0] at hc
  obtain⟨old,f1,f2⟩:=e.h b m _ h1 hc (by simp)
  cases old<;>simp[Blk.like] at f2
  rename_i es0
  exact h2 es0 (by rw[Z0];exact f1)
theorem Ext.denVs (e:Ext R w R' w') (hb:∀c,R.B0 c→R.B1 c):∀(vs:List V) (us:List Value),ZaJ R w vs us→ZaJ R' w' vs us
 | [],us,h=>h
 | v :: vs,us,h=>by
  obtain⟨u,us',h1,h2,h3⟩:=h
  exact⟨u,us',h1,Ext.denV e hb v u h2,Ext.denVs e hb vs us' h3⟩
end
theorem Ext.blkOK (e:Ext R w R' w') (hb:∀c,R.B0 c→R.B1 c) {m:Option Nat}{blk:Blk} (hs:∀(c:Nat),m=some c→w'.heap[c]? = w.heap[c]?) (h:Zhe R w m blk):Zhe R' w' m blk:=by
 cases blk with
 | dead=>trivial
 | cells vs=>
  obtain⟨c,cs,el,fr,h1,h2,h3,h4,h5⟩:=h
  refine⟨c,cs,el,fr,h1,by rw[hs c h1];exact h2,h3,h4,fun k v hk=>?_⟩
  obtain⟨u,f1,f2⟩:=h5 k v hk
  exact⟨u,f1,e.denV hb v u f2⟩
 | arr sz xs=>
  obtain⟨h0,h1,h2⟩:=h
  refine⟨h0,h1,?_⟩
  rcases h2 with h2 | ⟨c,cs,el,h3,h4,h5,h6⟩
  ·exact .inl h2
  ·refine .inr ⟨c,cs,el,h3,by rw[hs c h3];exact h4,h5,fun j x hj=>?_⟩
   obtain⟨u,f1,f2,f3⟩:=h6 j x hj
   exact⟨u,e.den hb f1,f2,f3⟩
 | mp es=>
  obtain⟨c,h1,⟨mes,clock,h2,h3⟩,h4⟩:=h
  exact⟨c,h1,⟨mes,clock,by rw[hs c h1];exact h2,h3⟩,h4⟩
end
theorem Ext.draw {R:RP}{w w':World} (hh:w'.heap=w.heap) (ho:w'.os=w.os) (ht:w'.tape=w.tape) (hp:w'.output=w.output):Ext R w R w':=
 ⟨fun _ _ h=>h,fun i x blk _ h hd=>⟨blk,h,Blk.like_refl hd⟩,rfl,rfl,fun _ _ _=>by rw[hh],fun _ cs el fr h=>⟨cs,el,fr,by rw[hh];exact h,rfl⟩,by rw[hh];exact Nat.le_refl _,fun _ _ h=>h,ho,ht,hp⟩
theorem RP.OK.draw {R:RP}{w w':World} (h:R.OK w) (hh:w'.heap=w.heap) (ho:w'.os=w.os) (ht:w'.tape=w.tape) (hp:w'.output=w.output):R.OK w':=
 ⟨h.b01,h.al,h.inj,fun i c hc=>by rw[hh];exact h.lt i c hc,fun i m blk h1 h2=>(Ext.draw (R:=R) hh ho ht hp).blkOK h.b01 (fun c _=>by rw[hh]) (h.blk i m blk h1 h2),h.nb,fun c hc=>by rw[hh];exact h.bl c hc⟩
theorem Ext.new {R:RP}{w:World}{H':Zo}{n:Nat}{blk:Blk}{m:Option Nat} (o:Obj) (hn:R.M n=none) (hH:∀(i:Nat),i≠n→H'[i]? = R.H[i]?) (hb:H'[n]? = some blk)
  (hm:m=none∨m=some w.heap.size) (lt:∀i c,R.M i=some (some c)→c<w.heap.size) (al:∀(i:Nat) blk,R.H[i]? = some blk→blk ≠ .dead→∃m,R.M i=some m) :
  Ext R w { R with M:=fun i=>if i=n then some m else R.M i,H:=H' } (w.alloc o) where
 m:=fun i x hx=>by
  have:i≠n:=fun e=>by rw[e,hn] at hx;cases hx
  simp[this,hx]
 h:=fun i x blk' hx hb' hd=>by
  have:i≠n:=fun e=>by rw[e,hn] at hx;cases hx
  simp only[hH i this] at hb'
  exact⟨blk',hb',Blk.like_refl hd⟩
 b1:=rfl
 b0:=rfl
 same:=fun b hb' _=>Go.RowKit.Below.heap_alloc _ _ _ hb'
 row:=fun b cs el fr hb'=>by
  have hlt:b<w.heap.size:=by
   rcases Nat.lt_or_ge b w.heap.size with h | h
   ·exact h
   ·rw[Array.getElem?_eq_none h] at hb';cases hb'
  exact⟨cs,el,fr,by rw[Go.RowKit.Below.heap_alloc _ _ _ hlt];exact hb',rfl⟩
 grow:=by simp
 liv:=fun c hc ⟨i,h1,h2⟩=>by
  by_cases e:i=n
  ·subst e
   simp only[if_true] at h2
   rcases hm with h | h
   ·rw[h] at h2;cases h2
   ·rw[h] at h2;cases h2;omega
  ·simp only[e,if_false] at h2
   refine⟨i,?_,h2⟩
   rw[Zx] at h1 ⊢
   obtain⟨b',f1,f2⟩:=h1
   exact⟨b',by rw[← hH i e];exact f1,f2⟩
 os:=rfl
 tape:=rfl
 output:=rfl
theorem RP.OK.new {R:RP}{w:World}{H':Zo}{n:Nat}{blk:Blk}{m:Option Nat}{o:Obj} (h:R.OK w) (hn:R.M n=none) (hH:∀(i:Nat),i≠n→H'[i]? = R.H[i]?) (hb:H'[n]? = some blk)
  (hm:m=none∨m=some w.heap.size)
  (hk:Ext R w { R with M:=fun i=>if i=n then some m else R.M i,H:=H' } (w.alloc o)→Zhe { R with M:=fun i=>if i=n then some m else R.M i,H:=H' } (w.alloc o) m blk) :
  RP.OK { R with M:=fun i=>if i=n then some m else R.M i,H:=H' } (w.alloc o):=by
 have e:=Ext.new (R:=R) (w:=w) (H':=H') (n:=n) (blk:=blk) (m:=m) o hn hH hb hm h.lt h.al
 refine⟨h.b01,?_,?_,?_,?_,?_,fun c hc=>by have:=h.bl c hc;simp;omega⟩
 ·intro i blk' hi hd
  by_cases ei:i=n
  ·exact⟨m,by simp[ei]⟩
  ·simp only[hH i ei] at hi
   obtain⟨x,hx⟩:=h.al i blk' hi hd
   exact⟨x,by simp[ei,hx]⟩
 ·intro i j c hi hj h1 h2
  simp only at h1 h2
  by_cases ei:i=n<;>by_cases ej:j=n
  ·rw[ei,ej]
  ·rw[if_pos ei] at h1;rw[if_neg ej] at h2
   have:=h.lt j c h2
   rcases hm with h' | h'<;>rw[h'] at h1<;>cases h1
   omega
  ·rw[if_neg ei] at h1;rw[if_pos ej] at h2
   have:=h.lt i c h1
   rcases hm with h' | h'<;>rw[h'] at h2<;>cases h2
   omega
  ·rw[if_neg ei] at h1;rw[if_neg ej] at h2
   have l1:Zab R.H i=true:=by rw[Zx] at hi ⊢;obtain⟨b',f1,f2⟩:=hi;exact⟨b',by rw[← hH i ei];exact f1,f2⟩
   have l2:Zab R.H j=true:=by rw[Zx] at hj ⊢;obtain⟨b',f1,f2⟩:=hj;exact⟨b',by rw[← hH j ej];exact f1,f2⟩
   exact h.inj i j c l1 l2 h1 h2
 ·intro i c hc
  simp only at hc
  by_cases ei:i=n
  ·rw[if_pos ei] at hc
   rcases hm with h' | h'<;>rw[h'] at hc<;>cases hc
   simp
  ·rw[if_neg ei] at hc
   have:=h.lt i c hc
   simp;omega
 ·intro i x blk' hi hx
  simp only at hi hx
  by_cases ei:i=n
  ·subst ei
   rw[if_pos rfl] at hx
   cases hx
   rw[hb] at hi
   cases hi
   exact hk e
  ·rw[if_neg ei] at hx
   rw[hH i ei] at hi
   refine e.blkOK h.b01 (fun c hc=>?_) (h.blk i x blk' hi hx)
   exact Go.RowKit.Below.heap_alloc _ _ _ (h.lt i c (by rw[hx,hc]))
 ·intro i c hl hc hb1
  simp only at hc hb1
  by_cases ei:i=n
  ·rw[if_pos ei] at hc
   rcases hm with h' | h'<;>rw[h'] at hc<;>cases hc
   exact absurd (h.bl _ hb1) (by omega)
  ·rw[if_neg ei] at hc
   refine h.nb i c ?_ hc hb1
   rw[Zx] at hl ⊢;obtain⟨b',f1,f2⟩:=hl;exact⟨b',by rw[← hH i ei];exact f1,f2⟩
theorem Ext.kill {R:RP}{w:World}{H':Zo} (hH:∀(i:Nat) blk,H'[i]? = some blk→blk ≠ .dead→R.H[i]? = some blk):Ext R w { R with H:=H' } w:=
 ⟨fun _ _ h=>h,fun i x blk _ h hd=>⟨blk,hH i blk h hd,Blk.like_refl hd⟩,rfl,rfl,fun _ _ _=>rfl,fun _ cs el fr h=>⟨cs,el,fr,h,rfl⟩,Nat.le_refl _,
  fun c _ ⟨i,h1,h2⟩=>by
   rw[Zx] at h1
   obtain⟨blk,f1,f2⟩:=h1
   exact⟨i,Zx.2 ⟨blk,hH i blk f1 f2,f2⟩,h2⟩,rfl,rfl,rfl⟩
theorem RP.OK.kill {R:RP}{w:World}{H':Zo} (h:R.OK w) (hH:∀(i:Nat) blk,H'[i]? = some blk→blk ≠ .dead→R.H[i]? = some blk):RP.OK { R with H:=H' } w:=by
 have e:=Ext.kill (R:=R) (w:=w) hH
 have lv:∀i,Zab H' i=true→Zab R.H i=true:=fun i hi=>by
  rw[Zx] at hi ⊢
  obtain⟨blk,f1,f2⟩:=hi
  exact⟨blk,hH i blk f1 f2,f2⟩
 refine⟨h.b01,fun i blk hi hd=>h.al i blk (hH i blk hi hd) hd,fun i j c hi hj=>h.inj i j c (lv i hi) (lv j hj),h.lt,fun i m blk hi hm=>?_,fun i c hl=>h.nb i c (lv i hl),h.bl⟩
 by_cases hd:blk = .dead
 ·subst hd;trivial
 ·exact e.blkOK h.b01 (fun _ _=>rfl) (h.blk i m blk (hH i blk hi hd) hm)
end Go.Proofs.YtnmbdjkbaihicaaDoorE
namespace Go.Proofs.YtnmbdjkbaihicaaDoorE
open Go
set_option linter.unusedVariables false
set_option linter.unusedSimpArgs false
def Zdp (P:Program) (o:Oper) (a:Act) (w:World) (Z3:Value→World→Prop):Prop:=
 (∃u w',(execOp a.eval o).run P w = .ok (.value u) w'∧Z3 u w')∨(∃w',(execOp a.eval o).run P w = .ok .skip w'∧Z3 undef w') ∨
 (∃f args w',(execOp a.eval o).run P w = .ok (.enter f args) w'∧Calls P f args w' fun e w''=>∃u,e = .returned u∧Z3 u w'')
theorem Zdp.wp {P:Program}{o:Oper}{a:Act}{w:World}{Z3:Value→World→Prop}{K:Act→World→Prop}{Q:Exit→Act→World→Prop}
  (h:Zdp P o a w Z3) (hK:∀u w',Z3 u w'→K (a.put o.dst u) w'):o.wp P a w K Q:=by
 unfold Oper.wp
 rcases h with⟨u,w',h1,h2⟩ | ⟨w',h1,h2⟩ | ⟨f,args,w',h1,h2⟩
 ·rw[h1];exact hK _ _ h2
 ·rw[h1];exact hK _ _ h2
 ·rw[h1]
  exact h2.mono fun e w'' ⟨u,he,hp⟩=>by subst he;exact hK _ _ hp
theorem Zdp.val {P:Program}{o:Oper}{a:Act}{w w':World}{Z3:Value→World→Prop}{u:Value} (h:(execOp a.eval o).run P w = .ok (.value u) w') (hp:Z3 u w'):Zdp P o a w Z3:=
 .inl ⟨u,w',h,hp⟩
mutual
def cv:V→Value→Bool
 | .d (.bool a),.bool b=>a==b
 | .d (.int k n),.int k' m=>k==k'&&n==m
 | .d (.str s),.string t=>decide (s=t)
 | .d .nilfn,.nilFunc=>true
 | .d .nilp,.pointer none=>true
 | .d .nilI,.nilIface=>true
 | .d (.fn f []),.func (.func g) a b=>f==g&&a.isEmpty&&b.isEmpty
 | .d (.agg ds),.agg us=>cds ds us.toList
 | .d (.list _ []),.slice _ n _=>n==0
 | .nilsl _,.slice _ n c=>n==0&&c==0
 | .agg vs,.agg us=>cvs vs us.toList
 | .bad,_=>true
 | _,_=>false
def cvs:List V→List Value→Bool
 | [],[]=>true
 | v :: vs,u :: us=>cv v u&&cvs vs us
 | _,_=>false
def cds:List D→List Value→Bool
 | [],[]=>true
 | .bool a :: ds,.bool b :: us=>a==b&&cds ds us
 | .int k n :: ds,.int k' m :: us=>k==k'&&n==m&&cds ds us
 | .str s :: ds,.string t :: us=>decide (s=t)&&cds ds us
 | .nilfn :: ds,.nilFunc :: us=>cds ds us
 | .nilp :: ds,.pointer none :: us=>cds ds us
 | .nilI :: ds,.nilIface :: us=>cds ds us
 | .list _ [] :: ds,.slice _ n _ :: us=>n==0&&cds ds us
 | _,_=>false
end
theorem ZAV {A1 A0 AL:Nat→Prop}{w:World}:∀(ds:List D) (us:List Value),cds ds us=true→ZaZ A1 A0 AL w ds us:=by
 intro ds
 induction ds with
 | nil=>intro us h;cases us<;>simp_all [cds,ZaZ]
 | cons x ds ih=>
  intro us h
  cases us with
  | nil=>cases x<;>simp_all [cds]
  | cons u us=>
   refine⟨u,us,rfl,?_⟩
   cases x with
   | bool a=>cases u<;>simp_all [cds,Zbe]
   | int k n=>cases u<;>simp_all [cds,Zbe]
   | str s=>
    cases u<;>simp only[cds,Bool.and_eq_true,decide_eq_true_eq,Bool.false_eq_true] at h
    exact⟨by rw[h.1];rfl,ih us h.2⟩
   | nilfn=>cases u<;>simp_all [cds,Zbe]
   | nilI=>cases u<;>simp_all [cds,Zbe]
   | nilp=>
    cases u with
    | pointer a=>cases a<;>simp_all [cds,Zbe]
    | _=>simp_all [cds]
   | list own xs=>
    cases xs with
    | nil=>
     cases u with
     | slice a n c=>
      simp only[cds,Bool.and_eq_true,beq_iff_eq] at h
      obtain⟨rfl,h⟩:=h
      exact⟨⟨a,0,c,rfl,rfl,Nat.zero_le _,by simp,by simp⟩,ih us h⟩
     | _=>simp_all [cds]
    | cons y ys=>cases u<;>simp_all [cds]
   | agg cs=>cases u<;>simp_all [cds]
   | tup cs=>cases u<;>simp_all [cds]
   | fn f cs=>cases u<;>simp_all [cds]
   | rptr cs=>cases u<;>simp_all [cds]
   | iface t v=>cases u<;>simp_all [cds]
mutual
theorem Zrc {R:RP}{w:World}:∀(v:V) (u:Value),cv v u=true→Za9 R w v u
 | .bad,_,_=>trivial
 | .nilsl sz,u,h=>by
  cases u<;>simp_all [cv,Za9]
 | .agg vs,u,h=>by
  cases u<;>simp only[cv] at h<;>try (cases h;done)
  rename_i us
  exact⟨us.toList,rfl,Zub vs us.toList h⟩
 | .d x,u,h=>by
  cases x with
  | bool a=>cases u<;>simp_all [cv,Za9,RP.den,Zbe]
  | int k n=>cases u<;>simp_all [cv,Za9,RP.den,Zbe]
  | str s=>
   cases u<;>simp only[cv,decide_eq_true_eq,Bool.false_eq_true] at h
   rw[h];rfl
  | nilfn=>cases u<;>simp_all [cv,Za9,RP.den,Zbe]
  | nilI=>cases u<;>simp_all [cv,Za9,RP.den,Zbe]
  | nilp=>
   cases u with
   | pointer a=>cases a<;>simp_all [cv,Za9,RP.den,Zbe]
   | _=>simp_all [cv]
  | fn f cs=>
   cases cs with
   | cons=>cases u<;>simp_all [cv]
   | nil=>
    cases u with
    | func fn a b=>
     cases fn<;>simp only[cv,Bool.and_eq_true,beq_iff_eq,Array.isEmpty_iff,Bool.false_eq_true] at h
     obtain⟨⟨rfl,rfl⟩,rfl⟩:=h
     exact⟨[],rfl,rfl⟩
    | _=>simp_all [cv]
  | agg ds=>
   cases u<;>simp only[cv] at h<;>try (cases h;done)
   rename_i us
   exact⟨us.toList,rfl,ZAV ds us.toList h⟩
  | list own xs=>
   cases xs with
   | cons=>cases u<;>simp_all [cv]
   | nil=>
    cases u<;>simp only[cv,beq_iff_eq] at h<;>try (cases h;done)
    subst h
    exact⟨_,0,_,rfl,rfl,Nat.zero_le _,by simp,by simp⟩
  | tup cs=>cases u<;>simp_all [cv]
  | rptr cs=>cases u<;>simp_all [cv]
  | iface t v=>cases u<;>simp_all [cv]
 | .ptr b o,u,h=>by cases u<;>simp_all [cv]
 | .eptr b sz i k,u,h=>by cases u<;>simp_all [cv]
 | .sl b sz,u,h=>by cases u<;>simp_all [cv]
 | .slp b sz o l,u,h=>by cases u<;>simp_all [cv]
 | .tup cs,u,h=>by cases u<;>simp_all [cv]
 | .fn f cs,u,h=>by cases u<;>simp_all [cv]
 | .mp b,u,h=>by cases u<;>simp_all [cv]
theorem Zub {R:RP}{w:World}:∀(vs:List V) (us:List Value),cvs vs us=true→ZaJ R w vs us
 | [],us,h=>by cases us<;>simp_all [cvs,ZaJ]
 | v :: vs,[],h=>by simp[cvs] at h
 | v :: vs,u :: us,h=>by
  simp only[cvs,Bool.and_eq_true] at h
  exact⟨u,us,rfl,Zrc v u h.1,Zub vs us h.2⟩
end
abbrev ZbD:=Nat→Option (List (IntKind×Int))
def gD:List (IntKind×Int)→List D
 | []=>[]
 | (k,n) :: r=>.int k n :: gD r
def eqG:List (IntKind×Int)→List D→Bool
 | [],[]=>true
 | (k,n) :: r,.int k' n' :: s=>k==k'&&n==n'&&eqG r s
 | _,_=>false
theorem ZxS:∀(g:List (IntKind×Int)) (l:List D),eqG g l=true→l=gD g
 | [],[],_=>rfl
 | [],_ :: _,h=>by simp[eqG] at h
 | (k,n) :: r,[],h=>by simp[eqG] at h
 | (k,n) :: r,x :: s,h=>by
  cases x<;>simp only[eqG,Bool.and_eq_true,beq_iff_eq,Bool.false_eq_true] at h
  obtain⟨⟨rfl,rfl⟩,h⟩:=h
  rw[gD,ZxS r s h]
def ZU (G:ZbD):Operand→Opd→Bool
 | .tmp i,.t j=>i==j
 | .const u,.c v=>cv v u
 | .func f,.c (.d (.fn g []))=>f==g
 | .global g,.c (.d (.rptr cs))=>match G g with | some l=>eqG l cs | none=>false
 | _,_=>false
def Ze9 (G:ZbD):List Operand→List Opd→Bool
 | [],[]=>true
 | x :: xs,y :: ys=>ZU G x y&&Ze9 G xs ys
 | _,_=>false
def GOK (G:ZbD) (R:RP) (w:World):Prop:=∀g l,G g=some l→R.den w (.rptr (gD l)) (.pointer (some ⟨g,0,none⟩))
def Zhp (R:RP) (w:World) (e:Env) (a:Act):Prop:=∀t,Za9 R w (e t) (a.tmps.getD t undef)
theorem ZoX {G:ZbD}{R:RP}{w:World}{e:Env}{a:Act} (hg:GOK G R w) (he:Zhp R w e a) {x:Operand}{y:Opd} (h:ZU G x y=true):Za9 R w (y.val e) (a.eval x):=by
 cases x with
 | tmp i=>
  cases y with
  | t j=>
   simp only[ZU,beq_iff_eq] at h
   subst h
   exact he i
  | c v=>simp[ZU] at h
 | const u=>
  cases y with
  | t j=>simp[ZU] at h
  | c v=>exact Zrc v u h
 | func f=>
  cases y with
  | t j=>simp[ZU] at h
  | c v=>
   cases v with
   | d x=>
    cases x with
    | fn g caps=>
     cases caps with
     | nil=>
      simp only[ZU,beq_iff_eq] at h
      subst h
      exact⟨[],rfl,rfl⟩
     | cons=>simp[ZU] at h
    | _=>simp[ZU] at h
   | _=>simp[ZU] at h
 | global g=>
  cases y with
  | t j=>simp[ZU] at h
  | c v=>
   cases v with
   | d x=>
    cases x with
    | rptr cs=>
     cases hG:G g with
     | none=>simp[ZU,hG] at h
     | some l=>
      simp only[ZU,hG] at h
      rw[ZxS l cs h]
      exact hg g l hG
    | _=>simp[ZU] at h
   | _=>simp[ZU] at h
theorem Zrp {G:ZbD}{R:RP}{w:World}{e:Env}{a:Act} (hg:GOK G R w) (he:Zhp R w e a):∀{xs:List Operand}{ys:List Opd},Ze9 G xs ys=true→ZaJ R w (vals e ys) (xs.map a.eval)
 | [],[],_=>rfl
 | [],_ :: _,h=>by simp[Ze9] at h
 | _ :: _,[],h=>by simp[Ze9] at h
 | x :: xs,y :: ys,h=>by
  simp only[Ze9,Bool.and_eq_true] at h
  exact⟨_,_,rfl,ZoX hg he h.1,Zrp hg he h.2⟩
theorem Ext.gok {G:ZbD}{R R':RP}{w w':World} (e:Ext R w R' w') (hb:∀c,R.B0 c→R.B1 c) (h:GOK G R w):GOK G R' w':=fun g l hg=>e.den hb (h g l hg)
theorem Ext.envOK {R R':RP}{w w':World} (x:Ext R w R' w') (hb:∀c,R.B0 c→R.B1 c) {e:Env}{a:Act} (h:Zhp R w e a):Zhp R' w' e a:=fun t=>x.denV hb _ _ (h t)
def Zai (H:Zo) (up:List (Nat×Blk)) (nid:Nat) (nw:List Blk) (H':Zo):Prop:=
 ∀i,H'[i]? = if nid≤i∧i<nid+nw.length then nw[i-nid]? else (Zeo H up)[i]?
def Z3 (R:RP) (w:World) (nid n:Nat) (H':Zo) (v:V) (u:Value) (w':World):Prop:=
 ∃R',Ext R w R' w'∧R'.OK w'∧R'.H=H'∧Za9 R' w' v u∧∀i,R.M i=none→¬(nid≤i∧i<nid+n)→R'.M i=none
theorem Zai.same {H H':Zo}{nid:Nat} (h:Zai H [] nid [] H'):H'=H:=by
 apply List.ext_getElem?
 intro i
 have:=h i
 simp only[List.length_nil,Nat.add_zero,Zeo] at this
 rw[this,if_neg (by omega)]
theorem Z3.still {R:RP}{w w':World}{nid:Nat}{H':Zo}{v:V}{u:Value} (ok:R.OK w) (hp:Zai R.H [] nid [] H') (hh:w'.heap=w.heap) (ho:w'.os=w.os) (ht:w'.tape=w.tape) (hpt:w'.output=w.output)
  (hv:Za9 R w v u):Z3 R w nid 0 H' v u w':=
 ⟨R,Ext.draw hh ho ht hpt,ok.draw hh ho ht hpt,hp.same.symm,(Ext.draw hh ho ht hpt).denV ok.b01 v u hv,fun i h _=>h⟩
theorem Z3.stay {R:RP}{w:World}{nid:Nat}{H':Zo}{v:V}{u:Value} (ok:R.OK w) (hp:Zai R.H [] nid [] H') (hv:Za9 R w v u):Z3 R w nid 0 H' v u w:=
 Z3.still ok hp rfl rfl rfl rfl hv
theorem Z3.new {R:RP}{w:World}{nid:Nat}{H':Zo}{v:V}{u:Value}{blk:Blk}{m:Option Nat} (o:Obj) (ok:R.OK w) (hp:Zai R.H [] nid [blk] H') (hn:R.M nid=none) (hm:m=none∨m=some w.heap.size)
  (hk:∀R':RP,Ext R w R' (w.alloc o)→R'.M nid=some m→R'.H[nid]? = some blk→Zhe R' (w.alloc o) m blk∧(Zhe R' (w.alloc o) m blk→Za9 R' (w.alloc o) v u)):Z3 R w nid 1 H' v u (w.alloc o):=by
 have hH:∀i,i≠nid→H'[i]? = R.H[i]?:=fun i hi=>by
  have:=hp i
  rw[this,if_neg (by simp;omega)];rfl
 have hb:H'[nid]? = some blk:=by
  have:=hp nid
  rw[this,if_pos (by simp)];simp
 have e:=Ext.new (R:=R) (w:=w) (H':=H') (n:=nid) (blk:=blk) (m:=m) o hn hH hb hm ok.lt ok.al
 have hk':=hk _ e (by simp) hb
 exact⟨_,e,ok.new hn hH hb hm (fun _=>hk'.1),rfl,hk'.2 hk'.1,fun i hi hni=>by
  have:i≠nid:=fun h=>hni (by subst h;simp)
  simp[this,hi]⟩
end Go.Proofs.YtnmbdjkbaihicaaDoorE
namespace Go.Proofs.YtnmbdjkbaihicaaDoorE
open Go
set_option linter.unusedVariables false
set_option linter.unusedSimpArgs false
def Le {α:Type} (x y:Option α):Prop:=∀a,x=some a→y=some a
theorem Le.refl {α:Type} (x:Option α):Le x x:=fun _ h=>h
theorem Le.trans {α:Type}{x y z:Option α} (h:Le x y) (k:Le y z):Le x z:=fun a ha=>k a (h a ha)
theorem Le.none {α:Type} (x:Option α):Le none x:=fun _ h=>by cases h
noncomputable def ZzT {α:Type} (F:Nat→Option α):Option α:=open Classical in if h:∃n,(F n).isSome=true then F (Classical.choose h) else none
theorem ZuZ {α:Type}{F:Nat→Option α} (mono:∀n m,n≤m→Le (F n) (F m)) (a:α):ZzT F=some a↔∃n,F n=some a:=by
 unfold ZzT
 constructor
 ·intro h
  split at h
  ·rename_i hx;exact⟨_,h⟩
  ·cases h
 ·rintro ⟨n,hn⟩
  have hx:∃n,(F n).isSome=true:=⟨n,by simp[hn]⟩
  rw[dif_pos hx]
  have hs:=Classical.choose_spec hx
  cases hv:F (Classical.choose hx) with
  | none=>rw[hv] at hs;cases hs
  | some b=>
   rcases Nat.le_total n (Classical.choose hx) with h | h
   ·rw[← hv];exact mono _ _ h a hn
   ·have:=mono _ _ h b hv;rw[hn] at this;exact this.symm
def LeC (f g:Zbp):Prop:=∀a b c,Le (f a b c) (g a b c)
abbrev Rnd:=List V→Zo→Option Lp
abbrev ItF:=Rnd→List V→Zo→Option (Ex×List V×Zo)
def LeR (f g:Rnd):Prop:=∀a b,Le (f a b) (g a b)
def LeI (f g:ItF):Prop:=∀F G,LeR F G→∀a b,Le (f F a b) (g G a b)
theorem ZjM {Γ:Ctx}{cf cg:Zbp} (h:LeC cf cg) (nid:Nat) (H:Zo) (f:Nat) (args:List V):Le (Zgt Γ cf nid H f args) (Zgt Γ cg nid H f args):=by
 intro r hr
 unfold Zgt at hr ⊢
 split at hr
 ·rename_i hm
  cases h1:fzs H args with
  | none=>simp[h1] at hr
  | some l=>
   simp only[h1] at hr ⊢
   cases h2:cf f (ZcN l) [] with
   | none=>simp[h2] at hr
   | some p=>rw[h2] at hr;rw[h _ _ _ p h2];exact hr
 ·rename_i hm
  cases h1:fzs H args with
  | none=>simp[h1] at hr
  | some l=>
   simp only[h1] at hr ⊢
   cases h2:cf f (ZcN l) [] with
   | none=>simp[h2] at hr
   | some p=>rw[h2] at hr;rw[h _ _ _ p h2];exact hr
 ·cases h1:extract 0 args H with
  | none=>simp[h1] at hr
  | some q=>
   obtain⟨L,args',H0⟩:=q
   simp only[h1] at hr ⊢
   cases h2:cf f args' H0 with
   | none=>simp[h2] at hr
   | some p=>rw[h2] at hr;rw[h _ _ _ p h2];exact hr
theorem ZgF {Γ:Ctx}{cf:Zbp} (e:Env) (nid:Nat) (H:Zo) (x:Opd) (args:List Opd) :
  opE Γ cf e nid H (.callv x args)=match ZjW (x.val e) with | some (f,caps)=>(match Zgv Γ (x.val e) f caps with | true=>none | false=>Zgt Γ cf nid H f (vals e args++caps)) | none=>none:=rfl
theorem Zf4 {Γ:Ctx}{cf:Zbp} (e:Env) (nid:Nat) (H:Zo) (tab:List (Nat×Nat)) (x:Opd) (args:List Opd) :
  opE Γ cf e nid H (.invoke tab x args)=match x.val e with
   | .d (.iface t y)=>(match ZlC tab t with | some f=>Zgt Γ cf nid H f (.d y :: vals e args) | none=>none)
   | _=>none:=rfl
theorem Zmy {Γ:Ctx}{cf cg:Zbp} (h:LeC cf cg) (e:Env) (nid:Nat) (H:Zo) (o:O):Le (opE Γ cf e nid H o) (opE Γ cg e nid H o):=by
 intro r hr
 cases o<;>try exact hr
 ·exact ZjM h _ _ _ _ r hr
 ·rename_i x args
  rw[ZgF] at hr ⊢
  cases h1:ZjW (x.val e) with
  | none=>simp[h1] at hr
  | some q=>
   obtain⟨f,caps⟩:=q;simp only[h1] at hr ⊢
   cases hb:Zgv Γ (x.val e) f caps with
   | true=>rw[hb] at hr;cases hr
   | false=>rw[hb] at hr;exact ZjM h _ _ _ _ r hr
 ·rename_i tab x args
  rw[Zf4] at hr ⊢
  split at hr
  ·rename_i t y hx
   split at hr
   ·exact ZjM h _ _ _ _ r hr
   ·cases hr
  ·cases hr
 ·exact ZjM h _ _ _ _ r hr
theorem Zld {Γ:Ctx}{cf cg:Zbp} (h:LeC cf cg):∀(l:List Op1) (e:Env) (H:Zo),Le (ZhX Γ cf l e H) (ZhX Γ cg l e H)
 | [],e,H,r,hr=>hr
 | o :: l,e,H,r,hr=>by
  unfold ZhX at hr ⊢
  cases hw:ZfJ e o.guard with
  | none=>simp[hw] at hr
  | some b=>
   cases b with
   | false=>simp only[hw] at hr ⊢;exact Zld h l _ _ r hr
   | true=>
    simp only[hw] at hr ⊢
    cases ho:opE Γ cf e H.length H o.op with
    | none=>simp[ho] at hr
    | some q=>
     rw[ho] at hr;rw[Zmy h _ _ _ _ q ho]
     exact Zld h l _ _ r hr
theorem Zjy {Γ:Ctx}{cf cg:Zbp} (h:LeC cf cg):∀(l:List Op1) (pos:List (Nat×Nat)) (e:Env) (H:Zo),Le (ZfF Γ cf pos l e H) (ZfF Γ cg pos l e H)
 | [],pos,e,H,r,hr=>hr
 | o :: l,pos,e,H,r,hr=>by
  unfold ZfF at hr ⊢
  cases hw:ZfJ e o.guard with
  | none=>simp[hw] at hr
  | some b=>
   cases b with
   | false=>simp only[hw] at hr ⊢;exact Zjy h l _ _ _ r hr
   | true=>
    simp only[hw] at hr ⊢
    cases ho:opE Γ cf e H.length (Zgr H pos o.mask) o.op with
    | none=>simp[ho] at hr
    | some q=>
     rw[ho] at hr;rw[Zmy h _ _ _ _ q ho]
     obtain⟨v,up,nw⟩:=q
     dsimp only at hr ⊢
     cases hb:(ZoW e H o up nw) with
     | false=>simp[hb] at hr
     | true=>simp only[hb,cond_true] at hr ⊢;exact Zjy h l _ _ _ r hr
theorem ZkM {k:Nat}{live outs:List Nat}{x y:Option (Ex×Env×Zo)} (h:Le x y):Le (ZeA k live outs x) (ZeA k live outs y):=by
 intro r hr
 cases x with
 | none=>simp[ZeA] at hr
 | some q=>rw[h q rfl];exact hr
theorem Zpr {Γ:Ctx}{cf cg:Zbp}{It Jt:ItF} (h:LeC cf cg) (hi:LeI It Jt) (k:Nat):∀(c:C) (e:Env) (H:Zo),Le (Zam Γ cf It k c e H) (Zam Γ cg Jt k c e H):=by
 intro c
 induction c with
 | skip=>intro e H;exact Le.refl _
 | ret=>intro e H;exact Le.refl _
 | exit id=>intro e H;exact Le.refl _
 | seq a b iha ihb=>
  intro e H r hr
  unfold Zam at hr ⊢
  cases ha:Zam Γ cf It k a e H with
  | none=>simp[ha] at hr
  | some q=>
   rw[ha] at hr;rw[iha e H q ha]
   obtain⟨x,e1,H1⟩:=q
   cases x with
   | normal=>exact ihb e1 H1 r hr
   | exit id=>exact hr
   | ret=>exact hr
 | cond x a b iha ihb=>
  intro e H r hr
  unfold Zam at hr ⊢
  split at hr
  ·rename_i t ht
   cases t with
   | true=>exact iha e H r hr
   | false=>exact ihb e H r hr
  ·cases hr
 | block id a iha=>
  intro e H r hr
  unfold Zam at hr ⊢
  cases ha:Zam Γ cf It k a e H with
  | none=>simp[ha] at hr
  | some q=>rw[ha] at hr;rw[iha e H q ha];exact hr
 | loop live outs a iha=>
  intro e H r hr
  unfold Zam at hr ⊢
  cases hh:Zor k (live.map e) H with
  | none=>simp[hh] at hr
  | some q=>
   obtain⟨vs,H1⟩:=q
   simp only[hh] at hr ⊢
   cases hit:It (fun vs H=>ZeA k live outs (Zam Γ cf It k a (Zeb live vs) H)) vs H1 with
   | none=>simp[hit] at hr
   | some p=>
    rw[hit] at hr
    rw[hi _ (fun vs H=>ZeA k live outs (Zam Γ cg Jt k a (Zeb live vs) H)) (fun vs H=>ZkM (iha (Zeb live vs) H)) vs H1 p hit]
    exact hr
 | ops l=>
  intro e H r hr
  unfold Zam at hr ⊢
  cases ho:ZhX Γ cf l e H with
  | none=>simp[ho] at hr
  | some q=>rw[ho] at hr;rw[Zld h l e H q ho];exact hr
 | draw l=>
  intro e H r hr
  unfold Zam at hr ⊢
  cases ho:ZfF Γ cf [] l e H with
  | none=>simp[ho] at hr
  | some q=>rw[ho] at hr;rw[Zjy h l _ e H q ho];exact hr
theorem ZqZ {Γ:Ctx}{cf cg:Zbp}{It Jt:ItF} (h:LeC cf cg) (hi:LeI It Jt) (f:Nat) (args:List V) (H:Zo):Le (Zki Γ cf It f args H) (Zki Γ cg Jt f args H):=by
 intro r hr
 unfold Zki at hr ⊢
 cases hc:Γ.code f with
 | none=>simp[hc] at hr
 | some fn=>
  simp only[hc] at hr ⊢
  cases hn:Nat.beq args.length fn.nargs with
  | false=>simp[hn] at hr
  | true=>
   simp only[hn,cond_true] at hr ⊢
   cases hx:Zam Γ cf It H.length fn.body (ZeO 0 args) H with
   | none=>simp[hx] at hr
   | some q=>rw[hx] at hr;rw[Zpr h hi _ _ _ _ q hx];exact hr
theorem ZfZ {F G:Rnd} (h:LeR F G):∀(n m:Nat),n≤m→∀vs H,Le (Zdd F n vs H) (Zdd G m vs H)
 | 0,m,_,vs,H=>Le.none _
 | n+1,0,hm,vs,H=>absurd hm (by omega)
 | n+1,m+1,hm,vs,H=>by
  intro r hr
  unfold Zdd at hr ⊢
  cases hf:F vs H with
  | none=>simp[hf] at hr
  | some q=>
   rw[hf] at hr;rw[h vs H q hf]
   cases q with
   | again vs H=>exact ZfZ h n m (by omega) vs H r hr
   | done x vs H=>exact hr
theorem ZhY (Γ:Ctx):∀(n m:Nat),n≤m→LeC (evN Γ n) (evN Γ m)
 | 0,m,_=>fun _ _ _=>Le.none _
 | n+1,0,hm=>absurd hm (by omega)
 | n+1,m+1,hm=>fun f args H=>ZqZ (ZhY Γ n m (by omega)) (fun F G h vs H=>ZfZ h n m (by omega) vs H) f args H
noncomputable def evW (Γ:Ctx):Zbp:=fun f args H=>ZzT fun n=>evN Γ n f args H
noncomputable def itW:ItF:=fun F vs H=>ZzT fun n=>Zdd F n vs H
theorem Zim (Γ:Ctx) (f:Nat) (args:List V) (H:Zo) (r:V×Zo):evW Γ f args H=some r↔∃n,evN Γ n f args H=some r:=
 ZuZ (fun n m h=>ZhY Γ n m h f args H) r
theorem ZiB (F:Rnd) (vs:List V) (H:Zo) (r:Ex×List V×Zo):itW F vs H=some r↔∃n,Zdd F n vs H=some r:=
 ZuZ (fun n m h=>ZfZ (fun _ _=>Le.refl _) n m h vs H) r
theorem ZAR (F:Rnd) (vs:List V) (H:Zo):itW F vs H=match F vs H with | some (.again vs H)=>itW F vs H | some (.done x vs H)=>some (x,vs,H) | none=>none:=by
 cases hf:F vs H with
 | none=>
  cases h:itW F vs H with
  | none=>rfl
  | some r=>
   obtain⟨n,hn⟩:=(ZiB F vs H r).1 h
   cases n with
   | zero=>simp[Zdd] at hn
   | succ n=>simp[Zdd,hf] at hn
 | some q=>
  cases q with
  | done x vs' H'=>exact(ZiB F vs H _).2 ⟨1,by simp[Zdd,hf]⟩
  | again vs' H'=>
   dsimp only
   cases h:itW F vs' H' with
   | some r=>
    obtain⟨n,hn⟩:=(ZiB F vs' H' r).1 h
    exact(ZiB F vs H r).2 ⟨n+1,by simp[Zdd,hf,hn]⟩
   | none=>
    cases h2:itW F vs H with
    | none=>rfl
    | some r=>
     obtain⟨n,hn⟩:=(ZiB F vs H r).1 h2
     cases n with
     | zero=>simp[Zdd] at hn
     | succ n=>
      simp[Zdd,hf] at hn
      rw[(ZiB F vs' H' r).2 ⟨n,hn⟩] at h
      cases h
section
variable {Γ:Ctx}
theorem ZjE (nid:Nat) (H:Zo) (f:Nat) (args:List V) (r:V×List (Nat×Blk)×List Blk) (hr:Zgt Γ (evW Γ) nid H f args=some r):∃n,Zgt Γ (evN Γ n) nid H f args=some r:=by
 unfold Zgt at hr ⊢
 split at hr
 ·cases h1:fzs H args with
  | none=>simp[h1] at hr
  | some l=>
   simp only[h1] at hr ⊢
   cases h2:evW Γ f (ZcN l) [] with
   | none=>simp[h2] at hr
   | some p=>obtain⟨n,hn⟩:=(Zim Γ f (ZcN l) [] p).1 h2;exact⟨n,by rw[hn];rw[h2] at hr;exact hr⟩
 ·cases h1:fzs H args with
  | none=>simp[h1] at hr
  | some l=>
   simp only[h1] at hr ⊢
   cases h2:evW Γ f (ZcN l) [] with
   | none=>simp[h2] at hr
   | some p=>obtain⟨n,hn⟩:=(Zim Γ f (ZcN l) [] p).1 h2;exact⟨n,by rw[hn];rw[h2] at hr;exact hr⟩
 ·cases h1:extract 0 args H with
  | none=>simp[h1] at hr
  | some q=>
   obtain⟨L,args',H0⟩:=q
   simp only[h1] at hr ⊢
   cases h2:evW Γ f args' H0 with
   | none=>simp[h2] at hr
   | some p=>obtain⟨n,hn⟩:=(Zim Γ f args' H0 p).1 h2;exact⟨n,by rw[hn];rw[h2] at hr;exact hr⟩
theorem Ztw (e:Env) (nid:Nat) (H:Zo) (o:O) (r:V×List (Nat×Blk)×List Blk) (hr:opE Γ (evW Γ) e nid H o=some r):∃n,opE Γ (evN Γ n) e nid H o=some r:=by
 cases o<;>try exact⟨0,hr⟩
 ·exact ZjE _ _ _ _ r hr
 ·rename_i x args
  rw[ZgF] at hr
  cases h1:ZjW (x.val e) with
  | none=>simp[h1] at hr
  | some q=>
   obtain⟨f,caps⟩:=q;simp only[h1] at hr
   cases hb:Zgv Γ (x.val e) f caps with
   | true=>rw[hb] at hr;cases hr
   | false=>
    rw[hb] at hr
    obtain⟨n,hn⟩:=ZjE _ _ _ _ r hr
    exact⟨n,by rw[ZgF];simp only[h1,hb];exact hn⟩
 ·rename_i tab x args
  rw[Zf4] at hr
  split at hr
  ·rename_i t y hx
   cases hl:ZlC tab t with
   | none=>simp[hl] at hr
   | some f=>
    simp only[hl] at hr
    obtain⟨n,hn⟩:=ZjE _ _ _ _ r hr
    exact⟨n,by rw[Zf4];simp only[hx,hl];exact hn⟩
  ·cases hr
 ·exact ZjE _ _ _ _ r hr
theorem ZnO:∀(l:List Op1) (e:Env) (H:Zo) (r:Env×Zo),ZhX Γ (evW Γ) l e H=some r→∃n,ZhX Γ (evN Γ n) l e H=some r
 | [],e,H,r,hr=>⟨0,hr⟩
 | o :: l,e,H,r,hr=>by
  unfold ZhX at hr
  cases hw:ZfJ e o.guard with
  | none=>simp[hw] at hr
  | some b=>
   cases b with
   | false=>
    simp only[hw] at hr
    obtain⟨n,hn⟩:=ZnO l _ _ r hr
    exact⟨n,by unfold ZhX;simp only[hw];exact hn⟩
   | true=>
    simp only[hw] at hr
    cases ho:opE Γ (evW Γ) e H.length H o.op with
    | none=>simp[ho] at hr
    | some q=>
     rw[ho] at hr
     obtain⟨n,hn⟩:=Ztw _ _ _ _ q ho
     obtain⟨v,up,nw⟩:=q
     obtain⟨m,hm⟩:=ZnO l _ _ r hr
     refine⟨max n m,?_⟩
     unfold ZhX
     simp only[hw]
     rw[Zmy (ZhY Γ n (max n m) (Nat.le_max_left _ _)) _ _ _ _ _ hn]
     exact Zld (ZhY Γ m (max n m) (Nat.le_max_right _ _)) l _ _ r hm
theorem ZlZ:∀(l:List Op1) (pos:List (Nat×Nat)) (e:Env) (H:Zo) (r:Env×Zo),ZfF Γ (evW Γ) pos l e H=some r→∃n,ZfF Γ (evN Γ n) pos l e H=some r
 | [],pos,e,H,r,hr=>⟨0,hr⟩
 | o :: l,pos,e,H,r,hr=>by
  unfold ZfF at hr
  cases hw:ZfJ e o.guard with
  | none=>simp[hw] at hr
  | some b=>
   cases b with
   | false=>
    simp only[hw] at hr
    obtain⟨n,hn⟩:=ZlZ l _ _ _ r hr
    exact⟨n,by unfold ZfF;simp only[hw];exact hn⟩
   | true=>
    simp only[hw] at hr
    cases ho:opE Γ (evW Γ) e H.length (Zgr H pos o.mask) o.op with
    | none=>simp[ho] at hr
    | some q=>
     rw[ho] at hr
     obtain⟨n,hn⟩:=Ztw _ _ _ _ q ho
     obtain⟨v,up,nw⟩:=q
     dsimp only at hr
     cases hb:(ZoW e H o up nw) with
     | false=>simp[hb] at hr
     | true=>
      simp only[hb,cond_true] at hr
      obtain⟨m,hm⟩:=ZlZ l _ _ _ r hr
      refine⟨max n m,?_⟩
      unfold ZfF
      simp only[hw]
      rw[Zmy (ZhY Γ n (max n m) (Nat.le_max_left _ _)) _ _ _ _ _ hn]
      simp only[hb,cond_true]
      exact Zjy (ZhY Γ m (max n m) (Nat.le_max_right _ _)) l _ _ _ r hm
theorem ZuM (k:Nat):∀(c:C) (e:Env) (H:Zo) (r:Ex×Env×Zo),Zam Γ (evW Γ) itW k c e H=some r→∃n,Zam Γ (evN Γ n) (fun F=>Zdd F n) k c e H=some r:=by
 have up:∀(c:C) (e:Env) (H:Zo) (r:Ex×Env×Zo) (n m:Nat),n≤m→Zam Γ (evN Γ n) (fun F=>Zdd F n) k c e H=some r→Zam Γ (evN Γ m) (fun F=>Zdd F m) k c e H=some r:=
  fun c e H r n m h=>Zpr (ZhY Γ n m h) (fun F G hFG vs H=>ZfZ hFG n m h vs H) k c e H r
 intro c
 induction c with
 | skip=>intro e H r hr;exact⟨0,hr⟩
 | ret=>intro e H r hr;exact⟨0,hr⟩
 | exit id=>intro e H r hr;exact⟨0,hr⟩
 | seq a b iha ihb=>
  intro e H r hr
  unfold Zam at hr
  cases ha:Zam Γ (evW Γ) itW k a e H with
  | none=>simp[ha] at hr
  | some q=>
   rw[ha] at hr
   obtain⟨n,hn⟩:=iha e H q ha
   obtain⟨x,e1,H1⟩:=q
   cases x with
   | normal=>
    obtain⟨m,hm⟩:=ihb e1 H1 r hr
    refine⟨max n m,?_⟩
    unfold Zam
    rw[up a e H _ n _ (Nat.le_max_left _ _) hn]
    exact up b e1 H1 r m _ (Nat.le_max_right _ _) hm
   | exit id=>exact⟨n,by unfold Zam;rw[hn];exact hr⟩
   | ret=>exact⟨n,by unfold Zam;rw[hn];exact hr⟩
 | cond x a b iha ihb=>
  intro e H r hr
  unfold Zam at hr
  split at hr
  ·rename_i t ht
   cases t with
   | true=>obtain⟨n,hn⟩:=iha e H r hr;exact⟨n,by unfold Zam;simp only[ht];exact hn⟩
   | false=>obtain⟨n,hn⟩:=ihb e H r hr;exact⟨n,by unfold Zam;simp only[ht];exact hn⟩
  ·cases hr
 | block id a iha=>
  intro e H r hr
  unfold Zam at hr
  cases ha:Zam Γ (evW Γ) itW k a e H with
  | none=>simp[ha] at hr
  | some q=>rw[ha] at hr;obtain⟨n,hn⟩:=iha e H q ha;exact⟨n,by unfold Zam;rw[hn];exact hr⟩
 | loop live outs a iha=>
  intro e H r hr
  unfold Zam at hr
  cases hh:Zor k (live.map e) H with
  | none=>simp[hh] at hr
  | some q=>
   obtain⟨vs,H1⟩:=q
   simp only[hh] at hr
   cases hit:itW (fun vs H=>ZeA k live outs (Zam Γ (evW Γ) itW k a (Zeb live vs) H)) vs H1 with
   | none=>simp[hit] at hr
   | some p=>
    rw[hit] at hr
    obtain⟨n,hn⟩:=(ZiB _ vs H1 p).1 hit
    have key:∀(n:Nat) (vs:List V) (H1:Zo) (p:Ex×List V×Zo),Zdd (fun vs H=>ZeA k live outs (Zam Γ (evW Γ) itW k a (Zeb live vs) H)) n vs H1=some p →
      ∃m,Zdd (fun vs H=>ZeA k live outs (Zam Γ (evN Γ m) (fun F=>Zdd F m) k a (Zeb live vs) H)) n vs H1=some p:=by
     intro n
     induction n with
     | zero=>intro vs H1 p h;simp[Zdd] at h
     | succ n ih=>
      intro vs H1 p h
      unfold Zdd at h
      cases hc:Zam Γ (evW Γ) itW k a (Zeb live vs) H1 with
      | none=>simp[hc,ZeA] at h
      | some q=>
       obtain⟨m1,hm1⟩:=iha _ _ q hc
       simp only[hc] at h
       cases hr2:ZeA k live outs (some q) with
       | none=>simp[hr2] at h
       | some z=>
        rw[hr2] at h
        cases z with
        | done x vs' H'=>exact⟨m1,by unfold Zdd;simp only[hm1,hr2];exact h⟩
        | again vs' H'=>
         obtain⟨m2,hm2⟩:=ih vs' H' p h
         refine⟨max m1 m2,?_⟩
         unfold Zdd
         simp only[up a _ _ q m1 _ (Nat.le_max_left m1 m2) hm1,hr2]
         exact ZfZ (fun vs H=>ZkM (fun q hq=>up a _ _ q m2 _ (Nat.le_max_right m1 m2) hq)) n n (Nat.le_refl _) vs' H' p hm2
    obtain⟨m,hm⟩:=key n vs H1 p hn
    refine⟨max n m,?_⟩
    unfold Zam
    simp only[hh]
    rw[ZfZ (fun vs H=>ZkM (fun q hq=>up a _ _ q m _ (Nat.le_max_right n m) hq)) n _ (Nat.le_max_left n m) vs H1 p hm]
    exact hr
 | ops l=>
  intro e H r hr
  unfold Zam at hr
  cases ho:ZhX Γ (evW Γ) l e H with
  | none=>simp[ho] at hr
  | some q=>rw[ho] at hr;obtain⟨n,hn⟩:=ZnO l e H q ho;exact⟨n,by unfold Zam;rw[hn];exact hr⟩
 | draw l=>
  intro e H r hr
  unfold Zam at hr
  cases ho:ZfF Γ (evW Γ) [] l e H with
  | none=>simp[ho] at hr
  | some q=>rw[ho] at hr;obtain⟨n,hn⟩:=ZlZ l _ e H q ho;exact⟨n,by unfold Zam;rw[hn];exact hr⟩
theorem ZBc (f:Nat) (args:List V) (H:Zo):evW Γ f args H=Zki Γ (evW Γ) itW f args H:=by
 have h1:Le (evW Γ f args H) (Zki Γ (evW Γ) itW f args H):=by
  intro r hr
  obtain⟨n,hn⟩:=(Zim Γ f args H r).1 hr
  cases n with
  | zero=>simp[evN] at hn
  | succ n=>exact ZqZ (fun a b c r h=>(Zim Γ a b c r).2 ⟨n,h⟩) (fun F G h vs H r hr=>(ZiB G vs H r).2 ⟨n,ZfZ h n n (Nat.le_refl _) vs H r hr⟩) f args H r hn
 have h2:Le (Zki Γ (evW Γ) itW f args H) (evW Γ f args H):=by
  intro r hr
  unfold Zki at hr
  cases hc:Γ.code f with
  | none=>simp[hc] at hr
  | some fn=>
   simp only[hc] at hr
   cases hn:Nat.beq args.length fn.nargs with
   | false=>simp[hn] at hr
   | true=>
    simp only[hn,cond_true] at hr
    cases hx:Zam Γ (evW Γ) itW H.length fn.body (ZeO 0 args) H with
    | none=>simp[hx] at hr
    | some q=>
     rw[hx] at hr
     obtain⟨n,hn2⟩:=ZuM _ _ _ _ q hx
     refine(Zim Γ f args H r).2 ⟨n+1,?_⟩
     show Zki Γ (evN Γ n) (fun F=>Zdd F n) f args H=some r
     unfold Zki
     simp only[hc,hn,cond_true,hn2]
     exact hr
 cases h:evW Γ f args H with
 | some r=>exact(h1 r h).symm
 | none=>
  cases h':Zki Γ (evW Γ) itW f args H with
  | none=>rfl
  | some r=>rw[h2 r h'] at h;cases h
end
end Go.Proofs.YtnmbdjkbaihicaaDoorE
namespace Go.Proofs.YtnmbdjkbaihicaaDoorE
open Go
set_option linter.unusedVariables false
set_option linter.unusedSimpArgs false
def Zho (P:Program) (t:TypeId):Option Bool:=
 match P.underlying t with
 | some (.struct _)=>some true
 | some (.array _ _)=>some true
 | some _=>some false
 | none=>none
def Zf9 (P:Program) (t:TypeId):Option Nat:=(P.info? t).map (·.size)
theorem ZgM {P:Program}{w:World}{t:TypeId}{ag:Bool} (h:Zho P t=some ag):(isAgg t).run P w = .ok ag w:=by
 unfold Zho at h
 cases hu:P.underlying t with
 | none=>simp[hu] at h
 | some d=>
  rw[hu] at h
  have:=run_underlying (P:=P) (w:=w) hu
  simp only[isAgg,Sem.run_bind,this,Result.andThen_ok]
  cases d<;>simp_all
theorem Zen {P:Program}{w:World}{t:TypeId}{n:Nat} (h:Zf9 P t=some n):(sizeOf t).run P w = .ok n w:=by
 unfold Zf9 at h
 cases hi:P.info? t with
 | none=>simp[hi] at h
 | some i=>
  simp only[hi,Option.map_some,Option.some.injEq] at h
  subst h
  simp[sizeOf,typeInfo,hi]
section
variable {R:RP} {w:World}
theorem Zd8:∀(vs:List V) (us:List Value),ZaJ R w vs us→us.length=vs.length
 | [],us,h=>by simp only[ZaJ] at h;subst h;rfl
 | v :: vs,us,h=>by
  obtain⟨u,us',rfl,e1,e2⟩:=h
  simp[Zd8 vs us' e2]
theorem Zfl:∀(vs:List V) (us:List Value) (j:Nat) (v:V),ZaJ R w vs us→vs[j]? = some v→∃u,us[j]? = some u∧Za9 R w v u
 | [],us,j,v,_,hj=>by simp at hj
 | y :: vs,us,0,v,h,hj=>by
  obtain⟨u,us',rfl,e1,e2⟩:=h
  simp at hj;subst hj
  exact⟨u,by simp,e1⟩
 | y :: vs,us,j+1,v,h,hj=>by
  obtain⟨u,us',rfl,e1,e2⟩:=h
  simpa using Zfl vs us' j v e2 (by simpa using hj)
theorem Zje:∀(vs:List V) (us:List Value),us.length=vs.length→(∀(j:Nat) v u,vs[j]? = some v→us[j]? = some u→Za9 R w v u)→ZaJ R w vs us
 | [],us,hl,_=>by simpa [ZaJ] using hl
 | y :: vs,[],hl,_=>by simp at hl
 | y :: vs,u :: us,hl,h=>⟨u,us,rfl,h 0 y u rfl rfl,Zje vs us (by simpa using hl) fun j x v hx hv=>h (j+1) x v (by simpa using hx) (by simpa using hv)⟩
theorem Zjw:∀(l:List D),ZcN l=l.map V.d
 | []=>rfl
 | x :: l=>by simp[ZcN,Zjw l]
theorem Zdn:∀(l:List D) (us:List Value),ZaJ R w (ZcN l) us↔ZaZ R.A1 R.A0 R.AL w l us
 | [],us=>Iff.rfl
 | x :: l,us=>by
  simp only[ZcN,ZaJ,ZaZ]
  constructor
  ·rintro ⟨u,us',e,h1,h2⟩;exact⟨u,us',e,h1,(Zdn l us').1 h2⟩
  ·rintro ⟨u,us',e,h1,h2⟩;exact⟨u,us',e,h1,(Zdn l us').2 h2⟩
theorem Zk7:∀{vs:List V}{l:List D},Zkz vs=some l→vs=ZcN l
 | [],l,h=>by simp[Zkz] at h;subst h;rfl
 | v :: vs,l,h=>by
  cases v<;>simp only[Zkz] at h<;>try (cases h;done)
  rename_i x
  cases hr:Zkz vs with
  | none=>simp[hr] at h
  | some l'=>
   simp only[hr,Option.some.injEq] at h
   subst h
   rw[Zk7 hr,ZcN]
theorem Zpq {vs:List V}{us:List Value} (h:ZaJ R w vs us):Za9 R w (Zs8 vs) (.agg us.toArray):=by
 unfold Zs8
 cases ha:Zkz vs with
 | none=>exact⟨us,rfl,h⟩
 | some l=>
  rw[Zk7 ha,Zdn] at h
  exact⟨us,rfl,h⟩
theorem ZyT {vs:List V}{us:List Value} (h:ZaJ R w vs us):Za9 R w (Zu6 vs) (.tuple us.toArray):=by
 unfold Zu6
 cases ha:Zkz vs with
 | none=>exact⟨us,rfl,h⟩
 | some l=>
  rw[Zk7 ha,Zdn] at h
  exact⟨us,rfl,h⟩
theorem ZgU {v:V}{u:Value} (h:Za9 R w v u) (hv:v.okb=true):ZaJ R w v.cells u.cells.toList:=by
 cases v with
 | d x=>
  cases x with
  | agg cs=>
   obtain⟨us,rfl,h⟩:=h
   simpa [V.cells,Value.cells] using (Zdn cs us).2 h
  | tup cs=>simp[V.okb] at hv
  | bool b=>simp only[Za9,RP.den,Zbe] at h;subst h;exact⟨_,[],rfl,by simp[Za9,RP.den,Zbe],rfl⟩
  | int k n=>simp only[Za9,RP.den,Zbe] at h;subst h;exact⟨_,[],rfl,by simp[Za9,RP.den,Zbe],rfl⟩
  | str s=>simp only[Za9,RP.den,Zbe] at h;subst h;exact⟨_,[],rfl,by simp[Za9,RP.den,Zbe],rfl⟩
  | nilfn=>simp only[Za9,RP.den,Zbe] at h;subst h;exact⟨_,[],rfl,by simp[Za9,RP.den,Zbe],rfl⟩
  | nilp=>simp only[Za9,RP.den,Zbe] at h;subst h;exact⟨_,[],rfl,by simp[Za9,RP.den,Zbe],rfl⟩
  | nilI=>simp only[Za9,RP.den,Zbe] at h;subst h;exact⟨_,[],rfl,by simp[Za9,RP.den,Zbe],rfl⟩
  | list own xs=>
   have h':=h
   obtain⟨a,len,cap,rfl,_⟩:=h'
   exact⟨_,[],rfl,h,rfl⟩
  | fn f caps=>
   have h':=h
   obtain⟨us,rfl,_⟩:=h'
   exact⟨_,[],rfl,h,rfl⟩
  | rptr cs=>
   have h':=h
   obtain⟨b,off,rfl,_⟩:=h'
   exact⟨_,[],rfl,h,rfl⟩
  | iface t v=>
   have h':=h
   obtain⟨u',rfl,_⟩:=h'
   exact⟨_,[],rfl,h,rfl⟩
 | bad=>simp[V.okb] at hv
 | tup cs=>simp[V.okb] at hv
 | agg cs=>
  obtain⟨us,rfl,h⟩:=h
  simpa [V.cells,Value.cells] using h
 | nilsl sz=>
  have h':=h
  obtain⟨a,rfl⟩:=h'
  exact⟨_,[],rfl,h,rfl⟩
 | fn f caps=>
  have h':=h
  obtain⟨us,rfl,_⟩:=h'
  exact⟨_,[],rfl,h,rfl⟩
 | ptr b o=>
  have h':=h
  obtain⟨c,_,rfl⟩:=h'
  exact⟨_,[],rfl,h,rfl⟩
 | eptr b sz i k=>
  have h':=h
  obtain⟨c,_,rfl⟩:=h'
  exact⟨_,[],rfl,h,rfl⟩
 | sl b sz=>
  have h':=h
  obtain⟨⟨a,n,c,rfl⟩,_⟩:=h'
  exact⟨_,[],rfl,h,rfl⟩
 | slp b sz o l=>
  have h':=h
  obtain⟨⟨a,n,c,rfl⟩,_⟩:=h'
  exact⟨_,[],rfl,h,rfl⟩
 | mp b=>
  have h':=h
  obtain⟨⟨a,rfl⟩,_⟩:=h'
  exact⟨_,[],rfl,h,rfl⟩
end
structure Pre (G:ZbD) (R:RP) (w:World) (e:Env) (a:Act) (Hm:Zo):Prop where
 ok:R.OK w
 g:GOK G R w
 env:Zhp R w e a
 le:∀b blk,nth Hm b=some blk→blk ≠ .dead→nth R.H b=some blk
section
variable {P:Program} {G:ZbD} {R:RP} {w:World} {e:Env} {a:Act} {Hm H':Zo} {nid:Nat} {o:Oper}
theorem Pre.opd (pre:Pre G R w e a Hm) {x:Operand}{y:Opd} (h:ZU G x y=true):Za9 R w (y.val e) (a.eval x):=ZoX pre.g pre.env h
theorem Pre.opds (pre:Pre G R w e a Hm) {xs:List Operand}{ys:List Opd} (h:Ze9 G xs ys=true):ZaJ R w (vals e ys) (xs.map a.eval):=Zrp pre.g pre.env h
theorem Zb1 {s:Sem Value}{u:Value}{w':World}{Po:Value→World→Prop} (hx:execOp a.eval o=(do pure (Next.value (← s)))) (hr:s.run P w = .ok u w') (hp:Po u w'):Zdp P o a w Po:=
 .val (by rw[hx];simp[hr]) hp
theorem ZAt (pre:Pre G R w e a Hm) {x:Operand}{y:Opd} (hop:o.op = .move x∨o.op = .assign x) (hx:ZU G x y=true) (hp:Zai R.H [] nid [] H') :
  Zdp P o a w (Z3 R w nid 0 H' (y.val e)):=by
 refine .val (u:=a.eval x) (w':=w) ?_ (Z3.stay pre.ok hp (pre.opd hx))
 rcases hop with h | h<;>(unfold execOp;rw[h];rfl)
theorem ZBP (pre:Pre G R w e a Hm) {c x y:Operand}{c' x' y':Opd}{t:Bool} (hop:o.op = .pick c x y) (hc:ZU G c c'=true) (hx:ZU G x x'=true) (hy:ZU G y y'=true)
  (ht:c'.val e = .d (.bool t)) (hp:Zai R.H [] nid [] H'):Zdp P o a w (Z3 R w nid 0 H' (bif t then x'.val e else y'.val e)):=by
 have hcv:=pre.opd hc
 rw[ht] at hcv
 simp only[Za9,RP.den,Zbe] at hcv
 refine .val (u:=if t=true then a.eval x else a.eval y) (w':=w) ?_ (Z3.stay pre.ok hp ?_)
 ·unfold execOp;rw[hop];simp[hcv,asBool]
 ·cases t
  ·exact pre.opd hy
  ·exact pre.opd hx
theorem Zos {t:TypeId}{x:Addr}{u:Value} (h:Zho P t=some false) (hc:w.cell? x=some u):(loadVar t x).run P w = .ok u w:=by
 unfold loadVar
 simp only[Sem.run_bind,ZgM h,Result.andThen_ok,Bool.false_eq_true,if_false,run_load,hc]
theorem Zou {t:TypeId}{x:Addr}{us:List Value} (h:Zho P t=some true) (hs:Zf9 P t=some us.length) (hc:∀(j:Nat) v,us[j]? = some v→w.cell? (x.add j)=some v) :
  (loadVar t x).run P w = .ok (.agg us.toArray) w:=by
 unfold loadVar
 simp only[Sem.run_bind,ZgM h,Zen hs,Result.andThen_ok,if_true,run_loadCells_list w x us hc,Sem.run_pure]
theorem ZjV {n:Nat}{ag:Bool}{cs:List V}{v:V}{t:TypeId}{b off:Nat} (hc:∀(j:Nat) v,cs[j]? = some v→∃u,w.cell? ⟨b,off+j,none⟩=some u∧Za9 R w v u)
  (hag:Zho P t=some ag) (hsz:Zf9 P t=some n) (h:Zdb n ag cs=some v):∃u,(loadVar t ⟨b,off,none⟩).run P w = .ok u w∧Za9 R w v u:=by
 unfold Zdb at h
 cases ag with
 | false=>
  simp only[cond_false] at h
  obtain⟨u,h1,h2⟩:=hc 0 v (by rw[← List.head?_eq_getElem?];exact h)
  exact⟨u,Zos hag (by simpa using h1),h2⟩
 | true=>
  simp only[cond_true] at h
  cases hl:Nat.beq (cs.take n).length n with
  | false=>rw[hl] at h;cases h
  | true=>
   rw[hl] at h
   simp only[cond_true,Option.some.injEq] at h
   subst h
   have hl':(cs.take n).length=n:=Nat.eq_of_beq_eq_true hl
   let us:List Value:=(List.range n).map fun j=>(w.cell? ⟨b,off+j,none⟩).getD undef
   have hus:us.length=n:=by simp[us]
   have key:∀(j:Nat) v,(cs.take n)[j]? = some v→∃u,us[j]? = some u∧w.cell? ⟨b,off+j,none⟩=some u∧Za9 R w v u:=by
    intro j v hj
    have hjn:j<n:=by have:=(List.getElem?_eq_some_iff.1 hj).1;omega
    obtain⟨u,h1,h2⟩:=hc j v (by rw[List.getElem?_take] at hj;simpa [hjn] using hj)
    exact⟨u,by simp[us,hjn,h1],h1,h2⟩
   refine⟨.agg us.toArray,Zou hag (by rw[hus];exact hsz) ?_,Zpq (Zje _ _ (by omega) ?_)⟩
   ·intro j v hv
    have hjn:j<n:=by have:=(List.getElem?_eq_some_iff.1 hv).1;omega
    obtain⟨v0,hv0⟩:∃v0,(cs.take n)[j]? = some v0:=⟨_,List.getElem?_eq_getElem (by omega)⟩
    obtain⟨u,f1,f2,_⟩:=key j v0 hv0
    rw[hv] at f1;cases f1
    rw[Addr.add_lit];exact f2
   ·intro j v u hv hu
    obtain⟨u',f1,_,f3⟩:=key j v hv
    rw[hu] at f1;cases f1;exact f3
theorem Zcz {b off:Nat}{cs:Array Value}{el:TypeId}{fr:Nat×Nat} (h:w.heap[b]? = some (.cells cs el fr)):w.cell? ⟨b,off,none⟩=cs[off]?:=by
 simp[World.cell?,h]
theorem Zvy (pre:Pre G R w e a Hm) {n:Nat}{ag:Bool}{t:TypeId}{x v:V}{u0:Value} (hag:Zho P t=some ag) (hsz:Zf9 P t=some n) (hx:Za9 R w x u0) (h:Zds Hm n ag x=some v) :
  ∃u,(Instr.loadAt t u0).run P w = .ok u w∧Za9 R w v u:=by
 unfold Zds at h
 cases x with
 | ptr b o=>
  dsimp only at h
  cases hb:nth Hm b with
  | none=>simp[hb] at h
  | some blk=>
   rw[hb] at h
   cases blk<;>try (cases h;done)
   rename_i cs
   have hb':=pre.le b _ hb (by simp)
   obtain⟨c,h1,rfl⟩:=hx
   rw[Z0] at hb'
   obtain⟨c',cs',el,fr,e1,e2,e3,e4,e5⟩:=pre.ok.blk b _ _ hb' h1
   cases e1
   obtain⟨u,f1,f2⟩:=ZjV (P:=P) (cs:=cs.drop o) (b:=c) (off:=o) (by
    intro j v hj
    obtain⟨u,g1,g2⟩:=e5 (o+j) v (by simpa using hj)
    exact⟨u,by rw[Zcz e2];exact g1,g2⟩) hag hsz h
   exact⟨u,by simpa [Instr.loadAt,Instr.sureAddr] using f1,f2⟩
 | eptr b sz i k=>
  dsimp only at h
  cases hb:nth Hm b with
  | none=>simp[hb] at h
  | some blk=>
   rw[hb] at h
   cases blk<;>try (cases h;done)
   rename_i sz' xs
   dsimp only at h
   cases hs:Nat.beq sz sz' with
   | false=>simp[hs] at h
   | true=>
    obtain rfl:=Nat.eq_of_beq_eq_true hs
    simp only[hs,cond_true] at h
    cases hxi:nth xs i with
    | none=>simp[hxi] at h
    | some y=>
     simp only[hxi] at h
     have hb':=pre.le b _ hb (by simp)
     obtain⟨c,h1,rfl⟩:=hx
     rw[Z0] at hb' hxi
     obtain⟨e0,e1,e2⟩:=pre.ok.blk b _ _ hb' h1
     rcases e2 with⟨e2,_⟩ | ⟨c',cs,el,e2,e3,e4,e5⟩
     ·cases e2
     ·cases e2
      obtain⟨uy,f1,f2,f3⟩:=e5 i y hxi
      have hyb:(V.d y).okb=true∨∃ts,y = .tup ts:=by cases y<;>simp[V.okb]
      rcases hyb with hyb | ⟨ts,rfl⟩
      ·have hcs:=ZgU (R:=R) (v:=.d y) f1 hyb
       have hVc:(V.d y).cells=ZcN y.cells:=by cases y<;>rfl
       rw[hVc] at hcs
       obtain⟨u,g1,g2⟩:=ZjV (P:=P) (cs:=ZcN (y.cells.drop k)) (b:=c) (off:=i*sz+k) (by
        intro j v hj
        have hj':(ZcN y.cells)[k+j]? = some v:=by
         rw[Zjw,List.getElem?_map] at hj ⊢
         simpa using hj
        obtain⟨u,p1,p2⟩:=Zfl _ _ _ _ hcs hj'
        refine⟨u,?_,p2⟩
        rw[Zcz e3,Nat.add_assoc]
        exact f3 (k+j) u (by simpa using p1)) hag hsz h
       exact⟨u,by simpa [Instr.loadAt,Instr.sureAddr] using g1,g2⟩
      ·have f1':=f1
       obtain⟨us,rfl,_⟩:=f1'
       obtain⟨u,g1,g2⟩:=ZjV (P:=P) (cs:=ZcN (D.cells (.tup ts) |>.drop k)) (b:=c) (off:=i*sz+k) (by
        intro j v hj
        cases k with
        | zero=>
         cases j with
         | zero=>
          simp[D.cells,ZcN] at hj
          subst hj
          refine⟨.tuple us.toArray,?_,f1⟩
          rw[Zcz e3]
          have:=f3 0 (.tuple us.toArray) rfl
          simpa using this
         | succ j=>simp[D.cells,ZcN] at hj
        | succ k=>simp[D.cells,ZcN] at hj) hag hsz h
       exact⟨u,by simpa [Instr.loadAt,Instr.sureAddr] using g1,g2⟩
 | d y=>
  cases y<;>try (cases h;done)
  rename_i cs
  dsimp only at h
  obtain⟨b,off,rfl,h1,h2,h3⟩:=hx
  obtain⟨u,g1,g2⟩:=ZjV (P:=P) (cs:=ZcN cs) (b:=b) (off:=off) (by
   intro j v hj
   rw[Zjw,List.getElem?_map] at hj
   cases hcj:cs[j]? with
   | none=>simp[hcj] at hj
   | some x=>
    simp[hcj] at hj
    subst hj
    obtain⟨u,p1,p2⟩:=Zks cs off j x h3 hcj
    exact⟨u,p1,p2⟩) hag hsz h
  exact⟨u,by simpa [Instr.loadAt,Instr.sureAddr] using g1,g2⟩
 | bad=>cases h
 | sl b sz=>cases h
 | slp b sz o l=>cases h
 | nilsl sz=>cases h
 | agg cs=>cases h
 | tup cs=>cases h
 | fn f cs=>cases h
 | mp b=>cases h
theorem ZAU (pre:Pre G R w e a Hm) {n:Nat}{ag:Bool}{t:TypeId}{x:Operand}{y:Opd}{v:V} (hop:o.op = .load t x) (hx:ZU G x y=true) (hag:Zho P t=some ag) (hsz:Zf9 P t=some n)
  (h:Zds Hm n ag (y.val e)=some v) (hp:Zai R.H [] nid [] H'):Zdp P o a w (Z3 R w nid 0 H' v):=by
 obtain⟨u,h1,h2⟩:=Zvy pre hag hsz (pre.opd hx) h
 exact Zb1 (s:=Instr.loadAt t (a.eval x)) (by unfold execOp;rw[hop]) h1 (Z3.stay pre.ok hp h2)
def ZjL (P:Program) (s:TypeId) (f:Nat):Option (Nat×TypeId):=
 match P.underlying s with
 | some (.struct fields)=>(fields[f]?).map fun x=>(x.offset,x.type)
 | _=>none
theorem ZmN {s:TypeId}{f off:Nat}{t:TypeId} (h:ZjL P s f=some (off,t)):∃fields fd,P.underlying s=some (.struct fields)∧fields[f]? = some fd∧fd.offset=off∧fd.type=t:=by
 unfold ZjL at h
 split at h
 ·rename_i fields hu
  cases hf:fields[f]? with
  | none=>simp[hf] at h
  | some fd=>
   simp only[hf,Option.map_some,Option.some.injEq,Prod.mk.injEq] at h
   exact⟨fields,fd,hu,hf,h.1,h.2⟩
 ·cases h
theorem Ztp {s:TypeId}{f off n:Nat}{t:TypeId}{x:Addr} (h:ZjL P s f=some (off,t)) (hn:Zf9 P t=some n) (h0:n≠0) :
  (Instr.fieldAt s (.pointer (some x)) f).run P w = .ok (.pointer (some (x.add off))) w:=by
 obtain⟨fields,fd,h1,h2,rfl,rfl⟩:=ZmN h
 simp[Instr.fieldAt,run_underlying h1,h2,Instr.sureAddr,fieldPlace,Zen hn,h0]
theorem Ztb (pre:Pre G R w e a Hm) {off:Nat}{x v:V}{u0:Value} (hx:Za9 R w x u0) (h:ZjN Hm off x=some v):∃ad,u0 = .pointer (some ad)∧Za9 R w v (.pointer (some (ad.add off))):=by
 unfold ZjN at h
 cases x<;>try (cases h;done)
 ·rename_i y
  cases y<;>try (cases h;done)
  rename_i cs
  simp only[Option.some.injEq] at h
  subst h
  obtain⟨b,of,rfl,h1,h2,h3⟩:=hx
  exact⟨_,rfl,b,of+off,by rw[Addr.add_lit],h1,h2,Zqs cs of off h3⟩
 ·rename_i b o
  simp only[Option.some.injEq] at h
  subst h
  obtain⟨c,h1,rfl⟩:=hx
  exact⟨_,rfl,c,h1,by rw[Addr.add_lit]⟩
 ·rename_i b sz i k
  simp only[Option.some.injEq] at h
  subst h
  obtain⟨c,h1,rfl⟩:=hx
  exact⟨_,rfl,c,h1,by rw[Addr.add_lit,Nat.add_assoc]⟩
theorem Zz9 (pre:Pre G R w e a Hm) {s t:TypeId}{f off n:Nat}{x:Operand}{y:Opd}{v:V} (hop:o.op = .fieldAddr s x f) (hx:ZU G x y=true) (hf:ZjL P s f=some (off,t)) (hn:Zf9 P t=some n) (h0:n≠0)
  (h:ZjN Hm off (y.val e)=some v) (hp:Zai R.H [] nid [] H'):Zdp P o a w (Z3 R w nid 0 H' v):=by
 obtain⟨ad,h1,h2⟩:=Ztb pre (pre.opd hx) h
 exact Zb1 (s:=Instr.fieldAt s (a.eval x) f) (by unfold execOp;rw[hop]) (by rw[h1];exact Ztp hf hn h0) (Z3.stay pre.ok hp h2)
theorem ZjQ {k:IntKind}{n:Int}{u:Value} (h:Za9 R w (.d (.int k n)) u):u = .int k n:=h
theorem Zwe {b:Bool}{u:Value} (h:Za9 R w (.d (.bool b)) u):u = .bool b:=h
theorem Zz8 {op:BinOp}{x y:V}{r:D}{u1 u2:Value} (t:TypeId) (ox oy:Operand) (hx:Za9 R w x u1) (hy:Za9 R w y u2) (h:ZnP op x y=some r) :
  ∃u,((do eqGuard op t ox oy u1 u2;binOp op t u1 u2:Sem Value)).run P w = .ok u w∧R.den w r u:=by
 unfold ZnP at h
 split at h
 ·rename_i i a1 j b1
  cases ZjQ hx;cases ZjQ hy
  unfold shI at h
  cases hb:decide (b1<0) with
  | true=>simp[hb] at h
  | false=>
   simp only[hb,cond_false,Option.some.injEq] at h
   subst h
   have hb':¬b1<0:=of_decide_eq_false hb
   refine⟨_,?_,rfl⟩
   simp[eqGuard,binOp,Op.shift,hb']
 ·rename_i i a1 j b1
  cases ZjQ hx;cases ZjQ hy
  unfold shI at h
  cases hb:decide (b1<0) with
  | true=>simp[hb] at h
  | false=>
   simp only[hb,cond_false,Option.some.injEq] at h
   subst h
   have hb':¬b1<0:=of_decide_eq_false hb
   refine⟨_,?_,rfl⟩
   simp[eqGuard,binOp,Op.shift,hb']
 ·rename_i op' i a1 j b1 hn1 hn2
  cases ZjQ hx;cases ZjQ hy
  cases hk:i==j with
  | false=>simp[hk] at h
  | true=>
   obtain rfl:i=j:=by simpa using hk
   simp only[hk,cond_true] at h
   cases op<;>simp only[ZzX,Option.some.injEq] at h
   case shl=>exact(hn1 rfl).elim
   case shr=>exact(hn2 rfl).elim
   case andNot=>cases h
   case quo=>
    cases hb:b1==0 with
    | true=>simp[hb] at h
    | false=>
     simp only[hb,cond_false,Option.some.injEq] at h
     subst h
     exact⟨_,by simp[eqGuard,binOp,Op.intDiv,show ¬b1=0 by simpa using hb],rfl⟩
   case rem=>
    cases hb:b1==0 with
    | true=>simp[hb] at h
    | false=>
     simp only[hb,cond_false,Option.some.injEq] at h
     subst h
     exact⟨_,by simp[eqGuard,binOp,Op.intDiv,show ¬b1=0 by simpa using hb],rfl⟩
   all_goals (subst h;exact⟨_,by simp[eqGuard,binOp,Op.intArith,Op.intBits,Op.intCmp],rfl⟩)
 ·cases h
theorem ZCk (pre:Pre G R w e a Hm) {op:BinOp}{t t':TypeId}{x y:Operand}{x' y':Opd}{r:D} (hop:o.op = .binOp op t x y t') (hx:ZU G x x'=true) (hy:ZU G y y'=true)
  (h:ZnP op (x'.val e) (y'.val e)=some r) (hp:Zai R.H [] nid [] H'):Zdp P o a w (Z3 R w nid 0 H' (.d r)):=by
 obtain⟨u,h1,h2⟩:=Zz8 (P:=P) t x y (pre.opd hx) (pre.opd hy) h
 exact Zb1 (s:=do eqGuard op t x y (a.eval x) (a.eval y);binOp op t (a.eval x) (a.eval y)) (by unfold execOp;rw[hop]) h1 (Z3.stay pre.ok hp h2)
theorem ZFb (pre:Pre G R w e a Hm) {op:UnOp}{t:TypeId}{x:Operand}{x':Opd}{r:D} (hop:o.op = .unOp op t x) (hx:ZU G x x'=true)
  (h:unE op (x'.val e)=some r) (hp:Zai R.H [] nid [] H'):Zdp P o a w (Z3 R w nid 0 H' (.d r)):=by
 have hv:=pre.opd hx
 unfold unE at h
 split at h
 ·rename_i b hb
  rw[hb] at hv
  simp only[Option.some.injEq] at h
  subst h
  exact Zb1 (s:=Op.unary .not (a.eval x)) (u:=.bool !b) (by unfold execOp;rw[hop]) (by rw[Zwe hv];rfl) (Z3.stay pre.ok hp rfl)
 ·rename_i k n hb
  rw[hb] at hv
  simp only[Option.some.injEq] at h
  subst h
  exact Zb1 (s:=Op.unary .neg (a.eval x)) (u:=.int k (k.wrap (0-n))) (by unfold execOp;rw[hop]) (by rw[ZjQ hv];rfl) (Z3.stay pre.ok hp rfl)
 ·cases h
theorem ZBj (pre:Pre G R w e a Hm) {s t:TypeId}{k k0:IntKind}{n:Int}{ds:TypeDesc}{x:Operand}{x':Opd} (hop:o.op = .convert s t x) (hx:ZU G x x'=true) (hs:P.underlying s=some ds) (ht:P.underlying t=some (.int k))
  (h:x'.val e = .d (.int k0 n)) (hp:Zai R.H [] nid [] H'):Zdp P o a w (Z3 R w nid 0 H' (.d (.int k (k.wrap n)))):=by
 have hv:=pre.opd hx
 rw[h] at hv
 refine Zb1 (s:=convert s t (a.eval x)) (u:=.int k (k.wrap n)) (by unfold execOp;rw[hop]) ?_ (Z3.stay pre.ok hp rfl)
 rw[ZjQ hv]
 simp[convert,run_underlying hs,run_underlying ht,Conv.intToInt]
theorem Zrv (pre:Pre G R w e a Hm) {x:Operand}{x':Opd}{i:Nat}{v:V} (hop:o.op = .extract x i) (hx:ZU G x x'=true)
  (h:(∃vs,x'.val e = .tup vs∧nth vs i=some v)∨(∃vs y,x'.val e = .d (.tup vs)∧nth vs i=some y∧v = .d y)) (hp:Zai R.H [] nid [] H'):Zdp P o a w (Z3 R w nid 0 H' v):=by
 have hv:=pre.opd hx
 rcases h with⟨vs,h1,h2⟩ | ⟨vs,y,h1,h2,rfl⟩
 ·rw[h1] at hv
  obtain⟨us,h3,h4⟩:=hv
  rw[Z0] at h2
  obtain⟨u,h5,h6⟩:=Zfl vs us i v h4 h2
  exact Zb1 (s:=Instr.extract (a.eval x) i) (u:=u) (by unfold execOp;rw[hop]) (by rw[h3];simp[Instr.extract,h5]) (Z3.stay pre.ok hp h6)
 ·rw[h1] at hv
  obtain⟨us,h3,h4⟩:=hv
  rw[Z0] at h2
  obtain⟨u,h5,h6⟩:=ZgT vs us i y h4 h2
  exact Zb1 (s:=Instr.extract (a.eval x) i) (u:=u) (by unfold execOp;rw[hop]) (by rw[h3];simp[Instr.extract,h5]) (Z3.stay pre.ok hp h6)
theorem ZBu (pre:Pre G R w e a Hm) {f:Nat}{first caps:Array Operand}{ys:List Opd} (hop:o.op = .makeFunc (.func f) first caps) (hf:first = #[]) (hx:Ze9 G caps.toList ys=true) (hp:Zai R.H [] nid [] H') :
  Zdp P o a w (Z3 R w nid 0 H' (match ys with | []=>.d (.fn f []) | ys=>.fn f (vals e ys))):=by
 subst hf
 have hv:=pre.opds hx
 refine Zb1 (s:=Instr.makeFunc (.func f) (#[].map a.eval) (caps.map a.eval)) (u:=.func (.func f) #[] (caps.toList.map a.eval).toArray) (by unfold execOp;rw[hop]) (by
  have hc:caps.map a.eval=(caps.toList.map a.eval).toArray:=by apply Array.ext';simp
  rw[hc];simp[Instr.makeFunc]) (Z3.stay pre.ok hp ?_)
 cases ys with
 | nil=>
  simp only[vals,ZaJ] at hv
  exact⟨[],by simp[hv],rfl⟩
 | cons y ys=>exact⟨_,rfl,hv⟩
end
end Go.Proofs.YtnmbdjkbaihicaaDoorE
namespace Go.Proofs.YtnmbdjkbaihicaaDoorE
open Go
set_option linter.unusedVariables false
set_option linter.unusedSimpArgs false
section
variable {P:Program} {G:ZbD} {R:RP} {w:World} {e:Env} {a:Act} {Hm H':Zo} {nid:Nat} {o:Oper}
theorem Zsg {n:Nat}{ag:Bool}{cs:List V}{us:List Value}{v:V}{t:TypeId}{off:Nat} (hd:ZaJ R w cs us) (hag:Zho P t=some ag) (hsz:Zf9 P t=some n) (h:Zdb n ag (cs.drop off)=some v) :
  ∃u,(part t us.toArray off).run P w = .ok u w∧Za9 R w v u:=by
 unfold Zdb at h
 cases ag with
 | false=>
  simp only[cond_false] at h
  rw[List.head?_eq_getElem?,List.getElem?_drop] at h
  obtain⟨u,h1,h2⟩:=Zfl cs us _ v hd h
  refine⟨u,?_,h2⟩
  simp only[Nat.add_zero] at h1
  simp[part,ZgM hag,h1]
 | true=>
  simp only[cond_true] at h
  cases hl:Nat.beq ((cs.drop off).take n).length n with
  | false=>rw[hl] at h;cases h
  | true=>
   rw[hl] at h
   simp only[cond_true,Option.some.injEq] at h
   subst h
   have hl':((cs.drop off).take n).length=n:=Nat.eq_of_beq_eq_true hl
   refine⟨.agg (((us.drop off).take n).toArray),?_,Zpq (Zje _ _ ?_ ?_)⟩
   ·simp[part,ZgM hag,Zen hsz,List.drop_take]
   ·have:=Zd8 cs us hd
    simp only[List.length_take,List.length_drop] at hl' ⊢
    omega
   ·intro j v u hv hu
    have hj:j<n:=by have:=(List.getElem?_eq_some_iff.1 hv).1;omega
    rw[List.getElem?_take,if_pos hj,List.getElem?_drop] at hv hu
    obtain⟨u',g1,g2⟩:=Zfl cs us _ v hd hv
    rw[hu] at g1;cases g1;exact g2
theorem ZuX (pre:Pre G R w e a Hm) {s t:TypeId}{f off n:Nat}{ag:Bool}{x:Operand}{y:Opd}{v:V} (hop:o.op = .field s x f) (hx:ZU G x y=true) (hf:ZjL P s f=some (off,t)) (hag:Zho P t=some ag) (hsz:Zf9 P t=some n)
  (h:(∃cs,y.val e = .d (.agg cs)∧Zdb n ag (ZcN (cs.drop off))=some v)∨(∃cs,y.val e = .agg cs∧Zdb n ag (cs.drop off)=some v)) (hp:Zai R.H [] nid [] H'):Zdp P o a w (Z3 R w nid 0 H' v):=by
 obtain⟨fields,fd,h1,h2,rfl,rfl⟩:=ZmN hf
 have hv:=pre.opd hx
 have key:∃us:List Value,a.eval x = .agg us.toArray∧∃u,(part fd.type us.toArray fd.offset).run P w = .ok u w∧Za9 R w v u:=by
  rcases h with⟨cs,h3,h4⟩ | ⟨cs,h3,h4⟩
  ·rw[h3] at hv
   obtain⟨us,h5,h6⟩:=hv
   refine⟨us,h5,Zsg (cs:=ZcN cs) ((Zdn cs us).2 h6) hag hsz ?_⟩
   rw[Zjw] at h4 ⊢
   rw[← List.map_drop];exact h4
  ·rw[h3] at hv
   obtain⟨us,h5,h6⟩:=hv
   exact⟨us,h5,Zsg h6 hag hsz h4⟩
 obtain⟨us,h5,u,h6,h7⟩:=key
 exact Zb1 (s:=Instr.field s (a.eval x) f) (by unfold execOp;rw[hop]) (by rw[h5];simp[Instr.field,run_underlying h1,h2,asAgg,h6]) (Z3.stay pre.ok hp h7)
def Zq9 (P:Program) (t:TypeId):Option (Nat×TypeId):=match P.underlying t with | some (.array n e)=>some (n,e) | _=>none
theorem Zqc {t el:TypeId}{n:Nat} (h:Zq9 P t=some (n,el)):P.underlying t=some (.array n el):=by
 unfold Zq9 at h;split at h<;>simp_all
def Zov (P:Program) (t:TypeId):Option TypeId:=match P.underlying t with | some (.slice e)=>some e | _=>none
theorem Zk5 {t el:TypeId} (h:Zov P t=some el):P.underlying t=some (.slice el):=by
 unfold Zov at h;split at h<;>simp_all
theorem Zzc (pre:Pre G R w e a Hm) {t el:TypeId}{len n:Nat}{ag:Bool}{x i:Operand}{y j:Opd}{v:V} (hop:o.op = .index t x i) (hx:ZU G x y=true) (hi:ZU G i j=true) (ht:Zq9 P t=some (len,el)) (hag:Zho P el=some ag) (hsz:Zf9 P el=some n)
  (h:Zml len n ag (y.val e) (j.val e)=some v) (hp:Zai R.H [] nid [] H'):Zdp P o a w (Z3 R w nid 0 H' v):=by
 have hv:=pre.opd hx
 have hiv:=pre.opd hi
 unfold Zml at h
 split at h
 ·rename_i k m hj
  rw[hj] at hiv
  cases hc:((y.val e).isAggV&&(decide (0≤m)&&decide (m<len))) with
  | false=>rw[hc] at h;cases h
  | true=>
   rw[hc] at h
   simp only[cond_true] at h
   simp only[Bool.and_eq_true,decide_eq_true_eq] at hc
   obtain⟨hav,hc⟩:=hc
   have hagg:(∃cs,y.val e = .d (.agg cs))∨∃cs,y.val e = .agg cs:=by
    unfold V.isAggV at hav
    split at hav
    ·rename_i cs hv';exact .inl ⟨cs,hv'⟩
    ·rename_i cs hv';exact .inr ⟨cs,hv'⟩
    ·cases hav
   have hb:(y.val e).okb=true:=by rcases hagg with⟨cs,h3⟩ | ⟨cs,h3⟩<;>rw[h3]<;>rfl
   have hcs:=ZgU hv hb
   have hag':∃us,a.eval x = .agg us:=by
    rcases hagg with⟨cs,h3⟩ | ⟨cs,h3⟩<;>(rw[h3] at hv;obtain⟨us,h5,_⟩:=hv;exact⟨_,h5⟩)
   obtain⟨us,hus⟩:=hag'
   rw[hus] at hcs
   obtain⟨u,h1,h2⟩:=Zsg (P:=P) hcs hag hsz h
   refine Zb1 (s:=Instr.index t (a.eval x) (a.eval i)) (u:=u) (by unfold execOp;rw[hop]) ?_ (Z3.stay pre.ok hp h2)
   rw[hus,ZjQ hiv]
   simp only[Value.cells,Array.toArray_toList] at h1
   simp[Instr.index,asIntOf,run_underlying (Zqc ht),hc,Zen hsz,h1]
 ·cases h
theorem ZyY (pre:Pre G R w e a Hm) {t:TypeId}{x i:Operand}{y j:Opd}{v:V} (hop:o.op = .index t x i) (hx:ZU G x y=true) (hi:ZU G i j=true) (ht:P.underlying t=some .string)
  (h:ZjP (y.val e) (j.val e)=some v) (hp:Zai R.H [] nid [] H'):Zdp P o a w (Z3 R w nid 0 H' v):=by
 have hv:=pre.opd hx
 have hiv:=pre.opd hi
 unfold ZjP at h
 split at h
 ·rename_i s k m hy hj
  rw[hj] at hiv
  rw[hy] at hv
  cases hc:decide (0≤m) with
  | false=>rw[hc] at h;cases h
  | true=>
   rw[hc] at h
   simp only[cond_true] at h
   have h0:0≤m:=of_decide_eq_true hc
   cases hs:s[m.toNat]? with
   | none=>rw[hs] at h;cases h
   | some b=>
    rw[hs] at h
    simp only[Option.some.injEq] at h
    subst h
    refine Zb1 (s:=Instr.index t (a.eval x) (a.eval i)) (u:=.int .u8 b.toNat) (by unfold execOp;rw[hop]) ?_ (Z3.stay pre.ok hp rfl)
    rw[ZjQ hiv,show a.eval x = .string s from hv]
    simp[Instr.index,asIntOf,run_underlying ht,h0,hs]
 ·cases h
theorem Ze6 {m:Option Nat}{xs:List D}{sz of len:Nat}{u:Value} (h:ZrT w m xs sz of len u) (h0:0<len∨of<xs.length) :
  ∃c cs el fr cap,m=some c∧u = .slice (some ⟨c,of*sz,none⟩) len cap∧len≤cap∧w.heap[c]? = some (.cells cs el fr)∧cs.size=(of+cap)*sz:=by
 obtain⟨h1,ad,cap,rfl,h3,h4⟩:=h
 rcases h4 with⟨rfl,h4⟩ | ⟨c,cs,el,fr,rfl,rfl,h6,h7⟩
 ·exfalso;omega
 ·exact⟨c,cs,el,fr,cap,rfl,rfl,h3,h6,h7⟩
theorem ZsV {t el:TypeId}{n:Nat}{ad:Addr}{len cap:Nat}{k:IntKind}{i:Int} (ht:Zov P t=some el) (hsz:Zf9 P el=some n) (h0:0≤i) (h1:i<len) :
  (Instr.indexAt t (.slice (some ad) len cap) (.int k i)).run P w = .ok (.pointer (some (ad.add (i.toNat*n)))) w:=by
 simp[Instr.indexAt,asIntOf,run_underlying (Zk5 ht),Zen hsz,h0,h1]
theorem Zy2 {A1 A0 AL:Nat→Prop}{b off:Nat}{x:D}{u:Value} (hu:Zbe A1 A0 AL w x u) (hb:(V.d x).okb=true) (hc:∀(k:Nat) v,u.cells[k]? = some v→w.cell? ⟨b,off+k,none⟩=some v) :
  u.cells.size=x.cells.length∧ZcL A1 A0 AL w b off x.cells:=by
 have one:∀{x:D} {u:Value},Zbe A1 A0 AL w x u→u.cells = #[u]→x.cells=[x]→(∀(k:Nat) v,u.cells[k]? = some v→w.cell? ⟨b,off+k,none⟩=some v)→u.cells.size=x.cells.length∧ZcL A1 A0 AL w b off x.cells:=by
  intro x u h1 h2 h3 h4
  have h5:=h4 0 u (by rw[h2];rfl)
  rw[h2,h3]
  exact⟨rfl,⟨u,by simpa using h5,h1⟩,trivial⟩
 cases x with
 | agg cs=>
  obtain⟨us,rfl,h⟩:=hu
  refine⟨by simpa [Value.cells,D.cells] using Zqt cs us h,Zhg _ _ fun j y hj=>?_⟩
  obtain⟨u,h1,h2⟩:=ZgT cs us j y h hj
  exact⟨u,hc j u (by simpa [Value.cells] using h1),h2⟩
 | tup cs=>simp[V.okb] at hb
 | bool b=>cases hu;exact one (x:=.bool b) rfl rfl rfl hc
 | int k n=>cases hu;exact one (x:=.int k n) rfl rfl rfl hc
 | str s=>cases hu;exact one (x:=.str s) rfl rfl rfl hc
 | nilfn=>cases hu;exact one (x:=.nilfn) rfl rfl rfl hc
 | nilp=>cases hu;exact one (x:=.nilp) rfl rfl rfl hc
 | nilI=>cases hu;exact one (x:=.nilI) rfl rfl rfl hc
 | list own xs=>
  have hu':=hu
  obtain⟨ad,len,cap,rfl,_⟩:=hu'
  exact one hu rfl rfl hc
 | fn f caps=>
  have hu':=hu
  obtain⟨us,rfl,_⟩:=hu'
  exact one hu rfl rfl hc
 | rptr cs=>
  have hu':=hu
  obtain⟨b',off',rfl,_⟩:=hu'
  exact one hu rfl rfl hc
 | iface t v=>
  have hu':=hu
  obtain⟨u',rfl,_⟩:=hu'
  exact one hu rfl rfl hc
theorem ZlO (pre:Pre G R w e a Hm) {b sz:Nat}{xs:List D}{u:Value} (hb:nth Hm b=some (.arr sz xs)) (h:Za9 R w (.sl b sz) u) :
  ∃m,R.M b=some m∧nth R.H b=some (.arr sz xs)∧Zhe R w m (.arr sz xs)∧ZrT w m xs sz 0 xs.length u:=by
 have hb':=pre.le b _ hb (by simp)
 obtain⟨_,m,h1,h2⟩:=h
 exact⟨m,h1,hb',pre.ok.blk b _ _ (by rw[← Z0];exact hb') h1,h2 xs hb'⟩
theorem ZjR (pre:Pre G R w e a Hm) {b sz o len:Nat}{xs:List D}{u:Value} (hb:nth Hm b=some (.arr sz xs)) (h:Za9 R w (.slp b sz o len) u) :
  ∃m,R.M b=some m∧nth R.H b=some (.arr sz xs)∧Zhe R w m (.arr sz xs)∧ZrT w m xs sz o len u:=by
 have hb':=pre.le b _ hb (by simp)
 obtain⟨_,m,h1,h2⟩:=h
 exact⟨m,h1,hb',pre.ok.blk b _ _ (by rw[← Z0];exact hb') h1,h2 xs hb'⟩
theorem Zzn (pre:Pre G R w e a Hm) {t el:TypeId}{n:Nat}{x i:Operand}{y j:Opd}{v:V} (hop:o.op = .indexAddr t x i) (hx:ZU G x y=true) (hi:ZU G i j=true) (ht:Zov P t=some el) (hsz:Zf9 P el=some n)
  (h:ZhO Hm n (y.val e) (j.val e)=some v) (hp:Zai R.H [] nid [] H'):Zdp P o a w (Z3 R w nid 0 H' v):=by
 have hv:=pre.opd hx
 have hiv:=pre.opd hi
 unfold ZhO at h
 have fin:∀{k:IntKind} {m:Int} {ad:Addr} {len cap:Nat} ,a.eval i = .int k m→a.eval x = .slice (some ad) len cap→0≤m→m<len→Za9 R w v (.pointer (some (ad.add (m.toNat*n))))→Zdp P o a w (Z3 R w nid 0 H' v):=
  fun h1 h2 h3 h4 h5=>Zb1 (s:=Instr.indexAt t (a.eval x) (a.eval i)) (by unfold execOp;rw[hop]) (by rw[h1,h2];exact ZsV ht hsz h3 h4) (Z3.stay pre.ok hp h5)
 split at h
 ·rename_i k m hj
  rw[hj] at hiv
  split at h
  ·rename_i own xs hy
   rw[hy] at hv
   cases hg:ZE xs m with
   | none=>rw[hg] at h;cases h
   | some z=>
    rw[hg] at h
    dsimp only at h
    cases hc:(Nat.beq z.cells.length n&&(V.d z).okb) with
    | false=>rw[hc] at h;cases h
    | true=>
     rw[hc] at h
     simp only[cond_true,Option.some.injEq] at h
     subst h
     simp only[Bool.and_eq_true] at hc
     obtain⟨h0,h1,h2⟩:=ZoB xs m z hg
     obtain⟨ad,len,cap,e1,rfl,e3,e4,e5⟩:=hv
     obtain⟨b,off,sz,rfl,f2,f3,f4⟩:=e5 (by intro hn;rw[hn] at h2;simp at h2)
     obtain⟨u,g1,g2,g3⟩:=ZiV xs off m.toNat z f4 h2
     obtain⟨q1,q2⟩:=Zy2 (b:=b) (off:=off+m.toNat*sz) g1 hc.2 g3
     have hn:sz=n:=by rw[← g2,q1];exact Nat.eq_of_beq_eq_true hc.1
     subst hn
     refine fin (ZjQ hiv) e1 h0 h1 ⟨b,off+m.toNat*sz,by rw[Addr.add_lit],?_,f3,q2⟩
     cases own
     ·exact f2
     ·exact⟨f2.1,fun hb=>f2.2 (pre.ok.b01 _ hb)⟩
  ·rename_i b sz' hy
   rw[hy] at hv
   cases hb:nth Hm b with
   | none=>rw[hb] at h;cases h
   | some blk=>
    rw[hb] at h
    cases blk<;>try (cases h;done)
    rename_i sz'' xs
    dsimp only at h
    cases hs:(Nat.beq n sz'&&Nat.beq n sz'') with
    | false=>rw[hs] at h;cases h
    | true=>
     rw[hs] at h
     simp only[Bool.and_eq_true] at hs
     obtain rfl:=Nat.eq_of_beq_eq_true hs.1
     obtain rfl:=Nat.eq_of_beq_eq_true hs.2
     simp only[cond_true] at h
     cases hg:ZE xs m with
     | none=>rw[hg] at h;cases h
     | some z=>
      rw[hg] at h
      simp only[Option.some.injEq] at h
      subst h
      obtain⟨h0,h1,h2⟩:=ZoB xs m z hg
      obtain⟨mm,q1,q2,q3,q4⟩:=ZlO pre hb hv
      obtain⟨c,cs,el',fr,cap,rfl,e1,e2,e3,e4⟩:=Ze6 q4 (.inr (by omega))
      refine fin (ZjQ hiv) e1 h0 h1 ⟨c,q1,?_⟩
      rw[Addr.add_lit,Nat.zero_mul,Nat.zero_add];rfl
  ·rename_i b sz' of ln hy
   rw[hy] at hv
   cases hb:nth Hm b with
   | none=>rw[hb] at h;cases h
   | some blk=>
    rw[hb] at h
    cases blk<;>try (cases h;done)
    rename_i sz'' xs
    dsimp only at h
    cases hs:(Nat.beq n sz'&&Nat.beq n sz'') with
    | false=>rw[hs] at h;cases h
    | true=>
     rw[hs] at h
     simp only[Bool.and_eq_true] at hs
     obtain rfl:=Nat.eq_of_beq_eq_true hs.1
     obtain rfl:=Nat.eq_of_beq_eq_true hs.2
     simp only[cond_true] at h
     cases hg:ZE ((xs.drop of).take ln) m with
     | none=>rw[hg] at h;cases h
     | some z=>
      rw[hg] at h
      simp only[Option.some.injEq] at h
      subst h
      obtain⟨h0,h1,h2⟩:=ZoB _ m z hg
      simp only[List.length_take,List.length_drop] at h1
      obtain⟨mm,q1,q2,q3,q4⟩:=ZjR pre hb hv
      obtain⟨c,cs,el',fr,cap,rfl,e1,e2,e3,e4⟩:=Ze6 q4 (.inr (by omega))
      refine fin (ZjQ hiv) e1 h0 (by omega) ⟨c,q1,?_⟩
      rw[Addr.add_lit,Nat.add_mul];rfl
  ·cases h
 ·cases h
end
end Go.Proofs.YtnmbdjkbaihicaaDoorE
namespace Go.Proofs.YtnmbdjkbaihicaaDoorE
open Go
set_option linter.unusedVariables false
set_option linter.unusedSimpArgs false
section
variable {P:Program} {G:ZbD} {R:RP} {w:World} {e:Env} {a:Act} {Hm H':Zo} {nid:Nat} {o:Oper}
theorem ZwV (pre:Pre G R w e a Hm) {t el:TypeId}{n len:Nat}{x i:Operand}{y j:Opd}{v:V} (hop:o.op = .indexAddr t x i) (hx:ZU G x y=true) (hi:ZU G i j=true) (ht:Zq9 P t=some (len,el)) (hsz:Zf9 P el=some n)
  (h:Zge Hm len n (y.val e) (j.val e)=some v) (hp:Zai R.H [] nid [] H'):Zdp P o a w (Z3 R w nid 0 H' v):=by
 have hv:=pre.opd hx
 have hiv:=pre.opd hi
 unfold Zge at h
 split at h
 ·rename_i k m hj
  rw[hj] at hiv
  cases hc:(decide (0≤m)&&decide (m<len)) with
  | false=>rw[hc] at h;cases h
  | true=>
   rw[hc] at h
   simp only[cond_true] at h
   simp only[Bool.and_eq_true,decide_eq_true_eq] at hc
   obtain⟨ad,h1,h2⟩:=Ztb pre hv h
   refine Zb1 (s:=Instr.indexAt t (a.eval x) (a.eval i)) (by unfold execOp;rw[hop]) ?_ (Z3.stay pre.ok hp h2)
   rw[h1,ZjQ hiv]
   simp[Instr.indexAt,asIntOf,Instr.sureAddr,run_underlying (Zqc ht),Zen hsz,hc]
 ·cases h
theorem ZuK (pre:Pre G R w e a Hm) {x:V}{xs:List D}{u:Value} (hx:Za9 R w x u) (h:elems Hm x=some xs) (hl:0<xs.length):∃ad cap,u = .slice (some ad) xs.length cap:=by
 unfold elems at h
 split at h
 ·rename_i own xs'
  simp only[Option.some.injEq] at h
  subst h
  obtain⟨ad,len,cap,rfl,rfl,e3,e4,e5⟩:=hx
  obtain⟨b,off,sz,rfl,_⟩:=e5 (by intro hn;rw[hn] at hl;simp at hl)
  exact⟨_,cap,rfl⟩
 ·rename_i b sz
  cases hb:nth Hm b with
  | none=>rw[hb] at h;cases h
  | some blk=>
   rw[hb] at h
   cases blk<;>try (cases h;done)
   rename_i sz' xs'
   dsimp only at h
   cases hs:Nat.beq sz sz' with
   | false=>rw[hs] at h;cases h
   | true=>
    rw[hs] at h
    simp only[cond_true,Option.some.injEq] at h
    subst h
    obtain rfl:=Nat.eq_of_beq_eq_true hs
    obtain⟨m,q1,q2,q3,q4⟩:=ZlO pre hb hx
    obtain⟨c,cs,el,fr,cap,rfl,rfl,_⟩:=Ze6 q4 (.inl hl)
    exact⟨_,cap,rfl⟩
 ·rename_i b sz of len
  cases hb:nth Hm b with
  | none=>rw[hb] at h;cases h
  | some blk=>
   rw[hb] at h
   cases blk<;>try (cases h;done)
   rename_i sz' xs'
   dsimp only at h
   cases hs:Nat.beq sz sz' with
   | false=>rw[hs] at h;cases h
   | true=>
    rw[hs] at h
    simp only[cond_true,Option.some.injEq] at h
    subst h
    obtain rfl:=Nat.eq_of_beq_eq_true hs
    obtain⟨m,q1,q2,q3,q4⟩:=ZjR pre hb hx
    have hlen:((xs'.drop of).take len).length=len:=by
     have:=q4.1
     simp only[List.length_take,List.length_drop];omega
    rw[hlen] at hl ⊢
    obtain⟨c,cs,el,fr,cap,rfl,rfl,_⟩:=Ze6 q4 (.inl hl)
    exact⟨_,cap,rfl⟩
 ·simp only[Option.some.injEq] at h
  subst h
  simp at hl
 ·cases h
theorem Zry (pre:Pre G R w e a Hm) {x:V}{xs:List D}{u:Value} (hx:Za9 R w x u) (h:elems Hm x=some xs):∃ad cap,u = .slice ad xs.length cap∧xs.length≤cap:=by
 unfold elems at h
 split at h
 ·rename_i own xs'
  simp only[Option.some.injEq] at h
  subst h
  obtain⟨ad,len,cap,rfl,rfl,e3,_⟩:=hx
  exact⟨ad,cap,rfl,e3⟩
 ·rename_i b sz
  cases hb:nth Hm b with
  | none=>rw[hb] at h;cases h
  | some blk=>
   rw[hb] at h
   cases blk<;>try (cases h;done)
   rename_i sz' xs'
   dsimp only at h
   cases hs:Nat.beq sz sz' with
   | false=>rw[hs] at h;cases h
   | true=>
    rw[hs] at h
    simp only[cond_true,Option.some.injEq] at h
    subst h
    obtain rfl:=Nat.eq_of_beq_eq_true hs
    obtain⟨m,q1,q2,q3,q4,ad,cap,rfl,q5,_⟩:=ZlO pre hb hx
    exact⟨ad,cap,rfl,q5⟩
 ·rename_i b sz of len
  cases hb:nth Hm b with
  | none=>rw[hb] at h;cases h
  | some blk=>
   rw[hb] at h
   cases blk<;>try (cases h;done)
   rename_i sz' xs'
   dsimp only at h
   cases hs:Nat.beq sz sz' with
   | false=>rw[hs] at h;cases h
   | true=>
    rw[hs] at h
    simp only[cond_true,Option.some.injEq] at h
    subst h
    obtain rfl:=Nat.eq_of_beq_eq_true hs
    obtain⟨m,q1,q2,q3,q4,ad,cap,rfl,q5,_⟩:=ZjR pre hb hx
    have:((xs'.drop of).take len).length=len:=by simp only[List.length_take,List.length_drop];omega
    rw[this]
    exact⟨ad,cap,rfl,q5⟩
 ·simp only[Option.some.injEq] at h
  subst h
  obtain⟨ad,rfl⟩:=hx
  exact⟨ad,0,rfl,Nat.le_refl _⟩
 ·cases h
theorem Zgk {b:Builtin}{xs:Array Operand}{ats:Array TypeId} (hop:o.op = .call { callee:=.builtin b,args:=xs,argTypes:=ats }) :
  execOp a.eval o=builtin b ats o.type (xs.map fun | .const _=>true | _=>false) (xs.map a.eval):=by
 obtain⟨dst,op,ty,pos,after,guard⟩:=o
 simp only at hop
 subst hop
 rfl
theorem ZDu (pre:Pre G R w e a Hm) {t el:TypeId}{x:Operand}{y:Opd}{r:D} (hop:o.op = .call { callee:=.builtin .len,args:=#[x],argTypes:=#[t] }) (hx:ZU G x y=true) (ht:Zov P t=some el)
  (h:Zr5 Hm (y.val e)=some r) (hp:Zai R.H [] nid [] H'):Zdp P o a w (Z3 R w nid 0 H' (.d r)):=by
 have hv:=pre.opd hx
 unfold Zr5 at h
 cases hes:elems Hm (y.val e) with
 | none=>rw[hes] at h;cases h
 | some xs=>
  rw[hes] at h
  simp only[Option.some.injEq] at h
  subst h
  obtain⟨ad,cap,h1,_⟩:=Zry pre hv hes
  refine Zb1 (s:=Builtin.len_ #[t] o.type #[a.eval x]) (u:=.int .i64 xs.length) (by rw[Zgk hop,BigFrame.builtin_len];simp) ?_ (Z3.stay pre.ok hp rfl)
  rw[h1]
  simp[Builtin.len_,run_underlying (Zk5 ht),goInt]
def ZuS (x:Option Value) (d l:Nat):Prop:=(x=none∧l=d)∨∃k,x=some (.int k (l:Int))
theorem ZBT {t el:TypeId}{sz:Nat}{ad:Option Addr}{len cap l h:Nat}{lo hi:Option Value} (ht:Zov P t=some el) (hsz:Zf9 P el=some sz) (h1:ZuS lo 0 l) (h2:ZuS hi len h) (h3:l≤h) (h4:h≤cap) (h5:len≤cap) :
  (Instr.sliceAt t (.slice ad len cap) lo hi none).run P w = .ok (.slice (if cap=l then ad else ad.map (·.add (l*sz))) (h-l) (cap-l)) w:=by
 have ht':=Zk5 ht
 rcases h1 with⟨rfl,rfl⟩ | ⟨k1,rfl⟩<;>rcases h2 with⟨rfl,rfl⟩ | ⟨k2,rfl⟩<;>
  simp[Instr.sliceAt,Instr.slice,run_underlying ht',Instr.sliceBounds,Instr.sliceBound,asIntOf,Zen hsz, *]
theorem ZzE {t el:TypeId}{sz:Nat}{ad:Option Addr}{len cap l h m:Nat}{lo hi mx:Option Value} (ht:Zov P t=some el) (hsz:Zf9 P el=some sz) (h1:ZuS lo 0 l) (h2:∃k,hi=some (.int k (h:Int))) (h6:∃k,mx=some (.int k (m:Int))) (h3:l≤h) (h4:h≤m) (h5:m≤cap) :
  (Instr.sliceAt t (.slice ad len cap) lo hi mx).run P w = .ok (.slice (if m=l then ad else ad.map (·.add (l*sz))) (h-l) (m-l)) w:=by
 have ht':=Zk5 ht
 obtain⟨k2,rfl⟩:=h2
 obtain⟨k3,rfl⟩:=h6
 rcases h1 with⟨rfl,rfl⟩ | ⟨k1,rfl⟩<;>
  simp[Instr.sliceAt,Instr.slice,run_underlying ht',Instr.sliceBounds,Instr.sliceBound,asIntOf,Zen hsz, *]
def Zl7 (G:ZbD):Option Operand→Option Opd→Bool
 | none,none=>true
 | some x,some y=>ZU G x y
 | _,_=>false
theorem Zt6 (pre:Pre G R w e a Hm) {x:Option Operand}{y:Option Opd}{d l:Nat} (hx:Zl7 G x y=true) (h:Zhk (y.map (·.val e)) d=some l):ZuS (x.map a.eval) d l:=by
 cases x with
 | none=>
  cases y with
  | some y=>cases hx
  | none=>simp[Zhk] at h;exact .inl ⟨rfl,h.symm⟩
 | some x=>
  cases y with
  | none=>cases hx
  | some y=>
   have hv:=pre.opd (x:=x) (y:=y) hx
   simp only[Option.map_some] at h
   unfold Zhk at h
   split at h
   ·cases ‹some _=none›
   ·rename_i k n hy
    simp only[Option.some.injEq] at hy
    rw[hy] at hv
    cases h0:decide (0≤n) with
    | false=>rw[h0] at h;cases h
    | true=>
     rw[h0] at h
     simp only[cond_true,Option.some.injEq] at h
     have h0':0≤n:=of_decide_eq_true h0
     refine .inr ⟨k,?_⟩
     simp only[Option.map_some]
     rw[ZjQ hv,← h,Int.toNat_of_nonneg h0']
   ·cases h
theorem ZzP (pre:Pre G R w e a Hm) {t el:TypeId}{n:Nat}{x:Operand}{y:Opd}{lo hi mx:Option Operand}{lo' hi' mx':Option Opd}{v:V} (hop:o.op = .slice t x lo hi mx) (hx:ZU G x y=true)
  (hlo:Zl7 G lo lo'=true) (hhi:Zl7 G hi hi'=true) (hmx:Zl7 G mx mx'=true) (hh:mx'.isSome=true→hi'.isSome=true) (ht:Zov P t=some el) (hsz:Zf9 P el=some n)
  (h:Zib Hm n (y.val e) (lo'.map (·.val e)) (hi'.map (·.val e)) (mx'.map (·.val e))=some v) (hp:Zai R.H [] nid [] H'):Zdp P o a w (Z3 R w nid 0 H' v):=by
 have hv:=pre.opd hx
 unfold Zib at h
 cases hes:elems Hm (y.val e) with
 | none=>rw[hes] at h;cases h
 | some xs=>
  rw[hes] at h
  dsimp only at h
  cases hl:Zhk (lo'.map (·.val e)) 0 with
  | none=>rw[hl] at h;cases h
  | some l=>
   rw[hl] at h
   cases hhn:Zhk (hi'.map (·.val e)) xs.length with
   | none=>rw[hhn] at h;cases h
   | some hn=>
    rw[hhn] at h
    dsimp only at h
    cases hc:(Nat.ble l hn&&Nat.ble hn xs.length) with
    | false=>rw[hc] at h;cases h
    | true=>
     rw[hc] at h
     simp only[cond_true] at h
     simp only[Bool.and_eq_true,Nat.ble_eq] at hc
     obtain⟨c1,c2⟩:=hc
     obtain⟨ad,cap,q1,q2⟩:=Zry pre hv hes
     have b1:=Zt6 pre hlo hl
     have b2:=Zt6 pre hhi hhn
     have fin:Za9 R w v (.slice (if cap=l then ad else ad.map (·.add (l*n))) (hn-l) (cap-l))→mx=none→Zdp P o a w (Z3 R w nid 0 H' v):=fun h5 hm=>
      Zb1 (s:=Instr.sliceAt t (a.eval x) (lo.map a.eval) (hi.map a.eval) (mx.map a.eval)) (by unfold execOp;rw[hop]) (by rw[q1,hm];exact ZBT ht hsz b1 b2 c1 (by omega) q2) (Z3.stay pre.ok hp h5)
     cases mx' with
     | none=>
      have hm:mx=none:=by cases mx with | none=>rfl | some m=>cases hmx
      simp only[Option.map_none] at h
      refine fin ?_ hm
      rw[q1] at hv
      cases hy:y.val e<;>rw[hy] at h hv hes<;>try (cases h;done)
      ·rename_i z
       cases z<;>try (cases h;done)
       rename_i own xs'
       simp only[elems,Option.some.injEq] at hes
       subst hes
       dsimp only at h
       cases hg:(Nat.beq l 0 || Zkj n xs' l) with
       | false=>rw[hg] at h;cases h
       | true=>
        rw[hg] at h
        simp only[cond_true,Option.some.injEq] at h
        subst h
        obtain⟨ad',len',cap',e1,e2,e3,e4,e5⟩:=hv
        cases e1
        have hlen:((xs'.drop l).take (hn-l)).length=hn-l:=by simp only[List.length_take,List.length_drop];omega
        refine⟨_,_,_,rfl,hlen.symm,by omega,fun z hz=>e4 z (List.mem_of_mem_drop (List.mem_of_mem_take hz)),fun hne=>?_⟩
        have hlt:l<hn:=by
         rcases Nat.lt_or_ge l hn with h | h
         ·exact h
         ·exact absurd (List.eq_nil_of_length_eq_zero (by omega)) hne
        obtain⟨b,off,sz,rfl,f2,f3,f4⟩:=e5 (by intro hn';rw[hn'] at c2;simp at c2;omega)
        have hcl:cap≠l:=by omega
        have hsame:l*n=l*sz:=by
         simp only[Bool.or_eq_true] at hg
         rcases hg with hg | hg
         ·rw[Nat.eq_of_beq_eq_true hg,Nat.zero_mul,Nat.zero_mul]
         ·have hll:l<xs'.length:=by omega
          unfold Zkj at hg
          rw[Z0,List.getElem?_eq_getElem hll] at hg
          simp only[Bool.and_eq_true] at hg
          obtain⟨u,g1,g2,g3⟩:=ZiV xs' off l _ f4 (List.getElem?_eq_getElem hll)
          have:=ZgU (R:=R) (v:=.d xs'[l]) g1 hg.2
          have h6:=Zd8 _ _ this
          have hVc:(V.d xs'[l]).cells=ZcN xs'[l].cells:=by cases xs'[l]<;>rfl
          rw[hVc,Zjw,List.length_map,Nat.eq_of_beq_eq_true hg.1] at h6
          rw[← g2];simp at h6;rw[h6]
        refine⟨b,off+l*sz,sz,by rw[if_neg hcl,hsame];simp[Addr.add_lit],f2,f3,Zji _ _ fun j z hz=>?_⟩
        have hj:j<hn-l:=by have:=(List.getElem?_eq_some_iff.1 hz).1;omega
        rw[List.getElem?_take,if_pos hj,List.getElem?_drop] at hz
        obtain⟨u,g1,g2,g3⟩:=ZiV xs' off (l+j) z f4 hz
        exact⟨u,g1,g2,fun k v hk=>by rw[← g3 k v hk,Nat.add_mul];congr 2;omega⟩
      ·rename_i b sz'
       dsimp only at h
       cases hg:Nat.beq n sz' with
       | false=>rw[hg] at h;cases h
       | true=>
        rw[hg] at h
        simp only[cond_true,Option.some.injEq] at h
        obtain rfl:=Nat.eq_of_beq_eq_true hg
        subst h
        simp only[elems] at hes
        cases hb:nth Hm b with
        | none=>rw[hb] at hes;cases hes
        | some blk=>
         rw[hb] at hes
         cases blk<;>try (cases hes;done)
         rename_i sz'' xs'
         dsimp only at hes
         cases hs:Nat.beq n sz'' with
         | false=>rw[hs] at hes;cases hes
         | true=>
          rw[hs] at hes
          simp only[cond_true,Option.some.injEq] at hes
          obtain rfl:=Nat.eq_of_beq_eq_true hs
          subst hes
          obtain⟨m,r1,r2,r3,r4⟩:=ZlO pre hb hv
          refine⟨⟨_,_,_,rfl⟩,m,r1,fun ys hys=>?_⟩
          rw[r2] at hys;cases hys
          obtain⟨_,ad',cap',s1,s2,s3⟩:=r4
          cases s1
          refine⟨by omega,_,_,rfl,by omega,?_⟩
          rcases s3 with⟨s3,s4⟩ | ⟨c,cs,el',fr,s4,s5,s6,s7⟩
          ·exact .inl ⟨by omega,by omega⟩
          ·by_cases hcl:cap=l
           ·exact .inl ⟨by omega,by omega⟩
           ·refine .inr ⟨c,cs,el',fr,s4,?_,s6,?_⟩
            ·rw[if_neg hcl,s5];simp[Addr.add_lit]
            ·rw[s7];congr 1;omega
      ·rename_i b sz' of len
       dsimp only at h
       cases hg:Nat.beq n sz' with
       | false=>rw[hg] at h;cases h
       | true=>
        rw[hg] at h
        simp only[cond_true,Option.some.injEq] at h
        obtain rfl:=Nat.eq_of_beq_eq_true hg
        subst h
        simp only[elems] at hes
        cases hb:nth Hm b with
        | none=>rw[hb] at hes;cases hes
        | some blk=>
         rw[hb] at hes
         cases blk<;>try (cases hes;done)
         rename_i sz'' xs'
         dsimp only at hes
         cases hs:Nat.beq n sz'' with
         | false=>rw[hs] at hes;cases hes
         | true=>
          rw[hs] at hes
          simp only[cond_true,Option.some.injEq] at hes
          obtain rfl:=Nat.eq_of_beq_eq_true hs
          subst hes
          obtain⟨m,r1,r2,r3,r4⟩:=ZjR pre hb hv
          simp only[List.length_take,List.length_drop] at c2 r4 q2
          refine⟨⟨_,_,_,rfl⟩,m,r1,fun ys hys=>?_⟩
          rw[r2] at hys;cases hys
          obtain⟨s0,ad',cap',s1,s2,s3⟩:=r4
          simp only[Value.slice.injEq] at s1
          obtain⟨rfl,_,rfl⟩:=s1
          refine⟨by omega,_,_,rfl,by omega,?_⟩
          rcases s3 with⟨s3,s4⟩ | ⟨c,cs,el',fr,s4,s5,s6,s7⟩
          ·exact .inl ⟨by omega,by omega⟩
          ·obtain⟨t0,_,t1⟩:=r3
           by_cases hcl:cap=l
           ·refine .inl ⟨by omega,?_⟩
            rcases t1 with⟨t1,t2⟩ | ⟨c',cs',el'',t1,t2,t3,_⟩
            ·rw[t1] at s4;cases s4
            ·rw[t1] at s4;cases s4
             rw[t2] at s6;cases s6
             rw[s7] at t3
             have:=Nat.le_of_mul_le_mul_right t3 t0
             omega
           ·refine .inr ⟨c,cs,el',fr,s4,?_,s6,?_⟩
            ·rw[if_neg hcl,s5];simp[Addr.add_lit,Nat.add_mul]
            ·rw[s7];congr 1;omega
      ·rename_i sz'
       simp only[Option.some.injEq] at h
       subst h
       simp only[elems,Option.some.injEq] at hes
       subst hes
       obtain⟨ad',hv⟩:=hv
       cases hv
       simp only[List.length_nil] at c2
       obtain rfl:l=0:=by omega
       obtain rfl:hn=0:=by omega
       exact⟨_,rfl⟩
     | some m'=>
      cases mx with
      | none=>cases hmx
      | some m=>
       cases hhs:hi' with
       | none=>rw[hhs] at hh;cases hh rfl
       | some hi1=>
        dsimp only[Option.map_some] at h
        cases hm:Zhk (some (m'.val e)) 0 with
        | none=>rw[hm] at h;cases h
        | some mm=>
         rw[hm] at h
         dsimp only at h
         cases hg:(Nat.beq mm l&&Nat.beq mm hn) with
         | false=>rw[hg] at h;cases h
         | true=>
          rw[hg] at h
          simp only[cond_true,Option.some.injEq] at h
          subst h
          simp only[Bool.and_eq_true] at hg
          obtain rfl:=Nat.eq_of_beq_eq_true hg.1
          obtain rfl:=Nat.eq_of_beq_eq_true hg.2
          have b3:=Zt6 pre (x:=some m) (y:=some m') hmx (by simpa using hm)
          refine Zb1 (s:=Instr.sliceAt t (a.eval x) (lo.map a.eval) (hi.map a.eval) ((some m).map a.eval)) (by unfold execOp;rw[hop]) (by
           rw[q1]
           refine ZzE ht hsz b1 ?_ ?_ c1 (Nat.le_refl _) (by omega)
           ·rcases b2 with⟨b2,_⟩ | b2
            ·exfalso
             cases hi with
             | none=>rw[hhs] at hhi;cases hhi
             | some hi0=>cases b2
            ·exact b2
           ·rcases b3 with⟨b3,_⟩ | b3
            ·cases b3
            ·exact b3) (Z3.stay pre.ok hp ?_)
          exact⟨_,by rw[Nat.sub_self]⟩
end
end Go.Proofs.YtnmbdjkbaihicaaDoorE
