/- EvalReady: part 1 of 6 of the proof. -/
import Derived.Calls
import Derived.Orders
import Derived.Test.YtnmbdjkbaihicaaDoorProg
import Derived.Below
import Derived.WalkKit
import Derived.Laws.MakeOwn
set_option maxRecDepth 100000
set_option maxHeartbeats 40000000
namespace Go.Proofs.YtnmbdjkbaihicaaDoorE
open Go
inductive D where
 | bool (b:Bool) | int (k:IntKind) (n:Int) | str (s:ByteArray)
 | list (own:Bool) (xs:List D) | agg (cs:List D) | tup (vs:List D)
 | fn (f:Nat) (caps:List D) | nilfn
 | rptr (cs:List D) | nilp
 | iface (t:Nat) (v:D) | nilI
inductive V where
 | d (x:D) | bad
 | ptr (b o:Nat) | eptr (b sz i k:Nat)
 | sl (b sz:Nat) | slp (b sz o len:Nat) | nilsl (sz:Nat)
 | agg (cs:List V) | tup (vs:List V)
 | fn (f:Nat) (caps:List V)
 | mp (b:Nat)
inductive Blk where
 | dead | cells (cs:List V) | arr (sz:Nat) (xs:List D)
 | mp (es:List (D×D))
abbrev Zo:=List Blk
abbrev Env:=Nat→V
def Env.set (e:Env) (i:Nat) (v:V):Env:=fun j=>bif Nat.beq i j then v else e j
def env0:Env:=fun _=>.bad
def Zef:List Nat→List V→Env
 | i :: is,v :: vs=>(Zef is vs).set i v
 | _,_=>env0
def D.isAgg:D→Bool
 | .agg _=>true
 | _=>false
mutual
def D.esc:D→Bool
 | .list own _=>own
 | .agg cs=>D.escs cs
 | .tup _=>false
 | .iface _ v=>v.esc
 | .fn _ caps=>caps.isEmpty
 | .rptr _=>false
 | _=>true
def D.escs:List D→Bool
 | []=>true
 | c :: cs=>c.esc&&(!c.isAgg&&D.escs cs)
end
def Ztd:List D→Bool
 | []=>true
 | c :: cs=>c.esc&&Ztd cs
mutual
def D.nofn:D→Bool
 | .fn _ caps=>caps.isEmpty
 | .agg cs=>D.nofns cs
 | .tup cs=>D.nofns cs
 | .rptr cs=>D.nofns cs
 | .iface _ v=>v.nofn
 | _=>true
def D.nofns:List D→Bool
 | []=>true
 | c :: cs=>c.nofn&&D.nofns cs
end
mutual
def Zpq:V→Bool
 | .d (.tup ts)=>Ztd ts
 | .d x=>x.esc
 | .agg cs=>Zns cs
 | .tup cs=>Zns cs
 | .fn _ cs=>Zns cs
 | _=>true
def Zns:List V→Bool
 | []=>true
 | v :: vs=>Zpq v&&Zns vs
end
mutual
def Zk4:V→Bool
 | .d x=>x.nofn
 | .agg cs=>Zku cs
 | .tup cs=>Zku cs
 | .fn _ cs=>Zku cs
 | _=>true
def Zku:List V→Bool
 | []=>true
 | v :: vs=>Zk4 v&&Zku vs
end
def Zla:List Blk→Bool
 | []=>true
 | .cells cs :: r=>Zns cs&&Zla r
 | _ :: r=>Zla r
def ZiH:List Blk→Bool
 | []=>true
 | .cells cs :: r=>Zku cs&&ZiH r
 | _ :: r=>ZiH r
def V.isAggV:V→Bool
 | .d (.agg _)=>true
 | .agg _=>true
 | _=>false
def V.isD:V→Bool
 | .d _=>true
 | _=>false
def D.cells:D→List D
 | .agg cs=>cs
 | x=>[x]
inductive Opd where
 | t (i:Nat) | c (v:V)
inductive O where
 | mov (x:Opd)
 | pick (c a b:Opd)
 | alloc (z:V)
 | box (x:Opd)
 | build (z:List V) (ps:List (Nat×Nat×Opd))
 | bslice (sz:Nat) (z:List D) (len:Nat) (ps:List (Nat×Opd))
 | load (n:Nat) (ag:Bool) (x:Opd)
 | store (n:Nat) (x v:Opd)
 | nilck (x:Opd)
 | bin (op:BinOp) (x y:Opd)
 | eqv (ks:List Bool) (neg:Bool) (x y:Opd)
 | un (op:UnOp) (x:Opd)
 | conv (k:IntKind) (x:Opd)
 | mkfn (f:Nat) (caps:List Opd)
 | mkslice (sz:Nat) (z:List D) (n c:Opd)
 | slice (sz:Nat) (x:Opd) (lo hi mx:Option Opd)
 | faddr (off:Nat) (x:Opd)
 | field (off n:Nat) (ag:Bool) (x:Opd)
 | iaddr (sz:Nat) (x i:Opd)
 | index (len sz:Nat) (ag:Bool) (x i:Opd)
 | indexS (x i:Opd)
 | iaddrA (len sz:Nat) (x i:Opd)
 | len (x:Opd)
 | append (sz:Nat) (x y:Opd)
 | appendD (sz:Nat) (x y:Opd)
 | mx (isMax:Bool) (xs:List Opd)
 | extract (x:Opd) (i:Nat)
 | mkif (t:Nat) (x:Opd)
 | call (f:Nat) (args:List Opd)
 | callv (x:Opd) (args:List Opd)
 | invoke (tab:List (Nat×Nat)) (x:Opd) (args:List Opd)
 | mkmap
 | mapset (ks:List Bool) (m k v:Opd)
 | mapget (ks:List Bool) (z:D) (m k:Opd)
 | panic
 | callk (f:Nat) (args:List Opd) (chk:List Opd)
 | nilq (x:Opd)
 | spec (id:Nat) (args:List Opd)
structure Op1 where
 dst:Option Nat
 op:O
 guard:Option (Nat×Bool)
 mask:List Nat
 eff:Nat
inductive C where
 | skip | ret | exit (id:Nat)
 | seq (a b:C)
 | cond (x:Opd) (a b:C)
 | block (id:Nat) (a:C)
 | loop (live outs:List Nat) (a:C)
 | ops (l:List Op1)
 | draw (l:List Op1)
inductive Ex where
 | normal | exit (id:Nat) | ret
structure FnI where
 nargs:Nat
 body:C
 res:List (Nat×Option (Nat×Bool))
structure Ctx where
 code:Nat→Option FnI
 mode:Nat→Nat
abbrev oA (op:O):Op1:=⟨none,op,none,[],0⟩
abbrev oB (d:Nat) (op:O):Op1:=⟨some d,op,none,[],0⟩
abbrev oG (d:Nat) (op:O) (s:Nat) (b:Bool):Op1:=⟨some d,op,some (s,b),[],0⟩
abbrev oM (d:Nat) (op:O) (m:List Nat):Op1:=⟨some d,op,none,m,0⟩
abbrev iN (n:Int):Opd:=.c (.d (.int .i64 n))
abbrev bT:Opd:=.c (.d (.bool true))
abbrev bF:Opd:=.c (.d (.bool false))
def Opd.val (e:Env):Opd→V
 | .t i=>e i
 | .c v=>v
def vals (e:Env):List Opd→List V
 | []=>[]
 | x :: xs=>x.val e :: vals e xs
def Zkk:List V→Option (List D)
 | []=>some []
 | .d x :: r=>match Zkk r with | some l=>some (x :: l) | none=>none
 | _ :: _=>none
def ZrI (cs:List V):V:=match Zkk cs with | some l=>.d (.agg l) | none=>.agg cs
def ZtB (cs:List V):V:=match Zkk cs with | some l=>.d (.tup l) | none=>.tup cs
def ZcU:List D→List V
 | []=>[]
 | x :: xs=>.d x :: ZcU xs
def V.cells:V→List V
 | .d (.agg cs)=>ZcU cs
 | .agg cs=>cs
 | v=>[v]
def nth {α:Type}:List α→Nat→Option α
 | [],_=>none
 | x :: _,0=>some x
 | _ :: xs,n+1=>nth xs n
def Zfp {α:Type}:List α→Nat→α→List α
 | [],_,_=>[]
 | _ :: xs,0,v=>v :: xs
 | x :: xs,n+1,v=>x :: Zfp xs n v
def Zaq {α:Type}:List α→Nat→List α→List α
 | cs,_,[]=>cs
 | cs,o,v :: vs=>Zaq (Zfp cs o v) (o+1) vs
def fzl (f:V→Option D):List V→Option (List D)
 | []=>some []
 | v :: vs=>match f v,fzl f vs with | some x,some l=>some (x :: l) | _,_=>none
def fz (H:Zo):Nat→V→Option D
 | 0,_=>none
 | n+1,v=>match v with
  | .d x=>some x
  | .sl b sz=>match nth H b with
   | some (.arr sz' xs)=>bif Nat.beq sz sz' then some (.list false xs) else none
   | _=>none
  | .slp b sz o len=>match nth H b with
   | some (.arr sz' xs)=>bif Nat.beq sz sz' then some (.list false ((xs.drop o).take len)) else none
   | _=>none
  | .nilsl _=>some (.list true [])
  | .agg cs=>match fzl (fz H n) cs with | some l=>some (.agg l) | none=>none
  | .fn f caps=>match fzl (fz H n) caps with | some l=>some (.fn f l) | none=>none
  | .ptr b o=>match nth H b with
   | some (.cells cs)=>match fzl (fz H n) (cs.drop o) with | some l=>some (.rptr l) | none=>none
   | _=>none
  | _=>none
def fzs (H:Zo) (l:List V):Option (List D):=fzl (fz H 6) l
def frl (f:V→Option (D×List Nat)):List V→Option (List D×List Nat)
 | []=>some ([],[])
 | v :: vs=>match f v,frl f vs with | some (x,k),some (l,ks)=>some (x :: l,k++ks) | _,_=>none
def fr (H:Zo):Nat→V→Option (D×List Nat)
 | 0,_=>none
 | n+1,v=>match v with
  | .d x=>match x with
   | .tup ts=>bif Ztd ts then some (.tup ts,[]) else none
   | x=>bif x.esc then some (x,[]) else none
  | .sl b sz=>match nth H b with
   | some (.arr sz' xs)=>bif Nat.beq sz sz' then some (.list true xs,[b]) else none
   | _=>none
  | .slp b sz o len=>match nth H b with
   | some (.arr sz' xs)=>bif Nat.beq sz sz' then some (.list true ((xs.drop o).take len),[b]) else none
   | _=>none
  | .nilsl _=>some (.list true [],[])
  | .agg cs=>match frl (fr H n) cs with | some (l,ks)=>bif D.escs l then some (.agg l,ks) else none | none=>none
  | .tup cs=>match frl (fr H n) cs with | some (l,ks)=>some (.tup l,ks) | none=>none
  | _=>none
def idx:List Nat→Nat→Nat→Option Nat
 | [],_,_=>none
 | a :: l,b,i=>bif Nat.beq a b then some i else idx l b (i+1)
mutual
def Zl5 (ρ:Nat→Option Nat):V→V
 | .d x=>.d x
 | .bad=>.bad
 | .ptr b o=>match ρ b with | some j=>.ptr j o | none=>.bad
 | .eptr b sz i k=>match ρ b with | some j=>.eptr j sz i k | none=>.bad
 | .sl b sz=>match ρ b with | some j=>.sl j sz | none=>.bad
 | .slp b sz o len=>match ρ b with | some j=>.slp j sz o len | none=>.bad
 | .nilsl sz=>.nilsl sz
 | .agg cs=>.agg (ZhQ ρ cs)
 | .tup cs=>.tup (ZhQ ρ cs)
 | .fn f caps=>.fn f (ZhQ ρ caps)
 | .mp b=>match ρ b with | some j=>.mp j | none=>.bad
def ZhQ (ρ:Nat→Option Nat):List V→List V
 | []=>[]
 | v :: vs=>Zl5 ρ v :: ZhQ ρ vs
end
def Zhx (ρ:Nat→Option Nat):Blk→Blk
 | .cells cs=>.cells (ZhQ ρ cs)
 | b=>b
mutual
def ZB0:V→List Nat
 | .ptr b _=>[b]
 | .eptr b _ _ _=>[b]
 | .sl b _=>[b]
 | .slp b _ _ _=>[b]
 | .mp b=>[b]
 | .agg cs=>ZhO cs
 | .tup cs=>ZhO cs
 | .fn _ caps=>ZhO caps
 | _=>[]
def ZhO:List V→List Nat
 | []=>[]
 | v :: vs=>ZB0 v++ZhO vs
end
def ZtX (H:Zo) (b:Nat):List Nat:=match nth H b with | some (.cells cs)=>ZhO cs | _=>[]
def Zab (H:Zo) (b:Nat):Bool:=match nth H b with | some .dead=>false | some _=>true | none=>false
def ZiA (l:List Nat) (b:Nat):Bool:=match l with | []=>false | a :: l=>bif Nat.beq a b then true else ZiA l b
def Zf0 (H:Zo):List Nat→List Nat→List Nat
 | l,[]=>l
 | l,b :: bs=>bif ZiA l b || !(Zab H b) then Zf0 H l bs else Zf0 H (l++[b]) bs
def Zkw (H:Zo):Nat→Nat→List Nat→List Nat
 | 0,_,l=>l
 | n+1,i,l=>match nth l i with
  | some b=>Zkw H n (i+1) (Zf0 H l (ZtX H b))
  | none=>l
def ZlT:Nat→List Nat
 | 0=>[]
 | n+1=>ZlT n++[n]
def Zl7 (H:Zo) (k:Nat) (vs:List V):List Nat:=
 Zkw H (H.length+1) 0 (Zf0 H (ZlT k) (ZhO vs))
def ZlP:List Nat→Bool
 | []=>true
 | a :: l=>!(ZiA l a)&&ZlP l
def pick (H:Zo) (ρ:Nat→Option Nat):List Nat→Zo
 | []=>[]
 | b :: bs=>(match nth H b with | some blk=>Zhx ρ blk | none=>.dead) :: pick H ρ bs
def Zpn (n:Nat):List Nat→Bool
 | []=>true
 | a :: l=>Nat.blt a n&&Zpn n l
def extract (k:Nat) (vs:List V) (H:Zo):Option (List Nat×List V×Zo):=
 let L:=Zl7 H k vs
 bif ZlP L&&Zpn H.length L then some (L,ZhQ (fun b=>idx L b 0) vs,pick H (fun b=>idx L b 0) L) else none
def Zcf:Nat→List V→List V×List Blk
 | _,[]=>([],[])
 | n,.nilsl sz :: vs=>bif Nat.blt 0 sz then (let r:=Zcf (n+1) vs;(.sl n sz :: r.1,.arr sz [] :: r.2)) else (let r:=Zcf n vs;(.nilsl sz :: r.1,r.2))
 | n,v :: vs=>let r:=Zcf n vs;(v :: r.1,r.2)
def ZcT:Nat→Zo→Zo×List Blk
 | _,[]=>([],[])
 | n,.cells cs :: H=>let r:=Zcf n cs;let q:=ZcT (n+r.2.length) H;(.cells r.1 :: q.1,r.2++q.2)
 | n,b :: H=>let q:=ZcT n H;(b :: q.1,q.2)
def ZnB (k:Nat) (vs:List V) (H:Zo):Option (List V×Zo):=
 match extract k vs H with
 | none=>none
 | some (_,vs1,H1)=>
  let r:=Zcf H1.length vs1
  let q:=ZcT (H1.length+r.2.length) H1
  match extract k r.1 (q.1++(r.2++q.2)) with
  | none=>none
  | some (_,vs2,H2)=>some (vs2,H2)
mutual
def eqD:D→D→Option Bool
 | .bool a,.bool b=>some (a==b)
 | .int k a,.int k' b=>bif k==k' then some (a==b) else none
 | .agg xs,.agg ys=>ZnX xs ys
 | _,_=>none
def ZnX:List D→List D→Option Bool
 | [],[]=>some true
 | x :: xs,y :: ys=>match eqD x y,ZnX xs ys with | some a,some b=>some (a&&b) | _,_=>none
 | _,_=>none
end
def ZeC:List Bool→List D→Bool
 | [],[]=>true
 | true :: ks,.bool _ :: cs=>ZeC ks cs
 | false :: ks,.int _ _ :: cs=>ZeC ks cs
 | _,_=>false
def ZdB (ks:List Bool):D→Bool
 | .agg cs=>(match ks with | [_]=>false | ks=>ZeC ks cs)
 | x=>(match ks with | [_]=>ZeC ks [x] | _=>false)
def lim:Nat:=1073741824
def ZE {α:Type} (xs:List α) (i:Int):Option α:=bif decide (0≤i) then nth xs i.toNat else none
abbrev Res:=Option (V×List (Nat×Blk)×List Blk)
def Zdh (v:V):Res:=some (v,[],[])
def Zyj (op:BinOp) (k:IntKind) (a b:Int):Option D:=
 match op with
 | .add=>some (.int k (k.wrap (a+b)))
 | .sub=>some (.int k (k.wrap (a-b)))
 | .mul=>some (.int k (k.wrap (a*b)))
 | .quo=>bif b==0 then none else some (.int k (k.wrap (a.tdiv b)))
 | .rem=>bif b==0 then none else some (.int k (a.tmod b))
 | .and=>some (.int k (k.wrap (BitVec.ofInt k.bits a &&& BitVec.ofInt k.bits b).toNat))
 | .or=>some (.int k (k.wrap (BitVec.ofInt k.bits a ||| BitVec.ofInt k.bits b).toNat))
 | .xor=>some (.int k (k.wrap (BitVec.ofInt k.bits a ^^^ BitVec.ofInt k.bits b).toNat))
 | .eql=>some (.bool (a==b))
 | .neq=>some (.bool (a != b))
 | .lss=>some (.bool (decide (a<b)))
 | .leq=>some (.bool (decide (a≤b)))
 | .gtr=>some (.bool (decide (b<a)))
 | .geq=>some (.bool (decide (b≤a)))
 | _=>none
def shI (op:BinOp) (k:IntKind) (a b:Int):Option D:=
 bif decide (b<0) then none else
 match op with
 | .shl=>some (.int k (k.wrap (a*2 ^ (min b.toNat k.bits))))
 | .shr=>some (.int k (a.fdiv (2 ^ (min b.toNat k.bits))))
 | _=>none
def Zm2 (op:BinOp) (x y:V):Option D:=
 match op,x,y with
 | .shl,.d (.int k a),.d (.int _ b)=>shI .shl k a b
 | .shr,.d (.int k a),.d (.int _ b)=>shI .shr k a b
 | op,.d (.int k a),.d (.int k' b)=>bif k==k' then Zyj op k a b else none
 | _,_,_=>none
def unE (op:UnOp) (x:V):Option D:=
 match op,x with
 | .not,.d (.bool b)=>some (.bool !b)
 | .neg,.d (.int k n)=>some (.int k (k.wrap (0-n)))
 | _,_=>none
def V.okb:V→Bool
 | .bad=>false
 | .tup _=>false
 | .d (.tup _)=>false
 | _=>true
def V.flat:V→Bool
 | .bad=>false
 | .tup _=>false
 | .agg _=>false
 | .d (.tup _)=>false
 | .d (.agg _)=>false
 | _=>true
def Zql:List V→Bool
 | []=>true
 | v :: vs=>v.flat&&Zql vs
def Zdj (n:Nat) (ag:Bool) (cs:List V):Option V:=
 bif ag then (bif Nat.beq (cs.take n).length n then some (ZrI (cs.take n)) else none) else cs.head?
def Zdv (H:Zo) (n:Nat) (ag:Bool) (x:V):Option V:=
 match x with
 | .ptr b o=>match nth H b with
  | some (.cells cs)=>Zdj n ag (cs.drop o)
  | _=>none
 | .eptr b sz i k=>match nth H b with
  | some (.arr sz' xs)=>bif Nat.beq sz sz' then
    match nth xs i with
    | some x=>Zdj n ag (ZcU (x.cells.drop k))
    | none=>none
   else none
  | _=>none
 | .d (.rptr cs)=>Zdj n ag (ZcU cs)
 | _=>none
def ZlJ (H:Zo) (n:Nat) (x v:V):Res:=
 match x with
 | .ptr b o=>match nth H b with
  | some (.cells cs)=>bif Nat.beq v.cells.length n&&Nat.ble (o+n) cs.length&&v.okb&&Zql v.cells then some (.bad,[(b,.cells (Zaq cs o v.cells))],[]) else none
  | _=>none
 | .eptr b sz i k=>match nth H b with
  | some (.arr sz' xs)=>bif Nat.beq sz sz' then
    match nth xs i,fr H 6 v with
    | some x,some (y,ks)=>
     bif ZiA ks b then none else
     bif Nat.beq y.cells.length n&&Nat.ble (k+n) x.cells.length&&(V.d y).okb&&(x.isAgg || !y.isAgg) then
      some (.bad,(b,.arr sz (Zfp xs i (bif x.isAgg then .agg (Zaq x.cells k y.cells) else y))) :: ks.map (fun j=>(j,.dead)),[])
     else none
    | _,_=>none
   else none
  | _=>none
 | _=>none
def elems (H:Zo) (x:V):Option (List D):=
 match x with
 | .d (.list _ xs)=>some xs
 | .sl b sz=>match nth H b with | some (.arr sz' xs)=>bif Nat.beq sz sz' then some xs else none | _=>none
 | .slp b sz o len=>match nth H b with | some (.arr sz' xs)=>bif Nat.beq sz sz' then some ((xs.drop o).take len) else none | _=>none
 | .nilsl _=>some []
 | _=>none
def Zj4 (sz:Nat) (xs:List D) (l:Nat):Bool:=match nth xs l with | some z=>Nat.beq z.cells.length sz&&(V.d z).okb | none=>true
def ZkM (nid:Nat) (H:Zo) (sz:Nat) (x y:V):Res:=
 match elems H y with
 | none=>none
 | some ys=>
  bif Zj4 sz ys 0 then
   match x with
   | .nilsl _=>bif Nat.ble ys.length lim then some (.sl nid sz,[],[.arr sz ys]) else none
   | .sl b sz'=>match nth H b with
    | some (.arr sz'' xs)=>bif Nat.beq sz sz'&&Nat.beq sz sz'' then
      (bif Nat.ble (xs.length+ys.length) lim then some (.sl nid sz,[(b,.dead)],[.arr sz (xs++ys)]) else none)
     else none
    | _=>none
   | .slp b sz' o len=>match nth H b with
    | some (.arr sz'' xs)=>bif Nat.beq sz sz'&&Nat.beq sz sz''&&Nat.ble (o+len+ys.length) xs.length then
      some (.slp b sz o (len+ys.length),[(b,.arr sz (xs.take (o+len)++(ys++xs.drop (o+len+ys.length))))],[])
     else none
    | _=>none
   | _=>none
  else none
def Zh6 (H:Zo) (sz:Nat) (x y:V):Option V:=
 match x with
 | .nilsl _=>(match elems H y with
  | some ys=>bif Zj4 sz ys 0&&Nat.ble ys.length lim then some (.d (.list true ys)) else none
  | none=>none)
 | _=>none
def Zhj (v:Option V) (dflt:Nat):Option Nat:=
 match v with
 | none=>some dflt
 | some (.d (.int _ n))=>bif decide (0≤n) then some n.toNat else none
 | _=>none
def Zh4 (H:Zo) (sz:Nat) (x:V) (lo hi mx:Option V):Option V:=
 match elems H x with
 | none=>none
 | some xs=>
  match Zhj lo 0,Zhj hi xs.length with
  | some l,some h=>
   bif Nat.ble l h&&Nat.ble h xs.length then
    match mx with
    | none=>match x with
     | .d (.list own _)=>bif Nat.beq l 0 || Zj4 sz xs l then some (.d (.list own ((xs.drop l).take (h-l)))) else none
     | .sl b sz'=>bif Nat.beq sz sz' then some (.slp b sz l (h-l)) else none
     | .slp b sz' o _=>bif Nat.beq sz sz' then some (.slp b sz (o+l) (h-l)) else none
     | .nilsl _=>some (.nilsl sz)
     | _=>none
    | some m=>match Zhj (some m) 0 with
     | some m=>bif Nat.beq m l&&Nat.beq m h then some (.nilsl sz) else none
     | none=>none
   else none
  | _,_=>none
def ZhN (H:Zo) (sz:Nat) (x i:V):Option V:=
 match i with
 | .d (.int _ i)=>
  match x with
  | .d (.list _ xs)=>match ZE xs i with | some x=>bif Nat.beq x.cells.length sz&&(V.d x).okb then some (.d (.rptr x.cells)) else none | none=>none
  | .sl b sz'=>match nth H b with
   | some (.arr sz'' xs)=>bif Nat.beq sz sz'&&Nat.beq sz sz'' then (match ZE xs i with | some _=>some (.eptr b sz i.toNat 0) | none=>none) else none
   | _=>none
  | .slp b sz' o len=>match nth H b with
   | some (.arr sz'' xs)=>bif Nat.beq sz sz'&&Nat.beq sz sz'' then (match ZE ((xs.drop o).take len) i with | some _=>some (.eptr b sz (o+i.toNat) 0) | none=>none) else none
   | _=>none
  | _=>none
 | _=>none
def ZlO (len sz:Nat) (ag:Bool) (x i:V):Option V:=
 match i with
 | .d (.int _ i)=>bif x.isAggV&&(decide (0≤i)&&decide (i<len)) then Zdj sz ag (x.cells.drop (i.toNat*sz)) else none
 | _=>none
def ZjH (x i:V):Option V:=
 match x,i with
 | .d (.str s),.d (.int _ i)=>bif decide (0≤i) then (match s[i.toNat]? with | some b=>some (.d (.int .u8 b.toNat)) | none=>none) else none
 | _,_=>none
def ZjF (_:Zo) (off:Nat) (x:V):Option V:=
 match x with
 | .ptr b o=>some (.ptr b (o+off))
 | .eptr b sz i k=>some (.eptr b sz i (k+off))
 | .d (.rptr cs)=>some (.d (.rptr (cs.drop off)))
 | _=>none
def Zs3 (_:Zo) (x:V):Option V:=
 match x with
 | .d (.fn f caps)=>some (.d (.fn f caps))
 | .fn f caps=>some (.fn f caps)
 | .d (.iface t v)=>some (.d (.iface t v))
 | .d (.rptr cs)=>some (.d (.rptr cs))
 | .ptr b o=>some (.ptr b o)
 | .eptr b sz i k=>some (.eptr b sz i k)
 | _=>none
def Zga (H:Zo) (len sz:Nat) (x i:V):Option V:=
 match i with
 | .d (.int _ i)=>bif decide (0≤i)&&decide (i<len) then ZjF H (i.toNat*sz) x else none
 | _=>none
def ZqQ (H:Zo) (x:V):Option D:=
 match elems H x with | some xs=>some (.int .i64 xs.length) | none=>none
def mxE (isMax:Bool):List V→Option D
 | []=>none
 | .d (.int k a) :: r=>go k a r
 | _=>none
where
 go (k:IntKind) (a:Int):List V→Option D
  | []=>some (.int k a)
  | .d (.int _ b) :: r=>go k (bif isMax then (bif decide (a<b) then b else a) else (bif decide (b<a) then b else a)) r
  | _=>none
def ZpE (z:List V):List (Nat×Nat×V)→Option (List V)
 | []=>some z
 | (off,size,v) :: r=>bif v.okb&&Nat.beq v.cells.length size&&Nat.ble (off+size) z.length then ZpE (Zaq z off v.cells) r else none
def Zo5 (H:Zo) (sz:Nat) (xs:List D):List (Nat×V)→Option (List D×List Nat)
 | []=>some (xs,[])
 | (i,v) :: r=>match fr H 6 v with
  | some (y,ks)=>(bif Nat.blt i xs.length&&Nat.beq y.cells.length sz&&(V.d y).okb then match Zo5 H sz (Zfp xs i y) r with | some (l,k2)=>some (l,ks++k2) | none=>none else none)
  | none=>none
def Zji (es:List (D×D)) (k:D):Option (Option D):=
 match es with
 | []=>some none
 | (a,v) :: r=>match eqD k a with | some true=>some (some v) | some false=>Zji r k | none=>none
def ZwX (es:List (D×D)) (k z:D):Option D:=match Zji es k with | some (some y)=>some y | some none=>some z | none=>none
def ZiC (es:List (D×D)) (k v:D):Option (List (D×D)):=
 match es with
 | []=>some [(k,v)]
 | (a,u) :: r=>match eqD k a with
  | some true=>some ((a,v) :: r)
  | some false=>(match ZiC r k v with | some l=>some ((a,u) :: l) | none=>none)
  | none=>none
def Zhq:D→Bool
 | .bool _=>true
 | .int _ _=>true
 | _=>false
def ZlS (H:Zo) (ks:List Bool) (m k v:V):Res:=
 match m,k,v with
 | .mp b,.d k,.d y=>(match nth H b with
  | some (.mp es)=>(match ZdB ks k&&Zhq y with | true=>(match ZiC es k y with | some l=>some (.bad,[(b,.mp l)],[]) | none=>none) | false=>none)
  | _=>none)
 | _,_,_=>none
def ZkU (H:Zo) (ks:List Bool) (z:D) (m k:V):Option D:=
 match m,k with
 | .mp b,.d k=>(match nth H b with
  | some (.mp es)=>(match ZdB ks k with | true=>ZwX es k z | false=>none)
  | _=>none)
 | _,_=>none
def Zq7:List D→Option (List (Int×Int))
 | []=>some []
 | .agg [.int .i64 a,.int .i64 b] :: r=>match Zq7 r with | some l=>some ((a,b) :: l) | none=>none
 | _=>none
def pc (zs:List (Int×Int)) (j:Nat):Int×Int:=zs[j]?.getD (0,0)
def ZeS (zs:List (Int×Int)) (p:Int):Nat→Int
 | 0=>-1
 | k+1=>bif ((pc zs k).1 != p || decide (p<0)) then ZeS zs p k else (k:Int)
def ZjZ (id:Nat) (l:List D):Option D:=
 match id,l with
 | 0,[.agg [_,_,.list _ xs],.int .i64 p]=>(match Zq7 xs with | some zs=>bif Nat.ble zs.length lim then some (.int .i64 (ZeS zs p zs.length)) else none | none=>none)
 | _,_=>none
abbrev Zbs:=Nat→List V→Zo→Option (V×Zo)
def Zgn (Γ:Ctx) (cf:Zbs) (nid:Nat) (H:Zo) (f:Nat) (args:List V):Res:=
 match Γ.mode f with
 | 0=>match fzs H args with
  | some l=>match cf f (ZcU l) [] with
   | some (v,H1)=>match fr H1 6 v with | some (x,_)=>(match x with | .tup ts=>some (.tup (ZcU ts),[],[]) | x=>some (.d x,[],[])) | none=>none
   | none=>none
  | none=>none
 | 1=>match fzs H args with
  | some l=>match cf f (ZcU l) [] with
   | some (v,H1)=>bif Zpq v&&Zla H1 then let up:=fun j=>some (nid+j);some (Zl5 up v,[],H1.map (Zhx up)) else none
   | none=>none
  | none=>none
 | _=>
  match extract 0 args H with
  | none=>none
  | some (L,args',H0)=>match cf f args' H0 with
   | some (v,H1)=>bif Zk4 v&&ZiH H1 then
     let back:=fun j=>match nth L j with | some b=>some b | none=>some (nid+(j-L.length))
     some (Zl5 back v,L.zip (H1.map (Zhx back)),(H1.drop L.length).map (Zhx back)) else none
   | none=>none
def Zeq (H:Zo):List (Nat×Blk)→Zo
 | []=>H
 | (b,blk) :: r=>Zeq (Zfp H b blk) r
def ZuC (e:Env) (H H':Zo):List Opd→Bool
 | []=>true
 | x :: xs=>(match x.val e with
  | .ptr b o=>(match Zdv H 1 false (.ptr b o),Zdv H' 1 false (.ptr b o) with | some (.mp i),some (.mp j)=>Nat.beq i j | _,_=>false)
  | _=>false)&&ZuC e H H' xs
def ZjP:V→Option (Nat×List V)
 | .fn f caps=>some (f,caps)
 | .d (.fn f caps)=>some (f,ZcU caps)
 | _=>none
def Zgp (Γ:Ctx) (v:V) (f:Nat) (caps:List V):Bool:=v.isD&&(!(Nat.ble (Γ.mode f) 1) && !caps.isEmpty)
def Zld (tab:List (Nat×Nat)) (t:Nat):Option Nat:=
 match tab with
 | []=>none
 | (a,f) :: r=>bif Nat.beq a t then some f else Zld r t
def opE (Γ:Ctx) (cf:Zbs) (e:Env) (nid:Nat) (H:Zo):O→Res
 | .mov x=>Zdh (x.val e)
 | .pick c a b=>match c.val e with | .d (.bool t)=>Zdh (bif t then a.val e else b.val e) | _=>none
 | .alloc z=>some (.ptr nid 0,[],[.cells z.cells])
 | .box x=>bif (x.val e).okb then some (.ptr nid 0,[],[.cells (x.val e).cells]) else none
 | .build z ps=>match ZpE z (ps.map fun(o,s,x)=>(o,s,x.val e)) with | some cs=>Zdh (ZrI cs) | none=>none
 | .bslice sz z len ps=>bif Nat.beq len 0 then Zdh (.nilsl sz) else match Zo5 H sz (List.replicate len (match z with | [x]=>x | z=>.agg z)) (ps.map fun(i,x)=>(i,x.val e)) with
  | some (xs,ks)=>some (.sl nid sz,ks.map (fun j=>(j,.dead)),[.arr sz xs])
  | none=>none
 | .load n ag x=>match Zdv H n ag (x.val e) with | some v=>Zdh v | none=>none
 | .store n x v=>ZlJ H n (x.val e) (v.val e)
 | .nilck x=>match Zs3 H (x.val e) with | some v=>Zdh v | none=>none
 | .bin op x y=>match Zm2 op (x.val e) (y.val e) with | some r=>Zdh (.d r) | none=>none
 | .eqv ks neg x y=>match x.val e,y.val e with
  | .d a,.d b=>(match ZdB ks a with | true=>(match eqD a b with | some r=>Zdh (.d (.bool (bif neg then !r else r))) | none=>none) | false=>none)
  | _,_=>none
 | .un op x=>match unE op (x.val e) with | some r=>Zdh (.d r) | none=>none
 | .conv k x=>match x.val e with | .d (.int _ n)=>Zdh (.d (.int k (k.wrap n))) | _=>none
 | .mkfn f caps=>Zdh (match caps with | []=>.d (.fn f []) | caps=>.fn f (vals e caps))
 | .mkslice sz z n c=>match n.val e,c.val e with
  | .d (.int _ n),.d (.int _ c)=>bif decide (0≤n)&&decide (n≤lim)&&decide (n==c) then
    some (.sl nid sz,[],[.arr sz (List.replicate n.toNat (match z with | [x]=>x | z=>.agg z))]) else none
  | _,_=>none
 | .slice sz x lo hi mx=>match Zh4 H sz (x.val e) (lo.map (·.val e)) (hi.map (·.val e)) (mx.map (·.val e)) with | some v=>Zdh v | none=>none
 | .faddr off x=>match ZjF H off (x.val e) with | some v=>Zdh v | none=>none
 | .field off n ag x=>match x.val e with
  | .d (.agg cs)=>(match Zdj n ag (ZcU (cs.drop off)) with | some v=>Zdh v | none=>none)
  | .agg cs=>(match Zdj n ag (cs.drop off) with | some v=>Zdh v | none=>none)
  | _=>none
 | .iaddr sz x i=>match ZhN H sz (x.val e) (i.val e) with | some v=>Zdh v | none=>none
 | .index len sz ag x i=>match ZlO len sz ag (x.val e) (i.val e) with | some v=>Zdh v | none=>none
 | .indexS x i=>match ZjH (x.val e) (i.val e) with | some v=>Zdh v | none=>none
 | .iaddrA len sz x i=>match Zga H len sz (x.val e) (i.val e) with | some v=>Zdh v | none=>none
 | .len x=>match ZqQ H (x.val e) with | some r=>Zdh (.d r) | none=>none
 | .append sz x y=>ZkM nid H sz (x.val e) (y.val e)
 | .appendD sz x y=>match Zh6 H sz (x.val e) (y.val e) with | some v=>Zdh v | none=>none
 | .mx b xs=>match mxE b (vals e xs) with | some r=>Zdh (.d r) | none=>none
 | .extract x i=>match x.val e with
  | .tup vs=>(match nth vs i with | some v=>Zdh v | none=>none)
  | .d (.tup vs)=>(match nth vs i with | some v=>Zdh (.d v) | none=>none)
  | _=>none
 | .mkif t x=>match fr H 6 (x.val e) with | some (y,[])=>Zdh (.d (.iface t y)) | _=>none
 | .call f args=>Zgn Γ cf nid H f (vals e args)
 | .callv x args=>match ZjP (x.val e) with
  | some (f,caps)=>(match Zgp Γ (x.val e) f caps with | true=>none | false=>Zgn Γ cf nid H f (vals e args++caps))
  | none=>none
 | .invoke tab x args=>match x.val e with
  | .d (.iface t y)=>(match Zld tab t with | some f=>Zgn Γ cf nid H f (.d y :: vals e args) | none=>none)
  | _=>none
 | .mkmap=>some (.mp nid,[],[.mp []])
 | .mapset ks m k v=>ZlS H ks (m.val e) (k.val e) (v.val e)
 | .mapget ks z m k=>match ZkU H ks z (m.val e) (k.val e) with | some r=>Zdh (.d r) | none=>none
 | .panic=>none
 | .callk f args _=>Zgn Γ cf nid H f (vals e args)
 | .spec id args=>match H,Zkk (vals e args) with | [],some l=>(match ZjZ id l with | some r=>Zdh (.d r) | none=>none) | _,_=>none
 | .nilq x=>match elems H (x.val e) with | some xs=>(match Nat.blt 0 xs.length with | true=>Zdh (.d (.bool false)) | false=>none) | none=>none
def ZoP (e:Env) (dst:Option Nat) (v:V):Env:=match dst with | some i=>e.set i v | none=>e
def ZfG (e:Env) (g:Option (Nat×Bool)):Option Bool:=
 match g with
 | none=>some true
 | some (s,b)=>match e s with | .d (.bool t)=>some (t==b) | .d (.tup [])=>some false | _=>none
def ZhU (Γ:Ctx) (cf:Zbs):List Op1→Env→Zo→Option (Env×Zo)
 | [],e,H=>some (e,H)
 | o :: r,e,H=>match ZfG e o.guard with
  | some true=>(match opE Γ cf e H.length H o.op with
   | some (v,up,nw)=>ZhU Γ cf r (ZoP e o.dst v) (Zeq H up++nw)
   | none=>none)
  | some false=>ZhU Γ cf r (ZoP e o.dst (.d (.tup []))) H
  | none=>none
def Zwg (H:Zo) (b:Nat):Nat→Zo
 | 0=>H
 | n+1=>Zwg (Zfp H b .dead) (b+1) n
def Zgk (H:Zo) (pos:List (Nat×Nat)):List Nat→Zo
 | []=>H
 | i :: r=>match nth pos i with | some (b,n)=>Zgk (Zwg H b n) pos r | none=>Zgk H pos r
def Zsw:List (Nat×Blk)→Bool
 | []=>true
 | (_,.dead) :: _=>false
 | _ :: r=>Zsw r
def Zn6 (eff:Nat) (up:List (Nat×Blk)) (nw:List Blk):Bool:=match eff with | 0=>up.isEmpty | 1=>up.isEmpty&&nw.isEmpty | 3=>Zsw up&&nw.isEmpty | _=>true
def ZA3 (e:Env) (H:Zo) (up:List (Nat×Blk)):O→Bool
 | .callk _ _ chk=>ZuC e H (Zeq H up) chk
 | _=>true
def Zn2 (e:Env) (H:Zo) (o:Op1) (up:List (Nat×Blk)) (nw:List Blk):Bool:=Zn6 o.eff up nw&&ZA3 e H up o.op
def ZfB (Γ:Ctx) (cf:Zbs) (pos:List (Nat×Nat)):List Op1→Env→Zo→Option (Env×Zo)
 | [],e,H=>some (e,H)
 | o :: r,e,H=>match ZfG e o.guard with
  | some true=>(match opE Γ cf e H.length (Zgk H pos o.mask) o.op with
   | some (v,up,nw)=>bif Zn2 e H o up nw then ZfB Γ cf (pos++[(H.length,nw.length)]) r (ZoP e o.dst v) (Zeq H up++nw) else none
   | _=>none)
  | some false=>ZfB Γ cf (pos++[(H.length,0)]) r (ZoP e o.dst (.d (.tup []))) H
  | none=>none
inductive Lp where
 | again (vs:List V) (H:Zo)
 | done (x:Ex) (vs:List V) (H:Zo)
abbrev St:=Env×Zo
def Zdk (F:List V→Zo→Option Lp):Nat→List V→Zo→Option (Ex×List V×Zo)
 | 0,_,_=>none
 | n+1,vs,H=>match F vs H with
  | some (.again vs H)=>Zdk F n vs H
  | some (.done x vs H)=>some (x,vs,H)
  | none=>none
def ZeB (k:Nat) (live outs:List Nat) (r:Option (Ex×Env×Zo)):Option Lp:=
 match r with
 | some (.normal,e,H)=>(match ZnB k (live.map e) H with | some (vs,H)=>some (.again vs H) | none=>none)
 | some (x,e,H)=>(match extract k (outs.map e) H with | some (_,vs,H)=>some (.done x vs H) | none=>none)
 | none=>none
def Zan (Γ:Ctx) (cf:Zbs) (It:(List V→Zo→Option Lp)→List V→Zo→Option (Ex×List V×Zo)) (k:Nat):C→Env→Zo→Option (Ex×Env×Zo)
 | .skip,e,H=>some (.normal,e,H)
 | .ret,e,H=>some (.ret,e,H)
 | .exit id,e,H=>some (.exit id,e,H)
 | .seq a b,e,H=>match Zan Γ cf It k a e H with
  | some (.normal,e,H)=>Zan Γ cf It k b e H
  | r=>r
 | .cond x a b,e,H=>match x.val e with
  | .d (.bool t)=>(match t with | true=>Zan Γ cf It k a e H | false=>Zan Γ cf It k b e H)
  | _=>none
 | .block id a,e,H=>match Zan Γ cf It k a e H with
  | some (.exit j,e,H)=>bif Nat.beq j id then some (.normal,e,H) else some (.exit j,e,H)
  | r=>r
 | .loop live outs a,e,H=>match ZnB k (live.map e) H with
  | some (vs,H)=>(match It (fun vs H=>ZeB k live outs (Zan Γ cf It k a (Zef live vs) H)) vs H with
   | some (x,vs,H)=>some (x,Zef outs vs,H)
   | none=>none)
  | none=>none
 | .ops l,e,H=>match ZhU Γ cf l e H with | some (e,H)=>some (.normal,e,H) | none=>none
 | .draw l,e,H=>match ZfB Γ cf [] l e H with | some (e,H)=>some (.normal,e,H) | none=>none
def ZeM (i:Nat):List V→Env
 | []=>env0
 | v :: vs=>(ZeM (i+1) vs).set i v
def ZkW (e:Env) (H:Zo):List (Nat×Option (Nat×Bool))→Option (List V)
 | []=>some []
 | (i,none) :: r=>match ZkW e H r with | some l=>some (e i :: l) | none=>none
 | (i,some (n,ag)) :: r=>match Zdv H n ag (e i),ZkW e H r with | some v,some l=>some (v :: l) | _,_=>none
def Zhh:List V→V
 | [v]=>v
 | l=>ZtB l
def Zj3 (Γ:Ctx) (cf:Zbs) (It:(List V→Zo→Option Lp)→List V→Zo→Option (Ex×List V×Zo)) (f:Nat) (args:List V) (H:Zo):Option (V×Zo):=
 match Γ.code f with
 | none=>none
 | some fn=>
  bif Nat.beq args.length fn.nargs then
   match Zan Γ cf It H.length fn.body (ZeM 0 args) H with
   | some (.exit _,_,_)=>none
   | some (_,e,H1)=>(match ZkW e H1 fn.res with
    | some l=>(match extract H.length [Zhh l] H1 with | some (_,[v],H2)=>some (v,H2) | _=>none)
    | none=>none)
   | none=>none
  else none
def evN (Γ:Ctx):Nat→Zbs
 | 0=>fun _ _ _=>none
 | n+1=>Zj3 Γ (evN Γ n) (fun F=>Zdk F n)
end Go.Proofs.YtnmbdjkbaihicaaDoorE
namespace Go.Proofs.YtnmbdjkbaihicaaDoor
open Go Go.Proofs.YtnmbdjkbaihicaaDoorE
def ZBa:List D:=[.int .u8 0,.int .u8 1,.int .u8 28,.int .u8 2,.int .u8 29,.int .u8 14,.int .u8 24,.int .u8 3,.int .u8 30,.int .u8 22,.int .u8 20,.int .u8 15,.int .u8 25,.int .u8 17,.int .u8 4,.int .u8 8,.int .u8 31,.int .u8 27,.int .u8 13,.int .u8 23,.int .u8 21,.int .u8 19,.int .u8 16,.int .u8 7,.int .u8 26,.int .u8 12,.int .u8 18,.int .u8 6,.int .u8 11,.int .u8 5,.int .u8 10,.int .u8 9]
def Zwn:List D:=[.int .u8 0,.int .u8 1,.int .u8 56,.int .u8 2,.int .u8 57,.int .u8 49,.int .u8 28,.int .u8 3,.int .u8 61,.int .u8 58,.int .u8 42,.int .u8 50,.int .u8 38,.int .u8 29,.int .u8 17,.int .u8 4,.int .u8 62,.int .u8 47,.int .u8 59,.int .u8 36,.int .u8 45,.int .u8 43,.int .u8 51,.int .u8 22,.int .u8 53,.int .u8 39,.int .u8 33,.int .u8 30,.int .u8 24,.int .u8 18,.int .u8 12,.int .u8 5,.int .u8 63,.int .u8 55,.int .u8 48,.int .u8 27,.int .u8 60,.int .u8 41,.int .u8 37,.int .u8 16,.int .u8 46,.int .u8 35,.int .u8 44,.int .u8 21,.int .u8 52,.int .u8 32,.int .u8 23,.int .u8 11,.int .u8 54,.int .u8 26,.int .u8 40,.int .u8 15,.int .u8 34,.int .u8 20,.int .u8 31,.int .u8 10,.int .u8 25,.int .u8 14,.int .u8 19,.int .u8 9,.int .u8 13,.int .u8 8,.int .u8 7,.int .u8 6]
def ZyH:C:=.seq (.seq (.ops [oB 49 (.mov (.t 12)),oB 50 (.mov (.t 7)),oB 51 (.len (.t 50)),oB 52 (.bin .lss (.t 49) (.t 51))]) (.cond (.t 52) (.skip) (.exit 0))) (.seq (.block 1 (.ops [oB 55 (.mov (.t 10)),oB 56 (.mov (.t 55)),oG 57 (.mov (.t 7)) 56 false,oG 58 (.mov (.t 12)) 56 false,oG 59 (.iaddr 1 (.t 57) (.t 58)) 56 false,oG 60 (.load 1 false (.t 59)) 56 false,oG 61 (.mov (.t 2)) 56 false,oG 62 (.bin .eql (.t 60) (.t 61)) 56 false,oB 63 (.pick (.t 56) bT (.t 62)),oB 10 (.mov (.t 63))])) (.ops [oB 53 (.mov (.t 12)),oB 54 (.bin .add (.t 53) (iN 1)),oB 12 (.mov (.t 54))]))
def ZvE:C:=.seq (.seq (.ops [oB 64 (.mov (.t 13)),oB 65 (.faddr 0 (.t 4)),oB 66 (.load 1 false (.t 65)),oB 67 (.len (.t 66)),oB 68 (.bin .lss (.t 64) (.t 67))]) (.cond (.t 68) (.skip) (.exit 2))) (.seq (.block 3 (.ops [oB 71 (.mov (.t 11)),oB 72 (.mov (.t 71)),oG 73 (.faddr 0 (.t 4)) 72 true,oG 74 (.load 1 false (.t 73)) 72 true,oG 75 (.mov (.t 13)) 72 true,oG 76 (.iaddr 1 (.t 74) (.t 75)) 72 true,oG 77 (.load 1 false (.t 76)) 72 true,oB 78 (.pick (.t 72) (.t 77) bF),oB 11 (.mov (.t 78))])) (.ops [oB 69 (.mov (.t 13)),oB 70 (.bin .add (.t 69) (iN 1)),oB 13 (.mov (.t 70))]))
def Zxd:C:=.seq (.seq (.ops [oB 104 (.mov (.t 17)),oB 105 (.mov (.t 14)),oB 106 (.len (.t 105)),oB 107 (.bin .lss (.t 104) (.t 106))]) (.cond (.t 107) (.skip) (.exit 6))) (.seq (.block 7 (.draw [oB 110 (.mov (.t 16)),oB 111 (.mov (.t 110)),oG 112 (.mov (.t 14)) 111 false,⟨some 113,.mov (.t 17),some (111,false),[2],0⟩,oG 114 (.iaddr 1 (.t 112) (.t 113)) 111 false,oG 115 (.load 1 false (.t 114)) 111 false,⟨some 116,.mov (.t 7),some (111,false),[2,3,4,5],0⟩,⟨some 117,.mov (.t 15),some (111,false),[2,3,4,5,6],0⟩,⟨some 118,.iaddr 1 (.t 116) (.t 117),some (111,false),[2,3,4,5],0⟩,⟨some 119,.load 1 false (.t 118),some (111,false),[2,3,4,5],0⟩,oG 120 (.bin .eql (.t 115) (.t 119)) 111 false,oB 121 (.pick (.t 111) bT (.t 120)),oB 16 (.mov (.t 121))])) (.ops [oB 108 (.mov (.t 17)),oB 109 (.bin .add (.t 108) (iN 1)),oB 17 (.mov (.t 109))]))
def Zsc:C:=.seq (.seq (.ops [oB 95 (.mov (.t 15)),oB 96 (.mov (.t 7)),oB 97 (.len (.t 96)),oB 98 (.bin .lss (.t 95) (.t 97)),oB 99 (.mov (.t 98)),oG 100 (.mov (.t 10)) 99 true,oB 101 (.pick (.t 99) (.t 100) bF)]) (.cond (.t 101) (.skip) (.exit 4))) (.seq (.block 5 (.seq (.ops [oB 16 (.mov bF)]) (.seq (.seq (.ops [oB 17 (.mov (iN 0))]) (.block 6 (.loop [2,3,7,8,10,14,15,16,17] [2,3,7,8,10,14,15,16] Zxd))) (.seq (.ops [oB 122 (.mov (.t 16)),oB 123 (.mov (.t 7)),oB 124 (.mov (.t 15)),oB 125 (.iaddr 1 (.t 123) (.t 124)),oB 126 (.load 1 false (.t 125)),oB 127 (.mov (.t 2)),oB 128 (.bin .neq (.t 126) (.t 127)),oB 129 (.eqv [true] true (.t 122) (.t 128))]) (.cond (.t 129) (.seq (.ops [oB 6 (.mov bF)]) (.ret)) (.skip)))))) (.ops [oB 102 (.mov (.t 15)),oB 103 (.bin .add (.t 102) (iN 1)),oB 15 (.mov (.t 103))]))
def ir4:C:=.seq (.ops [oB 3 (.box (.t 0)),oB 4 (.box (.t 1)),oB 6 (.mov bF)]) (.seq (.seq (.draw [oB 18 (.call 12 []),oB 19 (.un .not (.t 18)),oB 20 (.mov (.t 19)),oG 21 (.load 6 true (.t 3)) 20 false,⟨some 22,.load 2 true (.t 4),some (20,false),[3],0⟩,oG 23 (.call 13 [(.t 21),(.c (.nilsl 1)),(.t 22)]) 20 false,oG 24 (.un .not (.t 23)) 20 false,oB 25 (.pick (.t 20) bT (.t 24)),oB 26 (.mov (.t 25)),oG 27 (.load 6 true (.t 3)) 26 false,oG 28 (.call 15 [(.t 27)]) 26 false,⟨some 29,.load 2 true (.t 4),some (26,false),[9,10],0⟩,oG 30 (.call 17 [(.t 29)]) 26 false,oG 31 (.call 21 [(.t 28),(.t 30)]) 26 false,oG 32 (.bin .neq (.t 31) (iN 0)) 26 false,oB 33 (.pick (.t 26) bT (.t 32))]) (.cond (.t 33) (.seq (.ops [oB 34 (.call 12 []),oB 6 (.mov (.t 34))]) (.ret)) (.skip))) (.seq (.draw [oB 35 (.load 6 true (.t 3)),oB 36 (.call 15 [(.t 35)]),oM 37 (.load 2 true (.t 4)) [0,1],oB 38 (.call 17 [(.t 37)]),oB 39 (.call 16 [(.t 36),(.t 38)]),oB 7 (.mov (.t 39))]) (.seq (.draw [oB 41 (.load 6 true (.t 3)),oB 42 (.call 15 [(.t 41)]),oM 43 (.load 2 true (.t 4)) [0,1],oB 44 (.call 17 [(.t 43)]),oM 45 (.mov (.t 2)) [0,1,2,3],oB 46 (.call 18 [(.t 42),(.c (.nilsl 1)),(.t 44),(.t 45)]),oB 40 (.mov (.t 46)),oB 47 (.extract (.t 40) 0),oM 48 (.extract (.t 40) 1) [7],oM 8 (.alloc (.agg [(.nilsl 1),(.nilsl 1)])) [0,1,2,3,4,5,6,7,8],⟨none,.store 2 (.t 8) (.t 47),none,[],3⟩,oB 9 (.mov (.t 48))]) (.seq (.ops [oB 10 (.mov bF),oB 11 (.mov bT)]) (.seq (.seq (.ops [oB 12 (.mov (iN 0))]) (.block 0 (.loop [2,3,4,7,8,9,10,11,12] [2,3,4,7,8,9,10,11] ZyH))) (.seq (.seq (.ops [oB 13 (.mov (iN 0))]) (.block 2 (.loop [2,3,4,7,8,9,10,11,13] [2,3,7,8,9,10,11] ZvE))) (.seq (.seq (.ops [oB 79 (.mov (.t 9)),oB 80 (.bin .eql (.t 79) (iN 0)),oB 81 (.mov (.t 10)),oB 82 (.eqv [true] true (.t 80) (.t 81)),oB 83 (.mov (.t 82)),oG 84 (.mov (.t 7)) 83 false,oG 85 (.len (.t 84)) 83 false,oG 86 (.bin .eql (.t 85) (iN 0)) 83 false,oG 87 (.mov (.t 11)) 83 false,oG 88 (.eqv [true] true (.t 86) (.t 87)) 83 false,oB 89 (.pick (.t 83) bT (.t 88))]) (.cond (.t 89) (.seq (.ops [oB 6 (.mov bF)]) (.ret)) (.skip))) (.seq (.draw [oB 90 (.load 6 true (.t 3)),oB 91 (.call 15 [(.t 90)]),oM 92 (.load 2 true (.t 8)) [0,1],oB 93 (.call 17 [(.t 92)]),oB 94 (.call 16 [(.t 91),(.t 93)]),oB 14 (.mov (.t 94))]) (.seq (.seq (.ops [oB 15 (.mov (iN 0))]) (.block 4 (.loop [2,3,7,8,10,14,15] [3,6,8,10] Zsc))) (.seq (.draw [oB 130 (.mov (.t 10)),oB 131 (.un .not (.t 130)),oB 132 (.mov (.t 131)),oG 133 (.load 6 true (.t 3)) 132 false,oG 134 (.call 15 [(.t 133)]) 132 false,⟨some 135,.load 2 true (.t 8),some (132,false),[3,4],0⟩,oG 136 (.call 17 [(.t 135)]) 132 false,oG 137 (.call 21 [(.t 134),(.t 136)]) 132 false,oG 138 (.bin .eql (.t 137) (iN 0)) 132 false,oB 139 (.pick (.t 132) bT (.t 138)),oB 6 (.mov (.t 139))]) (.ret)))))))))))
def fn4:FnI:=⟨3,ir4,[(6,none)]⟩
def ZCO:C:=.seq (.ops [oB 0 (.mov bF)]) (.seq (.ops [oB 10 (.build [(.d (.int .i64 0)),(.d (.int .i64 0)),(.d (.int .i64 0))] [(0,1,(iN 1)),(1,1,(iN 1)),(2,1,(iN 1))]),oB 11 (.build [(.d (.int .i64 0)),(.d (.int .i64 0)),(.d (.int .i64 0))] [(0,1,(iN 0)),(1,1,(iN 0)),(2,1,(iN 1))]),oB 12 (.build [(.d (.int .i64 0)),(.d (.int .i64 0)),(.d (.int .i64 0))] [(0,1,(iN 5)),(2,1,(iN 2))]),oB 13 (.bslice 3 [.int .i64 0,.int .i64 0,.int .i64 0] 3 [(0,(.t 10)),(1,(.t 11)),(2,(.t 12))]),oB 14 (.build [(.d (.int .i64 0)),(.d (.int .i64 0))] [(0,1,(iN 0)),(1,1,(iN 2))]),oB 15 (.bslice 2 [.int .i64 0,.int .i64 0] 1 [(0,(.t 14))]),oB 16 (.build [(.d (.int .i64 0)),(.d (.int .i64 0)),(.d (.int .i64 0))] [(0,1,(iN 1)),(1,1,(iN 2)),(2,1,(iN 1))]),oB 17 (.bslice 3 [.int .i64 0,.int .i64 0,.int .i64 0] 1 [(0,(.t 16))]),oB 18 (.build [(.d (.int .i64 0)),(.d (.int .i64 0)),(.nilsl 3),(.nilsl 2),(.nilsl 3),(.nilsl 2)] [(0,1,(iN 8)),(1,1,(iN 8)),(2,1,(.t 13)),(3,1,(.t 15)),(4,1,(.t 17))]),oB 1 (.alloc (.agg [(.d (.int .i64 0)),(.d (.int .i64 0)),(.nilsl 3),(.nilsl 2),(.nilsl 3),(.nilsl 2)])),oA (.store 6 (.t 1) (.t 18))]) (.seq (.ops [oB 20 (.load 6 true (.t 1)),oB 21 (.bslice 1 [.int .i64 0] 1 [(0,(iN 2))]),oB 22 (.call 19 [(.t 20),(.t 21)]),oB 19 (.mov (.t 22)),oB 23 (.extract (.t 19) 0),oB 24 (.extract (.t 19) 1),oB 2 (.mov (.t 23)),oB 3 (.mov (.t 24))]) (.seq (.ops [oB 26 (.load 6 true (.t 1)),oB 27 (.call 14 [(.t 26)]),oB 25 (.mov (.t 27)),oB 28 (.extract (.t 25) 0),oB 29 (.extract (.t 25) 1),oB 4 (.alloc (.agg [(.nilsl 1),(.nilsl 1)])),oA (.store 2 (.t 4) (.t 28)),oB 5 (.mov (.t 29))]) (.seq (.ops [oB 31 (.load 6 true (.t 1)),oB 32 (.bslice 1 [.int .i64 0] 1 [(0,(iN 2))]),oB 33 (.load 2 true (.t 4)),oB 34 (.call 18 [(.t 31),(.t 32),(.t 33),(iN 0)]),oB 30 (.mov (.t 34)),oB 35 (.extract (.t 30) 0),oB 36 (.extract (.t 30) 1),oB 6 (.alloc (.agg [(.nilsl 1),(.nilsl 1)])),oA (.store 2 (.t 6) (.t 35)),oB 7 (.mov (.t 36))]) (.seq (.ops [oB 38 (.load 6 true (.t 1)),oB 39 (.bslice 1 [.int .i64 0] 1 [(0,(iN 2))]),oB 40 (.load 2 true (.t 4)),oB 41 (.call 18 [(.t 38),(.t 39),(.t 40),(iN 3)]),oB 37 (.mov (.t 41)),oB 42 (.extract (.t 37) 0),oB 43 (.extract (.t 37) 1),oB 8 (.alloc (.agg [(.nilsl 1),(.nilsl 1)])),oA (.store 2 (.t 8) (.t 42)),oB 9 (.mov (.t 43))]) (.seq (.ops [oB 44 (.mov (.t 3)),oB 45 (.bin .eql (.t 44) (iN 0)),oB 46 (.mov (.t 45)),oG 47 (.mov (.t 2)) 46 true,oG 48 (.bslice 1 [.int .i64 0] 3 [(0,(iN 1)),(1,(iN 2)),(2,(iN 6760))]) 46 true,oG 49 (.call 20 [(.t 47),(.t 48)]) 46 true,oB 50 (.pick (.t 46) (.t 49) bF),oB 51 (.mov (.t 50)),oG 52 (.mov (.t 5)) 51 true,oG 53 (.bin .eql (.t 52) (iN 0)) 51 true,oB 54 (.pick (.t 51) (.t 53) bF),oB 55 (.mov (.t 54)),oG 56 (.mov (.t 7)) 55 true,oG 57 (.bin .eql (.t 56) (iN 0)) 55 true,oB 58 (.pick (.t 55) (.t 57) bF),oB 59 (.mov (.t 58)),oG 60 (.faddr 1 (.t 6)) 59 true,oG 61 (.load 1 false (.t 60)) 59 true,oG 62 (.iaddr 1 (.t 61) (iN 0)) 59 true,oG 63 (.load 1 false (.t 62)) 59 true,oG 64 (.bin .eql (.t 63) (iN 1)) 59 true,oB 65 (.pick (.t 59) (.t 64) bF),oB 66 (.mov (.t 65)),oG 67 (.mov (.t 9)) 66 true,oG 68 (.bin .eql (.t 67) (iN 83)) 66 true,oB 69 (.pick (.t 66) (.t 68) bF),oB 70 (.mov (.t 69)),oG 71 (.load 6 true (.t 1)) 70 true,oG 72 (.load 2 true (.t 6)) 70 true,oG 73 (.call 16 [(.t 71),(.t 72)]) 70 true,oG 74 (.bslice 1 [.int .i64 0] 2 [(0,(iN 1)),(1,(iN 2))]) 70 true,oG 75 (.call 20 [(.t 73),(.t 74)]) 70 true,oB 76 (.pick (.t 70) (.t 75) bF),oB 77 (.mov (.t 76)),oG 78 (.load 6 true (.t 1)) 77 true,oG 79 (.load 2 true (.t 6)) 77 true,oG 80 (.call 21 [(.t 78),(.t 79)]) 77 true,oG 81 (.bin .eql (.t 80) (iN 0)) 77 true,oB 82 (.pick (.t 77) (.t 81) bF),oB 83 (.mov (.t 82)),oG 84 (.load 2 true (.t 6)) 83 true,oG 85 (.load 2 true (.t 6)) 83 true,oG 86 (.call 38 [(.t 84),(.t 85)]) 83 true,oB 87 (.pick (.t 83) (.t 86) bF),oB 88 (.mov (.t 87)),oG 89 (.load 2 true (.t 6)) 88 true,oG 90 (.load 2 true (.t 4)) 88 true,oG 91 (.call 38 [(.t 89),(.t 90)]) 88 true,oG 92 (.un .not (.t 91)) 88 true,oB 93 (.pick (.t 88) (.t 92) bF),oB 94 (.mov (.t 93)),oG 95 (.build [(.d (.int .i64 0)),(.d (.int .i64 0)),(.d (.int .i64 0))] [(0,1,(iN 5))]) 94 true,oG 96 (.bslice 1 [.int .i64 0] 2 [(0,(iN 1)),(1,(iN 2))]) 94 true,oG 97 (.call 39 [(.t 95),(.c (.nilsl 1)),(.t 96)]) 94 true,oG 98 (.bin .eql (.t 97) (iN 6760)) 94 true,oB 99 (.pick (.t 94) (.t 98) bF),oB 0 (.mov (.t 99))]) (.ret)))))))
def ZAW:FnI:=⟨0,ZCO,[(0,none)]⟩
def ZDf:C:=.seq (.ops [oB 3 (.box (.t 0)),oB 5 (.box (.t 2)),oB 6 (.mov bF)]) (.seq (.ops [oB 7 (.load 6 true (.t 3)),oB 8 (.call 40 [(.t 7)]),oB 9 (.mov (.t 8)),oG 10 (.mov (.t 1)) 9 true,oG 11 (.len (.t 10)) 9 true,oG 12 (.bin .leq (.t 11) (iN 60)) 9 true,oB 13 (.pick (.t 9) (.t 12) bF),oB 14 (.mov (.t 13)),oG 15 (.faddr 0 (.t 5)) 14 true,oG 16 (.load 1 false (.t 15)) 14 true,oG 17 (.len (.t 16)) 14 true,oG 18 (.bin .leq (.t 17) (iN 70)) 14 true,oB 19 (.pick (.t 14) (.t 18) bF),oB 20 (.mov (.t 19)),oG 21 (.faddr 1 (.t 5)) 20 true,oG 22 (.load 1 false (.t 21)) 20 true,oG 23 (.len (.t 22)) 20 true,oG 24 (.bin .leq (.t 23) (iN 70)) 20 true,oB 25 (.pick (.t 20) (.t 24) bF),oB 6 (.mov (.t 25))]) (.ret))
def ZzN:FnI:=⟨3,ZDf,[(6,none)]⟩
def ZCS:C:=.seq (.ops [oB 1 (.box (.t 0)),oB 2 (.alloc (.agg [(.nilsl 1),(.nilsl 1)])),oB 3 (.mov (iN 0))]) (.seq (.ops [oB 7 (.load 6 true (.t 1)),oB 8 (.call 41 [(.t 7)]),oB 6 (.mov (.t 8)),oB 9 (.extract (.t 6) 0),oB 10 (.extract (.t 6) 1),oB 4 (.alloc (.agg [(.nilsl 1),(.nilsl 2),(.nilsl 2)])),oA (.store 3 (.t 4) (.t 9)),oB 5 (.mov (.t 10))]) (.seq (.seq (.ops [oB 11 (.mov (.t 5)),oB 12 (.bin .neq (.t 11) (iN 0))]) (.cond (.t 12) (.seq (.ops [oB 13 (.build [(.nilsl 1),(.nilsl 1)] []),oB 14 (.mov (.t 5)),oA (.store 2 (.t 2) (.t 13)),oB 3 (.mov (.t 14))]) (.ret)) (.skip))) (.seq (.draw [oB 15 (.faddr 2 (.t 4)),oB 16 (.load 1 false (.t 15)),oB 17 (.len (.t 16)),oB 18 (.mkslice 1 [.bool false] (.t 17) (.t 17)),oM 19 (.faddr 2 (.t 1)) [0,1,2,3],oM 20 (.load 1 false (.t 19)) [0,1,2,3],oM 21 (.len (.t 20)) [0,1,2,3],oM 22 (.mkslice 1 [.int .i64 0] (.t 21) (.t 21)) [0,1,2,3],oB 23 (.build [(.nilsl 1),(.nilsl 1)] [(0,1,(.t 18)),(1,1,(.t 22))]),⟨none,.store 2 (.t 2) (.t 23),none,[],3⟩,oB 3 (.mov (iN 0))]) (.ret))))
def ZBX:FnI:=⟨1,ZCS,[(2,some (2,true)),(3,none)]⟩
def Zwm:C:=.seq (.seq (.ops [oB 22 (.mov (.t 4)),oB 23 (.faddr 5 (.t 1)),oB 24 (.load 1 false (.t 23)),oB 25 (.len (.t 24)),oB 26 (.bin .lss (.t 22) (.t 25))]) (.cond (.t 26) (.skip) (.exit 0))) (.seq (.block 1 (.draw [oB 29 (.faddr 5 (.t 3)),oB 30 (.load 1 false (.t 29)),oM 31 (.bslice 1 [.int .i64 0] 0 []) [0,1],oM 32 (.faddr 5 (.t 1)) [0,1,2],oM 33 (.load 1 false (.t 32)) [0,1,2],oM 34 (.mov (.t 4)) [0,1,2,3,4],oM 35 (.iaddr 2 (.t 33) (.t 34)) [0,1,2],oM 36 (.faddr 0 (.t 35)) [0,1,2],oM 37 (.load 1 false (.t 36)) [0,1,2],oM 38 (.appendD 1 (.t 31) (.t 37)) [0,1],oM 39 (.bslice 1 [.int .i64 0] 0 []) [0,1,2,3,4,5,6,7,8,9],oM 40 (.faddr 5 (.t 1)) [0,1,2,3,4,5,6,7,8,9,10],oM 41 (.load 1 false (.t 40)) [0,1,2,3,4,5,6,7,8,9,10],oM 42 (.mov (.t 4)) [0,1,2,3,4,5,6,7,8,9,10,11,12],oM 43 (.iaddr 2 (.t 41) (.t 42)) [0,1,2,3,4,5,6,7,8,9,10],oM 44 (.faddr 1 (.t 43)) [0,1,2,3,4,5,6,7,8,9,10],oM 45 (.load 1 false (.t 44)) [0,1,2,3,4,5,6,7,8,9,10],oM 46 (.appendD 1 (.t 39) (.t 45)) [0,1],oM 47 (.build [(.nilsl 1),(.nilsl 1)] [(0,1,(.t 38)),(1,1,(.t 46))]) [0,1],oM 48 (.bslice 2 [.list true [],.list true []] 1 [(0,(.t 47))]) [0,1],⟨some 49,.append 2 (.t 30) (.t 48),none,[],4⟩,oB 50 (.faddr 5 (.t 3)),⟨none,.store 1 (.t 50) (.t 49),none,[],3⟩])) (.ops [oB 27 (.mov (.t 4)),oB 28 (.bin .add (.t 27) (iN 1)),oB 4 (.mov (.t 28))]))
def ZCC:C:=.seq (.ops [oB 1 (.box (.t 0)),oB 2 (.alloc (.agg [(.d (.int .i64 0)),(.d (.int .i64 0)),(.nilsl 3),(.nilsl 2),(.nilsl 3),(.nilsl 2)]))]) (.seq (.draw [oB 5 (.faddr 0 (.t 1)),oB 6 (.load 1 false (.t 5)),oM 7 (.faddr 1 (.t 1)) [0,1],oM 8 (.load 1 false (.t 7)) [0,1],oM 9 (.bslice 3 [.int .i64 0,.int .i64 0,.int .i64 0] 0 []) [0,1,2,3],oM 10 (.faddr 2 (.t 1)) [0,1,2,3,4],oM 11 (.load 1 false (.t 10)) [0,1,2,3,4],oM 12 (.append 3 (.t 9) (.t 11)) [0,1,2,3],oM 13 (.bslice 2 [.int .i64 0,.int .i64 0] 0 []) [0,1,2,3,4,5,6,7],oM 14 (.faddr 3 (.t 1)) [0,1,2,3,4,5,6,7,8],oM 15 (.load 1 false (.t 14)) [0,1,2,3,4,5,6,7,8],oM 16 (.append 2 (.t 13) (.t 15)) [0,1,2,3],oM 17 (.bslice 3 [.int .i64 0,.int .i64 0,.int .i64 0] 0 []) [0,1,2,3,4,5,6,7,8,9,10,11],oM 18 (.faddr 4 (.t 1)) [0,1,2,3,4,5,6,7,8,9,10,11,12],oM 19 (.load 1 false (.t 18)) [0,1,2,3,4,5,6,7,8,9,10,11,12],oM 20 (.append 3 (.t 17) (.t 19)) [0,1,2,3],oB 21 (.build [(.d (.int .i64 0)),(.d (.int .i64 0)),(.nilsl 3),(.nilsl 2),(.nilsl 3),(.nilsl 2)] [(0,1,(.t 6)),(1,1,(.t 8)),(2,1,(.t 12)),(3,1,(.t 16)),(4,1,(.t 20))]),oM 3 (.alloc (.agg [(.d (.int .i64 0)),(.d (.int .i64 0)),(.nilsl 3),(.nilsl 2),(.nilsl 3),(.nilsl 2)])) [0,1,2,3,4,5,6,7,8,9,10,11,12,13,14,15,16],⟨none,.store 6 (.t 3) (.t 21),none,[],3⟩]) (.seq (.seq (.ops [oB 4 (.mov (iN 0))]) (.block 0 (.loop [1,2,3,4] [2,3] Zwm))) (.seq (.ops [oB 51 (.load 6 true (.t 3)),oA (.store 6 (.t 2) (.t 51))]) (.ret))))
def ZzT:FnI:=⟨1,ZCC,[(2,some (6,true))]⟩
def Zvl:C:=.seq (.ops [oB 29 (.bin .lss (.t 28) (.t 27))]) (.seq (.cond (.t 29) (.skip) (.exit 0)) (.seq (.block 1 (.seq (.ops [oB 30 (.mov (.t 28)),oB 31 (.iaddr 1 (.t 26) (.t 28)),oB 32 (.load 1 false (.t 31)),oB 8 (.mov (.t 30)),oB 9 (.mov (.t 32))]) (.seq (.ops [oB 33 (.mov (.t 9)),oB 34 (.un .not (.t 33)),oB 35 (.mov (.t 34)),oG 36 (.faddr 0 (.t 5)) 35 true,oG 37 (.load 2 true (.t 36)) 35 true,oG 38 (.load 2 true (.t 3)) 35 true,oG 39 (.mov (.t 8)) 35 true,oG 40 (.call 43 [(.t 37),(.t 38),(.t 39)]) 35 true,oG 41 (.un .not (.t 40)) 35 true,oB 42 (.pick (.t 35) (.t 41) bF)]) (.cond (.t 42) (.ops [oB 43 (.mov (.t 7)),oB 44 (.mov (.t 8)),oB 45 (.bslice 1 [.int .i64 0] 1 [(0,(.t 44))]),oB 46 (.append 1 (.t 43) (.t 45)),oB 7 (.mov (.t 46))]) (.skip))))) (.ops [oB 47 (.bin .add (.t 28) (iN 1)),oB 28 (.mov (.t 47))])))
def ZCs:C:=.seq (.ops [oB 2 (.box (.t 0)),oB 3 (.box (.t 1)),oB 4 (.mov (.c (.nilsl 1)))]) (.seq (.ops [oB 11 (.load 6 true (.t 2)),oB 12 (.call 41 [(.t 11)]),oB 10 (.mov (.t 12)),oB 13 (.extract (.t 10) 0),oB 14 (.extract (.t 10) 1),oB 5 (.alloc (.agg [(.nilsl 1),(.nilsl 2),(.nilsl 2)])),oA (.store 3 (.t 5) (.t 13)),oB 6 (.mov (.t 14))]) (.seq (.seq (.ops [oB 15 (.mov (.t 6)),oB 16 (.bin .neq (.t 15) (iN 0)),oB 17 (.mov (.t 16)),oG 18 (.load 6 true (.t 2)) 17 false,oG 19 (.faddr 0 (.t 5)) 17 false,oG 20 (.load 2 true (.t 19)) 17 false,oG 21 (.load 2 true (.t 3)) 17 false,oG 22 (.call 42 [(.t 18),(.t 20),(.t 21)]) 17 false,oG 23 (.un .not (.t 22)) 17 false,oB 24 (.pick (.t 17) bT (.t 23))]) (.cond (.t 24) (.seq (.ops [oB 4 (.mov (.c (.nilsl 1)))]) (.ret)) (.skip))) (.seq (.ops [oB 7 (.mov (.c (.nilsl 1)))]) (.seq (.seq (.ops [oB 25 (.faddr 0 (.t 3)),oB 26 (.load 1 false (.t 25)),oB 27 (.len (.t 26)),oB 28 (.mov (iN 0))]) (.block 0 (.loop [3,5,7,26,27,28] [7] Zvl))) (.seq (.ops [oB 48 (.mov (.t 7)),oB 4 (.mov (.t 48))]) (.ret))))))
def Zz2:FnI:=⟨2,ZCs,[(4,none)]⟩
def ZCk:C:=.seq (.ops [oB 1 (.box (.t 0)),oB 2 (.alloc (.agg [(.nilsl 1),(.nilsl 1)]))]) (.seq (.draw [oB 3 (.bslice 1 [.bool false] 0 []),oM 4 (.faddr 0 (.t 1)) [0],oM 5 (.load 1 false (.t 4)) [0],oB 6 (.append 1 (.t 3) (.t 5)),oM 7 (.bslice 1 [.int .i64 0] 0 []) [0,1,2,3],oM 8 (.faddr 1 (.t 1)) [0,1,2,3,4],oM 9 (.load 1 false (.t 8)) [0,1,2,3,4],oB 10 (.append 1 (.t 7) (.t 9)),oB 11 (.build [(.nilsl 1),(.nilsl 1)] [(0,1,(.t 6)),(1,1,(.t 10))]),⟨none,.store 2 (.t 2) (.t 11),none,[],3⟩]) (.ret))
def Zz6:FnI:=⟨1,ZCk,[(2,some (2,true))]⟩
def ZDF:C:=.seq (.ops [oB 4 (.box (.t 0)),oB 6 (.box (.t 2)),oB 8 (.alloc (.agg [(.nilsl 1),(.nilsl 1)])),oB 9 (.mov (iN 0))]) (.seq (.ops [oB 13 (.load 6 true (.t 4)),oB 14 (.call 41 [(.t 13)]),oB 12 (.mov (.t 14)),oB 15 (.extract (.t 12) 0),oB 16 (.extract (.t 12) 1),oB 10 (.alloc (.agg [(.nilsl 1),(.nilsl 2),(.nilsl 2)])),oA (.store 3 (.t 10) (.t 15)),oB 11 (.mov (.t 16))]) (.seq (.block 0 (.seq (.ops [oB 18 (.mov (.t 11)),oB 19 (.bin .neq (.t 18) (iN 0)),oB 17 (.mov (.t 19))]) (.cond (.t 17) (.skip) (.seq (.ops [oB 21 (.load 6 true (.t 4)),oB 22 (.faddr 0 (.t 10)),oB 23 (.load 2 true (.t 22)),oB 24 (.load 2 true (.t 6)),oB 25 (.call 42 [(.t 21),(.t 23),(.t 24)]),oB 26 (.un .not (.t 25)),oB 20 (.mov (.t 26))]) (.cond (.t 20) (.ops [oB 11 (.mov (iN 80))]) (.seq (.ops [oB 28 (.mov (.t 3)),oB 29 (.bin .lss (.t 28) (iN 0)),oB 30 (.mov (.t 29)),oG 31 (.mov (.t 3)) 30 false,oG 32 (.faddr 0 (.t 6)) 30 false,oG 33 (.load 1 false (.t 32)) 30 false,oG 34 (.len (.t 33)) 30 false,oG 35 (.bin .geq (.t 31) (.t 34)) 30 false,oB 36 (.pick (.t 30) bT (.t 35)),oB 27 (.mov (.t 36))]) (.cond (.t 27) (.ops [oB 11 (.mov (iN 81))]) (.seq (.ops [oB 38 (.faddr 0 (.t 6)),oB 39 (.load 1 false (.t 38)),oB 40 (.mov (.t 3)),oB 41 (.iaddr 1 (.t 39) (.t 40)),oB 42 (.load 1 false (.t 41)),oB 37 (.mov (.t 42))]) (.cond (.t 37) (.ops [oB 11 (.mov (iN 82))]) (.seq (.ops [oB 44 (.faddr 0 (.t 10)),oB 45 (.load 2 true (.t 44)),oB 46 (.load 2 true (.t 6)),oB 47 (.mov (.t 3)),oB 48 (.call 43 [(.t 45),(.t 46),(.t 47)]),oB 43 (.mov (.t 48))]) (.cond (.t 43) (.ops [oB 11 (.mov (iN 83))]) (.skip)))))))))))) (.seq (.seq (.ops [oB 49 (.mov (.t 11)),oB 50 (.bin .neq (.t 49) (iN 0))]) (.cond (.t 50) (.seq (.ops [oB 51 (.build [(.nilsl 1),(.nilsl 1)] []),oB 52 (.mov (.t 11)),oA (.store 2 (.t 8) (.t 51)),oB 9 (.mov (.t 52))]) (.ret)) (.skip))) (.seq (.ops [oB 53 (.load 6 true (.t 4)),oB 54 (.load 3 true (.t 10)),oB 55 (.mov (.t 1)),oB 56 (.load 2 true (.t 6)),oB 57 (.mov (.t 3)),oB 58 (.call 44 [(.t 53),(.t 54),(.t 55),(.t 56),(.t 57)]),oA (.store 2 (.t 8) (.t 58)),oB 9 (.mov (iN 0))]) (.ret)))))
def Zz3:FnI:=⟨4,ZDF,[(8,some (2,true)),(9,none)]⟩
def ZzV:C:=.seq (.ops [oB 30 (.bin .lss (.t 29) (.t 28))]) (.seq (.cond (.t 30) (.skip) (.exit 0)) (.seq (.block 1 (.seq (.ops [oB 31 (.iaddr 1 (.t 27) (.t 29)),oB 32 (.load 1 false (.t 31)),oB 11 (.mov (.t 32))]) (.ops [oB 33 (.load 6 true (.t 2)),oB 34 (.load 3 true (.t 8)),oB 35 (.mov (.t 1)),oB 36 (.load 2 true (.t 6)),oB 37 (.mov (.t 11)),oB 38 (.call 44 [(.t 33),(.t 34),(.t 35),(.t 36),(.t 37)]),oA (.store 2 (.t 6) (.t 38))]))) (.ops [oB 39 (.bin .add (.t 29) (iN 1)),oB 29 (.mov (.t 39))])))
def ZDJ:C:=.seq (.ops [oB 2 (.box (.t 0)),oB 4 (.mov (.c (.nilsl 1))),oB 5 (.mov (iN 0))]) (.seq (.ops [oB 13 (.load 6 true (.t 2)),oB 14 (.call 14 [(.t 13)]),oB 12 (.mov (.t 14)),oB 15 (.extract (.t 12) 0),oB 16 (.extract (.t 12) 1),oB 6 (.alloc (.agg [(.nilsl 1),(.nilsl 1)])),oA (.store 2 (.t 6) (.t 15)),oB 7 (.mov (.t 16))]) (.seq (.seq (.ops [oB 17 (.mov (.t 7)),oB 18 (.bin .neq (.t 17) (iN 0))]) (.cond (.t 18) (.seq (.ops [oB 19 (.mov (.t 7)),oB 4 (.mov (.c (.nilsl 1))),oB 5 (.mov (.t 19))]) (.ret)) (.skip))) (.seq (.ops [oB 21 (.load 6 true (.t 2)),oB 22 (.call 41 [(.t 21)]),oB 20 (.mov (.t 22)),oB 23 (.extract (.t 20) 0),oB 24 (.extract (.t 20) 1),oB 8 (.alloc (.agg [(.nilsl 1),(.nilsl 2),(.nilsl 2)])),oA (.store 3 (.t 8) (.t 23)),oB 9 (.mov (.t 24))]) (.seq (.seq (.ops [oB 25 (.faddr 0 (.t 8)),oB 26 (.load 2 true (.t 25)),oB 27 (.call 45 [(.t 26)]),oB 28 (.len (.t 27)),oB 29 (.mov (iN 0))]) (.block 0 (.loop [1,2,6,8,27,28,29] [6] ZzV))) (.seq (.ops [oB 40 (.faddr 1 (.t 6)),oB 41 (.load 1 false (.t 40)),oB 4 (.mov (.t 41)),oB 5 (.mov (iN 0))]) (.ret))))))
def ZAf:FnI:=⟨2,ZDJ,[(4,none),(5,none)]⟩
def ZzS:C:=.seq (.seq (.ops [oB 11 (.mov (.t 5)),oB 12 (.mov (.t 0)),oB 13 (.len (.t 12)),oB 14 (.bin .lss (.t 11) (.t 13))]) (.cond (.t 14) (.skip) (.exit 0))) (.seq (.block 1 (.seq (.draw [oB 17 (.mov (.t 0)),oM 18 (.mov (.t 5)) [0],oB 19 (.iaddr 1 (.t 17) (.t 18)),oB 20 (.load 1 false (.t 19)),oM 21 (.mov (.t 1)) [0,1,2,3],oM 22 (.mov (.t 5)) [0,1,2,3,4],oM 23 (.iaddr 1 (.t 21) (.t 22)) [0,1,2,3],oM 24 (.load 1 false (.t 23)) [0,1,2,3],oB 25 (.bin .neq (.t 20) (.t 24))]) (.cond (.t 25) (.seq (.ops [oB 4 (.mov bF)]) (.ret)) (.skip)))) (.ops [oB 15 (.mov (.t 5)),oB 16 (.bin .add (.t 15) (iN 1)),oB 5 (.mov (.t 16))]))
def ZDk:C:=.seq (.ops [oB 4 (.mov bF)]) (.seq (.seq (.ops [oB 6 (.mov (.t 0)),oB 7 (.len (.t 6)),oB 8 (.mov (.t 1)),oB 9 (.len (.t 8)),oB 10 (.bin .neq (.t 7) (.t 9))]) (.cond (.t 10) (.seq (.ops [oB 4 (.mov bF)]) (.ret)) (.skip))) (.seq (.seq (.ops [oB 5 (.mov (iN 0))]) (.block 0 (.loop [0,1,5] [4] ZzS))) (.seq (.ops [oB 4 (.mov bT)]) (.ret))))
def ZAY:FnI:=⟨2,ZDk,[(4,none)]⟩
def ZCJ:C:=.seq (.ops [oB 2 (.box (.t 0)),oB 3 (.box (.t 1)),oB 4 (.mov (iN 0))]) (.seq (.ops [oB 8 (.load 6 true (.t 2)),oB 9 (.call 41 [(.t 8)]),oB 7 (.mov (.t 9)),oB 10 (.extract (.t 7) 0),oB 11 (.extract (.t 7) 1),oB 5 (.alloc (.agg [(.nilsl 1),(.nilsl 2),(.nilsl 2)])),oA (.store 3 (.t 5) (.t 10)),oB 6 (.mov (.t 11))]) (.seq (.seq (.ops [oB 12 (.mov (.t 6)),oB 13 (.bin .eql (.t 12) (iN 0)),oB 14 (.mov (.t 13)),oG 15 (.load 6 true (.t 2)) 14 true,oG 16 (.faddr 0 (.t 5)) 14 true,oG 17 (.load 2 true (.t 16)) 14 true,oG 18 (.load 2 true (.t 3)) 14 true,oG 19 (.call 42 [(.t 15),(.t 17),(.t 18)]) 14 true,oG 20 (.un .not (.t 19)) 14 true,oB 21 (.pick (.t 14) (.t 20) bF)]) (.cond (.t 21) (.ops [oB 6 (.mov (iN 80))]) (.skip))) (.seq (.ops [oB 22 (.mov (.t 6)),oB 4 (.mov (.t 22))]) (.ret))))
def ZzR:FnI:=⟨2,ZCJ,[(4,none)]⟩
def ZCP:C:=.seq (.ops [oB 2 (.box (.t 0)),oB 3 (.box (.t 1)),oB 4 (.mov bF)]) (.seq (.ops [oB 5 (.faddr 0 (.t 2)),oB 6 (.load 1 false (.t 5)),oB 7 (.faddr 0 (.t 3)),oB 8 (.load 1 false (.t 7)),oB 9 (.call 63 [(.t 6),(.t 8)]),oB 10 (.mov (.t 9)),oG 11 (.faddr 1 (.t 2)) 10 true,oG 12 (.load 1 false (.t 11)) 10 true,oG 13 (.faddr 1 (.t 3)) 10 true,oG 14 (.load 1 false (.t 13)) 10 true,oG 15 (.call 57 [(.t 12),(.t 14)]) 10 true,oB 16 (.pick (.t 10) (.t 15) bF),oB 4 (.mov (.t 16))]) (.ret))
def ZAb:FnI:=⟨2,ZCP,[(4,none)]⟩
def ZvH:C:=.seq (.ops [oB 22 (.bin .lss (.t 21) (.t 20))]) (.seq (.cond (.t 22) (.skip) (.exit 1)) (.seq (.block 2 (.seq (.ops [oB 23 (.mov (.t 21)),oB 24 (.iaddr 1 (.t 19) (.t 21)),oB 25 (.load 1 false (.t 24)),oB 8 (.mov (.t 23)),oB 9 (.mov (.t 25))]) (.ops [oB 26 (.mov (.t 7)),oB 27 (.mov (.t 8)),oB 28 (.mov (.t 9)),oA (.mapset [false] (.t 26) (.t 27) (.t 28))]))) (.ops [oB 29 (.bin .add (.t 21) (iN 1)),oB 21 (.mov (.t 29))])))
def Zoz:C:=.seq (.ops [oB 63 (.bin .lss (.t 62) (.t 61))]) (.seq (.cond (.t 63) (.skip) (.exit 3)) (.seq (.block 4 (.seq (.ops [oB 64 (.iaddr 1 (.t 60) (.t 62)),oB 65 (.load 1 false (.t 64)),oB 13 (.mov (.t 65))]) (.draw [oB 66 (.faddr 1 (.t 10)),oB 67 (.load 1 false (.t 66)),oM 68 (.mov (.t 11)) [0,1],oM 69 (.mov (.t 13)) [0,1,2],oM 70 (.call 64 [(.t 69)]) [0,1,2],oB 71 (.callv (.t 67) [(.t 68),(.t 70)]),oB 11 (.mov (.t 71))]))) (.ops [oB 72 (.bin .add (.t 62) (iN 1)),oB 62 (.mov (.t 72))])))
def ZDj:C:=.seq (.ops [oB 3 (.box (.t 0)),oB 6 (.mov (iN 0))]) (.seq (.block 0 (.seq (.ops [oB 15 (.faddr 0 (.t 3)),oB 16 (.load 1 false (.t 15)),oB 17 (.bin .eql (.t 16) (iN 0)),oB 14 (.mov (.t 17))]) (.cond (.t 14) (.seq (.ops [oB 18 .mkmap,oB 7 (.mov (.t 18))]) (.seq (.seq (.ops [oB 19 (.mov (.t 1)),oB 20 (.len (.t 19)),oB 21 (.mov (iN 0))]) (.block 1 (.loop [3,7,19,20,21] [3,7] ZvH))) (.seq (.ops [oB 30 (.mov (.t 7)),oB 31 (.faddr 1 (.t 3)),oB 32 (.load 1 false (.t 31)),oB 33 (.mapget [false] (.int .i64 0) (.t 30) (.t 32)),oB 34 (.call 64 [(.t 33)]),oB 35 (.conv .i64 (.t 34)),oB 6 (.mov (.t 35))]) (.ret)))) (.seq (.ops [oB 37 (.faddr 0 (.t 3)),oB 38 (.load 1 false (.t 37)),oB 39 (.bin .eql (.t 38) (iN 1)),oB 36 (.mov (.t 39))]) (.cond (.t 36) (.seq (.ops [oB 40 (.faddr 1 (.t 3)),oB 41 (.load 1 false (.t 40)),oB 42 (.call 64 [(.t 41)]),oB 43 (.conv .i64 (.t 42)),oB 6 (.mov (.t 43))]) (.ret)) (.seq (.ops [oB 45 (.faddr 0 (.t 3)),oB 46 (.load 1 false (.t 45)),oB 47 (.bin .lss (.t 46) (iN 0)),oB 48 (.mov (.t 47)),oG 49 (.faddr 0 (.t 3)) 48 false,oG 50 (.load 1 false (.t 49)) 48 false,oG 51 (.bin .gtr (.t 50) (iN 5)) 48 false,oB 52 (.pick (.t 48) bT (.t 51)),oB 44 (.mov (.t 52))]) (.cond (.t 44) (.seq (.ops [oB 6 (.mov (iN 0))]) (.ret)) (.skip)))))))) (.seq (.draw [oB 53 (.call 65 []),oM 54 (.faddr 0 (.t 3)) [0],oM 55 (.load 1 false (.t 54)) [0],oM 56 (.bin .sub (.t 55) (iN 2)) [0],oB 57 (.index 4 2 true (.t 53) (.t 56)),oM 10 (.alloc (.d (.agg [.int .u32 0,.nilfn]))) [0,1,2,3,4],⟨none,.store 2 (.t 10) (.t 57),none,[],3⟩]) (.seq (.ops [oB 58 (.faddr 0 (.t 10)),oB 59 (.load 1 false (.t 58)),oB 11 (.mov (.t 59))]) (.seq (.seq (.ops [oB 60 (.mov (.t 2)),oB 61 (.len (.t 60)),oB 62 (.mov (iN 0))]) (.block 3 (.loop [10,11,60,61,62] [11] Zoz))) (.seq (.ops [oB 73 (.mov (.t 11)),oB 74 (.conv .i64 (.t 73)),oB 6 (.mov (.t 74))]) (.ret))))))
def ZyY:FnI:=⟨3,ZDj,[(6,none)]⟩
def ZvK:C:=.seq (.seq (.ops [oB 4 (.mov (.t 3)),oB 5 (.faddr 5 (.t 1)),oB 6 (.load 1 false (.t 5)),oB 7 (.len (.t 6)),oB 8 (.bin .lss (.t 4) (.t 7)),oB 9 (.mov (.t 8)),oG 10 (.mov (.t 3)) 9 true,oG 11 (.bin .lss (.t 10) (iN 9)) 9 true,oB 12 (.pick (.t 9) (.t 11) bF)]) (.cond (.t 12) (.skip) (.exit 0))) (.seq (.block 1 (.seq (.ops [oB 15 (.faddr 5 (.t 1)),oB 16 (.load 1 false (.t 15)),oB 17 (.mov (.t 3)),oB 18 (.iaddr 2 (.t 16) (.t 17)),oB 19 (.faddr 0 (.t 18)),oB 20 (.load 1 false (.t 19)),oB 21 (.len (.t 20)),oB 22 (.bin .gtr (.t 21) (iN 20)),oB 23 (.mov (.t 22)),oG 24 (.faddr 5 (.t 1)) 23 false,oG 25 (.load 1 false (.t 24)) 23 false,oG 26 (.mov (.t 3)) 23 false,oG 27 (.iaddr 2 (.t 25) (.t 26)) 23 false,oG 28 (.faddr 1 (.t 27)) 23 false,oG 29 (.load 1 false (.t 28)) 23 false,oG 30 (.len (.t 29)) 23 false,oG 31 (.bin .gtr (.t 30) (iN 20)) 23 false,oB 32 (.pick (.t 23) bT (.t 31))]) (.cond (.t 32) (.seq (.ops [oB 2 (.mov bF)]) (.ret)) (.skip)))) (.ops [oB 13 (.mov (.t 3)),oB 14 (.bin .add (.t 13) (iN 1)),oB 3 (.mov (.t 14))]))
def ZC2:C:=.seq (.ops [oB 1 (.box (.t 0)),oB 2 (.mov bF)]) (.seq (.seq (.ops [oB 3 (.mov (iN 0))]) (.block 0 (.loop [1,3] [1,2] ZvK))) (.seq (.ops [oB 33 (.faddr 2 (.t 1)),oB 34 (.load 1 false (.t 33)),oB 35 (.len (.t 34)),oB 36 (.bin .leq (.t 35) (iN 20)),oB 37 (.mov (.t 36)),oG 38 (.faddr 3 (.t 1)) 37 true,oG 39 (.load 1 false (.t 38)) 37 true,oG 40 (.len (.t 39)) 37 true,oG 41 (.bin .leq (.t 40) (iN 60)) 37 true,oB 42 (.pick (.t 37) (.t 41) bF),oB 43 (.mov (.t 42)),oG 44 (.faddr 4 (.t 1)) 43 true,oG 45 (.load 1 false (.t 44)) 43 true,oG 46 (.len (.t 45)) 43 true,oG 47 (.bin .leq (.t 46) (iN 20)) 43 true,oB 48 (.pick (.t 43) (.t 47) bF),oB 49 (.mov (.t 48)),oG 50 (.faddr 5 (.t 1)) 49 true,oG 51 (.load 1 false (.t 50)) 49 true,oG 52 (.len (.t 51)) 49 true,oG 53 (.bin .leq (.t 52) (iN 8)) 49 true,oB 54 (.pick (.t 49) (.t 53) bF),oB 2 (.mov (.t 54))]) (.ret)))
def Zy1:FnI:=⟨1,ZC2,[(2,none)]⟩
def Zwf:C:=.seq (.ops [oB 33 (.bin .lss (.t 32) (.t 31))]) (.seq (.cond (.t 33) (.skip) (.exit 0)) (.seq (.block 1 (.seq (.ops [oB 34 (.mov (.t 32)),oB 6 (.mov (.t 34))]) (.ops [oB 35 (.mov (.t 5)),oB 36 (.load 6 true (.t 1)),oB 37 (.mov (.t 6)),oB 38 (.call 66 [(.t 35),(.t 36),(.t 37)])]))) (.ops [oB 39 (.bin .add (.t 32) (iN 1)),oB 32 (.mov (.t 39))])))
def Zvo:C:=.seq (.ops [oB 44 (.bin .lss (.t 43) (.t 42))]) (.seq (.cond (.t 44) (.skip) (.exit 2)) (.seq (.block 3 (.seq (.ops [oB 45 (.iaddr 2 (.t 41) (.t 43)),oB 46 (.load 2 true (.t 45)),oB 8 (.alloc (.d (.agg [.int .i64 0,.int .i64 0]))),oA (.store 2 (.t 8) (.t 46))]) (.draw [oB 47 (.mov (.t 5)),oM 48 (.mov (.t 5)) [0],oM 49 (.nilck (.t 48)) [0],oM 50 (.faddr 4 (.t 49)) [0],oM 51 (.load 1 false (.t 50)) [0],oM 52 (.faddr 0 (.t 8)) [0,1,2,3,4],oM 53 (.load 1 false (.t 52)) [0,1,2,3,4],oM 54 (.mapget [false] (.int .i64 0) (.t 51) (.t 53)) [0],oM 55 (.mov (.t 5)) [0,1,2,3,4,5,6,7],oM 56 (.nilck (.t 55)) [0,1,2,3,4,5,6,7],oM 57 (.faddr 3 (.t 56)) [0,1,2,3,4,5,6,7],oM 58 (.load 1 false (.t 57)) [0,1,2,3,4,5,6,7],oM 59 (.faddr 1 (.t 8)) [0,1,2,3,4,5,6,7,8,9,10,11],oM 60 (.load 1 false (.t 59)) [0,1,2,3,4,5,6,7,8,9,10,11],oM 61 (.mapget [false] (.int .i64 0) (.t 58) (.t 60)) [0,1,2,3,4,5,6,7],⟨some 62,.call 67 [(.t 47),(.t 54),(.t 61)],none,[],4⟩]))) (.ops [oB 63 (.bin .add (.t 43) (iN 1)),oB 43 (.mov (.t 63))])))
def ZwS:C:=.seq (.ops [oB 68 (.bin .lss (.t 67) (.t 66))]) (.seq (.cond (.t 68) (.skip) (.exit 4)) (.seq (.block 5 (.seq (.ops [oB 69 (.iaddr 3 (.t 65) (.t 67)),oB 70 (.load 3 true (.t 69)),oB 10 (.alloc (.d (.agg [.int .i64 0,.int .i64 0,.int .i64 0]))),oA (.store 3 (.t 10) (.t 70))]) (.draw [oB 71 (.mov (.t 5)),oM 72 (.mov (.t 5)) [0],oM 73 (.nilck (.t 72)) [0],oM 74 (.faddr 4 (.t 73)) [0],oM 75 (.load 1 false (.t 74)) [0],oM 76 (.faddr 0 (.t 10)) [0,1,2,3,4],oM 77 (.load 1 false (.t 76)) [0,1,2,3,4],oM 78 (.mapget [false] (.int .i64 0) (.t 75) (.t 77)) [0],oM 79 (.mov (.t 5)) [0,1,2,3,4,5,6,7],oM 80 (.nilck (.t 79)) [0,1,2,3,4,5,6,7],oM 81 (.faddr 5 (.t 80)) [0,1,2,3,4,5,6,7],oM 82 (.load 1 false (.t 81)) [0,1,2,3,4,5,6,7],oM 83 (.load 3 true (.t 10)) [0,1,2,3,4,5,6,7,8,9,10,11],oM 84 (.mapget [false,false,false] (.int .i64 0) (.t 82) (.t 83)) [0,1,2,3,4,5,6,7],⟨some 85,.call 67 [(.t 71),(.t 78),(.t 84)],none,[],4⟩]))) (.ops [oB 86 (.bin .add (.t 67) (iN 1)),oB 67 (.mov (.t 86))])))
def ZwR:C:=.seq (.ops [oB 103 (.bin .lss (.t 102) (.t 101))]) (.seq (.cond (.t 103) (.skip) (.exit 8)) (.seq (.block 9 (.seq (.ops [oB 104 (.iaddr 1 (.t 100) (.t 102)),oB 105 (.load 1 false (.t 104)),oB 15 (.mov (.t 105))]) (.ops [oB 106 (.mov (.t 5)),oB 107 (.mov (.t 5)),oB 108 (.nilck (.t 107)),oB 109 (.faddr 4 (.t 108)),oB 110 (.load 1 false (.t 109)),oB 111 (.mov (.t 15)),oB 112 (.mapget [false] (.int .i64 0) (.t 110) (.t 111)),oB 113 (.mov (.t 13)),oB 114 (.call 67 [(.t 106),(.t 112),(.t 113)])]))) (.ops [oB 115 (.bin .add (.t 102) (iN 1)),oB 102 (.mov (.t 115))])))
def ZvR:C:=.seq (.ops [oB 120 (.bin .lss (.t 119) (.t 118))]) (.seq (.cond (.t 120) (.skip) (.exit 10)) (.seq (.block 11 (.seq (.ops [oB 121 (.iaddr 1 (.t 117) (.t 119)),oB 122 (.load 1 false (.t 121)),oB 17 (.mov (.t 122))]) (.ops [oB 123 (.mov (.t 5)),oB 124 (.mov (.t 13)),oB 125 (.mov (.t 5)),oB 126 (.nilck (.t 125)),oB 127 (.faddr 3 (.t 126)),oB 128 (.load 1 false (.t 127)),oB 129 (.mov (.t 17)),oB 130 (.mapget [false] (.int .i64 0) (.t 128) (.t 129)),oB 131 (.call 67 [(.t 123),(.t 124),(.t 130)])]))) (.ops [oB 132 (.bin .add (.t 119) (iN 1)),oB 119 (.mov (.t 132))])))
def Zwr:C:=.seq (.ops [oB 91 (.bin .lss (.t 90) (.t 89))]) (.seq (.cond (.t 91) (.skip) (.exit 6)) (.seq (.block 7 (.seq (.ops [oB 92 (.mov (.t 90)),oB 93 (.iaddr 2 (.t 88) (.t 90)),oB 94 (.load 2 true (.t 93)),oB 12 (.alloc (.agg [(.nilsl 1),(.nilsl 1)])),oB 11 (.mov (.t 92)),oA (.store 2 (.t 12) (.t 94))]) (.seq (.ops [oB 95 (.mov (.t 5)),oB 96 (.mov (.t 11)),oB 97 (.build [(.d (.int .i64 0)),(.d (.int .i64 0))] [(0,1,(iN (-1))),(1,1,(.t 96))]),oB 98 (.call 68 [(.t 95),(.t 97),(iN 1)]),oB 13 (.mov (.t 98))]) (.seq (.seq (.ops [oB 99 (.faddr 0 (.t 12)),oB 100 (.load 1 false (.t 99)),oB 101 (.len (.t 100)),oB 102 (.mov (iN 0))]) (.block 8 (.loop [2,5,12,13,88,89,90,100,101,102] [2,5,12,13,88,89,90] ZwR))) (.seq (.ops [oB 116 (.faddr 1 (.t 12)),oB 117 (.load 1 false (.t 116)),oB 118 (.len (.t 117)),oB 119 (.mov (iN 0))]) (.block 10 (.loop [2,5,13,88,89,90,117,118,119] [2,5,88,89,90] ZvR))))))) (.ops [oB 133 (.bin .add (.t 90) (iN 1)),oB 90 (.mov (.t 133))])))
def ZCy:C:=.seq (.ops [oB 1 (.box (.t 0)),oB 2 (.alloc (.agg [(.nilsl 1),(.nilsl 2),(.nilsl 2)])),oB 3 (.mov (iN 0))]) (.seq (.seq (.ops [oB 18 (.load 6 true (.t 1)),oB 19 (.call 55 [(.t 18)]),oB 4 (.mov (.t 19))]) (.seq (.ops [oB 20 (.mov (.t 4)),oB 21 (.bin .neq (.t 20) (iN 0))]) (.cond (.t 21) (.seq (.ops [oB 22 (.build [(.nilsl 1),(.nilsl 2),(.nilsl 2)] []),oB 23 (.mov (.t 4)),oA (.store 3 (.t 2) (.t 22)),oB 3 (.mov (.t 23))]) (.ret)) (.skip)))) (.seq (.ops [oB 24 .mkmap,oB 25 .mkmap,oB 26 .mkmap,oB 27 (.build [(.nilsl 1),(.nilsl 2),(.nilsl 2),.bad,.bad,.bad] [(3,1,(.t 24)),(4,1,(.t 25)),(5,1,(.t 26))]),oB 28 (.box (.t 27)),oB 5 (.mov (.t 28))]) (.seq (.seq (.ops [oB 29 (.faddr 2 (.t 1)),oB 30 (.load 1 false (.t 29)),oB 31 (.len (.t 30)),oB 32 (.mov (iN 0))]) (.block 0 (.loop [1,2,5,31,32] [1,2,5] Zwf))) (.seq (.seq (.ops [oB 40 (.faddr 3 (.t 1)),oB 41 (.load 1 false (.t 40)),oB 42 (.len (.t 41)),oB 43 (.mov (iN 0))]) (.block 2 (.loop [1,2,5,41,42,43] [1,2,5] Zvo))) (.seq (.seq (.ops [oB 64 (.faddr 4 (.t 1)),oB 65 (.load 1 false (.t 64)),oB 66 (.len (.t 65)),oB 67 (.mov (iN 0))]) (.block 4 (.loop [1,2,5,65,66,67] [1,2,5] ZwS))) (.seq (.seq (.ops [oB 87 (.faddr 5 (.t 1)),oB 88 (.load 1 false (.t 87)),oB 89 (.len (.t 88)),oB 90 (.mov (iN 0))]) (.block 6 (.loop [2,5,88,89,90] [2,5] Zwr))) (.seq (.seq (.ops [oB 134 (.mov (.t 5)),oB 135 (.nilck (.t 134)),oB 136 (.faddr 0 (.t 135)),oB 137 (.faddr 0 (.t 136)),oB 138 (.load 2 true (.t 137)),oB 139 (.call 69 [(.t 138)]),oB 140 (.bin .neq (.t 139) (iN 0))]) (.cond (.t 140) (.seq (.ops [oB 141 (.build [(.nilsl 1),(.nilsl 2),(.nilsl 2)] []),oA (.store 3 (.t 2) (.t 141)),oB 3 (.mov (iN 70))]) (.ret)) (.skip))) (.seq (.ops [oB 142 (.mov (.t 5)),oB 143 (.nilck (.t 142)),oB 144 (.faddr 0 (.t 143)),oB 145 (.load 3 true (.t 144)),oA (.store 3 (.t 2) (.t 145)),oB 3 (.mov (iN 0))]) (.ret)))))))))
def Zzx:FnI:=⟨1,ZCy,[(2,some (3,true)),(3,none)]⟩
def ZCb:C:=.seq (.ops [oB 3 (.box (.t 0)),oB 4 (.box (.t 1)),oB 5 (.box (.t 2)),oB 6 (.mov bF)]) (.seq (.seq (.ops [oB 7 (.faddr 0 (.t 5)),oB 8 (.load 1 false (.t 7)),oB 9 (.len (.t 8)),oB 10 (.faddr 0 (.t 4)),oB 11 (.load 1 false (.t 10)),oB 12 (.len (.t 11)),oB 13 (.bin .neq (.t 9) (.t 12)),oB 14 (.mov (.t 13)),oG 15 (.faddr 1 (.t 5)) 14 false,oG 16 (.load 1 false (.t 15)) 14 false,oG 17 (.len (.t 16)) 14 false,oG 18 (.faddr 2 (.t 3)) 14 false,oG 19 (.load 1 false (.t 18)) 14 false,oG 20 (.len (.t 19)) 14 false,oG 21 (.bin .neq (.t 17) (.t 20)) 14 false,oB 22 (.pick (.t 14) bT (.t 21))]) (.cond (.t 22) (.seq (.ops [oB 6 (.mov bF)]) (.ret)) (.skip))) (.seq (.ops [oB 23 (.faddr 1 (.t 4)),oB 24 (.load 1 false (.t 23)),oB 25 (.mkfn 71 [(.t 5)]),oB 26 (.call 70 [(.t 24),(.t 25)]),oB 27 (.un .not (.t 26)),oB 6 (.mov (.t 27))]) (.ret)))
def Zz7:FnI:=⟨3,ZCb,[(6,none)]⟩
def ZCg:C:=.seq (.ops [oB 3 (.box (.t 0)),oB 4 (.box (.t 1)),oB 5 (.box (.t 2)),oB 6 (.mov bF)]) (.seq (.ops [oB 7 (.faddr 1 (.t 3)),oB 8 (.load 1 false (.t 7)),oB 9 (.mkfn 72 [(.t 5),(.t 4)]),oB 10 (.call 70 [(.t 8),(.t 9)]),oB 6 (.mov (.t 10))]) (.ret))
def ZzA:FnI:=⟨3,ZCg,[(6,none)]⟩
def Zvp:C:=.seq (.ops [oB 47 (.bin .lss (.t 46) (.t 45))]) (.seq (.cond (.t 47) (.skip) (.exit 0)) (.seq (.block 1 (.seq (.ops [oB 48 (.iaddr 1 (.t 44) (.t 46)),oB 49 (.load 1 false (.t 48)),oB 14 (.mov (.t 49))]) (.ops [oB 50 (.mov (.t 12)),oB 51 (.faddr 1 (.t 8)),oB 52 (.load 1 false (.t 51)),oB 53 (.mov (.t 14)),oB 54 (.iaddr 1 (.t 52) (.t 53)),oB 55 (.load 1 false (.t 54)),oB 56 (.bslice 1 [.int .i64 0] 1 [(0,(.t 55))]),oB 57 (.append 1 (.t 50) (.t 56)),oB 12 (.mov (.t 57))]))) (.ops [oB 58 (.bin .add (.t 46) (iN 1)),oB 46 (.mov (.t 58))])))
def ZDI:C:=.seq (.ops [oB 5 (.box (.t 0)),oB 6 (.box (.t 1)),oB 8 (.box (.t 3)),oB 10 (.alloc (.agg [(.nilsl 1),(.nilsl 1)]))]) (.seq (.draw [oB 15 (.faddr 0 (.t 8)),oB 16 (.load 1 false (.t 15)),oB 17 (.call 73 [(.t 16)]),oM 18 (.faddr 1 (.t 8)) [0,1,2],oM 19 (.load 1 false (.t 18)) [0,1,2],oB 20 (.call 74 [(.t 19)]),oB 21 (.build [(.nilsl 1),(.nilsl 1)] [(0,1,(.t 17)),(1,1,(.t 20))]),⟨none,.store 2 (.t 8) (.t 21),none,[],3⟩]) (.seq (.ops [oB 22 (.faddr 0 (.t 8)),oB 23 (.load 1 false (.t 22)),oB 24 (.mov (.t 4)),oB 25 (.iaddr 1 (.t 23) (.t 24)),oA (.store 1 (.t 25) bT)]) (.seq (.ops [oB 26 (.faddr 2 (.t 6)),oB 27 (.load 1 false (.t 26)),oB 28 (.mov (.t 4)),oB 29 (.iaddr 2 (.t 27) (.t 28)),oB 30 (.faddr 0 (.t 29)),oB 31 (.load 1 false (.t 30)),oB 11 (.mov (.t 31))]) (.seq (.seq (.ops [oB 32 (.mov (.t 11)),oB 33 (.bin .lss (.t 32) (iN 0)),oB 34 (.mov (.t 33)),oG 35 (.load 3 true (.t 6)) 34 false,oG 36 (.mov (.t 11)) 34 false,oG 37 (.call 75 [(.t 35),(.t 36)]) 34 false,oG 38 (.mov (.t 4)) 34 false,oG 39 (.bin .neq (.t 37) (.t 38)) 34 false,oB 40 (.pick (.t 34) bT (.t 39))]) (.cond (.t 40) (.seq (.ops [oB 41 (.load 2 true (.t 8)),oA (.store 2 (.t 10) (.t 41))]) (.ret)) (.skip))) (.seq (.ops [oB 12 (.mov (.c (.nilsl 1)))]) (.seq (.seq (.ops [oB 42 (.load 6 true (.t 5)),oB 43 (.mov (.t 11)),oB 44 (.call 76 [(.t 42),(.t 43)]),oB 45 (.len (.t 44)),oB 46 (.mov (iN 0))]) (.block 0 (.loop [2,5,8,10,11,12,44,45,46] [2,5,8,10,11,12] Zvp))) (.seq (.draw [oB 59 (.faddr 1 (.t 8)),oB 60 (.load 1 false (.t 59)),oM 61 (.mov (.t 11)) [0,1],oM 62 (.faddr 2 (.t 5)) [0,1,2],oM 63 (.load 1 false (.t 62)) [0,1,2],oM 64 (.mov (.t 11)) [0,1,2,3,4],oM 65 (.iaddr 3 (.t 63) (.t 64)) [0,1,2],oM 66 (.load 3 true (.t 65)) [0,1,2],oM 67 (.mov (.t 2)) [0,1,2,3,4,5,6,7],oM 68 (.mov (.t 12)) [0,1,2,3,4,5,6,7,8],oM 69 (.call 39 [(.t 66),(.t 67),(.t 68)]) [0,1,2],oB 70 (.iaddr 1 (.t 60) (.t 61)),⟨none,.store 1 (.t 70) (.t 69),none,[],3⟩]) (.seq (.ops [oB 71 (.load 2 true (.t 8)),oA (.store 2 (.t 10) (.t 71))]) (.ret)))))))))
def ZzO:FnI:=⟨5,ZDI,[(10,some (2,true))]⟩
def ZB3:C:=.seq (.ops [oB 1 (.box (.t 0)),oB 2 (.mov (.c (.nilsl 1)))]) (.seq (.seq (.ops [oB 5 (.load 2 true (.t 1)),oB 6 (.call 69 [(.t 5)]),oB 7 (.bin .neq (.t 6) (iN 0))]) (.cond (.t 7) (.seq (.ops [oB 2 (.mov (.c (.nilsl 1)))]) (.ret)) (.skip))) (.seq (.ops [oB 9 (.load 2 true (.t 1)),oB 10 (.call 77 [(.t 9)]),oB 8 (.mov (.t 10)),oB 11 (.extract (.t 8) 0),oB 12 (.extract (.t 8) 1),oB 3 (.mov (.t 11)),oB 4 (.mov (.t 12))]) (.seq (.ops [oB 13 (.mov (.t 3)),oB 2 (.mov (.t 13))]) (.ret))))
def ZBh:FnI:=⟨1,ZB3,[(2,none)]⟩
def Zvg:C:=.seq (.ops [oB 64 (.bin .lss (.t 63) (.t 62))]) (.seq (.cond (.t 64) (.skip) (.exit 0)) (.seq (.block 1 (.seq (.ops [oB 65 (.mov (.t 63)),oB 66 (.iaddr 2 (.t 61) (.t 63)),oB 67 (.load 2 true (.t 66)),oB 6 (.alloc (.d (.agg [.int .i64 0,.int .i64 0]))),oB 5 (.mov (.t 65)),oA (.store 2 (.t 6) (.t 67))]) (.seq (.draw [oB 68 (.load 6 true (.t 1)),oM 69 (.faddr 0 (.t 6)) [0],oM 70 (.load 1 false (.t 69)) [0],oM 71 (.faddr 1 (.t 6)) [0,1,2],oM 72 (.load 1 false (.t 71)) [0,1,2],oB 73 (.call 86 [(.t 68),(.t 70),(.t 72)]),oB 74 (.un .not (.t 73)),oB 75 (.mov (.t 74)),oG 76 (.faddr 3 (.t 1)) 75 false,oG 77 (.load 1 false (.t 76)) 75 false,⟨some 78,.mov (.t 5),some (75,false),[8,9],0⟩,oG 79 (.slice 2 (.t 77) none (some (.t 78)) none) 75 false,⟨some 80,.load 2 true (.t 6),some (75,false),[8,9,10,11],0⟩,oG 81 (.call 87 [(.t 79),(.t 80)]) 75 false,oB 82 (.pick (.t 75) bT (.t 81))]) (.cond (.t 82) (.seq (.ops [oB 2 (.mov (iN 53))]) (.ret)) (.skip))))) (.ops [oB 83 (.bin .add (.t 63) (iN 1)),oB 63 (.mov (.t 83))])))
def Zv0:C:=.seq (.ops [oB 88 (.bin .lss (.t 87) (.t 86))]) (.seq (.cond (.t 88) (.skip) (.exit 2)) (.seq (.block 3 (.seq (.ops [oB 89 (.mov (.t 87)),oB 90 (.iaddr 3 (.t 85) (.t 87)),oB 91 (.load 3 true (.t 90)),oB 8 (.alloc (.d (.agg [.int .i64 0,.int .i64 0,.int .i64 0]))),oB 7 (.mov (.t 89)),oA (.store 3 (.t 8) (.t 91))]) (.seq (.ops [oB 92 (.mkfn 88 [(.t 8)]),oB 9 (.mov (.t 92))]) (.seq (.draw [oB 93 (.load 6 true (.t 1)),oM 94 (.faddr 0 (.t 8)) [0],oM 95 (.load 1 false (.t 94)) [0],oM 96 (.faddr 1 (.t 8)) [0,1,2],oM 97 (.load 1 false (.t 96)) [0,1,2],oB 98 (.call 86 [(.t 93),(.t 95),(.t 97)]),oB 99 (.un .not (.t 98)),oB 100 (.mov (.t 99)),oG 101 (.faddr 2 (.t 8)) 100 false,oG 102 (.load 1 false (.t 101)) 100 false,⟨some 103,.faddr 2 (.t 1),some (100,false),[8,9],0⟩,⟨some 104,.load 1 false (.t 103),some (100,false),[8,9],0⟩,⟨some 105,.faddr 1 (.t 8),some (100,false),[8,9,10,11],0⟩,⟨some 106,.load 1 false (.t 105),some (100,false),[8,9,10,11],0⟩,⟨some 107,.iaddr 3 (.t 104) (.t 106),some (100,false),[8,9],0⟩,⟨some 108,.faddr 2 (.t 107),some (100,false),[8,9],0⟩,⟨some 109,.load 1 false (.t 108),some (100,false),[8,9],0⟩,⟨some 110,.bin .sub (.t 109) (iN 1),some (100,false),[8,9],0⟩,oG 111 (.call 82 [(.t 102),(iN 1),(.t 110)]) 100 false,oG 112 (.un .not (.t 111)) 100 false,oB 113 (.pick (.t 100) bT (.t 112)),oB 114 (.mov (.t 113)),oG 115 (.faddr 4 (.t 1)) 114 false,oG 116 (.load 1 false (.t 115)) 114 false,⟨some 117,.mov (.t 7),some (114,false),[22,23],0⟩,oG 118 (.slice 3 (.t 116) none (some (.t 117)) none) 114 false,⟨some 119,.mov (.t 9),some (114,false),[22,23,24,25],0⟩,oG 120 (.call 89 [(.t 118),(.t 119)]) 114 false,oB 121 (.pick (.t 114) bT (.t 120))]) (.cond (.t 121) (.seq (.ops [oB 2 (.mov (iN 54))]) (.ret)) (.skip)))))) (.ops [oB 122 (.bin .add (.t 87) (iN 1)),oB 87 (.mov (.t 122))])))
def ZwU:C:=.seq (.ops [oB 127 (.bin .lss (.t 126) (.t 125))]) (.seq (.cond (.t 127) (.skip) (.exit 4)) (.seq (.block 5 (.seq (.ops [oB 128 (.iaddr 2 (.t 124) (.t 126)),oB 129 (.load 2 true (.t 128)),oB 11 (.alloc (.agg [(.nilsl 1),(.nilsl 1)])),oA (.store 2 (.t 11) (.t 129))]) (.seq (.ops [oB 130 (.mkfn 90 [(.t 11)]),oB 12 (.mov (.t 130))]) (.seq (.ops [oB 131 (.load 6 true (.t 1)),oB 132 (.faddr 0 (.t 11)),oB 133 (.load 1 false (.t 132)),oB 134 (.call 92 [(.t 131),(.t 133)]),oB 135 (.un .not (.t 134)),oB 136 (.mov (.t 135)),oG 137 (.load 6 true (.t 1)) 136 false,oG 138 (.faddr 1 (.t 11)) 136 false,oG 139 (.load 1 false (.t 138)) 136 false,oG 140 (.call 92 [(.t 137),(.t 139)]) 136 false,oG 141 (.un .not (.t 140)) 136 false,oB 142 (.pick (.t 136) bT (.t 141)),oB 143 (.mov (.t 142)),oG 144 (.faddr 0 (.t 11)) 143 false,oG 145 (.load 1 false (.t 144)) 143 false,oG 146 (.mov (.t 12)) 143 false,oG 147 (.call 93 [(.t 145),(.t 146)]) 143 false,oB 148 (.pick (.t 143) bT (.t 147))]) (.cond (.t 148) (.seq (.ops [oB 2 (.mov (iN 55))]) (.ret)) (.skip)))))) (.ops [oB 149 (.bin .add (.t 126) (iN 1)),oB 126 (.mov (.t 149))])))
def ZC3:C:=.seq (.ops [oB 1 (.box (.t 0)),oB 2 (.mov (iN 0))]) (.seq (.seq (.ops [oB 13 (.faddr 2 (.t 1)),oB 14 (.load 1 false (.t 13)),oB 15 (.len (.t 14)),oB 16 (.call 82 [(.t 15),(iN 1),(iN 16)]),oB 17 (.un .not (.t 16)),oB 18 (.mov (.t 17)),oG 19 (.faddr 3 (.t 1)) 18 false,oG 20 (.load 1 false (.t 19)) 18 false,oG 21 (.len (.t 20)) 18 false,oG 22 (.bin .gtr (.t 21) (iN 48)) 18 false,oB 23 (.pick (.t 18) bT (.t 22)),oB 24 (.mov (.t 23)),oG 25 (.faddr 4 (.t 1)) 24 false,oG 26 (.load 1 false (.t 25)) 24 false,oG 27 (.len (.t 26)) 24 false,oG 28 (.bin .gtr (.t 27) (iN 16)) 24 false,oB 29 (.pick (.t 24) bT (.t 28)),oB 30 (.mov (.t 29)),oG 31 (.faddr 5 (.t 1)) 30 false,oG 32 (.load 1 false (.t 31)) 30 false,oG 33 (.len (.t 32)) 30 false,oG 34 (.bin .gtr (.t 33) (iN 4)) 30 false,oB 35 (.pick (.t 30) bT (.t 34))]) (.cond (.t 35) (.seq (.ops [oB 2 (.mov (iN 50))]) (.ret)) (.skip))) (.seq (.seq (.ops [oB 37 (.faddr 0 (.t 1)),oB 38 (.load 1 false (.t 37)),oB 39 (.call 83 [(.t 38)]),oB 36 (.mov (.t 39)),oB 40 (.extract (.t 36) 0),oB 41 (.extract (.t 36) 1),oB 3 (.mov (.t 40)),oB 4 (.mov (.t 41))]) (.seq (.ops [oB 42 (.mov (.t 4)),oB 43 (.un .not (.t 42)),oB 44 (.mov (.t 43)),oG 45 (.faddr 0 (.t 1)) 44 false,oG 46 (.load 1 false (.t 45)) 44 false,oG 47 (.bin .gtr (.t 46) (iN 4096)) 44 false,oB 48 (.pick (.t 44) bT (.t 47)),oB 49 (.mov (.t 48)),oG 50 (.faddr 1 (.t 1)) 49 false,oG 51 (.load 1 false (.t 50)) 49 false,oG 52 (.faddr 0 (.t 1)) 49 false,oG 53 (.load 1 false (.t 52)) 49 false,oG 54 (.call 82 [(.t 51),(iN 1),(.t 53)]) 49 false,oG 55 (.un .not (.t 54)) 49 false,oB 56 (.pick (.t 49) bT (.t 55))]) (.cond (.t 56) (.seq (.ops [oB 2 (.mov (iN 51))]) (.ret)) (.skip)))) (.seq (.seq (.ops [oB 57 (.faddr 2 (.t 1)),oB 58 (.load 1 false (.t 57)),oB 59 (.call 84 [(.t 58),(.c (.d (.fn 85 [])))])]) (.cond (.t 59) (.seq (.ops [oB 2 (.mov (iN 52))]) (.ret)) (.skip))) (.seq (.seq (.ops [oB 60 (.faddr 3 (.t 1)),oB 61 (.load 1 false (.t 60)),oB 62 (.len (.t 61)),oB 63 (.mov (iN 0))]) (.block 0 (.loop [1,61,62,63] [1,2] Zvg))) (.seq (.seq (.ops [oB 84 (.faddr 4 (.t 1)),oB 85 (.load 1 false (.t 84)),oB 86 (.len (.t 85)),oB 87 (.mov (iN 0))]) (.block 2 (.loop [1,85,86,87] [1,2] Zv0))) (.seq (.seq (.ops [oB 123 (.faddr 5 (.t 1)),oB 124 (.load 1 false (.t 123)),oB 125 (.len (.t 124)),oB 126 (.mov (iN 0))]) (.block 4 (.loop [1,124,125,126] [2] ZwU))) (.seq (.ops [oB 2 (.mov (iN 0))]) (.ret))))))))
def Zzj:FnI:=⟨1,ZC3,[(2,none)]⟩
def Zzl:C:=.seq (.ops [oB 14 (.bin .lss (.t 13) (.t 12))]) (.seq (.cond (.t 14) (.skip) (.exit 0)) (.seq (.block 1 (.seq (.ops [oB 15 (.mov (.t 13)),oB 5 (.mov (.t 15))]) (.seq (.draw [oB 16 (.mov (.t 0)),oM 17 (.mov (.t 5)) [0],oB 18 (.iaddr 1 (.t 16) (.t 17)),oB 19 (.load 1 false (.t 18)),oM 20 (.mov (.t 1)) [0,1,2,3],oM 21 (.mov (.t 5)) [0,1,2,3,4],oM 22 (.iaddr 1 (.t 20) (.t 21)) [0,1,2,3],oM 23 (.load 1 false (.t 22)) [0,1,2,3],oB 24 (.bin .neq (.t 19) (.t 23))]) (.cond (.t 24) (.seq (.ops [oB 4 (.mov bF)]) (.ret)) (.skip))))) (.ops [oB 25 (.bin .add (.t 13) (iN 1)),oB 13 (.mov (.t 25))])))
def ZCw:C:=.seq (.ops [oB 4 (.mov bF)]) (.seq (.seq (.ops [oB 6 (.mov (.t 0)),oB 7 (.len (.t 6)),oB 8 (.mov (.t 1)),oB 9 (.len (.t 8)),oB 10 (.bin .neq (.t 7) (.t 9))]) (.cond (.t 10) (.seq (.ops [oB 4 (.mov bF)]) (.ret)) (.skip))) (.seq (.seq (.ops [oB 11 (.mov (.t 0)),oB 12 (.len (.t 11)),oB 13 (.mov (iN 0))]) (.block 0 (.loop [0,1,12,13] [4] Zzl))) (.seq (.ops [oB 4 (.mov bT)]) (.ret))))
def ZBO:FnI:=⟨2,ZCw,[(4,none)]⟩
def Zzi:C:=.seq (.ops [oB 14 (.bin .lss (.t 13) (.t 12))]) (.seq (.cond (.t 14) (.skip) (.exit 0)) (.seq (.block 1 (.seq (.ops [oB 15 (.mov (.t 13)),oB 5 (.mov (.t 15))]) (.seq (.draw [oB 16 (.mov (.t 0)),oM 17 (.mov (.t 5)) [0],oB 18 (.iaddr 1 (.t 16) (.t 17)),oB 19 (.load 1 false (.t 18)),oM 20 (.mov (.t 1)) [0,1,2,3],oM 21 (.mov (.t 5)) [0,1,2,3,4],oM 22 (.iaddr 1 (.t 20) (.t 21)) [0,1,2,3],oM 23 (.load 1 false (.t 22)) [0,1,2,3],oB 24 (.eqv [true] true (.t 19) (.t 23))]) (.cond (.t 24) (.seq (.ops [oB 4 (.mov bF)]) (.ret)) (.skip))))) (.ops [oB 25 (.bin .add (.t 13) (iN 1)),oB 13 (.mov (.t 25))])))
def ZC9:C:=.seq (.ops [oB 4 (.mov bF)]) (.seq (.seq (.ops [oB 6 (.mov (.t 0)),oB 7 (.len (.t 6)),oB 8 (.mov (.t 1)),oB 9 (.len (.t 8)),oB 10 (.bin .neq (.t 7) (.t 9))]) (.cond (.t 10) (.seq (.ops [oB 4 (.mov bF)]) (.ret)) (.skip))) (.seq (.seq (.ops [oB 11 (.mov (.t 0)),oB 12 (.len (.t 11)),oB 13 (.mov (iN 0))]) (.block 0 (.loop [0,1,12,13] [4] Zzi))) (.seq (.ops [oB 4 (.mov bT)]) (.ret))))
def ZBp:FnI:=⟨2,ZC9,[(4,none)]⟩
def ZCn:C:=.seq (.ops [oB 2 (.mov (.c (.d (.int .u32 0))))]) (.seq (.ops [oB 3 (.mov (.t 0)),oB 4 (.conv .u32 (.t 3)),oB 2 (.mov (.t 4))]) (.ret))
def Zzn:FnI:=⟨1,ZCn,[(2,none)]⟩
def ZCx:C:=.seq (.ops [oB 0 (.alloc (.d (.agg [.int .u32 0,.nilfn,.int .u32 0,.nilfn,.int .u32 0,.nilfn,.int .u32 0,.nilfn])))]) (.seq (.ops [oB 1 (.build [(.d (.int .u32 0)),(.d (.nilfn))] [(0,1,(.c (.d (.int .u32 0)))),(1,1,(.c (.d (.fn 97 []))))]),oB 2 (.build [(.d (.int .u32 0)),(.d (.nilfn))] [(0,1,(.c (.d (.int .u32 1)))),(1,1,(.c (.d (.fn 98 []))))]),oB 3 (.build [(.d (.int .u32 0)),(.d (.nilfn))] [(0,1,(.c (.d (.int .u32 0)))),(1,1,(.c (.d (.fn 99 []))))]),oB 4 (.build [(.d (.int .u32 0)),(.d (.nilfn))] [(0,1,(.c (.d (.int .u32 7)))),(1,1,(.c (.d (.fn 100 []))))]),oB 5 (.build [(.d (.int .u32 0)),(.d (.nilfn)),(.d (.int .u32 0)),(.d (.nilfn)),(.d (.int .u32 0)),(.d (.nilfn)),(.d (.int .u32 0)),(.d (.nilfn))] [(0,2,(.t 1)),(2,2,(.t 2)),(4,2,(.t 3)),(6,2,(.t 4))]),oA (.store 8 (.t 0) (.t 5))]) (.ret))
def Zz8:FnI:=⟨0,ZCx,[(0,some (8,true))]⟩
def ZoJ:C:=.seq (.ops [oB 28 (.bin .lss (.t 27) (.t 26))]) (.seq (.cond (.t 28) (.skip) (.exit 0)) (.seq (.block 1 (.seq (.ops [oB 29 (.mov (.t 27)),oB 8 (.mov (.t 29))]) (.seq (.ops [oB 30 (.faddr 2 (.t 4)),oB 31 (.load 1 false (.t 30)),oB 32 (.mov (.t 2)),oB 33 (.iaddr 3 (.t 31) (.t 32)),oB 34 (.faddr 2 (.t 33)),oB 35 (.load 1 false (.t 34)),oB 9 (.mov (.t 35))]) (.seq (.seq (.ops [oB 36 (.mov (.t 8)),oB 37 (.mov (.t 7)),oB 38 (.len (.t 37)),oB 39 (.bin .lss (.t 36) (.t 38))]) (.cond (.t 39) (.draw [oB 40 (.faddr 4 (.t 4)),oB 41 (.load 1 false (.t 40)),oM 42 (.mov (.t 7)) [0,1],oM 43 (.mov (.t 8)) [0,1,2],oM 44 (.iaddr 1 (.t 42) (.t 43)) [0,1],oM 45 (.load 1 false (.t 44)) [0,1],oB 46 (.iaddr 3 (.t 41) (.t 45)),oB 47 (.faddr 2 (.t 46)),oB 48 (.load 1 false (.t 47)),oB 9 (.mov (.t 48))]) (.skip))) (.seq (.draw [oB 49 (.mov (.t 0)),oB 50 (.nilck (.t 49)),oB 51 (.faddr 4 (.t 50)),⟨some 52,.load 1 false (.t 51),none,[],1⟩,oM 53 (.mov (.t 2)) [0,1,2,3],oM 54 (.mov (.t 0)) [0,1,2,3,4],oM 55 (.mov (.t 2)) [0,1,2,3,4,5],oM 56 (.mov (.t 8)) [0,1,2,3,4,5,6],oM 57 (.build [(.d (.int .i64 0)),(.d (.int .i64 0))] [(0,1,(.t 55)),(1,1,(.t 56))]) [0,1,2,3,4,5],oM 58 (.mov (.t 9)) [0,1,2,3,4,5,6,7,8],oM 59 (.mov (.t 6)) [0,1,2,3,4,5,6,7,8,9],oM 60 (.bin .sub (.t 58) (.t 59)) [0,1,2,3,4,5,6,7,8],⟨some 61,.callk 68 [(.t 54),(.t 57),(.t 60)] [(.t 51)],none,[],4⟩,⟨none,.mapset [false] (.t 52) (.t 53) (.t 61),none,[],4⟩]) (.seq (.seq (.ops [oB 62 (.mov (.t 8)),oB 63 (.bin .gtr (.t 62) (iN 0))]) (.cond (.t 63) (.seq (.draw [oB 64 (.mov (.t 0)),oM 65 (.mov (.t 0)) [0],oM 66 (.nilck (.t 65)) [0],oM 67 (.faddr 4 (.t 66)) [0],oM 68 (.load 1 false (.t 67)) [0],oM 69 (.mov (.t 2)) [0,1,2,3,4],oM 70 (.mapget [false] (.int .i64 0) (.t 68) (.t 69)) [0],oM 71 (.bin .sub (.t 70) (iN 1)) [0],oM 72 (.mov (.t 0)) [0,1,2,3,4,5,6,7],oM 73 (.nilck (.t 72)) [0,1,2,3,4,5,6,7],oM 74 (.faddr 4 (.t 73)) [0,1,2,3,4,5,6,7],oM 75 (.load 1 false (.t 74)) [0,1,2,3,4,5,6,7],oM 76 (.mov (.t 2)) [0,1,2,3,4,5,6,7,8,9,10,11],oM 77 (.mapget [false] (.int .i64 0) (.t 75) (.t 76)) [0,1,2,3,4,5,6,7],⟨some 78,.call 67 [(.t 64),(.t 71),(.t 77)],none,[],4⟩]) (.draw [oB 79 (.mov (.t 0)),oB 80 (.nilck (.t 79)),oB 81 (.faddr 5 (.t 80)),oB 82 (.load 1 false (.t 81)),oM 83 (.faddr 4 (.t 4)) [0,1,2,3],oM 84 (.load 1 false (.t 83)) [0,1,2,3],oM 85 (.mov (.t 7)) [0,1,2,3,4,5],oM 86 (.mov (.t 8)) [0,1,2,3,4,5,6],oM 87 (.bin .sub (.t 86) (iN 1)) [0,1,2,3,4,5,6],oM 88 (.iaddr 1 (.t 85) (.t 87)) [0,1,2,3,4,5],oM 89 (.load 1 false (.t 88)) [0,1,2,3,4,5],oM 90 (.iaddr 3 (.t 84) (.t 89)) [0,1,2,3],oM 91 (.load 3 true (.t 90)) [0,1,2,3],oM 92 (.mov (.t 0)) [0,1,2,3,4,5,6,7,8,9,10,11,12],oM 93 (.nilck (.t 92)) [0,1,2,3,4,5,6,7,8,9,10,11,12],oM 94 (.faddr 4 (.t 93)) [0,1,2,3,4,5,6,7,8,9,10,11,12],oM 95 (.load 1 false (.t 94)) [0,1,2,3,4,5,6,7,8,9,10,11,12],oM 96 (.mov (.t 2)) [0,1,2,3,4,5,6,7,8,9,10,11,12,13,14,15,16],oM 97 (.mapget [false] (.int .i64 0) (.t 95) (.t 96)) [0,1,2,3,4,5,6,7,8,9,10,11,12],⟨none,.mapset [false,false,false] (.t 82) (.t 91) (.t 97),none,[],4⟩])) (.skip))) (.ops [oB 98 (.mov (.t 9)),oB 6 (.mov (.t 98))]))))))) (.ops [oB 99 (.bin .add (.t 27) (iN 1)),oB 27 (.mov (.t 99))])))
def ZB4:C:=.seq (.ops [oB 4 (.box (.t 1))]) (.seq (.ops [oB 6 (.mov (iN 0))]) (.seq (.draw [oB 10 (.mov (.t 0)),oB 11 (.nilck (.t 10)),oB 12 (.faddr 3 (.t 11)),oB 13 (.load 1 false (.t 12)),oM 14 (.mov (.t 2)) [0,1,2,3],oM 15 (.mov (.t 0)) [0,1,2,3,4],oM 16 (.nilck (.t 15)) [0,1,2,3,4],oM 17 (.faddr 0 (.t 16)) [0,1,2,3,4],oM 18 (.faddr 2 (.t 17)) [0,1,2,3,4],oM 19 (.load 1 false (.t 18)) [0,1,2,3,4],oM 20 (.len (.t 19)) [0,1,2,3,4],⟨none,.mapset [false] (.t 13) (.t 14) (.t 20),none,[],4⟩]) (.seq (.ops [oB 21 (.load 6 true (.t 4)),oB 22 (.mov (.t 2)),oB 23 (.call 101 [(.t 21),(.t 22)]),oB 7 (.mov (.t 23))]) (.seq (.ops [oB 24 (.mov (.t 7)),oB 25 (.len (.t 24)),oB 26 (.bin .add (.t 25) (iN 1)),oB 27 (.mov (iN 0))]) (.block 0 (.loop [0,2,4,6,7,26,27] [] ZoJ))))))
def Zzu:FnI:=⟨3,ZB4,[]⟩
def ZCf:C:=.ops [oB 6 (.mov (.t 0)),oB 7 (.mov (.t 0)),oB 8 (.nilck (.t 7)),oB 9 (.faddr 0 (.t 8)),oB 10 (.faddr 0 (.t 9)),oB 11 (.faddr 1 (.t 10)),oB 12 (.load 1 false (.t 11)),oB 13 (.mov (.t 1)),oB 14 (.mov (.t 2)),oB 15 (.build [(.d (.int .i64 0)),(.d (.int .i64 0))] [(0,1,(.t 13)),(1,1,(.t 14))]),oB 16 (.bslice 2 [.int .i64 0,.int .i64 0] 1 [(0,(.t 15))]),oB 17 (.append 2 (.t 12) (.t 16)),oB 18 (.nilck (.t 6)),oB 19 (.faddr 0 (.t 18)),oB 20 (.faddr 0 (.t 19)),oB 21 (.faddr 1 (.t 20)),oA (.store 1 (.t 21) (.t 17))]
def Zzm:FnI:=⟨3,ZCf,[]⟩
def ZDn:C:=.seq (.ops [oB 4 (.box (.t 1)),oB 6 (.mov (iN 0))]) (.seq (.draw [oB 7 (.mov (.t 0)),oM 8 (.mov (.t 0)) [0],oM 9 (.nilck (.t 8)) [0],oM 10 (.faddr 0 (.t 9)) [0],oM 11 (.faddr 2 (.t 10)) [0],oM 12 (.load 1 false (.t 11)) [0],oM 13 (.load 2 true (.t 4)) [0,1,2,3,4,5],oM 14 (.bslice 2 [.int .i64 0,.int .i64 0] 1 [(0,(.t 13))]) [0,1,2,3,4,5],⟨some 15,.append 2 (.t 12) (.t 14),none,[],4⟩,oB 16 (.nilck (.t 7)),oB 17 (.faddr 0 (.t 16)),oB 18 (.faddr 2 (.t 17)),⟨none,.store 1 (.t 18) (.t 15),none,[],3⟩]) (.seq (.ops [oB 19 (.mov (.t 0)),oB 20 (.mov (.t 0)),oB 21 (.nilck (.t 20)),oB 22 (.faddr 0 (.t 21)),oB 23 (.faddr 0 (.t 22)),oB 24 (.faddr 0 (.t 23)),oB 25 (.load 1 false (.t 24)),oB 26 (.mov (.t 2)),oB 27 (.bslice 1 [.int .i64 0] 1 [(0,(.t 26))]),oB 28 (.append 1 (.t 25) (.t 27)),oB 29 (.nilck (.t 19)),oB 30 (.faddr 0 (.t 29)),oB 31 (.faddr 0 (.t 30)),oB 32 (.faddr 0 (.t 31)),oA (.store 1 (.t 32) (.t 28))]) (.seq (.ops [oB 33 (.mov (.t 0)),oB 34 (.nilck (.t 33)),oB 35 (.faddr 0 (.t 34)),oB 36 (.faddr 2 (.t 35)),oB 37 (.load 1 false (.t 36)),oB 38 (.len (.t 37)),oB 39 (.bin .sub (.t 38) (iN 1)),oB 6 (.mov (.t 39))]) (.ret))))
def Zy4:FnI:=⟨3,ZDn,[(6,none)]⟩
def ZvJ:C:=.seq (.ops [oB 26 (.bin .lss (.t 25) (.t 24))]) (.seq (.cond (.t 26) (.skip) (.exit 0)) (.seq (.block 1 (.seq (.ops [oB 27 (.mov (.t 25)),oB 28 (.iaddr 2 (.t 23) (.t 25)),oB 29 (.load 2 true (.t 28)),oB 5 (.alloc (.d (.agg [.int .i64 0,.int .i64 0]))),oB 4 (.mov (.t 27)),oA (.store 2 (.t 5) (.t 29))]) (.seq (.draw [oB 30 (.mov (.t 3)),oM 31 (.faddr 0 (.t 5)) [0],oM 32 (.load 1 false (.t 31)) [0],oB 33 (.callv (.t 30) [(.t 32)]),oB 34 (.un .not (.t 33)),oB 35 (.mov (.t 34)),oG 36 (.mov (.t 3)) 35 false,⟨some 37,.faddr 1 (.t 5),some (35,false),[6],0⟩,⟨some 38,.load 1 false (.t 37),some (35,false),[6],0⟩,oG 39 (.callv (.t 36) [(.t 38)]) 35 false,oG 40 (.un .not (.t 39)) 35 false,oB 41 (.pick (.t 35) bT (.t 40)),oB 42 (.mov (.t 41)),oG 43 (.faddr 0 (.t 5)) 42 false,oG 44 (.load 1 false (.t 43)) 42 false,⟨some 45,.faddr 1 (.t 5),some (42,false),[13,14],0⟩,⟨some 46,.load 1 false (.t 45),some (42,false),[13,14],0⟩,oG 47 (.bin .eql (.t 44) (.t 46)) 42 false,oB 48 (.pick (.t 42) bT (.t 47)),oB 49 (.mov (.t 48)),oG 50 (.faddr 1 (.t 1)) 49 false,oG 51 (.load 1 false (.t 50)) 49 false,⟨some 52,.mov (.t 4),some (49,false),[20,21],0⟩,oG 53 (.slice 2 (.t 51) none (some (.t 52)) none) 49 false,⟨some 54,.load 2 true (.t 5),some (49,false),[20,21,22,23],0⟩,oG 55 (.call 87 [(.t 53),(.t 54)]) 49 false,oB 56 (.pick (.t 49) bT (.t 55))]) (.cond (.t 56) (.seq (.ops [oB 2 (.mov (iN 42))]) (.ret)) (.skip))))) (.ops [oB 57 (.bin .add (.t 25) (iN 1)),oB 25 (.mov (.t 57))])))
def ZDo:C:=.seq (.ops [oB 1 (.box (.t 0)),oB 2 (.mov (iN 0))]) (.seq (.seq (.ops [oB 8 (.faddr 0 (.t 1)),oB 9 (.load 1 false (.t 8)),oB 10 (.len (.t 9)),oB 11 (.bin .gtr (.t 10) (iN 64)),oB 12 (.mov (.t 11)),oG 13 (.faddr 1 (.t 1)) 12 false,oG 14 (.load 1 false (.t 13)) 12 false,oG 15 (.len (.t 14)) 12 false,oG 16 (.bin .gtr (.t 15) (iN 256)) 12 false,oB 17 (.pick (.t 12) bT (.t 16))]) (.cond (.t 17) (.seq (.ops [oB 2 (.mov (iN 40))]) (.ret)) (.skip))) (.seq (.seq (.ops [oB 18 (.faddr 0 (.t 1)),oB 19 (.load 1 false (.t 18)),oB 20 (.call 93 [(.t 19),(.c (.d (.fn 102 [])))])]) (.cond (.t 20) (.seq (.ops [oB 2 (.mov (iN 41))]) (.ret)) (.skip))) (.seq (.ops [oB 21 (.mkfn 103 [(.t 1)]),oB 3 (.mov (.t 21))]) (.seq (.seq (.ops [oB 22 (.faddr 1 (.t 1)),oB 23 (.load 1 false (.t 22)),oB 24 (.len (.t 23)),oB 25 (.mov (iN 0))]) (.block 0 (.loop [1,3,23,24,25] [1,2] ZvJ))) (.seq (.seq (.ops [oB 59 (.load 2 true (.t 1)),oB 60 (.call 77 [(.t 59)]),oB 58 (.mov (.t 60)),oB 61 (.extract (.t 58) 0),oB 62 (.extract (.t 58) 1),oB 6 (.mov (.t 61)),oB 7 (.mov (.t 62))]) (.seq (.ops [oB 63 (.mov (.t 7)),oB 64 (.un .not (.t 63))]) (.cond (.t 64) (.seq (.ops [oB 2 (.mov (iN 43))]) (.ret)) (.skip)))) (.seq (.ops [oB 2 (.mov (iN 0))]) (.ret)))))))
def ZzX:FnI:=⟨1,ZDo,[(2,none)]⟩
def ZDE:C:=.seq (.ops [oB 4 (.mov bF)]) (.seq (.ops [oB 5 (.mov (.t 0)),oB 6 (.mov (.t 1)),oB 7 (.call 104 [(.t 5),(.t 6)]),oB 8 (.bin .geq (.t 7) (iN 0)),oB 4 (.mov (.t 8))]) (.ret))
def Zyb:FnI:=⟨2,ZDE,[(4,none)]⟩
def ZC6:C:=.seq (.ops [oB 2 (.box (.t 0)),oB 3 (.mov bF)]) (.seq (.ops [oB 4 (.faddr 0 (.t 1)),oB 5 (.load 1 false (.t 4)),oB 6 (.faddr 1 (.t 2)),oB 7 (.load 1 false (.t 6)),oB 8 (.iaddr 1 (.t 5) (.t 7)),oB 9 (.load 1 false (.t 8)),oB 10 (.mov (.t 9)),oG 11 (.faddr 0 (.t 1)) 10 true,oG 12 (.load 1 false (.t 11)) 10 true,oG 13 (.faddr 0 (.t 2)) 10 true,oG 14 (.load 1 false (.t 13)) 10 true,oG 15 (.iaddr 1 (.t 12) (.t 14)) 10 true,oG 16 (.load 1 false (.t 15)) 10 true,oG 17 (.un .not (.t 16)) 10 true,oB 18 (.pick (.t 10) (.t 17) bF),oB 3 (.mov (.t 18))]) (.ret))
def Zzz:FnI:=⟨2,ZC6,[(3,none)]⟩
def ZCo:C:=.seq (.ops [oB 3 (.box (.t 0)),oB 4 (.mov bF)]) (.seq (.ops [oB 5 (.faddr 1 (.t 3)),oB 6 (.load 1 false (.t 5)),oB 7 (.load 1 false (.t 1)),oB 8 (.bin .eql (.t 6) (.t 7)),oB 9 (.mov (.t 8)),oG 10 (.faddr 0 (.t 2)) 9 true,oG 11 (.load 1 false (.t 10)) 9 true,oG 12 (.faddr 0 (.t 3)) 9 true,oG 13 (.load 1 false (.t 12)) 9 true,oG 14 (.iaddr 1 (.t 11) (.t 13)) 9 true,oG 15 (.load 1 false (.t 14)) 9 true,oG 16 (.un .not (.t 15)) 9 true,oB 17 (.pick (.t 9) (.t 16) bF),oB 4 (.mov (.t 17))]) (.ret))
def ZyZ:FnI:=⟨3,ZCo,[(4,none)]⟩
def ZCT:C:=.seq (.ops [oB 2 (.mov (.c (.nilsl 1)))]) (.seq (.seq (.ops [oB 3 (.mov (.t 0)),oB 4 (.nilq (.t 3))]) (.cond (.t 4) (.seq (.ops [oB 2 (.mov (.c (.nilsl 1)))]) (.ret)) (.skip))) (.seq (.ops [oB 5 (.bslice 1 [.bool false] 0 []),oB 6 (.mov (.t 0)),oB 7 (.append 1 (.t 5) (.t 6)),oB 2 (.mov (.t 7))]) (.ret)))
def Zzb:FnI:=⟨1,ZCT,[(2,none)]⟩
def ZCh:C:=.seq (.ops [oB 2 (.mov (.c (.nilsl 1)))]) (.seq (.seq (.ops [oB 3 (.mov (.t 0)),oB 4 (.nilq (.t 3))]) (.cond (.t 4) (.seq (.ops [oB 2 (.mov (.c (.nilsl 1)))]) (.ret)) (.skip))) (.seq (.ops [oB 5 (.bslice 1 [.int .i64 0] 0 []),oB 6 (.mov (.t 0)),oB 7 (.append 1 (.t 5) (.t 6)),oB 2 (.mov (.t 7))]) (.ret)))
def ZzC:FnI:=⟨1,ZCh,[(2,none)]⟩
def ZCB:C:=.ops [⟨some 2,.spec 0 [(.t 0),(.t 1)],none,[],0⟩]
def ZAR:FnI:=⟨2,ZCB,[(2,none)]⟩
def Zwq:C:=.seq (.ops [oB 17 (.bin .lss (.t 16) (.t 15))]) (.seq (.cond (.t 17) (.skip) (.exit 0)) (.seq (.block 1 (.seq (.ops [oB 18 (.iaddr 2 (.t 14) (.t 16)),oB 19 (.load 2 true (.t 18)),oB 7 (.alloc (.d (.agg [.int .i64 0,.int .i64 0]))),oA (.store 2 (.t 7) (.t 19))]) (.seq (.ops [oB 20 (.faddr 1 (.t 7)),oB 21 (.load 1 false (.t 20)),oB 22 (.mov (.t 1)),oB 23 (.bin .eql (.t 21) (.t 22))]) (.cond (.t 23) (.ops [oB 24 (.mov (.t 5)),oB 25 (.faddr 0 (.t 7)),oB 26 (.load 1 false (.t 25)),oB 27 (.bslice 1 [.int .i64 0] 1 [(0,(.t 26))]),oB 28 (.append 1 (.t 24) (.t 27)),oB 5 (.mov (.t 28))]) (.skip))))) (.ops [oB 29 (.bin .add (.t 16) (iN 1)),oB 16 (.mov (.t 29))])))
def ZvG:C:=.seq (.ops [oB 35 (.bin .lss (.t 34) (.t 33))]) (.seq (.cond (.t 35) (.skip) (.exit 2)) (.seq (.block 3 (.seq (.ops [oB 36 (.iaddr 1 (.t 32) (.t 34)),oB 37 (.load 1 false (.t 36)),oB 9 (.mov (.t 37))]) (.ops [oB 38 (.mov (.t 5)),oB 39 (.faddr 4 (.t 2)),oB 40 (.load 1 false (.t 39)),oB 41 (.mov (.t 9)),oB 42 (.iaddr 3 (.t 40) (.t 41)),oB 43 (.faddr 0 (.t 42)),oB 44 (.load 1 false (.t 43)),oB 45 (.bslice 1 [.int .i64 0] 1 [(0,(.t 44))]),oB 46 (.append 1 (.t 38) (.t 45)),oB 5 (.mov (.t 46))]))) (.ops [oB 47 (.bin .add (.t 34) (iN 1)),oB 34 (.mov (.t 47))])))
def ZCV:C:=.seq (.ops [oB 2 (.box (.t 0)),oB 4 (.mov (.c (.nilsl 1)))]) (.seq (.seq (.ops [oB 10 (.load 6 true (.t 2)),oB 11 (.call 55 [(.t 10)]),oB 12 (.bin .neq (.t 11) (iN 0))]) (.cond (.t 12) (.seq (.ops [oB 4 (.mov (.c (.nilsl 1)))]) (.ret)) (.skip))) (.seq (.ops [oB 5 (.mov (.c (.nilsl 1)))]) (.seq (.seq (.ops [oB 13 (.faddr 3 (.t 2)),oB 14 (.load 1 false (.t 13)),oB 15 (.len (.t 14)),oB 16 (.mov (iN 0))]) (.block 0 (.loop [1,2,5,14,15,16] [1,2,5] Zwq))) (.seq (.seq (.ops [oB 30 (.load 6 true (.t 2)),oB 31 (.mov (.t 1)),oB 32 (.call 101 [(.t 30),(.t 31)]),oB 33 (.len (.t 32)),oB 34 (.mov (iN 0))]) (.block 2 (.loop [2,5,32,33,34] [5] ZvG))) (.seq (.ops [oB 48 (.mov (.t 5)),oB 4 (.mov (.t 48))]) (.ret))))))
def Zzo:FnI:=⟨2,ZCV,[(4,none)]⟩
def ZwQ:C:=.seq (.ops [oB 33 (.bin .lss (.t 32) (.t 31))]) (.seq (.cond (.t 33) (.skip) (.exit 4)) (.seq (.block 5 (.seq (.ops [oB 34 (.iaddr 2 (.t 30) (.t 32)),oB 35 (.load 2 true (.t 34)),oB 8 (.alloc (.d (.agg [.int .i64 0,.int .i64 0]))),oA (.store 2 (.t 8) (.t 35))]) (.seq (.ops [oB 36 (.faddr 1 (.t 8)),oB 37 (.load 1 false (.t 36)),oB 38 (.mov (.t 6)),oB 39 (.bin .eql (.t 37) (.t 38)),oB 40 (.mov (.t 39)),oG 41 (.mov (.t 5)) 40 true,oG 42 (.faddr 0 (.t 8)) 40 true,oG 43 (.load 1 false (.t 42)) 40 true,oG 44 (.iaddr 1 (.t 41) (.t 43)) 40 true,oG 45 (.load 1 false (.t 44)) 40 true,oG 46 (.un .not (.t 45)) 40 true,oB 47 (.pick (.t 40) (.t 46) bF)]) (.cond (.t 47) (.exit 3) (.skip))))) (.ops [oB 48 (.bin .add (.t 32) (iN 1)),oB 32 (.mov (.t 48))])))
def Zww:C:=.seq (.ops [oB 23 (.bin .lss (.t 22) (.t 21))]) (.seq (.cond (.t 23) (.skip) (.exit 2)) (.seq (.block 3 (.seq (.ops [oB 24 (.mov (.t 22)),oB 6 (.mov (.t 24))]) (.seq (.seq (.ops [oB 25 (.mov (.t 5)),oB 26 (.mov (.t 6)),oB 27 (.iaddr 1 (.t 25) (.t 26)),oB 28 (.load 1 false (.t 27))]) (.cond (.t 28) (.exit 3) (.skip))) (.seq (.seq (.ops [oB 29 (.faddr 1 (.t 1)),oB 30 (.load 1 false (.t 29)),oB 31 (.len (.t 30)),oB 32 (.mov (iN 0))]) (.block 4 (.loop [1,4,5,6,21,22,30,31,32] [1,4,5,6,21,22] ZwQ))) (.seq (.ops [oB 49 (.mov (.t 5)),oB 50 (.mov (.t 6)),oB 51 (.iaddr 1 (.t 49) (.t 50)),oA (.store 1 (.t 51) bT)]) (.seq (.ops [oB 52 (.mov (.t 4)),oB 53 (.mov (.t 6)),oB 54 (.bslice 1 [.int .i64 0] 1 [(0,(.t 53))]),oB 55 (.append 1 (.t 52) (.t 54)),oB 4 (.mov (.t 55))]) (.exit 1))))))) (.ops [oB 56 (.bin .add (.t 22) (iN 1)),oB 22 (.mov (.t 56))])))
def Zve:C:=.seq (.seq (.ops [oB 13 (.mov (.t 4)),oB 14 (.len (.t 13)),oB 15 (.faddr 0 (.t 1)),oB 16 (.load 1 false (.t 15)),oB 17 (.len (.t 16)),oB 18 (.bin .lss (.t 14) (.t 17))]) (.cond (.t 18) (.skip) (.exit 0))) (.block 1 (.seq (.skip) (.seq (.seq (.ops [oB 19 (.faddr 0 (.t 1)),oB 20 (.load 1 false (.t 19)),oB 21 (.len (.t 20)),oB 22 (.mov (iN 0))]) (.block 2 (.loop [1,4,5,21,22] [1,4,5] Zww))) (.seq (.ops [oB 2 (.mov (.c (.nilsl 1))),oB 3 (.mov bF)]) (.ret)))))
def ZDH:C:=.seq (.ops [oB 1 (.box (.t 0)),oB 2 (.mov (.c (.nilsl 1))),oB 3 (.mov bF)]) (.seq (.ops [oB 4 (.mov (.c (.nilsl 1)))]) (.seq (.ops [oB 9 (.faddr 0 (.t 1)),oB 10 (.load 1 false (.t 9)),oB 11 (.len (.t 10)),oB 12 (.mkslice 1 [.bool false] (.t 11) (.t 11)),oB 5 (.mov (.t 12))]) (.seq (.skip) (.seq (.block 0 (.loop [1,4,5] [2,3,4] Zve)) (.seq (.ops [oB 57 (.mov (.t 4)),oB 2 (.mov (.t 57)),oB 3 (.mov bT)]) (.ret))))))
def Zy3:FnI:=⟨1,ZDH,[(2,none),(3,none)]⟩
def ZC7:C:=.seq (.ops [oB 6 (.mov bF)]) (.seq (.ops [oB 7 (.mov (.t 1)),oB 8 (.mov (.t 0)),oB 9 (.bin .leq (.t 7) (.t 8)),oB 10 (.mov (.t 9)),oG 11 (.mov (.t 0)) 10 true,oG 12 (.mov (.t 2)) 10 true,oG 13 (.bin .leq (.t 11) (.t 12)) 10 true,oB 14 (.pick (.t 10) (.t 13) bF),oB 6 (.mov (.t 14))]) (.ret))
def ZzU:FnI:=⟨3,ZC7,[(6,none)]⟩
def ZC4:C:=.seq (.ops [oB 2 (.mov (iN 0)),oB 3 (.mov bF)]) (.seq (.seq (.ops [oB 4 (.mov (.t 0)),oB 5 (.call 109 [(.t 4)]),oB 6 (.bin .neq (.t 5) (iN 0)),oB 7 (.mov (.t 6)),oG 8 (.mov (.t 0)) 7 false,oG 9 (.conv .u64 (.t 8)) 7 false,oG 10 (.call 110 [(.t 9)]) 7 false,oG 11 (.bin .neq (.t 10) (iN 1)) 7 false,oB 12 (.pick (.t 7) bT (.t 11))]) (.cond (.t 12) (.seq (.ops [oB 2 (.mov (iN 0)),oB 3 (.mov bF)]) (.ret)) (.skip))) (.seq (.ops [oB 13 (.mov (.t 0)),oB 14 (.conv .u64 (.t 13)),oB 15 (.call 111 [(.t 14)]),oB 2 (.mov (.t 15)),oB 3 (.mov bT)]) (.ret)))
def Zzc:FnI:=⟨1,ZC4,[(2,none),(3,none)]⟩
def ZCK:C:=.seq (.ops [oB 4 (.mov bF)]) (.seq (.ops [oB 5 (.mov (.t 0)),oB 6 (.mov (.t 1)),oB 7 (.call 112 [(.t 5),(.t 6)]),oB 8 (.bin .geq (.t 7) (iN 0)),oB 4 (.mov (.t 8))]) (.ret))
def ZzH:FnI:=⟨2,ZCK,[(4,none)]⟩
def ZCG:C:=.seq (.ops [oB 1 (.box (.t 0)),oB 2 (.mov bF)]) (.seq (.ops [oB 3 (.faddr 0 (.t 1)),oB 4 (.load 1 false (.t 3)),oB 5 (.call 82 [(.t 4),(iN 0),(iN 5)]),oB 6 (.un .not (.t 5)),oB 7 (.mov (.t 6)),oG 8 (.faddr 1 (.t 1)) 7 false,oG 9 (.load 1 false (.t 8)) 7 false,oG 10 (.call 82 [(.t 9),(iN 0),(iN 2147483647)]) 7 false,oG 11 (.un .not (.t 10)) 7 false,oB 12 (.pick (.t 7) bT (.t 11)),oB 13 (.mov (.t 12)),oG 14 (.faddr 2 (.t 1)) 13 false,oG 15 (.load 1 false (.t 14)) 13 false,oG 16 (.call 82 [(.t 15),(iN 1),(iN 100)]) 13 false,oG 17 (.un .not (.t 16)) 13 false,oB 18 (.pick (.t 13) bT (.t 17)),oB 2 (.mov (.t 18))]) (.ret))
def Zy6:FnI:=⟨1,ZCG,[(2,none)]⟩
def ZCj:C:=.seq (.ops [oB 3 (.box (.t 0)),oB 6 (.mov bF)]) (.seq (.ops [oB 7 (.mov (.t 1)),oB 8 (.mov (.t 2)),oB 9 (.bin .neq (.t 7) (.t 8)),oB 10 (.mov (.t 9)),oG 11 (.mov (.t 1)) 10 true,oG 12 (.faddr 2 (.t 3)) 10 true,oG 13 (.load 1 false (.t 12)) 10 true,oG 14 (.len (.t 13)) 10 true,oG 15 (.bin .sub (.t 14) (iN 1)) 10 true,oG 16 (.call 82 [(.t 11),(iN 0),(.t 15)]) 10 true,oB 17 (.pick (.t 10) (.t 16) bF),oB 18 (.mov (.t 17)),oG 19 (.mov (.t 2)) 18 true,oG 20 (.faddr 2 (.t 3)) 18 true,oG 21 (.load 1 false (.t 20)) 18 true,oG 22 (.len (.t 21)) 18 true,oG 23 (.bin .sub (.t 22) (iN 1)) 18 true,oG 24 (.call 82 [(.t 19),(iN 0),(.t 23)]) 18 true,oB 25 (.pick (.t 18) (.t 24) bF),oB 6 (.mov (.t 25))]) (.ret))
def ZzI:FnI:=⟨3,ZCj,[(6,none)]⟩
def ZDx:C:=.seq (.ops [oB 3 (.box (.t 1)),oB 4 (.mov bF)]) (.seq (.ops [oB 5 (.mov (.t 0)),oB 6 (.load 2 true (.t 3)),oB 7 (.call 113 [(.t 5),(.t 6)]),oB 8 (.bin .geq (.t 7) (iN 0)),oB 4 (.mov (.t 8))]) (.ret))
def ZzD:FnI:=⟨2,ZDx,[(4,none)]⟩
def ZCE:C:=.seq (.ops [oB 2 (.box (.t 0)),oB 3 (.mov bF)]) (.seq (.ops [oB 4 (.faddr 1 (.t 2)),oB 5 (.load 1 false (.t 4)),oB 6 (.faddr 1 (.t 1)),oB 7 (.load 1 false (.t 6)),oB 8 (.bin .eql (.t 5) (.t 7)),oB 9 (.mov (.t 8)),oG 10 (.faddr 2 (.t 2)) 9 true,oG 11 (.load 1 false (.t 10)) 9 true,oG 12 (.faddr 2 (.t 1)) 9 true,oG 13 (.load 1 false (.t 12)) 9 true,oG 14 (.bin .eql (.t 11) (.t 13)) 9 true,oB 15 (.pick (.t 9) (.t 14) bF),oB 3 (.mov (.t 15))]) (.ret))
def ZzB:FnI:=⟨2,ZCE,[(3,none)]⟩
def ZDb:C:=.seq (.ops [oB 4 (.mov bF)]) (.seq (.ops [oB 5 (.mov (.t 0)),oB 6 (.mov (.t 1)),oB 7 (.call 114 [(.t 5),(.t 6)]),oB 8 (.bin .geq (.t 7) (iN 0)),oB 4 (.mov (.t 8))]) (.ret))
def Zzt:FnI:=⟨2,ZDb,[(4,none)]⟩
def ZCZ:C:=.seq (.ops [oB 3 (.mov bF)]) (.seq (.ops [oB 4 (.faddr 1 (.t 1)),oB 5 (.load 1 false (.t 4)),oB 6 (.mov (.t 0)),oB 7 (.call 91 [(.t 5),(.t 6)]),oB 3 (.mov (.t 7))]) (.ret))
def ZzQ:FnI:=⟨2,ZCZ,[(3,none)]⟩
def ZDm:C:=.seq (.ops [oB 4 (.mov bF)]) (.seq (.ops [oB 5 (.mov (.t 0)),oB 6 (.mov (.t 1)),oB 7 (.call 115 [(.t 5),(.t 6)]),oB 8 (.bin .geq (.t 7) (iN 0)),oB 4 (.mov (.t 8))]) (.ret))
def Zzr:FnI:=⟨2,ZDm,[(4,none)]⟩
def ZwF:C:=.seq (.ops [oB 10 (.bin .lss (.t 9) (.t 8))]) (.seq (.cond (.t 10) (.skip) (.exit 0)) (.seq (.block 1 (.seq (.ops [oB 11 (.mov (.t 9)),oB 12 (.iaddr 1 (.t 7) (.t 9)),oB 13 (.load 1 false (.t 12)),oB 5 (.mov (.t 11)),oB 6 (.mov (.t 13))]) (.seq (.ops [oB 14 (.mov (.t 6)),oB 15 (.faddr 2 (.t 2)),oB 16 (.load 1 false (.t 15)),oB 17 (.len (.t 16)),oB 18 (.bin .sub (.t 17) (iN 1)),oB 19 (.call 82 [(.t 14),(iN 0),(.t 18)]),oB 20 (.un .not (.t 19)),oB 21 (.mov (.t 20)),oG 22 (.mov (.t 5)) 21 false,oG 23 (.bin .gtr (.t 22) (iN 0)) 21 false,oG 24 (.mov (.t 23)) 21 false,oG 25 (.mov (.t 1)) 24 true,oG 26 (.mov (.t 5)) 24 true,oG 27 (.bin .sub (.t 26) (iN 1)) 24 true,oG 28 (.iaddr 1 (.t 25) (.t 27)) 24 true,oG 29 (.load 1 false (.t 28)) 24 true,oG 30 (.mov (.t 6)) 24 true,oG 31 (.bin .geq (.t 29) (.t 30)) 24 true,oG 32 (.pick (.t 24) (.t 31) bF) 21 false,oB 33 (.pick (.t 21) bT (.t 32))]) (.cond (.t 33) (.seq (.ops [oB 4 (.mov bF)]) (.ret)) (.skip))))) (.ops [oB 34 (.bin .add (.t 9) (iN 1)),oB 9 (.mov (.t 34))])))
def ZCi:C:=.seq (.ops [oB 2 (.box (.t 0)),oB 4 (.mov bF)]) (.seq (.seq (.ops [oB 7 (.mov (.t 1)),oB 8 (.len (.t 7)),oB 9 (.mov (iN 0))]) (.block 0 (.loop [1,2,7,8,9] [1,4] ZwF))) (.seq (.ops [oB 35 (.mov (.t 1)),oB 36 (.len (.t 35)),oB 37 (.bin .gtr (.t 36) (iN 0)),oB 4 (.mov (.t 37))]) (.ret)))
def Zy2:FnI:=⟨2,ZCi,[(4,none)]⟩
def ZDe:C:=.seq (.ops [oB 4 (.mov bF)]) (.seq (.ops [oB 5 (.mov (.t 0)),oB 6 (.mov (.t 1)),oB 7 (.call 116 [(.t 5),(.t 6)]),oB 8 (.bin .geq (.t 7) (iN 0)),oB 4 (.mov (.t 8))]) (.ret))
def Zx4:FnI:=⟨2,ZDe,[(4,none)]⟩
def ZDr:C:=.seq (.ops [oB 4 (.mov (.c (.d (.int .u32 0))))]) (.seq (.ops [oB 5 (.mov (.t 0)),oB 6 (.mov (.t 1)),oB 7 (.bin .add (.t 5) (.t 6)),oB 4 (.mov (.t 7))]) (.ret))
def Zzw:FnI:=⟨2,ZDr,[(4,none)]⟩
def ZB7:C:=.seq (.ops [oB 4 (.mov (.c (.d (.int .u32 0))))]) (.seq (.ops [oB 5 (.mov (.t 0)),oB 6 (.mov (.t 1)),oB 7 (.bin .mul (.t 5) (.t 6)),oB 4 (.mov (.t 7))]) (.ret))
def ZzW:FnI:=⟨2,ZB7,[(4,none)]⟩
def ZCt:C:=.seq (.ops [oB 4 (.mov (.c (.d (.int .u32 0))))]) (.seq (.ops [oB 5 (.mov (.t 0)),oB 6 (.mov (.t 1)),oB 7 (.mx true [(.t 5),(.t 6)]),oB 4 (.mov (.t 7))]) (.ret))
def Zy5:FnI:=⟨2,ZCt,[(4,none)]⟩
def ZAa:C:=.seq (.ops [oB 4 (.mov (.c (.d (.int .u32 0))))]) (.seq (.ops [oB 5 (.mov (.t 0)),oB 6 (.bin .mul (.t 5) (.c (.d (.int .u32 31)))),oB 7 (.mov (.t 1)),oB 8 (.bin .add (.t 6) (.t 7)),oB 4 (.mov (.t 8))]) (.ret))
def Zw3:FnI:=⟨2,ZAa,[(4,none)]⟩
def Zug:C:=.seq (.ops [oB 15 (.bin .lss (.t 14) (.t 13))]) (.seq (.cond (.t 15) (.skip) (.exit 0)) (.seq (.block 1 (.seq (.ops [oB 16 (.mov (.t 14)),oB 17 (.iaddr 3 (.t 12) (.t 14)),oB 18 (.load 3 true (.t 17)),oB 7 (.alloc (.d (.agg [.int .i64 0,.int .i64 0,.int .i64 0]))),oB 6 (.mov (.t 16)),oA (.store 3 (.t 7) (.t 18))]) (.seq (.ops [oB 19 (.faddr 1 (.t 7)),oB 20 (.load 1 false (.t 19)),oB 21 (.mov (.t 1)),oB 22 (.bin .eql (.t 20) (.t 21))]) (.cond (.t 22) (.ops [oB 23 (.mov (.t 5)),oB 24 (.mov (.t 6)),oB 25 (.bslice 1 [.int .i64 0] 1 [(0,(.t 24))]),oB 26 (.append 1 (.t 23) (.t 25)),oB 5 (.mov (.t 26))]) (.skip))))) (.ops [oB 27 (.bin .add (.t 14) (iN 1)),oB 14 (.mov (.t 27))])))
def ZAB:C:=.seq (.ops [oB 2 (.box (.t 0)),oB 4 (.mov (.c (.nilsl 1)))]) (.seq (.seq (.ops [oB 8 (.load 6 true (.t 2)),oB 9 (.call 55 [(.t 8)]),oB 10 (.bin .neq (.t 9) (iN 0))]) (.cond (.t 10) (.seq (.ops [oB 4 (.mov (.c (.nilsl 1)))]) (.ret)) (.skip))) (.seq (.ops [oB 5 (.mov (.c (.nilsl 1)))]) (.seq (.seq (.ops [oB 11 (.faddr 4 (.t 2)),oB 12 (.load 1 false (.t 11)),oB 13 (.len (.t 12)),oB 14 (.mov (iN 0))]) (.block 0 (.loop [1,2,5,12,13,14] [2,5] Zug))) (.seq (.ops [oB 28 (.mov (.t 5)),oB 29 (.mkfn 118 [(.t 2)]),oB 30 (.call 117 [(.t 28),(.t 29)])]) (.seq (.ops [oB 31 (.mov (.t 5)),oB 4 (.mov (.t 31))]) (.ret))))))
def ZvO:FnI:=⟨2,ZAB,[(4,none)]⟩
def ZBe:C:=.seq (.ops [oB 2 (.mov bF)]) (.seq (.ops [oB 3 (.mov (.t 0)),oB 4 (.bin .lss (.t 3) (iN 0)),oB 5 (.mov (.t 4)),oG 6 (.mov (.t 0)) 5 false,oG 7 (.bin .gtr (.t 6) (iN 1000)) 5 false,oB 8 (.pick (.t 5) bT (.t 7)),oB 2 (.mov (.t 8))]) (.ret))
def Zv1:FnI:=⟨1,ZBe,[(2,none)]⟩
def ZAn:C:=.seq (.ops [oB 3 (.mov bF)]) (.seq (.ops [oB 4 (.mov (.t 0)),oB 5 (.bin .geq (.t 4) (iN 0)),oB 6 (.mov (.t 5)),oG 7 (.mov (.t 0)) 6 true,oG 8 (.faddr 0 (.t 1)) 6 true,oG 9 (.load 1 false (.t 8)) 6 true,oG 10 (.len (.t 9)) 6 true,oG 11 (.bin .lss (.t 7) (.t 10)) 6 true,oB 12 (.pick (.t 6) (.t 11) bF),oB 3 (.mov (.t 12))]) (.ret))
def Zwc:FnI:=⟨2,ZAn,[(3,none)]⟩
def Zq8:C:=.seq (.ops [oB 9 (.bin .lss (.t 8) (.t 7))]) (.seq (.cond (.t 9) (.skip) (.exit 0)) (.seq (.block 1 (.seq (.ops [oB 10 (.mov (.t 8)),oB 5 (.mov (.t 10))]) (.seq (.ops [oB 11 (.mov (.t 1)),oB 12 (.mov (.t 0)),oB 13 (.mov (.t 5)),oB 14 (.iaddr 2 (.t 12) (.t 13)),oB 15 (.load 2 true (.t 14)),oB 16 (.callv (.t 11) [(.t 15)])]) (.cond (.t 16) (.seq (.ops [oB 17 (.mov (.t 5)),oB 4 (.mov (.t 17))]) (.ret)) (.skip))))) (.ops [oB 18 (.bin .add (.t 8) (iN 1)),oB 8 (.mov (.t 18))])))
def ZBj:C:=.seq (.ops [oB 4 (.mov (iN 0))]) (.seq (.seq (.ops [oB 6 (.mov (.t 0)),oB 7 (.len (.t 6)),oB 8 (.mov (iN 0))]) (.block 0 (.loop [0,1,7,8] [4] Zq8))) (.seq (.ops [oB 4 (.mov (iN (-1)))]) (.ret)))
def ZtG:FnI:=⟨2,ZBj,[(4,none)]⟩
def ZBV:C:=.seq (.ops [oB 1 (.box (.t 0)),oB 2 (.mov (.c (.d (.nilfn))))]) (.seq (.ops [oB 3 (.mkfn 119 [(.t 1)]),oB 2 (.mov (.t 3))]) (.ret))
def ZyX:FnI:=⟨1,ZBV,[(2,none)]⟩
def ZAJ:C:=.seq (.ops [oB 2 (.mov (iN 0))]) (.seq (.block 0 (.seq (.ops [oB 4 (.mov (.t 0)),oB 5 (.bin .lss (.t 4) (iN 0)),oB 3 (.mov (.t 5))]) (.cond (.t 3) (.seq (.ops [oB 2 (.mov (iN 10))]) (.ret)) (.seq (.ops [oB 7 (.mov (.t 0)),oB 8 (.bin .gtr (.t 7) (iN 1099511627775)),oB 6 (.mov (.t 8))]) (.cond (.t 6) (.seq (.ops [oB 2 (.mov (iN 11))]) (.ret)) (.skip)))))) (.seq (.ops [oB 2 (.mov (iN 0))]) (.ret)))
def Zwa:FnI:=⟨1,ZAJ,[(2,none)]⟩
def ZBT:C:=.seq (.ops [oB 2 (.mov (iN 0))]) (.seq (.cond bF (.seq (.ops [oB 3 (.mov (.t 0)),oB 4 (.conv .u32 (.t 3)),oB 5 (.call 120 [(.t 4)]),oB 2 (.mov (.t 5))]) (.ret)) (.skip)) (.seq (.ops [oB 6 (.mov (.t 0)),oB 7 (.call 121 [(.t 6)]),oB 2 (.mov (.t 7))]) (.ret)))
def ZvU:FnI:=⟨1,ZBT,[(2,none)]⟩
def ZBG:C:=.seq (.ops [oB 2 (.mov (iN 0))]) (.seq (.cond bF (.seq (.ops [oB 3 (.mov (.t 0)),oB 4 (.conv .u32 (.t 3)),oB 5 (.call 122 [(.t 4)]),oB 2 (.mov (.t 5))]) (.ret)) (.skip)) (.seq (.ops [oB 6 (.mov (.t 0)),oB 7 (.call 123 [(.t 6)]),oB 2 (.mov (.t 7))]) (.ret)))
def Zvi:FnI:=⟨1,ZBG,[(2,none)]⟩
def ZtL:C:=.seq (.ops [oB 9 (.bin .lss (.t 8) (.t 7))]) (.seq (.cond (.t 9) (.skip) (.exit 0)) (.seq (.block 1 (.seq (.ops [oB 10 (.mov (.t 8)),oB 5 (.mov (.t 10))]) (.seq (.ops [oB 11 (.mov (.t 1)),oB 12 (.mov (.t 0)),oB 13 (.mov (.t 5)),oB 14 (.iaddr 3 (.t 12) (.t 13)),oB 15 (.load 3 true (.t 14)),oB 16 (.callv (.t 11) [(.t 15)])]) (.cond (.t 16) (.seq (.ops [oB 17 (.mov (.t 5)),oB 4 (.mov (.t 17))]) (.ret)) (.skip))))) (.ops [oB 18 (.bin .add (.t 8) (iN 1)),oB 8 (.mov (.t 18))])))
def ZAL:C:=.seq (.ops [oB 4 (.mov (iN 0))]) (.seq (.seq (.ops [oB 6 (.mov (.t 0)),oB 7 (.len (.t 6)),oB 8 (.mov (iN 0))]) (.block 0 (.loop [0,1,7,8] [4] ZtL))) (.seq (.ops [oB 4 (.mov (iN (-1)))]) (.ret)))
def Zxf:FnI:=⟨2,ZAL,[(4,none)]⟩
def ZtJ:C:=.seq (.ops [oB 9 (.bin .lss (.t 8) (.t 7))]) (.seq (.cond (.t 9) (.skip) (.exit 0)) (.seq (.block 1 (.seq (.ops [oB 10 (.mov (.t 8)),oB 5 (.mov (.t 10))]) (.seq (.draw [oB 11 (.load 2 true (.t 3)),oM 12 (.mov (.t 0)) [0],oM 13 (.mov (.t 5)) [0,1],oM 14 (.iaddr 2 (.t 12) (.t 13)) [0],oM 15 (.load 2 true (.t 14)) [0],oB 16 (.eqv [false,false] false (.t 11) (.t 15))]) (.cond (.t 16) (.seq (.ops [oB 17 (.mov (.t 5)),oB 4 (.mov (.t 17))]) (.ret)) (.skip))))) (.ops [oB 18 (.bin .add (.t 8) (iN 1)),oB 8 (.mov (.t 18))])))
def ZAD:C:=.seq (.ops [oB 3 (.box (.t 1)),oB 4 (.mov (iN 0))]) (.seq (.seq (.ops [oB 6 (.mov (.t 0)),oB 7 (.len (.t 6)),oB 8 (.mov (iN 0))]) (.block 0 (.loop [0,3,7,8] [4] ZtJ))) (.seq (.ops [oB 4 (.mov (iN (-1)))]) (.ret)))
def Zxs:FnI:=⟨2,ZAD,[(4,none)]⟩
def ZtI:C:=.seq (.ops [oB 9 (.bin .lss (.t 8) (.t 7))]) (.seq (.cond (.t 9) (.skip) (.exit 0)) (.seq (.block 1 (.seq (.ops [oB 10 (.mov (.t 8)),oB 5 (.mov (.t 10))]) (.seq (.ops [oB 11 (.mov (.t 1)),oB 12 (.mov (.t 0)),oB 13 (.mov (.t 5)),oB 14 (.iaddr 3 (.t 12) (.t 13)),oB 15 (.load 3 true (.t 14)),oB 16 (.callv (.t 11) [(.t 15)])]) (.cond (.t 16) (.seq (.ops [oB 17 (.mov (.t 5)),oB 4 (.mov (.t 17))]) (.ret)) (.skip))))) (.ops [oB 18 (.bin .add (.t 8) (iN 1)),oB 8 (.mov (.t 18))])))
def ZBE:C:=.seq (.ops [oB 4 (.mov (iN 0))]) (.seq (.seq (.ops [oB 6 (.mov (.t 0)),oB 7 (.len (.t 6)),oB 8 (.mov (iN 0))]) (.block 0 (.loop [0,1,7,8] [4] ZtI))) (.seq (.ops [oB 4 (.mov (iN (-1)))]) (.ret)))
def Zv2:FnI:=⟨2,ZBE,[(4,none)]⟩
def Ztn:C:=.seq (.ops [oB 9 (.bin .lss (.t 8) (.t 7))]) (.seq (.cond (.t 9) (.skip) (.exit 0)) (.seq (.block 1 (.seq (.ops [oB 10 (.mov (.t 8)),oB 5 (.mov (.t 10))]) (.seq (.ops [oB 11 (.mov (.t 1)),oB 12 (.mov (.t 0)),oB 13 (.mov (.t 5)),oB 14 (.iaddr 1 (.t 12) (.t 13)),oB 15 (.load 1 false (.t 14)),oB 16 (.bin .eql (.t 11) (.t 15))]) (.cond (.t 16) (.seq (.ops [oB 17 (.mov (.t 5)),oB 4 (.mov (.t 17))]) (.ret)) (.skip))))) (.ops [oB 18 (.bin .add (.t 8) (iN 1)),oB 8 (.mov (.t 18))])))
def ZAZ:C:=.seq (.ops [oB 4 (.mov (iN 0))]) (.seq (.seq (.ops [oB 6 (.mov (.t 0)),oB 7 (.len (.t 6)),oB 8 (.mov (iN 0))]) (.block 0 (.loop [0,1,7,8] [4] Ztn))) (.seq (.ops [oB 4 (.mov (iN (-1)))]) (.ret)))
def Zw4:FnI:=⟨2,ZAZ,[(4,none)]⟩
def Zqv:C:=.seq (.ops [oB 9 (.bin .lss (.t 8) (.t 7))]) (.seq (.cond (.t 9) (.skip) (.exit 0)) (.seq (.block 1 (.seq (.ops [oB 10 (.mov (.t 8)),oB 5 (.mov (.t 10))]) (.seq (.ops [oB 11 (.mov (.t 1)),oB 12 (.mov (.t 0)),oB 13 (.mov (.t 5)),oB 14 (.iaddr 1 (.t 12) (.t 13)),oB 15 (.load 1 false (.t 14)),oB 16 (.callv (.t 11) [(.t 15)])]) (.cond (.t 16) (.seq (.ops [oB 17 (.mov (.t 5)),oB 4 (.mov (.t 17))]) (.ret)) (.skip))))) (.ops [oB 18 (.bin .add (.t 8) (iN 1)),oB 8 (.mov (.t 18))])))
def ZBM:C:=.seq (.ops [oB 4 (.mov (iN 0))]) (.seq (.seq (.ops [oB 6 (.mov (.t 0)),oB 7 (.len (.t 6)),oB 8 (.mov (iN 0))]) (.block 0 (.loop [0,1,7,8] [4] Zqv))) (.seq (.ops [oB 4 (.mov (iN (-1)))]) (.ret)))
def Zud:FnI:=⟨2,ZBM,[(4,none)]⟩
def ZBH:C:=.seq (.ops [oB 5 (.mov (.t 0)),oB 6 (.len (.t 5)),oB 4 (.mov (.t 6))]) (.ops [oB 7 (.mov (.t 0)),oB 8 (.mov (.t 4)),oB 9 (.mov (.t 4)),oB 10 (.conv .u64 (.t 9)),oB 11 (.call 125 [(.t 10)]),oB 12 (.mov (.t 1)),oB 13 (.call 124 [(.t 7),(iN 0),(.t 8),(.t 11),(.t 12)])])
def Zvc:FnI:=⟨2,ZBH,[]⟩
def ZBS:C:=.seq (.ops [oB 5 (.mov (iN 0))]) (.seq (.draw [oB 6 (.faddr 4 (.t 2)),oB 7 (.load 1 false (.t 6)),oM 8 (.mov (.t 0)) [0,1],oB 9 (.iaddr 3 (.t 7) (.t 8)),oB 10 (.faddr 2 (.t 9)),oB 11 (.load 1 false (.t 10)),oM 12 (.faddr 4 (.t 2)) [0,1,2,3,4,5],oM 13 (.load 1 false (.t 12)) [0,1,2,3,4,5],oM 14 (.mov (.t 1)) [0,1,2,3,4,5,6,7],oM 15 (.iaddr 3 (.t 13) (.t 14)) [0,1,2,3,4,5],oM 16 (.faddr 2 (.t 15)) [0,1,2,3,4,5],oM 17 (.load 1 false (.t 16)) [0,1,2,3,4,5],oB 18 (.bin .sub (.t 11) (.t 17)),oB 5 (.mov (.t 18))]) (.ret))
def ZwB:FnI:=⟨3,ZBS,[(5,none)]⟩
def ZxK:C:=.seq (.seq (.ops [oB 7 (.mov (.t 3)),oB 8 (.bin .geq (.t 7) (iN 0))]) (.cond (.t 8) (.skip) (.exit 0))) (.seq (.block 1 (.seq (.ops [oB 11 (.mov (.t 0)),oB 12 (.mov (.t 3)),oB 13 (.load 1 false (.t 1)),oB 14 (.mov (.t 3)),oB 15 (.iaddr 2 (.t 13) (.t 14)),oB 16 (.load 2 true (.t 15)),oB 17 (.callv (.t 11) [(.t 12),(.t 16)]),oB 18 (.un .not (.t 17))]) (.cond (.t 18) (.ret) (.skip)))) (.ops [oB 9 (.mov (.t 3)),oB 10 (.bin .sub (.t 9) (iN 1)),oB 3 (.mov (.t 10))]))
def ZA7:C:=.seq (.ops [oB 4 (.load 1 false (.t 1)),oB 5 (.len (.t 4)),oB 6 (.bin .sub (.t 5) (iN 1)),oB 3 (.mov (.t 6))]) (.block 0 (.loop [0,1,3] [] ZxK))
def ZyR:FnI:=⟨2,ZA7,[]⟩
def ZB2:C:=.seq (.ops [oB 2 (.mov (iN 0))]) (.seq (.draw [oB 3 (.mov (.t 0)),oB 4 (.bin .shr (.t 3) (.c (.d (.int .u64 24)))),oB 5 (.indexS (.c (.d (.str ⟨#[0,1,1,2,1,2,2,3,1,2,2,3,2,3,3,4,1,2,2,3,2,3,3,4,2,3,3,4,3,4,4,5,1,2,2,3,2,3,3,4,2,3,3,4,3,4,4,5,2,3,3,4,3,4,4,5,3,4,4,5,4,5,5,6,1,2,2,3,2,3,3,4,2,3,3,4,3,4,4,5,2,3,3,4,3,4,4,5,3,4,4,5,4,5,5,6,2,3,3,4,3,4,4,5,3,4,4,5,4,5,5,6,3,4,4,5,4,5,5,6,4,5,5,6,5,6,6,7,1,2,2,3,2,3,3,4,2,3,3,4,3,4,4,5,2,3,3,4,3,4,4,5,3,4,4,5,4,5,5,6,2,3,3,4,3,4,4,5,3,4,4,5,4,5,5,6,3,4,4,5,4,5,5,6,4,5,5,6,5,6,6,7,2,3,3,4,3,4,4,5,3,4,4,5,4,5,5,6,3,4,4,5,4,5,5,6,4,5,5,6,5,6,6,7,3,4,4,5,4,5,5,6,4,5,5,6,5,6,6,7,4,5,5,6,5,6,6,7,5,6,6,7,6,7,7,8]⟩))) (.t 4)),oM 6 (.mov (.t 0)) [0,1,2],oM 7 (.bin .shr (.t 6) (.c (.d (.int .u64 16)))) [0,1,2],oM 8 (.bin .and (.t 7) (.c (.d (.int .u32 255)))) [0,1,2],oM 9 (.indexS (.c (.d (.str ⟨#[0,1,1,2,1,2,2,3,1,2,2,3,2,3,3,4,1,2,2,3,2,3,3,4,2,3,3,4,3,4,4,5,1,2,2,3,2,3,3,4,2,3,3,4,3,4,4,5,2,3,3,4,3,4,4,5,3,4,4,5,4,5,5,6,1,2,2,3,2,3,3,4,2,3,3,4,3,4,4,5,2,3,3,4,3,4,4,5,3,4,4,5,4,5,5,6,2,3,3,4,3,4,4,5,3,4,4,5,4,5,5,6,3,4,4,5,4,5,5,6,4,5,5,6,5,6,6,7,1,2,2,3,2,3,3,4,2,3,3,4,3,4,4,5,2,3,3,4,3,4,4,5,3,4,4,5,4,5,5,6,2,3,3,4,3,4,4,5,3,4,4,5,4,5,5,6,3,4,4,5,4,5,5,6,4,5,5,6,5,6,6,7,2,3,3,4,3,4,4,5,3,4,4,5,4,5,5,6,3,4,4,5,4,5,5,6,4,5,5,6,5,6,6,7,3,4,4,5,4,5,5,6,4,5,5,6,5,6,6,7,4,5,5,6,5,6,6,7,5,6,6,7,6,7,7,8]⟩))) (.t 8)) [0,1,2],oB 10 (.bin .add (.t 5) (.t 9)),oM 11 (.mov (.t 0)) [0,1,2,3,4,5,6,7],oM 12 (.bin .shr (.t 11) (.c (.d (.int .u64 8)))) [0,1,2,3,4,5,6,7],oM 13 (.bin .and (.t 12) (.c (.d (.int .u32 255)))) [0,1,2,3,4,5,6,7],oM 14 (.indexS (.c (.d (.str ⟨#[0,1,1,2,1,2,2,3,1,2,2,3,2,3,3,4,1,2,2,3,2,3,3,4,2,3,3,4,3,4,4,5,1,2,2,3,2,3,3,4,2,3,3,4,3,4,4,5,2,3,3,4,3,4,4,5,3,4,4,5,4,5,5,6,1,2,2,3,2,3,3,4,2,3,3,4,3,4,4,5,2,3,3,4,3,4,4,5,3,4,4,5,4,5,5,6,2,3,3,4,3,4,4,5,3,4,4,5,4,5,5,6,3,4,4,5,4,5,5,6,4,5,5,6,5,6,6,7,1,2,2,3,2,3,3,4,2,3,3,4,3,4,4,5,2,3,3,4,3,4,4,5,3,4,4,5,4,5,5,6,2,3,3,4,3,4,4,5,3,4,4,5,4,5,5,6,3,4,4,5,4,5,5,6,4,5,5,6,5,6,6,7,2,3,3,4,3,4,4,5,3,4,4,5,4,5,5,6,3,4,4,5,4,5,5,6,4,5,5,6,5,6,6,7,3,4,4,5,4,5,5,6,4,5,5,6,5,6,6,7,4,5,5,6,5,6,6,7,5,6,6,7,6,7,7,8]⟩))) (.t 13)) [0,1,2,3,4,5,6,7],oB 15 (.bin .add (.t 10) (.t 14)),oM 16 (.mov (.t 0)) [0,1,2,3,4,5,6,7,8,9,10,11,12],oM 17 (.bin .and (.t 16) (.c (.d (.int .u32 255)))) [0,1,2,3,4,5,6,7,8,9,10,11,12],oM 18 (.indexS (.c (.d (.str ⟨#[0,1,1,2,1,2,2,3,1,2,2,3,2,3,3,4,1,2,2,3,2,3,3,4,2,3,3,4,3,4,4,5,1,2,2,3,2,3,3,4,2,3,3,4,3,4,4,5,2,3,3,4,3,4,4,5,3,4,4,5,4,5,5,6,1,2,2,3,2,3,3,4,2,3,3,4,3,4,4,5,2,3,3,4,3,4,4,5,3,4,4,5,4,5,5,6,2,3,3,4,3,4,4,5,3,4,4,5,4,5,5,6,3,4,4,5,4,5,5,6,4,5,5,6,5,6,6,7,1,2,2,3,2,3,3,4,2,3,3,4,3,4,4,5,2,3,3,4,3,4,4,5,3,4,4,5,4,5,5,6,2,3,3,4,3,4,4,5,3,4,4,5,4,5,5,6,3,4,4,5,4,5,5,6,4,5,5,6,5,6,6,7,2,3,3,4,3,4,4,5,3,4,4,5,4,5,5,6,3,4,4,5,4,5,5,6,4,5,5,6,5,6,6,7,3,4,4,5,4,5,5,6,4,5,5,6,5,6,6,7,4,5,5,6,5,6,6,7,5,6,6,7,6,7,7,8]⟩))) (.t 17)) [0,1,2,3,4,5,6,7,8,9,10,11,12],oB 19 (.bin .add (.t 15) (.t 18)),oB 20 (.conv .i64 (.t 19)),oB 2 (.mov (.t 20))]) (.ret))
def ZyP:FnI:=⟨1,ZB2,[(2,none)]⟩
def ZAv:C:=.seq (.ops [oB 2 (.mov (iN 0))]) (.seq (.ops [oB 3 (.mov (.t 0)),oB 4 (.bin .shr (.t 3) (.c (.d (.int .u64 1)))),oB 5 (.bin .and (.t 4) (.c (.d (.int .u64 6148914691236517205)))),oB 6 (.mov (.t 0)),oB 7 (.bin .and (.t 6) (.c (.d (.int .u64 6148914691236517205)))),oB 8 (.bin .add (.t 5) (.t 7)),oB 0 (.mov (.t 8))]) (.seq (.ops [oB 9 (.mov (.t 0)),oB 10 (.bin .shr (.t 9) (.c (.d (.int .u64 2)))),oB 11 (.bin .and (.t 10) (.c (.d (.int .u64 3689348814741910323)))),oB 12 (.mov (.t 0)),oB 13 (.bin .and (.t 12) (.c (.d (.int .u64 3689348814741910323)))),oB 14 (.bin .add (.t 11) (.t 13)),oB 0 (.mov (.t 14))]) (.seq (.ops [oB 15 (.mov (.t 0)),oB 16 (.bin .shr (.t 15) (.c (.d (.int .u64 4)))),oB 17 (.mov (.t 0)),oB 18 (.bin .add (.t 16) (.t 17)),oB 19 (.bin .and (.t 18) (.c (.d (.int .u64 1085102592571150095)))),oB 0 (.mov (.t 19))]) (.seq (.ops [oB 20 (.mov (.t 0)),oB 21 (.mov (.t 0)),oB 22 (.bin .shr (.t 21) (.c (.d (.int .u64 8)))),oB 23 (.bin .add (.t 20) (.t 22)),oB 0 (.mov (.t 23))]) (.seq (.ops [oB 24 (.mov (.t 0)),oB 25 (.mov (.t 0)),oB 26 (.bin .shr (.t 25) (.c (.d (.int .u64 16)))),oB 27 (.bin .add (.t 24) (.t 26)),oB 0 (.mov (.t 27))]) (.seq (.ops [oB 28 (.mov (.t 0)),oB 29 (.mov (.t 0)),oB 30 (.bin .shr (.t 29) (.c (.d (.int .u64 32)))),oB 31 (.bin .add (.t 28) (.t 30)),oB 0 (.mov (.t 31))]) (.seq (.ops [oB 32 (.mov (.t 0)),oB 33 (.conv .i64 (.t 32)),oB 34 (.bin .and (.t 33) (iN 127)),oB 2 (.mov (.t 34))]) (.ret))))))))
def ZvB:FnI:=⟨1,ZAv,[(2,none)]⟩
def ZBP:C:=.seq (.ops [oB 2 (.mov (iN 0))]) (.seq (.seq (.ops [oB 3 (.mov (.t 0)),oB 4 (.bin .eql (.t 3) (.c (.d (.int .u32 0))))]) (.cond (.t 4) (.seq (.ops [oB 2 (.mov (iN 32))]) (.ret)) (.skip))) (.seq (.ops [oB 5 (.mov (.t 0)),oB 6 (.mov (.t 0)),oB 7 (.un .neg (.t 6)),oB 8 (.bin .and (.t 5) (.t 7)),oB 9 (.bin .mul (.t 8) (.c (.d (.int .u32 125613361)))),oB 10 (.bin .shr (.t 9) (.c (.d (.int .u64 27)))),oB 11 (.iaddrA 32 1 (.c (.d (.rptr ZBa))) (.t 10)),oB 12 (.load 1 false (.t 11)),oB 13 (.conv .i64 (.t 12)),oB 2 (.mov (.t 13))]) (.ret)))
def ZyD:FnI:=⟨1,ZBP,[(2,none)]⟩
def ZBA:C:=.seq (.ops [oB 2 (.mov (iN 0))]) (.seq (.seq (.ops [oB 3 (.mov (.t 0)),oB 4 (.bin .eql (.t 3) (.c (.d (.int .u64 0))))]) (.cond (.t 4) (.seq (.ops [oB 2 (.mov (iN 64))]) (.ret)) (.skip))) (.seq (.ops [oB 5 (.mov (.t 0)),oB 6 (.mov (.t 0)),oB 7 (.un .neg (.t 6)),oB 8 (.bin .and (.t 5) (.t 7)),oB 9 (.bin .mul (.t 8) (.c (.d (.int .u64 285870213051353865)))),oB 10 (.bin .shr (.t 9) (.c (.d (.int .u64 58)))),oB 11 (.iaddrA 64 1 (.c (.d (.rptr Zwn))) (.t 10)),oB 12 (.load 1 false (.t 11)),oB 13 (.conv .i64 (.t 12)),oB 2 (.mov (.t 13))]) (.ret)))
def ZwI:FnI:=⟨1,ZBA,[(2,none)]⟩
def ZtR:C:=.block 1 (.seq (.ops [oB 21 (.mov (.t 2)),oB 22 (.mov (.t 1)),oB 23 (.bin .sub (.t 21) (.t 22)),oB 12 (.mov (.t 23))]) (.seq (.seq (.ops [oB 24 (.mov (.t 12)),oB 25 (.bin .leq (.t 24) (iN 12))]) (.cond (.t 25) (.seq (.ops [oB 26 (.mov (.t 0)),oB 27 (.mov (.t 1)),oB 28 (.mov (.t 2)),oB 29 (.mov (.t 4)),oB 30 (.call 126 [(.t 26),(.t 27),(.t 28),(.t 29)])]) (.ret)) (.skip))) (.seq (.seq (.ops [oB 31 (.mov (.t 3)),oB 32 (.bin .eql (.t 31) (iN 0))]) (.cond (.t 32) (.seq (.ops [oB 33 (.mov (.t 0)),oB 34 (.mov (.t 1)),oB 35 (.mov (.t 2)),oB 36 (.mov (.t 4)),oB 37 (.call 127 [(.t 33),(.t 34),(.t 35),(.t 36)])]) (.ret)) (.skip))) (.seq (.seq (.ops [oB 38 (.mov (.t 10)),oB 39 (.un .not (.t 38))]) (.cond (.t 39) (.seq (.ops [oB 40 (.mov (.t 0)),oB 41 (.mov (.t 1)),oB 42 (.mov (.t 2)),oB 43 (.mov (.t 4)),oB 44 (.call 128 [(.t 40),(.t 41),(.t 42),(.t 43)])]) (.ops [oB 45 (.mov (.t 3)),oB 46 (.bin .sub (.t 45) (iN 1)),oB 3 (.mov (.t 46))])) (.skip))) (.seq (.ops [oB 48 (.mov (.t 0)),oB 49 (.mov (.t 1)),oB 50 (.mov (.t 2)),oB 51 (.mov (.t 4)),oB 52 (.call 129 [(.t 48),(.t 49),(.t 50),(.t 51)]),oB 47 (.mov (.t 52)),oB 53 (.extract (.t 47) 0),oB 54 (.extract (.t 47) 1),oB 13 (.mov (.t 53)),oB 14 (.mov (.t 54))]) (.seq (.seq (.ops [oB 55 (.mov (.t 14)),oB 56 (.bin .eql (.t 55) (iN 2))]) (.cond (.t 56) (.seq (.ops [oB 57 (.mov (.t 0)),oB 58 (.mov (.t 1)),oB 59 (.mov (.t 2)),oB 60 (.mov (.t 4)),oB 61 (.call 130 [(.t 57),(.t 58),(.t 59),(.t 60)])]) (.seq (.ops [oB 62 (.mov (.t 2)),oB 63 (.bin .sub (.t 62) (iN 1)),oB 64 (.mov (.t 13)),oB 65 (.mov (.t 1)),oB 66 (.bin .sub (.t 64) (.t 65)),oB 67 (.bin .sub (.t 63) (.t 66)),oB 13 (.mov (.t 67))]) (.ops [oB 14 (.mov (iN 1))]))) (.skip))) (.seq (.seq (.ops [oB 68 (.mov (.t 10)),oB 69 (.mov (.t 68)),oG 70 (.mov (.t 11)) 69 true,oB 71 (.pick (.t 69) (.t 70) bF),oB 72 (.mov (.t 71)),oG 73 (.mov (.t 14)) 72 true,oG 74 (.bin .eql (.t 73) (iN 1)) 72 true,oB 75 (.pick (.t 72) (.t 74) bF)]) (.cond (.t 75) (.seq (.ops [oB 76 (.mov (.t 0)),oB 77 (.mov (.t 1)),oB 78 (.mov (.t 2)),oB 79 (.mov (.t 4)),oB 80 (.call 131 [(.t 76),(.t 77),(.t 78),(.t 79)])]) (.cond (.t 80) (.ret) (.skip))) (.skip))) (.seq (.seq (.draw [oB 81 (.mov (.t 1)),oB 82 (.bin .gtr (.t 81) (iN 0)),oB 83 (.mov (.t 82)),oG 84 (.mov (.t 4)) 83 true,⟨some 85,.mov (.t 0),some (83,true),[3],0⟩,⟨some 86,.mov (.t 1),some (83,true),[3,4],0⟩,⟨some 87,.bin .sub (.t 86) (iN 1),some (83,true),[3,4],0⟩,⟨some 88,.iaddr 1 (.t 85) (.t 87),some (83,true),[3],0⟩,⟨some 89,.load 1 false (.t 88),some (83,true),[3],0⟩,⟨some 90,.mov (.t 0),some (83,true),[3,4,5,6,7,8],0⟩,⟨some 91,.mov (.t 13),some (83,true),[3,4,5,6,7,8,9],0⟩,⟨some 92,.iaddr 1 (.t 90) (.t 91),some (83,true),[3,4,5,6,7,8],0⟩,⟨some 93,.load 1 false (.t 92),some (83,true),[3,4,5,6,7,8],0⟩,oG 94 (.callv (.t 84) [(.t 89),(.t 93)]) 83 true,oG 95 (.bin .lss (.t 94) (iN 0)) 83 true,oG 96 (.un .not (.t 95)) 83 true,oB 97 (.pick (.t 83) (.t 96) bF)]) (.cond (.t 97) (.seq (.ops [oB 98 (.mov (.t 0)),oB 99 (.mov (.t 1)),oB 100 (.mov (.t 2)),oB 101 (.mov (.t 13)),oB 102 (.mov (.t 4)),oB 103 (.call 132 [(.t 98),(.t 99),(.t 100),(.t 101),(.t 102)]),oB 15 (.mov (.t 103))]) (.seq (.ops [oB 104 (.mov (.t 15)),oB 1 (.mov (.t 104))]) (.exit 1))) (.skip))) (.seq (.ops [oB 106 (.mov (.t 0)),oB 107 (.mov (.t 1)),oB 108 (.mov (.t 2)),oB 109 (.mov (.t 13)),oB 110 (.mov (.t 4)),oB 111 (.call 133 [(.t 106),(.t 107),(.t 108),(.t 109),(.t 110)]),oB 105 (.mov (.t 111)),oB 112 (.extract (.t 105) 0),oB 113 (.extract (.t 105) 1),oB 16 (.mov (.t 112)),oB 17 (.mov (.t 113))]) (.seq (.ops [oB 114 (.mov (.t 17)),oB 11 (.mov (.t 114))]) (.seq (.ops [oB 115 (.mov (.t 16)),oB 116 (.mov (.t 1)),oB 117 (.bin .sub (.t 115) (.t 116)),oB 118 (.mov (.t 2)),oB 119 (.mov (.t 16)),oB 120 (.bin .sub (.t 118) (.t 119)),oB 18 (.mov (.t 117)),oB 19 (.mov (.t 120))]) (.seq (.ops [oB 121 (.mov (.t 12)),oB 122 (.bin .quo (.t 121) (iN 8)),oB 20 (.mov (.t 122))]) (.seq (.ops [oB 123 (.mov (.t 18)),oB 124 (.mov (.t 19)),oB 125 (.bin .lss (.t 123) (.t 124))]) (.cond (.t 125) (.seq (.ops [oB 126 (.mov (.t 18)),oB 127 (.mov (.t 20)),oB 128 (.bin .geq (.t 126) (.t 127)),oB 10 (.mov (.t 128))]) (.seq (.ops [oB 129 (.mov (.t 0)),oB 130 (.mov (.t 1)),oB 131 (.mov (.t 16)),oB 132 (.mov (.t 3)),oB 133 (.mov (.t 4)),oB 134 (.call 124 [(.t 129),(.t 130),(.t 131),(.t 132),(.t 133)])]) (.ops [oB 135 (.mov (.t 16)),oB 136 (.bin .add (.t 135) (iN 1)),oB 1 (.mov (.t 136))]))) (.seq (.ops [oB 137 (.mov (.t 19)),oB 138 (.mov (.t 20)),oB 139 (.bin .geq (.t 137) (.t 138)),oB 10 (.mov (.t 139))]) (.seq (.ops [oB 140 (.mov (.t 0)),oB 141 (.mov (.t 16)),oB 142 (.bin .add (.t 141) (iN 1)),oB 143 (.mov (.t 2)),oB 144 (.mov (.t 3)),oB 145 (.mov (.t 4)),oB 146 (.call 124 [(.t 140),(.t 142),(.t 143),(.t 144),(.t 145)])]) (.ops [oB 147 (.mov (.t 16)),oB 2 (.mov (.t 147))])))))))))))))))))
def ZAt:C:=.seq (.ops [oB 10 (.mov bT)]) (.seq (.ops [oB 11 (.mov bT)]) (.block 0 (.loop [0,1,2,3,4,10,11] [] ZtR)))
def Zxr:FnI:=⟨5,ZAt,[]⟩
def ZAN:C:=.seq (.ops [oB 2 (.mov (iN 0))]) (.seq (.cond bF (.seq (.ops [oB 3 (.mov (.t 0)),oB 4 (.conv .u32 (.t 3)),oB 5 (.call 134 [(.t 4)]),oB 2 (.mov (.t 5))]) (.ret)) (.skip)) (.seq (.ops [oB 6 (.mov (.t 0)),oB 7 (.call 135 [(.t 6)]),oB 2 (.mov (.t 7))]) (.ret)))
def Zwj:FnI:=⟨1,ZAN,[(2,none)]⟩
def Zty:C:=.seq (.seq (.draw [oB 18 (.mov (.t 9)),oM 19 (.mov (.t 1)) [0],oB 20 (.bin .gtr (.t 18) (.t 19)),oB 21 (.mov (.t 20)),oG 22 (.mov (.t 3)) 21 true,⟨some 23,.mov (.t 0),some (21,true),[4],0⟩,⟨some 24,.mov (.t 9),some (21,true),[4,5],0⟩,⟨some 25,.iaddr 1 (.t 23) (.t 24),some (21,true),[4],0⟩,⟨some 26,.load 1 false (.t 25),some (21,true),[4],0⟩,⟨some 27,.mov (.t 0),some (21,true),[4,5,6,7,8],0⟩,⟨some 28,.mov (.t 9),some (21,true),[4,5,6,7,8,9],0⟩,⟨some 29,.bin .sub (.t 28) (iN 1),some (21,true),[4,5,6,7,8,9],0⟩,⟨some 30,.iaddr 1 (.t 27) (.t 29),some (21,true),[4,5,6,7,8],0⟩,⟨some 31,.load 1 false (.t 30),some (21,true),[4,5,6,7,8],0⟩,oG 32 (.callv (.t 22) [(.t 26),(.t 31)]) 21 true,oG 33 (.bin .lss (.t 32) (iN 0)) 21 true,oB 34 (.pick (.t 21) (.t 33) bF)]) (.cond (.t 34) (.skip) (.exit 2))) (.seq (.block 3 (.draw [oB 37 (.mov (.t 0)),oM 38 (.mov (.t 9)) [0],oM 39 (.mov (.t 0)) [0,1],oM 40 (.mov (.t 9)) [0,1,2],oM 41 (.bin .sub (.t 40) (iN 1)) [0,1,2],oM 42 (.mov (.t 0)) [0,1,2,3,4],oM 43 (.mov (.t 9)) [0,1,2,3,4,5],oM 44 (.bin .sub (.t 43) (iN 1)) [0,1,2,3,4,5],oM 45 (.iaddr 1 (.t 42) (.t 44)) [0,1,2,3,4],oM 46 (.load 1 false (.t 45)) [0,1,2,3,4],oM 47 (.mov (.t 0)) [0,1,2,3,4,5,6,7,8,9],oM 48 (.mov (.t 9)) [0,1,2,3,4,5,6,7,8,9,10],oM 49 (.iaddr 1 (.t 47) (.t 48)) [0,1,2,3,4,5,6,7,8,9],oM 50 (.load 1 false (.t 49)) [0,1,2,3,4,5,6,7,8,9],oM 51 (.iaddr 1 (.t 37) (.t 38)) [2,3,4],⟨none,.store 1 (.t 51) (.t 46),none,[],3⟩,oB 52 (.iaddr 1 (.t 39) (.t 41)),⟨none,.store 1 (.t 52) (.t 50),none,[],3⟩])) (.ops [oB 35 (.mov (.t 9)),oB 36 (.bin .sub (.t 35) (iN 1)),oB 9 (.mov (.t 36))]))
def Ztv:C:=.seq (.seq (.ops [oB 12 (.mov (.t 8)),oB 13 (.mov (.t 2)),oB 14 (.bin .lss (.t 12) (.t 13))]) (.cond (.t 14) (.skip) (.exit 0))) (.seq (.block 1 (.seq (.ops [oB 17 (.mov (.t 8)),oB 9 (.mov (.t 17))]) (.block 2 (.loop [0,1,2,3,8,9] [0,1,2,3,8] Zty)))) (.ops [oB 15 (.mov (.t 8)),oB 16 (.bin .add (.t 15) (iN 1)),oB 8 (.mov (.t 16))]))
def ZBv:C:=.seq (.ops [oB 10 (.mov (.t 1)),oB 11 (.bin .add (.t 10) (iN 1)),oB 8 (.mov (.t 11))]) (.block 0 (.loop [0,1,2,3,8] [] Ztv))
def ZwA:FnI:=⟨4,ZBv,[]⟩
def ZtQ:C:=.seq (.seq (.ops [oB 20 (.mov (.t 11)),oB 21 (.bin .geq (.t 20) (iN 0))]) (.cond (.t 21) (.skip) (.exit 0))) (.seq (.block 1 (.ops [oB 24 (.mov (.t 0)),oB 25 (.mov (.t 11)),oB 26 (.mov (.t 10)),oB 27 (.mov (.t 8)),oB 28 (.mov (.t 3)),oB 29 (.call 136 [(.t 24),(.t 25),(.t 26),(.t 27),(.t 28)])])) (.ops [oB 22 (.mov (.t 11)),oB 23 (.bin .sub (.t 22) (iN 1)),oB 11 (.mov (.t 23))]))
def ZtE:C:=.seq (.seq (.ops [oB 32 (.mov (.t 12)),oB 33 (.bin .geq (.t 32) (iN 0))]) (.cond (.t 33) (.skip) (.exit 2))) (.seq (.block 3 (.seq (.draw [oB 36 (.mov (.t 0)),oM 37 (.mov (.t 8)) [0],oM 38 (.mov (.t 0)) [0,1],oM 39 (.mov (.t 8)) [0,1,2],oM 40 (.mov (.t 12)) [0,1,2,3],oM 41 (.bin .add (.t 39) (.t 40)) [0,1,2],oM 42 (.mov (.t 0)) [0,1,2,3,4,5],oM 43 (.mov (.t 8)) [0,1,2,3,4,5,6],oM 44 (.mov (.t 12)) [0,1,2,3,4,5,6,7],oM 45 (.bin .add (.t 43) (.t 44)) [0,1,2,3,4,5,6],oM 46 (.iaddr 1 (.t 42) (.t 45)) [0,1,2,3,4,5],oM 47 (.load 1 false (.t 46)) [0,1,2,3,4,5],oM 48 (.mov (.t 0)) [0,1,2,3,4,5,6,7,8,9,10,11],oM 49 (.mov (.t 8)) [0,1,2,3,4,5,6,7,8,9,10,11,12],oM 50 (.iaddr 1 (.t 48) (.t 49)) [0,1,2,3,4,5,6,7,8,9,10,11],oM 51 (.load 1 false (.t 50)) [0,1,2,3,4,5,6,7,8,9,10,11],oM 52 (.iaddr 1 (.t 36) (.t 37)) [2,3,4,5],⟨none,.store 1 (.t 52) (.t 47),none,[],3⟩,oB 53 (.iaddr 1 (.t 38) (.t 41)),⟨none,.store 1 (.t 53) (.t 51),none,[],3⟩]) (.ops [oB 54 (.mov (.t 0)),oB 55 (.mov (.t 9)),oB 56 (.mov (.t 12)),oB 57 (.mov (.t 8)),oB 58 (.mov (.t 3)),oB 59 (.call 136 [(.t 54),(.t 55),(.t 56),(.t 57),(.t 58)])]))) (.ops [oB 34 (.mov (.t 12)),oB 35 (.bin .sub (.t 34) (iN 1)),oB 12 (.mov (.t 35))]))
def ZBz:C:=.seq (.ops [oB 13 (.mov (.t 1)),oB 8 (.mov (.t 13))]) (.seq (.ops [oB 9 (.mov (iN 0))]) (.seq (.ops [oB 14 (.mov (.t 2)),oB 15 (.mov (.t 1)),oB 16 (.bin .sub (.t 14) (.t 15)),oB 10 (.mov (.t 16))]) (.seq (.seq (.ops [oB 17 (.mov (.t 10)),oB 18 (.bin .sub (.t 17) (iN 1)),oB 19 (.bin .quo (.t 18) (iN 2)),oB 11 (.mov (.t 19))]) (.block 0 (.loop [0,3,8,9,10,11] [0,3,8,9,10] ZtQ))) (.seq (.ops [oB 30 (.mov (.t 10)),oB 31 (.bin .sub (.t 30) (iN 1)),oB 12 (.mov (.t 31))]) (.block 2 (.loop [0,3,8,9,12] [] ZtE))))))
def ZwD:FnI:=⟨4,ZBz,[]⟩
def Zt2:C:=.seq (.seq (.ops [oB 28 (.mov (.t 11)),oB 29 (.mov (.t 1)),oB 30 (.mov (.t 8)),oB 31 (.bin .quo (.t 30) (iN 4)),oB 32 (.bin .mul (.t 31) (iN 2)),oB 33 (.bin .add (.t 29) (.t 32)),oB 34 (.bin .add (.t 33) (iN 1)),oB 35 (.bin .leq (.t 28) (.t 34))]) (.cond (.t 35) (.skip) (.exit 0))) (.seq (.block 1 (.seq (.ops [oB 38 (.call 138 [(.t 9)]),oB 39 (.mov (.t 10)),oB 40 (.bin .sub (.t 39) (.c (.d (.int .u64 1)))),oB 41 (.bin .and (.t 38) (.t 40)),oB 42 (.conv .i64 (.t 41)),oB 12 (.mov (.t 42))]) (.seq (.seq (.ops [oB 43 (.mov (.t 12)),oB 44 (.mov (.t 8)),oB 45 (.bin .geq (.t 43) (.t 44))]) (.cond (.t 45) (.ops [oB 46 (.mov (.t 12)),oB 47 (.mov (.t 8)),oB 48 (.bin .sub (.t 46) (.t 47)),oB 12 (.mov (.t 48))]) (.skip))) (.draw [oB 49 (.mov (.t 0)),oM 50 (.mov (.t 11)) [0],oM 51 (.mov (.t 0)) [0,1],oM 52 (.mov (.t 1)) [0,1,2],oM 53 (.mov (.t 12)) [0,1,2,3],oM 54 (.bin .add (.t 52) (.t 53)) [0,1,2],oM 55 (.mov (.t 0)) [0,1,2,3,4,5],oM 56 (.mov (.t 1)) [0,1,2,3,4,5,6],oM 57 (.mov (.t 12)) [0,1,2,3,4,5,6,7],oM 58 (.bin .add (.t 56) (.t 57)) [0,1,2,3,4,5,6],oM 59 (.iaddr 1 (.t 55) (.t 58)) [0,1,2,3,4,5],oM 60 (.load 1 false (.t 59)) [0,1,2,3,4,5],oM 61 (.mov (.t 0)) [0,1,2,3,4,5,6,7,8,9,10,11],oM 62 (.mov (.t 11)) [0,1,2,3,4,5,6,7,8,9,10,11,12],oM 63 (.iaddr 1 (.t 61) (.t 62)) [0,1,2,3,4,5,6,7,8,9,10,11],oM 64 (.load 1 false (.t 63)) [0,1,2,3,4,5,6,7,8,9,10,11],oM 65 (.iaddr 1 (.t 49) (.t 50)) [2,3,4,5],⟨none,.store 1 (.t 65) (.t 60),none,[],3⟩,oB 66 (.iaddr 1 (.t 51) (.t 54)),⟨none,.store 1 (.t 66) (.t 64),none,[],3⟩])))) (.ops [oB 36 (.mov (.t 11)),oB 37 (.bin .add (.t 36) (iN 1)),oB 11 (.mov (.t 37))]))
def ZAg:C:=.seq (.ops [oB 13 (.mov (.t 2)),oB 14 (.mov (.t 1)),oB 15 (.bin .sub (.t 13) (.t 14)),oB 8 (.mov (.t 15))]) (.seq (.ops [oB 16 (.mov (.t 8)),oB 17 (.bin .geq (.t 16) (iN 8))]) (.cond (.t 17) (.seq (.ops [oB 18 (.mov (.t 8)),oB 19 (.conv .u64 (.t 18)),oB 9 (.alloc (.d (.int .u64 0))),oA (.store 1 (.t 9) (.t 19))]) (.seq (.ops [oB 20 (.mov (.t 8)),oB 21 (.call 137 [(.t 20)]),oB 10 (.mov (.t 21))]) (.seq (.ops [oB 22 (.mov (.t 1)),oB 23 (.mov (.t 8)),oB 24 (.bin .quo (.t 23) (iN 4)),oB 25 (.bin .mul (.t 24) (iN 2)),oB 26 (.bin .add (.t 22) (.t 25)),oB 27 (.bin .sub (.t 26) (iN 1)),oB 11 (.mov (.t 27))]) (.block 0 (.loop [0,1,8,9,10,11] [] Zt2))))) (.skip)))
def ZwC:FnI:=⟨4,ZAg,[]⟩
def ZBi:C:=.seq (.ops [oB 8 (.mov (iN 0)),oB 9 (.mov (iN 0))]) (.seq (.ops [oB 15 (.mov (.t 2)),oB 16 (.mov (.t 1)),oB 17 (.bin .sub (.t 15) (.t 16)),oB 10 (.mov (.t 17))]) (.seq (.ops [oB 11 (.alloc (.d (.int .i64 0)))]) (.seq (.ops [oB 18 (.mov (.t 1)),oB 19 (.mov (.t 10)),oB 20 (.bin .quo (.t 19) (iN 4)),oB 21 (.bin .mul (.t 20) (iN 1)),oB 22 (.bin .add (.t 18) (.t 21)),oB 12 (.mov (.t 22))]) (.seq (.ops [oB 23 (.mov (.t 1)),oB 24 (.mov (.t 10)),oB 25 (.bin .quo (.t 24) (iN 4)),oB 26 (.bin .mul (.t 25) (iN 2)),oB 27 (.bin .add (.t 23) (.t 26)),oB 13 (.mov (.t 27))]) (.seq (.ops [oB 28 (.mov (.t 1)),oB 29 (.mov (.t 10)),oB 30 (.bin .quo (.t 29) (iN 4)),oB 31 (.bin .mul (.t 30) (iN 3)),oB 32 (.bin .add (.t 28) (.t 31)),oB 14 (.mov (.t 32))]) (.seq (.seq (.ops [oB 33 (.mov (.t 10)),oB 34 (.bin .geq (.t 33) (iN 8))]) (.cond (.t 34) (.seq (.seq (.ops [oB 35 (.mov (.t 10)),oB 36 (.bin .geq (.t 35) (iN 50))]) (.cond (.t 36) (.seq (.ops [oB 37 (.mov (.t 0)),oB 38 (.mov (.t 12)),oB 39 (.mov (.t 3)),oB 40 (.call 139 [(.t 37),(.t 38),(.t 11),(.t 39)]),oB 12 (.mov (.t 40))]) (.seq (.ops [oB 41 (.mov (.t 0)),oB 42 (.mov (.t 13)),oB 43 (.mov (.t 3)),oB 44 (.call 139 [(.t 41),(.t 42),(.t 11),(.t 43)]),oB 13 (.mov (.t 44))]) (.ops [oB 45 (.mov (.t 0)),oB 46 (.mov (.t 14)),oB 47 (.mov (.t 3)),oB 48 (.call 139 [(.t 45),(.t 46),(.t 11),(.t 47)]),oB 14 (.mov (.t 48))]))) (.skip))) (.ops [oB 49 (.mov (.t 0)),oB 50 (.mov (.t 12)),oB 51 (.mov (.t 13)),oB 52 (.mov (.t 14)),oB 53 (.mov (.t 3)),oB 54 (.call 140 [(.t 49),(.t 50),(.t 51),(.t 52),(.t 11),(.t 53)]),oB 13 (.mov (.t 54))])) (.skip))) (.seq (.ops [oB 55 (.load 1 false (.t 11))]) (.block 0 (.seq (.ops [oB 58 (.bin .eql (.t 55) (iN 0)),oB 57 (.mov (.t 58))]) (.cond (.t 57) (.seq (.ops [oB 59 (.mov (.t 13)),oB 8 (.mov (.t 59)),oB 9 (.mov (iN 1))]) (.ret)) (.seq (.ops [oB 61 (.bin .eql (.t 55) (iN 12)),oB 60 (.mov (.t 61))]) (.cond (.t 60) (.seq (.ops [oB 62 (.mov (.t 13)),oB 8 (.mov (.t 62)),oB 9 (.mov (iN 2))]) (.ret)) (.seq (.ops [oB 56 (.mov (.t 13)),oB 8 (.mov (.t 56)),oB 9 (.mov (iN 0))]) (.ret))))))))))))))
def ZwV:FnI:=⟨4,ZBi,[(8,none),(9,none)]⟩
def Ztq:C:=.seq (.seq (.ops [oB 13 (.mov (.t 8)),oB 14 (.mov (.t 9)),oB 15 (.bin .lss (.t 13) (.t 14))]) (.cond (.t 15) (.skip) (.exit 0))) (.block 1 (.seq (.draw [oB 16 (.mov (.t 0)),oM 17 (.mov (.t 8)) [0],oM 18 (.mov (.t 0)) [0,1],oM 19 (.mov (.t 9)) [0,1,2],oM 20 (.mov (.t 0)) [0,1,2,3],oM 21 (.mov (.t 9)) [0,1,2,3,4],oM 22 (.iaddr 1 (.t 20) (.t 21)) [0,1,2,3],oM 23 (.load 1 false (.t 22)) [0,1,2,3],oM 24 (.mov (.t 0)) [0,1,2,3,4,5,6,7],oM 25 (.mov (.t 8)) [0,1,2,3,4,5,6,7,8],oM 26 (.iaddr 1 (.t 24) (.t 25)) [0,1,2,3,4,5,6,7],oM 27 (.load 1 false (.t 26)) [0,1,2,3,4,5,6,7],oM 28 (.iaddr 1 (.t 16) (.t 17)) [2,3],⟨none,.store 1 (.t 28) (.t 23),none,[],3⟩,oB 29 (.iaddr 1 (.t 18) (.t 19)),⟨none,.store 1 (.t 29) (.t 27),none,[],3⟩]) (.seq (.ops [oB 30 (.mov (.t 8)),oB 31 (.bin .add (.t 30) (iN 1)),oB 8 (.mov (.t 31))]) (.ops [oB 32 (.mov (.t 9)),oB 33 (.bin .sub (.t 32) (iN 1)),oB 9 (.mov (.t 33))]))))
def ZBs:C:=.seq (.ops [oB 10 (.mov (.t 1)),oB 8 (.mov (.t 10))]) (.seq (.ops [oB 11 (.mov (.t 2)),oB 12 (.bin .sub (.t 11) (iN 1)),oB 9 (.mov (.t 12))]) (.block 0 (.loop [0,8,9] [] Ztq)))
def Zwu:FnI:=⟨4,ZBs,[]⟩
def ZtD:C:=.seq (.seq (.draw [oB 19 (.mov (.t 9)),oM 20 (.mov (.t 2)) [0],oB 21 (.bin .lss (.t 19) (.t 20)),oB 22 (.mov (.t 21)),oG 23 (.mov (.t 3)) 22 true,⟨some 24,.mov (.t 0),some (22,true),[4],0⟩,⟨some 25,.mov (.t 9),some (22,true),[4,5],0⟩,⟨some 26,.iaddr 1 (.t 24) (.t 25),some (22,true),[4],0⟩,⟨some 27,.load 1 false (.t 26),some (22,true),[4],0⟩,⟨some 28,.mov (.t 0),some (22,true),[4,5,6,7,8],0⟩,⟨some 29,.mov (.t 9),some (22,true),[4,5,6,7,8,9],0⟩,⟨some 30,.bin .sub (.t 29) (iN 1),some (22,true),[4,5,6,7,8,9],0⟩,⟨some 31,.iaddr 1 (.t 28) (.t 30),some (22,true),[4,5,6,7,8],0⟩,⟨some 32,.load 1 false (.t 31),some (22,true),[4,5,6,7,8],0⟩,oG 33 (.callv (.t 23) [(.t 27),(.t 32)]) 22 true,oG 34 (.bin .lss (.t 33) (iN 0)) 22 true,oG 35 (.un .not (.t 34)) 22 true,oB 36 (.pick (.t 22) (.t 35) bF)]) (.cond (.t 36) (.skip) (.exit 2))) (.block 3 (.ops [oB 37 (.mov (.t 9)),oB 38 (.bin .add (.t 37) (iN 1)),oB 9 (.mov (.t 38))]))
def Zt7:C:=.seq (.seq (.ops [oB 68 (.mov (.t 11)),oB 69 (.bin .geq (.t 68) (iN 1))]) (.cond (.t 69) (.skip) (.exit 4))) (.seq (.block 5 (.seq (.seq (.draw [oB 72 (.mov (.t 3)),oM 73 (.mov (.t 0)) [0],oM 74 (.mov (.t 11)) [0,1],oM 75 (.iaddr 1 (.t 73) (.t 74)) [0],oM 76 (.load 1 false (.t 75)) [0],oM 77 (.mov (.t 0)) [0,1,2,3,4],oM 78 (.mov (.t 11)) [0,1,2,3,4,5],oM 79 (.bin .sub (.t 78) (iN 1)) [0,1,2,3,4,5],oM 80 (.iaddr 1 (.t 77) (.t 79)) [0,1,2,3,4],oM 81 (.load 1 false (.t 80)) [0,1,2,3,4],oB 82 (.callv (.t 72) [(.t 76),(.t 81)]),oB 83 (.bin .lss (.t 82) (iN 0)),oB 84 (.un .not (.t 83))]) (.cond (.t 84) (.exit 4) (.skip))) (.draw [oB 85 (.mov (.t 0)),oM 86 (.mov (.t 11)) [0],oM 87 (.mov (.t 0)) [0,1],oM 88 (.mov (.t 11)) [0,1,2],oM 89 (.bin .sub (.t 88) (iN 1)) [0,1,2],oM 90 (.mov (.t 0)) [0,1,2,3,4],oM 91 (.mov (.t 11)) [0,1,2,3,4,5],oM 92 (.bin .sub (.t 91) (iN 1)) [0,1,2,3,4,5],oM 93 (.iaddr 1 (.t 90) (.t 92)) [0,1,2,3,4],oM 94 (.load 1 false (.t 93)) [0,1,2,3,4],oM 95 (.mov (.t 0)) [0,1,2,3,4,5,6,7,8,9],oM 96 (.mov (.t 11)) [0,1,2,3,4,5,6,7,8,9,10],oM 97 (.iaddr 1 (.t 95) (.t 96)) [0,1,2,3,4,5,6,7,8,9],oM 98 (.load 1 false (.t 97)) [0,1,2,3,4,5,6,7,8,9],oM 99 (.iaddr 1 (.t 85) (.t 86)) [2,3,4],⟨none,.store 1 (.t 99) (.t 94),none,[],3⟩,oB 100 (.iaddr 1 (.t 87) (.t 89)),⟨none,.store 1 (.t 100) (.t 98),none,[],3⟩]))) (.ops [oB 70 (.mov (.t 11)),oB 71 (.bin .sub (.t 70) (iN 1)),oB 11 (.mov (.t 71))]))
def Ztm:C:=.seq (.seq (.ops [oB 107 (.mov (.t 12)),oB 108 (.mov (.t 2)),oB 109 (.bin .lss (.t 107) (.t 108))]) (.cond (.t 109) (.skip) (.exit 6))) (.seq (.block 7 (.seq (.seq (.draw [oB 112 (.mov (.t 3)),oM 113 (.mov (.t 0)) [0],oM 114 (.mov (.t 12)) [0,1],oM 115 (.iaddr 1 (.t 113) (.t 114)) [0],oM 116 (.load 1 false (.t 115)) [0],oM 117 (.mov (.t 0)) [0,1,2,3,4],oM 118 (.mov (.t 12)) [0,1,2,3,4,5],oM 119 (.bin .sub (.t 118) (iN 1)) [0,1,2,3,4,5],oM 120 (.iaddr 1 (.t 117) (.t 119)) [0,1,2,3,4],oM 121 (.load 1 false (.t 120)) [0,1,2,3,4],oB 122 (.callv (.t 112) [(.t 116),(.t 121)]),oB 123 (.bin .lss (.t 122) (iN 0)),oB 124 (.un .not (.t 123))]) (.cond (.t 124) (.exit 6) (.skip))) (.draw [oB 125 (.mov (.t 0)),oM 126 (.mov (.t 12)) [0],oM 127 (.mov (.t 0)) [0,1],oM 128 (.mov (.t 12)) [0,1,2],oM 129 (.bin .sub (.t 128) (iN 1)) [0,1,2],oM 130 (.mov (.t 0)) [0,1,2,3,4],oM 131 (.mov (.t 12)) [0,1,2,3,4,5],oM 132 (.bin .sub (.t 131) (iN 1)) [0,1,2,3,4,5],oM 133 (.iaddr 1 (.t 130) (.t 132)) [0,1,2,3,4],oM 134 (.load 1 false (.t 133)) [0,1,2,3,4],oM 135 (.mov (.t 0)) [0,1,2,3,4,5,6,7,8,9],oM 136 (.mov (.t 12)) [0,1,2,3,4,5,6,7,8,9,10],oM 137 (.iaddr 1 (.t 135) (.t 136)) [0,1,2,3,4,5,6,7,8,9],oM 138 (.load 1 false (.t 137)) [0,1,2,3,4,5,6,7,8,9],oM 139 (.iaddr 1 (.t 125) (.t 126)) [2,3,4],⟨none,.store 1 (.t 139) (.t 134),none,[],3⟩,oB 140 (.iaddr 1 (.t 127) (.t 129)),⟨none,.store 1 (.t 140) (.t 138),none,[],3⟩]))) (.ops [oB 110 (.mov (.t 12)),oB 111 (.bin .add (.t 110) (iN 1)),oB 12 (.mov (.t 111))]))
def ZtN:C:=.seq (.seq (.ops [oB 15 (.mov (.t 10)),oB 16 (.bin .lss (.t 15) (iN 5))]) (.cond (.t 16) (.skip) (.exit 0))) (.seq (.block 1 (.seq (.block 2 (.loop [0,1,2,3,9,10] [0,1,2,3,9,10] ZtD)) (.seq (.seq (.ops [oB 39 (.mov (.t 9)),oB 40 (.mov (.t 2)),oB 41 (.bin .eql (.t 39) (.t 40))]) (.cond (.t 41) (.seq (.ops [oB 8 (.mov bT)]) (.ret)) (.skip))) (.seq (.seq (.ops [oB 42 (.mov (.t 2)),oB 43 (.mov (.t 1)),oB 44 (.bin .sub (.t 42) (.t 43)),oB 45 (.bin .lss (.t 44) (iN 50))]) (.cond (.t 45) (.seq (.ops [oB 8 (.mov bF)]) (.ret)) (.skip))) (.seq (.draw [oB 46 (.mov (.t 0)),oM 47 (.mov (.t 9)) [0],oM 48 (.mov (.t 0)) [0,1],oM 49 (.mov (.t 9)) [0,1,2],oM 50 (.bin .sub (.t 49) (iN 1)) [0,1,2],oM 51 (.mov (.t 0)) [0,1,2,3,4],oM 52 (.mov (.t 9)) [0,1,2,3,4,5],oM 53 (.bin .sub (.t 52) (iN 1)) [0,1,2,3,4,5],oM 54 (.iaddr 1 (.t 51) (.t 53)) [0,1,2,3,4],oM 55 (.load 1 false (.t 54)) [0,1,2,3,4],oM 56 (.mov (.t 0)) [0,1,2,3,4,5,6,7,8,9],oM 57 (.mov (.t 9)) [0,1,2,3,4,5,6,7,8,9,10],oM 58 (.iaddr 1 (.t 56) (.t 57)) [0,1,2,3,4,5,6,7,8,9],oM 59 (.load 1 false (.t 58)) [0,1,2,3,4,5,6,7,8,9],oM 60 (.iaddr 1 (.t 46) (.t 47)) [2,3,4],⟨none,.store 1 (.t 60) (.t 55),none,[],3⟩,oB 61 (.iaddr 1 (.t 48) (.t 50)),⟨none,.store 1 (.t 61) (.t 59),none,[],3⟩]) (.seq (.seq (.ops [oB 62 (.mov (.t 9)),oB 63 (.mov (.t 1)),oB 64 (.bin .sub (.t 62) (.t 63)),oB 65 (.bin .geq (.t 64) (iN 2))]) (.cond (.t 65) (.seq (.ops [oB 66 (.mov (.t 9)),oB 67 (.bin .sub (.t 66) (iN 1)),oB 11 (.mov (.t 67))]) (.block 4 (.loop [0,1,2,3,9,10,11] [0,1,2,3,9,10] Zt7))) (.skip))) (.seq (.ops [oB 101 (.mov (.t 2)),oB 102 (.mov (.t 9)),oB 103 (.bin .sub (.t 101) (.t 102)),oB 104 (.bin .geq (.t 103) (iN 2))]) (.cond (.t 104) (.seq (.ops [oB 105 (.mov (.t 9)),oB 106 (.bin .add (.t 105) (iN 1)),oB 12 (.mov (.t 106))]) (.block 6 (.loop [0,1,2,3,9,10,12] [0,1,2,3,9,10] Ztm))) (.skip))))))))) (.ops [oB 17 (.mov (.t 10)),oB 18 (.bin .add (.t 17) (iN 1)),oB 10 (.mov (.t 18))]))
def ZBb:C:=.seq (.ops [oB 8 (.mov bF)]) (.seq (.ops [oB 13 (.mov (.t 1)),oB 14 (.bin .add (.t 13) (iN 1)),oB 9 (.mov (.t 14))]) (.seq (.seq (.ops [oB 10 (.mov (iN 0))]) (.block 0 (.loop [0,1,2,3,9,10] [8] ZtN))) (.seq (.ops [oB 8 (.mov bF)]) (.ret))))
def Zxc:FnI:=⟨4,ZBb,[(8,none)]⟩
def ZtP:C:=.seq (.seq (.draw [oB 31 (.mov (.t 11)),oM 32 (.mov (.t 12)) [0],oB 33 (.bin .leq (.t 31) (.t 32)),oB 34 (.mov (.t 33)),oG 35 (.mov (.t 4)) 34 true,⟨some 36,.mov (.t 0),some (34,true),[4],0⟩,⟨some 37,.mov (.t 1),some (34,true),[4,5],0⟩,⟨some 38,.iaddr 1 (.t 36) (.t 37),some (34,true),[4],0⟩,⟨some 39,.load 1 false (.t 38),some (34,true),[4],0⟩,⟨some 40,.mov (.t 0),some (34,true),[4,5,6,7,8],0⟩,⟨some 41,.mov (.t 11),some (34,true),[4,5,6,7,8,9],0⟩,⟨some 42,.iaddr 1 (.t 40) (.t 41),some (34,true),[4,5,6,7,8],0⟩,⟨some 43,.load 1 false (.t 42),some (34,true),[4,5,6,7,8],0⟩,oG 44 (.callv (.t 35) [(.t 39),(.t 43)]) 34 true,oG 45 (.bin .lss (.t 44) (iN 0)) 34 true,oG 46 (.un .not (.t 45)) 34 true,oB 47 (.pick (.t 34) (.t 46) bF)]) (.cond (.t 47) (.skip) (.exit 2))) (.block 3 (.ops [oB 48 (.mov (.t 11)),oB 49 (.bin .add (.t 48) (iN 1)),oB 11 (.mov (.t 49))]))
def Zto:C:=.seq (.seq (.draw [oB 50 (.mov (.t 11)),oM 51 (.mov (.t 12)) [0],oB 52 (.bin .leq (.t 50) (.t 51)),oB 53 (.mov (.t 52)),oG 54 (.mov (.t 4)) 53 true,⟨some 55,.mov (.t 0),some (53,true),[4],0⟩,⟨some 56,.mov (.t 1),some (53,true),[4,5],0⟩,⟨some 57,.iaddr 1 (.t 55) (.t 56),some (53,true),[4],0⟩,⟨some 58,.load 1 false (.t 57),some (53,true),[4],0⟩,⟨some 59,.mov (.t 0),some (53,true),[4,5,6,7,8],0⟩,⟨some 60,.mov (.t 12),some (53,true),[4,5,6,7,8,9],0⟩,⟨some 61,.iaddr 1 (.t 59) (.t 60),some (53,true),[4,5,6,7,8],0⟩,⟨some 62,.load 1 false (.t 61),some (53,true),[4,5,6,7,8],0⟩,oG 63 (.callv (.t 54) [(.t 58),(.t 62)]) 53 true,oG 64 (.bin .lss (.t 63) (iN 0)) 53 true,oB 65 (.pick (.t 53) (.t 64) bF)]) (.cond (.t 65) (.skip) (.exit 4))) (.block 5 (.ops [oB 66 (.mov (.t 12)),oB 67 (.bin .sub (.t 66) (iN 1)),oB 12 (.mov (.t 67))]))
def Zt9:C:=.block 1 (.seq (.block 2 (.loop [0,1,4,11,12] [0,1,4,11,12] ZtP)) (.seq (.block 4 (.loop [0,1,4,11,12] [0,1,4,11,12] Zto)) (.seq (.seq (.ops [oB 68 (.mov (.t 11)),oB 69 (.mov (.t 12)),oB 70 (.bin .gtr (.t 68) (.t 69))]) (.cond (.t 70) (.exit 0) (.skip))) (.seq (.draw [oB 71 (.mov (.t 0)),oM 72 (.mov (.t 11)) [0],oM 73 (.mov (.t 0)) [0,1],oM 74 (.mov (.t 12)) [0,1,2],oM 75 (.mov (.t 0)) [0,1,2,3],oM 76 (.mov (.t 12)) [0,1,2,3,4],oM 77 (.iaddr 1 (.t 75) (.t 76)) [0,1,2,3],oM 78 (.load 1 false (.t 77)) [0,1,2,3],oM 79 (.mov (.t 0)) [0,1,2,3,4,5,6,7],oM 80 (.mov (.t 11)) [0,1,2,3,4,5,6,7,8],oM 81 (.iaddr 1 (.t 79) (.t 80)) [0,1,2,3,4,5,6,7],oM 82 (.load 1 false (.t 81)) [0,1,2,3,4,5,6,7],oM 83 (.iaddr 1 (.t 71) (.t 72)) [2,3],⟨none,.store 1 (.t 83) (.t 78),none,[],3⟩,oB 84 (.iaddr 1 (.t 73) (.t 74)),⟨none,.store 1 (.t 84) (.t 82),none,[],3⟩]) (.seq (.ops [oB 85 (.mov (.t 11)),oB 86 (.bin .add (.t 85) (iN 1)),oB 11 (.mov (.t 86))]) (.ops [oB 87 (.mov (.t 12)),oB 88 (.bin .sub (.t 87) (iN 1)),oB 12 (.mov (.t 88))]))))))
def ZAQ:C:=.seq (.ops [oB 10 (.mov (iN 0))]) (.seq (.draw [oB 13 (.mov (.t 0)),oM 14 (.mov (.t 1)) [0],oM 15 (.mov (.t 0)) [0,1],oM 16 (.mov (.t 3)) [0,1,2],oM 17 (.mov (.t 0)) [0,1,2,3],oM 18 (.mov (.t 3)) [0,1,2,3,4],oM 19 (.iaddr 1 (.t 17) (.t 18)) [0,1,2,3],oM 20 (.load 1 false (.t 19)) [0,1,2,3],oM 21 (.mov (.t 0)) [0,1,2,3,4,5,6,7],oM 22 (.mov (.t 1)) [0,1,2,3,4,5,6,7,8],oM 23 (.iaddr 1 (.t 21) (.t 22)) [0,1,2,3,4,5,6,7],oM 24 (.load 1 false (.t 23)) [0,1,2,3,4,5,6,7],oM 25 (.iaddr 1 (.t 13) (.t 14)) [2,3],⟨none,.store 1 (.t 25) (.t 20),none,[],3⟩,oB 26 (.iaddr 1 (.t 15) (.t 16)),⟨none,.store 1 (.t 26) (.t 24),none,[],3⟩]) (.seq (.ops [oB 27 (.mov (.t 1)),oB 28 (.bin .add (.t 27) (iN 1)),oB 29 (.mov (.t 2)),oB 30 (.bin .sub (.t 29) (iN 1)),oB 11 (.mov (.t 28)),oB 12 (.mov (.t 30))]) (.seq (.block 0 (.loop [0,1,4,11,12] [11] Zt9)) (.seq (.ops [oB 89 (.mov (.t 11)),oB 10 (.mov (.t 89))]) (.ret)))))
def Zxg:FnI:=⟨5,ZAQ,[(10,none)]⟩
def ZtS:C:=.seq (.seq (.draw [oB 32 (.mov (.t 12)),oM 33 (.mov (.t 13)) [0],oB 34 (.bin .leq (.t 32) (.t 33)),oB 35 (.mov (.t 34)),oG 36 (.mov (.t 4)) 35 true,⟨some 37,.mov (.t 0),some (35,true),[4],0⟩,⟨some 38,.mov (.t 12),some (35,true),[4,5],0⟩,⟨some 39,.iaddr 1 (.t 37) (.t 38),some (35,true),[4],0⟩,⟨some 40,.load 1 false (.t 39),some (35,true),[4],0⟩,⟨some 41,.mov (.t 0),some (35,true),[4,5,6,7,8],0⟩,⟨some 42,.mov (.t 1),some (35,true),[4,5,6,7,8,9],0⟩,⟨some 43,.iaddr 1 (.t 41) (.t 42),some (35,true),[4,5,6,7,8],0⟩,⟨some 44,.load 1 false (.t 43),some (35,true),[4,5,6,7,8],0⟩,oG 45 (.callv (.t 36) [(.t 40),(.t 44)]) 35 true,oG 46 (.bin .lss (.t 45) (iN 0)) 35 true,oB 47 (.pick (.t 35) (.t 46) bF)]) (.cond (.t 47) (.skip) (.exit 0))) (.block 1 (.ops [oB 48 (.mov (.t 12)),oB 49 (.bin .add (.t 48) (iN 1)),oB 12 (.mov (.t 49))]))
def Zt1:C:=.seq (.seq (.draw [oB 50 (.mov (.t 12)),oM 51 (.mov (.t 13)) [0],oB 52 (.bin .leq (.t 50) (.t 51)),oB 53 (.mov (.t 52)),oG 54 (.mov (.t 4)) 53 true,⟨some 55,.mov (.t 0),some (53,true),[4],0⟩,⟨some 56,.mov (.t 13),some (53,true),[4,5],0⟩,⟨some 57,.iaddr 1 (.t 55) (.t 56),some (53,true),[4],0⟩,⟨some 58,.load 1 false (.t 57),some (53,true),[4],0⟩,⟨some 59,.mov (.t 0),some (53,true),[4,5,6,7,8],0⟩,⟨some 60,.mov (.t 1),some (53,true),[4,5,6,7,8,9],0⟩,⟨some 61,.iaddr 1 (.t 59) (.t 60),some (53,true),[4,5,6,7,8],0⟩,⟨some 62,.load 1 false (.t 61),some (53,true),[4,5,6,7,8],0⟩,oG 63 (.callv (.t 54) [(.t 58),(.t 62)]) 53 true,oG 64 (.bin .lss (.t 63) (iN 0)) 53 true,oG 65 (.un .not (.t 64)) 53 true,oB 66 (.pick (.t 53) (.t 65) bF)]) (.cond (.t 66) (.skip) (.exit 2))) (.block 3 (.ops [oB 67 (.mov (.t 13)),oB 68 (.bin .sub (.t 67) (iN 1)),oB 13 (.mov (.t 68))]))
def Ztz:C:=.seq (.seq (.draw [oB 105 (.mov (.t 12)),oM 106 (.mov (.t 13)) [0],oB 107 (.bin .leq (.t 105) (.t 106)),oB 108 (.mov (.t 107)),oG 109 (.mov (.t 4)) 108 true,⟨some 110,.mov (.t 0),some (108,true),[4],0⟩,⟨some 111,.mov (.t 12),some (108,true),[4,5],0⟩,⟨some 112,.iaddr 1 (.t 110) (.t 111),some (108,true),[4],0⟩,⟨some 113,.load 1 false (.t 112),some (108,true),[4],0⟩,⟨some 114,.mov (.t 0),some (108,true),[4,5,6,7,8],0⟩,⟨some 115,.mov (.t 1),some (108,true),[4,5,6,7,8,9],0⟩,⟨some 116,.iaddr 1 (.t 114) (.t 115),some (108,true),[4,5,6,7,8],0⟩,⟨some 117,.load 1 false (.t 116),some (108,true),[4,5,6,7,8],0⟩,oG 118 (.callv (.t 109) [(.t 113),(.t 117)]) 108 true,oG 119 (.bin .lss (.t 118) (iN 0)) 108 true,oB 120 (.pick (.t 108) (.t 119) bF)]) (.cond (.t 120) (.skip) (.exit 6))) (.block 7 (.ops [oB 121 (.mov (.t 12)),oB 122 (.bin .add (.t 121) (iN 1)),oB 12 (.mov (.t 122))]))
def Zuf:C:=.seq (.seq (.draw [oB 123 (.mov (.t 12)),oM 124 (.mov (.t 13)) [0],oB 125 (.bin .leq (.t 123) (.t 124)),oB 126 (.mov (.t 125)),oG 127 (.mov (.t 4)) 126 true,⟨some 128,.mov (.t 0),some (126,true),[4],0⟩,⟨some 129,.mov (.t 13),some (126,true),[4,5],0⟩,⟨some 130,.iaddr 1 (.t 128) (.t 129),some (126,true),[4],0⟩,⟨some 131,.load 1 false (.t 130),some (126,true),[4],0⟩,⟨some 132,.mov (.t 0),some (126,true),[4,5,6,7,8],0⟩,⟨some 133,.mov (.t 1),some (126,true),[4,5,6,7,8,9],0⟩,⟨some 134,.iaddr 1 (.t 132) (.t 133),some (126,true),[4,5,6,7,8],0⟩,⟨some 135,.load 1 false (.t 134),some (126,true),[4,5,6,7,8],0⟩,oG 136 (.callv (.t 127) [(.t 131),(.t 135)]) 126 true,oG 137 (.bin .lss (.t 136) (iN 0)) 126 true,oG 138 (.un .not (.t 137)) 126 true,oB 139 (.pick (.t 126) (.t 138) bF)]) (.cond (.t 139) (.skip) (.exit 8))) (.block 9 (.ops [oB 140 (.mov (.t 13)),oB 141 (.bin .sub (.t 140) (iN 1)),oB 13 (.mov (.t 141))]))
def Zt3:C:=.block 5 (.seq (.block 6 (.loop [0,1,4,12,13] [0,1,4,12,13] Ztz)) (.seq (.block 8 (.loop [0,1,4,12,13] [0,1,4,12,13] Zuf)) (.seq (.seq (.ops [oB 142 (.mov (.t 12)),oB 143 (.mov (.t 13)),oB 144 (.bin .gtr (.t 142) (.t 143))]) (.cond (.t 144) (.exit 4) (.skip))) (.seq (.draw [oB 145 (.mov (.t 0)),oM 146 (.mov (.t 12)) [0],oM 147 (.mov (.t 0)) [0,1],oM 148 (.mov (.t 13)) [0,1,2],oM 149 (.mov (.t 0)) [0,1,2,3],oM 150 (.mov (.t 13)) [0,1,2,3,4],oM 151 (.iaddr 1 (.t 149) (.t 150)) [0,1,2,3],oM 152 (.load 1 false (.t 151)) [0,1,2,3],oM 153 (.mov (.t 0)) [0,1,2,3,4,5,6,7],oM 154 (.mov (.t 12)) [0,1,2,3,4,5,6,7,8],oM 155 (.iaddr 1 (.t 153) (.t 154)) [0,1,2,3,4,5,6,7],oM 156 (.load 1 false (.t 155)) [0,1,2,3,4,5,6,7],oM 157 (.iaddr 1 (.t 145) (.t 146)) [2,3],⟨none,.store 1 (.t 157) (.t 152),none,[],3⟩,oB 158 (.iaddr 1 (.t 147) (.t 148)),⟨none,.store 1 (.t 158) (.t 156),none,[],3⟩]) (.seq (.ops [oB 159 (.mov (.t 12)),oB 160 (.bin .add (.t 159) (iN 1)),oB 12 (.mov (.t 160))]) (.ops [oB 161 (.mov (.t 13)),oB 162 (.bin .sub (.t 161) (iN 1)),oB 13 (.mov (.t 162))]))))))
def ZAk:C:=.seq (.ops [oB 10 (.mov (iN 0)),oB 11 (.mov bF)]) (.seq (.draw [oB 14 (.mov (.t 0)),oM 15 (.mov (.t 1)) [0],oM 16 (.mov (.t 0)) [0,1],oM 17 (.mov (.t 3)) [0,1,2],oM 18 (.mov (.t 0)) [0,1,2,3],oM 19 (.mov (.t 3)) [0,1,2,3,4],oM 20 (.iaddr 1 (.t 18) (.t 19)) [0,1,2,3],oM 21 (.load 1 false (.t 20)) [0,1,2,3],oM 22 (.mov (.t 0)) [0,1,2,3,4,5,6,7],oM 23 (.mov (.t 1)) [0,1,2,3,4,5,6,7,8],oM 24 (.iaddr 1 (.t 22) (.t 23)) [0,1,2,3,4,5,6,7],oM 25 (.load 1 false (.t 24)) [0,1,2,3,4,5,6,7],oM 26 (.iaddr 1 (.t 14) (.t 15)) [2,3],⟨none,.store 1 (.t 26) (.t 21),none,[],3⟩,oB 27 (.iaddr 1 (.t 16) (.t 17)),⟨none,.store 1 (.t 27) (.t 25),none,[],3⟩]) (.seq (.ops [oB 28 (.mov (.t 1)),oB 29 (.bin .add (.t 28) (iN 1)),oB 30 (.mov (.t 2)),oB 31 (.bin .sub (.t 30) (iN 1)),oB 12 (.mov (.t 29)),oB 13 (.mov (.t 31))]) (.seq (.block 0 (.loop [0,1,4,12,13] [0,1,4,12,13] ZtS)) (.seq (.block 2 (.loop [0,1,4,12,13] [0,1,4,12,13] Zt1)) (.seq (.seq (.ops [oB 69 (.mov (.t 12)),oB 70 (.mov (.t 13)),oB 71 (.bin .gtr (.t 69) (.t 70))]) (.cond (.t 71) (.seq (.draw [oB 72 (.mov (.t 0)),oM 73 (.mov (.t 13)) [0],oM 74 (.mov (.t 0)) [0,1],oM 75 (.mov (.t 1)) [0,1,2],oM 76 (.mov (.t 0)) [0,1,2,3],oM 77 (.mov (.t 1)) [0,1,2,3,4],oM 78 (.iaddr 1 (.t 76) (.t 77)) [0,1,2,3],oM 79 (.load 1 false (.t 78)) [0,1,2,3],oM 80 (.mov (.t 0)) [0,1,2,3,4,5,6,7],oM 81 (.mov (.t 13)) [0,1,2,3,4,5,6,7,8],oM 82 (.iaddr 1 (.t 80) (.t 81)) [0,1,2,3,4,5,6,7],oM 83 (.load 1 false (.t 82)) [0,1,2,3,4,5,6,7],oM 84 (.iaddr 1 (.t 72) (.t 73)) [2,3],⟨none,.store 1 (.t 84) (.t 79),none,[],3⟩,oB 85 (.iaddr 1 (.t 74) (.t 75)),⟨none,.store 1 (.t 85) (.t 83),none,[],3⟩]) (.seq (.ops [oB 86 (.mov (.t 13)),oB 10 (.mov (.t 86)),oB 11 (.mov bT)]) (.ret))) (.skip))) (.seq (.draw [oB 87 (.mov (.t 0)),oM 88 (.mov (.t 12)) [0],oM 89 (.mov (.t 0)) [0,1],oM 90 (.mov (.t 13)) [0,1,2],oM 91 (.mov (.t 0)) [0,1,2,3],oM 92 (.mov (.t 13)) [0,1,2,3,4],oM 93 (.iaddr 1 (.t 91) (.t 92)) [0,1,2,3],oM 94 (.load 1 false (.t 93)) [0,1,2,3],oM 95 (.mov (.t 0)) [0,1,2,3,4,5,6,7],oM 96 (.mov (.t 12)) [0,1,2,3,4,5,6,7,8],oM 97 (.iaddr 1 (.t 95) (.t 96)) [0,1,2,3,4,5,6,7],oM 98 (.load 1 false (.t 97)) [0,1,2,3,4,5,6,7],oM 99 (.iaddr 1 (.t 87) (.t 88)) [2,3],⟨none,.store 1 (.t 99) (.t 94),none,[],3⟩,oB 100 (.iaddr 1 (.t 89) (.t 90)),⟨none,.store 1 (.t 100) (.t 98),none,[],3⟩]) (.seq (.ops [oB 101 (.mov (.t 12)),oB 102 (.bin .add (.t 101) (iN 1)),oB 12 (.mov (.t 102))]) (.seq (.ops [oB 103 (.mov (.t 13)),oB 104 (.bin .sub (.t 103) (iN 1)),oB 13 (.mov (.t 104))]) (.seq (.block 4 (.loop [0,1,4,12,13] [0,1,13] Zt3)) (.seq (.draw [oB 163 (.mov (.t 0)),oM 164 (.mov (.t 13)) [0],oM 165 (.mov (.t 0)) [0,1],oM 166 (.mov (.t 1)) [0,1,2],oM 167 (.mov (.t 0)) [0,1,2,3],oM 168 (.mov (.t 1)) [0,1,2,3,4],oM 169 (.iaddr 1 (.t 167) (.t 168)) [0,1,2,3],oM 170 (.load 1 false (.t 169)) [0,1,2,3],oM 171 (.mov (.t 0)) [0,1,2,3,4,5,6,7],oM 172 (.mov (.t 13)) [0,1,2,3,4,5,6,7,8],oM 173 (.iaddr 1 (.t 171) (.t 172)) [0,1,2,3,4,5,6,7],oM 174 (.load 1 false (.t 173)) [0,1,2,3,4,5,6,7],oM 175 (.iaddr 1 (.t 163) (.t 164)) [2,3],⟨none,.store 1 (.t 175) (.t 170),none,[],3⟩,oB 176 (.iaddr 1 (.t 165) (.t 166)),⟨none,.store 1 (.t 176) (.t 174),none,[],3⟩]) (.seq (.ops [oB 177 (.mov (.t 13)),oB 10 (.mov (.t 177)),oB 11 (.mov bF)]) (.ret))))))))))))
def ZvY:FnI:=⟨5,ZAk,[(10,none),(11,none)]⟩
def ZAp:C:=.seq (.ops [oB 2 (.mov (iN 0))]) (.seq (.seq (.ops [oB 3 (.mov (.t 0)),oB 4 (.bin .geq (.t 3) (.c (.d (.int .u32 65536))))]) (.cond (.t 4) (.seq (.ops [oB 5 (.mov (.t 0)),oB 6 (.bin .shr (.t 5) (.c (.d (.int .u64 16)))),oB 0 (.mov (.t 6))]) (.ops [oB 2 (.mov (iN 16))])) (.skip))) (.seq (.seq (.ops [oB 7 (.mov (.t 0)),oB 8 (.bin .geq (.t 7) (.c (.d (.int .u32 256))))]) (.cond (.t 8) (.seq (.ops [oB 9 (.mov (.t 0)),oB 10 (.bin .shr (.t 9) (.c (.d (.int .u64 8)))),oB 0 (.mov (.t 10))]) (.ops [oB 11 (.mov (.t 2)),oB 12 (.bin .add (.t 11) (iN 8)),oB 2 (.mov (.t 12))])) (.skip))) (.seq (.ops [oB 13 (.mov (.t 2)),oB 14 (.mov (.t 0)),oB 15 (.conv .u8 (.t 14)),oB 16 (.indexS (.c (.d (.str ⟨#[0,1,2,2,3,3,3,3,4,4,4,4,4,4,4,4,5,5,5,5,5,5,5,5,5,5,5,5,5,5,5,5,6,6,6,6,6,6,6,6,6,6,6,6,6,6,6,6,6,6,6,6,6,6,6,6,6,6,6,6,6,6,6,6,7,7,7,7,7,7,7,7,7,7,7,7,7,7,7,7,7,7,7,7,7,7,7,7,7,7,7,7,7,7,7,7,7,7,7,7,7,7,7,7,7,7,7,7,7,7,7,7,7,7,7,7,7,7,7,7,7,7,7,7,7,7,7,7,8,8,8,8,8,8,8,8,8,8,8,8,8,8,8,8,8,8,8,8,8,8,8,8,8,8,8,8,8,8,8,8,8,8,8,8,8,8,8,8,8,8,8,8,8,8,8,8,8,8,8,8,8,8,8,8,8,8,8,8,8,8,8,8,8,8,8,8,8,8,8,8,8,8,8,8,8,8,8,8,8,8,8,8,8,8,8,8,8,8,8,8,8,8,8,8,8,8,8,8,8,8,8,8,8,8,8,8,8,8,8,8,8,8,8,8,8,8,8,8,8,8,8,8,8,8,8,8]⟩))) (.t 15)),oB 17 (.conv .i64 (.t 16)),oB 18 (.bin .add (.t 13) (.t 17)),oB 2 (.mov (.t 18))]) (.ret))))
def ZyC:FnI:=⟨1,ZAp,[(2,none)]⟩
def ZBl:C:=.seq (.ops [oB 2 (.mov (iN 0))]) (.seq (.seq (.ops [oB 3 (.mov (.t 0)),oB 4 (.bin .geq (.t 3) (.c (.d (.int .u64 4294967296))))]) (.cond (.t 4) (.seq (.ops [oB 5 (.mov (.t 0)),oB 6 (.bin .shr (.t 5) (.c (.d (.int .u64 32)))),oB 0 (.mov (.t 6))]) (.ops [oB 2 (.mov (iN 32))])) (.skip))) (.seq (.seq (.ops [oB 7 (.mov (.t 0)),oB 8 (.bin .geq (.t 7) (.c (.d (.int .u64 65536))))]) (.cond (.t 8) (.seq (.ops [oB 9 (.mov (.t 0)),oB 10 (.bin .shr (.t 9) (.c (.d (.int .u64 16)))),oB 0 (.mov (.t 10))]) (.ops [oB 11 (.mov (.t 2)),oB 12 (.bin .add (.t 11) (iN 16)),oB 2 (.mov (.t 12))])) (.skip))) (.seq (.seq (.ops [oB 13 (.mov (.t 0)),oB 14 (.bin .geq (.t 13) (.c (.d (.int .u64 256))))]) (.cond (.t 14) (.seq (.ops [oB 15 (.mov (.t 0)),oB 16 (.bin .shr (.t 15) (.c (.d (.int .u64 8)))),oB 0 (.mov (.t 16))]) (.ops [oB 17 (.mov (.t 2)),oB 18 (.bin .add (.t 17) (iN 8)),oB 2 (.mov (.t 18))])) (.skip))) (.seq (.ops [oB 19 (.mov (.t 2)),oB 20 (.mov (.t 0)),oB 21 (.conv .u8 (.t 20)),oB 22 (.indexS (.c (.d (.str ⟨#[0,1,2,2,3,3,3,3,4,4,4,4,4,4,4,4,5,5,5,5,5,5,5,5,5,5,5,5,5,5,5,5,6,6,6,6,6,6,6,6,6,6,6,6,6,6,6,6,6,6,6,6,6,6,6,6,6,6,6,6,6,6,6,6,7,7,7,7,7,7,7,7,7,7,7,7,7,7,7,7,7,7,7,7,7,7,7,7,7,7,7,7,7,7,7,7,7,7,7,7,7,7,7,7,7,7,7,7,7,7,7,7,7,7,7,7,7,7,7,7,7,7,7,7,7,7,7,7,8,8,8,8,8,8,8,8,8,8,8,8,8,8,8,8,8,8,8,8,8,8,8,8,8,8,8,8,8,8,8,8,8,8,8,8,8,8,8,8,8,8,8,8,8,8,8,8,8,8,8,8,8,8,8,8,8,8,8,8,8,8,8,8,8,8,8,8,8,8,8,8,8,8,8,8,8,8,8,8,8,8,8,8,8,8,8,8,8,8,8,8,8,8,8,8,8,8,8,8,8,8,8,8,8,8,8,8,8,8,8,8,8,8,8,8,8,8,8,8,8,8,8,8,8,8,8,8]⟩))) (.t 21)),oB 23 (.conv .i64 (.t 22)),oB 24 (.bin .add (.t 19) (.t 23)),oB 2 (.mov (.t 24))]) (.ret)))))
def ZvP:FnI:=⟨1,ZBl,[(2,none)]⟩
def ZtW:C:=.block 1 (.seq (.ops [oB 13 (.mov (.t 10)),oB 14 (.bin .mul (iN 2) (.t 13)),oB 15 (.bin .add (.t 14) (iN 1)),oB 11 (.mov (.t 15))]) (.seq (.seq (.ops [oB 16 (.mov (.t 11)),oB 17 (.mov (.t 2)),oB 18 (.bin .geq (.t 16) (.t 17))]) (.cond (.t 18) (.exit 0) (.skip))) (.seq (.seq (.draw [oB 19 (.mov (.t 11)),oB 20 (.bin .add (.t 19) (iN 1)),oM 21 (.mov (.t 2)) [0,1],oB 22 (.bin .lss (.t 20) (.t 21)),oB 23 (.mov (.t 22)),oG 24 (.mov (.t 4)) 23 true,⟨some 25,.mov (.t 0),some (23,true),[5],0⟩,⟨some 26,.mov (.t 3),some (23,true),[5,6],0⟩,⟨some 27,.mov (.t 11),some (23,true),[5,6,7],0⟩,⟨some 28,.bin .add (.t 26) (.t 27),some (23,true),[5,6],0⟩,⟨some 29,.iaddr 1 (.t 25) (.t 28),some (23,true),[5],0⟩,⟨some 30,.load 1 false (.t 29),some (23,true),[5],0⟩,⟨some 31,.mov (.t 0),some (23,true),[5,6,7,8,9,10,11],0⟩,⟨some 32,.mov (.t 3),some (23,true),[5,6,7,8,9,10,11,12],0⟩,⟨some 33,.mov (.t 11),some (23,true),[5,6,7,8,9,10,11,12,13],0⟩,⟨some 34,.bin .add (.t 32) (.t 33),some (23,true),[5,6,7,8,9,10,11,12],0⟩,⟨some 35,.bin .add (.t 34) (iN 1),some (23,true),[5,6,7,8,9,10,11,12],0⟩,⟨some 36,.iaddr 1 (.t 31) (.t 35),some (23,true),[5,6,7,8,9,10,11],0⟩,⟨some 37,.load 1 false (.t 36),some (23,true),[5,6,7,8,9,10,11],0⟩,oG 38 (.callv (.t 24) [(.t 30),(.t 37)]) 23 true,oG 39 (.bin .lss (.t 38) (iN 0)) 23 true,oB 40 (.pick (.t 23) (.t 39) bF)]) (.cond (.t 40) (.ops [oB 41 (.mov (.t 11)),oB 42 (.bin .add (.t 41) (iN 1)),oB 11 (.mov (.t 42))]) (.skip))) (.seq (.seq (.draw [oB 43 (.mov (.t 4)),oM 44 (.mov (.t 0)) [0],oM 45 (.mov (.t 3)) [0,1],oM 46 (.mov (.t 10)) [0,1,2],oM 47 (.bin .add (.t 45) (.t 46)) [0,1],oM 48 (.iaddr 1 (.t 44) (.t 47)) [0],oM 49 (.load 1 false (.t 48)) [0],oM 50 (.mov (.t 0)) [0,1,2,3,4,5,6],oM 51 (.mov (.t 3)) [0,1,2,3,4,5,6,7],oM 52 (.mov (.t 11)) [0,1,2,3,4,5,6,7,8],oM 53 (.bin .add (.t 51) (.t 52)) [0,1,2,3,4,5,6,7],oM 54 (.iaddr 1 (.t 50) (.t 53)) [0,1,2,3,4,5,6],oM 55 (.load 1 false (.t 54)) [0,1,2,3,4,5,6],oB 56 (.callv (.t 43) [(.t 49),(.t 55)]),oB 57 (.bin .lss (.t 56) (iN 0)),oB 58 (.un .not (.t 57))]) (.cond (.t 58) (.ret) (.skip))) (.seq (.draw [oB 59 (.mov (.t 0)),oM 60 (.mov (.t 3)) [0],oM 61 (.mov (.t 10)) [0,1],oM 62 (.bin .add (.t 60) (.t 61)) [0],oM 63 (.mov (.t 0)) [0,1,2,3],oM 64 (.mov (.t 3)) [0,1,2,3,4],oM 65 (.mov (.t 11)) [0,1,2,3,4,5],oM 66 (.bin .add (.t 64) (.t 65)) [0,1,2,3,4],oM 67 (.mov (.t 0)) [0,1,2,3,4,5,6,7],oM 68 (.mov (.t 3)) [0,1,2,3,4,5,6,7,8],oM 69 (.mov (.t 11)) [0,1,2,3,4,5,6,7,8,9],oM 70 (.bin .add (.t 68) (.t 69)) [0,1,2,3,4,5,6,7,8],oM 71 (.iaddr 1 (.t 67) (.t 70)) [0,1,2,3,4,5,6,7],oM 72 (.load 1 false (.t 71)) [0,1,2,3,4,5,6,7],oM 73 (.mov (.t 0)) [0,1,2,3,4,5,6,7,8,9,10,11,12,13],oM 74 (.mov (.t 3)) [0,1,2,3,4,5,6,7,8,9,10,11,12,13,14],oM 75 (.mov (.t 10)) [0,1,2,3,4,5,6,7,8,9,10,11,12,13,14,15],oM 76 (.bin .add (.t 74) (.t 75)) [0,1,2,3,4,5,6,7,8,9,10,11,12,13,14],oM 77 (.iaddr 1 (.t 73) (.t 76)) [0,1,2,3,4,5,6,7,8,9,10,11,12,13],oM 78 (.load 1 false (.t 77)) [0,1,2,3,4,5,6,7,8,9,10,11,12,13],oM 79 (.iaddr 1 (.t 59) (.t 62)) [4,5,6,7],⟨none,.store 1 (.t 79) (.t 72),none,[],3⟩,oB 80 (.iaddr 1 (.t 63) (.t 66)),⟨none,.store 1 (.t 80) (.t 78),none,[],3⟩]) (.ops [oB 81 (.mov (.t 11)),oB 10 (.mov (.t 81))]))))))
def ZAU:C:=.seq (.ops [oB 12 (.mov (.t 1)),oB 10 (.mov (.t 12))]) (.block 0 (.loop [0,2,3,4,10] [] ZtW))
def Zwx:FnI:=⟨5,ZAU,[]⟩
def ZAo:C:=.seq (.ops [oB 2 (.mov (.c (.d (.int .u64 0))))]) (.seq (.ops [oB 3 (.mov (.t 0)),oB 4 (.conv .u64 (.t 3)),oB 5 (.call 125 [(.t 4)]),oB 6 (.bin .shl (.c (.d (.int .u64 1))) (.t 5)),oB 2 (.mov (.t 6))]) (.ret))
def Zvt:FnI:=⟨1,ZAo,[(2,none)]⟩
def ZAi:C:=.seq (.ops [oB 2 (.mov (.c (.d (.int .u64 0))))]) (.seq (.draw [oB 3 (.mov (.t 0)),oB 4 (.nilck (.t 3)),oB 5 (.load 1 false (.t 4)),oM 6 (.mov (.t 0)) [0,1,2],oM 7 (.nilck (.t 6)) [0,1,2],oM 8 (.load 1 false (.t 7)) [0,1,2],oM 9 (.bin .shl (.t 8) (.c (.d (.int .u64 13)))) [0,1,2],oB 10 (.bin .xor (.t 5) (.t 9)),oB 11 (.nilck (.t 3)),⟨none,.store 1 (.t 11) (.t 10),none,[],3⟩]) (.seq (.draw [oB 12 (.mov (.t 0)),oB 13 (.nilck (.t 12)),oB 14 (.load 1 false (.t 13)),oM 15 (.mov (.t 0)) [0,1,2],oM 16 (.nilck (.t 15)) [0,1,2],oM 17 (.load 1 false (.t 16)) [0,1,2],oM 18 (.bin .shr (.t 17) (.c (.d (.int .u64 7)))) [0,1,2],oB 19 (.bin .xor (.t 14) (.t 18)),oB 20 (.nilck (.t 12)),⟨none,.store 1 (.t 20) (.t 19),none,[],3⟩]) (.seq (.draw [oB 21 (.mov (.t 0)),oB 22 (.nilck (.t 21)),oB 23 (.load 1 false (.t 22)),oM 24 (.mov (.t 0)) [0,1,2],oM 25 (.nilck (.t 24)) [0,1,2],oM 26 (.load 1 false (.t 25)) [0,1,2],oM 27 (.bin .shl (.t 26) (.c (.d (.int .u64 17)))) [0,1,2],oB 28 (.bin .xor (.t 23) (.t 27)),oB 29 (.nilck (.t 21)),⟨none,.store 1 (.t 29) (.t 28),none,[],3⟩]) (.seq (.ops [oB 30 (.mov (.t 0)),oB 31 (.nilck (.t 30)),oB 32 (.load 1 false (.t 31)),oB 2 (.mov (.t 32))]) (.ret)))))
def ZvX:FnI:=⟨1,ZAi,[(2,none)]⟩
def ZAV:C:=.seq (.ops [oB 8 (.mov (iN 0))]) (.seq (.ops [oB 9 (.mov (.t 0)),oB 10 (.mov (.t 1)),oB 11 (.bin .sub (.t 10) (iN 1)),oB 12 (.mov (.t 1)),oB 13 (.mov (.t 1)),oB 14 (.bin .add (.t 13) (iN 1)),oB 15 (.mov (.t 2)),oB 16 (.mov (.t 3)),oB 17 (.call 140 [(.t 9),(.t 11),(.t 12),(.t 14),(.t 15),(.t 16)]),oB 8 (.mov (.t 17))]) (.ret))
def Zwe:FnI:=⟨4,ZAV,[(8,none)]⟩
def ZBg:C:=.seq (.ops [oB 12 (.mov (iN 0))]) (.seq (.ops [oB 14 (.mov (.t 0)),oB 15 (.mov (.t 1)),oB 16 (.mov (.t 2)),oB 17 (.mov (.t 4)),oB 18 (.mov (.t 5)),oB 19 (.call 141 [(.t 14),(.t 15),(.t 16),(.t 17),(.t 18)]),oB 13 (.mov (.t 19)),oB 20 (.extract (.t 13) 0),oB 21 (.extract (.t 13) 1),oB 1 (.mov (.t 20)),oB 2 (.mov (.t 21))]) (.seq (.ops [oB 23 (.mov (.t 0)),oB 24 (.mov (.t 2)),oB 25 (.mov (.t 3)),oB 26 (.mov (.t 4)),oB 27 (.mov (.t 5)),oB 28 (.call 141 [(.t 23),(.t 24),(.t 25),(.t 26),(.t 27)]),oB 22 (.mov (.t 28)),oB 29 (.extract (.t 22) 0),oB 30 (.extract (.t 22) 1),oB 2 (.mov (.t 29)),oB 3 (.mov (.t 30))]) (.seq (.ops [oB 32 (.mov (.t 0)),oB 33 (.mov (.t 1)),oB 34 (.mov (.t 2)),oB 35 (.mov (.t 4)),oB 36 (.mov (.t 5)),oB 37 (.call 141 [(.t 32),(.t 33),(.t 34),(.t 35),(.t 36)]),oB 31 (.mov (.t 37)),oB 38 (.extract (.t 31) 0),oB 39 (.extract (.t 31) 1),oB 1 (.mov (.t 38)),oB 2 (.mov (.t 39))]) (.seq (.ops [oB 40 (.mov (.t 2)),oB 12 (.mov (.t 40))]) (.ret)))))
def ZwG:FnI:=⟨6,ZBg,[(12,none)]⟩
def ZAC:C:=.seq (.ops [oB 10 (.mov (iN 0)),oB 11 (.mov (iN 0))]) (.seq (.seq (.draw [oB 12 (.mov (.t 4)),oM 13 (.mov (.t 0)) [0],oM 14 (.mov (.t 2)) [0,1],oM 15 (.iaddr 1 (.t 13) (.t 14)) [0],oM 16 (.load 1 false (.t 15)) [0],oM 17 (.mov (.t 0)) [0,1,2,3,4],oM 18 (.mov (.t 1)) [0,1,2,3,4,5],oM 19 (.iaddr 1 (.t 17) (.t 18)) [0,1,2,3,4],oM 20 (.load 1 false (.t 19)) [0,1,2,3,4],oB 21 (.callv (.t 12) [(.t 16),(.t 20)]),oB 22 (.bin .lss (.t 21) (iN 0))]) (.cond (.t 22) (.seq (.ops [oB 23 (.mov (.t 3)),oB 24 (.nilck (.t 23)),oB 25 (.load 1 false (.t 24)),oB 26 (.bin .add (.t 25) (iN 1)),oB 27 (.nilck (.t 23)),oA (.store 1 (.t 27) (.t 26))]) (.seq (.ops [oB 28 (.mov (.t 2)),oB 29 (.mov (.t 1)),oB 10 (.mov (.t 28)),oB 11 (.mov (.t 29))]) (.ret))) (.skip))) (.seq (.ops [oB 30 (.mov (.t 1)),oB 31 (.mov (.t 2)),oB 10 (.mov (.t 30)),oB 11 (.mov (.t 31))]) (.ret)))
def Zwt:FnI:=⟨5,ZAC,[(10,none),(11,none)]⟩
def code:Nat→Option FnI
 | 4=>some fn4
 | 12=>some ZAW
 | 13=>some ZzN
 | 14=>some ZBX
 | 15=>some ZzT
 | 16=>some Zz2
 | 17=>some Zz6
 | 18=>some Zz3
 | 19=>some ZAf
 | 20=>some ZAY
 | 21=>some ZzR
 | 38=>some ZAb
 | 39=>some ZyY
 | 40=>some Zy1
 | 41=>some Zzx
 | 42=>some Zz7
 | 43=>some ZzA
 | 44=>some ZzO
 | 45=>some ZBh
 | 55=>some Zzj
 | 57=>some ZBO
 | 63=>some ZBp
 | 64=>some Zzn
 | 65=>some Zz8
 | 66=>some Zzu
 | 67=>some Zzm
 | 68=>some Zy4
 | 69=>some ZzX
 | 70=>some Zyb
 | 71=>some Zzz
 | 72=>some ZyZ
 | 73=>some Zzb
 | 74=>some ZzC
 | 75=>some ZAR
 | 76=>some Zzo
 | 77=>some Zy3
 | 82=>some ZzU
 | 83=>some Zzc
 | 84=>some ZzH
 | 85=>some Zy6
 | 86=>some ZzI
 | 87=>some ZzD
 | 88=>some ZzB
 | 89=>some Zzt
 | 90=>some ZzQ
 | 91=>some Zzr
 | 92=>some Zy2
 | 93=>some Zx4
 | 97=>some Zzw
 | 98=>some ZzW
 | 99=>some Zy5
 | 100=>some Zw3
 | 101=>some ZvO
 | 102=>some Zv1
 | 103=>some Zwc
 | 104=>some ZtG
 | 105=>some ZyX
 | 109=>some Zwa
 | 110=>some ZvU
 | 111=>some Zvi
 | 112=>some Zxf
 | 113=>some Zxs
 | 114=>some Zv2
 | 115=>some Zw4
 | 116=>some Zud
 | 117=>some Zvc
 | 118=>some ZwB
 | 119=>some ZyR
 | 120=>some ZyP
 | 121=>some ZvB
 | 122=>some ZyD
 | 123=>some ZwI
 | 124=>some Zxr
 | 125=>some Zwj
 | 126=>some ZwA
 | 127=>some ZwD
 | 128=>some ZwC
 | 129=>some ZwV
 | 130=>some Zwu
 | 131=>some Zxc
 | 132=>some Zxg
 | 133=>some ZvY
 | 134=>some ZyC
 | 135=>some ZvP
 | 136=>some Zwx
 | 137=>some Zvt
 | 138=>some ZvX
 | 139=>some Zwe
 | 140=>some ZwG
 | 141=>some Zwt
 | _=>none
def mode:Nat→Nat
 | 15=>1
 | 17=>1
 | 66=>2
 | 67=>2
 | 68=>2
 | 73=>1
 | 74=>1
 | 117=>2
 | 124=>2
 | 126=>2
 | 127=>2
 | 128=>2
 | 129=>2
 | 130=>2
 | 131=>2
 | 132=>2
 | 133=>2
 | 136=>2
 | 138=>2
 | 139=>2
 | 140=>2
 | 141=>2
 | _=>0
def ctx:Ctx:=⟨code,mode⟩
end Go.Proofs.YtnmbdjkbaihicaaDoor
namespace Go.Proofs.YtnmbdjkbaihicaaDoorE
open Go
set_option linter.unusedVariables false
set_option linter.unusedSimpArgs false
mutual
def Zbg (A1 A0 AL:Nat→Prop) (w:World):D→Value→Prop
 | .bool b,u=>u = .bool b
 | .int k n,u=>u = .int k n
 | .str s,u=>u = .string s
 | .list own xs,u=>∃a len cap,u = .slice a len cap∧len=xs.length∧len≤cap∧(∀x∈xs,x.esc=true) ∧
   (xs≠[]→∃b off sz,a=some ⟨b,off,none⟩∧(match own with | true=>A1 b | false=>A0 b)∧b<w.heap.size∧Zfe A1 A0 AL w b sz off xs)
 | .agg cs,u=>∃us:List Value,u = .agg us.toArray∧Za2 A1 A0 AL w cs us
 | .tup cs,u=>∃us:List Value,u = .tuple us.toArray∧Za2 A1 A0 AL w cs us
 | .fn f caps,u=>∃us:List Value,u = .func (.func f) #[] us.toArray∧Za2 A1 AL AL w caps us
 | .nilfn,u=>u = .nilFunc
 | .rptr cs,u=>∃b off,u = .pointer (some ⟨b,off,none⟩)∧A0 b∧b<w.heap.size∧ZcS A1 A0 AL w b off cs
 | .nilp,u=>u = .pointer none
 | .iface t v,u=>∃u',u = .iface t u'∧Zbg A1 A0 AL w v u'
 | .nilI,u=>u = .nilIface
def Za2 (A1 A0 AL:Nat→Prop) (w:World):List D→List Value→Prop
 | [],us=>us=[]
 | x :: xs,us=>∃u us',us=u :: us'∧Zbg A1 A0 AL w x u∧Za2 A1 A0 AL w xs us'
def ZcS (A1 A0 AL:Nat→Prop) (w:World) (b off:Nat):List D→Prop
 | []=>True
 | x :: xs=>(∃u,w.cell? ⟨b,off,none⟩=some u∧Zbg A1 A0 AL w x u)∧ZcS A1 A0 AL w b (off+1) xs
def Zfe (A1 A0 AL:Nat→Prop) (w:World) (b sz off:Nat):List D→Prop
 | []=>True
 | x :: xs=>(∃u,Zbg A1 A0 AL w x u∧u.cells.size=sz∧∀k v,u.cells[k]? = some v→w.cell? ⟨b,off+k,none⟩=some v)∧Zfe A1 A0 AL w b sz (off+sz) xs
end
section
variable {A1 A1' A0 A0' AL AL':Nat→Prop} {w w':World}
theorem ZpL {b:Nat} (h:w'.heap[b]? = w.heap[b]?) (off:Nat):w'.cell? ⟨b,off,none⟩=w.cell? ⟨b,off,none⟩:=by
 unfold World.cell?;simp only[h]
mutual
theorem Zbg.change (A1 A1' A0 A0':Nat→Prop) (h1:∀b,b<w.heap.size→A1 b→A1' b) (h0:∀b,b<w.heap.size→A0 b→A0' b) (hL:∀b,b<w.heap.size→AL b→AL' b)
  (hw:∀b,b<w.heap.size→AL b→w'.heap[b]? = w.heap[b]?) (hs:w.heap.size≤w'.heap.size) (s0:∀b,A0 b→AL b) (s1:∀b,A1 b→AL b) :
  ∀(x:D) (u:Value),Zbg A1 A0 AL w x u→Zbg A1' A0' AL' w' x u
 | .bool b,u,h=>h
 | .int k n,u,h=>h
 | .str s,u,h=>h
 | .list own xs,u,h=>by
  obtain⟨a,len,cap,e1,e2,e3,e4,e5⟩:=h
  refine⟨a,len,cap,e1,e2,e3,e4,fun hne=>?_⟩
  obtain⟨b,off,sz,f1,f2,f3,f4⟩:=e5 hne
  have hb:AL b:=by
   cases own
   ·exact s0 _ f2
   ·exact s1 _ f2
  refine⟨b,off,sz,f1,?_,by omega,Zfe.change A1 A1' A0 A0' h1 h0 hL hw hs s0 s1 b sz off xs (hw b f3 hb) f4⟩
  cases own
  ·exact h0 _ f3 f2
  ·exact h1 _ f3 f2
 | .agg cs,u,h=>by
  obtain⟨us,e1,e2⟩:=h
  exact⟨us,e1,Za2.change A1 A1' A0 A0' h1 h0 hL hw hs s0 s1 cs us e2⟩
 | .tup cs,u,h=>by
  obtain⟨us,e1,e2⟩:=h
  exact⟨us,e1,Za2.change A1 A1' A0 A0' h1 h0 hL hw hs s0 s1 cs us e2⟩
 | .fn f caps,u,h=>by
  obtain⟨us,e1,e2⟩:=h
  exact⟨us,e1,Za2.change A1 A1' AL AL' h1 hL hL hw hs (fun _ h=>h) s1 caps us e2⟩
 | .nilfn,u,h=>h
 | .rptr cs,u,h=>by
  obtain⟨b,off,e1,e2,e3,e4⟩:=h
  exact⟨b,off,e1,h0 _ e3 e2,by omega,ZcS.change A1 A1' A0 A0' h1 h0 hL hw hs s0 s1 b off cs (hw b e3 (s0 _ e2)) e4⟩
 | .nilp,u,h=>h
 | .iface t v,u,h=>by
  obtain⟨u',e1,e2⟩:=h
  exact⟨u',e1,Zbg.change A1 A1' A0 A0' h1 h0 hL hw hs s0 s1 v u' e2⟩
 | .nilI,u,h=>h
theorem Za2.change (A1 A1' A0 A0':Nat→Prop) (h1:∀b,b<w.heap.size→A1 b→A1' b) (h0:∀b,b<w.heap.size→A0 b→A0' b) (hL:∀b,b<w.heap.size→AL b→AL' b)
  (hw:∀b,b<w.heap.size→AL b→w'.heap[b]? = w.heap[b]?) (hs:w.heap.size≤w'.heap.size) (s0:∀b,A0 b→AL b) (s1:∀b,A1 b→AL b) :
  ∀(xs:List D) (us:List Value),Za2 A1 A0 AL w xs us→Za2 A1' A0' AL' w' xs us
 | [],us,h=>h
 | x :: xs,us,h=>by
  obtain⟨u,us',e1,e2,e3⟩:=h
  exact⟨u,us',e1,Zbg.change A1 A1' A0 A0' h1 h0 hL hw hs s0 s1 x u e2,Za2.change A1 A1' A0 A0' h1 h0 hL hw hs s0 s1 xs us' e3⟩
theorem ZcS.change (A1 A1' A0 A0':Nat→Prop) (h1:∀b,b<w.heap.size→A1 b→A1' b) (h0:∀b,b<w.heap.size→A0 b→A0' b) (hL:∀b,b<w.heap.size→AL b→AL' b)
  (hw:∀b,b<w.heap.size→AL b→w'.heap[b]? = w.heap[b]?) (hs:w.heap.size≤w'.heap.size) (s0:∀b,A0 b→AL b) (s1:∀b,A1 b→AL b) (b off:Nat) :
  ∀(xs:List D),w'.heap[b]? = w.heap[b]? → ZcS A1 A0 AL w b off xs→ZcS A1' A0' AL' w' b off xs
 | [],_,h=>trivial
 | x :: xs,hb,h=>by
  obtain⟨⟨u,e1,e2⟩,e3⟩:=h
  exact⟨⟨u,by rw[ZpL hb];exact e1,Zbg.change A1 A1' A0 A0' h1 h0 hL hw hs s0 s1 x u e2⟩,ZcS.change A1 A1' A0 A0' h1 h0 hL hw hs s0 s1 b (off+1) xs hb e3⟩
theorem Zfe.change (A1 A1' A0 A0':Nat→Prop) (h1:∀b,b<w.heap.size→A1 b→A1' b) (h0:∀b,b<w.heap.size→A0 b→A0' b) (hL:∀b,b<w.heap.size→AL b→AL' b)
  (hw:∀b,b<w.heap.size→AL b→w'.heap[b]? = w.heap[b]?) (hs:w.heap.size≤w'.heap.size) (s0:∀b,A0 b→AL b) (s1:∀b,A1 b→AL b) (b sz off:Nat) :
  ∀(xs:List D),w'.heap[b]? = w.heap[b]? → Zfe A1 A0 AL w b sz off xs→Zfe A1' A0' AL' w' b sz off xs
 | [],_,h=>trivial
 | x :: xs,hb,h=>by
  obtain⟨⟨u,e1,e2,e3⟩,e4⟩:=h
  exact⟨⟨u,Zbg.change A1 A1' A0 A0' h1 h0 hL hw hs s0 s1 x u e1,e2,fun k v hk=>by rw[ZpL hb];exact e3 k v hk⟩,
   Zfe.change A1 A1' A0 A0' h1 h0 hL hw hs s0 s1 b sz (off+sz) xs hb e4⟩
end
mutual
theorem Zbg.lift (h1:∀b,A1 b→A1' b):∀(x:D) (u:Value),x.esc=true→Zbg A1 A0 AL w x u→Zbg A1' A0' AL' w x u
 | .bool b,u,_,h=>h
 | .int k n,u,_,h=>h
 | .str s,u,_,h=>h
 | .list own xs,u,he,h=>by
  obtain⟨a,len,cap,e1,e2,e3,e4,e5⟩:=h
  simp only[D.esc] at he
  subst he
  refine⟨a,len,cap,e1,e2,e3,e4,fun hne=>?_⟩
  obtain⟨b,off,sz,f1,f2,f3,f4⟩:=e5 hne
  exact⟨b,off,sz,f1,h1 _ f2,f3,Zfe.lift h1 b sz off xs e4 f4⟩
 | .agg cs,u,he,h=>by
  obtain⟨us,e1,e2⟩:=h
  exact⟨us,e1,Za2.lift h1 cs us he e2⟩
 | .tup cs,u,he,h=>by simp[D.esc] at he
 | .fn f caps,u,he,h=>by
  obtain⟨us,e1,e2⟩:=h
  simp only[D.esc,List.isEmpty_iff] at he
  subst he
  exact⟨us,e1,e2⟩
 | .nilfn,u,_,h=>h
 | .rptr cs,u,he,h=>by simp[D.esc] at he
 | .nilp,u,_,h=>h
 | .iface t v,u,he,h=>by
  obtain⟨u',e1,e2⟩:=h
  exact⟨u',e1,Zbg.lift h1 v u' he e2⟩
 | .nilI,u,_,h=>h
theorem Za2.lift (h1:∀b,A1 b→A1' b):∀(xs:List D) (us:List Value),D.escs xs=true→Za2 A1 A0 AL w xs us→Za2 A1' A0' AL' w xs us
 | [],us,_,h=>h
 | x :: xs,us,he,h=>by
  obtain⟨u,us',e1,e2,e3⟩:=h
  simp only[D.escs,Bool.and_eq_true] at he
  exact⟨u,us',e1,Zbg.lift h1 x u he.1 e2,Za2.lift h1 xs us' he.2.2 e3⟩
theorem Zfe.lift (h1:∀b,A1 b→A1' b) (b sz off:Nat):∀(xs:List D),(∀x∈xs,x.esc=true)→Zfe A1 A0 AL w b sz off xs→Zfe A1' A0' AL' w b sz off xs
 | [],_,h=>trivial
 | x :: xs,he,h=>by
  obtain⟨⟨u,e1,e2,e3⟩,e4⟩:=h
  exact⟨⟨u,Zbg.lift h1 x u (he x (by simp)) e1,e2,e3⟩,Zfe.lift h1 b sz (off+sz) xs (fun y hy=>he y (by simp[hy])) e4⟩
end
end
theorem Za2.liftT {A1 A1' A0 A0' AL AL':Nat→Prop}{w:World} (h1:∀b,A1 b→A1' b):∀(xs:List D) (us:List Value),Ztd xs=true→Za2 A1 A0 AL w xs us→Za2 A1' A0' AL' w xs us
 | [],us,_,h=>h
 | x :: xs,us,he,h=>by
  obtain⟨u,us',e1,e2,e3⟩:=h
  simp only[Ztd,Bool.and_eq_true] at he
  exact⟨u,us',e1,Zbg.lift h1 x u he.1 e2,Za2.liftT h1 xs us' he.2 e3⟩
theorem Z0 {α:Type}:∀(l:List α) (n:Nat),nth l n=l[n]?
 | [],n=>by simp[nth]
 | a :: l,0=>by simp[nth]
 | a :: l,n+1=>by simp[nth,Z0 l n]
theorem Zb5 {α:Type}:∀(l:List α) (n:Nat) (v:α),Zfp l n v=l.set n v
 | [],n,v=>by simp[Zfp]
 | a :: l,0,v=>by simp[Zfp]
 | a :: l,n+1,v=>by simp[Zfp,Zb5 l n v]
theorem ZnI {α:Type} (l:List α) (i:Int) (x:α) (h:ZE l i=some x):0≤i∧i<l.length∧l[i.toNat]? = some x:=by
 unfold ZE at h
 by_cases h0:0≤i
 ·simp only[h0,decide_true,cond_true,Z0] at h
  have:=(List.getElem?_eq_some_iff.1 h).1
  exact⟨h0,by omega,h⟩
 ·simp[h0] at h
section
variable {A1 A0 AL:Nat→Prop} {w:World}
theorem ZiJ {b sz:Nat}:∀(xs:List D) (off j:Nat) (x:D),Zfe A1 A0 AL w b sz off xs→xs[j]? = some x →
  ∃u,Zbg A1 A0 AL w x u∧u.cells.size=sz∧∀k v,u.cells[k]? = some v→w.cell? ⟨b,off+j*sz+k,none⟩=some v
 | [],off,j,x,_,hj=>by simp at hj
 | y :: xs,off,0,x,h,hj=>by
  simp at hj;subst hj
  obtain⟨⟨u,e1,e2,e3⟩,_⟩:=h
  exact⟨u,e1,e2,by simpa using e3⟩
 | y :: xs,off,j+1,x,h,hj=>by
  obtain⟨u,e1,e2,e3⟩:=ZiJ xs (off+sz) j x h.2 (by simpa using hj)
  exact⟨u,e1,e2,fun k v hk=>by rw[← e3 k v hk];congr 2;rw[Nat.succ_mul];omega⟩
theorem Zi9 {b sz:Nat}:∀(xs:List D) (off:Nat),(∀(j:Nat) x,xs[j]? = some x→∃u,Zbg A1 A0 AL w x u∧u.cells.size=sz∧∀k v,u.cells[k]? = some v→w.cell? ⟨b,off+j*sz+k,none⟩=some v) →
  Zfe A1 A0 AL w b sz off xs
 | [],off,_=>trivial
 | y :: xs,off,h=>by
  refine⟨by simpa using h 0 y (by simp),Zi9 xs (off+sz) fun j x hj=>?_⟩
  obtain⟨u,e1,e2,e3⟩:=h (j+1) x (by simpa using hj)
  exact⟨u,e1,e2,fun k v hk=>by rw[← e3 k v hk];congr 2;rw[Nat.succ_mul];omega⟩
theorem Zkc {b:Nat}:∀(xs:List D) (off j:Nat) (x:D),ZcS A1 A0 AL w b off xs→xs[j]? = some x→∃u,w.cell? ⟨b,off+j,none⟩=some u∧Zbg A1 A0 AL w x u
 | [],off,j,x,_,hj=>by simp at hj
 | y :: xs,off,0,x,h,hj=>by simp at hj;subst hj;simpa using h.1
 | y :: xs,off,j+1,x,h,hj=>by
  have:=Zkc xs (off+1) j x h.2 (by simpa using hj)
  rwa [show off+1+j=off+(j+1) from by omega] at this
theorem Zha {b:Nat}:∀(xs:List D) (off:Nat),(∀(j:Nat) x,xs[j]? = some x→∃u,w.cell? ⟨b,off+j,none⟩=some u∧Zbg A1 A0 AL w x u)→ZcS A1 A0 AL w b off xs
 | [],off,_=>trivial
 | y :: xs,off,h=>⟨by simpa using h 0 y (by simp),Zha xs (off+1) fun j x hj=>by
   have:=h (j+1) x (by simpa using hj)
   rwa [show off+(j+1)=off+1+j from by omega] at this⟩
theorem Zpu {b:Nat} (xs:List D) (off n:Nat) (h:ZcS A1 A0 AL w b off xs):ZcS A1 A0 AL w b (off+n) (xs.drop n):=
 Zha _ _ fun j x hj=>by
  have:=Zkc xs off (n+j) x h (by simpa using hj)
  rwa [← Nat.add_assoc] at this
theorem ZgR:∀(xs:List D) (us:List Value) (j:Nat) (x:D),Za2 A1 A0 AL w xs us→xs[j]? = some x→∃u,us[j]? = some u∧Zbg A1 A0 AL w x u
 | [],us,j,x,_,hj=>by simp at hj
 | y :: xs,us,0,x,h,hj=>by
  obtain⟨u,us',rfl,e1,e2⟩:=h
  simp at hj;subst hj
  exact⟨u,by simp,e1⟩
 | y :: xs,us,j+1,x,h,hj=>by
  obtain⟨u,us',rfl,e1,e2⟩:=h
  simpa using ZgR xs us' j x e2 (by simpa using hj)
theorem Zpv:∀(xs:List D) (us:List Value),Za2 A1 A0 AL w xs us→us.length=xs.length
 | [],us,h=>by simp only[Za2] at h;subst h;rfl
 | y :: xs,us,h=>by
  obtain⟨u,us',rfl,e1,e2⟩:=h
  simp[Zpv xs us' e2]
end
structure RP where
 B1:Nat→Prop
 B0:Nat→Prop
 M:Nat→Option (Option Nat)
 H:Zo
def RP.live (R:RP) (c:Nat):Prop:=∃i,Zab R.H i=true∧R.M i=some (some c)
def RP.AL (R:RP) (c:Nat):Prop:=¬R.live c
def RP.A0 (R:RP) (c:Nat):Prop:=¬R.live c∧¬R.B0 c
def RP.A1 (R:RP) (c:Nat):Prop:=¬R.live c∧¬R.B1 c
abbrev RP.den (R:RP) (w:World) (x:D) (u:Value):Prop:=Zbg R.A1 R.A0 R.AL w x u
def ZqD (w:World) (m:Option Nat) (xs:List D) (sz o len:Nat) (u:Value):Prop:=
 o+len≤xs.length∧∃a cap,u = .slice a len cap∧len≤cap ∧
  ((cap=0∧o=xs.length)∨∃c cs el fr,m=some c∧a=some ⟨c,o*sz,none⟩∧w.heap[c]? = some (.cells cs el fr)∧cs.size=(o+cap)*sz)
mutual
def Zbb (R:RP) (w:World):V→Value→Prop
 | .d x,u=>R.den w x u
 | .bad,_=>True
 | .ptr b o,u=>∃c,R.M b=some (some c)∧u = .pointer (some ⟨c,o,none⟩)
 | .eptr b sz i k,u=>∃c,R.M b=some (some c)∧u = .pointer (some ⟨c,i*sz+k,none⟩)
 | .sl b sz,u=>(∃a n c,u = .slice a n c)∧∃m,R.M b=some m∧∀xs,nth R.H b=some (.arr sz xs)→ZqD w m xs sz 0 xs.length u
 | .slp b sz o len,u=>(∃a n c,u = .slice a n c)∧∃m,R.M b=some m∧∀xs,nth R.H b=some (.arr sz xs)→ZqD w m xs sz o len u
 | .nilsl _,u=>∃a,u = .slice a 0 0
 | .agg cs,u=>∃us:List Value,u = .agg us.toArray∧ZaL R w cs us
 | .tup cs,u=>∃us:List Value,u = .tuple us.toArray∧ZaL R w cs us
 | .fn f caps,u=>∃us:List Value,u = .func (.func f) #[] us.toArray∧ZaL R w caps us
 | .mp b,u=>(∃a,u = .map a)∧∃m,R.M b=some m∧∀es,nth R.H b=some (.mp es)→∃c,m=some c∧u = .map (some c)
def ZaL (R:RP) (w:World):List V→List Value→Prop
 | [],us=>us=[]
 | x :: xs,us=>∃u us',us=u :: us'∧Zbb R w x u∧ZaL R w xs us'
end
end Go.Proofs.YtnmbdjkbaihicaaDoorE
namespace Go.Proofs.YtnmbdjkbaihicaaDoorE
open Go
set_option linter.unusedVariables false
set_option linter.unusedSimpArgs false
def Zrr (fr:Nat×Nat):Prop:=fr.2≤fr.1
theorem Zrr.not {w:World}{c:Nat}{cs:Array Value}{el:TypeId}{fr:Nat×Nat} (h:Zrr fr) (hc:w.heap[c]? = some (.cells cs el fr)) (o:Nat):w.frozen? ⟨c,o,none⟩=false:=by
 unfold Zrr at h
 simp only[World.frozen?,hc]
 by_cases h1:fr.1≤o
 ·by_cases h2:o<fr.2
  ·omega
  ·simp[h2]
 ·simp[h1]
def Ze8:D→Value
 | .bool b=>.bool b
 | .int k n=>.int k n
 | _=>undef
def ZiD:D→Value
 | .agg cs=>.agg (cs.map Ze8).toArray
 | x=>Ze8 x
def Zlm:D→Bool
 | .agg cs=>cs.all Zhq
 | x=>Zhq x
structure ZCR (w:World) (c:Nat) (es:List (D×D)):Prop where
 mk ::
 ex:∃mes clock,w.heap[c]? = some (.map mes clock)∧mes.toList.map (fun e=>(e.key,e.val))=es.map (fun q=>(ZiD q.1,Ze8 q.2))
 fl:∀q∈es,Zlm q.1=true∧Zhq q.2=true
def Zg9 (R:RP) (w:World) (m:Option Nat):Blk→Prop
 | .dead=>True
 | .cells vs=>∃c cs el fr,m=some c∧w.heap[c]? = some (.cells cs el fr)∧Zrr fr∧vs.length≤cs.size∧∀(k:Nat) v,vs[k]? = some v→∃u,cs[k]? = some u∧Zbb R w v u
 | .arr sz xs=>0<sz∧(∀x∈xs,x.esc=true)∧((m=none∧xs=[])∨∃c cs el,m=some c∧w.heap[c]? = some (.cells cs el (0,0))∧xs.length*sz≤cs.size ∧
   ∀(j:Nat) x,xs[j]? = some x→∃u,R.den w x u∧u.cells.size=sz∧∀(k:Nat) v,u.cells[k]? = some v→cs[j*sz+k]? = some v)
 | .mp es=>∃c,m=some c∧ZCR w c es
structure RP.OK (R:RP) (w:World):Prop where
 b01:∀c,R.B0 c→R.B1 c
 al:∀(i:Nat) blk,R.H[i]? = some blk→blk ≠ .dead→∃m,R.M i=some m
 inj:∀i j c,Zab R.H i=true→Zab R.H j=true→R.M i=some (some c)→R.M j=some (some c)→i=j
 lt:∀i c,R.M i=some (some c)→c<w.heap.size
 blk:∀(i:Nat) m blk,R.H[i]? = some blk→R.M i=some m→Zg9 R w m blk
 nb:∀i c,Zab R.H i=true→R.M i=some (some c)→¬R.B1 c
 bl:∀c,R.B1 c→c<w.heap.size
theorem Zw {H:Zo}{i:Nat}:Zab H i=true↔∃blk,H[i]? = some blk∧blk ≠ .dead:=by
 unfold Zab
 rw[Z0]
 cases h:H[i]? with
 | none=>simp
 | some blk=>cases blk<;>simp
def Blk.like:Blk→Blk→Prop
 | .cells _,.cells _=>True
 | .arr sz xs,.arr sz' ys=>sz=sz'∧ys.length=xs.length
 | .mp _,.mp _=>True
 | _,_=>False
structure Ext (R:RP) (w:World) (R':RP) (w':World):Prop where
 m:∀i x,R.M i=some x→R'.M i=some x
 h:∀(i:Nat) x blk,R.M i=some x→R'.H[i]? = some blk→blk ≠ .dead→∃old,R.H[i]? = some old∧old.like blk
 b1:R'.B1=R.B1
 b0:R'.B0=R.B0
 same:∀(b:Nat),b<w.heap.size→¬R.live b→w'.heap[b]? = w.heap[b]?
 row:∀(b:Nat) cs el fr,w.heap[b]? = some (Obj.cells cs el fr)→∃cs' el' fr',w'.heap[b]? = some (Obj.cells cs' el' fr')∧cs'.size=cs.size
 grow:w.heap.size≤w'.heap.size
 liv:∀c,c<w.heap.size→R'.live c→R.live c
 os:w'.os=w.os
 tape:w'.tape=w.tape
 output:w'.output=w.output
theorem Blk.like_refl {b:Blk} (h:b ≠ .dead):b.like b:=by cases b<;>simp_all [Blk.like]
theorem Ext.refl (R:RP) (w:World):Ext R w R w:=
 ⟨fun _ _ h=>h,fun i x blk _ h hd=>⟨blk,h,Blk.like_refl hd⟩,rfl,rfl,fun _ _ _=>rfl,fun _ cs el fr h=>⟨cs,el,fr,h,rfl⟩,Nat.le_refl _,fun _ _ h=>h,rfl,rfl,rfl⟩
theorem Blk.like_trans {a b c:Blk} (h:a.like b) (k:b.like c):a.like c:=by
 cases a<;>cases b<;>cases c<;>simp_all [Blk.like]
theorem Blk.like_ne {a b:Blk} (h:a.like b):a ≠ .dead:=by cases a<;>cases b<;>simp_all [Blk.like]
theorem Ext.trans {R R1 R2:RP}{w w1 w2:World} (h:Ext R w R1 w1) (k:Ext R1 w1 R2 w2):Ext R w R2 w2 where
 m:=fun i x hx=>k.m i x (h.m i x hx)
 h:=fun i x blk hx hb hd=>by
  obtain⟨o1,e1,e2⟩:=k.h i x blk (h.m i x hx) hb hd
  obtain⟨o,f1,f2⟩:=h.h i x o1 hx e1 (Blk.like_ne e2)
  exact⟨o,f1,Blk.like_trans f2 e2⟩
 b1:=k.b1.trans h.b1
 b0:=k.b0.trans h.b0
 same:=fun b hb hl=>(k.same b (Nat.lt_of_lt_of_le hb h.grow) (fun hl'=>hl (h.liv b hb hl'))).trans (h.same b hb hl)
 row:=fun b cs el fr hb=>by
  obtain⟨cs1,el1,fr1,e1,e2⟩:=h.row b cs el fr hb
  obtain⟨cs2,el2,fr2,f1,f2⟩:=k.row b cs1 el1 fr1 e1
  exact⟨cs2,el2,fr2,f1,f2.trans e2⟩
 grow:=Nat.le_trans h.grow k.grow
 liv:=fun c hc hl=>h.liv c hc (k.liv c (Nat.lt_of_lt_of_le hc h.grow) hl)
 os:=k.os.trans h.os
 tape:=k.tape.trans h.tape
 output:=k.output.trans h.output
section
variable {R R':RP} {w w':World}
theorem Ext.den (e:Ext R w R' w') (hb:∀c,R.B0 c→R.B1 c) {x:D}{u:Value} (h:R.den w x u):R'.den w' x u:=by
 refine Zbg.change _ _ _ _ ?_ ?_ ?_ ?_ e.grow ?_ ?_ x u h
 ·exact fun b hb' ⟨h1,h2⟩=>⟨fun hl=>h1 (e.liv b hb' hl),by rw[e.b1];exact h2⟩
 ·exact fun b hb' ⟨h1,h2⟩=>⟨fun hl=>h1 (e.liv b hb' hl),by rw[e.b0];exact h2⟩
 ·exact fun b hb' h1 hl=>h1 (e.liv b hb' hl)
 ·exact fun b hb' hl=>e.same b hb' hl
 ·exact fun b h=>h.1
 ·exact fun b h=>h.1
theorem Ext.slAt (e:Ext R w R' w') {m:Option Nat}{xs ys:List D}{sz o len:Nat}{u:Value} (hl:ys.length=xs.length) (h:ZqD w m xs sz o len u):ZqD w' m ys sz o len u:=by
 obtain⟨h1,a,cap,h2,h3,h4⟩:=h
 refine⟨by omega,a,cap,h2,h3,?_⟩
 rcases h4 with⟨h4,h5⟩ | ⟨c,cs,el,fr,h4,h5,h6,h7⟩
 ·exact .inl ⟨h4,by omega⟩
 ·obtain⟨cs',el',fr',f1,f2⟩:=e.row c cs el fr h6
  exact .inr ⟨c,cs',el',fr',h4,h5,f1,by omega⟩
mutual
theorem Ext.denV (e:Ext R w R' w') (hb:∀c,R.B0 c→R.B1 c):∀(v:V) (u:Value),Zbb R w v u→Zbb R' w' v u
 | .d x,u,h=>e.den hb h
 | .bad,_,h=>h
 | .ptr b o,u,h=>by
  obtain⟨c,h1,h2⟩:=h
  exact⟨c,e.m b _ h1,h2⟩
 | .eptr b sz i k,u,h=>by
  obtain⟨c,h1,h2⟩:=h
  exact⟨c,e.m b _ h1,h2⟩
 | .sl b sz,u,h=>by
  obtain⟨h0,m,h1,h2⟩:=h
  refine⟨h0,m,e.m b m h1,fun xs hc=>?_⟩
  rw[Z0] at hc
  obtain⟨old,f1,f2⟩:=e.h b m _ h1 hc (by simp)
  cases old<;>simp[Blk.like] at f2
  rename_i sz0 xs0
  obtain⟨rfl,f2⟩:=f2
  have:=e.slAt f2 (h2 xs0 (by rw[Z0];exact f1))
  rw[f2]
  exact this
 | .slp b sz o len,u,h=>by
  obtain⟨h0,m,h1,h2⟩:=h
  refine⟨h0,m,e.m b m h1,fun xs hc=>?_⟩
  rw[Z0] at hc
  obtain⟨old,f1,f2⟩:=e.h b m _ h1 hc (by simp)
  cases old<;>simp[Blk.like] at f2
  rename_i sz0 xs0
  obtain⟨rfl,f2⟩:=f2
  exact e.slAt f2 (h2 xs0 (by rw[Z0];exact f1))
 | .nilsl sz,u,h=>h
 | .agg cs,u,h=>by
  obtain⟨us,h1,h2⟩:=h
  exact⟨us,h1,Ext.denVs e hb cs us h2⟩
 | .tup cs,u,h=>by
  obtain⟨us,h1,h2⟩:=h
  exact⟨us,h1,Ext.denVs e hb cs us h2⟩
 | .fn f caps,u,h=>by
  obtain⟨us,h1,h2⟩:=h
  exact⟨us,h1,Ext.denVs e hb caps us h2⟩
 | .mp b,u,h=>by
  obtain⟨h0,m,h1,h2⟩:=h
  refine⟨h0,m,e.m b m h1,fun es hc=>?_⟩
  rw[Z0] at hc
  obtain⟨old,f1,f2⟩:=e.h b m _ h1 hc (by simp)
  cases old<;>simp[Blk.like] at f2
  rename_i es0
  exact h2 es0 (by rw[Z0];exact f1)
theorem Ext.denVs (e:Ext R w R' w') (hb:∀c,R.B0 c→R.B1 c):∀(vs:List V) (us:List Value),ZaL R w vs us→ZaL R' w' vs us
 | [],us,h=>h
 | v :: vs,us,h=>by
  obtain⟨u,us',h1,h2,h3⟩:=h
  exact⟨u,us',h1,Ext.denV e hb v u h2,Ext.denVs e hb vs us' h3⟩
end
theorem Ext.blkOK (e:Ext R w R' w') (hb:∀c,R.B0 c→R.B1 c) {m:Option Nat}{blk:Blk} (hs:∀(c:Nat),m=some c→w'.heap[c]? = w.heap[c]?) (h:Zg9 R w m blk):Zg9 R' w' m blk:=by
 cases blk with
 | dead=>trivial
 | cells vs=>
  obtain⟨c,cs,el,fr,h1,h2,h3,h4,h5⟩:=h
  refine⟨c,cs,el,fr,h1,by rw[hs c h1];exact h2,h3,h4,fun k v hk=>?_⟩
  obtain⟨u,f1,f2⟩:=h5 k v hk
  exact⟨u,f1,e.denV hb v u f2⟩
 | arr sz xs=>
  obtain⟨h0,h1,h2⟩:=h
  refine⟨h0,h1,?_⟩
  rcases h2 with h2 | ⟨c,cs,el,h3,h4,h5,h6⟩
  ·exact .inl h2
  ·refine .inr ⟨c,cs,el,h3,by rw[hs c h3];exact h4,h5,fun j x hj=>?_⟩
   obtain⟨u,f1,f2,f3⟩:=h6 j x hj
   exact⟨u,e.den hb f1,f2,f3⟩
 | mp es=>
  obtain⟨c,h1,⟨mes,clock,h2,h3⟩,h4⟩:=h
  exact⟨c,h1,⟨mes,clock,by rw[hs c h1];exact h2,h3⟩,h4⟩
end
theorem Ext.draw {R:RP}{w w':World} (hh:w'.heap=w.heap) (ho:w'.os=w.os) (ht:w'.tape=w.tape) (hp:w'.output=w.output):Ext R w R w':=
 ⟨fun _ _ h=>h,fun i x blk _ h hd=>⟨blk,h,Blk.like_refl hd⟩,rfl,rfl,fun _ _ _=>by rw[hh],fun _ cs el fr h=>⟨cs,el,fr,by rw[hh];exact h,rfl⟩,by rw[hh];exact Nat.le_refl _,fun _ _ h=>h,ho,ht,hp⟩
theorem RP.OK.draw {R:RP}{w w':World} (h:R.OK w) (hh:w'.heap=w.heap) (ho:w'.os=w.os) (ht:w'.tape=w.tape) (hp:w'.output=w.output):R.OK w':=
 ⟨h.b01,h.al,h.inj,fun i c hc=>by rw[hh];exact h.lt i c hc,fun i m blk h1 h2=>(Ext.draw (R:=R) hh ho ht hp).blkOK h.b01 (fun c _=>by rw[hh]) (h.blk i m blk h1 h2),h.nb,fun c hc=>by rw[hh];exact h.bl c hc⟩
theorem Ext.new {R:RP}{w:World}{H':Zo}{n:Nat}{blk:Blk}{m:Option Nat} (o:Obj) (hn:R.M n=none) (hH:∀(i:Nat),i≠n→H'[i]? = R.H[i]?) (hb:H'[n]? = some blk)
  (hm:m=none∨m=some w.heap.size) (lt:∀i c,R.M i=some (some c)→c<w.heap.size) (al:∀(i:Nat) blk,R.H[i]? = some blk→blk ≠ .dead→∃m,R.M i=some m) :
  Ext R w { R with M:=fun i=>if i=n then some m else R.M i,H:=H' } (w.alloc o) where
 m:=fun i x hx=>by
  have:i≠n:=fun e=>by rw[e,hn] at hx;cases hx
  simp[this,hx]
 h:=fun i x blk' hx hb' hd=>by
  have:i≠n:=fun e=>by rw[e,hn] at hx;cases hx
  simp only[hH i this] at hb'
  exact⟨blk',hb',Blk.like_refl hd⟩
 b1:=rfl
 b0:=rfl
 same:=fun b hb' _=>Go.RowKit.Below.heap_alloc _ _ _ hb'
 row:=fun b cs el fr hb'=>by
  have hlt:b<w.heap.size:=by
   rcases Nat.lt_or_ge b w.heap.size with h | h
   ·exact h
   ·rw[Array.getElem?_eq_none h] at hb';cases hb'
  exact⟨cs,el,fr,by rw[Go.RowKit.Below.heap_alloc _ _ _ hlt];exact hb',rfl⟩
 grow:=by simp
 liv:=fun c hc ⟨i,h1,h2⟩=>by
  by_cases e:i=n
  ·subst e
   simp only[if_true] at h2
   rcases hm with h | h
   ·rw[h] at h2;cases h2
   ·rw[h] at h2;cases h2;omega
  ·simp only[e,if_false] at h2
   refine⟨i,?_,h2⟩
   rw[Zw] at h1 ⊢
   obtain⟨b',f1,f2⟩:=h1
   exact⟨b',by rw[← hH i e];exact f1,f2⟩
 os:=rfl
 tape:=rfl
 output:=rfl
theorem RP.OK.new {R:RP}{w:World}{H':Zo}{n:Nat}{blk:Blk}{m:Option Nat}{o:Obj} (h:R.OK w) (hn:R.M n=none) (hH:∀(i:Nat),i≠n→H'[i]? = R.H[i]?) (hb:H'[n]? = some blk)
  (hm:m=none∨m=some w.heap.size)
  (hk:Ext R w { R with M:=fun i=>if i=n then some m else R.M i,H:=H' } (w.alloc o)→Zg9 { R with M:=fun i=>if i=n then some m else R.M i,H:=H' } (w.alloc o) m blk) :
  RP.OK { R with M:=fun i=>if i=n then some m else R.M i,H:=H' } (w.alloc o):=by
 have e:=Ext.new (R:=R) (w:=w) (H':=H') (n:=n) (blk:=blk) (m:=m) o hn hH hb hm h.lt h.al
 refine⟨h.b01,?_,?_,?_,?_,?_,fun c hc=>by have:=h.bl c hc;simp;omega⟩
 ·intro i blk' hi hd
  by_cases ei:i=n
  ·exact⟨m,by simp[ei]⟩
  ·simp only[hH i ei] at hi
   obtain⟨x,hx⟩:=h.al i blk' hi hd
   exact⟨x,by simp[ei,hx]⟩
 ·intro i j c hi hj h1 h2
  simp only at h1 h2
  by_cases ei:i=n<;>by_cases ej:j=n
  ·rw[ei,ej]
  ·rw[if_pos ei] at h1;rw[if_neg ej] at h2
   have:=h.lt j c h2
   rcases hm with h' | h'<;>rw[h'] at h1<;>cases h1
   omega
  ·rw[if_neg ei] at h1;rw[if_pos ej] at h2
   have:=h.lt i c h1
   rcases hm with h' | h'<;>rw[h'] at h2<;>cases h2
   omega
  ·rw[if_neg ei] at h1;rw[if_neg ej] at h2
   have l1:Zab R.H i=true:=by rw[Zw] at hi ⊢;obtain⟨b',f1,f2⟩:=hi;exact⟨b',by rw[← hH i ei];exact f1,f2⟩
   have l2:Zab R.H j=true:=by rw[Zw] at hj ⊢;obtain⟨b',f1,f2⟩:=hj;exact⟨b',by rw[← hH j ej];exact f1,f2⟩
   exact h.inj i j c l1 l2 h1 h2
 ·intro i c hc
  simp only at hc
  by_cases ei:i=n
  ·rw[if_pos ei] at hc
   rcases hm with h' | h'<;>rw[h'] at hc<;>cases hc
   simp
  ·rw[if_neg ei] at hc
   have:=h.lt i c hc
   simp;omega
 ·intro i x blk' hi hx
  simp only at hi hx
  by_cases ei:i=n
  ·subst ei
   rw[if_pos rfl] at hx
   cases hx
   rw[hb] at hi
   cases hi
   exact hk e
  ·rw[if_neg ei] at hx
   rw[hH i ei] at hi
   refine e.blkOK h.b01 (fun c hc=>?_) (h.blk i x blk' hi hx)
   exact Go.RowKit.Below.heap_alloc _ _ _ (h.lt i c (by rw[hx,hc]))
 ·intro i c hl hc hb1
  simp only at hc hb1
  by_cases ei:i=n
  ·rw[if_pos ei] at hc
   rcases hm with h' | h'<;>rw[h'] at hc<;>cases hc
   exact absurd (h.bl _ hb1) (by omega)
  ·rw[if_neg ei] at hc
   refine h.nb i c ?_ hc hb1
   rw[Zw] at hl ⊢;obtain⟨b',f1,f2⟩:=hl;exact⟨b',by rw[← hH i ei];exact f1,f2⟩
theorem Ext.kill {R:RP}{w:World}{H':Zo} (hH:∀(i:Nat) blk,H'[i]? = some blk→blk ≠ .dead→R.H[i]? = some blk):Ext R w { R with H:=H' } w:=
 ⟨fun _ _ h=>h,fun i x blk _ h hd=>⟨blk,hH i blk h hd,Blk.like_refl hd⟩,rfl,rfl,fun _ _ _=>rfl,fun _ cs el fr h=>⟨cs,el,fr,h,rfl⟩,Nat.le_refl _,
  fun c _ ⟨i,h1,h2⟩=>by
   rw[Zw] at h1
   obtain⟨blk,f1,f2⟩:=h1
   exact⟨i,Zw.2 ⟨blk,hH i blk f1 f2,f2⟩,h2⟩,rfl,rfl,rfl⟩
theorem RP.OK.kill {R:RP}{w:World}{H':Zo} (h:R.OK w) (hH:∀(i:Nat) blk,H'[i]? = some blk→blk ≠ .dead→R.H[i]? = some blk):RP.OK { R with H:=H' } w:=by
 have e:=Ext.kill (R:=R) (w:=w) hH
 have lv:∀i,Zab H' i=true→Zab R.H i=true:=fun i hi=>by
  rw[Zw] at hi ⊢
  obtain⟨blk,f1,f2⟩:=hi
  exact⟨blk,hH i blk f1 f2,f2⟩
 refine⟨h.b01,fun i blk hi hd=>h.al i blk (hH i blk hi hd) hd,fun i j c hi hj=>h.inj i j c (lv i hi) (lv j hj),h.lt,fun i m blk hi hm=>?_,fun i c hl=>h.nb i c (lv i hl),h.bl⟩
 by_cases hd:blk = .dead
 ·subst hd;trivial
 ·exact e.blkOK h.b01 (fun _ _=>rfl) (h.blk i m blk (hH i blk hi hd) hm)
end Go.Proofs.YtnmbdjkbaihicaaDoorE
namespace Go.Proofs.YtnmbdjkbaihicaaDoorE
open Go
set_option linter.unusedVariables false
set_option linter.unusedSimpArgs false
def Zds (P:Program) (o:Oper) (a:Act) (w:World) (Z4:Value→World→Prop):Prop:=
 (∃u w',(execOp a.eval o).run P w = .ok (.value u) w'∧Z4 u w')∨(∃w',(execOp a.eval o).run P w = .ok .skip w'∧Z4 undef w') ∨
 (∃f args w',(execOp a.eval o).run P w = .ok (.enter f args) w'∧Calls P f args w' fun e w''=>∃u,e = .returned u∧Z4 u w'')
theorem Zds.wp {P:Program}{o:Oper}{a:Act}{w:World}{Z4:Value→World→Prop}{K:Act→World→Prop}{Q:Exit→Act→World→Prop}
  (h:Zds P o a w Z4) (hK:∀u w',Z4 u w'→K (a.put o.dst u) w'):o.wp P a w K Q:=by
 unfold Oper.wp
 rcases h with⟨u,w',h1,h2⟩ | ⟨w',h1,h2⟩ | ⟨f,args,w',h1,h2⟩
 ·rw[h1];exact hK _ _ h2
 ·rw[h1];exact hK _ _ h2
 ·rw[h1]
  exact h2.mono fun e w'' ⟨u,he,hp⟩=>by subst he;exact hK _ _ hp
theorem Zds.val {P:Program}{o:Oper}{a:Act}{w w':World}{Z4:Value→World→Prop}{u:Value} (h:(execOp a.eval o).run P w = .ok (.value u) w') (hp:Z4 u w'):Zds P o a w Z4:=
 .inl ⟨u,w',h,hp⟩
mutual
def cv:V→Value→Bool
 | .d (.bool a),.bool b=>a==b
 | .d (.int k n),.int k' m=>k==k'&&n==m
 | .d (.str s),.string t=>decide (s=t)
 | .d .nilfn,.nilFunc=>true
 | .d .nilp,.pointer none=>true
 | .d .nilI,.nilIface=>true
 | .d (.fn f []),.func (.func g) a b=>f==g&&a.isEmpty&&b.isEmpty
 | .d (.agg ds),.agg us=>cds ds us.toList
 | .d (.list _ []),.slice _ n _=>n==0
 | .nilsl _,.slice _ n c=>n==0&&c==0
 | .agg vs,.agg us=>cvs vs us.toList
 | .bad,_=>true
 | _,_=>false
def cvs:List V→List Value→Bool
 | [],[]=>true
 | v :: vs,u :: us=>cv v u&&cvs vs us
 | _,_=>false
def cds:List D→List Value→Bool
 | [],[]=>true
 | .bool a :: ds,.bool b :: us=>a==b&&cds ds us
 | .int k n :: ds,.int k' m :: us=>k==k'&&n==m&&cds ds us
 | .str s :: ds,.string t :: us=>decide (s=t)&&cds ds us
 | .nilfn :: ds,.nilFunc :: us=>cds ds us
 | .nilp :: ds,.pointer none :: us=>cds ds us
 | .nilI :: ds,.nilIface :: us=>cds ds us
 | .list _ [] :: ds,.slice _ n _ :: us=>n==0&&cds ds us
 | _,_=>false
end
theorem Zza {A1 A0 AL:Nat→Prop}{w:World}:∀(ds:List D) (us:List Value),cds ds us=true→Za2 A1 A0 AL w ds us:=by
 intro ds
 induction ds with
 | nil=>intro us h;cases us<;>simp_all [cds,Za2]
 | cons x ds ih=>
  intro us h
  cases us with
  | nil=>cases x<;>simp_all [cds]
  | cons u us=>
   refine⟨u,us,rfl,?_⟩
   cases x with
   | bool a=>cases u<;>simp_all [cds,Zbg]
   | int k n=>cases u<;>simp_all [cds,Zbg]
   | str s=>
    cases u<;>simp only[cds,Bool.and_eq_true,decide_eq_true_eq,Bool.false_eq_true] at h
    exact⟨by rw[h.1];rfl,ih us h.2⟩
   | nilfn=>cases u<;>simp_all [cds,Zbg]
   | nilI=>cases u<;>simp_all [cds,Zbg]
   | nilp=>
    cases u with
    | pointer a=>cases a<;>simp_all [cds,Zbg]
    | _=>simp_all [cds]
   | list own xs=>
    cases xs with
    | nil=>
     cases u with
     | slice a n c=>
      simp only[cds,Bool.and_eq_true,beq_iff_eq] at h
      obtain⟨rfl,h⟩:=h
      exact⟨⟨a,0,c,rfl,rfl,Nat.zero_le _,by simp,by simp⟩,ih us h⟩
     | _=>simp_all [cds]
    | cons y ys=>cases u<;>simp_all [cds]
   | agg cs=>cases u<;>simp_all [cds]
   | tup cs=>cases u<;>simp_all [cds]
   | fn f cs=>cases u<;>simp_all [cds]
   | rptr cs=>cases u<;>simp_all [cds]
   | iface t v=>cases u<;>simp_all [cds]
mutual
theorem Zp3 {R:RP}{w:World}:∀(v:V) (u:Value),cv v u=true→Zbb R w v u
 | .bad,_,_=>trivial
 | .nilsl sz,u,h=>by
  cases u<;>simp_all [cv,Zbb]
 | .agg vs,u,h=>by
  cases u<;>simp only[cv] at h<;>try (cases h;done)
  rename_i us
  exact⟨us.toList,rfl,ZsJ vs us.toList h⟩
 | .d x,u,h=>by
  cases x with
  | bool a=>cases u<;>simp_all [cv,Zbb,RP.den,Zbg]
  | int k n=>cases u<;>simp_all [cv,Zbb,RP.den,Zbg]
  | str s=>
   cases u<;>simp only[cv,decide_eq_true_eq,Bool.false_eq_true] at h
   rw[h];rfl
  | nilfn=>cases u<;>simp_all [cv,Zbb,RP.den,Zbg]
  | nilI=>cases u<;>simp_all [cv,Zbb,RP.den,Zbg]
  | nilp=>
   cases u with
   | pointer a=>cases a<;>simp_all [cv,Zbb,RP.den,Zbg]
   | _=>simp_all [cv]
  | fn f cs=>
   cases cs with
   | cons=>cases u<;>simp_all [cv]
   | nil=>
    cases u with
    | func fn a b=>
     cases fn<;>simp only[cv,Bool.and_eq_true,beq_iff_eq,Array.isEmpty_iff,Bool.false_eq_true] at h
     obtain⟨⟨rfl,rfl⟩,rfl⟩:=h
     exact⟨[],rfl,rfl⟩
    | _=>simp_all [cv]
  | agg ds=>
   cases u<;>simp only[cv] at h<;>try (cases h;done)
   rename_i us
   exact⟨us.toList,rfl,Zza ds us.toList h⟩
  | list own xs=>
   cases xs with
   | cons=>cases u<;>simp_all [cv]
   | nil=>
    cases u<;>simp only[cv,beq_iff_eq] at h<;>try (cases h;done)
    subst h
    exact⟨_,0,_,rfl,rfl,Nat.zero_le _,by simp,by simp⟩
  | tup cs=>cases u<;>simp_all [cv]
  | rptr cs=>cases u<;>simp_all [cv]
  | iface t v=>cases u<;>simp_all [cv]
 | .ptr b o,u,h=>by cases u<;>simp_all [cv]
 | .eptr b sz i k,u,h=>by cases u<;>simp_all [cv]
 | .sl b sz,u,h=>by cases u<;>simp_all [cv]
 | .slp b sz o l,u,h=>by cases u<;>simp_all [cv]
 | .tup cs,u,h=>by cases u<;>simp_all [cv]
 | .fn f cs,u,h=>by cases u<;>simp_all [cv]
 | .mp b,u,h=>by cases u<;>simp_all [cv]
theorem ZsJ {R:RP}{w:World}:∀(vs:List V) (us:List Value),cvs vs us=true→ZaL R w vs us
 | [],us,h=>by cases us<;>simp_all [cvs,ZaL]
 | v :: vs,[],h=>by simp[cvs] at h
 | v :: vs,u :: us,h=>by
  simp only[cvs,Bool.and_eq_true] at h
  exact⟨u,us,rfl,Zp3 v u h.1,ZsJ vs us h.2⟩
end
abbrev ZbI:=Nat→Option (List (IntKind×Int))
def gD:List (IntKind×Int)→List D
 | []=>[]
 | (k,n) :: r=>.int k n :: gD r
def eqG:List (IntKind×Int)→List D→Bool
 | [],[]=>true
 | (k,n) :: r,.int k' n' :: s=>k==k'&&n==n'&&eqG r s
 | _,_=>false
theorem Zwo:∀(g:List (IntKind×Int)) (l:List D),eqG g l=true→l=gD g
 | [],[],_=>rfl
 | [],_ :: _,h=>by simp[eqG] at h
 | (k,n) :: r,[],h=>by simp[eqG] at h
 | (k,n) :: r,x :: s,h=>by
  cases x<;>simp only[eqG,Bool.and_eq_true,beq_iff_eq,Bool.false_eq_true] at h
  obtain⟨⟨rfl,rfl⟩,h⟩:=h
  rw[gD,Zwo r s h]
def ZU (G:ZbI):Operand→Opd→Bool
 | .tmp i,.t j=>i==j
 | .const u,.c v=>cv v u
 | .func f,.c (.d (.fn g []))=>f==g
 | .global g,.c (.d (.rptr cs))=>match G g with | some l=>eqG l cs | none=>false
 | _,_=>false
def Ze3 (G:ZbI):List Operand→List Opd→Bool
 | [],[]=>true
 | x :: xs,y :: ys=>ZU G x y&&Ze3 G xs ys
 | _,_=>false
def GOK (G:ZbI) (R:RP) (w:World):Prop:=∀g l,G g=some l→R.den w (.rptr (gD l)) (.pointer (some ⟨g,0,none⟩))
def Zhn (R:RP) (w:World) (e:Env) (a:Act):Prop:=∀t,Zbb R w (e t) (a.tmps.getD t undef)
theorem Zn3 {G:ZbI}{R:RP}{w:World}{e:Env}{a:Act} (hg:GOK G R w) (he:Zhn R w e a) {x:Operand}{y:Opd} (h:ZU G x y=true):Zbb R w (y.val e) (a.eval x):=by
 cases x with
 | tmp i=>
  cases y with
  | t j=>
   simp only[ZU,beq_iff_eq] at h
   subst h
   exact he i
  | c v=>simp[ZU] at h
 | const u=>
  cases y with
  | t j=>simp[ZU] at h
  | c v=>exact Zp3 v u h
 | func f=>
  cases y with
  | t j=>simp[ZU] at h
  | c v=>
   cases v with
   | d x=>
    cases x with
    | fn g caps=>
     cases caps with
     | nil=>
      simp only[ZU,beq_iff_eq] at h
      subst h
      exact⟨[],rfl,rfl⟩
     | cons=>simp[ZU] at h
    | _=>simp[ZU] at h
   | _=>simp[ZU] at h
 | global g=>
  cases y with
  | t j=>simp[ZU] at h
  | c v=>
   cases v with
   | d x=>
    cases x with
    | rptr cs=>
     cases hG:G g with
     | none=>simp[ZU,hG] at h
     | some l=>
      simp only[ZU,hG] at h
      rw[Zwo l cs h]
      exact hg g l hG
    | _=>simp[ZU] at h
   | _=>simp[ZU] at h
theorem Zqd {G:ZbI}{R:RP}{w:World}{e:Env}{a:Act} (hg:GOK G R w) (he:Zhn R w e a):∀{xs:List Operand}{ys:List Opd},Ze3 G xs ys=true→ZaL R w (vals e ys) (xs.map a.eval)
 | [],[],_=>rfl
 | [],_ :: _,h=>by simp[Ze3] at h
 | _ :: _,[],h=>by simp[Ze3] at h
 | x :: xs,y :: ys,h=>by
  simp only[Ze3,Bool.and_eq_true] at h
  exact⟨_,_,rfl,Zn3 hg he h.1,Zqd hg he h.2⟩
theorem Ext.gok {G:ZbI}{R R':RP}{w w':World} (e:Ext R w R' w') (hb:∀c,R.B0 c→R.B1 c) (h:GOK G R w):GOK G R' w':=fun g l hg=>e.den hb (h g l hg)
theorem Ext.envOK {R R':RP}{w w':World} (x:Ext R w R' w') (hb:∀c,R.B0 c→R.B1 c) {e:Env}{a:Act} (h:Zhn R w e a):Zhn R' w' e a:=fun t=>x.denV hb _ _ (h t)
def Zak (H:Zo) (up:List (Nat×Blk)) (nid:Nat) (nw:List Blk) (H':Zo):Prop:=
 ∀i,H'[i]? = if nid≤i∧i<nid+nw.length then nw[i-nid]? else (Zeq H up)[i]?
def Z4 (R:RP) (w:World) (nid n:Nat) (H':Zo) (v:V) (u:Value) (w':World):Prop:=
 ∃R',Ext R w R' w'∧R'.OK w'∧R'.H=H'∧Zbb R' w' v u∧∀i,R.M i=none→¬(nid≤i∧i<nid+n)→R'.M i=none
theorem Zak.same {H H':Zo}{nid:Nat} (h:Zak H [] nid [] H'):H'=H:=by
 apply List.ext_getElem?
 intro i
 have:=h i
 simp only[List.length_nil,Nat.add_zero,Zeq] at this
 rw[this,if_neg (by omega)]
theorem Z4.still {R:RP}{w w':World}{nid:Nat}{H':Zo}{v:V}{u:Value} (ok:R.OK w) (hp:Zak R.H [] nid [] H') (hh:w'.heap=w.heap) (ho:w'.os=w.os) (ht:w'.tape=w.tape) (hpt:w'.output=w.output)
  (hv:Zbb R w v u):Z4 R w nid 0 H' v u w':=
 ⟨R,Ext.draw hh ho ht hpt,ok.draw hh ho ht hpt,hp.same.symm,(Ext.draw hh ho ht hpt).denV ok.b01 v u hv,fun i h _=>h⟩
theorem Z4.stay {R:RP}{w:World}{nid:Nat}{H':Zo}{v:V}{u:Value} (ok:R.OK w) (hp:Zak R.H [] nid [] H') (hv:Zbb R w v u):Z4 R w nid 0 H' v u w:=
 Z4.still ok hp rfl rfl rfl rfl hv
theorem Z4.new {R:RP}{w:World}{nid:Nat}{H':Zo}{v:V}{u:Value}{blk:Blk}{m:Option Nat} (o:Obj) (ok:R.OK w) (hp:Zak R.H [] nid [blk] H') (hn:R.M nid=none) (hm:m=none∨m=some w.heap.size)
  (hk:∀R':RP,Ext R w R' (w.alloc o)→R'.M nid=some m→R'.H[nid]? = some blk→Zg9 R' (w.alloc o) m blk∧(Zg9 R' (w.alloc o) m blk→Zbb R' (w.alloc o) v u)):Z4 R w nid 1 H' v u (w.alloc o):=by
 have hH:∀i,i≠nid→H'[i]? = R.H[i]?:=fun i hi=>by
  have:=hp i
  rw[this,if_neg (by simp;omega)];rfl
 have hb:H'[nid]? = some blk:=by
  have:=hp nid
  rw[this,if_pos (by simp)];simp
 have e:=Ext.new (R:=R) (w:=w) (H':=H') (n:=nid) (blk:=blk) (m:=m) o hn hH hb hm ok.lt ok.al
 have hk':=hk _ e (by simp) hb
 exact⟨_,e,ok.new hn hH hb hm (fun _=>hk'.1),rfl,hk'.2 hk'.1,fun i hi hni=>by
  have:i≠nid:=fun h=>hni (by subst h;simp)
  simp[this,hi]⟩
end Go.Proofs.YtnmbdjkbaihicaaDoorE
namespace Go.Proofs.YtnmbdjkbaihicaaDoorE
open Go
set_option linter.unusedVariables false
set_option linter.unusedSimpArgs false
def Le {α:Type} (x y:Option α):Prop:=∀a,x=some a→y=some a
theorem Le.refl {α:Type} (x:Option α):Le x x:=fun _ h=>h
theorem Le.trans {α:Type}{x y z:Option α} (h:Le x y) (k:Le y z):Le x z:=fun a ha=>k a (h a ha)
theorem Le.none {α:Type} (x:Option α):Le none x:=fun _ h=>by cases h
noncomputable def Zyg {α:Type} (F:Nat→Option α):Option α:=open Classical in if h:∃n,(F n).isSome=true then F (Classical.choose h) else none
theorem Ztt {α:Type}{F:Nat→Option α} (mono:∀n m,n≤m→Le (F n) (F m)) (a:α):Zyg F=some a↔∃n,F n=some a:=by
 unfold Zyg
 constructor
 ·intro h
  split at h
  ·rename_i hx;exact⟨_,h⟩
  ·cases h
 ·rintro ⟨n,hn⟩
  have hx:∃n,(F n).isSome=true:=⟨n,by simp[hn]⟩
  rw[dif_pos hx]
  have hs:=Classical.choose_spec hx
  cases hv:F (Classical.choose hx) with
  | none=>rw[hv] at hs;cases hs
  | some b=>
   rcases Nat.le_total n (Classical.choose hx) with h | h
   ·rw[← hv];exact mono _ _ h a hn
   ·have:=mono _ _ h b hv;rw[hn] at this;exact this.symm
def LeC (f g:Zbs):Prop:=∀a b c,Le (f a b c) (g a b c)
abbrev Rnd:=List V→Zo→Option Lp
abbrev ItF:=Rnd→List V→Zo→Option (Ex×List V×Zo)
def LeR (f g:Rnd):Prop:=∀a b,Le (f a b) (g a b)
def LeI (f g:ItF):Prop:=∀F G,LeR F G→∀a b,Le (f F a b) (g G a b)
theorem ZjD {Γ:Ctx}{cf cg:Zbs} (h:LeC cf cg) (nid:Nat) (H:Zo) (f:Nat) (args:List V):Le (Zgn Γ cf nid H f args) (Zgn Γ cg nid H f args):=by
 intro r hr
 unfold Zgn at hr ⊢
 split at hr
 ·rename_i hm
  cases h1:fzs H args with
  | none=>simp[h1] at hr
  | some l=>
   simp only[h1] at hr ⊢
   cases h2:cf f (ZcU l) [] with
   | none=>simp[h2] at hr
   | some p=>rw[h2] at hr;rw[h _ _ _ p h2];exact hr
 ·rename_i hm
  cases h1:fzs H args with
  | none=>simp[h1] at hr
  | some l=>
   simp only[h1] at hr ⊢
   cases h2:cf f (ZcU l) [] with
   | none=>simp[h2] at hr
   | some p=>rw[h2] at hr;rw[h _ _ _ p h2];exact hr
 ·cases h1:extract 0 args H with
  | none=>simp[h1] at hr
  | some q=>
   obtain⟨L,args',H0⟩:=q
   simp only[h1] at hr ⊢
   cases h2:cf f args' H0 with
   | none=>simp[h2] at hr
   | some p=>rw[h2] at hr;rw[h _ _ _ p h2];exact hr
theorem ZgB {Γ:Ctx}{cf:Zbs} (e:Env) (nid:Nat) (H:Zo) (x:Opd) (args:List Opd) :
  opE Γ cf e nid H (.callv x args)=match ZjP (x.val e) with | some (f,caps)=>(match Zgp Γ (x.val e) f caps with | true=>none | false=>Zgn Γ cf nid H f (vals e args++caps)) | none=>none:=rfl
theorem Zf1 {Γ:Ctx}{cf:Zbs} (e:Env) (nid:Nat) (H:Zo) (tab:List (Nat×Nat)) (x:Opd) (args:List Opd) :
  opE Γ cf e nid H (.invoke tab x args)=match x.val e with
   | .d (.iface t y)=>(match Zld tab t with | some f=>Zgn Γ cf nid H f (.d y :: vals e args) | none=>none)
   | _=>none:=rfl
theorem Zl0 {Γ:Ctx}{cf cg:Zbs} (h:LeC cf cg) (e:Env) (nid:Nat) (H:Zo) (o:O):Le (opE Γ cf e nid H o) (opE Γ cg e nid H o):=by
 intro r hr
 cases o<;>try exact hr
 ·exact ZjD h _ _ _ _ r hr
 ·rename_i x args
  rw[ZgB] at hr ⊢
  cases h1:ZjP (x.val e) with
  | none=>simp[h1] at hr
  | some q=>
   obtain⟨f,caps⟩:=q;simp only[h1] at hr ⊢
   cases hb:Zgp Γ (x.val e) f caps with
   | true=>rw[hb] at hr;cases hr
   | false=>rw[hb] at hr;exact ZjD h _ _ _ _ r hr
 ·rename_i tab x args
  rw[Zf1] at hr ⊢
  split at hr
  ·rename_i t y hx
   split at hr
   ·exact ZjD h _ _ _ _ r hr
   ·cases hr
  ·cases hr
 ·exact ZjD h _ _ _ _ r hr
theorem ZkS {Γ:Ctx}{cf cg:Zbs} (h:LeC cf cg):∀(l:List Op1) (e:Env) (H:Zo),Le (ZhU Γ cf l e H) (ZhU Γ cg l e H)
 | [],e,H,r,hr=>hr
 | o :: l,e,H,r,hr=>by
  unfold ZhU at hr ⊢
  cases hw:ZfG e o.guard with
  | none=>simp[hw] at hr
  | some b=>
   cases b with
   | false=>simp only[hw] at hr ⊢;exact ZkS h l _ _ r hr
   | true=>
    simp only[hw] at hr ⊢
    cases ho:opE Γ cf e H.length H o.op with
    | none=>simp[ho] at hr
    | some q=>
     rw[ho] at hr;rw[Zl0 h _ _ _ _ q ho]
     exact ZkS h l _ _ r hr
theorem Zjs {Γ:Ctx}{cf cg:Zbs} (h:LeC cf cg):∀(l:List Op1) (pos:List (Nat×Nat)) (e:Env) (H:Zo),Le (ZfB Γ cf pos l e H) (ZfB Γ cg pos l e H)
 | [],pos,e,H,r,hr=>hr
 | o :: l,pos,e,H,r,hr=>by
  unfold ZfB at hr ⊢
  cases hw:ZfG e o.guard with
  | none=>simp[hw] at hr
  | some b=>
   cases b with
   | false=>simp only[hw] at hr ⊢;exact Zjs h l _ _ _ r hr
   | true=>
    simp only[hw] at hr ⊢
    cases ho:opE Γ cf e H.length (Zgk H pos o.mask) o.op with
    | none=>simp[ho] at hr
    | some q=>
     rw[ho] at hr;rw[Zl0 h _ _ _ _ q ho]
     obtain⟨v,up,nw⟩:=q
     dsimp only at hr ⊢
     cases hb:(Zn2 e H o up nw) with
     | false=>simp[hb] at hr
     | true=>simp only[hb,cond_true] at hr ⊢;exact Zjs h l _ _ _ r hr
theorem Zkv {k:Nat}{live outs:List Nat}{x y:Option (Ex×Env×Zo)} (h:Le x y):Le (ZeB k live outs x) (ZeB k live outs y):=by
 intro r hr
 cases x with
 | none=>simp[ZeB] at hr
 | some q=>rw[h q rfl];exact hr
theorem Zou {Γ:Ctx}{cf cg:Zbs}{It Jt:ItF} (h:LeC cf cg) (hi:LeI It Jt) (k:Nat):∀(c:C) (e:Env) (H:Zo),Le (Zan Γ cf It k c e H) (Zan Γ cg Jt k c e H):=by
 intro c
 induction c with
 | skip=>intro e H;exact Le.refl _
 | ret=>intro e H;exact Le.refl _
 | exit id=>intro e H;exact Le.refl _
 | seq a b iha ihb=>
  intro e H r hr
  unfold Zan at hr ⊢
  cases ha:Zan Γ cf It k a e H with
  | none=>simp[ha] at hr
  | some q=>
   rw[ha] at hr;rw[iha e H q ha]
   obtain⟨x,e1,H1⟩:=q
   cases x with
   | normal=>exact ihb e1 H1 r hr
   | exit id=>exact hr
   | ret=>exact hr
 | cond x a b iha ihb=>
  intro e H r hr
  unfold Zan at hr ⊢
  split at hr
  ·rename_i t ht
   cases t with
   | true=>exact iha e H r hr
   | false=>exact ihb e H r hr
  ·cases hr
 | block id a iha=>
  intro e H r hr
  unfold Zan at hr ⊢
  cases ha:Zan Γ cf It k a e H with
  | none=>simp[ha] at hr
  | some q=>rw[ha] at hr;rw[iha e H q ha];exact hr
 | loop live outs a iha=>
  intro e H r hr
  unfold Zan at hr ⊢
  cases hh:ZnB k (live.map e) H with
  | none=>simp[hh] at hr
  | some q=>
   obtain⟨vs,H1⟩:=q
   simp only[hh] at hr ⊢
   cases hit:It (fun vs H=>ZeB k live outs (Zan Γ cf It k a (Zef live vs) H)) vs H1 with
   | none=>simp[hit] at hr
   | some p=>
    rw[hit] at hr
    rw[hi _ (fun vs H=>ZeB k live outs (Zan Γ cg Jt k a (Zef live vs) H)) (fun vs H=>Zkv (iha (Zef live vs) H)) vs H1 p hit]
    exact hr
 | ops l=>
  intro e H r hr
  unfold Zan at hr ⊢
  cases ho:ZhU Γ cf l e H with
  | none=>simp[ho] at hr
  | some q=>rw[ho] at hr;rw[ZkS h l e H q ho];exact hr
 | draw l=>
  intro e H r hr
  unfold Zan at hr ⊢
  cases ho:ZfB Γ cf [] l e H with
  | none=>simp[ho] at hr
  | some q=>rw[ho] at hr;rw[Zjs h l _ e H q ho];exact hr
theorem ZpT {Γ:Ctx}{cf cg:Zbs}{It Jt:ItF} (h:LeC cf cg) (hi:LeI It Jt) (f:Nat) (args:List V) (H:Zo):Le (Zj3 Γ cf It f args H) (Zj3 Γ cg Jt f args H):=by
 intro r hr
 unfold Zj3 at hr ⊢
 cases hc:Γ.code f with
 | none=>simp[hc] at hr
 | some fn=>
  simp only[hc] at hr ⊢
  cases hn:Nat.beq args.length fn.nargs with
  | false=>simp[hn] at hr
  | true=>
   simp only[hn,cond_true] at hr ⊢
   cases hx:Zan Γ cf It H.length fn.body (ZeM 0 args) H with
   | none=>simp[hx] at hr
   | some q=>rw[hx] at hr;rw[Zou h hi _ _ _ _ q hx];exact hr
theorem ZfW {F G:Rnd} (h:LeR F G):∀(n m:Nat),n≤m→∀vs H,Le (Zdk F n vs H) (Zdk G m vs H)
 | 0,m,_,vs,H=>Le.none _
 | n+1,0,hm,vs,H=>absurd hm (by omega)
 | n+1,m+1,hm,vs,H=>by
  intro r hr
  unfold Zdk at hr ⊢
  cases hf:F vs H with
  | none=>simp[hf] at hr
  | some q=>
   rw[hf] at hr;rw[h vs H q hf]
   cases q with
   | again vs H=>exact ZfW h n m (by omega) vs H r hr
   | done x vs H=>exact hr
theorem ZhV (Γ:Ctx):∀(n m:Nat),n≤m→LeC (evN Γ n) (evN Γ m)
 | 0,m,_=>fun _ _ _=>Le.none _
 | n+1,0,hm=>absurd hm (by omega)
 | n+1,m+1,hm=>fun f args H=>ZpT (ZhV Γ n m (by omega)) (fun F G h vs H=>ZfW h n m (by omega) vs H) f args H
noncomputable def evW (Γ:Ctx):Zbs:=fun f args H=>Zyg fun n=>evN Γ n f args H
noncomputable def itW:ItF:=fun F vs H=>Zyg fun n=>Zdk F n vs H
theorem Zig (Γ:Ctx) (f:Nat) (args:List V) (H:Zo) (r:V×Zo):evW Γ f args H=some r↔∃n,evN Γ n f args H=some r:=
 Ztt (fun n m h=>ZhV Γ n m h f args H) r
theorem Zit (F:Rnd) (vs:List V) (H:Zo) (r:Ex×List V×Zo):itW F vs H=some r↔∃n,Zdk F n vs H=some r:=
 Ztt (fun n m h=>ZfW (fun _ _=>Le.refl _) n m h vs H) r
theorem Zy7 (F:Rnd) (vs:List V) (H:Zo):itW F vs H=match F vs H with | some (.again vs H)=>itW F vs H | some (.done x vs H)=>some (x,vs,H) | none=>none:=by
 cases hf:F vs H with
 | none=>
  cases h:itW F vs H with
  | none=>rfl
  | some r=>
   obtain⟨n,hn⟩:=(Zit F vs H r).1 h
   cases n with
   | zero=>simp[Zdk] at hn
   | succ n=>simp[Zdk,hf] at hn
 | some q=>
  cases q with
  | done x vs' H'=>exact(Zit F vs H _).2 ⟨1,by simp[Zdk,hf]⟩
  | again vs' H'=>
   dsimp only
   cases h:itW F vs' H' with
   | some r=>
    obtain⟨n,hn⟩:=(Zit F vs' H' r).1 h
    exact(Zit F vs H r).2 ⟨n+1,by simp[Zdk,hf,hn]⟩
   | none=>
    cases h2:itW F vs H with
    | none=>rfl
    | some r=>
     obtain⟨n,hn⟩:=(Zit F vs H r).1 h2
     cases n with
     | zero=>simp[Zdk] at hn
     | succ n=>
      simp[Zdk,hf] at hn
      rw[(Zit F vs' H' r).2 ⟨n,hn⟩] at h
      cases h
section
variable {Γ:Ctx}
theorem Zjw (nid:Nat) (H:Zo) (f:Nat) (args:List V) (r:V×List (Nat×Blk)×List Blk) (hr:Zgn Γ (evW Γ) nid H f args=some r):∃n,Zgn Γ (evN Γ n) nid H f args=some r:=by
 unfold Zgn at hr ⊢
 split at hr
 ·cases h1:fzs H args with
  | none=>simp[h1] at hr
  | some l=>
   simp only[h1] at hr ⊢
   cases h2:evW Γ f (ZcU l) [] with
   | none=>simp[h2] at hr
   | some p=>obtain⟨n,hn⟩:=(Zig Γ f (ZcU l) [] p).1 h2;exact⟨n,by rw[hn];rw[h2] at hr;exact hr⟩
 ·cases h1:fzs H args with
  | none=>simp[h1] at hr
  | some l=>
   simp only[h1] at hr ⊢
   cases h2:evW Γ f (ZcU l) [] with
   | none=>simp[h2] at hr
   | some p=>obtain⟨n,hn⟩:=(Zig Γ f (ZcU l) [] p).1 h2;exact⟨n,by rw[hn];rw[h2] at hr;exact hr⟩
 ·cases h1:extract 0 args H with
  | none=>simp[h1] at hr
  | some q=>
   obtain⟨L,args',H0⟩:=q
   simp only[h1] at hr ⊢
   cases h2:evW Γ f args' H0 with
   | none=>simp[h2] at hr
   | some p=>obtain⟨n,hn⟩:=(Zig Γ f args' H0 p).1 h2;exact⟨n,by rw[hn];rw[h2] at hr;exact hr⟩
theorem Zr6 (e:Env) (nid:Nat) (H:Zo) (o:O) (r:V×List (Nat×Blk)×List Blk) (hr:opE Γ (evW Γ) e nid H o=some r):∃n,opE Γ (evN Γ n) e nid H o=some r:=by
 cases o<;>try exact⟨0,hr⟩
 ·exact Zjw _ _ _ _ r hr
 ·rename_i x args
  rw[ZgB] at hr
  cases h1:ZjP (x.val e) with
  | none=>simp[h1] at hr
  | some q=>
   obtain⟨f,caps⟩:=q;simp only[h1] at hr
   cases hb:Zgp Γ (x.val e) f caps with
   | true=>rw[hb] at hr;cases hr
   | false=>
    rw[hb] at hr
    obtain⟨n,hn⟩:=Zjw _ _ _ _ r hr
    exact⟨n,by rw[ZgB];simp only[h1,hb];exact hn⟩
 ·rename_i tab x args
  rw[Zf1] at hr
  split at hr
  ·rename_i t y hx
   cases hl:Zld tab t with
   | none=>simp[hl] at hr
   | some f=>
    simp only[hl] at hr
    obtain⟨n,hn⟩:=Zjw _ _ _ _ r hr
    exact⟨n,by rw[Zf1];simp only[hx,hl];exact hn⟩
  ·cases hr
 ·exact Zjw _ _ _ _ r hr
theorem Zm1:∀(l:List Op1) (e:Env) (H:Zo) (r:Env×Zo),ZhU Γ (evW Γ) l e H=some r→∃n,ZhU Γ (evN Γ n) l e H=some r
 | [],e,H,r,hr=>⟨0,hr⟩
 | o :: l,e,H,r,hr=>by
  unfold ZhU at hr
  cases hw:ZfG e o.guard with
  | none=>simp[hw] at hr
  | some b=>
   cases b with
   | false=>
    simp only[hw] at hr
    obtain⟨n,hn⟩:=Zm1 l _ _ r hr
    exact⟨n,by unfold ZhU;simp only[hw];exact hn⟩
   | true=>
    simp only[hw] at hr
    cases ho:opE Γ (evW Γ) e H.length H o.op with
    | none=>simp[ho] at hr
    | some q=>
     rw[ho] at hr
     obtain⟨n,hn⟩:=Zr6 _ _ _ _ q ho
     obtain⟨v,up,nw⟩:=q
     obtain⟨m,hm⟩:=Zm1 l _ _ r hr
     refine⟨max n m,?_⟩
     unfold ZhU
     simp only[hw]
     rw[Zl0 (ZhV Γ n (max n m) (Nat.le_max_left _ _)) _ _ _ _ _ hn]
     exact ZkS (ZhV Γ m (max n m) (Nat.le_max_right _ _)) l _ _ r hm
theorem Zlx:∀(l:List Op1) (pos:List (Nat×Nat)) (e:Env) (H:Zo) (r:Env×Zo),ZfB Γ (evW Γ) pos l e H=some r→∃n,ZfB Γ (evN Γ n) pos l e H=some r
 | [],pos,e,H,r,hr=>⟨0,hr⟩
 | o :: l,pos,e,H,r,hr=>by
  unfold ZfB at hr
  cases hw:ZfG e o.guard with
  | none=>simp[hw] at hr
  | some b=>
   cases b with
   | false=>
    simp only[hw] at hr
    obtain⟨n,hn⟩:=Zlx l _ _ _ r hr
    exact⟨n,by unfold ZfB;simp only[hw];exact hn⟩
   | true=>
    simp only[hw] at hr
    cases ho:opE Γ (evW Γ) e H.length (Zgk H pos o.mask) o.op with
    | none=>simp[ho] at hr
    | some q=>
     rw[ho] at hr
     obtain⟨n,hn⟩:=Zr6 _ _ _ _ q ho
     obtain⟨v,up,nw⟩:=q
     dsimp only at hr
     cases hb:(Zn2 e H o up nw) with
     | false=>simp[hb] at hr
     | true=>
      simp only[hb,cond_true] at hr
      obtain⟨m,hm⟩:=Zlx l _ _ _ r hr
      refine⟨max n m,?_⟩
      unfold ZfB
      simp only[hw]
      rw[Zl0 (ZhV Γ n (max n m) (Nat.le_max_left _ _)) _ _ _ _ _ hn]
      simp only[hb,cond_true]
      exact Zjs (ZhV Γ m (max n m) (Nat.le_max_right _ _)) l _ _ _ r hm
theorem Ztk (k:Nat):∀(c:C) (e:Env) (H:Zo) (r:Ex×Env×Zo),Zan Γ (evW Γ) itW k c e H=some r→∃n,Zan Γ (evN Γ n) (fun F=>Zdk F n) k c e H=some r:=by
 have up:∀(c:C) (e:Env) (H:Zo) (r:Ex×Env×Zo) (n m:Nat),n≤m→Zan Γ (evN Γ n) (fun F=>Zdk F n) k c e H=some r→Zan Γ (evN Γ m) (fun F=>Zdk F m) k c e H=some r:=
  fun c e H r n m h=>Zou (ZhV Γ n m h) (fun F G hFG vs H=>ZfW hFG n m h vs H) k c e H r
 intro c
 induction c with
 | skip=>intro e H r hr;exact⟨0,hr⟩
 | ret=>intro e H r hr;exact⟨0,hr⟩
 | exit id=>intro e H r hr;exact⟨0,hr⟩
 | seq a b iha ihb=>
  intro e H r hr
  unfold Zan at hr
  cases ha:Zan Γ (evW Γ) itW k a e H with
  | none=>simp[ha] at hr
  | some q=>
   rw[ha] at hr
   obtain⟨n,hn⟩:=iha e H q ha
   obtain⟨x,e1,H1⟩:=q
   cases x with
   | normal=>
    obtain⟨m,hm⟩:=ihb e1 H1 r hr
    refine⟨max n m,?_⟩
    unfold Zan
    rw[up a e H _ n _ (Nat.le_max_left _ _) hn]
    exact up b e1 H1 r m _ (Nat.le_max_right _ _) hm
   | exit id=>exact⟨n,by unfold Zan;rw[hn];exact hr⟩
   | ret=>exact⟨n,by unfold Zan;rw[hn];exact hr⟩
 | cond x a b iha ihb=>
  intro e H r hr
  unfold Zan at hr
  split at hr
  ·rename_i t ht
   cases t with
   | true=>obtain⟨n,hn⟩:=iha e H r hr;exact⟨n,by unfold Zan;simp only[ht];exact hn⟩
   | false=>obtain⟨n,hn⟩:=ihb e H r hr;exact⟨n,by unfold Zan;simp only[ht];exact hn⟩
  ·cases hr
 | block id a iha=>
  intro e H r hr
  unfold Zan at hr
  cases ha:Zan Γ (evW Γ) itW k a e H with
  | none=>simp[ha] at hr
  | some q=>rw[ha] at hr;obtain⟨n,hn⟩:=iha e H q ha;exact⟨n,by unfold Zan;rw[hn];exact hr⟩
 | loop live outs a iha=>
  intro e H r hr
  unfold Zan at hr
  cases hh:ZnB k (live.map e) H with
  | none=>simp[hh] at hr
  | some q=>
   obtain⟨vs,H1⟩:=q
   simp only[hh] at hr
   cases hit:itW (fun vs H=>ZeB k live outs (Zan Γ (evW Γ) itW k a (Zef live vs) H)) vs H1 with
   | none=>simp[hit] at hr
   | some p=>
    rw[hit] at hr
    obtain⟨n,hn⟩:=(Zit _ vs H1 p).1 hit
    have key:∀(n:Nat) (vs:List V) (H1:Zo) (p:Ex×List V×Zo),Zdk (fun vs H=>ZeB k live outs (Zan Γ (evW Γ) itW k a (Zef live vs) H)) n vs H1=some p →
      ∃m,Zdk (fun vs H=>ZeB k live outs (Zan Γ (evN Γ m) (fun F=>Zdk F m) k a (Zef live vs) H)) n vs H1=some p:=by
     intro n
     induction n with
     | zero=>intro vs H1 p h;simp[Zdk] at h
     | succ n ih=>
      intro vs H1 p h
      unfold Zdk at h
      cases hc:Zan Γ (evW Γ) itW k a (Zef live vs) H1 with
      | none=>simp[hc,ZeB] at h
      | some q=>
       obtain⟨m1,hm1⟩:=iha _ _ q hc
       simp only[hc] at h
       cases hr2:ZeB k live outs (some q) with
       | none=>simp[hr2] at h
       | some z=>
        rw[hr2] at h
        cases z with
        | done x vs' H'=>exact⟨m1,by unfold Zdk;simp only[hm1,hr2];exact h⟩
        | again vs' H'=>
         obtain⟨m2,hm2⟩:=ih vs' H' p h
         refine⟨max m1 m2,?_⟩
         unfold Zdk
         simp only[up a _ _ q m1 _ (Nat.le_max_left m1 m2) hm1,hr2]
         exact ZfW (fun vs H=>Zkv (fun q hq=>up a _ _ q m2 _ (Nat.le_max_right m1 m2) hq)) n n (Nat.le_refl _) vs' H' p hm2
    obtain⟨m,hm⟩:=key n vs H1 p hn
    refine⟨max n m,?_⟩
    unfold Zan
    simp only[hh]
    rw[ZfW (fun vs H=>Zkv (fun q hq=>up a _ _ q m _ (Nat.le_max_right n m) hq)) n _ (Nat.le_max_left n m) vs H1 p hm]
    exact hr
 | ops l=>
  intro e H r hr
  unfold Zan at hr
  cases ho:ZhU Γ (evW Γ) l e H with
  | none=>simp[ho] at hr
  | some q=>rw[ho] at hr;obtain⟨n,hn⟩:=Zm1 l e H q ho;exact⟨n,by unfold Zan;rw[hn];exact hr⟩
 | draw l=>
  intro e H r hr
  unfold Zan at hr
  cases ho:ZfB Γ (evW Γ) [] l e H with
  | none=>simp[ho] at hr
  | some q=>rw[ho] at hr;obtain⟨n,hn⟩:=Zlx l _ e H q ho;exact⟨n,by unfold Zan;rw[hn];exact hr⟩
theorem Zzq (f:Nat) (args:List V) (H:Zo):evW Γ f args H=Zj3 Γ (evW Γ) itW f args H:=by
 have h1:Le (evW Γ f args H) (Zj3 Γ (evW Γ) itW f args H):=by
  intro r hr
  obtain⟨n,hn⟩:=(Zig Γ f args H r).1 hr
  cases n with
  | zero=>simp[evN] at hn
  | succ n=>exact ZpT (fun a b c r h=>(Zig Γ a b c r).2 ⟨n,h⟩) (fun F G h vs H r hr=>(Zit G vs H r).2 ⟨n,ZfW h n n (Nat.le_refl _) vs H r hr⟩) f args H r hn
 have h2:Le (Zj3 Γ (evW Γ) itW f args H) (evW Γ f args H):=by
  intro r hr
  unfold Zj3 at hr
  cases hc:Γ.code f with
  | none=>simp[hc] at hr
  | some fn=>
   simp only[hc] at hr
   cases hn:Nat.beq args.length fn.nargs with
   | false=>simp[hn] at hr
   | true=>
    simp only[hn,cond_true] at hr
    cases hx:Zan Γ (evW Γ) itW H.length fn.body (ZeM 0 args) H with
    | none=>simp[hx] at hr
    | some q=>
     rw[hx] at hr
     obtain⟨n,hn2⟩:=Ztk _ _ _ _ q hx
     refine(Zig Γ f args H r).2 ⟨n+1,?_⟩
     show Zj3 Γ (evN Γ n) (fun F=>Zdk F n) f args H=some r
     unfold Zj3
     simp only[hc,hn,cond_true,hn2]
     exact hr
 cases h:evW Γ f args H with
 | some r=>exact(h1 r h).symm
 | none=>
  cases h':Zj3 Γ (evW Γ) itW f args H with
  | none=>rfl
  | some r=>rw[h2 r h'] at h;cases h
end
end Go.Proofs.YtnmbdjkbaihicaaDoorE
namespace Go.Proofs.YtnmbdjkbaihicaaDoorE
open Go
set_option linter.unusedVariables false
set_option linter.unusedSimpArgs false
def Zhl (P:Program) (t:TypeId):Option Bool:=
 match P.underlying t with
 | some (.struct _)=>some true
 | some (.array _ _)=>some true
 | some _=>some false
 | none=>none
def Zf5 (P:Program) (t:TypeId):Option Nat:=(P.info? t).map (·.size)
theorem ZgH {P:Program}{w:World}{t:TypeId}{ag:Bool} (h:Zhl P t=some ag):(isAgg t).run P w = .ok ag w:=by
 unfold Zhl at h
 cases hu:P.underlying t with
 | none=>simp[hu] at h
 | some d=>
  rw[hu] at h
  have:=run_underlying (P:=P) (w:=w) hu
  simp only[isAgg,Sem.run_bind,this,Result.andThen_ok]
  cases d<;>simp_all
theorem Zep {P:Program}{w:World}{t:TypeId}{n:Nat} (h:Zf5 P t=some n):(sizeOf t).run P w = .ok n w:=by
 unfold Zf5 at h
 cases hi:P.info? t with
 | none=>simp[hi] at h
 | some i=>
  simp only[hi,Option.map_some,Option.some.injEq] at h
  subst h
  simp[sizeOf,typeInfo,hi]
section
variable {R:RP} {w:World}
theorem Zeb:∀(vs:List V) (us:List Value),ZaL R w vs us→us.length=vs.length
 | [],us,h=>by simp only[ZaL] at h;subst h;rfl
 | v :: vs,us,h=>by
  obtain⟨u,us',rfl,e1,e2⟩:=h
  simp[Zeb vs us' e2]
theorem Zfc:∀(vs:List V) (us:List Value) (j:Nat) (v:V),ZaL R w vs us→vs[j]? = some v→∃u,us[j]? = some u∧Zbb R w v u
 | [],us,j,v,_,hj=>by simp at hj
 | y :: vs,us,0,v,h,hj=>by
  obtain⟨u,us',rfl,e1,e2⟩:=h
  simp at hj;subst hj
  exact⟨u,by simp,e1⟩
 | y :: vs,us,j+1,v,h,hj=>by
  obtain⟨u,us',rfl,e1,e2⟩:=h
  simpa using Zfc vs us' j v e2 (by simpa using hj)
theorem Zi3:∀(vs:List V) (us:List Value),us.length=vs.length→(∀(j:Nat) v u,vs[j]? = some v→us[j]? = some u→Zbb R w v u)→ZaL R w vs us
 | [],us,hl,_=>by simpa [ZaL] using hl
 | y :: vs,[],hl,_=>by simp at hl
 | y :: vs,u :: us,hl,h=>⟨u,us,rfl,h 0 y u rfl rfl,Zi3 vs us (by simpa using hl) fun j x v hx hv=>h (j+1) x v (by simpa using hx) (by simpa using hv)⟩
theorem Zjq:∀(l:List D),ZcU l=l.map V.d
 | []=>rfl
 | x :: l=>by simp[ZcU,Zjq l]
theorem Zdq:∀(l:List D) (us:List Value),ZaL R w (ZcU l) us↔Za2 R.A1 R.A0 R.AL w l us
 | [],us=>Iff.rfl
 | x :: l,us=>by
  simp only[ZcU,ZaL,Za2]
  constructor
  ·rintro ⟨u,us',e,h1,h2⟩;exact⟨u,us',e,h1,(Zdq l us').1 h2⟩
  ·rintro ⟨u,us',e,h1,h2⟩;exact⟨u,us',e,h1,(Zdq l us').2 h2⟩
theorem ZkL:∀{vs:List V}{l:List D},Zkk vs=some l→vs=ZcU l
 | [],l,h=>by simp[Zkk] at h;subst h;rfl
 | v :: vs,l,h=>by
  cases v<;>simp only[Zkk] at h<;>try (cases h;done)
  rename_i x
  cases hr:Zkk vs with
  | none=>simp[hr] at h
  | some l'=>
   simp only[hr,Option.some.injEq] at h
   subst h
   rw[ZkL hr,ZcU]
theorem Zot {vs:List V}{us:List Value} (h:ZaL R w vs us):Zbb R w (ZrI vs) (.agg us.toArray):=by
 unfold ZrI
 cases ha:Zkk vs with
 | none=>exact⟨us,rfl,h⟩
 | some l=>
  rw[ZkL ha,Zdq] at h
  exact⟨us,rfl,h⟩
theorem Zxi {vs:List V}{us:List Value} (h:ZaL R w vs us):Zbb R w (ZtB vs) (.tuple us.toArray):=by
 unfold ZtB
 cases ha:Zkk vs with
 | none=>exact⟨us,rfl,h⟩
 | some l=>
  rw[ZkL ha,Zdq] at h
  exact⟨us,rfl,h⟩
theorem ZgS {v:V}{u:Value} (h:Zbb R w v u) (hv:v.okb=true):ZaL R w v.cells u.cells.toList:=by
 cases v with
 | d x=>
  cases x with
  | agg cs=>
   obtain⟨us,rfl,h⟩:=h
   simpa [V.cells,Value.cells] using (Zdq cs us).2 h
  | tup cs=>simp[V.okb] at hv
  | bool b=>simp only[Zbb,RP.den,Zbg] at h;subst h;exact⟨_,[],rfl,by simp[Zbb,RP.den,Zbg],rfl⟩
  | int k n=>simp only[Zbb,RP.den,Zbg] at h;subst h;exact⟨_,[],rfl,by simp[Zbb,RP.den,Zbg],rfl⟩
  | str s=>simp only[Zbb,RP.den,Zbg] at h;subst h;exact⟨_,[],rfl,by simp[Zbb,RP.den,Zbg],rfl⟩
  | nilfn=>simp only[Zbb,RP.den,Zbg] at h;subst h;exact⟨_,[],rfl,by simp[Zbb,RP.den,Zbg],rfl⟩
  | nilp=>simp only[Zbb,RP.den,Zbg] at h;subst h;exact⟨_,[],rfl,by simp[Zbb,RP.den,Zbg],rfl⟩
  | nilI=>simp only[Zbb,RP.den,Zbg] at h;subst h;exact⟨_,[],rfl,by simp[Zbb,RP.den,Zbg],rfl⟩
  | list own xs=>
   have h':=h
   obtain⟨a,len,cap,rfl,_⟩:=h'
   exact⟨_,[],rfl,h,rfl⟩
  | fn f caps=>
   have h':=h
   obtain⟨us,rfl,_⟩:=h'
   exact⟨_,[],rfl,h,rfl⟩
  | rptr cs=>
   have h':=h
   obtain⟨b,off,rfl,_⟩:=h'
   exact⟨_,[],rfl,h,rfl⟩
  | iface t v=>
   have h':=h
   obtain⟨u',rfl,_⟩:=h'
   exact⟨_,[],rfl,h,rfl⟩
 | bad=>simp[V.okb] at hv
 | tup cs=>simp[V.okb] at hv
 | agg cs=>
  obtain⟨us,rfl,h⟩:=h
  simpa [V.cells,Value.cells] using h
 | nilsl sz=>
  have h':=h
  obtain⟨a,rfl⟩:=h'
  exact⟨_,[],rfl,h,rfl⟩
 | fn f caps=>
  have h':=h
  obtain⟨us,rfl,_⟩:=h'
  exact⟨_,[],rfl,h,rfl⟩
 | ptr b o=>
  have h':=h
  obtain⟨c,_,rfl⟩:=h'
  exact⟨_,[],rfl,h,rfl⟩
 | eptr b sz i k=>
  have h':=h
  obtain⟨c,_,rfl⟩:=h'
  exact⟨_,[],rfl,h,rfl⟩
 | sl b sz=>
  have h':=h
  obtain⟨⟨a,n,c,rfl⟩,_⟩:=h'
  exact⟨_,[],rfl,h,rfl⟩
 | slp b sz o l=>
  have h':=h
  obtain⟨⟨a,n,c,rfl⟩,_⟩:=h'
  exact⟨_,[],rfl,h,rfl⟩
 | mp b=>
  have h':=h
  obtain⟨⟨a,rfl⟩,_⟩:=h'
  exact⟨_,[],rfl,h,rfl⟩
end
structure Pre (G:ZbI) (R:RP) (w:World) (e:Env) (a:Act) (Hm:Zo):Prop where
 ok:R.OK w
 g:GOK G R w
 env:Zhn R w e a
 le:∀b blk,nth Hm b=some blk→blk ≠ .dead→nth R.H b=some blk
section
variable {P:Program} {G:ZbI} {R:RP} {w:World} {e:Env} {a:Act} {Hm H':Zo} {nid:Nat} {o:Oper}
theorem Pre.opd (pre:Pre G R w e a Hm) {x:Operand}{y:Opd} (h:ZU G x y=true):Zbb R w (y.val e) (a.eval x):=Zn3 pre.g pre.env h
theorem Pre.opds (pre:Pre G R w e a Hm) {xs:List Operand}{ys:List Opd} (h:Ze3 G xs ys=true):ZaL R w (vals e ys) (xs.map a.eval):=Zqd pre.g pre.env h
theorem Zb8 {s:Sem Value}{u:Value}{w':World}{Po:Value→World→Prop} (hx:execOp a.eval o=(do pure (Next.value (← s)))) (hr:s.run P w = .ok u w') (hp:Po u w'):Zds P o a w Po:=
 .val (by rw[hx];simp[hr]) hp
theorem ZyN (pre:Pre G R w e a Hm) {x:Operand}{y:Opd} (hop:o.op = .move x∨o.op = .assign x) (hx:ZU G x y=true) (hp:Zak R.H [] nid [] H') :
  Zds P o a w (Z4 R w nid 0 H' (y.val e)):=by
 refine .val (u:=a.eval x) (w':=w) ?_ (Z4.stay pre.ok hp (pre.opd hx))
 rcases hop with h | h<;>(unfold execOp;rw[h];rfl)
theorem Zz0 (pre:Pre G R w e a Hm) {c x y:Operand}{c' x' y':Opd}{t:Bool} (hop:o.op = .pick c x y) (hc:ZU G c c'=true) (hx:ZU G x x'=true) (hy:ZU G y y'=true)
  (ht:c'.val e = .d (.bool t)) (hp:Zak R.H [] nid [] H'):Zds P o a w (Z4 R w nid 0 H' (bif t then x'.val e else y'.val e)):=by
 have hcv:=pre.opd hc
 rw[ht] at hcv
 simp only[Zbb,RP.den,Zbg] at hcv
 refine .val (u:=if t=true then a.eval x else a.eval y) (w':=w) ?_ (Z4.stay pre.ok hp ?_)
 ·unfold execOp;rw[hop];simp[hcv,asBool]
 ·cases t
  ·exact pre.opd hy
  ·exact pre.opd hx
theorem ZnC {t:TypeId}{x:Addr}{u:Value} (h:Zhl P t=some false) (hc:w.cell? x=some u):(loadVar t x).run P w = .ok u w:=by
 unfold loadVar
 simp only[Sem.run_bind,ZgH h,Result.andThen_ok,Bool.false_eq_true,if_false,run_load,hc]
theorem ZnE {t:TypeId}{x:Addr}{us:List Value} (h:Zhl P t=some true) (hs:Zf5 P t=some us.length) (hc:∀(j:Nat) v,us[j]? = some v→w.cell? (x.add j)=some v) :
  (loadVar t x).run P w = .ok (.agg us.toArray) w:=by
 unfold loadVar
 simp only[Sem.run_bind,ZgH h,Zep hs,Result.andThen_ok,if_true,run_loadCells_list w x us hc,Sem.run_pure]
theorem ZjO {n:Nat}{ag:Bool}{cs:List V}{v:V}{t:TypeId}{b off:Nat} (hc:∀(j:Nat) v,cs[j]? = some v→∃u,w.cell? ⟨b,off+j,none⟩=some u∧Zbb R w v u)
  (hag:Zhl P t=some ag) (hsz:Zf5 P t=some n) (h:Zdj n ag cs=some v):∃u,(loadVar t ⟨b,off,none⟩).run P w = .ok u w∧Zbb R w v u:=by
 unfold Zdj at h
 cases ag with
 | false=>
  simp only[cond_false] at h
  obtain⟨u,h1,h2⟩:=hc 0 v (by rw[← List.head?_eq_getElem?];exact h)
  exact⟨u,ZnC hag (by simpa using h1),h2⟩
 | true=>
  simp only[cond_true] at h
  cases hl:Nat.beq (cs.take n).length n with
  | false=>rw[hl] at h;cases h
  | true=>
   rw[hl] at h
   simp only[cond_true,Option.some.injEq] at h
   subst h
   have hl':(cs.take n).length=n:=Nat.eq_of_beq_eq_true hl
   let us:List Value:=(List.range n).map fun j=>(w.cell? ⟨b,off+j,none⟩).getD undef
   have hus:us.length=n:=by simp[us]
   have key:∀(j:Nat) v,(cs.take n)[j]? = some v→∃u,us[j]? = some u∧w.cell? ⟨b,off+j,none⟩=some u∧Zbb R w v u:=by
    intro j v hj
    have hjn:j<n:=by have:=(List.getElem?_eq_some_iff.1 hj).1;omega
    obtain⟨u,h1,h2⟩:=hc j v (by rw[List.getElem?_take] at hj;simpa [hjn] using hj)
    exact⟨u,by simp[us,hjn,h1],h1,h2⟩
   refine⟨.agg us.toArray,ZnE hag (by rw[hus];exact hsz) ?_,Zot (Zi3 _ _ (by omega) ?_)⟩
   ·intro j v hv
    have hjn:j<n:=by have:=(List.getElem?_eq_some_iff.1 hv).1;omega
    obtain⟨v0,hv0⟩:∃v0,(cs.take n)[j]? = some v0:=⟨_,List.getElem?_eq_getElem (by omega)⟩
    obtain⟨u,f1,f2,_⟩:=key j v0 hv0
    rw[hv] at f1;cases f1
    rw[Addr.add_lit];exact f2
   ·intro j v u hv hu
    obtain⟨u',f1,_,f3⟩:=key j v hv
    rw[hu] at f1;cases f1;exact f3
theorem ZcK {b off:Nat}{cs:Array Value}{el:TypeId}{fr:Nat×Nat} (h:w.heap[b]? = some (.cells cs el fr)):w.cell? ⟨b,off,none⟩=cs[off]?:=by
 simp[World.cell?,h]
theorem Zt0 (pre:Pre G R w e a Hm) {n:Nat}{ag:Bool}{t:TypeId}{x v:V}{u0:Value} (hag:Zhl P t=some ag) (hsz:Zf5 P t=some n) (hx:Zbb R w x u0) (h:Zdv Hm n ag x=some v) :
  ∃u,(Instr.loadAt t u0).run P w = .ok u w∧Zbb R w v u:=by
 unfold Zdv at h
 cases x with
 | ptr b o=>
  dsimp only at h
  cases hb:nth Hm b with
  | none=>simp[hb] at h
  | some blk=>
   rw[hb] at h
   cases blk<;>try (cases h;done)
   rename_i cs
   have hb':=pre.le b _ hb (by simp)
   obtain⟨c,h1,rfl⟩:=hx
   rw[Z0] at hb'
   obtain⟨c',cs',el,fr,e1,e2,e3,e4,e5⟩:=pre.ok.blk b _ _ hb' h1
   cases e1
   obtain⟨u,f1,f2⟩:=ZjO (P:=P) (cs:=cs.drop o) (b:=c) (off:=o) (by
    intro j v hj
    obtain⟨u,g1,g2⟩:=e5 (o+j) v (by simpa using hj)
    exact⟨u,by rw[ZcK e2];exact g1,g2⟩) hag hsz h
   exact⟨u,by simpa [Instr.loadAt,Instr.sureAddr] using f1,f2⟩
 | eptr b sz i k=>
  dsimp only at h
  cases hb:nth Hm b with
  | none=>simp[hb] at h
  | some blk=>
   rw[hb] at h
   cases blk<;>try (cases h;done)
   rename_i sz' xs
   dsimp only at h
   cases hs:Nat.beq sz sz' with
   | false=>simp[hs] at h
   | true=>
    obtain rfl:=Nat.eq_of_beq_eq_true hs
    simp only[hs,cond_true] at h
    cases hxi:nth xs i with
    | none=>simp[hxi] at h
    | some y=>
     simp only[hxi] at h
     have hb':=pre.le b _ hb (by simp)
     obtain⟨c,h1,rfl⟩:=hx
     rw[Z0] at hb' hxi
     obtain⟨e0,e1,e2⟩:=pre.ok.blk b _ _ hb' h1
     rcases e2 with⟨e2,_⟩ | ⟨c',cs,el,e2,e3,e4,e5⟩
     ·cases e2
     ·cases e2
      obtain⟨uy,f1,f2,f3⟩:=e5 i y hxi
      have hyb:(V.d y).okb=true∨∃ts,y = .tup ts:=by cases y<;>simp[V.okb]
      rcases hyb with hyb | ⟨ts,rfl⟩
      ·have hcs:=ZgS (R:=R) (v:=.d y) f1 hyb
       have hVc:(V.d y).cells=ZcU y.cells:=by cases y<;>rfl
       rw[hVc] at hcs
       obtain⟨u,g1,g2⟩:=ZjO (P:=P) (cs:=ZcU (y.cells.drop k)) (b:=c) (off:=i*sz+k) (by
        intro j v hj
        have hj':(ZcU y.cells)[k+j]? = some v:=by
         rw[Zjq,List.getElem?_map] at hj ⊢
         simpa using hj
        obtain⟨u,p1,p2⟩:=Zfc _ _ _ _ hcs hj'
        refine⟨u,?_,p2⟩
        rw[ZcK e3,Nat.add_assoc]
        exact f3 (k+j) u (by simpa using p1)) hag hsz h
       exact⟨u,by simpa [Instr.loadAt,Instr.sureAddr] using g1,g2⟩
      ·have f1':=f1
       obtain⟨us,rfl,_⟩:=f1'
       obtain⟨u,g1,g2⟩:=ZjO (P:=P) (cs:=ZcU (D.cells (.tup ts) |>.drop k)) (b:=c) (off:=i*sz+k) (by
        intro j v hj
        cases k with
        | zero=>
         cases j with
         | zero=>
          simp[D.cells,ZcU] at hj
          subst hj
          refine⟨.tuple us.toArray,?_,f1⟩
          rw[ZcK e3]
          have:=f3 0 (.tuple us.toArray) rfl
          simpa using this
         | succ j=>simp[D.cells,ZcU] at hj
        | succ k=>simp[D.cells,ZcU] at hj) hag hsz h
       exact⟨u,by simpa [Instr.loadAt,Instr.sureAddr] using g1,g2⟩
 | d y=>
  cases y<;>try (cases h;done)
  rename_i cs
  dsimp only at h
  obtain⟨b,off,rfl,h1,h2,h3⟩:=hx
  obtain⟨u,g1,g2⟩:=ZjO (P:=P) (cs:=ZcU cs) (b:=b) (off:=off) (by
   intro j v hj
   rw[Zjq,List.getElem?_map] at hj
   cases hcj:cs[j]? with
   | none=>simp[hcj] at hj
   | some x=>
    simp[hcj] at hj
    subst hj
    obtain⟨u,p1,p2⟩:=Zkc cs off j x h3 hcj
    exact⟨u,p1,p2⟩) hag hsz h
  exact⟨u,by simpa [Instr.loadAt,Instr.sureAddr] using g1,g2⟩
 | bad=>cases h
 | sl b sz=>cases h
 | slp b sz o l=>cases h
 | nilsl sz=>cases h
 | agg cs=>cases h
 | tup cs=>cases h
 | fn f cs=>cases h
 | mp b=>cases h
theorem Zy9 (pre:Pre G R w e a Hm) {n:Nat}{ag:Bool}{t:TypeId}{x:Operand}{y:Opd}{v:V} (hop:o.op = .load t x) (hx:ZU G x y=true) (hag:Zhl P t=some ag) (hsz:Zf5 P t=some n)
  (h:Zdv Hm n ag (y.val e)=some v) (hp:Zak R.H [] nid [] H'):Zds P o a w (Z4 R w nid 0 H' v):=by
 obtain⟨u,h1,h2⟩:=Zt0 pre hag hsz (pre.opd hx) h
 exact Zb8 (s:=Instr.loadAt t (a.eval x)) (by unfold execOp;rw[hop]) h1 (Z4.stay pre.ok hp h2)
def ZjC (P:Program) (s:TypeId) (f:Nat):Option (Nat×TypeId):=
 match P.underlying s with
 | some (.struct fields)=>(fields[f]?).map fun x=>(x.offset,x.type)
 | _=>none
theorem Zmd {s:TypeId}{f off:Nat}{t:TypeId} (h:ZjC P s f=some (off,t)):∃fields fd,P.underlying s=some (.struct fields)∧fields[f]? = some fd∧fd.offset=off∧fd.type=t:=by
 unfold ZjC at h
 split at h
 ·rename_i fields hu
  cases hf:fields[f]? with
  | none=>simp[hf] at h
  | some fd=>
   simp only[hf,Option.map_some,Option.some.injEq,Prod.mk.injEq] at h
   exact⟨fields,fd,hu,hf,h.1,h.2⟩
 ·cases h
theorem ZrZ {s:TypeId}{f off n:Nat}{t:TypeId}{x:Addr} (h:ZjC P s f=some (off,t)) (hn:Zf5 P t=some n) (h0:n≠0) :
  (Instr.fieldAt s (.pointer (some x)) f).run P w = .ok (.pointer (some (x.add off))) w:=by
 obtain⟨fields,fd,h1,h2,rfl,rfl⟩:=Zmd h
 simp[Instr.fieldAt,run_underlying h1,h2,Instr.sureAddr,fieldPlace,Zep hn,h0]
theorem ZrK (pre:Pre G R w e a Hm) {off:Nat}{x v:V}{u0:Value} (hx:Zbb R w x u0) (h:ZjF Hm off x=some v):∃ad,u0 = .pointer (some ad)∧Zbb R w v (.pointer (some (ad.add off))):=by
 unfold ZjF at h
 cases x<;>try (cases h;done)
 ·rename_i y
  cases y<;>try (cases h;done)
  rename_i cs
  simp only[Option.some.injEq] at h
  subst h
  obtain⟨b,of,rfl,h1,h2,h3⟩:=hx
  exact⟨_,rfl,b,of+off,by rw[Addr.add_lit],h1,h2,Zpu cs of off h3⟩
 ·rename_i b o
  simp only[Option.some.injEq] at h
  subst h
  obtain⟨c,h1,rfl⟩:=hx
  exact⟨_,rfl,c,h1,by rw[Addr.add_lit]⟩
 ·rename_i b sz i k
  simp only[Option.some.injEq] at h
  subst h
  obtain⟨c,h1,rfl⟩:=hx
  exact⟨_,rfl,c,h1,by rw[Addr.add_lit,Nat.add_assoc]⟩
theorem Zys (pre:Pre G R w e a Hm) {s t:TypeId}{f off n:Nat}{x:Operand}{y:Opd}{v:V} (hop:o.op = .fieldAddr s x f) (hx:ZU G x y=true) (hf:ZjC P s f=some (off,t)) (hn:Zf5 P t=some n) (h0:n≠0)
  (h:ZjF Hm off (y.val e)=some v) (hp:Zak R.H [] nid [] H'):Zds P o a w (Z4 R w nid 0 H' v):=by
 obtain⟨ad,h1,h2⟩:=ZrK pre (pre.opd hx) h
 exact Zb8 (s:=Instr.fieldAt s (a.eval x) f) (by unfold execOp;rw[hop]) (by rw[h1];exact ZrZ hf hn h0) (Z4.stay pre.ok hp h2)
theorem ZjI {k:IntKind}{n:Int}{u:Value} (h:Zbb R w (.d (.int k n)) u):u = .int k n:=h
theorem ZuI {b:Bool}{u:Value} (h:Zbb R w (.d (.bool b)) u):u = .bool b:=h
theorem Zyr {op:BinOp}{x y:V}{r:D}{u1 u2:Value} (t:TypeId) (ox oy:Operand) (hx:Zbb R w x u1) (hy:Zbb R w y u2) (h:Zm2 op x y=some r) :
  ∃u,((do eqGuard op t ox oy u1 u2;binOp op t u1 u2:Sem Value)).run P w = .ok u w∧R.den w r u:=by
 unfold Zm2 at h
 split at h
 ·rename_i i a1 j b1
  cases ZjI hx;cases ZjI hy
  unfold shI at h
  cases hb:decide (b1<0) with
  | true=>simp[hb] at h
  | false=>
   simp only[hb,cond_false,Option.some.injEq] at h
   subst h
   have hb':¬b1<0:=of_decide_eq_false hb
   refine⟨_,?_,rfl⟩
   simp[eqGuard,binOp,Op.shift,hb']
 ·rename_i i a1 j b1
  cases ZjI hx;cases ZjI hy
  unfold shI at h
  cases hb:decide (b1<0) with
  | true=>simp[hb] at h
  | false=>
   simp only[hb,cond_false,Option.some.injEq] at h
   subst h
   have hb':¬b1<0:=of_decide_eq_false hb
   refine⟨_,?_,rfl⟩
   simp[eqGuard,binOp,Op.shift,hb']
 ·rename_i op' i a1 j b1 hn1 hn2
  cases ZjI hx;cases ZjI hy
  cases hk:i==j with
  | false=>simp[hk] at h
  | true=>
   obtain rfl:i=j:=by simpa using hk
   simp only[hk,cond_true] at h
   cases op<;>simp only[Zyj,Option.some.injEq] at h
   case shl=>exact(hn1 rfl).elim
   case shr=>exact(hn2 rfl).elim
   case andNot=>cases h
   case quo=>
    cases hb:b1==0 with
    | true=>simp[hb] at h
    | false=>
     simp only[hb,cond_false,Option.some.injEq] at h
     subst h
     exact⟨_,by simp[eqGuard,binOp,Op.intDiv,show ¬b1=0 by simpa using hb],rfl⟩
   case rem=>
    cases hb:b1==0 with
    | true=>simp[hb] at h
    | false=>
     simp only[hb,cond_false,Option.some.injEq] at h
     subst h
     exact⟨_,by simp[eqGuard,binOp,Op.intDiv,show ¬b1=0 by simpa using hb],rfl⟩
   all_goals (subst h;exact⟨_,by simp[eqGuard,binOp,Op.intArith,Op.intBits,Op.intCmp],rfl⟩)
 ·cases h
theorem ZAx (pre:Pre G R w e a Hm) {op:BinOp}{t t':TypeId}{x y:Operand}{x' y':Opd}{r:D} (hop:o.op = .binOp op t x y t') (hx:ZU G x x'=true) (hy:ZU G y y'=true)
  (h:Zm2 op (x'.val e) (y'.val e)=some r) (hp:Zak R.H [] nid [] H'):Zds P o a w (Z4 R w nid 0 H' (.d r)):=by
 obtain⟨u,h1,h2⟩:=Zyr (P:=P) t x y (pre.opd hx) (pre.opd hy) h
 exact Zb8 (s:=do eqGuard op t x y (a.eval x) (a.eval y);binOp op t (a.eval x) (a.eval y)) (by unfold execOp;rw[hop]) h1 (Z4.stay pre.ok hp h2)
theorem ZDl (pre:Pre G R w e a Hm) {op:UnOp}{t:TypeId}{x:Operand}{x':Opd}{r:D} (hop:o.op = .unOp op t x) (hx:ZU G x x'=true)
  (h:unE op (x'.val e)=some r) (hp:Zak R.H [] nid [] H'):Zds P o a w (Z4 R w nid 0 H' (.d r)):=by
 have hv:=pre.opd hx
 unfold unE at h
 split at h
 ·rename_i b hb
  rw[hb] at hv
  simp only[Option.some.injEq] at h
  subst h
  exact Zb8 (s:=Op.unary .not (a.eval x)) (u:=.bool !b) (by unfold execOp;rw[hop]) (by rw[ZuI hv];rfl) (Z4.stay pre.ok hp rfl)
 ·rename_i k n hb
  rw[hb] at hv
  simp only[Option.some.injEq] at h
  subst h
  exact Zb8 (s:=Op.unary .neg (a.eval x)) (u:=.int k (k.wrap (0-n))) (by unfold execOp;rw[hop]) (by rw[ZjI hv];rfl) (Z4.stay pre.ok hp rfl)
 ·cases h
theorem Zzv (pre:Pre G R w e a Hm) {s t:TypeId}{k k0:IntKind}{n:Int}{ds:TypeDesc}{x:Operand}{x':Opd} (hop:o.op = .convert s t x) (hx:ZU G x x'=true) (hs:P.underlying s=some ds) (ht:P.underlying t=some (.int k))
  (h:x'.val e = .d (.int k0 n)) (hp:Zak R.H [] nid [] H'):Zds P o a w (Z4 R w nid 0 H' (.d (.int k (k.wrap n)))):=by
 have hv:=pre.opd hx
 rw[h] at hv
 refine Zb8 (s:=convert s t (a.eval x)) (u:=.int k (k.wrap n)) (by unfold execOp;rw[hop]) ?_ (Z4.stay pre.ok hp rfl)
 rw[ZjI hv]
 simp[convert,run_underlying hs,run_underlying ht,Conv.intToInt]
theorem Zqh (pre:Pre G R w e a Hm) {x:Operand}{x':Opd}{i:Nat}{v:V} (hop:o.op = .extract x i) (hx:ZU G x x'=true)
  (h:(∃vs,x'.val e = .tup vs∧nth vs i=some v)∨(∃vs y,x'.val e = .d (.tup vs)∧nth vs i=some y∧v = .d y)) (hp:Zak R.H [] nid [] H'):Zds P o a w (Z4 R w nid 0 H' v):=by
 have hv:=pre.opd hx
 rcases h with⟨vs,h1,h2⟩ | ⟨vs,y,h1,h2,rfl⟩
 ·rw[h1] at hv
  obtain⟨us,h3,h4⟩:=hv
  rw[Z0] at h2
  obtain⟨u,h5,h6⟩:=Zfc vs us i v h4 h2
  exact Zb8 (s:=Instr.extract (a.eval x) i) (u:=u) (by unfold execOp;rw[hop]) (by rw[h3];simp[Instr.extract,h5]) (Z4.stay pre.ok hp h6)
 ·rw[h1] at hv
  obtain⟨us,h3,h4⟩:=hv
  rw[Z0] at h2
  obtain⟨u,h5,h6⟩:=ZgR vs us i y h4 h2
  exact Zb8 (s:=Instr.extract (a.eval x) i) (u:=u) (by unfold execOp;rw[hop]) (by rw[h3];simp[Instr.extract,h5]) (Z4.stay pre.ok hp h6)
theorem ZzG (pre:Pre G R w e a Hm) {f:Nat}{first caps:Array Operand}{ys:List Opd} (hop:o.op = .makeFunc (.func f) first caps) (hf:first = #[]) (hx:Ze3 G caps.toList ys=true) (hp:Zak R.H [] nid [] H') :
  Zds P o a w (Z4 R w nid 0 H' (match ys with | []=>.d (.fn f []) | ys=>.fn f (vals e ys))):=by
 subst hf
 have hv:=pre.opds hx
 refine Zb8 (s:=Instr.makeFunc (.func f) (#[].map a.eval) (caps.map a.eval)) (u:=.func (.func f) #[] (caps.toList.map a.eval).toArray) (by unfold execOp;rw[hop]) (by
  have hc:caps.map a.eval=(caps.toList.map a.eval).toArray:=by apply Array.ext';simp
  rw[hc];simp[Instr.makeFunc]) (Z4.stay pre.ok hp ?_)
 cases ys with
 | nil=>
  simp only[vals,ZaL] at hv
  exact⟨[],by simp[hv],rfl⟩
 | cons y ys=>exact⟨_,rfl,hv⟩
end
end Go.Proofs.YtnmbdjkbaihicaaDoorE
namespace Go.Proofs.YtnmbdjkbaihicaaDoorE
open Go
set_option linter.unusedVariables false
set_option linter.unusedSimpArgs false
section
variable {P:Program} {G:ZbI} {R:RP} {w:World} {e:Env} {a:Act} {Hm H':Zo} {nid:Nat} {o:Oper}
theorem ZqY {n:Nat}{ag:Bool}{cs:List V}{us:List Value}{v:V}{t:TypeId}{off:Nat} (hd:ZaL R w cs us) (hag:Zhl P t=some ag) (hsz:Zf5 P t=some n) (h:Zdj n ag (cs.drop off)=some v) :
  ∃u,(part t us.toArray off).run P w = .ok u w∧Zbb R w v u:=by
 unfold Zdj at h
 cases ag with
 | false=>
  simp only[cond_false] at h
  rw[List.head?_eq_getElem?,List.getElem?_drop] at h
  obtain⟨u,h1,h2⟩:=Zfc cs us _ v hd h
  refine⟨u,?_,h2⟩
  simp only[Nat.add_zero] at h1
  simp[part,ZgH hag,h1]
 | true=>
  simp only[cond_true] at h
  cases hl:Nat.beq ((cs.drop off).take n).length n with
  | false=>rw[hl] at h;cases h
  | true=>
   rw[hl] at h
   simp only[cond_true,Option.some.injEq] at h
   subst h
   have hl':((cs.drop off).take n).length=n:=Nat.eq_of_beq_eq_true hl
   refine⟨.agg (((us.drop off).take n).toArray),?_,Zot (Zi3 _ _ ?_ ?_)⟩
   ·simp[part,ZgH hag,Zep hsz,List.drop_take]
   ·have:=Zeb cs us hd
    simp only[List.length_take,List.length_drop] at hl' ⊢
    omega
   ·intro j v u hv hu
    have hj:j<n:=by have:=(List.getElem?_eq_some_iff.1 hv).1;omega
    rw[List.getElem?_take,if_pos hj,List.getElem?_drop] at hv hu
    obtain⟨u',g1,g2⟩:=Zfc cs us _ v hd hv
    rw[hu] at g1;cases g1;exact g2
theorem Ztr (pre:Pre G R w e a Hm) {s t:TypeId}{f off n:Nat}{ag:Bool}{x:Operand}{y:Opd}{v:V} (hop:o.op = .field s x f) (hx:ZU G x y=true) (hf:ZjC P s f=some (off,t)) (hag:Zhl P t=some ag) (hsz:Zf5 P t=some n)
  (h:(∃cs,y.val e = .d (.agg cs)∧Zdj n ag (ZcU (cs.drop off))=some v)∨(∃cs,y.val e = .agg cs∧Zdj n ag (cs.drop off)=some v)) (hp:Zak R.H [] nid [] H'):Zds P o a w (Z4 R w nid 0 H' v):=by
 obtain⟨fields,fd,h1,h2,rfl,rfl⟩:=Zmd hf
 have hv:=pre.opd hx
 have key:∃us:List Value,a.eval x = .agg us.toArray∧∃u,(part fd.type us.toArray fd.offset).run P w = .ok u w∧Zbb R w v u:=by
  rcases h with⟨cs,h3,h4⟩ | ⟨cs,h3,h4⟩
  ·rw[h3] at hv
   obtain⟨us,h5,h6⟩:=hv
   refine⟨us,h5,ZqY (cs:=ZcU cs) ((Zdq cs us).2 h6) hag hsz ?_⟩
   rw[Zjq] at h4 ⊢
   rw[← List.map_drop];exact h4
  ·rw[h3] at hv
   obtain⟨us,h5,h6⟩:=hv
   exact⟨us,h5,ZqY h6 hag hsz h4⟩
 obtain⟨us,h5,u,h6,h7⟩:=key
 exact Zb8 (s:=Instr.field s (a.eval x) f) (by unfold execOp;rw[hop]) (by rw[h5];simp[Instr.field,run_underlying h1,h2,asAgg,h6]) (Z4.stay pre.ok hp h7)
def ZpZ (P:Program) (t:TypeId):Option (Nat×TypeId):=match P.underlying t with | some (.array n e)=>some (n,e) | _=>none
theorem Zpf {t el:TypeId}{n:Nat} (h:ZpZ P t=some (n,el)):P.underlying t=some (.array n el):=by
 unfold ZpZ at h;split at h<;>simp_all
def ZnF (P:Program) (t:TypeId):Option TypeId:=match P.underlying t with | some (.slice e)=>some e | _=>none
theorem ZkJ {t el:TypeId} (h:ZnF P t=some el):P.underlying t=some (.slice el):=by
 unfold ZnF at h;split at h<;>simp_all
theorem ZxB (pre:Pre G R w e a Hm) {t el:TypeId}{len n:Nat}{ag:Bool}{x i:Operand}{y j:Opd}{v:V} (hop:o.op = .index t x i) (hx:ZU G x y=true) (hi:ZU G i j=true) (ht:ZpZ P t=some (len,el)) (hag:Zhl P el=some ag) (hsz:Zf5 P el=some n)
  (h:ZlO len n ag (y.val e) (j.val e)=some v) (hp:Zak R.H [] nid [] H'):Zds P o a w (Z4 R w nid 0 H' v):=by
 have hv:=pre.opd hx
 have hiv:=pre.opd hi
 unfold ZlO at h
 split at h
 ·rename_i k m hj
  rw[hj] at hiv
  cases hc:((y.val e).isAggV&&(decide (0≤m)&&decide (m<len))) with
  | false=>rw[hc] at h;cases h
  | true=>
   rw[hc] at h
   simp only[cond_true] at h
   simp only[Bool.and_eq_true,decide_eq_true_eq] at hc
   obtain⟨hav,hc⟩:=hc
   have hagg:(∃cs,y.val e = .d (.agg cs))∨∃cs,y.val e = .agg cs:=by
    unfold V.isAggV at hav
    split at hav
    ·rename_i cs hv';exact .inl ⟨cs,hv'⟩
    ·rename_i cs hv';exact .inr ⟨cs,hv'⟩
    ·cases hav
   have hb:(y.val e).okb=true:=by rcases hagg with⟨cs,h3⟩ | ⟨cs,h3⟩<;>rw[h3]<;>rfl
   have hcs:=ZgS hv hb
   have hag':∃us,a.eval x = .agg us:=by
    rcases hagg with⟨cs,h3⟩ | ⟨cs,h3⟩<;>(rw[h3] at hv;obtain⟨us,h5,_⟩:=hv;exact⟨_,h5⟩)
   obtain⟨us,hus⟩:=hag'
   rw[hus] at hcs
   obtain⟨u,h1,h2⟩:=ZqY (P:=P) hcs hag hsz h
   refine Zb8 (s:=Instr.index t (a.eval x) (a.eval i)) (u:=u) (by unfold execOp;rw[hop]) ?_ (Z4.stay pre.ok hp h2)
   rw[hus,ZjI hiv]
   simp only[Value.cells,Array.toArray_toList] at h1
   simp[Instr.index,asIntOf,run_underlying (Zpf ht),hc,Zep hsz,h1]
 ·cases h
theorem Zxp (pre:Pre G R w e a Hm) {t:TypeId}{x i:Operand}{y j:Opd}{v:V} (hop:o.op = .index t x i) (hx:ZU G x y=true) (hi:ZU G i j=true) (ht:P.underlying t=some .string)
  (h:ZjH (y.val e) (j.val e)=some v) (hp:Zak R.H [] nid [] H'):Zds P o a w (Z4 R w nid 0 H' v):=by
 have hv:=pre.opd hx
 have hiv:=pre.opd hi
 unfold ZjH at h
 split at h
 ·rename_i s k m hy hj
  rw[hj] at hiv
  rw[hy] at hv
  cases hc:decide (0≤m) with
  | false=>rw[hc] at h;cases h
  | true=>
   rw[hc] at h
   simp only[cond_true] at h
   have h0:0≤m:=of_decide_eq_true hc
   cases hs:s[m.toNat]? with
   | none=>rw[hs] at h;cases h
   | some b=>
    rw[hs] at h
    simp only[Option.some.injEq] at h
    subst h
    refine Zb8 (s:=Instr.index t (a.eval x) (a.eval i)) (u:=.int .u8 b.toNat) (by unfold execOp;rw[hop]) ?_ (Z4.stay pre.ok hp rfl)
    rw[ZjI hiv,show a.eval x = .string s from hv]
    simp[Instr.index,asIntOf,run_underlying ht,h0,hs]
 ·cases h
theorem Ze0 {m:Option Nat}{xs:List D}{sz of len:Nat}{u:Value} (h:ZqD w m xs sz of len u) (h0:0<len∨of<xs.length) :
  ∃c cs el fr cap,m=some c∧u = .slice (some ⟨c,of*sz,none⟩) len cap∧len≤cap∧w.heap[c]? = some (.cells cs el fr)∧cs.size=(of+cap)*sz:=by
 obtain⟨h1,ad,cap,rfl,h3,h4⟩:=h
 rcases h4 with⟨rfl,h4⟩ | ⟨c,cs,el,fr,rfl,rfl,h6,h7⟩
 ·exfalso;omega
 ·exact⟨c,cs,el,fr,cap,rfl,rfl,h3,h6,h7⟩
theorem Zrw {t el:TypeId}{n:Nat}{ad:Addr}{len cap:Nat}{k:IntKind}{i:Int} (ht:ZnF P t=some el) (hsz:Zf5 P el=some n) (h0:0≤i) (h1:i<len) :
  (Instr.indexAt t (.slice (some ad) len cap) (.int k i)).run P w = .ok (.pointer (some (ad.add (i.toNat*n)))) w:=by
 simp[Instr.indexAt,asIntOf,run_underlying (ZkJ ht),Zep hsz,h0,h1]
theorem Zxt {A1 A0 AL:Nat→Prop}{b off:Nat}{x:D}{u:Value} (hu:Zbg A1 A0 AL w x u) (hb:(V.d x).okb=true) (hc:∀(k:Nat) v,u.cells[k]? = some v→w.cell? ⟨b,off+k,none⟩=some v) :
  u.cells.size=x.cells.length∧ZcS A1 A0 AL w b off x.cells:=by
 have one:∀{x:D} {u:Value},Zbg A1 A0 AL w x u→u.cells = #[u]→x.cells=[x]→(∀(k:Nat) v,u.cells[k]? = some v→w.cell? ⟨b,off+k,none⟩=some v)→u.cells.size=x.cells.length∧ZcS A1 A0 AL w b off x.cells:=by
  intro x u h1 h2 h3 h4
  have h5:=h4 0 u (by rw[h2];rfl)
  rw[h2,h3]
  exact⟨rfl,⟨u,by simpa using h5,h1⟩,trivial⟩
 cases x with
 | agg cs=>
  obtain⟨us,rfl,h⟩:=hu
  refine⟨by simpa [Value.cells,D.cells] using Zpv cs us h,Zha _ _ fun j y hj=>?_⟩
  obtain⟨u,h1,h2⟩:=ZgR cs us j y h hj
  exact⟨u,hc j u (by simpa [Value.cells] using h1),h2⟩
 | tup cs=>simp[V.okb] at hb
 | bool b=>cases hu;exact one (x:=.bool b) rfl rfl rfl hc
 | int k n=>cases hu;exact one (x:=.int k n) rfl rfl rfl hc
 | str s=>cases hu;exact one (x:=.str s) rfl rfl rfl hc
 | nilfn=>cases hu;exact one (x:=.nilfn) rfl rfl rfl hc
 | nilp=>cases hu;exact one (x:=.nilp) rfl rfl rfl hc
 | nilI=>cases hu;exact one (x:=.nilI) rfl rfl rfl hc
 | list own xs=>
  have hu':=hu
  obtain⟨ad,len,cap,rfl,_⟩:=hu'
  exact one hu rfl rfl hc
 | fn f caps=>
  have hu':=hu
  obtain⟨us,rfl,_⟩:=hu'
  exact one hu rfl rfl hc
 | rptr cs=>
  have hu':=hu
  obtain⟨b',off',rfl,_⟩:=hu'
  exact one hu rfl rfl hc
 | iface t v=>
  have hu':=hu
  obtain⟨u',rfl,_⟩:=hu'
  exact one hu rfl rfl hc
theorem Zlp (pre:Pre G R w e a Hm) {b sz:Nat}{xs:List D}{u:Value} (hb:nth Hm b=some (.arr sz xs)) (h:Zbb R w (.sl b sz) u) :
  ∃m,R.M b=some m∧nth R.H b=some (.arr sz xs)∧Zg9 R w m (.arr sz xs)∧ZqD w m xs sz 0 xs.length u:=by
 have hb':=pre.le b _ hb (by simp)
 obtain⟨_,m,h1,h2⟩:=h
 exact⟨m,h1,hb',pre.ok.blk b _ _ (by rw[← Z0];exact hb') h1,h2 xs hb'⟩
theorem ZjJ (pre:Pre G R w e a Hm) {b sz o len:Nat}{xs:List D}{u:Value} (hb:nth Hm b=some (.arr sz xs)) (h:Zbb R w (.slp b sz o len) u) :
  ∃m,R.M b=some m∧nth R.H b=some (.arr sz xs)∧Zg9 R w m (.arr sz xs)∧ZqD w m xs sz o len u:=by
 have hb':=pre.le b _ hb (by simp)
 obtain⟨_,m,h1,h2⟩:=h
 exact⟨m,h1,hb',pre.ok.blk b _ _ (by rw[← Z0];exact hb') h1,h2 xs hb'⟩
theorem ZxL (pre:Pre G R w e a Hm) {t el:TypeId}{n:Nat}{x i:Operand}{y j:Opd}{v:V} (hop:o.op = .indexAddr t x i) (hx:ZU G x y=true) (hi:ZU G i j=true) (ht:ZnF P t=some el) (hsz:Zf5 P el=some n)
  (h:ZhN Hm n (y.val e) (j.val e)=some v) (hp:Zak R.H [] nid [] H'):Zds P o a w (Z4 R w nid 0 H' v):=by
 have hv:=pre.opd hx
 have hiv:=pre.opd hi
 unfold ZhN at h
 have fin:∀{k:IntKind} {m:Int} {ad:Addr} {len cap:Nat} ,a.eval i = .int k m→a.eval x = .slice (some ad) len cap→0≤m→m<len→Zbb R w v (.pointer (some (ad.add (m.toNat*n))))→Zds P o a w (Z4 R w nid 0 H' v):=
  fun h1 h2 h3 h4 h5=>Zb8 (s:=Instr.indexAt t (a.eval x) (a.eval i)) (by unfold execOp;rw[hop]) (by rw[h1,h2];exact Zrw ht hsz h3 h4) (Z4.stay pre.ok hp h5)
 split at h
 ·rename_i k m hj
  rw[hj] at hiv
  split at h
  ·rename_i own xs hy
   rw[hy] at hv
   cases hg:ZE xs m with
   | none=>rw[hg] at h;cases h
   | some z=>
    rw[hg] at h
    dsimp only at h
    cases hc:(Nat.beq z.cells.length n&&(V.d z).okb) with
    | false=>rw[hc] at h;cases h
    | true=>
     rw[hc] at h
     simp only[cond_true,Option.some.injEq] at h
     subst h
     simp only[Bool.and_eq_true] at hc
     obtain⟨h0,h1,h2⟩:=ZnI xs m z hg
     obtain⟨ad,len,cap,e1,rfl,e3,e4,e5⟩:=hv
     obtain⟨b,off,sz,rfl,f2,f3,f4⟩:=e5 (by intro hn;rw[hn] at h2;simp at h2)
     obtain⟨u,g1,g2,g3⟩:=ZiJ xs off m.toNat z f4 h2
     obtain⟨q1,q2⟩:=Zxt (b:=b) (off:=off+m.toNat*sz) g1 hc.2 g3
     have hn:sz=n:=by rw[← g2,q1];exact Nat.eq_of_beq_eq_true hc.1
     subst hn
     refine fin (ZjI hiv) e1 h0 h1 ⟨b,off+m.toNat*sz,by rw[Addr.add_lit],?_,f3,q2⟩
     cases own
     ·exact f2
     ·exact⟨f2.1,fun hb=>f2.2 (pre.ok.b01 _ hb)⟩
  ·rename_i b sz' hy
   rw[hy] at hv
   cases hb:nth Hm b with
   | none=>rw[hb] at h;cases h
   | some blk=>
    rw[hb] at h
    cases blk<;>try (cases h;done)
    rename_i sz'' xs
    dsimp only at h
    cases hs:(Nat.beq n sz'&&Nat.beq n sz'') with
    | false=>rw[hs] at h;cases h
    | true=>
     rw[hs] at h
     simp only[Bool.and_eq_true] at hs
     obtain rfl:=Nat.eq_of_beq_eq_true hs.1
     obtain rfl:=Nat.eq_of_beq_eq_true hs.2
     simp only[cond_true] at h
     cases hg:ZE xs m with
     | none=>rw[hg] at h;cases h
     | some z=>
      rw[hg] at h
      simp only[Option.some.injEq] at h
      subst h
      obtain⟨h0,h1,h2⟩:=ZnI xs m z hg
      obtain⟨mm,q1,q2,q3,q4⟩:=Zlp pre hb hv
      obtain⟨c,cs,el',fr,cap,rfl,e1,e2,e3,e4⟩:=Ze0 q4 (.inr (by omega))
      refine fin (ZjI hiv) e1 h0 h1 ⟨c,q1,?_⟩
      rw[Addr.add_lit,Nat.zero_mul,Nat.zero_add];rfl
  ·rename_i b sz' of ln hy
   rw[hy] at hv
   cases hb:nth Hm b with
   | none=>rw[hb] at h;cases h
   | some blk=>
    rw[hb] at h
    cases blk<;>try (cases h;done)
    rename_i sz'' xs
    dsimp only at h
    cases hs:(Nat.beq n sz'&&Nat.beq n sz'') with
    | false=>rw[hs] at h;cases h
    | true=>
     rw[hs] at h
     simp only[Bool.and_eq_true] at hs
     obtain rfl:=Nat.eq_of_beq_eq_true hs.1
     obtain rfl:=Nat.eq_of_beq_eq_true hs.2
     simp only[cond_true] at h
     cases hg:ZE ((xs.drop of).take ln) m with
     | none=>rw[hg] at h;cases h
     | some z=>
      rw[hg] at h
      simp only[Option.some.injEq] at h
      subst h
      obtain⟨h0,h1,h2⟩:=ZnI _ m z hg
      simp only[List.length_take,List.length_drop] at h1
      obtain⟨mm,q1,q2,q3,q4⟩:=ZjJ pre hb hv
      obtain⟨c,cs,el',fr,cap,rfl,e1,e2,e3,e4⟩:=Ze0 q4 (.inr (by omega))
      refine fin (ZjI hiv) e1 h0 (by omega) ⟨c,q1,?_⟩
      rw[Addr.add_lit,Nat.add_mul];rfl
  ·cases h
 ·cases h
end
end Go.Proofs.YtnmbdjkbaihicaaDoorE
namespace Go.Proofs.YtnmbdjkbaihicaaDoorE
open Go
set_option linter.unusedVariables false
set_option linter.unusedSimpArgs false
section
variable {P:Program} {G:ZbI} {R:RP} {w:World} {e:Env} {a:Act} {Hm H':Zo} {nid:Nat} {o:Oper}
theorem Zvv (pre:Pre G R w e a Hm) {t el:TypeId}{n len:Nat}{x i:Operand}{y j:Opd}{v:V} (hop:o.op = .indexAddr t x i) (hx:ZU G x y=true) (hi:ZU G i j=true) (ht:ZpZ P t=some (len,el)) (hsz:Zf5 P el=some n)
  (h:Zga Hm len n (y.val e) (j.val e)=some v) (hp:Zak R.H [] nid [] H'):Zds P o a w (Z4 R w nid 0 H' v):=by
 have hv:=pre.opd hx
 have hiv:=pre.opd hi
 unfold Zga at h
 split at h
 ·rename_i k m hj
  rw[hj] at hiv
  cases hc:(decide (0≤m)&&decide (m<len)) with
  | false=>rw[hc] at h;cases h
  | true=>
   rw[hc] at h
   simp only[cond_true] at h
   simp only[Bool.and_eq_true,decide_eq_true_eq] at hc
   obtain⟨ad,h1,h2⟩:=ZrK pre hv h
   refine Zb8 (s:=Instr.indexAt t (a.eval x) (a.eval i)) (by unfold execOp;rw[hop]) ?_ (Z4.stay pre.ok hp h2)
   rw[h1,ZjI hiv]
   simp[Instr.indexAt,asIntOf,Instr.sureAddr,run_underlying (Zpf ht),Zep hsz,hc]
 ·cases h
theorem Zti (pre:Pre G R w e a Hm) {x:V}{xs:List D}{u:Value} (hx:Zbb R w x u) (h:elems Hm x=some xs) (hl:0<xs.length):∃ad cap,u = .slice (some ad) xs.length cap:=by
 unfold elems at h
 split at h
 ·rename_i own xs'
  simp only[Option.some.injEq] at h
  subst h
  obtain⟨ad,len,cap,rfl,rfl,e3,e4,e5⟩:=hx
  obtain⟨b,off,sz,rfl,_⟩:=e5 (by intro hn;rw[hn] at hl;simp at hl)
  exact⟨_,cap,rfl⟩
 ·rename_i b sz
  cases hb:nth Hm b with
  | none=>rw[hb] at h;cases h
  | some blk=>
   rw[hb] at h
   cases blk<;>try (cases h;done)
   rename_i sz' xs'
   dsimp only at h
   cases hs:Nat.beq sz sz' with
   | false=>rw[hs] at h;cases h
   | true=>
    rw[hs] at h
    simp only[cond_true,Option.some.injEq] at h
    subst h
    obtain rfl:=Nat.eq_of_beq_eq_true hs
    obtain⟨m,q1,q2,q3,q4⟩:=Zlp pre hb hx
    obtain⟨c,cs,el,fr,cap,rfl,rfl,_⟩:=Ze0 q4 (.inl hl)
    exact⟨_,cap,rfl⟩
 ·rename_i b sz of len
  cases hb:nth Hm b with
  | none=>rw[hb] at h;cases h
  | some blk=>
   rw[hb] at h
   cases blk<;>try (cases h;done)
   rename_i sz' xs'
   dsimp only at h
   cases hs:Nat.beq sz sz' with
   | false=>rw[hs] at h;cases h
   | true=>
    rw[hs] at h
    simp only[cond_true,Option.some.injEq] at h
    subst h
    obtain rfl:=Nat.eq_of_beq_eq_true hs
    obtain⟨m,q1,q2,q3,q4⟩:=ZjJ pre hb hx
    have hlen:((xs'.drop of).take len).length=len:=by
     have:=q4.1
     simp only[List.length_take,List.length_drop];omega
    rw[hlen] at hl ⊢
    obtain⟨c,cs,el,fr,cap,rfl,rfl,_⟩:=Ze0 q4 (.inl hl)
    exact⟨_,cap,rfl⟩
 ·simp only[Option.some.injEq] at h
  subst h
  simp at hl
 ·cases h
theorem Zqj (pre:Pre G R w e a Hm) {x:V}{xs:List D}{u:Value} (hx:Zbb R w x u) (h:elems Hm x=some xs):∃ad cap,u = .slice ad xs.length cap∧xs.length≤cap:=by
 unfold elems at h
 split at h
 ·rename_i own xs'
  simp only[Option.some.injEq] at h
  subst h
  obtain⟨ad,len,cap,rfl,rfl,e3,_⟩:=hx
  exact⟨ad,cap,rfl,e3⟩
 ·rename_i b sz
  cases hb:nth Hm b with
  | none=>rw[hb] at h;cases h
  | some blk=>
   rw[hb] at h
   cases blk<;>try (cases h;done)
   rename_i sz' xs'
   dsimp only at h
   cases hs:Nat.beq sz sz' with
   | false=>rw[hs] at h;cases h
   | true=>
    rw[hs] at h
    simp only[cond_true,Option.some.injEq] at h
    subst h
    obtain rfl:=Nat.eq_of_beq_eq_true hs
    obtain⟨m,q1,q2,q3,q4,ad,cap,rfl,q5,_⟩:=Zlp pre hb hx
    exact⟨ad,cap,rfl,q5⟩
 ·rename_i b sz of len
  cases hb:nth Hm b with
  | none=>rw[hb] at h;cases h
  | some blk=>
   rw[hb] at h
   cases blk<;>try (cases h;done)
   rename_i sz' xs'
   dsimp only at h
   cases hs:Nat.beq sz sz' with
   | false=>rw[hs] at h;cases h
   | true=>
    rw[hs] at h
    simp only[cond_true,Option.some.injEq] at h
    subst h
    obtain rfl:=Nat.eq_of_beq_eq_true hs
    obtain⟨m,q1,q2,q3,q4,ad,cap,rfl,q5,_⟩:=ZjJ pre hb hx
    have:((xs'.drop of).take len).length=len:=by simp only[List.length_take,List.length_drop];omega
    rw[this]
    exact⟨ad,cap,rfl,q5⟩
 ·simp only[Option.some.injEq] at h
  subst h
  obtain⟨ad,rfl⟩:=hx
  exact⟨ad,0,rfl,Nat.le_refl _⟩
 ·cases h
theorem Zgf {b:Builtin}{xs:Array Operand}{ats:Array TypeId} (hop:o.op = .call { callee:=.builtin b,args:=xs,argTypes:=ats }) :
  execOp a.eval o=builtin b ats o.type (xs.map fun | .const _=>true | _=>false) (xs.map a.eval):=by
 obtain⟨dst,op,ty,pos,after,guard⟩:=o
 simp only at hop
 subst hop
 rfl
theorem ZBI (pre:Pre G R w e a Hm) {t el:TypeId}{x:Operand}{y:Opd}{r:D} (hop:o.op = .call { callee:=.builtin .len,args:=#[x],argTypes:=#[t] }) (hx:ZU G x y=true) (ht:ZnF P t=some el)
  (h:ZqQ Hm (y.val e)=some r) (hp:Zak R.H [] nid [] H'):Zds P o a w (Z4 R w nid 0 H' (.d r)):=by
 have hv:=pre.opd hx
 unfold ZqQ at h
 cases hes:elems Hm (y.val e) with
 | none=>rw[hes] at h;cases h
 | some xs=>
  rw[hes] at h
  simp only[Option.some.injEq] at h
  subst h
  obtain⟨ad,cap,h1,_⟩:=Zqj pre hv hes
  refine Zb8 (s:=Builtin.len_ #[t] o.type #[a.eval x]) (u:=.int .i64 xs.length) (by rw[Zgf hop,BigFrame.builtin_len];simp) ?_ (Z4.stay pre.ok hp rfl)
  rw[h1]
  simp[Builtin.len_,run_underlying (ZkJ ht),goInt]
def Ztp (x:Option Value) (d l:Nat):Prop:=(x=none∧l=d)∨∃k,x=some (.int k (l:Int))
theorem Zz4 {t el:TypeId}{sz:Nat}{ad:Option Addr}{len cap l h:Nat}{lo hi:Option Value} (ht:ZnF P t=some el) (hsz:Zf5 P el=some sz) (h1:Ztp lo 0 l) (h2:Ztp hi len h) (h3:l≤h) (h4:h≤cap) (h5:len≤cap) :
  (Instr.sliceAt t (.slice ad len cap) lo hi none).run P w = .ok (.slice (if cap=l then ad else ad.map (·.add (l*sz))) (h-l) (cap-l)) w:=by
 have ht':=ZkJ ht
 rcases h1 with⟨rfl,rfl⟩ | ⟨k1,rfl⟩<;>rcases h2 with⟨rfl,rfl⟩ | ⟨k2,rfl⟩<;>
  simp[Instr.sliceAt,Instr.slice,run_underlying ht',Instr.sliceBounds,Instr.sliceBound,asIntOf,Zep hsz, *]
theorem Zx0 {t el:TypeId}{sz:Nat}{ad:Option Addr}{len cap l h m:Nat}{lo hi mx:Option Value} (ht:ZnF P t=some el) (hsz:Zf5 P el=some sz) (h1:Ztp lo 0 l) (h2:∃k,hi=some (.int k (h:Int))) (h6:∃k,mx=some (.int k (m:Int))) (h3:l≤h) (h4:h≤m) (h5:m≤cap) :
  (Instr.sliceAt t (.slice ad len cap) lo hi mx).run P w = .ok (.slice (if m=l then ad else ad.map (·.add (l*sz))) (h-l) (m-l)) w:=by
 have ht':=ZkJ ht
 obtain⟨k2,rfl⟩:=h2
 obtain⟨k3,rfl⟩:=h6
 rcases h1 with⟨rfl,rfl⟩ | ⟨k1,rfl⟩<;>
  simp[Instr.sliceAt,Instr.slice,run_underlying ht',Instr.sliceBounds,Instr.sliceBound,asIntOf,Zep hsz, *]
def ZlE (G:ZbI):Option Operand→Option Opd→Bool
 | none,none=>true
 | some x,some y=>ZU G x y
 | _,_=>false
theorem ZsE (pre:Pre G R w e a Hm) {x:Option Operand}{y:Option Opd}{d l:Nat} (hx:ZlE G x y=true) (h:Zhj (y.map (·.val e)) d=some l):Ztp (x.map a.eval) d l:=by
 cases x with
 | none=>
  cases y with
  | some y=>cases hx
  | none=>simp[Zhj] at h;exact .inl ⟨rfl,h.symm⟩
 | some x=>
  cases y with
  | none=>cases hx
  | some y=>
   have hv:=pre.opd (x:=x) (y:=y) hx
   simp only[Option.map_some] at h
   unfold Zhj at h
   split at h
   ·cases ‹some _=none›
   ·rename_i k n hy
    simp only[Option.some.injEq] at hy
    rw[hy] at hv
    cases h0:decide (0≤n) with
    | false=>rw[h0] at h;cases h
    | true=>
     rw[h0] at h
     simp only[cond_true,Option.some.injEq] at h
     have h0':0≤n:=of_decide_eq_true h0
     refine .inr ⟨k,?_⟩
     simp only[Option.map_some]
     rw[ZjI hv,← h,Int.toNat_of_nonneg h0']
   ·cases h
theorem Zx9 (pre:Pre G R w e a Hm) {t el:TypeId}{n:Nat}{x:Operand}{y:Opd}{lo hi mx:Option Operand}{lo' hi' mx':Option Opd}{v:V} (hop:o.op = .slice t x lo hi mx) (hx:ZU G x y=true)
  (hlo:ZlE G lo lo'=true) (hhi:ZlE G hi hi'=true) (hmx:ZlE G mx mx'=true) (hh:mx'.isSome=true→hi'.isSome=true) (ht:ZnF P t=some el) (hsz:Zf5 P el=some n)
  (h:Zh4 Hm n (y.val e) (lo'.map (·.val e)) (hi'.map (·.val e)) (mx'.map (·.val e))=some v) (hp:Zak R.H [] nid [] H'):Zds P o a w (Z4 R w nid 0 H' v):=by
 have hv:=pre.opd hx
 unfold Zh4 at h
 cases hes:elems Hm (y.val e) with
 | none=>rw[hes] at h;cases h
 | some xs=>
  rw[hes] at h
  dsimp only at h
  cases hl:Zhj (lo'.map (·.val e)) 0 with
  | none=>rw[hl] at h;cases h
  | some l=>
   rw[hl] at h
   cases hhn:Zhj (hi'.map (·.val e)) xs.length with
   | none=>rw[hhn] at h;cases h
   | some hn=>
    rw[hhn] at h
    dsimp only at h
    cases hc:(Nat.ble l hn&&Nat.ble hn xs.length) with
    | false=>rw[hc] at h;cases h
    | true=>
     rw[hc] at h
     simp only[cond_true] at h
     simp only[Bool.and_eq_true,Nat.ble_eq] at hc
     obtain⟨c1,c2⟩:=hc
     obtain⟨ad,cap,q1,q2⟩:=Zqj pre hv hes
     have b1:=ZsE pre hlo hl
     have b2:=ZsE pre hhi hhn
     have fin:Zbb R w v (.slice (if cap=l then ad else ad.map (·.add (l*n))) (hn-l) (cap-l))→mx=none→Zds P o a w (Z4 R w nid 0 H' v):=fun h5 hm=>
      Zb8 (s:=Instr.sliceAt t (a.eval x) (lo.map a.eval) (hi.map a.eval) (mx.map a.eval)) (by unfold execOp;rw[hop]) (by rw[q1,hm];exact Zz4 ht hsz b1 b2 c1 (by omega) q2) (Z4.stay pre.ok hp h5)
     cases mx' with
     | none=>
      have hm:mx=none:=by cases mx with | none=>rfl | some m=>cases hmx
      simp only[Option.map_none] at h
      refine fin ?_ hm
      rw[q1] at hv
      cases hy:y.val e<;>rw[hy] at h hv hes<;>try (cases h;done)
      ·rename_i z
       cases z<;>try (cases h;done)
       rename_i own xs'
       simp only[elems,Option.some.injEq] at hes
       subst hes
       dsimp only at h
       cases hg:(Nat.beq l 0 || Zj4 n xs' l) with
       | false=>rw[hg] at h;cases h
       | true=>
        rw[hg] at h
        simp only[cond_true,Option.some.injEq] at h
        subst h
        obtain⟨ad',len',cap',e1,e2,e3,e4,e5⟩:=hv
        cases e1
        have hlen:((xs'.drop l).take (hn-l)).length=hn-l:=by simp only[List.length_take,List.length_drop];omega
        refine⟨_,_,_,rfl,hlen.symm,by omega,fun z hz=>e4 z (List.mem_of_mem_drop (List.mem_of_mem_take hz)),fun hne=>?_⟩
        have hlt:l<hn:=by
         rcases Nat.lt_or_ge l hn with h | h
         ·exact h
         ·exact absurd (List.eq_nil_of_length_eq_zero (by omega)) hne
        obtain⟨b,off,sz,rfl,f2,f3,f4⟩:=e5 (by intro hn';rw[hn'] at c2;simp at c2;omega)
        have hcl:cap≠l:=by omega
        have hsame:l*n=l*sz:=by
         simp only[Bool.or_eq_true] at hg
         rcases hg with hg | hg
         ·rw[Nat.eq_of_beq_eq_true hg,Nat.zero_mul,Nat.zero_mul]
         ·have hll:l<xs'.length:=by omega
          unfold Zj4 at hg
          rw[Z0,List.getElem?_eq_getElem hll] at hg
          simp only[Bool.and_eq_true] at hg
          obtain⟨u,g1,g2,g3⟩:=ZiJ xs' off l _ f4 (List.getElem?_eq_getElem hll)
          have:=ZgS (R:=R) (v:=.d xs'[l]) g1 hg.2
          have h6:=Zeb _ _ this
          have hVc:(V.d xs'[l]).cells=ZcU xs'[l].cells:=by cases xs'[l]<;>rfl
          rw[hVc,Zjq,List.length_map,Nat.eq_of_beq_eq_true hg.1] at h6
          rw[← g2];simp at h6;rw[h6]
        refine⟨b,off+l*sz,sz,by rw[if_neg hcl,hsame];simp[Addr.add_lit],f2,f3,Zi9 _ _ fun j z hz=>?_⟩
        have hj:j<hn-l:=by have:=(List.getElem?_eq_some_iff.1 hz).1;omega
        rw[List.getElem?_take,if_pos hj,List.getElem?_drop] at hz
        obtain⟨u,g1,g2,g3⟩:=ZiJ xs' off (l+j) z f4 hz
        exact⟨u,g1,g2,fun k v hk=>by rw[← g3 k v hk,Nat.add_mul];congr 2;omega⟩
      ·rename_i b sz'
       dsimp only at h
       cases hg:Nat.beq n sz' with
       | false=>rw[hg] at h;cases h
       | true=>
        rw[hg] at h
        simp only[cond_true,Option.some.injEq] at h
        obtain rfl:=Nat.eq_of_beq_eq_true hg
        subst h
        simp only[elems] at hes
        cases hb:nth Hm b with
        | none=>rw[hb] at hes;cases hes
        | some blk=>
         rw[hb] at hes
         cases blk<;>try (cases hes;done)
         rename_i sz'' xs'
         dsimp only at hes
         cases hs:Nat.beq n sz'' with
         | false=>rw[hs] at hes;cases hes
         | true=>
          rw[hs] at hes
          simp only[cond_true,Option.some.injEq] at hes
          obtain rfl:=Nat.eq_of_beq_eq_true hs
          subst hes
          obtain⟨m,r1,r2,r3,r4⟩:=Zlp pre hb hv
          refine⟨⟨_,_,_,rfl⟩,m,r1,fun ys hys=>?_⟩
          rw[r2] at hys;cases hys
          obtain⟨_,ad',cap',s1,s2,s3⟩:=r4
          cases s1
          refine⟨by omega,_,_,rfl,by omega,?_⟩
          rcases s3 with⟨s3,s4⟩ | ⟨c,cs,el',fr,s4,s5,s6,s7⟩
          ·exact .inl ⟨by omega,by omega⟩
          ·by_cases hcl:cap=l
           ·exact .inl ⟨by omega,by omega⟩
           ·refine .inr ⟨c,cs,el',fr,s4,?_,s6,?_⟩
            ·rw[if_neg hcl,s5];simp[Addr.add_lit]
            ·rw[s7];congr 1;omega
      ·rename_i b sz' of len
       dsimp only at h
       cases hg:Nat.beq n sz' with
       | false=>rw[hg] at h;cases h
       | true=>
        rw[hg] at h
        simp only[cond_true,Option.some.injEq] at h
        obtain rfl:=Nat.eq_of_beq_eq_true hg
        subst h
        simp only[elems] at hes
        cases hb:nth Hm b with
        | none=>rw[hb] at hes;cases hes
        | some blk=>
         rw[hb] at hes
         cases blk<;>try (cases hes;done)
         rename_i sz'' xs'
         dsimp only at hes
         cases hs:Nat.beq n sz'' with
         | false=>rw[hs] at hes;cases hes
         | true=>
          rw[hs] at hes
          simp only[cond_true,Option.some.injEq] at hes
          obtain rfl:=Nat.eq_of_beq_eq_true hs
          subst hes
          obtain⟨m,r1,r2,r3,r4⟩:=ZjJ pre hb hv
          simp only[List.length_take,List.length_drop] at c2 r4 q2
          refine⟨⟨_,_,_,rfl⟩,m,r1,fun ys hys=>?_⟩
          rw[r2] at hys;cases hys
          obtain⟨s0,ad',cap',s1,s2,s3⟩:=r4
          simp only[Value.slice.injEq] at s1
          obtain⟨rfl,_,rfl⟩:=s1
          refine⟨by omega,_,_,rfl,by omega,?_⟩
          rcases s3 with⟨s3,s4⟩ | ⟨c,cs,el',fr,s4,s5,s6,s7⟩
          ·exact .inl ⟨by omega,by omega⟩
          ·obtain⟨t0,_,t1⟩:=r3
           by_cases hcl:cap=l
           ·refine .inl ⟨by omega,?_⟩
            rcases t1 with⟨t1,t2⟩ | ⟨c',cs',el'',t1,t2,t3,_⟩
            ·rw[t1] at s4;cases s4
            ·rw[t1] at s4;cases s4
             rw[t2] at s6;cases s6
             rw[s7] at t3
             have:=Nat.le_of_mul_le_mul_right t3 t0
             omega
           ·refine .inr ⟨c,cs,el',fr,s4,?_,s6,?_⟩
            ·rw[if_neg hcl,s5];simp[Addr.add_lit,Nat.add_mul]
            ·rw[s7];congr 1;omega
      ·rename_i sz'
       simp only[Option.some.injEq] at h
       subst h
       simp only[elems,Option.some.injEq] at hes
       subst hes
       obtain⟨ad',hv⟩:=hv
       cases hv
       simp only[List.length_nil] at c2
       obtain rfl:l=0:=by omega
       obtain rfl:hn=0:=by omega
       exact⟨_,rfl⟩
     | some m'=>
      cases mx with
      | none=>cases hmx
      | some m=>
       cases hhs:hi' with
       | none=>rw[hhs] at hh;cases hh rfl
       | some hi1=>
        dsimp only[Option.map_some] at h
        cases hm:Zhj (some (m'.val e)) 0 with
        | none=>rw[hm] at h;cases h
        | some mm=>
         rw[hm] at h
         dsimp only at h
         cases hg:(Nat.beq mm l&&Nat.beq mm hn) with
         | false=>rw[hg] at h;cases h
         | true=>
          rw[hg] at h
          simp only[cond_true,Option.some.injEq] at h
          subst h
          simp only[Bool.and_eq_true] at hg
          obtain rfl:=Nat.eq_of_beq_eq_true hg.1
          obtain rfl:=Nat.eq_of_beq_eq_true hg.2
          have b3:=ZsE pre (x:=some m) (y:=some m') hmx (by simpa using hm)
          refine Zb8 (s:=Instr.sliceAt t (a.eval x) (lo.map a.eval) (hi.map a.eval) ((some m).map a.eval)) (by unfold execOp;rw[hop]) (by
           rw[q1]
           refine Zx0 ht hsz b1 ?_ ?_ c1 (Nat.le_refl _) (by omega)
           ·rcases b2 with⟨b2,_⟩ | b2
            ·exfalso
             cases hi with
             | none=>rw[hhs] at hhi;cases hhi
             | some hi0=>cases b2
            ·exact b2
           ·rcases b3 with⟨b3,_⟩ | b3
            ·cases b3
            ·exact b3) (Z4.stay pre.ok hp ?_)
          exact⟨_,by rw[Nat.sub_self]⟩
end
end Go.Proofs.YtnmbdjkbaihicaaDoorE
namespace Go.Proofs.YtnmbdjkbaihicaaDoorE
open Go
set_option linter.unusedVariables false
set_option linter.unusedSimpArgs false
section
variable {P:Program} {G:ZbI} {R:RP} {w:World} {e:Env} {a:Act} {Hm H':Zo} {nid:Nat} {o:Oper}
theorem ZvC:∀(vs:List V) (us:List Value) (k:IntKind) (n:Int) (r:D),ZaL R w vs us→mxE.go true k n vs=some r→∃u,(us.foldlM Builtin.max2 (.int k n)).run P w = .ok u w∧R.den w r u
 | [],us,k,n,r,hd,h=>by
  simp only[mxE.go,Option.some.injEq] at h
  simp only[ZaL] at hd
  subst h;subst hd
  exact⟨.int k n,rfl,rfl⟩
 | v :: vs,us,k,n,r,hd,h=>by
  obtain⟨u,us',rfl,h1,h2⟩:=hd
  cases v<;>try (cases h;done)
  rename_i x
  cases x<;>try (cases h;done)
  rename_i k' m
  simp only[mxE.go,cond_true] at h
  obtain⟨u,h3,h4⟩:=ZvC vs us' k _ r h2 h
  refine⟨u,?_,h4⟩
  cases h1
  rw[List.foldlM_cons,Sem.run_bind,← h3]
  by_cases hlt:n<m
  ·simp[Builtin.max2,hlt]
  ·simp[Builtin.max2,hlt]
theorem Zvs:∀(vs:List V) (us:List Value) (k:IntKind) (n:Int) (r:D),ZaL R w vs us→mxE.go false k n vs=some r→∃u,(us.foldlM Builtin.min2 (.int k n)).run P w = .ok u w∧R.den w r u
 | [],us,k,n,r,hd,h=>by
  simp only[mxE.go,Option.some.injEq] at h
  simp only[ZaL] at hd
  subst h;subst hd
  exact⟨.int k n,rfl,rfl⟩
 | v :: vs,us,k,n,r,hd,h=>by
  obtain⟨u,us',rfl,h1,h2⟩:=hd
  cases v<;>try (cases h;done)
  rename_i x
  cases x<;>try (cases h;done)
  rename_i k' m
  simp only[mxE.go,cond_false] at h
  obtain⟨u,h3,h4⟩:=Zvs vs us' k _ r h2 h
  refine⟨u,?_,h4⟩
  cases h1
  rw[List.foldlM_cons,Sem.run_bind,← h3]
  by_cases hlt:m<n
  ·simp[Builtin.min2,hlt]
  ·simp[Builtin.min2,hlt]
theorem ZBt (pre:Pre G R w e a Hm) {b:Bool}{ats:Array TypeId}{xs:Array Operand}{ys:List Opd}{r:D} (hop:o.op = .call { callee:=.builtin (bif b then .max else .min),args:=xs,argTypes:=ats }) (hx:Ze3 G xs.toList ys=true)
  (h:mxE b (vals e ys)=some r) (hp:Zak R.H [] nid [] H'):Zds P o a w (Z4 R w nid 0 H' (.d r)):=by
 have hv:=pre.opds hx
 have hl:(xs.map a.eval).toList=xs.toList.map a.eval:=by simp
 cases hvs:vals e ys with
 | nil=>rw[hvs] at h;cases h
 | cons v vs=>
  rw[hvs] at h hv
  obtain⟨u,us,hus,h1,h2⟩:=hv
  cases v<;>try (cases h;done)
  rename_i x
  cases x<;>try (cases h;done)
  rename_i k n
  cases h1
  simp only[mxE] at h
  cases b with
  | true=>
   obtain⟨u,h3,h4⟩:=ZvC (P:=P) vs us k n r h2 h
   refine Zb8 (s:=Builtin.max_ ats o.type (xs.map a.eval)) (u:=u) (by rw[Zgf hop];rfl) ?_ (Z4.stay pre.ok hp h4)
   rw[Builtin.max_,hl,hus];exact h3
  | false=>
   obtain⟨u,h3,h4⟩:=Zvs (P:=P) vs us k n r h2 h
   refine Zb8 (s:=Builtin.min_ ats o.type (xs.map a.eval)) (u:=u) (by rw[Zgf hop];rfl) ?_ (Z4.stay pre.ok hp h4)
   rw[Builtin.min_,hl,hus];exact h3
theorem ZxI (pre:Pre G R w e a Hm) {x:Operand}{y:Opd}{v:V} (hop:o.op = .nilCheck x) (hx:ZU G x y=true) (h:Zs3 Hm (y.val e)=some v) (hp:Zak R.H [] nid [] H'):Zds P o a w (Z4 R w nid 0 H' v):=by
 have hv:=pre.opd hx
 have ptr:∀(ad:Addr) v,a.eval x = .pointer (some ad)→Zbb R w v (a.eval x)→Zds P o a w (Z4 R w nid 0 H' v):=fun ad v h1 h2=>
  .val (u:=a.eval x) (w':=w) (by unfold execOp;rw[hop];simp[h1]) (Z4.stay pre.ok hp h2)
 unfold Zs3 at h
 split at h
 ·rename_i f caps hy
  simp only[Option.some.injEq] at h
  subst h
  rw[hy] at hv
  have hv':=hv
  obtain⟨us,h1,_⟩:=hv'
  exact .val (u:=a.eval x) (w':=w) (by unfold execOp;rw[hop];simp[h1]) (Z4.stay pre.ok hp hv)
 ·rename_i f caps hy
  simp only[Option.some.injEq] at h
  subst h
  rw[hy] at hv
  have hv':=hv
  obtain⟨us,h1,_⟩:=hv'
  exact .val (u:=a.eval x) (w':=w) (by unfold execOp;rw[hop];simp[h1]) (Z4.stay pre.ok hp hv)
 ·rename_i t z hy
  simp only[Option.some.injEq] at h
  subst h
  rw[hy] at hv
  have hv':=hv
  obtain⟨u',h1,_⟩:=hv'
  exact .val (u:=a.eval x) (w':=w) (by unfold execOp;rw[hop];simp[h1]) (Z4.stay pre.ok hp hv)
 ·rename_i cs hy
  simp only[Option.some.injEq] at h
  subst h
  rw[hy] at hv
  have hv':=hv
  obtain⟨b,off,h1,_⟩:=hv'
  exact ptr _ _ h1 hv
 ·rename_i b off hy
  simp only[Option.some.injEq] at h
  subst h
  rw[hy] at hv
  have hv':=hv
  obtain⟨c,_,h1⟩:=hv'
  exact ptr _ _ h1 hv
 ·rename_i b sz i k hy
  simp only[Option.some.injEq] at h
  subst h
  rw[hy] at hv
  have hv':=hv
  obtain⟨c,_,h1⟩:=hv'
  exact ptr _ _ h1 hv
 ·cases h
structure ZiR (R R':RP) (ks:List Nat):Prop where
 m:R'.M=R.M
 b1:R'.B1=R.B1
 live:∀i,Zab R'.H i=true→Zab R.H i=true
 dead:∀k∈ks,Zab R'.H k=false
theorem ZiR.a1 {R R':RP}{ks:List Nat} (h:ZiR R R' ks):∀b,R.A1 b→R'.A1 b:=fun b ⟨h1,h2⟩=>
 ⟨fun⟨i,l1,l2⟩=>h1 ⟨i,h.live i l1,by rw[← h.m];exact l2⟩,by rw[h.b1];exact h2⟩
theorem ZiR.own {R R':RP}{ks:List Nat} (h:ZiR R R' ks) (ok:R.OK w) {b c:Nat} (hb:Zab R.H b=true) (hk:b∈ks) (hm:R.M b=some (some c)):R'.A1 c:=
 ⟨fun⟨i,l1,l2⟩=>by
  rw[h.m] at l2
  have:=ok.inj i b c (h.live i l1) hb l2 hm
  subst this
  rw[h.dead i hk] at l1
  exact Bool.noConfusion l1,by rw[h.b1];exact ok.nb b c hb hm⟩
theorem Zre {H:Zo}{b sz:Nat}{xs:List D} (h:nth H b=some (.arr sz xs)):Zab H b=true:=by
 unfold Zab;rw[h]
theorem ZnP (ok:R.OK w) {c:Nat}{sz:Nat}{xs:List D}{A1' A0' AL':Nat→Prop} (h1:∀b,R.A1 b→A1' b) {l n:Nat} (hb:Zg9 R w (some c) (.arr sz xs)) (hne:(xs.drop l).take n≠[]) :
  Zfe A1' A0' AL' w c sz (l*sz) ((xs.drop l).take n):=by
 obtain⟨_,he,hb⟩:=hb
 rcases hb with⟨hb,_⟩ | ⟨c',cs,el,e1,e2,e3,e4⟩
 ·cases hb
 ·cases e1
  refine Zi9 _ _ fun j x hj=>?_
  rw[List.getElem?_take] at hj
  by_cases hjn:j<n
  ·rw[if_pos hjn,List.getElem?_drop] at hj
   obtain⟨u,f1,f2,f3⟩:=e4 (l+j) x hj
   refine⟨u,Zbg.lift h1 x u (he x (List.mem_of_getElem? hj)) f1,f2,fun k v hk=>?_⟩
   rw[ZcK e2,← f3 k v hk,Nat.add_mul]
  ·rw[if_neg hjn] at hj;cases hj
mutual
theorem Zme (n:Nat):∀(v:V) (y:D) (ks:List Nat),(pre:Pre G R w e a Hm)→fr Hm n v=some (y,ks)→∀{R':RP}{ks':List Nat},ZiR R R' ks'→(∀k∈ks,k∈ks')→∀u,Zbb R w v u→(y.esc=true∨∃ts,y = .tup ts)∧∀A0' AL',Zbg R'.A1 A0' AL' w y u:=by
 intro v y ks pre h R' ks' hL hks u hu
 cases n with
 | zero=>cases h
 | succ n=>
  simp only[fr] at h
  cases v<;>try (cases h;done)
  ·rename_i x
   dsimp only at h
   split at h
   ·rename_i ts
    cases he:Ztd ts with
    | false=>rw[he] at h;cases h
    | true=>
     rw[he] at h
     simp only[cond_true,Option.some.injEq,Prod.mk.injEq] at h
     obtain⟨rfl,_⟩:=h
     obtain⟨us,rfl,hu⟩:=hu
     exact⟨.inr ⟨ts,rfl⟩,fun A0' AL'=>⟨us,rfl,Za2.liftT hL.a1 ts us he hu⟩⟩
   ·cases he:x.esc with
    | false=>rw[he] at h;cases h
    | true=>
     rw[he] at h
     simp only[cond_true,Option.some.injEq,Prod.mk.injEq] at h
     obtain⟨rfl,_⟩:=h
     exact⟨.inl he,fun A0' AL'=>Zbg.lift hL.a1 x u he hu⟩
  ·rename_i b sz
   dsimp only at h
   cases hb:nth Hm b with
   | none=>rw[hb] at h;cases h
   | some blk=>
    rw[hb] at h
    cases blk<;>try (cases h;done)
    rename_i sz' xs
    dsimp only at h
    cases hs:Nat.beq sz sz' with
    | false=>rw[hs] at h;cases h
    | true=>
     rw[hs] at h
     obtain rfl:=Nat.eq_of_beq_eq_true hs
     simp only[cond_true,Option.some.injEq,Prod.mk.injEq] at h
     obtain⟨rfl,rfl⟩:=h
     refine⟨.inl rfl,fun A0' AL'=>?_⟩
     obtain⟨m,q1,q2,q3,q4⟩:=Zlp pre hb hu
     have q5:=q4
     obtain⟨_,ad,cap,rfl,q6,q7⟩:=q5
     refine⟨_,_,_,rfl,rfl,q6,q3.2.1,fun hne=>?_⟩
     obtain⟨c,cs,el,fr',cap',rfl,e1,e2,e3,e4⟩:=Ze0 q4 (.inl (List.length_pos_iff.2 hne))
     cases e1
     refine⟨c,0*sz,sz,rfl,hL.own pre.ok (Zre q2) (hks _ (by simp)) q1,pre.ok.lt _ _ q1,?_⟩
     have:=ZnP pre.ok (A0':=A0') (AL':=AL') hL.a1 (l:=0) (n:=xs.length) q3 (by simpa using hne)
     simpa using this
  ·rename_i b sz of len
   dsimp only at h
   cases hb:nth Hm b with
   | none=>rw[hb] at h;cases h
   | some blk=>
    rw[hb] at h
    cases blk<;>try (cases h;done)
    rename_i sz' xs
    dsimp only at h
    cases hs:Nat.beq sz sz' with
    | false=>rw[hs] at h;cases h
    | true=>
     rw[hs] at h
     obtain rfl:=Nat.eq_of_beq_eq_true hs
     simp only[cond_true,Option.some.injEq,Prod.mk.injEq] at h
     obtain⟨rfl,rfl⟩:=h
     refine⟨.inl rfl,fun A0' AL'=>?_⟩
     obtain⟨m,q1,q2,q3,q4⟩:=ZjJ pre hb hu
     have q5:=q4
     obtain⟨q8,ad,cap,rfl,q6,q7⟩:=q5
     have hlen:((xs.drop of).take len).length=len:=by simp only[List.length_take,List.length_drop];omega
     refine⟨_,_,_,rfl,hlen.symm,q6,fun x hx=>q3.2.1 x (List.mem_of_mem_drop (List.mem_of_mem_take hx)),fun hne=>?_⟩
     obtain⟨c,cs,el,fr',cap',rfl,e1,e2,e3,e4⟩:=Ze0 q4 (.inl (by rw[← hlen];exact List.length_pos_iff.2 hne))
     cases e1
     exact⟨c,of*sz,sz,rfl,hL.own pre.ok (Zre q2) (hks _ (by simp)) q1,pre.ok.lt _ _ q1,ZnP pre.ok hL.a1 q3 hne⟩
  ·simp only[Option.some.injEq,Prod.mk.injEq] at h
   obtain⟨rfl,rfl⟩:=h
   obtain⟨ad,rfl⟩:=hu
   exact⟨.inl rfl,fun A0' AL'=>⟨_,_,_,rfl,rfl,Nat.le_refl _,by simp,by simp⟩⟩
  ·rename_i cs
   dsimp only at h
   cases hl:frl (fr Hm n) cs with
   | none=>rw[hl] at h;cases h
   | some p=>
    obtain⟨l,ks1⟩:=p
    rw[hl] at h
    dsimp only at h
    cases he:D.escs l with
    | false=>rw[he] at h;cases h
    | true=>
     rw[he] at h
     simp only[cond_true,Option.some.injEq,Prod.mk.injEq] at h
     obtain⟨rfl,rfl⟩:=h
     obtain⟨us,rfl,h1⟩:=hu
     have g2:=ZqO n cs l ks1 pre hl hL hks us h1
     exact⟨.inl he,fun A0' AL'=>⟨us,rfl,g2 A0' AL'⟩⟩
  ·rename_i cs
   dsimp only at h
   cases hl:frl (fr Hm n) cs with
   | none=>rw[hl] at h;cases h
   | some p=>
    obtain⟨l,ks1⟩:=p
    rw[hl] at h
    simp only[Option.some.injEq,Prod.mk.injEq] at h
    obtain⟨rfl,rfl⟩:=h
    obtain⟨us,rfl,h1⟩:=hu
    have g2:=ZqO n cs l ks1 pre hl hL hks us h1
    exact⟨.inr ⟨_,rfl⟩,fun A0' AL'=>⟨us,rfl,g2 A0' AL'⟩⟩
termination_by (n,0)
theorem ZqO (n:Nat):∀(vs:List V) (ys:List D) (ks:List Nat),(pre:Pre G R w e a Hm)→frl (fr Hm n) vs=some (ys,ks)→∀{R':RP}{ks':List Nat},ZiR R R' ks'→(∀k∈ks,k∈ks')→∀us,ZaL R w vs us→∀A0' AL',Za2 R'.A1 A0' AL' w ys us
 | [],ys,ks,pre,h,R',ks',hL,hks,us,hu=>by
  simp only[frl,Option.some.injEq,Prod.mk.injEq] at h
  obtain⟨rfl,rfl⟩:=h
  exact fun _ _=>hu
 | v :: vs,ys,ks,pre,h,R',ks',hL,hks,us,hu=>by
  simp only[frl] at h
  cases h1:fr Hm n v with
  | none=>rw[h1] at h;cases h
  | some p=>
   obtain⟨y,k1⟩:=p
   cases h2:frl (fr Hm n) vs with
   | none=>rw[h1,h2] at h;cases h
   | some q=>
    obtain⟨ys',k2⟩:=q
    rw[h1,h2] at h
    simp only[Option.some.injEq,Prod.mk.injEq] at h
    obtain⟨rfl,rfl⟩:=h
    obtain⟨u,us',rfl,e1,e2⟩:=hu
    obtain⟨g1,g2⟩:=Zme n v y k1 pre h1 hL (fun k hk=>hks k (by simp[hk])) u e1
    have g4:=ZqO n vs ys' k2 pre h2 hL (fun k hk=>hks k (by simp[hk])) us' e2
    exact fun A0' AL'=>⟨u,us',rfl,g2 A0' AL',g4 A0' AL'⟩
termination_by vs=>(n,vs.length+1)
end
theorem ZiR.refl (R:RP):ZiR R R []:=⟨rfl,rfl,fun _ h=>h,by simp⟩
theorem Zz1 (pre:Pre G R w e a Hm) {t:TypeId}{x:Operand}{y:Opd}{z:D} (hop:o.op = .makeInterface t x) (hx:ZU G x y=true) (ht:P.concrete t=true)
  (h:fr Hm 6 (y.val e)=some (z,[])) (hp:Zak R.H [] nid [] H'):Zds P o a w (Z4 R w nid 0 H' (.d (.iface t z))):=by
 have hv:=pre.opd hx
 obtain⟨_,g⟩:=Zme 6 _ z [] pre h (ZiR.refl R) (fun _ h=>h) _ hv
 exact Zb8 (s:=Instr.makeInterface t (a.eval x)) (by unfold execOp;rw[hop]) (run_makeInterface w t _ ht) (Z4.stay pre.ok hp ⟨_,rfl,g _ _⟩)
end
end Go.Proofs.YtnmbdjkbaihicaaDoorE
