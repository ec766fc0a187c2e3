/- TeamStays: part 1 of 4 of the proof. -/
import Derived.Calls
import Derived.Orders
import Derived.Test.YtgcfmiajkbbmeaaGreatProg
import Derived.Below
import Derived.WalkKit
import Derived.Laws.MakeOwn
import Derived.ChangeKeysEq
import Derived.ArgAppend
set_option maxRecDepth 100000
set_option maxHeartbeats 40000000
set_option linter.unusedVariables false
set_option linter.unusedSimpArgs false
namespace Go.Proofs.YtgcfmiajkbbmeaaGreatE
open Go
open Go.IntKind (u64 i64 u32 i32 u8)
abbrev ZhN (n:Int):BitVec u64.bits:=BitVec.ofInt u64.bits n
abbrev Zxq (n:Int):BitVec i64.bits:=BitVec.ofInt i64.bits n
abbrev ZB0 (n:Int):BitVec u32.bits:=BitVec.ofInt u32.bits n
abbrev ZB1 (n:Int):BitVec i32.bits:=BitVec.ofInt i32.bits n
inductive D where
 | bool (b:Bool) | int (k:IntKind) (n:Int) | str (s:ByteArray)
 | list (own:Bool) (xs:List D) | agg (cs:List D) | tup (vs:List D)
 | fn (f:Nat) (caps:List D) | nilfn
 | rptr (cs:List D) | nilp
 | iface (t:Nat) (v:D) | nilI
inductive V where
 | d (x:D) | bad
 | ptr (b o:Nat) | eptr (b sz i k:Nat)
 | sl (b sz:Nat) | slp (b sz o len:Nat) | nilsl (sz:Nat)
 | agg (cs:List V) | tup (vs:List V)
 | fn (f:Nat) (caps:List V)
 | mp (b:Nat)
inductive Blk where
 | dead | cells (cs:List V) | arr (sz:Nat) (xs:List D)
 | mp (es:List (D×D))
abbrev Zc:=List Blk
abbrev Env:=Nat->V
def Env.set (e:Env) (i:Nat) (v:V):Env:=fun j=>bif Nat.beq i j then v else e j
def env0:Env:=fun _=>.bad
def ZbB:List Nat->List V->Env
 | i :: is,v :: vs=>(ZbB is vs).set i v
 | _,_=>env0
def D.isAgg:D->Bool
 | .agg _=>true
 | _=>false
mutual
def D.esc:D->Bool
 | .list own _=>own
 | .agg cs=>D.escs cs
 | .tup _=>false
 | .iface _ v=>v.esc
 | .fn _ caps=>caps.isEmpty
 | .rptr _=>false
 | _=>true
def D.escs:List D->Bool
 | []=>true
 | c :: cs=>c.esc&&(!c.isAgg&&D.escs cs)
end
def ZrH:List D->Bool
 | []=>true
 | c :: cs=>c.esc&&ZrH cs
mutual
def D.nofn:D->Bool
 | .fn _ caps=>caps.isEmpty
 | .agg cs=>D.nofns cs
 | .tup cs=>D.nofns cs
 | .rptr cs=>D.nofns cs
 | .iface _ v=>v.nofn
 | _=>true
def D.nofns:List D->Bool
 | []=>true
 | c :: cs=>c.nofn&&D.nofns cs
end
mutual
def ZnD:V->Bool
 | .d (.tup ts)=>ZrH ts
 | .d x=>x.esc
 | .agg cs=>Zlj cs
 | .tup cs=>Zlj cs
 | .fn _ cs=>Zlj cs
 | _=>true
def Zlj:List V->Bool
 | []=>true
 | v :: vs=>ZnD v&&Zlj vs
end
mutual
def ZiW:V->Bool
 | .d x=>x.nofn
 | .agg cs=>Zih cs
 | .tup cs=>Zih cs
 | .fn _ cs=>Zih cs
 | _=>true
def Zih:List V->Bool
 | []=>true
 | v :: vs=>ZiW v&&Zih vs
end
def ZiZ:List Blk->Bool
 | []=>true
 | .cells cs :: r=>Zlj cs&&ZiZ r
 | _ :: r=>ZiZ r
def Zgv:List Blk->Bool
 | []=>true
 | .cells cs :: r=>Zih cs&&Zgv r
 | _ :: r=>Zgv r
def V.isAggV:V->Bool
 | .d (.agg _)=>true
 | .agg _=>true
 | _=>false
def V.isD:V->Bool
 | .d _=>true
 | _=>false
def D.cells:D->List D
 | .agg cs=>cs
 | x=>[x]
inductive Opd where
 | t (i:Nat) | c (v:V)
inductive O where
 | mov (x:Opd)
 | pick (c a b:Opd)
 | alloc (z:V)
 | box (x:Opd)
 | build (z:List V) (ps:List (Nat×Nat×Opd))
 | bslice (sz:Nat) (z:List D) (len:Nat) (ps:List (Nat×Opd))
 | load (n:Nat) (ag:Bool) (x:Opd)
 | store (n:Nat) (x v:Opd)
 | nilck (x:Opd)
 | bin (op:BinOp) (x y:Opd)
 | eqv (ks:List Bool) (neg:Bool) (x y:Opd)
 | un (op:UnOp) (x:Opd)
 | conv (k:IntKind) (x:Opd)
 | mkfn (f:Nat) (caps:List Opd)
 | mkslice (sz:Nat) (z:List D) (n c:Opd)
 | slice (sz:Nat) (x:Opd) (lo hi mx:Option Opd)
 | faddr (off:Nat) (x:Opd)
 | field (off n:Nat) (ag:Bool) (x:Opd)
 | iaddr (sz:Nat) (x i:Opd)
 | index (len sz:Nat) (ag:Bool) (x i:Opd)
 | indexS (x i:Opd)
 | iaddrA (len sz:Nat) (x i:Opd)
 | len (x:Opd)
 | append (sz:Nat) (x y:Opd)
 | appendD (sz:Nat) (x y:Opd)
 | mx (isMax:Bool) (xs:List Opd)
 | extract (x:Opd) (i:Nat)
 | mkif (t:Nat) (x:Opd)
 | call (f:Nat) (args:List Opd)
 | callv (x:Opd) (args:List Opd)
 | invoke (tab:List (Nat×Nat)) (x:Opd) (args:List Opd)
 | mkmap
 | mapset (ks:List Bool) (m k v:Opd)
 | mapget (ks:List Bool) (z:D) (m k:Opd)
 | panic
 | callk (f:Nat) (args:List Opd) (chk:List Opd)
 | nilq (x:Opd)
 | spec (id:Nat) (args:List Opd)
 | storek (n:Nat) (x v:Opd) (chk:List Opd)
 | sortI (x:Opd)
 | nilckm (tab:List (Nat×Nat)) (x:Opd)
structure Op1 where
 dst:Option Nat
 op:O
 guard:Option (Nat×Bool)
 mask:List Nat
 eff:Nat
inductive C where
 | skip | ret | exit (id:Nat)
 | seq (a b:C)
 | cond (x:Opd) (a b:C)
 | block (id:Nat) (a:C)
 | loop (live outs:List Nat) (a:C)
 | ops (l:List Op1)
 | draw (l:List Op1)
inductive Ex where
 | normal | exit (id:Nat) | ret
structure FnI where
 nargs:Nat
 body:C
 res:List (Nat×Option (Nat×Bool))
structure Ctx where
 code:Nat->Option FnI
 mode:Nat->Nat
abbrev oA (op:O):Op1:=⟨none,op,none,[],0⟩
abbrev oB (d:Nat) (op:O):Op1:=⟨some d,op,none,[],0⟩
abbrev oG (d:Nat) (op:O) (s:Nat) (b:Bool):Op1:=⟨some d,op,some (s,b),[],0⟩
abbrev oM (d:Nat) (op:O) (m:List Nat):Op1:=⟨some d,op,none,m,0⟩
abbrev iN (n:Int):Opd:=.c (.d (.int .i64 n))
abbrev bT:Opd:=.c (.d (.bool true))
abbrev bF:Opd:=.c (.d (.bool false))
def Opd.val (e:Env):Opd->V
 | .t i=>e i
 | .c v=>v
def ZcD (e:Env):List Opd->List V
 | []=>[]
 | x :: xs=>x.val e :: ZcD e xs
def ZhO:List V->Option (List D)
 | []=>some []
 | .d x :: r=>match ZhO r with | some l=>some (x :: l) | none=>none
 | _ :: _=>none
def Zqf (cs:List V):V:=match ZhO cs with | some l=>.d (.agg l) | none=>.agg cs
def ZpX (cs:List V):V:=match ZhO cs with | some l=>.d (.tup l) | none=>.tup cs
def ZaU:List D->List V
 | []=>[]
 | x :: xs=>.d x :: ZaU xs
def V.cells:V->List V
 | .d (.agg cs)=>ZaU cs
 | .agg cs=>cs
 | v=>[v]
def nth {α:Type}:List α->Nat->Option α
 | [],_=>none
 | x :: _,0=>some x
 | _ :: xs,n+1=>nth xs n
def ZbZ {α:Type}:List α->Nat->α->List α
 | [],_,_=>[]
 | _ :: xs,0,v=>v :: xs
 | x :: xs,n+1,v=>x :: ZbZ xs n v
def ZH {α:Type}:List α->Nat->List α->List α
 | cs,_,[]=>cs
 | cs,o,v :: vs=>ZH (ZbZ cs o v) (o+1) vs
def fzl (f:V->Option D):List V->Option (List D)
 | []=>some []
 | v :: vs=>match f v,fzl f vs with | some x,some l=>some (x :: l) | _,_=>none
def fz (H:Zc):Nat->V->Option D
 | 0,_=>none
 | n+1,v=>match v with
  | .d x=>some x
  | .sl b sz=>match nth H b with
   | some (.arr sz' xs)=>bif Nat.beq sz sz' then some (.list false xs) else none
   | _=>none
  | .slp b sz o len=>match nth H b with
   | some (.arr sz' xs)=>bif Nat.beq sz sz' then some (.list false ((xs.drop o).take len)) else none
   | _=>none
  | .nilsl _=>some (.list true [])
  | .agg cs=>match fzl (fz H n) cs with | some l=>some (.agg l) | none=>none
  | .fn f caps=>match fzl (fz H n) caps with | some l=>some (.fn f l) | none=>none
  | .ptr b o=>match nth H b with
   | some (.cells cs)=>match fzl (fz H n) (cs.drop o) with | some l=>some (.rptr l) | none=>none
   | _=>none
  | _=>none
def fzs (H:Zc) (l:List V):Option (List D):=fzl (fz H 6) l
def frl (f:V->Option (D×List Nat)):List V->Option (List D×List Nat)
 | []=>some ([],[])
 | v :: vs=>match f v,frl f vs with | some (x,k),some (l,ks)=>some (x :: l,k++ks) | _,_=>none
def fr (H:Zc):Nat->V->Option (D×List Nat)
 | 0,_=>none
 | n+1,v=>match v with
  | .d x=>match x with
   | .tup ts=>bif ZrH ts then some (.tup ts,[]) else none
   | x=>bif x.esc then some (x,[]) else none
  | .sl b sz=>match nth H b with
   | some (.arr sz' xs)=>bif Nat.beq sz sz' then some (.list true xs,[b]) else none
   | _=>none
  | .slp b sz o len=>match nth H b with
   | some (.arr sz' xs)=>bif Nat.beq sz sz' then some (.list true ((xs.drop o).take len),[b]) else none
   | _=>none
  | .nilsl _=>some (.list true [],[])
  | .agg cs=>match frl (fr H n) cs with | some (l,ks)=>bif D.escs l then some (.agg l,ks) else none | none=>none
  | .tup cs=>match frl (fr H n) cs with | some (l,ks)=>some (.tup l,ks) | none=>none
  | _=>none
def idx:List Nat->Nat->Nat->Option Nat
 | [],_,_=>none
 | a :: l,b,i=>bif Nat.beq a b then some i else idx l b (i+1)
mutual
def ZjW (ρ:Nat->Option Nat):V->V
 | .d x=>.d x
 | .bad=>.bad
 | .ptr b o=>match ρ b with | some j=>.ptr j o | none=>.bad
 | .eptr b sz i k=>match ρ b with | some j=>.eptr j sz i k | none=>.bad
 | .sl b sz=>match ρ b with | some j=>.sl j sz | none=>.bad
 | .slp b sz o len=>match ρ b with | some j=>.slp j sz o len | none=>.bad
 | .nilsl sz=>.nilsl sz
 | .agg cs=>.agg (Zfw ρ cs)
 | .tup cs=>.tup (Zfw ρ cs)
 | .fn f caps=>.fn f (Zfw ρ caps)
 | .mp b=>match ρ b with | some j=>.mp j | none=>.bad
def Zfw (ρ:Nat->Option Nat):List V->List V
 | []=>[]
 | v :: vs=>ZjW ρ v :: Zfw ρ vs
end
def Ze9 (ρ:Nat->Option Nat):Blk->Blk
 | .cells cs=>.cells (Zfw ρ cs)
 | b=>b
mutual
def ZAO:V->List Nat
 | .ptr b _=>[b]
 | .eptr b _ _ _=>[b]
 | .sl b _=>[b]
 | .slp b _ _ _=>[b]
 | .mp b=>[b]
 | .agg cs=>Zfr cs
 | .tup cs=>Zfr cs
 | .fn _ caps=>Zfr caps
 | _=>[]
def Zfr:List V->List Nat
 | []=>[]
 | v :: vs=>ZAO v++Zfr vs
end
def Zss (H:Zc) (b:Nat):List Nat:=match nth H b with | some (.cells cs)=>Zfr cs | _=>[]
def ZE (H:Zc) (b:Nat):Bool:=match nth H b with | some .dead=>false | some _=>true | none=>false
def Ze3 (l:List Nat) (b:Nat):Bool:=match l with | []=>false | a :: l=>bif Nat.beq a b then true else Ze3 l b
def Zdw (H:Zc):List Nat->List Nat->List Nat
 | l,[]=>l
 | l,b :: bs=>bif Ze3 l b || !(ZE H b) then Zdw H l bs else Zdw H (l++[b]) bs
def Zim (H:Zc):Nat->Nat->List Nat->List Nat
 | 0,_,l=>l
 | n+1,i,l=>match nth l i with
  | some b=>Zim H n (i+1) (Zdw H l (Zss H b))
  | none=>l
def ZjK:Nat->List Nat
 | 0=>[]
 | n+1=>ZjK n++[n]
def ZjY (H:Zc) (k:Nat) (vs:List V):List Nat:=
 Zim H (H.length+1) 0 (Zdw H (ZjK k) (Zfr vs))
def ZjE:List Nat->Bool
 | []=>true
 | a :: l=>!(Ze3 l a)&&ZjE l
def pick (H:Zc) (ρ:Nat->Option Nat):List Nat->Zc
 | []=>[]
 | b :: bs=>(match nth H b with | some blk=>Ze9 ρ blk | none=>.dead) :: pick H ρ bs
def Znz (n:Nat):List Nat->Bool
 | []=>true
 | a :: l=>Nat.blt a n&&Znz n l
def extract (k:Nat) (vs:List V) (H:Zc):Option (List Nat×List V×Zc):=
 let L:=ZjY H k vs
 bif ZjE L&&Znz H.length L then some (L,Zfw (fun b=>idx L b 0) vs,pick H (fun b=>idx L b 0) L) else none
def Zal:Nat->List V->List V×List Blk
 | _,[]=>([],[])
 | n,.nilsl sz :: vs=>bif Nat.blt 0 sz then (let r:=Zal (n+1) vs;(.sl n sz :: r.1,.arr sz [] :: r.2)) else (let r:=Zal n vs;(.nilsl sz :: r.1,r.2))
 | n,v :: vs=>let r:=Zal n vs;(v :: r.1,r.2)
def ZaT:Nat->Zc->Zc×List Blk
 | _,[]=>([],[])
 | n,.cells cs :: H=>let r:=Zal n cs;let q:=ZaT (n+r.2.length) H;(.cells r.1 :: q.1,r.2++q.2)
 | n,b :: H=>let q:=ZaT n H;(b :: q.1,q.2)
def ZlA (k:Nat) (vs:List V) (H:Zc):Option (List V×Zc):=
 match extract k vs H with
 | none=>none
 | some (_,vs1,H1)=>
  let r:=Zal H1.length vs1
  let q:=ZaT (H1.length+r.2.length) H1
  match extract k r.1 (q.1++(r.2++q.2)) with
  | none=>none
  | some (_,vs2,H2)=>some (vs2,H2)
mutual
def eqD:D->D->Option Bool
 | .bool a,.bool b=>some (a==b)
 | .int k a,.int k' b=>bif k==k' then some (a==b) else none
 | .agg xs,.agg ys=>ZhR xs ys
 | _,_=>none
def ZhR:List D->List D->Option Bool
 | [],[]=>some true
 | x :: xs,y :: ys=>match eqD x y,ZhR xs ys with | some a,some b=>some (a&&b) | _,_=>none
 | _,_=>none
end
def Zbk:List Bool->List D->Bool
 | [],[]=>true
 | true :: ks,.bool _ :: cs=>Zbk ks cs
 | false :: ks,.int _ _ :: cs=>Zbk ks cs
 | _,_=>false
def ZaN (ks:List Bool):D->Bool
 | .agg cs=>(match ks with | [_]=>false | ks=>Zbk ks cs)
 | x=>(match ks with | [_]=>Zbk ks [x] | _=>false)
def lim:Nat:=1073741824
def ZG {α:Type} (xs:List α) (i:Int):Option α:=bif decide (0<=i) then nth xs i.toNat else none
abbrev Res:=Option (V×List (Nat×Blk)×List Blk)
def ZaG (v:V):Res:=some (v,[],[])
def ZwS (op:BinOp) (k:IntKind) (a b:Int):Option D:=
 match op with
 | .add=>some (.int k (k.wrap (a+b)))
 | .sub=>some (.int k (k.wrap (a-b)))
 | .mul=>some (.int k (k.wrap (a*b)))
 | .quo=>bif b==0 then none else some (.int k (k.wrap (a.tdiv b)))
 | .rem=>bif b==0 then none else some (.int k (a.tmod b))
 | .and=>some (.int k (k.wrap (BitVec.ofInt k.bits a &&& BitVec.ofInt k.bits b).toNat))
 | .or=>some (.int k (k.wrap (BitVec.ofInt k.bits a ||| BitVec.ofInt k.bits b).toNat))
 | .xor=>some (.int k (k.wrap (BitVec.ofInt k.bits a ^^^ BitVec.ofInt k.bits b).toNat))
 | .eql=>some (.bool (a==b))
 | .neq=>some (.bool (a != b))
 | .lss=>some (.bool (decide (a<b)))
 | .leq=>some (.bool (decide (a<=b)))
 | .gtr=>some (.bool (decide (b<a)))
 | .geq=>some (.bool (decide (b<=a)))
 | _=>none
def shI (op:BinOp) (k:IntKind) (a b:Int):Option D:=
 bif decide (b<0) then none else
 match op with
 | .shl=>some (.int k (k.wrap (a*2 ^ (min b.toNat k.bits))))
 | .shr=>some (.int k (a.fdiv (2 ^ (min b.toNat k.bits))))
 | _=>none
def Zjy (op:BinOp) (x y:V):Option D:=
 match op,x,y with
 | .shl,.d (.int k a),.d (.int _ b)=>shI .shl k a b
 | .shr,.d (.int k a),.d (.int _ b)=>shI .shr k a b
 | op,.d (.int k a),.d (.int k' b)=>bif k==k' then ZwS op k a b else none
 | _,_,_=>none
def unE (op:UnOp) (x:V):Option D:=
 match op,x with
 | .not,.d (.bool b)=>some (.bool !b)
 | .neg,.d (.int k n)=>some (.int k (k.wrap (0-n)))
 | _,_=>none
def V.okb:V->Bool
 | .bad=>false
 | .tup _=>false
 | .d (.tup _)=>false
 | _=>true
def V.flat:V->Bool
 | .bad=>false
 | .tup _=>false
 | .agg _=>false
 | .d (.tup _)=>false
 | .d (.agg _)=>false
 | _=>true
def ZoS:List V->Bool
 | []=>true
 | v :: vs=>v.flat&&ZoS vs
def Zcz (n:Nat) (ag:Bool) (cs:List V):Option V:=
 bif ag then (bif Nat.beq (cs.take n).length n then some (Zqf (cs.take n)) else none) else cs.head?
def Zbv (H:Zc) (n:Nat) (ag:Bool) (x:V):Option V:=
 match x with
 | .ptr b o=>match nth H b with
  | some (.cells cs)=>Zcz n ag (cs.drop o)
  | _=>none
 | .eptr b sz i k=>match nth H b with
  | some (.arr sz' xs)=>bif Nat.beq sz sz' then
    match nth xs i with
    | some x=>Zcz n ag (ZaU (x.cells.drop k))
    | none=>none
   else none
  | _=>none
 | .d (.rptr cs)=>Zcz n ag (ZaU cs)
 | _=>none
def Zht (H:Zc) (n:Nat) (x v:V):Res:=
 match x with
 | .ptr b o=>match nth H b with
  | some (.cells cs)=>bif Nat.beq v.cells.length n&&Nat.ble (o+n) cs.length&&v.okb&&ZoS v.cells then some (.bad,[(b,.cells (ZH cs o v.cells))],[]) else none
  | _=>none
 | .eptr b sz i k=>match nth H b with
  | some (.arr sz' xs)=>bif Nat.beq sz sz' then
    match nth xs i,fr H 6 v with
    | some x,some (y,ks)=>
     bif Ze3 ks b then none else
     bif Nat.beq y.cells.length n&&Nat.ble (k+n) x.cells.length&&(V.d y).okb&&(x.isAgg || !y.isAgg) then
      some (.bad,(b,.arr sz (ZbZ xs i (bif x.isAgg then .agg (ZH x.cells k y.cells) else y))) :: ks.map (fun j=>(j,.dead)),[])
     else none
    | _,_=>none
   else none
  | _=>none
 | _=>none
def elems (H:Zc) (x:V):Option (List D):=
 match x with
 | .d (.list _ xs)=>some xs
 | .sl b sz=>match nth H b with | some (.arr sz' xs)=>bif Nat.beq sz sz' then some xs else none | _=>none
 | .slp b sz o len=>match nth H b with | some (.arr sz' xs)=>bif Nat.beq sz sz' then some ((xs.drop o).take len) else none | _=>none
 | .nilsl _=>some []
 | _=>none
def Zgr (sz:Nat) (xs:List D) (l:Nat):Bool:=match nth xs l with | some z=>Nat.beq z.cells.length sz&&(V.d z).okb | none=>true
def Zer (nid:Nat) (H:Zc) (sz:Nat) (x y:V):Res:=
 match elems H y with
 | none=>none
 | some ys=>
  bif Zgr sz ys 0 then
   match x with
   | .nilsl _=>bif Nat.ble ys.length lim then some (.sl nid sz,[],[.arr sz ys]) else none
   | .sl b sz'=>match nth H b with
    | some (.arr sz'' xs)=>bif Nat.beq sz sz'&&Nat.beq sz sz'' then
      (bif Nat.ble (xs.length+ys.length) lim then some (.sl nid sz,[(b,.dead)],[.arr sz (xs++ys)]) else none)
     else none
    | _=>none
   | .slp b sz' o len=>match nth H b with
    | some (.arr sz'' xs)=>bif Nat.beq sz sz'&&Nat.beq sz sz''&&Nat.ble (o+len+ys.length) xs.length then
      some (.slp b sz o (len+ys.length),[(b,.arr sz (xs.take (o+len)++(ys++xs.drop (o+len+ys.length))))],[])
     else none
    | _=>none
   | _=>none
  else none
def ZfL (H:Zc) (sz:Nat) (x y:V):Option V:=
 match x with
 | .nilsl _=>(match elems H y with
  | some ys=>bif Zgr sz ys 0&&Nat.ble ys.length lim then some (.d (.list true ys)) else none
  | none=>none)
 | _=>none
def ZeU (v:Option V) (dflt:Nat):Option Nat:=
 match v with
 | none=>some dflt
 | some (.d (.int _ n))=>bif decide (0<=n) then some n.toNat else none
 | _=>none
def ZfJ (H:Zc) (sz:Nat) (x:V) (lo hi mx:Option V):Option V:=
 match elems H x with
 | none=>none
 | some xs=>
  match ZeU lo 0,ZeU hi xs.length with
  | some l,some h=>
   bif Nat.ble l h&&Nat.ble h xs.length then
    match mx with
    | none=>match x with
     | .d (.list own _)=>bif Nat.beq l 0 || Zgr sz xs l then some (.d (.list own ((xs.drop l).take (h-l)))) else none
     | .sl b sz'=>bif Nat.beq sz sz' then some (.slp b sz l (h-l)) else none
     | .slp b sz' o _=>bif Nat.beq sz sz' then some (.slp b sz (o+l) (h-l)) else none
     | .nilsl _=>some (.nilsl sz)
     | _=>none
    | some m=>match ZeU (some m) 0 with
     | some m=>bif Nat.beq m l&&Nat.beq m h then some (.nilsl sz) else none
     | none=>none
   else none
  | _,_=>none
def Zfq (H:Zc) (sz:Nat) (x i:V):Option V:=
 match i with
 | .d (.int _ i)=>
  match x with
  | .d (.list _ xs)=>match ZG xs i with | some x=>bif Nat.beq x.cells.length sz&&(V.d x).okb then some (.d (.rptr x.cells)) else none | none=>none
  | .sl b sz'=>match nth H b with
   | some (.arr sz'' xs)=>bif Nat.beq sz sz'&&Nat.beq sz sz'' then (match ZG xs i with | some _=>some (.eptr b sz i.toNat 0) | none=>none) else none
   | _=>none
  | .slp b sz' o len=>match nth H b with
   | some (.arr sz'' xs)=>bif Nat.beq sz sz'&&Nat.beq sz sz'' then (match ZG ((xs.drop o).take len) i with | some _=>some (.eptr b sz (o+i.toNat) 0) | none=>none) else none
   | _=>none
  | _=>none
 | _=>none
def ZjD (len sz:Nat) (ag:Bool) (x i:V):Option V:=
 match i with
 | .d (.int _ i)=>bif x.isAggV&&(decide (0<=i)&&decide (i<len)) then Zcz sz ag (x.cells.drop (i.toNat*sz)) else none
 | _=>none
def Zhu (x i:V):Option V:=
 match x,i with
 | .d (.str s),.d (.int _ i)=>bif decide (0<=i) then (match s[i.toNat]? with | some b=>some (.d (.int .u8 b.toNat)) | none=>none) else none
 | _,_=>none
def Zhr (_:Zc) (off:Nat) (x:V):Option V:=
 match x with
 | .ptr b o=>some (.ptr b (o+off))
 | .eptr b sz i k=>some (.eptr b sz i (k+off))
 | .d (.rptr cs)=>some (.d (.rptr (cs.drop off)))
 | _=>none
def Zrx (_:Zc) (x:V):Option V:=
 match x with
 | .d (.fn f caps)=>bif Nat.beq f 2000000 then none else some (.d (.fn f caps))
 | .fn f caps=>bif Nat.beq f 2000000 then none else some (.fn f caps)
 | .d (.iface t v)=>some (.d (.iface t v))
 | .d (.rptr cs)=>some (.d (.rptr cs))
 | .ptr b o=>some (.ptr b o)
 | .eptr b sz i k=>some (.eptr b sz i k)
 | _=>none
def ZdP (H:Zc) (len sz:Nat) (x i:V):Option V:=
 match i with
 | .d (.int _ i)=>bif decide (0<=i)&&decide (i<len) then Zhr H (i.toNat*sz) x else none
 | _=>none
def Zpj (H:Zc) (x:V):Option D:=
 match elems H x with | some xs=>some (.int .i64 xs.length) | none=>none
def mxE (isMax:Bool):List V->Option D
 | []=>none
 | .d (.int k a) :: r=>go k a r
 | _=>none
where
 go (k:IntKind) (a:Int):List V->Option D
  | []=>some (.int k a)
  | .d (.int _ b) :: r=>go k (bif isMax then (bif decide (a<b) then b else a) else (bif decide (b<a) then b else a)) r
  | _=>none
def Zod (z:List V):List (Nat×Nat×V)->Option (List V)
 | []=>some z
 | (off,size,v) :: r=>bif v.okb&&Nat.beq v.cells.length size&&Nat.ble (off+size) z.length then Zod (ZH z off v.cells) r else none
def Zno (H:Zc) (sz:Nat) (xs:List D):List (Nat×V)->Option (List D×List Nat)
 | []=>some (xs,[])
 | (i,v) :: r=>match fr H 6 v with
  | some (y,ks)=>(bif Nat.blt i xs.length&&Nat.beq y.cells.length sz&&(V.d y).okb then match Zno H sz (ZbZ xs i y) r with | some (l,k2)=>some (l,ks++k2) | none=>none else none)
  | none=>none
def ZhJ (es:List (D×D)) (k:D):Option (Option D):=
 match es with
 | []=>some none
 | (a,v) :: r=>match eqD k a with | some true=>some (some v) | some false=>ZhJ r k | none=>none
def ZwU (es:List (D×D)) (k z:D):Option D:=match ZhJ es k with | some (some y)=>some y | some none=>some z | none=>none
def Zg5 (es:List (D×D)) (k v:D):Option (List (D×D)):=
 match es with
 | []=>some [(k,v)]
 | (a,u) :: r=>match eqD k a with
  | some true=>some ((a,v) :: r)
  | some false=>(match Zg5 r k v with | some l=>some ((a,u) :: l) | none=>none)
  | none=>none
def Ze2:D->Bool
 | .bool _=>true
 | .int _ _=>true
 | _=>false
def ZjJ (H:Zc) (ks:List Bool) (m k v:V):Res:=
 match m,k,v with
 | .mp b,.d k,.d y=>(match nth H b with
  | some (.mp es)=>(match ZaN ks k&&Ze2 y with | true=>(match Zg5 es k y with | some l=>some (.bad,[(b,.mp l)],[]) | none=>none) | false=>none)
  | _=>none)
 | _,_,_=>none
def ZiM (H:Zc) (ks:List Bool) (z:D) (m k:V):Option D:=
 match m,k with
 | .mp b,.d k=>(match nth H b with
  | some (.mp es)=>(match ZaN ks k with | true=>ZwU es k z | false=>none)
  | _=>none)
 | _,_=>none
def ZAB:List D->Option (List (Int×Int))
 | []=>some []
 | .agg [.int .i64 a,.int .i64 b] :: r=>match ZAB r with | some l=>some ((a,b) :: l) | none=>none
 | _=>none
def pc (zs:List (Int×Int)) (j:Nat):Int×Int:=zs[j]?.getD (0,0)
def Zqd (zs:List (Int×Int)) (p:Int):Nat->Int
 | 0=>-1
 | k+1=>bif ((pc zs k).1 != p || decide (p<0)) then Zqd zs p k else (k:Int)
def Zi0 (id:Nat) (l:List D):Option D:=
 match id,l with
 | 0,[.agg [_,_,.list _ xs],.int .i64 p]=>(match ZAB xs with | some zs=>bif Nat.ble zs.length lim then some (.int .i64 (Zqd zs p zs.length)) else none | none=>none)
 | _,_=>none
def ZeQ:List D->Option (List Int)
 | []=>some []
 | .int .i64 a :: r=>match ZeQ r with | some l=>some (a :: l) | none=>none
 | _=>none
def ZoX (x:Int):List Int->List Int
 | []=>[x]
 | y :: r=>bif decide (x<=y) then x :: y :: r else y :: ZoX x r
def sortI:List Int->List Int
 | []=>[]
 | x :: r=>ZoX x (sortI r)
def Zov (H:Zc):V->Option (Nat×List Int)
 | .sl b 1=>(match nth H b with
  | some (.arr 1 xs)=>(match ZeQ xs with | some zs=>some (b,zs) | none=>none)
  | _=>none)
 | _=>none
def ZqT (H:Zc) (x:V):Res:=match Zov H x with | some (b,zs)=>(bif Nat.ble zs.length lim then some (.bad,[(b,.arr 1 ((sortI zs).map fun n=>.int .i64 n))],[]) else none) | none=>none
abbrev ZX:=Nat->List V->Zc->Option (V×Zc)
def Zd5 (Γ:Ctx) (cf:ZX) (nid:Nat) (H:Zc) (f:Nat) (args:List V):Res:=
 match Γ.mode f with
 | 0=>match fzs H args with
  | some l=>match cf f (ZaU l) [] with
   | some (v,H1)=>match fr H1 6 v with | some (x,_)=>(match x with | .tup ts=>some (.tup (ZaU ts),[],[]) | x=>some (.d x,[],[])) | none=>none
   | none=>none
  | none=>none
 | 1=>match fzs H args with
  | some l=>match cf f (ZaU l) [] with
   | some (v,H1)=>bif ZnD v&&ZiZ H1 then let up:=fun j=>some (nid+j);some (ZjW up v,[],H1.map (Ze9 up)) else none
   | none=>none
  | none=>none
 | _=>
  match extract 0 args H with
  | none=>none
  | some (L,args',H0)=>match cf f args' H0 with
   | some (v,H1)=>bif ZiW v&&Zgv H1 then
     let back:=fun j=>match nth L j with | some b=>some b | none=>some (nid+(j-L.length))
     some (ZjW back v,L.zip (H1.map (Ze9 back)),(H1.drop L.length).map (Ze9 back)) else none
   | none=>none
def Za4 (H:Zc):List (Nat×Blk)->Zc
 | []=>H
 | (b,blk) :: r=>Za4 (ZbZ H b blk) r
def Zth (e:Env) (H H':Zc):List Opd->Bool
 | []=>true
 | x :: xs=>(match x.val e with
  | .ptr b o=>(match Zbv H 1 false (.ptr b o),Zbv H' 1 false (.ptr b o) with | some (.mp i),some (.mp j)=>Nat.beq i j | _,_=>false)
  | _=>false)&&Zth e H H' xs
def isU (f:Nat):Bool:=Nat.blt f 1000000
def unB (f:Nat):Nat:=f-1000000
def ZiX (f:Nat):Nat:=bif isU f then f else unB f
def Zld (f:Nat) (caps args:List V):List V:=bif isU f then args++caps else caps++args
def Zli:List (Nat×Blk)->Nat->Bool
 | [],_=>false
 | (a,_) :: r,b=>bif Nat.beq a b then true else Zli r b
def ZkS (e:Env) (up:List (Nat×Blk)):List Opd->Bool
 | []=>true
 | x :: xs=>(match x.val e with
  | .ptr b _=>!(Zli up b)
  | .eptr b _ _ _=>!(Zli up b)
  | .d _=>true
  | _=>false)&&ZkS e up xs
def ZhB:V->Option (Nat×List V)
 | .fn f caps=>some (f,caps)
 | .d (.fn f caps)=>some (f,ZaU caps)
 | _=>none
def Zd7 (Γ:Ctx) (v:V) (f:Nat) (caps:List V):Bool:=Nat.beq f 2000000 || v.isD&&(!(Nat.ble (Γ.mode (ZiX f)) 1) && !caps.isEmpty)
def Zgk : String := "trefoil/team.begin"
def Zif (tab:List (Nat×Nat)) (t:Nat):Option Nat:=
 match tab with
 | []=>none
 | (a,f) :: r=>bif Nat.beq a t then some f else Zif r t
def ZlZ (tab:List (Nat×Nat)) (x:V):Res:=match x with
 | .fn f [.d (.iface t y)]=>(match Zif tab t with | some _=>bif Nat.beq f 2000000 then ZaG (.fn f [.d (.iface t y)]) else none | none=>none)
 | _=>none
def opE (Γ:Ctx) (cf:ZX) (e:Env) (nid:Nat) (H:Zc):O->Res
 | .mov x=>ZaG (x.val e)
 | .pick c a b=>match c.val e with | .d (.bool t)=>ZaG (bif t then a.val e else b.val e) | _=>none
 | .alloc z=>some (.ptr nid 0,[],[.cells z.cells])
 | .box x=>bif (x.val e).okb then some (.ptr nid 0,[],[.cells (x.val e).cells]) else none
 | .build z ps=>match Zod z (ps.map fun(o,s,x)=>(o,s,x.val e)) with | some cs=>ZaG (Zqf cs) | none=>none
 | .bslice sz z len ps=>bif Nat.beq len 0 then ZaG (.nilsl sz) else match Zno H sz (List.replicate len (match z with | [x]=>x | z=>.agg z)) (ps.map fun(i,x)=>(i,x.val e)) with
  | some (xs,ks)=>some (.sl nid sz,ks.map (fun j=>(j,.dead)),[.arr sz xs])
  | none=>none
 | .load n ag x=>match Zbv H n ag (x.val e) with | some v=>ZaG v | none=>none
 | .store n x v=>Zht H n (x.val e) (v.val e)
 | .nilck x=>match Zrx H (x.val e) with | some v=>ZaG v | none=>none
 | .bin op x y=>match Zjy op (x.val e) (y.val e) with | some r=>ZaG (.d r) | none=>none
 | .eqv ks neg x y=>match x.val e,y.val e with
  | .d a,.d b=>(match ZaN ks a with | true=>(match eqD a b with | some r=>ZaG (.d (.bool (bif neg then !r else r))) | none=>none) | false=>none)
  | _,_=>none
 | .un op x=>match unE op (x.val e) with | some r=>ZaG (.d r) | none=>none
 | .conv k x=>match x.val e with | .d (.int _ n)=>ZaG (.d (.int k (k.wrap n))) | _=>none
 | .mkfn f caps=>ZaG (match caps with | []=>.d (.fn f []) | caps=>.fn f (ZcD e caps))
 | .mkslice sz z n c=>match n.val e,c.val e with
  | .d (.int _ n),.d (.int _ c)=>bif decide (0<=n)&&decide (n<=lim)&&decide (n==c) then
    some (.sl nid sz,[],[.arr sz (List.replicate n.toNat (match z with | [x]=>x | z=>.agg z))]) else none
  | _,_=>none
 | .slice sz x lo hi mx=>match ZfJ H sz (x.val e) (lo.map (·.val e)) (hi.map (·.val e)) (mx.map (·.val e)) with | some v=>ZaG v | none=>none
 | .faddr off x=>match Zhr H off (x.val e) with | some v=>ZaG v | none=>none
 | .field off n ag x=>match x.val e with
  | .d (.agg cs)=>(match Zcz n ag (ZaU (cs.drop off)) with | some v=>ZaG v | none=>none)
  | .agg cs=>(match Zcz n ag (cs.drop off) with | some v=>ZaG v | none=>none)
  | _=>none
 | .iaddr sz x i=>match Zfq H sz (x.val e) (i.val e) with | some v=>ZaG v | none=>none
 | .index len sz ag x i=>match ZjD len sz ag (x.val e) (i.val e) with | some v=>ZaG v | none=>none
 | .indexS x i=>match Zhu (x.val e) (i.val e) with | some v=>ZaG v | none=>none
 | .iaddrA len sz x i=>match ZdP H len sz (x.val e) (i.val e) with | some v=>ZaG v | none=>none
 | .len x=>match Zpj H (x.val e) with | some r=>ZaG (.d r) | none=>none
 | .append sz x y=>Zer nid H sz (x.val e) (y.val e)
 | .appendD sz x y=>match ZfL H sz (x.val e) (y.val e) with | some v=>ZaG v | none=>none
 | .mx b xs=>match mxE b (ZcD e xs) with | some r=>ZaG (.d r) | none=>none
 | .extract x i=>match x.val e with
  | .tup vs=>(match nth vs i with | some v=>ZaG v | none=>none)
  | .d (.tup vs)=>(match nth vs i with | some v=>ZaG (.d v) | none=>none)
  | _=>none
 | .mkif t x=>match fr H 6 (x.val e) with | some (y,[])=>ZaG (.d (.iface t y)) | _=>none
 | .call f args=>Zd5 Γ cf nid H f (ZcD e args)
 | .callv x args=>match ZhB (x.val e) with
  | some (f,caps)=>(match Zd7 Γ (x.val e) f caps with | true=>none | false=>Zd5 Γ cf nid H (ZiX f) (Zld f caps (ZcD e args)))
  | none=>none
 | .invoke tab x args=>match x.val e with
  | .d (.iface t y)=>(match Zif tab t with | some f=>Zd5 Γ cf nid H f (.d y :: ZcD e args) | none=>none)
  | _=>none
 | .mkmap=>some (.mp nid,[],[.mp []])
 | .mapset ks m k v=>ZjJ H ks (m.val e) (k.val e) (v.val e)
 | .mapget ks z m k=>match ZiM H ks z (m.val e) (k.val e) with | some r=>ZaG (.d r) | none=>none
 | .panic=>none
 | .callk f args _=>Zd5 Γ cf nid H f (ZcD e args)
 | .storek n x v _=>Zht H n (x.val e) (v.val e)
 | .sortI x=>ZqT H (x.val e)
 | .nilckm tab x=>ZlZ tab (x.val e)
 | .spec id args=>match H,ZhO (ZcD e args) with | [],some l=>(match Zi0 id l with | some r=>ZaG (.d r) | none=>none) | _,_=>none
 | .nilq x=>match elems H (x.val e) with | some xs=>(match Nat.blt 0 xs.length with | true=>ZaG (.d (.bool false)) | false=>none) | none=>none
def Zjo (e:Env) (dst:Option Nat) (v:V):Env:=match dst with | some i=>e.set i v | none=>e
def ZbO (e:Env) (g:Option (Nat×Bool)):Option Bool:=
 match g with
 | none=>some true
 | some (s,b)=>match e s with | .d (.bool t)=>some (t==b) | .d (.tup [])=>some false | _=>none
def Zdo (Γ:Ctx) (cf:ZX):List Op1->Env->Zc->Option (Env×Zc)
 | [],e,H=>some (e,H)
 | o :: r,e,H=>match ZbO e o.guard with
  | some true=>(match opE Γ cf e H.length H o.op with
   | some (v,up,nw)=>Zdo Γ cf r (Zjo e o.dst v) (Za4 H up++nw)
   | none=>none)
  | some false=>Zdo Γ cf r (Zjo e o.dst (.d (.tup []))) H
  | none=>none
def ZuP (H:Zc) (b:Nat):Nat->Zc
 | 0=>H
 | n+1=>ZuP (ZbZ H b .dead) (b+1) n
def Zd4 (H:Zc) (pos:List (Nat×Nat)):List Nat->Zc
 | []=>H
 | i :: r=>match nth pos i with | some (b,n)=>Zd4 (ZuP H b n) pos r | none=>Zd4 H pos r
def ZqW:List (Nat×Blk)->Bool
 | []=>true
 | (_,.dead) :: _=>false
 | _ :: r=>ZqW r
def Zme (eff:Nat) (up:List (Nat×Blk)) (nw:List Blk):Bool:=match eff with | 0=>up.isEmpty | 1=>up.isEmpty&&nw.isEmpty | 3=>ZqW up&&nw.isEmpty | _=>true
def ZzR (e:Env) (H:Zc) (up:List (Nat×Blk)):O->Bool
 | .callk _ _ chk=>Zth e H (Za4 H up) chk
 | .storek _ _ _ chk=>ZkS e up chk
 | _=>true
def Zl8 (e:Env) (H:Zc) (o:Op1) (up:List (Nat×Blk)) (nw:List Blk):Bool:=Zme o.eff up nw&&ZzR e H up o.op
def Zc2 (Γ:Ctx) (cf:ZX) (pos:List (Nat×Nat)):List Op1->Env->Zc->Option (Env×Zc)
 | [],e,H=>some (e,H)
 | o :: r,e,H=>match ZbO e o.guard with
  | some true=>(match opE Γ cf e H.length (Zd4 H pos o.mask) o.op with
   | some (v,up,nw)=>bif Zl8 e H o up nw then Zc2 Γ cf (pos++[(H.length,nw.length)]) r (Zjo e o.dst v) (Za4 H up++nw) else none
   | _=>none)
  | some false=>Zc2 Γ cf (pos++[(H.length,0)]) r (Zjo e o.dst (.d (.tup []))) H
  | none=>none
inductive Lp where
 | again (vs:List V) (H:Zc)
 | done (x:Ex) (vs:List V) (H:Zc)
abbrev St:=Env×Zc
def Zar (F:List V->Zc->Option Lp):Nat->List V->Zc->Option (Ex×List V×Zc)
 | 0,_,_=>none
 | n+1,vs,H=>match F vs H with
  | some (.again vs H)=>Zar F n vs H
  | some (.done x vs H)=>some (x,vs,H)
  | none=>none
def Zck (k:Nat) (live outs:List Nat) (r:Option (Ex×Env×Zc)):Option Lp:=
 match r with
 | some (.normal,e,H)=>(match ZlA k (live.map e) H with | some (vs,H)=>some (.again vs H) | none=>none)
 | some (x,e,H)=>(match extract k (outs.map e) H with | some (_,vs,H)=>some (.done x vs H) | none=>none)
 | none=>none
def Zp (Γ:Ctx) (cf:ZX) (It:(List V->Zc->Option Lp)->List V->Zc->Option (Ex×List V×Zc)) (k:Nat):C->Env->Zc->Option (Ex×Env×Zc)
 | .skip,e,H=>some (.normal,e,H)
 | .ret,e,H=>some (.ret,e,H)
 | .exit id,e,H=>some (.exit id,e,H)
 | .seq a b,e,H=>match Zp Γ cf It k a e H with
  | some (.normal,e,H)=>Zp Γ cf It k b e H
  | r=>r
 | .cond x a b,e,H=>match x.val e with
  | .d (.bool t)=>(match t with | true=>Zp Γ cf It k a e H | false=>Zp Γ cf It k b e H)
  | _=>none
 | .block id a,e,H=>match Zp Γ cf It k a e H with
  | some (.exit j,e,H)=>bif Nat.beq j id then some (.normal,e,H) else some (.exit j,e,H)
  | r=>r
 | .loop live outs a,e,H=>match ZlA k (live.map e) H with
  | some (vs,H)=>(match It (fun vs H=>Zck k live outs (Zp Γ cf It k a (ZbB live vs) H)) vs H with
   | some (x,vs,H)=>some (x,ZbB outs vs,H)
   | none=>none)
  | none=>none
 | .ops l,e,H=>match Zdo Γ cf l e H with | some (e,H)=>some (.normal,e,H) | none=>none
 | .draw l,e,H=>match Zc2 Γ cf [] l e H with | some (e,H)=>some (.normal,e,H) | none=>none
def Zbb (i:Nat):List V->Env
 | []=>env0
 | v :: vs=>(Zbb (i+1) vs).set i v
def ZgK (e:Env) (H:Zc):List (Nat×Option (Nat×Bool))->Option (List V)
 | []=>some []
 | (i,none) :: r=>match ZgK e H r with | some l=>some (e i :: l) | none=>none
 | (i,some (n,ag)) :: r=>match Zbv H n ag (e i),ZgK e H r with | some v,some l=>some (v :: l) | _,_=>none
def Zdz:List V->V
 | [v]=>v
 | l=>ZpX l
def ZeC (Γ:Ctx) (cf:ZX) (It:(List V->Zc->Option Lp)->List V->Zc->Option (Ex×List V×Zc)) (f:Nat) (args:List V) (H:Zc):Option (V×Zc):=
 match Γ.code f with
 | none=>none
 | some fn=>
  bif Nat.beq args.length fn.nargs then
   match Zp Γ cf It H.length fn.body (Zbb 0 args) H with
   | some (.exit _,_,_)=>none
   | some (_,e,H1)=>(match ZgK e H1 fn.res with
    | some l=>(match extract H.length [Zdz l] H1 with | some (_,[v],H2)=>some (v,H2) | _=>none)
    | none=>none)
   | none=>none
  else none
def evN (Γ:Ctx):Nat->ZX
 | 0=>fun _ _ _=>none
 | n+1=>ZeC Γ (evN Γ n) (fun F=>Zar F n)
end Go.Proofs.YtgcfmiajkbbmeaaGreatE
namespace Go.Proofs.YtgcfmiajkbbmeaaGreat
open Go Go.Proofs.YtgcfmiajkbbmeaaGreatE
open Go.IntKind (u64 i64 u32 i32 u8)
abbrev qM (d x:Nat):Op1:=⟨some d,.mov (.t x),none,[],0⟩
abbrev uM (d x:Nat) (l:List Nat):Op1:=⟨some d,.mov (.t x),none,l,0⟩
abbrev vM (d x s:Nat) (b:Bool):Op1:=⟨some d,.mov (.t x),some (s,b),[],0⟩
abbrev wM (d x s:Nat) (b:Bool) (l:List Nat):Op1:=⟨some d,.mov (.t x),some (s,b),l,0⟩
abbrev qL (d x:Nat):Op1:=⟨some d,.load 1 false (.t x),none,[],0⟩
abbrev uL (d x:Nat) (l:List Nat):Op1:=⟨some d,.load 1 false (.t x),none,l,0⟩
abbrev vL (d x s:Nat) (b:Bool):Op1:=⟨some d,.load 1 false (.t x),some (s,b),[],0⟩
abbrev wL (d x s:Nat) (b:Bool) (l:List Nat):Op1:=⟨some d,.load 1 false (.t x),some (s,b),l,0⟩
abbrev qA (d n x:Nat):Op1:=⟨some d,.load n true (.t x),none,[],0⟩
abbrev uA (d n x:Nat) (l:List Nat):Op1:=⟨some d,.load n true (.t x),none,l,0⟩
abbrev vA (d n x s:Nat) (b:Bool):Op1:=⟨some d,.load n true (.t x),some (s,b),[],0⟩
abbrev wA (d n x s:Nat) (b:Bool) (l:List Nat):Op1:=⟨some d,.load n true (.t x),some (s,b),l,0⟩
abbrev qF (d n x:Nat):Op1:=⟨some d,.faddr n (.t x),none,[],0⟩
abbrev uF (d n x:Nat) (l:List Nat):Op1:=⟨some d,.faddr n (.t x),none,l,0⟩
abbrev vF (d n x s:Nat) (b:Bool):Op1:=⟨some d,.faddr n (.t x),some (s,b),[],0⟩
abbrev wF (d n x s:Nat) (b:Bool) (l:List Nat):Op1:=⟨some d,.faddr n (.t x),some (s,b),l,0⟩
abbrev qN (d x:Nat):Op1:=⟨some d,.len (.t x),none,[],0⟩
abbrev uN (d x:Nat) (l:List Nat):Op1:=⟨some d,.len (.t x),none,l,0⟩
abbrev vN (d x s:Nat) (b:Bool):Op1:=⟨some d,.len (.t x),some (s,b),[],0⟩
abbrev wN (d x s:Nat) (b:Bool) (l:List Nat):Op1:=⟨some d,.len (.t x),some (s,b),l,0⟩
abbrev qI (d n x y:Nat):Op1:=⟨some d,.iaddr n (.t x) (.t y),none,[],0⟩
abbrev uI (d n x y:Nat) (l:List Nat):Op1:=⟨some d,.iaddr n (.t x) (.t y),none,l,0⟩
abbrev vI (d n x y s:Nat) (b:Bool):Op1:=⟨some d,.iaddr n (.t x) (.t y),some (s,b),[],0⟩
abbrev wI (d n x y s:Nat) (b:Bool) (l:List Nat):Op1:=⟨some d,.iaddr n (.t x) (.t y),some (s,b),l,0⟩
abbrev qU (d x:Nat):Op1:=⟨some d,.un .not (.t x),none,[],0⟩
abbrev vU (d x s:Nat) (b:Bool):Op1:=⟨some d,.un .not (.t x),some (s,b),[],0⟩
abbrev qE (d x n:Nat):Op1:=⟨some d,.extract (.t x) n,none,[],0⟩
abbrev uE (d x n:Nat) (l:List Nat):Op1:=⟨some d,.extract (.t x) n,none,l,0⟩
abbrev qB (d:Nat) (o:BinOp) (x y:Nat):Op1:=⟨some d,.bin o (.t x) (.t y),none,[],0⟩
abbrev qK (d:Nat) (o:BinOp) (x:Nat) (n:Int):Op1:=⟨some d,.bin o (.t x) (iN n),none,[],0⟩
abbrev vB (d:Nat) (o:BinOp) (x y s:Nat) (b:Bool):Op1:=⟨some d,.bin o (.t x) (.t y),some (s,b),[],0⟩
abbrev vK (d:Nat) (o:BinOp) (x:Nat) (n:Int) (s:Nat) (b:Bool):Op1:=⟨some d,.bin o (.t x) (iN n),some (s,b),[],0⟩
abbrev qW (d:Nat) (n:Int):Op1:=⟨some d,.mov (iN n),none,[],0⟩
abbrev qC (d f x:Nat):Op1:=⟨some d,.call f [.t x],none,[],0⟩
abbrev qD (d f x y:Nat):Op1:=⟨some d,.call f [.t x,.t y],none,[],0⟩
abbrev uS (d:Nat) (l:List Nat):Op1:=⟨some d,.bslice 1 [.int .i64 0] 0 [],none,l,0⟩
abbrev qZ (d x:Nat):Op1:=⟨some d,.nilck (.t x),none,[],0⟩
abbrev uZ (d x:Nat) (l:List Nat):Op1:=⟨some d,.nilck (.t x),none,l,0⟩
abbrev vZ (d x s:Nat) (b:Bool):Op1:=⟨some d,.nilck (.t x),some (s,b),[],0⟩
abbrev qO (d x:Nat):Op1:=⟨some d,.box (.t x),none,[],0⟩
abbrev qJ (d x y:Nat):Op1:=⟨some d,.pick (.t x) bT (.t y),none,[],0⟩
abbrev vJ (d x y s:Nat) (b:Bool):Op1:=⟨some d,.pick (.t x) bT (.t y),some (s,b),[],0⟩
abbrev qY (d x y:Nat):Op1:=⟨some d,.append 1 (.t x) (.t y),none,[],0⟩
abbrev Zct (d n:Nat):Op1:=⟨some d,.mov (.c (.nilsl n)),none,[],0⟩
abbrev qff (d:Nat):Op1:=⟨some d,.mov bF,none,[],0⟩
abbrev qtt (d:Nat):Op1:=⟨some d,.mov bT,none,[],0⟩
abbrev uC (d f x:Nat) (l:List Nat):Op1:=⟨some d,.call f [.t x],none,l,0⟩
abbrev vC (d f x s:Nat) (b:Bool):Op1:=⟨some d,.call f [.t x],some (s,b),[],0⟩
abbrev uD (d f x y:Nat) (l:List Nat):Op1:=⟨some d,.call f [.t x,.t y],none,l,0⟩
abbrev vD (d f x y s:Nat) (b:Bool):Op1:=⟨some d,.call f [.t x,.t y],some (s,b),[],0⟩
abbrev qG (d f x y z:Nat):Op1:=⟨some d,.call f [.t x,.t y,.t z],none,[],0⟩
abbrev uG (d f x y z:Nat) (l:List Nat):Op1:=⟨some d,.call f [.t x,.t y,.t z],none,l,0⟩
abbrev vG (d f x y z s:Nat) (b:Bool):Op1:=⟨some d,.call f [.t x,.t y,.t z],some (s,b),[],0⟩
abbrev qV (d f x:Nat):Op1:=⟨some d,.callv (.t f) [.t x],none,[],0⟩
abbrev vV (d f x s:Nat) (b:Bool):Op1:=⟨some d,.callv (.t f) [.t x],some (s,b),[],0⟩
abbrev qH (d x:Nat):Op1:=⟨some d,.bslice 1 [.int .i64 0] 1 [(0,(.t x))],none,[],0⟩
abbrev qS (n x y:Nat):Op1:=⟨none,.store n (.t x) (.t y),none,[],0⟩
abbrev qR (n x:Nat) (y:Int):Op1:=⟨none,.store n (.t x) (iN y),none,[],0⟩
abbrev qX (n x y k:Nat):Op1:=⟨none,.store n (.t x) (.t y),none,[],k⟩
abbrev qP (d x y:Nat):Op1:=⟨some d,.pick (.t x) (.t y) bF,none,[],0⟩
abbrev zI:V:=.d (.int .i64 0)
abbrev zD:D:=.int .i64 0
abbrev cX (x n:Nat):C:=.cond (.t x) .skip (.exit n)
abbrev cY (x:Nat) (a b:C):C:=.cond (.t x) a b
abbrev Lz0:List V:=[(.nilsl 1),(.nilsl 1),(.nilsl 3),(.nilsl 6),(.nilsl 1)]
abbrev Lz1:List V:=[(.d (.bool false)),(.nilsl 1),zI,(.nilsl 1),(.nilsl 1),(.nilsl 3),(.nilsl 6),(.nilsl 1)]
abbrev Lz2:List V:=[(.nilsl 1),zI,zI]
abbrev Lz3:List V:=[(.nilsl 1),(.nilsl 1)]
abbrev Lz4:List V:=[(.nilsl 1),(.nilsl 1),zI]
abbrev Lz5:List V:=[(.d (.bool false)),zI,zI,zI,zI,zI]
abbrev Lz6:List V:=[(.nilsl 1),(.nilsl 2)]
abbrev Lz7:List V:=[(.nilsl 1),(.nilsl 1),(.nilsl 3),(.nilsl 6),(.nilsl 1),(.nilsl 1),(.nilsl 2),zI]
abbrev oS (l:List Op1) (c:C):C:=.seq (.ops l) c
abbrev oR (l:List Op1):C:=.seq (.ops l) .ret
abbrev oC (x:Nat) (l:List Op1):C:=.cond (.t x) (.seq (.ops l) .ret) .skip
def Zxs:C:=.seq (oS [qM 54 10,qF 55 3 4,qF 56 0 55,qF 57 1 56,qL 58 57,qN 59 58,qB 60 .lss 54 59] (cX 60 0)) (.seq (.block 1 (oS [qW 11 0] (.seq (oS [qF 63 0 8,qL 64 63,qM 65 10,qD 66 16 64 65] (cY 66 (.ops [qW 11 1]) .skip)) (.seq (.draw [qM 67 10,uF 68 3 7 [0],uF 69 0 68 [0],uF 70 1 69 [0],uL 71 70 [0],uN 72 71 [0],qB 73 .geq 67 72,qM 74 73,vF 75 3 7 74 false,vF 76 0 75 74 false,vF 77 1 76 74 false,vL 78 77 74 false,wM 79 10 74 false [8,9,10,11],vI 80 1 78 79 74 false,vL 81 80 74 false,wF 82 3 4 74 false [8,9,10,11,12,13,14],wF 83 0 82 74 false [8,9,10,11,12,13,14],wF 84 1 83 74 false [8,9,10,11,12,13,14],wL 85 84 74 false [8,9,10,11,12,13,14],wM 86 10 74 false [8,9,10,11,12,13,14,15,16,17,18],wI 87 1 85 86 74 false [8,9,10,11,12,13,14],wL 88 87 74 false [8,9,10,11,12,13,14],wM 89 11 74 false [8,9,10,11,12,13,14,15,16,17,18,19,20,21],⟨some 90,.bin .sub (.t 88) (.t 89),some (74,false),[8,9,10,11,12,13,14],0⟩,vB 91 .neq 81 90 74 false,qJ 92 74 91,qM 93 92,vF 94 1 8 93 false,vL 95 94 93 false,wM 96 10 93 false [27,28],vD 97 16 95 96 93 false,wM 98 11 93 false [27,28,29,30],⟨some 99,.bin .eql (.t 98) (iN 1),some (93,false),[27,28,29,30],0⟩,vM 100 99 93 false,vF 101 3 7 100 true,vF 102 0 101 100 true,vF 103 1 102 100 true,vL 104 103 100 true,wM 105 10 100 true [34,35,36,37],vI 106 1 104 105 100 true,vL 107 106 100 true,vK 108 .eql 107 0 100 true,oG 109 (.pick (.t 100) (.t 108) bF) 93 false,oG 110 (.eqv [true] true (.t 97) (.t 109)) 93 false,qJ 111 93 110]) (oC 111 [qff 6]))))) (.ops [qM 61 10,qK 62 .add 61 1,qM 10 62]))
def ir3:C:=oS [qO 3 0,qO 4 1,qff 6] (.seq (oS [oB 12 (.call 9 []),qU 13 12,qM 14 13,vA 15 2 3 14 false,vA 16 8 4 14 false,vD 17 10 15 16 14 false,vU 18 17 14 false,qJ 19 14 18,qM 20 19,vM 21 2 20 false,vN 22 21 20 false,vK 23 .gtr 22 300 20 false,qJ 24 20 23] (oC 24 [oB 25 (.call 9 []),qM 6 25])) (.seq (.draw [qA 27 2 3,qC 28 12 27,uA 29 8 4 [0,1],qC 30 13 29,uM 31 2 [0,1,2,3],qC 32 14 31,qG 33 11 28 30 32,qM 26 33,qE 34 26 0,uE 35 26 1 [8],uE 36 26 2 [8,9],oM 7 (.alloc (.agg Lz1)) [0,1,2,3,4,5,6,7,8,9,10],oM 8 (.alloc (.agg Lz4)) [0,1,2,3,4,5,6,7,8,9,10,11],qX 8 7 34 4,qX 3 8 35 4,qM 9 36]) (.seq (oS [qM 37 9,qK 38 .neq 37 0] (oC 38 [qA 39 8 7,oB 40 (.build Lz1 []),qD 41 15 39 40,qM 42 41,vF 43 0 8 42 true,vL 44 43 42 true,vN 45 44 42 true,vK 46 .eql 45 0 42 true,qP 47 42 46,qM 48 47,vF 49 1 8 48 true,vL 50 49 48 true,vN 51 50 48 true,vK 52 .eql 51 0 48 true,qP 53 48 52,qM 6 53])) (.seq (oS [qW 10 0] (.block 0 (.loop [3,4,7,8,10] [3,4,6,7,8] Zxs))) (.seq (.draw [qA 112 2 3,qC 113 12 112,uA 114 8 7 [0,1],qC 115 13 114,qD 116 17 113 115,qK 117 .eql 116 0,qM 118 117,vF 119 0 8 118 true,vL 120 119 118 true,vN 121 120 118 true,wF 122 3 4 118 true [7,8,9],wF 123 0 122 118 true [7,8,9],wF 124 0 123 118 true [7,8,9],wL 125 124 118 true [7,8,9],wN 126 125 118 true [7,8,9],vB 127 .eql 121 126 118 true,qP 128 118 127,qM 129 128,vF 130 1 7 129 true,vL 131 130 129 true,wF 132 1 4 129 true [18,19],wL 133 132 129 true [18,19],vD 134 18 131 133 129 true,qP 135 129 134,qM 6 135]) .ret)))))
def fn3:FnI:=⟨3,ir3,[(6,none)]⟩
def ir9:C:=oS [qff 0] (oS [oB 16 (.bslice 1 [zD] 1 [(0,(iN 3))]),oB 17 (.build Lz6 [(0,1,(.t 16))]),oB 1 (.alloc (.agg Lz6)),qS 2 1 17] (oS [qA 19 2 1,oB 20 (.bslice 1 [zD] 1 [(0,(iN 5))]),oB 21 (.call 20 [.t 19,.t 20,(iN 2),bT,(.c (.nilsl 1))]),qM 18 21,qE 22 18 0,qE 23 18 1,qE 24 18 2,qM 2 22,qM 3 23,qM 4 24] (oS [qA 26 2 1,oB 27 (.bslice 1 [zD] 1 [(0,(iN 2))]),oB 28 (.call 22 [.t 26,.t 27,(iN 1),bF]),qM 25 28,qE 29 25 0,qE 30 25 1,oB 5 (.alloc (.agg Lz1)),qS 8 5 29,qM 6 30] (oS [qA 32 2 1,qA 33 8 5,oB 34 (.call 11 [.t 32,.t 33,(.c (.nilsl 1))]),qM 31 34,qE 35 31 0,qE 36 31 1,qE 37 31 2,oB 7 (.alloc (.agg Lz1)),oB 8 (.alloc (.agg Lz4)),qS 8 7 35,qS 3 8 36,qM 9 37] (oS [qA 39 2 1,qA 40 8 7,oB 41 (.call 11 [.t 39,.t 40,(.c (.nilsl 1))]),qM 38 41,qE 42 38 0,qE 43 38 1,qE 44 38 2,oB 10 (.alloc (.agg Lz1)),oB 11 (.alloc (.agg Lz4)),qS 8 10 42,qS 3 11 43,qM 12 44] (oS [qA 46 2 1,qA 47 8 10,oB 48 (.call 11 [.t 46,.t 47,(.c (.nilsl 1))]),qM 45 48,qE 49 45 0,qE 50 45 1,qE 51 45 2,oB 13 (.alloc (.agg Lz1)),oB 14 (.alloc (.agg Lz4)),qS 8 13 49,qS 3 14 50,qM 15 51] (oR [qM 52 2,qN 53 52,qK 54 .eql 53 3,qM 55 54,vM 56 3 55 true,vK 57 .eql 56 3 55 true,qP 58 55 57,qM 59 58,vM 60 4 59 true,vK 61 .eql 60 0 59 true,qP 62 59 61,qM 63 62,vM 64 6 63 true,vK 65 .eql 64 0 63 true,qP 66 63 65,qM 67 66,vM 68 9 67 true,vK 69 .eql 68 0 67 true,qP 70 67 69,qM 71 70,vF 72 0 8 71 true,vL 73 72 71 true,oG 74 (.bslice 1 [zD] 1 [(0,(iN 0))]) 71 true,vD 75 18 73 74 71 true,qP 76 71 75,qM 77 76,vF 78 2 7 77 true,vL 79 78 77 true,vK 80 .eql 79 1 77 true,qP 81 77 80,qM 82 81,vM 83 12 82 true,vK 84 .eql 83 0 82 true,qP 85 82 84,qM 86 85,vF 87 1 11 86 true,vL 88 87 86 true,oG 89 (.bslice 1 [zD] 1 [(0,(iN 0))]) 86 true,vD 90 18 88 89 86 true,qP 91 86 90,qM 92 91,vF 93 2 10 92 true,vL 94 93 92 true,vK 95 .eql 94 2 92 true,qP 96 92 95,qM 97 96,vM 98 15 97 true,vK 99 .eql 98 191 97 true,qP 100 97 99,qM 101 100,vA 102 2 1 101 true,vA 103 8 10 101 true,vD 104 17 102 103 101 true,vK 105 .eql 104 0 101 true,qP 106 101 105,qM 107 106,vA 108 8 7 107 true,vA 109 8 7 107 true,vD 110 33 108 109 107 true,qP 111 107 110,qM 112 111,vA 113 8 7 112 true,vA 114 8 10 112 true,vD 115 33 113 114 112 true,vU 116 115 112 true,qP 117 112 116,qM 118 117,vA 119 2 1 118 true,oG 120 (.bslice 1 [zD] 1 [(0,(iN 5))]) 118 true,vD 121 25 119 120 118 true,oG 122 (.bslice 1 [zD] 1 [(0,(iN 3))]) 118 true,vD 123 18 121 122 118 true,qP 124 118 123,qM 0 124])))))))
def fn9:FnI:=⟨0,ir9,[(0,none)]⟩
def ZBZ:C:=oS [qO 2 0,qO 3 1,qff 4] (oR [qA 5 2 2,qC 6 34 5,qM 7 6,vF 8 3 3 7 true,vA 9 5 8 7 true,vC 10 35 9 7 true,qP 11 7 10,qM 12 11,vF 13 1 3 12 true,vL 14 13 12 true,vN 15 14 12 true,vK 16 .leq 15 70 12 true,qP 17 12 16,qM 4 17])
def ZxH:FnI:=⟨2,ZBZ,[(4,none)]⟩
def ZBR:C:=oS [qO 3 0,qO 4 1,oB 6 (.alloc (.agg Lz1)),oB 7 (.alloc (.agg Lz4)),qW 8 0] (oS [qA 10 2 3,qA 11 8 4,qD 12 17 10 11,qM 9 12] (.seq (oS [qM 13 9,qK 14 .eql 13 0,qM 15 14,vF 16 2 4 15 true,vL 17 16 15 true,vK 18 .neq 17 1 15 true,qP 19 15 18] (cY 19 (.ops [qW 9 191]) .skip)) (.seq (oS [qM 20 9,qK 21 .neq 20 0] (oC 21 [oB 22 (.build Lz1 []),oB 23 (.build Lz4 []),qM 24 9,qS 8 6 22,qS 3 7 23,qM 8 24])) (oR [qA 25 2 3,qA 26 8 4,qM 27 2,qG 28 36 25 26 27,qE 29 28 0,qE 30 28 1,qE 31 28 2,qS 8 6 29,qS 3 7 30,qM 8 31]))))
def ZyJ:FnI:=⟨3,ZBR,[(6,some (8,true)),(7,some (3,true)),(8,none)]⟩
def ZBs:C:=oS [qO 1 0,oB 2 (.alloc (.agg Lz6))] (.seq (.draw [oB 3 (.bslice 1 [zD] 0 []),uF 4 0 1 [0],uL 5 4 [0],qY 6 3 5,oM 7 (.bslice 2 [zD,zD] 0 []) [0,1,2,3],uF 8 1 1 [0,1,2,3,4],uL 9 8 [0,1,2,3,4],oB 10 (.append 2 (.t 7) (.t 9)),oB 11 (.build Lz6 [(0,1,(.t 6)),(1,1,(.t 10))]),qX 2 2 11 4]) .ret)
def Zx4:FnI:=⟨1,ZBs,[(2,some (2,true))]⟩
def ZBH:C:=oS [qO 1 0,oB 2 (.alloc (.agg Lz1))] (oS [oB 3 (.bslice 1 [zD] 0 []),qF 4 1 1,qL 5 4,qY 6 3 5,qF 7 1 1,qS 1 7 6] (oS [qF 8 3 1,qA 9 5 8,qC 10 37 9,qF 11 3 1,qS 5 11 10] (oR [qA 12 8 1,qS 8 2 12])))
def Zyx:FnI:=⟨1,ZBH,[(2,some (8,true))]⟩
def ZBv:C:=oS [Zct 2 1] (oR [oB 3 (.bslice 1 [zD] 0 []),qM 4 0,qY 5 3 4,qM 2 5])
def ZyT:FnI:=⟨1,ZBv,[(2,none)]⟩
def ZBi:C:=oS [qO 2 0,qO 3 1,qff 4] (oR [qF 5 0 2,qL 6 5,qF 7 0 3,qL 8 7,oB 9 (.eqv [true] false (.t 6) (.t 8)),qM 10 9,vF 11 1 2 10 true,vL 12 11 10 true,vF 13 1 3 10 true,vL 14 13 10 true,vD 15 18 12 14 10 true,qP 16 10 15,qM 17 16,vF 18 2 2 17 true,vL 19 18 17 true,vF 20 2 3 17 true,vL 21 20 17 true,vB 22 .eql 19 21 17 true,qP 23 17 22,qM 24 23,vF 25 3 2 24 true,vA 26 5 25 24 true,vF 27 3 3 24 true,vA 28 5 27 24 true,vD 29 38 26 28 24 true,qP 30 24 29,qM 4 30])
def ZyE:FnI:=⟨2,ZBi,[(4,none)]⟩
def ZtW:C:=.seq (oS [qM 6 5,qM 7 0,qN 8 7,qB 9 .lss 6 8] (cX 9 0)) (.seq (.block 1 (oS [qM 12 0,qM 13 5,qI 14 1 12 13,qL 15 14,qM 16 1,qB 17 .eql 15 16] (oC 17 [qtt 4]))) (.ops [qM 10 5,qK 11 .add 10 1,qM 5 11]))
def ZBa:C:=oS [qff 4] (.seq (oS [qW 5 0] (.block 0 (.loop [0,1,5] [4] ZtW))) (oR [qff 4]))
def ZyP:FnI:=⟨2,ZBa,[(4,none)]⟩
def Znv:C:=oS [qB 34 .lss 33 32] (.seq (cX 34 0) (.seq (.block 1 (oS [qM 35 33,qI 36 1 31 33,qL 37 36,qM 6 35,qM 7 37] (oS [qF 38 3 3,qF 39 0 38,qF 40 1 39,qL 41 40,qM 42 6,qI 43 1 41 42,qL 44 43,qM 45 7,qB 46 .gtr 44 45] (oC 46 [qW 4 190])))) (.ops [qK 47 .add 33 1,qM 33 47])))
def ZA7:C:=oS [qO 2 0,qO 3 1,qW 4 0] (.seq (oS [qA 8 2 2,qC 9 39 8,qM 5 9] (oS [qM 10 5,qK 11 .neq 10 0] (oC 11 [qM 12 5,qM 4 12]))) (.seq (.seq (.draw [qA 13 2 2,uF 14 1 3 [0],uL 15 14 [0],qD 16 40 13 15,qU 17 16,qM 18 17,vF 19 0 3 18 false,vL 20 19 18 false,vC 21 41 20 18 false,wA 22 2 2 18 false [6,7,8],wF 23 3 3 18 false [6,7,8,9],wA 24 5 23 18 false [6,7,8,9],oG 25 (.invoke [(115,160),(116,216)] (.t 21) [.t 22,.t 24]) 18 false,vK 26 .neq 25 0 18 false,qJ 27 18 26]) (oC 27 [qW 4 190])) (.seq (oS [qA 28 2 2,qF 29 1 3,qL 30 29,qD 31 42 28 30,qN 32 31,qW 33 0] (.block 0 (.loop [2,3,31,32,33] [2,3,4] Znv))) (.seq (.seq (.draw [qF 48 2 3,qL 49 48,uA 50 2 2 [0,1],uF 51 1 3 [0,1,2],uL 52 51 [0,1,2],uF 53 3 3 [0,1,2,3,4],uF 54 0 53 [0,1,2,3,4],uF 55 1 54 [0,1,2,3,4],uL 56 55 [0,1,2,3,4],uG 57 43 50 52 56 [0,1],qB 58 .neq 49 57]) (oC 58 [qW 4 190])) (oR [qW 4 0])))))
def ZyW:FnI:=⟨2,ZA7,[(4,none)]⟩
def ZuF:C:=.seq (oS [qM 11 5,qM 12 0,qN 13 12,qB 14 .lss 11 13] (cX 14 0)) (.seq (.block 1 (.seq (.draw [qM 17 0,uM 18 5 [0],qI 19 1 17 18,qL 20 19,uM 21 1 [0,1,2,3],uM 22 5 [0,1,2,3,4],uI 23 1 21 22 [0,1,2,3],uL 24 23 [0,1,2,3],qB 25 .neq 20 24]) (oC 25 [qff 4]))) (.ops [qM 15 5,qK 16 .add 15 1,qM 5 16]))
def ZBY:C:=oS [qff 4] (.seq (oS [qM 6 0,qN 7 6,qM 8 1,qN 9 8,qB 10 .neq 7 9] (oC 10 [qff 4])) (.seq (oS [qW 5 0] (.block 0 (.loop [0,1,5] [4] ZuF))) (oR [qtt 4])))
def ZyR:FnI:=⟨2,ZBY,[(4,none)]⟩
def ZyC:C:=oS [qB 39 .lss 38 37] (.seq (cX 39 0) (.seq (.block 1 (oS [qI 40 1 36 38,qL 41 40,qM 17 41] (.ops [qM 42 15,qM 43 17,qB 44 .add 42 43,qM 15 44]))) (.ops [qK 45 .add 38 1,qM 38 45])))
def Zyu:C:=.seq (oS [qF 48 2 13,qL 49 48,qK 50 .eql 49 1] (cX 50 2)) (.block 3 (oS [qA 52 2 5,qA 53 8 13,qM 54 4,qG 55 36 52 53 54,qM 51 55,qE 56 51 0,qE 57 51 1,qE 58 51 2,oB 19 (.alloc (.agg Lz1)),oB 20 (.alloc (.agg Lz4)),qS 8 19 56,qS 3 20 57,qM 21 58] (.seq (oS [qM 59 21,qK 60 .neq 59 0] (oC 60 [qM 61 21,Zct 10 1,qW 11 0,qM 12 61])) (oS [qM 62 4,qF 63 2 20,qL 64 63,qM 65 4,qN 66 65,oB 67 (.mx false [.t 64,.t 66]),oB 68 (.slice 1 (.t 62) (some (.t 67)) none none),qM 4 68] (oS [qM 69 18,qF 70 0 20,qL 71 70,oB 72 (.bslice 1 [.list true []] 1 [(0,(.t 71))]),qY 73 69 72,qM 18 73] (.ops [qA 74 8 19,qS 8 13 74]))))))
def ZBL:C:=oS [qO 5 0,Zct 10 1,qW 11 0,qW 12 0] (oS [qA 23 2 5,qM 24 1,qM 25 2,qM 26 3,oB 27 (.call 22 [.t 23,.t 24,.t 25,.t 26]),qM 22 27,qE 28 22 0,qE 29 22 1,oB 13 (.alloc (.agg Lz1)),qS 8 13 28,qM 14 29] (.seq (oS [qM 30 14,qK 31 .neq 30 0] (oC 31 [qM 32 14,Zct 10 1,qW 11 0,qM 12 32])) (oS [qW 15 0] (.seq (oS [qF 33 3 13,qF 34 0 33,qF 35 1 34,qL 36 35,qN 37 36,qW 38 0] (.block 0 (.loop [4,5,13,15,36,37,38] [4,5,13,15] ZyC))) (.seq (oS [qM 46 15,qK 47 .gtr 46 4096] (oC 47 [Zct 10 1,qW 11 0,qW 12 190])) (oS [Zct 18 1] (.seq (.block 2 (.loop [4,5,13,18] [10,11,12,13,18] Zyu)) (.seq (.draw [qM 75 18,uF 76 2 13 [0],uL 77 76 [0],uM 10 75 [1,2],qM 11 77,qW 12 0]) .ret))))))))
def ZzN:FnI:=⟨5,ZBL,[(10,none),(11,none),(12,none)]⟩
def ZBW:C:=oS [qO 4 0,oB 8 (.alloc (.agg Lz1)),qW 9 0] (.seq (oS [qA 13 2 4,qC 14 39 13,qM 10 14] (oS [qM 15 10,qK 16 .neq 15 0] (oC 16 [oB 17 (.build Lz1 []),qM 18 10,qS 8 8 17,qM 9 18]))) (.seq (oS [qA 19 2 4,qM 20 1,qD 21 40 19 20,qU 22 21,qM 23 22,vM 24 2 23 false,vK 25 .lss 24 1 23 false,qJ 26 23 25,qM 27 26,vM 28 2 27 false,vK 29 .gtr 28 8 27 false,qJ 30 27 29] (oC 30 [oB 31 (.build Lz1 []),qS 8 8 31,qW 9 190])) (.seq (.draw [qM 33 3,qC 34 41 33,uA 35 2 4 [0,1],uA 36 2 4 [0,1,2],uM 37 1 [0,1,2,3],uD 38 42 36 37 [2],uM 39 2 [0,1,2,3,4,5],oM 40 (.mkfn 2000000 [.t 34]) [2,3,4,5,6],oM 41 (.nilckm [(115,159),(116,215)] (.t 40)) [2,3,4,5,6],uM 42 34 [2,3,4,5,6],oB 43 (.invoke [(115,159),(116,215)] (.t 42) [.t 35,.t 38,.t 39]),qM 32 43,qE 44 32 0,uE 45 32 1 [12],oM 11 (.alloc (.agg Lz0)) [0,1,2,3,4,5,6,7,8,9,10,11,12,13],qX 5 11 44 4,qM 12 45]) (.seq (oS [qM 46 12,qK 47 .neq 46 0] (oC 47 [oB 48 (.build Lz1 []),qM 49 12,qS 8 8 48,qM 9 49])) (.seq (.draw [qM 50 3,uM 51 1 [0],uC 52 45 51 [0],uA 53 2 4 [0,1,2],uM 54 1 [0,1,2,3],uF 55 0 11 [0,1,2,3,4],uF 56 1 55 [0,1,2,3,4],uL 57 56 [0,1,2,3,4],uG 58 43 53 54 57 [0],uA 59 5 11 [0,1,2,3,4,5,6,7,8],oB 60 (.build Lz1 [(0,1,(.t 50)),(1,1,(.t 52)),(2,1,(.t 58)),(3,5,(.t 59))]),qX 8 8 60 4,qW 9 0]) .ret)))))
def Zz3:FnI:=⟨4,ZBW,[(8,some (8,true)),(9,none)]⟩
def ZA3:C:=oS [qO 2 0,Zct 4 1] (.seq (oS [qA 5 2 2,qC 6 39 5,qK 7 .neq 6 0,qM 8 7,vA 9 2 2 8 false,vM 10 1 8 false,vD 11 40 9 10 8 false,vU 12 11 8 false,qJ 13 8 12] (oC 13 [Zct 4 1])) (oR [qA 14 2 2,qM 15 1,qD 16 42 14 15,qM 4 16]))
def ZAn:FnI:=⟨2,ZA3,[(4,none)]⟩
def ZAY:C:=oS [qO 4 0,qW 8 0] (oS [qA 12 2 4,qM 13 1,qM 14 2,qM 15 3,oB 16 (.call 52 [.t 12,.t 13,.t 14,.t 15,(.c (.d (.fn 53 [])))]),qM 11 16,qE 17 11 0,qE 18 11 1,qM 9 17,qM 10 18] (oR [qM 19 10,qM 8 19]))
def ZzB:FnI:=⟨4,ZAY,[(8,none)]⟩
def ZBU:C:=oS [qO 2 0,qO 3 1,qff 4] (oR [qF 5 0 2,qL 6 5,qF 7 0 3,qL 8 7,oB 9 (.eqv [true] false (.t 6) (.t 8)),qM 10 9,vF 11 1 2 10 true,vL 12 11 10 true,vF 13 1 3 10 true,vL 14 13 10 true,vD 15 60 12 14 10 true,qP 16 10 15,qM 17 16,vF 18 2 2 17 true,vL 19 18 17 true,vF 20 2 3 17 true,vL 21 20 17 true,vB 22 .eql 19 21 17 true,qP 23 17 22,qM 24 23,vF 25 3 2 24 true,vA 26 5 25 24 true,vF 27 3 3 24 true,vA 28 5 27 24 true,vD 29 61 26 28 24 true,qP 30 24 29,qM 4 30])
def ZAA:FnI:=⟨2,ZBU,[(4,none)]⟩
def ZBk:C:=oS [qO 1 0,qff 2] (oR [qF 3 0 1,qL 4 3,qN 5 4,qK 6 .leq 5 70,qM 7 6,vF 8 1 1 7 true,vL 9 8 7 true,vN 10 9 7 true,vK 11 .leq 10 300 7 true,qP 12 7 11,qM 2 12])
def ZxX:FnI:=⟨1,ZBk,[(2,none)]⟩
def ZvK:C:=.seq (oS [qM 4 3,qF 5 2 1,qL 6 5,qN 7 6,qB 8 .lss 4 7,qM 9 8,vM 10 3 9 true,vK 11 .lss 10 13 9 true,qP 12 9 11] (cX 12 0)) (.seq (.block 1 (oS [qF 15 2 1,qL 16 15,qM 17 3,qI 18 3 16 17,qF 19 0 18,qL 20 19,qN 21 20,qK 22 .gtr 21 130] (oC 22 [qff 2]))) (.ops [qM 13 3,qK 14 .add 13 1,qM 3 14]))
def ZBJ:C:=oS [qO 1 0,qff 2] (.seq (oS [qW 3 0] (.block 0 (.loop [1,3] [1,2] ZvK))) (oR [qF 23 0 1,qF 24 0 23,qL 25 24,qN 26 25,qK 27 .leq 26 12,qM 28 27,vF 29 0 1 28 true,vF 30 1 29 28 true,vL 31 30 28 true,vN 32 31 28 true,vK 33 .leq 32 70 28 true,qP 34 28 33,qM 35 34,vF 36 2 1 35 true,vL 37 36 35 true,vN 38 37 35 true,vK 39 .leq 38 12 35 true,qP 40 35 39,qM 41 40,vF 42 3 1 41 true,vL 43 42 41 true,vN 44 43 41 true,vK 45 .leq 44 12 41 true,qP 46 41 45,qM 47 46,vF 48 4 1 47 true,vL 49 48 47 true,vN 50 49 47 true,vK 51 .leq 50 12 47 true,qP 52 47 51,qM 2 52]))
def Zyq:FnI:=⟨1,ZBJ,[(2,none)]⟩
def ZBn:C:=oS [qO 3 0,qO 4 1,oB 6 (.alloc (.agg Lz1)),oB 7 (.alloc (.agg Lz4)),qW 8 0] (oS [qF 14 0 4,qL 15 14,qC 16 41 15,qM 9 16] (oS [qM 18 9,qA 19 2 3,qF 20 3 4,qA 21 5 20,qM 22 2,oB 23 (.invoke [(115,161),(116,217)] (.t 18) [.t 19,.t 21,.t 22]),qM 17 23,qE 24 17 0,qE 25 17 1,qE 26 17 2,oB 10 (.alloc (.agg Lz0)),qS 5 10 24,qM 11 25,qM 12 26] (.seq (oS [qM 27 12,qK 28 .neq 27 0] (oC 28 [oB 29 (.build Lz1 []),oB 30 (.build Lz4 []),qM 31 12,qS 8 6 29,qS 3 7 30,qM 8 31])) (oS [qF 32 0 10,qF 33 0 32,qL 34 33,qC 35 45 34,qM 36 11,oB 37 (.build Lz4 [(0,1,(.t 35)),(2,1,(.t 36))]),oB 13 (.alloc (.agg Lz4)),qS 3 13 37] (oS [qM 39 9,qA 40 2 3,qA 41 5 10,oB 42 (.invoke [(115,162),(116,218)] (.t 39) [.t 40,.t 41]),qM 38 42,qE 43 38 0,qE 44 38 1,qE 45 38 2,qS 5 10 43,qF 46 1 13,qS 1 46 44,qM 12 45] (.seq (oS [qM 47 12,qK 48 .neq 47 0] (oC 48 [oB 49 (.build Lz1 []),oB 50 (.build Lz4 []),qM 51 12,qS 8 6 49,qS 3 7 50,qM 8 51])) (.seq (.draw [qF 52 1 4,qL 53 52,qC 54 45 53,⟨some 55,.load 5 true (.t 10),none,[0,1,2],1⟩,uF 56 1 4 [3],⟨none,.storek 1 (.t 56) (.t 54) [.t 10],none,[],3⟩,qF 57 3 4,qX 5 57 55 4]) (oS [qA 58 2 3,qF 59 1 4,qL 60 59,qF 61 0 10,qF 62 1 61,qL 63 62,qG 64 43 58 60 63,qF 65 2 4,qS 1 65 64] (.seq (.draw [qA 66 8 4,⟨some 67,.load 3 true (.t 13),none,[0],1⟩,⟨none,.storek 8 (.t 6) (.t 66) [.t 13],none,[],3⟩,qX 3 7 67 4,qW 8 0]) .ret)))))))))
def ZyK:FnI:=⟨3,ZBn,[(6,some (8,true)),(7,some (3,true)),(8,none)]⟩
def ZtN:C:=.seq (oS [qM 17 4,qF 18 2 1,qL 19 18,qN 20 19,qB 21 .lss 17 20] (cX 21 0)) (.seq (.block 1 (.draw [qF 24 2 3,qL 25 24,uF 26 2 1 [0,1],uL 27 26 [0,1],uM 28 4 [0,1,2,3],uI 29 3 27 28 [0,1],uA 30 3 29 [0,1],uC 31 63 30 [0,1],oM 32 (.bslice 3 [.list true [],zD,zD] 1 [(0,(.t 31))]) [0,1],⟨some 33,.append 3 (.t 25) (.t 32),none,[],4⟩,qF 34 2 3,qX 1 34 33 4])) (.ops [qM 22 4,qK 23 .add 22 1,qM 4 23]))
def ZBV:C:=oS [qO 1 0,oB 2 (.alloc (.agg Lz0))] (.seq (.draw [qF 5 0 1,qA 6 2 5,qC 7 62 6,oM 8 (.bslice 6 [.bool false,zD,zD,zD,zD,zD] 0 []) [0,1,2],uF 9 3 1 [0,1,2,3],uL 10 9 [0,1,2,3],oB 11 (.append 6 (.t 8) (.t 10)),uS 12 [0,1,2,3,4,5,6],uF 13 4 1 [0,1,2,3,4,5,6,7],uL 14 13 [0,1,2,3,4,5,6,7],qY 15 12 14,oB 16 (.build Lz0 [(0,2,(.t 7)),(3,1,(.t 11)),(4,1,(.t 15))]),oM 3 (.alloc (.agg Lz0)) [0,1,2,3,4,5,6,7,8,9,10,11],qX 5 3 16 4]) (.seq (oS [qW 4 0] (.block 0 (.loop [1,2,3,4] [2,3] ZtN))) (oR [qA 35 5 3,qS 5 2 35])))
def ZyI:FnI:=⟨1,ZBV,[(2,some (5,true))]⟩
def ZuH:C:=.seq (oS [qM 39 5,qF 40 2 2,qL 41 40,qN 42 41,qB 43 .lss 39 42] (cX 43 0)) (.seq (.block 1 (.seq (.draw [qF 46 2 2,qL 47 46,uM 48 5 [0,1],qI 49 3 47 48,qA 50 3 49,uF 51 2 3 [0,1,2,3,4],uL 52 51 [0,1,2,3,4],uM 53 5 [0,1,2,3,4,5,6],uI 54 3 52 53 [0,1,2,3,4],uA 55 3 54 [0,1,2,3,4],qD 56 65 50 55,qU 57 56]) (oC 57 [qff 4]))) (.ops [qM 44 5,qK 45 .add 44 1,qM 5 45]))
def Zt8:C:=.seq (oS [qM 58 6,qF 59 3 2,qL 60 59,qN 61 60,qB 62 .lss 58 61] (cX 62 2)) (.seq (.block 3 (.seq (.draw [qF 65 3 2,qL 66 65,uM 67 6 [0,1],qI 68 6 66 67,qA 69 6 68,uF 70 3 3 [0,1,2,3,4],uL 71 70 [0,1,2,3,4],uM 72 6 [0,1,2,3,4,5,6],uI 73 6 71 72 [0,1,2,3,4],uA 74 6 73 [0,1,2,3,4],oB 75 (.eqv [true,false,false,false,false,false] true (.t 69) (.t 74))]) (oC 75 [qff 4]))) (.ops [qM 63 6,qK 64 .add 63 1,qM 6 64]))
def ZBt:C:=oS [qO 2 0,qO 3 1,qff 4] (.seq (oS [qF 7 0 2,qA 8 2 7,qF 9 0 3,qA 10 2 9,qD 11 64 8 10,qU 12 11,qM 13 12,vF 14 2 2 13 false,vL 15 14 13 false,vN 16 15 13 false,vF 17 2 3 13 false,vL 18 17 13 false,vN 19 18 13 false,vB 20 .neq 16 19 13 false,qJ 21 13 20,qM 22 21,vF 23 3 2 22 false,vL 24 23 22 false,vN 25 24 22 false,vF 26 3 3 22 false,vL 27 26 22 false,vN 28 27 22 false,vB 29 .neq 25 28 22 false,qJ 30 22 29,qM 31 30,vF 32 4 2 31 false,vL 33 32 31 false,vF 34 4 3 31 false,vL 35 34 31 false,vD 36 18 33 35 31 false,vU 37 36 31 false,qJ 38 31 37] (oC 38 [qff 4])) (.seq (oS [qW 5 0] (.block 0 (.loop [2,3,5] [2,3,4] ZuH))) (.seq (oS [qW 6 0] (.block 2 (.loop [2,3,6] [4] Zt8))) (oR [qtt 4]))))
def ZxB:FnI:=⟨2,ZBt,[(4,none)]⟩
def Zuk:C:=oS [qB 26 .lss 25 24] (.seq (cX 26 0) (.seq (.block 1 (oS [qM 27 25,qI 28 2 23 25,qA 29 2 28,oB 5 (.alloc (.d (.agg [zD,zD]))),qM 4 27,qS 2 5 29] (.seq (.draw [qM 30 3,uF 31 0 5 [0],uL 32 31 [0],qV 33 30 32,qU 34 33,qM 35 34,vM 36 3 35 false,wF 37 1 5 35 false [6],wL 38 37 35 false [6],vV 39 36 38 35 false,vU 40 39 35 false,qJ 41 35 40,qM 42 41,vF 43 0 5 42 false,vL 44 43 42 false,wF 45 1 5 42 false [13,14],wL 46 45 42 false [13,14],vB 47 .eql 44 46 42 false,qJ 48 42 47,qM 49 48,vF 50 1 1 49 false,vL 51 50 49 false,wM 52 4 49 false [20,21],oG 53 (.slice 2 (.t 51) none (some (.t 52)) none) 49 false,wA 54 2 5 49 false [20,21,22,23],vD 55 69 53 54 49 false,qJ 56 49 55]) (oC 56 [qW 2 42])))) (.ops [qK 57 .add 25 1,qM 25 57])))
def ZBK:C:=oS [qO 1 0,qW 2 0] (.seq (oS [qF 8 0 1,qL 9 8,qN 10 9,qK 11 .gtr 10 64,qM 12 11,vF 13 1 1 12 false,vL 14 13 12 false,vN 15 14 12 false,vK 16 .gtr 15 256 12 false,qJ 17 12 16] (oC 17 [qW 2 40])) (.seq (oS [qF 18 0 1,qL 19 18,oB 20 (.call 66 [.t 19,(.c (.d (.fn 67 [])))])] (oC 20 [qW 2 41])) (oS [oB 21 (.mkfn 68 [.t 1]),qM 3 21] (.seq (oS [qF 22 1 1,qL 23 22,qN 24 23,qW 25 0] (.block 0 (.loop [1,3,23,24,25] [1,2] Zuk))) (.seq (oS [qA 59 2 1,qC 60 70 59,qM 58 60,qE 61 58 0,qE 62 58 1,qM 6 61,qM 7 62] (oS [qM 63 7,qU 64 63] (oC 64 [qW 2 43]))) (oR [qW 2 0]))))))
def ZxA:FnI:=⟨1,ZBK,[(2,none)]⟩
def ZBy:C:=oS [qO 2 0,qff 4] (oS [oB 5 (.mov (.c (.d (.fn 71 []))))] (oR [qM 6 1,qN 7 6,qF 8 0 2,qL 9 8,qN 10 9,qB 11 .eql 7 10,qM 12 11,vM 13 1 12 true,vM 14 5 12 true,vD 15 66 13 14 12 true,vU 16 15 12 true,qP 17 12 16,qM 18 17,vF 19 0 2 18 true,vL 20 19 18 true,vM 21 5 18 true,vD 22 66 20 21 18 true,vU 23 22 18 true,qP 24 18 23,qM 4 24]))
def ZxD:FnI:=⟨2,ZBy,[(4,none)]⟩
def ZBg:C:=oS [oB 2 (.mov (.c (.d (.nilI))))] (.seq (oS [qM 3 0] (oC 3 [oB 4 (.build [] []),oB 5 (.mkif 115 (.t 4)),qM 2 5])) (oR [oB 6 (.build [] []),oB 7 (.mkif 116 (.t 6)),qM 2 7]))
def Zyf:FnI:=⟨1,ZBg,[(2,none)]⟩
def ZvC:C:=oS [qB 12 .lss 11 10] (.seq (cX 12 0) (.seq (.block 1 (oS [qM 13 11,qI 14 1 9 11,qL 15 14,qM 6 13,qM 7 15] (.ops [qM 16 5,qM 17 1,qM 18 6,qI 19 1 17 18,qL 20 19,qM 21 7,oB 22 (.mx false [.t 20,.t 21]),qH 23 22,qY 24 16 23,qM 5 24]))) (.ops [qK 25 .add 11 1,qM 11 25])))
def ZAX:C:=oS [qO 2 0,Zct 4 1] (oS [Zct 5 1] (.seq (oS [qF 8 0 2,qL 9 8,qN 10 9,qW 11 0] (.block 0 (.loop [1,5,9,10,11] [5] ZvC))) (oR [qM 26 5,qM 4 26])))
def ZyX:FnI:=⟨2,ZAX,[(4,none)]⟩
def Zu4:C:=oS [qB 13 .lss 12 11] (.seq (cX 13 0) (.seq (.block 1 (oS [qM 14 12,qI 15 1 10 12,qL 16 15,qM 8 14,qM 9 16] (.block 2 (oS [qM 18 9,qK 19 .gtr 18 0,qM 20 19,vM 21 7 20 true,vK 22 .eql 21 2 20 true,qP 23 20 22,qM 17 23] (cY 17 (.ops [qW 7 1]) (.seq (.draw [qM 25 9,qK 26 .eql 25 0,qM 27 26,vM 28 1 27 true,wM 29 8 27 true [3],vI 30 1 28 29 27 true,vL 31 30 27 true,wF 32 0 3 27 true [3,4,5,6],wL 33 32 27 true [3,4,5,6],wM 34 8 27 true [3,4,5,6,7,8],wI 35 1 33 34 27 true [3,4,5,6],wL 36 35 27 true [3,4,5,6],vB 37 .gtr 31 36 27 true,qP 38 27 37,qM 24 38]) (oC 24 [qW 6 3]))))))) (.ops [qK 39 .add 12 1,qM 12 39])))
def ZA2:C:=oS [qO 3 0,qW 6 0] (oS [qW 7 2] (.seq (oS [qM 10 2,qN 11 10,qW 12 0] (.block 0 (.loop [1,3,7,10,11,12] [6,7] Zu4))) (oR [qM 40 7,qM 6 40])))
def Zyl:FnI:=⟨3,ZA2,[(6,none)]⟩
def ZAT:C:=oR [(oB 2 (.append 1 (.c (.nilsl 1)) (.t 0)))]
def Zyh:FnI:=⟨1,ZAT,[(2,none)]⟩
def Zx0:C:=oS [qB 57 .lss 56 55] (.seq (cX 57 2) (.seq (.block 3 (oS [qM 58 56,qI 59 1 54 56,qL 60 59,qM 18 58,qM 19 60] (.seq (oS [qM 61 19,qK 62 .eql 61 (-1)] (cY 62 (.exit 3) .skip)) (oS [qM 63 15,qA 64 2 5,qM 65 17,qM 66 16,qM 67 18,oB 68 (.call 86 [.t 63,.t 64,.t 65,.t 66,.t 67]),qM 13 68] (oS [qM 69 13,qK 70 .neq 69 0] (cY 70 (.exit 0) .skip)))))) (.ops [qK 71 .add 56 1,qM 56 71])))
def ZxL:C:=oS [qB 80 .lss 79 78] (.seq (cX 80 4) (.seq (.block 5 (oS [qM 81 79,qI 82 1 77 79,qL 83 82,qM 20 81,qM 21 83] (oS [qM 84 21,qK 85 .neq 84 (-1)] (cY 85 (.ops [qM 86 15,qM 87 21,qM 88 16,qM 89 20,oB 90 (.call 87 [.t 86,.t 87,.t 88,.t 89])]) .skip)))) (.ops [qK 91 .add 79 1,qM 79 91])))
def Zx1:C:=oS [qB 50 .lss 49 48] (.seq (cX 50 0) (.seq (.block 1 (oS [qM 51 49,qI 52 1 47 49,qL 53 52,qM 16 51,qM 17 53] (.seq (oS [qM 54 17,qN 55 54,qW 56 0] (.block 2 (.loop [4,5,13,15,16,17,47,48,49,54,55,56] [4,5,13,15,16,17,47,48,49] Zx0))) (oS [qM 72 4,qM 73 15,qM 74 16,qM 75 17,oB 76 (.callv (.t 72) [.t 73,.t 74,.t 75])] (oS [qM 77 17,qN 78 77,qW 79 0] (.block 4 (.loop [4,5,13,15,16,47,48,49,77,78,79] [4,5,13,15,47,48,49] ZxL))))))) (.ops [qK 92 .add 49 1,qM 49 92])))
def ZAV:C:=oS [qO 5 0,qO 7 2,oB 10 (.mov (.c (.d (.nilp)))),qW 11 0] (oS [qA 23 2 5,qM 24 1,qL 25 7,qG 26 59 23 24 25,qM 22 26,qE 27 22 0,qE 28 22 1,qM 12 27,qM 13 28] (.seq (oS [qM 29 13,qK 30 .neq 29 0] (oC 30 [qM 31 13,oB 10 (.mov (.c (.d (.nilp)))),qM 11 31])) (oS [oB 32 (.mkfn 83 [.t 7]),qM 14 32] (.seq (oS [qM 33 12,qU 34 33,qM 35 34,vM 36 3 35 false,vN 37 36 35 false,vK 38 .gtr 37 4096 35 false,qJ 39 35 38,qM 40 39,vM 41 3 40 false,vM 42 14 40 false,vD 43 84 41 42 40 false,qJ 44 40 43] (oC 44 [oB 10 (.mov (.c (.d (.nilp)))),qW 11 100])) (oS [qM 45 1,qC 46 85 45,qM 15 46] (.seq .skip (.seq (oS [qM 47 3,qN 48 47,qW 49 0] (.block 0 (.loop [4,5,13,15,47,48,49] [13,15] Zx1))) (oR [qM 93 15,qM 94 13,qM 10 93,qM 11 94]))))))))
def ZAG:FnI:=⟨5,ZAV,[(10,none),(11,none)]⟩
def ZBd:C:=.skip
def ZAM:FnI:=⟨3,ZBd,[]⟩
def ZBz:C:=oS [qff 4] (oR [qM 5 0,qM 6 1,qD 7 88 5 6,qK 8 .geq 7 0,qM 4 8])
def ZxW:FnI:=⟨2,ZBz,[(4,none)]⟩
def ZBq:C:=oS [qO 4 0,qO 5 1,qO 6 2,qO 7 3,qff 8] (oR [qF 9 1 5,qL 10 9,oB 11 (.mkfn 90 [.t 6,.t 4,.t 7]),qD 12 89 10 11,qU 13 12,qM 8 13])
def Zz0:FnI:=⟨4,ZBq,[(8,none)]⟩
def ZBD:C:=oS [qO 3 0,qff 6,qW 7 0] (.seq (oS [qA 10 2 3,qC 11 39 10,qM 8 11] (oS [qM 12 8,qK 13 .neq 12 0] (oC 13 [qM 14 8,qff 6,qM 7 14]))) (oS [oB 9 (.mov (.c (.d (.fn 94 []))))] (oR [qM 15 1,qN 16 15,qF 17 0 3,qL 18 17,qN 19 18,qB 20 .eql 16 19,qM 21 20,vM 22 1 21 true,vM 23 9 21 true,vD 24 66 22 23 21 true,vU 25 24 21 true,qP 26 21 25,qM 27 26,vM 28 2 27 true,vK 29 .geq 28 1 27 true,qP 30 27 29,qM 31 30,vM 32 2 31 true,vK 33 .leq 32 8 31 true,qP 34 31 33,qM 6 34,qW 7 0])))
def Zzh:FnI:=⟨3,ZBD,[(6,none),(7,none)]⟩
def Zyi:C:=oS [qB 14 .lss 13 12] (.seq (cX 14 0) (.seq (.block 1 (oS [qM 15 13,qM 5 15] (.seq (.draw [qM 16 0,uM 17 5 [0],qI 18 1 16 17,qL 19 18,uM 20 1 [0,1,2,3],uM 21 5 [0,1,2,3,4],uI 22 1 20 21 [0,1,2,3],uL 23 22 [0,1,2,3],qB 24 .neq 19 23]) (oC 24 [qff 4])))) (.ops [qK 25 .add 13 1,qM 13 25])))
def ZA6:C:=oS [qff 4] (.seq (oS [qM 6 0,qN 7 6,qM 8 1,qN 9 8,qB 10 .neq 7 9] (oC 10 [qff 4])) (.seq (oS [qM 11 0,qN 12 11,qW 13 0] (.block 0 (.loop [0,1,12,13] [4] Zyi))) (oR [qtt 4])))
def Zy3:FnI:=⟨2,ZA6,[(4,none)]⟩
def ZBI:C:=oS [qO 2 0,qO 3 1,qff 4] (oR [qF 5 0 2,qA 6 2 5,qF 7 0 3,qA 8 2 7,qD 9 95 6 8,qM 10 9,vF 11 2 2 10 true,vL 12 11 10 true,vF 13 2 3 10 true,vL 14 13 10 true,oG 15 (.call 96 [.t 12,.t 14,(.c (.d (.fn 97 [])))]) 10 true,qP 16 10 15,qM 17 16,vF 18 3 2 17 true,vL 19 18 17 true,vF 20 3 3 17 true,vL 21 20 17 true,vD 22 98 19 21 17 true,qP 23 17 22,qM 24 23,vF 25 4 2 24 true,vL 26 25 24 true,vF 27 4 3 24 true,vL 28 27 24 true,vD 29 60 26 28 24 true,qP 30 24 29,qM 4 30])
def ZzQ:FnI:=⟨2,ZBI,[(4,none)]⟩
def ZBp:C:=oS [qO 1 0,oB 2 (.alloc (.agg Lz3))] (.seq (.draw [oB 3 (.bslice 1 [zD] 0 []),uF 4 0 1 [0],uL 5 4 [0],qY 6 3 5,uS 7 [0,1,2,3],uF 8 1 1 [0,1,2,3,4],uL 9 8 [0,1,2,3,4],qY 10 7 9,oB 11 (.build Lz3 [(0,1,(.t 6)),(1,1,(.t 10))]),qX 2 2 11 4]) .ret)
def ZxY:FnI:=⟨1,ZBp,[(2,some (2,true))]⟩
def ZBE:C:=oS [qO 1 0,oB 2 (.alloc (.agg Lz2))] (.seq (.draw [oB 3 (.bslice 1 [zD] 0 []),uF 4 0 1 [0],uL 5 4 [0],qY 6 3 5,uF 7 1 1 [0,1,2,3],uL 8 7 [0,1,2,3],uF 9 2 1 [0,1,2,3,4,5],uL 10 9 [0,1,2,3,4,5],oB 11 (.build Lz2 [(0,1,(.t 6)),(1,1,(.t 8)),(2,1,(.t 10))]),qX 3 2 11 4]) .ret)
def Zyj:FnI:=⟨1,ZBE,[(2,some (3,true))]⟩
def ZA8:C:=oS [qO 2 0,qO 3 1,qff 4] (oR [qF 5 0 2,qL 6 5,qF 7 0 3,qL 8 7,qD 9 18 6 8,qM 10 9,vF 11 1 2 10 true,vL 12 11 10 true,vF 13 1 3 10 true,vL 14 13 10 true,vD 15 18 12 14 10 true,qP 16 10 15,qM 4 16])
def Zx3:FnI:=⟨2,ZA8,[(4,none)]⟩
def ZBe:C:=oS [qO 2 0,qO 3 1,qff 4] (oR [qF 5 0 2,qL 6 5,qF 7 0 3,qL 8 7,qD 9 18 6 8,qM 10 9,vF 11 1 2 10 true,vL 12 11 10 true,vF 13 1 3 10 true,vL 14 13 10 true,vB 15 .eql 12 14 10 true,qP 16 10 15,qM 17 16,vF 18 2 2 17 true,vL 19 18 17 true,vF 20 2 3 17 true,vL 21 20 17 true,vB 22 .eql 19 21 17 true,qP 23 17 22,qM 4 23])
def ZyY:FnI:=⟨2,ZBe,[(4,none)]⟩
def ZAU:C:=oS [qff 4] (oR [qM 5 0,qM 6 1,qD 7 99 5 6,qK 8 .geq 7 0,qM 4 8])
def Zu1:FnI:=⟨2,ZAU,[(4,none)]⟩
def ZA1:C:=oS [qff 2] (oR [qM 3 0,qK 4 .lss 3 0,qM 5 4,vM 6 0 5 false,vK 7 .gtr 6 1000 5 false,qJ 8 5 7,qM 2 8])
def Zx2:FnI:=⟨1,ZA1,[(2,none)]⟩
def ZBO:C:=oS [qff 3] (oR [qM 4 0,qK 5 .geq 4 0,qM 6 5,vM 7 0 6 true,vF 8 0 1 6 true,vL 9 8 6 true,vN 10 9 6 true,vB 11 .lss 7 10 6 true,qP 12 6 11,qM 3 12])
def ZxF:FnI:=⟨2,ZBO,[(3,none)]⟩
def ZBP:C:=oS [qO 3 1,qff 4] (oR [qM 5 0,qA 6 2 3,qD 7 100 5 6,qK 8 .geq 7 0,qM 4 8])
def ZyH:FnI:=⟨2,ZBP,[(4,none)]⟩
def Zuj:C:=oS [qB 33 .lss 32 31] (.seq (cX 33 4) (.seq (.block 5 (oS [qI 34 2 30 32,qA 35 2 34,oB 8 (.alloc (.d (.agg [zD,zD]))),qS 2 8 35] (oS [qF 36 1 8,qL 37 36,qM 38 6,qB 39 .eql 37 38,qM 40 39,vM 41 5 40 true,vF 42 0 8 40 true,vL 43 42 40 true,vI 44 1 41 43 40 true,vL 45 44 40 true,vU 46 45 40 true,qP 47 40 46] (cY 47 (.exit 3) .skip)))) (.ops [qK 48 .add 32 1,qM 32 48])))
def Zvm:C:=oS [qB 23 .lss 22 21] (.seq (cX 23 2) (.seq (.block 3 (oS [qM 24 22,qM 6 24] (.seq (oS [qM 25 5,qM 26 6,qI 27 1 25 26,qL 28 27] (cY 28 (.exit 3) .skip)) (.seq (oS [qF 29 1 1,qL 30 29,qN 31 30,qW 32 0] (.block 4 (.loop [1,4,5,6,21,22,30,31,32] [1,4,5,6,21,22] Zuj))) (oS [qM 49 5,qM 50 6,qI 51 1 49 50,oA (.store 1 (.t 51) bT)] (oS [qM 52 4,qM 53 6,qH 54 53,qY 55 52 54,qM 4 55] (.exit 1))))))) (.ops [qK 56 .add 22 1,qM 22 56])))
def Zve:C:=.seq (oS [qM 13 4,qN 14 13,qF 15 0 1,qL 16 15,qN 17 16,qB 18 .lss 14 17] (cX 18 0)) (.block 1 (.seq .skip (.seq (oS [qF 19 0 1,qL 20 19,qN 21 20,qW 22 0] (.block 2 (.loop [1,4,5,21,22] [1,4,5] Zvm))) (oR [Zct 2 1,qff 3]))))
def ZBX:C:=oS [qO 1 0,Zct 2 1,qff 3] (oS [Zct 4 1] (oS [qF 9 0 1,qL 10 9,qN 11 10,oB 12 (.mkslice 1 [.bool false] (.t 11) (.t 11)),qM 5 12] (.seq .skip (.seq (.block 0 (.loop [1,4,5] [2,3,4] Zve)) (oR [qM 57 4,qM 2 57,qtt 3])))))
def Zyw:FnI:=⟨1,ZBX,[(2,none),(3,none)]⟩
def ZBC:C:=oS [qff 2] (oR [qM 3 0,qK 4 .lss 3 1,qM 5 4,vM 6 0 5 false,vK 7 .gtr 6 1000 5 false,qJ 8 5 7,qM 2 8])
def Zyk:FnI:=⟨1,ZBC,[(2,none)]⟩
def ZBA:C:=oS [qff 3] (oR [qM 4 0,qN 5 4,qL 6 1,qB 7 .neq 5 6,qM 3 7])
def Zzo:FnI:=⟨2,ZBA,[(3,none)]⟩
def ZBo:C:=oS [qff 4] (oR [qM 5 0,qM 6 1,qD 7 108 5 6,qK 8 .geq 7 0,qM 4 8])
def ZAb:FnI:=⟨2,ZBo,[(4,none)]⟩
def Zx6:C:=oS [qB 20 .lss 19 18] (.seq (cX 20 0) (.seq (.block 1 (oS [qM 21 19,qM 4 21] (.ops [qM 22 3,qZ 23 22,qF 24 3 23,qL 25 24,qM 26 4,qI 27 1 25 26,qR 1 27 (-1)]))) (.ops [qK 28 .add 19 1,qM 19 28])))
def ZBl:C:=oS [oB 2 (.mov (.c (.d (.nilp))))] (.seq (.draw [qM 5 0,uM 6 0 [0],uN 7 6 [0],oM 8 (.mkslice 1 [zD] (.t 7) (.t 7)) [0],uM 9 0 [0,1,2,3],uN 10 9 [0,1,2,3],oM 11 (.mkslice 2 [zD,zD] (.t 10) (.t 10)) [0,1,2,3],uM 12 0 [0,1,2,3,4,5,6],uN 13 12 [0,1,2,3,4,5,6],oM 14 (.mkslice 1 [zD] (.t 13) (.t 13)) [0,1,2,3,4,5,6],oB 15 (.build [(.nilsl 1),(.nilsl 1),(.nilsl 2),(.nilsl 1)] [(0,1,(.t 5)),(1,1,(.t 8)),(2,1,(.t 11)),(3,1,(.t 14))]),qO 16 15,qM 3 16]) (.seq (oS [qM 17 0,qN 18 17,qW 19 0] (.block 0 (.loop [3,18,19] [3] Zx6))) (oR [qM 29 3,qM 2 29])))
def Zza:FnI:=⟨1,ZBl,[(2,none)]⟩
def ZA5:C:=oS [qO 6 1,qW 10 0] (oS [qM 12 2,qM 13 4,qI 14 1 12 13,qL 15 14,qM 11 15] (.seq (.block 0 (oS [qM 17 11,qK 18 .lss 17 (-1),qM 19 18,vM 20 11 19 false,vM 21 0 19 false,vZ 22 21 19 false,vF 23 0 22 19 false,vL 24 23 19 false,vN 25 24 19 false,vB 26 .geq 20 25 19 false,qJ 27 19 26,qM 16 27] (cY 16 (oR [qW 10 101]) (oS [qM 29 2,qM 30 4,oB 31 (.slice 1 (.t 29) none (some (.t 30)) none),qM 32 11,qD 33 55 31 32,qM 28 33] (cY 28 (oR [qW 10 102]) (.seq (.draw [qM 35 0,qZ 36 35,qF 37 1 36,qL 38 37,uM 39 11 [0,1,2,3],qI 40 1 38 39,qL 41 40,uM 42 0 [0,1,2,3,4,5,6],uZ 43 42 [0,1,2,3,4,5,6],uF 44 0 43 [0,1,2,3,4,5,6],uL 45 44 [0,1,2,3,4,5,6],uM 46 11 [0,1,2,3,4,5,6,7,8,9,10],uI 47 1 45 46 [0,1,2,3,4,5,6],uL 48 47 [0,1,2,3,4,5,6],qB 49 .geq 41 48,qM 34 49]) (cY 34 (oR [qW 10 105]) (oS [qM 51 0,qZ 52 51,qF 53 1 52,qL 54 53,qM 55 11,qI 56 1 54 55,qL 57 56,qK 58 .gtr 57 0,qM 59 58,vM 60 0 59 true,vZ 61 60 59 true,vF 62 2 61 59 true,vL 63 62 59 true,vM 64 11 59 true,vI 65 2 63 64 59 true,vA 66 2 65 59 true,vM 67 3 59 true,vK 68 .sub 67 1 59 true,vM 69 4 59 true,oG 70 (.build [zI,zI] [(0,1,(.t 68)),(1,1,(.t 69))]) 59 true,oG 71 (.eqv [false,false] true (.t 66) (.t 70)) 59 true,qP 72 59 71,qM 50 72] (cY 50 (oR [qW 10 104]) (oS [qM 74 0,qZ 75 74,qF 76 1 75,qL 77 76,qM 78 11,qI 79 1 77 78,qL 80 79,qK 81 .eql 80 0,qM 82 81,vM 83 0 82 true,vA 84 2 6 82 true,vM 85 11 82 true,vM 86 3 82 true,oG 87 (.call 56 [.t 83,.t 84,.t 85,.t 86]) 82 true,vU 88 87 82 true,qP 89 82 88,qM 73 89] (oC 73 [qW 10 103]))))))))))) (oR [qW 10 0])))
def ZAc:FnI:=⟨5,ZA5,[(10,none)]⟩
def ZBT:C:=oS [qM 8 0,qZ 9 8,qF 10 1 9,qL 11 10,qM 12 1,qI 13 1 11 12,qL 14 13,qK 15 .add 14 1,qI 16 1 11 12,qS 1 16 15] (oS [qM 17 0,qZ 18 17,qF 19 2 18,qL 20 19,qM 21 1,qM 22 2,qM 23 3,oB 24 (.build [zI,zI] [(0,1,(.t 22)),(1,1,(.t 23))]),qI 25 2 20 21,qS 2 25 24] (.seq (.draw [qM 26 0,qZ 27 26,qF 28 1 27,qL 29 28,uM 30 1 [0,1,2,3],qI 31 1 29 30,qL 32 31,uM 33 0 [0,1,2,3,4,5,6],uZ 34 33 [0,1,2,3,4,5,6],uF 35 0 34 [0,1,2,3,4,5,6],uL 36 35 [0,1,2,3,4,5,6],uM 37 1 [0,1,2,3,4,5,6,7,8,9,10],uI 38 1 36 37 [0,1,2,3,4,5,6],uL 39 38 [0,1,2,3,4,5,6],qB 40 .eql 32 39]) (cY 40 (.ops [qM 41 0,qZ 42 41,qF 43 3 42,qL 44 43,qM 45 1,qM 46 2,qK 47 .add 46 1,qI 48 1 44 45,qS 1 48 47]) .skip)))
def Zz8:FnI:=⟨4,ZBT,[]⟩
def ZtV:C:=oS [qB 9 .lss 8 7] (.seq (cX 9 0) (.seq (.block 1 (oS [qM 10 8,qM 5 10] (oS [qM 11 1,qM 12 0,qM 13 5,qI 14 1 12 13,qL 15 14,qB 16 .eql 11 15] (oC 16 [qM 17 5,qM 4 17])))) (.ops [qK 18 .add 8 1,qM 8 18])))
def ZBj:C:=oS [qW 4 0] (.seq (oS [qM 6 0,qN 7 6,qW 8 0] (.block 0 (.loop [0,1,7,8] [4] ZtV))) (oR [qW 4 (-1)]))
def Zym:FnI:=⟨2,ZBj,[(4,none)]⟩
def ZBF:C:=oS [qff 4] (oR [qM 5 0,qM 6 1,qD 7 109 5 6,qK 8 .geq 7 0,qM 4 8])
def Zyb:FnI:=⟨2,ZBF,[(4,none)]⟩
def ZBx:C:=oS [qO 4 0,qff 5] (oR [qF 6 1 4,qL 7 6,qL 8 1,qB 9 .eql 7 8,qM 10 9,vL 11 2 10 true,vF 12 0 4 10 true,vL 13 12 10 true,vL 14 3 10 true,vG 15 91 11 13 14 10 true,vU 16 15 10 true,qP 17 10 16,qM 5 17])
def ZAm:FnI:=⟨4,ZBx,[(5,none)]⟩
def ZBN:C:=oS [qff 6] (oR [qM 7 0,qZ 8 7,qF 9 3 8,qL 10 9,qM 11 1,qI 12 1 10 11,qL 13 12,qK 14 .geq 13 0,qM 15 14,vM 16 0 15 true,vZ 17 16 15 true,vF 18 3 17 15 true,vL 19 18 15 true,vM 20 1 15 true,vI 21 1 19 20 15 true,vL 22 21 15 true,vM 23 2 15 true,vB 24 .leq 22 23 15 true,qP 25 15 24,qM 6 25])
def ZzP:FnI:=⟨3,ZBN,[(6,none)]⟩
def Zvb:C:=oS [qB 14 .lss 13 12] (.seq (cX 14 0) (.seq (.block 1 (oS [qI 15 2 11 13,qA 16 2 15,oB 7 (.alloc (.d (.agg [zD,zD]))),qS 2 7 16] (oS [qM 18 1,qA 19 2 7,qV 20 18 19,qM 17 20,qE 21 17 0,qE 22 17 1,qM 8 21,qM 9 22] (oS [qM 23 9] (cY 23 (.ops [qM 24 5,qM 25 8,qH 26 25,qY 27 24 26,qM 5 27]) .skip))))) (.ops [qK 28 .add 13 1,qM 13 28])))
def ZA4:C:=oS [qO 2 0,Zct 4 1] (oS [Zct 5 1] (.seq (oS [qF 10 1 2,qL 11 10,qN 12 11,qW 13 0] (.block 0 (.loop [1,5,11,12,13] [5] Zvb))) (oS [qM 29 5,qC 30 110 29] (oR [qM 31 5,qM 4 31]))))
def ZxE:FnI:=⟨2,ZA4,[(4,none)]⟩
def ZBh:C:=oS [qff 2] (oR [qM 3 0,qK 4 .lss 3 1,qM 5 4,vM 6 0 5 false,vK 7 .gtr 6 1000 5 false,qJ 8 5 7,qM 2 8])
def ZAk:FnI:=⟨1,ZBh,[(2,none)]⟩
def ZA9:C:=oS [qO 2 0,qO 3 1,qff 4] (oR [qF 5 0 2,qL 6 5,qF 7 0 3,qL 8 7,qD 9 60 6 8,qM 10 9,vF 11 1 2 10 true,vL 12 11 10 true,vF 13 1 3 10 true,vL 14 13 10 true,vD 15 60 12 14 10 true,qP 16 10 15,qM 4 16])
def Zz5:FnI:=⟨2,ZA9,[(4,none)]⟩
def ZxI:C:=oS [qB 18 .lss 17 16] (.seq (cX 18 0) (.seq (.block 1 (oS [qM 19 17,qI 20 3 15 17,qA 21 3 20,oB 8 (.alloc (.agg Lz2)),qM 7 19,qS 3 8 21] (oS [qM 22 1,qM 23 7,qI 24 3 22 23,qA 25 3 24,oB 9 (.alloc (.agg Lz2)),qS 3 9 25] (oS [qM 26 2,qA 27 3 8,qA 28 3 9,oB 29 (.callv (.t 26) [.t 27,.t 28]),qU 30 29] (oC 30 [qff 6]))))) (.ops [qK 31 .add 17 1,qM 17 31])))
def ZBm:C:=oS [qff 6] (.seq (oS [qM 10 0,qN 11 10,qM 12 1,qN 13 12,qB 14 .neq 11 13] (oC 14 [qff 6])) (.seq (oS [qM 15 0,qN 16 15,qW 17 0] (.block 0 (.loop [1,2,15,16,17] [6] ZxI))) (oR [qtt 6])))
def Zzv:FnI:=⟨3,ZBm,[(6,none)]⟩
def ZBS:C:=oS [qO 2 0,qO 3 1,qff 4] (oR [qF 5 0 2,qL 6 5,qF 7 0 3,qL 8 7,qD 9 60 6 8,qM 10 9,vF 11 1 2 10 true,vL 12 11 10 true,vF 13 1 3 10 true,vL 14 13 10 true,vB 15 .eql 12 14 10 true,qP 16 10 15,qM 17 16,vF 18 2 2 17 true,vL 19 18 17 true,vF 20 2 3 17 true,vL 21 20 17 true,vB 22 .eql 19 21 17 true,qP 23 17 22,qM 4 23])
def ZzZ:FnI:=⟨2,ZBS,[(4,none)]⟩
def ZxJ:C:=oS [qB 14 .lss 13 12] (.seq (cX 14 0) (.seq (.block 1 (oS [qM 15 13,qM 5 15] (.seq (.draw [qM 16 0,uM 17 5 [0],qI 18 6 16 17,qA 19 6 18,uM 20 1 [0,1,2,3],uM 21 5 [0,1,2,3,4],uI 22 6 20 21 [0,1,2,3],uA 23 6 22 [0,1,2,3],oB 24 (.eqv [true,false,false,false,false,false] true (.t 19) (.t 23))]) (oC 24 [qff 4])))) (.ops [qK 25 .add 13 1,qM 13 25])))
def ZAW:C:=oS [qff 4] (.seq (oS [qM 6 0,qN 7 6,qM 8 1,qN 9 8,qB 10 .neq 7 9] (oC 10 [qff 4])) (.seq (oS [qM 11 0,qN 12 11,qW 13 0] (.block 0 (.loop [0,1,12,13] [4] ZxJ))) (oR [qtt 4])))
def ZAy:FnI:=⟨2,ZAW,[(4,none)]⟩
def Zml:C:=oS [qB 9 .lss 8 7] (.seq (cX 9 0) (.seq (.block 1 (oS [qM 10 8,qM 5 10] (oS [qM 11 1,qM 12 0,qM 13 5,qI 14 1 12 13,qL 15 14,qV 16 11 15] (oC 16 [qM 17 5,qM 4 17])))) (.ops [qK 18 .add 8 1,qM 8 18])))
def ZBc:C:=oS [qW 4 0] (.seq (oS [qM 6 0,qN 7 6,qW 8 0] (.block 0 (.loop [0,1,7,8] [4] Zml))) (oR [qW 4 (-1)]))
def ZsQ:FnI:=⟨2,ZBc,[(4,none)]⟩
def Zsg:C:=oS [qB 9 .lss 8 7] (.seq (cX 9 0) (.seq (.block 1 (oS [qM 10 8,qM 5 10] (.seq (.draw [qA 11 2 3,uM 12 0 [0],uM 13 5 [0,1],uI 14 2 12 13 [0],uA 15 2 14 [0],oB 16 (.eqv [false,false] false (.t 11) (.t 15))]) (oC 16 [qM 17 5,qM 4 17])))) (.ops [qK 18 .add 8 1,qM 8 18])))
def Zy1:C:=oS [qO 3 1,qW 4 0] (.seq (oS [qM 6 0,qN 7 6,qW 8 0] (.block 0 (.loop [0,3,7,8] [4] Zsg))) (oR [qW 4 (-1)]))
def ZvE:FnI:=⟨2,Zy1,[(4,none)]⟩
def ZwH:C:=oS [qB 9 .lss 8 7] (.seq (cX 9 0) (.seq (.block 1 (oS [qM 10 8,qM 5 10] (oS [qM 11 1,qM 12 0,qM 13 5,qI 14 1 12 13,qL 15 14,qV 16 11 15] (oC 16 [qM 17 5,qM 4 17])))) (.ops [qK 18 .add 8 1,qM 8 18])))
def Zzd:C:=oS [qW 4 0] (.seq (oS [qM 6 0,qN 7 6,qW 8 0] (.block 0 (.loop [0,1,7,8] [4] ZwH))) (oR [qW 4 (-1)]))
def Zxk:FnI:=⟨2,Zzd,[(4,none)]⟩
def Zr0:C:=oS [qB 9 .lss 8 7] (.seq (cX 9 0) (.seq (.block 1 (oS [qM 10 8,qM 5 10] (oS [qM 11 1,qM 12 0,qM 13 5,qI 14 2 12 13,qA 15 2 14,qV 16 11 15] (oC 16 [qM 17 5,qM 4 17])))) (.ops [qK 18 .add 8 1,qM 8 18])))
def Zzx:C:=oS [qW 4 0] (.seq (oS [qM 6 0,qN 7 6,qW 8 0] (.block 0 (.loop [0,1,7,8] [4] Zr0))) (oR [qW 4 (-1)]))
def ZuM:FnI:=⟨2,Zzx,[(4,none)]⟩
def ZAC:C:=oR [⟨none,.sortI (.t 0),none,[],0⟩]
def Zxj:FnI:=⟨1,ZAC,[]⟩
def Zzq:C:=oS [qO 4 0,qO 5 1,oB 8 (.alloc (.agg Lz0)),qW 9 0] (oR [qA 10 2 5,qM 11 2,qM 12 3,qG 13 163 10 11 12,qE 14 13 0,qE 15 13 1,qS 5 8 14,qM 9 15])
def Zxz:FnI:=⟨4,Zzq,[(8,some (5,true)),(9,none)]⟩
def ZAL:C:=oS [qO 3 0,qO 4 1,qO 5 2,qW 6 0] (oR [qA 7 2 4,qA 8 5 5,qD 9 164 7 8,qM 6 9])
def Zvt:FnI:=⟨3,ZAL,[(6,none)]⟩
def Zzz:C:=oS [qO 4 0,qO 5 1,qO 6 2,oB 8 (.alloc (.agg Lz0)),qW 9 0,qW 10 0] (oR [qA 11 2 5,qA 12 5 6,qM 13 3,qG 14 165 11 12 13,qE 15 14 0,qE 16 14 1,qE 17 14 2,qS 5 8 15,qM 9 16,qM 10 17])
def Zt5:FnI:=⟨4,Zzz,[(8,some (5,true)),(9,none),(10,none)]⟩
def ZzS:C:=oS [qO 3 0,qO 4 1,qO 5 2,oB 6 (.alloc (.agg Lz0)),Zct 7 1,qW 8 0] (oR [qA 9 2 4,qA 10 5 5,qD 11 166 9 10,qE 12 11 0,qE 13 11 1,qE 14 11 2,qS 5 6 12,qM 7 13,qM 8 14])
def ZvR:FnI:=⟨3,ZzS,[(6,some (5,true)),(7,none),(8,none)]⟩
def ZwY:C:=oS [qB 37 .lss 36 35] (.seq (cX 37 0) (.seq (.block 1 (oS [oB 39 (.call 168 [(iN 64)]),qM 38 39,qE 40 38 0,qE 41 38 1,oB 11 (.alloc (.agg Lz2)),qS 3 11 40,qM 12 41] (.draw [qM 42 10,uM 43 10 [0],uZ 44 43 [0],uF 45 0 44 [0],uF 46 2 45 [0],uL 47 46 [0],uA 48 3 11 [0,1,2,3,4,5],oM 49 (.bslice 3 [.list true [],zD,zD] 1 [(0,(.t 48))]) [0,1,2,3,4,5],⟨some 50,.append 3 (.t 47) (.t 49),none,[],4⟩,qZ 51 42,qF 52 0 51,qF 53 2 52,qX 1 53 50 4]))) (.ops [qK 54 .add 36 1,qM 36 54])))
def ZwC:C:=oS [qB 60 .lss 59 58] (.seq (cX 60 2) (.seq (.block 3 (oS [qI 61 1 57 59,qL 62 61,qM 14 62] (.ops [qM 63 10,qM 64 14,qM 65 2,qB 66 .rem 64 65,qM 67 14,qG 68 170 63 66 67]))) (.ops [qK 69 .add 59 1,qM 59 69])))
def ZAS:C:=oS [qO 3 0,oB 6 (.alloc (.agg Lz0)),qW 7 0] (oS [qA 16 2 3,qM 17 1,qM 18 2,qG 19 167 16 17 18,qM 15 19,qE 20 15 0,qE 21 15 1,oB 8 (.alloc (.agg Lz3)),qS 2 8 20,qM 9 21] (.seq (oS [qM 22 9,qK 23 .neq 22 0] (oC 23 [oB 24 (.build Lz0 []),qM 25 9,qS 5 6 24,qM 7 25])) (.seq (.draw [qA 26 2 8,uM 27 2 [0],oM 28 (.mkslice 6 [.bool false,zD,zD,zD,zD,zD] (.t 27) (.t 27)) [0],uM 29 2 [0,1,2],oM 30 (.mkslice 1 [zD] (.t 29) (.t 29)) [0,1,2],oB 31 (.build Lz0 [(0,2,(.t 26)),(3,1,(.t 28)),(4,1,(.t 30))]),uA 32 2 3 [0,1,2,3,4,5],oB 33 (.build Lz7 [(0,5,(.t 31)),(5,2,(.t 32))]),qO 34 33,qM 10 34]) (.seq (oS [qM 35 2,qW 36 0] (.block 0 (.loop [2,3,6,8,10,35,36] [2,3,6,8,10] ZwY))) (.seq (oS [qA 55 2 3,qA 56 2 8,qD 57 169 55 56,qN 58 57,qW 59 0] (.block 2 (.loop [2,6,10,57,58,59] [6,10] ZwC))) (oR [qM 70 10,qZ 71 70,qF 72 0 71,qA 73 5 72,qS 5 6 73,qW 7 0]))))))
def Zxy:FnI:=⟨3,ZAS,[(6,some (5,true)),(7,none)]⟩
def ZAl:C:=oS [qO 2 0,qO 3 1,qW 4 0] (oS [qA 6 2 2,qF 7 0 3,qA 8 2 7,qD 9 171 6 8,qM 5 9] (.seq (oS [qM 10 5,qK 11 .eql 10 0,qM 12 11,vA 13 5 3 12 true,vC 14 172 13 12 true,vU 15 14 12 true,qP 16 12 15] (cY 16 (.ops [qW 5 130]) .skip)) (oR [qM 17 5,qM 4 17])))
def Zv5:FnI:=⟨2,ZAl,[(4,none)]⟩
def ZAs:C:=oS [qO 3 0,qO 4 1,oB 6 (.alloc (.agg Lz0)),qW 7 0,qW 8 0] (.seq (oS [qA 13 2 3,qA 14 5 4,qD 15 164 13 14,qM 9 15] (oS [qM 16 9,qK 17 .neq 16 0] (oC 17 [oB 18 (.build Lz0 []),qM 19 9,qS 5 6 18,qW 7 0,qM 8 19]))) (.seq (.draw [qA 20 5 4,qC 21 173 20,uA 22 2 3 [0,1],oB 23 (.build Lz7 [(0,5,(.t 21)),(5,2,(.t 22))]),qO 24 23,qM 10 24]) (oS [qM 26 10,qM 27 2,qD 28 174 26 27,qM 25 28,qE 29 25 0,qE 30 25 1,qM 11 29,qM 12 30] (.seq (oS [qM 31 12,qK 32 .neq 31 0] (oC 32 [oB 33 (.build Lz0 []),qM 34 12,qS 5 6 33,qW 7 0,qM 8 34])) (oR [qM 35 10,qZ 36 35,qF 37 0 36,qA 38 5 37,qM 39 11,qS 5 6 38,qM 7 39,qW 8 0])))))
def Zuh:FnI:=⟨3,ZAs,[(6,some (5,true)),(7,none),(8,none)]⟩
def ZAr:C:=oS [qO 2 0,qO 3 1,oB 4 (.alloc (.agg Lz0)),Zct 5 1,qW 6 0] (.seq (oS [qA 11 2 2,qA 12 5 3,qD 13 164 11 12,qM 7 13] (oS [qM 14 7,qK 15 .neq 14 0] (oC 15 [oB 16 (.build Lz0 []),qM 17 7,qS 5 4 16,Zct 5 1,qM 6 17]))) (.seq (.draw [qA 18 5 3,qC 19 173 18,uA 20 2 2 [0,1],oB 21 (.build Lz7 [(0,5,(.t 19)),(5,2,(.t 20))]),qO 22 21,qM 8 22]) (oS [qM 24 8,qC 25 175 24,qM 23 25,qE 26 23 0,qE 27 23 1,qM 9 26,qM 10 27] (.seq (oS [qM 28 10,qK 29 .neq 28 0] (oC 29 [oB 30 (.build Lz0 []),qM 31 10,qS 5 4 30,Zct 5 1,qM 6 31])) (oR [qM 32 8,qZ 33 32,qF 34 0 33,qA 35 5 34,qM 36 9,qS 5 4 35,qM 5 36,qW 6 0])))))
def Zup:FnI:=⟨2,ZAr,[(4,some (5,true)),(5,none),(6,none)]⟩
def ZwF:C:=oS [qB 23 .lss 22 21] (.seq (cX 23 0) (.seq (.block 1 (.ops [qF 24 0 9,qL 25 24,oB 26 (.bslice 1 [zD] 1 [(0,(iN (-1)))]),qY 27 25 26,qF 28 0 9,qS 1 28 27])) (.ops [qK 29 .add 22 1,qM 22 29])))
def Zzp:C:=oS [qO 3 0,oB 6 (.alloc (.agg Lz3)),qW 7 0] (.seq (oS [qA 10 2 3,qM 11 1,qM 12 2,oB 13 (.call 28 [.t 10,.t 11,.t 12,(.c (.nilsl 1))]),qM 8 13] (oS [qM 14 8,qK 15 .neq 14 0] (oC 15 [oB 16 (.build Lz3 []),qM 17 8,qS 2 6 16,qM 7 17]))) (oS [qM 18 1,qC 19 45 18,oB 20 (.build Lz3 [(1,1,(.t 19))]),oB 9 (.alloc (.agg Lz3)),qS 2 9 20] (.seq (oS [qM 21 2,qW 22 0] (.block 0 (.loop [6,9,21,22] [6,9] ZwF))) (oR [qA 30 2 9,qS 2 6 30,qW 7 0]))))
def Zxd:FnI:=⟨3,Zzp,[(6,some (2,true)),(7,none)]⟩
def ZAE:C:=oS [oB 2 (.alloc (.agg Lz2)),qW 3 0] (.seq (oS [qM 7 0,qC 8 176 7,qM 6 8,qE 9 6 0,qE 10 6 1,qM 4 9,qM 5 10] (oS [qM 11 5,qU 12 11,qM 13 12,vM 14 0 13 false,vK 15 .gtr 14 64 13 false,qJ 16 13 15] (oC 16 [oB 17 (.build Lz2 []),qS 3 2 17,qW 3 120]))) (oR [qM 18 0,oB 19 (.mkslice 1 [zD] (.t 18) (.t 18)),oB 20 (.build Lz2 [(0,1,(.t 19))]),qS 3 2 20,qW 3 0]))
def Zxx:FnI:=⟨1,ZAE,[(2,some (3,true)),(3,none)]⟩
def Zzb:C:=oS [qO 2 0,qO 3 1,Zct 4 1] (.seq (oS [qA 5 2 2,qA 6 2 3,qD 7 171 5 6,qK 8 .neq 7 0] (oC 8 [Zct 4 1])) (oR [qA 9 2 2,qA 10 2 3,qD 11 177 9 10,qM 4 11]))
def ZuV:FnI:=⟨2,Zzb,[(4,none)]⟩
def ZAi:C:=oS [qff 6] (oS [qM 10 0,qZ 11 10,qF 12 0 11,qF 13 2 12,qL 14 13,qM 15 1,qI 16 3 14 15,qA 17 3 16,qM 18 2,qD 19 178 17 18,qM 9 19,qE 20 9 0,qE 21 9 1,oB 7 (.alloc (.agg Lz2)),qS 3 7 20,qM 8 21] (.seq (oS [qM 22 8,qK 23 .eql 22 0] (cY 23 (.draw [qM 24 0,qZ 25 24,qF 26 0 25,qF 27 2 26,qL 28 27,uM 29 1 [0,1,2,3,4],uA 30 3 7 [0,1,2,3,4,5],qI 31 3 28 29,qX 3 31 30 4]) .skip)) (oR [qM 32 8,qK 33 .eql 32 0,qM 6 33])))
def ZuB:FnI:=⟨3,ZAi,[(6,none)]⟩
def ZAF:C:=oS [qO 2 0,qO 3 1,qW 4 0] (oS [qA 6 2 2,qC 7 39 6,qM 5 7] (.seq (oS [qM 8 5,qK 9 .eql 8 0,qM 10 9,vA 11 2 2 10 true,vA 12 2 3 10 true,vD 13 179 11 12 10 true,vU 14 13 10 true,qP 15 10 14] (cY 15 (.ops [qW 5 110]) .skip)) (oR [qM 16 5,qM 4 16])))
def Zuu:FnI:=⟨2,ZAF,[(4,none)]⟩
def Zsl:C:=oS [qB 35 .lss 34 33] (.seq (cX 35 0) (.seq (.block 1 (oS [qM 36 34,qI 37 3 32 34,qA 38 3 37,oB 5 (.alloc (.agg Lz2)),qM 4 36,qS 3 5 38] (.seq (.draw [qF 39 3 1,qL 40 39,uM 41 4 [0,1],qI 42 6 40 41,qA 43 6 42,uF 44 4 1 [0,1,2,3,4],⟨some 45,.load 1 false (.t 44),none,[0,1,2,3,4],1⟩,uM 46 4 [0,1,2,3,4,5,6],uI 47 1 45 46 [0,1,2,3,4],⟨some 48,.load 1 false (.t 47),none,[0,1,2,3,4],1⟩,oM 6 (.alloc (.d (.agg [.bool false,zD,zD,zD,zD,zD]))) [0,1,2,3,4,5,6,7,8,9],⟨none,.storek 6 (.t 6) (.t 43) [.t 44,.t 47],none,[],3⟩,qM 7 48]) (.seq (oS [qA 49 3 5,qC 50 180 49,qK 51 .neq 50 0,qM 52 51,vF 53 0 5 52 false,vL 54 53 52 false,vN 55 54 52 false,vK 56 .neq 55 64 52 false,qJ 57 52 56,qM 58 57,vF 59 5 6 58 false,vL 60 59 58 false,vK 61 .neq 60 0 58 false,qJ 62 58 61,qM 63 62,vM 64 7 63 false,vK 65 .lss 64 0 63 false,qJ 66 63 65,qM 67 66,vM 68 7 67 false,vM 69 3 67 false,vB 70 .geq 68 69 67 false,qJ 71 67 70,qM 72 71,vF 73 0 6 72 false,vL 74 73 72 false,vM 75 7 72 false,vK 76 .neq 75 0 72 false,oG 77 (.eqv [true] true (.t 74) (.t 76)) 72 false,qJ 78 72 77] (oC 78 [qff 2])) (oS [qF 79 0 1,qF 80 0 79,qL 81 80,qM 82 4,qI 83 1 81 82,qL 84 83,qK 85 .neq 84 (-1),qM 86 85,vA 87 6 6 86 true,oG 88 (.build Lz5 []) 86 true,oG 89 (.eqv [true,false,false,false,false,false] true (.t 87) (.t 88)) 86 true,vM 90 89 86 true,vM 91 7 90 false,vK 92 .neq 91 0 90 false,vJ 93 90 92 86 true,qP 94 86 93] (oC 94 [qff 2])))))) (.ops [qK 95 .add 34 1,qM 34 95])))
def Zy7:C:=oS [qO 1 0,qff 2] (oS [qF 8 0 1,qF 9 0 8,qL 10 9,qN 11 10,qM 3 11] (.seq (oS [qF 12 2 1,qL 13 12,qN 14 13,qM 15 3,qB 16 .neq 14 15,qM 17 16,vF 18 3 1 17 false,vL 19 18 17 false,vN 20 19 17 false,vM 21 3 17 false,vB 22 .neq 20 21 17 false,qJ 23 17 22,qM 24 23,vF 25 4 1 24 false,vL 26 25 24 false,vN 27 26 24 false,vM 28 3 24 false,vB 29 .neq 27 28 24 false,qJ 30 24 29] (oC 30 [qff 2])) (.seq (oS [qF 31 2 1,qL 32 31,qN 33 32,qW 34 0] (.block 0 (.loop [1,3,32,33,34] [2] Zsl))) (oR [qtt 2]))))
def Zuz:FnI:=⟨1,Zy7,[(2,none)]⟩
def Zr3:C:=oS [qB 32 .lss 31 30] (.seq (cX 32 0) (.seq (.block 1 (oS [qM 33 31,qM 3 33] (.draw [qF 34 2 1,qL 35 34,uM 36 3 [0,1],uF 37 2 1 [0,1,2],uL 38 37 [0,1,2],uM 39 3 [0,1,2,3,4],uI 40 3 38 39 [0,1,2],uF 41 0 40 [0,1,2],uL 42 41 [0,1,2],uC 43 45 42 [0,1,2],qI 44 3 35 36,qF 45 0 44,qX 1 45 43 4]))) (.ops [qK 46 .add 31 1,qM 31 46])))
def ZzL:C:=oS [qO 1 0,oB 2 (.alloc (.agg Lz0))] (.seq (.draw [qF 4 0 1,qF 5 0 4,qL 6 5,qC 7 45 6,uF 8 0 1 [0,1,2,3],uF 9 1 8 [0,1,2,3],uL 10 9 [0,1,2,3],qC 11 45 10,uF 12 0 1 [7],uF 13 0 12 [7],qX 1 13 7 4,qF 14 0 1,qF 15 1 14,qX 1 15 11 4]) (.seq (.draw [qF 16 3 1,qL 17 16,qC 18 181 17,uF 19 4 1 [0,1,2],uL 20 19 [0,1,2],qC 21 45 20,uF 22 3 1 [5],qX 1 22 18 4,qF 23 4 1,qX 1 23 21 4]) (oS [qF 24 2 1,qL 25 24,qC 26 182 25,qF 27 2 1,qS 1 27 26] (.seq (oS [qF 28 2 1,qL 29 28,qN 30 29,qW 31 0] (.block 0 (.loop [1,2,30,31] [1,2] Zr3))) (oR [qA 47 5 1,qS 5 2 47])))))
def ZvN:FnI:=⟨1,ZzL,[(2,some (5,true))]⟩
def ZrX:C:=.seq (oS [qM 15 7,qN 16 15,qK 17 .gtr 16 0] (cX 17 0)) (.seq (.block 1 (oS [qM 20 0,qM 21 7,qM 22 1,qM 23 6,oB 24 (.call 184 [.t 20,.t 21,.t 22,.t 23]),qM 8 24] (.seq (oS [qM 25 0,qM 26 8,qD 27 185 25 26,qM 9 27] (oS [qM 28 9,qK 29 .neq 28 0] (oC 29 [qM 30 9,qW 4 0,qM 5 30]))) (oS [qM 31 0,qM 32 8,qZ 33 31,qF 34 7 33,qS 1 34 32] (.ops [qM 35 6,qK 36 .add 35 1,qM 6 36]))))) (.ops [qM 18 0,qC 19 183 18,qM 7 19]))
def ZzJ:C:=oS [qW 4 0,qW 5 0] (oS [qW 6 0] (oS [qM 10 0,qZ 11 10,qF 12 7 11,qR 1 12 (-1)] (.seq (oS [qM 13 0,qC 14 183 13,qM 7 14] (.block 0 (.loop [0,1,6,7] [4,5,6] ZrX))) (oR [qM 37 6,qM 4 37,qW 5 0]))))
def Zvs:FnI:=⟨2,ZzJ,[(4,none),(5,none)]⟩
def Zsr:C:=oS [qB 81 .lss 80 79] (.seq (cX 81 2) (.seq (.block 3 (oS [qI 82 1 78 80,qL 83 82,qM 14 83] (.seq (oS [qM 84 8,qM 85 14,qD 86 55 84 85,qU 87 86,qM 88 87,vM 89 10 88 false,vM 90 14 88 false,vD 91 55 89 90 88 false,qJ 92 88 91] (cY 92 (.exit 3) .skip)) (.seq (oS [qM 93 9,qM 94 11,qM 95 14,oB 96 (.callv (.t 93) [.t 94,.t 95]),qU 97 96] (oC 97 [Zct 2 1,qW 3 130])) (.ops [qM 98 10,qM 99 14,qH 100 99,qY 101 98 100,qM 10 101]))))) (.ops [qK 102 .add 80 1,qM 80 102])))
def Zsp:C:=oS [qB 55 .lss 54 53] (.seq (cX 55 0) (.seq (.block 1 (oS [qM 56 54,qI 57 1 52 54,qL 58 57,qM 11 56,qM 12 58] (.seq (oS [qM 59 12,qK 60 .eql 59 (-1),qM 61 60,vM 62 0 61 false,vZ 63 62 61 false,vF 64 0 63 61 false,vF 65 0 64 61 false,vF 66 0 65 61 false,vL 67 66 61 false,vM 68 11 61 false,vI 69 1 67 68 61 false,vL 70 69 61 false,vK 71 .neq 70 (-1) 61 false,qJ 72 61 71] (cY 72 (.exit 1) .skip)) (oS [qM 73 0,qZ 74 73,qF 75 5 74,qA 76 2 75,qM 77 12,qD 78 187 76 77,qN 79 78,qW 80 0] (.block 2 (.loop [0,6,8,9,10,11,52,53,54,78,79,80] [0,2,3,6,8,9,10,52,53,54] Zsr)))))) (.ops [qK 103 .add 54 1,qM 54 103])))
def Zy2:C:=oS [Zct 2 1,qW 3 0] (oS [qM 15 0,qZ 16 15,qF 17 0 16,qF 18 0 17,qF 19 0 18,qL 20 19,qC 21 45 20,qM 4 21] (.seq (.draw [qM 23 0,qZ 24 23,qF 25 5 24,qA 26 2 25,uM 27 0 [0,1,2,3],uZ 28 27 [0,1,2,3],uF 29 0 28 [0,1,2,3],uF 30 0 29 [0,1,2,3],uA 31 2 30 [0,1,2,3],qD 32 186 26 31,qM 22 32,qE 33 22 0,uE 34 22 1 [11],uE 35 22 2 [11,12],oM 5 (.alloc (.agg Lz3)) [0,1,2,3,4,5,6,7,8,9,10,11,12,13],qX 2 5 33 4,uM 6 34 [13],qM 7 35]) (.seq (oS [qM 36 7,qK 37 .neq 36 0] (oC 37 [qM 38 7,Zct 2 1,qM 3 38])) (oS [qM 39 0,qA 40 2 5,qZ 41 39,qF 42 0 41,qF 43 0 42,qS 2 43 40] (.seq (.draw [qM 44 0,qZ 45 44,qF 46 5 45,qA 47 2 46,uA 48 2 5 [0,1,2,3],qD 49 169 47 48,qM 8 49]) (oS [qM 50 0,oB 51 (.mkfn 1000170 [.t 50]),qM 9 51] (oS [Zct 10 1] (.seq (oS [qM 52 4,qN 53 52,qW 54 0] (.block 0 (.loop [0,6,8,9,10,52,53,54] [2,3,6] Zsp))) (oR [qM 104 6,qM 2 104,qW 3 0])))))))))
def ZvB:FnI:=⟨1,Zy2,[(2,none),(3,none)]⟩
def ZAq:C:=oS [qW 2 0,qff 3] (.seq (oS [qM 4 0,qC 5 188 4,qK 6 .neq 5 0,qM 7 6,vM 8 0 7 false,oG 9 (.conv .u64 (.t 8)) 7 false,vC 10 189 9 7 false,vK 11 .neq 10 1 7 false,qJ 12 7 11] (oC 12 [qW 2 0,qff 3])) (oR [qM 13 0,oB 14 (.conv .u64 (.t 13)),qC 15 190 14,qM 2 15,qtt 3]))
def Zt9:FnI:=⟨1,ZAq,[(2,none),(3,none)]⟩
def ZrY:C:=oS [qB 11 .lss 10 9] (.seq (cX 11 0) (.seq (.block 1 (oS [qM 12 10,qM 6 12] (oS [qA 13 2 3,qM 14 6,qD 15 191 13 14,qU 16 15,qM 17 16,vF 18 0 3 17 true,vL 19 18 17 true,vM 20 6 17 true,vD 21 55 19 20 17 true,vU 22 21 17 true,qP 23 17 22,qM 24 23,vA 25 2 2 24 true,vA 26 2 3 24 true,vM 27 6 24 true,vG 28 192 25 26 27 24 true,qP 29 24 28] (cY 29 (.ops [qM 30 5,qM 31 6,qH 32 31,qY 33 30 32,qM 5 33]) .skip)))) (.ops [qK 34 .add 10 1,qM 10 34])))
def ZAa:C:=oS [qO 2 0,qO 3 1,Zct 4 1] (oS [Zct 5 1] (.seq (oS [qF 7 1 3,qL 8 7,qN 9 8,qW 10 0] (.block 0 (.loop [2,3,5,9,10] [5] ZrY))) (oR [qM 35 5,qM 4 35])))
def ZtT:FnI:=⟨2,ZAa,[(4,none)]⟩
def ZAv:C:=oS [qO 2 0,oB 4 (.alloc (.agg Lz2)),qW 5 0] (.seq (oS [qA 7 3 2,qC 8 180 7,qM 6 8] (oS [qM 9 6,qK 10 .neq 9 0] (oC 10 [oB 11 (.build Lz2 []),qM 12 6,qS 3 4 11,qM 5 12]))) (.seq (oS [qF 13 2 2,qL 14 13,qF 15 1 2,qL 16 15,qB 17 .lss 14 16,qM 18 17,vF 19 2 2 18 false,vL 20 19 18 false,vF 21 1 2 18 false,vL 22 21 18 false,vB 23 .sub 20 22 18 false,vF 24 0 2 18 false,vL 25 24 18 false,vN 26 25 18 false,vB 27 .eql 23 26 18 false,qJ 28 18 27] (oC 28 [oB 29 (.build Lz2 []),qS 3 4 29,qW 5 121])) (oS [qA 30 3 2,qC 31 193 30,qS 3 2 31] (.seq (.draw [qF 32 0 2,qL 33 32,uA 34 3 2 [0,1],uF 35 2 2 [0,1,2],uL 36 35 [0,1,2],uD 37 194 34 36 [0,1],uM 38 1 [0,1,2,3,4,5],qI 39 1 33 37,qX 1 39 38 4]) (oS [qF 40 2 2,qL 41 40,qK 42 .add 41 1,qF 43 2 2,qS 1 43 42] (oR [qA 44 3 2,qS 3 4 44,qW 5 0]))))))
def Zvl:FnI:=⟨2,ZAv,[(4,some (3,true)),(5,none)]⟩
def ZsG:C:=oS [qB 38 .lss 37 36] (.seq (cX 38 0) (.seq (.block 1 (oS [qM 39 37,qI 40 1 35 37,qL 41 40,qM 6 39,qM 7 41] (.seq (oS [qM 42 7,qK 43 .eql 42 (-1)] (cY 43 (.exit 1) .skip)) (oS [qM 44 7,qK 45 .lss 44 0,qM 46 45,vM 47 7 46 false,vF 48 1 3 46 false,vL 49 48 46 false,vN 50 49 46 false,vB 51 .geq 47 50 46 false,qJ 52 46 51,qM 53 52,vA 54 2 3 53 false,vM 55 7 53 false,vD 56 191 54 55 53 false,qJ 57 53 56,qM 58 57,vF 59 0 3 58 false,vL 60 59 58 false,vM 61 6 58 false,oG 62 (.slice 1 (.t 60) none (some (.t 61)) none) 58 false,vM 63 7 58 false,vD 64 55 62 63 58 false,qJ 65 58 64,qM 66 65,vA 67 2 2 66 false,vA 68 2 3 66 false,vM 69 7 66 false,vG 70 192 67 68 69 66 false,vU 71 70 66 false,qJ 72 66 71] (oC 72 [qff 4]))))) (.ops [qK 73 .add 37 1,qM 37 73])))
def ZsA:C:=oS [qB 78 .lss 77 76] (.seq (cX 78 2) (.seq (.block 3 (oS [qM 79 77,qM 8 79] (oS [qA 80 2 3,qM 81 8,qD 82 191 80 81,qM 83 82,vA 84 2 2 83 true,vA 85 2 3 83 true,vM 86 8 83 true,vG 87 192 84 85 86 83 true,vU 88 87 83 true,qP 89 83 88] (oC 89 [qff 4])))) (.ops [qK 90 .add 77 1,qM 77 90])))
def Zzt:C:=oS [qO 2 0,qO 3 1,qff 4] (oS [oB 5 (.mov (.c (.d (.fn 195 []))))] (.seq (oS [qF 9 0 3,qL 10 9,qN 11 10,qK 12 .lss 11 1,qM 13 12,vF 14 0 3 13 false,vL 15 14 13 false,vN 16 15 13 false,vK 17 .gtr 16 8 13 false,qJ 18 13 17,qM 19 18,vF 20 1 3 19 false,vL 21 20 19 false,vN 22 21 19 false,vF 23 0 2 19 false,vL 24 23 19 false,vN 25 24 19 false,vB 26 .neq 22 25 19 false,qJ 27 19 26,qM 28 27,vF 29 1 3 28 false,vL 30 29 28 false,vM 31 5 28 false,vD 32 66 30 31 28 false,qJ 33 28 32] (oC 33 [qff 4])) (.seq (oS [qF 34 0 3,qL 35 34,qN 36 35,qW 37 0] (.block 0 (.loop [2,3,35,36,37] [2,3,4] ZsG))) (.seq (oS [qF 74 1 3,qL 75 74,qN 76 75,qW 77 0] (.block 2 (.loop [2,3,76,77] [4] ZsA))) (oR [qtt 4])))))
def ZvZ:FnI:=⟨2,Zzt,[(4,none)]⟩
def ZAK:C:=oS [qO 1 0,qW 2 0] (oS [qF 6 0 1,qL 7 6,qN 8 7,qC 9 176 8,qM 5 9,qE 10 5 0,qE 11 5 1,qM 3 10,qM 4 11] (.seq (oS [qM 12 4,qU 13 12,qM 14 13,vF 15 0 1 14 false,vL 16 15 14 false,vN 17 16 14 false,vK 18 .gtr 17 64 14 false,qJ 19 14 18,qM 20 19,vF 21 1 1 20 false,vL 22 21 20 false,vC 23 188 22 20 false,vK 24 .neq 23 0 20 false,qJ 25 20 24,qM 26 25,vF 27 2 1 26 false,vL 28 27 26 false,vF 29 1 1 26 false,vL 30 29 26 false,vK 31 .sub 30 1 26 false,vB 32 .lss 28 31 26 false,qJ 33 26 32,qM 34 33,vF 35 2 1 34 false,vL 36 35 34 false,vF 37 1 1 34 false,vL 38 37 34 false,vF 39 0 1 34 false,vL 40 39 34 false,vN 41 40 34 false,vB 42 .add 38 41 34 false,vB 43 .gtr 36 42 34 false,qJ 44 34 43] (oC 44 [qW 2 120])) (oR [qW 2 0])))
def Zt7:FnI:=⟨1,ZAK,[(2,none)]⟩
def ZAu:C:=oS [Zct 2 6] (.seq (oS [qM 3 0,oB 4 (.nilq (.t 3))] (oC 4 [Zct 2 6])) (oR [oB 5 (.bslice 6 [.bool false,zD,zD,zD,zD,zD] 0 []),qM 6 0,oB 7 (.append 6 (.t 5) (.t 6)),qM 2 7]))
def Zv8:FnI:=⟨1,ZAu,[(2,none)]⟩
def ZAJ:C:=oS [Zct 2 3] (.seq (oS [qM 3 0,oB 4 (.nilq (.t 3))] (oC 4 [Zct 2 3])) (oR [oB 5 (.bslice 3 [.list true [],zD,zD] 0 []),qM 6 0,oB 7 (.append 3 (.t 5) (.t 6)),qM 2 7]))
def Zvo:FnI:=⟨1,ZAJ,[(2,none)]⟩
def Zpn:C:=oS [qB 21 .lss 20 19] (.seq (cX 21 0) (.seq (.block 1 (oS [qM 22 20,qI 23 1 18 20,qL 24 23,qM 5 22,qM 6 24] (oS [qM 25 6,qK 26 .eql 25 (-1),qM 27 26,vM 28 3 27 true,vM 29 28 27 true,vM 30 0 29 false,vZ 31 30 29 false,vF 32 0 31 29 false,vF 33 3 32 29 false,vL 34 33 29 false,vM 35 5 29 false,vI 36 6 34 35 29 false,vF 37 1 36 29 false,vL 38 37 29 false,vK 39 .neq 38 0 29 false,vJ 40 29 39 27 true,qP 41 27 40] (cY 41 (.ops [qM 42 4,qM 43 5,qH 44 43,qY 45 42 44,qM 4 45]) .skip)))) (.ops [qK 46 .add 20 1,qM 20 46])))
def ZAf:C:=oS [Zct 2 1] (oS [qM 7 0,qZ 8 7,qF 9 0 8,qF 10 2 9,qL 11 10,oB 12 (.call 196 [.t 11,(.c (.d (.fn 197 [])))]),qM 3 12] (oS [Zct 4 1] (.seq (oS [qM 13 0,qZ 14 13,qF 15 0 14,qF 16 0 15,qF 17 0 16,qL 18 17,qN 19 18,qW 20 0] (.block 0 (.loop [0,3,4,18,19,20] [4] Zpn))) (oR [qM 47 4,qM 2 47]))))
def ZvI:FnI:=⟨1,ZAf,[(2,none)]⟩
def ZzC:C:=oS [qO 4 0,qW 8 0] (.seq (oS [qM 10 3,qM 11 2,qN 12 11,qB 13 .lss 10 12] (oC 13 [qM 14 1,qM 15 2,qM 16 3,qI 17 1 15 16,qL 18 17,oB 19 (.mx true [.t 18,(iN 0)]),qM 20 1,qN 21 20,qB 22 .rem 19 21,qI 23 1 14 22,qL 24 23,qM 8 24])) (oS [qM 25 1,oB 26 (.mkfn 198 [.t 4]),qD 27 99 25 26,qM 9 27] (oR [qM 28 1,qM 29 9,oB 30 (.mx true [.t 29,(iN 0)]),qI 31 1 28 30,qL 32 31,qM 8 32])))
def ZtP:FnI:=⟨4,ZzC,[(8,none)]⟩
def Zy6:C:=oS [qW 4 0] (oS [qM 10 0,qZ 11 10,qF 12 0 11,qF 13 0 12,qF 14 0 13,qL 15 14,qN 16 15,qM 5 16] (oS [qM 17 1,qM 18 0,qZ 19 18,qF 20 0 19,qF 21 4 20,qL 22 21,qM 23 1,qI 24 1 22 23,qL 25 24,qB 26 .add 17 25,qM 27 5,qB 28 .rem 26 27,qM 6 28] (.seq (.draw [qM 30 0,qZ 31 30,qF 32 0 31,qF 33 2 32,qL 34 33,uM 35 6 [0,1,2,3,4],qI 36 3 34 35,qA 37 3 36,uM 38 0 [0,1,2,3,4,5,6,7],uZ 39 38 [0,1,2,3,4,5,6,7],uF 40 0 39 [0,1,2,3,4,5,6,7],uF 41 3 40 [0,1,2,3,4,5,6,7],uL 42 41 [0,1,2,3,4,5,6,7],uM 43 1 [0,1,2,3,4,5,6,7,8,9,10,11,12],uI 44 6 42 43 [0,1,2,3,4,5,6,7],uA 45 6 44 [0,1,2,3,4,5,6,7],qD 46 199 37 45,qM 29 46,qE 47 29 0,uE 48 29 1 [18],uE 49 29 2 [18,19],oM 7 (.alloc (.agg Lz2)) [0,1,2,3,4,5,6,7,8,9,10,11,12,13,14,15,16,17,18,19,20],oM 8 (.alloc (.d (.agg [.bool false,zD,zD,zD,zD,zD]))) [0,1,2,3,4,5,6,7,8,9,10,11,12,13,14,15,16,17,18,19,20,21],qX 3 7 47 4,qX 6 8 48 4,qM 9 49]) (.seq (oS [qM 50 9,qK 51 .neq 50 0] (oC 51 [qW 4 130])) (.seq (.draw [qM 52 0,qZ 53 52,qF 54 0 53,qF 55 2 54,qL 56 55,uM 57 6 [0,1,2,3,4],uM 58 0 [0,1,2,3,4,5],uZ 59 58 [0,1,2,3,4,5],uF 60 0 59 [0,1,2,3,4,5],uF 61 3 60 [0,1,2,3,4,5],uL 62 61 [0,1,2,3,4,5],uM 63 1 [0,1,2,3,4,5,6,7,8,9,10],uA 64 3 7 [0,1,2,3,4,5,6,7,8,9,10,11],⟨some 65,.load 6 true (.t 8),none,[0,1,2,3,4,5,6,7,8,9,10,11,12],1⟩,uI 66 3 56 57 [11,13],⟨none,.storek 3 (.t 66) (.t 64) [.t 8],none,[],3⟩,qI 67 6 62 63,qX 6 67 65 4]) (.seq (oS [qF 68 5 8,qL 69 68] (.block 0 (oS [qK 71 .eql 69 1,qM 70 71] (cY 70 (.seq (.seq (.draw [qM 72 0,qZ 73 72,qF 74 5 73,qA 75 2 74,uM 76 0 [0,1,2,3],uZ 77 76 [0,1,2,3],uF 78 0 77 [0,1,2,3],uF 79 0 78 [0,1,2,3],uA 80 2 79 [0,1,2,3],qD 81 169 75 80,uF 82 4 8 [0,1,2,3,4,5,6,7,8,9],uL 83 82 [0,1,2,3,4,5,6,7,8,9],qD 84 55 81 83,qU 85 84]) (oC 85 [qW 4 130])) (.seq (.draw [qM 86 0,qZ 87 86,qF 88 0 87,qF 89 0 88,qF 90 0 89,qL 91 90,uM 92 1 [0,1,2,3,4,5],uF 93 4 8 [0,1,2,3,4,5,6],uL 94 93 [0,1,2,3,4,5,6],qI 95 1 91 92,qX 1 95 94 4]) (.ops [qM 96 0,qM 97 1,oB 98 (.call 200 [.t 96,.t 97,(iN 0)])]))) (.seq (oS [qK 100 .eql 69 2,qM 99 100] (cY 99 .skip (.ops [qK 101 .eql 69 3,qM 99 101]))) (cY 99 (.ops [qM 102 0,qM 103 1,qM 104 0,qZ 105 104,qF 106 0 105,qF 107 4 106,qL 108 107,qM 109 1,qI 110 1 108 109,qL 111 110,qK 112 .add 111 1,qM 113 5,qB 114 .rem 112 113,qG 115 200 102 103 114]) .skip)))))) (oR [qW 4 0])))))))
def ZvH:FnI:=⟨2,Zy6,[(4,none)]⟩
def ZAt:C:=oS [qO 2 0,qO 3 1,oB 4 (.alloc (.agg Lz3)),Zct 5 1,qW 6 0] (.seq (oS [qA 9 2 2,qA 10 2 3,qD 11 171 9 10,qM 7 11] (oS [qM 12 7,qK 13 .neq 12 0] (oC 13 [oB 14 (.build Lz3 []),qM 15 7,qS 2 4 14,Zct 5 1,qM 6 15]))) (oS [qA 16 2 3,qC 17 201 16,qS 2 3 17] (oS [qA 18 2 3,qC 19 202 18,qM 8 19] (oR [qA 20 2 3,qM 21 8,qS 2 4 20,qM 5 21,qW 6 0]))))
def Zuq:FnI:=⟨2,ZAt,[(4,some (2,true)),(5,none),(6,none)]⟩
def ZAe:C:=oS [qO 2 0,qO 3 1,Zct 4 1] (.seq (oS [qA 5 2 2,qC 6 39 5,qK 7 .neq 6 0] (oC 7 [Zct 4 1])) (oR [qA 8 2 2,oB 9 (.mkfn 203 [.t 3]),qD 10 92 8 9,qM 4 10]))
def ZtQ:FnI:=⟨2,ZAe,[(4,none)]⟩
def ZzM:C:=oS [qW 2 0] (.seq (.block 0 (oS [qM 4 0,qK 5 .lss 4 0,qM 3 5] (cY 3 (oR [qW 2 10]) (oS [qM 7 0,qK 8 .gtr 7 1099511627775,qM 6 8] (oC 6 [qW 2 11]))))) (oR [qW 2 0]))
def Zvy:FnI:=⟨1,ZzM,[(2,none)]⟩
def Zy0:C:=oS [qW 2 0] (.seq (.cond bF (oR [qM 3 0,oB 4 (.conv .u32 (.t 3)),qC 5 204 4,qM 2 5]) .skip) (oR [qM 6 0,qC 7 205 6,qM 2 7]))
def ZuW:FnI:=⟨1,Zy0,[(2,none)]⟩
def ZAx:C:=oS [qW 2 0] (.seq (.cond bF (oR [qM 3 0,oB 4 (.conv .u32 (.t 3)),qC 5 206 4,qM 2 5]) .skip) (oR [qM 6 0,qC 7 207 6,qM 2 7]))
def Zu7:FnI:=⟨1,ZAx,[(2,none)]⟩
def ZzA:C:=oS [qO 2 0,qff 4] (oR [qF 5 1 2,qL 6 5,qM 7 1,qI 8 1 6 7,qL 9 8,qK 10 .eql 9 0,qM 4 10])
def ZvM:FnI:=⟨2,ZzA,[(4,none)]⟩
def ZzD:C:=oS [qO 3 0,qO 4 1,qO 5 2,qff 6] (oR [qF 7 1 3,qL 8 7,oB 9 (.mkfn 208 [.t 5,.t 4]),qD 10 89 8 9,qU 11 10,qM 6 11])
def ZtM:FnI:=⟨3,ZzD,[(6,none)]⟩
def Zz9:C:=oS [qO 1 0,oB 2 (.alloc (.agg Lz2))] (oS [qF 3 0 1,qL 4 3,qC 5 45 4,qF 6 0 1,qS 1 6 5] (oR [qA 7 3 1,qS 3 2 7]))
def Zus:FnI:=⟨1,Zz9,[(2,some (3,true))]⟩
def Zzs:C:=oS [qO 2 0,qW 4 0] (oR [qM 5 1,oB 6 (.mx true [.t 5,(iN 0)]),qF 7 0 2,qL 8 7,qN 9 8,qB 10 .rem 6 9,qM 4 10])
def Zuc:FnI:=⟨2,Zzs,[(4,none)]⟩
def Zz2:C:=oS [qff 2] (oR [qM 3 0,qK 4 .lss 3 0,qM 5 4,vM 6 0 5 false,vK 7 .gtr 6 1000 5 false,qJ 8 5 7,qM 2 8])
def Zvg:FnI:=⟨1,Zz2,[(2,none)]⟩
def Zzk:C:=oS [qff 4] (oR [qM 5 0,qM 6 1,qD 7 209 5 6,qK 8 .geq 7 0,qM 4 8])
def ZuC:FnI:=⟨2,Zzk,[(4,none)]⟩
def Zzg:C:=oS [qO 1 0,qff 2] (oR [qF 3 2 1,qL 4 3,qF 5 1 1,qL 6 5,qB 7 .gtr 4 6,qM 2 7])
def ZuD:FnI:=⟨1,Zzg,[(2,none)]⟩
def ZzI:C:=oS [qff 3] (oR [qM 4 0,qL 5 1,qZ 6 5,qF 7 7 6,qL 8 7,qB 9 .gtr 4 8,qM 3 9])
def ZvW:FnI:=⟨2,ZzI,[(3,none)]⟩
def ZzO:C:=oS [qO 2 0,qO 3 1,oB 4 (.alloc (.agg Lz2)),oB 5 (.alloc (.d (.agg [.bool false,zD,zD,zD,zD,zD]))),qW 6 0] (.seq (oS [qA 9 3 2,qC 10 180 9,qM 7 10] (oS [qM 11 7,qK 12 .neq 11 0] (oC 12 [oB 13 (.build Lz2 []),oB 14 (.build Lz5 []),qM 15 7,qS 3 4 13,qS 6 5 14,qM 6 15]))) (.seq (oS [qA 16 6 3,qC 17 210 16,qU 18 17] (oC 18 [oB 19 (.build Lz2 []),oB 20 (.build Lz5 []),qS 3 4 19,qS 6 5 20,qW 6 122])) (oS [qA 21 3 2,qC 22 193 21,qS 3 2 22] (.seq (oS [qF 23 0 3,qL 24 23] (cY 24 (.ops [qD 25 211 2 3]) (.ops [qD 26 212 2 3]))) (.seq (oS [qA 27 3 2,qC 28 180 27,qM 8 28] (oS [qM 29 8,qK 30 .neq 29 0] (oC 30 [oB 31 (.build Lz2 []),oB 32 (.build Lz5 []),qM 33 8,qS 3 4 31,qS 6 5 32,qM 6 33]))) (.seq (.draw [qA 34 3 2,⟨some 35,.load 6 true (.t 3),none,[0],1⟩,⟨none,.storek 3 (.t 4) (.t 34) [.t 3],none,[],3⟩,qX 6 5 35 4,qW 6 0]) .ret))))))
def ZuL:FnI:=⟨2,ZzO,[(4,some (3,true)),(5,some (6,true)),(6,none)]⟩
def Zzj:C:=oS [qM 6 0,qZ 7 6,qF 8 0 7,qF 9 4 8,qL 10 9,qM 11 1,qM 12 2,qI 13 1 10 11,qS 1 13 12] (.ops [qM 14 0,qZ 15 14,qF 16 0 15,qF 17 3 16,qL 18 17,qM 19 1,qM 20 2,qK 21 .neq 20 0,oB 22 (.build Lz5 [(0,1,(.t 21))]),qI 23 6 18 19,qS 6 23 22])
def Zvw:FnI:=⟨3,Zzj,[]⟩
def Zz7:C:=oS [qO 1 0,oB 2 (.alloc (.agg Lz3))] (.seq (.draw [qF 3 0 1,qL 4 3,qC 5 45 4,uF 6 1 1 [0,1,2],uL 7 6 [0,1,2],qC 8 45 7,oB 9 (.build Lz3 [(0,1,(.t 5)),(1,1,(.t 8))]),qX 2 2 9 4]) .ret)
def Zu9:FnI:=⟨1,Zz7,[(2,some (2,true))]⟩
def ZsB:C:=oS [qB 10 .lss 9 8] (.seq (cX 10 0) (.seq (.block 1 (oS [qM 11 9,qI 12 1 7 9,qL 13 12,qM 4 11,qM 5 13] (.seq (oS [qM 14 5,qK 15 .eql 14 (-1)] (cY 15 (.exit 1) .skip)) (oS [qF 16 1 1,qL 17 16,qM 18 5,qI 19 1 17 18,qL 20 19,qK 21 .sub 20 1,qI 22 1 17 18,qS 1 22 21] (oS [qA 23 2 1,qM 24 5,qD 25 191 23 24] (cY 25 (oS [qF 26 0 1,qL 27 26,qM 28 4,qI 29 1 27 28,qR 1 29 (-1)] (.ops [qM 30 3,qM 31 5,qH 32 31,qY 33 30 32,qM 3 33])) .skip)))))) (.ops [qK 34 .add 9 1,qM 9 34])))
def ZzE:C:=oS [qO 1 0,Zct 2 1] (oS [Zct 3 1] (.seq (oS [qF 6 0 1,qL 7 6,qN 8 7,qW 9 0] (.block 0 (.loop [1,3,7,8,9] [3] ZsB))) (oS [qM 35 3,qC 36 110 35] (oR [qM 37 3,qM 2 37]))))
def Zut:FnI:=⟨1,ZzE,[(2,none)]⟩
def ZAw:C:=oS [qO 2 0,qW 3 0,qff 4] (.seq (.draw [qF 5 1 2,qL 6 5,uF 7 0 2 [0,1],uL 8 7 [0,1],uL 9 1 [0,1,2,3],oM 10 (.bin .eql (.t 8) (.t 9)) [0,1],uM 3 6 [2,3,4,5],qM 4 10]) .ret)
def Zv2:FnI:=⟨2,ZAw,[(3,none),(4,none)]⟩
def Zzr:C:=oS [qW 2 0] (.seq (.draw [qM 3 0,oB 4 (.bin .shr (.t 3) (.c (.d (.int .u64 24)))),oB 5 (.indexS (.c (.d (.str ⟨#[0,1,1,2,1,2,2,3,1,2,2,3,2,3,3,4,1,2,2,3,2,3,3,4,2,3,3,4,3,4,4,5,1,2,2,3,2,3,3,4,2,3,3,4,3,4,4,5,2,3,3,4,3,4,4,5,3,4,4,5,4,5,5,6,1,2,2,3,2,3,3,4,2,3,3,4,3,4,4,5,2,3,3,4,3,4,4,5,3,4,4,5,4,5,5,6,2,3,3,4,3,4,4,5,3,4,4,5,4,5,5,6,3,4,4,5,4,5,5,6,4,5,5,6,5,6,6,7,1,2,2,3,2,3,3,4,2,3,3,4,3,4,4,5,2,3,3,4,3,4,4,5,3,4,4,5,4,5,5,6,2,3,3,4,3,4,4,5,3,4,4,5,4,5,5,6,3,4,4,5,4,5,5,6,4,5,5,6,5,6,6,7,2,3,3,4,3,4,4,5,3,4,4,5,4,5,5,6,3,4,4,5,4,5,5,6,4,5,5,6,5,6,6,7,3,4,4,5,4,5,5,6,4,5,5,6,5,6,6,7,4,5,5,6,5,6,6,7,5,6,6,7,6,7,7,8]⟩))) (.t 4)),uM 6 0 [0,1,2],oM 7 (.bin .shr (.t 6) (.c (.d (.int .u64 16)))) [0,1,2],oM 8 (.bin .and (.t 7) (.c (.d (.int .u32 255)))) [0,1,2],oM 9 (.indexS (.c (.d (.str ⟨#[0,1,1,2,1,2,2,3,1,2,2,3,2,3,3,4,1,2,2,3,2,3,3,4,2,3,3,4,3,4,4,5,1,2,2,3,2,3,3,4,2,3,3,4,3,4,4,5,2,3,3,4,3,4,4,5,3,4,4,5,4,5,5,6,1,2,2,3,2,3,3,4,2,3,3,4,3,4,4,5,2,3,3,4,3,4,4,5,3,4,4,5,4,5,5,6,2,3,3,4,3,4,4,5,3,4,4,5,4,5,5,6,3,4,4,5,4,5,5,6,4,5,5,6,5,6,6,7,1,2,2,3,2,3,3,4,2,3,3,4,3,4,4,5,2,3,3,4,3,4,4,5,3,4,4,5,4,5,5,6,2,3,3,4,3,4,4,5,3,4,4,5,4,5,5,6,3,4,4,5,4,5,5,6,4,5,5,6,5,6,6,7,2,3,3,4,3,4,4,5,3,4,4,5,4,5,5,6,3,4,4,5,4,5,5,6,4,5,5,6,5,6,6,7,3,4,4,5,4,5,5,6,4,5,5,6,5,6,6,7,4,5,5,6,5,6,6,7,5,6,6,7,6,7,7,8]⟩))) (.t 8)) [0,1,2],qB 10 .add 5 9,uM 11 0 [0,1,2,3,4,5,6,7],oM 12 (.bin .shr (.t 11) (.c (.d (.int .u64 8)))) [0,1,2,3,4,5,6,7],oM 13 (.bin .and (.t 12) (.c (.d (.int .u32 255)))) [0,1,2,3,4,5,6,7],oM 14 (.indexS (.c (.d (.str ⟨#[0,1,1,2,1,2,2,3,1,2,2,3,2,3,3,4,1,2,2,3,2,3,3,4,2,3,3,4,3,4,4,5,1,2,2,3,2,3,3,4,2,3,3,4,3,4,4,5,2,3,3,4,3,4,4,5,3,4,4,5,4,5,5,6,1,2,2,3,2,3,3,4,2,3,3,4,3,4,4,5,2,3,3,4,3,4,4,5,3,4,4,5,4,5,5,6,2,3,3,4,3,4,4,5,3,4,4,5,4,5,5,6,3,4,4,5,4,5,5,6,4,5,5,6,5,6,6,7,1,2,2,3,2,3,3,4,2,3,3,4,3,4,4,5,2,3,3,4,3,4,4,5,3,4,4,5,4,5,5,6,2,3,3,4,3,4,4,5,3,4,4,5,4,5,5,6,3,4,4,5,4,5,5,6,4,5,5,6,5,6,6,7,2,3,3,4,3,4,4,5,3,4,4,5,4,5,5,6,3,4,4,5,4,5,5,6,4,5,5,6,5,6,6,7,3,4,4,5,4,5,5,6,4,5,5,6,5,6,6,7,4,5,5,6,5,6,6,7,5,6,6,7,6,7,7,8]⟩))) (.t 13)) [0,1,2,3,4,5,6,7],qB 15 .add 10 14,uM 16 0 [0,1,2,3,4,5,6,7,8,9,10,11,12],oM 17 (.bin .and (.t 16) (.c (.d (.int .u32 255)))) [0,1,2,3,4,5,6,7,8,9,10,11,12],oM 18 (.indexS (.c (.d (.str ⟨#[0,1,1,2,1,2,2,3,1,2,2,3,2,3,3,4,1,2,2,3,2,3,3,4,2,3,3,4,3,4,4,5,1,2,2,3,2,3,3,4,2,3,3,4,3,4,4,5,2,3,3,4,3,4,4,5,3,4,4,5,4,5,5,6,1,2,2,3,2,3,3,4,2,3,3,4,3,4,4,5,2,3,3,4,3,4,4,5,3,4,4,5,4,5,5,6,2,3,3,4,3,4,4,5,3,4,4,5,4,5,5,6,3,4,4,5,4,5,5,6,4,5,5,6,5,6,6,7,1,2,2,3,2,3,3,4,2,3,3,4,3,4,4,5,2,3,3,4,3,4,4,5,3,4,4,5,4,5,5,6,2,3,3,4,3,4,4,5,3,4,4,5,4,5,5,6,3,4,4,5,4,5,5,6,4,5,5,6,5,6,6,7,2,3,3,4,3,4,4,5,3,4,4,5,4,5,5,6,3,4,4,5,4,5,5,6,4,5,5,6,5,6,6,7,3,4,4,5,4,5,5,6,4,5,5,6,5,6,6,7,4,5,5,6,5,6,6,7,5,6,6,7,6,7,7,8]⟩))) (.t 17)) [0,1,2,3,4,5,6,7,8,9,10,11,12],qB 19 .add 15 18,oB 20 (.conv .i64 (.t 19)),qM 2 20]) .ret)
def Zxg:FnI:=⟨1,Zzr,[(2,none)]⟩
def ZAH:C:=oS [qW 2 0] (oS [qM 3 0,oB 4 (.bin .shr (.t 3) (.c (.d (.int .u64 1)))),oB 5 (.bin .and (.t 4) (.c (.d (.int .u64 6148914691236517205)))),qM 6 0,oB 7 (.bin .and (.t 6) (.c (.d (.int .u64 6148914691236517205)))),qB 8 .add 5 7,qM 0 8] (oS [qM 9 0,oB 10 (.bin .shr (.t 9) (.c (.d (.int .u64 2)))),oB 11 (.bin .and (.t 10) (.c (.d (.int .u64 3689348814741910323)))),qM 12 0,oB 13 (.bin .and (.t 12) (.c (.d (.int .u64 3689348814741910323)))),qB 14 .add 11 13,qM 0 14] (oS [qM 15 0,oB 16 (.bin .shr (.t 15) (.c (.d (.int .u64 4)))),qM 17 0,qB 18 .add 16 17,oB 19 (.bin .and (.t 18) (.c (.d (.int .u64 1085102592571150095)))),qM 0 19] (oS [qM 20 0,qM 21 0,oB 22 (.bin .shr (.t 21) (.c (.d (.int .u64 8)))),qB 23 .add 20 22,qM 0 23] (oS [qM 24 0,qM 25 0,oB 26 (.bin .shr (.t 25) (.c (.d (.int .u64 16)))),qB 27 .add 24 26,qM 0 27] (oS [qM 28 0,qM 29 0,oB 30 (.bin .shr (.t 29) (.c (.d (.int .u64 32)))),qB 31 .add 28 30,qM 0 31] (oR [qM 32 0,oB 33 (.conv .i64 (.t 32)),qK 34 .and 33 127,qM 2 34])))))))
def ZvS:FnI:=⟨1,ZAH,[(2,none)]⟩
def ZAI:C:=oR [⟨some 2,.bin .eql (.t 0) (.c (.d (.int .u64 0))),none,[],0⟩,⟨some 3,.mov (.c .bad),none,[],0⟩]
def Zxf:FnI:=⟨1,ZAI,[(3,none)]⟩
def Zzi:C:=oS [qO 3 0,qff 4] (oR [qF 5 1 3,qL 6 5,qL 7 1,qB 8 .eql 6 7,qM 9 8,vA 10 2 2 9 true,vF 11 0 3 9 true,vL 12 11 9 true,vD 13 191 10 12 9 true,vU 14 13 9 true,qP 15 9 14,qM 4 15])
def Zud:FnI:=⟨3,Zzi,[(4,none)]⟩
def Zsm:C:=oS [qB 9 .lss 8 7] (.seq (cX 9 0) (.seq (.block 1 (oS [qM 10 8,qM 5 10] (oS [qM 11 1,qM 12 0,qM 13 5,qI 14 3 12 13,qA 15 3 14,qV 16 11 15] (oC 16 [qM 17 5,qM 4 17])))) (.ops [qK 18 .add 8 1,qM 8 18])))
def Zzc:C:=oS [qW 4 0] (.seq (oS [qM 6 0,qN 7 6,qW 8 0] (.block 0 (.loop [0,1,7,8] [4] Zsm))) (oR [qW 4 (-1)]))
def Zvp:FnI:=⟨2,Zzc,[(4,none)]⟩
def ZAN:C:=oS [qO 1 0,qff 2] (oS [qW 3 4] (.seq (oS [qF 5 0 1,qL 6 5] (cY 6 (.ops [qW 3 3]) .skip)) (oS [oB 4 (.mov (.c (.d (.fn 213 []))))] (oR [qF 7 5 1,qL 8 7,qK 9 .eql 8 0,qM 10 9,vF 11 1 1 10 true,vL 12 11 10 true,vK 13 .geq 12 0 10 true,qP 14 10 13,qM 15 14,vF 16 1 1 15 true,vL 17 16 15 true,vM 18 3 15 true,vB 19 .leq 17 18 15 true,qP 20 15 19,qM 21 20,vF 22 1 1 21 true,vL 23 22 21 true,vK 24 .eql 23 0 21 true,vM 25 24 21 true,vM 26 4 25 false,vF 27 2 1 25 false,vL 28 27 25 false,vV 29 26 28 25 false,vU 30 29 25 false,vM 31 30 25 false,vM 32 4 31 true,vF 33 3 1 31 true,vL 34 33 31 true,vV 35 32 34 31 true,vU 36 35 31 true,oG 37 (.pick (.t 31) (.t 36) bF) 25 false,vJ 38 25 37 21 true,qP 39 21 38,qM 2 39]))))
def Zv1:FnI:=⟨1,ZAN,[(2,none)]⟩
def ZAQ:C:=.block 1000 (.seq (oS [qM 4 1,qZ 5 4,qF 6 1 5,qL 7 6] (.block 0 (oS [qK 9 .eql 7 0,qM 8 9] (cY 8 (.seq (.seq .skip (oR [qM 26 1,qM 27 1,qM 28 0,qZ 29 28,qF 30 1 29,qL 31 30,qZ 32 26,qF 33 2 32,qS 1 33 31,qZ 34 27,qF 35 1 34,qR 1 35 1])) (.exit 1000)) (oS [qK 11 .eql 7 1,qM 10 11] (cY 10 (.seq (.seq .skip (oS [qM 36 1,qM 37 1,qM 38 0,qZ 39 38,qF 40 2 39,qL 41 40,qZ 42 36,qF 43 3 42,qS 1 43 41,qZ 44 37,qF 45 1 44,qR 1 45 2] (.seq (.seq (.draw [qM 46 1,qZ 47 46,qF 48 2 47,qL 49 48,uM 50 1 [0,1,2,3],uZ 51 50 [0,1,2,3],uF 52 3 51 [0,1,2,3],uL 53 52 [0,1,2,3],qB 54 .geq 49 53]) (cY 54 (.ops [qM 55 1,qM 56 1,qZ 57 55,qF 58 1 57,qR 1 58 1,qZ 59 56,qF 60 5 59,qR 1 60 2]) .skip)) .ret))) (.exit 1000)) (oS [qK 13 .eql 7 2,qM 12 13] (cY 12 (.seq (.seq .skip (.draw [qM 61 1,uM 62 1 [0],uM 63 0 [0,1],uZ 64 63 [0,1],uF 65 0 64 [0,1],uL 66 65 [0,1],uM 67 0 [0,1,2,3,4,5],uZ 68 67 [0,1,2,3,4,5],uA 69 3 68 [0,1,2,3,4,5],uM 70 1 [0,1,2,3,4,5,6,7,8],uZ 71 70 [0,1,2,3,4,5,6,7,8],uF 72 2 71 [0,1,2,3,4,5,6,7,8],uL 73 72 [0,1,2,3,4,5,6,7,8],uD 74 194 69 73 [0,1,2,3,4,5],uI 75 1 66 74 [0,1],uL 76 75 [0,1],uZ 77 61 [1],uF 78 4 77 [1],qX 1 78 76 4,qZ 79 62,qF 80 1 79,⟨none,.store 1 (.t 80) (iN 3),none,[],4⟩])) (.exit 1000)) .skip)))))))) (oS [qM 14 1,qZ 15 14,qF 16 5 15,qR 1 16 3] (.seq (oS [qM 17 0,qM 18 1,qD 19 214 17 18] (cY 19 (.ops [qM 20 1,qZ 21 20,qF 22 5 21,qR 1 22 1]) (.ops [qM 23 1,qZ 24 23,qF 25 4 24,qR 1 25 0]))) .ret)))
def Zu0:FnI:=⟨2,ZAQ,[]⟩
def Zzu:C:=.block 1000 (.seq (oS [qM 4 1,qZ 5 4,qF 6 1 5,qL 7 6] (.block 0 (oS [qK 9 .eql 7 0,qM 8 9] (cY 8 (.seq (.seq .skip (oS [qM 33 0,qZ 34 33,qF 35 2 34,qL 36 35,qK 37 .sub 36 1,qZ 38 33,qF 39 2 38,qS 1 39 37] (oR [qM 40 1,qM 41 1,qM 42 0,qZ 43 42,qF 44 2 43,qL 45 44,qZ 46 40,qF 47 3 46,qS 1 47 45,qZ 48 41,qF 49 1 48,qR 1 49 1]))) (.exit 1000)) (oS [qK 11 .eql 7 1,qM 10 11] (cY 10 (.seq (.seq .skip (oS [qM 50 1,qM 51 0,qZ 52 51,qF 53 1 52,qL 54 53,qZ 55 50,qF 56 2 55,qS 1 56 54] (.seq (.block 1 (.seq (.draw [qM 61 1,qZ 62 61,qF 63 2 62,qL 64 63,uM 65 1 [0,1,2,3],uZ 66 65 [0,1,2,3],uF 67 3 66 [0,1,2,3],uL 68 67 [0,1,2,3],qB 69 .lss 64 68,qM 60 69]) (cY 60 (.draw [qM 70 1,uM 71 1 [0],uM 72 0 [0,1],uZ 73 72 [0,1],uF 74 0 73 [0,1],uL 75 74 [0,1],uM 76 0 [0,1,2,3,4,5],uZ 77 76 [0,1,2,3,4,5],uA 78 3 77 [0,1,2,3,4,5],uM 79 1 [0,1,2,3,4,5,6,7,8],uZ 80 79 [0,1,2,3,4,5,6,7,8],uF 81 3 80 [0,1,2,3,4,5,6,7,8],uL 82 81 [0,1,2,3,4,5,6,7,8],uD 83 194 78 82 [0,1,2,3,4,5],uI 84 1 75 83 [0,1],uL 85 84 [0,1],uZ 86 70 [1],uF 87 4 86 [1],qX 1 87 85 4,qZ 88 71,qF 89 5 88,⟨none,.store 1 (.t 89) (iN 1),none,[],4⟩]) (.seq (.draw [qM 91 1,qZ 92 91,qF 93 2 92,qL 94 93,uM 95 1 [0,1,2,3],uZ 96 95 [0,1,2,3],uF 97 3 96 [0,1,2,3],uL 98 97 [0,1,2,3],qB 99 .eql 94 98,qM 90 99]) (cY 90 (.ops [qM 100 1,qZ 101 100,qF 102 1 101,qR 1 102 2]) (.ops [qM 57 1,qZ 58 57,qF 59 1 58,qR 1 59 3])))))) .ret))) (.exit 1000)) (oS [qK 13 .eql 7 2,qM 12 13] (cY 12 (.seq (.seq .skip (oS [qM 103 1,qZ 104 103,qF 105 1 104,qR 1 105 3] (oS [qM 106 0,qM 107 1,qD 108 214 106 107] (cY 108 (.draw [qM 109 1,uM 110 1 [0],uM 111 0 [0,1],uZ 112 111 [0,1],uF 113 0 112 [0,1],uL 114 113 [0,1],uM 115 0 [0,1,2,3,4,5],uZ 116 115 [0,1,2,3,4,5],uA 117 3 116 [0,1,2,3,4,5],uM 118 1 [0,1,2,3,4,5,6,7,8],uZ 119 118 [0,1,2,3,4,5,6,7,8],uF 120 3 119 [0,1,2,3,4,5,6,7,8],uL 121 120 [0,1,2,3,4,5,6,7,8],uD 122 194 117 121 [0,1,2,3,4,5],uI 123 1 114 122 [0,1],uL 124 123 [0,1],uZ 125 109 [1],uF 126 4 125 [1],qX 1 126 124 4,qZ 127 110,qF 128 1 127,⟨none,.store 1 (.t 128) (iN 4),none,[],4⟩]) .skip)))) (.exit 1000)) .skip)))))))) (oS [qM 14 0,qM 15 1,qZ 16 15,qF 17 3 16,qL 18 17,qK 19 .add 18 1,qZ 20 14,qF 21 2 20,qS 1 21 19] (oS [qM 22 1,qZ 23 22,qF 24 5 23,qR 1 24 2] (.seq (oS [qM 25 1,qZ 26 25,qF 27 1 26,qL 28 27,qK 29 .eql 28 4] (cY 29 (.ops [qM 30 1,qZ 31 30,qF 32 5 31,qR 1 32 1]) .skip)) .ret))))
def Zvn:FnI:=⟨2,Zzu,[]⟩
def ZAo:C:=oS [qff 2] (oR [qM 3 0,qK 4 .lss 3 (-1),qM 5 4,vM 6 0 5 false,vK 7 .gtr 6 1099511627775 5 false,qJ 8 5 7,qM 2 8])
def Zvr:FnI:=⟨1,ZAo,[(2,none)]⟩
def ZAP:C:=oS [qff 4] (.seq (.seq (.draw [qM 5 0,qZ 6 5,qF 7 1 6,qL 8 7,uM 9 1 [0,1,2,3],uZ 10 9 [0,1,2,3],uF 11 2 10 [0,1,2,3],uL 12 11 [0,1,2,3],qB 13 .neq 8 12]) (oC 13 [qff 4])) (oS [qM 14 0,qZ 15 14,qF 16 1 15,qL 17 16,qK 18 .add 17 1,qZ 19 14,qF 20 1 19,qS 1 20 18] (oR [qtt 4])))
def Zu6:FnI:=⟨2,ZAP,[(4,none)]⟩
def Zy8:C:=oS [qO 4 0,qO 5 1,oB 8 (.alloc (.agg Lz0)),qW 9 0] (oS [qA 13 2 5,qM 14 2,qM 15 3,qG 16 167 13 14 15,qM 12 16,qE 17 12 0,qE 18 12 1,oB 10 (.alloc (.agg Lz3)),qS 2 10 17,qM 11 18] (oR [qA 19 2 10,oB 20 (.build Lz0 [(0,2,(.t 19))]),qM 21 11,qS 5 8 20,qM 9 21]))
def Zxo:FnI:=⟨4,Zy8,[(8,some (5,true)),(9,none)]⟩
def Zzw:C:=oS [qO 3 0,qO 4 1,qO 5 2,qW 6 0] (.seq (oS [qF 7 2 5,qL 8 7,qN 9 8,qK 10 .gtr 9 0,qM 11 10,vF 12 3 5 11 false,vL 13 12 11 false,vN 14 13 11 false,vK 15 .gtr 14 0 11 false,qJ 16 11 15,qM 17 16,vF 18 4 5 17 false,vL 19 18 17 false,vN 20 19 17 false,vK 21 .gtr 20 0 17 false,qJ 22 17 21] (oC 22 [qW 6 190])) (oR [qA 23 2 4,qF 24 0 5,qA 25 2 24,qD 26 171 23 25,qM 6 26]))
def Zum:FnI:=⟨3,Zzw,[(6,none)]⟩
def Zz1:C:=oS [qO 4 0,qO 5 1,qO 6 2,oB 8 (.alloc (.agg Lz0)),qW 9 0,qW 10 0] (oS [qA 14 2 5,qF 15 0 6,qA 16 2 15,qD 17 219 14 16,qM 13 17,qE 18 13 0,qE 19 13 1,oB 11 (.alloc (.agg Lz3)),qS 2 11 18,qM 12 19] (oR [qA 20 2 11,oB 21 (.build Lz0 [(0,2,(.t 20))]),qM 22 12,qS 5 8 21,qW 9 0,qM 10 22]))
def ZtU:FnI:=⟨4,Zz1,[(8,some (5,true)),(9,none),(10,none)]⟩
def ZAj:C:=oS [qO 3 0,qO 4 1,qO 5 2,oB 6 (.alloc (.agg Lz0)),Zct 7 1,qW 8 0] (oS [qA 13 2 4,qF 14 0 5,qA 15 2 14,qD 16 186 13 15,qM 12 16,qE 17 12 0,qE 18 12 1,qE 19 12 2,oB 9 (.alloc (.agg Lz3)),qS 2 9 17,qM 10 18,qM 11 19] (oR [qA 20 2 9,oB 21 (.build Lz0 [(0,2,(.t 20))]),qM 22 10,qM 23 11,qS 5 6 21,qM 7 22,qM 8 23]))
def Zvi:FnI:=⟨3,ZAj,[(6,some (5,true)),(7,none),(8,none)]⟩
def ZAp:C:=oS [qO 2 0,qO 3 1,oB 4 (.alloc (.agg Lz3)),qW 5 0] (.seq (oS [qA 7 2 2,qA 8 2 3,qD 9 171 7 8,qM 6 9] (oS [qM 10 6,qK 11 .neq 10 0] (oC 11 [oB 12 (.build Lz3 []),qM 13 6,qS 2 4 12,qM 5 13]))) (oS [qA 14 2 3,qC 15 201 14,qS 2 3 15] (oS [qA 16 2 2,qA 17 2 3,qD 18 220 16 17] (oR [qA 19 2 3,qS 2 4 19,qW 5 0]))))
def ZvO:FnI:=⟨2,ZAp,[(4,some (2,true)),(5,none)]⟩
def ZrT:C:=oS [qB 14 .lss 13 12] (.seq (cX 14 0) (.seq (.block 1 (oS [qM 15 13,qI 16 1 11 13,qL 17 16,qM 5 15,qM 6 17] (oS [qM 18 6,qK 19 .eql 18 (-1),qM 20 19,vM 21 4 20 true,vN 22 21 20 true,vK 23 .gtr 22 0 20 true,qP 24 20 23] (cY 24 (.draw [qF 25 0 3,qL 26 25,uM 27 5 [0,1],uM 28 4 [0,1,2],oM 29 (.iaddr 1 (.t 28) (iN 0)) [0,1,2],uL 30 29 [0,1,2],uM 31 4 [0,1,2,3,4,5],oM 32 (.slice 1 (.t 31) (some (iN 1)) none none) [0,1,2,3,4,5],uI 33 1 26 27 [6,7],qX 1 33 30 3,qM 4 32]) .skip)))) (.ops [qK 34 .add 13 1,qM 13 34])))
def Zze:C:=oS [qO 2 0,qO 3 1] (oS [qA 7 2 2,qA 8 2 3,qD 9 177 7 8,qM 4 9] (oS [qF 10 0 3,qL 11 10,qN 12 11,qW 13 0] (.block 0 (.loop [3,4,11,12,13] [] ZrT))))
def Zvc:FnI:=⟨2,Zze,[]⟩
def code:Nat->Option FnI
 | 3=>some fn3
 | 9=>some fn9
 | 10=>some ZxH
 | 11=>some ZyJ
 | 12=>some Zx4
 | 13=>some Zyx
 | 14=>some ZyT
 | 15=>some ZyE
 | 16=>some ZyP
 | 17=>some ZyW
 | 18=>some ZyR
 | 20=>some ZzN
 | 22=>some Zz3
 | 25=>some ZAn
 | 28=>some ZzB
 | 33=>some ZAA
 | 34=>some ZxX
 | 35=>some Zyq
 | 36=>some ZyK
 | 37=>some ZyI
 | 38=>some ZxB
 | 39=>some ZxA
 | 40=>some ZxD
 | 41=>some Zyf
 | 42=>some ZyX
 | 43=>some Zyl
 | 45=>some Zyh
 | 52=>some ZAG
 | 53=>some ZAM
 | 55=>some ZxW
 | 56=>some Zz0
 | 59=>some Zzh
 | 60=>some Zy3
 | 61=>some ZzQ
 | 62=>some ZxY
 | 63=>some Zyj
 | 64=>some Zx3
 | 65=>some ZyY
 | 66=>some Zu1
 | 67=>some Zx2
 | 68=>some ZxF
 | 69=>some ZyH
 | 70=>some Zyw
 | 71=>some Zyk
 | 83=>some Zzo
 | 84=>some ZAb
 | 85=>some Zza
 | 86=>some ZAc
 | 87=>some Zz8
 | 88=>some Zym
 | 89=>some Zyb
 | 90=>some ZAm
 | 91=>some ZzP
 | 92=>some ZxE
 | 94=>some ZAk
 | 95=>some Zz5
 | 96=>some Zzv
 | 97=>some ZzZ
 | 98=>some ZAy
 | 99=>some ZsQ
 | 100=>some ZvE
 | 108=>some Zxk
 | 109=>some ZuM
 | 110=>some Zxj
 | 159=>some Zxz
 | 160=>some Zvt
 | 161=>some Zt5
 | 162=>some ZvR
 | 163=>some Zxy
 | 164=>some Zv5
 | 165=>some Zuh
 | 166=>some Zup
 | 167=>some Zxd
 | 168=>some Zxx
 | 169=>some ZuV
 | 170=>some ZuB
 | 171=>some Zuu
 | 172=>some Zuz
 | 173=>some ZvN
 | 174=>some Zvs
 | 175=>some ZvB
 | 176=>some Zt9
 | 177=>some ZtT
 | 178=>some Zvl
 | 179=>some ZvZ
 | 180=>some Zt7
 | 181=>some Zv8
 | 182=>some Zvo
 | 183=>some ZvI
 | 184=>some ZtP
 | 185=>some ZvH
 | 186=>some Zuq
 | 187=>some ZtQ
 | 188=>some Zvy
 | 189=>some ZuW
 | 190=>some Zu7
 | 191=>some ZvM
 | 192=>some ZtM
 | 193=>some Zus
 | 194=>some Zuc
 | 195=>some Zvg
 | 196=>some ZuC
 | 197=>some ZuD
 | 198=>some ZvW
 | 199=>some ZuL
 | 200=>some Zvw
 | 201=>some Zu9
 | 202=>some Zut
 | 203=>some Zv2
 | 204=>some Zxg
 | 205=>some ZvS
 | 207=>some Zxf
 | 208=>some Zud
 | 209=>some Zvp
 | 210=>some Zv1
 | 211=>some Zu0
 | 212=>some Zvn
 | 213=>some Zvr
 | 214=>some Zu6
 | 215=>some Zxo
 | 216=>some Zum
 | 217=>some ZtU
 | 218=>some Zvi
 | 219=>some ZvO
 | 220=>some Zvc
 | _=>none
def mode:Nat->Nat
 | 12=>1
 | 13=>1
 | 14=>1
 | 37=>1
 | 45=>1
 | 52=>2
 | 53=>2
 | 62=>1
 | 85=>2
 | 87=>2
 | 110=>2
 | 163=>1
 | 167=>1
 | 170=>2
 | 173=>1
 | 174=>2
 | 175=>2
 | 176=>2
 | 181=>1
 | 182=>1
 | 185=>2
 | 186=>1
 | 190=>2
 | 193=>1
 | 200=>2
 | 201=>1
 | 202=>2
 | 207=>2
 | 211=>2
 | 212=>2
 | 214=>2
 | 220=>2
 | _=>0
def ctx:Ctx:=⟨code,mode⟩
end Go.Proofs.YtgcfmiajkbbmeaaGreat
namespace Go.Proofs.YtgcfmiajkbbmeaaGreatE
open Go
open Go.IntKind (u64 i64 u32 i32 u8)
def Zgq (f:Nat) (us:List Value):Value:=bif isU f then .func (.func f) #[] us.toArray else bif Nat.beq f 2000000 then .func (.method Zgk) us.toArray #[] else .func (.func (unB f)) us.toArray #[]
theorem Zm6 (f:Nat) (us:List Value):(Zgq f us).cells.toList=[Zgq f us]:=by unfold Zgq;cases isU f<;>cases Nat.beq f 2000000<;>rfl
theorem Zp7 (f:Nat) (us:List Value):(Zgq f us).cells = #[Zgq f us]:=by unfold Zgq;cases isU f<;>cases Nat.beq f 2000000<;>rfl
theorem ZlS {f:Nat} (h:isU f=true) (us:List Value):Zgq f us = .func (.func f) #[] us.toArray:=by unfold Zgq;rw[h];rfl
mutual
def ZV (A1 A0 AL:Nat->Prop) (w:World):D->Value->Prop
 | .bool b,u=>u = .bool b
 | .int k n,u=>u = .int k n
 | .str s,u=>u = .string s
 | .list own xs,u=>∃a len cap,u = .slice a len cap/\len=xs.length/\len<=cap/\(∀x∈xs,x.esc=true) /\
   (xs≠[]->∃b off sz,a=some ⟨b,off,none⟩/\(match own with | true=>A1 b | false=>A0 b)/\b<w.heap.size/\Zdl A1 A0 AL w b sz off xs)
 | .agg cs,u=>∃us:List Value,u = .agg us.toArray/\ZR A1 A0 AL w cs us
 | .tup cs,u=>∃us:List Value,u = .tuple us.toArray/\ZR A1 A0 AL w cs us
 | .fn f caps,u=>∃us:List Value,u=Zgq f us/\ZR A1 AL AL w caps us
 | .nilfn,u=>u = .nilFunc
 | .rptr cs,u=>∃b off,u = .pointer (some ⟨b,off,none⟩)/\A0 b/\b<w.heap.size/\ZaQ A1 A0 AL w b off cs
 | .nilp,u=>u = .pointer none
 | .iface t v,u=>∃u',u = .iface t u'/\ZV A1 A0 AL w v u'
 | .nilI,u=>u = .nilIface
def ZR (A1 A0 AL:Nat->Prop) (w:World):List D->List Value->Prop
 | [],us=>us=[]
 | x :: xs,us=>∃u us',us=u :: us'/\ZV A1 A0 AL w x u/\ZR A1 A0 AL w xs us'
def ZaQ (A1 A0 AL:Nat->Prop) (w:World) (b off:Nat):List D->Prop
 | []=>True
 | x :: xs=>(∃u,w.cell? ⟨b,off,none⟩=some u/\ZV A1 A0 AL w x u)/\ZaQ A1 A0 AL w b (off+1) xs
def Zdl (A1 A0 AL:Nat->Prop) (w:World) (b sz off:Nat):List D->Prop
 | []=>True
 | x :: xs=>(∃u,ZV A1 A0 AL w x u/\u.cells.size=sz/\∀k v,u.cells[k]? = some v->w.cell? ⟨b,off+k,none⟩=some v)/\Zdl A1 A0 AL w b sz (off+sz) xs
end
section
variable {A1 A1' A0 A0' AL AL':Nat->Prop} {w w':World}
theorem Zom {b:Nat} (h:w'.heap[b]? = w.heap[b]?) (off:Nat):w'.cell? ⟨b,off,none⟩=w.cell? ⟨b,off,none⟩:=by
 unfold World.cell?;simp only[h]
mutual
theorem ZV.change (A1 A1' A0 A0':Nat->Prop) (h1:∀b,b<w.heap.size->A1 b->A1' b) (h0:∀b,b<w.heap.size->A0 b->A0' b) (hL:∀b,b<w.heap.size->AL b->AL' b)
  (hw:∀b,b<w.heap.size->AL b->w'.heap[b]? = w.heap[b]?) (hs:w.heap.size<=w'.heap.size) (s0:∀b,A0 b->AL b) (s1:∀b,A1 b->AL b) :
  ∀(x:D) (u:Value),ZV A1 A0 AL w x u->ZV A1' A0' AL' w' x u
 | .bool b,u,h=>h
 | .int k n,u,h=>h
 | .str s,u,h=>h
 | .list own xs,u,h=>by
  obtain⟨a,len,cap,e1,e2,e3,e4,e5⟩:=h
  refine⟨a,len,cap,e1,e2,e3,e4,fun hne=>?_⟩
  obtain⟨b,off,sz,f1,f2,f3,f4⟩:=e5 hne
  have hb:AL b:=by
   cases own
   ·exact s0 _ f2
   ·exact s1 _ f2
  refine⟨b,off,sz,f1,?_,by omega,Zdl.change A1 A1' A0 A0' h1 h0 hL hw hs s0 s1 b sz off xs (hw b f3 hb) f4⟩
  cases own
  ·exact h0 _ f3 f2
  ·exact h1 _ f3 f2
 | .agg cs,u,h=>by
  obtain⟨us,e1,e2⟩:=h
  exact⟨us,e1,ZR.change A1 A1' A0 A0' h1 h0 hL hw hs s0 s1 cs us e2⟩
 | .tup cs,u,h=>by
  obtain⟨us,e1,e2⟩:=h
  exact⟨us,e1,ZR.change A1 A1' A0 A0' h1 h0 hL hw hs s0 s1 cs us e2⟩
 | .fn f caps,u,h=>by
  obtain⟨us,e1,e2⟩:=h
  exact⟨us,e1,ZR.change A1 A1' AL AL' h1 hL hL hw hs (fun _ h=>h) s1 caps us e2⟩
 | .nilfn,u,h=>h
 | .rptr cs,u,h=>by
  obtain⟨b,off,e1,e2,e3,e4⟩:=h
  exact⟨b,off,e1,h0 _ e3 e2,by omega,ZaQ.change A1 A1' A0 A0' h1 h0 hL hw hs s0 s1 b off cs (hw b e3 (s0 _ e2)) e4⟩
 | .nilp,u,h=>h
 | .iface t v,u,h=>by
  obtain⟨u',e1,e2⟩:=h
  exact⟨u',e1,ZV.change A1 A1' A0 A0' h1 h0 hL hw hs s0 s1 v u' e2⟩
 | .nilI,u,h=>h
theorem ZR.change (A1 A1' A0 A0':Nat->Prop) (h1:∀b,b<w.heap.size->A1 b->A1' b) (h0:∀b,b<w.heap.size->A0 b->A0' b) (hL:∀b,b<w.heap.size->AL b->AL' b)
  (hw:∀b,b<w.heap.size->AL b->w'.heap[b]? = w.heap[b]?) (hs:w.heap.size<=w'.heap.size) (s0:∀b,A0 b->AL b) (s1:∀b,A1 b->AL b) :
  ∀(xs:List D) (us:List Value),ZR A1 A0 AL w xs us->ZR A1' A0' AL' w' xs us
 | [],us,h=>h
 | x :: xs,us,h=>by
  obtain⟨u,us',e1,e2,e3⟩:=h
  exact⟨u,us',e1,ZV.change A1 A1' A0 A0' h1 h0 hL hw hs s0 s1 x u e2,ZR.change A1 A1' A0 A0' h1 h0 hL hw hs s0 s1 xs us' e3⟩
theorem ZaQ.change (A1 A1' A0 A0':Nat->Prop) (h1:∀b,b<w.heap.size->A1 b->A1' b) (h0:∀b,b<w.heap.size->A0 b->A0' b) (hL:∀b,b<w.heap.size->AL b->AL' b)
  (hw:∀b,b<w.heap.size->AL b->w'.heap[b]? = w.heap[b]?) (hs:w.heap.size<=w'.heap.size) (s0:∀b,A0 b->AL b) (s1:∀b,A1 b->AL b) (b off:Nat) :
  ∀(xs:List D),w'.heap[b]? = w.heap[b]? -> ZaQ A1 A0 AL w b off xs->ZaQ A1' A0' AL' w' b off xs
 | [],_,h=>trivial
 | x :: xs,hb,h=>by
  obtain⟨⟨u,e1,e2⟩,e3⟩:=h
  exact⟨⟨u,by rw[Zom hb];exact e1,ZV.change A1 A1' A0 A0' h1 h0 hL hw hs s0 s1 x u e2⟩,ZaQ.change A1 A1' A0 A0' h1 h0 hL hw hs s0 s1 b (off+1) xs hb e3⟩
theorem Zdl.change (A1 A1' A0 A0':Nat->Prop) (h1:∀b,b<w.heap.size->A1 b->A1' b) (h0:∀b,b<w.heap.size->A0 b->A0' b) (hL:∀b,b<w.heap.size->AL b->AL' b)
  (hw:∀b,b<w.heap.size->AL b->w'.heap[b]? = w.heap[b]?) (hs:w.heap.size<=w'.heap.size) (s0:∀b,A0 b->AL b) (s1:∀b,A1 b->AL b) (b sz off:Nat) :
  ∀(xs:List D),w'.heap[b]? = w.heap[b]? -> Zdl A1 A0 AL w b sz off xs->Zdl A1' A0' AL' w' b sz off xs
 | [],_,h=>trivial
 | x :: xs,hb,h=>by
  obtain⟨⟨u,e1,e2,e3⟩,e4⟩:=h
  exact⟨⟨u,ZV.change A1 A1' A0 A0' h1 h0 hL hw hs s0 s1 x u e1,e2,fun k v hk=>by rw[Zom hb];exact e3 k v hk⟩,
   Zdl.change A1 A1' A0 A0' h1 h0 hL hw hs s0 s1 b sz (off+sz) xs hb e4⟩
end
mutual
theorem ZV.lift (h1:∀b,A1 b->A1' b):∀(x:D) (u:Value),x.esc=true->ZV A1 A0 AL w x u->ZV A1' A0' AL' w x u
 | .bool b,u,_,h=>h
 | .int k n,u,_,h=>h
 | .str s,u,_,h=>h
 | .list own xs,u,he,h=>by
  obtain⟨a,len,cap,e1,e2,e3,e4,e5⟩:=h
  simp only[D.esc] at he
  subst he
  refine⟨a,len,cap,e1,e2,e3,e4,fun hne=>?_⟩
  obtain⟨b,off,sz,f1,f2,f3,f4⟩:=e5 hne
  exact⟨b,off,sz,f1,h1 _ f2,f3,Zdl.lift h1 b sz off xs e4 f4⟩
 | .agg cs,u,he,h=>by
  obtain⟨us,e1,e2⟩:=h
  exact⟨us,e1,ZR.lift h1 cs us he e2⟩
 | .tup cs,u,he,h=>by simp[D.esc] at he
 | .fn f caps,u,he,h=>by
  obtain⟨us,e1,e2⟩:=h
  simp only[D.esc,List.isEmpty_iff] at he
  subst he
  exact⟨us,e1,e2⟩
 | .nilfn,u,_,h=>h
 | .rptr cs,u,he,h=>by simp[D.esc] at he
 | .nilp,u,_,h=>h
 | .iface t v,u,he,h=>by
  obtain⟨u',e1,e2⟩:=h
  exact⟨u',e1,ZV.lift h1 v u' he e2⟩
 | .nilI,u,_,h=>h
theorem ZR.lift (h1:∀b,A1 b->A1' b):∀(xs:List D) (us:List Value),D.escs xs=true->ZR A1 A0 AL w xs us->ZR A1' A0' AL' w xs us
 | [],us,_,h=>h
 | x :: xs,us,he,h=>by
  obtain⟨u,us',e1,e2,e3⟩:=h
  simp only[D.escs,Bool.and_eq_true] at he
  exact⟨u,us',e1,ZV.lift h1 x u he.1 e2,ZR.lift h1 xs us' he.2.2 e3⟩
theorem Zdl.lift (h1:∀b,A1 b->A1' b) (b sz off:Nat):∀(xs:List D),(∀x∈xs,x.esc=true)->Zdl A1 A0 AL w b sz off xs->Zdl A1' A0' AL' w b sz off xs
 | [],_,h=>trivial
 | x :: xs,he,h=>by
  obtain⟨⟨u,e1,e2,e3⟩,e4⟩:=h
  exact⟨⟨u,ZV.lift h1 x u (he x (by simp)) e1,e2,e3⟩,Zdl.lift h1 b sz (off+sz) xs (fun y hy=>he y (by simp[hy])) e4⟩
end
end
theorem ZR.liftT {A1 A1' A0 A0' AL AL':Nat->Prop}{w:World} (h1:∀b,A1 b->A1' b):∀(xs:List D) (us:List Value),ZrH xs=true->ZR A1 A0 AL w xs us->ZR A1' A0' AL' w xs us
 | [],us,_,h=>h
 | x :: xs,us,he,h=>by
  obtain⟨u,us',e1,e2,e3⟩:=h
  simp only[ZrH,Bool.and_eq_true] at he
  exact⟨u,us',e1,ZV.lift h1 x u he.1 e2,ZR.liftT h1 xs us' he.2 e3⟩
theorem Zy {α:Type}:∀(l:List α) (n:Nat),nth l n=l[n]?
 | [],n=>by simp[nth]
 | a :: l,0=>by simp[nth]
 | a :: l,n+1=>by simp[nth,Zy l n]
theorem Z3 {α:Type}:∀(l:List α) (n:Nat) (v:α),ZbZ l n v=l.set n v
 | [],n,v=>by simp[ZbZ]
 | a :: l,0,v=>by simp[ZbZ]
 | a :: l,n+1,v=>by simp[ZbZ,Z3 l n v]
theorem ZlO {α:Type} (l:List α) (i:Int) (x:α) (h:ZG l i=some x):0<=i/\i<l.length/\l[i.toNat]? = some x:=by
 unfold ZG at h
 by_cases h0:0<=i
 ·simp only[h0,decide_true,cond_true,Zy] at h
  have:=(List.getElem?_eq_some_iff.1 h).1
  exact⟨h0,by omega,h⟩
 ·simp[h0] at h
section
variable {A1 A0 AL:Nat->Prop} {w:World}
theorem Zgw {b sz:Nat}:∀(xs:List D) (off j:Nat) (x:D),Zdl A1 A0 AL w b sz off xs->xs[j]? = some x ->
  ∃u,ZV A1 A0 AL w x u/\u.cells.size=sz/\∀k v,u.cells[k]? = some v->w.cell? ⟨b,off+j*sz+k,none⟩=some v
 | [],off,j,x,_,hj=>by simp at hj
 | y :: xs,off,0,x,h,hj=>by
  simp at hj;subst hj
  obtain⟨⟨u,e1,e2,e3⟩,_⟩:=h
  exact⟨u,e1,e2,by simpa using e3⟩
 | y :: xs,off,j+1,x,h,hj=>by
  obtain⟨u,e1,e2,e3⟩:=Zgw xs (off+sz) j x h.2 (by simpa using hj)
  exact⟨u,e1,e2,fun k v hk=>by rw[<- e3 k v hk];congr 2;rw[Nat.succ_mul];omega⟩
theorem ZgS {b sz:Nat}:∀(xs:List D) (off:Nat),(∀(j:Nat) x,xs[j]? = some x->∃u,ZV A1 A0 AL w x u/\u.cells.size=sz/\∀k v,u.cells[k]? = some v->w.cell? ⟨b,off+j*sz+k,none⟩=some v) ->
  Zdl A1 A0 AL w b sz off xs
 | [],off,_=>trivial
 | y :: xs,off,h=>by
  refine⟨by simpa using h 0 y (by simp),ZgS xs (off+sz) fun j x hj=>?_⟩
  obtain⟨u,e1,e2,e3⟩:=h (j+1) x (by simpa using hj)
  exact⟨u,e1,e2,fun k v hk=>by rw[<- e3 k v hk];congr 2;rw[Nat.succ_mul];omega⟩
theorem Zf0 {b:Nat}:∀(xs:List D) (off j:Nat) (x:D),ZaQ A1 A0 AL w b off xs->xs[j]? = some x->∃u,w.cell? ⟨b,off+j,none⟩=some u/\ZV A1 A0 AL w x u
 | [],off,j,x,_,hj=>by simp at hj
 | y :: xs,off,0,x,h,hj=>by simp at hj;subst hj;simpa using h.1
 | y :: xs,off,j+1,x,h,hj=>by
  have:=Zf0 xs (off+1) j x h.2 (by simpa using hj)
  rwa [show off+1+j=off+(j+1) from by omega] at this
theorem ZeL {b:Nat}:∀(xs:List D) (off:Nat),(∀(j:Nat) x,xs[j]? = some x->∃u,w.cell? ⟨b,off+j,none⟩=some u/\ZV A1 A0 AL w x u)->ZaQ A1 A0 AL w b off xs
 | [],off,_=>trivial
 | y :: xs,off,h=>⟨by simpa using h 0 y (by simp),ZeL xs (off+1) fun j x hj=>by
   have:=h (j+1) x (by simpa using hj)
   rwa [show off+(j+1)=off+1+j from by omega] at this⟩
theorem Zn2 {b:Nat} (xs:List D) (off n:Nat) (h:ZaQ A1 A0 AL w b off xs):ZaQ A1 A0 AL w b (off+n) (xs.drop n):=
 ZeL _ _ fun j x hj=>by
  have:=Zf0 xs off (n+j) x h (by simpa using hj)
  rwa [<- Nat.add_assoc] at this
theorem Zdn:∀(xs:List D) (us:List Value) (j:Nat) (x:D),ZR A1 A0 AL w xs us->xs[j]? = some x->∃u,us[j]? = some u/\ZV A1 A0 AL w x u
 | [],us,j,x,_,hj=>by simp at hj
 | y :: xs,us,0,x,h,hj=>by
  obtain⟨u,us',rfl,e1,e2⟩:=h
  simp at hj;subst hj
  exact⟨u,by simp,e1⟩
 | y :: xs,us,j+1,x,h,hj=>by
  obtain⟨u,us',rfl,e1,e2⟩:=h
  simpa using Zdn xs us' j x e2 (by simpa using hj)
theorem Zn6:∀(xs:List D) (us:List Value),ZR A1 A0 AL w xs us->us.length=xs.length
 | [],us,h=>by simp only[ZR] at h;subst h;rfl
 | y :: xs,us,h=>by
  obtain⟨u,us',rfl,e1,e2⟩:=h
  simp[Zn6 xs us' e2]
end
structure RP where
 B1:Nat->Prop
 B0:Nat->Prop
 M:Nat->Option (Option Nat)
 H:Zc
def RP.live (R:RP) (c:Nat):Prop:=∃i,ZE R.H i=true/\R.M i=some (some c)
def RP.AL (R:RP) (c:Nat):Prop:=¬R.live c
def RP.A0 (R:RP) (c:Nat):Prop:=¬R.live c/\¬R.B0 c
def RP.A1 (R:RP) (c:Nat):Prop:=¬R.live c/\¬R.B1 c
abbrev RP.den (R:RP) (w:World) (x:D) (u:Value):Prop:=ZV R.A1 R.A0 R.AL w x u
def Zo8 (w:World) (m:Option Nat) (xs:List D) (sz o len:Nat) (u:Value):Prop:=
 o+len<=xs.length/\∃a cap,u = .slice a len cap/\len<=cap /\
  ((cap=0/\o=xs.length)∨∃c cs el fr,m=some c/\a=some ⟨c,o*sz,none⟩/\w.heap[c]? = some (.cells cs el fr)/\cs.size=(o+cap)*sz)
mutual
def ZS (R:RP) (w:World):V->Value->Prop
 | .d x,u=>R.den w x u
 | .bad,_=>True
 | .ptr b o,u=>∃c,R.M b=some (some c)/\u = .pointer (some ⟨c,o,none⟩)
 | .eptr b sz i k,u=>∃c,R.M b=some (some c)/\u = .pointer (some ⟨c,i*sz+k,none⟩)
 | .sl b sz,u=>(∃a n c,u = .slice a n c)/\∃m,R.M b=some m/\∀xs,nth R.H b=some (.arr sz xs)->Zo8 w m xs sz 0 xs.length u
 | .slp b sz o len,u=>(∃a n c,u = .slice a n c)/\∃m,R.M b=some m/\∀xs,nth R.H b=some (.arr sz xs)->Zo8 w m xs sz o len u
 | .nilsl _,u=>∃a,u = .slice a 0 0
 | .agg cs,u=>∃us:List Value,u = .agg us.toArray/\ZL R w cs us
 | .tup cs,u=>∃us:List Value,u = .tuple us.toArray/\ZL R w cs us
 | .fn f caps,u=>∃us:List Value,u=Zgq f us/\ZL R w caps us
 | .mp b,u=>(∃a,u = .map a)/\∃m,R.M b=some m/\∀es,nth R.H b=some (.mp es)->∃c,m=some c/\u = .map (some c)
def ZL (R:RP) (w:World):List V->List Value->Prop
 | [],us=>us=[]
 | x :: xs,us=>∃u us',us=u :: us'/\ZS R w x u/\ZL R w xs us'
end
end Go.Proofs.YtgcfmiajkbbmeaaGreatE
namespace Go.Proofs.YtgcfmiajkbbmeaaGreatE
open Go
open Go.IntKind (u64 i64 u32 i32 u8)
def ZpR (fr:Nat×Nat):Prop:=fr.2<=fr.1
theorem ZpR.not {w:World}{c:Nat}{cs:Array Value}{el:TypeId}{fr:Nat×Nat} (h:ZpR fr) (hc:w.heap[c]? = some (.cells cs el fr)) (o:Nat):w.frozen? ⟨c,o,none⟩=false:=by
 unfold ZpR at h
 simp only[World.frozen?,hc]
 by_cases h1:fr.1<=o
 ·by_cases h2:o<fr.2
  ·omega
  ·simp[h2]
 ·simp[h1]
def ZcV:D->Value
 | .bool b=>.bool b
 | .int k n=>.int k n
 | _=>undef
def Zgo:D->Value
 | .agg cs=>.agg (cs.map ZcV).toArray
 | x=>ZcV x
def Zi2:D->Bool
 | .agg cs=>cs.all Ze2
 | x=>Ze2 x
structure ZBu (w:World) (c:Nat) (es:List (D×D)):Prop where
 mk ::
 ex:∃mes clock,w.heap[c]? = some (.map mes clock)/\mes.toList.map (fun e=>(e.key,e.val))=es.map (fun q=>(Zgo q.1,ZcV q.2))
 fl:∀q∈es,Zi2 q.1=true/\Ze2 q.2=true
def ZeI (R:RP) (w:World) (m:Option Nat):Blk->Prop
 | .dead=>True
 | .cells vs=>∃c cs el fr,m=some c/\w.heap[c]? = some (.cells cs el fr)/\ZpR fr/\vs.length<=cs.size/\∀(k:Nat) v,vs[k]? = some v->∃u,cs[k]? = some u/\ZS R w v u
 | .arr sz xs=>0<sz/\(∀x∈xs,x.esc=true)/\((m=none/\xs=[])∨∃c cs el,m=some c/\w.heap[c]? = some (.cells cs el (0,0))/\xs.length*sz<=cs.size /\
   ∀(j:Nat) x,xs[j]? = some x->∃u,R.den w x u/\u.cells.size=sz/\∀(k:Nat) v,u.cells[k]? = some v->cs[j*sz+k]? = some v)
 | .mp es=>∃c,m=some c/\ZBu w c es
structure RP.OK (R:RP) (w:World):Prop where
 b01:∀c,R.B0 c->R.B1 c
 al:∀(i:Nat) blk,R.H[i]? = some blk->blk ≠ .dead->∃m,R.M i=some m
 inj:∀i j c,ZE R.H i=true->ZE R.H j=true->R.M i=some (some c)->R.M j=some (some c)->i=j
 lt:∀i c,R.M i=some (some c)->c<w.heap.size
 blk:∀(i:Nat) m blk,R.H[i]? = some blk->R.M i=some m->ZeI R w m blk
 nb:∀i c,ZE R.H i=true->R.M i=some (some c)->¬R.B1 c
 bl:∀c,R.B1 c->c<w.heap.size
theorem Zf {H:Zc}{i:Nat}:ZE H i=true↔∃blk,H[i]? = some blk/\blk ≠ .dead:=by
 unfold ZE
 rw[Zy]
 cases h:H[i]? with
 | none=>simp
 | some blk=>cases blk<;>simp
def Blk.like:Blk->Blk->Prop
 | .cells _,.cells _=>True
 | .arr sz xs,.arr sz' ys=>sz=sz'/\ys.length=xs.length
 | .mp _,.mp _=>True
 | _,_=>False
structure Ext (R:RP) (w:World) (R':RP) (w':World):Prop where
 m:∀i x,R.M i=some x->R'.M i=some x
 h:∀(i:Nat) x blk,R.M i=some x->R'.H[i]? = some blk->blk ≠ .dead->∃old,R.H[i]? = some old/\old.like blk
 b1:R'.B1=R.B1
 b0:R'.B0=R.B0
 same:∀(b:Nat),b<w.heap.size->¬R.live b->w'.heap[b]? = w.heap[b]?
 row:∀(b:Nat) cs el fr,w.heap[b]? = some (Obj.cells cs el fr)->∃cs' el' fr',w'.heap[b]? = some (Obj.cells cs' el' fr')/\cs'.size=cs.size
 grow:w.heap.size<=w'.heap.size
 liv:∀c,c<w.heap.size->R'.live c->R.live c
 os:w'.os=w.os
 tape:w'.tape=w.tape
 output:w'.output=w.output
theorem Blk.like_refl {b:Blk} (h:b ≠ .dead):b.like b:=by cases b<;>simp_all [Blk.like]
theorem Ext.refl (R:RP) (w:World):Ext R w R w:=
 ⟨fun _ _ h=>h,fun i x blk _ h hd=>⟨blk,h,Blk.like_refl hd⟩,rfl,rfl,fun _ _ _=>rfl,fun _ cs el fr h=>⟨cs,el,fr,h,rfl⟩,Nat.le_refl _,fun _ _ h=>h,rfl,rfl,rfl⟩
theorem Blk.like_trans {a b c:Blk} (h:a.like b) (k:b.like c):a.like c:=by
 cases a<;>cases b<;>cases c<;>simp_all [Blk.like]
theorem Blk.like_ne {a b:Blk} (h:a.like b):a ≠ .dead:=by cases a<;>cases b<;>simp_all [Blk.like]
theorem Ext.trans {R R1 R2:RP}{w w1 w2:World} (h:Ext R w R1 w1) (k:Ext R1 w1 R2 w2):Ext R w R2 w2 where
 m:=fun i x hx=>k.m i x (h.m i x hx)
 h:=fun i x blk hx hb hd=>by
  obtain⟨o1,e1,e2⟩:=k.h i x blk (h.m i x hx) hb hd
  obtain⟨o,f1,f2⟩:=h.h i x o1 hx e1 (Blk.like_ne e2)
  exact⟨o,f1,Blk.like_trans f2 e2⟩
 b1:=k.b1.trans h.b1
 b0:=k.b0.trans h.b0
 same:=fun b hb hl=>(k.same b (Nat.lt_of_lt_of_le hb h.grow) (fun hl'=>hl (h.liv b hb hl'))).trans (h.same b hb hl)
 row:=fun b cs el fr hb=>by
  obtain⟨cs1,el1,fr1,e1,e2⟩:=h.row b cs el fr hb
  obtain⟨cs2,el2,fr2,f1,f2⟩:=k.row b cs1 el1 fr1 e1
  exact⟨cs2,el2,fr2,f1,f2.trans e2⟩
 grow:=Nat.le_trans h.grow k.grow
 liv:=fun c hc hl=>h.liv c hc (k.liv c (Nat.lt_of_lt_of_le hc h.grow) hl)
 os:=k.os.trans h.os
 tape:=k.tape.trans h.tape
 output:=k.output.trans h.output
section
variable {R R':RP} {w w':World}
theorem Ext.den (e:Ext R w R' w') (hb:∀c,R.B0 c->R.B1 c) {x:D}{u:Value} (h:R.den w x u):R'.den w' x u:=by
 refine ZV.change _ _ _ _ ?_ ?_ ?_ ?_ e.grow ?_ ?_ x u h
 ·exact fun b hb' ⟨h1,h2⟩=>⟨fun hl=>h1 (e.liv b hb' hl),by rw[e.b1];exact h2⟩
 ·exact fun b hb' ⟨h1,h2⟩=>⟨fun hl=>h1 (e.liv b hb' hl),by rw[e.b0];exact h2⟩
 ·exact fun b hb' h1 hl=>h1 (e.liv b hb' hl)
 ·exact fun b hb' hl=>e.same b hb' hl
 ·exact fun b h=>h.1
 ·exact fun b h=>h.1
theorem Ext.slAt (e:Ext R w R' w') {m:Option Nat}{xs ys:List D}{sz o len:Nat}{u:Value} (hl:ys.length=xs.length) (h:Zo8 w m xs sz o len u):Zo8 w' m ys sz o len u:=by
 obtain⟨h1,a,cap,h2,h3,h4⟩:=h
 refine⟨by omega,a,cap,h2,h3,?_⟩
 rcases h4 with⟨h4,h5⟩ | ⟨c,cs,el,fr,h4,h5,h6,h7⟩
 ·exact .inl ⟨h4,by omega⟩
 ·obtain⟨cs',el',fr',f1,f2⟩:=e.row c cs el fr h6
  exact .inr ⟨c,cs',el',fr',h4,h5,f1,by omega⟩
mutual
theorem Ext.denV (e:Ext R w R' w') (hb:∀c,R.B0 c->R.B1 c):∀(v:V) (u:Value),ZS R w v u->ZS R' w' v u
 | .d x,u,h=>e.den hb h
 | .bad,_,h=>h
 | .ptr b o,u,h=>by
  obtain⟨c,h1,h2⟩:=h
  exact⟨c,e.m b _ h1,h2⟩
 | .eptr b sz i k,u,h=>by
  obtain⟨c,h1,h2⟩:=h
  exact⟨c,e.m b _ h1,h2⟩
 | .sl b sz,u,h=>by
  obtain⟨h0,m,h1,h2⟩:=h
  refine⟨h0,m,e.m b m h1,fun xs hc=>?_⟩
  rw[Zy] at hc
  obtain⟨old,f1,f2⟩:=e.h b m _ h1 hc (by simp)
  cases old<;>simp[Blk.like] at f2
  rename_i sz0 xs0
  obtain⟨rfl,f2⟩:=f2
  have:=e.slAt f2 (h2 xs0 (by rw[Zy];exact f1))
  rw[f2]
  exact this
 | .slp b sz o len,u,h=>by
  obtain⟨h0,m,h1,h2⟩:=h
  refine⟨h0,m,e.m b m h1,fun xs hc=>?_⟩
  rw[Zy] at hc
  obtain⟨old,f1,f2⟩:=e.h b m _ h1 hc (by simp)
  cases old<;>simp[Blk.like] at f2
  rename_i sz0 xs0
  obtain⟨rfl,f2⟩:=f2
  exact e.slAt f2 (h2 xs0 (by rw[Zy];exact f1))
 | .nilsl sz,u,h=>h
 | .agg cs,u,h=>by
  obtain⟨us,h1,h2⟩:=h
  exact⟨us,h1,Ext.denVs e hb cs us h2⟩
 | .tup cs,u,h=>by
  obtain⟨us,h1,h2⟩:=h
  exact⟨us,h1,Ext.denVs e hb cs us h2⟩
 | .fn f caps,u,h=>by
  obtain⟨us,h1,h2⟩:=h
  exact⟨us,h1,Ext.denVs e hb caps us h2⟩
 | .mp b,u,h=>by
  obtain⟨h0,m,h1,h2⟩:=h
  refine⟨h0,m,e.m b m h1,fun es hc=>?_⟩
  rw[Zy] at hc
  obtain⟨old,f1,f2⟩:=e.h b m _ h1 hc (by simp)
  cases old<;>simp[Blk.like] at f2
  rename_i es0
  exact h2 es0 (by rw[Zy];exact f1)
theorem Ext.denVs (e:Ext R w R' w') (hb:∀c,R.B0 c->R.B1 c):∀(vs:List V) (us:List Value),ZL R w vs us->ZL R' w' vs us
 | [],us,h=>h
 | v :: vs,us,h=>by
  obtain⟨u,us',h1,h2,h3⟩:=h
  exact⟨u,us',h1,Ext.denV e hb v u h2,Ext.denVs e hb vs us' h3⟩
end
theorem Ext.blkOK (e:Ext R w R' w') (hb:∀c,R.B0 c->R.B1 c) {m:Option Nat}{blk:Blk} (hs:∀(c:Nat),m=some c->w'.heap[c]? = w.heap[c]?) (h:ZeI R w m blk):ZeI R' w' m blk:=by
 cases blk with
 | dead=>trivial
 | cells vs=>
  obtain⟨c,cs,el,fr,h1,h2,h3,h4,h5⟩:=h
  refine⟨c,cs,el,fr,h1,by rw[hs c h1];exact h2,h3,h4,fun k v hk=>?_⟩
  obtain⟨u,f1,f2⟩:=h5 k v hk
  exact⟨u,f1,e.denV hb v u f2⟩
 | arr sz xs=>
  obtain⟨h0,h1,h2⟩:=h
  refine⟨h0,h1,?_⟩
  rcases h2 with h2 | ⟨c,cs,el,h3,h4,h5,h6⟩
  ·exact .inl h2
  ·refine .inr ⟨c,cs,el,h3,by rw[hs c h3];exact h4,h5,fun j x hj=>?_⟩
   obtain⟨u,f1,f2,f3⟩:=h6 j x hj
   exact⟨u,e.den hb f1,f2,f3⟩
 | mp es=>
  obtain⟨c,h1,⟨mes,clock,h2,h3⟩,h4⟩:=h
  exact⟨c,h1,⟨mes,clock,by rw[hs c h1];exact h2,h3⟩,h4⟩
end
theorem Ext.draw {R:RP}{w w':World} (hh:w'.heap=w.heap) (ho:w'.os=w.os) (ht:w'.tape=w.tape) (hp:w'.output=w.output):Ext R w R w':=
 ⟨fun _ _ h=>h,fun i x blk _ h hd=>⟨blk,h,Blk.like_refl hd⟩,rfl,rfl,fun _ _ _=>by rw[hh],fun _ cs el fr h=>⟨cs,el,fr,by rw[hh];exact h,rfl⟩,by rw[hh];exact Nat.le_refl _,fun _ _ h=>h,ho,ht,hp⟩
theorem RP.OK.draw {R:RP}{w w':World} (h:R.OK w) (hh:w'.heap=w.heap) (ho:w'.os=w.os) (ht:w'.tape=w.tape) (hp:w'.output=w.output):R.OK w':=
 ⟨h.b01,h.al,h.inj,fun i c hc=>by rw[hh];exact h.lt i c hc,fun i m blk h1 h2=>(Ext.draw (R:=R) hh ho ht hp).blkOK h.b01 (fun c _=>by rw[hh]) (h.blk i m blk h1 h2),h.nb,fun c hc=>by rw[hh];exact h.bl c hc⟩
theorem Ext.new {R:RP}{w:World}{H':Zc}{n:Nat}{blk:Blk}{m:Option Nat} (o:Obj) (hn:R.M n=none) (hH:∀(i:Nat),i≠n->H'[i]? = R.H[i]?) (hb:H'[n]? = some blk)
  (hm:m=none∨m=some w.heap.size) (lt:∀i c,R.M i=some (some c)->c<w.heap.size) (al:∀(i:Nat) blk,R.H[i]? = some blk->blk ≠ .dead->∃m,R.M i=some m) :
  Ext R w { R with M:=fun i=>if i=n then some m else R.M i,H:=H' } (w.alloc o) where
 m:=fun i x hx=>by
  have:i≠n:=fun e=>by rw[e,hn] at hx;cases hx
  simp[this,hx]
 h:=fun i x blk' hx hb' hd=>by
  have:i≠n:=fun e=>by rw[e,hn] at hx;cases hx
  simp only[hH i this] at hb'
  exact⟨blk',hb',Blk.like_refl hd⟩
 b1:=rfl
 b0:=rfl
 same:=fun b hb' _=>Go.RowKit.Below.heap_alloc _ _ _ hb'
 row:=fun b cs el fr hb'=>by
  have hlt:b<w.heap.size:=by
   rcases Nat.lt_or_ge b w.heap.size with h | h
   ·exact h
   ·rw[Array.getElem?_eq_none h] at hb';cases hb'
  exact⟨cs,el,fr,by rw[Go.RowKit.Below.heap_alloc _ _ _ hlt];exact hb',rfl⟩
 grow:=by simp
 liv:=fun c hc ⟨i,h1,h2⟩=>by
  by_cases e:i=n
  ·subst e
   simp only[if_true] at h2
   rcases hm with h | h
   ·rw[h] at h2;cases h2
   ·rw[h] at h2;cases h2;omega
  ·simp only[e,if_false] at h2
   refine⟨i,?_,h2⟩
   rw[Zf] at h1 ⊢
   obtain⟨b',f1,f2⟩:=h1
   exact⟨b',by rw[<- hH i e];exact f1,f2⟩
 os:=rfl
 tape:=rfl
 output:=rfl
theorem RP.OK.new {R:RP}{w:World}{H':Zc}{n:Nat}{blk:Blk}{m:Option Nat}{o:Obj} (h:R.OK w) (hn:R.M n=none) (hH:∀(i:Nat),i≠n->H'[i]? = R.H[i]?) (hb:H'[n]? = some blk)
  (hm:m=none∨m=some w.heap.size)
  (hk:Ext R w { R with M:=fun i=>if i=n then some m else R.M i,H:=H' } (w.alloc o)->ZeI { R with M:=fun i=>if i=n then some m else R.M i,H:=H' } (w.alloc o) m blk) :
  RP.OK { R with M:=fun i=>if i=n then some m else R.M i,H:=H' } (w.alloc o):=by
 have e:=Ext.new (R:=R) (w:=w) (H':=H') (n:=n) (blk:=blk) (m:=m) o hn hH hb hm h.lt h.al
 refine⟨h.b01,?_,?_,?_,?_,?_,fun c hc=>by have:=h.bl c hc;simp;omega⟩
 ·intro i blk' hi hd
  by_cases ei:i=n
  ·exact⟨m,by simp[ei]⟩
  ·simp only[hH i ei] at hi
   obtain⟨x,hx⟩:=h.al i blk' hi hd
   exact⟨x,by simp[ei,hx]⟩
 ·intro i j c hi hj h1 h2
  simp only at h1 h2
  by_cases ei:i=n<;>by_cases ej:j=n
  ·rw[ei,ej]
  ·rw[if_pos ei] at h1;rw[if_neg ej] at h2
   have:=h.lt j c h2
   rcases hm with h' | h'<;>rw[h'] at h1<;>cases h1
   omega
  ·rw[if_neg ei] at h1;rw[if_pos ej] at h2
   have:=h.lt i c h1
   rcases hm with h' | h'<;>rw[h'] at h2<;>cases h2
   omega
  ·rw[if_neg ei] at h1;rw[if_neg ej] at h2
   have l1:ZE R.H i=true:=by rw[Zf] at hi ⊢;obtain⟨b',f1,f2⟩:=hi;exact⟨b',by rw[<- hH i ei];exact f1,f2⟩
   have l2:ZE R.H j=true:=by rw[Zf] at hj ⊢;obtain⟨b',f1,f2⟩:=hj;exact⟨b',by rw[<- hH j ej];exact f1,f2⟩
   exact h.inj i j c l1 l2 h1 h2
 ·intro i c hc
  simp only at hc
  by_cases ei:i=n
  ·rw[if_pos ei] at hc
   rcases hm with h' | h'<;>rw[h'] at hc<;>cases hc
   simp
  ·rw[if_neg ei] at hc
   have:=h.lt i c hc
   simp;omega
 ·intro i x blk' hi hx
  simp only at hi hx
  by_cases ei:i=n
  ·subst ei
   rw[if_pos rfl] at hx
   cases hx
   rw[hb] at hi
   cases hi
   exact hk e
  ·rw[if_neg ei] at hx
   rw[hH i ei] at hi
   refine e.blkOK h.b01 (fun c hc=>?_) (h.blk i x blk' hi hx)
   exact Go.RowKit.Below.heap_alloc _ _ _ (h.lt i c (by rw[hx,hc]))
 ·intro i c hl hc hb1
  simp only at hc hb1
  by_cases ei:i=n
  ·rw[if_pos ei] at hc
   rcases hm with h' | h'<;>rw[h'] at hc<;>cases hc
   exact absurd (h.bl _ hb1) (by omega)
  ·rw[if_neg ei] at hc
   refine h.nb i c ?_ hc hb1
   rw[Zf] at hl ⊢;obtain⟨b',f1,f2⟩:=hl;exact⟨b',by rw[<- hH i ei];exact f1,f2⟩
theorem Ext.kill {R:RP}{w:World}{H':Zc} (hH:∀(i:Nat) blk,H'[i]? = some blk->blk ≠ .dead->R.H[i]? = some blk):Ext R w { R with H:=H' } w:=
 ⟨fun _ _ h=>h,fun i x blk _ h hd=>⟨blk,hH i blk h hd,Blk.like_refl hd⟩,rfl,rfl,fun _ _ _=>rfl,fun _ cs el fr h=>⟨cs,el,fr,h,rfl⟩,Nat.le_refl _,
  fun c _ ⟨i,h1,h2⟩=>by
   rw[Zf] at h1
   obtain⟨blk,f1,f2⟩:=h1
   exact⟨i,Zf.2 ⟨blk,hH i blk f1 f2,f2⟩,h2⟩,rfl,rfl,rfl⟩
theorem RP.OK.kill {R:RP}{w:World}{H':Zc} (h:R.OK w) (hH:∀(i:Nat) blk,H'[i]? = some blk->blk ≠ .dead->R.H[i]? = some blk):RP.OK { R with H:=H' } w:=by
 have e:=Ext.kill (R:=R) (w:=w) hH
 have lv:∀i,ZE H' i=true->ZE R.H i=true:=fun i hi=>by
  rw[Zf] at hi ⊢
  obtain⟨blk,f1,f2⟩:=hi
  exact⟨blk,hH i blk f1 f2,f2⟩
 refine⟨h.b01,fun i blk hi hd=>h.al i blk (hH i blk hi hd) hd,fun i j c hi hj=>h.inj i j c (lv i hi) (lv j hj),h.lt,fun i m blk hi hm=>?_,fun i c hl=>h.nb i c (lv i hl),h.bl⟩
 by_cases hd:blk = .dead
 ·subst hd;trivial
 ·exact e.blkOK h.b01 (fun _ _=>rfl) (h.blk i m blk (hH i blk hi hd) hm)
end Go.Proofs.YtgcfmiajkbbmeaaGreatE
namespace Go.Proofs.YtgcfmiajkbbmeaaGreatE
open Go
open Go.IntKind (u64 i64 u32 i32 u8)
def ZaW (P:Program) (o:Oper) (a:Act) (w:World) (Post:Value->World->Prop):Prop:=
 (∃u w',(execOp a.eval o).run P w = .ok (.value u) w'/\Post u w')∨(∃w',(execOp a.eval o).run P w = .ok .skip w'/\Post undef w') ∨
 (∃f args w',(execOp a.eval o).run P w = .ok (.enter f args) w'/\Calls P f args w' fun e w''=>∃u,e = .returned u/\Post u w'')
theorem ZaW.wp {P:Program}{o:Oper}{a:Act}{w:World}{Post:Value->World->Prop}{K:Act->World->Prop}{Q:Exit->Act->World->Prop}
  (h:ZaW P o a w Post) (hK:∀u w',Post u w'->K (a.put o.dst u) w'):o.wp P a w K Q:=by
 unfold Oper.wp
 rcases h with⟨u,w',h1,h2⟩ | ⟨w',h1,h2⟩ | ⟨f,args,w',h1,h2⟩
 ·rw[h1];exact hK _ _ h2
 ·rw[h1];exact hK _ _ h2
 ·rw[h1]
  exact h2.mono fun e w'' ⟨u,he,hp⟩=>by subst he;exact hK _ _ hp
theorem ZaW.val {P:Program}{o:Oper}{a:Act}{w w':World}{Post:Value->World->Prop}{u:Value} (h:(execOp a.eval o).run P w = .ok (.value u) w') (hp:Post u w'):ZaW P o a w Post:=
 .inl ⟨u,w',h,hp⟩
mutual
def cv:V->Value->Bool
 | .d (.bool a),.bool b=>a==b
 | .d (.int k n),.int k' m=>k==k'&&n==m
 | .d (.str s),.string t=>decide (s=t)
 | .d .nilfn,.nilFunc=>true
 | .d .nilp,.pointer none=>true
 | .d .nilI,.nilIface=>true
 | .d (.fn f []),.func (.func g) a b=>isU f&&(f==g&&a.isEmpty&&b.isEmpty)
 | .d (.agg ds),.agg us=>cds ds us.toList
 | .d (.list _ []),.slice _ n _=>n==0
 | .nilsl _,.slice _ n c=>n==0&&c==0
 | .agg vs,.agg us=>cvs vs us.toList
 | .bad,_=>true
 | _,_=>false
def cvs:List V->List Value->Bool
 | [],[]=>true
 | v :: vs,u :: us=>cv v u&&cvs vs us
 | _,_=>false
def cds:List D->List Value->Bool
 | [],[]=>true
 | .bool a :: ds,.bool b :: us=>a==b&&cds ds us
 | .int k n :: ds,.int k' m :: us=>k==k'&&n==m&&cds ds us
 | .str s :: ds,.string t :: us=>decide (s=t)&&cds ds us
 | .nilfn :: ds,.nilFunc :: us=>cds ds us
 | .nilp :: ds,.pointer none :: us=>cds ds us
 | .nilI :: ds,.nilIface :: us=>cds ds us
 | .list _ [] :: ds,.slice _ n _ :: us=>n==0&&cds ds us
 | _,_=>false
end
theorem ZxP {A1 A0 AL:Nat->Prop}{w:World}:∀(ds:List D) (us:List Value),cds ds us=true->ZR A1 A0 AL w ds us:=by
 intro ds
 induction ds with
 | nil=>intro us h;cases us<;>simp_all [cds,ZR]
 | cons x ds ih=>
  intro us h
  cases us with
  | nil=>cases x<;>simp_all [cds]
  | cons u us=>
   refine⟨u,us,rfl,?_⟩
   cases x with
   | bool a=>cases u<;>simp_all [cds,ZV]
   | int k n=>cases u<;>simp_all [cds,ZV]
   | str s=>
    cases u<;>simp only[cds,Bool.and_eq_true,decide_eq_true_eq,Bool.false_eq_true] at h
    exact⟨by rw[h.1];rfl,ih us h.2⟩
   | nilfn=>cases u<;>simp_all [cds,ZV]
   | nilI=>cases u<;>simp_all [cds,ZV]
   | nilp=>
    cases u with
    | pointer a=>cases a<;>simp_all [cds,ZV]
    | _=>simp_all [cds]
   | list own xs=>
    cases xs with
    | nil=>
     cases u with
     | slice a n c=>
      simp only[cds,Bool.and_eq_true,beq_iff_eq] at h
      obtain⟨rfl,h⟩:=h
      exact⟨⟨a,0,c,rfl,rfl,Nat.zero_le _,by simp,by simp⟩,ih us h⟩
     | _=>simp_all [cds]
    | cons y ys=>cases u<;>simp_all [cds]
   | agg cs=>cases u<;>simp_all [cds]
   | tup cs=>cases u<;>simp_all [cds]
   | fn f cs=>cases u<;>simp_all [cds]
   | rptr cs=>cases u<;>simp_all [cds]
   | iface t v=>cases u<;>simp_all [cds]
mutual
theorem ZoC {R:RP}{w:World}:∀(v:V) (u:Value),cv v u=true->ZS R w v u
 | .bad,_,_=>trivial
 | .nilsl sz,u,h=>by
  cases u<;>simp_all [cv,ZS]
 | .agg vs,u,h=>by
  cases u<;>simp only[cv] at h<;>try (cases h;done)
  rename_i us
  exact⟨us.toList,rfl,Zrc vs us.toList h⟩
 | .d x,u,h=>by
  cases x with
  | bool a=>cases u<;>simp_all [cv,ZS,RP.den,ZV]
  | int k n=>cases u<;>simp_all [cv,ZS,RP.den,ZV]
  | str s=>
   cases u<;>simp only[cv,decide_eq_true_eq,Bool.false_eq_true] at h
   rw[h];rfl
  | nilfn=>cases u<;>simp_all [cv,ZS,RP.den,ZV]
  | nilI=>cases u<;>simp_all [cv,ZS,RP.den,ZV]
  | nilp=>
   cases u with
   | pointer a=>cases a<;>simp_all [cv,ZS,RP.den,ZV]
   | _=>simp_all [cv]
  | fn f cs=>
   cases cs with
   | cons=>cases u<;>simp_all [cv]
   | nil=>
    cases u with
    | func fn a b=>
     cases fn<;>simp only[cv,Bool.and_eq_true,beq_iff_eq,Array.isEmpty_iff,Bool.false_eq_true] at h
     obtain⟨hlt,⟨rfl,rfl⟩,rfl⟩:=h
     exact⟨[],(ZlS hlt _).symm,rfl⟩
    | _=>simp_all [cv]
  | agg ds=>
   cases u<;>simp only[cv] at h<;>try (cases h;done)
   rename_i us
   exact⟨us.toList,rfl,ZxP ds us.toList h⟩
  | list own xs=>
   cases xs with
   | cons=>cases u<;>simp_all [cv]
   | nil=>
    cases u<;>simp only[cv,beq_iff_eq] at h<;>try (cases h;done)
    subst h
    exact⟨_,0,_,rfl,rfl,Nat.zero_le _,by simp,by simp⟩
  | tup cs=>cases u<;>simp_all [cv]
  | rptr cs=>cases u<;>simp_all [cv]
  | iface t v=>cases u<;>simp_all [cv]
 | .ptr b o,u,h=>by cases u<;>simp_all [cv]
 | .eptr b sz i k,u,h=>by cases u<;>simp_all [cv]
 | .sl b sz,u,h=>by cases u<;>simp_all [cv]
 | .slp b sz o l,u,h=>by cases u<;>simp_all [cv]
 | .tup cs,u,h=>by cases u<;>simp_all [cv]
 | .fn f cs,u,h=>by cases u<;>simp_all [cv]
 | .mp b,u,h=>by cases u<;>simp_all [cv]
theorem Zrc {R:RP}{w:World}:∀(vs:List V) (us:List Value),cvs vs us=true->ZL R w vs us
 | [],us,h=>by cases us<;>simp_all [cvs,ZL]
 | v :: vs,[],h=>by simp[cvs] at h
 | v :: vs,u :: us,h=>by
  simp only[cvs,Bool.and_eq_true] at h
  exact⟨u,us,rfl,ZoC v u h.1,Zrc vs us h.2⟩
end
abbrev ZQ:=Nat->Option (List (IntKind×Int))
def gD:List (IntKind×Int)->List D
 | []=>[]
 | (k,n) :: r=>.int k n :: gD r
def eqG:List (IntKind×Int)->List D->Bool
 | [],[]=>true
 | (k,n) :: r,.int k' n' :: s=>k==k'&&n==n'&&eqG r s
 | _,_=>false
theorem Zu2:∀(g:List (IntKind×Int)) (l:List D),eqG g l=true->l=gD g
 | [],[],_=>rfl
 | [],_ :: _,h=>by simp[eqG] at h
 | (k,n) :: r,[],h=>by simp[eqG] at h
 | (k,n) :: r,x :: s,h=>by
  cases x<;>simp only[eqG,Bool.and_eq_true,beq_iff_eq,Bool.false_eq_true] at h
  obtain⟨⟨rfl,rfl⟩,h⟩:=h
  rw[gD,Zu2 r s h]
def Zn (G:ZQ):Operand->Opd->Bool
 | .tmp i,.t j=>i==j
 | .const u,.c v=>cv v u
 | .func f,.c (.d (.fn g []))=>isU f&&f==g
 | .global g,.c (.d (.rptr cs))=>match G g with | some l=>eqG l cs | none=>false
 | _,_=>false
def ZbF (G:ZQ):List Operand->List Opd->Bool
 | [],[]=>true
 | x :: xs,y :: ys=>Zn G x y&&ZbF G xs ys
 | _,_=>false
def GOK (G:ZQ) (R:RP) (w:World):Prop:=∀g l,G g=some l->R.den w (.rptr (gD l)) (.pointer (some ⟨g,0,none⟩))
def Zed (R:RP) (w:World) (e:Env) (a:Act):Prop:=∀t,ZS R w (e t) (a.tmps.getD t undef)
theorem ZjF {G:ZQ}{R:RP}{w:World}{e:Env}{a:Act} (hg:GOK G R w) (he:Zed R w e a) {x:Operand}{y:Opd} (h:Zn G x y=true):ZS R w (y.val e) (a.eval x):=by
 cases x with
 | tmp i=>
  cases y with
  | t j=>
   simp only[Zn,beq_iff_eq] at h
   subst h
   exact he i
  | c v=>simp[Zn] at h
 | const u=>
  cases y with
  | t j=>simp[Zn] at h
  | c v=>exact ZoC v u h
 | func f=>
  cases y with
  | t j=>simp[Zn] at h
  | c v=>
   cases v with
   | d x=>
    cases x with
    | fn g caps=>
     cases caps with
     | nil=>
      simp only[Zn,Bool.and_eq_true,beq_iff_eq] at h
      obtain⟨hlt,rfl⟩:=h
      exact⟨[],(ZlS hlt _).symm,rfl⟩
     | cons=>simp[Zn] at h
    | _=>simp[Zn] at h
   | _=>simp[Zn] at h
 | global g=>
  cases y with
  | t j=>simp[Zn] at h
  | c v=>
   cases v with
   | d x=>
    cases x with
    | rptr cs=>
     cases hG:G g with
     | none=>simp[Zn,hG] at h
     | some l=>
      simp only[Zn,hG] at h
      rw[Zu2 l cs h]
      exact hg g l hG
    | _=>simp[Zn] at h
   | _=>simp[Zn] at h
theorem ZoL {G:ZQ}{R:RP}{w:World}{e:Env}{a:Act} (hg:GOK G R w) (he:Zed R w e a):∀{xs:List Operand}{ys:List Opd},ZbF G xs ys=true->ZL R w (ZcD e ys) (xs.map a.eval)
 | [],[],_=>rfl
 | [],_ :: _,h=>by simp[ZbF] at h
 | _ :: _,[],h=>by simp[ZbF] at h
 | x :: xs,y :: ys,h=>by
  simp only[ZbF,Bool.and_eq_true] at h
  exact⟨_,_,rfl,ZjF hg he h.1,ZoL hg he h.2⟩
theorem Ext.gok {G:ZQ}{R R':RP}{w w':World} (e:Ext R w R' w') (hb:∀c,R.B0 c->R.B1 c) (h:GOK G R w):GOK G R' w':=fun g l hg=>e.den hb (h g l hg)
theorem Ext.envOK {R R':RP}{w w':World} (x:Ext R w R' w') (hb:∀c,R.B0 c->R.B1 c) {e:Env}{a:Act} (h:Zed R w e a):Zed R' w' e a:=fun t=>x.denV hb _ _ (h t)
def ZA (H:Zc) (up:List (Nat×Blk)) (nid:Nat) (nw:List Blk) (H':Zc):Prop:=
 ∀i,H'[i]? = if nid<=i/\i<nid+nw.length then nw[i-nid]? else (Za4 H up)[i]?
def Post (R:RP) (w:World) (nid n:Nat) (H':Zc) (v:V) (u:Value) (w':World):Prop:=
 ∃R',Ext R w R' w'/\R'.OK w'/\R'.H=H'/\ZS R' w' v u/\∀i,R.M i=none->¬(nid<=i/\i<nid+n)->R'.M i=none
theorem ZA.same {H H':Zc}{nid:Nat} (h:ZA H [] nid [] H'):H'=H:=by
 apply List.ext_getElem?
 intro i
 have:=h i
 simp only[List.length_nil,Nat.add_zero,Za4] at this
 rw[this,if_neg (by omega)]
theorem Post.still {R:RP}{w w':World}{nid:Nat}{H':Zc}{v:V}{u:Value} (ok:R.OK w) (hp:ZA R.H [] nid [] H') (hh:w'.heap=w.heap) (ho:w'.os=w.os) (ht:w'.tape=w.tape) (hpt:w'.output=w.output)
  (hv:ZS R w v u):Post R w nid 0 H' v u w':=
 ⟨R,Ext.draw hh ho ht hpt,ok.draw hh ho ht hpt,hp.same.symm,(Ext.draw hh ho ht hpt).denV ok.b01 v u hv,fun i h _=>h⟩
theorem Post.stay {R:RP}{w:World}{nid:Nat}{H':Zc}{v:V}{u:Value} (ok:R.OK w) (hp:ZA R.H [] nid [] H') (hv:ZS R w v u):Post R w nid 0 H' v u w:=
 Post.still ok hp rfl rfl rfl rfl hv
theorem Post.new {R:RP}{w:World}{nid:Nat}{H':Zc}{v:V}{u:Value}{blk:Blk}{m:Option Nat} (o:Obj) (ok:R.OK w) (hp:ZA R.H [] nid [blk] H') (hn:R.M nid=none) (hm:m=none∨m=some w.heap.size)
  (hk:∀R':RP,Ext R w R' (w.alloc o)->R'.M nid=some m->R'.H[nid]? = some blk->ZeI R' (w.alloc o) m blk/\(ZeI R' (w.alloc o) m blk->ZS R' (w.alloc o) v u)):Post R w nid 1 H' v u (w.alloc o):=by
 have hH:∀i,i≠nid->H'[i]? = R.H[i]?:=fun i hi=>by
  have:=hp i
  rw[this,if_neg (by simp;omega)];rfl
 have hb:H'[nid]? = some blk:=by
  have:=hp nid
  rw[this,if_pos (by simp)];simp
 have e:=Ext.new (R:=R) (w:=w) (H':=H') (n:=nid) (blk:=blk) (m:=m) o hn hH hb hm ok.lt ok.al
 have hk':=hk _ e (by simp) hb
 exact⟨_,e,ok.new hn hH hb hm (fun _=>hk'.1),rfl,hk'.2 hk'.1,fun i hi hni=>by
  have:i≠nid:=fun h=>hni (by subst h;simp)
  simp[this,hi]⟩
def Le {α:Type} (x y:Option α):Prop:=∀a,x=some a->y=some a
theorem Le.refl {α:Type} (x:Option α):Le x x:=fun _ h=>h
theorem Le.trans {α:Type}{x y z:Option α} (h:Le x y) (k:Le y z):Le x z:=fun a ha=>k a (h a ha)
theorem Le.none {α:Type} (x:Option α):Le none x:=fun _ h=>by cases h
noncomputable def ZwR {α:Type} (F:Nat->Option α):Option α:=open Classical in if h:∃n,(F n).isSome=true then F (Classical.choose h) else none
theorem Zr5 {α:Type}{F:Nat->Option α} (mono:∀n m,n<=m->Le (F n) (F m)) (a:α):ZwR F=some a↔∃n,F n=some a:=by
 unfold ZwR
 constructor
 ·intro h
  split at h
  ·rename_i hx;exact⟨_,h⟩
  ·cases h
 ·rintro ⟨n,hn⟩
  have hx:∃n,(F n).isSome=true:=⟨n,by simp[hn]⟩
  rw[dif_pos hx]
  have hs:=Classical.choose_spec hx
  cases hv:F (Classical.choose hx) with
  | none=>rw[hv] at hs;cases hs
  | some b=>
   rcases Nat.le_total n (Classical.choose hx) with h | h
   ·rw[<- hv];exact mono _ _ h a hn
   ·have:=mono _ _ h b hv;rw[hn] at this;exact this.symm
def LeC (f g:ZX):Prop:=∀a b c,Le (f a b c) (g a b c)
abbrev Rnd:=List V->Zc->Option Lp
abbrev ItF:=Rnd->List V->Zc->Option (Ex×List V×Zc)
def LeR (f g:Rnd):Prop:=∀a b,Le (f a b) (g a b)
def LeI (f g:ItF):Prop:=∀F G,LeR F G->∀a b,Le (f F a b) (g G a b)
theorem Zhq {Γ:Ctx}{cf cg:ZX} (h:LeC cf cg) (nid:Nat) (H:Zc) (f:Nat) (args:List V):Le (Zd5 Γ cf nid H f args) (Zd5 Γ cg nid H f args):=by
 intro r hr
 unfold Zd5 at hr ⊢
 split at hr
 ·rename_i hm
  cases h1:fzs H args with
  | none=>simp[h1] at hr
  | some l=>
   simp only[h1] at hr ⊢
   cases h2:cf f (ZaU l) [] with
   | none=>simp[h2] at hr
   | some p=>rw[h2] at hr;rw[h _ _ _ p h2];exact hr
 ·rename_i hm
  cases h1:fzs H args with
  | none=>simp[h1] at hr
  | some l=>
   simp only[h1] at hr ⊢
   cases h2:cf f (ZaU l) [] with
   | none=>simp[h2] at hr
   | some p=>rw[h2] at hr;rw[h _ _ _ p h2];exact hr
 ·cases h1:extract 0 args H with
  | none=>simp[h1] at hr
  | some q=>
   obtain⟨L,args',H0⟩:=q
   simp only[h1] at hr ⊢
   cases h2:cf f args' H0 with
   | none=>simp[h2] at hr
   | some p=>rw[h2] at hr;rw[h _ _ _ p h2];exact hr
theorem Zek {Γ:Ctx}{cf:ZX} (e:Env) (nid:Nat) (H:Zc) (x:Opd) (args:List Opd) :
  opE Γ cf e nid H (.callv x args)=match ZhB (x.val e) with | some (f,caps)=>(match Zd7 Γ (x.val e) f caps with | true=>none | false=>Zd5 Γ cf nid H (ZiX f) (Zld f caps (ZcD e args))) | none=>none:=rfl
theorem Zdx {Γ:Ctx}{cf:ZX} (e:Env) (nid:Nat) (H:Zc) (tab:List (Nat×Nat)) (x:Opd) (args:List Opd) :
  opE Γ cf e nid H (.invoke tab x args)=match x.val e with
   | .d (.iface t y)=>(match Zif tab t with | some f=>Zd5 Γ cf nid H f (.d y :: ZcD e args) | none=>none)
   | _=>none:=rfl
theorem ZjR {Γ:Ctx}{cf cg:ZX} (h:LeC cf cg) (e:Env) (nid:Nat) (H:Zc) (o:O):Le (opE Γ cf e nid H o) (opE Γ cg e nid H o):=by
 intro r hr
 cases o<;>try exact hr
 ·exact Zhq h _ _ _ _ r hr
 ·rename_i x args
  rw[Zek] at hr ⊢
  cases h1:ZhB (x.val e) with
  | none=>simp[h1] at hr
  | some q=>
   obtain⟨f,caps⟩:=q;simp only[h1] at hr ⊢
   cases hb:Zd7 Γ (x.val e) f caps with
   | true=>rw[hb] at hr;cases hr
   | false=>rw[hb] at hr;exact Zhq h _ _ _ _ r hr
 ·rename_i tab x args
  rw[Zdx] at hr ⊢
  split at hr
  ·rename_i t y hx
   split at hr
   ·exact Zhq h _ _ _ _ r hr
   ·cases hr
  ·cases hr
 ·exact Zhq h _ _ _ _ r hr
theorem ZiJ {Γ:Ctx}{cf cg:ZX} (h:LeC cf cg):∀(l:List Op1) (e:Env) (H:Zc),Le (Zdo Γ cf l e H) (Zdo Γ cg l e H)
 | [],e,H,r,hr=>hr
 | o :: l,e,H,r,hr=>by
  unfold Zdo at hr ⊢
  cases hw:ZbO e o.guard with
  | none=>simp[hw] at hr
  | some b=>
   cases b with
   | false=>simp only[hw] at hr ⊢;exact ZiJ h l _ _ r hr
   | true=>
    simp only[hw] at hr ⊢
    cases ho:opE Γ cf e H.length H o.op with
    | none=>simp[ho] at hr
    | some q=>
     rw[ho] at hr;rw[ZjR h _ _ _ _ q ho]
     exact ZiJ h l _ _ r hr
theorem Zha {Γ:Ctx}{cf cg:ZX} (h:LeC cf cg):∀(l:List Op1) (pos:List (Nat×Nat)) (e:Env) (H:Zc),Le (Zc2 Γ cf pos l e H) (Zc2 Γ cg pos l e H)
 | [],pos,e,H,r,hr=>hr
 | o :: l,pos,e,H,r,hr=>by
  unfold Zc2 at hr ⊢
  cases hw:ZbO e o.guard with
  | none=>simp[hw] at hr
  | some b=>
   cases b with
   | false=>simp only[hw] at hr ⊢;exact Zha h l _ _ _ r hr
   | true=>
    simp only[hw] at hr ⊢
    cases ho:opE Γ cf e H.length (Zd4 H pos o.mask) o.op with
    | none=>simp[ho] at hr
    | some q=>
     rw[ho] at hr;rw[ZjR h _ _ _ _ q ho]
     obtain⟨v,up,nw⟩:=q
     dsimp only at hr ⊢
     cases hb:(Zl8 e H o up nw) with
     | false=>simp[hb] at hr
     | true=>simp only[hb,cond_true] at hr ⊢;exact Zha h l _ _ _ r hr
theorem Zii {k:Nat}{live outs:List Nat}{x y:Option (Ex×Env×Zc)} (h:Le x y):Le (Zck k live outs x) (Zck k live outs y):=by
 intro r hr
 cases x with
 | none=>simp[Zck] at hr
 | some q=>rw[h q rfl];exact hr
theorem ZmH {Γ:Ctx}{cf cg:ZX}{It Jt:ItF} (h:LeC cf cg) (hi:LeI It Jt) (k:Nat):∀(c:C) (e:Env) (H:Zc),Le (Zp Γ cf It k c e H) (Zp Γ cg Jt k c e H):=by
 intro c
 induction c with
 | skip=>intro e H;exact Le.refl _
 | ret=>intro e H;exact Le.refl _
 | exit id=>intro e H;exact Le.refl _
 | seq a b iha ihb=>
  intro e H r hr
  unfold Zp at hr ⊢
  cases ha:Zp Γ cf It k a e H with
  | none=>simp[ha] at hr
  | some q=>
   rw[ha] at hr;rw[iha e H q ha]
   obtain⟨x,e1,H1⟩:=q
   cases x with
   | normal=>exact ihb e1 H1 r hr
   | exit id=>exact hr
   | ret=>exact hr
 | cond x a b iha ihb=>
  intro e H r hr
  unfold Zp at hr ⊢
  split at hr
  ·rename_i t ht
   cases t with
   | true=>exact iha e H r hr
   | false=>exact ihb e H r hr
  ·cases hr
 | block id a iha=>
  intro e H r hr
  unfold Zp at hr ⊢
  cases ha:Zp Γ cf It k a e H with
  | none=>simp[ha] at hr
  | some q=>rw[ha] at hr;rw[iha e H q ha];exact hr
 | loop live outs a iha=>
  intro e H r hr
  unfold Zp at hr ⊢
  cases hh:ZlA k (live.map e) H with
  | none=>simp[hh] at hr
  | some q=>
   obtain⟨vs,H1⟩:=q
   simp only[hh] at hr ⊢
   cases hit:It (fun vs H=>Zck k live outs (Zp Γ cf It k a (ZbB live vs) H)) vs H1 with
   | none=>simp[hit] at hr
   | some p=>
    rw[hit] at hr
    rw[hi _ (fun vs H=>Zck k live outs (Zp Γ cg Jt k a (ZbB live vs) H)) (fun vs H=>Zii (iha (ZbB live vs) H)) vs H1 p hit]
    exact hr
 | ops l=>
  intro e H r hr
  unfold Zp at hr ⊢
  cases ho:Zdo Γ cf l e H with
  | none=>simp[ho] at hr
  | some q=>rw[ho] at hr;rw[ZiJ h l e H q ho];exact hr
 | draw l=>
  intro e H r hr
  unfold Zp at hr ⊢
  cases ho:Zc2 Γ cf [] l e H with
  | none=>simp[ho] at hr
  | some q=>rw[ho] at hr;rw[Zha h l _ e H q ho];exact hr
theorem Zos {Γ:Ctx}{cf cg:ZX}{It Jt:ItF} (h:LeC cf cg) (hi:LeI It Jt) (f:Nat) (args:List V) (H:Zc):Le (ZeC Γ cf It f args H) (ZeC Γ cg Jt f args H):=by
 intro r hr
 unfold ZeC at hr ⊢
 cases hc:Γ.code f with
 | none=>simp[hc] at hr
 | some fn=>
  simp only[hc] at hr ⊢
  cases hn:Nat.beq args.length fn.nargs with
  | false=>simp[hn] at hr
  | true=>
   simp only[hn,cond_true] at hr ⊢
   cases hx:Zp Γ cf It H.length fn.body (Zbb 0 args) H with
   | none=>simp[hx] at hr
   | some q=>rw[hx] at hr;rw[ZmH h hi _ _ _ _ q hx];exact hr
theorem Zdu {F G:Rnd} (h:LeR F G):∀(n m:Nat),n<=m->∀vs H,Le (Zar F n vs H) (Zar G m vs H)
 | 0,m,_,vs,H=>Le.none _
 | n+1,0,hm,vs,H=>absurd hm (by omega)
 | n+1,m+1,hm,vs,H=>by
  intro r hr
  unfold Zar at hr ⊢
  cases hf:F vs H with
  | none=>simp[hf] at hr
  | some q=>
   rw[hf] at hr;rw[h vs H q hf]
   cases q with
   | again vs H=>exact Zdu h n m (by omega) vs H r hr
   | done x vs H=>exact hr
theorem Zfz (Γ:Ctx):∀(n m:Nat),n<=m->LeC (evN Γ n) (evN Γ m)
 | 0,m,_=>fun _ _ _=>Le.none _
 | n+1,0,hm=>absurd hm (by omega)
 | n+1,m+1,hm=>fun f args H=>Zos (Zfz Γ n m (by omega)) (fun F G h vs H=>Zdu h n m (by omega) vs H) f args H
noncomputable def evW (Γ:Ctx):ZX:=fun f args H=>ZwR fun n=>evN Γ n f args H
noncomputable def itW:ItF:=fun F vs H=>ZwR fun n=>Zar F n vs H
theorem ZfY (Γ:Ctx) (f:Nat) (args:List V) (H:Zc) (r:V×Zc):evW Γ f args H=some r↔∃n,evN Γ n f args H=some r:=
 Zr5 (fun n m h=>Zfz Γ n m h f args H) r
theorem Zge (F:Rnd) (vs:List V) (H:Zc) (r:Ex×List V×Zc):itW F vs H=some r↔∃n,Zar F n vs H=some r:=
 Zr5 (fun n m h=>Zdu (fun _ _=>Le.refl _) n m h vs H) r
theorem ZxK (F:Rnd) (vs:List V) (H:Zc):itW F vs H=match F vs H with | some (.again vs H)=>itW F vs H | some (.done x vs H)=>some (x,vs,H) | none=>none:=by
 cases hf:F vs H with
 | none=>
  cases h:itW F vs H with
  | none=>rfl
  | some r=>
   obtain⟨n,hn⟩:=(Zge F vs H r).1 h
   cases n with
   | zero=>simp[Zar] at hn
   | succ n=>simp[Zar,hf] at hn
 | some q=>
  cases q with
  | done x vs' H'=>exact(Zge F vs H _).2 ⟨1,by simp[Zar,hf]⟩
  | again vs' H'=>
   dsimp only
   cases h:itW F vs' H' with
   | some r=>
    obtain⟨n,hn⟩:=(Zge F vs' H' r).1 h
    exact(Zge F vs H r).2 ⟨n+1,by simp[Zar,hf,hn]⟩
   | none=>
    cases h2:itW F vs H with
    | none=>rfl
    | some r=>
     obtain⟨n,hn⟩:=(Zge F vs H r).1 h2
     cases n with
     | zero=>simp[Zar] at hn
     | succ n=>
      simp[Zar,hf] at hn
      rw[(Zge F vs' H' r).2 ⟨n,hn⟩] at h
      cases h
section
variable {Γ:Ctx}
theorem Zhh (nid:Nat) (H:Zc) (f:Nat) (args:List V) (r:V×List (Nat×Blk)×List Blk) (hr:Zd5 Γ (evW Γ) nid H f args=some r):∃n,Zd5 Γ (evN Γ n) nid H f args=some r:=by
 unfold Zd5 at hr ⊢
 split at hr
 ·cases h1:fzs H args with
  | none=>simp[h1] at hr
  | some l=>
   simp only[h1] at hr ⊢
   cases h2:evW Γ f (ZaU l) [] with
   | none=>simp[h2] at hr
   | some p=>obtain⟨n,hn⟩:=(ZfY Γ f (ZaU l) [] p).1 h2;exact⟨n,by rw[hn];rw[h2] at hr;exact hr⟩
 ·cases h1:fzs H args with
  | none=>simp[h1] at hr
  | some l=>
   simp only[h1] at hr ⊢
   cases h2:evW Γ f (ZaU l) [] with
   | none=>simp[h2] at hr
   | some p=>obtain⟨n,hn⟩:=(ZfY Γ f (ZaU l) [] p).1 h2;exact⟨n,by rw[hn];rw[h2] at hr;exact hr⟩
 ·cases h1:extract 0 args H with
  | none=>simp[h1] at hr
  | some q=>
   obtain⟨L,args',H0⟩:=q
   simp only[h1] at hr ⊢
   cases h2:evW Γ f args' H0 with
   | none=>simp[h2] at hr
   | some p=>obtain⟨n,hn⟩:=(ZfY Γ f args' H0 p).1 h2;exact⟨n,by rw[hn];rw[h2] at hr;exact hr⟩
theorem Zqy (e:Env) (nid:Nat) (H:Zc) (o:O) (r:V×List (Nat×Blk)×List Blk) (hr:opE Γ (evW Γ) e nid H o=some r):∃n,opE Γ (evN Γ n) e nid H o=some r:=by
 cases o<;>try exact⟨0,hr⟩
 ·exact Zhh _ _ _ _ r hr
 ·rename_i x args
  rw[Zek] at hr
  cases h1:ZhB (x.val e) with
  | none=>simp[h1] at hr
  | some q=>
   obtain⟨f,caps⟩:=q;simp only[h1] at hr
   cases hb:Zd7 Γ (x.val e) f caps with
   | true=>rw[hb] at hr;cases hr
   | false=>
    rw[hb] at hr
    obtain⟨n,hn⟩:=Zhh _ _ _ _ r hr
    exact⟨n,by rw[Zek];simp only[h1,hb];exact hn⟩
 ·rename_i tab x args
  rw[Zdx] at hr
  split at hr
  ·rename_i t y hx
   cases hl:Zif tab t with
   | none=>simp[hl] at hr
   | some f=>
    simp only[hl] at hr
    obtain⟨n,hn⟩:=Zhh _ _ _ _ r hr
    exact⟨n,by rw[Zdx];simp only[hx,hl];exact hn⟩
  ·cases hr
 ·exact Zhh _ _ _ _ r hr
theorem ZkW:∀(l:List Op1) (e:Env) (H:Zc) (r:Env×Zc),Zdo Γ (evW Γ) l e H=some r->∃n,Zdo Γ (evN Γ n) l e H=some r
 | [],e,H,r,hr=>⟨0,hr⟩
 | o :: l,e,H,r,hr=>by
  unfold Zdo at hr
  cases hw:ZbO e o.guard with
  | none=>simp[hw] at hr
  | some b=>
   cases b with
   | false=>
    simp only[hw] at hr
    obtain⟨n,hn⟩:=ZkW l _ _ r hr
    exact⟨n,by unfold Zdo;simp only[hw];exact hn⟩
   | true=>
    simp only[hw] at hr
    cases ho:opE Γ (evW Γ) e H.length H o.op with
    | none=>simp[ho] at hr
    | some q=>
     rw[ho] at hr
     obtain⟨n,hn⟩:=Zqy _ _ _ _ q ho
     obtain⟨v,up,nw⟩:=q
     obtain⟨m,hm⟩:=ZkW l _ _ r hr
     refine⟨max n m,?_⟩
     unfold Zdo
     simp only[hw]
     rw[ZjR (Zfz Γ n (max n m) (Nat.le_max_left _ _)) _ _ _ _ _ hn]
     exact ZiJ (Zfz Γ m (max n m) (Nat.le_max_right _ _)) l _ _ r hm
theorem Zjh:∀(l:List Op1) (pos:List (Nat×Nat)) (e:Env) (H:Zc) (r:Env×Zc),Zc2 Γ (evW Γ) pos l e H=some r->∃n,Zc2 Γ (evN Γ n) pos l e H=some r
 | [],pos,e,H,r,hr=>⟨0,hr⟩
 | o :: l,pos,e,H,r,hr=>by
  unfold Zc2 at hr
  cases hw:ZbO e o.guard with
  | none=>simp[hw] at hr
  | some b=>
   cases b with
   | false=>
    simp only[hw] at hr
    obtain⟨n,hn⟩:=Zjh l _ _ _ r hr
    exact⟨n,by unfold Zc2;simp only[hw];exact hn⟩
   | true=>
    simp only[hw] at hr
    cases ho:opE Γ (evW Γ) e H.length (Zd4 H pos o.mask) o.op with
    | none=>simp[ho] at hr
    | some q=>
     rw[ho] at hr
     obtain⟨n,hn⟩:=Zqy _ _ _ _ q ho
     obtain⟨v,up,nw⟩:=q
     dsimp only at hr
     cases hb:(Zl8 e H o up nw) with
     | false=>simp[hb] at hr
     | true=>
      simp only[hb,cond_true] at hr
      obtain⟨m,hm⟩:=Zjh l _ _ _ r hr
      refine⟨max n m,?_⟩
      unfold Zc2
      simp only[hw]
      rw[ZjR (Zfz Γ n (max n m) (Nat.le_max_left _ _)) _ _ _ _ _ hn]
      simp only[hb,cond_true]
      exact Zha (Zfz Γ m (max n m) (Nat.le_max_right _ _)) l _ _ _ r hm
theorem ZrO (k:Nat):∀(c:C) (e:Env) (H:Zc) (r:Ex×Env×Zc),Zp Γ (evW Γ) itW k c e H=some r->∃n,Zp Γ (evN Γ n) (fun F=>Zar F n) k c e H=some r:=by
 have up:∀(c:C) (e:Env) (H:Zc) (r:Ex×Env×Zc) (n m:Nat),n<=m->Zp Γ (evN Γ n) (fun F=>Zar F n) k c e H=some r->Zp Γ (evN Γ m) (fun F=>Zar F m) k c e H=some r:=
  fun c e H r n m h=>ZmH (Zfz Γ n m h) (fun F G hFG vs H=>Zdu hFG n m h vs H) k c e H r
 intro c
 induction c with
 | skip=>intro e H r hr;exact⟨0,hr⟩
 | ret=>intro e H r hr;exact⟨0,hr⟩
 | exit id=>intro e H r hr;exact⟨0,hr⟩
 | seq a b iha ihb=>
  intro e H r hr
  unfold Zp at hr
  cases ha:Zp Γ (evW Γ) itW k a e H with
  | none=>simp[ha] at hr
  | some q=>
   rw[ha] at hr
   obtain⟨n,hn⟩:=iha e H q ha
   obtain⟨x,e1,H1⟩:=q
   cases x with
   | normal=>
    obtain⟨m,hm⟩:=ihb e1 H1 r hr
    refine⟨max n m,?_⟩
    unfold Zp
    rw[up a e H _ n _ (Nat.le_max_left _ _) hn]
    exact up b e1 H1 r m _ (Nat.le_max_right _ _) hm
   | exit id=>exact⟨n,by unfold Zp;rw[hn];exact hr⟩
   | ret=>exact⟨n,by unfold Zp;rw[hn];exact hr⟩
 | cond x a b iha ihb=>
  intro e H r hr
  unfold Zp at hr
  split at hr
  ·rename_i t ht
   cases t with
   | true=>obtain⟨n,hn⟩:=iha e H r hr;exact⟨n,by unfold Zp;simp only[ht];exact hn⟩
   | false=>obtain⟨n,hn⟩:=ihb e H r hr;exact⟨n,by unfold Zp;simp only[ht];exact hn⟩
  ·cases hr
 | block id a iha=>
  intro e H r hr
  unfold Zp at hr
  cases ha:Zp Γ (evW Γ) itW k a e H with
  | none=>simp[ha] at hr
  | some q=>rw[ha] at hr;obtain⟨n,hn⟩:=iha e H q ha;exact⟨n,by unfold Zp;rw[hn];exact hr⟩
 | loop live outs a iha=>
  intro e H r hr
  unfold Zp at hr
  cases hh:ZlA k (live.map e) H with
  | none=>simp[hh] at hr
  | some q=>
   obtain⟨vs,H1⟩:=q
   simp only[hh] at hr
   cases hit:itW (fun vs H=>Zck k live outs (Zp Γ (evW Γ) itW k a (ZbB live vs) H)) vs H1 with
   | none=>simp[hit] at hr
   | some p=>
    rw[hit] at hr
    obtain⟨n,hn⟩:=(Zge _ vs H1 p).1 hit
    have key:∀(n:Nat) (vs:List V) (H1:Zc) (p:Ex×List V×Zc),Zar (fun vs H=>Zck k live outs (Zp Γ (evW Γ) itW k a (ZbB live vs) H)) n vs H1=some p ->
      ∃m,Zar (fun vs H=>Zck k live outs (Zp Γ (evN Γ m) (fun F=>Zar F m) k a (ZbB live vs) H)) n vs H1=some p:=by
     intro n
     induction n with
     | zero=>intro vs H1 p h;simp[Zar] at h
     | succ n ih=>
      intro vs H1 p h
      unfold Zar at h
      cases hc:Zp Γ (evW Γ) itW k a (ZbB live vs) H1 with
      | none=>simp[hc,Zck] at h
      | some q=>
       obtain⟨m1,hm1⟩:=iha _ _ q hc
       simp only[hc] at h
       cases hr2:Zck k live outs (some q) with
       | none=>simp[hr2] at h
       | some z=>
        rw[hr2] at h
        cases z with
        | done x vs' H'=>exact⟨m1,by unfold Zar;simp only[hm1,hr2];exact h⟩
        | again vs' H'=>
         obtain⟨m2,hm2⟩:=ih vs' H' p h
         refine⟨max m1 m2,?_⟩
         unfold Zar
         simp only[up a _ _ q m1 _ (Nat.le_max_left m1 m2) hm1,hr2]
         exact Zdu (fun vs H=>Zii (fun q hq=>up a _ _ q m2 _ (Nat.le_max_right m1 m2) hq)) n n (Nat.le_refl _) vs' H' p hm2
    obtain⟨m,hm⟩:=key n vs H1 p hn
    refine⟨max n m,?_⟩
    unfold Zp
    simp only[hh]
    rw[Zdu (fun vs H=>Zii (fun q hq=>up a _ _ q m _ (Nat.le_max_right n m) hq)) n _ (Nat.le_max_left n m) vs H1 p hm]
    exact hr
 | ops l=>
  intro e H r hr
  unfold Zp at hr
  cases ho:Zdo Γ (evW Γ) l e H with
  | none=>simp[ho] at hr
  | some q=>rw[ho] at hr;obtain⟨n,hn⟩:=ZkW l e H q ho;exact⟨n,by unfold Zp;rw[hn];exact hr⟩
 | draw l=>
  intro e H r hr
  unfold Zp at hr
  cases ho:Zc2 Γ (evW Γ) [] l e H with
  | none=>simp[ho] at hr
  | some q=>rw[ho] at hr;obtain⟨n,hn⟩:=Zjh l _ e H q ho;exact⟨n,by unfold Zp;rw[hn];exact hr⟩
theorem Zx8 (f:Nat) (args:List V) (H:Zc):evW Γ f args H=ZeC Γ (evW Γ) itW f args H:=by
 have h1:Le (evW Γ f args H) (ZeC Γ (evW Γ) itW f args H):=by
  intro r hr
  obtain⟨n,hn⟩:=(ZfY Γ f args H r).1 hr
  cases n with
  | zero=>simp[evN] at hn
  | succ n=>exact Zos (fun a b c r h=>(ZfY Γ a b c r).2 ⟨n,h⟩) (fun F G h vs H r hr=>(Zge G vs H r).2 ⟨n,Zdu h n n (Nat.le_refl _) vs H r hr⟩) f args H r hn
 have h2:Le (ZeC Γ (evW Γ) itW f args H) (evW Γ f args H):=by
  intro r hr
  unfold ZeC at hr
  cases hc:Γ.code f with
  | none=>simp[hc] at hr
  | some fn=>
   simp only[hc] at hr
   cases hn:Nat.beq args.length fn.nargs with
   | false=>simp[hn] at hr
   | true=>
    simp only[hn,cond_true] at hr
    cases hx:Zp Γ (evW Γ) itW H.length fn.body (Zbb 0 args) H with
    | none=>simp[hx] at hr
    | some q=>
     rw[hx] at hr
     obtain⟨n,hn2⟩:=ZrO _ _ _ _ q hx
     refine(ZfY Γ f args H r).2 ⟨n+1,?_⟩
     show ZeC Γ (evN Γ n) (fun F=>Zar F n) f args H=some r
     unfold ZeC
     simp only[hc,hn,cond_true,hn2]
     exact hr
 cases h:evW Γ f args H with
 | some r=>exact(h1 r h).symm
 | none=>
  cases h':ZeC Γ (evW Γ) itW f args H with
  | none=>rfl
  | some r=>rw[h2 r h'] at h;cases h
end
end Go.Proofs.YtgcfmiajkbbmeaaGreatE
namespace Go.Proofs.YtgcfmiajkbbmeaaGreatE
open Go
open Go.IntKind (u64 i64 u32 i32 u8)
def ZeZ (P:Program) (t:TypeId):Option Bool:=
 match P.underlying t with
 | some (.struct _)=>some true
 | some (.array _ _)=>some true
 | some _=>some false
 | none=>none
def Zdm (P:Program) (t:TypeId):Option Nat:=(P.info? t).map (·.size)
theorem Zde {P:Program}{w:World}{t:TypeId}{ag:Bool} (h:ZeZ P t=some ag):(isAgg t).run P w = .ok ag w:=by
 unfold ZeZ at h
 cases hu:P.underlying t with
 | none=>simp[hu] at h
 | some d=>
  rw[hu] at h
  have:=run_underlying (P:=P) (w:=w) hu
  simp only[isAgg,Sem.run_bind,this,Result.andThen_ok]
  cases d<;>simp_all
theorem Zb5 {P:Program}{w:World}{t:TypeId}{n:Nat} (h:Zdm P t=some n):(sizeOf t).run P w = .ok n w:=by
 unfold Zdm at h
 cases hi:P.info? t with
 | none=>simp[hi] at h
 | some i=>
  simp only[hi,Option.map_some,Option.some.injEq] at h
  subst h
  simp[sizeOf,typeInfo,hi]
section
variable {R:RP} {w:World}
theorem ZbM:∀(vs:List V) (us:List Value),ZL R w vs us->us.length=vs.length
 | [],us,h=>by simp only[ZL] at h;subst h;rfl
 | v :: vs,us,h=>by
  obtain⟨u,us',rfl,e1,e2⟩:=h
  simp[ZbM vs us' e2]
theorem ZcX:∀(vs:List V) (us:List Value) (j:Nat) (v:V),ZL R w vs us->vs[j]? = some v->∃u,us[j]? = some u/\ZS R w v u
 | [],us,j,v,_,hj=>by simp at hj
 | y :: vs,us,0,v,h,hj=>by
  obtain⟨u,us',rfl,e1,e2⟩:=h
  simp at hj;subst hj
  exact⟨u,by simp,e1⟩
 | y :: vs,us,j+1,v,h,hj=>by
  obtain⟨u,us',rfl,e1,e2⟩:=h
  simpa using ZcX vs us' j v e2 (by simpa using hj)
theorem ZgN:∀(vs:List V) (us:List Value),us.length=vs.length->(∀(j:Nat) v u,vs[j]? = some v->us[j]? = some u->ZS R w v u)->ZL R w vs us
 | [],us,hl,_=>by simpa [ZL] using hl
 | y :: vs,[],hl,_=>by simp at hl
 | y :: vs,u :: us,hl,h=>⟨u,us,rfl,h 0 y u rfl rfl,ZgN vs us (by simpa using hl) fun j x v hx hv=>h (j+1) x v (by simpa using hx) (by simpa using hv)⟩
theorem Zg8:∀(l:List D),ZaU l=l.map V.d
 | []=>rfl
 | x :: l=>by simp[ZaU,Zg8 l]
theorem Zbd:∀(l:List D) (us:List Value),ZL R w (ZaU l) us↔ZR R.A1 R.A0 R.AL w l us
 | [],us=>Iff.rfl
 | x :: l,us=>by
  simp only[ZaU,ZL,ZR]
  constructor
  ·rintro ⟨u,us',e,h1,h2⟩;exact⟨u,us',e,h1,(Zbd l us').1 h2⟩
  ·rintro ⟨u,us',e,h1,h2⟩;exact⟨u,us',e,h1,(Zbd l us').2 h2⟩
theorem ZiF:∀{vs:List V}{l:List D},ZhO vs=some l->vs=ZaU l
 | [],l,h=>by simp[ZhO] at h;subst h;rfl
 | v :: vs,l,h=>by
  cases v<;>simp only[ZhO] at h<;>try (cases h;done)
  rename_i x
  cases hr:ZhO vs with
  | none=>simp[hr] at h
  | some l'=>
   simp only[hr,Option.some.injEq] at h
   subst h
   rw[ZiF hr,ZaU]
theorem ZmF {vs:List V}{us:List Value} (h:ZL R w vs us):ZS R w (Zqf vs) (.agg us.toArray):=by
 unfold Zqf
 cases ha:ZhO vs with
 | none=>exact⟨us,rfl,h⟩
 | some l=>
  rw[ZiF ha,Zbd] at h
  exact⟨us,rfl,h⟩
theorem ZvP {vs:List V}{us:List Value} (h:ZL R w vs us):ZS R w (ZpX vs) (.tuple us.toArray):=by
 unfold ZpX
 cases ha:ZhO vs with
 | none=>exact⟨us,rfl,h⟩
 | some l=>
  rw[ZiF ha,Zbd] at h
  exact⟨us,rfl,h⟩
theorem Zeu {v:V}{u:Value} (h:ZS R w v u) (hv:v.okb=true):ZL R w v.cells u.cells.toList:=by
 cases v with
 | d x=>
  cases x with
  | agg cs=>
   obtain⟨us,rfl,h⟩:=h
   simpa [V.cells,Value.cells] using (Zbd cs us).2 h
  | tup cs=>simp[V.okb] at hv
  | bool b=>simp only[ZS,RP.den,ZV] at h;subst h;exact⟨_,[],rfl,by simp[ZS,RP.den,ZV],rfl⟩
  | int k n=>simp only[ZS,RP.den,ZV] at h;subst h;exact⟨_,[],rfl,by simp[ZS,RP.den,ZV],rfl⟩
  | str s=>simp only[ZS,RP.den,ZV] at h;subst h;exact⟨_,[],rfl,by simp[ZS,RP.den,ZV],rfl⟩
  | nilfn=>simp only[ZS,RP.den,ZV] at h;subst h;exact⟨_,[],rfl,by simp[ZS,RP.den,ZV],rfl⟩
  | nilp=>simp only[ZS,RP.den,ZV] at h;subst h;exact⟨_,[],rfl,by simp[ZS,RP.den,ZV],rfl⟩
  | nilI=>simp only[ZS,RP.den,ZV] at h;subst h;exact⟨_,[],rfl,by simp[ZS,RP.den,ZV],rfl⟩
  | list own xs=>
   have h':=h
   obtain⟨a,len,cap,rfl,_⟩:=h'
   exact⟨_,[],rfl,h,rfl⟩
  | fn f caps=>
   have h':=h
   obtain⟨us,rfl,_⟩:=h'
   exact⟨_,[],Zm6 _ _,h,rfl⟩
  | rptr cs=>
   have h':=h
   obtain⟨b,off,rfl,_⟩:=h'
   exact⟨_,[],rfl,h,rfl⟩
  | iface t v=>
   have h':=h
   obtain⟨u',rfl,_⟩:=h'
   exact⟨_,[],rfl,h,rfl⟩
 | bad=>simp[V.okb] at hv
 | tup cs=>simp[V.okb] at hv
 | agg cs=>
  obtain⟨us,rfl,h⟩:=h
  simpa [V.cells,Value.cells] using h
 | nilsl sz=>
  have h':=h
  obtain⟨a,rfl⟩:=h'
  exact⟨_,[],rfl,h,rfl⟩
 | fn f caps=>
  have h':=h
  obtain⟨us,rfl,_⟩:=h'
  exact⟨_,[],Zm6 _ _,h,rfl⟩
 | ptr b o=>
  have h':=h
  obtain⟨c,_,rfl⟩:=h'
  exact⟨_,[],rfl,h,rfl⟩
 | eptr b sz i k=>
  have h':=h
  obtain⟨c,_,rfl⟩:=h'
  exact⟨_,[],rfl,h,rfl⟩
 | sl b sz=>
  have h':=h
  obtain⟨⟨a,n,c,rfl⟩,_⟩:=h'
  exact⟨_,[],rfl,h,rfl⟩
 | slp b sz o l=>
  have h':=h
  obtain⟨⟨a,n,c,rfl⟩,_⟩:=h'
  exact⟨_,[],rfl,h,rfl⟩
 | mp b=>
  have h':=h
  obtain⟨⟨a,rfl⟩,_⟩:=h'
  exact⟨_,[],rfl,h,rfl⟩
end
structure Pre (G:ZQ) (R:RP) (w:World) (e:Env) (a:Act) (Hm:Zc):Prop where
 ok:R.OK w
 g:GOK G R w
 env:Zed R w e a
 le:∀b blk,nth Hm b=some blk->blk ≠ .dead->nth R.H b=some blk
section
variable {P:Program} {G:ZQ} {R:RP} {w:World} {e:Env} {a:Act} {Hm H':Zc} {nid:Nat} {o:Oper}
theorem Pre.opd (pre:Pre G R w e a Hm) {x:Operand}{y:Opd} (h:Zn G x y=true):ZS R w (y.val e) (a.eval x):=ZjF pre.g pre.env h
theorem Pre.opds (pre:Pre G R w e a Hm) {xs:List Operand}{ys:List Opd} (h:ZbF G xs ys=true):ZL R w (ZcD e ys) (xs.map a.eval):=ZoL pre.g pre.env h
theorem Z8 {s:Sem Value}{u:Value}{w':World}{Po:Value->World->Prop} (hx:execOp a.eval o=(do pure (Next.value (<- s)))) (hr:s.run P w = .ok u w') (hp:Po u w'):ZaW P o a w Po:=
 .val (by rw[hx];simp[hr]) hp
theorem Zxm (pre:Pre G R w e a Hm) {x:Operand}{y:Opd} (hop:o.op = .move x∨o.op = .assign x) (hx:Zn G x y=true) (hp:ZA R.H [] nid [] H') :
  ZaW P o a w (Post R w nid 0 H' (y.val e)):=by
 refine .val (u:=a.eval x) (w':=w) ?_ (Post.stay pre.ok hp (pre.opd hx))
 rcases hop with h | h<;>(unfold execOp;rw[h];rfl)
theorem ZyM (pre:Pre G R w e a Hm) {c x y:Operand}{c' x' y':Opd}{t:Bool} (hop:o.op = .pick c x y) (hc:Zn G c c'=true) (hx:Zn G x x'=true) (hy:Zn G y y'=true)
  (ht:c'.val e = .d (.bool t)) (hp:ZA R.H [] nid [] H'):ZaW P o a w (Post R w nid 0 H' (bif t then x'.val e else y'.val e)):=by
 have hcv:=pre.opd hc
 rw[ht] at hcv
 simp only[ZS,RP.den,ZV] at hcv
 refine .val (u:=if t=true then a.eval x else a.eval y) (w':=w) ?_ (Post.stay pre.ok hp ?_)
 ·unfold execOp;rw[hop];simp[hcv,asBool]
 ·cases t
  ·exact pre.opd hy
  ·exact pre.opd hx
theorem ZlC {t:TypeId}{x:Addr}{u:Value} (h:ZeZ P t=some false) (hc:w.cell? x=some u):(loadVar t x).run P w = .ok u w:=by
 unfold loadVar
 simp only[Sem.run_bind,Zde h,Result.andThen_ok,Bool.false_eq_true,if_false,run_load,hc]
theorem ZlJ {t:TypeId}{x:Addr}{us:List Value} (h:ZeZ P t=some true) (hs:Zdm P t=some us.length) (hc:∀(j:Nat) v,us[j]? = some v->w.cell? (x.add j)=some v) :
  (loadVar t x).run P w = .ok (.agg us.toArray) w:=by
 unfold loadVar
 simp only[Sem.run_bind,Zde h,Zb5 hs,Result.andThen_ok,if_true,run_loadCells_list w x us hc,Sem.run_pure]
theorem ZhA {n:Nat}{ag:Bool}{cs:List V}{v:V}{t:TypeId}{b off:Nat} (hc:∀(j:Nat) v,cs[j]? = some v->∃u,w.cell? ⟨b,off+j,none⟩=some u/\ZS R w v u)
  (hag:ZeZ P t=some ag) (hsz:Zdm P t=some n) (h:Zcz n ag cs=some v):∃u,(loadVar t ⟨b,off,none⟩).run P w = .ok u w/\ZS R w v u:=by
 unfold Zcz at h
 cases ag with
 | false=>
  simp only[cond_false] at h
  obtain⟨u,h1,h2⟩:=hc 0 v (by rw[<- List.head?_eq_getElem?];exact h)
  exact⟨u,ZlC hag (by simpa using h1),h2⟩
 | true=>
  simp only[cond_true] at h
  cases hl:Nat.beq (cs.take n).length n with
  | false=>rw[hl] at h;cases h
  | true=>
   rw[hl] at h
   simp only[cond_true,Option.some.injEq] at h
   subst h
   have hl':(cs.take n).length=n:=Nat.eq_of_beq_eq_true hl
   let us:List Value:=(List.range n).map fun j=>(w.cell? ⟨b,off+j,none⟩).getD undef
   have hus:us.length=n:=by simp[us]
   have key:∀(j:Nat) v,(cs.take n)[j]? = some v->∃u,us[j]? = some u/\w.cell? ⟨b,off+j,none⟩=some u/\ZS R w v u:=by
    intro j v hj
    have hjn:j<n:=by have:=(List.getElem?_eq_some_iff.1 hj).1;omega
    obtain⟨u,h1,h2⟩:=hc j v (by rw[List.getElem?_take] at hj;simpa [hjn] using hj)
    exact⟨u,by simp[us,hjn,h1],h1,h2⟩
   refine⟨.agg us.toArray,ZlJ hag (by rw[hus];exact hsz) ?_,ZmF (ZgN _ _ (by omega) ?_)⟩
   ·intro j v hv
    have hjn:j<n:=by have:=(List.getElem?_eq_some_iff.1 hv).1;omega
    obtain⟨v0,hv0⟩:∃v0,(cs.take n)[j]? = some v0:=⟨_,List.getElem?_eq_getElem (by omega)⟩
    obtain⟨u,f1,f2,_⟩:=key j v0 hv0
    rw[hv] at f1;cases f1
    rw[Addr.add_lit];exact f2
   ·intro j v u hv hu
    obtain⟨u',f1,_,f3⟩:=key j v hv
    rw[hu] at f1;cases f1;exact f3
theorem ZaE {b off:Nat}{cs:Array Value}{el:TypeId}{fr:Nat×Nat} (h:w.heap[b]? = some (.cells cs el fr)):w.cell? ⟨b,off,none⟩=cs[off]?:=by
 simp[World.cell?,h]
theorem Zsv (pre:Pre G R w e a Hm) {n:Nat}{ag:Bool}{t:TypeId}{x v:V}{u0:Value} (hag:ZeZ P t=some ag) (hsz:Zdm P t=some n) (hx:ZS R w x u0) (h:Zbv Hm n ag x=some v) :
  ∃u,(Instr.loadAt t u0).run P w = .ok u w/\ZS R w v u:=by
 unfold Zbv at h
 cases x with
 | ptr b o=>
  dsimp only at h
  cases hb:nth Hm b with
  | none=>simp[hb] at h
  | some blk=>
   rw[hb] at h
   cases blk<;>try (cases h;done)
   rename_i cs
   have hb':=pre.le b _ hb (by simp)
   obtain⟨c,h1,rfl⟩:=hx
   rw[Zy] at hb'
   obtain⟨c',cs',el,fr,e1,e2,e3,e4,e5⟩:=pre.ok.blk b _ _ hb' h1
   cases e1
   obtain⟨u,f1,f2⟩:=ZhA (P:=P) (cs:=cs.drop o) (b:=c) (off:=o) (by
    intro j v hj
    obtain⟨u,g1,g2⟩:=e5 (o+j) v (by simpa using hj)
    exact⟨u,by rw[ZaE e2];exact g1,g2⟩) hag hsz h
   exact⟨u,by simpa [Instr.loadAt,Instr.sureAddr] using f1,f2⟩
 | eptr b sz i k=>
  dsimp only at h
  cases hb:nth Hm b with
  | none=>simp[hb] at h
  | some blk=>
   rw[hb] at h
   cases blk<;>try (cases h;done)
   rename_i sz' xs
   dsimp only at h
   cases hs:Nat.beq sz sz' with
   | false=>simp[hs] at h
   | true=>
    obtain rfl:=Nat.eq_of_beq_eq_true hs
    simp only[hs,cond_true] at h
    cases hxi:nth xs i with
    | none=>simp[hxi] at h
    | some y=>
     simp only[hxi] at h
     have hb':=pre.le b _ hb (by simp)
     obtain⟨c,h1,rfl⟩:=hx
     rw[Zy] at hb' hxi
     obtain⟨e0,e1,e2⟩:=pre.ok.blk b _ _ hb' h1
     rcases e2 with⟨e2,_⟩ | ⟨c',cs,el,e2,e3,e4,e5⟩
     ·cases e2
     ·cases e2
      obtain⟨uy,f1,f2,f3⟩:=e5 i y hxi
      have hyb:(V.d y).okb=true∨∃ts,y = .tup ts:=by cases y<;>simp[V.okb]
      rcases hyb with hyb | ⟨ts,rfl⟩
      ·have hcs:=Zeu (R:=R) (v:=.d y) f1 hyb
       have hVc:(V.d y).cells=ZaU y.cells:=by cases y<;>rfl
       rw[hVc] at hcs
       obtain⟨u,g1,g2⟩:=ZhA (P:=P) (cs:=ZaU (y.cells.drop k)) (b:=c) (off:=i*sz+k) (by
        intro j v hj
        have hj':(ZaU y.cells)[k+j]? = some v:=by
         rw[Zg8,List.getElem?_map] at hj ⊢
         simpa using hj
        obtain⟨u,p1,p2⟩:=ZcX _ _ _ _ hcs hj'
        refine⟨u,?_,p2⟩
        rw[ZaE e3,Nat.add_assoc]
        exact f3 (k+j) u (by simpa using p1)) hag hsz h
       exact⟨u,by simpa [Instr.loadAt,Instr.sureAddr] using g1,g2⟩
      ·have f1':=f1
       obtain⟨us,rfl,_⟩:=f1'
       obtain⟨u,g1,g2⟩:=ZhA (P:=P) (cs:=ZaU (D.cells (.tup ts) |>.drop k)) (b:=c) (off:=i*sz+k) (by
        intro j v hj
        cases k with
        | zero=>
         cases j with
         | zero=>
          simp[D.cells,ZaU] at hj
          subst hj
          refine⟨.tuple us.toArray,?_,f1⟩
          rw[ZaE e3]
          have:=f3 0 (.tuple us.toArray) rfl
          simpa using this
         | succ j=>simp[D.cells,ZaU] at hj
        | succ k=>simp[D.cells,ZaU] at hj) hag hsz h
       exact⟨u,by simpa [Instr.loadAt,Instr.sureAddr] using g1,g2⟩
 | d y=>
  cases y<;>try (cases h;done)
  rename_i cs
  dsimp only at h
  obtain⟨b,off,rfl,h1,h2,h3⟩:=hx
  obtain⟨u,g1,g2⟩:=ZhA (P:=P) (cs:=ZaU cs) (b:=b) (off:=off) (by
   intro j v hj
   rw[Zg8,List.getElem?_map] at hj
   cases hcj:cs[j]? with
   | none=>simp[hcj] at hj
   | some x=>
    simp[hcj] at hj
    subst hj
    obtain⟨u,p1,p2⟩:=Zf0 cs off j x h3 hcj
    exact⟨u,p1,p2⟩) hag hsz h
  exact⟨u,by simpa [Instr.loadAt,Instr.sureAddr] using g1,g2⟩
 | bad=>cases h
 | sl b sz=>cases h
 | slp b sz o l=>cases h
 | nilsl sz=>cases h
 | agg cs=>cases h
 | tup cs=>cases h
 | fn f cs=>cases h
 | mp b=>cases h
theorem ZxO (pre:Pre G R w e a Hm) {n:Nat}{ag:Bool}{t:TypeId}{x:Operand}{y:Opd}{v:V} (hop:o.op = .load t x) (hx:Zn G x y=true) (hag:ZeZ P t=some ag) (hsz:Zdm P t=some n)
  (h:Zbv Hm n ag (y.val e)=some v) (hp:ZA R.H [] nid [] H'):ZaW P o a w (Post R w nid 0 H' v):=by
 obtain⟨u,h1,h2⟩:=Zsv pre hag hsz (pre.opd hx) h
 exact Z8 (s:=Instr.loadAt t (a.eval x)) (by unfold execOp;rw[hop]) h1 (Post.stay pre.ok hp h2)
def Zhn (P:Program) (s:TypeId) (f:Nat):Option (Nat×TypeId):=
 match P.underlying s with
 | some (.struct fields)=>(fields[f]?).map fun x=>(x.offset,x.type)
 | _=>none
theorem Zj5 {s:TypeId}{f off:Nat}{t:TypeId} (h:Zhn P s f=some (off,t)):∃fields fd,P.underlying s=some (.struct fields)/\fields[f]? = some fd/\fd.offset=off/\fd.type=t:=by
 unfold Zhn at h
 split at h
 ·rename_i fields hu
  cases hf:fields[f]? with
  | none=>simp[hf] at h
  | some fd=>
   simp only[hf,Option.map_some,Option.some.injEq,Prod.mk.injEq] at h
   exact⟨fields,fd,hu,hf,h.1,h.2⟩
 ·cases h
theorem Zqr {s:TypeId}{f off n:Nat}{t:TypeId}{x:Addr} (h:Zhn P s f=some (off,t)) (hn:Zdm P t=some n) (h0:n≠0) :
  (Instr.fieldAt s (.pointer (some x)) f).run P w = .ok (.pointer (some (x.add off))) w:=by
 obtain⟨fields,fd,h1,h2,rfl,rfl⟩:=Zj5 h
 simp[Instr.fieldAt,run_underlying h1,h2,Instr.sureAddr,fieldPlace,Zb5 hn,h0]
theorem Zqh (pre:Pre G R w e a Hm) {off:Nat}{x v:V}{u0:Value} (hx:ZS R w x u0) (h:Zhr Hm off x=some v):∃ad,u0 = .pointer (some ad)/\ZS R w v (.pointer (some (ad.add off))):=by
 unfold Zhr at h
 cases x<;>try (cases h;done)
 ·rename_i y
  cases y<;>try (cases h;done)
  rename_i cs
  simp only[Option.some.injEq] at h
  subst h
  obtain⟨b,of,rfl,h1,h2,h3⟩:=hx
  exact⟨_,rfl,b,of+off,by rw[Addr.add_lit],h1,h2,Zn2 cs of off h3⟩
 ·rename_i b o
  simp only[Option.some.injEq] at h
  subst h
  obtain⟨c,h1,rfl⟩:=hx
  exact⟨_,rfl,c,h1,by rw[Addr.add_lit]⟩
 ·rename_i b sz i k
  simp only[Option.some.injEq] at h
  subst h
  obtain⟨c,h1,rfl⟩:=hx
  exact⟨_,rfl,c,h1,by rw[Addr.add_lit,Nat.add_assoc]⟩
theorem Zw5 (pre:Pre G R w e a Hm) {s t:TypeId}{f off n:Nat}{x:Operand}{y:Opd}{v:V} (hop:o.op = .fieldAddr s x f) (hx:Zn G x y=true) (hf:Zhn P s f=some (off,t)) (hn:Zdm P t=some n) (h0:n≠0)
  (h:Zhr Hm off (y.val e)=some v) (hp:ZA R.H [] nid [] H'):ZaW P o a w (Post R w nid 0 H' v):=by
 obtain⟨ad,h1,h2⟩:=Zqh pre (pre.opd hx) h
 exact Z8 (s:=Instr.fieldAt s (a.eval x) f) (by unfold execOp;rw[hop]) (by rw[h1];exact Zqr hf hn h0) (Post.stay pre.ok hp h2)
theorem Zhv {k:IntKind}{n:Int}{u:Value} (h:ZS R w (.d (.int k n)) u):u = .int k n:=h
theorem Zpl {b:Bool}{u:Value} (h:ZS R w (.d (.bool b)) u):u = .bool b:=h
theorem Zw4 {op:BinOp}{x y:V}{r:D}{u1 u2:Value} (t:TypeId) (ox oy:Operand) (hx:ZS R w x u1) (hy:ZS R w y u2) (h:Zjy op x y=some r) :
  ∃u,((do eqGuard op t ox oy u1 u2;binOp op t u1 u2:Sem Value)).run P w = .ok u w/\R.den w r u:=by
 unfold Zjy at h
 split at h
 ·rename_i i a1 j b1
  cases Zhv hx;cases Zhv hy
  unfold shI at h
  cases hb:decide (b1<0) with
  | true=>simp[hb] at h
  | false=>
   simp only[hb,cond_false,Option.some.injEq] at h
   subst h
   have hb':¬b1<0:=of_decide_eq_false hb
   refine⟨_,?_,rfl⟩
   simp[eqGuard,binOp,Op.shift,hb']
 ·rename_i i a1 j b1
  cases Zhv hx;cases Zhv hy
  unfold shI at h
  cases hb:decide (b1<0) with
  | true=>simp[hb] at h
  | false=>
   simp only[hb,cond_false,Option.some.injEq] at h
   subst h
   have hb':¬b1<0:=of_decide_eq_false hb
   refine⟨_,?_,rfl⟩
   simp[eqGuard,binOp,Op.shift,hb']
 ·rename_i op' i a1 j b1 hn1 hn2
  cases Zhv hx;cases Zhv hy
  cases hk:i==j with
  | false=>simp[hk] at h
  | true=>
   obtain rfl:i=j:=by simpa using hk
   simp only[hk,cond_true] at h
   cases op<;>simp only[ZwS,Option.some.injEq] at h
   case shl=>exact(hn1 rfl).elim
   case shr=>exact(hn2 rfl).elim
   case andNot=>cases h
   case quo=>
    cases hb:b1==0 with
    | true=>simp[hb] at h
    | false=>
     simp only[hb,cond_false,Option.some.injEq] at h
     subst h
     exact⟨_,by simp[eqGuard,binOp,Op.intDiv,show ¬b1=0 by simpa using hb],rfl⟩
   case rem=>
    cases hb:b1==0 with
    | true=>simp[hb] at h
    | false=>
     simp only[hb,cond_false,Option.some.injEq] at h
     subst h
     exact⟨_,by simp[eqGuard,binOp,Op.intDiv,show ¬b1=0 by simpa using hb],rfl⟩
   all_goals (subst h;exact⟨_,by simp[eqGuard,binOp,Op.intArith,Op.intBits,Op.intCmp],rfl⟩)
 ·cases h
theorem Zzl (pre:Pre G R w e a Hm) {op:BinOp}{t t':TypeId}{x y:Operand}{x' y':Opd}{r:D} (hop:o.op = .binOp op t x y t') (hx:Zn G x x'=true) (hy:Zn G y y'=true)
  (h:Zjy op (x'.val e) (y'.val e)=some r) (hp:ZA R.H [] nid [] H'):ZaW P o a w (Post R w nid 0 H' (.d r)):=by
 obtain⟨u,h1,h2⟩:=Zw4 (P:=P) t x y (pre.opd hx) (pre.opd hy) h
 exact Z8 (s:=do eqGuard op t x y (a.eval x) (a.eval y);binOp op t (a.eval x) (a.eval y)) (by unfold execOp;rw[hop]) h1 (Post.stay pre.ok hp h2)
theorem ZBM (pre:Pre G R w e a Hm) {op:UnOp}{t:TypeId}{x:Operand}{x':Opd}{r:D} (hop:o.op = .unOp op t x) (hx:Zn G x x'=true)
  (h:unE op (x'.val e)=some r) (hp:ZA R.H [] nid [] H'):ZaW P o a w (Post R w nid 0 H' (.d r)):=by
 have hv:=pre.opd hx
 unfold unE at h
 split at h
 ·rename_i b hb
  rw[hb] at hv
  simp only[Option.some.injEq] at h
  subst h
  exact Z8 (s:=Op.unary .not (a.eval x)) (u:=.bool !b) (by unfold execOp;rw[hop]) (by rw[Zpl hv];rfl) (Post.stay pre.ok hp rfl)
 ·rename_i k n hb
  rw[hb] at hv
  simp only[Option.some.injEq] at h
  subst h
  exact Z8 (s:=Op.unary .neg (a.eval x)) (u:=.int k (k.wrap (0-n))) (by unfold execOp;rw[hop]) (by rw[Zhv hv];rfl) (Post.stay pre.ok hp rfl)
 ·cases h
theorem Zyc (pre:Pre G R w e a Hm) {s t:TypeId}{k k0:IntKind}{n:Int}{ds:TypeDesc}{x:Operand}{x':Opd} (hop:o.op = .convert s t x) (hx:Zn G x x'=true) (hs:P.underlying s=some ds) (ht:P.underlying t=some (.int k))
  (h:x'.val e = .d (.int k0 n)) (hp:ZA R.H [] nid [] H'):ZaW P o a w (Post R w nid 0 H' (.d (.int k (k.wrap n)))):=by
 have hv:=pre.opd hx
 rw[h] at hv
 refine Z8 (s:=convert s t (a.eval x)) (u:=.int k (k.wrap n)) (by unfold execOp;rw[hop]) ?_ (Post.stay pre.ok hp rfl)
 rw[Zhv hv]
 simp[convert,run_underlying hs,run_underlying ht,Conv.intToInt]
theorem ZoN (pre:Pre G R w e a Hm) {x:Operand}{x':Opd}{i:Nat}{v:V} (hop:o.op = .extract x i) (hx:Zn G x x'=true)
  (h:(∃vs,x'.val e = .tup vs/\nth vs i=some v)∨(∃vs y,x'.val e = .d (.tup vs)/\nth vs i=some y/\v = .d y)) (hp:ZA R.H [] nid [] H'):ZaW P o a w (Post R w nid 0 H' v):=by
 have hv:=pre.opd hx
 rcases h with⟨vs,h1,h2⟩ | ⟨vs,y,h1,h2,rfl⟩
 ·rw[h1] at hv
  obtain⟨us,h3,h4⟩:=hv
  rw[Zy] at h2
  obtain⟨u,h5,h6⟩:=ZcX vs us i v h4 h2
  exact Z8 (s:=Instr.extract (a.eval x) i) (u:=u) (by unfold execOp;rw[hop]) (by rw[h3];simp[Instr.extract,h5]) (Post.stay pre.ok hp h6)
 ·rw[h1] at hv
  obtain⟨us,h3,h4⟩:=hv
  rw[Zy] at h2
  obtain⟨u,h5,h6⟩:=Zdn vs us i y h4 h2
  exact Z8 (s:=Instr.extract (a.eval x) i) (u:=u) (by unfold execOp;rw[hop]) (by rw[h3];simp[Instr.extract,h5]) (Post.stay pre.ok hp h6)
theorem Zyp (pre:Pre G R w e a Hm) {f:Nat}{first caps:Array Operand}{ys:List Opd} (hop:o.op = .makeFunc (.func f) first caps) (hlt:isU f=true) (hf:first = #[]) (hx:ZbF G caps.toList ys=true) (hp:ZA R.H [] nid [] H') :
  ZaW P o a w (Post R w nid 0 H' (match ys with | []=>.d (.fn f []) | ys=>.fn f (ZcD e ys))):=by
 subst hf
 have hv:=pre.opds hx
 refine Z8 (s:=Instr.makeFunc (.func f) (#[].map a.eval) (caps.map a.eval)) (u:=.func (.func f) #[] (caps.toList.map a.eval).toArray) (by unfold execOp;rw[hop]) (by
  have hc:caps.map a.eval=(caps.toList.map a.eval).toArray:=by apply Array.ext';simp
  rw[hc];simp[Instr.makeFunc]) (Post.stay pre.ok hp ?_)
 cases ys with
 | nil=>
  simp only[ZcD,ZL] at hv
  exact⟨[],by rw[ZlS hlt];simp[hv],rfl⟩
 | cons y ys=>exact⟨_,(ZlS hlt _).symm,hv⟩
theorem ZwX (pre:Pre G R w e a Hm) {f:Nat}{first caps:Array Operand}{y:Opd}{ys:List Opd} (hop:o.op = .makeFunc (.func f) first caps) (hb:Nat.beq (1000000+f) 2000000=false) (hf:caps = #[]) (hx:ZbF G first.toList (y :: ys)=true) (hp:ZA R.H [] nid [] H') :
  ZaW P o a w (Post R w nid 0 H' (.fn (1000000+f) (ZcD e (y :: ys)))):=by
 subst hf
 have hv:=pre.opds hx
 refine Z8 (s:=Instr.makeFunc (.func f) (first.map a.eval) (#[].map a.eval)) (u:=.func (.func f) (first.toList.map a.eval).toArray #[]) (by unfold execOp;rw[hop]) (by
  have hc:first.map a.eval=(first.toList.map a.eval).toArray:=by apply Array.ext';simp
  rw[hc];simp[Instr.makeFunc]) (Post.stay pre.ok hp ?_)
 refine⟨_,?_,hv⟩
 unfold Zgq
 have h1:isU (1000000+f)=false:=by
  cases h:isU (1000000+f) with
  | false=>rfl
  | true=>exact absurd (Nat.le_of_ble_eq_true (show Nat.ble (1000000+f+1) 1000000=true from h)) (by omega)
 have h2:unB (1000000+f)=f:=Nat.add_sub_cancel_left 1000000 f
 rw[h1,hb,h2]
 rfl
theorem ZwP (pre:Pre G R w e a Hm) {first caps:Array Operand}{y:Opd}{ys:List Opd} (hop:o.op = .makeFunc (.method Zgk) first caps) (hf:caps = #[]) (hx:ZbF G first.toList (y :: ys)=true) (hp:ZA R.H [] nid [] H') :
  ZaW P o a w (Post R w nid 0 H' (.fn 2000000 (ZcD e (y :: ys)))):=by
 subst hf
 have hv:=pre.opds hx
 refine Z8 (s:=Instr.makeFunc (.method Zgk) (first.map a.eval) (#[].map a.eval)) (u:=.func (.method Zgk) (first.toList.map a.eval).toArray #[]) (by unfold execOp;rw[hop]) (by
  have hc:first.map a.eval=(first.toList.map a.eval).toArray:=by apply Array.ext';simp
  rw[hc];simp[Instr.makeFunc]) (Post.stay pre.ok hp ?_)
 exact⟨_,rfl,hv⟩
end
end Go.Proofs.YtgcfmiajkbbmeaaGreatE
namespace Go.Proofs.YtgcfmiajkbbmeaaGreatE
open Go
open Go.IntKind (u64 i64 u32 i32 u8)
section
variable {P:Program} {G:ZQ} {R:RP} {w:World} {e:Env} {a:Act} {Hm H':Zc} {nid:Nat} {o:Oper}
theorem Zpu {n:Nat}{ag:Bool}{cs:List V}{us:List Value}{v:V}{t:TypeId}{off:Nat} (hd:ZL R w cs us) (hag:ZeZ P t=some ag) (hsz:Zdm P t=some n) (h:Zcz n ag (cs.drop off)=some v) :
  ∃u,(part t us.toArray off).run P w = .ok u w/\ZS R w v u:=by
 unfold Zcz at h
 cases ag with
 | false=>
  simp only[cond_false] at h
  rw[List.head?_eq_getElem?,List.getElem?_drop] at h
  obtain⟨u,h1,h2⟩:=ZcX cs us _ v hd h
  refine⟨u,?_,h2⟩
  simp only[Nat.add_zero] at h1
  simp[part,Zde hag,h1]
 | true=>
  simp only[cond_true] at h
  cases hl:Nat.beq ((cs.drop off).take n).length n with
  | false=>rw[hl] at h;cases h
  | true=>
   rw[hl] at h
   simp only[cond_true,Option.some.injEq] at h
   subst h
   have hl':((cs.drop off).take n).length=n:=Nat.eq_of_beq_eq_true hl
   refine⟨.agg (((us.drop off).take n).toArray),?_,ZmF (ZgN _ _ ?_ ?_)⟩
   ·simp[part,Zde hag,Zb5 hsz,List.drop_take]
   ·have:=ZbM cs us hd
    simp only[List.length_take,List.length_drop] at hl' ⊢
    omega
   ·intro j v u hv hu
    have hj:j<n:=by have:=(List.getElem?_eq_some_iff.1 hv).1;omega
    rw[List.getElem?_take,if_pos hj,List.getElem?_drop] at hv hu
    obtain⟨u',g1,g2⟩:=ZcX cs us _ v hd hv
    rw[hu] at g1;cases g1;exact g2
theorem Zr1 (pre:Pre G R w e a Hm) {s t:TypeId}{f off n:Nat}{ag:Bool}{x:Operand}{y:Opd}{v:V} (hop:o.op = .field s x f) (hx:Zn G x y=true) (hf:Zhn P s f=some (off,t)) (hag:ZeZ P t=some ag) (hsz:Zdm P t=some n)
  (h:(∃cs,y.val e = .d (.agg cs)/\Zcz n ag (ZaU (cs.drop off))=some v)∨(∃cs,y.val e = .agg cs/\Zcz n ag (cs.drop off)=some v)) (hp:ZA R.H [] nid [] H'):ZaW P o a w (Post R w nid 0 H' v):=by
 obtain⟨fields,fd,h1,h2,rfl,rfl⟩:=Zj5 hf
 have hv:=pre.opd hx
 have key:∃us:List Value,a.eval x = .agg us.toArray/\∃u,(part fd.type us.toArray fd.offset).run P w = .ok u w/\ZS R w v u:=by
  rcases h with⟨cs,h3,h4⟩ | ⟨cs,h3,h4⟩
  ·rw[h3] at hv
   obtain⟨us,h5,h6⟩:=hv
   refine⟨us,h5,Zpu (cs:=ZaU cs) ((Zbd cs us).2 h6) hag hsz ?_⟩
   rw[Zg8] at h4 ⊢
   rw[<- List.map_drop];exact h4
  ·rw[h3] at hv
   obtain⟨us,h5,h6⟩:=hv
   exact⟨us,h5,Zpu h6 hag hsz h4⟩
 obtain⟨us,h5,u,h6,h7⟩:=key
 exact Z8 (s:=Instr.field s (a.eval x) f) (by unfold execOp;rw[hop]) (by rw[h5];simp[Instr.field,run_underlying h1,h2,asAgg,h6]) (Post.stay pre.ok hp h7)
def Zoz (P:Program) (t:TypeId):Option (Nat×TypeId):=match P.underlying t with | some (.array n e)=>some (n,e) | _=>none
theorem Znu {t el:TypeId}{n:Nat} (h:Zoz P t=some (n,el)):P.underlying t=some (.array n el):=by
 unfold Zoz at h;split at h<;>simp_all
def ZlL (P:Program) (t:TypeId):Option TypeId:=match P.underlying t with | some (.slice e)=>some e | _=>none
theorem ZiD {t el:TypeId} (h:ZlL P t=some el):P.underlying t=some (.slice el):=by
 unfold ZlL at h;split at h<;>simp_all
theorem Zwe (pre:Pre G R w e a Hm) {t el:TypeId}{len n:Nat}{ag:Bool}{x i:Operand}{y j:Opd}{v:V} (hop:o.op = .index t x i) (hx:Zn G x y=true) (hi:Zn G i j=true) (ht:Zoz P t=some (len,el)) (hag:ZeZ P el=some ag) (hsz:Zdm P el=some n)
  (h:ZjD len n ag (y.val e) (j.val e)=some v) (hp:ZA R.H [] nid [] H'):ZaW P o a w (Post R w nid 0 H' v):=by
 have hv:=pre.opd hx
 have hiv:=pre.opd hi
 unfold ZjD at h
 split at h
 ·rename_i k m hj
  rw[hj] at hiv
  cases hc:((y.val e).isAggV&&(decide (0<=m)&&decide (m<len))) with
  | false=>rw[hc] at h;cases h
  | true=>
   rw[hc] at h
   simp only[cond_true] at h
   simp only[Bool.and_eq_true,decide_eq_true_eq] at hc
   obtain⟨hav,hc⟩:=hc
   have hagg:(∃cs,y.val e = .d (.agg cs))∨∃cs,y.val e = .agg cs:=by
    unfold V.isAggV at hav
    split at hav
    ·rename_i cs hv';exact .inl ⟨cs,hv'⟩
    ·rename_i cs hv';exact .inr ⟨cs,hv'⟩
    ·cases hav
   have hb:(y.val e).okb=true:=by rcases hagg with⟨cs,h3⟩ | ⟨cs,h3⟩<;>rw[h3]<;>rfl
   have hcs:=Zeu hv hb
   have hag':∃us,a.eval x = .agg us:=by
    rcases hagg with⟨cs,h3⟩ | ⟨cs,h3⟩<;>(rw[h3] at hv;obtain⟨us,h5,_⟩:=hv;exact⟨_,h5⟩)
   obtain⟨us,hus⟩:=hag'
   rw[hus] at hcs
   obtain⟨u,h1,h2⟩:=Zpu (P:=P) hcs hag hsz h
   refine Z8 (s:=Instr.index t (a.eval x) (a.eval i)) (u:=u) (by unfold execOp;rw[hop]) ?_ (Post.stay pre.ok hp h2)
   rw[hus,Zhv hiv]
   simp only[Value.cells,Array.toArray_toList] at h1
   simp[Instr.index,asIntOf,run_underlying (Znu ht),hc,Zb5 hsz,h1]
 ·cases h
theorem ZvY (pre:Pre G R w e a Hm) {t:TypeId}{x i:Operand}{y j:Opd}{v:V} (hop:o.op = .index t x i) (hx:Zn G x y=true) (hi:Zn G i j=true) (ht:P.underlying t=some .string)
  (h:Zhu (y.val e) (j.val e)=some v) (hp:ZA R.H [] nid [] H'):ZaW P o a w (Post R w nid 0 H' v):=by
 have hv:=pre.opd hx
 have hiv:=pre.opd hi
 unfold Zhu at h
 split at h
 ·rename_i s k m hy hj
  rw[hj] at hiv
  rw[hy] at hv
  cases hc:decide (0<=m) with
  | false=>rw[hc] at h;cases h
  | true=>
   rw[hc] at h
   simp only[cond_true] at h
   have h0:0<=m:=of_decide_eq_true hc
   cases hs:s[m.toNat]? with
   | none=>rw[hs] at h;cases h
   | some b=>
    rw[hs] at h
    simp only[Option.some.injEq] at h
    subst h
    refine Z8 (s:=Instr.index t (a.eval x) (a.eval i)) (u:=.int .u8 b.toNat) (by unfold execOp;rw[hop]) ?_ (Post.stay pre.ok hp rfl)
    rw[Zhv hiv,show a.eval x = .string s from hv]
    simp[Instr.index,asIntOf,run_underlying ht,h0,hs]
 ·cases h
theorem ZcO {m:Option Nat}{xs:List D}{sz of len:Nat}{u:Value} (h:Zo8 w m xs sz of len u) (h0:0<len∨of<xs.length) :
  ∃c cs el fr cap,m=some c/\u = .slice (some ⟨c,of*sz,none⟩) len cap/\len<=cap/\w.heap[c]? = some (.cells cs el fr)/\cs.size=(of+cap)*sz:=by
 obtain⟨h1,ad,cap,rfl,h3,h4⟩:=h
 rcases h4 with⟨rfl,h4⟩ | ⟨c,cs,el,fr,rfl,rfl,h6,h7⟩
 ·exfalso;omega
 ·exact⟨c,cs,el,fr,cap,rfl,rfl,h3,h6,h7⟩
theorem ZpV {t el:TypeId}{n:Nat}{ad:Addr}{len cap:Nat}{k:IntKind}{i:Int} (ht:ZlL P t=some el) (hsz:Zdm P el=some n) (h0:0<=i) (h1:i<len) :
  (Instr.indexAt t (.slice (some ad) len cap) (.int k i)).run P w = .ok (.pointer (some (ad.add (i.toNat*n)))) w:=by
 simp[Instr.indexAt,asIntOf,run_underlying (ZiD ht),Zb5 hsz,h0,h1]
theorem Zv4 {A1 A0 AL:Nat->Prop}{b off:Nat}{x:D}{u:Value} (hu:ZV A1 A0 AL w x u) (hb:(V.d x).okb=true) (hc:∀(k:Nat) v,u.cells[k]? = some v->w.cell? ⟨b,off+k,none⟩=some v) :
  u.cells.size=x.cells.length/\ZaQ A1 A0 AL w b off x.cells:=by
 have one:∀{x:D} {u:Value},ZV A1 A0 AL w x u->u.cells = #[u]->x.cells=[x]->(∀(k:Nat) v,u.cells[k]? = some v->w.cell? ⟨b,off+k,none⟩=some v)->u.cells.size=x.cells.length/\ZaQ A1 A0 AL w b off x.cells:=by
  intro x u h1 h2 h3 h4
  have h5:=h4 0 u (by rw[h2];rfl)
  rw[h2,h3]
  exact⟨rfl,⟨u,by simpa using h5,h1⟩,trivial⟩
 cases x with
 | agg cs=>
  obtain⟨us,rfl,h⟩:=hu
  refine⟨by simpa [Value.cells,D.cells] using Zn6 cs us h,ZeL _ _ fun j y hj=>?_⟩
  obtain⟨u,h1,h2⟩:=Zdn cs us j y h hj
  exact⟨u,hc j u (by simpa [Value.cells] using h1),h2⟩
 | tup cs=>simp[V.okb] at hb
 | bool b=>cases hu;exact one (x:=.bool b) rfl rfl rfl hc
 | int k n=>cases hu;exact one (x:=.int k n) rfl rfl rfl hc
 | str s=>cases hu;exact one (x:=.str s) rfl rfl rfl hc
 | nilfn=>cases hu;exact one (x:=.nilfn) rfl rfl rfl hc
 | nilp=>cases hu;exact one (x:=.nilp) rfl rfl rfl hc
 | nilI=>cases hu;exact one (x:=.nilI) rfl rfl rfl hc
 | list own xs=>
  have hu':=hu
  obtain⟨ad,len,cap,rfl,_⟩:=hu'
  exact one hu rfl rfl hc
 | fn f caps=>
  have hu':=hu
  obtain⟨us,rfl,_⟩:=hu'
  exact one hu (Zp7 _ _) rfl hc
 | rptr cs=>
  have hu':=hu
  obtain⟨b',off',rfl,_⟩:=hu'
  exact one hu rfl rfl hc
 | iface t v=>
  have hu':=hu
  obtain⟨u',rfl,_⟩:=hu'
  exact one hu rfl rfl hc
theorem Zi7 (pre:Pre G R w e a Hm) {b sz:Nat}{xs:List D}{u:Value} (hb:nth Hm b=some (.arr sz xs)) (h:ZS R w (.sl b sz) u) :
  ∃m,R.M b=some m/\nth R.H b=some (.arr sz xs)/\ZeI R w m (.arr sz xs)/\Zo8 w m xs sz 0 xs.length u:=by
 have hb':=pre.le b _ hb (by simp)
 obtain⟨_,m,h1,h2⟩:=h
 exact⟨m,h1,hb',pre.ok.blk b _ _ (by rw[<- Zy];exact hb') h1,h2 xs hb'⟩
theorem Zhw (pre:Pre G R w e a Hm) {b sz o len:Nat}{xs:List D}{u:Value} (hb:nth Hm b=some (.arr sz xs)) (h:ZS R w (.slp b sz o len) u) :
  ∃m,R.M b=some m/\nth R.H b=some (.arr sz xs)/\ZeI R w m (.arr sz xs)/\Zo8 w m xs sz o len u:=by
 have hb':=pre.le b _ hb (by simp)
 obtain⟨_,m,h1,h2⟩:=h
 exact⟨m,h1,hb',pre.ok.blk b _ _ (by rw[<- Zy];exact hb') h1,h2 xs hb'⟩
theorem Zwp (pre:Pre G R w e a Hm) {t el:TypeId}{n:Nat}{x i:Operand}{y j:Opd}{v:V} (hop:o.op = .indexAddr t x i) (hx:Zn G x y=true) (hi:Zn G i j=true) (ht:ZlL P t=some el) (hsz:Zdm P el=some n)
  (h:Zfq Hm n (y.val e) (j.val e)=some v) (hp:ZA R.H [] nid [] H'):ZaW P o a w (Post R w nid 0 H' v):=by
 have hv:=pre.opd hx
 have hiv:=pre.opd hi
 unfold Zfq at h
 have fin:∀{k:IntKind} {m:Int} {ad:Addr} {len cap:Nat} ,a.eval i = .int k m->a.eval x = .slice (some ad) len cap->0<=m->m<len->ZS R w v (.pointer (some (ad.add (m.toNat*n))))->ZaW P o a w (Post R w nid 0 H' v):=
  fun h1 h2 h3 h4 h5=>Z8 (s:=Instr.indexAt t (a.eval x) (a.eval i)) (by unfold execOp;rw[hop]) (by rw[h1,h2];exact ZpV ht hsz h3 h4) (Post.stay pre.ok hp h5)
 split at h
 ·rename_i k m hj
  rw[hj] at hiv
  split at h
  ·rename_i own xs hy
   rw[hy] at hv
   cases hg:ZG xs m with
   | none=>rw[hg] at h;cases h
   | some z=>
    rw[hg] at h
    dsimp only at h
    cases hc:(Nat.beq z.cells.length n&&(V.d z).okb) with
    | false=>rw[hc] at h;cases h
    | true=>
     rw[hc] at h
     simp only[cond_true,Option.some.injEq] at h
     subst h
     simp only[Bool.and_eq_true] at hc
     obtain⟨h0,h1,h2⟩:=ZlO xs m z hg
     obtain⟨ad,len,cap,e1,rfl,e3,e4,e5⟩:=hv
     obtain⟨b,off,sz,rfl,f2,f3,f4⟩:=e5 (by intro hn;rw[hn] at h2;simp at h2)
     obtain⟨u,g1,g2,g3⟩:=Zgw xs off m.toNat z f4 h2
     obtain⟨q1,q2⟩:=Zv4 (b:=b) (off:=off+m.toNat*sz) g1 hc.2 g3
     have hn:sz=n:=by rw[<- g2,q1];exact Nat.eq_of_beq_eq_true hc.1
     subst hn
     refine fin (Zhv hiv) e1 h0 h1 ⟨b,off+m.toNat*sz,by rw[Addr.add_lit],?_,f3,q2⟩
     cases own
     ·exact f2
     ·exact⟨f2.1,fun hb=>f2.2 (pre.ok.b01 _ hb)⟩
  ·rename_i b sz' hy
   rw[hy] at hv
   cases hb:nth Hm b with
   | none=>rw[hb] at h;cases h
   | some blk=>
    rw[hb] at h
    cases blk<;>try (cases h;done)
    rename_i sz'' xs
    dsimp only at h
    cases hs:(Nat.beq n sz'&&Nat.beq n sz'') with
    | false=>rw[hs] at h;cases h
    | true=>
     rw[hs] at h
     simp only[Bool.and_eq_true] at hs
     obtain rfl:=Nat.eq_of_beq_eq_true hs.1
     obtain rfl:=Nat.eq_of_beq_eq_true hs.2
     simp only[cond_true] at h
     cases hg:ZG xs m with
     | none=>rw[hg] at h;cases h
     | some z=>
      rw[hg] at h
      simp only[Option.some.injEq] at h
      subst h
      obtain⟨h0,h1,h2⟩:=ZlO xs m z hg
      obtain⟨mm,q1,q2,q3,q4⟩:=Zi7 pre hb hv
      obtain⟨c,cs,el',fr,cap,rfl,e1,e2,e3,e4⟩:=ZcO q4 (.inr (by omega))
      refine fin (Zhv hiv) e1 h0 h1 ⟨c,q1,?_⟩
      rw[Addr.add_lit,Nat.zero_mul,Nat.zero_add];rfl
  ·rename_i b sz' of ln hy
   rw[hy] at hv
   cases hb:nth Hm b with
   | none=>rw[hb] at h;cases h
   | some blk=>
    rw[hb] at h
    cases blk<;>try (cases h;done)
    rename_i sz'' xs
    dsimp only at h
    cases hs:(Nat.beq n sz'&&Nat.beq n sz'') with
    | false=>rw[hs] at h;cases h
    | true=>
     rw[hs] at h
     simp only[Bool.and_eq_true] at hs
     obtain rfl:=Nat.eq_of_beq_eq_true hs.1
     obtain rfl:=Nat.eq_of_beq_eq_true hs.2
     simp only[cond_true] at h
     cases hg:ZG ((xs.drop of).take ln) m with
     | none=>rw[hg] at h;cases h
     | some z=>
      rw[hg] at h
      simp only[Option.some.injEq] at h
      subst h
      obtain⟨h0,h1,h2⟩:=ZlO _ m z hg
      simp only[List.length_take,List.length_drop] at h1
      obtain⟨mm,q1,q2,q3,q4⟩:=Zhw pre hb hv
      obtain⟨c,cs,el',fr,cap,rfl,e1,e2,e3,e4⟩:=ZcO q4 (.inr (by omega))
      refine fin (Zhv hiv) e1 h0 (by omega) ⟨c,q1,?_⟩
      rw[Addr.add_lit,Nat.add_mul];rfl
  ·cases h
 ·cases h
end
end Go.Proofs.YtgcfmiajkbbmeaaGreatE
namespace Go.Proofs.YtgcfmiajkbbmeaaGreatE
open Go
open Go.IntKind (u64 i64 u32 i32 u8)
section
variable {P:Program} {G:ZQ} {R:RP} {w:World} {e:Env} {a:Act} {Hm H':Zc} {nid:Nat} {o:Oper}
theorem Zt3 (pre:Pre G R w e a Hm) {t el:TypeId}{n len:Nat}{x i:Operand}{y j:Opd}{v:V} (hop:o.op = .indexAddr t x i) (hx:Zn G x y=true) (hi:Zn G i j=true) (ht:Zoz P t=some (len,el)) (hsz:Zdm P el=some n)
  (h:ZdP Hm len n (y.val e) (j.val e)=some v) (hp:ZA R.H [] nid [] H'):ZaW P o a w (Post R w nid 0 H' v):=by
 have hv:=pre.opd hx
 have hiv:=pre.opd hi
 unfold ZdP at h
 split at h
 ·rename_i k m hj
  rw[hj] at hiv
  cases hc:(decide (0<=m)&&decide (m<len)) with
  | false=>rw[hc] at h;cases h
  | true=>
   rw[hc] at h
   simp only[cond_true] at h
   simp only[Bool.and_eq_true,decide_eq_true_eq] at hc
   obtain⟨ad,h1,h2⟩:=Zqh pre hv h
   refine Z8 (s:=Instr.indexAt t (a.eval x) (a.eval i)) (by unfold execOp;rw[hop]) ?_ (Post.stay pre.ok hp h2)
   rw[h1,Zhv hiv]
   simp[Instr.indexAt,asIntOf,Instr.sureAddr,run_underlying (Znu ht),Zb5 hsz,hc]
 ·cases h
theorem ZrN (pre:Pre G R w e a Hm) {x:V}{xs:List D}{u:Value} (hx:ZS R w x u) (h:elems Hm x=some xs) (hl:0<xs.length):∃ad cap,u = .slice (some ad) xs.length cap:=by
 unfold elems at h
 split at h
 ·rename_i own xs'
  simp only[Option.some.injEq] at h
  subst h
  obtain⟨ad,len,cap,rfl,rfl,e3,e4,e5⟩:=hx
  obtain⟨b,off,sz,rfl,_⟩:=e5 (by intro hn;rw[hn] at hl;simp at hl)
  exact⟨_,cap,rfl⟩
 ·rename_i b sz
  cases hb:nth Hm b with
  | none=>rw[hb] at h;cases h
  | some blk=>
   rw[hb] at h
   cases blk<;>try (cases h;done)
   rename_i sz' xs'
   dsimp only at h
   cases hs:Nat.beq sz sz' with
   | false=>rw[hs] at h;cases h
   | true=>
    rw[hs] at h
    simp only[cond_true,Option.some.injEq] at h
    subst h
    obtain rfl:=Nat.eq_of_beq_eq_true hs
    obtain⟨m,q1,q2,q3,q4⟩:=Zi7 pre hb hx
    obtain⟨c,cs,el,fr,cap,rfl,rfl,_⟩:=ZcO q4 (.inl hl)
    exact⟨_,cap,rfl⟩
 ·rename_i b sz of len
  cases hb:nth Hm b with
  | none=>rw[hb] at h;cases h
  | some blk=>
   rw[hb] at h
   cases blk<;>try (cases h;done)
   rename_i sz' xs'
   dsimp only at h
   cases hs:Nat.beq sz sz' with
   | false=>rw[hs] at h;cases h
   | true=>
    rw[hs] at h
    simp only[cond_true,Option.some.injEq] at h
    subst h
    obtain rfl:=Nat.eq_of_beq_eq_true hs
    obtain⟨m,q1,q2,q3,q4⟩:=Zhw pre hb hx
    have hlen:((xs'.drop of).take len).length=len:=by
     have:=q4.1
     simp only[List.length_take,List.length_drop];omega
    rw[hlen] at hl ⊢
    obtain⟨c,cs,el,fr,cap,rfl,rfl,_⟩:=ZcO q4 (.inl hl)
    exact⟨_,cap,rfl⟩
 ·simp only[Option.some.injEq] at h
  subst h
  simp at hl
 ·cases h
theorem ZoP (pre:Pre G R w e a Hm) {x:V}{xs:List D}{u:Value} (hx:ZS R w x u) (h:elems Hm x=some xs):∃ad cap,u = .slice ad xs.length cap/\xs.length<=cap:=by
 unfold elems at h
 split at h
 ·rename_i own xs'
  simp only[Option.some.injEq] at h
  subst h
  obtain⟨ad,len,cap,rfl,rfl,e3,_⟩:=hx
  exact⟨ad,cap,rfl,e3⟩
 ·rename_i b sz
  cases hb:nth Hm b with
  | none=>rw[hb] at h;cases h
  | some blk=>
   rw[hb] at h
   cases blk<;>try (cases h;done)
   rename_i sz' xs'
   dsimp only at h
   cases hs:Nat.beq sz sz' with
   | false=>rw[hs] at h;cases h
   | true=>
    rw[hs] at h
    simp only[cond_true,Option.some.injEq] at h
    subst h
    obtain rfl:=Nat.eq_of_beq_eq_true hs
    obtain⟨m,q1,q2,q3,q4,ad,cap,rfl,q5,_⟩:=Zi7 pre hb hx
    exact⟨ad,cap,rfl,q5⟩
 ·rename_i b sz of len
  cases hb:nth Hm b with
  | none=>rw[hb] at h;cases h
  | some blk=>
   rw[hb] at h
   cases blk<;>try (cases h;done)
   rename_i sz' xs'
   dsimp only at h
   cases hs:Nat.beq sz sz' with
   | false=>rw[hs] at h;cases h
   | true=>
    rw[hs] at h
    simp only[cond_true,Option.some.injEq] at h
    subst h
    obtain rfl:=Nat.eq_of_beq_eq_true hs
    obtain⟨m,q1,q2,q3,q4,ad,cap,rfl,q5,_⟩:=Zhw pre hb hx
    have:((xs'.drop of).take len).length=len:=by simp only[List.length_take,List.length_drop];omega
    rw[this]
    exact⟨ad,cap,rfl,q5⟩
 ·simp only[Option.some.injEq] at h
  subst h
  obtain⟨ad,rfl⟩:=hx
  exact⟨ad,0,rfl,Nat.le_refl _⟩
 ·cases h
theorem ZdX {b:Builtin}{xs:Array Operand}{ats:Array TypeId} (hop:o.op = .call { callee:=.builtin b,args:=xs,argTypes:=ats }) :
  execOp a.eval o=builtin b ats o.type (xs.map fun | .const _=>true | _=>false) (xs.map a.eval):=by
 obtain⟨dst,op,ty,pos,after,guard⟩:=o
 simp only at hop
 subst hop
 rfl
theorem ZAz (pre:Pre G R w e a Hm) {t el:TypeId}{x:Operand}{y:Opd}{r:D} (hop:o.op = .call { callee:=.builtin .len,args:=#[x],argTypes:=#[t] }) (hx:Zn G x y=true) (ht:ZlL P t=some el)
  (h:Zpj Hm (y.val e)=some r) (hp:ZA R.H [] nid [] H'):ZaW P o a w (Post R w nid 0 H' (.d r)):=by
 have hv:=pre.opd hx
 unfold Zpj at h
 cases hes:elems Hm (y.val e) with
 | none=>rw[hes] at h;cases h
 | some xs=>
  rw[hes] at h
  simp only[Option.some.injEq] at h
  subst h
  obtain⟨ad,cap,h1,_⟩:=ZoP pre hv hes
  refine Z8 (s:=Builtin.len_ #[t] o.type #[a.eval x]) (u:=.int .i64 xs.length) (by rw[ZdX hop,BigFrame.builtin_len];simp) ?_ (Post.stay pre.ok hp rfl)
  rw[h1]
  simp[Builtin.len_,run_underlying (ZiD ht),goInt]
def ZrV (x:Option Value) (d l:Nat):Prop:=(x=none/\l=d)∨∃k,x=some (.int k (l:Int))
theorem ZyS {t el:TypeId}{sz:Nat}{ad:Option Addr}{len cap l h:Nat}{lo hi:Option Value} (ht:ZlL P t=some el) (hsz:Zdm P el=some sz) (h1:ZrV lo 0 l) (h2:ZrV hi len h) (h3:l<=h) (h4:h<=cap) (h5:len<=cap) :
  (Instr.sliceAt t (.slice ad len cap) lo hi none).run P w = .ok (.slice (if cap=l then ad else ad.map (·.add (l*sz))) (h-l) (cap-l)) w:=by
 have ht':=ZiD ht
 rcases h1 with⟨rfl,rfl⟩ | ⟨k1,rfl⟩<;>rcases h2 with⟨rfl,rfl⟩ | ⟨k2,rfl⟩<;>
  simp[Instr.sliceAt,Instr.slice,run_underlying ht',Instr.sliceBounds,Instr.sliceBound,asIntOf,Zb5 hsz, *]
theorem ZwG {t el:TypeId}{sz:Nat}{ad:Option Addr}{len cap l h m:Nat}{lo hi mx:Option Value} (ht:ZlL P t=some el) (hsz:Zdm P el=some sz) (h1:ZrV lo 0 l) (h2:∃k,hi=some (.int k (h:Int))) (h6:∃k,mx=some (.int k (m:Int))) (h3:l<=h) (h4:h<=m) (h5:m<=cap) :
  (Instr.sliceAt t (.slice ad len cap) lo hi mx).run P w = .ok (.slice (if m=l then ad else ad.map (·.add (l*sz))) (h-l) (m-l)) w:=by
 have ht':=ZiD ht
 obtain⟨k2,rfl⟩:=h2
 obtain⟨k3,rfl⟩:=h6
 rcases h1 with⟨rfl,rfl⟩ | ⟨k1,rfl⟩<;>
  simp[Instr.sliceAt,Instr.slice,run_underlying ht',Instr.sliceBounds,Instr.sliceBound,asIntOf,Zb5 hsz, *]
def Zjs (G:ZQ):Option Operand->Option Opd->Bool
 | none,none=>true
 | some x,some y=>Zn G x y
 | _,_=>false
theorem Zq4 (pre:Pre G R w e a Hm) {x:Option Operand}{y:Option Opd}{d l:Nat} (hx:Zjs G x y=true) (h:ZeU (y.map (·.val e)) d=some l):ZrV (x.map a.eval) d l:=by
 cases x with
 | none=>
  cases y with
  | some y=>cases hx
  | none=>simp[ZeU] at h;exact .inl ⟨rfl,h.symm⟩
 | some x=>
  cases y with
  | none=>cases hx
  | some y=>
   have hv:=pre.opd (x:=x) (y:=y) hx
   simp only[Option.map_some] at h
   unfold ZeU at h
   split at h
   ·cases ‹some _=none›
   ·rename_i k n hy
    simp only[Option.some.injEq] at hy
    rw[hy] at hv
    cases h0:decide (0<=n) with
    | false=>rw[h0] at h;cases h
    | true=>
     rw[h0] at h
     simp only[cond_true,Option.some.injEq] at h
     have h0':0<=n:=of_decide_eq_true h0
     refine .inr ⟨k,?_⟩
     simp only[Option.map_some]
     rw[Zhv hv,<- h,Int.toNat_of_nonneg h0']
   ·cases h
theorem ZwO (pre:Pre G R w e a Hm) {t el:TypeId}{n:Nat}{x:Operand}{y:Opd}{lo hi mx:Option Operand}{lo' hi' mx':Option Opd}{v:V} (hop:o.op = .slice t x lo hi mx) (hx:Zn G x y=true)
  (hlo:Zjs G lo lo'=true) (hhi:Zjs G hi hi'=true) (hmx:Zjs G mx mx'=true) (hh:mx'.isSome=true->hi'.isSome=true) (ht:ZlL P t=some el) (hsz:Zdm P el=some n)
  (h:ZfJ Hm n (y.val e) (lo'.map (·.val e)) (hi'.map (·.val e)) (mx'.map (·.val e))=some v) (hp:ZA R.H [] nid [] H'):ZaW P o a w (Post R w nid 0 H' v):=by
 have hv:=pre.opd hx
 unfold ZfJ at h
 cases hes:elems Hm (y.val e) with
 | none=>rw[hes] at h;cases h
 | some xs=>
  rw[hes] at h
  dsimp only at h
  cases hl:ZeU (lo'.map (·.val e)) 0 with
  | none=>rw[hl] at h;cases h
  | some l=>
   rw[hl] at h
   cases hhn:ZeU (hi'.map (·.val e)) xs.length with
   | none=>rw[hhn] at h;cases h
   | some hn=>
    rw[hhn] at h
    dsimp only at h
    cases hc:(Nat.ble l hn&&Nat.ble hn xs.length) with
    | false=>rw[hc] at h;cases h
    | true=>
     rw[hc] at h
     simp only[cond_true] at h
     simp only[Bool.and_eq_true,Nat.ble_eq] at hc
     obtain⟨c1,c2⟩:=hc
     obtain⟨ad,cap,q1,q2⟩:=ZoP pre hv hes
     have b1:=Zq4 pre hlo hl
     have b2:=Zq4 pre hhi hhn
     have fin:ZS R w v (.slice (if cap=l then ad else ad.map (·.add (l*n))) (hn-l) (cap-l))->mx=none->ZaW P o a w (Post R w nid 0 H' v):=fun h5 hm=>
      Z8 (s:=Instr.sliceAt t (a.eval x) (lo.map a.eval) (hi.map a.eval) (mx.map a.eval)) (by unfold execOp;rw[hop]) (by rw[q1,hm];exact ZyS ht hsz b1 b2 c1 (by omega) q2) (Post.stay pre.ok hp h5)
     cases mx' with
     | none=>
      have hm:mx=none:=by cases mx with | none=>rfl | some m=>cases hmx
      simp only[Option.map_none] at h
      refine fin ?_ hm
      rw[q1] at hv
      cases hy:y.val e<;>rw[hy] at h hv hes<;>try (cases h;done)
      ·rename_i z
       cases z<;>try (cases h;done)
       rename_i own xs'
       simp only[elems,Option.some.injEq] at hes
       subst hes
       dsimp only at h
       cases hg:(Nat.beq l 0 || Zgr n xs' l) with
       | false=>rw[hg] at h;cases h
       | true=>
        rw[hg] at h
        simp only[cond_true,Option.some.injEq] at h
        subst h
        obtain⟨ad',len',cap',e1,e2,e3,e4,e5⟩:=hv
        cases e1
        have hlen:((xs'.drop l).take (hn-l)).length=hn-l:=by simp only[List.length_take,List.length_drop];omega
        refine⟨_,_,_,rfl,hlen.symm,by omega,fun z hz=>e4 z (List.mem_of_mem_drop (List.mem_of_mem_take hz)),fun hne=>?_⟩
        have hlt:l<hn:=by
         rcases Nat.lt_or_ge l hn with h | h
         ·exact h
         ·exact absurd (List.eq_nil_of_length_eq_zero (by omega)) hne
        obtain⟨b,off,sz,rfl,f2,f3,f4⟩:=e5 (by intro hn';rw[hn'] at c2;simp at c2;omega)
        have hcl:cap≠l:=by omega
        have hsame:l*n=l*sz:=by
         simp only[Bool.or_eq_true] at hg
         rcases hg with hg | hg
         ·rw[Nat.eq_of_beq_eq_true hg,Nat.zero_mul,Nat.zero_mul]
         ·have hll:l<xs'.length:=by omega
          unfold Zgr at hg
          rw[Zy,List.getElem?_eq_getElem hll] at hg
          simp only[Bool.and_eq_true] at hg
          obtain⟨u,g1,g2,g3⟩:=Zgw xs' off l _ f4 (List.getElem?_eq_getElem hll)
          have:=Zeu (R:=R) (v:=.d xs'[l]) g1 hg.2
          have h6:=ZbM _ _ this
          have hVc:(V.d xs'[l]).cells=ZaU xs'[l].cells:=by cases xs'[l]<;>rfl
          rw[hVc,Zg8,List.length_map,Nat.eq_of_beq_eq_true hg.1] at h6
          rw[<- g2];simp at h6;rw[h6]
        refine⟨b,off+l*sz,sz,by rw[if_neg hcl,hsame];simp[Addr.add_lit],f2,f3,ZgS _ _ fun j z hz=>?_⟩
        have hj:j<hn-l:=by have:=(List.getElem?_eq_some_iff.1 hz).1;omega
        rw[List.getElem?_take,if_pos hj,List.getElem?_drop] at hz
        obtain⟨u,g1,g2,g3⟩:=Zgw xs' off (l+j) z f4 hz
        exact⟨u,g1,g2,fun k v hk=>by rw[<- g3 k v hk,Nat.add_mul];congr 2;omega⟩
      ·rename_i b sz'
       dsimp only at h
       cases hg:Nat.beq n sz' with
       | false=>rw[hg] at h;cases h
       | true=>
        rw[hg] at h
        simp only[cond_true,Option.some.injEq] at h
        obtain rfl:=Nat.eq_of_beq_eq_true hg
        subst h
        simp only[elems] at hes
        cases hb:nth Hm b with
        | none=>rw[hb] at hes;cases hes
        | some blk=>
         rw[hb] at hes
         cases blk<;>try (cases hes;done)
         rename_i sz'' xs'
         dsimp only at hes
         cases hs:Nat.beq n sz'' with
         | false=>rw[hs] at hes;cases hes
         | true=>
          rw[hs] at hes
          simp only[cond_true,Option.some.injEq] at hes
          obtain rfl:=Nat.eq_of_beq_eq_true hs
          subst hes
          obtain⟨m,r1,r2,r3,r4⟩:=Zi7 pre hb hv
          refine⟨⟨_,_,_,rfl⟩,m,r1,fun ys hys=>?_⟩
          rw[r2] at hys;cases hys
          obtain⟨_,ad',cap',s1,s2,s3⟩:=r4
          cases s1
          refine⟨by omega,_,_,rfl,by omega,?_⟩
          rcases s3 with⟨s3,s4⟩ | ⟨c,cs,el',fr,s4,s5,s6,s7⟩
          ·exact .inl ⟨by omega,by omega⟩
          ·by_cases hcl:cap=l
           ·exact .inl ⟨by omega,by omega⟩
           ·refine .inr ⟨c,cs,el',fr,s4,?_,s6,?_⟩
            ·rw[if_neg hcl,s5];simp[Addr.add_lit]
            ·rw[s7];congr 1;omega
      ·rename_i b sz' of len
       dsimp only at h
       cases hg:Nat.beq n sz' with
       | false=>rw[hg] at h;cases h
       | true=>
        rw[hg] at h
        simp only[cond_true,Option.some.injEq] at h
        obtain rfl:=Nat.eq_of_beq_eq_true hg
        subst h
        simp only[elems] at hes
        cases hb:nth Hm b with
        | none=>rw[hb] at hes;cases hes
        | some blk=>
         rw[hb] at hes
         cases blk<;>try (cases hes;done)
         rename_i sz'' xs'
         dsimp only at hes
         cases hs:Nat.beq n sz'' with
         | false=>rw[hs] at hes;cases hes
         | true=>
          rw[hs] at hes
          simp only[cond_true,Option.some.injEq] at hes
          obtain rfl:=Nat.eq_of_beq_eq_true hs
          subst hes
          obtain⟨m,r1,r2,r3,r4⟩:=Zhw pre hb hv
          simp only[List.length_take,List.length_drop] at c2 r4 q2
          refine⟨⟨_,_,_,rfl⟩,m,r1,fun ys hys=>?_⟩
          rw[r2] at hys;cases hys
          obtain⟨s0,ad',cap',s1,s2,s3⟩:=r4
          simp only[Value.slice.injEq] at s1
          obtain⟨rfl,_,rfl⟩:=s1
          refine⟨by omega,_,_,rfl,by omega,?_⟩
          rcases s3 with⟨s3,s4⟩ | ⟨c,cs,el',fr,s4,s5,s6,s7⟩
          ·exact .inl ⟨by omega,by omega⟩
          ·obtain⟨t0,_,t1⟩:=r3
           by_cases hcl:cap=l
           ·refine .inl ⟨by omega,?_⟩
            rcases t1 with⟨t1,t2⟩ | ⟨c',cs',el'',t1,t2,t3,_⟩
            ·rw[t1] at s4;cases s4
            ·rw[t1] at s4;cases s4
             rw[t2] at s6;cases s6
             rw[s7] at t3
             have:=Nat.le_of_mul_le_mul_right t3 t0
             omega
           ·refine .inr ⟨c,cs,el',fr,s4,?_,s6,?_⟩
            ·rw[if_neg hcl,s5];simp[Addr.add_lit,Nat.add_mul]
            ·rw[s7];congr 1;omega
      ·rename_i sz'
       simp only[Option.some.injEq] at h
       subst h
       simp only[elems,Option.some.injEq] at hes
       subst hes
       obtain⟨ad',hv⟩:=hv
       cases hv
       simp only[List.length_nil] at c2
       obtain rfl:l=0:=by omega
       obtain rfl:hn=0:=by omega
       exact⟨_,rfl⟩
     | some m'=>
      cases mx with
      | none=>cases hmx
      | some m=>
       cases hhs:hi' with
       | none=>rw[hhs] at hh;cases hh rfl
       | some hi1=>
        dsimp only[Option.map_some] at h
        cases hm:ZeU (some (m'.val e)) 0 with
        | none=>rw[hm] at h;cases h
        | some mm=>
         rw[hm] at h
         dsimp only at h
         cases hg:(Nat.beq mm l&&Nat.beq mm hn) with
         | false=>rw[hg] at h;cases h
         | true=>
          rw[hg] at h
          simp only[cond_true,Option.some.injEq] at h
          subst h
          simp only[Bool.and_eq_true] at hg
          obtain rfl:=Nat.eq_of_beq_eq_true hg.1
          obtain rfl:=Nat.eq_of_beq_eq_true hg.2
          have b3:=Zq4 pre (x:=some m) (y:=some m') hmx (by simpa using hm)
          refine Z8 (s:=Instr.sliceAt t (a.eval x) (lo.map a.eval) (hi.map a.eval) ((some m).map a.eval)) (by unfold execOp;rw[hop]) (by
           rw[q1]
           refine ZwG ht hsz b1 ?_ ?_ c1 (Nat.le_refl _) (by omega)
           ·rcases b2 with⟨b2,_⟩ | b2
            ·exfalso
             cases hi with
             | none=>rw[hhs] at hhi;cases hhi
             | some hi0=>cases b2
            ·exact b2
           ·rcases b3 with⟨b3,_⟩ | b3
            ·cases b3
            ·exact b3) (Post.stay pre.ok hp ?_)
          exact⟨_,by rw[Nat.sub_self]⟩
end
end Go.Proofs.YtgcfmiajkbbmeaaGreatE
namespace Go.Proofs.YtgcfmiajkbbmeaaGreatE
open Go
open Go.IntKind (u64 i64 u32 i32 u8)
section
variable {P:Program} {G:ZQ} {R:RP} {w:World} {e:Env} {a:Act} {Hm H':Zc} {nid:Nat} {o:Oper}
theorem Zua:∀(vs:List V) (us:List Value) (k:IntKind) (n:Int) (r:D),ZL R w vs us->mxE.go true k n vs=some r->∃u,(us.foldlM Builtin.max2 (.int k n)).run P w = .ok u w/\R.den w r u
 | [],us,k,n,r,hd,h=>by
  simp only[mxE.go,Option.some.injEq] at h
  simp only[ZL] at hd
  subst h;subst hd
  exact⟨.int k n,rfl,rfl⟩
 | v :: vs,us,k,n,r,hd,h=>by
  obtain⟨u,us',rfl,h1,h2⟩:=hd
  cases v<;>try (cases h;done)
  rename_i x
  cases x<;>try (cases h;done)
  rename_i k' m
  simp only[mxE.go,cond_true] at h
  obtain⟨u,h3,h4⟩:=Zua vs us' k _ r h2 h
  refine⟨u,?_,h4⟩
  cases h1
  rw[List.foldlM_cons,Sem.run_bind,<- h3]
  by_cases hlt:n<m
  ·simp[Builtin.max2,hlt]
  ·simp[Builtin.max2,hlt]
theorem Zt0:∀(vs:List V) (us:List Value) (k:IntKind) (n:Int) (r:D),ZL R w vs us->mxE.go false k n vs=some r->∃u,(us.foldlM Builtin.min2 (.int k n)).run P w = .ok u w/\R.den w r u
 | [],us,k,n,r,hd,h=>by
  simp only[mxE.go,Option.some.injEq] at h
  simp only[ZL] at hd
  subst h;subst hd
  exact⟨.int k n,rfl,rfl⟩
 | v :: vs,us,k,n,r,hd,h=>by
  obtain⟨u,us',rfl,h1,h2⟩:=hd
  cases v<;>try (cases h;done)
  rename_i x
  cases x<;>try (cases h;done)
  rename_i k' m
  simp only[mxE.go,cond_false] at h
  obtain⟨u,h3,h4⟩:=Zt0 vs us' k _ r h2 h
  refine⟨u,?_,h4⟩
  cases h1
  rw[List.foldlM_cons,Sem.run_bind,<- h3]
  by_cases hlt:m<n
  ·simp[Builtin.min2,hlt]
  ·simp[Builtin.min2,hlt]
theorem ZAd (pre:Pre G R w e a Hm) {b:Bool}{ats:Array TypeId}{xs:Array Operand}{ys:List Opd}{r:D} (hop:o.op = .call { callee:=.builtin (bif b then .max else .min),args:=xs,argTypes:=ats }) (hx:ZbF G xs.toList ys=true)
  (h:mxE b (ZcD e ys)=some r) (hp:ZA R.H [] nid [] H'):ZaW P o a w (Post R w nid 0 H' (.d r)):=by
 have hv:=pre.opds hx
 have hl:(xs.map a.eval).toList=xs.toList.map a.eval:=by simp
 cases hvs:ZcD e ys with
 | nil=>rw[hvs] at h;cases h
 | cons v vs=>
  rw[hvs] at h hv
  obtain⟨u,us,hus,h1,h2⟩:=hv
  cases v<;>try (cases h;done)
  rename_i x
  cases x<;>try (cases h;done)
  rename_i k n
  cases h1
  simp only[mxE] at h
  cases b with
  | true=>
   obtain⟨u,h3,h4⟩:=Zua (P:=P) vs us k n r h2 h
   refine Z8 (s:=Builtin.max_ ats o.type (xs.map a.eval)) (u:=u) (by rw[ZdX hop];rfl) ?_ (Post.stay pre.ok hp h4)
   rw[Builtin.max_,hl,hus];exact h3
  | false=>
   obtain⟨u,h3,h4⟩:=Zt0 (P:=P) vs us k n r h2 h
   refine Z8 (s:=Builtin.min_ ats o.type (xs.map a.eval)) (u:=u) (by rw[ZdX hop];rfl) ?_ (Post.stay pre.ok hp h4)
   rw[Builtin.min_,hl,hus];exact h3
theorem Zwo (pre:Pre G R w e a Hm) {x:Operand}{y:Opd}{v:V} (hop:o.op = .nilCheck x) (hx:Zn G x y=true) (h:Zrx Hm (y.val e)=some v) (hp:ZA R.H [] nid [] H'):ZaW P o a w (Post R w nid 0 H' v):=by
 have hv:=pre.opd hx
 have ptr:∀(ad:Addr) v,a.eval x = .pointer (some ad)->ZS R w v (a.eval x)->ZaW P o a w (Post R w nid 0 H' v):=fun ad v h1 h2=>
  .val (u:=a.eval x) (w':=w) (by unfold execOp;rw[hop];simp[h1]) (Post.stay pre.ok hp h2)
 unfold Zrx at h
 split at h
 ·rename_i f caps hy
  cases hb:Nat.beq f 2000000 with
  | true=>rw[hb] at h;cases h
  | false=>
  rw[hb] at h
  simp only[cond_false,Option.some.injEq] at h
  subst h
  rw[hy] at hv
  have hv':=hv
  obtain⟨us,h1,_⟩:=hv'
  exact .val (u:=a.eval x) (w':=w) (by unfold execOp;rw[hop];simp only[h1];unfold Zgq;rw[hb];cases isU _<;>simp) (Post.stay pre.ok hp hv)
 ·rename_i f caps hy
  cases hb:Nat.beq f 2000000 with
  | true=>rw[hb] at h;cases h
  | false=>
  rw[hb] at h
  simp only[cond_false,Option.some.injEq] at h
  subst h
  rw[hy] at hv
  have hv':=hv
  obtain⟨us,h1,_⟩:=hv'
  exact .val (u:=a.eval x) (w':=w) (by unfold execOp;rw[hop];simp only[h1];unfold Zgq;rw[hb];cases isU _<;>simp) (Post.stay pre.ok hp hv)
 ·rename_i t z hy
  simp only[Option.some.injEq] at h
  subst h
  rw[hy] at hv
  have hv':=hv
  obtain⟨u',h1,_⟩:=hv'
  exact .val (u:=a.eval x) (w':=w) (by unfold execOp;rw[hop];simp[h1]) (Post.stay pre.ok hp hv)
 ·rename_i cs hy
  simp only[Option.some.injEq] at h
  subst h
  rw[hy] at hv
  have hv':=hv
  obtain⟨b,off,h1,_⟩:=hv'
  exact ptr _ _ h1 hv
 ·rename_i b off hy
  simp only[Option.some.injEq] at h
  subst h
  rw[hy] at hv
  have hv':=hv
  obtain⟨c,_,h1⟩:=hv'
  exact ptr _ _ h1 hv
 ·rename_i b sz i k hy
  simp only[Option.some.injEq] at h
  subst h
  rw[hy] at hv
  have hv':=hv
  obtain⟨c,_,h1⟩:=hv'
  exact ptr _ _ h1 hv
 ·cases h
structure ZgD (R R':RP) (ks:List Nat):Prop where
 m:R'.M=R.M
 b1:R'.B1=R.B1
 live:∀i,ZE R'.H i=true->ZE R.H i=true
 dead:∀k∈ks,ZE R'.H k=false
theorem ZgD.a1 {R R':RP}{ks:List Nat} (h:ZgD R R' ks):∀b,R.A1 b->R'.A1 b:=fun b ⟨h1,h2⟩=>
 ⟨fun⟨i,l1,l2⟩=>h1 ⟨i,h.live i l1,by rw[<- h.m];exact l2⟩,by rw[h.b1];exact h2⟩
theorem ZgD.own {R R':RP}{ks:List Nat} (h:ZgD R R' ks) (ok:R.OK w) {b c:Nat} (hb:ZE R.H b=true) (hk:b∈ks) (hm:R.M b=some (some c)):R'.A1 c:=
 ⟨fun⟨i,l1,l2⟩=>by
  rw[h.m] at l2
  have:=ok.inj i b c (h.live i l1) hb l2 hm
  subst this
  rw[h.dead i hk] at l1
  exact Bool.noConfusion l1,by rw[h.b1];exact ok.nb b c hb hm⟩
theorem ZpF {H:Zc}{b sz:Nat}{xs:List D} (h:nth H b=some (.arr sz xs)):ZE H b=true:=by
 unfold ZE;rw[h]
theorem ZlW (ok:R.OK w) {c sz:Nat}{xs:List D}{A1' A0' AL':Nat->Prop} (h1:∀b,R.A1 b->A1' b) {l n:Nat} (hb:ZeI R w (some c) (.arr sz xs)) (hne:(xs.drop l).take n≠[]) :
  Zdl A1' A0' AL' w c sz (l*sz) ((xs.drop l).take n):=by
 obtain⟨_,he,hb⟩:=hb
 rcases hb with⟨hb,_⟩ | ⟨c',cs,el,e1,e2,e3,e4⟩
 ·cases hb
 ·cases e1
  refine ZgS _ _ fun j x hj=>?_
  rw[List.getElem?_take] at hj
  by_cases hjn:j<n
  ·rw[if_pos hjn,List.getElem?_drop] at hj
   obtain⟨u,f1,f2,f3⟩:=e4 (l+j) x hj
   refine⟨u,ZV.lift h1 x u (he x (List.mem_of_getElem? hj)) f1,f2,fun k v hk=>?_⟩
   rw[ZaE e2,<- f3 k v hk,Nat.add_mul]
  ·rw[if_neg hjn] at hj;cases hj
mutual
theorem Zj7 (n:Nat):∀(v:V) (y:D) (ks:List Nat),(pre:Pre G R w e a Hm)->fr Hm n v=some (y,ks)->∀{R':RP}{ks':List Nat},ZgD R R' ks'->(∀k∈ks,k∈ks')->∀u,ZS R w v u->(y.esc=true∨∃ts,y = .tup ts)/\∀A0' AL',ZV R'.A1 A0' AL' w y u:=by
 intro v y ks pre h R' ks' hL hks u hu
 cases n with
 | zero=>cases h
 | succ n=>
  simp only[fr] at h
  cases v<;>try (cases h;done)
  ·rename_i x
   dsimp only at h
   split at h
   ·rename_i ts
    cases he:ZrH ts with
    | false=>rw[he] at h;cases h
    | true=>
     rw[he] at h
     simp only[cond_true,Option.some.injEq,Prod.mk.injEq] at h
     obtain⟨rfl,_⟩:=h
     obtain⟨us,rfl,hu⟩:=hu
     exact⟨.inr ⟨ts,rfl⟩,fun A0' AL'=>⟨us,rfl,ZR.liftT hL.a1 ts us he hu⟩⟩
   ·cases he:x.esc with
    | false=>rw[he] at h;cases h
    | true=>
     rw[he] at h
     simp only[cond_true,Option.some.injEq,Prod.mk.injEq] at h
     obtain⟨rfl,_⟩:=h
     exact⟨.inl he,fun A0' AL'=>ZV.lift hL.a1 x u he hu⟩
  ·rename_i b sz
   dsimp only at h
   cases hb:nth Hm b with
   | none=>rw[hb] at h;cases h
   | some blk=>
    rw[hb] at h
    cases blk<;>try (cases h;done)
    rename_i sz' xs
    dsimp only at h
    cases hs:Nat.beq sz sz' with
    | false=>rw[hs] at h;cases h
    | true=>
     rw[hs] at h
     obtain rfl:=Nat.eq_of_beq_eq_true hs
     simp only[cond_true,Option.some.injEq,Prod.mk.injEq] at h
     obtain⟨rfl,rfl⟩:=h
     refine⟨.inl rfl,fun A0' AL'=>?_⟩
     obtain⟨m,q1,q2,q3,q4⟩:=Zi7 pre hb hu
     have q5:=q4
     obtain⟨_,ad,cap,rfl,q6,q7⟩:=q5
     refine⟨_,_,_,rfl,rfl,q6,q3.2.1,fun hne=>?_⟩
     obtain⟨c,cs,el,fr',cap',rfl,e1,e2,e3,e4⟩:=ZcO q4 (.inl (List.length_pos_iff.2 hne))
     cases e1
     refine⟨c,0*sz,sz,rfl,hL.own pre.ok (ZpF q2) (hks _ (by simp)) q1,pre.ok.lt _ _ q1,?_⟩
     have:=ZlW pre.ok (A0':=A0') (AL':=AL') hL.a1 (l:=0) (n:=xs.length) q3 (by simpa using hne)
     simpa using this
  ·rename_i b sz of len
   dsimp only at h
   cases hb:nth Hm b with
   | none=>rw[hb] at h;cases h
   | some blk=>
    rw[hb] at h
    cases blk<;>try (cases h;done)
    rename_i sz' xs
    dsimp only at h
    cases hs:Nat.beq sz sz' with
    | false=>rw[hs] at h;cases h
    | true=>
     rw[hs] at h
     obtain rfl:=Nat.eq_of_beq_eq_true hs
     simp only[cond_true,Option.some.injEq,Prod.mk.injEq] at h
     obtain⟨rfl,rfl⟩:=h
     refine⟨.inl rfl,fun A0' AL'=>?_⟩
     obtain⟨m,q1,q2,q3,q4⟩:=Zhw pre hb hu
     have q5:=q4
     obtain⟨q8,ad,cap,rfl,q6,q7⟩:=q5
     have hlen:((xs.drop of).take len).length=len:=by simp only[List.length_take,List.length_drop];omega
     refine⟨_,_,_,rfl,hlen.symm,q6,fun x hx=>q3.2.1 x (List.mem_of_mem_drop (List.mem_of_mem_take hx)),fun hne=>?_⟩
     obtain⟨c,cs,el,fr',cap',rfl,e1,e2,e3,e4⟩:=ZcO q4 (.inl (by rw[<- hlen];exact List.length_pos_iff.2 hne))
     cases e1
     exact⟨c,of*sz,sz,rfl,hL.own pre.ok (ZpF q2) (hks _ (by simp)) q1,pre.ok.lt _ _ q1,ZlW pre.ok hL.a1 q3 hne⟩
  ·simp only[Option.some.injEq,Prod.mk.injEq] at h
   obtain⟨rfl,rfl⟩:=h
   obtain⟨ad,rfl⟩:=hu
   exact⟨.inl rfl,fun A0' AL'=>⟨_,_,_,rfl,rfl,Nat.le_refl _,by simp,by simp⟩⟩
  ·rename_i cs
   dsimp only at h
   cases hl:frl (fr Hm n) cs with
   | none=>rw[hl] at h;cases h
   | some p=>
    obtain⟨l,ks1⟩:=p
    rw[hl] at h
    dsimp only at h
    cases he:D.escs l with
    | false=>rw[he] at h;cases h
    | true=>
     rw[he] at h
     simp only[cond_true,Option.some.injEq,Prod.mk.injEq] at h
     obtain⟨rfl,rfl⟩:=h
     obtain⟨us,rfl,h1⟩:=hu
     have g2:=Zph n cs l ks1 pre hl hL hks us h1
     exact⟨.inl he,fun A0' AL'=>⟨us,rfl,g2 A0' AL'⟩⟩
  ·rename_i cs
   dsimp only at h
   cases hl:frl (fr Hm n) cs with
   | none=>rw[hl] at h;cases h
   | some p=>
    obtain⟨l,ks1⟩:=p
    rw[hl] at h
    simp only[Option.some.injEq,Prod.mk.injEq] at h
    obtain⟨rfl,rfl⟩:=h
    obtain⟨us,rfl,h1⟩:=hu
    have g2:=Zph n cs l ks1 pre hl hL hks us h1
    exact⟨.inr ⟨_,rfl⟩,fun A0' AL'=>⟨us,rfl,g2 A0' AL'⟩⟩
termination_by (n,0)
theorem Zph (n:Nat):∀(vs:List V) (ys:List D) (ks:List Nat),(pre:Pre G R w e a Hm)->frl (fr Hm n) vs=some (ys,ks)->∀{R':RP}{ks':List Nat},ZgD R R' ks'->(∀k∈ks,k∈ks')->∀us,ZL R w vs us->∀A0' AL',ZR R'.A1 A0' AL' w ys us
 | [],ys,ks,pre,h,R',ks',hL,hks,us,hu=>by
  simp only[frl,Option.some.injEq,Prod.mk.injEq] at h
  obtain⟨rfl,rfl⟩:=h
  exact fun _ _=>hu
 | v :: vs,ys,ks,pre,h,R',ks',hL,hks,us,hu=>by
  simp only[frl] at h
  cases h1:fr Hm n v with
  | none=>rw[h1] at h;cases h
  | some p=>
   obtain⟨y,k1⟩:=p
   cases h2:frl (fr Hm n) vs with
   | none=>rw[h1,h2] at h;cases h
   | some q=>
    obtain⟨ys',k2⟩:=q
    rw[h1,h2] at h
    simp only[Option.some.injEq,Prod.mk.injEq] at h
    obtain⟨rfl,rfl⟩:=h
    obtain⟨u,us',rfl,e1,e2⟩:=hu
    obtain⟨g1,g2⟩:=Zj7 n v y k1 pre h1 hL (fun k hk=>hks k (by simp[hk])) u e1
    have g4:=Zph n vs ys' k2 pre h2 hL (fun k hk=>hks k (by simp[hk])) us' e2
    exact fun A0' AL'=>⟨u,us',rfl,g2 A0' AL',g4 A0' AL'⟩
termination_by vs=>(n,vs.length+1)
end
theorem ZgD.refl (R:RP):ZgD R R []:=⟨rfl,rfl,fun _ h=>h,by simp⟩
theorem ZyN (pre:Pre G R w e a Hm) {t:TypeId}{x:Operand}{y:Opd}{z:D} (hop:o.op = .makeInterface t x) (hx:Zn G x y=true) (ht:P.concrete t=true)
  (h:fr Hm 6 (y.val e)=some (z,[])) (hp:ZA R.H [] nid [] H'):ZaW P o a w (Post R w nid 0 H' (.d (.iface t z))):=by
 have hv:=pre.opd hx
 obtain⟨_,g⟩:=Zj7 6 _ z [] pre h (ZgD.refl R) (fun _ h=>h) _ hv
 exact Z8 (s:=Instr.makeInterface t (a.eval x)) (by unfold execOp;rw[hop]) (run_makeInterface w t _ ht) (Post.stay pre.ok hp ⟨_,rfl,g _ _⟩)
end
end Go.Proofs.YtgcfmiajkbbmeaaGreatE
namespace Go.Proofs.YtgcfmiajkbbmeaaGreatE
open Go
open Go.IntKind (u64 i64 u32 i32 u8)
theorem Zbh {α:Type}:∀(vs cs:List α) (o:Nat),(ZH cs o vs).length=cs.length
 | [],cs,o=>rfl
 | v :: vs,cs,o=>by rw[ZH,Zbh vs,Z3,List.length_set]
theorem Zao {α:Type}:∀(vs cs:List α) (o j:Nat),(ZH cs o vs)[j]? = if o<=j/\j<o+vs.length then (if j<cs.length then vs[j-o]? else none) else cs[j]?
 | [],cs,o,j=>by rw[ZH,if_neg (by simp only[List.length_nil];omega)]
 | v :: vs,cs,o,j=>by
  rw[ZH,Zao vs,Z3,List.length_set,List.getElem?_set]
  by_cases h1:o=j
  ·subst h1
   have hR:o<=o/\o<o+(v :: vs).length:=by simp only[List.length_cons];omega
   have hL:¬(o+1<=o/\o<o+1+vs.length):=by omega
   rw[if_neg hL,if_pos rfl,if_pos hR]
   by_cases h2:o<cs.length
   ·rw[if_pos h2,if_pos h2,Nat.sub_self,List.getElem?_cons_zero]
   ·rw[if_neg h2,if_neg h2]
  ·rw[if_neg h1]
   by_cases h2:o+1<=j/\j<o+1+vs.length
   ·have hR:o<=j/\j<o+(v :: vs).length:=by simp only[List.length_cons];omega
    rw[if_pos h2,if_pos hR]
    have:j-o=(j-(o+1))+1:=by omega
    rw[this,List.getElem?_cons_succ]
   ·have hR:¬(o<=j/\j<o+(v :: vs).length):=by simp only[List.length_cons];omega
    rw[if_neg h2,if_neg hR]
theorem Zns:∀(vs:List Value) (k off:Nat) (cs:Array Value),((vs.zipIdx k).foldl (fun cs (p:Value×Nat)=>cs.setIfInBounds (off+p.2) p.1) cs).toList=ZH cs.toList (off+k) vs
 | [],k,off,cs=>rfl
 | v :: vs,k,off,cs=>by
  rw[List.zipIdx_cons,List.foldl_cons,Zns vs (k+1) off,ZH,Z3]
  simp[Nat.add_assoc]
section
variable {P:Program} {G:ZQ} {R:RP} {w:World} {e:Env} {a:Act} {Hm H':Zc} {nid:Nat} {o:Oper}
theorem Zoc {cs vs:List V}{us ws:List Value} (h:ZL R w cs us) (k:ZL R w vs ws) (off:Nat):ZL R w (ZH cs off vs) (ZH us off ws):=by
 have l1:=ZbM _ _ h
 have l2:=ZbM _ _ k
 refine ZgN _ _ (by rw[Zbh,Zbh,l1]) fun j v u hv hu=>?_
 rw[Zao] at hv hu
 rw[l2] at hu
 by_cases hj:off<=j/\j<off+vs.length
 ·rw[if_pos hj] at hv hu
  by_cases hc:j<cs.length
  ·rw[if_pos hc] at hv
   rw[if_pos (by omega)] at hu
   obtain⟨u',e1,e2⟩:=ZcX _ _ _ _ k hv
   rw[hu] at e1;cases e1;exact e2
  ·rw[if_neg hc] at hv;cases hv
 ·rw[if_neg hj] at hv hu
  obtain⟨u',e1,e2⟩:=ZcX _ _ _ _ h hv
  rw[hu] at e1;cases e1;exact e2
def ZjX (G:ZQ) (place:Nat->Option (Nat×Nat)):List (Nat×Operand)->List (Nat×Nat×Opd)->Bool
 | [],[]=>true
 | (i,x) :: r,(off,size,y) :: s=>(match place i with | some (off',size')=>Nat.beq off off'&&Nat.beq size size' | none=>false)&&Zn G x y&&ZjX G place r s
 | _,_=>false
theorem Zsh (pre:Pre G R w e a Hm) {place:Nat->Option (Nat×Nat)}:∀(ps:List (Nat×Operand)) (qs:List (Nat×Nat×Opd)) (z:List V) (cells:Array Value) (z':List V),ZjX G place ps qs=true->ZL R w z cells.toList ->
  Zod z (qs.map fun(o,s,x)=>(o,s,x.val e))=some z'->∃cells',Instr.fill place cells (ps.map fun(i,x)=>(i,a.eval x))=some cells'/\ZL R w z' cells'.toList
 | [],[],z,cells,z',_,hd,h=>by
  simp only[List.map_nil,Zod,Option.some.injEq] at h
  subst h
  exact⟨cells,rfl,hd⟩
 | [],_ :: _,z,cells,z',hp,_,_=>by cases hp
 | _ :: _,[],z,cells,z',hp,_,_=>by cases hp
 | (i,x) :: ps,(off,size,y) :: qs,z,cells,z',hp,hd,h=>by
  simp only[ZjX,Bool.and_eq_true] at hp
  obtain⟨⟨h1,h2⟩,h3⟩:=hp
  cases hpl:place i with
  | none=>rw[hpl] at h1;cases h1
  | some q=>
   obtain⟨off',size'⟩:=q
   rw[hpl] at h1
   simp only[Bool.and_eq_true] at h1
   obtain rfl:=Nat.eq_of_beq_eq_true h1.1
   obtain rfl:=Nat.eq_of_beq_eq_true h1.2
   simp only[List.map_cons,Zod] at h
   cases hc:((y.val e).okb&&Nat.beq (y.val e).cells.length size&&Nat.ble (off+size) z.length) with
   | false=>rw[hc] at h;cases h
   | true=>
    rw[hc] at h
    simp only[cond_true] at h
    simp only[Bool.and_eq_true,Nat.ble_eq] at hc
    have hv:=pre.opd h2
    have hcs:=Zeu hv hc.1.1
    have hl:=ZbM _ _ hcs
    have hn:=Nat.eq_of_beq_eq_true hc.1.2
    have hz:=ZbM _ _ hd
    simp only[Array.length_toList] at hl hz
    obtain⟨cells',e1,e2⟩:=Zsh pre ps qs (ZH z off (y.val e).cells) ((a.eval x).cells.zipIdx.foldl (fun cs (c,j)=>cs.setIfInBounds (off+j) c) cells) z' h3 (by
     have:((a.eval x).cells.zipIdx.foldl (fun cs (c,j)=>cs.setIfInBounds (off+j) c) cells).toList=ZH cells.toList off (a.eval x).cells.toList:=by
      rw[<- Array.foldl_toList,Array.toList_zipIdx]
      exact Zns _ 0 off cells
     rw[this]
     exact Zoc hd hcs off) h
    refine⟨cells',?_,e2⟩
    simp only[List.map_cons,Instr.fill,hpl]
    rw[if_neg (by simp;omega)]
    exact e1
def ZmL (P:Program) (t:TypeId):Option (Nat->Option (Nat×Nat)):=
 match P.underlying t with
 | some (.array _ e)=>(P.info? e).map fun ie=>fun i=>some (i*ie.size,ie.size)
 | some (.struct fields)=>(fields.toList.mapM (fun f=>(P.info? f.type).map fun i=>(f.offset,i.size))).map fun places=>(places.toArray[·]?)
 | _=>none
def Zhk (P:Program) (t:TypeId):Option Value:=match P.info? t with | some i=>i.zero | none=>none
theorem Zwv (pre:Pre G R w e a Hm) {t:TypeId}{parts:Array (Nat×Operand)}{z:List V}{ps:List (Nat×Nat×Opd)}{cs:List V}{place:Nat->Option (Nat×Nat)}{zv:Value} (hop:o.op = .build t parts)
  (hpl:ZmL P t=some place) (hz:Zhk P t=some zv) (hzc:cvs z zv.cells.toList=true) (hps:ZjX G place parts.toList ps=true) (h:Zod z (ps.map fun(o,s,x)=>(o,s,x.val e))=some cs) (hp:ZA R.H [] nid [] H') :
  ZaW P o a w (Post R w nid 0 H' (Zqf cs)):=by
 obtain⟨cells',h1,h2⟩:=Zsh pre parts.toList ps z zv.cells cs hps (Zrc _ _ hzc) h
 have hb:P.built t (parts.map fun(i,x)=>(i,a.eval x)).toList=some cells':=by
  rw[Array.toList_map]
  unfold Program.built
  unfold Zhk at hz
  unfold ZmL at hpl
  cases hi:P.info? t with
  | none=>rw[hi] at hz;cases hz
  | some it=>
   rw[hi] at hz
   dsimp only at hz
   cases hu:P.underlying t with
   | none=>rw[hu] at hpl;cases hpl
   | some d=>
    rw[hu] at hpl
    cases d<;>try (cases hpl;done)
    ·rename_i n el
     dsimp only at hpl ⊢
     cases hie:P.info? el with
     | none=>rw[hie] at hpl;cases hpl
     | some ie=>
      rw[hie] at hpl
      simp only[Option.map_some,Option.some.injEq] at hpl
      subst hpl
      simp only[hz]
      exact h1
    ·rename_i fields
     dsimp only at hpl ⊢
     cases hm:fields.toList.mapM (fun f=>(P.info? f.type).map fun i=>(f.offset,i.size)) with
     | none=>rw[hm] at hpl;cases hpl
     | some places=>
      rw[hm] at hpl
      simp only[Option.map_some,Option.some.injEq] at hpl
      subst hpl
      simp only[hz,hm]
      exact h1
 refine Z8 (s:=Instr.build t (parts.map fun(i,x)=>(i,a.eval x))) (by unfold execOp;rw[hop]) (run_build w t _ cells' hb) (Post.stay pre.ok hp ?_)
 have:=ZmF h2
 simpa using this
def Zdk (P:Program) (t:TypeId):Option Bool:=match P.underlying t with | some .bool=>some true | some (.int _)=>some false | _=>none
def Za2 (P:Program):Nat->List Field->Option (List Bool)
 | _,[]=>some []
 | i, f :: fs => bif (f.name != "_") && Nat.beq f.offset i then (match Zdk P f.type, Za2 P (i + 1) fs with | some b, some l => some (b :: l) | _, _ => none) else none
theorem ZdY:∀(fs:List Field) (i:Nat) (ks:List Bool),Za2 P i fs=some ks->ks.length=fs.length
 | [],i,ks,h=>by simp only[Za2,Option.some.injEq] at h;subst h;rfl
 | f :: fs,i,ks,h=>by
  simp only[Za2] at h
  cases hc : ((f.name != "_") && Nat.beq f.offset i) with
  | false=>rw[hc] at h;cases h
  | true=>
   rw[hc] at h
   simp only[cond_true] at h
   cases hkt:Zdk P f.type with
   | none=>rw[hkt] at h;cases h
   | some b=>
    rw[hkt] at h
    cases hff:Za2 P (i+1) fs with
    | none=>rw[hff] at h;cases h
    | some ks'=>
     rw[hff] at h
     simp only[Option.some.injEq] at h
     subst h
     simp[ZdY fs (i+1) ks' hff]
def Zjr (P:Program) (t:TypeId):Option (List Bool):=
 match P.underlying t with
 | some .bool=>some [true]
 | some (.int _)=>some [false]
 | some (.struct fs)=>bif !(Nat.beq fs.toList.length 1)&&(!(P.stoodInHeld t) && !(P.eqGuardType P.depth t)) then Za2 P 0 fs.toList else none
 | _=>none
theorem ZfF {t:TypeId}{b:Bool} (h:Zdk P t=some b):ZeZ P t=some false:=by
 unfold Zdk at h;unfold ZeZ
 split at h<;>simp_all
theorem ZpA {t:TypeId}{b:Bool} (ht:Zdk P t=some b) {x y:D}{u1 u2:Value}{r:Bool} (hx:R.den w x u1) (hy:R.den w y u2) (h:eqD x y=some r) (hb:Zbk [b] [x]=true) (d:Nat):(Op.equalIn (d+1) t u1 u2).run P w = .ok r w:=by
 unfold Zdk at ht
 split at ht
 ·rename_i hu
  cases ht
  cases x<;>try (cases hb;done)
  cases y<;>try (cases h;done)
  cases hx;cases hy
  simp only[eqD,Option.some.injEq] at h
  subst h
  simp[Op.equalIn,run_underlying hu]
 ·rename_i k0 hu
  cases ht
  cases x<;>try (cases hb;done)
  cases y<;>try (cases h;done)
  cases hx;cases hy
  rename_i k n k' m
  simp only[eqD] at h
  cases hk:k==k' with
  | false=>rw[hk] at h;cases h
  | true=>
   rw[hk] at h
   obtain rfl:k=k':=by simpa using hk
   simp only[cond_true,Option.some.injEq] at h
   subst h
   simp[Op.equalIn,run_underlying hu]
 ·cases ht
theorem ZhY {b:Bool}{ks:List Bool}{c:D}{cs:List D} (h:Zbk (b :: ks) (c :: cs)=true):Zbk [b] [c]=true/\Zbk ks cs=true:=by
 cases b<;>cases c<;>simp_all [Zbk]
theorem ZkA (d:Nat) (us vs:List Value):∀(fs:List Field) (i:Nat) (ks:List Bool) (xs ys:List D) (r:Bool),Za2 P i fs=some ks->Zbk ks xs=true->ZhR xs ys=some r ->
  (∀(j:Nat) x,xs[j]? = some x->∃u,us[i+j]? = some u/\R.den w x u)->(∀(j:Nat) y,ys[j]? = some y->∃u,vs[i+j]? = some u/\R.den w y u)->(Op.eqFields (d+1) us.toArray vs.toArray fs).run P w = .ok r w
 | [],i,ks,xs,ys,r,hf,hk,h,_,_=>by
  simp only[Za2,Option.some.injEq] at hf
  subst hf
  cases xs with
  | cons x xs=>simp[Zbk] at hk
  | nil=>
   cases ys with
   | cons y ys=>simp[ZhR] at h
   | nil=>
    simp only[ZhR,Option.some.injEq] at h
    subst h
    simp[Op.eqFields]
 | f :: fs,i,ks,xs,ys,r,hf,hk,h,h1,h2=>by
  simp only[Za2] at hf
  cases hc : ((f.name != "_") && Nat.beq f.offset i) with
  | false=>rw[hc] at hf;cases hf
  | true=>
   rw[hc] at hf
   simp only[cond_true] at hf
   simp only[Bool.and_eq_true] at hc
   cases hkt:Zdk P f.type with
   | none=>rw[hkt] at hf;cases hf
   | some b=>
    rw[hkt] at hf
    cases hff:Za2 P (i+1) fs with
    | none=>rw[hff] at hf;cases hf
    | some ks'=>
     rw[hff] at hf
     simp only[Option.some.injEq] at hf
     subst hf
     cases xs with
     | nil=>cases b<;>simp[Zbk] at hk
     | cons x xs=>
      cases ys with
      | nil=>simp[ZhR] at h
      | cons y ys=>
       obtain⟨k1,k2⟩:=ZhY hk
       simp only[ZhR] at h
       cases e1:eqD x y with
       | none=>rw[e1] at h;cases h
       | some r1=>
        cases e2:ZhR xs ys with
        | none=>rw[e1,e2] at h;cases h
        | some r2=>
         rw[e1,e2] at h
         simp only[Option.some.injEq] at h
         subst h
         obtain⟨u,f1,f2⟩:=h1 0 x rfl
         obtain⟨v,g1,g2⟩:=h2 0 y rfl
         have hrest:=ZkA d us vs fs (i+1) ks' xs ys r2 hff k2 e2
          (fun j x hj=>by have:=h1 (j+1) x (by simpa using hj);rwa [show i+(j+1)=i+1+j from by omega] at this)
          (fun j x hj=>by have:=h2 (j+1) x (by simpa using hj);rwa [show i+(j+1)=i+1+j from by omega] at this)
         have hq:=ZpA (P:=P) hkt f2 g2 e1 k1 d
         have hn : f.name ≠ "_" := by simpa using hc.1
         have ho:=Nat.eq_of_beq_eq_true hc.2
         simp only[Nat.add_zero] at f1 g1
         have p1:(part f.type us.toArray f.offset).run P w = .ok u w:=by simp[part,Zde (ZfF hkt),ho,f1]
         have p2:(part f.type vs.toArray f.offset).run P w = .ok v w:=by simp[part,Zde (ZfF hkt),ho,g1]
         rw[Op.eqFields,if_pos hn]
         simp only[Sem.run_bind,p1,p2,hq,Result.andThen_ok]
         cases r1
         ·simp
         ·simpa using hrest
theorem ZzK (pre:Pre G R w e a Hm) {neg:Bool}{t t':TypeId}{x y:Operand}{x' y':Opd}{ks:List Bool}{d1 d2:D}{r:Bool} (hop:o.op = .binOp (bif neg then .neq else .eql) t x y t') (hx:Zn G x x'=true) (hy:Zn G y y'=true)
  (ht:Zjr P t=some ks) (h1:x'.val e = .d d1) (h2:y'.val e = .d d2) (hk:ZaN ks d1=true) (h:eqD d1 d2=some r) (hp:ZA R.H [] nid [] H'):ZaW P o a w (Post R w nid 0 H' (.d (.bool (bif neg then !r else r)))):=by
 have hv1:=pre.opd hx
 have hv2:=pre.opd hy
 rw[h1] at hv1
 rw[h2] at hv2
 refine Z8 (s:=do eqGuard (bif neg then .neq else .eql) t x y (a.eval x) (a.eval y);binOp (bif neg then .neq else .eql) t (a.eval x) (a.eval y)) (u:=.bool (bif neg then !r else r)) (by unfold execOp;rw[hop]) ?_ (Post.stay pre.ok hp rfl)
 cases d1<;>try (cases h;done)
 ·cases d2<;>try (cases h;done)
  rename_i b1 b2
  rw[Zpl hv1,Zpl hv2]
  have hk':∃b,ks=[b]/\Zbk [b] [D.bool b1]=true:=by
   unfold ZaN at hk
   split at hk
   ·rename_i e1;cases e1
   ·split at hk
    ·exact⟨_,rfl,hk⟩
    ·cases hk
  obtain⟨b,rfl,hkb⟩:=hk'
  have hkt:Zdk P t=some true:=by
   cases b with
   | false=>cases hkb
   | true=>
    unfold Zjr at ht;unfold Zdk
    split at ht
    ·rename_i hu;rw[hu]
    ·cases ht
    ·rename_i fs hu
     cases hg:(!(Nat.beq fs.toList.length 1)&&(!(P.stoodInHeld t) && !(P.eqGuardType P.depth t))) with
     | false=>rw[hg] at ht;cases ht
     | true=>
      rw[hg] at ht
      simp only[cond_true] at ht
      have:=ZdY _ _ _ ht
      rw[<- this] at hg
      cases hg
    ·cases ht
  have hq:=ZpA (P:=P) (R:=R) (w:=w) hkt (x:=.bool b1) (y:=.bool b2) rfl rfl h (by rfl) 9999
  cases neg<;>simp[eqGuard,binOp,Op.equal,Op.maxDepth,hq]
 ·cases d2<;>try (cases h;done)
  rename_i k n k' m
  rw[Zhv hv1,Zhv hv2]
  simp only[eqD] at h
  cases hkk:k==k' with
  | false=>rw[hkk] at h;cases h
  | true=>
   rw[hkk] at h
   obtain rfl:k=k':=by simpa using hkk
   simp only[cond_true,Option.some.injEq] at h
   subst h
   cases neg<;>simp[eqGuard,binOp,Op.intCmp]
   rfl
 ·cases d2<;>try (cases h;done)
  rename_i cs cs'
  obtain⟨us,e1,e2⟩:=hv1
  obtain⟨vs,e3,e4⟩:=hv2
  rw[e1,e3]
  have hk':(∀b,ks≠[b])/\Zbk ks cs=true:=by
   unfold ZaN at hk
   dsimp only at hk
   split at hk
   ·cases hk
   ·rename_i hn;exact⟨fun b hb=>hn b hb,hk⟩
  obtain⟨hn1,hk⟩:=hk'
  simp only[eqD] at h
  unfold Zjr at ht
  split at ht
  ·cases ht;exact absurd rfl (hn1 _)
  ·cases ht;exact absurd rfl (hn1 _)
  ·rename_i fs hu
   cases hg':(!(Nat.beq fs.toList.length 1)&&(!(P.stoodInHeld t) && !(P.eqGuardType P.depth t))) with
   | false=>rw[hg'] at ht;cases ht
   | true=>
    rw[hg'] at ht
    simp only[cond_true] at ht
    simp only[Bool.and_eq_true,Bool.not_eq_true'] at hg'
    obtain⟨_,hg⟩:=hg'
    have hfs:P.fieldsOf t=fs:=by unfold Program.fieldsOf;rw[hu]
    have hq:(Op.equalIn 10000 t (.agg us.toArray) (.agg vs.toArray)).run P w = .ok r w:=by
     rw[run_equalIn_struct w 9999 t us.toArray vs.toArray (by rw[hfs];exact hu) hg.1,hfs]
     exact ZkA 9998 us vs fs.toList 0 ks cs cs' r ht hk h (fun j x hj=>by simpa using Zdn cs us j x e2 hj) (fun j x hj=>by simpa using Zdn cs' vs j x e4 hj)
    cases neg<;>simp[eqGuard,binOp,Op.equal,Op.maxDepth,hq,hg.2]
  ·cases ht
def Zwz (P:Program) (t:TypeId):Option (List Bool):=
 match P.underlying t with
 | some (.array n el)=>(match Zdk P el,Zdm P el with
  | some b,some m=>bif Nat.beq m 1&&(!(Nat.beq n 1) && !(P.eqGuardType P.depth t)) then some (List.replicate n b) else none
  | _,_=>none)
 | _=>none
theorem Zqe (d:Nat) (us vs:List Value) {el:TypeId}{b:Bool} (hkt:Zdk P el=some b):∀(m i:Nat) (xs ys:List D) (r:Bool),Zbk (List.replicate m b) xs=true->ZhR xs ys=some r ->
  (∀(j:Nat) x,xs[j]? = some x->∃u,us[i+j]? = some u/\R.den w x u)->(∀(j:Nat) y,ys[j]? = some y->∃u,vs[i+j]? = some u/\R.den w y u)->(Op.eqItems (d+1) el 1 us.toArray vs.toArray (List.range' i m)).run P w = .ok r w
 | 0,i,xs,ys,r,hk,h,_,_=>by
  cases xs with
  | cons x xs=>simp[Zbk] at hk
  | nil=>
   cases ys with
   | cons y ys=>simp[ZhR] at h
   | nil=>
    simp only[ZhR,Option.some.injEq] at h
    subst h
    simp[Op.eqItems]
 | m+1,i,xs,ys,r,hk,h,h1,h2=>by
  rw[List.replicate_succ] at hk
  cases xs with
  | nil=>cases b<;>simp[Zbk] at hk
  | cons x xs=>
   cases ys with
   | nil=>simp[ZhR] at h
   | cons y ys=>
    obtain⟨k1,k2⟩:=ZhY hk
    simp only[ZhR] at h
    cases e1:eqD x y with
    | none=>rw[e1] at h;cases h
    | some r1=>
     cases e2:ZhR xs ys with
     | none=>rw[e1,e2] at h;cases h
     | some r2=>
      rw[e1,e2] at h
      simp only[Option.some.injEq] at h
      subst h
      obtain⟨u,f1,f2⟩:=h1 0 x rfl
      obtain⟨v,g1,g2⟩:=h2 0 y rfl
      have hrest:=Zqe d us vs hkt m (i+1) xs ys r2 k2 e2
       (fun j x hj=>by have:=h1 (j+1) x (by simpa using hj);rwa [show i+(j+1)=i+1+j from by omega] at this)
       (fun j x hj=>by have:=h2 (j+1) x (by simpa using hj);rwa [show i+(j+1)=i+1+j from by omega] at this)
      have hq:=ZpA (P:=P) hkt f2 g2 e1 k1 d
      simp only[Nat.add_zero] at f1 g1
      have p1:(part el us.toArray i).run P w = .ok u w:=by simp[part,Zde (ZfF hkt),f1]
      have p2:(part el vs.toArray i).run P w = .ok v w:=by simp[part,Zde (ZfF hkt),g1]
      rw[List.range'_succ]
      simp only[Op.eqItems,Nat.mul_one,Sem.run_bind,p1,p2,hq,Result.andThen_ok]
      cases r1
      ·simp
      ·simpa using hrest
theorem ZyU (pre:Pre G R w e a Hm) {neg:Bool}{t t':TypeId}{x y:Operand}{x' y':Opd}{ks:List Bool}{d1 d2:D}{r:Bool} (hop:o.op = .binOp (bif neg then .neq else .eql) t x y t') (hx:Zn G x x'=true) (hy:Zn G y y'=true)
  (ht:Zwz P t=some ks) (h1:x'.val e = .d d1) (h2:y'.val e = .d d2) (hk:ZaN ks d1=true) (h:eqD d1 d2=some r) (hp:ZA R.H [] nid [] H'):ZaW P o a w (Post R w nid 0 H' (.d (.bool (bif neg then !r else r)))):=by
 have hv1:=pre.opd hx
 have hv2:=pre.opd hy
 rw[h1] at hv1
 rw[h2] at hv2
 refine Z8 (s:=do eqGuard (bif neg then .neq else .eql) t x y (a.eval x) (a.eval y);binOp (bif neg then .neq else .eql) t (a.eval x) (a.eval y)) (u:=.bool (bif neg then !r else r)) (by unfold execOp;rw[hop]) ?_ (Post.stay pre.ok hp rfl)
 unfold Zwz at ht
 split at ht
 ·rename_i n el hu
  split at ht
  ·rename_i b m hkt hsz
   cases hg':(Nat.beq m 1&&(!(Nat.beq n 1) && !(P.eqGuardType P.depth t))) with
   | false=>rw[hg'] at ht;cases ht
   | true=>
    rw[hg'] at ht
    simp only[cond_true,Option.some.injEq] at ht
    simp only[Bool.and_eq_true,Bool.not_eq_true'] at hg'
    obtain⟨hm,hn,hg⟩:=hg'
    obtain rfl:=Nat.eq_of_beq_eq_true hm
    have hn1:∀b',ks≠[b']:=fun b' hb=>by
     rw[hb] at ht
     have:=congrArg List.length ht
     rw[List.length_replicate] at this
     subst this
     cases hn
    cases d1<;>try (cases h;done)
    ·unfold ZaN at hk
     dsimp only at hk
     split at hk
     ·rename_i b';exact absurd rfl (hn1 b')
     ·cases hk
    ·unfold ZaN at hk
     dsimp only at hk
     split at hk
     ·rename_i b';exact absurd rfl (hn1 b')
     ·cases hk
    ·cases d2<;>try (cases h;done)
     rename_i cs cs'
     obtain⟨us,e1,e2⟩:=hv1
     obtain⟨vs,e3,e4⟩:=hv2
     rw[e1,e3]
     have hk':Zbk ks cs=true:=by
      unfold ZaN at hk
      dsimp only at hk
      split at hk
      ·cases hk
      ·exact hk
     simp only[eqD] at h
     subst ht
     obtain⟨info,hi,hsi⟩:∃i,P.info? el=some i/\i.size=1:=by
      unfold Zdm at hsz
      cases hi:P.info? el with
      | none=>rw[hi] at hsz;cases hsz
      | some i=>rw[hi] at hsz;exact⟨i,rfl,Option.some.inj hsz⟩
     have hc:P.cellsOf el=1:=by unfold Program.cellsOf;rw[hi];exact hsi
     have hq:(Op.equalIn 10000 t (.agg us.toArray) (.agg vs.toArray)).run P w = .ok r w:=by
      rw[run_equalIn_array w 9999 us.toArray vs.toArray hu hi,hc,List.range_eq_range']
      exact Zqe 9998 us vs hkt n 0 cs cs' r hk' h (fun j x hj=>by simpa using Zdn cs us j x e2 hj) (fun j x hj=>by simpa using Zdn cs' vs j x e4 hj)
     cases neg<;>simp[eqGuard,binOp,Op.equal,Op.maxDepth,hq,hg]
  ·cases ht
 ·cases ht
end
end Go.Proofs.YtgcfmiajkbbmeaaGreatE
namespace Go.Proofs.YtgcfmiajkbbmeaaGreatE
open Go
open Go.IntKind (u64 i64 u32 i32 u8)
def Zd3 (ks:List Nat):List (Nat×Blk):=ks.map (fun j=>(j,.dead))
theorem Ze6:∀(ks:List Nat) (H:Zc) (i:Nat) (blk:Blk),(Za4 H (Zd3 ks))[i]? = some blk->blk ≠ .dead->H[i]? = some blk
 | [],H,i,blk,h,_=>h
 | k :: ks,H,i,blk,h,hd=>by
  have h1:=Ze6 ks (ZbZ H k .dead) i blk h hd
  rw[Z3,List.getElem?_set] at h1
  split at h1
  ·split at h1
   ·cases h1;exact absurd rfl hd
   ·cases h1
  ·exact h1
theorem ZiG:∀(ks:List Nat) (H:Zc) (k:Nat),k∈ks->ZE (Za4 H (Zd3 ks)) k=false
 | [],H,k,h=>by cases h
 | j :: ks,H,k,h=>by
  by_cases hk:k∈ks
  ·exact ZiG ks (ZbZ H j .dead) k hk
  ·have hj:k=j:=by simpa [hk] using h
   subst hj
   cases hl:ZE (Za4 H (Zd3 (k :: ks))) k with
   | false=>rfl
   | true=>
    obtain⟨blk,h1,h2⟩:=Zf.1 hl
    have h3:=Ze6 ks (ZbZ H k .dead) k blk h1 h2
    rw[Z3,List.getElem?_set,if_pos rfl] at h3
    split at h3
    ·cases h3;exact absurd rfl h2
    ·cases h3
section
variable {P:Program} {R:RP} {w w':World} {nid n:Nat} {H':Zc} {v:V} {u:Value}
theorem ZgD.kill (R:RP) (ks:List Nat):ZgD R { R with H:=Za4 R.H (Zd3 ks) } ks:=
 ⟨rfl,rfl,fun i hi=>by
  obtain⟨blk,h1,h2⟩:=Zf.1 hi
  exact Zf.2 ⟨blk,Ze6 ks _ i blk h1 h2,h2⟩,fun k hk=>ZiG ks _ k hk⟩
theorem Post.afterKill (ok:R.OK w) {ks:List Nat} (h:Post { R with H:=Za4 R.H (Zd3 ks) } w nid n H' v u w'):Post R w nid n H' v u w':=by
 obtain⟨R',h1,h2,h3,h4,h5⟩:=h
 exact⟨R',(Ext.kill (R:=R) (w:=w) (H':=Za4 R.H (Zd3 ks)) (fun i blk=>Ze6 ks _ i blk)).trans h1,h2,h3,h4,h5⟩
theorem Post.drew (h:Post R w.drew nid n H' v u w'):Post R w nid n H' v u w':=by
 obtain⟨R',h1,h2,h3,h4,h5⟩:=h
 exact⟨R',(Ext.draw (R:=R) (w:=w) (w':=w.drew) rfl rfl rfl rfl).trans h1,h2,h3,h4,h5⟩
theorem Ext.junk (R:RP) (w:World) (o:Obj):Ext R w R (w.alloc o) where
 m:=fun _ _ h=>h
 h:=fun i x blk _ h hd=>⟨blk,h,Blk.like_refl hd⟩
 b1:=rfl
 b0:=rfl
 same:=fun b hb' _=>Go.RowKit.Below.heap_alloc _ _ _ hb'
 row:=fun b cs el fr hb'=>by
  have hlt:b<w.heap.size:=(Array.getElem?_eq_some_iff.1 hb').1
  exact⟨cs,el,fr,by rw[Go.RowKit.Below.heap_alloc _ _ _ hlt];exact hb',rfl⟩
 grow:=by simp
 liv:=fun c hc h=>h
 os:=rfl
 tape:=rfl
 output:=rfl
theorem RP.OK.junk (h:R.OK w) (o:Obj):R.OK (w.alloc o):=
 ⟨h.b01,h.al,h.inj,fun i c hc=>by have:=h.lt i c hc;simp;omega,
  fun i m blk h1 h2=>(Ext.junk R w o).blkOK h.b01 (fun c hc=>Go.RowKit.Below.heap_alloc _ _ _ (h.lt i c (by rw[h2,hc]))) (h.blk i m blk h1 h2),
  h.nb,fun c hc=>by have:=h.bl c hc;simp;omega⟩
theorem Post.junk (o:Obj) (ok:R.OK w) (hp:ZA R.H [] nid [] H') (hv:ZS R (w.alloc o) v u):Post R w nid 0 H' v u (w.alloc o):=
 ⟨R,Ext.junk R w o,ok.junk o,hp.same.symm,hv,fun i h _=>h⟩
theorem Post.write (ok:R.OK w) {b c:Nat}{old blk:Blk}{cs cs':Array Value}{el:TypeId}{fr:Nat×Nat}{ks:List Nat} (hb:R.H[b]? = some old) (hm:R.M b=some (some c)) (hl:old.like blk)
  (hw:w.heap[c]? = some (.cells cs el fr)) (hw':w'.heap[c]? = some (.cells cs' el fr)) (hs:cs'.size=cs.size) (ho:∀c',c'≠c->w'.heap[c']? = w.heap[c']?) (hsz:w'.heap.size=w.heap.size)
  (h1:w'.os=w.os) (h2:w'.tape=w.tape) (h3:w'.output=w.output) (hbk:b∉ks) (hp:ZA R.H ((b,blk) :: Zd3 ks) nid [] H')
  (hk:∀R':RP,Ext R w R' w'->ZgD R R' ks->R'.live c->R'.B0=R.B0->ZeI R' w' (some c) blk)
  (hv:∀R':RP,Ext R w R' w'->R'.M=R.M->(∀blk',R'.H[b]? = some blk'->blk' ≠ .dead->blk'=blk)->ZS R' w' v u):Post R w nid 0 H' v u w':=by
 have hd:old ≠ .dead:=Blk.like_ne hl
 have hH:H'=Za4 (ZbZ R.H b blk) (Zd3 ks):=by
  apply List.ext_getElem?
  intro i
  have:=hp i
  rwa [if_neg (by simp only[List.length_nil];omega)] at this
 have hHb:∀i blk',H'[i]? = some blk'->blk' ≠ .dead->(i=b/\blk'=blk)∨(i≠b/\R.H[i]? = some blk'):=by
  intro i blk' hi hd'
  rw[hH] at hi
  have:=Ze6 ks _ i blk' hi hd'
  rw[Z3,List.getElem?_set] at this
  split at this
  ·rename_i e
   split at this
   ·cases this;exact .inl ⟨e.symm,rfl⟩
   ·cases this
  ·exact .inr ⟨fun e=>by rename_i hne;exact hne e.symm,this⟩
 have hlive:∀i,ZE H' i=true->ZE R.H i=true:=fun i hi=>by
  obtain⟨blk',g1,g2⟩:=Zf.1 hi
  rcases hHb i blk' g1 g2 with⟨rfl,rfl⟩ | ⟨_,g3⟩
  ·exact Zf.2 ⟨old,hb,hd⟩
  ·exact Zf.2 ⟨blk',g3,g2⟩
 have lb:ZE R.H b=true:=Zf.2 ⟨old,hb,hd⟩
 have e:Ext R w { R with H:=H' } w':=by
  refine⟨fun _ _ h=>h,?_,rfl,rfl,?_,?_,by omega,?_,h1,h2,h3⟩
  ·intro i x blk' _ hi hd'
   rcases hHb i blk' hi hd' with⟨rfl,rfl⟩ | ⟨_,g3⟩
   ·exact⟨old,hb,hl⟩
   ·exact⟨blk',g3,Blk.like_refl hd'⟩
  ·intro c' _ hnl
   exact ho c' fun e=>hnl ⟨b,lb,by rw[e];exact hm⟩
  ·intro c' cs0 el0 fr0 hc'
   by_cases e:c'=c
   ·subst e
    rw[hw] at hc';cases hc'
    exact⟨cs',el,fr,hw',hs⟩
   ·exact⟨cs0,el0,fr0,by rw[ho c' e];exact hc',rfl⟩
  ·rintro c' _ ⟨i,g1,g2⟩
   exact⟨i,hlive i g1,g2⟩
 have hL:ZgD R { R with H:=H' } ks:=⟨rfl,rfl,hlive,fun k hk=>by rw[hH];exact ZiG ks _ k hk⟩
 refine⟨{ R with H:=H' },e,?_,rfl,hv _ e rfl ?_,fun i h _=>h⟩
 ·refine⟨ok.b01,?_,?_,?_,?_,fun i c hl=>ok.nb i c (hlive i hl),fun c hc=>by rw[hsz];exact ok.bl c hc⟩
  ·intro i blk' hi hd'
   rcases hHb i blk' hi hd' with⟨rfl,rfl⟩ | ⟨_,g3⟩
   ·exact⟨_,hm⟩
   ·exact ok.al i blk' g3 hd'
  ·intro i j c' hi hj
   exact ok.inj i j c' (hlive i hi) (hlive j hj)
  ·intro i c' hc
   rw[hsz];exact ok.lt i c' hc
  ·intro i m blk' hi hmi
   by_cases hd':blk' = .dead
   ·subst hd';trivial
   ·rcases hHb i blk' hi hd' with⟨rfl,rfl⟩ | ⟨hne,g3⟩
    ·have hmi':R.M i=some m:=hmi
     rw[hm] at hmi';cases hmi'
     refine hk _ e hL ⟨i,Zf.2 ⟨blk',?_,hd'⟩,hmi⟩ rfl
     show H'[i]? = some blk'
     exact hi
    ·refine e.blkOK ok.b01 (fun c' hc'=>ho c' fun e'=>hne ?_) (ok.blk i m blk' g3 hmi)
     exact ok.inj i b c (Zf.2 ⟨blk',g3,hd'⟩) lb (by rw[<- e',<- hc'];exact hmi) hm
 ·intro blk' hi hd'
  rcases hHb b blk' hi hd' with⟨_,h⟩ | ⟨h,_⟩
  ·exact h
  ·exact absurd rfl h
theorem Post.writeM (ok:R.OK w) {b c:Nat}{old blk:Blk}{mes:Array MapEntry}{clock:Nat}{ks:List Nat} (hb:R.H[b]? = some old) (hm:R.M b=some (some c)) (hl:old.like blk)
  (hw:w.heap[c]? = some (.map mes clock)) (ho:∀c',c'≠c->w'.heap[c']? = w.heap[c']?) (hsz:w'.heap.size=w.heap.size)
  (h1:w'.os=w.os) (h2:w'.tape=w.tape) (h3:w'.output=w.output) (hbk:b∉ks) (hp:ZA R.H ((b,blk) :: Zd3 ks) nid [] H')
  (hk:∀R':RP,Ext R w R' w'->ZgD R R' ks->R'.live c->R'.B0=R.B0->ZeI R' w' (some c) blk)
  (hv:∀R':RP,Ext R w R' w'->R'.M=R.M->(∀blk',R'.H[b]? = some blk'->blk' ≠ .dead->blk'=blk)->ZS R' w' v u):Post R w nid 0 H' v u w':=by
 have hd:old ≠ .dead:=Blk.like_ne hl
 have hH:H'=Za4 (ZbZ R.H b blk) (Zd3 ks):=by
  apply List.ext_getElem?
  intro i
  have:=hp i
  rwa [if_neg (by simp only[List.length_nil];omega)] at this
 have hHb:∀i blk',H'[i]? = some blk'->blk' ≠ .dead->(i=b/\blk'=blk)∨(i≠b/\R.H[i]? = some blk'):=by
  intro i blk' hi hd'
  rw[hH] at hi
  have:=Ze6 ks _ i blk' hi hd'
  rw[Z3,List.getElem?_set] at this
  split at this
  ·rename_i e
   split at this
   ·cases this;exact .inl ⟨e.symm,rfl⟩
   ·cases this
  ·exact .inr ⟨fun e=>by rename_i hne;exact hne e.symm,this⟩
 have hlive:∀i,ZE H' i=true->ZE R.H i=true:=fun i hi=>by
  obtain⟨blk',g1,g2⟩:=Zf.1 hi
  rcases hHb i blk' g1 g2 with⟨rfl,rfl⟩ | ⟨_,g3⟩
  ·exact Zf.2 ⟨old,hb,hd⟩
  ·exact Zf.2 ⟨blk',g3,g2⟩
 have lb:ZE R.H b=true:=Zf.2 ⟨old,hb,hd⟩
 have e:Ext R w { R with H:=H' } w':=by
  refine⟨fun _ _ h=>h,?_,rfl,rfl,?_,?_,by omega,?_,h1,h2,h3⟩
  ·intro i x blk' _ hi hd'
   rcases hHb i blk' hi hd' with⟨rfl,rfl⟩ | ⟨_,g3⟩
   ·exact⟨old,hb,hl⟩
   ·exact⟨blk',g3,Blk.like_refl hd'⟩
  ·intro c' _ hnl
   exact ho c' fun e=>hnl ⟨b,lb,by rw[e];exact hm⟩
  ·intro c' cs0 el0 fr0 hc'
   by_cases e:c'=c
   ·subst e
    rw[hw] at hc';cases hc'
   ·exact⟨cs0,el0,fr0,by rw[ho c' e];exact hc',rfl⟩
  ·rintro c' _ ⟨i,g1,g2⟩
   exact⟨i,hlive i g1,g2⟩
 have hL:ZgD R { R with H:=H' } ks:=⟨rfl,rfl,hlive,fun k hk=>by rw[hH];exact ZiG ks _ k hk⟩
 refine⟨{ R with H:=H' },e,?_,rfl,hv _ e rfl ?_,fun i h _=>h⟩
 ·refine⟨ok.b01,?_,?_,?_,?_,fun i c hl=>ok.nb i c (hlive i hl),fun c hc=>by rw[hsz];exact ok.bl c hc⟩
  ·intro i blk' hi hd'
   rcases hHb i blk' hi hd' with⟨rfl,rfl⟩ | ⟨_,g3⟩
   ·exact⟨_,hm⟩
   ·exact ok.al i blk' g3 hd'
  ·intro i j c' hi hj
   exact ok.inj i j c' (hlive i hi) (hlive j hj)
  ·intro i c' hc
   rw[hsz];exact ok.lt i c' hc
  ·intro i m blk' hi hmi
   by_cases hd':blk' = .dead
   ·subst hd';trivial
   ·rcases hHb i blk' hi hd' with⟨rfl,rfl⟩ | ⟨hne,g3⟩
    ·have hmi':R.M i=some m:=hmi
     rw[hm] at hmi';cases hmi'
     refine hk _ e hL ⟨i,Zf.2 ⟨blk',?_,hd'⟩,hmi⟩ rfl
     show H'[i]? = some blk'
     exact hi
    ·refine e.blkOK ok.b01 (fun c' hc'=>ho c' fun e'=>hne ?_) (ok.blk i m blk' g3 hmi)
     exact ok.inj i b c (Zf.2 ⟨blk',g3,hd'⟩) lb (by rw[<- e',<- hc'];exact hmi) hm
 ·intro blk' hi hd'
  rcases hHb b blk' hi hd' with⟨_,h⟩ | ⟨h,_⟩
  ·exact h
  ·exact absurd rfl h
theorem Post.reuse (ok:R.OK w) {b c:Nat}{old blk:Blk}{cs cs':Array Value}{el:TypeId}{fr:Nat×Nat} (hb:R.H[b]? = some old) (hd:old ≠ .dead) (hm:R.M b=some (some c)) (hn:R.M nid=none)
  (hw:w.heap[c]? = some (.cells cs el fr)) (hw':w'.heap[c]? = some (.cells cs' el fr)) (hs:cs'.size=cs.size) (ho:∀c',c'≠c->w'.heap[c']? = w.heap[c']?) (hsz:w'.heap.size=w.heap.size)
  (h1:w'.os=w.os) (h2:w'.tape=w.tape) (h3:w'.output=w.output) (hp:ZA R.H [(b,.dead)] nid [blk] H')
  (hk:∀R':RP,Ext R w R' w'->R'.M nid=some (some c)->R'.H[nid]? = some blk->ZeI R' w' (some c) blk/\ZS R' w' v u):Post R w nid 1 H' v u w':=by
 have hbn:b≠nid:=fun e=>by rw[e,hn] at hm;cases hm
 have hHn:H'[nid]? = some blk:=by
  have:=hp nid
  rw[this,if_pos (by simp)];simp
 have hHb:∀i blk',H'[i]? = some blk'->blk' ≠ .dead->(i=nid/\blk'=blk)∨(i≠nid/\i≠b/\R.H[i]? = some blk'):=by
  intro i blk' hi hd'
  by_cases hin:i=nid
  ·subst hin
   rw[hHn] at hi;cases hi
   exact .inl ⟨rfl,rfl⟩
  ·have:=hp i
   rw[if_neg (by simp only[List.length_singleton];omega),hi] at this
   simp only[Za4,Z3,List.getElem?_set] at this
   split at this
   ·split at this
    ·cases this;exact absurd rfl hd'
    ·cases this
   ·rename_i hne
    exact .inr ⟨hin,fun e=>hne e.symm,this.symm⟩
 have lb:ZE R.H b=true:=Zf.2 ⟨old,hb,hd⟩
 have e:Ext R w { R with M:=fun i=>if i=nid then some (some c) else R.M i,H:=H' } w':=by
  refine⟨?_,?_,rfl,rfl,?_,?_,by omega,?_,h1,h2,h3⟩
  ·intro i x hx
   have:i≠nid:=fun e=>by rw[e,hn] at hx;cases hx
   simp[this,hx]
  ·intro i x blk' hx hi hd'
   have:i≠nid:=fun e=>by rw[e,hn] at hx;cases hx
   rcases hHb i blk' hi hd' with⟨h,_⟩ | ⟨_,_,g3⟩
   ·exact absurd h this
   ·exact⟨blk',g3,Blk.like_refl hd'⟩
  ·intro c' _ hnl
   exact ho c' fun e=>hnl ⟨b,lb,by rw[e];exact hm⟩
  ·intro c' cs0 el0 fr0 hc'
   by_cases e:c'=c
   ·subst e
    rw[hw] at hc';cases hc'
    exact⟨cs',el,fr,hw',hs⟩
   ·exact⟨cs0,el0,fr0,by rw[ho c' e];exact hc',rfl⟩
  ·rintro c' _ ⟨i,g1,g2⟩
   simp only at g1 g2
   by_cases hin:i=nid
   ·rw[if_pos hin] at g2
    cases g2
    exact⟨b,lb,hm⟩
   ·rw[if_neg hin] at g2
    obtain⟨blk',q1,q2⟩:=Zf.1 g1
    rcases hHb i blk' q1 q2 with⟨h,_⟩ | ⟨_,_,g3⟩
    ·exact absurd h hin
    ·exact⟨i,Zf.2 ⟨blk',g3,q2⟩,g2⟩
 obtain⟨k1,k2⟩:=hk _ e (by simp) hHn
 refine⟨_,e,?_,rfl,k2,fun i h hni=>by
  have:i≠nid:=fun h=>hni (by subst h;simp)
  simp[this,h]⟩
 refine⟨ok.b01,?_,?_,?_,?_,?_,fun c hc=>by rw[hsz];exact ok.bl c hc⟩
 ·intro i blk' hi hd'
  by_cases hin:i=nid
  ·exact⟨some c,by simp[hin]⟩
  ·rcases hHb i blk' hi hd' with⟨h,_⟩ | ⟨_,_,g3⟩
   ·exact absurd h hin
   ·obtain⟨x,hx⟩:=ok.al i blk' g3 hd'
    exact⟨x,by simp[hin,hx]⟩
 ·intro i j c' hi hj g1 g2
  simp only at g1 g2
  have aux:∀j,ZE H' j=true->j≠nid->R.M j=some (some c)->False:=by
   intro j hj hjn hmj
   obtain⟨blk',q1,q2⟩:=Zf.1 hj
   rcases hHb j blk' q1 q2 with⟨h,_⟩ | ⟨_,hjb,g3⟩
   ·exact hjn h
   ·exact hjb (ok.inj j b c (Zf.2 ⟨blk',g3,q2⟩) lb hmj hm)
  by_cases hin:i=nid<;>by_cases hjn:j=nid
  ·rw[hin,hjn]
  ·rw[if_pos hin] at g1;rw[if_neg hjn] at g2;cases g1
   exact(aux j hj hjn g2).elim
  ·rw[if_neg hin] at g1;rw[if_pos hjn] at g2;cases g2
   exact(aux i hi hin g1).elim
  ·rw[if_neg hin] at g1;rw[if_neg hjn] at g2
   have lv:∀i,ZE H' i=true->i≠nid->ZE R.H i=true:=fun i hi hin=>by
    obtain⟨blk',q1,q2⟩:=Zf.1 hi
    rcases hHb i blk' q1 q2 with⟨h,_⟩ | ⟨_,_,g3⟩
    ·exact absurd h hin
    ·exact Zf.2 ⟨blk',g3,q2⟩
   exact ok.inj i j c' (lv i hi hin) (lv j hj hjn) g1 g2
 ·intro i c' hc
  simp only at hc
  rw[hsz]
  by_cases hin:i=nid
  ·rw[if_pos hin] at hc;cases hc;exact ok.lt b c hm
  ·rw[if_neg hin] at hc;exact ok.lt i c' hc
 ·intro i m blk' hi hmi
  simp only at hi hmi
  by_cases hd':blk' = .dead
  ·subst hd';trivial
  ·rcases hHb i blk' hi hd' with⟨rfl,rfl⟩ | ⟨hin,hne,g3⟩
   ·rw[if_pos rfl] at hmi;cases hmi
    exact k1
   ·rw[if_neg hin] at hmi
    refine e.blkOK ok.b01 (fun c' hc'=>ho c' fun e'=>hne ?_) (ok.blk i m blk' g3 hmi)
    exact ok.inj i b c (Zf.2 ⟨blk',g3,hd'⟩) lb (by rw[<- e',<- hc'];exact hmi) hm
 ·intro i c' hl hc
  simp only at hc
  by_cases hin:i=nid
  ·rw[if_pos hin] at hc;cases hc;exact ok.nb b c lb hm
  ·rw[if_neg hin] at hc
   obtain⟨blk',q1,q2⟩:=Zf.1 hl
   rcases hHb i blk' q1 q2 with⟨h,_⟩ | ⟨_,_,g3⟩
   ·exact absurd h hin
   ·exact ok.nb i c' (Zf.2 ⟨blk',g3,q2⟩) hc
end
theorem ZcL (b:Nat):∀(vs:List Value) (o:Nat) (w:World) (cs:Array Value) (el:TypeId) (fr:Nat×Nat),w.heap[b]? = some (.cells cs el fr) ->
  (∃cs':Array Value,cs'.toList=ZH cs.toList o vs/\(w.setCells b o vs).heap[b]? = some (.cells cs' el fr))/\(∀c,c≠b->(w.setCells b o vs).heap[c]? = w.heap[c]?)/\(w.setCells b o vs).heap.size=w.heap.size /\
   (w.setCells b o vs).os=w.os/\(w.setCells b o vs).tape=w.tape/\(w.setCells b o vs).output=w.output
 | [],o,w,cs,el,fr,h=>⟨⟨cs,rfl,h⟩,fun _ _=>rfl,rfl,rfl,rfl,rfl⟩
 | v :: vs,o,w,cs,el,fr,h=>by
  have hlt:b<w.heap.size:=(Array.getElem?_eq_some_iff.1 h).1
  have hv:w.heap[b] = .cells cs el fr:=(Array.getElem?_eq_some_iff.1 h).2
  have h1:(w.setCell ⟨b,o,none⟩ v).heap[b]? = some (.cells (cs.setIfInBounds o v) el fr):=by
   unfold World.setCell
   rw[Array.getElem?_eq_getElem (by simpa using hlt),Array.getElem_modify]
   simp[hv]
  obtain⟨⟨cs',e1,e2⟩,e3,e4,e5,e6,e7⟩:=ZcL b vs (o+1) (w.setCell ⟨b,o,none⟩ v) _ el fr h1
  refine⟨⟨cs',?_,e2⟩,fun c hc=>?_,by rw[World.setCells,e4];simp,e5,e6,e7⟩
  ·rw[e1,ZH,Z3];simp
  ·rw[World.setCells,e3 c hc]
   exact heap_setCell_other w _ c v hc
def cellsOf (us:List Value):List Value:=us.flatMap fun u=>u.cells.toList
theorem Zfa (u:Value) (us:List Value):cellsOf (u :: us)=u.cells.toList++cellsOf us:=by simp[cellsOf]
theorem ZmP (us vs:List Value):cellsOf (us++vs)=cellsOf us++cellsOf vs:=by simp[cellsOf]
theorem Zcd {sz:Nat}:∀(us:List Value),(∀u∈us,u.cells.size=sz)->(cellsOf us).length=us.length*sz
 | [],_=>by simp[cellsOf]
 | u :: us,h=>by
  rw[Zfa,List.length_append,Zcd us (fun v hv=>h v (by simp[hv])),Array.length_toList,h u (by simp),List.length_cons,Nat.succ_mul];omega
theorem Zc7 {sz:Nat}:∀(us:List Value),(∀u∈us,u.cells.size=sz)->∀(i k:Nat) (u:Value) (v:Value),us[i]? = some u->u.cells[k]? = some v->(cellsOf us)[i*sz+k]? = some v
 | [],_,i,k,u,v,h,_=>by simp at h
 | u0 :: us,h,0,k,u,v,h1,h2=>by
  simp at h1;subst h1
  have hk:k<u0.cells.size:=(Array.getElem?_eq_some_iff.1 h2).1
  rw[Zfa,Nat.zero_mul,Nat.zero_add,List.getElem?_append_left (by simpa using hk)]
  simpa using h2
 | u0 :: us,h,i+1,k,u,v,h1,h2=>by
  have h0:=h u0 (by simp)
  rw[Zfa,List.getElem?_append_right (by rw[Array.length_toList,h0,Nat.succ_mul];omega),Array.length_toList,h0]
  have:(i+1)*sz+k-sz=i*sz+k:=by rw[Nat.succ_mul];omega
  rw[this]
  exact Zc7 us (fun v hv=>h v (by simp[hv])) i k u v (by simpa using h1) h2
theorem Zkl {sz:Nat}:∀(us:List Value),(∀u∈us,u.cells.size=sz)->∀(j:Nat) (v:Value),(cellsOf us)[j]? = some v->∃i k u,us[i]? = some u/\u.cells[k]? = some v/\j=i*sz+k
 | [],_,j,v,h=>by simp[cellsOf] at h
 | u0 :: us,h,j,v,hj=>by
  have h0:=h u0 (by simp)
  rw[Zfa] at hj
  by_cases hlt:j<sz
  ·rw[List.getElem?_append_left (by rw[Array.length_toList,h0];exact hlt)] at hj
   exact⟨0,j,u0,rfl,by simpa using hj,by omega⟩
  ·rw[List.getElem?_append_right (by rw[Array.length_toList,h0];omega),Array.length_toList,h0] at hj
   obtain⟨i,k,u,e1,e2,e3⟩:=Zkl us (fun v hv=>h v (by simp[hv])) (j-sz) v hj
   exact⟨i+1,k,u,by simpa using e1,e2,by rw[Nat.succ_mul];omega⟩
theorem ZeD {α β:Type}:∀(ys:List α) (Q:Nat->α->β->Prop),(∀(j:Nat) x,ys[j]? = some x->∃u,Q j x u)->∃us:List β,us.length=ys.length/\∀(j:Nat) x u,ys[j]? = some x->us[j]? = some u->Q j x u
 | [],Q,_=>⟨[],rfl,by simp⟩
 | y :: ys,Q,h=>by
  obtain⟨u,hu⟩:=h 0 y rfl
  obtain⟨us,h1,h2⟩:=ZeD ys (fun j=>Q (j+1)) (fun j x hj=>h (j+1) x (by simpa using hj))
  refine⟨u :: us,by simp[h1],fun j x v hx hv=>?_⟩
  cases j with
  | zero=>simp at hx hv;subst hx;subst hv;exact hu
  | succ j=>exact h2 j x v (by simpa using hx) (by simpa using hv)
end Go.Proofs.YtgcfmiajkbbmeaaGreatE
