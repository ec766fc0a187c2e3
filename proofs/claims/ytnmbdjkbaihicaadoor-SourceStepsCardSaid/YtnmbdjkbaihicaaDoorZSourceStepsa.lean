/- SourceSteps: part 1 of 6 of the proof. -/
import Derived.Calls
import Derived.Orders
import Derived.Test.YtnmbdjkbaihicaaDoorProg
import Derived.Below
import Derived.WalkKit
set_option maxRecDepth 100000
set_option maxHeartbeats 40000000
namespace Go.Proofs.YtnmbdjkbaihicaaDoorE
open Go
inductive D where
 | bool (b : Bool) | int (k : IntKind) (n : Int) | str (s : ByteArray)
 | list (own : Bool) (xs : List D) | agg (cs : List D) | tup (vs : List D)
 | fn (f : Nat) (caps : List D) | nilfn
 | rptr (cs : List D) | nilp
 | iface (t : Nat) (v : D) | nilI
inductive V where
 | d (x : D) | bad
 | ptr (b o : Nat) | eptr (b sz i k : Nat)
 | sl (b sz : Nat) | slp (b sz o len : Nat) | nilsl (sz : Nat)
 | agg (cs : List V) | tup (vs : List V)
 | fn (f : Nat) (caps : List V)
 | mp (b : Nat)
inductive Blk where
 | dead | cells (cs : List V) | arr (sz : Nat) (xs : List D)
 | mp (es : List (D × D))
abbrev Zn := List Blk
abbrev Env := Nat → V
def Env.set (e : Env) (i : Nat) (v : V) : Env := fun j => bif Nat.beq i j then v else e j
def env0 : Env := fun _ => .bad
def Zec : List Nat → List V → Env
 | i :: is, v :: vs => (Zec is vs).set i v
 | _, _ => env0
def D.isAgg : D → Bool
 | .agg _ => true
 | _ => false
mutual
def D.esc : D → Bool
 | .list own _ => own
 | .agg cs => D.escs cs
 | .tup _ => false
 | .iface _ v => v.esc
 | .fn _ caps => caps.isEmpty
 | .rptr _ => false
 | _ => true
def D.escs : List D → Bool
 | [] => true
 | c :: cs => c.esc && (!c.isAgg && D.escs cs)
end
def Zsz : List D → Bool
 | [] => true
 | c :: cs => c.esc && Zsz cs
mutual
def D.nofn : D → Bool
 | .fn _ caps => caps.isEmpty
 | .agg cs => D.nofns cs
 | .tup cs => D.nofns cs
 | .rptr cs => D.nofns cs
 | .iface _ v => v.nofn
 | _ => true
def D.nofns : List D → Bool
 | [] => true
 | c :: cs => c.nofn && D.nofns cs
end
mutual
def ZpS : V → Bool
 | .d (.tup ts) => Zsz ts
 | .d x => x.esc
 | .agg cs => ZnD cs
 | .tup cs => ZnD cs
 | .fn _ cs => ZnD cs
 | _ => true
def ZnD : List V → Bool
 | [] => true
 | v :: vs => ZpS v && ZnD vs
end
mutual
def ZlK : V → Bool
 | .d x => x.nofn
 | .agg cs => ZkC cs
 | .tup cs => ZkC cs
 | .fn _ cs => ZkC cs
 | _ => true
def ZkC : List V → Bool
 | [] => true
 | v :: vs => ZlK v && ZkC vs
end
def Zlz : List Blk → Bool
 | [] => true
 | .cells cs :: r => ZnD cs && Zlz r
 | _ :: r => Zlz r
def Ziq : List Blk → Bool
 | [] => true
 | .cells cs :: r => ZkC cs && Ziq r
 | _ :: r => Ziq r
def V.isAggV : V → Bool
 | .d (.agg _) => true
 | .agg _ => true
 | _ => false
def V.isD : V → Bool
 | .d _ => true
 | _ => false
def D.cells : D → List D
 | .agg cs => cs
 | x => [x]
inductive Opd where
 | t (i : Nat) | c (v : V)
inductive O where
 | mov (x : Opd)
 | pick (c a b : Opd)
 | alloc (z : V)
 | box (x : Opd)
 | build (z : List V) (ps : List (Nat × Nat × Opd))
 | bslice (sz : Nat) (z : List D) (len : Nat) (ps : List (Nat × Opd))
 | load (n : Nat) (ag : Bool) (x : Opd)
 | store (n : Nat) (x v : Opd)
 | nilck (x : Opd)
 | bin (op : BinOp) (x y : Opd)
 | eqv (ks : List Bool) (neg : Bool) (x y : Opd)
 | un (op : UnOp) (x : Opd)
 | conv (k : IntKind) (x : Opd)
 | mkfn (f : Nat) (caps : List Opd)
 | mkslice (sz : Nat) (z : List D) (n c : Opd)
 | slice (sz : Nat) (x : Opd) (lo hi mx : Option Opd)
 | faddr (off : Nat) (x : Opd)
 | field (off n : Nat) (ag : Bool) (x : Opd)
 | iaddr (sz : Nat) (x i : Opd)
 | index (len sz : Nat) (ag : Bool) (x i : Opd)
 | indexS (x i : Opd)
 | iaddrA (len sz : Nat) (x i : Opd)
 | len (x : Opd)
 | append (sz : Nat) (x y : Opd)
 | appendD (sz : Nat) (x y : Opd)
 | mx (isMax : Bool) (xs : List Opd)
 | extract (x : Opd) (i : Nat)
 | mkif (t : Nat) (x : Opd)
 | call (f : Nat) (args : List Opd)
 | callv (x : Opd) (args : List Opd)
 | invoke (tab : List (Nat × Nat)) (x : Opd) (args : List Opd)
 | mkmap
 | mapset (ks : List Bool) (m k v : Opd)
 | mapget (ks : List Bool) (z : D) (m k : Opd)
 | panic
 | callk (f : Nat) (args : List Opd) (chk : List Opd)
 | nilq (x : Opd)
 | spec (id : Nat) (args : List Opd)
structure Op1 where
 dst : Option Nat
 op : O
 guard : Option (Nat × Bool)
 mask : List Nat
 eff : Nat
inductive C where
 | skip | ret | exit (id : Nat)
 | seq (a b : C)
 | cond (x : Opd) (a b : C)
 | block (id : Nat) (a : C)
 | loop (live outs : List Nat) (a : C)
 | ops (l : List Op1)
 | draw (l : List Op1)
inductive Ex where
 | normal | exit (id : Nat) | ret
structure FnI where
 nargs : Nat
 body : C
 res : List (Nat × Option (Nat × Bool))
structure Ctx where
 code : Nat → Option FnI
 mode : Nat → Nat
abbrev oA (op : O) : Op1 := ⟨none, op, none, [], 0⟩
abbrev oB (d : Nat) (op : O) : Op1 := ⟨some d, op, none, [], 0⟩
abbrev oG (d : Nat) (op : O) (s : Nat) (b : Bool) : Op1 := ⟨some d, op, some (s, b), [], 0⟩
abbrev oM (d : Nat) (op : O) (m : List Nat) : Op1 := ⟨some d, op, none, m, 0⟩
abbrev iN (n : Int) : Opd := .c (.d (.int .i64 n))
abbrev bT : Opd := .c (.d (.bool true))
abbrev bF : Opd := .c (.d (.bool false))
def Opd.val (e : Env) : Opd → V
 | .t i => e i
 | .c v => v
def vals (e : Env) : List Opd → List V
 | [] => []
 | x :: xs => x.val e :: vals e xs
def ZkQ : List V → Option (List D)
 | [] => some []
 | .d x :: r => match ZkQ r with | some l => some (x :: l) | none => none
 | _ :: _ => none
def ZrM (cs : List V) : V := match ZkQ cs with | some l => .d (.agg l) | none => .agg cs
def Zt3 (cs : List V) : V := match ZkQ cs with | some l => .d (.tup l) | none => .tup cs
def ZcK : List D → List V
 | [] => []
 | x :: xs => .d x :: ZcK xs
def V.cells : V → List V
 | .d (.agg cs) => ZcK cs
 | .agg cs => cs
 | v => [v]
def nth {α : Type} : List α → Nat → Option α
 | [], _ => none
 | x :: _, 0 => some x
 | _ :: xs, n + 1 => nth xs n
def Zfd {α : Type} : List α → Nat → α → List α
 | [], _, _ => []
 | _ :: xs, 0, v => v :: xs
 | x :: xs, n + 1, v => x :: Zfd xs n v
def Zan {α : Type} : List α → Nat → List α → List α
 | cs, _, [] => cs
 | cs, o, v :: vs => Zan (Zfd cs o v) (o + 1) vs
def fzl (f : V → Option D) : List V → Option (List D)
 | [] => some []
 | v :: vs => match f v, fzl f vs with | some x, some l => some (x :: l) | _, _ => none
def fz (H : Zn) : Nat → V → Option D
 | 0, _ => none
 | n + 1, v => match v with
  | .d x => some x
  | .sl b sz => match nth H b with
   | some (.arr sz' xs) => bif Nat.beq sz sz' then some (.list false xs) else none
   | _ => none
  | .slp b sz o len => match nth H b with
   | some (.arr sz' xs) => bif Nat.beq sz sz' then some (.list false ((xs.drop o).take len)) else none
   | _ => none
  | .nilsl _ => some (.list true [])
  | .agg cs => match fzl (fz H n) cs with | some l => some (.agg l) | none => none
  | .fn f caps => match fzl (fz H n) caps with | some l => some (.fn f l) | none => none
  | .ptr b o => match nth H b with
   | some (.cells cs) => match fzl (fz H n) (cs.drop o) with | some l => some (.rptr l) | none => none
   | _ => none
  | _ => none
def fzs (H : Zn) (l : List V) : Option (List D) := fzl (fz H 6) l
def frl (f : V → Option (D × List Nat)) : List V → Option (List D × List Nat)
 | [] => some ([], [])
 | v :: vs => match f v, frl f vs with | some (x, k), some (l, ks) => some (x :: l, k ++ ks) | _, _ => none
def fr (H : Zn) : Nat → V → Option (D × List Nat)
 | 0, _ => none
 | n + 1, v => match v with
  | .d x => match x with
   | .tup ts => bif Zsz ts then some (.tup ts, []) else none
   | x => bif x.esc then some (x, []) else none
  | .sl b sz => match nth H b with
   | some (.arr sz' xs) => bif Nat.beq sz sz' then some (.list true xs, [b]) else none
   | _ => none
  | .slp b sz o len => match nth H b with
   | some (.arr sz' xs) => bif Nat.beq sz sz' then some (.list true ((xs.drop o).take len), [b]) else none
   | _ => none
  | .nilsl _ => some (.list true [], [])
  | .agg cs => match frl (fr H n) cs with | some (l, ks) => bif D.escs l then some (.agg l, ks) else none | none => none
  | .tup cs => match frl (fr H n) cs with | some (l, ks) => some (.tup l, ks) | none => none
  | _ => none
def idx : List Nat → Nat → Nat → Option Nat
 | [], _, _ => none
 | a :: l, b, i => bif Nat.beq a b then some i else idx l b (i + 1)
mutual
def Zmp (ρ : Nat → Option Nat) : V → V
 | .d x => .d x
 | .bad => .bad
 | .ptr b o => match ρ b with | some j => .ptr j o | none => .bad
 | .eptr b sz i k => match ρ b with | some j => .eptr j sz i k | none => .bad
 | .sl b sz => match ρ b with | some j => .sl j sz | none => .bad
 | .slp b sz o len => match ρ b with | some j => .slp j sz o len | none => .bad
 | .nilsl sz => .nilsl sz
 | .agg cs => .agg (ZhL ρ cs)
 | .tup cs => .tup (ZhL ρ cs)
 | .fn f caps => .fn f (ZhL ρ caps)
 | .mp b => match ρ b with | some j => .mp j | none => .bad
def ZhL (ρ : Nat → Option Nat) : List V → List V
 | [] => []
 | v :: vs => Zmp ρ v :: ZhL ρ vs
end
def Zhk (ρ : Nat → Option Nat) : Blk → Blk
 | .cells cs => .cells (ZhL ρ cs)
 | b => b
mutual
def ZBd : V → List Nat
 | .ptr b _ => [b]
 | .eptr b _ _ _ => [b]
 | .sl b _ => [b]
 | .slp b _ _ _ => [b]
 | .mp b => [b]
 | .agg cs => Zhz cs
 | .tup cs => Zhz cs
 | .fn _ caps => Zhz caps
 | _ => []
def Zhz : List V → List Nat
 | [] => []
 | v :: vs => ZBd v ++ Zhz vs
end
def ZtD (H : Zn) (b : Nat) : List Nat := match nth H b with | some (.cells cs) => Zhz cs | _ => []
def Z7 (H : Zn) (b : Nat) : Bool := match nth H b with | some .dead => false | some _ => true | none => false
def Ziw (l : List Nat) (b : Nat) : Bool := match l with | [] => false | a :: l => bif Nat.beq a b then true else Ziw l b
def ZfS (H : Zn) : List Nat → List Nat → List Nat
 | l, [] => l
 | l, b :: bs => bif Ziw l b || !(Z7 H b) then ZfS H l bs else ZfS H (l ++ [b]) bs
def Zko (H : Zn) : Nat → Nat → List Nat → List Nat
 | 0, _, l => l
 | n + 1, i, l => match nth l i with
  | some b => Zko H n (i + 1) (ZfS H l (ZtD H b))
  | none => l
def ZmF : Nat → List Nat
 | 0 => []
 | n + 1 => ZmF n ++ [n]
def ZmU (H : Zn) (k : Nat) (vs : List V) : List Nat :=
 Zko H (H.length + 1) 0 (ZfS H (ZmF k) (Zhz vs))
def Zma : List Nat → Bool
 | [] => true
 | a :: l => !(Ziw l a) && Zma l
def pick (H : Zn) (ρ : Nat → Option Nat) : List Nat → Zn
 | [] => []
 | b :: bs => (match nth H b with | some blk => Zhk ρ blk | none => .dead) :: pick H ρ bs
def ZpI (n : Nat) : List Nat → Bool
 | [] => true
 | a :: l => Nat.blt a n && ZpI n l
def extract (k : Nat) (vs : List V) (H : Zn) : Option (List Nat × List V × Zn) :=
 let L := ZmU H k vs
 bif Zma L && ZpI H.length L then some (L, ZhL (fun b => idx L b 0) vs, pick H (fun b => idx L b 0) L) else none
def Zb5 : Nat → List V → List V × List Blk
 | _, [] => ([], [])
 | n, .nilsl sz :: vs => bif Nat.blt 0 sz then (let r := Zb5 (n + 1) vs; (.sl n sz :: r.1, .arr sz [] :: r.2)) else (let r := Zb5 n vs; (.nilsl sz :: r.1, r.2))
 | n, v :: vs => let r := Zb5 n vs; (v :: r.1, r.2)
def ZcG : Nat → Zn → Zn × List Blk
 | _, [] => ([], [])
 | n, .cells cs :: H => let r := Zb5 n cs; let q := ZcG (n + r.2.length) H; (.cells r.1 :: q.1, r.2 ++ q.2)
 | n, b :: H => let q := ZcG n H; (b :: q.1, q.2)
def ZnV (k : Nat) (vs : List V) (H : Zn) : Option (List V × Zn) :=
 match extract k vs H with
 | none => none
 | some (_, vs1, H1) =>
  let r := Zb5 H1.length vs1
  let q := ZcG (H1.length + r.2.length) H1
  match extract k r.1 (q.1 ++ (r.2 ++ q.2)) with
  | none => none
  | some (_, vs2, H2) => some (vs2, H2)
mutual
def eqD : D → D → Option Bool
 | .bool a, .bool b => some (a == b)
 | .int k a, .int k' b => bif k == k' then some (a == b) else none
 | .agg xs, .agg ys => ZoI xs ys
 | _, _ => none
def ZoI : List D → List D → Option Bool
 | [], [] => some true
 | x :: xs, y :: ys => match eqD x y, ZoI xs ys with | some a, some b => some (a && b) | _, _ => none
 | _, _ => none
end
def Zew : List Bool → List D → Bool
 | [], [] => true
 | true :: ks, .bool _ :: cs => Zew ks cs
 | false :: ks, .int _ _ :: cs => Zew ks cs
 | _, _ => false
def Zdn (ks : List Bool) : D → Bool
 | .agg cs => (match ks with | [_] => false | ks => Zew ks cs)
 | x => (match ks with | [_] => Zew ks [x] | _ => false)
def lim : Nat := 1073741824
def ZA {α : Type} (xs : List α) (i : Int) : Option α := bif decide (0 ≤ i) then nth xs i.toNat else none
abbrev Res := Option (V × List (Nat × Blk) × List Blk)
def Zc1 (v : V) : Res := some (v, [], [])
def Zxt (op : BinOp) (k : IntKind) (a b : Int) : Option D :=
 match op with
 | .add => some (.int k (k.wrap (a + b)))
 | .sub => some (.int k (k.wrap (a - b)))
 | .mul => some (.int k (k.wrap (a * b)))
 | .quo => bif b == 0 then none else some (.int k (k.wrap (a.tdiv b)))
 | .rem => bif b == 0 then none else some (.int k (a.tmod b))
 | .and => some (.int k (k.wrap (BitVec.ofInt k.bits a &&& BitVec.ofInt k.bits b).toNat))
 | .or => some (.int k (k.wrap (BitVec.ofInt k.bits a ||| BitVec.ofInt k.bits b).toNat))
 | .xor => some (.int k (k.wrap (BitVec.ofInt k.bits a ^^^ BitVec.ofInt k.bits b).toNat))
 | .eql => some (.bool (a == b))
 | .neq => some (.bool (a != b))
 | .lss => some (.bool (decide (a < b)))
 | .leq => some (.bool (decide (a ≤ b)))
 | .gtr => some (.bool (decide (b < a)))
 | .geq => some (.bool (decide (b ≤ a)))
 | _ => none
def shI (op : BinOp) (k : IntKind) (a b : Int) : Option D :=
 bif decide (b < 0) then none else
 match op with
 | .shl => some (.int k (k.wrap (a * 2 ^ (min b.toNat k.bits))))
 | .shr => some (.int k (a.fdiv (2 ^ (min b.toNat k.bits))))
 | _ => none
def Znf (op : BinOp) (x y : V) : Option D :=
 match op, x, y with
 | .shl, .d (.int k a), .d (.int _ b) => shI .shl k a b
 | .shr, .d (.int k a), .d (.int _ b) => shI .shr k a b
 | op, .d (.int k a), .d (.int k' b) => bif k == k' then Zxt op k a b else none
 | _, _, _ => none
def unE (op : UnOp) (x : V) : Option D :=
 match op, x with
 | .not, .d (.bool b) => some (.bool !b)
 | .neg, .d (.int k n) => some (.int k (k.wrap (0 - n)))
 | _, _ => none
def V.okb : V → Bool
 | .bad => false
 | .tup _ => false
 | .d (.tup _) => false
 | _ => true
def V.flat : V → Bool
 | .bad => false
 | .tup _ => false
 | .agg _ => false
 | .d (.tup _) => false
 | .d (.agg _) => false
 | _ => true
def Zqk : List V → Bool
 | [] => true
 | v :: vs => v.flat && Zqk vs
def Zc8 (n : Nat) (ag : Bool) (cs : List V) : Option V :=
 bif ag then (bif Nat.beq (cs.take n).length n then some (ZrM (cs.take n)) else none) else cs.head?
def Zdm (H : Zn) (n : Nat) (ag : Bool) (x : V) : Option V :=
 match x with
 | .ptr b o => match nth H b with
  | some (.cells cs) => Zc8 n ag (cs.drop o)
  | _ => none
 | .eptr b sz i k => match nth H b with
  | some (.arr sz' xs) => bif Nat.beq sz sz' then
    match nth xs i with
    | some x => Zc8 n ag (ZcK (x.cells.drop k))
    | none => none
   else none
  | _ => none
 | .d (.rptr cs) => Zc8 n ag (ZcK cs)
 | _ => none
def ZlS (H : Zn) (n : Nat) (x v : V) : Res :=
 match x with
 | .ptr b o => match nth H b with
  | some (.cells cs) => bif Nat.beq v.cells.length n && Nat.ble (o + n) cs.length && v.okb && Zqk v.cells then some (.bad, [(b, .cells (Zan cs o v.cells))], []) else none
  | _ => none
 | .eptr b sz i k => match nth H b with
  | some (.arr sz' xs) => bif Nat.beq sz sz' then
    match nth xs i, fr H 6 v with
    | some x, some (y, ks) =>
     bif Ziw ks b then none else
     bif Nat.beq y.cells.length n && Nat.ble (k + n) x.cells.length && (V.d y).okb && (x.isAgg || !y.isAgg) then
      some (.bad, (b, .arr sz (Zfd xs i (bif x.isAgg then .agg (Zan x.cells k y.cells) else y))) :: ks.map (fun j => (j, .dead)), [])
     else none
    | _, _ => none
   else none
  | _ => none
 | _ => none
def elems (H : Zn) (x : V) : Option (List D) :=
 match x with
 | .d (.list _ xs) => some xs
 | .sl b sz => match nth H b with | some (.arr sz' xs) => bif Nat.beq sz sz' then some xs else none | _ => none
 | .slp b sz o len => match nth H b with | some (.arr sz' xs) => bif Nat.beq sz sz' then some ((xs.drop o).take len) else none | _ => none
 | .nilsl _ => some []
 | _ => none
def Zj1 (sz : Nat) (xs : List D) (l : Nat) : Bool := match nth xs l with | some z => Nat.beq z.cells.length sz && (V.d z).okb | none => true
def Zk3 (nid : Nat) (H : Zn) (sz : Nat) (x y : V) : Res :=
 match elems H y with
 | none => none
 | some ys =>
  bif Zj1 sz ys 0 then
   match x with
   | .nilsl _ => bif Nat.ble ys.length lim then some (.sl nid sz, [], [.arr sz ys]) else none
   | .sl b sz' => match nth H b with
    | some (.arr sz'' xs) => bif Nat.beq sz sz' && Nat.beq sz sz'' then
      (bif Nat.ble (xs.length + ys.length) lim then some (.sl nid sz, [(b, .dead)], [.arr sz (xs ++ ys)]) else none)
     else none
    | _ => none
   | .slp b sz' o len => match nth H b with
    | some (.arr sz'' xs) => bif Nat.beq sz sz' && Nat.beq sz sz'' && Nat.ble (o + len + ys.length) xs.length then
      some (.slp b sz o (len + ys.length), [(b, .arr sz (xs.take (o + len) ++ (ys ++ xs.drop (o + len + ys.length))))], [])
     else none
    | _ => none
   | _ => none
  else none
def ZhP (H : Zn) (sz : Nat) (x y : V) : Option V :=
 match x with
 | .nilsl _ => (match elems H y with
  | some ys => bif Zj1 sz ys 0 && Nat.ble ys.length lim then some (.d (.list true ys)) else none
  | none => none)
 | _ => none
def Zg6 (v : Option V) (dflt : Nat) : Option Nat :=
 match v with
 | none => some dflt
 | some (.d (.int _ n)) => bif decide (0 ≤ n) then some n.toNat else none
 | _ => none
def ZhB (H : Zn) (sz : Nat) (x : V) (lo hi mx : Option V) : Option V :=
 match elems H x with
 | none => none
 | some xs =>
  match Zg6 lo 0, Zg6 hi xs.length with
  | some l, some h =>
   bif Nat.ble l h && Nat.ble h xs.length then
    match mx with
    | none => match x with
     | .d (.list own _) => bif Nat.beq l 0 || Zj1 sz xs l then some (.d (.list own ((xs.drop l).take (h - l)))) else none
     | .sl b sz' => bif Nat.beq sz sz' then some (.slp b sz l (h - l)) else none
     | .slp b sz' o _ => bif Nat.beq sz sz' then some (.slp b sz (o + l) (h - l)) else none
     | .nilsl _ => some (.nilsl sz)
     | _ => none
    | some m => match Zg6 (some m) 0 with
     | some m => bif Nat.beq m l && Nat.beq m h then some (.nilsl sz) else none
     | none => none
   else none
  | _, _ => none
def Zhq (H : Zn) (sz : Nat) (x i : V) : Option V :=
 match i with
 | .d (.int _ i) =>
  match x with
  | .d (.list _ xs) => match ZA xs i with | some x => bif Nat.beq x.cells.length sz && (V.d x).okb then some (.d (.rptr x.cells)) else none | none => none
  | .sl b sz' => match nth H b with
   | some (.arr sz'' xs) => bif Nat.beq sz sz' && Nat.beq sz sz'' then (match ZA xs i with | some _ => some (.eptr b sz i.toNat 0) | none => none) else none
   | _ => none
  | .slp b sz' o len => match nth H b with
   | some (.arr sz'' xs) => bif Nat.beq sz sz' && Nat.beq sz sz'' then (match ZA ((xs.drop o).take len) i with | some _ => some (.eptr b sz (o + i.toNat) 0) | none => none) else none
   | _ => none
  | _ => none
 | _ => none
def ZlZ (len sz : Nat) (ag : Bool) (x i : V) : Option V :=
 match i with
 | .d (.int _ i) => bif x.isAggV && (decide (0 ≤ i) && decide (i < len)) then Zc8 sz ag (x.cells.drop (i.toNat * sz)) else none
 | _ => none
def Zjr (x i : V) : Option V :=
 match x, i with
 | .d (.str s), .d (.int _ i) => bif decide (0 ≤ i) then (match s[i.toNat]? with | some b => some (.d (.int .u8 b.toNat)) | none => none) else none
 | _, _ => none
def Zjs (_ : Zn) (off : Nat) (x : V) : Option V :=
 match x with
 | .ptr b o => some (.ptr b (o + off))
 | .eptr b sz i k => some (.eptr b sz i (k + off))
 | .d (.rptr cs) => some (.d (.rptr (cs.drop off)))
 | _ => none
def Zsx (_ : Zn) (x : V) : Option V :=
 match x with
 | .d (.fn f caps) => some (.d (.fn f caps))
 | .fn f caps => some (.fn f caps)
 | .d (.iface t v) => some (.d (.iface t v))
 | .d (.rptr cs) => some (.d (.rptr cs))
 | .ptr b o => some (.ptr b o)
 | .eptr b sz i k => some (.eptr b sz i k)
 | _ => none
def Zf0 (H : Zn) (len sz : Nat) (x i : V) : Option V :=
 match i with
 | .d (.int _ i) => bif decide (0 ≤ i) && decide (i < len) then Zjs H (i.toNat * sz) x else none
 | _ => none
def ZqY (H : Zn) (x : V) : Option D :=
 match elems H x with | some xs => some (.int .i64 xs.length) | none => none
def mxE (isMax : Bool) : List V → Option D
 | [] => none
 | .d (.int k a) :: r => go k a r
 | _ => none
where
 go (k : IntKind) (a : Int) : List V → Option D
  | [] => some (.int k a)
  | .d (.int _ b) :: r => go k (bif isMax then (bif decide (a < b) then b else a) else (bif decide (b < a) then b else a)) r
  | _ => none
def Zqr (z : List V) : List (Nat × Nat × V) → Option (List V)
 | [] => some z
 | (off, size, v) :: r => bif v.okb && Nat.beq v.cells.length size && Nat.ble (off + size) z.length then Zqr (Zan z off v.cells) r else none
def Zpx (H : Zn) (sz : Nat) (xs : List D) : List (Nat × V) → Option (List D × List Nat)
 | [] => some (xs, [])
 | (i, v) :: r => match fr H 6 v with
  | some (y, ks) => (bif Nat.blt i xs.length && Nat.beq y.cells.length sz && (V.d y).okb then match Zpx H sz (Zfd xs i y) r with | some (l, k2) => some (l, ks ++ k2) | none => none else none)
  | none => none
def ZiH (es : List (D × D)) (k : D) : Option (Option D) :=
 match es with
 | [] => some none
 | (a, v) :: r => match eqD k a with | some true => some (some v) | some false => ZiH r k | none => none
def ZvM (es : List (D × D)) (k z : D) : Option D := match ZiH es k with | some (some y) => some y | some none => some z | none => none
def Ziv (es : List (D × D)) (k v : D) : Option (List (D × D)) :=
 match es with
 | [] => some [(k, v)]
 | (a, u) :: r => match eqD k a with
  | some true => some ((a, v) :: r)
  | some false => (match Ziv r k v with | some l => some ((a, u) :: l) | none => none)
  | none => none
def Zhc : D → Bool
 | .bool _ => true
 | .int _ _ => true
 | _ => false
def ZmI (H : Zn) (ks : List Bool) (m k v : V) : Res :=
 match m, k, v with
 | .mp b, .d k, .d y => (match nth H b with
  | some (.mp es) => (match Zdn ks k && Zhc y with | true => (match Ziv es k y with | some l => some (.bad, [(b, .mp l)], []) | none => none) | false => none)
  | _ => none)
 | _, _, _ => none
def Zk7 (H : Zn) (ks : List Bool) (z : D) (m k : V) : Option D :=
 match m, k with
 | .mp b, .d k => (match nth H b with
  | some (.mp es) => (match Zdn ks k with | true => ZvM es k z | false => none)
  | _ => none)
 | _, _ => none
def ZBU : List D → Option (List (Int × Int))
 | [] => some []
 | .agg [.int .i64 a, .int .i64 b] :: r => match ZBU r with | some l => some ((a, b) :: l) | none => none
 | _ => none
def pc (zs : List (Int × Int)) (j : Nat) : Int × Int := zs[j]?.getD (0, 0)
def Zsj (zs : List (Int × Int)) (p : Int) : Nat → Int
 | 0 => -1
 | k + 1 => bif ((pc zs k).1 != p || decide (p < 0)) then Zsj zs p k else (k : Int)
def Zlr (id : Nat) (l : List D) : Option D :=
 match id, l with
 | 0, [.agg [_, _, .list _ xs], .int .i64 p] => (match ZBU xs with | some zs => bif Nat.ble zs.length lim then some (.int .i64 (Zsj zs p zs.length)) else none | none => none)
 | _, _ => none
abbrev Zbn := Nat → List V → Zn → Option (V × Zn)
def ZfZ (Γ : Ctx) (cf : Zbn) (nid : Nat) (H : Zn) (f : Nat) (args : List V) : Res :=
 match Γ.mode f with
 | 0 => match fzs H args with
  | some l => match cf f (ZcK l) [] with
   | some (v, H1) => match fr H1 6 v with | some (x, _) => (match x with | .tup ts => some (.tup (ZcK ts), [], []) | x => some (.d x, [], [])) | none => none
   | none => none
  | none => none
 | 1 => match fzs H args with
  | some l => match cf f (ZcK l) [] with
   | some (v, H1) => bif ZpS v && Zlz H1 then let up := fun j => some (nid + j); some (Zmp up v, [], H1.map (Zhk up)) else none
   | none => none
  | none => none
 | _ =>
  match extract 0 args H with
  | none => none
  | some (L, args', H0) => match cf f args' H0 with
   | some (v, H1) => bif ZlK v && Ziq H1 then
     let back := fun j => match nth L j with | some b => some b | none => some (nid + (j - L.length))
     some (Zmp back v, L.zip (H1.map (Zhk back)), (H1.drop L.length).map (Zhk back)) else none
   | none => none
def Zeh (H : Zn) : List (Nat × Blk) → Zn
 | [] => H
 | (b, blk) :: r => Zeh (Zfd H b blk) r
def Zud (e : Env) (H H' : Zn) : List Opd → Bool
 | [] => true
 | x :: xs => (match x.val e with
  | .ptr b o => (match Zdm H 1 false (.ptr b o), Zdm H' 1 false (.ptr b o) with | some (.mp i), some (.mp j) => Nat.beq i j | _, _ => false)
  | _ => false) && Zud e H H' xs
def Zjf : V → Option (Nat × List V)
 | .fn f caps => some (f, caps)
 | .d (.fn f caps) => some (f, ZcK caps)
 | _ => none
def Zgb (Γ : Ctx) (v : V) (f : Nat) (caps : List V) : Bool := v.isD && (!(Nat.ble (Γ.mode f) 1) && !caps.isEmpty)
def Zlu (tab : List (Nat × Nat)) (t : Nat) : Option Nat :=
 match tab with
 | [] => none
 | (a, f) :: r => bif Nat.beq a t then some f else Zlu r t
def opE (Γ : Ctx) (cf : Zbn) (e : Env) (nid : Nat) (H : Zn) : O → Res
 | .mov x => Zc1 (x.val e)
 | .pick c a b => match c.val e with | .d (.bool t) => Zc1 (bif t then a.val e else b.val e) | _ => none
 | .alloc z => some (.ptr nid 0, [], [.cells z.cells])
 | .box x => bif (x.val e).okb then some (.ptr nid 0, [], [.cells (x.val e).cells]) else none
 | .build z ps => match Zqr z (ps.map fun (o, s, x) => (o, s, x.val e)) with | some cs => Zc1 (ZrM cs) | none => none
 | .bslice sz z len ps => bif Nat.beq len 0 then Zc1 (.nilsl sz) else match Zpx H sz (List.replicate len (match z with | [x] => x | z => .agg z)) (ps.map fun (i, x) => (i, x.val e)) with
  | some (xs, ks) => some (.sl nid sz, ks.map (fun j => (j, .dead)), [.arr sz xs])
  | none => none
 | .load n ag x => match Zdm H n ag (x.val e) with | some v => Zc1 v | none => none
 | .store n x v => ZlS H n (x.val e) (v.val e)
 | .nilck x => match Zsx H (x.val e) with | some v => Zc1 v | none => none
 | .bin op x y => match Znf op (x.val e) (y.val e) with | some r => Zc1 (.d r) | none => none
 | .eqv ks neg x y => match x.val e, y.val e with
  | .d a, .d b => (match Zdn ks a with | true => (match eqD a b with | some r => Zc1 (.d (.bool (bif neg then !r else r))) | none => none) | false => none)
  | _, _ => none
 | .un op x => match unE op (x.val e) with | some r => Zc1 (.d r) | none => none
 | .conv k x => match x.val e with | .d (.int _ n) => Zc1 (.d (.int k (k.wrap n))) | _ => none
 | .mkfn f caps => Zc1 (match caps with | [] => .d (.fn f []) | caps => .fn f (vals e caps))
 | .mkslice sz z n c => match n.val e, c.val e with
  | .d (.int _ n), .d (.int _ c) => bif decide (0 ≤ n) && decide (n ≤ lim) && decide (n == c) then
    some (.sl nid sz, [], [.arr sz (List.replicate n.toNat (match z with | [x] => x | z => .agg z))]) else none
  | _, _ => none
 | .slice sz x lo hi mx => match ZhB H sz (x.val e) (lo.map (·.val e)) (hi.map (·.val e)) (mx.map (·.val e)) with | some v => Zc1 v | none => none
 | .faddr off x => match Zjs H off (x.val e) with | some v => Zc1 v | none => none
 | .field off n ag x => match x.val e with
  | .d (.agg cs) => (match Zc8 n ag (ZcK (cs.drop off)) with | some v => Zc1 v | none => none)
  | .agg cs => (match Zc8 n ag (cs.drop off) with | some v => Zc1 v | none => none)
  | _ => none
 | .iaddr sz x i => match Zhq H sz (x.val e) (i.val e) with | some v => Zc1 v | none => none
 | .index len sz ag x i => match ZlZ len sz ag (x.val e) (i.val e) with | some v => Zc1 v | none => none
 | .indexS x i => match Zjr (x.val e) (i.val e) with | some v => Zc1 v | none => none
 | .iaddrA len sz x i => match Zf0 H len sz (x.val e) (i.val e) with | some v => Zc1 v | none => none
 | .len x => match ZqY H (x.val e) with | some r => Zc1 (.d r) | none => none
 | .append sz x y => Zk3 nid H sz (x.val e) (y.val e)
 | .appendD sz x y => match ZhP H sz (x.val e) (y.val e) with | some v => Zc1 v | none => none
 | .mx b xs => match mxE b (vals e xs) with | some r => Zc1 (.d r) | none => none
 | .extract x i => match x.val e with
  | .tup vs => (match nth vs i with | some v => Zc1 v | none => none)
  | .d (.tup vs) => (match nth vs i with | some v => Zc1 (.d v) | none => none)
  | _ => none
 | .mkif t x => match fr H 6 (x.val e) with | some (y, []) => Zc1 (.d (.iface t y)) | _ => none
 | .call f args => ZfZ Γ cf nid H f (vals e args)
 | .callv x args => match Zjf (x.val e) with
  | some (f, caps) => (match Zgb Γ (x.val e) f caps with | true => none | false => ZfZ Γ cf nid H f (vals e args ++ caps))
  | none => none
 | .invoke tab x args => match x.val e with
  | .d (.iface t y) => (match Zlu tab t with | some f => ZfZ Γ cf nid H f (.d y :: vals e args) | none => none)
  | _ => none
 | .mkmap => some (.mp nid, [], [.mp []])
 | .mapset ks m k v => ZmI H ks (m.val e) (k.val e) (v.val e)
 | .mapget ks z m k => match Zk7 H ks z (m.val e) (k.val e) with | some r => Zc1 (.d r) | none => none
 | .panic => none
 | .callk f args _ => ZfZ Γ cf nid H f (vals e args)
 | .spec id args => match H, ZkQ (vals e args) with | [], some l => (match Zlr id l with | some r => Zc1 (.d r) | none => none) | _, _ => none
 | .nilq x => match elems H (x.val e) with | some xs => (match Nat.blt 0 xs.length with | true => Zc1 (.d (.bool false)) | false => none) | none => none
def ZoH (e : Env) (dst : Option Nat) (v : V) : Env := match dst with | some i => e.set i v | none => e
def ZfG (e : Env) (g : Option (Nat × Bool)) : Option Bool :=
 match g with
 | none => some true
 | some (s, b) => match e s with | .d (.bool t) => some (t == b) | .d (.tup []) => some false | _ => none
def ZhJ (Γ : Ctx) (cf : Zbn) : List Op1 → Env → Zn → Option (Env × Zn)
 | [], e, H => some (e, H)
 | o :: r, e, H => match ZfG e o.guard with
  | some true => (match opE Γ cf e H.length H o.op with
   | some (v, up, nw) => ZhJ Γ cf r (ZoH e o.dst v) (Zeh H up ++ nw)
   | none => none)
  | some false => ZhJ Γ cf r (ZoH e o.dst (.d (.tup []))) H
  | none => none
def Zwi (H : Zn) (b : Nat) : Nat → Zn
 | 0 => H
 | n + 1 => Zwi (Zfd H b .dead) (b + 1) n
def Zf3 (H : Zn) (pos : List (Nat × Nat)) : List Nat → Zn
 | [] => H
 | i :: r => match nth pos i with | some (b, n) => Zf3 (Zwi H b n) pos r | none => Zf3 H pos r
def Zs8 : List (Nat × Blk) → Bool
 | [] => true
 | (_, .dead) :: _ => false
 | _ :: r => Zs8 r
def ZoM (eff : Nat) (up : List (Nat × Blk)) (nw : List Blk) : Bool := match eff with | 0 => up.isEmpty | 1 => up.isEmpty && nw.isEmpty | 3 => Zs8 up && nw.isEmpty | _ => true
def ZAN (e : Env) (H : Zn) (up : List (Nat × Blk)) : O → Bool
 | .callk _ _ chk => Zud e H (Zeh H up) chk
 | _ => true
def ZoE (e : Env) (H : Zn) (o : Op1) (up : List (Nat × Blk)) (nw : List Blk) : Bool := ZoM o.eff up nw && ZAN e H up o.op
def Zfw (Γ : Ctx) (cf : Zbn) (pos : List (Nat × Nat)) : List Op1 → Env → Zn → Option (Env × Zn)
 | [], e, H => some (e, H)
 | o :: r, e, H => match ZfG e o.guard with
  | some true => (match opE Γ cf e H.length (Zf3 H pos o.mask) o.op with
   | some (v, up, nw) => bif ZoE e H o up nw then Zfw Γ cf (pos ++ [(H.length, nw.length)]) r (ZoH e o.dst v) (Zeh H up ++ nw) else none
   | _ => none)
  | some false => Zfw Γ cf (pos ++ [(H.length, 0)]) r (ZoH e o.dst (.d (.tup []))) H
  | none => none
inductive Lp where
 | again (vs : List V) (H : Zn)
 | done (x : Ex) (vs : List V) (H : Zn)
abbrev St := Env × Zn
def Zc5 (F : List V → Zn → Option Lp) : Nat → List V → Zn → Option (Ex × List V × Zn)
 | 0, _, _ => none
 | n + 1, vs, H => match F vs H with
  | some (.again vs H) => Zc5 F n vs H
  | some (.done x vs H) => some (x, vs, H)
  | none => none
def ZeA (k : Nat) (live outs : List Nat) (r : Option (Ex × Env × Zn)) : Option Lp :=
 match r with
 | some (.normal, e, H) => (match ZnV k (live.map e) H with | some (vs, H) => some (.again vs H) | none => none)
 | some (x, e, H) => (match extract k (outs.map e) H with | some (_, vs, H) => some (.done x vs H) | none => none)
 | none => none
def Zal (Γ : Ctx) (cf : Zbn) (It : (List V → Zn → Option Lp) → List V → Zn → Option (Ex × List V × Zn)) (k : Nat) : C → Env → Zn → Option (Ex × Env × Zn)
 | .skip, e, H => some (.normal, e, H)
 | .ret, e, H => some (.ret, e, H)
 | .exit id, e, H => some (.exit id, e, H)
 | .seq a b, e, H => match Zal Γ cf It k a e H with
  | some (.normal, e, H) => Zal Γ cf It k b e H
  | r => r
 | .cond x a b, e, H => match x.val e with
  | .d (.bool t) => (match t with | true => Zal Γ cf It k a e H | false => Zal Γ cf It k b e H)
  | _ => none
 | .block id a, e, H => match Zal Γ cf It k a e H with
  | some (.exit j, e, H) => bif Nat.beq j id then some (.normal, e, H) else some (.exit j, e, H)
  | r => r
 | .loop live outs a, e, H => match ZnV k (live.map e) H with
  | some (vs, H) => (match It (fun vs H => ZeA k live outs (Zal Γ cf It k a (Zec live vs) H)) vs H with
   | some (x, vs, H) => some (x, Zec outs vs, H)
   | none => none)
  | none => none
 | .ops l, e, H => match ZhJ Γ cf l e H with | some (e, H) => some (.normal, e, H) | none => none
 | .draw l, e, H => match Zfw Γ cf [] l e H with | some (e, H) => some (.normal, e, H) | none => none
def ZeI (i : Nat) : List V → Env
 | [] => env0
 | v :: vs => (ZeI (i + 1) vs).set i v
def Zlf (e : Env) (H : Zn) : List (Nat × Option (Nat × Bool)) → Option (List V)
 | [] => some []
 | (i, none) :: r => match Zlf e H r with | some l => some (e i :: l) | none => none
 | (i, some (n, ag)) :: r => match Zdm H n ag (e i), Zlf e H r with | some v, some l => some (v :: l) | _, _ => none
def Zg3 : List V → V
 | [v] => v
 | l => Zt3 l
def Zj4 (Γ : Ctx) (cf : Zbn) (It : (List V → Zn → Option Lp) → List V → Zn → Option (Ex × List V × Zn)) (f : Nat) (args : List V) (H : Zn) : Option (V × Zn) :=
 match Γ.code f with
 | none => none
 | some fn =>
  bif Nat.beq args.length fn.nargs then
   match Zal Γ cf It H.length fn.body (ZeI 0 args) H with
   | some (.exit _, _, _) => none
   | some (_, e, H1) => (match Zlf e H1 fn.res with
    | some l => (match extract H.length [Zg3 l] H1 with | some (_, [v], H2) => some (v, H2) | _ => none)
    | none => none)
   | none => none
  else none
def evN (Γ : Ctx) : Nat → Zbn
 | 0 => fun _ _ _ => none
 | n + 1 => Zj4 Γ (evN Γ n) (fun F => Zc5 F n)
end Go.Proofs.YtnmbdjkbaihicaaDoorE
namespace Go.Proofs.YtnmbdjkbaihicaaDoor
open Go Go.Proofs.YtnmbdjkbaihicaaDoorE
def ZAC : List D := [.int .u8 0, .int .u8 1, .int .u8 28, .int .u8 2, .int .u8 29, .int .u8 14, .int .u8 24, .int .u8 3, .int .u8 30, .int .u8 22, .int .u8 20, .int .u8 15, .int .u8 25, .int .u8 17, .int .u8 4, .int .u8 8, .int .u8 31, .int .u8 27, .int .u8 13, .int .u8 23, .int .u8 21, .int .u8 19, .int .u8 16, .int .u8 7, .int .u8 26, .int .u8 12, .int .u8 18, .int .u8 6, .int .u8 11, .int .u8 5, .int .u8 10, .int .u8 9]
def Zv8 : List D := [.int .u8 0, .int .u8 1, .int .u8 56, .int .u8 2, .int .u8 57, .int .u8 49, .int .u8 28, .int .u8 3, .int .u8 61, .int .u8 58, .int .u8 42, .int .u8 50, .int .u8 38, .int .u8 29, .int .u8 17, .int .u8 4, .int .u8 62, .int .u8 47, .int .u8 59, .int .u8 36, .int .u8 45, .int .u8 43, .int .u8 51, .int .u8 22, .int .u8 53, .int .u8 39, .int .u8 33, .int .u8 30, .int .u8 24, .int .u8 18, .int .u8 12, .int .u8 5, .int .u8 63, .int .u8 55, .int .u8 48, .int .u8 27, .int .u8 60, .int .u8 41, .int .u8 37, .int .u8 16, .int .u8 46, .int .u8 35, .int .u8 44, .int .u8 21, .int .u8 52, .int .u8 32, .int .u8 23, .int .u8 11, .int .u8 54, .int .u8 26, .int .u8 40, .int .u8 15, .int .u8 34, .int .u8 20, .int .u8 31, .int .u8 10, .int .u8 25, .int .u8 14, .int .u8 19, .int .u8 9, .int .u8 13, .int .u8 8, .int .u8 7, .int .u8 6]
def ir6 : C := .seq (.ops [oB 5 (.box (.t 0)), oB 7 (.box (.t 2)), oB 8 (.box (.t 3)), oB 10 (.mov bF)]) (.seq (.seq (.ops [oB 17 (.call 22 []), oB 18 (.un .not (.t 17)), oB 19 (.mov (.t 18)), oG 20 (.load 6 true (.t 5)) 19 false, oG 21 (.mov (.t 1)) 19 false, oG 22 (.load 2 true (.t 7)) 19 false, oG 23 (.call 23 [(.t 20), (.t 21), (.t 22)]) 19 false, oG 24 (.un .not (.t 23)) 19 false, oB 25 (.pick (.t 19) bT (.t 24)), oB 26 (.mov (.t 25)), oG 27 (.load 6 true (.t 5)) 26 false, oG 28 (.mov (.t 1)) 26 false, oG 29 (.load 2 true (.t 8)) 26 false, oG 30 (.call 23 [(.t 27), (.t 28), (.t 29)]) 26 false, oG 31 (.un .not (.t 30)) 26 false, oB 32 (.pick (.t 26) bT (.t 31))]) (.cond (.t 32) (.seq (.ops [oB 33 (.call 22 []), oB 10 (.mov (.t 33))]) (.ret)) (.skip))) (.seq (.draw [oB 35 (.load 6 true (.t 5)), oB 36 (.call 15 [(.t 35)]), oM 37 (.bslice 1 [.int .i64 0] 0 []) [0, 1], oM 38 (.mov (.t 1)) [0, 1, 2], oB 39 (.append 1 (.t 37) (.t 38)), oM 40 (.load 2 true (.t 7)) [0, 1, 2, 3, 4], oB 41 (.call 25 [(.t 40)]), oM 42 (.mov (.t 4)) [0, 1, 2, 3, 4, 5, 6], oB 43 (.call 24 [(.t 36), (.t 39), (.t 41), (.t 42)]), oB 34 (.mov (.t 43)), oB 44 (.extract (.t 34) 0), oM 45 (.extract (.t 34) 1) [10], oM 11 (.alloc (.agg [(.nilsl 1), (.nilsl 1)])) [0, 1, 2, 3, 4, 5, 6, 7, 8, 9, 10, 11], ⟨none, .store 2 (.t 11) (.t 44), none, [], 3⟩, oB 12 (.mov (.t 45))]) (.seq (.ops [oB 47 (.load 6 true (.t 5)), oB 48 (.mov (.t 1)), oB 49 (.load 2 true (.t 7)), oB 50 (.mov (.t 4)), oB 51 (.call 26 [(.t 47), (.t 48), (.t 49), (.t 50)]), oB 46 (.mov (.t 51)), oB 52 (.extract (.t 46) 0), oB 53 (.extract (.t 46) 1), oB 13 (.alloc (.agg [(.nilsl 1), (.nilsl 1)])), oA (.store 2 (.t 13) (.t 52)), oB 14 (.mov (.t 53))]) (.seq (.ops [oB 54 (.load 6 true (.t 5)), oB 55 (.load 2 true (.t 7)), oB 56 (.call 27 [(.t 54), (.t 55)]), oB 15 (.mov (.t 56))]) (.seq (.draw [oB 57 (.load 6 true (.t 5)), oB 58 (.call 15 [(.t 57)]), oM 59 (.load 2 true (.t 7)) [0, 1], oB 60 (.call 25 [(.t 59)]), oB 61 (.call 28 [(.t 58), (.t 60)]), oB 16 (.mov (.t 61))]) (.seq (.seq (.ops [oB 62 (.mov (.t 15)), oB 63 (.bin .eql (.t 62) (iN 0)), oB 64 (.mov (.t 63)), oG 65 (.mov (.t 16)) 64 true, oG 66 (.load 6 true (.t 5)) 64 true, oG 67 (.load 2 true (.t 7)) 64 true, oG 68 (.call 29 [(.t 66), (.t 67)]) 64 true, oG 69 (.call 20 [(.t 65), (.t 68)]) 64 true, oG 70 (.un .not (.t 69)) 64 true, oB 71 (.pick (.t 64) (.t 70) bF), oB 72 (.mov (.t 71)), oG 73 (.mov (.t 15)) 72 false, oG 74 (.bin .neq (.t 73) (iN 0)) 72 false, oG 75 (.mov (.t 74)) 72 false, oG 76 (.mov (.t 16)) 75 true, oG 77 (.len (.t 76)) 75 true, oG 78 (.bin .gtr (.t 77) (iN 0)) 75 true, oG 79 (.pick (.t 75) (.t 78) bF) 72 false, oB 80 (.pick (.t 72) bT (.t 79))]) (.cond (.t 80) (.seq (.ops [oB 10 (.mov bF)]) (.ret)) (.skip))) (.seq (.draw [oB 81 (.load 2 true (.t 11)), oM 82 (.load 2 true (.t 13)) [0], oB 83 (.call 30 [(.t 81), (.t 82)]), oB 84 (.mov (.t 83)), oG 85 (.mov (.t 12)) 84 true, ⟨some 86, .mov (.t 14), some (84, true), [4], 0⟩, oG 87 (.bin .eql (.t 85) (.t 86)) 84 true, oB 88 (.pick (.t 84) (.t 87) bF), oB 89 (.mov (.t 88)), oG 90 (.load 6 true (.t 5)) 89 true, oG 91 (.call 15 [(.t 90)]) 89 true, ⟨some 92, .load 2 true (.t 7), some (89, true), [9, 10], 0⟩, oG 93 (.call 25 [(.t 92)]) 89 true, oG 94 (.call 31 [(.t 91), (.t 93)]) 89 true, ⟨some 95, .mov (.t 15), some (89, true), [9, 10, 11, 12, 13], 0⟩, oG 96 (.bin .eql (.t 94) (.t 95)) 89 true, oB 97 (.pick (.t 89) (.t 96) bF), oB 98 (.mov (.t 97)), oG 99 (.load 2 true (.t 7)) 98 true, oG 100 (.call 25 [(.t 99)]) 98 true, ⟨some 101, .load 2 true (.t 8), some (98, true), [18, 19], 0⟩, oG 102 (.call 25 [(.t 101)]) 98 true, oG 103 (.call 32 [(.t 100), (.t 102)]) 98 true, ⟨some 104, .load 2 true (.t 7), some (98, true), [18, 19, 20, 21, 22], 0⟩, ⟨some 105, .load 2 true (.t 8), some (98, true), [18, 19, 20, 21, 22, 23], 0⟩, oG 106 (.call 30 [(.t 104), (.t 105)]) 98 true, oG 107 (.eqv [true] false (.t 103) (.t 106)) 98 true, oB 108 (.pick (.t 98) (.t 107) bF), oB 10 (.mov (.t 108))]) (.ret))))))))
def fn6 : FnI := ⟨5, ir6, [(10, none)]⟩
def Zxd : C := .seq (.seq (.ops [oB 22 (.mov (.t 4)), oB 23 (.faddr 5 (.t 1)), oB 24 (.load 1 false (.t 23)), oB 25 (.len (.t 24)), oB 26 (.bin .lss (.t 22) (.t 25))]) (.cond (.t 26) (.skip) (.exit 0))) (.seq (.block 1 (.draw [oB 29 (.faddr 5 (.t 3)), oB 30 (.load 1 false (.t 29)), oM 31 (.bslice 1 [.int .i64 0] 0 []) [0, 1], oM 32 (.faddr 5 (.t 1)) [0, 1, 2], oM 33 (.load 1 false (.t 32)) [0, 1, 2], oM 34 (.mov (.t 4)) [0, 1, 2, 3, 4], oM 35 (.iaddr 2 (.t 33) (.t 34)) [0, 1, 2], oM 36 (.faddr 0 (.t 35)) [0, 1, 2], oM 37 (.load 1 false (.t 36)) [0, 1, 2], oM 38 (.appendD 1 (.t 31) (.t 37)) [0, 1], oM 39 (.bslice 1 [.int .i64 0] 0 []) [0, 1, 2, 3, 4, 5, 6, 7, 8, 9], oM 40 (.faddr 5 (.t 1)) [0, 1, 2, 3, 4, 5, 6, 7, 8, 9, 10], oM 41 (.load 1 false (.t 40)) [0, 1, 2, 3, 4, 5, 6, 7, 8, 9, 10], oM 42 (.mov (.t 4)) [0, 1, 2, 3, 4, 5, 6, 7, 8, 9, 10, 11, 12], oM 43 (.iaddr 2 (.t 41) (.t 42)) [0, 1, 2, 3, 4, 5, 6, 7, 8, 9, 10], oM 44 (.faddr 1 (.t 43)) [0, 1, 2, 3, 4, 5, 6, 7, 8, 9, 10], oM 45 (.load 1 false (.t 44)) [0, 1, 2, 3, 4, 5, 6, 7, 8, 9, 10], oM 46 (.appendD 1 (.t 39) (.t 45)) [0, 1], oM 47 (.build [(.nilsl 1), (.nilsl 1)] [(0, 1, (.t 38)), (1, 1, (.t 46))]) [0, 1], oM 48 (.bslice 2 [.list true [], .list true []] 1 [(0, (.t 47))]) [0, 1], ⟨some 49, .append 2 (.t 30) (.t 48), none, [], 4⟩, oB 50 (.faddr 5 (.t 3)), ⟨none, .store 1 (.t 50) (.t 49), none, [], 3⟩])) (.ops [oB 27 (.mov (.t 4)), oB 28 (.bin .add (.t 27) (iN 1)), oB 4 (.mov (.t 28))]))
def ZCQ : C := .seq (.ops [oB 1 (.box (.t 0)), oB 2 (.alloc (.agg [(.d (.int .i64 0)), (.d (.int .i64 0)), (.nilsl 3), (.nilsl 2), (.nilsl 3), (.nilsl 2)]))]) (.seq (.draw [oB 5 (.faddr 0 (.t 1)), oB 6 (.load 1 false (.t 5)), oM 7 (.faddr 1 (.t 1)) [0, 1], oM 8 (.load 1 false (.t 7)) [0, 1], oM 9 (.bslice 3 [.int .i64 0, .int .i64 0, .int .i64 0] 0 []) [0, 1, 2, 3], oM 10 (.faddr 2 (.t 1)) [0, 1, 2, 3, 4], oM 11 (.load 1 false (.t 10)) [0, 1, 2, 3, 4], oM 12 (.append 3 (.t 9) (.t 11)) [0, 1, 2, 3], oM 13 (.bslice 2 [.int .i64 0, .int .i64 0] 0 []) [0, 1, 2, 3, 4, 5, 6, 7], oM 14 (.faddr 3 (.t 1)) [0, 1, 2, 3, 4, 5, 6, 7, 8], oM 15 (.load 1 false (.t 14)) [0, 1, 2, 3, 4, 5, 6, 7, 8], oM 16 (.append 2 (.t 13) (.t 15)) [0, 1, 2, 3], oM 17 (.bslice 3 [.int .i64 0, .int .i64 0, .int .i64 0] 0 []) [0, 1, 2, 3, 4, 5, 6, 7, 8, 9, 10, 11], oM 18 (.faddr 4 (.t 1)) [0, 1, 2, 3, 4, 5, 6, 7, 8, 9, 10, 11, 12], oM 19 (.load 1 false (.t 18)) [0, 1, 2, 3, 4, 5, 6, 7, 8, 9, 10, 11, 12], oM 20 (.append 3 (.t 17) (.t 19)) [0, 1, 2, 3], oB 21 (.build [(.d (.int .i64 0)), (.d (.int .i64 0)), (.nilsl 3), (.nilsl 2), (.nilsl 3), (.nilsl 2)] [(0, 1, (.t 6)), (1, 1, (.t 8)), (2, 1, (.t 12)), (3, 1, (.t 16)), (4, 1, (.t 20))]), oM 3 (.alloc (.agg [(.d (.int .i64 0)), (.d (.int .i64 0)), (.nilsl 3), (.nilsl 2), (.nilsl 3), (.nilsl 2)])) [0, 1, 2, 3, 4, 5, 6, 7, 8, 9, 10, 11, 12, 13, 14, 15, 16], ⟨none, .store 6 (.t 3) (.t 21), none, [], 3⟩]) (.seq (.seq (.ops [oB 4 (.mov (iN 0))]) (.block 0 (.loop [1, 2, 3, 4] [2, 3] Zxd))) (.seq (.ops [oB 51 (.load 6 true (.t 3)), oA (.store 6 (.t 2) (.t 51))]) (.ret))))
def Zz3 : FnI := ⟨1, ZCQ, [(2, some (6, true))]⟩
def Zv3 : C := .seq (.seq (.ops [oB 11 (.mov (.t 5)), oB 12 (.mov (.t 0)), oB 13 (.len (.t 12)), oB 14 (.bin .lss (.t 11) (.t 13))]) (.cond (.t 14) (.skip) (.exit 0))) (.seq (.block 1 (.seq (.draw [oB 17 (.mov (.t 0)), oM 18 (.mov (.t 5)) [0], oB 19 (.iaddr 1 (.t 17) (.t 18)), oB 20 (.load 1 false (.t 19)), oM 21 (.mov (.t 1)) [0, 1, 2, 3], oM 22 (.mov (.t 5)) [0, 1, 2, 3, 4], oM 23 (.iaddr 1 (.t 21) (.t 22)) [0, 1, 2, 3], oM 24 (.load 1 false (.t 23)) [0, 1, 2, 3], oB 25 (.bin .neq (.t 20) (.t 24))]) (.cond (.t 25) (.seq (.ops [oB 4 (.mov bF)]) (.ret)) (.skip)))) (.ops [oB 15 (.mov (.t 5)), oB 16 (.bin .add (.t 15) (iN 1)), oB 5 (.mov (.t 16))]))
def ZDy : C := .seq (.ops [oB 4 (.mov bF)]) (.seq (.seq (.ops [oB 6 (.mov (.t 0)), oB 7 (.len (.t 6)), oB 8 (.mov (.t 1)), oB 9 (.len (.t 8)), oB 10 (.bin .neq (.t 7) (.t 9))]) (.cond (.t 10) (.seq (.ops [oB 4 (.mov bF)]) (.ret)) (.skip))) (.seq (.seq (.ops [oB 5 (.mov (iN 0))]) (.block 0 (.loop [0, 1, 5] [4] Zv3))) (.seq (.ops [oB 4 (.mov bT)]) (.ret))))
def Zzh : FnI := ⟨2, ZDy, [(4, none)]⟩
def ZDQ : C := .seq (.ops [oB 0 (.mov bF)]) (.seq (.ops [oB 11 (.build [(.d (.int .i64 0)), (.d (.int .i64 0)), (.d (.int .i64 0))] [(0, 1, (iN 1)), (1, 1, (iN 3)), (2, 1, (iN 1))]), oB 12 (.build [(.d (.int .i64 0)), (.d (.int .i64 0)), (.d (.int .i64 0))] [(0, 1, (iN 2)), (2, 1, (iN 2))]), oB 13 (.bslice 3 [.int .i64 0, .int .i64 0, .int .i64 0] 2 [(0, (.t 11)), (1, (.t 12))]), oB 14 (.build [(.d (.int .i64 0)), (.d (.int .i64 0)), (.d (.int .i64 0))] [(0, 1, (iN 0)), (1, 1, (iN 1)), (2, 1, (iN 1))]), oB 15 (.bslice 3 [.int .i64 0, .int .i64 0, .int .i64 0] 1 [(0, (.t 14))]), oB 16 (.build [(.d (.int .i64 0)), (.d (.int .i64 0)), (.nilsl 3), (.nilsl 2), (.nilsl 3), (.nilsl 2)] [(0, 1, (iN 8)), (1, 1, (iN 8)), (2, 1, (.t 13)), (4, 1, (.t 15))]), oB 1 (.alloc (.agg [(.d (.int .i64 0)), (.d (.int .i64 0)), (.nilsl 3), (.nilsl 2), (.nilsl 3), (.nilsl 2)])), oA (.store 6 (.t 1) (.t 16))]) (.seq (.ops [oB 18 (.load 6 true (.t 1)), oB 19 (.call 35 [(.t 18)]), oB 17 (.mov (.t 19)), oB 20 (.extract (.t 17) 0), oB 21 (.extract (.t 17) 1), oB 2 (.alloc (.agg [(.nilsl 1), (.nilsl 1)])), oA (.store 2 (.t 2) (.t 20)), oB 3 (.mov (.t 21))]) (.seq (.ops [oB 23 (.load 6 true (.t 1)), oB 24 (.load 2 true (.t 2)), oB 25 (.call 24 [(.t 23), (.c (.nilsl 1)), (.t 24), (iN 1)]), oB 22 (.mov (.t 25)), oB 26 (.extract (.t 22) 0), oB 27 (.extract (.t 22) 1), oA (.store 2 (.t 2) (.t 26)), oB 4 (.mov (.t 27))]) (.seq (.ops [oB 29 (.load 6 true (.t 1)), oB 30 (.load 2 true (.t 2)), oB 31 (.call 24 [(.t 29), (.c (.nilsl 1)), (.t 30), (iN 1)]), oB 28 (.mov (.t 31)), oB 32 (.extract (.t 28) 0), oB 33 (.extract (.t 28) 1), oB 5 (.alloc (.agg [(.nilsl 1), (.nilsl 1)])), oA (.store 2 (.t 5) (.t 32)), oB 6 (.mov (.t 33))]) (.seq (.ops [oB 35 (.load 6 true (.t 1)), oB 36 (.load 2 true (.t 2)), oB 37 (.call 24 [(.t 35), (.c (.nilsl 1)), (.t 36), (iN 0)]), oB 34 (.mov (.t 37)), oB 38 (.extract (.t 34) 0), oB 39 (.extract (.t 34) 1), oB 7 (.alloc (.agg [(.nilsl 1), (.nilsl 1)])), oA (.store 2 (.t 7) (.t 38)), oB 8 (.mov (.t 39))]) (.seq (.ops [oB 41 (.load 6 true (.t 1)), oB 42 (.call 33 [(.t 41), (.c (.nilsl 1))]), oB 40 (.mov (.t 42)), oB 43 (.extract (.t 40) 0), oB 44 (.extract (.t 40) 1), oB 9 (.mov (.t 43)), oB 10 (.mov (.t 44))]) (.seq (.ops [oB 45 (.mov (.t 3)), oB 46 (.bin .eql (.t 45) (iN 0)), oB 47 (.mov (.t 46)), oG 48 (.mov (.t 4)) 47 true, oG 49 (.bin .eql (.t 48) (iN 0)) 47 true, oB 50 (.pick (.t 47) (.t 49) bF), oB 51 (.mov (.t 50)), oG 52 (.faddr 0 (.t 2)) 51 true, oG 53 (.load 1 false (.t 52)) 51 true, oG 54 (.len (.t 53)) 51 true, oG 55 (.bin .eql (.t 54) (iN 2)) 51 true, oB 56 (.pick (.t 51) (.t 55) bF), oB 57 (.mov (.t 56)), oG 58 (.faddr 0 (.t 2)) 57 true, oG 59 (.load 1 false (.t 58)) 57 true, oG 60 (.iaddr 1 (.t 59) (iN 1)) 57 true, oG 61 (.load 1 false (.t 60)) 57 true, oG 62 (.bin .eql (.t 61) (iN 1)) 57 true, oB 63 (.pick (.t 57) (.t 62) bF), oB 64 (.mov (.t 63)), oG 65 (.mov (.t 6)) 64 true, oG 66 (.bin .eql (.t 65) (iN 93)) 64 true, oB 67 (.pick (.t 64) (.t 66) bF), oB 68 (.mov (.t 67)), oG 69 (.mov (.t 8)) 68 true, oG 70 (.bin .eql (.t 69) (iN 0)) 68 true, oB 71 (.pick (.t 68) (.t 70) bF), oB 72 (.mov (.t 71)), oG 73 (.faddr 1 (.t 7)) 72 true, oG 74 (.load 1 false (.t 73)) 72 true, oG 75 (.len (.t 74)) 72 true, oG 76 (.bin .eql (.t 75) (iN 2)) 72 true, oB 77 (.pick (.t 72) (.t 76) bF), oB 78 (.mov (.t 77)), oG 79 (.faddr 1 (.t 7)) 78 true, oG 80 (.load 1 false (.t 79)) 78 true, oG 81 (.iaddr 1 (.t 80) (iN 0)) 78 true, oG 82 (.load 1 false (.t 81)) 78 true, oG 83 (.bin .eql (.t 82) (iN 3)) 78 true, oB 84 (.pick (.t 78) (.t 83) bF), oB 85 (.mov (.t 84)), oG 86 (.mov (.t 10)) 85 true, oG 87 (.bin .eql (.t 86) (iN 0)) 85 true, oB 88 (.pick (.t 85) (.t 87) bF), oB 89 (.mov (.t 88)), oG 90 (.mov (.t 9)) 89 true, oG 91 (.bslice 1 [.int .i64 0] 2 [(0, (iN 3)), (1, (iN 3))]) 89 true, oG 92 (.call 20 [(.t 90), (.t 91)]) 89 true, oB 93 (.pick (.t 89) (.t 92) bF), oB 94 (.mov (.t 93)), oG 95 (.load 6 true (.t 1)) 94 true, oG 96 (.load 2 true (.t 2)) 94 true, oG 97 (.call 28 [(.t 95), (.t 96)]) 94 true, oG 98 (.bslice 1 [.int .i64 0] 1 [(0, (iN 0))]) 94 true, oG 99 (.call 20 [(.t 97), (.t 98)]) 94 true, oB 100 (.pick (.t 94) (.t 99) bF), oB 101 (.mov (.t 100)), oG 102 (.load 6 true (.t 1)) 101 true, oG 103 (.load 2 true (.t 7)) 101 true, oG 104 (.call 31 [(.t 102), (.t 103)]) 101 true, oG 105 (.bin .eql (.t 104) (iN 0)) 101 true, oB 106 (.pick (.t 101) (.t 105) bF), oB 107 (.mov (.t 106)), oG 108 (.load 2 true (.t 7)) 107 true, oG 109 (.load 2 true (.t 7)) 107 true, oG 110 (.call 32 [(.t 108), (.t 109)]) 107 true, oB 111 (.pick (.t 107) (.t 110) bF), oB 112 (.mov (.t 111)), oG 113 (.load 2 true (.t 2)) 112 true, oG 114 (.load 2 true (.t 7)) 112 true, oG 115 (.call 32 [(.t 113), (.t 114)]) 112 true, oG 116 (.un .not (.t 115)) 112 true, oB 117 (.pick (.t 112) (.t 116) bF), oB 0 (.mov (.t 117))]) (.ret))))))))
def ZBL : FnI := ⟨0, ZDQ, [(0, none)]⟩
def ZDU : C := .seq (.ops [oB 3 (.box (.t 0)), oB 5 (.box (.t 2)), oB 6 (.mov bF)]) (.seq (.ops [oB 7 (.load 6 true (.t 3)), oB 8 (.call 40 [(.t 7)]), oB 9 (.mov (.t 8)), oG 10 (.mov (.t 1)) 9 true, oG 11 (.len (.t 10)) 9 true, oG 12 (.bin .leq (.t 11) (iN 60)) 9 true, oB 13 (.pick (.t 9) (.t 12) bF), oB 14 (.mov (.t 13)), oG 15 (.faddr 0 (.t 5)) 14 true, oG 16 (.load 1 false (.t 15)) 14 true, oG 17 (.len (.t 16)) 14 true, oG 18 (.bin .leq (.t 17) (iN 20)) 14 true, oB 19 (.pick (.t 14) (.t 18) bF), oB 20 (.mov (.t 19)), oG 21 (.faddr 1 (.t 5)) 20 true, oG 22 (.load 1 false (.t 21)) 20 true, oG 23 (.len (.t 22)) 20 true, oG 24 (.bin .leq (.t 23) (iN 20)) 20 true, oB 25 (.pick (.t 20) (.t 24) bF), oB 6 (.mov (.t 25))]) (.ret))
def ZAa : FnI := ⟨3, ZDU, [(6, none)]⟩
def ZB8 : C := .seq (.ops [oB 4 (.box (.t 0)), oB 6 (.box (.t 2)), oB 8 (.alloc (.agg [(.nilsl 1), (.nilsl 1)])), oB 9 (.mov (iN 0))]) (.seq (.ops [oB 11 (.load 6 true (.t 4)), oB 12 (.load 2 true (.t 6)), oB 13 (.call 31 [(.t 11), (.t 12)]), oB 10 (.mov (.t 13))]) (.seq (.block 0 (.seq (.block 4 (.seq (.block 3 (.seq (.block 2 (.seq (.block 1 (.seq (.seq (.seq (.ops [oB 15 (.mov (.t 10)), oB 16 (.bin .eql (.t 15) (iN 0)), oB 17 (.mov (.t 16)), oG 18 (.mov (.t 3)) 17 true, oG 19 (.bin .lss (.t 18) (iN 0)) 17 true, oG 20 (.mov (.t 19)) 17 true, oG 21 (.mov (.t 3)) 20 false, oG 22 (.faddr 2 (.t 4)) 20 false, oG 23 (.load 1 false (.t 22)) 20 false, oG 24 (.len (.t 23)) 20 false, oG 25 (.bin .geq (.t 21) (.t 24)) 20 false, oG 26 (.pick (.t 20) bT (.t 25)) 17 true, oB 27 (.pick (.t 17) (.t 26) bF), oB 14 (.mov (.t 27))]) (.cond (.t 14) (.exit 1) (.skip))) (.seq (.seq (.ops [oB 29 (.mov (.t 10)), oB 30 (.bin .neq (.t 29) (iN 0)), oB 28 (.mov (.t 30))]) (.cond (.t 28) (.exit 2) (.skip))) (.seq (.seq (.ops [oB 32 (.load 6 true (.t 4)), oB 33 (.load 2 true (.t 6)), oB 34 (.mov (.t 3)), oB 35 (.call 46 [(.t 32), (.t 33), (.t 34)]), oB 31 (.mov (.t 35))]) (.cond (.t 31) (.exit 3) (.skip))) (.seq (.ops [oB 37 (.load 6 true (.t 4)), oB 38 (.load 2 true (.t 6)), oB 39 (.mov (.t 3)), oB 40 (.call 47 [(.t 37), (.t 38), (.t 39)]), oB 41 (.un .not (.t 40)), oB 36 (.mov (.t 41))]) (.cond (.t 36) (.exit 4) (.skip)))))) (.exit 0))) (.ops [oB 10 (.mov (iN 91))]))) (.seq (.seq (.ops [oB 42 (.build [(.nilsl 1), (.nilsl 1)] []), oB 43 (.mov (.t 10)), oA (.store 2 (.t 8) (.t 42)), oB 9 (.mov (.t 43))]) (.ret)) (.exit 0)))) (.seq (.seq (.ops [oB 44 (.build [(.nilsl 1), (.nilsl 1)] []), oA (.store 2 (.t 8) (.t 44)), oB 9 (.mov (iN 92))]) (.ret)) (.exit 0)))) (.seq (.seq (.ops [oB 45 (.build [(.nilsl 1), (.nilsl 1)] []), oA (.store 2 (.t 8) (.t 45)), oB 9 (.mov (iN 93))]) (.ret)) (.exit 0)))) (.seq (.ops [oB 46 (.load 6 true (.t 4)), oB 47 (.mov (.t 1)), oB 48 (.load 2 true (.t 6)), oB 49 (.mov (.t 3)), oB 50 (.call 48 [(.t 46), (.t 47), (.t 48), (.t 49)]), oA (.store 2 (.t 8) (.t 50)), oB 9 (.mov (iN 0))]) (.ret))))
def Zz8 : FnI := ⟨4, ZB8, [(8, some (2, true)), (9, none)]⟩
def ZDI : C := .seq (.ops [oB 1 (.box (.t 0)), oB 2 (.alloc (.agg [(.nilsl 1), (.nilsl 1)]))]) (.seq (.draw [oB 3 (.bslice 1 [.int .i64 0] 0 []), oM 4 (.faddr 0 (.t 1)) [0], oM 5 (.load 1 false (.t 4)) [0], oB 6 (.append 1 (.t 3) (.t 5)), oM 7 (.bslice 1 [.int .i64 0] 0 []) [0, 1, 2, 3], oM 8 (.faddr 1 (.t 1)) [0, 1, 2, 3, 4], oM 9 (.load 1 false (.t 8)) [0, 1, 2, 3, 4], oB 10 (.append 1 (.t 7) (.t 9)), oB 11 (.build [(.nilsl 1), (.nilsl 1)] [(0, 1, (.t 6)), (1, 1, (.t 10))]), ⟨none, .store 2 (.t 2) (.t 11), none, [], 3⟩]) (.ret))
def Zz0 : FnI := ⟨1, ZDI, [(2, some (2, true))]⟩
def ZDx : C := .seq (.ops [oB 4 (.box (.t 0)), oB 6 (.box (.t 2)), oB 8 (.alloc (.agg [(.nilsl 1), (.nilsl 1)])), oB 9 (.mov (iN 0))]) (.seq (.ops [oB 11 (.load 6 true (.t 4)), oB 12 (.load 2 true (.t 6)), oB 13 (.call 27 [(.t 11), (.t 12)]), oB 10 (.mov (.t 13))]) (.seq (.seq (.ops [oB 14 (.mov (.t 10)), oB 15 (.bin .neq (.t 14) (iN 0))]) (.cond (.t 15) (.seq (.ops [oB 16 (.build [(.nilsl 1), (.nilsl 1)] []), oB 17 (.mov (.t 10)), oA (.store 2 (.t 8) (.t 16)), oB 9 (.mov (.t 17))]) (.ret)) (.skip))) (.seq (.seq (.ops [oB 18 (.load 6 true (.t 4)), oB 19 (.mov (.t 3)), oB 20 (.call 49 [(.t 18), (.t 19)]), oB 21 (.un .not (.t 20))]) (.cond (.t 21) (.seq (.ops [oB 22 (.build [(.nilsl 1), (.nilsl 1)] []), oA (.store 2 (.t 8) (.t 22)), oB 9 (.mov (iN 91))]) (.ret)) (.skip))) (.seq (.seq (.ops [oB 23 (.load 6 true (.t 4)), oB 24 (.load 2 true (.t 6)), oB 25 (.mov (.t 3)), oB 26 (.call 50 [(.t 23), (.t 24), (.t 25)])]) (.cond (.t 26) (.seq (.ops [oB 27 (.build [(.nilsl 1), (.nilsl 1)] []), oA (.store 2 (.t 8) (.t 27)), oB 9 (.mov (iN 92))]) (.ret)) (.skip))) (.seq (.seq (.ops [oB 28 (.load 6 true (.t 4)), oB 29 (.load 2 true (.t 6)), oB 30 (.mov (.t 3)), oB 31 (.call 51 [(.t 28), (.t 29), (.t 30)]), oB 32 (.un .not (.t 31))]) (.cond (.t 32) (.seq (.ops [oB 33 (.build [(.nilsl 1), (.nilsl 1)] []), oA (.store 2 (.t 8) (.t 33)), oB 9 (.mov (iN 93))]) (.ret)) (.skip))) (.seq (.ops [oB 34 (.load 6 true (.t 4)), oB 35 (.mov (.t 1)), oB 36 (.load 2 true (.t 6)), oB 37 (.mov (.t 3)), oB 38 (.call 52 [(.t 34), (.t 35), (.t 36), (.t 37)]), oA (.store 2 (.t 8) (.t 38)), oB 9 (.mov (iN 0))]) (.ret)))))))
def ZzN : FnI := ⟨4, ZDx, [(8, some (2, true)), (9, none)]⟩
def ZwJ : C := .seq (.seq (.ops [oB 30 (.mov (.t 6)), oB 31 (.faddr 0 (.t 3)), oB 32 (.load 1 false (.t 31)), oB 33 (.len (.t 32)), oB 34 (.bin .lss (.t 30) (.t 33))]) (.cond (.t 34) (.skip) (.exit 0))) (.seq (.block 1 (.seq (.draw [oB 37 (.faddr 0 (.t 3)), oB 38 (.load 1 false (.t 37)), oM 39 (.mov (.t 6)) [0, 1], oB 40 (.iaddr 1 (.t 38) (.t 39)), oB 41 (.load 1 false (.t 40)), oB 42 (.bin .lss (.t 41) (iN 0)), oB 43 (.mov (.t 42)), oG 44 (.faddr 0 (.t 3)) 43 false, oG 45 (.load 1 false (.t 44)) 43 false, ⟨some 46, .mov (.t 6), some (43, false), [7, 8], 0⟩, oG 47 (.iaddr 1 (.t 45) (.t 46)) 43 false, oG 48 (.load 1 false (.t 47)) 43 false, ⟨some 49, .faddr 2 (.t 2), some (43, false), [7, 8, 9, 10, 11], 0⟩, ⟨some 50, .load 1 false (.t 49), some (43, false), [7, 8, 9, 10, 11], 0⟩, ⟨some 51, .mov (.t 6), some (43, false), [7, 8, 9, 10, 11, 12, 13], 0⟩, ⟨some 52, .iaddr 3 (.t 50) (.t 51), some (43, false), [7, 8, 9, 10, 11], 0⟩, ⟨some 53, .faddr 2 (.t 52), some (43, false), [7, 8, 9, 10, 11], 0⟩, ⟨some 54, .load 1 false (.t 53), some (43, false), [7, 8, 9, 10, 11], 0⟩, oG 55 (.bin .gtr (.t 48) (.t 54)) 43 false, oB 56 (.pick (.t 43) bT (.t 55))]) (.cond (.t 56) (.seq (.ops [oB 4 (.mov (iN 90))]) (.ret)) (.skip)))) (.ops [oB 35 (.mov (.t 6)), oB 36 (.bin .add (.t 35) (iN 1)), oB 6 (.mov (.t 36))]))
def Zv9 : C := .seq (.seq (.ops [oB 57 (.mov (.t 7)), oB 58 (.faddr 0 (.t 3)), oB 59 (.load 1 false (.t 58)), oB 60 (.len (.t 59)), oB 61 (.bin .lss (.t 57) (.t 60))]) (.cond (.t 61) (.skip) (.exit 2))) (.seq (.block 3 (.seq (.ops [oB 64 (.faddr 0 (.t 3)), oB 65 (.load 1 false (.t 64)), oB 66 (.mov (.t 7)), oB 67 (.iaddr 1 (.t 65) (.t 66)), oB 68 (.load 1 false (.t 67)), oB 69 (.bin .gtr (.t 68) (iN 0)), oB 70 (.mov (.t 69)), oG 71 (.load 6 true (.t 2)) 70 true, oG 72 (.load 2 true (.t 3)) 70 true, oG 73 (.mov (.t 7)) 70 true, oG 74 (.call 53 [(.t 71), (.t 72), (.t 73)]) 70 true, oG 75 (.un .not (.t 74)) 70 true, oB 76 (.pick (.t 70) (.t 75) bF)]) (.cond (.t 76) (.seq (.ops [oB 4 (.mov (iN 90))]) (.ret)) (.skip)))) (.ops [oB 62 (.mov (.t 7)), oB 63 (.bin .add (.t 62) (iN 1)), oB 7 (.mov (.t 63))]))
def Zww : C := .seq (.seq (.ops [oB 77 (.mov (.t 8)), oB 78 (.faddr 4 (.t 2)), oB 79 (.load 1 false (.t 78)), oB 80 (.len (.t 79)), oB 81 (.bin .lss (.t 77) (.t 80))]) (.cond (.t 81) (.skip) (.exit 4))) (.seq (.block 5 (.seq (.draw [oB 84 (.faddr 0 (.t 3)), oB 85 (.load 1 false (.t 84)), oM 86 (.faddr 4 (.t 2)) [0, 1], oM 87 (.load 1 false (.t 86)) [0, 1], oM 88 (.mov (.t 8)) [0, 1, 2, 3], oM 89 (.iaddr 3 (.t 87) (.t 88)) [0, 1], oM 90 (.faddr 1 (.t 89)) [0, 1], oM 91 (.load 1 false (.t 90)) [0, 1], oB 92 (.iaddr 1 (.t 85) (.t 91)), oB 93 (.load 1 false (.t 92)), oM 94 (.faddr 4 (.t 2)) [0, 1, 2, 3, 4, 5, 6, 7, 8, 9], oM 95 (.load 1 false (.t 94)) [0, 1, 2, 3, 4, 5, 6, 7, 8, 9], oM 96 (.mov (.t 8)) [0, 1, 2, 3, 4, 5, 6, 7, 8, 9, 10, 11], oM 97 (.iaddr 3 (.t 95) (.t 96)) [0, 1, 2, 3, 4, 5, 6, 7, 8, 9], oM 98 (.faddr 2 (.t 97)) [0, 1, 2, 3, 4, 5, 6, 7, 8, 9], oM 99 (.load 1 false (.t 98)) [0, 1, 2, 3, 4, 5, 6, 7, 8, 9], oB 100 (.bin .gtr (.t 93) (.t 99)), oB 101 (.mov (.t 100)), oG 102 (.load 6 true (.t 2)) 101 true, ⟨some 103, .load 2 true (.t 3), some (101, true), [18], 0⟩, ⟨some 104, .faddr 4 (.t 2), some (101, true), [18, 19], 0⟩, ⟨some 105, .load 1 false (.t 104), some (101, true), [18, 19], 0⟩, ⟨some 106, .mov (.t 8), some (101, true), [18, 19, 20, 21], 0⟩, ⟨some 107, .iaddr 3 (.t 105) (.t 106), some (101, true), [18, 19], 0⟩, ⟨some 108, .faddr 0 (.t 107), some (101, true), [18, 19], 0⟩, ⟨some 109, .load 1 false (.t 108), some (101, true), [18, 19], 0⟩, oG 110 (.call 50 [(.t 102), (.t 103), (.t 109)]) 101 true, oG 111 (.un .not (.t 110)) 101 true, oB 112 (.pick (.t 101) (.t 111) bF)]) (.cond (.t 112) (.seq (.ops [oB 4 (.mov (iN 90))]) (.ret)) (.skip)))) (.ops [oB 82 (.mov (.t 8)), oB 83 (.bin .add (.t 82) (iN 1)), oB 8 (.mov (.t 83))]))
def ZCH : C := .seq (.ops [oB 2 (.box (.t 0)), oB 3 (.box (.t 1)), oB 4 (.mov (iN 0))]) (.seq (.ops [oB 9 (.load 6 true (.t 2)), oB 10 (.call 36 [(.t 9)]), oB 5 (.mov (.t 10))]) (.seq (.seq (.ops [oB 11 (.mov (.t 5)), oB 12 (.bin .neq (.t 11) (iN 0))]) (.cond (.t 12) (.seq (.ops [oB 13 (.mov (.t 5)), oB 4 (.mov (.t 13))]) (.ret)) (.skip))) (.seq (.seq (.ops [oB 14 (.faddr 0 (.t 3)), oB 15 (.load 1 false (.t 14)), oB 16 (.len (.t 15)), oB 17 (.faddr 2 (.t 2)), oB 18 (.load 1 false (.t 17)), oB 19 (.len (.t 18)), oB 20 (.bin .neq (.t 16) (.t 19)), oB 21 (.mov (.t 20)), oG 22 (.faddr 1 (.t 3)) 21 false, oG 23 (.load 1 false (.t 22)) 21 false, oG 24 (.len (.t 23)) 21 false, oG 25 (.faddr 2 (.t 2)) 21 false, oG 26 (.load 1 false (.t 25)) 21 false, oG 27 (.len (.t 26)) 21 false, oG 28 (.bin .neq (.t 24) (.t 27)) 21 false, oB 29 (.pick (.t 21) bT (.t 28))]) (.cond (.t 29) (.seq (.ops [oB 4 (.mov (iN 90))]) (.ret)) (.skip))) (.seq (.seq (.ops [oB 6 (.mov (iN 0))]) (.block 0 (.loop [2, 3, 6] [2, 3, 4] ZwJ))) (.seq (.seq (.ops [oB 7 (.mov (iN 0))]) (.block 2 (.loop [2, 3, 7] [2, 3, 4] Zv9))) (.seq (.seq (.ops [oB 8 (.mov (iN 0))]) (.block 4 (.loop [2, 3, 8] [4] Zww))) (.seq (.ops [oB 4 (.mov (iN 0))]) (.ret))))))))
def Zy6 : FnI := ⟨2, ZCH, [(4, none)]⟩
def ZD1 : C := .seq (.ops [oB 2 (.box (.t 0)), oB 3 (.box (.t 1)), oB 4 (.mov (.c (.nilsl 1)))]) (.seq (.seq (.ops [oB 5 (.load 6 true (.t 2)), oB 6 (.load 2 true (.t 3)), oB 7 (.call 31 [(.t 5), (.t 6)]), oB 8 (.bin .neq (.t 7) (iN 0))]) (.cond (.t 8) (.seq (.ops [oB 4 (.mov (.c (.nilsl 1)))]) (.ret)) (.skip))) (.seq (.ops [oB 9 (.load 6 true (.t 2)), oB 10 (.load 2 true (.t 3)), oB 11 (.call 54 [(.t 9), (.t 10)]), oB 4 (.mov (.t 11))]) (.ret)))
def ZzX : FnI := ⟨2, ZD1, [(4, none)]⟩
def ZwU : C := .seq (.seq (.ops [oB 8 (.mov (.t 6)), oB 9 (.faddr 2 (.t 2)), oB 10 (.load 1 false (.t 9)), oB 11 (.len (.t 10)), oB 12 (.bin .lss (.t 8) (.t 11))]) (.cond (.t 12) (.skip) (.exit 0))) (.seq (.block 1 (.seq (.ops [oB 15 (.load 6 true (.t 2)), oB 16 (.load 2 true (.t 3)), oB 17 (.mov (.t 6)), oB 18 (.call 51 [(.t 15), (.t 16), (.t 17)])]) (.cond (.t 18) (.ops [oB 19 (.mov (.t 5)), oB 20 (.mov (.t 6)), oB 21 (.bslice 1 [.int .i64 0] 1 [(0, (.t 20))]), oB 22 (.append 1 (.t 19) (.t 21)), oB 5 (.mov (.t 22))]) (.skip)))) (.ops [oB 13 (.mov (.t 6)), oB 14 (.bin .add (.t 13) (iN 1)), oB 6 (.mov (.t 14))]))
def ZDC : C := .seq (.ops [oB 2 (.box (.t 0)), oB 3 (.box (.t 1)), oB 4 (.mov (.c (.nilsl 1)))]) (.seq (.ops [oB 7 (.bslice 1 [.int .i64 0] 0 []), oB 5 (.mov (.t 7))]) (.seq (.seq (.ops [oB 6 (.mov (iN 0))]) (.block 0 (.loop [2, 3, 5, 6] [5] ZwU))) (.seq (.ops [oB 23 (.mov (.t 5)), oB 4 (.mov (.t 23))]) (.ret))))
def Zy1 : FnI := ⟨2, ZDC, [(4, none)]⟩
def ZCx : C := .seq (.ops [oB 2 (.box (.t 0)), oB 3 (.box (.t 1)), oB 4 (.mov bF)]) (.seq (.ops [oB 5 (.faddr 0 (.t 2)), oB 6 (.load 1 false (.t 5)), oB 7 (.faddr 0 (.t 3)), oB 8 (.load 1 false (.t 7)), oB 9 (.call 20 [(.t 6), (.t 8)]), oB 10 (.mov (.t 9)), oG 11 (.faddr 1 (.t 2)) 10 true, oG 12 (.load 1 false (.t 11)) 10 true, oG 13 (.faddr 1 (.t 3)) 10 true, oG 14 (.load 1 false (.t 13)) 10 true, oG 15 (.call 20 [(.t 12), (.t 14)]) 10 true, oB 16 (.pick (.t 10) (.t 15) bF), oB 4 (.mov (.t 16))]) (.ret))
def Zzl : FnI := ⟨2, ZCx, [(4, none)]⟩
def ZDr : C := .seq (.ops [oB 2 (.box (.t 0)), oB 3 (.box (.t 1)), oB 4 (.mov (iN 0))]) (.seq (.ops [oB 6 (.load 6 true (.t 2)), oB 7 (.call 55 [(.t 6)]), oB 5 (.mov (.t 7))]) (.seq (.seq (.ops [oB 8 (.mov (.t 5)), oB 9 (.bin .eql (.t 8) (iN 0)), oB 10 (.mov (.t 9)), oG 11 (.load 6 true (.t 2)) 10 true, oG 12 (.load 2 true (.t 3)) 10 true, oG 13 (.call 56 [(.t 11), (.t 12)]) 10 true, oG 14 (.un .not (.t 13)) 10 true, oB 15 (.pick (.t 10) (.t 14) bF)]) (.cond (.t 15) (.ops [oB 5 (.mov (iN 90))]) (.skip))) (.seq (.ops [oB 16 (.mov (.t 5)), oB 4 (.mov (.t 16))]) (.ret))))
def Zzu : FnI := ⟨2, ZDr, [(4, none)]⟩
def ZDF : C := .seq (.ops [oB 2 (.box (.t 0)), oB 3 (.box (.t 1)), oB 4 (.mov bF)]) (.seq (.ops [oB 5 (.faddr 0 (.t 2)), oB 6 (.load 1 false (.t 5)), oB 7 (.faddr 0 (.t 3)), oB 8 (.load 1 false (.t 7)), oB 9 (.call 57 [(.t 6), (.t 8)]), oB 10 (.mov (.t 9)), oG 11 (.faddr 1 (.t 2)) 10 true, oG 12 (.load 1 false (.t 11)) 10 true, oG 13 (.faddr 1 (.t 3)) 10 true, oG 14 (.load 1 false (.t 13)) 10 true, oG 15 (.call 57 [(.t 12), (.t 14)]) 10 true, oB 16 (.pick (.t 10) (.t 15) bF), oB 4 (.mov (.t 16))]) (.ret))
def Zz6 : FnI := ⟨2, ZDF, [(4, none)]⟩
def ZzA : C := .seq (.seq (.ops [oB 21 (.mov (.t 8)), oB 22 (.len (.t 21)), oB 23 (.bin .gtr (.t 22) (iN 0))]) (.cond (.t 23) (.skip) (.exit 0))) (.seq (.block 1 (.draw [oB 27 (.load 6 true (.t 2)), oM 28 (.mov (.t 1)) [0], oM 29 (.load 2 true (.t 6)) [0, 1], oM 30 (.mov (.t 8)) [0, 1, 2], oM 31 (.iaddr 1 (.t 30) (iN 0)) [0, 1, 2], oM 32 (.load 1 false (.t 31)) [0, 1, 2], oB 33 (.call 48 [(.t 27), (.t 28), (.t 29), (.t 32)]), ⟨none, .store 2 (.t 6) (.t 33), none, [], 3⟩])) (.ops [oB 24 (.load 6 true (.t 2)), oB 25 (.load 2 true (.t 6)), oB 26 (.call 54 [(.t 24), (.t 25)]), oB 8 (.mov (.t 26))]))
def ZzJ : C := .seq (.ops [oB 38 (.bin .lss (.t 37) (.t 36))]) (.seq (.cond (.t 38) (.skip) (.exit 2)) (.seq (.block 3 (.seq (.ops [oB 39 (.mov (.t 37)), oB 9 (.mov (.t 39))]) (.seq (.ops [oB 40 (.load 6 true (.t 2)), oB 41 (.load 2 true (.t 6)), oB 42 (.mov (.t 9)), oB 43 (.call 46 [(.t 40), (.t 41), (.t 42)]), oB 44 (.un .not (.t 43))]) (.cond (.t 44) (.seq (.ops [oB 4 (.mov (.c (.nilsl 1))), oB 5 (.mov (iN 94))]) (.ret)) (.skip))))) (.ops [oB 45 (.bin .add (.t 37) (iN 1)), oB 37 (.mov (.t 45))])))
def ZCr : C := .seq (.ops [oB 2 (.box (.t 0)), oB 4 (.mov (.c (.nilsl 1))), oB 5 (.mov (iN 0))]) (.seq (.ops [oB 11 (.load 6 true (.t 2)), oB 12 (.call 35 [(.t 11)]), oB 10 (.mov (.t 12)), oB 13 (.extract (.t 10) 0), oB 14 (.extract (.t 10) 1), oB 6 (.alloc (.agg [(.nilsl 1), (.nilsl 1)])), oA (.store 2 (.t 6) (.t 13)), oB 7 (.mov (.t 14))]) (.seq (.seq (.ops [oB 15 (.mov (.t 7)), oB 16 (.bin .neq (.t 15) (iN 0))]) (.cond (.t 16) (.seq (.ops [oB 17 (.mov (.t 7)), oB 4 (.mov (.c (.nilsl 1))), oB 5 (.mov (.t 17))]) (.ret)) (.skip))) (.seq (.seq (.ops [oB 18 (.load 6 true (.t 2)), oB 19 (.load 2 true (.t 6)), oB 20 (.call 54 [(.t 18), (.t 19)]), oB 8 (.mov (.t 20))]) (.block 0 (.loop [1, 2, 6, 8] [2, 6] ZzA))) (.seq (.seq (.ops [oB 34 (.faddr 2 (.t 2)), oB 35 (.load 1 false (.t 34)), oB 36 (.len (.t 35)), oB 37 (.mov (iN 0))]) (.block 2 (.loop [2, 6, 36, 37] [4, 5, 6] ZzJ))) (.seq (.ops [oB 46 (.faddr 1 (.t 6)), oB 47 (.load 1 false (.t 46)), oB 4 (.mov (.t 47)), oB 5 (.mov (iN 0))]) (.ret))))))
def ZBO : FnI := ⟨2, ZCr, [(4, none), (5, none)]⟩
def ZC6 : C := .seq (.ops [oB 1 (.box (.t 0)), oB 2 (.alloc (.agg [(.nilsl 1), (.nilsl 1)])), oB 3 (.mov (iN 0))]) (.seq (.seq (.ops [oB 5 (.load 6 true (.t 1)), oB 6 (.call 55 [(.t 5)]), oB 4 (.mov (.t 6))]) (.seq (.ops [oB 7 (.mov (.t 4)), oB 8 (.bin .neq (.t 7) (iN 0))]) (.cond (.t 8) (.seq (.ops [oB 9 (.build [(.nilsl 1), (.nilsl 1)] []), oB 10 (.mov (.t 4)), oA (.store 2 (.t 2) (.t 9)), oB 3 (.mov (.t 10))]) (.ret)) (.skip)))) (.seq (.draw [oB 11 (.faddr 2 (.t 1)), oB 12 (.load 1 false (.t 11)), oB 13 (.len (.t 12)), oB 14 (.mkslice 1 [.int .i64 0] (.t 13) (.t 13)), oM 15 (.faddr 2 (.t 1)) [0, 1, 2, 3], oM 16 (.load 1 false (.t 15)) [0, 1, 2, 3], oM 17 (.len (.t 16)) [0, 1, 2, 3], oM 18 (.mkslice 1 [.int .i64 0] (.t 17) (.t 17)) [0, 1, 2, 3], oB 19 (.build [(.nilsl 1), (.nilsl 1)] [(0, 1, (.t 14)), (1, 1, (.t 18))]), ⟨none, .store 2 (.t 2) (.t 19), none, [], 3⟩, oB 3 (.mov (iN 0))]) (.ret)))
def ZBM : FnI := ⟨1, ZC6, [(2, some (2, true)), (3, none)]⟩
def ZCT : C := .seq (.ops [oB 1 (.box (.t 0)), oB 2 (.mov (iN 0))]) (.seq (.seq (.ops [oB 3 (.faddr 2 (.t 1)), oB 4 (.load 1 false (.t 3)), oB 5 (.len (.t 4)), oB 6 (.bin .lss (.t 5) (iN 1)), oB 7 (.mov (.t 6)), oG 8 (.faddr 2 (.t 1)) 7 false, oG 9 (.load 1 false (.t 8)) 7 false, oG 10 (.len (.t 9)) 7 false, oG 11 (.bin .gtr (.t 10) (iN 16)) 7 false, oB 12 (.pick (.t 7) bT (.t 11)), oB 13 (.mov (.t 12)), oG 14 (.faddr 3 (.t 1)) 13 false, oG 15 (.load 1 false (.t 14)) 13 false, oG 16 (.len (.t 15)) 13 false, oG 17 (.bin .gtr (.t 16) (iN 48)) 13 false, oB 18 (.pick (.t 13) bT (.t 17)), oB 19 (.mov (.t 18)), oG 20 (.faddr 4 (.t 1)) 19 false, oG 21 (.load 1 false (.t 20)) 19 false, oG 22 (.len (.t 21)) 19 false, oG 23 (.bin .gtr (.t 22) (iN 16)) 19 false, oB 24 (.pick (.t 19) bT (.t 23)), oB 25 (.mov (.t 24)), oG 26 (.faddr 5 (.t 1)) 25 false, oG 27 (.load 1 false (.t 26)) 25 false, oG 28 (.len (.t 27)) 25 false, oG 29 (.bin .gtr (.t 28) (iN 4)) 25 false, oB 30 (.pick (.t 25) bT (.t 29))]) (.cond (.t 30) (.seq (.ops [oB 2 (.mov (iN 50))]) (.ret)) (.skip))) (.seq (.seq (.ops [oB 31 (.load 6 true (.t 1)), oB 32 (.call 58 [(.t 31)]), oB 33 (.un .not (.t 32))]) (.cond (.t 33) (.seq (.ops [oB 2 (.mov (iN 51))]) (.ret)) (.skip))) (.seq (.seq (.ops [oB 34 (.load 6 true (.t 1)), oB 35 (.call 59 [(.t 34)]), oB 36 (.un .not (.t 35))]) (.cond (.t 36) (.seq (.ops [oB 2 (.mov (iN 52))]) (.ret)) (.skip))) (.seq (.seq (.ops [oB 37 (.load 6 true (.t 1)), oB 38 (.call 60 [(.t 37)]), oB 39 (.un .not (.t 38))]) (.cond (.t 39) (.seq (.ops [oB 2 (.mov (iN 53))]) (.ret)) (.skip))) (.seq (.seq (.ops [oB 40 (.load 6 true (.t 1)), oB 41 (.call 61 [(.t 40)]), oB 42 (.un .not (.t 41))]) (.cond (.t 42) (.seq (.ops [oB 2 (.mov (iN 54))]) (.ret)) (.skip))) (.seq (.seq (.ops [oB 43 (.load 6 true (.t 1)), oB 44 (.call 62 [(.t 43)]), oB 45 (.un .not (.t 44))]) (.cond (.t 45) (.seq (.ops [oB 2 (.mov (iN 55))]) (.ret)) (.skip))) (.seq (.ops [oB 2 (.mov (iN 0))]) (.ret))))))))
def Zzt : FnI := ⟨1, ZCT, [(2, none)]⟩
def ZvT : C := .seq (.ops [oB 22 (.bin .lss (.t 21) (.t 20))]) (.seq (.cond (.t 22) (.skip) (.exit 1)) (.seq (.block 2 (.seq (.ops [oB 23 (.mov (.t 21)), oB 24 (.iaddr 1 (.t 19) (.t 21)), oB 25 (.load 1 false (.t 24)), oB 8 (.mov (.t 23)), oB 9 (.mov (.t 25))]) (.ops [oB 26 (.mov (.t 7)), oB 27 (.mov (.t 8)), oB 28 (.mov (.t 9)), oA (.mapset [false] (.t 26) (.t 27) (.t 28))]))) (.ops [oB 29 (.bin .add (.t 21) (iN 1)), oB 21 (.mov (.t 29))])))
def Zpz : C := .seq (.ops [oB 63 (.bin .lss (.t 62) (.t 61))]) (.seq (.cond (.t 63) (.skip) (.exit 3)) (.seq (.block 4 (.seq (.ops [oB 64 (.iaddr 1 (.t 60) (.t 62)), oB 65 (.load 1 false (.t 64)), oB 13 (.mov (.t 65))]) (.draw [oB 66 (.faddr 1 (.t 10)), oB 67 (.load 1 false (.t 66)), oM 68 (.mov (.t 11)) [0, 1], oM 69 (.mov (.t 13)) [0, 1, 2], oM 70 (.call 64 [(.t 69)]) [0, 1, 2], oB 71 (.callv (.t 67) [(.t 68), (.t 70)]), oB 11 (.mov (.t 71))]))) (.ops [oB 72 (.bin .add (.t 62) (iN 1)), oB 62 (.mov (.t 72))])))
def ZDH : C := .seq (.ops [oB 3 (.box (.t 0)), oB 6 (.mov (iN 0))]) (.seq (.block 0 (.seq (.ops [oB 15 (.faddr 0 (.t 3)), oB 16 (.load 1 false (.t 15)), oB 17 (.bin .eql (.t 16) (iN 0)), oB 14 (.mov (.t 17))]) (.cond (.t 14) (.seq (.ops [oB 18 .mkmap, oB 7 (.mov (.t 18))]) (.seq (.seq (.ops [oB 19 (.mov (.t 1)), oB 20 (.len (.t 19)), oB 21 (.mov (iN 0))]) (.block 1 (.loop [3, 7, 19, 20, 21] [3, 7] ZvT))) (.seq (.ops [oB 30 (.mov (.t 7)), oB 31 (.faddr 1 (.t 3)), oB 32 (.load 1 false (.t 31)), oB 33 (.mapget [false] (.int .i64 0) (.t 30) (.t 32)), oB 34 (.call 64 [(.t 33)]), oB 35 (.conv .i64 (.t 34)), oB 6 (.mov (.t 35))]) (.ret)))) (.seq (.ops [oB 37 (.faddr 0 (.t 3)), oB 38 (.load 1 false (.t 37)), oB 39 (.bin .eql (.t 38) (iN 1)), oB 36 (.mov (.t 39))]) (.cond (.t 36) (.seq (.ops [oB 40 (.faddr 1 (.t 3)), oB 41 (.load 1 false (.t 40)), oB 42 (.call 64 [(.t 41)]), oB 43 (.conv .i64 (.t 42)), oB 6 (.mov (.t 43))]) (.ret)) (.seq (.ops [oB 45 (.faddr 0 (.t 3)), oB 46 (.load 1 false (.t 45)), oB 47 (.bin .lss (.t 46) (iN 0)), oB 48 (.mov (.t 47)), oG 49 (.faddr 0 (.t 3)) 48 false, oG 50 (.load 1 false (.t 49)) 48 false, oG 51 (.bin .gtr (.t 50) (iN 5)) 48 false, oB 52 (.pick (.t 48) bT (.t 51)), oB 44 (.mov (.t 52))]) (.cond (.t 44) (.seq (.ops [oB 6 (.mov (iN 0))]) (.ret)) (.skip)))))))) (.seq (.draw [oB 53 (.call 65 []), oM 54 (.faddr 0 (.t 3)) [0], oM 55 (.load 1 false (.t 54)) [0], oM 56 (.bin .sub (.t 55) (iN 2)) [0], oB 57 (.index 4 2 true (.t 53) (.t 56)), oM 10 (.alloc (.d (.agg [.int .u32 0, .nilfn]))) [0, 1, 2, 3, 4], ⟨none, .store 2 (.t 10) (.t 57), none, [], 3⟩]) (.seq (.ops [oB 58 (.faddr 0 (.t 10)), oB 59 (.load 1 false (.t 58)), oB 11 (.mov (.t 59))]) (.seq (.seq (.ops [oB 60 (.mov (.t 2)), oB 61 (.len (.t 60)), oB 62 (.mov (iN 0))]) (.block 3 (.loop [10, 11, 60, 61, 62] [11] Zpz))) (.seq (.ops [oB 73 (.mov (.t 11)), oB 74 (.conv .i64 (.t 73)), oB 6 (.mov (.t 74))]) (.ret))))))
def Zzw : FnI := ⟨3, ZDH, [(6, none)]⟩
def Zwv : C := .seq (.seq (.ops [oB 4 (.mov (.t 3)), oB 5 (.faddr 5 (.t 1)), oB 6 (.load 1 false (.t 5)), oB 7 (.len (.t 6)), oB 8 (.bin .lss (.t 4) (.t 7)), oB 9 (.mov (.t 8)), oG 10 (.mov (.t 3)) 9 true, oG 11 (.bin .lss (.t 10) (iN 9)) 9 true, oB 12 (.pick (.t 9) (.t 11) bF)]) (.cond (.t 12) (.skip) (.exit 0))) (.seq (.block 1 (.seq (.ops [oB 15 (.faddr 5 (.t 1)), oB 16 (.load 1 false (.t 15)), oB 17 (.mov (.t 3)), oB 18 (.iaddr 2 (.t 16) (.t 17)), oB 19 (.faddr 0 (.t 18)), oB 20 (.load 1 false (.t 19)), oB 21 (.len (.t 20)), oB 22 (.bin .gtr (.t 21) (iN 20)), oB 23 (.mov (.t 22)), oG 24 (.faddr 5 (.t 1)) 23 false, oG 25 (.load 1 false (.t 24)) 23 false, oG 26 (.mov (.t 3)) 23 false, oG 27 (.iaddr 2 (.t 25) (.t 26)) 23 false, oG 28 (.faddr 1 (.t 27)) 23 false, oG 29 (.load 1 false (.t 28)) 23 false, oG 30 (.len (.t 29)) 23 false, oG 31 (.bin .gtr (.t 30) (iN 20)) 23 false, oB 32 (.pick (.t 23) bT (.t 31))]) (.cond (.t 32) (.seq (.ops [oB 2 (.mov bF)]) (.ret)) (.skip)))) (.ops [oB 13 (.mov (.t 3)), oB 14 (.bin .add (.t 13) (iN 1)), oB 3 (.mov (.t 14))]))
def ZCh : C := .seq (.ops [oB 1 (.box (.t 0)), oB 2 (.mov bF)]) (.seq (.seq (.ops [oB 3 (.mov (iN 0))]) (.block 0 (.loop [1, 3] [1, 2] Zwv))) (.seq (.ops [oB 33 (.faddr 2 (.t 1)), oB 34 (.load 1 false (.t 33)), oB 35 (.len (.t 34)), oB 36 (.bin .leq (.t 35) (iN 20)), oB 37 (.mov (.t 36)), oG 38 (.faddr 3 (.t 1)) 37 true, oG 39 (.load 1 false (.t 38)) 37 true, oG 40 (.len (.t 39)) 37 true, oG 41 (.bin .leq (.t 40) (iN 60)) 37 true, oB 42 (.pick (.t 37) (.t 41) bF), oB 43 (.mov (.t 42)), oG 44 (.faddr 4 (.t 1)) 43 true, oG 45 (.load 1 false (.t 44)) 43 true, oG 46 (.len (.t 45)) 43 true, oG 47 (.bin .leq (.t 46) (iN 20)) 43 true, oB 48 (.pick (.t 43) (.t 47) bF), oB 49 (.mov (.t 48)), oG 50 (.faddr 5 (.t 1)) 49 true, oG 51 (.load 1 false (.t 50)) 49 true, oG 52 (.len (.t 51)) 49 true, oG 53 (.bin .leq (.t 52) (iN 8)) 49 true, oB 54 (.pick (.t 49) (.t 53) bF), oB 2 (.mov (.t 54))]) (.ret)))
def ZAe : FnI := ⟨1, ZCh, [(2, none)]⟩
def ZCn : C := .seq (.ops [oB 3 (.box (.t 0)), oB 4 (.box (.t 1)), oB 6 (.mov bF)]) (.seq (.draw [oB 7 (.faddr 0 (.t 4)), oB 8 (.load 1 false (.t 7)), oM 9 (.mov (.t 2)) [0, 1], oB 10 (.iaddr 1 (.t 8) (.t 9)), oB 11 (.load 1 false (.t 10)), oM 12 (.faddr 2 (.t 3)) [0, 1, 2, 3, 4], oM 13 (.load 1 false (.t 12)) [0, 1, 2, 3, 4], oM 14 (.mov (.t 2)) [0, 1, 2, 3, 4, 5, 6], oM 15 (.iaddr 3 (.t 13) (.t 14)) [0, 1, 2, 3, 4], oM 16 (.faddr 2 (.t 15)) [0, 1, 2, 3, 4], oM 17 (.load 1 false (.t 16)) [0, 1, 2, 3, 4], oB 18 (.bin .eql (.t 11) (.t 17)), oB 6 (.mov (.t 18))]) (.ret))
def ZyL : FnI := ⟨3, ZCn, [(6, none)]⟩
def ZsT : C := .seq (.ops [oB 33 (.bin .lss (.t 32) (.t 31))]) (.seq (.cond (.t 33) (.skip) (.exit 0)) (.seq (.block 1 (.seq (.ops [oB 34 (.iaddr 3 (.t 30) (.t 32)), oB 35 (.load 3 true (.t 34)), oB 9 (.alloc (.d (.agg [.int .i64 0, .int .i64 0, .int .i64 0]))), oA (.store 3 (.t 9) (.t 35))]) (.seq (.draw [oB 36 (.faddr 1 (.t 9)), oB 37 (.load 1 false (.t 36)), oM 38 (.mov (.t 2)) [0, 1], oB 39 (.bin .eql (.t 37) (.t 38)), oB 40 (.mov (.t 39)), oG 41 (.faddr 2 (.t 9)) 40 true, oG 42 (.load 1 false (.t 41)) 40 true, ⟨some 43, .faddr 0 (.t 4), some (40, true), [5, 6], 0⟩, ⟨some 44, .load 1 false (.t 43), some (40, true), [5, 6], 0⟩, ⟨some 45, .mov (.t 2), some (40, true), [5, 6, 7, 8], 0⟩, ⟨some 46, .iaddr 1 (.t 44) (.t 45), some (40, true), [5, 6], 0⟩, ⟨some 47, .load 1 false (.t 46), some (40, true), [5, 6], 0⟩, oG 48 (.bin .eql (.t 42) (.t 47)) 40 true, oB 49 (.pick (.t 40) (.t 48) bF)]) (.cond (.t 49) (.seq (.ops [oB 50 (.load 6 true (.t 3)), oB 51 (.load 2 true (.t 4)), oB 52 (.faddr 0 (.t 9)), oB 53 (.load 1 false (.t 52)), oB 54 (.call 46 [(.t 50), (.t 51), (.t 53)]), oB 7 (.mov (.t 54))]) (.exit 0)) (.skip))))) (.ops [oB 55 (.bin .add (.t 32) (iN 1)), oB 32 (.mov (.t 55))])))
def ZB6 : C := .seq (.ops [oB 3 (.box (.t 0)), oB 4 (.box (.t 1)), oB 6 (.mov bF)]) (.seq (.seq (.ops [oB 10 (.load 6 true (.t 3)), oB 11 (.load 2 true (.t 4)), oB 12 (.mov (.t 2)), oB 13 (.call 46 [(.t 10), (.t 11), (.t 12)]), oB 14 (.mov (.t 13)), oG 15 (.faddr 0 (.t 4)) 14 false, oG 16 (.load 1 false (.t 15)) 14 false, oG 17 (.mov (.t 2)) 14 false, oG 18 (.iaddr 1 (.t 16) (.t 17)) 14 false, oG 19 (.load 1 false (.t 18)) 14 false, oG 20 (.bin .eql (.t 19) (iN 0)) 14 false, oG 21 (.mov (.t 20)) 14 false, oG 22 (.load 6 true (.t 3)) 21 true, oG 23 (.load 2 true (.t 4)) 21 true, oG 24 (.mov (.t 2)) 21 true, oG 25 (.call 78 [(.t 22), (.t 23), (.t 24)]) 21 true, oG 26 (.un .not (.t 25)) 21 true, oG 27 (.pick (.t 21) (.t 26) bF) 14 false, oB 28 (.pick (.t 14) bT (.t 27))]) (.cond (.t 28) (.seq (.ops [oB 6 (.mov bF)]) (.ret)) (.skip))) (.seq (.ops [oB 7 (.mov bT)]) (.seq (.skip) (.seq (.seq (.ops [oB 29 (.faddr 4 (.t 3)), oB 30 (.load 1 false (.t 29)), oB 31 (.len (.t 30)), oB 32 (.mov (iN 0))]) (.block 0 (.loop [2, 3, 4, 7, 30, 31, 32] [7] ZsT))) (.seq (.ops [oB 56 (.mov (.t 7)), oB 6 (.mov (.t 56))]) (.ret))))))
def ZzZ : FnI := ⟨3, ZB6, [(6, none)]⟩
def Zxb : C := .seq (.ops [oB 35 (.bin .lss (.t 34) (.t 33))]) (.seq (.cond (.t 35) (.skip) (.exit 0)) (.seq (.block 1 (.seq (.ops [oB 36 (.iaddr 1 (.t 32) (.t 34)), oB 37 (.load 1 false (.t 36)), oB 11 (.mov (.t 37))]) (.ops [oB 38 (.mov (.t 9)), oB 39 (.faddr 1 (.t 6)), oB 40 (.load 1 false (.t 39)), oB 41 (.mov (.t 11)), oB 42 (.iaddr 1 (.t 40) (.t 41)), oB 43 (.load 1 false (.t 42)), oB 44 (.bslice 1 [.int .i64 0] 1 [(0, (.t 43))]), oB 45 (.append 1 (.t 38) (.t 44)), oB 9 (.mov (.t 45))]))) (.ops [oB 46 (.bin .add (.t 34) (iN 1)), oB 34 (.mov (.t 46))])))
def ZCi : C := .seq (.ops [oB 4 (.box (.t 0)), oB 6 (.box (.t 2)), oB 8 (.alloc (.agg [(.nilsl 1), (.nilsl 1)]))]) (.seq (.draw [oB 12 (.faddr 0 (.t 6)), oB 13 (.load 1 false (.t 12)), oB 14 (.call 74 [(.t 13)]), oM 15 (.faddr 1 (.t 6)) [0, 1, 2], oM 16 (.load 1 false (.t 15)) [0, 1, 2], oB 17 (.call 74 [(.t 16)]), oB 18 (.build [(.nilsl 1), (.nilsl 1)] [(0, 1, (.t 14)), (1, 1, (.t 17))]), ⟨none, .store 2 (.t 6) (.t 18), none, [], 3⟩]) (.seq (.ops [oB 19 (.faddr 0 (.t 6)), oB 20 (.load 1 false (.t 19)), oB 21 (.mov (.t 3)), oB 22 (.iaddr 1 (.t 20) (.t 21)), oB 23 (.load 1 false (.t 22)), oB 24 (.bin .add (.t 23) (iN 1)), oB 25 (.iaddr 1 (.t 20) (.t 21)), oA (.store 1 (.t 25) (.t 24))]) (.seq (.seq (.ops [oB 26 (.load 6 true (.t 4)), oB 27 (.load 2 true (.t 6)), oB 28 (.mov (.t 3)), oB 29 (.call 46 [(.t 26), (.t 27), (.t 28)])]) (.cond (.t 29) (.seq (.ops [oB 9 (.mov (.c (.nilsl 1)))]) (.seq (.seq (.ops [oB 30 (.load 6 true (.t 4)), oB 31 (.mov (.t 3)), oB 32 (.call 76 [(.t 30), (.t 31)]), oB 33 (.len (.t 32)), oB 34 (.mov (iN 0))]) (.block 0 (.loop [1, 3, 4, 6, 8, 9, 32, 33, 34] [1, 3, 4, 6, 8, 9] Zxb))) (.draw [oB 47 (.faddr 1 (.t 6)), oB 48 (.load 1 false (.t 47)), oM 49 (.mov (.t 3)) [0, 1], oM 50 (.faddr 2 (.t 4)) [0, 1, 2], oM 51 (.load 1 false (.t 50)) [0, 1, 2], oM 52 (.mov (.t 3)) [0, 1, 2, 3, 4], oM 53 (.iaddr 3 (.t 51) (.t 52)) [0, 1, 2], oM 54 (.load 3 true (.t 53)) [0, 1, 2], oM 55 (.mov (.t 1)) [0, 1, 2, 3, 4, 5, 6, 7], oM 56 (.mov (.t 9)) [0, 1, 2, 3, 4, 5, 6, 7, 8], oM 57 (.call 39 [(.t 54), (.t 55), (.t 56)]) [0, 1, 2], oB 58 (.iaddr 1 (.t 48) (.t 49)), ⟨none, .store 1 (.t 58) (.t 57), none, [], 3⟩]))) (.skip))) (.seq (.ops [oB 59 (.load 2 true (.t 6)), oA (.store 2 (.t 8) (.t 59))]) (.ret)))))
def Zz9 : FnI := ⟨4, ZCi, [(8, some (2, true))]⟩
def ZCb : C := .seq (.ops [oB 2 (.box (.t 0)), oB 4 (.mov bF)]) (.seq (.ops [oB 5 (.mov (.t 1)), oB 6 (.bin .geq (.t 5) (iN 0)), oB 7 (.mov (.t 6)), oG 8 (.mov (.t 1)) 7 true, oG 9 (.faddr 2 (.t 2)) 7 true, oG 10 (.load 1 false (.t 9)) 7 true, oG 11 (.len (.t 10)) 7 true, oG 12 (.bin .lss (.t 8) (.t 11)) 7 true, oB 13 (.pick (.t 7) (.t 12) bF), oB 4 (.mov (.t 13))]) (.ret))
def ZzV : FnI := ⟨2, ZCb, [(4, none)]⟩
def ZCG : C := .seq (.ops [oB 3 (.box (.t 0)), oB 4 (.box (.t 1)), oB 6 (.mov bF)]) (.seq (.draw [oB 7 (.faddr 0 (.t 4)), oB 8 (.load 1 false (.t 7)), oM 9 (.mov (.t 2)) [0, 1], oB 10 (.iaddr 1 (.t 8) (.t 9)), oB 11 (.load 1 false (.t 10)), oM 12 (.faddr 2 (.t 3)) [0, 1, 2, 3, 4], oM 13 (.load 1 false (.t 12)) [0, 1, 2, 3, 4], oM 14 (.mov (.t 2)) [0, 1, 2, 3, 4, 5, 6], oM 15 (.iaddr 3 (.t 13) (.t 14)) [0, 1, 2, 3, 4], oM 16 (.faddr 2 (.t 15)) [0, 1, 2, 3, 4], oM 17 (.load 1 false (.t 16)) [0, 1, 2, 3, 4], oB 18 (.bin .geq (.t 11) (.t 17)), oB 6 (.mov (.t 18))]) (.ret))
def ZzM : FnI := ⟨3, ZCG, [(6, none)]⟩
def Zu3 : C := .seq (.seq (.ops [oB 9 (.mov (.t 7)), oB 10 (.faddr 4 (.t 3)), oB 11 (.load 1 false (.t 10)), oB 12 (.len (.t 11)), oB 13 (.bin .lss (.t 9) (.t 12))]) (.cond (.t 13) (.skip) (.exit 0))) (.seq (.block 1 (.seq (.ops [oB 16 (.faddr 4 (.t 3)), oB 17 (.load 1 false (.t 16)), oB 18 (.mov (.t 7)), oB 19 (.iaddr 3 (.t 17) (.t 18)), oB 20 (.load 3 true (.t 19)), oB 8 (.alloc (.d (.agg [.int .i64 0, .int .i64 0, .int .i64 0]))), oA (.store 3 (.t 8) (.t 20))]) (.seq (.draw [oB 21 (.faddr 1 (.t 8)), oB 22 (.load 1 false (.t 21)), oM 23 (.mov (.t 2)) [0, 1], oB 24 (.bin .eql (.t 22) (.t 23)), oB 25 (.mov (.t 24)), oG 26 (.faddr 2 (.t 8)) 25 true, oG 27 (.load 1 false (.t 26)) 25 true, ⟨some 28, .faddr 0 (.t 4), some (25, true), [5, 6], 0⟩, ⟨some 29, .load 1 false (.t 28), some (25, true), [5, 6], 0⟩, ⟨some 30, .mov (.t 2), some (25, true), [5, 6, 7, 8], 0⟩, ⟨some 31, .iaddr 1 (.t 29) (.t 30), some (25, true), [5, 6], 0⟩, ⟨some 32, .load 1 false (.t 31), some (25, true), [5, 6], 0⟩, oG 33 (.bin .eql (.t 27) (.t 32)) 25 true, oB 34 (.pick (.t 25) (.t 33) bF), oB 35 (.mov (.t 34)), oG 36 (.load 6 true (.t 3)) 35 true, ⟨some 37, .load 2 true (.t 4), some (35, true), [15], 0⟩, ⟨some 38, .faddr 0 (.t 8), some (35, true), [15, 16], 0⟩, ⟨some 39, .load 1 false (.t 38), some (35, true), [15, 16], 0⟩, oG 40 (.call 50 [(.t 36), (.t 37), (.t 39)]) 35 true, oG 41 (.un .not (.t 40)) 35 true, oB 42 (.pick (.t 35) (.t 41) bF)]) (.cond (.t 42) (.seq (.ops [oB 6 (.mov bF)]) (.ret)) (.skip))))) (.ops [oB 14 (.mov (.t 7)), oB 15 (.bin .add (.t 14) (iN 1)), oB 7 (.mov (.t 15))]))
def ZCm : C := .seq (.ops [oB 3 (.box (.t 0)), oB 4 (.box (.t 1)), oB 6 (.mov bF)]) (.seq (.seq (.ops [oB 7 (.mov (iN 0))]) (.block 0 (.loop [2, 3, 4, 7] [2, 3, 4, 6] Zu3))) (.seq (.ops [oB 43 (.load 6 true (.t 3)), oB 44 (.load 2 true (.t 4)), oB 45 (.mov (.t 2)), oB 46 (.call 50 [(.t 43), (.t 44), (.t 45)]), oB 47 (.un .not (.t 46)), oB 48 (.mov (.t 47)), oG 49 (.faddr 0 (.t 4)) 48 true, oG 50 (.load 1 false (.t 49)) 48 true, oG 51 (.mov (.t 2)) 48 true, oG 52 (.iaddr 1 (.t 50) (.t 51)) 48 true, oG 53 (.load 1 false (.t 52)) 48 true, oG 54 (.bin .gtr (.t 53) (iN 0)) 48 true, oG 55 (.mov (.t 54)) 48 true, oG 56 (.load 6 true (.t 3)) 55 false, oG 57 (.load 2 true (.t 4)) 55 false, oG 58 (.mov (.t 2)) 55 false, oG 59 (.call 53 [(.t 56), (.t 57), (.t 58)]) 55 false, oG 60 (.pick (.t 55) bT (.t 59)) 48 true, oB 61 (.pick (.t 48) (.t 60) bF), oB 6 (.mov (.t 61))]) (.ret)))
def Zzx : FnI := ⟨3, ZCm, [(6, none)]⟩
def Zvt : C := .seq (.seq (.ops [oB 40 (.mov (.t 12)), oB 41 (.mov (.t 11)), oB 42 (.len (.t 41)), oB 43 (.bin .lss (.t 40) (.t 42))]) (.cond (.t 43) (.skip) (.exit 0))) (.seq (.block 1 (.draw [oB 46 (.mov (.t 10)), oM 47 (.faddr 1 (.t 9)) [0], oM 48 (.load 1 false (.t 47)) [0], oM 49 (.mov (.t 11)) [0, 1, 2], oM 50 (.mov (.t 12)) [0, 1, 2, 3], oM 51 (.iaddr 1 (.t 49) (.t 50)) [0, 1, 2], oM 52 (.load 1 false (.t 51)) [0, 1, 2], oM 53 (.iaddr 1 (.t 48) (.t 52)) [0], oM 54 (.load 1 false (.t 53)) [0], oM 55 (.bslice 1 [.int .i64 0] 1 [(0, (.t 54))]) [0], ⟨some 56, .append 1 (.t 46) (.t 55), none, [], 4⟩, oB 10 (.mov (.t 56))])) (.ops [oB 44 (.mov (.t 12)), oB 45 (.bin .add (.t 44) (iN 1)), oB 12 (.mov (.t 45))]))
def ZCl : C := .seq (.ops [oB 4 (.box (.t 0)), oB 6 (.box (.t 2)), oB 8 (.alloc (.agg [(.nilsl 1), (.nilsl 1)]))]) (.seq (.draw [oB 13 (.bslice 1 [.int .i64 0] 0 []), oM 14 (.faddr 0 (.t 6)) [0], oM 15 (.load 1 false (.t 14)) [0], oB 16 (.append 1 (.t 13) (.t 15)), oM 17 (.bslice 1 [.int .i64 0] 0 []) [0, 1, 2, 3], oM 18 (.faddr 1 (.t 6)) [0, 1, 2, 3, 4], oM 19 (.load 1 false (.t 18)) [0, 1, 2, 3, 4], oB 20 (.append 1 (.t 17) (.t 19)), oB 21 (.build [(.nilsl 1), (.nilsl 1)] [(0, 1, (.t 16)), (1, 1, (.t 20))]), oM 9 (.alloc (.agg [(.nilsl 1), (.nilsl 1)])) [0, 1, 2, 3, 4, 5, 6, 7, 8], ⟨none, .store 2 (.t 9) (.t 21), none, [], 3⟩]) (.seq (.draw [oB 22 (.faddr 0 (.t 9)), oB 23 (.load 1 false (.t 22)), oM 24 (.mov (.t 3)) [0, 1], oM 25 (.faddr 0 (.t 9)) [0, 1, 2], oM 26 (.load 1 false (.t 25)) [0, 1, 2], oM 27 (.mov (.t 3)) [0, 1, 2, 3, 4], oM 28 (.iaddr 1 (.t 26) (.t 27)) [0, 1, 2], oM 29 (.load 1 false (.t 28)) [0, 1, 2], oM 30 (.bin .add (.t 29) (iN 1)) [0, 1, 2], oB 31 (.iaddr 1 (.t 23) (.t 24)), ⟨none, .store 1 (.t 31) (.t 30), none, [], 3⟩]) (.seq (.seq (.ops [oB 32 (.load 6 true (.t 4)), oB 33 (.load 2 true (.t 9)), oB 34 (.mov (.t 3)), oB 35 (.call 50 [(.t 32), (.t 33), (.t 34)])]) (.cond (.t 35) (.seq (.ops [oB 36 (.bslice 1 [.int .i64 0] 0 []), oB 10 (.mov (.t 36))]) (.seq (.ops [oB 37 (.load 6 true (.t 4)), oB 38 (.mov (.t 3)), oB 39 (.call 79 [(.t 37), (.t 38)]), oB 11 (.mov (.t 39))]) (.seq (.seq (.ops [oB 12 (.mov (iN 0))]) (.block 0 (.loop [1, 3, 4, 8, 9, 10, 11, 12] [1, 3, 4, 8, 9, 10] Zvt))) (.draw [oB 57 (.faddr 1 (.t 9)), oB 58 (.load 1 false (.t 57)), oM 59 (.mov (.t 3)) [0, 1], oM 60 (.faddr 2 (.t 4)) [0, 1, 2], oM 61 (.load 1 false (.t 60)) [0, 1, 2], oM 62 (.mov (.t 3)) [0, 1, 2, 3, 4], oM 63 (.iaddr 3 (.t 61) (.t 62)) [0, 1, 2], oM 64 (.load 3 true (.t 63)) [0, 1, 2], oM 65 (.mov (.t 1)) [0, 1, 2, 3, 4, 5, 6, 7], oM 66 (.mov (.t 10)) [0, 1, 2, 3, 4, 5, 6, 7, 8], oM 67 (.call 80 [(.t 64), (.t 65), (.t 66)]) [0, 1, 2], oB 68 (.iaddr 1 (.t 58) (.t 59)), ⟨none, .store 1 (.t 68) (.t 67), none, [], 3⟩])))) (.skip))) (.seq (.ops [oB 69 (.load 2 true (.t 9)), oA (.store 2 (.t 8) (.t 69))]) (.ret)))))
def ZzG : FnI := ⟨4, ZCl, [(8, some (2, true))]⟩
def Zvn : C := .seq (.seq (.ops [oB 12 (.mov (.t 8)), oB 13 (.faddr 3 (.t 3)), oB 14 (.load 1 false (.t 13)), oB 15 (.len (.t 14)), oB 16 (.bin .lss (.t 12) (.t 15))]) (.cond (.t 16) (.skip) (.exit 0))) (.seq (.block 1 (.seq (.ops [oB 19 (.faddr 3 (.t 3)), oB 20 (.load 1 false (.t 19)), oB 21 (.mov (.t 8)), oB 22 (.iaddr 2 (.t 20) (.t 21)), oB 23 (.faddr 1 (.t 22)), oB 24 (.load 1 false (.t 23)), oB 25 (.mov (.t 2)), oB 26 (.bin .eql (.t 24) (.t 25))]) (.cond (.t 26) (.ops [oB 27 (.mov (.t 7)), oB 28 (.faddr 3 (.t 3)), oB 29 (.load 1 false (.t 28)), oB 30 (.mov (.t 8)), oB 31 (.iaddr 2 (.t 29) (.t 30)), oB 32 (.faddr 0 (.t 31)), oB 33 (.load 1 false (.t 32)), oB 34 (.bslice 1 [.int .i64 0] 1 [(0, (.t 33))]), oB 35 (.append 1 (.t 27) (.t 34)), oB 7 (.mov (.t 35))]) (.skip)))) (.ops [oB 17 (.mov (.t 8)), oB 18 (.bin .add (.t 17) (iN 1)), oB 8 (.mov (.t 18))]))
def Zxl : C := .seq (.seq (.ops [oB 36 (.mov (.t 9)), oB 37 (.faddr 5 (.t 3)), oB 38 (.load 1 false (.t 37)), oB 39 (.len (.t 38)), oB 40 (.bin .lss (.t 36) (.t 39))]) (.cond (.t 40) (.skip) (.exit 2))) (.seq (.block 3 (.seq (.ops [oB 43 (.faddr 5 (.t 3)), oB 44 (.load 1 false (.t 43)), oB 45 (.mov (.t 9)), oB 46 (.iaddr 2 (.t 44) (.t 45)), oB 47 (.faddr 1 (.t 46)), oB 48 (.load 1 false (.t 47)), oB 49 (.mov (.t 2)), oB 50 (.call 81 [(.t 48), (.t 49)])]) (.cond (.t 50) (.ops [oB 51 (.mov (.t 7)), oB 52 (.faddr 5 (.t 3)), oB 53 (.load 1 false (.t 52)), oB 54 (.mov (.t 9)), oB 55 (.iaddr 2 (.t 53) (.t 54)), oB 56 (.faddr 0 (.t 55)), oB 57 (.load 1 false (.t 56)), oB 58 (.append 1 (.t 51) (.t 57)), oB 7 (.mov (.t 58))]) (.skip)))) (.ops [oB 41 (.mov (.t 9)), oB 42 (.bin .add (.t 41) (iN 1)), oB 9 (.mov (.t 42))]))
def Zxp : C := .seq (.seq (.ops [oB 59 (.mov (.t 10)), oB 60 (.mov (.t 7)), oB 61 (.len (.t 60)), oB 62 (.bin .lss (.t 59) (.t 61))]) (.cond (.t 62) (.skip) (.exit 4))) (.seq (.block 5 (.seq (.draw [oB 65 (.load 6 true (.t 3)), oM 66 (.load 2 true (.t 4)) [0], oM 67 (.mov (.t 7)) [0, 1], oM 68 (.mov (.t 10)) [0, 1, 2], oM 69 (.iaddr 1 (.t 67) (.t 68)) [0, 1], oM 70 (.load 1 false (.t 69)) [0, 1], oB 71 (.call 50 [(.t 65), (.t 66), (.t 70)]), oB 72 (.un .not (.t 71))]) (.cond (.t 72) (.seq (.ops [oB 6 (.mov bF)]) (.ret)) (.skip)))) (.ops [oB 63 (.mov (.t 10)), oB 64 (.bin .add (.t 63) (iN 1)), oB 10 (.mov (.t 64))]))
def ZDd : C := .seq (.ops [oB 3 (.box (.t 0)), oB 4 (.box (.t 1)), oB 6 (.mov bF)]) (.seq (.ops [oB 11 (.bslice 1 [.int .i64 0] 0 []), oB 7 (.mov (.t 11))]) (.seq (.seq (.ops [oB 8 (.mov (iN 0))]) (.block 0 (.loop [2, 3, 4, 7, 8] [2, 3, 4, 7] Zvn))) (.seq (.seq (.ops [oB 9 (.mov (iN 0))]) (.block 2 (.loop [2, 3, 4, 7, 9] [3, 4, 7] Zxl))) (.seq (.seq (.ops [oB 10 (.mov (iN 0))]) (.block 4 (.loop [3, 4, 7, 10] [6] Zxp))) (.seq (.ops [oB 6 (.mov bT)]) (.ret))))))
def ZyN : FnI := ⟨3, ZDd, [(6, none)]⟩
def Zxf : C := .seq (.ops [oB 11 (.bin .lss (.t 10) (.t 9))]) (.seq (.cond (.t 11) (.skip) (.exit 0)) (.seq (.block 1 (.seq (.ops [oB 12 (.mov (.t 10)), oB 6 (.mov (.t 12))]) (.seq (.ops [oB 13 (.load 6 true (.t 2)), oB 14 (.load 2 true (.t 3)), oB 15 (.mov (.t 6)), oB 16 (.call 47 [(.t 13), (.t 14), (.t 15)])]) (.cond (.t 16) (.ops [oB 17 (.mov (.t 5)), oB 18 (.mov (.t 6)), oB 19 (.bslice 1 [.int .i64 0] 1 [(0, (.t 18))]), oB 20 (.append 1 (.t 17) (.t 19)), oB 5 (.mov (.t 20))]) (.skip))))) (.ops [oB 21 (.bin .add (.t 10) (iN 1)), oB 10 (.mov (.t 21))])))
def ZCy : C := .seq (.ops [oB 2 (.box (.t 0)), oB 3 (.box (.t 1)), oB 4 (.mov (.c (.nilsl 1)))]) (.seq (.ops [oB 5 (.mov (.c (.nilsl 1)))]) (.seq (.seq (.ops [oB 7 (.faddr 2 (.t 2)), oB 8 (.load 1 false (.t 7)), oB 9 (.len (.t 8)), oB 10 (.mov (iN 0))]) (.block 0 (.loop [2, 3, 5, 9, 10] [5] Zxf))) (.seq (.ops [oB 22 (.mov (.t 5)), oB 4 (.mov (.t 22))]) (.ret))))
def ZyV : FnI := ⟨2, ZCy, [(4, none)]⟩
def Zxj : C := .seq (.ops [oB 64 (.bin .lss (.t 63) (.t 62))]) (.seq (.cond (.t 64) (.skip) (.exit 0)) (.seq (.block 1 (.seq (.ops [oB 65 (.mov (.t 63)), oB 66 (.iaddr 2 (.t 61) (.t 63)), oB 67 (.load 2 true (.t 66)), oB 6 (.alloc (.d (.agg [.int .i64 0, .int .i64 0]))), oB 5 (.mov (.t 65)), oA (.store 2 (.t 6) (.t 67))]) (.seq (.draw [oB 68 (.load 6 true (.t 1)), oM 69 (.faddr 0 (.t 6)) [0], oM 70 (.load 1 false (.t 69)) [0], oM 71 (.faddr 1 (.t 6)) [0, 1, 2], oM 72 (.load 1 false (.t 71)) [0, 1, 2], oB 73 (.call 86 [(.t 68), (.t 70), (.t 72)]), oB 74 (.un .not (.t 73)), oB 75 (.mov (.t 74)), oG 76 (.faddr 3 (.t 1)) 75 false, oG 77 (.load 1 false (.t 76)) 75 false, ⟨some 78, .mov (.t 5), some (75, false), [8, 9], 0⟩, oG 79 (.slice 2 (.t 77) none (some (.t 78)) none) 75 false, ⟨some 80, .load 2 true (.t 6), some (75, false), [8, 9, 10, 11], 0⟩, oG 81 (.call 87 [(.t 79), (.t 80)]) 75 false, oB 82 (.pick (.t 75) bT (.t 81))]) (.cond (.t 82) (.seq (.ops [oB 2 (.mov (iN 53))]) (.ret)) (.skip))))) (.ops [oB 83 (.bin .add (.t 63) (iN 1)), oB 63 (.mov (.t 83))])))
def ZvI : C := .seq (.ops [oB 88 (.bin .lss (.t 87) (.t 86))]) (.seq (.cond (.t 88) (.skip) (.exit 2)) (.seq (.block 3 (.seq (.ops [oB 89 (.mov (.t 87)), oB 90 (.iaddr 3 (.t 85) (.t 87)), oB 91 (.load 3 true (.t 90)), oB 8 (.alloc (.d (.agg [.int .i64 0, .int .i64 0, .int .i64 0]))), oB 7 (.mov (.t 89)), oA (.store 3 (.t 8) (.t 91))]) (.seq (.ops [oB 92 (.mkfn 88 [(.t 8)]), oB 9 (.mov (.t 92))]) (.seq (.draw [oB 93 (.load 6 true (.t 1)), oM 94 (.faddr 0 (.t 8)) [0], oM 95 (.load 1 false (.t 94)) [0], oM 96 (.faddr 1 (.t 8)) [0, 1, 2], oM 97 (.load 1 false (.t 96)) [0, 1, 2], oB 98 (.call 86 [(.t 93), (.t 95), (.t 97)]), oB 99 (.un .not (.t 98)), oB 100 (.mov (.t 99)), oG 101 (.faddr 2 (.t 8)) 100 false, oG 102 (.load 1 false (.t 101)) 100 false, ⟨some 103, .faddr 2 (.t 1), some (100, false), [8, 9], 0⟩, ⟨some 104, .load 1 false (.t 103), some (100, false), [8, 9], 0⟩, ⟨some 105, .faddr 1 (.t 8), some (100, false), [8, 9, 10, 11], 0⟩, ⟨some 106, .load 1 false (.t 105), some (100, false), [8, 9, 10, 11], 0⟩, ⟨some 107, .iaddr 3 (.t 104) (.t 106), some (100, false), [8, 9], 0⟩, ⟨some 108, .faddr 2 (.t 107), some (100, false), [8, 9], 0⟩, ⟨some 109, .load 1 false (.t 108), some (100, false), [8, 9], 0⟩, ⟨some 110, .bin .sub (.t 109) (iN 1), some (100, false), [8, 9], 0⟩, oG 111 (.call 82 [(.t 102), (iN 1), (.t 110)]) 100 false, oG 112 (.un .not (.t 111)) 100 false, oB 113 (.pick (.t 100) bT (.t 112)), oB 114 (.mov (.t 113)), oG 115 (.faddr 4 (.t 1)) 114 false, oG 116 (.load 1 false (.t 115)) 114 false, ⟨some 117, .mov (.t 7), some (114, false), [22, 23], 0⟩, oG 118 (.slice 3 (.t 116) none (some (.t 117)) none) 114 false, ⟨some 119, .mov (.t 9), some (114, false), [22, 23, 24, 25], 0⟩, oG 120 (.call 89 [(.t 118), (.t 119)]) 114 false, oB 121 (.pick (.t 114) bT (.t 120))]) (.cond (.t 121) (.seq (.ops [oB 2 (.mov (iN 54))]) (.ret)) (.skip)))))) (.ops [oB 122 (.bin .add (.t 87) (iN 1)), oB 87 (.mov (.t 122))])))
def Zxq : C := .seq (.ops [oB 127 (.bin .lss (.t 126) (.t 125))]) (.seq (.cond (.t 127) (.skip) (.exit 4)) (.seq (.block 5 (.seq (.ops [oB 128 (.iaddr 2 (.t 124) (.t 126)), oB 129 (.load 2 true (.t 128)), oB 11 (.alloc (.agg [(.nilsl 1), (.nilsl 1)])), oA (.store 2 (.t 11) (.t 129))]) (.seq (.ops [oB 130 (.mkfn 90 [(.t 11)]), oB 12 (.mov (.t 130))]) (.seq (.ops [oB 131 (.load 6 true (.t 1)), oB 132 (.faddr 0 (.t 11)), oB 133 (.load 1 false (.t 132)), oB 134 (.call 92 [(.t 131), (.t 133)]), oB 135 (.un .not (.t 134)), oB 136 (.mov (.t 135)), oG 137 (.load 6 true (.t 1)) 136 false, oG 138 (.faddr 1 (.t 11)) 136 false, oG 139 (.load 1 false (.t 138)) 136 false, oG 140 (.call 92 [(.t 137), (.t 139)]) 136 false, oG 141 (.un .not (.t 140)) 136 false, oB 142 (.pick (.t 136) bT (.t 141)), oB 143 (.mov (.t 142)), oG 144 (.faddr 0 (.t 11)) 143 false, oG 145 (.load 1 false (.t 144)) 143 false, oG 146 (.mov (.t 12)) 143 false, oG 147 (.call 93 [(.t 145), (.t 146)]) 143 false, oB 148 (.pick (.t 143) bT (.t 147))]) (.cond (.t 148) (.seq (.ops [oB 2 (.mov (iN 55))]) (.ret)) (.skip)))))) (.ops [oB 149 (.bin .add (.t 126) (iN 1)), oB 126 (.mov (.t 149))])))
def ZDT : C := .seq (.ops [oB 1 (.box (.t 0)), oB 2 (.mov (iN 0))]) (.seq (.seq (.ops [oB 13 (.faddr 2 (.t 1)), oB 14 (.load 1 false (.t 13)), oB 15 (.len (.t 14)), oB 16 (.call 82 [(.t 15), (iN 1), (iN 16)]), oB 17 (.un .not (.t 16)), oB 18 (.mov (.t 17)), oG 19 (.faddr 3 (.t 1)) 18 false, oG 20 (.load 1 false (.t 19)) 18 false, oG 21 (.len (.t 20)) 18 false, oG 22 (.bin .gtr (.t 21) (iN 48)) 18 false, oB 23 (.pick (.t 18) bT (.t 22)), oB 24 (.mov (.t 23)), oG 25 (.faddr 4 (.t 1)) 24 false, oG 26 (.load 1 false (.t 25)) 24 false, oG 27 (.len (.t 26)) 24 false, oG 28 (.bin .gtr (.t 27) (iN 16)) 24 false, oB 29 (.pick (.t 24) bT (.t 28)), oB 30 (.mov (.t 29)), oG 31 (.faddr 5 (.t 1)) 30 false, oG 32 (.load 1 false (.t 31)) 30 false, oG 33 (.len (.t 32)) 30 false, oG 34 (.bin .gtr (.t 33) (iN 4)) 30 false, oB 35 (.pick (.t 30) bT (.t 34))]) (.cond (.t 35) (.seq (.ops [oB 2 (.mov (iN 50))]) (.ret)) (.skip))) (.seq (.seq (.ops [oB 37 (.faddr 0 (.t 1)), oB 38 (.load 1 false (.t 37)), oB 39 (.call 83 [(.t 38)]), oB 36 (.mov (.t 39)), oB 40 (.extract (.t 36) 0), oB 41 (.extract (.t 36) 1), oB 3 (.mov (.t 40)), oB 4 (.mov (.t 41))]) (.seq (.ops [oB 42 (.mov (.t 4)), oB 43 (.un .not (.t 42)), oB 44 (.mov (.t 43)), oG 45 (.faddr 0 (.t 1)) 44 false, oG 46 (.load 1 false (.t 45)) 44 false, oG 47 (.bin .gtr (.t 46) (iN 4096)) 44 false, oB 48 (.pick (.t 44) bT (.t 47)), oB 49 (.mov (.t 48)), oG 50 (.faddr 1 (.t 1)) 49 false, oG 51 (.load 1 false (.t 50)) 49 false, oG 52 (.faddr 0 (.t 1)) 49 false, oG 53 (.load 1 false (.t 52)) 49 false, oG 54 (.call 82 [(.t 51), (iN 1), (.t 53)]) 49 false, oG 55 (.un .not (.t 54)) 49 false, oB 56 (.pick (.t 49) bT (.t 55))]) (.cond (.t 56) (.seq (.ops [oB 2 (.mov (iN 51))]) (.ret)) (.skip)))) (.seq (.seq (.ops [oB 57 (.faddr 2 (.t 1)), oB 58 (.load 1 false (.t 57)), oB 59 (.call 84 [(.t 58), (.c (.d (.fn 85 [])))])]) (.cond (.t 59) (.seq (.ops [oB 2 (.mov (iN 52))]) (.ret)) (.skip))) (.seq (.seq (.ops [oB 60 (.faddr 3 (.t 1)), oB 61 (.load 1 false (.t 60)), oB 62 (.len (.t 61)), oB 63 (.mov (iN 0))]) (.block 0 (.loop [1, 61, 62, 63] [1, 2] Zxj))) (.seq (.seq (.ops [oB 84 (.faddr 4 (.t 1)), oB 85 (.load 1 false (.t 84)), oB 86 (.len (.t 85)), oB 87 (.mov (iN 0))]) (.block 2 (.loop [1, 85, 86, 87] [1, 2] ZvI))) (.seq (.seq (.ops [oB 123 (.faddr 5 (.t 1)), oB 124 (.load 1 false (.t 123)), oB 125 (.len (.t 124)), oB 126 (.mov (iN 0))]) (.block 4 (.loop [1, 124, 125, 126] [2] Zxq))) (.seq (.ops [oB 2 (.mov (iN 0))]) (.ret))))))))
def ZzY : FnI := ⟨1, ZDT, [(2, none)]⟩
def ZwO : C := .seq (.ops [oB 29 (.bin .lss (.t 28) (.t 27))]) (.seq (.cond (.t 29) (.skip) (.exit 0)) (.seq (.block 1 (.seq (.ops [oB 30 (.mov (.t 28)), oB 31 (.iaddr 1 (.t 26) (.t 28)), oB 32 (.load 1 false (.t 31)), oB 5 (.mov (.t 30)), oB 6 (.mov (.t 32))]) (.seq (.ops [oB 33 (.mov (.t 6)), oB 34 (.bin .lss (.t 33) (iN 0)), oB 35 (.mov (.t 34)), oG 36 (.mov (.t 6)) 35 false, oG 37 (.faddr 2 (.t 2)) 35 false, oG 38 (.load 1 false (.t 37)) 35 false, oG 39 (.mov (.t 5)) 35 false, oG 40 (.iaddr 3 (.t 38) (.t 39)) 35 false, oG 41 (.faddr 2 (.t 40)) 35 false, oG 42 (.load 1 false (.t 41)) 35 false, oG 43 (.bin .gtr (.t 36) (.t 42)) 35 false, oB 44 (.pick (.t 35) bT (.t 43))]) (.cond (.t 44) (.seq (.ops [oB 4 (.mov bF)]) (.ret)) (.skip))))) (.ops [oB 45 (.bin .add (.t 28) (iN 1)), oB 28 (.mov (.t 45))])))
def ZvB : C := .seq (.ops [oB 50 (.bin .lss (.t 49) (.t 48))]) (.seq (.cond (.t 50) (.skip) (.exit 2)) (.seq (.block 3 (.seq (.ops [oB 51 (.mov (.t 49)), oB 52 (.iaddr 1 (.t 47) (.t 49)), oB 53 (.load 1 false (.t 52)), oB 7 (.mov (.t 51)), oB 8 (.mov (.t 53))]) (.seq (.ops [oB 54 (.mov (.t 8)), oB 55 (.bin .gtr (.t 54) (iN 0)), oB 56 (.mov (.t 55)), oG 57 (.load 6 true (.t 2)) 56 true, oG 58 (.load 2 true (.t 3)) 56 true, oG 59 (.mov (.t 7)) 56 true, oG 60 (.call 78 [(.t 57), (.t 58), (.t 59)]) 56 true, oG 61 (.un .not (.t 60)) 56 true, oB 62 (.pick (.t 56) (.t 61) bF)]) (.cond (.t 62) (.seq (.ops [oB 4 (.mov bF)]) (.ret)) (.skip))))) (.ops [oB 63 (.bin .add (.t 49) (iN 1)), oB 49 (.mov (.t 63))])))
def ZCu : C := .seq (.ops [oB 2 (.box (.t 0)), oB 3 (.box (.t 1)), oB 4 (.mov bF)]) (.seq (.seq (.ops [oB 9 (.faddr 0 (.t 3)), oB 10 (.load 1 false (.t 9)), oB 11 (.len (.t 10)), oB 12 (.faddr 2 (.t 2)), oB 13 (.load 1 false (.t 12)), oB 14 (.len (.t 13)), oB 15 (.bin .neq (.t 11) (.t 14)), oB 16 (.mov (.t 15)), oG 17 (.faddr 1 (.t 3)) 16 false, oG 18 (.load 1 false (.t 17)) 16 false, oG 19 (.len (.t 18)) 16 false, oG 20 (.faddr 2 (.t 2)) 16 false, oG 21 (.load 1 false (.t 20)) 16 false, oG 22 (.len (.t 21)) 16 false, oG 23 (.bin .neq (.t 19) (.t 22)) 16 false, oB 24 (.pick (.t 16) bT (.t 23))]) (.cond (.t 24) (.seq (.ops [oB 4 (.mov bF)]) (.ret)) (.skip))) (.seq (.seq (.ops [oB 25 (.faddr 0 (.t 3)), oB 26 (.load 1 false (.t 25)), oB 27 (.len (.t 26)), oB 28 (.mov (iN 0))]) (.block 0 (.loop [2, 3, 26, 27, 28] [2, 3, 4] ZwO))) (.seq (.seq (.ops [oB 46 (.faddr 0 (.t 3)), oB 47 (.load 1 false (.t 46)), oB 48 (.len (.t 47)), oB 49 (.mov (iN 0))]) (.block 2 (.loop [2, 3, 47, 48, 49] [2, 3, 4] ZvB))) (.seq (.ops [oB 64 (.faddr 4 (.t 2)), oB 65 (.load 1 false (.t 64)), oB 66 (.mkfn 94 [(.t 3), (.t 2)]), oB 67 (.call 89 [(.t 65), (.t 66)]), oB 68 (.un .not (.t 67)), oB 4 (.mov (.t 68))]) (.ret)))))
def ZyM : FnI := ⟨2, ZCu, [(4, none)]⟩
def Zvb : C := .seq (.ops [oB 14 (.bin .lss (.t 13) (.t 12))]) (.seq (.cond (.t 14) (.skip) (.exit 0)) (.seq (.block 1 (.seq (.ops [oB 15 (.mov (.t 13)), oB 5 (.mov (.t 15))]) (.seq (.draw [oB 16 (.mov (.t 0)), oM 17 (.mov (.t 5)) [0], oB 18 (.iaddr 1 (.t 16) (.t 17)), oB 19 (.load 1 false (.t 18)), oM 20 (.mov (.t 1)) [0, 1, 2, 3], oM 21 (.mov (.t 5)) [0, 1, 2, 3, 4], oM 22 (.iaddr 1 (.t 20) (.t 21)) [0, 1, 2, 3], oM 23 (.load 1 false (.t 22)) [0, 1, 2, 3], oB 24 (.bin .neq (.t 19) (.t 23))]) (.cond (.t 24) (.seq (.ops [oB 4 (.mov bF)]) (.ret)) (.skip))))) (.ops [oB 25 (.bin .add (.t 13) (iN 1)), oB 13 (.mov (.t 25))])))
def ZDq : C := .seq (.ops [oB 4 (.mov bF)]) (.seq (.seq (.ops [oB 6 (.mov (.t 0)), oB 7 (.len (.t 6)), oB 8 (.mov (.t 1)), oB 9 (.len (.t 8)), oB 10 (.bin .neq (.t 7) (.t 9))]) (.cond (.t 10) (.seq (.ops [oB 4 (.mov bF)]) (.ret)) (.skip))) (.seq (.seq (.ops [oB 11 (.mov (.t 0)), oB 12 (.len (.t 11)), oB 13 (.mov (iN 0))]) (.block 0 (.loop [0, 1, 12, 13] [4] Zvb))) (.seq (.ops [oB 4 (.mov bT)]) (.ret))))
def Zz1 : FnI := ⟨2, ZDq, [(4, none)]⟩
def ZDW : C := .seq (.ops [oB 1 (.box (.t 0)), oB 2 (.mov bF)]) (.seq (.ops [oB 6 (.faddr 0 (.t 1)), oB 7 (.load 1 false (.t 6)), oB 8 (.call 95 [(.t 7)]), oB 5 (.mov (.t 8)), oB 9 (.extract (.t 5) 0), oB 10 (.extract (.t 5) 1), oB 3 (.mov (.t 9)), oB 4 (.mov (.t 10))]) (.seq (.ops [oB 11 (.mov (.t 4)), oB 12 (.mov (.t 11)), oG 13 (.faddr 0 (.t 1)) 12 true, oG 14 (.load 1 false (.t 13)) 12 true, oG 15 (.bin .leq (.t 14) (iN 4096)) 12 true, oB 16 (.pick (.t 12) (.t 15) bF), oB 17 (.mov (.t 16)), oG 18 (.faddr 1 (.t 1)) 17 true, oG 19 (.load 1 false (.t 18)) 17 true, oG 20 (.bin .geq (.t 19) (iN 1)) 17 true, oB 21 (.pick (.t 17) (.t 20) bF), oB 22 (.mov (.t 21)), oG 23 (.faddr 1 (.t 1)) 22 true, oG 24 (.load 1 false (.t 23)) 22 true, oG 25 (.faddr 0 (.t 1)) 22 true, oG 26 (.load 1 false (.t 25)) 22 true, oG 27 (.bin .leq (.t 24) (.t 26)) 22 true, oB 28 (.pick (.t 22) (.t 27) bF), oB 2 (.mov (.t 28))]) (.ret)))
def Zzg : FnI := ⟨1, ZDW, [(2, none)]⟩
def ZwF : C := .seq (.seq (.ops [oB 5 (.mov (.t 3)), oB 6 (.faddr 2 (.t 1)), oB 7 (.load 1 false (.t 6)), oB 8 (.len (.t 7)), oB 9 (.bin .lss (.t 5) (.t 8))]) (.cond (.t 9) (.skip) (.exit 0))) (.seq (.block 1 (.seq (.ops [oB 12 (.faddr 2 (.t 1)), oB 13 (.load 1 false (.t 12)), oB 14 (.mov (.t 3)), oB 15 (.iaddr 3 (.t 13) (.t 14)), oB 16 (.load 3 true (.t 15)), oB 4 (.alloc (.d (.agg [.int .i64 0, .int .i64 0, .int .i64 0]))), oA (.store 3 (.t 4) (.t 16))]) (.seq (.ops [oB 17 (.faddr 0 (.t 4)), oB 18 (.load 1 false (.t 17)), oB 19 (.bin .lss (.t 18) (iN 0)), oB 20 (.mov (.t 19)), oG 21 (.faddr 0 (.t 4)) 20 false, oG 22 (.load 1 false (.t 21)) 20 false, oG 23 (.bin .gtr (.t 22) (iN 5)) 20 false, oB 24 (.pick (.t 20) bT (.t 23)), oB 25 (.mov (.t 24)), oG 26 (.faddr 1 (.t 4)) 25 false, oG 27 (.load 1 false (.t 26)) 25 false, oG 28 (.bin .lss (.t 27) (iN 0)) 25 false, oB 29 (.pick (.t 25) bT (.t 28)), oB 30 (.mov (.t 29)), oG 31 (.faddr 1 (.t 4)) 30 false, oG 32 (.load 1 false (.t 31)) 30 false, oG 33 (.bin .gtr (.t 32) (iN 2147483647)) 30 false, oB 34 (.pick (.t 30) bT (.t 33)), oB 35 (.mov (.t 34)), oG 36 (.faddr 2 (.t 4)) 35 false, oG 37 (.load 1 false (.t 36)) 35 false, oG 38 (.bin .lss (.t 37) (iN 1)) 35 false, oB 39 (.pick (.t 35) bT (.t 38)), oB 40 (.mov (.t 39)), oG 41 (.faddr 2 (.t 4)) 40 false, oG 42 (.load 1 false (.t 41)) 40 false, oG 43 (.bin .gtr (.t 42) (iN 100)) 40 false, oB 44 (.pick (.t 40) bT (.t 43))]) (.cond (.t 44) (.seq (.ops [oB 2 (.mov bF)]) (.ret)) (.skip))))) (.ops [oB 10 (.mov (.t 3)), oB 11 (.bin .add (.t 10) (iN 1)), oB 3 (.mov (.t 11))]))
def ZDK : C := .seq (.ops [oB 1 (.box (.t 0)), oB 2 (.mov bF)]) (.seq (.seq (.ops [oB 3 (.mov (iN 0))]) (.block 0 (.loop [1, 3] [2] ZwF))) (.seq (.ops [oB 2 (.mov bT)]) (.ret)))
def ZyT : FnI := ⟨1, ZDK, [(2, none)]⟩
def Zwm : C := .seq (.seq (.ops [oB 37 (.mov (.t 5)), oB 38 (.mov (.t 3)), oB 39 (.bin .lss (.t 37) (.t 38))]) (.cond (.t 39) (.skip) (.exit 2))) (.seq (.block 3 (.seq (.draw [oB 42 (.faddr 3 (.t 1)), oB 43 (.load 1 false (.t 42)), oM 44 (.mov (.t 5)) [0, 1], oB 45 (.iaddr 2 (.t 43) (.t 44)), oB 46 (.faddr 0 (.t 45)), oB 47 (.load 1 false (.t 46)), oM 48 (.faddr 0 (.t 4)) [0, 1, 2, 3, 4, 5], oM 49 (.load 1 false (.t 48)) [0, 1, 2, 3, 4, 5], oB 50 (.bin .eql (.t 47) (.t 49)), oB 51 (.mov (.t 50)), oG 52 (.faddr 3 (.t 1)) 51 true, oG 53 (.load 1 false (.t 52)) 51 true, ⟨some 54, .mov (.t 5), some (51, true), [10, 11], 0⟩, oG 55 (.iaddr 2 (.t 53) (.t 54)) 51 true, oG 56 (.faddr 1 (.t 55)) 51 true, oG 57 (.load 1 false (.t 56)) 51 true, ⟨some 58, .faddr 1 (.t 4), some (51, true), [10, 11, 12, 13, 14, 15], 0⟩, ⟨some 59, .load 1 false (.t 58), some (51, true), [10, 11, 12, 13, 14, 15], 0⟩, oG 60 (.bin .eql (.t 57) (.t 59)) 51 true, oB 61 (.pick (.t 51) (.t 60) bF)]) (.cond (.t 61) (.seq (.ops [oB 2 (.mov bF)]) (.ret)) (.skip)))) (.ops [oB 40 (.mov (.t 5)), oB 41 (.bin .add (.t 40) (iN 1)), oB 5 (.mov (.t 41))]))
def Zxn : C := .seq (.seq (.ops [oB 6 (.mov (.t 3)), oB 7 (.faddr 3 (.t 1)), oB 8 (.load 1 false (.t 7)), oB 9 (.len (.t 8)), oB 10 (.bin .lss (.t 6) (.t 9))]) (.cond (.t 10) (.skip) (.exit 0))) (.seq (.block 1 (.seq (.ops [oB 13 (.faddr 3 (.t 1)), oB 14 (.load 1 false (.t 13)), oB 15 (.mov (.t 3)), oB 16 (.iaddr 2 (.t 14) (.t 15)), oB 17 (.load 2 true (.t 16)), oB 4 (.alloc (.d (.agg [.int .i64 0, .int .i64 0]))), oA (.store 2 (.t 4) (.t 17))]) (.seq (.seq (.ops [oB 18 (.load 6 true (.t 1)), oB 19 (.faddr 0 (.t 4)), oB 20 (.load 1 false (.t 19)), oB 21 (.call 49 [(.t 18), (.t 20)]), oB 22 (.un .not (.t 21)), oB 23 (.mov (.t 22)), oG 24 (.load 6 true (.t 1)) 23 false, oG 25 (.faddr 1 (.t 4)) 23 false, oG 26 (.load 1 false (.t 25)) 23 false, oG 27 (.call 49 [(.t 24), (.t 26)]) 23 false, oG 28 (.un .not (.t 27)) 23 false, oB 29 (.pick (.t 23) bT (.t 28)), oB 30 (.mov (.t 29)), oG 31 (.faddr 0 (.t 4)) 30 false, oG 32 (.load 1 false (.t 31)) 30 false, oG 33 (.faddr 1 (.t 4)) 30 false, oG 34 (.load 1 false (.t 33)) 30 false, oG 35 (.bin .eql (.t 32) (.t 34)) 30 false, oB 36 (.pick (.t 30) bT (.t 35))]) (.cond (.t 36) (.seq (.ops [oB 2 (.mov bF)]) (.ret)) (.skip))) (.seq (.ops [oB 5 (.mov (iN 0))]) (.block 2 (.loop [1, 3, 4, 5] [1, 2, 3] Zwm)))))) (.ops [oB 11 (.mov (.t 3)), oB 12 (.bin .add (.t 11) (iN 1)), oB 3 (.mov (.t 12))]))
def ZB9 : C := .seq (.ops [oB 1 (.box (.t 0)), oB 2 (.mov bF)]) (.seq (.seq (.ops [oB 3 (.mov (iN 0))]) (.block 0 (.loop [1, 3] [2] Zxn))) (.seq (.ops [oB 2 (.mov bT)]) (.ret)))
def ZyS : FnI := ⟨1, ZB9, [(2, none)]⟩
def ZvF : C := .seq (.seq (.ops [oB 54 (.mov (.t 5)), oB 55 (.mov (.t 3)), oB 56 (.bin .lss (.t 54) (.t 55))]) (.cond (.t 56) (.skip) (.exit 2))) (.seq (.block 3 (.seq (.draw [oB 59 (.faddr 4 (.t 1)), oB 60 (.load 1 false (.t 59)), oM 61 (.mov (.t 5)) [0, 1], oB 62 (.iaddr 3 (.t 60) (.t 61)), oB 63 (.faddr 1 (.t 62)), oB 64 (.load 1 false (.t 63)), oM 65 (.faddr 1 (.t 4)) [0, 1, 2, 3, 4, 5], oM 66 (.load 1 false (.t 65)) [0, 1, 2, 3, 4, 5], oB 67 (.bin .eql (.t 64) (.t 66)), oB 68 (.mov (.t 67)), oG 69 (.faddr 4 (.t 1)) 68 true, oG 70 (.load 1 false (.t 69)) 68 true, ⟨some 71, .mov (.t 5), some (68, true), [10, 11], 0⟩, oG 72 (.iaddr 3 (.t 70) (.t 71)) 68 true, oG 73 (.faddr 2 (.t 72)) 68 true, oG 74 (.load 1 false (.t 73)) 68 true, ⟨some 75, .faddr 2 (.t 4), some (68, true), [10, 11, 12, 13, 14, 15], 0⟩, ⟨some 76, .load 1 false (.t 75), some (68, true), [10, 11, 12, 13, 14, 15], 0⟩, oG 77 (.bin .eql (.t 74) (.t 76)) 68 true, oB 78 (.pick (.t 68) (.t 77) bF)]) (.cond (.t 78) (.seq (.ops [oB 2 (.mov bF)]) (.ret)) (.skip)))) (.ops [oB 57 (.mov (.t 5)), oB 58 (.bin .add (.t 57) (iN 1)), oB 5 (.mov (.t 58))]))
def Zvk : C := .seq (.seq (.ops [oB 6 (.mov (.t 3)), oB 7 (.faddr 4 (.t 1)), oB 8 (.load 1 false (.t 7)), oB 9 (.len (.t 8)), oB 10 (.bin .lss (.t 6) (.t 9))]) (.cond (.t 10) (.skip) (.exit 0))) (.seq (.block 1 (.seq (.ops [oB 13 (.faddr 4 (.t 1)), oB 14 (.load 1 false (.t 13)), oB 15 (.mov (.t 3)), oB 16 (.iaddr 3 (.t 14) (.t 15)), oB 17 (.load 3 true (.t 16)), oB 4 (.alloc (.d (.agg [.int .i64 0, .int .i64 0, .int .i64 0]))), oA (.store 3 (.t 4) (.t 17))]) (.seq (.seq (.draw [oB 18 (.load 6 true (.t 1)), oM 19 (.faddr 0 (.t 4)) [0], oM 20 (.load 1 false (.t 19)) [0], oB 21 (.call 49 [(.t 18), (.t 20)]), oB 22 (.un .not (.t 21)), oB 23 (.mov (.t 22)), oG 24 (.load 6 true (.t 1)) 23 false, ⟨some 25, .faddr 1 (.t 4), some (23, false), [6], 0⟩, ⟨some 26, .load 1 false (.t 25), some (23, false), [6], 0⟩, oG 27 (.call 49 [(.t 24), (.t 26)]) 23 false, oG 28 (.un .not (.t 27)) 23 false, oB 29 (.pick (.t 23) bT (.t 28)), oB 30 (.mov (.t 29)), oG 31 (.faddr 0 (.t 4)) 30 false, oG 32 (.load 1 false (.t 31)) 30 false, ⟨some 33, .faddr 1 (.t 4), some (30, false), [13, 14], 0⟩, ⟨some 34, .load 1 false (.t 33), some (30, false), [13, 14], 0⟩, oG 35 (.bin .eql (.t 32) (.t 34)) 30 false, oB 36 (.pick (.t 30) bT (.t 35)), oB 37 (.mov (.t 36)), oG 38 (.faddr 2 (.t 4)) 37 false, oG 39 (.load 1 false (.t 38)) 37 false, oG 40 (.bin .lss (.t 39) (iN 1)) 37 false, oB 41 (.pick (.t 37) bT (.t 40)), oB 42 (.mov (.t 41)), oG 43 (.faddr 2 (.t 4)) 42 false, oG 44 (.load 1 false (.t 43)) 42 false, ⟨some 45, .faddr 2 (.t 1), some (42, false), [25, 26], 0⟩, ⟨some 46, .load 1 false (.t 45), some (42, false), [25, 26], 0⟩, ⟨some 47, .faddr 1 (.t 4), some (42, false), [25, 26, 27, 28], 0⟩, ⟨some 48, .load 1 false (.t 47), some (42, false), [25, 26, 27, 28], 0⟩, ⟨some 49, .iaddr 3 (.t 46) (.t 48), some (42, false), [25, 26], 0⟩, ⟨some 50, .faddr 2 (.t 49), some (42, false), [25, 26], 0⟩, ⟨some 51, .load 1 false (.t 50), some (42, false), [25, 26], 0⟩, oG 52 (.bin .geq (.t 44) (.t 51)) 42 false, oB 53 (.pick (.t 42) bT (.t 52))]) (.cond (.t 53) (.seq (.ops [oB 2 (.mov bF)]) (.ret)) (.skip))) (.seq (.ops [oB 5 (.mov (iN 0))]) (.block 2 (.loop [1, 3, 4, 5] [1, 2, 3] ZvF)))))) (.ops [oB 11 (.mov (.t 3)), oB 12 (.bin .add (.t 11) (iN 1)), oB 3 (.mov (.t 12))]))
def ZDs : C := .seq (.ops [oB 1 (.box (.t 0)), oB 2 (.mov bF)]) (.seq (.seq (.ops [oB 3 (.mov (iN 0))]) (.block 0 (.loop [1, 3] [2] Zvk))) (.seq (.ops [oB 2 (.mov bT)]) (.ret)))
def ZzP : FnI := ⟨1, ZDs, [(2, none)]⟩
def Zwc : C := .seq (.seq (.ops [oB 30 (.mov (.t 5)), oB 31 (.faddr 0 (.t 4)), oB 32 (.load 1 false (.t 31)), oB 33 (.len (.t 32)), oB 34 (.bin .lss (.t 30) (.t 33))]) (.cond (.t 34) (.skip) (.exit 2))) (.seq (.block 3 (.seq (.draw [oB 37 (.faddr 1 (.t 4)), oB 38 (.load 1 false (.t 37)), oM 39 (.faddr 0 (.t 4)) [0, 1], oM 40 (.load 1 false (.t 39)) [0, 1], oM 41 (.mov (.t 5)) [0, 1, 2, 3], oM 42 (.iaddr 1 (.t 40) (.t 41)) [0, 1], oM 43 (.load 1 false (.t 42)) [0, 1], oB 44 (.call 81 [(.t 38), (.t 43)])]) (.cond (.t 44) (.seq (.ops [oB 2 (.mov bF)]) (.ret)) (.skip)))) (.ops [oB 35 (.mov (.t 5)), oB 36 (.bin .add (.t 35) (iN 1)), oB 5 (.mov (.t 36))]))
def Zwd : C := .seq (.seq (.ops [oB 6 (.mov (.t 3)), oB 7 (.faddr 5 (.t 1)), oB 8 (.load 1 false (.t 7)), oB 9 (.len (.t 8)), oB 10 (.bin .lss (.t 6) (.t 9))]) (.cond (.t 10) (.skip) (.exit 0))) (.seq (.block 1 (.seq (.ops [oB 13 (.faddr 5 (.t 1)), oB 14 (.load 1 false (.t 13)), oB 15 (.mov (.t 3)), oB 16 (.iaddr 2 (.t 14) (.t 15)), oB 17 (.load 2 true (.t 16)), oB 4 (.alloc (.agg [(.nilsl 1), (.nilsl 1)])), oA (.store 2 (.t 4) (.t 17))]) (.seq (.seq (.ops [oB 18 (.load 6 true (.t 1)), oB 19 (.faddr 0 (.t 4)), oB 20 (.load 1 false (.t 19)), oB 21 (.call 96 [(.t 18), (.t 20)]), oB 22 (.un .not (.t 21)), oB 23 (.mov (.t 22)), oG 24 (.load 6 true (.t 1)) 23 false, oG 25 (.faddr 1 (.t 4)) 23 false, oG 26 (.load 1 false (.t 25)) 23 false, oG 27 (.call 96 [(.t 24), (.t 26)]) 23 false, oG 28 (.un .not (.t 27)) 23 false, oB 29 (.pick (.t 23) bT (.t 28))]) (.cond (.t 29) (.seq (.ops [oB 2 (.mov bF)]) (.ret)) (.skip))) (.seq (.ops [oB 5 (.mov (iN 0))]) (.block 2 (.loop [1, 3, 4, 5] [1, 2, 3] Zwc)))))) (.ops [oB 11 (.mov (.t 3)), oB 12 (.bin .add (.t 11) (iN 1)), oB 3 (.mov (.t 12))]))
def ZCA : C := .seq (.ops [oB 1 (.box (.t 0)), oB 2 (.mov bF)]) (.seq (.seq (.ops [oB 3 (.mov (iN 0))]) (.block 0 (.loop [1, 3] [2] Zwd))) (.seq (.ops [oB 2 (.mov bT)]) (.ret)))
def ZAf : FnI := ⟨1, ZCA, [(2, none)]⟩
def ZCO : C := .seq (.ops [oB 2 (.mov (.c (.d (.int .u32 0))))]) (.seq (.ops [oB 3 (.mov (.t 0)), oB 4 (.conv .u32 (.t 3)), oB 2 (.mov (.t 4))]) (.ret))
def ZzI : FnI := ⟨1, ZCO, [(2, none)]⟩
def ZCK : C := .seq (.ops [oB 0 (.alloc (.d (.agg [.int .u32 0, .nilfn, .int .u32 0, .nilfn, .int .u32 0, .nilfn, .int .u32 0, .nilfn])))]) (.seq (.ops [oB 1 (.build [(.d (.int .u32 0)), (.d (.nilfn))] [(0, 1, (.c (.d (.int .u32 0)))), (1, 1, (.c (.d (.fn 97 []))))]), oB 2 (.build [(.d (.int .u32 0)), (.d (.nilfn))] [(0, 1, (.c (.d (.int .u32 1)))), (1, 1, (.c (.d (.fn 98 []))))]), oB 3 (.build [(.d (.int .u32 0)), (.d (.nilfn))] [(0, 1, (.c (.d (.int .u32 0)))), (1, 1, (.c (.d (.fn 99 []))))]), oB 4 (.build [(.d (.int .u32 0)), (.d (.nilfn))] [(0, 1, (.c (.d (.int .u32 7)))), (1, 1, (.c (.d (.fn 100 []))))]), oB 5 (.build [(.d (.int .u32 0)), (.d (.nilfn)), (.d (.int .u32 0)), (.d (.nilfn)), (.d (.int .u32 0)), (.d (.nilfn)), (.d (.int .u32 0)), (.d (.nilfn))] [(0, 2, (.t 1)), (2, 2, (.t 2)), (4, 2, (.t 3)), (6, 2, (.t 4))]), oA (.store 8 (.t 0) (.t 5))]) (.ret))
def ZyW : FnI := ⟨0, ZCK, [(0, some (8, true))]⟩
def ZCU : C := .seq (.ops [oB 2 (.mov (.c (.nilsl 1)))]) (.seq (.seq (.ops [oB 3 (.mov (.t 0)), oB 4 (.nilq (.t 3))]) (.cond (.t 4) (.seq (.ops [oB 2 (.mov (.c (.nilsl 1)))]) (.ret)) (.skip))) (.seq (.ops [oB 5 (.bslice 1 [.int .i64 0] 0 []), oB 6 (.mov (.t 0)), oB 7 (.append 1 (.t 5) (.t 6)), oB 2 (.mov (.t 7))]) (.ret)))
def ZzL : FnI := ⟨1, ZCU, [(2, none)]⟩
def Zvv : C := .seq (.ops [oB 17 (.bin .lss (.t 16) (.t 15))]) (.seq (.cond (.t 17) (.skip) (.exit 0)) (.seq (.block 1 (.seq (.ops [oB 18 (.iaddr 2 (.t 14) (.t 16)), oB 19 (.load 2 true (.t 18)), oB 7 (.alloc (.d (.agg [.int .i64 0, .int .i64 0]))), oA (.store 2 (.t 7) (.t 19))]) (.seq (.ops [oB 20 (.faddr 1 (.t 7)), oB 21 (.load 1 false (.t 20)), oB 22 (.mov (.t 1)), oB 23 (.bin .eql (.t 21) (.t 22))]) (.cond (.t 23) (.ops [oB 24 (.mov (.t 5)), oB 25 (.faddr 0 (.t 7)), oB 26 (.load 1 false (.t 25)), oB 27 (.bslice 1 [.int .i64 0] 1 [(0, (.t 26))]), oB 28 (.append 1 (.t 24) (.t 27)), oB 5 (.mov (.t 28))]) (.skip))))) (.ops [oB 29 (.bin .add (.t 16) (iN 1)), oB 16 (.mov (.t 29))])))
def Zv6 : C := .seq (.ops [oB 35 (.bin .lss (.t 34) (.t 33))]) (.seq (.cond (.t 35) (.skip) (.exit 2)) (.seq (.block 3 (.seq (.ops [oB 36 (.iaddr 1 (.t 32) (.t 34)), oB 37 (.load 1 false (.t 36)), oB 9 (.mov (.t 37))]) (.ops [oB 38 (.mov (.t 5)), oB 39 (.faddr 4 (.t 2)), oB 40 (.load 1 false (.t 39)), oB 41 (.mov (.t 9)), oB 42 (.iaddr 3 (.t 40) (.t 41)), oB 43 (.faddr 0 (.t 42)), oB 44 (.load 1 false (.t 43)), oB 45 (.bslice 1 [.int .i64 0] 1 [(0, (.t 44))]), oB 46 (.append 1 (.t 38) (.t 45)), oB 5 (.mov (.t 46))]))) (.ops [oB 47 (.bin .add (.t 34) (iN 1)), oB 34 (.mov (.t 47))])))
def ZCp : C := .seq (.ops [oB 2 (.box (.t 0)), oB 4 (.mov (.c (.nilsl 1)))]) (.seq (.seq (.ops [oB 10 (.load 6 true (.t 2)), oB 11 (.call 55 [(.t 10)]), oB 12 (.bin .neq (.t 11) (iN 0))]) (.cond (.t 12) (.seq (.ops [oB 4 (.mov (.c (.nilsl 1)))]) (.ret)) (.skip))) (.seq (.ops [oB 5 (.mov (.c (.nilsl 1)))]) (.seq (.seq (.ops [oB 13 (.faddr 3 (.t 2)), oB 14 (.load 1 false (.t 13)), oB 15 (.len (.t 14)), oB 16 (.mov (iN 0))]) (.block 0 (.loop [1, 2, 5, 14, 15, 16] [1, 2, 5] Zvv))) (.seq (.seq (.ops [oB 30 (.load 6 true (.t 2)), oB 31 (.mov (.t 1)), oB 32 (.call 101 [(.t 30), (.t 31)]), oB 33 (.len (.t 32)), oB 34 (.mov (iN 0))]) (.block 2 (.loop [2, 5, 32, 33, 34] [5] Zv6))) (.seq (.ops [oB 48 (.mov (.t 5)), oB 4 (.mov (.t 48))]) (.ret))))))
def ZzO : FnI := ⟨2, ZCp, [(4, none)]⟩
def Zw3 : C := .seq (.ops [oB 17 (.bin .lss (.t 16) (.t 15))]) (.seq (.cond (.t 17) (.skip) (.exit 0)) (.seq (.block 1 (.seq (.ops [oB 18 (.iaddr 2 (.t 14) (.t 16)), oB 19 (.load 2 true (.t 18)), oB 8 (.alloc (.d (.agg [.int .i64 0, .int .i64 0]))), oA (.store 2 (.t 8) (.t 19))]) (.seq (.ops [oB 20 (.faddr 1 (.t 8)), oB 21 (.load 1 false (.t 20)), oB 22 (.mov (.t 2)), oB 23 (.bin .eql (.t 21) (.t 22)), oB 24 (.mov (.t 23)), oG 25 (.load 6 true (.t 3)) 24 true, oG 26 (.load 2 true (.t 4)) 24 true, oG 27 (.faddr 0 (.t 8)) 24 true, oG 28 (.load 1 false (.t 27)) 24 true, oG 29 (.call 46 [(.t 25), (.t 26), (.t 28)]) 24 true, oG 30 (.un .not (.t 29)) 24 true, oB 31 (.pick (.t 24) (.t 30) bF)]) (.cond (.t 31) (.seq (.ops [oB 6 (.mov bF)]) (.ret)) (.skip))))) (.ops [oB 32 (.bin .add (.t 16) (iN 1)), oB 16 (.mov (.t 32))])))
def ZwP : C := .seq (.ops [oB 49 (.bin .lss (.t 48) (.t 47))]) (.seq (.cond (.t 49) (.skip) (.exit 4)) (.seq (.block 5 (.seq (.ops [oB 50 (.iaddr 1 (.t 46) (.t 48)), oB 51 (.load 1 false (.t 50)), oB 12 (.mov (.t 51))]) (.seq (.ops [oB 52 (.load 6 true (.t 3)), oB 53 (.load 2 true (.t 4)), oB 54 (.mov (.t 12)), oB 55 (.call 46 [(.t 52), (.t 53), (.t 54)]), oB 56 (.un .not (.t 55))]) (.cond (.t 56) (.seq (.ops [oB 6 (.mov bF)]) (.ret)) (.skip))))) (.ops [oB 57 (.bin .add (.t 48) (iN 1)), oB 48 (.mov (.t 57))])))
def Zwh : C := .seq (.ops [oB 37 (.bin .lss (.t 36) (.t 35))]) (.seq (.cond (.t 37) (.skip) (.exit 2)) (.seq (.block 3 (.seq (.ops [oB 38 (.iaddr 2 (.t 34) (.t 36)), oB 39 (.load 2 true (.t 38)), oB 10 (.alloc (.agg [(.nilsl 1), (.nilsl 1)])), oA (.store 2 (.t 10) (.t 39))]) (.seq (.seq (.ops [oB 40 (.faddr 1 (.t 10)), oB 41 (.load 1 false (.t 40)), oB 42 (.mov (.t 2)), oB 43 (.call 91 [(.t 41), (.t 42)]), oB 44 (.un .not (.t 43))]) (.cond (.t 44) (.exit 3) (.skip))) (.seq (.ops [oB 45 (.faddr 0 (.t 10)), oB 46 (.load 1 false (.t 45)), oB 47 (.len (.t 46)), oB 48 (.mov (iN 0))]) (.block 4 (.loop [2, 3, 4, 34, 35, 36, 46, 47, 48] [2, 3, 4, 6, 34, 35, 36] ZwP)))))) (.ops [oB 58 (.bin .add (.t 36) (iN 1)), oB 36 (.mov (.t 58))])))
def ZCF : C := .seq (.ops [oB 3 (.box (.t 0)), oB 4 (.box (.t 1)), oB 6 (.mov bF)]) (.seq (.seq (.ops [oB 13 (.faddr 3 (.t 3)), oB 14 (.load 1 false (.t 13)), oB 15 (.len (.t 14)), oB 16 (.mov (iN 0))]) (.block 0 (.loop [2, 3, 4, 14, 15, 16] [2, 3, 4, 6] Zw3))) (.seq (.skip) (.seq (.seq (.ops [oB 33 (.faddr 5 (.t 3)), oB 34 (.load 1 false (.t 33)), oB 35 (.len (.t 34)), oB 36 (.mov (iN 0))]) (.block 2 (.loop [2, 3, 4, 34, 35, 36] [6] Zwh))) (.seq (.ops [oB 6 (.mov bT)]) (.ret)))))
def Zy5 : FnI := ⟨3, ZCF, [(6, none)]⟩
def Zvi : C := .seq (.seq (.ops [oB 10 (.mov (.t 6)), oB 11 (.faddr 3 (.t 2)), oB 12 (.load 1 false (.t 11)), oB 13 (.len (.t 12)), oB 14 (.bin .lss (.t 10) (.t 13))]) (.cond (.t 14) (.skip) (.exit 0))) (.seq (.block 1 (.seq (.ops [oB 17 (.faddr 3 (.t 2)), oB 18 (.load 1 false (.t 17)), oB 19 (.mov (.t 6)), oB 20 (.iaddr 2 (.t 18) (.t 19)), oB 21 (.faddr 1 (.t 20)), oB 22 (.load 1 false (.t 21)), oB 23 (.mov (.t 1)), oB 24 (.bin .eql (.t 22) (.t 23))]) (.cond (.t 24) (.ops [oB 25 (.mov (.t 5)), oB 26 (.faddr 3 (.t 2)), oB 27 (.load 1 false (.t 26)), oB 28 (.mov (.t 6)), oB 29 (.iaddr 2 (.t 27) (.t 28)), oB 30 (.faddr 0 (.t 29)), oB 31 (.load 1 false (.t 30)), oB 32 (.bslice 1 [.int .i64 0] 1 [(0, (.t 31))]), oB 33 (.append 1 (.t 25) (.t 32)), oB 5 (.mov (.t 33))]) (.skip)))) (.ops [oB 15 (.mov (.t 6)), oB 16 (.bin .add (.t 15) (iN 1)), oB 6 (.mov (.t 16))]))
def ZwG : C := .seq (.seq (.ops [oB 37 (.mov (.t 8)), oB 38 (.mov (.t 7)), oB 39 (.len (.t 38)), oB 40 (.bin .lss (.t 37) (.t 39))]) (.cond (.t 40) (.skip) (.exit 2))) (.seq (.block 3 (.draw [oB 43 (.mov (.t 5)), oM 44 (.faddr 4 (.t 2)) [0], oM 45 (.load 1 false (.t 44)) [0], oM 46 (.mov (.t 7)) [0, 1, 2], oM 47 (.mov (.t 8)) [0, 1, 2, 3], oM 48 (.iaddr 1 (.t 46) (.t 47)) [0, 1, 2], oM 49 (.load 1 false (.t 48)) [0, 1, 2], oM 50 (.iaddr 3 (.t 45) (.t 49)) [0], oM 51 (.faddr 0 (.t 50)) [0], oM 52 (.load 1 false (.t 51)) [0], oM 53 (.bslice 1 [.int .i64 0] 1 [(0, (.t 52))]) [0], ⟨some 54, .append 1 (.t 43) (.t 53), none, [], 4⟩, oB 5 (.mov (.t 54))])) (.ops [oB 41 (.mov (.t 8)), oB 42 (.bin .add (.t 41) (iN 1)), oB 8 (.mov (.t 42))]))
def ZCs : C := .seq (.ops [oB 2 (.box (.t 0)), oB 4 (.mov (.c (.nilsl 1)))]) (.seq (.ops [oB 9 (.bslice 1 [.int .i64 0] 0 []), oB 5 (.mov (.t 9))]) (.seq (.seq (.ops [oB 6 (.mov (iN 0))]) (.block 0 (.loop [1, 2, 5, 6] [1, 2, 5] Zvi))) (.seq (.ops [oB 34 (.load 6 true (.t 2)), oB 35 (.mov (.t 1)), oB 36 (.call 106 [(.t 34), (.t 35)]), oB 7 (.mov (.t 36))]) (.seq (.seq (.ops [oB 8 (.mov (iN 0))]) (.block 2 (.loop [2, 5, 7, 8] [5] ZwG))) (.seq (.ops [oB 55 (.mov (.t 5)), oB 4 (.mov (.t 55))]) (.ret))))))
def ZzK : FnI := ⟨2, ZCs, [(4, none)]⟩
def Zor : C := .seq (.seq (.ops [oB 49 (.mov (.t 8)), oB 50 (.mov (.t 2)), oB 51 (.len (.t 50)), oB 52 (.bin .lss (.t 49) (.t 51))]) (.cond (.t 52) (.skip) (.exit 1))) (.seq (.block 2 (.seq (.ops [oB 55 (.mov (.t 2)), oB 56 (.mov (.t 8)), oB 57 (.iaddr 1 (.t 55) (.t 56)), oB 58 (.load 1 false (.t 57)), oB 59 (.call 107 [(.t 58)]), oB 9 (.mov (.t 59))]) (.seq (.ops [oB 60 (.faddr 0 (.t 3)), oB 61 (.load 1 false (.t 60))]) (.block 3 (.seq (.ops [oB 63 (.bin .eql (.t 61) (iN 2)), oB 62 (.mov (.t 63))]) (.cond (.t 62) (.ops [oB 64 (.mov (.t 7)), oB 65 (.mov (.t 9)), oB 66 (.bin .add (.t 64) (.t 65)), oB 67 (.call 107 [(.t 66)]), oB 7 (.mov (.t 67))]) (.seq (.ops [oB 69 (.bin .eql (.t 61) (iN 3)), oB 68 (.mov (.t 69))]) (.cond (.t 68) (.ops [oB 70 (.mov (.t 7)), oB 71 (.mov (.t 9)), oB 72 (.call 108 [(.t 70), (.t 71)]), oB 7 (.mov (.t 72))]) (.seq (.ops [oB 74 (.bin .eql (.t 61) (iN 4)), oB 73 (.mov (.t 74))]) (.cond (.t 73) (.ops [oB 75 (.mov (.t 7)), oB 76 (.mov (.t 9)), oB 77 (.mx true [(.t 75), (.t 76)]), oB 7 (.mov (.t 77))]) (.seq (.ops [oB 79 (.bin .eql (.t 61) (iN 5)), oB 78 (.mov (.t 79))]) (.cond (.t 78) (.ops [oB 80 (.mov (.t 7)), oB 81 (.bin .mul (.t 80) (iN 31)), oB 82 (.mov (.t 9)), oB 83 (.bin .add (.t 81) (.t 82)), oB 84 (.call 107 [(.t 83)]), oB 7 (.mov (.t 84))]) (.skip))))))))))))) (.ops [oB 53 (.mov (.t 8)), oB 54 (.bin .add (.t 53) (iN 1)), oB 8 (.mov (.t 54))]))
def ZC7 : C := .seq (.ops [oB 3 (.box (.t 0)), oB 6 (.mov (iN 0))]) (.seq (.seq (.ops [oB 10 (.faddr 0 (.t 3)), oB 11 (.load 1 false (.t 10))]) (.block 0 (.seq (.ops [oB 13 (.bin .eql (.t 11) (iN 0)), oB 12 (.mov (.t 13))]) (.cond (.t 12) (.seq (.seq (.ops [oB 14 (.faddr 1 (.t 3)), oB 15 (.load 1 false (.t 14)), oB 16 (.bin .lss (.t 15) (iN 0)), oB 17 (.mov (.t 16)), oG 18 (.faddr 1 (.t 3)) 17 false, oG 19 (.load 1 false (.t 18)) 17 false, oG 20 (.mov (.t 1)) 17 false, oG 21 (.len (.t 20)) 17 false, oG 22 (.bin .geq (.t 19) (.t 21)) 17 false, oB 23 (.pick (.t 17) bT (.t 22))]) (.cond (.t 23) (.seq (.ops [oB 6 (.mov (iN 0))]) (.ret)) (.skip))) (.seq (.ops [oB 24 (.mov (.t 1)), oB 25 (.faddr 1 (.t 3)), oB 26 (.load 1 false (.t 25)), oB 27 (.iaddr 1 (.t 24) (.t 26)), oB 28 (.load 1 false (.t 27)), oB 29 (.call 107 [(.t 28)]), oB 6 (.mov (.t 29))]) (.ret))) (.seq (.ops [oB 31 (.bin .eql (.t 11) (iN 1)), oB 30 (.mov (.t 31))]) (.cond (.t 30) (.seq (.ops [oB 32 (.faddr 1 (.t 3)), oB 33 (.load 1 false (.t 32)), oB 34 (.call 107 [(.t 33)]), oB 6 (.mov (.t 34))]) (.ret)) (.skip))))))) (.seq (.seq (.ops [oB 35 (.faddr 0 (.t 3)), oB 36 (.load 1 false (.t 35)), oB 37 (.bin .lss (.t 36) (iN 0)), oB 38 (.mov (.t 37)), oG 39 (.faddr 0 (.t 3)) 38 false, oG 40 (.load 1 false (.t 39)) 38 false, oG 41 (.bin .gtr (.t 40) (iN 5)) 38 false, oB 42 (.pick (.t 38) bT (.t 41))]) (.cond (.t 42) (.seq (.ops [oB 6 (.mov (iN 0))]) (.ret)) (.skip))) (.seq (.ops [oB 7 (.mov (iN 0))]) (.seq (.seq (.ops [oB 43 (.faddr 0 (.t 3)), oB 44 (.load 1 false (.t 43)), oB 45 (.bin .eql (.t 44) (iN 3))]) (.cond (.t 45) (.ops [oB 7 (.mov (iN 1))]) (.skip))) (.seq (.seq (.ops [oB 46 (.faddr 0 (.t 3)), oB 47 (.load 1 false (.t 46)), oB 48 (.bin .eql (.t 47) (iN 5))]) (.cond (.t 48) (.ops [oB 7 (.mov (iN 7))]) (.skip))) (.seq (.seq (.ops [oB 8 (.mov (iN 0))]) (.block 1 (.loop [2, 3, 7, 8] [7] Zor))) (.seq (.ops [oB 85 (.mov (.t 7)), oB 6 (.mov (.t 85))]) (.ret))))))))
def Zzy : FnI := ⟨3, ZC7, [(6, none)]⟩
def Zvh : C := .seq (.seq (.ops [oB 6 (.mov (.t 5)), oB 7 (.mov (.t 0)), oB 8 (.len (.t 7)), oB 9 (.bin .lss (.t 6) (.t 8))]) (.cond (.t 9) (.skip) (.exit 0))) (.seq (.block 1 (.seq (.ops [oB 12 (.mov (.t 0)), oB 13 (.mov (.t 5)), oB 14 (.iaddr 1 (.t 12) (.t 13)), oB 15 (.load 1 false (.t 14)), oB 16 (.mov (.t 1)), oB 17 (.bin .eql (.t 15) (.t 16))]) (.cond (.t 17) (.seq (.ops [oB 4 (.mov bT)]) (.ret)) (.skip)))) (.ops [oB 10 (.mov (.t 5)), oB 11 (.bin .add (.t 10) (iN 1)), oB 5 (.mov (.t 11))]))
def ZB3 : C := .seq (.ops [oB 4 (.mov bF)]) (.seq (.seq (.ops [oB 5 (.mov (iN 0))]) (.block 0 (.loop [0, 1, 5] [4] Zvh))) (.seq (.ops [oB 4 (.mov bF)]) (.ret)))
def Zy7 : FnI := ⟨2, ZB3, [(4, none)]⟩
def ZCZ : C := .seq (.ops [oB 6 (.mov bF)]) (.seq (.ops [oB 7 (.mov (.t 1)), oB 8 (.mov (.t 0)), oB 9 (.bin .leq (.t 7) (.t 8)), oB 10 (.mov (.t 9)), oG 11 (.mov (.t 0)) 10 true, oG 12 (.mov (.t 2)) 10 true, oG 13 (.bin .leq (.t 11) (.t 12)) 10 true, oB 14 (.pick (.t 10) (.t 13) bF), oB 6 (.mov (.t 14))]) (.ret))
def ZzS : FnI := ⟨3, ZCZ, [(6, none)]⟩
def ZCI : C := .seq (.ops [oB 2 (.mov (iN 0)), oB 3 (.mov bF)]) (.seq (.seq (.ops [oB 4 (.mov (.t 0)), oB 5 (.call 109 [(.t 4)]), oB 6 (.bin .neq (.t 5) (iN 0)), oB 7 (.mov (.t 6)), oG 8 (.mov (.t 0)) 7 false, oG 9 (.conv .u64 (.t 8)) 7 false, oG 10 (.call 110 [(.t 9)]) 7 false, oG 11 (.bin .neq (.t 10) (iN 1)) 7 false, oB 12 (.pick (.t 7) bT (.t 11))]) (.cond (.t 12) (.seq (.ops [oB 2 (.mov (iN 0)), oB 3 (.mov bF)]) (.ret)) (.skip))) (.seq (.ops [oB 13 (.mov (.t 0)), oB 14 (.conv .u64 (.t 13)), oB 15 (.call 111 [(.t 14)]), oB 2 (.mov (.t 15)), oB 3 (.mov bT)]) (.ret)))
def Zzs : FnI := ⟨1, ZCI, [(2, none), (3, none)]⟩
def ZDO : C := .seq (.ops [oB 4 (.mov bF)]) (.seq (.ops [oB 5 (.mov (.t 0)), oB 6 (.mov (.t 1)), oB 7 (.call 112 [(.t 5), (.t 6)]), oB 8 (.bin .geq (.t 7) (iN 0)), oB 4 (.mov (.t 8))]) (.ret))
def ZzH : FnI := ⟨2, ZDO, [(4, none)]⟩
def ZC5 : C := .seq (.ops [oB 1 (.box (.t 0)), oB 2 (.mov bF)]) (.seq (.ops [oB 3 (.faddr 0 (.t 1)), oB 4 (.load 1 false (.t 3)), oB 5 (.call 82 [(.t 4), (iN 0), (iN 5)]), oB 6 (.un .not (.t 5)), oB 7 (.mov (.t 6)), oG 8 (.faddr 1 (.t 1)) 7 false, oG 9 (.load 1 false (.t 8)) 7 false, oG 10 (.call 82 [(.t 9), (iN 0), (iN 2147483647)]) 7 false, oG 11 (.un .not (.t 10)) 7 false, oB 12 (.pick (.t 7) bT (.t 11)), oB 13 (.mov (.t 12)), oG 14 (.faddr 2 (.t 1)) 13 false, oG 15 (.load 1 false (.t 14)) 13 false, oG 16 (.call 82 [(.t 15), (iN 1), (iN 100)]) 13 false, oG 17 (.un .not (.t 16)) 13 false, oB 18 (.pick (.t 13) bT (.t 17)), oB 2 (.mov (.t 18))]) (.ret))
def Zy9 : FnI := ⟨1, ZC5, [(2, none)]⟩
def ZCq : C := .seq (.ops [oB 3 (.box (.t 0)), oB 6 (.mov bF)]) (.seq (.ops [oB 7 (.mov (.t 1)), oB 8 (.mov (.t 2)), oB 9 (.bin .neq (.t 7) (.t 8)), oB 10 (.mov (.t 9)), oG 11 (.mov (.t 1)) 10 true, oG 12 (.faddr 2 (.t 3)) 10 true, oG 13 (.load 1 false (.t 12)) 10 true, oG 14 (.len (.t 13)) 10 true, oG 15 (.bin .sub (.t 14) (iN 1)) 10 true, oG 16 (.call 82 [(.t 11), (iN 0), (.t 15)]) 10 true, oB 17 (.pick (.t 10) (.t 16) bF), oB 18 (.mov (.t 17)), oG 19 (.mov (.t 2)) 18 true, oG 20 (.faddr 2 (.t 3)) 18 true, oG 21 (.load 1 false (.t 20)) 18 true, oG 22 (.len (.t 21)) 18 true, oG 23 (.bin .sub (.t 22) (iN 1)) 18 true, oG 24 (.call 82 [(.t 19), (iN 0), (.t 23)]) 18 true, oB 25 (.pick (.t 18) (.t 24) bF), oB 6 (.mov (.t 25))]) (.ret))
def Zzj : FnI := ⟨3, ZCq, [(6, none)]⟩
def ZDp : C := .seq (.ops [oB 3 (.box (.t 1)), oB 4 (.mov bF)]) (.seq (.ops [oB 5 (.mov (.t 0)), oB 6 (.load 2 true (.t 3)), oB 7 (.call 113 [(.t 5), (.t 6)]), oB 8 (.bin .geq (.t 7) (iN 0)), oB 4 (.mov (.t 8))]) (.ret))
def ZzF : FnI := ⟨2, ZDp, [(4, none)]⟩
def ZD0 : C := .seq (.ops [oB 2 (.box (.t 0)), oB 3 (.mov bF)]) (.seq (.ops [oB 4 (.faddr 1 (.t 2)), oB 5 (.load 1 false (.t 4)), oB 6 (.faddr 1 (.t 1)), oB 7 (.load 1 false (.t 6)), oB 8 (.bin .eql (.t 5) (.t 7)), oB 9 (.mov (.t 8)), oG 10 (.faddr 2 (.t 2)) 9 true, oG 11 (.load 1 false (.t 10)) 9 true, oG 12 (.faddr 2 (.t 1)) 9 true, oG 13 (.load 1 false (.t 12)) 9 true, oG 14 (.bin .eql (.t 11) (.t 13)) 9 true, oB 15 (.pick (.t 9) (.t 14) bF), oB 3 (.mov (.t 15))]) (.ret))
def Zzb : FnI := ⟨2, ZD0, [(3, none)]⟩
def ZDf : C := .seq (.ops [oB 4 (.mov bF)]) (.seq (.ops [oB 5 (.mov (.t 0)), oB 6 (.mov (.t 1)), oB 7 (.call 114 [(.t 5), (.t 6)]), oB 8 (.bin .geq (.t 7) (iN 0)), oB 4 (.mov (.t 8))]) (.ret))
def Zxw : FnI := ⟨2, ZDf, [(4, none)]⟩
def ZCe : C := .seq (.ops [oB 3 (.mov bF)]) (.seq (.ops [oB 4 (.faddr 1 (.t 1)), oB 5 (.load 1 false (.t 4)), oB 6 (.mov (.t 0)), oB 7 (.call 91 [(.t 5), (.t 6)]), oB 3 (.mov (.t 7))]) (.ret))
def ZyZ : FnI := ⟨2, ZCe, [(3, none)]⟩
def ZCC : C := .seq (.ops [oB 4 (.mov bF)]) (.seq (.ops [oB 5 (.mov (.t 0)), oB 6 (.mov (.t 1)), oB 7 (.call 115 [(.t 5), (.t 6)]), oB 8 (.bin .geq (.t 7) (iN 0)), oB 4 (.mov (.t 8))]) (.ret))
def ZzT : FnI := ⟨2, ZCC, [(4, none)]⟩
def ZvK : C := .seq (.ops [oB 10 (.bin .lss (.t 9) (.t 8))]) (.seq (.cond (.t 10) (.skip) (.exit 0)) (.seq (.block 1 (.seq (.ops [oB 11 (.mov (.t 9)), oB 12 (.iaddr 1 (.t 7) (.t 9)), oB 13 (.load 1 false (.t 12)), oB 5 (.mov (.t 11)), oB 6 (.mov (.t 13))]) (.seq (.ops [oB 14 (.mov (.t 6)), oB 15 (.faddr 2 (.t 2)), oB 16 (.load 1 false (.t 15)), oB 17 (.len (.t 16)), oB 18 (.bin .sub (.t 17) (iN 1)), oB 19 (.call 82 [(.t 14), (iN 0), (.t 18)]), oB 20 (.un .not (.t 19)), oB 21 (.mov (.t 20)), oG 22 (.mov (.t 5)) 21 false, oG 23 (.bin .gtr (.t 22) (iN 0)) 21 false, oG 24 (.mov (.t 23)) 21 false, oG 25 (.mov (.t 1)) 24 true, oG 26 (.mov (.t 5)) 24 true, oG 27 (.bin .sub (.t 26) (iN 1)) 24 true, oG 28 (.iaddr 1 (.t 25) (.t 27)) 24 true, oG 29 (.load 1 false (.t 28)) 24 true, oG 30 (.mov (.t 6)) 24 true, oG 31 (.bin .geq (.t 29) (.t 30)) 24 true, oG 32 (.pick (.t 24) (.t 31) bF) 21 false, oB 33 (.pick (.t 21) bT (.t 32))]) (.cond (.t 33) (.seq (.ops [oB 4 (.mov bF)]) (.ret)) (.skip))))) (.ops [oB 34 (.bin .add (.t 9) (iN 1)), oB 9 (.mov (.t 34))])))
def ZC1 : C := .seq (.ops [oB 2 (.box (.t 0)), oB 4 (.mov bF)]) (.seq (.seq (.ops [oB 7 (.mov (.t 1)), oB 8 (.len (.t 7)), oB 9 (.mov (iN 0))]) (.block 0 (.loop [1, 2, 7, 8, 9] [1, 4] ZvK))) (.seq (.ops [oB 35 (.mov (.t 1)), oB 36 (.len (.t 35)), oB 37 (.bin .gtr (.t 36) (iN 0)), oB 4 (.mov (.t 37))]) (.ret)))
def Zzi : FnI := ⟨2, ZC1, [(4, none)]⟩
def ZCj : C := .seq (.ops [oB 4 (.mov bF)]) (.seq (.ops [oB 5 (.mov (.t 0)), oB 6 (.mov (.t 1)), oB 7 (.call 116 [(.t 5), (.t 6)]), oB 8 (.bin .geq (.t 7) (iN 0)), oB 4 (.mov (.t 8))]) (.ret))
def ZyY : FnI := ⟨2, ZCj, [(4, none)]⟩
def ZDz : C := .seq (.ops [oB 3 (.box (.t 0)), oB 4 (.mov bF)]) (.seq (.draw [oB 5 (.faddr 0 (.t 1)), oB 6 (.load 1 false (.t 5)), oM 7 (.faddr 1 (.t 3)) [0, 1], oM 8 (.load 1 false (.t 7)) [0, 1], oB 9 (.iaddr 1 (.t 6) (.t 8)), oB 10 (.load 1 false (.t 9)), oM 11 (.faddr 2 (.t 3)) [0, 1, 2, 3, 4, 5], oM 12 (.load 1 false (.t 11)) [0, 1, 2, 3, 4, 5], oB 13 (.bin .gtr (.t 10) (.t 12)), oB 14 (.mov (.t 13)), oG 15 (.load 6 true (.t 2)) 14 true, ⟨some 16, .load 2 true (.t 1), some (14, true), [10], 0⟩, ⟨some 17, .faddr 0 (.t 3), some (14, true), [10, 11], 0⟩, ⟨some 18, .load 1 false (.t 17), some (14, true), [10, 11], 0⟩, oG 19 (.call 46 [(.t 15), (.t 16), (.t 18)]) 14 true, oG 20 (.un .not (.t 19)) 14 true, oB 21 (.pick (.t 14) (.t 20) bF), oB 4 (.mov (.t 21))]) (.ret))
def Zz2 : FnI := ⟨3, ZDz, [(4, none)]⟩
def ZuZ : C := .seq (.seq (.ops [oB 6 (.mov (.t 5)), oB 7 (.bin .lss (.t 6) (iN 40))]) (.cond (.t 7) (.skip) (.exit 0))) (.seq (.block 1 (.seq (.seq (.ops [oB 10 (.mov (.t 4)), oB 11 (.mov (.t 0)), oB 12 (.bin .eql (.t 10) (.t 11))]) (.cond (.t 12) (.seq (.ops [oB 13 (.mov (.t 5)), oB 2 (.mov (.t 13)), oB 3 (.mov bT)]) (.ret)) (.skip))) (.ops [oB 14 (.mov (.t 4)), oB 15 (.bin .mul (iN 2) (.t 14)), oB 4 (.mov (.t 15))]))) (.ops [oB 8 (.mov (.t 5)), oB 9 (.bin .add (.t 8) (iN 1)), oB 5 (.mov (.t 9))]))
def ZDe : C := .seq (.ops [oB 2 (.mov (iN 0)), oB 3 (.mov bF)]) (.seq (.ops [oB 4 (.mov (iN 1))]) (.seq (.seq (.ops [oB 5 (.mov (iN 0))]) (.block 0 (.loop [0, 4, 5] [2, 3] ZuZ))) (.seq (.ops [oB 2 (.mov (iN 0)), oB 3 (.mov bF)]) (.ret))))
def Zzq : FnI := ⟨1, ZDe, [(2, none), (3, none)]⟩
def ZwT : C := .seq (.seq (.ops [oB 6 (.mov (.t 5)), oB 7 (.mov (.t 1)), oB 8 (.len (.t 7)), oB 9 (.bin .lss (.t 6) (.t 8))]) (.cond (.t 9) (.skip) (.exit 0))) (.seq (.block 1 (.seq (.draw [oB 12 (.load 6 true (.t 2)), oM 13 (.mov (.t 1)) [0], oM 14 (.mov (.t 5)) [0, 1], oM 15 (.iaddr 1 (.t 13) (.t 14)) [0], oM 16 (.load 1 false (.t 15)) [0], oB 17 (.call 49 [(.t 12), (.t 16)]), oB 18 (.un .not (.t 17)), oB 19 (.mov (.t 18)), oG 20 (.mov (.t 5)) 19 false, oG 21 (.bin .gtr (.t 20) (iN 0)) 19 false, oG 22 (.mov (.t 21)) 19 false, oG 23 (.mov (.t 1)) 22 true, ⟨some 24, .mov (.t 5), some (22, true), [11], 0⟩, ⟨some 25, .bin .sub (.t 24) (iN 1), some (22, true), [11], 0⟩, oG 26 (.iaddr 1 (.t 23) (.t 25)) 22 true, oG 27 (.load 1 false (.t 26)) 22 true, ⟨some 28, .mov (.t 1), some (22, true), [11, 12, 13, 14, 15], 0⟩, ⟨some 29, .mov (.t 5), some (22, true), [11, 12, 13, 14, 15, 16], 0⟩, ⟨some 30, .iaddr 1 (.t 28) (.t 29), some (22, true), [11, 12, 13, 14, 15], 0⟩, ⟨some 31, .load 1 false (.t 30), some (22, true), [11, 12, 13, 14, 15], 0⟩, oG 32 (.bin .geq (.t 27) (.t 31)) 22 true, oG 33 (.pick (.t 22) (.t 32) bF) 19 false, oB 34 (.pick (.t 19) bT (.t 33))]) (.cond (.t 34) (.seq (.ops [oB 4 (.mov bF)]) (.ret)) (.skip)))) (.ops [oB 10 (.mov (.t 5)), oB 11 (.bin .add (.t 10) (iN 1)), oB 5 (.mov (.t 11))]))
def ZCR : C := .seq (.ops [oB 2 (.box (.t 0)), oB 4 (.mov bF)]) (.seq (.seq (.ops [oB 5 (.mov (iN 0))]) (.block 0 (.loop [1, 2, 5] [1, 4] ZwT))) (.seq (.ops [oB 35 (.mov (.t 1)), oB 36 (.len (.t 35)), oB 37 (.bin .gtr (.t 36) (iN 0)), oB 4 (.mov (.t 37))]) (.ret)))
def ZyX : FnI := ⟨2, ZCR, [(4, none)]⟩
def ZCJ : C := .seq (.ops [oB 4 (.mov (.c (.d (.int .u32 0))))]) (.seq (.ops [oB 5 (.mov (.t 0)), oB 6 (.mov (.t 1)), oB 7 (.bin .add (.t 5) (.t 6)), oB 4 (.mov (.t 7))]) (.ret))
def ZzR : FnI := ⟨2, ZCJ, [(4, none)]⟩
def ZC3 : C := .seq (.ops [oB 4 (.mov (.c (.d (.int .u32 0))))]) (.seq (.ops [oB 5 (.mov (.t 0)), oB 6 (.mov (.t 1)), oB 7 (.bin .mul (.t 5) (.t 6)), oB 4 (.mov (.t 7))]) (.ret))
def ZyR : FnI := ⟨2, ZC3, [(4, none)]⟩
def ZCM : C := .seq (.ops [oB 4 (.mov (.c (.d (.int .u32 0))))]) (.seq (.ops [oB 5 (.mov (.t 0)), oB 6 (.mov (.t 1)), oB 7 (.mx true [(.t 5), (.t 6)]), oB 4 (.mov (.t 7))]) (.ret))
def ZyU : FnI := ⟨2, ZCM, [(4, none)]⟩
def ZAP : C := .seq (.ops [oB 4 (.mov (.c (.d (.int .u32 0))))]) (.seq (.ops [oB 5 (.mov (.t 0)), oB 6 (.bin .mul (.t 5) (.c (.d (.int .u32 31)))), oB 7 (.mov (.t 1)), oB 8 (.bin .add (.t 6) (.t 7)), oB 4 (.mov (.t 8))]) (.ret))
def ZvL : FnI := ⟨2, ZAP, [(4, none)]⟩
def ZtN : C := .seq (.ops [oB 15 (.bin .lss (.t 14) (.t 13))]) (.seq (.cond (.t 15) (.skip) (.exit 0)) (.seq (.block 1 (.seq (.ops [oB 16 (.mov (.t 14)), oB 17 (.iaddr 3 (.t 12) (.t 14)), oB 18 (.load 3 true (.t 17)), oB 7 (.alloc (.d (.agg [.int .i64 0, .int .i64 0, .int .i64 0]))), oB 6 (.mov (.t 16)), oA (.store 3 (.t 7) (.t 18))]) (.seq (.ops [oB 19 (.faddr 1 (.t 7)), oB 20 (.load 1 false (.t 19)), oB 21 (.mov (.t 1)), oB 22 (.bin .eql (.t 20) (.t 21))]) (.cond (.t 22) (.ops [oB 23 (.mov (.t 5)), oB 24 (.mov (.t 6)), oB 25 (.bslice 1 [.int .i64 0] 1 [(0, (.t 24))]), oB 26 (.append 1 (.t 23) (.t 25)), oB 5 (.mov (.t 26))]) (.skip))))) (.ops [oB 27 (.bin .add (.t 14) (iN 1)), oB 14 (.mov (.t 27))])))
def ZA9 : C := .seq (.ops [oB 2 (.box (.t 0)), oB 4 (.mov (.c (.nilsl 1)))]) (.seq (.seq (.ops [oB 8 (.load 6 true (.t 2)), oB 9 (.call 55 [(.t 8)]), oB 10 (.bin .neq (.t 9) (iN 0))]) (.cond (.t 10) (.seq (.ops [oB 4 (.mov (.c (.nilsl 1)))]) (.ret)) (.skip))) (.seq (.ops [oB 5 (.mov (.c (.nilsl 1)))]) (.seq (.seq (.ops [oB 11 (.faddr 4 (.t 2)), oB 12 (.load 1 false (.t 11)), oB 13 (.len (.t 12)), oB 14 (.mov (iN 0))]) (.block 0 (.loop [1, 2, 5, 12, 13, 14] [2, 5] ZtN))) (.seq (.ops [oB 28 (.mov (.t 5)), oB 29 (.mkfn 118 [(.t 2)]), oB 30 (.call 117 [(.t 28), (.t 29)])]) (.seq (.ops [oB 31 (.mov (.t 5)), oB 4 (.mov (.t 31))]) (.ret))))))
def Zv2 : FnI := ⟨2, ZA9, [(4, none)]⟩
def Zt6 : C := .seq (.seq (.ops [oB 13 (.mov (.t 7)), oB 14 (.faddr 4 (.t 2)), oB 15 (.load 1 false (.t 14)), oB 16 (.len (.t 15)), oB 17 (.bin .lss (.t 13) (.t 16))]) (.cond (.t 17) (.skip) (.exit 2))) (.seq (.block 3 (.seq (.ops [oB 20 (.faddr 4 (.t 2)), oB 21 (.load 1 false (.t 20)), oB 22 (.mov (.t 7)), oB 23 (.iaddr 3 (.t 21) (.t 22)), oB 24 (.faddr 1 (.t 23)), oB 25 (.load 1 false (.t 24)), oB 26 (.mov (.t 1)), oB 27 (.bin .eql (.t 25) (.t 26)), oB 28 (.mov (.t 27)), oG 29 (.faddr 4 (.t 2)) 28 true, oG 30 (.load 1 false (.t 29)) 28 true, oG 31 (.mov (.t 7)) 28 true, oG 32 (.iaddr 3 (.t 30) (.t 31)) 28 true, oG 33 (.faddr 2 (.t 32)) 28 true, oG 34 (.load 1 false (.t 33)) 28 true, oG 35 (.mov (.t 6)) 28 true, oG 36 (.bin .eql (.t 34) (.t 35)) 28 true, oB 37 (.pick (.t 28) (.t 36) bF)]) (.cond (.t 37) (.ops [oB 38 (.mov (.t 5)), oB 39 (.mov (.t 7)), oB 40 (.bslice 1 [.int .i64 0] 1 [(0, (.t 39))]), oB 41 (.append 1 (.t 38) (.t 40)), oB 5 (.mov (.t 41))]) (.skip)))) (.ops [oB 18 (.mov (.t 7)), oB 19 (.bin .add (.t 18) (iN 1)), oB 7 (.mov (.t 19))]))
def ZtE : C := .seq (.seq (.ops [oB 9 (.mov (.t 6)), oB 10 (.bin .lss (.t 9) (iN 100))]) (.cond (.t 10) (.skip) (.exit 0))) (.seq (.block 1 (.seq (.ops [oB 7 (.mov (iN 0))]) (.block 2 (.loop [1, 2, 5, 6, 7] [1, 2, 5, 6] Zt6)))) (.ops [oB 11 (.mov (.t 6)), oB 12 (.bin .add (.t 11) (iN 1)), oB 6 (.mov (.t 12))]))
def ZAy : C := .seq (.ops [oB 2 (.box (.t 0)), oB 4 (.mov (.c (.nilsl 1)))]) (.seq (.ops [oB 8 (.bslice 1 [.int .i64 0] 0 []), oB 5 (.mov (.t 8))]) (.seq (.seq (.ops [oB 6 (.mov (iN 1))]) (.block 0 (.loop [1, 2, 5, 6] [5] ZtE))) (.seq (.ops [oB 42 (.mov (.t 5)), oB 4 (.mov (.t 42))]) (.ret))))
def ZvY : FnI := ⟨2, ZAy, [(4, none)]⟩
def ZAO : C := .seq (.ops [oB 2 (.mov (iN 0))]) (.seq (.ops [oB 3 (.mov (.t 0)), oB 4 (.bin .rem (.t 3) (iN 4294967296)), oB 0 (.mov (.t 4))]) (.seq (.seq (.ops [oB 5 (.mov (.t 0)), oB 6 (.bin .lss (.t 5) (iN 0))]) (.cond (.t 6) (.ops [oB 7 (.mov (.t 0)), oB 8 (.bin .add (.t 7) (iN 4294967296)), oB 0 (.mov (.t 8))]) (.skip))) (.seq (.ops [oB 9 (.mov (.t 0)), oB 2 (.mov (.t 9))]) (.ret))))
def ZwI : FnI := ⟨1, ZAO, [(2, none)]⟩
def ZAj : C := .seq (.ops [oB 4 (.mov (iN 0))]) (.seq (.ops [oB 7 (.mov (.t 0)), oB 8 (.bin .quo (.t 7) (iN 65536)), oB 9 (.mov (.t 0)), oB 10 (.bin .rem (.t 9) (iN 65536)), oB 5 (.mov (.t 8)), oB 6 (.mov (.t 10))]) (.seq (.ops [oB 11 (.mov (.t 5)), oB 12 (.mov (.t 1)), oB 13 (.bin .mul (.t 11) (.t 12)), oB 14 (.call 107 [(.t 13)]), oB 15 (.bin .rem (.t 14) (iN 65536)), oB 16 (.bin .mul (.t 15) (iN 65536)), oB 17 (.mov (.t 6)), oB 18 (.mov (.t 1)), oB 19 (.bin .mul (.t 17) (.t 18)), oB 20 (.bin .add (.t 16) (.t 19)), oB 21 (.call 107 [(.t 20)]), oB 4 (.mov (.t 21))]) (.ret)))
def ZvH : FnI := ⟨2, ZAj, [(4, none)]⟩
def ZBw : C := .seq (.ops [oB 2 (.mov (iN 0))]) (.seq (.block 0 (.seq (.ops [oB 4 (.mov (.t 0)), oB 5 (.bin .lss (.t 4) (iN 0)), oB 3 (.mov (.t 5))]) (.cond (.t 3) (.seq (.ops [oB 2 (.mov (iN 10))]) (.ret)) (.seq (.ops [oB 7 (.mov (.t 0)), oB 8 (.bin .gtr (.t 7) (iN 1099511627775)), oB 6 (.mov (.t 8))]) (.cond (.t 6) (.seq (.ops [oB 2 (.mov (iN 11))]) (.ret)) (.skip)))))) (.seq (.ops [oB 2 (.mov (iN 0))]) (.ret)))
def Zwp : FnI := ⟨1, ZBw, [(2, none)]⟩
def ZBk : C := .seq (.ops [oB 2 (.mov (iN 0))]) (.seq (.cond bF (.seq (.ops [oB 3 (.mov (.t 0)), oB 4 (.conv .u32 (.t 3)), oB 5 (.call 120 [(.t 4)]), oB 2 (.mov (.t 5))]) (.ret)) (.skip)) (.seq (.ops [oB 6 (.mov (.t 0)), oB 7 (.call 121 [(.t 6)]), oB 2 (.mov (.t 7))]) (.ret)))
def Zwg : FnI := ⟨1, ZBk, [(2, none)]⟩
def ZA7 : C := .seq (.ops [oB 2 (.mov (iN 0))]) (.seq (.cond bF (.seq (.ops [oB 3 (.mov (.t 0)), oB 4 (.conv .u32 (.t 3)), oB 5 (.call 122 [(.t 4)]), oB 2 (.mov (.t 5))]) (.ret)) (.skip)) (.seq (.ops [oB 6 (.mov (.t 0)), oB 7 (.call 123 [(.t 6)]), oB 2 (.mov (.t 7))]) (.ret)))
def ZwM : FnI := ⟨1, ZA7, [(2, none)]⟩
def Zt9 : C := .seq (.ops [oB 9 (.bin .lss (.t 8) (.t 7))]) (.seq (.cond (.t 9) (.skip) (.exit 0)) (.seq (.block 1 (.seq (.ops [oB 10 (.mov (.t 8)), oB 5 (.mov (.t 10))]) (.seq (.ops [oB 11 (.mov (.t 1)), oB 12 (.mov (.t 0)), oB 13 (.mov (.t 5)), oB 14 (.iaddr 3 (.t 12) (.t 13)), oB 15 (.load 3 true (.t 14)), oB 16 (.callv (.t 11) [(.t 15)])]) (.cond (.t 16) (.seq (.ops [oB 17 (.mov (.t 5)), oB 4 (.mov (.t 17))]) (.ret)) (.skip))))) (.ops [oB 18 (.bin .add (.t 8) (iN 1)), oB 8 (.mov (.t 18))])))
def ZBJ : C := .seq (.ops [oB 4 (.mov (iN 0))]) (.seq (.seq (.ops [oB 6 (.mov (.t 0)), oB 7 (.len (.t 6)), oB 8 (.mov (iN 0))]) (.block 0 (.loop [0, 1, 7, 8] [4] Zt9))) (.seq (.ops [oB 4 (.mov (iN (-1)))]) (.ret)))
def Zw9 : FnI := ⟨2, ZBJ, [(4, none)]⟩
def Ztq : C := .seq (.ops [oB 9 (.bin .lss (.t 8) (.t 7))]) (.seq (.cond (.t 9) (.skip) (.exit 0)) (.seq (.block 1 (.seq (.ops [oB 10 (.mov (.t 8)), oB 5 (.mov (.t 10))]) (.seq (.draw [oB 11 (.load 2 true (.t 3)), oM 12 (.mov (.t 0)) [0], oM 13 (.mov (.t 5)) [0, 1], oM 14 (.iaddr 2 (.t 12) (.t 13)) [0], oM 15 (.load 2 true (.t 14)) [0], oB 16 (.eqv [false, false] false (.t 11) (.t 15))]) (.cond (.t 16) (.seq (.ops [oB 17 (.mov (.t 5)), oB 4 (.mov (.t 17))]) (.ret)) (.skip))))) (.ops [oB 18 (.bin .add (.t 8) (iN 1)), oB 8 (.mov (.t 18))])))
def ZAV : C := .seq (.ops [oB 3 (.box (.t 1)), oB 4 (.mov (iN 0))]) (.seq (.seq (.ops [oB 6 (.mov (.t 0)), oB 7 (.len (.t 6)), oB 8 (.mov (iN 0))]) (.block 0 (.loop [0, 3, 7, 8] [4] Ztq))) (.seq (.ops [oB 4 (.mov (iN (-1)))]) (.ret)))
def ZvW : FnI := ⟨2, ZAV, [(4, none)]⟩
def Zq5 : C := .seq (.ops [oB 9 (.bin .lss (.t 8) (.t 7))]) (.seq (.cond (.t 9) (.skip) (.exit 0)) (.seq (.block 1 (.seq (.ops [oB 10 (.mov (.t 8)), oB 5 (.mov (.t 10))]) (.seq (.ops [oB 11 (.mov (.t 1)), oB 12 (.mov (.t 0)), oB 13 (.mov (.t 5)), oB 14 (.iaddr 3 (.t 12) (.t 13)), oB 15 (.load 3 true (.t 14)), oB 16 (.callv (.t 11) [(.t 15)])]) (.cond (.t 16) (.seq (.ops [oB 17 (.mov (.t 5)), oB 4 (.mov (.t 17))]) (.ret)) (.skip))))) (.ops [oB 18 (.bin .add (.t 8) (iN 1)), oB 8 (.mov (.t 18))])))
def ZAw : C := .seq (.ops [oB 4 (.mov (iN 0))]) (.seq (.seq (.ops [oB 6 (.mov (.t 0)), oB 7 (.len (.t 6)), oB 8 (.mov (iN 0))]) (.block 0 (.loop [0, 1, 7, 8] [4] Zq5))) (.seq (.ops [oB 4 (.mov (iN (-1)))]) (.ret)))
def ZtQ : FnI := ⟨2, ZAw, [(4, none)]⟩
def Zt0 : C := .seq (.ops [oB 9 (.bin .lss (.t 8) (.t 7))]) (.seq (.cond (.t 9) (.skip) (.exit 0)) (.seq (.block 1 (.seq (.ops [oB 10 (.mov (.t 8)), oB 5 (.mov (.t 10))]) (.seq (.ops [oB 11 (.mov (.t 1)), oB 12 (.mov (.t 0)), oB 13 (.mov (.t 5)), oB 14 (.iaddr 1 (.t 12) (.t 13)), oB 15 (.load 1 false (.t 14)), oB 16 (.bin .eql (.t 11) (.t 15))]) (.cond (.t 16) (.seq (.ops [oB 17 (.mov (.t 5)), oB 4 (.mov (.t 17))]) (.ret)) (.skip))))) (.ops [oB 18 (.bin .add (.t 8) (iN 1)), oB 8 (.mov (.t 18))])))
def ZBa : C := .seq (.ops [oB 4 (.mov (iN 0))]) (.seq (.seq (.ops [oB 6 (.mov (.t 0)), oB 7 (.len (.t 6)), oB 8 (.mov (iN 0))]) (.block 0 (.loop [0, 1, 7, 8] [4] Zt0))) (.seq (.ops [oB 4 (.mov (iN (-1)))]) (.ret)))
def Zw2 : FnI := ⟨2, ZBa, [(4, none)]⟩
def ZtT : C := .seq (.ops [oB 9 (.bin .lss (.t 8) (.t 7))]) (.seq (.cond (.t 9) (.skip) (.exit 0)) (.seq (.block 1 (.seq (.ops [oB 10 (.mov (.t 8)), oB 5 (.mov (.t 10))]) (.seq (.ops [oB 11 (.mov (.t 1)), oB 12 (.mov (.t 0)), oB 13 (.mov (.t 5)), oB 14 (.iaddr 1 (.t 12) (.t 13)), oB 15 (.load 1 false (.t 14)), oB 16 (.callv (.t 11) [(.t 15)])]) (.cond (.t 16) (.seq (.ops [oB 17 (.mov (.t 5)), oB 4 (.mov (.t 17))]) (.ret)) (.skip))))) (.ops [oB 18 (.bin .add (.t 8) (iN 1)), oB 8 (.mov (.t 18))])))
def ZAZ : C := .seq (.ops [oB 4 (.mov (iN 0))]) (.seq (.seq (.ops [oB 6 (.mov (.t 0)), oB 7 (.len (.t 6)), oB 8 (.mov (iN 0))]) (.block 0 (.loop [0, 1, 7, 8] [4] ZtT))) (.seq (.ops [oB 4 (.mov (iN (-1)))]) (.ret)))
def ZvG : FnI := ⟨2, ZAZ, [(4, none)]⟩
def ZBA : C := .seq (.ops [oB 5 (.mov (.t 0)), oB 6 (.len (.t 5)), oB 4 (.mov (.t 6))]) (.ops [oB 7 (.mov (.t 0)), oB 8 (.mov (.t 4)), oB 9 (.mov (.t 4)), oB 10 (.conv .u64 (.t 9)), oB 11 (.call 125 [(.t 10)]), oB 12 (.mov (.t 1)), oB 13 (.call 124 [(.t 7), (iN 0), (.t 8), (.t 11), (.t 12)])])
def Zxk : FnI := ⟨2, ZBA, []⟩
def ZAg : C := .seq (.ops [oB 5 (.mov (iN 0))]) (.seq (.draw [oB 6 (.faddr 4 (.t 2)), oB 7 (.load 1 false (.t 6)), oM 8 (.mov (.t 0)) [0, 1], oB 9 (.iaddr 3 (.t 7) (.t 8)), oB 10 (.faddr 2 (.t 9)), oB 11 (.load 1 false (.t 10)), oM 12 (.faddr 4 (.t 2)) [0, 1, 2, 3, 4, 5], oM 13 (.load 1 false (.t 12)) [0, 1, 2, 3, 4, 5], oM 14 (.mov (.t 1)) [0, 1, 2, 3, 4, 5, 6, 7], oM 15 (.iaddr 3 (.t 13) (.t 14)) [0, 1, 2, 3, 4, 5], oM 16 (.faddr 2 (.t 15)) [0, 1, 2, 3, 4, 5], oM 17 (.load 1 false (.t 16)) [0, 1, 2, 3, 4, 5], oB 18 (.bin .sub (.t 11) (.t 17)), oB 5 (.mov (.t 18))]) (.ret))
def Zxc : FnI := ⟨3, ZAg, [(5, none)]⟩
def ZBn : C := .seq (.ops [oB 2 (.mov (iN 0))]) (.seq (.draw [oB 3 (.mov (.t 0)), oB 4 (.bin .shr (.t 3) (.c (.d (.int .u64 24)))), oB 5 (.indexS (.c (.d (.str ⟨#[0, 1, 1, 2, 1, 2, 2, 3, 1, 2, 2, 3, 2, 3, 3, 4, 1, 2, 2, 3, 2, 3, 3, 4, 2, 3, 3, 4, 3, 4, 4, 5, 1, 2, 2, 3, 2, 3, 3, 4, 2, 3, 3, 4, 3, 4, 4, 5, 2, 3, 3, 4, 3, 4, 4, 5, 3, 4, 4, 5, 4, 5, 5, 6, 1, 2, 2, 3, 2, 3, 3, 4, 2, 3, 3, 4, 3, 4, 4, 5, 2, 3, 3, 4, 3, 4, 4, 5, 3, 4, 4, 5, 4, 5, 5, 6, 2, 3, 3, 4, 3, 4, 4, 5, 3, 4, 4, 5, 4, 5, 5, 6, 3, 4, 4, 5, 4, 5, 5, 6, 4, 5, 5, 6, 5, 6, 6, 7, 1, 2, 2, 3, 2, 3, 3, 4, 2, 3, 3, 4, 3, 4, 4, 5, 2, 3, 3, 4, 3, 4, 4, 5, 3, 4, 4, 5, 4, 5, 5, 6, 2, 3, 3, 4, 3, 4, 4, 5, 3, 4, 4, 5, 4, 5, 5, 6, 3, 4, 4, 5, 4, 5, 5, 6, 4, 5, 5, 6, 5, 6, 6, 7, 2, 3, 3, 4, 3, 4, 4, 5, 3, 4, 4, 5, 4, 5, 5, 6, 3, 4, 4, 5, 4, 5, 5, 6, 4, 5, 5, 6, 5, 6, 6, 7, 3, 4, 4, 5, 4, 5, 5, 6, 4, 5, 5, 6, 5, 6, 6, 7, 4, 5, 5, 6, 5, 6, 6, 7, 5, 6, 6, 7, 6, 7, 7, 8]⟩))) (.t 4)), oM 6 (.mov (.t 0)) [0, 1, 2], oM 7 (.bin .shr (.t 6) (.c (.d (.int .u64 16)))) [0, 1, 2], oM 8 (.bin .and (.t 7) (.c (.d (.int .u32 255)))) [0, 1, 2], oM 9 (.indexS (.c (.d (.str ⟨#[0, 1, 1, 2, 1, 2, 2, 3, 1, 2, 2, 3, 2, 3, 3, 4, 1, 2, 2, 3, 2, 3, 3, 4, 2, 3, 3, 4, 3, 4, 4, 5, 1, 2, 2, 3, 2, 3, 3, 4, 2, 3, 3, 4, 3, 4, 4, 5, 2, 3, 3, 4, 3, 4, 4, 5, 3, 4, 4, 5, 4, 5, 5, 6, 1, 2, 2, 3, 2, 3, 3, 4, 2, 3, 3, 4, 3, 4, 4, 5, 2, 3, 3, 4, 3, 4, 4, 5, 3, 4, 4, 5, 4, 5, 5, 6, 2, 3, 3, 4, 3, 4, 4, 5, 3, 4, 4, 5, 4, 5, 5, 6, 3, 4, 4, 5, 4, 5, 5, 6, 4, 5, 5, 6, 5, 6, 6, 7, 1, 2, 2, 3, 2, 3, 3, 4, 2, 3, 3, 4, 3, 4, 4, 5, 2, 3, 3, 4, 3, 4, 4, 5, 3, 4, 4, 5, 4, 5, 5, 6, 2, 3, 3, 4, 3, 4, 4, 5, 3, 4, 4, 5, 4, 5, 5, 6, 3, 4, 4, 5, 4, 5, 5, 6, 4, 5, 5, 6, 5, 6, 6, 7, 2, 3, 3, 4, 3, 4, 4, 5, 3, 4, 4, 5, 4, 5, 5, 6, 3, 4, 4, 5, 4, 5, 5, 6, 4, 5, 5, 6, 5, 6, 6, 7, 3, 4, 4, 5, 4, 5, 5, 6, 4, 5, 5, 6, 5, 6, 6, 7, 4, 5, 5, 6, 5, 6, 6, 7, 5, 6, 6, 7, 6, 7, 7, 8]⟩))) (.t 8)) [0, 1, 2], oB 10 (.bin .add (.t 5) (.t 9)), oM 11 (.mov (.t 0)) [0, 1, 2, 3, 4, 5, 6, 7], oM 12 (.bin .shr (.t 11) (.c (.d (.int .u64 8)))) [0, 1, 2, 3, 4, 5, 6, 7], oM 13 (.bin .and (.t 12) (.c (.d (.int .u32 255)))) [0, 1, 2, 3, 4, 5, 6, 7], oM 14 (.indexS (.c (.d (.str ⟨#[0, 1, 1, 2, 1, 2, 2, 3, 1, 2, 2, 3, 2, 3, 3, 4, 1, 2, 2, 3, 2, 3, 3, 4, 2, 3, 3, 4, 3, 4, 4, 5, 1, 2, 2, 3, 2, 3, 3, 4, 2, 3, 3, 4, 3, 4, 4, 5, 2, 3, 3, 4, 3, 4, 4, 5, 3, 4, 4, 5, 4, 5, 5, 6, 1, 2, 2, 3, 2, 3, 3, 4, 2, 3, 3, 4, 3, 4, 4, 5, 2, 3, 3, 4, 3, 4, 4, 5, 3, 4, 4, 5, 4, 5, 5, 6, 2, 3, 3, 4, 3, 4, 4, 5, 3, 4, 4, 5, 4, 5, 5, 6, 3, 4, 4, 5, 4, 5, 5, 6, 4, 5, 5, 6, 5, 6, 6, 7, 1, 2, 2, 3, 2, 3, 3, 4, 2, 3, 3, 4, 3, 4, 4, 5, 2, 3, 3, 4, 3, 4, 4, 5, 3, 4, 4, 5, 4, 5, 5, 6, 2, 3, 3, 4, 3, 4, 4, 5, 3, 4, 4, 5, 4, 5, 5, 6, 3, 4, 4, 5, 4, 5, 5, 6, 4, 5, 5, 6, 5, 6, 6, 7, 2, 3, 3, 4, 3, 4, 4, 5, 3, 4, 4, 5, 4, 5, 5, 6, 3, 4, 4, 5, 4, 5, 5, 6, 4, 5, 5, 6, 5, 6, 6, 7, 3, 4, 4, 5, 4, 5, 5, 6, 4, 5, 5, 6, 5, 6, 6, 7, 4, 5, 5, 6, 5, 6, 6, 7, 5, 6, 6, 7, 6, 7, 7, 8]⟩))) (.t 13)) [0, 1, 2, 3, 4, 5, 6, 7], oB 15 (.bin .add (.t 10) (.t 14)), oM 16 (.mov (.t 0)) [0, 1, 2, 3, 4, 5, 6, 7, 8, 9, 10, 11, 12], oM 17 (.bin .and (.t 16) (.c (.d (.int .u32 255)))) [0, 1, 2, 3, 4, 5, 6, 7, 8, 9, 10, 11, 12], oM 18 (.indexS (.c (.d (.str ⟨#[0, 1, 1, 2, 1, 2, 2, 3, 1, 2, 2, 3, 2, 3, 3, 4, 1, 2, 2, 3, 2, 3, 3, 4, 2, 3, 3, 4, 3, 4, 4, 5, 1, 2, 2, 3, 2, 3, 3, 4, 2, 3, 3, 4, 3, 4, 4, 5, 2, 3, 3, 4, 3, 4, 4, 5, 3, 4, 4, 5, 4, 5, 5, 6, 1, 2, 2, 3, 2, 3, 3, 4, 2, 3, 3, 4, 3, 4, 4, 5, 2, 3, 3, 4, 3, 4, 4, 5, 3, 4, 4, 5, 4, 5, 5, 6, 2, 3, 3, 4, 3, 4, 4, 5, 3, 4, 4, 5, 4, 5, 5, 6, 3, 4, 4, 5, 4, 5, 5, 6, 4, 5, 5, 6, 5, 6, 6, 7, 1, 2, 2, 3, 2, 3, 3, 4, 2, 3, 3, 4, 3, 4, 4, 5, 2, 3, 3, 4, 3, 4, 4, 5, 3, 4, 4, 5, 4, 5, 5, 6, 2, 3, 3, 4, 3, 4, 4, 5, 3, 4, 4, 5, 4, 5, 5, 6, 3, 4, 4, 5, 4, 5, 5, 6, 4, 5, 5, 6, 5, 6, 6, 7, 2, 3, 3, 4, 3, 4, 4, 5, 3, 4, 4, 5, 4, 5, 5, 6, 3, 4, 4, 5, 4, 5, 5, 6, 4, 5, 5, 6, 5, 6, 6, 7, 3, 4, 4, 5, 4, 5, 5, 6, 4, 5, 5, 6, 5, 6, 6, 7, 4, 5, 5, 6, 5, 6, 6, 7, 5, 6, 6, 7, 6, 7, 7, 8]⟩))) (.t 17)) [0, 1, 2, 3, 4, 5, 6, 7, 8, 9, 10, 11, 12], oB 19 (.bin .add (.t 15) (.t 18)), oB 20 (.conv .i64 (.t 19)), oB 2 (.mov (.t 20))]) (.ret))
def Zyr : FnI := ⟨1, ZBn, [(2, none)]⟩
def ZA8 : C := .seq (.ops [oB 2 (.mov (iN 0))]) (.seq (.ops [oB 3 (.mov (.t 0)), oB 4 (.bin .shr (.t 3) (.c (.d (.int .u64 1)))), oB 5 (.bin .and (.t 4) (.c (.d (.int .u64 6148914691236517205)))), oB 6 (.mov (.t 0)), oB 7 (.bin .and (.t 6) (.c (.d (.int .u64 6148914691236517205)))), oB 8 (.bin .add (.t 5) (.t 7)), oB 0 (.mov (.t 8))]) (.seq (.ops [oB 9 (.mov (.t 0)), oB 10 (.bin .shr (.t 9) (.c (.d (.int .u64 2)))), oB 11 (.bin .and (.t 10) (.c (.d (.int .u64 3689348814741910323)))), oB 12 (.mov (.t 0)), oB 13 (.bin .and (.t 12) (.c (.d (.int .u64 3689348814741910323)))), oB 14 (.bin .add (.t 11) (.t 13)), oB 0 (.mov (.t 14))]) (.seq (.ops [oB 15 (.mov (.t 0)), oB 16 (.bin .shr (.t 15) (.c (.d (.int .u64 4)))), oB 17 (.mov (.t 0)), oB 18 (.bin .add (.t 16) (.t 17)), oB 19 (.bin .and (.t 18) (.c (.d (.int .u64 1085102592571150095)))), oB 0 (.mov (.t 19))]) (.seq (.ops [oB 20 (.mov (.t 0)), oB 21 (.mov (.t 0)), oB 22 (.bin .shr (.t 21) (.c (.d (.int .u64 8)))), oB 23 (.bin .add (.t 20) (.t 22)), oB 0 (.mov (.t 23))]) (.seq (.ops [oB 24 (.mov (.t 0)), oB 25 (.mov (.t 0)), oB 26 (.bin .shr (.t 25) (.c (.d (.int .u64 16)))), oB 27 (.bin .add (.t 24) (.t 26)), oB 0 (.mov (.t 27))]) (.seq (.ops [oB 28 (.mov (.t 0)), oB 29 (.mov (.t 0)), oB 30 (.bin .shr (.t 29) (.c (.d (.int .u64 32)))), oB 31 (.bin .add (.t 28) (.t 30)), oB 0 (.mov (.t 31))]) (.seq (.ops [oB 32 (.mov (.t 0)), oB 33 (.conv .i64 (.t 32)), oB 34 (.bin .and (.t 33) (iN 127)), oB 2 (.mov (.t 34))]) (.ret))))))))
def Zwa : FnI := ⟨1, ZA8, [(2, none)]⟩
def ZAK : C := .seq (.ops [oB 2 (.mov (iN 0))]) (.seq (.seq (.ops [oB 3 (.mov (.t 0)), oB 4 (.bin .eql (.t 3) (.c (.d (.int .u32 0))))]) (.cond (.t 4) (.seq (.ops [oB 2 (.mov (iN 32))]) (.ret)) (.skip))) (.seq (.ops [oB 5 (.mov (.t 0)), oB 6 (.mov (.t 0)), oB 7 (.un .neg (.t 6)), oB 8 (.bin .and (.t 5) (.t 7)), oB 9 (.bin .mul (.t 8) (.c (.d (.int .u32 125613361)))), oB 10 (.bin .shr (.t 9) (.c (.d (.int .u64 27)))), oB 11 (.iaddrA 32 1 (.c (.d (.rptr ZAC))) (.t 10)), oB 12 (.load 1 false (.t 11)), oB 13 (.conv .i64 (.t 12)), oB 2 (.mov (.t 13))]) (.ret)))
def Zyz : FnI := ⟨1, ZAK, [(2, none)]⟩
def ZAG : C := .seq (.ops [oB 2 (.mov (iN 0))]) (.seq (.seq (.ops [oB 3 (.mov (.t 0)), oB 4 (.bin .eql (.t 3) (.c (.d (.int .u64 0))))]) (.cond (.t 4) (.seq (.ops [oB 2 (.mov (iN 64))]) (.ret)) (.skip))) (.seq (.ops [oB 5 (.mov (.t 0)), oB 6 (.mov (.t 0)), oB 7 (.un .neg (.t 6)), oB 8 (.bin .and (.t 5) (.t 7)), oB 9 (.bin .mul (.t 8) (.c (.d (.int .u64 285870213051353865)))), oB 10 (.bin .shr (.t 9) (.c (.d (.int .u64 58)))), oB 11 (.iaddrA 64 1 (.c (.d (.rptr Zv8))) (.t 10)), oB 12 (.load 1 false (.t 11)), oB 13 (.conv .i64 (.t 12)), oB 2 (.mov (.t 13))]) (.ret)))
def ZwD : FnI := ⟨1, ZAG, [(2, none)]⟩
def Ztv : C := .block 1 (.seq (.ops [oB 21 (.mov (.t 2)), oB 22 (.mov (.t 1)), oB 23 (.bin .sub (.t 21) (.t 22)), oB 12 (.mov (.t 23))]) (.seq (.seq (.ops [oB 24 (.mov (.t 12)), oB 25 (.bin .leq (.t 24) (iN 12))]) (.cond (.t 25) (.seq (.ops [oB 26 (.mov (.t 0)), oB 27 (.mov (.t 1)), oB 28 (.mov (.t 2)), oB 29 (.mov (.t 4)), oB 30 (.call 126 [(.t 26), (.t 27), (.t 28), (.t 29)])]) (.ret)) (.skip))) (.seq (.seq (.ops [oB 31 (.mov (.t 3)), oB 32 (.bin .eql (.t 31) (iN 0))]) (.cond (.t 32) (.seq (.ops [oB 33 (.mov (.t 0)), oB 34 (.mov (.t 1)), oB 35 (.mov (.t 2)), oB 36 (.mov (.t 4)), oB 37 (.call 127 [(.t 33), (.t 34), (.t 35), (.t 36)])]) (.ret)) (.skip))) (.seq (.seq (.ops [oB 38 (.mov (.t 10)), oB 39 (.un .not (.t 38))]) (.cond (.t 39) (.seq (.ops [oB 40 (.mov (.t 0)), oB 41 (.mov (.t 1)), oB 42 (.mov (.t 2)), oB 43 (.mov (.t 4)), oB 44 (.call 128 [(.t 40), (.t 41), (.t 42), (.t 43)])]) (.ops [oB 45 (.mov (.t 3)), oB 46 (.bin .sub (.t 45) (iN 1)), oB 3 (.mov (.t 46))])) (.skip))) (.seq (.ops [oB 48 (.mov (.t 0)), oB 49 (.mov (.t 1)), oB 50 (.mov (.t 2)), oB 51 (.mov (.t 4)), oB 52 (.call 129 [(.t 48), (.t 49), (.t 50), (.t 51)]), oB 47 (.mov (.t 52)), oB 53 (.extract (.t 47) 0), oB 54 (.extract (.t 47) 1), oB 13 (.mov (.t 53)), oB 14 (.mov (.t 54))]) (.seq (.seq (.ops [oB 55 (.mov (.t 14)), oB 56 (.bin .eql (.t 55) (iN 2))]) (.cond (.t 56) (.seq (.ops [oB 57 (.mov (.t 0)), oB 58 (.mov (.t 1)), oB 59 (.mov (.t 2)), oB 60 (.mov (.t 4)), oB 61 (.call 130 [(.t 57), (.t 58), (.t 59), (.t 60)])]) (.seq (.ops [oB 62 (.mov (.t 2)), oB 63 (.bin .sub (.t 62) (iN 1)), oB 64 (.mov (.t 13)), oB 65 (.mov (.t 1)), oB 66 (.bin .sub (.t 64) (.t 65)), oB 67 (.bin .sub (.t 63) (.t 66)), oB 13 (.mov (.t 67))]) (.ops [oB 14 (.mov (iN 1))]))) (.skip))) (.seq (.seq (.ops [oB 68 (.mov (.t 10)), oB 69 (.mov (.t 68)), oG 70 (.mov (.t 11)) 69 true, oB 71 (.pick (.t 69) (.t 70) bF), oB 72 (.mov (.t 71)), oG 73 (.mov (.t 14)) 72 true, oG 74 (.bin .eql (.t 73) (iN 1)) 72 true, oB 75 (.pick (.t 72) (.t 74) bF)]) (.cond (.t 75) (.seq (.ops [oB 76 (.mov (.t 0)), oB 77 (.mov (.t 1)), oB 78 (.mov (.t 2)), oB 79 (.mov (.t 4)), oB 80 (.call 131 [(.t 76), (.t 77), (.t 78), (.t 79)])]) (.cond (.t 80) (.ret) (.skip))) (.skip))) (.seq (.seq (.draw [oB 81 (.mov (.t 1)), oB 82 (.bin .gtr (.t 81) (iN 0)), oB 83 (.mov (.t 82)), oG 84 (.mov (.t 4)) 83 true, ⟨some 85, .mov (.t 0), some (83, true), [3], 0⟩, ⟨some 86, .mov (.t 1), some (83, true), [3, 4], 0⟩, ⟨some 87, .bin .sub (.t 86) (iN 1), some (83, true), [3, 4], 0⟩, ⟨some 88, .iaddr 1 (.t 85) (.t 87), some (83, true), [3], 0⟩, ⟨some 89, .load 1 false (.t 88), some (83, true), [3], 0⟩, ⟨some 90, .mov (.t 0), some (83, true), [3, 4, 5, 6, 7, 8], 0⟩, ⟨some 91, .mov (.t 13), some (83, true), [3, 4, 5, 6, 7, 8, 9], 0⟩, ⟨some 92, .iaddr 1 (.t 90) (.t 91), some (83, true), [3, 4, 5, 6, 7, 8], 0⟩, ⟨some 93, .load 1 false (.t 92), some (83, true), [3, 4, 5, 6, 7, 8], 0⟩, oG 94 (.callv (.t 84) [(.t 89), (.t 93)]) 83 true, oG 95 (.bin .lss (.t 94) (iN 0)) 83 true, oG 96 (.un .not (.t 95)) 83 true, oB 97 (.pick (.t 83) (.t 96) bF)]) (.cond (.t 97) (.seq (.ops [oB 98 (.mov (.t 0)), oB 99 (.mov (.t 1)), oB 100 (.mov (.t 2)), oB 101 (.mov (.t 13)), oB 102 (.mov (.t 4)), oB 103 (.call 132 [(.t 98), (.t 99), (.t 100), (.t 101), (.t 102)]), oB 15 (.mov (.t 103))]) (.seq (.ops [oB 104 (.mov (.t 15)), oB 1 (.mov (.t 104))]) (.exit 1))) (.skip))) (.seq (.ops [oB 106 (.mov (.t 0)), oB 107 (.mov (.t 1)), oB 108 (.mov (.t 2)), oB 109 (.mov (.t 13)), oB 110 (.mov (.t 4)), oB 111 (.call 133 [(.t 106), (.t 107), (.t 108), (.t 109), (.t 110)]), oB 105 (.mov (.t 111)), oB 112 (.extract (.t 105) 0), oB 113 (.extract (.t 105) 1), oB 16 (.mov (.t 112)), oB 17 (.mov (.t 113))]) (.seq (.ops [oB 114 (.mov (.t 17)), oB 11 (.mov (.t 114))]) (.seq (.ops [oB 115 (.mov (.t 16)), oB 116 (.mov (.t 1)), oB 117 (.bin .sub (.t 115) (.t 116)), oB 118 (.mov (.t 2)), oB 119 (.mov (.t 16)), oB 120 (.bin .sub (.t 118) (.t 119)), oB 18 (.mov (.t 117)), oB 19 (.mov (.t 120))]) (.seq (.ops [oB 121 (.mov (.t 12)), oB 122 (.bin .quo (.t 121) (iN 8)), oB 20 (.mov (.t 122))]) (.seq (.ops [oB 123 (.mov (.t 18)), oB 124 (.mov (.t 19)), oB 125 (.bin .lss (.t 123) (.t 124))]) (.cond (.t 125) (.seq (.ops [oB 126 (.mov (.t 18)), oB 127 (.mov (.t 20)), oB 128 (.bin .geq (.t 126) (.t 127)), oB 10 (.mov (.t 128))]) (.seq (.ops [oB 129 (.mov (.t 0)), oB 130 (.mov (.t 1)), oB 131 (.mov (.t 16)), oB 132 (.mov (.t 3)), oB 133 (.mov (.t 4)), oB 134 (.call 124 [(.t 129), (.t 130), (.t 131), (.t 132), (.t 133)])]) (.ops [oB 135 (.mov (.t 16)), oB 136 (.bin .add (.t 135) (iN 1)), oB 1 (.mov (.t 136))]))) (.seq (.ops [oB 137 (.mov (.t 19)), oB 138 (.mov (.t 20)), oB 139 (.bin .geq (.t 137) (.t 138)), oB 10 (.mov (.t 139))]) (.seq (.ops [oB 140 (.mov (.t 0)), oB 141 (.mov (.t 16)), oB 142 (.bin .add (.t 141) (iN 1)), oB 143 (.mov (.t 2)), oB 144 (.mov (.t 3)), oB 145 (.mov (.t 4)), oB 146 (.call 124 [(.t 140), (.t 142), (.t 143), (.t 144), (.t 145)])]) (.ops [oB 147 (.mov (.t 16)), oB 2 (.mov (.t 147))])))))))))))))))))
def ZAT : C := .seq (.ops [oB 10 (.mov bT)]) (.seq (.ops [oB 11 (.mov bT)]) (.block 0 (.loop [0, 1, 2, 3, 4, 10, 11] [] Ztv)))
def Zws : FnI := ⟨5, ZAT, []⟩
def ZAs : C := .seq (.ops [oB 2 (.mov (iN 0))]) (.seq (.cond bF (.seq (.ops [oB 3 (.mov (.t 0)), oB 4 (.conv .u32 (.t 3)), oB 5 (.call 134 [(.t 4)]), oB 2 (.mov (.t 5))]) (.ret)) (.skip)) (.seq (.ops [oB 6 (.mov (.t 0)), oB 7 (.call 135 [(.t 6)]), oB 2 (.mov (.t 7))]) (.ret)))
def Zve : FnI := ⟨1, ZAs, [(2, none)]⟩
def ZtF : C := .seq (.seq (.draw [oB 18 (.mov (.t 9)), oM 19 (.mov (.t 1)) [0], oB 20 (.bin .gtr (.t 18) (.t 19)), oB 21 (.mov (.t 20)), oG 22 (.mov (.t 3)) 21 true, ⟨some 23, .mov (.t 0), some (21, true), [4], 0⟩, ⟨some 24, .mov (.t 9), some (21, true), [4, 5], 0⟩, ⟨some 25, .iaddr 1 (.t 23) (.t 24), some (21, true), [4], 0⟩, ⟨some 26, .load 1 false (.t 25), some (21, true), [4], 0⟩, ⟨some 27, .mov (.t 0), some (21, true), [4, 5, 6, 7, 8], 0⟩, ⟨some 28, .mov (.t 9), some (21, true), [4, 5, 6, 7, 8, 9], 0⟩, ⟨some 29, .bin .sub (.t 28) (iN 1), some (21, true), [4, 5, 6, 7, 8, 9], 0⟩, ⟨some 30, .iaddr 1 (.t 27) (.t 29), some (21, true), [4, 5, 6, 7, 8], 0⟩, ⟨some 31, .load 1 false (.t 30), some (21, true), [4, 5, 6, 7, 8], 0⟩, oG 32 (.callv (.t 22) [(.t 26), (.t 31)]) 21 true, oG 33 (.bin .lss (.t 32) (iN 0)) 21 true, oB 34 (.pick (.t 21) (.t 33) bF)]) (.cond (.t 34) (.skip) (.exit 2))) (.seq (.block 3 (.draw [oB 37 (.mov (.t 0)), oM 38 (.mov (.t 9)) [0], oM 39 (.mov (.t 0)) [0, 1], oM 40 (.mov (.t 9)) [0, 1, 2], oM 41 (.bin .sub (.t 40) (iN 1)) [0, 1, 2], oM 42 (.mov (.t 0)) [0, 1, 2, 3, 4], oM 43 (.mov (.t 9)) [0, 1, 2, 3, 4, 5], oM 44 (.bin .sub (.t 43) (iN 1)) [0, 1, 2, 3, 4, 5], oM 45 (.iaddr 1 (.t 42) (.t 44)) [0, 1, 2, 3, 4], oM 46 (.load 1 false (.t 45)) [0, 1, 2, 3, 4], oM 47 (.mov (.t 0)) [0, 1, 2, 3, 4, 5, 6, 7, 8, 9], oM 48 (.mov (.t 9)) [0, 1, 2, 3, 4, 5, 6, 7, 8, 9, 10], oM 49 (.iaddr 1 (.t 47) (.t 48)) [0, 1, 2, 3, 4, 5, 6, 7, 8, 9], oM 50 (.load 1 false (.t 49)) [0, 1, 2, 3, 4, 5, 6, 7, 8, 9], oM 51 (.iaddr 1 (.t 37) (.t 38)) [2, 3, 4], ⟨none, .store 1 (.t 51) (.t 46), none, [], 3⟩, oB 52 (.iaddr 1 (.t 39) (.t 41)), ⟨none, .store 1 (.t 52) (.t 50), none, [], 3⟩])) (.ops [oB 35 (.mov (.t 9)), oB 36 (.bin .sub (.t 35) (iN 1)), oB 9 (.mov (.t 36))]))
def Ztg : C := .seq (.seq (.ops [oB 12 (.mov (.t 8)), oB 13 (.mov (.t 2)), oB 14 (.bin .lss (.t 12) (.t 13))]) (.cond (.t 14) (.skip) (.exit 0))) (.seq (.block 1 (.seq (.ops [oB 17 (.mov (.t 8)), oB 9 (.mov (.t 17))]) (.block 2 (.loop [0, 1, 2, 3, 8, 9] [0, 1, 2, 3, 8] ZtF)))) (.ops [oB 15 (.mov (.t 8)), oB 16 (.bin .add (.t 15) (iN 1)), oB 8 (.mov (.t 16))]))
def ZBb : C := .seq (.ops [oB 10 (.mov (.t 1)), oB 11 (.bin .add (.t 10) (iN 1)), oB 8 (.mov (.t 11))]) (.block 0 (.loop [0, 1, 2, 3, 8] [] Ztg))
def ZwH : FnI := ⟨4, ZBb, []⟩
def ZtC : C := .seq (.seq (.ops [oB 20 (.mov (.t 11)), oB 21 (.bin .geq (.t 20) (iN 0))]) (.cond (.t 21) (.skip) (.exit 0))) (.seq (.block 1 (.ops [oB 24 (.mov (.t 0)), oB 25 (.mov (.t 11)), oB 26 (.mov (.t 10)), oB 27 (.mov (.t 8)), oB 28 (.mov (.t 3)), oB 29 (.call 136 [(.t 24), (.t 25), (.t 26), (.t 27), (.t 28)])])) (.ops [oB 22 (.mov (.t 11)), oB 23 (.bin .sub (.t 22) (iN 1)), oB 11 (.mov (.t 23))]))
def Zt5 : C := .seq (.seq (.ops [oB 32 (.mov (.t 12)), oB 33 (.bin .geq (.t 32) (iN 0))]) (.cond (.t 33) (.skip) (.exit 2))) (.seq (.block 3 (.seq (.draw [oB 36 (.mov (.t 0)), oM 37 (.mov (.t 8)) [0], oM 38 (.mov (.t 0)) [0, 1], oM 39 (.mov (.t 8)) [0, 1, 2], oM 40 (.mov (.t 12)) [0, 1, 2, 3], oM 41 (.bin .add (.t 39) (.t 40)) [0, 1, 2], oM 42 (.mov (.t 0)) [0, 1, 2, 3, 4, 5], oM 43 (.mov (.t 8)) [0, 1, 2, 3, 4, 5, 6], oM 44 (.mov (.t 12)) [0, 1, 2, 3, 4, 5, 6, 7], oM 45 (.bin .add (.t 43) (.t 44)) [0, 1, 2, 3, 4, 5, 6], oM 46 (.iaddr 1 (.t 42) (.t 45)) [0, 1, 2, 3, 4, 5], oM 47 (.load 1 false (.t 46)) [0, 1, 2, 3, 4, 5], oM 48 (.mov (.t 0)) [0, 1, 2, 3, 4, 5, 6, 7, 8, 9, 10, 11], oM 49 (.mov (.t 8)) [0, 1, 2, 3, 4, 5, 6, 7, 8, 9, 10, 11, 12], oM 50 (.iaddr 1 (.t 48) (.t 49)) [0, 1, 2, 3, 4, 5, 6, 7, 8, 9, 10, 11], oM 51 (.load 1 false (.t 50)) [0, 1, 2, 3, 4, 5, 6, 7, 8, 9, 10, 11], oM 52 (.iaddr 1 (.t 36) (.t 37)) [2, 3, 4, 5], ⟨none, .store 1 (.t 52) (.t 47), none, [], 3⟩, oB 53 (.iaddr 1 (.t 38) (.t 41)), ⟨none, .store 1 (.t 53) (.t 51), none, [], 3⟩]) (.ops [oB 54 (.mov (.t 0)), oB 55 (.mov (.t 9)), oB 56 (.mov (.t 12)), oB 57 (.mov (.t 8)), oB 58 (.mov (.t 3)), oB 59 (.call 136 [(.t 54), (.t 55), (.t 56), (.t 57), (.t 58)])]))) (.ops [oB 34 (.mov (.t 12)), oB 35 (.bin .sub (.t 34) (iN 1)), oB 12 (.mov (.t 35))]))
def ZBm : C := .seq (.ops [oB 13 (.mov (.t 1)), oB 8 (.mov (.t 13))]) (.seq (.ops [oB 9 (.mov (iN 0))]) (.seq (.ops [oB 14 (.mov (.t 2)), oB 15 (.mov (.t 1)), oB 16 (.bin .sub (.t 14) (.t 15)), oB 10 (.mov (.t 16))]) (.seq (.seq (.ops [oB 17 (.mov (.t 10)), oB 18 (.bin .sub (.t 17) (iN 1)), oB 19 (.bin .quo (.t 18) (iN 2)), oB 11 (.mov (.t 19))]) (.block 0 (.loop [0, 3, 8, 9, 10, 11] [0, 3, 8, 9, 10] ZtC))) (.seq (.ops [oB 30 (.mov (.t 10)), oB 31 (.bin .sub (.t 30) (iN 1)), oB 12 (.mov (.t 31))]) (.block 2 (.loop [0, 3, 8, 9, 12] [] Zt5))))))
def Zwq : FnI := ⟨4, ZBm, []⟩
def Ztt : C := .seq (.seq (.ops [oB 28 (.mov (.t 11)), oB 29 (.mov (.t 1)), oB 30 (.mov (.t 8)), oB 31 (.bin .quo (.t 30) (iN 4)), oB 32 (.bin .mul (.t 31) (iN 2)), oB 33 (.bin .add (.t 29) (.t 32)), oB 34 (.bin .add (.t 33) (iN 1)), oB 35 (.bin .leq (.t 28) (.t 34))]) (.cond (.t 35) (.skip) (.exit 0))) (.seq (.block 1 (.seq (.ops [oB 38 (.call 138 [(.t 9)]), oB 39 (.mov (.t 10)), oB 40 (.bin .sub (.t 39) (.c (.d (.int .u64 1)))), oB 41 (.bin .and (.t 38) (.t 40)), oB 42 (.conv .i64 (.t 41)), oB 12 (.mov (.t 42))]) (.seq (.seq (.ops [oB 43 (.mov (.t 12)), oB 44 (.mov (.t 8)), oB 45 (.bin .geq (.t 43) (.t 44))]) (.cond (.t 45) (.ops [oB 46 (.mov (.t 12)), oB 47 (.mov (.t 8)), oB 48 (.bin .sub (.t 46) (.t 47)), oB 12 (.mov (.t 48))]) (.skip))) (.draw [oB 49 (.mov (.t 0)), oM 50 (.mov (.t 11)) [0], oM 51 (.mov (.t 0)) [0, 1], oM 52 (.mov (.t 1)) [0, 1, 2], oM 53 (.mov (.t 12)) [0, 1, 2, 3], oM 54 (.bin .add (.t 52) (.t 53)) [0, 1, 2], oM 55 (.mov (.t 0)) [0, 1, 2, 3, 4, 5], oM 56 (.mov (.t 1)) [0, 1, 2, 3, 4, 5, 6], oM 57 (.mov (.t 12)) [0, 1, 2, 3, 4, 5, 6, 7], oM 58 (.bin .add (.t 56) (.t 57)) [0, 1, 2, 3, 4, 5, 6], oM 59 (.iaddr 1 (.t 55) (.t 58)) [0, 1, 2, 3, 4, 5], oM 60 (.load 1 false (.t 59)) [0, 1, 2, 3, 4, 5], oM 61 (.mov (.t 0)) [0, 1, 2, 3, 4, 5, 6, 7, 8, 9, 10, 11], oM 62 (.mov (.t 11)) [0, 1, 2, 3, 4, 5, 6, 7, 8, 9, 10, 11, 12], oM 63 (.iaddr 1 (.t 61) (.t 62)) [0, 1, 2, 3, 4, 5, 6, 7, 8, 9, 10, 11], oM 64 (.load 1 false (.t 63)) [0, 1, 2, 3, 4, 5, 6, 7, 8, 9, 10, 11], oM 65 (.iaddr 1 (.t 49) (.t 50)) [2, 3, 4, 5], ⟨none, .store 1 (.t 65) (.t 60), none, [], 3⟩, oB 66 (.iaddr 1 (.t 51) (.t 54)), ⟨none, .store 1 (.t 66) (.t 64), none, [], 3⟩])))) (.ops [oB 36 (.mov (.t 11)), oB 37 (.bin .add (.t 36) (iN 1)), oB 11 (.mov (.t 37))]))
def ZAM : C := .seq (.ops [oB 13 (.mov (.t 2)), oB 14 (.mov (.t 1)), oB 15 (.bin .sub (.t 13) (.t 14)), oB 8 (.mov (.t 15))]) (.seq (.ops [oB 16 (.mov (.t 8)), oB 17 (.bin .geq (.t 16) (iN 8))]) (.cond (.t 17) (.seq (.ops [oB 18 (.mov (.t 8)), oB 19 (.conv .u64 (.t 18)), oB 9 (.alloc (.d (.int .u64 0))), oA (.store 1 (.t 9) (.t 19))]) (.seq (.ops [oB 20 (.mov (.t 8)), oB 21 (.call 137 [(.t 20)]), oB 10 (.mov (.t 21))]) (.seq (.ops [oB 22 (.mov (.t 1)), oB 23 (.mov (.t 8)), oB 24 (.bin .quo (.t 23) (iN 4)), oB 25 (.bin .mul (.t 24) (iN 2)), oB 26 (.bin .add (.t 22) (.t 25)), oB 27 (.bin .sub (.t 26) (iN 1)), oB 11 (.mov (.t 27))]) (.block 0 (.loop [0, 1, 8, 9, 10, 11] [] Ztt))))) (.skip)))
def ZwL : FnI := ⟨4, ZAM, []⟩
def ZAl : C := .seq (.ops [oB 8 (.mov (iN 0)), oB 9 (.mov (iN 0))]) (.seq (.ops [oB 15 (.mov (.t 2)), oB 16 (.mov (.t 1)), oB 17 (.bin .sub (.t 15) (.t 16)), oB 10 (.mov (.t 17))]) (.seq (.ops [oB 11 (.alloc (.d (.int .i64 0)))]) (.seq (.ops [oB 18 (.mov (.t 1)), oB 19 (.mov (.t 10)), oB 20 (.bin .quo (.t 19) (iN 4)), oB 21 (.bin .mul (.t 20) (iN 1)), oB 22 (.bin .add (.t 18) (.t 21)), oB 12 (.mov (.t 22))]) (.seq (.ops [oB 23 (.mov (.t 1)), oB 24 (.mov (.t 10)), oB 25 (.bin .quo (.t 24) (iN 4)), oB 26 (.bin .mul (.t 25) (iN 2)), oB 27 (.bin .add (.t 23) (.t 26)), oB 13 (.mov (.t 27))]) (.seq (.ops [oB 28 (.mov (.t 1)), oB 29 (.mov (.t 10)), oB 30 (.bin .quo (.t 29) (iN 4)), oB 31 (.bin .mul (.t 30) (iN 3)), oB 32 (.bin .add (.t 28) (.t 31)), oB 14 (.mov (.t 32))]) (.seq (.seq (.ops [oB 33 (.mov (.t 10)), oB 34 (.bin .geq (.t 33) (iN 8))]) (.cond (.t 34) (.seq (.seq (.ops [oB 35 (.mov (.t 10)), oB 36 (.bin .geq (.t 35) (iN 50))]) (.cond (.t 36) (.seq (.ops [oB 37 (.mov (.t 0)), oB 38 (.mov (.t 12)), oB 39 (.mov (.t 3)), oB 40 (.call 139 [(.t 37), (.t 38), (.t 11), (.t 39)]), oB 12 (.mov (.t 40))]) (.seq (.ops [oB 41 (.mov (.t 0)), oB 42 (.mov (.t 13)), oB 43 (.mov (.t 3)), oB 44 (.call 139 [(.t 41), (.t 42), (.t 11), (.t 43)]), oB 13 (.mov (.t 44))]) (.ops [oB 45 (.mov (.t 0)), oB 46 (.mov (.t 14)), oB 47 (.mov (.t 3)), oB 48 (.call 139 [(.t 45), (.t 46), (.t 11), (.t 47)]), oB 14 (.mov (.t 48))]))) (.skip))) (.ops [oB 49 (.mov (.t 0)), oB 50 (.mov (.t 12)), oB 51 (.mov (.t 13)), oB 52 (.mov (.t 14)), oB 53 (.mov (.t 3)), oB 54 (.call 140 [(.t 49), (.t 50), (.t 51), (.t 52), (.t 11), (.t 53)]), oB 13 (.mov (.t 54))])) (.skip))) (.seq (.ops [oB 55 (.load 1 false (.t 11))]) (.block 0 (.seq (.ops [oB 58 (.bin .eql (.t 55) (iN 0)), oB 57 (.mov (.t 58))]) (.cond (.t 57) (.seq (.ops [oB 59 (.mov (.t 13)), oB 8 (.mov (.t 59)), oB 9 (.mov (iN 1))]) (.ret)) (.seq (.ops [oB 61 (.bin .eql (.t 55) (iN 12)), oB 60 (.mov (.t 61))]) (.cond (.t 60) (.seq (.ops [oB 62 (.mov (.t 13)), oB 8 (.mov (.t 62)), oB 9 (.mov (iN 2))]) (.ret)) (.seq (.ops [oB 56 (.mov (.t 13)), oB 8 (.mov (.t 56)), oB 9 (.mov (iN 0))]) (.ret))))))))))))))
def Zva : FnI := ⟨4, ZAl, [(8, none), (9, none)]⟩
def Ztp : C := .seq (.seq (.ops [oB 13 (.mov (.t 8)), oB 14 (.mov (.t 9)), oB 15 (.bin .lss (.t 13) (.t 14))]) (.cond (.t 15) (.skip) (.exit 0))) (.block 1 (.seq (.draw [oB 16 (.mov (.t 0)), oM 17 (.mov (.t 8)) [0], oM 18 (.mov (.t 0)) [0, 1], oM 19 (.mov (.t 9)) [0, 1, 2], oM 20 (.mov (.t 0)) [0, 1, 2, 3], oM 21 (.mov (.t 9)) [0, 1, 2, 3, 4], oM 22 (.iaddr 1 (.t 20) (.t 21)) [0, 1, 2, 3], oM 23 (.load 1 false (.t 22)) [0, 1, 2, 3], oM 24 (.mov (.t 0)) [0, 1, 2, 3, 4, 5, 6, 7], oM 25 (.mov (.t 8)) [0, 1, 2, 3, 4, 5, 6, 7, 8], oM 26 (.iaddr 1 (.t 24) (.t 25)) [0, 1, 2, 3, 4, 5, 6, 7], oM 27 (.load 1 false (.t 26)) [0, 1, 2, 3, 4, 5, 6, 7], oM 28 (.iaddr 1 (.t 16) (.t 17)) [2, 3], ⟨none, .store 1 (.t 28) (.t 23), none, [], 3⟩, oB 29 (.iaddr 1 (.t 18) (.t 19)), ⟨none, .store 1 (.t 29) (.t 27), none, [], 3⟩]) (.seq (.ops [oB 30 (.mov (.t 8)), oB 31 (.bin .add (.t 30) (iN 1)), oB 8 (.mov (.t 31))]) (.ops [oB 32 (.mov (.t 9)), oB 33 (.bin .sub (.t 32) (iN 1)), oB 9 (.mov (.t 33))]))))
def ZAk : C := .seq (.ops [oB 10 (.mov (.t 1)), oB 8 (.mov (.t 10))]) (.seq (.ops [oB 11 (.mov (.t 2)), oB 12 (.bin .sub (.t 11) (iN 1)), oB 9 (.mov (.t 12))]) (.block 0 (.loop [0, 8, 9] [] Ztp)))
def Zwt : FnI := ⟨4, ZAk, []⟩
def Ztl : C := .seq (.seq (.draw [oB 19 (.mov (.t 9)), oM 20 (.mov (.t 2)) [0], oB 21 (.bin .lss (.t 19) (.t 20)), oB 22 (.mov (.t 21)), oG 23 (.mov (.t 3)) 22 true, ⟨some 24, .mov (.t 0), some (22, true), [4], 0⟩, ⟨some 25, .mov (.t 9), some (22, true), [4, 5], 0⟩, ⟨some 26, .iaddr 1 (.t 24) (.t 25), some (22, true), [4], 0⟩, ⟨some 27, .load 1 false (.t 26), some (22, true), [4], 0⟩, ⟨some 28, .mov (.t 0), some (22, true), [4, 5, 6, 7, 8], 0⟩, ⟨some 29, .mov (.t 9), some (22, true), [4, 5, 6, 7, 8, 9], 0⟩, ⟨some 30, .bin .sub (.t 29) (iN 1), some (22, true), [4, 5, 6, 7, 8, 9], 0⟩, ⟨some 31, .iaddr 1 (.t 28) (.t 30), some (22, true), [4, 5, 6, 7, 8], 0⟩, ⟨some 32, .load 1 false (.t 31), some (22, true), [4, 5, 6, 7, 8], 0⟩, oG 33 (.callv (.t 23) [(.t 27), (.t 32)]) 22 true, oG 34 (.bin .lss (.t 33) (iN 0)) 22 true, oG 35 (.un .not (.t 34)) 22 true, oB 36 (.pick (.t 22) (.t 35) bF)]) (.cond (.t 36) (.skip) (.exit 2))) (.block 3 (.ops [oB 37 (.mov (.t 9)), oB 38 (.bin .add (.t 37) (iN 1)), oB 9 (.mov (.t 38))]))
def Ztf : C := .seq (.seq (.ops [oB 68 (.mov (.t 11)), oB 69 (.bin .geq (.t 68) (iN 1))]) (.cond (.t 69) (.skip) (.exit 4))) (.seq (.block 5 (.seq (.seq (.draw [oB 72 (.mov (.t 3)), oM 73 (.mov (.t 0)) [0], oM 74 (.mov (.t 11)) [0, 1], oM 75 (.iaddr 1 (.t 73) (.t 74)) [0], oM 76 (.load 1 false (.t 75)) [0], oM 77 (.mov (.t 0)) [0, 1, 2, 3, 4], oM 78 (.mov (.t 11)) [0, 1, 2, 3, 4, 5], oM 79 (.bin .sub (.t 78) (iN 1)) [0, 1, 2, 3, 4, 5], oM 80 (.iaddr 1 (.t 77) (.t 79)) [0, 1, 2, 3, 4], oM 81 (.load 1 false (.t 80)) [0, 1, 2, 3, 4], oB 82 (.callv (.t 72) [(.t 76), (.t 81)]), oB 83 (.bin .lss (.t 82) (iN 0)), oB 84 (.un .not (.t 83))]) (.cond (.t 84) (.exit 4) (.skip))) (.draw [oB 85 (.mov (.t 0)), oM 86 (.mov (.t 11)) [0], oM 87 (.mov (.t 0)) [0, 1], oM 88 (.mov (.t 11)) [0, 1, 2], oM 89 (.bin .sub (.t 88) (iN 1)) [0, 1, 2], oM 90 (.mov (.t 0)) [0, 1, 2, 3, 4], oM 91 (.mov (.t 11)) [0, 1, 2, 3, 4, 5], oM 92 (.bin .sub (.t 91) (iN 1)) [0, 1, 2, 3, 4, 5], oM 93 (.iaddr 1 (.t 90) (.t 92)) [0, 1, 2, 3, 4], oM 94 (.load 1 false (.t 93)) [0, 1, 2, 3, 4], oM 95 (.mov (.t 0)) [0, 1, 2, 3, 4, 5, 6, 7, 8, 9], oM 96 (.mov (.t 11)) [0, 1, 2, 3, 4, 5, 6, 7, 8, 9, 10], oM 97 (.iaddr 1 (.t 95) (.t 96)) [0, 1, 2, 3, 4, 5, 6, 7, 8, 9], oM 98 (.load 1 false (.t 97)) [0, 1, 2, 3, 4, 5, 6, 7, 8, 9], oM 99 (.iaddr 1 (.t 85) (.t 86)) [2, 3, 4], ⟨none, .store 1 (.t 99) (.t 94), none, [], 3⟩, oB 100 (.iaddr 1 (.t 87) (.t 89)), ⟨none, .store 1 (.t 100) (.t 98), none, [], 3⟩]))) (.ops [oB 70 (.mov (.t 11)), oB 71 (.bin .sub (.t 70) (iN 1)), oB 11 (.mov (.t 71))]))
def Zq8 : C := .seq (.seq (.ops [oB 107 (.mov (.t 12)), oB 108 (.mov (.t 2)), oB 109 (.bin .lss (.t 107) (.t 108))]) (.cond (.t 109) (.skip) (.exit 6))) (.seq (.block 7 (.seq (.seq (.draw [oB 112 (.mov (.t 3)), oM 113 (.mov (.t 0)) [0], oM 114 (.mov (.t 12)) [0, 1], oM 115 (.iaddr 1 (.t 113) (.t 114)) [0], oM 116 (.load 1 false (.t 115)) [0], oM 117 (.mov (.t 0)) [0, 1, 2, 3, 4], oM 118 (.mov (.t 12)) [0, 1, 2, 3, 4, 5], oM 119 (.bin .sub (.t 118) (iN 1)) [0, 1, 2, 3, 4, 5], oM 120 (.iaddr 1 (.t 117) (.t 119)) [0, 1, 2, 3, 4], oM 121 (.load 1 false (.t 120)) [0, 1, 2, 3, 4], oB 122 (.callv (.t 112) [(.t 116), (.t 121)]), oB 123 (.bin .lss (.t 122) (iN 0)), oB 124 (.un .not (.t 123))]) (.cond (.t 124) (.exit 6) (.skip))) (.draw [oB 125 (.mov (.t 0)), oM 126 (.mov (.t 12)) [0], oM 127 (.mov (.t 0)) [0, 1], oM 128 (.mov (.t 12)) [0, 1, 2], oM 129 (.bin .sub (.t 128) (iN 1)) [0, 1, 2], oM 130 (.mov (.t 0)) [0, 1, 2, 3, 4], oM 131 (.mov (.t 12)) [0, 1, 2, 3, 4, 5], oM 132 (.bin .sub (.t 131) (iN 1)) [0, 1, 2, 3, 4, 5], oM 133 (.iaddr 1 (.t 130) (.t 132)) [0, 1, 2, 3, 4], oM 134 (.load 1 false (.t 133)) [0, 1, 2, 3, 4], oM 135 (.mov (.t 0)) [0, 1, 2, 3, 4, 5, 6, 7, 8, 9], oM 136 (.mov (.t 12)) [0, 1, 2, 3, 4, 5, 6, 7, 8, 9, 10], oM 137 (.iaddr 1 (.t 135) (.t 136)) [0, 1, 2, 3, 4, 5, 6, 7, 8, 9], oM 138 (.load 1 false (.t 137)) [0, 1, 2, 3, 4, 5, 6, 7, 8, 9], oM 139 (.iaddr 1 (.t 125) (.t 126)) [2, 3, 4], ⟨none, .store 1 (.t 139) (.t 134), none, [], 3⟩, oB 140 (.iaddr 1 (.t 127) (.t 129)), ⟨none, .store 1 (.t 140) (.t 138), none, [], 3⟩]))) (.ops [oB 110 (.mov (.t 12)), oB 111 (.bin .add (.t 110) (iN 1)), oB 12 (.mov (.t 111))]))
def ZtB : C := .seq (.seq (.ops [oB 15 (.mov (.t 10)), oB 16 (.bin .lss (.t 15) (iN 5))]) (.cond (.t 16) (.skip) (.exit 0))) (.seq (.block 1 (.seq (.block 2 (.loop [0, 1, 2, 3, 9, 10] [0, 1, 2, 3, 9, 10] Ztl)) (.seq (.seq (.ops [oB 39 (.mov (.t 9)), oB 40 (.mov (.t 2)), oB 41 (.bin .eql (.t 39) (.t 40))]) (.cond (.t 41) (.seq (.ops [oB 8 (.mov bT)]) (.ret)) (.skip))) (.seq (.seq (.ops [oB 42 (.mov (.t 2)), oB 43 (.mov (.t 1)), oB 44 (.bin .sub (.t 42) (.t 43)), oB 45 (.bin .lss (.t 44) (iN 50))]) (.cond (.t 45) (.seq (.ops [oB 8 (.mov bF)]) (.ret)) (.skip))) (.seq (.draw [oB 46 (.mov (.t 0)), oM 47 (.mov (.t 9)) [0], oM 48 (.mov (.t 0)) [0, 1], oM 49 (.mov (.t 9)) [0, 1, 2], oM 50 (.bin .sub (.t 49) (iN 1)) [0, 1, 2], oM 51 (.mov (.t 0)) [0, 1, 2, 3, 4], oM 52 (.mov (.t 9)) [0, 1, 2, 3, 4, 5], oM 53 (.bin .sub (.t 52) (iN 1)) [0, 1, 2, 3, 4, 5], oM 54 (.iaddr 1 (.t 51) (.t 53)) [0, 1, 2, 3, 4], oM 55 (.load 1 false (.t 54)) [0, 1, 2, 3, 4], oM 56 (.mov (.t 0)) [0, 1, 2, 3, 4, 5, 6, 7, 8, 9], oM 57 (.mov (.t 9)) [0, 1, 2, 3, 4, 5, 6, 7, 8, 9, 10], oM 58 (.iaddr 1 (.t 56) (.t 57)) [0, 1, 2, 3, 4, 5, 6, 7, 8, 9], oM 59 (.load 1 false (.t 58)) [0, 1, 2, 3, 4, 5, 6, 7, 8, 9], oM 60 (.iaddr 1 (.t 46) (.t 47)) [2, 3, 4], ⟨none, .store 1 (.t 60) (.t 55), none, [], 3⟩, oB 61 (.iaddr 1 (.t 48) (.t 50)), ⟨none, .store 1 (.t 61) (.t 59), none, [], 3⟩]) (.seq (.seq (.ops [oB 62 (.mov (.t 9)), oB 63 (.mov (.t 1)), oB 64 (.bin .sub (.t 62) (.t 63)), oB 65 (.bin .geq (.t 64) (iN 2))]) (.cond (.t 65) (.seq (.ops [oB 66 (.mov (.t 9)), oB 67 (.bin .sub (.t 66) (iN 1)), oB 11 (.mov (.t 67))]) (.block 4 (.loop [0, 1, 2, 3, 9, 10, 11] [0, 1, 2, 3, 9, 10] Ztf))) (.skip))) (.seq (.ops [oB 101 (.mov (.t 2)), oB 102 (.mov (.t 9)), oB 103 (.bin .sub (.t 101) (.t 102)), oB 104 (.bin .geq (.t 103) (iN 2))]) (.cond (.t 104) (.seq (.ops [oB 105 (.mov (.t 9)), oB 106 (.bin .add (.t 105) (iN 1)), oB 12 (.mov (.t 106))]) (.block 6 (.loop [0, 1, 2, 3, 9, 10, 12] [0, 1, 2, 3, 9, 10] Zq8))) (.skip))))))))) (.ops [oB 17 (.mov (.t 10)), oB 18 (.bin .add (.t 17) (iN 1)), oB 10 (.mov (.t 18))]))
def ZBh : C := .seq (.ops [oB 8 (.mov bF)]) (.seq (.ops [oB 13 (.mov (.t 1)), oB 14 (.bin .add (.t 13) (iN 1)), oB 9 (.mov (.t 14))]) (.seq (.seq (.ops [oB 10 (.mov (iN 0))]) (.block 0 (.loop [0, 1, 2, 3, 9, 10] [8] ZtB))) (.seq (.ops [oB 8 (.mov bF)]) (.ret))))
def Zw8 : FnI := ⟨4, ZBh, [(8, none)]⟩
def Zti : C := .seq (.seq (.draw [oB 31 (.mov (.t 11)), oM 32 (.mov (.t 12)) [0], oB 33 (.bin .leq (.t 31) (.t 32)), oB 34 (.mov (.t 33)), oG 35 (.mov (.t 4)) 34 true, ⟨some 36, .mov (.t 0), some (34, true), [4], 0⟩, ⟨some 37, .mov (.t 1), some (34, true), [4, 5], 0⟩, ⟨some 38, .iaddr 1 (.t 36) (.t 37), some (34, true), [4], 0⟩, ⟨some 39, .load 1 false (.t 38), some (34, true), [4], 0⟩, ⟨some 40, .mov (.t 0), some (34, true), [4, 5, 6, 7, 8], 0⟩, ⟨some 41, .mov (.t 11), some (34, true), [4, 5, 6, 7, 8, 9], 0⟩, ⟨some 42, .iaddr 1 (.t 40) (.t 41), some (34, true), [4, 5, 6, 7, 8], 0⟩, ⟨some 43, .load 1 false (.t 42), some (34, true), [4, 5, 6, 7, 8], 0⟩, oG 44 (.callv (.t 35) [(.t 39), (.t 43)]) 34 true, oG 45 (.bin .lss (.t 44) (iN 0)) 34 true, oG 46 (.un .not (.t 45)) 34 true, oB 47 (.pick (.t 34) (.t 46) bF)]) (.cond (.t 47) (.skip) (.exit 2))) (.block 3 (.ops [oB 48 (.mov (.t 11)), oB 49 (.bin .add (.t 48) (iN 1)), oB 11 (.mov (.t 49))]))
def Zt4 : C := .seq (.seq (.draw [oB 50 (.mov (.t 11)), oM 51 (.mov (.t 12)) [0], oB 52 (.bin .leq (.t 50) (.t 51)), oB 53 (.mov (.t 52)), oG 54 (.mov (.t 4)) 53 true, ⟨some 55, .mov (.t 0), some (53, true), [4], 0⟩, ⟨some 56, .mov (.t 1), some (53, true), [4, 5], 0⟩, ⟨some 57, .iaddr 1 (.t 55) (.t 56), some (53, true), [4], 0⟩, ⟨some 58, .load 1 false (.t 57), some (53, true), [4], 0⟩, ⟨some 59, .mov (.t 0), some (53, true), [4, 5, 6, 7, 8], 0⟩, ⟨some 60, .mov (.t 12), some (53, true), [4, 5, 6, 7, 8, 9], 0⟩, ⟨some 61, .iaddr 1 (.t 59) (.t 60), some (53, true), [4, 5, 6, 7, 8], 0⟩, ⟨some 62, .load 1 false (.t 61), some (53, true), [4, 5, 6, 7, 8], 0⟩, oG 63 (.callv (.t 54) [(.t 58), (.t 62)]) 53 true, oG 64 (.bin .lss (.t 63) (iN 0)) 53 true, oB 65 (.pick (.t 53) (.t 64) bF)]) (.cond (.t 65) (.skip) (.exit 4))) (.block 5 (.ops [oB 66 (.mov (.t 12)), oB 67 (.bin .sub (.t 66) (iN 1)), oB 12 (.mov (.t 67))]))
def Zt2 : C := .block 1 (.seq (.block 2 (.loop [0, 1, 4, 11, 12] [0, 1, 4, 11, 12] Zti)) (.seq (.block 4 (.loop [0, 1, 4, 11, 12] [0, 1, 4, 11, 12] Zt4)) (.seq (.seq (.ops [oB 68 (.mov (.t 11)), oB 69 (.mov (.t 12)), oB 70 (.bin .gtr (.t 68) (.t 69))]) (.cond (.t 70) (.exit 0) (.skip))) (.seq (.draw [oB 71 (.mov (.t 0)), oM 72 (.mov (.t 11)) [0], oM 73 (.mov (.t 0)) [0, 1], oM 74 (.mov (.t 12)) [0, 1, 2], oM 75 (.mov (.t 0)) [0, 1, 2, 3], oM 76 (.mov (.t 12)) [0, 1, 2, 3, 4], oM 77 (.iaddr 1 (.t 75) (.t 76)) [0, 1, 2, 3], oM 78 (.load 1 false (.t 77)) [0, 1, 2, 3], oM 79 (.mov (.t 0)) [0, 1, 2, 3, 4, 5, 6, 7], oM 80 (.mov (.t 11)) [0, 1, 2, 3, 4, 5, 6, 7, 8], oM 81 (.iaddr 1 (.t 79) (.t 80)) [0, 1, 2, 3, 4, 5, 6, 7], oM 82 (.load 1 false (.t 81)) [0, 1, 2, 3, 4, 5, 6, 7], oM 83 (.iaddr 1 (.t 71) (.t 72)) [2, 3], ⟨none, .store 1 (.t 83) (.t 78), none, [], 3⟩, oB 84 (.iaddr 1 (.t 73) (.t 74)), ⟨none, .store 1 (.t 84) (.t 82), none, [], 3⟩]) (.seq (.ops [oB 85 (.mov (.t 11)), oB 86 (.bin .add (.t 85) (iN 1)), oB 11 (.mov (.t 86))]) (.ops [oB 87 (.mov (.t 12)), oB 88 (.bin .sub (.t 87) (iN 1)), oB 12 (.mov (.t 88))]))))))
def ZBo : C := .seq (.ops [oB 10 (.mov (iN 0))]) (.seq (.draw [oB 13 (.mov (.t 0)), oM 14 (.mov (.t 1)) [0], oM 15 (.mov (.t 0)) [0, 1], oM 16 (.mov (.t 3)) [0, 1, 2], oM 17 (.mov (.t 0)) [0, 1, 2, 3], oM 18 (.mov (.t 3)) [0, 1, 2, 3, 4], oM 19 (.iaddr 1 (.t 17) (.t 18)) [0, 1, 2, 3], oM 20 (.load 1 false (.t 19)) [0, 1, 2, 3], oM 21 (.mov (.t 0)) [0, 1, 2, 3, 4, 5, 6, 7], oM 22 (.mov (.t 1)) [0, 1, 2, 3, 4, 5, 6, 7, 8], oM 23 (.iaddr 1 (.t 21) (.t 22)) [0, 1, 2, 3, 4, 5, 6, 7], oM 24 (.load 1 false (.t 23)) [0, 1, 2, 3, 4, 5, 6, 7], oM 25 (.iaddr 1 (.t 13) (.t 14)) [2, 3], ⟨none, .store 1 (.t 25) (.t 20), none, [], 3⟩, oB 26 (.iaddr 1 (.t 15) (.t 16)), ⟨none, .store 1 (.t 26) (.t 24), none, [], 3⟩]) (.seq (.ops [oB 27 (.mov (.t 1)), oB 28 (.bin .add (.t 27) (iN 1)), oB 29 (.mov (.t 2)), oB 30 (.bin .sub (.t 29) (iN 1)), oB 11 (.mov (.t 28)), oB 12 (.mov (.t 30))]) (.seq (.block 0 (.loop [0, 1, 4, 11, 12] [11] Zt2)) (.seq (.ops [oB 89 (.mov (.t 11)), oB 10 (.mov (.t 89))]) (.ret)))))
def Zwe : FnI := ⟨5, ZBo, [(10, none)]⟩
def Ztn : C := .seq (.seq (.draw [oB 32 (.mov (.t 12)), oM 33 (.mov (.t 13)) [0], oB 34 (.bin .leq (.t 32) (.t 33)), oB 35 (.mov (.t 34)), oG 36 (.mov (.t 4)) 35 true, ⟨some 37, .mov (.t 0), some (35, true), [4], 0⟩, ⟨some 38, .mov (.t 12), some (35, true), [4, 5], 0⟩, ⟨some 39, .iaddr 1 (.t 37) (.t 38), some (35, true), [4], 0⟩, ⟨some 40, .load 1 false (.t 39), some (35, true), [4], 0⟩, ⟨some 41, .mov (.t 0), some (35, true), [4, 5, 6, 7, 8], 0⟩, ⟨some 42, .mov (.t 1), some (35, true), [4, 5, 6, 7, 8, 9], 0⟩, ⟨some 43, .iaddr 1 (.t 41) (.t 42), some (35, true), [4, 5, 6, 7, 8], 0⟩, ⟨some 44, .load 1 false (.t 43), some (35, true), [4, 5, 6, 7, 8], 0⟩, oG 45 (.callv (.t 36) [(.t 40), (.t 44)]) 35 true, oG 46 (.bin .lss (.t 45) (iN 0)) 35 true, oB 47 (.pick (.t 35) (.t 46) bF)]) (.cond (.t 47) (.skip) (.exit 0))) (.block 1 (.ops [oB 48 (.mov (.t 12)), oB 49 (.bin .add (.t 48) (iN 1)), oB 12 (.mov (.t 49))]))
def Zty : C := .seq (.seq (.draw [oB 50 (.mov (.t 12)), oM 51 (.mov (.t 13)) [0], oB 52 (.bin .leq (.t 50) (.t 51)), oB 53 (.mov (.t 52)), oG 54 (.mov (.t 4)) 53 true, ⟨some 55, .mov (.t 0), some (53, true), [4], 0⟩, ⟨some 56, .mov (.t 13), some (53, true), [4, 5], 0⟩, ⟨some 57, .iaddr 1 (.t 55) (.t 56), some (53, true), [4], 0⟩, ⟨some 58, .load 1 false (.t 57), some (53, true), [4], 0⟩, ⟨some 59, .mov (.t 0), some (53, true), [4, 5, 6, 7, 8], 0⟩, ⟨some 60, .mov (.t 1), some (53, true), [4, 5, 6, 7, 8, 9], 0⟩, ⟨some 61, .iaddr 1 (.t 59) (.t 60), some (53, true), [4, 5, 6, 7, 8], 0⟩, ⟨some 62, .load 1 false (.t 61), some (53, true), [4, 5, 6, 7, 8], 0⟩, oG 63 (.callv (.t 54) [(.t 58), (.t 62)]) 53 true, oG 64 (.bin .lss (.t 63) (iN 0)) 53 true, oG 65 (.un .not (.t 64)) 53 true, oB 66 (.pick (.t 53) (.t 65) bF)]) (.cond (.t 66) (.skip) (.exit 2))) (.block 3 (.ops [oB 67 (.mov (.t 13)), oB 68 (.bin .sub (.t 67) (iN 1)), oB 13 (.mov (.t 68))]))
def ZtS : C := .seq (.seq (.draw [oB 105 (.mov (.t 12)), oM 106 (.mov (.t 13)) [0], oB 107 (.bin .leq (.t 105) (.t 106)), oB 108 (.mov (.t 107)), oG 109 (.mov (.t 4)) 108 true, ⟨some 110, .mov (.t 0), some (108, true), [4], 0⟩, ⟨some 111, .mov (.t 12), some (108, true), [4, 5], 0⟩, ⟨some 112, .iaddr 1 (.t 110) (.t 111), some (108, true), [4], 0⟩, ⟨some 113, .load 1 false (.t 112), some (108, true), [4], 0⟩, ⟨some 114, .mov (.t 0), some (108, true), [4, 5, 6, 7, 8], 0⟩, ⟨some 115, .mov (.t 1), some (108, true), [4, 5, 6, 7, 8, 9], 0⟩, ⟨some 116, .iaddr 1 (.t 114) (.t 115), some (108, true), [4, 5, 6, 7, 8], 0⟩, ⟨some 117, .load 1 false (.t 116), some (108, true), [4, 5, 6, 7, 8], 0⟩, oG 118 (.callv (.t 109) [(.t 113), (.t 117)]) 108 true, oG 119 (.bin .lss (.t 118) (iN 0)) 108 true, oB 120 (.pick (.t 108) (.t 119) bF)]) (.cond (.t 120) (.skip) (.exit 6))) (.block 7 (.ops [oB 121 (.mov (.t 12)), oB 122 (.bin .add (.t 121) (iN 1)), oB 12 (.mov (.t 122))]))
def ZtP : C := .seq (.seq (.draw [oB 123 (.mov (.t 12)), oM 124 (.mov (.t 13)) [0], oB 125 (.bin .leq (.t 123) (.t 124)), oB 126 (.mov (.t 125)), oG 127 (.mov (.t 4)) 126 true, ⟨some 128, .mov (.t 0), some (126, true), [4], 0⟩, ⟨some 129, .mov (.t 13), some (126, true), [4, 5], 0⟩, ⟨some 130, .iaddr 1 (.t 128) (.t 129), some (126, true), [4], 0⟩, ⟨some 131, .load 1 false (.t 130), some (126, true), [4], 0⟩, ⟨some 132, .mov (.t 0), some (126, true), [4, 5, 6, 7, 8], 0⟩, ⟨some 133, .mov (.t 1), some (126, true), [4, 5, 6, 7, 8, 9], 0⟩, ⟨some 134, .iaddr 1 (.t 132) (.t 133), some (126, true), [4, 5, 6, 7, 8], 0⟩, ⟨some 135, .load 1 false (.t 134), some (126, true), [4, 5, 6, 7, 8], 0⟩, oG 136 (.callv (.t 127) [(.t 131), (.t 135)]) 126 true, oG 137 (.bin .lss (.t 136) (iN 0)) 126 true, oG 138 (.un .not (.t 137)) 126 true, oB 139 (.pick (.t 126) (.t 138) bF)]) (.cond (.t 139) (.skip) (.exit 8))) (.block 9 (.ops [oB 140 (.mov (.t 13)), oB 141 (.bin .sub (.t 140) (iN 1)), oB 13 (.mov (.t 141))]))
def ZtI : C := .block 5 (.seq (.block 6 (.loop [0, 1, 4, 12, 13] [0, 1, 4, 12, 13] ZtS)) (.seq (.block 8 (.loop [0, 1, 4, 12, 13] [0, 1, 4, 12, 13] ZtP)) (.seq (.seq (.ops [oB 142 (.mov (.t 12)), oB 143 (.mov (.t 13)), oB 144 (.bin .gtr (.t 142) (.t 143))]) (.cond (.t 144) (.exit 4) (.skip))) (.seq (.draw [oB 145 (.mov (.t 0)), oM 146 (.mov (.t 12)) [0], oM 147 (.mov (.t 0)) [0, 1], oM 148 (.mov (.t 13)) [0, 1, 2], oM 149 (.mov (.t 0)) [0, 1, 2, 3], oM 150 (.mov (.t 13)) [0, 1, 2, 3, 4], oM 151 (.iaddr 1 (.t 149) (.t 150)) [0, 1, 2, 3], oM 152 (.load 1 false (.t 151)) [0, 1, 2, 3], oM 153 (.mov (.t 0)) [0, 1, 2, 3, 4, 5, 6, 7], oM 154 (.mov (.t 12)) [0, 1, 2, 3, 4, 5, 6, 7, 8], oM 155 (.iaddr 1 (.t 153) (.t 154)) [0, 1, 2, 3, 4, 5, 6, 7], oM 156 (.load 1 false (.t 155)) [0, 1, 2, 3, 4, 5, 6, 7], oM 157 (.iaddr 1 (.t 145) (.t 146)) [2, 3], ⟨none, .store 1 (.t 157) (.t 152), none, [], 3⟩, oB 158 (.iaddr 1 (.t 147) (.t 148)), ⟨none, .store 1 (.t 158) (.t 156), none, [], 3⟩]) (.seq (.ops [oB 159 (.mov (.t 12)), oB 160 (.bin .add (.t 159) (iN 1)), oB 12 (.mov (.t 160))]) (.ops [oB 161 (.mov (.t 13)), oB 162 (.bin .sub (.t 161) (iN 1)), oB 13 (.mov (.t 162))]))))))
def ZBE : C := .seq (.ops [oB 10 (.mov (iN 0)), oB 11 (.mov bF)]) (.seq (.draw [oB 14 (.mov (.t 0)), oM 15 (.mov (.t 1)) [0], oM 16 (.mov (.t 0)) [0, 1], oM 17 (.mov (.t 3)) [0, 1, 2], oM 18 (.mov (.t 0)) [0, 1, 2, 3], oM 19 (.mov (.t 3)) [0, 1, 2, 3, 4], oM 20 (.iaddr 1 (.t 18) (.t 19)) [0, 1, 2, 3], oM 21 (.load 1 false (.t 20)) [0, 1, 2, 3], oM 22 (.mov (.t 0)) [0, 1, 2, 3, 4, 5, 6, 7], oM 23 (.mov (.t 1)) [0, 1, 2, 3, 4, 5, 6, 7, 8], oM 24 (.iaddr 1 (.t 22) (.t 23)) [0, 1, 2, 3, 4, 5, 6, 7], oM 25 (.load 1 false (.t 24)) [0, 1, 2, 3, 4, 5, 6, 7], oM 26 (.iaddr 1 (.t 14) (.t 15)) [2, 3], ⟨none, .store 1 (.t 26) (.t 21), none, [], 3⟩, oB 27 (.iaddr 1 (.t 16) (.t 17)), ⟨none, .store 1 (.t 27) (.t 25), none, [], 3⟩]) (.seq (.ops [oB 28 (.mov (.t 1)), oB 29 (.bin .add (.t 28) (iN 1)), oB 30 (.mov (.t 2)), oB 31 (.bin .sub (.t 30) (iN 1)), oB 12 (.mov (.t 29)), oB 13 (.mov (.t 31))]) (.seq (.block 0 (.loop [0, 1, 4, 12, 13] [0, 1, 4, 12, 13] Ztn)) (.seq (.block 2 (.loop [0, 1, 4, 12, 13] [0, 1, 4, 12, 13] Zty)) (.seq (.seq (.ops [oB 69 (.mov (.t 12)), oB 70 (.mov (.t 13)), oB 71 (.bin .gtr (.t 69) (.t 70))]) (.cond (.t 71) (.seq (.draw [oB 72 (.mov (.t 0)), oM 73 (.mov (.t 13)) [0], oM 74 (.mov (.t 0)) [0, 1], oM 75 (.mov (.t 1)) [0, 1, 2], oM 76 (.mov (.t 0)) [0, 1, 2, 3], oM 77 (.mov (.t 1)) [0, 1, 2, 3, 4], oM 78 (.iaddr 1 (.t 76) (.t 77)) [0, 1, 2, 3], oM 79 (.load 1 false (.t 78)) [0, 1, 2, 3], oM 80 (.mov (.t 0)) [0, 1, 2, 3, 4, 5, 6, 7], oM 81 (.mov (.t 13)) [0, 1, 2, 3, 4, 5, 6, 7, 8], oM 82 (.iaddr 1 (.t 80) (.t 81)) [0, 1, 2, 3, 4, 5, 6, 7], oM 83 (.load 1 false (.t 82)) [0, 1, 2, 3, 4, 5, 6, 7], oM 84 (.iaddr 1 (.t 72) (.t 73)) [2, 3], ⟨none, .store 1 (.t 84) (.t 79), none, [], 3⟩, oB 85 (.iaddr 1 (.t 74) (.t 75)), ⟨none, .store 1 (.t 85) (.t 83), none, [], 3⟩]) (.seq (.ops [oB 86 (.mov (.t 13)), oB 10 (.mov (.t 86)), oB 11 (.mov bT)]) (.ret))) (.skip))) (.seq (.draw [oB 87 (.mov (.t 0)), oM 88 (.mov (.t 12)) [0], oM 89 (.mov (.t 0)) [0, 1], oM 90 (.mov (.t 13)) [0, 1, 2], oM 91 (.mov (.t 0)) [0, 1, 2, 3], oM 92 (.mov (.t 13)) [0, 1, 2, 3, 4], oM 93 (.iaddr 1 (.t 91) (.t 92)) [0, 1, 2, 3], oM 94 (.load 1 false (.t 93)) [0, 1, 2, 3], oM 95 (.mov (.t 0)) [0, 1, 2, 3, 4, 5, 6, 7], oM 96 (.mov (.t 12)) [0, 1, 2, 3, 4, 5, 6, 7, 8], oM 97 (.iaddr 1 (.t 95) (.t 96)) [0, 1, 2, 3, 4, 5, 6, 7], oM 98 (.load 1 false (.t 97)) [0, 1, 2, 3, 4, 5, 6, 7], oM 99 (.iaddr 1 (.t 87) (.t 88)) [2, 3], ⟨none, .store 1 (.t 99) (.t 94), none, [], 3⟩, oB 100 (.iaddr 1 (.t 89) (.t 90)), ⟨none, .store 1 (.t 100) (.t 98), none, [], 3⟩]) (.seq (.ops [oB 101 (.mov (.t 12)), oB 102 (.bin .add (.t 101) (iN 1)), oB 12 (.mov (.t 102))]) (.seq (.ops [oB 103 (.mov (.t 13)), oB 104 (.bin .sub (.t 103) (iN 1)), oB 13 (.mov (.t 104))]) (.seq (.block 4 (.loop [0, 1, 4, 12, 13] [0, 1, 13] ZtI)) (.seq (.draw [oB 163 (.mov (.t 0)), oM 164 (.mov (.t 13)) [0], oM 165 (.mov (.t 0)) [0, 1], oM 166 (.mov (.t 1)) [0, 1, 2], oM 167 (.mov (.t 0)) [0, 1, 2, 3], oM 168 (.mov (.t 1)) [0, 1, 2, 3, 4], oM 169 (.iaddr 1 (.t 167) (.t 168)) [0, 1, 2, 3], oM 170 (.load 1 false (.t 169)) [0, 1, 2, 3], oM 171 (.mov (.t 0)) [0, 1, 2, 3, 4, 5, 6, 7], oM 172 (.mov (.t 13)) [0, 1, 2, 3, 4, 5, 6, 7, 8], oM 173 (.iaddr 1 (.t 171) (.t 172)) [0, 1, 2, 3, 4, 5, 6, 7], oM 174 (.load 1 false (.t 173)) [0, 1, 2, 3, 4, 5, 6, 7], oM 175 (.iaddr 1 (.t 163) (.t 164)) [2, 3], ⟨none, .store 1 (.t 175) (.t 170), none, [], 3⟩, oB 176 (.iaddr 1 (.t 165) (.t 166)), ⟨none, .store 1 (.t 176) (.t 174), none, [], 3⟩]) (.seq (.ops [oB 177 (.mov (.t 13)), oB 10 (.mov (.t 177)), oB 11 (.mov bF)]) (.ret))))))))))))
def Zwz : FnI := ⟨5, ZBE, [(10, none), (11, none)]⟩
def ZAH : C := .seq (.ops [oB 2 (.mov (iN 0))]) (.seq (.seq (.ops [oB 3 (.mov (.t 0)), oB 4 (.bin .geq (.t 3) (.c (.d (.int .u32 65536))))]) (.cond (.t 4) (.seq (.ops [oB 5 (.mov (.t 0)), oB 6 (.bin .shr (.t 5) (.c (.d (.int .u64 16)))), oB 0 (.mov (.t 6))]) (.ops [oB 2 (.mov (iN 16))])) (.skip))) (.seq (.seq (.ops [oB 7 (.mov (.t 0)), oB 8 (.bin .geq (.t 7) (.c (.d (.int .u32 256))))]) (.cond (.t 8) (.seq (.ops [oB 9 (.mov (.t 0)), oB 10 (.bin .shr (.t 9) (.c (.d (.int .u64 8)))), oB 0 (.mov (.t 10))]) (.ops [oB 11 (.mov (.t 2)), oB 12 (.bin .add (.t 11) (iN 8)), oB 2 (.mov (.t 12))])) (.skip))) (.seq (.ops [oB 13 (.mov (.t 2)), oB 14 (.mov (.t 0)), oB 15 (.conv .u8 (.t 14)), oB 16 (.indexS (.c (.d (.str ⟨#[0, 1, 2, 2, 3, 3, 3, 3, 4, 4, 4, 4, 4, 4, 4, 4, 5, 5, 5, 5, 5, 5, 5, 5, 5, 5, 5, 5, 5, 5, 5, 5, 6, 6, 6, 6, 6, 6, 6, 6, 6, 6, 6, 6, 6, 6, 6, 6, 6, 6, 6, 6, 6, 6, 6, 6, 6, 6, 6, 6, 6, 6, 6, 6, 7, 7, 7, 7, 7, 7, 7, 7, 7, 7, 7, 7, 7, 7, 7, 7, 7, 7, 7, 7, 7, 7, 7, 7, 7, 7, 7, 7, 7, 7, 7, 7, 7, 7, 7, 7, 7, 7, 7, 7, 7, 7, 7, 7, 7, 7, 7, 7, 7, 7, 7, 7, 7, 7, 7, 7, 7, 7, 7, 7, 7, 7, 7, 7, 8, 8, 8, 8, 8, 8, 8, 8, 8, 8, 8, 8, 8, 8, 8, 8, 8, 8, 8, 8, 8, 8, 8, 8, 8, 8, 8, 8, 8, 8, 8, 8, 8, 8, 8, 8, 8, 8, 8, 8, 8, 8, 8, 8, 8, 8, 8, 8, 8, 8, 8, 8, 8, 8, 8, 8, 8, 8, 8, 8, 8, 8, 8, 8, 8, 8, 8, 8, 8, 8, 8, 8, 8, 8, 8, 8, 8, 8, 8, 8, 8, 8, 8, 8, 8, 8, 8, 8, 8, 8, 8, 8, 8, 8, 8, 8, 8, 8, 8, 8, 8, 8, 8, 8, 8, 8, 8, 8, 8, 8, 8, 8, 8, 8, 8, 8, 8, 8, 8, 8, 8, 8, 8, 8, 8, 8, 8, 8]⟩))) (.t 15)), oB 17 (.conv .i64 (.t 16)), oB 18 (.bin .add (.t 13) (.t 17)), oB 2 (.mov (.t 18))]) (.ret))))
def ZyJ : FnI := ⟨1, ZAH, [(2, none)]⟩
def ZBz : C := .seq (.ops [oB 2 (.mov (iN 0))]) (.seq (.seq (.ops [oB 3 (.mov (.t 0)), oB 4 (.bin .geq (.t 3) (.c (.d (.int .u64 4294967296))))]) (.cond (.t 4) (.seq (.ops [oB 5 (.mov (.t 0)), oB 6 (.bin .shr (.t 5) (.c (.d (.int .u64 32)))), oB 0 (.mov (.t 6))]) (.ops [oB 2 (.mov (iN 32))])) (.skip))) (.seq (.seq (.ops [oB 7 (.mov (.t 0)), oB 8 (.bin .geq (.t 7) (.c (.d (.int .u64 65536))))]) (.cond (.t 8) (.seq (.ops [oB 9 (.mov (.t 0)), oB 10 (.bin .shr (.t 9) (.c (.d (.int .u64 16)))), oB 0 (.mov (.t 10))]) (.ops [oB 11 (.mov (.t 2)), oB 12 (.bin .add (.t 11) (iN 16)), oB 2 (.mov (.t 12))])) (.skip))) (.seq (.seq (.ops [oB 13 (.mov (.t 0)), oB 14 (.bin .geq (.t 13) (.c (.d (.int .u64 256))))]) (.cond (.t 14) (.seq (.ops [oB 15 (.mov (.t 0)), oB 16 (.bin .shr (.t 15) (.c (.d (.int .u64 8)))), oB 0 (.mov (.t 16))]) (.ops [oB 17 (.mov (.t 2)), oB 18 (.bin .add (.t 17) (iN 8)), oB 2 (.mov (.t 18))])) (.skip))) (.seq (.ops [oB 19 (.mov (.t 2)), oB 20 (.mov (.t 0)), oB 21 (.conv .u8 (.t 20)), oB 22 (.indexS (.c (.d (.str ⟨#[0, 1, 2, 2, 3, 3, 3, 3, 4, 4, 4, 4, 4, 4, 4, 4, 5, 5, 5, 5, 5, 5, 5, 5, 5, 5, 5, 5, 5, 5, 5, 5, 6, 6, 6, 6, 6, 6, 6, 6, 6, 6, 6, 6, 6, 6, 6, 6, 6, 6, 6, 6, 6, 6, 6, 6, 6, 6, 6, 6, 6, 6, 6, 6, 7, 7, 7, 7, 7, 7, 7, 7, 7, 7, 7, 7, 7, 7, 7, 7, 7, 7, 7, 7, 7, 7, 7, 7, 7, 7, 7, 7, 7, 7, 7, 7, 7, 7, 7, 7, 7, 7, 7, 7, 7, 7, 7, 7, 7, 7, 7, 7, 7, 7, 7, 7, 7, 7, 7, 7, 7, 7, 7, 7, 7, 7, 7, 7, 8, 8, 8, 8, 8, 8, 8, 8, 8, 8, 8, 8, 8, 8, 8, 8, 8, 8, 8, 8, 8, 8, 8, 8, 8, 8, 8, 8, 8, 8, 8, 8, 8, 8, 8, 8, 8, 8, 8, 8, 8, 8, 8, 8, 8, 8, 8, 8, 8, 8, 8, 8, 8, 8, 8, 8, 8, 8, 8, 8, 8, 8, 8, 8, 8, 8, 8, 8, 8, 8, 8, 8, 8, 8, 8, 8, 8, 8, 8, 8, 8, 8, 8, 8, 8, 8, 8, 8, 8, 8, 8, 8, 8, 8, 8, 8, 8, 8, 8, 8, 8, 8, 8, 8, 8, 8, 8, 8, 8, 8, 8, 8, 8, 8, 8, 8, 8, 8, 8, 8, 8, 8, 8, 8, 8, 8, 8, 8]⟩))) (.t 21)), oB 23 (.conv .i64 (.t 22)), oB 24 (.bin .add (.t 19) (.t 23)), oB 2 (.mov (.t 24))]) (.ret)))))
def Zvw : FnI := ⟨1, ZBz, [(2, none)]⟩
def Zto : C := .block 1 (.seq (.ops [oB 13 (.mov (.t 10)), oB 14 (.bin .mul (iN 2) (.t 13)), oB 15 (.bin .add (.t 14) (iN 1)), oB 11 (.mov (.t 15))]) (.seq (.seq (.ops [oB 16 (.mov (.t 11)), oB 17 (.mov (.t 2)), oB 18 (.bin .geq (.t 16) (.t 17))]) (.cond (.t 18) (.exit 0) (.skip))) (.seq (.seq (.draw [oB 19 (.mov (.t 11)), oB 20 (.bin .add (.t 19) (iN 1)), oM 21 (.mov (.t 2)) [0, 1], oB 22 (.bin .lss (.t 20) (.t 21)), oB 23 (.mov (.t 22)), oG 24 (.mov (.t 4)) 23 true, ⟨some 25, .mov (.t 0), some (23, true), [5], 0⟩, ⟨some 26, .mov (.t 3), some (23, true), [5, 6], 0⟩, ⟨some 27, .mov (.t 11), some (23, true), [5, 6, 7], 0⟩, ⟨some 28, .bin .add (.t 26) (.t 27), some (23, true), [5, 6], 0⟩, ⟨some 29, .iaddr 1 (.t 25) (.t 28), some (23, true), [5], 0⟩, ⟨some 30, .load 1 false (.t 29), some (23, true), [5], 0⟩, ⟨some 31, .mov (.t 0), some (23, true), [5, 6, 7, 8, 9, 10, 11], 0⟩, ⟨some 32, .mov (.t 3), some (23, true), [5, 6, 7, 8, 9, 10, 11, 12], 0⟩, ⟨some 33, .mov (.t 11), some (23, true), [5, 6, 7, 8, 9, 10, 11, 12, 13], 0⟩, ⟨some 34, .bin .add (.t 32) (.t 33), some (23, true), [5, 6, 7, 8, 9, 10, 11, 12], 0⟩, ⟨some 35, .bin .add (.t 34) (iN 1), some (23, true), [5, 6, 7, 8, 9, 10, 11, 12], 0⟩, ⟨some 36, .iaddr 1 (.t 31) (.t 35), some (23, true), [5, 6, 7, 8, 9, 10, 11], 0⟩, ⟨some 37, .load 1 false (.t 36), some (23, true), [5, 6, 7, 8, 9, 10, 11], 0⟩, oG 38 (.callv (.t 24) [(.t 30), (.t 37)]) 23 true, oG 39 (.bin .lss (.t 38) (iN 0)) 23 true, oB 40 (.pick (.t 23) (.t 39) bF)]) (.cond (.t 40) (.ops [oB 41 (.mov (.t 11)), oB 42 (.bin .add (.t 41) (iN 1)), oB 11 (.mov (.t 42))]) (.skip))) (.seq (.seq (.draw [oB 43 (.mov (.t 4)), oM 44 (.mov (.t 0)) [0], oM 45 (.mov (.t 3)) [0, 1], oM 46 (.mov (.t 10)) [0, 1, 2], oM 47 (.bin .add (.t 45) (.t 46)) [0, 1], oM 48 (.iaddr 1 (.t 44) (.t 47)) [0], oM 49 (.load 1 false (.t 48)) [0], oM 50 (.mov (.t 0)) [0, 1, 2, 3, 4, 5, 6], oM 51 (.mov (.t 3)) [0, 1, 2, 3, 4, 5, 6, 7], oM 52 (.mov (.t 11)) [0, 1, 2, 3, 4, 5, 6, 7, 8], oM 53 (.bin .add (.t 51) (.t 52)) [0, 1, 2, 3, 4, 5, 6, 7], oM 54 (.iaddr 1 (.t 50) (.t 53)) [0, 1, 2, 3, 4, 5, 6], oM 55 (.load 1 false (.t 54)) [0, 1, 2, 3, 4, 5, 6], oB 56 (.callv (.t 43) [(.t 49), (.t 55)]), oB 57 (.bin .lss (.t 56) (iN 0)), oB 58 (.un .not (.t 57))]) (.cond (.t 58) (.ret) (.skip))) (.seq (.draw [oB 59 (.mov (.t 0)), oM 60 (.mov (.t 3)) [0], oM 61 (.mov (.t 10)) [0, 1], oM 62 (.bin .add (.t 60) (.t 61)) [0], oM 63 (.mov (.t 0)) [0, 1, 2, 3], oM 64 (.mov (.t 3)) [0, 1, 2, 3, 4], oM 65 (.mov (.t 11)) [0, 1, 2, 3, 4, 5], oM 66 (.bin .add (.t 64) (.t 65)) [0, 1, 2, 3, 4], oM 67 (.mov (.t 0)) [0, 1, 2, 3, 4, 5, 6, 7], oM 68 (.mov (.t 3)) [0, 1, 2, 3, 4, 5, 6, 7, 8], oM 69 (.mov (.t 11)) [0, 1, 2, 3, 4, 5, 6, 7, 8, 9], oM 70 (.bin .add (.t 68) (.t 69)) [0, 1, 2, 3, 4, 5, 6, 7, 8], oM 71 (.iaddr 1 (.t 67) (.t 70)) [0, 1, 2, 3, 4, 5, 6, 7], oM 72 (.load 1 false (.t 71)) [0, 1, 2, 3, 4, 5, 6, 7], oM 73 (.mov (.t 0)) [0, 1, 2, 3, 4, 5, 6, 7, 8, 9, 10, 11, 12, 13], oM 74 (.mov (.t 3)) [0, 1, 2, 3, 4, 5, 6, 7, 8, 9, 10, 11, 12, 13, 14], oM 75 (.mov (.t 10)) [0, 1, 2, 3, 4, 5, 6, 7, 8, 9, 10, 11, 12, 13, 14, 15], oM 76 (.bin .add (.t 74) (.t 75)) [0, 1, 2, 3, 4, 5, 6, 7, 8, 9, 10, 11, 12, 13, 14], oM 77 (.iaddr 1 (.t 73) (.t 76)) [0, 1, 2, 3, 4, 5, 6, 7, 8, 9, 10, 11, 12, 13], oM 78 (.load 1 false (.t 77)) [0, 1, 2, 3, 4, 5, 6, 7, 8, 9, 10, 11, 12, 13], oM 79 (.iaddr 1 (.t 59) (.t 62)) [4, 5, 6, 7], ⟨none, .store 1 (.t 79) (.t 72), none, [], 3⟩, oB 80 (.iaddr 1 (.t 63) (.t 66)), ⟨none, .store 1 (.t 80) (.t 78), none, [], 3⟩]) (.ops [oB 81 (.mov (.t 11)), oB 10 (.mov (.t 81))]))))))
def ZAu : C := .seq (.ops [oB 12 (.mov (.t 1)), oB 10 (.mov (.t 12))]) (.block 0 (.loop [0, 2, 3, 4, 10] [] Zto))
def Zxh : FnI := ⟨5, ZAu, []⟩
def ZAx : C := .seq (.ops [oB 2 (.mov (.c (.d (.int .u64 0))))]) (.seq (.ops [oB 3 (.mov (.t 0)), oB 4 (.conv .u64 (.t 3)), oB 5 (.call 125 [(.t 4)]), oB 6 (.bin .shl (.c (.d (.int .u64 1))) (.t 5)), oB 2 (.mov (.t 6))]) (.ret))
def ZvV : FnI := ⟨1, ZAx, [(2, none)]⟩
def ZAI : C := .seq (.ops [oB 2 (.mov (.c (.d (.int .u64 0))))]) (.seq (.draw [oB 3 (.mov (.t 0)), oB 4 (.nilck (.t 3)), oB 5 (.load 1 false (.t 4)), oM 6 (.mov (.t 0)) [0, 1, 2], oM 7 (.nilck (.t 6)) [0, 1, 2], oM 8 (.load 1 false (.t 7)) [0, 1, 2], oM 9 (.bin .shl (.t 8) (.c (.d (.int .u64 13)))) [0, 1, 2], oB 10 (.bin .xor (.t 5) (.t 9)), oB 11 (.nilck (.t 3)), ⟨none, .store 1 (.t 11) (.t 10), none, [], 3⟩]) (.seq (.draw [oB 12 (.mov (.t 0)), oB 13 (.nilck (.t 12)), oB 14 (.load 1 false (.t 13)), oM 15 (.mov (.t 0)) [0, 1, 2], oM 16 (.nilck (.t 15)) [0, 1, 2], oM 17 (.load 1 false (.t 16)) [0, 1, 2], oM 18 (.bin .shr (.t 17) (.c (.d (.int .u64 7)))) [0, 1, 2], oB 19 (.bin .xor (.t 14) (.t 18)), oB 20 (.nilck (.t 12)), ⟨none, .store 1 (.t 20) (.t 19), none, [], 3⟩]) (.seq (.draw [oB 21 (.mov (.t 0)), oB 22 (.nilck (.t 21)), oB 23 (.load 1 false (.t 22)), oM 24 (.mov (.t 0)) [0, 1, 2], oM 25 (.nilck (.t 24)) [0, 1, 2], oM 26 (.load 1 false (.t 25)) [0, 1, 2], oM 27 (.bin .shl (.t 26) (.c (.d (.int .u64 17)))) [0, 1, 2], oB 28 (.bin .xor (.t 23) (.t 27)), oB 29 (.nilck (.t 21)), ⟨none, .store 1 (.t 29) (.t 28), none, [], 3⟩]) (.seq (.ops [oB 30 (.mov (.t 0)), oB 31 (.nilck (.t 30)), oB 32 (.load 1 false (.t 31)), oB 2 (.mov (.t 32))]) (.ret)))))
def ZwW : FnI := ⟨1, ZAI, [(2, none)]⟩
def ZBc : C := .seq (.ops [oB 8 (.mov (iN 0))]) (.seq (.ops [oB 9 (.mov (.t 0)), oB 10 (.mov (.t 1)), oB 11 (.bin .sub (.t 10) (iN 1)), oB 12 (.mov (.t 1)), oB 13 (.mov (.t 1)), oB 14 (.bin .add (.t 13) (iN 1)), oB 15 (.mov (.t 2)), oB 16 (.mov (.t 3)), oB 17 (.call 140 [(.t 9), (.t 11), (.t 12), (.t 14), (.t 15), (.t 16)]), oB 8 (.mov (.t 17))]) (.ret))
def ZwR : FnI := ⟨4, ZBc, [(8, none)]⟩
def ZBT : C := .seq (.ops [oB 12 (.mov (iN 0))]) (.seq (.ops [oB 14 (.mov (.t 0)), oB 15 (.mov (.t 1)), oB 16 (.mov (.t 2)), oB 17 (.mov (.t 4)), oB 18 (.mov (.t 5)), oB 19 (.call 141 [(.t 14), (.t 15), (.t 16), (.t 17), (.t 18)]), oB 13 (.mov (.t 19)), oB 20 (.extract (.t 13) 0), oB 21 (.extract (.t 13) 1), oB 1 (.mov (.t 20)), oB 2 (.mov (.t 21))]) (.seq (.ops [oB 23 (.mov (.t 0)), oB 24 (.mov (.t 2)), oB 25 (.mov (.t 3)), oB 26 (.mov (.t 4)), oB 27 (.mov (.t 5)), oB 28 (.call 141 [(.t 23), (.t 24), (.t 25), (.t 26), (.t 27)]), oB 22 (.mov (.t 28)), oB 29 (.extract (.t 22) 0), oB 30 (.extract (.t 22) 1), oB 2 (.mov (.t 29)), oB 3 (.mov (.t 30))]) (.seq (.ops [oB 32 (.mov (.t 0)), oB 33 (.mov (.t 1)), oB 34 (.mov (.t 2)), oB 35 (.mov (.t 4)), oB 36 (.mov (.t 5)), oB 37 (.call 141 [(.t 32), (.t 33), (.t 34), (.t 35), (.t 36)]), oB 31 (.mov (.t 37)), oB 38 (.extract (.t 31) 0), oB 39 (.extract (.t 31) 1), oB 1 (.mov (.t 38)), oB 2 (.mov (.t 39))]) (.seq (.ops [oB 40 (.mov (.t 2)), oB 12 (.mov (.t 40))]) (.ret)))))
def Zvl : FnI := ⟨6, ZBT, [(12, none)]⟩
def ZBN : C := .seq (.ops [oB 10 (.mov (iN 0)), oB 11 (.mov (iN 0))]) (.seq (.seq (.draw [oB 12 (.mov (.t 4)), oM 13 (.mov (.t 0)) [0], oM 14 (.mov (.t 2)) [0, 1], oM 15 (.iaddr 1 (.t 13) (.t 14)) [0], oM 16 (.load 1 false (.t 15)) [0], oM 17 (.mov (.t 0)) [0, 1, 2, 3, 4], oM 18 (.mov (.t 1)) [0, 1, 2, 3, 4, 5], oM 19 (.iaddr 1 (.t 17) (.t 18)) [0, 1, 2, 3, 4], oM 20 (.load 1 false (.t 19)) [0, 1, 2, 3, 4], oB 21 (.callv (.t 12) [(.t 16), (.t 20)]), oB 22 (.bin .lss (.t 21) (iN 0))]) (.cond (.t 22) (.seq (.ops [oB 23 (.mov (.t 3)), oB 24 (.nilck (.t 23)), oB 25 (.load 1 false (.t 24)), oB 26 (.bin .add (.t 25) (iN 1)), oB 27 (.nilck (.t 23)), oA (.store 1 (.t 27) (.t 26))]) (.seq (.ops [oB 28 (.mov (.t 2)), oB 29 (.mov (.t 1)), oB 10 (.mov (.t 28)), oB 11 (.mov (.t 29))]) (.ret))) (.skip))) (.seq (.ops [oB 30 (.mov (.t 1)), oB 31 (.mov (.t 2)), oB 10 (.mov (.t 30)), oB 11 (.mov (.t 31))]) (.ret)))
def Zwj : FnI := ⟨5, ZBN, [(10, none), (11, none)]⟩
def code : Nat → Option FnI
 | 6 => some fn6
 | 15 => some Zz3
 | 20 => some Zzh
 | 22 => some ZBL
 | 23 => some ZAa
 | 24 => some Zz8
 | 25 => some Zz0
 | 26 => some ZzN
 | 27 => some Zy6
 | 28 => some ZzX
 | 29 => some Zy1
 | 30 => some Zzl
 | 31 => some Zzu
 | 32 => some Zz6
 | 33 => some ZBO
 | 35 => some ZBM
 | 36 => some Zzt
 | 39 => some Zzw
 | 40 => some ZAe
 | 46 => some ZyL
 | 47 => some ZzZ
 | 48 => some Zz9
 | 49 => some ZzV
 | 50 => some ZzM
 | 51 => some Zzx
 | 52 => some ZzG
 | 53 => some ZyN
 | 54 => some ZyV
 | 55 => some ZzY
 | 56 => some ZyM
 | 57 => some Zz1
 | 58 => some Zzg
 | 59 => some ZyT
 | 60 => some ZyS
 | 61 => some ZzP
 | 62 => some ZAf
 | 64 => some ZzI
 | 65 => some ZyW
 | 74 => some ZzL
 | 76 => some ZzO
 | 78 => some Zy5
 | 79 => some ZzK
 | 80 => some Zzy
 | 81 => some Zy7
 | 82 => some ZzS
 | 83 => some Zzs
 | 84 => some ZzH
 | 85 => some Zy9
 | 86 => some Zzj
 | 87 => some ZzF
 | 88 => some Zzb
 | 89 => some Zxw
 | 90 => some ZyZ
 | 91 => some ZzT
 | 92 => some Zzi
 | 93 => some ZyY
 | 94 => some Zz2
 | 95 => some Zzq
 | 96 => some ZyX
 | 97 => some ZzR
 | 98 => some ZyR
 | 99 => some ZyU
 | 100 => some ZvL
 | 101 => some Zv2
 | 106 => some ZvY
 | 107 => some ZwI
 | 108 => some ZvH
 | 109 => some Zwp
 | 110 => some Zwg
 | 111 => some ZwM
 | 112 => some Zw9
 | 113 => some ZvW
 | 114 => some ZtQ
 | 115 => some Zw2
 | 116 => some ZvG
 | 117 => some Zxk
 | 118 => some Zxc
 | 120 => some Zyr
 | 121 => some Zwa
 | 122 => some Zyz
 | 123 => some ZwD
 | 124 => some Zws
 | 125 => some Zve
 | 126 => some ZwH
 | 127 => some Zwq
 | 128 => some ZwL
 | 129 => some Zva
 | 130 => some Zwt
 | 131 => some Zw8
 | 132 => some Zwe
 | 133 => some Zwz
 | 134 => some ZyJ
 | 135 => some Zvw
 | 136 => some Zxh
 | 137 => some ZvV
 | 138 => some ZwW
 | 139 => some ZwR
 | 140 => some Zvl
 | 141 => some Zwj
 | _ => none
def mode : Nat → Nat
 | 15 => 1
 | 25 => 1
 | 74 => 1
 | 117 => 2
 | 124 => 2
 | 126 => 2
 | 127 => 2
 | 128 => 2
 | 129 => 2
 | 130 => 2
 | 131 => 2
 | 132 => 2
 | 133 => 2
 | 136 => 2
 | 138 => 2
 | 139 => 2
 | 140 => 2
 | 141 => 2
 | _ => 0
def ctx : Ctx := ⟨code, mode⟩
end Go.Proofs.YtnmbdjkbaihicaaDoor
namespace Go.Proofs.YtnmbdjkbaihicaaDoorE
open Go
set_option linter.unusedVariables false
set_option linter.unusedSimpArgs false
mutual
def Za9 (A1 A0 AL : Nat → Prop) (w : World) : D → Value → Prop
 | .bool b, u => u = .bool b
 | .int k n, u => u = .int k n
 | .str s, u => u = .string s
 | .list own xs, u => ∃ a len cap, u = .slice a len cap ∧ len = xs.length ∧ len ≤ cap ∧ (∀ x ∈ xs, x.esc = true) ∧
   (xs ≠ [] → ∃ b off sz, a = some ⟨b, off, none⟩ ∧ (match own with | true => A1 b | false => A0 b) ∧ b < w.heap.size ∧ Zfz A1 A0 AL w b sz off xs)
 | .agg cs, u => ∃ us : List Value, u = .agg us.toArray ∧ ZaQ A1 A0 AL w cs us
 | .tup cs, u => ∃ us : List Value, u = .tuple us.toArray ∧ ZaQ A1 A0 AL w cs us
 | .fn f caps, u => ∃ us : List Value, u = .func (.func f) #[] us.toArray ∧ ZaQ A1 AL AL w caps us
 | .nilfn, u => u = .nilFunc
 | .rptr cs, u => ∃ b off, u = .pointer (some ⟨b, off, none⟩) ∧ A0 b ∧ b < w.heap.size ∧ ZcC A1 A0 AL w b off cs
 | .nilp, u => u = .pointer none
 | .iface t v, u => ∃ u', u = .iface t u' ∧ Za9 A1 A0 AL w v u'
 | .nilI, u => u = .nilIface
def ZaQ (A1 A0 AL : Nat → Prop) (w : World) : List D → List Value → Prop
 | [], us => us = []
 | x :: xs, us => ∃ u us', us = u :: us' ∧ Za9 A1 A0 AL w x u ∧ ZaQ A1 A0 AL w xs us'
def ZcC (A1 A0 AL : Nat → Prop) (w : World) (b off : Nat) : List D → Prop
 | [] => True
 | x :: xs => (∃ u, w.cell? ⟨b, off, none⟩ = some u ∧ Za9 A1 A0 AL w x u) ∧ ZcC A1 A0 AL w b (off + 1) xs
def Zfz (A1 A0 AL : Nat → Prop) (w : World) (b sz off : Nat) : List D → Prop
 | [] => True
 | x :: xs => (∃ u, Za9 A1 A0 AL w x u ∧ u.cells.size = sz ∧ ∀ k v, u.cells[k]? = some v → w.cell? ⟨b, off + k, none⟩ = some v) ∧ Zfz A1 A0 AL w b sz (off + sz) xs
end
section
variable {A1 A1' A0 A0' AL AL' : Nat → Prop} {w w' : World}
theorem ZqA {b : Nat} (h : w'.heap[b]? = w.heap[b]?) (off : Nat) : w'.cell? ⟨b, off, none⟩ = w.cell? ⟨b, off, none⟩ := by
 unfold World.cell?; simp only [h]
mutual
theorem Za9.change (A1 A1' A0 A0' : Nat → Prop) (h1 : ∀ b, b < w.heap.size → A1 b → A1' b) (h0 : ∀ b, b < w.heap.size → A0 b → A0' b) (hL : ∀ b, b < w.heap.size → AL b → AL' b)
  (hw : ∀ b, b < w.heap.size → AL b → w'.heap[b]? = w.heap[b]?) (hs : w.heap.size ≤ w'.heap.size) (s0 : ∀ b, A0 b → AL b) (s1 : ∀ b, A1 b → AL b) :
  ∀ (x : D) (u : Value), Za9 A1 A0 AL w x u → Za9 A1' A0' AL' w' x u
 | .bool b, u, h => h
 | .int k n, u, h => h
 | .str s, u, h => h
 | .list own xs, u, h => by
  obtain ⟨a, len, cap, e1, e2, e3, e4, e5⟩ := h
  refine ⟨a, len, cap, e1, e2, e3, e4, fun hne => ?_⟩
  obtain ⟨b, off, sz, f1, f2, f3, f4⟩ := e5 hne
  have hb : AL b := by
   cases own
   ·exact s0 _ f2
   ·exact s1 _ f2
  refine ⟨b, off, sz, f1, ?_, by omega, Zfz.change A1 A1' A0 A0' h1 h0 hL hw hs s0 s1 b sz off xs (hw b f3 hb) f4⟩
  cases own
  ·exact h0 _ f3 f2
  ·exact h1 _ f3 f2
 | .agg cs, u, h => by
  obtain ⟨us, e1, e2⟩ := h
  exact ⟨us, e1, ZaQ.change A1 A1' A0 A0' h1 h0 hL hw hs s0 s1 cs us e2⟩
 | .tup cs, u, h => by
  obtain ⟨us, e1, e2⟩ := h
  exact ⟨us, e1, ZaQ.change A1 A1' A0 A0' h1 h0 hL hw hs s0 s1 cs us e2⟩
 | .fn f caps, u, h => by
  obtain ⟨us, e1, e2⟩ := h
  exact ⟨us, e1, ZaQ.change A1 A1' AL AL' h1 hL hL hw hs (fun _ h => h) s1 caps us e2⟩
 | .nilfn, u, h => h
 | .rptr cs, u, h => by
  obtain ⟨b, off, e1, e2, e3, e4⟩ := h
  exact ⟨b, off, e1, h0 _ e3 e2, by omega, ZcC.change A1 A1' A0 A0' h1 h0 hL hw hs s0 s1 b off cs (hw b e3 (s0 _ e2)) e4⟩
 | .nilp, u, h => h
 | .iface t v, u, h => by
  obtain ⟨u', e1, e2⟩ := h
  exact ⟨u', e1, Za9.change A1 A1' A0 A0' h1 h0 hL hw hs s0 s1 v u' e2⟩
 | .nilI, u, h => h
theorem ZaQ.change (A1 A1' A0 A0' : Nat → Prop) (h1 : ∀ b, b < w.heap.size → A1 b → A1' b) (h0 : ∀ b, b < w.heap.size → A0 b → A0' b) (hL : ∀ b, b < w.heap.size → AL b → AL' b)
  (hw : ∀ b, b < w.heap.size → AL b → w'.heap[b]? = w.heap[b]?) (hs : w.heap.size ≤ w'.heap.size) (s0 : ∀ b, A0 b → AL b) (s1 : ∀ b, A1 b → AL b) :
  ∀ (xs : List D) (us : List Value), ZaQ A1 A0 AL w xs us → ZaQ A1' A0' AL' w' xs us
 | [], us, h => h
 | x :: xs, us, h => by
  obtain ⟨u, us', e1, e2, e3⟩ := h
  exact ⟨u, us', e1, Za9.change A1 A1' A0 A0' h1 h0 hL hw hs s0 s1 x u e2, ZaQ.change A1 A1' A0 A0' h1 h0 hL hw hs s0 s1 xs us' e3⟩
theorem ZcC.change (A1 A1' A0 A0' : Nat → Prop) (h1 : ∀ b, b < w.heap.size → A1 b → A1' b) (h0 : ∀ b, b < w.heap.size → A0 b → A0' b) (hL : ∀ b, b < w.heap.size → AL b → AL' b)
  (hw : ∀ b, b < w.heap.size → AL b → w'.heap[b]? = w.heap[b]?) (hs : w.heap.size ≤ w'.heap.size) (s0 : ∀ b, A0 b → AL b) (s1 : ∀ b, A1 b → AL b) (b off : Nat) :
  ∀ (xs : List D), w'.heap[b]? = w.heap[b]? → ZcC A1 A0 AL w b off xs → ZcC A1' A0' AL' w' b off xs
 | [], _, h => trivial
 | x :: xs, hb, h => by
  obtain ⟨⟨u, e1, e2⟩, e3⟩ := h
  exact ⟨⟨u, by rw [ZqA hb]; exact e1, Za9.change A1 A1' A0 A0' h1 h0 hL hw hs s0 s1 x u e2⟩, ZcC.change A1 A1' A0 A0' h1 h0 hL hw hs s0 s1 b (off + 1) xs hb e3⟩
theorem Zfz.change (A1 A1' A0 A0' : Nat → Prop) (h1 : ∀ b, b < w.heap.size → A1 b → A1' b) (h0 : ∀ b, b < w.heap.size → A0 b → A0' b) (hL : ∀ b, b < w.heap.size → AL b → AL' b)
  (hw : ∀ b, b < w.heap.size → AL b → w'.heap[b]? = w.heap[b]?) (hs : w.heap.size ≤ w'.heap.size) (s0 : ∀ b, A0 b → AL b) (s1 : ∀ b, A1 b → AL b) (b sz off : Nat) :
  ∀ (xs : List D), w'.heap[b]? = w.heap[b]? → Zfz A1 A0 AL w b sz off xs → Zfz A1' A0' AL' w' b sz off xs
 | [], _, h => trivial
 | x :: xs, hb, h => by
  obtain ⟨⟨u, e1, e2, e3⟩, e4⟩ := h
  exact ⟨⟨u, Za9.change A1 A1' A0 A0' h1 h0 hL hw hs s0 s1 x u e1, e2, fun k v hk => by rw [ZqA hb]; exact e3 k v hk⟩,
   Zfz.change A1 A1' A0 A0' h1 h0 hL hw hs s0 s1 b sz (off + sz) xs hb e4⟩
end
mutual
theorem Za9.lift (h1 : ∀ b, A1 b → A1' b) : ∀ (x : D) (u : Value), x.esc = true → Za9 A1 A0 AL w x u → Za9 A1' A0' AL' w x u
 | .bool b, u, _, h => h
 | .int k n, u, _, h => h
 | .str s, u, _, h => h
 | .list own xs, u, he, h => by
  obtain ⟨a, len, cap, e1, e2, e3, e4, e5⟩ := h
  simp only [D.esc] at he
  subst he
  refine ⟨a, len, cap, e1, e2, e3, e4, fun hne => ?_⟩
  obtain ⟨b, off, sz, f1, f2, f3, f4⟩ := e5 hne
  exact ⟨b, off, sz, f1, h1 _ f2, f3, Zfz.lift h1 b sz off xs e4 f4⟩
 | .agg cs, u, he, h => by
  obtain ⟨us, e1, e2⟩ := h
  exact ⟨us, e1, ZaQ.lift h1 cs us he e2⟩
 | .tup cs, u, he, h => by simp [D.esc] at he
 | .fn f caps, u, he, h => by
  obtain ⟨us, e1, e2⟩ := h
  simp only [D.esc, List.isEmpty_iff] at he
  subst he
  exact ⟨us, e1, e2⟩
 | .nilfn, u, _, h => h
 | .rptr cs, u, he, h => by simp [D.esc] at he
 | .nilp, u, _, h => h
 | .iface t v, u, he, h => by
  obtain ⟨u', e1, e2⟩ := h
  exact ⟨u', e1, Za9.lift h1 v u' he e2⟩
 | .nilI, u, _, h => h
theorem ZaQ.lift (h1 : ∀ b, A1 b → A1' b) : ∀ (xs : List D) (us : List Value), D.escs xs = true → ZaQ A1 A0 AL w xs us → ZaQ A1' A0' AL' w xs us
 | [], us, _, h => h
 | x :: xs, us, he, h => by
  obtain ⟨u, us', e1, e2, e3⟩ := h
  simp only [D.escs, Bool.and_eq_true] at he
  exact ⟨u, us', e1, Za9.lift h1 x u he.1 e2, ZaQ.lift h1 xs us' he.2.2 e3⟩
theorem Zfz.lift (h1 : ∀ b, A1 b → A1' b) (b sz off : Nat) : ∀ (xs : List D), (∀ x ∈ xs, x.esc = true) → Zfz A1 A0 AL w b sz off xs → Zfz A1' A0' AL' w b sz off xs
 | [], _, h => trivial
 | x :: xs, he, h => by
  obtain ⟨⟨u, e1, e2, e3⟩, e4⟩ := h
  exact ⟨⟨u, Za9.lift h1 x u (he x (by simp)) e1, e2, e3⟩, Zfz.lift h1 b sz (off + sz) xs (fun y hy => he y (by simp [hy])) e4⟩
end
end
theorem ZaQ.liftT {A1 A1' A0 A0' AL AL' : Nat → Prop} {w : World} (h1 : ∀ b, A1 b → A1' b) : ∀ (xs : List D) (us : List Value), Zsz xs = true → ZaQ A1 A0 AL w xs us → ZaQ A1' A0' AL' w xs us
 | [], us, _, h => h
 | x :: xs, us, he, h => by
  obtain ⟨u, us', e1, e2, e3⟩ := h
  simp only [Zsz, Bool.and_eq_true] at he
  exact ⟨u, us', e1, Za9.lift h1 x u he.1 e2, ZaQ.liftT h1 xs us' he.2 e3⟩
theorem ZX {α : Type} : ∀ (l : List α) (n : Nat), nth l n = l[n]?
 | [], n => by simp [nth]
 | a :: l, 0 => by simp [nth]
 | a :: l, n + 1 => by simp [nth, ZX l n]
theorem ZbU {α : Type} : ∀ (l : List α) (n : Nat) (v : α), Zfd l n v = l.set n v
 | [], n, v => by simp [Zfd]
 | a :: l, 0, v => by simp [Zfd]
 | a :: l, n + 1, v => by simp [Zfd, ZbU l n v]
theorem Zog {α : Type} (l : List α) (i : Int) (x : α) (h : ZA l i = some x) : 0 ≤ i ∧ i < l.length ∧ l[i.toNat]? = some x := by
 unfold ZA at h
 by_cases h0 : 0 ≤ i
 ·simp only [h0, decide_true, cond_true, ZX] at h
  have := (List.getElem?_eq_some_iff.1 h).1
  exact ⟨h0, by omega, h⟩
 ·simp [h0] at h
section
variable {A1 A0 AL : Nat → Prop} {w : World}
theorem ZiL {b sz : Nat} : ∀ (xs : List D) (off j : Nat) (x : D), Zfz A1 A0 AL w b sz off xs → xs[j]? = some x →
  ∃ u, Za9 A1 A0 AL w x u ∧ u.cells.size = sz ∧ ∀ k v, u.cells[k]? = some v → w.cell? ⟨b, off + j * sz + k, none⟩ = some v
 | [], off, j, x, _, hj => by simp at hj
 | y :: xs, off, 0, x, h, hj => by
  simp at hj; subst hj
  obtain ⟨⟨u, e1, e2, e3⟩, _⟩ := h
  exact ⟨u, e1, e2, by simpa using e3⟩
 | y :: xs, off, j + 1, x, h, hj => by
  obtain ⟨u, e1, e2, e3⟩ := ZiL xs (off + sz) j x h.2 (by simpa using hj)
  exact ⟨u, e1, e2, fun k v hk => by rw [← e3 k v hk]; congr 2; rw [Nat.succ_mul]; omega⟩
theorem ZiO {b sz : Nat} : ∀ (xs : List D) (off : Nat), (∀ (j : Nat) x, xs[j]? = some x → ∃ u, Za9 A1 A0 AL w x u ∧ u.cells.size = sz ∧ ∀ k v, u.cells[k]? = some v → w.cell? ⟨b, off + j * sz + k, none⟩ = some v) →
  Zfz A1 A0 AL w b sz off xs
 | [], off, _ => trivial
 | y :: xs, off, h => by
  refine ⟨by simpa using h 0 y (by simp), ZiO xs (off + sz) fun j x hj => ?_⟩
  obtain ⟨u, e1, e2, e3⟩ := h (j + 1) x (by simpa using hj)
  exact ⟨u, e1, e2, fun k v hk => by rw [← e3 k v hk]; congr 2; rw [Nat.succ_mul]; omega⟩
theorem Zki {b : Nat} : ∀ (xs : List D) (off j : Nat) (x : D), ZcC A1 A0 AL w b off xs → xs[j]? = some x → ∃ u, w.cell? ⟨b, off + j, none⟩ = some u ∧ Za9 A1 A0 AL w x u
 | [], off, j, x, _, hj => by simp at hj
 | y :: xs, off, 0, x, h, hj => by simp at hj; subst hj; simpa using h.1
 | y :: xs, off, j + 1, x, h, hj => by
  have := Zki xs (off + 1) j x h.2 (by simpa using hj)
  rwa [show off + 1 + j = off + (j + 1) from by omega] at this
theorem ZgU {b : Nat} : ∀ (xs : List D) (off : Nat), (∀ (j : Nat) x, xs[j]? = some x → ∃ u, w.cell? ⟨b, off + j, none⟩ = some u ∧ Za9 A1 A0 AL w x u) → ZcC A1 A0 AL w b off xs
 | [], off, _ => trivial
 | y :: xs, off, h => ⟨by simpa using h 0 y (by simp), ZgU xs (off + 1) fun j x hj => by
   have := h (j + 1) x (by simpa using hj)
   rwa [show off + (j + 1) = off + 1 + j from by omega] at this⟩
theorem ZpQ {b : Nat} (xs : List D) (off n : Nat) (h : ZcC A1 A0 AL w b off xs) : ZcC A1 A0 AL w b (off + n) (xs.drop n) :=
 ZgU _ _ fun j x hj => by
  have := Zki xs off (n + j) x h (by simpa using hj)
  rwa [← Nat.add_assoc] at this
theorem Zgz : ∀ (xs : List D) (us : List Value) (j : Nat) (x : D), ZaQ A1 A0 AL w xs us → xs[j]? = some x → ∃ u, us[j]? = some u ∧ Za9 A1 A0 AL w x u
 | [], us, j, x, _, hj => by simp at hj
 | y :: xs, us, 0, x, h, hj => by
  obtain ⟨u, us', rfl, e1, e2⟩ := h
  simp at hj; subst hj
  exact ⟨u, by simp, e1⟩
 | y :: xs, us, j + 1, x, h, hj => by
  obtain ⟨u, us', rfl, e1, e2⟩ := h
  simpa using Zgz xs us' j x e2 (by simpa using hj)
theorem Zqw : ∀ (xs : List D) (us : List Value), ZaQ A1 A0 AL w xs us → us.length = xs.length
 | [], us, h => by simp only [ZaQ] at h; subst h; rfl
 | y :: xs, us, h => by
  obtain ⟨u, us', rfl, e1, e2⟩ := h
  simp [Zqw xs us' e2]
end
structure RP where
 B1 : Nat → Prop
 B0 : Nat → Prop
 M : Nat → Option (Option Nat)
 H : Zn
def RP.live (R : RP) (c : Nat) : Prop := ∃ i, Z7 R.H i = true ∧ R.M i = some (some c)
def RP.AL (R : RP) (c : Nat) : Prop := ¬ R.live c
def RP.A0 (R : RP) (c : Nat) : Prop := ¬ R.live c ∧ ¬ R.B0 c
def RP.A1 (R : RP) (c : Nat) : Prop := ¬ R.live c ∧ ¬ R.B1 c
abbrev RP.den (R : RP) (w : World) (x : D) (u : Value) : Prop := Za9 R.A1 R.A0 R.AL w x u
def Zq9 (w : World) (m : Option Nat) (xs : List D) (sz o len : Nat) (u : Value) : Prop :=
 o + len ≤ xs.length ∧ ∃ a cap, u = .slice a len cap ∧ len ≤ cap ∧
  ((cap = 0 ∧ o = xs.length) ∨ ∃ c cs el fr, m = some c ∧ a = some ⟨c, o * sz, none⟩ ∧ w.heap[c]? = some (.cells cs el fr) ∧ cs.size = (o + cap) * sz)
mutual
def Za0 (R : RP) (w : World) : V → Value → Prop
 | .d x, u => R.den w x u
 | .bad, _ => True
 | .ptr b o, u => ∃ c, R.M b = some (some c) ∧ u = .pointer (some ⟨c, o, none⟩)
 | .eptr b sz i k, u => ∃ c, R.M b = some (some c) ∧ u = .pointer (some ⟨c, i * sz + k, none⟩)
 | .sl b sz, u => (∃ a n c, u = .slice a n c) ∧ ∃ m, R.M b = some m ∧ ∀ xs, nth R.H b = some (.arr sz xs) → Zq9 w m xs sz 0 xs.length u
 | .slp b sz o len, u => (∃ a n c, u = .slice a n c) ∧ ∃ m, R.M b = some m ∧ ∀ xs, nth R.H b = some (.arr sz xs) → Zq9 w m xs sz o len u
 | .nilsl _, u => ∃ a, u = .slice a 0 0
 | .agg cs, u => ∃ us : List Value, u = .agg us.toArray ∧ ZaF R w cs us
 | .tup cs, u => ∃ us : List Value, u = .tuple us.toArray ∧ ZaF R w cs us
 | .fn f caps, u => ∃ us : List Value, u = .func (.func f) #[] us.toArray ∧ ZaF R w caps us
 | .mp b, u => (∃ a, u = .map a) ∧ ∃ m, R.M b = some m ∧ ∀ es, nth R.H b = some (.mp es) → ∃ c, m = some c ∧ u = .map (some c)
def ZaF (R : RP) (w : World) : List V → List Value → Prop
 | [], us => us = []
 | x :: xs, us => ∃ u us', us = u :: us' ∧ Za0 R w x u ∧ ZaF R w xs us'
end
end Go.Proofs.YtnmbdjkbaihicaaDoorE
namespace Go.Proofs.YtnmbdjkbaihicaaDoorE
open Go
set_option linter.unusedVariables false
set_option linter.unusedSimpArgs false
def Zrq (fr : Nat × Nat) : Prop := fr.2 ≤ fr.1
theorem Zrq.not {w : World} {c : Nat} {cs : Array Value} {el : TypeId} {fr : Nat × Nat} (h : Zrq fr) (hc : w.heap[c]? = some (.cells cs el fr)) (o : Nat) : w.frozen? ⟨c, o, none⟩ = false := by
 unfold Zrq at h
 simp only [World.frozen?, hc]
 by_cases h1 : fr.1 ≤ o
 ·by_cases h2 : o < fr.2
  ·omega
  ·simp [h2]
 ·simp [h1]
def Ze4 : D → Value
 | .bool b => .bool b
 | .int k n => .int k n
 | _ => undef
def Zis : D → Value
 | .agg cs => .agg (cs.map Ze4).toArray
 | x => Ze4 x
def ZlL : D → Bool
 | .agg cs => cs.all Zhc
 | x => Zhc x
structure ZCP (w : World) (c : Nat) (es : List (D × D)) : Prop where
 mk ::
 ex : ∃ mes clock, w.heap[c]? = some (.map mes clock) ∧ mes.toList.map (fun e => (e.key, e.val)) = es.map (fun q => (Zis q.1, Ze4 q.2))
 fl : ∀ q ∈ es, ZlL q.1 = true ∧ Zhc q.2 = true
def ZgS (R : RP) (w : World) (m : Option Nat) : Blk → Prop
 | .dead => True
 | .cells vs => ∃ c cs el fr, m = some c ∧ w.heap[c]? = some (.cells cs el fr) ∧ Zrq fr ∧ vs.length ≤ cs.size ∧ ∀ (k : Nat) v, vs[k]? = some v → ∃ u, cs[k]? = some u ∧ Za0 R w v u
 | .arr sz xs => 0 < sz ∧ (∀ x ∈ xs, x.esc = true) ∧ ((m = none ∧ xs = []) ∨ ∃ c cs el, m = some c ∧ w.heap[c]? = some (.cells cs el (0, 0)) ∧ xs.length * sz ≤ cs.size ∧
   ∀ (j : Nat) x, xs[j]? = some x → ∃ u, R.den w x u ∧ u.cells.size = sz ∧ ∀ (k : Nat) v, u.cells[k]? = some v → cs[j * sz + k]? = some v)
 | .mp es => ∃ c, m = some c ∧ ZCP w c es
structure RP.OK (R : RP) (w : World) : Prop where
 b01 : ∀ c, R.B0 c → R.B1 c
 al : ∀ (i : Nat) blk, R.H[i]? = some blk → blk ≠ .dead → ∃ m, R.M i = some m
 inj : ∀ i j c, Z7 R.H i = true → Z7 R.H j = true → R.M i = some (some c) → R.M j = some (some c) → i = j
 lt : ∀ i c, R.M i = some (some c) → c < w.heap.size
 blk : ∀ (i : Nat) m blk, R.H[i]? = some blk → R.M i = some m → ZgS R w m blk
 nb : ∀ i c, Z7 R.H i = true → R.M i = some (some c) → ¬ R.B1 c
 bl : ∀ c, R.B1 c → c < w.heap.size
theorem Zu {H : Zn} {i : Nat} : Z7 H i = true ↔ ∃ blk, H[i]? = some blk ∧ blk ≠ .dead := by
 unfold Z7
 rw [ZX]
 cases h : H[i]? with
 | none => simp
 | some blk => cases blk <;> simp
def Blk.like : Blk → Blk → Prop
 | .cells _, .cells _ => True
 | .arr sz xs, .arr sz' ys => sz = sz' ∧ ys.length = xs.length
 | .mp _, .mp _ => True
 | _, _ => False
structure Ext (R : RP) (w : World) (R' : RP) (w' : World) : Prop where
 m : ∀ i x, R.M i = some x → R'.M i = some x
 h : ∀ (i : Nat) x blk, R.M i = some x → R'.H[i]? = some blk → blk ≠ .dead → ∃ old, R.H[i]? = some old ∧ old.like blk
 b1 : R'.B1 = R.B1
 b0 : R'.B0 = R.B0
 same : ∀ (b : Nat), b < w.heap.size → ¬ R.live b → w'.heap[b]? = w.heap[b]?
 row : ∀ (b : Nat) cs el fr, w.heap[b]? = some (Obj.cells cs el fr) → ∃ cs' el' fr', w'.heap[b]? = some (Obj.cells cs' el' fr') ∧ cs'.size = cs.size
 grow : w.heap.size ≤ w'.heap.size
 liv : ∀ c, c < w.heap.size → R'.live c → R.live c
 os : w'.os = w.os
 tape : w'.tape = w.tape
 output : w'.output = w.output
theorem Blk.like_refl {b : Blk} (h : b ≠ .dead) : b.like b := by cases b <;> simp_all [Blk.like]
theorem Ext.refl (R : RP) (w : World) : Ext R w R w :=
 ⟨fun _ _ h => h, fun i x blk _ h hd => ⟨blk, h, Blk.like_refl hd⟩, rfl, rfl, fun _ _ _ => rfl, fun _ cs el fr h => ⟨cs, el, fr, h, rfl⟩, Nat.le_refl _, fun _ _ h => h, rfl, rfl, rfl⟩
theorem Blk.like_trans {a b c : Blk} (h : a.like b) (k : b.like c) : a.like c := by
 cases a <;> cases b <;> cases c <;> simp_all [Blk.like]
theorem Blk.like_ne {a b : Blk} (h : a.like b) : a ≠ .dead := by cases a <;> cases b <;> simp_all [Blk.like]
theorem Ext.trans {R R1 R2 : RP} {w w1 w2 : World} (h : Ext R w R1 w1) (k : Ext R1 w1 R2 w2) : Ext R w R2 w2 where
 m := fun i x hx => k.m i x (h.m i x hx)
 h := fun i x blk hx hb hd => by
  obtain ⟨o1, e1, e2⟩ := k.h i x blk (h.m i x hx) hb hd
  obtain ⟨o, f1, f2⟩ := h.h i x o1 hx e1 (Blk.like_ne e2)
  exact ⟨o, f1, Blk.like_trans f2 e2⟩
 b1 := k.b1.trans h.b1
 b0 := k.b0.trans h.b0
 same := fun b hb hl => (k.same b (Nat.lt_of_lt_of_le hb h.grow) (fun hl' => hl (h.liv b hb hl'))).trans (h.same b hb hl)
 row := fun b cs el fr hb => by
  obtain ⟨cs1, el1, fr1, e1, e2⟩ := h.row b cs el fr hb
  obtain ⟨cs2, el2, fr2, f1, f2⟩ := k.row b cs1 el1 fr1 e1
  exact ⟨cs2, el2, fr2, f1, f2.trans e2⟩
 grow := Nat.le_trans h.grow k.grow
 liv := fun c hc hl => h.liv c hc (k.liv c (Nat.lt_of_lt_of_le hc h.grow) hl)
 os := k.os.trans h.os
 tape := k.tape.trans h.tape
 output := k.output.trans h.output
section
variable {R R' : RP} {w w' : World}
theorem Ext.den (e : Ext R w R' w') (hb : ∀ c, R.B0 c → R.B1 c) {x : D} {u : Value} (h : R.den w x u) : R'.den w' x u := by
 refine Za9.change _ _ _ _ ?_ ?_ ?_ ?_ e.grow ?_ ?_ x u h
 ·exact fun b hb' ⟨h1, h2⟩ => ⟨fun hl => h1 (e.liv b hb' hl), by rw [e.b1]; exact h2⟩
 ·exact fun b hb' ⟨h1, h2⟩ => ⟨fun hl => h1 (e.liv b hb' hl), by rw [e.b0]; exact h2⟩
 ·exact fun b hb' h1 hl => h1 (e.liv b hb' hl)
 ·exact fun b hb' hl => e.same b hb' hl
 ·exact fun b h => h.1
 ·exact fun b h => h.1
theorem Ext.slAt (e : Ext R w R' w') {m : Option Nat} {xs ys : List D} {sz o len : Nat} {u : Value} (hl : ys.length = xs.length) (h : Zq9 w m xs sz o len u) : Zq9 w' m ys sz o len u := by
 obtain ⟨h1, a, cap, h2, h3, h4⟩ := h
 refine ⟨by omega, a, cap, h2, h3, ?_⟩
 rcases h4 with ⟨h4, h5⟩ | ⟨c, cs, el, fr, h4, h5, h6, h7⟩
 ·exact .inl ⟨h4, by omega⟩
 ·obtain ⟨cs', el', fr', f1, f2⟩ := e.row c cs el fr h6
  exact .inr ⟨c, cs', el', fr', h4, h5, f1, by omega⟩
mutual
theorem Ext.denV (e : Ext R w R' w') (hb : ∀ c, R.B0 c → R.B1 c) : ∀ (v : V) (u : Value), Za0 R w v u → Za0 R' w' v u
 | .d x, u, h => e.den hb h
 | .bad, _, h => h
 | .ptr b o, u, h => by
  obtain ⟨c, h1, h2⟩ := h
  exact ⟨c, e.m b _ h1, h2⟩
 | .eptr b sz i k, u, h => by
  obtain ⟨c, h1, h2⟩ := h
  exact ⟨c, e.m b _ h1, h2⟩
 | .sl b sz, u, h => by
  obtain ⟨h0, m, h1, h2⟩ := h
  refine ⟨h0, m, e.m b m h1, fun xs hc => ?_⟩
  rw [ZX] at hc
  obtain ⟨old, f1, f2⟩ := e.h b m _ h1 hc (by simp)
  cases old <;> simp [Blk.like] at f2
  rename_i sz0 xs0
  obtain ⟨rfl, f2⟩ := f2
  have := e.slAt f2 (h2 xs0 (by rw [ZX]; exact f1))
  rw [f2]
  exact this
 | .slp b sz o len, u, h => by
  obtain ⟨h0, m, h1, h2⟩ := h
  refine ⟨h0, m, e.m b m h1, fun xs hc => ?_⟩
  rw [ZX] at hc
  obtain ⟨old, f1, f2⟩ := e.h b m _ h1 hc (by simp)
  cases old <;> simp [Blk.like] at f2
  rename_i sz0 xs0
  obtain ⟨rfl, f2⟩ := f2
  exact e.slAt f2 (h2 xs0 (by rw [ZX]; exact f1))
 | .nilsl sz, u, h => h
 | .agg cs, u, h => by
  obtain ⟨us, h1, h2⟩ := h
  exact ⟨us, h1, Ext.denVs e hb cs us h2⟩
 | .tup cs, u, h => by
  obtain ⟨us, h1, h2⟩ := h
  exact ⟨us, h1, Ext.denVs e hb cs us h2⟩
 | .fn f caps, u, h => by
  obtain ⟨us, h1, h2⟩ := h
  exact ⟨us, h1, Ext.denVs e hb caps us h2⟩
 | .mp b, u, h => by
  obtain ⟨h0, m, h1, h2⟩ := h
  refine ⟨h0, m, e.m b m h1, fun es hc => ?_⟩
  rw [ZX] at hc
  obtain ⟨old, f1, f2⟩ := e.h b m _ h1 hc (by simp)
  cases old <;> simp [Blk.like] at f2
  rename_i es0
  exact h2 es0 (by rw [ZX]; exact f1)
theorem Ext.denVs (e : Ext R w R' w') (hb : ∀ c, R.B0 c → R.B1 c) : ∀ (vs : List V) (us : List Value), ZaF R w vs us → ZaF R' w' vs us
 | [], us, h => h
 | v :: vs, us, h => by
  obtain ⟨u, us', h1, h2, h3⟩ := h
  exact ⟨u, us', h1, Ext.denV e hb v u h2, Ext.denVs e hb vs us' h3⟩
end
theorem Ext.blkOK (e : Ext R w R' w') (hb : ∀ c, R.B0 c → R.B1 c) {m : Option Nat} {blk : Blk} (hs : ∀ (c : Nat), m = some c → w'.heap[c]? = w.heap[c]?) (h : ZgS R w m blk) : ZgS R' w' m blk := by
 cases blk with
 | dead => trivial
 | cells vs =>
  obtain ⟨c, cs, el, fr, h1, h2, h3, h4, h5⟩ := h
  refine ⟨c, cs, el, fr, h1, by rw [hs c h1]; exact h2, h3, h4, fun k v hk => ?_⟩
  obtain ⟨u, f1, f2⟩ := h5 k v hk
  exact ⟨u, f1, e.denV hb v u f2⟩
 | arr sz xs =>
  obtain ⟨h0, h1, h2⟩ := h
  refine ⟨h0, h1, ?_⟩
  rcases h2 with h2 | ⟨c, cs, el, h3, h4, h5, h6⟩
  ·exact .inl h2
  ·refine .inr ⟨c, cs, el, h3, by rw [hs c h3]; exact h4, h5, fun j x hj => ?_⟩
   obtain ⟨u, f1, f2, f3⟩ := h6 j x hj
   exact ⟨u, e.den hb f1, f2, f3⟩
 | mp es =>
  obtain ⟨c, h1, ⟨mes, clock, h2, h3⟩, h4⟩ := h
  exact ⟨c, h1, ⟨mes, clock, by rw [hs c h1]; exact h2, h3⟩, h4⟩
end
theorem Ext.draw {R : RP} {w w' : World} (hh : w'.heap = w.heap) (ho : w'.os = w.os) (ht : w'.tape = w.tape) (hp : w'.output = w.output) : Ext R w R w' :=
 ⟨fun _ _ h => h, fun i x blk _ h hd => ⟨blk, h, Blk.like_refl hd⟩, rfl, rfl, fun _ _ _ => by rw [hh], fun _ cs el fr h => ⟨cs, el, fr, by rw [hh]; exact h, rfl⟩, by rw [hh]; exact Nat.le_refl _, fun _ _ h => h, ho, ht, hp⟩
theorem RP.OK.draw {R : RP} {w w' : World} (h : R.OK w) (hh : w'.heap = w.heap) (ho : w'.os = w.os) (ht : w'.tape = w.tape) (hp : w'.output = w.output) : R.OK w' :=
 ⟨h.b01, h.al, h.inj, fun i c hc => by rw [hh]; exact h.lt i c hc, fun i m blk h1 h2 => (Ext.draw (R := R) hh ho ht hp).blkOK h.b01 (fun c _ => by rw [hh]) (h.blk i m blk h1 h2), h.nb, fun c hc => by rw [hh]; exact h.bl c hc⟩
theorem Ext.new {R : RP} {w : World} {H' : Zn} {n : Nat} {blk : Blk} {m : Option Nat} (o : Obj) (hn : R.M n = none) (hH : ∀ (i : Nat), i ≠ n → H'[i]? = R.H[i]?) (hb : H'[n]? = some blk)
  (hm : m = none ∨ m = some w.heap.size) (lt : ∀ i c, R.M i = some (some c) → c < w.heap.size) (al : ∀ (i : Nat) blk, R.H[i]? = some blk → blk ≠ .dead → ∃ m, R.M i = some m) :
  Ext R w { R with M := fun i => if i = n then some m else R.M i, H := H' } (w.alloc o) where
 m := fun i x hx => by
  have : i ≠ n := fun e => by rw [e, hn] at hx; cases hx
  simp [this, hx]
 h := fun i x blk' hx hb' hd => by
  have : i ≠ n := fun e => by rw [e, hn] at hx; cases hx
  simp only [hH i this] at hb'
  exact ⟨blk', hb', Blk.like_refl hd⟩
 b1 := rfl
 b0 := rfl
 same := fun b hb' _ => Go.RowKit.Below.heap_alloc _ _ _ hb'
 row := fun b cs el fr hb' => by
  have hlt : b < w.heap.size := by
   rcases Nat.lt_or_ge b w.heap.size with h | h
   ·exact h
   ·rw [Array.getElem?_eq_none h] at hb'; cases hb'
  exact ⟨cs, el, fr, by rw [Go.RowKit.Below.heap_alloc _ _ _ hlt]; exact hb', rfl⟩
 grow := by simp
 liv := fun c hc ⟨i, h1, h2⟩ => by
  by_cases e : i = n
  ·subst e
   simp only [if_true] at h2
   rcases hm with h | h
   ·rw [h] at h2; cases h2
   ·rw [h] at h2; cases h2; omega
  ·simp only [e, if_false] at h2
   refine ⟨i, ?_, h2⟩
   rw [Zu] at h1 ⊢
   obtain ⟨b', f1, f2⟩ := h1
   exact ⟨b', by rw [← hH i e]; exact f1, f2⟩
 os := rfl
 tape := rfl
 output := rfl
theorem RP.OK.new {R : RP} {w : World} {H' : Zn} {n : Nat} {blk : Blk} {m : Option Nat} {o : Obj} (h : R.OK w) (hn : R.M n = none) (hH : ∀ (i : Nat), i ≠ n → H'[i]? = R.H[i]?) (hb : H'[n]? = some blk)
  (hm : m = none ∨ m = some w.heap.size)
  (hk : Ext R w { R with M := fun i => if i = n then some m else R.M i, H := H' } (w.alloc o) → ZgS { R with M := fun i => if i = n then some m else R.M i, H := H' } (w.alloc o) m blk) :
  RP.OK { R with M := fun i => if i = n then some m else R.M i, H := H' } (w.alloc o) := by
 have e := Ext.new (R := R) (w := w) (H' := H') (n := n) (blk := blk) (m := m) o hn hH hb hm h.lt h.al
 refine ⟨h.b01, ?_, ?_, ?_, ?_, ?_, fun c hc => by have := h.bl c hc; simp; omega⟩
 ·intro i blk' hi hd
  by_cases ei : i = n
  ·exact ⟨m, by simp [ei]⟩
  ·simp only [hH i ei] at hi
   obtain ⟨x, hx⟩ := h.al i blk' hi hd
   exact ⟨x, by simp [ei, hx]⟩
 ·intro i j c hi hj h1 h2
  simp only at h1 h2
  by_cases ei : i = n <;> by_cases ej : j = n
  ·rw [ei, ej]
  ·rw [if_pos ei] at h1; rw [if_neg ej] at h2
   have := h.lt j c h2
   rcases hm with h' | h' <;> rw [h'] at h1 <;> cases h1
   omega
  ·rw [if_neg ei] at h1; rw [if_pos ej] at h2
   have := h.lt i c h1
   rcases hm with h' | h' <;> rw [h'] at h2 <;> cases h2
   omega
  ·rw [if_neg ei] at h1; rw [if_neg ej] at h2
   have l1 : Z7 R.H i = true := by rw [Zu] at hi ⊢; obtain ⟨b', f1, f2⟩ := hi; exact ⟨b', by rw [← hH i ei]; exact f1, f2⟩
   have l2 : Z7 R.H j = true := by rw [Zu] at hj ⊢; obtain ⟨b', f1, f2⟩ := hj; exact ⟨b', by rw [← hH j ej]; exact f1, f2⟩
   exact h.inj i j c l1 l2 h1 h2
 ·intro i c hc
  simp only at hc
  by_cases ei : i = n
  ·rw [if_pos ei] at hc
   rcases hm with h' | h' <;> rw [h'] at hc <;> cases hc
   simp
  ·rw [if_neg ei] at hc
   have := h.lt i c hc
   simp; omega
 ·intro i x blk' hi hx
  simp only at hi hx
  by_cases ei : i = n
  ·subst ei
   rw [if_pos rfl] at hx
   cases hx
   rw [hb] at hi
   cases hi
   exact hk e
  ·rw [if_neg ei] at hx
   rw [hH i ei] at hi
   refine e.blkOK h.b01 (fun c hc => ?_) (h.blk i x blk' hi hx)
   exact Go.RowKit.Below.heap_alloc _ _ _ (h.lt i c (by rw [hx, hc]))
 ·intro i c hl hc hb1
  simp only at hc hb1
  by_cases ei : i = n
  ·rw [if_pos ei] at hc
   rcases hm with h' | h' <;> rw [h'] at hc <;> cases hc
   exact absurd (h.bl _ hb1) (by omega)
  ·rw [if_neg ei] at hc
   refine h.nb i c ?_ hc hb1
   rw [Zu] at hl ⊢; obtain ⟨b', f1, f2⟩ := hl; exact ⟨b', by rw [← hH i ei]; exact f1, f2⟩
theorem Ext.kill {R : RP} {w : World} {H' : Zn} (hH : ∀ (i : Nat) blk, H'[i]? = some blk → blk ≠ .dead → R.H[i]? = some blk) : Ext R w { R with H := H' } w :=
 ⟨fun _ _ h => h, fun i x blk _ h hd => ⟨blk, hH i blk h hd, Blk.like_refl hd⟩, rfl, rfl, fun _ _ _ => rfl, fun _ cs el fr h => ⟨cs, el, fr, h, rfl⟩, Nat.le_refl _,
  fun c _ ⟨i, h1, h2⟩ => by
   rw [Zu] at h1
   obtain ⟨blk, f1, f2⟩ := h1
   exact ⟨i, Zu.2 ⟨blk, hH i blk f1 f2, f2⟩, h2⟩, rfl, rfl, rfl⟩
theorem RP.OK.kill {R : RP} {w : World} {H' : Zn} (h : R.OK w) (hH : ∀ (i : Nat) blk, H'[i]? = some blk → blk ≠ .dead → R.H[i]? = some blk) : RP.OK { R with H := H' } w := by
 have e := Ext.kill (R := R) (w := w) hH
 have lv : ∀ i, Z7 H' i = true → Z7 R.H i = true := fun i hi => by
  rw [Zu] at hi ⊢
  obtain ⟨blk, f1, f2⟩ := hi
  exact ⟨blk, hH i blk f1 f2, f2⟩
 refine ⟨h.b01, fun i blk hi hd => h.al i blk (hH i blk hi hd) hd, fun i j c hi hj => h.inj i j c (lv i hi) (lv j hj), h.lt, fun i m blk hi hm => ?_, fun i c hl => h.nb i c (lv i hl), h.bl⟩
 by_cases hd : blk = .dead
 ·subst hd; trivial
 ·exact e.blkOK h.b01 (fun _ _ => rfl) (h.blk i m blk (hH i blk hi hd) hm)
end Go.Proofs.YtnmbdjkbaihicaaDoorE
namespace Go.Proofs.YtnmbdjkbaihicaaDoorE
open Go
set_option linter.unusedVariables false
set_option linter.unusedSimpArgs false
def Zdl (P : Program) (o : Oper) (a : Act) (w : World) (ZZ : Value → World → Prop) : Prop :=
 (∃ u w', (execOp a.eval o).run P w = .ok (.value u) w' ∧ ZZ u w') ∨ (∃ w', (execOp a.eval o).run P w = .ok .skip w' ∧ ZZ undef w') ∨
 (∃ f args w', (execOp a.eval o).run P w = .ok (.enter f args) w' ∧ Calls P f args w' fun e w'' => ∃ u, e = .returned u ∧ ZZ u w'')
theorem Zdl.wp {P : Program} {o : Oper} {a : Act} {w : World} {ZZ : Value → World → Prop} {K : Act → World → Prop} {Q : Exit → Act → World → Prop}
  (h : Zdl P o a w ZZ) (hK : ∀ u w', ZZ u w' → K (a.put o.dst u) w') : o.wp P a w K Q := by
 unfold Oper.wp
 rcases h with ⟨u, w', h1, h2⟩ | ⟨w', h1, h2⟩ | ⟨f, args, w', h1, h2⟩
 ·rw [h1]; exact hK _ _ h2
 ·rw [h1]; exact hK _ _ h2
 ·rw [h1]
  exact h2.mono fun e w'' ⟨u, he, hp⟩ => by subst he; exact hK _ _ hp
theorem Zdl.val {P : Program} {o : Oper} {a : Act} {w w' : World} {ZZ : Value → World → Prop} {u : Value} (h : (execOp a.eval o).run P w = .ok (.value u) w') (hp : ZZ u w') : Zdl P o a w ZZ :=
 .inl ⟨u, w', h, hp⟩
mutual
def cv : V → Value → Bool
 | .d (.bool a), .bool b => a == b
 | .d (.int k n), .int k' m => k == k' && n == m
 | .d (.str s), .string t => decide (s = t)
 | .d .nilfn, .nilFunc => true
 | .d .nilp, .pointer none => true
 | .d .nilI, .nilIface => true
 | .d (.fn f []), .func (.func g) a b => f == g && a.isEmpty && b.isEmpty
 | .d (.agg ds), .agg us => cds ds us.toList
 | .d (.list _ []), .slice _ n _ => n == 0
 | .nilsl _, .slice _ n c => n == 0 && c == 0
 | .agg vs, .agg us => cvs vs us.toList
 | .bad, _ => true
 | _, _ => false
def cvs : List V → List Value → Bool
 | [], [] => true
 | v :: vs, u :: us => cv v u && cvs vs us
 | _, _ => false
def cds : List D → List Value → Bool
 | [], [] => true
 | .bool a :: ds, .bool b :: us => a == b && cds ds us
 | .int k n :: ds, .int k' m :: us => k == k' && n == m && cds ds us
 | .str s :: ds, .string t :: us => decide (s = t) && cds ds us
 | .nilfn :: ds, .nilFunc :: us => cds ds us
 | .nilp :: ds, .pointer none :: us => cds ds us
 | .nilI :: ds, .nilIface :: us => cds ds us
 | .list _ [] :: ds, .slice _ n _ :: us => n == 0 && cds ds us
 | _, _ => false
end
theorem Zzr {A1 A0 AL : Nat → Prop} {w : World} : ∀ (ds : List D) (us : List Value), cds ds us = true → ZaQ A1 A0 AL w ds us := by
 intro ds
 induction ds with
 | nil => intro us h; cases us <;> simp_all [cds, ZaQ]
 | cons x ds ih =>
  intro us h
  cases us with
  | nil => cases x <;> simp_all [cds]
  | cons u us =>
   refine ⟨u, us, rfl, ?_⟩
   cases x with
   | bool a => cases u <;> simp_all [cds, Za9]
   | int k n => cases u <;> simp_all [cds, Za9]
   | str s =>
    cases u <;> simp only [cds, Bool.and_eq_true, decide_eq_true_eq, Bool.false_eq_true] at h
    exact ⟨by rw [h.1]; rfl, ih us h.2⟩
   | nilfn => cases u <;> simp_all [cds, Za9]
   | nilI => cases u <;> simp_all [cds, Za9]
   | nilp =>
    cases u with
    | pointer a => cases a <;> simp_all [cds, Za9]
    | _ => simp_all [cds]
   | list own xs =>
    cases xs with
    | nil =>
     cases u with
     | slice a n c =>
      simp only [cds, Bool.and_eq_true, beq_iff_eq] at h
      obtain ⟨rfl, h⟩ := h
      exact ⟨⟨a, 0, c, rfl, rfl, Nat.zero_le _, by simp, by simp⟩, ih us h⟩
     | _ => simp_all [cds]
    | cons y ys => cases u <;> simp_all [cds]
   | agg cs => cases u <;> simp_all [cds]
   | tup cs => cases u <;> simp_all [cds]
   | fn f cs => cases u <;> simp_all [cds]
   | rptr cs => cases u <;> simp_all [cds]
   | iface t v => cases u <;> simp_all [cds]
mutual
theorem Zp2 {R : RP} {w : World} : ∀ (v : V) (u : Value), cv v u = true → Za0 R w v u
 | .bad, _, _ => trivial
 | .nilsl sz, u, h => by
  cases u <;> simp_all [cv, Za0]
 | .agg vs, u, h => by
  cases u <;> simp only [cv] at h <;> try (cases h; done)
  rename_i us
  exact ⟨us.toList, rfl, Zs1 vs us.toList h⟩
 | .d x, u, h => by
  cases x with
  | bool a => cases u <;> simp_all [cv, Za0, RP.den, Za9]
  | int k n => cases u <;> simp_all [cv, Za0, RP.den, Za9]
  | str s =>
   cases u <;> simp only [cv, decide_eq_true_eq, Bool.false_eq_true] at h
   rw [h]; rfl
  | nilfn => cases u <;> simp_all [cv, Za0, RP.den, Za9]
  | nilI => cases u <;> simp_all [cv, Za0, RP.den, Za9]
  | nilp =>
   cases u with
   | pointer a => cases a <;> simp_all [cv, Za0, RP.den, Za9]
   | _ => simp_all [cv]
  | fn f cs =>
   cases cs with
   | cons => cases u <;> simp_all [cv]
   | nil =>
    cases u with
    | func fn a b =>
     cases fn <;> simp only [cv, Bool.and_eq_true, beq_iff_eq, Array.isEmpty_iff, Bool.false_eq_true] at h
     obtain ⟨⟨rfl, rfl⟩, rfl⟩ := h
     exact ⟨[], rfl, rfl⟩
    | _ => simp_all [cv]
  | agg ds =>
   cases u <;> simp only [cv] at h <;> try (cases h; done)
   rename_i us
   exact ⟨us.toList, rfl, Zzr ds us.toList h⟩
  | list own xs =>
   cases xs with
   | cons => cases u <;> simp_all [cv]
   | nil =>
    cases u <;> simp only [cv, beq_iff_eq] at h <;> try (cases h; done)
    subst h
    exact ⟨_, 0, _, rfl, rfl, Nat.zero_le _, by simp, by simp⟩
  | tup cs => cases u <;> simp_all [cv]
  | rptr cs => cases u <;> simp_all [cv]
  | iface t v => cases u <;> simp_all [cv]
 | .ptr b o, u, h => by cases u <;> simp_all [cv]
 | .eptr b sz i k, u, h => by cases u <;> simp_all [cv]
 | .sl b sz, u, h => by cases u <;> simp_all [cv]
 | .slp b sz o l, u, h => by cases u <;> simp_all [cv]
 | .tup cs, u, h => by cases u <;> simp_all [cv]
 | .fn f cs, u, h => by cases u <;> simp_all [cv]
 | .mp b, u, h => by cases u <;> simp_all [cv]
theorem Zs1 {R : RP} {w : World} : ∀ (vs : List V) (us : List Value), cvs vs us = true → ZaF R w vs us
 | [], us, h => by cases us <;> simp_all [cvs, ZaF]
 | v :: vs, [], h => by simp [cvs] at h
 | v :: vs, u :: us, h => by
  simp only [cvs, Bool.and_eq_true] at h
  exact ⟨u, us, rfl, Zp2 v u h.1, Zs1 vs us h.2⟩
end
abbrev ZbC := Nat → Option (List (IntKind × Int))
def gD : List (IntKind × Int) → List D
 | [] => []
 | (k, n) :: r => .int k n :: gD r
def eqG : List (IntKind × Int) → List D → Bool
 | [], [] => true
 | (k, n) :: r, .int k' n' :: s => k == k' && n == n' && eqG r s
 | _, _ => false
theorem Zvf : ∀ (g : List (IntKind × Int)) (l : List D), eqG g l = true → l = gD g
 | [], [], _ => rfl
 | [], _ :: _, h => by simp [eqG] at h
 | (k, n) :: r, [], h => by simp [eqG] at h
 | (k, n) :: r, x :: s, h => by
  cases x <;> simp only [eqG, Bool.and_eq_true, beq_iff_eq, Bool.false_eq_true] at h
  obtain ⟨⟨rfl, rfl⟩, h⟩ := h
  rw [gD, Zvf r s h]
def ZQ (G : ZbC) : Operand → Opd → Bool
 | .tmp i, .t j => i == j
 | .const u, .c v => cv v u
 | .func f, .c (.d (.fn g [])) => f == g
 | .global g, .c (.d (.rptr cs)) => match G g with | some l => eqG l cs | none => false
 | _, _ => false
def Ze1 (G : ZbC) : List Operand → List Opd → Bool
 | [], [] => true
 | x :: xs, y :: ys => ZQ G x y && Ze1 G xs ys
 | _, _ => false
def GOK (G : ZbC) (R : RP) (w : World) : Prop := ∀ g l, G g = some l → R.den w (.rptr (gD l)) (.pointer (some ⟨g, 0, none⟩))
def Zg8 (R : RP) (w : World) (e : Env) (a : Act) : Prop := ∀ t, Za0 R w (e t) (a.tmps.getD t undef)
theorem ZpK {G : ZbC} {R : RP} {w : World} {e : Env} {a : Act} (hg : GOK G R w) (he : Zg8 R w e a) {x : Operand} {y : Opd} (h : ZQ G x y = true) : Za0 R w (y.val e) (a.eval x) := by
 cases x with
 | tmp i =>
  cases y with
  | t j =>
   simp only [ZQ, beq_iff_eq] at h
   subst h
   exact he i
  | c v => simp [ZQ] at h
 | const u =>
  cases y with
  | t j => simp [ZQ] at h
  | c v => exact Zp2 v u h
 | func f =>
  cases y with
  | t j => simp [ZQ] at h
  | c v =>
   cases v with
   | d x =>
    cases x with
    | fn g caps =>
     cases caps with
     | nil =>
      simp only [ZQ, beq_iff_eq] at h
      subst h
      exact ⟨[], rfl, rfl⟩
     | cons => simp [ZQ] at h
    | _ => simp [ZQ] at h
   | _ => simp [ZQ] at h
 | global g =>
  cases y with
  | t j => simp [ZQ] at h
  | c v =>
   cases v with
   | d x =>
    cases x with
    | rptr cs =>
     cases hG : G g with
     | none => simp [ZQ, hG] at h
     | some l =>
      simp only [ZQ, hG] at h
      rw [Zvf l cs h]
      exact hg g l hG
    | _ => simp [ZQ] at h
   | _ => simp [ZQ] at h
theorem ZqD {G : ZbC} {R : RP} {w : World} {e : Env} {a : Act} (hg : GOK G R w) (he : Zg8 R w e a) : ∀ {xs : List Operand} {ys : List Opd}, Ze1 G xs ys = true → ZaF R w (vals e ys) (xs.map a.eval)
 | [], [], _ => rfl
 | [], _ :: _, h => by simp [Ze1] at h
 | _ :: _, [], h => by simp [Ze1] at h
 | x :: xs, y :: ys, h => by
  simp only [Ze1, Bool.and_eq_true] at h
  exact ⟨_, _, rfl, ZpK hg he h.1, ZqD hg he h.2⟩
theorem Ext.gok {G : ZbC} {R R' : RP} {w w' : World} (e : Ext R w R' w') (hb : ∀ c, R.B0 c → R.B1 c) (h : GOK G R w) : GOK G R' w' := fun g l hg => e.den hb (h g l hg)
theorem Ext.envOK {R R' : RP} {w w' : World} (x : Ext R w R' w') (hb : ∀ c, R.B0 c → R.B1 c) {e : Env} {a : Act} (h : Zg8 R w e a) : Zg8 R' w' e a := fun t => x.denV hb _ _ (h t)
def Zah (H : Zn) (up : List (Nat × Blk)) (nid : Nat) (nw : List Blk) (H' : Zn) : Prop :=
 ∀ i, H'[i]? = if nid ≤ i ∧ i < nid + nw.length then nw[i - nid]? else (Zeh H up)[i]?
def ZZ (R : RP) (w : World) (nid n : Nat) (H' : Zn) (v : V) (u : Value) (w' : World) : Prop :=
 ∃ R', Ext R w R' w' ∧ R'.OK w' ∧ R'.H = H' ∧ Za0 R' w' v u ∧ ∀ i, R.M i = none → ¬ (nid ≤ i ∧ i < nid + n) → R'.M i = none
theorem Zah.same {H H' : Zn} {nid : Nat} (h : Zah H [] nid [] H') : H' = H := by
 apply List.ext_getElem?
 intro i
 have := h i
 simp only [List.length_nil, Nat.add_zero, Zeh] at this
 rw [this, if_neg (by omega)]
theorem ZZ.still {R : RP} {w w' : World} {nid : Nat} {H' : Zn} {v : V} {u : Value} (ok : R.OK w) (hp : Zah R.H [] nid [] H') (hh : w'.heap = w.heap) (ho : w'.os = w.os) (ht : w'.tape = w.tape) (hpt : w'.output = w.output)
  (hv : Za0 R w v u) : ZZ R w nid 0 H' v u w' :=
 ⟨R, Ext.draw hh ho ht hpt, ok.draw hh ho ht hpt, hp.same.symm, (Ext.draw hh ho ht hpt).denV ok.b01 v u hv, fun i h _ => h⟩
theorem ZZ.stay {R : RP} {w : World} {nid : Nat} {H' : Zn} {v : V} {u : Value} (ok : R.OK w) (hp : Zah R.H [] nid [] H') (hv : Za0 R w v u) : ZZ R w nid 0 H' v u w :=
 ZZ.still ok hp rfl rfl rfl rfl hv
theorem ZZ.new {R : RP} {w : World} {nid : Nat} {H' : Zn} {v : V} {u : Value} {blk : Blk} {m : Option Nat} (o : Obj) (ok : R.OK w) (hp : Zah R.H [] nid [blk] H') (hn : R.M nid = none) (hm : m = none ∨ m = some w.heap.size)
  (hk : ∀ R' : RP, Ext R w R' (w.alloc o) → R'.M nid = some m → R'.H[nid]? = some blk → ZgS R' (w.alloc o) m blk ∧ (ZgS R' (w.alloc o) m blk → Za0 R' (w.alloc o) v u)) : ZZ R w nid 1 H' v u (w.alloc o) := by
 have hH : ∀ i, i ≠ nid → H'[i]? = R.H[i]? := fun i hi => by
  have := hp i
  rw [this, if_neg (by simp; omega)]; rfl
 have hb : H'[nid]? = some blk := by
  have := hp nid
  rw [this, if_pos (by simp)]; simp
 have e := Ext.new (R := R) (w := w) (H' := H') (n := nid) (blk := blk) (m := m) o hn hH hb hm ok.lt ok.al
 have hk' := hk _ e (by simp) hb
 exact ⟨_, e, ok.new hn hH hb hm (fun _ => hk'.1), rfl, hk'.2 hk'.1, fun i hi hni => by
  have : i ≠ nid := fun h => hni (by subst h; simp)
  simp [this, hi]⟩
end Go.Proofs.YtnmbdjkbaihicaaDoorE
namespace Go.Proofs.YtnmbdjkbaihicaaDoorE
open Go
set_option linter.unusedVariables false
set_option linter.unusedSimpArgs false
def Le {α : Type} (x y : Option α) : Prop := ∀ a, x = some a → y = some a
theorem Le.refl {α : Type} (x : Option α) : Le x x := fun _ h => h
theorem Le.trans {α : Type} {x y z : Option α} (h : Le x y) (k : Le y z) : Le x z := fun a ha => k a (h a ha)
theorem Le.none {α : Type} (x : Option α) : Le none x := fun _ h => by cases h
noncomputable def Zx7 {α : Type} (F : Nat → Option α) : Option α := open Classical in if h : ∃ n, (F n).isSome = true then F (Classical.choose h) else none
theorem ZtW {α : Type} {F : Nat → Option α} (mono : ∀ n m, n ≤ m → Le (F n) (F m)) (a : α) : Zx7 F = some a ↔ ∃ n, F n = some a := by
 unfold Zx7
 constructor
 ·intro h
  split at h
  ·rename_i hx; exact ⟨_, h⟩
  ·cases h
 ·rintro ⟨n, hn⟩
  have hx : ∃ n, (F n).isSome = true := ⟨n, by simp [hn]⟩
  rw [dif_pos hx]
  have hs := Classical.choose_spec hx
  cases hv : F (Classical.choose hx) with
  | none => rw [hv] at hs; cases hs
  | some b =>
   rcases Nat.le_total n (Classical.choose hx) with h | h
   ·rw [← hv]; exact mono _ _ h a hn
   ·have := mono _ _ h b hv; rw [hn] at this; exact this.symm
def LeC (f g : Zbn) : Prop := ∀ a b c, Le (f a b c) (g a b c)
abbrev Rnd := List V → Zn → Option Lp
abbrev ItF := Rnd → List V → Zn → Option (Ex × List V × Zn)
def LeR (f g : Rnd) : Prop := ∀ a b, Le (f a b) (g a b)
def LeI (f g : ItF) : Prop := ∀ F G, LeR F G → ∀ a b, Le (f F a b) (g G a b)
theorem ZjE {Γ : Ctx} {cf cg : Zbn} (h : LeC cf cg) (nid : Nat) (H : Zn) (f : Nat) (args : List V) : Le (ZfZ Γ cf nid H f args) (ZfZ Γ cg nid H f args) := by
 intro r hr
 unfold ZfZ at hr ⊢
 split at hr
 ·rename_i hm
  cases h1 : fzs H args with
  | none => simp [h1] at hr
  | some l =>
   simp only [h1] at hr ⊢
   cases h2 : cf f (ZcK l) [] with
   | none => simp [h2] at hr
   | some p => rw [h2] at hr; rw [h _ _ _ p h2]; exact hr
 ·rename_i hm
  cases h1 : fzs H args with
  | none => simp [h1] at hr
  | some l =>
   simp only [h1] at hr ⊢
   cases h2 : cf f (ZcK l) [] with
   | none => simp [h2] at hr
   | some p => rw [h2] at hr; rw [h _ _ _ p h2]; exact hr
 ·cases h1 : extract 0 args H with
  | none => simp [h1] at hr
  | some q =>
   obtain ⟨L, args', H0⟩ := q
   simp only [h1] at hr ⊢
   cases h2 : cf f args' H0 with
   | none => simp [h2] at hr
   | some p => rw [h2] at hr; rw [h _ _ _ p h2]; exact hr
theorem Zgu {Γ : Ctx} {cf : Zbn} (e : Env) (nid : Nat) (H : Zn) (x : Opd) (args : List Opd) :
  opE Γ cf e nid H (.callv x args) = match Zjf (x.val e) with | some (f, caps) => (match Zgb Γ (x.val e) f caps with | true => none | false => ZfZ Γ cf nid H f (vals e args ++ caps)) | none => none := rfl
theorem ZfR {Γ : Ctx} {cf : Zbn} (e : Env) (nid : Nat) (H : Zn) (tab : List (Nat × Nat)) (x : Opd) (args : List Opd) :
  opE Γ cf e nid H (.invoke tab x args) = match x.val e with
   | .d (.iface t y) => (match Zlu tab t with | some f => ZfZ Γ cf nid H f (.d y :: vals e args) | none => none)
   | _ => none := rfl
theorem ZmQ {Γ : Ctx} {cf cg : Zbn} (h : LeC cf cg) (e : Env) (nid : Nat) (H : Zn) (o : O) : Le (opE Γ cf e nid H o) (opE Γ cg e nid H o) := by
 intro r hr
 cases o <;> try exact hr
 ·exact ZjE h _ _ _ _ r hr
 ·rename_i x args
  rw [Zgu] at hr ⊢
  cases h1 : Zjf (x.val e) with
  | none => simp [h1] at hr
  | some q =>
   obtain ⟨f, caps⟩ := q; simp only [h1] at hr ⊢
   cases hb : Zgb Γ (x.val e) f caps with
   | true => rw [hb] at hr; cases hr
   | false => rw [hb] at hr; exact ZjE h _ _ _ _ r hr
 ·rename_i tab x args
  rw [ZfR] at hr ⊢
  split at hr
  ·rename_i t y hx
   split at hr
   ·exact ZjE h _ _ _ _ r hr
   ·cases hr
  ·cases hr
 ·exact ZjE h _ _ _ _ r hr
theorem Zk1 {Γ : Ctx} {cf cg : Zbn} (h : LeC cf cg) : ∀ (l : List Op1) (e : Env) (H : Zn), Le (ZhJ Γ cf l e H) (ZhJ Γ cg l e H)
 | [], e, H, r, hr => hr
 | o :: l, e, H, r, hr => by
  unfold ZhJ at hr ⊢
  cases hw : ZfG e o.guard with
  | none => simp [hw] at hr
  | some b =>
   cases b with
   | false => simp only [hw] at hr ⊢; exact Zk1 h l _ _ r hr
   | true =>
    simp only [hw] at hr ⊢
    cases ho : opE Γ cf e H.length H o.op with
    | none => simp [ho] at hr
    | some q =>
     rw [ho] at hr; rw [ZmQ h _ _ _ _ q ho]
     exact Zk1 h l _ _ r hr
theorem Zjj {Γ : Ctx} {cf cg : Zbn} (h : LeC cf cg) : ∀ (l : List Op1) (pos : List (Nat × Nat)) (e : Env) (H : Zn), Le (Zfw Γ cf pos l e H) (Zfw Γ cg pos l e H)
 | [], pos, e, H, r, hr => hr
 | o :: l, pos, e, H, r, hr => by
  unfold Zfw at hr ⊢
  cases hw : ZfG e o.guard with
  | none => simp [hw] at hr
  | some b =>
   cases b with
   | false => simp only [hw] at hr ⊢; exact Zjj h l _ _ _ r hr
   | true =>
    simp only [hw] at hr ⊢
    cases ho : opE Γ cf e H.length (Zf3 H pos o.mask) o.op with
    | none => simp [ho] at hr
    | some q =>
     rw [ho] at hr; rw [ZmQ h _ _ _ _ q ho]
     obtain ⟨v, up, nw⟩ := q
     dsimp only at hr ⊢
     cases hb : (ZoE e H o up nw) with
     | false => simp [hb] at hr
     | true => simp only [hb, cond_true] at hr ⊢; exact Zjj h l _ _ _ r hr
theorem Zkw {k : Nat} {live outs : List Nat} {x y : Option (Ex × Env × Zn)} (h : Le x y) : Le (ZeA k live outs x) (ZeA k live outs y) := by
 intro r hr
 cases x with
 | none => simp [ZeA] at hr
 | some q => rw [h q rfl]; exact hr
theorem Zpd {Γ : Ctx} {cf cg : Zbn} {It Jt : ItF} (h : LeC cf cg) (hi : LeI It Jt) (k : Nat) : ∀ (c : C) (e : Env) (H : Zn), Le (Zal Γ cf It k c e H) (Zal Γ cg Jt k c e H) := by
 intro c
 induction c with
 | skip => intro e H; exact Le.refl _
 | ret => intro e H; exact Le.refl _
 | exit id => intro e H; exact Le.refl _
 | seq a b iha ihb =>
  intro e H r hr
  unfold Zal at hr ⊢
  cases ha : Zal Γ cf It k a e H with
  | none => simp [ha] at hr
  | some q =>
   rw [ha] at hr; rw [iha e H q ha]
   obtain ⟨x, e1, H1⟩ := q
   cases x with
   | normal => exact ihb e1 H1 r hr
   | exit id => exact hr
   | ret => exact hr
 | cond x a b iha ihb =>
  intro e H r hr
  unfold Zal at hr ⊢
  split at hr
  ·rename_i t ht
   cases t with
   | true => exact iha e H r hr
   | false => exact ihb e H r hr
  ·cases hr
 | block id a iha =>
  intro e H r hr
  unfold Zal at hr ⊢
  cases ha : Zal Γ cf It k a e H with
  | none => simp [ha] at hr
  | some q => rw [ha] at hr; rw [iha e H q ha]; exact hr
 | loop live outs a iha =>
  intro e H r hr
  unfold Zal at hr ⊢
  cases hh : ZnV k (live.map e) H with
  | none => simp [hh] at hr
  | some q =>
   obtain ⟨vs, H1⟩ := q
   simp only [hh] at hr ⊢
   cases hit : It (fun vs H => ZeA k live outs (Zal Γ cf It k a (Zec live vs) H)) vs H1 with
   | none => simp [hit] at hr
   | some p =>
    rw [hit] at hr
    rw [hi _ (fun vs H => ZeA k live outs (Zal Γ cg Jt k a (Zec live vs) H)) (fun vs H => Zkw (iha (Zec live vs) H)) vs H1 p hit]
    exact hr
 | ops l =>
  intro e H r hr
  unfold Zal at hr ⊢
  cases ho : ZhJ Γ cf l e H with
  | none => simp [ho] at hr
  | some q => rw [ho] at hr; rw [Zk1 h l e H q ho]; exact hr
 | draw l =>
  intro e H r hr
  unfold Zal at hr ⊢
  cases ho : Zfw Γ cf [] l e H with
  | none => simp [ho] at hr
  | some q => rw [ho] at hr; rw [Zjj h l _ e H q ho]; exact hr
theorem Zqn {Γ : Ctx} {cf cg : Zbn} {It Jt : ItF} (h : LeC cf cg) (hi : LeI It Jt) (f : Nat) (args : List V) (H : Zn) : Le (Zj4 Γ cf It f args H) (Zj4 Γ cg Jt f args H) := by
 intro r hr
 unfold Zj4 at hr ⊢
 cases hc : Γ.code f with
 | none => simp [hc] at hr
 | some fn =>
  simp only [hc] at hr ⊢
  cases hn : Nat.beq args.length fn.nargs with
  | false => simp [hn] at hr
  | true =>
   simp only [hn, cond_true] at hr ⊢
   cases hx : Zal Γ cf It H.length fn.body (ZeI 0 args) H with
   | none => simp [hx] at hr
   | some q => rw [hx] at hr; rw [Zpd h hi _ _ _ _ q hx]; exact hr
theorem ZfQ {F G : Rnd} (h : LeR F G) : ∀ (n m : Nat), n ≤ m → ∀ vs H, Le (Zc5 F n vs H) (Zc5 G m vs H)
 | 0, m, _, vs, H => Le.none _
 | n + 1, 0, hm, vs, H => absurd hm (by omega)
 | n + 1, m + 1, hm, vs, H => by
  intro r hr
  unfold Zc5 at hr ⊢
  cases hf : F vs H with
  | none => simp [hf] at hr
  | some q =>
   rw [hf] at hr; rw [h vs H q hf]
   cases q with
   | again vs H => exact ZfQ h n m (by omega) vs H r hr
   | done x vs H => exact hr
theorem Zhr (Γ : Ctx) : ∀ (n m : Nat), n ≤ m → LeC (evN Γ n) (evN Γ m)
 | 0, m, _ => fun _ _ _ => Le.none _
 | n + 1, 0, hm => absurd hm (by omega)
 | n + 1, m + 1, hm => fun f args H => Zqn (Zhr Γ n m (by omega)) (fun F G h vs H => ZfQ h n m (by omega) vs H) f args H
noncomputable def evW (Γ : Ctx) : Zbn := fun f args H => Zx7 fun n => evN Γ n f args H
noncomputable def itW : ItF := fun F vs H => Zx7 fun n => Zc5 F n vs H
theorem Zig (Γ : Ctx) (f : Nat) (args : List V) (H : Zn) (r : V × Zn) : evW Γ f args H = some r ↔ ∃ n, evN Γ n f args H = some r :=
 ZtW (fun n m h => Zhr Γ n m h f args H) r
theorem Zh8 (F : Rnd) (vs : List V) (H : Zn) (r : Ex × List V × Zn) : itW F vs H = some r ↔ ∃ n, Zc5 F n vs H = some r :=
 ZtW (fun n m h => ZfQ (fun _ _ => Le.refl _) n m h vs H) r
theorem ZzW (F : Rnd) (vs : List V) (H : Zn) : itW F vs H = match F vs H with | some (.again vs H) => itW F vs H | some (.done x vs H) => some (x, vs, H) | none => none := by
 cases hf : F vs H with
 | none =>
  cases h : itW F vs H with
  | none => rfl
  | some r =>
   obtain ⟨n, hn⟩ := (Zh8 F vs H r).1 h
   cases n with
   | zero => simp [Zc5] at hn
   | succ n => simp [Zc5, hf] at hn
 | some q =>
  cases q with
  | done x vs' H' => exact (Zh8 F vs H _).2 ⟨1, by simp [Zc5, hf]⟩
  | again vs' H' =>
   dsimp only
   cases h : itW F vs' H' with
   | some r =>
    obtain ⟨n, hn⟩ := (Zh8 F vs' H' r).1 h
    exact (Zh8 F vs H r).2 ⟨n + 1, by simp [Zc5, hf, hn]⟩
   | none =>
    cases h2 : itW F vs H with
    | none => rfl
    | some r =>
     obtain ⟨n, hn⟩ := (Zh8 F vs H r).1 h2
     cases n with
     | zero => simp [Zc5] at hn
     | succ n =>
      simp [Zc5, hf] at hn
      rw [(Zh8 F vs' H' r).2 ⟨n, hn⟩] at h
      cases h
section
variable {Γ : Ctx}
theorem ZjB (nid : Nat) (H : Zn) (f : Nat) (args : List V) (r : V × List (Nat × Blk) × List Blk) (hr : ZfZ Γ (evW Γ) nid H f args = some r) : ∃ n, ZfZ Γ (evN Γ n) nid H f args = some r := by
 unfold ZfZ at hr ⊢
 split at hr
 ·cases h1 : fzs H args with
  | none => simp [h1] at hr
  | some l =>
   simp only [h1] at hr ⊢
   cases h2 : evW Γ f (ZcK l) [] with
   | none => simp [h2] at hr
   | some p => obtain ⟨n, hn⟩ := (Zig Γ f (ZcK l) [] p).1 h2; exact ⟨n, by rw [hn]; rw [h2] at hr; exact hr⟩
 ·cases h1 : fzs H args with
  | none => simp [h1] at hr
  | some l =>
   simp only [h1] at hr ⊢
   cases h2 : evW Γ f (ZcK l) [] with
   | none => simp [h2] at hr
   | some p => obtain ⟨n, hn⟩ := (Zig Γ f (ZcK l) [] p).1 h2; exact ⟨n, by rw [hn]; rw [h2] at hr; exact hr⟩
 ·cases h1 : extract 0 args H with
  | none => simp [h1] at hr
  | some q =>
   obtain ⟨L, args', H0⟩ := q
   simp only [h1] at hr ⊢
   cases h2 : evW Γ f args' H0 with
   | none => simp [h2] at hr
   | some p => obtain ⟨n, hn⟩ := (Zig Γ f args' H0 p).1 h2; exact ⟨n, by rw [hn]; rw [h2] at hr; exact hr⟩
theorem ZrB (e : Env) (nid : Nat) (H : Zn) (o : O) (r : V × List (Nat × Blk) × List Blk) (hr : opE Γ (evW Γ) e nid H o = some r) : ∃ n, opE Γ (evN Γ n) e nid H o = some r := by
 cases o <;> try exact ⟨0, hr⟩
 ·exact ZjB _ _ _ _ r hr
 ·rename_i x args
  rw [Zgu] at hr
  cases h1 : Zjf (x.val e) with
  | none => simp [h1] at hr
  | some q =>
   obtain ⟨f, caps⟩ := q; simp only [h1] at hr
   cases hb : Zgb Γ (x.val e) f caps with
   | true => rw [hb] at hr; cases hr
   | false =>
    rw [hb] at hr
    obtain ⟨n, hn⟩ := ZjB _ _ _ _ r hr
    exact ⟨n, by rw [Zgu]; simp only [h1, hb]; exact hn⟩
 ·rename_i tab x args
  rw [ZfR] at hr
  split at hr
  ·rename_i t y hx
   cases hl : Zlu tab t with
   | none => simp [hl] at hr
   | some f =>
    simp only [hl] at hr
    obtain ⟨n, hn⟩ := ZjB _ _ _ _ r hr
    exact ⟨n, by rw [ZfR]; simp only [hx, hl]; exact hn⟩
  ·cases hr
 ·exact ZjB _ _ _ _ r hr
theorem Zny : ∀ (l : List Op1) (e : Env) (H : Zn) (r : Env × Zn), ZhJ Γ (evW Γ) l e H = some r → ∃ n, ZhJ Γ (evN Γ n) l e H = some r
 | [], e, H, r, hr => ⟨0, hr⟩
 | o :: l, e, H, r, hr => by
  unfold ZhJ at hr
  cases hw : ZfG e o.guard with
  | none => simp [hw] at hr
  | some b =>
   cases b with
   | false =>
    simp only [hw] at hr
    obtain ⟨n, hn⟩ := Zny l _ _ r hr
    exact ⟨n, by unfold ZhJ; simp only [hw]; exact hn⟩
   | true =>
    simp only [hw] at hr
    cases ho : opE Γ (evW Γ) e H.length H o.op with
    | none => simp [ho] at hr
    | some q =>
     rw [ho] at hr
     obtain ⟨n, hn⟩ := ZrB _ _ _ _ q ho
     obtain ⟨v, up, nw⟩ := q
     obtain ⟨m, hm⟩ := Zny l _ _ r hr
     refine ⟨max n m, ?_⟩
     unfold ZhJ
     simp only [hw]
     rw [ZmQ (Zhr Γ n (max n m) (Nat.le_max_left _ _)) _ _ _ _ _ hn]
     exact Zk1 (Zhr Γ m (max n m) (Nat.le_max_right _ _)) l _ _ r hm
theorem ZlQ : ∀ (l : List Op1) (pos : List (Nat × Nat)) (e : Env) (H : Zn) (r : Env × Zn), Zfw Γ (evW Γ) pos l e H = some r → ∃ n, Zfw Γ (evN Γ n) pos l e H = some r
 | [], pos, e, H, r, hr => ⟨0, hr⟩
 | o :: l, pos, e, H, r, hr => by
  unfold Zfw at hr
  cases hw : ZfG e o.guard with
  | none => simp [hw] at hr
  | some b =>
   cases b with
   | false =>
    simp only [hw] at hr
    obtain ⟨n, hn⟩ := ZlQ l _ _ _ r hr
    exact ⟨n, by unfold Zfw; simp only [hw]; exact hn⟩
   | true =>
    simp only [hw] at hr
    cases ho : opE Γ (evW Γ) e H.length (Zf3 H pos o.mask) o.op with
    | none => simp [ho] at hr
    | some q =>
     rw [ho] at hr
     obtain ⟨n, hn⟩ := ZrB _ _ _ _ q ho
     obtain ⟨v, up, nw⟩ := q
     dsimp only at hr
     cases hb : (ZoE e H o up nw) with
     | false => simp [hb] at hr
     | true =>
      simp only [hb, cond_true] at hr
      obtain ⟨m, hm⟩ := ZlQ l _ _ _ r hr
      refine ⟨max n m, ?_⟩
      unfold Zfw
      simp only [hw]
      rw [ZmQ (Zhr Γ n (max n m) (Nat.le_max_left _ _)) _ _ _ _ _ hn]
      simp only [hb, cond_true]
      exact Zjj (Zhr Γ m (max n m) (Nat.le_max_right _ _)) l _ _ _ r hm
theorem ZsU (k : Nat) : ∀ (c : C) (e : Env) (H : Zn) (r : Ex × Env × Zn), Zal Γ (evW Γ) itW k c e H = some r → ∃ n, Zal Γ (evN Γ n) (fun F => Zc5 F n) k c e H = some r := by
 have up : ∀ (c : C) (e : Env) (H : Zn) (r : Ex × Env × Zn) (n m : Nat), n ≤ m → Zal Γ (evN Γ n) (fun F => Zc5 F n) k c e H = some r → Zal Γ (evN Γ m) (fun F => Zc5 F m) k c e H = some r :=
  fun c e H r n m h => Zpd (Zhr Γ n m h) (fun F G hFG vs H => ZfQ hFG n m h vs H) k c e H r
 intro c
 induction c with
 | skip => intro e H r hr; exact ⟨0, hr⟩
 | ret => intro e H r hr; exact ⟨0, hr⟩
 | exit id => intro e H r hr; exact ⟨0, hr⟩
 | seq a b iha ihb =>
  intro e H r hr
  unfold Zal at hr
  cases ha : Zal Γ (evW Γ) itW k a e H with
  | none => simp [ha] at hr
  | some q =>
   rw [ha] at hr
   obtain ⟨n, hn⟩ := iha e H q ha
   obtain ⟨x, e1, H1⟩ := q
   cases x with
   | normal =>
    obtain ⟨m, hm⟩ := ihb e1 H1 r hr
    refine ⟨max n m, ?_⟩
    unfold Zal
    rw [up a e H _ n _ (Nat.le_max_left _ _) hn]
    exact up b e1 H1 r m _ (Nat.le_max_right _ _) hm
   | exit id => exact ⟨n, by unfold Zal; rw [hn]; exact hr⟩
   | ret => exact ⟨n, by unfold Zal; rw [hn]; exact hr⟩
 | cond x a b iha ihb =>
  intro e H r hr
  unfold Zal at hr
  split at hr
  ·rename_i t ht
   cases t with
   | true => obtain ⟨n, hn⟩ := iha e H r hr; exact ⟨n, by unfold Zal; simp only [ht]; exact hn⟩
   | false => obtain ⟨n, hn⟩ := ihb e H r hr; exact ⟨n, by unfold Zal; simp only [ht]; exact hn⟩
  ·cases hr
 | block id a iha =>
  intro e H r hr
  unfold Zal at hr
  cases ha : Zal Γ (evW Γ) itW k a e H with
  | none => simp [ha] at hr
  | some q => rw [ha] at hr; obtain ⟨n, hn⟩ := iha e H q ha; exact ⟨n, by unfold Zal; rw [hn]; exact hr⟩
 | loop live outs a iha =>
  intro e H r hr
  unfold Zal at hr
  cases hh : ZnV k (live.map e) H with
  | none => simp [hh] at hr
  | some q =>
   obtain ⟨vs, H1⟩ := q
   simp only [hh] at hr
   cases hit : itW (fun vs H => ZeA k live outs (Zal Γ (evW Γ) itW k a (Zec live vs) H)) vs H1 with
   | none => simp [hit] at hr
   | some p =>
    rw [hit] at hr
    obtain ⟨n, hn⟩ := (Zh8 _ vs H1 p).1 hit
    have key : ∀ (n : Nat) (vs : List V) (H1 : Zn) (p : Ex × List V × Zn), Zc5 (fun vs H => ZeA k live outs (Zal Γ (evW Γ) itW k a (Zec live vs) H)) n vs H1 = some p →
      ∃ m, Zc5 (fun vs H => ZeA k live outs (Zal Γ (evN Γ m) (fun F => Zc5 F m) k a (Zec live vs) H)) n vs H1 = some p := by
     intro n
     induction n with
     | zero => intro vs H1 p h; simp [Zc5] at h
     | succ n ih =>
      intro vs H1 p h
      unfold Zc5 at h
      cases hc : Zal Γ (evW Γ) itW k a (Zec live vs) H1 with
      | none => simp [hc, ZeA] at h
      | some q =>
       obtain ⟨m1, hm1⟩ := iha _ _ q hc
       simp only [hc] at h
       cases hr2 : ZeA k live outs (some q) with
       | none => simp [hr2] at h
       | some z =>
        rw [hr2] at h
        cases z with
        | done x vs' H' => exact ⟨m1, by unfold Zc5; simp only [hm1, hr2]; exact h⟩
        | again vs' H' =>
         obtain ⟨m2, hm2⟩ := ih vs' H' p h
         refine ⟨max m1 m2, ?_⟩
         unfold Zc5
         simp only [up a _ _ q m1 _ (Nat.le_max_left m1 m2) hm1, hr2]
         exact ZfQ (fun vs H => Zkw (fun q hq => up a _ _ q m2 _ (Nat.le_max_right m1 m2) hq)) n n (Nat.le_refl _) vs' H' p hm2
    obtain ⟨m, hm⟩ := key n vs H1 p hn
    refine ⟨max n m, ?_⟩
    unfold Zal
    simp only [hh]
    rw [ZfQ (fun vs H => Zkw (fun q hq => up a _ _ q m _ (Nat.le_max_right n m) hq)) n _ (Nat.le_max_left n m) vs H1 p hm]
    exact hr
 | ops l =>
  intro e H r hr
  unfold Zal at hr
  cases ho : ZhJ Γ (evW Γ) l e H with
  | none => simp [ho] at hr
  | some q => rw [ho] at hr; obtain ⟨n, hn⟩ := Zny l e H q ho; exact ⟨n, by unfold Zal; rw [hn]; exact hr⟩
 | draw l =>
  intro e H r hr
  unfold Zal at hr
  cases ho : Zfw Γ (evW Γ) [] l e H with
  | none => simp [ho] at hr
  | some q => rw [ho] at hr; obtain ⟨n, hn⟩ := ZlQ l _ e H q ho; exact ⟨n, by unfold Zal; rw [hn]; exact hr⟩
theorem Zzv (f : Nat) (args : List V) (H : Zn) : evW Γ f args H = Zj4 Γ (evW Γ) itW f args H := by
 have h1 : Le (evW Γ f args H) (Zj4 Γ (evW Γ) itW f args H) := by
  intro r hr
  obtain ⟨n, hn⟩ := (Zig Γ f args H r).1 hr
  cases n with
  | zero => simp [evN] at hn
  | succ n => exact Zqn (fun a b c r h => (Zig Γ a b c r).2 ⟨n, h⟩) (fun F G h vs H r hr => (Zh8 G vs H r).2 ⟨n, ZfQ h n n (Nat.le_refl _) vs H r hr⟩) f args H r hn
 have h2 : Le (Zj4 Γ (evW Γ) itW f args H) (evW Γ f args H) := by
  intro r hr
  unfold Zj4 at hr
  cases hc : Γ.code f with
  | none => simp [hc] at hr
  | some fn =>
   simp only [hc] at hr
   cases hn : Nat.beq args.length fn.nargs with
   | false => simp [hn] at hr
   | true =>
    simp only [hn, cond_true] at hr
    cases hx : Zal Γ (evW Γ) itW H.length fn.body (ZeI 0 args) H with
    | none => simp [hx] at hr
    | some q =>
     rw [hx] at hr
     obtain ⟨n, hn2⟩ := ZsU _ _ _ _ q hx
     refine (Zig Γ f args H r).2 ⟨n + 1, ?_⟩
     show Zj4 Γ (evN Γ n) (fun F => Zc5 F n) f args H = some r
     unfold Zj4
     simp only [hc, hn, cond_true, hn2]
     exact hr
 cases h : evW Γ f args H with
 | some r => exact (h1 r h).symm
 | none =>
  cases h' : Zj4 Γ (evW Γ) itW f args H with
  | none => rfl
  | some r => rw [h2 r h'] at h; cases h
end
end Go.Proofs.YtnmbdjkbaihicaaDoorE
