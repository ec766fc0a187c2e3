/- SourceMay: part 1 of 7 of the proof. -/
import Derived.Calls
import Derived.Orders
set_option maxRecDepth 100000
set_option maxHeartbeats 40000000
namespace Go.Proofs.YtnmbdjkbaihicaaDoorE
open Go
inductive D where
 | bool (b : Bool) | int (k : IntKind) (n : Int) | str (s : ByteArray)
 | list (own : Bool) (xs : List D) | agg (cs : List D) | tup (vs : List D)
 | fn (f : Nat) (caps : List D) | nilfn
 | rptr (cs : List D) | nilp
 | iface (t : Nat) (v : D) | nilI
inductive V where
 | d (x : D) | bad
 | ptr (b o : Nat) | eptr (b sz i k : Nat)
 | sl (b sz : Nat) | slp (b sz o len : Nat) | nilsl (sz : Nat)
 | agg (cs : List V) | tup (vs : List V)
 | fn (f : Nat) (caps : List V)
 | mp (b : Nat)
inductive Blk where
 | dead | cells (cs : List V) | arr (sz : Nat) (xs : List D)
 | mp (es : List (D × D))
abbrev Zk := List Blk
abbrev Env := Nat → V
def Env.set (e : Env) (i : Nat) (v : V) : Env := fun j => bif Nat.beq i j then v else e j
def env0 : Env := fun _ => .bad
def Zdy : List Nat → List V → Env
 | i :: is, v :: vs => (Zdy is vs).set i v
 | _, _ => env0
def D.isAgg : D → Bool
 | .agg _ => true
 | _ => false
mutual
def D.esc : D → Bool
 | .list own _ => own
 | .agg cs => D.escs cs
 | .tup _ => false
 | .iface _ v => v.esc
 | .fn _ caps => caps.isEmpty
 | .rptr _ => false
 | _ => true
def D.escs : List D → Bool
 | [] => true
 | c :: cs => c.esc && (!c.isAgg && D.escs cs)
end
def ZpX : List D → Bool
 | [] => true
 | c :: cs => c.esc && ZpX cs
mutual
def D.nofn : D → Bool
 | .fn _ caps => caps.isEmpty
 | .agg cs => D.nofns cs
 | .tup cs => D.nofns cs
 | .rptr cs => D.nofns cs
 | .iface _ v => v.nofn
 | _ => true
def D.nofns : List D → Bool
 | [] => true
 | c :: cs => c.nofn && D.nofns cs
end
mutual
def ZmQ : V → Bool
 | .d (.tup ts) => ZpX ts
 | .d x => x.esc
 | .agg cs => Zk6 cs
 | .tup cs => Zk6 cs
 | .fn _ cs => Zk6 cs
 | _ => true
def Zk6 : List V → Bool
 | [] => true
 | v :: vs => ZmQ v && Zk6 vs
end
mutual
def Zji : V → Bool
 | .d x => x.nofn
 | .agg cs => ZiD cs
 | .tup cs => ZiD cs
 | .fn _ cs => ZiD cs
 | _ => true
def ZiD : List V → Bool
 | [] => true
 | v :: vs => Zji v && ZiD vs
end
def Zje : List Blk → Bool
 | [] => true
 | .cells cs :: r => Zk6 cs && Zje r
 | _ :: r => Zje r
def ZgV : List Blk → Bool
 | [] => true
 | .cells cs :: r => ZiD cs && ZgV r
 | _ :: r => ZgV r
def V.isAggV : V → Bool
 | .d (.agg _) => true
 | .agg _ => true
 | _ => false
def V.isD : V → Bool
 | .d _ => true
 | _ => false
def D.cells : D → List D
 | .agg cs => cs
 | x => [x]
inductive Opd where
 | t (i : Nat) | c (v : V)
inductive O where
 | mov (x : Opd)
 | pick (c a b : Opd)
 | alloc (z : V)
 | box (x : Opd)
 | build (z : List V) (ps : List (Nat × Nat × Opd))
 | bslice (sz : Nat) (z : List D) (len : Nat) (ps : List (Nat × Opd))
 | load (n : Nat) (ag : Bool) (x : Opd)
 | store (n : Nat) (x v : Opd)
 | nilck (x : Opd)
 | bin (op : BinOp) (x y : Opd)
 | eqv (ks : List Bool) (neg : Bool) (x y : Opd)
 | un (op : UnOp) (x : Opd)
 | conv (k : IntKind) (x : Opd)
 | mkfn (f : Nat) (caps : List Opd)
 | mkslice (sz : Nat) (z : List D) (n c : Opd)
 | slice (sz : Nat) (x : Opd) (lo hi mx : Option Opd)
 | faddr (off : Nat) (x : Opd)
 | field (off n : Nat) (ag : Bool) (x : Opd)
 | iaddr (sz : Nat) (x i : Opd)
 | index (len sz : Nat) (ag : Bool) (x i : Opd)
 | indexS (x i : Opd)
 | iaddrA (len sz : Nat) (x i : Opd)
 | len (x : Opd)
 | append (sz : Nat) (x y : Opd)
 | appendD (sz : Nat) (x y : Opd)
 | mx (isMax : Bool) (xs : List Opd)
 | extract (x : Opd) (i : Nat)
 | mkif (t : Nat) (x : Opd)
 | call (f : Nat) (args : List Opd)
 | callv (x : Opd) (args : List Opd)
 | invoke (tab : List (Nat × Nat)) (x : Opd) (args : List Opd)
 | mkmap
 | mapset (ks : List Bool) (m k v : Opd)
 | mapget (ks : List Bool) (z : D) (m k : Opd)
 | panic
 | callk (f : Nat) (args : List Opd) (chk : List Opd)
 | nilq (x : Opd)
 | spec (id : Nat) (args : List Opd)
structure Op1 where
 dst : Option Nat
 op : O
 guard : Option (Nat × Bool)
 mask : List Nat
 eff : Nat
inductive C where
 | skip | ret | exit (id : Nat)
 | seq (a b : C)
 | cond (x : Opd) (a b : C)
 | block (id : Nat) (a : C)
 | loop (live outs : List Nat) (a : C)
 | ops (l : List Op1)
 | draw (l : List Op1)
inductive Ex where
 | normal | exit (id : Nat) | ret
structure FnI where
 nargs : Nat
 body : C
 res : List (Nat × Option (Nat × Bool))
structure Ctx where
 code : Nat → Option FnI
 mode : Nat → Nat
abbrev oA (op : O) : Op1 := ⟨none, op, none, [], 0⟩
abbrev oB (d : Nat) (op : O) : Op1 := ⟨some d, op, none, [], 0⟩
abbrev oG (d : Nat) (op : O) (s : Nat) (b : Bool) : Op1 := ⟨some d, op, some (s, b), [], 0⟩
abbrev oM (d : Nat) (op : O) (m : List Nat) : Op1 := ⟨some d, op, none, m, 0⟩
abbrev iN (n : Int) : Opd := .c (.d (.int .i64 n))
abbrev bT : Opd := .c (.d (.bool true))
abbrev bF : Opd := .c (.d (.bool false))
def Opd.val (e : Env) : Opd → V
 | .t i => e i
 | .c v => v
def vals (e : Env) : List Opd → List V
 | [] => []
 | x :: xs => x.val e :: vals e xs
def Zii : List V → Option (List D)
 | [] => some []
 | .d x :: r => match Zii r with | some l => some (x :: l) | none => none
 | _ :: _ => none
def ZoD (cs : List V) : V := match Zii cs with | some l => .d (.agg l) | none => .agg cs
def Zqf (cs : List V) : V := match Zii cs with | some l => .d (.tup l) | none => .tup cs
def Zcn : List D → List V
 | [] => []
 | x :: xs => .d x :: Zcn xs
def V.cells : V → List V
 | .d (.agg cs) => Zcn cs
 | .agg cs => cs
 | v => [v]
def nth {α : Type} : List α → Nat → Option α
 | [], _ => none
 | x :: _, 0 => some x
 | _ :: xs, n + 1 => nth xs n
def Zen {α : Type} : List α → Nat → α → List α
 | [], _, _ => []
 | _ :: xs, 0, v => v :: xs
 | x :: xs, n + 1, v => x :: Zen xs n v
def Zah {α : Type} : List α → Nat → List α → List α
 | cs, _, [] => cs
 | cs, o, v :: vs => Zah (Zen cs o v) (o + 1) vs
def fzl (f : V → Option D) : List V → Option (List D)
 | [] => some []
 | v :: vs => match f v, fzl f vs with | some x, some l => some (x :: l) | _, _ => none
def fz (H : Zk) : Nat → V → Option D
 | 0, _ => none
 | n + 1, v => match v with
  | .d x => some x
  | .sl b sz => match nth H b with
   | some (.arr sz' xs) => bif Nat.beq sz sz' then some (.list false xs) else none
   | _ => none
  | .slp b sz o len => match nth H b with
   | some (.arr sz' xs) => bif Nat.beq sz sz' then some (.list false ((xs.drop o).take len)) else none
   | _ => none
  | .nilsl _ => some (.list true [])
  | .agg cs => match fzl (fz H n) cs with | some l => some (.agg l) | none => none
  | .fn f caps => match fzl (fz H n) caps with | some l => some (.fn f l) | none => none
  | .ptr b o => match nth H b with
   | some (.cells cs) => match fzl (fz H n) (cs.drop o) with | some l => some (.rptr l) | none => none
   | _ => none
  | _ => none
def fzs (H : Zk) (l : List V) : Option (List D) := fzl (fz H 6) l
def frl (f : V → Option (D × List Nat)) : List V → Option (List D × List Nat)
 | [] => some ([], [])
 | v :: vs => match f v, frl f vs with | some (x, k), some (l, ks) => some (x :: l, k ++ ks) | _, _ => none
def fr (H : Zk) : Nat → V → Option (D × List Nat)
 | 0, _ => none
 | n + 1, v => match v with
  | .d x => match x with
   | .tup ts => bif ZpX ts then some (.tup ts, []) else none
   | x => bif x.esc then some (x, []) else none
  | .sl b sz => match nth H b with
   | some (.arr sz' xs) => bif Nat.beq sz sz' then some (.list true xs, [b]) else none
   | _ => none
  | .slp b sz o len => match nth H b with
   | some (.arr sz' xs) => bif Nat.beq sz sz' then some (.list true ((xs.drop o).take len), [b]) else none
   | _ => none
  | .nilsl _ => some (.list true [], [])
  | .agg cs => match frl (fr H n) cs with | some (l, ks) => bif D.escs l then some (.agg l, ks) else none | none => none
  | .tup cs => match frl (fr H n) cs with | some (l, ks) => some (.tup l, ks) | none => none
  | _ => none
def idx : List Nat → Nat → Nat → Option Nat
 | [], _, _ => none
 | a :: l, b, i => bif Nat.beq a b then some i else idx l b (i + 1)
mutual
def ZjZ (ρ : Nat → Option Nat) : V → V
 | .d x => .d x
 | .bad => .bad
 | .ptr b o => match ρ b with | some j => .ptr j o | none => .bad
 | .eptr b sz i k => match ρ b with | some j => .eptr j sz i k | none => .bad
 | .sl b sz => match ρ b with | some j => .sl j sz | none => .bad
 | .slp b sz o len => match ρ b with | some j => .slp j sz o len | none => .bad
 | .nilsl sz => .nilsl sz
 | .agg cs => .agg (Zgm ρ cs)
 | .tup cs => .tup (Zgm ρ cs)
 | .fn f caps => .fn f (Zgm ρ caps)
 | .mp b => match ρ b with | some j => .mp j | none => .bad
def Zgm (ρ : Nat → Option Nat) : List V → List V
 | [] => []
 | v :: vs => ZjZ ρ v :: Zgm ρ vs
end
def Zgc (ρ : Nat → Option Nat) : Blk → Blk
 | .cells cs => .cells (Zgm ρ cs)
 | b => b
mutual
def ZxF : V → List Nat
 | .ptr b _ => [b]
 | .eptr b _ _ _ => [b]
 | .sl b _ => [b]
 | .slp b _ _ _ => [b]
 | .mp b => [b]
 | .agg cs => Zgq cs
 | .tup cs => Zgq cs
 | .fn _ caps => Zgq caps
 | _ => []
def Zgq : List V → List Nat
 | [] => []
 | v :: vs => ZxF v ++ Zgq vs
end
def Zqz (H : Zk) (b : Nat) : List Nat := match nth H b with | some (.cells cs) => Zgq cs | _ => []
def Z5 (H : Zk) (b : Nat) : Bool := match nth H b with | some .dead => false | some _ => true | none => false
def Zg1 (l : List Nat) (b : Nat) : Bool := match l with | [] => false | a :: l => bif Nat.beq a b then true else Zg1 l b
def ZeL (H : Zk) : List Nat → List Nat → List Nat
 | l, [] => l
 | l, b :: bs => bif Zg1 l b || !(Z5 H b) then ZeL H l bs else ZeL H (l ++ [b]) bs
def Zil (H : Zk) : Nat → Nat → List Nat → List Nat
 | 0, _, l => l
 | n + 1, i, l => match nth l i with
  | some b => Zil H n (i + 1) (ZeL H l (Zqz H b))
  | none => l
def Zj5 : Nat → List Nat
 | 0 => []
 | n + 1 => Zj5 n ++ [n]
def Zj8 (H : Zk) (k : Nat) (vs : List V) : List Nat :=
 Zil H (H.length + 1) 0 (ZeL H (Zj5 k) (Zgq vs))
def Zjo : List Nat → Bool
 | [] => true
 | a :: l => !(Zg1 l a) && Zjo l
def pick (H : Zk) (ρ : Nat → Option Nat) : List Nat → Zk
 | [] => []
 | b :: bs => (match nth H b with | some blk => Zgc ρ blk | none => .dead) :: pick H ρ bs
def ZlX (n : Nat) : List Nat → Bool
 | [] => true
 | a :: l => Nat.blt a n && ZlX n l
def extract (k : Nat) (vs : List V) (H : Zk) : Option (List Nat × List V × Zk) :=
 let L := Zj8 H k vs
 bif Zjo L && ZlX H.length L then some (L, Zgm (fun b => idx L b 0) vs, pick H (fun b => idx L b 0) L) else none
def ZbQ : Nat → List V → List V × List Blk
 | _, [] => ([], [])
 | n, .nilsl sz :: vs => bif Nat.blt 0 sz then (let r := ZbQ (n + 1) vs; (.sl n sz :: r.1, .arr sz [] :: r.2)) else (let r := ZbQ n vs; (.nilsl sz :: r.1, r.2))
 | n, v :: vs => let r := ZbQ n vs; (v :: r.1, r.2)
def Zcr : Nat → Zk → Zk × List Blk
 | _, [] => ([], [])
 | n, .cells cs :: H => let r := ZbQ n cs; let q := Zcr (n + r.2.length) H; (.cells r.1 :: q.1, r.2 ++ q.2)
 | n, b :: H => let q := Zcr n H; (b :: q.1, q.2)
def Zlc (k : Nat) (vs : List V) (H : Zk) : Option (List V × Zk) :=
 match extract k vs H with
 | none => none
 | some (_, vs1, H1) =>
  let r := ZbQ H1.length vs1
  let q := Zcr (H1.length + r.2.length) H1
  match extract k r.1 (q.1 ++ (r.2 ++ q.2)) with
  | none => none
  | some (_, vs2, H2) => some (vs2, H2)
mutual
def eqD : D → D → Option Bool
 | .bool a, .bool b => some (a == b)
 | .int k a, .int k' b => bif k == k' then some (a == b) else none
 | .agg xs, .agg ys => Zmg xs ys
 | _, _ => none
def Zmg : List D → List D → Option Bool
 | [], [] => some true
 | x :: xs, y :: ys => match eqD x y, Zmg xs ys with | some a, some b => some (a && b) | _, _ => none
 | _, _ => none
end
def ZdM : List Bool → List D → Bool
 | [], [] => true
 | true :: ks, .bool _ :: cs => ZdM ks cs
 | false :: ks, .int _ _ :: cs => ZdM ks cs
 | _, _ => false
def Zc2 (ks : List Bool) : D → Bool
 | .agg cs => (match ks with | [_] => false | ks => ZdM ks cs)
 | x => (match ks with | [_] => ZdM ks [x] | _ => false)
def lim : Nat := 1073741824
def ZC {α : Type} (xs : List α) (i : Int) : Option α := bif decide (0 ≤ i) then nth xs i.toNat else none
abbrev Res := Option (V × List (Nat × Blk) × List Blk)
def ZcC (v : V) : Res := some (v, [], [])
def ZuL (op : BinOp) (k : IntKind) (a b : Int) : Option D :=
 match op with
 | .add => some (.int k (k.wrap (a + b)))
 | .sub => some (.int k (k.wrap (a - b)))
 | .mul => some (.int k (k.wrap (a * b)))
 | .quo => bif b == 0 then none else some (.int k (k.wrap (a.tdiv b)))
 | .rem => bif b == 0 then none else some (.int k (a.tmod b))
 | .and => some (.int k (k.wrap (BitVec.ofInt k.bits a &&& BitVec.ofInt k.bits b).toNat))
 | .or => some (.int k (k.wrap (BitVec.ofInt k.bits a ||| BitVec.ofInt k.bits b).toNat))
 | .xor => some (.int k (k.wrap (BitVec.ofInt k.bits a ^^^ BitVec.ofInt k.bits b).toNat))
 | .eql => some (.bool (a == b))
 | .neq => some (.bool (a != b))
 | .lss => some (.bool (decide (a < b)))
 | .leq => some (.bool (decide (a ≤ b)))
 | .gtr => some (.bool (decide (b < a)))
 | .geq => some (.bool (decide (b ≤ a)))
 | _ => none
def shI (op : BinOp) (k : IntKind) (a b : Int) : Option D :=
 bif decide (b < 0) then none else
 match op with
 | .shl => some (.int k (k.wrap (a * 2 ^ (min b.toNat k.bits))))
 | .shr => some (.int k (a.fdiv (2 ^ (min b.toNat k.bits))))
 | _ => none
def ZkC (op : BinOp) (x y : V) : Option D :=
 match op, x, y with
 | .shl, .d (.int k a), .d (.int _ b) => shI .shl k a b
 | .shr, .d (.int k a), .d (.int _ b) => shI .shr k a b
 | op, .d (.int k a), .d (.int k' b) => bif k == k' then ZuL op k a b else none
 | _, _, _ => none
def unE (op : UnOp) (x : V) : Option D :=
 match op, x with
 | .not, .d (.bool b) => some (.bool !b)
 | .neg, .d (.int k n) => some (.int k (k.wrap (0 - n)))
 | _, _ => none
def V.okb : V → Bool
 | .bad => false
 | .tup _ => false
 | .d (.tup _) => false
 | _ => true
def V.flat : V → Bool
 | .bad => false
 | .tup _ => false
 | .agg _ => false
 | .d (.tup _) => false
 | .d (.agg _) => false
 | _ => true
def Zm9 : List V → Bool
 | [] => true
 | v :: vs => v.flat && Zm9 vs
def ZcG (n : Nat) (ag : Bool) (cs : List V) : Option V :=
 bif ag then (bif Nat.beq (cs.take n).length n then some (ZoD (cs.take n)) else none) else cs.head?
def ZcU (H : Zk) (n : Nat) (ag : Bool) (x : V) : Option V :=
 match x with
 | .ptr b o => match nth H b with
  | some (.cells cs) => ZcG n ag (cs.drop o)
  | _ => none
 | .eptr b sz i k => match nth H b with
  | some (.arr sz' xs) => bif Nat.beq sz sz' then
    match nth xs i with
    | some x => ZcG n ag (Zcn (x.cells.drop k))
    | none => none
   else none
  | _ => none
 | .d (.rptr cs) => ZcG n ag (Zcn cs)
 | _ => none
def Zjt (H : Zk) (n : Nat) (x v : V) : Res :=
 match x with
 | .ptr b o => match nth H b with
  | some (.cells cs) => bif Nat.beq v.cells.length n && Nat.ble (o + n) cs.length && v.okb && Zm9 v.cells then some (.bad, [(b, .cells (Zah cs o v.cells))], []) else none
  | _ => none
 | .eptr b sz i k => match nth H b with
  | some (.arr sz' xs) => bif Nat.beq sz sz' then
    match nth xs i, fr H 6 v with
    | some x, some (y, ks) =>
     bif Zg1 ks b then none else
     bif Nat.beq y.cells.length n && Nat.ble (k + n) x.cells.length && (V.d y).okb && (x.isAgg || !y.isAgg) then
      some (.bad, (b, .arr sz (Zen xs i (bif x.isAgg then .agg (Zah x.cells k y.cells) else y))) :: ks.map (fun j => (j, .dead)), [])
     else none
    | _, _ => none
   else none
  | _ => none
 | _ => none
def elems (H : Zk) (x : V) : Option (List D) :=
 match x with
 | .d (.list _ xs) => some xs
 | .sl b sz => match nth H b with | some (.arr sz' xs) => bif Nat.beq sz sz' then some xs else none | _ => none
 | .slp b sz o len => match nth H b with | some (.arr sz' xs) => bif Nat.beq sz sz' then some ((xs.drop o).take len) else none | _ => none
 | .nilsl _ => some []
 | _ => none
def Zid (sz : Nat) (xs : List D) (l : Nat) : Bool := match nth xs l with | some z => Nat.beq z.cells.length sz && (V.d z).okb | none => true
def ZiL (nid : Nat) (H : Zk) (sz : Nat) (x y : V) : Res :=
 match elems H y with
 | none => none
 | some ys =>
  bif Zid sz ys 0 then
   match x with
   | .nilsl _ => bif Nat.ble ys.length lim then some (.sl nid sz, [], [.arr sz ys]) else none
   | .sl b sz' => match nth H b with
    | some (.arr sz'' xs) => bif Nat.beq sz sz' && Nat.beq sz sz'' then
      (bif Nat.ble (xs.length + ys.length) lim then some (.sl nid sz, [(b, .dead)], [.arr sz (xs ++ ys)]) else none)
     else none
    | _ => none
   | .slp b sz' o len => match nth H b with
    | some (.arr sz'' xs) => bif Nat.beq sz sz' && Nat.beq sz sz'' && Nat.ble (o + len + ys.length) xs.length then
      some (.slp b sz o (len + ys.length), [(b, .arr sz (xs.take (o + len) ++ (ys ++ xs.drop (o + len + ys.length))))], [])
     else none
    | _ => none
   | _ => none
  else none
def Zgj (H : Zk) (sz : Nat) (x y : V) : Option V :=
 match x with
 | .nilsl _ => (match elems H y with
  | some ys => bif Zid sz ys 0 && Nat.ble ys.length lim then some (.d (.list true ys)) else none
  | none => none)
 | _ => none
def Zf3 (v : Option V) (dflt : Nat) : Option Nat :=
 match v with
 | none => some dflt
 | some (.d (.int _ n)) => bif decide (0 ≤ n) then some n.toNat else none
 | _ => none
def Zgn (H : Zk) (sz : Nat) (x : V) (lo hi mx : Option V) : Option V :=
 match elems H x with
 | none => none
 | some xs =>
  match Zf3 lo 0, Zf3 hi xs.length with
  | some l, some h =>
   bif Nat.ble l h && Nat.ble h xs.length then
    match mx with
    | none => match x with
     | .d (.list own _) => bif Nat.beq l 0 || Zid sz xs l then some (.d (.list own ((xs.drop l).take (h - l)))) else none
     | .sl b sz' => bif Nat.beq sz sz' then some (.slp b sz l (h - l)) else none
     | .slp b sz' o _ => bif Nat.beq sz sz' then some (.slp b sz (o + l) (h - l)) else none
     | .nilsl _ => some (.nilsl sz)
     | _ => none
    | some m => match Zf3 (some m) 0 with
     | some m => bif Nat.beq m l && Nat.beq m h then some (.nilsl sz) else none
     | none => none
   else none
  | _, _ => none
def Zgp (H : Zk) (sz : Nat) (x i : V) : Option V :=
 match i with
 | .d (.int _ i) =>
  match x with
  | .d (.list _ xs) => match ZC xs i with | some x => bif Nat.beq x.cells.length sz && (V.d x).okb then some (.d (.rptr x.cells)) else none | none => none
  | .sl b sz' => match nth H b with
   | some (.arr sz'' xs) => bif Nat.beq sz sz' && Nat.beq sz sz'' then (match ZC xs i with | some _ => some (.eptr b sz i.toNat 0) | none => none) else none
   | _ => none
  | .slp b sz' o len => match nth H b with
   | some (.arr sz'' xs) => bif Nat.beq sz sz' && Nat.beq sz sz'' then (match ZC ((xs.drop o).take len) i with | some _ => some (.eptr b sz (o + i.toNat) 0) | none => none) else none
   | _ => none
  | _ => none
 | _ => none
def Zjz (len sz : Nat) (ag : Bool) (x i : V) : Option V :=
 match i with
 | .d (.int _ i) => bif x.isAggV && (decide (0 ≤ i) && decide (i < len)) then ZcG sz ag (x.cells.drop (i.toNat * sz)) else none
 | _ => none
def ZhQ (x i : V) : Option V :=
 match x, i with
 | .d (.str s), .d (.int _ i) => bif decide (0 ≤ i) then (match s[i.toNat]? with | some b => some (.d (.int .u8 b.toNat)) | none => none) else none
 | _, _ => none
def ZhC (_ : Zk) (off : Nat) (x : V) : Option V :=
 match x with
 | .ptr b o => some (.ptr b (o + off))
 | .eptr b sz i k => some (.eptr b sz i (k + off))
 | .d (.rptr cs) => some (.d (.rptr (cs.drop off)))
 | _ => none
def Zpm (_ : Zk) (x : V) : Option V :=
 match x with
 | .d (.fn f caps) => some (.d (.fn f caps))
 | .fn f caps => some (.fn f caps)
 | .d (.iface t v) => some (.d (.iface t v))
 | .d (.rptr cs) => some (.d (.rptr cs))
 | .ptr b o => some (.ptr b o)
 | .eptr b sz i k => some (.eptr b sz i k)
 | _ => none
def Zfe (H : Zk) (len sz : Nat) (x i : V) : Option V :=
 match i with
 | .d (.int _ i) => bif decide (0 ≤ i) && decide (i < len) then ZhC H (i.toNat * sz) x else none
 | _ => none
def Zn6 (H : Zk) (x : V) : Option D :=
 match elems H x with | some xs => some (.int .i64 xs.length) | none => none
def mxE (isMax : Bool) : List V → Option D
 | [] => none
 | .d (.int k a) :: r => go k a r
 | _ => none
where
 go (k : IntKind) (a : Int) : List V → Option D
  | [] => some (.int k a)
  | .d (.int _ b) :: r => go k (bif isMax then (bif decide (a < b) then b else a) else (bif decide (b < a) then b else a)) r
  | _ => none
def Znb (z : List V) : List (Nat × Nat × V) → Option (List V)
 | [] => some z
 | (off, size, v) :: r => bif v.okb && Nat.beq v.cells.length size && Nat.ble (off + size) z.length then Znb (Zah z off v.cells) r else none
def Zmp (H : Zk) (sz : Nat) (xs : List D) : List (Nat × V) → Option (List D × List Nat)
 | [] => some (xs, [])
 | (i, v) :: r => match fr H 6 v with
  | some (y, ks) => (bif Nat.blt i xs.length && Nat.beq y.cells.length sz && (V.d y).okb then match Zmp H sz (Zen xs i y) r with | some (l, k2) => some (l, ks ++ k2) | none => none else none)
  | none => none
def Zg4 (es : List (D × D)) (k : D) : Option (Option D) :=
 match es with
 | [] => some none
 | (a, v) :: r => match eqD k a with | some true => some (some v) | some false => Zg4 r k | none => none
def Zr3 (es : List (D × D)) (k z : D) : Option D := match Zg4 es k with | some (some y) => some y | some none => some z | none => none
def ZgZ (es : List (D × D)) (k v : D) : Option (List (D × D)) :=
 match es with
 | [] => some [(k, v)]
 | (a, u) :: r => match eqD k a with
  | some true => some ((a, v) :: r)
  | some false => (match ZgZ r k v with | some l => some ((a, u) :: l) | none => none)
  | none => none
def ZfZ : D → Bool
 | .bool _ => true
 | .int _ _ => true
 | _ => false
def Zkj (H : Zk) (ks : List Bool) (m k v : V) : Res :=
 match m, k, v with
 | .mp b, .d k, .d y => (match nth H b with
  | some (.mp es) => (match Zc2 ks k && ZfZ y with | true => (match ZgZ es k y with | some l => some (.bad, [(b, .mp l)], []) | none => none) | false => none)
  | _ => none)
 | _, _, _ => none
def ZiX (H : Zk) (ks : List Bool) (z : D) (m k : V) : Option D :=
 match m, k with
 | .mp b, .d k => (match nth H b with
  | some (.mp es) => (match Zc2 ks k with | true => Zr3 es k z | false => none)
  | _ => none)
 | _, _ => none
def Zrj : List D → Option (List (Int × Int))
 | [] => some []
 | .agg [.int .i64 a, .int .i64 b] :: r => match Zrj r with | some l => some ((a, b) :: l) | none => none
 | _ => none
def pc (zs : List (Int × Int)) (j : Nat) : Int × Int := zs[j]?.getD (0, 0)
def Zgt (zs : List (Int × Int)) (p : Int) : Nat → Int
 | 0 => -1
 | k + 1 => bif ((pc zs k).1 != p || decide (p < 0)) then Zgt zs p k else (k : Int)
def Ziu (id : Nat) (l : List D) : Option D :=
 match id, l with
 | 0, [.agg [_, _, .list _ xs], .int .i64 p] => (match Zrj xs with | some zs => bif Nat.ble zs.length lim then some (.int .i64 (Zgt zs p zs.length)) else none | none => none)
 | _, _ => none
abbrev Za9 := Nat → List V → Zk → Option (V × Zk)
def Ze1 (Γ : Ctx) (cf : Za9) (nid : Nat) (H : Zk) (f : Nat) (args : List V) : Res :=
 match Γ.mode f with
 | 0 => match fzs H args with
  | some l => match cf f (Zcn l) [] with
   | some (v, H1) => match fr H1 6 v with | some (x, _) => (match x with | .tup ts => some (.tup (Zcn ts), [], []) | x => some (.d x, [], [])) | none => none
   | none => none
  | none => none
 | 1 => match fzs H args with
  | some l => match cf f (Zcn l) [] with
   | some (v, H1) => bif ZmQ v && Zje H1 then let up := fun j => some (nid + j); some (ZjZ up v, [], H1.map (Zgc up)) else none
   | none => none
  | none => none
 | _ =>
  match extract 0 args H with
  | none => none
  | some (L, args', H0) => match cf f args' H0 with
   | some (v, H1) => bif Zji v && ZgV H1 then
     let back := fun j => match nth L j with | some b => some b | none => some (nid + (j - L.length))
     some (ZjZ back v, L.zip (H1.map (Zgc back)), (H1.drop L.length).map (Zgc back)) else none
   | none => none
def ZdC (H : Zk) : List (Nat × Blk) → Zk
 | [] => H
 | (b, blk) :: r => ZdC (Zen H b blk) r
def ZrF (e : Env) (H H' : Zk) : List Opd → Bool
 | [] => true
 | x :: xs => (match x.val e with
  | .ptr b o => (match ZcU H 1 false (.ptr b o), ZcU H' 1 false (.ptr b o) with | some (.mp i), some (.mp j) => Nat.beq i j | _, _ => false)
  | _ => false) && ZrF e H H' xs
def ZhG : V → Option (Nat × List V)
 | .fn f caps => some (f, caps)
 | .d (.fn f caps) => some (f, Zcn caps)
 | _ => none
def ZeV (Γ : Ctx) (v : V) (f : Nat) (caps : List V) : Bool := v.isD && (!(Nat.ble (Γ.mode f) 1) && !caps.isEmpty)
def Zjl (tab : List (Nat × Nat)) (t : Nat) : Option Nat :=
 match tab with
 | [] => none
 | (a, f) :: r => bif Nat.beq a t then some f else Zjl r t
def opE (Γ : Ctx) (cf : Za9) (e : Env) (nid : Nat) (H : Zk) : O → Res
 | .mov x => ZcC (x.val e)
 | .pick c a b => match c.val e with | .d (.bool t) => ZcC (bif t then a.val e else b.val e) | _ => none
 | .alloc z => some (.ptr nid 0, [], [.cells z.cells])
 | .box x => bif (x.val e).okb then some (.ptr nid 0, [], [.cells (x.val e).cells]) else none
 | .build z ps => match Znb z (ps.map fun (o, s, x) => (o, s, x.val e)) with | some cs => ZcC (ZoD cs) | none => none
 | .bslice sz z len ps => bif Nat.beq len 0 then ZcC (.nilsl sz) else match Zmp H sz (List.replicate len (match z with | [x] => x | z => .agg z)) (ps.map fun (i, x) => (i, x.val e)) with
  | some (xs, ks) => some (.sl nid sz, ks.map (fun j => (j, .dead)), [.arr sz xs])
  | none => none
 | .load n ag x => match ZcU H n ag (x.val e) with | some v => ZcC v | none => none
 | .store n x v => Zjt H n (x.val e) (v.val e)
 | .nilck x => match Zpm H (x.val e) with | some v => ZcC v | none => none
 | .bin op x y => match ZkC op (x.val e) (y.val e) with | some r => ZcC (.d r) | none => none
 | .eqv ks neg x y => match x.val e, y.val e with
  | .d a, .d b => (match Zc2 ks a with | true => (match eqD a b with | some r => ZcC (.d (.bool (bif neg then !r else r))) | none => none) | false => none)
  | _, _ => none
 | .un op x => match unE op (x.val e) with | some r => ZcC (.d r) | none => none
 | .conv k x => match x.val e with | .d (.int _ n) => ZcC (.d (.int k (k.wrap n))) | _ => none
 | .mkfn f caps => ZcC (match caps with | [] => .d (.fn f []) | caps => .fn f (vals e caps))
 | .mkslice sz z n c => match n.val e, c.val e with
  | .d (.int _ n), .d (.int _ c) => bif decide (0 ≤ n) && decide (n ≤ lim) && decide (n == c) then
    some (.sl nid sz, [], [.arr sz (List.replicate n.toNat (match z with | [x] => x | z => .agg z))]) else none
  | _, _ => none
 | .slice sz x lo hi mx => match Zgn H sz (x.val e) (lo.map (·.val e)) (hi.map (·.val e)) (mx.map (·.val e)) with | some v => ZcC v | none => none
 | .faddr off x => match ZhC H off (x.val e) with | some v => ZcC v | none => none
 | .field off n ag x => match x.val e with
  | .d (.agg cs) => (match ZcG n ag (Zcn (cs.drop off)) with | some v => ZcC v | none => none)
  | .agg cs => (match ZcG n ag (cs.drop off) with | some v => ZcC v | none => none)
  | _ => none
 | .iaddr sz x i => match Zgp H sz (x.val e) (i.val e) with | some v => ZcC v | none => none
 | .index len sz ag x i => match Zjz len sz ag (x.val e) (i.val e) with | some v => ZcC v | none => none
 | .indexS x i => match ZhQ (x.val e) (i.val e) with | some v => ZcC v | none => none
 | .iaddrA len sz x i => match Zfe H len sz (x.val e) (i.val e) with | some v => ZcC v | none => none
 | .len x => match Zn6 H (x.val e) with | some r => ZcC (.d r) | none => none
 | .append sz x y => ZiL nid H sz (x.val e) (y.val e)
 | .appendD sz x y => match Zgj H sz (x.val e) (y.val e) with | some v => ZcC v | none => none
 | .mx b xs => match mxE b (vals e xs) with | some r => ZcC (.d r) | none => none
 | .extract x i => match x.val e with
  | .tup vs => (match nth vs i with | some v => ZcC v | none => none)
  | .d (.tup vs) => (match nth vs i with | some v => ZcC (.d v) | none => none)
  | _ => none
 | .mkif t x => match fr H 6 (x.val e) with | some (y, []) => ZcC (.d (.iface t y)) | _ => none
 | .call f args => Ze1 Γ cf nid H f (vals e args)
 | .callv x args => match ZhG (x.val e) with
  | some (f, caps) => (match ZeV Γ (x.val e) f caps with | true => none | false => Ze1 Γ cf nid H f (vals e args ++ caps))
  | none => none
 | .invoke tab x args => match x.val e with
  | .d (.iface t y) => (match Zjl tab t with | some f => Ze1 Γ cf nid H f (.d y :: vals e args) | none => none)
  | _ => none
 | .mkmap => some (.mp nid, [], [.mp []])
 | .mapset ks m k v => Zkj H ks (m.val e) (k.val e) (v.val e)
 | .mapget ks z m k => match ZiX H ks z (m.val e) (k.val e) with | some r => ZcC (.d r) | none => none
 | .panic => none
 | .callk f args _ => Ze1 Γ cf nid H f (vals e args)
 | .spec id args => match H, Zii (vals e args) with | [], some l => (match Ziu id l with | some r => ZcC (.d r) | none => none) | _, _ => none
 | .nilq x => match elems H (x.val e) with | some xs => (match Nat.blt 0 xs.length with | true => ZcC (.d (.bool false)) | false => none) | none => none
def Zlx (e : Env) (dst : Option Nat) (v : V) : Env := match dst with | some i => e.set i v | none => e
def ZeE (e : Env) (g : Option (Nat × Bool)) : Option Bool :=
 match g with
 | none => some true
 | some (s, b) => match e s with | .d (.bool t) => some (t == b) | .d (.tup []) => some false | _ => none
def Zgs (Γ : Ctx) (cf : Za9) : List Op1 → Env → Zk → Option (Env × Zk)
 | [], e, H => some (e, H)
 | o :: r, e, H => match ZeE e o.guard with
  | some true => (match opE Γ cf e H.length H o.op with
   | some (v, up, nw) => Zgs Γ cf r (Zlx e o.dst v) (ZdC H up ++ nw)
   | none => none)
  | some false => Zgs Γ cf r (Zlx e o.dst (.d (.tup []))) H
  | none => none
def ZsQ (H : Zk) (b : Nat) : Nat → Zk
 | 0 => H
 | n + 1 => ZsQ (Zen H b .dead) (b + 1) n
def ZeU (H : Zk) (pos : List (Nat × Nat)) : List Nat → Zk
 | [] => H
 | i :: r => match nth pos i with | some (b, n) => ZeU (ZsQ H b n) pos r | none => ZeU H pos r
def ZpM : List (Nat × Blk) → Bool
 | [] => true
 | (_, .dead) :: _ => false
 | _ :: r => ZpM r
def Zmj (eff : Nat) (up : List (Nat × Blk)) (nw : List Blk) : Bool := match eff with | 0 => up.isEmpty | 1 => up.isEmpty && nw.isEmpty | 3 => ZpM up && nw.isEmpty | _ => true
def ZzB (e : Env) (H : Zk) (up : List (Nat × Blk)) : O → Bool
 | .callk _ _ chk => ZrF e H (ZdC H up) chk
 | _ => true
def ZlE (e : Env) (H : Zk) (o : Op1) (up : List (Nat × Blk)) (nw : List Blk) : Bool := Zmj o.eff up nw && ZzB e H up o.op
def Zey (Γ : Ctx) (cf : Za9) (pos : List (Nat × Nat)) : List Op1 → Env → Zk → Option (Env × Zk)
 | [], e, H => some (e, H)
 | o :: r, e, H => match ZeE e o.guard with
  | some true => (match opE Γ cf e H.length (ZeU H pos o.mask) o.op with
   | some (v, up, nw) => bif ZlE e H o up nw then Zey Γ cf (pos ++ [(H.length, nw.length)]) r (Zlx e o.dst v) (ZdC H up ++ nw) else none
   | _ => none)
  | some false => Zey Γ cf (pos ++ [(H.length, 0)]) r (Zlx e o.dst (.d (.tup []))) H
  | none => none
inductive Lp where
 | again (vs : List V) (H : Zk)
 | done (x : Ex) (vs : List V) (H : Zk)
abbrev St := Env × Zk
def ZcJ (F : List V → Zk → Option Lp) : Nat → List V → Zk → Option (Ex × List V × Zk)
 | 0, _, _ => none
 | n + 1, vs, H => match F vs H with
  | some (.again vs H) => ZcJ F n vs H
  | some (.done x vs H) => some (x, vs, H)
  | none => none
def ZdN (k : Nat) (live outs : List Nat) (r : Option (Ex × Env × Zk)) : Option Lp :=
 match r with
 | some (.normal, e, H) => (match Zlc k (live.map e) H with | some (vs, H) => some (.again vs H) | none => none)
 | some (x, e, H) => (match extract k (outs.map e) H with | some (_, vs, H) => some (.done x vs H) | none => none)
 | none => none
def Zae (Γ : Ctx) (cf : Za9) (It : (List V → Zk → Option Lp) → List V → Zk → Option (Ex × List V × Zk)) (k : Nat) : C → Env → Zk → Option (Ex × Env × Zk)
 | .skip, e, H => some (.normal, e, H)
 | .ret, e, H => some (.ret, e, H)
 | .exit id, e, H => some (.exit id, e, H)
 | .seq a b, e, H => match Zae Γ cf It k a e H with
  | some (.normal, e, H) => Zae Γ cf It k b e H
  | r => r
 | .cond x a b, e, H => match x.val e with
  | .d (.bool t) => (match t with | true => Zae Γ cf It k a e H | false => Zae Γ cf It k b e H)
  | _ => none
 | .block id a, e, H => match Zae Γ cf It k a e H with
  | some (.exit j, e, H) => bif Nat.beq j id then some (.normal, e, H) else some (.exit j, e, H)
  | r => r
 | .loop live outs a, e, H => match Zlc k (live.map e) H with
  | some (vs, H) => (match It (fun vs H => ZdN k live outs (Zae Γ cf It k a (Zdy live vs) H)) vs H with
   | some (x, vs, H) => some (x, Zdy outs vs, H)
   | none => none)
  | none => none
 | .ops l, e, H => match Zgs Γ cf l e H with | some (e, H) => some (.normal, e, H) | none => none
 | .draw l, e, H => match Zey Γ cf [] l e H with | some (e, H) => some (.normal, e, H) | none => none
def ZdU (i : Nat) : List V → Env
 | [] => env0
 | v :: vs => (ZdU (i + 1) vs).set i v
def Zi0 (e : Env) (H : Zk) : List (Nat × Option (Nat × Bool)) → Option (List V)
 | [] => some []
 | (i, none) :: r => match Zi0 e H r with | some l => some (e i :: l) | none => none
 | (i, some (n, ag)) :: r => match ZcU H n ag (e i), Zi0 e H r with | some v, some l => some (v :: l) | _, _ => none
def ZfV : List V → V
 | [v] => v
 | l => Zqf l
def Zib (Γ : Ctx) (cf : Za9) (It : (List V → Zk → Option Lp) → List V → Zk → Option (Ex × List V × Zk)) (f : Nat) (args : List V) (H : Zk) : Option (V × Zk) :=
 match Γ.code f with
 | none => none
 | some fn =>
  bif Nat.beq args.length fn.nargs then
   match Zae Γ cf It H.length fn.body (ZdU 0 args) H with
   | some (.exit _, _, _) => none
   | some (_, e, H1) => (match Zi0 e H1 fn.res with
    | some l => (match extract H.length [ZfV l] H1 with | some (_, [v], H2) => some (v, H2) | _ => none)
    | none => none)
   | none => none
  else none
def evN (Γ : Ctx) : Nat → Za9
 | 0 => fun _ _ _ => none
 | n + 1 => Zib Γ (evN Γ n) (fun F => ZcJ F n)
end Go.Proofs.YtnmbdjkbaihicaaDoorE
