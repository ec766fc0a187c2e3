/- The deep data and the small machine over it: definitions alone (no program in sight). -/
import Derived.Calls
import Derived.Orders
namespace Go.Proofs.YtljgncbdagmeeaaDoorE
open Go

/-! ## Data -/
inductive D where
  | bool (b : Bool) | int (k : IntKind) (n : Int) | str (s : ByteArray)
  | list (own : Bool) (xs : List D) | agg (cs : List D) | tup (vs : List D)
  | fn (f : Nat) (caps : List D) | nilfn
  | rptr (cs : List D) | nilp
  | iface (t : Nat) (v : D) | nilI

inductive V where
  | d (x : D) | bad
  | ptr (b o : Nat) | eptr (b sz i k : Nat)
  | sl (b sz : Nat) | slp (b sz o len : Nat) | nilsl (sz : Nat)
  | agg (cs : List V) | tup (vs : List V)
  | fn (f : Nat) (caps : List V)
  | mp (b : Nat)

inductive Blk where
  | dead | cells (cs : List V) | arr (sz : Nat) (xs : List D)
  | mp (es : List (D × D))

abbrev Heap := List Blk
abbrev Env := Nat → V

def Env.set (e : Env) (i : Nat) (v : V) : Env := fun j => bif Nat.beq i j then v else e j
def env0 : Env := fun _ => .bad
def envOf : List Nat → List V → Env
  | i :: is, v :: vs => (envOf is vs).set i v
  | _, _ => env0

def D.isAgg : D → Bool
  | .agg _ => true
  | _ => false

mutual
/-- may it outlive the call? (A tuple is no value of its own.) -/
def D.esc : D → Bool
  | .list own _ => own
  | .agg cs => D.escs cs
  | .tup _ => false
  | .iface _ v => v.esc
  | .fn _ caps => caps.isEmpty
  | .rptr _ => false
  | _ => true
def D.escs : List D → Bool
  | [] => true
  | c :: cs => c.esc && (!c.isAgg && D.escs cs)
end
def escT : List D → Bool
  | [] => true
  | c :: cs => c.esc && escT cs

mutual
/-- no closure in it that holds anything -/
def D.nofn : D → Bool
  | .fn _ caps => caps.isEmpty
  | .agg cs => D.nofns cs
  | .tup cs => D.nofns cs
  | .rptr cs => D.nofns cs
  | .iface _ v => v.nofn
  | _ => true
def D.nofns : List D → Bool
  | [] => true
  | c :: cs => c.nofn && D.nofns cs
end

mutual
def escV : V → Bool
  | .d (.tup ts) => escT ts
  | .d x => x.esc
  | .agg cs => escVs cs
  | .tup cs => escVs cs
  | .fn _ cs => escVs cs
  | _ => true
def escVs : List V → Bool
  | [] => true
  | v :: vs => escV v && escVs vs
end
mutual
def nofnV : V → Bool
  | .d x => x.nofn
  | .agg cs => nofnVs cs
  | .tup cs => nofnVs cs
  | .fn _ cs => nofnVs cs
  | _ => true
def nofnVs : List V → Bool
  | [] => true
  | v :: vs => nofnV v && nofnVs vs
end
def escBs : List Blk → Bool
  | [] => true
  | .cells cs :: r => escVs cs && escBs r
  | _ :: r => escBs r
def nofnBs : List Blk → Bool
  | [] => true
  | .cells cs :: r => nofnVs cs && nofnBs r
  | _ :: r => nofnBs r
def V.isAggV : V → Bool
  | .d (.agg _) => true
  | .agg _ => true
  | _ => false
def V.isD : V → Bool
  | .d _ => true
  | _ => false

def D.cells : D → List D
  | .agg cs => cs
  | x => [x]

/-! ## The code -/
inductive Opd where
  | t (i : Nat) | c (v : V)

inductive O where
  | mov (x : Opd)
  | pick (c a b : Opd)
  | alloc (z : V)
  | box (x : Opd)
  | build (z : List V) (ps : List (Nat × Nat × Opd))
  | bslice (sz : Nat) (z : List D) (len : Nat) (ps : List (Nat × Opd))
  | load (n : Nat) (ag : Bool) (x : Opd)
  | store (n : Nat) (x v : Opd)
  | nilck (x : Opd)
  | bin (op : BinOp) (x y : Opd)
  | eqv (ks : List Bool) (neg : Bool) (x y : Opd)
  | un (op : UnOp) (x : Opd)
  | conv (k : IntKind) (x : Opd)
  | mkfn (f : Nat) (caps : List Opd)
  | mkslice (sz : Nat) (z : List D) (n c : Opd)
  | slice (sz : Nat) (x : Opd) (lo hi mx : Option Opd)
  | faddr (off : Nat) (x : Opd)
  | field (off n : Nat) (ag : Bool) (x : Opd)
  | iaddr (sz : Nat) (x i : Opd)
  | index (len sz : Nat) (ag : Bool) (x i : Opd)
  | indexS (x i : Opd)
  | iaddrA (len sz : Nat) (x i : Opd)
  | len (x : Opd)
  | append (sz : Nat) (x y : Opd)
  | appendD (sz : Nat) (x y : Opd)
  | mx (isMax : Bool) (xs : List Opd)
  | extract (x : Opd) (i : Nat)
  | mkif (t : Nat) (x : Opd)
  | call (f : Nat) (args : List Opd)
  | callv (x : Opd) (args : List Opd)
  | invoke (tab : List (Nat × Nat)) (x : Opd) (args : List Opd)
  | mkmap
  | mapset (ks : List Bool) (m k v : Opd)
  | mapget (ks : List Bool) (z : D) (m k : Opd)
  | panic
  | callk (f : Nat) (args : List Opd) (chk : List Opd)
  | nilq (x : Opd)
  | spec (id : Nat) (args : List Opd)

/-- one operation: its slot, what it does, its guard, and (in a region that draws its order) the operations whose new blocks it does not see, and what it turns (0: nothing; 3: contents alone; 4: anything) -/
structure Op1 where
  dst : Option Nat
  op : O
  guard : Option (Nat × Bool)
  mask : List Nat
  eff : Nat

inductive C where
  | skip | ret | exit (id : Nat)
  | seq (a b : C)
  | cond (x : Opd) (a b : C)
  | block (id : Nat) (a : C)
  | loop (live outs : List Nat) (a : C)
  | ops (l : List Op1)
  | draw (l : List Op1)

inductive Ex where
  | normal | exit (id : Nat) | ret

structure FnI where
  nargs : Nat
  body : C
  res : List (Nat × Option (Nat × Bool))

/-- what is known of the program: its functions, and how each is called (0: on data; 1: on data, its answer is new memory; 2: on memory) -/
structure Ctx where
  code : Nat → Option FnI
  mode : Nat → Nat

/-! short names, for long texts -/
abbrev oA (op : O) : Op1 := ⟨none, op, none, [], 0⟩
abbrev oB (d : Nat) (op : O) : Op1 := ⟨some d, op, none, [], 0⟩
abbrev oG (d : Nat) (op : O) (s : Nat) (b : Bool) : Op1 := ⟨some d, op, some (s, b), [], 0⟩
abbrev oM (d : Nat) (op : O) (m : List Nat) : Op1 := ⟨some d, op, none, m, 0⟩
abbrev iN (n : Int) : Opd := .c (.d (.int .i64 n))
abbrev bT : Opd := .c (.d (.bool true))
abbrev bF : Opd := .c (.d (.bool false))

/-! ## Words -/
def Opd.val (e : Env) : Opd → V
  | .t i => e i
  | .c v => v

def vals (e : Env) : List Opd → List V
  | [] => []
  | x :: xs => x.val e :: vals e xs

def allD : List V → Option (List D)
  | [] => some []
  | .d x :: r => match allD r with | some l => some (x :: l) | none => none
  | _ :: _ => none

def mkAgg (cs : List V) : V := match allD cs with | some l => .d (.agg l) | none => .agg cs
def mkTup (cs : List V) : V := match allD cs with | some l => .d (.tup l) | none => .tup cs

def mapd : List D → List V
  | [] => []
  | x :: xs => .d x :: mapd xs

def V.cells : V → List V
  | .d (.agg cs) => mapd cs
  | .agg cs => cs
  | v => [v]

def nth {α : Type} : List α → Nat → Option α
  | [], _ => none
  | x :: _, 0 => some x
  | _ :: xs, n + 1 => nth xs n

def setAt {α : Type} : List α → Nat → α → List α
  | [], _, _ => []
  | _ :: xs, 0, v => v :: xs
  | x :: xs, n + 1, v => x :: setAt xs n v

def setRange {α : Type} : List α → Nat → List α → List α
  | cs, _, [] => cs
  | cs, o, v :: vs => setRange (setAt cs o v) (o + 1) vs

/-- A snapshot: what lies there now, as data. -/
def fzl (f : V → Option D) : List V → Option (List D)
  | [] => some []
  | v :: vs => match f v, fzl f vs with | some x, some l => some (x :: l) | _, _ => none

def fz (H : Heap) : Nat → V → Option D
  | 0, _ => none
  | n + 1, v => match v with
    | .d x => some x
    | .sl b sz => match nth H b with
      | some (.arr sz' xs) => bif Nat.beq sz sz' then some (.list false xs) else none
      | _ => none
    | .slp b sz o len => match nth H b with
      | some (.arr sz' xs) => bif Nat.beq sz sz' then some (.list false ((xs.drop o).take len)) else none
      | _ => none
    | .nilsl _ => some (.list true [])
    | .agg cs => match fzl (fz H n) cs with | some l => some (.agg l) | none => none
    | .fn f caps => match fzl (fz H n) caps with | some l => some (.fn f l) | none => none
    | .ptr b o => match nth H b with
      | some (.cells cs) => match fzl (fz H n) (cs.drop o) with | some l => some (.rptr l) | none => none
      | _ => none
    | _ => none

def fzs (H : Heap) (l : List V) : Option (List D) := fzl (fz H 6) l

/-- For good: as data that nobody writes any more; the blocks that die by it. -/
def frl (f : V → Option (D × List Nat)) : List V → Option (List D × List Nat)
  | [] => some ([], [])
  | v :: vs => match f v, frl f vs with | some (x, k), some (l, ks) => some (x :: l, k ++ ks) | _, _ => none

def fr (H : Heap) : Nat → V → Option (D × List Nat)
  | 0, _ => none
  | n + 1, v => match v with
    | .d x => match x with
      | .tup ts => bif escT ts then some (.tup ts, []) else none
      | x => bif x.esc then some (x, []) else none
    | .sl b sz => match nth H b with
      | some (.arr sz' xs) => bif Nat.beq sz sz' then some (.list true xs, [b]) else none
      | _ => none
    | .slp b sz o len => match nth H b with
      | some (.arr sz' xs) => bif Nat.beq sz sz' then some (.list true ((xs.drop o).take len), [b]) else none
      | _ => none
    | .nilsl _ => some (.list true [], [])
    | .agg cs => match frl (fr H n) cs with | some (l, ks) => bif D.escs l then some (.agg l, ks) else none | none => none
    | .tup cs => match frl (fr H n) cs with | some (l, ks) => some (.tup l, ks) | none => none
    | _ => none

/-! ### Renaming -/
def idx : List Nat → Nat → Nat → Option Nat
  | [], _, _ => none
  | a :: l, b, i => bif Nat.beq a b then some i else idx l b (i + 1)

mutual
def renV (ρ : Nat → Option Nat) : V → V
  | .d x => .d x
  | .bad => .bad
  | .ptr b o => match ρ b with | some j => .ptr j o | none => .bad
  | .eptr b sz i k => match ρ b with | some j => .eptr j sz i k | none => .bad
  | .sl b sz => match ρ b with | some j => .sl j sz | none => .bad
  | .slp b sz o len => match ρ b with | some j => .slp j sz o len | none => .bad
  | .nilsl sz => .nilsl sz
  | .agg cs => .agg (renVs ρ cs)
  | .tup cs => .tup (renVs ρ cs)
  | .fn f caps => .fn f (renVs ρ caps)
  | .mp b => match ρ b with | some j => .mp j | none => .bad
def renVs (ρ : Nat → Option Nat) : List V → List V
  | [] => []
  | v :: vs => renV ρ v :: renVs ρ vs
end

def renB (ρ : Nat → Option Nat) : Blk → Blk
  | .cells cs => .cells (renVs ρ cs)
  | b => b

mutual
def refsV : V → List Nat
  | .ptr b _ => [b]
  | .eptr b _ _ _ => [b]
  | .sl b _ => [b]
  | .slp b _ _ _ => [b]
  | .mp b => [b]
  | .agg cs => refsVs cs
  | .tup cs => refsVs cs
  | .fn _ caps => refsVs caps
  | _ => []
def refsVs : List V → List Nat
  | [] => []
  | v :: vs => refsV v ++ refsVs vs
end

def refsB (H : Heap) (b : Nat) : List Nat := match nth H b with | some (.cells cs) => refsVs cs | _ => []

def isLive (H : Heap) (b : Nat) : Bool := match nth H b with | some .dead => false | some _ => true | none => false

def elem (l : List Nat) (b : Nat) : Bool := match l with | [] => false | a :: l => bif Nat.beq a b then true else elem l b

def addAll (H : Heap) : List Nat → List Nat → List Nat
  | l, [] => l
  | l, b :: bs => bif elem l b || !(isLive H b) then addAll H l bs else addAll H (l ++ [b]) bs

/-- what can be reached: rounds, breadth first -/
def reach (H : Heap) : Nat → Nat → List Nat → List Nat
  | 0, _, l => l
  | n + 1, i, l => match nth l i with
    | some b => reach H n (i + 1) (addAll H l (refsB H b))
    | none => l

def upTo : Nat → List Nat
  | 0 => []
  | n + 1 => upTo n ++ [n]

def collect (H : Heap) (k : Nat) (vs : List V) : List Nat :=
  reach H (H.length + 1) 0 (addAll H (upTo k) (refsVs vs))

def nodupB : List Nat → Bool
  | [] => true
  | a :: l => !(elem l a) && nodupB l

def pick (H : Heap) (ρ : Nat → Option Nat) : List Nat → Heap
  | [] => []
  | b :: bs => (match nth H b with | some blk => renB ρ blk | none => .dead) :: pick H ρ bs

def ltAll (n : Nat) : List Nat → Bool
  | [] => true
  | a :: l => Nat.blt a n && ltAll n l

/-- The least heap for these values: the first k blocks stay. -/
def extract (k : Nat) (vs : List V) (H : Heap) : Option (List Nat × List V × Heap) :=
  let L := collect H k vs
  bif nodupB L && ltAll H.length L then some (L, renVs (fun b => idx L b 0) vs, pick H (fun b => idx L b 0) L) else none

/-- nil slices become slices of new, empty blocks -/
def denil : Nat → List V → List V × List Blk
  | _, [] => ([], [])
  | n, .nilsl sz :: vs => bif Nat.blt 0 sz then (let r := denil (n + 1) vs; (.sl n sz :: r.1, .arr sz [] :: r.2)) else (let r := denil n vs; (.nilsl sz :: r.1, r.2))
  | n, v :: vs => let r := denil n vs; (v :: r.1, r.2)

def denilB : Nat → Heap → Heap × List Blk
  | _, [] => ([], [])
  | n, .cells cs :: H => let r := denil n cs; let q := denilB (n + r.2.length) H; (.cells r.1 :: q.1, r.2 ++ q.2)
  | n, b :: H => let q := denilB n H; (b :: q.1, q.2)

/-- a loop's head: what lives, over its least heap, nil slices opened -/
def head (k : Nat) (vs : List V) (H : Heap) : Option (List V × Heap) :=
  match extract k vs H with
  | none => none
  | some (_, vs1, H1) =>
    let r := denil H1.length vs1
    let q := denilB (H1.length + r.2.length) H1
    match extract k r.1 (q.1 ++ (r.2 ++ q.2)) with
    | none => none
    | some (_, vs2, H2) => some (vs2, H2)

/-! ### Equality of flat data -/
mutual
def eqD : D → D → Option Bool
  | .bool a, .bool b => some (a == b)
  | .int k a, .int k' b => bif k == k' then some (a == b) else none
  | .agg xs, .agg ys => eqDs xs ys
  | _, _ => none
def eqDs : List D → List D → Option Bool
  | [], [] => some true
  | x :: xs, y :: ys => match eqD x y, eqDs xs ys with | some a, some b => some (a && b) | _, _ => none
  | _, _ => none
end

/-- of these kinds: bools (true), numbers (false) -/
def kindsB : List Bool → List D → Bool
  | [], [] => true
  | true :: ks, .bool _ :: cs => kindsB ks cs
  | false :: ks, .int _ _ :: cs => kindsB ks cs
  | _, _ => false

def kindsD (ks : List Bool) : D → Bool
  | .agg cs => (match ks with | [_] => false | ks => kindsB ks cs)
  | x => (match ks with | [_] => kindsB ks [x] | _ => false)

/-! ## Operations -/
/-- No slice of the program's grows beyond this. -/
def lim : Nat := 1073741824

def getI {α : Type} (xs : List α) (i : Int) : Option α := bif decide (0 ≤ i) then nth xs i.toNat else none

abbrev Res := Option (V × List (Nat × Blk) × List Blk)
def ret1 (v : V) : Res := some (v, [], [])

def binI (op : BinOp) (k : IntKind) (a b : Int) : Option D :=
  match op with
  | .add => some (.int k (k.wrap (a + b)))
  | .sub => some (.int k (k.wrap (a - b)))
  | .mul => some (.int k (k.wrap (a * b)))
  | .quo => bif b == 0 then none else some (.int k (k.wrap (a.tdiv b)))
  | .rem => bif b == 0 then none else some (.int k (a.tmod b))
  | .and => some (.int k (k.wrap (BitVec.ofInt k.bits a &&& BitVec.ofInt k.bits b).toNat))
  | .or => some (.int k (k.wrap (BitVec.ofInt k.bits a ||| BitVec.ofInt k.bits b).toNat))
  | .xor => some (.int k (k.wrap (BitVec.ofInt k.bits a ^^^ BitVec.ofInt k.bits b).toNat))
  | .eql => some (.bool (a == b))
  | .neq => some (.bool (a != b))
  | .lss => some (.bool (decide (a < b)))
  | .leq => some (.bool (decide (a ≤ b)))
  | .gtr => some (.bool (decide (b < a)))
  | .geq => some (.bool (decide (b ≤ a)))
  | _ => none

def shI (op : BinOp) (k : IntKind) (a b : Int) : Option D :=
  bif decide (b < 0) then none else
  match op with
  | .shl => some (.int k (k.wrap (a * 2 ^ (min b.toNat k.bits))))
  | .shr => some (.int k (a.fdiv (2 ^ (min b.toNat k.bits))))
  | _ => none

def binE (op : BinOp) (x y : V) : Option D :=
  match op, x, y with
  | .shl, .d (.int k a), .d (.int _ b) => shI .shl k a b
  | .shr, .d (.int k a), .d (.int _ b) => shI .shr k a b
  | op, .d (.int k a), .d (.int k' b) => bif k == k' then binI op k a b else none
  | _, _, _ => none

def unE (op : UnOp) (x : V) : Option D :=
  match op, x with
  | .not, .d (.bool b) => some (.bool !b)
  | .neg, .d (.int k n) => some (.int k (k.wrap (0 - n)))
  | _, _ => none

/-- may its cells be laid? -/
def V.okb : V → Bool
  | .bad => false
  | .tup _ => false
  | .d (.tup _) => false
  | _ => true
/-- is it of one cell? -/
def V.flat : V → Bool
  | .bad => false
  | .tup _ => false
  | .agg _ => false
  | .d (.tup _) => false
  | .d (.agg _) => false
  | _ => true
def flats : List V → Bool
  | [] => true
  | v :: vs => v.flat && flats vs

def oneCell (n : Nat) (ag : Bool) (cs : List V) : Option V :=
  bif ag then (bif Nat.beq (cs.take n).length n then some (mkAgg (cs.take n)) else none) else cs.head?

def loadE (H : Heap) (n : Nat) (ag : Bool) (x : V) : Option V :=
  match x with
  | .ptr b o => match nth H b with
    | some (.cells cs) => oneCell n ag (cs.drop o)
    | _ => none
  | .eptr b sz i k => match nth H b with
    | some (.arr sz' xs) => bif Nat.beq sz sz' then
        match nth xs i with
        | some x => oneCell n ag (mapd (x.cells.drop k))
        | none => none
      else none
    | _ => none
  | .d (.rptr cs) => oneCell n ag (mapd cs)
  | _ => none

def storeE (H : Heap) (n : Nat) (x v : V) : Res :=
  match x with
  | .ptr b o => match nth H b with
    | some (.cells cs) => bif Nat.beq v.cells.length n && Nat.ble (o + n) cs.length && v.okb && flats v.cells then some (.bad, [(b, .cells (setRange cs o v.cells))], []) else none
    | _ => none
  | .eptr b sz i k => match nth H b with
    | some (.arr sz' xs) => bif Nat.beq sz sz' then
        match nth xs i, fr H 6 v with
        | some x, some (y, ks) =>
          bif elem ks b then none else
          bif Nat.beq y.cells.length n && Nat.ble (k + n) x.cells.length && (V.d y).okb && (x.isAgg || !y.isAgg) then
            some (.bad, (b, .arr sz (setAt xs i (bif x.isAgg then .agg (setRange x.cells k y.cells) else y))) :: ks.map (fun j => (j, .dead)), [])
          else none
        | _, _ => none
      else none
    | _ => none
  | _ => none

/-- what a slice holds -/
def elems (H : Heap) (x : V) : Option (List D) :=
  match x with
  | .d (.list _ xs) => some xs
  | .sl b sz => match nth H b with | some (.arr sz' xs) => bif Nat.beq sz sz' then some xs else none | _ => none
  | .slp b sz o len => match nth H b with | some (.arr sz' xs) => bif Nat.beq sz sz' then some ((xs.drop o).take len) else none | _ => none
  | .nilsl _ => some []
  | _ => none

def szAt (sz : Nat) (xs : List D) (l : Nat) : Bool := match nth xs l with | some z => Nat.beq z.cells.length sz && (V.d z).okb | none => true

def appendE (nid : Nat) (H : Heap) (sz : Nat) (x y : V) : Res :=
  match elems H y with
  | none => none
  | some ys =>
    bif szAt sz ys 0 then
      match x with
      | .nilsl _ => bif Nat.ble ys.length lim then some (.sl nid sz, [], [.arr sz ys]) else none
      | .sl b sz' => match nth H b with
        | some (.arr sz'' xs) => bif Nat.beq sz sz' && Nat.beq sz sz'' then
            (bif Nat.ble (xs.length + ys.length) lim then some (.sl nid sz, [(b, .dead)], [.arr sz (xs ++ ys)]) else none)
          else none
        | _ => none
      | .slp b sz' o len => match nth H b with
        | some (.arr sz'' xs) => bif Nat.beq sz sz' && Nat.beq sz sz'' && Nat.ble (o + len + ys.length) xs.length then
            some (.slp b sz o (len + ys.length), [(b, .arr sz (xs.take (o + len) ++ (ys ++ xs.drop (o + len + ys.length))))], [])
          else none
        | _ => none
      | _ => none
    else none

/-- a copy that nobody writes any more -/
def appendDE (H : Heap) (sz : Nat) (x y : V) : Option V :=
  match x with
  | .nilsl _ => (match elems H y with
    | some ys => bif szAt sz ys 0 && Nat.ble ys.length lim then some (.d (.list true ys)) else none
    | none => none)
  | _ => none

def asNat (v : Option V) (dflt : Nat) : Option Nat :=
  match v with
  | none => some dflt
  | some (.d (.int _ n)) => bif decide (0 ≤ n) then some n.toNat else none
  | _ => none

def sliceE (H : Heap) (sz : Nat) (x : V) (lo hi mx : Option V) : Option V :=
  match elems H x with
  | none => none
  | some xs =>
    match asNat lo 0, asNat hi xs.length with
    | some l, some h =>
      bif Nat.ble l h && Nat.ble h xs.length then
        match mx with
        | none => match x with
          | .d (.list own _) => bif Nat.beq l 0 || szAt sz xs l then some (.d (.list own ((xs.drop l).take (h - l)))) else none
          | .sl b sz' => bif Nat.beq sz sz' then some (.slp b sz l (h - l)) else none
          | .slp b sz' o _ => bif Nat.beq sz sz' then some (.slp b sz (o + l) (h - l)) else none
          | .nilsl _ => some (.nilsl sz)
          | _ => none
        | some m => match asNat (some m) 0 with
          | some m => bif Nat.beq m l && Nat.beq m h then some (.nilsl sz) else none
          | none => none
      else none
    | _, _ => none

def iaddrE (H : Heap) (sz : Nat) (x i : V) : Option V :=
  match i with
  | .d (.int _ i) =>
    match x with
    | .d (.list _ xs) => match getI xs i with | some x => bif Nat.beq x.cells.length sz && (V.d x).okb then some (.d (.rptr x.cells)) else none | none => none
    | .sl b sz' => match nth H b with
      | some (.arr sz'' xs) => bif Nat.beq sz sz' && Nat.beq sz sz'' then (match getI xs i with | some _ => some (.eptr b sz i.toNat 0) | none => none) else none
      | _ => none
    | .slp b sz' o len => match nth H b with
      | some (.arr sz'' xs) => bif Nat.beq sz sz' && Nat.beq sz sz'' then (match getI ((xs.drop o).take len) i with | some _ => some (.eptr b sz (o + i.toNat) 0) | none => none) else none
      | _ => none
    | _ => none
  | _ => none

def indexE (len sz : Nat) (ag : Bool) (x i : V) : Option V :=
  match i with
  | .d (.int _ i) => bif x.isAggV && (decide (0 ≤ i) && decide (i < len)) then oneCell sz ag (x.cells.drop (i.toNat * sz)) else none
  | _ => none

def indexSE (x i : V) : Option V :=
  match x, i with
  | .d (.str s), .d (.int _ i) => bif decide (0 ≤ i) then (match s[i.toNat]? with | some b => some (.d (.int .u8 b.toNat)) | none => none) else none
  | _, _ => none

/-- is there something at this address? -/
def there (H : Heap) (x : V) : Bool :=
  match x with
  | .ptr b _ => (match nth H b with | some (.cells _) => true | _ => false)
  | .eptr b sz _ _ => (match nth H b with | some (.arr sz' _) => Nat.beq sz sz' | _ => false)
  | .d (.rptr _) => true
  | _ => false

def faddrE (_ : Heap) (off : Nat) (x : V) : Option V :=
  match x with
  | .ptr b o => some (.ptr b (o + off))
  | .eptr b sz i k => some (.eptr b sz i (k + off))
  | .d (.rptr cs) => some (.d (.rptr (cs.drop off)))
  | _ => none

def nilckE (_ : Heap) (x : V) : Option V :=
  match x with
  | .d (.fn f caps) => some (.d (.fn f caps))
  | .fn f caps => some (.fn f caps)
  | .d (.iface t v) => some (.d (.iface t v))
  | .d (.rptr cs) => some (.d (.rptr cs))
  | .ptr b o => some (.ptr b o)
  | .eptr b sz i k => some (.eptr b sz i k)
  | _ => none

def iaddrAE (H : Heap) (len sz : Nat) (x i : V) : Option V :=
  match i with
  | .d (.int _ i) => bif decide (0 ≤ i) && decide (i < len) then faddrE H (i.toNat * sz) x else none
  | _ => none

def lenE (H : Heap) (x : V) : Option D :=
  match elems H x with | some xs => some (.int .i64 xs.length) | none => none

def mxE (isMax : Bool) : List V → Option D
  | [] => none
  | .d (.int k a) :: r => go k a r
  | _ => none
where
  go (k : IntKind) (a : Int) : List V → Option D
    | [] => some (.int k a)
    | .d (.int _ b) :: r => go k (bif isMax then (bif decide (a < b) then b else a) else (bif decide (b < a) then b else a)) r
    | _ => none

def fillV (z : List V) : List (Nat × Nat × V) → Option (List V)
  | [] => some z
  | (off, size, v) :: r => bif v.okb && Nat.beq v.cells.length size && Nat.ble (off + size) z.length then fillV (setRange z off v.cells) r else none

def fillD (H : Heap) (sz : Nat) (xs : List D) : List (Nat × V) → Option (List D × List Nat)
  | [] => some (xs, [])
  | (i, v) :: r => match fr H 6 v with
    | some (y, ks) => (bif Nat.blt i xs.length && Nat.beq y.cells.length sz && (V.d y).okb then match fillD H sz (setAt xs i y) r with | some (l, k2) => some (l, ks ++ k2) | none => none else none)
    | none => none

def findM (es : List (D × D)) (k : D) : Option (Option D) :=
  match es with
  | [] => some none
  | (a, v) :: r => match eqD k a with | some true => some (some v) | some false => findM r k | none => none

def getM (es : List (D × D)) (k z : D) : Option D := match findM es k with | some (some y) => some y | some none => some z | none => none

def setM (es : List (D × D)) (k v : D) : Option (List (D × D)) :=
  match es with
  | [] => some [(k, v)]
  | (a, u) :: r => match eqD k a with
    | some true => some ((a, v) :: r)
    | some false => (match setM r k v with | some l => some ((a, u) :: l) | none => none)
    | none => none

/-- one cell that looks at no memory -/
def flat1 : D → Bool
  | .bool _ => true
  | .int _ _ => true
  | _ => false

def mapsetE (H : Heap) (ks : List Bool) (m k v : V) : Res :=
  match m, k, v with
  | .mp b, .d k, .d y => (match nth H b with
    | some (.mp es) => (match kindsD ks k && flat1 y with | true => (match setM es k y with | some l => some (.bad, [(b, .mp l)], []) | none => none) | false => none)
    | _ => none)
  | _, _, _ => none
def mapgetE (H : Heap) (ks : List Bool) (z : D) (m k : V) : Option D :=
  match m, k with
  | .mp b, .d k => (match nth H b with
    | some (.mp es) => (match kindsD ks k with | true => getM es k z | false => none)
    | _ => none)
  | _, _ => none

/-- pieces: pairs of numbers -/
def pcsD : List D → Option (List (Int × Int))
  | [] => some []
  | .agg [.int .i64 a, .int .i64 b] :: r => match pcsD r with | some l => some ((a, b) :: l) | none => none
  | _ => none
/-- the piece at a place -/
def pc (zs : List (Int × Int)) (j : Nat) : Int × Int := zs[j]?.getD (0, 0)
/-- the place of the last piece of part p among the first k -/
def lastFrom (zs : List (Int × Int)) (p : Int) : Nat → Int
  | 0 => -1
  | k + 1 => bif ((pc zs k).1 != p || decide (p < 0)) then lastFrom zs p k else (k : Int)
/-- functions that are known by what they come to alone. 0: lower.Last -/
def specE (id : Nat) (l : List D) : Option D :=
  match id, l with
  | 0, [.agg [_, _, .list _ xs], .int .i64 p] => (match pcsD xs with | some zs => bif Nat.ble zs.length lim then some (.int .i64 (lastFrom zs p zs.length)) else none | none => none)
  | _, _ => none

/-- how a function is called: its answer, by what the heap turns -/
abbrev CallF := Nat → List V → Heap → Option (V × Heap)

def callE (Γ : Ctx) (cf : CallF) (nid : Nat) (H : Heap) (f : Nat) (args : List V) : Res :=
  match Γ.mode f with
  | 0 => match fzs H args with
    | some l => match cf f (mapd l) [] with
      | some (v, H1) => match fr H1 6 v with | some (x, _) => (match x with | .tup ts => some (.tup (mapd ts), [], []) | x => some (.d x, [], [])) | none => none
      | none => none
    | none => none
  | 1 => match fzs H args with
    | some l => match cf f (mapd l) [] with
      | some (v, H1) => bif escV v && escBs H1 then let up := fun j => some (nid + j); some (renV up v, [], H1.map (renB up)) else none
      | none => none
    | none => none
  | _ =>
    match extract 0 args H with
    | none => none
    | some (L, args', H0) => match cf f args' H0 with
      | some (v, H1) => bif nofnV v && nofnBs H1 then
          let back := fun j => match nth L j with | some b => some b | none => some (nid + (j - L.length))
          some (renV back v, L.zip (H1.map (renB back)), (H1.drop L.length).map (renB back)) else none
      | none => none

def updH (H : Heap) : List (Nat × Blk) → Heap
  | [] => H
  | (b, blk) :: r => updH (setAt H b blk) r

/-- what is loaded there is the same block in both heaps -/
def chkE (e : Env) (H H' : Heap) : List Opd → Bool
  | [] => true
  | x :: xs => (match x.val e with
    | .ptr b o => (match loadE H 1 false (.ptr b o), loadE H' 1 false (.ptr b o) with | some (.mp i), some (.mp j) => Nat.beq i j | _, _ => false)
    | _ => false) && chkE e H H' xs

def capsOf : V → Option (Nat × List V)
  | .fn f caps => some (f, caps)
  | .d (.fn f caps) => some (f, mapd caps)
  | _ => none

/-- a closure that is data, and whose function works on memory: not so -/
def callvBad (Γ : Ctx) (v : V) (f : Nat) (caps : List V) : Bool := v.isD && (!(Nat.ble (Γ.mode f) 1) && !caps.isEmpty)

def lookT (tab : List (Nat × Nat)) (t : Nat) : Option Nat :=
  match tab with
  | [] => none
  | (a, f) :: r => bif Nat.beq a t then some f else lookT r t

def opE (Γ : Ctx) (cf : CallF) (e : Env) (nid : Nat) (H : Heap) : O → Res
  | .mov x => ret1 (x.val e)
  | .pick c a b => match c.val e with | .d (.bool t) => ret1 (bif t then a.val e else b.val e) | _ => none
  | .alloc z => some (.ptr nid 0, [], [.cells z.cells])
  | .box x => bif (x.val e).okb then some (.ptr nid 0, [], [.cells (x.val e).cells]) else none
  | .build z ps => match fillV z (ps.map fun (o, s, x) => (o, s, x.val e)) with | some cs => ret1 (mkAgg cs) | none => none
  | .bslice sz z len ps => bif Nat.beq len 0 then ret1 (.nilsl sz) else match fillD H sz (List.replicate len (match z with | [x] => x | z => .agg z)) (ps.map fun (i, x) => (i, x.val e)) with
    | some (xs, ks) => some (.sl nid sz, ks.map (fun j => (j, .dead)), [.arr sz xs])
    | none => none
  | .load n ag x => match loadE H n ag (x.val e) with | some v => ret1 v | none => none
  | .store n x v => storeE H n (x.val e) (v.val e)
  | .nilck x => match nilckE H (x.val e) with | some v => ret1 v | none => none
  | .bin op x y => match binE op (x.val e) (y.val e) with | some r => ret1 (.d r) | none => none
  | .eqv ks neg x y => match x.val e, y.val e with
    | .d a, .d b => (match kindsD ks a with | true => (match eqD a b with | some r => ret1 (.d (.bool (bif neg then !r else r))) | none => none) | false => none)
    | _, _ => none
  | .un op x => match unE op (x.val e) with | some r => ret1 (.d r) | none => none
  | .conv k x => match x.val e with | .d (.int _ n) => ret1 (.d (.int k (k.wrap n))) | _ => none
  | .mkfn f caps => ret1 (match caps with | [] => .d (.fn f []) | caps => .fn f (vals e caps))
  | .mkslice sz z n c => match n.val e, c.val e with
    | .d (.int _ n), .d (.int _ c) => bif decide (0 ≤ n) && decide (n ≤ lim) && decide (n == c) then
        some (.sl nid sz, [], [.arr sz (List.replicate n.toNat (match z with | [x] => x | z => .agg z))]) else none
    | _, _ => none
  | .slice sz x lo hi mx => match sliceE H sz (x.val e) (lo.map (·.val e)) (hi.map (·.val e)) (mx.map (·.val e)) with | some v => ret1 v | none => none
  | .faddr off x => match faddrE H off (x.val e) with | some v => ret1 v | none => none
  | .field off n ag x => match x.val e with
    | .d (.agg cs) => (match oneCell n ag (mapd (cs.drop off)) with | some v => ret1 v | none => none)
    | .agg cs => (match oneCell n ag (cs.drop off) with | some v => ret1 v | none => none)
    | _ => none
  | .iaddr sz x i => match iaddrE H sz (x.val e) (i.val e) with | some v => ret1 v | none => none
  | .index len sz ag x i => match indexE len sz ag (x.val e) (i.val e) with | some v => ret1 v | none => none
  | .indexS x i => match indexSE (x.val e) (i.val e) with | some v => ret1 v | none => none
  | .iaddrA len sz x i => match iaddrAE H len sz (x.val e) (i.val e) with | some v => ret1 v | none => none
  | .len x => match lenE H (x.val e) with | some r => ret1 (.d r) | none => none
  | .append sz x y => appendE nid H sz (x.val e) (y.val e)
  | .appendD sz x y => match appendDE H sz (x.val e) (y.val e) with | some v => ret1 v | none => none
  | .mx b xs => match mxE b (vals e xs) with | some r => ret1 (.d r) | none => none
  | .extract x i => match x.val e with
    | .tup vs => (match nth vs i with | some v => ret1 v | none => none)
    | .d (.tup vs) => (match nth vs i with | some v => ret1 (.d v) | none => none)
    | _ => none
  | .mkif t x => match fr H 6 (x.val e) with | some (y, []) => ret1 (.d (.iface t y)) | _ => none
  | .call f args => callE Γ cf nid H f (vals e args)
  | .callv x args => match capsOf (x.val e) with
    | some (f, caps) => (match callvBad Γ (x.val e) f caps with | true => none | false => callE Γ cf nid H f (vals e args ++ caps))
    | none => none
  | .invoke tab x args => match x.val e with
    | .d (.iface t y) => (match lookT tab t with | some f => callE Γ cf nid H f (.d y :: vals e args) | none => none)
    | _ => none
  | .mkmap => some (.mp nid, [], [.mp []])
  | .mapset ks m k v => mapsetE H ks (m.val e) (k.val e) (v.val e)
  | .mapget ks z m k => match mapgetE H ks z (m.val e) (k.val e) with | some r => ret1 (.d r) | none => none
  | .panic => none
  | .callk f args _ => callE Γ cf nid H f (vals e args)
  | .spec id args => match H, allD (vals e args) with | [], some l => (match specE id l with | some r => ret1 (.d r) | none => none) | _, _ => none
  | .nilq x => match elems H (x.val e) with | some xs => (match Nat.blt 0 xs.length with | true => ret1 (.d (.bool false)) | false => none) | none => none

/-! ## Code -/
def setO (e : Env) (dst : Option Nat) (v : V) : Env := match dst with | some i => e.set i v | none => e

/-- is it carried out? -/
def wants (e : Env) (g : Option (Nat × Bool)) : Option Bool :=
  match g with
  | none => some true
  | some (s, b) => match e s with | .d (.bool t) => some (t == b) | .d (.tup []) => some false | _ => none

def opsE (Γ : Ctx) (cf : CallF) : List Op1 → Env → Heap → Option (Env × Heap)
  | [], e, H => some (e, H)
  | o :: r, e, H => match wants e o.guard with
    | some true => (match opE Γ cf e H.length H o.op with
      | some (v, up, nw) => opsE Γ cf r (setO e o.dst v) (updH H up ++ nw)
      | none => none)
    | some false => opsE Γ cf r (setO e o.dst (.d (.tup []))) H
    | none => none

/-- n blocks from b on are out of sight -/
def hideR (H : Heap) (b : Nat) : Nat → Heap
  | 0 => H
  | n + 1 => hideR (setAt H b .dead) (b + 1) n
def hideH (H : Heap) (pos : List (Nat × Nat)) : List Nat → Heap
  | [] => H
  | i :: r => match nth pos i with | some (b, n) => hideH (hideR H b n) pos r | none => hideH H pos r

def noDead : List (Nat × Blk) → Bool
  | [] => true
  | (_, .dead) :: _ => false
  | _ :: r => noDead r
def effOK (eff : Nat) (up : List (Nat × Blk)) (nw : List Blk) : Bool := match eff with | 0 => up.isEmpty | 1 => up.isEmpty && nw.isEmpty | 3 => noDead up && nw.isEmpty | _ => true
def chkO (e : Env) (H : Heap) (up : List (Nat × Blk)) : O → Bool
  | .callk _ _ chk => chkE e H (updH H up) chk
  | _ => true
def effC (e : Env) (H : Heap) (o : Op1) (up : List (Nat × Blk)) (nw : List Blk) : Bool := effOK o.eff up nw && chkO e H up o.op

/-- in a region that draws its order; 'pos': where the new blocks of the operations so far lie -/
def drawE (Γ : Ctx) (cf : CallF) (pos : List (Nat × Nat)) : List Op1 → Env → Heap → Option (Env × Heap)
  | [], e, H => some (e, H)
  | o :: r, e, H => match wants e o.guard with
    | some true => (match opE Γ cf e H.length (hideH H pos o.mask) o.op with
      | some (v, up, nw) => bif effC e H o up nw then drawE Γ cf (pos ++ [(H.length, nw.length)]) r (setO e o.dst v) (updH H up ++ nw) else none
      | _ => none)
    | some false => drawE Γ cf (pos ++ [(H.length, 0)]) r (setO e o.dst (.d (.tup []))) H
    | none => none

/-- the state at a loop's head, or what comes behind the loop -/
inductive Lp where
  | again (vs : List V) (H : Heap)
  | done (x : Ex) (vs : List V) (H : Heap)

abbrev St := Env × Heap

def iterN (F : List V → Heap → Option Lp) : Nat → List V → Heap → Option (Ex × List V × Heap)
  | 0, _, _ => none
  | n + 1, vs, H => match F vs H with
    | some (.again vs H) => iterN F n vs H
    | some (.done x vs H) => some (x, vs, H)
    | none => none

/-- one round -/
def roundE (k : Nat) (live outs : List Nat) (r : Option (Ex × Env × Heap)) : Option Lp :=
  match r with
  | some (.normal, e, H) => (match head k (live.map e) H with | some (vs, H) => some (.again vs H) | none => none)
  | some (x, e, H) => (match extract k (outs.map e) H with | some (_, vs, H) => some (.done x vs H) | none => none)
  | none => none

/-- 'It': how loops are gone round; k: how many blocks the function was handed -/
def codeE (Γ : Ctx) (cf : CallF) (It : (List V → Heap → Option Lp) → List V → Heap → Option (Ex × List V × Heap)) (k : Nat) : C → Env → Heap → Option (Ex × Env × Heap)
  | .skip, e, H => some (.normal, e, H)
  | .ret, e, H => some (.ret, e, H)
  | .exit id, e, H => some (.exit id, e, H)
  | .seq a b, e, H => match codeE Γ cf It k a e H with
    | some (.normal, e, H) => codeE Γ cf It k b e H
    | r => r
  | .cond x a b, e, H => match x.val e with
    | .d (.bool t) => (match t with | true => codeE Γ cf It k a e H | false => codeE Γ cf It k b e H)
    | _ => none
  | .block id a, e, H => match codeE Γ cf It k a e H with
    | some (.exit j, e, H) => bif Nat.beq j id then some (.normal, e, H) else some (.exit j, e, H)
    | r => r
  | .loop live outs a, e, H => match head k (live.map e) H with
    | some (vs, H) => (match It (fun vs H => roundE k live outs (codeE Γ cf It k a (envOf live vs) H)) vs H with
      | some (x, vs, H) => some (x, envOf outs vs, H)
      | none => none)
    | none => none
  | .ops l, e, H => match opsE Γ cf l e H with | some (e, H) => some (.normal, e, H) | none => none
  | .draw l, e, H => match drawE Γ cf [] l e H with | some (e, H) => some (.normal, e, H) | none => none

def argEnv (i : Nat) : List V → Env
  | [] => env0
  | v :: vs => (argEnv (i + 1) vs).set i v

def resV (e : Env) (H : Heap) : List (Nat × Option (Nat × Bool)) → Option (List V)
  | [] => some []
  | (i, none) :: r => match resV e H r with | some l => some (e i :: l) | none => none
  | (i, some (n, ag)) :: r => match loadE H n ag (e i), resV e H r with | some v, some l => some (v :: l) | _, _ => none

def oneRes : List V → V
  | [v] => v
  | l => mkTup l

/-- a function's body, and its answer over the least heap -/
def funE (Γ : Ctx) (cf : CallF) (It : (List V → Heap → Option Lp) → List V → Heap → Option (Ex × List V × Heap)) (f : Nat) (args : List V) (H : Heap) : Option (V × Heap) :=
  match Γ.code f with
  | none => none
  | some fn =>
    bif Nat.beq args.length fn.nargs then
      match codeE Γ cf It H.length fn.body (argEnv 0 args) H with
      | some (.exit _, _, _) => none
      | some (_, e, H1) => (match resV e H1 fn.res with
        | some l => (match extract H.length [oneRes l] H1 with | some (_, [v], H2) => some (v, H2) | _ => none)
        | none => none)
      | none => none
    else none

/-- n: rounds, and calls in calls -/
def evN (Γ : Ctx) : Nat → CallF
  | 0 => fun _ _ _ => none
  | n + 1 => funE Γ (evN Γ n) (fun F => iterN F n)

end Go.Proofs.YtljgncbdagmeeaaDoorE
