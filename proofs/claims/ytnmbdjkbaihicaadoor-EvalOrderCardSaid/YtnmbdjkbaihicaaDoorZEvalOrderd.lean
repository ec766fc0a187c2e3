/- EvalOrder: part 4 of 6 of the proof. -/
import Derived.Test.YtnmbdjkbaihicaaDoorZEvalOrderc
import Derived.KernelRfl
import Derived.Sort.AssemblyPlain
set_option maxRecDepth 100000
set_option maxHeartbeats 40000000
namespace Go.Proofs.YtnmbdjkbaihicaaDoor
open Go Go.Proofs.YtnmbdjkbaihicaaDoorE
set_option linter.unusedVariables false
structure Zy where
 done:(List Bool)
 vals:(List Int)
 deriving DecidableEq
structure Zb1 where
 work:(List Int)
 edges:(List Zm)
 deriving DecidableEq
structure Zh where
 part:Int
 step:Int
 deriving DecidableEq
abbrev Zbg (x:Zh):D:=(D.agg [(Zb x.part),(Zb x.step)])
structure ZjX where
 dag:Zb1
 pieces:(List Zh)
 deriving DecidableEq
def Zrz:ByteArray:=⟨#[0,1,2,2,3,3,3,3,4,4,4,4,4,4,4,4,5,5,5,5,5,5,5,5,5,5,5,5,5,5,5,5,6,6,6,6,6,6,6,6,6,6,6,6,6,6,6,6,6,6,6,6,6,6,6,6,6,6,6,6,6,6,6,6,7,7,7,7,7,7,7,7,7,7,7,7,7,7,7,7,7,7,7,7,7,7,7,7,7,7,7,7,7,7,7,7,7,7,7,7,7,7,7,7,7,7,7,7,7,7,7,7,7,7,7,7,7,7,7,7,7,7,7,7,7,7,7,7,8,8,8,8,8,8,8,8,8,8,8,8,8,8,8,8,8,8,8,8,8,8,8,8,8,8,8,8,8,8,8,8,8,8,8,8,8,8,8,8,8,8,8,8,8,8,8,8,8,8,8,8,8,8,8,8,8,8,8,8,8,8,8,8,8,8,8,8,8,8,8,8,8,8,8,8,8,8,8,8,8,8,8,8,8,8,8,8,8,8,8,8,8,8,8,8,8,8,8,8,8,8,8,8,8,8,8,8,8,8,8,8,8,8,8,8,8,8,8,8,8,8,8,8,8,8,8,8]⟩
abbrev dA (t0 t1 t2 t3:Bool) (a:Zj):List D:=[(Zb a.period),(Zb a.deadline),(D.list t0 (List.map Z3 a.parts)),(D.list t1 (List.map ZC a.edges)),(D.list t2 (List.map Zq a.futures)),(D.list t3 (List.map Zv a.barriers))]
abbrev dV (t0 t1 t2 t3:Bool) (a:Zj):List V:=[(.d (Zb a.period)),(.d (Zb a.deadline)),(.d (D.list t0 (List.map Z3 a.parts))),(.d (D.list t1 (List.map ZC a.edges))),(.d (D.list t2 (List.map Zq a.futures))),(.d (D.list t3 (List.map Zv a.barriers)))]
def ZeX:Option Bool:=some true
noncomputable def Zeu (a:Zj) (s0:Int):Option (Int⊕(Unit⊕Unit)):=
 bif (decide (s0<(a.barriers.length:Int))) then
  bif (decide (s0<9)) then
   (ZE a.barriers s0).bind fun x1=>
   bif (decide (20<(x1.ins.length:Int))) then
    some (.inr (.inl ()))
   else
    bif (decide (20<(x1.outs.length:Int))) then
     some (.inr (.inl ()))
    else
     some (.inl (w64 (s0+1)))
  else
   some (.inr (.inr ()))
 else
  some (.inr (.inr ()))
noncomputable def ZgR (a:Zj):Option Bool:=
 (lp (Zeu a) 0).bind fun r2=>
 match r2 with
 | (.inl r2)=>
  some false
 | (.inr r2)=>
  bif (decide ((a.parts.length:Int)≤20)) then
   bif (decide ((a.edges.length:Int)≤60)) then
    bif (decide ((a.futures.length:Int)≤20)) then
     bif (decide ((a.barriers.length:Int)≤8)) then
      some true
     else
      some false
    else
     some false
   else
    some false
  else
   some false
noncomputable def ZgX (a:Zj) (b:(List Int)) (c:Zy):Option Bool:=
 (ZgR a).bind fun x0=>
 bif x0 then
  bif (decide ((b.length:Int)≤60)) then
   bif (decide ((c.done.length:Int)≤70)) then
    bif (decide ((c.vals.length:Int)≤70)) then
     some true
    else
     some false
   else
    some false
  else
   some false
 else
  some false
noncomputable def ZdJ (a:Zj) (s0:Int×(List Zs)):Option ((Int×(List Zs))⊕(List Zs)):=
 bif (decide (s0.1<(a.barriers.length:Int))) then
  (ZE a.barriers s0.1).bind fun x1=>
  bif (Nat.ble (List.length x1.ins) lim) then
   bif (Nat.ble (List.length x1.outs) lim) then
    bif (Nat.ble (List.length s0.2+1) lim) then
     some (.inl ((w64 (s0.1+1)),(s0.2++[x1])))
    else
     none
   else
    none
  else
   none
 else
  some (.inr s0.2)
noncomputable def Zdu (a:Zj):Option (List Zs):=
 bif (Nat.ble (List.length a.parts) lim) then
  bif (Nat.ble (List.length a.edges) lim) then
   bif (Nat.ble (List.length a.futures) lim) then
    (lp (ZdJ a) (0,([]:(List Zs)))).bind fun r2=>
    some r2
   else
    none
  else
   none
 else
  none
noncomputable def Zbr (a:Int) (b:Int) (c:Int):Option Bool:=
 bif (decide (b≤a)) then
  bif (decide (a≤c)) then
   some true
  else
   some false
 else
  some false
noncomputable def ZgO (a:Int):Option Int:=
 bif (decide (a<0)) then
  some 10
 else
  bif (decide (1099511627775<a)) then
   some 11
  else
   some 0
noncomputable def Zcp (a:Int):Option Int:=
 some (IntKind.i64.wrap (BitVec.ofInt IntKind.i64.bits (w64 (IntKind.u64.wrap ((IntKind.u64.wrap ((IntKind.u64.wrap ((IntKind.u64.wrap (BitVec.ofInt IntKind.u64.bits (IntKind.u64.wrap ((Int.fdiv (IntKind.u64.wrap ((IntKind.u64.wrap (BitVec.ofInt IntKind.u64.bits (Int.fdiv (IntKind.u64.wrap ((IntKind.u64.wrap (BitVec.ofInt IntKind.u64.bits (Int.fdiv a (2 ^ 1)) &&& BitVec.ofInt IntKind.u64.bits 6148914691236517205).toNat)+(IntKind.u64.wrap (BitVec.ofInt IntKind.u64.bits a &&& BitVec.ofInt IntKind.u64.bits 6148914691236517205).toNat))) (2 ^ 2)) &&& BitVec.ofInt IntKind.u64.bits 3689348814741910323).toNat)+(IntKind.u64.wrap (BitVec.ofInt IntKind.u64.bits (IntKind.u64.wrap ((IntKind.u64.wrap (BitVec.ofInt IntKind.u64.bits (Int.fdiv a (2 ^ 1)) &&& BitVec.ofInt IntKind.u64.bits 6148914691236517205).toNat)+(IntKind.u64.wrap (BitVec.ofInt IntKind.u64.bits a &&& BitVec.ofInt IntKind.u64.bits 6148914691236517205).toNat))) &&& BitVec.ofInt IntKind.u64.bits 3689348814741910323).toNat))) (2 ^ 4))+(IntKind.u64.wrap ((IntKind.u64.wrap (BitVec.ofInt IntKind.u64.bits (Int.fdiv (IntKind.u64.wrap ((IntKind.u64.wrap (BitVec.ofInt IntKind.u64.bits (Int.fdiv a (2 ^ 1)) &&& BitVec.ofInt IntKind.u64.bits 6148914691236517205).toNat)+(IntKind.u64.wrap (BitVec.ofInt IntKind.u64.bits a &&& BitVec.ofInt IntKind.u64.bits 6148914691236517205).toNat))) (2 ^ 2)) &&& BitVec.ofInt IntKind.u64.bits 3689348814741910323).toNat)+(IntKind.u64.wrap (BitVec.ofInt IntKind.u64.bits (IntKind.u64.wrap ((IntKind.u64.wrap (BitVec.ofInt IntKind.u64.bits (Int.fdiv a (2 ^ 1)) &&& BitVec.ofInt IntKind.u64.bits 6148914691236517205).toNat)+(IntKind.u64.wrap (BitVec.ofInt IntKind.u64.bits a &&& BitVec.ofInt IntKind.u64.bits 6148914691236517205).toNat))) &&& BitVec.ofInt IntKind.u64.bits 3689348814741910323).toNat))))) &&& BitVec.ofInt IntKind.u64.bits 1085102592571150095).toNat)+(Int.fdiv (IntKind.u64.wrap (BitVec.ofInt IntKind.u64.bits (IntKind.u64.wrap ((Int.fdiv (IntKind.u64.wrap ((IntKind.u64.wrap (BitVec.ofInt IntKind.u64.bits (Int.fdiv (IntKind.u64.wrap ((IntKind.u64.wrap (BitVec.ofInt IntKind.u64.bits (Int.fdiv a (2 ^ 1)) &&& BitVec.ofInt IntKind.u64.bits 6148914691236517205).toNat)+(IntKind.u64.wrap (BitVec.ofInt IntKind.u64.bits a &&& BitVec.ofInt IntKind.u64.bits 6148914691236517205).toNat))) (2 ^ 2)) &&& BitVec.ofInt IntKind.u64.bits 3689348814741910323).toNat)+(IntKind.u64.wrap (BitVec.ofInt IntKind.u64.bits (IntKind.u64.wrap ((IntKind.u64.wrap (BitVec.ofInt IntKind.u64.bits (Int.fdiv a (2 ^ 1)) &&& BitVec.ofInt IntKind.u64.bits 6148914691236517205).toNat)+(IntKind.u64.wrap (BitVec.ofInt IntKind.u64.bits a &&& BitVec.ofInt IntKind.u64.bits 6148914691236517205).toNat))) &&& BitVec.ofInt IntKind.u64.bits 3689348814741910323).toNat))) (2 ^ 4))+(IntKind.u64.wrap ((IntKind.u64.wrap (BitVec.ofInt IntKind.u64.bits (Int.fdiv (IntKind.u64.wrap ((IntKind.u64.wrap (BitVec.ofInt IntKind.u64.bits (Int.fdiv a (2 ^ 1)) &&& BitVec.ofInt IntKind.u64.bits 6148914691236517205).toNat)+(IntKind.u64.wrap (BitVec.ofInt IntKind.u64.bits a &&& BitVec.ofInt IntKind.u64.bits 6148914691236517205).toNat))) (2 ^ 2)) &&& BitVec.ofInt IntKind.u64.bits 3689348814741910323).toNat)+(IntKind.u64.wrap (BitVec.ofInt IntKind.u64.bits (IntKind.u64.wrap ((IntKind.u64.wrap (BitVec.ofInt IntKind.u64.bits (Int.fdiv a (2 ^ 1)) &&& BitVec.ofInt IntKind.u64.bits 6148914691236517205).toNat)+(IntKind.u64.wrap (BitVec.ofInt IntKind.u64.bits a &&& BitVec.ofInt IntKind.u64.bits 6148914691236517205).toNat))) &&& BitVec.ofInt IntKind.u64.bits 3689348814741910323).toNat))))) &&& BitVec.ofInt IntKind.u64.bits 1085102592571150095).toNat) (2 ^ 8))))+(Int.fdiv (IntKind.u64.wrap ((IntKind.u64.wrap (BitVec.ofInt IntKind.u64.bits (IntKind.u64.wrap ((Int.fdiv (IntKind.u64.wrap ((IntKind.u64.wrap (BitVec.ofInt IntKind.u64.bits (Int.fdiv (IntKind.u64.wrap ((IntKind.u64.wrap (BitVec.ofInt IntKind.u64.bits (Int.fdiv a (2 ^ 1)) &&& BitVec.ofInt IntKind.u64.bits 6148914691236517205).toNat)+(IntKind.u64.wrap (BitVec.ofInt IntKind.u64.bits a &&& BitVec.ofInt IntKind.u64.bits 6148914691236517205).toNat))) (2 ^ 2)) &&& BitVec.ofInt IntKind.u64.bits 3689348814741910323).toNat)+(IntKind.u64.wrap (BitVec.ofInt IntKind.u64.bits (IntKind.u64.wrap ((IntKind.u64.wrap (BitVec.ofInt IntKind.u64.bits (Int.fdiv a (2 ^ 1)) &&& BitVec.ofInt IntKind.u64.bits 6148914691236517205).toNat)+(IntKind.u64.wrap (BitVec.ofInt IntKind.u64.bits a &&& BitVec.ofInt IntKind.u64.bits 6148914691236517205).toNat))) &&& BitVec.ofInt IntKind.u64.bits 3689348814741910323).toNat))) (2 ^ 4))+(IntKind.u64.wrap ((IntKind.u64.wrap (BitVec.ofInt IntKind.u64.bits (Int.fdiv (IntKind.u64.wrap ((IntKind.u64.wrap (BitVec.ofInt IntKind.u64.bits (Int.fdiv a (2 ^ 1)) &&& BitVec.ofInt IntKind.u64.bits 6148914691236517205).toNat)+(IntKind.u64.wrap (BitVec.ofInt IntKind.u64.bits a &&& BitVec.ofInt IntKind.u64.bits 6148914691236517205).toNat))) (2 ^ 2)) &&& BitVec.ofInt IntKind.u64.bits 3689348814741910323).toNat)+(IntKind.u64.wrap (BitVec.ofInt IntKind.u64.bits (IntKind.u64.wrap ((IntKind.u64.wrap (BitVec.ofInt IntKind.u64.bits (Int.fdiv a (2 ^ 1)) &&& BitVec.ofInt IntKind.u64.bits 6148914691236517205).toNat)+(IntKind.u64.wrap (BitVec.ofInt IntKind.u64.bits a &&& BitVec.ofInt IntKind.u64.bits 6148914691236517205).toNat))) &&& BitVec.ofInt IntKind.u64.bits 3689348814741910323).toNat))))) &&& BitVec.ofInt IntKind.u64.bits 1085102592571150095).toNat)+(Int.fdiv (IntKind.u64.wrap (BitVec.ofInt IntKind.u64.bits (IntKind.u64.wrap ((Int.fdiv (IntKind.u64.wrap ((IntKind.u64.wrap (BitVec.ofInt IntKind.u64.bits (Int.fdiv (IntKind.u64.wrap ((IntKind.u64.wrap (BitVec.ofInt IntKind.u64.bits (Int.fdiv a (2 ^ 1)) &&& BitVec.ofInt IntKind.u64.bits 6148914691236517205).toNat)+(IntKind.u64.wrap (BitVec.ofInt IntKind.u64.bits a &&& BitVec.ofInt IntKind.u64.bits 6148914691236517205).toNat))) (2 ^ 2)) &&& BitVec.ofInt IntKind.u64.bits 3689348814741910323).toNat)+(IntKind.u64.wrap (BitVec.ofInt IntKind.u64.bits (IntKind.u64.wrap ((IntKind.u64.wrap (BitVec.ofInt IntKind.u64.bits (Int.fdiv a (2 ^ 1)) &&& BitVec.ofInt IntKind.u64.bits 6148914691236517205).toNat)+(IntKind.u64.wrap (BitVec.ofInt IntKind.u64.bits a &&& BitVec.ofInt IntKind.u64.bits 6148914691236517205).toNat))) &&& BitVec.ofInt IntKind.u64.bits 3689348814741910323).toNat))) (2 ^ 4))+(IntKind.u64.wrap ((IntKind.u64.wrap (BitVec.ofInt IntKind.u64.bits (Int.fdiv (IntKind.u64.wrap ((IntKind.u64.wrap (BitVec.ofInt IntKind.u64.bits (Int.fdiv a (2 ^ 1)) &&& BitVec.ofInt IntKind.u64.bits 6148914691236517205).toNat)+(IntKind.u64.wrap (BitVec.ofInt IntKind.u64.bits a &&& BitVec.ofInt IntKind.u64.bits 6148914691236517205).toNat))) (2 ^ 2)) &&& BitVec.ofInt IntKind.u64.bits 3689348814741910323).toNat)+(IntKind.u64.wrap (BitVec.ofInt IntKind.u64.bits (IntKind.u64.wrap ((IntKind.u64.wrap (BitVec.ofInt IntKind.u64.bits (Int.fdiv a (2 ^ 1)) &&& BitVec.ofInt IntKind.u64.bits 6148914691236517205).toNat)+(IntKind.u64.wrap (BitVec.ofInt IntKind.u64.bits a &&& BitVec.ofInt IntKind.u64.bits 6148914691236517205).toNat))) &&& BitVec.ofInt IntKind.u64.bits 3689348814741910323).toNat))))) &&& BitVec.ofInt IntKind.u64.bits 1085102592571150095).toNat) (2 ^ 8)))) (2 ^ 16))))+(Int.fdiv (IntKind.u64.wrap ((IntKind.u64.wrap ((IntKind.u64.wrap (BitVec.ofInt IntKind.u64.bits (IntKind.u64.wrap ((Int.fdiv (IntKind.u64.wrap ((IntKind.u64.wrap (BitVec.ofInt IntKind.u64.bits (Int.fdiv (IntKind.u64.wrap ((IntKind.u64.wrap (BitVec.ofInt IntKind.u64.bits (Int.fdiv a (2 ^ 1)) &&& BitVec.ofInt IntKind.u64.bits 6148914691236517205).toNat)+(IntKind.u64.wrap (BitVec.ofInt IntKind.u64.bits a &&& BitVec.ofInt IntKind.u64.bits 6148914691236517205).toNat))) (2 ^ 2)) &&& BitVec.ofInt IntKind.u64.bits 3689348814741910323).toNat)+(IntKind.u64.wrap (BitVec.ofInt IntKind.u64.bits (IntKind.u64.wrap ((IntKind.u64.wrap (BitVec.ofInt IntKind.u64.bits (Int.fdiv a (2 ^ 1)) &&& BitVec.ofInt IntKind.u64.bits 6148914691236517205).toNat)+(IntKind.u64.wrap (BitVec.ofInt IntKind.u64.bits a &&& BitVec.ofInt IntKind.u64.bits 6148914691236517205).toNat))) &&& BitVec.ofInt IntKind.u64.bits 3689348814741910323).toNat))) (2 ^ 4))+(IntKind.u64.wrap ((IntKind.u64.wrap (BitVec.ofInt IntKind.u64.bits (Int.fdiv (IntKind.u64.wrap ((IntKind.u64.wrap (BitVec.ofInt IntKind.u64.bits (Int.fdiv a (2 ^ 1)) &&& BitVec.ofInt IntKind.u64.bits 6148914691236517205).toNat)+(IntKind.u64.wrap (BitVec.ofInt IntKind.u64.bits a &&& BitVec.ofInt IntKind.u64.bits 6148914691236517205).toNat))) (2 ^ 2)) &&& BitVec.ofInt IntKind.u64.bits 3689348814741910323).toNat)+(IntKind.u64.wrap (BitVec.ofInt IntKind.u64.bits (IntKind.u64.wrap ((IntKind.u64.wrap (BitVec.ofInt IntKind.u64.bits (Int.fdiv a (2 ^ 1)) &&& BitVec.ofInt IntKind.u64.bits 6148914691236517205).toNat)+(IntKind.u64.wrap (BitVec.ofInt IntKind.u64.bits a &&& BitVec.ofInt IntKind.u64.bits 6148914691236517205).toNat))) &&& BitVec.ofInt IntKind.u64.bits 3689348814741910323).toNat))))) &&& BitVec.ofInt IntKind.u64.bits 1085102592571150095).toNat)+(Int.fdiv (IntKind.u64.wrap (BitVec.ofInt IntKind.u64.bits (IntKind.u64.wrap ((Int.fdiv (IntKind.u64.wrap ((IntKind.u64.wrap (BitVec.ofInt IntKind.u64.bits (Int.fdiv (IntKind.u64.wrap ((IntKind.u64.wrap (BitVec.ofInt IntKind.u64.bits (Int.fdiv a (2 ^ 1)) &&& BitVec.ofInt IntKind.u64.bits 6148914691236517205).toNat)+(IntKind.u64.wrap (BitVec.ofInt IntKind.u64.bits a &&& BitVec.ofInt IntKind.u64.bits 6148914691236517205).toNat))) (2 ^ 2)) &&& BitVec.ofInt IntKind.u64.bits 3689348814741910323).toNat)+(IntKind.u64.wrap (BitVec.ofInt IntKind.u64.bits (IntKind.u64.wrap ((IntKind.u64.wrap (BitVec.ofInt IntKind.u64.bits (Int.fdiv a (2 ^ 1)) &&& BitVec.ofInt IntKind.u64.bits 6148914691236517205).toNat)+(IntKind.u64.wrap (BitVec.ofInt IntKind.u64.bits a &&& BitVec.ofInt IntKind.u64.bits 6148914691236517205).toNat))) &&& BitVec.ofInt IntKind.u64.bits 3689348814741910323).toNat))) (2 ^ 4))+(IntKind.u64.wrap ((IntKind.u64.wrap (BitVec.ofInt IntKind.u64.bits (Int.fdiv (IntKind.u64.wrap ((IntKind.u64.wrap (BitVec.ofInt IntKind.u64.bits (Int.fdiv a (2 ^ 1)) &&& BitVec.ofInt IntKind.u64.bits 6148914691236517205).toNat)+(IntKind.u64.wrap (BitVec.ofInt IntKind.u64.bits a &&& BitVec.ofInt IntKind.u64.bits 6148914691236517205).toNat))) (2 ^ 2)) &&& BitVec.ofInt IntKind.u64.bits 3689348814741910323).toNat)+(IntKind.u64.wrap (BitVec.ofInt IntKind.u64.bits (IntKind.u64.wrap ((IntKind.u64.wrap (BitVec.ofInt IntKind.u64.bits (Int.fdiv a (2 ^ 1)) &&& BitVec.ofInt IntKind.u64.bits 6148914691236517205).toNat)+(IntKind.u64.wrap (BitVec.ofInt IntKind.u64.bits a &&& BitVec.ofInt IntKind.u64.bits 6148914691236517205).toNat))) &&& BitVec.ofInt IntKind.u64.bits 3689348814741910323).toNat))))) &&& BitVec.ofInt IntKind.u64.bits 1085102592571150095).toNat) (2 ^ 8))))+(Int.fdiv (IntKind.u64.wrap ((IntKind.u64.wrap (BitVec.ofInt IntKind.u64.bits (IntKind.u64.wrap ((Int.fdiv (IntKind.u64.wrap ((IntKind.u64.wrap (BitVec.ofInt IntKind.u64.bits (Int.fdiv (IntKind.u64.wrap ((IntKind.u64.wrap (BitVec.ofInt IntKind.u64.bits (Int.fdiv a (2 ^ 1)) &&& BitVec.ofInt IntKind.u64.bits 6148914691236517205).toNat)+(IntKind.u64.wrap (BitVec.ofInt IntKind.u64.bits a &&& BitVec.ofInt IntKind.u64.bits 6148914691236517205).toNat))) (2 ^ 2)) &&& BitVec.ofInt IntKind.u64.bits 3689348814741910323).toNat)+(IntKind.u64.wrap (BitVec.ofInt IntKind.u64.bits (IntKind.u64.wrap ((IntKind.u64.wrap (BitVec.ofInt IntKind.u64.bits (Int.fdiv a (2 ^ 1)) &&& BitVec.ofInt IntKind.u64.bits 6148914691236517205).toNat)+(IntKind.u64.wrap (BitVec.ofInt IntKind.u64.bits a &&& BitVec.ofInt IntKind.u64.bits 6148914691236517205).toNat))) &&& BitVec.ofInt IntKind.u64.bits 3689348814741910323).toNat))) (2 ^ 4))+(IntKind.u64.wrap ((IntKind.u64.wrap (BitVec.ofInt IntKind.u64.bits (Int.fdiv (IntKind.u64.wrap ((IntKind.u64.wrap (BitVec.ofInt IntKind.u64.bits (Int.fdiv a (2 ^ 1)) &&& BitVec.ofInt IntKind.u64.bits 6148914691236517205).toNat)+(IntKind.u64.wrap (BitVec.ofInt IntKind.u64.bits a &&& BitVec.ofInt IntKind.u64.bits 6148914691236517205).toNat))) (2 ^ 2)) &&& BitVec.ofInt IntKind.u64.bits 3689348814741910323).toNat)+(IntKind.u64.wrap (BitVec.ofInt IntKind.u64.bits (IntKind.u64.wrap ((IntKind.u64.wrap (BitVec.ofInt IntKind.u64.bits (Int.fdiv a (2 ^ 1)) &&& BitVec.ofInt IntKind.u64.bits 6148914691236517205).toNat)+(IntKind.u64.wrap (BitVec.ofInt IntKind.u64.bits a &&& BitVec.ofInt IntKind.u64.bits 6148914691236517205).toNat))) &&& BitVec.ofInt IntKind.u64.bits 3689348814741910323).toNat))))) &&& BitVec.ofInt IntKind.u64.bits 1085102592571150095).toNat)+(Int.fdiv (IntKind.u64.wrap (BitVec.ofInt IntKind.u64.bits (IntKind.u64.wrap ((Int.fdiv (IntKind.u64.wrap ((IntKind.u64.wrap (BitVec.ofInt IntKind.u64.bits (Int.fdiv (IntKind.u64.wrap ((IntKind.u64.wrap (BitVec.ofInt IntKind.u64.bits (Int.fdiv a (2 ^ 1)) &&& BitVec.ofInt IntKind.u64.bits 6148914691236517205).toNat)+(IntKind.u64.wrap (BitVec.ofInt IntKind.u64.bits a &&& BitVec.ofInt IntKind.u64.bits 6148914691236517205).toNat))) (2 ^ 2)) &&& BitVec.ofInt IntKind.u64.bits 3689348814741910323).toNat)+(IntKind.u64.wrap (BitVec.ofInt IntKind.u64.bits (IntKind.u64.wrap ((IntKind.u64.wrap (BitVec.ofInt IntKind.u64.bits (Int.fdiv a (2 ^ 1)) &&& BitVec.ofInt IntKind.u64.bits 6148914691236517205).toNat)+(IntKind.u64.wrap (BitVec.ofInt IntKind.u64.bits a &&& BitVec.ofInt IntKind.u64.bits 6148914691236517205).toNat))) &&& BitVec.ofInt IntKind.u64.bits 3689348814741910323).toNat))) (2 ^ 4))+(IntKind.u64.wrap ((IntKind.u64.wrap (BitVec.ofInt IntKind.u64.bits (Int.fdiv (IntKind.u64.wrap ((IntKind.u64.wrap (BitVec.ofInt IntKind.u64.bits (Int.fdiv a (2 ^ 1)) &&& BitVec.ofInt IntKind.u64.bits 6148914691236517205).toNat)+(IntKind.u64.wrap (BitVec.ofInt IntKind.u64.bits a &&& BitVec.ofInt IntKind.u64.bits 6148914691236517205).toNat))) (2 ^ 2)) &&& BitVec.ofInt IntKind.u64.bits 3689348814741910323).toNat)+(IntKind.u64.wrap (BitVec.ofInt IntKind.u64.bits (IntKind.u64.wrap ((IntKind.u64.wrap (BitVec.ofInt IntKind.u64.bits (Int.fdiv a (2 ^ 1)) &&& BitVec.ofInt IntKind.u64.bits 6148914691236517205).toNat)+(IntKind.u64.wrap (BitVec.ofInt IntKind.u64.bits a &&& BitVec.ofInt IntKind.u64.bits 6148914691236517205).toNat))) &&& BitVec.ofInt IntKind.u64.bits 3689348814741910323).toNat))))) &&& BitVec.ofInt IntKind.u64.bits 1085102592571150095).toNat) (2 ^ 8)))) (2 ^ 16)))) (2 ^ 32))))) &&& BitVec.ofInt IntKind.i64.bits 127).toNat)
noncomputable def ZcH (a:Int):Option Int:=
 (Zcp a).bind fun x0=>
 some x0
def Zrm:List Int:=[0,1,56,2,57,49,28,3,61,58,42,50,38,29,17,4,62,47,59,36,45,43,51,22,53,39,33,30,24,18,12,5,63,55,48,27,60,41,37,16,46,35,44,21,52,32,23,11,54,26,40,15,34,20,31,10,25,14,19,9,13,8,7,6]
def Zdq (a:Int):Option Int:=some (bif a==0 then 64 else w64 (Zrm.getD (Int.fdiv (IntKind.u64.wrap ((IntKind.u64.wrap (BitVec.ofInt IntKind.u64.bits a &&& BitVec.ofInt IntKind.u64.bits (IntKind.u64.wrap (0-a))).toNat)*285870213051353865)) (2 ^ (min (Int.toNat 58) IntKind.u64.bits))).toNat 0))
noncomputable def ZcG (a:Int):Option Int:=
 (Zdq a).bind fun x0=>
 some x0
noncomputable def ZiB (a:Int):Option (Int×Bool):=
 (ZgO a).bind fun x0=>
 bif (x0 != 0) then
  some (0,false)
 else
  (ZcH (IntKind.u64.wrap a)).bind fun x1=>
  bif (x1 != 1) then
   some (0,false)
  else
   (ZcG (IntKind.u64.wrap a)).bind fun x2=>
   some (x2,true)
noncomputable def ZeJ (a:ZV):Option Bool:=
 (Zbr a.op 0 5).bind fun x0=>
 bif x0 then
  (Zbr a.arg 0 2147483647).bind fun x1=>
  bif x1 then
   (Zbr a.work 1 100).bind fun x2=>
   bif x2 then
    some false
   else
    some true
  else
   some true
 else
  some true
noncomputable def ZaX (a:(List ZV)) (b:(ZV→Option Bool)) (s0:Int):Option (Int⊕(Int⊕Unit)):=
 bif (decide (s0<(a.length:Int))) then
  (ZE a s0).bind fun x1=>
  (b x1).bind fun x2=>
  bif x2 then
   some (.inr (.inl s0))
  else
   some (.inl (w64 (s0+1)))
 else
  some (.inr (.inr ()))
noncomputable def ZbX (a:(List ZV)) (b:(ZV→Option Bool)):Option Int:=
 (lp (ZaX a b) 0).bind fun r3=>
 match r3 with
 | (.inl r3)=>
  some r3
 | (.inr r3)=>
  some (-1)
noncomputable def ZaY (a:(List ZV)) (b:(ZV→Option Bool)):Option Bool:=
 (ZbX a b).bind fun x0=>
 bif (decide (0≤x0)) then
  some true
 else
  some false
noncomputable def Zgx (a:Zj) (b:Int) (c:Int):Option Bool:=
 bif (b != c) then
  (Zbr b 0 (w64 ((a.parts.length:Int)-1))).bind fun x0=>
  bif x0 then
   (Zbr c 0 (w64 ((a.parts.length:Int)-1))).bind fun x1=>
   bif x1 then
    some true
   else
    some false
  else
   some false
 else
  some false
noncomputable def Zbh (a:(List Zm)) (b:Zm) (s0:Int):Option (Int⊕(Int⊕Unit)):=
 bif (decide (s0<(a.length:Int))) then
  (ZE a s0).bind fun x1=>
  bif ((b.src==x1.src)&&((b.dst==x1.dst)&&true)) then
   some (.inr (.inl s0))
  else
   some (.inl (w64 (s0+1)))
 else
  some (.inr (.inr ()))
noncomputable def Zcw (a:(List Zm)) (b:Zm):Option Int:=
 (lp (Zbh a b) 0).bind fun r2=>
 match r2 with
 | (.inl r2)=>
  some r2
 | (.inr r2)=>
  some (-1)
noncomputable def ZaW (a:(List Zm)) (b:Zm):Option Bool:=
 (Zcw a b).bind fun x0=>
 bif (decide (0≤x0)) then
  some true
 else
  some false
noncomputable def Zc1 (a:Zi) (b1:Int) (b2:Int):Option Bool:=
 bif (a.user==b1) then
  bif (a.pos==b2) then
   some true
  else
   some false
 else
  some false
noncomputable def ZaC (a:(List Zi)) (b:(Zi→Option Bool)) (s0:Int):Option (Int⊕(Int⊕Unit)):=
 bif (decide (s0<(a.length:Int))) then
  (ZE a s0).bind fun x1=>
  (b x1).bind fun x2=>
  bif x2 then
   some (.inr (.inl s0))
  else
   some (.inl (w64 (s0+1)))
 else
  some (.inr (.inr ()))
noncomputable def Zbi (a:(List Zi)) (b:(Zi→Option Bool)):Option Int:=
 (lp (ZaC a b) 0).bind fun r3=>
 match r3 with
 | (.inl r3)=>
  some r3
 | (.inr r3)=>
  some (-1)
noncomputable def ZaD (a:(List Zi)) (b:(Zi→Option Bool)):Option Bool:=
 (Zbi a b).bind fun x0=>
 bif (decide (0≤x0)) then
  some true
 else
  some false
noncomputable def Ze0 (a:Zj) (b:(List Int)) (s0:Int):Option (Int⊕(Unit⊕Unit)):=
 bif (decide (s0<(b.length:Int))) then
  (ZE b s0).bind fun x1=>
  (Zbr x1 0 (w64 ((a.parts.length:Int)-1))).bind fun x2=>
  bif x2 then
   bif (decide (0<s0)) then
    (ZE b (w64 (s0-1))).bind fun x3=>
    bif (decide (x1≤x3)) then
     some (.inr (.inl ()))
    else
     some (.inl (w64 (s0+1)))
   else
    some (.inl (w64 (s0+1)))
  else
   some (.inr (.inl ()))
 else
  some (.inr (.inr ()))
noncomputable def Zgy (a:Zj) (b:(List Int)):Option Bool:=
 (lp (Ze0 a b) 0).bind fun r4=>
 match r4 with
 | (.inl r4)=>
  some false
 | (.inr r4)=>
  bif (decide (0<(b.length:Int))) then
   some true
  else
   some false
noncomputable def Zby (a:(List Int)) (b:Int) (s0:Int):Option (Int⊕(Int⊕Unit)):=
 bif (decide (s0<(a.length:Int))) then
  (ZE a s0).bind fun x1=>
  bif (b==x1) then
   some (.inr (.inl s0))
  else
   some (.inl (w64 (s0+1)))
 else
  some (.inr (.inr ()))
noncomputable def ZcV (a:(List Int)) (b:Int):Option Int:=
 (lp (Zby a b) 0).bind fun r2=>
 match r2 with
 | (.inl r2)=>
  some r2
 | (.inr r2)=>
  some (-1)
noncomputable def Zbx (a:(List Int)) (b:Int):Option Bool:=
 (ZcV a b).bind fun x0=>
 bif (decide (0≤x0)) then
  some true
 else
  some false
noncomputable def Zc3 (a:Int) (b1:(List Int)):Option Bool:=
 (Zbx b1 a).bind fun x0=>
 bif x0 then
  some true
 else
  some false
noncomputable def Zap (a:(List Int)) (b:(Int→Option Bool)) (s0:Int):Option (Int⊕(Int⊕Unit)):=
 bif (decide (s0<(a.length:Int))) then
  (ZE a s0).bind fun x1=>
  (b x1).bind fun x2=>
  bif x2 then
   some (.inr (.inl s0))
  else
   some (.inl (w64 (s0+1)))
 else
  some (.inr (.inr ()))
noncomputable def ZaZ (a:(List Int)) (b:(Int→Option Bool)):Option Int:=
 (lp (Zap a b) 0).bind fun r3=>
 match r3 with
 | (.inl r3)=>
  some r3
 | (.inr r3)=>
  some (-1)
noncomputable def Z7 (a:(List Int)) (b:(Int→Option Bool)):Option Bool:=
 (ZaZ a b).bind fun x0=>
 bif (decide (0≤x0)) then
  some true
 else
  some false
noncomputable def Zdd (a:Zj) (s4:Int):Option (Int⊕(Unit⊕Unit)):=
 bif (decide (s4<(a.edges.length:Int))) then
  (ZE a.edges s4).bind fun x5=>
  (Zgx a x5.src x5.dst).bind fun x6=>
  bif x6 then
   bif (decide (0≤s4)) then
    bif (Nat.ble s4.toNat (List.length a.edges)) then
     (ZaW (List.take s4.toNat a.edges) x5).bind fun x7=>
     bif x7 then
      some (.inr (.inl ()))
     else
      some (.inl (w64 (s4+1)))
    else
     none
   else
    none
  else
   some (.inr (.inl ()))
 else
  some (.inr (.inr ()))
noncomputable def Zdh (a:Zj) (s9:Int):Option (Int⊕(Unit⊕Unit)):=
 bif (decide (s9<(a.futures.length:Int))) then
  (ZE a.futures s9).bind fun x10=>
  (Zgx a x10.maker x10.user).bind fun x11=>
  bif x11 then
   (ZE a.parts x10.user).bind fun x12=>
   (Zbr x10.pos 1 (w64 (x12.work-1))).bind fun x13=>
   bif x13 then
    bif (decide (0≤s9)) then
     bif (Nat.ble s9.toNat (List.length a.futures)) then
      (ZaD (List.take s9.toNat a.futures) (fun z0=>Zc1 z0 x10.user x10.pos)).bind fun x14=>
      bif x14 then
       some (.inr (.inl ()))
      else
       some (.inl (w64 (s9+1)))
     else
      none
    else
     none
   else
    some (.inr (.inl ()))
  else
   some (.inr (.inl ()))
 else
  some (.inr (.inr ()))
noncomputable def Zdf (a:Zj) (s16:Int):Option (Int⊕(Unit⊕Unit)):=
 bif (decide (s16<(a.barriers.length:Int))) then
  (ZE a.barriers s16).bind fun x17=>
  (Zgy a x17.ins).bind fun x18=>
  bif x18 then
   (Zgy a x17.outs).bind fun x19=>
   bif x19 then
    (Z7 x17.ins (fun z0=>Zc3 z0 x17.outs)).bind fun x20=>
    bif x20 then
     some (.inr (.inl ()))
    else
     some (.inl (w64 (s16+1)))
   else
    some (.inr (.inl ()))
  else
   some (.inr (.inl ()))
 else
  some (.inr (.inr ()))
noncomputable def ZeQ (a:Zj):Option Int:=
 (Zbr (a.parts.length:Int) 1 16).bind fun x0=>
 bif x0 then
  bif (decide (48<(a.edges.length:Int))) then
   some 50
  else
   bif (decide (16<(a.futures.length:Int))) then
    some 50
   else
    bif (decide (4<(a.barriers.length:Int))) then
     some 50
    else
     (ZiB a.period).bind fun x1=>
     bif x1.2 then
      bif (decide (4096<a.period)) then
       some 51
      else
       (Zbr a.deadline 1 a.period).bind fun x2=>
       bif x2 then
        (ZaY a.parts (fun z0=>ZeJ z0)).bind fun x3=>
        bif x3 then
         some 52
        else
         (lp (Zdd a) 0).bind fun r8=>
         match r8 with
         | (.inl r8)=>
          some 53
         | (.inr r8)=>
          (lp (Zdh a) 0).bind fun r15=>
          match r15 with
          | (.inl r15)=>
           some 54
          | (.inr r15)=>
           (lp (Zdf a) 0).bind fun r21=>
           match r21 with
           | (.inl r21)=>
            some 55
           | (.inr r21)=>
            some 0
       else
        some 51
     else
      some 51
 else
  some 50
noncomputable def Zt (a:Int) (b:Int) (c4:(List Zi)):Option Int:=
 (ZE c4 a).bind fun x0=>
 (ZE c4 b).bind fun x1=>
 some (w64 (x0.pos-x1.pos))
noncomputable def Zgj (a:Int):Option Int:=
 bif (decide (4294967296≤a)) then
  bif (decide (65536≤(Int.fdiv a (2 ^ 32)))) then
   bif (decide (256≤(Int.fdiv (Int.fdiv a (2 ^ 32)) (2 ^ 16)))) then
    bif (decide (0≤(IntKind.u8.wrap (Int.fdiv (Int.fdiv (Int.fdiv a (2 ^ 32)) (2 ^ 16)) (2 ^ 8))))) then
     (Zrz[(IntKind.u8.wrap (Int.fdiv (Int.fdiv (Int.fdiv a (2 ^ 32)) (2 ^ 16)) (2 ^ 8))).toNat]?).bind fun x0=>
     some (w64 (56+(w64 (x0.toNat:Int))))
    else
     none
   else
    bif (decide (0≤(IntKind.u8.wrap (Int.fdiv (Int.fdiv a (2 ^ 32)) (2 ^ 16))))) then
     (Zrz[(IntKind.u8.wrap (Int.fdiv (Int.fdiv a (2 ^ 32)) (2 ^ 16))).toNat]?).bind fun x1=>
     some (w64 (48+(w64 (x1.toNat:Int))))
    else
     none
  else
   bif (decide (256≤(Int.fdiv a (2 ^ 32)))) then
    bif (decide (0≤(IntKind.u8.wrap (Int.fdiv (Int.fdiv a (2 ^ 32)) (2 ^ 8))))) then
     (Zrz[(IntKind.u8.wrap (Int.fdiv (Int.fdiv a (2 ^ 32)) (2 ^ 8))).toNat]?).bind fun x2=>
     some (w64 (40+(w64 (x2.toNat:Int))))
    else
     none
   else
    bif (decide (0≤(IntKind.u8.wrap (Int.fdiv a (2 ^ 32))))) then
     (Zrz[(IntKind.u8.wrap (Int.fdiv a (2 ^ 32))).toNat]?).bind fun x3=>
     some (w64 (32+(w64 (x3.toNat:Int))))
    else
     none
 else
  bif (decide (65536≤a)) then
   bif (decide (256≤(Int.fdiv a (2 ^ 16)))) then
    bif (decide (0≤(IntKind.u8.wrap (Int.fdiv (Int.fdiv a (2 ^ 16)) (2 ^ 8))))) then
     (Zrz[(IntKind.u8.wrap (Int.fdiv (Int.fdiv a (2 ^ 16)) (2 ^ 8))).toNat]?).bind fun x4=>
     some (w64 (24+(w64 (x4.toNat:Int))))
    else
     none
   else
    bif (decide (0≤(IntKind.u8.wrap (Int.fdiv a (2 ^ 16))))) then
     (Zrz[(IntKind.u8.wrap (Int.fdiv a (2 ^ 16))).toNat]?).bind fun x5=>
     some (w64 (16+(w64 (x5.toNat:Int))))
    else
     none
  else
   bif (decide (256≤a)) then
    bif (decide (0≤(IntKind.u8.wrap (Int.fdiv a (2 ^ 8))))) then
     (Zrz[(IntKind.u8.wrap (Int.fdiv a (2 ^ 8))).toNat]?).bind fun x6=>
     some (w64 (8+(w64 (x6.toNat:Int))))
    else
     none
   else
    bif (decide (0≤(IntKind.u8.wrap a))) then
     (Zrz[(IntKind.u8.wrap a).toNat]?).bind fun x7=>
     some (w64 (0+(w64 (x7.toNat:Int))))
    else
     none
noncomputable def Zd7 (a:Int):Option Int:=
 (Zgj a).bind fun x0=>
 some x0
noncomputable def ZX (b:Int) (d:(Int→Int→Option Int)) (s1:Int×(List Int)):Option ((Int×(List Int))⊕(List Int)):=
 bif (decide (b<s1.1)) then
  (ZE s1.2 s1.1).bind fun x2=>
  (ZE s1.2 (w64 (s1.1-1))).bind fun x3=>
  (d x2 x3).bind fun x4=>
  bif (decide (x4<0)) then
   (ZE (List.set s1.2 s1.1.toNat x3) (w64 (s1.1-1))).bind fun x5=>
   some (.inl ((w64 (s1.1-1)),(List.set (List.set s1.2 s1.1.toNat x3) (w64 (s1.1-1)).toNat x2)))
  else
   some (.inr s1.2)
 else
  some (.inr s1.2)
noncomputable def Zam (b:Int) (c:Int) (d:(Int→Int→Option Int)) (s0:Int×(List Int)):Option ((Int×(List Int))⊕(List Int)):=
 bif (decide (s0.1<c)) then
  (lp (ZX b d) (s0.1,s0.2)).bind fun r6=>
  some (.inl ((w64 (s0.1+1)),r6))
 else
  some (.inr s0.2)
noncomputable def ZW (b:Int) (c:Int) (d:(Int→Int→Option Int)) (m0_0:(List Int)):Option (List Int):=
 (lp (Zam b c d) ((w64 (b+1)),m0_0)).bind fun r7=>
 some r7
noncomputable def ZK (c:Int) (d:Int) (e:(Int→Int→Option Int)) (s0:Int×(List Int)):Option ((Int×(List Int))⊕((List Int)⊕(List Int))):=
 bif (decide (c≤(w64 ((w64 (2*s0.1))+1)))) then
  some (.inr (.inl s0.2))
 else
  bif (decide ((w64 ((w64 ((w64 (2*s0.1))+1))+1))<c)) then
   (ZE s0.2 (w64 (d+(w64 ((w64 (2*s0.1))+1))))).bind fun x1=>
   (ZE s0.2 (w64 ((w64 (d+(w64 ((w64 (2*s0.1))+1))))+1))).bind fun x2=>
   (e x1 x2).bind fun x3=>
   bif (decide (x3<0)) then
    (ZE s0.2 (w64 (d+s0.1))).bind fun x4=>
    (ZE s0.2 (w64 (d+(w64 ((w64 ((w64 (2*s0.1))+1))+1))))).bind fun x5=>
    (e x4 x5).bind fun x6=>
    bif (decide (x6<0)) then
     (ZE (List.set s0.2 (w64 (d+s0.1)).toNat x5) (w64 (d+(w64 ((w64 ((w64 (2*s0.1))+1))+1))))).bind fun x7=>
     some (.inl ((w64 ((w64 ((w64 (2*s0.1))+1))+1)),(List.set (List.set s0.2 (w64 (d+s0.1)).toNat x5) (w64 (d+(w64 ((w64 ((w64 (2*s0.1))+1))+1)))).toNat x4)))
    else
     some (.inr (.inr s0.2))
   else
    (ZE s0.2 (w64 (d+s0.1))).bind fun x8=>
    (e x8 x1).bind fun x9=>
    bif (decide (x9<0)) then
     (ZE (List.set s0.2 (w64 (d+s0.1)).toNat x1) (w64 (d+(w64 ((w64 (2*s0.1))+1))))).bind fun x10=>
     some (.inl ((w64 ((w64 (2*s0.1))+1)),(List.set (List.set s0.2 (w64 (d+s0.1)).toNat x1) (w64 (d+(w64 ((w64 (2*s0.1))+1)))).toNat x8)))
    else
     some (.inr (.inr s0.2))
  else
   (ZE s0.2 (w64 (d+s0.1))).bind fun x11=>
   (ZE s0.2 (w64 (d+(w64 ((w64 (2*s0.1))+1))))).bind fun x12=>
   (e x11 x12).bind fun x13=>
   bif (decide (x13<0)) then
    (ZE (List.set s0.2 (w64 (d+s0.1)).toNat x12) (w64 (d+(w64 ((w64 (2*s0.1))+1))))).bind fun x14=>
    some (.inl ((w64 ((w64 (2*s0.1))+1)),(List.set (List.set s0.2 (w64 (d+s0.1)).toNat x12) (w64 (d+(w64 ((w64 (2*s0.1))+1)))).toNat x11)))
   else
    some (.inr (.inr s0.2))
noncomputable def ZaE (b:Int) (c:Int) (d:Int) (e:(Int→Int→Option Int)) (m0_0:(List Int)):Option (List Int):=
 (lp (ZK c d e) (b,m0_0)).bind fun r15=>
 match r15 with
 | (.inl r15)=>
  some r15
 | (.inr r15)=>
  some r15
noncomputable def ZaH (b:Int) (c:Int) (d:(Int→Int→Option Int)) (s0:Int×(List Int)):Option ((Int×(List Int))⊕(List Int)):=
 bif (decide (0≤s0.1)) then
  (ZaE s0.1 (w64 (c-b)) b d s0.2).bind fun x1=>
  some (.inl ((w64 (s0.1-1)),x1))
 else
  some (.inr s0.2)
noncomputable def ZaI (b:Int) (d:(Int→Int→Option Int)) (s3:Int×(List Int)):Option ((Int×(List Int))⊕(List Int)):=
 bif (decide (0≤s3.1)) then
  (ZE s3.2 (w64 (b+s3.1))).bind fun x4=>
  (ZE s3.2 b).bind fun x5=>
  (ZE (List.set s3.2 b.toNat x4) (w64 (b+s3.1))).bind fun x6=>
  (ZaE 0 s3.1 b d (List.set (List.set s3.2 b.toNat x4) (w64 (b+s3.1)).toNat x5)).bind fun x7=>
  some (.inl ((w64 (s3.1-1)),x7))
 else
  some (.inr s3.2)
noncomputable def Z8 (b:Int) (c:Int) (d:(Int→Int→Option Int)) (m0_0:(List Int)):Option (List Int):=
 (lp (ZaH b c d) ((w64 (Int.tdiv (w64 ((w64 (c-b))-1)) 2)),m0_0)).bind fun r2=>
 (lp (ZaI b d) ((w64 ((w64 (c-b))-1)),r2)).bind fun r8=>
 some r8
noncomputable def ZaR (b:Int) (c:Int) (e:(Int→Int→Option Int)) (m0_0:(List Int)) (m1_0:Int):Option (Int×Int×Int):=
 (ZE m0_0 c).bind fun x0=>
 (ZE m0_0 b).bind fun x1=>
 (e x0 x1).bind fun x2=>
 bif (decide (x2<0)) then
  some (c,b,(w64 (m1_0+1)))
 else
  some (b,c,m1_0)
noncomputable def ZaQ (b:Int) (c:Int) (d:Int) (f:(Int→Int→Option Int)) (m0_0:(List Int)) (m1_0:Int):Option (Int×Int):=
 (ZaR b c f m0_0 m1_0).bind fun x0=>
 (ZaR x0.2.1 d f m0_0 x0.2.2).bind fun x1=>
 (ZaR x0.1 x1.1 f m0_0 x1.2.2).bind fun x2=>
 some (x2.2.1,x2.2.2)
noncomputable def Z9 (b:Int) (d:(Int→Int→Option Int)) (m0_0:(List Int)) (m1_0:Int):Option (Int×Int):=
 (ZaQ (w64 (b-1)) b (w64 (b+1)) d m0_0 m1_0).bind fun x0=>
 some (x0.1,x0.2)
noncomputable def ZO (b:Int) (c:Int) (d:(Int→Int→Option Int)) (m0_0:(List Int)):Option (Int×Int):=
 bif (decide (8≤(w64 (c-b)))) then
  bif (decide (50≤(w64 (c-b)))) then
   (Z9 (w64 (b+(w64 ((w64 (Int.tdiv (w64 (c-b)) 4))*1)))) d m0_0 0).bind fun x0=>
   (Z9 (w64 (b+(w64 ((w64 (Int.tdiv (w64 (c-b)) 4))*2)))) d m0_0 x0.2).bind fun x1=>
   (Z9 (w64 (b+(w64 ((w64 (Int.tdiv (w64 (c-b)) 4))*3)))) d m0_0 x1.2).bind fun x2=>
   (ZaQ x0.1 x1.1 x2.1 d m0_0 x2.2).bind fun x3=>
   bif (x3.2==0) then
    some (x3.1,1)
   else
    bif (x3.2==12) then
     some (x3.1,2)
    else
     some (x3.1,0)
  else
   (ZaQ (w64 (b+(w64 ((w64 (Int.tdiv (w64 (c-b)) 4))*1)))) (w64 (b+(w64 ((w64 (Int.tdiv (w64 (c-b)) 4))*2)))) (w64 (b+(w64 ((w64 (Int.tdiv (w64 (c-b)) 4))*3)))) d m0_0 0).bind fun x4=>
   bif (x4.2==0) then
    some (x4.1,1)
   else
    bif (x4.2==12) then
     some (x4.1,2)
    else
     some (x4.1,0)
 else
  some ((w64 (b+(w64 ((w64 (Int.tdiv (w64 (c-b)) 4))*2)))),1)
noncomputable def Z6 (s0:Int×Int×(List Int)):Option ((Int×Int×(List Int))⊕(List Int)):=
 bif (decide (s0.1<s0.2.1)) then
  (ZE s0.2.2 s0.2.1).bind fun x1=>
  (ZE s0.2.2 s0.1).bind fun x2=>
  (ZE (List.set s0.2.2 s0.1.toNat x1) s0.2.1).bind fun x3=>
  some (.inl ((w64 (s0.1+1)),(w64 (s0.2.1-1)),(List.set (List.set s0.2.2 s0.1.toNat x1) s0.2.1.toNat x2)))
 else
  some (.inr s0.2.2)
noncomputable def ZM (b:Int) (c:Int) (d:(Int→Int→Option Int)) (m0_0:(List Int)):Option (List Int):=
 (lp (Z6) (b,(w64 (c-1)),m0_0)).bind fun r4=>
 some r4
noncomputable def ZL (c:Int) (d:(Int→Int→Option Int)) (s0:Int×Int×(List Int)) (s1:Int):Option (Int⊕Int):=
 bif (decide (s1<c)) then
  (ZE s0.2.2 s1).bind fun x2=>
  (ZE s0.2.2 (w64 (s1-1))).bind fun x3=>
  (d x2 x3).bind fun x4=>
  bif (decide (x4<0)) then
   some (.inr s1)
  else
   some (.inl (w64 (s1+1)))
 else
  some (.inr s1)
noncomputable def ZT (d:(Int→Int→Option Int)) (s9:Int×(List Int)):Option ((Int×(List Int))⊕(List Int)):=
 bif (decide (1≤s9.1)) then
  (ZE s9.2 s9.1).bind fun x10=>
  (ZE s9.2 (w64 (s9.1-1))).bind fun x11=>
  (d x10 x11).bind fun x12=>
  bif (decide (x12<0)) then
   (ZE (List.set s9.2 s9.1.toNat x11) (w64 (s9.1-1))).bind fun x13=>
   some (.inl ((w64 (s9.1-1)),(List.set (List.set s9.2 s9.1.toNat x11) (w64 (s9.1-1)).toNat x10)))
  else
   some (.inr s9.2)
 else
  some (.inr s9.2)
noncomputable def ZG (c:Int) (d:(Int→Int→Option Int)) (s15:Int×(List Int)):Option ((Int×(List Int))⊕(List Int)):=
 bif (decide (s15.1<c)) then
  (ZE s15.2 s15.1).bind fun x16=>
  (ZE s15.2 (w64 (s15.1-1))).bind fun x17=>
  (d x16 x17).bind fun x18=>
  bif (decide (x18<0)) then
   (ZE (List.set s15.2 s15.1.toNat x17) (w64 (s15.1-1))).bind fun x19=>
   some (.inl ((w64 (s15.1+1)),(List.set (List.set s15.2 s15.1.toNat x17) (w64 (s15.1-1)).toNat x16)))
  else
   some (.inr s15.2)
 else
  some (.inr s15.2)
noncomputable def ZS (b:Int) (c:Int) (d:(Int→Int→Option Int)) (s0:Int×Int×(List Int)):Option ((Int×Int×(List Int))⊕((List Int)⊕((List Int)⊕(List Int)))):=
 bif (decide (s0.2.1<5)) then
  (lp (ZL c d s0) s0.1).bind fun r5=>
  bif (r5==c) then
   some (.inr (.inl s0.2.2))
  else
   bif (decide ((w64 (c-b))<50)) then
    some (.inr (.inr (.inl s0.2.2)))
   else
    (ZE s0.2.2 (w64 (r5-1))).bind fun x6=>
    (ZE s0.2.2 r5).bind fun x7=>
    (ZE (List.set s0.2.2 r5.toNat x6) (w64 (r5-1))).bind fun x8=>
    bif (decide (2≤(w64 (r5-b)))) then
     (lp (ZT d) ((w64 (r5-1)),(List.set (List.set s0.2.2 r5.toNat x6) (w64 (r5-1)).toNat x7))).bind fun r14=>
     bif (decide (2≤(w64 (c-r5)))) then
      (lp (ZG c d) ((w64 (r5+1)),r14)).bind fun r20=>
      some (.inl (r5,(w64 (s0.2.1+1)),r20))
     else
      some (.inl (r5,(w64 (s0.2.1+1)),r14))
    else
     bif (decide (2≤(w64 (c-r5)))) then
      (lp (ZG c d) ((w64 (r5+1)),(List.set (List.set s0.2.2 r5.toNat x6) (w64 (r5-1)).toNat x7))).bind fun r26=>
      some (.inl (r5,(w64 (s0.2.1+1)),r26))
     else
      some (.inl (r5,(w64 (s0.2.1+1)),(List.set (List.set s0.2.2 r5.toNat x6) (w64 (r5-1)).toNat x7)))
 else
  some (.inr (.inr (.inr s0.2.2)))
noncomputable def ZQ (b:Int) (c:Int) (d:(Int→Int→Option Int)) (m0_0:(List Int)):Option ((List Int)⊕(List Int)):=
 (lp (ZS b c d) ((w64 (b+1)),0,m0_0)).bind fun r27=>
 match r27 with
 | (.inl r27)=>
  some (.inl r27)
 | (.inr (.inl r27))=>
  some (.inr r27)
 | (.inr (.inr r27))=>
  some (.inr r27)
noncomputable def ZaA (b:Int) (c:Int) (d:Int) (m0_0:(List Int)) (e:(Int→Int→Option Int)) (x0:Int) (x1:Int) (s3:Int):Option (Int⊕Int):=
 bif (decide (s3≤(w64 (c-1)))) then
  (ZE (List.set (List.set m0_0 b.toNat x0) d.toNat x1) s3).bind fun x4=>
  (ZE (List.set (List.set m0_0 b.toNat x0) d.toNat x1) b).bind fun x5=>
  (e x4 x5).bind fun x6=>
  bif (decide (x6<0)) then
   some (.inl (w64 (s3+1)))
  else
   some (.inr s3)
 else
  some (.inr s3)
noncomputable def Zaz (b:Int) (d:Int) (m0_0:(List Int)) (e:(Int→Int→Option Int)) (x0:Int) (x1:Int) (r7:Int) (s8:Int):Option (Int⊕Int):=
 bif (decide (r7≤s8)) then
  (ZE (List.set (List.set m0_0 b.toNat x0) d.toNat x1) s8).bind fun x9=>
  (ZE (List.set (List.set m0_0 b.toNat x0) d.toNat x1) b).bind fun x10=>
  (e x9 x10).bind fun x11=>
  bif (decide (x11<0)) then
   some (.inr s8)
  else
   some (.inl (w64 (s8-1)))
 else
  some (.inr s8)
noncomputable def ZaB (b:Int) (e:(Int→Int→Option Int)) (s19:Int×Int×(List Int)) (s20:Int):Option (Int⊕Int):=
 bif (decide (s20≤s19.2.1)) then
  (ZE s19.2.2 s20).bind fun x21=>
  (ZE s19.2.2 b).bind fun x22=>
  (e x21 x22).bind fun x23=>
  bif (decide (x23<0)) then
   some (.inl (w64 (s20+1)))
  else
   some (.inr s20)
 else
  some (.inr s20)
noncomputable def Zax (b:Int) (e:(Int→Int→Option Int)) (s19:Int×Int×(List Int)) (r24:Int) (s25:Int):Option (Int⊕Int):=
 bif (decide (r24≤s25)) then
  (ZE s19.2.2 s25).bind fun x26=>
  (ZE s19.2.2 b).bind fun x27=>
  (e x26 x27).bind fun x28=>
  bif (decide (x28<0)) then
   some (.inr s25)
  else
   some (.inl (w64 (s25-1)))
 else
  some (.inr s25)
noncomputable def Za4 (b:Int) (e:(Int→Int→Option Int)) (s19:Int×Int×(List Int)):Option ((Int×Int×(List Int))⊕(Int×(List Int))):=
 (lp (ZaB b e s19) s19.1).bind fun r24=>
 (lp (Zax b e s19 r24) s19.2.1).bind fun r29=>
 bif (decide (r29<r24)) then
  some (.inr (r29,s19.2.2))
 else
  (ZE s19.2.2 r29).bind fun x30=>
  (ZE s19.2.2 r24).bind fun x31=>
  (ZE (List.set s19.2.2 r24.toNat x30) r29).bind fun x32=>
  some (.inl ((w64 (r24+1)),(w64 (r29-1)),(List.set (List.set s19.2.2 r24.toNat x30) r29.toNat x31)))
noncomputable def Zr (b:Int) (c:Int) (d:Int) (e:(Int→Int→Option Int)) (m0_0:(List Int)):Option ((Int×(List Int))⊕(Int×(List Int))):=
 (ZE m0_0 d).bind fun x0=>
 (ZE m0_0 b).bind fun x1=>
 (ZE (List.set m0_0 b.toNat x0) d).bind fun x2=>
 (lp (ZaA b c d m0_0 e x0 x1) (w64 (b+1))).bind fun r7=>
 (lp (Zaz b d m0_0 e x0 x1 r7) (w64 (c-1))).bind fun r12=>
 bif (decide (r12<r7)) then
  (ZE (List.set (List.set m0_0 b.toNat x0) d.toNat x1) b).bind fun x13=>
  (ZE (List.set (List.set m0_0 b.toNat x0) d.toNat x1) r12).bind fun x14=>
  (ZE (List.set (List.set (List.set m0_0 b.toNat x0) d.toNat x1) r12.toNat x13) b).bind fun x15=>
  some (.inl (r12,(List.set (List.set (List.set (List.set m0_0 b.toNat x0) d.toNat x1) r12.toNat x13) b.toNat x14)))
 else
  (ZE (List.set (List.set m0_0 b.toNat x0) d.toNat x1) r12).bind fun x16=>
  (ZE (List.set (List.set m0_0 b.toNat x0) d.toNat x1) r7).bind fun x17=>
  (ZE (List.set (List.set (List.set m0_0 b.toNat x0) d.toNat x1) r7.toNat x16) r12).bind fun x18=>
  (lp (Za4 b e) ((w64 (r7+1)),(w64 (r12-1)),(List.set (List.set (List.set (List.set m0_0 b.toNat x0) d.toNat x1) r7.toNat x16) r12.toNat x17))).bind fun r33=>
  (ZE r33.2 b).bind fun x34=>
  (ZE r33.2 r33.1).bind fun x35=>
  (ZE (List.set r33.2 r33.1.toNat x34) b).bind fun x36=>
  some (.inr (r33.1,(List.set (List.set r33.2 r33.1.toNat x34) b.toNat x35)))
noncomputable def Zag (b:Int) (e:(Int→Int→Option Int)) (s3:Int×Int×(List Int)) (s4:Int):Option (Int⊕Int):=
 bif (decide (s4≤s3.2.1)) then
  (ZE s3.2.2 b).bind fun x5=>
  (ZE s3.2.2 s4).bind fun x6=>
  (e x5 x6).bind fun x7=>
  bif (decide (x7<0)) then
   some (.inr s4)
  else
   some (.inl (w64 (s4+1)))
 else
  some (.inr s4)
noncomputable def Zah (b:Int) (e:(Int→Int→Option Int)) (s3:Int×Int×(List Int)) (r8:Int) (s9:Int):Option (Int⊕Int):=
 bif (decide (r8≤s9)) then
  (ZE s3.2.2 b).bind fun x10=>
  (ZE s3.2.2 s9).bind fun x11=>
  (e x10 x11).bind fun x12=>
  bif (decide (x12<0)) then
   some (.inl (w64 (s9-1)))
  else
   some (.inr s9)
 else
  some (.inr s9)
noncomputable def Zay (b:Int) (e:(Int→Int→Option Int)) (s3:Int×Int×(List Int)):Option ((Int×Int×(List Int))⊕(Int×(List Int))):=
 (lp (Zag b e s3) s3.1).bind fun r8=>
 (lp (Zah b e s3 r8) s3.2.1).bind fun r13=>
 bif (decide (r13<r8)) then
  some (.inr (r8,s3.2.2))
 else
  (ZE s3.2.2 r13).bind fun x14=>
  (ZE s3.2.2 r8).bind fun x15=>
  (ZE (List.set s3.2.2 r8.toNat x14) r13).bind fun x16=>
  some (.inl ((w64 (r8+1)),(w64 (r13-1)),(List.set (List.set s3.2.2 r8.toNat x14) r13.toNat x15)))
noncomputable def ZD (b:Int) (c:Int) (d:Int) (e:(Int→Int→Option Int)) (m0_0:(List Int)):Option (Int×(List Int)):=
 (ZE m0_0 d).bind fun x0=>
 (ZE m0_0 b).bind fun x1=>
 (ZE (List.set m0_0 b.toNat x0) d).bind fun x2=>
 (lp (Zay b e) ((w64 (b+1)),(w64 (c-1)),(List.set (List.set m0_0 b.toNat x0) d.toNat x1))).bind fun r17=>
 some (r17.1,r17.2)
noncomputable def Zcn (a:Int):Option Int:=
 (Zd7 (IntKind.u64.wrap a)).bind fun x0=>
 bif (decide (x0<0)) then
  none
 else
  some (IntKind.u64.wrap (1*2 ^ (min (x0).toNat IntKind.u64.bits)))
noncomputable def Zdn:Option Unit:=
 some ()
noncomputable def ZaG (b:Int) (c:Int) (x0:Int) (s1:Int×(List Int)×Int):Option ((Int×(List Int)×Int)⊕(List Int)):=
 bif (decide (s1.1≤(w64 ((w64 (b+(w64 ((w64 (Int.tdiv (w64 (c-b)) 4))*2))))+1)))) then
  Zdn.bind fun x2=>
  bif (decide ((w64 (c-b))≤(w64 (IntKind.u64.wrap (BitVec.ofInt IntKind.u64.bits (IntKind.u64.wrap (BitVec.ofInt IntKind.u64.bits (IntKind.u64.wrap (BitVec.ofInt IntKind.u64.bits (IntKind.u64.wrap (BitVec.ofInt IntKind.u64.bits s1.2.2 ^^^ BitVec.ofInt IntKind.u64.bits (IntKind.u64.wrap (s1.2.2*2 ^ 13))).toNat) ^^^ BitVec.ofInt IntKind.u64.bits (Int.fdiv (IntKind.u64.wrap (BitVec.ofInt IntKind.u64.bits s1.2.2 ^^^ BitVec.ofInt IntKind.u64.bits (IntKind.u64.wrap (s1.2.2*2 ^ 13))).toNat) (2 ^ 7))).toNat) ^^^ BitVec.ofInt IntKind.u64.bits (IntKind.u64.wrap ((IntKind.u64.wrap (BitVec.ofInt IntKind.u64.bits (IntKind.u64.wrap (BitVec.ofInt IntKind.u64.bits s1.2.2 ^^^ BitVec.ofInt IntKind.u64.bits (IntKind.u64.wrap (s1.2.2*2 ^ 13))).toNat) ^^^ BitVec.ofInt IntKind.u64.bits (Int.fdiv (IntKind.u64.wrap (BitVec.ofInt IntKind.u64.bits s1.2.2 ^^^ BitVec.ofInt IntKind.u64.bits (IntKind.u64.wrap (s1.2.2*2 ^ 13))).toNat) (2 ^ 7))).toNat)*2 ^ 17))).toNat) &&& BitVec.ofInt IntKind.u64.bits (IntKind.u64.wrap (x0-1))).toNat)))) then
   (ZE s1.2.1 (w64 (b+(w64 ((w64 (IntKind.u64.wrap (BitVec.ofInt IntKind.u64.bits (IntKind.u64.wrap (BitVec.ofInt IntKind.u64.bits (IntKind.u64.wrap (BitVec.ofInt IntKind.u64.bits (IntKind.u64.wrap (BitVec.ofInt IntKind.u64.bits s1.2.2 ^^^ BitVec.ofInt IntKind.u64.bits (IntKind.u64.wrap (s1.2.2*2 ^ 13))).toNat) ^^^ BitVec.ofInt IntKind.u64.bits (Int.fdiv (IntKind.u64.wrap (BitVec.ofInt IntKind.u64.bits s1.2.2 ^^^ BitVec.ofInt IntKind.u64.bits (IntKind.u64.wrap (s1.2.2*2 ^ 13))).toNat) (2 ^ 7))).toNat) ^^^ BitVec.ofInt IntKind.u64.bits (IntKind.u64.wrap ((IntKind.u64.wrap (BitVec.ofInt IntKind.u64.bits (IntKind.u64.wrap (BitVec.ofInt IntKind.u64.bits s1.2.2 ^^^ BitVec.ofInt IntKind.u64.bits (IntKind.u64.wrap (s1.2.2*2 ^ 13))).toNat) ^^^ BitVec.ofInt IntKind.u64.bits (Int.fdiv (IntKind.u64.wrap (BitVec.ofInt IntKind.u64.bits s1.2.2 ^^^ BitVec.ofInt IntKind.u64.bits (IntKind.u64.wrap (s1.2.2*2 ^ 13))).toNat) (2 ^ 7))).toNat)*2 ^ 17))).toNat) &&& BitVec.ofInt IntKind.u64.bits (IntKind.u64.wrap (x0-1))).toNat))-(w64 (c-b))))))).bind fun x3=>
   (ZE s1.2.1 s1.1).bind fun x4=>
   (ZE (List.set s1.2.1 s1.1.toNat x3) (w64 (b+(w64 ((w64 (IntKind.u64.wrap (BitVec.ofInt IntKind.u64.bits (IntKind.u64.wrap (BitVec.ofInt IntKind.u64.bits (IntKind.u64.wrap (BitVec.ofInt IntKind.u64.bits (IntKind.u64.wrap (BitVec.ofInt IntKind.u64.bits s1.2.2 ^^^ BitVec.ofInt IntKind.u64.bits (IntKind.u64.wrap (s1.2.2*2 ^ 13))).toNat) ^^^ BitVec.ofInt IntKind.u64.bits (Int.fdiv (IntKind.u64.wrap (BitVec.ofInt IntKind.u64.bits s1.2.2 ^^^ BitVec.ofInt IntKind.u64.bits (IntKind.u64.wrap (s1.2.2*2 ^ 13))).toNat) (2 ^ 7))).toNat) ^^^ BitVec.ofInt IntKind.u64.bits (IntKind.u64.wrap ((IntKind.u64.wrap (BitVec.ofInt IntKind.u64.bits (IntKind.u64.wrap (BitVec.ofInt IntKind.u64.bits s1.2.2 ^^^ BitVec.ofInt IntKind.u64.bits (IntKind.u64.wrap (s1.2.2*2 ^ 13))).toNat) ^^^ BitVec.ofInt IntKind.u64.bits (Int.fdiv (IntKind.u64.wrap (BitVec.ofInt IntKind.u64.bits s1.2.2 ^^^ BitVec.ofInt IntKind.u64.bits (IntKind.u64.wrap (s1.2.2*2 ^ 13))).toNat) (2 ^ 7))).toNat)*2 ^ 17))).toNat) &&& BitVec.ofInt IntKind.u64.bits (IntKind.u64.wrap (x0-1))).toNat))-(w64 (c-b))))))).bind fun x5=>
   some (.inl ((w64 (s1.1+1)),(List.set (List.set s1.2.1 s1.1.toNat x3) (w64 (b+(w64 ((w64 (IntKind.u64.wrap (BitVec.ofInt IntKind.u64.bits (IntKind.u64.wrap (BitVec.ofInt IntKind.u64.bits (IntKind.u64.wrap (BitVec.ofInt IntKind.u64.bits (IntKind.u64.wrap (BitVec.ofInt IntKind.u64.bits s1.2.2 ^^^ BitVec.ofInt IntKind.u64.bits (IntKind.u64.wrap (s1.2.2*2 ^ 13))).toNat) ^^^ BitVec.ofInt IntKind.u64.bits (Int.fdiv (IntKind.u64.wrap (BitVec.ofInt IntKind.u64.bits s1.2.2 ^^^ BitVec.ofInt IntKind.u64.bits (IntKind.u64.wrap (s1.2.2*2 ^ 13))).toNat) (2 ^ 7))).toNat) ^^^ BitVec.ofInt IntKind.u64.bits (IntKind.u64.wrap ((IntKind.u64.wrap (BitVec.ofInt IntKind.u64.bits (IntKind.u64.wrap (BitVec.ofInt IntKind.u64.bits s1.2.2 ^^^ BitVec.ofInt IntKind.u64.bits (IntKind.u64.wrap (s1.2.2*2 ^ 13))).toNat) ^^^ BitVec.ofInt IntKind.u64.bits (Int.fdiv (IntKind.u64.wrap (BitVec.ofInt IntKind.u64.bits s1.2.2 ^^^ BitVec.ofInt IntKind.u64.bits (IntKind.u64.wrap (s1.2.2*2 ^ 13))).toNat) (2 ^ 7))).toNat)*2 ^ 17))).toNat) &&& BitVec.ofInt IntKind.u64.bits (IntKind.u64.wrap (x0-1))).toNat))-(w64 (c-b)))))).toNat x4),(IntKind.u64.wrap (BitVec.ofInt IntKind.u64.bits (IntKind.u64.wrap (BitVec.ofInt IntKind.u64.bits (IntKind.u64.wrap (BitVec.ofInt IntKind.u64.bits s1.2.2 ^^^ BitVec.ofInt IntKind.u64.bits (IntKind.u64.wrap (s1.2.2*2 ^ 13))).toNat) ^^^ BitVec.ofInt IntKind.u64.bits (Int.fdiv (IntKind.u64.wrap (BitVec.ofInt IntKind.u64.bits s1.2.2 ^^^ BitVec.ofInt IntKind.u64.bits (IntKind.u64.wrap (s1.2.2*2 ^ 13))).toNat) (2 ^ 7))).toNat) ^^^ BitVec.ofInt IntKind.u64.bits (IntKind.u64.wrap ((IntKind.u64.wrap (BitVec.ofInt IntKind.u64.bits (IntKind.u64.wrap (BitVec.ofInt IntKind.u64.bits s1.2.2 ^^^ BitVec.ofInt IntKind.u64.bits (IntKind.u64.wrap (s1.2.2*2 ^ 13))).toNat) ^^^ BitVec.ofInt IntKind.u64.bits (Int.fdiv (IntKind.u64.wrap (BitVec.ofInt IntKind.u64.bits s1.2.2 ^^^ BitVec.ofInt IntKind.u64.bits (IntKind.u64.wrap (s1.2.2*2 ^ 13))).toNat) (2 ^ 7))).toNat)*2 ^ 17))).toNat)))
  else
   (ZE s1.2.1 (w64 (b+(w64 (IntKind.u64.wrap (BitVec.ofInt IntKind.u64.bits (IntKind.u64.wrap (BitVec.ofInt IntKind.u64.bits (IntKind.u64.wrap (BitVec.ofInt IntKind.u64.bits (IntKind.u64.wrap (BitVec.ofInt IntKind.u64.bits s1.2.2 ^^^ BitVec.ofInt IntKind.u64.bits (IntKind.u64.wrap (s1.2.2*2 ^ 13))).toNat) ^^^ BitVec.ofInt IntKind.u64.bits (Int.fdiv (IntKind.u64.wrap (BitVec.ofInt IntKind.u64.bits s1.2.2 ^^^ BitVec.ofInt IntKind.u64.bits (IntKind.u64.wrap (s1.2.2*2 ^ 13))).toNat) (2 ^ 7))).toNat) ^^^ BitVec.ofInt IntKind.u64.bits (IntKind.u64.wrap ((IntKind.u64.wrap (BitVec.ofInt IntKind.u64.bits (IntKind.u64.wrap (BitVec.ofInt IntKind.u64.bits s1.2.2 ^^^ BitVec.ofInt IntKind.u64.bits (IntKind.u64.wrap (s1.2.2*2 ^ 13))).toNat) ^^^ BitVec.ofInt IntKind.u64.bits (Int.fdiv (IntKind.u64.wrap (BitVec.ofInt IntKind.u64.bits s1.2.2 ^^^ BitVec.ofInt IntKind.u64.bits (IntKind.u64.wrap (s1.2.2*2 ^ 13))).toNat) (2 ^ 7))).toNat)*2 ^ 17))).toNat) &&& BitVec.ofInt IntKind.u64.bits (IntKind.u64.wrap (x0-1))).toNat))))).bind fun x6=>
   (ZE s1.2.1 s1.1).bind fun x7=>
   (ZE (List.set s1.2.1 s1.1.toNat x6) (w64 (b+(w64 (IntKind.u64.wrap (BitVec.ofInt IntKind.u64.bits (IntKind.u64.wrap (BitVec.ofInt IntKind.u64.bits (IntKind.u64.wrap (BitVec.ofInt IntKind.u64.bits (IntKind.u64.wrap (BitVec.ofInt IntKind.u64.bits s1.2.2 ^^^ BitVec.ofInt IntKind.u64.bits (IntKind.u64.wrap (s1.2.2*2 ^ 13))).toNat) ^^^ BitVec.ofInt IntKind.u64.bits (Int.fdiv (IntKind.u64.wrap (BitVec.ofInt IntKind.u64.bits s1.2.2 ^^^ BitVec.ofInt IntKind.u64.bits (IntKind.u64.wrap (s1.2.2*2 ^ 13))).toNat) (2 ^ 7))).toNat) ^^^ BitVec.ofInt IntKind.u64.bits (IntKind.u64.wrap ((IntKind.u64.wrap (BitVec.ofInt IntKind.u64.bits (IntKind.u64.wrap (BitVec.ofInt IntKind.u64.bits s1.2.2 ^^^ BitVec.ofInt IntKind.u64.bits (IntKind.u64.wrap (s1.2.2*2 ^ 13))).toNat) ^^^ BitVec.ofInt IntKind.u64.bits (Int.fdiv (IntKind.u64.wrap (BitVec.ofInt IntKind.u64.bits s1.2.2 ^^^ BitVec.ofInt IntKind.u64.bits (IntKind.u64.wrap (s1.2.2*2 ^ 13))).toNat) (2 ^ 7))).toNat)*2 ^ 17))).toNat) &&& BitVec.ofInt IntKind.u64.bits (IntKind.u64.wrap (x0-1))).toNat))))).bind fun x8=>
   some (.inl ((w64 (s1.1+1)),(List.set (List.set s1.2.1 s1.1.toNat x6) (w64 (b+(w64 (IntKind.u64.wrap (BitVec.ofInt IntKind.u64.bits (IntKind.u64.wrap (BitVec.ofInt IntKind.u64.bits (IntKind.u64.wrap (BitVec.ofInt IntKind.u64.bits (IntKind.u64.wrap (BitVec.ofInt IntKind.u64.bits s1.2.2 ^^^ BitVec.ofInt IntKind.u64.bits (IntKind.u64.wrap (s1.2.2*2 ^ 13))).toNat) ^^^ BitVec.ofInt IntKind.u64.bits (Int.fdiv (IntKind.u64.wrap (BitVec.ofInt IntKind.u64.bits s1.2.2 ^^^ BitVec.ofInt IntKind.u64.bits (IntKind.u64.wrap (s1.2.2*2 ^ 13))).toNat) (2 ^ 7))).toNat) ^^^ BitVec.ofInt IntKind.u64.bits (IntKind.u64.wrap ((IntKind.u64.wrap (BitVec.ofInt IntKind.u64.bits (IntKind.u64.wrap (BitVec.ofInt IntKind.u64.bits s1.2.2 ^^^ BitVec.ofInt IntKind.u64.bits (IntKind.u64.wrap (s1.2.2*2 ^ 13))).toNat) ^^^ BitVec.ofInt IntKind.u64.bits (Int.fdiv (IntKind.u64.wrap (BitVec.ofInt IntKind.u64.bits s1.2.2 ^^^ BitVec.ofInt IntKind.u64.bits (IntKind.u64.wrap (s1.2.2*2 ^ 13))).toNat) (2 ^ 7))).toNat)*2 ^ 17))).toNat) &&& BitVec.ofInt IntKind.u64.bits (IntKind.u64.wrap (x0-1))).toNat)))).toNat x7),(IntKind.u64.wrap (BitVec.ofInt IntKind.u64.bits (IntKind.u64.wrap (BitVec.ofInt IntKind.u64.bits (IntKind.u64.wrap (BitVec.ofInt IntKind.u64.bits s1.2.2 ^^^ BitVec.ofInt IntKind.u64.bits (IntKind.u64.wrap (s1.2.2*2 ^ 13))).toNat) ^^^ BitVec.ofInt IntKind.u64.bits (Int.fdiv (IntKind.u64.wrap (BitVec.ofInt IntKind.u64.bits s1.2.2 ^^^ BitVec.ofInt IntKind.u64.bits (IntKind.u64.wrap (s1.2.2*2 ^ 13))).toNat) (2 ^ 7))).toNat) ^^^ BitVec.ofInt IntKind.u64.bits (IntKind.u64.wrap ((IntKind.u64.wrap (BitVec.ofInt IntKind.u64.bits (IntKind.u64.wrap (BitVec.ofInt IntKind.u64.bits s1.2.2 ^^^ BitVec.ofInt IntKind.u64.bits (IntKind.u64.wrap (s1.2.2*2 ^ 13))).toNat) ^^^ BitVec.ofInt IntKind.u64.bits (Int.fdiv (IntKind.u64.wrap (BitVec.ofInt IntKind.u64.bits s1.2.2 ^^^ BitVec.ofInt IntKind.u64.bits (IntKind.u64.wrap (s1.2.2*2 ^ 13))).toNat) (2 ^ 7))).toNat)*2 ^ 17))).toNat)))
 else
  some (.inr s1.2.1)
noncomputable def Zae (b:Int) (c:Int) (d:(Int→Int→Option Int)) (m0_0:(List Int)):Option (List Int):=
 bif (decide (8≤(w64 (c-b)))) then
  (Zcn (w64 (c-b))).bind fun x0=>
  (lp (ZaG b c x0) ((w64 ((w64 (b+(w64 ((w64 (Int.tdiv (w64 (c-b)) 4))*2))))-1)),m0_0,(IntKind.u64.wrap (w64 (c-b))))).bind fun r9=>
  some r9
 else
  some m0_0
noncomputable def ZR (e:(Int→Int→Option Int)) (rc:Int→Int→Int→(Int→Int→Option Int)→(List Int)→Option (List Int)) (s0:Int×Int×Int×Bool×Bool×(List Int)):Option ((Int×Int×Int×Bool×Bool×(List Int))⊕(List Int)):=
 bif s0.2.2.2.1 then
  bif s0.2.2.2.2.1 then
   bif (decide ((w64 (s0.2.1-s0.1))≤12)) then
    (ZW s0.1 s0.2.1 e s0.2.2.2.2.2).bind fun x1=>
    some (.inr x1)
   else
    bif (s0.2.2.1==0) then
     (Z8 s0.1 s0.2.1 e s0.2.2.2.2.2).bind fun x2=>
     some (.inr x2)
    else
     (ZO s0.1 s0.2.1 e s0.2.2.2.2.2).bind fun x3=>
     bif (x3.2==2) then
      (ZM s0.1 s0.2.1 e s0.2.2.2.2.2).bind fun x4=>
      (ZQ s0.1 s0.2.1 e x4).bind fun x5=>
      match x5 with
      | (.inl x5)=>
       some (.inr x5)
      | (.inr x5)=>
       bif (decide (0<s0.1)) then
        (ZE x5 (w64 (s0.1-1))).bind fun x6=>
        (ZE x5 (w64 ((w64 (s0.2.1-1))-(w64 (x3.1-s0.1))))).bind fun x7=>
        (e x6 x7).bind fun x8=>
        bif (decide (x8<0)) then
         (Zr s0.1 s0.2.1 (w64 ((w64 (s0.2.1-1))-(w64 (x3.1-s0.1)))) e x5).bind fun x9=>
         match x9 with
         | (.inl x9)=>
          bif (decide ((w64 (x9.1-s0.1))<(w64 (s0.2.1-x9.1)))) then
           bif (decide ((w64 (Int.tdiv (w64 (s0.2.1-s0.1)) 8))≤(w64 (x9.1-s0.1)))) then
            (rc s0.1 x9.1 s0.2.2.1 e x9.2).bind fun x10=>
            some (.inl ((w64 (x9.1+1)),s0.2.1,s0.2.2.1,true,true,x10))
           else
            (rc s0.1 x9.1 s0.2.2.1 e x9.2).bind fun x11=>
            some (.inl ((w64 (x9.1+1)),s0.2.1,s0.2.2.1,false,true,x11))
          else
           bif (decide ((w64 (Int.tdiv (w64 (s0.2.1-s0.1)) 8))≤(w64 (s0.2.1-x9.1)))) then
            (rc (w64 (x9.1+1)) s0.2.1 s0.2.2.1 e x9.2).bind fun x12=>
            some (.inl (s0.1,x9.1,s0.2.2.1,true,true,x12))
           else
            (rc (w64 (x9.1+1)) s0.2.1 s0.2.2.1 e x9.2).bind fun x13=>
            some (.inl (s0.1,x9.1,s0.2.2.1,false,true,x13))
         | (.inr x9)=>
          bif (decide ((w64 (x9.1-s0.1))<(w64 (s0.2.1-x9.1)))) then
           bif (decide ((w64 (Int.tdiv (w64 (s0.2.1-s0.1)) 8))≤(w64 (x9.1-s0.1)))) then
            (rc s0.1 x9.1 s0.2.2.1 e x9.2).bind fun x14=>
            some (.inl ((w64 (x9.1+1)),s0.2.1,s0.2.2.1,true,false,x14))
           else
            (rc s0.1 x9.1 s0.2.2.1 e x9.2).bind fun x15=>
            some (.inl ((w64 (x9.1+1)),s0.2.1,s0.2.2.1,false,false,x15))
          else
           bif (decide ((w64 (Int.tdiv (w64 (s0.2.1-s0.1)) 8))≤(w64 (s0.2.1-x9.1)))) then
            (rc (w64 (x9.1+1)) s0.2.1 s0.2.2.1 e x9.2).bind fun x16=>
            some (.inl (s0.1,x9.1,s0.2.2.1,true,false,x16))
           else
            (rc (w64 (x9.1+1)) s0.2.1 s0.2.2.1 e x9.2).bind fun x17=>
            some (.inl (s0.1,x9.1,s0.2.2.1,false,false,x17))
        else
         (ZD s0.1 s0.2.1 (w64 ((w64 (s0.2.1-1))-(w64 (x3.1-s0.1)))) e x5).bind fun x18=>
         some (.inl (x18.1,s0.2.1,s0.2.2.1,true,true,x18.2))
       else
        (Zr s0.1 s0.2.1 (w64 ((w64 (s0.2.1-1))-(w64 (x3.1-s0.1)))) e x5).bind fun x19=>
        match x19 with
        | (.inl x19)=>
         bif (decide ((w64 (x19.1-s0.1))<(w64 (s0.2.1-x19.1)))) then
          bif (decide ((w64 (Int.tdiv (w64 (s0.2.1-s0.1)) 8))≤(w64 (x19.1-s0.1)))) then
           (rc s0.1 x19.1 s0.2.2.1 e x19.2).bind fun x20=>
           some (.inl ((w64 (x19.1+1)),s0.2.1,s0.2.2.1,true,true,x20))
          else
           (rc s0.1 x19.1 s0.2.2.1 e x19.2).bind fun x21=>
           some (.inl ((w64 (x19.1+1)),s0.2.1,s0.2.2.1,false,true,x21))
         else
          bif (decide ((w64 (Int.tdiv (w64 (s0.2.1-s0.1)) 8))≤(w64 (s0.2.1-x19.1)))) then
           (rc (w64 (x19.1+1)) s0.2.1 s0.2.2.1 e x19.2).bind fun x22=>
           some (.inl (s0.1,x19.1,s0.2.2.1,true,true,x22))
          else
           (rc (w64 (x19.1+1)) s0.2.1 s0.2.2.1 e x19.2).bind fun x23=>
           some (.inl (s0.1,x19.1,s0.2.2.1,false,true,x23))
        | (.inr x19)=>
         bif (decide ((w64 (x19.1-s0.1))<(w64 (s0.2.1-x19.1)))) then
          bif (decide ((w64 (Int.tdiv (w64 (s0.2.1-s0.1)) 8))≤(w64 (x19.1-s0.1)))) then
           (rc s0.1 x19.1 s0.2.2.1 e x19.2).bind fun x24=>
           some (.inl ((w64 (x19.1+1)),s0.2.1,s0.2.2.1,true,false,x24))
          else
           (rc s0.1 x19.1 s0.2.2.1 e x19.2).bind fun x25=>
           some (.inl ((w64 (x19.1+1)),s0.2.1,s0.2.2.1,false,false,x25))
         else
          bif (decide ((w64 (Int.tdiv (w64 (s0.2.1-s0.1)) 8))≤(w64 (s0.2.1-x19.1)))) then
           (rc (w64 (x19.1+1)) s0.2.1 s0.2.2.1 e x19.2).bind fun x26=>
           some (.inl (s0.1,x19.1,s0.2.2.1,true,false,x26))
          else
           (rc (w64 (x19.1+1)) s0.2.1 s0.2.2.1 e x19.2).bind fun x27=>
           some (.inl (s0.1,x19.1,s0.2.2.1,false,false,x27))
     else
      bif (x3.2==1) then
       (ZQ s0.1 s0.2.1 e s0.2.2.2.2.2).bind fun x28=>
       match x28 with
       | (.inl x28)=>
        some (.inr x28)
       | (.inr x28)=>
        bif (decide (0<s0.1)) then
         (ZE x28 (w64 (s0.1-1))).bind fun x29=>
         (ZE x28 x3.1).bind fun x30=>
         (e x29 x30).bind fun x31=>
         bif (decide (x31<0)) then
          (Zr s0.1 s0.2.1 x3.1 e x28).bind fun x32=>
          match x32 with
          | (.inl x32)=>
           bif (decide ((w64 (x32.1-s0.1))<(w64 (s0.2.1-x32.1)))) then
            bif (decide ((w64 (Int.tdiv (w64 (s0.2.1-s0.1)) 8))≤(w64 (x32.1-s0.1)))) then
             (rc s0.1 x32.1 s0.2.2.1 e x32.2).bind fun x33=>
             some (.inl ((w64 (x32.1+1)),s0.2.1,s0.2.2.1,true,true,x33))
            else
             (rc s0.1 x32.1 s0.2.2.1 e x32.2).bind fun x34=>
             some (.inl ((w64 (x32.1+1)),s0.2.1,s0.2.2.1,false,true,x34))
           else
            bif (decide ((w64 (Int.tdiv (w64 (s0.2.1-s0.1)) 8))≤(w64 (s0.2.1-x32.1)))) then
             (rc (w64 (x32.1+1)) s0.2.1 s0.2.2.1 e x32.2).bind fun x35=>
             some (.inl (s0.1,x32.1,s0.2.2.1,true,true,x35))
            else
             (rc (w64 (x32.1+1)) s0.2.1 s0.2.2.1 e x32.2).bind fun x36=>
             some (.inl (s0.1,x32.1,s0.2.2.1,false,true,x36))
          | (.inr x32)=>
           bif (decide ((w64 (x32.1-s0.1))<(w64 (s0.2.1-x32.1)))) then
            bif (decide ((w64 (Int.tdiv (w64 (s0.2.1-s0.1)) 8))≤(w64 (x32.1-s0.1)))) then
             (rc s0.1 x32.1 s0.2.2.1 e x32.2).bind fun x37=>
             some (.inl ((w64 (x32.1+1)),s0.2.1,s0.2.2.1,true,false,x37))
            else
             (rc s0.1 x32.1 s0.2.2.1 e x32.2).bind fun x38=>
             some (.inl ((w64 (x32.1+1)),s0.2.1,s0.2.2.1,false,false,x38))
           else
            bif (decide ((w64 (Int.tdiv (w64 (s0.2.1-s0.1)) 8))≤(w64 (s0.2.1-x32.1)))) then
             (rc (w64 (x32.1+1)) s0.2.1 s0.2.2.1 e x32.2).bind fun x39=>
             some (.inl (s0.1,x32.1,s0.2.2.1,true,false,x39))
            else
             (rc (w64 (x32.1+1)) s0.2.1 s0.2.2.1 e x32.2).bind fun x40=>
             some (.inl (s0.1,x32.1,s0.2.2.1,false,false,x40))
         else
          (ZD s0.1 s0.2.1 x3.1 e x28).bind fun x41=>
          some (.inl (x41.1,s0.2.1,s0.2.2.1,true,true,x41.2))
        else
         (Zr s0.1 s0.2.1 x3.1 e x28).bind fun x42=>
         match x42 with
         | (.inl x42)=>
          bif (decide ((w64 (x42.1-s0.1))<(w64 (s0.2.1-x42.1)))) then
           bif (decide ((w64 (Int.tdiv (w64 (s0.2.1-s0.1)) 8))≤(w64 (x42.1-s0.1)))) then
            (rc s0.1 x42.1 s0.2.2.1 e x42.2).bind fun x43=>
            some (.inl ((w64 (x42.1+1)),s0.2.1,s0.2.2.1,true,true,x43))
           else
            (rc s0.1 x42.1 s0.2.2.1 e x42.2).bind fun x44=>
            some (.inl ((w64 (x42.1+1)),s0.2.1,s0.2.2.1,false,true,x44))
          else
           bif (decide ((w64 (Int.tdiv (w64 (s0.2.1-s0.1)) 8))≤(w64 (s0.2.1-x42.1)))) then
            (rc (w64 (x42.1+1)) s0.2.1 s0.2.2.1 e x42.2).bind fun x45=>
            some (.inl (s0.1,x42.1,s0.2.2.1,true,true,x45))
           else
            (rc (w64 (x42.1+1)) s0.2.1 s0.2.2.1 e x42.2).bind fun x46=>
            some (.inl (s0.1,x42.1,s0.2.2.1,false,true,x46))
         | (.inr x42)=>
          bif (decide ((w64 (x42.1-s0.1))<(w64 (s0.2.1-x42.1)))) then
           bif (decide ((w64 (Int.tdiv (w64 (s0.2.1-s0.1)) 8))≤(w64 (x42.1-s0.1)))) then
            (rc s0.1 x42.1 s0.2.2.1 e x42.2).bind fun x47=>
            some (.inl ((w64 (x42.1+1)),s0.2.1,s0.2.2.1,true,false,x47))
           else
            (rc s0.1 x42.1 s0.2.2.1 e x42.2).bind fun x48=>
            some (.inl ((w64 (x42.1+1)),s0.2.1,s0.2.2.1,false,false,x48))
          else
           bif (decide ((w64 (Int.tdiv (w64 (s0.2.1-s0.1)) 8))≤(w64 (s0.2.1-x42.1)))) then
            (rc (w64 (x42.1+1)) s0.2.1 s0.2.2.1 e x42.2).bind fun x49=>
            some (.inl (s0.1,x42.1,s0.2.2.1,true,false,x49))
           else
            (rc (w64 (x42.1+1)) s0.2.1 s0.2.2.1 e x42.2).bind fun x50=>
            some (.inl (s0.1,x42.1,s0.2.2.1,false,false,x50))
      else
       bif (decide (0<s0.1)) then
        (ZE s0.2.2.2.2.2 (w64 (s0.1-1))).bind fun x51=>
        (ZE s0.2.2.2.2.2 x3.1).bind fun x52=>
        (e x51 x52).bind fun x53=>
        bif (decide (x53<0)) then
         (Zr s0.1 s0.2.1 x3.1 e s0.2.2.2.2.2).bind fun x54=>
         match x54 with
         | (.inl x54)=>
          bif (decide ((w64 (x54.1-s0.1))<(w64 (s0.2.1-x54.1)))) then
           bif (decide ((w64 (Int.tdiv (w64 (s0.2.1-s0.1)) 8))≤(w64 (x54.1-s0.1)))) then
            (rc s0.1 x54.1 s0.2.2.1 e x54.2).bind fun x55=>
            some (.inl ((w64 (x54.1+1)),s0.2.1,s0.2.2.1,true,true,x55))
           else
            (rc s0.1 x54.1 s0.2.2.1 e x54.2).bind fun x56=>
            some (.inl ((w64 (x54.1+1)),s0.2.1,s0.2.2.1,false,true,x56))
          else
           bif (decide ((w64 (Int.tdiv (w64 (s0.2.1-s0.1)) 8))≤(w64 (s0.2.1-x54.1)))) then
            (rc (w64 (x54.1+1)) s0.2.1 s0.2.2.1 e x54.2).bind fun x57=>
            some (.inl (s0.1,x54.1,s0.2.2.1,true,true,x57))
           else
            (rc (w64 (x54.1+1)) s0.2.1 s0.2.2.1 e x54.2).bind fun x58=>
            some (.inl (s0.1,x54.1,s0.2.2.1,false,true,x58))
         | (.inr x54)=>
          bif (decide ((w64 (x54.1-s0.1))<(w64 (s0.2.1-x54.1)))) then
           bif (decide ((w64 (Int.tdiv (w64 (s0.2.1-s0.1)) 8))≤(w64 (x54.1-s0.1)))) then
            (rc s0.1 x54.1 s0.2.2.1 e x54.2).bind fun x59=>
            some (.inl ((w64 (x54.1+1)),s0.2.1,s0.2.2.1,true,false,x59))
           else
            (rc s0.1 x54.1 s0.2.2.1 e x54.2).bind fun x60=>
            some (.inl ((w64 (x54.1+1)),s0.2.1,s0.2.2.1,false,false,x60))
          else
           bif (decide ((w64 (Int.tdiv (w64 (s0.2.1-s0.1)) 8))≤(w64 (s0.2.1-x54.1)))) then
            (rc (w64 (x54.1+1)) s0.2.1 s0.2.2.1 e x54.2).bind fun x61=>
            some (.inl (s0.1,x54.1,s0.2.2.1,true,false,x61))
           else
            (rc (w64 (x54.1+1)) s0.2.1 s0.2.2.1 e x54.2).bind fun x62=>
            some (.inl (s0.1,x54.1,s0.2.2.1,false,false,x62))
        else
         (ZD s0.1 s0.2.1 x3.1 e s0.2.2.2.2.2).bind fun x63=>
         some (.inl (x63.1,s0.2.1,s0.2.2.1,true,true,x63.2))
       else
        (Zr s0.1 s0.2.1 x3.1 e s0.2.2.2.2.2).bind fun x64=>
        match x64 with
        | (.inl x64)=>
         bif (decide ((w64 (x64.1-s0.1))<(w64 (s0.2.1-x64.1)))) then
          bif (decide ((w64 (Int.tdiv (w64 (s0.2.1-s0.1)) 8))≤(w64 (x64.1-s0.1)))) then
           (rc s0.1 x64.1 s0.2.2.1 e x64.2).bind fun x65=>
           some (.inl ((w64 (x64.1+1)),s0.2.1,s0.2.2.1,true,true,x65))
          else
           (rc s0.1 x64.1 s0.2.2.1 e x64.2).bind fun x66=>
           some (.inl ((w64 (x64.1+1)),s0.2.1,s0.2.2.1,false,true,x66))
         else
          bif (decide ((w64 (Int.tdiv (w64 (s0.2.1-s0.1)) 8))≤(w64 (s0.2.1-x64.1)))) then
           (rc (w64 (x64.1+1)) s0.2.1 s0.2.2.1 e x64.2).bind fun x67=>
           some (.inl (s0.1,x64.1,s0.2.2.1,true,true,x67))
          else
           (rc (w64 (x64.1+1)) s0.2.1 s0.2.2.1 e x64.2).bind fun x68=>
           some (.inl (s0.1,x64.1,s0.2.2.1,false,true,x68))
        | (.inr x64)=>
         bif (decide ((w64 (x64.1-s0.1))<(w64 (s0.2.1-x64.1)))) then
          bif (decide ((w64 (Int.tdiv (w64 (s0.2.1-s0.1)) 8))≤(w64 (x64.1-s0.1)))) then
           (rc s0.1 x64.1 s0.2.2.1 e x64.2).bind fun x69=>
           some (.inl ((w64 (x64.1+1)),s0.2.1,s0.2.2.1,true,false,x69))
          else
           (rc s0.1 x64.1 s0.2.2.1 e x64.2).bind fun x70=>
           some (.inl ((w64 (x64.1+1)),s0.2.1,s0.2.2.1,false,false,x70))
         else
          bif (decide ((w64 (Int.tdiv (w64 (s0.2.1-s0.1)) 8))≤(w64 (s0.2.1-x64.1)))) then
           (rc (w64 (x64.1+1)) s0.2.1 s0.2.2.1 e x64.2).bind fun x71=>
           some (.inl (s0.1,x64.1,s0.2.2.1,true,false,x71))
          else
           (rc (w64 (x64.1+1)) s0.2.1 s0.2.2.1 e x64.2).bind fun x72=>
           some (.inl (s0.1,x64.1,s0.2.2.1,false,false,x72))
  else
   bif (decide ((w64 (s0.2.1-s0.1))≤12)) then
    (ZW s0.1 s0.2.1 e s0.2.2.2.2.2).bind fun x73=>
    some (.inr x73)
   else
    bif (s0.2.2.1==0) then
     (Z8 s0.1 s0.2.1 e s0.2.2.2.2.2).bind fun x74=>
     some (.inr x74)
    else
     (ZO s0.1 s0.2.1 e s0.2.2.2.2.2).bind fun x75=>
     bif (x75.2==2) then
      (ZM s0.1 s0.2.1 e s0.2.2.2.2.2).bind fun x76=>
      bif (decide (0<s0.1)) then
       (ZE x76 (w64 (s0.1-1))).bind fun x77=>
       (ZE x76 (w64 ((w64 (s0.2.1-1))-(w64 (x75.1-s0.1))))).bind fun x78=>
       (e x77 x78).bind fun x79=>
       bif (decide (x79<0)) then
        (Zr s0.1 s0.2.1 (w64 ((w64 (s0.2.1-1))-(w64 (x75.1-s0.1)))) e x76).bind fun x80=>
        match x80 with
        | (.inl x80)=>
         bif (decide ((w64 (x80.1-s0.1))<(w64 (s0.2.1-x80.1)))) then
          bif (decide ((w64 (Int.tdiv (w64 (s0.2.1-s0.1)) 8))≤(w64 (x80.1-s0.1)))) then
           (rc s0.1 x80.1 s0.2.2.1 e x80.2).bind fun x81=>
           some (.inl ((w64 (x80.1+1)),s0.2.1,s0.2.2.1,true,true,x81))
          else
           (rc s0.1 x80.1 s0.2.2.1 e x80.2).bind fun x82=>
           some (.inl ((w64 (x80.1+1)),s0.2.1,s0.2.2.1,false,true,x82))
         else
          bif (decide ((w64 (Int.tdiv (w64 (s0.2.1-s0.1)) 8))≤(w64 (s0.2.1-x80.1)))) then
           (rc (w64 (x80.1+1)) s0.2.1 s0.2.2.1 e x80.2).bind fun x83=>
           some (.inl (s0.1,x80.1,s0.2.2.1,true,true,x83))
          else
           (rc (w64 (x80.1+1)) s0.2.1 s0.2.2.1 e x80.2).bind fun x84=>
           some (.inl (s0.1,x80.1,s0.2.2.1,false,true,x84))
        | (.inr x80)=>
         bif (decide ((w64 (x80.1-s0.1))<(w64 (s0.2.1-x80.1)))) then
          bif (decide ((w64 (Int.tdiv (w64 (s0.2.1-s0.1)) 8))≤(w64 (x80.1-s0.1)))) then
           (rc s0.1 x80.1 s0.2.2.1 e x80.2).bind fun x85=>
           some (.inl ((w64 (x80.1+1)),s0.2.1,s0.2.2.1,true,false,x85))
          else
           (rc s0.1 x80.1 s0.2.2.1 e x80.2).bind fun x86=>
           some (.inl ((w64 (x80.1+1)),s0.2.1,s0.2.2.1,false,false,x86))
         else
          bif (decide ((w64 (Int.tdiv (w64 (s0.2.1-s0.1)) 8))≤(w64 (s0.2.1-x80.1)))) then
           (rc (w64 (x80.1+1)) s0.2.1 s0.2.2.1 e x80.2).bind fun x87=>
           some (.inl (s0.1,x80.1,s0.2.2.1,true,false,x87))
          else
           (rc (w64 (x80.1+1)) s0.2.1 s0.2.2.1 e x80.2).bind fun x88=>
           some (.inl (s0.1,x80.1,s0.2.2.1,false,false,x88))
       else
        (ZD s0.1 s0.2.1 (w64 ((w64 (s0.2.1-1))-(w64 (x75.1-s0.1)))) e x76).bind fun x89=>
        some (.inl (x89.1,s0.2.1,s0.2.2.1,true,false,x89.2))
      else
       (Zr s0.1 s0.2.1 (w64 ((w64 (s0.2.1-1))-(w64 (x75.1-s0.1)))) e x76).bind fun x90=>
       match x90 with
       | (.inl x90)=>
        bif (decide ((w64 (x90.1-s0.1))<(w64 (s0.2.1-x90.1)))) then
         bif (decide ((w64 (Int.tdiv (w64 (s0.2.1-s0.1)) 8))≤(w64 (x90.1-s0.1)))) then
          (rc s0.1 x90.1 s0.2.2.1 e x90.2).bind fun x91=>
          some (.inl ((w64 (x90.1+1)),s0.2.1,s0.2.2.1,true,true,x91))
         else
          (rc s0.1 x90.1 s0.2.2.1 e x90.2).bind fun x92=>
          some (.inl ((w64 (x90.1+1)),s0.2.1,s0.2.2.1,false,true,x92))
        else
         bif (decide ((w64 (Int.tdiv (w64 (s0.2.1-s0.1)) 8))≤(w64 (s0.2.1-x90.1)))) then
          (rc (w64 (x90.1+1)) s0.2.1 s0.2.2.1 e x90.2).bind fun x93=>
          some (.inl (s0.1,x90.1,s0.2.2.1,true,true,x93))
         else
          (rc (w64 (x90.1+1)) s0.2.1 s0.2.2.1 e x90.2).bind fun x94=>
          some (.inl (s0.1,x90.1,s0.2.2.1,false,true,x94))
       | (.inr x90)=>
        bif (decide ((w64 (x90.1-s0.1))<(w64 (s0.2.1-x90.1)))) then
         bif (decide ((w64 (Int.tdiv (w64 (s0.2.1-s0.1)) 8))≤(w64 (x90.1-s0.1)))) then
          (rc s0.1 x90.1 s0.2.2.1 e x90.2).bind fun x95=>
          some (.inl ((w64 (x90.1+1)),s0.2.1,s0.2.2.1,true,false,x95))
         else
          (rc s0.1 x90.1 s0.2.2.1 e x90.2).bind fun x96=>
          some (.inl ((w64 (x90.1+1)),s0.2.1,s0.2.2.1,false,false,x96))
        else
         bif (decide ((w64 (Int.tdiv (w64 (s0.2.1-s0.1)) 8))≤(w64 (s0.2.1-x90.1)))) then
          (rc (w64 (x90.1+1)) s0.2.1 s0.2.2.1 e x90.2).bind fun x97=>
          some (.inl (s0.1,x90.1,s0.2.2.1,true,false,x97))
         else
          (rc (w64 (x90.1+1)) s0.2.1 s0.2.2.1 e x90.2).bind fun x98=>
          some (.inl (s0.1,x90.1,s0.2.2.1,false,false,x98))
     else
      bif (decide (0<s0.1)) then
       (ZE s0.2.2.2.2.2 (w64 (s0.1-1))).bind fun x99=>
       (ZE s0.2.2.2.2.2 x75.1).bind fun x100=>
       (e x99 x100).bind fun x101=>
       bif (decide (x101<0)) then
        (Zr s0.1 s0.2.1 x75.1 e s0.2.2.2.2.2).bind fun x102=>
        match x102 with
        | (.inl x102)=>
         bif (decide ((w64 (x102.1-s0.1))<(w64 (s0.2.1-x102.1)))) then
          bif (decide ((w64 (Int.tdiv (w64 (s0.2.1-s0.1)) 8))≤(w64 (x102.1-s0.1)))) then
           (rc s0.1 x102.1 s0.2.2.1 e x102.2).bind fun x103=>
           some (.inl ((w64 (x102.1+1)),s0.2.1,s0.2.2.1,true,true,x103))
          else
           (rc s0.1 x102.1 s0.2.2.1 e x102.2).bind fun x104=>
           some (.inl ((w64 (x102.1+1)),s0.2.1,s0.2.2.1,false,true,x104))
         else
          bif (decide ((w64 (Int.tdiv (w64 (s0.2.1-s0.1)) 8))≤(w64 (s0.2.1-x102.1)))) then
           (rc (w64 (x102.1+1)) s0.2.1 s0.2.2.1 e x102.2).bind fun x105=>
           some (.inl (s0.1,x102.1,s0.2.2.1,true,true,x105))
          else
           (rc (w64 (x102.1+1)) s0.2.1 s0.2.2.1 e x102.2).bind fun x106=>
           some (.inl (s0.1,x102.1,s0.2.2.1,false,true,x106))
        | (.inr x102)=>
         bif (decide ((w64 (x102.1-s0.1))<(w64 (s0.2.1-x102.1)))) then
          bif (decide ((w64 (Int.tdiv (w64 (s0.2.1-s0.1)) 8))≤(w64 (x102.1-s0.1)))) then
           (rc s0.1 x102.1 s0.2.2.1 e x102.2).bind fun x107=>
           some (.inl ((w64 (x102.1+1)),s0.2.1,s0.2.2.1,true,false,x107))
          else
           (rc s0.1 x102.1 s0.2.2.1 e x102.2).bind fun x108=>
           some (.inl ((w64 (x102.1+1)),s0.2.1,s0.2.2.1,false,false,x108))
         else
          bif (decide ((w64 (Int.tdiv (w64 (s0.2.1-s0.1)) 8))≤(w64 (s0.2.1-x102.1)))) then
           (rc (w64 (x102.1+1)) s0.2.1 s0.2.2.1 e x102.2).bind fun x109=>
           some (.inl (s0.1,x102.1,s0.2.2.1,true,false,x109))
          else
           (rc (w64 (x102.1+1)) s0.2.1 s0.2.2.1 e x102.2).bind fun x110=>
           some (.inl (s0.1,x102.1,s0.2.2.1,false,false,x110))
       else
        (ZD s0.1 s0.2.1 x75.1 e s0.2.2.2.2.2).bind fun x111=>
        some (.inl (x111.1,s0.2.1,s0.2.2.1,true,false,x111.2))
      else
       (Zr s0.1 s0.2.1 x75.1 e s0.2.2.2.2.2).bind fun x112=>
       match x112 with
       | (.inl x112)=>
        bif (decide ((w64 (x112.1-s0.1))<(w64 (s0.2.1-x112.1)))) then
         bif (decide ((w64 (Int.tdiv (w64 (s0.2.1-s0.1)) 8))≤(w64 (x112.1-s0.1)))) then
          (rc s0.1 x112.1 s0.2.2.1 e x112.2).bind fun x113=>
          some (.inl ((w64 (x112.1+1)),s0.2.1,s0.2.2.1,true,true,x113))
         else
          (rc s0.1 x112.1 s0.2.2.1 e x112.2).bind fun x114=>
          some (.inl ((w64 (x112.1+1)),s0.2.1,s0.2.2.1,false,true,x114))
        else
         bif (decide ((w64 (Int.tdiv (w64 (s0.2.1-s0.1)) 8))≤(w64 (s0.2.1-x112.1)))) then
          (rc (w64 (x112.1+1)) s0.2.1 s0.2.2.1 e x112.2).bind fun x115=>
          some (.inl (s0.1,x112.1,s0.2.2.1,true,true,x115))
         else
          (rc (w64 (x112.1+1)) s0.2.1 s0.2.2.1 e x112.2).bind fun x116=>
          some (.inl (s0.1,x112.1,s0.2.2.1,false,true,x116))
       | (.inr x112)=>
        bif (decide ((w64 (x112.1-s0.1))<(w64 (s0.2.1-x112.1)))) then
         bif (decide ((w64 (Int.tdiv (w64 (s0.2.1-s0.1)) 8))≤(w64 (x112.1-s0.1)))) then
          (rc s0.1 x112.1 s0.2.2.1 e x112.2).bind fun x117=>
          some (.inl ((w64 (x112.1+1)),s0.2.1,s0.2.2.1,true,false,x117))
         else
          (rc s0.1 x112.1 s0.2.2.1 e x112.2).bind fun x118=>
          some (.inl ((w64 (x112.1+1)),s0.2.1,s0.2.2.1,false,false,x118))
        else
         bif (decide ((w64 (Int.tdiv (w64 (s0.2.1-s0.1)) 8))≤(w64 (s0.2.1-x112.1)))) then
          (rc (w64 (x112.1+1)) s0.2.1 s0.2.2.1 e x112.2).bind fun x119=>
          some (.inl (s0.1,x112.1,s0.2.2.1,true,false,x119))
         else
          (rc (w64 (x112.1+1)) s0.2.1 s0.2.2.1 e x112.2).bind fun x120=>
          some (.inl (s0.1,x112.1,s0.2.2.1,false,false,x120))
 else
  bif s0.2.2.2.2.1 then
   bif (decide ((w64 (s0.2.1-s0.1))≤12)) then
    (ZW s0.1 s0.2.1 e s0.2.2.2.2.2).bind fun x121=>
    some (.inr x121)
   else
    bif (s0.2.2.1==0) then
     (Z8 s0.1 s0.2.1 e s0.2.2.2.2.2).bind fun x122=>
     some (.inr x122)
    else
     (Zae s0.1 s0.2.1 e s0.2.2.2.2.2).bind fun x123=>
     (ZO s0.1 s0.2.1 e x123).bind fun x124=>
     bif (x124.2==2) then
      (ZM s0.1 s0.2.1 e x123).bind fun x125=>
      bif (decide (0<s0.1)) then
       (ZE x125 (w64 (s0.1-1))).bind fun x126=>
       (ZE x125 (w64 ((w64 (s0.2.1-1))-(w64 (x124.1-s0.1))))).bind fun x127=>
       (e x126 x127).bind fun x128=>
       bif (decide (x128<0)) then
        (Zr s0.1 s0.2.1 (w64 ((w64 (s0.2.1-1))-(w64 (x124.1-s0.1)))) e x125).bind fun x129=>
        match x129 with
        | (.inl x129)=>
         bif (decide ((w64 (x129.1-s0.1))<(w64 (s0.2.1-x129.1)))) then
          bif (decide ((w64 (Int.tdiv (w64 (s0.2.1-s0.1)) 8))≤(w64 (x129.1-s0.1)))) then
           (rc s0.1 x129.1 (w64 (s0.2.2.1-1)) e x129.2).bind fun x130=>
           some (.inl ((w64 (x129.1+1)),s0.2.1,(w64 (s0.2.2.1-1)),true,true,x130))
          else
           (rc s0.1 x129.1 (w64 (s0.2.2.1-1)) e x129.2).bind fun x131=>
           some (.inl ((w64 (x129.1+1)),s0.2.1,(w64 (s0.2.2.1-1)),false,true,x131))
         else
          bif (decide ((w64 (Int.tdiv (w64 (s0.2.1-s0.1)) 8))≤(w64 (s0.2.1-x129.1)))) then
           (rc (w64 (x129.1+1)) s0.2.1 (w64 (s0.2.2.1-1)) e x129.2).bind fun x132=>
           some (.inl (s0.1,x129.1,(w64 (s0.2.2.1-1)),true,true,x132))
          else
           (rc (w64 (x129.1+1)) s0.2.1 (w64 (s0.2.2.1-1)) e x129.2).bind fun x133=>
           some (.inl (s0.1,x129.1,(w64 (s0.2.2.1-1)),false,true,x133))
        | (.inr x129)=>
         bif (decide ((w64 (x129.1-s0.1))<(w64 (s0.2.1-x129.1)))) then
          bif (decide ((w64 (Int.tdiv (w64 (s0.2.1-s0.1)) 8))≤(w64 (x129.1-s0.1)))) then
           (rc s0.1 x129.1 (w64 (s0.2.2.1-1)) e x129.2).bind fun x134=>
           some (.inl ((w64 (x129.1+1)),s0.2.1,(w64 (s0.2.2.1-1)),true,false,x134))
          else
           (rc s0.1 x129.1 (w64 (s0.2.2.1-1)) e x129.2).bind fun x135=>
           some (.inl ((w64 (x129.1+1)),s0.2.1,(w64 (s0.2.2.1-1)),false,false,x135))
         else
          bif (decide ((w64 (Int.tdiv (w64 (s0.2.1-s0.1)) 8))≤(w64 (s0.2.1-x129.1)))) then
           (rc (w64 (x129.1+1)) s0.2.1 (w64 (s0.2.2.1-1)) e x129.2).bind fun x136=>
           some (.inl (s0.1,x129.1,(w64 (s0.2.2.1-1)),true,false,x136))
          else
           (rc (w64 (x129.1+1)) s0.2.1 (w64 (s0.2.2.1-1)) e x129.2).bind fun x137=>
           some (.inl (s0.1,x129.1,(w64 (s0.2.2.1-1)),false,false,x137))
       else
        (ZD s0.1 s0.2.1 (w64 ((w64 (s0.2.1-1))-(w64 (x124.1-s0.1)))) e x125).bind fun x138=>
        some (.inl (x138.1,s0.2.1,(w64 (s0.2.2.1-1)),false,true,x138.2))
      else
       (Zr s0.1 s0.2.1 (w64 ((w64 (s0.2.1-1))-(w64 (x124.1-s0.1)))) e x125).bind fun x139=>
       match x139 with
       | (.inl x139)=>
        bif (decide ((w64 (x139.1-s0.1))<(w64 (s0.2.1-x139.1)))) then
         bif (decide ((w64 (Int.tdiv (w64 (s0.2.1-s0.1)) 8))≤(w64 (x139.1-s0.1)))) then
          (rc s0.1 x139.1 (w64 (s0.2.2.1-1)) e x139.2).bind fun x140=>
          some (.inl ((w64 (x139.1+1)),s0.2.1,(w64 (s0.2.2.1-1)),true,true,x140))
         else
          (rc s0.1 x139.1 (w64 (s0.2.2.1-1)) e x139.2).bind fun x141=>
          some (.inl ((w64 (x139.1+1)),s0.2.1,(w64 (s0.2.2.1-1)),false,true,x141))
        else
         bif (decide ((w64 (Int.tdiv (w64 (s0.2.1-s0.1)) 8))≤(w64 (s0.2.1-x139.1)))) then
          (rc (w64 (x139.1+1)) s0.2.1 (w64 (s0.2.2.1-1)) e x139.2).bind fun x142=>
          some (.inl (s0.1,x139.1,(w64 (s0.2.2.1-1)),true,true,x142))
         else
          (rc (w64 (x139.1+1)) s0.2.1 (w64 (s0.2.2.1-1)) e x139.2).bind fun x143=>
          some (.inl (s0.1,x139.1,(w64 (s0.2.2.1-1)),false,true,x143))
       | (.inr x139)=>
        bif (decide ((w64 (x139.1-s0.1))<(w64 (s0.2.1-x139.1)))) then
         bif (decide ((w64 (Int.tdiv (w64 (s0.2.1-s0.1)) 8))≤(w64 (x139.1-s0.1)))) then
          (rc s0.1 x139.1 (w64 (s0.2.2.1-1)) e x139.2).bind fun x144=>
          some (.inl ((w64 (x139.1+1)),s0.2.1,(w64 (s0.2.2.1-1)),true,false,x144))
         else
          (rc s0.1 x139.1 (w64 (s0.2.2.1-1)) e x139.2).bind fun x145=>
          some (.inl ((w64 (x139.1+1)),s0.2.1,(w64 (s0.2.2.1-1)),false,false,x145))
        else
         bif (decide ((w64 (Int.tdiv (w64 (s0.2.1-s0.1)) 8))≤(w64 (s0.2.1-x139.1)))) then
          (rc (w64 (x139.1+1)) s0.2.1 (w64 (s0.2.2.1-1)) e x139.2).bind fun x146=>
          some (.inl (s0.1,x139.1,(w64 (s0.2.2.1-1)),true,false,x146))
         else
          (rc (w64 (x139.1+1)) s0.2.1 (w64 (s0.2.2.1-1)) e x139.2).bind fun x147=>
          some (.inl (s0.1,x139.1,(w64 (s0.2.2.1-1)),false,false,x147))
     else
      bif (decide (0<s0.1)) then
       (ZE x123 (w64 (s0.1-1))).bind fun x148=>
       (ZE x123 x124.1).bind fun x149=>
       (e x148 x149).bind fun x150=>
       bif (decide (x150<0)) then
        (Zr s0.1 s0.2.1 x124.1 e x123).bind fun x151=>
        match x151 with
        | (.inl x151)=>
         bif (decide ((w64 (x151.1-s0.1))<(w64 (s0.2.1-x151.1)))) then
          bif (decide ((w64 (Int.tdiv (w64 (s0.2.1-s0.1)) 8))≤(w64 (x151.1-s0.1)))) then
           (rc s0.1 x151.1 (w64 (s0.2.2.1-1)) e x151.2).bind fun x152=>
           some (.inl ((w64 (x151.1+1)),s0.2.1,(w64 (s0.2.2.1-1)),true,true,x152))
          else
           (rc s0.1 x151.1 (w64 (s0.2.2.1-1)) e x151.2).bind fun x153=>
           some (.inl ((w64 (x151.1+1)),s0.2.1,(w64 (s0.2.2.1-1)),false,true,x153))
         else
          bif (decide ((w64 (Int.tdiv (w64 (s0.2.1-s0.1)) 8))≤(w64 (s0.2.1-x151.1)))) then
           (rc (w64 (x151.1+1)) s0.2.1 (w64 (s0.2.2.1-1)) e x151.2).bind fun x154=>
           some (.inl (s0.1,x151.1,(w64 (s0.2.2.1-1)),true,true,x154))
          else
           (rc (w64 (x151.1+1)) s0.2.1 (w64 (s0.2.2.1-1)) e x151.2).bind fun x155=>
           some (.inl (s0.1,x151.1,(w64 (s0.2.2.1-1)),false,true,x155))
        | (.inr x151)=>
         bif (decide ((w64 (x151.1-s0.1))<(w64 (s0.2.1-x151.1)))) then
          bif (decide ((w64 (Int.tdiv (w64 (s0.2.1-s0.1)) 8))≤(w64 (x151.1-s0.1)))) then
           (rc s0.1 x151.1 (w64 (s0.2.2.1-1)) e x151.2).bind fun x156=>
           some (.inl ((w64 (x151.1+1)),s0.2.1,(w64 (s0.2.2.1-1)),true,false,x156))
          else
           (rc s0.1 x151.1 (w64 (s0.2.2.1-1)) e x151.2).bind fun x157=>
           some (.inl ((w64 (x151.1+1)),s0.2.1,(w64 (s0.2.2.1-1)),false,false,x157))
         else
          bif (decide ((w64 (Int.tdiv (w64 (s0.2.1-s0.1)) 8))≤(w64 (s0.2.1-x151.1)))) then
           (rc (w64 (x151.1+1)) s0.2.1 (w64 (s0.2.2.1-1)) e x151.2).bind fun x158=>
           some (.inl (s0.1,x151.1,(w64 (s0.2.2.1-1)),true,false,x158))
          else
           (rc (w64 (x151.1+1)) s0.2.1 (w64 (s0.2.2.1-1)) e x151.2).bind fun x159=>
           some (.inl (s0.1,x151.1,(w64 (s0.2.2.1-1)),false,false,x159))
       else
        (ZD s0.1 s0.2.1 x124.1 e x123).bind fun x160=>
        some (.inl (x160.1,s0.2.1,(w64 (s0.2.2.1-1)),false,true,x160.2))
      else
       (Zr s0.1 s0.2.1 x124.1 e x123).bind fun x161=>
       match x161 with
       | (.inl x161)=>
        bif (decide ((w64 (x161.1-s0.1))<(w64 (s0.2.1-x161.1)))) then
         bif (decide ((w64 (Int.tdiv (w64 (s0.2.1-s0.1)) 8))≤(w64 (x161.1-s0.1)))) then
          (rc s0.1 x161.1 (w64 (s0.2.2.1-1)) e x161.2).bind fun x162=>
          some (.inl ((w64 (x161.1+1)),s0.2.1,(w64 (s0.2.2.1-1)),true,true,x162))
         else
          (rc s0.1 x161.1 (w64 (s0.2.2.1-1)) e x161.2).bind fun x163=>
          some (.inl ((w64 (x161.1+1)),s0.2.1,(w64 (s0.2.2.1-1)),false,true,x163))
        else
         bif (decide ((w64 (Int.tdiv (w64 (s0.2.1-s0.1)) 8))≤(w64 (s0.2.1-x161.1)))) then
          (rc (w64 (x161.1+1)) s0.2.1 (w64 (s0.2.2.1-1)) e x161.2).bind fun x164=>
          some (.inl (s0.1,x161.1,(w64 (s0.2.2.1-1)),true,true,x164))
         else
          (rc (w64 (x161.1+1)) s0.2.1 (w64 (s0.2.2.1-1)) e x161.2).bind fun x165=>
          some (.inl (s0.1,x161.1,(w64 (s0.2.2.1-1)),false,true,x165))
       | (.inr x161)=>
        bif (decide ((w64 (x161.1-s0.1))<(w64 (s0.2.1-x161.1)))) then
         bif (decide ((w64 (Int.tdiv (w64 (s0.2.1-s0.1)) 8))≤(w64 (x161.1-s0.1)))) then
          (rc s0.1 x161.1 (w64 (s0.2.2.1-1)) e x161.2).bind fun x166=>
          some (.inl ((w64 (x161.1+1)),s0.2.1,(w64 (s0.2.2.1-1)),true,false,x166))
         else
          (rc s0.1 x161.1 (w64 (s0.2.2.1-1)) e x161.2).bind fun x167=>
          some (.inl ((w64 (x161.1+1)),s0.2.1,(w64 (s0.2.2.1-1)),false,false,x167))
        else
         bif (decide ((w64 (Int.tdiv (w64 (s0.2.1-s0.1)) 8))≤(w64 (s0.2.1-x161.1)))) then
          (rc (w64 (x161.1+1)) s0.2.1 (w64 (s0.2.2.1-1)) e x161.2).bind fun x168=>
          some (.inl (s0.1,x161.1,(w64 (s0.2.2.1-1)),true,false,x168))
         else
          (rc (w64 (x161.1+1)) s0.2.1 (w64 (s0.2.2.1-1)) e x161.2).bind fun x169=>
          some (.inl (s0.1,x161.1,(w64 (s0.2.2.1-1)),false,false,x169))
  else
   bif (decide ((w64 (s0.2.1-s0.1))≤12)) then
    (ZW s0.1 s0.2.1 e s0.2.2.2.2.2).bind fun x170=>
    some (.inr x170)
   else
    bif (s0.2.2.1==0) then
     (Z8 s0.1 s0.2.1 e s0.2.2.2.2.2).bind fun x171=>
     some (.inr x171)
    else
     (Zae s0.1 s0.2.1 e s0.2.2.2.2.2).bind fun x172=>
     (ZO s0.1 s0.2.1 e x172).bind fun x173=>
     bif (x173.2==2) then
      (ZM s0.1 s0.2.1 e x172).bind fun x174=>
      bif (decide (0<s0.1)) then
       (ZE x174 (w64 (s0.1-1))).bind fun x175=>
       (ZE x174 (w64 ((w64 (s0.2.1-1))-(w64 (x173.1-s0.1))))).bind fun x176=>
       (e x175 x176).bind fun x177=>
       bif (decide (x177<0)) then
        (Zr s0.1 s0.2.1 (w64 ((w64 (s0.2.1-1))-(w64 (x173.1-s0.1)))) e x174).bind fun x178=>
        match x178 with
        | (.inl x178)=>
         bif (decide ((w64 (x178.1-s0.1))<(w64 (s0.2.1-x178.1)))) then
          bif (decide ((w64 (Int.tdiv (w64 (s0.2.1-s0.1)) 8))≤(w64 (x178.1-s0.1)))) then
           (rc s0.1 x178.1 (w64 (s0.2.2.1-1)) e x178.2).bind fun x179=>
           some (.inl ((w64 (x178.1+1)),s0.2.1,(w64 (s0.2.2.1-1)),true,true,x179))
          else
           (rc s0.1 x178.1 (w64 (s0.2.2.1-1)) e x178.2).bind fun x180=>
           some (.inl ((w64 (x178.1+1)),s0.2.1,(w64 (s0.2.2.1-1)),false,true,x180))
         else
          bif (decide ((w64 (Int.tdiv (w64 (s0.2.1-s0.1)) 8))≤(w64 (s0.2.1-x178.1)))) then
           (rc (w64 (x178.1+1)) s0.2.1 (w64 (s0.2.2.1-1)) e x178.2).bind fun x181=>
           some (.inl (s0.1,x178.1,(w64 (s0.2.2.1-1)),true,true,x181))
          else
           (rc (w64 (x178.1+1)) s0.2.1 (w64 (s0.2.2.1-1)) e x178.2).bind fun x182=>
           some (.inl (s0.1,x178.1,(w64 (s0.2.2.1-1)),false,true,x182))
        | (.inr x178)=>
         bif (decide ((w64 (x178.1-s0.1))<(w64 (s0.2.1-x178.1)))) then
          bif (decide ((w64 (Int.tdiv (w64 (s0.2.1-s0.1)) 8))≤(w64 (x178.1-s0.1)))) then
           (rc s0.1 x178.1 (w64 (s0.2.2.1-1)) e x178.2).bind fun x183=>
           some (.inl ((w64 (x178.1+1)),s0.2.1,(w64 (s0.2.2.1-1)),true,false,x183))
          else
           (rc s0.1 x178.1 (w64 (s0.2.2.1-1)) e x178.2).bind fun x184=>
           some (.inl ((w64 (x178.1+1)),s0.2.1,(w64 (s0.2.2.1-1)),false,false,x184))
         else
          bif (decide ((w64 (Int.tdiv (w64 (s0.2.1-s0.1)) 8))≤(w64 (s0.2.1-x178.1)))) then
           (rc (w64 (x178.1+1)) s0.2.1 (w64 (s0.2.2.1-1)) e x178.2).bind fun x185=>
           some (.inl (s0.1,x178.1,(w64 (s0.2.2.1-1)),true,false,x185))
          else
           (rc (w64 (x178.1+1)) s0.2.1 (w64 (s0.2.2.1-1)) e x178.2).bind fun x186=>
           some (.inl (s0.1,x178.1,(w64 (s0.2.2.1-1)),false,false,x186))
       else
        (ZD s0.1 s0.2.1 (w64 ((w64 (s0.2.1-1))-(w64 (x173.1-s0.1)))) e x174).bind fun x187=>
        some (.inl (x187.1,s0.2.1,(w64 (s0.2.2.1-1)),false,false,x187.2))
      else
       (Zr s0.1 s0.2.1 (w64 ((w64 (s0.2.1-1))-(w64 (x173.1-s0.1)))) e x174).bind fun x188=>
       match x188 with
       | (.inl x188)=>
        bif (decide ((w64 (x188.1-s0.1))<(w64 (s0.2.1-x188.1)))) then
         bif (decide ((w64 (Int.tdiv (w64 (s0.2.1-s0.1)) 8))≤(w64 (x188.1-s0.1)))) then
          (rc s0.1 x188.1 (w64 (s0.2.2.1-1)) e x188.2).bind fun x189=>
          some (.inl ((w64 (x188.1+1)),s0.2.1,(w64 (s0.2.2.1-1)),true,true,x189))
         else
          (rc s0.1 x188.1 (w64 (s0.2.2.1-1)) e x188.2).bind fun x190=>
          some (.inl ((w64 (x188.1+1)),s0.2.1,(w64 (s0.2.2.1-1)),false,true,x190))
        else
         bif (decide ((w64 (Int.tdiv (w64 (s0.2.1-s0.1)) 8))≤(w64 (s0.2.1-x188.1)))) then
          (rc (w64 (x188.1+1)) s0.2.1 (w64 (s0.2.2.1-1)) e x188.2).bind fun x191=>
          some (.inl (s0.1,x188.1,(w64 (s0.2.2.1-1)),true,true,x191))
         else
          (rc (w64 (x188.1+1)) s0.2.1 (w64 (s0.2.2.1-1)) e x188.2).bind fun x192=>
          some (.inl (s0.1,x188.1,(w64 (s0.2.2.1-1)),false,true,x192))
       | (.inr x188)=>
        bif (decide ((w64 (x188.1-s0.1))<(w64 (s0.2.1-x188.1)))) then
         bif (decide ((w64 (Int.tdiv (w64 (s0.2.1-s0.1)) 8))≤(w64 (x188.1-s0.1)))) then
          (rc s0.1 x188.1 (w64 (s0.2.2.1-1)) e x188.2).bind fun x193=>
          some (.inl ((w64 (x188.1+1)),s0.2.1,(w64 (s0.2.2.1-1)),true,false,x193))
         else
          (rc s0.1 x188.1 (w64 (s0.2.2.1-1)) e x188.2).bind fun x194=>
          some (.inl ((w64 (x188.1+1)),s0.2.1,(w64 (s0.2.2.1-1)),false,false,x194))
        else
         bif (decide ((w64 (Int.tdiv (w64 (s0.2.1-s0.1)) 8))≤(w64 (s0.2.1-x188.1)))) then
          (rc (w64 (x188.1+1)) s0.2.1 (w64 (s0.2.2.1-1)) e x188.2).bind fun x195=>
          some (.inl (s0.1,x188.1,(w64 (s0.2.2.1-1)),true,false,x195))
         else
          (rc (w64 (x188.1+1)) s0.2.1 (w64 (s0.2.2.1-1)) e x188.2).bind fun x196=>
          some (.inl (s0.1,x188.1,(w64 (s0.2.2.1-1)),false,false,x196))
     else
      bif (decide (0<s0.1)) then
       (ZE x172 (w64 (s0.1-1))).bind fun x197=>
       (ZE x172 x173.1).bind fun x198=>
       (e x197 x198).bind fun x199=>
       bif (decide (x199<0)) then
        (Zr s0.1 s0.2.1 x173.1 e x172).bind fun x200=>
        match x200 with
        | (.inl x200)=>
         bif (decide ((w64 (x200.1-s0.1))<(w64 (s0.2.1-x200.1)))) then
          bif (decide ((w64 (Int.tdiv (w64 (s0.2.1-s0.1)) 8))≤(w64 (x200.1-s0.1)))) then
           (rc s0.1 x200.1 (w64 (s0.2.2.1-1)) e x200.2).bind fun x201=>
           some (.inl ((w64 (x200.1+1)),s0.2.1,(w64 (s0.2.2.1-1)),true,true,x201))
          else
           (rc s0.1 x200.1 (w64 (s0.2.2.1-1)) e x200.2).bind fun x202=>
           some (.inl ((w64 (x200.1+1)),s0.2.1,(w64 (s0.2.2.1-1)),false,true,x202))
         else
          bif (decide ((w64 (Int.tdiv (w64 (s0.2.1-s0.1)) 8))≤(w64 (s0.2.1-x200.1)))) then
           (rc (w64 (x200.1+1)) s0.2.1 (w64 (s0.2.2.1-1)) e x200.2).bind fun x203=>
           some (.inl (s0.1,x200.1,(w64 (s0.2.2.1-1)),true,true,x203))
          else
           (rc (w64 (x200.1+1)) s0.2.1 (w64 (s0.2.2.1-1)) e x200.2).bind fun x204=>
           some (.inl (s0.1,x200.1,(w64 (s0.2.2.1-1)),false,true,x204))
        | (.inr x200)=>
         bif (decide ((w64 (x200.1-s0.1))<(w64 (s0.2.1-x200.1)))) then
          bif (decide ((w64 (Int.tdiv (w64 (s0.2.1-s0.1)) 8))≤(w64 (x200.1-s0.1)))) then
           (rc s0.1 x200.1 (w64 (s0.2.2.1-1)) e x200.2).bind fun x205=>
           some (.inl ((w64 (x200.1+1)),s0.2.1,(w64 (s0.2.2.1-1)),true,false,x205))
          else
           (rc s0.1 x200.1 (w64 (s0.2.2.1-1)) e x200.2).bind fun x206=>
           some (.inl ((w64 (x200.1+1)),s0.2.1,(w64 (s0.2.2.1-1)),false,false,x206))
         else
          bif (decide ((w64 (Int.tdiv (w64 (s0.2.1-s0.1)) 8))≤(w64 (s0.2.1-x200.1)))) then
           (rc (w64 (x200.1+1)) s0.2.1 (w64 (s0.2.2.1-1)) e x200.2).bind fun x207=>
           some (.inl (s0.1,x200.1,(w64 (s0.2.2.1-1)),true,false,x207))
          else
           (rc (w64 (x200.1+1)) s0.2.1 (w64 (s0.2.2.1-1)) e x200.2).bind fun x208=>
           some (.inl (s0.1,x200.1,(w64 (s0.2.2.1-1)),false,false,x208))
       else
        (ZD s0.1 s0.2.1 x173.1 e x172).bind fun x209=>
        some (.inl (x209.1,s0.2.1,(w64 (s0.2.2.1-1)),false,false,x209.2))
      else
       (Zr s0.1 s0.2.1 x173.1 e x172).bind fun x210=>
       match x210 with
       | (.inl x210)=>
        bif (decide ((w64 (x210.1-s0.1))<(w64 (s0.2.1-x210.1)))) then
         bif (decide ((w64 (Int.tdiv (w64 (s0.2.1-s0.1)) 8))≤(w64 (x210.1-s0.1)))) then
          (rc s0.1 x210.1 (w64 (s0.2.2.1-1)) e x210.2).bind fun x211=>
          some (.inl ((w64 (x210.1+1)),s0.2.1,(w64 (s0.2.2.1-1)),true,true,x211))
         else
          (rc s0.1 x210.1 (w64 (s0.2.2.1-1)) e x210.2).bind fun x212=>
          some (.inl ((w64 (x210.1+1)),s0.2.1,(w64 (s0.2.2.1-1)),false,true,x212))
        else
         bif (decide ((w64 (Int.tdiv (w64 (s0.2.1-s0.1)) 8))≤(w64 (s0.2.1-x210.1)))) then
          (rc (w64 (x210.1+1)) s0.2.1 (w64 (s0.2.2.1-1)) e x210.2).bind fun x213=>
          some (.inl (s0.1,x210.1,(w64 (s0.2.2.1-1)),true,true,x213))
         else
          (rc (w64 (x210.1+1)) s0.2.1 (w64 (s0.2.2.1-1)) e x210.2).bind fun x214=>
          some (.inl (s0.1,x210.1,(w64 (s0.2.2.1-1)),false,true,x214))
       | (.inr x210)=>
        bif (decide ((w64 (x210.1-s0.1))<(w64 (s0.2.1-x210.1)))) then
         bif (decide ((w64 (Int.tdiv (w64 (s0.2.1-s0.1)) 8))≤(w64 (x210.1-s0.1)))) then
          (rc s0.1 x210.1 (w64 (s0.2.2.1-1)) e x210.2).bind fun x215=>
          some (.inl ((w64 (x210.1+1)),s0.2.1,(w64 (s0.2.2.1-1)),true,false,x215))
         else
          (rc s0.1 x210.1 (w64 (s0.2.2.1-1)) e x210.2).bind fun x216=>
          some (.inl ((w64 (x210.1+1)),s0.2.1,(w64 (s0.2.2.1-1)),false,false,x216))
        else
         bif (decide ((w64 (Int.tdiv (w64 (s0.2.1-s0.1)) 8))≤(w64 (s0.2.1-x210.1)))) then
          (rc (w64 (x210.1+1)) s0.2.1 (w64 (s0.2.2.1-1)) e x210.2).bind fun x217=>
          some (.inl (s0.1,x210.1,(w64 (s0.2.2.1-1)),true,false,x217))
         else
          (rc (w64 (x210.1+1)) s0.2.1 (w64 (s0.2.2.1-1)) e x210.2).bind fun x218=>
          some (.inl (s0.1,x210.1,(w64 (s0.2.2.1-1)),false,false,x218))
noncomputable def Zau (rc:Int→Int→Int→(Int→Int→Option Int)→(List Int)→Option (List Int)) (b:Int) (c:Int) (d:Int) (e:(Int→Int→Option Int)) (m0_0:(List Int)):Option (List Int):=
 (lp (ZR e rc) (b,c,d,true,true,m0_0)).bind fun r219=>
 some r219
noncomputable def ZY:Nat→Int→Int→Int→(Int→Int→Option Int)→(List Int)→Option (List Int)
 | 0=>fun _ _ _ _ _=>none
 | n+1=>Zau (ZY n)
noncomputable def Zdm (b:Int) (c:Int) (d:Int) (e:(Int→Int→Option Int)) (m0_0:(List Int)):Option (List Int):=ZvZ fun n=>ZY n b c d e m0_0
noncomputable def ZaK (b:(Int→Int→Option Int)) (m0_0:(List Int)):Option (List Int):=
 (Zd7 (IntKind.u64.wrap (m0_0.length:Int))).bind fun x0=>
 (Zdm 0 (m0_0.length:Int) x0 b m0_0).bind fun x1=>
 some x1
noncomputable def Zc8 (a:Zj) (b:Int) (s1:Int×(List Int)):Option ((Int×(List Int))⊕(List Int)):=
 bif (decide (s1.1<(a.futures.length:Int))) then
  (ZE a.futures s1.1).bind fun x2=>
  bif (x2.user==b) then
   bif (Nat.ble (List.length s1.2+1) lim) then
    some (.inl ((w64 (s1.1+1)),(s1.2++[s1.1])))
   else
    none
  else
   some (.inl ((w64 (s1.1+1)),s1.2))
 else
  some (.inr s1.2)
noncomputable def Zcz (a:Zj) (b:Int):Option (List Int):=
 (ZeQ a).bind fun x0=>
 bif (x0 != 0) then
  some ([]:List Int)
 else
  (lp (Zc8 a b) (0,([]:(List Int)))).bind fun r3=>
  (ZaK (fun z0 z1=>Zt z0 z1 a.futures) r3).bind fun x4=>
  some x4
noncomputable def Zal (b:Zh) (c:Int) (m1_0:(List Int)) (m3_0:(List Zh)):Option Unit:=
 bif (Nat.ble (List.length m3_0+1) lim) then
  bif (Nat.ble (List.length m1_0+1) lim) then
   some ()
  else
   none
 else
  none
noncomputable def ZI (b:Int) (c:Int) (m2_0:(List Zm)):Option Unit:=
 bif (Nat.ble (List.length m2_0+1) lim) then
  some ()
 else
  none
noncomputable def ZB (b:Zj) (c:Int) (x0:(List Int)) (s14:Int×Int×(List (Int×Int))×(List (Zi×Int))×(List Int)×(List Zm)×(List Zh)):Option ((Int×Int×(List (Int×Int))×(List (Zi×Int))×(List Int)×(List Zm)×(List Zh))⊕((List (Int×Int))×(List (Zi×Int))×(List Int)×(List Zm)×(List Zh))):=
 bif (decide (s14.2.1<(w64 ((x0.length:Int)+1)))) then
  (ZE b.parts c).bind fun x15=>
  bif (decide (s14.2.1<(x0.length:Int))) then
   (ZE x0 s14.2.1).bind fun x16=>
   (ZE b.futures x16).bind fun x17=>
   (Zal (Zh.mk c s14.2.1) (w64 (x17.pos-s14.1)) s14.2.2.2.2.1 s14.2.2.2.2.2.2).bind fun x18=>
   bif (decide (0<s14.2.1)) then
    (ZI (w64 ((Z4 (fun ka kb:Int=>(ka==kb)) (Zu (fun ka kb:Int=>(ka==kb)) s14.2.2.1 c (w64 ((List.length (s14.2.2.2.2.2.2++[(Zh.mk c s14.2.1)]):Int)-1))) c 0)-1)) (Z4 (fun ka kb:Int=>(ka==kb)) (Zu (fun ka kb:Int=>(ka==kb)) s14.2.2.1 c (w64 ((List.length (s14.2.2.2.2.2.2++[(Zh.mk c s14.2.1)]):Int)-1))) c 0) s14.2.2.2.2.2.1).bind fun x19=>
    (ZE x0 (w64 (s14.2.1-1))).bind fun x20=>
    (ZE b.futures x20).bind fun x21=>
    some (.inl (x17.pos,(w64 (s14.2.1+1)),(Zu (fun ka kb:Int=>(ka==kb)) s14.2.2.1 c (w64 ((List.length (s14.2.2.2.2.2.2++[(Zh.mk c s14.2.1)]):Int)-1))),(Zu (fun ka kb:Zi=>((ka.maker==kb.maker)&&((ka.user==kb.user)&&((ka.pos==kb.pos)&&true)))) s14.2.2.2.1 x21 (Z4 (fun ka kb:Int=>(ka==kb)) (Zu (fun ka kb:Int=>(ka==kb)) s14.2.2.1 c (w64 ((List.length (s14.2.2.2.2.2.2++[(Zh.mk c s14.2.1)]):Int)-1))) c 0)),(s14.2.2.2.2.1++[(w64 (x17.pos-s14.1))]),(s14.2.2.2.2.2.1++[(Zm.mk (w64 ((Z4 (fun ka kb:Int=>(ka==kb)) (Zu (fun ka kb:Int=>(ka==kb)) s14.2.2.1 c (w64 ((List.length (s14.2.2.2.2.2.2++[(Zh.mk c s14.2.1)]):Int)-1))) c 0)-1)) (Z4 (fun ka kb:Int=>(ka==kb)) (Zu (fun ka kb:Int=>(ka==kb)) s14.2.2.1 c (w64 ((List.length (s14.2.2.2.2.2.2++[(Zh.mk c s14.2.1)]):Int)-1))) c 0))]),(s14.2.2.2.2.2.2++[(Zh.mk c s14.2.1)])))
   else
    some (.inl (x17.pos,(w64 (s14.2.1+1)),(Zu (fun ka kb:Int=>(ka==kb)) s14.2.2.1 c (w64 ((List.length (s14.2.2.2.2.2.2++[(Zh.mk c s14.2.1)]):Int)-1))),s14.2.2.2.1,(s14.2.2.2.2.1++[(w64 (x17.pos-s14.1))]),s14.2.2.2.2.2.1,(s14.2.2.2.2.2.2++[(Zh.mk c s14.2.1)])))
  else
   (Zal (Zh.mk c s14.2.1) (w64 (x15.work-s14.1)) s14.2.2.2.2.1 s14.2.2.2.2.2.2).bind fun x22=>
   bif (decide (0<s14.2.1)) then
    (ZI (w64 ((Z4 (fun ka kb:Int=>(ka==kb)) (Zu (fun ka kb:Int=>(ka==kb)) s14.2.2.1 c (w64 ((List.length (s14.2.2.2.2.2.2++[(Zh.mk c s14.2.1)]):Int)-1))) c 0)-1)) (Z4 (fun ka kb:Int=>(ka==kb)) (Zu (fun ka kb:Int=>(ka==kb)) s14.2.2.1 c (w64 ((List.length (s14.2.2.2.2.2.2++[(Zh.mk c s14.2.1)]):Int)-1))) c 0) s14.2.2.2.2.2.1).bind fun x23=>
    (ZE x0 (w64 (s14.2.1-1))).bind fun x24=>
    (ZE b.futures x24).bind fun x25=>
    some (.inl (x15.work,(w64 (s14.2.1+1)),(Zu (fun ka kb:Int=>(ka==kb)) s14.2.2.1 c (w64 ((List.length (s14.2.2.2.2.2.2++[(Zh.mk c s14.2.1)]):Int)-1))),(Zu (fun ka kb:Zi=>((ka.maker==kb.maker)&&((ka.user==kb.user)&&((ka.pos==kb.pos)&&true)))) s14.2.2.2.1 x25 (Z4 (fun ka kb:Int=>(ka==kb)) (Zu (fun ka kb:Int=>(ka==kb)) s14.2.2.1 c (w64 ((List.length (s14.2.2.2.2.2.2++[(Zh.mk c s14.2.1)]):Int)-1))) c 0)),(s14.2.2.2.2.1++[(w64 (x15.work-s14.1))]),(s14.2.2.2.2.2.1++[(Zm.mk (w64 ((Z4 (fun ka kb:Int=>(ka==kb)) (Zu (fun ka kb:Int=>(ka==kb)) s14.2.2.1 c (w64 ((List.length (s14.2.2.2.2.2.2++[(Zh.mk c s14.2.1)]):Int)-1))) c 0)-1)) (Z4 (fun ka kb:Int=>(ka==kb)) (Zu (fun ka kb:Int=>(ka==kb)) s14.2.2.1 c (w64 ((List.length (s14.2.2.2.2.2.2++[(Zh.mk c s14.2.1)]):Int)-1))) c 0))]),(s14.2.2.2.2.2.2++[(Zh.mk c s14.2.1)])))
   else
    some (.inl (x15.work,(w64 (s14.2.1+1)),(Zu (fun ka kb:Int=>(ka==kb)) s14.2.2.1 c (w64 ((List.length (s14.2.2.2.2.2.2++[(Zh.mk c s14.2.1)]):Int)-1))),s14.2.2.2.1,(s14.2.2.2.2.1++[(w64 (x15.work-s14.1))]),s14.2.2.2.2.2.1,(s14.2.2.2.2.2.2++[(Zh.mk c s14.2.1)])))
 else
  some (.inr (s14.2.2.1,s14.2.2.2.1,s14.2.2.2.2.1,s14.2.2.2.2.2.1,s14.2.2.2.2.2.2))
noncomputable def Zbs (b:Zj) (c:Int) (m1_0:(List Int)) (m2_0:(List Zm)) (m3_0:(List Zh)) (m5_0:(List (Int×Int))) (m6_0:(List (Zi×Int))) (x0:(List Int)) (x4:Zi) (s6:Unit):Option (Unit⊕(((List (Int×Int))×(List (Zi×Int))×(List Int)×(List Zm)×(List Zh))⊕Unit)):=
 bif (decide (1<(w64 ((x0.length:Int)+1)))) then
  (ZE b.parts c).bind fun x7=>
  bif (decide (1<(x0.length:Int))) then
   (ZE x0 1).bind fun x8=>
   (ZE b.futures x8).bind fun x9=>
   (Zal (Zh.mk c 1) (w64 (x9.pos-x4.pos)) (m1_0++[(w64 (x4.pos-0))]) (m3_0++[(Zh.mk c 0)])).bind fun x10=>
   (ZI (w64 ((Z4 (fun ka kb:Int=>(ka==kb)) (Zu (fun ka kb:Int=>(ka==kb)) (Zu (fun ka kb:Int=>(ka==kb)) m5_0 c (w64 ((List.length (m3_0++[(Zh.mk c 0)]):Int)-1))) c (w64 ((List.length ((m3_0++[(Zh.mk c 0)])++[(Zh.mk c 1)]):Int)-1))) c 0)-1)) (Z4 (fun ka kb:Int=>(ka==kb)) (Zu (fun ka kb:Int=>(ka==kb)) (Zu (fun ka kb:Int=>(ka==kb)) m5_0 c (w64 ((List.length (m3_0++[(Zh.mk c 0)]):Int)-1))) c (w64 ((List.length ((m3_0++[(Zh.mk c 0)])++[(Zh.mk c 1)]):Int)-1))) c 0) m2_0).bind fun x11=>
   (ZE x0 0).bind fun x12=>
   (ZE b.futures x12).bind fun x13=>
   (lp (ZB b c x0) (x9.pos,2,(Zu (fun ka kb:Int=>(ka==kb)) (Zu (fun ka kb:Int=>(ka==kb)) m5_0 c (w64 ((List.length (m3_0++[(Zh.mk c 0)]):Int)-1))) c (w64 ((List.length ((m3_0++[(Zh.mk c 0)])++[(Zh.mk c 1)]):Int)-1))),(Zu (fun ka kb:Zi=>((ka.maker==kb.maker)&&((ka.user==kb.user)&&((ka.pos==kb.pos)&&true)))) m6_0 x13 (Z4 (fun ka kb:Int=>(ka==kb)) (Zu (fun ka kb:Int=>(ka==kb)) (Zu (fun ka kb:Int=>(ka==kb)) m5_0 c (w64 ((List.length (m3_0++[(Zh.mk c 0)]):Int)-1))) c (w64 ((List.length ((m3_0++[(Zh.mk c 0)])++[(Zh.mk c 1)]):Int)-1))) c 0)),((m1_0++[(w64 (x4.pos-0))])++[(w64 (x9.pos-x4.pos))]),(m2_0++[(Zm.mk (w64 ((Z4 (fun ka kb:Int=>(ka==kb)) (Zu (fun ka kb:Int=>(ka==kb)) (Zu (fun ka kb:Int=>(ka==kb)) m5_0 c (w64 ((List.length (m3_0++[(Zh.mk c 0)]):Int)-1))) c (w64 ((List.length ((m3_0++[(Zh.mk c 0)])++[(Zh.mk c 1)]):Int)-1))) c 0)-1)) (Z4 (fun ka kb:Int=>(ka==kb)) (Zu (fun ka kb:Int=>(ka==kb)) (Zu (fun ka kb:Int=>(ka==kb)) m5_0 c (w64 ((List.length (m3_0++[(Zh.mk c 0)]):Int)-1))) c (w64 ((List.length ((m3_0++[(Zh.mk c 0)])++[(Zh.mk c 1)]):Int)-1))) c 0))]),((m3_0++[(Zh.mk c 0)])++[(Zh.mk c 1)]))).bind fun r26=>
   some (.inr (.inl (r26.1,r26.2.1,r26.2.2.1,r26.2.2.2.1,r26.2.2.2.2)))
  else
   (Zal (Zh.mk c 1) (w64 (x7.work-x4.pos)) (m1_0++[(w64 (x4.pos-0))]) (m3_0++[(Zh.mk c 0)])).bind fun x27=>
   (ZI (w64 ((Z4 (fun ka kb:Int=>(ka==kb)) (Zu (fun ka kb:Int=>(ka==kb)) (Zu (fun ka kb:Int=>(ka==kb)) m5_0 c (w64 ((List.length (m3_0++[(Zh.mk c 0)]):Int)-1))) c (w64 ((List.length ((m3_0++[(Zh.mk c 0)])++[(Zh.mk c 1)]):Int)-1))) c 0)-1)) (Z4 (fun ka kb:Int=>(ka==kb)) (Zu (fun ka kb:Int=>(ka==kb)) (Zu (fun ka kb:Int=>(ka==kb)) m5_0 c (w64 ((List.length (m3_0++[(Zh.mk c 0)]):Int)-1))) c (w64 ((List.length ((m3_0++[(Zh.mk c 0)])++[(Zh.mk c 1)]):Int)-1))) c 0) m2_0).bind fun x28=>
   (ZE x0 0).bind fun x29=>
   (ZE b.futures x29).bind fun x30=>
   (lp (ZB b c x0) (x7.work,2,(Zu (fun ka kb:Int=>(ka==kb)) (Zu (fun ka kb:Int=>(ka==kb)) m5_0 c (w64 ((List.length (m3_0++[(Zh.mk c 0)]):Int)-1))) c (w64 ((List.length ((m3_0++[(Zh.mk c 0)])++[(Zh.mk c 1)]):Int)-1))),(Zu (fun ka kb:Zi=>((ka.maker==kb.maker)&&((ka.user==kb.user)&&((ka.pos==kb.pos)&&true)))) m6_0 x30 (Z4 (fun ka kb:Int=>(ka==kb)) (Zu (fun ka kb:Int=>(ka==kb)) (Zu (fun ka kb:Int=>(ka==kb)) m5_0 c (w64 ((List.length (m3_0++[(Zh.mk c 0)]):Int)-1))) c (w64 ((List.length ((m3_0++[(Zh.mk c 0)])++[(Zh.mk c 1)]):Int)-1))) c 0)),((m1_0++[(w64 (x4.pos-0))])++[(w64 (x7.work-x4.pos))]),(m2_0++[(Zm.mk (w64 ((Z4 (fun ka kb:Int=>(ka==kb)) (Zu (fun ka kb:Int=>(ka==kb)) (Zu (fun ka kb:Int=>(ka==kb)) m5_0 c (w64 ((List.length (m3_0++[(Zh.mk c 0)]):Int)-1))) c (w64 ((List.length ((m3_0++[(Zh.mk c 0)])++[(Zh.mk c 1)]):Int)-1))) c 0)-1)) (Z4 (fun ka kb:Int=>(ka==kb)) (Zu (fun ka kb:Int=>(ka==kb)) (Zu (fun ka kb:Int=>(ka==kb)) m5_0 c (w64 ((List.length (m3_0++[(Zh.mk c 0)]):Int)-1))) c (w64 ((List.length ((m3_0++[(Zh.mk c 0)])++[(Zh.mk c 1)]):Int)-1))) c 0))]),((m3_0++[(Zh.mk c 0)])++[(Zh.mk c 1)]))).bind fun r43=>
   some (.inr (.inl (r43.1,r43.2.1,r43.2.2.1,r43.2.2.2.1,r43.2.2.2.2)))
 else
  some (.inr (.inr ()))
noncomputable def Zcg (b:Zj) (c:Int) (m1_0:(List Int)) (m2_0:(List Zm)) (m3_0:(List Zh)) (m5_0:(List (Int×Int))) (m6_0:(List (Zi×Int))) (x0:(List Int)) (x2:ZV) (s46:Unit):Option (Unit⊕(((List (Int×Int))×(List (Zi×Int))×(List Int)×(List Zm)×(List Zh))⊕Unit)):=
 bif (decide (1<(w64 ((x0.length:Int)+1)))) then
  (ZE b.parts c).bind fun x47=>
  bif (decide (1<(x0.length:Int))) then
   (ZE x0 1).bind fun x48=>
   (ZE b.futures x48).bind fun x49=>
   (Zal (Zh.mk c 1) (w64 (x49.pos-x2.work)) (m1_0++[(w64 (x2.work-0))]) (m3_0++[(Zh.mk c 0)])).bind fun x50=>
   (ZI (w64 ((Z4 (fun ka kb:Int=>(ka==kb)) (Zu (fun ka kb:Int=>(ka==kb)) (Zu (fun ka kb:Int=>(ka==kb)) m5_0 c (w64 ((List.length (m3_0++[(Zh.mk c 0)]):Int)-1))) c (w64 ((List.length ((m3_0++[(Zh.mk c 0)])++[(Zh.mk c 1)]):Int)-1))) c 0)-1)) (Z4 (fun ka kb:Int=>(ka==kb)) (Zu (fun ka kb:Int=>(ka==kb)) (Zu (fun ka kb:Int=>(ka==kb)) m5_0 c (w64 ((List.length (m3_0++[(Zh.mk c 0)]):Int)-1))) c (w64 ((List.length ((m3_0++[(Zh.mk c 0)])++[(Zh.mk c 1)]):Int)-1))) c 0) m2_0).bind fun x51=>
   (ZE x0 0).bind fun x52=>
   (ZE b.futures x52).bind fun x53=>
   (lp (ZB b c x0) (x49.pos,2,(Zu (fun ka kb:Int=>(ka==kb)) (Zu (fun ka kb:Int=>(ka==kb)) m5_0 c (w64 ((List.length (m3_0++[(Zh.mk c 0)]):Int)-1))) c (w64 ((List.length ((m3_0++[(Zh.mk c 0)])++[(Zh.mk c 1)]):Int)-1))),(Zu (fun ka kb:Zi=>((ka.maker==kb.maker)&&((ka.user==kb.user)&&((ka.pos==kb.pos)&&true)))) m6_0 x53 (Z4 (fun ka kb:Int=>(ka==kb)) (Zu (fun ka kb:Int=>(ka==kb)) (Zu (fun ka kb:Int=>(ka==kb)) m5_0 c (w64 ((List.length (m3_0++[(Zh.mk c 0)]):Int)-1))) c (w64 ((List.length ((m3_0++[(Zh.mk c 0)])++[(Zh.mk c 1)]):Int)-1))) c 0)),((m1_0++[(w64 (x2.work-0))])++[(w64 (x49.pos-x2.work))]),(m2_0++[(Zm.mk (w64 ((Z4 (fun ka kb:Int=>(ka==kb)) (Zu (fun ka kb:Int=>(ka==kb)) (Zu (fun ka kb:Int=>(ka==kb)) m5_0 c (w64 ((List.length (m3_0++[(Zh.mk c 0)]):Int)-1))) c (w64 ((List.length ((m3_0++[(Zh.mk c 0)])++[(Zh.mk c 1)]):Int)-1))) c 0)-1)) (Z4 (fun ka kb:Int=>(ka==kb)) (Zu (fun ka kb:Int=>(ka==kb)) (Zu (fun ka kb:Int=>(ka==kb)) m5_0 c (w64 ((List.length (m3_0++[(Zh.mk c 0)]):Int)-1))) c (w64 ((List.length ((m3_0++[(Zh.mk c 0)])++[(Zh.mk c 1)]):Int)-1))) c 0))]),((m3_0++[(Zh.mk c 0)])++[(Zh.mk c 1)]))).bind fun r66=>
   some (.inr (.inl (r66.1,r66.2.1,r66.2.2.1,r66.2.2.2.1,r66.2.2.2.2)))
  else
   (Zal (Zh.mk c 1) (w64 (x47.work-x2.work)) (m1_0++[(w64 (x2.work-0))]) (m3_0++[(Zh.mk c 0)])).bind fun x67=>
   (ZI (w64 ((Z4 (fun ka kb:Int=>(ka==kb)) (Zu (fun ka kb:Int=>(ka==kb)) (Zu (fun ka kb:Int=>(ka==kb)) m5_0 c (w64 ((List.length (m3_0++[(Zh.mk c 0)]):Int)-1))) c (w64 ((List.length ((m3_0++[(Zh.mk c 0)])++[(Zh.mk c 1)]):Int)-1))) c 0)-1)) (Z4 (fun ka kb:Int=>(ka==kb)) (Zu (fun ka kb:Int=>(ka==kb)) (Zu (fun ka kb:Int=>(ka==kb)) m5_0 c (w64 ((List.length (m3_0++[(Zh.mk c 0)]):Int)-1))) c (w64 ((List.length ((m3_0++[(Zh.mk c 0)])++[(Zh.mk c 1)]):Int)-1))) c 0) m2_0).bind fun x68=>
   (ZE x0 0).bind fun x69=>
   (ZE b.futures x69).bind fun x70=>
   (lp (ZB b c x0) (x47.work,2,(Zu (fun ka kb:Int=>(ka==kb)) (Zu (fun ka kb:Int=>(ka==kb)) m5_0 c (w64 ((List.length (m3_0++[(Zh.mk c 0)]):Int)-1))) c (w64 ((List.length ((m3_0++[(Zh.mk c 0)])++[(Zh.mk c 1)]):Int)-1))),(Zu (fun ka kb:Zi=>((ka.maker==kb.maker)&&((ka.user==kb.user)&&((ka.pos==kb.pos)&&true)))) m6_0 x70 (Z4 (fun ka kb:Int=>(ka==kb)) (Zu (fun ka kb:Int=>(ka==kb)) (Zu (fun ka kb:Int=>(ka==kb)) m5_0 c (w64 ((List.length (m3_0++[(Zh.mk c 0)]):Int)-1))) c (w64 ((List.length ((m3_0++[(Zh.mk c 0)])++[(Zh.mk c 1)]):Int)-1))) c 0)),((m1_0++[(w64 (x2.work-0))])++[(w64 (x47.work-x2.work))]),(m2_0++[(Zm.mk (w64 ((Z4 (fun ka kb:Int=>(ka==kb)) (Zu (fun ka kb:Int=>(ka==kb)) (Zu (fun ka kb:Int=>(ka==kb)) m5_0 c (w64 ((List.length (m3_0++[(Zh.mk c 0)]):Int)-1))) c (w64 ((List.length ((m3_0++[(Zh.mk c 0)])++[(Zh.mk c 1)]):Int)-1))) c 0)-1)) (Z4 (fun ka kb:Int=>(ka==kb)) (Zu (fun ka kb:Int=>(ka==kb)) (Zu (fun ka kb:Int=>(ka==kb)) m5_0 c (w64 ((List.length (m3_0++[(Zh.mk c 0)]):Int)-1))) c (w64 ((List.length ((m3_0++[(Zh.mk c 0)])++[(Zh.mk c 1)]):Int)-1))) c 0))]),((m3_0++[(Zh.mk c 0)])++[(Zh.mk c 1)]))).bind fun r83=>
   some (.inr (.inl (r83.1,r83.2.1,r83.2.2.1,r83.2.2.2.1,r83.2.2.2.2)))
 else
  some (.inr (.inr ()))
noncomputable def Zbt (b:Zj) (c:Int) (m1_0:(List Int)) (m2_0:(List Zm)) (m3_0:(List Zh)) (m5_0:(List (Int×Int))) (m6_0:(List (Zi×Int))) (x0:(List Int)) (s1:Unit):Option (Unit⊕(((List (Int×Int))×(List (Zi×Int))×(List Int)×(List Zm)×(List Zh))⊕((List Int)⊕Unit))):=
 bif (decide (0<(w64 ((x0.length:Int)+1)))) then
  (ZE b.parts c).bind fun x2=>
  bif (decide (0<(x0.length:Int))) then
   (ZE x0 0).bind fun x3=>
   (ZE b.futures x3).bind fun x4=>
   (Zal (Zh.mk c 0) (w64 (x4.pos-0)) m1_0 m3_0).bind fun x5=>
   (lp (Zbs b c m1_0 m2_0 m3_0 m5_0 m6_0 x0 x4) ()).bind fun r44=>
   match r44 with
   | (.inl r44)=>
    some (.inr (.inl (r44.1,r44.2.1,r44.2.2.1,r44.2.2.2.1,r44.2.2.2.2)))
   | (.inr r44)=>
    some (.inr (.inr (.inl (m1_0++[(w64 (x4.pos-0))]))))
  else
   (Zal (Zh.mk c 0) (w64 (x2.work-0)) m1_0 m3_0).bind fun x45=>
   (lp (Zcg b c m1_0 m2_0 m3_0 m5_0 m6_0 x0 x2) ()).bind fun r84=>
   match r84 with
   | (.inl r84)=>
    some (.inr (.inl (r84.1,r84.2.1,r84.2.2.1,r84.2.2.2.1,r84.2.2.2.2)))
   | (.inr r84)=>
    some (.inr (.inr (.inl (m1_0++[(w64 (x2.work-0))]))))
 else
  some (.inr (.inr (.inr ())))
noncomputable def Zdk (b:Zj) (c:Int) (m1_0:(List Int)) (m2_0:(List Zm)) (m3_0:(List Zh)) (m5_0:(List (Int×Int))) (m6_0:(List (Zi×Int))):Option (((List (Int×Int))×(List (Zi×Int))×(List Int)×(List Zm)×(List Zh))⊕((List Int)⊕Unit)):=
 (Zcz b c).bind fun x0=>
 (lp (Zbt b c m1_0 m2_0 m3_0 m5_0 m6_0 x0) ()).bind fun r85=>
 match r85 with
 | (.inl r85)=>
  some (.inl (r85.1,r85.2.1,r85.2.2.1,r85.2.2.2.1,r85.2.2.2.2))
 | (.inr (.inl r85))=>
  some (.inr (.inl r85))
 | (.inr (.inr r85))=>
  some (.inr (.inr ()))
noncomputable def ZcU (a:Int):Option Bool:=
 bif (decide (a<0)) then
  some true
 else
  bif (decide (1000<a)) then
   some true
  else
   some false
noncomputable def ZeY (a:Int) (b0:(List Int)):Option Bool:=
 bif (decide (0≤a)) then
  bif (decide (a<(b0.length:Int))) then
   some true
  else
   some false
 else
  some false
noncomputable def ZeB (a:Zb1) (s0:(List Int)×(List Bool)) (s1:Int) (s3:Int):Option (Int⊕(Unit⊕Unit)):=
 bif (decide (s3<(a.edges.length:Int))) then
  (ZE a.edges s3).bind fun x4=>
  bif (x4.dst==s1) then
   (ZE s0.2 x4.src).bind fun x5=>
   bif x5 then
    some (.inl (w64 (s3+1)))
   else
    some (.inr (.inl ()))
  else
   some (.inl (w64 (s3+1)))
 else
  some (.inr (.inr ()))
noncomputable def ZdG (a:Zb1) (s0:(List Int)×(List Bool)) (s1:Int):Option (Int⊕(((List Int)×(List Bool))⊕Unit)):=
 bif (decide (s1<(a.work.length:Int))) then
  (ZE s0.2 s1).bind fun x2=>
  bif x2 then
   some (.inl (w64 (s1+1)))
  else
   (lp (ZeB a s0 s1) 0).bind fun r6=>
   match r6 with
   | (.inl r6)=>
    some (.inl (w64 (s1+1)))
   | (.inr r6)=>
    bif (Nat.ble (List.length s0.1+1) lim) then
     some (.inr (.inl ((s0.1++[s1]),(List.set s0.2 s1.toNat true))))
    else
     none
 else
  some (.inr (.inr ()))
noncomputable def ZeF (a:Zb1) (s0:(List Int)×(List Bool)):Option (((List Int)×(List Bool))⊕((List Int)⊕(List Int))):=
 bif (decide ((s0.1.length:Int)<(a.work.length:Int))) then
  (lp (ZdG a s0) 0).bind fun r7=>
  match r7 with
  | (.inl r7)=>
   some (.inl (r7.1,r7.2))
  | (.inr r7)=>
   some (.inr (.inl s0.1))
 else
  some (.inr (.inr s0.1))
noncomputable def ZeG (a:Zb1):Option ((List Int)×Bool):=
 bif (decide (0≤(a.work.length:Int))&&decide ((a.work.length:Int)≤lim)&&decide ((a.work.length:Int)==(a.work.length:Int))) then
  (lp (ZeF a) (([]:(List Int)),(List.replicate (a.work.length:Int).toNat (false:Bool)))).bind fun r8=>
  match r8 with
  | (.inl r8)=>
   some (([]:List Int),false)
  | (.inr r8)=>
   some (r8,true)
 else
  none
noncomputable def ZdU (a:Zb1) (s1:Int):Option (Int⊕(Unit⊕Unit)):=
 bif (decide (s1<(a.edges.length:Int))) then
  (ZE a.edges s1).bind fun x2=>
  (ZeY x2.src a.work).bind fun x3=>
  bif x3 then
   (ZeY x2.dst a.work).bind fun x4=>
   bif x4 then
    bif (x2.src==x2.dst) then
     some (.inr (.inl ()))
    else
     bif (decide (0≤s1)) then
      bif (Nat.ble s1.toNat (List.length a.edges)) then
       (ZaW (List.take s1.toNat a.edges) x2).bind fun x5=>
       bif x5 then
        some (.inr (.inl ()))
       else
        some (.inl (w64 (s1+1)))
      else
       none
     else
      none
   else
    some (.inr (.inl ()))
  else
   some (.inr (.inl ()))
 else
  some (.inr (.inr ()))
noncomputable def ZfX (a:Zb1):Option Int:=
 bif (decide (64<(a.work.length:Int))) then
  some 40
 else
  bif (decide (256<(a.edges.length:Int))) then
   some 40
  else
   (Z7 a.work (fun z0=>ZcU z0)).bind fun x0=>
   bif x0 then
    some 41
   else
    (lp (ZdU a) 0).bind fun r6=>
    match r6 with
    | (.inl r6)=>
     some 42
    | (.inr r6)=>
     (ZeG a).bind fun x7=>
     bif x7.2 then
      some 0
     else
      some 43
noncomputable def Zcr (a:Zj) (s1:Int×(List Int)×(List Zm)×(List Zh)×(List (Int×Int))×(List (Int×Int))×(List (Zi×Int))):Option ((Int×(List Int)×(List Zm)×(List Zh)×(List (Int×Int))×(List (Int×Int))×(List (Zi×Int)))⊕((List Int)×(List Zm)×(List Zh)×(List (Int×Int))×(List (Int×Int))×(List (Zi×Int)))):=
 bif (decide (s1.1<(a.parts.length:Int))) then
  (Zdk a s1.1 s1.2.1 s1.2.2.1 s1.2.2.2.1 s1.2.2.2.2.2.1 s1.2.2.2.2.2.2).bind fun x2=>
  match x2 with
  | (.inl x2)=>
   some (.inl ((w64 (s1.1+1)),x2.2.2.1,x2.2.2.2.1,x2.2.2.2.2,(Zu (fun ka kb:Int=>(ka==kb)) s1.2.2.2.2.1 s1.1 (s1.2.2.2.1.length:Int)),x2.1,x2.2.1))
  | (.inr (.inl x2))=>
   some (.inl ((w64 (s1.1+1)),x2,s1.2.2.1,(s1.2.2.2.1++[(Zh.mk s1.1 0)]),(Zu (fun ka kb:Int=>(ka==kb)) s1.2.2.2.2.1 s1.1 (s1.2.2.2.1.length:Int)),(Zu (fun ka kb:Int=>(ka==kb)) s1.2.2.2.2.2.1 s1.1 (w64 ((List.length (s1.2.2.2.1++[(Zh.mk s1.1 0)]):Int)-1))),s1.2.2.2.2.2.2))
  | (.inr (.inr x2))=>
   some (.inl ((w64 (s1.1+1)),s1.2.1,s1.2.2.1,s1.2.2.2.1,(Zu (fun ka kb:Int=>(ka==kb)) s1.2.2.2.2.1 s1.1 (s1.2.2.2.1.length:Int)),s1.2.2.2.2.2.1,s1.2.2.2.2.2.2))
 else
  some (.inr (s1.2.1,s1.2.2.1,s1.2.2.2.1,s1.2.2.2.2.1,s1.2.2.2.2.2.1,s1.2.2.2.2.2.2))
noncomputable def ZcM (a:Zj) (r3:((List Int)×(List Zm)×(List Zh)×(List (Int×Int))×(List (Int×Int))×(List (Zi×Int)))) (s4:Int×(List Zm)):Option ((Int×(List Zm))⊕(List Zm)):=
 bif (decide (s4.1<(a.edges.length:Int))) then
  (ZE a.edges s4.1).bind fun x5=>
  (ZI (Z4 (fun ka kb:Int=>(ka==kb)) r3.2.2.2.2.1 x5.src 0) (Z4 (fun ka kb:Int=>(ka==kb)) r3.2.2.2.1 x5.dst 0) s4.2).bind fun x6=>
  some (.inl ((w64 (s4.1+1)),(s4.2++[(Zm.mk (Z4 (fun ka kb:Int=>(ka==kb)) r3.2.2.2.2.1 x5.src 0) (Z4 (fun ka kb:Int=>(ka==kb)) r3.2.2.2.1 x5.dst 0))])))
 else
  some (.inr s4.2)
noncomputable def ZcP (a:Zj) (r3:((List Int)×(List Zm)×(List Zh)×(List (Int×Int))×(List (Int×Int))×(List (Zi×Int)))) (s8:Int×(List Zm)):Option ((Int×(List Zm))⊕(List Zm)):=
 bif (decide (s8.1<(a.futures.length:Int))) then
  (ZE a.futures s8.1).bind fun x9=>
  (ZI (Z4 (fun ka kb:Int=>(ka==kb)) r3.2.2.2.2.1 x9.maker 0) (Z4 (fun ka kb:Zi=>((ka.maker==kb.maker)&&((ka.user==kb.user)&&((ka.pos==kb.pos)&&true)))) r3.2.2.2.2.2 x9 0) s8.2).bind fun x10=>
  some (.inl ((w64 (s8.1+1)),(s8.2++[(Zm.mk (Z4 (fun ka kb:Int=>(ka==kb)) r3.2.2.2.2.1 x9.maker 0) (Z4 (fun ka kb:Zi=>((ka.maker==kb.maker)&&((ka.user==kb.user)&&((ka.pos==kb.pos)&&true)))) r3.2.2.2.2.2 x9 0))])))
 else
  some (.inr s8.2)
noncomputable def Zdz (r3:((List Int)×(List Zm)×(List Zh)×(List (Int×Int))×(List (Int×Int))×(List (Zi×Int)))) (s12:Int×(List Int)×(List Zm)×(List Zh)) (x13:Zs) (s15:Int×(List Zm)):Option ((Int×(List Zm))⊕(List Zm)):=
 bif (decide (s15.1<(x13.ins.length:Int))) then
  (ZE x13.ins s15.1).bind fun x16=>
  (ZI (Z4 (fun ka kb:Int=>(ka==kb)) r3.2.2.2.2.1 x16 0) (w64 ((List.length (s12.2.2.2++[(Zh.mk (-1) s12.1)]):Int)-1)) s15.2).bind fun x17=>
  some (.inl ((w64 (s15.1+1)),(s15.2++[(Zm.mk (Z4 (fun ka kb:Int=>(ka==kb)) r3.2.2.2.2.1 x16 0) (w64 ((List.length (s12.2.2.2++[(Zh.mk (-1) s12.1)]):Int)-1)))])))
 else
  some (.inr s15.2)
noncomputable def ZdA (r3:((List Int)×(List Zm)×(List Zh)×(List (Int×Int))×(List (Int×Int))×(List (Zi×Int)))) (s12:Int×(List Int)×(List Zm)×(List Zh)) (x13:Zs) (s19:Int×(List Zm)):Option ((Int×(List Zm))⊕(List Zm)):=
 bif (decide (s19.1<(x13.outs.length:Int))) then
  (ZE x13.outs s19.1).bind fun x20=>
  (ZI (w64 ((List.length (s12.2.2.2++[(Zh.mk (-1) s12.1)]):Int)-1)) (Z4 (fun ka kb:Int=>(ka==kb)) r3.2.2.2.1 x20 0) s19.2).bind fun x21=>
  some (.inl ((w64 (s19.1+1)),(s19.2++[(Zm.mk (w64 ((List.length (s12.2.2.2++[(Zh.mk (-1) s12.1)]):Int)-1)) (Z4 (fun ka kb:Int=>(ka==kb)) r3.2.2.2.1 x20 0))])))
 else
  some (.inr s19.2)
noncomputable def ZcO (a:Zj) (r3:((List Int)×(List Zm)×(List Zh)×(List (Int×Int))×(List (Int×Int))×(List (Zi×Int)))) (s12:Int×(List Int)×(List Zm)×(List Zh)):Option ((Int×(List Int)×(List Zm)×(List Zh))⊕((List Int)×(List Zm)×(List Zh))):=
 bif (decide (s12.1<(a.barriers.length:Int))) then
  (ZE a.barriers s12.1).bind fun x13=>
  (Zal (Zh.mk (-1) s12.1) 1 s12.2.1 s12.2.2.2).bind fun x14=>
  (lp (Zdz r3 s12 x13) (0,s12.2.2.1)).bind fun r18=>
  (lp (ZdA r3 s12 x13) (0,r18)).bind fun r22=>
  some (.inl ((w64 (s12.1+1)),(s12.2.1++[1]),r22,(s12.2.2.2++[(Zh.mk (-1) s12.1)])))
 else
  some (.inr (s12.2.1,s12.2.2.1,s12.2.2.2))
noncomputable def Zdw (a:Zj):Option (ZjX×Int):=
 (ZeQ a).bind fun x0=>
 bif (x0 != 0) then
  some ((ZjX.mk (Zb1.mk ([]:List Int) ([]:List Zm)) ([]:List Zh)),x0)
 else
  (lp (Zcr a) (0,([]:(List Int)),([]:(List Zm)),([]:(List Zh)),([]:(List (Int×Int))),([]:(List (Int×Int))),([]:(List (Zi×Int))))).bind fun r3=>
  (lp (ZcM a r3) (0,r3.2.1)).bind fun r7=>
  (lp (ZcP a r3) (0,r7)).bind fun r11=>
  (lp (ZcO a r3) (0,r3.1,r11,r3.2.2.1)).bind fun r23=>
  (ZfX (Zb1.mk r23.1 r23.2.1)).bind fun x24=>
  bif (x24 != 0) then
   some ((ZjX.mk (Zb1.mk ([]:List Int) ([]:List Zm)) ([]:List Zh)),70)
  else
   some ((ZjX.mk (Zb1.mk r23.1 r23.2.1) r23.2.2),0)
noncomputable def ZgF (a:Zj):Option (Zy×Int):=
 (Zdw a).bind fun x0=>
 bif (x0.2 != 0) then
  some ((Zy.mk ([]:List Bool) ([]:List Int)),x0.2)
 else
  bif (decide (0≤(x0.1.pieces.length:Int))&&decide ((x0.1.pieces.length:Int)≤lim)&&decide ((x0.1.pieces.length:Int)==(x0.1.pieces.length:Int))) then
   bif (decide (0≤(a.parts.length:Int))&&decide ((a.parts.length:Int)≤lim)&&decide ((a.parts.length:Int)==(a.parts.length:Int))) then
    some ((Zy.mk (List.replicate (x0.1.pieces.length:Int).toNat (false:Bool)) (List.replicate (a.parts.length:Int).toNat (0:Int))),0)
   else
    none
  else
   none
noncomputable def Zea (a:Zy):Option Unit:=
 bif (Nat.ble (List.length a.done) lim) then
  bif (Nat.ble (List.length a.vals) lim) then
   some ()
  else
   none
 else
  none
noncomputable def ZcZ (a:Zm) (b0:(List Bool)):Option Bool:=
 (ZE b0 a.dst).bind fun x0=>
 bif x0 then
  (ZE b0 a.src).bind fun x1=>
  bif x1 then
   some false
  else
   some true
 else
  some false
noncomputable def Zac (a:(List Zm)) (b:(Zm→Option Bool)) (s0:Int):Option (Int⊕(Int⊕Unit)):=
 bif (decide (s0<(a.length:Int))) then
  (ZE a s0).bind fun x1=>
  (b x1).bind fun x2=>
  bif x2 then
   some (.inr (.inl s0))
  else
   some (.inl (w64 (s0+1)))
 else
  some (.inr (.inr ()))
noncomputable def ZaO (a:(List Zm)) (b:(Zm→Option Bool)):Option Int:=
 (lp (Zac a b) 0).bind fun r3=>
 match r3 with
 | (.inl r3)=>
  some r3
 | (.inr r3)=>
  some (-1)
noncomputable def Z2 (a:(List Zm)) (b:(Zm→Option Bool)):Option Bool:=
 (ZaO a b).bind fun x0=>
 bif (decide (0≤x0)) then
  some true
 else
  some false
noncomputable def Zfn (a:Zj) (b:Zb1) (c:Zy):Option Bool:=
 bif ((c.done.length:Int) != (b.work.length:Int)) then
  some false
 else
  bif ((c.vals.length:Int) != (a.parts.length:Int)) then
   some false
  else
   (Z2 b.edges (fun z0=>ZcZ z0 c.done)).bind fun x0=>
   bif x0 then
    some false
   else
    some true
noncomputable def ZcW (a:Zm) (b0:Int) (c0:(List Bool)):Option Bool:=
 bif (a.dst==b0) then
  (ZE c0 a.src).bind fun x0=>
  bif x0 then
   some false
  else
   some true
 else
  some false
noncomputable def Zfo (a:Zb1) (b:Zy) (c:Int):Option Bool:=
 (Z2 a.edges (fun z0=>ZcW z0 c b.done)).bind fun x0=>
 bif x0 then
  some true
 else
  some false
noncomputable def Zd6 (b:Zy) (x0:(ZjX×Int)) (s2:Int×(List Int)):Option ((Int×(List Int))⊕(List Int)):=
 bif (decide (s2.1<(b.done.length:Int))) then
  (ZE b.done s2.1).bind fun x3=>
  bif x3 then
   some (.inl ((w64 (s2.1+1)),s2.2))
  else
   (Zfo x0.1.dag b s2.1).bind fun x4=>
   bif x4 then
    some (.inl ((w64 (s2.1+1)),s2.2))
   else
    bif (Nat.ble (List.length s2.2+1) lim) then
     some (.inl ((w64 (s2.1+1)),(s2.2++[s2.1])))
    else
     none
 else
  some (.inr s2.2)
noncomputable def Zfr (a:Zj) (b:Zy):Option (List Int):=
 (Zdw a).bind fun x0=>
 bif (x0.2 != 0) then
  some ([]:List Int)
 else
  (Zfn a x0.1.dag b).bind fun x1=>
  bif x1 then
   (lp (Zd6 b x0) (0,([]:(List Int)))).bind fun r5=>
   some r5
  else
   some ([]:List Int)
noncomputable def ZbN (a:(List Bool)):Option Unit:=
 bif (Nat.blt 0 (List.length a)) then
  bif (Nat.ble (List.length a) lim) then
   some ()
  else
   none
 else
  none
noncomputable def Zcc (a:(List Int)):Option Unit:=
 bif (Nat.blt 0 (List.length a)) then
  bif (Nat.ble (List.length a) lim) then
   some ()
  else
   none
 else
  none
noncomputable def Zgf (a:ZjX) (b:Int):Option Int:=
 (ZrF (List.map (fun x:Zh=>(x.part,x.step)) a.pieces) b).bind fun x0=>
 some x0
noncomputable def ZfK (a:Zj) (b:Int) (s1:Int×(List Int)):Option ((Int×(List Int))⊕(List Int)):=
 bif (decide (s1.1<(a.edges.length:Int))) then
  (ZE a.edges s1.1).bind fun x2=>
  bif (x2.dst==b) then
   bif (Nat.ble (List.length s1.2+1) lim) then
    some (.inl ((w64 (s1.1+1)),(s1.2++[x2.src])))
   else
    none
  else
   some (.inl ((w64 (s1.1+1)),s1.2))
 else
  some (.inr s1.2)
noncomputable def ZfL (a:Zj) (x4:(List Int)) (s5:Int×(List Int)):Option ((Int×(List Int))⊕(List Int)):=
 bif (decide (s5.1<(x4.length:Int))) then
  (ZE x4 s5.1).bind fun x6=>
  (ZE a.futures x6).bind fun x7=>
  bif (Nat.ble (List.length s5.2+1) lim) then
   some (.inl ((w64 (s5.1+1)),(s5.2++[x7.maker])))
  else
   none
 else
  some (.inr s5.2)
noncomputable def Zfu (a:Zj) (b:Int):Option (List Int):=
 (ZeQ a).bind fun x0=>
 bif (x0 != 0) then
  some ([]:List Int)
 else
  (lp (ZfK a b) (0,([]:(List Int)))).bind fun r3=>
  (Zcz a b).bind fun x4=>
  (lp (ZfL a x4) (0,r3)).bind fun r8=>
  some r8
noncomputable def ZcT (a:Int):Option Int:=
 some (IntKind.u32.wrap a)
noncomputable def Zh0:Option Unit:=
 some ()
noncomputable def ZfE (a:Int) (b:Int):Option Int:=
 some (IntKind.u32.wrap (a+b))
noncomputable def ZfG (a:Int) (b:Int):Option Int:=
 some (IntKind.u32.wrap (a*b))
noncomputable def ZfF (a:Int) (b:Int):Option Int:=
 some (bif decide (a<b) then b else a)
noncomputable def ZfJ (a:Int) (b:Int):Option Int:=
 some (IntKind.u32.wrap ((IntKind.u32.wrap (a*31))+b))
noncomputable def ZeL (b:(List Int)) (s0:Int×(List (Int×Int))):Option ((Int×(List (Int×Int)))⊕(List (Int×Int))):=
 bif (decide (s0.1<(b.length:Int))) then
  (ZE b s0.1).bind fun x1=>
  some (.inl ((w64 (s0.1+1)),(Zu (fun ka kb:Int=>(ka==kb)) s0.2 s0.1 x1)))
 else
  some (.inr s0.2)
noncomputable def ZeP (c:(List Int)) (s6:Int×Int):Option ((Int×Int)⊕Int):=
 bif (decide (s6.2<(c.length:Int))) then
  (ZE c s6.2).bind fun x7=>
  (ZcT x7).bind fun x8=>
  (ZfE s6.1 x8).bind fun x9=>
  some (.inl (x9,(w64 (s6.2+1))))
 else
  some (.inr s6.1)
noncomputable def ZdQ (c:(List Int)) (s11:Int×Int):Option ((Int×Int)⊕Int):=
 bif (decide (s11.2<(c.length:Int))) then
  (ZE c s11.2).bind fun x12=>
  (ZcT x12).bind fun x13=>
  (ZfG s11.1 x13).bind fun x14=>
  some (.inl (x14,(w64 (s11.2+1))))
 else
  some (.inr s11.1)
noncomputable def ZdS (c:(List Int)) (s16:Int×Int):Option ((Int×Int)⊕Int):=
 bif (decide (s16.2<(c.length:Int))) then
  (ZE c s16.2).bind fun x17=>
  (ZcT x17).bind fun x18=>
  (ZfF s16.1 x18).bind fun x19=>
  some (.inl (x19,(w64 (s16.2+1))))
 else
  some (.inr s16.1)
noncomputable def ZdH (c:(List Int)) (s21:Int×Int):Option ((Int×Int)⊕Int):=
 bif (decide (s21.2<(c.length:Int))) then
  (ZE c s21.2).bind fun x22=>
  (ZcT x22).bind fun x23=>
  (ZfJ s21.1 x23).bind fun x24=>
  some (.inl (x24,(w64 (s21.2+1))))
 else
  some (.inr s21.1)
noncomputable def ZiS (a:ZV) (b:(List Int)) (c:(List Int)):Option Int:=
 bif (a.op==0) then
  (lp (ZeL b) (0,([]:(List (Int×Int))))).bind fun r2=>
  (ZcT (Z4 (fun ka kb:Int=>(ka==kb)) r2 a.arg 0)).bind fun x3=>
  some (w64 x3)
 else
  bif (a.op==1) then
   (ZcT a.arg).bind fun x4=>
   some (w64 x4)
  else
   bif (decide (a.op<0)) then
    some 0
   else
    bif (decide (5<a.op)) then
     some 0
    else
     Zh0.bind fun x5=>
     bif (decide (0≤(w64 (a.op-2)))&&decide ((w64 (a.op-2))<4)) then
      bif ((w64 (a.op-2))==0) then
       (lp (ZeP c) (0,0)).bind fun r10=>
       some (w64 r10)
      else
      bif ((w64 (a.op-2))==1) then
       (lp (ZdQ c) (1,0)).bind fun r15=>
       some (w64 r15)
      else
      bif ((w64 (a.op-2))==2) then
       (lp (ZdS c) (0,0)).bind fun r20=>
       some (w64 r20)
      else
      bif ((w64 (a.op-2))==3) then
       (lp (ZdH c) (7,0)).bind fun r25=>
       some (w64 r25)
      else
       none
     else
      none
noncomputable def ZdC (d:Zy) (x5:(List Int)) (s6:Int×(List Int)):Option ((Int×(List Int))⊕(List Int)):=
 bif (decide (s6.1<(x5.length:Int))) then
  (ZE x5 s6.1).bind fun x7=>
  (ZE d.vals x7).bind fun x8=>
  bif (Nat.ble (List.length s6.2+1) lim) then
   some (.inl ((w64 (s6.1+1)),(s6.2++[x8])))
  else
   none
 else
  some (.inr s6.2)
noncomputable def Zep (a:Zj) (b:ZjX) (c:(List Int)) (d:Zy) (e:Int):Option Zy:=
 (ZbN d.done).bind fun x0=>
 (Zcc d.vals).bind fun x1=>
 (ZE d.done e).bind fun x2=>
 (ZE b.pieces e).bind fun x3=>
 bif (decide (x3.part<0)) then
  some (Zy.mk (List.set d.done e.toNat true) d.vals)
 else
  (Zgf b x3.part).bind fun x4=>
  bif (x4 != e) then
   some (Zy.mk (List.set d.done e.toNat true) d.vals)
  else
   (Zfu a x3.part).bind fun x5=>
   (lp (ZdC d x5) (0,([]:(List Int)))).bind fun r9=>
   (ZE a.parts x3.part).bind fun x10=>
   (ZiS x10 c r9).bind fun x11=>
   (ZE d.vals x3.part).bind fun x12=>
   some (Zy.mk (List.set d.done e.toNat true) (List.set d.vals x3.part.toNat x11))
noncomputable def Zds (a:Zj) (b:(List Int)) (c:Zy) (d:Int):Option (Zy×Int):=
 (Zdw a).bind fun x0=>
 bif (x0.2 != 0) then
  bif (x0.2 != 0) then
   some ((Zy.mk ([]:List Bool) ([]:List Int)),x0.2)
  else
   (Zep a x0.1 b c d).bind fun x1=>
   some (x1,0)
 else
  (Zfn a x0.1.dag c).bind fun x2=>
  bif x2 then
   bif (decide (d<0)) then
    some ((Zy.mk ([]:List Bool) ([]:List Int)),81)
   else
    bif (decide ((c.done.length:Int)≤d)) then
     some ((Zy.mk ([]:List Bool) ([]:List Int)),81)
    else
     (ZE c.done d).bind fun x3=>
     bif x3 then
      some ((Zy.mk ([]:List Bool) ([]:List Int)),82)
     else
      (Zfo x0.1.dag c d).bind fun x4=>
      bif x4 then
       some ((Zy.mk ([]:List Bool) ([]:List Int)),83)
      else
       bif (x0.2 != 0) then
        some ((Zy.mk ([]:List Bool) ([]:List Int)),x0.2)
       else
        (Zep a x0.1 b c d).bind fun x5=>
        some (x5,0)
  else
   some ((Zy.mk ([]:List Bool) ([]:List Int)),80)
noncomputable def ZgQ (a:Zb1):Option (List Int):=
 (ZfX a).bind fun x0=>
 bif (x0 != 0) then
  some ([]:List Int)
 else
  (ZeG a).bind fun x1=>
  bif x1.2 then
   some x1.1
  else
   some x1.1
noncomputable def Zek (a:Zj) (b:(List Int)) (x1:(ZjX×Int)) (x2:(List Int)) (s3:Int×(List Bool)×(List Int)):Option ((Int×(List Bool)×(List Int))⊕((List Bool)×(List Int))):=
 bif (decide (s3.1<(x2.length:Int))) then
  (ZE x2 s3.1).bind fun x4=>
  (Zep a x1.1 b (Zy.mk s3.2.1 s3.2.2) x4).bind fun x5=>
  some (.inl ((w64 (s3.1+1)),x5.done,x5.vals))
 else
  some (.inr (s3.2.1,s3.2.2))
noncomputable def ZfU (a:Zj) (b:(List Int)):Option ((List Int)×Int):=
 (ZgF a).bind fun x0=>
 bif (x0.2 != 0) then
  some (([]:List Int),x0.2)
 else
  (Zdw a).bind fun x1=>
  (ZgQ x1.1.dag).bind fun x2=>
  (lp (Zek a b x1 x2) (0,x0.1.done,x0.1.vals)).bind fun r6=>
  some (r6.2,0)
noncomputable def Zd3 (a:(List Int)) (b:(List Int)) (s0:Int):Option (Int⊕(Unit⊕Unit)):=
 bif (decide (s0<(a.length:Int))) then
  (ZE a s0).bind fun x1=>
  (ZE b s0).bind fun x2=>
  bif (x1 != x2) then
   some (.inr (.inl ()))
  else
   some (.inl (w64 (s0+1)))
 else
  some (.inr (.inr ()))
noncomputable def Zf7 (a:(List Int)) (b:(List Int)):Option Bool:=
 bif ((a.length:Int) != (b.length:Int)) then
  some false
 else
  (lp (Zd3 a b) 0).bind fun r3=>
  match r3 with
  | (.inl r3)=>
   some false
  | (.inr r3)=>
   some true
noncomputable def ZaN (a:Zj) (b:(List Int)) (c:(List Int)) (s5:Int×(List Bool)×(List Int)):Option ((Int×(List Bool)×(List Int))⊕(((List Bool)×(List Int))⊕((List Bool)×(List Int)))):=
 bif (decide (s5.1<70)) then
  (Zdu a).bind fun x6=>
  (Zea (Zy.mk s5.2.1 s5.2.2)).bind fun x7=>
  (Zfr (Zj.mk a.period a.deadline a.parts a.edges a.futures x6) (Zy.mk (Zy.mk s5.2.1 s5.2.2).done (Zy.mk s5.2.1 s5.2.2).vals)).bind fun x8=>
  bif ((x8.length:Int)==0) then
   some (.inr (.inl (s5.2.1,s5.2.2)))
  else
   bif (decide (s5.1<(c.length:Int))) then
    (ZE c s5.1).bind fun x9=>
    bif (decide (0≤x9)) then
     bif ((x8.length:Int)==0) then
      none
     else
      (Zdu a).bind fun x10=>
      bif (Nat.ble (List.length b) lim) then
       (Zea (Zy.mk s5.2.1 s5.2.2)).bind fun x11=>
       (ZE x8 (Int.tmod x9 (x8.length:Int))).bind fun x12=>
       (Zds (Zj.mk a.period a.deadline a.parts a.edges a.futures x10) b (Zy.mk (Zy.mk s5.2.1 s5.2.2).done (Zy.mk s5.2.1 s5.2.2).vals) x12).bind fun x13=>
       bif (x13.2 != 0) then
        some (.inr (.inr (s5.2.1,s5.2.2)))
       else
        some (.inl ((w64 (s5.1+1)),x13.1.done,x13.1.vals))
      else
       none
    else
     (Zdu a).bind fun x14=>
     bif (Nat.ble (List.length b) lim) then
      (Zea (Zy.mk s5.2.1 s5.2.2)).bind fun x15=>
      (ZE x8 0).bind fun x16=>
      (Zds (Zj.mk a.period a.deadline a.parts a.edges a.futures x14) b (Zy.mk (Zy.mk s5.2.1 s5.2.2).done (Zy.mk s5.2.1 s5.2.2).vals) x16).bind fun x17=>
      bif (x17.2 != 0) then
       some (.inr (.inr (s5.2.1,s5.2.2)))
      else
       some (.inl ((w64 (s5.1+1)),x17.1.done,x17.1.vals))
     else
      none
   else
    (Zdu a).bind fun x18=>
    bif (Nat.ble (List.length b) lim) then
     (Zea (Zy.mk s5.2.1 s5.2.2)).bind fun x19=>
     (ZE x8 0).bind fun x20=>
     (Zds (Zj.mk a.period a.deadline a.parts a.edges a.futures x18) b (Zy.mk (Zy.mk s5.2.1 s5.2.2).done (Zy.mk s5.2.1 s5.2.2).vals) x20).bind fun x21=>
     bif (x21.2 != 0) then
      some (.inr (.inr (s5.2.1,s5.2.2)))
     else
      some (.inl ((w64 (s5.1+1)),x21.1.done,x21.1.vals))
    else
     none
 else
  some (.inr (.inl (s5.2.1,s5.2.2)))
noncomputable def Zcq (r22:((List Bool)×(List Int))) (s23:Int):Option (Int⊕(Unit⊕Unit)):=
 bif (decide (s23<(r22.1.length:Int))) then
  (ZE r22.1 s23).bind fun x24=>
  bif x24 then
   some (.inl (w64 (s23+1)))
  else
   some (.inr (.inl ()))
 else
  some (.inr (.inr ()))
noncomputable def Ze5 (a:Zj) (b:(List Int)) (c:(List Int)):Option Bool:=
 ZeX.bind fun x0=>
 bif x0 then
  (ZgX a b (Zy.mk ([]:List Bool) ([]:List Int))).bind fun x1=>
  bif x1 then
   bif (decide (70<(c.length:Int))) then
    ZeX.bind fun x2=>
    bif x2 then
     some true
    else
     some false
   else
    (Zdu a).bind fun x3=>
    (ZgF (Zj.mk a.period a.deadline a.parts a.edges a.futures x3)).bind fun x4=>
    bif (x4.2 != 0) then
     some true
    else
     (lp (ZaN a b c) (0,x4.1.done,x4.1.vals)).bind fun r22=>
     match r22 with
     | (.inl r22)=>
      (lp (Zcq r22) 0).bind fun r25=>
      match r25 with
      | (.inl r25)=>
       some false
      | (.inr r25)=>
       (Zdu a).bind fun x26=>
       bif (Nat.ble (List.length b) lim) then
        (ZfU (Zj.mk a.period a.deadline a.parts a.edges a.futures x26) b).bind fun x27=>
        bif (x27.2==0) then
         (Zf7 r22.2 x27.1).bind fun x28=>
         bif x28 then
          some true
         else
          some false
        else
         some false
       else
        none
     | (.inr r22)=>
      some false
  else
   ZeX.bind fun x29=>
   bif x29 then
    some true
   else
    some false
 else
  ZeX.bind fun x30=>
  bif x30 then
   some true
  else
   some false
end Go.Proofs.YtnmbdjkbaihicaaDoor
namespace Go.Proofs.YtnmbdjkbaihicaaDoorE
open Go
set_option linter.unusedVariables false
set_option linter.unusedSimpArgs false
theorem Zet {i n:Nat} (h:i<n):decide ((i:Int)<(n:Int))=true:=decide_eq_true (by omega)
theorem Ze8 (n:Nat):decide ((n:Int)<(n:Int))=false:=decide_eq_false (by omega)
theorem Zav {γ:Type}{l:List γ}{i:Nat}{x:γ} (h:l[i]? = some x):ZE l (i:Int)=some x:=(Zwb l i).trans h
theorem Zm4 {γ:Type}{l:List γ}{i:Int}{x:γ} (h0:0≤i) (h:l[i.toNat]? = some x):ZE l i=some x:=by
 have:=Zav h
 rwa [Int.toNat_of_nonneg h0] at this
theorem ZcD {n:Int} (h1 : -9223372036854775808≤n) (h2:n<9223372036854775808):w64 n=n:=ZzR h1 h2
theorem ZZ {i n:Nat} (h:i<n) (hn:n<9223372036854775808):w64 ((i:Int)+1)=((i+1:Nat):Int):=by rw[ZcD (by omega) (by omega)];omega
theorem Zfx {n:Nat} (h:n≤1073741824):Nat.ble n lim=true:=Nat.ble_eq_true_of_le h
def ZmP {γ S R:Type} (f:Nat→γ→S→Option (S⊕R)) (fin:S→Option R):Nat→List γ→S→Option R
 | _,[],s=>fin s
 | i,x :: l,s=>(match f i x s with | some (.inl s')=>ZmP f fin (i+1) l s' | some (.inr r)=>some r | none=>none)
theorem ZqB {γ S St R:Type} (l:List γ) (step:St→Option (St⊕R)) (st:Nat→S→St) (f:Nat→γ→S→Option (S⊕R)) (fin:S→Option R)
  (h1:∀i x s,i<l.length→l[i]? = some x→step (st i s)=(match f i x s with | some (.inl s')=>some (.inl (st (i+1) s')) | some (.inr r)=>some (.inr r) | none=>none))
  (h2:∀s,step (st l.length s)=(fin s).map Sum.inr):∀s,lp step (st 0 s)=ZmP f fin 0 l s:=by
 have key:∀(k i:Nat) (s:S),i+k=l.length→lp step (st i s)=ZmP f fin i (l.drop i) s:=by
  intro k
  induction k with
  | zero=>
   intro i s hi
   have:i=l.length:=by omega
   subst this
   rw[List.drop_length,Za1,h2]
   unfold ZmP
   cases fin s<;>rfl
  | succ k ih=>
   intro i s hi
   have hi':i<l.length:=by omega
   rw[List.drop_eq_getElem_cons hi',Za1,h1 i l[i] s hi' (List.getElem?_eq_getElem hi')]
   conv=>rhs;unfold ZmP
   cases f i l[i] s with
   | none=>rfl
   | some t=>
    cases t with
    | inl s'=>exact ih (i+1) s' (by omega)
    | inr r=>rfl
 intro s
 have:=key l.length 0 s (by omega)
 rwa [List.drop_zero] at this
def Zhu {γ R:Type} (p:Nat→γ→Bool) (out:Nat→γ→R) (fin:R):Nat→List γ→R
 | _,[]=>fin
 | i,x :: l=>bif p i x then out i x else Zhu p out fin (i+1) l
theorem ZgG {γ R:Type} (l:List γ) (step:Int→Option (Int⊕R)) (p:Nat→γ→Bool) (out:Nat→γ→R) (fin:R)
  (h1:∀i x,i<l.length→l[i]? = some x→step (i:Int)=some (bif p i x then .inr (out i x) else .inl ((i+1:Nat):Int)))
  (h2:step (l.length:Int)=some (.inr fin)):lp step 0=some (Zhu p out fin 0 l):=by
 have key:=ZqB (S:=Unit) l step (fun i _=>(i:Int)) (fun i x _=>some (bif p i x then .inr (out i x) else .inl ())) (fun _=>some fin)
  (fun i x s hi hx=>by rw[h1 i x hi hx];cases p i x<;>rfl) (fun _=>h2) ()
 refine(key:lp step 0=_).trans ?_
 have:∀(l:List γ) (i:Nat),ZmP (S:=Unit) (fun i x _=>some (bif p i x then Sum.inr (out i x) else Sum.inl ())) (fun _=>some fin) i l ()=some (Zhu p out fin i l):=by
  intro l
  induction l with
  | nil=>intro i;rfl
  | cons x l ih=>
   intro i
   unfold ZmP Zhu
   cases p i x with
   | true=>rfl
   | false=>exact ih (i+1)
 exact this l 0
def ZgC {γ:Type} (p:Nat→γ→Bool):Nat→List γ→Bool
 | _,[]=>false
 | i,x :: l=>p i x || ZgC p (i+1) l
theorem ZjW {γ:Type} (p:γ→Bool):∀(l:List γ) (i:Nat),ZgC (fun _=>p) i l=l.any p
 | [],_=>rfl
 | x :: l,i=>by rw[ZgC,List.any_cons,ZjW p l]
theorem ZeN {γ R:Type} (p:Nat→γ→Bool) (c fin:R):∀(l:List γ) (i:Nat),Zhu p (fun _ _=>c) fin i l=bif ZgC p i l then c else fin
 | [],_=>rfl
 | x :: l,i=>by
  unfold Zhu ZgC
  rw[ZeN p c fin l (i+1)]
  cases p i x<;>rfl
theorem ZoI {γ R:Type} (p:γ→Bool) (fin:R):∀(l:List γ) (i:Nat),(∃j:Nat,Zhu (fun _=>p) (fun i _=>(Sum.inl (i:Int):Int⊕R)) (.inr fin) i l = .inl (j:Int)∧l.any p=true)∨(Zhu (fun _=>p) (fun i _=>(Sum.inl (i:Int):Int⊕R)) (.inr fin) i l = .inr fin∧l.any p=false)
 | [],_=>.inr ⟨rfl,rfl⟩
 | x :: l,i=>by
  unfold Zhu
  rw[List.any_cons]
  cases h:p x with
  | true=>exact .inl ⟨i,rfl,rfl⟩
  | false=>simpa using ZoI p fin l (i+1)
theorem Zj2 {γ:Type} (p:Nat→γ→Bool):∀(l:List γ) (i:Nat),ZgC p i l=true↔∃j x,l[j]? = some x∧p (i+j) x=true
 | [],i=>by simp[ZgC]
 | x :: l,i=>by
  rw[ZgC,Bool.or_eq_true,Zj2 p l (i+1)]
  constructor
  ·rintro (h | ⟨j,y,hj,hp⟩)
   ·exact⟨0,x,rfl,h⟩
   ·exact⟨j+1,y,by simpa using hj,by rw[show i+(j+1)=i+1+j by omega];exact hp⟩
  ·rintro ⟨j,y,hj,hp⟩
   cases j with
   | zero=>left;simp at hj;subst hj;exact hp
   | succ j=>right;exact⟨j,y,by simpa using hj,by rw[show i+1+j=i+(j+1) by omega];exact hp⟩
theorem ZxJ {γ:Type} [DecidableEq γ] (a b:List γ) (he:a.length=b.length) (step:Int→Option (Int⊕(Unit⊕Unit)))
  (h1:∀i x y,i<a.length→a[i]? = some x→b[i]? = some y→step (i:Int)=some (bif decide (x=y) then .inl ((i+1:Nat):Int) else .inr (.inl ())))
  (h2:step (a.length:Int)=some (.inr (.inr ()))):lp step 0=some (bif decide (a=b) then .inr () else .inl ()):=by
 have key:∀(k i:Nat),i+k=a.length→lp step (i:Int)=some (bif decide (a.drop i=b.drop i) then .inr () else .inl ()):=by
  intro k
  induction k with
  | zero=>
   intro i hi
   have:i=a.length:=by omega
   subst this
   rw[Za1,h2,List.drop_length,he,List.drop_length]
   rfl
  | succ k ih=>
   intro i hi
   have ha:i<a.length:=by omega
   have hb:i<b.length:=by omega
   rw[Za1,h1 i a[i] b[i] ha (List.getElem?_eq_getElem ha) (List.getElem?_eq_getElem hb),List.drop_eq_getElem_cons ha,List.drop_eq_getElem_cons hb]
   by_cases h:a[i]=b[i]
   ·rw[decide_eq_true h]
    simp only[cond_true]
    rw[ih (i+1) (by omega)]
    by_cases h3:a.drop (i+1)=b.drop (i+1)
    ·rw[decide_eq_true h3,decide_eq_true (by rw[h,h3])]
    ·rw[decide_eq_false h3,decide_eq_false (by intro h4;exact h3 (List.cons.inj h4).2)]
   ·rw[decide_eq_false h,decide_eq_false (by intro h4;exact h (List.cons.inj h4).1)]
    rfl
 have:=key a.length 0 (by omega)
 rwa [List.drop_zero,List.drop_zero] at this
end Go.Proofs.YtnmbdjkbaihicaaDoorE
namespace Go.Proofs.YtnmbdjkbaihicaaDoor
open Go Go.Proofs.YtnmbdjkbaihicaaDoorE
set_option linter.unusedVariables false
set_option linter.unusedSimpArgs false
def Zc0 (n a b:Int):Bool:=decide (a≤n)&&decide (n≤b)
theorem Zj4 (n a b:Int):Zbr n a b=some (Zc0 n a b):=by
 unfold Zbr Zc0
 cases decide (a≤n)<;>cases decide (n≤b)<;>rfl
def ZfM (p:ZV):Bool:=!(Zc0 p.op 0 5&&(Zc0 p.arg 0 2147483647&&Zc0 p.work 1 100))
theorem Zzr (p:ZV):ZeJ p=some (ZfM p):=by
 unfold ZeJ ZfM
 simp only[Zj4,Option.bind_some]
 cases Zc0 p.op 0 5<;>cases Zc0 p.arg 0 2147483647<;>cases Zc0 p.work 1 100<;>rfl
theorem ZiU {γ:Type} (l:List γ) (p:γ→Bool) (step:Int→Option (Int⊕(Int⊕Unit)))
  (h1:∀i x,i<l.length→l[i]? = some x→step (i:Int)=some (bif p x then .inr (.inl (i:Int)) else .inl ((i+1:Nat):Int)))
  (h2:step (l.length:Int)=some (.inr (.inr ()))) :
  (((lp step 0).bind fun(r:Int⊕Unit)=>match r with | .inl r=>some r | .inr _=>some (-1)).bind fun x=>bif decide (0≤x) then some true else some false)=some (l.any p):=by
 rw[ZgG l step (fun _=>p) (fun i _=>.inl (i:Int)) (.inr ()) h1 h2]
 rcases ZoI p () l 0 with⟨j,e1,e2⟩ | ⟨e1,e2⟩
 ·rw[e1,e2]
  show(bif decide ((0:Int)≤(j:Int)) then some true else some false)=some true
  rw[decide_eq_true (by omega)]
  rfl
 ·rw[e1,e2]
  rfl
theorem Zpc (l:List ZV) (f:ZV→Option Bool) (p:ZV→Bool) (hf:∀x∈l,f x=some (p x)) (hl:l.length<9223372036854775808):ZaY l f=some (l.any p):=by
 unfold ZaY ZbX
 refine ZiU l p _ (fun i x hi hx=>?_) ?_
 ·simp only[ZaX,Zet hi,Zav hx,Option.bind_some,hf x (List.mem_of_getElem? hx),ZZ hi hl,cond_true]
  cases p x<;>rfl
 ·simp only[ZaX,Ze8];rfl
def Zoa (e x:Zm):Bool:=e.src==x.src&&(e.dst==x.dst&&true)
theorem Zqs (l:List Zm) (e:Zm) (hl:l.length<9223372036854775808):ZaW l e=some (l.any (Zoa e)):=by
 unfold ZaW Zcw
 refine ZiU l (Zoa e) _ (fun i x hi hx=>?_) ?_
 ·simp only[Zbh,Zet hi,Zav hx,Option.bind_some,ZZ hi hl,cond_true,Zoa]
  cases (e.src==x.src&&(e.dst==x.dst&&true))<;>rfl
 ·simp only[Zbh,Ze8];rfl
def again (f g:Zi):Bool:=g.user==f.user&&g.pos==f.pos
theorem ZmB (l:List Zi) (f:Zi→Option Bool) (p:Zi→Bool) (hf:∀x∈l,f x=some (p x)) (hl:l.length<9223372036854775808):ZaD l f=some (l.any p):=by
 unfold ZaD Zbi
 refine ZiU l p _ (fun i x hi hx=>?_) ?_
 ·simp only[ZaC,Zet hi,Zav hx,Option.bind_some,hf x (List.mem_of_getElem? hx),ZZ hi hl,cond_true]
  cases p x<;>rfl
 ·simp only[ZaC,Ze8];rfl
theorem ZxV (f g:Zi):Zc1 g f.user f.pos=some (again f g):=by
 unfold Zc1 again
 cases (g.user==f.user)<;>cases (g.pos==f.pos)<;>rfl
theorem Zxh (l:List Int) (n:Int) (hl:l.length<9223372036854775808):Zbx l n=some (l.any (fun x=>n==x)):=by
 unfold Zbx ZcV
 refine ZiU l (fun x=>n==x) _ (fun i x hi hx=>?_) ?_
 ·simp only[Zby,Zet hi,Zav hx,Option.bind_some,ZZ hi hl,cond_true]
  cases (n==x)<;>rfl
 ·simp only[Zby,Ze8];rfl
def Zpi (b:Zs) (n:Int):Bool:=b.outs.any fun x=>n==x
theorem Zld (l:List Int) (f:Int→Option Bool) (p:Int→Bool) (hf:∀x∈l,f x=some (p x)) (hl:l.length<9223372036854775808):Z7 l f=some (l.any p):=by
 unfold Z7 ZaZ
 refine ZiU l p _ (fun i x hi hx=>?_) ?_
 ·simp only[Zap,Zet hi,Zav hx,Option.bind_some,hf x (List.mem_of_getElem? hx),ZZ hi hl,cond_true]
  cases p x<;>rfl
 ·simp only[Zap,Ze8];rfl
theorem ZBY (b:Zs) (h2:b.outs.length<9223372036854775808) (n:Int):Zc3 n b.outs=some (Zpi b n):=by
 unfold Zc3
 simp only[Zxh _ _ h2,Option.bind_some]
 unfold Zpi
 cases (b.outs.any fun y=>n==y)<;>rfl
def two (n:Nat) (a b:Int):Bool:=(a != b)&&(Zc0 a 0 (n-1)&&Zc0 b 0 (n-1))
theorem ZyN (d:Zj) (hl:d.parts.length<9223372036854775808) (a b:Int):Zgx d a b=some (two d.parts.length a b):=by
 unfold Zgx two
 rw[ZcD (by omega) (by omega)]
 simp only[Zj4,Option.bind_some]
 cases (a != b)<;>cases Zc0 a 0 (d.parts.length-1)<;>cases Zc0 b 0 (d.parts.length-1)<;>rfl
def ZpV (n:Nat) (l:List Int) (i:Nat) (x:Int):Bool:=!(Zc0 x 0 (n-1)) || (match i with | 0=>false | j+1=>match l[j]? with | some y=>decide (x≤y) | none=>false)
def Zk9 (n:Nat) (l:List Int):Bool:=!(ZgC (ZpV n l) 0 l) && !l.isEmpty
theorem ZxZ (b:Bool) (l:List Int):((some (bif b then (Sum.inl ():Unit⊕Unit) else .inr ())).bind fun r=>match r with | .inl _=>some false | .inr _=>bif decide (0<(l.length:Int)) then some true else some false)=some (!b && !l.isEmpty):=by
 cases b with
 | true=>rfl
 | false=>
  cases l with
  | nil=>rfl
  | cons x l=>show(bif decide (0<((x :: l).length:Int)) then some true else some false)=some true;rw[decide_eq_true (by rw[List.length_cons];omega)];rfl
theorem ZyO (d:Zj) (hd:d.parts.length<9223372036854775808) (l:List Int) (hl:l.length<9223372036854775808):Zgy d l=some (Zk9 d.parts.length l):=by
 have key:=ZgG l (Ze0 d l) (ZpV d.parts.length l) (fun _ _=>.inl ()) (.inr ()) (fun i x hi hx=>by
   simp only[Ze0,Zet hi,Zav hx,Option.bind_some,ZZ hi hl,cond_true,Zj4,ZpV]
   rw[ZcD (by omega) (by omega)]
   cases Zc0 x 0 (d.parts.length-1) with
   | false=>rfl
   | true=>
    cases i with
    | zero=>rfl
    | succ i=>
     rw[decide_eq_true (show(0:Int)<((i+1:Nat):Int) by omega),ZcD (by omega) (by omega),show(((i+1:Nat):Int)-1)=(i:Int) by omega]
     have hi2:l[i]? = some l[i]:=List.getElem?_eq_getElem (by omega)
     rw[Zav hi2]
     simp only[cond_true,Option.bind_some,Bool.not_true,Bool.false_or,hi2]
     cases decide (x≤l[i])<;>rfl) (by simp only[Ze0,Ze8];rfl)
 unfold Zgy Zk9
 rw[key,ZeN]
 exact ZxZ _ _
end Go.Proofs.YtnmbdjkbaihicaaDoor
namespace Go.Proofs.YtnmbdjkbaihicaaDoor
open Go Go.Proofs.YtnmbdjkbaihicaaDoorE
set_option linter.unusedVariables false
set_option linter.unusedSimpArgs false
def ZqH (n:Int):Int:=bif decide (n<0) then 10 else bif decide (1099511627775<n) then 11 else 0
theorem ZsE (n:Int):ZgO n=some (ZqH n):=by
 unfold ZgO ZqH
 cases decide (n<0)<;>cases decide (1099511627775<n)<;>rfl
noncomputable def ZxE (x:Int):Int:=match Zcp x with | some n=>n | none=>0
theorem ZzW (x:Int):ZcH x=some (ZxE x):=by
 unfold ZcH ZxE Zcp
 rfl
noncomputable def Zyb (n:Int):Bool:=!(ZqH n != 0) && !(ZxE (IntKind.u64.wrap n) != 1)
theorem ZvF (n:Int):∃k,ZiB n=some (k,Zyb n):=by
 have tz:∃k,ZcG (IntKind.u64.wrap n)=some k:=⟨_,rfl⟩
 obtain⟨k,hk⟩:=tz
 unfold ZiB Zyb
 simp only[ZsE,ZzW,Option.bind_some,hk]
 cases (ZqH n != 0)
 ·cases (ZxE (IntKind.u64.wrap n) != 1)
  ·exact⟨k,rfl⟩
  ·exact⟨0,rfl⟩
 ·exact⟨0,rfl⟩
end Go.Proofs.YtnmbdjkbaihicaaDoor
namespace Go.Proofs.YtnmbdjkbaihicaaDoor
open Go Go.Proofs.YtnmbdjkbaihicaaDoorE
set_option linter.unusedVariables false
set_option linter.unusedSimpArgs false
def ZyK (b:Zs):Prop:=b.ins.length<9223372036854775808∧b.outs.length<9223372036854775808
structure Zga (d:Zj):Prop where
 p:d.parts.length<9223372036854775808
 e:d.edges.length<9223372036854775808
 f:d.futures.length<9223372036854775808
 b:d.barriers.length<9223372036854775808
 i:∀b∈d.barriers,ZyK b
theorem Zlr {γ:Type}{l:List γ}{i n:Nat} (h:l.length<n):(l.take i).length<n:=by rw[List.length_take];omega
def Zgd (d:Zj) (i:Nat) (e:Zm):Bool:=!(two d.parts.length e.src e.dst) || (d.edges.take i).any (Zoa e)
theorem Zx3 (d:Zj) (h:Zga d):lp (Zdd d) 0=some (bif ZgC (Zgd d) 0 d.edges then .inl () else .inr ()):=by
 have key:=ZgG d.edges (Zdd d) (Zgd d) (fun _ _=>.inl ()) (.inr ()) (fun i x hi hx=>by
   simp only[Zdd,Zet hi,Zav hx,Option.bind_some,ZZ hi h.e,cond_true,ZyN d h.p,Zgd,Int.toNat_natCast,Zqs _ _ (Zlr h.e)]
   rw[decide_eq_true (show(0:Int)≤(i:Int) by omega),Nat.ble_eq_true_of_le (Nat.le_of_lt hi)]
   cases two d.parts.length x.src x.dst<;>cases (d.edges.take i).any (Zoa x)<;>rfl) (by simp only[Zdd,Ze8];rfl)
 rw[key,ZeN]
def ZfV (ps:List ZV) (z:Int):Int:=match ps[z.toNat]? with | some p=>p.work | none=>0
def Zd1 (d:Zj) (i:Nat) (f:Zi):Bool:=!(two d.parts.length f.maker f.user) || (!(Zc0 f.pos 1 (ZfV d.parts f.user-1)) || (d.futures.take i).any (again f))
theorem Zlx {n:Nat}{a b:Int} (h:two n a b=true):(0≤a∧a.toNat<n)∧(0≤b∧b.toNat<n)∧a≠b:=by
 simp only[two,Zc0,Bool.and_eq_true,decide_eq_true_eq,bne_iff_ne] at h
 omega
theorem Zrk {γ:Type}{l:List γ}{z:Int} (h0:0≤z) (h:z.toNat<l.length):ZE l z=some l[z.toNat]:=Zm4 h0 (List.getElem?_eq_getElem h)
theorem Zu9 (d:Zj) (h:Zga d) (hg:∀p∈d.parts,1≤p.work∧p.work≤100):lp (Zdh d) 0=some (bif ZgC (Zd1 d) 0 d.futures then .inl () else .inr ()):=by
 have key:=ZgG d.futures (Zdh d) (Zd1 d) (fun _ _=>.inl ()) (.inr ()) (fun i x hi hx=>by
   simp only[Zdh,Zet hi,Zav hx,Option.bind_some,ZZ hi h.f,cond_true,ZyN d h.p,Zd1]
   cases h1:two d.parts.length x.maker x.user with
   | false=>rfl
   | true=>
    obtain⟨_,⟨u1,u2⟩,_⟩:=Zlx h1
    have w:=hg _ (List.getElem_mem u2)
    have wa:ZfV d.parts x.user=d.parts[x.user.toNat].work:=by simp only[ZfV,List.getElem?_eq_getElem u2]
    rw[← wa] at w
    rw[Zrk u1 u2]
    simp only[cond_true,Option.bind_some,Zj4,← wa,ZcD (show -9223372036854775808≤ZfV d.parts x.user-1 by omega) (by omega),Int.toNat_natCast]
    rw[decide_eq_true (show(0:Int)≤(i:Int) by omega),Nat.ble_eq_true_of_le (Nat.le_of_lt hi),ZmB _ _ (again x) (fun y _=>ZxV x y) (Zlr h.f)]
    cases Zc0 x.pos 1 (ZfV d.parts x.user-1)<;>cases (d.futures.take i).any (again x)<;>rfl) (by simp only[Zdh,Ze8];rfl)
 rw[key,ZeN]
def Zfe (n:Nat) (b:Zs):Bool:=!(Zk9 n b.ins) || (!(Zk9 n b.outs) || b.ins.any (Zpi b))
theorem Zth (d:Zj) (h:Zga d):lp (Zdf d) 0=some (bif d.barriers.any (Zfe d.parts.length) then .inl () else .inr ()):=by
 have key:=ZgG d.barriers (Zdf d) (fun _=>Zfe d.parts.length) (fun _ _=>.inl ()) (.inr ()) (fun i x hi hx=>by
   have hb:=h.i x (List.mem_of_getElem? hx)
   simp only[Zdf,Zet hi,Zav hx,Option.bind_some,ZZ hi h.b,cond_true,ZyO d h.p _ hb.1,ZyO d h.p _ hb.2,Zfe,Zld x.ins _ (Zpi x) (fun y _=>ZBY x hb.2 y) hb.1]
   cases Zk9 d.parts.length x.ins<;>cases Zk9 d.parts.length x.outs<;>cases x.ins.any (Zpi x)<;>rfl) (by simp only[Zdf,Ze8];rfl)
 rw[key,ZeN,ZjW]
noncomputable def Zph (d:Zj):Bool:=Zyb d.period&&(!decide (4096<d.period)&&Zc0 d.deadline 1 d.period)
def Zlm (d:Zj):Bool:=Zc0 (d.parts.length:Int) 1 16&&(!decide ((48:Int)<d.edges.length)&&(!decide ((16:Int)<d.futures.length) && !decide ((4:Int)<d.barriers.length)))
noncomputable def ZfB (d:Zj):Int:=
 bif Zlm d then bif Zph d then bif d.parts.any ZfM then 52 else bif ZgC (Zgd d) 0 d.edges then 53 else
 bif ZgC (Zd1 d) 0 d.futures then 54 else bif d.barriers.any (Zfe d.parts.length) then 55 else 0 else 51 else 50
theorem Zpk {ps:List ZV} (h:ps.any ZfM=false):∀p∈ps,1≤p.work∧p.work≤100:=fun p hp=>by
 have:=List.any_eq_false.1 h p hp
 simp only[ZfM,Zc0,Bool.not_eq_true,Bool.not_eq_false',Bool.and_eq_true,decide_eq_true_eq] at this
 exact this.2.2
theorem ZqF (d:Zj) (h:Zga d):ZeQ d=some (ZfB d):=by
 obtain⟨k,hk⟩:=ZvF d.period
 unfold ZeQ ZfB Zlm Zph
 simp only[Zj4,Option.bind_some,hk,Zpc _ _ ZfM (fun x _=>Zzr x) h.p,Zx3 d h,Zth d h]
 cases Zc0 (d.parts.length:Int) 1 16 with
 | false=>rfl
 | true=>
  cases decide ((48:Int)<d.edges.length) with
  | true=>rfl
  | false=>
   cases decide ((16:Int)<d.futures.length) with
   | true=>rfl
   | false=>
    cases decide ((4:Int)<d.barriers.length) with
    | true=>rfl
    | false=>
     cases Zyb d.period with
     | false=>rfl
     | true=>
      cases decide (4096<d.period) with
      | true=>rfl
      | false=>
       cases Zc0 d.deadline 1 d.period with
       | false=>rfl
       | true=>
        cases hp:d.parts.any ZfM with
        | true=>rfl
        | false=>
         rw[Zu9 d h (Zpk hp)]
         cases ZgC (Zgd d) 0 d.edges<;>cases ZgC (Zd1 d) 0 d.futures<;>cases d.barriers.any (Zfe d.parts.length)<;>rfl
end Go.Proofs.YtnmbdjkbaihicaaDoor
namespace Go.Proofs.YtnmbdjkbaihicaaDoor
open Go Go.Proofs.YtnmbdjkbaihicaaDoorE
set_option linter.unusedVariables false
set_option linter.unusedSimpArgs false
def Zop (b:Zs):Bool:=decide (20<(b.ins.length:Int)) || decide (20<(b.outs.length:Int))
def few (d:Zj):Bool:=!((d.barriers.take 9).any Zop)&&(decide ((d.parts.length:Int)≤20)&&(decide ((d.edges.length:Int)≤60)&&(decide ((d.futures.length:Int)≤20)&&decide ((d.barriers.length:Int)≤8))))
theorem ZAv (d:Zj):ZgR d=some (few d):=by
 have hl:(d.barriers.take 9).length=min 9 d.barriers.length:=List.length_take
 have key:=ZgG (d.barriers.take 9) (Zeu d) (fun _=>Zop) (fun _ _=>.inl ()) (.inr ()) (fun i x hi hx=>by
   have h9:i<9:=by omega
   rw[List.getElem?_take_of_lt h9] at hx
   simp only[Zeu,Zet (show i<d.barriers.length by omega),Zav hx,Option.bind_some,ZZ h9 (by omega),cond_true,Zop,decide_eq_true (show(i:Int)<9 by omega)]
   cases decide (20<(x.ins.length:Int))<;>cases decide (20<(x.outs.length:Int))<;>rfl) (by
   rw[hl]
   unfold Zeu
   by_cases h:d.barriers.length≤9
   ·rw[Nat.min_eq_right h,Ze8];rfl
   ·rw[Nat.min_eq_left (by omega),decide_eq_true (show((9:Nat):Int)<d.barriers.length by omega)];rfl)
 unfold ZgR few
 rw[key,ZeN,ZjW]
 cases (d.barriers.take 9).any Zop<;>cases decide ((d.parts.length:Int)≤20)<;>cases decide ((d.edges.length:Int)≤60)<;>cases decide ((d.futures.length:Int)≤20)<;>cases decide ((d.barriers.length:Int)≤8)<;>rfl
structure ZhF (d:Zj):Prop where
 p:d.parts.length≤20
 e:d.edges.length≤60
 f:d.futures.length≤20
 b:d.barriers.length≤8
 i:∀b∈d.barriers,b.ins.length≤20∧b.outs.length≤20
theorem ZuC {d:Zj} (h:few d=true):ZhF d:=by
 unfold few at h
 simp only[Bool.and_eq_true,decide_eq_true_eq,Bool.not_eq_true'] at h
 obtain⟨h1,h2,h3,h4,h5⟩:=h
 refine⟨by omega,by omega,by omega,by omega,fun b hb=>?_⟩
 have:=List.any_eq_false.1 h1 b (by rw[List.take_of_length_le (by omega)];exact hb)
 simp only[Zop,Bool.or_eq_true,decide_eq_true_eq,not_or] at this
 omega
theorem ZhF.short {d:Zj} (h:ZhF d):Zga d:=
 ⟨by have:=h.p;omega,by have:=h.e;omega,by have:=h.f;omega,by have:=h.b;omega,fun b hb=>⟨by have:=(h.i b hb).1;omega,by have:=(h.i b hb).2;omega⟩⟩
theorem Zsz (d:Zj) (h:ZhF d):Zdu d=some d.barriers:=by
 have key:=ZqB d.barriers (ZdJ d) (fun i (s:List Zs)=>((i:Int),s)) (fun i x s=>bif Nat.ble (s.length+1) lim then some (.inl (s++[x])) else none) (fun s=>some s) (fun i x s hi hx=>by
   have hb:=h.i x (List.mem_of_getElem? hx)
   simp only[ZdJ,Zet hi,Zav hx,Option.bind_some,ZZ hi h.short.b,cond_true,Zfx (show x.ins.length≤1073741824 by omega),Zfx (show x.outs.length≤1073741824 by omega)]
   cases Nat.ble (s.length+1) lim<;>rfl) (fun s=>by simp only[ZdJ,Ze8];rfl) []
 have sc:∀(l:List Zs) (i:Nat) (s:List Zs),s.length+l.length≤1073741824→ZmP (fun i x s=>bif Nat.ble (s.length+1) lim then some (Sum.inl (s++[x])) else (none:Option (List Zs⊕List Zs))) (fun s=>some s) i l s=some (s++l):=by
  intro l
  induction l with
  | nil=>intro i s _;simp[ZmP]
  | cons x l ih=>
   intro i s hs
   rw[List.length_cons] at hs
   unfold ZmP
   rw[Zfx (by omega)]
   simp only[cond_true]
   rw[ih (i+1) (s++[x]) (by rw[List.length_append];simp;omega)]
   simp
 rw[sc _ _ _ (by have:=h.b;simp;omega)] at key
 unfold Zdu
 rw[Zfx (show List.length d.parts≤1073741824 by have:=h.p;omega),Zfx (show List.length d.edges≤1073741824 by have:=h.e;omega),Zfx (show List.length d.futures≤1073741824 by have:=h.f;omega)]
 show(lp (ZdJ d) (((0:Nat):Int),[])).bind _=_
 rw[key]
 rfl
end Go.Proofs.YtnmbdjkbaihicaaDoor
namespace Go.Proofs.YtnmbdjkbaihicaaDoor
open Go Go.Proofs.YtnmbdjkbaihicaaDoorE Go.Sort
set_option linter.unusedVariables false
set_option linter.unusedSimpArgs false
structure OKA (P:Int→Prop) (d:Array Int):Prop where
 el:∀i,i<d.size→P d[i]!
 sz:d.size≤1000
theorem ZbC {d:Array Int}{i:Nat} (h:i<d.size):ZE d.toList (i:Int)=some d[i]!:=by
 refine Zav ?_
 rw[Array.getElem?_toList,Array.getElem?_eq_getElem h,getElem!_pos d i h]
theorem Zzb (d:Array Int) (i:Nat) (x:Int):List.set d.toList i x=(d.setIfInBounds i x).toList:=by simp
theorem ZgU (d:Array Int) (i j:Nat):List.set (List.set d.toList i d[j]!) j d[i]! = (swp d i j).toList:=by
 unfold swp
 rw[Zzb,Zzb]
theorem Zj3 {d:Array Int}{i j:Nat}{x:Int} (h:j<d.size):∃y,ZE (List.set d.toList i x) (j:Int)=some y:=by
 rw[Zzb]
 exact⟨_,ZbC (by simpa using h)⟩
theorem Zaf (d:Array Int) (i j:Nat):(swp d i j).size=d.size:=by unfold swp;simp
theorem ZyC {d:Array Int}{i j k:Nat} (hi:i<d.size) (hj:j<d.size):(swp d i j)[k]! = if k=j then d[i]! else if k=i then d[j]! else d[k]!:=by
 unfold swp
 by_cases hk:k<d.size
 ·rw[getElem!_pos _ k (by simpa using hk),getElem!_pos d k hk,Array.getElem_setIfInBounds (by simpa using hk)]
  by_cases h1:j=k
  ·rw[if_pos h1,if_pos h1.symm]
  ·rw[if_neg h1,if_neg (Ne.symm h1),Array.getElem_setIfInBounds hk]
   by_cases h2:i=k
   ·rw[if_pos h2,if_pos h2.symm]
   ·rw[if_neg h2,if_neg (Ne.symm h2)]
 ·rw[getElem!_neg _ k (by simpa using hk),getElem!_neg d k hk,if_neg (by omega),if_neg (by omega)]
theorem OKA.swp {P:Int→Prop}{d:Array Int} (h:OKA P d) {i j:Nat} (hi:i<d.size) (hj:j<d.size):OKA P (swp d i j):=
 ⟨fun k hk=>by
  rw[Zaf] at hk
  rw[ZyC hi hj]
  split
  ·exact h.el _ hi
  ·split
   ·exact h.el _ hj
   ·exact h.el _ hk,by rw[Zaf];exact h.sz⟩
theorem Zf5 {a b:Nat}:decide ((a:Int)<(b:Int))=decide (a<b):=decide_eq_decide.2 (by omega)
theorem Zg0 {a b:Nat}:decide ((a:Int)≤(b:Int))=decide (a≤b):=decide_eq_decide.2 (by omega)
theorem Zaw {z:Int}{n:Nat} (h:z=(n:Int)) (hn:n<9223372036854775808):w64 z=(n:Int):=by rw[h,ZcD (by omega) (by omega)]
section
variable (cmp:Int→Int→Option Int) (c:Int→Int→Int) (P:Int→Prop)
def Zrx:Prop:=∀x y,P x→P y→cmp x y=some (c x y)
def ltC (x y:Int):Bool:=decide (c x y<0)
variable {cmp c P} (hc:Zrx cmp c P)
include hc
theorem ZpT (a:Nat):∀(j:Nat) (d:Array Int),OKA P d→j<d.size→lp (ZX (a:Int) cmp) ((j:Int),d.toList)=some (insInner (ltC c) a j d).toList∧OKA P (insInner (ltC c) a j d)∧(insInner (ltC c) a j d).size=d.size
 | 0,d,hd,hj=>by
  rw[Za1]
  simp only[ZX,decide_eq_false (show ¬((a:Int)<((0:Nat):Int)) by omega),cond_false]
  exact⟨rfl,hd,rfl⟩
 | j+1,d,hd,hj=>by
  have hj':j<d.size:=by omega
  have hz:=hd.sz
  rw[Za1]
  have e2:w64 (((j+1:Nat):Int)-1)=(j:Int):=Zaw (by omega) (by omega)
  have e3:=hc _ _ (hd.el (j+1) hj) (hd.el j hj')
  unfold insInner
  by_cases h1:a<j+1
  ·by_cases h2:c d[j+1]! d[j]! < 0
   ·have ih:=ZpT a j (swp d (j+1) j) (hd.swp hj hj') (by rw[Zaf];omega)
    obtain⟨y,e5⟩:=Zj3 (i:=j+1) (x:=d[j]!) hj'
    simp only[ZX,Zf5,decide_eq_true h1,cond_true,ZbC hj,e2,ZbC hj',Option.bind_some,e3,decide_eq_true h2,Int.toNat_natCast,e5,ZgU]
    rw[if_pos (by simp[h1,h2,ltC])]
    rw[Zaf] at ih
    exact ih
   ·simp only[ZX,Zf5,decide_eq_true h1,cond_true,ZbC hj,e2,ZbC hj',Option.bind_some,e3,decide_eq_false h2,cond_false]
    rw[if_neg (by simp[h1,h2,ltC])]
    exact⟨rfl,hd,rfl⟩
  ·simp only[ZX,Zf5,decide_eq_false h1,cond_false]
   rw[if_neg (by simp[h1])]
   exact⟨rfl,hd,rfl⟩
theorem Zqo (a b:Nat):∀(k i:Nat) (d:Array Int),i+k=max i b→b≤d.size→OKA P d→lp (Zam (a:Int) (b:Int) cmp) ((i:Int),d.toList)=some (insOuter (ltC c) a b i d).toList∧OKA P (insOuter (ltC c) a b i d)∧(insOuter (ltC c) a b i d).size=d.size
 | 0,i,d,hi,hb,hd=>by
  rw[Za1]
  unfold insOuter
  simp only[Zam,Zf5,decide_eq_false (show ¬i<b by omega),cond_false]
  rw[if_neg (by omega)]
  exact⟨rfl,hd,rfl⟩
 | k+1,i,d,hi,hb,hd=>by
  have hib:i<b:=by omega
  have hz:=hd.sz
  obtain⟨h1,h2,h3⟩:=ZpT hc a i d hd (by omega)
  have ih:=Zqo a b k (i+1) (insInner (ltC c) a i d) (by omega) (by rw[h3];exact hb) h2
  rw[Za1]
  unfold insOuter
  simp only[Zam,Zf5,decide_eq_true hib,cond_true,h1,Option.bind_some,ZZ hib (by omega)]
  rw[if_pos hib,← h3]
  exact ih
theorem ZyW (a b:Nat) (d:Array Int) (hb:b≤d.size) (ha:a≤b) (hd:OKA P d):ZW (a:Int) (b:Int) cmp d.toList=some (insertionSort (ltC c) d a b).toList∧OKA P (insertionSort (ltC c) d a b)∧(insertionSort (ltC c) d a b).size=d.size:=by
 have hz:=hd.sz
 obtain⟨h1,h2⟩:=Zqo hc a b (max (a+1) b-(a+1)) (a+1) d (by omega) hb hd
 unfold ZW insertionSort
 rw[Zaw (n:=a+1) (by omega) (by omega),h1]
 exact⟨rfl,h2⟩
theorem ZxF (hi first:Nat):∀(k root:Nat) (d:Array Int),hi-root≤k→root≤hi→first+hi≤d.size→OKA P d→∃r,lp (ZK (hi:Int) (first:Int) cmp) ((root:Int),d.toList)=some r∧(r = .inl (siftDown (ltC c) hi first root d).toList∨r = .inr (siftDown (ltC c) hi first root d).toList)∧OKA P (siftDown (ltC c) hi first root d)∧(siftDown (ltC c) hi first root d).size=d.size:=by
 intro k
 induction k with
 | zero=>
  intro root d hk hr hs hd
  have hz:=hd.sz
  rw[Za1]
  unfold siftDown
  have e0:w64 (2*(root:Int))=((2*root:Nat):Int):=Zaw (by omega) (by omega)
  have e1:w64 (((2*root:Nat):Int)+1)=((2*root+1:Nat):Int):=Zaw (by omega) (by omega)
  simp only[ZK,e0,e1,Zg0,decide_eq_true (show hi≤2*root+1 by omega),cond_true]
  rw[dif_pos (by omega)]
  exact⟨_,rfl,.inl rfl,hd,rfl⟩
 | succ k ih=>
  intro root d hk hr hs hd
  have hz:=hd.sz
  rw[Za1]
  unfold siftDown
  have e0:w64 (2*(root:Int))=((2*root:Nat):Int):=Zaw (by omega) (by omega)
  have e1:w64 (((2*root:Nat):Int)+1)=((2*root+1:Nat):Int):=Zaw (by omega) (by omega)
  by_cases h1:hi≤2*root+1
  ·simp only[ZK,e0,e1,Zg0,decide_eq_true h1,cond_true]
   rw[dif_pos (by omega)]
   exact⟨_,rfl,.inl rfl,hd,rfl⟩
  have e2:w64 (((2*root+1:Nat):Int)+1)=((2*root+2:Nat):Int):=Zaw (by omega) (by omega)
  have er:w64 ((first:Int)+(root:Int))=((first+root:Nat):Int):=Zaw (by omega) (by omega)
  have ef:w64 ((first:Int)+((2*root+1:Nat):Int))=((first+(2*root+1):Nat):Int):=Zaw (by omega) (by omega)
  have ef1:w64 (((first+(2*root+1):Nat):Int)+1)=((first+(2*root+1)+1:Nat):Int):=Zaw (by omega) (by omega)
  have ef2:w64 ((first:Int)+((2*root+2:Nat):Int))=((first+(2*root+2):Nat):Int):=Zaw (by omega) (by omega)
  have ir:first+root<d.size:=by omega
  have i1:first+(2*root+1)<d.size:=by omega
  have cr1:=hc _ _ (hd.el _ ir) (hd.el _ i1)
  have one:∀{r:List Int⊕List Int} {A:Array Int},A=d→(r = .inl d.toList∨r = .inr d.toList)→∃q,some r=some q∧(q = .inl A.toList∨q = .inr A.toList)∧OKA P A∧A.size=d.size:=fun hA hr=>by
   subst hA
   exact⟨_,rfl,hr,hd,rfl⟩
  rw[dif_neg (by omega)]
  by_cases h2:2*root+2<hi
  ·have i2:first+(2*root+2)<d.size:=by omega
   have i2':first+(2*root+1)+1<d.size:=by omega
   have c12:=hc _ _ (hd.el _ i1) (hd.el _ i2')
   have cr2:=hc _ _ (hd.el _ ir) (hd.el _ i2)
   by_cases h3:c d[first+(2*root+1)]! d[first+(2*root+1)+1]! < 0
   ·rw[if_pos (by simp[h3,ltC];omega)]
    by_cases h4:c d[first+root]! d[first+(2*root+2)]! < 0
    ·obtain⟨y,em⟩:=Zj3 (i:=first+root) (x:=d[first+(2*root+2)]!) i2
     simp only[ZK,e0,e1,e2,Zg0,Zf5,decide_eq_false h1,decide_eq_true h2,cond_false,cond_true,ef,ef1,ef2,er,ZbC i1,ZbC i2',ZbC ir,ZbC i2,Option.bind_some,c12,cr2,decide_eq_true h3,decide_eq_true h4,Int.toNat_natCast,em,ZgU]
     rw[if_neg (by simp[h4,ltC]),dif_pos h2]
     have:=ih (2*root+2) (swp d (first+root) (first+(2*root+2))) (by omega) (by omega) (by rw[Zaf];omega) (hd.swp ir i2)
     rw[Zaf] at this
     exact this
    ·simp only[ZK,e0,e1,e2,Zg0,Zf5,decide_eq_false h1,decide_eq_true h2,cond_false,cond_true,ef,ef1,ef2,er,ZbC i1,ZbC i2',ZbC ir,ZbC i2,Option.bind_some,c12,cr2,decide_eq_true h3,decide_eq_false h4]
     rw[if_pos (by simp[h4,ltC])]
     exact one rfl (.inr rfl)
   ·rw[if_neg (by simp[h3,ltC])]
    by_cases h4:c d[first+root]! d[first+(2*root+1)]! < 0
    ·obtain⟨y,em⟩:=Zj3 (i:=first+root) (x:=d[first+(2*root+1)]!) i1
     simp only[ZK,e0,e1,e2,Zg0,Zf5,decide_eq_false h1,decide_eq_true h2,cond_false,cond_true,ef,ef1,ef2,er,ZbC i1,ZbC i2',ZbC ir,Option.bind_some,c12,cr1,decide_eq_false h3,decide_eq_true h4,Int.toNat_natCast,em,ZgU]
     rw[if_neg (by simp[h4,ltC])]
     have:=ih (2*root+1) (swp d (first+root) (first+(2*root+1))) (by omega) (by omega) (by rw[Zaf];omega) (hd.swp ir i1)
     rw[Zaf] at this
     exact this
    ·simp only[ZK,e0,e1,e2,Zg0,Zf5,decide_eq_false h1,decide_eq_true h2,cond_false,cond_true,ef,ef1,ef2,er,ZbC i1,ZbC i2',ZbC ir,Option.bind_some,c12,cr1,decide_eq_false h3,decide_eq_false h4]
     rw[if_pos (by simp[h4,ltC])]
     exact one rfl (.inr rfl)
  ·rw[if_neg (by simp;omega)]
   by_cases h4:c d[first+root]! d[first+(2*root+1)]! < 0
   ·obtain⟨y,em⟩:=Zj3 (i:=first+root) (x:=d[first+(2*root+1)]!) i1
    simp only[ZK,e0,e1,e2,Zg0,Zf5,decide_eq_false h1,decide_eq_false h2,cond_false,cond_true,ef,er,ZbC i1,ZbC ir,Option.bind_some,cr1,decide_eq_true h4,Int.toNat_natCast,em,ZgU]
    rw[if_neg (by simp[h4,ltC])]
    have:=ih (2*root+1) (swp d (first+root) (first+(2*root+1))) (by omega) (by omega) (by rw[Zaf];omega) (hd.swp ir i1)
    rw[Zaf] at this
    exact this
   ·simp only[ZK,e0,e1,e2,Zg0,Zf5,decide_eq_false h1,decide_eq_false h2,cond_false,cond_true,ef,er,ZbC i1,ZbC ir,Option.bind_some,cr1,decide_eq_false h4]
    rw[if_pos (by simp[h4,ltC])]
    exact one rfl (.inr rfl)
theorem ZxA (hi first root:Nat) (d:Array Int) (hr:root≤hi) (hs:first+hi≤d.size) (hd:OKA P d):ZaE (root:Int) (hi:Int) (first:Int) cmp d.toList=some (siftDown (ltC c) hi first root d).toList∧OKA P (siftDown (ltC c) hi first root d)∧(siftDown (ltC c) hi first root d).size=d.size:=by
 obtain⟨r,h1,h2,h3⟩:=ZxF hc hi first _ root d (Nat.le_refl _) hr hs hd
 unfold ZaE
 rw[h1]
 rcases h2 with rfl | rfl
 ·exact⟨rfl,h3⟩
 ·exact⟨rfl,h3⟩
theorem Zt4 (hi first b:Nat) (hb:(b:Int)=first+hi):∀(k:Nat) (d:Array Int),k≤hi+1→first+hi≤d.size→OKA P d→lp (ZaH (first:Int) (b:Int) cmp) ((k:Int)-1,d.toList)=some (heapBuild (ltC c) hi first k d).toList∧OKA P (heapBuild (ltC c) hi first k d)∧(heapBuild (ltC c) hi first k d).size=d.size
 | 0,d,hk,hs,hd=>by
  rw[Za1]
  simp only[ZaH,decide_eq_false (show ¬((0:Int)≤((0:Nat):Int)-1) by omega),cond_false]
  exact⟨rfl,hd,rfl⟩
 | k+1,d,hk,hs,hd=>by
  have hz:=hd.sz
  obtain⟨h1,h2,h3⟩:=ZxA hc hi first k d (by omega) hs hd
  have ih:=Zt4 hi first b hb k (siftDown (ltC c) hi first k d) (by omega) (by rw[h3];exact hs) h2
  have e1:w64 ((b:Int)-(first:Int))=(hi:Int):=Zaw (by omega) (by omega)
  have e2:(((k+1:Nat):Int)-1)=(k:Int):=by omega
  have e3:w64 ((k:Int)-1)=(k:Int)-1:=ZcD (by omega) (by omega)
  rw[Za1,e2]
  simp only[ZaH,decide_eq_true (show(0:Int)≤(k:Int) by omega),cond_true,e1,h1,Option.bind_some,e3]
  rw[← h3]
  exact ih
theorem ZyU (first:Nat):∀(k:Nat) (d:Array Int),first+k≤d.size→OKA P d→lp (ZaI (first:Int) cmp) ((k:Int)-1,d.toList)=some (heapPop (ltC c) first k d).toList∧OKA P (heapPop (ltC c) first k d)∧(heapPop (ltC c) first k d).size=d.size
 | 0,d,hs,hd=>by
  rw[Za1]
  simp only[ZaI,decide_eq_false (show ¬((0:Int)≤((0:Nat):Int)-1) by omega),cond_false]
  exact⟨rfl,hd,rfl⟩
 | k+1,d,hs,hd=>by
  have hz:=hd.sz
  have i1:first+k<d.size:=by omega
  have i2:first<d.size:=by omega
  obtain⟨h1,h2,h3⟩:=ZxA hc k first 0 (swp d first (first+k)) (by omega) (by rw[Zaf];omega) (hd.swp i2 i1)
  rw[Zaf] at h3
  have ih:=ZyU first k (siftDown (ltC c) k first 0 (swp d first (first+k))) (by rw[h3];omega) h2
  have e2:(((k+1:Nat):Int)-1)=(k:Int):=by omega
  have e3:w64 ((k:Int)-1)=(k:Int)-1:=ZcD (by omega) (by omega)
  have e4:w64 ((first:Int)+(k:Int))=((first+k:Nat):Int):=Zaw (by omega) (by omega)
  obtain⟨y,em⟩:=Zj3 (i:=first) (x:=d[first+k]!) i1
  have h1':ZaE 0 (k:Int) (first:Int) cmp (swp d first (first+k)).toList=_:=h1
  rw[Za1,e2]
  simp only[ZaI,decide_eq_true (show(0:Int)≤(k:Int) by omega),cond_true,e4,ZbC i1,ZbC i2,Option.bind_some,Int.toNat_natCast,em,ZgU,h1',e3]
  rw[← h3]
  exact ih
theorem ZzF (a b:Nat) (d:Array Int) (ha:a≤b) (hb:b≤d.size) (hd:OKA P d):Z8 (a:Int) (b:Int) cmp d.toList=some (heapSort (ltC c) d a b).toList∧OKA P (heapSort (ltC c) d a b)∧(heapSort (ltC c) d a b).size=d.size:=by
 have hz:=hd.sz
 have e1:w64 ((b:Int)-(a:Int))=((b-a:Nat):Int):=Zaw (by omega) (by omega)
 have e2:w64 (((b-a:Nat):Int)-1)=((b-a:Nat):Int)-1:=ZcD (by omega) (by omega)
 have e3:w64 (Int.tdiv (((b-a:Nat):Int)-1) 2)=(((b-a-1) / 2+1:Nat):Int)-1:=by
  by_cases h:b-a=0
  ·rw[h];rfl
  ·rw[Int.tdiv_eq_ediv_of_nonneg (by omega),ZcD (by omega) (by omega)]
   omega
 obtain⟨h1,h2,h3⟩:=Zt4 hc (b-a) a b (by omega) ((b-a-1) / 2+1) d (by omega) (by omega) hd
 obtain⟨h4,h5,h6⟩:=ZyU hc a (b-a) (heapBuild (ltC c) (b-a) a ((b-a-1) / 2+1) d) (by rw[h3];omega) h2
 unfold Z8 heapSort
 simp only[e1,e2,e3,h1,h4,Option.bind_some]
 exact⟨trivial,h5,by rw[h6,h3]⟩
end
end Go.Proofs.YtnmbdjkbaihicaaDoor
namespace Go.Proofs.YtnmbdjkbaihicaaDoor
open Go Go.Proofs.YtnmbdjkbaihicaaDoorE Go.Sort
set_option linter.unusedVariables false
set_option linter.unusedSimpArgs false
theorem ZmV (step:Int→Option (Int⊕Int)) (p:Int→Bool) (d:Array Int) (j:Nat) (h:∀i:Nat,i≤j+2→step (i:Int)=some (bif decide (i≤j)&&p d[i]! then .inl ((i+1:Nat):Int) else .inr (i:Int))) :
  ∀(k i:Nat),j+2-i≤k→i≤j+2→lp step (i:Int)=some ((scanUp p d j i:Nat):Int)∧i≤scanUp p d j i∧scanUp p d j i≤max i (j+1):=by
 intro k
 induction k with
 | zero=>
  intro i hk hi
  rw[Za1,h i hi]
  unfold scanUp
  rw[decide_eq_false (show ¬i≤j by omega)]
  simp[show ¬i≤j by omega]
  omega
 | succ k ih=>
  intro i hk hi
  rw[Za1,h i hi]
  unfold scanUp
  by_cases h1:i≤j
  ·cases h2:p d[i]! with
   | true=>
    rw[decide_eq_true h1,if_pos (by simp[h1])]
    obtain⟨a1,a2,a3⟩:=ih (i+1) (by omega) (by omega)
    exact⟨a1,by omega,by omega⟩
   | false=>
    rw[decide_eq_true h1,if_neg (by simp)]
    exact⟨rfl,by omega,by omega⟩
  ·rw[decide_eq_false h1,if_neg (by simp[h1])]
   exact⟨rfl,by omega,by omega⟩
theorem Zid (step:Int→Option (Int⊕Int)) (p:Int→Bool) (d:Array Int) (i:Nat) (hi:1≤i):∀(j:Nat),(∀k:Nat,k≤j→step (k:Int)=some (bif decide (i≤k)&&p d[k]! then .inl ((k:Int)-1) else .inr (k:Int)))→lp step (j:Int)=some ((scanDown p d i j:Nat):Int)∧scanDown p d i j≤j
 | 0,h=>by
  rw[Za1,h 0 (Nat.le_refl _),decide_eq_false (show ¬i≤0 by omega)]
  exact⟨rfl,Nat.le_refl _⟩
 | j+1,h=>by
  rw[Za1,h (j+1) (Nat.le_refl _)]
  unfold scanDown
  by_cases h1:i≤j+1
  ·cases h2:p d[j+1]! with
   | true=>
    rw[decide_eq_true h1,if_pos (by simp[h1])]
    have ih:=Zid step p d i hi j (fun k hk=>h k (by omega))
    have e:(((j+1:Nat):Int)-1)=(j:Int):=by omega
    simp only[Bool.and_self,cond_true,e]
    exact⟨ih.1,by omega⟩
   | false=>
    rw[decide_eq_true h1,if_neg (by simp)]
    exact⟨rfl,Nat.le_refl _⟩
  ·rw[decide_eq_false h1,if_neg (by simp[h1])]
   exact⟨rfl,Nat.le_refl _⟩
section
variable {cmp:Int→Int→Option Int} {c:Int→Int→Int} {P:Int→Prop} (hc:Zrx cmp c P)
include hc
theorem Zvg (a:Nat):∀(k i j:Nat) (d:Array Int),j+3-i≤k→1≤i→i≤j+2→j<d.size→a<d.size→OKA P d →
  lp (Za4 (a:Int) cmp) ((i:Int),(j:Int),d.toList)=some (((partLoop (ltC c) a i j d).1:Int),(partLoop (ltC c) a i j d).2.toList)∧OKA P (partLoop (ltC c) a i j d).2∧(partLoop (ltC c) a i j d).2.size=d.size∧(partLoop (ltC c) a i j d).1≤j:=by
 intro k
 induction k with
 | zero=>
  intro i j d hk h1 h2 hj ha hd
  exact absurd hk (by omega)
 | succ k ih=>
  intro i j d hk h1 h2 hj ha hd
  have hz:=hd.sz
  obtain⟨u1,u2,u3⟩:=ZmV (ZaB (a:Int) cmp ((i:Int),(j:Int),d.toList)) (fun x=>ltC c x d[a]!) d j (fun m hm=>by
    by_cases hmj:m≤j
    ·have im:m<d.size:=by omega
     simp only[ZaB,Zg0,decide_eq_true hmj,cond_true,ZbC im,ZbC ha,Option.bind_some,hc _ _ (hd.el _ im) (hd.el _ ha),ltC,Bool.true_and,ZZ (show m<j+1 by omega) (by omega)]
     cases decide (c d[m]! d[a]! < 0)<;>rfl
    ·simp only[ZaB,Zg0,decide_eq_false hmj,cond_false,Bool.false_and]) (j+2-i) i (Nat.le_refl _) h2
  generalize hi2:scanUp (fun x=>ltC c x d[a]!) d j i=i2 at u1 u2 u3
  obtain⟨v1,v2⟩:=Zid (Zax (a:Int) cmp ((i:Int),(j:Int),d.toList) (i2:Int)) (fun x=>!ltC c x d[a]!) d i2 (by omega) j (fun m hm=>by
    have im:m<d.size:=by omega
    by_cases hmi:i2≤m
    ·simp only[Zax,Zg0,decide_eq_true hmi,cond_true,ZbC im,ZbC ha,Option.bind_some,hc _ _ (hd.el _ im) (hd.el _ ha),ltC,Bool.true_and,ZcD (show -9223372036854775808≤(m:Int)-1 by omega) (by omega)]
     cases decide (c d[m]! d[a]! < 0)<;>rfl
    ·simp only[Zax,Zg0,decide_eq_false hmi,cond_false,Bool.false_and])
  generalize hj2:scanDown (fun x=>!ltC c x d[a]!) d i2 j=j2 at v1 v2
  rw[Za1]
  unfold partLoop
  simp only[Za4,u1,v1,Option.bind_some,Zf5,hi2,hj2]
  by_cases hij:j2<i2
  ·rw[decide_eq_true hij,if_pos hij]
   exact⟨rfl,hd,rfl,v2⟩
  ·have k1:i2<d.size:=by omega
   have k2:j2<d.size:=by omega
   obtain⟨y,em⟩:=Zj3 (i:=i2) (x:=d[j2]!) k2
   have e1:w64 ((i2:Int)+1)=((i2+1:Nat):Int):=Zaw (by omega) (by omega)
   have e2:w64 ((j2:Int)-1)=((j2-1:Nat):Int):=Zaw (by omega) (by omega)
   rw[decide_eq_false hij,if_neg hij,dif_pos (by omega)]
   simp only[cond_false,ZbC k1,ZbC k2,Option.bind_some,Int.toNat_natCast,em,ZgU,e1,e2]
   obtain⟨q1,q2,q3,q4⟩:=ih (i2+1) (j2-1) (swp d i2 j2) (by omega) (by omega) (by omega) (by rw[Zaf];omega) (by rw[Zaf];exact ha) (hd.swp k1 k2)
   rw[Zaf] at q3
   exact⟨q1,q2,q3,by omega⟩
theorem Zyk (a b pivot:Nat) (d:Array Int) (h1:a≤pivot) (h2:pivot<b) (hb:b≤d.size) (hd:OKA P d) :
  Zr (a:Int) (b:Int) (pivot:Int) cmp d.toList=some (bif (partition (ltC c) d a b pivot).2.1 then .inl (((partition (ltC c) d a b pivot).1:Int),(partition (ltC c) d a b pivot).2.2.toList) else .inr (((partition (ltC c) d a b pivot).1:Int),(partition (ltC c) d a b pivot).2.2.toList)) ∧
  OKA P (partition (ltC c) d a b pivot).2.2∧(partition (ltC c) d a b pivot).2.2.size=d.size:=by
 have hz:=hd.sz
 have ip:pivot<d.size:=by omega
 have ia:a<d.size:=by omega
 have hd1:=hd.swp ia ip
 have s1:=Zaf d a pivot
 obtain⟨y,em⟩:=Zj3 (i:=a) (x:=d[pivot]!) ip
 have e1:w64 ((a:Int)+1)=((a+1:Nat):Int):=Zaw (by omega) (by omega)
 have e2:w64 ((b:Int)-1)=((b-1:Nat):Int):=Zaw (by omega) (by omega)
 have sw:=ZgU d a pivot
 have ia1:a<(swp d a pivot).size:=by omega
 obtain⟨u1,u2,u3⟩:=ZmV (ZaA (a:Int) (b:Int) (pivot:Int) d.toList cmp d[pivot]! d[a]!) (fun x=>ltC c x (swp d a pivot)[a]!) (swp d a pivot) (b-1) (fun m hm=>by
   by_cases hmj:m≤b-1
   ·have im:m<(swp d a pivot).size:=by omega
    simp only[ZaA,e2,Zg0,decide_eq_true hmj,cond_true,Int.toNat_natCast,sw,ZbC im,ZbC ia1,Option.bind_some,hc _ _ (hd1.el _ im) (hd1.el _ ia1),ltC,Bool.true_and,ZZ (show m<b by omega) (by omega)]
    cases decide (c (swp d a pivot)[m]! (swp d a pivot)[a]! < 0)<;>rfl
   ·simp only[ZaA,e2,Zg0,decide_eq_false hmj,cond_false,Bool.false_and]) (b-1+2-(a+1)) (a+1) (Nat.le_refl _) (by omega)
 generalize hi2:scanUp (fun x=>ltC c x (swp d a pivot)[a]!) (swp d a pivot) (b-1) (a+1)=i2 at u1 u2 u3
 obtain⟨v1,v2⟩:=Zid (Zaz (a:Int) (pivot:Int) d.toList cmp d[pivot]! d[a]! (i2:Int)) (fun x=>!ltC c x (swp d a pivot)[a]!) (swp d a pivot) i2 (by omega) (b-1) (fun m hm=>by
   have im:m<(swp d a pivot).size:=by omega
   by_cases hmi:i2≤m
   ·simp only[Zaz,Zg0,decide_eq_true hmi,cond_true,Int.toNat_natCast,sw,ZbC im,ZbC ia1,Option.bind_some,hc _ _ (hd1.el _ im) (hd1.el _ ia1),ltC,Bool.true_and,ZcD (show -9223372036854775808≤(m:Int)-1 by omega) (by omega)]
    cases decide (c (swp d a pivot)[m]! (swp d a pivot)[a]! < 0)<;>rfl
   ·simp only[Zaz,Zg0,decide_eq_false hmi,cond_false,Bool.false_and])
 generalize hj2:scanDown (fun x=>!ltC c x (swp d a pivot)[a]!) (swp d a pivot) i2 (b-1)=j2 at v1 v2
 unfold Zr partition
 simp only[ZbC ip,ZbC ia,Option.bind_some,Int.toNat_natCast,em,e1,e2,u1,v1,Zf5,sw,hi2,hj2]
 have kj:j2<(swp d a pivot).size:=by omega
 by_cases hij:j2<i2
 ·obtain⟨y2,em2⟩:=Zj3 (i:=j2) (x:=(swp d a pivot)[a]!) ia1
  rw[decide_eq_true hij,if_pos hij]
  simp only[cond_true,ZbC ia1,ZbC kj,Option.bind_some,Int.toNat_natCast,em2,ZgU]
  exact⟨trivial,hd1.swp kj ia1,by rw[Zaf,s1]⟩
 ·have ki:i2<(swp d a pivot).size:=by omega
  obtain⟨y2,em2⟩:=Zj3 (i:=i2) (x:=(swp d a pivot)[j2]!) kj
  have e3:w64 ((i2:Int)+1)=((i2+1:Nat):Int):=Zaw (by omega) (by omega)
  have e4:w64 ((j2:Int)-1)=((j2-1:Nat):Int):=Zaw (by omega) (by omega)
  obtain⟨q1,q2,q3,q4⟩:=Zvg hc a (j2-1+3-(i2+1)) (i2+1) (j2-1) (swp (swp d a pivot) i2 j2) (by omega) (by omega) (by omega) (by rw[Zaf];omega) (by rw[Zaf];exact ia1) (hd1.swp ki kj)
  rw[Zaf,s1] at q3
  rw[decide_eq_false hij,if_neg hij]
  simp only[cond_false,ZbC ki,ZbC kj,Option.bind_some,Int.toNat_natCast,em2,ZgU,e3,e4,q1]
  generalize partLoop (ltC c) a (i2+1) (j2-1) (swp (swp d a pivot) i2 j2)=r at *
  have kr:r.1<r.2.size:=by omega
  have kr2:a<r.2.size:=by omega
  obtain⟨y3,em3⟩:=Zj3 (i:=r.1) (x:=r.2[a]!) kr2
  simp only[ZbC kr,ZbC kr2,Option.bind_some,em3,ZgU]
  exact⟨trivial,q2.swp kr kr2,by rw[Zaf,q3]⟩
theorem Zst (a:Nat):∀(k i j:Nat) (d:Array Int),j+3-i≤k→1≤i→i≤j+2→j<d.size→a<d.size→OKA P d →
  lp (Zay (a:Int) cmp) ((i:Int),(j:Int),d.toList)=some (((partEqLoop (ltC c) a i j d).1:Int),(partEqLoop (ltC c) a i j d).2.toList)∧OKA P (partEqLoop (ltC c) a i j d).2∧(partEqLoop (ltC c) a i j d).2.size=d.size∧i≤(partEqLoop (ltC c) a i j d).1∧(partEqLoop (ltC c) a i j d).1≤max i (j+1):=by
 intro k
 induction k with
 | zero=>
  intro i j d hk h1 h2 hj ha hd
  exact absurd hk (by omega)
 | succ k ih=>
  intro i j d hk h1 h2 hj ha hd
  have hz:=hd.sz
  obtain⟨u1,u2,u3⟩:=ZmV (Zag (a:Int) cmp ((i:Int),(j:Int),d.toList)) (fun x=>!ltC c d[a]! x) d j (fun m hm=>by
    by_cases hmj:m≤j
    ·have im:m<d.size:=by omega
     simp only[Zag,Zg0,decide_eq_true hmj,cond_true,ZbC im,ZbC ha,Option.bind_some,hc _ _ (hd.el _ ha) (hd.el _ im),ltC,Bool.true_and,ZZ (show m<j+1 by omega) (by omega)]
     cases decide (c d[a]! d[m]! < 0)<;>rfl
    ·simp only[Zag,Zg0,decide_eq_false hmj,cond_false,Bool.false_and]) (j+2-i) i (Nat.le_refl _) h2
  generalize hi2:scanUp (fun x=>!ltC c d[a]! x) d j i=i2 at u1 u2 u3
  obtain⟨v1,v2⟩:=Zid (Zah (a:Int) cmp ((i:Int),(j:Int),d.toList) (i2:Int)) (fun x=>ltC c d[a]! x) d i2 (by omega) j (fun m hm=>by
    have im:m<d.size:=by omega
    by_cases hmi:i2≤m
    ·simp only[Zah,Zg0,decide_eq_true hmi,cond_true,ZbC im,ZbC ha,Option.bind_some,hc _ _ (hd.el _ ha) (hd.el _ im),ltC,Bool.true_and,ZcD (show -9223372036854775808≤(m:Int)-1 by omega) (by omega)]
     cases decide (c d[a]! d[m]! < 0)<;>rfl
    ·simp only[Zah,Zg0,decide_eq_false hmi,cond_false,Bool.false_and])
  generalize hj2:scanDown (fun x=>ltC c d[a]! x) d i2 j=j2 at v1 v2
  rw[Za1]
  unfold partEqLoop
  simp only[Zay,u1,v1,Option.bind_some,Zf5,hi2,hj2]
  by_cases hij:j2<i2
  ·rw[decide_eq_true hij,if_pos hij]
   exact⟨rfl,hd,rfl,u2,u3⟩
  ·have k1:i2<d.size:=by omega
   have k2:j2<d.size:=by omega
   obtain⟨y,em⟩:=Zj3 (i:=i2) (x:=d[j2]!) k2
   have e1:w64 ((i2:Int)+1)=((i2+1:Nat):Int):=Zaw (by omega) (by omega)
   have e2:w64 ((j2:Int)-1)=((j2-1:Nat):Int):=Zaw (by omega) (by omega)
   rw[decide_eq_false hij,if_neg hij,dif_pos (by omega)]
   simp only[cond_false,ZbC k1,ZbC k2,Option.bind_some,Int.toNat_natCast,em,ZgU,e1,e2]
   obtain⟨q1,q2,q3,q4,q5⟩:=ih (i2+1) (j2-1) (swp d i2 j2) (by omega) (by omega) (by omega) (by rw[Zaf];omega) (by rw[Zaf];exact ha) (hd.swp k1 k2)
   rw[Zaf] at q3
   exact⟨q1,q2,q3,by omega,by omega⟩
theorem Zxg (a b pivot:Nat) (d:Array Int) (h1:a≤pivot) (h2:pivot<b) (hb:b≤d.size) (hd:OKA P d) :
  ZD (a:Int) (b:Int) (pivot:Int) cmp d.toList=some (((partitionEqual (ltC c) d a b pivot).1:Int),(partitionEqual (ltC c) d a b pivot).2.toList)∧OKA P (partitionEqual (ltC c) d a b pivot).2∧(partitionEqual (ltC c) d a b pivot).2.size=d.size∧a<(partitionEqual (ltC c) d a b pivot).1∧(partitionEqual (ltC c) d a b pivot).1≤b:=by
 have hz:=hd.sz
 have ip:pivot<d.size:=by omega
 have ia:a<d.size:=by omega
 obtain⟨y,em⟩:=Zj3 (i:=a) (x:=d[pivot]!) ip
 have e1:w64 ((a:Int)+1)=((a+1:Nat):Int):=Zaw (by omega) (by omega)
 have e2:w64 ((b:Int)-1)=((b-1:Nat):Int):=Zaw (by omega) (by omega)
 obtain⟨q1,q2,q3,q4,q5⟩:=Zst hc a (b-1+3-(a+1)) (a+1) (b-1) (swp d a pivot) (by omega) (by omega) (by omega) (by rw[Zaf];omega) (by rw[Zaf];omega) (hd.swp ia ip)
 rw[Zaf] at q3
 unfold ZD partitionEqual
 simp only[ZbC ip,ZbC ia,Option.bind_some,Int.toNat_natCast,em,e1,e2,ZgU,q1]
 exact⟨trivial,q2,q3,by omega,by omega⟩
end
end Go.Proofs.YtnmbdjkbaihicaaDoor
namespace Go.Proofs.YtnmbdjkbaihicaaDoor
open Go Go.Proofs.YtnmbdjkbaihicaaDoorE Go.Sort
set_option linter.unusedVariables false
set_option linter.unusedSimpArgs false
def Zpf:Hint→Int
 | .unknown=>0
 | .increasing=>1
 | .decreasing=>2
theorem Zxb (p:Int×Int) (n:Nat) (x:Int) (h:p.2=(n:Int)) (hx:p.1=x):(bif p.2==0 then some (p.1,(1:Int)) else bif p.2==12 then some (p.1,2) else some (p.1,0))=some (x,Zpf (if n=0 then Hint.increasing else if n=12 then .decreasing else .unknown)):=by
 rw[h,hx]
 by_cases h0:n=0
 ·subst h0;rfl
 ·by_cases h1:n=12
  ·subst h1;rfl
  ·rw[show((n:Int)==0)=false by simpa using h0,show((n:Int)==12)=false by simp;omega,if_neg h0,if_neg h1]
   rfl
section
variable {cmp:Int→Int→Option Int} {c:Int→Int→Int} {P:Int→Prop} (hc:Zrx cmp c P)
include hc
theorem ZyS:∀(j:Nat) (d:Array Int),OKA P d→j<d.size→lp (ZT cmp) ((j:Int),d.toList)=some (shiftDown (ltC c) j d).toList∧OKA P (shiftDown (ltC c) j d)∧(shiftDown (ltC c) j d).size=d.size
 | 0,d,hd,hj=>by
  rw[Za1]
  simp only[ZT,decide_eq_false (show ¬((1:Int)≤((0:Nat):Int)) by omega),cond_false]
  exact⟨rfl,hd,rfl⟩
 | j+1,d,hd,hj=>by
  have hj':j<d.size:=by omega
  have hz:=hd.sz
  rw[Za1]
  have e2:w64 (((j+1:Nat):Int)-1)=(j:Int):=Zaw (by omega) (by omega)
  have e3:=hc _ _ (hd.el (j+1) hj) (hd.el j hj')
  unfold shiftDown
  by_cases h2:c d[j+1]! d[j]! < 0
  ·obtain⟨y,e5⟩:=Zj3 (i:=j+1) (x:=d[j]!) hj'
   simp only[ZT,decide_eq_true (show(1:Int)≤((j+1:Nat):Int) by omega),cond_true,ZbC hj,e2,ZbC hj',Option.bind_some,e3,decide_eq_true h2,Int.toNat_natCast,e5,ZgU]
   rw[if_neg (by simp[h2,ltC])]
   have ih:=ZyS j (swp d (j+1) j) (hd.swp hj hj') (by rw[Zaf];omega)
   rw[Zaf] at ih
   exact ih
  ·simp only[ZT,decide_eq_true (show(1:Int)≤((j+1:Nat):Int) by omega),cond_true,ZbC hj,e2,ZbC hj',Option.bind_some,e3,decide_eq_false h2,cond_false]
   rw[if_pos (by simp[h2,ltC])]
   exact⟨rfl,hd,rfl⟩
theorem ZyT (b:Nat):∀(k j:Nat) (d:Array Int),b-j≤k→1≤j→b≤d.size→OKA P d→lp (ZG (b:Int) cmp) ((j:Int),d.toList)=some (shiftUp (ltC c) b j d).toList∧OKA P (shiftUp (ltC c) b j d)∧(shiftUp (ltC c) b j d).size=d.size:=by
 intro k
 induction k with
 | zero=>
  intro j d hk hj hb hd
  rw[Za1]
  unfold shiftUp
  simp only[ZG,Zf5,decide_eq_false (show ¬j<b by omega),cond_false]
  rw[if_neg (by omega)]
  exact⟨rfl,hd,rfl⟩
 | succ k ih=>
  intro j d hk hj hb hd
  have hz:=hd.sz
  rw[Za1]
  unfold shiftUp
  by_cases h1:j<b
  ·have i1:j<d.size:=by omega
   have i2:j-1<d.size:=by omega
   have e2:w64 ((j:Int)-1)=((j-1:Nat):Int):=Zaw (by omega) (by omega)
   have e3:=hc _ _ (hd.el j i1) (hd.el (j-1) i2)
   rw[if_pos h1]
   by_cases h2:c d[j]! d[j-1]! < 0
   ·obtain⟨y,e5⟩:=Zj3 (i:=j) (x:=d[j-1]!) i2
    simp only[ZG,Zf5,decide_eq_true h1,cond_true,ZbC i1,e2,ZbC i2,Option.bind_some,e3,decide_eq_true h2,Int.toNat_natCast,e5,ZgU,ZZ h1 (by omega)]
    rw[if_neg (by simp[h2,ltC])]
    have:=ih (j+1) (swp d j (j-1)) (by omega) (by omega) (by rw[Zaf];exact hb) (hd.swp i1 i2)
    rw[Zaf] at this
    exact this
   ·simp only[ZG,Zf5,decide_eq_true h1,cond_true,ZbC i1,e2,ZbC i2,Option.bind_some,e3,decide_eq_false h2,cond_false]
    rw[if_pos (by simp[h2,ltC])]
    exact⟨rfl,hd,rfl⟩
  ·simp only[ZG,Zf5,decide_eq_false h1,cond_false]
   rw[if_neg h1]
   exact⟨rfl,hd,rfl⟩
theorem Zvr (b:Nat) (z:Int) (d:Array Int) (hb:b≤d.size) (hd:OKA P d) (y1 y2:Int):∀(k i:Nat),b-i≤k→1≤i→i≤b→lp (ZL (b:Int) cmp (y1,y2,d.toList)) (i:Int)=some ((scanSorted (ltC c) d b i:Nat):Int)∧i≤scanSorted (ltC c) d b i∧scanSorted (ltC c) d b i≤b:=by
 have hz:=hd.sz
 intro k
 induction k with
 | zero=>
  intro i hk hi hib
  rw[Za1]
  unfold scanSorted
  simp only[ZL,Zf5,decide_eq_false (show ¬i<b by omega),cond_false]
  rw[if_neg (by simp[show ¬i<b by omega])]
  exact⟨rfl,Nat.le_refl _,hib⟩
 | succ k ih=>
  intro i hk hi hib
  rw[Za1]
  unfold scanSorted
  by_cases h1:i<b
  ·have i1:i<d.size:=by omega
   have i2:i-1<d.size:=by omega
   have e2:w64 ((i:Int)-1)=((i-1:Nat):Int):=Zaw (by omega) (by omega)
   have e3:=hc _ _ (hd.el i i1) (hd.el (i-1) i2)
   by_cases h2:c d[i]! d[i-1]! < 0
   ·simp only[ZL,Zf5,decide_eq_true h1,cond_true,ZbC i1,e2,ZbC i2,Option.bind_some,e3,decide_eq_true h2]
    rw[if_neg (by simp[h2,ltC])]
    exact⟨rfl,Nat.le_refl _,hib⟩
   ·simp only[ZL,Zf5,decide_eq_true h1,cond_true,ZbC i1,e2,ZbC i2,Option.bind_some,e3,decide_eq_false h2,cond_false,ZZ h1 (by omega)]
    rw[if_pos (by simp[h1,h2,ltC])]
    obtain⟨a1,a2,a3⟩:=ih (i+1) (by omega) (by omega) (by omega)
    exact⟨a1,by omega,a3⟩
  ·simp only[ZL,Zf5,decide_eq_false h1,cond_false]
   rw[if_neg (by simp[h1])]
   exact⟨rfl,Nat.le_refl _,hib⟩
theorem ZwX (a b:Nat):∀(s i:Nat) (d:Array Int),s≤5→a<i→i≤b→b≤d.size→OKA P d →
  ∃r,lp (ZS (a:Int) (b:Int) cmp) ((i:Int),((5-s:Nat):Int),d.toList)=some r∧(match r with | .inl l=>l=(partialIns (ltC c) a b s i d).1.toList∧(partialIns (ltC c) a b s i d).2=true | .inr (.inl l)=>l=(partialIns (ltC c) a b s i d).1.toList∧(partialIns (ltC c) a b s i d).2=false | .inr (.inr l)=>l=(partialIns (ltC c) a b s i d).1.toList∧(partialIns (ltC c) a b s i d).2=false) ∧
   OKA P (partialIns (ltC c) a b s i d).1∧(partialIns (ltC c) a b s i d).1.size=d.size
 | 0,i,d,hs,ha,hi,hb,hd=>by
  rw[Za1]
  simp only[ZS,decide_eq_false (show ¬(((5-0:Nat):Int)<5) by omega),cond_false]
  exact⟨_,rfl,by simp[partialIns],by first | exact hd | (simpa [partialIns] using hd),by first | rfl | simp[partialIns]⟩
 | s+1,i,d,hs,ha,hi,hb,hd=>by
  have hz:=hd.sz
  obtain⟨u1,u2,u3⟩:=Zvr hc b 0 d hb hd (i:Int) ((5-(s+1):Nat):Int) (b-i) i (Nat.le_refl _) (by omega) hi
  rw[Za1]
  unfold partialIns
  generalize hi2:scanSorted (ltC c) d b i=i2 at u1 u2 u3 ⊢
  simp only[ZS,decide_eq_true (show(((5-(s+1):Nat):Int)<5) by omega),cond_true,u1,Option.bind_some]
  by_cases h1:i2=b
  ·rw[show((i2:Int)==(b:Int))=true by simp[h1],if_pos h1]
   exact⟨_,rfl,by simp[partialIns],by first | exact hd | (simpa [partialIns] using hd),by first | rfl | simp[partialIns]⟩
  ·have e1:w64 ((b:Int)-(a:Int))=((b-a:Nat):Int):=Zaw (by omega) (by omega)
   rw[show((i2:Int)==(b:Int))=false by simpa using (show ¬(i2:Int)=(b:Int) by omega),if_neg h1]
   by_cases h2:b-a<50
   ·rw[if_pos h2]
    simp only[cond_false,e1,decide_eq_true (show((b-a:Nat):Int)<50 by omega),cond_true]
    exact⟨_,rfl,by simp[partialIns],by first | exact hd | (simpa [partialIns] using hd),by first | rfl | simp[partialIns]⟩
   ·rw[if_neg h2]
    have i1:i2<d.size:=by omega
    have i3:i2-1<d.size:=by omega
    have e2:w64 ((i2:Int)-1)=((i2-1:Nat):Int):=Zaw (by omega) (by omega)
    have e3:w64 ((i2:Int)-(a:Int))=((i2-a:Nat):Int):=Zaw (by omega) (by omega)
    have e4:w64 ((b:Int)-(i2:Int))=((b-i2:Nat):Int):=Zaw (by omega) (by omega)
    have e5:w64 ((i2:Int)+1)=((i2+1:Nat):Int):=Zaw (by omega) (by omega)
    have e6:w64 (((5-(s+1):Nat):Int)+1)=((5-s:Nat):Int):=Zaw (by omega) (by omega)
    obtain⟨y,em⟩:=Zj3 (i:=i2) (x:=d[i2-1]!) i3
    have hd2:=hd.swp i1 i3
    simp only[cond_false,e1,decide_eq_false (show ¬((b-a:Nat):Int)<50 by omega),e2,ZbC i1,ZbC i3,Option.bind_some,Int.toNat_natCast,em,ZgU,e3,e4,e5,e6]
    have n2:∀n:Nat,decide ((2:Int)≤(n:Int))=decide (n ≥ 2):=fun n=>decide_eq_decide.2 (by omega)
    rw[n2,n2]
    have go:∀d':Array Int,OKA P d'→d'.size=d.size→∃r,lp (ZS (a:Int) (b:Int) cmp) ((i2:Int),((5-s:Nat):Int),d'.toList)=some r∧(match r with | .inl l=>l=(partialIns (ltC c) a b s i2 d').1.toList∧(partialIns (ltC c) a b s i2 d').2=true | .inr (.inl l)=>l=(partialIns (ltC c) a b s i2 d').1.toList∧(partialIns (ltC c) a b s i2 d').2=false | .inr (.inr l)=>l=(partialIns (ltC c) a b s i2 d').1.toList∧(partialIns (ltC c) a b s i2 d').2=false) ∧
      OKA P (partialIns (ltC c) a b s i2 d').1∧(partialIns (ltC c) a b s i2 d').1.size=d.size:=fun d' h h'=>by
     have:=ZwX a b s i2 d' (by omega) (by omega) u3 (by omega) h
     rw[h'] at this
     exact this
    by_cases h3:i2-a ≥ 2
    ·obtain⟨v1,v2,v3⟩:=ZyS hc (i2-1) (swp d i2 (i2-1)) hd2 (by rw[Zaf];exact i3)
     rw[Zaf] at v3
     rw[decide_eq_true h3,if_pos h3]
     simp only[cond_true,v1,Option.bind_some]
     by_cases h4:b-i2 ≥ 2
     ·obtain⟨w1,w2,w3⟩:=ZyT hc b (b-(i2+1)) (i2+1) (shiftDown (ltC c) (i2-1) (swp d i2 (i2-1))) (Nat.le_refl _) (by omega) (by omega) v2
      rw[decide_eq_true h4,if_pos h4]
      simp only[cond_true,w1,Option.bind_some]
      exact go _ w2 (by omega)
     ·rw[decide_eq_false h4,if_neg h4]
      exact go _ v2 v3
    ·rw[decide_eq_false h3,if_neg h3]
     simp only[cond_false]
     by_cases h4:b-i2 ≥ 2
     ·obtain⟨w1,w2,w3⟩:=ZyT hc b (b-(i2+1)) (i2+1) (swp d i2 (i2-1)) (Nat.le_refl _) (by omega) (by rw[Zaf];omega) hd2
      rw[Zaf] at w3
      rw[decide_eq_true h4,if_pos h4]
      simp only[cond_true,w1,Option.bind_some]
      exact go _ w2 w3
     ·rw[decide_eq_false h4,if_neg h4]
      exact go _ hd2 (Zaf _ _ _)
theorem Zy1 (a b:Nat) (d:Array Int) (h1:a<b) (hb:b≤d.size) (hd:OKA P d) :
  ZQ (a:Int) (b:Int) cmp d.toList=some (bif (partialInsertionSort (ltC c) d a b).2 then .inl (partialInsertionSort (ltC c) d a b).1.toList else .inr (partialInsertionSort (ltC c) d a b).1.toList)∧OKA P (partialInsertionSort (ltC c) d a b).1∧(partialInsertionSort (ltC c) d a b).1.size=d.size:=by
 have hz:=hd.sz
 obtain⟨r,e,h2,h3⟩:=ZwX hc a b 5 (a+1) d (Nat.le_refl _) (by omega) (by omega) hb hd
 unfold ZQ partialInsertionSort
 have e0:((5-5:Nat):Int)=0:=rfl
 rw[e0] at e
 rw[Zaw (n:=a+1) (by omega) (by omega),e]
 refine⟨?_,h3⟩
 rcases r with l | l | l
 ·obtain⟨rfl,h⟩:=h2;rw[h];rfl
 ·obtain⟨rfl,h⟩:=h2;rw[h];rfl
 ·obtain⟨rfl,h⟩:=h2;rw[h];rfl
theorem ZwN (d:Array Int) (hd:OKA P d) (a b n:Nat) (ha:a<d.size) (hb:b<d.size) (hn:n<1000):ZaR (a:Int) (b:Int) cmp d.toList (n:Int)=some (((order2 (ltC c) d a b n).1:Int),((order2 (ltC c) d a b n).2.1:Int),((order2 (ltC c) d a b n).2.2:Int)) ∧
  (order2 (ltC c) d a b n).1<d.size∧(order2 (ltC c) d a b n).2.1<d.size∧(order2 (ltC c) d a b n).2.2≤n+1:=by
 unfold ZaR order2
 simp only[ZbC ha,ZbC hb,Option.bind_some,hc _ _ (hd.el b hb) (hd.el a ha)]
 by_cases h:c d[b]! d[a]! < 0
 ·rw[if_pos (by simp[h,ltC]),decide_eq_true h,Zaw (n:=n+1) (by omega) (by omega)]
  exact⟨rfl,hb,ha,Nat.le_refl _⟩
 ·rw[if_neg (by simp[h,ltC]),decide_eq_false h]
  exact⟨rfl,ha,hb,Nat.le_succ _⟩
theorem ZvD (d:Array Int) (hd:OKA P d) (i j k n:Nat) (hi:i<d.size) (hj:j<d.size) (hk:k<d.size) (hn:n<990):ZaQ (i:Int) (j:Int) (k:Int) cmp d.toList (n:Int)=some (((median (ltC c) d i j k n).1:Int),((median (ltC c) d i j k n).2:Int))∧(median (ltC c) d i j k n).1<d.size∧(median (ltC c) d i j k n).2≤n+3:=by
 obtain⟨a1,a2,a3,a4⟩:=ZwN hc d hd i j n hi hj (by omega)
 obtain⟨b1,b2,b3,b4⟩:=ZwN hc d hd (order2 (ltC c) d i j n).2.1 k (order2 (ltC c) d i j n).2.2 a3 hk (by omega)
 obtain⟨c1,c2,c3,c4⟩:=ZwN hc d hd (order2 (ltC c) d i j n).1 (order2 (ltC c) d (order2 (ltC c) d i j n).2.1 k (order2 (ltC c) d i j n).2.2).1 (order2 (ltC c) d (order2 (ltC c) d i j n).2.1 k (order2 (ltC c) d i j n).2.2).2.2 a2 b2 (by omega)
 unfold ZaQ median
 simp only[a1,b1,c1,Option.bind_some]
 exact⟨trivial,c3,by omega⟩
theorem Zvt (d:Array Int) (hd:OKA P d) (i n:Nat) (h1:1≤i) (hi:i+1<d.size) (hn:n<990):Z9 (i:Int) cmp d.toList (n:Int)=some (((medianAdjacent (ltC c) d i n).1:Int),((medianAdjacent (ltC c) d i n).2:Int))∧(medianAdjacent (ltC c) d i n).1<d.size∧(medianAdjacent (ltC c) d i n).2≤n+3:=by
 have hz:=hd.sz
 obtain⟨a1,a2⟩:=ZvD hc d hd (i-1) i (i+1) n (by omega) (by omega) hi hn
 unfold Z9 medianAdjacent
 rw[Zaw (n:=i-1) (by omega) (by omega),Zaw (n:=i+1) (by omega) (by omega),a1]
 exact⟨rfl,a2⟩
theorem Zy0 (a b:Nat) (d:Array Int) (hab:a<b) (hb:b≤d.size) (hd:OKA P d):ZO (a:Int) (b:Int) cmp d.toList=some (((choosePivot (ltC c) d a b).1:Int),Zpf (choosePivot (ltC c) d a b).2):=by
 have hz:=hd.sz
 have e1:w64 ((b:Int)-(a:Int))=((b-a:Nat):Int):=Zaw (by omega) (by omega)
 have e2:w64 (Int.tdiv ((b-a:Nat):Int) 4)=(((b-a) / 4:Nat):Int):=by
  rw[Int.tdiv_eq_ediv_of_nonneg (by omega)]
  exact Zaw (by omega) (by omega)
 have q:∀m:Nat,m≤3→w64 ((((b-a) / 4:Nat):Int)*(m:Int))=(((b-a) / 4*m:Nat):Int):=fun m hm=>by
  refine Zaw (by rw[Int.natCast_mul]) ?_
  have:(b-a) / 4*m≤(b-a) / 4*3:=Nat.mul_le_mul_left _ hm
  omega
 have q1:=q 1 (by omega)
 have q2:=q 2 (by omega)
 have q3:=q 3 (by omega)
 have p:∀m:Nat,m≤3→w64 ((a:Int)+(((b-a) / 4*m:Nat):Int))=((a+(b-a) / 4*m:Nat):Int):=fun m hm=>by
  refine Zaw (by omega) ?_
  have:(b-a) / 4*m≤(b-a) / 4*3:=Nat.mul_le_mul_left _ hm
  omega
 have p1:=p 1 (by omega)
 have p2:=p 2 (by omega)
 have p3:=p 3 (by omega)
 unfold ZO choosePivot
 have q1':w64 ((((b-a) / 4:Nat):Int)*1)=_:=q1
 have q2':w64 ((((b-a) / 4:Nat):Int)*2)=_:=q2
 have q3':w64 ((((b-a) / 4:Nat):Int)*3)=_:=q3
 simp only[e1,e2,q1',q2',q3',p1,p2,p3]
 have z:((0:Nat):Int)=0:=rfl
 by_cases h8:b-a ≥ 8
 ·rw[decide_eq_true (show(8:Int)≤((b-a:Nat):Int) by omega),if_pos h8]
  by_cases h50:b-a ≥ 50
  ·obtain⟨m1,m2,m3⟩:=Zvt hc d hd (a+(b-a) / 4*1) 0 (by omega) (by omega) (by omega)
   obtain⟨n1,n2,n3⟩:=Zvt hc d hd (a+(b-a) / 4*2) (medianAdjacent (ltC c) d (a+(b-a) / 4*1) 0).2 (by omega) (by omega) (by omega)
   obtain⟨o1,o2,o3⟩:=Zvt hc d hd (a+(b-a) / 4*3) (medianAdjacent (ltC c) d (a+(b-a) / 4*2) (medianAdjacent (ltC c) d (a+(b-a) / 4*1) 0).2).2 (by omega) (by omega) (by omega)
   obtain⟨r1,r2,r3⟩:=ZvD hc d hd _ _ _ (medianAdjacent (ltC c) d (a+(b-a) / 4*3) (medianAdjacent (ltC c) d (a+(b-a) / 4*2) (medianAdjacent (ltC c) d (a+(b-a) / 4*1) 0).2).2).2 m2 n2 o2 (by omega)
   rw[z] at m1
   rw[decide_eq_true (show(50:Int)≤((b-a:Nat):Int) by omega),if_pos h50]
   simp only[cond_true,m1,n1,o1,r1,Option.bind_some]
   exact Zxb (_,_) _ _ rfl rfl
  ·obtain⟨r1,r2,r3⟩:=ZvD hc d hd (a+(b-a) / 4*1) (a+(b-a) / 4*2) (a+(b-a) / 4*3) 0 (by omega) (by omega) (by omega) (by omega)
   rw[z] at r1
   rw[decide_eq_false (show ¬(50:Int)≤((b-a:Nat):Int) by omega),if_neg h50]
   simp only[cond_true,cond_false,r1,Option.bind_some]
   exact Zxb (_,_) _ _ rfl rfl
 ·rw[decide_eq_false (show ¬(8:Int)≤((b-a:Nat):Int) by omega),if_neg h8]
  rfl
end
theorem ZAg {P:Int→Prop}:∀(k i j:Nat) (d:Array Int),j-i≤k→j<d.size∨j≤i→OKA P d→lp Z6 ((i:Int),(j:Int),d.toList)=some (reverseLoop i j d).toList∧OKA P (reverseLoop i j d)∧(reverseLoop i j d).size=d.size:=by
 intro k
 induction k with
 | zero=>
  intro i j d hk hj hd
  rw[Za1]
  unfold reverseLoop
  simp only[Z6,Zf5,decide_eq_false (show ¬i<j by omega),cond_false]
  rw[if_neg (by omega)]
  exact⟨rfl,hd,rfl⟩
 | succ k ih=>
  intro i j d hk hj hd
  have hz:=hd.sz
  rw[Za1]
  unfold reverseLoop
  by_cases h:i<j
  ·have i1:j<d.size:=by omega
   have i2:i<d.size:=by omega
   obtain⟨y,em⟩:=Zj3 (i:=i) (x:=d[j]!) i1
   have e2:w64 ((j:Int)-1)=((j-1:Nat):Int):=Zaw (by omega) (by omega)
   simp only[Z6,Zf5,decide_eq_true h,cond_true,ZbC i1,ZbC i2,Option.bind_some,Int.toNat_natCast,em,ZgU,ZZ h (by omega),e2]
   rw[if_pos h]
   have:=ih (i+1) (j-1) (swp d i j) (by omega) (by rw[Zaf];omega) (hd.swp i2 i1)
   rw[Zaf] at this
   exact this
  ·simp only[Z6,Zf5,decide_eq_false h,cond_false]
   rw[if_neg h]
   exact⟨rfl,hd,rfl⟩
theorem ZwS {P:Int→Prop} (cmp:Int→Int→Option Int) (a b:Nat) (d:Array Int) (hab:a<b) (hb:b≤d.size) (hd:OKA P d):ZM (a:Int) (b:Int) cmp d.toList=some (reverseRange d a b).toList∧OKA P (reverseRange d a b)∧(reverseRange d a b).size=d.size:=by
 have hz:=hd.sz
 obtain⟨h1,h2⟩:=ZAg (b-1-a) a (b-1) d (Nat.le_refl _) (by omega) hd
 unfold ZM reverseRange
 rw[Zaw (n:=b-1) (by omega) (by omega)]
 simp only[h1,Option.bind_some]
 exact⟨trivial,h2⟩
end Go.Proofs.YtnmbdjkbaihicaaDoor
namespace Go.Proofs.YtnmbdjkbaihicaaDoor
open Go Go.Proofs.YtnmbdjkbaihicaaDoorE Go.Sort
set_option linter.unusedVariables false
set_option linter.unusedSimpArgs false
theorem Zsd (n:Int):IntKind.u64.wrap n=n % 18446744073709551616:=by
 show(if (false&&decide (n % 18446744073709551616 ≥ 9223372036854775808))=true then n % 18446744073709551616-18446744073709551616 else n % 18446744073709551616)=_
 simp
theorem Zhk {n:Nat} (h:n<18446744073709551616):IntKind.u64.wrap (n:Int)=(n:Int):=by rw[Zsd];omega
def ZqV (a b:Int):Int:=IntKind.u64.wrap (BitVec.ofInt IntKind.u64.bits a ^^^ BitVec.ofInt IntKind.u64.bits b).toNat
def Zvu (a b:Int):Int:=IntKind.u64.wrap (BitVec.ofInt IntKind.u64.bits a &&& BitVec.ofInt IntKind.u64.bits b).toNat
def xs (r:Int):Int:=ZqV (ZqV (ZqV r (IntKind.u64.wrap (r*2 ^ 13))) (Int.fdiv (ZqV r (IntKind.u64.wrap (r*2 ^ 13))) (2 ^ 7))) (IntKind.u64.wrap (ZqV (ZqV r (IntKind.u64.wrap (r*2 ^ 13))) (Int.fdiv (ZqV r (IntKind.u64.wrap (r*2 ^ 13))) (2 ^ 7))*2 ^ 17))
theorem Zqy (u:UInt64):BitVec.ofInt IntKind.u64.bits (u.toNat:Int)=u.toBitVec:=by
 show BitVec.ofInt 64 (u.toNat:Int)=u.toBitVec
 rw[BitVec.ofInt_natCast]
 apply BitVec.eq_of_toNat_eq
 rw[BitVec.toNat_ofNat]
 exact Nat.mod_eq_of_lt u.toNat_lt
theorem ZwD (u v:UInt64):ZqV (u.toNat:Int) (v.toNat:Int)=((u ^^^ v).toNat:Int):=by
 unfold ZqV
 rw[Zqy,Zqy]
 exact Zhk (u ^^^ v).toNat_lt
theorem ZyR (u:UInt64) (k:Nat) (v:UInt64) (hk:v.toNat % 64=k):IntKind.u64.wrap ((u.toNat:Int)*2 ^ k)=((u <<< v).toNat:Int):=by
 rw[Zsd,UInt64.toNat_shiftLeft,hk,Nat.shiftLeft_eq]
 have:((2:Int) ^ k)=((2 ^ k:Nat):Int):=by rw[Int.natCast_pow];rfl
 rw[this]
 omega
theorem ZAW (u:UInt64) (k:Nat) (v:UInt64) (hk:v.toNat % 64=k):Int.fdiv (u.toNat:Int) (2 ^ k)=((u >>> v).toNat:Int):=by
 have e:((2:Int) ^ k)=((2 ^ k:Nat):Int):=by rw[Int.natCast_pow];rfl
 rw[UInt64.toNat_shiftRight,hk,Nat.shiftRight_eq_div_pow,e,Int.fdiv_eq_ediv_of_nonneg _ (Int.natCast_nonneg _)]
 exact(Int.natCast_ediv _ _).symm
theorem ZA2 (u:UInt64):xs (u.toNat:Int)=((xorNext u).toNat:Int):=by
 unfold xs xorNext
 rw[ZyR u 13 13 rfl,ZwD,ZAW _ 7 7 rfl,ZwD,ZyR _ 17 17 rfl,ZwD]
theorem Zyp (u:UInt64) (m:Nat) (hm:m<18446744073709551616):Zvu (u.toNat:Int) (m:Int)=((u.toNat &&& m:Nat):Int):=by
 unfold Zvu
 rw[Zqy]
 have:BitVec.ofInt IntKind.u64.bits (m:Int)=BitVec.ofNat 64 m:=BitVec.ofInt_natCast _ _
 rw[this]
 show IntKind.u64.wrap ((((u.toBitVec &&& BitVec.ofNat 64 m:BitVec 64)).toNat:Nat):Int)=_
 rw[BitVec.toNat_and,BitVec.toNat_ofNat,Nat.mod_eq_of_lt hm]
 refine Zhk (Nat.lt_of_le_of_lt Nat.and_le_left u.toNat_lt)
theorem Zvf:((List.range 1001).all fun n=>(match Zd7 (IntKind.u64.wrap (n:Int)) with | some v=>v==(bitsLen n:Int) | none=>false)&&((match Zcn (n:Int) with | some v=>v==((1 <<< bitsLen n:Nat):Int) | none=>false)&&(decide (1 <<< bitsLen n≤2*n) || n==0)))=true:=by kernel_rfl
theorem Zwq {n:Nat} (h:n≤1000):Zd7 (IntKind.u64.wrap (n:Int))=some (bitsLen n:Int)∧Zcn (n:Int)=some ((1 <<< bitsLen n:Nat):Int)∧(0<n→1 <<< bitsLen n≤2*n):=by
 have:=List.all_eq_true.1 Zvf n (by simp;omega)
 simp only[Bool.and_eq_true,Bool.or_eq_true,decide_eq_true_eq,beq_iff_eq] at this
 obtain⟨h1,h2,h3⟩:=this
 refine⟨?_,?_,fun h=>by omega⟩
 ·split at h1
  ·rename_i v hv;rw[hv,eq_of_beq h1]
  ·cases h1
 ·split at h2
  ·rename_i v hv;rw[hv,eq_of_beq h2]
  ·cases h2
def ZnS (s:Int×List Int×Int) (o:Int):Option ((Int×List Int×Int)⊕List Int):=
 (ZE s.2.1 o).bind fun x3=>(ZE s.2.1 s.1).bind fun x4=>(ZE (List.set s.2.1 s.1.toNat x3) o).bind fun _=>some (Sum.inl (w64 (s.1+1),List.set (List.set s.2.1 s.1.toNat x3) o.toNat x4,xs s.2.2))
theorem Zy3 (b c x0:Int) (s:Int×List Int×Int):ZaG b c x0 s=(bif (decide (s.1≤(w64 ((w64 (b+(w64 ((w64 (Int.tdiv (w64 (c-b)) 4))*2))))+1)))) then
  Zdn.bind fun _=>bif decide (w64 (c-b)≤w64 (Zvu (xs s.2.2) (IntKind.u64.wrap (x0-1)))) then ZnS s (w64 (b+w64 (w64 (Zvu (xs s.2.2) (IntKind.u64.wrap (x0-1)))-w64 (c-b)))) else ZnS s (w64 (b+w64 (Zvu (xs s.2.2) (IntKind.u64.wrap (x0-1)))))
 else some (.inr s.2.1)):=rfl
theorem Zsa {P:Int→Prop} (d:Array Int) (hd:OKA P d) (i o:Nat) (u:UInt64) (hi:i<d.size) (ho:o<d.size):ZnS ((i:Int),d.toList,(u.toNat:Int)) (o:Int)=some (.inl (((i+1:Nat):Int),(swp d i o).toList,((xorNext u).toNat:Int))):=by
 have hz:=hd.sz
 obtain⟨y,em⟩:=Zj3 (i:=i) (x:=d[o]!) ho
 unfold ZnS
 simp only[ZbC ho,ZbC hi,Option.bind_some,Int.toNat_natCast,em,ZgU,ZA2,ZZ hi (by omega)]
theorem ZqO {P:Int→Prop} (a b:Nat) (d:Array Int) (hd:OKA P d) (h8:8≤b-a) (hb:b≤d.size) (i:Nat) (hi:i≤a+(b-a) / 4*2+1) (u:UInt64) :
  ZaG (a:Int) (b:Int) ((1 <<< bitsLen (b-a):Nat):Int) ((i:Int),d.toList,(u.toNat:Int))=some (.inl (((i+1:Nat):Int),(breakStep a (b-a) (1 <<< bitsLen (b-a)) (u,d) i).2.toList,((breakStep a (b-a) (1 <<< bitsLen (b-a)) (u,d) i).1.toNat:Int))) ∧
  OKA P (breakStep a (b-a) (1 <<< bitsLen (b-a)) (u,d) i).2∧(breakStep a (b-a) (1 <<< bitsLen (b-a)) (u,d) i).2.size=d.size:=by
 have hz:=hd.sz
 obtain⟨_,_,l3⟩:=Zwq (show b-a≤1000 by omega)
 have l4:=l3 (by omega)
 have l5:0<1 <<< bitsLen (b-a):=by rw[Nat.shiftLeft_eq,Nat.one_mul];exact Nat.pow_pos (by omega)
 generalize hm:1 <<< bitsLen (b-a)=m at *
 have e1:w64 ((b:Int)-(a:Int))=((b-a:Nat):Int):=Zaw (by omega) (by omega)
 have e2:w64 (Int.tdiv ((b-a:Nat):Int) 4)=(((b-a) / 4:Nat):Int):=by
  rw[Int.tdiv_eq_ediv_of_nonneg (by omega)]
  exact Zaw (by omega) (by omega)
 have e3:w64 ((((b-a) / 4:Nat):Int)*2)=(((b-a) / 4*2:Nat):Int):=Zaw (by omega) (by omega)
 have e4:w64 ((a:Int)+(((b-a) / 4*2:Nat):Int))=((a+(b-a) / 4*2:Nat):Int):=Zaw (by omega) (by omega)
 have e5:w64 (((a+(b-a) / 4*2:Nat):Int)+1)=((a+(b-a) / 4*2+1:Nat):Int):=Zaw (by omega) (by omega)
 have e6:IntKind.u64.wrap ((m:Int)-1)=((m-1:Nat):Int):=by
  rw[show(m:Int)-1=((m-1:Nat):Int) by omega];exact Zhk (by omega)
 have hand:(xorNext u).toNat &&& (m-1)≤m-1:=Nat.and_le_right
 have e7:w64 (((xorNext u).toNat &&& (m-1):Nat):Int)=(((xorNext u).toNat &&& (m-1):Nat):Int):=Zaw rfl (by omega)
 have ii:i<d.size:=by omega
 rw[Zy3]
 unfold breakStep
 simp only[e1,e2,e3,e4,e5,Zg0,decide_eq_true hi,cond_true,ZA2,e6,Zyp _ (m-1) (by omega),e7]
 generalize (xorNext u).toNat &&& (m-1)=o at *
 show(bif decide (b-a≤o) then _ else _)=_∧_
 by_cases ho:b-a≤o
 ·have e8:w64 ((o:Int)-((b-a:Nat):Int))=((o-(b-a):Nat):Int):=Zaw (by omega) (by omega)
  have e9:w64 ((a:Int)+((o-(b-a):Nat):Int))=((a+(o-(b-a)):Nat):Int):=Zaw (by omega) (by omega)
  rw[decide_eq_true ho,if_pos ho]
  simp only[cond_true,e8,e9]
  exact⟨Zsa d hd i _ u ii (by omega),hd.swp ii (by omega),Zaf _ _ _⟩
 ·have e9:w64 ((a:Int)+(o:Int))=((a+o:Nat):Int):=Zaw (by omega) (by omega)
  rw[decide_eq_false ho,if_neg ho]
  simp only[cond_false,e9]
  exact⟨Zsa d hd i _ u ii (by omega),hd.swp ii (by omega),Zaf _ _ _⟩
theorem ZCv {P:Int→Prop} (cmp:Int→Int→Option Int) (a b:Nat) (d:Array Int) (hab:a≤b) (hb:b≤d.size) (hd:OKA P d):Zae (a:Int) (b:Int) cmp d.toList=some (breakPatterns d a b).toList∧OKA P (breakPatterns d a b)∧(breakPatterns d a b).size=d.size:=by
 have hz:=hd.sz
 have e1:w64 ((b:Int)-(a:Int))=((b-a:Nat):Int):=Zaw (by omega) (by omega)
 unfold Zae breakPatterns
 simp only[e1]
 by_cases h8:8≤b-a
 ·obtain⟨_,l2,_⟩:=Zwq (show b-a≤1000 by omega)
  have e2:w64 (Int.tdiv ((b-a:Nat):Int) 4)=(((b-a) / 4:Nat):Int):=by
   rw[Int.tdiv_eq_ediv_of_nonneg (by omega)]
   exact Zaw (by omega) (by omega)
  have e3:w64 ((((b-a) / 4:Nat):Int)*2)=(((b-a) / 4*2:Nat):Int):=Zaw (by omega) (by omega)
  have e4:w64 ((a:Int)+(((b-a) / 4*2:Nat):Int))=((a+(b-a) / 4*2:Nat):Int):=Zaw (by omega) (by omega)
  have e5:w64 (((a+(b-a) / 4*2:Nat):Int)-1)=((a+(b-a) / 4*2-1:Nat):Int):=Zaw (by omega) (by omega)
  have e6:IntKind.u64.wrap ((b-a:Nat):Int)=((UInt64.ofNat (b-a)).toNat:Int):=by
   rw[Zhk (by omega),UInt64.toNat_ofNat_of_lt' (by show b-a<2 ^ 64;omega)]
  rw[decide_eq_true (show(8:Int)≤((b-a:Nat):Int) by omega),if_pos h8]
  simp only[cond_true,l2,Option.bind_some,e2,e3,e4,e5,e6]
  generalize hi0:a+(b-a) / 4*2-1=i0
  obtain⟨p1,p2,p3⟩:=ZqO a b d hd h8 hb i0 (by omega) (UInt64.ofNat (b-a))
  generalize breakStep a (b-a) (1 <<< bitsLen (b-a)) (UInt64.ofNat (b-a),d) i0=r1 at *
  obtain⟨q1,q2,q3⟩:=ZqO a b r1.2 p2 h8 (by omega) (i0+1) (by omega) r1.1
  generalize breakStep a (b-a) (1 <<< bitsLen (b-a)) (r1.1,r1.2) (i0+1)=r2 at *
  obtain⟨s1,s2,s3⟩:=ZqO a b r2.2 q2 h8 (by omega) (i0+2) (by omega) r2.1
  generalize breakStep a (b-a) (1 <<< bitsLen (b-a)) (r2.1,r2.2) (i0+2)=r3 at *
  rw[Zot p1,Zot q1,Zot s1,Zyu (r:=r3.2.toList)]
  ·exact⟨rfl,s2,by omega⟩
  ·rw[Zy3]
   have e7:w64 (((a+(b-a) / 4*2:Nat):Int)+1)=((a+(b-a) / 4*2+1:Nat):Int):=Zaw (by omega) (by omega)
   simp only[e1,e2,e3,e4,e7,Zg0,decide_eq_false (show ¬i0+2+1≤a+(b-a) / 4*2+1 by omega),cond_false]
 ·rw[decide_eq_false (show ¬(8:Int)≤((b-a:Nat):Int) by omega),if_neg h8]
  exact⟨rfl,hd,rfl⟩
end Go.Proofs.YtnmbdjkbaihicaaDoor
namespace Go.Proofs.YtnmbdjkbaihicaaDoor
open Go Go.Proofs.YtnmbdjkbaihicaaDoorE Go.Sort
set_option linter.unusedVariables false
set_option linter.unusedSimpArgs false
abbrev Zx0:=Int×Int×Int×Bool×Bool×List Int
noncomputable def Ztz (e:Int→Int→Option Int) (rc:Int→Int→Int→(Int→Int→Option Int)→List Int→Option (List Int)) (a b limit pivot:Int) (x5:List Int):Option (Zx0⊕List Int):=
 (Zr a b pivot e x5).bind fun x9=>
 match x9 with
 | .inl x9=>
  bif decide (w64 (x9.1-a)<w64 (b-x9.1)) then
   bif decide (w64 (Int.tdiv (w64 (b-a)) 8)≤w64 (x9.1-a)) then (rc a x9.1 limit e x9.2).bind fun x10=>some (.inl (w64 (x9.1+1),b,limit,true,true,x10))
   else (rc a x9.1 limit e x9.2).bind fun x10=>some (.inl (w64 (x9.1+1),b,limit,false,true,x10))
  else
   bif decide (w64 (Int.tdiv (w64 (b-a)) 8)≤w64 (b-x9.1)) then (rc (w64 (x9.1+1)) b limit e x9.2).bind fun x10=>some (.inl (a,x9.1,limit,true,true,x10))
   else (rc (w64 (x9.1+1)) b limit e x9.2).bind fun x10=>some (.inl (a,x9.1,limit,false,true,x10))
 | .inr x9=>
  bif decide (w64 (x9.1-a)<w64 (b-x9.1)) then
   bif decide (w64 (Int.tdiv (w64 (b-a)) 8)≤w64 (x9.1-a)) then (rc a x9.1 limit e x9.2).bind fun x10=>some (.inl (w64 (x9.1+1),b,limit,true,false,x10))
   else (rc a x9.1 limit e x9.2).bind fun x10=>some (.inl (w64 (x9.1+1),b,limit,false,false,x10))
  else
   bif decide (w64 (Int.tdiv (w64 (b-a)) 8)≤w64 (b-x9.1)) then (rc (w64 (x9.1+1)) b limit e x9.2).bind fun x10=>some (.inl (a,x9.1,limit,true,false,x10))
   else (rc (w64 (x9.1+1)) b limit e x9.2).bind fun x10=>some (.inl (a,x9.1,limit,false,false,x10))
noncomputable def Zmt (e:Int→Int→Option Int) (rc:Int→Int→Int→(Int→Int→Option Int)→List Int→Option (List Int)) (a b limit pivot:Int) (wb wp:Bool) (x5:List Int):Option (Zx0⊕List Int):=
 bif decide (0<a) then
  (ZE x5 (w64 (a-1))).bind fun x6=>(ZE x5 pivot).bind fun x7=>(e x6 x7).bind fun x8=>
  bif decide (x8<0) then Ztz e rc a b limit pivot x5
  else (ZD a b pivot e x5).bind fun x18=>some (.inl (x18.1,b,limit,wb,wp,x18.2))
 else Ztz e rc a b limit pivot x5
theorem Zpx (e:Int→Int→Option Int) (rc:Int→Int→Int→(Int→Int→Option Int)→List Int→Option (List Int)) (a b limit:Int) (wb wp:Bool) (l:List Int):ZR e rc (a,b,limit,wb,wp,l) =
  (bif decide (w64 (b-a)≤12) then (ZW a b e l).bind fun x=>some (.inr x)
  else bif limit==0 then (Z8 a b e l).bind fun x=>some (.inr x)
  else (bif wb then bif wp then
    (ZO a b e l).bind fun x3=>
    bif x3.2==2 then (ZM a b e l).bind fun x4=>(ZQ a b e x4).bind fun x5=>(match x5 with | .inl x5=>some (.inr x5) | .inr x5=>Zmt e rc a b limit (w64 (w64 (b-1)-w64 (x3.1-a))) true true x5)
    else bif x3.2==1 then (ZQ a b e l).bind fun x5=>(match x5 with | .inl x5=>some (.inr x5) | .inr x5=>Zmt e rc a b limit x3.1 true true x5)
    else Zmt e rc a b limit x3.1 true true l
   else
    (ZO a b e l).bind fun x3=>
    bif x3.2==2 then (ZM a b e l).bind fun x4=>Zmt e rc a b limit (w64 (w64 (b-1)-w64 (x3.1-a))) true false x4
    else Zmt e rc a b limit x3.1 true false l
  else
   (Zae a b e l).bind fun x0=>(ZO a b e x0).bind fun x3=>
    bif x3.2==2 then (ZM a b e x0).bind fun x4=>Zmt e rc a b (w64 (limit-1)) (w64 (w64 (b-1)-w64 (x3.1-a))) false wp x4
    else Zmt e rc a b (w64 (limit-1)) x3.1 false wp x0)):=by
 cases wb<;>cases wp<;>rfl
end Go.Proofs.YtnmbdjkbaihicaaDoor
namespace Go.Proofs.YtnmbdjkbaihicaaDoor
open Go Go.Proofs.YtnmbdjkbaihicaaDoorE Go.Sort
set_option linter.unusedVariables false
set_option linter.unusedSimpArgs false
noncomputable def after (e:Int→Int→Option Int) (rc:Int→Int→Int→(Int→Int→Option Int)→List Int→Option (List Int)) (x:Option (Zx0⊕List Int)):Option (List Int):=
 match x with | some (.inl s')=>lp (ZR e rc) s' | some (.inr r)=>some r | none=>none
theorem Zvq (e:Int→Int→Option Int) (rc:Int→Int→Int→(Int→Int→Option Int)→List Int→Option (List Int)) (s:Zx0):lp (ZR e rc) s=after e rc (ZR e rc s):=by
 rw[Za1]
 unfold after
 cases ZR e rc s with
 | none=>rfl
 | some t=>cases t<;>rfl
def Res (P:Int→Prop) (r:Option (List Int)) (X:Array Int) (n:Nat):Prop:=r=some X.toList∧OKA P X∧X.size=n
section
variable {cmp:Int→Int→Option Int} {c:Int→Int→Int} {P:Int→Prop} (hc:Zrx cmp c P) (hs:SWO (ltC c))
include hc hs
def ZnT (cmp:Int→Int→Option Int) (c:Int→Int→Int) (P:Int→Prop) (rc:Int→Int→Int→(Int→Int→Option Int)→List Int→Option (List Int)) (k:Nat):Prop:=
 ∀(a b limit:Nat) (wb wp:Bool) (d:Array Int),b-a≤k→a≤b→b≤d.size→OKA P d→limit≤1000 →
  Res P (rc (a:Int) (b:Int) (limit:Int) cmp d.toList) (pdq (ltC c) d a b limit true true) d.size ∧
  Res P (lp (ZR cmp rc) ((a:Int),(b:Int),(limit:Int),wb,wp,d.toList)) (pdq (ltC c) d a b limit wb wp) d.size
theorem Ztb {rc:Int→Int→Int→(Int→Int→Option Int)→List Int→Option (List Int)}{k:Nat} (ih:ZnT cmp c P rc k) (a b limit pivot:Nat) (d:Array Int) (hk:b-a≤k+1) (h1:a≤pivot) (h2:pivot<b) (hb:b≤d.size) (hd:OKA P d) (hl:limit≤1000) :
  Res P (after cmp rc (Ztz cmp rc (a:Int) (b:Int) (limit:Int) (pivot:Int) d.toList)) (match partition (ltC c) d a b pivot with
   | (mid,alreadyPartitioned,d4)=>
    if _h:a≤mid∧mid<b then
     if mid-a<b-mid then pdq (ltC c) (pdq (ltC c) d4 a mid limit true true) (mid+1) b limit (decide (mid-a ≥ (b-a) / 8)) alreadyPartitioned
     else pdq (ltC c) (pdq (ltC c) d4 (mid+1) b limit true true) a mid limit (decide (b-mid ≥ (b-a) / 8)) alreadyPartitioned
    else d4) d.size:=by
 have hz:=hd.sz
 obtain⟨p1,p2,p3⟩:=Zyk hc a b pivot d h1 h2 hb hd
 obtain⟨r1,r2,_⟩:=partition_holds (ltC c) hs d a b pivot h1 h2 hb
 unfold Ztz
 rw[p1]
 generalize partition (ltC c) d a b pivot=q at *
 obtain⟨mid,ap,d4⟩:=q
 dsimp only at *
 rw[dif_pos ⟨r1,r2⟩]
 have e1:w64 ((mid:Int)-(a:Int))=((mid-a:Nat):Int):=Zaw (by omega) (by omega)
 have e2:w64 ((b:Int)-(mid:Int))=((b-mid:Nat):Int):=Zaw (by omega) (by omega)
 have e3:w64 ((b:Int)-(a:Int))=((b-a:Nat):Int):=Zaw (by omega) (by omega)
 have e4:w64 (Int.tdiv ((b-a:Nat):Int) 8)=(((b-a) / 8:Nat):Int):=by
  rw[Int.tdiv_eq_ediv_of_nonneg (by omega)]
  exact Zaw (by omega) (by omega)
 have e5:w64 ((mid:Int)+1)=((mid+1:Nat):Int):=Zaw (by omega) (by omega)
 by_cases hlt:mid-a<b-mid
 ·obtain⟨⟨u1,u2,u3⟩,_⟩:=ih a mid limit true true d4 (by omega) r1 (by omega) p2 hl
  rw[if_pos hlt]
  by_cases ht:mid-a ≥ (b-a) / 8
  ·obtain⟨_,v1,v2,v3⟩:=ih (mid+1) b limit true ap (pdq (ltC c) d4 a mid limit true true) (by omega) (by omega) (by omega) u2 hl
   rw[decide_eq_true ht]
   refine⟨?_,v2,by omega⟩
   cases ap<;>simp only[cond_true,cond_false,Option.bind_some,e1,e2,e3,e4,e5,Zf5,Zg0,decide_eq_true hlt,decide_eq_true (show(b-a) / 8≤mid-a from ht),u1,after]<;>exact v1
  ·obtain⟨_,v1,v2,v3⟩:=ih (mid+1) b limit false ap (pdq (ltC c) d4 a mid limit true true) (by omega) (by omega) (by omega) u2 hl
   rw[decide_eq_false ht]
   refine⟨?_,v2,by omega⟩
   cases ap<;>simp only[cond_true,cond_false,Option.bind_some,e1,e2,e3,e4,e5,Zf5,Zg0,decide_eq_true hlt,decide_eq_false (show ¬(b-a) / 8≤mid-a from ht),u1,after]<;>exact v1
 ·obtain⟨⟨u1,u2,u3⟩,_⟩:=ih (mid+1) b limit true true d4 (by omega) (by omega) (by omega) p2 hl
  rw[if_neg hlt]
  by_cases ht:b-mid ≥ (b-a) / 8
  ·obtain⟨_,v1,v2,v3⟩:=ih a mid limit true ap (pdq (ltC c) d4 (mid+1) b limit true true) (by omega) r1 (by omega) u2 hl
   rw[decide_eq_true ht]
   refine⟨?_,v2,by omega⟩
   cases ap<;>simp only[cond_true,cond_false,Option.bind_some,e1,e2,e3,e4,e5,Zf5,Zg0,decide_eq_false hlt,decide_eq_true (show(b-a) / 8≤b-mid from ht),u1,after]<;>exact v1
  ·obtain⟨_,v1,v2,v3⟩:=ih a mid limit false ap (pdq (ltC c) d4 (mid+1) b limit true true) (by omega) r1 (by omega) u2 hl
   rw[decide_eq_false ht]
   refine⟨?_,v2,by omega⟩
   cases ap<;>simp only[cond_true,cond_false,Option.bind_some,e1,e2,e3,e4,e5,Zf5,Zg0,decide_eq_false hlt,decide_eq_false (show ¬(b-a) / 8≤b-mid from ht),u1,after]<;>exact v1
theorem ZeR {rc:Int→Int→Int→(Int→Int→Option Int)→List Int→Option (List Int)}{k:Nat} (ih:ZnT cmp c P rc k) (a b limit pivot:Nat) (wb wp:Bool) (d:Array Int) (hk:b-a≤k+1) (h1:a≤pivot) (h2:pivot<b) (hb:b≤d.size) (hd:OKA P d) (hl:limit≤1000) :
  Res P (after cmp rc (Zmt cmp rc (a:Int) (b:Int) (limit:Int) (pivot:Int) wb wp d.toList)) (if (decide (a > 0) && !ltC c d[a-1]! d[pivot]!)=true then
    match partitionEqual (ltC c) d a b pivot with
    | (mid,d4)=>if _h:a<mid∧mid≤b then pdq (ltC c) d4 mid b limit wb wp else d4
   else
    match partition (ltC c) d a b pivot with
    | (mid,alreadyPartitioned,d4)=>
     if _h:a≤mid∧mid<b then
      if mid-a<b-mid then pdq (ltC c) (pdq (ltC c) d4 a mid limit true true) (mid+1) b limit (decide (mid-a ≥ (b-a) / 8)) alreadyPartitioned
      else pdq (ltC c) (pdq (ltC c) d4 (mid+1) b limit true true) a mid limit (decide (b-mid ≥ (b-a) / 8)) alreadyPartitioned
     else d4) d.size:=by
 have hz:=hd.sz
 have pa:=Ztb hc hs ih a b limit pivot d hk h1 h2 hb hd hl
 have ip:pivot<d.size:=by omega
 unfold Zmt
 by_cases ha:0<a
 ·have ia:a-1<d.size:=by omega
  have e1:w64 ((a:Int)-1)=((a-1:Nat):Int):=Zaw (by omega) (by omega)
  have e3:=hc _ _ (hd.el _ ia) (hd.el _ ip)
  simp only[decide_eq_true (show(0:Int)<(a:Int) by omega),cond_true,e1,ZbC ia,ZbC ip,Option.bind_some,e3]
  by_cases h:c d[a-1]! d[pivot]! < 0
  ·rw[decide_eq_true h,if_neg (by simp[ltC,h])]
   exact pa
  ·rw[decide_eq_false h,if_pos (by simp[ltC,h,ha])]
   obtain⟨q1,q2,q3,q4,q5⟩:=Zxg hc a b pivot d h1 h2 hb hd
   generalize partitionEqual (ltC c) d a b pivot=q at *
   obtain⟨mid,d4⟩:=q
   dsimp only at *
   rw[dif_pos ⟨q4,q5⟩]
   obtain⟨_,v1,v2,v3⟩:=ih mid b limit wb wp d4 (by omega) q5 (by omega) q2 hl
   simp only[cond_false,q1,Option.bind_some,after]
   exact⟨v1,v2,by omega⟩
 ·rw[if_neg (by simp[ha])]
  simp only[decide_eq_false (show ¬(0:Int)<(a:Int) by omega),cond_false]
  exact pa
theorem ZpZ {rc:Int→Int→Int→(Int→Int→Option Int)→List Int→Option (List Int)}{k:Nat} (ih:ZnT cmp c P rc k) (a b limit:Nat) (wb wp:Bool) (d:Array Int) (hk:b-a≤k+1) (hab:a≤b) (hb:b≤d.size) (hd:OKA P d) (hl:limit≤1000) :
  Res P (lp (ZR cmp rc) ((a:Int),(b:Int),(limit:Int),wb,wp,d.toList)) (pdq (ltC c) d a b limit wb wp) d.size:=by
 have hz:=hd.sz
 have e1:w64 ((b:Int)-(a:Int))=((b-a:Nat):Int):=Zaw (by omega) (by omega)
 rw[Zvq,Zpx,pdq,e1]
 by_cases h12:b-a≤12
 ·obtain⟨q1,q2,q3⟩:=ZyW hc a b d hb hab hd
  rw[decide_eq_true (show((b-a:Nat):Int)≤12 by omega),if_pos h12]
  simp only[cond_true,q1,Option.bind_some,after]
  exact⟨rfl,q2,q3⟩
 rw[decide_eq_false (show ¬((b-a:Nat):Int)≤12 by omega),if_neg h12]
 by_cases h0:limit=0
 ·obtain⟨q1,q2,q3⟩:=ZzF hc a b d hab hb hd
  rw[show((limit:Int)==0)=true by simp[h0],if_pos h0]
  simp only[cond_false,cond_true,q1,Option.bind_some,after]
  exact⟨rfl,q2,q3⟩
 rw[show((limit:Int)==0)=false by simpa using (show ¬(limit:Int)=0 by omega),if_neg h0]
 have hl2:∀x:Nat,(Zpf Hint.unknown==2)=false∧(Zpf Hint.unknown==1)=false∧(Zpf Hint.increasing==2)=false∧(Zpf Hint.increasing==1)=true∧(Zpf Hint.decreasing==2)=true:=fun _=>⟨rfl,rfl,rfl,rfl,rfl⟩
 obtain⟨g1,g2,g3,g4,g5⟩:=hl2 0
 have rp:∀p:Nat,a≤p→p<b→w64 (w64 ((b:Int)-1)-w64 ((p:Int)-(a:Int)))=(((b-1)-(p-a):Nat):Int):=fun p h1 h2=>by
  have x1:w64 ((b:Int)-1)=((b-1:Nat):Int):=Zaw (by omega) (by omega)
  have x2:w64 ((p:Int)-(a:Int))=((p-a:Nat):Int):=Zaw (by omega) (by omega)
  rw[x1,x2]
  exact Zaw (by omega) (by omega)
 cases wb with
 | true=>
  have pv:=Zy0 hc a b d (by omega) hb hd
  have pr:=choosePivot_holds (ltC c) d a b (by omega)
  simp only[cond_false,cond_true,Bool.not_true,Bool.false_eq_true,if_false,Bool.true_and]
  generalize choosePivot (ltC c) d a b=cp at *
  obtain⟨p,h⟩:=cp
  dsimp only at *
  cases wp with
  | true=>
   simp only[cond_true,pv,Option.bind_some]
   cases h with
   | decreasing=>
    obtain⟨v1,v2,v3⟩:=ZwS (P:=P) cmp a b d (by omega) hb hd
    obtain⟨w1,w2,w3⟩:=Zy1 hc a b (reverseRange d a b) (by omega) (by omega) v2
    simp only[g5,cond_true,v1,Option.bind_some,w1,if_true,decide_true,Bool.and_self]
    generalize partialInsertionSort (ltC c) (reverseRange d a b) a b=pi at *
    obtain⟨d3,fin⟩:=pi
    dsimp only at *
    cases fin with
    | true=>exact⟨rfl,w2,w3.trans v3⟩
    | false=>
     rw[rp p pr.1 pr.2]
     have:=ZeR hc hs ih a b limit ((b-1)-(p-a)) true true d3 hk (by omega) (by omega) (by omega) w2 hl
     rw[show d3.size=d.size by omega] at this
     exact this
   | increasing=>
    obtain⟨w1,w2,w3⟩:=Zy1 hc a b d (by omega) hb hd
    simp only[g3,g4,cond_true,cond_false,w1,Option.bind_some,reduceCtorEq,if_false,if_true,decide_true,Bool.and_self]
    generalize partialInsertionSort (ltC c) d a b=pi at *
    obtain⟨d3,fin⟩:=pi
    dsimp only at *
    cases fin with
    | true=>exact⟨rfl,w2,w3⟩
    | false=>
     have:=ZeR hc hs ih a b limit p true true d3 hk pr.1 pr.2 (by omega) w2 hl
     rw[show d3.size=d.size by omega] at this
     exact this
   | unknown=>
    simp only[g1,g2,cond_false,reduceCtorEq,if_false,decide_false,Bool.and_false,Bool.false_eq_true]
    exact ZeR hc hs ih a b limit p true true d hk pr.1 pr.2 hb hd hl
  | false=>
   simp only[cond_false,pv,Option.bind_some,Bool.false_and,Bool.false_eq_true,if_false]
   cases h with
   | decreasing=>
    obtain⟨v1,v2,v3⟩:=ZwS (P:=P) cmp a b d (by omega) hb hd
    simp only[g5,cond_true,v1,Option.bind_some,if_true]
    rw[rp p pr.1 pr.2]
    have:=ZeR hc hs ih a b limit ((b-1)-(p-a)) true false (reverseRange d a b) hk (by omega) (by omega) (by omega) v2 hl
    rw[v3] at this
    exact this
   | increasing=>
    simp only[g3,cond_false,reduceCtorEq,if_false]
    exact ZeR hc hs ih a b limit p true false d hk pr.1 pr.2 hb hd hl
   | unknown=>
    simp only[g1,cond_false,reduceCtorEq,if_false]
    exact ZeR hc hs ih a b limit p true false d hk pr.1 pr.2 hb hd hl
 | false=>
  obtain⟨b1,b2,b3⟩:=ZCv (P:=P) cmp a b d hab hb hd
  have pv:=Zy0 hc a b (breakPatterns d a b) (by omega) (by omega) b2
  have pr:=choosePivot_holds (ltC c) (breakPatterns d a b) a b (by omega)
  have el:w64 ((limit:Int)-1)=((limit-1:Nat):Int):=Zaw (by omega) (by omega)
  simp only[cond_false,b1,Option.bind_some,pv,Bool.not_false,if_true,Bool.false_and,Bool.false_eq_true,if_false,el]
  generalize choosePivot (ltC c) (breakPatterns d a b) a b=cp at *
  obtain⟨p,h⟩:=cp
  dsimp only at *
  cases h with
  | decreasing=>
   obtain⟨v1,v2,v3⟩:=ZwS (P:=P) cmp a b (breakPatterns d a b) (by omega) (by omega) b2
   simp only[g5,cond_true,v1,Option.bind_some,if_true]
   rw[rp p pr.1 pr.2]
   have:=ZeR hc hs ih a b (limit-1) ((b-1)-(p-a)) false wp (reverseRange (breakPatterns d a b) a b) hk (by omega) (by omega) (by omega) v2 (by omega)
   rw[v3,b3] at this
   exact this
  | increasing=>
   simp only[g3,cond_false,reduceCtorEq,if_false]
   have:=ZeR hc hs ih a b (limit-1) p false wp (breakPatterns d a b) hk pr.1 pr.2 (by omega) b2 (by omega)
   rw[b3] at this
   exact this
  | unknown=>
   simp only[g1,cond_false,reduceCtorEq,if_false]
   have:=ZeR hc hs ih a b (limit-1) p false wp (breakPatterns d a b) hk pr.1 pr.2 (by omega) b2 (by omega)
   rw[b3] at this
   exact this
theorem Zyx:∀(k m:Nat),k≤m→ZnT cmp c P (ZY (m+1)) k:=by
 intro k
 induction k with
 | zero=>
  intro m hm
  have base:∀(rc:Int→Int→Int→(Int→Int→Option Int)→List Int→Option (List Int)) (a b limit:Nat) (wb wp:Bool) (d:Array Int),b-a≤0→a≤b→b≤d.size→OKA P d→Res P (lp (ZR cmp rc) ((a:Int),(b:Int),(limit:Int),wb,wp,d.toList)) (pdq (ltC c) d a b limit wb wp) d.size:=by
   intro rc a b limit wb wp d hk hab hb hd
   have hz:=hd.sz
   have e1:w64 ((b:Int)-(a:Int))=((b-a:Nat):Int):=Zaw (by omega) (by omega)
   obtain⟨q1,q2,q3⟩:=ZyW hc a b d hb hab hd
   rw[Za1,Zpx,pdq,e1,decide_eq_true (show((b-a:Nat):Int)≤12 by omega),if_pos (by omega)]
   simp only[cond_true,q1,Option.bind_some]
   exact⟨rfl,q2,q3⟩
  intro a b limit wb wp d hk hab hb hd hl
  refine⟨?_,base _ a b limit wb wp d hk hab hb hd⟩
  obtain⟨r1,r2⟩:=base (ZY m) a b limit true true d hk hab hb hd
  refine⟨?_,r2⟩
  show Zau (ZY m) (a:Int) (b:Int) (limit:Int) cmp d.toList=_
  unfold Zau
  rw[r1];rfl
 | succ k ih=>
  intro m hm a b limit wb wp d hk hab hb hd hl
  refine⟨?_,ZpZ hc hs (ih m (by omega)) a b limit wb wp d hk hab hb hd hl⟩
  obtain⟨m',rfl⟩:∃m',m=m'+1:=⟨m-1,by omega⟩
  obtain⟨r1,r2⟩:=ZpZ hc hs (ih m' (by omega)) a b limit true true d hk hab hb hd hl
  refine⟨?_,r2⟩
  show Zau (ZY (m'+1)) (a:Int) (b:Int) (limit:Int) cmp d.toList=_
  unfold Zau
  rw[r1];rfl
theorem Zyo (l:List Int) (hl:l.length≤1000) (hP:∀x∈l,P x):ZaK cmp l=some (Sort.sort (ltC c) l.toArray).toList:=by
 have hd:OKA P l.toArray:=⟨fun i hi=>by
  have hi':i<l.length:=by simpa using hi
  rw[getElem!_pos l.toArray i hi]
  simpa using hP _ (List.getElem_mem hi'),by simpa using hl⟩
 obtain⟨l1,_,_⟩:=Zwq hl
 have hbl:bitsLen l.length≤1000:=by
  unfold bitsLen
  split
  ·omega
  ·have:Nat.log2 l.length<11:=(Nat.log2_lt (by assumption)).2 (by omega)
   omega
 have key:∀n,l.length+1≤n→ZY n 0 (l.length:Int) (bitsLen l.length:Int) cmp l=some (Sort.sort (ltC c) l.toArray).toList:=by
  intro n hn
  obtain⟨m,rfl⟩:∃m,n=m+1:=⟨n-1,by omega⟩
  obtain⟨⟨r1,_⟩,_⟩:=Zyx hc hs l.length m (by omega) 0 l.length (bitsLen l.length) true true l.toArray (by omega) (by omega) (by simp) hd hbl
  refine(r1:ZY (m+1) 0 (l.length:Int) (bitsLen l.length:Int) cmp l=_).trans ?_
  unfold Sort.sort
  rw[List.size_toArray]
 unfold ZaK Zdm
 rw[l1,Option.bind_some,ZxK key]
 rfl
theorem ZzX (l:List Int) (hl:l.length≤1000) (hP:∀x∈l,P x):∃r:List Int,ZaK cmp l=some r∧r.Perm l∧r.Pairwise (fun x y=>ltC c y x=false):=by
 refine⟨_,Zyo hc hs l hl hP,?_⟩
 obtain⟨⟨h1,_,h2⟩,h3⟩:=sort_sorts (ltC c) hs l.toArray
 generalize Sort.sort (ltC c) l.toArray=d at *
 constructor
 ·have e1:d.extract 0 l.toArray.size=d:=by rw[← h1];simp
  rw[e1] at h2
  simpa using h2
 ·rw[List.pairwise_iff_getElem]
  intro i j hi hj hij
  have hj':j<d.size:=by simpa using hj
  have hi':i<d.size:=by omega
  have:=h3 i j (Nat.zero_le _) hij (by omega)
  rw[getElem!_pos d j hj',getElem!_pos d i hi'] at this
  simpa using this
end
end Go.Proofs.YtnmbdjkbaihicaaDoor
namespace Go.Proofs.YtnmbdjkbaihicaaDoor
open Go Go.Proofs.YtnmbdjkbaihicaaDoorE Go.Sort
set_option linter.unusedVariables false
set_option linter.unusedSimpArgs false
def sel {γ:Type} (p:γ→Bool) (g:Nat→γ→Int):Nat→List γ→List Int
 | _,[]=>[]
 | i,x :: l=>bif p x then g i x :: sel p g (i+1) l else sel p g (i+1) l
theorem Zmj {γ:Type} (p:γ→Bool) (g:Nat→γ→Int):∀(l:List γ) (i:Nat),(sel p g i l).length=l.countP p
 | [],_=>rfl
 | x :: l,i=>by
  unfold sel
  have ih:=Zmj p g l (i+1)
  cases h:p x with
  | true=>simp[ih,h]
  | false=>simp[ih,h]
theorem ZnI {γ:Type} (p:γ→Bool) (g:Nat→γ→Int) (z:Int):∀(l:List γ) (i:Nat),z∈sel p g i l↔∃j x,l[j]? = some x∧p x=true∧z=g (i+j) x
 | [],i=>by simp[sel]
 | x :: l,i=>by
  have ih:=ZnI p g z l (i+1)
  have key:(∃j y,(x :: l)[j]? = some y∧p y=true∧z=g (i+j) y)↔(p x=true∧z=g i x)∨∃j y,l[j]? = some y∧p y=true∧z=g (i+1+j) y:=by
   constructor
   ·rintro ⟨j,y,h1,h2,h3⟩
    cases j with
    | zero=>left;simp at h1;subst h1;exact⟨h2,h3⟩
    | succ j=>right;exact⟨j,y,by simpa using h1,h2,by rw[h3];congr 1;omega⟩
   ·rintro (⟨h2,h3⟩ | ⟨j,y,h1,h2,h3⟩)
    ·exact⟨0,x,rfl,h2,h3⟩
    ·exact⟨j+1,y,by simpa using h1,h2,by rw[h3];congr 1;omega⟩
  rw[key]
  unfold sel
  cases h:p x with
  | true=>simp[ih]
  | false=>simp[ih]
theorem Ztk {γ:Type} (l:List γ) (hl:l.length≤1000) (p:γ→Bool) (g:Nat→γ→Int) (step:Int×List Int→Option ((Int×List Int)⊕List Int))
  (h1:∀i x s,i<l.length→l[i]? = some x→step ((i:Int),s)=(bif p x then (bif Nat.ble (s.length+1) lim then some (.inl (((i+1:Nat):Int),s++[g i x])) else none) else some (.inl (((i+1:Nat):Int),s))))
  (h2:∀s,step ((l.length:Int),s)=some (.inr s)) (s:List Int) (hs:s.length≤1000000):lp step (0,s)=some (s++sel p g 0 l):=by
 have key:=ZqB l step (fun i s=>((i:Int),s)) (fun i x s=>bif p x then (bif Nat.ble (s.length+1) lim then some (.inl (s++[g i x])) else none) else some (.inl s)) (fun s=>some s) (fun i x s hi hx=>by
   rw[h1 i x s hi hx]
   cases p x<;>cases Nat.ble (s.length+1) lim<;>rfl) (fun s=>h2 s) s
 refine(key:lp step (0,s)=_).trans ?_
 have:∀(l:List γ) (i:Nat) (s:List Int),s.length+l.length≤1001000→ZmP (fun i x s=>bif p x then (bif Nat.ble (s.length+1) lim then some (Sum.inl (s++[g i x])) else (none:Option (List Int⊕List Int))) else some (.inl s)) (fun s=>some s) i l s=some (s++sel p g i l):=by
  intro l
  induction l with
  | nil=>intro i s _;simp[ZmP,sel]
  | cons x l ih=>
   intro i s hb
   rw[List.length_cons] at hb
   unfold ZmP sel
   cases p x with
   | true=>
    rw[Zfx (show s.length+1≤1073741824 by omega)]
    simp only[cond_true]
    rw[ih (i+1) (s++[g i x]) (by rw[List.length_append,List.length_singleton];omega)]
    simp
   | false=>
    simp only[cond_false]
    rw[ih (i+1) s (by omega)]
 exact this l 0 s (by omega)
theorem Zoz (k:Int→Int):∀(l m:List Int),l.Pairwise (fun x y=>k x<k y)→m.Pairwise (fun x y=>k x<k y)→(∀z,z∈l↔z∈m)→l=m
 | [],[],_,_,_=>rfl
 | [],y :: m,_,_,h=>absurd ((h y).2 (by simp)) (by simp)
 | x :: l,[],_,_,h=>absurd ((h x).1 (by simp)) (by simp)
 | x :: l,y :: m,h1,h2,h=>by
  rw[List.pairwise_cons] at h1 h2
  have hxy:x=y:=by
   rcases List.mem_cons.1 ((h x).1 (by simp)) with e | e
   ·exact e
   ·rcases List.mem_cons.1 ((h y).2 (by simp)) with e2 | e2
    ·exact e2.symm
    ·have:=h2.1 _ e
     have:=h1.1 _ e2
     omega
  subst hxy
  congr 1
  refine Zoz k l m h1.2 h2.2 fun z=>?_
  constructor
  ·intro hz
   rcases List.mem_cons.1 ((h z).1 (by simp[hz])) with e | e
   ·subst e
    have:=h1.1 _ hz
    omega
   ·exact e
  ·intro hz
   rcases List.mem_cons.1 ((h z).2 (by simp[hz])) with e | e
   ·subst e
    have:=h2.1 _ hz
    omega
   ·exact e
structure ZlC (d:Zj):Prop where
 w:∀p∈d.parts,1≤p.work∧p.work≤100
 e:∀x∈d.edges,two d.parts.length x.src x.dst=true
 f:∀x∈d.futures,two d.parts.length x.maker x.user=true∧1≤x.pos∧x.pos≤ZfV d.parts x.user-1
 ne:∀(i j:Nat) (x y:Zi),i<j→d.futures[i]? = some x→d.futures[j]? = some y→¬(x.user=y.user∧x.pos=y.pos)
theorem ZqR {d:Zj} (h:ZfB d=0):ZlC d:=by
 unfold ZfB at h
 have all:Zlm d=true∧Zph d=true∧d.parts.any ZfM=false∧ZgC (Zgd d) 0 d.edges=false∧ZgC (Zd1 d) 0 d.futures=false:=by
  revert h
  cases Zlm d<;>cases Zph d<;>cases d.parts.any ZfM<;>cases ZgC (Zgd d) 0 d.edges<;>cases ZgC (Zd1 d) 0 d.futures<;>simp
 obtain⟨_,_,h3,h4,h5⟩:=all
 have he:∀(i:Nat) x,d.edges[i]? = some x→Zgd d i x=false:=fun i x hx=>by
  cases hb:Zgd d i x with
  | false=>rfl
  | true=>rw[(Zj2 _ _ 0).2 ⟨i,x,hx,by simpa using hb⟩] at h4;cases h4
 have hf:∀(i:Nat) x,d.futures[i]? = some x→Zd1 d i x=false:=fun i x hx=>by
  cases hb:Zd1 d i x with
  | false=>rfl
  | true=>rw[(Zj2 _ _ 0).2 ⟨i,x,hx,by simpa using hb⟩] at h5;cases h5
 refine⟨Zpk h3,fun x hx=>?_,fun x hx=>?_,fun i j x y hij hx hy=>?_⟩
 ·obtain⟨i,hi⟩:=List.getElem?_of_mem hx
  have:=he i x hi
  unfold Zgd at this
  simp only[Bool.or_eq_false_iff,Bool.not_eq_false'] at this
  exact this.1
 ·obtain⟨i,hi⟩:=List.getElem?_of_mem hx
  have:=hf i x hi
  unfold Zd1 Zc0 at this
  simp only[Bool.or_eq_false_iff,Bool.not_eq_false',Bool.and_eq_true,decide_eq_true_eq] at this
  exact⟨this.1,this.2.1.1,this.2.1.2⟩
 ·rintro ⟨h1,h2⟩
  have:=hf j y hy
  unfold Zd1 at this
  simp only[Bool.or_eq_false_iff] at this
  have h6:=List.any_eq_false.1 this.2.2 x (List.mem_of_getElem? (i:=i) (by rw[List.getElem?_take_of_lt hij];exact hx))
  unfold again at h6
  simp[h1,h2] at h6
theorem ZkG {d:Zj} (g:ZlC d) (u:Int):ZfV d.parts u≤100:=by
 unfold ZfV
 split
 ·rename_i p hp;exact(g.w p (List.mem_of_getElem? hp)).2
 ·omega
def ZeI (fs:List Zi) (z:Int):Int:=match fs[z.toNat]? with | some f=>f.pos | none=>0
def ZnA (d:Zj) (u:Int):List Int:=sel (fun f:Zi=>f.user==u) (fun i _=>(i:Int)) 0 d.futures
theorem Zkr (d:Zj) (u z:Int):z∈ZnA d u↔∃(i:Nat) (f:Zi),d.futures[i]? = some f∧f.user=u∧z=(i:Int):=by
 unfold ZnA
 rw[ZnI]
 simp
theorem Zo1 (d:Zj) (u:Int):(ZnA d u).Pairwise (fun x y=>x<y):=by
 have:∀(l:List Zi) (i:Nat),(sel (fun f:Zi=>f.user==u) (fun i _=>(i:Int)) i l).Pairwise (fun x y=>x<y)∧∀z∈sel (fun f:Zi=>f.user==u) (fun i _=>(i:Int)) i l,(i:Int)≤z:=by
  intro l
  induction l with
  | nil=>intro i;simp[sel]
  | cons x l ih=>
   intro i
   obtain⟨h1,h2⟩:=ih (i+1)
   unfold sel
   cases x.user==u with
   | true=>
    simp only[cond_true,List.pairwise_cons,List.mem_cons]
    refine⟨⟨fun z hz=>?_,h1⟩,?_⟩
    ·have:=h2 z hz;omega
    ·rintro z (rfl | hz)
     ·exact Int.le_refl _
     ·have:=h2 z hz;omega
   | false=>
    simp only[cond_false]
    exact⟨h1,fun z hz=>by have:=h2 z hz;omega⟩
 exact(this d.futures 0).1
structure Zb8 (d:Zj) (u:Int) (r:List Int):Prop where
 mem:∀z,z∈r↔∃(i:Nat) (f:Zi),d.futures[i]? = some f∧f.user=u∧z=(i:Int)
 rise:r.Pairwise (fun x y=>ZeI d.futures x<ZeI d.futures y)
theorem Zb8.eq {d:Zj}{u:Int}{r s:List Int} (h1:Zb8 d u r) (h2:Zb8 d u s):r=s:=Zoz (ZeI d.futures) r s h1.rise h2.rise fun z=>by rw[h1.mem,h2.mem]
theorem ZrA {l:List Int}{p q:Int→Int→Prop} (h:l.Pairwise p) (hq:∀x y,x∈l→y∈l→p x y→q x y):l.Pairwise q:=by
 rw[List.pairwise_iff_getElem] at h ⊢
 exact fun i j hi hj hij=>hq _ _ (List.getElem_mem hi) (List.getElem_mem hj) (h i j hi hj hij)
theorem Zxd {d:Zj} (g:ZlC d) {u x y:Int} (hx:∃(i:Nat) (f:Zi),d.futures[i]? = some f∧f.user=u∧x=(i:Int)) (hy:∃(i:Nat) (f:Zi),d.futures[i]? = some f∧f.user=u∧y=(i:Int)) (hne:x≠y):ZeI d.futures x≠ZeI d.futures y:=by
 obtain⟨i,f,h1,h2,rfl⟩:=hx
 obtain⟨j,e,h3,h4,rfl⟩:=hy
 intro he
 unfold ZeI at he
 rw[Int.toNat_natCast,Int.toNat_natCast,h1,h3] at he
 simp only at he
 rcases Nat.lt_trichotomy i j with h | h | h
 ·exact g.ne i j f e h h1 h3 ⟨h2.trans h4.symm,he⟩
 ·exact hne (by rw[h])
 ·exact g.ne j i e f h h3 h1 ⟨h4.trans h2.symm,he.symm⟩
theorem Zvc {d:Zj} (g:ZlC d):Zrx (fun z0 z1=>Zt z0 z1 d.futures) (fun x y=>ZeI d.futures x-ZeI d.futures y) (fun z=>0≤z∧z.toNat<d.futures.length):=by
 intro x y hx hy
 have b:∀z:Int,z.toNat<d.futures.length→∃f,d.futures[z.toNat]? = some f∧ZeI d.futures z=f.pos∧1≤f.pos∧f.pos≤100:=fun z hz=>by
  have hm:=List.getElem_mem hz
  have:=g.f _ hm
  have hw:=ZkG g d.futures[z.toNat].user
  exact⟨d.futures[z.toNat],List.getElem?_eq_getElem hz,by unfold ZeI;rw[List.getElem?_eq_getElem hz],this.2.1,by omega⟩
 obtain⟨f,f1,f2,f3,f4⟩:=b x hx.2
 obtain⟨e,e1,e2,e3,e4⟩:=b y hy.2
 show Zt x y d.futures=some (ZeI d.futures x-ZeI d.futures y)
 unfold Zt
 rw[Zm4 hx.1 f1,Zm4 hy.1 e1]
 simp only[Option.bind_some]
 rw[f2,e2,ZcD (by omega) (by omega)]
theorem Zx6 (k:Int→Int):SWO (ltC fun x y=>k x-k y):=by
 refine⟨fun x=>?_,fun x y z h1 h2=>?_,fun x y z h1 h2=>?_⟩
 ·show decide (k x-k x<0)=false
  exact decide_eq_false (by omega)
 ·simp only[ltC,decide_eq_true_eq] at *
  omega
 ·simp only[ltC,decide_eq_false_iff_not] at *
  omega
theorem ZmG (d:Zj) (h:Zga d) (hf:d.futures.length≤1000) (hc:ZfB d=0) (u:Int):∃r,Zcz d u=some r∧Zb8 d u r:=by
 have g:=ZqR hc
 have key:=Ztk d.futures hf (fun f:Zi=>f.user==u) (fun i _=>(i:Int)) (Zc8 d u) (fun i x s hi hx=>by
   simp only[Zc8,Zet hi,Zav hx,Option.bind_some,ZZ hi h.f,cond_true]) (fun s=>by simp only[Zc8,Ze8];rfl) [] (by simp)
 have hP:∀x∈ZnA d u,0≤x∧x.toNat<d.futures.length:=fun x hx=>by
  obtain⟨i,f,h1,h2,rfl⟩:=(Zkr d u x).1 hx
  have:=(List.getElem?_eq_some_iff.1 h1).1
  exact⟨by omega,by simpa using this⟩
 have hlen:(ZnA d u).length≤1000:=by
  unfold ZnA
  rw[Zmj]
  exact Nat.le_trans List.countP_le_length hf
 obtain⟨r,h1,h2,h3⟩:=ZzX (Zvc g) (Zx6 _) (ZnA d u) hlen hP
 refine⟨r,?_,?_,?_⟩
 ·unfold Zcz
  rw[ZqF d h,hc]
  simp only[Option.bind_some,bne_self_eq_false,cond_false]
  rw[key,List.nil_append,Option.bind_some]
  show(ZaK (fun z0 z1=>Zt z0 z1 d.futures) (ZnA d u)).bind _=_
  rw[h1]
  rfl
 ·exact fun z=>by rw[h2.mem_iff,Zkr]
 ·have nd:r.Pairwise (fun x y=>x≠y):=(h2.pairwise_iff (fun h=>Ne.symm h)).2 ((Zo1 d u).imp fun h=>by omega)
  refine ZrA (h3.and nd) fun x y hx hy hp=>?_
  have a:=(Zkr d u x).1 (h2.mem_iff.1 hx)
  have b:=(Zkr d u y).1 (h2.mem_iff.1 hy)
  have h4:=Zxd g a b hp.2
  have h5:=hp.1
  simp only[ltC,decide_eq_false_iff_not] at h5
  omega
def Zji (fs:List Zi) (z:Int):Int:=match fs[z.toNat]? with | some f=>f.maker | none=>0
def Zsb (d:Zj) (u:Int) (r:List Int):List Int:=sel (fun e:Zm=>e.dst==u) (fun _ e=>e.src) 0 d.edges++r.map (Zji d.futures)
theorem Zuc {γ:Type} (k:γ→Int):∀(l:List γ) (i:Nat),sel (fun _=>true) (fun _ x=>k x) i l=l.map k
 | [],_=>rfl
 | x :: l,i=>by unfold sel;rw[Zuc k l];rfl
theorem ZsH (d:Zj) (r s:List Int) (hr:r.length≤1000) (hs:s.length≤1000000) (hP:∀x∈r,0≤x∧x.toNat<d.futures.length) (step:Int×List Int→Option ((Int×List Int)⊕List Int))
  (hstep:∀t,step t=(bif (decide (t.1<(r.length:Int))) then (ZE r t.1).bind fun x6=>(ZE d.futures x6).bind fun x7=>bif (Nat.ble (List.length t.2+1) lim) then some (.inl ((w64 (t.1+1)),(t.2++[x7.maker]))) else none else some (.inr t.2))) :
  lp step (0,s)=some (s++r.map (Zji d.futures)):=by
 rw[← Zuc (Zji d.futures) r 0]
 refine Ztk r hr (fun _=>true) (fun _ x=>Zji d.futures x) step (fun i x s hi hx=>?_) (fun s=>?_) s hs
 ·obtain⟨p1,p2⟩:=hP x (List.mem_of_getElem? hx)
  rw[hstep]
  have hm:Zji d.futures x=d.futures[x.toNat].maker:=by unfold Zji;rw[List.getElem?_eq_getElem p2]
  simp only[Zet hi,Zav hx,Option.bind_some,ZZ hi (show r.length<9223372036854775808 by omega),cond_true,Zrk p1 p2,hm]
 ·rw[hstep]
  simp only[Ze8,cond_false]
theorem ZwQ {d:Zj}{u:Int}{r:List Int} (h:Zb8 d u r):∀x∈r,0≤x∧x.toNat<d.futures.length:=fun x hx=>by
 obtain⟨i,f,h1,h2,rfl⟩:=(h.mem x).1 hx
 have:=(List.getElem?_eq_some_iff.1 h1).1
 exact⟨by omega,by simpa using this⟩
theorem ZpF {d:Zj}{u:Int}{r:List Int} (h:Zb8 d u r):r.length=(ZnA d u).length:=by
 have nd1:r.Nodup:=h.rise.imp fun hp he=>by rw[he] at hp;omega
 have nd2:(ZnA d u).Nodup:=(Zo1 d u).imp fun hp he=>by omega
 exact((List.perm_ext_iff_of_nodup nd1 nd2).2 fun z=>by rw[h.mem,Zkr]).length_eq
theorem Zkg {d:Zj}{u:Int}{r:List Int} (h:Zb8 d u r):r.length≤d.futures.length:=by
 rw[ZpF h]
 unfold ZnA
 rw[Zmj]
 exact List.countP_le_length
theorem Zu5 (d:Zj) (he:d.edges.length≤1000) (u:Int) (step:Int×List Int→Option ((Int×List Int)⊕List Int))
  (hstep:∀t,step t=(bif (decide (t.1<(d.edges.length:Int))) then (ZE d.edges t.1).bind fun x2=>bif (x2.dst==u) then bif (Nat.ble (List.length t.2+1) lim) then some (.inl ((w64 (t.1+1)),(t.2++[x2.src]))) else none else some (.inl ((w64 (t.1+1)),t.2)) else some (.inr t.2))) :
  lp step (0,[])=some (sel (fun e:Zm=>e.dst==u) (fun _ e=>e.src) 0 d.edges):=by
 have key:=Ztk d.edges he (fun e:Zm=>e.dst==u) (fun _ e=>e.src) step (fun i x s hi hx=>by
   rw[hstep]
   simp only[Zet hi,Zav hx,Option.bind_some,ZZ hi (show d.edges.length<9223372036854775808 by omega),cond_true]) (fun s=>by rw[hstep];simp only[Ze8,cond_false]) [] (by simp)
 rwa [List.nil_append] at key
theorem ZpP {γ:Type} (p:γ→Bool) (g:Nat→γ→Int) (l:List γ) (i:Nat):(sel p g i l).length≤l.length:=by rw[Zmj];exact List.countP_le_length
end Go.Proofs.YtnmbdjkbaihicaaDoor
namespace Go.Proofs.YtnmbdjkbaihicaaDoor
open Go Go.Proofs.YtnmbdjkbaihicaaDoorE Go.Sort
set_option linter.unusedVariables false
set_option linter.unusedSimpArgs false
theorem Zx1 (d:Zj) (h:Zga d) (he:d.edges.length≤1000) (hf:d.futures.length≤1000) (hc:ZfB d=0) (u:Int) {r:List Int} (hr:Zb8 d u r):Zfu d u=some (Zsb d u r):=by
 obtain⟨r',h1,h2⟩:=ZmG d h hf hc u
 have:=h2.eq hr
 subst this
 have k1:=Zu5 d he u (ZfK d u) (fun t=>rfl)
 have k2:=ZsH d r' (sel (fun e:Zm=>e.dst==u) (fun _ e=>e.src) 0 d.edges) (Nat.le_trans (Zkg h2) hf) (Nat.le_trans (ZpP _ _ _ _) (by omega)) (ZwQ h2) (ZfL d r') (fun t=>rfl)
 unfold Zfu Zsb
 rw[ZqF d h,hc]
 simp only[Option.bind_some,bne_self_eq_false,cond_false,k1,h1,k2]
end Go.Proofs.YtnmbdjkbaihicaaDoor
namespace Go.Proofs.YtnmbdjkbaihicaaDoor
open Go Go.Proofs.YtnmbdjkbaihicaaDoorE
set_option linter.unusedVariables false
set_option linter.unusedSimpArgs false
structure ZcS (d:Zj):Prop where
 g:ZlC d
 ins:∀b∈d.barriers,∀q∈b.ins,0≤q∧q.toNat<d.parts.length
 outs:∀b∈d.barriers,∀q∈b.outs,0≤q∧q.toNat<d.parts.length
 disj:∀b∈d.barriers,∀q∈b.ins,q∉b.outs
 pl:d.parts.length≤16
 el:d.edges.length≤48
 fl:d.futures.length≤16
 bl:d.barriers.length≤4
 p1:1≤d.parts.length
 arg:∀p∈d.parts,0≤p.arg∧p.arg≤2147483647
theorem Zvo {n:Nat}{l:List Int} (h:Zk9 n l=true):∀q∈l,0≤q∧q.toNat<n:=by
 intro q hq
 unfold Zk9 at h
 simp only[Bool.and_eq_true,Bool.not_eq_true'] at h
 obtain⟨i,hi⟩:=List.getElem?_of_mem hq
 have:ZpV n l i q=false:=by
  cases hb:ZpV n l i q with
  | false=>rfl
  | true=>rw[(Zj2 _ _ 0).2 ⟨i,q,hi,by simpa using hb⟩] at h;exact absurd h.1 (by simp)
 unfold ZpV Zc0 at this
 simp only[Bool.or_eq_false_iff,Bool.not_eq_false',Bool.and_eq_true,decide_eq_true_eq] at this
 omega
theorem ZgS {d:Zj} (h:ZfB d=0):ZcS d:=by
 have g:=ZqR h
 unfold ZfB at h
 have all:Zlm d=true∧d.barriers.any (Zfe d.parts.length)=false∧d.parts.any ZfM=false:=by
  revert h
  cases Zlm d<;>cases Zph d<;>cases d.parts.any ZfM<;>cases ZgC (Zgd d) 0 d.edges<;>cases ZgC (Zd1 d) 0 d.futures<;>cases d.barriers.any (Zfe d.parts.length)<;>simp
 have hb:∀b∈d.barriers,Zk9 d.parts.length b.ins=true∧Zk9 d.parts.length b.outs=true∧b.ins.any (Zpi b)=false:=fun b hb=>by
  have:=List.any_eq_false.1 all.2.1 b hb
  simp only[Zfe,Bool.or_eq_true,Bool.not_eq_true',not_or,Bool.not_eq_false,Bool.not_eq_true] at this
  exact this
 have m:=all.1
 unfold Zlm Zc0 at m
 simp only[Bool.and_eq_true,decide_eq_true_eq,Bool.not_eq_true',decide_eq_false_iff_not] at m
 refine⟨g,fun b h1=>Zvo (hb b h1).1,fun b h1=>Zvo (hb b h1).2.1,fun b h1 q h2 h3=>?_,by omega,by omega,by omega,by omega,by omega,fun p hp=>?_⟩
 case refine_2=>
  have:=List.any_eq_false.1 all.2.2 p hp
  simp only[ZfM,Zc0,Bool.not_eq_true,Bool.not_eq_false',Bool.and_eq_true,decide_eq_true_eq] at this
  exact this.2.1
 have:=List.any_eq_false.1 (hb b h1).2.2 q h2
 unfold Zpi at this
 exact this (List.any_eq_true.2 ⟨q,h3,by simp⟩)
def inR (d:Zj) (p:Int):Prop:=0≤p∧p.toNat<d.parts.length
theorem ZcS.src {d:Zj} (g:ZcS d) {e:Zm} (h:e∈d.edges):inR d e.src:=(Zlx (g.g.e e h)).1
theorem ZcS.dst {d:Zj} (g:ZcS d) {e:Zm} (h:e∈d.edges):inR d e.dst:=(Zlx (g.g.e e h)).2.1
theorem ZcS.maker {d:Zj} (g:ZcS d) {f:Zi} (h:f∈d.futures):inR d f.maker:=(Zlx (g.g.f f h).1).1
theorem ZcS.user {d:Zj} (g:ZcS d) {f:Zi} (h:f∈d.futures):inR d f.user:=(Zlx (g.g.f f h).1).2.1
theorem ZcS.short {d:Zj} (g:ZcS d) (hs:∀b∈d.barriers,ZyK b):Zga d:=⟨by have:=g.pl;omega,by have:=g.el;omega,by have:=g.fl;omega,by have:=g.bl;omega,hs⟩
end Go.Proofs.YtnmbdjkbaihicaaDoor
namespace Go.Proofs.YtnmbdjkbaihicaaDoor
open Go Go.Proofs.YtnmbdjkbaihicaaDoorE
set_option linter.unusedVariables false
set_option linter.unusedSimpArgs false
def pick (p:Nat→Bool) (n:Nat):List Int:=((List.range n).filter p).map fun i:Nat=>(i:Int)
theorem ZsA {p:Nat→Bool}{n:Nat}{z:Int}:z∈pick p n↔∃i:Nat,i<n∧p i=true∧z=(i:Int):=by
 unfold pick
 simp only[List.mem_map,List.mem_filter,List.mem_range]
 constructor
 ·rintro ⟨i,⟨h1,h2⟩,rfl⟩;exact⟨i,h1,h2,rfl⟩
 ·rintro ⟨i,h1,h2,rfl⟩;exact⟨i,⟨h1,h2⟩,rfl⟩
theorem ZiC (p:Nat→Bool) (n:Nat):(pick p n).length≤n:=by
 unfold pick
 rw[List.length_map]
 exact Nat.le_trans (List.length_filter_le _ _) (by simp)
theorem ZuV (p:Nat→Bool) (n:Nat):pick p (n+1)=pick p n++(bif p n then [(n:Int)] else []):=by
 unfold pick
 rw[List.range_succ,List.filter_append,List.map_append]
 cases h:p n<;>simp[h]
theorem ZyE {γ:Type} (l:List γ) (hl:l.length≤1000) (p:Nat→Bool) (step:Int×List Int→Option ((Int×List Int)⊕List Int))
  (h1:∀i (s:List Int),i<l.length→step ((i:Int),s)=bif p i then (bif Nat.ble (s.length+1) lim then some (.inl (((i+1:Nat):Int),s++[(i:Int)])) else none) else some (.inl (((i+1:Nat):Int),s)))
  (h2:∀s,step ((l.length:Int),s)=some (.inr s)):lp step (0,[])=some (pick p l.length):=by
 have key:∀k i:Nat,i+k=l.length→lp step ((i:Int),pick p i)=some (pick p l.length):=by
  intro k
  induction k with
  | zero=>
   intro i hi
   have:i=l.length:=by omega
   subst this
   rw[Za1,h2]
  | succ k ih=>
   intro i hi
   have ih':=ih (i+1) (by omega)
   rw[ZuV] at ih'
   have hb:=ZiC p i
   rw[Za1,h1 i _ (by omega)]
   cases hp:p i with
   | true=>
    rw[hp] at ih'
    rw[Zfx (show(pick p i).length+1≤1073741824 by omega)]
    exact ih'
   | false=>
    rw[hp] at ih'
    simp only[cond_false,List.append_nil] at ih' ⊢
    exact ih'
 exact key l.length 0 (by omega)
noncomputable def ZfW (d:Zj) (u:Int):List Int:=@dite _ (∃r,Zb8 d u r) (Classical.propDecidable _) (fun h=>Classical.choose h) fun _=>[]
theorem Zq4 {d:Zj}{u:Int}{r:List Int} (h:Zb8 d u r):ZfW d u=r:=by
 unfold ZfW
 rw[dif_pos ⟨r,h⟩]
 exact(Classical.choose_spec (⟨r,h⟩:∃r,Zb8 d u r)).eq h
noncomputable def Ze7 (d:Zj) (u:Int):List Int:=Zsb d u (ZfW d u)
theorem Zm5 (d:Zj) (h:Zga d) (hc:ZfB d=0) (u:Int):Zfu d u=some (Ze7 d u)∧Zb8 d u (ZfW d u):=by
 have g:=ZgS hc
 obtain⟨r,h1,h2⟩:=ZmG d h (by have:=g.fl;omega) hc u
 have:=Zx1 d h (by have:=g.el;omega) (by have:=g.fl;omega) hc u h2
 unfold Ze7
 rw[Zq4 h2]
 exact⟨this,h2⟩
theorem Znh {d:Zj} (g:ZcS d) {u:Int} (ht:Zb8 d u (ZfW d u)) {q:Int} (hq:q∈Ze7 d u):(∃e∈d.edges,e.dst=u∧q=e.src)∨(∃f∈d.futures,f.user=u∧q=f.maker):=by
 unfold Ze7 Zsb at hq
 rcases List.mem_append.1 hq with h | h
 ·obtain⟨j,x,h1,h2,h3⟩:=(ZnI _ _ _ _ _).1 h
  exact .inl ⟨x,List.mem_of_getElem? h1,by simpa using h2,h3⟩
 ·obtain⟨z,h1,rfl⟩:=List.mem_map.1 h
  obtain⟨i,f,h2,h3,rfl⟩:=(ht.mem z).1 h1
  refine .inr ⟨f,List.mem_of_getElem? h2,h3,?_⟩
  unfold Zji
  rw[Int.toNat_natCast,h2]
theorem Zjt {d:Zj} (g:ZcS d) {u:Int} (ht:Zb8 d u (ZfW d u)) {q:Int} (hq:q∈Ze7 d u):inR d q:=by
 rcases Znh g ht hq with⟨e,h1,_,rfl⟩ | ⟨f,h1,_,rfl⟩
 ·exact g.src h1
 ·exact g.maker h1
theorem Zsw {d:Zj} (g:ZcS d) {u:Int} (ht:Zb8 d u (ZfW d u)):(Ze7 d u).length≤1000:=by
 unfold Ze7 Zsb
 rw[List.length_append,List.length_map]
 have h1:=ZpP (fun e:Zm=>e.dst==u) (fun _ e=>e.src) d.edges 0
 have h2:=Zkg ht
 have:=g.el;have:=g.fl
 omega
def Zo8 (d:Zj) (p:Int):ZV:=match d.parts[p.toNat]? with | some x=>x | none=>⟨0,0,0⟩
theorem Zyl {l:List Int} (h1:0<l.length) (h2:l.length≤1000):Zcc l=some ():=by
 unfold Zcc
 rw[show Nat.blt 0 l.length=true by simp[Nat.blt];omega,Zfx (show l.length≤1073741824 by omega)]
 rfl
theorem Zt6 {xs:List D} (h:Zgn [.sl false [.int .i64]] xs):∃l,ZoM false xs=ZtX true l∧ZyI l:=by
 obtain⟨_,_,rfl,h1,rfl⟩:=h
 obtain⟨l,rfl,h2⟩:=ZqG h1
 exact⟨l,rfl,h2⟩
end Go.Proofs.YtnmbdjkbaihicaaDoor
namespace Go.Proofs.YtnmbdjkbaihicaaDoor
open Go Go.Proofs.YtnmbdjkbaihicaaDoorE
set_option linter.unusedVariables false
set_option linter.unusedSimpArgs false
def ZjY (n:Nat) (x:Int):Bool:=decide (0≤x)&&decide (x<(n:Int))
end Go.Proofs.YtnmbdjkbaihicaaDoor
namespace Go.Proofs.YtnmbdjkbaihicaaDoor
open Go Go.Proofs.YtnmbdjkbaihicaaDoorE
set_option linter.unusedVariables false
set_option linter.unusedSimpArgs false
theorem ZvH {γ:Type} (p:γ→Bool):∀(l:List γ) (i:Nat),(sel p (fun i _=>(i:Int)) i l).Pairwise (fun x y=>x<y)∧∀z∈sel p (fun i _=>(i:Int)) i l,(i:Int)≤z:=by
 intro l
 induction l with
 | nil=>intro i;simp[sel]
 | cons x l ih=>
  intro i
  obtain⟨h1,h2⟩:=ih (i+1)
  unfold sel
  cases p x with
  | true=>
   simp only[cond_true,List.pairwise_cons,List.mem_cons]
   refine⟨⟨fun z hz=>?_,h1⟩,?_⟩
   ·have:=h2 z hz;omega
   ·rintro z (rfl | hz)
    ·exact Int.le_refl _
    ·have:=h2 z hz;omega
  | false=>
   simp only[cond_false]
   exact⟨h1,fun z hz=>by have:=h2 z hz;omega⟩
def Znj (d:Zj) (u:Int) (t:Int):List Int:=sel (fun f:Zi=>f.user==u&&f.pos==t) (fun i _=>(i:Int)) 0 d.futures
theorem ZmC (d:Zj) (u t z:Int):z∈Znj d u t↔∃(i:Nat) (f:Zi),d.futures[i]? = some f∧f.user=u∧f.pos=t∧z=(i:Int):=by
 unfold Znj
 rw[ZnI]
 simp[and_assoc]
theorem ZkE {d:Zj}{u t z:Int} (h:z∈Znj d u t):ZeI d.futures z=t:=by
 obtain⟨i,f,h1,_,h3,rfl⟩:=(ZmC d u t z).1 h
 unfold ZeI
 rw[Int.toNat_natCast,h1,← h3]
theorem ZoL {d:Zj}{u t z:Int} (h:z∈Znj d u t):∃(i:Nat) (f:Zi),d.futures[i]? = some f∧f.user=u∧z=(i:Int):=by
 obtain⟨i,f,h1,h2,_,h4⟩:=(ZmC d u t z).1 h
 exact⟨i,f,h1,h2,h4⟩
def tl (d:Zj) (u:Int):Nat→Nat→List Int
 | _,0=>[]
 | i,k+1=>Znj d u ((i+1:Nat):Int)++tl d u (i+1) k
theorem Zs0 (d:Zj) (u z:Int):∀(k i:Nat),z∈tl d u i k↔∃t:Nat,i<t∧t≤i+k∧z∈Znj d u (t:Int)
 | 0,i=>by
  unfold tl
  constructor
  ·intro h;cases h
  ·rintro ⟨t,h1,h2,_⟩;omega
 | k+1,i=>by
  unfold tl
  rw[List.mem_append,Zs0 d u z k (i+1)]
  constructor
  ·rintro (h | ⟨t,h1,h2,h3⟩)
   ·exact⟨i+1,by omega,by omega,h⟩
   ·exact⟨t,by omega,by omega,h3⟩
  ·rintro ⟨t,h1,h2,h3⟩
   by_cases h:t=i+1
   ·subst h;exact .inl h3
   ·exact .inr ⟨t,by omega,by omega,h3⟩
theorem Zur {d:Zj} (g:ZlC d) (u:Int):∀(k i:Nat),(tl d u i k).Pairwise (fun x y=>ZeI d.futures x<ZeI d.futures y)
 | 0,i=>List.Pairwise.nil
 | k+1,i=>by
  unfold tl
  rw[List.pairwise_append]
  refine⟨?_,Zur g u k (i+1),fun x hx y hy=>?_⟩
  ·refine ZrA (ZvH _ _ _).1 fun x y hx hy hlt=>?_
   have hx':x∈Znj d u ((i+1:Nat):Int):=hx
   have hy':y∈Znj d u ((i+1:Nat):Int):=hy
   exact absurd ((ZkE hx').trans (ZkE hy').symm) (Zxd g (ZoL hx') (ZoL hy') (by omega))
  ·obtain⟨t,h1,h2,h3⟩:=(Zs0 d u y k (i+1)).1 hy
   rw[ZkE hx,ZkE h3]
   omega
theorem Ztn {d:Zj} (g:ZlC d) (u:Int):Zb8 d u (tl d u 0 99):=by
 refine⟨fun z=>?_,Zur g u 99 0⟩
 rw[Zs0]
 constructor
 ·rintro ⟨t,_,_,h⟩;exact ZoL h
 ·rintro ⟨i,f,h1,h2,h3⟩
  have hf:=g.f f (List.mem_of_getElem? h1)
  have hw:=ZkG g f.user
  refine⟨f.pos.toNat,by omega,by omega,?_⟩
  rw[ZmC]
  exact⟨i,f,h1,h2,by omega,h3⟩
end Go.Proofs.YtnmbdjkbaihicaaDoor
namespace Go.Proofs.YtnmbdjkbaihicaaDoor
open Go Go.Proofs.YtnmbdjkbaihicaaDoorE
set_option linter.unusedVariables false
set_option linter.unusedSimpArgs false
def Znn {γ S:Type} (f:Nat→S→γ→S):Nat→S→List γ→S
 | _,s,[]=>s
 | i,s,x :: l=>Znn f (i+1) (f i s x) l
theorem ZvS {γ S T R:Type} (l:List γ) (step:T→Option (T⊕R)) (st:Nat→S→T) (f:Nat→S→γ→S) (fin:S→R) (I:Nat→S→Prop)
  (h1:∀i x s,i<l.length→l[i]? = some x→I i s→step (st i s)=some (.inl (st (i+1) (f i s x)))∧I (i+1) (f i s x))
  (h2:∀s,I l.length s→step (st l.length s)=some (.inr (fin s))) (s:S) (h0:I 0 s) :
  lp step (st 0 s)=some (fin (Znn f 0 s l))∧I l.length (Znn f 0 s l):=by
 have key:∀(k i:Nat) (s:S),i+k=l.length→I i s→lp step (st i s)=some (fin (Znn f i s (l.drop i)))∧I l.length (Znn f i s (l.drop i)):=by
  intro k
  induction k with
  | zero=>
   intro i s hi hI
   have:i=l.length:=by omega
   subst this
   rw[List.drop_length,Za1,h2 s hI]
   exact⟨rfl,hI⟩
  | succ k ih=>
   intro i s hi hI
   have hi':i<l.length:=by omega
   obtain⟨e,hI'⟩:=h1 i l[i] s hi' (List.getElem?_eq_getElem hi') hI
   rw[List.drop_eq_getElem_cons hi',Za1,e]
   exact ih (i+1) _ (by omega) hI'
 have:=key l.length 0 s (by omega) h0
 rwa [List.drop_zero] at this
def Zhm (w:Int):Bool:=decide (w<0) || decide (1000<w)
def Znw (g:Zb1) (i:Nat) (e:Zm):Bool:=!(ZjY g.work.length e.src) || (!(ZjY g.work.length e.dst) || ((e.src==e.dst) || (g.edges.take i).any (Zoa e)))
def Zko (g:Zb1):Int:=bif decide (64<(g.work.length:Int)) || decide (256<(g.edges.length:Int)) then 40 else bif g.work.any Zhm then 41 else bif ZgC (Znw g) 0 g.edges then 42 else 0
structure Zrb (g:Zb1):Prop where
 w:g.work.length<9223372036854775808
 e:g.edges.length<9223372036854775808
theorem Zvx (w:Int):ZcU w=some (Zhm w):=by
 unfold ZcU Zhm
 cases decide (w<0)<;>cases decide (1000<w)<;>rfl
theorem Zw2 (a:Int) (l:List Int):ZeY a l=some (ZjY l.length a):=by
 unfold ZeY ZjY
 cases decide (0≤a)<;>cases decide (a<(l.length:Int))<;>rfl
theorem ZsI (g:Zb1) (h:Zrb g):lp (ZdU g) 0=some (bif ZgC (Znw g) 0 g.edges then .inl () else .inr ()):=by
 have key:=ZgG g.edges (ZdU g) (Znw g) (fun _ _=>.inl ()) (.inr ()) (fun i x hi hx=>by
   have e0:decide ((0:Int)≤(i:Int))=true:=decide_eq_true (by omega)
   have e1:Nat.ble i g.edges.length=true:=Nat.ble_eq_true_of_le (by omega)
   simp only[ZdU,Zet hi,Zav hx,Option.bind_some,ZZ hi h.e,cond_true,Zw2,Znw,e0,Int.toNat_natCast,e1,Zqs _ x (Zlr h.e)]
   cases ZjY g.work.length x.src<;>cases ZjY g.work.length x.dst<;>cases (x.src==x.dst)<;>cases (g.edges.take i).any (Zoa x)<;>rfl) (by simp only[ZdU,Ze8];rfl)
 rw[key,ZeN]
inductive Way (g:Zb1):Int→Int→Prop
 | one {e:Zm}:e∈g.edges→Way g e.src e.dst
 | more {a:Int} {e:Zm}:Way g a e.src→e∈g.edges→Way g a e.dst
theorem Way.trans {g:Zb1}{a b c:Int} (h1:Way g a b) (h2:Way g b c):Way g a c:=by
 induction h2 with
 | one he=>exact Way.more h1 he
 | more _ he ih=>exact Way.more (ih h1) he
def Zn5 (g:Zb1):Prop:=∀a,¬Way g a a
structure Zhc (g:Zb1):Prop where
 wl:g.work.length≤64
 el:g.edges.length≤256
 w:∀x∈g.work,0≤x∧x≤1000
 src:∀e∈g.edges,0≤e.src∧e.src.toNat<g.work.length
 dst:∀e∈g.edges,0≤e.dst∧e.dst.toNat<g.work.length
theorem Zhc.short {g:Zb1} (h:Zhc g):Zrb g:=⟨by have:=h.wl;omega,by have:=h.el;omega⟩
theorem Zp6 {n:Nat}{a:Int} (h:ZjY n a=true):0≤a∧a.toNat<n:=by
 unfold ZjY at h
 simp only[Bool.and_eq_true,decide_eq_true_eq] at h
 omega
theorem ZrH {g:Zb1} (h:Zko g=0):Zhc g:=by
 unfold Zko at h
 cases h1:decide (64<(g.work.length:Int)) with
 | true=>rw[h1] at h;simp at h
 | false=>
 cases h2:decide (256<(g.edges.length:Int)) with
 | true=>rw[h1,h2] at h;simp at h
 | false=>
 cases h3:g.work.any Zhm with
 | true=>rw[h1,h2,h3] at h;simp at h
 | false=>
 cases h4:ZgC (Znw g) 0 g.edges with
 | true=>rw[h1,h2,h3,h4] at h;simp at h
 | false=>
 have hE:∀e∈g.edges,∃i,Znw g i e=false:=fun e he=>by
  obtain⟨i,hi⟩:=List.getElem?_of_mem he
  refine⟨i,?_⟩
  cases hb:Znw g i e with
  | false=>rfl
  | true=>rw[(Zj2 _ _ 0).2 ⟨i,e,hi,by simpa using hb⟩] at h4;cases h4
 refine⟨by have:=of_decide_eq_false h1;omega,by have:=of_decide_eq_false h2;omega,fun x hx=>?_,fun e he=>?_,fun e he=>?_⟩
 ·have:=List.any_eq_false.1 h3 x hx
  unfold Zhm at this
  simp only[Bool.or_eq_true,decide_eq_true_eq,not_or] at this
  omega
 ·obtain⟨i,hi⟩:=hE e he
  unfold Znw at hi
  simp only[Bool.or_eq_false_iff,Bool.not_eq_false'] at hi
  exact Zp6 hi.1
 ·obtain⟨i,hi⟩:=hE e he
  unfold Znw at hi
  simp only[Bool.or_eq_false_iff,Bool.not_eq_false'] at hi
  exact Zp6 hi.2.1
theorem Way.src_in {g:Zb1} (h:Zhc g) {a b:Int} (w:Way g a b):0≤a∧a.toNat<g.work.length:=by
 induction w with
 | one he=>exact h.src _ he
 | more _ _ ih=>exact ih
theorem Zr0 {g:Zb1} (hg:Zn5 g):∀(n:Nat) (S:List Int),S.length≤n→S≠[]→∃m∈S,∀e∈g.edges,e.dst=m→e.src∉S:=by
 intro n
 induction n with
 | zero=>intro S h1 h2;exact absurd (List.length_eq_zero_iff.1 (by omega)) h2
 | succ n ih=>
  intro S h1 h2
  obtain⟨m,hm⟩:=List.exists_mem_of_ne_nil S h2
  classical
  by_cases hS:(S.filter fun x=>decide (Way g x m))=[]
  ·refine⟨m,hm,fun e he hd hs=>?_⟩
   have:e.src∈S.filter fun x=>decide (Way g x m):=List.mem_filter.2 ⟨hs,decide_eq_true (hd ▸ Way.one he)⟩
   rw[hS] at this
   cases this
  ·have hlt:(S.filter fun x=>decide (Way g x m)).length<S.length:=by
    refine Nat.lt_of_le_of_ne (List.length_filter_le _ _) fun he=>?_
    have:=List.length_filter_eq_length_iff.1 he m hm
    exact hg m (of_decide_eq_true this)
   obtain⟨k,hk,hk2⟩:=ih _ (by omega) hS
   obtain⟨k1,k2⟩:=List.mem_filter.1 hk
   refine⟨k,k1,fun e he hd hs=>hk2 e he hd (List.mem_filter.2 ⟨hs,decide_eq_true ?_⟩)⟩
   exact(hd ▸ Way.one he:Way g e.src k).trans (of_decide_eq_true k2)
def bAt (l:List Bool) (z:Int):Bool:=match l[z.toNat]? with | some b=>b | none=>false
def Zgl (g:Zb1) (done:List Bool) (i:Nat):Bool:=!(bAt done (i:Int)) && !(g.edges.any fun e=>(e.dst==(i:Int)) && !(bAt done e.src))
def Znb (g:Zb1) (done:List Bool):Option Nat:=Zhu (fun i _=>Zgl g done i) (fun i _=>some i) none 0 g.work
def Zmy (g:Zb1):Nat→List Int→List Bool→Option (List Int)
 | 0,out,_=>some out
 | k+1,out,done=>(match Znb g done with | some i=>Zmy g k (out++[(i:Int)]) (done.set i true) | none=>none)
theorem ZrX {γ R S:Type} (p:Nat→γ→Bool) (out:Nat→γ→R) (fin:R) (F:R→S):∀(l:List γ) (i:Nat),F (Zhu p out fin i l)=Zhu p (fun i x=>F (out i x)) (F fin) i l
 | [],i=>rfl
 | x :: l,i=>by
  unfold Zhu
  cases p i x with
  | true=>rfl
  | false=>exact ZrX p out fin F l (i+1)
theorem Zqq {γ:Type} (p:Nat→γ→Bool):∀(l:List γ) (i k:Nat),Zhu p (fun i _=>some i) none i l=some k→i≤k∧k<i+l.length∧∃x,l[k-i]? = some x∧p k x=true
 | [],i,k,h=>by cases h
 | x :: l,i,k,h=>by
  unfold Zhu at h
  cases hp:p i x with
  | true=>
   rw[hp] at h
   cases h
   exact⟨Nat.le_refl _,by simp,x,by simp,hp⟩
  | false=>
   rw[hp] at h
   obtain⟨h1,h2,y,h3,h4⟩:=Zqq p l (i+1) k h
   refine⟨by omega,by simp only[List.length_cons];omega,y,?_,h4⟩
   rw[show k-i=(k-(i+1))+1 by omega]
   exact h3
theorem ZpS {γ:Type} (p:Nat→γ→Bool):∀(l:List γ) (i:Nat),Zhu p (fun i _=>some i) none i l=none→∀(j:Nat) x,l[j]? = some x→p (i+j) x=false
 | [],i,h,j,x,hx=>by cases hx
 | y :: l,i,h,j,x,hx=>by
  unfold Zhu at h
  cases hp:p i y with
  | true=>rw[hp] at h;cases h
  | false=>
   rw[hp] at h
   cases j with
   | zero=>cases hx;exact hp
   | succ j=>
    have:=ZpS p l (i+1) h j x hx
    rwa [show i+1+j=i+(j+1) by omega] at this
theorem Zh7 {g:Zb1}{done:List Bool} (hd:done.length=g.work.length) {z:Int} (h:0≤z∧z.toNat<g.work.length):ZE done z=some (bAt done z):=by
 have e:=List.getElem?_eq_getElem (show z.toNat<done.length by rw[hd];exact h.2)
 rw[Zm4 h.1 e]
 unfold bAt
 rw[e]
theorem ZzY {g:Zb1} (h:Zhc g) (out:List Int) (ho:out.length<g.work.length) (done:List Bool) (hd:done.length=g.work.length) :
  lp (ZdG g (out,done)) 0=some (match Znb g done with | some i=>.inl (out++[(i:Int)],done.set i true) | none=>.inr ()):=by
 have key:=ZgG g.work (ZdG g (out,done)) (fun i _=>Zgl g done i) (fun i _=>.inl (out++[(i:Int)],done.set i true)) (.inr ()) (fun i x hi hx=>by
   have inner:=ZgG g.edges (ZeB g (out,done) (i:Int)) (fun _ e=>(e.dst==(i:Int)) && !(bAt done e.src)) (fun _ _=>.inl ()) (.inr ()) (fun k e hk he=>by
     simp only[ZeB,Zet hk,Zav he,Option.bind_some,ZZ hk h.short.e,cond_true,Zh7 hd (h.src e (List.mem_of_getElem? he))]
     cases (e.dst==(i:Int))<;>cases bAt done e.src<;>rfl) (by simp only[ZeB,Ze8];rfl)
   rw[ZeN,ZjW] at inner
   have hl:=h.wl
   simp only[ZdG,Zet hi,Zh7 hd (z:=(i:Int)) ⟨by omega,by simpa using hi⟩,Option.bind_some,ZZ hi h.short.w,cond_true,inner,Zfx (show out.length+1≤1073741824 by omega),Int.toNat_natCast,Zgl]
   cases bAt done (i:Int)<;>cases g.edges.any (fun e=>(e.dst==(i:Int)) && !(bAt done e.src))<;>rfl) (by simp only[ZdG,Ze8];rfl)
 rw[key]
 unfold Znb
 exact congrArg some (ZrX (fun i _=>Zgl g done i) (fun i _=>some i) none (fun o:Option Nat=>(match o with | some i=>(.inl (out++[(i:Int)],done.set i true):(List Int×List Bool)⊕Unit) | none=>.inr ())) g.work 0).symm
theorem Zuq {g:Zb1} (h:Zhc g):∀(k:Nat) (out:List Int) (done:List Bool),out.length+k=g.work.length→done.length=g.work.length →
  ∃r,lp (ZeF g) (out,done)=some r∧(match Zmy g k out done with | some l=>r = .inr l | none=>∃l,r = .inl l)
 | 0,out,done,h1,h2=>by
  rw[Za1]
  simp only[ZeF,show out.length=g.work.length by omega,Ze8,cond_false]
  exact⟨_,rfl,rfl⟩
 | k+1,out,done,h1,h2=>by
  rw[Za1]
  simp only[ZeF,Zet (show out.length<g.work.length by omega),cond_true,ZzY h out (by omega) done h2,Option.bind_some]
  unfold Zmy
  cases Znb g done with
  | none=>exact⟨_,rfl,_,rfl⟩
  | some i=>exact Zuq h k (out++[(i:Int)]) (done.set i true) (by rw[List.length_append];simp only[List.length_cons,List.length_nil];omega) (by rw[List.length_set];exact h2)
theorem Zul {g:Zb1} (h:Zhc g):ZeG g=some (match Zmy g g.work.length [] (List.replicate g.work.length false) with | some l=>(l,true) | none=>([],false)):=by
 obtain⟨r,e,hr⟩:=Zuq h g.work.length [] (List.replicate g.work.length false) (by simp) (by simp)
 have hl:=h.wl
 unfold ZeG
 rw[decide_eq_true (show(0:Int)≤(g.work.length:Int) by omega),decide_eq_true (show(g.work.length:Int)≤lim by show(g.work.length:Int)≤1073741824;omega),beq_self_eq_true]
 simp only[decide_true,Bool.and_true,cond_true,Int.toNat_natCast,e,Option.bind_some]
 cases ho:Zmy g g.work.length [] (List.replicate g.work.length false) with
 | some l=>rw[ho] at hr;simp only at hr;subst hr;rfl
 | none=>rw[ho] at hr;obtain⟨l,rfl⟩:=hr;rfl
structure Zfq (g:Zb1) (out:List Int) (done:List Bool):Prop where
 dl:done.length=g.work.length
 mem:∀i:Nat,bAt done (i:Int)=true↔(i:Int)∈out
 inn:∀z∈out,0≤z∧z.toNat<g.work.length
 nod:out.Nodup
 topo:∀(i:Nat) (n:Int),out[i]? = some n→∀e∈g.edges,e.dst=n→∃j,j<i∧out[j]? = some e.src
theorem Zrc {done:List Bool}{i:Nat} (hi:i<done.length) (z:Int) (hz:0≤z):bAt (done.set i true) z=(decide (z=(i:Int)) || bAt done z):=by
 unfold bAt
 rw[List.getElem?_set]
 by_cases h:i=z.toNat
 ·subst h
  rw[if_pos rfl,if_pos hi,decide_eq_true (show z=((z.toNat:Nat):Int) by omega)];rfl
 ·rw[if_neg h,decide_eq_false (show ¬z=(i:Int) by omega)];rfl
theorem Zfq.start (g:Zb1):Zfq g [] (List.replicate g.work.length false):=by
 refine⟨by simp,fun i=>?_,by simp,by simp,by simp⟩
 unfold bAt
 rw[List.getElem?_replicate]
 by_cases h:((i:Int)).toNat<g.work.length
 ·rw[if_pos h];simp
 ·rw[if_neg h];simp
theorem Zfq.next {g:Zb1} (h:Zhc g) {out:List Int}{done:List Bool} (o:Zfq g out done) {i:Nat} (hn:Znb g done=some i):Zfq g (out++[(i:Int)]) (done.set i true):=by
 obtain⟨_,hi,x,_,hp⟩:=Zqq _ _ _ _ hn
 rw[Nat.zero_add] at hi
 unfold Zgl at hp
 simp only[Bool.and_eq_true,Bool.not_eq_true',List.any_eq_false,Bool.not_eq_true] at hp
 have hid:i<done.length:=by rw[o.dl];exact hi
 have hnot:(i:Int)∉out:=fun hm=>by have:=(o.mem i).2 hm;rw[hp.1] at this;cases this
 refine⟨by rw[List.length_set];exact o.dl,fun j=>?_,fun z hz=>?_,?_,fun k n hk e he hd=>?_⟩
 ·rw[Zrc hid (j:Int) (by omega),Bool.or_eq_true,decide_eq_true_eq,o.mem,List.mem_append,List.mem_singleton]
  exact Or.comm
 ·rcases List.mem_append.1 hz with hz | hz
  ·exact o.inn z hz
  ·rw[List.mem_singleton] at hz;subst hz;exact⟨by omega,by simpa using hi⟩
 ·rw[List.nodup_append]
  refine⟨o.nod,by simp,fun a ha b hb=>?_⟩
  rw[List.mem_singleton] at hb
  subst hb
  exact fun hab=>hnot (hab ▸ ha)
 ·rcases Nat.lt_or_ge k out.length with hk2 | hk2
  ·rw[List.getElem?_append_left hk2] at hk
   obtain⟨j,h1,h2⟩:=o.topo k n hk e he hd
   exact⟨j,h1,by rw[List.getElem?_append_left (by omega)];exact h2⟩
  ·rw[List.getElem?_append_right hk2] at hk
   have hk0:k-out.length=0:=by
    rcases Nat.eq_zero_or_pos (k-out.length) with h0 | h0
    ·exact h0
    ·rw[List.getElem?_eq_none (by simp only[List.length_cons,List.length_nil];omega)] at hk;cases hk
   rw[hk0] at hk
   simp only[List.getElem?_cons_zero,Option.some.injEq] at hk
   subst hk
   have hs:=hp.2 e he
   rw[hd] at hs
   have hs:bAt done e.src=true:=by simpa using hs
   have hsr:=h.src e he
   have:=(o.mem e.src.toNat).1 (by rw[show((e.src.toNat:Nat):Int)=e.src by omega];exact hs)
   rw[show((e.src.toNat:Nat):Int)=e.src by omega] at this
   obtain⟨j,hj⟩:=List.getElem?_of_mem this
   have hjl:=(List.getElem?_eq_some_iff.1 hj).1
   exact⟨j,by omega,by rw[List.getElem?_append_left hjl];exact hj⟩
theorem Zfq.way {g:Zb1}{out:List Int}{done:List Bool} (o:Zfq g out done) {a b:Int} (w:Way g a b):∀j:Nat,out[j]? = some b→∃i,i<j∧out[i]? = some a:=by
 induction w with
 | one he=>intro j hj;exact o.topo j _ hj _ he rfl
 | more _ he ih=>
  intro j hj
  obtain⟨i,h1,h2⟩:=o.topo j _ hj _ he rfl
  obtain⟨k,h3,h4⟩:=ih i h2
  exact⟨k,by omega,h4⟩
theorem Zqm {l:List Int} (h:l.Nodup) {i j:Nat}{a:Int} (h1:l[i]? = some a) (h2:l[j]? = some a):i=j:=by
 obtain⟨a1,a2⟩:=List.getElem?_eq_some_iff.1 h1
 obtain⟨b1,b2⟩:=List.getElem?_eq_some_iff.1 h2
 exact(List.getElem_inj h).1 (a2.trans b2.symm)
def Zrg (n:Nat) (done:List Bool):List Int:=((List.range n).filter fun i:Nat=>!bAt done (i:Int)).map fun i:Nat=>(i:Int)
theorem Zjp {n:Nat}{done:List Bool}{i:Nat} (h1:i<n) (h2:bAt done (i:Int)=false):(i:Int)∈Zrg n done:=
 List.mem_map.2 ⟨i,List.mem_filter.2 ⟨List.mem_range.2 h1,by rw[h2];rfl⟩,rfl⟩
theorem Zvj {g:Zb1} (h:Zhc g) (hg:Zn5 g) {out:List Int}{done:List Bool} (o:Zfq g out done) (i0:Nat) (hi0:i0<g.work.length) (hb:bAt done (i0:Int)=false):∃i,Znb g done=some i:=by
 cases hn:Znb g done with
 | some i=>exact⟨i,rfl⟩
 | none=>
  exfalso
  have hall:=ZpS _ _ _ hn
  obtain⟨m,hm,hm2⟩:=Zr0 hg _ (Zrg g.work.length done) (Nat.le_refl _) (by
   intro he
   have:=Zjp hi0 hb
   rw[he] at this;cases this)
  obtain⟨k,hk,rfl⟩:=List.mem_map.1 hm
  obtain⟨hk1,hk2⟩:=List.mem_filter.1 hk
  rw[List.mem_range] at hk1
  have hr:=hall k g.work[k] (List.getElem?_eq_getElem hk1)
  rw[Nat.zero_add] at hr
  unfold Zgl at hr
  rw[hk2,Bool.true_and,Bool.not_eq_false',List.any_eq_true] at hr
  obtain⟨e,he,he2⟩:=hr
  simp only[Bool.and_eq_true,beq_iff_eq] at he2
  have hsr:=h.src e he
  refine hm2 e he he2.1 ?_
  have es:((e.src.toNat:Nat):Int)=e.src:=by omega
  rw[← es]
  exact Zjp hsr.2 (by rw[es];simpa using he2.2)
theorem Zxr {n:Nat}{out:List Int} (h1:out.Nodup) (h2:∀z∈out,0≤z∧z.toNat<n):(out.length≤n)∧(out.length=n→∀i:Nat,i<n→(i:Int)∈out):=by
 induction n generalizing out with
 | zero=>
  refine⟨?_,fun _ i hi=>absurd hi (by omega)⟩
  cases out with
  | nil=>simp
  | cons z l=>have:=h2 z (by simp);omega
 | succ n ih=>
  by_cases hm:(n:Int)∈out
  ·have e1:(out.erase (n:Int)).length=out.length-1:=List.length_erase_of_mem hm
   have pos:0<out.length:=List.length_pos_of_mem hm
   obtain⟨a,b⟩:=ih (out:=out.erase (n:Int)) (h1.erase _) (fun z hz=>by
    have hz2:=(List.Nodup.mem_erase_iff h1).1 hz
    have:=h2 z hz2.2
    have:=hz2.1
    omega)
   refine⟨by omega,fun hl i hi=>?_⟩
   by_cases hin:i=n
   ·subst hin;exact hm
   ·exact List.mem_of_mem_erase (b (by omega) i (by omega))
  ·obtain⟨a,b⟩:=ih (out:=out) h1 (fun z hz=>by
    have:=h2 z hz
    have:z≠(n:Int):=fun he=>hm (he ▸ hz)
    omega)
   exact⟨by omega,fun hl=>by omega⟩
theorem Zxp:∀(n:Nat) (out:List Int),(∀i:Nat,i<n→(i:Int)∈out)→n≤out.length
 | 0,out,h=>by omega
 | n+1,out,h=>by
  have hm:=h n (by omega)
  have e1:(out.erase (n:Int)).length=out.length-1:=List.length_erase_of_mem hm
  have pos:0<out.length:=List.length_pos_of_mem hm
  have:=Zxp n (out.erase (n:Int)) (fun i hi=>(List.mem_erase_of_ne (by omega)).2 (h i (by omega)))
  omega
theorem Zlg {g:Zb1} (h:Zhc g):∀(k:Nat) (out:List Int) (done:List Bool),Zfq g out done→out.length+k=g.work.length→(∀l,Zmy g k out done=some l→∃done',Zfq g l done'∧l.length=g.work.length)∧(Zn5 g→∃l,Zmy g k out done=some l)
 | 0,out,done,o,hl=>⟨fun l h=>by cases h;exact⟨done,o,by omega⟩,fun _=>⟨out,rfl⟩⟩
 | k+1,out,done,o,hl=>by
  unfold Zmy
  cases hn:Znb g done with
  | none=>
   refine⟨fun l h=>(by cases h),fun hg=>?_⟩
   exfalso
   have hex:∃i0,i0<g.work.length∧(i0:Int)∉out:=by
    apply Classical.byContradiction
    intro hc
    have hc2:∀i0,i0<g.work.length→(i0:Int)∈out:=fun i0 hi=>Classical.byContradiction fun hx=>hc ⟨i0,hi,hx⟩
    have sub:=Zxp g.work.length out hc2
    omega
   obtain⟨i0,h1,h2⟩:=hex
   obtain⟨i,hi⟩:=Zvj h hg o i0 h1 (by
    cases hb:bAt done (i0:Int) with
    | false=>rfl
    | true=>exact absurd ((o.mem i0).1 hb) h2)
   rw[hn] at hi
   cases hi
  | some i=>
   exact Zlg h k _ _ (o.next h hn) (by rw[List.length_append];simp only[List.length_cons,List.length_nil];omega)
theorem ZxN {g:Zb1} (h:Zhc g) {l:List Int}{done:List Bool} (o:Zfq g l done) (hl:l.length=g.work.length):Zn5 g:=by
 intro a w
 have ha:=w.src_in h
 have hm:=(Zxr o.nod o.inn).2 hl a.toNat ha.2
 rw[show((a.toNat:Nat):Int)=a by omega] at hm
 obtain⟨j,hj⟩:=List.getElem?_of_mem hm
 obtain⟨i,h1,h2⟩:=o.way w j hj
 have:=Zqm o.nod h2 hj
 omega
structure Zx2 (g:Zb1) (l:List Int):Prop where
 len:l.length=g.work.length
 all:∀i:Nat,i<g.work.length→(i:Int)∈l
 inn:∀z∈l,0≤z∧z.toNat<g.work.length
 nod:l.Nodup
 topo:∀(i:Nat) (n:Int),l[i]? = some n→∀e∈g.edges,e.dst=n→∃j,j<i∧l[j]? = some e.src
theorem ZpJ {g:Zb1} (h:Zhc g) (hg:Zn5 g):∃l,ZeG g=some (l,true)∧Zx2 g l:=by
 obtain⟨k1,k2⟩:=Zlg h g.work.length [] _ (Zfq.start g) (by simp)
 obtain⟨l,hl⟩:=k2 hg
 obtain⟨done,o,hn⟩:=k1 l hl
 exact⟨l,by rw[Zul h,hl],hn,(Zxr o.nod o.inn).2 hn,o.inn,o.nod,o.topo⟩
theorem ZxC {g:Zb1} (h:Zhc g) (hg:¬Zn5 g):ZeG g=some ([],false):=by
 rw[Zul h]
 cases ho:Zmy g g.work.length [] (List.replicate g.work.length false) with
 | none=>rfl
 | some l=>
  obtain⟨done,o,hn⟩:=(Zlg h g.work.length [] _ (Zfq.start g) (by simp)).1 l ho
  exact absurd (ZxN h o hn) hg
noncomputable def ZvR (g:Zb1):Bool:=@decide (Zn5 g) (Classical.propDecidable _)
theorem Zx7 {g:Zb1} (h:Zn5 g):ZvR g=true:=@decide_eq_true _ (Classical.propDecidable _) h
theorem ZtK {g:Zb1} (h:¬Zn5 g):ZvR g=false:=@decide_eq_false _ (Classical.propDecidable _) h
noncomputable def Zir (g:Zb1):Int:=bif Zko g==0 then (bif ZvR g then 0 else 43) else Zko g
theorem Zey {g:Zb1} (h:Zir g=0):Zhc g∧Zn5 g:=by
 unfold Zir at h
 by_cases h0:Zko g=0
 ·rw[h0] at h
  refine⟨ZrH h0,Classical.byContradiction fun hn=>?_⟩
  rw[ZtK hn] at h
  simp at h
 ·rw[beq_false_of_ne h0] at h
  exact absurd h h0
theorem Zn6 (g:Zb1) (h:Zrb g):ZfX g=some (Zir g):=by
 have hw:=Zld g.work (fun z0=>ZcU z0) Zhm (fun x _=>Zvx x) h.w
 unfold ZfX Zir
 rw[hw,ZsI g h]
 by_cases h0:Zko g=0
 ·have hG:=ZrH h0
  rw[h0]
  unfold Zko at h0
  by_cases hg:Zn5 g
  ·obtain⟨l,e,_⟩:=ZpJ hG hg
   rw[e,Zx7 hg]
   revert h0
   cases decide (64<(g.work.length:Int))<;>cases decide (256<(g.edges.length:Int))<;>cases g.work.any Zhm<;>cases ZgC (Znw g) 0 g.edges<;>simp
  ·rw[ZxC hG hg,ZtK hg]
   revert h0
   cases decide (64<(g.work.length:Int))<;>cases decide (256<(g.edges.length:Int))<;>cases g.work.any Zhm<;>cases ZgC (Znw g) 0 g.edges<;>simp
 ·rw[beq_false_of_ne h0]
  unfold Zko at h0 ⊢
  revert h0
  cases decide (64<(g.work.length:Int))<;>cases decide (256<(g.edges.length:Int))<;>cases g.work.any Zhm<;>cases ZgC (Znw g) 0 g.edges<;>simp
end Go.Proofs.YtnmbdjkbaihicaaDoor
namespace Go.Proofs.YtnmbdjkbaihicaaDoor
open Go Go.Proofs.YtnmbdjkbaihicaaDoorE
set_option linter.unusedVariables false
set_option linter.unusedSimpArgs false
theorem ZgB {K W:Type} (eq:K→K→Bool) (k:K) (v:W):∀l:List (K×W),(∀q∈l,eq k q.1=false)→Zu eq l k v=l++[(k,v)]
 | [],_=>rfl
 | (a,u) :: r,h=>by
  unfold Zu
  rw[h (a,u) (by simp)]
  simp only[cond_false,List.cons_append]
  rw[ZgB eq k v r fun q hq=>h q (by simp[hq])]
theorem Zno {K W:Type} (eq:K→K→Bool) (k:K) (z:W):∀l:List (K×W),(∀q∈l,eq k q.1=false)→Z4 eq l k z=z
 | [],_=>rfl
 | (a,u) :: r,h=>by
  unfold Z4
  rw[h (a,u) (by simp)]
  exact Zno eq k z r fun q hq=>h q (by simp[hq])
theorem ZgH {K W:Type} (eq:K→K→Bool) (k:K) (z:W) (m:List (K×W)):∀l:List (K×W),(∀q∈l,eq k q.1=false)→Z4 eq (l++m) k z=Z4 eq m k z
 | [],_=>rfl
 | (a,u) :: r,h=>by
  rw[List.cons_append]
  conv=>lhs;unfold Z4
  rw[h (a,u) (by simp)]
  exact ZgH eq k z m r fun q hq=>h q (by simp[hq])
theorem Zhi {K W:Type} (eq:K→K→Bool) (k:K) (z:W) (m:List (K×W)):∀l:List (K×W),(∃q∈l,eq k q.1=true)→Z4 eq (l++m) k z=Z4 eq l k z
 | [],h=>by obtain⟨q,hq,_⟩:=h;simp at hq
 | (a,u) :: r,h=>by
  rw[List.cons_append]
  unfold Z4
  cases hb:eq k a with
  | true=>rfl
  | false=>
   simp only[cond_false]
   refine Zhi eq k z m r ?_
   obtain⟨q,hq,hk⟩:=h
   rcases List.mem_cons.1 hq with rfl | hq
   ·rw[hb] at hk;cases hk
   ·exact⟨q,hq,hk⟩
abbrev eqI:Int→Int→Bool:=fun ka kb:Int=>(ka==kb)
theorem Znl {K W:Type} (eq:K→K→Bool) (k:K) (v w:W) (hk:eq k k=true):∀l:List (K×W),(∀q∈l,eq k q.1=false)→Zu eq (l++[(k,v)]) k w=l++[(k,w)]
 | [],_=>by
  show(bif eq k k then _ else _)=_
  rw[hk];rfl
 | (a,u) :: r,h=>by
  rw[List.cons_append]
  unfold Zu
  rw[h (a,u) (by simp)]
  simp only[cond_false,List.cons_append]
  rw[Znl eq k v w hk r fun q hq=>h q (by simp[hq])]
theorem Zp7 {K W:Type} (eq:K→K→Bool) (k:K) (z v:W) (hk:eq k k=true) (l m:List (K×W)) (h:∀q∈l,eq k q.1=false):Z4 eq (l++(k,v) :: m) k z=v:=by
 rw[ZgH eq k z _ l h]
 show(bif eq k k then _ else _)=_
 rw[hk];rfl
end Go.Proofs.YtnmbdjkbaihicaaDoor
namespace Go.Proofs.YtnmbdjkbaihicaaDoor
open Go Go.Proofs.YtnmbdjkbaihicaaDoorE
set_option linter.unusedVariables false
set_option linter.unusedSimpArgs false
def tch (d:Zj) (n:Nat):List Int:=tl d (n:Int) 0 99
theorem ZlA {d:Zj} (g:ZlC d) (n:Nat):Zb8 d (n:Int) (tch d n):=Ztn g (n:Int)
theorem ZAK {d:Zj} (hs:Zga d) (hf:d.futures.length≤1000) (hc:ZfB d=0) (n:Nat):Zcz d (n:Int)=some (tch d n):=by
 obtain⟨r,h1,h2⟩:=ZmG d hs hf hc (n:Int)
 rw[h1,h2.eq (ZlA (ZqR hc) n)]
abbrev nt (d:Zj) (n:Nat):Nat:=(tch d n).length
theorem ZwK {d:Zj} (g:ZcS d) (n:Nat):nt d n≤16:=Nat.le_trans (Zkg (ZlA g.g n)) g.fl
def cut (d:Zj) (n i:Nat):Int:=if i=0 then 0 else match (tch d n)[i-1]? with | some z=>ZeI d.futures z | none=>ZfV d.parts (n:Int)
def Zi8 (d:Zj) (n k:Nat):List Int:=(List.range k).map fun i=>cut d n (i+1)-cut d n i
def ZP (d:Zj):Nat→Nat
 | 0=>0
 | n+1=>ZP d n+(nt d n+1)
theorem Zhz {d:Zj} (g:ZcS d):∀n,ZP d n≤17*n
 | 0=>Nat.le_refl _
 | n+1=>by have:=Zhz g n;have:=ZwK g n;show ZP d n+(nt d n+1)≤_;omega
theorem Zi0 {d:Zj}{n i:Nat} (g:ZlC d) (hi:i<nt d n):∃f,ZE (tch d n) (i:Int)=some (tch d n)[i]∧ZE d.futures (tch d n)[i]=some f∧d.futures[((tch d n)[i]).toNat]? = some f∧f.user=(n:Int)∧f.pos=cut d n (i+1)∧f∈d.futures:=by
 obtain⟨j,f,h1,h2,h3⟩:=(ZlA g n).mem _ |>.1 (List.getElem_mem hi)
 refine⟨f,Zav (List.getElem?_eq_getElem hi),?_,?_,h2,?_,List.mem_of_getElem? h1⟩
 ·rw[h3];exact Zav h1
 ·rw[h3,Int.toNat_natCast];exact h1
 ·unfold cut
  rw[if_neg (by omega),Nat.add_sub_cancel,List.getElem?_eq_getElem hi]
  show _=ZeI d.futures (tch d n)[i]
  unfold ZeI
  rw[h3,Int.toNat_natCast,h1]
theorem ZyP {d:Zj} (g:ZlC d) (n i:Nat):0≤cut d n i∧cut d n i≤100:=by
 unfold cut
 split
 ·omega
 ·have wb:0≤ZfV d.parts (n:Int)∧ZfV d.parts (n:Int)≤100:=by
   refine⟨?_,ZkG g _⟩
   unfold ZfV
   split
   ·rename_i p hp;have:=g.w p (List.mem_of_getElem? hp);omega
   ·omega
  split
  ·rename_i z hz
   obtain⟨j,f,h1,h2,h3⟩:=(ZlA g n).mem z |>.1 (List.mem_of_getElem? hz)
   have:=g.f f (List.mem_of_getElem? h1)
   have:=ZkG g f.user
   unfold ZeI
   rw[h3,Int.toNat_natCast,h1]
   show 0≤f.pos∧f.pos≤100
   omega
  ·exact wb
theorem Zyg (d:Zj) (n:Nat):cut d n (nt d n+1)=ZfV d.parts (n:Int):=by
 unfold cut
 rw[if_neg (by omega),Nat.add_sub_cancel,List.getElem?_eq_none (Nat.le_refl _)]
theorem ZrG (d:Zj) (n k:Nat):Zi8 d n (k+1)=Zi8 d n k++[cut d n (k+1)-cut d n k]:=by unfold Zi8;rw[List.range_succ,List.map_append];rfl
theorem Zpb (d:Zj) (n k:Nat):(Zi8 d n k).length=k:=by unfold Zi8;simp
def ZoR (d:Zj) (n:Nat):List Int:=Zi8 d n (nt d n+1)
theorem Zuf {d:Zj}{n:Nat} (hn:n<d.parts.length):∃x,ZE d.parts (n:Int)=some x∧x.work=ZfV d.parts (n:Int):=by
 refine⟨d.parts[n],Zav (List.getElem?_eq_getElem hn),?_⟩
 unfold ZfV
 rw[Int.toNat_natCast,List.getElem?_eq_getElem hn]
def Zg7 (d:Zj) (z:Int):Int:=(ZP d z.toNat:Int)
def ZcR (d:Zj) (z:Int):Int:=(ZP d (z.toNat+1):Int)-1
def Zsh (d:Zj) (f:Zi):Int:=Zhu (fun _ z=>ZeI d.futures z==f.pos) (fun i _=>Zg7 d f.user+(i:Int)+1) (-1) 0 (tch d f.user.toNat)
end Go.Proofs.YtnmbdjkbaihicaaDoor
namespace Go.Proofs.YtnmbdjkbaihicaaDoor
open Go Go.Proofs.YtnmbdjkbaihicaaDoorE
set_option linter.unusedVariables false
set_option linter.unusedSimpArgs false
def upto {β:Type} (B:Nat→List β) (k:Nat):List β:=(List.range k).flatMap B
theorem ZcN {β:Type} (B:Nat→List β) (k:Nat):upto B (k+1)=upto B k++B k:=by unfold upto;rw[List.range_succ,List.flatMap_append];simp
theorem Zoq {γ β:Type} (l:List γ) (hl:l.length≤1000) (step:Int×List β→Option ((Int×List β)⊕List β)) (g:γ→β)
  (h1:∀(i:Nat) x s,i<l.length→l[i]? = some x→Nat.ble (s.length+1) lim=true→step ((i:Int),s)=some (.inl (((i+1:Nat):Int),s++[g x])))
  (h2:∀s,step ((l.length:Int),s)=some (.inr s)) (s:List β) (hs:s.length≤1000000):lp step (0,s)=some (s++l.map g):=by
 have key:=(ZvS l step (fun i s=>((i:Int),s)) (fun _ s x=>s++[g x]) id (fun i s=>s.length≤1000000+i) (fun i x s hi hx hI=>⟨h1 i x s hi hx (Zfx (by omega)),by rw[List.length_append];simp only[List.length_cons,List.length_nil];omega⟩) (fun s _=>h2 s) s (by omega)).1
 have e:∀(l:List γ) (i:Nat) (s:List β),Znn (fun _ s x=>s++[g x]) i s l=s++l.map g:=by
  intro l
  induction l with
  | nil=>intro i s;simp[Znn]
  | cons x l ih=>intro i s;show Znn _ (i+1) (s++[g x]) l=_;rw[ih];simp
 rw[e] at key
 exact key
def Zge (d:Zj) (n k:Nat):List Zm:=(List.range k).map fun j=>⟨((ZP d n+j:Nat):Int),((ZP d n+j+1:Nat):Int)⟩
theorem Znk (d:Zj) (n k:Nat):Zge d n (k+1)=Zge d n k++[⟨((ZP d n+k:Nat):Int),((ZP d n+k+1:Nat):Int)⟩]:=by unfold Zge;rw[List.range_succ,List.map_append];rfl
theorem ZoS (d:Zj) (n k:Nat):(Zge d n k).length=k:=by unfold Zge;simp
def Zec (n k:Nat):List Zh:=(List.range k).map fun j:Nat=>⟨(n:Int),(j:Int)⟩
theorem ZqJ (n k:Nat):Zec n (k+1)=Zec n k++[⟨(n:Int),(k:Int)⟩]:=by unfold Zec;rw[List.range_succ,List.map_append];rfl
theorem Zne (n k:Nat):(Zec n k).length=k:=by unfold Zec;simp
def Zhg (d:Zj) (k:Nat):List Int:=upto (ZoR d) k
def Zf6 (d:Zj) (k:Nat):List Zm:=upto (fun n=>Zge d n (nt d n)) k
def ZcE (d:Zj) (k:Nat):List Zh:=upto (fun n=>Zec n (nt d n+1)) k
theorem Zi3 (d:Zj):∀k,(Zhg d k).length=ZP d k
 | 0=>rfl
 | k+1=>by unfold Zhg;rw[ZcN,List.length_append];unfold ZoR;rw[Zpb];show(Zhg d k).length+_=ZP d k+_;rw[Zi3 d k]
theorem ZcC (d:Zj):∀k,(ZcE d k).length=ZP d k
 | 0=>rfl
 | k+1=>by unfold ZcE;rw[ZcN,List.length_append,Zne];show(ZcE d k).length+_=ZP d k+_;rw[ZcC d k]
theorem ZlG (d:Zj):∀k,(Zf6 d k).length≤ZP d k
 | 0=>Nat.le_refl _
 | k+1=>by unfold Zf6;rw[ZcN,List.length_append,ZoS];have:=ZlG d k;unfold Zf6 at this;show _≤ZP d k+(nt d k+1);omega
def ZmX (d:Zj):List Zm:=d.edges.map fun e=>⟨ZcR d e.src,Zg7 d e.dst⟩
def ZoF (d:Zj):List Zm:=d.futures.map fun f=>⟨ZcR d f.maker,Zsh d f⟩
def Zv9 (d:Zj) (at_:Int) (b:Zs):List Zm:=b.ins.map (fun q=>⟨ZcR d q,at_⟩)++b.outs.map (fun q=>⟨at_,Zg7 d q⟩)
def Zpa (d:Zj) (i:Nat):Int:=((ZP d d.parts.length+i:Nat):Int)
def ZfQ (d:Zj) (k:Nat):List Zm:=upto (fun i=>match d.barriers[i]? with | some b=>Zv9 d (Zpa d i) b | none=>[]) k
def Ze3 (k:Nat):List Zh:=(List.range k).map fun i:Nat=>⟨-1,(i:Int)⟩
theorem Znc (k:Nat):(Ze3 k).length=k:=by unfold Ze3;simp
theorem Zq0 (k:Nat):Ze3 (k+1)=Ze3 k++[⟨-1,(k:Int)⟩]:=by unfold Ze3;rw[List.range_succ,List.map_append];rfl
def Zj7 (d:Zj):List Int:=Zhg d d.parts.length++List.replicate d.barriers.length 1
def Zjm (d:Zj):List Zm:=Zf6 d d.parts.length++ZmX d++ZoF d
def Zje (d:Zj):List Zm:=Zjm d++ZfQ d d.barriers.length
def ZdX (d:Zj):List Zh:=ZcE d d.parts.length++Ze3 d.barriers.length
def Zad (d:Zj):ZjX:=⟨⟨Zj7 d,Zje d⟩,ZdX d⟩
theorem Zn0 {d:Zj} (g:ZcS d):(Zjm d).length≤1000:=by
 unfold Zjm ZmX ZoF
 have h1:=ZlG d d.parts.length
 have h2:=Zhz g d.parts.length
 have h3:=g.pl
 have h4:=g.el
 have h5:=g.fl
 simp only[List.length_append,List.length_map]
 omega
theorem Zwg {d:Zj} (hz:ZhF d) {b:Zs} (hb:b∈d.barriers) (z:Int):(Zv9 d z b).length≤40:=by
 have:=hz.i b hb
 unfold Zv9
 simp only[List.length_append,List.length_map]
 omega
theorem Zlu {d:Zj} (hz:ZhF d):∀k,(ZfQ d k).length≤40*k
 | 0=>Nat.le_refl _
 | k+1=>by
  have ih:=Zlu hz k
  unfold ZfQ at ih ⊢
  rw[ZcN,List.length_append]
  split
  ·rename_i b hb
   have:=Zwg hz (List.mem_of_getElem? hb) (Zpa d k)
   omega
  ·simp only[List.length_nil];omega
end Go.Proofs.YtnmbdjkbaihicaaDoor
