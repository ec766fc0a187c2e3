/- EvalReady: part 4 of 6 of the proof. -/
import Derived.Test.YtnmbdjkbaihicaaDoorZEvalReadyc
import Derived.KernelRfl
import Derived.Sort.AssemblyPlain
set_option maxRecDepth 100000
set_option maxHeartbeats 40000000
namespace Go.Proofs.YtnmbdjkbaihicaaDoor
open Go Go.Proofs.YtnmbdjkbaihicaaDoorE
set_option linter.unusedVariables false
structure ZB where
 done:(List Bool)
 vals:(List Int)
 deriving DecidableEq
abbrev ZxX (x:ZB):D:=(D.agg [(D.list true (List.map D.bool x.done)),(D.list true (List.map Zb x.vals))])
structure Zcp where
 work:(List Int)
 edges:(List Zm)
 deriving DecidableEq
structure Zh where
 part:Int
 step:Int
 deriving DecidableEq
abbrev Zbl (x:Zh):D:=(D.agg [(Zb x.part),(Zb x.step)])
structure ZlU where
 dag:Zcp
 pieces:(List Zh)
 deriving DecidableEq
def Zrm:ByteArray:=⟨#[0,1,2,2,3,3,3,3,4,4,4,4,4,4,4,4,5,5,5,5,5,5,5,5,5,5,5,5,5,5,5,5,6,6,6,6,6,6,6,6,6,6,6,6,6,6,6,6,6,6,6,6,6,6,6,6,6,6,6,6,6,6,6,6,7,7,7,7,7,7,7,7,7,7,7,7,7,7,7,7,7,7,7,7,7,7,7,7,7,7,7,7,7,7,7,7,7,7,7,7,7,7,7,7,7,7,7,7,7,7,7,7,7,7,7,7,7,7,7,7,7,7,7,7,7,7,7,7,8,8,8,8,8,8,8,8,8,8,8,8,8,8,8,8,8,8,8,8,8,8,8,8,8,8,8,8,8,8,8,8,8,8,8,8,8,8,8,8,8,8,8,8,8,8,8,8,8,8,8,8,8,8,8,8,8,8,8,8,8,8,8,8,8,8,8,8,8,8,8,8,8,8,8,8,8,8,8,8,8,8,8,8,8,8,8,8,8,8,8,8,8,8,8,8,8,8,8,8,8,8,8,8,8,8,8,8,8,8,8,8,8,8,8,8,8,8,8,8,8,8,8,8,8,8,8,8]⟩
abbrev dA (t0 t1 t2 t3:Bool) (a:Zj):List D:=[(Zb a.period),(Zb a.deadline),(D.list t0 (List.map Z2 a.parts)),(D.list t1 (List.map ZD a.edges)),(D.list t2 (List.map Zq a.futures)),(D.list t3 (List.map Zv a.barriers))]
abbrev dV (t0 t1 t2 t3:Bool) (a:Zj):List V:=[(.d (Zb a.period)),(.d (Zb a.deadline)),(.d (D.list t0 (List.map Z2 a.parts))),(.d (D.list t1 (List.map ZD a.edges))),(.d (D.list t2 (List.map Zq a.futures))),(.d (D.list t3 (List.map Zv a.barriers)))]
noncomputable def Zey (a:Zj) (s0:Int):Option (Int⊕(Unit⊕Unit)):=
 bif (decide (s0<(a.barriers.length:Int))) then
  bif (decide (s0<9)) then
   (ZE a.barriers s0).bind fun x1=>
   bif (decide (20<(x1.ins.length:Int))) then
    some (.inr (.inl ()))
   else
    bif (decide (20<(x1.outs.length:Int))) then
     some (.inr (.inl ()))
    else
     some (.inl (w64 (s0+1)))
  else
   some (.inr (.inr ()))
 else
  some (.inr (.inr ()))
noncomputable def ZgX (a:Zj):Option Bool:=
 (lp (Zey a) 0).bind fun r2=>
 match r2 with
 | (.inl r2)=>
  some false
 | (.inr r2)=>
  bif (decide ((a.parts.length:Int)≤20)) then
   bif (decide ((a.edges.length:Int)≤60)) then
    bif (decide ((a.futures.length:Int)≤20)) then
     bif (decide ((a.barriers.length:Int)≤8)) then
      some true
     else
      some false
    else
     some false
   else
    some false
  else
   some false
noncomputable def ZdQ (a:Zj) (s0:Int×(List Zs)):Option ((Int×(List Zs))⊕(List Zs)):=
 bif (decide (s0.1<(a.barriers.length:Int))) then
  (ZE a.barriers s0.1).bind fun x1=>
  bif (Nat.ble (List.length x1.ins) lim) then
   bif (Nat.ble (List.length x1.outs) lim) then
    bif (Nat.ble (List.length s0.2+1) lim) then
     some (.inl ((w64 (s0.1+1)),(s0.2++[x1])))
    else
     none
   else
    none
  else
   none
 else
  some (.inr s0.2)
noncomputable def Zcw (a:Zj):Option (List Zs):=
 bif (Nat.ble (List.length a.parts) lim) then
  bif (Nat.ble (List.length a.edges) lim) then
   bif (Nat.ble (List.length a.futures) lim) then
    (lp (ZdQ a) (0,([]:(List Zs)))).bind fun r2=>
    some r2
   else
    none
  else
   none
 else
  none
noncomputable def Zbu (a:Int) (b:Int) (c:Int):Option Bool:=
 bif (decide (b≤a)) then
  bif (decide (a≤c)) then
   some true
  else
   some false
 else
  some false
noncomputable def ZgU (a:Int):Option Int:=
 bif (decide (a<0)) then
  some 10
 else
  bif (decide (1099511627775<a)) then
   some 11
  else
   some 0
noncomputable def Zcv (a:Int):Option Int:=
 some (IntKind.i64.wrap (BitVec.ofInt IntKind.i64.bits (w64 (IntKind.u64.wrap ((IntKind.u64.wrap ((IntKind.u64.wrap ((IntKind.u64.wrap (BitVec.ofInt IntKind.u64.bits (IntKind.u64.wrap ((Int.fdiv (IntKind.u64.wrap ((IntKind.u64.wrap (BitVec.ofInt IntKind.u64.bits (Int.fdiv (IntKind.u64.wrap ((IntKind.u64.wrap (BitVec.ofInt IntKind.u64.bits (Int.fdiv a (2 ^ 1)) &&& BitVec.ofInt IntKind.u64.bits 6148914691236517205).toNat)+(IntKind.u64.wrap (BitVec.ofInt IntKind.u64.bits a &&& BitVec.ofInt IntKind.u64.bits 6148914691236517205).toNat))) (2 ^ 2)) &&& BitVec.ofInt IntKind.u64.bits 3689348814741910323).toNat)+(IntKind.u64.wrap (BitVec.ofInt IntKind.u64.bits (IntKind.u64.wrap ((IntKind.u64.wrap (BitVec.ofInt IntKind.u64.bits (Int.fdiv a (2 ^ 1)) &&& BitVec.ofInt IntKind.u64.bits 6148914691236517205).toNat)+(IntKind.u64.wrap (BitVec.ofInt IntKind.u64.bits a &&& BitVec.ofInt IntKind.u64.bits 6148914691236517205).toNat))) &&& BitVec.ofInt IntKind.u64.bits 3689348814741910323).toNat))) (2 ^ 4))+(IntKind.u64.wrap ((IntKind.u64.wrap (BitVec.ofInt IntKind.u64.bits (Int.fdiv (IntKind.u64.wrap ((IntKind.u64.wrap (BitVec.ofInt IntKind.u64.bits (Int.fdiv a (2 ^ 1)) &&& BitVec.ofInt IntKind.u64.bits 6148914691236517205).toNat)+(IntKind.u64.wrap (BitVec.ofInt IntKind.u64.bits a &&& BitVec.ofInt IntKind.u64.bits 6148914691236517205).toNat))) (2 ^ 2)) &&& BitVec.ofInt IntKind.u64.bits 3689348814741910323).toNat)+(IntKind.u64.wrap (BitVec.ofInt IntKind.u64.bits (IntKind.u64.wrap ((IntKind.u64.wrap (BitVec.ofInt IntKind.u64.bits (Int.fdiv a (2 ^ 1)) &&& BitVec.ofInt IntKind.u64.bits 6148914691236517205).toNat)+(IntKind.u64.wrap (BitVec.ofInt IntKind.u64.bits a &&& BitVec.ofInt IntKind.u64.bits 6148914691236517205).toNat))) &&& BitVec.ofInt IntKind.u64.bits 3689348814741910323).toNat))))) &&& BitVec.ofInt IntKind.u64.bits 1085102592571150095).toNat)+(Int.fdiv (IntKind.u64.wrap (BitVec.ofInt IntKind.u64.bits (IntKind.u64.wrap ((Int.fdiv (IntKind.u64.wrap ((IntKind.u64.wrap (BitVec.ofInt IntKind.u64.bits (Int.fdiv (IntKind.u64.wrap ((IntKind.u64.wrap (BitVec.ofInt IntKind.u64.bits (Int.fdiv a (2 ^ 1)) &&& BitVec.ofInt IntKind.u64.bits 6148914691236517205).toNat)+(IntKind.u64.wrap (BitVec.ofInt IntKind.u64.bits a &&& BitVec.ofInt IntKind.u64.bits 6148914691236517205).toNat))) (2 ^ 2)) &&& BitVec.ofInt IntKind.u64.bits 3689348814741910323).toNat)+(IntKind.u64.wrap (BitVec.ofInt IntKind.u64.bits (IntKind.u64.wrap ((IntKind.u64.wrap (BitVec.ofInt IntKind.u64.bits (Int.fdiv a (2 ^ 1)) &&& BitVec.ofInt IntKind.u64.bits 6148914691236517205).toNat)+(IntKind.u64.wrap (BitVec.ofInt IntKind.u64.bits a &&& BitVec.ofInt IntKind.u64.bits 6148914691236517205).toNat))) &&& BitVec.ofInt IntKind.u64.bits 3689348814741910323).toNat))) (2 ^ 4))+(IntKind.u64.wrap ((IntKind.u64.wrap (BitVec.ofInt IntKind.u64.bits (Int.fdiv (IntKind.u64.wrap ((IntKind.u64.wrap (BitVec.ofInt IntKind.u64.bits (Int.fdiv a (2 ^ 1)) &&& BitVec.ofInt IntKind.u64.bits 6148914691236517205).toNat)+(IntKind.u64.wrap (BitVec.ofInt IntKind.u64.bits a &&& BitVec.ofInt IntKind.u64.bits 6148914691236517205).toNat))) (2 ^ 2)) &&& BitVec.ofInt IntKind.u64.bits 3689348814741910323).toNat)+(IntKind.u64.wrap (BitVec.ofInt IntKind.u64.bits (IntKind.u64.wrap ((IntKind.u64.wrap (BitVec.ofInt IntKind.u64.bits (Int.fdiv a (2 ^ 1)) &&& BitVec.ofInt IntKind.u64.bits 6148914691236517205).toNat)+(IntKind.u64.wrap (BitVec.ofInt IntKind.u64.bits a &&& BitVec.ofInt IntKind.u64.bits 6148914691236517205).toNat))) &&& BitVec.ofInt IntKind.u64.bits 3689348814741910323).toNat))))) &&& BitVec.ofInt IntKind.u64.bits 1085102592571150095).toNat) (2 ^ 8))))+(Int.fdiv (IntKind.u64.wrap ((IntKind.u64.wrap (BitVec.ofInt IntKind.u64.bits (IntKind.u64.wrap ((Int.fdiv (IntKind.u64.wrap ((IntKind.u64.wrap (BitVec.ofInt IntKind.u64.bits (Int.fdiv (IntKind.u64.wrap ((IntKind.u64.wrap (BitVec.ofInt IntKind.u64.bits (Int.fdiv a (2 ^ 1)) &&& BitVec.ofInt IntKind.u64.bits 6148914691236517205).toNat)+(IntKind.u64.wrap (BitVec.ofInt IntKind.u64.bits a &&& BitVec.ofInt IntKind.u64.bits 6148914691236517205).toNat))) (2 ^ 2)) &&& BitVec.ofInt IntKind.u64.bits 3689348814741910323).toNat)+(IntKind.u64.wrap (BitVec.ofInt IntKind.u64.bits (IntKind.u64.wrap ((IntKind.u64.wrap (BitVec.ofInt IntKind.u64.bits (Int.fdiv a (2 ^ 1)) &&& BitVec.ofInt IntKind.u64.bits 6148914691236517205).toNat)+(IntKind.u64.wrap (BitVec.ofInt IntKind.u64.bits a &&& BitVec.ofInt IntKind.u64.bits 6148914691236517205).toNat))) &&& BitVec.ofInt IntKind.u64.bits 3689348814741910323).toNat))) (2 ^ 4))+(IntKind.u64.wrap ((IntKind.u64.wrap (BitVec.ofInt IntKind.u64.bits (Int.fdiv (IntKind.u64.wrap ((IntKind.u64.wrap (BitVec.ofInt IntKind.u64.bits (Int.fdiv a (2 ^ 1)) &&& BitVec.ofInt IntKind.u64.bits 6148914691236517205).toNat)+(IntKind.u64.wrap (BitVec.ofInt IntKind.u64.bits a &&& BitVec.ofInt IntKind.u64.bits 6148914691236517205).toNat))) (2 ^ 2)) &&& BitVec.ofInt IntKind.u64.bits 3689348814741910323).toNat)+(IntKind.u64.wrap (BitVec.ofInt IntKind.u64.bits (IntKind.u64.wrap ((IntKind.u64.wrap (BitVec.ofInt IntKind.u64.bits (Int.fdiv a (2 ^ 1)) &&& BitVec.ofInt IntKind.u64.bits 6148914691236517205).toNat)+(IntKind.u64.wrap (BitVec.ofInt IntKind.u64.bits a &&& BitVec.ofInt IntKind.u64.bits 6148914691236517205).toNat))) &&& BitVec.ofInt IntKind.u64.bits 3689348814741910323).toNat))))) &&& BitVec.ofInt IntKind.u64.bits 1085102592571150095).toNat)+(Int.fdiv (IntKind.u64.wrap (BitVec.ofInt IntKind.u64.bits (IntKind.u64.wrap ((Int.fdiv (IntKind.u64.wrap ((IntKind.u64.wrap (BitVec.ofInt IntKind.u64.bits (Int.fdiv (IntKind.u64.wrap ((IntKind.u64.wrap (BitVec.ofInt IntKind.u64.bits (Int.fdiv a (2 ^ 1)) &&& BitVec.ofInt IntKind.u64.bits 6148914691236517205).toNat)+(IntKind.u64.wrap (BitVec.ofInt IntKind.u64.bits a &&& BitVec.ofInt IntKind.u64.bits 6148914691236517205).toNat))) (2 ^ 2)) &&& BitVec.ofInt IntKind.u64.bits 3689348814741910323).toNat)+(IntKind.u64.wrap (BitVec.ofInt IntKind.u64.bits (IntKind.u64.wrap ((IntKind.u64.wrap (BitVec.ofInt IntKind.u64.bits (Int.fdiv a (2 ^ 1)) &&& BitVec.ofInt IntKind.u64.bits 6148914691236517205).toNat)+(IntKind.u64.wrap (BitVec.ofInt IntKind.u64.bits a &&& BitVec.ofInt IntKind.u64.bits 6148914691236517205).toNat))) &&& BitVec.ofInt IntKind.u64.bits 3689348814741910323).toNat))) (2 ^ 4))+(IntKind.u64.wrap ((IntKind.u64.wrap (BitVec.ofInt IntKind.u64.bits (Int.fdiv (IntKind.u64.wrap ((IntKind.u64.wrap (BitVec.ofInt IntKind.u64.bits (Int.fdiv a (2 ^ 1)) &&& BitVec.ofInt IntKind.u64.bits 6148914691236517205).toNat)+(IntKind.u64.wrap (BitVec.ofInt IntKind.u64.bits a &&& BitVec.ofInt IntKind.u64.bits 6148914691236517205).toNat))) (2 ^ 2)) &&& BitVec.ofInt IntKind.u64.bits 3689348814741910323).toNat)+(IntKind.u64.wrap (BitVec.ofInt IntKind.u64.bits (IntKind.u64.wrap ((IntKind.u64.wrap (BitVec.ofInt IntKind.u64.bits (Int.fdiv a (2 ^ 1)) &&& BitVec.ofInt IntKind.u64.bits 6148914691236517205).toNat)+(IntKind.u64.wrap (BitVec.ofInt IntKind.u64.bits a &&& BitVec.ofInt IntKind.u64.bits 6148914691236517205).toNat))) &&& BitVec.ofInt IntKind.u64.bits 3689348814741910323).toNat))))) &&& BitVec.ofInt IntKind.u64.bits 1085102592571150095).toNat) (2 ^ 8)))) (2 ^ 16))))+(Int.fdiv (IntKind.u64.wrap ((IntKind.u64.wrap ((IntKind.u64.wrap (BitVec.ofInt IntKind.u64.bits (IntKind.u64.wrap ((Int.fdiv (IntKind.u64.wrap ((IntKind.u64.wrap (BitVec.ofInt IntKind.u64.bits (Int.fdiv (IntKind.u64.wrap ((IntKind.u64.wrap (BitVec.ofInt IntKind.u64.bits (Int.fdiv a (2 ^ 1)) &&& BitVec.ofInt IntKind.u64.bits 6148914691236517205).toNat)+(IntKind.u64.wrap (BitVec.ofInt IntKind.u64.bits a &&& BitVec.ofInt IntKind.u64.bits 6148914691236517205).toNat))) (2 ^ 2)) &&& BitVec.ofInt IntKind.u64.bits 3689348814741910323).toNat)+(IntKind.u64.wrap (BitVec.ofInt IntKind.u64.bits (IntKind.u64.wrap ((IntKind.u64.wrap (BitVec.ofInt IntKind.u64.bits (Int.fdiv a (2 ^ 1)) &&& BitVec.ofInt IntKind.u64.bits 6148914691236517205).toNat)+(IntKind.u64.wrap (BitVec.ofInt IntKind.u64.bits a &&& BitVec.ofInt IntKind.u64.bits 6148914691236517205).toNat))) &&& BitVec.ofInt IntKind.u64.bits 3689348814741910323).toNat))) (2 ^ 4))+(IntKind.u64.wrap ((IntKind.u64.wrap (BitVec.ofInt IntKind.u64.bits (Int.fdiv (IntKind.u64.wrap ((IntKind.u64.wrap (BitVec.ofInt IntKind.u64.bits (Int.fdiv a (2 ^ 1)) &&& BitVec.ofInt IntKind.u64.bits 6148914691236517205).toNat)+(IntKind.u64.wrap (BitVec.ofInt IntKind.u64.bits a &&& BitVec.ofInt IntKind.u64.bits 6148914691236517205).toNat))) (2 ^ 2)) &&& BitVec.ofInt IntKind.u64.bits 3689348814741910323).toNat)+(IntKind.u64.wrap (BitVec.ofInt IntKind.u64.bits (IntKind.u64.wrap ((IntKind.u64.wrap (BitVec.ofInt IntKind.u64.bits (Int.fdiv a (2 ^ 1)) &&& BitVec.ofInt IntKind.u64.bits 6148914691236517205).toNat)+(IntKind.u64.wrap (BitVec.ofInt IntKind.u64.bits a &&& BitVec.ofInt IntKind.u64.bits 6148914691236517205).toNat))) &&& BitVec.ofInt IntKind.u64.bits 3689348814741910323).toNat))))) &&& BitVec.ofInt IntKind.u64.bits 1085102592571150095).toNat)+(Int.fdiv (IntKind.u64.wrap (BitVec.ofInt IntKind.u64.bits (IntKind.u64.wrap ((Int.fdiv (IntKind.u64.wrap ((IntKind.u64.wrap (BitVec.ofInt IntKind.u64.bits (Int.fdiv (IntKind.u64.wrap ((IntKind.u64.wrap (BitVec.ofInt IntKind.u64.bits (Int.fdiv a (2 ^ 1)) &&& BitVec.ofInt IntKind.u64.bits 6148914691236517205).toNat)+(IntKind.u64.wrap (BitVec.ofInt IntKind.u64.bits a &&& BitVec.ofInt IntKind.u64.bits 6148914691236517205).toNat))) (2 ^ 2)) &&& BitVec.ofInt IntKind.u64.bits 3689348814741910323).toNat)+(IntKind.u64.wrap (BitVec.ofInt IntKind.u64.bits (IntKind.u64.wrap ((IntKind.u64.wrap (BitVec.ofInt IntKind.u64.bits (Int.fdiv a (2 ^ 1)) &&& BitVec.ofInt IntKind.u64.bits 6148914691236517205).toNat)+(IntKind.u64.wrap (BitVec.ofInt IntKind.u64.bits a &&& BitVec.ofInt IntKind.u64.bits 6148914691236517205).toNat))) &&& BitVec.ofInt IntKind.u64.bits 3689348814741910323).toNat))) (2 ^ 4))+(IntKind.u64.wrap ((IntKind.u64.wrap (BitVec.ofInt IntKind.u64.bits (Int.fdiv (IntKind.u64.wrap ((IntKind.u64.wrap (BitVec.ofInt IntKind.u64.bits (Int.fdiv a (2 ^ 1)) &&& BitVec.ofInt IntKind.u64.bits 6148914691236517205).toNat)+(IntKind.u64.wrap (BitVec.ofInt IntKind.u64.bits a &&& BitVec.ofInt IntKind.u64.bits 6148914691236517205).toNat))) (2 ^ 2)) &&& BitVec.ofInt IntKind.u64.bits 3689348814741910323).toNat)+(IntKind.u64.wrap (BitVec.ofInt IntKind.u64.bits (IntKind.u64.wrap ((IntKind.u64.wrap (BitVec.ofInt IntKind.u64.bits (Int.fdiv a (2 ^ 1)) &&& BitVec.ofInt IntKind.u64.bits 6148914691236517205).toNat)+(IntKind.u64.wrap (BitVec.ofInt IntKind.u64.bits a &&& BitVec.ofInt IntKind.u64.bits 6148914691236517205).toNat))) &&& BitVec.ofInt IntKind.u64.bits 3689348814741910323).toNat))))) &&& BitVec.ofInt IntKind.u64.bits 1085102592571150095).toNat) (2 ^ 8))))+(Int.fdiv (IntKind.u64.wrap ((IntKind.u64.wrap (BitVec.ofInt IntKind.u64.bits (IntKind.u64.wrap ((Int.fdiv (IntKind.u64.wrap ((IntKind.u64.wrap (BitVec.ofInt IntKind.u64.bits (Int.fdiv (IntKind.u64.wrap ((IntKind.u64.wrap (BitVec.ofInt IntKind.u64.bits (Int.fdiv a (2 ^ 1)) &&& BitVec.ofInt IntKind.u64.bits 6148914691236517205).toNat)+(IntKind.u64.wrap (BitVec.ofInt IntKind.u64.bits a &&& BitVec.ofInt IntKind.u64.bits 6148914691236517205).toNat))) (2 ^ 2)) &&& BitVec.ofInt IntKind.u64.bits 3689348814741910323).toNat)+(IntKind.u64.wrap (BitVec.ofInt IntKind.u64.bits (IntKind.u64.wrap ((IntKind.u64.wrap (BitVec.ofInt IntKind.u64.bits (Int.fdiv a (2 ^ 1)) &&& BitVec.ofInt IntKind.u64.bits 6148914691236517205).toNat)+(IntKind.u64.wrap (BitVec.ofInt IntKind.u64.bits a &&& BitVec.ofInt IntKind.u64.bits 6148914691236517205).toNat))) &&& BitVec.ofInt IntKind.u64.bits 3689348814741910323).toNat))) (2 ^ 4))+(IntKind.u64.wrap ((IntKind.u64.wrap (BitVec.ofInt IntKind.u64.bits (Int.fdiv (IntKind.u64.wrap ((IntKind.u64.wrap (BitVec.ofInt IntKind.u64.bits (Int.fdiv a (2 ^ 1)) &&& BitVec.ofInt IntKind.u64.bits 6148914691236517205).toNat)+(IntKind.u64.wrap (BitVec.ofInt IntKind.u64.bits a &&& BitVec.ofInt IntKind.u64.bits 6148914691236517205).toNat))) (2 ^ 2)) &&& BitVec.ofInt IntKind.u64.bits 3689348814741910323).toNat)+(IntKind.u64.wrap (BitVec.ofInt IntKind.u64.bits (IntKind.u64.wrap ((IntKind.u64.wrap (BitVec.ofInt IntKind.u64.bits (Int.fdiv a (2 ^ 1)) &&& BitVec.ofInt IntKind.u64.bits 6148914691236517205).toNat)+(IntKind.u64.wrap (BitVec.ofInt IntKind.u64.bits a &&& BitVec.ofInt IntKind.u64.bits 6148914691236517205).toNat))) &&& BitVec.ofInt IntKind.u64.bits 3689348814741910323).toNat))))) &&& BitVec.ofInt IntKind.u64.bits 1085102592571150095).toNat)+(Int.fdiv (IntKind.u64.wrap (BitVec.ofInt IntKind.u64.bits (IntKind.u64.wrap ((Int.fdiv (IntKind.u64.wrap ((IntKind.u64.wrap (BitVec.ofInt IntKind.u64.bits (Int.fdiv (IntKind.u64.wrap ((IntKind.u64.wrap (BitVec.ofInt IntKind.u64.bits (Int.fdiv a (2 ^ 1)) &&& BitVec.ofInt IntKind.u64.bits 6148914691236517205).toNat)+(IntKind.u64.wrap (BitVec.ofInt IntKind.u64.bits a &&& BitVec.ofInt IntKind.u64.bits 6148914691236517205).toNat))) (2 ^ 2)) &&& BitVec.ofInt IntKind.u64.bits 3689348814741910323).toNat)+(IntKind.u64.wrap (BitVec.ofInt IntKind.u64.bits (IntKind.u64.wrap ((IntKind.u64.wrap (BitVec.ofInt IntKind.u64.bits (Int.fdiv a (2 ^ 1)) &&& BitVec.ofInt IntKind.u64.bits 6148914691236517205).toNat)+(IntKind.u64.wrap (BitVec.ofInt IntKind.u64.bits a &&& BitVec.ofInt IntKind.u64.bits 6148914691236517205).toNat))) &&& BitVec.ofInt IntKind.u64.bits 3689348814741910323).toNat))) (2 ^ 4))+(IntKind.u64.wrap ((IntKind.u64.wrap (BitVec.ofInt IntKind.u64.bits (Int.fdiv (IntKind.u64.wrap ((IntKind.u64.wrap (BitVec.ofInt IntKind.u64.bits (Int.fdiv a (2 ^ 1)) &&& BitVec.ofInt IntKind.u64.bits 6148914691236517205).toNat)+(IntKind.u64.wrap (BitVec.ofInt IntKind.u64.bits a &&& BitVec.ofInt IntKind.u64.bits 6148914691236517205).toNat))) (2 ^ 2)) &&& BitVec.ofInt IntKind.u64.bits 3689348814741910323).toNat)+(IntKind.u64.wrap (BitVec.ofInt IntKind.u64.bits (IntKind.u64.wrap ((IntKind.u64.wrap (BitVec.ofInt IntKind.u64.bits (Int.fdiv a (2 ^ 1)) &&& BitVec.ofInt IntKind.u64.bits 6148914691236517205).toNat)+(IntKind.u64.wrap (BitVec.ofInt IntKind.u64.bits a &&& BitVec.ofInt IntKind.u64.bits 6148914691236517205).toNat))) &&& BitVec.ofInt IntKind.u64.bits 3689348814741910323).toNat))))) &&& BitVec.ofInt IntKind.u64.bits 1085102592571150095).toNat) (2 ^ 8)))) (2 ^ 16)))) (2 ^ 32))))) &&& BitVec.ofInt IntKind.i64.bits 127).toNat)
noncomputable def ZcQ (a:Int):Option Int:=
 (Zcv a).bind fun x0=>
 some x0
def Zrc:List Int:=[0,1,56,2,57,49,28,3,61,58,42,50,38,29,17,4,62,47,59,36,45,43,51,22,53,39,33,30,24,18,12,5,63,55,48,27,60,41,37,16,46,35,44,21,52,32,23,11,54,26,40,15,34,20,31,10,25,14,19,9,13,8,7,6]
def ZdA (a:Int):Option Int:=some (bif a==0 then 64 else w64 (Zrc.getD (Int.fdiv (IntKind.u64.wrap ((IntKind.u64.wrap (BitVec.ofInt IntKind.u64.bits a &&& BitVec.ofInt IntKind.u64.bits (IntKind.u64.wrap (0-a))).toNat)*285870213051353865)) (2 ^ (min (Int.toNat 58) IntKind.u64.bits))).toNat 0))
noncomputable def ZcP (a:Int):Option Int:=
 (ZdA a).bind fun x0=>
 some x0
noncomputable def ZiQ (a:Int):Option (Int×Bool):=
 (ZgU a).bind fun x0=>
 bif (x0 != 0) then
  some (0,false)
 else
  (ZcQ (IntKind.u64.wrap a)).bind fun x1=>
  bif (x1 != 1) then
   some (0,false)
  else
   (ZcP (IntKind.u64.wrap a)).bind fun x2=>
   some (x2,true)
noncomputable def ZeI (a:ZV):Option Bool:=
 (Zbu a.op 0 5).bind fun x0=>
 bif x0 then
  (Zbu a.arg 0 2147483647).bind fun x1=>
  bif x1 then
   (Zbu a.work 1 100).bind fun x2=>
   bif x2 then
    some false
   else
    some true
  else
   some true
 else
  some true
noncomputable def ZaW (a:(List ZV)) (b:(ZV→Option Bool)) (s0:Int):Option (Int⊕(Int⊕Unit)):=
 bif (decide (s0<(a.length:Int))) then
  (ZE a s0).bind fun x1=>
  (b x1).bind fun x2=>
  bif x2 then
   some (.inr (.inl s0))
  else
   some (.inl (w64 (s0+1)))
 else
  some (.inr (.inr ()))
noncomputable def Zb1 (a:(List ZV)) (b:(ZV→Option Bool)):Option Int:=
 (lp (ZaW a b) 0).bind fun r3=>
 match r3 with
 | (.inl r3)=>
  some r3
 | (.inr r3)=>
  some (-1)
noncomputable def ZaX (a:(List ZV)) (b:(ZV→Option Bool)):Option Bool:=
 (Zb1 a b).bind fun x0=>
 bif (decide (0≤x0)) then
  some true
 else
  some false
noncomputable def ZgD (a:Zj) (b:Int) (c:Int):Option Bool:=
 bif (b != c) then
  (Zbu b 0 (w64 ((a.parts.length:Int)-1))).bind fun x0=>
  bif x0 then
   (Zbu c 0 (w64 ((a.parts.length:Int)-1))).bind fun x1=>
   bif x1 then
    some true
   else
    some false
  else
   some false
 else
  some false
noncomputable def Zbh (a:(List Zm)) (b:Zm) (s0:Int):Option (Int⊕(Int⊕Unit)):=
 bif (decide (s0<(a.length:Int))) then
  (ZE a s0).bind fun x1=>
  bif ((b.src==x1.src)&&((b.dst==x1.dst)&&true)) then
   some (.inr (.inl s0))
  else
   some (.inl (w64 (s0+1)))
 else
  some (.inr (.inr ()))
noncomputable def ZcC (a:(List Zm)) (b:Zm):Option Int:=
 (lp (Zbh a b) 0).bind fun r2=>
 match r2 with
 | (.inl r2)=>
  some r2
 | (.inr r2)=>
  some (-1)
noncomputable def ZaV (a:(List Zm)) (b:Zm):Option Bool:=
 (ZcC a b).bind fun x0=>
 bif (decide (0≤x0)) then
  some true
 else
  some false
noncomputable def Zdb (a:Zi) (b1:Int) (b2:Int):Option Bool:=
 bif (a.user==b1) then
  bif (a.pos==b2) then
   some true
  else
   some false
 else
  some false
noncomputable def ZaB (a:(List Zi)) (b:(Zi→Option Bool)) (s0:Int):Option (Int⊕(Int⊕Unit)):=
 bif (decide (s0<(a.length:Int))) then
  (ZE a s0).bind fun x1=>
  (b x1).bind fun x2=>
  bif x2 then
   some (.inr (.inl s0))
  else
   some (.inl (w64 (s0+1)))
 else
  some (.inr (.inr ()))
noncomputable def Zbk (a:(List Zi)) (b:(Zi→Option Bool)):Option Int:=
 (lp (ZaB a b) 0).bind fun r3=>
 match r3 with
 | (.inl r3)=>
  some r3
 | (.inr r3)=>
  some (-1)
noncomputable def ZaC (a:(List Zi)) (b:(Zi→Option Bool)):Option Bool:=
 (Zbk a b).bind fun x0=>
 bif (decide (0≤x0)) then
  some true
 else
  some false
noncomputable def Ze2 (a:Zj) (b:(List Int)) (s0:Int):Option (Int⊕(Unit⊕Unit)):=
 bif (decide (s0<(b.length:Int))) then
  (ZE b s0).bind fun x1=>
  (Zbu x1 0 (w64 ((a.parts.length:Int)-1))).bind fun x2=>
  bif x2 then
   bif (decide (0<s0)) then
    (ZE b (w64 (s0-1))).bind fun x3=>
    bif (decide (x1≤x3)) then
     some (.inr (.inl ()))
    else
     some (.inl (w64 (s0+1)))
   else
    some (.inl (w64 (s0+1)))
  else
   some (.inr (.inl ()))
 else
  some (.inr (.inr ()))
noncomputable def ZgE (a:Zj) (b:(List Int)):Option Bool:=
 (lp (Ze2 a b) 0).bind fun r4=>
 match r4 with
 | (.inl r4)=>
  some false
 | (.inr r4)=>
  bif (decide (0<(b.length:Int))) then
   some true
  else
   some false
noncomputable def ZbC (a:(List Int)) (b:Int) (s0:Int):Option (Int⊕(Int⊕Unit)):=
 bif (decide (s0<(a.length:Int))) then
  (ZE a s0).bind fun x1=>
  bif (b==x1) then
   some (.inr (.inl s0))
  else
   some (.inl (w64 (s0+1)))
 else
  some (.inr (.inr ()))
noncomputable def Zc4 (a:(List Int)) (b:Int):Option Int:=
 (lp (ZbC a b) 0).bind fun r2=>
 match r2 with
 | (.inl r2)=>
  some r2
 | (.inr r2)=>
  some (-1)
noncomputable def ZbB (a:(List Int)) (b:Int):Option Bool:=
 (Zc4 a b).bind fun x0=>
 bif (decide (0≤x0)) then
  some true
 else
  some false
noncomputable def Zdd (a:Int) (b1:(List Int)):Option Bool:=
 (ZbB b1 a).bind fun x0=>
 bif x0 then
  some true
 else
  some false
noncomputable def Zao (a:(List Int)) (b:(Int→Option Bool)) (s0:Int):Option (Int⊕(Int⊕Unit)):=
 bif (decide (s0<(a.length:Int))) then
  (ZE a s0).bind fun x1=>
  (b x1).bind fun x2=>
  bif x2 then
   some (.inr (.inl s0))
  else
   some (.inl (w64 (s0+1)))
 else
  some (.inr (.inr ()))
noncomputable def ZaY (a:(List Int)) (b:(Int→Option Bool)):Option Int:=
 (lp (Zao a b) 0).bind fun r3=>
 match r3 with
 | (.inl r3)=>
  some r3
 | (.inr r3)=>
  some (-1)
noncomputable def Z7 (a:(List Int)) (b:(Int→Option Bool)):Option Bool:=
 (ZaY a b).bind fun x0=>
 bif (decide (0≤x0)) then
  some true
 else
  some false
noncomputable def Zdn (a:Zj) (s4:Int):Option (Int⊕(Unit⊕Unit)):=
 bif (decide (s4<(a.edges.length:Int))) then
  (ZE a.edges s4).bind fun x5=>
  (ZgD a x5.src x5.dst).bind fun x6=>
  bif x6 then
   bif (decide (0≤s4)) then
    bif (Nat.ble s4.toNat (List.length a.edges)) then
     (ZaV (List.take s4.toNat a.edges) x5).bind fun x7=>
     bif x7 then
      some (.inr (.inl ()))
     else
      some (.inl (w64 (s4+1)))
    else
     none
   else
    none
  else
   some (.inr (.inl ()))
 else
  some (.inr (.inr ()))
noncomputable def Zdr (a:Zj) (s9:Int):Option (Int⊕(Unit⊕Unit)):=
 bif (decide (s9<(a.futures.length:Int))) then
  (ZE a.futures s9).bind fun x10=>
  (ZgD a x10.maker x10.user).bind fun x11=>
  bif x11 then
   (ZE a.parts x10.user).bind fun x12=>
   (Zbu x10.pos 1 (w64 (x12.work-1))).bind fun x13=>
   bif x13 then
    bif (decide (0≤s9)) then
     bif (Nat.ble s9.toNat (List.length a.futures)) then
      (ZaC (List.take s9.toNat a.futures) (fun z0=>Zdb z0 x10.user x10.pos)).bind fun x14=>
      bif x14 then
       some (.inr (.inl ()))
      else
       some (.inl (w64 (s9+1)))
     else
      none
    else
     none
   else
    some (.inr (.inl ()))
  else
   some (.inr (.inl ()))
 else
  some (.inr (.inr ()))
noncomputable def Zdp (a:Zj) (s16:Int):Option (Int⊕(Unit⊕Unit)):=
 bif (decide (s16<(a.barriers.length:Int))) then
  (ZE a.barriers s16).bind fun x17=>
  (ZgE a x17.ins).bind fun x18=>
  bif x18 then
   (ZgE a x17.outs).bind fun x19=>
   bif x19 then
    (Z7 x17.ins (fun z0=>Zdd z0 x17.outs)).bind fun x20=>
    bif x20 then
     some (.inr (.inl ()))
    else
     some (.inl (w64 (s16+1)))
   else
    some (.inr (.inl ()))
  else
   some (.inr (.inl ()))
 else
  some (.inr (.inr ()))
noncomputable def ZeQ (a:Zj):Option Int:=
 (Zbu (a.parts.length:Int) 1 16).bind fun x0=>
 bif x0 then
  bif (decide (48<(a.edges.length:Int))) then
   some 50
  else
   bif (decide (16<(a.futures.length:Int))) then
    some 50
   else
    bif (decide (4<(a.barriers.length:Int))) then
     some 50
    else
     (ZiQ a.period).bind fun x1=>
     bif x1.2 then
      bif (decide (4096<a.period)) then
       some 51
      else
       (Zbu a.deadline 1 a.period).bind fun x2=>
       bif x2 then
        (ZaX a.parts (fun z0=>ZeI z0)).bind fun x3=>
        bif x3 then
         some 52
        else
         (lp (Zdn a) 0).bind fun r8=>
         match r8 with
         | (.inl r8)=>
          some 53
         | (.inr r8)=>
          (lp (Zdr a) 0).bind fun r15=>
          match r15 with
          | (.inl r15)=>
           some 54
          | (.inr r15)=>
           (lp (Zdp a) 0).bind fun r21=>
           match r21 with
           | (.inl r21)=>
            some 55
           | (.inr r21)=>
            some 0
       else
        some 51
     else
      some 51
 else
  some 50
noncomputable def Zcg (a:(List Int)):Option Unit:=
 bif (Nat.blt 0 (List.length a)) then
  bif (Nat.ble (List.length a) lim) then
   some ()
  else
   none
 else
  none
noncomputable def Zt (a:Int) (b:Int) (c4:(List Zi)):Option Int:=
 (ZE c4 a).bind fun x0=>
 (ZE c4 b).bind fun x1=>
 some (w64 (x0.pos-x1.pos))
noncomputable def Zgo (a:Int):Option Int:=
 bif (decide (4294967296≤a)) then
  bif (decide (65536≤(Int.fdiv a (2 ^ 32)))) then
   bif (decide (256≤(Int.fdiv (Int.fdiv a (2 ^ 32)) (2 ^ 16)))) then
    bif (decide (0≤(IntKind.u8.wrap (Int.fdiv (Int.fdiv (Int.fdiv a (2 ^ 32)) (2 ^ 16)) (2 ^ 8))))) then
     (Zrm[(IntKind.u8.wrap (Int.fdiv (Int.fdiv (Int.fdiv a (2 ^ 32)) (2 ^ 16)) (2 ^ 8))).toNat]?).bind fun x0=>
     some (w64 (56+(w64 (x0.toNat:Int))))
    else
     none
   else
    bif (decide (0≤(IntKind.u8.wrap (Int.fdiv (Int.fdiv a (2 ^ 32)) (2 ^ 16))))) then
     (Zrm[(IntKind.u8.wrap (Int.fdiv (Int.fdiv a (2 ^ 32)) (2 ^ 16))).toNat]?).bind fun x1=>
     some (w64 (48+(w64 (x1.toNat:Int))))
    else
     none
  else
   bif (decide (256≤(Int.fdiv a (2 ^ 32)))) then
    bif (decide (0≤(IntKind.u8.wrap (Int.fdiv (Int.fdiv a (2 ^ 32)) (2 ^ 8))))) then
     (Zrm[(IntKind.u8.wrap (Int.fdiv (Int.fdiv a (2 ^ 32)) (2 ^ 8))).toNat]?).bind fun x2=>
     some (w64 (40+(w64 (x2.toNat:Int))))
    else
     none
   else
    bif (decide (0≤(IntKind.u8.wrap (Int.fdiv a (2 ^ 32))))) then
     (Zrm[(IntKind.u8.wrap (Int.fdiv a (2 ^ 32))).toNat]?).bind fun x3=>
     some (w64 (32+(w64 (x3.toNat:Int))))
    else
     none
 else
  bif (decide (65536≤a)) then
   bif (decide (256≤(Int.fdiv a (2 ^ 16)))) then
    bif (decide (0≤(IntKind.u8.wrap (Int.fdiv (Int.fdiv a (2 ^ 16)) (2 ^ 8))))) then
     (Zrm[(IntKind.u8.wrap (Int.fdiv (Int.fdiv a (2 ^ 16)) (2 ^ 8))).toNat]?).bind fun x4=>
     some (w64 (24+(w64 (x4.toNat:Int))))
    else
     none
   else
    bif (decide (0≤(IntKind.u8.wrap (Int.fdiv a (2 ^ 16))))) then
     (Zrm[(IntKind.u8.wrap (Int.fdiv a (2 ^ 16))).toNat]?).bind fun x5=>
     some (w64 (16+(w64 (x5.toNat:Int))))
    else
     none
  else
   bif (decide (256≤a)) then
    bif (decide (0≤(IntKind.u8.wrap (Int.fdiv a (2 ^ 8))))) then
     (Zrm[(IntKind.u8.wrap (Int.fdiv a (2 ^ 8))).toNat]?).bind fun x6=>
     some (w64 (8+(w64 (x6.toNat:Int))))
    else
     none
   else
    bif (decide (0≤(IntKind.u8.wrap a))) then
     (Zrm[(IntKind.u8.wrap a).toNat]?).bind fun x7=>
     some (w64 (0+(w64 (x7.toNat:Int))))
    else
     none
noncomputable def Zed (a:Int):Option Int:=
 (Zgo a).bind fun x0=>
 some x0
noncomputable def ZY (b:Int) (d:(Int→Int→Option Int)) (s1:Int×(List Int)):Option ((Int×(List Int))⊕(List Int)):=
 bif (decide (b<s1.1)) then
  (ZE s1.2 s1.1).bind fun x2=>
  (ZE s1.2 (w64 (s1.1-1))).bind fun x3=>
  (d x2 x3).bind fun x4=>
  bif (decide (x4<0)) then
   (ZE (List.set s1.2 s1.1.toNat x3) (w64 (s1.1-1))).bind fun x5=>
   some (.inl ((w64 (s1.1-1)),(List.set (List.set s1.2 s1.1.toNat x3) (w64 (s1.1-1)).toNat x2)))
  else
   some (.inr s1.2)
 else
  some (.inr s1.2)
noncomputable def Zam (b:Int) (c:Int) (d:(Int→Int→Option Int)) (s0:Int×(List Int)):Option ((Int×(List Int))⊕(List Int)):=
 bif (decide (s0.1<c)) then
  (lp (ZY b d) (s0.1,s0.2)).bind fun r6=>
  some (.inl ((w64 (s0.1+1)),r6))
 else
  some (.inr s0.2)
noncomputable def ZW (b:Int) (c:Int) (d:(Int→Int→Option Int)) (m0_0:(List Int)):Option (List Int):=
 (lp (Zam b c d) ((w64 (b+1)),m0_0)).bind fun r7=>
 some r7
noncomputable def ZK (c:Int) (d:Int) (e:(Int→Int→Option Int)) (s0:Int×(List Int)):Option ((Int×(List Int))⊕((List Int)⊕(List Int))):=
 bif (decide (c≤(w64 ((w64 (2*s0.1))+1)))) then
  some (.inr (.inl s0.2))
 else
  bif (decide ((w64 ((w64 ((w64 (2*s0.1))+1))+1))<c)) then
   (ZE s0.2 (w64 (d+(w64 ((w64 (2*s0.1))+1))))).bind fun x1=>
   (ZE s0.2 (w64 ((w64 (d+(w64 ((w64 (2*s0.1))+1))))+1))).bind fun x2=>
   (e x1 x2).bind fun x3=>
   bif (decide (x3<0)) then
    (ZE s0.2 (w64 (d+s0.1))).bind fun x4=>
    (ZE s0.2 (w64 (d+(w64 ((w64 ((w64 (2*s0.1))+1))+1))))).bind fun x5=>
    (e x4 x5).bind fun x6=>
    bif (decide (x6<0)) then
     (ZE (List.set s0.2 (w64 (d+s0.1)).toNat x5) (w64 (d+(w64 ((w64 ((w64 (2*s0.1))+1))+1))))).bind fun x7=>
     some (.inl ((w64 ((w64 ((w64 (2*s0.1))+1))+1)),(List.set (List.set s0.2 (w64 (d+s0.1)).toNat x5) (w64 (d+(w64 ((w64 ((w64 (2*s0.1))+1))+1)))).toNat x4)))
    else
     some (.inr (.inr s0.2))
   else
    (ZE s0.2 (w64 (d+s0.1))).bind fun x8=>
    (e x8 x1).bind fun x9=>
    bif (decide (x9<0)) then
     (ZE (List.set s0.2 (w64 (d+s0.1)).toNat x1) (w64 (d+(w64 ((w64 (2*s0.1))+1))))).bind fun x10=>
     some (.inl ((w64 ((w64 (2*s0.1))+1)),(List.set (List.set s0.2 (w64 (d+s0.1)).toNat x1) (w64 (d+(w64 ((w64 (2*s0.1))+1)))).toNat x8)))
    else
     some (.inr (.inr s0.2))
  else
   (ZE s0.2 (w64 (d+s0.1))).bind fun x11=>
   (ZE s0.2 (w64 (d+(w64 ((w64 (2*s0.1))+1))))).bind fun x12=>
   (e x11 x12).bind fun x13=>
   bif (decide (x13<0)) then
    (ZE (List.set s0.2 (w64 (d+s0.1)).toNat x12) (w64 (d+(w64 ((w64 (2*s0.1))+1))))).bind fun x14=>
    some (.inl ((w64 ((w64 (2*s0.1))+1)),(List.set (List.set s0.2 (w64 (d+s0.1)).toNat x12) (w64 (d+(w64 ((w64 (2*s0.1))+1)))).toNat x11)))
   else
    some (.inr (.inr s0.2))
noncomputable def ZaD (b:Int) (c:Int) (d:Int) (e:(Int→Int→Option Int)) (m0_0:(List Int)):Option (List Int):=
 (lp (ZK c d e) (b,m0_0)).bind fun r15=>
 match r15 with
 | (.inl r15)=>
  some r15
 | (.inr r15)=>
  some r15
noncomputable def ZaJ (b:Int) (c:Int) (d:(Int→Int→Option Int)) (s0:Int×(List Int)):Option ((Int×(List Int))⊕(List Int)):=
 bif (decide (0≤s0.1)) then
  (ZaD s0.1 (w64 (c-b)) b d s0.2).bind fun x1=>
  some (.inl ((w64 (s0.1-1)),x1))
 else
  some (.inr s0.2)
noncomputable def ZaK (b:Int) (d:(Int→Int→Option Int)) (s3:Int×(List Int)):Option ((Int×(List Int))⊕(List Int)):=
 bif (decide (0≤s3.1)) then
  (ZE s3.2 (w64 (b+s3.1))).bind fun x4=>
  (ZE s3.2 b).bind fun x5=>
  (ZE (List.set s3.2 b.toNat x4) (w64 (b+s3.1))).bind fun x6=>
  (ZaD 0 s3.1 b d (List.set (List.set s3.2 b.toNat x4) (w64 (b+s3.1)).toNat x5)).bind fun x7=>
  some (.inl ((w64 (s3.1-1)),x7))
 else
  some (.inr s3.2)
noncomputable def Z8 (b:Int) (c:Int) (d:(Int→Int→Option Int)) (m0_0:(List Int)):Option (List Int):=
 (lp (ZaJ b c d) ((w64 (Int.tdiv (w64 ((w64 (c-b))-1)) 2)),m0_0)).bind fun r2=>
 (lp (ZaK b d) ((w64 ((w64 (c-b))-1)),r2)).bind fun r8=>
 some r8
noncomputable def ZaS (b:Int) (c:Int) (e:(Int→Int→Option Int)) (m0_0:(List Int)) (m1_0:Int):Option (Int×Int×Int):=
 (ZE m0_0 c).bind fun x0=>
 (ZE m0_0 b).bind fun x1=>
 (e x0 x1).bind fun x2=>
 bif (decide (x2<0)) then
  some (c,b,(w64 (m1_0+1)))
 else
  some (b,c,m1_0)
noncomputable def ZaR (b:Int) (c:Int) (d:Int) (f:(Int→Int→Option Int)) (m0_0:(List Int)) (m1_0:Int):Option (Int×Int):=
 (ZaS b c f m0_0 m1_0).bind fun x0=>
 (ZaS x0.2.1 d f m0_0 x0.2.2).bind fun x1=>
 (ZaS x0.1 x1.1 f m0_0 x1.2.2).bind fun x2=>
 some (x2.2.1,x2.2.2)
noncomputable def Z9 (b:Int) (d:(Int→Int→Option Int)) (m0_0:(List Int)) (m1_0:Int):Option (Int×Int):=
 (ZaR (w64 (b-1)) b (w64 (b+1)) d m0_0 m1_0).bind fun x0=>
 some (x0.1,x0.2)
noncomputable def ZO (b:Int) (c:Int) (d:(Int→Int→Option Int)) (m0_0:(List Int)):Option (Int×Int):=
 bif (decide (8≤(w64 (c-b)))) then
  bif (decide (50≤(w64 (c-b)))) then
   (Z9 (w64 (b+(w64 ((w64 (Int.tdiv (w64 (c-b)) 4))*1)))) d m0_0 0).bind fun x0=>
   (Z9 (w64 (b+(w64 ((w64 (Int.tdiv (w64 (c-b)) 4))*2)))) d m0_0 x0.2).bind fun x1=>
   (Z9 (w64 (b+(w64 ((w64 (Int.tdiv (w64 (c-b)) 4))*3)))) d m0_0 x1.2).bind fun x2=>
   (ZaR x0.1 x1.1 x2.1 d m0_0 x2.2).bind fun x3=>
   bif (x3.2==0) then
    some (x3.1,1)
   else
    bif (x3.2==12) then
     some (x3.1,2)
    else
     some (x3.1,0)
  else
   (ZaR (w64 (b+(w64 ((w64 (Int.tdiv (w64 (c-b)) 4))*1)))) (w64 (b+(w64 ((w64 (Int.tdiv (w64 (c-b)) 4))*2)))) (w64 (b+(w64 ((w64 (Int.tdiv (w64 (c-b)) 4))*3)))) d m0_0 0).bind fun x4=>
   bif (x4.2==0) then
    some (x4.1,1)
   else
    bif (x4.2==12) then
     some (x4.1,2)
    else
     some (x4.1,0)
 else
  some ((w64 (b+(w64 ((w64 (Int.tdiv (w64 (c-b)) 4))*2)))),1)
noncomputable def Z6 (s0:Int×Int×(List Int)):Option ((Int×Int×(List Int))⊕(List Int)):=
 bif (decide (s0.1<s0.2.1)) then
  (ZE s0.2.2 s0.2.1).bind fun x1=>
  (ZE s0.2.2 s0.1).bind fun x2=>
  (ZE (List.set s0.2.2 s0.1.toNat x1) s0.2.1).bind fun x3=>
  some (.inl ((w64 (s0.1+1)),(w64 (s0.2.1-1)),(List.set (List.set s0.2.2 s0.1.toNat x1) s0.2.1.toNat x2)))
 else
  some (.inr s0.2.2)
noncomputable def ZN (b:Int) (c:Int) (d:(Int→Int→Option Int)) (m0_0:(List Int)):Option (List Int):=
 (lp (Z6) (b,(w64 (c-1)),m0_0)).bind fun r4=>
 some r4
noncomputable def ZL (c:Int) (d:(Int→Int→Option Int)) (s0:Int×Int×(List Int)) (s1:Int):Option (Int⊕Int):=
 bif (decide (s1<c)) then
  (ZE s0.2.2 s1).bind fun x2=>
  (ZE s0.2.2 (w64 (s1-1))).bind fun x3=>
  (d x2 x3).bind fun x4=>
  bif (decide (x4<0)) then
   some (.inr s1)
  else
   some (.inl (w64 (s1+1)))
 else
  some (.inr s1)
noncomputable def ZS (d:(Int→Int→Option Int)) (s9:Int×(List Int)):Option ((Int×(List Int))⊕(List Int)):=
 bif (decide (1≤s9.1)) then
  (ZE s9.2 s9.1).bind fun x10=>
  (ZE s9.2 (w64 (s9.1-1))).bind fun x11=>
  (d x10 x11).bind fun x12=>
  bif (decide (x12<0)) then
   (ZE (List.set s9.2 s9.1.toNat x11) (w64 (s9.1-1))).bind fun x13=>
   some (.inl ((w64 (s9.1-1)),(List.set (List.set s9.2 s9.1.toNat x11) (w64 (s9.1-1)).toNat x10)))
  else
   some (.inr s9.2)
 else
  some (.inr s9.2)
noncomputable def ZH (c:Int) (d:(Int→Int→Option Int)) (s15:Int×(List Int)):Option ((Int×(List Int))⊕(List Int)):=
 bif (decide (s15.1<c)) then
  (ZE s15.2 s15.1).bind fun x16=>
  (ZE s15.2 (w64 (s15.1-1))).bind fun x17=>
  (d x16 x17).bind fun x18=>
  bif (decide (x18<0)) then
   (ZE (List.set s15.2 s15.1.toNat x17) (w64 (s15.1-1))).bind fun x19=>
   some (.inl ((w64 (s15.1+1)),(List.set (List.set s15.2 s15.1.toNat x17) (w64 (s15.1-1)).toNat x16)))
  else
   some (.inr s15.2)
 else
  some (.inr s15.2)
noncomputable def ZR (b:Int) (c:Int) (d:(Int→Int→Option Int)) (s0:Int×Int×(List Int)):Option ((Int×Int×(List Int))⊕((List Int)⊕((List Int)⊕(List Int)))):=
 bif (decide (s0.2.1<5)) then
  (lp (ZL c d s0) s0.1).bind fun r5=>
  bif (r5==c) then
   some (.inr (.inl s0.2.2))
  else
   bif (decide ((w64 (c-b))<50)) then
    some (.inr (.inr (.inl s0.2.2)))
   else
    (ZE s0.2.2 (w64 (r5-1))).bind fun x6=>
    (ZE s0.2.2 r5).bind fun x7=>
    (ZE (List.set s0.2.2 r5.toNat x6) (w64 (r5-1))).bind fun x8=>
    bif (decide (2≤(w64 (r5-b)))) then
     (lp (ZS d) ((w64 (r5-1)),(List.set (List.set s0.2.2 r5.toNat x6) (w64 (r5-1)).toNat x7))).bind fun r14=>
     bif (decide (2≤(w64 (c-r5)))) then
      (lp (ZH c d) ((w64 (r5+1)),r14)).bind fun r20=>
      some (.inl (r5,(w64 (s0.2.1+1)),r20))
     else
      some (.inl (r5,(w64 (s0.2.1+1)),r14))
    else
     bif (decide (2≤(w64 (c-r5)))) then
      (lp (ZH c d) ((w64 (r5+1)),(List.set (List.set s0.2.2 r5.toNat x6) (w64 (r5-1)).toNat x7))).bind fun r26=>
      some (.inl (r5,(w64 (s0.2.1+1)),r26))
     else
      some (.inl (r5,(w64 (s0.2.1+1)),(List.set (List.set s0.2.2 r5.toNat x6) (w64 (r5-1)).toNat x7)))
 else
  some (.inr (.inr (.inr s0.2.2)))
noncomputable def ZP (b:Int) (c:Int) (d:(Int→Int→Option Int)) (m0_0:(List Int)):Option ((List Int)⊕(List Int)):=
 (lp (ZR b c d) ((w64 (b+1)),0,m0_0)).bind fun r27=>
 match r27 with
 | (.inl r27)=>
  some (.inl r27)
 | (.inr (.inl r27))=>
  some (.inr r27)
 | (.inr (.inr r27))=>
  some (.inr r27)
noncomputable def Zaz (b:Int) (c:Int) (d:Int) (m0_0:(List Int)) (e:(Int→Int→Option Int)) (x0:Int) (x1:Int) (s3:Int):Option (Int⊕Int):=
 bif (decide (s3≤(w64 (c-1)))) then
  (ZE (List.set (List.set m0_0 b.toNat x0) d.toNat x1) s3).bind fun x4=>
  (ZE (List.set (List.set m0_0 b.toNat x0) d.toNat x1) b).bind fun x5=>
  (e x4 x5).bind fun x6=>
  bif (decide (x6<0)) then
   some (.inl (w64 (s3+1)))
  else
   some (.inr s3)
 else
  some (.inr s3)
noncomputable def Zay (b:Int) (d:Int) (m0_0:(List Int)) (e:(Int→Int→Option Int)) (x0:Int) (x1:Int) (r7:Int) (s8:Int):Option (Int⊕Int):=
 bif (decide (r7≤s8)) then
  (ZE (List.set (List.set m0_0 b.toNat x0) d.toNat x1) s8).bind fun x9=>
  (ZE (List.set (List.set m0_0 b.toNat x0) d.toNat x1) b).bind fun x10=>
  (e x9 x10).bind fun x11=>
  bif (decide (x11<0)) then
   some (.inr s8)
  else
   some (.inl (w64 (s8-1)))
 else
  some (.inr s8)
noncomputable def ZaA (b:Int) (e:(Int→Int→Option Int)) (s19:Int×Int×(List Int)) (s20:Int):Option (Int⊕Int):=
 bif (decide (s20≤s19.2.1)) then
  (ZE s19.2.2 s20).bind fun x21=>
  (ZE s19.2.2 b).bind fun x22=>
  (e x21 x22).bind fun x23=>
  bif (decide (x23<0)) then
   some (.inl (w64 (s20+1)))
  else
   some (.inr s20)
 else
  some (.inr s20)
noncomputable def Zav (b:Int) (e:(Int→Int→Option Int)) (s19:Int×Int×(List Int)) (r24:Int) (s25:Int):Option (Int⊕Int):=
 bif (decide (r24≤s25)) then
  (ZE s19.2.2 s25).bind fun x26=>
  (ZE s19.2.2 b).bind fun x27=>
  (e x26 x27).bind fun x28=>
  bif (decide (x28<0)) then
   some (.inr s25)
  else
   some (.inl (w64 (s25-1)))
 else
  some (.inr s25)
noncomputable def Za4 (b:Int) (e:(Int→Int→Option Int)) (s19:Int×Int×(List Int)):Option ((Int×Int×(List Int))⊕(Int×(List Int))):=
 (lp (ZaA b e s19) s19.1).bind fun r24=>
 (lp (Zav b e s19 r24) s19.2.1).bind fun r29=>
 bif (decide (r29<r24)) then
  some (.inr (r29,s19.2.2))
 else
  (ZE s19.2.2 r29).bind fun x30=>
  (ZE s19.2.2 r24).bind fun x31=>
  (ZE (List.set s19.2.2 r24.toNat x30) r29).bind fun x32=>
  some (.inl ((w64 (r24+1)),(w64 (r29-1)),(List.set (List.set s19.2.2 r24.toNat x30) r29.toNat x31)))
noncomputable def Zr (b:Int) (c:Int) (d:Int) (e:(Int→Int→Option Int)) (m0_0:(List Int)):Option ((Int×(List Int))⊕(Int×(List Int))):=
 (ZE m0_0 d).bind fun x0=>
 (ZE m0_0 b).bind fun x1=>
 (ZE (List.set m0_0 b.toNat x0) d).bind fun x2=>
 (lp (Zaz b c d m0_0 e x0 x1) (w64 (b+1))).bind fun r7=>
 (lp (Zay b d m0_0 e x0 x1 r7) (w64 (c-1))).bind fun r12=>
 bif (decide (r12<r7)) then
  (ZE (List.set (List.set m0_0 b.toNat x0) d.toNat x1) b).bind fun x13=>
  (ZE (List.set (List.set m0_0 b.toNat x0) d.toNat x1) r12).bind fun x14=>
  (ZE (List.set (List.set (List.set m0_0 b.toNat x0) d.toNat x1) r12.toNat x13) b).bind fun x15=>
  some (.inl (r12,(List.set (List.set (List.set (List.set m0_0 b.toNat x0) d.toNat x1) r12.toNat x13) b.toNat x14)))
 else
  (ZE (List.set (List.set m0_0 b.toNat x0) d.toNat x1) r12).bind fun x16=>
  (ZE (List.set (List.set m0_0 b.toNat x0) d.toNat x1) r7).bind fun x17=>
  (ZE (List.set (List.set (List.set m0_0 b.toNat x0) d.toNat x1) r7.toNat x16) r12).bind fun x18=>
  (lp (Za4 b e) ((w64 (r7+1)),(w64 (r12-1)),(List.set (List.set (List.set (List.set m0_0 b.toNat x0) d.toNat x1) r7.toNat x16) r12.toNat x17))).bind fun r33=>
  (ZE r33.2 b).bind fun x34=>
  (ZE r33.2 r33.1).bind fun x35=>
  (ZE (List.set r33.2 r33.1.toNat x34) b).bind fun x36=>
  some (.inr (r33.1,(List.set (List.set r33.2 r33.1.toNat x34) b.toNat x35)))
noncomputable def Zaf (b:Int) (e:(Int→Int→Option Int)) (s3:Int×Int×(List Int)) (s4:Int):Option (Int⊕Int):=
 bif (decide (s4≤s3.2.1)) then
  (ZE s3.2.2 b).bind fun x5=>
  (ZE s3.2.2 s4).bind fun x6=>
  (e x5 x6).bind fun x7=>
  bif (decide (x7<0)) then
   some (.inr s4)
  else
   some (.inl (w64 (s4+1)))
 else
  some (.inr s4)
noncomputable def Zag (b:Int) (e:(Int→Int→Option Int)) (s3:Int×Int×(List Int)) (r8:Int) (s9:Int):Option (Int⊕Int):=
 bif (decide (r8≤s9)) then
  (ZE s3.2.2 b).bind fun x10=>
  (ZE s3.2.2 s9).bind fun x11=>
  (e x10 x11).bind fun x12=>
  bif (decide (x12<0)) then
   some (.inl (w64 (s9-1)))
  else
   some (.inr s9)
 else
  some (.inr s9)
noncomputable def Zaw (b:Int) (e:(Int→Int→Option Int)) (s3:Int×Int×(List Int)):Option ((Int×Int×(List Int))⊕(Int×(List Int))):=
 (lp (Zaf b e s3) s3.1).bind fun r8=>
 (lp (Zag b e s3 r8) s3.2.1).bind fun r13=>
 bif (decide (r13<r8)) then
  some (.inr (r8,s3.2.2))
 else
  (ZE s3.2.2 r13).bind fun x14=>
  (ZE s3.2.2 r8).bind fun x15=>
  (ZE (List.set s3.2.2 r8.toNat x14) r13).bind fun x16=>
  some (.inl ((w64 (r8+1)),(w64 (r13-1)),(List.set (List.set s3.2.2 r8.toNat x14) r13.toNat x15)))
noncomputable def ZC (b:Int) (c:Int) (d:Int) (e:(Int→Int→Option Int)) (m0_0:(List Int)):Option (Int×(List Int)):=
 (ZE m0_0 d).bind fun x0=>
 (ZE m0_0 b).bind fun x1=>
 (ZE (List.set m0_0 b.toNat x0) d).bind fun x2=>
 (lp (Zaw b e) ((w64 (b+1)),(w64 (c-1)),(List.set (List.set m0_0 b.toNat x0) d.toNat x1))).bind fun r17=>
 some (r17.1,r17.2)
noncomputable def Zcs (a:Int):Option Int:=
 (Zed (IntKind.u64.wrap a)).bind fun x0=>
 bif (decide (x0<0)) then
  none
 else
  some (IntKind.u64.wrap (1*2 ^ (min (x0).toNat IntKind.u64.bits)))
noncomputable def Zdx:Option Unit:=
 some ()
noncomputable def ZaI (b:Int) (c:Int) (x0:Int) (s1:Int×(List Int)×Int):Option ((Int×(List Int)×Int)⊕(List Int)):=
 bif (decide (s1.1≤(w64 ((w64 (b+(w64 ((w64 (Int.tdiv (w64 (c-b)) 4))*2))))+1)))) then
  Zdx.bind fun x2=>
  bif (decide ((w64 (c-b))≤(w64 (IntKind.u64.wrap (BitVec.ofInt IntKind.u64.bits (IntKind.u64.wrap (BitVec.ofInt IntKind.u64.bits (IntKind.u64.wrap (BitVec.ofInt IntKind.u64.bits (IntKind.u64.wrap (BitVec.ofInt IntKind.u64.bits s1.2.2 ^^^ BitVec.ofInt IntKind.u64.bits (IntKind.u64.wrap (s1.2.2*2 ^ 13))).toNat) ^^^ BitVec.ofInt IntKind.u64.bits (Int.fdiv (IntKind.u64.wrap (BitVec.ofInt IntKind.u64.bits s1.2.2 ^^^ BitVec.ofInt IntKind.u64.bits (IntKind.u64.wrap (s1.2.2*2 ^ 13))).toNat) (2 ^ 7))).toNat) ^^^ BitVec.ofInt IntKind.u64.bits (IntKind.u64.wrap ((IntKind.u64.wrap (BitVec.ofInt IntKind.u64.bits (IntKind.u64.wrap (BitVec.ofInt IntKind.u64.bits s1.2.2 ^^^ BitVec.ofInt IntKind.u64.bits (IntKind.u64.wrap (s1.2.2*2 ^ 13))).toNat) ^^^ BitVec.ofInt IntKind.u64.bits (Int.fdiv (IntKind.u64.wrap (BitVec.ofInt IntKind.u64.bits s1.2.2 ^^^ BitVec.ofInt IntKind.u64.bits (IntKind.u64.wrap (s1.2.2*2 ^ 13))).toNat) (2 ^ 7))).toNat)*2 ^ 17))).toNat) &&& BitVec.ofInt IntKind.u64.bits (IntKind.u64.wrap (x0-1))).toNat)))) then
   (ZE s1.2.1 (w64 (b+(w64 ((w64 (IntKind.u64.wrap (BitVec.ofInt IntKind.u64.bits (IntKind.u64.wrap (BitVec.ofInt IntKind.u64.bits (IntKind.u64.wrap (BitVec.ofInt IntKind.u64.bits (IntKind.u64.wrap (BitVec.ofInt IntKind.u64.bits s1.2.2 ^^^ BitVec.ofInt IntKind.u64.bits (IntKind.u64.wrap (s1.2.2*2 ^ 13))).toNat) ^^^ BitVec.ofInt IntKind.u64.bits (Int.fdiv (IntKind.u64.wrap (BitVec.ofInt IntKind.u64.bits s1.2.2 ^^^ BitVec.ofInt IntKind.u64.bits (IntKind.u64.wrap (s1.2.2*2 ^ 13))).toNat) (2 ^ 7))).toNat) ^^^ BitVec.ofInt IntKind.u64.bits (IntKind.u64.wrap ((IntKind.u64.wrap (BitVec.ofInt IntKind.u64.bits (IntKind.u64.wrap (BitVec.ofInt IntKind.u64.bits s1.2.2 ^^^ BitVec.ofInt IntKind.u64.bits (IntKind.u64.wrap (s1.2.2*2 ^ 13))).toNat) ^^^ BitVec.ofInt IntKind.u64.bits (Int.fdiv (IntKind.u64.wrap (BitVec.ofInt IntKind.u64.bits s1.2.2 ^^^ BitVec.ofInt IntKind.u64.bits (IntKind.u64.wrap (s1.2.2*2 ^ 13))).toNat) (2 ^ 7))).toNat)*2 ^ 17))).toNat) &&& BitVec.ofInt IntKind.u64.bits (IntKind.u64.wrap (x0-1))).toNat))-(w64 (c-b))))))).bind fun x3=>
   (ZE s1.2.1 s1.1).bind fun x4=>
   (ZE (List.set s1.2.1 s1.1.toNat x3) (w64 (b+(w64 ((w64 (IntKind.u64.wrap (BitVec.ofInt IntKind.u64.bits (IntKind.u64.wrap (BitVec.ofInt IntKind.u64.bits (IntKind.u64.wrap (BitVec.ofInt IntKind.u64.bits (IntKind.u64.wrap (BitVec.ofInt IntKind.u64.bits s1.2.2 ^^^ BitVec.ofInt IntKind.u64.bits (IntKind.u64.wrap (s1.2.2*2 ^ 13))).toNat) ^^^ BitVec.ofInt IntKind.u64.bits (Int.fdiv (IntKind.u64.wrap (BitVec.ofInt IntKind.u64.bits s1.2.2 ^^^ BitVec.ofInt IntKind.u64.bits (IntKind.u64.wrap (s1.2.2*2 ^ 13))).toNat) (2 ^ 7))).toNat) ^^^ BitVec.ofInt IntKind.u64.bits (IntKind.u64.wrap ((IntKind.u64.wrap (BitVec.ofInt IntKind.u64.bits (IntKind.u64.wrap (BitVec.ofInt IntKind.u64.bits s1.2.2 ^^^ BitVec.ofInt IntKind.u64.bits (IntKind.u64.wrap (s1.2.2*2 ^ 13))).toNat) ^^^ BitVec.ofInt IntKind.u64.bits (Int.fdiv (IntKind.u64.wrap (BitVec.ofInt IntKind.u64.bits s1.2.2 ^^^ BitVec.ofInt IntKind.u64.bits (IntKind.u64.wrap (s1.2.2*2 ^ 13))).toNat) (2 ^ 7))).toNat)*2 ^ 17))).toNat) &&& BitVec.ofInt IntKind.u64.bits (IntKind.u64.wrap (x0-1))).toNat))-(w64 (c-b))))))).bind fun x5=>
   some (.inl ((w64 (s1.1+1)),(List.set (List.set s1.2.1 s1.1.toNat x3) (w64 (b+(w64 ((w64 (IntKind.u64.wrap (BitVec.ofInt IntKind.u64.bits (IntKind.u64.wrap (BitVec.ofInt IntKind.u64.bits (IntKind.u64.wrap (BitVec.ofInt IntKind.u64.bits (IntKind.u64.wrap (BitVec.ofInt IntKind.u64.bits s1.2.2 ^^^ BitVec.ofInt IntKind.u64.bits (IntKind.u64.wrap (s1.2.2*2 ^ 13))).toNat) ^^^ BitVec.ofInt IntKind.u64.bits (Int.fdiv (IntKind.u64.wrap (BitVec.ofInt IntKind.u64.bits s1.2.2 ^^^ BitVec.ofInt IntKind.u64.bits (IntKind.u64.wrap (s1.2.2*2 ^ 13))).toNat) (2 ^ 7))).toNat) ^^^ BitVec.ofInt IntKind.u64.bits (IntKind.u64.wrap ((IntKind.u64.wrap (BitVec.ofInt IntKind.u64.bits (IntKind.u64.wrap (BitVec.ofInt IntKind.u64.bits s1.2.2 ^^^ BitVec.ofInt IntKind.u64.bits (IntKind.u64.wrap (s1.2.2*2 ^ 13))).toNat) ^^^ BitVec.ofInt IntKind.u64.bits (Int.fdiv (IntKind.u64.wrap (BitVec.ofInt IntKind.u64.bits s1.2.2 ^^^ BitVec.ofInt IntKind.u64.bits (IntKind.u64.wrap (s1.2.2*2 ^ 13))).toNat) (2 ^ 7))).toNat)*2 ^ 17))).toNat) &&& BitVec.ofInt IntKind.u64.bits (IntKind.u64.wrap (x0-1))).toNat))-(w64 (c-b)))))).toNat x4),(IntKind.u64.wrap (BitVec.ofInt IntKind.u64.bits (IntKind.u64.wrap (BitVec.ofInt IntKind.u64.bits (IntKind.u64.wrap (BitVec.ofInt IntKind.u64.bits s1.2.2 ^^^ BitVec.ofInt IntKind.u64.bits (IntKind.u64.wrap (s1.2.2*2 ^ 13))).toNat) ^^^ BitVec.ofInt IntKind.u64.bits (Int.fdiv (IntKind.u64.wrap (BitVec.ofInt IntKind.u64.bits s1.2.2 ^^^ BitVec.ofInt IntKind.u64.bits (IntKind.u64.wrap (s1.2.2*2 ^ 13))).toNat) (2 ^ 7))).toNat) ^^^ BitVec.ofInt IntKind.u64.bits (IntKind.u64.wrap ((IntKind.u64.wrap (BitVec.ofInt IntKind.u64.bits (IntKind.u64.wrap (BitVec.ofInt IntKind.u64.bits s1.2.2 ^^^ BitVec.ofInt IntKind.u64.bits (IntKind.u64.wrap (s1.2.2*2 ^ 13))).toNat) ^^^ BitVec.ofInt IntKind.u64.bits (Int.fdiv (IntKind.u64.wrap (BitVec.ofInt IntKind.u64.bits s1.2.2 ^^^ BitVec.ofInt IntKind.u64.bits (IntKind.u64.wrap (s1.2.2*2 ^ 13))).toNat) (2 ^ 7))).toNat)*2 ^ 17))).toNat)))
  else
   (ZE s1.2.1 (w64 (b+(w64 (IntKind.u64.wrap (BitVec.ofInt IntKind.u64.bits (IntKind.u64.wrap (BitVec.ofInt IntKind.u64.bits (IntKind.u64.wrap (BitVec.ofInt IntKind.u64.bits (IntKind.u64.wrap (BitVec.ofInt IntKind.u64.bits s1.2.2 ^^^ BitVec.ofInt IntKind.u64.bits (IntKind.u64.wrap (s1.2.2*2 ^ 13))).toNat) ^^^ BitVec.ofInt IntKind.u64.bits (Int.fdiv (IntKind.u64.wrap (BitVec.ofInt IntKind.u64.bits s1.2.2 ^^^ BitVec.ofInt IntKind.u64.bits (IntKind.u64.wrap (s1.2.2*2 ^ 13))).toNat) (2 ^ 7))).toNat) ^^^ BitVec.ofInt IntKind.u64.bits (IntKind.u64.wrap ((IntKind.u64.wrap (BitVec.ofInt IntKind.u64.bits (IntKind.u64.wrap (BitVec.ofInt IntKind.u64.bits s1.2.2 ^^^ BitVec.ofInt IntKind.u64.bits (IntKind.u64.wrap (s1.2.2*2 ^ 13))).toNat) ^^^ BitVec.ofInt IntKind.u64.bits (Int.fdiv (IntKind.u64.wrap (BitVec.ofInt IntKind.u64.bits s1.2.2 ^^^ BitVec.ofInt IntKind.u64.bits (IntKind.u64.wrap (s1.2.2*2 ^ 13))).toNat) (2 ^ 7))).toNat)*2 ^ 17))).toNat) &&& BitVec.ofInt IntKind.u64.bits (IntKind.u64.wrap (x0-1))).toNat))))).bind fun x6=>
   (ZE s1.2.1 s1.1).bind fun x7=>
   (ZE (List.set s1.2.1 s1.1.toNat x6) (w64 (b+(w64 (IntKind.u64.wrap (BitVec.ofInt IntKind.u64.bits (IntKind.u64.wrap (BitVec.ofInt IntKind.u64.bits (IntKind.u64.wrap (BitVec.ofInt IntKind.u64.bits (IntKind.u64.wrap (BitVec.ofInt IntKind.u64.bits s1.2.2 ^^^ BitVec.ofInt IntKind.u64.bits (IntKind.u64.wrap (s1.2.2*2 ^ 13))).toNat) ^^^ BitVec.ofInt IntKind.u64.bits (Int.fdiv (IntKind.u64.wrap (BitVec.ofInt IntKind.u64.bits s1.2.2 ^^^ BitVec.ofInt IntKind.u64.bits (IntKind.u64.wrap (s1.2.2*2 ^ 13))).toNat) (2 ^ 7))).toNat) ^^^ BitVec.ofInt IntKind.u64.bits (IntKind.u64.wrap ((IntKind.u64.wrap (BitVec.ofInt IntKind.u64.bits (IntKind.u64.wrap (BitVec.ofInt IntKind.u64.bits s1.2.2 ^^^ BitVec.ofInt IntKind.u64.bits (IntKind.u64.wrap (s1.2.2*2 ^ 13))).toNat) ^^^ BitVec.ofInt IntKind.u64.bits (Int.fdiv (IntKind.u64.wrap (BitVec.ofInt IntKind.u64.bits s1.2.2 ^^^ BitVec.ofInt IntKind.u64.bits (IntKind.u64.wrap (s1.2.2*2 ^ 13))).toNat) (2 ^ 7))).toNat)*2 ^ 17))).toNat) &&& BitVec.ofInt IntKind.u64.bits (IntKind.u64.wrap (x0-1))).toNat))))).bind fun x8=>
   some (.inl ((w64 (s1.1+1)),(List.set (List.set s1.2.1 s1.1.toNat x6) (w64 (b+(w64 (IntKind.u64.wrap (BitVec.ofInt IntKind.u64.bits (IntKind.u64.wrap (BitVec.ofInt IntKind.u64.bits (IntKind.u64.wrap (BitVec.ofInt IntKind.u64.bits (IntKind.u64.wrap (BitVec.ofInt IntKind.u64.bits s1.2.2 ^^^ BitVec.ofInt IntKind.u64.bits (IntKind.u64.wrap (s1.2.2*2 ^ 13))).toNat) ^^^ BitVec.ofInt IntKind.u64.bits (Int.fdiv (IntKind.u64.wrap (BitVec.ofInt IntKind.u64.bits s1.2.2 ^^^ BitVec.ofInt IntKind.u64.bits (IntKind.u64.wrap (s1.2.2*2 ^ 13))).toNat) (2 ^ 7))).toNat) ^^^ BitVec.ofInt IntKind.u64.bits (IntKind.u64.wrap ((IntKind.u64.wrap (BitVec.ofInt IntKind.u64.bits (IntKind.u64.wrap (BitVec.ofInt IntKind.u64.bits s1.2.2 ^^^ BitVec.ofInt IntKind.u64.bits (IntKind.u64.wrap (s1.2.2*2 ^ 13))).toNat) ^^^ BitVec.ofInt IntKind.u64.bits (Int.fdiv (IntKind.u64.wrap (BitVec.ofInt IntKind.u64.bits s1.2.2 ^^^ BitVec.ofInt IntKind.u64.bits (IntKind.u64.wrap (s1.2.2*2 ^ 13))).toNat) (2 ^ 7))).toNat)*2 ^ 17))).toNat) &&& BitVec.ofInt IntKind.u64.bits (IntKind.u64.wrap (x0-1))).toNat)))).toNat x7),(IntKind.u64.wrap (BitVec.ofInt IntKind.u64.bits (IntKind.u64.wrap (BitVec.ofInt IntKind.u64.bits (IntKind.u64.wrap (BitVec.ofInt IntKind.u64.bits s1.2.2 ^^^ BitVec.ofInt IntKind.u64.bits (IntKind.u64.wrap (s1.2.2*2 ^ 13))).toNat) ^^^ BitVec.ofInt IntKind.u64.bits (Int.fdiv (IntKind.u64.wrap (BitVec.ofInt IntKind.u64.bits s1.2.2 ^^^ BitVec.ofInt IntKind.u64.bits (IntKind.u64.wrap (s1.2.2*2 ^ 13))).toNat) (2 ^ 7))).toNat) ^^^ BitVec.ofInt IntKind.u64.bits (IntKind.u64.wrap ((IntKind.u64.wrap (BitVec.ofInt IntKind.u64.bits (IntKind.u64.wrap (BitVec.ofInt IntKind.u64.bits s1.2.2 ^^^ BitVec.ofInt IntKind.u64.bits (IntKind.u64.wrap (s1.2.2*2 ^ 13))).toNat) ^^^ BitVec.ofInt IntKind.u64.bits (Int.fdiv (IntKind.u64.wrap (BitVec.ofInt IntKind.u64.bits s1.2.2 ^^^ BitVec.ofInt IntKind.u64.bits (IntKind.u64.wrap (s1.2.2*2 ^ 13))).toNat) (2 ^ 7))).toNat)*2 ^ 17))).toNat)))
 else
  some (.inr s1.2.1)
noncomputable def Zad (b:Int) (c:Int) (d:(Int→Int→Option Int)) (m0_0:(List Int)):Option (List Int):=
 bif (decide (8≤(w64 (c-b)))) then
  (Zcs (w64 (c-b))).bind fun x0=>
  (lp (ZaI b c x0) ((w64 ((w64 (b+(w64 ((w64 (Int.tdiv (w64 (c-b)) 4))*2))))-1)),m0_0,(IntKind.u64.wrap (w64 (c-b))))).bind fun r9=>
  some r9
 else
  some m0_0
noncomputable def ZQ (e:(Int→Int→Option Int)) (rc:Int→Int→Int→(Int→Int→Option Int)→(List Int)→Option (List Int)) (s0:Int×Int×Int×Bool×Bool×(List Int)):Option ((Int×Int×Int×Bool×Bool×(List Int))⊕(List Int)):=
 bif s0.2.2.2.1 then
  bif s0.2.2.2.2.1 then
   bif (decide ((w64 (s0.2.1-s0.1))≤12)) then
    (ZW s0.1 s0.2.1 e s0.2.2.2.2.2).bind fun x1=>
    some (.inr x1)
   else
    bif (s0.2.2.1==0) then
     (Z8 s0.1 s0.2.1 e s0.2.2.2.2.2).bind fun x2=>
     some (.inr x2)
    else
     (ZO s0.1 s0.2.1 e s0.2.2.2.2.2).bind fun x3=>
     bif (x3.2==2) then
      (ZN s0.1 s0.2.1 e s0.2.2.2.2.2).bind fun x4=>
      (ZP s0.1 s0.2.1 e x4).bind fun x5=>
      match x5 with
      | (.inl x5)=>
       some (.inr x5)
      | (.inr x5)=>
       bif (decide (0<s0.1)) then
        (ZE x5 (w64 (s0.1-1))).bind fun x6=>
        (ZE x5 (w64 ((w64 (s0.2.1-1))-(w64 (x3.1-s0.1))))).bind fun x7=>
        (e x6 x7).bind fun x8=>
        bif (decide (x8<0)) then
         (Zr s0.1 s0.2.1 (w64 ((w64 (s0.2.1-1))-(w64 (x3.1-s0.1)))) e x5).bind fun x9=>
         match x9 with
         | (.inl x9)=>
          bif (decide ((w64 (x9.1-s0.1))<(w64 (s0.2.1-x9.1)))) then
           bif (decide ((w64 (Int.tdiv (w64 (s0.2.1-s0.1)) 8))≤(w64 (x9.1-s0.1)))) then
            (rc s0.1 x9.1 s0.2.2.1 e x9.2).bind fun x10=>
            some (.inl ((w64 (x9.1+1)),s0.2.1,s0.2.2.1,true,true,x10))
           else
            (rc s0.1 x9.1 s0.2.2.1 e x9.2).bind fun x11=>
            some (.inl ((w64 (x9.1+1)),s0.2.1,s0.2.2.1,false,true,x11))
          else
           bif (decide ((w64 (Int.tdiv (w64 (s0.2.1-s0.1)) 8))≤(w64 (s0.2.1-x9.1)))) then
            (rc (w64 (x9.1+1)) s0.2.1 s0.2.2.1 e x9.2).bind fun x12=>
            some (.inl (s0.1,x9.1,s0.2.2.1,true,true,x12))
           else
            (rc (w64 (x9.1+1)) s0.2.1 s0.2.2.1 e x9.2).bind fun x13=>
            some (.inl (s0.1,x9.1,s0.2.2.1,false,true,x13))
         | (.inr x9)=>
          bif (decide ((w64 (x9.1-s0.1))<(w64 (s0.2.1-x9.1)))) then
           bif (decide ((w64 (Int.tdiv (w64 (s0.2.1-s0.1)) 8))≤(w64 (x9.1-s0.1)))) then
            (rc s0.1 x9.1 s0.2.2.1 e x9.2).bind fun x14=>
            some (.inl ((w64 (x9.1+1)),s0.2.1,s0.2.2.1,true,false,x14))
           else
            (rc s0.1 x9.1 s0.2.2.1 e x9.2).bind fun x15=>
            some (.inl ((w64 (x9.1+1)),s0.2.1,s0.2.2.1,false,false,x15))
          else
           bif (decide ((w64 (Int.tdiv (w64 (s0.2.1-s0.1)) 8))≤(w64 (s0.2.1-x9.1)))) then
            (rc (w64 (x9.1+1)) s0.2.1 s0.2.2.1 e x9.2).bind fun x16=>
            some (.inl (s0.1,x9.1,s0.2.2.1,true,false,x16))
           else
            (rc (w64 (x9.1+1)) s0.2.1 s0.2.2.1 e x9.2).bind fun x17=>
            some (.inl (s0.1,x9.1,s0.2.2.1,false,false,x17))
        else
         (ZC s0.1 s0.2.1 (w64 ((w64 (s0.2.1-1))-(w64 (x3.1-s0.1)))) e x5).bind fun x18=>
         some (.inl (x18.1,s0.2.1,s0.2.2.1,true,true,x18.2))
       else
        (Zr s0.1 s0.2.1 (w64 ((w64 (s0.2.1-1))-(w64 (x3.1-s0.1)))) e x5).bind fun x19=>
        match x19 with
        | (.inl x19)=>
         bif (decide ((w64 (x19.1-s0.1))<(w64 (s0.2.1-x19.1)))) then
          bif (decide ((w64 (Int.tdiv (w64 (s0.2.1-s0.1)) 8))≤(w64 (x19.1-s0.1)))) then
           (rc s0.1 x19.1 s0.2.2.1 e x19.2).bind fun x20=>
           some (.inl ((w64 (x19.1+1)),s0.2.1,s0.2.2.1,true,true,x20))
          else
           (rc s0.1 x19.1 s0.2.2.1 e x19.2).bind fun x21=>
           some (.inl ((w64 (x19.1+1)),s0.2.1,s0.2.2.1,false,true,x21))
         else
          bif (decide ((w64 (Int.tdiv (w64 (s0.2.1-s0.1)) 8))≤(w64 (s0.2.1-x19.1)))) then
           (rc (w64 (x19.1+1)) s0.2.1 s0.2.2.1 e x19.2).bind fun x22=>
           some (.inl (s0.1,x19.1,s0.2.2.1,true,true,x22))
          else
           (rc (w64 (x19.1+1)) s0.2.1 s0.2.2.1 e x19.2).bind fun x23=>
           some (.inl (s0.1,x19.1,s0.2.2.1,false,true,x23))
        | (.inr x19)=>
         bif (decide ((w64 (x19.1-s0.1))<(w64 (s0.2.1-x19.1)))) then
          bif (decide ((w64 (Int.tdiv (w64 (s0.2.1-s0.1)) 8))≤(w64 (x19.1-s0.1)))) then
           (rc s0.1 x19.1 s0.2.2.1 e x19.2).bind fun x24=>
           some (.inl ((w64 (x19.1+1)),s0.2.1,s0.2.2.1,true,false,x24))
          else
           (rc s0.1 x19.1 s0.2.2.1 e x19.2).bind fun x25=>
           some (.inl ((w64 (x19.1+1)),s0.2.1,s0.2.2.1,false,false,x25))
         else
          bif (decide ((w64 (Int.tdiv (w64 (s0.2.1-s0.1)) 8))≤(w64 (s0.2.1-x19.1)))) then
           (rc (w64 (x19.1+1)) s0.2.1 s0.2.2.1 e x19.2).bind fun x26=>
           some (.inl (s0.1,x19.1,s0.2.2.1,true,false,x26))
          else
           (rc (w64 (x19.1+1)) s0.2.1 s0.2.2.1 e x19.2).bind fun x27=>
           some (.inl (s0.1,x19.1,s0.2.2.1,false,false,x27))
     else
      bif (x3.2==1) then
       (ZP s0.1 s0.2.1 e s0.2.2.2.2.2).bind fun x28=>
       match x28 with
       | (.inl x28)=>
        some (.inr x28)
       | (.inr x28)=>
        bif (decide (0<s0.1)) then
         (ZE x28 (w64 (s0.1-1))).bind fun x29=>
         (ZE x28 x3.1).bind fun x30=>
         (e x29 x30).bind fun x31=>
         bif (decide (x31<0)) then
          (Zr s0.1 s0.2.1 x3.1 e x28).bind fun x32=>
          match x32 with
          | (.inl x32)=>
           bif (decide ((w64 (x32.1-s0.1))<(w64 (s0.2.1-x32.1)))) then
            bif (decide ((w64 (Int.tdiv (w64 (s0.2.1-s0.1)) 8))≤(w64 (x32.1-s0.1)))) then
             (rc s0.1 x32.1 s0.2.2.1 e x32.2).bind fun x33=>
             some (.inl ((w64 (x32.1+1)),s0.2.1,s0.2.2.1,true,true,x33))
            else
             (rc s0.1 x32.1 s0.2.2.1 e x32.2).bind fun x34=>
             some (.inl ((w64 (x32.1+1)),s0.2.1,s0.2.2.1,false,true,x34))
           else
            bif (decide ((w64 (Int.tdiv (w64 (s0.2.1-s0.1)) 8))≤(w64 (s0.2.1-x32.1)))) then
             (rc (w64 (x32.1+1)) s0.2.1 s0.2.2.1 e x32.2).bind fun x35=>
             some (.inl (s0.1,x32.1,s0.2.2.1,true,true,x35))
            else
             (rc (w64 (x32.1+1)) s0.2.1 s0.2.2.1 e x32.2).bind fun x36=>
             some (.inl (s0.1,x32.1,s0.2.2.1,false,true,x36))
          | (.inr x32)=>
           bif (decide ((w64 (x32.1-s0.1))<(w64 (s0.2.1-x32.1)))) then
            bif (decide ((w64 (Int.tdiv (w64 (s0.2.1-s0.1)) 8))≤(w64 (x32.1-s0.1)))) then
             (rc s0.1 x32.1 s0.2.2.1 e x32.2).bind fun x37=>
             some (.inl ((w64 (x32.1+1)),s0.2.1,s0.2.2.1,true,false,x37))
            else
             (rc s0.1 x32.1 s0.2.2.1 e x32.2).bind fun x38=>
             some (.inl ((w64 (x32.1+1)),s0.2.1,s0.2.2.1,false,false,x38))
           else
            bif (decide ((w64 (Int.tdiv (w64 (s0.2.1-s0.1)) 8))≤(w64 (s0.2.1-x32.1)))) then
             (rc (w64 (x32.1+1)) s0.2.1 s0.2.2.1 e x32.2).bind fun x39=>
             some (.inl (s0.1,x32.1,s0.2.2.1,true,false,x39))
            else
             (rc (w64 (x32.1+1)) s0.2.1 s0.2.2.1 e x32.2).bind fun x40=>
             some (.inl (s0.1,x32.1,s0.2.2.1,false,false,x40))
         else
          (ZC s0.1 s0.2.1 x3.1 e x28).bind fun x41=>
          some (.inl (x41.1,s0.2.1,s0.2.2.1,true,true,x41.2))
        else
         (Zr s0.1 s0.2.1 x3.1 e x28).bind fun x42=>
         match x42 with
         | (.inl x42)=>
          bif (decide ((w64 (x42.1-s0.1))<(w64 (s0.2.1-x42.1)))) then
           bif (decide ((w64 (Int.tdiv (w64 (s0.2.1-s0.1)) 8))≤(w64 (x42.1-s0.1)))) then
            (rc s0.1 x42.1 s0.2.2.1 e x42.2).bind fun x43=>
            some (.inl ((w64 (x42.1+1)),s0.2.1,s0.2.2.1,true,true,x43))
           else
            (rc s0.1 x42.1 s0.2.2.1 e x42.2).bind fun x44=>
            some (.inl ((w64 (x42.1+1)),s0.2.1,s0.2.2.1,false,true,x44))
          else
           bif (decide ((w64 (Int.tdiv (w64 (s0.2.1-s0.1)) 8))≤(w64 (s0.2.1-x42.1)))) then
            (rc (w64 (x42.1+1)) s0.2.1 s0.2.2.1 e x42.2).bind fun x45=>
            some (.inl (s0.1,x42.1,s0.2.2.1,true,true,x45))
           else
            (rc (w64 (x42.1+1)) s0.2.1 s0.2.2.1 e x42.2).bind fun x46=>
            some (.inl (s0.1,x42.1,s0.2.2.1,false,true,x46))
         | (.inr x42)=>
          bif (decide ((w64 (x42.1-s0.1))<(w64 (s0.2.1-x42.1)))) then
           bif (decide ((w64 (Int.tdiv (w64 (s0.2.1-s0.1)) 8))≤(w64 (x42.1-s0.1)))) then
            (rc s0.1 x42.1 s0.2.2.1 e x42.2).bind fun x47=>
            some (.inl ((w64 (x42.1+1)),s0.2.1,s0.2.2.1,true,false,x47))
           else
            (rc s0.1 x42.1 s0.2.2.1 e x42.2).bind fun x48=>
            some (.inl ((w64 (x42.1+1)),s0.2.1,s0.2.2.1,false,false,x48))
          else
           bif (decide ((w64 (Int.tdiv (w64 (s0.2.1-s0.1)) 8))≤(w64 (s0.2.1-x42.1)))) then
            (rc (w64 (x42.1+1)) s0.2.1 s0.2.2.1 e x42.2).bind fun x49=>
            some (.inl (s0.1,x42.1,s0.2.2.1,true,false,x49))
           else
            (rc (w64 (x42.1+1)) s0.2.1 s0.2.2.1 e x42.2).bind fun x50=>
            some (.inl (s0.1,x42.1,s0.2.2.1,false,false,x50))
      else
       bif (decide (0<s0.1)) then
        (ZE s0.2.2.2.2.2 (w64 (s0.1-1))).bind fun x51=>
        (ZE s0.2.2.2.2.2 x3.1).bind fun x52=>
        (e x51 x52).bind fun x53=>
        bif (decide (x53<0)) then
         (Zr s0.1 s0.2.1 x3.1 e s0.2.2.2.2.2).bind fun x54=>
         match x54 with
         | (.inl x54)=>
          bif (decide ((w64 (x54.1-s0.1))<(w64 (s0.2.1-x54.1)))) then
           bif (decide ((w64 (Int.tdiv (w64 (s0.2.1-s0.1)) 8))≤(w64 (x54.1-s0.1)))) then
            (rc s0.1 x54.1 s0.2.2.1 e x54.2).bind fun x55=>
            some (.inl ((w64 (x54.1+1)),s0.2.1,s0.2.2.1,true,true,x55))
           else
            (rc s0.1 x54.1 s0.2.2.1 e x54.2).bind fun x56=>
            some (.inl ((w64 (x54.1+1)),s0.2.1,s0.2.2.1,false,true,x56))
          else
           bif (decide ((w64 (Int.tdiv (w64 (s0.2.1-s0.1)) 8))≤(w64 (s0.2.1-x54.1)))) then
            (rc (w64 (x54.1+1)) s0.2.1 s0.2.2.1 e x54.2).bind fun x57=>
            some (.inl (s0.1,x54.1,s0.2.2.1,true,true,x57))
           else
            (rc (w64 (x54.1+1)) s0.2.1 s0.2.2.1 e x54.2).bind fun x58=>
            some (.inl (s0.1,x54.1,s0.2.2.1,false,true,x58))
         | (.inr x54)=>
          bif (decide ((w64 (x54.1-s0.1))<(w64 (s0.2.1-x54.1)))) then
           bif (decide ((w64 (Int.tdiv (w64 (s0.2.1-s0.1)) 8))≤(w64 (x54.1-s0.1)))) then
            (rc s0.1 x54.1 s0.2.2.1 e x54.2).bind fun x59=>
            some (.inl ((w64 (x54.1+1)),s0.2.1,s0.2.2.1,true,false,x59))
           else
            (rc s0.1 x54.1 s0.2.2.1 e x54.2).bind fun x60=>
            some (.inl ((w64 (x54.1+1)),s0.2.1,s0.2.2.1,false,false,x60))
          else
           bif (decide ((w64 (Int.tdiv (w64 (s0.2.1-s0.1)) 8))≤(w64 (s0.2.1-x54.1)))) then
            (rc (w64 (x54.1+1)) s0.2.1 s0.2.2.1 e x54.2).bind fun x61=>
            some (.inl (s0.1,x54.1,s0.2.2.1,true,false,x61))
           else
            (rc (w64 (x54.1+1)) s0.2.1 s0.2.2.1 e x54.2).bind fun x62=>
            some (.inl (s0.1,x54.1,s0.2.2.1,false,false,x62))
        else
         (ZC s0.1 s0.2.1 x3.1 e s0.2.2.2.2.2).bind fun x63=>
         some (.inl (x63.1,s0.2.1,s0.2.2.1,true,true,x63.2))
       else
        (Zr s0.1 s0.2.1 x3.1 e s0.2.2.2.2.2).bind fun x64=>
        match x64 with
        | (.inl x64)=>
         bif (decide ((w64 (x64.1-s0.1))<(w64 (s0.2.1-x64.1)))) then
          bif (decide ((w64 (Int.tdiv (w64 (s0.2.1-s0.1)) 8))≤(w64 (x64.1-s0.1)))) then
           (rc s0.1 x64.1 s0.2.2.1 e x64.2).bind fun x65=>
           some (.inl ((w64 (x64.1+1)),s0.2.1,s0.2.2.1,true,true,x65))
          else
           (rc s0.1 x64.1 s0.2.2.1 e x64.2).bind fun x66=>
           some (.inl ((w64 (x64.1+1)),s0.2.1,s0.2.2.1,false,true,x66))
         else
          bif (decide ((w64 (Int.tdiv (w64 (s0.2.1-s0.1)) 8))≤(w64 (s0.2.1-x64.1)))) then
           (rc (w64 (x64.1+1)) s0.2.1 s0.2.2.1 e x64.2).bind fun x67=>
           some (.inl (s0.1,x64.1,s0.2.2.1,true,true,x67))
          else
           (rc (w64 (x64.1+1)) s0.2.1 s0.2.2.1 e x64.2).bind fun x68=>
           some (.inl (s0.1,x64.1,s0.2.2.1,false,true,x68))
        | (.inr x64)=>
         bif (decide ((w64 (x64.1-s0.1))<(w64 (s0.2.1-x64.1)))) then
          bif (decide ((w64 (Int.tdiv (w64 (s0.2.1-s0.1)) 8))≤(w64 (x64.1-s0.1)))) then
           (rc s0.1 x64.1 s0.2.2.1 e x64.2).bind fun x69=>
           some (.inl ((w64 (x64.1+1)),s0.2.1,s0.2.2.1,true,false,x69))
          else
           (rc s0.1 x64.1 s0.2.2.1 e x64.2).bind fun x70=>
           some (.inl ((w64 (x64.1+1)),s0.2.1,s0.2.2.1,false,false,x70))
         else
          bif (decide ((w64 (Int.tdiv (w64 (s0.2.1-s0.1)) 8))≤(w64 (s0.2.1-x64.1)))) then
           (rc (w64 (x64.1+1)) s0.2.1 s0.2.2.1 e x64.2).bind fun x71=>
           some (.inl (s0.1,x64.1,s0.2.2.1,true,false,x71))
          else
           (rc (w64 (x64.1+1)) s0.2.1 s0.2.2.1 e x64.2).bind fun x72=>
           some (.inl (s0.1,x64.1,s0.2.2.1,false,false,x72))
  else
   bif (decide ((w64 (s0.2.1-s0.1))≤12)) then
    (ZW s0.1 s0.2.1 e s0.2.2.2.2.2).bind fun x73=>
    some (.inr x73)
   else
    bif (s0.2.2.1==0) then
     (Z8 s0.1 s0.2.1 e s0.2.2.2.2.2).bind fun x74=>
     some (.inr x74)
    else
     (ZO s0.1 s0.2.1 e s0.2.2.2.2.2).bind fun x75=>
     bif (x75.2==2) then
      (ZN s0.1 s0.2.1 e s0.2.2.2.2.2).bind fun x76=>
      bif (decide (0<s0.1)) then
       (ZE x76 (w64 (s0.1-1))).bind fun x77=>
       (ZE x76 (w64 ((w64 (s0.2.1-1))-(w64 (x75.1-s0.1))))).bind fun x78=>
       (e x77 x78).bind fun x79=>
       bif (decide (x79<0)) then
        (Zr s0.1 s0.2.1 (w64 ((w64 (s0.2.1-1))-(w64 (x75.1-s0.1)))) e x76).bind fun x80=>
        match x80 with
        | (.inl x80)=>
         bif (decide ((w64 (x80.1-s0.1))<(w64 (s0.2.1-x80.1)))) then
          bif (decide ((w64 (Int.tdiv (w64 (s0.2.1-s0.1)) 8))≤(w64 (x80.1-s0.1)))) then
           (rc s0.1 x80.1 s0.2.2.1 e x80.2).bind fun x81=>
           some (.inl ((w64 (x80.1+1)),s0.2.1,s0.2.2.1,true,true,x81))
          else
           (rc s0.1 x80.1 s0.2.2.1 e x80.2).bind fun x82=>
           some (.inl ((w64 (x80.1+1)),s0.2.1,s0.2.2.1,false,true,x82))
         else
          bif (decide ((w64 (Int.tdiv (w64 (s0.2.1-s0.1)) 8))≤(w64 (s0.2.1-x80.1)))) then
           (rc (w64 (x80.1+1)) s0.2.1 s0.2.2.1 e x80.2).bind fun x83=>
           some (.inl (s0.1,x80.1,s0.2.2.1,true,true,x83))
          else
           (rc (w64 (x80.1+1)) s0.2.1 s0.2.2.1 e x80.2).bind fun x84=>
           some (.inl (s0.1,x80.1,s0.2.2.1,false,true,x84))
        | (.inr x80)=>
         bif (decide ((w64 (x80.1-s0.1))<(w64 (s0.2.1-x80.1)))) then
          bif (decide ((w64 (Int.tdiv (w64 (s0.2.1-s0.1)) 8))≤(w64 (x80.1-s0.1)))) then
           (rc s0.1 x80.1 s0.2.2.1 e x80.2).bind fun x85=>
           some (.inl ((w64 (x80.1+1)),s0.2.1,s0.2.2.1,true,false,x85))
          else
           (rc s0.1 x80.1 s0.2.2.1 e x80.2).bind fun x86=>
           some (.inl ((w64 (x80.1+1)),s0.2.1,s0.2.2.1,false,false,x86))
         else
          bif (decide ((w64 (Int.tdiv (w64 (s0.2.1-s0.1)) 8))≤(w64 (s0.2.1-x80.1)))) then
           (rc (w64 (x80.1+1)) s0.2.1 s0.2.2.1 e x80.2).bind fun x87=>
           some (.inl (s0.1,x80.1,s0.2.2.1,true,false,x87))
          else
           (rc (w64 (x80.1+1)) s0.2.1 s0.2.2.1 e x80.2).bind fun x88=>
           some (.inl (s0.1,x80.1,s0.2.2.1,false,false,x88))
       else
        (ZC s0.1 s0.2.1 (w64 ((w64 (s0.2.1-1))-(w64 (x75.1-s0.1)))) e x76).bind fun x89=>
        some (.inl (x89.1,s0.2.1,s0.2.2.1,true,false,x89.2))
      else
       (Zr s0.1 s0.2.1 (w64 ((w64 (s0.2.1-1))-(w64 (x75.1-s0.1)))) e x76).bind fun x90=>
       match x90 with
       | (.inl x90)=>
        bif (decide ((w64 (x90.1-s0.1))<(w64 (s0.2.1-x90.1)))) then
         bif (decide ((w64 (Int.tdiv (w64 (s0.2.1-s0.1)) 8))≤(w64 (x90.1-s0.1)))) then
          (rc s0.1 x90.1 s0.2.2.1 e x90.2).bind fun x91=>
          some (.inl ((w64 (x90.1+1)),s0.2.1,s0.2.2.1,true,true,x91))
         else
          (rc s0.1 x90.1 s0.2.2.1 e x90.2).bind fun x92=>
          some (.inl ((w64 (x90.1+1)),s0.2.1,s0.2.2.1,false,true,x92))
        else
         bif (decide ((w64 (Int.tdiv (w64 (s0.2.1-s0.1)) 8))≤(w64 (s0.2.1-x90.1)))) then
          (rc (w64 (x90.1+1)) s0.2.1 s0.2.2.1 e x90.2).bind fun x93=>
          some (.inl (s0.1,x90.1,s0.2.2.1,true,true,x93))
         else
          (rc (w64 (x90.1+1)) s0.2.1 s0.2.2.1 e x90.2).bind fun x94=>
          some (.inl (s0.1,x90.1,s0.2.2.1,false,true,x94))
       | (.inr x90)=>
        bif (decide ((w64 (x90.1-s0.1))<(w64 (s0.2.1-x90.1)))) then
         bif (decide ((w64 (Int.tdiv (w64 (s0.2.1-s0.1)) 8))≤(w64 (x90.1-s0.1)))) then
          (rc s0.1 x90.1 s0.2.2.1 e x90.2).bind fun x95=>
          some (.inl ((w64 (x90.1+1)),s0.2.1,s0.2.2.1,true,false,x95))
         else
          (rc s0.1 x90.1 s0.2.2.1 e x90.2).bind fun x96=>
          some (.inl ((w64 (x90.1+1)),s0.2.1,s0.2.2.1,false,false,x96))
        else
         bif (decide ((w64 (Int.tdiv (w64 (s0.2.1-s0.1)) 8))≤(w64 (s0.2.1-x90.1)))) then
          (rc (w64 (x90.1+1)) s0.2.1 s0.2.2.1 e x90.2).bind fun x97=>
          some (.inl (s0.1,x90.1,s0.2.2.1,true,false,x97))
         else
          (rc (w64 (x90.1+1)) s0.2.1 s0.2.2.1 e x90.2).bind fun x98=>
          some (.inl (s0.1,x90.1,s0.2.2.1,false,false,x98))
     else
      bif (decide (0<s0.1)) then
       (ZE s0.2.2.2.2.2 (w64 (s0.1-1))).bind fun x99=>
       (ZE s0.2.2.2.2.2 x75.1).bind fun x100=>
       (e x99 x100).bind fun x101=>
       bif (decide (x101<0)) then
        (Zr s0.1 s0.2.1 x75.1 e s0.2.2.2.2.2).bind fun x102=>
        match x102 with
        | (.inl x102)=>
         bif (decide ((w64 (x102.1-s0.1))<(w64 (s0.2.1-x102.1)))) then
          bif (decide ((w64 (Int.tdiv (w64 (s0.2.1-s0.1)) 8))≤(w64 (x102.1-s0.1)))) then
           (rc s0.1 x102.1 s0.2.2.1 e x102.2).bind fun x103=>
           some (.inl ((w64 (x102.1+1)),s0.2.1,s0.2.2.1,true,true,x103))
          else
           (rc s0.1 x102.1 s0.2.2.1 e x102.2).bind fun x104=>
           some (.inl ((w64 (x102.1+1)),s0.2.1,s0.2.2.1,false,true,x104))
         else
          bif (decide ((w64 (Int.tdiv (w64 (s0.2.1-s0.1)) 8))≤(w64 (s0.2.1-x102.1)))) then
           (rc (w64 (x102.1+1)) s0.2.1 s0.2.2.1 e x102.2).bind fun x105=>
           some (.inl (s0.1,x102.1,s0.2.2.1,true,true,x105))
          else
           (rc (w64 (x102.1+1)) s0.2.1 s0.2.2.1 e x102.2).bind fun x106=>
           some (.inl (s0.1,x102.1,s0.2.2.1,false,true,x106))
        | (.inr x102)=>
         bif (decide ((w64 (x102.1-s0.1))<(w64 (s0.2.1-x102.1)))) then
          bif (decide ((w64 (Int.tdiv (w64 (s0.2.1-s0.1)) 8))≤(w64 (x102.1-s0.1)))) then
           (rc s0.1 x102.1 s0.2.2.1 e x102.2).bind fun x107=>
           some (.inl ((w64 (x102.1+1)),s0.2.1,s0.2.2.1,true,false,x107))
          else
           (rc s0.1 x102.1 s0.2.2.1 e x102.2).bind fun x108=>
           some (.inl ((w64 (x102.1+1)),s0.2.1,s0.2.2.1,false,false,x108))
         else
          bif (decide ((w64 (Int.tdiv (w64 (s0.2.1-s0.1)) 8))≤(w64 (s0.2.1-x102.1)))) then
           (rc (w64 (x102.1+1)) s0.2.1 s0.2.2.1 e x102.2).bind fun x109=>
           some (.inl (s0.1,x102.1,s0.2.2.1,true,false,x109))
          else
           (rc (w64 (x102.1+1)) s0.2.1 s0.2.2.1 e x102.2).bind fun x110=>
           some (.inl (s0.1,x102.1,s0.2.2.1,false,false,x110))
       else
        (ZC s0.1 s0.2.1 x75.1 e s0.2.2.2.2.2).bind fun x111=>
        some (.inl (x111.1,s0.2.1,s0.2.2.1,true,false,x111.2))
      else
       (Zr s0.1 s0.2.1 x75.1 e s0.2.2.2.2.2).bind fun x112=>
       match x112 with
       | (.inl x112)=>
        bif (decide ((w64 (x112.1-s0.1))<(w64 (s0.2.1-x112.1)))) then
         bif (decide ((w64 (Int.tdiv (w64 (s0.2.1-s0.1)) 8))≤(w64 (x112.1-s0.1)))) then
          (rc s0.1 x112.1 s0.2.2.1 e x112.2).bind fun x113=>
          some (.inl ((w64 (x112.1+1)),s0.2.1,s0.2.2.1,true,true,x113))
         else
          (rc s0.1 x112.1 s0.2.2.1 e x112.2).bind fun x114=>
          some (.inl ((w64 (x112.1+1)),s0.2.1,s0.2.2.1,false,true,x114))
        else
         bif (decide ((w64 (Int.tdiv (w64 (s0.2.1-s0.1)) 8))≤(w64 (s0.2.1-x112.1)))) then
          (rc (w64 (x112.1+1)) s0.2.1 s0.2.2.1 e x112.2).bind fun x115=>
          some (.inl (s0.1,x112.1,s0.2.2.1,true,true,x115))
         else
          (rc (w64 (x112.1+1)) s0.2.1 s0.2.2.1 e x112.2).bind fun x116=>
          some (.inl (s0.1,x112.1,s0.2.2.1,false,true,x116))
       | (.inr x112)=>
        bif (decide ((w64 (x112.1-s0.1))<(w64 (s0.2.1-x112.1)))) then
         bif (decide ((w64 (Int.tdiv (w64 (s0.2.1-s0.1)) 8))≤(w64 (x112.1-s0.1)))) then
          (rc s0.1 x112.1 s0.2.2.1 e x112.2).bind fun x117=>
          some (.inl ((w64 (x112.1+1)),s0.2.1,s0.2.2.1,true,false,x117))
         else
          (rc s0.1 x112.1 s0.2.2.1 e x112.2).bind fun x118=>
          some (.inl ((w64 (x112.1+1)),s0.2.1,s0.2.2.1,false,false,x118))
        else
         bif (decide ((w64 (Int.tdiv (w64 (s0.2.1-s0.1)) 8))≤(w64 (s0.2.1-x112.1)))) then
          (rc (w64 (x112.1+1)) s0.2.1 s0.2.2.1 e x112.2).bind fun x119=>
          some (.inl (s0.1,x112.1,s0.2.2.1,true,false,x119))
         else
          (rc (w64 (x112.1+1)) s0.2.1 s0.2.2.1 e x112.2).bind fun x120=>
          some (.inl (s0.1,x112.1,s0.2.2.1,false,false,x120))
 else
  bif s0.2.2.2.2.1 then
   bif (decide ((w64 (s0.2.1-s0.1))≤12)) then
    (ZW s0.1 s0.2.1 e s0.2.2.2.2.2).bind fun x121=>
    some (.inr x121)
   else
    bif (s0.2.2.1==0) then
     (Z8 s0.1 s0.2.1 e s0.2.2.2.2.2).bind fun x122=>
     some (.inr x122)
    else
     (Zad s0.1 s0.2.1 e s0.2.2.2.2.2).bind fun x123=>
     (ZO s0.1 s0.2.1 e x123).bind fun x124=>
     bif (x124.2==2) then
      (ZN s0.1 s0.2.1 e x123).bind fun x125=>
      bif (decide (0<s0.1)) then
       (ZE x125 (w64 (s0.1-1))).bind fun x126=>
       (ZE x125 (w64 ((w64 (s0.2.1-1))-(w64 (x124.1-s0.1))))).bind fun x127=>
       (e x126 x127).bind fun x128=>
       bif (decide (x128<0)) then
        (Zr s0.1 s0.2.1 (w64 ((w64 (s0.2.1-1))-(w64 (x124.1-s0.1)))) e x125).bind fun x129=>
        match x129 with
        | (.inl x129)=>
         bif (decide ((w64 (x129.1-s0.1))<(w64 (s0.2.1-x129.1)))) then
          bif (decide ((w64 (Int.tdiv (w64 (s0.2.1-s0.1)) 8))≤(w64 (x129.1-s0.1)))) then
           (rc s0.1 x129.1 (w64 (s0.2.2.1-1)) e x129.2).bind fun x130=>
           some (.inl ((w64 (x129.1+1)),s0.2.1,(w64 (s0.2.2.1-1)),true,true,x130))
          else
           (rc s0.1 x129.1 (w64 (s0.2.2.1-1)) e x129.2).bind fun x131=>
           some (.inl ((w64 (x129.1+1)),s0.2.1,(w64 (s0.2.2.1-1)),false,true,x131))
         else
          bif (decide ((w64 (Int.tdiv (w64 (s0.2.1-s0.1)) 8))≤(w64 (s0.2.1-x129.1)))) then
           (rc (w64 (x129.1+1)) s0.2.1 (w64 (s0.2.2.1-1)) e x129.2).bind fun x132=>
           some (.inl (s0.1,x129.1,(w64 (s0.2.2.1-1)),true,true,x132))
          else
           (rc (w64 (x129.1+1)) s0.2.1 (w64 (s0.2.2.1-1)) e x129.2).bind fun x133=>
           some (.inl (s0.1,x129.1,(w64 (s0.2.2.1-1)),false,true,x133))
        | (.inr x129)=>
         bif (decide ((w64 (x129.1-s0.1))<(w64 (s0.2.1-x129.1)))) then
          bif (decide ((w64 (Int.tdiv (w64 (s0.2.1-s0.1)) 8))≤(w64 (x129.1-s0.1)))) then
           (rc s0.1 x129.1 (w64 (s0.2.2.1-1)) e x129.2).bind fun x134=>
           some (.inl ((w64 (x129.1+1)),s0.2.1,(w64 (s0.2.2.1-1)),true,false,x134))
          else
           (rc s0.1 x129.1 (w64 (s0.2.2.1-1)) e x129.2).bind fun x135=>
           some (.inl ((w64 (x129.1+1)),s0.2.1,(w64 (s0.2.2.1-1)),false,false,x135))
         else
          bif (decide ((w64 (Int.tdiv (w64 (s0.2.1-s0.1)) 8))≤(w64 (s0.2.1-x129.1)))) then
           (rc (w64 (x129.1+1)) s0.2.1 (w64 (s0.2.2.1-1)) e x129.2).bind fun x136=>
           some (.inl (s0.1,x129.1,(w64 (s0.2.2.1-1)),true,false,x136))
          else
           (rc (w64 (x129.1+1)) s0.2.1 (w64 (s0.2.2.1-1)) e x129.2).bind fun x137=>
           some (.inl (s0.1,x129.1,(w64 (s0.2.2.1-1)),false,false,x137))
       else
        (ZC s0.1 s0.2.1 (w64 ((w64 (s0.2.1-1))-(w64 (x124.1-s0.1)))) e x125).bind fun x138=>
        some (.inl (x138.1,s0.2.1,(w64 (s0.2.2.1-1)),false,true,x138.2))
      else
       (Zr s0.1 s0.2.1 (w64 ((w64 (s0.2.1-1))-(w64 (x124.1-s0.1)))) e x125).bind fun x139=>
       match x139 with
       | (.inl x139)=>
        bif (decide ((w64 (x139.1-s0.1))<(w64 (s0.2.1-x139.1)))) then
         bif (decide ((w64 (Int.tdiv (w64 (s0.2.1-s0.1)) 8))≤(w64 (x139.1-s0.1)))) then
          (rc s0.1 x139.1 (w64 (s0.2.2.1-1)) e x139.2).bind fun x140=>
          some (.inl ((w64 (x139.1+1)),s0.2.1,(w64 (s0.2.2.1-1)),true,true,x140))
         else
          (rc s0.1 x139.1 (w64 (s0.2.2.1-1)) e x139.2).bind fun x141=>
          some (.inl ((w64 (x139.1+1)),s0.2.1,(w64 (s0.2.2.1-1)),false,true,x141))
        else
         bif (decide ((w64 (Int.tdiv (w64 (s0.2.1-s0.1)) 8))≤(w64 (s0.2.1-x139.1)))) then
          (rc (w64 (x139.1+1)) s0.2.1 (w64 (s0.2.2.1-1)) e x139.2).bind fun x142=>
          some (.inl (s0.1,x139.1,(w64 (s0.2.2.1-1)),true,true,x142))
         else
          (rc (w64 (x139.1+1)) s0.2.1 (w64 (s0.2.2.1-1)) e x139.2).bind fun x143=>
          some (.inl (s0.1,x139.1,(w64 (s0.2.2.1-1)),false,true,x143))
       | (.inr x139)=>
        bif (decide ((w64 (x139.1-s0.1))<(w64 (s0.2.1-x139.1)))) then
         bif (decide ((w64 (Int.tdiv (w64 (s0.2.1-s0.1)) 8))≤(w64 (x139.1-s0.1)))) then
          (rc s0.1 x139.1 (w64 (s0.2.2.1-1)) e x139.2).bind fun x144=>
          some (.inl ((w64 (x139.1+1)),s0.2.1,(w64 (s0.2.2.1-1)),true,false,x144))
         else
          (rc s0.1 x139.1 (w64 (s0.2.2.1-1)) e x139.2).bind fun x145=>
          some (.inl ((w64 (x139.1+1)),s0.2.1,(w64 (s0.2.2.1-1)),false,false,x145))
        else
         bif (decide ((w64 (Int.tdiv (w64 (s0.2.1-s0.1)) 8))≤(w64 (s0.2.1-x139.1)))) then
          (rc (w64 (x139.1+1)) s0.2.1 (w64 (s0.2.2.1-1)) e x139.2).bind fun x146=>
          some (.inl (s0.1,x139.1,(w64 (s0.2.2.1-1)),true,false,x146))
         else
          (rc (w64 (x139.1+1)) s0.2.1 (w64 (s0.2.2.1-1)) e x139.2).bind fun x147=>
          some (.inl (s0.1,x139.1,(w64 (s0.2.2.1-1)),false,false,x147))
     else
      bif (decide (0<s0.1)) then
       (ZE x123 (w64 (s0.1-1))).bind fun x148=>
       (ZE x123 x124.1).bind fun x149=>
       (e x148 x149).bind fun x150=>
       bif (decide (x150<0)) then
        (Zr s0.1 s0.2.1 x124.1 e x123).bind fun x151=>
        match x151 with
        | (.inl x151)=>
         bif (decide ((w64 (x151.1-s0.1))<(w64 (s0.2.1-x151.1)))) then
          bif (decide ((w64 (Int.tdiv (w64 (s0.2.1-s0.1)) 8))≤(w64 (x151.1-s0.1)))) then
           (rc s0.1 x151.1 (w64 (s0.2.2.1-1)) e x151.2).bind fun x152=>
           some (.inl ((w64 (x151.1+1)),s0.2.1,(w64 (s0.2.2.1-1)),true,true,x152))
          else
           (rc s0.1 x151.1 (w64 (s0.2.2.1-1)) e x151.2).bind fun x153=>
           some (.inl ((w64 (x151.1+1)),s0.2.1,(w64 (s0.2.2.1-1)),false,true,x153))
         else
          bif (decide ((w64 (Int.tdiv (w64 (s0.2.1-s0.1)) 8))≤(w64 (s0.2.1-x151.1)))) then
           (rc (w64 (x151.1+1)) s0.2.1 (w64 (s0.2.2.1-1)) e x151.2).bind fun x154=>
           some (.inl (s0.1,x151.1,(w64 (s0.2.2.1-1)),true,true,x154))
          else
           (rc (w64 (x151.1+1)) s0.2.1 (w64 (s0.2.2.1-1)) e x151.2).bind fun x155=>
           some (.inl (s0.1,x151.1,(w64 (s0.2.2.1-1)),false,true,x155))
        | (.inr x151)=>
         bif (decide ((w64 (x151.1-s0.1))<(w64 (s0.2.1-x151.1)))) then
          bif (decide ((w64 (Int.tdiv (w64 (s0.2.1-s0.1)) 8))≤(w64 (x151.1-s0.1)))) then
           (rc s0.1 x151.1 (w64 (s0.2.2.1-1)) e x151.2).bind fun x156=>
           some (.inl ((w64 (x151.1+1)),s0.2.1,(w64 (s0.2.2.1-1)),true,false,x156))
          else
           (rc s0.1 x151.1 (w64 (s0.2.2.1-1)) e x151.2).bind fun x157=>
           some (.inl ((w64 (x151.1+1)),s0.2.1,(w64 (s0.2.2.1-1)),false,false,x157))
         else
          bif (decide ((w64 (Int.tdiv (w64 (s0.2.1-s0.1)) 8))≤(w64 (s0.2.1-x151.1)))) then
           (rc (w64 (x151.1+1)) s0.2.1 (w64 (s0.2.2.1-1)) e x151.2).bind fun x158=>
           some (.inl (s0.1,x151.1,(w64 (s0.2.2.1-1)),true,false,x158))
          else
           (rc (w64 (x151.1+1)) s0.2.1 (w64 (s0.2.2.1-1)) e x151.2).bind fun x159=>
           some (.inl (s0.1,x151.1,(w64 (s0.2.2.1-1)),false,false,x159))
       else
        (ZC s0.1 s0.2.1 x124.1 e x123).bind fun x160=>
        some (.inl (x160.1,s0.2.1,(w64 (s0.2.2.1-1)),false,true,x160.2))
      else
       (Zr s0.1 s0.2.1 x124.1 e x123).bind fun x161=>
       match x161 with
       | (.inl x161)=>
        bif (decide ((w64 (x161.1-s0.1))<(w64 (s0.2.1-x161.1)))) then
         bif (decide ((w64 (Int.tdiv (w64 (s0.2.1-s0.1)) 8))≤(w64 (x161.1-s0.1)))) then
          (rc s0.1 x161.1 (w64 (s0.2.2.1-1)) e x161.2).bind fun x162=>
          some (.inl ((w64 (x161.1+1)),s0.2.1,(w64 (s0.2.2.1-1)),true,true,x162))
         else
          (rc s0.1 x161.1 (w64 (s0.2.2.1-1)) e x161.2).bind fun x163=>
          some (.inl ((w64 (x161.1+1)),s0.2.1,(w64 (s0.2.2.1-1)),false,true,x163))
        else
         bif (decide ((w64 (Int.tdiv (w64 (s0.2.1-s0.1)) 8))≤(w64 (s0.2.1-x161.1)))) then
          (rc (w64 (x161.1+1)) s0.2.1 (w64 (s0.2.2.1-1)) e x161.2).bind fun x164=>
          some (.inl (s0.1,x161.1,(w64 (s0.2.2.1-1)),true,true,x164))
         else
          (rc (w64 (x161.1+1)) s0.2.1 (w64 (s0.2.2.1-1)) e x161.2).bind fun x165=>
          some (.inl (s0.1,x161.1,(w64 (s0.2.2.1-1)),false,true,x165))
       | (.inr x161)=>
        bif (decide ((w64 (x161.1-s0.1))<(w64 (s0.2.1-x161.1)))) then
         bif (decide ((w64 (Int.tdiv (w64 (s0.2.1-s0.1)) 8))≤(w64 (x161.1-s0.1)))) then
          (rc s0.1 x161.1 (w64 (s0.2.2.1-1)) e x161.2).bind fun x166=>
          some (.inl ((w64 (x161.1+1)),s0.2.1,(w64 (s0.2.2.1-1)),true,false,x166))
         else
          (rc s0.1 x161.1 (w64 (s0.2.2.1-1)) e x161.2).bind fun x167=>
          some (.inl ((w64 (x161.1+1)),s0.2.1,(w64 (s0.2.2.1-1)),false,false,x167))
        else
         bif (decide ((w64 (Int.tdiv (w64 (s0.2.1-s0.1)) 8))≤(w64 (s0.2.1-x161.1)))) then
          (rc (w64 (x161.1+1)) s0.2.1 (w64 (s0.2.2.1-1)) e x161.2).bind fun x168=>
          some (.inl (s0.1,x161.1,(w64 (s0.2.2.1-1)),true,false,x168))
         else
          (rc (w64 (x161.1+1)) s0.2.1 (w64 (s0.2.2.1-1)) e x161.2).bind fun x169=>
          some (.inl (s0.1,x161.1,(w64 (s0.2.2.1-1)),false,false,x169))
  else
   bif (decide ((w64 (s0.2.1-s0.1))≤12)) then
    (ZW s0.1 s0.2.1 e s0.2.2.2.2.2).bind fun x170=>
    some (.inr x170)
   else
    bif (s0.2.2.1==0) then
     (Z8 s0.1 s0.2.1 e s0.2.2.2.2.2).bind fun x171=>
     some (.inr x171)
    else
     (Zad s0.1 s0.2.1 e s0.2.2.2.2.2).bind fun x172=>
     (ZO s0.1 s0.2.1 e x172).bind fun x173=>
     bif (x173.2==2) then
      (ZN s0.1 s0.2.1 e x172).bind fun x174=>
      bif (decide (0<s0.1)) then
       (ZE x174 (w64 (s0.1-1))).bind fun x175=>
       (ZE x174 (w64 ((w64 (s0.2.1-1))-(w64 (x173.1-s0.1))))).bind fun x176=>
       (e x175 x176).bind fun x177=>
       bif (decide (x177<0)) then
        (Zr s0.1 s0.2.1 (w64 ((w64 (s0.2.1-1))-(w64 (x173.1-s0.1)))) e x174).bind fun x178=>
        match x178 with
        | (.inl x178)=>
         bif (decide ((w64 (x178.1-s0.1))<(w64 (s0.2.1-x178.1)))) then
          bif (decide ((w64 (Int.tdiv (w64 (s0.2.1-s0.1)) 8))≤(w64 (x178.1-s0.1)))) then
           (rc s0.1 x178.1 (w64 (s0.2.2.1-1)) e x178.2).bind fun x179=>
           some (.inl ((w64 (x178.1+1)),s0.2.1,(w64 (s0.2.2.1-1)),true,true,x179))
          else
           (rc s0.1 x178.1 (w64 (s0.2.2.1-1)) e x178.2).bind fun x180=>
           some (.inl ((w64 (x178.1+1)),s0.2.1,(w64 (s0.2.2.1-1)),false,true,x180))
         else
          bif (decide ((w64 (Int.tdiv (w64 (s0.2.1-s0.1)) 8))≤(w64 (s0.2.1-x178.1)))) then
           (rc (w64 (x178.1+1)) s0.2.1 (w64 (s0.2.2.1-1)) e x178.2).bind fun x181=>
           some (.inl (s0.1,x178.1,(w64 (s0.2.2.1-1)),true,true,x181))
          else
           (rc (w64 (x178.1+1)) s0.2.1 (w64 (s0.2.2.1-1)) e x178.2).bind fun x182=>
           some (.inl (s0.1,x178.1,(w64 (s0.2.2.1-1)),false,true,x182))
        | (.inr x178)=>
         bif (decide ((w64 (x178.1-s0.1))<(w64 (s0.2.1-x178.1)))) then
          bif (decide ((w64 (Int.tdiv (w64 (s0.2.1-s0.1)) 8))≤(w64 (x178.1-s0.1)))) then
           (rc s0.1 x178.1 (w64 (s0.2.2.1-1)) e x178.2).bind fun x183=>
           some (.inl ((w64 (x178.1+1)),s0.2.1,(w64 (s0.2.2.1-1)),true,false,x183))
          else
           (rc s0.1 x178.1 (w64 (s0.2.2.1-1)) e x178.2).bind fun x184=>
           some (.inl ((w64 (x178.1+1)),s0.2.1,(w64 (s0.2.2.1-1)),false,false,x184))
         else
          bif (decide ((w64 (Int.tdiv (w64 (s0.2.1-s0.1)) 8))≤(w64 (s0.2.1-x178.1)))) then
           (rc (w64 (x178.1+1)) s0.2.1 (w64 (s0.2.2.1-1)) e x178.2).bind fun x185=>
           some (.inl (s0.1,x178.1,(w64 (s0.2.2.1-1)),true,false,x185))
          else
           (rc (w64 (x178.1+1)) s0.2.1 (w64 (s0.2.2.1-1)) e x178.2).bind fun x186=>
           some (.inl (s0.1,x178.1,(w64 (s0.2.2.1-1)),false,false,x186))
       else
        (ZC s0.1 s0.2.1 (w64 ((w64 (s0.2.1-1))-(w64 (x173.1-s0.1)))) e x174).bind fun x187=>
        some (.inl (x187.1,s0.2.1,(w64 (s0.2.2.1-1)),false,false,x187.2))
      else
       (Zr s0.1 s0.2.1 (w64 ((w64 (s0.2.1-1))-(w64 (x173.1-s0.1)))) e x174).bind fun x188=>
       match x188 with
       | (.inl x188)=>
        bif (decide ((w64 (x188.1-s0.1))<(w64 (s0.2.1-x188.1)))) then
         bif (decide ((w64 (Int.tdiv (w64 (s0.2.1-s0.1)) 8))≤(w64 (x188.1-s0.1)))) then
          (rc s0.1 x188.1 (w64 (s0.2.2.1-1)) e x188.2).bind fun x189=>
          some (.inl ((w64 (x188.1+1)),s0.2.1,(w64 (s0.2.2.1-1)),true,true,x189))
         else
          (rc s0.1 x188.1 (w64 (s0.2.2.1-1)) e x188.2).bind fun x190=>
          some (.inl ((w64 (x188.1+1)),s0.2.1,(w64 (s0.2.2.1-1)),false,true,x190))
        else
         bif (decide ((w64 (Int.tdiv (w64 (s0.2.1-s0.1)) 8))≤(w64 (s0.2.1-x188.1)))) then
          (rc (w64 (x188.1+1)) s0.2.1 (w64 (s0.2.2.1-1)) e x188.2).bind fun x191=>
          some (.inl (s0.1,x188.1,(w64 (s0.2.2.1-1)),true,true,x191))
         else
          (rc (w64 (x188.1+1)) s0.2.1 (w64 (s0.2.2.1-1)) e x188.2).bind fun x192=>
          some (.inl (s0.1,x188.1,(w64 (s0.2.2.1-1)),false,true,x192))
       | (.inr x188)=>
        bif (decide ((w64 (x188.1-s0.1))<(w64 (s0.2.1-x188.1)))) then
         bif (decide ((w64 (Int.tdiv (w64 (s0.2.1-s0.1)) 8))≤(w64 (x188.1-s0.1)))) then
          (rc s0.1 x188.1 (w64 (s0.2.2.1-1)) e x188.2).bind fun x193=>
          some (.inl ((w64 (x188.1+1)),s0.2.1,(w64 (s0.2.2.1-1)),true,false,x193))
         else
          (rc s0.1 x188.1 (w64 (s0.2.2.1-1)) e x188.2).bind fun x194=>
          some (.inl ((w64 (x188.1+1)),s0.2.1,(w64 (s0.2.2.1-1)),false,false,x194))
        else
         bif (decide ((w64 (Int.tdiv (w64 (s0.2.1-s0.1)) 8))≤(w64 (s0.2.1-x188.1)))) then
          (rc (w64 (x188.1+1)) s0.2.1 (w64 (s0.2.2.1-1)) e x188.2).bind fun x195=>
          some (.inl (s0.1,x188.1,(w64 (s0.2.2.1-1)),true,false,x195))
         else
          (rc (w64 (x188.1+1)) s0.2.1 (w64 (s0.2.2.1-1)) e x188.2).bind fun x196=>
          some (.inl (s0.1,x188.1,(w64 (s0.2.2.1-1)),false,false,x196))
     else
      bif (decide (0<s0.1)) then
       (ZE x172 (w64 (s0.1-1))).bind fun x197=>
       (ZE x172 x173.1).bind fun x198=>
       (e x197 x198).bind fun x199=>
       bif (decide (x199<0)) then
        (Zr s0.1 s0.2.1 x173.1 e x172).bind fun x200=>
        match x200 with
        | (.inl x200)=>
         bif (decide ((w64 (x200.1-s0.1))<(w64 (s0.2.1-x200.1)))) then
          bif (decide ((w64 (Int.tdiv (w64 (s0.2.1-s0.1)) 8))≤(w64 (x200.1-s0.1)))) then
           (rc s0.1 x200.1 (w64 (s0.2.2.1-1)) e x200.2).bind fun x201=>
           some (.inl ((w64 (x200.1+1)),s0.2.1,(w64 (s0.2.2.1-1)),true,true,x201))
          else
           (rc s0.1 x200.1 (w64 (s0.2.2.1-1)) e x200.2).bind fun x202=>
           some (.inl ((w64 (x200.1+1)),s0.2.1,(w64 (s0.2.2.1-1)),false,true,x202))
         else
          bif (decide ((w64 (Int.tdiv (w64 (s0.2.1-s0.1)) 8))≤(w64 (s0.2.1-x200.1)))) then
           (rc (w64 (x200.1+1)) s0.2.1 (w64 (s0.2.2.1-1)) e x200.2).bind fun x203=>
           some (.inl (s0.1,x200.1,(w64 (s0.2.2.1-1)),true,true,x203))
          else
           (rc (w64 (x200.1+1)) s0.2.1 (w64 (s0.2.2.1-1)) e x200.2).bind fun x204=>
           some (.inl (s0.1,x200.1,(w64 (s0.2.2.1-1)),false,true,x204))
        | (.inr x200)=>
         bif (decide ((w64 (x200.1-s0.1))<(w64 (s0.2.1-x200.1)))) then
          bif (decide ((w64 (Int.tdiv (w64 (s0.2.1-s0.1)) 8))≤(w64 (x200.1-s0.1)))) then
           (rc s0.1 x200.1 (w64 (s0.2.2.1-1)) e x200.2).bind fun x205=>
           some (.inl ((w64 (x200.1+1)),s0.2.1,(w64 (s0.2.2.1-1)),true,false,x205))
          else
           (rc s0.1 x200.1 (w64 (s0.2.2.1-1)) e x200.2).bind fun x206=>
           some (.inl ((w64 (x200.1+1)),s0.2.1,(w64 (s0.2.2.1-1)),false,false,x206))
         else
          bif (decide ((w64 (Int.tdiv (w64 (s0.2.1-s0.1)) 8))≤(w64 (s0.2.1-x200.1)))) then
           (rc (w64 (x200.1+1)) s0.2.1 (w64 (s0.2.2.1-1)) e x200.2).bind fun x207=>
           some (.inl (s0.1,x200.1,(w64 (s0.2.2.1-1)),true,false,x207))
          else
           (rc (w64 (x200.1+1)) s0.2.1 (w64 (s0.2.2.1-1)) e x200.2).bind fun x208=>
           some (.inl (s0.1,x200.1,(w64 (s0.2.2.1-1)),false,false,x208))
       else
        (ZC s0.1 s0.2.1 x173.1 e x172).bind fun x209=>
        some (.inl (x209.1,s0.2.1,(w64 (s0.2.2.1-1)),false,false,x209.2))
      else
       (Zr s0.1 s0.2.1 x173.1 e x172).bind fun x210=>
       match x210 with
       | (.inl x210)=>
        bif (decide ((w64 (x210.1-s0.1))<(w64 (s0.2.1-x210.1)))) then
         bif (decide ((w64 (Int.tdiv (w64 (s0.2.1-s0.1)) 8))≤(w64 (x210.1-s0.1)))) then
          (rc s0.1 x210.1 (w64 (s0.2.2.1-1)) e x210.2).bind fun x211=>
          some (.inl ((w64 (x210.1+1)),s0.2.1,(w64 (s0.2.2.1-1)),true,true,x211))
         else
          (rc s0.1 x210.1 (w64 (s0.2.2.1-1)) e x210.2).bind fun x212=>
          some (.inl ((w64 (x210.1+1)),s0.2.1,(w64 (s0.2.2.1-1)),false,true,x212))
        else
         bif (decide ((w64 (Int.tdiv (w64 (s0.2.1-s0.1)) 8))≤(w64 (s0.2.1-x210.1)))) then
          (rc (w64 (x210.1+1)) s0.2.1 (w64 (s0.2.2.1-1)) e x210.2).bind fun x213=>
          some (.inl (s0.1,x210.1,(w64 (s0.2.2.1-1)),true,true,x213))
         else
          (rc (w64 (x210.1+1)) s0.2.1 (w64 (s0.2.2.1-1)) e x210.2).bind fun x214=>
          some (.inl (s0.1,x210.1,(w64 (s0.2.2.1-1)),false,true,x214))
       | (.inr x210)=>
        bif (decide ((w64 (x210.1-s0.1))<(w64 (s0.2.1-x210.1)))) then
         bif (decide ((w64 (Int.tdiv (w64 (s0.2.1-s0.1)) 8))≤(w64 (x210.1-s0.1)))) then
          (rc s0.1 x210.1 (w64 (s0.2.2.1-1)) e x210.2).bind fun x215=>
          some (.inl ((w64 (x210.1+1)),s0.2.1,(w64 (s0.2.2.1-1)),true,false,x215))
         else
          (rc s0.1 x210.1 (w64 (s0.2.2.1-1)) e x210.2).bind fun x216=>
          some (.inl ((w64 (x210.1+1)),s0.2.1,(w64 (s0.2.2.1-1)),false,false,x216))
        else
         bif (decide ((w64 (Int.tdiv (w64 (s0.2.1-s0.1)) 8))≤(w64 (s0.2.1-x210.1)))) then
          (rc (w64 (x210.1+1)) s0.2.1 (w64 (s0.2.2.1-1)) e x210.2).bind fun x217=>
          some (.inl (s0.1,x210.1,(w64 (s0.2.2.1-1)),true,false,x217))
         else
          (rc (w64 (x210.1+1)) s0.2.1 (w64 (s0.2.2.1-1)) e x210.2).bind fun x218=>
          some (.inl (s0.1,x210.1,(w64 (s0.2.2.1-1)),false,false,x218))
noncomputable def Zat (rc:Int→Int→Int→(Int→Int→Option Int)→(List Int)→Option (List Int)) (b:Int) (c:Int) (d:Int) (e:(Int→Int→Option Int)) (m0_0:(List Int)):Option (List Int):=
 (lp (ZQ e rc) (b,c,d,true,true,m0_0)).bind fun r219=>
 some r219
noncomputable def ZZ:Nat→Int→Int→Int→(Int→Int→Option Int)→(List Int)→Option (List Int)
 | 0=>fun _ _ _ _ _=>none
 | n+1=>Zat (ZZ n)
noncomputable def Zdw (b:Int) (c:Int) (d:Int) (e:(Int→Int→Option Int)) (m0_0:(List Int)):Option (List Int):=ZvT fun n=>ZZ n b c d e m0_0
noncomputable def ZaM (b:(Int→Int→Option Int)) (m0_0:(List Int)):Option (List Int):=
 (Zed (IntKind.u64.wrap (m0_0.length:Int))).bind fun x0=>
 (Zdw 0 (m0_0.length:Int) x0 b m0_0).bind fun x1=>
 some x1
noncomputable def Zdi (a:Zj) (b:Int) (s1:Int×(List Int)):Option ((Int×(List Int))⊕(List Int)):=
 bif (decide (s1.1<(a.futures.length:Int))) then
  (ZE a.futures s1.1).bind fun x2=>
  bif (x2.user==b) then
   bif (Nat.ble (List.length s1.2+1) lim) then
    some (.inl ((w64 (s1.1+1)),(s1.2++[s1.1])))
   else
    none
  else
   some (.inl ((w64 (s1.1+1)),s1.2))
 else
  some (.inr s1.2)
noncomputable def ZcJ (a:Zj) (b:Int):Option (List Int):=
 (ZeQ a).bind fun x0=>
 bif (x0 != 0) then
  some ([]:List Int)
 else
  (lp (Zdi a b) (0,([]:(List Int)))).bind fun r3=>
  (ZaM (fun z0 z1=>Zt z0 z1 a.futures) r3).bind fun x4=>
  some x4
noncomputable def ZfT (a:Zj) (b:Int) (s1:Int×(List Int)):Option ((Int×(List Int))⊕(List Int)):=
 bif (decide (s1.1<(a.edges.length:Int))) then
  (ZE a.edges s1.1).bind fun x2=>
  bif (x2.dst==b) then
   bif (Nat.ble (List.length s1.2+1) lim) then
    some (.inl ((w64 (s1.1+1)),(s1.2++[x2.src])))
   else
    none
  else
   some (.inl ((w64 (s1.1+1)),s1.2))
 else
  some (.inr s1.2)
noncomputable def ZfU (a:Zj) (x4:(List Int)) (s5:Int×(List Int)):Option ((Int×(List Int))⊕(List Int)):=
 bif (decide (s5.1<(x4.length:Int))) then
  (ZE x4 s5.1).bind fun x6=>
  (ZE a.futures x6).bind fun x7=>
  bif (Nat.ble (List.length s5.2+1) lim) then
   some (.inl ((w64 (s5.1+1)),(s5.2++[x7.maker])))
  else
   none
 else
  some (.inr s5.2)
noncomputable def Zfv (a:Zj) (b:Int):Option (List Int):=
 (ZeQ a).bind fun x0=>
 bif (x0 != 0) then
  some ([]:List Int)
 else
  (lp (ZfT a b) (0,([]:(List Int)))).bind fun r3=>
  (ZcJ a b).bind fun x4=>
  (lp (ZfU a x4) (0,r3)).bind fun r8=>
  some r8
noncomputable def Zc1 (a:Int):Option Int:=
 some (IntKind.u32.wrap a)
noncomputable def Zie:Option Unit:=
 some ()
noncomputable def ZfL (a:Int) (b:Int):Option Int:=
 some (IntKind.u32.wrap (a+b))
noncomputable def ZfP (a:Int) (b:Int):Option Int:=
 some (IntKind.u32.wrap (a*b))
noncomputable def ZfO (a:Int) (b:Int):Option Int:=
 some (bif decide (a<b) then b else a)
noncomputable def ZfS (a:Int) (b:Int):Option Int:=
 some (IntKind.u32.wrap ((IntKind.u32.wrap (a*31))+b))
noncomputable def ZeL (b:(List Int)) (s0:Int×(List (Int×Int))):Option ((Int×(List (Int×Int)))⊕(List (Int×Int))):=
 bif (decide (s0.1<(b.length:Int))) then
  (ZE b s0.1).bind fun x1=>
  some (.inl ((w64 (s0.1+1)),(Zu (fun ka kb:Int=>(ka==kb)) s0.2 s0.1 x1)))
 else
  some (.inr s0.2)
noncomputable def ZeP (c:(List Int)) (s6:Int×Int):Option ((Int×Int)⊕Int):=
 bif (decide (s6.2<(c.length:Int))) then
  (ZE c s6.2).bind fun x7=>
  (Zc1 x7).bind fun x8=>
  (ZfL s6.1 x8).bind fun x9=>
  some (.inl (x9,(w64 (s6.2+1))))
 else
  some (.inr s6.1)
noncomputable def ZdX (c:(List Int)) (s11:Int×Int):Option ((Int×Int)⊕Int):=
 bif (decide (s11.2<(c.length:Int))) then
  (ZE c s11.2).bind fun x12=>
  (Zc1 x12).bind fun x13=>
  (ZfP s11.1 x13).bind fun x14=>
  some (.inl (x14,(w64 (s11.2+1))))
 else
  some (.inr s11.1)
noncomputable def ZdZ (c:(List Int)) (s16:Int×Int):Option ((Int×Int)⊕Int):=
 bif (decide (s16.2<(c.length:Int))) then
  (ZE c s16.2).bind fun x17=>
  (Zc1 x17).bind fun x18=>
  (ZfO s16.1 x18).bind fun x19=>
  some (.inl (x19,(w64 (s16.2+1))))
 else
  some (.inr s16.1)
noncomputable def ZdO (c:(List Int)) (s21:Int×Int):Option ((Int×Int)⊕Int):=
 bif (decide (s21.2<(c.length:Int))) then
  (ZE c s21.2).bind fun x22=>
  (Zc1 x22).bind fun x23=>
  (ZfS s21.1 x23).bind fun x24=>
  some (.inl (x24,(w64 (s21.2+1))))
 else
  some (.inr s21.1)
noncomputable def Zi7 (a:ZV) (b:(List Int)) (c:(List Int)):Option Int:=
 bif (a.op==0) then
  (lp (ZeL b) (0,([]:(List (Int×Int))))).bind fun r2=>
  (Zc1 (Z3 (fun ka kb:Int=>(ka==kb)) r2 a.arg 0)).bind fun x3=>
  some (w64 x3)
 else
  bif (a.op==1) then
   (Zc1 a.arg).bind fun x4=>
   some (w64 x4)
  else
   bif (decide (a.op<0)) then
    some 0
   else
    bif (decide (5<a.op)) then
     some 0
    else
     Zie.bind fun x5=>
     bif (decide (0≤(w64 (a.op-2)))&&decide ((w64 (a.op-2))<4)) then
      bif ((w64 (a.op-2))==0) then
       (lp (ZeP c) (0,0)).bind fun r10=>
       some (w64 r10)
      else
      bif ((w64 (a.op-2))==1) then
       (lp (ZdX c) (1,0)).bind fun r15=>
       some (w64 r15)
      else
      bif ((w64 (a.op-2))==2) then
       (lp (ZdZ c) (0,0)).bind fun r20=>
       some (w64 r20)
      else
      bif ((w64 (a.op-2))==3) then
       (lp (ZdO c) (7,0)).bind fun r25=>
       some (w64 r25)
      else
       none
     else
      none
noncomputable def Zal (b:Zh) (c:Int) (m1_0:(List Int)) (m3_0:(List Zh)):Option Unit:=
 bif (Nat.ble (List.length m3_0+1) lim) then
  bif (Nat.ble (List.length m1_0+1) lim) then
   some ()
  else
   none
 else
  none
noncomputable def ZI (b:Int) (c:Int) (m2_0:(List Zm)):Option Unit:=
 bif (Nat.ble (List.length m2_0+1) lim) then
  some ()
 else
  none
noncomputable def ZA (b:Zj) (c:Int) (x0:(List Int)) (s14:Int×Int×(List (Int×Int))×(List (Zi×Int))×(List Int)×(List Zm)×(List Zh)):Option ((Int×Int×(List (Int×Int))×(List (Zi×Int))×(List Int)×(List Zm)×(List Zh))⊕((List (Int×Int))×(List (Zi×Int))×(List Int)×(List Zm)×(List Zh))):=
 bif (decide (s14.2.1<(w64 ((x0.length:Int)+1)))) then
  (ZE b.parts c).bind fun x15=>
  bif (decide (s14.2.1<(x0.length:Int))) then
   (ZE x0 s14.2.1).bind fun x16=>
   (ZE b.futures x16).bind fun x17=>
   (Zal (Zh.mk c s14.2.1) (w64 (x17.pos-s14.1)) s14.2.2.2.2.1 s14.2.2.2.2.2.2).bind fun x18=>
   bif (decide (0<s14.2.1)) then
    (ZI (w64 ((Z3 (fun ka kb:Int=>(ka==kb)) (Zu (fun ka kb:Int=>(ka==kb)) s14.2.2.1 c (w64 ((List.length (s14.2.2.2.2.2.2++[(Zh.mk c s14.2.1)]):Int)-1))) c 0)-1)) (Z3 (fun ka kb:Int=>(ka==kb)) (Zu (fun ka kb:Int=>(ka==kb)) s14.2.2.1 c (w64 ((List.length (s14.2.2.2.2.2.2++[(Zh.mk c s14.2.1)]):Int)-1))) c 0) s14.2.2.2.2.2.1).bind fun x19=>
    (ZE x0 (w64 (s14.2.1-1))).bind fun x20=>
    (ZE b.futures x20).bind fun x21=>
    some (.inl (x17.pos,(w64 (s14.2.1+1)),(Zu (fun ka kb:Int=>(ka==kb)) s14.2.2.1 c (w64 ((List.length (s14.2.2.2.2.2.2++[(Zh.mk c s14.2.1)]):Int)-1))),(Zu (fun ka kb:Zi=>((ka.maker==kb.maker)&&((ka.user==kb.user)&&((ka.pos==kb.pos)&&true)))) s14.2.2.2.1 x21 (Z3 (fun ka kb:Int=>(ka==kb)) (Zu (fun ka kb:Int=>(ka==kb)) s14.2.2.1 c (w64 ((List.length (s14.2.2.2.2.2.2++[(Zh.mk c s14.2.1)]):Int)-1))) c 0)),(s14.2.2.2.2.1++[(w64 (x17.pos-s14.1))]),(s14.2.2.2.2.2.1++[(Zm.mk (w64 ((Z3 (fun ka kb:Int=>(ka==kb)) (Zu (fun ka kb:Int=>(ka==kb)) s14.2.2.1 c (w64 ((List.length (s14.2.2.2.2.2.2++[(Zh.mk c s14.2.1)]):Int)-1))) c 0)-1)) (Z3 (fun ka kb:Int=>(ka==kb)) (Zu (fun ka kb:Int=>(ka==kb)) s14.2.2.1 c (w64 ((List.length (s14.2.2.2.2.2.2++[(Zh.mk c s14.2.1)]):Int)-1))) c 0))]),(s14.2.2.2.2.2.2++[(Zh.mk c s14.2.1)])))
   else
    some (.inl (x17.pos,(w64 (s14.2.1+1)),(Zu (fun ka kb:Int=>(ka==kb)) s14.2.2.1 c (w64 ((List.length (s14.2.2.2.2.2.2++[(Zh.mk c s14.2.1)]):Int)-1))),s14.2.2.2.1,(s14.2.2.2.2.1++[(w64 (x17.pos-s14.1))]),s14.2.2.2.2.2.1,(s14.2.2.2.2.2.2++[(Zh.mk c s14.2.1)])))
  else
   (Zal (Zh.mk c s14.2.1) (w64 (x15.work-s14.1)) s14.2.2.2.2.1 s14.2.2.2.2.2.2).bind fun x22=>
   bif (decide (0<s14.2.1)) then
    (ZI (w64 ((Z3 (fun ka kb:Int=>(ka==kb)) (Zu (fun ka kb:Int=>(ka==kb)) s14.2.2.1 c (w64 ((List.length (s14.2.2.2.2.2.2++[(Zh.mk c s14.2.1)]):Int)-1))) c 0)-1)) (Z3 (fun ka kb:Int=>(ka==kb)) (Zu (fun ka kb:Int=>(ka==kb)) s14.2.2.1 c (w64 ((List.length (s14.2.2.2.2.2.2++[(Zh.mk c s14.2.1)]):Int)-1))) c 0) s14.2.2.2.2.2.1).bind fun x23=>
    (ZE x0 (w64 (s14.2.1-1))).bind fun x24=>
    (ZE b.futures x24).bind fun x25=>
    some (.inl (x15.work,(w64 (s14.2.1+1)),(Zu (fun ka kb:Int=>(ka==kb)) s14.2.2.1 c (w64 ((List.length (s14.2.2.2.2.2.2++[(Zh.mk c s14.2.1)]):Int)-1))),(Zu (fun ka kb:Zi=>((ka.maker==kb.maker)&&((ka.user==kb.user)&&((ka.pos==kb.pos)&&true)))) s14.2.2.2.1 x25 (Z3 (fun ka kb:Int=>(ka==kb)) (Zu (fun ka kb:Int=>(ka==kb)) s14.2.2.1 c (w64 ((List.length (s14.2.2.2.2.2.2++[(Zh.mk c s14.2.1)]):Int)-1))) c 0)),(s14.2.2.2.2.1++[(w64 (x15.work-s14.1))]),(s14.2.2.2.2.2.1++[(Zm.mk (w64 ((Z3 (fun ka kb:Int=>(ka==kb)) (Zu (fun ka kb:Int=>(ka==kb)) s14.2.2.1 c (w64 ((List.length (s14.2.2.2.2.2.2++[(Zh.mk c s14.2.1)]):Int)-1))) c 0)-1)) (Z3 (fun ka kb:Int=>(ka==kb)) (Zu (fun ka kb:Int=>(ka==kb)) s14.2.2.1 c (w64 ((List.length (s14.2.2.2.2.2.2++[(Zh.mk c s14.2.1)]):Int)-1))) c 0))]),(s14.2.2.2.2.2.2++[(Zh.mk c s14.2.1)])))
   else
    some (.inl (x15.work,(w64 (s14.2.1+1)),(Zu (fun ka kb:Int=>(ka==kb)) s14.2.2.1 c (w64 ((List.length (s14.2.2.2.2.2.2++[(Zh.mk c s14.2.1)]):Int)-1))),s14.2.2.2.1,(s14.2.2.2.2.1++[(w64 (x15.work-s14.1))]),s14.2.2.2.2.2.1,(s14.2.2.2.2.2.2++[(Zh.mk c s14.2.1)])))
 else
  some (.inr (s14.2.2.1,s14.2.2.2.1,s14.2.2.2.2.1,s14.2.2.2.2.2.1,s14.2.2.2.2.2.2))
noncomputable def Zbv (b:Zj) (c:Int) (m1_0:(List Int)) (m2_0:(List Zm)) (m3_0:(List Zh)) (m5_0:(List (Int×Int))) (m6_0:(List (Zi×Int))) (x0:(List Int)) (x4:Zi) (s6:Unit):Option (Unit⊕(((List (Int×Int))×(List (Zi×Int))×(List Int)×(List Zm)×(List Zh))⊕Unit)):=
 bif (decide (1<(w64 ((x0.length:Int)+1)))) then
  (ZE b.parts c).bind fun x7=>
  bif (decide (1<(x0.length:Int))) then
   (ZE x0 1).bind fun x8=>
   (ZE b.futures x8).bind fun x9=>
   (Zal (Zh.mk c 1) (w64 (x9.pos-x4.pos)) (m1_0++[(w64 (x4.pos-0))]) (m3_0++[(Zh.mk c 0)])).bind fun x10=>
   (ZI (w64 ((Z3 (fun ka kb:Int=>(ka==kb)) (Zu (fun ka kb:Int=>(ka==kb)) (Zu (fun ka kb:Int=>(ka==kb)) m5_0 c (w64 ((List.length (m3_0++[(Zh.mk c 0)]):Int)-1))) c (w64 ((List.length ((m3_0++[(Zh.mk c 0)])++[(Zh.mk c 1)]):Int)-1))) c 0)-1)) (Z3 (fun ka kb:Int=>(ka==kb)) (Zu (fun ka kb:Int=>(ka==kb)) (Zu (fun ka kb:Int=>(ka==kb)) m5_0 c (w64 ((List.length (m3_0++[(Zh.mk c 0)]):Int)-1))) c (w64 ((List.length ((m3_0++[(Zh.mk c 0)])++[(Zh.mk c 1)]):Int)-1))) c 0) m2_0).bind fun x11=>
   (ZE x0 0).bind fun x12=>
   (ZE b.futures x12).bind fun x13=>
   (lp (ZA b c x0) (x9.pos,2,(Zu (fun ka kb:Int=>(ka==kb)) (Zu (fun ka kb:Int=>(ka==kb)) m5_0 c (w64 ((List.length (m3_0++[(Zh.mk c 0)]):Int)-1))) c (w64 ((List.length ((m3_0++[(Zh.mk c 0)])++[(Zh.mk c 1)]):Int)-1))),(Zu (fun ka kb:Zi=>((ka.maker==kb.maker)&&((ka.user==kb.user)&&((ka.pos==kb.pos)&&true)))) m6_0 x13 (Z3 (fun ka kb:Int=>(ka==kb)) (Zu (fun ka kb:Int=>(ka==kb)) (Zu (fun ka kb:Int=>(ka==kb)) m5_0 c (w64 ((List.length (m3_0++[(Zh.mk c 0)]):Int)-1))) c (w64 ((List.length ((m3_0++[(Zh.mk c 0)])++[(Zh.mk c 1)]):Int)-1))) c 0)),((m1_0++[(w64 (x4.pos-0))])++[(w64 (x9.pos-x4.pos))]),(m2_0++[(Zm.mk (w64 ((Z3 (fun ka kb:Int=>(ka==kb)) (Zu (fun ka kb:Int=>(ka==kb)) (Zu (fun ka kb:Int=>(ka==kb)) m5_0 c (w64 ((List.length (m3_0++[(Zh.mk c 0)]):Int)-1))) c (w64 ((List.length ((m3_0++[(Zh.mk c 0)])++[(Zh.mk c 1)]):Int)-1))) c 0)-1)) (Z3 (fun ka kb:Int=>(ka==kb)) (Zu (fun ka kb:Int=>(ka==kb)) (Zu (fun ka kb:Int=>(ka==kb)) m5_0 c (w64 ((List.length (m3_0++[(Zh.mk c 0)]):Int)-1))) c (w64 ((List.length ((m3_0++[(Zh.mk c 0)])++[(Zh.mk c 1)]):Int)-1))) c 0))]),((m3_0++[(Zh.mk c 0)])++[(Zh.mk c 1)]))).bind fun r26=>
   some (.inr (.inl (r26.1,r26.2.1,r26.2.2.1,r26.2.2.2.1,r26.2.2.2.2)))
  else
   (Zal (Zh.mk c 1) (w64 (x7.work-x4.pos)) (m1_0++[(w64 (x4.pos-0))]) (m3_0++[(Zh.mk c 0)])).bind fun x27=>
   (ZI (w64 ((Z3 (fun ka kb:Int=>(ka==kb)) (Zu (fun ka kb:Int=>(ka==kb)) (Zu (fun ka kb:Int=>(ka==kb)) m5_0 c (w64 ((List.length (m3_0++[(Zh.mk c 0)]):Int)-1))) c (w64 ((List.length ((m3_0++[(Zh.mk c 0)])++[(Zh.mk c 1)]):Int)-1))) c 0)-1)) (Z3 (fun ka kb:Int=>(ka==kb)) (Zu (fun ka kb:Int=>(ka==kb)) (Zu (fun ka kb:Int=>(ka==kb)) m5_0 c (w64 ((List.length (m3_0++[(Zh.mk c 0)]):Int)-1))) c (w64 ((List.length ((m3_0++[(Zh.mk c 0)])++[(Zh.mk c 1)]):Int)-1))) c 0) m2_0).bind fun x28=>
   (ZE x0 0).bind fun x29=>
   (ZE b.futures x29).bind fun x30=>
   (lp (ZA b c x0) (x7.work,2,(Zu (fun ka kb:Int=>(ka==kb)) (Zu (fun ka kb:Int=>(ka==kb)) m5_0 c (w64 ((List.length (m3_0++[(Zh.mk c 0)]):Int)-1))) c (w64 ((List.length ((m3_0++[(Zh.mk c 0)])++[(Zh.mk c 1)]):Int)-1))),(Zu (fun ka kb:Zi=>((ka.maker==kb.maker)&&((ka.user==kb.user)&&((ka.pos==kb.pos)&&true)))) m6_0 x30 (Z3 (fun ka kb:Int=>(ka==kb)) (Zu (fun ka kb:Int=>(ka==kb)) (Zu (fun ka kb:Int=>(ka==kb)) m5_0 c (w64 ((List.length (m3_0++[(Zh.mk c 0)]):Int)-1))) c (w64 ((List.length ((m3_0++[(Zh.mk c 0)])++[(Zh.mk c 1)]):Int)-1))) c 0)),((m1_0++[(w64 (x4.pos-0))])++[(w64 (x7.work-x4.pos))]),(m2_0++[(Zm.mk (w64 ((Z3 (fun ka kb:Int=>(ka==kb)) (Zu (fun ka kb:Int=>(ka==kb)) (Zu (fun ka kb:Int=>(ka==kb)) m5_0 c (w64 ((List.length (m3_0++[(Zh.mk c 0)]):Int)-1))) c (w64 ((List.length ((m3_0++[(Zh.mk c 0)])++[(Zh.mk c 1)]):Int)-1))) c 0)-1)) (Z3 (fun ka kb:Int=>(ka==kb)) (Zu (fun ka kb:Int=>(ka==kb)) (Zu (fun ka kb:Int=>(ka==kb)) m5_0 c (w64 ((List.length (m3_0++[(Zh.mk c 0)]):Int)-1))) c (w64 ((List.length ((m3_0++[(Zh.mk c 0)])++[(Zh.mk c 1)]):Int)-1))) c 0))]),((m3_0++[(Zh.mk c 0)])++[(Zh.mk c 1)]))).bind fun r43=>
   some (.inr (.inl (r43.1,r43.2.1,r43.2.2.1,r43.2.2.2.1,r43.2.2.2.2)))
 else
  some (.inr (.inr ()))
noncomputable def Zck (b:Zj) (c:Int) (m1_0:(List Int)) (m2_0:(List Zm)) (m3_0:(List Zh)) (m5_0:(List (Int×Int))) (m6_0:(List (Zi×Int))) (x0:(List Int)) (x2:ZV) (s46:Unit):Option (Unit⊕(((List (Int×Int))×(List (Zi×Int))×(List Int)×(List Zm)×(List Zh))⊕Unit)):=
 bif (decide (1<(w64 ((x0.length:Int)+1)))) then
  (ZE b.parts c).bind fun x47=>
  bif (decide (1<(x0.length:Int))) then
   (ZE x0 1).bind fun x48=>
   (ZE b.futures x48).bind fun x49=>
   (Zal (Zh.mk c 1) (w64 (x49.pos-x2.work)) (m1_0++[(w64 (x2.work-0))]) (m3_0++[(Zh.mk c 0)])).bind fun x50=>
   (ZI (w64 ((Z3 (fun ka kb:Int=>(ka==kb)) (Zu (fun ka kb:Int=>(ka==kb)) (Zu (fun ka kb:Int=>(ka==kb)) m5_0 c (w64 ((List.length (m3_0++[(Zh.mk c 0)]):Int)-1))) c (w64 ((List.length ((m3_0++[(Zh.mk c 0)])++[(Zh.mk c 1)]):Int)-1))) c 0)-1)) (Z3 (fun ka kb:Int=>(ka==kb)) (Zu (fun ka kb:Int=>(ka==kb)) (Zu (fun ka kb:Int=>(ka==kb)) m5_0 c (w64 ((List.length (m3_0++[(Zh.mk c 0)]):Int)-1))) c (w64 ((List.length ((m3_0++[(Zh.mk c 0)])++[(Zh.mk c 1)]):Int)-1))) c 0) m2_0).bind fun x51=>
   (ZE x0 0).bind fun x52=>
   (ZE b.futures x52).bind fun x53=>
   (lp (ZA b c x0) (x49.pos,2,(Zu (fun ka kb:Int=>(ka==kb)) (Zu (fun ka kb:Int=>(ka==kb)) m5_0 c (w64 ((List.length (m3_0++[(Zh.mk c 0)]):Int)-1))) c (w64 ((List.length ((m3_0++[(Zh.mk c 0)])++[(Zh.mk c 1)]):Int)-1))),(Zu (fun ka kb:Zi=>((ka.maker==kb.maker)&&((ka.user==kb.user)&&((ka.pos==kb.pos)&&true)))) m6_0 x53 (Z3 (fun ka kb:Int=>(ka==kb)) (Zu (fun ka kb:Int=>(ka==kb)) (Zu (fun ka kb:Int=>(ka==kb)) m5_0 c (w64 ((List.length (m3_0++[(Zh.mk c 0)]):Int)-1))) c (w64 ((List.length ((m3_0++[(Zh.mk c 0)])++[(Zh.mk c 1)]):Int)-1))) c 0)),((m1_0++[(w64 (x2.work-0))])++[(w64 (x49.pos-x2.work))]),(m2_0++[(Zm.mk (w64 ((Z3 (fun ka kb:Int=>(ka==kb)) (Zu (fun ka kb:Int=>(ka==kb)) (Zu (fun ka kb:Int=>(ka==kb)) m5_0 c (w64 ((List.length (m3_0++[(Zh.mk c 0)]):Int)-1))) c (w64 ((List.length ((m3_0++[(Zh.mk c 0)])++[(Zh.mk c 1)]):Int)-1))) c 0)-1)) (Z3 (fun ka kb:Int=>(ka==kb)) (Zu (fun ka kb:Int=>(ka==kb)) (Zu (fun ka kb:Int=>(ka==kb)) m5_0 c (w64 ((List.length (m3_0++[(Zh.mk c 0)]):Int)-1))) c (w64 ((List.length ((m3_0++[(Zh.mk c 0)])++[(Zh.mk c 1)]):Int)-1))) c 0))]),((m3_0++[(Zh.mk c 0)])++[(Zh.mk c 1)]))).bind fun r66=>
   some (.inr (.inl (r66.1,r66.2.1,r66.2.2.1,r66.2.2.2.1,r66.2.2.2.2)))
  else
   (Zal (Zh.mk c 1) (w64 (x47.work-x2.work)) (m1_0++[(w64 (x2.work-0))]) (m3_0++[(Zh.mk c 0)])).bind fun x67=>
   (ZI (w64 ((Z3 (fun ka kb:Int=>(ka==kb)) (Zu (fun ka kb:Int=>(ka==kb)) (Zu (fun ka kb:Int=>(ka==kb)) m5_0 c (w64 ((List.length (m3_0++[(Zh.mk c 0)]):Int)-1))) c (w64 ((List.length ((m3_0++[(Zh.mk c 0)])++[(Zh.mk c 1)]):Int)-1))) c 0)-1)) (Z3 (fun ka kb:Int=>(ka==kb)) (Zu (fun ka kb:Int=>(ka==kb)) (Zu (fun ka kb:Int=>(ka==kb)) m5_0 c (w64 ((List.length (m3_0++[(Zh.mk c 0)]):Int)-1))) c (w64 ((List.length ((m3_0++[(Zh.mk c 0)])++[(Zh.mk c 1)]):Int)-1))) c 0) m2_0).bind fun x68=>
   (ZE x0 0).bind fun x69=>
   (ZE b.futures x69).bind fun x70=>
   (lp (ZA b c x0) (x47.work,2,(Zu (fun ka kb:Int=>(ka==kb)) (Zu (fun ka kb:Int=>(ka==kb)) m5_0 c (w64 ((List.length (m3_0++[(Zh.mk c 0)]):Int)-1))) c (w64 ((List.length ((m3_0++[(Zh.mk c 0)])++[(Zh.mk c 1)]):Int)-1))),(Zu (fun ka kb:Zi=>((ka.maker==kb.maker)&&((ka.user==kb.user)&&((ka.pos==kb.pos)&&true)))) m6_0 x70 (Z3 (fun ka kb:Int=>(ka==kb)) (Zu (fun ka kb:Int=>(ka==kb)) (Zu (fun ka kb:Int=>(ka==kb)) m5_0 c (w64 ((List.length (m3_0++[(Zh.mk c 0)]):Int)-1))) c (w64 ((List.length ((m3_0++[(Zh.mk c 0)])++[(Zh.mk c 1)]):Int)-1))) c 0)),((m1_0++[(w64 (x2.work-0))])++[(w64 (x47.work-x2.work))]),(m2_0++[(Zm.mk (w64 ((Z3 (fun ka kb:Int=>(ka==kb)) (Zu (fun ka kb:Int=>(ka==kb)) (Zu (fun ka kb:Int=>(ka==kb)) m5_0 c (w64 ((List.length (m3_0++[(Zh.mk c 0)]):Int)-1))) c (w64 ((List.length ((m3_0++[(Zh.mk c 0)])++[(Zh.mk c 1)]):Int)-1))) c 0)-1)) (Z3 (fun ka kb:Int=>(ka==kb)) (Zu (fun ka kb:Int=>(ka==kb)) (Zu (fun ka kb:Int=>(ka==kb)) m5_0 c (w64 ((List.length (m3_0++[(Zh.mk c 0)]):Int)-1))) c (w64 ((List.length ((m3_0++[(Zh.mk c 0)])++[(Zh.mk c 1)]):Int)-1))) c 0))]),((m3_0++[(Zh.mk c 0)])++[(Zh.mk c 1)]))).bind fun r83=>
   some (.inr (.inl (r83.1,r83.2.1,r83.2.2.1,r83.2.2.2.1,r83.2.2.2.2)))
 else
  some (.inr (.inr ()))
noncomputable def Zbw (b:Zj) (c:Int) (m1_0:(List Int)) (m2_0:(List Zm)) (m3_0:(List Zh)) (m5_0:(List (Int×Int))) (m6_0:(List (Zi×Int))) (x0:(List Int)) (s1:Unit):Option (Unit⊕(((List (Int×Int))×(List (Zi×Int))×(List Int)×(List Zm)×(List Zh))⊕((List Int)⊕Unit))):=
 bif (decide (0<(w64 ((x0.length:Int)+1)))) then
  (ZE b.parts c).bind fun x2=>
  bif (decide (0<(x0.length:Int))) then
   (ZE x0 0).bind fun x3=>
   (ZE b.futures x3).bind fun x4=>
   (Zal (Zh.mk c 0) (w64 (x4.pos-0)) m1_0 m3_0).bind fun x5=>
   (lp (Zbv b c m1_0 m2_0 m3_0 m5_0 m6_0 x0 x4) ()).bind fun r44=>
   match r44 with
   | (.inl r44)=>
    some (.inr (.inl (r44.1,r44.2.1,r44.2.2.1,r44.2.2.2.1,r44.2.2.2.2)))
   | (.inr r44)=>
    some (.inr (.inr (.inl (m1_0++[(w64 (x4.pos-0))]))))
  else
   (Zal (Zh.mk c 0) (w64 (x2.work-0)) m1_0 m3_0).bind fun x45=>
   (lp (Zck b c m1_0 m2_0 m3_0 m5_0 m6_0 x0 x2) ()).bind fun r84=>
   match r84 with
   | (.inl r84)=>
    some (.inr (.inl (r84.1,r84.2.1,r84.2.2.1,r84.2.2.2.1,r84.2.2.2.2)))
   | (.inr r84)=>
    some (.inr (.inr (.inl (m1_0++[(w64 (x2.work-0))]))))
 else
  some (.inr (.inr (.inr ())))
noncomputable def Zdu (b:Zj) (c:Int) (m1_0:(List Int)) (m2_0:(List Zm)) (m3_0:(List Zh)) (m5_0:(List (Int×Int))) (m6_0:(List (Zi×Int))):Option (((List (Int×Int))×(List (Zi×Int))×(List Int)×(List Zm)×(List Zh))⊕((List Int)⊕Unit)):=
 (ZcJ b c).bind fun x0=>
 (lp (Zbw b c m1_0 m2_0 m3_0 m5_0 m6_0 x0) ()).bind fun r85=>
 match r85 with
 | (.inl r85)=>
  some (.inl (r85.1,r85.2.1,r85.2.2.1,r85.2.2.2.1,r85.2.2.2.2))
 | (.inr (.inl r85))=>
  some (.inr (.inl r85))
 | (.inr (.inr r85))=>
  some (.inr (.inr ()))
noncomputable def Zc3 (a:Int):Option Bool:=
 bif (decide (a<0)) then
  some true
 else
  bif (decide (1000<a)) then
   some true
  else
   some false
noncomputable def ZeZ (a:Int) (b0:(List Int)):Option Bool:=
 bif (decide (0≤a)) then
  bif (decide (a<(b0.length:Int))) then
   some true
  else
   some false
 else
  some false
noncomputable def ZeD (a:Zcp) (s0:(List Int)×(List Bool)) (s1:Int) (s3:Int):Option (Int⊕(Unit⊕Unit)):=
 bif (decide (s3<(a.edges.length:Int))) then
  (ZE a.edges s3).bind fun x4=>
  bif (x4.dst==s1) then
   (ZE s0.2 x4.src).bind fun x5=>
   bif x5 then
    some (.inl (w64 (s3+1)))
   else
    some (.inr (.inl ()))
  else
   some (.inl (w64 (s3+1)))
 else
  some (.inr (.inr ()))
noncomputable def ZdN (a:Zcp) (s0:(List Int)×(List Bool)) (s1:Int):Option (Int⊕(((List Int)×(List Bool))⊕Unit)):=
 bif (decide (s1<(a.work.length:Int))) then
  (ZE s0.2 s1).bind fun x2=>
  bif x2 then
   some (.inl (w64 (s1+1)))
  else
   (lp (ZeD a s0 s1) 0).bind fun r6=>
   match r6 with
   | (.inl r6)=>
    some (.inl (w64 (s1+1)))
   | (.inr r6)=>
    bif (Nat.ble (List.length s0.1+1) lim) then
     some (.inr (.inl ((s0.1++[s1]),(List.set s0.2 s1.toNat true))))
    else
     none
 else
  some (.inr (.inr ()))
noncomputable def ZeF (a:Zcp) (s0:(List Int)×(List Bool)):Option (((List Int)×(List Bool))⊕((List Int)⊕(List Int))):=
 bif (decide ((s0.1.length:Int)<(a.work.length:Int))) then
  (lp (ZdN a s0) 0).bind fun r7=>
  match r7 with
  | (.inl r7)=>
   some (.inl (r7.1,r7.2))
  | (.inr r7)=>
   some (.inr (.inl s0.1))
 else
  some (.inr (.inr s0.1))
noncomputable def Zfa (a:Zcp):Option ((List Int)×Bool):=
 bif (decide (0≤(a.work.length:Int))&&decide ((a.work.length:Int)≤lim)&&decide ((a.work.length:Int)==(a.work.length:Int))) then
  (lp (ZeF a) (([]:(List Int)),(List.replicate (a.work.length:Int).toNat (false:Bool)))).bind fun r8=>
  match r8 with
  | (.inl r8)=>
   some (([]:List Int),false)
  | (.inr r8)=>
   some (r8,true)
 else
  none
noncomputable def Zd1 (a:Zcp) (s1:Int):Option (Int⊕(Unit⊕Unit)):=
 bif (decide (s1<(a.edges.length:Int))) then
  (ZE a.edges s1).bind fun x2=>
  (ZeZ x2.src a.work).bind fun x3=>
  bif x3 then
   (ZeZ x2.dst a.work).bind fun x4=>
   bif x4 then
    bif (x2.src==x2.dst) then
     some (.inr (.inl ()))
    else
     bif (decide (0≤s1)) then
      bif (Nat.ble s1.toNat (List.length a.edges)) then
       (ZaV (List.take s1.toNat a.edges) x2).bind fun x5=>
       bif x5 then
        some (.inr (.inl ()))
       else
        some (.inl (w64 (s1+1)))
      else
       none
     else
      none
   else
    some (.inr (.inl ()))
  else
   some (.inr (.inl ()))
 else
  some (.inr (.inr ()))
noncomputable def Zg2 (a:Zcp):Option Int:=
 bif (decide (64<(a.work.length:Int))) then
  some 40
 else
  bif (decide (256<(a.edges.length:Int))) then
   some 40
  else
   (Z7 a.work (fun z0=>Zc3 z0)).bind fun x0=>
   bif x0 then
    some 41
   else
    (lp (Zd1 a) 0).bind fun r6=>
    match r6 with
    | (.inl r6)=>
     some 42
    | (.inr r6)=>
     (Zfa a).bind fun x7=>
     bif x7.2 then
      some 0
     else
      some 43
noncomputable def Zcx (a:Zj) (s1:Int×(List Int)×(List Zm)×(List Zh)×(List (Int×Int))×(List (Int×Int))×(List (Zi×Int))):Option ((Int×(List Int)×(List Zm)×(List Zh)×(List (Int×Int))×(List (Int×Int))×(List (Zi×Int)))⊕((List Int)×(List Zm)×(List Zh)×(List (Int×Int))×(List (Int×Int))×(List (Zi×Int)))):=
 bif (decide (s1.1<(a.parts.length:Int))) then
  (Zdu a s1.1 s1.2.1 s1.2.2.1 s1.2.2.2.1 s1.2.2.2.2.2.1 s1.2.2.2.2.2.2).bind fun x2=>
  match x2 with
  | (.inl x2)=>
   some (.inl ((w64 (s1.1+1)),x2.2.2.1,x2.2.2.2.1,x2.2.2.2.2,(Zu (fun ka kb:Int=>(ka==kb)) s1.2.2.2.2.1 s1.1 (s1.2.2.2.1.length:Int)),x2.1,x2.2.1))
  | (.inr (.inl x2))=>
   some (.inl ((w64 (s1.1+1)),x2,s1.2.2.1,(s1.2.2.2.1++[(Zh.mk s1.1 0)]),(Zu (fun ka kb:Int=>(ka==kb)) s1.2.2.2.2.1 s1.1 (s1.2.2.2.1.length:Int)),(Zu (fun ka kb:Int=>(ka==kb)) s1.2.2.2.2.2.1 s1.1 (w64 ((List.length (s1.2.2.2.1++[(Zh.mk s1.1 0)]):Int)-1))),s1.2.2.2.2.2.2))
  | (.inr (.inr x2))=>
   some (.inl ((w64 (s1.1+1)),s1.2.1,s1.2.2.1,s1.2.2.2.1,(Zu (fun ka kb:Int=>(ka==kb)) s1.2.2.2.2.1 s1.1 (s1.2.2.2.1.length:Int)),s1.2.2.2.2.2.1,s1.2.2.2.2.2.2))
 else
  some (.inr (s1.2.1,s1.2.2.1,s1.2.2.2.1,s1.2.2.2.2.1,s1.2.2.2.2.2.1,s1.2.2.2.2.2.2))
noncomputable def ZcV (a:Zj) (r3:((List Int)×(List Zm)×(List Zh)×(List (Int×Int))×(List (Int×Int))×(List (Zi×Int)))) (s4:Int×(List Zm)):Option ((Int×(List Zm))⊕(List Zm)):=
 bif (decide (s4.1<(a.edges.length:Int))) then
  (ZE a.edges s4.1).bind fun x5=>
  (ZI (Z3 (fun ka kb:Int=>(ka==kb)) r3.2.2.2.2.1 x5.src 0) (Z3 (fun ka kb:Int=>(ka==kb)) r3.2.2.2.1 x5.dst 0) s4.2).bind fun x6=>
  some (.inl ((w64 (s4.1+1)),(s4.2++[(Zm.mk (Z3 (fun ka kb:Int=>(ka==kb)) r3.2.2.2.2.1 x5.src 0) (Z3 (fun ka kb:Int=>(ka==kb)) r3.2.2.2.1 x5.dst 0))])))
 else
  some (.inr s4.2)
noncomputable def ZcZ (a:Zj) (r3:((List Int)×(List Zm)×(List Zh)×(List (Int×Int))×(List (Int×Int))×(List (Zi×Int)))) (s8:Int×(List Zm)):Option ((Int×(List Zm))⊕(List Zm)):=
 bif (decide (s8.1<(a.futures.length:Int))) then
  (ZE a.futures s8.1).bind fun x9=>
  (ZI (Z3 (fun ka kb:Int=>(ka==kb)) r3.2.2.2.2.1 x9.maker 0) (Z3 (fun ka kb:Zi=>((ka.maker==kb.maker)&&((ka.user==kb.user)&&((ka.pos==kb.pos)&&true)))) r3.2.2.2.2.2 x9 0) s8.2).bind fun x10=>
  some (.inl ((w64 (s8.1+1)),(s8.2++[(Zm.mk (Z3 (fun ka kb:Int=>(ka==kb)) r3.2.2.2.2.1 x9.maker 0) (Z3 (fun ka kb:Zi=>((ka.maker==kb.maker)&&((ka.user==kb.user)&&((ka.pos==kb.pos)&&true)))) r3.2.2.2.2.2 x9 0))])))
 else
  some (.inr s8.2)
noncomputable def ZdF (r3:((List Int)×(List Zm)×(List Zh)×(List (Int×Int))×(List (Int×Int))×(List (Zi×Int)))) (s12:Int×(List Int)×(List Zm)×(List Zh)) (x13:Zs) (s15:Int×(List Zm)):Option ((Int×(List Zm))⊕(List Zm)):=
 bif (decide (s15.1<(x13.ins.length:Int))) then
  (ZE x13.ins s15.1).bind fun x16=>
  (ZI (Z3 (fun ka kb:Int=>(ka==kb)) r3.2.2.2.2.1 x16 0) (w64 ((List.length (s12.2.2.2++[(Zh.mk (-1) s12.1)]):Int)-1)) s15.2).bind fun x17=>
  some (.inl ((w64 (s15.1+1)),(s15.2++[(Zm.mk (Z3 (fun ka kb:Int=>(ka==kb)) r3.2.2.2.2.1 x16 0) (w64 ((List.length (s12.2.2.2++[(Zh.mk (-1) s12.1)]):Int)-1)))])))
 else
  some (.inr s15.2)
noncomputable def ZdG (r3:((List Int)×(List Zm)×(List Zh)×(List (Int×Int))×(List (Int×Int))×(List (Zi×Int)))) (s12:Int×(List Int)×(List Zm)×(List Zh)) (x13:Zs) (s19:Int×(List Zm)):Option ((Int×(List Zm))⊕(List Zm)):=
 bif (decide (s19.1<(x13.outs.length:Int))) then
  (ZE x13.outs s19.1).bind fun x20=>
  (ZI (w64 ((List.length (s12.2.2.2++[(Zh.mk (-1) s12.1)]):Int)-1)) (Z3 (fun ka kb:Int=>(ka==kb)) r3.2.2.2.1 x20 0) s19.2).bind fun x21=>
  some (.inl ((w64 (s19.1+1)),(s19.2++[(Zm.mk (w64 ((List.length (s12.2.2.2++[(Zh.mk (-1) s12.1)]):Int)-1)) (Z3 (fun ka kb:Int=>(ka==kb)) r3.2.2.2.1 x20 0))])))
 else
  some (.inr s19.2)
noncomputable def ZcY (a:Zj) (r3:((List Int)×(List Zm)×(List Zh)×(List (Int×Int))×(List (Int×Int))×(List (Zi×Int)))) (s12:Int×(List Int)×(List Zm)×(List Zh)):Option ((Int×(List Int)×(List Zm)×(List Zh))⊕((List Int)×(List Zm)×(List Zh))):=
 bif (decide (s12.1<(a.barriers.length:Int))) then
  (ZE a.barriers s12.1).bind fun x13=>
  (Zal (Zh.mk (-1) s12.1) 1 s12.2.1 s12.2.2.2).bind fun x14=>
  (lp (ZdF r3 s12 x13) (0,s12.2.2.1)).bind fun r18=>
  (lp (ZdG r3 s12 x13) (0,r18)).bind fun r22=>
  some (.inl ((w64 (s12.1+1)),(s12.2.1++[1]),r22,(s12.2.2.2++[(Zh.mk (-1) s12.1)])))
 else
  some (.inr (s12.2.1,s12.2.2.1,s12.2.2.2))
noncomputable def Zet (a:Zj):Option (ZlU×Int):=
 (ZeQ a).bind fun x0=>
 bif (x0 != 0) then
  some ((ZlU.mk (Zcp.mk ([]:List Int) ([]:List Zm)) ([]:List Zh)),x0)
 else
  (lp (Zcx a) (0,([]:(List Int)),([]:(List Zm)),([]:(List Zh)),([]:(List (Int×Int))),([]:(List (Int×Int))),([]:(List (Zi×Int))))).bind fun r3=>
  (lp (ZcV a r3) (0,r3.2.1)).bind fun r7=>
  (lp (ZcZ a r3) (0,r7)).bind fun r11=>
  (lp (ZcY a r3) (0,r3.1,r11,r3.2.2.1)).bind fun r23=>
  (Zg2 (Zcp.mk r23.1 r23.2.1)).bind fun x24=>
  bif (x24 != 0) then
   some ((ZlU.mk (Zcp.mk ([]:List Int) ([]:List Zm)) ([]:List Zh)),70)
  else
   some ((ZlU.mk (Zcp.mk r23.1 r23.2.1) r23.2.2),0)
noncomputable def ZbS (a:(List Bool)):Option Unit:=
 bif (Nat.blt 0 (List.length a)) then
  bif (Nat.ble (List.length a) lim) then
   some ()
  else
   none
 else
  none
noncomputable def Zgi (a:ZlU) (b:Int):Option Int:=
 (Zrs (List.map (fun x:Zh=>(x.part,x.step)) a.pieces) b).bind fun x0=>
 some x0
noncomputable def ZdI (d:ZB) (x5:(List Int)) (s6:Int×(List Int)):Option ((Int×(List Int))⊕(List Int)):=
 bif (decide (s6.1<(x5.length:Int))) then
  (ZE x5 s6.1).bind fun x7=>
  (ZE d.vals x7).bind fun x8=>
  bif (Nat.ble (List.length s6.2+1) lim) then
   some (.inl ((w64 (s6.1+1)),(s6.2++[x8])))
  else
   none
 else
  some (.inr s6.2)
noncomputable def Ze1 (a:Zj) (b:ZlU) (c:(List Int)) (d:ZB) (e:Int):Option ZB:=
 (ZbS d.done).bind fun x0=>
 (Zcg d.vals).bind fun x1=>
 (ZE d.done e).bind fun x2=>
 (ZE b.pieces e).bind fun x3=>
 bif (decide (x3.part<0)) then
  some (ZB.mk (List.set d.done e.toNat true) d.vals)
 else
  (Zgi b x3.part).bind fun x4=>
  bif (x4 != e) then
   some (ZB.mk (List.set d.done e.toNat true) d.vals)
  else
   (Zfv a x3.part).bind fun x5=>
   (lp (ZdI d x5) (0,([]:(List Int)))).bind fun r9=>
   (ZE a.parts x3.part).bind fun x10=>
   (Zi7 x10 c r9).bind fun x11=>
   (ZE d.vals x3.part).bind fun x12=>
   some (ZB.mk (List.set d.done e.toNat true) (List.set d.vals x3.part.toNat x11))
def ZeY:Option Bool:=some true
noncomputable def Zg4 (a:Zj) (b:(List Int)) (c:ZB):Option Bool:=
 (ZgX a).bind fun x0=>
 bif x0 then
  bif (decide ((b.length:Int)≤60)) then
   bif (decide ((c.done.length:Int)≤70)) then
    bif (decide ((c.vals.length:Int)≤70)) then
     some true
    else
     some false
   else
    some false
  else
   some false
 else
  some false
noncomputable def Zbx (a:ZB):Option Unit:=
 bif (Nat.ble (List.length a.done) lim) then
  bif (Nat.ble (List.length a.vals) lim) then
   some ()
  else
   none
 else
  none
noncomputable def Zc8 (a:Zm) (b0:(List Bool)):Option Bool:=
 (ZE b0 a.dst).bind fun x0=>
 bif x0 then
  (ZE b0 a.src).bind fun x1=>
  bif x1 then
   some false
  else
   some true
 else
  some false
noncomputable def Zac (a:(List Zm)) (b:(Zm→Option Bool)) (s0:Int):Option (Int⊕(Int⊕Unit)):=
 bif (decide (s0<(a.length:Int))) then
  (ZE a s0).bind fun x1=>
  (b x1).bind fun x2=>
  bif x2 then
   some (.inr (.inl s0))
  else
   some (.inl (w64 (s0+1)))
 else
  some (.inr (.inr ()))
noncomputable def ZaP (a:(List Zm)) (b:(Zm→Option Bool)):Option Int:=
 (lp (Zac a b) 0).bind fun r3=>
 match r3 with
 | (.inl r3)=>
  some r3
 | (.inr r3)=>
  some (-1)
noncomputable def Z1 (a:(List Zm)) (b:(Zm→Option Bool)):Option Bool:=
 (ZaP a b).bind fun x0=>
 bif (decide (0≤x0)) then
  some true
 else
  some false
noncomputable def ZeK (a:Zj) (b:Zcp) (c:ZB):Option Bool:=
 bif ((c.done.length:Int) != (b.work.length:Int)) then
  some false
 else
  bif ((c.vals.length:Int) != (a.parts.length:Int)) then
   some false
  else
   (Z1 b.edges (fun z0=>Zc8 z0 c.done)).bind fun x0=>
   bif x0 then
    some false
   else
    some true
noncomputable def ZeO (a:Zj) (b:ZB):Option Int:=
 (Zet a).bind fun x0=>
 bif (x0.2==0) then
  (ZeK a x0.1.dag b).bind fun x1=>
  bif x1 then
   some x0.2
  else
   some 80
 else
  some x0.2
noncomputable def Zc5 (a:Zm) (b0:Int) (c0:(List Bool)):Option Bool:=
 bif (a.dst==b0) then
  (ZE c0 a.src).bind fun x0=>
  bif x0 then
   some false
  else
   some true
 else
  some false
noncomputable def Zfr (a:Zcp) (b:ZB) (c:Int):Option Bool:=
 (Z1 a.edges (fun z0=>Zc5 z0 c b.done)).bind fun x0=>
 bif x0 then
  some true
 else
  some false
noncomputable def Zec (b:ZB) (x0:(ZlU×Int)) (s2:Int×(List Int)):Option ((Int×(List Int))⊕(List Int)):=
 bif (decide (s2.1<(b.done.length:Int))) then
  (ZE b.done s2.1).bind fun x3=>
  bif x3 then
   some (.inl ((w64 (s2.1+1)),s2.2))
  else
   (Zfr x0.1.dag b s2.1).bind fun x4=>
   bif x4 then
    some (.inl ((w64 (s2.1+1)),s2.2))
   else
    bif (Nat.ble (List.length s2.2+1) lim) then
     some (.inl ((w64 (s2.1+1)),(s2.2++[s2.1])))
    else
     none
 else
  some (.inr s2.2)
noncomputable def Zc2 (a:Zj) (b:ZB):Option (List Int):=
 (Zet a).bind fun x0=>
 bif (x0.2 != 0) then
  some ([]:List Int)
 else
  (ZeK a x0.1.dag b).bind fun x1=>
  bif x1 then
   (lp (Zec b x0) (0,([]:(List Int)))).bind fun r5=>
   some r5
  else
   some ([]:List Int)
noncomputable def ZfF (a:Zj) (b:(List Int)) (c:ZB) (d:Int):Option (ZB×Int):=
 (Zet a).bind fun x0=>
 bif (x0.2 != 0) then
  bif (x0.2 != 0) then
   some ((ZB.mk ([]:List Bool) ([]:List Int)),x0.2)
  else
   (Ze1 a x0.1 b c d).bind fun x1=>
   some (x1,0)
 else
  (ZeK a x0.1.dag c).bind fun x2=>
  bif x2 then
   bif (decide (d<0)) then
    some ((ZB.mk ([]:List Bool) ([]:List Int)),81)
   else
    bif (decide ((c.done.length:Int)≤d)) then
     some ((ZB.mk ([]:List Bool) ([]:List Int)),81)
    else
     (ZE c.done d).bind fun x3=>
     bif x3 then
      some ((ZB.mk ([]:List Bool) ([]:List Int)),82)
     else
      (Zfr x0.1.dag c d).bind fun x4=>
      bif x4 then
       some ((ZB.mk ([]:List Bool) ([]:List Int)),83)
      else
       bif (x0.2 != 0) then
        some ((ZB.mk ([]:List Bool) ([]:List Int)),x0.2)
       else
        (Ze1 a x0.1 b c d).bind fun x5=>
        some (x5,0)
  else
   some ((ZB.mk ([]:List Bool) ([]:List Int)),80)
noncomputable def Zbi (c:Int) (x8:(List Int)) (s12:Bool×Int):Option ((Bool×Int)⊕(Unit⊕Unit)):=
 bif s12.1 then
  bif (decide (s12.2<(x8.length:Int))) then
   some (.inl (true,(w64 (s12.2+1))))
  else
   some (.inr (.inl ()))
 else
  bif (decide (s12.2<(x8.length:Int))) then
   (ZE x8 s12.2).bind fun x13=>
   bif (x13==c) then
    some (.inl (true,(w64 (s12.2+1))))
   else
    some (.inl (false,(w64 (s12.2+1))))
  else
   some (.inr (.inr ()))
noncomputable def Zbj (b:ZB) (s15:Bool×Int):Option ((Bool×Int)⊕(Unit⊕Unit)):=
 bif s15.1 then
  bif (decide (s15.2<(b.done.length:Int))) then
   (ZE b.done s15.2).bind fun x16=>
   bif x16 then
    some (.inl (true,(w64 (s15.2+1))))
   else
    some (.inl (false,(w64 (s15.2+1))))
  else
   some (.inr (.inl ()))
 else
  bif (decide (s15.2<(b.done.length:Int))) then
   some (.inl (false,(w64 (s15.2+1))))
  else
   some (.inr (.inr ()))
noncomputable def Zfl (x8:(List Int)) (x20:(List Int)) (s21:Int) (s22:Bool×Int):Option ((Bool×Int)⊕(Unit⊕Unit)):=
 bif s22.1 then
  bif (decide (s22.2<(x20.length:Int))) then
   some (.inl (true,(w64 (s22.2+1))))
  else
   some (.inr (.inl ()))
 else
  bif (decide (s22.2<(x20.length:Int))) then
   (ZE x20 s22.2).bind fun x23=>
   (ZE x8 s21).bind fun x24=>
   bif (x23==x24) then
    some (.inl (true,(w64 (s22.2+1))))
   else
    some (.inl (false,(w64 (s22.2+1))))
  else
   some (.inr (.inr ()))
noncomputable def Zfm (c:Int) (x8:(List Int)) (x20:(List Int)) (s21:Int):Option (Int⊕(Unit⊕Unit)):=
 bif (decide (s21<(x8.length:Int))) then
  (lp (Zfl x8 x20 s21) (false,0)).bind fun r25=>
  match r25 with
  | (.inl r25)=>
   (ZE x8 s21).bind fun x26=>
   bif (x26 != c) then
    some (.inl (w64 (s21+1)))
   else
    some (.inr (.inl ()))
  | (.inr r25)=>
   (ZE x8 s21).bind fun x27=>
   bif (x27 != c) then
    some (.inr (.inl ()))
   else
    some (.inl (w64 (s21+1)))
 else
  some (.inr (.inr ()))
noncomputable def Za5 (x8:(List Int)) (x34:(List Int)) (s35:Int) (s36:Bool×Int):Option ((Bool×Int)⊕(Unit⊕Unit)):=
 bif s36.1 then
  bif (decide (s36.2<(x34.length:Int))) then
   some (.inl (true,(w64 (s36.2+1))))
  else
   some (.inr (.inl ()))
 else
  bif (decide (s36.2<(x34.length:Int))) then
   (ZE x34 s36.2).bind fun x37=>
   (ZE x8 s35).bind fun x38=>
   bif (x37==x38) then
    some (.inl (true,(w64 (s36.2+1))))
   else
    some (.inl (false,(w64 (s36.2+1))))
  else
   some (.inr (.inr ()))
noncomputable def Zb3 (c:Int) (x8:(List Int)) (x34:(List Int)) (s35:Int):Option (Int⊕(Unit⊕Unit)):=
 bif (decide (s35<(x8.length:Int))) then
  (lp (Za5 x8 x34 s35) (false,0)).bind fun r39=>
  match r39 with
  | (.inl r39)=>
   (ZE x8 s35).bind fun x40=>
   bif (x40 != c) then
    some (.inl (w64 (s35+1)))
   else
    some (.inr (.inl ()))
  | (.inr r39)=>
   (ZE x8 s35).bind fun x41=>
   bif (x41 != c) then
    some (.inr (.inl ()))
   else
    some (.inl (w64 (s35+1)))
 else
  some (.inr (.inr ()))
noncomputable def Za0 (b:ZB) (s46:Bool×Int):Option ((Bool×Int)⊕(Unit⊕Unit)):=
 bif s46.1 then
  bif (decide (s46.2<(b.done.length:Int))) then
   (ZE b.done s46.2).bind fun x47=>
   bif x47 then
    some (.inl (true,(w64 (s46.2+1))))
   else
    some (.inl (false,(w64 (s46.2+1))))
  else
   some (.inr (.inl ()))
 else
  bif (decide (s46.2<(b.done.length:Int))) then
   some (.inl (false,(w64 (s46.2+1))))
  else
   some (.inr (.inr ()))
noncomputable def ZcE (x8:(List Int)) (s52:Unit):Option (Unit⊕Unit):=
 bif (decide (0<(x8.length:Int))) then
  some (.inr ())
 else
  some (.inr ())
noncomputable def ZcF (x8:(List Int)) (s57:Unit):Option (Unit⊕Unit):=
 bif (decide (0<(x8.length:Int))) then
  some (.inr ())
 else
  some (.inr ())
noncomputable def Ze7 (a:Zj) (b:ZB) (c:Int):Option Bool:=
 ZeY.bind fun x0=>
 bif x0 then
  (Zg4 a ([]:List Int) b).bind fun x1=>
  bif x1 then
   (Zcw a).bind fun x2=>
   (Zbx b).bind fun x3=>
   (ZeO (Zj.mk a.period a.deadline a.parts a.edges a.futures x2) b).bind fun x4=>
   bif (x4 != 0) then
    ZeY.bind fun x5=>
    bif x5 then
     some true
    else
     some false
   else
    (Zcw a).bind fun x6=>
    (Zbx b).bind fun x7=>
    (Zc2 (Zj.mk a.period a.deadline a.parts a.edges a.futures x6) b).bind fun x8=>
    (Zcw a).bind fun x9=>
    (Zbx b).bind fun x10=>
    (ZfF (Zj.mk a.period a.deadline a.parts a.edges a.futures x9) ([]:List Int) b c).bind fun x11=>
    (lp (Zbi c x8) (false,0)).bind fun r14=>
    match r14 with
    | (.inl r14)=>
     (lp (Zbj b) (true,0)).bind fun r17=>
     match r17 with
     | (.inl r17)=>
      bif (x11.2==0) then
       bif ((x8.length:Int)==0) then
        (Zcw a).bind fun x18=>
        (Zbx x11.1).bind fun x19=>
        (Zc2 (Zj.mk a.period a.deadline a.parts a.edges a.futures x18) x11.1).bind fun x20=>
        (lp (Zfm c x8 x20) 0).bind fun r28=>
        match r28 with
        | (.inl r28)=>
         some false
        | (.inr r28)=>
         (Zcw a).bind fun x29=>
         (Zbx x11.1).bind fun x30=>
         (ZeO (Zj.mk a.period a.deadline a.parts a.edges a.futures x29) x11.1).bind fun x31=>
         bif (x31==0) then
          some true
         else
          some false
       else
        some false
      else
       some false
     | (.inr r17)=>
      bif (x11.2==0) then
       bif ((x8.length:Int)==0) then
        some false
       else
        (Zcw a).bind fun x32=>
        (Zbx x11.1).bind fun x33=>
        (Zc2 (Zj.mk a.period a.deadline a.parts a.edges a.futures x32) x11.1).bind fun x34=>
        (lp (Zb3 c x8 x34) 0).bind fun r42=>
        match r42 with
        | (.inl r42)=>
         some false
        | (.inr r42)=>
         (Zcw a).bind fun x43=>
         (Zbx x11.1).bind fun x44=>
         (ZeO (Zj.mk a.period a.deadline a.parts a.edges a.futures x43) x11.1).bind fun x45=>
         bif (x45==0) then
          some true
         else
          some false
      else
       some false
    | (.inr r14)=>
     (lp (Za0 b) (true,0)).bind fun r48=>
     match r48 with
     | (.inl r48)=>
      bif (x11.2==0) then
       some false
      else
       bif ((x8.length:Int)==0) then
        (Zcw a).bind fun x49=>
        (Zbx x11.1).bind fun x50=>
        (Zc2 (Zj.mk a.period a.deadline a.parts a.edges a.futures x49) x11.1).bind fun x51=>
        (lp (ZcE x8) ()).bind fun r53=>
        some true
       else
        some false
     | (.inr r48)=>
      bif (x11.2==0) then
       some false
      else
       bif ((x8.length:Int)==0) then
        some false
       else
        (Zcw a).bind fun x54=>
        (Zbx x11.1).bind fun x55=>
        (Zc2 (Zj.mk a.period a.deadline a.parts a.edges a.futures x54) x11.1).bind fun x56=>
        (lp (ZcF x8) ()).bind fun r58=>
        some true
  else
   ZeY.bind fun x59=>
   bif x59 then
    some true
   else
    some false
 else
  ZeY.bind fun x60=>
  bif x60 then
   some true
  else
   some false
end Go.Proofs.YtnmbdjkbaihicaaDoor
namespace Go.Proofs.YtnmbdjkbaihicaaDoorE
open Go
set_option linter.unusedVariables false
set_option linter.unusedSimpArgs false
theorem ZdL {i n:Nat} (h:i<n):decide ((i:Int)<(n:Int))=true:=decide_eq_true (by omega)
theorem Zex (n:Nat):decide ((n:Int)<(n:Int))=false:=decide_eq_false (by omega)
theorem Zax {γ:Type}{l:List γ}{i:Nat}{x:γ} (h:l[i]? = some x):ZE l (i:Int)=some x:=(Zv6 l i).trans h
theorem Zm8 {γ:Type}{l:List γ}{i:Int}{x:γ} (h0:0≤i) (h:l[i.toNat]? = some x):ZE l i=some x:=by
 have:=Zax h
 rwa [Int.toNat_of_nonneg h0] at this
theorem ZcX {n:Int} (h1 : -9223372036854775808≤n) (h2:n<9223372036854775808):w64 n=n:=ZzE h1 h2
theorem ZT {i n:Nat} (h:i<n) (hn:n<9223372036854775808):w64 ((i:Int)+1)=((i+1:Nat):Int):=by rw[ZcX (by omega) (by omega)];omega
theorem Zgr {n:Nat} (h:n≤1073741824):Nat.ble n lim=true:=Nat.ble_eq_true_of_le h
def ZmR {γ S R:Type} (f:Nat→γ→S→Option (S⊕R)) (fin:S→Option R):Nat→List γ→S→Option R
 | _,[],s=>fin s
 | i,x :: l,s=>(match f i x s with | some (.inl s')=>ZmR f fin (i+1) l s' | some (.inr r)=>some r | none=>none)
theorem Zqs {γ S St R:Type} (l:List γ) (step:St→Option (St⊕R)) (st:Nat→S→St) (f:Nat→γ→S→Option (S⊕R)) (fin:S→Option R)
  (h1:∀i x s,i<l.length→l[i]? = some x→step (st i s)=(match f i x s with | some (.inl s')=>some (.inl (st (i+1) s')) | some (.inr r)=>some (.inr r) | none=>none))
  (h2:∀s,step (st l.length s)=(fin s).map Sum.inr):∀s,lp step (st 0 s)=ZmR f fin 0 l s:=by
 have key:∀(k i:Nat) (s:S),i+k=l.length→lp step (st i s)=ZmR f fin i (l.drop i) s:=by
  intro k
  induction k with
  | zero=>
   intro i s hi
   have:i=l.length:=by omega
   subst this
   rw[List.drop_length,Za7,h2]
   unfold ZmR
   cases fin s<;>rfl
  | succ k ih=>
   intro i s hi
   have hi':i<l.length:=by omega
   rw[List.drop_eq_getElem_cons hi',Za7,h1 i l[i] s hi' (List.getElem?_eq_getElem hi')]
   conv=>rhs;unfold ZmR
   cases f i l[i] s with
   | none=>rfl
   | some t=>
    cases t with
    | inl s'=>exact ih (i+1) s' (by omega)
    | inr r=>rfl
 intro s
 have:=key l.length 0 s (by omega)
 rwa [List.drop_zero] at this
def ZhD {γ R:Type} (p:Nat→γ→Bool) (out:Nat→γ→R) (fin:R):Nat→List γ→R
 | _,[]=>fin
 | i,x :: l=>bif p i x then out i x else ZhD p out fin (i+1) l
theorem ZgM {γ R:Type} (l:List γ) (step:Int→Option (Int⊕R)) (p:Nat→γ→Bool) (out:Nat→γ→R) (fin:R)
  (h1:∀i x,i<l.length→l[i]? = some x→step (i:Int)=some (bif p i x then .inr (out i x) else .inl ((i+1:Nat):Int)))
  (h2:step (l.length:Int)=some (.inr fin)):lp step 0=some (ZhD p out fin 0 l):=by
 have key:=Zqs (S:=Unit) l step (fun i _=>(i:Int)) (fun i x _=>some (bif p i x then .inr (out i x) else .inl ())) (fun _=>some fin)
  (fun i x s hi hx=>by rw[h1 i x hi hx];cases p i x<;>rfl) (fun _=>h2) ()
 refine(key:lp step 0=_).trans ?_
 have:∀(l:List γ) (i:Nat),ZmR (S:=Unit) (fun i x _=>some (bif p i x then Sum.inr (out i x) else Sum.inl ())) (fun _=>some fin) i l ()=some (ZhD p out fin i l):=by
  intro l
  induction l with
  | nil=>intro i;rfl
  | cons x l ih=>
   intro i
   unfold ZmR ZhD
   cases p i x with
   | true=>rfl
   | false=>exact ih (i+1)
 exact this l 0
def ZgK {γ:Type} (p:Nat→γ→Bool):Nat→List γ→Bool
 | _,[]=>false
 | i,x :: l=>p i x || ZgK p (i+1) l
theorem Zj9 {γ:Type} (p:γ→Bool):∀(l:List γ) (i:Nat),ZgK (fun _=>p) i l=l.any p
 | [],_=>rfl
 | x :: l,i=>by rw[ZgK,List.any_cons,Zj9 p l]
theorem ZeN {γ R:Type} (p:Nat→γ→Bool) (c fin:R):∀(l:List γ) (i:Nat),ZhD p (fun _ _=>c) fin i l=bif ZgK p i l then c else fin
 | [],_=>rfl
 | x :: l,i=>by
  unfold ZhD ZgK
  rw[ZeN p c fin l (i+1)]
  cases p i x<;>rfl
theorem ZoF {γ R:Type} (p:γ→Bool) (fin:R):∀(l:List γ) (i:Nat),(∃j:Nat,ZhD (fun _=>p) (fun i _=>(Sum.inl (i:Int):Int⊕R)) (.inr fin) i l = .inl (j:Int)∧l.any p=true)∨(ZhD (fun _=>p) (fun i _=>(Sum.inl (i:Int):Int⊕R)) (.inr fin) i l = .inr fin∧l.any p=false)
 | [],_=>.inr ⟨rfl,rfl⟩
 | x :: l,i=>by
  unfold ZhD
  rw[List.any_cons]
  cases h:p x with
  | true=>exact .inl ⟨i,rfl,rfl⟩
  | false=>simpa using ZoF p fin l (i+1)
theorem Zkd {γ:Type} (p:Nat→γ→Bool):∀(l:List γ) (i:Nat),ZgK p i l=true↔∃j x,l[j]? = some x∧p (i+j) x=true
 | [],i=>by simp[ZgK]
 | x :: l,i=>by
  rw[ZgK,Bool.or_eq_true,Zkd p l (i+1)]
  constructor
  ·rintro (h | ⟨j,y,hj,hp⟩)
   ·exact⟨0,x,rfl,h⟩
   ·exact⟨j+1,y,by simpa using hj,by rw[show i+(j+1)=i+1+j by omega];exact hp⟩
  ·rintro ⟨j,y,hj,hp⟩
   cases j with
   | zero=>left;simp at hj;subst hj;exact hp
   | succ j=>right;exact⟨j,y,by simpa using hj,by rw[show i+1+j=i+(j+1) by omega];exact hp⟩
end Go.Proofs.YtnmbdjkbaihicaaDoorE
namespace Go.Proofs.YtnmbdjkbaihicaaDoor
open Go Go.Proofs.YtnmbdjkbaihicaaDoorE
set_option linter.unusedVariables false
set_option linter.unusedSimpArgs false
def Zda (n a b:Int):Bool:=decide (a≤n)&&decide (n≤b)
theorem Zkf (n a b:Int):Zbu n a b=some (Zda n a b):=by
 unfold Zbu Zda
 cases decide (a≤n)<;>cases decide (n≤b)<;>rfl
def ZfV (p:ZV):Bool:=!(Zda p.op 0 5&&(Zda p.arg 0 2147483647&&Zda p.work 1 100))
theorem Zzf (p:ZV):ZeI p=some (ZfV p):=by
 unfold ZeI ZfV
 simp only[Zkf,Option.bind_some]
 cases Zda p.op 0 5<;>cases Zda p.arg 0 2147483647<;>cases Zda p.work 1 100<;>rfl
theorem Zja {γ:Type} (l:List γ) (p:γ→Bool) (step:Int→Option (Int⊕(Int⊕Unit)))
  (h1:∀i x,i<l.length→l[i]? = some x→step (i:Int)=some (bif p x then .inr (.inl (i:Int)) else .inl ((i+1:Nat):Int)))
  (h2:step (l.length:Int)=some (.inr (.inr ()))) :
  (((lp step 0).bind fun(r:Int⊕Unit)=>match r with | .inl r=>some r | .inr _=>some (-1)).bind fun x=>bif decide (0≤x) then some true else some false)=some (l.any p):=by
 rw[ZgM l step (fun _=>p) (fun i _=>.inl (i:Int)) (.inr ()) h1 h2]
 rcases ZoF p () l 0 with⟨j,e1,e2⟩ | ⟨e1,e2⟩
 ·rw[e1,e2]
  show(bif decide ((0:Int)≤(j:Int)) then some true else some false)=some true
  rw[decide_eq_true (by omega)]
  rfl
 ·rw[e1,e2]
  rfl
theorem Zpb (l:List ZV) (f:ZV→Option Bool) (p:ZV→Bool) (hf:∀x∈l,f x=some (p x)) (hl:l.length<9223372036854775808):ZaX l f=some (l.any p):=by
 unfold ZaX Zb1
 refine Zja l p _ (fun i x hi hx=>?_) ?_
 ·simp only[ZaW,ZdL hi,Zax hx,Option.bind_some,hf x (List.mem_of_getElem? hx),ZT hi hl,cond_true]
  cases p x<;>rfl
 ·simp only[ZaW,Zex];rfl
def Zn9 (e x:Zm):Bool:=e.src==x.src&&(e.dst==x.dst&&true)
theorem Zqk (l:List Zm) (e:Zm) (hl:l.length<9223372036854775808):ZaV l e=some (l.any (Zn9 e)):=by
 unfold ZaV ZcC
 refine Zja l (Zn9 e) _ (fun i x hi hx=>?_) ?_
 ·simp only[Zbh,ZdL hi,Zax hx,Option.bind_some,ZT hi hl,cond_true,Zn9]
  cases (e.src==x.src&&(e.dst==x.dst&&true))<;>rfl
 ·simp only[Zbh,Zex];rfl
def again (f g:Zi):Bool:=g.user==f.user&&g.pos==f.pos
theorem ZmF (l:List Zi) (f:Zi→Option Bool) (p:Zi→Bool) (hf:∀x∈l,f x=some (p x)) (hl:l.length<9223372036854775808):ZaC l f=some (l.any p):=by
 unfold ZaC Zbk
 refine Zja l p _ (fun i x hi hx=>?_) ?_
 ·simp only[ZaB,ZdL hi,Zax hx,Option.bind_some,hf x (List.mem_of_getElem? hx),ZT hi hl,cond_true]
  cases p x<;>rfl
 ·simp only[ZaB,Zex];rfl
theorem ZxP (f g:Zi):Zdb g f.user f.pos=some (again f g):=by
 unfold Zdb again
 cases (g.user==f.user)<;>cases (g.pos==f.pos)<;>rfl
theorem Zxb (l:List Int) (n:Int) (hl:l.length<9223372036854775808):ZbB l n=some (l.any (fun x=>n==x)):=by
 unfold ZbB Zc4
 refine Zja l (fun x=>n==x) _ (fun i x hi hx=>?_) ?_
 ·simp only[ZbC,ZdL hi,Zax hx,Option.bind_some,ZT hi hl,cond_true]
  cases (n==x)<;>rfl
 ·simp only[ZbC,Zex];rfl
def Zph (b:Zs) (n:Int):Bool:=b.outs.any fun x=>n==x
theorem Zlk (l:List Int) (f:Int→Option Bool) (p:Int→Bool) (hf:∀x∈l,f x=some (p x)) (hl:l.length<9223372036854775808):Z7 l f=some (l.any p):=by
 unfold Z7 ZaY
 refine Zja l p _ (fun i x hi hx=>?_) ?_
 ·simp only[Zao,ZdL hi,Zax hx,Option.bind_some,hf x (List.mem_of_getElem? hx),ZT hi hl,cond_true]
  cases p x<;>rfl
 ·simp only[Zao,Zex];rfl
theorem ZBR (b:Zs) (h2:b.outs.length<9223372036854775808) (n:Int):Zdd n b.outs=some (Zph b n):=by
 unfold Zdd
 simp only[Zxb _ _ h2,Option.bind_some]
 unfold Zph
 cases (b.outs.any fun y=>n==y)<;>rfl
def two (n:Nat) (a b:Int):Bool:=(a != b)&&(Zda a 0 (n-1)&&Zda b 0 (n-1))
theorem ZyE (d:Zj) (hl:d.parts.length<9223372036854775808) (a b:Int):ZgD d a b=some (two d.parts.length a b):=by
 unfold ZgD two
 rw[ZcX (by omega) (by omega)]
 simp only[Zkf,Option.bind_some]
 cases (a != b)<;>cases Zda a 0 (d.parts.length-1)<;>cases Zda b 0 (d.parts.length-1)<;>rfl
def ZpS (n:Nat) (l:List Int) (i:Nat) (x:Int):Bool:=!(Zda x 0 (n-1)) || (match i with | 0=>false | j+1=>match l[j]? with | some y=>decide (x≤y) | none=>false)
def Zlg (n:Nat) (l:List Int):Bool:=!(ZgK (ZpS n l) 0 l) && !l.isEmpty
theorem ZxT (b:Bool) (l:List Int):((some (bif b then (Sum.inl ():Unit⊕Unit) else .inr ())).bind fun r=>match r with | .inl _=>some false | .inr _=>bif decide (0<(l.length:Int)) then some true else some false)=some (!b && !l.isEmpty):=by
 cases b with
 | true=>rfl
 | false=>
  cases l with
  | nil=>rfl
  | cons x l=>show(bif decide (0<((x :: l).length:Int)) then some true else some false)=some true;rw[decide_eq_true (by rw[List.length_cons];omega)];rfl
theorem ZyF (d:Zj) (hd:d.parts.length<9223372036854775808) (l:List Int) (hl:l.length<9223372036854775808):ZgE d l=some (Zlg d.parts.length l):=by
 have key:=ZgM l (Ze2 d l) (ZpS d.parts.length l) (fun _ _=>.inl ()) (.inr ()) (fun i x hi hx=>by
   simp only[Ze2,ZdL hi,Zax hx,Option.bind_some,ZT hi hl,cond_true,Zkf,ZpS]
   rw[ZcX (by omega) (by omega)]
   cases Zda x 0 (d.parts.length-1) with
   | false=>rfl
   | true=>
    cases i with
    | zero=>rfl
    | succ i=>
     rw[decide_eq_true (show(0:Int)<((i+1:Nat):Int) by omega),ZcX (by omega) (by omega),show(((i+1:Nat):Int)-1)=(i:Int) by omega]
     have hi2:l[i]? = some l[i]:=List.getElem?_eq_getElem (by omega)
     rw[Zax hi2]
     simp only[cond_true,Option.bind_some,Bool.not_true,Bool.false_or,hi2]
     cases decide (x≤l[i])<;>rfl) (by simp only[Ze2,Zex];rfl)
 unfold ZgE Zlg
 rw[key,ZeN]
 exact ZxT _ _
end Go.Proofs.YtnmbdjkbaihicaaDoor
namespace Go.Proofs.YtnmbdjkbaihicaaDoor
open Go Go.Proofs.YtnmbdjkbaihicaaDoorE
set_option linter.unusedVariables false
set_option linter.unusedSimpArgs false
def Zqy (n:Int):Int:=bif decide (n<0) then 10 else bif decide (1099511627775<n) then 11 else 0
theorem Zss (n:Int):ZgU n=some (Zqy n):=by
 unfold ZgU Zqy
 cases decide (n<0)<;>cases decide (1099511627775<n)<;>rfl
noncomputable def Zxz (x:Int):Int:=match Zcv x with | some n=>n | none=>0
theorem ZzJ (x:Int):ZcQ x=some (Zxz x):=by
 unfold ZcQ Zxz Zcv
 rfl
noncomputable def Zx7 (n:Int):Bool:=!(Zqy n != 0) && !(Zxz (IntKind.u64.wrap n) != 1)
theorem Zvy (n:Int):∃k,ZiQ n=some (k,Zx7 n):=by
 have tz:∃k,ZcP (IntKind.u64.wrap n)=some k:=⟨_,rfl⟩
 obtain⟨k,hk⟩:=tz
 unfold ZiQ Zx7
 simp only[Zss,ZzJ,Option.bind_some,hk]
 cases (Zqy n != 0)
 ·cases (Zxz (IntKind.u64.wrap n) != 1)
  ·exact⟨k,rfl⟩
  ·exact⟨0,rfl⟩
 ·exact⟨0,rfl⟩
end Go.Proofs.YtnmbdjkbaihicaaDoor
namespace Go.Proofs.YtnmbdjkbaihicaaDoor
open Go Go.Proofs.YtnmbdjkbaihicaaDoorE
set_option linter.unusedVariables false
set_option linter.unusedSimpArgs false
def ZyB (b:Zs):Prop:=b.ins.length<9223372036854775808∧b.outs.length<9223372036854775808
structure ZiE (d:Zj):Prop where
 p:d.parts.length<9223372036854775808
 e:d.edges.length<9223372036854775808
 f:d.futures.length<9223372036854775808
 b:d.barriers.length<9223372036854775808
 i:∀b∈d.barriers,ZyB b
theorem Zlz {γ:Type}{l:List γ}{i n:Nat} (h:l.length<n):(l.take i).length<n:=by rw[List.length_take];omega
def Zgh (d:Zj) (i:Nat) (e:Zm):Bool:=!(two d.parts.length e.src e.dst) || (d.edges.take i).any (Zn9 e)
theorem ZxW (d:Zj) (h:ZiE d):lp (Zdn d) 0=some (bif ZgK (Zgh d) 0 d.edges then .inl () else .inr ()):=by
 have key:=ZgM d.edges (Zdn d) (Zgh d) (fun _ _=>.inl ()) (.inr ()) (fun i x hi hx=>by
   simp only[Zdn,ZdL hi,Zax hx,Option.bind_some,ZT hi h.e,cond_true,ZyE d h.p,Zgh,Int.toNat_natCast,Zqk _ _ (Zlz h.e)]
   rw[decide_eq_true (show(0:Int)≤(i:Int) by omega),Nat.ble_eq_true_of_le (Nat.le_of_lt hi)]
   cases two d.parts.length x.src x.dst<;>cases (d.edges.take i).any (Zn9 x)<;>rfl) (by simp only[Zdn,Zex];rfl)
 rw[key,ZeN]
def Zf2 (ps:List ZV) (z:Int):Int:=match ps[z.toNat]? with | some p=>p.work | none=>0
def Zd8 (d:Zj) (i:Nat) (f:Zi):Bool:=!(two d.parts.length f.maker f.user) || (!(Zda f.pos 1 (Zf2 d.parts f.user-1)) || (d.futures.take i).any (again f))
theorem ZoQ {n:Nat}{a b:Int} (h:two n a b=true):(0≤a∧a.toNat<n)∧(0≤b∧b.toNat<n)∧a≠b:=by
 simp only[two,Zda,Bool.and_eq_true,decide_eq_true_eq,bne_iff_ne] at h
 omega
theorem Zue {γ:Type}{l:List γ}{z:Int} (h0:0≤z) (h:z.toNat<l.length):ZE l z=some l[z.toNat]:=Zm8 h0 (List.getElem?_eq_getElem h)
theorem ZuY (d:Zj) (h:ZiE d) (hg:∀p∈d.parts,1≤p.work∧p.work≤100):lp (Zdr d) 0=some (bif ZgK (Zd8 d) 0 d.futures then .inl () else .inr ()):=by
 have key:=ZgM d.futures (Zdr d) (Zd8 d) (fun _ _=>.inl ()) (.inr ()) (fun i x hi hx=>by
   simp only[Zdr,ZdL hi,Zax hx,Option.bind_some,ZT hi h.f,cond_true,ZyE d h.p,Zd8]
   cases h1:two d.parts.length x.maker x.user with
   | false=>rfl
   | true=>
    obtain⟨_,⟨u1,u2⟩,_⟩:=ZoQ h1
    have w:=hg _ (List.getElem_mem u2)
    have wa:Zf2 d.parts x.user=d.parts[x.user.toNat].work:=by simp only[Zf2,List.getElem?_eq_getElem u2]
    rw[← wa] at w
    rw[Zue u1 u2]
    simp only[cond_true,Option.bind_some,Zkf,← wa,ZcX (show -9223372036854775808≤Zf2 d.parts x.user-1 by omega) (by omega),Int.toNat_natCast]
    rw[decide_eq_true (show(0:Int)≤(i:Int) by omega),Nat.ble_eq_true_of_le (Nat.le_of_lt hi),ZmF _ _ (again x) (fun y _=>ZxP x y) (Zlz h.f)]
    cases Zda x.pos 1 (Zf2 d.parts x.user-1)<;>cases (d.futures.take i).any (again x)<;>rfl) (by simp only[Zdr,Zex];rfl)
 rw[key,ZeN]
def Zfg (n:Nat) (b:Zs):Bool:=!(Zlg n b.ins) || (!(Zlg n b.outs) || b.ins.any (Zph b))
theorem Zs5 (d:Zj) (h:ZiE d):lp (Zdp d) 0=some (bif d.barriers.any (Zfg d.parts.length) then .inl () else .inr ()):=by
 have key:=ZgM d.barriers (Zdp d) (fun _=>Zfg d.parts.length) (fun _ _=>.inl ()) (.inr ()) (fun i x hi hx=>by
   have hb:=h.i x (List.mem_of_getElem? hx)
   simp only[Zdp,ZdL hi,Zax hx,Option.bind_some,ZT hi h.b,cond_true,ZyF d h.p _ hb.1,ZyF d h.p _ hb.2,Zfg,Zlk x.ins _ (Zph x) (fun y _=>ZBR x hb.2 y) hb.1]
   cases Zlg d.parts.length x.ins<;>cases Zlg d.parts.length x.outs<;>cases x.ins.any (Zph x)<;>rfl) (by simp only[Zdp,Zex];rfl)
 rw[key,ZeN,Zj9]
noncomputable def Zpg (d:Zj):Bool:=Zx7 d.period&&(!decide (4096<d.period)&&Zda d.deadline 1 d.period)
def Zlu (d:Zj):Bool:=Zda (d.parts.length:Int) 1 16&&(!decide ((48:Int)<d.edges.length)&&(!decide ((16:Int)<d.futures.length) && !decide ((4:Int)<d.barriers.length)))
noncomputable def ZfD (d:Zj):Int:=
 bif Zlu d then bif Zpg d then bif d.parts.any ZfV then 52 else bif ZgK (Zgh d) 0 d.edges then 53 else
 bif ZgK (Zd8 d) 0 d.futures then 54 else bif d.barriers.any (Zfg d.parts.length) then 55 else 0 else 51 else 50
theorem Zpj {ps:List ZV} (h:ps.any ZfV=false):∀p∈ps,1≤p.work∧p.work≤100:=fun p hp=>by
 have:=List.any_eq_false.1 h p hp
 simp only[ZfV,Zda,Bool.not_eq_true,Bool.not_eq_false',Bool.and_eq_true,decide_eq_true_eq] at this
 exact this.2.2
theorem Zqw (d:Zj) (h:ZiE d):ZeQ d=some (ZfD d):=by
 obtain⟨k,hk⟩:=Zvy d.period
 unfold ZeQ ZfD Zlu Zpg
 simp only[Zkf,Option.bind_some,hk,Zpb _ _ ZfV (fun x _=>Zzf x) h.p,ZxW d h,Zs5 d h]
 cases Zda (d.parts.length:Int) 1 16 with
 | false=>rfl
 | true=>
  cases decide ((48:Int)<d.edges.length) with
  | true=>rfl
  | false=>
   cases decide ((16:Int)<d.futures.length) with
   | true=>rfl
   | false=>
    cases decide ((4:Int)<d.barriers.length) with
    | true=>rfl
    | false=>
     cases Zx7 d.period with
     | false=>rfl
     | true=>
      cases decide (4096<d.period) with
      | true=>rfl
      | false=>
       cases Zda d.deadline 1 d.period with
       | false=>rfl
       | true=>
        cases hp:d.parts.any ZfV with
        | true=>rfl
        | false=>
         rw[ZuY d h (Zpj hp)]
         cases ZgK (Zgh d) 0 d.edges<;>cases ZgK (Zd8 d) 0 d.futures<;>cases d.barriers.any (Zfg d.parts.length)<;>rfl
end Go.Proofs.YtnmbdjkbaihicaaDoor
namespace Go.Proofs.YtnmbdjkbaihicaaDoor
open Go Go.Proofs.YtnmbdjkbaihicaaDoorE
set_option linter.unusedVariables false
set_option linter.unusedSimpArgs false
def Zom (b:Zs):Bool:=decide (20<(b.ins.length:Int)) || decide (20<(b.outs.length:Int))
def few (d:Zj):Bool:=!((d.barriers.take 9).any Zom)&&(decide ((d.parts.length:Int)≤20)&&(decide ((d.edges.length:Int)≤60)&&(decide ((d.futures.length:Int)≤20)&&decide ((d.barriers.length:Int)≤8))))
theorem ZAl (d:Zj):ZgX d=some (few d):=by
 have hl:(d.barriers.take 9).length=min 9 d.barriers.length:=List.length_take
 have key:=ZgM (d.barriers.take 9) (Zey d) (fun _=>Zom) (fun _ _=>.inl ()) (.inr ()) (fun i x hi hx=>by
   have h9:i<9:=by omega
   rw[List.getElem?_take_of_lt h9] at hx
   simp only[Zey,ZdL (show i<d.barriers.length by omega),Zax hx,Option.bind_some,ZT h9 (by omega),cond_true,Zom,decide_eq_true (show(i:Int)<9 by omega)]
   cases decide (20<(x.ins.length:Int))<;>cases decide (20<(x.outs.length:Int))<;>rfl) (by
   rw[hl]
   unfold Zey
   by_cases h:d.barriers.length≤9
   ·rw[Nat.min_eq_right h,Zex];rfl
   ·rw[Nat.min_eq_left (by omega),decide_eq_true (show((9:Nat):Int)<d.barriers.length by omega)];rfl)
 unfold ZgX few
 rw[key,ZeN,Zj9]
 cases (d.barriers.take 9).any Zom<;>cases decide ((d.parts.length:Int)≤20)<;>cases decide ((d.edges.length:Int)≤60)<;>cases decide ((d.futures.length:Int)≤20)<;>cases decide ((d.barriers.length:Int)≤8)<;>rfl
structure ZiP (d:Zj):Prop where
 p:d.parts.length≤20
 e:d.edges.length≤60
 f:d.futures.length≤20
 b:d.barriers.length≤8
 i:∀b∈d.barriers,b.ins.length≤20∧b.outs.length≤20
theorem Zum {d:Zj} (h:few d=true):ZiP d:=by
 unfold few at h
 simp only[Bool.and_eq_true,decide_eq_true_eq,Bool.not_eq_true'] at h
 obtain⟨h1,h2,h3,h4,h5⟩:=h
 refine⟨by omega,by omega,by omega,by omega,fun b hb=>?_⟩
 have:=List.any_eq_false.1 h1 b (by rw[List.take_of_length_le (by omega)];exact hb)
 simp only[Zom,Bool.or_eq_true,decide_eq_true_eq,not_or] at this
 omega
theorem ZiP.short {d:Zj} (h:ZiP d):ZiE d:=
 ⟨by have:=h.p;omega,by have:=h.e;omega,by have:=h.f;omega,by have:=h.b;omega,fun b hb=>⟨by have:=(h.i b hb).1;omega,by have:=(h.i b hb).2;omega⟩⟩
theorem ZBZ (d:Zj) (h:ZiP d):Zcw d=some d.barriers:=by
 have key:=Zqs d.barriers (ZdQ d) (fun i (s:List Zs)=>((i:Int),s)) (fun i x s=>bif Nat.ble (s.length+1) lim then some (.inl (s++[x])) else none) (fun s=>some s) (fun i x s hi hx=>by
   have hb:=h.i x (List.mem_of_getElem? hx)
   simp only[ZdQ,ZdL hi,Zax hx,Option.bind_some,ZT hi h.short.b,cond_true,Zgr (show x.ins.length≤1073741824 by omega),Zgr (show x.outs.length≤1073741824 by omega)]
   cases Nat.ble (s.length+1) lim<;>rfl) (fun s=>by simp only[ZdQ,Zex];rfl) []
 have sc:∀(l:List Zs) (i:Nat) (s:List Zs),s.length+l.length≤1073741824→ZmR (fun i x s=>bif Nat.ble (s.length+1) lim then some (Sum.inl (s++[x])) else (none:Option (List Zs⊕List Zs))) (fun s=>some s) i l s=some (s++l):=by
  intro l
  induction l with
  | nil=>intro i s _;simp[ZmR]
  | cons x l ih=>
   intro i s hs
   rw[List.length_cons] at hs
   unfold ZmR
   rw[Zgr (by omega)]
   simp only[cond_true]
   rw[ih (i+1) (s++[x]) (by rw[List.length_append];simp;omega)]
   simp
 rw[sc _ _ _ (by have:=h.b;simp;omega)] at key
 unfold Zcw
 rw[Zgr (show List.length d.parts≤1073741824 by have:=h.p;omega),Zgr (show List.length d.edges≤1073741824 by have:=h.e;omega),Zgr (show List.length d.futures≤1073741824 by have:=h.f;omega)]
 show(lp (ZdQ d) (((0:Nat):Int),[])).bind _=_
 rw[key]
 rfl
end Go.Proofs.YtnmbdjkbaihicaaDoor
namespace Go.Proofs.YtnmbdjkbaihicaaDoor
open Go Go.Proofs.YtnmbdjkbaihicaaDoorE Go.Sort
set_option linter.unusedVariables false
set_option linter.unusedSimpArgs false
structure OKA (P:Int→Prop) (d:Array Int):Prop where
 el:∀i,i<d.size→P d[i]!
 sz:d.size≤1000
theorem ZbG {d:Array Int}{i:Nat} (h:i<d.size):ZE d.toList (i:Int)=some d[i]!:=by
 refine Zax ?_
 rw[Array.getElem?_toList,Array.getElem?_eq_getElem h,getElem!_pos d i h]
theorem Zy0 (d:Array Int) (i:Nat) (x:Int):List.set d.toList i x=(d.setIfInBounds i x).toList:=by simp
theorem Zg0 (d:Array Int) (i j:Nat):List.set (List.set d.toList i d[j]!) j d[i]! = (swp d i j).toList:=by
 unfold swp
 rw[Zy0,Zy0]
theorem Zke {d:Array Int}{i j:Nat}{x:Int} (h:j<d.size):∃y,ZE (List.set d.toList i x) (j:Int)=some y:=by
 rw[Zy0]
 exact⟨_,ZbG (by simpa using h)⟩
theorem Zae (d:Array Int) (i j:Nat):(swp d i j).size=d.size:=by unfold swp;simp
theorem Zyu {d:Array Int}{i j k:Nat} (hi:i<d.size) (hj:j<d.size):(swp d i j)[k]! = if k=j then d[i]! else if k=i then d[j]! else d[k]!:=by
 unfold swp
 by_cases hk:k<d.size
 ·rw[getElem!_pos _ k (by simpa using hk),getElem!_pos d k hk,Array.getElem_setIfInBounds (by simpa using hk)]
  by_cases h1:j=k
  ·rw[if_pos h1,if_pos h1.symm]
  ·rw[if_neg h1,if_neg (Ne.symm h1),Array.getElem_setIfInBounds hk]
   by_cases h2:i=k
   ·rw[if_pos h2,if_pos h2.symm]
   ·rw[if_neg h2,if_neg (Ne.symm h2)]
 ·rw[getElem!_neg _ k (by simpa using hk),getElem!_neg d k hk,if_neg (by omega),if_neg (by omega)]
theorem OKA.swp {P:Int→Prop}{d:Array Int} (h:OKA P d) {i j:Nat} (hi:i<d.size) (hj:j<d.size):OKA P (swp d i j):=
 ⟨fun k hk=>by
  rw[Zae] at hk
  rw[Zyu hi hj]
  split
  ·exact h.el _ hi
  ·split
   ·exact h.el _ hj
   ·exact h.el _ hk,by rw[Zae];exact h.sz⟩
theorem Zgc {a b:Nat}:decide ((a:Int)<(b:Int))=decide (a<b):=decide_eq_decide.2 (by omega)
theorem Zg7 {a b:Nat}:decide ((a:Int)≤(b:Int))=decide (a≤b):=decide_eq_decide.2 (by omega)
theorem Zau {z:Int}{n:Nat} (h:z=(n:Int)) (hn:n<9223372036854775808):w64 z=(n:Int):=by rw[h,ZcX (by omega) (by omega)]
section
variable (cmp:Int→Int→Option Int) (c:Int→Int→Int) (P:Int→Prop)
def Zrk:Prop:=∀x y,P x→P y→cmp x y=some (c x y)
def ltC (x y:Int):Bool:=decide (c x y<0)
variable {cmp c P} (hc:Zrk cmp c P)
include hc
theorem ZpQ (a:Nat):∀(j:Nat) (d:Array Int),OKA P d→j<d.size→lp (ZY (a:Int) cmp) ((j:Int),d.toList)=some (insInner (ltC c) a j d).toList∧OKA P (insInner (ltC c) a j d)∧(insInner (ltC c) a j d).size=d.size
 | 0,d,hd,hj=>by
  rw[Za7]
  simp only[ZY,decide_eq_false (show ¬((a:Int)<((0:Nat):Int)) by omega),cond_false]
  exact⟨rfl,hd,rfl⟩
 | j+1,d,hd,hj=>by
  have hj':j<d.size:=by omega
  have hz:=hd.sz
  rw[Za7]
  have e2:w64 (((j+1:Nat):Int)-1)=(j:Int):=Zau (by omega) (by omega)
  have e3:=hc _ _ (hd.el (j+1) hj) (hd.el j hj')
  unfold insInner
  by_cases h1:a<j+1
  ·by_cases h2:c d[j+1]! d[j]! < 0
   ·have ih:=ZpQ a j (swp d (j+1) j) (hd.swp hj hj') (by rw[Zae];omega)
    obtain⟨y,e5⟩:=Zke (i:=j+1) (x:=d[j]!) hj'
    simp only[ZY,Zgc,decide_eq_true h1,cond_true,ZbG hj,e2,ZbG hj',Option.bind_some,e3,decide_eq_true h2,Int.toNat_natCast,e5,Zg0]
    rw[if_pos (by simp[h1,h2,ltC])]
    rw[Zae] at ih
    exact ih
   ·simp only[ZY,Zgc,decide_eq_true h1,cond_true,ZbG hj,e2,ZbG hj',Option.bind_some,e3,decide_eq_false h2,cond_false]
    rw[if_neg (by simp[h1,h2,ltC])]
    exact⟨rfl,hd,rfl⟩
  ·simp only[ZY,Zgc,decide_eq_false h1,cond_false]
   rw[if_neg (by simp[h1])]
   exact⟨rfl,hd,rfl⟩
theorem Zqg (a b:Nat):∀(k i:Nat) (d:Array Int),i+k=max i b→b≤d.size→OKA P d→lp (Zam (a:Int) (b:Int) cmp) ((i:Int),d.toList)=some (insOuter (ltC c) a b i d).toList∧OKA P (insOuter (ltC c) a b i d)∧(insOuter (ltC c) a b i d).size=d.size
 | 0,i,d,hi,hb,hd=>by
  rw[Za7]
  unfold insOuter
  simp only[Zam,Zgc,decide_eq_false (show ¬i<b by omega),cond_false]
  rw[if_neg (by omega)]
  exact⟨rfl,hd,rfl⟩
 | k+1,i,d,hi,hb,hd=>by
  have hib:i<b:=by omega
  have hz:=hd.sz
  obtain⟨h1,h2,h3⟩:=ZpQ hc a i d hd (by omega)
  have ih:=Zqg a b k (i+1) (insInner (ltC c) a i d) (by omega) (by rw[h3];exact hb) h2
  rw[Za7]
  unfold insOuter
  simp only[Zam,Zgc,decide_eq_true hib,cond_true,h1,Option.bind_some,ZT hib (by omega)]
  rw[if_pos hib,← h3]
  exact ih
theorem ZyO (a b:Nat) (d:Array Int) (hb:b≤d.size) (ha:a≤b) (hd:OKA P d):ZW (a:Int) (b:Int) cmp d.toList=some (insertionSort (ltC c) d a b).toList∧OKA P (insertionSort (ltC c) d a b)∧(insertionSort (ltC c) d a b).size=d.size:=by
 have hz:=hd.sz
 obtain⟨h1,h2⟩:=Zqg hc a b (max (a+1) b-(a+1)) (a+1) d (by omega) hb hd
 unfold ZW insertionSort
 rw[Zau (n:=a+1) (by omega) (by omega),h1]
 exact⟨rfl,h2⟩
theorem ZxA (hi first:Nat):∀(k root:Nat) (d:Array Int),hi-root≤k→root≤hi→first+hi≤d.size→OKA P d→∃r,lp (ZK (hi:Int) (first:Int) cmp) ((root:Int),d.toList)=some r∧(r = .inl (siftDown (ltC c) hi first root d).toList∨r = .inr (siftDown (ltC c) hi first root d).toList)∧OKA P (siftDown (ltC c) hi first root d)∧(siftDown (ltC c) hi first root d).size=d.size:=by
 intro k
 induction k with
 | zero=>
  intro root d hk hr hs hd
  have hz:=hd.sz
  rw[Za7]
  unfold siftDown
  have e0:w64 (2*(root:Int))=((2*root:Nat):Int):=Zau (by omega) (by omega)
  have e1:w64 (((2*root:Nat):Int)+1)=((2*root+1:Nat):Int):=Zau (by omega) (by omega)
  simp only[ZK,e0,e1,Zg7,decide_eq_true (show hi≤2*root+1 by omega),cond_true]
  rw[dif_pos (by omega)]
  exact⟨_,rfl,.inl rfl,hd,rfl⟩
 | succ k ih=>
  intro root d hk hr hs hd
  have hz:=hd.sz
  rw[Za7]
  unfold siftDown
  have e0:w64 (2*(root:Int))=((2*root:Nat):Int):=Zau (by omega) (by omega)
  have e1:w64 (((2*root:Nat):Int)+1)=((2*root+1:Nat):Int):=Zau (by omega) (by omega)
  by_cases h1:hi≤2*root+1
  ·simp only[ZK,e0,e1,Zg7,decide_eq_true h1,cond_true]
   rw[dif_pos (by omega)]
   exact⟨_,rfl,.inl rfl,hd,rfl⟩
  have e2:w64 (((2*root+1:Nat):Int)+1)=((2*root+2:Nat):Int):=Zau (by omega) (by omega)
  have er:w64 ((first:Int)+(root:Int))=((first+root:Nat):Int):=Zau (by omega) (by omega)
  have ef:w64 ((first:Int)+((2*root+1:Nat):Int))=((first+(2*root+1):Nat):Int):=Zau (by omega) (by omega)
  have ef1:w64 (((first+(2*root+1):Nat):Int)+1)=((first+(2*root+1)+1:Nat):Int):=Zau (by omega) (by omega)
  have ef2:w64 ((first:Int)+((2*root+2:Nat):Int))=((first+(2*root+2):Nat):Int):=Zau (by omega) (by omega)
  have ir:first+root<d.size:=by omega
  have i1:first+(2*root+1)<d.size:=by omega
  have cr1:=hc _ _ (hd.el _ ir) (hd.el _ i1)
  have one:∀{r:List Int⊕List Int} {A:Array Int},A=d→(r = .inl d.toList∨r = .inr d.toList)→∃q,some r=some q∧(q = .inl A.toList∨q = .inr A.toList)∧OKA P A∧A.size=d.size:=fun hA hr=>by
   subst hA
   exact⟨_,rfl,hr,hd,rfl⟩
  rw[dif_neg (by omega)]
  by_cases h2:2*root+2<hi
  ·have i2:first+(2*root+2)<d.size:=by omega
   have i2':first+(2*root+1)+1<d.size:=by omega
   have c12:=hc _ _ (hd.el _ i1) (hd.el _ i2')
   have cr2:=hc _ _ (hd.el _ ir) (hd.el _ i2)
   by_cases h3:c d[first+(2*root+1)]! d[first+(2*root+1)+1]! < 0
   ·rw[if_pos (by simp[h3,ltC];omega)]
    by_cases h4:c d[first+root]! d[first+(2*root+2)]! < 0
    ·obtain⟨y,em⟩:=Zke (i:=first+root) (x:=d[first+(2*root+2)]!) i2
     simp only[ZK,e0,e1,e2,Zg7,Zgc,decide_eq_false h1,decide_eq_true h2,cond_false,cond_true,ef,ef1,ef2,er,ZbG i1,ZbG i2',ZbG ir,ZbG i2,Option.bind_some,c12,cr2,decide_eq_true h3,decide_eq_true h4,Int.toNat_natCast,em,Zg0]
     rw[if_neg (by simp[h4,ltC]),dif_pos h2]
     have:=ih (2*root+2) (swp d (first+root) (first+(2*root+2))) (by omega) (by omega) (by rw[Zae];omega) (hd.swp ir i2)
     rw[Zae] at this
     exact this
    ·simp only[ZK,e0,e1,e2,Zg7,Zgc,decide_eq_false h1,decide_eq_true h2,cond_false,cond_true,ef,ef1,ef2,er,ZbG i1,ZbG i2',ZbG ir,ZbG i2,Option.bind_some,c12,cr2,decide_eq_true h3,decide_eq_false h4]
     rw[if_pos (by simp[h4,ltC])]
     exact one rfl (.inr rfl)
   ·rw[if_neg (by simp[h3,ltC])]
    by_cases h4:c d[first+root]! d[first+(2*root+1)]! < 0
    ·obtain⟨y,em⟩:=Zke (i:=first+root) (x:=d[first+(2*root+1)]!) i1
     simp only[ZK,e0,e1,e2,Zg7,Zgc,decide_eq_false h1,decide_eq_true h2,cond_false,cond_true,ef,ef1,ef2,er,ZbG i1,ZbG i2',ZbG ir,Option.bind_some,c12,cr1,decide_eq_false h3,decide_eq_true h4,Int.toNat_natCast,em,Zg0]
     rw[if_neg (by simp[h4,ltC])]
     have:=ih (2*root+1) (swp d (first+root) (first+(2*root+1))) (by omega) (by omega) (by rw[Zae];omega) (hd.swp ir i1)
     rw[Zae] at this
     exact this
    ·simp only[ZK,e0,e1,e2,Zg7,Zgc,decide_eq_false h1,decide_eq_true h2,cond_false,cond_true,ef,ef1,ef2,er,ZbG i1,ZbG i2',ZbG ir,Option.bind_some,c12,cr1,decide_eq_false h3,decide_eq_false h4]
     rw[if_pos (by simp[h4,ltC])]
     exact one rfl (.inr rfl)
  ·rw[if_neg (by simp;omega)]
   by_cases h4:c d[first+root]! d[first+(2*root+1)]! < 0
   ·obtain⟨y,em⟩:=Zke (i:=first+root) (x:=d[first+(2*root+1)]!) i1
    simp only[ZK,e0,e1,e2,Zg7,Zgc,decide_eq_false h1,decide_eq_false h2,cond_false,cond_true,ef,er,ZbG i1,ZbG ir,Option.bind_some,cr1,decide_eq_true h4,Int.toNat_natCast,em,Zg0]
    rw[if_neg (by simp[h4,ltC])]
    have:=ih (2*root+1) (swp d (first+root) (first+(2*root+1))) (by omega) (by omega) (by rw[Zae];omega) (hd.swp ir i1)
    rw[Zae] at this
    exact this
   ·simp only[ZK,e0,e1,e2,Zg7,Zgc,decide_eq_false h1,decide_eq_false h2,cond_false,cond_true,ef,er,ZbG i1,ZbG ir,Option.bind_some,cr1,decide_eq_false h4]
    rw[if_pos (by simp[h4,ltC])]
    exact one rfl (.inr rfl)
theorem Zxv (hi first root:Nat) (d:Array Int) (hr:root≤hi) (hs:first+hi≤d.size) (hd:OKA P d):ZaD (root:Int) (hi:Int) (first:Int) cmp d.toList=some (siftDown (ltC c) hi first root d).toList∧OKA P (siftDown (ltC c) hi first root d)∧(siftDown (ltC c) hi first root d).size=d.size:=by
 obtain⟨r,h1,h2,h3⟩:=ZxA hc hi first _ root d (Nat.le_refl _) hr hs hd
 unfold ZaD
 rw[h1]
 rcases h2 with rfl | rfl
 ·exact⟨rfl,h3⟩
 ·exact⟨rfl,h3⟩
theorem ZtO (hi first b:Nat) (hb:(b:Int)=first+hi):∀(k:Nat) (d:Array Int),k≤hi+1→first+hi≤d.size→OKA P d→lp (ZaJ (first:Int) (b:Int) cmp) ((k:Int)-1,d.toList)=some (heapBuild (ltC c) hi first k d).toList∧OKA P (heapBuild (ltC c) hi first k d)∧(heapBuild (ltC c) hi first k d).size=d.size
 | 0,d,hk,hs,hd=>by
  rw[Za7]
  simp only[ZaJ,decide_eq_false (show ¬((0:Int)≤((0:Nat):Int)-1) by omega),cond_false]
  exact⟨rfl,hd,rfl⟩
 | k+1,d,hk,hs,hd=>by
  have hz:=hd.sz
  obtain⟨h1,h2,h3⟩:=Zxv hc hi first k d (by omega) hs hd
  have ih:=ZtO hi first b hb k (siftDown (ltC c) hi first k d) (by omega) (by rw[h3];exact hs) h2
  have e1:w64 ((b:Int)-(first:Int))=(hi:Int):=Zau (by omega) (by omega)
  have e2:(((k+1:Nat):Int)-1)=(k:Int):=by omega
  have e3:w64 ((k:Int)-1)=(k:Int)-1:=ZcX (by omega) (by omega)
  rw[Za7,e2]
  simp only[ZaJ,decide_eq_true (show(0:Int)≤(k:Int) by omega),cond_true,e1,h1,Option.bind_some,e3]
  rw[← h3]
  exact ih
theorem ZyM (first:Nat):∀(k:Nat) (d:Array Int),first+k≤d.size→OKA P d→lp (ZaK (first:Int) cmp) ((k:Int)-1,d.toList)=some (heapPop (ltC c) first k d).toList∧OKA P (heapPop (ltC c) first k d)∧(heapPop (ltC c) first k d).size=d.size
 | 0,d,hs,hd=>by
  rw[Za7]
  simp only[ZaK,decide_eq_false (show ¬((0:Int)≤((0:Nat):Int)-1) by omega),cond_false]
  exact⟨rfl,hd,rfl⟩
 | k+1,d,hs,hd=>by
  have hz:=hd.sz
  have i1:first+k<d.size:=by omega
  have i2:first<d.size:=by omega
  obtain⟨h1,h2,h3⟩:=Zxv hc k first 0 (swp d first (first+k)) (by omega) (by rw[Zae];omega) (hd.swp i2 i1)
  rw[Zae] at h3
  have ih:=ZyM first k (siftDown (ltC c) k first 0 (swp d first (first+k))) (by rw[h3];omega) h2
  have e2:(((k+1:Nat):Int)-1)=(k:Int):=by omega
  have e3:w64 ((k:Int)-1)=(k:Int)-1:=ZcX (by omega) (by omega)
  have e4:w64 ((first:Int)+(k:Int))=((first+k:Nat):Int):=Zau (by omega) (by omega)
  obtain⟨y,em⟩:=Zke (i:=first) (x:=d[first+k]!) i1
  have h1':ZaD 0 (k:Int) (first:Int) cmp (swp d first (first+k)).toList=_:=h1
  rw[Za7,e2]
  simp only[ZaK,decide_eq_true (show(0:Int)≤(k:Int) by omega),cond_true,e4,ZbG i1,ZbG i2,Option.bind_some,Int.toNat_natCast,em,Zg0,h1',e3]
  rw[← h3]
  exact ih
theorem Zzs (a b:Nat) (d:Array Int) (ha:a≤b) (hb:b≤d.size) (hd:OKA P d):Z8 (a:Int) (b:Int) cmp d.toList=some (heapSort (ltC c) d a b).toList∧OKA P (heapSort (ltC c) d a b)∧(heapSort (ltC c) d a b).size=d.size:=by
 have hz:=hd.sz
 have e1:w64 ((b:Int)-(a:Int))=((b-a:Nat):Int):=Zau (by omega) (by omega)
 have e2:w64 (((b-a:Nat):Int)-1)=((b-a:Nat):Int)-1:=ZcX (by omega) (by omega)
 have e3:w64 (Int.tdiv (((b-a:Nat):Int)-1) 2)=(((b-a-1) / 2+1:Nat):Int)-1:=by
  by_cases h:b-a=0
  ·rw[h];rfl
  ·rw[Int.tdiv_eq_ediv_of_nonneg (by omega),ZcX (by omega) (by omega)]
   omega
 obtain⟨h1,h2,h3⟩:=ZtO hc (b-a) a b (by omega) ((b-a-1) / 2+1) d (by omega) (by omega) hd
 obtain⟨h4,h5,h6⟩:=ZyM hc a (b-a) (heapBuild (ltC c) (b-a) a ((b-a-1) / 2+1) d) (by rw[h3];omega) h2
 unfold Z8 heapSort
 simp only[e1,e2,e3,h1,h4,Option.bind_some]
 exact⟨trivial,h5,by rw[h6,h3]⟩
end
end Go.Proofs.YtnmbdjkbaihicaaDoor
namespace Go.Proofs.YtnmbdjkbaihicaaDoor
open Go Go.Proofs.YtnmbdjkbaihicaaDoorE Go.Sort
set_option linter.unusedVariables false
set_option linter.unusedSimpArgs false
theorem ZmZ (step:Int→Option (Int⊕Int)) (p:Int→Bool) (d:Array Int) (j:Nat) (h:∀i:Nat,i≤j+2→step (i:Int)=some (bif decide (i≤j)&&p d[i]! then .inl ((i+1:Nat):Int) else .inr (i:Int))) :
  ∀(k i:Nat),j+2-i≤k→i≤j+2→lp step (i:Int)=some ((scanUp p d j i:Nat):Int)∧i≤scanUp p d j i∧scanUp p d j i≤max i (j+1):=by
 intro k
 induction k with
 | zero=>
  intro i hk hi
  rw[Za7,h i hi]
  unfold scanUp
  rw[decide_eq_false (show ¬i≤j by omega)]
  simp[show ¬i≤j by omega]
  omega
 | succ k ih=>
  intro i hk hi
  rw[Za7,h i hi]
  unfold scanUp
  by_cases h1:i≤j
  ·cases h2:p d[i]! with
   | true=>
    rw[decide_eq_true h1,if_pos (by simp[h1])]
    obtain⟨a1,a2,a3⟩:=ih (i+1) (by omega) (by omega)
    exact⟨a1,by omega,by omega⟩
   | false=>
    rw[decide_eq_true h1,if_neg (by simp)]
    exact⟨rfl,by omega,by omega⟩
  ·rw[decide_eq_false h1,if_neg (by simp[h1])]
   exact⟨rfl,by omega,by omega⟩
theorem Ziq (step:Int→Option (Int⊕Int)) (p:Int→Bool) (d:Array Int) (i:Nat) (hi:1≤i):∀(j:Nat),(∀k:Nat,k≤j→step (k:Int)=some (bif decide (i≤k)&&p d[k]! then .inl ((k:Int)-1) else .inr (k:Int)))→lp step (j:Int)=some ((scanDown p d i j:Nat):Int)∧scanDown p d i j≤j
 | 0,h=>by
  rw[Za7,h 0 (Nat.le_refl _),decide_eq_false (show ¬i≤0 by omega)]
  exact⟨rfl,Nat.le_refl _⟩
 | j+1,h=>by
  rw[Za7,h (j+1) (Nat.le_refl _)]
  unfold scanDown
  by_cases h1:i≤j+1
  ·cases h2:p d[j+1]! with
   | true=>
    rw[decide_eq_true h1,if_pos (by simp[h1])]
    have ih:=Ziq step p d i hi j (fun k hk=>h k (by omega))
    have e:(((j+1:Nat):Int)-1)=(j:Int):=by omega
    simp only[Bool.and_self,cond_true,e]
    exact⟨ih.1,by omega⟩
   | false=>
    rw[decide_eq_true h1,if_neg (by simp)]
    exact⟨rfl,Nat.le_refl _⟩
  ·rw[decide_eq_false h1,if_neg (by simp[h1])]
   exact⟨rfl,Nat.le_refl _⟩
section
variable {cmp:Int→Int→Option Int} {c:Int→Int→Int} {P:Int→Prop} (hc:Zrk cmp c P)
include hc
theorem Zu6 (a:Nat):∀(k i j:Nat) (d:Array Int),j+3-i≤k→1≤i→i≤j+2→j<d.size→a<d.size→OKA P d →
  lp (Za4 (a:Int) cmp) ((i:Int),(j:Int),d.toList)=some (((partLoop (ltC c) a i j d).1:Int),(partLoop (ltC c) a i j d).2.toList)∧OKA P (partLoop (ltC c) a i j d).2∧(partLoop (ltC c) a i j d).2.size=d.size∧(partLoop (ltC c) a i j d).1≤j:=by
 intro k
 induction k with
 | zero=>
  intro i j d hk h1 h2 hj ha hd
  exact absurd hk (by omega)
 | succ k ih=>
  intro i j d hk h1 h2 hj ha hd
  have hz:=hd.sz
  obtain⟨u1,u2,u3⟩:=ZmZ (ZaA (a:Int) cmp ((i:Int),(j:Int),d.toList)) (fun x=>ltC c x d[a]!) d j (fun m hm=>by
    by_cases hmj:m≤j
    ·have im:m<d.size:=by omega
     simp only[ZaA,Zg7,decide_eq_true hmj,cond_true,ZbG im,ZbG ha,Option.bind_some,hc _ _ (hd.el _ im) (hd.el _ ha),ltC,Bool.true_and,ZT (show m<j+1 by omega) (by omega)]
     cases decide (c d[m]! d[a]! < 0)<;>rfl
    ·simp only[ZaA,Zg7,decide_eq_false hmj,cond_false,Bool.false_and]) (j+2-i) i (Nat.le_refl _) h2
  generalize hi2:scanUp (fun x=>ltC c x d[a]!) d j i=i2 at u1 u2 u3
  obtain⟨v1,v2⟩:=Ziq (Zav (a:Int) cmp ((i:Int),(j:Int),d.toList) (i2:Int)) (fun x=>!ltC c x d[a]!) d i2 (by omega) j (fun m hm=>by
    have im:m<d.size:=by omega
    by_cases hmi:i2≤m
    ·simp only[Zav,Zg7,decide_eq_true hmi,cond_true,ZbG im,ZbG ha,Option.bind_some,hc _ _ (hd.el _ im) (hd.el _ ha),ltC,Bool.true_and,ZcX (show -9223372036854775808≤(m:Int)-1 by omega) (by omega)]
     cases decide (c d[m]! d[a]! < 0)<;>rfl
    ·simp only[Zav,Zg7,decide_eq_false hmi,cond_false,Bool.false_and])
  generalize hj2:scanDown (fun x=>!ltC c x d[a]!) d i2 j=j2 at v1 v2
  rw[Za7]
  unfold partLoop
  simp only[Za4,u1,v1,Option.bind_some,Zgc,hi2,hj2]
  by_cases hij:j2<i2
  ·rw[decide_eq_true hij,if_pos hij]
   exact⟨rfl,hd,rfl,v2⟩
  ·have k1:i2<d.size:=by omega
   have k2:j2<d.size:=by omega
   obtain⟨y,em⟩:=Zke (i:=i2) (x:=d[j2]!) k2
   have e1:w64 ((i2:Int)+1)=((i2+1:Nat):Int):=Zau (by omega) (by omega)
   have e2:w64 ((j2:Int)-1)=((j2-1:Nat):Int):=Zau (by omega) (by omega)
   rw[decide_eq_false hij,if_neg hij,dif_pos (by omega)]
   simp only[cond_false,ZbG k1,ZbG k2,Option.bind_some,Int.toNat_natCast,em,Zg0,e1,e2]
   obtain⟨q1,q2,q3,q4⟩:=ih (i2+1) (j2-1) (swp d i2 j2) (by omega) (by omega) (by omega) (by rw[Zae];omega) (by rw[Zae];exact ha) (hd.swp k1 k2)
   rw[Zae] at q3
   exact⟨q1,q2,q3,by omega⟩
theorem Zyd (a b pivot:Nat) (d:Array Int) (h1:a≤pivot) (h2:pivot<b) (hb:b≤d.size) (hd:OKA P d) :
  Zr (a:Int) (b:Int) (pivot:Int) cmp d.toList=some (bif (partition (ltC c) d a b pivot).2.1 then .inl (((partition (ltC c) d a b pivot).1:Int),(partition (ltC c) d a b pivot).2.2.toList) else .inr (((partition (ltC c) d a b pivot).1:Int),(partition (ltC c) d a b pivot).2.2.toList)) ∧
  OKA P (partition (ltC c) d a b pivot).2.2∧(partition (ltC c) d a b pivot).2.2.size=d.size:=by
 have hz:=hd.sz
 have ip:pivot<d.size:=by omega
 have ia:a<d.size:=by omega
 have hd1:=hd.swp ia ip
 have s1:=Zae d a pivot
 obtain⟨y,em⟩:=Zke (i:=a) (x:=d[pivot]!) ip
 have e1:w64 ((a:Int)+1)=((a+1:Nat):Int):=Zau (by omega) (by omega)
 have e2:w64 ((b:Int)-1)=((b-1:Nat):Int):=Zau (by omega) (by omega)
 have sw:=Zg0 d a pivot
 have ia1:a<(swp d a pivot).size:=by omega
 obtain⟨u1,u2,u3⟩:=ZmZ (Zaz (a:Int) (b:Int) (pivot:Int) d.toList cmp d[pivot]! d[a]!) (fun x=>ltC c x (swp d a pivot)[a]!) (swp d a pivot) (b-1) (fun m hm=>by
   by_cases hmj:m≤b-1
   ·have im:m<(swp d a pivot).size:=by omega
    simp only[Zaz,e2,Zg7,decide_eq_true hmj,cond_true,Int.toNat_natCast,sw,ZbG im,ZbG ia1,Option.bind_some,hc _ _ (hd1.el _ im) (hd1.el _ ia1),ltC,Bool.true_and,ZT (show m<b by omega) (by omega)]
    cases decide (c (swp d a pivot)[m]! (swp d a pivot)[a]! < 0)<;>rfl
   ·simp only[Zaz,e2,Zg7,decide_eq_false hmj,cond_false,Bool.false_and]) (b-1+2-(a+1)) (a+1) (Nat.le_refl _) (by omega)
 generalize hi2:scanUp (fun x=>ltC c x (swp d a pivot)[a]!) (swp d a pivot) (b-1) (a+1)=i2 at u1 u2 u3
 obtain⟨v1,v2⟩:=Ziq (Zay (a:Int) (pivot:Int) d.toList cmp d[pivot]! d[a]! (i2:Int)) (fun x=>!ltC c x (swp d a pivot)[a]!) (swp d a pivot) i2 (by omega) (b-1) (fun m hm=>by
   have im:m<(swp d a pivot).size:=by omega
   by_cases hmi:i2≤m
   ·simp only[Zay,Zg7,decide_eq_true hmi,cond_true,Int.toNat_natCast,sw,ZbG im,ZbG ia1,Option.bind_some,hc _ _ (hd1.el _ im) (hd1.el _ ia1),ltC,Bool.true_and,ZcX (show -9223372036854775808≤(m:Int)-1 by omega) (by omega)]
    cases decide (c (swp d a pivot)[m]! (swp d a pivot)[a]! < 0)<;>rfl
   ·simp only[Zay,Zg7,decide_eq_false hmi,cond_false,Bool.false_and])
 generalize hj2:scanDown (fun x=>!ltC c x (swp d a pivot)[a]!) (swp d a pivot) i2 (b-1)=j2 at v1 v2
 unfold Zr partition
 simp only[ZbG ip,ZbG ia,Option.bind_some,Int.toNat_natCast,em,e1,e2,u1,v1,Zgc,sw,hi2,hj2]
 have kj:j2<(swp d a pivot).size:=by omega
 by_cases hij:j2<i2
 ·obtain⟨y2,em2⟩:=Zke (i:=j2) (x:=(swp d a pivot)[a]!) ia1
  rw[decide_eq_true hij,if_pos hij]
  simp only[cond_true,ZbG ia1,ZbG kj,Option.bind_some,Int.toNat_natCast,em2,Zg0]
  exact⟨trivial,hd1.swp kj ia1,by rw[Zae,s1]⟩
 ·have ki:i2<(swp d a pivot).size:=by omega
  obtain⟨y2,em2⟩:=Zke (i:=i2) (x:=(swp d a pivot)[j2]!) kj
  have e3:w64 ((i2:Int)+1)=((i2+1:Nat):Int):=Zau (by omega) (by omega)
  have e4:w64 ((j2:Int)-1)=((j2-1:Nat):Int):=Zau (by omega) (by omega)
  obtain⟨q1,q2,q3,q4⟩:=Zu6 hc a (j2-1+3-(i2+1)) (i2+1) (j2-1) (swp (swp d a pivot) i2 j2) (by omega) (by omega) (by omega) (by rw[Zae];omega) (by rw[Zae];exact ia1) (hd1.swp ki kj)
  rw[Zae,s1] at q3
  rw[decide_eq_false hij,if_neg hij]
  simp only[cond_false,ZbG ki,ZbG kj,Option.bind_some,Int.toNat_natCast,em2,Zg0,e3,e4,q1]
  generalize partLoop (ltC c) a (i2+1) (j2-1) (swp (swp d a pivot) i2 j2)=r at *
  have kr:r.1<r.2.size:=by omega
  have kr2:a<r.2.size:=by omega
  obtain⟨y3,em3⟩:=Zke (i:=r.1) (x:=r.2[a]!) kr2
  simp only[ZbG kr,ZbG kr2,Option.bind_some,em3,Zg0]
  exact⟨trivial,q2.swp kr kr2,by rw[Zae,q3]⟩
theorem Zsj (a:Nat):∀(k i j:Nat) (d:Array Int),j+3-i≤k→1≤i→i≤j+2→j<d.size→a<d.size→OKA P d →
  lp (Zaw (a:Int) cmp) ((i:Int),(j:Int),d.toList)=some (((partEqLoop (ltC c) a i j d).1:Int),(partEqLoop (ltC c) a i j d).2.toList)∧OKA P (partEqLoop (ltC c) a i j d).2∧(partEqLoop (ltC c) a i j d).2.size=d.size∧i≤(partEqLoop (ltC c) a i j d).1∧(partEqLoop (ltC c) a i j d).1≤max i (j+1):=by
 intro k
 induction k with
 | zero=>
  intro i j d hk h1 h2 hj ha hd
  exact absurd hk (by omega)
 | succ k ih=>
  intro i j d hk h1 h2 hj ha hd
  have hz:=hd.sz
  obtain⟨u1,u2,u3⟩:=ZmZ (Zaf (a:Int) cmp ((i:Int),(j:Int),d.toList)) (fun x=>!ltC c d[a]! x) d j (fun m hm=>by
    by_cases hmj:m≤j
    ·have im:m<d.size:=by omega
     simp only[Zaf,Zg7,decide_eq_true hmj,cond_true,ZbG im,ZbG ha,Option.bind_some,hc _ _ (hd.el _ ha) (hd.el _ im),ltC,Bool.true_and,ZT (show m<j+1 by omega) (by omega)]
     cases decide (c d[a]! d[m]! < 0)<;>rfl
    ·simp only[Zaf,Zg7,decide_eq_false hmj,cond_false,Bool.false_and]) (j+2-i) i (Nat.le_refl _) h2
  generalize hi2:scanUp (fun x=>!ltC c d[a]! x) d j i=i2 at u1 u2 u3
  obtain⟨v1,v2⟩:=Ziq (Zag (a:Int) cmp ((i:Int),(j:Int),d.toList) (i2:Int)) (fun x=>ltC c d[a]! x) d i2 (by omega) j (fun m hm=>by
    have im:m<d.size:=by omega
    by_cases hmi:i2≤m
    ·simp only[Zag,Zg7,decide_eq_true hmi,cond_true,ZbG im,ZbG ha,Option.bind_some,hc _ _ (hd.el _ ha) (hd.el _ im),ltC,Bool.true_and,ZcX (show -9223372036854775808≤(m:Int)-1 by omega) (by omega)]
     cases decide (c d[a]! d[m]! < 0)<;>rfl
    ·simp only[Zag,Zg7,decide_eq_false hmi,cond_false,Bool.false_and])
  generalize hj2:scanDown (fun x=>ltC c d[a]! x) d i2 j=j2 at v1 v2
  rw[Za7]
  unfold partEqLoop
  simp only[Zaw,u1,v1,Option.bind_some,Zgc,hi2,hj2]
  by_cases hij:j2<i2
  ·rw[decide_eq_true hij,if_pos hij]
   exact⟨rfl,hd,rfl,u2,u3⟩
  ·have k1:i2<d.size:=by omega
   have k2:j2<d.size:=by omega
   obtain⟨y,em⟩:=Zke (i:=i2) (x:=d[j2]!) k2
   have e1:w64 ((i2:Int)+1)=((i2+1:Nat):Int):=Zau (by omega) (by omega)
   have e2:w64 ((j2:Int)-1)=((j2-1:Nat):Int):=Zau (by omega) (by omega)
   rw[decide_eq_false hij,if_neg hij,dif_pos (by omega)]
   simp only[cond_false,ZbG k1,ZbG k2,Option.bind_some,Int.toNat_natCast,em,Zg0,e1,e2]
   obtain⟨q1,q2,q3,q4,q5⟩:=ih (i2+1) (j2-1) (swp d i2 j2) (by omega) (by omega) (by omega) (by rw[Zae];omega) (by rw[Zae];exact ha) (hd.swp k1 k2)
   rw[Zae] at q3
   exact⟨q1,q2,q3,by omega,by omega⟩
theorem Zxa (a b pivot:Nat) (d:Array Int) (h1:a≤pivot) (h2:pivot<b) (hb:b≤d.size) (hd:OKA P d) :
  ZC (a:Int) (b:Int) (pivot:Int) cmp d.toList=some (((partitionEqual (ltC c) d a b pivot).1:Int),(partitionEqual (ltC c) d a b pivot).2.toList)∧OKA P (partitionEqual (ltC c) d a b pivot).2∧(partitionEqual (ltC c) d a b pivot).2.size=d.size∧a<(partitionEqual (ltC c) d a b pivot).1∧(partitionEqual (ltC c) d a b pivot).1≤b:=by
 have hz:=hd.sz
 have ip:pivot<d.size:=by omega
 have ia:a<d.size:=by omega
 obtain⟨y,em⟩:=Zke (i:=a) (x:=d[pivot]!) ip
 have e1:w64 ((a:Int)+1)=((a+1:Nat):Int):=Zau (by omega) (by omega)
 have e2:w64 ((b:Int)-1)=((b-1:Nat):Int):=Zau (by omega) (by omega)
 obtain⟨q1,q2,q3,q4,q5⟩:=Zsj hc a (b-1+3-(a+1)) (a+1) (b-1) (swp d a pivot) (by omega) (by omega) (by omega) (by rw[Zae];omega) (by rw[Zae];omega) (hd.swp ia ip)
 rw[Zae] at q3
 unfold ZC partitionEqual
 simp only[ZbG ip,ZbG ia,Option.bind_some,Int.toNat_natCast,em,e1,e2,Zg0,q1]
 exact⟨trivial,q2,q3,by omega,by omega⟩
end
end Go.Proofs.YtnmbdjkbaihicaaDoor
namespace Go.Proofs.YtnmbdjkbaihicaaDoor
open Go Go.Proofs.YtnmbdjkbaihicaaDoorE Go.Sort
set_option linter.unusedVariables false
set_option linter.unusedSimpArgs false
def Zpe:Hint→Int
 | .unknown=>0
 | .increasing=>1
 | .decreasing=>2
theorem Zw5 (p:Int×Int) (n:Nat) (x:Int) (h:p.2=(n:Int)) (hx:p.1=x):(bif p.2==0 then some (p.1,(1:Int)) else bif p.2==12 then some (p.1,2) else some (p.1,0))=some (x,Zpe (if n=0 then Hint.increasing else if n=12 then .decreasing else .unknown)):=by
 rw[h,hx]
 by_cases h0:n=0
 ·subst h0;rfl
 ·by_cases h1:n=12
  ·subst h1;rfl
  ·rw[show((n:Int)==0)=false by simpa using h0,show((n:Int)==12)=false by simp;omega,if_neg h0,if_neg h1]
   rfl
section
variable {cmp:Int→Int→Option Int} {c:Int→Int→Int} {P:Int→Prop} (hc:Zrk cmp c P)
include hc
theorem ZyK:∀(j:Nat) (d:Array Int),OKA P d→j<d.size→lp (ZS cmp) ((j:Int),d.toList)=some (shiftDown (ltC c) j d).toList∧OKA P (shiftDown (ltC c) j d)∧(shiftDown (ltC c) j d).size=d.size
 | 0,d,hd,hj=>by
  rw[Za7]
  simp only[ZS,decide_eq_false (show ¬((1:Int)≤((0:Nat):Int)) by omega),cond_false]
  exact⟨rfl,hd,rfl⟩
 | j+1,d,hd,hj=>by
  have hj':j<d.size:=by omega
  have hz:=hd.sz
  rw[Za7]
  have e2:w64 (((j+1:Nat):Int)-1)=(j:Int):=Zau (by omega) (by omega)
  have e3:=hc _ _ (hd.el (j+1) hj) (hd.el j hj')
  unfold shiftDown
  by_cases h2:c d[j+1]! d[j]! < 0
  ·obtain⟨y,e5⟩:=Zke (i:=j+1) (x:=d[j]!) hj'
   simp only[ZS,decide_eq_true (show(1:Int)≤((j+1:Nat):Int) by omega),cond_true,ZbG hj,e2,ZbG hj',Option.bind_some,e3,decide_eq_true h2,Int.toNat_natCast,e5,Zg0]
   rw[if_neg (by simp[h2,ltC])]
   have ih:=ZyK j (swp d (j+1) j) (hd.swp hj hj') (by rw[Zae];omega)
   rw[Zae] at ih
   exact ih
  ·simp only[ZS,decide_eq_true (show(1:Int)≤((j+1:Nat):Int) by omega),cond_true,ZbG hj,e2,ZbG hj',Option.bind_some,e3,decide_eq_false h2,cond_false]
   rw[if_pos (by simp[h2,ltC])]
   exact⟨rfl,hd,rfl⟩
theorem ZyL (b:Nat):∀(k j:Nat) (d:Array Int),b-j≤k→1≤j→b≤d.size→OKA P d→lp (ZH (b:Int) cmp) ((j:Int),d.toList)=some (shiftUp (ltC c) b j d).toList∧OKA P (shiftUp (ltC c) b j d)∧(shiftUp (ltC c) b j d).size=d.size:=by
 intro k
 induction k with
 | zero=>
  intro j d hk hj hb hd
  rw[Za7]
  unfold shiftUp
  simp only[ZH,Zgc,decide_eq_false (show ¬j<b by omega),cond_false]
  rw[if_neg (by omega)]
  exact⟨rfl,hd,rfl⟩
 | succ k ih=>
  intro j d hk hj hb hd
  have hz:=hd.sz
  rw[Za7]
  unfold shiftUp
  by_cases h1:j<b
  ·have i1:j<d.size:=by omega
   have i2:j-1<d.size:=by omega
   have e2:w64 ((j:Int)-1)=((j-1:Nat):Int):=Zau (by omega) (by omega)
   have e3:=hc _ _ (hd.el j i1) (hd.el (j-1) i2)
   rw[if_pos h1]
   by_cases h2:c d[j]! d[j-1]! < 0
   ·obtain⟨y,e5⟩:=Zke (i:=j) (x:=d[j-1]!) i2
    simp only[ZH,Zgc,decide_eq_true h1,cond_true,ZbG i1,e2,ZbG i2,Option.bind_some,e3,decide_eq_true h2,Int.toNat_natCast,e5,Zg0,ZT h1 (by omega)]
    rw[if_neg (by simp[h2,ltC])]
    have:=ih (j+1) (swp d j (j-1)) (by omega) (by omega) (by rw[Zae];exact hb) (hd.swp i1 i2)
    rw[Zae] at this
    exact this
   ·simp only[ZH,Zgc,decide_eq_true h1,cond_true,ZbG i1,e2,ZbG i2,Option.bind_some,e3,decide_eq_false h2,cond_false]
    rw[if_pos (by simp[h2,ltC])]
    exact⟨rfl,hd,rfl⟩
  ·simp only[ZH,Zgc,decide_eq_false h1,cond_false]
   rw[if_neg h1]
   exact⟨rfl,hd,rfl⟩
theorem Zvk (b:Nat) (z:Int) (d:Array Int) (hb:b≤d.size) (hd:OKA P d) (y1 y2:Int):∀(k i:Nat),b-i≤k→1≤i→i≤b→lp (ZL (b:Int) cmp (y1,y2,d.toList)) (i:Int)=some ((scanSorted (ltC c) d b i:Nat):Int)∧i≤scanSorted (ltC c) d b i∧scanSorted (ltC c) d b i≤b:=by
 have hz:=hd.sz
 intro k
 induction k with
 | zero=>
  intro i hk hi hib
  rw[Za7]
  unfold scanSorted
  simp only[ZL,Zgc,decide_eq_false (show ¬i<b by omega),cond_false]
  rw[if_neg (by simp[show ¬i<b by omega])]
  exact⟨rfl,Nat.le_refl _,hib⟩
 | succ k ih=>
  intro i hk hi hib
  rw[Za7]
  unfold scanSorted
  by_cases h1:i<b
  ·have i1:i<d.size:=by omega
   have i2:i-1<d.size:=by omega
   have e2:w64 ((i:Int)-1)=((i-1:Nat):Int):=Zau (by omega) (by omega)
   have e3:=hc _ _ (hd.el i i1) (hd.el (i-1) i2)
   by_cases h2:c d[i]! d[i-1]! < 0
   ·simp only[ZL,Zgc,decide_eq_true h1,cond_true,ZbG i1,e2,ZbG i2,Option.bind_some,e3,decide_eq_true h2]
    rw[if_neg (by simp[h2,ltC])]
    exact⟨rfl,Nat.le_refl _,hib⟩
   ·simp only[ZL,Zgc,decide_eq_true h1,cond_true,ZbG i1,e2,ZbG i2,Option.bind_some,e3,decide_eq_false h2,cond_false,ZT h1 (by omega)]
    rw[if_pos (by simp[h1,h2,ltC])]
    obtain⟨a1,a2,a3⟩:=ih (i+1) (by omega) (by omega) (by omega)
    exact⟨a1,by omega,a3⟩
  ·simp only[ZL,Zgc,decide_eq_false h1,cond_false]
   rw[if_neg (by simp[h1])]
   exact⟨rfl,Nat.le_refl _,hib⟩
theorem ZwT (a b:Nat):∀(s i:Nat) (d:Array Int),s≤5→a<i→i≤b→b≤d.size→OKA P d →
  ∃r,lp (ZR (a:Int) (b:Int) cmp) ((i:Int),((5-s:Nat):Int),d.toList)=some r∧(match r with | .inl l=>l=(partialIns (ltC c) a b s i d).1.toList∧(partialIns (ltC c) a b s i d).2=true | .inr (.inl l)=>l=(partialIns (ltC c) a b s i d).1.toList∧(partialIns (ltC c) a b s i d).2=false | .inr (.inr l)=>l=(partialIns (ltC c) a b s i d).1.toList∧(partialIns (ltC c) a b s i d).2=false) ∧
   OKA P (partialIns (ltC c) a b s i d).1∧(partialIns (ltC c) a b s i d).1.size=d.size
 | 0,i,d,hs,ha,hi,hb,hd=>by
  rw[Za7]
  simp only[ZR,decide_eq_false (show ¬(((5-0:Nat):Int)<5) by omega),cond_false]
  exact⟨_,rfl,by simp[partialIns],by first | exact hd | (simpa [partialIns] using hd),by first | rfl | simp[partialIns]⟩
 | s+1,i,d,hs,ha,hi,hb,hd=>by
  have hz:=hd.sz
  obtain⟨u1,u2,u3⟩:=Zvk hc b 0 d hb hd (i:Int) ((5-(s+1):Nat):Int) (b-i) i (Nat.le_refl _) (by omega) hi
  rw[Za7]
  unfold partialIns
  generalize hi2:scanSorted (ltC c) d b i=i2 at u1 u2 u3 ⊢
  simp only[ZR,decide_eq_true (show(((5-(s+1):Nat):Int)<5) by omega),cond_true,u1,Option.bind_some]
  by_cases h1:i2=b
  ·rw[show((i2:Int)==(b:Int))=true by simp[h1],if_pos h1]
   exact⟨_,rfl,by simp[partialIns],by first | exact hd | (simpa [partialIns] using hd),by first | rfl | simp[partialIns]⟩
  ·have e1:w64 ((b:Int)-(a:Int))=((b-a:Nat):Int):=Zau (by omega) (by omega)
   rw[show((i2:Int)==(b:Int))=false by simpa using (show ¬(i2:Int)=(b:Int) by omega),if_neg h1]
   by_cases h2:b-a<50
   ·rw[if_pos h2]
    simp only[cond_false,e1,decide_eq_true (show((b-a:Nat):Int)<50 by omega),cond_true]
    exact⟨_,rfl,by simp[partialIns],by first | exact hd | (simpa [partialIns] using hd),by first | rfl | simp[partialIns]⟩
   ·rw[if_neg h2]
    have i1:i2<d.size:=by omega
    have i3:i2-1<d.size:=by omega
    have e2:w64 ((i2:Int)-1)=((i2-1:Nat):Int):=Zau (by omega) (by omega)
    have e3:w64 ((i2:Int)-(a:Int))=((i2-a:Nat):Int):=Zau (by omega) (by omega)
    have e4:w64 ((b:Int)-(i2:Int))=((b-i2:Nat):Int):=Zau (by omega) (by omega)
    have e5:w64 ((i2:Int)+1)=((i2+1:Nat):Int):=Zau (by omega) (by omega)
    have e6:w64 (((5-(s+1):Nat):Int)+1)=((5-s:Nat):Int):=Zau (by omega) (by omega)
    obtain⟨y,em⟩:=Zke (i:=i2) (x:=d[i2-1]!) i3
    have hd2:=hd.swp i1 i3
    simp only[cond_false,e1,decide_eq_false (show ¬((b-a:Nat):Int)<50 by omega),e2,ZbG i1,ZbG i3,Option.bind_some,Int.toNat_natCast,em,Zg0,e3,e4,e5,e6]
    have n2:∀n:Nat,decide ((2:Int)≤(n:Int))=decide (n ≥ 2):=fun n=>decide_eq_decide.2 (by omega)
    rw[n2,n2]
    have go:∀d':Array Int,OKA P d'→d'.size=d.size→∃r,lp (ZR (a:Int) (b:Int) cmp) ((i2:Int),((5-s:Nat):Int),d'.toList)=some r∧(match r with | .inl l=>l=(partialIns (ltC c) a b s i2 d').1.toList∧(partialIns (ltC c) a b s i2 d').2=true | .inr (.inl l)=>l=(partialIns (ltC c) a b s i2 d').1.toList∧(partialIns (ltC c) a b s i2 d').2=false | .inr (.inr l)=>l=(partialIns (ltC c) a b s i2 d').1.toList∧(partialIns (ltC c) a b s i2 d').2=false) ∧
      OKA P (partialIns (ltC c) a b s i2 d').1∧(partialIns (ltC c) a b s i2 d').1.size=d.size:=fun d' h h'=>by
     have:=ZwT a b s i2 d' (by omega) (by omega) u3 (by omega) h
     rw[h'] at this
     exact this
    by_cases h3:i2-a ≥ 2
    ·obtain⟨v1,v2,v3⟩:=ZyK hc (i2-1) (swp d i2 (i2-1)) hd2 (by rw[Zae];exact i3)
     rw[Zae] at v3
     rw[decide_eq_true h3,if_pos h3]
     simp only[cond_true,v1,Option.bind_some]
     by_cases h4:b-i2 ≥ 2
     ·obtain⟨w1,w2,w3⟩:=ZyL hc b (b-(i2+1)) (i2+1) (shiftDown (ltC c) (i2-1) (swp d i2 (i2-1))) (Nat.le_refl _) (by omega) (by omega) v2
      rw[decide_eq_true h4,if_pos h4]
      simp only[cond_true,w1,Option.bind_some]
      exact go _ w2 (by omega)
     ·rw[decide_eq_false h4,if_neg h4]
      exact go _ v2 v3
    ·rw[decide_eq_false h3,if_neg h3]
     simp only[cond_false]
     by_cases h4:b-i2 ≥ 2
     ·obtain⟨w1,w2,w3⟩:=ZyL hc b (b-(i2+1)) (i2+1) (swp d i2 (i2-1)) (Nat.le_refl _) (by omega) (by rw[Zae];omega) hd2
      rw[Zae] at w3
      rw[decide_eq_true h4,if_pos h4]
      simp only[cond_true,w1,Option.bind_some]
      exact go _ w2 w3
     ·rw[decide_eq_false h4,if_neg h4]
      exact go _ hd2 (Zae _ _ _)
theorem ZyT (a b:Nat) (d:Array Int) (h1:a<b) (hb:b≤d.size) (hd:OKA P d) :
  ZP (a:Int) (b:Int) cmp d.toList=some (bif (partialInsertionSort (ltC c) d a b).2 then .inl (partialInsertionSort (ltC c) d a b).1.toList else .inr (partialInsertionSort (ltC c) d a b).1.toList)∧OKA P (partialInsertionSort (ltC c) d a b).1∧(partialInsertionSort (ltC c) d a b).1.size=d.size:=by
 have hz:=hd.sz
 obtain⟨r,e,h2,h3⟩:=ZwT hc a b 5 (a+1) d (Nat.le_refl _) (by omega) (by omega) hb hd
 unfold ZP partialInsertionSort
 have e0:((5-5:Nat):Int)=0:=rfl
 rw[e0] at e
 rw[Zau (n:=a+1) (by omega) (by omega),e]
 refine⟨?_,h3⟩
 rcases r with l | l | l
 ·obtain⟨rfl,h⟩:=h2;rw[h];rfl
 ·obtain⟨rfl,h⟩:=h2;rw[h];rfl
 ·obtain⟨rfl,h⟩:=h2;rw[h];rfl
theorem ZwH (d:Array Int) (hd:OKA P d) (a b n:Nat) (ha:a<d.size) (hb:b<d.size) (hn:n<1000):ZaS (a:Int) (b:Int) cmp d.toList (n:Int)=some (((order2 (ltC c) d a b n).1:Int),((order2 (ltC c) d a b n).2.1:Int),((order2 (ltC c) d a b n).2.2:Int)) ∧
  (order2 (ltC c) d a b n).1<d.size∧(order2 (ltC c) d a b n).2.1<d.size∧(order2 (ltC c) d a b n).2.2≤n+1:=by
 unfold ZaS order2
 simp only[ZbG ha,ZbG hb,Option.bind_some,hc _ _ (hd.el b hb) (hd.el a ha)]
 by_cases h:c d[b]! d[a]! < 0
 ·rw[if_pos (by simp[h,ltC]),decide_eq_true h,Zau (n:=n+1) (by omega) (by omega)]
  exact⟨rfl,hb,ha,Nat.le_refl _⟩
 ·rw[if_neg (by simp[h,ltC]),decide_eq_false h]
  exact⟨rfl,ha,hb,Nat.le_succ _⟩
theorem Zvw (d:Array Int) (hd:OKA P d) (i j k n:Nat) (hi:i<d.size) (hj:j<d.size) (hk:k<d.size) (hn:n<990):ZaR (i:Int) (j:Int) (k:Int) cmp d.toList (n:Int)=some (((median (ltC c) d i j k n).1:Int),((median (ltC c) d i j k n).2:Int))∧(median (ltC c) d i j k n).1<d.size∧(median (ltC c) d i j k n).2≤n+3:=by
 obtain⟨a1,a2,a3,a4⟩:=ZwH hc d hd i j n hi hj (by omega)
 obtain⟨b1,b2,b3,b4⟩:=ZwH hc d hd (order2 (ltC c) d i j n).2.1 k (order2 (ltC c) d i j n).2.2 a3 hk (by omega)
 obtain⟨c1,c2,c3,c4⟩:=ZwH hc d hd (order2 (ltC c) d i j n).1 (order2 (ltC c) d (order2 (ltC c) d i j n).2.1 k (order2 (ltC c) d i j n).2.2).1 (order2 (ltC c) d (order2 (ltC c) d i j n).2.1 k (order2 (ltC c) d i j n).2.2).2.2 a2 b2 (by omega)
 unfold ZaR median
 simp only[a1,b1,c1,Option.bind_some]
 exact⟨trivial,c3,by omega⟩
theorem Zvm (d:Array Int) (hd:OKA P d) (i n:Nat) (h1:1≤i) (hi:i+1<d.size) (hn:n<990):Z9 (i:Int) cmp d.toList (n:Int)=some (((medianAdjacent (ltC c) d i n).1:Int),((medianAdjacent (ltC c) d i n).2:Int))∧(medianAdjacent (ltC c) d i n).1<d.size∧(medianAdjacent (ltC c) d i n).2≤n+3:=by
 have hz:=hd.sz
 obtain⟨a1,a2⟩:=Zvw hc d hd (i-1) i (i+1) n (by omega) (by omega) hi hn
 unfold Z9 medianAdjacent
 rw[Zau (n:=i-1) (by omega) (by omega),Zau (n:=i+1) (by omega) (by omega),a1]
 exact⟨rfl,a2⟩
theorem ZyS (a b:Nat) (d:Array Int) (hab:a<b) (hb:b≤d.size) (hd:OKA P d):ZO (a:Int) (b:Int) cmp d.toList=some (((choosePivot (ltC c) d a b).1:Int),Zpe (choosePivot (ltC c) d a b).2):=by
 have hz:=hd.sz
 have e1:w64 ((b:Int)-(a:Int))=((b-a:Nat):Int):=Zau (by omega) (by omega)
 have e2:w64 (Int.tdiv ((b-a:Nat):Int) 4)=(((b-a) / 4:Nat):Int):=by
  rw[Int.tdiv_eq_ediv_of_nonneg (by omega)]
  exact Zau (by omega) (by omega)
 have q:∀m:Nat,m≤3→w64 ((((b-a) / 4:Nat):Int)*(m:Int))=(((b-a) / 4*m:Nat):Int):=fun m hm=>by
  refine Zau (by rw[Int.natCast_mul]) ?_
  have:(b-a) / 4*m≤(b-a) / 4*3:=Nat.mul_le_mul_left _ hm
  omega
 have q1:=q 1 (by omega)
 have q2:=q 2 (by omega)
 have q3:=q 3 (by omega)
 have p:∀m:Nat,m≤3→w64 ((a:Int)+(((b-a) / 4*m:Nat):Int))=((a+(b-a) / 4*m:Nat):Int):=fun m hm=>by
  refine Zau (by omega) ?_
  have:(b-a) / 4*m≤(b-a) / 4*3:=Nat.mul_le_mul_left _ hm
  omega
 have p1:=p 1 (by omega)
 have p2:=p 2 (by omega)
 have p3:=p 3 (by omega)
 unfold ZO choosePivot
 have q1':w64 ((((b-a) / 4:Nat):Int)*1)=_:=q1
 have q2':w64 ((((b-a) / 4:Nat):Int)*2)=_:=q2
 have q3':w64 ((((b-a) / 4:Nat):Int)*3)=_:=q3
 simp only[e1,e2,q1',q2',q3',p1,p2,p3]
 have z:((0:Nat):Int)=0:=rfl
 by_cases h8:b-a ≥ 8
 ·rw[decide_eq_true (show(8:Int)≤((b-a:Nat):Int) by omega),if_pos h8]
  by_cases h50:b-a ≥ 50
  ·obtain⟨m1,m2,m3⟩:=Zvm hc d hd (a+(b-a) / 4*1) 0 (by omega) (by omega) (by omega)
   obtain⟨n1,n2,n3⟩:=Zvm hc d hd (a+(b-a) / 4*2) (medianAdjacent (ltC c) d (a+(b-a) / 4*1) 0).2 (by omega) (by omega) (by omega)
   obtain⟨o1,o2,o3⟩:=Zvm hc d hd (a+(b-a) / 4*3) (medianAdjacent (ltC c) d (a+(b-a) / 4*2) (medianAdjacent (ltC c) d (a+(b-a) / 4*1) 0).2).2 (by omega) (by omega) (by omega)
   obtain⟨r1,r2,r3⟩:=Zvw hc d hd _ _ _ (medianAdjacent (ltC c) d (a+(b-a) / 4*3) (medianAdjacent (ltC c) d (a+(b-a) / 4*2) (medianAdjacent (ltC c) d (a+(b-a) / 4*1) 0).2).2).2 m2 n2 o2 (by omega)
   rw[z] at m1
   rw[decide_eq_true (show(50:Int)≤((b-a:Nat):Int) by omega),if_pos h50]
   simp only[cond_true,m1,n1,o1,r1,Option.bind_some]
   exact Zw5 (_,_) _ _ rfl rfl
  ·obtain⟨r1,r2,r3⟩:=Zvw hc d hd (a+(b-a) / 4*1) (a+(b-a) / 4*2) (a+(b-a) / 4*3) 0 (by omega) (by omega) (by omega) (by omega)
   rw[z] at r1
   rw[decide_eq_false (show ¬(50:Int)≤((b-a:Nat):Int) by omega),if_neg h50]
   simp only[cond_true,cond_false,r1,Option.bind_some]
   exact Zw5 (_,_) _ _ rfl rfl
 ·rw[decide_eq_false (show ¬(8:Int)≤((b-a:Nat):Int) by omega),if_neg h8]
  rfl
end
theorem Zz5 {P:Int→Prop}:∀(k i j:Nat) (d:Array Int),j-i≤k→j<d.size∨j≤i→OKA P d→lp Z6 ((i:Int),(j:Int),d.toList)=some (reverseLoop i j d).toList∧OKA P (reverseLoop i j d)∧(reverseLoop i j d).size=d.size:=by
 intro k
 induction k with
 | zero=>
  intro i j d hk hj hd
  rw[Za7]
  unfold reverseLoop
  simp only[Z6,Zgc,decide_eq_false (show ¬i<j by omega),cond_false]
  rw[if_neg (by omega)]
  exact⟨rfl,hd,rfl⟩
 | succ k ih=>
  intro i j d hk hj hd
  have hz:=hd.sz
  rw[Za7]
  unfold reverseLoop
  by_cases h:i<j
  ·have i1:j<d.size:=by omega
   have i2:i<d.size:=by omega
   obtain⟨y,em⟩:=Zke (i:=i) (x:=d[j]!) i1
   have e2:w64 ((j:Int)-1)=((j-1:Nat):Int):=Zau (by omega) (by omega)
   simp only[Z6,Zgc,decide_eq_true h,cond_true,ZbG i1,ZbG i2,Option.bind_some,Int.toNat_natCast,em,Zg0,ZT h (by omega),e2]
   rw[if_pos h]
   have:=ih (i+1) (j-1) (swp d i j) (by omega) (by rw[Zae];omega) (hd.swp i2 i1)
   rw[Zae] at this
   exact this
  ·simp only[Z6,Zgc,decide_eq_false h,cond_false]
   rw[if_neg h]
   exact⟨rfl,hd,rfl⟩
theorem ZwN {P:Int→Prop} (cmp:Int→Int→Option Int) (a b:Nat) (d:Array Int) (hab:a<b) (hb:b≤d.size) (hd:OKA P d):ZN (a:Int) (b:Int) cmp d.toList=some (reverseRange d a b).toList∧OKA P (reverseRange d a b)∧(reverseRange d a b).size=d.size:=by
 have hz:=hd.sz
 obtain⟨h1,h2⟩:=Zz5 (b-1-a) a (b-1) d (Nat.le_refl _) (by omega) hd
 unfold ZN reverseRange
 rw[Zau (n:=b-1) (by omega) (by omega)]
 simp only[h1,Option.bind_some]
 exact⟨trivial,h2⟩
end Go.Proofs.YtnmbdjkbaihicaaDoor
namespace Go.Proofs.YtnmbdjkbaihicaaDoor
open Go Go.Proofs.YtnmbdjkbaihicaaDoorE Go.Sort
set_option linter.unusedVariables false
set_option linter.unusedSimpArgs false
theorem Zr3 (n:Int):IntKind.u64.wrap n=n % 18446744073709551616:=by
 show(if (false&&decide (n % 18446744073709551616 ≥ 9223372036854775808))=true then n % 18446744073709551616-18446744073709551616 else n % 18446744073709551616)=_
 simp
theorem Zht {n:Nat} (h:n<18446744073709551616):IntKind.u64.wrap (n:Int)=(n:Int):=by rw[Zr3];omega
def ZqN (a b:Int):Int:=IntKind.u64.wrap (BitVec.ofInt IntKind.u64.bits a ^^^ BitVec.ofInt IntKind.u64.bits b).toNat
def Zvn (a b:Int):Int:=IntKind.u64.wrap (BitVec.ofInt IntKind.u64.bits a &&& BitVec.ofInt IntKind.u64.bits b).toNat
def xs (r:Int):Int:=ZqN (ZqN (ZqN r (IntKind.u64.wrap (r*2 ^ 13))) (Int.fdiv (ZqN r (IntKind.u64.wrap (r*2 ^ 13))) (2 ^ 7))) (IntKind.u64.wrap (ZqN (ZqN r (IntKind.u64.wrap (r*2 ^ 13))) (Int.fdiv (ZqN r (IntKind.u64.wrap (r*2 ^ 13))) (2 ^ 7))*2 ^ 17))
theorem Zqp (u:UInt64):BitVec.ofInt IntKind.u64.bits (u.toNat:Int)=u.toBitVec:=by
 show BitVec.ofInt 64 (u.toNat:Int)=u.toBitVec
 rw[BitVec.ofInt_natCast]
 apply BitVec.eq_of_toNat_eq
 rw[BitVec.toNat_ofNat]
 exact Nat.mod_eq_of_lt u.toNat_lt
theorem Zwy (u v:UInt64):ZqN (u.toNat:Int) (v.toNat:Int)=((u ^^^ v).toNat:Int):=by
 unfold ZqN
 rw[Zqp,Zqp]
 exact Zht (u ^^^ v).toNat_lt
theorem ZyJ (u:UInt64) (k:Nat) (v:UInt64) (hk:v.toNat % 64=k):IntKind.u64.wrap ((u.toNat:Int)*2 ^ k)=((u <<< v).toNat:Int):=by
 rw[Zr3,UInt64.toNat_shiftLeft,hk,Nat.shiftLeft_eq]
 have:((2:Int) ^ k)=((2 ^ k:Nat):Int):=by rw[Int.natCast_pow];rfl
 rw[this]
 omega
theorem ZAM (u:UInt64) (k:Nat) (v:UInt64) (hk:v.toNat % 64=k):Int.fdiv (u.toNat:Int) (2 ^ k)=((u >>> v).toNat:Int):=by
 have e:((2:Int) ^ k)=((2 ^ k:Nat):Int):=by rw[Int.natCast_pow];rfl
 rw[UInt64.toNat_shiftRight,hk,Nat.shiftRight_eq_div_pow,e,Int.fdiv_eq_ediv_of_nonneg _ (Int.natCast_nonneg _)]
 exact(Int.natCast_ediv _ _).symm
theorem ZAS (u:UInt64):xs (u.toNat:Int)=((xorNext u).toNat:Int):=by
 unfold xs xorNext
 rw[ZyJ u 13 13 rfl,Zwy,ZAM _ 7 7 rfl,Zwy,ZyJ _ 17 17 rfl,Zwy]
theorem Zyi (u:UInt64) (m:Nat) (hm:m<18446744073709551616):Zvn (u.toNat:Int) (m:Int)=((u.toNat &&& m:Nat):Int):=by
 unfold Zvn
 rw[Zqp]
 have:BitVec.ofInt IntKind.u64.bits (m:Int)=BitVec.ofNat 64 m:=BitVec.ofInt_natCast _ _
 rw[this]
 show IntKind.u64.wrap ((((u.toBitVec &&& BitVec.ofNat 64 m:BitVec 64)).toNat:Nat):Int)=_
 rw[BitVec.toNat_and,BitVec.toNat_ofNat,Nat.mod_eq_of_lt hm]
 refine Zht (Nat.lt_of_le_of_lt Nat.and_le_left u.toNat_lt)
theorem Zu5:((List.range 1001).all fun n=>(match Zed (IntKind.u64.wrap (n:Int)) with | some v=>v==(bitsLen n:Int) | none=>false)&&((match Zcs (n:Int) with | some v=>v==((1 <<< bitsLen n:Nat):Int) | none=>false)&&(decide (1 <<< bitsLen n≤2*n) || n==0)))=true:=by kernel_rfl
theorem Zwl {n:Nat} (h:n≤1000):Zed (IntKind.u64.wrap (n:Int))=some (bitsLen n:Int)∧Zcs (n:Int)=some ((1 <<< bitsLen n:Nat):Int)∧(0<n→1 <<< bitsLen n≤2*n):=by
 have:=List.all_eq_true.1 Zu5 n (by simp;omega)
 simp only[Bool.and_eq_true,Bool.or_eq_true,decide_eq_true_eq,beq_iff_eq] at this
 obtain⟨h1,h2,h3⟩:=this
 refine⟨?_,?_,fun h=>by omega⟩
 ·split at h1
  ·rename_i v hv;rw[hv,eq_of_beq h1]
  ·cases h1
 ·split at h2
  ·rename_i v hv;rw[hv,eq_of_beq h2]
  ·cases h2
def ZnR (s:Int×List Int×Int) (o:Int):Option ((Int×List Int×Int)⊕List Int):=
 (ZE s.2.1 o).bind fun x3=>(ZE s.2.1 s.1).bind fun x4=>(ZE (List.set s.2.1 s.1.toNat x3) o).bind fun _=>some (Sum.inl (w64 (s.1+1),List.set (List.set s.2.1 s.1.toNat x3) o.toNat x4,xs s.2.2))
theorem ZyV (b c x0:Int) (s:Int×List Int×Int):ZaI b c x0 s=(bif (decide (s.1≤(w64 ((w64 (b+(w64 ((w64 (Int.tdiv (w64 (c-b)) 4))*2))))+1)))) then
  Zdx.bind fun _=>bif decide (w64 (c-b)≤w64 (Zvn (xs s.2.2) (IntKind.u64.wrap (x0-1)))) then ZnR s (w64 (b+w64 (w64 (Zvn (xs s.2.2) (IntKind.u64.wrap (x0-1)))-w64 (c-b)))) else ZnR s (w64 (b+w64 (Zvn (xs s.2.2) (IntKind.u64.wrap (x0-1)))))
 else some (.inr s.2.1)):=rfl
theorem Zr0 {P:Int→Prop} (d:Array Int) (hd:OKA P d) (i o:Nat) (u:UInt64) (hi:i<d.size) (ho:o<d.size):ZnR ((i:Int),d.toList,(u.toNat:Int)) (o:Int)=some (.inl (((i+1:Nat):Int),(swp d i o).toList,((xorNext u).toNat:Int))):=by
 have hz:=hd.sz
 obtain⟨y,em⟩:=Zke (i:=i) (x:=d[o]!) ho
 unfold ZnR
 simp only[ZbG ho,ZbG hi,Option.bind_some,Int.toNat_natCast,em,Zg0,ZAS,ZT hi (by omega)]
theorem ZqG {P:Int→Prop} (a b:Nat) (d:Array Int) (hd:OKA P d) (h8:8≤b-a) (hb:b≤d.size) (i:Nat) (hi:i≤a+(b-a) / 4*2+1) (u:UInt64) :
  ZaI (a:Int) (b:Int) ((1 <<< bitsLen (b-a):Nat):Int) ((i:Int),d.toList,(u.toNat:Int))=some (.inl (((i+1:Nat):Int),(breakStep a (b-a) (1 <<< bitsLen (b-a)) (u,d) i).2.toList,((breakStep a (b-a) (1 <<< bitsLen (b-a)) (u,d) i).1.toNat:Int))) ∧
  OKA P (breakStep a (b-a) (1 <<< bitsLen (b-a)) (u,d) i).2∧(breakStep a (b-a) (1 <<< bitsLen (b-a)) (u,d) i).2.size=d.size:=by
 have hz:=hd.sz
 obtain⟨_,_,l3⟩:=Zwl (show b-a≤1000 by omega)
 have l4:=l3 (by omega)
 have l5:0<1 <<< bitsLen (b-a):=by rw[Nat.shiftLeft_eq,Nat.one_mul];exact Nat.pow_pos (by omega)
 generalize hm:1 <<< bitsLen (b-a)=m at *
 have e1:w64 ((b:Int)-(a:Int))=((b-a:Nat):Int):=Zau (by omega) (by omega)
 have e2:w64 (Int.tdiv ((b-a:Nat):Int) 4)=(((b-a) / 4:Nat):Int):=by
  rw[Int.tdiv_eq_ediv_of_nonneg (by omega)]
  exact Zau (by omega) (by omega)
 have e3:w64 ((((b-a) / 4:Nat):Int)*2)=(((b-a) / 4*2:Nat):Int):=Zau (by omega) (by omega)
 have e4:w64 ((a:Int)+(((b-a) / 4*2:Nat):Int))=((a+(b-a) / 4*2:Nat):Int):=Zau (by omega) (by omega)
 have e5:w64 (((a+(b-a) / 4*2:Nat):Int)+1)=((a+(b-a) / 4*2+1:Nat):Int):=Zau (by omega) (by omega)
 have e6:IntKind.u64.wrap ((m:Int)-1)=((m-1:Nat):Int):=by
  rw[show(m:Int)-1=((m-1:Nat):Int) by omega];exact Zht (by omega)
 have hand:(xorNext u).toNat &&& (m-1)≤m-1:=Nat.and_le_right
 have e7:w64 (((xorNext u).toNat &&& (m-1):Nat):Int)=(((xorNext u).toNat &&& (m-1):Nat):Int):=Zau rfl (by omega)
 have ii:i<d.size:=by omega
 rw[ZyV]
 unfold breakStep
 simp only[e1,e2,e3,e4,e5,Zg7,decide_eq_true hi,cond_true,ZAS,e6,Zyi _ (m-1) (by omega),e7]
 generalize (xorNext u).toNat &&& (m-1)=o at *
 show(bif decide (b-a≤o) then _ else _)=_∧_
 by_cases ho:b-a≤o
 ·have e8:w64 ((o:Int)-((b-a:Nat):Int))=((o-(b-a):Nat):Int):=Zau (by omega) (by omega)
  have e9:w64 ((a:Int)+((o-(b-a):Nat):Int))=((a+(o-(b-a)):Nat):Int):=Zau (by omega) (by omega)
  rw[decide_eq_true ho,if_pos ho]
  simp only[cond_true,e8,e9]
  exact⟨Zr0 d hd i _ u ii (by omega),hd.swp ii (by omega),Zae _ _ _⟩
 ·have e9:w64 ((a:Int)+(o:Int))=((a+o:Nat):Int):=Zau (by omega) (by omega)
  rw[decide_eq_false ho,if_neg ho]
  simp only[cond_false,e9]
  exact⟨Zr0 d hd i _ u ii (by omega),hd.swp ii (by omega),Zae _ _ _⟩
theorem ZCr {P:Int→Prop} (cmp:Int→Int→Option Int) (a b:Nat) (d:Array Int) (hab:a≤b) (hb:b≤d.size) (hd:OKA P d):Zad (a:Int) (b:Int) cmp d.toList=some (breakPatterns d a b).toList∧OKA P (breakPatterns d a b)∧(breakPatterns d a b).size=d.size:=by
 have hz:=hd.sz
 have e1:w64 ((b:Int)-(a:Int))=((b-a:Nat):Int):=Zau (by omega) (by omega)
 unfold Zad breakPatterns
 simp only[e1]
 by_cases h8:8≤b-a
 ·obtain⟨_,l2,_⟩:=Zwl (show b-a≤1000 by omega)
  have e2:w64 (Int.tdiv ((b-a:Nat):Int) 4)=(((b-a) / 4:Nat):Int):=by
   rw[Int.tdiv_eq_ediv_of_nonneg (by omega)]
   exact Zau (by omega) (by omega)
  have e3:w64 ((((b-a) / 4:Nat):Int)*2)=(((b-a) / 4*2:Nat):Int):=Zau (by omega) (by omega)
  have e4:w64 ((a:Int)+(((b-a) / 4*2:Nat):Int))=((a+(b-a) / 4*2:Nat):Int):=Zau (by omega) (by omega)
  have e5:w64 (((a+(b-a) / 4*2:Nat):Int)-1)=((a+(b-a) / 4*2-1:Nat):Int):=Zau (by omega) (by omega)
  have e6:IntKind.u64.wrap ((b-a:Nat):Int)=((UInt64.ofNat (b-a)).toNat:Int):=by
   rw[Zht (by omega),UInt64.toNat_ofNat_of_lt' (by show b-a<2 ^ 64;omega)]
  rw[decide_eq_true (show(8:Int)≤((b-a:Nat):Int) by omega),if_pos h8]
  simp only[cond_true,l2,Option.bind_some,e2,e3,e4,e5,e6]
  generalize hi0:a+(b-a) / 4*2-1=i0
  obtain⟨p1,p2,p3⟩:=ZqG a b d hd h8 hb i0 (by omega) (UInt64.ofNat (b-a))
  generalize breakStep a (b-a) (1 <<< bitsLen (b-a)) (UInt64.ofNat (b-a),d) i0=r1 at *
  obtain⟨q1,q2,q3⟩:=ZqG a b r1.2 p2 h8 (by omega) (i0+1) (by omega) r1.1
  generalize breakStep a (b-a) (1 <<< bitsLen (b-a)) (r1.1,r1.2) (i0+1)=r2 at *
  obtain⟨s1,s2,s3⟩:=ZqG a b r2.2 q2 h8 (by omega) (i0+2) (by omega) r2.1
  generalize breakStep a (b-a) (1 <<< bitsLen (b-a)) (r2.1,r2.2) (i0+2)=r3 at *
  rw[Zoq p1,Zoq q1,Zoq s1,Zq1 (r:=r3.2.toList)]
  ·exact⟨rfl,s2,by omega⟩
  ·rw[ZyV]
   have e7:w64 (((a+(b-a) / 4*2:Nat):Int)+1)=((a+(b-a) / 4*2+1:Nat):Int):=Zau (by omega) (by omega)
   simp only[e1,e2,e3,e4,e7,Zg7,decide_eq_false (show ¬i0+2+1≤a+(b-a) / 4*2+1 by omega),cond_false]
 ·rw[decide_eq_false (show ¬(8:Int)≤((b-a:Nat):Int) by omega),if_neg h8]
  exact⟨rfl,hd,rfl⟩
end Go.Proofs.YtnmbdjkbaihicaaDoor
namespace Go.Proofs.YtnmbdjkbaihicaaDoor
open Go Go.Proofs.YtnmbdjkbaihicaaDoorE Go.Sort
set_option linter.unusedVariables false
set_option linter.unusedSimpArgs false
abbrev ZxU:=Int×Int×Int×Bool×Bool×List Int
noncomputable def Ztl (e:Int→Int→Option Int) (rc:Int→Int→Int→(Int→Int→Option Int)→List Int→Option (List Int)) (a b limit pivot:Int) (x5:List Int):Option (ZxU⊕List Int):=
 (Zr a b pivot e x5).bind fun x9=>
 match x9 with
 | .inl x9=>
  bif decide (w64 (x9.1-a)<w64 (b-x9.1)) then
   bif decide (w64 (Int.tdiv (w64 (b-a)) 8)≤w64 (x9.1-a)) then (rc a x9.1 limit e x9.2).bind fun x10=>some (.inl (w64 (x9.1+1),b,limit,true,true,x10))
   else (rc a x9.1 limit e x9.2).bind fun x10=>some (.inl (w64 (x9.1+1),b,limit,false,true,x10))
  else
   bif decide (w64 (Int.tdiv (w64 (b-a)) 8)≤w64 (b-x9.1)) then (rc (w64 (x9.1+1)) b limit e x9.2).bind fun x10=>some (.inl (a,x9.1,limit,true,true,x10))
   else (rc (w64 (x9.1+1)) b limit e x9.2).bind fun x10=>some (.inl (a,x9.1,limit,false,true,x10))
 | .inr x9=>
  bif decide (w64 (x9.1-a)<w64 (b-x9.1)) then
   bif decide (w64 (Int.tdiv (w64 (b-a)) 8)≤w64 (x9.1-a)) then (rc a x9.1 limit e x9.2).bind fun x10=>some (.inl (w64 (x9.1+1),b,limit,true,false,x10))
   else (rc a x9.1 limit e x9.2).bind fun x10=>some (.inl (w64 (x9.1+1),b,limit,false,false,x10))
  else
   bif decide (w64 (Int.tdiv (w64 (b-a)) 8)≤w64 (b-x9.1)) then (rc (w64 (x9.1+1)) b limit e x9.2).bind fun x10=>some (.inl (a,x9.1,limit,true,false,x10))
   else (rc (w64 (x9.1+1)) b limit e x9.2).bind fun x10=>some (.inl (a,x9.1,limit,false,false,x10))
noncomputable def Zmx (e:Int→Int→Option Int) (rc:Int→Int→Int→(Int→Int→Option Int)→List Int→Option (List Int)) (a b limit pivot:Int) (wb wp:Bool) (x5:List Int):Option (ZxU⊕List Int):=
 bif decide (0<a) then
  (ZE x5 (w64 (a-1))).bind fun x6=>(ZE x5 pivot).bind fun x7=>(e x6 x7).bind fun x8=>
  bif decide (x8<0) then Ztl e rc a b limit pivot x5
  else (ZC a b pivot e x5).bind fun x18=>some (.inl (x18.1,b,limit,wb,wp,x18.2))
 else Ztl e rc a b limit pivot x5
theorem Zpw (e:Int→Int→Option Int) (rc:Int→Int→Int→(Int→Int→Option Int)→List Int→Option (List Int)) (a b limit:Int) (wb wp:Bool) (l:List Int):ZQ e rc (a,b,limit,wb,wp,l) =
  (bif decide (w64 (b-a)≤12) then (ZW a b e l).bind fun x=>some (.inr x)
  else bif limit==0 then (Z8 a b e l).bind fun x=>some (.inr x)
  else (bif wb then bif wp then
    (ZO a b e l).bind fun x3=>
    bif x3.2==2 then (ZN a b e l).bind fun x4=>(ZP a b e x4).bind fun x5=>(match x5 with | .inl x5=>some (.inr x5) | .inr x5=>Zmx e rc a b limit (w64 (w64 (b-1)-w64 (x3.1-a))) true true x5)
    else bif x3.2==1 then (ZP a b e l).bind fun x5=>(match x5 with | .inl x5=>some (.inr x5) | .inr x5=>Zmx e rc a b limit x3.1 true true x5)
    else Zmx e rc a b limit x3.1 true true l
   else
    (ZO a b e l).bind fun x3=>
    bif x3.2==2 then (ZN a b e l).bind fun x4=>Zmx e rc a b limit (w64 (w64 (b-1)-w64 (x3.1-a))) true false x4
    else Zmx e rc a b limit x3.1 true false l
  else
   (Zad a b e l).bind fun x0=>(ZO a b e x0).bind fun x3=>
    bif x3.2==2 then (ZN a b e x0).bind fun x4=>Zmx e rc a b (w64 (limit-1)) (w64 (w64 (b-1)-w64 (x3.1-a))) false wp x4
    else Zmx e rc a b (w64 (limit-1)) x3.1 false wp x0)):=by
 cases wb<;>cases wp<;>rfl
end Go.Proofs.YtnmbdjkbaihicaaDoor
namespace Go.Proofs.YtnmbdjkbaihicaaDoor
open Go Go.Proofs.YtnmbdjkbaihicaaDoorE Go.Sort
set_option linter.unusedVariables false
set_option linter.unusedSimpArgs false
noncomputable def after (e:Int→Int→Option Int) (rc:Int→Int→Int→(Int→Int→Option Int)→List Int→Option (List Int)) (x:Option (ZxU⊕List Int)):Option (List Int):=
 match x with | some (.inl s')=>lp (ZQ e rc) s' | some (.inr r)=>some r | none=>none
theorem Zvj (e:Int→Int→Option Int) (rc:Int→Int→Int→(Int→Int→Option Int)→List Int→Option (List Int)) (s:ZxU):lp (ZQ e rc) s=after e rc (ZQ e rc s):=by
 rw[Za7]
 unfold after
 cases ZQ e rc s with
 | none=>rfl
 | some t=>cases t<;>rfl
def Res (P:Int→Prop) (r:Option (List Int)) (X:Array Int) (n:Nat):Prop:=r=some X.toList∧OKA P X∧X.size=n
section
variable {cmp:Int→Int→Option Int} {c:Int→Int→Int} {P:Int→Prop} (hc:Zrk cmp c P) (hs:SWO (ltC c))
include hc hs
def ZnT (cmp:Int→Int→Option Int) (c:Int→Int→Int) (P:Int→Prop) (rc:Int→Int→Int→(Int→Int→Option Int)→List Int→Option (List Int)) (k:Nat):Prop:=
 ∀(a b limit:Nat) (wb wp:Bool) (d:Array Int),b-a≤k→a≤b→b≤d.size→OKA P d→limit≤1000 →
  Res P (rc (a:Int) (b:Int) (limit:Int) cmp d.toList) (pdq (ltC c) d a b limit true true) d.size ∧
  Res P (lp (ZQ cmp rc) ((a:Int),(b:Int),(limit:Int),wb,wp,d.toList)) (pdq (ltC c) d a b limit wb wp) d.size
theorem ZsZ {rc:Int→Int→Int→(Int→Int→Option Int)→List Int→Option (List Int)}{k:Nat} (ih:ZnT cmp c P rc k) (a b limit pivot:Nat) (d:Array Int) (hk:b-a≤k+1) (h1:a≤pivot) (h2:pivot<b) (hb:b≤d.size) (hd:OKA P d) (hl:limit≤1000) :
  Res P (after cmp rc (Ztl cmp rc (a:Int) (b:Int) (limit:Int) (pivot:Int) d.toList)) (match partition (ltC c) d a b pivot with
   | (mid,alreadyPartitioned,d4)=>
    if _h:a≤mid∧mid<b then
     if mid-a<b-mid then pdq (ltC c) (pdq (ltC c) d4 a mid limit true true) (mid+1) b limit (decide (mid-a ≥ (b-a) / 8)) alreadyPartitioned
     else pdq (ltC c) (pdq (ltC c) d4 (mid+1) b limit true true) a mid limit (decide (b-mid ≥ (b-a) / 8)) alreadyPartitioned
    else d4) d.size:=by
 have hz:=hd.sz
 obtain⟨p1,p2,p3⟩:=Zyd hc a b pivot d h1 h2 hb hd
 obtain⟨r1,r2,_⟩:=partition_holds (ltC c) hs d a b pivot h1 h2 hb
 unfold Ztl
 rw[p1]
 generalize partition (ltC c) d a b pivot=q at *
 obtain⟨mid,ap,d4⟩:=q
 dsimp only at *
 rw[dif_pos ⟨r1,r2⟩]
 have e1:w64 ((mid:Int)-(a:Int))=((mid-a:Nat):Int):=Zau (by omega) (by omega)
 have e2:w64 ((b:Int)-(mid:Int))=((b-mid:Nat):Int):=Zau (by omega) (by omega)
 have e3:w64 ((b:Int)-(a:Int))=((b-a:Nat):Int):=Zau (by omega) (by omega)
 have e4:w64 (Int.tdiv ((b-a:Nat):Int) 8)=(((b-a) / 8:Nat):Int):=by
  rw[Int.tdiv_eq_ediv_of_nonneg (by omega)]
  exact Zau (by omega) (by omega)
 have e5:w64 ((mid:Int)+1)=((mid+1:Nat):Int):=Zau (by omega) (by omega)
 by_cases hlt:mid-a<b-mid
 ·obtain⟨⟨u1,u2,u3⟩,_⟩:=ih a mid limit true true d4 (by omega) r1 (by omega) p2 hl
  rw[if_pos hlt]
  by_cases ht:mid-a ≥ (b-a) / 8
  ·obtain⟨_,v1,v2,v3⟩:=ih (mid+1) b limit true ap (pdq (ltC c) d4 a mid limit true true) (by omega) (by omega) (by omega) u2 hl
   rw[decide_eq_true ht]
   refine⟨?_,v2,by omega⟩
   cases ap<;>simp only[cond_true,cond_false,Option.bind_some,e1,e2,e3,e4,e5,Zgc,Zg7,decide_eq_true hlt,decide_eq_true (show(b-a) / 8≤mid-a from ht),u1,after]<;>exact v1
  ·obtain⟨_,v1,v2,v3⟩:=ih (mid+1) b limit false ap (pdq (ltC c) d4 a mid limit true true) (by omega) (by omega) (by omega) u2 hl
   rw[decide_eq_false ht]
   refine⟨?_,v2,by omega⟩
   cases ap<;>simp only[cond_true,cond_false,Option.bind_some,e1,e2,e3,e4,e5,Zgc,Zg7,decide_eq_true hlt,decide_eq_false (show ¬(b-a) / 8≤mid-a from ht),u1,after]<;>exact v1
 ·obtain⟨⟨u1,u2,u3⟩,_⟩:=ih (mid+1) b limit true true d4 (by omega) (by omega) (by omega) p2 hl
  rw[if_neg hlt]
  by_cases ht:b-mid ≥ (b-a) / 8
  ·obtain⟨_,v1,v2,v3⟩:=ih a mid limit true ap (pdq (ltC c) d4 (mid+1) b limit true true) (by omega) r1 (by omega) u2 hl
   rw[decide_eq_true ht]
   refine⟨?_,v2,by omega⟩
   cases ap<;>simp only[cond_true,cond_false,Option.bind_some,e1,e2,e3,e4,e5,Zgc,Zg7,decide_eq_false hlt,decide_eq_true (show(b-a) / 8≤b-mid from ht),u1,after]<;>exact v1
  ·obtain⟨_,v1,v2,v3⟩:=ih a mid limit false ap (pdq (ltC c) d4 (mid+1) b limit true true) (by omega) r1 (by omega) u2 hl
   rw[decide_eq_false ht]
   refine⟨?_,v2,by omega⟩
   cases ap<;>simp only[cond_true,cond_false,Option.bind_some,e1,e2,e3,e4,e5,Zgc,Zg7,decide_eq_false hlt,decide_eq_false (show ¬(b-a) / 8≤b-mid from ht),u1,after]<;>exact v1
theorem ZeR {rc:Int→Int→Int→(Int→Int→Option Int)→List Int→Option (List Int)}{k:Nat} (ih:ZnT cmp c P rc k) (a b limit pivot:Nat) (wb wp:Bool) (d:Array Int) (hk:b-a≤k+1) (h1:a≤pivot) (h2:pivot<b) (hb:b≤d.size) (hd:OKA P d) (hl:limit≤1000) :
  Res P (after cmp rc (Zmx cmp rc (a:Int) (b:Int) (limit:Int) (pivot:Int) wb wp d.toList)) (if (decide (a > 0) && !ltC c d[a-1]! d[pivot]!)=true then
    match partitionEqual (ltC c) d a b pivot with
    | (mid,d4)=>if _h:a<mid∧mid≤b then pdq (ltC c) d4 mid b limit wb wp else d4
   else
    match partition (ltC c) d a b pivot with
    | (mid,alreadyPartitioned,d4)=>
     if _h:a≤mid∧mid<b then
      if mid-a<b-mid then pdq (ltC c) (pdq (ltC c) d4 a mid limit true true) (mid+1) b limit (decide (mid-a ≥ (b-a) / 8)) alreadyPartitioned
      else pdq (ltC c) (pdq (ltC c) d4 (mid+1) b limit true true) a mid limit (decide (b-mid ≥ (b-a) / 8)) alreadyPartitioned
     else d4) d.size:=by
 have hz:=hd.sz
 have pa:=ZsZ hc hs ih a b limit pivot d hk h1 h2 hb hd hl
 have ip:pivot<d.size:=by omega
 unfold Zmx
 by_cases ha:0<a
 ·have ia:a-1<d.size:=by omega
  have e1:w64 ((a:Int)-1)=((a-1:Nat):Int):=Zau (by omega) (by omega)
  have e3:=hc _ _ (hd.el _ ia) (hd.el _ ip)
  simp only[decide_eq_true (show(0:Int)<(a:Int) by omega),cond_true,e1,ZbG ia,ZbG ip,Option.bind_some,e3]
  by_cases h:c d[a-1]! d[pivot]! < 0
  ·rw[decide_eq_true h,if_neg (by simp[ltC,h])]
   exact pa
  ·rw[decide_eq_false h,if_pos (by simp[ltC,h,ha])]
   obtain⟨q1,q2,q3,q4,q5⟩:=Zxa hc a b pivot d h1 h2 hb hd
   generalize partitionEqual (ltC c) d a b pivot=q at *
   obtain⟨mid,d4⟩:=q
   dsimp only at *
   rw[dif_pos ⟨q4,q5⟩]
   obtain⟨_,v1,v2,v3⟩:=ih mid b limit wb wp d4 (by omega) q5 (by omega) q2 hl
   simp only[cond_false,q1,Option.bind_some,after]
   exact⟨v1,v2,by omega⟩
 ·rw[if_neg (by simp[ha])]
  simp only[decide_eq_false (show ¬(0:Int)<(a:Int) by omega),cond_false]
  exact pa
theorem ZpV {rc:Int→Int→Int→(Int→Int→Option Int)→List Int→Option (List Int)}{k:Nat} (ih:ZnT cmp c P rc k) (a b limit:Nat) (wb wp:Bool) (d:Array Int) (hk:b-a≤k+1) (hab:a≤b) (hb:b≤d.size) (hd:OKA P d) (hl:limit≤1000) :
  Res P (lp (ZQ cmp rc) ((a:Int),(b:Int),(limit:Int),wb,wp,d.toList)) (pdq (ltC c) d a b limit wb wp) d.size:=by
 have hz:=hd.sz
 have e1:w64 ((b:Int)-(a:Int))=((b-a:Nat):Int):=Zau (by omega) (by omega)
 rw[Zvj,Zpw,pdq,e1]
 by_cases h12:b-a≤12
 ·obtain⟨q1,q2,q3⟩:=ZyO hc a b d hb hab hd
  rw[decide_eq_true (show((b-a:Nat):Int)≤12 by omega),if_pos h12]
  simp only[cond_true,q1,Option.bind_some,after]
  exact⟨rfl,q2,q3⟩
 rw[decide_eq_false (show ¬((b-a:Nat):Int)≤12 by omega),if_neg h12]
 by_cases h0:limit=0
 ·obtain⟨q1,q2,q3⟩:=Zzs hc a b d hab hb hd
  rw[show((limit:Int)==0)=true by simp[h0],if_pos h0]
  simp only[cond_false,cond_true,q1,Option.bind_some,after]
  exact⟨rfl,q2,q3⟩
 rw[show((limit:Int)==0)=false by simpa using (show ¬(limit:Int)=0 by omega),if_neg h0]
 have hl2:∀x:Nat,(Zpe Hint.unknown==2)=false∧(Zpe Hint.unknown==1)=false∧(Zpe Hint.increasing==2)=false∧(Zpe Hint.increasing==1)=true∧(Zpe Hint.decreasing==2)=true:=fun _=>⟨rfl,rfl,rfl,rfl,rfl⟩
 obtain⟨g1,g2,g3,g4,g5⟩:=hl2 0
 have rp:∀p:Nat,a≤p→p<b→w64 (w64 ((b:Int)-1)-w64 ((p:Int)-(a:Int)))=(((b-1)-(p-a):Nat):Int):=fun p h1 h2=>by
  have x1:w64 ((b:Int)-1)=((b-1:Nat):Int):=Zau (by omega) (by omega)
  have x2:w64 ((p:Int)-(a:Int))=((p-a:Nat):Int):=Zau (by omega) (by omega)
  rw[x1,x2]
  exact Zau (by omega) (by omega)
 cases wb with
 | true=>
  have pv:=ZyS hc a b d (by omega) hb hd
  have pr:=choosePivot_holds (ltC c) d a b (by omega)
  simp only[cond_false,cond_true,Bool.not_true,Bool.false_eq_true,if_false,Bool.true_and]
  generalize choosePivot (ltC c) d a b=cp at *
  obtain⟨p,h⟩:=cp
  dsimp only at *
  cases wp with
  | true=>
   simp only[cond_true,pv,Option.bind_some]
   cases h with
   | decreasing=>
    obtain⟨v1,v2,v3⟩:=ZwN (P:=P) cmp a b d (by omega) hb hd
    obtain⟨w1,w2,w3⟩:=ZyT hc a b (reverseRange d a b) (by omega) (by omega) v2
    simp only[g5,cond_true,v1,Option.bind_some,w1,if_true,decide_true,Bool.and_self]
    generalize partialInsertionSort (ltC c) (reverseRange d a b) a b=pi at *
    obtain⟨d3,fin⟩:=pi
    dsimp only at *
    cases fin with
    | true=>exact⟨rfl,w2,w3.trans v3⟩
    | false=>
     rw[rp p pr.1 pr.2]
     have:=ZeR hc hs ih a b limit ((b-1)-(p-a)) true true d3 hk (by omega) (by omega) (by omega) w2 hl
     rw[show d3.size=d.size by omega] at this
     exact this
   | increasing=>
    obtain⟨w1,w2,w3⟩:=ZyT hc a b d (by omega) hb hd
    simp only[g3,g4,cond_true,cond_false,w1,Option.bind_some,reduceCtorEq,if_false,if_true,decide_true,Bool.and_self]
    generalize partialInsertionSort (ltC c) d a b=pi at *
    obtain⟨d3,fin⟩:=pi
    dsimp only at *
    cases fin with
    | true=>exact⟨rfl,w2,w3⟩
    | false=>
     have:=ZeR hc hs ih a b limit p true true d3 hk pr.1 pr.2 (by omega) w2 hl
     rw[show d3.size=d.size by omega] at this
     exact this
   | unknown=>
    simp only[g1,g2,cond_false,reduceCtorEq,if_false,decide_false,Bool.and_false,Bool.false_eq_true]
    exact ZeR hc hs ih a b limit p true true d hk pr.1 pr.2 hb hd hl
  | false=>
   simp only[cond_false,pv,Option.bind_some,Bool.false_and,Bool.false_eq_true,if_false]
   cases h with
   | decreasing=>
    obtain⟨v1,v2,v3⟩:=ZwN (P:=P) cmp a b d (by omega) hb hd
    simp only[g5,cond_true,v1,Option.bind_some,if_true]
    rw[rp p pr.1 pr.2]
    have:=ZeR hc hs ih a b limit ((b-1)-(p-a)) true false (reverseRange d a b) hk (by omega) (by omega) (by omega) v2 hl
    rw[v3] at this
    exact this
   | increasing=>
    simp only[g3,cond_false,reduceCtorEq,if_false]
    exact ZeR hc hs ih a b limit p true false d hk pr.1 pr.2 hb hd hl
   | unknown=>
    simp only[g1,cond_false,reduceCtorEq,if_false]
    exact ZeR hc hs ih a b limit p true false d hk pr.1 pr.2 hb hd hl
 | false=>
  obtain⟨b1,b2,b3⟩:=ZCr (P:=P) cmp a b d hab hb hd
  have pv:=ZyS hc a b (breakPatterns d a b) (by omega) (by omega) b2
  have pr:=choosePivot_holds (ltC c) (breakPatterns d a b) a b (by omega)
  have el:w64 ((limit:Int)-1)=((limit-1:Nat):Int):=Zau (by omega) (by omega)
  simp only[cond_false,b1,Option.bind_some,pv,Bool.not_false,if_true,Bool.false_and,Bool.false_eq_true,if_false,el]
  generalize choosePivot (ltC c) (breakPatterns d a b) a b=cp at *
  obtain⟨p,h⟩:=cp
  dsimp only at *
  cases h with
  | decreasing=>
   obtain⟨v1,v2,v3⟩:=ZwN (P:=P) cmp a b (breakPatterns d a b) (by omega) (by omega) b2
   simp only[g5,cond_true,v1,Option.bind_some,if_true]
   rw[rp p pr.1 pr.2]
   have:=ZeR hc hs ih a b (limit-1) ((b-1)-(p-a)) false wp (reverseRange (breakPatterns d a b) a b) hk (by omega) (by omega) (by omega) v2 (by omega)
   rw[v3,b3] at this
   exact this
  | increasing=>
   simp only[g3,cond_false,reduceCtorEq,if_false]
   have:=ZeR hc hs ih a b (limit-1) p false wp (breakPatterns d a b) hk pr.1 pr.2 (by omega) b2 (by omega)
   rw[b3] at this
   exact this
  | unknown=>
   simp only[g1,cond_false,reduceCtorEq,if_false]
   have:=ZeR hc hs ih a b (limit-1) p false wp (breakPatterns d a b) hk pr.1 pr.2 (by omega) b2 (by omega)
   rw[b3] at this
   exact this
theorem Zyq:∀(k m:Nat),k≤m→ZnT cmp c P (ZZ (m+1)) k:=by
 intro k
 induction k with
 | zero=>
  intro m hm
  have base:∀(rc:Int→Int→Int→(Int→Int→Option Int)→List Int→Option (List Int)) (a b limit:Nat) (wb wp:Bool) (d:Array Int),b-a≤0→a≤b→b≤d.size→OKA P d→Res P (lp (ZQ cmp rc) ((a:Int),(b:Int),(limit:Int),wb,wp,d.toList)) (pdq (ltC c) d a b limit wb wp) d.size:=by
   intro rc a b limit wb wp d hk hab hb hd
   have hz:=hd.sz
   have e1:w64 ((b:Int)-(a:Int))=((b-a:Nat):Int):=Zau (by omega) (by omega)
   obtain⟨q1,q2,q3⟩:=ZyO hc a b d hb hab hd
   rw[Za7,Zpw,pdq,e1,decide_eq_true (show((b-a:Nat):Int)≤12 by omega),if_pos (by omega)]
   simp only[cond_true,q1,Option.bind_some]
   exact⟨rfl,q2,q3⟩
  intro a b limit wb wp d hk hab hb hd hl
  refine⟨?_,base _ a b limit wb wp d hk hab hb hd⟩
  obtain⟨r1,r2⟩:=base (ZZ m) a b limit true true d hk hab hb hd
  refine⟨?_,r2⟩
  show Zat (ZZ m) (a:Int) (b:Int) (limit:Int) cmp d.toList=_
  unfold Zat
  rw[r1];rfl
 | succ k ih=>
  intro m hm a b limit wb wp d hk hab hb hd hl
  refine⟨?_,ZpV hc hs (ih m (by omega)) a b limit wb wp d hk hab hb hd hl⟩
  obtain⟨m',rfl⟩:∃m',m=m'+1:=⟨m-1,by omega⟩
  obtain⟨r1,r2⟩:=ZpV hc hs (ih m' (by omega)) a b limit true true d hk hab hb hd hl
  refine⟨?_,r2⟩
  show Zat (ZZ (m'+1)) (a:Int) (b:Int) (limit:Int) cmp d.toList=_
  unfold Zat
  rw[r1];rfl
theorem Zyh (l:List Int) (hl:l.length≤1000) (hP:∀x∈l,P x):ZaM cmp l=some (Sort.sort (ltC c) l.toArray).toList:=by
 have hd:OKA P l.toArray:=⟨fun i hi=>by
  have hi':i<l.length:=by simpa using hi
  rw[getElem!_pos l.toArray i hi]
  simpa using hP _ (List.getElem_mem hi'),by simpa using hl⟩
 obtain⟨l1,_,_⟩:=Zwl hl
 have hbl:bitsLen l.length≤1000:=by
  unfold bitsLen
  split
  ·omega
  ·have:Nat.log2 l.length<11:=(Nat.log2_lt (by assumption)).2 (by omega)
   omega
 have key:∀n,l.length+1≤n→ZZ n 0 (l.length:Int) (bitsLen l.length:Int) cmp l=some (Sort.sort (ltC c) l.toArray).toList:=by
  intro n hn
  obtain⟨m,rfl⟩:∃m,n=m+1:=⟨n-1,by omega⟩
  obtain⟨⟨r1,_⟩,_⟩:=Zyq hc hs l.length m (by omega) 0 l.length (bitsLen l.length) true true l.toArray (by omega) (by omega) (by simp) hd hbl
  refine(r1:ZZ (m+1) 0 (l.length:Int) (bitsLen l.length:Int) cmp l=_).trans ?_
  unfold Sort.sort
  rw[List.size_toArray]
 unfold ZaM Zdw
 rw[l1,Option.bind_some,ZxE key]
 rfl
theorem ZzK (l:List Int) (hl:l.length≤1000) (hP:∀x∈l,P x):∃r:List Int,ZaM cmp l=some r∧r.Perm l∧r.Pairwise (fun x y=>ltC c y x=false):=by
 refine⟨_,Zyh hc hs l hl hP,?_⟩
 obtain⟨⟨h1,_,h2⟩,h3⟩:=sort_sorts (ltC c) hs l.toArray
 generalize Sort.sort (ltC c) l.toArray=d at *
 constructor
 ·have e1:d.extract 0 l.toArray.size=d:=by rw[← h1];simp
  rw[e1] at h2
  simpa using h2
 ·rw[List.pairwise_iff_getElem]
  intro i j hi hj hij
  have hj':j<d.size:=by simpa using hj
  have hi':i<d.size:=by omega
  have:=h3 i j (Nat.zero_le _) hij (by omega)
  rw[getElem!_pos d j hj',getElem!_pos d i hi'] at this
  simpa using this
end
end Go.Proofs.YtnmbdjkbaihicaaDoor
namespace Go.Proofs.YtnmbdjkbaihicaaDoor
open Go Go.Proofs.YtnmbdjkbaihicaaDoorE Go.Sort
set_option linter.unusedVariables false
set_option linter.unusedSimpArgs false
def sel {γ:Type} (p:γ→Bool) (g:Nat→γ→Int):Nat→List γ→List Int
 | _,[]=>[]
 | i,x :: l=>bif p x then g i x :: sel p g (i+1) l else sel p g (i+1) l
theorem Zmn {γ:Type} (p:γ→Bool) (g:Nat→γ→Int):∀(l:List γ) (i:Nat),(sel p g i l).length=l.countP p
 | [],_=>rfl
 | x :: l,i=>by
  unfold sel
  have ih:=Zmn p g l (i+1)
  cases h:p x with
  | true=>simp[ih,h]
  | false=>simp[ih,h]
theorem ZnK {γ:Type} (p:γ→Bool) (g:Nat→γ→Int) (z:Int):∀(l:List γ) (i:Nat),z∈sel p g i l↔∃j x,l[j]? = some x∧p x=true∧z=g (i+j) x
 | [],i=>by simp[sel]
 | x :: l,i=>by
  have ih:=ZnK p g z l (i+1)
  have key:(∃j y,(x :: l)[j]? = some y∧p y=true∧z=g (i+j) y)↔(p x=true∧z=g i x)∨∃j y,l[j]? = some y∧p y=true∧z=g (i+1+j) y:=by
   constructor
   ·rintro ⟨j,y,h1,h2,h3⟩
    cases j with
    | zero=>left;simp at h1;subst h1;exact⟨h2,h3⟩
    | succ j=>right;exact⟨j,y,by simpa using h1,h2,by rw[h3];congr 1;omega⟩
   ·rintro (⟨h2,h3⟩ | ⟨j,y,h1,h2,h3⟩)
    ·exact⟨0,x,rfl,h2,h3⟩
    ·exact⟨j+1,y,by simpa using h1,h2,by rw[h3];congr 1;omega⟩
  rw[key]
  unfold sel
  cases h:p x with
  | true=>simp[ih]
  | false=>simp[ih]
theorem Zs8 {γ:Type} (l:List γ) (hl:l.length≤1000) (p:γ→Bool) (g:Nat→γ→Int) (step:Int×List Int→Option ((Int×List Int)⊕List Int))
  (h1:∀i x s,i<l.length→l[i]? = some x→step ((i:Int),s)=(bif p x then (bif Nat.ble (s.length+1) lim then some (.inl (((i+1:Nat):Int),s++[g i x])) else none) else some (.inl (((i+1:Nat):Int),s))))
  (h2:∀s,step ((l.length:Int),s)=some (.inr s)) (s:List Int) (hs:s.length≤1000000):lp step (0,s)=some (s++sel p g 0 l):=by
 have key:=Zqs l step (fun i s=>((i:Int),s)) (fun i x s=>bif p x then (bif Nat.ble (s.length+1) lim then some (.inl (s++[g i x])) else none) else some (.inl s)) (fun s=>some s) (fun i x s hi hx=>by
   rw[h1 i x s hi hx]
   cases p x<;>cases Nat.ble (s.length+1) lim<;>rfl) (fun s=>h2 s) s
 refine(key:lp step (0,s)=_).trans ?_
 have:∀(l:List γ) (i:Nat) (s:List Int),s.length+l.length≤1001000→ZmR (fun i x s=>bif p x then (bif Nat.ble (s.length+1) lim then some (Sum.inl (s++[g i x])) else (none:Option (List Int⊕List Int))) else some (.inl s)) (fun s=>some s) i l s=some (s++sel p g i l):=by
  intro l
  induction l with
  | nil=>intro i s _;simp[ZmR,sel]
  | cons x l ih=>
   intro i s hb
   rw[List.length_cons] at hb
   unfold ZmR sel
   cases p x with
   | true=>
    rw[Zgr (show s.length+1≤1073741824 by omega)]
    simp only[cond_true]
    rw[ih (i+1) (s++[g i x]) (by rw[List.length_append,List.length_singleton];omega)]
    simp
   | false=>
    simp only[cond_false]
    rw[ih (i+1) s (by omega)]
 exact this l 0 s (by omega)
theorem Zow (k:Int→Int):∀(l m:List Int),l.Pairwise (fun x y=>k x<k y)→m.Pairwise (fun x y=>k x<k y)→(∀z,z∈l↔z∈m)→l=m
 | [],[],_,_,_=>rfl
 | [],y :: m,_,_,h=>absurd ((h y).2 (by simp)) (by simp)
 | x :: l,[],_,_,h=>absurd ((h x).1 (by simp)) (by simp)
 | x :: l,y :: m,h1,h2,h=>by
  rw[List.pairwise_cons] at h1 h2
  have hxy:x=y:=by
   rcases List.mem_cons.1 ((h x).1 (by simp)) with e | e
   ·exact e
   ·rcases List.mem_cons.1 ((h y).2 (by simp)) with e2 | e2
    ·exact e2.symm
    ·have:=h2.1 _ e
     have:=h1.1 _ e2
     omega
  subst hxy
  congr 1
  refine Zow k l m h1.2 h2.2 fun z=>?_
  constructor
  ·intro hz
   rcases List.mem_cons.1 ((h z).1 (by simp[hz])) with e | e
   ·subst e
    have:=h1.1 _ hz
    omega
   ·exact e
  ·intro hz
   rcases List.mem_cons.1 ((h z).2 (by simp[hz])) with e | e
   ·subst e
    have:=h2.1 _ hz
    omega
   ·exact e
structure ZlH (d:Zj):Prop where
 w:∀p∈d.parts,1≤p.work∧p.work≤100
 e:∀x∈d.edges,two d.parts.length x.src x.dst=true
 f:∀x∈d.futures,two d.parts.length x.maker x.user=true∧1≤x.pos∧x.pos≤Zf2 d.parts x.user-1
 ne:∀(i j:Nat) (x y:Zi),i<j→d.futures[i]? = some x→d.futures[j]? = some y→¬(x.user=y.user∧x.pos=y.pos)
theorem ZqK {d:Zj} (h:ZfD d=0):ZlH d:=by
 unfold ZfD at h
 have all:Zlu d=true∧Zpg d=true∧d.parts.any ZfV=false∧ZgK (Zgh d) 0 d.edges=false∧ZgK (Zd8 d) 0 d.futures=false:=by
  revert h
  cases Zlu d<;>cases Zpg d<;>cases d.parts.any ZfV<;>cases ZgK (Zgh d) 0 d.edges<;>cases ZgK (Zd8 d) 0 d.futures<;>simp
 obtain⟨_,_,h3,h4,h5⟩:=all
 have he:∀(i:Nat) x,d.edges[i]? = some x→Zgh d i x=false:=fun i x hx=>by
  cases hb:Zgh d i x with
  | false=>rfl
  | true=>rw[(Zkd _ _ 0).2 ⟨i,x,hx,by simpa using hb⟩] at h4;cases h4
 have hf:∀(i:Nat) x,d.futures[i]? = some x→Zd8 d i x=false:=fun i x hx=>by
  cases hb:Zd8 d i x with
  | false=>rfl
  | true=>rw[(Zkd _ _ 0).2 ⟨i,x,hx,by simpa using hb⟩] at h5;cases h5
 refine⟨Zpj h3,fun x hx=>?_,fun x hx=>?_,fun i j x y hij hx hy=>?_⟩
 ·obtain⟨i,hi⟩:=List.getElem?_of_mem hx
  have:=he i x hi
  unfold Zgh at this
  simp only[Bool.or_eq_false_iff,Bool.not_eq_false'] at this
  exact this.1
 ·obtain⟨i,hi⟩:=List.getElem?_of_mem hx
  have:=hf i x hi
  unfold Zd8 Zda at this
  simp only[Bool.or_eq_false_iff,Bool.not_eq_false',Bool.and_eq_true,decide_eq_true_eq] at this
  exact⟨this.1,this.2.1.1,this.2.1.2⟩
 ·rintro ⟨h1,h2⟩
  have:=hf j y hy
  unfold Zd8 at this
  simp only[Bool.or_eq_false_iff] at this
  have h6:=List.any_eq_false.1 this.2.2 x (List.mem_of_getElem? (i:=i) (by rw[List.getElem?_take_of_lt hij];exact hx))
  unfold again at h6
  simp[h1,h2] at h6
theorem ZkR {d:Zj} (g:ZlH d) (u:Int):Zf2 d.parts u≤100:=by
 unfold Zf2
 split
 ·rename_i p hp;exact(g.w p (List.mem_of_getElem? hp)).2
 ·omega
def ZeH (fs:List Zi) (z:Int):Int:=match fs[z.toNat]? with | some f=>f.pos | none=>0
def ZnD (d:Zj) (u:Int):List Int:=sel (fun f:Zi=>f.user==u) (fun i _=>(i:Int)) 0 d.futures
theorem ZkD (d:Zj) (u z:Int):z∈ZnD d u↔∃(i:Nat) (f:Zi),d.futures[i]? = some f∧f.user=u∧z=(i:Int):=by
 unfold ZnD
 rw[ZnK]
 simp
theorem ZoZ (d:Zj) (u:Int):(ZnD d u).Pairwise (fun x y=>x<y):=by
 have:∀(l:List Zi) (i:Nat),(sel (fun f:Zi=>f.user==u) (fun i _=>(i:Int)) i l).Pairwise (fun x y=>x<y)∧∀z∈sel (fun f:Zi=>f.user==u) (fun i _=>(i:Int)) i l,(i:Int)≤z:=by
  intro l
  induction l with
  | nil=>intro i;simp[sel]
  | cons x l ih=>
   intro i
   obtain⟨h1,h2⟩:=ih (i+1)
   unfold sel
   cases x.user==u with
   | true=>
    simp only[cond_true,List.pairwise_cons,List.mem_cons]
    refine⟨⟨fun z hz=>?_,h1⟩,?_⟩
    ·have:=h2 z hz;omega
    ·rintro z (rfl | hz)
     ·exact Int.le_refl _
     ·have:=h2 z hz;omega
   | false=>
    simp only[cond_false]
    exact⟨h1,fun z hz=>by have:=h2 z hz;omega⟩
 exact(this d.futures 0).1
structure Zcu (d:Zj) (u:Int) (r:List Int):Prop where
 mem:∀z,z∈r↔∃(i:Nat) (f:Zi),d.futures[i]? = some f∧f.user=u∧z=(i:Int)
 rise:r.Pairwise (fun x y=>ZeH d.futures x<ZeH d.futures y)
theorem Zcu.eq {d:Zj}{u:Int}{r s:List Int} (h1:Zcu d u r) (h2:Zcu d u s):r=s:=Zow (ZeH d.futures) r s h1.rise h2.rise fun z=>by rw[h1.mem,h2.mem]
theorem Zrn {l:List Int}{p q:Int→Int→Prop} (h:l.Pairwise p) (hq:∀x y,x∈l→y∈l→p x y→q x y):l.Pairwise q:=by
 rw[List.pairwise_iff_getElem] at h ⊢
 exact fun i j hi hj hij=>hq _ _ (List.getElem_mem hi) (List.getElem_mem hj) (h i j hi hj hij)
theorem Zw7 {d:Zj} (g:ZlH d) {u x y:Int} (hx:∃(i:Nat) (f:Zi),d.futures[i]? = some f∧f.user=u∧x=(i:Int)) (hy:∃(i:Nat) (f:Zi),d.futures[i]? = some f∧f.user=u∧y=(i:Int)) (hne:x≠y):ZeH d.futures x≠ZeH d.futures y:=by
 obtain⟨i,f,h1,h2,rfl⟩:=hx
 obtain⟨j,e,h3,h4,rfl⟩:=hy
 intro he
 unfold ZeH at he
 rw[Int.toNat_natCast,Int.toNat_natCast,h1,h3] at he
 simp only at he
 rcases Nat.lt_trichotomy i j with h | h | h
 ·exact g.ne i j f e h h1 h3 ⟨h2.trans h4.symm,he⟩
 ·exact hne (by rw[h])
 ·exact g.ne j i e f h h3 h1 ⟨h4.trans h2.symm,he.symm⟩
theorem Zu3 {d:Zj} (g:ZlH d):Zrk (fun z0 z1=>Zt z0 z1 d.futures) (fun x y=>ZeH d.futures x-ZeH d.futures y) (fun z=>0≤z∧z.toNat<d.futures.length):=by
 intro x y hx hy
 have b:∀z:Int,z.toNat<d.futures.length→∃f,d.futures[z.toNat]? = some f∧ZeH d.futures z=f.pos∧1≤f.pos∧f.pos≤100:=fun z hz=>by
  have hm:=List.getElem_mem hz
  have:=g.f _ hm
  have hw:=ZkR g d.futures[z.toNat].user
  exact⟨d.futures[z.toNat],List.getElem?_eq_getElem hz,by unfold ZeH;rw[List.getElem?_eq_getElem hz],this.2.1,by omega⟩
 obtain⟨f,f1,f2,f3,f4⟩:=b x hx.2
 obtain⟨e,e1,e2,e3,e4⟩:=b y hy.2
 show Zt x y d.futures=some (ZeH d.futures x-ZeH d.futures y)
 unfold Zt
 rw[Zm8 hx.1 f1,Zm8 hy.1 e1]
 simp only[Option.bind_some]
 rw[f2,e2,ZcX (by omega) (by omega)]
theorem Zx1 (k:Int→Int):SWO (ltC fun x y=>k x-k y):=by
 refine⟨fun x=>?_,fun x y z h1 h2=>?_,fun x y z h1 h2=>?_⟩
 ·show decide (k x-k x<0)=false
  exact decide_eq_false (by omega)
 ·simp only[ltC,decide_eq_true_eq] at *
  omega
 ·simp only[ltC,decide_eq_false_iff_not] at *
  omega
theorem ZmJ (d:Zj) (h:ZiE d) (hf:d.futures.length≤1000) (hc:ZfD d=0) (u:Int):∃r,ZcJ d u=some r∧Zcu d u r:=by
 have g:=ZqK hc
 have key:=Zs8 d.futures hf (fun f:Zi=>f.user==u) (fun i _=>(i:Int)) (Zdi d u) (fun i x s hi hx=>by
   simp only[Zdi,ZdL hi,Zax hx,Option.bind_some,ZT hi h.f,cond_true]) (fun s=>by simp only[Zdi,Zex];rfl) [] (by simp)
 have hP:∀x∈ZnD d u,0≤x∧x.toNat<d.futures.length:=fun x hx=>by
  obtain⟨i,f,h1,h2,rfl⟩:=(ZkD d u x).1 hx
  have:=(List.getElem?_eq_some_iff.1 h1).1
  exact⟨by omega,by simpa using this⟩
 have hlen:(ZnD d u).length≤1000:=by
  unfold ZnD
  rw[Zmn]
  exact Nat.le_trans List.countP_le_length hf
 obtain⟨r,h1,h2,h3⟩:=ZzK (Zu3 g) (Zx1 _) (ZnD d u) hlen hP
 refine⟨r,?_,?_,?_⟩
 ·unfold ZcJ
  rw[Zqw d h,hc]
  simp only[Option.bind_some,bne_self_eq_false,cond_false]
  rw[key,List.nil_append,Option.bind_some]
  show(ZaM (fun z0 z1=>Zt z0 z1 d.futures) (ZnD d u)).bind _=_
  rw[h1]
  rfl
 ·exact fun z=>by rw[h2.mem_iff,ZkD]
 ·have nd:r.Pairwise (fun x y=>x≠y):=(h2.pairwise_iff (fun h=>Ne.symm h)).2 ((ZoZ d u).imp fun h=>by omega)
  refine Zrn (h3.and nd) fun x y hx hy hp=>?_
  have a:=(ZkD d u x).1 (h2.mem_iff.1 hx)
  have b:=(ZkD d u y).1 (h2.mem_iff.1 hy)
  have h4:=Zw7 g a b hp.2
  have h5:=hp.1
  simp only[ltC,decide_eq_false_iff_not] at h5
  omega
def Zjx (fs:List Zi) (z:Int):Int:=match fs[z.toNat]? with | some f=>f.maker | none=>0
def Zr1 (d:Zj) (u:Int) (r:List Int):List Int:=sel (fun e:Zm=>e.dst==u) (fun _ e=>e.src) 0 d.edges++r.map (Zjx d.futures)
theorem ZtV {γ:Type} (k:γ→Int):∀(l:List γ) (i:Nat),sel (fun _=>true) (fun _ x=>k x) i l=l.map k
 | [],_=>rfl
 | x :: l,i=>by unfold sel;rw[ZtV k l];rfl
theorem Zsu (d:Zj) (r s:List Int) (hr:r.length≤1000) (hs:s.length≤1000000) (hP:∀x∈r,0≤x∧x.toNat<d.futures.length) (step:Int×List Int→Option ((Int×List Int)⊕List Int))
  (hstep:∀t,step t=(bif (decide (t.1<(r.length:Int))) then (ZE r t.1).bind fun x6=>(ZE d.futures x6).bind fun x7=>bif (Nat.ble (List.length t.2+1) lim) then some (.inl ((w64 (t.1+1)),(t.2++[x7.maker]))) else none else some (.inr t.2))) :
  lp step (0,s)=some (s++r.map (Zjx d.futures)):=by
 rw[← ZtV (Zjx d.futures) r 0]
 refine Zs8 r hr (fun _=>true) (fun _ x=>Zjx d.futures x) step (fun i x s hi hx=>?_) (fun s=>?_) s hs
 ·obtain⟨p1,p2⟩:=hP x (List.mem_of_getElem? hx)
  rw[hstep]
  have hm:Zjx d.futures x=d.futures[x.toNat].maker:=by unfold Zjx;rw[List.getElem?_eq_getElem p2]
  simp only[ZdL hi,Zax hx,Option.bind_some,ZT hi (show r.length<9223372036854775808 by omega),cond_true,Zue p1 p2,hm]
 ·rw[hstep]
  simp only[Zex,cond_false]
theorem ZwK {d:Zj}{u:Int}{r:List Int} (h:Zcu d u r):∀x∈r,0≤x∧x.toNat<d.futures.length:=fun x hx=>by
 obtain⟨i,f,h1,h2,rfl⟩:=(h.mem x).1 hx
 have:=(List.getElem?_eq_some_iff.1 h1).1
 exact⟨by omega,by simpa using this⟩
theorem ZpD {d:Zj}{u:Int}{r:List Int} (h:Zcu d u r):r.length=(ZnD d u).length:=by
 have nd1:r.Nodup:=h.rise.imp fun hp he=>by rw[he] at hp;omega
 have nd2:(ZnD d u).Nodup:=(ZoZ d u).imp fun hp he=>by omega
 exact((List.perm_ext_iff_of_nodup nd1 nd2).2 fun z=>by rw[h.mem,ZkD]).length_eq
theorem Zkr {d:Zj}{u:Int}{r:List Int} (h:Zcu d u r):r.length≤d.futures.length:=by
 rw[ZpD h]
 unfold ZnD
 rw[Zmn]
 exact List.countP_le_length
theorem ZuT (d:Zj) (he:d.edges.length≤1000) (u:Int) (step:Int×List Int→Option ((Int×List Int)⊕List Int))
  (hstep:∀t,step t=(bif (decide (t.1<(d.edges.length:Int))) then (ZE d.edges t.1).bind fun x2=>bif (x2.dst==u) then bif (Nat.ble (List.length t.2+1) lim) then some (.inl ((w64 (t.1+1)),(t.2++[x2.src]))) else none else some (.inl ((w64 (t.1+1)),t.2)) else some (.inr t.2))) :
  lp step (0,[])=some (sel (fun e:Zm=>e.dst==u) (fun _ e=>e.src) 0 d.edges):=by
 have key:=Zs8 d.edges he (fun e:Zm=>e.dst==u) (fun _ e=>e.src) step (fun i x s hi hx=>by
   rw[hstep]
   simp only[ZdL hi,Zax hx,Option.bind_some,ZT hi (show d.edges.length<9223372036854775808 by omega),cond_true]) (fun s=>by rw[hstep];simp only[Zex,cond_false]) [] (by simp)
 rwa [List.nil_append] at key
theorem ZpM {γ:Type} (p:γ→Bool) (g:Nat→γ→Int) (l:List γ) (i:Nat):(sel p g i l).length≤l.length:=by rw[Zmn];exact List.countP_le_length
end Go.Proofs.YtnmbdjkbaihicaaDoor
namespace Go.Proofs.YtnmbdjkbaihicaaDoor
open Go Go.Proofs.YtnmbdjkbaihicaaDoorE Go.Sort
set_option linter.unusedVariables false
set_option linter.unusedSimpArgs false
theorem ZxV (d:Zj) (h:ZiE d) (he:d.edges.length≤1000) (hf:d.futures.length≤1000) (hc:ZfD d=0) (u:Int) {r:List Int} (hr:Zcu d u r):Zfv d u=some (Zr1 d u r):=by
 obtain⟨r',h1,h2⟩:=ZmJ d h hf hc u
 have:=h2.eq hr
 subst this
 have k1:=ZuT d he u (ZfT d u) (fun t=>rfl)
 have k2:=Zsu d r' (sel (fun e:Zm=>e.dst==u) (fun _ e=>e.src) 0 d.edges) (Nat.le_trans (Zkr h2) hf) (Nat.le_trans (ZpM _ _ _ _) (by omega)) (ZwK h2) (ZfU d r') (fun t=>rfl)
 unfold Zfv Zr1
 rw[Zqw d h,hc]
 simp only[Option.bind_some,bne_self_eq_false,cond_false,k1,h1,k2]
end Go.Proofs.YtnmbdjkbaihicaaDoor
namespace Go.Proofs.YtnmbdjkbaihicaaDoor
open Go Go.Proofs.YtnmbdjkbaihicaaDoorE
set_option linter.unusedVariables false
set_option linter.unusedSimpArgs false
structure Zc9 (d:Zj):Prop where
 g:ZlH d
 ins:∀b∈d.barriers,∀q∈b.ins,0≤q∧q.toNat<d.parts.length
 outs:∀b∈d.barriers,∀q∈b.outs,0≤q∧q.toNat<d.parts.length
 disj:∀b∈d.barriers,∀q∈b.ins,q∉b.outs
 pl:d.parts.length≤16
 el:d.edges.length≤48
 fl:d.futures.length≤16
 bl:d.barriers.length≤4
 p1:1≤d.parts.length
 arg:∀p∈d.parts,0≤p.arg∧p.arg≤2147483647
theorem Zvh {n:Nat}{l:List Int} (h:Zlg n l=true):∀q∈l,0≤q∧q.toNat<n:=by
 intro q hq
 unfold Zlg at h
 simp only[Bool.and_eq_true,Bool.not_eq_true'] at h
 obtain⟨i,hi⟩:=List.getElem?_of_mem hq
 have:ZpS n l i q=false:=by
  cases hb:ZpS n l i q with
  | false=>rfl
  | true=>rw[(Zkd _ _ 0).2 ⟨i,q,hi,by simpa using hb⟩] at h;exact absurd h.1 (by simp)
 unfold ZpS Zda at this
 simp only[Bool.or_eq_false_iff,Bool.not_eq_false',Bool.and_eq_true,decide_eq_true_eq] at this
 omega
theorem Zl2 {d:Zj} (h:ZfD d=0):Zc9 d:=by
 have g:=ZqK h
 unfold ZfD at h
 have all:Zlu d=true∧d.barriers.any (Zfg d.parts.length)=false∧d.parts.any ZfV=false:=by
  revert h
  cases Zlu d<;>cases Zpg d<;>cases d.parts.any ZfV<;>cases ZgK (Zgh d) 0 d.edges<;>cases ZgK (Zd8 d) 0 d.futures<;>cases d.barriers.any (Zfg d.parts.length)<;>simp
 have hb:∀b∈d.barriers,Zlg d.parts.length b.ins=true∧Zlg d.parts.length b.outs=true∧b.ins.any (Zph b)=false:=fun b hb=>by
  have:=List.any_eq_false.1 all.2.1 b hb
  simp only[Zfg,Bool.or_eq_true,Bool.not_eq_true',not_or,Bool.not_eq_false,Bool.not_eq_true] at this
  exact this
 have m:=all.1
 unfold Zlu Zda at m
 simp only[Bool.and_eq_true,decide_eq_true_eq,Bool.not_eq_true',decide_eq_false_iff_not] at m
 refine⟨g,fun b h1=>Zvh (hb b h1).1,fun b h1=>Zvh (hb b h1).2.1,fun b h1 q h2 h3=>?_,by omega,by omega,by omega,by omega,by omega,fun p hp=>?_⟩
 case refine_2=>
  have:=List.any_eq_false.1 all.2.2 p hp
  simp only[ZfV,Zda,Bool.not_eq_true,Bool.not_eq_false',Bool.and_eq_true,decide_eq_true_eq] at this
  exact this.2.1
 have:=List.any_eq_false.1 (hb b h1).2.2 q h2
 unfold Zph at this
 exact this (List.any_eq_true.2 ⟨q,h3,by simp⟩)
def inR (d:Zj) (p:Int):Prop:=0≤p∧p.toNat<d.parts.length
theorem Zc9.src {d:Zj} (g:Zc9 d) {e:Zm} (h:e∈d.edges):inR d e.src:=(ZoQ (g.g.e e h)).1
theorem Zc9.dst {d:Zj} (g:Zc9 d) {e:Zm} (h:e∈d.edges):inR d e.dst:=(ZoQ (g.g.e e h)).2.1
theorem Zc9.maker {d:Zj} (g:Zc9 d) {f:Zi} (h:f∈d.futures):inR d f.maker:=(ZoQ (g.g.f f h).1).1
theorem Zc9.user {d:Zj} (g:Zc9 d) {f:Zi} (h:f∈d.futures):inR d f.user:=(ZoQ (g.g.f f h).1).2.1
theorem Zc9.short {d:Zj} (g:Zc9 d) (hs:∀b∈d.barriers,ZyB b):ZiE d:=⟨by have:=g.pl;omega,by have:=g.el;omega,by have:=g.fl;omega,by have:=g.bl;omega,hs⟩
end Go.Proofs.YtnmbdjkbaihicaaDoor
namespace Go.Proofs.YtnmbdjkbaihicaaDoor
open Go Go.Proofs.YtnmbdjkbaihicaaDoorE
set_option linter.unusedVariables false
set_option linter.unusedSimpArgs false
def pick (p:Nat→Bool) (n:Nat):List Int:=((List.range n).filter p).map fun i:Nat=>(i:Int)
theorem Zh7 {p:Nat→Bool}{n:Nat}{z:Int}:z∈pick p n↔∃i:Nat,i<n∧p i=true∧z=(i:Int):=by
 unfold pick
 simp only[List.mem_map,List.mem_filter,List.mem_range]
 constructor
 ·rintro ⟨i,⟨h1,h2⟩,rfl⟩;exact⟨i,h1,h2,rfl⟩
 ·rintro ⟨i,h1,h2,rfl⟩;exact⟨i,⟨h1,h2⟩,rfl⟩
theorem ZgW (p:Nat→Bool) (n:Nat):(pick p n).length≤n:=by
 unfold pick
 rw[List.length_map]
 exact Nat.le_trans (List.length_filter_le _ _) (by simp)
theorem ZuF (p:Nat→Bool) (n:Nat):pick p (n+1)=pick p n++(bif p n then [(n:Int)] else []):=by
 unfold pick
 rw[List.range_succ,List.filter_append,List.map_append]
 cases h:p n<;>simp[h]
theorem Zyw {γ:Type} (l:List γ) (hl:l.length≤1000) (p:Nat→Bool) (step:Int×List Int→Option ((Int×List Int)⊕List Int))
  (h1:∀i (s:List Int),i<l.length→step ((i:Int),s)=bif p i then (bif Nat.ble (s.length+1) lim then some (.inl (((i+1:Nat):Int),s++[(i:Int)])) else none) else some (.inl (((i+1:Nat):Int),s)))
  (h2:∀s,step ((l.length:Int),s)=some (.inr s)):lp step (0,[])=some (pick p l.length):=by
 have key:∀k i:Nat,i+k=l.length→lp step ((i:Int),pick p i)=some (pick p l.length):=by
  intro k
  induction k with
  | zero=>
   intro i hi
   have:i=l.length:=by omega
   subst this
   rw[Za7,h2]
  | succ k ih=>
   intro i hi
   have ih':=ih (i+1) (by omega)
   rw[ZuF] at ih'
   have hb:=ZgW p i
   rw[Za7,h1 i _ (by omega)]
   cases hp:p i with
   | true=>
    rw[hp] at ih'
    rw[Zgr (show(pick p i).length+1≤1073741824 by omega)]
    exact ih'
   | false=>
    rw[hp] at ih'
    simp only[cond_false,List.append_nil] at ih' ⊢
    exact ih'
 exact key l.length 0 (by omega)
noncomputable def ZgC (d:Zj) (u:Int):List Int:=@dite _ (∃r,Zcu d u r) (Classical.propDecidable _) (fun h=>Classical.choose h) fun _=>[]
theorem ZqW {d:Zj}{u:Int}{r:List Int} (h:Zcu d u r):ZgC d u=r:=by
 unfold ZgC
 rw[dif_pos ⟨r,h⟩]
 exact(Classical.choose_spec (⟨r,h⟩:∃r,Zcu d u r)).eq h
noncomputable def Zfx (d:Zj) (u:Int):List Int:=Zr1 d u (ZgC d u)
theorem Zva (d:Zj) (h:ZiE d) (hc:ZfD d=0) (u:Int):Zfv d u=some (Zfx d u)∧Zcu d u (ZgC d u):=by
 have g:=Zl2 hc
 obtain⟨r,h1,h2⟩:=ZmJ d h (by have:=g.fl;omega) hc u
 have:=ZxV d h (by have:=g.el;omega) (by have:=g.fl;omega) hc u h2
 unfold Zfx
 rw[ZqW h2]
 exact⟨this,h2⟩
theorem ZrO {d:Zj} (g:Zc9 d) {u:Int} (ht:Zcu d u (ZgC d u)) {q:Int} (hq:q∈Zfx d u):(∃e∈d.edges,e.dst=u∧q=e.src)∨(∃f∈d.futures,f.user=u∧q=f.maker):=by
 unfold Zfx Zr1 at hq
 rcases List.mem_append.1 hq with h | h
 ·obtain⟨j,x,h1,h2,h3⟩:=(ZnK _ _ _ _ _).1 h
  exact .inl ⟨x,List.mem_of_getElem? h1,by simpa using h2,h3⟩
 ·obtain⟨z,h1,rfl⟩:=List.mem_map.1 h
  obtain⟨i,f,h2,h3,rfl⟩:=(ht.mem z).1 h1
  refine .inr ⟨f,List.mem_of_getElem? h2,h3,?_⟩
  unfold Zjx
  rw[Int.toNat_natCast,h2]
theorem Ztb {d:Zj} (g:Zc9 d) {u:Int} (ht:Zcu d u (ZgC d u)) {q:Int} (hq:q∈Zfx d u):inR d q:=by
 rcases ZrO g ht hq with⟨e,h1,_,rfl⟩ | ⟨f,h1,_,rfl⟩
 ·exact g.src h1
 ·exact g.maker h1
theorem Zsl {d:Zj} (g:Zc9 d) {u:Int} (ht:Zcu d u (ZgC d u)):(Zfx d u).length≤1000:=by
 unfold Zfx Zr1
 rw[List.length_append,List.length_map]
 have h1:=ZpM (fun e:Zm=>e.dst==u) (fun _ e=>e.src) d.edges 0
 have h2:=Zkr ht
 have:=g.el;have:=g.fl
 omega
def Zo7 (d:Zj) (p:Int):ZV:=match d.parts[p.toNat]? with | some x=>x | none=>⟨0,0,0⟩
theorem Zye {l:List Int} (h1:0<l.length) (h2:l.length≤1000):Zcg l=some ():=by
 unfold Zcg
 rw[show Nat.blt 0 l.length=true by simp[Nat.blt];omega,Zgr (show l.length≤1073741824 by omega)]
 rfl
theorem Zvd {γ:Type} (l:List γ) (hl:l.length<9223372036854775808) (step:Bool×Int→Option ((Bool×Int)⊕(Unit⊕Unit))) (q:γ→Bool)
  (h1:∀i:Nat,i<l.length→step (true,(i:Int))=some (.inl (true,((i+1:Nat):Int)))) (h2:∀(i:Nat) x,i<l.length→l[i]? = some x→step (false,(i:Int))=some (.inl (q x,((i+1:Nat):Int))))
  (h3:step (true,(l.length:Int))=some (.inr (.inl ()))) (h4:step (false,(l.length:Int))=some (.inr (.inr ()))):lp step (false,0)=some (bif l.any q then .inl () else .inr ()):=by
 have key:∀k i:Nat,i+k=l.length→∀b:Bool,lp step (b,(i:Int))=some (bif b || (l.drop i).any q then .inl () else .inr ()):=by
  intro k
  induction k with
  | zero=>
   intro i hi b
   have:i=l.length:=by omega
   subst this
   rw[Za7,List.drop_length]
   cases b
   ·rw[h4];rfl
   ·rw[h3];rfl
  | succ k ih=>
   intro i hi b
   have hi':i<l.length:=by omega
   rw[Za7,List.drop_eq_getElem_cons hi',List.any_cons]
   cases b with
   | true=>rw[h1 i hi'];dsimp only;rw[ih (i+1) (by omega)];rfl
   | false=>rw[h2 i l[i] hi' (List.getElem?_eq_getElem hi')];dsimp only;rw[ih (i+1) (by omega)];rfl
 have:=key l.length 0 (by omega) false
 rw[List.drop_zero] at this
 exact this
end Go.Proofs.YtnmbdjkbaihicaaDoor
namespace Go.Proofs.YtnmbdjkbaihicaaDoor
open Go Go.Proofs.YtnmbdjkbaihicaaDoorE
set_option linter.unusedVariables false
set_option linter.unusedSimpArgs false
def Zka (n:Nat) (x:Int):Bool:=decide (0≤x)&&decide (x<(n:Int))
end Go.Proofs.YtnmbdjkbaihicaaDoor
namespace Go.Proofs.YtnmbdjkbaihicaaDoor
open Go Go.Proofs.YtnmbdjkbaihicaaDoorE
set_option linter.unusedVariables false
set_option linter.unusedSimpArgs false
theorem ZvA {γ:Type} (p:γ→Bool):∀(l:List γ) (i:Nat),(sel p (fun i _=>(i:Int)) i l).Pairwise (fun x y=>x<y)∧∀z∈sel p (fun i _=>(i:Int)) i l,(i:Int)≤z:=by
 intro l
 induction l with
 | nil=>intro i;simp[sel]
 | cons x l ih=>
  intro i
  obtain⟨h1,h2⟩:=ih (i+1)
  unfold sel
  cases p x with
  | true=>
   simp only[cond_true,List.pairwise_cons,List.mem_cons]
   refine⟨⟨fun z hz=>?_,h1⟩,?_⟩
   ·have:=h2 z hz;omega
   ·rintro z (rfl | hz)
    ·exact Int.le_refl _
    ·have:=h2 z hz;omega
  | false=>
   simp only[cond_false]
   exact⟨h1,fun z hz=>by have:=h2 z hz;omega⟩
def Znm (d:Zj) (u:Int) (t:Int):List Int:=sel (fun f:Zi=>f.user==u&&f.pos==t) (fun i _=>(i:Int)) 0 d.futures
theorem ZmG (d:Zj) (u t z:Int):z∈Znm d u t↔∃(i:Nat) (f:Zi),d.futures[i]? = some f∧f.user=u∧f.pos=t∧z=(i:Int):=by
 unfold Znm
 rw[ZnK]
 simp[and_assoc]
theorem ZkP {d:Zj}{u t z:Int} (h:z∈Znm d u t):ZeH d.futures z=t:=by
 obtain⟨i,f,h1,_,h3,rfl⟩:=(ZmG d u t z).1 h
 unfold ZeH
 rw[Int.toNat_natCast,h1,← h3]
theorem ZoI {d:Zj}{u t z:Int} (h:z∈Znm d u t):∃(i:Nat) (f:Zi),d.futures[i]? = some f∧f.user=u∧z=(i:Int):=by
 obtain⟨i,f,h1,h2,_,h4⟩:=(ZmG d u t z).1 h
 exact⟨i,f,h1,h2,h4⟩
def tl (d:Zj) (u:Int):Nat→Nat→List Int
 | _,0=>[]
 | i,k+1=>Znm d u ((i+1:Nat):Int)++tl d u (i+1) k
theorem ZsO (d:Zj) (u z:Int):∀(k i:Nat),z∈tl d u i k↔∃t:Nat,i<t∧t≤i+k∧z∈Znm d u (t:Int)
 | 0,i=>by
  unfold tl
  constructor
  ·intro h;cases h
  ·rintro ⟨t,h1,h2,_⟩;omega
 | k+1,i=>by
  unfold tl
  rw[List.mem_append,ZsO d u z k (i+1)]
  constructor
  ·rintro (h | ⟨t,h1,h2,h3⟩)
   ·exact⟨i+1,by omega,by omega,h⟩
   ·exact⟨t,by omega,by omega,h3⟩
  ·rintro ⟨t,h1,h2,h3⟩
   by_cases h:t=i+1
   ·subst h;exact .inl h3
   ·exact .inr ⟨t,by omega,by omega,h3⟩
theorem Zub {d:Zj} (g:ZlH d) (u:Int):∀(k i:Nat),(tl d u i k).Pairwise (fun x y=>ZeH d.futures x<ZeH d.futures y)
 | 0,i=>List.Pairwise.nil
 | k+1,i=>by
  unfold tl
  rw[List.pairwise_append]
  refine⟨?_,Zub g u k (i+1),fun x hx y hy=>?_⟩
  ·refine Zrn (ZvA _ _ _).1 fun x y hx hy hlt=>?_
   have hx':x∈Znm d u ((i+1:Nat):Int):=hx
   have hy':y∈Znm d u ((i+1:Nat):Int):=hy
   exact absurd ((ZkP hx').trans (ZkP hy').symm) (Zw7 g (ZoI hx') (ZoI hy') (by omega))
  ·obtain⟨t,h1,h2,h3⟩:=(ZsO d u y k (i+1)).1 hy
   rw[ZkP hx,ZkP h3]
   omega
theorem Zta {d:Zj} (g:ZlH d) (u:Int):Zcu d u (tl d u 0 99):=by
 refine⟨fun z=>?_,Zub g u 99 0⟩
 rw[ZsO]
 constructor
 ·rintro ⟨t,_,_,h⟩;exact ZoI h
 ·rintro ⟨i,f,h1,h2,h3⟩
  have hf:=g.f f (List.mem_of_getElem? h1)
  have hw:=ZkR g f.user
  refine⟨f.pos.toNat,by omega,by omega,?_⟩
  rw[ZmG]
  exact⟨i,f,h1,h2,by omega,h3⟩
end Go.Proofs.YtnmbdjkbaihicaaDoor
namespace Go.Proofs.YtnmbdjkbaihicaaDoor
open Go Go.Proofs.YtnmbdjkbaihicaaDoorE
set_option linter.unusedVariables false
set_option linter.unusedSimpArgs false
def Znq {γ S:Type} (f:Nat→S→γ→S):Nat→S→List γ→S
 | _,s,[]=>s
 | i,s,x :: l=>Znq f (i+1) (f i s x) l
theorem ZvM {γ S T R:Type} (l:List γ) (step:T→Option (T⊕R)) (st:Nat→S→T) (f:Nat→S→γ→S) (fin:S→R) (I:Nat→S→Prop)
  (h1:∀i x s,i<l.length→l[i]? = some x→I i s→step (st i s)=some (.inl (st (i+1) (f i s x)))∧I (i+1) (f i s x))
  (h2:∀s,I l.length s→step (st l.length s)=some (.inr (fin s))) (s:S) (h0:I 0 s) :
  lp step (st 0 s)=some (fin (Znq f 0 s l))∧I l.length (Znq f 0 s l):=by
 have key:∀(k i:Nat) (s:S),i+k=l.length→I i s→lp step (st i s)=some (fin (Znq f i s (l.drop i)))∧I l.length (Znq f i s (l.drop i)):=by
  intro k
  induction k with
  | zero=>
   intro i s hi hI
   have:i=l.length:=by omega
   subst this
   rw[List.drop_length,Za7,h2 s hI]
   exact⟨rfl,hI⟩
  | succ k ih=>
   intro i s hi hI
   have hi':i<l.length:=by omega
   obtain⟨e,hI'⟩:=h1 i l[i] s hi' (List.getElem?_eq_getElem hi') hI
   rw[List.drop_eq_getElem_cons hi',Za7,e]
   exact ih (i+1) _ (by omega) hI'
 have:=key l.length 0 s (by omega) h0
 rwa [List.drop_zero] at this
def Zhv (w:Int):Bool:=decide (w<0) || decide (1000<w)
def Znz (g:Zcp) (i:Nat) (e:Zm):Bool:=!(Zka g.work.length e.src) || (!(Zka g.work.length e.dst) || ((e.src==e.dst) || (g.edges.take i).any (Zn9 e)))
def Zkz (g:Zcp):Int:=bif decide (64<(g.work.length:Int)) || decide (256<(g.edges.length:Int)) then 40 else bif g.work.any Zhv then 41 else bif ZgK (Znz g) 0 g.edges then 42 else 0
structure Zq2 (g:Zcp):Prop where
 w:g.work.length<9223372036854775808
 e:g.edges.length<9223372036854775808
theorem Zvq (w:Int):Zc3 w=some (Zhv w):=by
 unfold Zc3 Zhv
 cases decide (w<0)<;>cases decide (1000<w)<;>rfl
theorem ZwY (a:Int) (l:List Int):ZeZ a l=some (Zka l.length a):=by
 unfold ZeZ Zka
 cases decide (0≤a)<;>cases decide (a<(l.length:Int))<;>rfl
theorem Zsv (g:Zcp) (h:Zq2 g):lp (Zd1 g) 0=some (bif ZgK (Znz g) 0 g.edges then .inl () else .inr ()):=by
 have key:=ZgM g.edges (Zd1 g) (Znz g) (fun _ _=>.inl ()) (.inr ()) (fun i x hi hx=>by
   have e0:decide ((0:Int)≤(i:Int))=true:=decide_eq_true (by omega)
   have e1:Nat.ble i g.edges.length=true:=Nat.ble_eq_true_of_le (by omega)
   simp only[Zd1,ZdL hi,Zax hx,Option.bind_some,ZT hi h.e,cond_true,ZwY,Znz,e0,Int.toNat_natCast,e1,Zqk _ x (Zlz h.e)]
   cases Zka g.work.length x.src<;>cases Zka g.work.length x.dst<;>cases (x.src==x.dst)<;>cases (g.edges.take i).any (Zn9 x)<;>rfl) (by simp only[Zd1,Zex];rfl)
 rw[key,ZeN]
inductive Way (g:Zcp):Int→Int→Prop
 | one {e:Zm}:e∈g.edges→Way g e.src e.dst
 | more {a:Int} {e:Zm}:Way g a e.src→e∈g.edges→Way g a e.dst
theorem Way.trans {g:Zcp}{a b c:Int} (h1:Way g a b) (h2:Way g b c):Way g a c:=by
 induction h2 with
 | one he=>exact Way.more h1 he
 | more _ he ih=>exact Way.more (ih h1) he
def Zn5 (g:Zcp):Prop:=∀a,¬Way g a a
structure ZgY (g:Zcp):Prop where
 wl:g.work.length≤64
 el:g.edges.length≤256
 w:∀x∈g.work,0≤x∧x≤1000
 src:∀e∈g.edges,0≤e.src∧e.src.toNat<g.work.length
 dst:∀e∈g.edges,0≤e.dst∧e.dst.toNat<g.work.length
theorem ZgY.short {g:Zcp} (h:ZgY g):Zq2 g:=⟨by have:=h.wl;omega,by have:=h.el;omega⟩
theorem Zp0 {n:Nat}{a:Int} (h:Zka n a=true):0≤a∧a.toNat<n:=by
 unfold Zka at h
 simp only[Bool.and_eq_true,decide_eq_true_eq] at h
 omega
theorem Zru {g:Zcp} (h:Zkz g=0):ZgY g:=by
 unfold Zkz at h
 cases h1:decide (64<(g.work.length:Int)) with
 | true=>rw[h1] at h;simp at h
 | false=>
 cases h2:decide (256<(g.edges.length:Int)) with
 | true=>rw[h1,h2] at h;simp at h
 | false=>
 cases h3:g.work.any Zhv with
 | true=>rw[h1,h2,h3] at h;simp at h
 | false=>
 cases h4:ZgK (Znz g) 0 g.edges with
 | true=>rw[h1,h2,h3,h4] at h;simp at h
 | false=>
 have hE:∀e∈g.edges,∃i,Znz g i e=false:=fun e he=>by
  obtain⟨i,hi⟩:=List.getElem?_of_mem he
  refine⟨i,?_⟩
  cases hb:Znz g i e with
  | false=>rfl
  | true=>rw[(Zkd _ _ 0).2 ⟨i,e,hi,by simpa using hb⟩] at h4;cases h4
 refine⟨by have:=of_decide_eq_false h1;omega,by have:=of_decide_eq_false h2;omega,fun x hx=>?_,fun e he=>?_,fun e he=>?_⟩
 ·have:=List.any_eq_false.1 h3 x hx
  unfold Zhv at this
  simp only[Bool.or_eq_true,decide_eq_true_eq,not_or] at this
  omega
 ·obtain⟨i,hi⟩:=hE e he
  unfold Znz at hi
  simp only[Bool.or_eq_false_iff,Bool.not_eq_false'] at hi
  exact Zp0 hi.1
 ·obtain⟨i,hi⟩:=hE e he
  unfold Znz at hi
  simp only[Bool.or_eq_false_iff,Bool.not_eq_false'] at hi
  exact Zp0 hi.2.1
theorem Way.src_in {g:Zcp} (h:ZgY g) {a b:Int} (w:Way g a b):0≤a∧a.toNat<g.work.length:=by
 induction w with
 | one he=>exact h.src _ he
 | more _ _ ih=>exact ih
theorem ZrP {g:Zcp} (hg:Zn5 g):∀(n:Nat) (S:List Int),S.length≤n→S≠[]→∃m∈S,∀e∈g.edges,e.dst=m→e.src∉S:=by
 intro n
 induction n with
 | zero=>intro S h1 h2;exact absurd (List.length_eq_zero_iff.1 (by omega)) h2
 | succ n ih=>
  intro S h1 h2
  obtain⟨m,hm⟩:=List.exists_mem_of_ne_nil S h2
  classical
  by_cases hS:(S.filter fun x=>decide (Way g x m))=[]
  ·refine⟨m,hm,fun e he hd hs=>?_⟩
   have:e.src∈S.filter fun x=>decide (Way g x m):=List.mem_filter.2 ⟨hs,decide_eq_true (hd ▸ Way.one he)⟩
   rw[hS] at this
   cases this
  ·have hlt:(S.filter fun x=>decide (Way g x m)).length<S.length:=by
    refine Nat.lt_of_le_of_ne (List.length_filter_le _ _) fun he=>?_
    have:=List.length_filter_eq_length_iff.1 he m hm
    exact hg m (of_decide_eq_true this)
   obtain⟨k,hk,hk2⟩:=ih _ (by omega) hS
   obtain⟨k1,k2⟩:=List.mem_filter.1 hk
   refine⟨k,k1,fun e he hd hs=>hk2 e he hd (List.mem_filter.2 ⟨hs,decide_eq_true ?_⟩)⟩
   exact(hd ▸ Way.one he:Way g e.src k).trans (of_decide_eq_true k2)
def bAt (l:List Bool) (z:Int):Bool:=match l[z.toNat]? with | some b=>b | none=>false
def Zf3 (g:Zcp) (done:List Bool) (i:Nat):Bool:=!(bAt done (i:Int)) && !(g.edges.any fun e=>(e.dst==(i:Int)) && !(bAt done e.src))
def Znf (g:Zcp) (done:List Bool):Option Nat:=ZhD (fun i _=>Zf3 g done i) (fun i _=>some i) none 0 g.work
def ZmB (g:Zcp):Nat→List Int→List Bool→Option (List Int)
 | 0,out,_=>some out
 | k+1,out,done=>(match Znf g done with | some i=>ZmB g k (out++[(i:Int)]) (done.set i true) | none=>none)
theorem ZrL {γ R S:Type} (p:Nat→γ→Bool) (out:Nat→γ→R) (fin:R) (F:R→S):∀(l:List γ) (i:Nat),F (ZhD p out fin i l)=ZhD p (fun i x=>F (out i x)) (F fin) i l
 | [],i=>rfl
 | x :: l,i=>by
  unfold ZhD
  cases p i x with
  | true=>rfl
  | false=>exact ZrL p out fin F l (i+1)
theorem Zqi {γ:Type} (p:Nat→γ→Bool):∀(l:List γ) (i k:Nat),ZhD p (fun i _=>some i) none i l=some k→i≤k∧k<i+l.length∧∃x,l[k-i]? = some x∧p k x=true
 | [],i,k,h=>by cases h
 | x :: l,i,k,h=>by
  unfold ZhD at h
  cases hp:p i x with
  | true=>
   rw[hp] at h
   cases h
   exact⟨Nat.le_refl _,by simp,x,by simp,hp⟩
  | false=>
   rw[hp] at h
   obtain⟨h1,h2,y,h3,h4⟩:=Zqi p l (i+1) k h
   refine⟨by omega,by simp only[List.length_cons];omega,y,?_,h4⟩
   rw[show k-i=(k-(i+1))+1 by omega]
   exact h3
theorem ZpP {γ:Type} (p:Nat→γ→Bool):∀(l:List γ) (i:Nat),ZhD p (fun i _=>some i) none i l=none→∀(j:Nat) x,l[j]? = some x→p (i+j) x=false
 | [],i,h,j,x,hx=>by cases hx
 | y :: l,i,h,j,x,hx=>by
  unfold ZhD at h
  cases hp:p i y with
  | true=>rw[hp] at h;cases h
  | false=>
   rw[hp] at h
   cases j with
   | zero=>cases hx;exact hp
   | succ j=>
    have:=ZpP p l (i+1) h j x hx
    rwa [show i+1+j=i+(j+1) by omega] at this
theorem Zik {g:Zcp}{done:List Bool} (hd:done.length=g.work.length) {z:Int} (h:0≤z∧z.toNat<g.work.length):ZE done z=some (bAt done z):=by
 have e:=List.getElem?_eq_getElem (show z.toNat<done.length by rw[hd];exact h.2)
 rw[Zm8 h.1 e]
 unfold bAt
 rw[e]
theorem ZzL {g:Zcp} (h:ZgY g) (out:List Int) (ho:out.length<g.work.length) (done:List Bool) (hd:done.length=g.work.length) :
  lp (ZdN g (out,done)) 0=some (match Znf g done with | some i=>.inl (out++[(i:Int)],done.set i true) | none=>.inr ()):=by
 have key:=ZgM g.work (ZdN g (out,done)) (fun i _=>Zf3 g done i) (fun i _=>.inl (out++[(i:Int)],done.set i true)) (.inr ()) (fun i x hi hx=>by
   have inner:=ZgM g.edges (ZeD g (out,done) (i:Int)) (fun _ e=>(e.dst==(i:Int)) && !(bAt done e.src)) (fun _ _=>.inl ()) (.inr ()) (fun k e hk he=>by
     simp only[ZeD,ZdL hk,Zax he,Option.bind_some,ZT hk h.short.e,cond_true,Zik hd (h.src e (List.mem_of_getElem? he))]
     cases (e.dst==(i:Int))<;>cases bAt done e.src<;>rfl) (by simp only[ZeD,Zex];rfl)
   rw[ZeN,Zj9] at inner
   have hl:=h.wl
   simp only[ZdN,ZdL hi,Zik hd (z:=(i:Int)) ⟨by omega,by simpa using hi⟩,Option.bind_some,ZT hi h.short.w,cond_true,inner,Zgr (show out.length+1≤1073741824 by omega),Int.toNat_natCast,Zf3]
   cases bAt done (i:Int)<;>cases g.edges.any (fun e=>(e.dst==(i:Int)) && !(bAt done e.src))<;>rfl) (by simp only[ZdN,Zex];rfl)
 rw[key]
 unfold Znf
 exact congrArg some (ZrL (fun i _=>Zf3 g done i) (fun i _=>some i) none (fun o:Option Nat=>(match o with | some i=>(.inl (out++[(i:Int)],done.set i true):(List Int×List Bool)⊕Unit) | none=>.inr ())) g.work 0).symm
theorem Zua {g:Zcp} (h:ZgY g):∀(k:Nat) (out:List Int) (done:List Bool),out.length+k=g.work.length→done.length=g.work.length →
  ∃r,lp (ZeF g) (out,done)=some r∧(match ZmB g k out done with | some l=>r = .inr l | none=>∃l,r = .inl l)
 | 0,out,done,h1,h2=>by
  rw[Za7]
  simp only[ZeF,show out.length=g.work.length by omega,Zex,cond_false]
  exact⟨_,rfl,rfl⟩
 | k+1,out,done,h1,h2=>by
  rw[Za7]
  simp only[ZeF,ZdL (show out.length<g.work.length by omega),cond_true,ZzL h out (by omega) done h2,Option.bind_some]
  unfold ZmB
  cases Znf g done with
  | none=>exact⟨_,rfl,_,rfl⟩
  | some i=>exact Zua h k (out++[(i:Int)]) (done.set i true) (by rw[List.length_append];simp only[List.length_cons,List.length_nil];omega) (by rw[List.length_set];exact h2)
theorem Zt4 {g:Zcp} (h:ZgY g):Zfa g=some (match ZmB g g.work.length [] (List.replicate g.work.length false) with | some l=>(l,true) | none=>([],false)):=by
 obtain⟨r,e,hr⟩:=Zua h g.work.length [] (List.replicate g.work.length false) (by simp) (by simp)
 have hl:=h.wl
 unfold Zfa
 rw[decide_eq_true (show(0:Int)≤(g.work.length:Int) by omega),decide_eq_true (show(g.work.length:Int)≤lim by show(g.work.length:Int)≤1073741824;omega),beq_self_eq_true]
 simp only[decide_true,Bool.and_true,cond_true,Int.toNat_natCast,e,Option.bind_some]
 cases ho:ZmB g g.work.length [] (List.replicate g.work.length false) with
 | some l=>rw[ho] at hr;simp only at hr;subst hr;rfl
 | none=>rw[ho] at hr;obtain⟨l,rfl⟩:=hr;rfl
structure Zft (g:Zcp) (out:List Int) (done:List Bool):Prop where
 dl:done.length=g.work.length
 mem:∀i:Nat,bAt done (i:Int)=true↔(i:Int)∈out
 inn:∀z∈out,0≤z∧z.toNat<g.work.length
 nod:out.Nodup
 topo:∀(i:Nat) (n:Int),out[i]? = some n→∀e∈g.edges,e.dst=n→∃j,j<i∧out[j]? = some e.src
theorem Zt8 {done:List Bool}{i:Nat} (hi:i<done.length) (z:Int) (hz:0≤z):bAt (done.set i true) z=(decide (z=(i:Int)) || bAt done z):=by
 unfold bAt
 rw[List.getElem?_set]
 by_cases h:i=z.toNat
 ·subst h
  rw[if_pos rfl,if_pos hi,decide_eq_true (show z=((z.toNat:Nat):Int) by omega)];rfl
 ·rw[if_neg h,decide_eq_false (show ¬z=(i:Int) by omega)];rfl
theorem Zft.start (g:Zcp):Zft g [] (List.replicate g.work.length false):=by
 refine⟨by simp,fun i=>?_,by simp,by simp,by simp⟩
 unfold bAt
 rw[List.getElem?_replicate]
 by_cases h:((i:Int)).toNat<g.work.length
 ·rw[if_pos h];simp
 ·rw[if_neg h];simp
theorem Zft.next {g:Zcp} (h:ZgY g) {out:List Int}{done:List Bool} (o:Zft g out done) {i:Nat} (hn:Znf g done=some i):Zft g (out++[(i:Int)]) (done.set i true):=by
 obtain⟨_,hi,x,_,hp⟩:=Zqi _ _ _ _ hn
 rw[Nat.zero_add] at hi
 unfold Zf3 at hp
 simp only[Bool.and_eq_true,Bool.not_eq_true',List.any_eq_false,Bool.not_eq_true] at hp
 have hid:i<done.length:=by rw[o.dl];exact hi
 have hnot:(i:Int)∉out:=fun hm=>by have:=(o.mem i).2 hm;rw[hp.1] at this;cases this
 refine⟨by rw[List.length_set];exact o.dl,fun j=>?_,fun z hz=>?_,?_,fun k n hk e he hd=>?_⟩
 ·rw[Zt8 hid (j:Int) (by omega),Bool.or_eq_true,decide_eq_true_eq,o.mem,List.mem_append,List.mem_singleton]
  exact Or.comm
 ·rcases List.mem_append.1 hz with hz | hz
  ·exact o.inn z hz
  ·rw[List.mem_singleton] at hz;subst hz;exact⟨by omega,by simpa using hi⟩
 ·rw[List.nodup_append]
  refine⟨o.nod,by simp,fun a ha b hb=>?_⟩
  rw[List.mem_singleton] at hb
  subst hb
  exact fun hab=>hnot (hab ▸ ha)
 ·rcases Nat.lt_or_ge k out.length with hk2 | hk2
  ·rw[List.getElem?_append_left hk2] at hk
   obtain⟨j,h1,h2⟩:=o.topo k n hk e he hd
   exact⟨j,h1,by rw[List.getElem?_append_left (by omega)];exact h2⟩
  ·rw[List.getElem?_append_right hk2] at hk
   have hk0:k-out.length=0:=by
    rcases Nat.eq_zero_or_pos (k-out.length) with h0 | h0
    ·exact h0
    ·rw[List.getElem?_eq_none (by simp only[List.length_cons,List.length_nil];omega)] at hk;cases hk
   rw[hk0] at hk
   simp only[List.getElem?_cons_zero,Option.some.injEq] at hk
   subst hk
   have hs:=hp.2 e he
   rw[hd] at hs
   have hs:bAt done e.src=true:=by simpa using hs
   have hsr:=h.src e he
   have:=(o.mem e.src.toNat).1 (by rw[show((e.src.toNat:Nat):Int)=e.src by omega];exact hs)
   rw[show((e.src.toNat:Nat):Int)=e.src by omega] at this
   obtain⟨j,hj⟩:=List.getElem?_of_mem this
   have hjl:=(List.getElem?_eq_some_iff.1 hj).1
   exact⟨j,by omega,by rw[List.getElem?_append_left hjl];exact hj⟩
theorem Zft.way {g:Zcp}{out:List Int}{done:List Bool} (o:Zft g out done) {a b:Int} (w:Way g a b):∀j:Nat,out[j]? = some b→∃i,i<j∧out[i]? = some a:=by
 induction w with
 | one he=>intro j hj;exact o.topo j _ hj _ he rfl
 | more _ he ih=>
  intro j hj
  obtain⟨i,h1,h2⟩:=o.topo j _ hj _ he rfl
  obtain⟨k,h3,h4⟩:=ih i h2
  exact⟨k,by omega,h4⟩
theorem Zu2 {l:List Int} (h:l.Nodup) {i j:Nat}{a:Int} (h1:l[i]? = some a) (h2:l[j]? = some a):i=j:=by
 obtain⟨a1,a2⟩:=List.getElem?_eq_some_iff.1 h1
 obtain⟨b1,b2⟩:=List.getElem?_eq_some_iff.1 h2
 exact(List.getElem_inj h).1 (a2.trans b2.symm)
def Zq6 (n:Nat) (done:List Bool):List Int:=((List.range n).filter fun i:Nat=>!bAt done (i:Int)).map fun i:Nat=>(i:Int)
theorem ZjE {n:Nat}{done:List Bool}{i:Nat} (h1:i<n) (h2:bAt done (i:Int)=false):(i:Int)∈Zq6 n done:=
 List.mem_map.2 ⟨i,List.mem_filter.2 ⟨List.mem_range.2 h1,by rw[h2];rfl⟩,rfl⟩
theorem Zu9 {g:Zcp} (h:ZgY g) (hg:Zn5 g) {out:List Int}{done:List Bool} (o:Zft g out done) (i0:Nat) (hi0:i0<g.work.length) (hb:bAt done (i0:Int)=false):∃i,Znf g done=some i:=by
 cases hn:Znf g done with
 | some i=>exact⟨i,rfl⟩
 | none=>
  exfalso
  have hall:=ZpP _ _ _ hn
  obtain⟨m,hm,hm2⟩:=ZrP hg _ (Zq6 g.work.length done) (Nat.le_refl _) (by
   intro he
   have:=ZjE hi0 hb
   rw[he] at this;cases this)
  obtain⟨k,hk,rfl⟩:=List.mem_map.1 hm
  obtain⟨hk1,hk2⟩:=List.mem_filter.1 hk
  rw[List.mem_range] at hk1
  have hr:=hall k g.work[k] (List.getElem?_eq_getElem hk1)
  rw[Nat.zero_add] at hr
  unfold Zf3 at hr
  rw[hk2,Bool.true_and,Bool.not_eq_false',List.any_eq_true] at hr
  obtain⟨e,he,he2⟩:=hr
  simp only[Bool.and_eq_true,beq_iff_eq] at he2
  have hsr:=h.src e he
  refine hm2 e he he2.1 ?_
  have es:((e.src.toNat:Nat):Int)=e.src:=by omega
  rw[← es]
  exact ZjE hsr.2 (by rw[es];simpa using he2.2)
theorem Zxm {n:Nat}{out:List Int} (h1:out.Nodup) (h2:∀z∈out,0≤z∧z.toNat<n):(out.length≤n)∧(out.length=n→∀i:Nat,i<n→(i:Int)∈out):=by
 induction n generalizing out with
 | zero=>
  refine⟨?_,fun _ i hi=>absurd hi (by omega)⟩
  cases out with
  | nil=>simp
  | cons z l=>have:=h2 z (by simp);omega
 | succ n ih=>
  by_cases hm:(n:Int)∈out
  ·have e1:(out.erase (n:Int)).length=out.length-1:=List.length_erase_of_mem hm
   have pos:0<out.length:=List.length_pos_of_mem hm
   obtain⟨a,b⟩:=ih (out:=out.erase (n:Int)) (h1.erase _) (fun z hz=>by
    have hz2:=(List.Nodup.mem_erase_iff h1).1 hz
    have:=h2 z hz2.2
    have:=hz2.1
    omega)
   refine⟨by omega,fun hl i hi=>?_⟩
   by_cases hin:i=n
   ·subst hin;exact hm
   ·exact List.mem_of_mem_erase (b (by omega) i (by omega))
  ·obtain⟨a,b⟩:=ih (out:=out) h1 (fun z hz=>by
    have:=h2 z hz
    have:z≠(n:Int):=fun he=>hm (he ▸ hz)
    omega)
   exact⟨by omega,fun hl=>by omega⟩
theorem Zxk:∀(n:Nat) (out:List Int),(∀i:Nat,i<n→(i:Int)∈out)→n≤out.length
 | 0,out,h=>by omega
 | n+1,out,h=>by
  have hm:=h n (by omega)
  have e1:(out.erase (n:Int)).length=out.length-1:=List.length_erase_of_mem hm
  have pos:0<out.length:=List.length_pos_of_mem hm
  have:=Zxk n (out.erase (n:Int)) (fun i hi=>(List.mem_erase_of_ne (by omega)).2 (h i (by omega)))
  omega
theorem Zln {g:Zcp} (h:ZgY g):∀(k:Nat) (out:List Int) (done:List Bool),Zft g out done→out.length+k=g.work.length→(∀l,ZmB g k out done=some l→∃done',Zft g l done'∧l.length=g.work.length)∧(Zn5 g→∃l,ZmB g k out done=some l)
 | 0,out,done,o,hl=>⟨fun l h=>by cases h;exact⟨done,o,by omega⟩,fun _=>⟨out,rfl⟩⟩
 | k+1,out,done,o,hl=>by
  unfold ZmB
  cases hn:Znf g done with
  | none=>
   refine⟨fun l h=>(by cases h),fun hg=>?_⟩
   exfalso
   have hex:∃i0,i0<g.work.length∧(i0:Int)∉out:=by
    apply Classical.byContradiction
    intro hc
    have hc2:∀i0,i0<g.work.length→(i0:Int)∈out:=fun i0 hi=>Classical.byContradiction fun hx=>hc ⟨i0,hi,hx⟩
    have sub:=Zxk g.work.length out hc2
    omega
   obtain⟨i0,h1,h2⟩:=hex
   obtain⟨i,hi⟩:=Zu9 h hg o i0 h1 (by
    cases hb:bAt done (i0:Int) with
    | false=>rfl
    | true=>exact absurd ((o.mem i0).1 hb) h2)
   rw[hn] at hi
   cases hi
  | some i=>
   exact Zln h k _ _ (o.next h hn) (by rw[List.length_append];simp only[List.length_cons,List.length_nil];omega)
theorem ZxH {g:Zcp} (h:ZgY g) {l:List Int}{done:List Bool} (o:Zft g l done) (hl:l.length=g.work.length):Zn5 g:=by
 intro a w
 have ha:=w.src_in h
 have hm:=(Zxm o.nod o.inn).2 hl a.toNat ha.2
 rw[show((a.toNat:Nat):Int)=a by omega] at hm
 obtain⟨j,hj⟩:=List.getElem?_of_mem hm
 obtain⟨i,h1,h2⟩:=o.way w j hj
 have:=Zu2 o.nod h2 hj
 omega
structure ZCN (g:Zcp) (l:List Int):Prop where
 len:l.length=g.work.length
 all:∀i:Nat,i<g.work.length→(i:Int)∈l
 inn:∀z∈l,0≤z∧z.toNat<g.work.length
 nod:l.Nodup
 topo:∀(i:Nat) (n:Int),l[i]? = some n→∀e∈g.edges,e.dst=n→∃j,j<i∧l[j]? = some e.src
theorem Zuq {g:Zcp} (h:ZgY g) (hg:Zn5 g):∃l,Zfa g=some (l,true)∧ZCN g l:=by
 obtain⟨k1,k2⟩:=Zln h g.work.length [] _ (Zft.start g) (by simp)
 obtain⟨l,hl⟩:=k2 hg
 obtain⟨done,o,hn⟩:=k1 l hl
 exact⟨l,by rw[Zt4 h,hl],hn,(Zxm o.nod o.inn).2 hn,o.inn,o.nod,o.topo⟩
theorem Zxx {g:Zcp} (h:ZgY g) (hg:¬Zn5 g):Zfa g=some ([],false):=by
 rw[Zt4 h]
 cases ho:ZmB g g.work.length [] (List.replicate g.work.length false) with
 | none=>rfl
 | some l=>
  obtain⟨done,o,hn⟩:=(Zln h g.work.length [] _ (Zft.start g) (by simp)).1 l ho
  exact absurd (ZxH h o hn) hg
noncomputable def ZvL (g:Zcp):Bool:=@decide (Zn5 g) (Classical.propDecidable _)
theorem Zx2 {g:Zcp} (h:Zn5 g):ZvL g=true:=@decide_eq_true _ (Classical.propDecidable _) h
theorem Ztw {g:Zcp} (h:¬Zn5 g):ZvL g=false:=@decide_eq_false _ (Classical.propDecidable _) h
noncomputable def ZjB (g:Zcp):Int:=bif Zkz g==0 then (bif ZvL g then 0 else 43) else Zkz g
theorem ZhJ {g:Zcp} (h:ZjB g=0):ZgY g∧Zn5 g:=by
 unfold ZjB at h
 by_cases h0:Zkz g=0
 ·rw[h0] at h
  refine⟨Zru h0,Classical.byContradiction fun hn=>?_⟩
  rw[Ztw hn] at h
  simp at h
 ·rw[beq_false_of_ne h0] at h
  exact absurd h h0
theorem ZsD (g:Zcp) (h:Zq2 g):Zg2 g=some (ZjB g):=by
 have hw:=Zlk g.work (fun z0=>Zc3 z0) Zhv (fun x _=>Zvq x) h.w
 unfold Zg2 ZjB
 rw[hw,Zsv g h]
 by_cases h0:Zkz g=0
 ·have hG:=Zru h0
  rw[h0]
  unfold Zkz at h0
  by_cases hg:Zn5 g
  ·obtain⟨l,e,_⟩:=Zuq hG hg
   rw[e,Zx2 hg]
   revert h0
   cases decide (64<(g.work.length:Int))<;>cases decide (256<(g.edges.length:Int))<;>cases g.work.any Zhv<;>cases ZgK (Znz g) 0 g.edges<;>simp
  ·rw[Zxx hG hg,Ztw hg]
   revert h0
   cases decide (64<(g.work.length:Int))<;>cases decide (256<(g.edges.length:Int))<;>cases g.work.any Zhv<;>cases ZgK (Znz g) 0 g.edges<;>simp
 ·rw[beq_false_of_ne h0]
  unfold Zkz at h0 ⊢
  revert h0
  cases decide (64<(g.work.length:Int))<;>cases decide (256<(g.edges.length:Int))<;>cases g.work.any Zhv<;>cases ZgK (Znz g) 0 g.edges<;>simp
end Go.Proofs.YtnmbdjkbaihicaaDoor
namespace Go.Proofs.YtnmbdjkbaihicaaDoor
open Go Go.Proofs.YtnmbdjkbaihicaaDoorE
set_option linter.unusedVariables false
set_option linter.unusedSimpArgs false
theorem ZgJ {K W:Type} (eq:K→K→Bool) (k:K) (v:W):∀l:List (K×W),(∀q∈l,eq k q.1=false)→Zu eq l k v=l++[(k,v)]
 | [],_=>rfl
 | (a,u) :: r,h=>by
  unfold Zu
  rw[h (a,u) (by simp)]
  simp only[cond_false,List.cons_append]
  rw[ZgJ eq k v r fun q hq=>h q (by simp[hq])]
theorem Znr {K W:Type} (eq:K→K→Bool) (k:K) (z:W):∀l:List (K×W),(∀q∈l,eq k q.1=false)→Z3 eq l k z=z
 | [],_=>rfl
 | (a,u) :: r,h=>by
  unfold Z3
  rw[h (a,u) (by simp)]
  exact Znr eq k z r fun q hq=>h q (by simp[hq])
theorem ZgN {K W:Type} (eq:K→K→Bool) (k:K) (z:W) (m:List (K×W)):∀l:List (K×W),(∀q∈l,eq k q.1=false)→Z3 eq (l++m) k z=Z3 eq m k z
 | [],_=>rfl
 | (a,u) :: r,h=>by
  rw[List.cons_append]
  conv=>lhs;unfold Z3
  rw[h (a,u) (by simp)]
  exact ZgN eq k z m r fun q hq=>h q (by simp[hq])
theorem Zhr {K W:Type} (eq:K→K→Bool) (k:K) (z:W) (m:List (K×W)):∀l:List (K×W),(∃q∈l,eq k q.1=true)→Z3 eq (l++m) k z=Z3 eq l k z
 | [],h=>by obtain⟨q,hq,_⟩:=h;simp at hq
 | (a,u) :: r,h=>by
  rw[List.cons_append]
  unfold Z3
  cases hb:eq k a with
  | true=>rfl
  | false=>
   simp only[cond_false]
   refine Zhr eq k z m r ?_
   obtain⟨q,hq,hk⟩:=h
   rcases List.mem_cons.1 hq with rfl | hq
   ·rw[hb] at hk;cases hk
   ·exact⟨q,hq,hk⟩
abbrev eqI:Int→Int→Bool:=fun ka kb:Int=>(ka==kb)
theorem Zno {K W:Type} (eq:K→K→Bool) (k:K) (v w:W) (hk:eq k k=true):∀l:List (K×W),(∀q∈l,eq k q.1=false)→Zu eq (l++[(k,v)]) k w=l++[(k,w)]
 | [],_=>by
  show(bif eq k k then _ else _)=_
  rw[hk];rfl
 | (a,u) :: r,h=>by
  rw[List.cons_append]
  unfold Zu
  rw[h (a,u) (by simp)]
  simp only[cond_false,List.cons_append]
  rw[Zno eq k v w hk r fun q hq=>h q (by simp[hq])]
theorem Zp1 {K W:Type} (eq:K→K→Bool) (k:K) (z v:W) (hk:eq k k=true) (l m:List (K×W)) (h:∀q∈l,eq k q.1=false):Z3 eq (l++(k,v) :: m) k z=v:=by
 rw[ZgN eq k z _ l h]
 show(bif eq k k then _ else _)=_
 rw[hk];rfl
end Go.Proofs.YtnmbdjkbaihicaaDoor
namespace Go.Proofs.YtnmbdjkbaihicaaDoor
open Go Go.Proofs.YtnmbdjkbaihicaaDoorE
set_option linter.unusedVariables false
set_option linter.unusedSimpArgs false
def tch (d:Zj) (n:Nat):List Int:=tl d (n:Int) 0 99
theorem ZlF {d:Zj} (g:ZlH d) (n:Nat):Zcu d (n:Int) (tch d n):=Zta g (n:Int)
theorem ZAA {d:Zj} (hs:ZiE d) (hf:d.futures.length≤1000) (hc:ZfD d=0) (n:Nat):ZcJ d (n:Int)=some (tch d n):=by
 obtain⟨r,h1,h2⟩:=ZmJ d hs hf hc (n:Int)
 rw[h1,h2.eq (ZlF (ZqK hc) n)]
abbrev nt (d:Zj) (n:Nat):Nat:=(tch d n).length
theorem ZwE {d:Zj} (g:Zc9 d) (n:Nat):nt d n≤16:=Nat.le_trans (Zkr (ZlF g.g n)) g.fl
def cut (d:Zj) (n i:Nat):Int:=if i=0 then 0 else match (tch d n)[i-1]? with | some z=>ZeH d.futures z | none=>Zf2 d.parts (n:Int)
def Zjo (d:Zj) (n k:Nat):List Int:=(List.range k).map fun i=>cut d n (i+1)-cut d n i
def ZX (d:Zj):Nat→Nat
 | 0=>0
 | n+1=>ZX d n+(nt d n+1)
theorem ZhI {d:Zj} (g:Zc9 d):∀n,ZX d n≤17*n
 | 0=>Nat.le_refl _
 | n+1=>by have:=ZhI g n;have:=ZwE g n;show ZX d n+(nt d n+1)≤_;omega
theorem Zjg {d:Zj}{n i:Nat} (g:ZlH d) (hi:i<nt d n):∃f,ZE (tch d n) (i:Int)=some (tch d n)[i]∧ZE d.futures (tch d n)[i]=some f∧d.futures[((tch d n)[i]).toNat]? = some f∧f.user=(n:Int)∧f.pos=cut d n (i+1)∧f∈d.futures:=by
 obtain⟨j,f,h1,h2,h3⟩:=(ZlF g n).mem _ |>.1 (List.getElem_mem hi)
 refine⟨f,Zax (List.getElem?_eq_getElem hi),?_,?_,h2,?_,List.mem_of_getElem? h1⟩
 ·rw[h3];exact Zax h1
 ·rw[h3,Int.toNat_natCast];exact h1
 ·unfold cut
  rw[if_neg (by omega),Nat.add_sub_cancel,List.getElem?_eq_getElem hi]
  show _=ZeH d.futures (tch d n)[i]
  unfold ZeH
  rw[h3,Int.toNat_natCast,h1]
theorem ZyG {d:Zj} (g:ZlH d) (n i:Nat):0≤cut d n i∧cut d n i≤100:=by
 unfold cut
 split
 ·omega
 ·have wb:0≤Zf2 d.parts (n:Int)∧Zf2 d.parts (n:Int)≤100:=by
   refine⟨?_,ZkR g _⟩
   unfold Zf2
   split
   ·rename_i p hp;have:=g.w p (List.mem_of_getElem? hp);omega
   ·omega
  split
  ·rename_i z hz
   obtain⟨j,f,h1,h2,h3⟩:=(ZlF g n).mem z |>.1 (List.mem_of_getElem? hz)
   have:=g.f f (List.mem_of_getElem? h1)
   have:=ZkR g f.user
   unfold ZeH
   rw[h3,Int.toNat_natCast,h1]
   show 0≤f.pos∧f.pos≤100
   omega
  ·exact wb
theorem Zya (d:Zj) (n:Nat):cut d n (nt d n+1)=Zf2 d.parts (n:Int):=by
 unfold cut
 rw[if_neg (by omega),Nat.add_sub_cancel,List.getElem?_eq_none (Nat.le_refl _)]
theorem Zrt (d:Zj) (n k:Nat):Zjo d n (k+1)=Zjo d n k++[cut d n (k+1)-cut d n k]:=by unfold Zjo;rw[List.range_succ,List.map_append];rfl
theorem Zpa (d:Zj) (n k:Nat):(Zjo d n k).length=k:=by unfold Zjo;simp
def ZoN (d:Zj) (n:Nat):List Int:=Zjo d n (nt d n+1)
theorem ZtY {d:Zj}{n:Nat} (hn:n<d.parts.length):∃x,ZE d.parts (n:Int)=some x∧x.work=Zf2 d.parts (n:Int):=by
 refine⟨d.parts[n],Zax (List.getElem?_eq_getElem hn),?_⟩
 unfold Zf2
 rw[Int.toNat_natCast,List.getElem?_eq_getElem hn]
def ZkB (d:Zj) (z:Int):Int:=(ZX d z.toNat:Int)
def Zfy (d:Zj) (z:Int):Int:=(ZX d (z.toNat+1):Int)-1
def ZuN (d:Zj) (f:Zi):Int:=ZhD (fun _ z=>ZeH d.futures z==f.pos) (fun i _=>ZkB d f.user+(i:Int)+1) (-1) 0 (tch d f.user.toNat)
end Go.Proofs.YtnmbdjkbaihicaaDoor
namespace Go.Proofs.YtnmbdjkbaihicaaDoor
open Go Go.Proofs.YtnmbdjkbaihicaaDoorE
set_option linter.unusedVariables false
set_option linter.unusedSimpArgs false
def upto {β:Type} (B:Nat→List β) (k:Nat):List β:=(List.range k).flatMap B
theorem ZcW {β:Type} (B:Nat→List β) (k:Nat):upto B (k+1)=upto B k++B k:=by unfold upto;rw[List.range_succ,List.flatMap_append];simp
theorem Zon {γ β:Type} (l:List γ) (hl:l.length≤1000) (step:Int×List β→Option ((Int×List β)⊕List β)) (g:γ→β)
  (h1:∀(i:Nat) x s,i<l.length→l[i]? = some x→Nat.ble (s.length+1) lim=true→step ((i:Int),s)=some (.inl (((i+1:Nat):Int),s++[g x])))
  (h2:∀s,step ((l.length:Int),s)=some (.inr s)) (s:List β) (hs:s.length≤1000000):lp step (0,s)=some (s++l.map g):=by
 have key:=(ZvM l step (fun i s=>((i:Int),s)) (fun _ s x=>s++[g x]) id (fun i s=>s.length≤1000000+i) (fun i x s hi hx hI=>⟨h1 i x s hi hx (Zgr (by omega)),by rw[List.length_append];simp only[List.length_cons,List.length_nil];omega⟩) (fun s _=>h2 s) s (by omega)).1
 have e:∀(l:List γ) (i:Nat) (s:List β),Znq (fun _ s x=>s++[g x]) i s l=s++l.map g:=by
  intro l
  induction l with
  | nil=>intro i s;simp[Znq]
  | cons x l ih=>intro i s;show Znq _ (i+1) (s++[g x]) l=_;rw[ih];simp
 rw[e] at key
 exact key
def ZgI (d:Zj) (n k:Nat):List Zm:=(List.range k).map fun j=>⟨((ZX d n+j:Nat):Int),((ZX d n+j+1:Nat):Int)⟩
theorem Znn (d:Zj) (n k:Nat):ZgI d n (k+1)=ZgI d n k++[⟨((ZX d n+k:Nat):Int),((ZX d n+k+1:Nat):Int)⟩]:=by unfold ZgI;rw[List.range_succ,List.map_append];rfl
theorem ZoO (d:Zj) (n k:Nat):(ZgI d n k).length=k:=by unfold ZgI;simp
def Zeh (n k:Nat):List Zh:=(List.range k).map fun j:Nat=>⟨(n:Int),(j:Int)⟩
theorem ZqA (n k:Nat):Zeh n (k+1)=Zeh n k++[⟨(n:Int),(k:Int)⟩]:=by unfold Zeh;rw[List.range_succ,List.map_append];rfl
theorem Zni (n k:Nat):(Zeh n k).length=k:=by unfold Zeh;simp
def Zhp (d:Zj) (k:Nat):List Int:=upto (ZoN d) k
def ZgA (d:Zj) (k:Nat):List Zm:=upto (fun n=>ZgI d n (nt d n)) k
def ZcN (d:Zj) (k:Nat):List Zh:=upto (fun n=>Zeh n (nt d n+1)) k
theorem Zjj (d:Zj):∀k,(Zhp d k).length=ZX d k
 | 0=>rfl
 | k+1=>by unfold Zhp;rw[ZcW,List.length_append];unfold ZoN;rw[Zpa];show(Zhp d k).length+_=ZX d k+_;rw[Zjj d k]
theorem ZcM (d:Zj):∀k,(ZcN d k).length=ZX d k
 | 0=>rfl
 | k+1=>by unfold ZcN;rw[ZcW,List.length_append,Zni];show(ZcN d k).length+_=ZX d k+_;rw[ZcM d k]
theorem ZlK (d:Zj):∀k,(ZgA d k).length≤ZX d k
 | 0=>Nat.le_refl _
 | k+1=>by unfold ZgA;rw[ZcW,List.length_append,ZoO];have:=ZlK d k;unfold ZgA at this;show _≤ZX d k+(nt d k+1);omega
def Zo3 (d:Zj):List Zm:=d.edges.map fun e=>⟨Zfy d e.src,ZkB d e.dst⟩
def ZqI (d:Zj):List Zm:=d.futures.map fun f=>⟨Zfy d f.maker,ZuN d f⟩
def Zv4 (d:Zj) (at_:Int) (b:Zs):List Zm:=b.ins.map (fun q=>⟨Zfy d q,at_⟩)++b.outs.map (fun q=>⟨at_,ZkB d q⟩)
def Zo9 (d:Zj) (i:Nat):Int:=((ZX d d.parts.length+i:Nat):Int)
def ZfY (d:Zj) (k:Nat):List Zm:=upto (fun i=>match d.barriers[i]? with | some b=>Zv4 d (Zo9 d i) b | none=>[]) k
def Ze6 (k:Nat):List Zh:=(List.range k).map fun i:Nat=>⟨-1,(i:Int)⟩
theorem Zng (k:Nat):(Ze6 k).length=k:=by unfold Ze6;simp
theorem ZqS (k:Nat):Ze6 (k+1)=Ze6 k++[⟨-1,(k:Int)⟩]:=by unfold Ze6;rw[List.range_succ,List.map_append];rfl
def Zkj (d:Zj):List Int:=Zhp d d.parts.length++List.replicate d.barriers.length 1
def ZmS (d:Zj):List Zm:=ZgA d d.parts.length++Zo3 d++ZqI d
def ZsH (d:Zj):List Zm:=ZmS d++ZfY d d.barriers.length
def Zd4 (d:Zj):List Zh:=ZcN d d.parts.length++Ze6 d.barriers.length
def ZaE (d:Zj):ZlU:=⟨⟨Zkj d,ZsH d⟩,Zd4 d⟩
theorem Zn0 {d:Zj} (g:Zc9 d):(ZmS d).length≤1000:=by
 unfold ZmS Zo3 ZqI
 have h1:=ZlK d d.parts.length
 have h2:=ZhI g d.parts.length
 have h3:=g.pl
 have h4:=g.el
 have h5:=g.fl
 simp only[List.length_append,List.length_map]
 omega
theorem Zwb {d:Zj} (hz:ZiP d) {b:Zs} (hb:b∈d.barriers) (z:Int):(Zv4 d z b).length≤40:=by
 have:=hz.i b hb
 unfold Zv4
 simp only[List.length_append,List.length_map]
 omega
theorem ZlB {d:Zj} (hz:ZiP d):∀k,(ZfY d k).length≤40*k
 | 0=>Nat.le_refl _
 | k+1=>by
  have ih:=ZlB hz k
  unfold ZfY at ih ⊢
  rw[ZcW,List.length_append]
  split
  ·rename_i b hb
   have:=Zwb hz (List.mem_of_getElem? hb) (Zo9 d k)
   omega
  ·simp only[List.length_nil];omega
end Go.Proofs.YtnmbdjkbaihicaaDoor
