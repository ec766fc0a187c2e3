/- LowLess: part 4 of 6 of the proof. -/
import Derived.Test.YtljgncbdagmeeaaDoorZLowLessc
import Derived.KernelRfl
import Derived.Sort.AssemblyPlain
set_option maxRecDepth 100000
set_option maxHeartbeats 40000000
namespace Go.Proofs.YtljgncbdagmeeaaDoor
open Go Go.Proofs.YtljgncbdagmeeaaDoorE
set_option linter.unusedVariables false
structure ZbS where
 work:(List Int)
 edges:(List Zo)
 deriving DecidableEq
structure Zi where
 part:Int
 step:Int
 deriving DecidableEq
abbrev ZcF (x:Zi):D:=(D.agg [(Ze x.part),(Ze x.step)])
structure Ztn where
 dag:ZbS
 pieces:(List Zi)
 deriving DecidableEq
def Zsb:ByteArray:=⟨#[0,1,2,2,3,3,3,3,4,4,4,4,4,4,4,4,5,5,5,5,5,5,5,5,5,5,5,5,5,5,5,5,6,6,6,6,6,6,6,6,6,6,6,6,6,6,6,6,6,6,6,6,6,6,6,6,6,6,6,6,6,6,6,6,7,7,7,7,7,7,7,7,7,7,7,7,7,7,7,7,7,7,7,7,7,7,7,7,7,7,7,7,7,7,7,7,7,7,7,7,7,7,7,7,7,7,7,7,7,7,7,7,7,7,7,7,7,7,7,7,7,7,7,7,7,7,7,7,8,8,8,8,8,8,8,8,8,8,8,8,8,8,8,8,8,8,8,8,8,8,8,8,8,8,8,8,8,8,8,8,8,8,8,8,8,8,8,8,8,8,8,8,8,8,8,8,8,8,8,8,8,8,8,8,8,8,8,8,8,8,8,8,8,8,8,8,8,8,8,8,8,8,8,8,8,8,8,8,8,8,8,8,8,8,8,8,8,8,8,8,8,8,8,8,8,8,8,8,8,8,8,8,8,8,8,8,8,8,8,8,8,8,8,8,8,8,8,8,8,8,8,8,8,8,8,8]⟩
abbrev dA (t0 t1 t2 t3:Bool) (a:Zn):List D:=[(Ze a.period),(Ze a.deadline),(D.list t0 (List.map Zau a.parts)),(D.list t1 (List.map ZJ a.edges)),(D.list t2 (List.map Zt a.futures)),(D.list t3 (List.map ZA a.barriers))]
abbrev dV (t0 t1 t2 t3:Bool) (a:Zn):List V:=[(.d (Ze a.period)),(.d (Ze a.deadline)),(.d (D.list t0 (List.map Zau a.parts))),(.d (D.list t1 (List.map ZJ a.edges))),(.d (D.list t2 (List.map Zt a.futures))),(.d (D.list t3 (List.map ZA a.barriers)))]
def Zhc:Option Bool:=some true
noncomputable def ZfP (a:Zn) (s0:Int):Option (Int⊕(Unit⊕Unit)):=
 bif (decide (s0<(a.barriers.length:Int))) then
  bif (decide (s0<9)) then
   (Zy a.barriers s0).bind fun x1=>
   bif (decide (20<(x1.ins.length:Int))) then
    some (.inr (.inl ()))
   else
    bif (decide (20<(x1.outs.length:Int))) then
     some (.inr (.inl ()))
    else
     some (.inl (w64 (s0+1)))
  else
   some (.inr (.inr ()))
 else
  some (.inr (.inr ()))
noncomputable def Zin (a:Zn):Option Bool:=
 (lp (ZfP a) 0).bind fun r2=>
 match r2 with
 | (.inl r2)=>
  some false
 | (.inr r2)=>
  bif (decide ((a.parts.length:Int)≤20)) then
   bif (decide ((a.edges.length:Int)≤60)) then
    bif (decide ((a.futures.length:Int)≤20)) then
     bif (decide ((a.barriers.length:Int)≤8)) then
      some true
     else
      some false
    else
     some false
   else
    some false
  else
   some false
noncomputable def ZeW (a:Zn) (s0:Int×(List Zu)):Option ((Int×(List Zu))⊕(List Zu)):=
 bif (decide (s0.1<(a.barriers.length:Int))) then
  (Zy a.barriers s0.1).bind fun x1=>
  bif (Nat.ble (List.length x1.ins) lim) then
   bif (Nat.ble (List.length x1.outs) lim) then
    bif (Nat.ble (List.length s0.2+1) lim) then
     some (.inl ((w64 (s0.1+1)),(s0.2++[x1])))
    else
     none
   else
    none
  else
   none
 else
  some (.inr s0.2)
noncomputable def Zhy (a:Zn):Option (List Zu):=
 bif (Nat.ble (List.length a.parts) lim) then
  bif (Nat.ble (List.length a.edges) lim) then
   bif (Nat.ble (List.length a.futures) lim) then
    (lp (ZeW a) (0,([]:(List Zu)))).bind fun r2=>
    some r2
   else
    none
  else
   none
 else
  none
noncomputable def Zch (a:Int) (b:Int) (c:Int):Option Bool:=
 bif (decide (b≤a)) then
  bif (decide (a≤c)) then
   some true
  else
   some false
 else
  some false
noncomputable def Zik (a:Int):Option Int:=
 bif (decide (a<0)) then
  some 10
 else
  bif (decide (1099511627775<a)) then
   some 11
  else
   some 0
noncomputable def Zdq (a:Int):Option Int:=
 some (IntKind.i64.wrap (BitVec.ofInt IntKind.i64.bits (w64 (IntKind.u64.wrap ((IntKind.u64.wrap ((IntKind.u64.wrap ((IntKind.u64.wrap (BitVec.ofInt IntKind.u64.bits (IntKind.u64.wrap ((Int.fdiv (IntKind.u64.wrap ((IntKind.u64.wrap (BitVec.ofInt IntKind.u64.bits (Int.fdiv (IntKind.u64.wrap ((IntKind.u64.wrap (BitVec.ofInt IntKind.u64.bits (Int.fdiv a (2 ^ 1)) &&& BitVec.ofInt IntKind.u64.bits 6148914691236517205).toNat)+(IntKind.u64.wrap (BitVec.ofInt IntKind.u64.bits a &&& BitVec.ofInt IntKind.u64.bits 6148914691236517205).toNat))) (2 ^ 2)) &&& BitVec.ofInt IntKind.u64.bits 3689348814741910323).toNat)+(IntKind.u64.wrap (BitVec.ofInt IntKind.u64.bits (IntKind.u64.wrap ((IntKind.u64.wrap (BitVec.ofInt IntKind.u64.bits (Int.fdiv a (2 ^ 1)) &&& BitVec.ofInt IntKind.u64.bits 6148914691236517205).toNat)+(IntKind.u64.wrap (BitVec.ofInt IntKind.u64.bits a &&& BitVec.ofInt IntKind.u64.bits 6148914691236517205).toNat))) &&& BitVec.ofInt IntKind.u64.bits 3689348814741910323).toNat))) (2 ^ 4))+(IntKind.u64.wrap ((IntKind.u64.wrap (BitVec.ofInt IntKind.u64.bits (Int.fdiv (IntKind.u64.wrap ((IntKind.u64.wrap (BitVec.ofInt IntKind.u64.bits (Int.fdiv a (2 ^ 1)) &&& BitVec.ofInt IntKind.u64.bits 6148914691236517205).toNat)+(IntKind.u64.wrap (BitVec.ofInt IntKind.u64.bits a &&& BitVec.ofInt IntKind.u64.bits 6148914691236517205).toNat))) (2 ^ 2)) &&& BitVec.ofInt IntKind.u64.bits 3689348814741910323).toNat)+(IntKind.u64.wrap (BitVec.ofInt IntKind.u64.bits (IntKind.u64.wrap ((IntKind.u64.wrap (BitVec.ofInt IntKind.u64.bits (Int.fdiv a (2 ^ 1)) &&& BitVec.ofInt IntKind.u64.bits 6148914691236517205).toNat)+(IntKind.u64.wrap (BitVec.ofInt IntKind.u64.bits a &&& BitVec.ofInt IntKind.u64.bits 6148914691236517205).toNat))) &&& BitVec.ofInt IntKind.u64.bits 3689348814741910323).toNat))))) &&& BitVec.ofInt IntKind.u64.bits 1085102592571150095).toNat)+(Int.fdiv (IntKind.u64.wrap (BitVec.ofInt IntKind.u64.bits (IntKind.u64.wrap ((Int.fdiv (IntKind.u64.wrap ((IntKind.u64.wrap (BitVec.ofInt IntKind.u64.bits (Int.fdiv (IntKind.u64.wrap ((IntKind.u64.wrap (BitVec.ofInt IntKind.u64.bits (Int.fdiv a (2 ^ 1)) &&& BitVec.ofInt IntKind.u64.bits 6148914691236517205).toNat)+(IntKind.u64.wrap (BitVec.ofInt IntKind.u64.bits a &&& BitVec.ofInt IntKind.u64.bits 6148914691236517205).toNat))) (2 ^ 2)) &&& BitVec.ofInt IntKind.u64.bits 3689348814741910323).toNat)+(IntKind.u64.wrap (BitVec.ofInt IntKind.u64.bits (IntKind.u64.wrap ((IntKind.u64.wrap (BitVec.ofInt IntKind.u64.bits (Int.fdiv a (2 ^ 1)) &&& BitVec.ofInt IntKind.u64.bits 6148914691236517205).toNat)+(IntKind.u64.wrap (BitVec.ofInt IntKind.u64.bits a &&& BitVec.ofInt IntKind.u64.bits 6148914691236517205).toNat))) &&& BitVec.ofInt IntKind.u64.bits 3689348814741910323).toNat))) (2 ^ 4))+(IntKind.u64.wrap ((IntKind.u64.wrap (BitVec.ofInt IntKind.u64.bits (Int.fdiv (IntKind.u64.wrap ((IntKind.u64.wrap (BitVec.ofInt IntKind.u64.bits (Int.fdiv a (2 ^ 1)) &&& BitVec.ofInt IntKind.u64.bits 6148914691236517205).toNat)+(IntKind.u64.wrap (BitVec.ofInt IntKind.u64.bits a &&& BitVec.ofInt IntKind.u64.bits 6148914691236517205).toNat))) (2 ^ 2)) &&& BitVec.ofInt IntKind.u64.bits 3689348814741910323).toNat)+(IntKind.u64.wrap (BitVec.ofInt IntKind.u64.bits (IntKind.u64.wrap ((IntKind.u64.wrap (BitVec.ofInt IntKind.u64.bits (Int.fdiv a (2 ^ 1)) &&& BitVec.ofInt IntKind.u64.bits 6148914691236517205).toNat)+(IntKind.u64.wrap (BitVec.ofInt IntKind.u64.bits a &&& BitVec.ofInt IntKind.u64.bits 6148914691236517205).toNat))) &&& BitVec.ofInt IntKind.u64.bits 3689348814741910323).toNat))))) &&& BitVec.ofInt IntKind.u64.bits 1085102592571150095).toNat) (2 ^ 8))))+(Int.fdiv (IntKind.u64.wrap ((IntKind.u64.wrap (BitVec.ofInt IntKind.u64.bits (IntKind.u64.wrap ((Int.fdiv (IntKind.u64.wrap ((IntKind.u64.wrap (BitVec.ofInt IntKind.u64.bits (Int.fdiv (IntKind.u64.wrap ((IntKind.u64.wrap (BitVec.ofInt IntKind.u64.bits (Int.fdiv a (2 ^ 1)) &&& BitVec.ofInt IntKind.u64.bits 6148914691236517205).toNat)+(IntKind.u64.wrap (BitVec.ofInt IntKind.u64.bits a &&& BitVec.ofInt IntKind.u64.bits 6148914691236517205).toNat))) (2 ^ 2)) &&& BitVec.ofInt IntKind.u64.bits 3689348814741910323).toNat)+(IntKind.u64.wrap (BitVec.ofInt IntKind.u64.bits (IntKind.u64.wrap ((IntKind.u64.wrap (BitVec.ofInt IntKind.u64.bits (Int.fdiv a (2 ^ 1)) &&& BitVec.ofInt IntKind.u64.bits 6148914691236517205).toNat)+(IntKind.u64.wrap (BitVec.ofInt IntKind.u64.bits a &&& BitVec.ofInt IntKind.u64.bits 6148914691236517205).toNat))) &&& BitVec.ofInt IntKind.u64.bits 3689348814741910323).toNat))) (2 ^ 4))+(IntKind.u64.wrap ((IntKind.u64.wrap (BitVec.ofInt IntKind.u64.bits (Int.fdiv (IntKind.u64.wrap ((IntKind.u64.wrap (BitVec.ofInt IntKind.u64.bits (Int.fdiv a (2 ^ 1)) &&& BitVec.ofInt IntKind.u64.bits 6148914691236517205).toNat)+(IntKind.u64.wrap (BitVec.ofInt IntKind.u64.bits a &&& BitVec.ofInt IntKind.u64.bits 6148914691236517205).toNat))) (2 ^ 2)) &&& BitVec.ofInt IntKind.u64.bits 3689348814741910323).toNat)+(IntKind.u64.wrap (BitVec.ofInt IntKind.u64.bits (IntKind.u64.wrap ((IntKind.u64.wrap (BitVec.ofInt IntKind.u64.bits (Int.fdiv a (2 ^ 1)) &&& BitVec.ofInt IntKind.u64.bits 6148914691236517205).toNat)+(IntKind.u64.wrap (BitVec.ofInt IntKind.u64.bits a &&& BitVec.ofInt IntKind.u64.bits 6148914691236517205).toNat))) &&& BitVec.ofInt IntKind.u64.bits 3689348814741910323).toNat))))) &&& BitVec.ofInt IntKind.u64.bits 1085102592571150095).toNat)+(Int.fdiv (IntKind.u64.wrap (BitVec.ofInt IntKind.u64.bits (IntKind.u64.wrap ((Int.fdiv (IntKind.u64.wrap ((IntKind.u64.wrap (BitVec.ofInt IntKind.u64.bits (Int.fdiv (IntKind.u64.wrap ((IntKind.u64.wrap (BitVec.ofInt IntKind.u64.bits (Int.fdiv a (2 ^ 1)) &&& BitVec.ofInt IntKind.u64.bits 6148914691236517205).toNat)+(IntKind.u64.wrap (BitVec.ofInt IntKind.u64.bits a &&& BitVec.ofInt IntKind.u64.bits 6148914691236517205).toNat))) (2 ^ 2)) &&& BitVec.ofInt IntKind.u64.bits 3689348814741910323).toNat)+(IntKind.u64.wrap (BitVec.ofInt IntKind.u64.bits (IntKind.u64.wrap ((IntKind.u64.wrap (BitVec.ofInt IntKind.u64.bits (Int.fdiv a (2 ^ 1)) &&& BitVec.ofInt IntKind.u64.bits 6148914691236517205).toNat)+(IntKind.u64.wrap (BitVec.ofInt IntKind.u64.bits a &&& BitVec.ofInt IntKind.u64.bits 6148914691236517205).toNat))) &&& BitVec.ofInt IntKind.u64.bits 3689348814741910323).toNat))) (2 ^ 4))+(IntKind.u64.wrap ((IntKind.u64.wrap (BitVec.ofInt IntKind.u64.bits (Int.fdiv (IntKind.u64.wrap ((IntKind.u64.wrap (BitVec.ofInt IntKind.u64.bits (Int.fdiv a (2 ^ 1)) &&& BitVec.ofInt IntKind.u64.bits 6148914691236517205).toNat)+(IntKind.u64.wrap (BitVec.ofInt IntKind.u64.bits a &&& BitVec.ofInt IntKind.u64.bits 6148914691236517205).toNat))) (2 ^ 2)) &&& BitVec.ofInt IntKind.u64.bits 3689348814741910323).toNat)+(IntKind.u64.wrap (BitVec.ofInt IntKind.u64.bits (IntKind.u64.wrap ((IntKind.u64.wrap (BitVec.ofInt IntKind.u64.bits (Int.fdiv a (2 ^ 1)) &&& BitVec.ofInt IntKind.u64.bits 6148914691236517205).toNat)+(IntKind.u64.wrap (BitVec.ofInt IntKind.u64.bits a &&& BitVec.ofInt IntKind.u64.bits 6148914691236517205).toNat))) &&& BitVec.ofInt IntKind.u64.bits 3689348814741910323).toNat))))) &&& BitVec.ofInt IntKind.u64.bits 1085102592571150095).toNat) (2 ^ 8)))) (2 ^ 16))))+(Int.fdiv (IntKind.u64.wrap ((IntKind.u64.wrap ((IntKind.u64.wrap (BitVec.ofInt IntKind.u64.bits (IntKind.u64.wrap ((Int.fdiv (IntKind.u64.wrap ((IntKind.u64.wrap (BitVec.ofInt IntKind.u64.bits (Int.fdiv (IntKind.u64.wrap ((IntKind.u64.wrap (BitVec.ofInt IntKind.u64.bits (Int.fdiv a (2 ^ 1)) &&& BitVec.ofInt IntKind.u64.bits 6148914691236517205).toNat)+(IntKind.u64.wrap (BitVec.ofInt IntKind.u64.bits a &&& BitVec.ofInt IntKind.u64.bits 6148914691236517205).toNat))) (2 ^ 2)) &&& BitVec.ofInt IntKind.u64.bits 3689348814741910323).toNat)+(IntKind.u64.wrap (BitVec.ofInt IntKind.u64.bits (IntKind.u64.wrap ((IntKind.u64.wrap (BitVec.ofInt IntKind.u64.bits (Int.fdiv a (2 ^ 1)) &&& BitVec.ofInt IntKind.u64.bits 6148914691236517205).toNat)+(IntKind.u64.wrap (BitVec.ofInt IntKind.u64.bits a &&& BitVec.ofInt IntKind.u64.bits 6148914691236517205).toNat))) &&& BitVec.ofInt IntKind.u64.bits 3689348814741910323).toNat))) (2 ^ 4))+(IntKind.u64.wrap ((IntKind.u64.wrap (BitVec.ofInt IntKind.u64.bits (Int.fdiv (IntKind.u64.wrap ((IntKind.u64.wrap (BitVec.ofInt IntKind.u64.bits (Int.fdiv a (2 ^ 1)) &&& BitVec.ofInt IntKind.u64.bits 6148914691236517205).toNat)+(IntKind.u64.wrap (BitVec.ofInt IntKind.u64.bits a &&& BitVec.ofInt IntKind.u64.bits 6148914691236517205).toNat))) (2 ^ 2)) &&& BitVec.ofInt IntKind.u64.bits 3689348814741910323).toNat)+(IntKind.u64.wrap (BitVec.ofInt IntKind.u64.bits (IntKind.u64.wrap ((IntKind.u64.wrap (BitVec.ofInt IntKind.u64.bits (Int.fdiv a (2 ^ 1)) &&& BitVec.ofInt IntKind.u64.bits 6148914691236517205).toNat)+(IntKind.u64.wrap (BitVec.ofInt IntKind.u64.bits a &&& BitVec.ofInt IntKind.u64.bits 6148914691236517205).toNat))) &&& BitVec.ofInt IntKind.u64.bits 3689348814741910323).toNat))))) &&& BitVec.ofInt IntKind.u64.bits 1085102592571150095).toNat)+(Int.fdiv (IntKind.u64.wrap (BitVec.ofInt IntKind.u64.bits (IntKind.u64.wrap ((Int.fdiv (IntKind.u64.wrap ((IntKind.u64.wrap (BitVec.ofInt IntKind.u64.bits (Int.fdiv (IntKind.u64.wrap ((IntKind.u64.wrap (BitVec.ofInt IntKind.u64.bits (Int.fdiv a (2 ^ 1)) &&& BitVec.ofInt IntKind.u64.bits 6148914691236517205).toNat)+(IntKind.u64.wrap (BitVec.ofInt IntKind.u64.bits a &&& BitVec.ofInt IntKind.u64.bits 6148914691236517205).toNat))) (2 ^ 2)) &&& BitVec.ofInt IntKind.u64.bits 3689348814741910323).toNat)+(IntKind.u64.wrap (BitVec.ofInt IntKind.u64.bits (IntKind.u64.wrap ((IntKind.u64.wrap (BitVec.ofInt IntKind.u64.bits (Int.fdiv a (2 ^ 1)) &&& BitVec.ofInt IntKind.u64.bits 6148914691236517205).toNat)+(IntKind.u64.wrap (BitVec.ofInt IntKind.u64.bits a &&& BitVec.ofInt IntKind.u64.bits 6148914691236517205).toNat))) &&& BitVec.ofInt IntKind.u64.bits 3689348814741910323).toNat))) (2 ^ 4))+(IntKind.u64.wrap ((IntKind.u64.wrap (BitVec.ofInt IntKind.u64.bits (Int.fdiv (IntKind.u64.wrap ((IntKind.u64.wrap (BitVec.ofInt IntKind.u64.bits (Int.fdiv a (2 ^ 1)) &&& BitVec.ofInt IntKind.u64.bits 6148914691236517205).toNat)+(IntKind.u64.wrap (BitVec.ofInt IntKind.u64.bits a &&& BitVec.ofInt IntKind.u64.bits 6148914691236517205).toNat))) (2 ^ 2)) &&& BitVec.ofInt IntKind.u64.bits 3689348814741910323).toNat)+(IntKind.u64.wrap (BitVec.ofInt IntKind.u64.bits (IntKind.u64.wrap ((IntKind.u64.wrap (BitVec.ofInt IntKind.u64.bits (Int.fdiv a (2 ^ 1)) &&& BitVec.ofInt IntKind.u64.bits 6148914691236517205).toNat)+(IntKind.u64.wrap (BitVec.ofInt IntKind.u64.bits a &&& BitVec.ofInt IntKind.u64.bits 6148914691236517205).toNat))) &&& BitVec.ofInt IntKind.u64.bits 3689348814741910323).toNat))))) &&& BitVec.ofInt IntKind.u64.bits 1085102592571150095).toNat) (2 ^ 8))))+(Int.fdiv (IntKind.u64.wrap ((IntKind.u64.wrap (BitVec.ofInt IntKind.u64.bits (IntKind.u64.wrap ((Int.fdiv (IntKind.u64.wrap ((IntKind.u64.wrap (BitVec.ofInt IntKind.u64.bits (Int.fdiv (IntKind.u64.wrap ((IntKind.u64.wrap (BitVec.ofInt IntKind.u64.bits (Int.fdiv a (2 ^ 1)) &&& BitVec.ofInt IntKind.u64.bits 6148914691236517205).toNat)+(IntKind.u64.wrap (BitVec.ofInt IntKind.u64.bits a &&& BitVec.ofInt IntKind.u64.bits 6148914691236517205).toNat))) (2 ^ 2)) &&& BitVec.ofInt IntKind.u64.bits 3689348814741910323).toNat)+(IntKind.u64.wrap (BitVec.ofInt IntKind.u64.bits (IntKind.u64.wrap ((IntKind.u64.wrap (BitVec.ofInt IntKind.u64.bits (Int.fdiv a (2 ^ 1)) &&& BitVec.ofInt IntKind.u64.bits 6148914691236517205).toNat)+(IntKind.u64.wrap (BitVec.ofInt IntKind.u64.bits a &&& BitVec.ofInt IntKind.u64.bits 6148914691236517205).toNat))) &&& BitVec.ofInt IntKind.u64.bits 3689348814741910323).toNat))) (2 ^ 4))+(IntKind.u64.wrap ((IntKind.u64.wrap (BitVec.ofInt IntKind.u64.bits (Int.fdiv (IntKind.u64.wrap ((IntKind.u64.wrap (BitVec.ofInt IntKind.u64.bits (Int.fdiv a (2 ^ 1)) &&& BitVec.ofInt IntKind.u64.bits 6148914691236517205).toNat)+(IntKind.u64.wrap (BitVec.ofInt IntKind.u64.bits a &&& BitVec.ofInt IntKind.u64.bits 6148914691236517205).toNat))) (2 ^ 2)) &&& BitVec.ofInt IntKind.u64.bits 3689348814741910323).toNat)+(IntKind.u64.wrap (BitVec.ofInt IntKind.u64.bits (IntKind.u64.wrap ((IntKind.u64.wrap (BitVec.ofInt IntKind.u64.bits (Int.fdiv a (2 ^ 1)) &&& BitVec.ofInt IntKind.u64.bits 6148914691236517205).toNat)+(IntKind.u64.wrap (BitVec.ofInt IntKind.u64.bits a &&& BitVec.ofInt IntKind.u64.bits 6148914691236517205).toNat))) &&& BitVec.ofInt IntKind.u64.bits 3689348814741910323).toNat))))) &&& BitVec.ofInt IntKind.u64.bits 1085102592571150095).toNat)+(Int.fdiv (IntKind.u64.wrap (BitVec.ofInt IntKind.u64.bits (IntKind.u64.wrap ((Int.fdiv (IntKind.u64.wrap ((IntKind.u64.wrap (BitVec.ofInt IntKind.u64.bits (Int.fdiv (IntKind.u64.wrap ((IntKind.u64.wrap (BitVec.ofInt IntKind.u64.bits (Int.fdiv a (2 ^ 1)) &&& BitVec.ofInt IntKind.u64.bits 6148914691236517205).toNat)+(IntKind.u64.wrap (BitVec.ofInt IntKind.u64.bits a &&& BitVec.ofInt IntKind.u64.bits 6148914691236517205).toNat))) (2 ^ 2)) &&& BitVec.ofInt IntKind.u64.bits 3689348814741910323).toNat)+(IntKind.u64.wrap (BitVec.ofInt IntKind.u64.bits (IntKind.u64.wrap ((IntKind.u64.wrap (BitVec.ofInt IntKind.u64.bits (Int.fdiv a (2 ^ 1)) &&& BitVec.ofInt IntKind.u64.bits 6148914691236517205).toNat)+(IntKind.u64.wrap (BitVec.ofInt IntKind.u64.bits a &&& BitVec.ofInt IntKind.u64.bits 6148914691236517205).toNat))) &&& BitVec.ofInt IntKind.u64.bits 3689348814741910323).toNat))) (2 ^ 4))+(IntKind.u64.wrap ((IntKind.u64.wrap (BitVec.ofInt IntKind.u64.bits (Int.fdiv (IntKind.u64.wrap ((IntKind.u64.wrap (BitVec.ofInt IntKind.u64.bits (Int.fdiv a (2 ^ 1)) &&& BitVec.ofInt IntKind.u64.bits 6148914691236517205).toNat)+(IntKind.u64.wrap (BitVec.ofInt IntKind.u64.bits a &&& BitVec.ofInt IntKind.u64.bits 6148914691236517205).toNat))) (2 ^ 2)) &&& BitVec.ofInt IntKind.u64.bits 3689348814741910323).toNat)+(IntKind.u64.wrap (BitVec.ofInt IntKind.u64.bits (IntKind.u64.wrap ((IntKind.u64.wrap (BitVec.ofInt IntKind.u64.bits (Int.fdiv a (2 ^ 1)) &&& BitVec.ofInt IntKind.u64.bits 6148914691236517205).toNat)+(IntKind.u64.wrap (BitVec.ofInt IntKind.u64.bits a &&& BitVec.ofInt IntKind.u64.bits 6148914691236517205).toNat))) &&& BitVec.ofInt IntKind.u64.bits 3689348814741910323).toNat))))) &&& BitVec.ofInt IntKind.u64.bits 1085102592571150095).toNat) (2 ^ 8)))) (2 ^ 16)))) (2 ^ 32))))) &&& BitVec.ofInt IntKind.i64.bits 127).toNat)
noncomputable def ZdL (a:Int):Option Int:=
 (Zdq a).bind fun x0=>
 some x0
def ZrX:List Int:=[0,1,56,2,57,49,28,3,61,58,42,50,38,29,17,4,62,47,59,36,45,43,51,22,53,39,33,30,24,18,12,5,63,55,48,27,60,41,37,16,46,35,44,21,52,32,23,11,54,26,40,15,34,20,31,10,25,14,19,9,13,8,7,6]
def ZeH (a:Int):Option Int:=some (bif a==0 then 64 else w64 (ZrX.getD (Int.fdiv (IntKind.u64.wrap ((IntKind.u64.wrap (BitVec.ofInt IntKind.u64.bits a &&& BitVec.ofInt IntKind.u64.bits (IntKind.u64.wrap (0-a))).toNat)*285870213051353865)) (2 ^ (min (Int.toNat 58) IntKind.u64.bits))).toNat 0))
noncomputable def ZdK (a:Int):Option Int:=
 (ZeH a).bind fun x0=>
 some x0
noncomputable def Zj3 (a:Int):Option (Int×Bool):=
 (Zik a).bind fun x0=>
 bif (x0 != 0) then
  some (0,false)
 else
  (ZdL (IntKind.u64.wrap a)).bind fun x1=>
  bif (x1 != 1) then
   some (0,false)
  else
   (ZdK (IntKind.u64.wrap a)).bind fun x2=>
   some (x2,true)
noncomputable def Zf6 (a:Zam):Option Bool:=
 (Zch a.op 0 5).bind fun x0=>
 bif x0 then
  (Zch a.arg 0 2147483647).bind fun x1=>
  bif x1 then
   (Zch a.work 1 100).bind fun x2=>
   bif x2 then
    some false
   else
    some true
  else
   some true
 else
  some true
noncomputable def ZbA (a:(List Zam)) (b:(Zam→Option Bool)) (s0:Int):Option (Int⊕(Int⊕Unit)):=
 bif (decide (s0<(a.length:Int))) then
  (Zy a s0).bind fun x1=>
  (b x1).bind fun x2=>
  bif x2 then
   some (.inr (.inl s0))
  else
   some (.inl (w64 (s0+1)))
 else
  some (.inr (.inr ()))
noncomputable def ZcQ (a:(List Zam)) (b:(Zam→Option Bool)):Option Int:=
 (lp (ZbA a b) 0).bind fun r3=>
 match r3 with
 | (.inl r3)=>
  some r3
 | (.inr r3)=>
  some (-1)
noncomputable def ZbB (a:(List Zam)) (b:(Zam→Option Bool)):Option Bool:=
 (ZcQ a b).bind fun x0=>
 bif (decide (0≤x0)) then
  some true
 else
  some false
noncomputable def Zh3 (a:Zn) (b:Int) (c:Int):Option Bool:=
 bif (b != c) then
  (Zch b 0 (w64 ((a.parts.length:Int)-1))).bind fun x0=>
  bif x0 then
   (Zch c 0 (w64 ((a.parts.length:Int)-1))).bind fun x1=>
   bif x1 then
    some true
   else
    some false
  else
   some false
 else
  some false
noncomputable def Zb6 (a:(List Zo)) (b:Zo) (s0:Int):Option (Int⊕(Int⊕Unit)):=
 bif (decide (s0<(a.length:Int))) then
  (Zy a s0).bind fun x1=>
  bif ((b.src==x1.src)&&((b.dst==x1.dst)&&true)) then
   some (.inr (.inl s0))
  else
   some (.inl (w64 (s0+1)))
 else
  some (.inr (.inr ()))
noncomputable def Zdy (a:(List Zo)) (b:Zo):Option Int:=
 (lp (Zb6 a b) 0).bind fun r2=>
 match r2 with
 | (.inl r2)=>
  some r2
 | (.inr r2)=>
  some (-1)
noncomputable def Zbz (a:(List Zo)) (b:Zo):Option Bool:=
 (Zdy a b).bind fun x0=>
 bif (decide (0≤x0)) then
  some true
 else
  some false
noncomputable def Zd9 (a:Zk) (b1:Int) (b2:Int):Option Bool:=
 bif (a.user==b1) then
  bif (a.pos==b2) then
   some true
  else
   some false
 else
  some false
noncomputable def Zbl (a:(List Zk)) (b:(Zk→Option Bool)) (s0:Int):Option (Int⊕(Int⊕Unit)):=
 bif (decide (s0<(a.length:Int))) then
  (Zy a s0).bind fun x1=>
  (b x1).bind fun x2=>
  bif x2 then
   some (.inr (.inl s0))
  else
   some (.inl (w64 (s0+1)))
 else
  some (.inr (.inr ()))
noncomputable def Zb9 (a:(List Zk)) (b:(Zk→Option Bool)):Option Int:=
 (lp (Zbl a b) 0).bind fun r3=>
 match r3 with
 | (.inl r3)=>
  some r3
 | (.inr r3)=>
  some (-1)
noncomputable def Zbm (a:(List Zk)) (b:(Zk→Option Bool)):Option Bool:=
 (Zb9 a b).bind fun x0=>
 bif (decide (0≤x0)) then
  some true
 else
  some false
noncomputable def Zgk (a:Zn) (b:(List Int)) (s0:Int):Option (Int⊕(Unit⊕Unit)):=
 bif (decide (s0<(b.length:Int))) then
  (Zy b s0).bind fun x1=>
  (Zch x1 0 (w64 ((a.parts.length:Int)-1))).bind fun x2=>
  bif x2 then
   bif (decide (0<s0)) then
    (Zy b (w64 (s0-1))).bind fun x3=>
    bif (decide (x1≤x3)) then
     some (.inr (.inl ()))
    else
     some (.inl (w64 (s0+1)))
   else
    some (.inl (w64 (s0+1)))
  else
   some (.inr (.inl ()))
 else
  some (.inr (.inr ()))
noncomputable def Zh4 (a:Zn) (b:(List Int)):Option Bool:=
 (lp (Zgk a b) 0).bind fun r4=>
 match r4 with
 | (.inl r4)=>
  some false
 | (.inr r4)=>
  bif (decide (0<(b.length:Int))) then
   some true
  else
   some false
noncomputable def Zcq (a:(List Int)) (b:Int) (s0:Int):Option (Int⊕(Int⊕Unit)):=
 bif (decide (s0<(a.length:Int))) then
  (Zy a s0).bind fun x1=>
  bif (b==x1) then
   some (.inr (.inl s0))
  else
   some (.inl (w64 (s0+1)))
 else
  some (.inr (.inr ()))
noncomputable def ZdZ (a:(List Int)) (b:Int):Option Int:=
 (lp (Zcq a b) 0).bind fun r2=>
 match r2 with
 | (.inl r2)=>
  some r2
 | (.inr r2)=>
  some (-1)
noncomputable def Zco (a:(List Int)) (b:Int):Option Bool:=
 (ZdZ a b).bind fun x0=>
 bif (decide (0≤x0)) then
  some true
 else
  some false
noncomputable def Zeb (a:Int) (b1:(List Int)):Option Bool:=
 (Zco b1 a).bind fun x0=>
 bif x0 then
  some true
 else
  some false
noncomputable def Za4 (a:(List Int)) (b:(Int→Option Bool)) (s0:Int):Option (Int⊕(Int⊕Unit)):=
 bif (decide (s0<(a.length:Int))) then
  (Zy a s0).bind fun x1=>
  (b x1).bind fun x2=>
  bif x2 then
   some (.inr (.inl s0))
  else
   some (.inl (w64 (s0+1)))
 else
  some (.inr (.inr ()))
noncomputable def ZbC (a:(List Int)) (b:(Int→Option Bool)):Option Int:=
 (lp (Za4 a b) 0).bind fun r3=>
 match r3 with
 | (.inl r3)=>
  some r3
 | (.inr r3)=>
  some (-1)
noncomputable def ZaH (a:(List Int)) (b:(Int→Option Bool)):Option Bool:=
 (ZbC a b).bind fun x0=>
 bif (decide (0≤x0)) then
  some true
 else
  some false
noncomputable def Zen (a:Zn) (s4:Int):Option (Int⊕(Unit⊕Unit)):=
 bif (decide (s4<(a.edges.length:Int))) then
  (Zy a.edges s4).bind fun x5=>
  (Zh3 a x5.src x5.dst).bind fun x6=>
  bif x6 then
   bif (decide (0≤s4)) then
    bif (Nat.ble s4.toNat (List.length a.edges)) then
     (Zbz (List.take s4.toNat a.edges) x5).bind fun x7=>
     bif x7 then
      some (.inr (.inl ()))
     else
      some (.inl (w64 (s4+1)))
    else
     none
   else
    none
  else
   some (.inr (.inl ()))
 else
  some (.inr (.inr ()))
noncomputable def Zer (a:Zn) (s9:Int):Option (Int⊕(Unit⊕Unit)):=
 bif (decide (s9<(a.futures.length:Int))) then
  (Zy a.futures s9).bind fun x10=>
  (Zh3 a x10.maker x10.user).bind fun x11=>
  bif x11 then
   (Zy a.parts x10.user).bind fun x12=>
   (Zch x10.pos 1 (w64 (x12.work-1))).bind fun x13=>
   bif x13 then
    bif (decide (0≤s9)) then
     bif (Nat.ble s9.toNat (List.length a.futures)) then
      (Zbm (List.take s9.toNat a.futures) (fun z0=>Zd9 z0 x10.user x10.pos)).bind fun x14=>
      bif x14 then
       some (.inr (.inl ()))
      else
       some (.inl (w64 (s9+1)))
     else
      none
    else
     none
   else
    some (.inr (.inl ()))
  else
   some (.inr (.inl ()))
 else
  some (.inr (.inr ()))
noncomputable def Zep (a:Zn) (s16:Int):Option (Int⊕(Unit⊕Unit)):=
 bif (decide (s16<(a.barriers.length:Int))) then
  (Zy a.barriers s16).bind fun x17=>
  (Zh4 a x17.ins).bind fun x18=>
  bif x18 then
   (Zh4 a x17.outs).bind fun x19=>
   bif x19 then
    (ZaH x17.ins (fun z0=>Zeb z0 x17.outs)).bind fun x20=>
    bif x20 then
     some (.inr (.inl ()))
    else
     some (.inl (w64 (s16+1)))
   else
    some (.inr (.inl ()))
  else
   some (.inr (.inl ()))
 else
  some (.inr (.inr ()))
noncomputable def ZgY (a:Zn):Option Int:=
 (Zch (a.parts.length:Int) 1 16).bind fun x0=>
 bif x0 then
  bif (decide (48<(a.edges.length:Int))) then
   some 50
  else
   bif (decide (16<(a.futures.length:Int))) then
    some 50
   else
    bif (decide (4<(a.barriers.length:Int))) then
     some 50
    else
     (Zj3 a.period).bind fun x1=>
     bif x1.2 then
      bif (decide (4096<a.period)) then
       some 51
      else
       (Zch a.deadline 1 a.period).bind fun x2=>
       bif x2 then
        (ZbB a.parts (fun z0=>Zf6 z0)).bind fun x3=>
        bif x3 then
         some 52
        else
         (lp (Zen a) 0).bind fun r8=>
         match r8 with
         | (.inl r8)=>
          some 53
         | (.inr r8)=>
          (lp (Zer a) 0).bind fun r15=>
          match r15 with
          | (.inl r15)=>
           some 54
          | (.inr r15)=>
           (lp (Zep a) 0).bind fun r21=>
           match r21 with
           | (.inl r21)=>
            some 55
           | (.inr r21)=>
            some 0
       else
        some 51
     else
      some 51
 else
  some 50
noncomputable def Zw (a:Int) (b:Int) (c4:(List Zk)):Option Int:=
 (Zy c4 a).bind fun x0=>
 (Zy c4 b).bind fun x1=>
 some (w64 (x0.pos-x1.pos))
noncomputable def ZhO (a:Int):Option Int:=
 bif (decide (4294967296≤a)) then
  bif (decide (65536≤(Int.fdiv a (2 ^ 32)))) then
   bif (decide (256≤(Int.fdiv (Int.fdiv a (2 ^ 32)) (2 ^ 16)))) then
    bif (decide (0≤(IntKind.u8.wrap (Int.fdiv (Int.fdiv (Int.fdiv a (2 ^ 32)) (2 ^ 16)) (2 ^ 8))))) then
     (Zsb[(IntKind.u8.wrap (Int.fdiv (Int.fdiv (Int.fdiv a (2 ^ 32)) (2 ^ 16)) (2 ^ 8))).toNat]?).bind fun x0=>
     some (w64 (56+(w64 (x0.toNat:Int))))
    else
     none
   else
    bif (decide (0≤(IntKind.u8.wrap (Int.fdiv (Int.fdiv a (2 ^ 32)) (2 ^ 16))))) then
     (Zsb[(IntKind.u8.wrap (Int.fdiv (Int.fdiv a (2 ^ 32)) (2 ^ 16))).toNat]?).bind fun x1=>
     some (w64 (48+(w64 (x1.toNat:Int))))
    else
     none
  else
   bif (decide (256≤(Int.fdiv a (2 ^ 32)))) then
    bif (decide (0≤(IntKind.u8.wrap (Int.fdiv (Int.fdiv a (2 ^ 32)) (2 ^ 8))))) then
     (Zsb[(IntKind.u8.wrap (Int.fdiv (Int.fdiv a (2 ^ 32)) (2 ^ 8))).toNat]?).bind fun x2=>
     some (w64 (40+(w64 (x2.toNat:Int))))
    else
     none
   else
    bif (decide (0≤(IntKind.u8.wrap (Int.fdiv a (2 ^ 32))))) then
     (Zsb[(IntKind.u8.wrap (Int.fdiv a (2 ^ 32))).toNat]?).bind fun x3=>
     some (w64 (32+(w64 (x3.toNat:Int))))
    else
     none
 else
  bif (decide (65536≤a)) then
   bif (decide (256≤(Int.fdiv a (2 ^ 16)))) then
    bif (decide (0≤(IntKind.u8.wrap (Int.fdiv (Int.fdiv a (2 ^ 16)) (2 ^ 8))))) then
     (Zsb[(IntKind.u8.wrap (Int.fdiv (Int.fdiv a (2 ^ 16)) (2 ^ 8))).toNat]?).bind fun x4=>
     some (w64 (24+(w64 (x4.toNat:Int))))
    else
     none
   else
    bif (decide (0≤(IntKind.u8.wrap (Int.fdiv a (2 ^ 16))))) then
     (Zsb[(IntKind.u8.wrap (Int.fdiv a (2 ^ 16))).toNat]?).bind fun x5=>
     some (w64 (16+(w64 (x5.toNat:Int))))
    else
     none
  else
   bif (decide (256≤a)) then
    bif (decide (0≤(IntKind.u8.wrap (Int.fdiv a (2 ^ 8))))) then
     (Zsb[(IntKind.u8.wrap (Int.fdiv a (2 ^ 8))).toNat]?).bind fun x6=>
     some (w64 (8+(w64 (x6.toNat:Int))))
    else
     none
   else
    bif (decide (0≤(IntKind.u8.wrap a))) then
     (Zsb[(IntKind.u8.wrap a).toNat]?).bind fun x7=>
     some (w64 (0+(w64 (x7.toNat:Int))))
    else
     none
noncomputable def Zet (a:Int):Option Int:=
 (ZhO a).bind fun x0=>
 some x0
noncomputable def Z3 (b:Int) (d:(Int→Int→Option Int)) (s1:Int×(List Int)):Option ((Int×(List Int))⊕(List Int)):=
 bif (decide (b<s1.1)) then
  (Zy s1.2 s1.1).bind fun x2=>
  (Zy s1.2 (w64 (s1.1-1))).bind fun x3=>
  (d x2 x3).bind fun x4=>
  bif (decide (x4<0)) then
   (Zy (List.set s1.2 s1.1.toNat x3) (w64 (s1.1-1))).bind fun x5=>
   some (.inl ((w64 (s1.1-1)),(List.set (List.set s1.2 s1.1.toNat x3) (w64 (s1.1-1)).toNat x2)))
  else
   some (.inr s1.2)
 else
  some (.inr s1.2)
noncomputable def Zak (b:Int) (c:Int) (d:(Int→Int→Option Int)) (s0:Int×(List Int)):Option ((Int×(List Int))⊕(List Int)):=
 bif (decide (s0.1<c)) then
  (lp (Z3 b d) (s0.1,s0.2)).bind fun r6=>
  some (.inl ((w64 (s0.1+1)),r6))
 else
  some (.inr s0.2)
noncomputable def Z4 (b:Int) (c:Int) (d:(Int→Int→Option Int)) (m0_0:(List Int)):Option (List Int):=
 (lp (Zak b c d) ((w64 (b+1)),m0_0)).bind fun r7=>
 some r7
noncomputable def ZM (c:Int) (d:Int) (e:(Int→Int→Option Int)) (s0:Int×(List Int)):Option ((Int×(List Int))⊕((List Int)⊕(List Int))):=
 bif (decide (c≤(w64 ((w64 (2*s0.1))+1)))) then
  some (.inr (.inl s0.2))
 else
  bif (decide ((w64 ((w64 ((w64 (2*s0.1))+1))+1))<c)) then
   (Zy s0.2 (w64 (d+(w64 ((w64 (2*s0.1))+1))))).bind fun x1=>
   (Zy s0.2 (w64 ((w64 (d+(w64 ((w64 (2*s0.1))+1))))+1))).bind fun x2=>
   (e x1 x2).bind fun x3=>
   bif (decide (x3<0)) then
    (Zy s0.2 (w64 (d+s0.1))).bind fun x4=>
    (Zy s0.2 (w64 (d+(w64 ((w64 ((w64 (2*s0.1))+1))+1))))).bind fun x5=>
    (e x4 x5).bind fun x6=>
    bif (decide (x6<0)) then
     (Zy (List.set s0.2 (w64 (d+s0.1)).toNat x5) (w64 (d+(w64 ((w64 ((w64 (2*s0.1))+1))+1))))).bind fun x7=>
     some (.inl ((w64 ((w64 ((w64 (2*s0.1))+1))+1)),(List.set (List.set s0.2 (w64 (d+s0.1)).toNat x5) (w64 (d+(w64 ((w64 ((w64 (2*s0.1))+1))+1)))).toNat x4)))
    else
     some (.inr (.inr s0.2))
   else
    (Zy s0.2 (w64 (d+s0.1))).bind fun x8=>
    (e x8 x1).bind fun x9=>
    bif (decide (x9<0)) then
     (Zy (List.set s0.2 (w64 (d+s0.1)).toNat x1) (w64 (d+(w64 ((w64 (2*s0.1))+1))))).bind fun x10=>
     some (.inl ((w64 ((w64 (2*s0.1))+1)),(List.set (List.set s0.2 (w64 (d+s0.1)).toNat x1) (w64 (d+(w64 ((w64 (2*s0.1))+1)))).toNat x8)))
    else
     some (.inr (.inr s0.2))
  else
   (Zy s0.2 (w64 (d+s0.1))).bind fun x11=>
   (Zy s0.2 (w64 (d+(w64 ((w64 (2*s0.1))+1))))).bind fun x12=>
   (e x11 x12).bind fun x13=>
   bif (decide (x13<0)) then
    (Zy (List.set s0.2 (w64 (d+s0.1)).toNat x12) (w64 (d+(w64 ((w64 (2*s0.1))+1))))).bind fun x14=>
    some (.inl ((w64 ((w64 (2*s0.1))+1)),(List.set (List.set s0.2 (w64 (d+s0.1)).toNat x12) (w64 (d+(w64 ((w64 (2*s0.1))+1)))).toNat x11)))
   else
    some (.inr (.inr s0.2))
noncomputable def ZaK (b:Int) (c:Int) (d:Int) (e:(Int→Int→Option Int)) (m0_0:(List Int)):Option (List Int):=
 (lp (ZM c d e) (b,m0_0)).bind fun r15=>
 match r15 with
 | (.inl r15)=>
  some r15
 | (.inr r15)=>
  some r15
noncomputable def ZaG (b:Int) (c:Int) (d:(Int→Int→Option Int)) (s0:Int×(List Int)):Option ((Int×(List Int))⊕(List Int)):=
 bif (decide (0≤s0.1)) then
  (ZaK s0.1 (w64 (c-b)) b d s0.2).bind fun x1=>
  some (.inl ((w64 (s0.1-1)),x1))
 else
  some (.inr s0.2)
noncomputable def ZaJ (b:Int) (d:(Int→Int→Option Int)) (s3:Int×(List Int)):Option ((Int×(List Int))⊕(List Int)):=
 bif (decide (0≤s3.1)) then
  (Zy s3.2 (w64 (b+s3.1))).bind fun x4=>
  (Zy s3.2 b).bind fun x5=>
  (Zy (List.set s3.2 b.toNat x4) (w64 (b+s3.1))).bind fun x6=>
  (ZaK 0 s3.1 b d (List.set (List.set s3.2 b.toNat x4) (w64 (b+s3.1)).toNat x5)).bind fun x7=>
  some (.inl ((w64 (s3.1-1)),x7))
 else
  some (.inr s3.2)
noncomputable def Zag (b:Int) (c:Int) (d:(Int→Int→Option Int)) (m0_0:(List Int)):Option (List Int):=
 (lp (ZaG b c d) ((w64 (Int.tdiv (w64 ((w64 (c-b))-1)) 2)),m0_0)).bind fun r2=>
 (lp (ZaJ b d) ((w64 ((w64 (c-b))-1)),r2)).bind fun r8=>
 some r8
noncomputable def ZaX (b:Int) (c:Int) (e:(Int→Int→Option Int)) (m0_0:(List Int)) (m1_0:Int):Option (Int×Int×Int):=
 (Zy m0_0 c).bind fun x0=>
 (Zy m0_0 b).bind fun x1=>
 (e x0 x1).bind fun x2=>
 bif (decide (x2<0)) then
  some (c,b,(w64 (m1_0+1)))
 else
  some (b,c,m1_0)
noncomputable def ZaW (b:Int) (c:Int) (d:Int) (f:(Int→Int→Option Int)) (m0_0:(List Int)) (m1_0:Int):Option (Int×Int):=
 (ZaX b c f m0_0 m1_0).bind fun x0=>
 (ZaX x0.2.1 d f m0_0 x0.2.2).bind fun x1=>
 (ZaX x0.1 x1.1 f m0_0 x1.2.2).bind fun x2=>
 some (x2.2.1,x2.2.2)
noncomputable def Zad (b:Int) (d:(Int→Int→Option Int)) (m0_0:(List Int)) (m1_0:Int):Option (Int×Int):=
 (ZaW (w64 (b-1)) b (w64 (b+1)) d m0_0 m1_0).bind fun x0=>
 some (x0.1,x0.2)
noncomputable def ZU (b:Int) (c:Int) (d:(Int→Int→Option Int)) (m0_0:(List Int)):Option (Int×Int):=
 bif (decide (8≤(w64 (c-b)))) then
  bif (decide (50≤(w64 (c-b)))) then
   (Zad (w64 (b+(w64 ((w64 (Int.tdiv (w64 (c-b)) 4))*1)))) d m0_0 0).bind fun x0=>
   (Zad (w64 (b+(w64 ((w64 (Int.tdiv (w64 (c-b)) 4))*2)))) d m0_0 x0.2).bind fun x1=>
   (Zad (w64 (b+(w64 ((w64 (Int.tdiv (w64 (c-b)) 4))*3)))) d m0_0 x1.2).bind fun x2=>
   (ZaW x0.1 x1.1 x2.1 d m0_0 x2.2).bind fun x3=>
   bif (x3.2==0) then
    some (x3.1,1)
   else
    bif (x3.2==12) then
     some (x3.1,2)
    else
     some (x3.1,0)
  else
   (ZaW (w64 (b+(w64 ((w64 (Int.tdiv (w64 (c-b)) 4))*1)))) (w64 (b+(w64 ((w64 (Int.tdiv (w64 (c-b)) 4))*2)))) (w64 (b+(w64 ((w64 (Int.tdiv (w64 (c-b)) 4))*3)))) d m0_0 0).bind fun x4=>
   bif (x4.2==0) then
    some (x4.1,1)
   else
    bif (x4.2==12) then
     some (x4.1,2)
    else
     some (x4.1,0)
 else
  some ((w64 (b+(w64 ((w64 (Int.tdiv (w64 (c-b)) 4))*2)))),1)
noncomputable def Zaa (s0:Int×Int×(List Int)):Option ((Int×Int×(List Int))⊕(List Int)):=
 bif (decide (s0.1<s0.2.1)) then
  (Zy s0.2.2 s0.2.1).bind fun x1=>
  (Zy s0.2.2 s0.1).bind fun x2=>
  (Zy (List.set s0.2.2 s0.1.toNat x1) s0.2.1).bind fun x3=>
  some (.inl ((w64 (s0.1+1)),(w64 (s0.2.1-1)),(List.set (List.set s0.2.2 s0.1.toNat x1) s0.2.1.toNat x2)))
 else
  some (.inr s0.2.2)
noncomputable def ZO (b:Int) (c:Int) (d:(Int→Int→Option Int)) (m0_0:(List Int)):Option (List Int):=
 (lp (Zaa) (b,(w64 (c-1)),m0_0)).bind fun r4=>
 some r4
noncomputable def ZK (c:Int) (d:(Int→Int→Option Int)) (s0:Int×Int×(List Int)) (s1:Int):Option (Int⊕Int):=
 bif (decide (s1<c)) then
  (Zy s0.2.2 s1).bind fun x2=>
  (Zy s0.2.2 (w64 (s1-1))).bind fun x3=>
  (d x2 x3).bind fun x4=>
  bif (decide (x4<0)) then
   some (.inr s1)
  else
   some (.inl (w64 (s1+1)))
 else
  some (.inr s1)
noncomputable def ZT (d:(Int→Int→Option Int)) (s9:Int×(List Int)):Option ((Int×(List Int))⊕(List Int)):=
 bif (decide (1≤s9.1)) then
  (Zy s9.2 s9.1).bind fun x10=>
  (Zy s9.2 (w64 (s9.1-1))).bind fun x11=>
  (d x10 x11).bind fun x12=>
  bif (decide (x12<0)) then
   (Zy (List.set s9.2 s9.1.toNat x11) (w64 (s9.1-1))).bind fun x13=>
   some (.inl ((w64 (s9.1-1)),(List.set (List.set s9.2 s9.1.toNat x11) (w64 (s9.1-1)).toNat x10)))
  else
   some (.inr s9.2)
 else
  some (.inr s9.2)
noncomputable def ZH (c:Int) (d:(Int→Int→Option Int)) (s15:Int×(List Int)):Option ((Int×(List Int))⊕(List Int)):=
 bif (decide (s15.1<c)) then
  (Zy s15.2 s15.1).bind fun x16=>
  (Zy s15.2 (w64 (s15.1-1))).bind fun x17=>
  (d x16 x17).bind fun x18=>
  bif (decide (x18<0)) then
   (Zy (List.set s15.2 s15.1.toNat x17) (w64 (s15.1-1))).bind fun x19=>
   some (.inl ((w64 (s15.1+1)),(List.set (List.set s15.2 s15.1.toNat x17) (w64 (s15.1-1)).toNat x16)))
  else
   some (.inr s15.2)
 else
  some (.inr s15.2)
noncomputable def ZS (b:Int) (c:Int) (d:(Int→Int→Option Int)) (s0:Int×Int×(List Int)):Option ((Int×Int×(List Int))⊕((List Int)⊕((List Int)⊕(List Int)))):=
 bif (decide (s0.2.1<5)) then
  (lp (ZK c d s0) s0.1).bind fun r5=>
  bif (r5==c) then
   some (.inr (.inl s0.2.2))
  else
   bif (decide ((w64 (c-b))<50)) then
    some (.inr (.inr (.inl s0.2.2)))
   else
    (Zy s0.2.2 (w64 (r5-1))).bind fun x6=>
    (Zy s0.2.2 r5).bind fun x7=>
    (Zy (List.set s0.2.2 r5.toNat x6) (w64 (r5-1))).bind fun x8=>
    bif (decide (2≤(w64 (r5-b)))) then
     (lp (ZT d) ((w64 (r5-1)),(List.set (List.set s0.2.2 r5.toNat x6) (w64 (r5-1)).toNat x7))).bind fun r14=>
     bif (decide (2≤(w64 (c-r5)))) then
      (lp (ZH c d) ((w64 (r5+1)),r14)).bind fun r20=>
      some (.inl (r5,(w64 (s0.2.1+1)),r20))
     else
      some (.inl (r5,(w64 (s0.2.1+1)),r14))
    else
     bif (decide (2≤(w64 (c-r5)))) then
      (lp (ZH c d) ((w64 (r5+1)),(List.set (List.set s0.2.2 r5.toNat x6) (w64 (r5-1)).toNat x7))).bind fun r26=>
      some (.inl (r5,(w64 (s0.2.1+1)),r26))
     else
      some (.inl (r5,(w64 (s0.2.1+1)),(List.set (List.set s0.2.2 r5.toNat x6) (w64 (r5-1)).toNat x7)))
 else
  some (.inr (.inr (.inr s0.2.2)))
noncomputable def ZP (b:Int) (c:Int) (d:(Int→Int→Option Int)) (m0_0:(List Int)):Option ((List Int)⊕(List Int)):=
 (lp (ZS b c d) ((w64 (b+1)),0,m0_0)).bind fun r27=>
 match r27 with
 | (.inl r27)=>
  some (.inl r27)
 | (.inr (.inl r27))=>
  some (.inr r27)
 | (.inr (.inr r27))=>
  some (.inr r27)
noncomputable def ZaC (b:Int) (c:Int) (d:Int) (m0_0:(List Int)) (e:(Int→Int→Option Int)) (x0:Int) (x1:Int) (s3:Int):Option (Int⊕Int):=
 bif (decide (s3≤(w64 (c-1)))) then
  (Zy (List.set (List.set m0_0 b.toNat x0) d.toNat x1) s3).bind fun x4=>
  (Zy (List.set (List.set m0_0 b.toNat x0) d.toNat x1) b).bind fun x5=>
  (e x4 x5).bind fun x6=>
  bif (decide (x6<0)) then
   some (.inl (w64 (s3+1)))
  else
   some (.inr s3)
 else
  some (.inr s3)
noncomputable def ZaA (b:Int) (d:Int) (m0_0:(List Int)) (e:(Int→Int→Option Int)) (x0:Int) (x1:Int) (r7:Int) (s8:Int):Option (Int⊕Int):=
 bif (decide (r7≤s8)) then
  (Zy (List.set (List.set m0_0 b.toNat x0) d.toNat x1) s8).bind fun x9=>
  (Zy (List.set (List.set m0_0 b.toNat x0) d.toNat x1) b).bind fun x10=>
  (e x9 x10).bind fun x11=>
  bif (decide (x11<0)) then
   some (.inr s8)
  else
   some (.inl (w64 (s8-1)))
 else
  some (.inr s8)
noncomputable def ZaD (b:Int) (e:(Int→Int→Option Int)) (s19:Int×Int×(List Int)) (s20:Int):Option (Int⊕Int):=
 bif (decide (s20≤s19.2.1)) then
  (Zy s19.2.2 s20).bind fun x21=>
  (Zy s19.2.2 b).bind fun x22=>
  (e x21 x22).bind fun x23=>
  bif (decide (x23<0)) then
   some (.inl (w64 (s20+1)))
  else
   some (.inr s20)
 else
  some (.inr s20)
noncomputable def Zaz (b:Int) (e:(Int→Int→Option Int)) (s19:Int×Int×(List Int)) (r24:Int) (s25:Int):Option (Int⊕Int):=
 bif (decide (r24≤s25)) then
  (Zy s19.2.2 s25).bind fun x26=>
  (Zy s19.2.2 b).bind fun x27=>
  (e x26 x27).bind fun x28=>
  bif (decide (x28<0)) then
   some (.inr s25)
  else
   some (.inl (w64 (s25-1)))
 else
  some (.inr s25)
noncomputable def ZaZ (b:Int) (e:(Int→Int→Option Int)) (s19:Int×Int×(List Int)):Option ((Int×Int×(List Int))⊕(Int×(List Int))):=
 (lp (ZaD b e s19) s19.1).bind fun r24=>
 (lp (Zaz b e s19 r24) s19.2.1).bind fun r29=>
 bif (decide (r29<r24)) then
  some (.inr (r29,s19.2.2))
 else
  (Zy s19.2.2 r29).bind fun x30=>
  (Zy s19.2.2 r24).bind fun x31=>
  (Zy (List.set s19.2.2 r24.toNat x30) r29).bind fun x32=>
  some (.inl ((w64 (r24+1)),(w64 (r29-1)),(List.set (List.set s19.2.2 r24.toNat x30) r29.toNat x31)))
noncomputable def Zr (b:Int) (c:Int) (d:Int) (e:(Int→Int→Option Int)) (m0_0:(List Int)):Option ((Int×(List Int))⊕(Int×(List Int))):=
 (Zy m0_0 d).bind fun x0=>
 (Zy m0_0 b).bind fun x1=>
 (Zy (List.set m0_0 b.toNat x0) d).bind fun x2=>
 (lp (ZaC b c d m0_0 e x0 x1) (w64 (b+1))).bind fun r7=>
 (lp (ZaA b d m0_0 e x0 x1 r7) (w64 (c-1))).bind fun r12=>
 bif (decide (r12<r7)) then
  (Zy (List.set (List.set m0_0 b.toNat x0) d.toNat x1) b).bind fun x13=>
  (Zy (List.set (List.set m0_0 b.toNat x0) d.toNat x1) r12).bind fun x14=>
  (Zy (List.set (List.set (List.set m0_0 b.toNat x0) d.toNat x1) r12.toNat x13) b).bind fun x15=>
  some (.inl (r12,(List.set (List.set (List.set (List.set m0_0 b.toNat x0) d.toNat x1) r12.toNat x13) b.toNat x14)))
 else
  (Zy (List.set (List.set m0_0 b.toNat x0) d.toNat x1) r12).bind fun x16=>
  (Zy (List.set (List.set m0_0 b.toNat x0) d.toNat x1) r7).bind fun x17=>
  (Zy (List.set (List.set (List.set m0_0 b.toNat x0) d.toNat x1) r7.toNat x16) r12).bind fun x18=>
  (lp (ZaZ b e) ((w64 (r7+1)),(w64 (r12-1)),(List.set (List.set (List.set (List.set m0_0 b.toNat x0) d.toNat x1) r7.toNat x16) r12.toNat x17))).bind fun r33=>
  (Zy r33.2 b).bind fun x34=>
  (Zy r33.2 r33.1).bind fun x35=>
  (Zy (List.set r33.2 r33.1.toNat x34) b).bind fun x36=>
  some (.inr (r33.1,(List.set (List.set r33.2 r33.1.toNat x34) b.toNat x35)))
noncomputable def Zae (b:Int) (e:(Int→Int→Option Int)) (s3:Int×Int×(List Int)) (s4:Int):Option (Int⊕Int):=
 bif (decide (s4≤s3.2.1)) then
  (Zy s3.2.2 b).bind fun x5=>
  (Zy s3.2.2 s4).bind fun x6=>
  (e x5 x6).bind fun x7=>
  bif (decide (x7<0)) then
   some (.inr s4)
  else
   some (.inl (w64 (s4+1)))
 else
  some (.inr s4)
noncomputable def Zaf (b:Int) (e:(Int→Int→Option Int)) (s3:Int×Int×(List Int)) (r8:Int) (s9:Int):Option (Int⊕Int):=
 bif (decide (r8≤s9)) then
  (Zy s3.2.2 b).bind fun x10=>
  (Zy s3.2.2 s9).bind fun x11=>
  (e x10 x11).bind fun x12=>
  bif (decide (x12<0)) then
   some (.inl (w64 (s9-1)))
  else
   some (.inr s9)
 else
  some (.inr s9)
noncomputable def Zar (b:Int) (e:(Int→Int→Option Int)) (s3:Int×Int×(List Int)):Option ((Int×Int×(List Int))⊕(Int×(List Int))):=
 (lp (Zae b e s3) s3.1).bind fun r8=>
 (lp (Zaf b e s3 r8) s3.2.1).bind fun r13=>
 bif (decide (r13<r8)) then
  some (.inr (r8,s3.2.2))
 else
  (Zy s3.2.2 r13).bind fun x14=>
  (Zy s3.2.2 r8).bind fun x15=>
  (Zy (List.set s3.2.2 r8.toNat x14) r13).bind fun x16=>
  some (.inl ((w64 (r8+1)),(w64 (r13-1)),(List.set (List.set s3.2.2 r8.toNat x14) r13.toNat x15)))
noncomputable def ZD (b:Int) (c:Int) (d:Int) (e:(Int→Int→Option Int)) (m0_0:(List Int)):Option (Int×(List Int)):=
 (Zy m0_0 d).bind fun x0=>
 (Zy m0_0 b).bind fun x1=>
 (Zy (List.set m0_0 b.toNat x0) d).bind fun x2=>
 (lp (Zar b e) ((w64 (b+1)),(w64 (c-1)),(List.set (List.set m0_0 b.toNat x0) d.toNat x1))).bind fun r17=>
 some (r17.1,r17.2)
noncomputable def Zcx (a:Int):Option Int:=
 (Zet (IntKind.u64.wrap a)).bind fun x0=>
 bif (decide (x0<0)) then
  none
 else
  some (IntKind.u64.wrap (1*2 ^ (min (x0).toNat IntKind.u64.bits)))
noncomputable def ZdC:Option Unit:=
 some ()
noncomputable def Zax (b:Int) (c:Int) (x0:Int) (s1:Int×(List Int)×Int):Option ((Int×(List Int)×Int)⊕(List Int)):=
 bif (decide (s1.1≤(w64 ((w64 (b+(w64 ((w64 (Int.tdiv (w64 (c-b)) 4))*2))))+1)))) then
  ZdC.bind fun x2=>
  bif (decide ((w64 (c-b))≤(w64 (IntKind.u64.wrap (BitVec.ofInt IntKind.u64.bits (IntKind.u64.wrap (BitVec.ofInt IntKind.u64.bits (IntKind.u64.wrap (BitVec.ofInt IntKind.u64.bits (IntKind.u64.wrap (BitVec.ofInt IntKind.u64.bits s1.2.2 ^^^ BitVec.ofInt IntKind.u64.bits (IntKind.u64.wrap (s1.2.2*2 ^ 13))).toNat) ^^^ BitVec.ofInt IntKind.u64.bits (Int.fdiv (IntKind.u64.wrap (BitVec.ofInt IntKind.u64.bits s1.2.2 ^^^ BitVec.ofInt IntKind.u64.bits (IntKind.u64.wrap (s1.2.2*2 ^ 13))).toNat) (2 ^ 7))).toNat) ^^^ BitVec.ofInt IntKind.u64.bits (IntKind.u64.wrap ((IntKind.u64.wrap (BitVec.ofInt IntKind.u64.bits (IntKind.u64.wrap (BitVec.ofInt IntKind.u64.bits s1.2.2 ^^^ BitVec.ofInt IntKind.u64.bits (IntKind.u64.wrap (s1.2.2*2 ^ 13))).toNat) ^^^ BitVec.ofInt IntKind.u64.bits (Int.fdiv (IntKind.u64.wrap (BitVec.ofInt IntKind.u64.bits s1.2.2 ^^^ BitVec.ofInt IntKind.u64.bits (IntKind.u64.wrap (s1.2.2*2 ^ 13))).toNat) (2 ^ 7))).toNat)*2 ^ 17))).toNat) &&& BitVec.ofInt IntKind.u64.bits (IntKind.u64.wrap (x0-1))).toNat)))) then
   (Zy s1.2.1 (w64 (b+(w64 ((w64 (IntKind.u64.wrap (BitVec.ofInt IntKind.u64.bits (IntKind.u64.wrap (BitVec.ofInt IntKind.u64.bits (IntKind.u64.wrap (BitVec.ofInt IntKind.u64.bits (IntKind.u64.wrap (BitVec.ofInt IntKind.u64.bits s1.2.2 ^^^ BitVec.ofInt IntKind.u64.bits (IntKind.u64.wrap (s1.2.2*2 ^ 13))).toNat) ^^^ BitVec.ofInt IntKind.u64.bits (Int.fdiv (IntKind.u64.wrap (BitVec.ofInt IntKind.u64.bits s1.2.2 ^^^ BitVec.ofInt IntKind.u64.bits (IntKind.u64.wrap (s1.2.2*2 ^ 13))).toNat) (2 ^ 7))).toNat) ^^^ BitVec.ofInt IntKind.u64.bits (IntKind.u64.wrap ((IntKind.u64.wrap (BitVec.ofInt IntKind.u64.bits (IntKind.u64.wrap (BitVec.ofInt IntKind.u64.bits s1.2.2 ^^^ BitVec.ofInt IntKind.u64.bits (IntKind.u64.wrap (s1.2.2*2 ^ 13))).toNat) ^^^ BitVec.ofInt IntKind.u64.bits (Int.fdiv (IntKind.u64.wrap (BitVec.ofInt IntKind.u64.bits s1.2.2 ^^^ BitVec.ofInt IntKind.u64.bits (IntKind.u64.wrap (s1.2.2*2 ^ 13))).toNat) (2 ^ 7))).toNat)*2 ^ 17))).toNat) &&& BitVec.ofInt IntKind.u64.bits (IntKind.u64.wrap (x0-1))).toNat))-(w64 (c-b))))))).bind fun x3=>
   (Zy s1.2.1 s1.1).bind fun x4=>
   (Zy (List.set s1.2.1 s1.1.toNat x3) (w64 (b+(w64 ((w64 (IntKind.u64.wrap (BitVec.ofInt IntKind.u64.bits (IntKind.u64.wrap (BitVec.ofInt IntKind.u64.bits (IntKind.u64.wrap (BitVec.ofInt IntKind.u64.bits (IntKind.u64.wrap (BitVec.ofInt IntKind.u64.bits s1.2.2 ^^^ BitVec.ofInt IntKind.u64.bits (IntKind.u64.wrap (s1.2.2*2 ^ 13))).toNat) ^^^ BitVec.ofInt IntKind.u64.bits (Int.fdiv (IntKind.u64.wrap (BitVec.ofInt IntKind.u64.bits s1.2.2 ^^^ BitVec.ofInt IntKind.u64.bits (IntKind.u64.wrap (s1.2.2*2 ^ 13))).toNat) (2 ^ 7))).toNat) ^^^ BitVec.ofInt IntKind.u64.bits (IntKind.u64.wrap ((IntKind.u64.wrap (BitVec.ofInt IntKind.u64.bits (IntKind.u64.wrap (BitVec.ofInt IntKind.u64.bits s1.2.2 ^^^ BitVec.ofInt IntKind.u64.bits (IntKind.u64.wrap (s1.2.2*2 ^ 13))).toNat) ^^^ BitVec.ofInt IntKind.u64.bits (Int.fdiv (IntKind.u64.wrap (BitVec.ofInt IntKind.u64.bits s1.2.2 ^^^ BitVec.ofInt IntKind.u64.bits (IntKind.u64.wrap (s1.2.2*2 ^ 13))).toNat) (2 ^ 7))).toNat)*2 ^ 17))).toNat) &&& BitVec.ofInt IntKind.u64.bits (IntKind.u64.wrap (x0-1))).toNat))-(w64 (c-b))))))).bind fun x5=>
   some (.inl ((w64 (s1.1+1)),(List.set (List.set s1.2.1 s1.1.toNat x3) (w64 (b+(w64 ((w64 (IntKind.u64.wrap (BitVec.ofInt IntKind.u64.bits (IntKind.u64.wrap (BitVec.ofInt IntKind.u64.bits (IntKind.u64.wrap (BitVec.ofInt IntKind.u64.bits (IntKind.u64.wrap (BitVec.ofInt IntKind.u64.bits s1.2.2 ^^^ BitVec.ofInt IntKind.u64.bits (IntKind.u64.wrap (s1.2.2*2 ^ 13))).toNat) ^^^ BitVec.ofInt IntKind.u64.bits (Int.fdiv (IntKind.u64.wrap (BitVec.ofInt IntKind.u64.bits s1.2.2 ^^^ BitVec.ofInt IntKind.u64.bits (IntKind.u64.wrap (s1.2.2*2 ^ 13))).toNat) (2 ^ 7))).toNat) ^^^ BitVec.ofInt IntKind.u64.bits (IntKind.u64.wrap ((IntKind.u64.wrap (BitVec.ofInt IntKind.u64.bits (IntKind.u64.wrap (BitVec.ofInt IntKind.u64.bits s1.2.2 ^^^ BitVec.ofInt IntKind.u64.bits (IntKind.u64.wrap (s1.2.2*2 ^ 13))).toNat) ^^^ BitVec.ofInt IntKind.u64.bits (Int.fdiv (IntKind.u64.wrap (BitVec.ofInt IntKind.u64.bits s1.2.2 ^^^ BitVec.ofInt IntKind.u64.bits (IntKind.u64.wrap (s1.2.2*2 ^ 13))).toNat) (2 ^ 7))).toNat)*2 ^ 17))).toNat) &&& BitVec.ofInt IntKind.u64.bits (IntKind.u64.wrap (x0-1))).toNat))-(w64 (c-b)))))).toNat x4),(IntKind.u64.wrap (BitVec.ofInt IntKind.u64.bits (IntKind.u64.wrap (BitVec.ofInt IntKind.u64.bits (IntKind.u64.wrap (BitVec.ofInt IntKind.u64.bits s1.2.2 ^^^ BitVec.ofInt IntKind.u64.bits (IntKind.u64.wrap (s1.2.2*2 ^ 13))).toNat) ^^^ BitVec.ofInt IntKind.u64.bits (Int.fdiv (IntKind.u64.wrap (BitVec.ofInt IntKind.u64.bits s1.2.2 ^^^ BitVec.ofInt IntKind.u64.bits (IntKind.u64.wrap (s1.2.2*2 ^ 13))).toNat) (2 ^ 7))).toNat) ^^^ BitVec.ofInt IntKind.u64.bits (IntKind.u64.wrap ((IntKind.u64.wrap (BitVec.ofInt IntKind.u64.bits (IntKind.u64.wrap (BitVec.ofInt IntKind.u64.bits s1.2.2 ^^^ BitVec.ofInt IntKind.u64.bits (IntKind.u64.wrap (s1.2.2*2 ^ 13))).toNat) ^^^ BitVec.ofInt IntKind.u64.bits (Int.fdiv (IntKind.u64.wrap (BitVec.ofInt IntKind.u64.bits s1.2.2 ^^^ BitVec.ofInt IntKind.u64.bits (IntKind.u64.wrap (s1.2.2*2 ^ 13))).toNat) (2 ^ 7))).toNat)*2 ^ 17))).toNat)))
  else
   (Zy s1.2.1 (w64 (b+(w64 (IntKind.u64.wrap (BitVec.ofInt IntKind.u64.bits (IntKind.u64.wrap (BitVec.ofInt IntKind.u64.bits (IntKind.u64.wrap (BitVec.ofInt IntKind.u64.bits (IntKind.u64.wrap (BitVec.ofInt IntKind.u64.bits s1.2.2 ^^^ BitVec.ofInt IntKind.u64.bits (IntKind.u64.wrap (s1.2.2*2 ^ 13))).toNat) ^^^ BitVec.ofInt IntKind.u64.bits (Int.fdiv (IntKind.u64.wrap (BitVec.ofInt IntKind.u64.bits s1.2.2 ^^^ BitVec.ofInt IntKind.u64.bits (IntKind.u64.wrap (s1.2.2*2 ^ 13))).toNat) (2 ^ 7))).toNat) ^^^ BitVec.ofInt IntKind.u64.bits (IntKind.u64.wrap ((IntKind.u64.wrap (BitVec.ofInt IntKind.u64.bits (IntKind.u64.wrap (BitVec.ofInt IntKind.u64.bits s1.2.2 ^^^ BitVec.ofInt IntKind.u64.bits (IntKind.u64.wrap (s1.2.2*2 ^ 13))).toNat) ^^^ BitVec.ofInt IntKind.u64.bits (Int.fdiv (IntKind.u64.wrap (BitVec.ofInt IntKind.u64.bits s1.2.2 ^^^ BitVec.ofInt IntKind.u64.bits (IntKind.u64.wrap (s1.2.2*2 ^ 13))).toNat) (2 ^ 7))).toNat)*2 ^ 17))).toNat) &&& BitVec.ofInt IntKind.u64.bits (IntKind.u64.wrap (x0-1))).toNat))))).bind fun x6=>
   (Zy s1.2.1 s1.1).bind fun x7=>
   (Zy (List.set s1.2.1 s1.1.toNat x6) (w64 (b+(w64 (IntKind.u64.wrap (BitVec.ofInt IntKind.u64.bits (IntKind.u64.wrap (BitVec.ofInt IntKind.u64.bits (IntKind.u64.wrap (BitVec.ofInt IntKind.u64.bits (IntKind.u64.wrap (BitVec.ofInt IntKind.u64.bits s1.2.2 ^^^ BitVec.ofInt IntKind.u64.bits (IntKind.u64.wrap (s1.2.2*2 ^ 13))).toNat) ^^^ BitVec.ofInt IntKind.u64.bits (Int.fdiv (IntKind.u64.wrap (BitVec.ofInt IntKind.u64.bits s1.2.2 ^^^ BitVec.ofInt IntKind.u64.bits (IntKind.u64.wrap (s1.2.2*2 ^ 13))).toNat) (2 ^ 7))).toNat) ^^^ BitVec.ofInt IntKind.u64.bits (IntKind.u64.wrap ((IntKind.u64.wrap (BitVec.ofInt IntKind.u64.bits (IntKind.u64.wrap (BitVec.ofInt IntKind.u64.bits s1.2.2 ^^^ BitVec.ofInt IntKind.u64.bits (IntKind.u64.wrap (s1.2.2*2 ^ 13))).toNat) ^^^ BitVec.ofInt IntKind.u64.bits (Int.fdiv (IntKind.u64.wrap (BitVec.ofInt IntKind.u64.bits s1.2.2 ^^^ BitVec.ofInt IntKind.u64.bits (IntKind.u64.wrap (s1.2.2*2 ^ 13))).toNat) (2 ^ 7))).toNat)*2 ^ 17))).toNat) &&& BitVec.ofInt IntKind.u64.bits (IntKind.u64.wrap (x0-1))).toNat))))).bind fun x8=>
   some (.inl ((w64 (s1.1+1)),(List.set (List.set s1.2.1 s1.1.toNat x6) (w64 (b+(w64 (IntKind.u64.wrap (BitVec.ofInt IntKind.u64.bits (IntKind.u64.wrap (BitVec.ofInt IntKind.u64.bits (IntKind.u64.wrap (BitVec.ofInt IntKind.u64.bits (IntKind.u64.wrap (BitVec.ofInt IntKind.u64.bits s1.2.2 ^^^ BitVec.ofInt IntKind.u64.bits (IntKind.u64.wrap (s1.2.2*2 ^ 13))).toNat) ^^^ BitVec.ofInt IntKind.u64.bits (Int.fdiv (IntKind.u64.wrap (BitVec.ofInt IntKind.u64.bits s1.2.2 ^^^ BitVec.ofInt IntKind.u64.bits (IntKind.u64.wrap (s1.2.2*2 ^ 13))).toNat) (2 ^ 7))).toNat) ^^^ BitVec.ofInt IntKind.u64.bits (IntKind.u64.wrap ((IntKind.u64.wrap (BitVec.ofInt IntKind.u64.bits (IntKind.u64.wrap (BitVec.ofInt IntKind.u64.bits s1.2.2 ^^^ BitVec.ofInt IntKind.u64.bits (IntKind.u64.wrap (s1.2.2*2 ^ 13))).toNat) ^^^ BitVec.ofInt IntKind.u64.bits (Int.fdiv (IntKind.u64.wrap (BitVec.ofInt IntKind.u64.bits s1.2.2 ^^^ BitVec.ofInt IntKind.u64.bits (IntKind.u64.wrap (s1.2.2*2 ^ 13))).toNat) (2 ^ 7))).toNat)*2 ^ 17))).toNat) &&& BitVec.ofInt IntKind.u64.bits (IntKind.u64.wrap (x0-1))).toNat)))).toNat x7),(IntKind.u64.wrap (BitVec.ofInt IntKind.u64.bits (IntKind.u64.wrap (BitVec.ofInt IntKind.u64.bits (IntKind.u64.wrap (BitVec.ofInt IntKind.u64.bits s1.2.2 ^^^ BitVec.ofInt IntKind.u64.bits (IntKind.u64.wrap (s1.2.2*2 ^ 13))).toNat) ^^^ BitVec.ofInt IntKind.u64.bits (Int.fdiv (IntKind.u64.wrap (BitVec.ofInt IntKind.u64.bits s1.2.2 ^^^ BitVec.ofInt IntKind.u64.bits (IntKind.u64.wrap (s1.2.2*2 ^ 13))).toNat) (2 ^ 7))).toNat) ^^^ BitVec.ofInt IntKind.u64.bits (IntKind.u64.wrap ((IntKind.u64.wrap (BitVec.ofInt IntKind.u64.bits (IntKind.u64.wrap (BitVec.ofInt IntKind.u64.bits s1.2.2 ^^^ BitVec.ofInt IntKind.u64.bits (IntKind.u64.wrap (s1.2.2*2 ^ 13))).toNat) ^^^ BitVec.ofInt IntKind.u64.bits (Int.fdiv (IntKind.u64.wrap (BitVec.ofInt IntKind.u64.bits s1.2.2 ^^^ BitVec.ofInt IntKind.u64.bits (IntKind.u64.wrap (s1.2.2*2 ^ 13))).toNat) (2 ^ 7))).toNat)*2 ^ 17))).toNat)))
 else
  some (.inr s1.2.1)
noncomputable def Zah (b:Int) (c:Int) (d:(Int→Int→Option Int)) (m0_0:(List Int)):Option (List Int):=
 bif (decide (8≤(w64 (c-b)))) then
  (Zcx (w64 (c-b))).bind fun x0=>
  (lp (Zax b c x0) ((w64 ((w64 (b+(w64 ((w64 (Int.tdiv (w64 (c-b)) 4))*2))))-1)),m0_0,(IntKind.u64.wrap (w64 (c-b))))).bind fun r9=>
  some r9
 else
  some m0_0
noncomputable def ZV (e:(Int→Int→Option Int)) (rc:Int→Int→Int→(Int→Int→Option Int)→(List Int)→Option (List Int)) (s0:Int×Int×Int×Bool×Bool×(List Int)):Option ((Int×Int×Int×Bool×Bool×(List Int))⊕(List Int)):=
 bif s0.2.2.2.1 then
  bif s0.2.2.2.2.1 then
   bif (decide ((w64 (s0.2.1-s0.1))≤12)) then
    (Z4 s0.1 s0.2.1 e s0.2.2.2.2.2).bind fun x1=>
    some (.inr x1)
   else
    bif (s0.2.2.1==0) then
     (Zag s0.1 s0.2.1 e s0.2.2.2.2.2).bind fun x2=>
     some (.inr x2)
    else
     (ZU s0.1 s0.2.1 e s0.2.2.2.2.2).bind fun x3=>
     bif (x3.2==2) then
      (ZO s0.1 s0.2.1 e s0.2.2.2.2.2).bind fun x4=>
      (ZP s0.1 s0.2.1 e x4).bind fun x5=>
      match x5 with
      | (.inl x5)=>
       some (.inr x5)
      | (.inr x5)=>
       bif (decide (0<s0.1)) then
        (Zy x5 (w64 (s0.1-1))).bind fun x6=>
        (Zy x5 (w64 ((w64 (s0.2.1-1))-(w64 (x3.1-s0.1))))).bind fun x7=>
        (e x6 x7).bind fun x8=>
        bif (decide (x8<0)) then
         (Zr s0.1 s0.2.1 (w64 ((w64 (s0.2.1-1))-(w64 (x3.1-s0.1)))) e x5).bind fun x9=>
         match x9 with
         | (.inl x9)=>
          bif (decide ((w64 (x9.1-s0.1))<(w64 (s0.2.1-x9.1)))) then
           bif (decide ((w64 (Int.tdiv (w64 (s0.2.1-s0.1)) 8))≤(w64 (x9.1-s0.1)))) then
            (rc s0.1 x9.1 s0.2.2.1 e x9.2).bind fun x10=>
            some (.inl ((w64 (x9.1+1)),s0.2.1,s0.2.2.1,true,true,x10))
           else
            (rc s0.1 x9.1 s0.2.2.1 e x9.2).bind fun x11=>
            some (.inl ((w64 (x9.1+1)),s0.2.1,s0.2.2.1,false,true,x11))
          else
           bif (decide ((w64 (Int.tdiv (w64 (s0.2.1-s0.1)) 8))≤(w64 (s0.2.1-x9.1)))) then
            (rc (w64 (x9.1+1)) s0.2.1 s0.2.2.1 e x9.2).bind fun x12=>
            some (.inl (s0.1,x9.1,s0.2.2.1,true,true,x12))
           else
            (rc (w64 (x9.1+1)) s0.2.1 s0.2.2.1 e x9.2).bind fun x13=>
            some (.inl (s0.1,x9.1,s0.2.2.1,false,true,x13))
         | (.inr x9)=>
          bif (decide ((w64 (x9.1-s0.1))<(w64 (s0.2.1-x9.1)))) then
           bif (decide ((w64 (Int.tdiv (w64 (s0.2.1-s0.1)) 8))≤(w64 (x9.1-s0.1)))) then
            (rc s0.1 x9.1 s0.2.2.1 e x9.2).bind fun x14=>
            some (.inl ((w64 (x9.1+1)),s0.2.1,s0.2.2.1,true,false,x14))
           else
            (rc s0.1 x9.1 s0.2.2.1 e x9.2).bind fun x15=>
            some (.inl ((w64 (x9.1+1)),s0.2.1,s0.2.2.1,false,false,x15))
          else
           bif (decide ((w64 (Int.tdiv (w64 (s0.2.1-s0.1)) 8))≤(w64 (s0.2.1-x9.1)))) then
            (rc (w64 (x9.1+1)) s0.2.1 s0.2.2.1 e x9.2).bind fun x16=>
            some (.inl (s0.1,x9.1,s0.2.2.1,true,false,x16))
           else
            (rc (w64 (x9.1+1)) s0.2.1 s0.2.2.1 e x9.2).bind fun x17=>
            some (.inl (s0.1,x9.1,s0.2.2.1,false,false,x17))
        else
         (ZD s0.1 s0.2.1 (w64 ((w64 (s0.2.1-1))-(w64 (x3.1-s0.1)))) e x5).bind fun x18=>
         some (.inl (x18.1,s0.2.1,s0.2.2.1,true,true,x18.2))
       else
        (Zr s0.1 s0.2.1 (w64 ((w64 (s0.2.1-1))-(w64 (x3.1-s0.1)))) e x5).bind fun x19=>
        match x19 with
        | (.inl x19)=>
         bif (decide ((w64 (x19.1-s0.1))<(w64 (s0.2.1-x19.1)))) then
          bif (decide ((w64 (Int.tdiv (w64 (s0.2.1-s0.1)) 8))≤(w64 (x19.1-s0.1)))) then
           (rc s0.1 x19.1 s0.2.2.1 e x19.2).bind fun x20=>
           some (.inl ((w64 (x19.1+1)),s0.2.1,s0.2.2.1,true,true,x20))
          else
           (rc s0.1 x19.1 s0.2.2.1 e x19.2).bind fun x21=>
           some (.inl ((w64 (x19.1+1)),s0.2.1,s0.2.2.1,false,true,x21))
         else
          bif (decide ((w64 (Int.tdiv (w64 (s0.2.1-s0.1)) 8))≤(w64 (s0.2.1-x19.1)))) then
           (rc (w64 (x19.1+1)) s0.2.1 s0.2.2.1 e x19.2).bind fun x22=>
           some (.inl (s0.1,x19.1,s0.2.2.1,true,true,x22))
          else
           (rc (w64 (x19.1+1)) s0.2.1 s0.2.2.1 e x19.2).bind fun x23=>
           some (.inl (s0.1,x19.1,s0.2.2.1,false,true,x23))
        | (.inr x19)=>
         bif (decide ((w64 (x19.1-s0.1))<(w64 (s0.2.1-x19.1)))) then
          bif (decide ((w64 (Int.tdiv (w64 (s0.2.1-s0.1)) 8))≤(w64 (x19.1-s0.1)))) then
           (rc s0.1 x19.1 s0.2.2.1 e x19.2).bind fun x24=>
           some (.inl ((w64 (x19.1+1)),s0.2.1,s0.2.2.1,true,false,x24))
          else
           (rc s0.1 x19.1 s0.2.2.1 e x19.2).bind fun x25=>
           some (.inl ((w64 (x19.1+1)),s0.2.1,s0.2.2.1,false,false,x25))
         else
          bif (decide ((w64 (Int.tdiv (w64 (s0.2.1-s0.1)) 8))≤(w64 (s0.2.1-x19.1)))) then
           (rc (w64 (x19.1+1)) s0.2.1 s0.2.2.1 e x19.2).bind fun x26=>
           some (.inl (s0.1,x19.1,s0.2.2.1,true,false,x26))
          else
           (rc (w64 (x19.1+1)) s0.2.1 s0.2.2.1 e x19.2).bind fun x27=>
           some (.inl (s0.1,x19.1,s0.2.2.1,false,false,x27))
     else
      bif (x3.2==1) then
       (ZP s0.1 s0.2.1 e s0.2.2.2.2.2).bind fun x28=>
       match x28 with
       | (.inl x28)=>
        some (.inr x28)
       | (.inr x28)=>
        bif (decide (0<s0.1)) then
         (Zy x28 (w64 (s0.1-1))).bind fun x29=>
         (Zy x28 x3.1).bind fun x30=>
         (e x29 x30).bind fun x31=>
         bif (decide (x31<0)) then
          (Zr s0.1 s0.2.1 x3.1 e x28).bind fun x32=>
          match x32 with
          | (.inl x32)=>
           bif (decide ((w64 (x32.1-s0.1))<(w64 (s0.2.1-x32.1)))) then
            bif (decide ((w64 (Int.tdiv (w64 (s0.2.1-s0.1)) 8))≤(w64 (x32.1-s0.1)))) then
             (rc s0.1 x32.1 s0.2.2.1 e x32.2).bind fun x33=>
             some (.inl ((w64 (x32.1+1)),s0.2.1,s0.2.2.1,true,true,x33))
            else
             (rc s0.1 x32.1 s0.2.2.1 e x32.2).bind fun x34=>
             some (.inl ((w64 (x32.1+1)),s0.2.1,s0.2.2.1,false,true,x34))
           else
            bif (decide ((w64 (Int.tdiv (w64 (s0.2.1-s0.1)) 8))≤(w64 (s0.2.1-x32.1)))) then
             (rc (w64 (x32.1+1)) s0.2.1 s0.2.2.1 e x32.2).bind fun x35=>
             some (.inl (s0.1,x32.1,s0.2.2.1,true,true,x35))
            else
             (rc (w64 (x32.1+1)) s0.2.1 s0.2.2.1 e x32.2).bind fun x36=>
             some (.inl (s0.1,x32.1,s0.2.2.1,false,true,x36))
          | (.inr x32)=>
           bif (decide ((w64 (x32.1-s0.1))<(w64 (s0.2.1-x32.1)))) then
            bif (decide ((w64 (Int.tdiv (w64 (s0.2.1-s0.1)) 8))≤(w64 (x32.1-s0.1)))) then
             (rc s0.1 x32.1 s0.2.2.1 e x32.2).bind fun x37=>
             some (.inl ((w64 (x32.1+1)),s0.2.1,s0.2.2.1,true,false,x37))
            else
             (rc s0.1 x32.1 s0.2.2.1 e x32.2).bind fun x38=>
             some (.inl ((w64 (x32.1+1)),s0.2.1,s0.2.2.1,false,false,x38))
           else
            bif (decide ((w64 (Int.tdiv (w64 (s0.2.1-s0.1)) 8))≤(w64 (s0.2.1-x32.1)))) then
             (rc (w64 (x32.1+1)) s0.2.1 s0.2.2.1 e x32.2).bind fun x39=>
             some (.inl (s0.1,x32.1,s0.2.2.1,true,false,x39))
            else
             (rc (w64 (x32.1+1)) s0.2.1 s0.2.2.1 e x32.2).bind fun x40=>
             some (.inl (s0.1,x32.1,s0.2.2.1,false,false,x40))
         else
          (ZD s0.1 s0.2.1 x3.1 e x28).bind fun x41=>
          some (.inl (x41.1,s0.2.1,s0.2.2.1,true,true,x41.2))
        else
         (Zr s0.1 s0.2.1 x3.1 e x28).bind fun x42=>
         match x42 with
         | (.inl x42)=>
          bif (decide ((w64 (x42.1-s0.1))<(w64 (s0.2.1-x42.1)))) then
           bif (decide ((w64 (Int.tdiv (w64 (s0.2.1-s0.1)) 8))≤(w64 (x42.1-s0.1)))) then
            (rc s0.1 x42.1 s0.2.2.1 e x42.2).bind fun x43=>
            some (.inl ((w64 (x42.1+1)),s0.2.1,s0.2.2.1,true,true,x43))
           else
            (rc s0.1 x42.1 s0.2.2.1 e x42.2).bind fun x44=>
            some (.inl ((w64 (x42.1+1)),s0.2.1,s0.2.2.1,false,true,x44))
          else
           bif (decide ((w64 (Int.tdiv (w64 (s0.2.1-s0.1)) 8))≤(w64 (s0.2.1-x42.1)))) then
            (rc (w64 (x42.1+1)) s0.2.1 s0.2.2.1 e x42.2).bind fun x45=>
            some (.inl (s0.1,x42.1,s0.2.2.1,true,true,x45))
           else
            (rc (w64 (x42.1+1)) s0.2.1 s0.2.2.1 e x42.2).bind fun x46=>
            some (.inl (s0.1,x42.1,s0.2.2.1,false,true,x46))
         | (.inr x42)=>
          bif (decide ((w64 (x42.1-s0.1))<(w64 (s0.2.1-x42.1)))) then
           bif (decide ((w64 (Int.tdiv (w64 (s0.2.1-s0.1)) 8))≤(w64 (x42.1-s0.1)))) then
            (rc s0.1 x42.1 s0.2.2.1 e x42.2).bind fun x47=>
            some (.inl ((w64 (x42.1+1)),s0.2.1,s0.2.2.1,true,false,x47))
           else
            (rc s0.1 x42.1 s0.2.2.1 e x42.2).bind fun x48=>
            some (.inl ((w64 (x42.1+1)),s0.2.1,s0.2.2.1,false,false,x48))
          else
           bif (decide ((w64 (Int.tdiv (w64 (s0.2.1-s0.1)) 8))≤(w64 (s0.2.1-x42.1)))) then
            (rc (w64 (x42.1+1)) s0.2.1 s0.2.2.1 e x42.2).bind fun x49=>
            some (.inl (s0.1,x42.1,s0.2.2.1,true,false,x49))
           else
            (rc (w64 (x42.1+1)) s0.2.1 s0.2.2.1 e x42.2).bind fun x50=>
            some (.inl (s0.1,x42.1,s0.2.2.1,false,false,x50))
      else
       bif (decide (0<s0.1)) then
        (Zy s0.2.2.2.2.2 (w64 (s0.1-1))).bind fun x51=>
        (Zy s0.2.2.2.2.2 x3.1).bind fun x52=>
        (e x51 x52).bind fun x53=>
        bif (decide (x53<0)) then
         (Zr s0.1 s0.2.1 x3.1 e s0.2.2.2.2.2).bind fun x54=>
         match x54 with
         | (.inl x54)=>
          bif (decide ((w64 (x54.1-s0.1))<(w64 (s0.2.1-x54.1)))) then
           bif (decide ((w64 (Int.tdiv (w64 (s0.2.1-s0.1)) 8))≤(w64 (x54.1-s0.1)))) then
            (rc s0.1 x54.1 s0.2.2.1 e x54.2).bind fun x55=>
            some (.inl ((w64 (x54.1+1)),s0.2.1,s0.2.2.1,true,true,x55))
           else
            (rc s0.1 x54.1 s0.2.2.1 e x54.2).bind fun x56=>
            some (.inl ((w64 (x54.1+1)),s0.2.1,s0.2.2.1,false,true,x56))
          else
           bif (decide ((w64 (Int.tdiv (w64 (s0.2.1-s0.1)) 8))≤(w64 (s0.2.1-x54.1)))) then
            (rc (w64 (x54.1+1)) s0.2.1 s0.2.2.1 e x54.2).bind fun x57=>
            some (.inl (s0.1,x54.1,s0.2.2.1,true,true,x57))
           else
            (rc (w64 (x54.1+1)) s0.2.1 s0.2.2.1 e x54.2).bind fun x58=>
            some (.inl (s0.1,x54.1,s0.2.2.1,false,true,x58))
         | (.inr x54)=>
          bif (decide ((w64 (x54.1-s0.1))<(w64 (s0.2.1-x54.1)))) then
           bif (decide ((w64 (Int.tdiv (w64 (s0.2.1-s0.1)) 8))≤(w64 (x54.1-s0.1)))) then
            (rc s0.1 x54.1 s0.2.2.1 e x54.2).bind fun x59=>
            some (.inl ((w64 (x54.1+1)),s0.2.1,s0.2.2.1,true,false,x59))
           else
            (rc s0.1 x54.1 s0.2.2.1 e x54.2).bind fun x60=>
            some (.inl ((w64 (x54.1+1)),s0.2.1,s0.2.2.1,false,false,x60))
          else
           bif (decide ((w64 (Int.tdiv (w64 (s0.2.1-s0.1)) 8))≤(w64 (s0.2.1-x54.1)))) then
            (rc (w64 (x54.1+1)) s0.2.1 s0.2.2.1 e x54.2).bind fun x61=>
            some (.inl (s0.1,x54.1,s0.2.2.1,true,false,x61))
           else
            (rc (w64 (x54.1+1)) s0.2.1 s0.2.2.1 e x54.2).bind fun x62=>
            some (.inl (s0.1,x54.1,s0.2.2.1,false,false,x62))
        else
         (ZD s0.1 s0.2.1 x3.1 e s0.2.2.2.2.2).bind fun x63=>
         some (.inl (x63.1,s0.2.1,s0.2.2.1,true,true,x63.2))
       else
        (Zr s0.1 s0.2.1 x3.1 e s0.2.2.2.2.2).bind fun x64=>
        match x64 with
        | (.inl x64)=>
         bif (decide ((w64 (x64.1-s0.1))<(w64 (s0.2.1-x64.1)))) then
          bif (decide ((w64 (Int.tdiv (w64 (s0.2.1-s0.1)) 8))≤(w64 (x64.1-s0.1)))) then
           (rc s0.1 x64.1 s0.2.2.1 e x64.2).bind fun x65=>
           some (.inl ((w64 (x64.1+1)),s0.2.1,s0.2.2.1,true,true,x65))
          else
           (rc s0.1 x64.1 s0.2.2.1 e x64.2).bind fun x66=>
           some (.inl ((w64 (x64.1+1)),s0.2.1,s0.2.2.1,false,true,x66))
         else
          bif (decide ((w64 (Int.tdiv (w64 (s0.2.1-s0.1)) 8))≤(w64 (s0.2.1-x64.1)))) then
           (rc (w64 (x64.1+1)) s0.2.1 s0.2.2.1 e x64.2).bind fun x67=>
           some (.inl (s0.1,x64.1,s0.2.2.1,true,true,x67))
          else
           (rc (w64 (x64.1+1)) s0.2.1 s0.2.2.1 e x64.2).bind fun x68=>
           some (.inl (s0.1,x64.1,s0.2.2.1,false,true,x68))
        | (.inr x64)=>
         bif (decide ((w64 (x64.1-s0.1))<(w64 (s0.2.1-x64.1)))) then
          bif (decide ((w64 (Int.tdiv (w64 (s0.2.1-s0.1)) 8))≤(w64 (x64.1-s0.1)))) then
           (rc s0.1 x64.1 s0.2.2.1 e x64.2).bind fun x69=>
           some (.inl ((w64 (x64.1+1)),s0.2.1,s0.2.2.1,true,false,x69))
          else
           (rc s0.1 x64.1 s0.2.2.1 e x64.2).bind fun x70=>
           some (.inl ((w64 (x64.1+1)),s0.2.1,s0.2.2.1,false,false,x70))
         else
          bif (decide ((w64 (Int.tdiv (w64 (s0.2.1-s0.1)) 8))≤(w64 (s0.2.1-x64.1)))) then
           (rc (w64 (x64.1+1)) s0.2.1 s0.2.2.1 e x64.2).bind fun x71=>
           some (.inl (s0.1,x64.1,s0.2.2.1,true,false,x71))
          else
           (rc (w64 (x64.1+1)) s0.2.1 s0.2.2.1 e x64.2).bind fun x72=>
           some (.inl (s0.1,x64.1,s0.2.2.1,false,false,x72))
  else
   bif (decide ((w64 (s0.2.1-s0.1))≤12)) then
    (Z4 s0.1 s0.2.1 e s0.2.2.2.2.2).bind fun x73=>
    some (.inr x73)
   else
    bif (s0.2.2.1==0) then
     (Zag s0.1 s0.2.1 e s0.2.2.2.2.2).bind fun x74=>
     some (.inr x74)
    else
     (ZU s0.1 s0.2.1 e s0.2.2.2.2.2).bind fun x75=>
     bif (x75.2==2) then
      (ZO s0.1 s0.2.1 e s0.2.2.2.2.2).bind fun x76=>
      bif (decide (0<s0.1)) then
       (Zy x76 (w64 (s0.1-1))).bind fun x77=>
       (Zy x76 (w64 ((w64 (s0.2.1-1))-(w64 (x75.1-s0.1))))).bind fun x78=>
       (e x77 x78).bind fun x79=>
       bif (decide (x79<0)) then
        (Zr s0.1 s0.2.1 (w64 ((w64 (s0.2.1-1))-(w64 (x75.1-s0.1)))) e x76).bind fun x80=>
        match x80 with
        | (.inl x80)=>
         bif (decide ((w64 (x80.1-s0.1))<(w64 (s0.2.1-x80.1)))) then
          bif (decide ((w64 (Int.tdiv (w64 (s0.2.1-s0.1)) 8))≤(w64 (x80.1-s0.1)))) then
           (rc s0.1 x80.1 s0.2.2.1 e x80.2).bind fun x81=>
           some (.inl ((w64 (x80.1+1)),s0.2.1,s0.2.2.1,true,true,x81))
          else
           (rc s0.1 x80.1 s0.2.2.1 e x80.2).bind fun x82=>
           some (.inl ((w64 (x80.1+1)),s0.2.1,s0.2.2.1,false,true,x82))
         else
          bif (decide ((w64 (Int.tdiv (w64 (s0.2.1-s0.1)) 8))≤(w64 (s0.2.1-x80.1)))) then
           (rc (w64 (x80.1+1)) s0.2.1 s0.2.2.1 e x80.2).bind fun x83=>
           some (.inl (s0.1,x80.1,s0.2.2.1,true,true,x83))
          else
           (rc (w64 (x80.1+1)) s0.2.1 s0.2.2.1 e x80.2).bind fun x84=>
           some (.inl (s0.1,x80.1,s0.2.2.1,false,true,x84))
        | (.inr x80)=>
         bif (decide ((w64 (x80.1-s0.1))<(w64 (s0.2.1-x80.1)))) then
          bif (decide ((w64 (Int.tdiv (w64 (s0.2.1-s0.1)) 8))≤(w64 (x80.1-s0.1)))) then
           (rc s0.1 x80.1 s0.2.2.1 e x80.2).bind fun x85=>
           some (.inl ((w64 (x80.1+1)),s0.2.1,s0.2.2.1,true,false,x85))
          else
           (rc s0.1 x80.1 s0.2.2.1 e x80.2).bind fun x86=>
           some (.inl ((w64 (x80.1+1)),s0.2.1,s0.2.2.1,false,false,x86))
         else
          bif (decide ((w64 (Int.tdiv (w64 (s0.2.1-s0.1)) 8))≤(w64 (s0.2.1-x80.1)))) then
           (rc (w64 (x80.1+1)) s0.2.1 s0.2.2.1 e x80.2).bind fun x87=>
           some (.inl (s0.1,x80.1,s0.2.2.1,true,false,x87))
          else
           (rc (w64 (x80.1+1)) s0.2.1 s0.2.2.1 e x80.2).bind fun x88=>
           some (.inl (s0.1,x80.1,s0.2.2.1,false,false,x88))
       else
        (ZD s0.1 s0.2.1 (w64 ((w64 (s0.2.1-1))-(w64 (x75.1-s0.1)))) e x76).bind fun x89=>
        some (.inl (x89.1,s0.2.1,s0.2.2.1,true,false,x89.2))
      else
       (Zr s0.1 s0.2.1 (w64 ((w64 (s0.2.1-1))-(w64 (x75.1-s0.1)))) e x76).bind fun x90=>
       match x90 with
       | (.inl x90)=>
        bif (decide ((w64 (x90.1-s0.1))<(w64 (s0.2.1-x90.1)))) then
         bif (decide ((w64 (Int.tdiv (w64 (s0.2.1-s0.1)) 8))≤(w64 (x90.1-s0.1)))) then
          (rc s0.1 x90.1 s0.2.2.1 e x90.2).bind fun x91=>
          some (.inl ((w64 (x90.1+1)),s0.2.1,s0.2.2.1,true,true,x91))
         else
          (rc s0.1 x90.1 s0.2.2.1 e x90.2).bind fun x92=>
          some (.inl ((w64 (x90.1+1)),s0.2.1,s0.2.2.1,false,true,x92))
        else
         bif (decide ((w64 (Int.tdiv (w64 (s0.2.1-s0.1)) 8))≤(w64 (s0.2.1-x90.1)))) then
          (rc (w64 (x90.1+1)) s0.2.1 s0.2.2.1 e x90.2).bind fun x93=>
          some (.inl (s0.1,x90.1,s0.2.2.1,true,true,x93))
         else
          (rc (w64 (x90.1+1)) s0.2.1 s0.2.2.1 e x90.2).bind fun x94=>
          some (.inl (s0.1,x90.1,s0.2.2.1,false,true,x94))
       | (.inr x90)=>
        bif (decide ((w64 (x90.1-s0.1))<(w64 (s0.2.1-x90.1)))) then
         bif (decide ((w64 (Int.tdiv (w64 (s0.2.1-s0.1)) 8))≤(w64 (x90.1-s0.1)))) then
          (rc s0.1 x90.1 s0.2.2.1 e x90.2).bind fun x95=>
          some (.inl ((w64 (x90.1+1)),s0.2.1,s0.2.2.1,true,false,x95))
         else
          (rc s0.1 x90.1 s0.2.2.1 e x90.2).bind fun x96=>
          some (.inl ((w64 (x90.1+1)),s0.2.1,s0.2.2.1,false,false,x96))
        else
         bif (decide ((w64 (Int.tdiv (w64 (s0.2.1-s0.1)) 8))≤(w64 (s0.2.1-x90.1)))) then
          (rc (w64 (x90.1+1)) s0.2.1 s0.2.2.1 e x90.2).bind fun x97=>
          some (.inl (s0.1,x90.1,s0.2.2.1,true,false,x97))
         else
          (rc (w64 (x90.1+1)) s0.2.1 s0.2.2.1 e x90.2).bind fun x98=>
          some (.inl (s0.1,x90.1,s0.2.2.1,false,false,x98))
     else
      bif (decide (0<s0.1)) then
       (Zy s0.2.2.2.2.2 (w64 (s0.1-1))).bind fun x99=>
       (Zy s0.2.2.2.2.2 x75.1).bind fun x100=>
       (e x99 x100).bind fun x101=>
       bif (decide (x101<0)) then
        (Zr s0.1 s0.2.1 x75.1 e s0.2.2.2.2.2).bind fun x102=>
        match x102 with
        | (.inl x102)=>
         bif (decide ((w64 (x102.1-s0.1))<(w64 (s0.2.1-x102.1)))) then
          bif (decide ((w64 (Int.tdiv (w64 (s0.2.1-s0.1)) 8))≤(w64 (x102.1-s0.1)))) then
           (rc s0.1 x102.1 s0.2.2.1 e x102.2).bind fun x103=>
           some (.inl ((w64 (x102.1+1)),s0.2.1,s0.2.2.1,true,true,x103))
          else
           (rc s0.1 x102.1 s0.2.2.1 e x102.2).bind fun x104=>
           some (.inl ((w64 (x102.1+1)),s0.2.1,s0.2.2.1,false,true,x104))
         else
          bif (decide ((w64 (Int.tdiv (w64 (s0.2.1-s0.1)) 8))≤(w64 (s0.2.1-x102.1)))) then
           (rc (w64 (x102.1+1)) s0.2.1 s0.2.2.1 e x102.2).bind fun x105=>
           some (.inl (s0.1,x102.1,s0.2.2.1,true,true,x105))
          else
           (rc (w64 (x102.1+1)) s0.2.1 s0.2.2.1 e x102.2).bind fun x106=>
           some (.inl (s0.1,x102.1,s0.2.2.1,false,true,x106))
        | (.inr x102)=>
         bif (decide ((w64 (x102.1-s0.1))<(w64 (s0.2.1-x102.1)))) then
          bif (decide ((w64 (Int.tdiv (w64 (s0.2.1-s0.1)) 8))≤(w64 (x102.1-s0.1)))) then
           (rc s0.1 x102.1 s0.2.2.1 e x102.2).bind fun x107=>
           some (.inl ((w64 (x102.1+1)),s0.2.1,s0.2.2.1,true,false,x107))
          else
           (rc s0.1 x102.1 s0.2.2.1 e x102.2).bind fun x108=>
           some (.inl ((w64 (x102.1+1)),s0.2.1,s0.2.2.1,false,false,x108))
         else
          bif (decide ((w64 (Int.tdiv (w64 (s0.2.1-s0.1)) 8))≤(w64 (s0.2.1-x102.1)))) then
           (rc (w64 (x102.1+1)) s0.2.1 s0.2.2.1 e x102.2).bind fun x109=>
           some (.inl (s0.1,x102.1,s0.2.2.1,true,false,x109))
          else
           (rc (w64 (x102.1+1)) s0.2.1 s0.2.2.1 e x102.2).bind fun x110=>
           some (.inl (s0.1,x102.1,s0.2.2.1,false,false,x110))
       else
        (ZD s0.1 s0.2.1 x75.1 e s0.2.2.2.2.2).bind fun x111=>
        some (.inl (x111.1,s0.2.1,s0.2.2.1,true,false,x111.2))
      else
       (Zr s0.1 s0.2.1 x75.1 e s0.2.2.2.2.2).bind fun x112=>
       match x112 with
       | (.inl x112)=>
        bif (decide ((w64 (x112.1-s0.1))<(w64 (s0.2.1-x112.1)))) then
         bif (decide ((w64 (Int.tdiv (w64 (s0.2.1-s0.1)) 8))≤(w64 (x112.1-s0.1)))) then
          (rc s0.1 x112.1 s0.2.2.1 e x112.2).bind fun x113=>
          some (.inl ((w64 (x112.1+1)),s0.2.1,s0.2.2.1,true,true,x113))
         else
          (rc s0.1 x112.1 s0.2.2.1 e x112.2).bind fun x114=>
          some (.inl ((w64 (x112.1+1)),s0.2.1,s0.2.2.1,false,true,x114))
        else
         bif (decide ((w64 (Int.tdiv (w64 (s0.2.1-s0.1)) 8))≤(w64 (s0.2.1-x112.1)))) then
          (rc (w64 (x112.1+1)) s0.2.1 s0.2.2.1 e x112.2).bind fun x115=>
          some (.inl (s0.1,x112.1,s0.2.2.1,true,true,x115))
         else
          (rc (w64 (x112.1+1)) s0.2.1 s0.2.2.1 e x112.2).bind fun x116=>
          some (.inl (s0.1,x112.1,s0.2.2.1,false,true,x116))
       | (.inr x112)=>
        bif (decide ((w64 (x112.1-s0.1))<(w64 (s0.2.1-x112.1)))) then
         bif (decide ((w64 (Int.tdiv (w64 (s0.2.1-s0.1)) 8))≤(w64 (x112.1-s0.1)))) then
          (rc s0.1 x112.1 s0.2.2.1 e x112.2).bind fun x117=>
          some (.inl ((w64 (x112.1+1)),s0.2.1,s0.2.2.1,true,false,x117))
         else
          (rc s0.1 x112.1 s0.2.2.1 e x112.2).bind fun x118=>
          some (.inl ((w64 (x112.1+1)),s0.2.1,s0.2.2.1,false,false,x118))
        else
         bif (decide ((w64 (Int.tdiv (w64 (s0.2.1-s0.1)) 8))≤(w64 (s0.2.1-x112.1)))) then
          (rc (w64 (x112.1+1)) s0.2.1 s0.2.2.1 e x112.2).bind fun x119=>
          some (.inl (s0.1,x112.1,s0.2.2.1,true,false,x119))
         else
          (rc (w64 (x112.1+1)) s0.2.1 s0.2.2.1 e x112.2).bind fun x120=>
          some (.inl (s0.1,x112.1,s0.2.2.1,false,false,x120))
 else
  bif s0.2.2.2.2.1 then
   bif (decide ((w64 (s0.2.1-s0.1))≤12)) then
    (Z4 s0.1 s0.2.1 e s0.2.2.2.2.2).bind fun x121=>
    some (.inr x121)
   else
    bif (s0.2.2.1==0) then
     (Zag s0.1 s0.2.1 e s0.2.2.2.2.2).bind fun x122=>
     some (.inr x122)
    else
     (Zah s0.1 s0.2.1 e s0.2.2.2.2.2).bind fun x123=>
     (ZU s0.1 s0.2.1 e x123).bind fun x124=>
     bif (x124.2==2) then
      (ZO s0.1 s0.2.1 e x123).bind fun x125=>
      bif (decide (0<s0.1)) then
       (Zy x125 (w64 (s0.1-1))).bind fun x126=>
       (Zy x125 (w64 ((w64 (s0.2.1-1))-(w64 (x124.1-s0.1))))).bind fun x127=>
       (e x126 x127).bind fun x128=>
       bif (decide (x128<0)) then
        (Zr s0.1 s0.2.1 (w64 ((w64 (s0.2.1-1))-(w64 (x124.1-s0.1)))) e x125).bind fun x129=>
        match x129 with
        | (.inl x129)=>
         bif (decide ((w64 (x129.1-s0.1))<(w64 (s0.2.1-x129.1)))) then
          bif (decide ((w64 (Int.tdiv (w64 (s0.2.1-s0.1)) 8))≤(w64 (x129.1-s0.1)))) then
           (rc s0.1 x129.1 (w64 (s0.2.2.1-1)) e x129.2).bind fun x130=>
           some (.inl ((w64 (x129.1+1)),s0.2.1,(w64 (s0.2.2.1-1)),true,true,x130))
          else
           (rc s0.1 x129.1 (w64 (s0.2.2.1-1)) e x129.2).bind fun x131=>
           some (.inl ((w64 (x129.1+1)),s0.2.1,(w64 (s0.2.2.1-1)),false,true,x131))
         else
          bif (decide ((w64 (Int.tdiv (w64 (s0.2.1-s0.1)) 8))≤(w64 (s0.2.1-x129.1)))) then
           (rc (w64 (x129.1+1)) s0.2.1 (w64 (s0.2.2.1-1)) e x129.2).bind fun x132=>
           some (.inl (s0.1,x129.1,(w64 (s0.2.2.1-1)),true,true,x132))
          else
           (rc (w64 (x129.1+1)) s0.2.1 (w64 (s0.2.2.1-1)) e x129.2).bind fun x133=>
           some (.inl (s0.1,x129.1,(w64 (s0.2.2.1-1)),false,true,x133))
        | (.inr x129)=>
         bif (decide ((w64 (x129.1-s0.1))<(w64 (s0.2.1-x129.1)))) then
          bif (decide ((w64 (Int.tdiv (w64 (s0.2.1-s0.1)) 8))≤(w64 (x129.1-s0.1)))) then
           (rc s0.1 x129.1 (w64 (s0.2.2.1-1)) e x129.2).bind fun x134=>
           some (.inl ((w64 (x129.1+1)),s0.2.1,(w64 (s0.2.2.1-1)),true,false,x134))
          else
           (rc s0.1 x129.1 (w64 (s0.2.2.1-1)) e x129.2).bind fun x135=>
           some (.inl ((w64 (x129.1+1)),s0.2.1,(w64 (s0.2.2.1-1)),false,false,x135))
         else
          bif (decide ((w64 (Int.tdiv (w64 (s0.2.1-s0.1)) 8))≤(w64 (s0.2.1-x129.1)))) then
           (rc (w64 (x129.1+1)) s0.2.1 (w64 (s0.2.2.1-1)) e x129.2).bind fun x136=>
           some (.inl (s0.1,x129.1,(w64 (s0.2.2.1-1)),true,false,x136))
          else
           (rc (w64 (x129.1+1)) s0.2.1 (w64 (s0.2.2.1-1)) e x129.2).bind fun x137=>
           some (.inl (s0.1,x129.1,(w64 (s0.2.2.1-1)),false,false,x137))
       else
        (ZD s0.1 s0.2.1 (w64 ((w64 (s0.2.1-1))-(w64 (x124.1-s0.1)))) e x125).bind fun x138=>
        some (.inl (x138.1,s0.2.1,(w64 (s0.2.2.1-1)),false,true,x138.2))
      else
       (Zr s0.1 s0.2.1 (w64 ((w64 (s0.2.1-1))-(w64 (x124.1-s0.1)))) e x125).bind fun x139=>
       match x139 with
       | (.inl x139)=>
        bif (decide ((w64 (x139.1-s0.1))<(w64 (s0.2.1-x139.1)))) then
         bif (decide ((w64 (Int.tdiv (w64 (s0.2.1-s0.1)) 8))≤(w64 (x139.1-s0.1)))) then
          (rc s0.1 x139.1 (w64 (s0.2.2.1-1)) e x139.2).bind fun x140=>
          some (.inl ((w64 (x139.1+1)),s0.2.1,(w64 (s0.2.2.1-1)),true,true,x140))
         else
          (rc s0.1 x139.1 (w64 (s0.2.2.1-1)) e x139.2).bind fun x141=>
          some (.inl ((w64 (x139.1+1)),s0.2.1,(w64 (s0.2.2.1-1)),false,true,x141))
        else
         bif (decide ((w64 (Int.tdiv (w64 (s0.2.1-s0.1)) 8))≤(w64 (s0.2.1-x139.1)))) then
          (rc (w64 (x139.1+1)) s0.2.1 (w64 (s0.2.2.1-1)) e x139.2).bind fun x142=>
          some (.inl (s0.1,x139.1,(w64 (s0.2.2.1-1)),true,true,x142))
         else
          (rc (w64 (x139.1+1)) s0.2.1 (w64 (s0.2.2.1-1)) e x139.2).bind fun x143=>
          some (.inl (s0.1,x139.1,(w64 (s0.2.2.1-1)),false,true,x143))
       | (.inr x139)=>
        bif (decide ((w64 (x139.1-s0.1))<(w64 (s0.2.1-x139.1)))) then
         bif (decide ((w64 (Int.tdiv (w64 (s0.2.1-s0.1)) 8))≤(w64 (x139.1-s0.1)))) then
          (rc s0.1 x139.1 (w64 (s0.2.2.1-1)) e x139.2).bind fun x144=>
          some (.inl ((w64 (x139.1+1)),s0.2.1,(w64 (s0.2.2.1-1)),true,false,x144))
         else
          (rc s0.1 x139.1 (w64 (s0.2.2.1-1)) e x139.2).bind fun x145=>
          some (.inl ((w64 (x139.1+1)),s0.2.1,(w64 (s0.2.2.1-1)),false,false,x145))
        else
         bif (decide ((w64 (Int.tdiv (w64 (s0.2.1-s0.1)) 8))≤(w64 (s0.2.1-x139.1)))) then
          (rc (w64 (x139.1+1)) s0.2.1 (w64 (s0.2.2.1-1)) e x139.2).bind fun x146=>
          some (.inl (s0.1,x139.1,(w64 (s0.2.2.1-1)),true,false,x146))
         else
          (rc (w64 (x139.1+1)) s0.2.1 (w64 (s0.2.2.1-1)) e x139.2).bind fun x147=>
          some (.inl (s0.1,x139.1,(w64 (s0.2.2.1-1)),false,false,x147))
     else
      bif (decide (0<s0.1)) then
       (Zy x123 (w64 (s0.1-1))).bind fun x148=>
       (Zy x123 x124.1).bind fun x149=>
       (e x148 x149).bind fun x150=>
       bif (decide (x150<0)) then
        (Zr s0.1 s0.2.1 x124.1 e x123).bind fun x151=>
        match x151 with
        | (.inl x151)=>
         bif (decide ((w64 (x151.1-s0.1))<(w64 (s0.2.1-x151.1)))) then
          bif (decide ((w64 (Int.tdiv (w64 (s0.2.1-s0.1)) 8))≤(w64 (x151.1-s0.1)))) then
           (rc s0.1 x151.1 (w64 (s0.2.2.1-1)) e x151.2).bind fun x152=>
           some (.inl ((w64 (x151.1+1)),s0.2.1,(w64 (s0.2.2.1-1)),true,true,x152))
          else
           (rc s0.1 x151.1 (w64 (s0.2.2.1-1)) e x151.2).bind fun x153=>
           some (.inl ((w64 (x151.1+1)),s0.2.1,(w64 (s0.2.2.1-1)),false,true,x153))
         else
          bif (decide ((w64 (Int.tdiv (w64 (s0.2.1-s0.1)) 8))≤(w64 (s0.2.1-x151.1)))) then
           (rc (w64 (x151.1+1)) s0.2.1 (w64 (s0.2.2.1-1)) e x151.2).bind fun x154=>
           some (.inl (s0.1,x151.1,(w64 (s0.2.2.1-1)),true,true,x154))
          else
           (rc (w64 (x151.1+1)) s0.2.1 (w64 (s0.2.2.1-1)) e x151.2).bind fun x155=>
           some (.inl (s0.1,x151.1,(w64 (s0.2.2.1-1)),false,true,x155))
        | (.inr x151)=>
         bif (decide ((w64 (x151.1-s0.1))<(w64 (s0.2.1-x151.1)))) then
          bif (decide ((w64 (Int.tdiv (w64 (s0.2.1-s0.1)) 8))≤(w64 (x151.1-s0.1)))) then
           (rc s0.1 x151.1 (w64 (s0.2.2.1-1)) e x151.2).bind fun x156=>
           some (.inl ((w64 (x151.1+1)),s0.2.1,(w64 (s0.2.2.1-1)),true,false,x156))
          else
           (rc s0.1 x151.1 (w64 (s0.2.2.1-1)) e x151.2).bind fun x157=>
           some (.inl ((w64 (x151.1+1)),s0.2.1,(w64 (s0.2.2.1-1)),false,false,x157))
         else
          bif (decide ((w64 (Int.tdiv (w64 (s0.2.1-s0.1)) 8))≤(w64 (s0.2.1-x151.1)))) then
           (rc (w64 (x151.1+1)) s0.2.1 (w64 (s0.2.2.1-1)) e x151.2).bind fun x158=>
           some (.inl (s0.1,x151.1,(w64 (s0.2.2.1-1)),true,false,x158))
          else
           (rc (w64 (x151.1+1)) s0.2.1 (w64 (s0.2.2.1-1)) e x151.2).bind fun x159=>
           some (.inl (s0.1,x151.1,(w64 (s0.2.2.1-1)),false,false,x159))
       else
        (ZD s0.1 s0.2.1 x124.1 e x123).bind fun x160=>
        some (.inl (x160.1,s0.2.1,(w64 (s0.2.2.1-1)),false,true,x160.2))
      else
       (Zr s0.1 s0.2.1 x124.1 e x123).bind fun x161=>
       match x161 with
       | (.inl x161)=>
        bif (decide ((w64 (x161.1-s0.1))<(w64 (s0.2.1-x161.1)))) then
         bif (decide ((w64 (Int.tdiv (w64 (s0.2.1-s0.1)) 8))≤(w64 (x161.1-s0.1)))) then
          (rc s0.1 x161.1 (w64 (s0.2.2.1-1)) e x161.2).bind fun x162=>
          some (.inl ((w64 (x161.1+1)),s0.2.1,(w64 (s0.2.2.1-1)),true,true,x162))
         else
          (rc s0.1 x161.1 (w64 (s0.2.2.1-1)) e x161.2).bind fun x163=>
          some (.inl ((w64 (x161.1+1)),s0.2.1,(w64 (s0.2.2.1-1)),false,true,x163))
        else
         bif (decide ((w64 (Int.tdiv (w64 (s0.2.1-s0.1)) 8))≤(w64 (s0.2.1-x161.1)))) then
          (rc (w64 (x161.1+1)) s0.2.1 (w64 (s0.2.2.1-1)) e x161.2).bind fun x164=>
          some (.inl (s0.1,x161.1,(w64 (s0.2.2.1-1)),true,true,x164))
         else
          (rc (w64 (x161.1+1)) s0.2.1 (w64 (s0.2.2.1-1)) e x161.2).bind fun x165=>
          some (.inl (s0.1,x161.1,(w64 (s0.2.2.1-1)),false,true,x165))
       | (.inr x161)=>
        bif (decide ((w64 (x161.1-s0.1))<(w64 (s0.2.1-x161.1)))) then
         bif (decide ((w64 (Int.tdiv (w64 (s0.2.1-s0.1)) 8))≤(w64 (x161.1-s0.1)))) then
          (rc s0.1 x161.1 (w64 (s0.2.2.1-1)) e x161.2).bind fun x166=>
          some (.inl ((w64 (x161.1+1)),s0.2.1,(w64 (s0.2.2.1-1)),true,false,x166))
         else
          (rc s0.1 x161.1 (w64 (s0.2.2.1-1)) e x161.2).bind fun x167=>
          some (.inl ((w64 (x161.1+1)),s0.2.1,(w64 (s0.2.2.1-1)),false,false,x167))
        else
         bif (decide ((w64 (Int.tdiv (w64 (s0.2.1-s0.1)) 8))≤(w64 (s0.2.1-x161.1)))) then
          (rc (w64 (x161.1+1)) s0.2.1 (w64 (s0.2.2.1-1)) e x161.2).bind fun x168=>
          some (.inl (s0.1,x161.1,(w64 (s0.2.2.1-1)),true,false,x168))
         else
          (rc (w64 (x161.1+1)) s0.2.1 (w64 (s0.2.2.1-1)) e x161.2).bind fun x169=>
          some (.inl (s0.1,x161.1,(w64 (s0.2.2.1-1)),false,false,x169))
  else
   bif (decide ((w64 (s0.2.1-s0.1))≤12)) then
    (Z4 s0.1 s0.2.1 e s0.2.2.2.2.2).bind fun x170=>
    some (.inr x170)
   else
    bif (s0.2.2.1==0) then
     (Zag s0.1 s0.2.1 e s0.2.2.2.2.2).bind fun x171=>
     some (.inr x171)
    else
     (Zah s0.1 s0.2.1 e s0.2.2.2.2.2).bind fun x172=>
     (ZU s0.1 s0.2.1 e x172).bind fun x173=>
     bif (x173.2==2) then
      (ZO s0.1 s0.2.1 e x172).bind fun x174=>
      bif (decide (0<s0.1)) then
       (Zy x174 (w64 (s0.1-1))).bind fun x175=>
       (Zy x174 (w64 ((w64 (s0.2.1-1))-(w64 (x173.1-s0.1))))).bind fun x176=>
       (e x175 x176).bind fun x177=>
       bif (decide (x177<0)) then
        (Zr s0.1 s0.2.1 (w64 ((w64 (s0.2.1-1))-(w64 (x173.1-s0.1)))) e x174).bind fun x178=>
        match x178 with
        | (.inl x178)=>
         bif (decide ((w64 (x178.1-s0.1))<(w64 (s0.2.1-x178.1)))) then
          bif (decide ((w64 (Int.tdiv (w64 (s0.2.1-s0.1)) 8))≤(w64 (x178.1-s0.1)))) then
           (rc s0.1 x178.1 (w64 (s0.2.2.1-1)) e x178.2).bind fun x179=>
           some (.inl ((w64 (x178.1+1)),s0.2.1,(w64 (s0.2.2.1-1)),true,true,x179))
          else
           (rc s0.1 x178.1 (w64 (s0.2.2.1-1)) e x178.2).bind fun x180=>
           some (.inl ((w64 (x178.1+1)),s0.2.1,(w64 (s0.2.2.1-1)),false,true,x180))
         else
          bif (decide ((w64 (Int.tdiv (w64 (s0.2.1-s0.1)) 8))≤(w64 (s0.2.1-x178.1)))) then
           (rc (w64 (x178.1+1)) s0.2.1 (w64 (s0.2.2.1-1)) e x178.2).bind fun x181=>
           some (.inl (s0.1,x178.1,(w64 (s0.2.2.1-1)),true,true,x181))
          else
           (rc (w64 (x178.1+1)) s0.2.1 (w64 (s0.2.2.1-1)) e x178.2).bind fun x182=>
           some (.inl (s0.1,x178.1,(w64 (s0.2.2.1-1)),false,true,x182))
        | (.inr x178)=>
         bif (decide ((w64 (x178.1-s0.1))<(w64 (s0.2.1-x178.1)))) then
          bif (decide ((w64 (Int.tdiv (w64 (s0.2.1-s0.1)) 8))≤(w64 (x178.1-s0.1)))) then
           (rc s0.1 x178.1 (w64 (s0.2.2.1-1)) e x178.2).bind fun x183=>
           some (.inl ((w64 (x178.1+1)),s0.2.1,(w64 (s0.2.2.1-1)),true,false,x183))
          else
           (rc s0.1 x178.1 (w64 (s0.2.2.1-1)) e x178.2).bind fun x184=>
           some (.inl ((w64 (x178.1+1)),s0.2.1,(w64 (s0.2.2.1-1)),false,false,x184))
         else
          bif (decide ((w64 (Int.tdiv (w64 (s0.2.1-s0.1)) 8))≤(w64 (s0.2.1-x178.1)))) then
           (rc (w64 (x178.1+1)) s0.2.1 (w64 (s0.2.2.1-1)) e x178.2).bind fun x185=>
           some (.inl (s0.1,x178.1,(w64 (s0.2.2.1-1)),true,false,x185))
          else
           (rc (w64 (x178.1+1)) s0.2.1 (w64 (s0.2.2.1-1)) e x178.2).bind fun x186=>
           some (.inl (s0.1,x178.1,(w64 (s0.2.2.1-1)),false,false,x186))
       else
        (ZD s0.1 s0.2.1 (w64 ((w64 (s0.2.1-1))-(w64 (x173.1-s0.1)))) e x174).bind fun x187=>
        some (.inl (x187.1,s0.2.1,(w64 (s0.2.2.1-1)),false,false,x187.2))
      else
       (Zr s0.1 s0.2.1 (w64 ((w64 (s0.2.1-1))-(w64 (x173.1-s0.1)))) e x174).bind fun x188=>
       match x188 with
       | (.inl x188)=>
        bif (decide ((w64 (x188.1-s0.1))<(w64 (s0.2.1-x188.1)))) then
         bif (decide ((w64 (Int.tdiv (w64 (s0.2.1-s0.1)) 8))≤(w64 (x188.1-s0.1)))) then
          (rc s0.1 x188.1 (w64 (s0.2.2.1-1)) e x188.2).bind fun x189=>
          some (.inl ((w64 (x188.1+1)),s0.2.1,(w64 (s0.2.2.1-1)),true,true,x189))
         else
          (rc s0.1 x188.1 (w64 (s0.2.2.1-1)) e x188.2).bind fun x190=>
          some (.inl ((w64 (x188.1+1)),s0.2.1,(w64 (s0.2.2.1-1)),false,true,x190))
        else
         bif (decide ((w64 (Int.tdiv (w64 (s0.2.1-s0.1)) 8))≤(w64 (s0.2.1-x188.1)))) then
          (rc (w64 (x188.1+1)) s0.2.1 (w64 (s0.2.2.1-1)) e x188.2).bind fun x191=>
          some (.inl (s0.1,x188.1,(w64 (s0.2.2.1-1)),true,true,x191))
         else
          (rc (w64 (x188.1+1)) s0.2.1 (w64 (s0.2.2.1-1)) e x188.2).bind fun x192=>
          some (.inl (s0.1,x188.1,(w64 (s0.2.2.1-1)),false,true,x192))
       | (.inr x188)=>
        bif (decide ((w64 (x188.1-s0.1))<(w64 (s0.2.1-x188.1)))) then
         bif (decide ((w64 (Int.tdiv (w64 (s0.2.1-s0.1)) 8))≤(w64 (x188.1-s0.1)))) then
          (rc s0.1 x188.1 (w64 (s0.2.2.1-1)) e x188.2).bind fun x193=>
          some (.inl ((w64 (x188.1+1)),s0.2.1,(w64 (s0.2.2.1-1)),true,false,x193))
         else
          (rc s0.1 x188.1 (w64 (s0.2.2.1-1)) e x188.2).bind fun x194=>
          some (.inl ((w64 (x188.1+1)),s0.2.1,(w64 (s0.2.2.1-1)),false,false,x194))
        else
         bif (decide ((w64 (Int.tdiv (w64 (s0.2.1-s0.1)) 8))≤(w64 (s0.2.1-x188.1)))) then
          (rc (w64 (x188.1+1)) s0.2.1 (w64 (s0.2.2.1-1)) e x188.2).bind fun x195=>
          some (.inl (s0.1,x188.1,(w64 (s0.2.2.1-1)),true,false,x195))
         else
          (rc (w64 (x188.1+1)) s0.2.1 (w64 (s0.2.2.1-1)) e x188.2).bind fun x196=>
          some (.inl (s0.1,x188.1,(w64 (s0.2.2.1-1)),false,false,x196))
     else
      bif (decide (0<s0.1)) then
       (Zy x172 (w64 (s0.1-1))).bind fun x197=>
       (Zy x172 x173.1).bind fun x198=>
       (e x197 x198).bind fun x199=>
       bif (decide (x199<0)) then
        (Zr s0.1 s0.2.1 x173.1 e x172).bind fun x200=>
        match x200 with
        | (.inl x200)=>
         bif (decide ((w64 (x200.1-s0.1))<(w64 (s0.2.1-x200.1)))) then
          bif (decide ((w64 (Int.tdiv (w64 (s0.2.1-s0.1)) 8))≤(w64 (x200.1-s0.1)))) then
           (rc s0.1 x200.1 (w64 (s0.2.2.1-1)) e x200.2).bind fun x201=>
           some (.inl ((w64 (x200.1+1)),s0.2.1,(w64 (s0.2.2.1-1)),true,true,x201))
          else
           (rc s0.1 x200.1 (w64 (s0.2.2.1-1)) e x200.2).bind fun x202=>
           some (.inl ((w64 (x200.1+1)),s0.2.1,(w64 (s0.2.2.1-1)),false,true,x202))
         else
          bif (decide ((w64 (Int.tdiv (w64 (s0.2.1-s0.1)) 8))≤(w64 (s0.2.1-x200.1)))) then
           (rc (w64 (x200.1+1)) s0.2.1 (w64 (s0.2.2.1-1)) e x200.2).bind fun x203=>
           some (.inl (s0.1,x200.1,(w64 (s0.2.2.1-1)),true,true,x203))
          else
           (rc (w64 (x200.1+1)) s0.2.1 (w64 (s0.2.2.1-1)) e x200.2).bind fun x204=>
           some (.inl (s0.1,x200.1,(w64 (s0.2.2.1-1)),false,true,x204))
        | (.inr x200)=>
         bif (decide ((w64 (x200.1-s0.1))<(w64 (s0.2.1-x200.1)))) then
          bif (decide ((w64 (Int.tdiv (w64 (s0.2.1-s0.1)) 8))≤(w64 (x200.1-s0.1)))) then
           (rc s0.1 x200.1 (w64 (s0.2.2.1-1)) e x200.2).bind fun x205=>
           some (.inl ((w64 (x200.1+1)),s0.2.1,(w64 (s0.2.2.1-1)),true,false,x205))
          else
           (rc s0.1 x200.1 (w64 (s0.2.2.1-1)) e x200.2).bind fun x206=>
           some (.inl ((w64 (x200.1+1)),s0.2.1,(w64 (s0.2.2.1-1)),false,false,x206))
         else
          bif (decide ((w64 (Int.tdiv (w64 (s0.2.1-s0.1)) 8))≤(w64 (s0.2.1-x200.1)))) then
           (rc (w64 (x200.1+1)) s0.2.1 (w64 (s0.2.2.1-1)) e x200.2).bind fun x207=>
           some (.inl (s0.1,x200.1,(w64 (s0.2.2.1-1)),true,false,x207))
          else
           (rc (w64 (x200.1+1)) s0.2.1 (w64 (s0.2.2.1-1)) e x200.2).bind fun x208=>
           some (.inl (s0.1,x200.1,(w64 (s0.2.2.1-1)),false,false,x208))
       else
        (ZD s0.1 s0.2.1 x173.1 e x172).bind fun x209=>
        some (.inl (x209.1,s0.2.1,(w64 (s0.2.2.1-1)),false,false,x209.2))
      else
       (Zr s0.1 s0.2.1 x173.1 e x172).bind fun x210=>
       match x210 with
       | (.inl x210)=>
        bif (decide ((w64 (x210.1-s0.1))<(w64 (s0.2.1-x210.1)))) then
         bif (decide ((w64 (Int.tdiv (w64 (s0.2.1-s0.1)) 8))≤(w64 (x210.1-s0.1)))) then
          (rc s0.1 x210.1 (w64 (s0.2.2.1-1)) e x210.2).bind fun x211=>
          some (.inl ((w64 (x210.1+1)),s0.2.1,(w64 (s0.2.2.1-1)),true,true,x211))
         else
          (rc s0.1 x210.1 (w64 (s0.2.2.1-1)) e x210.2).bind fun x212=>
          some (.inl ((w64 (x210.1+1)),s0.2.1,(w64 (s0.2.2.1-1)),false,true,x212))
        else
         bif (decide ((w64 (Int.tdiv (w64 (s0.2.1-s0.1)) 8))≤(w64 (s0.2.1-x210.1)))) then
          (rc (w64 (x210.1+1)) s0.2.1 (w64 (s0.2.2.1-1)) e x210.2).bind fun x213=>
          some (.inl (s0.1,x210.1,(w64 (s0.2.2.1-1)),true,true,x213))
         else
          (rc (w64 (x210.1+1)) s0.2.1 (w64 (s0.2.2.1-1)) e x210.2).bind fun x214=>
          some (.inl (s0.1,x210.1,(w64 (s0.2.2.1-1)),false,true,x214))
       | (.inr x210)=>
        bif (decide ((w64 (x210.1-s0.1))<(w64 (s0.2.1-x210.1)))) then
         bif (decide ((w64 (Int.tdiv (w64 (s0.2.1-s0.1)) 8))≤(w64 (x210.1-s0.1)))) then
          (rc s0.1 x210.1 (w64 (s0.2.2.1-1)) e x210.2).bind fun x215=>
          some (.inl ((w64 (x210.1+1)),s0.2.1,(w64 (s0.2.2.1-1)),true,false,x215))
         else
          (rc s0.1 x210.1 (w64 (s0.2.2.1-1)) e x210.2).bind fun x216=>
          some (.inl ((w64 (x210.1+1)),s0.2.1,(w64 (s0.2.2.1-1)),false,false,x216))
        else
         bif (decide ((w64 (Int.tdiv (w64 (s0.2.1-s0.1)) 8))≤(w64 (s0.2.1-x210.1)))) then
          (rc (w64 (x210.1+1)) s0.2.1 (w64 (s0.2.2.1-1)) e x210.2).bind fun x217=>
          some (.inl (s0.1,x210.1,(w64 (s0.2.2.1-1)),true,false,x217))
         else
          (rc (w64 (x210.1+1)) s0.2.1 (w64 (s0.2.2.1-1)) e x210.2).bind fun x218=>
          some (.inl (s0.1,x210.1,(w64 (s0.2.2.1-1)),false,false,x218))
noncomputable def ZaE (rc:Int→Int→Int→(Int→Int→Option Int)→(List Int)→Option (List Int)) (b:Int) (c:Int) (d:Int) (e:(Int→Int→Option Int)) (m0_0:(List Int)):Option (List Int):=
 (lp (ZV e rc) (b,c,d,true,true,m0_0)).bind fun r219=>
 some r219
noncomputable def Z0:Nat→Int→Int→Int→(Int→Int→Option Int)→(List Int)→Option (List Int)
 | 0=>fun _ _ _ _ _=>none
 | n+1=>ZaE (Z0 n)
noncomputable def Zdu (b:Int) (c:Int) (d:Int) (e:(Int→Int→Option Int)) (m0_0:(List Int)):Option (List Int):=Zvu fun n=>Z0 n b c d e m0_0
noncomputable def ZaN (b:(Int→Int→Option Int)) (m0_0:(List Int)):Option (List Int):=
 (Zet (IntKind.u64.wrap (m0_0.length:Int))).bind fun x0=>
 (Zdu 0 (m0_0.length:Int) x0 b m0_0).bind fun x1=>
 some x1
noncomputable def Zeg (a:Zn) (b:Int) (s1:Int×(List Int)):Option ((Int×(List Int))⊕(List Int)):=
 bif (decide (s1.1<(a.futures.length:Int))) then
  (Zy a.futures s1.1).bind fun x2=>
  bif (x2.user==b) then
   bif (Nat.ble (List.length s1.2+1) lim) then
    some (.inl ((w64 (s1.1+1)),(s1.2++[s1.1])))
   else
    none
  else
   some (.inl ((w64 (s1.1+1)),s1.2))
 else
  some (.inr s1.2)
noncomputable def Zd7 (a:Zn) (b:Int):Option (List Int):=
 (ZgY a).bind fun x0=>
 bif (x0 != 0) then
  some ([]:List Int)
 else
  (lp (Zeg a b) (0,([]:(List Int)))).bind fun r3=>
  (ZaN (fun z0 z1=>Zw z0 z1 a.futures) r3).bind fun x4=>
  some x4
noncomputable def Za0 (b:Zi) (c:Int) (m1_0:(List Int)) (m3_0:(List Zi)):Option Unit:=
 bif (Nat.ble (List.length m3_0+1) lim) then
  bif (Nat.ble (List.length m1_0+1) lim) then
   some ()
  else
   none
 else
  none
noncomputable def ZX (b:Int) (c:Int) (m2_0:(List Zo)):Option Unit:=
 bif (Nat.ble (List.length m2_0+1) lim) then
  some ()
 else
  none
noncomputable def ZF (b:Zn) (c:Int) (x0:(List Int)) (s14:Int×Int×(List (Int×Int))×(List (Zk×Int))×(List Int)×(List Zo)×(List Zi)):Option ((Int×Int×(List (Int×Int))×(List (Zk×Int))×(List Int)×(List Zo)×(List Zi))⊕((List (Int×Int))×(List (Zk×Int))×(List Int)×(List Zo)×(List Zi))):=
 bif (decide (s14.2.1<(w64 ((x0.length:Int)+1)))) then
  (Zy b.parts c).bind fun x15=>
  bif (decide (s14.2.1<(x0.length:Int))) then
   (Zy x0 s14.2.1).bind fun x16=>
   (Zy b.futures x16).bind fun x17=>
   (Za0 (Zi.mk c s14.2.1) (w64 (x17.pos-s14.1)) s14.2.2.2.2.1 s14.2.2.2.2.2.2).bind fun x18=>
   bif (decide (0<s14.2.1)) then
    (ZX (w64 ((ZaL (fun ka kb:Int=>(ka==kb)) (Zx (fun ka kb:Int=>(ka==kb)) s14.2.2.1 c (w64 ((List.length (s14.2.2.2.2.2.2++[(Zi.mk c s14.2.1)]):Int)-1))) c 0)-1)) (ZaL (fun ka kb:Int=>(ka==kb)) (Zx (fun ka kb:Int=>(ka==kb)) s14.2.2.1 c (w64 ((List.length (s14.2.2.2.2.2.2++[(Zi.mk c s14.2.1)]):Int)-1))) c 0) s14.2.2.2.2.2.1).bind fun x19=>
    (Zy x0 (w64 (s14.2.1-1))).bind fun x20=>
    (Zy b.futures x20).bind fun x21=>
    some (.inl (x17.pos,(w64 (s14.2.1+1)),(Zx (fun ka kb:Int=>(ka==kb)) s14.2.2.1 c (w64 ((List.length (s14.2.2.2.2.2.2++[(Zi.mk c s14.2.1)]):Int)-1))),(Zx (fun ka kb:Zk=>((ka.maker==kb.maker)&&((ka.user==kb.user)&&((ka.pos==kb.pos)&&true)))) s14.2.2.2.1 x21 (ZaL (fun ka kb:Int=>(ka==kb)) (Zx (fun ka kb:Int=>(ka==kb)) s14.2.2.1 c (w64 ((List.length (s14.2.2.2.2.2.2++[(Zi.mk c s14.2.1)]):Int)-1))) c 0)),(s14.2.2.2.2.1++[(w64 (x17.pos-s14.1))]),(s14.2.2.2.2.2.1++[(Zo.mk (w64 ((ZaL (fun ka kb:Int=>(ka==kb)) (Zx (fun ka kb:Int=>(ka==kb)) s14.2.2.1 c (w64 ((List.length (s14.2.2.2.2.2.2++[(Zi.mk c s14.2.1)]):Int)-1))) c 0)-1)) (ZaL (fun ka kb:Int=>(ka==kb)) (Zx (fun ka kb:Int=>(ka==kb)) s14.2.2.1 c (w64 ((List.length (s14.2.2.2.2.2.2++[(Zi.mk c s14.2.1)]):Int)-1))) c 0))]),(s14.2.2.2.2.2.2++[(Zi.mk c s14.2.1)])))
   else
    some (.inl (x17.pos,(w64 (s14.2.1+1)),(Zx (fun ka kb:Int=>(ka==kb)) s14.2.2.1 c (w64 ((List.length (s14.2.2.2.2.2.2++[(Zi.mk c s14.2.1)]):Int)-1))),s14.2.2.2.1,(s14.2.2.2.2.1++[(w64 (x17.pos-s14.1))]),s14.2.2.2.2.2.1,(s14.2.2.2.2.2.2++[(Zi.mk c s14.2.1)])))
  else
   (Za0 (Zi.mk c s14.2.1) (w64 (x15.work-s14.1)) s14.2.2.2.2.1 s14.2.2.2.2.2.2).bind fun x22=>
   bif (decide (0<s14.2.1)) then
    (ZX (w64 ((ZaL (fun ka kb:Int=>(ka==kb)) (Zx (fun ka kb:Int=>(ka==kb)) s14.2.2.1 c (w64 ((List.length (s14.2.2.2.2.2.2++[(Zi.mk c s14.2.1)]):Int)-1))) c 0)-1)) (ZaL (fun ka kb:Int=>(ka==kb)) (Zx (fun ka kb:Int=>(ka==kb)) s14.2.2.1 c (w64 ((List.length (s14.2.2.2.2.2.2++[(Zi.mk c s14.2.1)]):Int)-1))) c 0) s14.2.2.2.2.2.1).bind fun x23=>
    (Zy x0 (w64 (s14.2.1-1))).bind fun x24=>
    (Zy b.futures x24).bind fun x25=>
    some (.inl (x15.work,(w64 (s14.2.1+1)),(Zx (fun ka kb:Int=>(ka==kb)) s14.2.2.1 c (w64 ((List.length (s14.2.2.2.2.2.2++[(Zi.mk c s14.2.1)]):Int)-1))),(Zx (fun ka kb:Zk=>((ka.maker==kb.maker)&&((ka.user==kb.user)&&((ka.pos==kb.pos)&&true)))) s14.2.2.2.1 x25 (ZaL (fun ka kb:Int=>(ka==kb)) (Zx (fun ka kb:Int=>(ka==kb)) s14.2.2.1 c (w64 ((List.length (s14.2.2.2.2.2.2++[(Zi.mk c s14.2.1)]):Int)-1))) c 0)),(s14.2.2.2.2.1++[(w64 (x15.work-s14.1))]),(s14.2.2.2.2.2.1++[(Zo.mk (w64 ((ZaL (fun ka kb:Int=>(ka==kb)) (Zx (fun ka kb:Int=>(ka==kb)) s14.2.2.1 c (w64 ((List.length (s14.2.2.2.2.2.2++[(Zi.mk c s14.2.1)]):Int)-1))) c 0)-1)) (ZaL (fun ka kb:Int=>(ka==kb)) (Zx (fun ka kb:Int=>(ka==kb)) s14.2.2.1 c (w64 ((List.length (s14.2.2.2.2.2.2++[(Zi.mk c s14.2.1)]):Int)-1))) c 0))]),(s14.2.2.2.2.2.2++[(Zi.mk c s14.2.1)])))
   else
    some (.inl (x15.work,(w64 (s14.2.1+1)),(Zx (fun ka kb:Int=>(ka==kb)) s14.2.2.1 c (w64 ((List.length (s14.2.2.2.2.2.2++[(Zi.mk c s14.2.1)]):Int)-1))),s14.2.2.2.1,(s14.2.2.2.2.1++[(w64 (x15.work-s14.1))]),s14.2.2.2.2.2.1,(s14.2.2.2.2.2.2++[(Zi.mk c s14.2.1)])))
 else
  some (.inr (s14.2.2.1,s14.2.2.2.1,s14.2.2.2.2.1,s14.2.2.2.2.2.1,s14.2.2.2.2.2.2))
noncomputable def Zci (b:Zn) (c:Int) (m1_0:(List Int)) (m2_0:(List Zo)) (m3_0:(List Zi)) (m5_0:(List (Int×Int))) (m6_0:(List (Zk×Int))) (x0:(List Int)) (x4:Zk) (s6:Unit):Option (Unit⊕(((List (Int×Int))×(List (Zk×Int))×(List Int)×(List Zo)×(List Zi))⊕Unit)):=
 bif (decide (1<(w64 ((x0.length:Int)+1)))) then
  (Zy b.parts c).bind fun x7=>
  bif (decide (1<(x0.length:Int))) then
   (Zy x0 1).bind fun x8=>
   (Zy b.futures x8).bind fun x9=>
   (Za0 (Zi.mk c 1) (w64 (x9.pos-x4.pos)) (m1_0++[(w64 (x4.pos-0))]) (m3_0++[(Zi.mk c 0)])).bind fun x10=>
   (ZX (w64 ((ZaL (fun ka kb:Int=>(ka==kb)) (Zx (fun ka kb:Int=>(ka==kb)) (Zx (fun ka kb:Int=>(ka==kb)) m5_0 c (w64 ((List.length (m3_0++[(Zi.mk c 0)]):Int)-1))) c (w64 ((List.length ((m3_0++[(Zi.mk c 0)])++[(Zi.mk c 1)]):Int)-1))) c 0)-1)) (ZaL (fun ka kb:Int=>(ka==kb)) (Zx (fun ka kb:Int=>(ka==kb)) (Zx (fun ka kb:Int=>(ka==kb)) m5_0 c (w64 ((List.length (m3_0++[(Zi.mk c 0)]):Int)-1))) c (w64 ((List.length ((m3_0++[(Zi.mk c 0)])++[(Zi.mk c 1)]):Int)-1))) c 0) m2_0).bind fun x11=>
   (Zy x0 0).bind fun x12=>
   (Zy b.futures x12).bind fun x13=>
   (lp (ZF b c x0) (x9.pos,2,(Zx (fun ka kb:Int=>(ka==kb)) (Zx (fun ka kb:Int=>(ka==kb)) m5_0 c (w64 ((List.length (m3_0++[(Zi.mk c 0)]):Int)-1))) c (w64 ((List.length ((m3_0++[(Zi.mk c 0)])++[(Zi.mk c 1)]):Int)-1))),(Zx (fun ka kb:Zk=>((ka.maker==kb.maker)&&((ka.user==kb.user)&&((ka.pos==kb.pos)&&true)))) m6_0 x13 (ZaL (fun ka kb:Int=>(ka==kb)) (Zx (fun ka kb:Int=>(ka==kb)) (Zx (fun ka kb:Int=>(ka==kb)) m5_0 c (w64 ((List.length (m3_0++[(Zi.mk c 0)]):Int)-1))) c (w64 ((List.length ((m3_0++[(Zi.mk c 0)])++[(Zi.mk c 1)]):Int)-1))) c 0)),((m1_0++[(w64 (x4.pos-0))])++[(w64 (x9.pos-x4.pos))]),(m2_0++[(Zo.mk (w64 ((ZaL (fun ka kb:Int=>(ka==kb)) (Zx (fun ka kb:Int=>(ka==kb)) (Zx (fun ka kb:Int=>(ka==kb)) m5_0 c (w64 ((List.length (m3_0++[(Zi.mk c 0)]):Int)-1))) c (w64 ((List.length ((m3_0++[(Zi.mk c 0)])++[(Zi.mk c 1)]):Int)-1))) c 0)-1)) (ZaL (fun ka kb:Int=>(ka==kb)) (Zx (fun ka kb:Int=>(ka==kb)) (Zx (fun ka kb:Int=>(ka==kb)) m5_0 c (w64 ((List.length (m3_0++[(Zi.mk c 0)]):Int)-1))) c (w64 ((List.length ((m3_0++[(Zi.mk c 0)])++[(Zi.mk c 1)]):Int)-1))) c 0))]),((m3_0++[(Zi.mk c 0)])++[(Zi.mk c 1)]))).bind fun r26=>
   some (.inr (.inl (r26.1,r26.2.1,r26.2.2.1,r26.2.2.2.1,r26.2.2.2.2)))
  else
   (Za0 (Zi.mk c 1) (w64 (x7.work-x4.pos)) (m1_0++[(w64 (x4.pos-0))]) (m3_0++[(Zi.mk c 0)])).bind fun x27=>
   (ZX (w64 ((ZaL (fun ka kb:Int=>(ka==kb)) (Zx (fun ka kb:Int=>(ka==kb)) (Zx (fun ka kb:Int=>(ka==kb)) m5_0 c (w64 ((List.length (m3_0++[(Zi.mk c 0)]):Int)-1))) c (w64 ((List.length ((m3_0++[(Zi.mk c 0)])++[(Zi.mk c 1)]):Int)-1))) c 0)-1)) (ZaL (fun ka kb:Int=>(ka==kb)) (Zx (fun ka kb:Int=>(ka==kb)) (Zx (fun ka kb:Int=>(ka==kb)) m5_0 c (w64 ((List.length (m3_0++[(Zi.mk c 0)]):Int)-1))) c (w64 ((List.length ((m3_0++[(Zi.mk c 0)])++[(Zi.mk c 1)]):Int)-1))) c 0) m2_0).bind fun x28=>
   (Zy x0 0).bind fun x29=>
   (Zy b.futures x29).bind fun x30=>
   (lp (ZF b c x0) (x7.work,2,(Zx (fun ka kb:Int=>(ka==kb)) (Zx (fun ka kb:Int=>(ka==kb)) m5_0 c (w64 ((List.length (m3_0++[(Zi.mk c 0)]):Int)-1))) c (w64 ((List.length ((m3_0++[(Zi.mk c 0)])++[(Zi.mk c 1)]):Int)-1))),(Zx (fun ka kb:Zk=>((ka.maker==kb.maker)&&((ka.user==kb.user)&&((ka.pos==kb.pos)&&true)))) m6_0 x30 (ZaL (fun ka kb:Int=>(ka==kb)) (Zx (fun ka kb:Int=>(ka==kb)) (Zx (fun ka kb:Int=>(ka==kb)) m5_0 c (w64 ((List.length (m3_0++[(Zi.mk c 0)]):Int)-1))) c (w64 ((List.length ((m3_0++[(Zi.mk c 0)])++[(Zi.mk c 1)]):Int)-1))) c 0)),((m1_0++[(w64 (x4.pos-0))])++[(w64 (x7.work-x4.pos))]),(m2_0++[(Zo.mk (w64 ((ZaL (fun ka kb:Int=>(ka==kb)) (Zx (fun ka kb:Int=>(ka==kb)) (Zx (fun ka kb:Int=>(ka==kb)) m5_0 c (w64 ((List.length (m3_0++[(Zi.mk c 0)]):Int)-1))) c (w64 ((List.length ((m3_0++[(Zi.mk c 0)])++[(Zi.mk c 1)]):Int)-1))) c 0)-1)) (ZaL (fun ka kb:Int=>(ka==kb)) (Zx (fun ka kb:Int=>(ka==kb)) (Zx (fun ka kb:Int=>(ka==kb)) m5_0 c (w64 ((List.length (m3_0++[(Zi.mk c 0)]):Int)-1))) c (w64 ((List.length ((m3_0++[(Zi.mk c 0)])++[(Zi.mk c 1)]):Int)-1))) c 0))]),((m3_0++[(Zi.mk c 0)])++[(Zi.mk c 1)]))).bind fun r43=>
   some (.inr (.inl (r43.1,r43.2.1,r43.2.2.1,r43.2.2.2.1,r43.2.2.2.2)))
 else
  some (.inr (.inr ()))
noncomputable def Zdd (b:Zn) (c:Int) (m1_0:(List Int)) (m2_0:(List Zo)) (m3_0:(List Zi)) (m5_0:(List (Int×Int))) (m6_0:(List (Zk×Int))) (x0:(List Int)) (x2:Zam) (s46:Unit):Option (Unit⊕(((List (Int×Int))×(List (Zk×Int))×(List Int)×(List Zo)×(List Zi))⊕Unit)):=
 bif (decide (1<(w64 ((x0.length:Int)+1)))) then
  (Zy b.parts c).bind fun x47=>
  bif (decide (1<(x0.length:Int))) then
   (Zy x0 1).bind fun x48=>
   (Zy b.futures x48).bind fun x49=>
   (Za0 (Zi.mk c 1) (w64 (x49.pos-x2.work)) (m1_0++[(w64 (x2.work-0))]) (m3_0++[(Zi.mk c 0)])).bind fun x50=>
   (ZX (w64 ((ZaL (fun ka kb:Int=>(ka==kb)) (Zx (fun ka kb:Int=>(ka==kb)) (Zx (fun ka kb:Int=>(ka==kb)) m5_0 c (w64 ((List.length (m3_0++[(Zi.mk c 0)]):Int)-1))) c (w64 ((List.length ((m3_0++[(Zi.mk c 0)])++[(Zi.mk c 1)]):Int)-1))) c 0)-1)) (ZaL (fun ka kb:Int=>(ka==kb)) (Zx (fun ka kb:Int=>(ka==kb)) (Zx (fun ka kb:Int=>(ka==kb)) m5_0 c (w64 ((List.length (m3_0++[(Zi.mk c 0)]):Int)-1))) c (w64 ((List.length ((m3_0++[(Zi.mk c 0)])++[(Zi.mk c 1)]):Int)-1))) c 0) m2_0).bind fun x51=>
   (Zy x0 0).bind fun x52=>
   (Zy b.futures x52).bind fun x53=>
   (lp (ZF b c x0) (x49.pos,2,(Zx (fun ka kb:Int=>(ka==kb)) (Zx (fun ka kb:Int=>(ka==kb)) m5_0 c (w64 ((List.length (m3_0++[(Zi.mk c 0)]):Int)-1))) c (w64 ((List.length ((m3_0++[(Zi.mk c 0)])++[(Zi.mk c 1)]):Int)-1))),(Zx (fun ka kb:Zk=>((ka.maker==kb.maker)&&((ka.user==kb.user)&&((ka.pos==kb.pos)&&true)))) m6_0 x53 (ZaL (fun ka kb:Int=>(ka==kb)) (Zx (fun ka kb:Int=>(ka==kb)) (Zx (fun ka kb:Int=>(ka==kb)) m5_0 c (w64 ((List.length (m3_0++[(Zi.mk c 0)]):Int)-1))) c (w64 ((List.length ((m3_0++[(Zi.mk c 0)])++[(Zi.mk c 1)]):Int)-1))) c 0)),((m1_0++[(w64 (x2.work-0))])++[(w64 (x49.pos-x2.work))]),(m2_0++[(Zo.mk (w64 ((ZaL (fun ka kb:Int=>(ka==kb)) (Zx (fun ka kb:Int=>(ka==kb)) (Zx (fun ka kb:Int=>(ka==kb)) m5_0 c (w64 ((List.length (m3_0++[(Zi.mk c 0)]):Int)-1))) c (w64 ((List.length ((m3_0++[(Zi.mk c 0)])++[(Zi.mk c 1)]):Int)-1))) c 0)-1)) (ZaL (fun ka kb:Int=>(ka==kb)) (Zx (fun ka kb:Int=>(ka==kb)) (Zx (fun ka kb:Int=>(ka==kb)) m5_0 c (w64 ((List.length (m3_0++[(Zi.mk c 0)]):Int)-1))) c (w64 ((List.length ((m3_0++[(Zi.mk c 0)])++[(Zi.mk c 1)]):Int)-1))) c 0))]),((m3_0++[(Zi.mk c 0)])++[(Zi.mk c 1)]))).bind fun r66=>
   some (.inr (.inl (r66.1,r66.2.1,r66.2.2.1,r66.2.2.2.1,r66.2.2.2.2)))
  else
   (Za0 (Zi.mk c 1) (w64 (x47.work-x2.work)) (m1_0++[(w64 (x2.work-0))]) (m3_0++[(Zi.mk c 0)])).bind fun x67=>
   (ZX (w64 ((ZaL (fun ka kb:Int=>(ka==kb)) (Zx (fun ka kb:Int=>(ka==kb)) (Zx (fun ka kb:Int=>(ka==kb)) m5_0 c (w64 ((List.length (m3_0++[(Zi.mk c 0)]):Int)-1))) c (w64 ((List.length ((m3_0++[(Zi.mk c 0)])++[(Zi.mk c 1)]):Int)-1))) c 0)-1)) (ZaL (fun ka kb:Int=>(ka==kb)) (Zx (fun ka kb:Int=>(ka==kb)) (Zx (fun ka kb:Int=>(ka==kb)) m5_0 c (w64 ((List.length (m3_0++[(Zi.mk c 0)]):Int)-1))) c (w64 ((List.length ((m3_0++[(Zi.mk c 0)])++[(Zi.mk c 1)]):Int)-1))) c 0) m2_0).bind fun x68=>
   (Zy x0 0).bind fun x69=>
   (Zy b.futures x69).bind fun x70=>
   (lp (ZF b c x0) (x47.work,2,(Zx (fun ka kb:Int=>(ka==kb)) (Zx (fun ka kb:Int=>(ka==kb)) m5_0 c (w64 ((List.length (m3_0++[(Zi.mk c 0)]):Int)-1))) c (w64 ((List.length ((m3_0++[(Zi.mk c 0)])++[(Zi.mk c 1)]):Int)-1))),(Zx (fun ka kb:Zk=>((ka.maker==kb.maker)&&((ka.user==kb.user)&&((ka.pos==kb.pos)&&true)))) m6_0 x70 (ZaL (fun ka kb:Int=>(ka==kb)) (Zx (fun ka kb:Int=>(ka==kb)) (Zx (fun ka kb:Int=>(ka==kb)) m5_0 c (w64 ((List.length (m3_0++[(Zi.mk c 0)]):Int)-1))) c (w64 ((List.length ((m3_0++[(Zi.mk c 0)])++[(Zi.mk c 1)]):Int)-1))) c 0)),((m1_0++[(w64 (x2.work-0))])++[(w64 (x47.work-x2.work))]),(m2_0++[(Zo.mk (w64 ((ZaL (fun ka kb:Int=>(ka==kb)) (Zx (fun ka kb:Int=>(ka==kb)) (Zx (fun ka kb:Int=>(ka==kb)) m5_0 c (w64 ((List.length (m3_0++[(Zi.mk c 0)]):Int)-1))) c (w64 ((List.length ((m3_0++[(Zi.mk c 0)])++[(Zi.mk c 1)]):Int)-1))) c 0)-1)) (ZaL (fun ka kb:Int=>(ka==kb)) (Zx (fun ka kb:Int=>(ka==kb)) (Zx (fun ka kb:Int=>(ka==kb)) m5_0 c (w64 ((List.length (m3_0++[(Zi.mk c 0)]):Int)-1))) c (w64 ((List.length ((m3_0++[(Zi.mk c 0)])++[(Zi.mk c 1)]):Int)-1))) c 0))]),((m3_0++[(Zi.mk c 0)])++[(Zi.mk c 1)]))).bind fun r83=>
   some (.inr (.inl (r83.1,r83.2.1,r83.2.2.1,r83.2.2.2.1,r83.2.2.2.2)))
 else
  some (.inr (.inr ()))
noncomputable def Zcj (b:Zn) (c:Int) (m1_0:(List Int)) (m2_0:(List Zo)) (m3_0:(List Zi)) (m5_0:(List (Int×Int))) (m6_0:(List (Zk×Int))) (x0:(List Int)) (s1:Unit):Option (Unit⊕(((List (Int×Int))×(List (Zk×Int))×(List Int)×(List Zo)×(List Zi))⊕((List Int)⊕Unit))):=
 bif (decide (0<(w64 ((x0.length:Int)+1)))) then
  (Zy b.parts c).bind fun x2=>
  bif (decide (0<(x0.length:Int))) then
   (Zy x0 0).bind fun x3=>
   (Zy b.futures x3).bind fun x4=>
   (Za0 (Zi.mk c 0) (w64 (x4.pos-0)) m1_0 m3_0).bind fun x5=>
   (lp (Zci b c m1_0 m2_0 m3_0 m5_0 m6_0 x0 x4) ()).bind fun r44=>
   match r44 with
   | (.inl r44)=>
    some (.inr (.inl (r44.1,r44.2.1,r44.2.2.1,r44.2.2.2.1,r44.2.2.2.2)))
   | (.inr r44)=>
    some (.inr (.inr (.inl (m1_0++[(w64 (x4.pos-0))]))))
  else
   (Za0 (Zi.mk c 0) (w64 (x2.work-0)) m1_0 m3_0).bind fun x45=>
   (lp (Zdd b c m1_0 m2_0 m3_0 m5_0 m6_0 x0 x2) ()).bind fun r84=>
   match r84 with
   | (.inl r84)=>
    some (.inr (.inl (r84.1,r84.2.1,r84.2.2.1,r84.2.2.2.1,r84.2.2.2.2)))
   | (.inr r84)=>
    some (.inr (.inr (.inl (m1_0++[(w64 (x2.work-0))]))))
 else
  some (.inr (.inr (.inr ())))
noncomputable def ZeB (b:Zn) (c:Int) (m1_0:(List Int)) (m2_0:(List Zo)) (m3_0:(List Zi)) (m5_0:(List (Int×Int))) (m6_0:(List (Zk×Int))):Option (((List (Int×Int))×(List (Zk×Int))×(List Int)×(List Zo)×(List Zi))⊕((List Int)⊕Unit)):=
 (Zd7 b c).bind fun x0=>
 (lp (Zcj b c m1_0 m2_0 m3_0 m5_0 m6_0 x0) ()).bind fun r85=>
 match r85 with
 | (.inl r85)=>
  some (.inl (r85.1,r85.2.1,r85.2.2.1,r85.2.2.2.1,r85.2.2.2.2))
 | (.inr (.inl r85))=>
  some (.inr (.inl r85))
 | (.inr (.inr r85))=>
  some (.inr (.inr ()))
noncomputable def ZdY (a:Int):Option Bool:=
 bif (decide (a<0)) then
  some true
 else
  bif (decide (1000<a)) then
   some true
  else
   some false
noncomputable def Zgi (a:Int) (b0:(List Int)):Option Bool:=
 bif (decide (0≤a)) then
  bif (decide (a<(b0.length:Int))) then
   some true
  else
   some false
 else
  some false
noncomputable def ZfZ (a:ZbS) (s0:(List Int)×(List Bool)) (s1:Int) (s3:Int):Option (Int⊕(Unit⊕Unit)):=
 bif (decide (s3<(a.edges.length:Int))) then
  (Zy a.edges s3).bind fun x4=>
  bif (x4.dst==s1) then
   (Zy s0.2 x4.src).bind fun x5=>
   bif x5 then
    some (.inl (w64 (s3+1)))
   else
    some (.inr (.inl ()))
  else
   some (.inl (w64 (s3+1)))
 else
  some (.inr (.inr ()))
noncomputable def ZeV (a:ZbS) (s0:(List Int)×(List Bool)) (s1:Int):Option (Int⊕(((List Int)×(List Bool))⊕Unit)):=
 bif (decide (s1<(a.work.length:Int))) then
  (Zy s0.2 s1).bind fun x2=>
  bif x2 then
   some (.inl (w64 (s1+1)))
  else
   (lp (ZfZ a s0 s1) 0).bind fun r6=>
   match r6 with
   | (.inl r6)=>
    some (.inl (w64 (s1+1)))
   | (.inr r6)=>
    bif (Nat.ble (List.length s0.1+1) lim) then
     some (.inr (.inl ((s0.1++[s1]),(List.set s0.2 s1.toNat true))))
    else
     none
 else
  some (.inr (.inr ()))
noncomputable def Zf1 (a:ZbS) (s0:(List Int)×(List Bool)):Option (((List Int)×(List Bool))⊕((List Int)⊕(List Int))):=
 bif (decide ((s0.1.length:Int)<(a.work.length:Int))) then
  (lp (ZeV a s0) 0).bind fun r7=>
  match r7 with
  | (.inl r7)=>
   some (.inl (r7.1,r7.2))
  | (.inr r7)=>
   some (.inr (.inl s0.1))
 else
  some (.inr (.inr s0.1))
noncomputable def Zf3 (a:ZbS):Option ((List Int)×Bool):=
 bif (decide (0≤(a.work.length:Int))&&decide ((a.work.length:Int)≤lim)&&decide ((a.work.length:Int)==(a.work.length:Int))) then
  (lp (Zf1 a) (([]:(List Int)),(List.replicate (a.work.length:Int).toNat (false:Bool)))).bind fun r8=>
  match r8 with
  | (.inl r8)=>
   some (([]:List Int),false)
  | (.inr r8)=>
   some (r8,true)
 else
  none
noncomputable def Zfb (a:ZbS) (s1:Int):Option (Int⊕(Unit⊕Unit)):=
 bif (decide (s1<(a.edges.length:Int))) then
  (Zy a.edges s1).bind fun x2=>
  (Zgi x2.src a.work).bind fun x3=>
  bif x3 then
   (Zgi x2.dst a.work).bind fun x4=>
   bif x4 then
    bif (x2.src==x2.dst) then
     some (.inr (.inl ()))
    else
     bif (decide (0≤s1)) then
      bif (Nat.ble s1.toNat (List.length a.edges)) then
       (Zbz (List.take s1.toNat a.edges) x2).bind fun x5=>
       bif x5 then
        some (.inr (.inl ()))
       else
        some (.inl (w64 (s1+1)))
      else
       none
     else
      none
   else
    some (.inr (.inl ()))
  else
   some (.inr (.inl ()))
 else
  some (.inr (.inr ()))
noncomputable def ZgM (a:ZbS):Option Int:=
 bif (decide (64<(a.work.length:Int))) then
  some 40
 else
  bif (decide (256<(a.edges.length:Int))) then
   some 40
  else
   (ZaH a.work (fun z0=>ZdY z0)).bind fun x0=>
   bif x0 then
    some 41
   else
    (lp (Zfb a) 0).bind fun r6=>
    match r6 with
    | (.inl r6)=>
     some 42
    | (.inr r6)=>
     (Zf3 a).bind fun x7=>
     bif x7.2 then
      some 0
     else
      some 43
noncomputable def Zdr (a:Zn) (s1:Int×(List Int)×(List Zo)×(List Zi)×(List (Int×Int))×(List (Int×Int))×(List (Zk×Int))):Option ((Int×(List Int)×(List Zo)×(List Zi)×(List (Int×Int))×(List (Int×Int))×(List (Zk×Int)))⊕((List Int)×(List Zo)×(List Zi)×(List (Int×Int))×(List (Int×Int))×(List (Zk×Int)))):=
 bif (decide (s1.1<(a.parts.length:Int))) then
  (ZeB a s1.1 s1.2.1 s1.2.2.1 s1.2.2.2.1 s1.2.2.2.2.2.1 s1.2.2.2.2.2.2).bind fun x2=>
  match x2 with
  | (.inl x2)=>
   some (.inl ((w64 (s1.1+1)),x2.2.2.1,x2.2.2.2.1,x2.2.2.2.2,(Zx (fun ka kb:Int=>(ka==kb)) s1.2.2.2.2.1 s1.1 (s1.2.2.2.1.length:Int)),x2.1,x2.2.1))
  | (.inr (.inl x2))=>
   some (.inl ((w64 (s1.1+1)),x2,s1.2.2.1,(s1.2.2.2.1++[(Zi.mk s1.1 0)]),(Zx (fun ka kb:Int=>(ka==kb)) s1.2.2.2.2.1 s1.1 (s1.2.2.2.1.length:Int)),(Zx (fun ka kb:Int=>(ka==kb)) s1.2.2.2.2.2.1 s1.1 (w64 ((List.length (s1.2.2.2.1++[(Zi.mk s1.1 0)]):Int)-1))),s1.2.2.2.2.2.2))
  | (.inr (.inr x2))=>
   some (.inl ((w64 (s1.1+1)),s1.2.1,s1.2.2.1,s1.2.2.2.1,(Zx (fun ka kb:Int=>(ka==kb)) s1.2.2.2.2.1 s1.1 (s1.2.2.2.1.length:Int)),s1.2.2.2.2.2.1,s1.2.2.2.2.2.2))
 else
  some (.inr (s1.2.1,s1.2.2.1,s1.2.2.2.1,s1.2.2.2.2.1,s1.2.2.2.2.2.1,s1.2.2.2.2.2.2))
noncomputable def ZdR (a:Zn) (r3:((List Int)×(List Zo)×(List Zi)×(List (Int×Int))×(List (Int×Int))×(List (Zk×Int)))) (s4:Int×(List Zo)):Option ((Int×(List Zo))⊕(List Zo)):=
 bif (decide (s4.1<(a.edges.length:Int))) then
  (Zy a.edges s4.1).bind fun x5=>
  (ZX (ZaL (fun ka kb:Int=>(ka==kb)) r3.2.2.2.2.1 x5.src 0) (ZaL (fun ka kb:Int=>(ka==kb)) r3.2.2.2.1 x5.dst 0) s4.2).bind fun x6=>
  some (.inl ((w64 (s4.1+1)),(s4.2++[(Zo.mk (ZaL (fun ka kb:Int=>(ka==kb)) r3.2.2.2.2.1 x5.src 0) (ZaL (fun ka kb:Int=>(ka==kb)) r3.2.2.2.1 x5.dst 0))])))
 else
  some (.inr s4.2)
noncomputable def ZdT (a:Zn) (r3:((List Int)×(List Zo)×(List Zi)×(List (Int×Int))×(List (Int×Int))×(List (Zk×Int)))) (s8:Int×(List Zo)):Option ((Int×(List Zo))⊕(List Zo)):=
 bif (decide (s8.1<(a.futures.length:Int))) then
  (Zy a.futures s8.1).bind fun x9=>
  (ZX (ZaL (fun ka kb:Int=>(ka==kb)) r3.2.2.2.2.1 x9.maker 0) (ZaL (fun ka kb:Zk=>((ka.maker==kb.maker)&&((ka.user==kb.user)&&((ka.pos==kb.pos)&&true)))) r3.2.2.2.2.2 x9 0) s8.2).bind fun x10=>
  some (.inl ((w64 (s8.1+1)),(s8.2++[(Zo.mk (ZaL (fun ka kb:Int=>(ka==kb)) r3.2.2.2.2.1 x9.maker 0) (ZaL (fun ka kb:Zk=>((ka.maker==kb.maker)&&((ka.user==kb.user)&&((ka.pos==kb.pos)&&true)))) r3.2.2.2.2.2 x9 0))])))
 else
  some (.inr s8.2)
noncomputable def ZeP (r3:((List Int)×(List Zo)×(List Zi)×(List (Int×Int))×(List (Int×Int))×(List (Zk×Int)))) (s12:Int×(List Int)×(List Zo)×(List Zi)) (x13:Zu) (s15:Int×(List Zo)):Option ((Int×(List Zo))⊕(List Zo)):=
 bif (decide (s15.1<(x13.ins.length:Int))) then
  (Zy x13.ins s15.1).bind fun x16=>
  (ZX (ZaL (fun ka kb:Int=>(ka==kb)) r3.2.2.2.2.1 x16 0) (w64 ((List.length (s12.2.2.2++[(Zi.mk (-1) s12.1)]):Int)-1)) s15.2).bind fun x17=>
  some (.inl ((w64 (s15.1+1)),(s15.2++[(Zo.mk (ZaL (fun ka kb:Int=>(ka==kb)) r3.2.2.2.2.1 x16 0) (w64 ((List.length (s12.2.2.2++[(Zi.mk (-1) s12.1)]):Int)-1)))])))
 else
  some (.inr s15.2)
noncomputable def ZeQ (r3:((List Int)×(List Zo)×(List Zi)×(List (Int×Int))×(List (Int×Int))×(List (Zk×Int)))) (s12:Int×(List Int)×(List Zo)×(List Zi)) (x13:Zu) (s19:Int×(List Zo)):Option ((Int×(List Zo))⊕(List Zo)):=
 bif (decide (s19.1<(x13.outs.length:Int))) then
  (Zy x13.outs s19.1).bind fun x20=>
  (ZX (w64 ((List.length (s12.2.2.2++[(Zi.mk (-1) s12.1)]):Int)-1)) (ZaL (fun ka kb:Int=>(ka==kb)) r3.2.2.2.1 x20 0) s19.2).bind fun x21=>
  some (.inl ((w64 (s19.1+1)),(s19.2++[(Zo.mk (w64 ((List.length (s12.2.2.2++[(Zi.mk (-1) s12.1)]):Int)-1)) (ZaL (fun ka kb:Int=>(ka==kb)) r3.2.2.2.1 x20 0))])))
 else
  some (.inr s19.2)
noncomputable def ZdS (a:Zn) (r3:((List Int)×(List Zo)×(List Zi)×(List (Int×Int))×(List (Int×Int))×(List (Zk×Int)))) (s12:Int×(List Int)×(List Zo)×(List Zi)):Option ((Int×(List Int)×(List Zo)×(List Zi))⊕((List Int)×(List Zo)×(List Zi))):=
 bif (decide (s12.1<(a.barriers.length:Int))) then
  (Zy a.barriers s12.1).bind fun x13=>
  (Za0 (Zi.mk (-1) s12.1) 1 s12.2.1 s12.2.2.2).bind fun x14=>
  (lp (ZeP r3 s12 x13) (0,s12.2.2.1)).bind fun r18=>
  (lp (ZeQ r3 s12 x13) (0,r18)).bind fun r22=>
  some (.inl ((w64 (s12.1+1)),(s12.2.1++[1]),r22,(s12.2.2.2++[(Zi.mk (-1) s12.1)])))
 else
  some (.inr (s12.2.1,s12.2.2.1,s12.2.2.2))
noncomputable def Zgl (a:Zn):Option (Ztn×Int):=
 (ZgY a).bind fun x0=>
 bif (x0 != 0) then
  some ((Ztn.mk (ZbS.mk ([]:List Int) ([]:List Zo)) ([]:List Zi)),x0)
 else
  (lp (Zdr a) (0,([]:(List Int)),([]:(List Zo)),([]:(List Zi)),([]:(List (Int×Int))),([]:(List (Int×Int))),([]:(List (Zk×Int))))).bind fun r3=>
  (lp (ZdR a r3) (0,r3.2.1)).bind fun r7=>
  (lp (ZdT a r3) (0,r7)).bind fun r11=>
  (lp (ZdS a r3) (0,r3.1,r11,r3.2.2.1)).bind fun r23=>
  (ZgM (ZbS.mk r23.1 r23.2.1)).bind fun x24=>
  bif (x24 != 0) then
   some ((Ztn.mk (ZbS.mk ([]:List Int) ([]:List Zo)) ([]:List Zi)),70)
  else
   some ((Ztn.mk (ZbS.mk r23.1 r23.2.1) r23.2.2),0)
noncomputable def ZfQ (a:ZbS) (s1:Int×Int):Option ((Int×Int)⊕Int):=
 bif (decide (s1.2<(a.work.length:Int))) then
  (Zy a.work s1.2).bind fun x2=>
  some (.inl ((w64 (s1.1+x2)),(w64 (s1.2+1))))
 else
  some (.inr s1.1)
noncomputable def Zhw (a:ZbS):Option Int:=
 (ZgM a).bind fun x0=>
 bif (x0==0) then
  (lp (ZfQ a) (0,0)).bind fun r3=>
  some r3
 else
  some 0
noncomputable def Zim (a:ZbS):Option (List Int):=
 (ZgM a).bind fun x0=>
 bif (x0 != 0) then
  some ([]:List Int)
 else
  (Zf3 a).bind fun x1=>
  bif x1.2 then
   some x1.1
  else
   some x1.1
noncomputable def Zfz (a:Zo) (b0:Int):Option (Int×Bool):=
 bif (a.dst==b0) then
  some (a.src,true)
 else
  some (a.src,false)
noncomputable def Zgd (a:Int):Option Bool:=
 bif (a != a) then
  some true
 else
  some false
noncomputable def Z8 (a:Int) (b:Int):Option Bool:=
 (Zgd a).bind fun x0=>
 bif x0 then
  (Zgd b).bind fun x1=>
  bif x1 then
   bif (decide (a<b)) then
    some true
   else
    some false
  else
   some true
 else
  bif (decide (a<b)) then
   some true
  else
   some false
noncomputable def Zbp (b:Int) (s1:Int×(List Int)):Option ((Int×(List Int))⊕(List Int)):=
 bif (decide (b<s1.1)) then
  (Zy s1.2 s1.1).bind fun x2=>
  (Zy s1.2 (w64 (s1.1-1))).bind fun x3=>
  (Z8 x2 x3).bind fun x4=>
  bif x4 then
   (Zy (List.set s1.2 s1.1.toNat x3) (w64 (s1.1-1))).bind fun x5=>
   some (.inl ((w64 (s1.1-1)),(List.set (List.set s1.2 s1.1.toNat x3) (w64 (s1.1-1)).toNat x2)))
  else
   some (.inr s1.2)
 else
  some (.inr s1.2)
noncomputable def Zbo (b:Int) (c:Int) (s0:Int×(List Int)):Option ((Int×(List Int))⊕(List Int)):=
 bif (decide (s0.1<c)) then
  (lp (Zbp b) (s0.1,s0.2)).bind fun r6=>
  some (.inl ((w64 (s0.1+1)),r6))
 else
  some (.inr s0.2)
noncomputable def Zat (b:Int) (c:Int) (m0_0:(List Int)):Option (List Int):=
 (lp (Zbo b c) ((w64 (b+1)),m0_0)).bind fun r7=>
 some r7
noncomputable def ZbW (c:Int) (d:Int) (s0:Int×(List Int)):Option ((Int×(List Int))⊕((List Int)⊕(List Int))):=
 bif (decide (c≤(w64 ((w64 (2*s0.1))+1)))) then
  some (.inr (.inl s0.2))
 else
  bif (decide ((w64 ((w64 ((w64 (2*s0.1))+1))+1))<c)) then
   (Zy s0.2 (w64 (d+(w64 ((w64 (2*s0.1))+1))))).bind fun x1=>
   (Zy s0.2 (w64 ((w64 (d+(w64 ((w64 (2*s0.1))+1))))+1))).bind fun x2=>
   (Z8 x1 x2).bind fun x3=>
   bif x3 then
    (Zy s0.2 (w64 (d+s0.1))).bind fun x4=>
    (Zy s0.2 (w64 (d+(w64 ((w64 ((w64 (2*s0.1))+1))+1))))).bind fun x5=>
    (Z8 x4 x5).bind fun x6=>
    bif x6 then
     (Zy (List.set s0.2 (w64 (d+s0.1)).toNat x5) (w64 (d+(w64 ((w64 ((w64 (2*s0.1))+1))+1))))).bind fun x7=>
     some (.inl ((w64 ((w64 ((w64 (2*s0.1))+1))+1)),(List.set (List.set s0.2 (w64 (d+s0.1)).toNat x5) (w64 (d+(w64 ((w64 ((w64 (2*s0.1))+1))+1)))).toNat x4)))
    else
     some (.inr (.inr s0.2))
   else
    (Zy s0.2 (w64 (d+s0.1))).bind fun x8=>
    (Z8 x8 x1).bind fun x9=>
    bif x9 then
     (Zy (List.set s0.2 (w64 (d+s0.1)).toNat x1) (w64 (d+(w64 ((w64 (2*s0.1))+1))))).bind fun x10=>
     some (.inl ((w64 ((w64 (2*s0.1))+1)),(List.set (List.set s0.2 (w64 (d+s0.1)).toNat x1) (w64 (d+(w64 ((w64 (2*s0.1))+1)))).toNat x8)))
    else
     some (.inr (.inr s0.2))
  else
   (Zy s0.2 (w64 (d+s0.1))).bind fun x11=>
   (Zy s0.2 (w64 (d+(w64 ((w64 (2*s0.1))+1))))).bind fun x12=>
   (Z8 x11 x12).bind fun x13=>
   bif x13 then
    (Zy (List.set s0.2 (w64 (d+s0.1)).toNat x12) (w64 (d+(w64 ((w64 (2*s0.1))+1))))).bind fun x14=>
    some (.inl ((w64 ((w64 (2*s0.1))+1)),(List.set (List.set s0.2 (w64 (d+s0.1)).toNat x12) (w64 (d+(w64 ((w64 (2*s0.1))+1)))).toNat x11)))
   else
    some (.inr (.inr s0.2))
noncomputable def ZbE (b:Int) (c:Int) (d:Int) (m0_0:(List Int)):Option (List Int):=
 (lp (ZbW c d) (b,m0_0)).bind fun r15=>
 match r15 with
 | (.inl r15)=>
  some r15
 | (.inr r15)=>
  some r15
noncomputable def ZbT (b:Int) (c:Int) (s0:Int×(List Int)):Option ((Int×(List Int))⊕(List Int)):=
 bif (decide (0≤s0.1)) then
  (ZbE s0.1 (w64 (c-b)) b s0.2).bind fun x1=>
  some (.inl ((w64 (s0.1-1)),x1))
 else
  some (.inr s0.2)
noncomputable def ZbV (b:Int) (s3:Int×(List Int)):Option ((Int×(List Int))⊕(List Int)):=
 bif (decide (0≤s3.1)) then
  (Zy s3.2 (w64 (b+s3.1))).bind fun x4=>
  (Zy s3.2 b).bind fun x5=>
  (Zy (List.set s3.2 b.toNat x4) (w64 (b+s3.1))).bind fun x6=>
  (ZbE 0 s3.1 b (List.set (List.set s3.2 b.toNat x4) (w64 (b+s3.1)).toNat x5)).bind fun x7=>
  some (.inl ((w64 (s3.1-1)),x7))
 else
  some (.inr s3.2)
noncomputable def Za3 (b:Int) (c:Int) (m0_0:(List Int)):Option (List Int):=
 (lp (ZbT b c) ((w64 (Int.tdiv (w64 ((w64 (c-b))-1)) 2)),m0_0)).bind fun r2=>
 (lp (ZbV b) ((w64 ((w64 (c-b))-1)),r2)).bind fun r8=>
 some r8
noncomputable def Zbw (b:Int) (c:Int) (m0_0:(List Int)) (m1_0:Int):Option (Int×Int×Int):=
 (Zy m0_0 c).bind fun x0=>
 (Zy m0_0 b).bind fun x1=>
 (Z8 x0 x1).bind fun x2=>
 bif x2 then
  some (c,b,(w64 (m1_0+1)))
 else
  some (b,c,m1_0)
noncomputable def Zbx (b:Int) (c:Int) (d:Int) (m0_0:(List Int)) (m1_0:Int):Option (Int×Int):=
 (Zbw b c m0_0 m1_0).bind fun x0=>
 (Zbw x0.2.1 d m0_0 x0.2.2).bind fun x1=>
 (Zbw x0.1 x1.1 m0_0 x1.2.2).bind fun x2=>
 some (x2.2.1,x2.2.2)
noncomputable def ZaM (b:Int) (m0_0:(List Int)) (m1_0:Int):Option (Int×Int):=
 (Zbx (w64 (b-1)) b (w64 (b+1)) m0_0 m1_0).bind fun x0=>
 some (x0.1,x0.2)
noncomputable def ZaI (b:Int) (c:Int) (m0_0:(List Int)):Option (Int×Int):=
 bif (decide (8≤(w64 (c-b)))) then
  bif (decide (50≤(w64 (c-b)))) then
   (ZaM (w64 (b+(w64 ((w64 (Int.tdiv (w64 (c-b)) 4))*1)))) m0_0 0).bind fun x0=>
   (ZaM (w64 (b+(w64 ((w64 (Int.tdiv (w64 (c-b)) 4))*2)))) m0_0 x0.2).bind fun x1=>
   (ZaM (w64 (b+(w64 ((w64 (Int.tdiv (w64 (c-b)) 4))*3)))) m0_0 x1.2).bind fun x2=>
   (Zbx x0.1 x1.1 x2.1 m0_0 x2.2).bind fun x3=>
   bif (x3.2==0) then
    some (x3.1,1)
   else
    bif (x3.2==12) then
     some (x3.1,2)
    else
     some (x3.1,0)
  else
   (Zbx (w64 (b+(w64 ((w64 (Int.tdiv (w64 (c-b)) 4))*1)))) (w64 (b+(w64 ((w64 (Int.tdiv (w64 (c-b)) 4))*2)))) (w64 (b+(w64 ((w64 (Int.tdiv (w64 (c-b)) 4))*3)))) m0_0 0).bind fun x4=>
   bif (x4.2==0) then
    some (x4.1,1)
   else
    bif (x4.2==12) then
     some (x4.1,2)
    else
     some (x4.1,0)
 else
  some ((w64 (b+(w64 ((w64 (Int.tdiv (w64 (c-b)) 4))*2)))),1)
noncomputable def Zbu (s0:Int×Int×(List Int)):Option ((Int×Int×(List Int))⊕(List Int)):=
 bif (decide (s0.1<s0.2.1)) then
  (Zy s0.2.2 s0.2.1).bind fun x1=>
  (Zy s0.2.2 s0.1).bind fun x2=>
  (Zy (List.set s0.2.2 s0.1.toNat x1) s0.2.1).bind fun x3=>
  some (.inl ((w64 (s0.1+1)),(w64 (s0.2.1-1)),(List.set (List.set s0.2.2 s0.1.toNat x1) s0.2.1.toNat x2)))
 else
  some (.inr s0.2.2)
noncomputable def ZaB (b:Int) (c:Int) (m0_0:(List Int)):Option (List Int):=
 (lp (Zbu) (b,(w64 (c-1)),m0_0)).bind fun r4=>
 some r4
noncomputable def ZaT (c:Int) (s0:Int×Int×(List Int)) (s1:Int):Option (Int⊕Int):=
 bif (decide (s1<c)) then
  (Zy s0.2.2 s1).bind fun x2=>
  (Zy s0.2.2 (w64 (s1-1))).bind fun x3=>
  (Z8 x2 x3).bind fun x4=>
  bif x4 then
   some (.inr s1)
  else
   some (.inl (w64 (s1+1)))
 else
  some (.inr s1)
noncomputable def ZaQ (s9:Int×(List Int)):Option ((Int×(List Int))⊕(List Int)):=
 bif (decide (1≤s9.1)) then
  (Zy s9.2 s9.1).bind fun x10=>
  (Zy s9.2 (w64 (s9.1-1))).bind fun x11=>
  (Z8 x10 x11).bind fun x12=>
  bif x12 then
   (Zy (List.set s9.2 s9.1.toNat x11) (w64 (s9.1-1))).bind fun x13=>
   some (.inl ((w64 (s9.1-1)),(List.set (List.set s9.2 s9.1.toNat x11) (w64 (s9.1-1)).toNat x10)))
  else
   some (.inr s9.2)
 else
  some (.inr s9.2)
noncomputable def Zan (c:Int) (s15:Int×(List Int)):Option ((Int×(List Int))⊕(List Int)):=
 bif (decide (s15.1<c)) then
  (Zy s15.2 s15.1).bind fun x16=>
  (Zy s15.2 (w64 (s15.1-1))).bind fun x17=>
  (Z8 x16 x17).bind fun x18=>
  bif x18 then
   (Zy (List.set s15.2 s15.1.toNat x17) (w64 (s15.1-1))).bind fun x19=>
   some (.inl ((w64 (s15.1+1)),(List.set (List.set s15.2 s15.1.toNat x17) (w64 (s15.1-1)).toNat x16)))
  else
   some (.inr s15.2)
 else
  some (.inr s15.2)
noncomputable def ZaS (b:Int) (c:Int) (s0:Int×Int×(List Int)):Option ((Int×Int×(List Int))⊕((List Int)⊕((List Int)⊕(List Int)))):=
 bif (decide (s0.2.1<5)) then
  (lp (ZaT c s0) s0.1).bind fun r5=>
  bif (r5==c) then
   some (.inr (.inl s0.2.2))
  else
   bif (decide ((w64 (c-b))<50)) then
    some (.inr (.inr (.inl s0.2.2)))
   else
    (Zy s0.2.2 (w64 (r5-1))).bind fun x6=>
    (Zy s0.2.2 r5).bind fun x7=>
    (Zy (List.set s0.2.2 r5.toNat x6) (w64 (r5-1))).bind fun x8=>
    bif (decide (2≤(w64 (r5-b)))) then
     (lp (ZaQ) ((w64 (r5-1)),(List.set (List.set s0.2.2 r5.toNat x6) (w64 (r5-1)).toNat x7))).bind fun r14=>
     bif (decide (2≤(w64 (c-r5)))) then
      (lp (Zan c) ((w64 (r5+1)),r14)).bind fun r20=>
      some (.inl (r5,(w64 (s0.2.1+1)),r20))
     else
      some (.inl (r5,(w64 (s0.2.1+1)),r14))
    else
     bif (decide (2≤(w64 (c-r5)))) then
      (lp (Zan c) ((w64 (r5+1)),(List.set (List.set s0.2.2 r5.toNat x6) (w64 (r5-1)).toNat x7))).bind fun r26=>
      some (.inl (r5,(w64 (s0.2.1+1)),r26))
     else
      some (.inl (r5,(w64 (s0.2.1+1)),(List.set (List.set s0.2.2 r5.toNat x6) (w64 (r5-1)).toNat x7)))
 else
  some (.inr (.inr (.inr s0.2.2)))
noncomputable def ZaF (b:Int) (c:Int) (m0_0:(List Int)):Option ((List Int)⊕(List Int)):=
 (lp (ZaS b c) ((w64 (b+1)),0,m0_0)).bind fun r27=>
 match r27 with
 | (.inl r27)=>
  some (.inl r27)
 | (.inr (.inl r27))=>
  some (.inr r27)
 | (.inr (.inr r27))=>
  some (.inr r27)
noncomputable def ZbN (b:Int) (c:Int) (d:Int) (m0_0:(List Int)) (x0:Int) (x1:Int) (s3:Int):Option (Int⊕Int):=
 bif (decide (s3≤(w64 (c-1)))) then
  (Zy (List.set (List.set m0_0 b.toNat x0) d.toNat x1) s3).bind fun x4=>
  (Zy (List.set (List.set m0_0 b.toNat x0) d.toNat x1) b).bind fun x5=>
  (Z8 x4 x5).bind fun x6=>
  bif x6 then
   some (.inl (w64 (s3+1)))
  else
   some (.inr s3)
 else
  some (.inr s3)
noncomputable def ZbG (b:Int) (d:Int) (m0_0:(List Int)) (x0:Int) (x1:Int) (r7:Int) (s8:Int):Option (Int⊕Int):=
 bif (decide (r7≤s8)) then
  (Zy (List.set (List.set m0_0 b.toNat x0) d.toNat x1) s8).bind fun x9=>
  (Zy (List.set (List.set m0_0 b.toNat x0) d.toNat x1) b).bind fun x10=>
  (Z8 x9 x10).bind fun x11=>
  bif x11 then
   some (.inr s8)
  else
   some (.inl (w64 (s8-1)))
 else
  some (.inr s8)
noncomputable def ZbH (b:Int) (s19:Int×Int×(List Int)) (s20:Int):Option (Int⊕Int):=
 bif (decide (s20≤s19.2.1)) then
  (Zy s19.2.2 s20).bind fun x21=>
  (Zy s19.2.2 b).bind fun x22=>
  (Z8 x21 x22).bind fun x23=>
  bif x23 then
   some (.inl (w64 (s20+1)))
  else
   some (.inr s20)
 else
  some (.inr s20)
noncomputable def ZbK (b:Int) (s19:Int×Int×(List Int)) (r24:Int) (s25:Int):Option (Int⊕Int):=
 bif (decide (r24≤s25)) then
  (Zy s19.2.2 s25).bind fun x26=>
  (Zy s19.2.2 b).bind fun x27=>
  (Z8 x26 x27).bind fun x28=>
  bif x28 then
   some (.inr s25)
  else
   some (.inl (w64 (s25-1)))
 else
  some (.inr s25)
noncomputable def ZbL (b:Int) (s19:Int×Int×(List Int)):Option ((Int×Int×(List Int))⊕(Int×(List Int))):=
 (lp (ZbH b s19) s19.1).bind fun r24=>
 (lp (ZbK b s19 r24) s19.2.1).bind fun r29=>
 bif (decide (r29<r24)) then
  some (.inr (r29,s19.2.2))
 else
  (Zy s19.2.2 r29).bind fun x30=>
  (Zy s19.2.2 r24).bind fun x31=>
  (Zy (List.set s19.2.2 r24.toNat x30) r29).bind fun x32=>
  some (.inl ((w64 (r24+1)),(w64 (r29-1)),(List.set (List.set s19.2.2 r24.toNat x30) r29.toNat x31)))
noncomputable def Zv (b:Int) (c:Int) (d:Int) (m0_0:(List Int)):Option ((Int×(List Int))⊕(Int×(List Int))):=
 (Zy m0_0 d).bind fun x0=>
 (Zy m0_0 b).bind fun x1=>
 (Zy (List.set m0_0 b.toNat x0) d).bind fun x2=>
 (lp (ZbN b c d m0_0 x0 x1) (w64 (b+1))).bind fun r7=>
 (lp (ZbG b d m0_0 x0 x1 r7) (w64 (c-1))).bind fun r12=>
 bif (decide (r12<r7)) then
  (Zy (List.set (List.set m0_0 b.toNat x0) d.toNat x1) b).bind fun x13=>
  (Zy (List.set (List.set m0_0 b.toNat x0) d.toNat x1) r12).bind fun x14=>
  (Zy (List.set (List.set (List.set m0_0 b.toNat x0) d.toNat x1) r12.toNat x13) b).bind fun x15=>
  some (.inl (r12,(List.set (List.set (List.set (List.set m0_0 b.toNat x0) d.toNat x1) r12.toNat x13) b.toNat x14)))
 else
  (Zy (List.set (List.set m0_0 b.toNat x0) d.toNat x1) r12).bind fun x16=>
  (Zy (List.set (List.set m0_0 b.toNat x0) d.toNat x1) r7).bind fun x17=>
  (Zy (List.set (List.set (List.set m0_0 b.toNat x0) d.toNat x1) r7.toNat x16) r12).bind fun x18=>
  (lp (ZbL b) ((w64 (r7+1)),(w64 (r12-1)),(List.set (List.set (List.set (List.set m0_0 b.toNat x0) d.toNat x1) r7.toNat x16) r12.toNat x17))).bind fun r33=>
  (Zy r33.2 b).bind fun x34=>
  (Zy r33.2 r33.1).bind fun x35=>
  (Zy (List.set r33.2 r33.1.toNat x34) b).bind fun x36=>
  some (.inr (r33.1,(List.set (List.set r33.2 r33.1.toNat x34) b.toNat x35)))
noncomputable def Zbi (b:Int) (s3:Int×Int×(List Int)) (s4:Int):Option (Int⊕Int):=
 bif (decide (s4≤s3.2.1)) then
  (Zy s3.2.2 b).bind fun x5=>
  (Zy s3.2.2 s4).bind fun x6=>
  (Z8 x5 x6).bind fun x7=>
  bif x7 then
   some (.inr s4)
  else
   some (.inl (w64 (s4+1)))
 else
  some (.inr s4)
noncomputable def Zbj (b:Int) (s3:Int×Int×(List Int)) (r8:Int) (s9:Int):Option (Int⊕Int):=
 bif (decide (r8≤s9)) then
  (Zy s3.2.2 b).bind fun x10=>
  (Zy s3.2.2 s9).bind fun x11=>
  (Z8 x10 x11).bind fun x12=>
  bif x12 then
   some (.inl (w64 (s9-1)))
  else
   some (.inr s9)
 else
  some (.inr s9)
noncomputable def Zbk (b:Int) (s3:Int×Int×(List Int)):Option ((Int×Int×(List Int))⊕(Int×(List Int))):=
 (lp (Zbi b s3) s3.1).bind fun r8=>
 (lp (Zbj b s3 r8) s3.2.1).bind fun r13=>
 bif (decide (r13<r8)) then
  some (.inr (r8,s3.2.2))
 else
  (Zy s3.2.2 r13).bind fun x14=>
  (Zy s3.2.2 r8).bind fun x15=>
  (Zy (List.set s3.2.2 r8.toNat x14) r13).bind fun x16=>
  some (.inl ((w64 (r8+1)),(w64 (r13-1)),(List.set (List.set s3.2.2 r8.toNat x14) r13.toNat x15)))
noncomputable def ZL (b:Int) (c:Int) (d:Int) (m0_0:(List Int)):Option (Int×(List Int)):=
 (Zy m0_0 d).bind fun x0=>
 (Zy m0_0 b).bind fun x1=>
 (Zy (List.set m0_0 b.toNat x0) d).bind fun x2=>
 (lp (Zbk b) ((w64 (b+1)),(w64 (c-1)),(List.set (List.set m0_0 b.toNat x0) d.toNat x1))).bind fun r17=>
 some (r17.1,r17.2)
noncomputable def Zbq (b:Int) (c:Int) (x0:Int) (s1:Int×(List Int)×Int):Option ((Int×(List Int)×Int)⊕(List Int)):=
 bif (decide (s1.1≤(w64 ((w64 (b+(w64 ((w64 (Int.tdiv (w64 (c-b)) 4))*2))))+1)))) then
  ZdC.bind fun x2=>
  bif (decide ((w64 (c-b))≤(w64 (IntKind.u64.wrap (BitVec.ofInt IntKind.u64.bits (IntKind.u64.wrap (BitVec.ofInt IntKind.u64.bits (IntKind.u64.wrap (BitVec.ofInt IntKind.u64.bits (IntKind.u64.wrap (BitVec.ofInt IntKind.u64.bits s1.2.2 ^^^ BitVec.ofInt IntKind.u64.bits (IntKind.u64.wrap (s1.2.2*2 ^ 13))).toNat) ^^^ BitVec.ofInt IntKind.u64.bits (Int.fdiv (IntKind.u64.wrap (BitVec.ofInt IntKind.u64.bits s1.2.2 ^^^ BitVec.ofInt IntKind.u64.bits (IntKind.u64.wrap (s1.2.2*2 ^ 13))).toNat) (2 ^ 7))).toNat) ^^^ BitVec.ofInt IntKind.u64.bits (IntKind.u64.wrap ((IntKind.u64.wrap (BitVec.ofInt IntKind.u64.bits (IntKind.u64.wrap (BitVec.ofInt IntKind.u64.bits s1.2.2 ^^^ BitVec.ofInt IntKind.u64.bits (IntKind.u64.wrap (s1.2.2*2 ^ 13))).toNat) ^^^ BitVec.ofInt IntKind.u64.bits (Int.fdiv (IntKind.u64.wrap (BitVec.ofInt IntKind.u64.bits s1.2.2 ^^^ BitVec.ofInt IntKind.u64.bits (IntKind.u64.wrap (s1.2.2*2 ^ 13))).toNat) (2 ^ 7))).toNat)*2 ^ 17))).toNat) &&& BitVec.ofInt IntKind.u64.bits (IntKind.u64.wrap (x0-1))).toNat)))) then
   (Zy s1.2.1 (w64 (b+(w64 ((w64 (IntKind.u64.wrap (BitVec.ofInt IntKind.u64.bits (IntKind.u64.wrap (BitVec.ofInt IntKind.u64.bits (IntKind.u64.wrap (BitVec.ofInt IntKind.u64.bits (IntKind.u64.wrap (BitVec.ofInt IntKind.u64.bits s1.2.2 ^^^ BitVec.ofInt IntKind.u64.bits (IntKind.u64.wrap (s1.2.2*2 ^ 13))).toNat) ^^^ BitVec.ofInt IntKind.u64.bits (Int.fdiv (IntKind.u64.wrap (BitVec.ofInt IntKind.u64.bits s1.2.2 ^^^ BitVec.ofInt IntKind.u64.bits (IntKind.u64.wrap (s1.2.2*2 ^ 13))).toNat) (2 ^ 7))).toNat) ^^^ BitVec.ofInt IntKind.u64.bits (IntKind.u64.wrap ((IntKind.u64.wrap (BitVec.ofInt IntKind.u64.bits (IntKind.u64.wrap (BitVec.ofInt IntKind.u64.bits s1.2.2 ^^^ BitVec.ofInt IntKind.u64.bits (IntKind.u64.wrap (s1.2.2*2 ^ 13))).toNat) ^^^ BitVec.ofInt IntKind.u64.bits (Int.fdiv (IntKind.u64.wrap (BitVec.ofInt IntKind.u64.bits s1.2.2 ^^^ BitVec.ofInt IntKind.u64.bits (IntKind.u64.wrap (s1.2.2*2 ^ 13))).toNat) (2 ^ 7))).toNat)*2 ^ 17))).toNat) &&& BitVec.ofInt IntKind.u64.bits (IntKind.u64.wrap (x0-1))).toNat))-(w64 (c-b))))))).bind fun x3=>
   (Zy s1.2.1 s1.1).bind fun x4=>
   (Zy (List.set s1.2.1 s1.1.toNat x3) (w64 (b+(w64 ((w64 (IntKind.u64.wrap (BitVec.ofInt IntKind.u64.bits (IntKind.u64.wrap (BitVec.ofInt IntKind.u64.bits (IntKind.u64.wrap (BitVec.ofInt IntKind.u64.bits (IntKind.u64.wrap (BitVec.ofInt IntKind.u64.bits s1.2.2 ^^^ BitVec.ofInt IntKind.u64.bits (IntKind.u64.wrap (s1.2.2*2 ^ 13))).toNat) ^^^ BitVec.ofInt IntKind.u64.bits (Int.fdiv (IntKind.u64.wrap (BitVec.ofInt IntKind.u64.bits s1.2.2 ^^^ BitVec.ofInt IntKind.u64.bits (IntKind.u64.wrap (s1.2.2*2 ^ 13))).toNat) (2 ^ 7))).toNat) ^^^ BitVec.ofInt IntKind.u64.bits (IntKind.u64.wrap ((IntKind.u64.wrap (BitVec.ofInt IntKind.u64.bits (IntKind.u64.wrap (BitVec.ofInt IntKind.u64.bits s1.2.2 ^^^ BitVec.ofInt IntKind.u64.bits (IntKind.u64.wrap (s1.2.2*2 ^ 13))).toNat) ^^^ BitVec.ofInt IntKind.u64.bits (Int.fdiv (IntKind.u64.wrap (BitVec.ofInt IntKind.u64.bits s1.2.2 ^^^ BitVec.ofInt IntKind.u64.bits (IntKind.u64.wrap (s1.2.2*2 ^ 13))).toNat) (2 ^ 7))).toNat)*2 ^ 17))).toNat) &&& BitVec.ofInt IntKind.u64.bits (IntKind.u64.wrap (x0-1))).toNat))-(w64 (c-b))))))).bind fun x5=>
   some (.inl ((w64 (s1.1+1)),(List.set (List.set s1.2.1 s1.1.toNat x3) (w64 (b+(w64 ((w64 (IntKind.u64.wrap (BitVec.ofInt IntKind.u64.bits (IntKind.u64.wrap (BitVec.ofInt IntKind.u64.bits (IntKind.u64.wrap (BitVec.ofInt IntKind.u64.bits (IntKind.u64.wrap (BitVec.ofInt IntKind.u64.bits s1.2.2 ^^^ BitVec.ofInt IntKind.u64.bits (IntKind.u64.wrap (s1.2.2*2 ^ 13))).toNat) ^^^ BitVec.ofInt IntKind.u64.bits (Int.fdiv (IntKind.u64.wrap (BitVec.ofInt IntKind.u64.bits s1.2.2 ^^^ BitVec.ofInt IntKind.u64.bits (IntKind.u64.wrap (s1.2.2*2 ^ 13))).toNat) (2 ^ 7))).toNat) ^^^ BitVec.ofInt IntKind.u64.bits (IntKind.u64.wrap ((IntKind.u64.wrap (BitVec.ofInt IntKind.u64.bits (IntKind.u64.wrap (BitVec.ofInt IntKind.u64.bits s1.2.2 ^^^ BitVec.ofInt IntKind.u64.bits (IntKind.u64.wrap (s1.2.2*2 ^ 13))).toNat) ^^^ BitVec.ofInt IntKind.u64.bits (Int.fdiv (IntKind.u64.wrap (BitVec.ofInt IntKind.u64.bits s1.2.2 ^^^ BitVec.ofInt IntKind.u64.bits (IntKind.u64.wrap (s1.2.2*2 ^ 13))).toNat) (2 ^ 7))).toNat)*2 ^ 17))).toNat) &&& BitVec.ofInt IntKind.u64.bits (IntKind.u64.wrap (x0-1))).toNat))-(w64 (c-b)))))).toNat x4),(IntKind.u64.wrap (BitVec.ofInt IntKind.u64.bits (IntKind.u64.wrap (BitVec.ofInt IntKind.u64.bits (IntKind.u64.wrap (BitVec.ofInt IntKind.u64.bits s1.2.2 ^^^ BitVec.ofInt IntKind.u64.bits (IntKind.u64.wrap (s1.2.2*2 ^ 13))).toNat) ^^^ BitVec.ofInt IntKind.u64.bits (Int.fdiv (IntKind.u64.wrap (BitVec.ofInt IntKind.u64.bits s1.2.2 ^^^ BitVec.ofInt IntKind.u64.bits (IntKind.u64.wrap (s1.2.2*2 ^ 13))).toNat) (2 ^ 7))).toNat) ^^^ BitVec.ofInt IntKind.u64.bits (IntKind.u64.wrap ((IntKind.u64.wrap (BitVec.ofInt IntKind.u64.bits (IntKind.u64.wrap (BitVec.ofInt IntKind.u64.bits s1.2.2 ^^^ BitVec.ofInt IntKind.u64.bits (IntKind.u64.wrap (s1.2.2*2 ^ 13))).toNat) ^^^ BitVec.ofInt IntKind.u64.bits (Int.fdiv (IntKind.u64.wrap (BitVec.ofInt IntKind.u64.bits s1.2.2 ^^^ BitVec.ofInt IntKind.u64.bits (IntKind.u64.wrap (s1.2.2*2 ^ 13))).toNat) (2 ^ 7))).toNat)*2 ^ 17))).toNat)))
  else
   (Zy s1.2.1 (w64 (b+(w64 (IntKind.u64.wrap (BitVec.ofInt IntKind.u64.bits (IntKind.u64.wrap (BitVec.ofInt IntKind.u64.bits (IntKind.u64.wrap (BitVec.ofInt IntKind.u64.bits (IntKind.u64.wrap (BitVec.ofInt IntKind.u64.bits s1.2.2 ^^^ BitVec.ofInt IntKind.u64.bits (IntKind.u64.wrap (s1.2.2*2 ^ 13))).toNat) ^^^ BitVec.ofInt IntKind.u64.bits (Int.fdiv (IntKind.u64.wrap (BitVec.ofInt IntKind.u64.bits s1.2.2 ^^^ BitVec.ofInt IntKind.u64.bits (IntKind.u64.wrap (s1.2.2*2 ^ 13))).toNat) (2 ^ 7))).toNat) ^^^ BitVec.ofInt IntKind.u64.bits (IntKind.u64.wrap ((IntKind.u64.wrap (BitVec.ofInt IntKind.u64.bits (IntKind.u64.wrap (BitVec.ofInt IntKind.u64.bits s1.2.2 ^^^ BitVec.ofInt IntKind.u64.bits (IntKind.u64.wrap (s1.2.2*2 ^ 13))).toNat) ^^^ BitVec.ofInt IntKind.u64.bits (Int.fdiv (IntKind.u64.wrap (BitVec.ofInt IntKind.u64.bits s1.2.2 ^^^ BitVec.ofInt IntKind.u64.bits (IntKind.u64.wrap (s1.2.2*2 ^ 13))).toNat) (2 ^ 7))).toNat)*2 ^ 17))).toNat) &&& BitVec.ofInt IntKind.u64.bits (IntKind.u64.wrap (x0-1))).toNat))))).bind fun x6=>
   (Zy s1.2.1 s1.1).bind fun x7=>
   (Zy (List.set s1.2.1 s1.1.toNat x6) (w64 (b+(w64 (IntKind.u64.wrap (BitVec.ofInt IntKind.u64.bits (IntKind.u64.wrap (BitVec.ofInt IntKind.u64.bits (IntKind.u64.wrap (BitVec.ofInt IntKind.u64.bits (IntKind.u64.wrap (BitVec.ofInt IntKind.u64.bits s1.2.2 ^^^ BitVec.ofInt IntKind.u64.bits (IntKind.u64.wrap (s1.2.2*2 ^ 13))).toNat) ^^^ BitVec.ofInt IntKind.u64.bits (Int.fdiv (IntKind.u64.wrap (BitVec.ofInt IntKind.u64.bits s1.2.2 ^^^ BitVec.ofInt IntKind.u64.bits (IntKind.u64.wrap (s1.2.2*2 ^ 13))).toNat) (2 ^ 7))).toNat) ^^^ BitVec.ofInt IntKind.u64.bits (IntKind.u64.wrap ((IntKind.u64.wrap (BitVec.ofInt IntKind.u64.bits (IntKind.u64.wrap (BitVec.ofInt IntKind.u64.bits s1.2.2 ^^^ BitVec.ofInt IntKind.u64.bits (IntKind.u64.wrap (s1.2.2*2 ^ 13))).toNat) ^^^ BitVec.ofInt IntKind.u64.bits (Int.fdiv (IntKind.u64.wrap (BitVec.ofInt IntKind.u64.bits s1.2.2 ^^^ BitVec.ofInt IntKind.u64.bits (IntKind.u64.wrap (s1.2.2*2 ^ 13))).toNat) (2 ^ 7))).toNat)*2 ^ 17))).toNat) &&& BitVec.ofInt IntKind.u64.bits (IntKind.u64.wrap (x0-1))).toNat))))).bind fun x8=>
   some (.inl ((w64 (s1.1+1)),(List.set (List.set s1.2.1 s1.1.toNat x6) (w64 (b+(w64 (IntKind.u64.wrap (BitVec.ofInt IntKind.u64.bits (IntKind.u64.wrap (BitVec.ofInt IntKind.u64.bits (IntKind.u64.wrap (BitVec.ofInt IntKind.u64.bits (IntKind.u64.wrap (BitVec.ofInt IntKind.u64.bits s1.2.2 ^^^ BitVec.ofInt IntKind.u64.bits (IntKind.u64.wrap (s1.2.2*2 ^ 13))).toNat) ^^^ BitVec.ofInt IntKind.u64.bits (Int.fdiv (IntKind.u64.wrap (BitVec.ofInt IntKind.u64.bits s1.2.2 ^^^ BitVec.ofInt IntKind.u64.bits (IntKind.u64.wrap (s1.2.2*2 ^ 13))).toNat) (2 ^ 7))).toNat) ^^^ BitVec.ofInt IntKind.u64.bits (IntKind.u64.wrap ((IntKind.u64.wrap (BitVec.ofInt IntKind.u64.bits (IntKind.u64.wrap (BitVec.ofInt IntKind.u64.bits s1.2.2 ^^^ BitVec.ofInt IntKind.u64.bits (IntKind.u64.wrap (s1.2.2*2 ^ 13))).toNat) ^^^ BitVec.ofInt IntKind.u64.bits (Int.fdiv (IntKind.u64.wrap (BitVec.ofInt IntKind.u64.bits s1.2.2 ^^^ BitVec.ofInt IntKind.u64.bits (IntKind.u64.wrap (s1.2.2*2 ^ 13))).toNat) (2 ^ 7))).toNat)*2 ^ 17))).toNat) &&& BitVec.ofInt IntKind.u64.bits (IntKind.u64.wrap (x0-1))).toNat)))).toNat x7),(IntKind.u64.wrap (BitVec.ofInt IntKind.u64.bits (IntKind.u64.wrap (BitVec.ofInt IntKind.u64.bits (IntKind.u64.wrap (BitVec.ofInt IntKind.u64.bits s1.2.2 ^^^ BitVec.ofInt IntKind.u64.bits (IntKind.u64.wrap (s1.2.2*2 ^ 13))).toNat) ^^^ BitVec.ofInt IntKind.u64.bits (Int.fdiv (IntKind.u64.wrap (BitVec.ofInt IntKind.u64.bits s1.2.2 ^^^ BitVec.ofInt IntKind.u64.bits (IntKind.u64.wrap (s1.2.2*2 ^ 13))).toNat) (2 ^ 7))).toNat) ^^^ BitVec.ofInt IntKind.u64.bits (IntKind.u64.wrap ((IntKind.u64.wrap (BitVec.ofInt IntKind.u64.bits (IntKind.u64.wrap (BitVec.ofInt IntKind.u64.bits s1.2.2 ^^^ BitVec.ofInt IntKind.u64.bits (IntKind.u64.wrap (s1.2.2*2 ^ 13))).toNat) ^^^ BitVec.ofInt IntKind.u64.bits (Int.fdiv (IntKind.u64.wrap (BitVec.ofInt IntKind.u64.bits s1.2.2 ^^^ BitVec.ofInt IntKind.u64.bits (IntKind.u64.wrap (s1.2.2*2 ^ 13))).toNat) (2 ^ 7))).toNat)*2 ^ 17))).toNat)))
 else
  some (.inr s1.2.1)
noncomputable def Zbd (b:Int) (c:Int) (m0_0:(List Int)):Option (List Int):=
 bif (decide (8≤(w64 (c-b)))) then
  (Zcx (w64 (c-b))).bind fun x0=>
  (lp (Zbq b c x0) ((w64 ((w64 (b+(w64 ((w64 (Int.tdiv (w64 (c-b)) 4))*2))))-1)),m0_0,(IntKind.u64.wrap (w64 (c-b))))).bind fun r9=>
  some r9
 else
  some m0_0
noncomputable def Zb3 (rc:Int→Int→Int→(List Int)→Option (List Int)) (s0:Int×Int×Int×Bool×Bool×(List Int)):Option ((Int×Int×Int×Bool×Bool×(List Int))⊕(List Int)):=
 bif s0.2.2.2.1 then
  bif s0.2.2.2.2.1 then
   bif (decide ((w64 (s0.2.1-s0.1))≤12)) then
    (Zat s0.1 s0.2.1 s0.2.2.2.2.2).bind fun x1=>
    some (.inr x1)
   else
    bif (s0.2.2.1==0) then
     (Za3 s0.1 s0.2.1 s0.2.2.2.2.2).bind fun x2=>
     some (.inr x2)
    else
     (ZaI s0.1 s0.2.1 s0.2.2.2.2.2).bind fun x3=>
     bif (x3.2==2) then
      (ZaB s0.1 s0.2.1 s0.2.2.2.2.2).bind fun x4=>
      (ZaF s0.1 s0.2.1 x4).bind fun x5=>
      match x5 with
      | (.inl x5)=>
       some (.inr x5)
      | (.inr x5)=>
       bif (decide (0<s0.1)) then
        (Zy x5 (w64 (s0.1-1))).bind fun x6=>
        (Zy x5 (w64 ((w64 (s0.2.1-1))-(w64 (x3.1-s0.1))))).bind fun x7=>
        (Z8 x6 x7).bind fun x8=>
        bif x8 then
         (Zv s0.1 s0.2.1 (w64 ((w64 (s0.2.1-1))-(w64 (x3.1-s0.1)))) x5).bind fun x9=>
         match x9 with
         | (.inl x9)=>
          bif (decide ((w64 (x9.1-s0.1))<(w64 (s0.2.1-x9.1)))) then
           bif (decide ((w64 (Int.tdiv (w64 (s0.2.1-s0.1)) 8))≤(w64 (x9.1-s0.1)))) then
            (rc s0.1 x9.1 s0.2.2.1 x9.2).bind fun x10=>
            some (.inl ((w64 (x9.1+1)),s0.2.1,s0.2.2.1,true,true,x10))
           else
            (rc s0.1 x9.1 s0.2.2.1 x9.2).bind fun x11=>
            some (.inl ((w64 (x9.1+1)),s0.2.1,s0.2.2.1,false,true,x11))
          else
           bif (decide ((w64 (Int.tdiv (w64 (s0.2.1-s0.1)) 8))≤(w64 (s0.2.1-x9.1)))) then
            (rc (w64 (x9.1+1)) s0.2.1 s0.2.2.1 x9.2).bind fun x12=>
            some (.inl (s0.1,x9.1,s0.2.2.1,true,true,x12))
           else
            (rc (w64 (x9.1+1)) s0.2.1 s0.2.2.1 x9.2).bind fun x13=>
            some (.inl (s0.1,x9.1,s0.2.2.1,false,true,x13))
         | (.inr x9)=>
          bif (decide ((w64 (x9.1-s0.1))<(w64 (s0.2.1-x9.1)))) then
           bif (decide ((w64 (Int.tdiv (w64 (s0.2.1-s0.1)) 8))≤(w64 (x9.1-s0.1)))) then
            (rc s0.1 x9.1 s0.2.2.1 x9.2).bind fun x14=>
            some (.inl ((w64 (x9.1+1)),s0.2.1,s0.2.2.1,true,false,x14))
           else
            (rc s0.1 x9.1 s0.2.2.1 x9.2).bind fun x15=>
            some (.inl ((w64 (x9.1+1)),s0.2.1,s0.2.2.1,false,false,x15))
          else
           bif (decide ((w64 (Int.tdiv (w64 (s0.2.1-s0.1)) 8))≤(w64 (s0.2.1-x9.1)))) then
            (rc (w64 (x9.1+1)) s0.2.1 s0.2.2.1 x9.2).bind fun x16=>
            some (.inl (s0.1,x9.1,s0.2.2.1,true,false,x16))
           else
            (rc (w64 (x9.1+1)) s0.2.1 s0.2.2.1 x9.2).bind fun x17=>
            some (.inl (s0.1,x9.1,s0.2.2.1,false,false,x17))
        else
         (ZL s0.1 s0.2.1 (w64 ((w64 (s0.2.1-1))-(w64 (x3.1-s0.1)))) x5).bind fun x18=>
         some (.inl (x18.1,s0.2.1,s0.2.2.1,true,true,x18.2))
       else
        (Zv s0.1 s0.2.1 (w64 ((w64 (s0.2.1-1))-(w64 (x3.1-s0.1)))) x5).bind fun x19=>
        match x19 with
        | (.inl x19)=>
         bif (decide ((w64 (x19.1-s0.1))<(w64 (s0.2.1-x19.1)))) then
          bif (decide ((w64 (Int.tdiv (w64 (s0.2.1-s0.1)) 8))≤(w64 (x19.1-s0.1)))) then
           (rc s0.1 x19.1 s0.2.2.1 x19.2).bind fun x20=>
           some (.inl ((w64 (x19.1+1)),s0.2.1,s0.2.2.1,true,true,x20))
          else
           (rc s0.1 x19.1 s0.2.2.1 x19.2).bind fun x21=>
           some (.inl ((w64 (x19.1+1)),s0.2.1,s0.2.2.1,false,true,x21))
         else
          bif (decide ((w64 (Int.tdiv (w64 (s0.2.1-s0.1)) 8))≤(w64 (s0.2.1-x19.1)))) then
           (rc (w64 (x19.1+1)) s0.2.1 s0.2.2.1 x19.2).bind fun x22=>
           some (.inl (s0.1,x19.1,s0.2.2.1,true,true,x22))
          else
           (rc (w64 (x19.1+1)) s0.2.1 s0.2.2.1 x19.2).bind fun x23=>
           some (.inl (s0.1,x19.1,s0.2.2.1,false,true,x23))
        | (.inr x19)=>
         bif (decide ((w64 (x19.1-s0.1))<(w64 (s0.2.1-x19.1)))) then
          bif (decide ((w64 (Int.tdiv (w64 (s0.2.1-s0.1)) 8))≤(w64 (x19.1-s0.1)))) then
           (rc s0.1 x19.1 s0.2.2.1 x19.2).bind fun x24=>
           some (.inl ((w64 (x19.1+1)),s0.2.1,s0.2.2.1,true,false,x24))
          else
           (rc s0.1 x19.1 s0.2.2.1 x19.2).bind fun x25=>
           some (.inl ((w64 (x19.1+1)),s0.2.1,s0.2.2.1,false,false,x25))
         else
          bif (decide ((w64 (Int.tdiv (w64 (s0.2.1-s0.1)) 8))≤(w64 (s0.2.1-x19.1)))) then
           (rc (w64 (x19.1+1)) s0.2.1 s0.2.2.1 x19.2).bind fun x26=>
           some (.inl (s0.1,x19.1,s0.2.2.1,true,false,x26))
          else
           (rc (w64 (x19.1+1)) s0.2.1 s0.2.2.1 x19.2).bind fun x27=>
           some (.inl (s0.1,x19.1,s0.2.2.1,false,false,x27))
     else
      bif (x3.2==1) then
       (ZaF s0.1 s0.2.1 s0.2.2.2.2.2).bind fun x28=>
       match x28 with
       | (.inl x28)=>
        some (.inr x28)
       | (.inr x28)=>
        bif (decide (0<s0.1)) then
         (Zy x28 (w64 (s0.1-1))).bind fun x29=>
         (Zy x28 x3.1).bind fun x30=>
         (Z8 x29 x30).bind fun x31=>
         bif x31 then
          (Zv s0.1 s0.2.1 x3.1 x28).bind fun x32=>
          match x32 with
          | (.inl x32)=>
           bif (decide ((w64 (x32.1-s0.1))<(w64 (s0.2.1-x32.1)))) then
            bif (decide ((w64 (Int.tdiv (w64 (s0.2.1-s0.1)) 8))≤(w64 (x32.1-s0.1)))) then
             (rc s0.1 x32.1 s0.2.2.1 x32.2).bind fun x33=>
             some (.inl ((w64 (x32.1+1)),s0.2.1,s0.2.2.1,true,true,x33))
            else
             (rc s0.1 x32.1 s0.2.2.1 x32.2).bind fun x34=>
             some (.inl ((w64 (x32.1+1)),s0.2.1,s0.2.2.1,false,true,x34))
           else
            bif (decide ((w64 (Int.tdiv (w64 (s0.2.1-s0.1)) 8))≤(w64 (s0.2.1-x32.1)))) then
             (rc (w64 (x32.1+1)) s0.2.1 s0.2.2.1 x32.2).bind fun x35=>
             some (.inl (s0.1,x32.1,s0.2.2.1,true,true,x35))
            else
             (rc (w64 (x32.1+1)) s0.2.1 s0.2.2.1 x32.2).bind fun x36=>
             some (.inl (s0.1,x32.1,s0.2.2.1,false,true,x36))
          | (.inr x32)=>
           bif (decide ((w64 (x32.1-s0.1))<(w64 (s0.2.1-x32.1)))) then
            bif (decide ((w64 (Int.tdiv (w64 (s0.2.1-s0.1)) 8))≤(w64 (x32.1-s0.1)))) then
             (rc s0.1 x32.1 s0.2.2.1 x32.2).bind fun x37=>
             some (.inl ((w64 (x32.1+1)),s0.2.1,s0.2.2.1,true,false,x37))
            else
             (rc s0.1 x32.1 s0.2.2.1 x32.2).bind fun x38=>
             some (.inl ((w64 (x32.1+1)),s0.2.1,s0.2.2.1,false,false,x38))
           else
            bif (decide ((w64 (Int.tdiv (w64 (s0.2.1-s0.1)) 8))≤(w64 (s0.2.1-x32.1)))) then
             (rc (w64 (x32.1+1)) s0.2.1 s0.2.2.1 x32.2).bind fun x39=>
             some (.inl (s0.1,x32.1,s0.2.2.1,true,false,x39))
            else
             (rc (w64 (x32.1+1)) s0.2.1 s0.2.2.1 x32.2).bind fun x40=>
             some (.inl (s0.1,x32.1,s0.2.2.1,false,false,x40))
         else
          (ZL s0.1 s0.2.1 x3.1 x28).bind fun x41=>
          some (.inl (x41.1,s0.2.1,s0.2.2.1,true,true,x41.2))
        else
         (Zv s0.1 s0.2.1 x3.1 x28).bind fun x42=>
         match x42 with
         | (.inl x42)=>
          bif (decide ((w64 (x42.1-s0.1))<(w64 (s0.2.1-x42.1)))) then
           bif (decide ((w64 (Int.tdiv (w64 (s0.2.1-s0.1)) 8))≤(w64 (x42.1-s0.1)))) then
            (rc s0.1 x42.1 s0.2.2.1 x42.2).bind fun x43=>
            some (.inl ((w64 (x42.1+1)),s0.2.1,s0.2.2.1,true,true,x43))
           else
            (rc s0.1 x42.1 s0.2.2.1 x42.2).bind fun x44=>
            some (.inl ((w64 (x42.1+1)),s0.2.1,s0.2.2.1,false,true,x44))
          else
           bif (decide ((w64 (Int.tdiv (w64 (s0.2.1-s0.1)) 8))≤(w64 (s0.2.1-x42.1)))) then
            (rc (w64 (x42.1+1)) s0.2.1 s0.2.2.1 x42.2).bind fun x45=>
            some (.inl (s0.1,x42.1,s0.2.2.1,true,true,x45))
           else
            (rc (w64 (x42.1+1)) s0.2.1 s0.2.2.1 x42.2).bind fun x46=>
            some (.inl (s0.1,x42.1,s0.2.2.1,false,true,x46))
         | (.inr x42)=>
          bif (decide ((w64 (x42.1-s0.1))<(w64 (s0.2.1-x42.1)))) then
           bif (decide ((w64 (Int.tdiv (w64 (s0.2.1-s0.1)) 8))≤(w64 (x42.1-s0.1)))) then
            (rc s0.1 x42.1 s0.2.2.1 x42.2).bind fun x47=>
            some (.inl ((w64 (x42.1+1)),s0.2.1,s0.2.2.1,true,false,x47))
           else
            (rc s0.1 x42.1 s0.2.2.1 x42.2).bind fun x48=>
            some (.inl ((w64 (x42.1+1)),s0.2.1,s0.2.2.1,false,false,x48))
          else
           bif (decide ((w64 (Int.tdiv (w64 (s0.2.1-s0.1)) 8))≤(w64 (s0.2.1-x42.1)))) then
            (rc (w64 (x42.1+1)) s0.2.1 s0.2.2.1 x42.2).bind fun x49=>
            some (.inl (s0.1,x42.1,s0.2.2.1,true,false,x49))
           else
            (rc (w64 (x42.1+1)) s0.2.1 s0.2.2.1 x42.2).bind fun x50=>
            some (.inl (s0.1,x42.1,s0.2.2.1,false,false,x50))
      else
       bif (decide (0<s0.1)) then
        (Zy s0.2.2.2.2.2 (w64 (s0.1-1))).bind fun x51=>
        (Zy s0.2.2.2.2.2 x3.1).bind fun x52=>
        (Z8 x51 x52).bind fun x53=>
        bif x53 then
         (Zv s0.1 s0.2.1 x3.1 s0.2.2.2.2.2).bind fun x54=>
         match x54 with
         | (.inl x54)=>
          bif (decide ((w64 (x54.1-s0.1))<(w64 (s0.2.1-x54.1)))) then
           bif (decide ((w64 (Int.tdiv (w64 (s0.2.1-s0.1)) 8))≤(w64 (x54.1-s0.1)))) then
            (rc s0.1 x54.1 s0.2.2.1 x54.2).bind fun x55=>
            some (.inl ((w64 (x54.1+1)),s0.2.1,s0.2.2.1,true,true,x55))
           else
            (rc s0.1 x54.1 s0.2.2.1 x54.2).bind fun x56=>
            some (.inl ((w64 (x54.1+1)),s0.2.1,s0.2.2.1,false,true,x56))
          else
           bif (decide ((w64 (Int.tdiv (w64 (s0.2.1-s0.1)) 8))≤(w64 (s0.2.1-x54.1)))) then
            (rc (w64 (x54.1+1)) s0.2.1 s0.2.2.1 x54.2).bind fun x57=>
            some (.inl (s0.1,x54.1,s0.2.2.1,true,true,x57))
           else
            (rc (w64 (x54.1+1)) s0.2.1 s0.2.2.1 x54.2).bind fun x58=>
            some (.inl (s0.1,x54.1,s0.2.2.1,false,true,x58))
         | (.inr x54)=>
          bif (decide ((w64 (x54.1-s0.1))<(w64 (s0.2.1-x54.1)))) then
           bif (decide ((w64 (Int.tdiv (w64 (s0.2.1-s0.1)) 8))≤(w64 (x54.1-s0.1)))) then
            (rc s0.1 x54.1 s0.2.2.1 x54.2).bind fun x59=>
            some (.inl ((w64 (x54.1+1)),s0.2.1,s0.2.2.1,true,false,x59))
           else
            (rc s0.1 x54.1 s0.2.2.1 x54.2).bind fun x60=>
            some (.inl ((w64 (x54.1+1)),s0.2.1,s0.2.2.1,false,false,x60))
          else
           bif (decide ((w64 (Int.tdiv (w64 (s0.2.1-s0.1)) 8))≤(w64 (s0.2.1-x54.1)))) then
            (rc (w64 (x54.1+1)) s0.2.1 s0.2.2.1 x54.2).bind fun x61=>
            some (.inl (s0.1,x54.1,s0.2.2.1,true,false,x61))
           else
            (rc (w64 (x54.1+1)) s0.2.1 s0.2.2.1 x54.2).bind fun x62=>
            some (.inl (s0.1,x54.1,s0.2.2.1,false,false,x62))
        else
         (ZL s0.1 s0.2.1 x3.1 s0.2.2.2.2.2).bind fun x63=>
         some (.inl (x63.1,s0.2.1,s0.2.2.1,true,true,x63.2))
       else
        (Zv s0.1 s0.2.1 x3.1 s0.2.2.2.2.2).bind fun x64=>
        match x64 with
        | (.inl x64)=>
         bif (decide ((w64 (x64.1-s0.1))<(w64 (s0.2.1-x64.1)))) then
          bif (decide ((w64 (Int.tdiv (w64 (s0.2.1-s0.1)) 8))≤(w64 (x64.1-s0.1)))) then
           (rc s0.1 x64.1 s0.2.2.1 x64.2).bind fun x65=>
           some (.inl ((w64 (x64.1+1)),s0.2.1,s0.2.2.1,true,true,x65))
          else
           (rc s0.1 x64.1 s0.2.2.1 x64.2).bind fun x66=>
           some (.inl ((w64 (x64.1+1)),s0.2.1,s0.2.2.1,false,true,x66))
         else
          bif (decide ((w64 (Int.tdiv (w64 (s0.2.1-s0.1)) 8))≤(w64 (s0.2.1-x64.1)))) then
           (rc (w64 (x64.1+1)) s0.2.1 s0.2.2.1 x64.2).bind fun x67=>
           some (.inl (s0.1,x64.1,s0.2.2.1,true,true,x67))
          else
           (rc (w64 (x64.1+1)) s0.2.1 s0.2.2.1 x64.2).bind fun x68=>
           some (.inl (s0.1,x64.1,s0.2.2.1,false,true,x68))
        | (.inr x64)=>
         bif (decide ((w64 (x64.1-s0.1))<(w64 (s0.2.1-x64.1)))) then
          bif (decide ((w64 (Int.tdiv (w64 (s0.2.1-s0.1)) 8))≤(w64 (x64.1-s0.1)))) then
           (rc s0.1 x64.1 s0.2.2.1 x64.2).bind fun x69=>
           some (.inl ((w64 (x64.1+1)),s0.2.1,s0.2.2.1,true,false,x69))
          else
           (rc s0.1 x64.1 s0.2.2.1 x64.2).bind fun x70=>
           some (.inl ((w64 (x64.1+1)),s0.2.1,s0.2.2.1,false,false,x70))
         else
          bif (decide ((w64 (Int.tdiv (w64 (s0.2.1-s0.1)) 8))≤(w64 (s0.2.1-x64.1)))) then
           (rc (w64 (x64.1+1)) s0.2.1 s0.2.2.1 x64.2).bind fun x71=>
           some (.inl (s0.1,x64.1,s0.2.2.1,true,false,x71))
          else
           (rc (w64 (x64.1+1)) s0.2.1 s0.2.2.1 x64.2).bind fun x72=>
           some (.inl (s0.1,x64.1,s0.2.2.1,false,false,x72))
  else
   bif (decide ((w64 (s0.2.1-s0.1))≤12)) then
    (Zat s0.1 s0.2.1 s0.2.2.2.2.2).bind fun x73=>
    some (.inr x73)
   else
    bif (s0.2.2.1==0) then
     (Za3 s0.1 s0.2.1 s0.2.2.2.2.2).bind fun x74=>
     some (.inr x74)
    else
     (ZaI s0.1 s0.2.1 s0.2.2.2.2.2).bind fun x75=>
     bif (x75.2==2) then
      (ZaB s0.1 s0.2.1 s0.2.2.2.2.2).bind fun x76=>
      bif (decide (0<s0.1)) then
       (Zy x76 (w64 (s0.1-1))).bind fun x77=>
       (Zy x76 (w64 ((w64 (s0.2.1-1))-(w64 (x75.1-s0.1))))).bind fun x78=>
       (Z8 x77 x78).bind fun x79=>
       bif x79 then
        (Zv s0.1 s0.2.1 (w64 ((w64 (s0.2.1-1))-(w64 (x75.1-s0.1)))) x76).bind fun x80=>
        match x80 with
        | (.inl x80)=>
         bif (decide ((w64 (x80.1-s0.1))<(w64 (s0.2.1-x80.1)))) then
          bif (decide ((w64 (Int.tdiv (w64 (s0.2.1-s0.1)) 8))≤(w64 (x80.1-s0.1)))) then
           (rc s0.1 x80.1 s0.2.2.1 x80.2).bind fun x81=>
           some (.inl ((w64 (x80.1+1)),s0.2.1,s0.2.2.1,true,true,x81))
          else
           (rc s0.1 x80.1 s0.2.2.1 x80.2).bind fun x82=>
           some (.inl ((w64 (x80.1+1)),s0.2.1,s0.2.2.1,false,true,x82))
         else
          bif (decide ((w64 (Int.tdiv (w64 (s0.2.1-s0.1)) 8))≤(w64 (s0.2.1-x80.1)))) then
           (rc (w64 (x80.1+1)) s0.2.1 s0.2.2.1 x80.2).bind fun x83=>
           some (.inl (s0.1,x80.1,s0.2.2.1,true,true,x83))
          else
           (rc (w64 (x80.1+1)) s0.2.1 s0.2.2.1 x80.2).bind fun x84=>
           some (.inl (s0.1,x80.1,s0.2.2.1,false,true,x84))
        | (.inr x80)=>
         bif (decide ((w64 (x80.1-s0.1))<(w64 (s0.2.1-x80.1)))) then
          bif (decide ((w64 (Int.tdiv (w64 (s0.2.1-s0.1)) 8))≤(w64 (x80.1-s0.1)))) then
           (rc s0.1 x80.1 s0.2.2.1 x80.2).bind fun x85=>
           some (.inl ((w64 (x80.1+1)),s0.2.1,s0.2.2.1,true,false,x85))
          else
           (rc s0.1 x80.1 s0.2.2.1 x80.2).bind fun x86=>
           some (.inl ((w64 (x80.1+1)),s0.2.1,s0.2.2.1,false,false,x86))
         else
          bif (decide ((w64 (Int.tdiv (w64 (s0.2.1-s0.1)) 8))≤(w64 (s0.2.1-x80.1)))) then
           (rc (w64 (x80.1+1)) s0.2.1 s0.2.2.1 x80.2).bind fun x87=>
           some (.inl (s0.1,x80.1,s0.2.2.1,true,false,x87))
          else
           (rc (w64 (x80.1+1)) s0.2.1 s0.2.2.1 x80.2).bind fun x88=>
           some (.inl (s0.1,x80.1,s0.2.2.1,false,false,x88))
       else
        (ZL s0.1 s0.2.1 (w64 ((w64 (s0.2.1-1))-(w64 (x75.1-s0.1)))) x76).bind fun x89=>
        some (.inl (x89.1,s0.2.1,s0.2.2.1,true,false,x89.2))
      else
       (Zv s0.1 s0.2.1 (w64 ((w64 (s0.2.1-1))-(w64 (x75.1-s0.1)))) x76).bind fun x90=>
       match x90 with
       | (.inl x90)=>
        bif (decide ((w64 (x90.1-s0.1))<(w64 (s0.2.1-x90.1)))) then
         bif (decide ((w64 (Int.tdiv (w64 (s0.2.1-s0.1)) 8))≤(w64 (x90.1-s0.1)))) then
          (rc s0.1 x90.1 s0.2.2.1 x90.2).bind fun x91=>
          some (.inl ((w64 (x90.1+1)),s0.2.1,s0.2.2.1,true,true,x91))
         else
          (rc s0.1 x90.1 s0.2.2.1 x90.2).bind fun x92=>
          some (.inl ((w64 (x90.1+1)),s0.2.1,s0.2.2.1,false,true,x92))
        else
         bif (decide ((w64 (Int.tdiv (w64 (s0.2.1-s0.1)) 8))≤(w64 (s0.2.1-x90.1)))) then
          (rc (w64 (x90.1+1)) s0.2.1 s0.2.2.1 x90.2).bind fun x93=>
          some (.inl (s0.1,x90.1,s0.2.2.1,true,true,x93))
         else
          (rc (w64 (x90.1+1)) s0.2.1 s0.2.2.1 x90.2).bind fun x94=>
          some (.inl (s0.1,x90.1,s0.2.2.1,false,true,x94))
       | (.inr x90)=>
        bif (decide ((w64 (x90.1-s0.1))<(w64 (s0.2.1-x90.1)))) then
         bif (decide ((w64 (Int.tdiv (w64 (s0.2.1-s0.1)) 8))≤(w64 (x90.1-s0.1)))) then
          (rc s0.1 x90.1 s0.2.2.1 x90.2).bind fun x95=>
          some (.inl ((w64 (x90.1+1)),s0.2.1,s0.2.2.1,true,false,x95))
         else
          (rc s0.1 x90.1 s0.2.2.1 x90.2).bind fun x96=>
          some (.inl ((w64 (x90.1+1)),s0.2.1,s0.2.2.1,false,false,x96))
        else
         bif (decide ((w64 (Int.tdiv (w64 (s0.2.1-s0.1)) 8))≤(w64 (s0.2.1-x90.1)))) then
          (rc (w64 (x90.1+1)) s0.2.1 s0.2.2.1 x90.2).bind fun x97=>
          some (.inl (s0.1,x90.1,s0.2.2.1,true,false,x97))
         else
          (rc (w64 (x90.1+1)) s0.2.1 s0.2.2.1 x90.2).bind fun x98=>
          some (.inl (s0.1,x90.1,s0.2.2.1,false,false,x98))
     else
      bif (decide (0<s0.1)) then
       (Zy s0.2.2.2.2.2 (w64 (s0.1-1))).bind fun x99=>
       (Zy s0.2.2.2.2.2 x75.1).bind fun x100=>
       (Z8 x99 x100).bind fun x101=>
       bif x101 then
        (Zv s0.1 s0.2.1 x75.1 s0.2.2.2.2.2).bind fun x102=>
        match x102 with
        | (.inl x102)=>
         bif (decide ((w64 (x102.1-s0.1))<(w64 (s0.2.1-x102.1)))) then
          bif (decide ((w64 (Int.tdiv (w64 (s0.2.1-s0.1)) 8))≤(w64 (x102.1-s0.1)))) then
           (rc s0.1 x102.1 s0.2.2.1 x102.2).bind fun x103=>
           some (.inl ((w64 (x102.1+1)),s0.2.1,s0.2.2.1,true,true,x103))
          else
           (rc s0.1 x102.1 s0.2.2.1 x102.2).bind fun x104=>
           some (.inl ((w64 (x102.1+1)),s0.2.1,s0.2.2.1,false,true,x104))
         else
          bif (decide ((w64 (Int.tdiv (w64 (s0.2.1-s0.1)) 8))≤(w64 (s0.2.1-x102.1)))) then
           (rc (w64 (x102.1+1)) s0.2.1 s0.2.2.1 x102.2).bind fun x105=>
           some (.inl (s0.1,x102.1,s0.2.2.1,true,true,x105))
          else
           (rc (w64 (x102.1+1)) s0.2.1 s0.2.2.1 x102.2).bind fun x106=>
           some (.inl (s0.1,x102.1,s0.2.2.1,false,true,x106))
        | (.inr x102)=>
         bif (decide ((w64 (x102.1-s0.1))<(w64 (s0.2.1-x102.1)))) then
          bif (decide ((w64 (Int.tdiv (w64 (s0.2.1-s0.1)) 8))≤(w64 (x102.1-s0.1)))) then
           (rc s0.1 x102.1 s0.2.2.1 x102.2).bind fun x107=>
           some (.inl ((w64 (x102.1+1)),s0.2.1,s0.2.2.1,true,false,x107))
          else
           (rc s0.1 x102.1 s0.2.2.1 x102.2).bind fun x108=>
           some (.inl ((w64 (x102.1+1)),s0.2.1,s0.2.2.1,false,false,x108))
         else
          bif (decide ((w64 (Int.tdiv (w64 (s0.2.1-s0.1)) 8))≤(w64 (s0.2.1-x102.1)))) then
           (rc (w64 (x102.1+1)) s0.2.1 s0.2.2.1 x102.2).bind fun x109=>
           some (.inl (s0.1,x102.1,s0.2.2.1,true,false,x109))
          else
           (rc (w64 (x102.1+1)) s0.2.1 s0.2.2.1 x102.2).bind fun x110=>
           some (.inl (s0.1,x102.1,s0.2.2.1,false,false,x110))
       else
        (ZL s0.1 s0.2.1 x75.1 s0.2.2.2.2.2).bind fun x111=>
        some (.inl (x111.1,s0.2.1,s0.2.2.1,true,false,x111.2))
      else
       (Zv s0.1 s0.2.1 x75.1 s0.2.2.2.2.2).bind fun x112=>
       match x112 with
       | (.inl x112)=>
        bif (decide ((w64 (x112.1-s0.1))<(w64 (s0.2.1-x112.1)))) then
         bif (decide ((w64 (Int.tdiv (w64 (s0.2.1-s0.1)) 8))≤(w64 (x112.1-s0.1)))) then
          (rc s0.1 x112.1 s0.2.2.1 x112.2).bind fun x113=>
          some (.inl ((w64 (x112.1+1)),s0.2.1,s0.2.2.1,true,true,x113))
         else
          (rc s0.1 x112.1 s0.2.2.1 x112.2).bind fun x114=>
          some (.inl ((w64 (x112.1+1)),s0.2.1,s0.2.2.1,false,true,x114))
        else
         bif (decide ((w64 (Int.tdiv (w64 (s0.2.1-s0.1)) 8))≤(w64 (s0.2.1-x112.1)))) then
          (rc (w64 (x112.1+1)) s0.2.1 s0.2.2.1 x112.2).bind fun x115=>
          some (.inl (s0.1,x112.1,s0.2.2.1,true,true,x115))
         else
          (rc (w64 (x112.1+1)) s0.2.1 s0.2.2.1 x112.2).bind fun x116=>
          some (.inl (s0.1,x112.1,s0.2.2.1,false,true,x116))
       | (.inr x112)=>
        bif (decide ((w64 (x112.1-s0.1))<(w64 (s0.2.1-x112.1)))) then
         bif (decide ((w64 (Int.tdiv (w64 (s0.2.1-s0.1)) 8))≤(w64 (x112.1-s0.1)))) then
          (rc s0.1 x112.1 s0.2.2.1 x112.2).bind fun x117=>
          some (.inl ((w64 (x112.1+1)),s0.2.1,s0.2.2.1,true,false,x117))
         else
          (rc s0.1 x112.1 s0.2.2.1 x112.2).bind fun x118=>
          some (.inl ((w64 (x112.1+1)),s0.2.1,s0.2.2.1,false,false,x118))
        else
         bif (decide ((w64 (Int.tdiv (w64 (s0.2.1-s0.1)) 8))≤(w64 (s0.2.1-x112.1)))) then
          (rc (w64 (x112.1+1)) s0.2.1 s0.2.2.1 x112.2).bind fun x119=>
          some (.inl (s0.1,x112.1,s0.2.2.1,true,false,x119))
         else
          (rc (w64 (x112.1+1)) s0.2.1 s0.2.2.1 x112.2).bind fun x120=>
          some (.inl (s0.1,x112.1,s0.2.2.1,false,false,x120))
 else
  bif s0.2.2.2.2.1 then
   bif (decide ((w64 (s0.2.1-s0.1))≤12)) then
    (Zat s0.1 s0.2.1 s0.2.2.2.2.2).bind fun x121=>
    some (.inr x121)
   else
    bif (s0.2.2.1==0) then
     (Za3 s0.1 s0.2.1 s0.2.2.2.2.2).bind fun x122=>
     some (.inr x122)
    else
     (Zbd s0.1 s0.2.1 s0.2.2.2.2.2).bind fun x123=>
     (ZaI s0.1 s0.2.1 x123).bind fun x124=>
     bif (x124.2==2) then
      (ZaB s0.1 s0.2.1 x123).bind fun x125=>
      bif (decide (0<s0.1)) then
       (Zy x125 (w64 (s0.1-1))).bind fun x126=>
       (Zy x125 (w64 ((w64 (s0.2.1-1))-(w64 (x124.1-s0.1))))).bind fun x127=>
       (Z8 x126 x127).bind fun x128=>
       bif x128 then
        (Zv s0.1 s0.2.1 (w64 ((w64 (s0.2.1-1))-(w64 (x124.1-s0.1)))) x125).bind fun x129=>
        match x129 with
        | (.inl x129)=>
         bif (decide ((w64 (x129.1-s0.1))<(w64 (s0.2.1-x129.1)))) then
          bif (decide ((w64 (Int.tdiv (w64 (s0.2.1-s0.1)) 8))≤(w64 (x129.1-s0.1)))) then
           (rc s0.1 x129.1 (w64 (s0.2.2.1-1)) x129.2).bind fun x130=>
           some (.inl ((w64 (x129.1+1)),s0.2.1,(w64 (s0.2.2.1-1)),true,true,x130))
          else
           (rc s0.1 x129.1 (w64 (s0.2.2.1-1)) x129.2).bind fun x131=>
           some (.inl ((w64 (x129.1+1)),s0.2.1,(w64 (s0.2.2.1-1)),false,true,x131))
         else
          bif (decide ((w64 (Int.tdiv (w64 (s0.2.1-s0.1)) 8))≤(w64 (s0.2.1-x129.1)))) then
           (rc (w64 (x129.1+1)) s0.2.1 (w64 (s0.2.2.1-1)) x129.2).bind fun x132=>
           some (.inl (s0.1,x129.1,(w64 (s0.2.2.1-1)),true,true,x132))
          else
           (rc (w64 (x129.1+1)) s0.2.1 (w64 (s0.2.2.1-1)) x129.2).bind fun x133=>
           some (.inl (s0.1,x129.1,(w64 (s0.2.2.1-1)),false,true,x133))
        | (.inr x129)=>
         bif (decide ((w64 (x129.1-s0.1))<(w64 (s0.2.1-x129.1)))) then
          bif (decide ((w64 (Int.tdiv (w64 (s0.2.1-s0.1)) 8))≤(w64 (x129.1-s0.1)))) then
           (rc s0.1 x129.1 (w64 (s0.2.2.1-1)) x129.2).bind fun x134=>
           some (.inl ((w64 (x129.1+1)),s0.2.1,(w64 (s0.2.2.1-1)),true,false,x134))
          else
           (rc s0.1 x129.1 (w64 (s0.2.2.1-1)) x129.2).bind fun x135=>
           some (.inl ((w64 (x129.1+1)),s0.2.1,(w64 (s0.2.2.1-1)),false,false,x135))
         else
          bif (decide ((w64 (Int.tdiv (w64 (s0.2.1-s0.1)) 8))≤(w64 (s0.2.1-x129.1)))) then
           (rc (w64 (x129.1+1)) s0.2.1 (w64 (s0.2.2.1-1)) x129.2).bind fun x136=>
           some (.inl (s0.1,x129.1,(w64 (s0.2.2.1-1)),true,false,x136))
          else
           (rc (w64 (x129.1+1)) s0.2.1 (w64 (s0.2.2.1-1)) x129.2).bind fun x137=>
           some (.inl (s0.1,x129.1,(w64 (s0.2.2.1-1)),false,false,x137))
       else
        (ZL s0.1 s0.2.1 (w64 ((w64 (s0.2.1-1))-(w64 (x124.1-s0.1)))) x125).bind fun x138=>
        some (.inl (x138.1,s0.2.1,(w64 (s0.2.2.1-1)),false,true,x138.2))
      else
       (Zv s0.1 s0.2.1 (w64 ((w64 (s0.2.1-1))-(w64 (x124.1-s0.1)))) x125).bind fun x139=>
       match x139 with
       | (.inl x139)=>
        bif (decide ((w64 (x139.1-s0.1))<(w64 (s0.2.1-x139.1)))) then
         bif (decide ((w64 (Int.tdiv (w64 (s0.2.1-s0.1)) 8))≤(w64 (x139.1-s0.1)))) then
          (rc s0.1 x139.1 (w64 (s0.2.2.1-1)) x139.2).bind fun x140=>
          some (.inl ((w64 (x139.1+1)),s0.2.1,(w64 (s0.2.2.1-1)),true,true,x140))
         else
          (rc s0.1 x139.1 (w64 (s0.2.2.1-1)) x139.2).bind fun x141=>
          some (.inl ((w64 (x139.1+1)),s0.2.1,(w64 (s0.2.2.1-1)),false,true,x141))
        else
         bif (decide ((w64 (Int.tdiv (w64 (s0.2.1-s0.1)) 8))≤(w64 (s0.2.1-x139.1)))) then
          (rc (w64 (x139.1+1)) s0.2.1 (w64 (s0.2.2.1-1)) x139.2).bind fun x142=>
          some (.inl (s0.1,x139.1,(w64 (s0.2.2.1-1)),true,true,x142))
         else
          (rc (w64 (x139.1+1)) s0.2.1 (w64 (s0.2.2.1-1)) x139.2).bind fun x143=>
          some (.inl (s0.1,x139.1,(w64 (s0.2.2.1-1)),false,true,x143))
       | (.inr x139)=>
        bif (decide ((w64 (x139.1-s0.1))<(w64 (s0.2.1-x139.1)))) then
         bif (decide ((w64 (Int.tdiv (w64 (s0.2.1-s0.1)) 8))≤(w64 (x139.1-s0.1)))) then
          (rc s0.1 x139.1 (w64 (s0.2.2.1-1)) x139.2).bind fun x144=>
          some (.inl ((w64 (x139.1+1)),s0.2.1,(w64 (s0.2.2.1-1)),true,false,x144))
         else
          (rc s0.1 x139.1 (w64 (s0.2.2.1-1)) x139.2).bind fun x145=>
          some (.inl ((w64 (x139.1+1)),s0.2.1,(w64 (s0.2.2.1-1)),false,false,x145))
        else
         bif (decide ((w64 (Int.tdiv (w64 (s0.2.1-s0.1)) 8))≤(w64 (s0.2.1-x139.1)))) then
          (rc (w64 (x139.1+1)) s0.2.1 (w64 (s0.2.2.1-1)) x139.2).bind fun x146=>
          some (.inl (s0.1,x139.1,(w64 (s0.2.2.1-1)),true,false,x146))
         else
          (rc (w64 (x139.1+1)) s0.2.1 (w64 (s0.2.2.1-1)) x139.2).bind fun x147=>
          some (.inl (s0.1,x139.1,(w64 (s0.2.2.1-1)),false,false,x147))
     else
      bif (decide (0<s0.1)) then
       (Zy x123 (w64 (s0.1-1))).bind fun x148=>
       (Zy x123 x124.1).bind fun x149=>
       (Z8 x148 x149).bind fun x150=>
       bif x150 then
        (Zv s0.1 s0.2.1 x124.1 x123).bind fun x151=>
        match x151 with
        | (.inl x151)=>
         bif (decide ((w64 (x151.1-s0.1))<(w64 (s0.2.1-x151.1)))) then
          bif (decide ((w64 (Int.tdiv (w64 (s0.2.1-s0.1)) 8))≤(w64 (x151.1-s0.1)))) then
           (rc s0.1 x151.1 (w64 (s0.2.2.1-1)) x151.2).bind fun x152=>
           some (.inl ((w64 (x151.1+1)),s0.2.1,(w64 (s0.2.2.1-1)),true,true,x152))
          else
           (rc s0.1 x151.1 (w64 (s0.2.2.1-1)) x151.2).bind fun x153=>
           some (.inl ((w64 (x151.1+1)),s0.2.1,(w64 (s0.2.2.1-1)),false,true,x153))
         else
          bif (decide ((w64 (Int.tdiv (w64 (s0.2.1-s0.1)) 8))≤(w64 (s0.2.1-x151.1)))) then
           (rc (w64 (x151.1+1)) s0.2.1 (w64 (s0.2.2.1-1)) x151.2).bind fun x154=>
           some (.inl (s0.1,x151.1,(w64 (s0.2.2.1-1)),true,true,x154))
          else
           (rc (w64 (x151.1+1)) s0.2.1 (w64 (s0.2.2.1-1)) x151.2).bind fun x155=>
           some (.inl (s0.1,x151.1,(w64 (s0.2.2.1-1)),false,true,x155))
        | (.inr x151)=>
         bif (decide ((w64 (x151.1-s0.1))<(w64 (s0.2.1-x151.1)))) then
          bif (decide ((w64 (Int.tdiv (w64 (s0.2.1-s0.1)) 8))≤(w64 (x151.1-s0.1)))) then
           (rc s0.1 x151.1 (w64 (s0.2.2.1-1)) x151.2).bind fun x156=>
           some (.inl ((w64 (x151.1+1)),s0.2.1,(w64 (s0.2.2.1-1)),true,false,x156))
          else
           (rc s0.1 x151.1 (w64 (s0.2.2.1-1)) x151.2).bind fun x157=>
           some (.inl ((w64 (x151.1+1)),s0.2.1,(w64 (s0.2.2.1-1)),false,false,x157))
         else
          bif (decide ((w64 (Int.tdiv (w64 (s0.2.1-s0.1)) 8))≤(w64 (s0.2.1-x151.1)))) then
           (rc (w64 (x151.1+1)) s0.2.1 (w64 (s0.2.2.1-1)) x151.2).bind fun x158=>
           some (.inl (s0.1,x151.1,(w64 (s0.2.2.1-1)),true,false,x158))
          else
           (rc (w64 (x151.1+1)) s0.2.1 (w64 (s0.2.2.1-1)) x151.2).bind fun x159=>
           some (.inl (s0.1,x151.1,(w64 (s0.2.2.1-1)),false,false,x159))
       else
        (ZL s0.1 s0.2.1 x124.1 x123).bind fun x160=>
        some (.inl (x160.1,s0.2.1,(w64 (s0.2.2.1-1)),false,true,x160.2))
      else
       (Zv s0.1 s0.2.1 x124.1 x123).bind fun x161=>
       match x161 with
       | (.inl x161)=>
        bif (decide ((w64 (x161.1-s0.1))<(w64 (s0.2.1-x161.1)))) then
         bif (decide ((w64 (Int.tdiv (w64 (s0.2.1-s0.1)) 8))≤(w64 (x161.1-s0.1)))) then
          (rc s0.1 x161.1 (w64 (s0.2.2.1-1)) x161.2).bind fun x162=>
          some (.inl ((w64 (x161.1+1)),s0.2.1,(w64 (s0.2.2.1-1)),true,true,x162))
         else
          (rc s0.1 x161.1 (w64 (s0.2.2.1-1)) x161.2).bind fun x163=>
          some (.inl ((w64 (x161.1+1)),s0.2.1,(w64 (s0.2.2.1-1)),false,true,x163))
        else
         bif (decide ((w64 (Int.tdiv (w64 (s0.2.1-s0.1)) 8))≤(w64 (s0.2.1-x161.1)))) then
          (rc (w64 (x161.1+1)) s0.2.1 (w64 (s0.2.2.1-1)) x161.2).bind fun x164=>
          some (.inl (s0.1,x161.1,(w64 (s0.2.2.1-1)),true,true,x164))
         else
          (rc (w64 (x161.1+1)) s0.2.1 (w64 (s0.2.2.1-1)) x161.2).bind fun x165=>
          some (.inl (s0.1,x161.1,(w64 (s0.2.2.1-1)),false,true,x165))
       | (.inr x161)=>
        bif (decide ((w64 (x161.1-s0.1))<(w64 (s0.2.1-x161.1)))) then
         bif (decide ((w64 (Int.tdiv (w64 (s0.2.1-s0.1)) 8))≤(w64 (x161.1-s0.1)))) then
          (rc s0.1 x161.1 (w64 (s0.2.2.1-1)) x161.2).bind fun x166=>
          some (.inl ((w64 (x161.1+1)),s0.2.1,(w64 (s0.2.2.1-1)),true,false,x166))
         else
          (rc s0.1 x161.1 (w64 (s0.2.2.1-1)) x161.2).bind fun x167=>
          some (.inl ((w64 (x161.1+1)),s0.2.1,(w64 (s0.2.2.1-1)),false,false,x167))
        else
         bif (decide ((w64 (Int.tdiv (w64 (s0.2.1-s0.1)) 8))≤(w64 (s0.2.1-x161.1)))) then
          (rc (w64 (x161.1+1)) s0.2.1 (w64 (s0.2.2.1-1)) x161.2).bind fun x168=>
          some (.inl (s0.1,x161.1,(w64 (s0.2.2.1-1)),true,false,x168))
         else
          (rc (w64 (x161.1+1)) s0.2.1 (w64 (s0.2.2.1-1)) x161.2).bind fun x169=>
          some (.inl (s0.1,x161.1,(w64 (s0.2.2.1-1)),false,false,x169))
  else
   bif (decide ((w64 (s0.2.1-s0.1))≤12)) then
    (Zat s0.1 s0.2.1 s0.2.2.2.2.2).bind fun x170=>
    some (.inr x170)
   else
    bif (s0.2.2.1==0) then
     (Za3 s0.1 s0.2.1 s0.2.2.2.2.2).bind fun x171=>
     some (.inr x171)
    else
     (Zbd s0.1 s0.2.1 s0.2.2.2.2.2).bind fun x172=>
     (ZaI s0.1 s0.2.1 x172).bind fun x173=>
     bif (x173.2==2) then
      (ZaB s0.1 s0.2.1 x172).bind fun x174=>
      bif (decide (0<s0.1)) then
       (Zy x174 (w64 (s0.1-1))).bind fun x175=>
       (Zy x174 (w64 ((w64 (s0.2.1-1))-(w64 (x173.1-s0.1))))).bind fun x176=>
       (Z8 x175 x176).bind fun x177=>
       bif x177 then
        (Zv s0.1 s0.2.1 (w64 ((w64 (s0.2.1-1))-(w64 (x173.1-s0.1)))) x174).bind fun x178=>
        match x178 with
        | (.inl x178)=>
         bif (decide ((w64 (x178.1-s0.1))<(w64 (s0.2.1-x178.1)))) then
          bif (decide ((w64 (Int.tdiv (w64 (s0.2.1-s0.1)) 8))≤(w64 (x178.1-s0.1)))) then
           (rc s0.1 x178.1 (w64 (s0.2.2.1-1)) x178.2).bind fun x179=>
           some (.inl ((w64 (x178.1+1)),s0.2.1,(w64 (s0.2.2.1-1)),true,true,x179))
          else
           (rc s0.1 x178.1 (w64 (s0.2.2.1-1)) x178.2).bind fun x180=>
           some (.inl ((w64 (x178.1+1)),s0.2.1,(w64 (s0.2.2.1-1)),false,true,x180))
         else
          bif (decide ((w64 (Int.tdiv (w64 (s0.2.1-s0.1)) 8))≤(w64 (s0.2.1-x178.1)))) then
           (rc (w64 (x178.1+1)) s0.2.1 (w64 (s0.2.2.1-1)) x178.2).bind fun x181=>
           some (.inl (s0.1,x178.1,(w64 (s0.2.2.1-1)),true,true,x181))
          else
           (rc (w64 (x178.1+1)) s0.2.1 (w64 (s0.2.2.1-1)) x178.2).bind fun x182=>
           some (.inl (s0.1,x178.1,(w64 (s0.2.2.1-1)),false,true,x182))
        | (.inr x178)=>
         bif (decide ((w64 (x178.1-s0.1))<(w64 (s0.2.1-x178.1)))) then
          bif (decide ((w64 (Int.tdiv (w64 (s0.2.1-s0.1)) 8))≤(w64 (x178.1-s0.1)))) then
           (rc s0.1 x178.1 (w64 (s0.2.2.1-1)) x178.2).bind fun x183=>
           some (.inl ((w64 (x178.1+1)),s0.2.1,(w64 (s0.2.2.1-1)),true,false,x183))
          else
           (rc s0.1 x178.1 (w64 (s0.2.2.1-1)) x178.2).bind fun x184=>
           some (.inl ((w64 (x178.1+1)),s0.2.1,(w64 (s0.2.2.1-1)),false,false,x184))
         else
          bif (decide ((w64 (Int.tdiv (w64 (s0.2.1-s0.1)) 8))≤(w64 (s0.2.1-x178.1)))) then
           (rc (w64 (x178.1+1)) s0.2.1 (w64 (s0.2.2.1-1)) x178.2).bind fun x185=>
           some (.inl (s0.1,x178.1,(w64 (s0.2.2.1-1)),true,false,x185))
          else
           (rc (w64 (x178.1+1)) s0.2.1 (w64 (s0.2.2.1-1)) x178.2).bind fun x186=>
           some (.inl (s0.1,x178.1,(w64 (s0.2.2.1-1)),false,false,x186))
       else
        (ZL s0.1 s0.2.1 (w64 ((w64 (s0.2.1-1))-(w64 (x173.1-s0.1)))) x174).bind fun x187=>
        some (.inl (x187.1,s0.2.1,(w64 (s0.2.2.1-1)),false,false,x187.2))
      else
       (Zv s0.1 s0.2.1 (w64 ((w64 (s0.2.1-1))-(w64 (x173.1-s0.1)))) x174).bind fun x188=>
       match x188 with
       | (.inl x188)=>
        bif (decide ((w64 (x188.1-s0.1))<(w64 (s0.2.1-x188.1)))) then
         bif (decide ((w64 (Int.tdiv (w64 (s0.2.1-s0.1)) 8))≤(w64 (x188.1-s0.1)))) then
          (rc s0.1 x188.1 (w64 (s0.2.2.1-1)) x188.2).bind fun x189=>
          some (.inl ((w64 (x188.1+1)),s0.2.1,(w64 (s0.2.2.1-1)),true,true,x189))
         else
          (rc s0.1 x188.1 (w64 (s0.2.2.1-1)) x188.2).bind fun x190=>
          some (.inl ((w64 (x188.1+1)),s0.2.1,(w64 (s0.2.2.1-1)),false,true,x190))
        else
         bif (decide ((w64 (Int.tdiv (w64 (s0.2.1-s0.1)) 8))≤(w64 (s0.2.1-x188.1)))) then
          (rc (w64 (x188.1+1)) s0.2.1 (w64 (s0.2.2.1-1)) x188.2).bind fun x191=>
          some (.inl (s0.1,x188.1,(w64 (s0.2.2.1-1)),true,true,x191))
         else
          (rc (w64 (x188.1+1)) s0.2.1 (w64 (s0.2.2.1-1)) x188.2).bind fun x192=>
          some (.inl (s0.1,x188.1,(w64 (s0.2.2.1-1)),false,true,x192))
       | (.inr x188)=>
        bif (decide ((w64 (x188.1-s0.1))<(w64 (s0.2.1-x188.1)))) then
         bif (decide ((w64 (Int.tdiv (w64 (s0.2.1-s0.1)) 8))≤(w64 (x188.1-s0.1)))) then
          (rc s0.1 x188.1 (w64 (s0.2.2.1-1)) x188.2).bind fun x193=>
          some (.inl ((w64 (x188.1+1)),s0.2.1,(w64 (s0.2.2.1-1)),true,false,x193))
         else
          (rc s0.1 x188.1 (w64 (s0.2.2.1-1)) x188.2).bind fun x194=>
          some (.inl ((w64 (x188.1+1)),s0.2.1,(w64 (s0.2.2.1-1)),false,false,x194))
        else
         bif (decide ((w64 (Int.tdiv (w64 (s0.2.1-s0.1)) 8))≤(w64 (s0.2.1-x188.1)))) then
          (rc (w64 (x188.1+1)) s0.2.1 (w64 (s0.2.2.1-1)) x188.2).bind fun x195=>
          some (.inl (s0.1,x188.1,(w64 (s0.2.2.1-1)),true,false,x195))
         else
          (rc (w64 (x188.1+1)) s0.2.1 (w64 (s0.2.2.1-1)) x188.2).bind fun x196=>
          some (.inl (s0.1,x188.1,(w64 (s0.2.2.1-1)),false,false,x196))
     else
      bif (decide (0<s0.1)) then
       (Zy x172 (w64 (s0.1-1))).bind fun x197=>
       (Zy x172 x173.1).bind fun x198=>
       (Z8 x197 x198).bind fun x199=>
       bif x199 then
        (Zv s0.1 s0.2.1 x173.1 x172).bind fun x200=>
        match x200 with
        | (.inl x200)=>
         bif (decide ((w64 (x200.1-s0.1))<(w64 (s0.2.1-x200.1)))) then
          bif (decide ((w64 (Int.tdiv (w64 (s0.2.1-s0.1)) 8))≤(w64 (x200.1-s0.1)))) then
           (rc s0.1 x200.1 (w64 (s0.2.2.1-1)) x200.2).bind fun x201=>
           some (.inl ((w64 (x200.1+1)),s0.2.1,(w64 (s0.2.2.1-1)),true,true,x201))
          else
           (rc s0.1 x200.1 (w64 (s0.2.2.1-1)) x200.2).bind fun x202=>
           some (.inl ((w64 (x200.1+1)),s0.2.1,(w64 (s0.2.2.1-1)),false,true,x202))
         else
          bif (decide ((w64 (Int.tdiv (w64 (s0.2.1-s0.1)) 8))≤(w64 (s0.2.1-x200.1)))) then
           (rc (w64 (x200.1+1)) s0.2.1 (w64 (s0.2.2.1-1)) x200.2).bind fun x203=>
           some (.inl (s0.1,x200.1,(w64 (s0.2.2.1-1)),true,true,x203))
          else
           (rc (w64 (x200.1+1)) s0.2.1 (w64 (s0.2.2.1-1)) x200.2).bind fun x204=>
           some (.inl (s0.1,x200.1,(w64 (s0.2.2.1-1)),false,true,x204))
        | (.inr x200)=>
         bif (decide ((w64 (x200.1-s0.1))<(w64 (s0.2.1-x200.1)))) then
          bif (decide ((w64 (Int.tdiv (w64 (s0.2.1-s0.1)) 8))≤(w64 (x200.1-s0.1)))) then
           (rc s0.1 x200.1 (w64 (s0.2.2.1-1)) x200.2).bind fun x205=>
           some (.inl ((w64 (x200.1+1)),s0.2.1,(w64 (s0.2.2.1-1)),true,false,x205))
          else
           (rc s0.1 x200.1 (w64 (s0.2.2.1-1)) x200.2).bind fun x206=>
           some (.inl ((w64 (x200.1+1)),s0.2.1,(w64 (s0.2.2.1-1)),false,false,x206))
         else
          bif (decide ((w64 (Int.tdiv (w64 (s0.2.1-s0.1)) 8))≤(w64 (s0.2.1-x200.1)))) then
           (rc (w64 (x200.1+1)) s0.2.1 (w64 (s0.2.2.1-1)) x200.2).bind fun x207=>
           some (.inl (s0.1,x200.1,(w64 (s0.2.2.1-1)),true,false,x207))
          else
           (rc (w64 (x200.1+1)) s0.2.1 (w64 (s0.2.2.1-1)) x200.2).bind fun x208=>
           some (.inl (s0.1,x200.1,(w64 (s0.2.2.1-1)),false,false,x208))
       else
        (ZL s0.1 s0.2.1 x173.1 x172).bind fun x209=>
        some (.inl (x209.1,s0.2.1,(w64 (s0.2.2.1-1)),false,false,x209.2))
      else
       (Zv s0.1 s0.2.1 x173.1 x172).bind fun x210=>
       match x210 with
       | (.inl x210)=>
        bif (decide ((w64 (x210.1-s0.1))<(w64 (s0.2.1-x210.1)))) then
         bif (decide ((w64 (Int.tdiv (w64 (s0.2.1-s0.1)) 8))≤(w64 (x210.1-s0.1)))) then
          (rc s0.1 x210.1 (w64 (s0.2.2.1-1)) x210.2).bind fun x211=>
          some (.inl ((w64 (x210.1+1)),s0.2.1,(w64 (s0.2.2.1-1)),true,true,x211))
         else
          (rc s0.1 x210.1 (w64 (s0.2.2.1-1)) x210.2).bind fun x212=>
          some (.inl ((w64 (x210.1+1)),s0.2.1,(w64 (s0.2.2.1-1)),false,true,x212))
        else
         bif (decide ((w64 (Int.tdiv (w64 (s0.2.1-s0.1)) 8))≤(w64 (s0.2.1-x210.1)))) then
          (rc (w64 (x210.1+1)) s0.2.1 (w64 (s0.2.2.1-1)) x210.2).bind fun x213=>
          some (.inl (s0.1,x210.1,(w64 (s0.2.2.1-1)),true,true,x213))
         else
          (rc (w64 (x210.1+1)) s0.2.1 (w64 (s0.2.2.1-1)) x210.2).bind fun x214=>
          some (.inl (s0.1,x210.1,(w64 (s0.2.2.1-1)),false,true,x214))
       | (.inr x210)=>
        bif (decide ((w64 (x210.1-s0.1))<(w64 (s0.2.1-x210.1)))) then
         bif (decide ((w64 (Int.tdiv (w64 (s0.2.1-s0.1)) 8))≤(w64 (x210.1-s0.1)))) then
          (rc s0.1 x210.1 (w64 (s0.2.2.1-1)) x210.2).bind fun x215=>
          some (.inl ((w64 (x210.1+1)),s0.2.1,(w64 (s0.2.2.1-1)),true,false,x215))
         else
          (rc s0.1 x210.1 (w64 (s0.2.2.1-1)) x210.2).bind fun x216=>
          some (.inl ((w64 (x210.1+1)),s0.2.1,(w64 (s0.2.2.1-1)),false,false,x216))
        else
         bif (decide ((w64 (Int.tdiv (w64 (s0.2.1-s0.1)) 8))≤(w64 (s0.2.1-x210.1)))) then
          (rc (w64 (x210.1+1)) s0.2.1 (w64 (s0.2.2.1-1)) x210.2).bind fun x217=>
          some (.inl (s0.1,x210.1,(w64 (s0.2.2.1-1)),true,false,x217))
         else
          (rc (w64 (x210.1+1)) s0.2.1 (w64 (s0.2.2.1-1)) x210.2).bind fun x218=>
          some (.inl (s0.1,x210.1,(w64 (s0.2.2.1-1)),false,false,x218))
noncomputable def Zb7 (rc:Int→Int→Int→(List Int)→Option (List Int)) (b:Int) (c:Int) (d:Int) (m0_0:(List Int)):Option (List Int):=
 (lp (Zb3 rc) (b,c,d,true,true,m0_0)).bind fun r219=>
 some r219
noncomputable def Zbf:Nat→Int→Int→Int→(List Int)→Option (List Int)
 | 0=>fun _ _ _ _=>none
 | n+1=>Zb7 (Zbf n)
noncomputable def ZeF (b:Int) (c:Int) (d:Int) (m0_0:(List Int)):Option (List Int):=Zvu fun n=>Zbf n b c d m0_0
noncomputable def Zcy (m0_0:(List Int)):Option (List Int):=
 (Zet (IntKind.u64.wrap (m0_0.length:Int))).bind fun x0=>
 (ZeF 0 (m0_0.length:Int) x0 m0_0).bind fun x1=>
 some x1
noncomputable def ZgX (a:ZbS) (b:(Zo→Option (Int×Bool))) (s0:Int×(List Int)):Option ((Int×(List Int))⊕(List Int)):=
 bif (decide (s0.1<(a.edges.length:Int))) then
  (Zy a.edges s0.1).bind fun x1=>
  (b x1).bind fun x2=>
  bif x2.2 then
   bif (Nat.ble (List.length s0.2+1) lim) then
    some (.inl ((w64 (s0.1+1)),(s0.2++[x2.1])))
   else
    none
  else
   some (.inl ((w64 (s0.1+1)),s0.2))
 else
  some (.inr s0.2)
noncomputable def ZlD (a:ZbS) (b:(Zo→Option (Int×Bool))):Option (List Int):=
 (lp (ZgX a b) (0,([]:(List Int)))).bind fun r3=>
 (Zcy r3).bind fun x4=>
 some x4
noncomputable def Zis (a:ZbS) (b:Int):Option (List Int):=
 (ZlD a (fun z0=>Zfz z0 b)).bind fun x0=>
 some x0
noncomputable def ZfF (x2:Int) (x3:(List Int)) (s4:Int×(List Int)):Option ((Int×(List Int))⊕(List Int)):=
 bif (decide (s4.1<(x3.length:Int))) then
  (Zy x3 s4.1).bind fun x5=>
  (Zy s4.2 x2).bind fun x6=>
  (Zy s4.2 x5).bind fun x7=>
  some (.inl ((w64 (s4.1+1)),(List.set s4.2 x2.toNat (bif decide (x6<x7) then x7 else x6))))
 else
  some (.inr s4.2)
noncomputable def ZfI (a:ZbS) (x0:(List Int)) (s1:Int×Int×(List Int)):Option ((Int×Int×(List Int))⊕Int):=
 bif (decide (s1.2.1<(x0.length:Int))) then
  (Zy x0 s1.2.1).bind fun x2=>
  (Zis a x2).bind fun x3=>
  (lp (ZfF x2 x3) (0,s1.2.2)).bind fun r8=>
  (Zy r8 x2).bind fun x9=>
  (Zy a.work x2).bind fun x10=>
  (Zy (List.set r8 x2.toNat (w64 (x9+x10))) x2).bind fun x11=>
  some (.inl ((bif decide (s1.1<x11) then x11 else s1.1),(w64 (s1.2.1+1)),(List.set r8 x2.toNat (w64 (x9+x10)))))
 else
  some (.inr s1.1)
noncomputable def ZhY (a:ZbS):Option Int:=
 bif (decide (0≤(a.work.length:Int))&&decide ((a.work.length:Int)≤lim)&&decide ((a.work.length:Int)==(a.work.length:Int))) then
  (Zim a).bind fun x0=>
  (lp (ZfI a x0) (0,0,(List.replicate (a.work.length:Int).toNat (0:Int)))).bind fun r12=>
  some r12
 else
  none
noncomputable def Zhm (a:Zn):Option Bool:=
 Zhc.bind fun x0=>
 bif x0 then
  (Zin a).bind fun x1=>
  bif x1 then
   (Zhy a).bind fun x2=>
   (Zgl (Zn.mk a.period a.deadline a.parts a.edges a.futures x2)).bind fun x3=>
   (Zhy a).bind fun x4=>
   (Zgl (Zn.mk a.period a.deadline a.parts a.edges ([]:List Zk) x4)).bind fun x5=>
   bif (x3.2 != 0) then
    some true
   else
    bif (x5.2==0) then
     (ZhY x5.1.dag).bind fun x6=>
     (ZhY x3.1.dag).bind fun x7=>
     bif (decide (x6≤x7)) then
      (Zhw x5.1.dag).bind fun x8=>
      (Zhw x3.1.dag).bind fun x9=>
      bif (x8==x9) then
       bif ((x3.1.dag.work.length:Int)==(w64 ((x5.1.dag.work.length:Int)+(a.futures.length:Int)))) then
        some true
       else
        some false
      else
       some false
     else
      some false
    else
     some false
  else
   Zhc.bind fun x10=>
   bif x10 then
    some true
   else
    some false
 else
  Zhc.bind fun x11=>
  bif x11 then
   some true
  else
   some false
end Go.Proofs.YtljgncbdagmeeaaDoor
namespace Go.Proofs.YtljgncbdagmeeaaDoorE
open Go
set_option linter.unusedVariables false
set_option linter.unusedSimpArgs false
theorem Zha {i n:Nat} (h:i<n):decide ((i:Int)<(n:Int))=true:=decide_eq_true (by omega)
theorem Zib (n:Nat):decide ((n:Int)<(n:Int))=false:=decide_eq_false (by omega)
theorem Zcp {γ:Type}{l:List γ}{i:Nat}{x:γ} (h:l[i]? = some x):Zy l (i:Int)=some x:=(Zw6 l i).trans h
theorem Zp0 {γ:Type}{l:List γ}{i:Int}{x:γ} (h0:0≤i) (h:l[i.toNat]? = some x):Zy l i=some x:=by
 have:=Zcp h
 rwa [Int.toNat_of_nonneg h0] at this
theorem ZdI {n:Int} (h1 : -9223372036854775808≤n) (h2:n<9223372036854775808):w64 n=n:=ZAt h1 h2
theorem Za1 {i n:Nat} (h:i<n) (hn:n<9223372036854775808):w64 ((i:Int)+1)=((i+1:Nat):Int):=by rw[ZdI (by omega) (by omega)];omega
theorem ZkY {n:Nat} (h:n≤1073741824):Nat.ble n lim=true:=Nat.ble_eq_true_of_le h
def ZnT {γ S R:Type} (f:Nat→γ→S→Option (S⊕R)) (fin:S→Option R):Nat→List γ→S→Option R
 | _,[],s=>fin s
 | i,x :: l,s=>(match f i x s with | some (.inl s')=>ZnT f fin (i+1) l s' | some (.inr r)=>some r | none=>none)
theorem Zrj {γ S St R:Type} (l:List γ) (step:St→Option (St⊕R)) (st:Nat→S→St) (f:Nat→γ→S→Option (S⊕R)) (fin:S→Option R)
  (h1:∀i x s,i<l.length→l[i]? = some x→step (st i s)=(match f i x s with | some (.inl s')=>some (.inl (st (i+1) s')) | some (.inr r)=>some (.inr r) | none=>none))
  (h2:∀s,step (st l.length s)=(fin s).map Sum.inr):∀s,lp step (st 0 s)=ZnT f fin 0 l s:=by
 have key:∀(k i:Nat) (s:S),i+k=l.length→lp step (st i s)=ZnT f fin i (l.drop i) s:=by
  intro k
  induction k with
  | zero=>
   intro i s hi
   have:i=l.length:=by omega
   subst this
   rw[List.drop_length,Zcl,h2]
   unfold ZnT
   cases fin s<;>rfl
  | succ k ih=>
   intro i s hi
   have hi':i<l.length:=by omega
   rw[List.drop_eq_getElem_cons hi',Zcl,h1 i l[i] s hi' (List.getElem?_eq_getElem hi')]
   conv=>rhs;unfold ZnT
   cases f i l[i] s with
   | none=>rfl
   | some t=>
    cases t with
    | inl s'=>exact ih (i+1) s' (by omega)
    | inr r=>rfl
 intro s
 have:=key l.length 0 s (by omega)
 rwa [List.drop_zero] at this
def ZiX {γ R:Type} (p:Nat→γ→Bool) (out:Nat→γ→R) (fin:R):Nat→List γ→R
 | _,[]=>fin
 | i,x :: l=>bif p i x then out i x else ZiX p out fin (i+1) l
theorem ZiO {γ R:Type} (l:List γ) (step:Int→Option (Int⊕R)) (p:Nat→γ→Bool) (out:Nat→γ→R) (fin:R)
  (h1:∀i x,i<l.length→l[i]? = some x→step (i:Int)=some (bif p i x then .inr (out i x) else .inl ((i+1:Nat):Int)))
  (h2:step (l.length:Int)=some (.inr fin)):lp step 0=some (ZiX p out fin 0 l):=by
 have key:=Zrj (S:=Unit) l step (fun i _=>(i:Int)) (fun i x _=>some (bif p i x then .inr (out i x) else .inl ())) (fun _=>some fin)
  (fun i x s hi hx=>by rw[h1 i x hi hx];cases p i x<;>rfl) (fun _=>h2) ()
 refine(key:lp step 0=_).trans ?_
 have:∀(l:List γ) (i:Nat),ZnT (S:=Unit) (fun i x _=>some (bif p i x then Sum.inr (out i x) else Sum.inl ())) (fun _=>some fin) i l ()=some (ZiX p out fin i l):=by
  intro l
  induction l with
  | nil=>intro i;rfl
  | cons x l ih=>
   intro i
   unfold ZnT ZiX
   cases p i x with
   | true=>rfl
   | false=>exact ih (i+1)
 exact this l 0
def Zgs {γ:Type} (p:Nat→γ→Bool):Nat→List γ→Bool
 | _,[]=>false
 | i,x :: l=>p i x || Zgs p (i+1) l
theorem ZmR {γ:Type} (p:γ→Bool):∀(l:List γ) (i:Nat),Zgs (fun _=>p) i l=l.any p
 | [],_=>rfl
 | x :: l,i=>by rw[Zgs,List.any_cons,ZmR p l]
theorem ZgK {γ R:Type} (p:Nat→γ→Bool) (c fin:R):∀(l:List γ) (i:Nat),ZiX p (fun _ _=>c) fin i l=bif Zgs p i l then c else fin
 | [],_=>rfl
 | x :: l,i=>by
  unfold ZiX Zgs
  rw[ZgK p c fin l (i+1)]
  cases p i x<;>rfl
theorem Zpq {γ R:Type} (p:γ→Bool) (fin:R):∀(l:List γ) (i:Nat),(∃j:Nat,ZiX (fun _=>p) (fun i _=>(Sum.inl (i:Int):Int⊕R)) (.inr fin) i l = .inl (j:Int)∧l.any p=true)∨(ZiX (fun _=>p) (fun i _=>(Sum.inl (i:Int):Int⊕R)) (.inr fin) i l = .inr fin∧l.any p=false)
 | [],_=>.inr ⟨rfl,rfl⟩
 | x :: l,i=>by
  unfold ZiX
  rw[List.any_cons]
  cases h:p x with
  | true=>exact .inl ⟨i,rfl,rfl⟩
  | false=>simpa using Zpq p fin l (i+1)
theorem Zio {γ:Type} (p:Nat→γ→Bool):∀(l:List γ) (i:Nat),Zgs p i l=true↔∃j x,l[j]? = some x∧p (i+j) x=true
 | [],i=>by simp[Zgs]
 | x :: l,i=>by
  rw[Zgs,Bool.or_eq_true,Zio p l (i+1)]
  constructor
  ·rintro (h | ⟨j,y,hj,hp⟩)
   ·exact⟨0,x,rfl,h⟩
   ·exact⟨j+1,y,by simpa using hj,by rw[show i+(j+1)=i+1+j by omega];exact hp⟩
  ·rintro ⟨j,y,hj,hp⟩
   cases j with
   | zero=>left;simp at hj;subst hj;exact hp
   | succ j=>right;exact⟨j,y,by simpa using hj,by rw[show i+1+j=i+(j+1) by omega];exact hp⟩
end Go.Proofs.YtljgncbdagmeeaaDoorE
namespace Go.Proofs.YtljgncbdagmeeaaDoor
open Go Go.Proofs.YtljgncbdagmeeaaDoorE
set_option linter.unusedVariables false
set_option linter.unusedSimpArgs false
def ZdG (n a b:Int):Bool:=decide (a≤n)&&decide (n≤b)
theorem Zle (n a b:Int):Zch n a b=some (ZdG n a b):=by
 unfold Zch ZdG
 cases decide (a≤n)<;>cases decide (n≤b)<;>rfl
def Zgu (p:Zam):Bool:=!(ZdG p.op 0 5&&(ZdG p.arg 0 2147483647&&ZdG p.work 1 100))
theorem ZAc (p:Zam):Zf6 p=some (Zgu p):=by
 unfold Zf6 Zgu
 simp only[Zle,Option.bind_some]
 cases ZdG p.op 0 5<;>cases ZdG p.arg 0 2147483647<;>cases ZdG p.work 1 100<;>rfl
theorem Zll {γ:Type} (l:List γ) (p:γ→Bool) (step:Int→Option (Int⊕(Int⊕Unit)))
  (h1:∀i x,i<l.length→l[i]? = some x→step (i:Int)=some (bif p x then .inr (.inl (i:Int)) else .inl ((i+1:Nat):Int)))
  (h2:step (l.length:Int)=some (.inr (.inr ()))) :
  (((lp step 0).bind fun(r:Int⊕Unit)=>match r with | .inl r=>some r | .inr _=>some (-1)).bind fun x=>bif decide (0≤x) then some true else some false)=some (l.any p):=by
 rw[ZiO l step (fun _=>p) (fun i _=>.inl (i:Int)) (.inr ()) h1 h2]
 rcases Zpq p () l 0 with⟨j,e1,e2⟩ | ⟨e1,e2⟩
 ·rw[e1,e2]
  show(bif decide ((0:Int)≤(j:Int)) then some true else some false)=some true
  rw[decide_eq_true (by omega)]
  rfl
 ·rw[e1,e2]
  rfl
theorem ZpR (l:List Zam) (f:Zam→Option Bool) (p:Zam→Bool) (hf:∀x∈l,f x=some (p x)) (hl:l.length<9223372036854775808):ZbB l f=some (l.any p):=by
 unfold ZbB ZcQ
 refine Zll l p _ (fun i x hi hx=>?_) ?_
 ·simp only[ZbA,Zha hi,Zcp hx,Option.bind_some,hf x (List.mem_of_getElem? hx),Za1 hi hl,cond_true]
  cases p x<;>rfl
 ·simp only[ZbA,Zib];rfl
def Zk9 (e x:Zo):Bool:=e.src==x.src&&(e.dst==x.dst&&true)
theorem Zra (l:List Zo) (e:Zo) (hl:l.length<9223372036854775808):Zbz l e=some (l.any (Zk9 e)):=by
 unfold Zbz Zdy
 refine Zll l (Zk9 e) _ (fun i x hi hx=>?_) ?_
 ·simp only[Zb6,Zha hi,Zcp hx,Option.bind_some,Za1 hi hl,cond_true,Zk9]
  cases (e.src==x.src&&(e.dst==x.dst&&true))<;>rfl
 ·simp only[Zb6,Zib];rfl
def again (f g:Zk):Bool:=g.user==f.user&&g.pos==f.pos
theorem ZnL (l:List Zk) (f:Zk→Option Bool) (p:Zk→Bool) (hf:∀x∈l,f x=some (p x)) (hl:l.length<9223372036854775808):Zbm l f=some (l.any p):=by
 unfold Zbm Zb9
 refine Zll l p _ (fun i x hi hx=>?_) ?_
 ·simp only[Zbl,Zha hi,Zcp hx,Option.bind_some,hf x (List.mem_of_getElem? hx),Za1 hi hl,cond_true]
  cases p x<;>rfl
 ·simp only[Zbl,Zib];rfl
theorem ZyQ (f g:Zk):Zd9 g f.user f.pos=some (again f g):=by
 unfold Zd9 again
 cases (g.user==f.user)<;>cases (g.pos==f.pos)<;>rfl
theorem Zyc (l:List Int) (n:Int) (hl:l.length<9223372036854775808):Zco l n=some (l.any (fun x=>n==x)):=by
 unfold Zco ZdZ
 refine Zll l (fun x=>n==x) _ (fun i x hi hx=>?_) ?_
 ·simp only[Zcq,Zha hi,Zcp hx,Option.bind_some,Za1 hi hl,cond_true]
  cases (n==x)<;>rfl
 ·simp only[Zcq,Zib];rfl
def ZpY (b:Zu) (n:Int):Bool:=b.outs.any fun x=>n==x
theorem Zmg (l:List Int) (f:Int→Option Bool) (p:Int→Bool) (hf:∀x∈l,f x=some (p x)) (hl:l.length<9223372036854775808):ZaH l f=some (l.any p):=by
 unfold ZaH ZbC
 refine Zll l p _ (fun i x hi hx=>?_) ?_
 ·simp only[Za4,Zha hi,Zcp hx,Option.bind_some,hf x (List.mem_of_getElem? hx),Za1 hi hl,cond_true]
  cases p x<;>rfl
 ·simp only[Za4,Zib];rfl
theorem ZCM (b:Zu) (h2:b.outs.length<9223372036854775808) (n:Int):Zeb n b.outs=some (ZpY b n):=by
 unfold Zeb
 simp only[Zyc _ _ h2,Option.bind_some]
 unfold ZpY
 cases (b.outs.any fun y=>n==y)<;>rfl
def two (n:Nat) (a b:Int):Bool:=(a != b)&&(ZdG a 0 (n-1)&&ZdG b 0 (n-1))
theorem ZzB (d:Zn) (hl:d.parts.length<9223372036854775808) (a b:Int):Zh3 d a b=some (two d.parts.length a b):=by
 unfold Zh3 two
 rw[ZdI (by omega) (by omega)]
 simp only[Zle,Option.bind_some]
 cases (a != b)<;>cases ZdG a 0 (d.parts.length-1)<;>cases ZdG b 0 (d.parts.length-1)<;>rfl
def Zm9 (n:Nat) (l:List Int) (i:Nat) (x:Int):Bool:=!(ZdG x 0 (n-1)) || (match i with | 0=>false | j+1=>match l[j]? with | some y=>decide (x≤y) | none=>false)
def Zk4 (n:Nat) (l:List Int):Bool:=!(Zgs (Zm9 n l) 0 l) && !l.isEmpty
theorem ZyU (b:Bool) (l:List Int):((some (bif b then (Sum.inl ():Unit⊕Unit) else .inr ())).bind fun r=>match r with | .inl _=>some false | .inr _=>bif decide (0<(l.length:Int)) then some true else some false)=some (!b && !l.isEmpty):=by
 cases b with
 | true=>rfl
 | false=>
  cases l with
  | nil=>rfl
  | cons x l=>show(bif decide (0<((x :: l).length:Int)) then some true else some false)=some true;rw[decide_eq_true (by rw[List.length_cons];omega)];rfl
theorem ZzC (d:Zn) (hd:d.parts.length<9223372036854775808) (l:List Int) (hl:l.length<9223372036854775808):Zh4 d l=some (Zk4 d.parts.length l):=by
 have key:=ZiO l (Zgk d l) (Zm9 d.parts.length l) (fun _ _=>.inl ()) (.inr ()) (fun i x hi hx=>by
   simp only[Zgk,Zha hi,Zcp hx,Option.bind_some,Za1 hi hl,cond_true,Zle,Zm9]
   rw[ZdI (by omega) (by omega)]
   cases ZdG x 0 (d.parts.length-1) with
   | false=>rfl
   | true=>
    cases i with
    | zero=>rfl
    | succ i=>
     rw[decide_eq_true (show(0:Int)<((i+1:Nat):Int) by omega),ZdI (by omega) (by omega),show(((i+1:Nat):Int)-1)=(i:Int) by omega]
     have hi2:l[i]? = some l[i]:=List.getElem?_eq_getElem (by omega)
     rw[Zcp hi2]
     simp only[cond_true,Option.bind_some,Bool.not_true,Bool.false_or,hi2]
     cases decide (x≤l[i])<;>rfl) (by simp only[Zgk,Zib];rfl)
 unfold Zh4 Zk4
 rw[key,ZgK]
 exact ZyU _ _
end Go.Proofs.YtljgncbdagmeeaaDoor
namespace Go.Proofs.YtljgncbdagmeeaaDoor
open Go Go.Proofs.YtljgncbdagmeeaaDoorE
set_option linter.unusedVariables false
set_option linter.unusedSimpArgs false
def Zrn (n:Int):Int:=bif decide (n<0) then 10 else bif decide (1099511627775<n) then 11 else 0
theorem Zs8 (n:Int):Zik n=some (Zrn n):=by
 unfold Zik Zrn
 cases decide (n<0)<;>cases decide (1099511627775<n)<;>rfl
noncomputable def ZyD (x:Int):Int:=match Zdq x with | some n=>n | none=>0
theorem ZAy (x:Int):ZdL x=some (ZyD x):=by
 unfold ZdL ZyD Zdq
 rfl
noncomputable def Zy3 (n:Int):Bool:=!(Zrn n != 0) && !(ZyD (IntKind.u64.wrap n) != 1)
theorem Zwt (n:Int):∃k,Zj3 n=some (k,Zy3 n):=by
 have tz:∃k,ZdK (IntKind.u64.wrap n)=some k:=⟨_,rfl⟩
 obtain⟨k,hk⟩:=tz
 unfold Zj3 Zy3
 simp only[Zs8,ZAy,Option.bind_some,hk]
 cases (Zrn n != 0)
 ·cases (ZyD (IntKind.u64.wrap n) != 1)
  ·exact⟨k,rfl⟩
  ·exact⟨0,rfl⟩
 ·exact⟨0,rfl⟩
end Go.Proofs.YtljgncbdagmeeaaDoor
namespace Go.Proofs.YtljgncbdagmeeaaDoor
open Go Go.Proofs.YtljgncbdagmeeaaDoorE
set_option linter.unusedVariables false
set_option linter.unusedSimpArgs false
def ZzA (b:Zu):Prop:=b.ins.length<9223372036854775808∧b.outs.length<9223372036854775808
structure Zln (d:Zn):Prop where
 p:d.parts.length<9223372036854775808
 e:d.edges.length<9223372036854775808
 f:d.futures.length<9223372036854775808
 b:d.barriers.length<9223372036854775808
 i:∀b∈d.barriers,ZzA b
theorem Zmu {γ:Type}{l:List γ}{i n:Nat} (h:l.length<n):(l.take i).length<n:=by rw[List.length_take];omega
def ZeI (d:Zn) (i:Nat) (e:Zo):Bool:=!(two d.parts.length e.src e.dst) || (d.edges.take i).any (Zk9 e)
theorem ZyW (d:Zn) (h:Zln d):lp (Zen d) 0=some (bif Zgs (ZeI d) 0 d.edges then .inl () else .inr ()):=by
 have key:=ZiO d.edges (Zen d) (ZeI d) (fun _ _=>.inl ()) (.inr ()) (fun i x hi hx=>by
   simp only[Zen,Zha hi,Zcp hx,Option.bind_some,Za1 hi h.e,cond_true,ZzB d h.p,ZeI,Int.toNat_natCast,Zra _ _ (Zmu h.e)]
   rw[decide_eq_true (show(0:Int)≤(i:Int) by omega),Nat.ble_eq_true_of_le (Nat.le_of_lt hi)]
   cases two d.parts.length x.src x.dst<;>cases (d.edges.take i).any (Zk9 x)<;>rfl) (by simp only[Zen,Zib];rfl)
 rw[key,ZgK]
def Zeu (ps:List Zam) (z:Int):Int:=match ps[z.toNat]? with | some p=>p.work | none=>0
def ZdO (d:Zn) (i:Nat) (f:Zk):Bool:=!(two d.parts.length f.maker f.user) || (!(ZdG f.pos 1 (Zeu d.parts f.user-1)) || (d.futures.take i).any (again f))
theorem Zmz {n:Nat}{a b:Int} (h:two n a b=true):(0≤a∧a.toNat<n)∧(0≤b∧b.toNat<n)∧a≠b:=by
 simp only[two,ZdG,Bool.and_eq_true,decide_eq_true_eq,bne_iff_ne] at h
 omega
theorem Zzv {γ:Type}{l:List γ}{z:Int} (h0:0≤z) (h:z.toNat<l.length):Zy l z=some l[z.toNat]:=Zp0 h0 (List.getElem?_eq_getElem h)
theorem ZvV (d:Zn) (h:Zln d) (hg:∀p∈d.parts,1≤p.work∧p.work≤100):lp (Zer d) 0=some (bif Zgs (ZdO d) 0 d.futures then .inl () else .inr ()):=by
 have key:=ZiO d.futures (Zer d) (ZdO d) (fun _ _=>.inl ()) (.inr ()) (fun i x hi hx=>by
   simp only[Zer,Zha hi,Zcp hx,Option.bind_some,Za1 hi h.f,cond_true,ZzB d h.p,ZdO]
   cases h1:two d.parts.length x.maker x.user with
   | false=>rfl
   | true=>
    obtain⟨_,⟨u1,u2⟩,_⟩:=Zmz h1
    have w:=hg _ (List.getElem_mem u2)
    have wa:Zeu d.parts x.user=d.parts[x.user.toNat].work:=by simp only[Zeu,List.getElem?_eq_getElem u2]
    rw[← wa] at w
    rw[Zzv u1 u2]
    simp only[cond_true,Option.bind_some,Zle,← wa,ZdI (show -9223372036854775808≤Zeu d.parts x.user-1 by omega) (by omega),Int.toNat_natCast]
    rw[decide_eq_true (show(0:Int)≤(i:Int) by omega),Nat.ble_eq_true_of_le (Nat.le_of_lt hi),ZnL _ _ (again x) (fun y _=>ZyQ x y) (Zmu h.f)]
    cases ZdG x.pos 1 (Zeu d.parts x.user-1)<;>cases (d.futures.take i).any (again x)<;>rfl) (by simp only[Zer,Zib];rfl)
 rw[key,ZgK]
def Zem (n:Nat) (b:Zu):Bool:=!(Zk4 n b.ins) || (!(Zk4 n b.outs) || b.ins.any (ZpY b))
theorem ZtJ (d:Zn) (h:Zln d):lp (Zep d) 0=some (bif d.barriers.any (Zem d.parts.length) then .inl () else .inr ()):=by
 have key:=ZiO d.barriers (Zep d) (fun _=>Zem d.parts.length) (fun _ _=>.inl ()) (.inr ()) (fun i x hi hx=>by
   have hb:=h.i x (List.mem_of_getElem? hx)
   simp only[Zep,Zha hi,Zcp hx,Option.bind_some,Za1 hi h.b,cond_true,ZzC d h.p _ hb.1,ZzC d h.p _ hb.2,Zem,Zmg x.ins _ (ZpY x) (fun y _=>ZCM x hb.2 y) hb.1]
   cases Zk4 d.parts.length x.ins<;>cases Zk4 d.parts.length x.outs<;>cases x.ins.any (ZpY x)<;>rfl) (by simp only[Zep,Zib];rfl)
 rw[key,ZgK,ZmR]
noncomputable def ZkS (d:Zn):Bool:=Zy3 d.period&&(!decide (4096<d.period)&&ZdG d.deadline 1 d.period)
def Zh0 (d:Zn):Bool:=ZdG (d.parts.length:Int) 1 16&&(!decide ((48:Int)<d.edges.length)&&(!decide ((16:Int)<d.futures.length) && !decide ((4:Int)<d.barriers.length)))
noncomputable def Zes (d:Zn):Int:=
 bif Zh0 d then bif ZkS d then bif d.parts.any Zgu then 52 else bif Zgs (ZeI d) 0 d.edges then 53 else
 bif Zgs (ZdO d) 0 d.futures then 54 else bif d.barriers.any (Zem d.parts.length) then 55 else 0 else 51 else 50
theorem ZpZ {ps:List Zam} (h:ps.any Zgu=false):∀p∈ps,1≤p.work∧p.work≤100:=fun p hp=>by
 have:=List.any_eq_false.1 h p hp
 simp only[Zgu,ZdG,Bool.not_eq_true,Bool.not_eq_false',Bool.and_eq_true,decide_eq_true_eq] at this
 exact this.2.2
theorem Zua (d:Zn) (h:Zln d):ZgY d=some (Zes d):=by
 obtain⟨k,hk⟩:=Zwt d.period
 unfold ZgY Zes Zh0 ZkS
 simp only[Zle,Option.bind_some,hk,ZpR _ _ Zgu (fun x _=>ZAc x) h.p,ZyW d h,ZtJ d h]
 cases ZdG (d.parts.length:Int) 1 16 with
 | false=>rfl
 | true=>
  cases decide ((48:Int)<d.edges.length) with
  | true=>rfl
  | false=>
   cases decide ((16:Int)<d.futures.length) with
   | true=>rfl
   | false=>
    cases decide ((4:Int)<d.barriers.length) with
    | true=>rfl
    | false=>
     cases Zy3 d.period with
     | false=>rfl
     | true=>
      cases decide (4096<d.period) with
      | true=>rfl
      | false=>
       cases ZdG d.deadline 1 d.period with
       | false=>rfl
       | true=>
        cases hp:d.parts.any Zgu with
        | true=>rfl
        | false=>
         rw[ZvV d h (ZpZ hp)]
         cases Zgs (ZeI d) 0 d.edges<;>cases Zgs (ZdO d) 0 d.futures<;>cases d.barriers.any (Zem d.parts.length)<;>rfl
end Go.Proofs.YtljgncbdagmeeaaDoor
namespace Go.Proofs.YtljgncbdagmeeaaDoor
open Go Go.Proofs.YtljgncbdagmeeaaDoorE
set_option linter.unusedVariables false
set_option linter.unusedSimpArgs false
def Zpc (b:Zu):Bool:=decide (20<(b.ins.length:Int)) || decide (20<(b.outs.length:Int))
def few (d:Zn):Bool:=!((d.barriers.take 9).any Zpc)&&(decide ((d.parts.length:Int)≤20)&&(decide ((d.edges.length:Int)≤60)&&(decide ((d.futures.length:Int)≤20)&&decide ((d.barriers.length:Int)≤8))))
theorem ZA6 (d:Zn):Zin d=some (few d):=by
 have hl:(d.barriers.take 9).length=min 9 d.barriers.length:=List.length_take
 have key:=ZiO (d.barriers.take 9) (ZfP d) (fun _=>Zpc) (fun _ _=>.inl ()) (.inr ()) (fun i x hi hx=>by
   have h9:i<9:=by omega
   rw[List.getElem?_take_of_lt h9] at hx
   simp only[ZfP,Zha (show i<d.barriers.length by omega),Zcp hx,Option.bind_some,Za1 h9 (by omega),cond_true,Zpc,decide_eq_true (show(i:Int)<9 by omega)]
   cases decide (20<(x.ins.length:Int))<;>cases decide (20<(x.outs.length:Int))<;>rfl) (by
   rw[hl]
   unfold ZfP
   by_cases h:d.barriers.length≤9
   ·rw[Nat.min_eq_right h,Zib];rfl
   ·rw[Nat.min_eq_left (by omega),decide_eq_true (show((9:Nat):Int)<d.barriers.length by omega)];rfl)
 unfold Zin few
 rw[key,ZgK,ZmR]
 cases (d.barriers.take 9).any Zpc<;>cases decide ((d.parts.length:Int)≤20)<;>cases decide ((d.edges.length:Int)≤60)<;>cases decide ((d.futures.length:Int)≤20)<;>cases decide ((d.barriers.length:Int)≤8)<;>rfl
structure ZlY (d:Zn):Prop where
 p:d.parts.length≤20
 e:d.edges.length≤60
 f:d.futures.length≤20
 b:d.barriers.length≤8
 i:∀b∈d.barriers,b.ins.length≤20∧b.outs.length≤20
theorem Zvl {d:Zn} (h:few d=true):ZlY d:=by
 unfold few at h
 simp only[Bool.and_eq_true,decide_eq_true_eq,Bool.not_eq_true'] at h
 obtain⟨h1,h2,h3,h4,h5⟩:=h
 refine⟨by omega,by omega,by omega,by omega,fun b hb=>?_⟩
 have:=List.any_eq_false.1 h1 b (by rw[List.take_of_length_le (by omega)];exact hb)
 simp only[Zpc,Bool.or_eq_true,decide_eq_true_eq,not_or] at this
 omega
theorem ZlY.short {d:Zn} (h:ZlY d):Zln d:=
 ⟨by have:=h.p;omega,by have:=h.e;omega,by have:=h.f;omega,by have:=h.b;omega,fun b hb=>⟨by have:=(h.i b hb).1;omega,by have:=(h.i b hb).2;omega⟩⟩
theorem ZC0 (d:Zn) (h:ZlY d):Zhy d=some d.barriers:=by
 have key:=Zrj d.barriers (ZeW d) (fun i (s:List Zu)=>((i:Int),s)) (fun i x s=>bif Nat.ble (s.length+1) lim then some (.inl (s++[x])) else none) (fun s=>some s) (fun i x s hi hx=>by
   have hb:=h.i x (List.mem_of_getElem? hx)
   simp only[ZeW,Zha hi,Zcp hx,Option.bind_some,Za1 hi h.short.b,cond_true,ZkY (show x.ins.length≤1073741824 by omega),ZkY (show x.outs.length≤1073741824 by omega)]
   cases Nat.ble (s.length+1) lim<;>rfl) (fun s=>by simp only[ZeW,Zib];rfl) []
 have sc:∀(l:List Zu) (i:Nat) (s:List Zu),s.length+l.length≤1073741824→ZnT (fun i x s=>bif Nat.ble (s.length+1) lim then some (Sum.inl (s++[x])) else (none:Option (List Zu⊕List Zu))) (fun s=>some s) i l s=some (s++l):=by
  intro l
  induction l with
  | nil=>intro i s _;simp[ZnT]
  | cons x l ih=>
   intro i s hs
   rw[List.length_cons] at hs
   unfold ZnT
   rw[ZkY (by omega)]
   simp only[cond_true]
   rw[ih (i+1) (s++[x]) (by rw[List.length_append];simp;omega)]
   simp
 rw[sc _ _ _ (by have:=h.b;simp;omega)] at key
 unfold Zhy
 rw[ZkY (show List.length d.parts≤1073741824 by have:=h.p;omega),ZkY (show List.length d.edges≤1073741824 by have:=h.e;omega),ZkY (show List.length d.futures≤1073741824 by have:=h.f;omega)]
 show(lp (ZeW d) (((0:Nat):Int),[])).bind _=_
 rw[key]
 rfl
end Go.Proofs.YtljgncbdagmeeaaDoor
namespace Go.Proofs.YtljgncbdagmeeaaDoor
open Go Go.Proofs.YtljgncbdagmeeaaDoorE Go.Sort
set_option linter.unusedVariables false
set_option linter.unusedSimpArgs false
structure OKA (P:Int→Prop) (d:Array Int):Prop where
 el:∀i,i<d.size→P d[i]!
 sz:d.size≤1000
theorem Zcv {d:Array Int}{i:Nat} (h:i<d.size):Zy d.toList (i:Int)=some d[i]!:=by
 refine Zcp ?_
 rw[Array.getElem?_toList,Array.getElem?_eq_getElem h,getElem!_pos d i h]
theorem ZzV (d:Array Int) (i:Nat) (x:Int):List.set d.toList i x=(d.setIfInBounds i x).toList:=by simp
theorem Ziq (d:Array Int) (i j:Nat):List.set (List.set d.toList i d[j]!) j d[i]! = (swp d i j).toList:=by
 unfold swp
 rw[ZzV,ZzV]
theorem Zld {d:Array Int}{i j:Nat}{x:Int} (h:j<d.size):∃y,Zy (List.set d.toList i x) (j:Int)=some y:=by
 rw[ZzV]
 exact⟨_,Zcv (by simpa using h)⟩
theorem ZaR (d:Array Int) (i j:Nat):(swp d i j).size=d.size:=by unfold swp;simp
theorem Zzs {d:Array Int}{i j k:Nat} (hi:i<d.size) (hj:j<d.size):(swp d i j)[k]! = if k=j then d[i]! else if k=i then d[j]! else d[k]!:=by
 unfold swp
 by_cases hk:k<d.size
 ·rw[getElem!_pos _ k (by simpa using hk),getElem!_pos d k hk,Array.getElem_setIfInBounds (by simpa using hk)]
  by_cases h1:j=k
  ·rw[if_pos h1,if_pos h1.symm]
  ·rw[if_neg h1,if_neg (Ne.symm h1),Array.getElem_setIfInBounds hk]
   by_cases h2:i=k
   ·rw[if_pos h2,if_pos h2.symm]
   ·rw[if_neg h2,if_neg (Ne.symm h2)]
 ·rw[getElem!_neg _ k (by simpa using hk),getElem!_neg d k hk,if_neg (by omega),if_neg (by omega)]
theorem OKA.swp {P:Int→Prop}{d:Array Int} (h:OKA P d) {i j:Nat} (hi:i<d.size) (hj:j<d.size):OKA P (swp d i j):=
 ⟨fun k hk=>by
  rw[ZaR] at hk
  rw[Zzs hi hj]
  split
  ·exact h.el _ hi
  ·split
   ·exact h.el _ hj
   ·exact h.el _ hk,by rw[ZaR];exact h.sz⟩
theorem ZhH {a b:Nat}:decide ((a:Int)<(b:Int))=decide (a<b):=decide_eq_decide.2 (by omega)
theorem Zix {a b:Nat}:decide ((a:Int)≤(b:Int))=decide (a≤b):=decide_eq_decide.2 (by omega)
theorem Zbh {z:Int}{n:Nat} (h:z=(n:Int)) (hn:n<9223372036854775808):w64 z=(n:Int):=by rw[h,ZdI (by omega) (by omega)]
section
variable (cmp:Int→Int→Option Int) (c:Int→Int→Int) (P:Int→Prop)
def Zqj:Prop:=∀x y,P x→P y→cmp x y=some (c x y)
def ltC (x y:Int):Bool:=decide (c x y<0)
variable {cmp c P} (hc:Zqj cmp c P)
include hc
theorem Zqz (a:Nat):∀(j:Nat) (d:Array Int),OKA P d→j<d.size→lp (Z3 (a:Int) cmp) ((j:Int),d.toList)=some (insInner (ltC c) a j d).toList∧OKA P (insInner (ltC c) a j d)∧(insInner (ltC c) a j d).size=d.size
 | 0,d,hd,hj=>by
  rw[Zcl]
  simp only[Z3,decide_eq_false (show ¬((a:Int)<((0:Nat):Int)) by omega),cond_false]
  exact⟨rfl,hd,rfl⟩
 | j+1,d,hd,hj=>by
  have hj':j<d.size:=by omega
  have hz:=hd.sz
  rw[Zcl]
  have e2:w64 (((j+1:Nat):Int)-1)=(j:Int):=Zbh (by omega) (by omega)
  have e3:=hc _ _ (hd.el (j+1) hj) (hd.el j hj')
  unfold insInner
  by_cases h1:a<j+1
  ·by_cases h2:c d[j+1]! d[j]! < 0
   ·have ih:=Zqz a j (swp d (j+1) j) (hd.swp hj hj') (by rw[ZaR];omega)
    obtain⟨y,e5⟩:=Zld (i:=j+1) (x:=d[j]!) hj'
    simp only[Z3,ZhH,decide_eq_true h1,cond_true,Zcv hj,e2,Zcv hj',Option.bind_some,e3,decide_eq_true h2,Int.toNat_natCast,e5,Ziq]
    rw[if_pos (by simp[h1,h2,ltC])]
    rw[ZaR] at ih
    exact ih
   ·simp only[Z3,ZhH,decide_eq_true h1,cond_true,Zcv hj,e2,Zcv hj',Option.bind_some,e3,decide_eq_false h2,cond_false]
    rw[if_neg (by simp[h1,h2,ltC])]
    exact⟨rfl,hd,rfl⟩
  ·simp only[Z3,ZhH,decide_eq_false h1,cond_false]
   rw[if_neg (by simp[h1])]
   exact⟨rfl,hd,rfl⟩
theorem Zq6 (a b:Nat):∀(k i:Nat) (d:Array Int),i+k=max i b→b≤d.size→OKA P d→lp (Zak (a:Int) (b:Int) cmp) ((i:Int),d.toList)=some (insOuter (ltC c) a b i d).toList∧OKA P (insOuter (ltC c) a b i d)∧(insOuter (ltC c) a b i d).size=d.size
 | 0,i,d,hi,hb,hd=>by
  rw[Zcl]
  unfold insOuter
  simp only[Zak,ZhH,decide_eq_false (show ¬i<b by omega),cond_false]
  rw[if_neg (by omega)]
  exact⟨rfl,hd,rfl⟩
 | k+1,i,d,hi,hb,hd=>by
  have hib:i<b:=by omega
  have hz:=hd.sz
  obtain⟨h1,h2,h3⟩:=Zqz hc a i d hd (by omega)
  have ih:=Zq6 a b k (i+1) (insInner (ltC c) a i d) (by omega) (by rw[h3];exact hb) h2
  rw[Zcl]
  unfold insOuter
  simp only[Zak,ZhH,decide_eq_true hib,cond_true,h1,Option.bind_some,Za1 hib (by omega)]
  rw[if_pos hib,← h3]
  exact ih
theorem ZzL (a b:Nat) (d:Array Int) (hb:b≤d.size) (ha:a≤b) (hd:OKA P d):Z4 (a:Int) (b:Int) cmp d.toList=some (insertionSort (ltC c) d a b).toList∧OKA P (insertionSort (ltC c) d a b)∧(insertionSort (ltC c) d a b).size=d.size:=by
 have hz:=hd.sz
 obtain⟨h1,h2⟩:=Zq6 hc a b (max (a+1) b-(a+1)) (a+1) d (by omega) hb hd
 unfold Z4 insertionSort
 rw[Zbh (n:=a+1) (by omega) (by omega),h1]
 exact⟨rfl,h2⟩
theorem ZyE (hi first:Nat):∀(k root:Nat) (d:Array Int),hi-root≤k→root≤hi→first+hi≤d.size→OKA P d→∃r,lp (ZM (hi:Int) (first:Int) cmp) ((root:Int),d.toList)=some r∧(r = .inl (siftDown (ltC c) hi first root d).toList∨r = .inr (siftDown (ltC c) hi first root d).toList)∧OKA P (siftDown (ltC c) hi first root d)∧(siftDown (ltC c) hi first root d).size=d.size:=by
 intro k
 induction k with
 | zero=>
  intro root d hk hr hs hd
  have hz:=hd.sz
  rw[Zcl]
  unfold siftDown
  have e0:w64 (2*(root:Int))=((2*root:Nat):Int):=Zbh (by omega) (by omega)
  have e1:w64 (((2*root:Nat):Int)+1)=((2*root+1:Nat):Int):=Zbh (by omega) (by omega)
  simp only[ZM,e0,e1,Zix,decide_eq_true (show hi≤2*root+1 by omega),cond_true]
  rw[dif_pos (by omega)]
  exact⟨_,rfl,.inl rfl,hd,rfl⟩
 | succ k ih=>
  intro root d hk hr hs hd
  have hz:=hd.sz
  rw[Zcl]
  unfold siftDown
  have e0:w64 (2*(root:Int))=((2*root:Nat):Int):=Zbh (by omega) (by omega)
  have e1:w64 (((2*root:Nat):Int)+1)=((2*root+1:Nat):Int):=Zbh (by omega) (by omega)
  by_cases h1:hi≤2*root+1
  ·simp only[ZM,e0,e1,Zix,decide_eq_true h1,cond_true]
   rw[dif_pos (by omega)]
   exact⟨_,rfl,.inl rfl,hd,rfl⟩
  have e2:w64 (((2*root+1:Nat):Int)+1)=((2*root+2:Nat):Int):=Zbh (by omega) (by omega)
  have er:w64 ((first:Int)+(root:Int))=((first+root:Nat):Int):=Zbh (by omega) (by omega)
  have ef:w64 ((first:Int)+((2*root+1:Nat):Int))=((first+(2*root+1):Nat):Int):=Zbh (by omega) (by omega)
  have ef1:w64 (((first+(2*root+1):Nat):Int)+1)=((first+(2*root+1)+1:Nat):Int):=Zbh (by omega) (by omega)
  have ef2:w64 ((first:Int)+((2*root+2:Nat):Int))=((first+(2*root+2):Nat):Int):=Zbh (by omega) (by omega)
  have ir:first+root<d.size:=by omega
  have i1:first+(2*root+1)<d.size:=by omega
  have cr1:=hc _ _ (hd.el _ ir) (hd.el _ i1)
  have one:∀{r:List Int⊕List Int} {A:Array Int},A=d→(r = .inl d.toList∨r = .inr d.toList)→∃q,some r=some q∧(q = .inl A.toList∨q = .inr A.toList)∧OKA P A∧A.size=d.size:=fun hA hr=>by
   subst hA
   exact⟨_,rfl,hr,hd,rfl⟩
  rw[dif_neg (by omega)]
  by_cases h2:2*root+2<hi
  ·have i2:first+(2*root+2)<d.size:=by omega
   have i2':first+(2*root+1)+1<d.size:=by omega
   have c12:=hc _ _ (hd.el _ i1) (hd.el _ i2')
   have cr2:=hc _ _ (hd.el _ ir) (hd.el _ i2)
   by_cases h3:c d[first+(2*root+1)]! d[first+(2*root+1)+1]! < 0
   ·rw[if_pos (by simp[h3,ltC];omega)]
    by_cases h4:c d[first+root]! d[first+(2*root+2)]! < 0
    ·obtain⟨y,em⟩:=Zld (i:=first+root) (x:=d[first+(2*root+2)]!) i2
     simp only[ZM,e0,e1,e2,Zix,ZhH,decide_eq_false h1,decide_eq_true h2,cond_false,cond_true,ef,ef1,ef2,er,Zcv i1,Zcv i2',Zcv ir,Zcv i2,Option.bind_some,c12,cr2,decide_eq_true h3,decide_eq_true h4,Int.toNat_natCast,em,Ziq]
     rw[if_neg (by simp[h4,ltC]),dif_pos h2]
     have:=ih (2*root+2) (swp d (first+root) (first+(2*root+2))) (by omega) (by omega) (by rw[ZaR];omega) (hd.swp ir i2)
     rw[ZaR] at this
     exact this
    ·simp only[ZM,e0,e1,e2,Zix,ZhH,decide_eq_false h1,decide_eq_true h2,cond_false,cond_true,ef,ef1,ef2,er,Zcv i1,Zcv i2',Zcv ir,Zcv i2,Option.bind_some,c12,cr2,decide_eq_true h3,decide_eq_false h4]
     rw[if_pos (by simp[h4,ltC])]
     exact one rfl (.inr rfl)
   ·rw[if_neg (by simp[h3,ltC])]
    by_cases h4:c d[first+root]! d[first+(2*root+1)]! < 0
    ·obtain⟨y,em⟩:=Zld (i:=first+root) (x:=d[first+(2*root+1)]!) i1
     simp only[ZM,e0,e1,e2,Zix,ZhH,decide_eq_false h1,decide_eq_true h2,cond_false,cond_true,ef,ef1,ef2,er,Zcv i1,Zcv i2',Zcv ir,Option.bind_some,c12,cr1,decide_eq_false h3,decide_eq_true h4,Int.toNat_natCast,em,Ziq]
     rw[if_neg (by simp[h4,ltC])]
     have:=ih (2*root+1) (swp d (first+root) (first+(2*root+1))) (by omega) (by omega) (by rw[ZaR];omega) (hd.swp ir i1)
     rw[ZaR] at this
     exact this
    ·simp only[ZM,e0,e1,e2,Zix,ZhH,decide_eq_false h1,decide_eq_true h2,cond_false,cond_true,ef,ef1,ef2,er,Zcv i1,Zcv i2',Zcv ir,Option.bind_some,c12,cr1,decide_eq_false h3,decide_eq_false h4]
     rw[if_pos (by simp[h4,ltC])]
     exact one rfl (.inr rfl)
  ·rw[if_neg (by simp;omega)]
   by_cases h4:c d[first+root]! d[first+(2*root+1)]! < 0
   ·obtain⟨y,em⟩:=Zld (i:=first+root) (x:=d[first+(2*root+1)]!) i1
    simp only[ZM,e0,e1,e2,Zix,ZhH,decide_eq_false h1,decide_eq_false h2,cond_false,cond_true,ef,er,Zcv i1,Zcv ir,Option.bind_some,cr1,decide_eq_true h4,Int.toNat_natCast,em,Ziq]
    rw[if_neg (by simp[h4,ltC])]
    have:=ih (2*root+1) (swp d (first+root) (first+(2*root+1))) (by omega) (by omega) (by rw[ZaR];omega) (hd.swp ir i1)
    rw[ZaR] at this
    exact this
   ·simp only[ZM,e0,e1,e2,Zix,ZhH,decide_eq_false h1,decide_eq_false h2,cond_false,cond_true,ef,er,Zcv i1,Zcv ir,Option.bind_some,cr1,decide_eq_false h4]
    rw[if_pos (by simp[h4,ltC])]
    exact one rfl (.inr rfl)
theorem Zyz (hi first root:Nat) (d:Array Int) (hr:root≤hi) (hs:first+hi≤d.size) (hd:OKA P d):ZaK (root:Int) (hi:Int) (first:Int) cmp d.toList=some (siftDown (ltC c) hi first root d).toList∧OKA P (siftDown (ltC c) hi first root d)∧(siftDown (ltC c) hi first root d).size=d.size:=by
 obtain⟨r,h1,h2,h3⟩:=ZyE hc hi first _ root d (Nat.le_refl _) hr hs hd
 unfold ZaK
 rw[h1]
 rcases h2 with rfl | rfl
 ·exact⟨rfl,h3⟩
 ·exact⟨rfl,h3⟩
theorem ZuG (hi first b:Nat) (hb:(b:Int)=first+hi):∀(k:Nat) (d:Array Int),k≤hi+1→first+hi≤d.size→OKA P d→lp (ZaG (first:Int) (b:Int) cmp) ((k:Int)-1,d.toList)=some (heapBuild (ltC c) hi first k d).toList∧OKA P (heapBuild (ltC c) hi first k d)∧(heapBuild (ltC c) hi first k d).size=d.size
 | 0,d,hk,hs,hd=>by
  rw[Zcl]
  simp only[ZaG,decide_eq_false (show ¬((0:Int)≤((0:Nat):Int)-1) by omega),cond_false]
  exact⟨rfl,hd,rfl⟩
 | k+1,d,hk,hs,hd=>by
  have hz:=hd.sz
  obtain⟨h1,h2,h3⟩:=Zyz hc hi first k d (by omega) hs hd
  have ih:=ZuG hi first b hb k (siftDown (ltC c) hi first k d) (by omega) (by rw[h3];exact hs) h2
  have e1:w64 ((b:Int)-(first:Int))=(hi:Int):=Zbh (by omega) (by omega)
  have e2:(((k+1:Nat):Int)-1)=(k:Int):=by omega
  have e3:w64 ((k:Int)-1)=(k:Int)-1:=ZdI (by omega) (by omega)
  rw[Zcl,e2]
  simp only[ZaG,decide_eq_true (show(0:Int)≤(k:Int) by omega),cond_true,e1,h1,Option.bind_some,e3]
  rw[← h3]
  exact ih
theorem ZzI (first:Nat):∀(k:Nat) (d:Array Int),first+k≤d.size→OKA P d→lp (ZaJ (first:Int) cmp) ((k:Int)-1,d.toList)=some (heapPop (ltC c) first k d).toList∧OKA P (heapPop (ltC c) first k d)∧(heapPop (ltC c) first k d).size=d.size
 | 0,d,hs,hd=>by
  rw[Zcl]
  simp only[ZaJ,decide_eq_false (show ¬((0:Int)≤((0:Nat):Int)-1) by omega),cond_false]
  exact⟨rfl,hd,rfl⟩
 | k+1,d,hs,hd=>by
  have hz:=hd.sz
  have i1:first+k<d.size:=by omega
  have i2:first<d.size:=by omega
  obtain⟨h1,h2,h3⟩:=Zyz hc k first 0 (swp d first (first+k)) (by omega) (by rw[ZaR];omega) (hd.swp i2 i1)
  rw[ZaR] at h3
  have ih:=ZzI first k (siftDown (ltC c) k first 0 (swp d first (first+k))) (by rw[h3];omega) h2
  have e2:(((k+1:Nat):Int)-1)=(k:Int):=by omega
  have e3:w64 ((k:Int)-1)=(k:Int)-1:=ZdI (by omega) (by omega)
  have e4:w64 ((first:Int)+(k:Int))=((first+k:Nat):Int):=Zbh (by omega) (by omega)
  obtain⟨y,em⟩:=Zld (i:=first) (x:=d[first+k]!) i1
  have h1':ZaK 0 (k:Int) (first:Int) cmp (swp d first (first+k)).toList=_:=h1
  rw[Zcl,e2]
  simp only[ZaJ,decide_eq_true (show(0:Int)≤(k:Int) by omega),cond_true,e4,Zcv i1,Zcv i2,Option.bind_some,Int.toNat_natCast,em,Ziq,h1',e3]
  rw[← h3]
  exact ih
theorem ZAo (a b:Nat) (d:Array Int) (ha:a≤b) (hb:b≤d.size) (hd:OKA P d):Zag (a:Int) (b:Int) cmp d.toList=some (heapSort (ltC c) d a b).toList∧OKA P (heapSort (ltC c) d a b)∧(heapSort (ltC c) d a b).size=d.size:=by
 have hz:=hd.sz
 have e1:w64 ((b:Int)-(a:Int))=((b-a:Nat):Int):=Zbh (by omega) (by omega)
 have e2:w64 (((b-a:Nat):Int)-1)=((b-a:Nat):Int)-1:=ZdI (by omega) (by omega)
 have e3:w64 (Int.tdiv (((b-a:Nat):Int)-1) 2)=(((b-a-1) / 2+1:Nat):Int)-1:=by
  by_cases h:b-a=0
  ·rw[h];rfl
  ·rw[Int.tdiv_eq_ediv_of_nonneg (by omega),ZdI (by omega) (by omega)]
   omega
 obtain⟨h1,h2,h3⟩:=ZuG hc (b-a) a b (by omega) ((b-a-1) / 2+1) d (by omega) (by omega) hd
 obtain⟨h4,h5,h6⟩:=ZzI hc a (b-a) (heapBuild (ltC c) (b-a) a ((b-a-1) / 2+1) d) (by rw[h3];omega) h2
 unfold Zag heapSort
 simp only[e1,e2,e3,h1,h4,Option.bind_some]
 exact⟨trivial,h5,by rw[h6,h3]⟩
end
end Go.Proofs.YtljgncbdagmeeaaDoor
namespace Go.Proofs.YtljgncbdagmeeaaDoor
open Go Go.Proofs.YtljgncbdagmeeaaDoorE Go.Sort
set_option linter.unusedVariables false
set_option linter.unusedSimpArgs false
theorem ZnY (step:Int→Option (Int⊕Int)) (p:Int→Bool) (d:Array Int) (j:Nat) (h:∀i:Nat,i≤j+2→step (i:Int)=some (bif decide (i≤j)&&p d[i]! then .inl ((i+1:Nat):Int) else .inr (i:Int))) :
  ∀(k i:Nat),j+2-i≤k→i≤j+2→lp step (i:Int)=some ((scanUp p d j i:Nat):Int)∧i≤scanUp p d j i∧scanUp p d j i≤max i (j+1):=by
 intro k
 induction k with
 | zero=>
  intro i hk hi
  rw[Zcl,h i hi]
  unfold scanUp
  rw[decide_eq_false (show ¬i≤j by omega)]
  simp[show ¬i≤j by omega]
  omega
 | succ k ih=>
  intro i hk hi
  rw[Zcl,h i hi]
  unfold scanUp
  by_cases h1:i≤j
  ·cases h2:p d[i]! with
   | true=>
    rw[decide_eq_true h1,if_pos (by simp[h1])]
    obtain⟨a1,a2,a3⟩:=ih (i+1) (by omega) (by omega)
    exact⟨a1,by omega,by omega⟩
   | false=>
    rw[decide_eq_true h1,if_neg (by simp)]
    exact⟨rfl,by omega,by omega⟩
  ·rw[decide_eq_false h1,if_neg (by simp[h1])]
   exact⟨rfl,by omega,by omega⟩
theorem ZjF (step:Int→Option (Int⊕Int)) (p:Int→Bool) (d:Array Int) (i:Nat) (hi:1≤i):∀(j:Nat),(∀k:Nat,k≤j→step (k:Int)=some (bif decide (i≤k)&&p d[k]! then .inl ((k:Int)-1) else .inr (k:Int)))→lp step (j:Int)=some ((scanDown p d i j:Nat):Int)∧scanDown p d i j≤j
 | 0,h=>by
  rw[Zcl,h 0 (Nat.le_refl _),decide_eq_false (show ¬i≤0 by omega)]
  exact⟨rfl,Nat.le_refl _⟩
 | j+1,h=>by
  rw[Zcl,h (j+1) (Nat.le_refl _)]
  unfold scanDown
  by_cases h1:i≤j+1
  ·cases h2:p d[j+1]! with
   | true=>
    rw[decide_eq_true h1,if_pos (by simp[h1])]
    have ih:=ZjF step p d i hi j (fun k hk=>h k (by omega))
    have e:(((j+1:Nat):Int)-1)=(j:Int):=by omega
    simp only[Bool.and_self,cond_true,e]
    exact⟨ih.1,by omega⟩
   | false=>
    rw[decide_eq_true h1,if_neg (by simp)]
    exact⟨rfl,Nat.le_refl _⟩
  ·rw[decide_eq_false h1,if_neg (by simp[h1])]
   exact⟨rfl,Nat.le_refl _⟩
section
variable {cmp:Int→Int→Option Int} {c:Int→Int→Int} {P:Int→Prop} (hc:Zqj cmp c P)
include hc
theorem Zv3 (a:Nat):∀(k i j:Nat) (d:Array Int),j+3-i≤k→1≤i→i≤j+2→j<d.size→a<d.size→OKA P d →
  lp (ZaZ (a:Int) cmp) ((i:Int),(j:Int),d.toList)=some (((partLoop (ltC c) a i j d).1:Int),(partLoop (ltC c) a i j d).2.toList)∧OKA P (partLoop (ltC c) a i j d).2∧(partLoop (ltC c) a i j d).2.size=d.size∧(partLoop (ltC c) a i j d).1≤j:=by
 intro k
 induction k with
 | zero=>
  intro i j d hk h1 h2 hj ha hd
  exact absurd hk (by omega)
 | succ k ih=>
  intro i j d hk h1 h2 hj ha hd
  have hz:=hd.sz
  obtain⟨u1,u2,u3⟩:=ZnY (ZaD (a:Int) cmp ((i:Int),(j:Int),d.toList)) (fun x=>ltC c x d[a]!) d j (fun m hm=>by
    by_cases hmj:m≤j
    ·have im:m<d.size:=by omega
     simp only[ZaD,Zix,decide_eq_true hmj,cond_true,Zcv im,Zcv ha,Option.bind_some,hc _ _ (hd.el _ im) (hd.el _ ha),ltC,Bool.true_and,Za1 (show m<j+1 by omega) (by omega)]
     cases decide (c d[m]! d[a]! < 0)<;>rfl
    ·simp only[ZaD,Zix,decide_eq_false hmj,cond_false,Bool.false_and]) (j+2-i) i (Nat.le_refl _) h2
  generalize hi2:scanUp (fun x=>ltC c x d[a]!) d j i=i2 at u1 u2 u3
  obtain⟨v1,v2⟩:=ZjF (Zaz (a:Int) cmp ((i:Int),(j:Int),d.toList) (i2:Int)) (fun x=>!ltC c x d[a]!) d i2 (by omega) j (fun m hm=>by
    have im:m<d.size:=by omega
    by_cases hmi:i2≤m
    ·simp only[Zaz,Zix,decide_eq_true hmi,cond_true,Zcv im,Zcv ha,Option.bind_some,hc _ _ (hd.el _ im) (hd.el _ ha),ltC,Bool.true_and,ZdI (show -9223372036854775808≤(m:Int)-1 by omega) (by omega)]
     cases decide (c d[m]! d[a]! < 0)<;>rfl
    ·simp only[Zaz,Zix,decide_eq_false hmi,cond_false,Bool.false_and])
  generalize hj2:scanDown (fun x=>!ltC c x d[a]!) d i2 j=j2 at v1 v2
  rw[Zcl]
  unfold partLoop
  simp only[ZaZ,u1,v1,Option.bind_some,ZhH,hi2,hj2]
  by_cases hij:j2<i2
  ·rw[decide_eq_true hij,if_pos hij]
   exact⟨rfl,hd,rfl,v2⟩
  ·have k1:i2<d.size:=by omega
   have k2:j2<d.size:=by omega
   obtain⟨y,em⟩:=Zld (i:=i2) (x:=d[j2]!) k2
   have e1:w64 ((i2:Int)+1)=((i2+1:Nat):Int):=Zbh (by omega) (by omega)
   have e2:w64 ((j2:Int)-1)=((j2-1:Nat):Int):=Zbh (by omega) (by omega)
   rw[decide_eq_false hij,if_neg hij,dif_pos (by omega)]
   simp only[cond_false,Zcv k1,Zcv k2,Option.bind_some,Int.toNat_natCast,em,Ziq,e1,e2]
   obtain⟨q1,q2,q3,q4⟩:=ih (i2+1) (j2-1) (swp d i2 j2) (by omega) (by omega) (by omega) (by rw[ZaR];omega) (by rw[ZaR];exact ha) (hd.swp k1 k2)
   rw[ZaR] at q3
   exact⟨q1,q2,q3,by omega⟩
theorem Zza (a b pivot:Nat) (d:Array Int) (h1:a≤pivot) (h2:pivot<b) (hb:b≤d.size) (hd:OKA P d) :
  Zr (a:Int) (b:Int) (pivot:Int) cmp d.toList=some (bif (partition (ltC c) d a b pivot).2.1 then .inl (((partition (ltC c) d a b pivot).1:Int),(partition (ltC c) d a b pivot).2.2.toList) else .inr (((partition (ltC c) d a b pivot).1:Int),(partition (ltC c) d a b pivot).2.2.toList)) ∧
  OKA P (partition (ltC c) d a b pivot).2.2∧(partition (ltC c) d a b pivot).2.2.size=d.size:=by
 have hz:=hd.sz
 have ip:pivot<d.size:=by omega
 have ia:a<d.size:=by omega
 have hd1:=hd.swp ia ip
 have s1:=ZaR d a pivot
 obtain⟨y,em⟩:=Zld (i:=a) (x:=d[pivot]!) ip
 have e1:w64 ((a:Int)+1)=((a+1:Nat):Int):=Zbh (by omega) (by omega)
 have e2:w64 ((b:Int)-1)=((b-1:Nat):Int):=Zbh (by omega) (by omega)
 have sw:=Ziq d a pivot
 have ia1:a<(swp d a pivot).size:=by omega
 obtain⟨u1,u2,u3⟩:=ZnY (ZaC (a:Int) (b:Int) (pivot:Int) d.toList cmp d[pivot]! d[a]!) (fun x=>ltC c x (swp d a pivot)[a]!) (swp d a pivot) (b-1) (fun m hm=>by
   by_cases hmj:m≤b-1
   ·have im:m<(swp d a pivot).size:=by omega
    simp only[ZaC,e2,Zix,decide_eq_true hmj,cond_true,Int.toNat_natCast,sw,Zcv im,Zcv ia1,Option.bind_some,hc _ _ (hd1.el _ im) (hd1.el _ ia1),ltC,Bool.true_and,Za1 (show m<b by omega) (by omega)]
    cases decide (c (swp d a pivot)[m]! (swp d a pivot)[a]! < 0)<;>rfl
   ·simp only[ZaC,e2,Zix,decide_eq_false hmj,cond_false,Bool.false_and]) (b-1+2-(a+1)) (a+1) (Nat.le_refl _) (by omega)
 generalize hi2:scanUp (fun x=>ltC c x (swp d a pivot)[a]!) (swp d a pivot) (b-1) (a+1)=i2 at u1 u2 u3
 obtain⟨v1,v2⟩:=ZjF (ZaA (a:Int) (pivot:Int) d.toList cmp d[pivot]! d[a]! (i2:Int)) (fun x=>!ltC c x (swp d a pivot)[a]!) (swp d a pivot) i2 (by omega) (b-1) (fun m hm=>by
   have im:m<(swp d a pivot).size:=by omega
   by_cases hmi:i2≤m
   ·simp only[ZaA,Zix,decide_eq_true hmi,cond_true,Int.toNat_natCast,sw,Zcv im,Zcv ia1,Option.bind_some,hc _ _ (hd1.el _ im) (hd1.el _ ia1),ltC,Bool.true_and,ZdI (show -9223372036854775808≤(m:Int)-1 by omega) (by omega)]
    cases decide (c (swp d a pivot)[m]! (swp d a pivot)[a]! < 0)<;>rfl
   ·simp only[ZaA,Zix,decide_eq_false hmi,cond_false,Bool.false_and])
 generalize hj2:scanDown (fun x=>!ltC c x (swp d a pivot)[a]!) (swp d a pivot) i2 (b-1)=j2 at v1 v2
 unfold Zr partition
 simp only[Zcv ip,Zcv ia,Option.bind_some,Int.toNat_natCast,em,e1,e2,u1,v1,ZhH,sw,hi2,hj2]
 have kj:j2<(swp d a pivot).size:=by omega
 by_cases hij:j2<i2
 ·obtain⟨y2,em2⟩:=Zld (i:=j2) (x:=(swp d a pivot)[a]!) ia1
  rw[decide_eq_true hij,if_pos hij]
  simp only[cond_true,Zcv ia1,Zcv kj,Option.bind_some,Int.toNat_natCast,em2,Ziq]
  exact⟨trivial,hd1.swp kj ia1,by rw[ZaR,s1]⟩
 ·have ki:i2<(swp d a pivot).size:=by omega
  obtain⟨y2,em2⟩:=Zld (i:=i2) (x:=(swp d a pivot)[j2]!) kj
  have e3:w64 ((i2:Int)+1)=((i2+1:Nat):Int):=Zbh (by omega) (by omega)
  have e4:w64 ((j2:Int)-1)=((j2-1:Nat):Int):=Zbh (by omega) (by omega)
  obtain⟨q1,q2,q3,q4⟩:=Zv3 hc a (j2-1+3-(i2+1)) (i2+1) (j2-1) (swp (swp d a pivot) i2 j2) (by omega) (by omega) (by omega) (by rw[ZaR];omega) (by rw[ZaR];exact ia1) (hd1.swp ki kj)
  rw[ZaR,s1] at q3
  rw[decide_eq_false hij,if_neg hij]
  simp only[cond_false,Zcv ki,Zcv kj,Option.bind_some,Int.toNat_natCast,em2,Ziq,e3,e4,q1]
  generalize partLoop (ltC c) a (i2+1) (j2-1) (swp (swp d a pivot) i2 j2)=r at *
  have kr:r.1<r.2.size:=by omega
  have kr2:a<r.2.size:=by omega
  obtain⟨y3,em3⟩:=Zld (i:=r.1) (x:=r.2[a]!) kr2
  simp only[Zcv kr,Zcv kr2,Option.bind_some,em3,Ziq]
  exact⟨trivial,q2.swp kr kr2,by rw[ZaR,q3]⟩
theorem Zs1 (a:Nat):∀(k i j:Nat) (d:Array Int),j+3-i≤k→1≤i→i≤j+2→j<d.size→a<d.size→OKA P d →
  lp (Zar (a:Int) cmp) ((i:Int),(j:Int),d.toList)=some (((partEqLoop (ltC c) a i j d).1:Int),(partEqLoop (ltC c) a i j d).2.toList)∧OKA P (partEqLoop (ltC c) a i j d).2∧(partEqLoop (ltC c) a i j d).2.size=d.size∧i≤(partEqLoop (ltC c) a i j d).1∧(partEqLoop (ltC c) a i j d).1≤max i (j+1):=by
 intro k
 induction k with
 | zero=>
  intro i j d hk h1 h2 hj ha hd
  exact absurd hk (by omega)
 | succ k ih=>
  intro i j d hk h1 h2 hj ha hd
  have hz:=hd.sz
  obtain⟨u1,u2,u3⟩:=ZnY (Zae (a:Int) cmp ((i:Int),(j:Int),d.toList)) (fun x=>!ltC c d[a]! x) d j (fun m hm=>by
    by_cases hmj:m≤j
    ·have im:m<d.size:=by omega
     simp only[Zae,Zix,decide_eq_true hmj,cond_true,Zcv im,Zcv ha,Option.bind_some,hc _ _ (hd.el _ ha) (hd.el _ im),ltC,Bool.true_and,Za1 (show m<j+1 by omega) (by omega)]
     cases decide (c d[a]! d[m]! < 0)<;>rfl
    ·simp only[Zae,Zix,decide_eq_false hmj,cond_false,Bool.false_and]) (j+2-i) i (Nat.le_refl _) h2
  generalize hi2:scanUp (fun x=>!ltC c d[a]! x) d j i=i2 at u1 u2 u3
  obtain⟨v1,v2⟩:=ZjF (Zaf (a:Int) cmp ((i:Int),(j:Int),d.toList) (i2:Int)) (fun x=>ltC c d[a]! x) d i2 (by omega) j (fun m hm=>by
    have im:m<d.size:=by omega
    by_cases hmi:i2≤m
    ·simp only[Zaf,Zix,decide_eq_true hmi,cond_true,Zcv im,Zcv ha,Option.bind_some,hc _ _ (hd.el _ ha) (hd.el _ im),ltC,Bool.true_and,ZdI (show -9223372036854775808≤(m:Int)-1 by omega) (by omega)]
     cases decide (c d[a]! d[m]! < 0)<;>rfl
    ·simp only[Zaf,Zix,decide_eq_false hmi,cond_false,Bool.false_and])
  generalize hj2:scanDown (fun x=>ltC c d[a]! x) d i2 j=j2 at v1 v2
  rw[Zcl]
  unfold partEqLoop
  simp only[Zar,u1,v1,Option.bind_some,ZhH,hi2,hj2]
  by_cases hij:j2<i2
  ·rw[decide_eq_true hij,if_pos hij]
   exact⟨rfl,hd,rfl,u2,u3⟩
  ·have k1:i2<d.size:=by omega
   have k2:j2<d.size:=by omega
   obtain⟨y,em⟩:=Zld (i:=i2) (x:=d[j2]!) k2
   have e1:w64 ((i2:Int)+1)=((i2+1:Nat):Int):=Zbh (by omega) (by omega)
   have e2:w64 ((j2:Int)-1)=((j2-1:Nat):Int):=Zbh (by omega) (by omega)
   rw[decide_eq_false hij,if_neg hij,dif_pos (by omega)]
   simp only[cond_false,Zcv k1,Zcv k2,Option.bind_some,Int.toNat_natCast,em,Ziq,e1,e2]
   obtain⟨q1,q2,q3,q4,q5⟩:=ih (i2+1) (j2-1) (swp d i2 j2) (by omega) (by omega) (by omega) (by rw[ZaR];omega) (by rw[ZaR];exact ha) (hd.swp k1 k2)
   rw[ZaR] at q3
   exact⟨q1,q2,q3,by omega,by omega⟩
theorem Zyb (a b pivot:Nat) (d:Array Int) (h1:a≤pivot) (h2:pivot<b) (hb:b≤d.size) (hd:OKA P d) :
  ZD (a:Int) (b:Int) (pivot:Int) cmp d.toList=some (((partitionEqual (ltC c) d a b pivot).1:Int),(partitionEqual (ltC c) d a b pivot).2.toList)∧OKA P (partitionEqual (ltC c) d a b pivot).2∧(partitionEqual (ltC c) d a b pivot).2.size=d.size∧a<(partitionEqual (ltC c) d a b pivot).1∧(partitionEqual (ltC c) d a b pivot).1≤b:=by
 have hz:=hd.sz
 have ip:pivot<d.size:=by omega
 have ia:a<d.size:=by omega
 obtain⟨y,em⟩:=Zld (i:=a) (x:=d[pivot]!) ip
 have e1:w64 ((a:Int)+1)=((a+1:Nat):Int):=Zbh (by omega) (by omega)
 have e2:w64 ((b:Int)-1)=((b-1:Nat):Int):=Zbh (by omega) (by omega)
 obtain⟨q1,q2,q3,q4,q5⟩:=Zs1 hc a (b-1+3-(a+1)) (a+1) (b-1) (swp d a pivot) (by omega) (by omega) (by omega) (by rw[ZaR];omega) (by rw[ZaR];omega) (hd.swp ia ip)
 rw[ZaR] at q3
 unfold ZD partitionEqual
 simp only[Zcv ip,Zcv ia,Option.bind_some,Int.toNat_natCast,em,e1,e2,Ziq,q1]
 exact⟨trivial,q2,q3,by omega,by omega⟩
end
end Go.Proofs.YtljgncbdagmeeaaDoor
namespace Go.Proofs.YtljgncbdagmeeaaDoor
open Go Go.Proofs.YtljgncbdagmeeaaDoorE Go.Sort
set_option linter.unusedVariables false
set_option linter.unusedSimpArgs false
def ZpW:Hint→Int
 | .unknown=>0
 | .increasing=>1
 | .decreasing=>2
theorem Zx4 (p:Int×Int) (n:Nat) (x:Int) (h:p.2=(n:Int)) (hx:p.1=x):(bif p.2==0 then some (p.1,(1:Int)) else bif p.2==12 then some (p.1,2) else some (p.1,0))=some (x,ZpW (if n=0 then Hint.increasing else if n=12 then .decreasing else .unknown)):=by
 rw[h,hx]
 by_cases h0:n=0
 ·subst h0;rfl
 ·by_cases h1:n=12
  ·subst h1;rfl
  ·rw[show((n:Int)==0)=false by simpa using h0,show((n:Int)==12)=false by simp;omega,if_neg h0,if_neg h1]
   rfl
section
variable {cmp:Int→Int→Option Int} {c:Int→Int→Int} {P:Int→Prop} (hc:Zqj cmp c P)
include hc
theorem ZzG:∀(j:Nat) (d:Array Int),OKA P d→j<d.size→lp (ZT cmp) ((j:Int),d.toList)=some (shiftDown (ltC c) j d).toList∧OKA P (shiftDown (ltC c) j d)∧(shiftDown (ltC c) j d).size=d.size
 | 0,d,hd,hj=>by
  rw[Zcl]
  simp only[ZT,decide_eq_false (show ¬((1:Int)≤((0:Nat):Int)) by omega),cond_false]
  exact⟨rfl,hd,rfl⟩
 | j+1,d,hd,hj=>by
  have hj':j<d.size:=by omega
  have hz:=hd.sz
  rw[Zcl]
  have e2:w64 (((j+1:Nat):Int)-1)=(j:Int):=Zbh (by omega) (by omega)
  have e3:=hc _ _ (hd.el (j+1) hj) (hd.el j hj')
  unfold shiftDown
  by_cases h2:c d[j+1]! d[j]! < 0
  ·obtain⟨y,e5⟩:=Zld (i:=j+1) (x:=d[j]!) hj'
   simp only[ZT,decide_eq_true (show(1:Int)≤((j+1:Nat):Int) by omega),cond_true,Zcv hj,e2,Zcv hj',Option.bind_some,e3,decide_eq_true h2,Int.toNat_natCast,e5,Ziq]
   rw[if_neg (by simp[h2,ltC])]
   have ih:=ZzG j (swp d (j+1) j) (hd.swp hj hj') (by rw[ZaR];omega)
   rw[ZaR] at ih
   exact ih
  ·simp only[ZT,decide_eq_true (show(1:Int)≤((j+1:Nat):Int) by omega),cond_true,Zcv hj,e2,Zcv hj',Option.bind_some,e3,decide_eq_false h2,cond_false]
   rw[if_pos (by simp[h2,ltC])]
   exact⟨rfl,hd,rfl⟩
theorem ZzH (b:Nat):∀(k j:Nat) (d:Array Int),b-j≤k→1≤j→b≤d.size→OKA P d→lp (ZH (b:Int) cmp) ((j:Int),d.toList)=some (shiftUp (ltC c) b j d).toList∧OKA P (shiftUp (ltC c) b j d)∧(shiftUp (ltC c) b j d).size=d.size:=by
 intro k
 induction k with
 | zero=>
  intro j d hk hj hb hd
  rw[Zcl]
  unfold shiftUp
  simp only[ZH,ZhH,decide_eq_false (show ¬j<b by omega),cond_false]
  rw[if_neg (by omega)]
  exact⟨rfl,hd,rfl⟩
 | succ k ih=>
  intro j d hk hj hb hd
  have hz:=hd.sz
  rw[Zcl]
  unfold shiftUp
  by_cases h1:j<b
  ·have i1:j<d.size:=by omega
   have i2:j-1<d.size:=by omega
   have e2:w64 ((j:Int)-1)=((j-1:Nat):Int):=Zbh (by omega) (by omega)
   have e3:=hc _ _ (hd.el j i1) (hd.el (j-1) i2)
   rw[if_pos h1]
   by_cases h2:c d[j]! d[j-1]! < 0
   ·obtain⟨y,e5⟩:=Zld (i:=j) (x:=d[j-1]!) i2
    simp only[ZH,ZhH,decide_eq_true h1,cond_true,Zcv i1,e2,Zcv i2,Option.bind_some,e3,decide_eq_true h2,Int.toNat_natCast,e5,Ziq,Za1 h1 (by omega)]
    rw[if_neg (by simp[h2,ltC])]
    have:=ih (j+1) (swp d j (j-1)) (by omega) (by omega) (by rw[ZaR];exact hb) (hd.swp i1 i2)
    rw[ZaR] at this
    exact this
   ·simp only[ZH,ZhH,decide_eq_true h1,cond_true,Zcv i1,e2,Zcv i2,Option.bind_some,e3,decide_eq_false h2,cond_false]
    rw[if_pos (by simp[h2,ltC])]
    exact⟨rfl,hd,rfl⟩
  ·simp only[ZH,ZhH,decide_eq_false h1,cond_false]
   rw[if_neg h1]
   exact⟨rfl,hd,rfl⟩
theorem Zwb (b:Nat) (z:Int) (d:Array Int) (hb:b≤d.size) (hd:OKA P d) (y1 y2:Int):∀(k i:Nat),b-i≤k→1≤i→i≤b→lp (ZK (b:Int) cmp (y1,y2,d.toList)) (i:Int)=some ((scanSorted (ltC c) d b i:Nat):Int)∧i≤scanSorted (ltC c) d b i∧scanSorted (ltC c) d b i≤b:=by
 have hz:=hd.sz
 intro k
 induction k with
 | zero=>
  intro i hk hi hib
  rw[Zcl]
  unfold scanSorted
  simp only[ZK,ZhH,decide_eq_false (show ¬i<b by omega),cond_false]
  rw[if_neg (by simp[show ¬i<b by omega])]
  exact⟨rfl,Nat.le_refl _,hib⟩
 | succ k ih=>
  intro i hk hi hib
  rw[Zcl]
  unfold scanSorted
  by_cases h1:i<b
  ·have i1:i<d.size:=by omega
   have i2:i-1<d.size:=by omega
   have e2:w64 ((i:Int)-1)=((i-1:Nat):Int):=Zbh (by omega) (by omega)
   have e3:=hc _ _ (hd.el i i1) (hd.el (i-1) i2)
   by_cases h2:c d[i]! d[i-1]! < 0
   ·simp only[ZK,ZhH,decide_eq_true h1,cond_true,Zcv i1,e2,Zcv i2,Option.bind_some,e3,decide_eq_true h2]
    rw[if_neg (by simp[h2,ltC])]
    exact⟨rfl,Nat.le_refl _,hib⟩
   ·simp only[ZK,ZhH,decide_eq_true h1,cond_true,Zcv i1,e2,Zcv i2,Option.bind_some,e3,decide_eq_false h2,cond_false,Za1 h1 (by omega)]
    rw[if_pos (by simp[h1,h2,ltC])]
    obtain⟨a1,a2,a3⟩:=ih (i+1) (by omega) (by omega) (by omega)
    exact⟨a1,by omega,a3⟩
  ·simp only[ZK,ZhH,decide_eq_false h1,cond_false]
   rw[if_neg (by simp[h1])]
   exact⟨rfl,Nat.le_refl _,hib⟩
theorem ZxR (a b:Nat):∀(s i:Nat) (d:Array Int),s≤5→a<i→i≤b→b≤d.size→OKA P d →
  ∃r,lp (ZS (a:Int) (b:Int) cmp) ((i:Int),((5-s:Nat):Int),d.toList)=some r∧(match r with | .inl l=>l=(partialIns (ltC c) a b s i d).1.toList∧(partialIns (ltC c) a b s i d).2=true | .inr (.inl l)=>l=(partialIns (ltC c) a b s i d).1.toList∧(partialIns (ltC c) a b s i d).2=false | .inr (.inr l)=>l=(partialIns (ltC c) a b s i d).1.toList∧(partialIns (ltC c) a b s i d).2=false) ∧
   OKA P (partialIns (ltC c) a b s i d).1∧(partialIns (ltC c) a b s i d).1.size=d.size
 | 0,i,d,hs,ha,hi,hb,hd=>by
  rw[Zcl]
  simp only[ZS,decide_eq_false (show ¬(((5-0:Nat):Int)<5) by omega),cond_false]
  exact⟨_,rfl,by simp[partialIns],by first | exact hd | (simpa [partialIns] using hd),by first | rfl | simp[partialIns]⟩
 | s+1,i,d,hs,ha,hi,hb,hd=>by
  have hz:=hd.sz
  obtain⟨u1,u2,u3⟩:=Zwb hc b 0 d hb hd (i:Int) ((5-(s+1):Nat):Int) (b-i) i (Nat.le_refl _) (by omega) hi
  rw[Zcl]
  unfold partialIns
  generalize hi2:scanSorted (ltC c) d b i=i2 at u1 u2 u3 ⊢
  simp only[ZS,decide_eq_true (show(((5-(s+1):Nat):Int)<5) by omega),cond_true,u1,Option.bind_some]
  by_cases h1:i2=b
  ·rw[show((i2:Int)==(b:Int))=true by simp[h1],if_pos h1]
   exact⟨_,rfl,by simp[partialIns],by first | exact hd | (simpa [partialIns] using hd),by first | rfl | simp[partialIns]⟩
  ·have e1:w64 ((b:Int)-(a:Int))=((b-a:Nat):Int):=Zbh (by omega) (by omega)
   rw[show((i2:Int)==(b:Int))=false by simpa using (show ¬(i2:Int)=(b:Int) by omega),if_neg h1]
   by_cases h2:b-a<50
   ·rw[if_pos h2]
    simp only[cond_false,e1,decide_eq_true (show((b-a:Nat):Int)<50 by omega),cond_true]
    exact⟨_,rfl,by simp[partialIns],by first | exact hd | (simpa [partialIns] using hd),by first | rfl | simp[partialIns]⟩
   ·rw[if_neg h2]
    have i1:i2<d.size:=by omega
    have i3:i2-1<d.size:=by omega
    have e2:w64 ((i2:Int)-1)=((i2-1:Nat):Int):=Zbh (by omega) (by omega)
    have e3:w64 ((i2:Int)-(a:Int))=((i2-a:Nat):Int):=Zbh (by omega) (by omega)
    have e4:w64 ((b:Int)-(i2:Int))=((b-i2:Nat):Int):=Zbh (by omega) (by omega)
    have e5:w64 ((i2:Int)+1)=((i2+1:Nat):Int):=Zbh (by omega) (by omega)
    have e6:w64 (((5-(s+1):Nat):Int)+1)=((5-s:Nat):Int):=Zbh (by omega) (by omega)
    obtain⟨y,em⟩:=Zld (i:=i2) (x:=d[i2-1]!) i3
    have hd2:=hd.swp i1 i3
    simp only[cond_false,e1,decide_eq_false (show ¬((b-a:Nat):Int)<50 by omega),e2,Zcv i1,Zcv i3,Option.bind_some,Int.toNat_natCast,em,Ziq,e3,e4,e5,e6]
    have n2:∀n:Nat,decide ((2:Int)≤(n:Int))=decide (n ≥ 2):=fun n=>decide_eq_decide.2 (by omega)
    rw[n2,n2]
    have go:∀d':Array Int,OKA P d'→d'.size=d.size→∃r,lp (ZS (a:Int) (b:Int) cmp) ((i2:Int),((5-s:Nat):Int),d'.toList)=some r∧(match r with | .inl l=>l=(partialIns (ltC c) a b s i2 d').1.toList∧(partialIns (ltC c) a b s i2 d').2=true | .inr (.inl l)=>l=(partialIns (ltC c) a b s i2 d').1.toList∧(partialIns (ltC c) a b s i2 d').2=false | .inr (.inr l)=>l=(partialIns (ltC c) a b s i2 d').1.toList∧(partialIns (ltC c) a b s i2 d').2=false) ∧
      OKA P (partialIns (ltC c) a b s i2 d').1∧(partialIns (ltC c) a b s i2 d').1.size=d.size:=fun d' h h'=>by
     have:=ZxR a b s i2 d' (by omega) (by omega) u3 (by omega) h
     rw[h'] at this
     exact this
    by_cases h3:i2-a ≥ 2
    ·obtain⟨v1,v2,v3⟩:=ZzG hc (i2-1) (swp d i2 (i2-1)) hd2 (by rw[ZaR];exact i3)
     rw[ZaR] at v3
     rw[decide_eq_true h3,if_pos h3]
     simp only[cond_true,v1,Option.bind_some]
     by_cases h4:b-i2 ≥ 2
     ·obtain⟨w1,w2,w3⟩:=ZzH hc b (b-(i2+1)) (i2+1) (shiftDown (ltC c) (i2-1) (swp d i2 (i2-1))) (Nat.le_refl _) (by omega) (by omega) v2
      rw[decide_eq_true h4,if_pos h4]
      simp only[cond_true,w1,Option.bind_some]
      exact go _ w2 (by omega)
     ·rw[decide_eq_false h4,if_neg h4]
      exact go _ v2 v3
    ·rw[decide_eq_false h3,if_neg h3]
     simp only[cond_false]
     by_cases h4:b-i2 ≥ 2
     ·obtain⟨w1,w2,w3⟩:=ZzH hc b (b-(i2+1)) (i2+1) (swp d i2 (i2-1)) (Nat.le_refl _) (by omega) (by rw[ZaR];omega) hd2
      rw[ZaR] at w3
      rw[decide_eq_true h4,if_pos h4]
      simp only[cond_true,w1,Option.bind_some]
      exact go _ w2 w3
     ·rw[decide_eq_false h4,if_neg h4]
      exact go _ hd2 (ZaR _ _ _)
theorem ZzQ (a b:Nat) (d:Array Int) (h1:a<b) (hb:b≤d.size) (hd:OKA P d) :
  ZP (a:Int) (b:Int) cmp d.toList=some (bif (partialInsertionSort (ltC c) d a b).2 then .inl (partialInsertionSort (ltC c) d a b).1.toList else .inr (partialInsertionSort (ltC c) d a b).1.toList)∧OKA P (partialInsertionSort (ltC c) d a b).1∧(partialInsertionSort (ltC c) d a b).1.size=d.size:=by
 have hz:=hd.sz
 obtain⟨r,e,h2,h3⟩:=ZxR hc a b 5 (a+1) d (Nat.le_refl _) (by omega) (by omega) hb hd
 unfold ZP partialInsertionSort
 have e0:((5-5:Nat):Int)=0:=rfl
 rw[e0] at e
 rw[Zbh (n:=a+1) (by omega) (by omega),e]
 refine⟨?_,h3⟩
 rcases r with l | l | l
 ·obtain⟨rfl,h⟩:=h2;rw[h];rfl
 ·obtain⟨rfl,h⟩:=h2;rw[h];rfl
 ·obtain⟨rfl,h⟩:=h2;rw[h];rfl
theorem ZxI (d:Array Int) (hd:OKA P d) (a b n:Nat) (ha:a<d.size) (hb:b<d.size) (hn:n<1000):ZaX (a:Int) (b:Int) cmp d.toList (n:Int)=some (((order2 (ltC c) d a b n).1:Int),((order2 (ltC c) d a b n).2.1:Int),((order2 (ltC c) d a b n).2.2:Int)) ∧
  (order2 (ltC c) d a b n).1<d.size∧(order2 (ltC c) d a b n).2.1<d.size∧(order2 (ltC c) d a b n).2.2≤n+1:=by
 unfold ZaX order2
 simp only[Zcv ha,Zcv hb,Option.bind_some,hc _ _ (hd.el b hb) (hd.el a ha)]
 by_cases h:c d[b]! d[a]! < 0
 ·rw[if_pos (by simp[h,ltC]),decide_eq_true h,Zbh (n:=n+1) (by omega) (by omega)]
  exact⟨rfl,hb,ha,Nat.le_refl _⟩
 ·rw[if_neg (by simp[h,ltC]),decide_eq_false h]
  exact⟨rfl,ha,hb,Nat.le_succ _⟩
theorem Zwr (d:Array Int) (hd:OKA P d) (i j k n:Nat) (hi:i<d.size) (hj:j<d.size) (hk:k<d.size) (hn:n<990):ZaW (i:Int) (j:Int) (k:Int) cmp d.toList (n:Int)=some (((median (ltC c) d i j k n).1:Int),((median (ltC c) d i j k n).2:Int))∧(median (ltC c) d i j k n).1<d.size∧(median (ltC c) d i j k n).2≤n+3:=by
 obtain⟨a1,a2,a3,a4⟩:=ZxI hc d hd i j n hi hj (by omega)
 obtain⟨b1,b2,b3,b4⟩:=ZxI hc d hd (order2 (ltC c) d i j n).2.1 k (order2 (ltC c) d i j n).2.2 a3 hk (by omega)
 obtain⟨c1,c2,c3,c4⟩:=ZxI hc d hd (order2 (ltC c) d i j n).1 (order2 (ltC c) d (order2 (ltC c) d i j n).2.1 k (order2 (ltC c) d i j n).2.2).1 (order2 (ltC c) d (order2 (ltC c) d i j n).2.1 k (order2 (ltC c) d i j n).2.2).2.2 a2 b2 (by omega)
 unfold ZaW median
 simp only[a1,b1,c1,Option.bind_some]
 exact⟨trivial,c3,by omega⟩
theorem Zwg (d:Array Int) (hd:OKA P d) (i n:Nat) (h1:1≤i) (hi:i+1<d.size) (hn:n<990):Zad (i:Int) cmp d.toList (n:Int)=some (((medianAdjacent (ltC c) d i n).1:Int),((medianAdjacent (ltC c) d i n).2:Int))∧(medianAdjacent (ltC c) d i n).1<d.size∧(medianAdjacent (ltC c) d i n).2≤n+3:=by
 have hz:=hd.sz
 obtain⟨a1,a2⟩:=Zwr hc d hd (i-1) i (i+1) n (by omega) (by omega) hi hn
 unfold Zad medianAdjacent
 rw[Zbh (n:=i-1) (by omega) (by omega),Zbh (n:=i+1) (by omega) (by omega),a1]
 exact⟨rfl,a2⟩
theorem ZzP (a b:Nat) (d:Array Int) (hab:a<b) (hb:b≤d.size) (hd:OKA P d):ZU (a:Int) (b:Int) cmp d.toList=some (((choosePivot (ltC c) d a b).1:Int),ZpW (choosePivot (ltC c) d a b).2):=by
 have hz:=hd.sz
 have e1:w64 ((b:Int)-(a:Int))=((b-a:Nat):Int):=Zbh (by omega) (by omega)
 have e2:w64 (Int.tdiv ((b-a:Nat):Int) 4)=(((b-a) / 4:Nat):Int):=by
  rw[Int.tdiv_eq_ediv_of_nonneg (by omega)]
  exact Zbh (by omega) (by omega)
 have q:∀m:Nat,m≤3→w64 ((((b-a) / 4:Nat):Int)*(m:Int))=(((b-a) / 4*m:Nat):Int):=fun m hm=>by
  refine Zbh (by rw[Int.natCast_mul]) ?_
  have:(b-a) / 4*m≤(b-a) / 4*3:=Nat.mul_le_mul_left _ hm
  omega
 have q1:=q 1 (by omega)
 have q2:=q 2 (by omega)
 have q3:=q 3 (by omega)
 have p:∀m:Nat,m≤3→w64 ((a:Int)+(((b-a) / 4*m:Nat):Int))=((a+(b-a) / 4*m:Nat):Int):=fun m hm=>by
  refine Zbh (by omega) ?_
  have:(b-a) / 4*m≤(b-a) / 4*3:=Nat.mul_le_mul_left _ hm
  omega
 have p1:=p 1 (by omega)
 have p2:=p 2 (by omega)
 have p3:=p 3 (by omega)
 unfold ZU choosePivot
 have q1':w64 ((((b-a) / 4:Nat):Int)*1)=_:=q1
 have q2':w64 ((((b-a) / 4:Nat):Int)*2)=_:=q2
 have q3':w64 ((((b-a) / 4:Nat):Int)*3)=_:=q3
 simp only[e1,e2,q1',q2',q3',p1,p2,p3]
 have z:((0:Nat):Int)=0:=rfl
 by_cases h8:b-a ≥ 8
 ·rw[decide_eq_true (show(8:Int)≤((b-a:Nat):Int) by omega),if_pos h8]
  by_cases h50:b-a ≥ 50
  ·obtain⟨m1,m2,m3⟩:=Zwg hc d hd (a+(b-a) / 4*1) 0 (by omega) (by omega) (by omega)
   obtain⟨n1,n2,n3⟩:=Zwg hc d hd (a+(b-a) / 4*2) (medianAdjacent (ltC c) d (a+(b-a) / 4*1) 0).2 (by omega) (by omega) (by omega)
   obtain⟨o1,o2,o3⟩:=Zwg hc d hd (a+(b-a) / 4*3) (medianAdjacent (ltC c) d (a+(b-a) / 4*2) (medianAdjacent (ltC c) d (a+(b-a) / 4*1) 0).2).2 (by omega) (by omega) (by omega)
   obtain⟨r1,r2,r3⟩:=Zwr hc d hd _ _ _ (medianAdjacent (ltC c) d (a+(b-a) / 4*3) (medianAdjacent (ltC c) d (a+(b-a) / 4*2) (medianAdjacent (ltC c) d (a+(b-a) / 4*1) 0).2).2).2 m2 n2 o2 (by omega)
   rw[z] at m1
   rw[decide_eq_true (show(50:Int)≤((b-a:Nat):Int) by omega),if_pos h50]
   simp only[cond_true,m1,n1,o1,r1,Option.bind_some]
   exact Zx4 (_,_) _ _ rfl rfl
  ·obtain⟨r1,r2,r3⟩:=Zwr hc d hd (a+(b-a) / 4*1) (a+(b-a) / 4*2) (a+(b-a) / 4*3) 0 (by omega) (by omega) (by omega) (by omega)
   rw[z] at r1
   rw[decide_eq_false (show ¬(50:Int)≤((b-a:Nat):Int) by omega),if_neg h50]
   simp only[cond_true,cond_false,r1,Option.bind_some]
   exact Zx4 (_,_) _ _ rfl rfl
 ·rw[decide_eq_false (show ¬(8:Int)≤((b-a:Nat):Int) by omega),if_neg h8]
  rfl
end
theorem ZAR {P:Int→Prop}:∀(k i j:Nat) (d:Array Int),j-i≤k→j<d.size∨j≤i→OKA P d→lp Zaa ((i:Int),(j:Int),d.toList)=some (reverseLoop i j d).toList∧OKA P (reverseLoop i j d)∧(reverseLoop i j d).size=d.size:=by
 intro k
 induction k with
 | zero=>
  intro i j d hk hj hd
  rw[Zcl]
  unfold reverseLoop
  simp only[Zaa,ZhH,decide_eq_false (show ¬i<j by omega),cond_false]
  rw[if_neg (by omega)]
  exact⟨rfl,hd,rfl⟩
 | succ k ih=>
  intro i j d hk hj hd
  have hz:=hd.sz
  rw[Zcl]
  unfold reverseLoop
  by_cases h:i<j
  ·have i1:j<d.size:=by omega
   have i2:i<d.size:=by omega
   obtain⟨y,em⟩:=Zld (i:=i) (x:=d[j]!) i1
   have e2:w64 ((j:Int)-1)=((j-1:Nat):Int):=Zbh (by omega) (by omega)
   simp only[Zaa,ZhH,decide_eq_true h,cond_true,Zcv i1,Zcv i2,Option.bind_some,Int.toNat_natCast,em,Ziq,Za1 h (by omega),e2]
   rw[if_pos h]
   have:=ih (i+1) (j-1) (swp d i j) (by omega) (by rw[ZaR];omega) (hd.swp i2 i1)
   rw[ZaR] at this
   exact this
  ·simp only[Zaa,ZhH,decide_eq_false h,cond_false]
   rw[if_neg h]
   exact⟨rfl,hd,rfl⟩
theorem ZxM {P:Int→Prop} (cmp:Int→Int→Option Int) (a b:Nat) (d:Array Int) (hab:a<b) (hb:b≤d.size) (hd:OKA P d):ZO (a:Int) (b:Int) cmp d.toList=some (reverseRange d a b).toList∧OKA P (reverseRange d a b)∧(reverseRange d a b).size=d.size:=by
 have hz:=hd.sz
 obtain⟨h1,h2⟩:=ZAR (b-1-a) a (b-1) d (Nat.le_refl _) (by omega) hd
 unfold ZO reverseRange
 rw[Zbh (n:=b-1) (by omega) (by omega)]
 simp only[h1,Option.bind_some]
 exact⟨trivial,h2⟩
end Go.Proofs.YtljgncbdagmeeaaDoor
namespace Go.Proofs.YtljgncbdagmeeaaDoor
open Go Go.Proofs.YtljgncbdagmeeaaDoorE Go.Sort
set_option linter.unusedVariables false
set_option linter.unusedSimpArgs false
theorem ZsK (n:Int):IntKind.u64.wrap n=n % 18446744073709551616:=by
 show(if (false&&decide (n % 18446744073709551616 ≥ 9223372036854775808))=true then n % 18446744073709551616-18446744073709551616 else n % 18446744073709551616)=_
 simp
theorem ZiP {n:Nat} (h:n<18446744073709551616):IntKind.u64.wrap (n:Int)=(n:Int):=by rw[ZsK];omega
def ZrD (a b:Int):Int:=IntKind.u64.wrap (BitVec.ofInt IntKind.u64.bits a ^^^ BitVec.ofInt IntKind.u64.bits b).toNat
def Zwh (a b:Int):Int:=IntKind.u64.wrap (BitVec.ofInt IntKind.u64.bits a &&& BitVec.ofInt IntKind.u64.bits b).toNat
def xs (r:Int):Int:=ZrD (ZrD (ZrD r (IntKind.u64.wrap (r*2 ^ 13))) (Int.fdiv (ZrD r (IntKind.u64.wrap (r*2 ^ 13))) (2 ^ 7))) (IntKind.u64.wrap (ZrD (ZrD r (IntKind.u64.wrap (r*2 ^ 13))) (Int.fdiv (ZrD r (IntKind.u64.wrap (r*2 ^ 13))) (2 ^ 7))*2 ^ 17))
theorem Zrg (u:UInt64):BitVec.ofInt IntKind.u64.bits (u.toNat:Int)=u.toBitVec:=by
 show BitVec.ofInt 64 (u.toNat:Int)=u.toBitVec
 rw[BitVec.ofInt_natCast]
 apply BitVec.eq_of_toNat_eq
 rw[BitVec.toNat_ofNat]
 exact Nat.mod_eq_of_lt u.toNat_lt
theorem Zxz (u v:UInt64):ZrD (u.toNat:Int) (v.toNat:Int)=((u ^^^ v).toNat:Int):=by
 unfold ZrD
 rw[Zrg,Zrg]
 exact ZiP (u ^^^ v).toNat_lt
theorem ZzF (u:UInt64) (k:Nat) (v:UInt64) (hk:v.toNat % 64=k):IntKind.u64.wrap ((u.toNat:Int)*2 ^ k)=((u <<< v).toNat:Int):=by
 rw[ZsK,UInt64.toNat_shiftLeft,hk,Nat.shiftLeft_eq]
 have:((2:Int) ^ k)=((2 ^ k:Nat):Int):=by rw[Int.natCast_pow];rfl
 rw[this]
 omega
theorem ZBD (u:UInt64) (k:Nat) (v:UInt64) (hk:v.toNat % 64=k):Int.fdiv (u.toNat:Int) (2 ^ k)=((u >>> v).toNat:Int):=by
 have e:((2:Int) ^ k)=((2 ^ k:Nat):Int):=by rw[Int.natCast_pow];rfl
 rw[UInt64.toNat_shiftRight,hk,Nat.shiftRight_eq_div_pow,e,Int.fdiv_eq_ediv_of_nonneg _ (Int.natCast_nonneg _)]
 exact(Int.natCast_ediv _ _).symm
theorem ZBI (u:UInt64):xs (u.toNat:Int)=((xorNext u).toNat:Int):=by
 unfold xs xorNext
 rw[ZzF u 13 13 rfl,Zxz,ZBD _ 7 7 rfl,Zxz,ZzF _ 17 17 rfl,Zxz]
theorem Zze (u:UInt64) (m:Nat) (hm:m<18446744073709551616):Zwh (u.toNat:Int) (m:Int)=((u.toNat &&& m:Nat):Int):=by
 unfold Zwh
 rw[Zrg]
 have:BitVec.ofInt IntKind.u64.bits (m:Int)=BitVec.ofNat 64 m:=BitVec.ofInt_natCast _ _
 rw[this]
 show IntKind.u64.wrap ((((u.toBitVec &&& BitVec.ofNat 64 m:BitVec 64)).toNat:Nat):Int)=_
 rw[BitVec.toNat_and,BitVec.toNat_ofNat,Nat.mod_eq_of_lt hm]
 refine ZiP (Nat.lt_of_le_of_lt Nat.and_le_left u.toNat_lt)
theorem Zv2:((List.range 1001).all fun n=>(match Zet (IntKind.u64.wrap (n:Int)) with | some v=>v==(bitsLen n:Int) | none=>false)&&((match Zcx (n:Int) with | some v=>v==((1 <<< bitsLen n:Nat):Int) | none=>false)&&(decide (1 <<< bitsLen n≤2*n) || n==0)))=true:=by kernel_rfl
theorem Zxn {n:Nat} (h:n≤1000):Zet (IntKind.u64.wrap (n:Int))=some (bitsLen n:Int)∧Zcx (n:Int)=some ((1 <<< bitsLen n:Nat):Int)∧(0<n→1 <<< bitsLen n≤2*n):=by
 have:=List.all_eq_true.1 Zv2 n (by simp;omega)
 simp only[Bool.and_eq_true,Bool.or_eq_true,decide_eq_true_eq,beq_iff_eq] at this
 obtain⟨h1,h2,h3⟩:=this
 refine⟨?_,?_,fun h=>by omega⟩
 ·split at h1
  ·rename_i v hv;rw[hv,eq_of_beq h1]
  ·cases h1
 ·split at h2
  ·rename_i v hv;rw[hv,eq_of_beq h2]
  ·cases h2
def ZoJ (s:Int×List Int×Int) (o:Int):Option ((Int×List Int×Int)⊕List Int):=
 (Zy s.2.1 o).bind fun x3=>(Zy s.2.1 s.1).bind fun x4=>(Zy (List.set s.2.1 s.1.toNat x3) o).bind fun _=>some (Sum.inl (w64 (s.1+1),List.set (List.set s.2.1 s.1.toNat x3) o.toNat x4,xs s.2.2))
theorem ZzS (b c x0:Int) (s:Int×List Int×Int):Zax b c x0 s=(bif (decide (s.1≤(w64 ((w64 (b+(w64 ((w64 (Int.tdiv (w64 (c-b)) 4))*2))))+1)))) then
  ZdC.bind fun _=>bif decide (w64 (c-b)≤w64 (Zwh (xs s.2.2) (IntKind.u64.wrap (x0-1)))) then ZoJ s (w64 (b+w64 (w64 (Zwh (xs s.2.2) (IntKind.u64.wrap (x0-1)))-w64 (c-b)))) else ZoJ s (w64 (b+w64 (Zwh (xs s.2.2) (IntKind.u64.wrap (x0-1)))))
 else some (.inr s.2.1)):=rfl
theorem ZsI {P:Int→Prop} (d:Array Int) (hd:OKA P d) (i o:Nat) (u:UInt64) (hi:i<d.size) (ho:o<d.size):ZoJ ((i:Int),d.toList,(u.toNat:Int)) (o:Int)=some (.inl (((i+1:Nat):Int),(swp d i o).toList,((xorNext u).toNat:Int))):=by
 have hz:=hd.sz
 obtain⟨y,em⟩:=Zld (i:=i) (x:=d[o]!) ho
 unfold ZoJ
 simp only[Zcv ho,Zcv hi,Option.bind_some,Int.toNat_natCast,em,Ziq,ZBI,Za1 hi (by omega)]
theorem Zrx {P:Int→Prop} (a b:Nat) (d:Array Int) (hd:OKA P d) (h8:8≤b-a) (hb:b≤d.size) (i:Nat) (hi:i≤a+(b-a) / 4*2+1) (u:UInt64) :
  Zax (a:Int) (b:Int) ((1 <<< bitsLen (b-a):Nat):Int) ((i:Int),d.toList,(u.toNat:Int))=some (.inl (((i+1:Nat):Int),(breakStep a (b-a) (1 <<< bitsLen (b-a)) (u,d) i).2.toList,((breakStep a (b-a) (1 <<< bitsLen (b-a)) (u,d) i).1.toNat:Int))) ∧
  OKA P (breakStep a (b-a) (1 <<< bitsLen (b-a)) (u,d) i).2∧(breakStep a (b-a) (1 <<< bitsLen (b-a)) (u,d) i).2.size=d.size:=by
 have hz:=hd.sz
 obtain⟨_,_,l3⟩:=Zxn (show b-a≤1000 by omega)
 have l4:=l3 (by omega)
 have l5:0<1 <<< bitsLen (b-a):=by rw[Nat.shiftLeft_eq,Nat.one_mul];exact Nat.pow_pos (by omega)
 generalize hm:1 <<< bitsLen (b-a)=m at *
 have e1:w64 ((b:Int)-(a:Int))=((b-a:Nat):Int):=Zbh (by omega) (by omega)
 have e2:w64 (Int.tdiv ((b-a:Nat):Int) 4)=(((b-a) / 4:Nat):Int):=by
  rw[Int.tdiv_eq_ediv_of_nonneg (by omega)]
  exact Zbh (by omega) (by omega)
 have e3:w64 ((((b-a) / 4:Nat):Int)*2)=(((b-a) / 4*2:Nat):Int):=Zbh (by omega) (by omega)
 have e4:w64 ((a:Int)+(((b-a) / 4*2:Nat):Int))=((a+(b-a) / 4*2:Nat):Int):=Zbh (by omega) (by omega)
 have e5:w64 (((a+(b-a) / 4*2:Nat):Int)+1)=((a+(b-a) / 4*2+1:Nat):Int):=Zbh (by omega) (by omega)
 have e6:IntKind.u64.wrap ((m:Int)-1)=((m-1:Nat):Int):=by
  rw[show(m:Int)-1=((m-1:Nat):Int) by omega];exact ZiP (by omega)
 have hand:(xorNext u).toNat &&& (m-1)≤m-1:=Nat.and_le_right
 have e7:w64 (((xorNext u).toNat &&& (m-1):Nat):Int)=(((xorNext u).toNat &&& (m-1):Nat):Int):=Zbh rfl (by omega)
 have ii:i<d.size:=by omega
 rw[ZzS]
 unfold breakStep
 simp only[e1,e2,e3,e4,e5,Zix,decide_eq_true hi,cond_true,ZBI,e6,Zze _ (m-1) (by omega),e7]
 generalize (xorNext u).toNat &&& (m-1)=o at *
 show(bif decide (b-a≤o) then _ else _)=_∧_
 by_cases ho:b-a≤o
 ·have e8:w64 ((o:Int)-((b-a:Nat):Int))=((o-(b-a):Nat):Int):=Zbh (by omega) (by omega)
  have e9:w64 ((a:Int)+((o-(b-a):Nat):Int))=((a+(o-(b-a)):Nat):Int):=Zbh (by omega) (by omega)
  rw[decide_eq_true ho,if_pos ho]
  simp only[cond_true,e8,e9]
  exact⟨ZsI d hd i _ u ii (by omega),hd.swp ii (by omega),ZaR _ _ _⟩
 ·have e9:w64 ((a:Int)+(o:Int))=((a+o:Nat):Int):=Zbh (by omega) (by omega)
  rw[decide_eq_false ho,if_neg ho]
  simp only[cond_false,e9]
  exact⟨ZsI d hd i _ u ii (by omega),hd.swp ii (by omega),ZaR _ _ _⟩
theorem ZDt {P:Int→Prop} (cmp:Int→Int→Option Int) (a b:Nat) (d:Array Int) (hab:a≤b) (hb:b≤d.size) (hd:OKA P d):Zah (a:Int) (b:Int) cmp d.toList=some (breakPatterns d a b).toList∧OKA P (breakPatterns d a b)∧(breakPatterns d a b).size=d.size:=by
 have hz:=hd.sz
 have e1:w64 ((b:Int)-(a:Int))=((b-a:Nat):Int):=Zbh (by omega) (by omega)
 unfold Zah breakPatterns
 simp only[e1]
 by_cases h8:8≤b-a
 ·obtain⟨_,l2,_⟩:=Zxn (show b-a≤1000 by omega)
  have e2:w64 (Int.tdiv ((b-a:Nat):Int) 4)=(((b-a) / 4:Nat):Int):=by
   rw[Int.tdiv_eq_ediv_of_nonneg (by omega)]
   exact Zbh (by omega) (by omega)
  have e3:w64 ((((b-a) / 4:Nat):Int)*2)=(((b-a) / 4*2:Nat):Int):=Zbh (by omega) (by omega)
  have e4:w64 ((a:Int)+(((b-a) / 4*2:Nat):Int))=((a+(b-a) / 4*2:Nat):Int):=Zbh (by omega) (by omega)
  have e5:w64 (((a+(b-a) / 4*2:Nat):Int)-1)=((a+(b-a) / 4*2-1:Nat):Int):=Zbh (by omega) (by omega)
  have e6:IntKind.u64.wrap ((b-a:Nat):Int)=((UInt64.ofNat (b-a)).toNat:Int):=by
   rw[ZiP (by omega),UInt64.toNat_ofNat_of_lt' (by show b-a<2 ^ 64;omega)]
  rw[decide_eq_true (show(8:Int)≤((b-a:Nat):Int) by omega),if_pos h8]
  simp only[cond_true,l2,Option.bind_some,e2,e3,e4,e5,e6]
  generalize hi0:a+(b-a) / 4*2-1=i0
  obtain⟨p1,p2,p3⟩:=Zrx a b d hd h8 hb i0 (by omega) (UInt64.ofNat (b-a))
  generalize breakStep a (b-a) (1 <<< bitsLen (b-a)) (UInt64.ofNat (b-a),d) i0=r1 at *
  obtain⟨q1,q2,q3⟩:=Zrx a b r1.2 p2 h8 (by omega) (i0+1) (by omega) r1.1
  generalize breakStep a (b-a) (1 <<< bitsLen (b-a)) (r1.1,r1.2) (i0+1)=r2 at *
  obtain⟨s1,s2,s3⟩:=Zrx a b r2.2 q2 h8 (by omega) (i0+2) (by omega) r2.1
  generalize breakStep a (b-a) (1 <<< bitsLen (b-a)) (r2.1,r2.2) (i0+2)=r3 at *
  rw[Zpf p1,Zpf q1,Zpf s1,Zzj (r:=r3.2.toList)]
  ·exact⟨rfl,s2,by omega⟩
  ·rw[ZzS]
   have e7:w64 (((a+(b-a) / 4*2:Nat):Int)+1)=((a+(b-a) / 4*2+1:Nat):Int):=Zbh (by omega) (by omega)
   simp only[e1,e2,e3,e4,e7,Zix,decide_eq_false (show ¬i0+2+1≤a+(b-a) / 4*2+1 by omega),cond_false]
 ·rw[decide_eq_false (show ¬(8:Int)≤((b-a:Nat):Int) by omega),if_neg h8]
  exact⟨rfl,hd,rfl⟩
end Go.Proofs.YtljgncbdagmeeaaDoor
namespace Go.Proofs.YtljgncbdagmeeaaDoor
open Go Go.Proofs.YtljgncbdagmeeaaDoorE Go.Sort
set_option linter.unusedVariables false
set_option linter.unusedSimpArgs false
abbrev ZyV:=Int×Int×Int×Bool×Bool×List Int
noncomputable def ZtX (e:Int→Int→Option Int) (rc:Int→Int→Int→(Int→Int→Option Int)→List Int→Option (List Int)) (a b limit pivot:Int) (x5:List Int):Option (ZyV⊕List Int):=
 (Zr a b pivot e x5).bind fun x9=>
 match x9 with
 | .inl x9=>
  bif decide (w64 (x9.1-a)<w64 (b-x9.1)) then
   bif decide (w64 (Int.tdiv (w64 (b-a)) 8)≤w64 (x9.1-a)) then (rc a x9.1 limit e x9.2).bind fun x10=>some (.inl (w64 (x9.1+1),b,limit,true,true,x10))
   else (rc a x9.1 limit e x9.2).bind fun x10=>some (.inl (w64 (x9.1+1),b,limit,false,true,x10))
  else
   bif decide (w64 (Int.tdiv (w64 (b-a)) 8)≤w64 (b-x9.1)) then (rc (w64 (x9.1+1)) b limit e x9.2).bind fun x10=>some (.inl (a,x9.1,limit,true,true,x10))
   else (rc (w64 (x9.1+1)) b limit e x9.2).bind fun x10=>some (.inl (a,x9.1,limit,false,true,x10))
 | .inr x9=>
  bif decide (w64 (x9.1-a)<w64 (b-x9.1)) then
   bif decide (w64 (Int.tdiv (w64 (b-a)) 8)≤w64 (x9.1-a)) then (rc a x9.1 limit e x9.2).bind fun x10=>some (.inl (w64 (x9.1+1),b,limit,true,false,x10))
   else (rc a x9.1 limit e x9.2).bind fun x10=>some (.inl (w64 (x9.1+1),b,limit,false,false,x10))
  else
   bif decide (w64 (Int.tdiv (w64 (b-a)) 8)≤w64 (b-x9.1)) then (rc (w64 (x9.1+1)) b limit e x9.2).bind fun x10=>some (.inl (a,x9.1,limit,true,false,x10))
   else (rc (w64 (x9.1+1)) b limit e x9.2).bind fun x10=>some (.inl (a,x9.1,limit,false,false,x10))
noncomputable def ZnB (e:Int→Int→Option Int) (rc:Int→Int→Int→(Int→Int→Option Int)→List Int→Option (List Int)) (a b limit pivot:Int) (wb wp:Bool) (x5:List Int):Option (ZyV⊕List Int):=
 bif decide (0<a) then
  (Zy x5 (w64 (a-1))).bind fun x6=>(Zy x5 pivot).bind fun x7=>(e x6 x7).bind fun x8=>
  bif decide (x8<0) then ZtX e rc a b limit pivot x5
  else (ZD a b pivot e x5).bind fun x18=>some (.inl (x18.1,b,limit,wb,wp,x18.2))
 else ZtX e rc a b limit pivot x5
theorem Zqc (e:Int→Int→Option Int) (rc:Int→Int→Int→(Int→Int→Option Int)→List Int→Option (List Int)) (a b limit:Int) (wb wp:Bool) (l:List Int):ZV e rc (a,b,limit,wb,wp,l) =
  (bif decide (w64 (b-a)≤12) then (Z4 a b e l).bind fun x=>some (.inr x)
  else bif limit==0 then (Zag a b e l).bind fun x=>some (.inr x)
  else (bif wb then bif wp then
    (ZU a b e l).bind fun x3=>
    bif x3.2==2 then (ZO a b e l).bind fun x4=>(ZP a b e x4).bind fun x5=>(match x5 with | .inl x5=>some (.inr x5) | .inr x5=>ZnB e rc a b limit (w64 (w64 (b-1)-w64 (x3.1-a))) true true x5)
    else bif x3.2==1 then (ZP a b e l).bind fun x5=>(match x5 with | .inl x5=>some (.inr x5) | .inr x5=>ZnB e rc a b limit x3.1 true true x5)
    else ZnB e rc a b limit x3.1 true true l
   else
    (ZU a b e l).bind fun x3=>
    bif x3.2==2 then (ZO a b e l).bind fun x4=>ZnB e rc a b limit (w64 (w64 (b-1)-w64 (x3.1-a))) true false x4
    else ZnB e rc a b limit x3.1 true false l
  else
   (Zah a b e l).bind fun x0=>(ZU a b e x0).bind fun x3=>
    bif x3.2==2 then (ZO a b e x0).bind fun x4=>ZnB e rc a b (w64 (limit-1)) (w64 (w64 (b-1)-w64 (x3.1-a))) false wp x4
    else ZnB e rc a b (w64 (limit-1)) x3.1 false wp x0)):=by
 cases wb<;>cases wp<;>rfl
end Go.Proofs.YtljgncbdagmeeaaDoor
namespace Go.Proofs.YtljgncbdagmeeaaDoor
open Go Go.Proofs.YtljgncbdagmeeaaDoorE Go.Sort
set_option linter.unusedVariables false
set_option linter.unusedSimpArgs false
noncomputable def after (e:Int→Int→Option Int) (rc:Int→Int→Int→(Int→Int→Option Int)→List Int→Option (List Int)) (x:Option (ZyV⊕List Int)):Option (List Int):=
 match x with | some (.inl s')=>lp (ZV e rc) s' | some (.inr r)=>some r | none=>none
theorem Zwa (e:Int→Int→Option Int) (rc:Int→Int→Int→(Int→Int→Option Int)→List Int→Option (List Int)) (s:ZyV):lp (ZV e rc) s=after e rc (ZV e rc s):=by
 rw[Zcl]
 unfold after
 cases ZV e rc s with
 | none=>rfl
 | some t=>cases t<;>rfl
def Res (P:Int→Prop) (r:Option (List Int)) (X:Array Int) (n:Nat):Prop:=r=some X.toList∧OKA P X∧X.size=n
section
variable {cmp:Int→Int→Option Int} {c:Int→Int→Int} {P:Int→Prop} (hc:Zqj cmp c P) (hs:SWO (ltC c))
include hc hs
def ZoK (cmp:Int→Int→Option Int) (c:Int→Int→Int) (P:Int→Prop) (rc:Int→Int→Int→(Int→Int→Option Int)→List Int→Option (List Int)) (k:Nat):Prop:=
 ∀(a b limit:Nat) (wb wp:Bool) (d:Array Int),b-a≤k→a≤b→b≤d.size→OKA P d→limit≤1000 →
  Res P (rc (a:Int) (b:Int) (limit:Int) cmp d.toList) (pdq (ltC c) d a b limit true true) d.size ∧
  Res P (lp (ZV cmp rc) ((a:Int),(b:Int),(limit:Int),wb,wp,d.toList)) (pdq (ltC c) d a b limit wb wp) d.size
theorem ZtE {rc:Int→Int→Int→(Int→Int→Option Int)→List Int→Option (List Int)}{k:Nat} (ih:ZoK cmp c P rc k) (a b limit pivot:Nat) (d:Array Int) (hk:b-a≤k+1) (h1:a≤pivot) (h2:pivot<b) (hb:b≤d.size) (hd:OKA P d) (hl:limit≤1000) :
  Res P (after cmp rc (ZtX cmp rc (a:Int) (b:Int) (limit:Int) (pivot:Int) d.toList)) (match partition (ltC c) d a b pivot with
   | (mid,alreadyPartitioned,d4)=>
    if _h:a≤mid∧mid<b then
     if mid-a<b-mid then pdq (ltC c) (pdq (ltC c) d4 a mid limit true true) (mid+1) b limit (decide (mid-a ≥ (b-a) / 8)) alreadyPartitioned
     else pdq (ltC c) (pdq (ltC c) d4 (mid+1) b limit true true) a mid limit (decide (b-mid ≥ (b-a) / 8)) alreadyPartitioned
    else d4) d.size:=by
 have hz:=hd.sz
 obtain⟨p1,p2,p3⟩:=Zza hc a b pivot d h1 h2 hb hd
 obtain⟨r1,r2,_⟩:=partition_holds (ltC c) hs d a b pivot h1 h2 hb
 unfold ZtX
 rw[p1]
 generalize partition (ltC c) d a b pivot=q at *
 obtain⟨mid,ap,d4⟩:=q
 dsimp only at *
 rw[dif_pos ⟨r1,r2⟩]
 have e1:w64 ((mid:Int)-(a:Int))=((mid-a:Nat):Int):=Zbh (by omega) (by omega)
 have e2:w64 ((b:Int)-(mid:Int))=((b-mid:Nat):Int):=Zbh (by omega) (by omega)
 have e3:w64 ((b:Int)-(a:Int))=((b-a:Nat):Int):=Zbh (by omega) (by omega)
 have e4:w64 (Int.tdiv ((b-a:Nat):Int) 8)=(((b-a) / 8:Nat):Int):=by
  rw[Int.tdiv_eq_ediv_of_nonneg (by omega)]
  exact Zbh (by omega) (by omega)
 have e5:w64 ((mid:Int)+1)=((mid+1:Nat):Int):=Zbh (by omega) (by omega)
 by_cases hlt:mid-a<b-mid
 ·obtain⟨⟨u1,u2,u3⟩,_⟩:=ih a mid limit true true d4 (by omega) r1 (by omega) p2 hl
  rw[if_pos hlt]
  by_cases ht:mid-a ≥ (b-a) / 8
  ·obtain⟨_,v1,v2,v3⟩:=ih (mid+1) b limit true ap (pdq (ltC c) d4 a mid limit true true) (by omega) (by omega) (by omega) u2 hl
   rw[decide_eq_true ht]
   refine⟨?_,v2,by omega⟩
   cases ap<;>simp only[cond_true,cond_false,Option.bind_some,e1,e2,e3,e4,e5,ZhH,Zix,decide_eq_true hlt,decide_eq_true (show(b-a) / 8≤mid-a from ht),u1,after]<;>exact v1
  ·obtain⟨_,v1,v2,v3⟩:=ih (mid+1) b limit false ap (pdq (ltC c) d4 a mid limit true true) (by omega) (by omega) (by omega) u2 hl
   rw[decide_eq_false ht]
   refine⟨?_,v2,by omega⟩
   cases ap<;>simp only[cond_true,cond_false,Option.bind_some,e1,e2,e3,e4,e5,ZhH,Zix,decide_eq_true hlt,decide_eq_false (show ¬(b-a) / 8≤mid-a from ht),u1,after]<;>exact v1
 ·obtain⟨⟨u1,u2,u3⟩,_⟩:=ih (mid+1) b limit true true d4 (by omega) (by omega) (by omega) p2 hl
  rw[if_neg hlt]
  by_cases ht:b-mid ≥ (b-a) / 8
  ·obtain⟨_,v1,v2,v3⟩:=ih a mid limit true ap (pdq (ltC c) d4 (mid+1) b limit true true) (by omega) r1 (by omega) u2 hl
   rw[decide_eq_true ht]
   refine⟨?_,v2,by omega⟩
   cases ap<;>simp only[cond_true,cond_false,Option.bind_some,e1,e2,e3,e4,e5,ZhH,Zix,decide_eq_false hlt,decide_eq_true (show(b-a) / 8≤b-mid from ht),u1,after]<;>exact v1
  ·obtain⟨_,v1,v2,v3⟩:=ih a mid limit false ap (pdq (ltC c) d4 (mid+1) b limit true true) (by omega) r1 (by omega) u2 hl
   rw[decide_eq_false ht]
   refine⟨?_,v2,by omega⟩
   cases ap<;>simp only[cond_true,cond_false,Option.bind_some,e1,e2,e3,e4,e5,ZhH,Zix,decide_eq_false hlt,decide_eq_false (show ¬(b-a) / 8≤b-mid from ht),u1,after]<;>exact v1
theorem Zgb {rc:Int→Int→Int→(Int→Int→Option Int)→List Int→Option (List Int)}{k:Nat} (ih:ZoK cmp c P rc k) (a b limit pivot:Nat) (wb wp:Bool) (d:Array Int) (hk:b-a≤k+1) (h1:a≤pivot) (h2:pivot<b) (hb:b≤d.size) (hd:OKA P d) (hl:limit≤1000) :
  Res P (after cmp rc (ZnB cmp rc (a:Int) (b:Int) (limit:Int) (pivot:Int) wb wp d.toList)) (if (decide (a > 0) && !ltC c d[a-1]! d[pivot]!)=true then
    match partitionEqual (ltC c) d a b pivot with
    | (mid,d4)=>if _h:a<mid∧mid≤b then pdq (ltC c) d4 mid b limit wb wp else d4
   else
    match partition (ltC c) d a b pivot with
    | (mid,alreadyPartitioned,d4)=>
     if _h:a≤mid∧mid<b then
      if mid-a<b-mid then pdq (ltC c) (pdq (ltC c) d4 a mid limit true true) (mid+1) b limit (decide (mid-a ≥ (b-a) / 8)) alreadyPartitioned
      else pdq (ltC c) (pdq (ltC c) d4 (mid+1) b limit true true) a mid limit (decide (b-mid ≥ (b-a) / 8)) alreadyPartitioned
     else d4) d.size:=by
 have hz:=hd.sz
 have pa:=ZtE hc hs ih a b limit pivot d hk h1 h2 hb hd hl
 have ip:pivot<d.size:=by omega
 unfold ZnB
 by_cases ha:0<a
 ·have ia:a-1<d.size:=by omega
  have e1:w64 ((a:Int)-1)=((a-1:Nat):Int):=Zbh (by omega) (by omega)
  have e3:=hc _ _ (hd.el _ ia) (hd.el _ ip)
  simp only[decide_eq_true (show(0:Int)<(a:Int) by omega),cond_true,e1,Zcv ia,Zcv ip,Option.bind_some,e3]
  by_cases h:c d[a-1]! d[pivot]! < 0
  ·rw[decide_eq_true h,if_neg (by simp[ltC,h])]
   exact pa
  ·rw[decide_eq_false h,if_pos (by simp[ltC,h,ha])]
   obtain⟨q1,q2,q3,q4,q5⟩:=Zyb hc a b pivot d h1 h2 hb hd
   generalize partitionEqual (ltC c) d a b pivot=q at *
   obtain⟨mid,d4⟩:=q
   dsimp only at *
   rw[dif_pos ⟨q4,q5⟩]
   obtain⟨_,v1,v2,v3⟩:=ih mid b limit wb wp d4 (by omega) q5 (by omega) q2 hl
   simp only[cond_false,q1,Option.bind_some,after]
   exact⟨v1,v2,by omega⟩
 ·rw[if_neg (by simp[ha])]
  simp only[decide_eq_false (show ¬(0:Int)<(a:Int) by omega),cond_false]
  exact pa
theorem ZqE {rc:Int→Int→Int→(Int→Int→Option Int)→List Int→Option (List Int)}{k:Nat} (ih:ZoK cmp c P rc k) (a b limit:Nat) (wb wp:Bool) (d:Array Int) (hk:b-a≤k+1) (hab:a≤b) (hb:b≤d.size) (hd:OKA P d) (hl:limit≤1000) :
  Res P (lp (ZV cmp rc) ((a:Int),(b:Int),(limit:Int),wb,wp,d.toList)) (pdq (ltC c) d a b limit wb wp) d.size:=by
 have hz:=hd.sz
 have e1:w64 ((b:Int)-(a:Int))=((b-a:Nat):Int):=Zbh (by omega) (by omega)
 rw[Zwa,Zqc,pdq,e1]
 by_cases h12:b-a≤12
 ·obtain⟨q1,q2,q3⟩:=ZzL hc a b d hb hab hd
  rw[decide_eq_true (show((b-a:Nat):Int)≤12 by omega),if_pos h12]
  simp only[cond_true,q1,Option.bind_some,after]
  exact⟨rfl,q2,q3⟩
 rw[decide_eq_false (show ¬((b-a:Nat):Int)≤12 by omega),if_neg h12]
 by_cases h0:limit=0
 ·obtain⟨q1,q2,q3⟩:=ZAo hc a b d hab hb hd
  rw[show((limit:Int)==0)=true by simp[h0],if_pos h0]
  simp only[cond_false,cond_true,q1,Option.bind_some,after]
  exact⟨rfl,q2,q3⟩
 rw[show((limit:Int)==0)=false by simpa using (show ¬(limit:Int)=0 by omega),if_neg h0]
 have hl2:∀x:Nat,(ZpW Hint.unknown==2)=false∧(ZpW Hint.unknown==1)=false∧(ZpW Hint.increasing==2)=false∧(ZpW Hint.increasing==1)=true∧(ZpW Hint.decreasing==2)=true:=fun _=>⟨rfl,rfl,rfl,rfl,rfl⟩
 obtain⟨g1,g2,g3,g4,g5⟩:=hl2 0
 have rp:∀p:Nat,a≤p→p<b→w64 (w64 ((b:Int)-1)-w64 ((p:Int)-(a:Int)))=(((b-1)-(p-a):Nat):Int):=fun p h1 h2=>by
  have x1:w64 ((b:Int)-1)=((b-1:Nat):Int):=Zbh (by omega) (by omega)
  have x2:w64 ((p:Int)-(a:Int))=((p-a:Nat):Int):=Zbh (by omega) (by omega)
  rw[x1,x2]
  exact Zbh (by omega) (by omega)
 cases wb with
 | true=>
  have pv:=ZzP hc a b d (by omega) hb hd
  have pr:=choosePivot_holds (ltC c) d a b (by omega)
  simp only[cond_false,cond_true,Bool.not_true,Bool.false_eq_true,if_false,Bool.true_and]
  generalize choosePivot (ltC c) d a b=cp at *
  obtain⟨p,h⟩:=cp
  dsimp only at *
  cases wp with
  | true=>
   simp only[cond_true,pv,Option.bind_some]
   cases h with
   | decreasing=>
    obtain⟨v1,v2,v3⟩:=ZxM (P:=P) cmp a b d (by omega) hb hd
    obtain⟨w1,w2,w3⟩:=ZzQ hc a b (reverseRange d a b) (by omega) (by omega) v2
    simp only[g5,cond_true,v1,Option.bind_some,w1,if_true,decide_true,Bool.and_self]
    generalize partialInsertionSort (ltC c) (reverseRange d a b) a b=pi at *
    obtain⟨d3,fin⟩:=pi
    dsimp only at *
    cases fin with
    | true=>exact⟨rfl,w2,w3.trans v3⟩
    | false=>
     rw[rp p pr.1 pr.2]
     have:=Zgb hc hs ih a b limit ((b-1)-(p-a)) true true d3 hk (by omega) (by omega) (by omega) w2 hl
     rw[show d3.size=d.size by omega] at this
     exact this
   | increasing=>
    obtain⟨w1,w2,w3⟩:=ZzQ hc a b d (by omega) hb hd
    simp only[g3,g4,cond_true,cond_false,w1,Option.bind_some,reduceCtorEq,if_false,if_true,decide_true,Bool.and_self]
    generalize partialInsertionSort (ltC c) d a b=pi at *
    obtain⟨d3,fin⟩:=pi
    dsimp only at *
    cases fin with
    | true=>exact⟨rfl,w2,w3⟩
    | false=>
     have:=Zgb hc hs ih a b limit p true true d3 hk pr.1 pr.2 (by omega) w2 hl
     rw[show d3.size=d.size by omega] at this
     exact this
   | unknown=>
    simp only[g1,g2,cond_false,reduceCtorEq,if_false,decide_false,Bool.and_false,Bool.false_eq_true]
    exact Zgb hc hs ih a b limit p true true d hk pr.1 pr.2 hb hd hl
  | false=>
   simp only[cond_false,pv,Option.bind_some,Bool.false_and,Bool.false_eq_true,if_false]
   cases h with
   | decreasing=>
    obtain⟨v1,v2,v3⟩:=ZxM (P:=P) cmp a b d (by omega) hb hd
    simp only[g5,cond_true,v1,Option.bind_some,if_true]
    rw[rp p pr.1 pr.2]
    have:=Zgb hc hs ih a b limit ((b-1)-(p-a)) true false (reverseRange d a b) hk (by omega) (by omega) (by omega) v2 hl
    rw[v3] at this
    exact this
   | increasing=>
    simp only[g3,cond_false,reduceCtorEq,if_false]
    exact Zgb hc hs ih a b limit p true false d hk pr.1 pr.2 hb hd hl
   | unknown=>
    simp only[g1,cond_false,reduceCtorEq,if_false]
    exact Zgb hc hs ih a b limit p true false d hk pr.1 pr.2 hb hd hl
 | false=>
  obtain⟨b1,b2,b3⟩:=ZDt (P:=P) cmp a b d hab hb hd
  have pv:=ZzP hc a b (breakPatterns d a b) (by omega) (by omega) b2
  have pr:=choosePivot_holds (ltC c) (breakPatterns d a b) a b (by omega)
  have el:w64 ((limit:Int)-1)=((limit-1:Nat):Int):=Zbh (by omega) (by omega)
  simp only[cond_false,b1,Option.bind_some,pv,Bool.not_false,if_true,Bool.false_and,Bool.false_eq_true,if_false,el]
  generalize choosePivot (ltC c) (breakPatterns d a b) a b=cp at *
  obtain⟨p,h⟩:=cp
  dsimp only at *
  cases h with
  | decreasing=>
   obtain⟨v1,v2,v3⟩:=ZxM (P:=P) cmp a b (breakPatterns d a b) (by omega) (by omega) b2
   simp only[g5,cond_true,v1,Option.bind_some,if_true]
   rw[rp p pr.1 pr.2]
   have:=Zgb hc hs ih a b (limit-1) ((b-1)-(p-a)) false wp (reverseRange (breakPatterns d a b) a b) hk (by omega) (by omega) (by omega) v2 (by omega)
   rw[v3,b3] at this
   exact this
  | increasing=>
   simp only[g3,cond_false,reduceCtorEq,if_false]
   have:=Zgb hc hs ih a b (limit-1) p false wp (breakPatterns d a b) hk pr.1 pr.2 (by omega) b2 (by omega)
   rw[b3] at this
   exact this
  | unknown=>
   simp only[g1,cond_false,reduceCtorEq,if_false]
   have:=Zgb hc hs ih a b (limit-1) p false wp (breakPatterns d a b) hk pr.1 pr.2 (by omega) b2 (by omega)
   rw[b3] at this
   exact this
theorem Zzo:∀(k m:Nat),k≤m→ZoK cmp c P (Z0 (m+1)) k:=by
 intro k
 induction k with
 | zero=>
  intro m hm
  have base:∀(rc:Int→Int→Int→(Int→Int→Option Int)→List Int→Option (List Int)) (a b limit:Nat) (wb wp:Bool) (d:Array Int),b-a≤0→a≤b→b≤d.size→OKA P d→Res P (lp (ZV cmp rc) ((a:Int),(b:Int),(limit:Int),wb,wp,d.toList)) (pdq (ltC c) d a b limit wb wp) d.size:=by
   intro rc a b limit wb wp d hk hab hb hd
   have hz:=hd.sz
   have e1:w64 ((b:Int)-(a:Int))=((b-a:Nat):Int):=Zbh (by omega) (by omega)
   obtain⟨q1,q2,q3⟩:=ZzL hc a b d hb hab hd
   rw[Zcl,Zqc,pdq,e1,decide_eq_true (show((b-a:Nat):Int)≤12 by omega),if_pos (by omega)]
   simp only[cond_true,q1,Option.bind_some]
   exact⟨rfl,q2,q3⟩
  intro a b limit wb wp d hk hab hb hd hl
  refine⟨?_,base _ a b limit wb wp d hk hab hb hd⟩
  obtain⟨r1,r2⟩:=base (Z0 m) a b limit true true d hk hab hb hd
  refine⟨?_,r2⟩
  show ZaE (Z0 m) (a:Int) (b:Int) (limit:Int) cmp d.toList=_
  unfold ZaE
  rw[r1];rfl
 | succ k ih=>
  intro m hm a b limit wb wp d hk hab hb hd hl
  refine⟨?_,ZqE hc hs (ih m (by omega)) a b limit wb wp d hk hab hb hd hl⟩
  obtain⟨m',rfl⟩:∃m',m=m'+1:=⟨m-1,by omega⟩
  obtain⟨r1,r2⟩:=ZqE hc hs (ih m' (by omega)) a b limit true true d hk hab hb hd hl
  refine⟨?_,r2⟩
  show ZaE (Z0 (m'+1)) (a:Int) (b:Int) (limit:Int) cmp d.toList=_
  unfold ZaE
  rw[r1];rfl
theorem Zzd (l:List Int) (hl:l.length≤1000) (hP:∀x∈l,P x):ZaN cmp l=some (Sort.sort (ltC c) l.toArray).toList:=by
 have hd:OKA P l.toArray:=⟨fun i hi=>by
  have hi':i<l.length:=by simpa using hi
  rw[getElem!_pos l.toArray i hi]
  simpa using hP _ (List.getElem_mem hi'),by simpa using hl⟩
 obtain⟨l1,_,_⟩:=Zxn hl
 have hbl:bitsLen l.length≤1000:=by
  unfold bitsLen
  split
  ·omega
  ·have:Nat.log2 l.length<11:=(Nat.log2_lt (by assumption)).2 (by omega)
   omega
 have key:∀n,l.length+1≤n→Z0 n 0 (l.length:Int) (bitsLen l.length:Int) cmp l=some (Sort.sort (ltC c) l.toArray).toList:=by
  intro n hn
  obtain⟨m,rfl⟩:∃m,n=m+1:=⟨n-1,by omega⟩
  obtain⟨⟨r1,_⟩,_⟩:=Zzo hc hs l.length m (by omega) 0 l.length (bitsLen l.length) true true l.toArray (by omega) (by omega) (by simp) hd hbl
  refine(r1:Z0 (m+1) 0 (l.length:Int) (bitsLen l.length:Int) cmp l=_).trans ?_
  unfold Sort.sort
  rw[List.size_toArray]
 unfold ZaN Zdu
 rw[l1,Option.bind_some,ZyH key]
 rfl
theorem ZxL (l:List Int) (hl:l.length≤1000) (hP:∀x∈l,P x):∃r:List Int,ZaN cmp l=some r∧r.Perm l∧r.Pairwise (fun x y=>ltC c y x=false):=by
 refine⟨_,Zzd hc hs l hl hP,?_⟩
 obtain⟨⟨h1,_,h2⟩,h3⟩:=sort_sorts (ltC c) hs l.toArray
 generalize Sort.sort (ltC c) l.toArray=d at *
 constructor
 ·have e1:d.extract 0 l.toArray.size=d:=by rw[← h1];simp
  rw[e1] at h2
  simpa using h2
 ·rw[List.pairwise_iff_getElem]
  intro i j hi hj hij
  have hj':j<d.size:=by simpa using hj
  have hi':i<d.size:=by omega
  have:=h3 i j (Nat.zero_le _) hij (by omega)
  rw[getElem!_pos d j hj',getElem!_pos d i hi'] at this
  simpa using this
end
end Go.Proofs.YtljgncbdagmeeaaDoor
