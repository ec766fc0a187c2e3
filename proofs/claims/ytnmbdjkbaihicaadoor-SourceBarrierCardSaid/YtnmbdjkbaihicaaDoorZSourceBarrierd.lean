/- SourceBarrier: part 4 of 5 of the proof. -/
import Derived.Test.YtnmbdjkbaihicaaDoorZSourceBarrierc
import Derived.KernelRfl
import Derived.Sort.AssemblyPlain
set_option maxRecDepth 100000
set_option maxHeartbeats 40000000
namespace Go.Proofs.YtnmbdjkbaihicaaDoor
open Go Go.Proofs.YtnmbdjkbaihicaaDoorE
set_option linter.unusedVariables false
structure Zr where
 work : (List Int)
 vals : (List Int)
 deriving DecidableEq
def Zo3 : ByteArray := ⟨#[0, 1, 2, 2, 3, 3, 3, 3, 4, 4, 4, 4, 4, 4, 4, 4, 5, 5, 5, 5, 5, 5, 5, 5, 5, 5, 5, 5, 5, 5, 5, 5, 6, 6, 6, 6, 6, 6, 6, 6, 6, 6, 6, 6, 6, 6, 6, 6, 6, 6, 6, 6, 6, 6, 6, 6, 6, 6, 6, 6, 6, 6, 6, 6, 7, 7, 7, 7, 7, 7, 7, 7, 7, 7, 7, 7, 7, 7, 7, 7, 7, 7, 7, 7, 7, 7, 7, 7, 7, 7, 7, 7, 7, 7, 7, 7, 7, 7, 7, 7, 7, 7, 7, 7, 7, 7, 7, 7, 7, 7, 7, 7, 7, 7, 7, 7, 7, 7, 7, 7, 7, 7, 7, 7, 7, 7, 7, 7, 8, 8, 8, 8, 8, 8, 8, 8, 8, 8, 8, 8, 8, 8, 8, 8, 8, 8, 8, 8, 8, 8, 8, 8, 8, 8, 8, 8, 8, 8, 8, 8, 8, 8, 8, 8, 8, 8, 8, 8, 8, 8, 8, 8, 8, 8, 8, 8, 8, 8, 8, 8, 8, 8, 8, 8, 8, 8, 8, 8, 8, 8, 8, 8, 8, 8, 8, 8, 8, 8, 8, 8, 8, 8, 8, 8, 8, 8, 8, 8, 8, 8, 8, 8, 8, 8, 8, 8, 8, 8, 8, 8, 8, 8, 8, 8, 8, 8, 8, 8, 8, 8, 8, 8, 8, 8, 8, 8, 8, 8, 8, 8, 8, 8, 8, 8, 8, 8, 8, 8, 8, 8, 8, 8, 8, 8, 8, 8]⟩
abbrev dA (t0 t1 t2 t3 : Bool) (a : Zm) : List D := [(Zb a.period), (Zb a.deadline), (D.list t0 (List.map ZV a.parts)), (D.list t1 (List.map ZS a.edges)), (D.list t2 (List.map Zu a.futures)), (D.list t3 (List.map Zs a.barriers))]
abbrev dV (t0 t1 t2 t3 : Bool) (a : Zm) : List V := [(.d (Zb a.period)), (.d (Zb a.deadline)), (.d (D.list t0 (List.map ZV a.parts))), (.d (D.list t1 (List.map ZS a.edges))), (.d (D.list t2 (List.map Zu a.futures))), (.d (D.list t3 (List.map Zs a.barriers)))]
def Zdc : Option Bool := some true
noncomputable def ZdV (a : Zm) (s0 : Int) : Option (Int ⊕ (Unit ⊕ Unit)) :=
 bif (decide (s0 < (a.barriers.length : Int))) then
  bif (decide (s0 < 9)) then
   (ZA a.barriers s0).bind fun x1 =>
   bif (decide (20 < (x1.ins.length : Int))) then
    some (.inr (.inl ()))
   else
    bif (decide (20 < (x1.outs.length : Int))) then
     some (.inr (.inl ()))
    else
     some (.inl (w64 (s0 + 1)))
  else
   some (.inr (.inr ()))
 else
  some (.inr (.inr ()))
noncomputable def ZfH (a : Zm) : Option Bool :=
 (lp (ZdV a) 0).bind fun r2 =>
 match r2 with
 | (.inl r2) =>
  some false
 | (.inr r2) =>
  bif (decide ((a.parts.length : Int) ≤ 20)) then
   bif (decide ((a.edges.length : Int) ≤ 60)) then
    bif (decide ((a.futures.length : Int) ≤ 20)) then
     bif (decide ((a.barriers.length : Int) ≤ 8)) then
      some true
     else
      some false
    else
     some false
   else
    some false
  else
   some false
noncomputable def ZfK (a : Zm) (b : (List Int)) (c : Zr) : Option Bool :=
 (ZfH a).bind fun x0 =>
 bif x0 then
  bif (decide ((b.length : Int) ≤ 60)) then
   bif (decide ((c.work.length : Int) ≤ 20)) then
    bif (decide ((c.vals.length : Int) ≤ 20)) then
     some true
    else
     some false
   else
    some false
  else
   some false
 else
  some false
noncomputable def Zdt (a : Zm) (s0 : Int × (List Zi)) : Option ((Int × (List Zi)) ⊕ (List Zi)) :=
 bif (decide (s0.1 < (a.barriers.length : Int))) then
  (ZA a.barriers s0.1).bind fun x1 =>
  bif (Nat.ble (List.length x1.ins) lim) then
   bif (Nat.ble (List.length x1.outs) lim) then
    bif (Nat.ble (List.length s0.2 + 1) lim) then
     some (.inl ((w64 (s0.1 + 1)), (s0.2 ++ [x1])))
    else
     none
   else
    none
  else
   none
 else
  some (.inr s0.2)
noncomputable def Zcl (a : Zm) : Option (List Zi) :=
 bif (Nat.ble (List.length a.parts) lim) then
  bif (Nat.ble (List.length a.edges) lim) then
   bif (Nat.ble (List.length a.futures) lim) then
    (lp (Zdt a) (0, ([] : (List Zi)))).bind fun r2 =>
    some r2
   else
    none
  else
   none
 else
  none
noncomputable def ZcK (a : Zr) : Option Unit :=
 bif (Nat.ble (List.length a.work) lim) then
  bif (Nat.ble (List.length a.vals) lim) then
   some ()
  else
   none
 else
  none
noncomputable def Zbh (a : Int) (b : Int) (c : Int) : Option Bool :=
 bif (decide (b ≤ a)) then
  bif (decide (a ≤ c)) then
   some true
  else
   some false
 else
  some false
noncomputable def ZfP (a : Int) : Option Int :=
 bif (decide (a < 0)) then
  some 10
 else
  bif (decide (1099511627775 < a)) then
   some 11
  else
   some 0
noncomputable def Zb4 (a : Int) : Option Int :=
 some (IntKind.i64.wrap (BitVec.ofInt IntKind.i64.bits (w64 (IntKind.u64.wrap ((IntKind.u64.wrap ((IntKind.u64.wrap ((IntKind.u64.wrap (BitVec.ofInt IntKind.u64.bits (IntKind.u64.wrap ((Int.fdiv (IntKind.u64.wrap ((IntKind.u64.wrap (BitVec.ofInt IntKind.u64.bits (Int.fdiv (IntKind.u64.wrap ((IntKind.u64.wrap (BitVec.ofInt IntKind.u64.bits (Int.fdiv a (2 ^ 1)) &&& BitVec.ofInt IntKind.u64.bits 6148914691236517205).toNat) + (IntKind.u64.wrap (BitVec.ofInt IntKind.u64.bits a &&& BitVec.ofInt IntKind.u64.bits 6148914691236517205).toNat))) (2 ^ 2)) &&& BitVec.ofInt IntKind.u64.bits 3689348814741910323).toNat) + (IntKind.u64.wrap (BitVec.ofInt IntKind.u64.bits (IntKind.u64.wrap ((IntKind.u64.wrap (BitVec.ofInt IntKind.u64.bits (Int.fdiv a (2 ^ 1)) &&& BitVec.ofInt IntKind.u64.bits 6148914691236517205).toNat) + (IntKind.u64.wrap (BitVec.ofInt IntKind.u64.bits a &&& BitVec.ofInt IntKind.u64.bits 6148914691236517205).toNat))) &&& BitVec.ofInt IntKind.u64.bits 3689348814741910323).toNat))) (2 ^ 4)) + (IntKind.u64.wrap ((IntKind.u64.wrap (BitVec.ofInt IntKind.u64.bits (Int.fdiv (IntKind.u64.wrap ((IntKind.u64.wrap (BitVec.ofInt IntKind.u64.bits (Int.fdiv a (2 ^ 1)) &&& BitVec.ofInt IntKind.u64.bits 6148914691236517205).toNat) + (IntKind.u64.wrap (BitVec.ofInt IntKind.u64.bits a &&& BitVec.ofInt IntKind.u64.bits 6148914691236517205).toNat))) (2 ^ 2)) &&& BitVec.ofInt IntKind.u64.bits 3689348814741910323).toNat) + (IntKind.u64.wrap (BitVec.ofInt IntKind.u64.bits (IntKind.u64.wrap ((IntKind.u64.wrap (BitVec.ofInt IntKind.u64.bits (Int.fdiv a (2 ^ 1)) &&& BitVec.ofInt IntKind.u64.bits 6148914691236517205).toNat) + (IntKind.u64.wrap (BitVec.ofInt IntKind.u64.bits a &&& BitVec.ofInt IntKind.u64.bits 6148914691236517205).toNat))) &&& BitVec.ofInt IntKind.u64.bits 3689348814741910323).toNat))))) &&& BitVec.ofInt IntKind.u64.bits 1085102592571150095).toNat) + (Int.fdiv (IntKind.u64.wrap (BitVec.ofInt IntKind.u64.bits (IntKind.u64.wrap ((Int.fdiv (IntKind.u64.wrap ((IntKind.u64.wrap (BitVec.ofInt IntKind.u64.bits (Int.fdiv (IntKind.u64.wrap ((IntKind.u64.wrap (BitVec.ofInt IntKind.u64.bits (Int.fdiv a (2 ^ 1)) &&& BitVec.ofInt IntKind.u64.bits 6148914691236517205).toNat) + (IntKind.u64.wrap (BitVec.ofInt IntKind.u64.bits a &&& BitVec.ofInt IntKind.u64.bits 6148914691236517205).toNat))) (2 ^ 2)) &&& BitVec.ofInt IntKind.u64.bits 3689348814741910323).toNat) + (IntKind.u64.wrap (BitVec.ofInt IntKind.u64.bits (IntKind.u64.wrap ((IntKind.u64.wrap (BitVec.ofInt IntKind.u64.bits (Int.fdiv a (2 ^ 1)) &&& BitVec.ofInt IntKind.u64.bits 6148914691236517205).toNat) + (IntKind.u64.wrap (BitVec.ofInt IntKind.u64.bits a &&& BitVec.ofInt IntKind.u64.bits 6148914691236517205).toNat))) &&& BitVec.ofInt IntKind.u64.bits 3689348814741910323).toNat))) (2 ^ 4)) + (IntKind.u64.wrap ((IntKind.u64.wrap (BitVec.ofInt IntKind.u64.bits (Int.fdiv (IntKind.u64.wrap ((IntKind.u64.wrap (BitVec.ofInt IntKind.u64.bits (Int.fdiv a (2 ^ 1)) &&& BitVec.ofInt IntKind.u64.bits 6148914691236517205).toNat) + (IntKind.u64.wrap (BitVec.ofInt IntKind.u64.bits a &&& BitVec.ofInt IntKind.u64.bits 6148914691236517205).toNat))) (2 ^ 2)) &&& BitVec.ofInt IntKind.u64.bits 3689348814741910323).toNat) + (IntKind.u64.wrap (BitVec.ofInt IntKind.u64.bits (IntKind.u64.wrap ((IntKind.u64.wrap (BitVec.ofInt IntKind.u64.bits (Int.fdiv a (2 ^ 1)) &&& BitVec.ofInt IntKind.u64.bits 6148914691236517205).toNat) + (IntKind.u64.wrap (BitVec.ofInt IntKind.u64.bits a &&& BitVec.ofInt IntKind.u64.bits 6148914691236517205).toNat))) &&& BitVec.ofInt IntKind.u64.bits 3689348814741910323).toNat))))) &&& BitVec.ofInt IntKind.u64.bits 1085102592571150095).toNat) (2 ^ 8)))) + (Int.fdiv (IntKind.u64.wrap ((IntKind.u64.wrap (BitVec.ofInt IntKind.u64.bits (IntKind.u64.wrap ((Int.fdiv (IntKind.u64.wrap ((IntKind.u64.wrap (BitVec.ofInt IntKind.u64.bits (Int.fdiv (IntKind.u64.wrap ((IntKind.u64.wrap (BitVec.ofInt IntKind.u64.bits (Int.fdiv a (2 ^ 1)) &&& BitVec.ofInt IntKind.u64.bits 6148914691236517205).toNat) + (IntKind.u64.wrap (BitVec.ofInt IntKind.u64.bits a &&& BitVec.ofInt IntKind.u64.bits 6148914691236517205).toNat))) (2 ^ 2)) &&& BitVec.ofInt IntKind.u64.bits 3689348814741910323).toNat) + (IntKind.u64.wrap (BitVec.ofInt IntKind.u64.bits (IntKind.u64.wrap ((IntKind.u64.wrap (BitVec.ofInt IntKind.u64.bits (Int.fdiv a (2 ^ 1)) &&& BitVec.ofInt IntKind.u64.bits 6148914691236517205).toNat) + (IntKind.u64.wrap (BitVec.ofInt IntKind.u64.bits a &&& BitVec.ofInt IntKind.u64.bits 6148914691236517205).toNat))) &&& BitVec.ofInt IntKind.u64.bits 3689348814741910323).toNat))) (2 ^ 4)) + (IntKind.u64.wrap ((IntKind.u64.wrap (BitVec.ofInt IntKind.u64.bits (Int.fdiv (IntKind.u64.wrap ((IntKind.u64.wrap (BitVec.ofInt IntKind.u64.bits (Int.fdiv a (2 ^ 1)) &&& BitVec.ofInt IntKind.u64.bits 6148914691236517205).toNat) + (IntKind.u64.wrap (BitVec.ofInt IntKind.u64.bits a &&& BitVec.ofInt IntKind.u64.bits 6148914691236517205).toNat))) (2 ^ 2)) &&& BitVec.ofInt IntKind.u64.bits 3689348814741910323).toNat) + (IntKind.u64.wrap (BitVec.ofInt IntKind.u64.bits (IntKind.u64.wrap ((IntKind.u64.wrap (BitVec.ofInt IntKind.u64.bits (Int.fdiv a (2 ^ 1)) &&& BitVec.ofInt IntKind.u64.bits 6148914691236517205).toNat) + (IntKind.u64.wrap (BitVec.ofInt IntKind.u64.bits a &&& BitVec.ofInt IntKind.u64.bits 6148914691236517205).toNat))) &&& BitVec.ofInt IntKind.u64.bits 3689348814741910323).toNat))))) &&& BitVec.ofInt IntKind.u64.bits 1085102592571150095).toNat) + (Int.fdiv (IntKind.u64.wrap (BitVec.ofInt IntKind.u64.bits (IntKind.u64.wrap ((Int.fdiv (IntKind.u64.wrap ((IntKind.u64.wrap (BitVec.ofInt IntKind.u64.bits (Int.fdiv (IntKind.u64.wrap ((IntKind.u64.wrap (BitVec.ofInt IntKind.u64.bits (Int.fdiv a (2 ^ 1)) &&& BitVec.ofInt IntKind.u64.bits 6148914691236517205).toNat) + (IntKind.u64.wrap (BitVec.ofInt IntKind.u64.bits a &&& BitVec.ofInt IntKind.u64.bits 6148914691236517205).toNat))) (2 ^ 2)) &&& BitVec.ofInt IntKind.u64.bits 3689348814741910323).toNat) + (IntKind.u64.wrap (BitVec.ofInt IntKind.u64.bits (IntKind.u64.wrap ((IntKind.u64.wrap (BitVec.ofInt IntKind.u64.bits (Int.fdiv a (2 ^ 1)) &&& BitVec.ofInt IntKind.u64.bits 6148914691236517205).toNat) + (IntKind.u64.wrap (BitVec.ofInt IntKind.u64.bits a &&& BitVec.ofInt IntKind.u64.bits 6148914691236517205).toNat))) &&& BitVec.ofInt IntKind.u64.bits 3689348814741910323).toNat))) (2 ^ 4)) + (IntKind.u64.wrap ((IntKind.u64.wrap (BitVec.ofInt IntKind.u64.bits (Int.fdiv (IntKind.u64.wrap ((IntKind.u64.wrap (BitVec.ofInt IntKind.u64.bits (Int.fdiv a (2 ^ 1)) &&& BitVec.ofInt IntKind.u64.bits 6148914691236517205).toNat) + (IntKind.u64.wrap (BitVec.ofInt IntKind.u64.bits a &&& BitVec.ofInt IntKind.u64.bits 6148914691236517205).toNat))) (2 ^ 2)) &&& BitVec.ofInt IntKind.u64.bits 3689348814741910323).toNat) + (IntKind.u64.wrap (BitVec.ofInt IntKind.u64.bits (IntKind.u64.wrap ((IntKind.u64.wrap (BitVec.ofInt IntKind.u64.bits (Int.fdiv a (2 ^ 1)) &&& BitVec.ofInt IntKind.u64.bits 6148914691236517205).toNat) + (IntKind.u64.wrap (BitVec.ofInt IntKind.u64.bits a &&& BitVec.ofInt IntKind.u64.bits 6148914691236517205).toNat))) &&& BitVec.ofInt IntKind.u64.bits 3689348814741910323).toNat))))) &&& BitVec.ofInt IntKind.u64.bits 1085102592571150095).toNat) (2 ^ 8)))) (2 ^ 16)))) + (Int.fdiv (IntKind.u64.wrap ((IntKind.u64.wrap ((IntKind.u64.wrap (BitVec.ofInt IntKind.u64.bits (IntKind.u64.wrap ((Int.fdiv (IntKind.u64.wrap ((IntKind.u64.wrap (BitVec.ofInt IntKind.u64.bits (Int.fdiv (IntKind.u64.wrap ((IntKind.u64.wrap (BitVec.ofInt IntKind.u64.bits (Int.fdiv a (2 ^ 1)) &&& BitVec.ofInt IntKind.u64.bits 6148914691236517205).toNat) + (IntKind.u64.wrap (BitVec.ofInt IntKind.u64.bits a &&& BitVec.ofInt IntKind.u64.bits 6148914691236517205).toNat))) (2 ^ 2)) &&& BitVec.ofInt IntKind.u64.bits 3689348814741910323).toNat) + (IntKind.u64.wrap (BitVec.ofInt IntKind.u64.bits (IntKind.u64.wrap ((IntKind.u64.wrap (BitVec.ofInt IntKind.u64.bits (Int.fdiv a (2 ^ 1)) &&& BitVec.ofInt IntKind.u64.bits 6148914691236517205).toNat) + (IntKind.u64.wrap (BitVec.ofInt IntKind.u64.bits a &&& BitVec.ofInt IntKind.u64.bits 6148914691236517205).toNat))) &&& BitVec.ofInt IntKind.u64.bits 3689348814741910323).toNat))) (2 ^ 4)) + (IntKind.u64.wrap ((IntKind.u64.wrap (BitVec.ofInt IntKind.u64.bits (Int.fdiv (IntKind.u64.wrap ((IntKind.u64.wrap (BitVec.ofInt IntKind.u64.bits (Int.fdiv a (2 ^ 1)) &&& BitVec.ofInt IntKind.u64.bits 6148914691236517205).toNat) + (IntKind.u64.wrap (BitVec.ofInt IntKind.u64.bits a &&& BitVec.ofInt IntKind.u64.bits 6148914691236517205).toNat))) (2 ^ 2)) &&& BitVec.ofInt IntKind.u64.bits 3689348814741910323).toNat) + (IntKind.u64.wrap (BitVec.ofInt IntKind.u64.bits (IntKind.u64.wrap ((IntKind.u64.wrap (BitVec.ofInt IntKind.u64.bits (Int.fdiv a (2 ^ 1)) &&& BitVec.ofInt IntKind.u64.bits 6148914691236517205).toNat) + (IntKind.u64.wrap (BitVec.ofInt IntKind.u64.bits a &&& BitVec.ofInt IntKind.u64.bits 6148914691236517205).toNat))) &&& BitVec.ofInt IntKind.u64.bits 3689348814741910323).toNat))))) &&& BitVec.ofInt IntKind.u64.bits 1085102592571150095).toNat) + (Int.fdiv (IntKind.u64.wrap (BitVec.ofInt IntKind.u64.bits (IntKind.u64.wrap ((Int.fdiv (IntKind.u64.wrap ((IntKind.u64.wrap (BitVec.ofInt IntKind.u64.bits (Int.fdiv (IntKind.u64.wrap ((IntKind.u64.wrap (BitVec.ofInt IntKind.u64.bits (Int.fdiv a (2 ^ 1)) &&& BitVec.ofInt IntKind.u64.bits 6148914691236517205).toNat) + (IntKind.u64.wrap (BitVec.ofInt IntKind.u64.bits a &&& BitVec.ofInt IntKind.u64.bits 6148914691236517205).toNat))) (2 ^ 2)) &&& BitVec.ofInt IntKind.u64.bits 3689348814741910323).toNat) + (IntKind.u64.wrap (BitVec.ofInt IntKind.u64.bits (IntKind.u64.wrap ((IntKind.u64.wrap (BitVec.ofInt IntKind.u64.bits (Int.fdiv a (2 ^ 1)) &&& BitVec.ofInt IntKind.u64.bits 6148914691236517205).toNat) + (IntKind.u64.wrap (BitVec.ofInt IntKind.u64.bits a &&& BitVec.ofInt IntKind.u64.bits 6148914691236517205).toNat))) &&& BitVec.ofInt IntKind.u64.bits 3689348814741910323).toNat))) (2 ^ 4)) + (IntKind.u64.wrap ((IntKind.u64.wrap (BitVec.ofInt IntKind.u64.bits (Int.fdiv (IntKind.u64.wrap ((IntKind.u64.wrap (BitVec.ofInt IntKind.u64.bits (Int.fdiv a (2 ^ 1)) &&& BitVec.ofInt IntKind.u64.bits 6148914691236517205).toNat) + (IntKind.u64.wrap (BitVec.ofInt IntKind.u64.bits a &&& BitVec.ofInt IntKind.u64.bits 6148914691236517205).toNat))) (2 ^ 2)) &&& BitVec.ofInt IntKind.u64.bits 3689348814741910323).toNat) + (IntKind.u64.wrap (BitVec.ofInt IntKind.u64.bits (IntKind.u64.wrap ((IntKind.u64.wrap (BitVec.ofInt IntKind.u64.bits (Int.fdiv a (2 ^ 1)) &&& BitVec.ofInt IntKind.u64.bits 6148914691236517205).toNat) + (IntKind.u64.wrap (BitVec.ofInt IntKind.u64.bits a &&& BitVec.ofInt IntKind.u64.bits 6148914691236517205).toNat))) &&& BitVec.ofInt IntKind.u64.bits 3689348814741910323).toNat))))) &&& BitVec.ofInt IntKind.u64.bits 1085102592571150095).toNat) (2 ^ 8)))) + (Int.fdiv (IntKind.u64.wrap ((IntKind.u64.wrap (BitVec.ofInt IntKind.u64.bits (IntKind.u64.wrap ((Int.fdiv (IntKind.u64.wrap ((IntKind.u64.wrap (BitVec.ofInt IntKind.u64.bits (Int.fdiv (IntKind.u64.wrap ((IntKind.u64.wrap (BitVec.ofInt IntKind.u64.bits (Int.fdiv a (2 ^ 1)) &&& BitVec.ofInt IntKind.u64.bits 6148914691236517205).toNat) + (IntKind.u64.wrap (BitVec.ofInt IntKind.u64.bits a &&& BitVec.ofInt IntKind.u64.bits 6148914691236517205).toNat))) (2 ^ 2)) &&& BitVec.ofInt IntKind.u64.bits 3689348814741910323).toNat) + (IntKind.u64.wrap (BitVec.ofInt IntKind.u64.bits (IntKind.u64.wrap ((IntKind.u64.wrap (BitVec.ofInt IntKind.u64.bits (Int.fdiv a (2 ^ 1)) &&& BitVec.ofInt IntKind.u64.bits 6148914691236517205).toNat) + (IntKind.u64.wrap (BitVec.ofInt IntKind.u64.bits a &&& BitVec.ofInt IntKind.u64.bits 6148914691236517205).toNat))) &&& BitVec.ofInt IntKind.u64.bits 3689348814741910323).toNat))) (2 ^ 4)) + (IntKind.u64.wrap ((IntKind.u64.wrap (BitVec.ofInt IntKind.u64.bits (Int.fdiv (IntKind.u64.wrap ((IntKind.u64.wrap (BitVec.ofInt IntKind.u64.bits (Int.fdiv a (2 ^ 1)) &&& BitVec.ofInt IntKind.u64.bits 6148914691236517205).toNat) + (IntKind.u64.wrap (BitVec.ofInt IntKind.u64.bits a &&& BitVec.ofInt IntKind.u64.bits 6148914691236517205).toNat))) (2 ^ 2)) &&& BitVec.ofInt IntKind.u64.bits 3689348814741910323).toNat) + (IntKind.u64.wrap (BitVec.ofInt IntKind.u64.bits (IntKind.u64.wrap ((IntKind.u64.wrap (BitVec.ofInt IntKind.u64.bits (Int.fdiv a (2 ^ 1)) &&& BitVec.ofInt IntKind.u64.bits 6148914691236517205).toNat) + (IntKind.u64.wrap (BitVec.ofInt IntKind.u64.bits a &&& BitVec.ofInt IntKind.u64.bits 6148914691236517205).toNat))) &&& BitVec.ofInt IntKind.u64.bits 3689348814741910323).toNat))))) &&& BitVec.ofInt IntKind.u64.bits 1085102592571150095).toNat) + (Int.fdiv (IntKind.u64.wrap (BitVec.ofInt IntKind.u64.bits (IntKind.u64.wrap ((Int.fdiv (IntKind.u64.wrap ((IntKind.u64.wrap (BitVec.ofInt IntKind.u64.bits (Int.fdiv (IntKind.u64.wrap ((IntKind.u64.wrap (BitVec.ofInt IntKind.u64.bits (Int.fdiv a (2 ^ 1)) &&& BitVec.ofInt IntKind.u64.bits 6148914691236517205).toNat) + (IntKind.u64.wrap (BitVec.ofInt IntKind.u64.bits a &&& BitVec.ofInt IntKind.u64.bits 6148914691236517205).toNat))) (2 ^ 2)) &&& BitVec.ofInt IntKind.u64.bits 3689348814741910323).toNat) + (IntKind.u64.wrap (BitVec.ofInt IntKind.u64.bits (IntKind.u64.wrap ((IntKind.u64.wrap (BitVec.ofInt IntKind.u64.bits (Int.fdiv a (2 ^ 1)) &&& BitVec.ofInt IntKind.u64.bits 6148914691236517205).toNat) + (IntKind.u64.wrap (BitVec.ofInt IntKind.u64.bits a &&& BitVec.ofInt IntKind.u64.bits 6148914691236517205).toNat))) &&& BitVec.ofInt IntKind.u64.bits 3689348814741910323).toNat))) (2 ^ 4)) + (IntKind.u64.wrap ((IntKind.u64.wrap (BitVec.ofInt IntKind.u64.bits (Int.fdiv (IntKind.u64.wrap ((IntKind.u64.wrap (BitVec.ofInt IntKind.u64.bits (Int.fdiv a (2 ^ 1)) &&& BitVec.ofInt IntKind.u64.bits 6148914691236517205).toNat) + (IntKind.u64.wrap (BitVec.ofInt IntKind.u64.bits a &&& BitVec.ofInt IntKind.u64.bits 6148914691236517205).toNat))) (2 ^ 2)) &&& BitVec.ofInt IntKind.u64.bits 3689348814741910323).toNat) + (IntKind.u64.wrap (BitVec.ofInt IntKind.u64.bits (IntKind.u64.wrap ((IntKind.u64.wrap (BitVec.ofInt IntKind.u64.bits (Int.fdiv a (2 ^ 1)) &&& BitVec.ofInt IntKind.u64.bits 6148914691236517205).toNat) + (IntKind.u64.wrap (BitVec.ofInt IntKind.u64.bits a &&& BitVec.ofInt IntKind.u64.bits 6148914691236517205).toNat))) &&& BitVec.ofInt IntKind.u64.bits 3689348814741910323).toNat))))) &&& BitVec.ofInt IntKind.u64.bits 1085102592571150095).toNat) (2 ^ 8)))) (2 ^ 16)))) (2 ^ 32))))) &&& BitVec.ofInt IntKind.i64.bits 127).toNat)
noncomputable def Zcp (a : Int) : Option Int :=
 (Zb4 a).bind fun x0 =>
 some x0
def Zn5 : List Int := [0, 1, 56, 2, 57, 49, 28, 3, 61, 58, 42, 50, 38, 29, 17, 4, 62, 47, 59, 36, 45, 43, 51, 22, 53, 39, 33, 30, 24, 18, 12, 5, 63, 55, 48, 27, 60, 41, 37, 16, 46, 35, 44, 21, 52, 32, 23, 11, 54, 26, 40, 15, 34, 20, 31, 10, 25, 14, 19, 9, 13, 8, 7, 6]
def Zda (a : Int) : Option Int := some (bif a == 0 then 64 else w64 (Zn5.getD (Int.fdiv (IntKind.u64.wrap ((IntKind.u64.wrap (BitVec.ofInt IntKind.u64.bits a &&& BitVec.ofInt IntKind.u64.bits (IntKind.u64.wrap (0 - a))).toNat) * 285870213051353865)) (2 ^ (min (Int.toNat 58) IntKind.u64.bits))).toNat 0))
noncomputable def Zcn (a : Int) : Option Int :=
 (Zda a).bind fun x0 =>
 some x0
noncomputable def Zhf (a : Int) : Option (Int × Bool) :=
 (ZfP a).bind fun x0 =>
 bif (x0 != 0) then
  some (0, false)
 else
  (Zcp (IntKind.u64.wrap a)).bind fun x1 =>
  bif (x1 != 1) then
   some (0, false)
  else
   (Zcn (IntKind.u64.wrap a)).bind fun x2 =>
   some (x2, true)
noncomputable def Zd3 (a : ZK) : Option Bool :=
 (Zbh a.op 0 5).bind fun x0 =>
 bif x0 then
  (Zbh a.arg 0 2147483647).bind fun x1 =>
  bif x1 then
   (Zbh a.work 1 100).bind fun x2 =>
   bif x2 then
    some false
   else
    some true
  else
   some true
 else
  some true
noncomputable def ZaG (a : (List ZK)) (b : (ZK → Option Bool)) (s0 : Int) : Option (Int ⊕ (Int ⊕ Unit)) :=
 bif (decide (s0 < (a.length : Int))) then
  (ZA a s0).bind fun x1 =>
  (b x1).bind fun x2 =>
  bif x2 then
   some (.inr (.inl s0))
  else
   some (.inl (w64 (s0 + 1)))
 else
  some (.inr (.inr ()))
noncomputable def ZbH (a : (List ZK)) (b : (ZK → Option Bool)) : Option Int :=
 (lp (ZaG a b) 0).bind fun r3 =>
 match r3 with
 | (.inl r3) =>
  some r3
 | (.inr r3) =>
  some (-1)
noncomputable def ZaF (a : (List ZK)) (b : (ZK → Option Bool)) : Option Bool :=
 (ZbH a b).bind fun x0 =>
 bif (decide (0 ≤ x0)) then
  some true
 else
  some false
noncomputable def Zfo (a : Zm) (b : Int) (c : Int) : Option Bool :=
 bif (b != c) then
  (Zbh b 0 (w64 ((a.parts.length : Int) - 1))).bind fun x0 =>
  bif x0 then
   (Zbh c 0 (w64 ((a.parts.length : Int) - 1))).bind fun x1 =>
   bif x1 then
    some true
   else
    some false
  else
   some false
 else
  some false
noncomputable def Za6 (a : (List ZJ)) (b : ZJ) (s0 : Int) : Option (Int ⊕ (Int ⊕ Unit)) :=
 bif (decide (s0 < (a.length : Int))) then
  (ZA a s0).bind fun x1 =>
  bif ((b.src == x1.src) && ((b.dst == x1.dst) && true)) then
   some (.inr (.inl s0))
  else
   some (.inl (w64 (s0 + 1)))
 else
  some (.inr (.inr ()))
noncomputable def Zcb (a : (List ZJ)) (b : ZJ) : Option Int :=
 (lp (Za6 a b) 0).bind fun r2 =>
 match r2 with
 | (.inl r2) =>
  some r2
 | (.inr r2) =>
  some (-1)
noncomputable def Za5 (a : (List ZJ)) (b : ZJ) : Option Bool :=
 (Zcb a b).bind fun x0 =>
 bif (decide (0 ≤ x0)) then
  some true
 else
  some false
noncomputable def ZcH (a : Zq) (b1 : Int) (b2 : Int) : Option Bool :=
 bif (a.user == b1) then
  bif (a.pos == b2) then
   some true
  else
   some false
 else
  some false
noncomputable def ZX (a : (List Zq)) (b : (Zq → Option Bool)) (s0 : Int) : Option (Int ⊕ (Int ⊕ Unit)) :=
 bif (decide (s0 < (a.length : Int))) then
  (ZA a s0).bind fun x1 =>
  (b x1).bind fun x2 =>
  bif x2 then
   some (.inr (.inl s0))
  else
   some (.inl (w64 (s0 + 1)))
 else
  some (.inr (.inr ()))
noncomputable def Zai (a : (List Zq)) (b : (Zq → Option Bool)) : Option Int :=
 (lp (ZX a b) 0).bind fun r3 =>
 match r3 with
 | (.inl r3) =>
  some r3
 | (.inr r3) =>
  some (-1)
noncomputable def ZP (a : (List Zq)) (b : (Zq → Option Bool)) : Option Bool :=
 (Zai a b).bind fun x0 =>
 bif (decide (0 ≤ x0)) then
  some true
 else
  some false
noncomputable def Zef (a : Zm) (b : (List Int)) (s0 : Int) : Option (Int ⊕ (Unit ⊕ Unit)) :=
 bif (decide (s0 < (b.length : Int))) then
  (ZA b s0).bind fun x1 =>
  (Zbh x1 0 (w64 ((a.parts.length : Int) - 1))).bind fun x2 =>
  bif x2 then
   bif (decide (0 < s0)) then
    (ZA b (w64 (s0 - 1))).bind fun x3 =>
    bif (decide (x1 ≤ x3)) then
     some (.inr (.inl ()))
    else
     some (.inl (w64 (s0 + 1)))
   else
    some (.inl (w64 (s0 + 1)))
  else
   some (.inr (.inl ()))
 else
  some (.inr (.inr ()))
noncomputable def ZfA (a : Zm) (b : (List Int)) : Option Bool :=
 (lp (Zef a b) 0).bind fun r4 =>
 match r4 with
 | (.inl r4) =>
  some false
 | (.inr r4) =>
  bif (decide (0 < (b.length : Int))) then
   some true
  else
   some false
noncomputable def Zbq (a : (List Int)) (b : Int) (s0 : Int) : Option (Int ⊕ (Int ⊕ Unit)) :=
 bif (decide (s0 < (a.length : Int))) then
  (ZA a s0).bind fun x1 =>
  bif (b == x1) then
   some (.inr (.inl s0))
  else
   some (.inl (w64 (s0 + 1)))
 else
  some (.inr (.inr ()))
noncomputable def Zcz (a : (List Int)) (b : Int) : Option Int :=
 (lp (Zbq a b) 0).bind fun r2 =>
 match r2 with
 | (.inl r2) =>
  some r2
 | (.inr r2) =>
  some (-1)
noncomputable def ZaQ (a : (List Int)) (b : Int) : Option Bool :=
 (Zcz a b).bind fun x0 =>
 bif (decide (0 ≤ x0)) then
  some true
 else
  some false
noncomputable def ZcG (a : Int) (b1 : (List Int)) : Option Bool :=
 (ZaQ b1 a).bind fun x0 =>
 bif x0 then
  some true
 else
  some false
noncomputable def ZaS (a : (List Int)) (b : (Int → Option Bool)) (s0 : Int) : Option (Int ⊕ (Int ⊕ Unit)) :=
 bif (decide (s0 < (a.length : Int))) then
  (ZA a s0).bind fun x1 =>
  (b x1).bind fun x2 =>
  bif x2 then
   some (.inr (.inl s0))
  else
   some (.inl (w64 (s0 + 1)))
 else
  some (.inr (.inr ()))
noncomputable def ZbX (a : (List Int)) (b : (Int → Option Bool)) : Option Int :=
 (lp (ZaS a b) 0).bind fun r3 =>
 match r3 with
 | (.inl r3) =>
  some r3
 | (.inr r3) =>
  some (-1)
noncomputable def ZaR (a : (List Int)) (b : (Int → Option Bool)) : Option Bool :=
 (ZbX a b).bind fun x0 =>
 bif (decide (0 ≤ x0)) then
  some true
 else
  some false
noncomputable def ZcW (a : Zm) (s4 : Int) : Option (Int ⊕ (Unit ⊕ Unit)) :=
 bif (decide (s4 < (a.edges.length : Int))) then
  (ZA a.edges s4).bind fun x5 =>
  (Zfo a x5.src x5.dst).bind fun x6 =>
  bif x6 then
   bif (decide (0 ≤ s4)) then
    bif (Nat.ble s4.toNat (List.length a.edges)) then
     (Za5 (List.take s4.toNat a.edges) x5).bind fun x7 =>
     bif x7 then
      some (.inr (.inl ()))
     else
      some (.inl (w64 (s4 + 1)))
    else
     none
   else
    none
  else
   some (.inr (.inl ()))
 else
  some (.inr (.inr ()))
noncomputable def Zc1 (a : Zm) (s9 : Int) : Option (Int ⊕ (Unit ⊕ Unit)) :=
 bif (decide (s9 < (a.futures.length : Int))) then
  (ZA a.futures s9).bind fun x10 =>
  (Zfo a x10.maker x10.user).bind fun x11 =>
  bif x11 then
   (ZA a.parts x10.user).bind fun x12 =>
   (Zbh x10.pos 1 (w64 (x12.work - 1))).bind fun x13 =>
   bif x13 then
    bif (decide (0 ≤ s9)) then
     bif (Nat.ble s9.toNat (List.length a.futures)) then
      (ZP (List.take s9.toNat a.futures) (fun z0 => ZcH z0 x10.user x10.pos)).bind fun x14 =>
      bif x14 then
       some (.inr (.inl ()))
      else
       some (.inl (w64 (s9 + 1)))
     else
      none
    else
     none
   else
    some (.inr (.inl ()))
  else
   some (.inr (.inl ()))
 else
  some (.inr (.inr ()))
noncomputable def ZcZ (a : Zm) (s16 : Int) : Option (Int ⊕ (Unit ⊕ Unit)) :=
 bif (decide (s16 < (a.barriers.length : Int))) then
  (ZA a.barriers s16).bind fun x17 =>
  (ZfA a x17.ins).bind fun x18 =>
  bif x18 then
   (ZfA a x17.outs).bind fun x19 =>
   bif x19 then
    (ZaR x17.ins (fun z0 => ZcG z0 x17.outs)).bind fun x20 =>
    bif x20 then
     some (.inr (.inl ()))
    else
     some (.inl (w64 (s16 + 1)))
   else
    some (.inr (.inl ()))
  else
   some (.inr (.inl ()))
 else
  some (.inr (.inr ()))
noncomputable def ZdJ (a : Zm) : Option Int :=
 (Zbh (a.parts.length : Int) 1 16).bind fun x0 =>
 bif x0 then
  bif (decide (48 < (a.edges.length : Int))) then
   some 50
  else
   bif (decide (16 < (a.futures.length : Int))) then
    some 50
   else
    bif (decide (4 < (a.barriers.length : Int))) then
     some 50
    else
     (Zhf a.period).bind fun x1 =>
     bif x1.2 then
      bif (decide (4096 < a.period)) then
       some 51
      else
       (Zbh a.deadline 1 a.period).bind fun x2 =>
       bif x2 then
        (ZaF a.parts (fun z0 => Zd3 z0)).bind fun x3 =>
        bif x3 then
         some 52
        else
         (lp (ZcW a) 0).bind fun r8 =>
         match r8 with
         | (.inl r8) =>
          some 53
         | (.inr r8) =>
          (lp (Zc1 a) 0).bind fun r15 =>
          match r15 with
          | (.inl r15) =>
           some 54
          | (.inr r15) =>
           (lp (ZcZ a) 0).bind fun r21 =>
           match r21 with
           | (.inl r21) =>
            some 55
           | (.inr r21) =>
            some 0
       else
        some 51
     else
      some 51
 else
  some 50
noncomputable def Za4 (a : Zm) (b : Zr) (c : Int) : Option Bool :=
 (ZA b.work c).bind fun x0 =>
 (ZA a.parts c).bind fun x1 =>
 bif (x0 == x1.work) then
  some true
 else
  some false
noncomputable def Zcx (a : Zm) (b : Zr) (c : Int) (s0 : Int) : Option (Int ⊕ (Unit ⊕ Unit)) :=
 bif (decide (s0 < (a.edges.length : Int))) then
  (ZA a.edges s0).bind fun x1 =>
  bif (x1.dst == c) then
   (Za4 a b x1.src).bind fun x2 =>
   bif x2 then
    some (.inl (w64 (s0 + 1)))
   else
    some (.inr (.inl ()))
  else
   some (.inl (w64 (s0 + 1)))
 else
  some (.inr (.inr ()))
noncomputable def Zb0 (a : Zm) (b : Zr) (x5 : Zi) (s7 : Int) : Option (Int ⊕ (Unit ⊕ Unit)) :=
 bif (decide (s7 < (x5.ins.length : Int))) then
  (ZA x5.ins s7).bind fun x8 =>
  (Za4 a b x8).bind fun x9 =>
  bif x9 then
   some (.inl (w64 (s7 + 1)))
  else
   some (.inr (.inl ()))
 else
  some (.inr (.inr ()))
noncomputable def Zct (a : Zm) (b : Zr) (c : Int) (s4 : Int) : Option (Int ⊕ (Unit ⊕ Unit)) :=
 bif (decide (s4 < (a.barriers.length : Int))) then
  (ZA a.barriers s4).bind fun x5 =>
  (ZaQ x5.outs c).bind fun x6 =>
  bif x6 then
   (lp (Zb0 a b x5) 0).bind fun r10 =>
   match r10 with
   | (.inl r10) =>
    some (.inr (.inl ()))
   | (.inr r10) =>
    some (.inl (w64 (s4 + 1)))
  else
   some (.inl (w64 (s4 + 1)))
 else
  some (.inr (.inr ()))
noncomputable def ZdD (a : Zm) (b : Zr) (c : Int) : Option Bool :=
 (lp (Zcx a b c) 0).bind fun r3 =>
 match r3 with
 | (.inl r3) =>
  some false
 | (.inr r3) =>
  (lp (Zct a b c) 0).bind fun r11 =>
  match r11 with
  | (.inl r11) =>
   some false
  | (.inr r11) =>
   some true
noncomputable def Zb5 (a : Zq) (b0 : (List Int)) (b1 : (List Int)) (c0 : Int) (c1 : Int) (c2 : (List ZK)) (c3 : (List ZJ)) (c4 : (List Zq)) (c5 : (List Zi)) : Option Bool :=
 (ZA b0 a.user).bind fun x0 =>
 bif (decide (a.pos < x0)) then
  (Za4 (Zm.mk c0 c1 c2 c3 c4 c5) (Zr.mk b0 b1) a.maker).bind fun x1 =>
  bif x1 then
   some false
  else
   some true
 else
  some false
noncomputable def ZcQ (a : Zm) (b : Zr) (s0 : Int) : Option (Int ⊕ (Unit ⊕ Unit)) :=
 bif (decide (s0 < (b.work.length : Int))) then
  (ZA b.work s0).bind fun x1 =>
  bif (decide (x1 < 0)) then
   some (.inr (.inl ()))
  else
   (ZA a.parts s0).bind fun x2 =>
   bif (decide (x2.work < x1)) then
    some (.inr (.inl ()))
   else
    some (.inl (w64 (s0 + 1)))
 else
  some (.inr (.inr ()))
noncomputable def ZcU (a : Zm) (b : Zr) (s4 : Int) : Option (Int ⊕ (Unit ⊕ Unit)) :=
 bif (decide (s4 < (b.work.length : Int))) then
  (ZA b.work s4).bind fun x5 =>
  bif (decide (0 < x5)) then
   (ZdD a b s4).bind fun x6 =>
   bif x6 then
    some (.inl (w64 (s4 + 1)))
   else
    some (.inr (.inl ()))
  else
   some (.inl (w64 (s4 + 1)))
 else
  some (.inr (.inr ()))
noncomputable def ZeA (a : Zm) (b : Zr) : Option Bool :=
 bif ((b.work.length : Int) != (a.parts.length : Int)) then
  some false
 else
  bif ((b.vals.length : Int) != (a.parts.length : Int)) then
   some false
  else
   (lp (ZcQ a b) 0).bind fun r3 =>
   match r3 with
   | (.inl r3) =>
    some false
   | (.inr r3) =>
    (lp (ZcU a b) 0).bind fun r7 =>
    match r7 with
    | (.inl r7) =>
     some false
    | (.inr r7) =>
     (ZP a.futures (fun z0 => Zb5 z0 b.work b.vals a.period a.deadline a.parts a.edges a.futures a.barriers)).bind fun x8 =>
     bif x8 then
      some false
     else
      some true
noncomputable def Zbz (a : Zm) (b : Zr) : Option Int :=
 (ZdJ a).bind fun x0 =>
 bif (x0 == 0) then
  (ZeA a b).bind fun x1 =>
  bif x1 then
   some x0
  else
   some 90
 else
  some x0
noncomputable def Zcw (a : Zm) (b : Zr) (c : Int) (s3 : Int) : Option (Int ⊕ (Unit ⊕ Unit)) :=
 bif (decide (s3 < (a.futures.length : Int))) then
  (ZA a.futures s3).bind fun x4 =>
  bif (x4.user == c) then
   (ZA b.work c).bind fun x5 =>
   bif (x4.pos == x5) then
    (Za4 a b x4.maker).bind fun x6 =>
    bif x6 then
     some (.inr (.inl ()))
    else
     some (.inr (.inr ()))
   else
    some (.inl (w64 (s3 + 1)))
  else
   some (.inl (w64 (s3 + 1)))
 else
  some (.inr (.inl ()))
noncomputable def ZeY (a : Zm) (b : Zr) (c : Int) (s8 : Int) : Option (Int ⊕ (Unit ⊕ Unit)) :=
 bif (decide (s8 < (a.futures.length : Int))) then
  (ZA a.futures s8).bind fun x9 =>
  bif (x9.user == c) then
   (ZA b.work c).bind fun x10 =>
   bif (x9.pos == x10) then
    (Za4 a b x9.maker).bind fun x11 =>
    bif x11 then
     some (.inr (.inl ()))
    else
     some (.inr (.inr ()))
   else
    some (.inl (w64 (s8 + 1)))
  else
   some (.inl (w64 (s8 + 1)))
 else
  some (.inr (.inl ()))
noncomputable def Zei (a : Zm) (b : Zr) (c : Int) : Option Bool :=
 (Za4 a b c).bind fun x0 =>
 bif x0 then
  some false
 else
  (ZA b.work c).bind fun x1 =>
  bif (x1 == 0) then
   (ZdD a b c).bind fun x2 =>
   bif x2 then
    (lp (Zcw a b c) 0).bind fun r7 =>
    match r7 with
    | (.inl r7) =>
     some true
    | (.inr r7) =>
     some false
   else
    some false
  else
   (lp (ZeY a b c) 0).bind fun r12 =>
   match r12 with
   | (.inl r12) =>
    some true
   | (.inr r12) =>
    some false
noncomputable def Zbg (a : (List Int)) : Option Unit :=
 bif (Nat.blt 0 (List.length a)) then
  bif (Nat.ble (List.length a) lim) then
   some ()
  else
   none
 else
  none
noncomputable def Zp (a : Int) (b : Int) (c4 : (List Zq)) : Option Int :=
 (ZA c4 a).bind fun x0 =>
 (ZA c4 b).bind fun x1 =>
 some (w64 (x0.pos - x1.pos))
noncomputable def Ze6 (a : Int) : Option Int :=
 bif (decide (4294967296 ≤ a)) then
  bif (decide (65536 ≤ (Int.fdiv a (2 ^ 32)))) then
   bif (decide (256 ≤ (Int.fdiv (Int.fdiv a (2 ^ 32)) (2 ^ 16)))) then
    bif (decide (0 ≤ (IntKind.u8.wrap (Int.fdiv (Int.fdiv (Int.fdiv a (2 ^ 32)) (2 ^ 16)) (2 ^ 8))))) then
     (Zo3[(IntKind.u8.wrap (Int.fdiv (Int.fdiv (Int.fdiv a (2 ^ 32)) (2 ^ 16)) (2 ^ 8))).toNat]?).bind fun x0 =>
     some (w64 (56 + (w64 (x0.toNat : Int))))
    else
     none
   else
    bif (decide (0 ≤ (IntKind.u8.wrap (Int.fdiv (Int.fdiv a (2 ^ 32)) (2 ^ 16))))) then
     (Zo3[(IntKind.u8.wrap (Int.fdiv (Int.fdiv a (2 ^ 32)) (2 ^ 16))).toNat]?).bind fun x1 =>
     some (w64 (48 + (w64 (x1.toNat : Int))))
    else
     none
  else
   bif (decide (256 ≤ (Int.fdiv a (2 ^ 32)))) then
    bif (decide (0 ≤ (IntKind.u8.wrap (Int.fdiv (Int.fdiv a (2 ^ 32)) (2 ^ 8))))) then
     (Zo3[(IntKind.u8.wrap (Int.fdiv (Int.fdiv a (2 ^ 32)) (2 ^ 8))).toNat]?).bind fun x2 =>
     some (w64 (40 + (w64 (x2.toNat : Int))))
    else
     none
   else
    bif (decide (0 ≤ (IntKind.u8.wrap (Int.fdiv a (2 ^ 32))))) then
     (Zo3[(IntKind.u8.wrap (Int.fdiv a (2 ^ 32))).toNat]?).bind fun x3 =>
     some (w64 (32 + (w64 (x3.toNat : Int))))
    else
     none
 else
  bif (decide (65536 ≤ a)) then
   bif (decide (256 ≤ (Int.fdiv a (2 ^ 16)))) then
    bif (decide (0 ≤ (IntKind.u8.wrap (Int.fdiv (Int.fdiv a (2 ^ 16)) (2 ^ 8))))) then
     (Zo3[(IntKind.u8.wrap (Int.fdiv (Int.fdiv a (2 ^ 16)) (2 ^ 8))).toNat]?).bind fun x4 =>
     some (w64 (24 + (w64 (x4.toNat : Int))))
    else
     none
   else
    bif (decide (0 ≤ (IntKind.u8.wrap (Int.fdiv a (2 ^ 16))))) then
     (Zo3[(IntKind.u8.wrap (Int.fdiv a (2 ^ 16))).toNat]?).bind fun x5 =>
     some (w64 (16 + (w64 (x5.toNat : Int))))
    else
     none
  else
   bif (decide (256 ≤ a)) then
    bif (decide (0 ≤ (IntKind.u8.wrap (Int.fdiv a (2 ^ 8))))) then
     (Zo3[(IntKind.u8.wrap (Int.fdiv a (2 ^ 8))).toNat]?).bind fun x6 =>
     some (w64 (8 + (w64 (x6.toNat : Int))))
    else
     none
   else
    bif (decide (0 ≤ (IntKind.u8.wrap a))) then
     (Zo3[(IntKind.u8.wrap a).toNat]?).bind fun x7 =>
     some (w64 (0 + (w64 (x7.toNat : Int))))
    else
     none
noncomputable def ZdF (a : Int) : Option Int :=
 (Ze6 a).bind fun x0 =>
 some x0
noncomputable def ZT (b : Int) (d : (Int → Int → Option Int)) (s1 : Int × (List Int)) : Option ((Int × (List Int)) ⊕ (List Int)) :=
 bif (decide (b < s1.1)) then
  (ZA s1.2 s1.1).bind fun x2 =>
  (ZA s1.2 (w64 (s1.1 - 1))).bind fun x3 =>
  (d x2 x3).bind fun x4 =>
  bif (decide (x4 < 0)) then
   (ZA (List.set s1.2 s1.1.toNat x3) (w64 (s1.1 - 1))).bind fun x5 =>
   some (.inl ((w64 (s1.1 - 1)), (List.set (List.set s1.2 s1.1.toNat x3) (w64 (s1.1 - 1)).toNat x2)))
  else
   some (.inr s1.2)
 else
  some (.inr s1.2)
noncomputable def Zac (b : Int) (c : Int) (d : (Int → Int → Option Int)) (s0 : Int × (List Int)) : Option ((Int × (List Int)) ⊕ (List Int)) :=
 bif (decide (s0.1 < c)) then
  (lp (ZT b d) (s0.1, s0.2)).bind fun r6 =>
  some (.inl ((w64 (s0.1 + 1)), r6))
 else
  some (.inr s0.2)
noncomputable def ZR (b : Int) (c : Int) (d : (Int → Int → Option Int)) (m0_0 : (List Int)) : Option (List Int) :=
 (lp (Zac b c d) ((w64 (b + 1)), m0_0)).bind fun r7 =>
 some r7
noncomputable def ZC (c : Int) (d : Int) (e : (Int → Int → Option Int)) (s0 : Int × (List Int)) : Option ((Int × (List Int)) ⊕ ((List Int) ⊕ (List Int))) :=
 bif (decide (c ≤ (w64 ((w64 (2 * s0.1)) + 1)))) then
  some (.inr (.inl s0.2))
 else
  bif (decide ((w64 ((w64 ((w64 (2 * s0.1)) + 1)) + 1)) < c)) then
   (ZA s0.2 (w64 (d + (w64 ((w64 (2 * s0.1)) + 1))))).bind fun x1 =>
   (ZA s0.2 (w64 ((w64 (d + (w64 ((w64 (2 * s0.1)) + 1)))) + 1))).bind fun x2 =>
   (e x1 x2).bind fun x3 =>
   bif (decide (x3 < 0)) then
    (ZA s0.2 (w64 (d + s0.1))).bind fun x4 =>
    (ZA s0.2 (w64 (d + (w64 ((w64 ((w64 (2 * s0.1)) + 1)) + 1))))).bind fun x5 =>
    (e x4 x5).bind fun x6 =>
    bif (decide (x6 < 0)) then
     (ZA (List.set s0.2 (w64 (d + s0.1)).toNat x5) (w64 (d + (w64 ((w64 ((w64 (2 * s0.1)) + 1)) + 1))))).bind fun x7 =>
     some (.inl ((w64 ((w64 ((w64 (2 * s0.1)) + 1)) + 1)), (List.set (List.set s0.2 (w64 (d + s0.1)).toNat x5) (w64 (d + (w64 ((w64 ((w64 (2 * s0.1)) + 1)) + 1)))).toNat x4)))
    else
     some (.inr (.inr s0.2))
   else
    (ZA s0.2 (w64 (d + s0.1))).bind fun x8 =>
    (e x8 x1).bind fun x9 =>
    bif (decide (x9 < 0)) then
     (ZA (List.set s0.2 (w64 (d + s0.1)).toNat x1) (w64 (d + (w64 ((w64 (2 * s0.1)) + 1))))).bind fun x10 =>
     some (.inl ((w64 ((w64 (2 * s0.1)) + 1)), (List.set (List.set s0.2 (w64 (d + s0.1)).toNat x1) (w64 (d + (w64 ((w64 (2 * s0.1)) + 1)))).toNat x8)))
    else
     some (.inr (.inr s0.2))
  else
   (ZA s0.2 (w64 (d + s0.1))).bind fun x11 =>
   (ZA s0.2 (w64 (d + (w64 ((w64 (2 * s0.1)) + 1))))).bind fun x12 =>
   (e x11 x12).bind fun x13 =>
   bif (decide (x13 < 0)) then
    (ZA (List.set s0.2 (w64 (d + s0.1)).toNat x12) (w64 (d + (w64 ((w64 (2 * s0.1)) + 1))))).bind fun x14 =>
    some (.inl ((w64 ((w64 (2 * s0.1)) + 1)), (List.set (List.set s0.2 (w64 (d + s0.1)).toNat x12) (w64 (d + (w64 ((w64 (2 * s0.1)) + 1)))).toNat x11)))
   else
    some (.inr (.inr s0.2))
noncomputable def Zas (b : Int) (c : Int) (d : Int) (e : (Int → Int → Option Int)) (m0_0 : (List Int)) : Option (List Int) :=
 (lp (ZC c d e) (b, m0_0)).bind fun r15 =>
 match r15 with
 | (.inl r15) =>
  some r15
 | (.inr r15) =>
  some r15
noncomputable def Zaw (b : Int) (c : Int) (d : (Int → Int → Option Int)) (s0 : Int × (List Int)) : Option ((Int × (List Int)) ⊕ (List Int)) :=
 bif (decide (0 ≤ s0.1)) then
  (Zas s0.1 (w64 (c - b)) b d s0.2).bind fun x1 =>
  some (.inl ((w64 (s0.1 - 1)), x1))
 else
  some (.inr s0.2)
noncomputable def Zax (b : Int) (d : (Int → Int → Option Int)) (s3 : Int × (List Int)) : Option ((Int × (List Int)) ⊕ (List Int)) :=
 bif (decide (0 ≤ s3.1)) then
  (ZA s3.2 (w64 (b + s3.1))).bind fun x4 =>
  (ZA s3.2 b).bind fun x5 =>
  (ZA (List.set s3.2 b.toNat x4) (w64 (b + s3.1))).bind fun x6 =>
  (Zas 0 s3.1 b d (List.set (List.set s3.2 b.toNat x4) (w64 (b + s3.1)).toNat x5)).bind fun x7 =>
  some (.inl ((w64 (s3.1 - 1)), x7))
 else
  some (.inr s3.2)
noncomputable def Z0 (b : Int) (c : Int) (d : (Int → Int → Option Int)) (m0_0 : (List Int)) : Option (List Int) :=
 (lp (Zaw b c d) ((w64 (Int.tdiv (w64 ((w64 (c - b)) - 1)) 2)), m0_0)).bind fun r2 =>
 (lp (Zax b d) ((w64 ((w64 (c - b)) - 1)), r2)).bind fun r8 =>
 some r8
noncomputable def ZaE (b : Int) (c : Int) (e : (Int → Int → Option Int)) (m0_0 : (List Int)) (m1_0 : Int) : Option (Int × Int × Int) :=
 (ZA m0_0 c).bind fun x0 =>
 (ZA m0_0 b).bind fun x1 =>
 (e x0 x1).bind fun x2 =>
 bif (decide (x2 < 0)) then
  some (c, b, (w64 (m1_0 + 1)))
 else
  some (b, c, m1_0)
noncomputable def ZaD (b : Int) (c : Int) (d : Int) (f : (Int → Int → Option Int)) (m0_0 : (List Int)) (m1_0 : Int) : Option (Int × Int) :=
 (ZaE b c f m0_0 m1_0).bind fun x0 =>
 (ZaE x0.2.1 d f m0_0 x0.2.2).bind fun x1 =>
 (ZaE x0.1 x1.1 f m0_0 x1.2.2).bind fun x2 =>
 some (x2.2.1, x2.2.2)
noncomputable def Z1 (b : Int) (d : (Int → Int → Option Int)) (m0_0 : (List Int)) (m1_0 : Int) : Option (Int × Int) :=
 (ZaD (w64 (b - 1)) b (w64 (b + 1)) d m0_0 m1_0).bind fun x0 =>
 some (x0.1, x0.2)
noncomputable def ZF (b : Int) (c : Int) (d : (Int → Int → Option Int)) (m0_0 : (List Int)) : Option (Int × Int) :=
 bif (decide (8 ≤ (w64 (c - b)))) then
  bif (decide (50 ≤ (w64 (c - b)))) then
   (Z1 (w64 (b + (w64 ((w64 (Int.tdiv (w64 (c - b)) 4)) * 1)))) d m0_0 0).bind fun x0 =>
   (Z1 (w64 (b + (w64 ((w64 (Int.tdiv (w64 (c - b)) 4)) * 2)))) d m0_0 x0.2).bind fun x1 =>
   (Z1 (w64 (b + (w64 ((w64 (Int.tdiv (w64 (c - b)) 4)) * 3)))) d m0_0 x1.2).bind fun x2 =>
   (ZaD x0.1 x1.1 x2.1 d m0_0 x2.2).bind fun x3 =>
   bif (x3.2 == 0) then
    some (x3.1, 1)
   else
    bif (x3.2 == 12) then
     some (x3.1, 2)
    else
     some (x3.1, 0)
  else
   (ZaD (w64 (b + (w64 ((w64 (Int.tdiv (w64 (c - b)) 4)) * 1)))) (w64 (b + (w64 ((w64 (Int.tdiv (w64 (c - b)) 4)) * 2)))) (w64 (b + (w64 ((w64 (Int.tdiv (w64 (c - b)) 4)) * 3)))) d m0_0 0).bind fun x4 =>
   bif (x4.2 == 0) then
    some (x4.1, 1)
   else
    bif (x4.2 == 12) then
     some (x4.1, 2)
    else
     some (x4.1, 0)
 else
  some ((w64 (b + (w64 ((w64 (Int.tdiv (w64 (c - b)) 4)) * 2)))), 1)
noncomputable def ZZ (s0 : Int × Int × (List Int)) : Option ((Int × Int × (List Int)) ⊕ (List Int)) :=
 bif (decide (s0.1 < s0.2.1)) then
  (ZA s0.2.2 s0.2.1).bind fun x1 =>
  (ZA s0.2.2 s0.1).bind fun x2 =>
  (ZA (List.set s0.2.2 s0.1.toNat x1) s0.2.1).bind fun x3 =>
  some (.inl ((w64 (s0.1 + 1)), (w64 (s0.2.1 - 1)), (List.set (List.set s0.2.2 s0.1.toNat x1) s0.2.1.toNat x2)))
 else
  some (.inr s0.2.2)
noncomputable def ZE (b : Int) (c : Int) (d : (Int → Int → Option Int)) (m0_0 : (List Int)) : Option (List Int) :=
 (lp (ZZ) (b, (w64 (c - 1)), m0_0)).bind fun r4 =>
 some r4
noncomputable def ZD (c : Int) (d : (Int → Int → Option Int)) (s0 : Int × Int × (List Int)) (s1 : Int) : Option (Int ⊕ Int) :=
 bif (decide (s1 < c)) then
  (ZA s0.2.2 s1).bind fun x2 =>
  (ZA s0.2.2 (w64 (s1 - 1))).bind fun x3 =>
  (d x2 x3).bind fun x4 =>
  bif (decide (x4 < 0)) then
   some (.inr s1)
  else
   some (.inl (w64 (s1 + 1)))
 else
  some (.inr s1)
noncomputable def ZN (d : (Int → Int → Option Int)) (s9 : Int × (List Int)) : Option ((Int × (List Int)) ⊕ (List Int)) :=
 bif (decide (1 ≤ s9.1)) then
  (ZA s9.2 s9.1).bind fun x10 =>
  (ZA s9.2 (w64 (s9.1 - 1))).bind fun x11 =>
  (d x10 x11).bind fun x12 =>
  bif (decide (x12 < 0)) then
   (ZA (List.set s9.2 s9.1.toNat x11) (w64 (s9.1 - 1))).bind fun x13 =>
   some (.inl ((w64 (s9.1 - 1)), (List.set (List.set s9.2 s9.1.toNat x11) (w64 (s9.1 - 1)).toNat x10)))
  else
   some (.inr s9.2)
 else
  some (.inr s9.2)
noncomputable def ZB (c : Int) (d : (Int → Int → Option Int)) (s15 : Int × (List Int)) : Option ((Int × (List Int)) ⊕ (List Int)) :=
 bif (decide (s15.1 < c)) then
  (ZA s15.2 s15.1).bind fun x16 =>
  (ZA s15.2 (w64 (s15.1 - 1))).bind fun x17 =>
  (d x16 x17).bind fun x18 =>
  bif (decide (x18 < 0)) then
   (ZA (List.set s15.2 s15.1.toNat x17) (w64 (s15.1 - 1))).bind fun x19 =>
   some (.inl ((w64 (s15.1 + 1)), (List.set (List.set s15.2 s15.1.toNat x17) (w64 (s15.1 - 1)).toNat x16)))
  else
   some (.inr s15.2)
 else
  some (.inr s15.2)
noncomputable def Zal (c : Int) (d : (Int → Int → Option Int)) (s21 : Int × (List Int)) : Option ((Int × (List Int)) ⊕ (List Int)) :=
 bif (decide (s21.1 < c)) then
  (ZA s21.2 s21.1).bind fun x22 =>
  (ZA s21.2 (w64 (s21.1 - 1))).bind fun x23 =>
  (d x22 x23).bind fun x24 =>
  bif (decide (x24 < 0)) then
   (ZA (List.set s21.2 s21.1.toNat x23) (w64 (s21.1 - 1))).bind fun x25 =>
   some (.inl ((w64 (s21.1 + 1)), (List.set (List.set s21.2 s21.1.toNat x23) (w64 (s21.1 - 1)).toNat x22)))
  else
   some (.inr s21.2)
 else
  some (.inr s21.2)
noncomputable def ZM (b : Int) (c : Int) (d : (Int → Int → Option Int)) (s0 : Int × Int × (List Int)) : Option ((Int × Int × (List Int)) ⊕ ((List Int) ⊕ ((List Int) ⊕ (List Int)))) :=
 bif (decide (s0.2.1 < 5)) then
  (lp (ZD c d s0) s0.1).bind fun r5 =>
  bif (r5 == c) then
   some (.inr (.inl s0.2.2))
  else
   bif (decide ((w64 (c - b)) < 50)) then
    some (.inr (.inr (.inl s0.2.2)))
   else
    (ZA s0.2.2 (w64 (r5 - 1))).bind fun x6 =>
    (ZA s0.2.2 r5).bind fun x7 =>
    (ZA (List.set s0.2.2 r5.toNat x6) (w64 (r5 - 1))).bind fun x8 =>
    bif (decide (2 ≤ (w64 (r5 - b)))) then
     (lp (ZN d) ((w64 (r5 - 1)), (List.set (List.set s0.2.2 r5.toNat x6) (w64 (r5 - 1)).toNat x7))).bind fun r14 =>
     bif (decide (2 ≤ (w64 (c - r5)))) then
      (lp (ZB c d) ((w64 (r5 + 1)), r14)).bind fun r20 =>
      some (.inl (r5, (w64 (s0.2.1 + 1)), r20))
     else
      some (.inl (r5, (w64 (s0.2.1 + 1)), r14))
    else
     bif (decide (2 ≤ (w64 (c - r5)))) then
      (lp (Zal c d) ((w64 (r5 + 1)), (List.set (List.set s0.2.2 r5.toNat x6) (w64 (r5 - 1)).toNat x7))).bind fun r26 =>
      some (.inl (r5, (w64 (s0.2.1 + 1)), r26))
     else
      some (.inl (r5, (w64 (s0.2.1 + 1)), (List.set (List.set s0.2.2 r5.toNat x6) (w64 (r5 - 1)).toNat x7)))
 else
  some (.inr (.inr (.inr s0.2.2)))
noncomputable def ZH (b : Int) (c : Int) (d : (Int → Int → Option Int)) (m0_0 : (List Int)) : Option ((List Int) ⊕ (List Int)) :=
 (lp (ZM b c d) ((w64 (b + 1)), 0, m0_0)).bind fun r27 =>
 match r27 with
 | (.inl r27) =>
  some (.inl r27)
 | (.inr (.inl r27)) =>
  some (.inr r27)
 | (.inr (.inr r27)) =>
  some (.inr r27)
noncomputable def Zao (b : Int) (c : Int) (d : Int) (m0_0 : (List Int)) (e : (Int → Int → Option Int)) (x0 : Int) (x1 : Int) (s3 : Int) : Option (Int ⊕ Int) :=
 bif (decide (s3 ≤ (w64 (c - 1)))) then
  (ZA (List.set (List.set m0_0 b.toNat x0) d.toNat x1) s3).bind fun x4 =>
  (ZA (List.set (List.set m0_0 b.toNat x0) d.toNat x1) b).bind fun x5 =>
  (e x4 x5).bind fun x6 =>
  bif (decide (x6 < 0)) then
   some (.inl (w64 (s3 + 1)))
  else
   some (.inr s3)
 else
  some (.inr s3)
noncomputable def Zaq (b : Int) (d : Int) (m0_0 : (List Int)) (e : (Int → Int → Option Int)) (x0 : Int) (x1 : Int) (r7 : Int) (s8 : Int) : Option (Int ⊕ Int) :=
 bif (decide (r7 ≤ s8)) then
  (ZA (List.set (List.set m0_0 b.toNat x0) d.toNat x1) s8).bind fun x9 =>
  (ZA (List.set (List.set m0_0 b.toNat x0) d.toNat x1) b).bind fun x10 =>
  (e x9 x10).bind fun x11 =>
  bif (decide (x11 < 0)) then
   some (.inr s8)
  else
   some (.inl (w64 (s8 - 1)))
 else
  some (.inr s8)
noncomputable def Zap (b : Int) (e : (Int → Int → Option Int)) (s19 : Int × Int × (List Int)) (s20 : Int) : Option (Int ⊕ Int) :=
 bif (decide (s20 ≤ s19.2.1)) then
  (ZA s19.2.2 s20).bind fun x21 =>
  (ZA s19.2.2 b).bind fun x22 =>
  (e x21 x22).bind fun x23 =>
  bif (decide (x23 < 0)) then
   some (.inl (w64 (s20 + 1)))
  else
   some (.inr s20)
 else
  some (.inr s20)
noncomputable def Zan (b : Int) (e : (Int → Int → Option Int)) (s19 : Int × Int × (List Int)) (r24 : Int) (s25 : Int) : Option (Int ⊕ Int) :=
 bif (decide (r24 ≤ s25)) then
  (ZA s19.2.2 s25).bind fun x26 =>
  (ZA s19.2.2 b).bind fun x27 =>
  (e x26 x27).bind fun x28 =>
  bif (decide (x28 < 0)) then
   some (.inr s25)
  else
   some (.inl (w64 (s25 - 1)))
 else
  some (.inr s25)
noncomputable def ZaJ (b : Int) (e : (Int → Int → Option Int)) (s19 : Int × Int × (List Int)) : Option ((Int × Int × (List Int)) ⊕ (Int × (List Int))) :=
 (lp (Zap b e s19) s19.1).bind fun r24 =>
 (lp (Zan b e s19 r24) s19.2.1).bind fun r29 =>
 bif (decide (r29 < r24)) then
  some (.inr (r29, s19.2.2))
 else
  (ZA s19.2.2 r29).bind fun x30 =>
  (ZA s19.2.2 r24).bind fun x31 =>
  (ZA (List.set s19.2.2 r24.toNat x30) r29).bind fun x32 =>
  some (.inl ((w64 (r24 + 1)), (w64 (r29 - 1)), (List.set (List.set s19.2.2 r24.toNat x30) r29.toNat x31)))
noncomputable def Zn (b : Int) (c : Int) (d : Int) (e : (Int → Int → Option Int)) (m0_0 : (List Int)) : Option ((Int × (List Int)) ⊕ (Int × (List Int))) :=
 (ZA m0_0 d).bind fun x0 =>
 (ZA m0_0 b).bind fun x1 =>
 (ZA (List.set m0_0 b.toNat x0) d).bind fun x2 =>
 (lp (Zao b c d m0_0 e x0 x1) (w64 (b + 1))).bind fun r7 =>
 (lp (Zaq b d m0_0 e x0 x1 r7) (w64 (c - 1))).bind fun r12 =>
 bif (decide (r12 < r7)) then
  (ZA (List.set (List.set m0_0 b.toNat x0) d.toNat x1) b).bind fun x13 =>
  (ZA (List.set (List.set m0_0 b.toNat x0) d.toNat x1) r12).bind fun x14 =>
  (ZA (List.set (List.set (List.set m0_0 b.toNat x0) d.toNat x1) r12.toNat x13) b).bind fun x15 =>
  some (.inl (r12, (List.set (List.set (List.set (List.set m0_0 b.toNat x0) d.toNat x1) r12.toNat x13) b.toNat x14)))
 else
  (ZA (List.set (List.set m0_0 b.toNat x0) d.toNat x1) r12).bind fun x16 =>
  (ZA (List.set (List.set m0_0 b.toNat x0) d.toNat x1) r7).bind fun x17 =>
  (ZA (List.set (List.set (List.set m0_0 b.toNat x0) d.toNat x1) r7.toNat x16) r12).bind fun x18 =>
  (lp (ZaJ b e) ((w64 (r7 + 1)), (w64 (r12 - 1)), (List.set (List.set (List.set (List.set m0_0 b.toNat x0) d.toNat x1) r7.toNat x16) r12.toNat x17))).bind fun r33 =>
  (ZA r33.2 b).bind fun x34 =>
  (ZA r33.2 r33.1).bind fun x35 =>
  (ZA (List.set r33.2 r33.1.toNat x34) b).bind fun x36 =>
  some (.inr (r33.1, (List.set (List.set r33.2 r33.1.toNat x34) b.toNat x35)))
noncomputable def Z8 (b : Int) (e : (Int → Int → Option Int)) (s3 : Int × Int × (List Int)) (s4 : Int) : Option (Int ⊕ Int) :=
 bif (decide (s4 ≤ s3.2.1)) then
  (ZA s3.2.2 b).bind fun x5 =>
  (ZA s3.2.2 s4).bind fun x6 =>
  (e x5 x6).bind fun x7 =>
  bif (decide (x7 < 0)) then
   some (.inr s4)
  else
   some (.inl (w64 (s4 + 1)))
 else
  some (.inr s4)
noncomputable def Z7 (b : Int) (e : (Int → Int → Option Int)) (s3 : Int × Int × (List Int)) (r8 : Int) (s9 : Int) : Option (Int ⊕ Int) :=
 bif (decide (r8 ≤ s9)) then
  (ZA s3.2.2 b).bind fun x10 =>
  (ZA s3.2.2 s9).bind fun x11 =>
  (e x10 x11).bind fun x12 =>
  bif (decide (x12 < 0)) then
   some (.inl (w64 (s9 - 1)))
  else
   some (.inr s9)
 else
  some (.inr s9)
noncomputable def Zar (b : Int) (e : (Int → Int → Option Int)) (s3 : Int × Int × (List Int)) : Option ((Int × Int × (List Int)) ⊕ (Int × (List Int))) :=
 (lp (Z8 b e s3) s3.1).bind fun r8 =>
 (lp (Z7 b e s3 r8) s3.2.1).bind fun r13 =>
 bif (decide (r13 < r8)) then
  some (.inr (r8, s3.2.2))
 else
  (ZA s3.2.2 r13).bind fun x14 =>
  (ZA s3.2.2 r8).bind fun x15 =>
  (ZA (List.set s3.2.2 r8.toNat x14) r13).bind fun x16 =>
  some (.inl ((w64 (r8 + 1)), (w64 (r13 - 1)), (List.set (List.set s3.2.2 r8.toNat x14) r13.toNat x15)))
noncomputable def Zx (b : Int) (c : Int) (d : Int) (e : (Int → Int → Option Int)) (m0_0 : (List Int)) : Option (Int × (List Int)) :=
 (ZA m0_0 d).bind fun x0 =>
 (ZA m0_0 b).bind fun x1 =>
 (ZA (List.set m0_0 b.toNat x0) d).bind fun x2 =>
 (lp (Zar b e) ((w64 (b + 1)), (w64 (c - 1)), (List.set (List.set m0_0 b.toNat x0) d.toNat x1))).bind fun r17 =>
 some (r17.1, r17.2)
noncomputable def Zb1 (a : Int) : Option Int :=
 (ZdF (IntKind.u64.wrap a)).bind fun x0 =>
 bif (decide (x0 < 0)) then
  none
 else
  some (IntKind.u64.wrap (1 * 2 ^ (min (x0).toNat IntKind.u64.bits)))
noncomputable def Zc5 : Option Unit :=
 some ()
noncomputable def Zav (b : Int) (c : Int) (x0 : Int) (s1 : Int × (List Int) × Int) : Option ((Int × (List Int) × Int) ⊕ (List Int)) :=
 bif (decide (s1.1 ≤ (w64 ((w64 (b + (w64 ((w64 (Int.tdiv (w64 (c - b)) 4)) * 2)))) + 1)))) then
  Zc5.bind fun x2 =>
  bif (decide ((w64 (c - b)) ≤ (w64 (IntKind.u64.wrap (BitVec.ofInt IntKind.u64.bits (IntKind.u64.wrap (BitVec.ofInt IntKind.u64.bits (IntKind.u64.wrap (BitVec.ofInt IntKind.u64.bits (IntKind.u64.wrap (BitVec.ofInt IntKind.u64.bits s1.2.2 ^^^ BitVec.ofInt IntKind.u64.bits (IntKind.u64.wrap (s1.2.2 * 2 ^ 13))).toNat) ^^^ BitVec.ofInt IntKind.u64.bits (Int.fdiv (IntKind.u64.wrap (BitVec.ofInt IntKind.u64.bits s1.2.2 ^^^ BitVec.ofInt IntKind.u64.bits (IntKind.u64.wrap (s1.2.2 * 2 ^ 13))).toNat) (2 ^ 7))).toNat) ^^^ BitVec.ofInt IntKind.u64.bits (IntKind.u64.wrap ((IntKind.u64.wrap (BitVec.ofInt IntKind.u64.bits (IntKind.u64.wrap (BitVec.ofInt IntKind.u64.bits s1.2.2 ^^^ BitVec.ofInt IntKind.u64.bits (IntKind.u64.wrap (s1.2.2 * 2 ^ 13))).toNat) ^^^ BitVec.ofInt IntKind.u64.bits (Int.fdiv (IntKind.u64.wrap (BitVec.ofInt IntKind.u64.bits s1.2.2 ^^^ BitVec.ofInt IntKind.u64.bits (IntKind.u64.wrap (s1.2.2 * 2 ^ 13))).toNat) (2 ^ 7))).toNat) * 2 ^ 17))).toNat) &&& BitVec.ofInt IntKind.u64.bits (IntKind.u64.wrap (x0 - 1))).toNat)))) then
   (ZA s1.2.1 (w64 (b + (w64 ((w64 (IntKind.u64.wrap (BitVec.ofInt IntKind.u64.bits (IntKind.u64.wrap (BitVec.ofInt IntKind.u64.bits (IntKind.u64.wrap (BitVec.ofInt IntKind.u64.bits (IntKind.u64.wrap (BitVec.ofInt IntKind.u64.bits s1.2.2 ^^^ BitVec.ofInt IntKind.u64.bits (IntKind.u64.wrap (s1.2.2 * 2 ^ 13))).toNat) ^^^ BitVec.ofInt IntKind.u64.bits (Int.fdiv (IntKind.u64.wrap (BitVec.ofInt IntKind.u64.bits s1.2.2 ^^^ BitVec.ofInt IntKind.u64.bits (IntKind.u64.wrap (s1.2.2 * 2 ^ 13))).toNat) (2 ^ 7))).toNat) ^^^ BitVec.ofInt IntKind.u64.bits (IntKind.u64.wrap ((IntKind.u64.wrap (BitVec.ofInt IntKind.u64.bits (IntKind.u64.wrap (BitVec.ofInt IntKind.u64.bits s1.2.2 ^^^ BitVec.ofInt IntKind.u64.bits (IntKind.u64.wrap (s1.2.2 * 2 ^ 13))).toNat) ^^^ BitVec.ofInt IntKind.u64.bits (Int.fdiv (IntKind.u64.wrap (BitVec.ofInt IntKind.u64.bits s1.2.2 ^^^ BitVec.ofInt IntKind.u64.bits (IntKind.u64.wrap (s1.2.2 * 2 ^ 13))).toNat) (2 ^ 7))).toNat) * 2 ^ 17))).toNat) &&& BitVec.ofInt IntKind.u64.bits (IntKind.u64.wrap (x0 - 1))).toNat)) - (w64 (c - b))))))).bind fun x3 =>
   (ZA s1.2.1 s1.1).bind fun x4 =>
   (ZA (List.set s1.2.1 s1.1.toNat x3) (w64 (b + (w64 ((w64 (IntKind.u64.wrap (BitVec.ofInt IntKind.u64.bits (IntKind.u64.wrap (BitVec.ofInt IntKind.u64.bits (IntKind.u64.wrap (BitVec.ofInt IntKind.u64.bits (IntKind.u64.wrap (BitVec.ofInt IntKind.u64.bits s1.2.2 ^^^ BitVec.ofInt IntKind.u64.bits (IntKind.u64.wrap (s1.2.2 * 2 ^ 13))).toNat) ^^^ BitVec.ofInt IntKind.u64.bits (Int.fdiv (IntKind.u64.wrap (BitVec.ofInt IntKind.u64.bits s1.2.2 ^^^ BitVec.ofInt IntKind.u64.bits (IntKind.u64.wrap (s1.2.2 * 2 ^ 13))).toNat) (2 ^ 7))).toNat) ^^^ BitVec.ofInt IntKind.u64.bits (IntKind.u64.wrap ((IntKind.u64.wrap (BitVec.ofInt IntKind.u64.bits (IntKind.u64.wrap (BitVec.ofInt IntKind.u64.bits s1.2.2 ^^^ BitVec.ofInt IntKind.u64.bits (IntKind.u64.wrap (s1.2.2 * 2 ^ 13))).toNat) ^^^ BitVec.ofInt IntKind.u64.bits (Int.fdiv (IntKind.u64.wrap (BitVec.ofInt IntKind.u64.bits s1.2.2 ^^^ BitVec.ofInt IntKind.u64.bits (IntKind.u64.wrap (s1.2.2 * 2 ^ 13))).toNat) (2 ^ 7))).toNat) * 2 ^ 17))).toNat) &&& BitVec.ofInt IntKind.u64.bits (IntKind.u64.wrap (x0 - 1))).toNat)) - (w64 (c - b))))))).bind fun x5 =>
   some (.inl ((w64 (s1.1 + 1)), (List.set (List.set s1.2.1 s1.1.toNat x3) (w64 (b + (w64 ((w64 (IntKind.u64.wrap (BitVec.ofInt IntKind.u64.bits (IntKind.u64.wrap (BitVec.ofInt IntKind.u64.bits (IntKind.u64.wrap (BitVec.ofInt IntKind.u64.bits (IntKind.u64.wrap (BitVec.ofInt IntKind.u64.bits s1.2.2 ^^^ BitVec.ofInt IntKind.u64.bits (IntKind.u64.wrap (s1.2.2 * 2 ^ 13))).toNat) ^^^ BitVec.ofInt IntKind.u64.bits (Int.fdiv (IntKind.u64.wrap (BitVec.ofInt IntKind.u64.bits s1.2.2 ^^^ BitVec.ofInt IntKind.u64.bits (IntKind.u64.wrap (s1.2.2 * 2 ^ 13))).toNat) (2 ^ 7))).toNat) ^^^ BitVec.ofInt IntKind.u64.bits (IntKind.u64.wrap ((IntKind.u64.wrap (BitVec.ofInt IntKind.u64.bits (IntKind.u64.wrap (BitVec.ofInt IntKind.u64.bits s1.2.2 ^^^ BitVec.ofInt IntKind.u64.bits (IntKind.u64.wrap (s1.2.2 * 2 ^ 13))).toNat) ^^^ BitVec.ofInt IntKind.u64.bits (Int.fdiv (IntKind.u64.wrap (BitVec.ofInt IntKind.u64.bits s1.2.2 ^^^ BitVec.ofInt IntKind.u64.bits (IntKind.u64.wrap (s1.2.2 * 2 ^ 13))).toNat) (2 ^ 7))).toNat) * 2 ^ 17))).toNat) &&& BitVec.ofInt IntKind.u64.bits (IntKind.u64.wrap (x0 - 1))).toNat)) - (w64 (c - b)))))).toNat x4), (IntKind.u64.wrap (BitVec.ofInt IntKind.u64.bits (IntKind.u64.wrap (BitVec.ofInt IntKind.u64.bits (IntKind.u64.wrap (BitVec.ofInt IntKind.u64.bits s1.2.2 ^^^ BitVec.ofInt IntKind.u64.bits (IntKind.u64.wrap (s1.2.2 * 2 ^ 13))).toNat) ^^^ BitVec.ofInt IntKind.u64.bits (Int.fdiv (IntKind.u64.wrap (BitVec.ofInt IntKind.u64.bits s1.2.2 ^^^ BitVec.ofInt IntKind.u64.bits (IntKind.u64.wrap (s1.2.2 * 2 ^ 13))).toNat) (2 ^ 7))).toNat) ^^^ BitVec.ofInt IntKind.u64.bits (IntKind.u64.wrap ((IntKind.u64.wrap (BitVec.ofInt IntKind.u64.bits (IntKind.u64.wrap (BitVec.ofInt IntKind.u64.bits s1.2.2 ^^^ BitVec.ofInt IntKind.u64.bits (IntKind.u64.wrap (s1.2.2 * 2 ^ 13))).toNat) ^^^ BitVec.ofInt IntKind.u64.bits (Int.fdiv (IntKind.u64.wrap (BitVec.ofInt IntKind.u64.bits s1.2.2 ^^^ BitVec.ofInt IntKind.u64.bits (IntKind.u64.wrap (s1.2.2 * 2 ^ 13))).toNat) (2 ^ 7))).toNat) * 2 ^ 17))).toNat)))
  else
   (ZA s1.2.1 (w64 (b + (w64 (IntKind.u64.wrap (BitVec.ofInt IntKind.u64.bits (IntKind.u64.wrap (BitVec.ofInt IntKind.u64.bits (IntKind.u64.wrap (BitVec.ofInt IntKind.u64.bits (IntKind.u64.wrap (BitVec.ofInt IntKind.u64.bits s1.2.2 ^^^ BitVec.ofInt IntKind.u64.bits (IntKind.u64.wrap (s1.2.2 * 2 ^ 13))).toNat) ^^^ BitVec.ofInt IntKind.u64.bits (Int.fdiv (IntKind.u64.wrap (BitVec.ofInt IntKind.u64.bits s1.2.2 ^^^ BitVec.ofInt IntKind.u64.bits (IntKind.u64.wrap (s1.2.2 * 2 ^ 13))).toNat) (2 ^ 7))).toNat) ^^^ BitVec.ofInt IntKind.u64.bits (IntKind.u64.wrap ((IntKind.u64.wrap (BitVec.ofInt IntKind.u64.bits (IntKind.u64.wrap (BitVec.ofInt IntKind.u64.bits s1.2.2 ^^^ BitVec.ofInt IntKind.u64.bits (IntKind.u64.wrap (s1.2.2 * 2 ^ 13))).toNat) ^^^ BitVec.ofInt IntKind.u64.bits (Int.fdiv (IntKind.u64.wrap (BitVec.ofInt IntKind.u64.bits s1.2.2 ^^^ BitVec.ofInt IntKind.u64.bits (IntKind.u64.wrap (s1.2.2 * 2 ^ 13))).toNat) (2 ^ 7))).toNat) * 2 ^ 17))).toNat) &&& BitVec.ofInt IntKind.u64.bits (IntKind.u64.wrap (x0 - 1))).toNat))))).bind fun x6 =>
   (ZA s1.2.1 s1.1).bind fun x7 =>
   (ZA (List.set s1.2.1 s1.1.toNat x6) (w64 (b + (w64 (IntKind.u64.wrap (BitVec.ofInt IntKind.u64.bits (IntKind.u64.wrap (BitVec.ofInt IntKind.u64.bits (IntKind.u64.wrap (BitVec.ofInt IntKind.u64.bits (IntKind.u64.wrap (BitVec.ofInt IntKind.u64.bits s1.2.2 ^^^ BitVec.ofInt IntKind.u64.bits (IntKind.u64.wrap (s1.2.2 * 2 ^ 13))).toNat) ^^^ BitVec.ofInt IntKind.u64.bits (Int.fdiv (IntKind.u64.wrap (BitVec.ofInt IntKind.u64.bits s1.2.2 ^^^ BitVec.ofInt IntKind.u64.bits (IntKind.u64.wrap (s1.2.2 * 2 ^ 13))).toNat) (2 ^ 7))).toNat) ^^^ BitVec.ofInt IntKind.u64.bits (IntKind.u64.wrap ((IntKind.u64.wrap (BitVec.ofInt IntKind.u64.bits (IntKind.u64.wrap (BitVec.ofInt IntKind.u64.bits s1.2.2 ^^^ BitVec.ofInt IntKind.u64.bits (IntKind.u64.wrap (s1.2.2 * 2 ^ 13))).toNat) ^^^ BitVec.ofInt IntKind.u64.bits (Int.fdiv (IntKind.u64.wrap (BitVec.ofInt IntKind.u64.bits s1.2.2 ^^^ BitVec.ofInt IntKind.u64.bits (IntKind.u64.wrap (s1.2.2 * 2 ^ 13))).toNat) (2 ^ 7))).toNat) * 2 ^ 17))).toNat) &&& BitVec.ofInt IntKind.u64.bits (IntKind.u64.wrap (x0 - 1))).toNat))))).bind fun x8 =>
   some (.inl ((w64 (s1.1 + 1)), (List.set (List.set s1.2.1 s1.1.toNat x6) (w64 (b + (w64 (IntKind.u64.wrap (BitVec.ofInt IntKind.u64.bits (IntKind.u64.wrap (BitVec.ofInt IntKind.u64.bits (IntKind.u64.wrap (BitVec.ofInt IntKind.u64.bits (IntKind.u64.wrap (BitVec.ofInt IntKind.u64.bits s1.2.2 ^^^ BitVec.ofInt IntKind.u64.bits (IntKind.u64.wrap (s1.2.2 * 2 ^ 13))).toNat) ^^^ BitVec.ofInt IntKind.u64.bits (Int.fdiv (IntKind.u64.wrap (BitVec.ofInt IntKind.u64.bits s1.2.2 ^^^ BitVec.ofInt IntKind.u64.bits (IntKind.u64.wrap (s1.2.2 * 2 ^ 13))).toNat) (2 ^ 7))).toNat) ^^^ BitVec.ofInt IntKind.u64.bits (IntKind.u64.wrap ((IntKind.u64.wrap (BitVec.ofInt IntKind.u64.bits (IntKind.u64.wrap (BitVec.ofInt IntKind.u64.bits s1.2.2 ^^^ BitVec.ofInt IntKind.u64.bits (IntKind.u64.wrap (s1.2.2 * 2 ^ 13))).toNat) ^^^ BitVec.ofInt IntKind.u64.bits (Int.fdiv (IntKind.u64.wrap (BitVec.ofInt IntKind.u64.bits s1.2.2 ^^^ BitVec.ofInt IntKind.u64.bits (IntKind.u64.wrap (s1.2.2 * 2 ^ 13))).toNat) (2 ^ 7))).toNat) * 2 ^ 17))).toNat) &&& BitVec.ofInt IntKind.u64.bits (IntKind.u64.wrap (x0 - 1))).toNat)))).toNat x7), (IntKind.u64.wrap (BitVec.ofInt IntKind.u64.bits (IntKind.u64.wrap (BitVec.ofInt IntKind.u64.bits (IntKind.u64.wrap (BitVec.ofInt IntKind.u64.bits s1.2.2 ^^^ BitVec.ofInt IntKind.u64.bits (IntKind.u64.wrap (s1.2.2 * 2 ^ 13))).toNat) ^^^ BitVec.ofInt IntKind.u64.bits (Int.fdiv (IntKind.u64.wrap (BitVec.ofInt IntKind.u64.bits s1.2.2 ^^^ BitVec.ofInt IntKind.u64.bits (IntKind.u64.wrap (s1.2.2 * 2 ^ 13))).toNat) (2 ^ 7))).toNat) ^^^ BitVec.ofInt IntKind.u64.bits (IntKind.u64.wrap ((IntKind.u64.wrap (BitVec.ofInt IntKind.u64.bits (IntKind.u64.wrap (BitVec.ofInt IntKind.u64.bits s1.2.2 ^^^ BitVec.ofInt IntKind.u64.bits (IntKind.u64.wrap (s1.2.2 * 2 ^ 13))).toNat) ^^^ BitVec.ofInt IntKind.u64.bits (Int.fdiv (IntKind.u64.wrap (BitVec.ofInt IntKind.u64.bits s1.2.2 ^^^ BitVec.ofInt IntKind.u64.bits (IntKind.u64.wrap (s1.2.2 * 2 ^ 13))).toNat) (2 ^ 7))).toNat) * 2 ^ 17))).toNat)))
 else
  some (.inr s1.2.1)
noncomputable def Z4 (b : Int) (c : Int) (d : (Int → Int → Option Int)) (m0_0 : (List Int)) : Option (List Int) :=
 bif (decide (8 ≤ (w64 (c - b)))) then
  (Zb1 (w64 (c - b))).bind fun x0 =>
  (lp (Zav b c x0) ((w64 ((w64 (b + (w64 ((w64 (Int.tdiv (w64 (c - b)) 4)) * 2)))) - 1)), m0_0, (IntKind.u64.wrap (w64 (c - b))))).bind fun r9 =>
  some r9
 else
  some m0_0
noncomputable def ZI (e : (Int → Int → Option Int)) (rc : Int → Int → Int → (Int → Int → Option Int) → (List Int) → Option (List Int)) (s0 : Int × Int × Int × Bool × Bool × (List Int)) : Option ((Int × Int × Int × Bool × Bool × (List Int)) ⊕ (List Int)) :=
 bif s0.2.2.2.1 then
  bif s0.2.2.2.2.1 then
   bif (decide ((w64 (s0.2.1 - s0.1)) ≤ 12)) then
    (ZR s0.1 s0.2.1 e s0.2.2.2.2.2).bind fun x1 =>
    some (.inr x1)
   else
    bif (s0.2.2.1 == 0) then
     (Z0 s0.1 s0.2.1 e s0.2.2.2.2.2).bind fun x2 =>
     some (.inr x2)
    else
     (ZF s0.1 s0.2.1 e s0.2.2.2.2.2).bind fun x3 =>
     bif (x3.2 == 2) then
      (ZE s0.1 s0.2.1 e s0.2.2.2.2.2).bind fun x4 =>
      (ZH s0.1 s0.2.1 e x4).bind fun x5 =>
      match x5 with
      | (.inl x5) =>
       some (.inr x5)
      | (.inr x5) =>
       bif (decide (0 < s0.1)) then
        (ZA x5 (w64 (s0.1 - 1))).bind fun x6 =>
        (ZA x5 (w64 ((w64 (s0.2.1 - 1)) - (w64 (x3.1 - s0.1))))).bind fun x7 =>
        (e x6 x7).bind fun x8 =>
        bif (decide (x8 < 0)) then
         (Zn s0.1 s0.2.1 (w64 ((w64 (s0.2.1 - 1)) - (w64 (x3.1 - s0.1)))) e x5).bind fun x9 =>
         match x9 with
         | (.inl x9) =>
          bif (decide ((w64 (x9.1 - s0.1)) < (w64 (s0.2.1 - x9.1)))) then
           bif (decide ((w64 (Int.tdiv (w64 (s0.2.1 - s0.1)) 8)) ≤ (w64 (x9.1 - s0.1)))) then
            (rc s0.1 x9.1 s0.2.2.1 e x9.2).bind fun x10 =>
            some (.inl ((w64 (x9.1 + 1)), s0.2.1, s0.2.2.1, true, true, x10))
           else
            (rc s0.1 x9.1 s0.2.2.1 e x9.2).bind fun x11 =>
            some (.inl ((w64 (x9.1 + 1)), s0.2.1, s0.2.2.1, false, true, x11))
          else
           bif (decide ((w64 (Int.tdiv (w64 (s0.2.1 - s0.1)) 8)) ≤ (w64 (s0.2.1 - x9.1)))) then
            (rc (w64 (x9.1 + 1)) s0.2.1 s0.2.2.1 e x9.2).bind fun x12 =>
            some (.inl (s0.1, x9.1, s0.2.2.1, true, true, x12))
           else
            (rc (w64 (x9.1 + 1)) s0.2.1 s0.2.2.1 e x9.2).bind fun x13 =>
            some (.inl (s0.1, x9.1, s0.2.2.1, false, true, x13))
         | (.inr x9) =>
          bif (decide ((w64 (x9.1 - s0.1)) < (w64 (s0.2.1 - x9.1)))) then
           bif (decide ((w64 (Int.tdiv (w64 (s0.2.1 - s0.1)) 8)) ≤ (w64 (x9.1 - s0.1)))) then
            (rc s0.1 x9.1 s0.2.2.1 e x9.2).bind fun x14 =>
            some (.inl ((w64 (x9.1 + 1)), s0.2.1, s0.2.2.1, true, false, x14))
           else
            (rc s0.1 x9.1 s0.2.2.1 e x9.2).bind fun x15 =>
            some (.inl ((w64 (x9.1 + 1)), s0.2.1, s0.2.2.1, false, false, x15))
          else
           bif (decide ((w64 (Int.tdiv (w64 (s0.2.1 - s0.1)) 8)) ≤ (w64 (s0.2.1 - x9.1)))) then
            (rc (w64 (x9.1 + 1)) s0.2.1 s0.2.2.1 e x9.2).bind fun x16 =>
            some (.inl (s0.1, x9.1, s0.2.2.1, true, false, x16))
           else
            (rc (w64 (x9.1 + 1)) s0.2.1 s0.2.2.1 e x9.2).bind fun x17 =>
            some (.inl (s0.1, x9.1, s0.2.2.1, false, false, x17))
        else
         (Zx s0.1 s0.2.1 (w64 ((w64 (s0.2.1 - 1)) - (w64 (x3.1 - s0.1)))) e x5).bind fun x18 =>
         some (.inl (x18.1, s0.2.1, s0.2.2.1, true, true, x18.2))
       else
        (Zn s0.1 s0.2.1 (w64 ((w64 (s0.2.1 - 1)) - (w64 (x3.1 - s0.1)))) e x5).bind fun x19 =>
        match x19 with
        | (.inl x19) =>
         bif (decide ((w64 (x19.1 - s0.1)) < (w64 (s0.2.1 - x19.1)))) then
          bif (decide ((w64 (Int.tdiv (w64 (s0.2.1 - s0.1)) 8)) ≤ (w64 (x19.1 - s0.1)))) then
           (rc s0.1 x19.1 s0.2.2.1 e x19.2).bind fun x20 =>
           some (.inl ((w64 (x19.1 + 1)), s0.2.1, s0.2.2.1, true, true, x20))
          else
           (rc s0.1 x19.1 s0.2.2.1 e x19.2).bind fun x21 =>
           some (.inl ((w64 (x19.1 + 1)), s0.2.1, s0.2.2.1, false, true, x21))
         else
          bif (decide ((w64 (Int.tdiv (w64 (s0.2.1 - s0.1)) 8)) ≤ (w64 (s0.2.1 - x19.1)))) then
           (rc (w64 (x19.1 + 1)) s0.2.1 s0.2.2.1 e x19.2).bind fun x22 =>
           some (.inl (s0.1, x19.1, s0.2.2.1, true, true, x22))
          else
           (rc (w64 (x19.1 + 1)) s0.2.1 s0.2.2.1 e x19.2).bind fun x23 =>
           some (.inl (s0.1, x19.1, s0.2.2.1, false, true, x23))
        | (.inr x19) =>
         bif (decide ((w64 (x19.1 - s0.1)) < (w64 (s0.2.1 - x19.1)))) then
          bif (decide ((w64 (Int.tdiv (w64 (s0.2.1 - s0.1)) 8)) ≤ (w64 (x19.1 - s0.1)))) then
           (rc s0.1 x19.1 s0.2.2.1 e x19.2).bind fun x24 =>
           some (.inl ((w64 (x19.1 + 1)), s0.2.1, s0.2.2.1, true, false, x24))
          else
           (rc s0.1 x19.1 s0.2.2.1 e x19.2).bind fun x25 =>
           some (.inl ((w64 (x19.1 + 1)), s0.2.1, s0.2.2.1, false, false, x25))
         else
          bif (decide ((w64 (Int.tdiv (w64 (s0.2.1 - s0.1)) 8)) ≤ (w64 (s0.2.1 - x19.1)))) then
           (rc (w64 (x19.1 + 1)) s0.2.1 s0.2.2.1 e x19.2).bind fun x26 =>
           some (.inl (s0.1, x19.1, s0.2.2.1, true, false, x26))
          else
           (rc (w64 (x19.1 + 1)) s0.2.1 s0.2.2.1 e x19.2).bind fun x27 =>
           some (.inl (s0.1, x19.1, s0.2.2.1, false, false, x27))
     else
      bif (x3.2 == 1) then
       (ZH s0.1 s0.2.1 e s0.2.2.2.2.2).bind fun x28 =>
       match x28 with
       | (.inl x28) =>
        some (.inr x28)
       | (.inr x28) =>
        bif (decide (0 < s0.1)) then
         (ZA x28 (w64 (s0.1 - 1))).bind fun x29 =>
         (ZA x28 x3.1).bind fun x30 =>
         (e x29 x30).bind fun x31 =>
         bif (decide (x31 < 0)) then
          (Zn s0.1 s0.2.1 x3.1 e x28).bind fun x32 =>
          match x32 with
          | (.inl x32) =>
           bif (decide ((w64 (x32.1 - s0.1)) < (w64 (s0.2.1 - x32.1)))) then
            bif (decide ((w64 (Int.tdiv (w64 (s0.2.1 - s0.1)) 8)) ≤ (w64 (x32.1 - s0.1)))) then
             (rc s0.1 x32.1 s0.2.2.1 e x32.2).bind fun x33 =>
             some (.inl ((w64 (x32.1 + 1)), s0.2.1, s0.2.2.1, true, true, x33))
            else
             (rc s0.1 x32.1 s0.2.2.1 e x32.2).bind fun x34 =>
             some (.inl ((w64 (x32.1 + 1)), s0.2.1, s0.2.2.1, false, true, x34))
           else
            bif (decide ((w64 (Int.tdiv (w64 (s0.2.1 - s0.1)) 8)) ≤ (w64 (s0.2.1 - x32.1)))) then
             (rc (w64 (x32.1 + 1)) s0.2.1 s0.2.2.1 e x32.2).bind fun x35 =>
             some (.inl (s0.1, x32.1, s0.2.2.1, true, true, x35))
            else
             (rc (w64 (x32.1 + 1)) s0.2.1 s0.2.2.1 e x32.2).bind fun x36 =>
             some (.inl (s0.1, x32.1, s0.2.2.1, false, true, x36))
          | (.inr x32) =>
           bif (decide ((w64 (x32.1 - s0.1)) < (w64 (s0.2.1 - x32.1)))) then
            bif (decide ((w64 (Int.tdiv (w64 (s0.2.1 - s0.1)) 8)) ≤ (w64 (x32.1 - s0.1)))) then
             (rc s0.1 x32.1 s0.2.2.1 e x32.2).bind fun x37 =>
             some (.inl ((w64 (x32.1 + 1)), s0.2.1, s0.2.2.1, true, false, x37))
            else
             (rc s0.1 x32.1 s0.2.2.1 e x32.2).bind fun x38 =>
             some (.inl ((w64 (x32.1 + 1)), s0.2.1, s0.2.2.1, false, false, x38))
           else
            bif (decide ((w64 (Int.tdiv (w64 (s0.2.1 - s0.1)) 8)) ≤ (w64 (s0.2.1 - x32.1)))) then
             (rc (w64 (x32.1 + 1)) s0.2.1 s0.2.2.1 e x32.2).bind fun x39 =>
             some (.inl (s0.1, x32.1, s0.2.2.1, true, false, x39))
            else
             (rc (w64 (x32.1 + 1)) s0.2.1 s0.2.2.1 e x32.2).bind fun x40 =>
             some (.inl (s0.1, x32.1, s0.2.2.1, false, false, x40))
         else
          (Zx s0.1 s0.2.1 x3.1 e x28).bind fun x41 =>
          some (.inl (x41.1, s0.2.1, s0.2.2.1, true, true, x41.2))
        else
         (Zn s0.1 s0.2.1 x3.1 e x28).bind fun x42 =>
         match x42 with
         | (.inl x42) =>
          bif (decide ((w64 (x42.1 - s0.1)) < (w64 (s0.2.1 - x42.1)))) then
           bif (decide ((w64 (Int.tdiv (w64 (s0.2.1 - s0.1)) 8)) ≤ (w64 (x42.1 - s0.1)))) then
            (rc s0.1 x42.1 s0.2.2.1 e x42.2).bind fun x43 =>
            some (.inl ((w64 (x42.1 + 1)), s0.2.1, s0.2.2.1, true, true, x43))
           else
            (rc s0.1 x42.1 s0.2.2.1 e x42.2).bind fun x44 =>
            some (.inl ((w64 (x42.1 + 1)), s0.2.1, s0.2.2.1, false, true, x44))
          else
           bif (decide ((w64 (Int.tdiv (w64 (s0.2.1 - s0.1)) 8)) ≤ (w64 (s0.2.1 - x42.1)))) then
            (rc (w64 (x42.1 + 1)) s0.2.1 s0.2.2.1 e x42.2).bind fun x45 =>
            some (.inl (s0.1, x42.1, s0.2.2.1, true, true, x45))
           else
            (rc (w64 (x42.1 + 1)) s0.2.1 s0.2.2.1 e x42.2).bind fun x46 =>
            some (.inl (s0.1, x42.1, s0.2.2.1, false, true, x46))
         | (.inr x42) =>
          bif (decide ((w64 (x42.1 - s0.1)) < (w64 (s0.2.1 - x42.1)))) then
           bif (decide ((w64 (Int.tdiv (w64 (s0.2.1 - s0.1)) 8)) ≤ (w64 (x42.1 - s0.1)))) then
            (rc s0.1 x42.1 s0.2.2.1 e x42.2).bind fun x47 =>
            some (.inl ((w64 (x42.1 + 1)), s0.2.1, s0.2.2.1, true, false, x47))
           else
            (rc s0.1 x42.1 s0.2.2.1 e x42.2).bind fun x48 =>
            some (.inl ((w64 (x42.1 + 1)), s0.2.1, s0.2.2.1, false, false, x48))
          else
           bif (decide ((w64 (Int.tdiv (w64 (s0.2.1 - s0.1)) 8)) ≤ (w64 (s0.2.1 - x42.1)))) then
            (rc (w64 (x42.1 + 1)) s0.2.1 s0.2.2.1 e x42.2).bind fun x49 =>
            some (.inl (s0.1, x42.1, s0.2.2.1, true, false, x49))
           else
            (rc (w64 (x42.1 + 1)) s0.2.1 s0.2.2.1 e x42.2).bind fun x50 =>
            some (.inl (s0.1, x42.1, s0.2.2.1, false, false, x50))
      else
       bif (decide (0 < s0.1)) then
        (ZA s0.2.2.2.2.2 (w64 (s0.1 - 1))).bind fun x51 =>
        (ZA s0.2.2.2.2.2 x3.1).bind fun x52 =>
        (e x51 x52).bind fun x53 =>
        bif (decide (x53 < 0)) then
         (Zn s0.1 s0.2.1 x3.1 e s0.2.2.2.2.2).bind fun x54 =>
         match x54 with
         | (.inl x54) =>
          bif (decide ((w64 (x54.1 - s0.1)) < (w64 (s0.2.1 - x54.1)))) then
           bif (decide ((w64 (Int.tdiv (w64 (s0.2.1 - s0.1)) 8)) ≤ (w64 (x54.1 - s0.1)))) then
            (rc s0.1 x54.1 s0.2.2.1 e x54.2).bind fun x55 =>
            some (.inl ((w64 (x54.1 + 1)), s0.2.1, s0.2.2.1, true, true, x55))
           else
            (rc s0.1 x54.1 s0.2.2.1 e x54.2).bind fun x56 =>
            some (.inl ((w64 (x54.1 + 1)), s0.2.1, s0.2.2.1, false, true, x56))
          else
           bif (decide ((w64 (Int.tdiv (w64 (s0.2.1 - s0.1)) 8)) ≤ (w64 (s0.2.1 - x54.1)))) then
            (rc (w64 (x54.1 + 1)) s0.2.1 s0.2.2.1 e x54.2).bind fun x57 =>
            some (.inl (s0.1, x54.1, s0.2.2.1, true, true, x57))
           else
            (rc (w64 (x54.1 + 1)) s0.2.1 s0.2.2.1 e x54.2).bind fun x58 =>
            some (.inl (s0.1, x54.1, s0.2.2.1, false, true, x58))
         | (.inr x54) =>
          bif (decide ((w64 (x54.1 - s0.1)) < (w64 (s0.2.1 - x54.1)))) then
           bif (decide ((w64 (Int.tdiv (w64 (s0.2.1 - s0.1)) 8)) ≤ (w64 (x54.1 - s0.1)))) then
            (rc s0.1 x54.1 s0.2.2.1 e x54.2).bind fun x59 =>
            some (.inl ((w64 (x54.1 + 1)), s0.2.1, s0.2.2.1, true, false, x59))
           else
            (rc s0.1 x54.1 s0.2.2.1 e x54.2).bind fun x60 =>
            some (.inl ((w64 (x54.1 + 1)), s0.2.1, s0.2.2.1, false, false, x60))
          else
           bif (decide ((w64 (Int.tdiv (w64 (s0.2.1 - s0.1)) 8)) ≤ (w64 (s0.2.1 - x54.1)))) then
            (rc (w64 (x54.1 + 1)) s0.2.1 s0.2.2.1 e x54.2).bind fun x61 =>
            some (.inl (s0.1, x54.1, s0.2.2.1, true, false, x61))
           else
            (rc (w64 (x54.1 + 1)) s0.2.1 s0.2.2.1 e x54.2).bind fun x62 =>
            some (.inl (s0.1, x54.1, s0.2.2.1, false, false, x62))
        else
         (Zx s0.1 s0.2.1 x3.1 e s0.2.2.2.2.2).bind fun x63 =>
         some (.inl (x63.1, s0.2.1, s0.2.2.1, true, true, x63.2))
       else
        (Zn s0.1 s0.2.1 x3.1 e s0.2.2.2.2.2).bind fun x64 =>
        match x64 with
        | (.inl x64) =>
         bif (decide ((w64 (x64.1 - s0.1)) < (w64 (s0.2.1 - x64.1)))) then
          bif (decide ((w64 (Int.tdiv (w64 (s0.2.1 - s0.1)) 8)) ≤ (w64 (x64.1 - s0.1)))) then
           (rc s0.1 x64.1 s0.2.2.1 e x64.2).bind fun x65 =>
           some (.inl ((w64 (x64.1 + 1)), s0.2.1, s0.2.2.1, true, true, x65))
          else
           (rc s0.1 x64.1 s0.2.2.1 e x64.2).bind fun x66 =>
           some (.inl ((w64 (x64.1 + 1)), s0.2.1, s0.2.2.1, false, true, x66))
         else
          bif (decide ((w64 (Int.tdiv (w64 (s0.2.1 - s0.1)) 8)) ≤ (w64 (s0.2.1 - x64.1)))) then
           (rc (w64 (x64.1 + 1)) s0.2.1 s0.2.2.1 e x64.2).bind fun x67 =>
           some (.inl (s0.1, x64.1, s0.2.2.1, true, true, x67))
          else
           (rc (w64 (x64.1 + 1)) s0.2.1 s0.2.2.1 e x64.2).bind fun x68 =>
           some (.inl (s0.1, x64.1, s0.2.2.1, false, true, x68))
        | (.inr x64) =>
         bif (decide ((w64 (x64.1 - s0.1)) < (w64 (s0.2.1 - x64.1)))) then
          bif (decide ((w64 (Int.tdiv (w64 (s0.2.1 - s0.1)) 8)) ≤ (w64 (x64.1 - s0.1)))) then
           (rc s0.1 x64.1 s0.2.2.1 e x64.2).bind fun x69 =>
           some (.inl ((w64 (x64.1 + 1)), s0.2.1, s0.2.2.1, true, false, x69))
          else
           (rc s0.1 x64.1 s0.2.2.1 e x64.2).bind fun x70 =>
           some (.inl ((w64 (x64.1 + 1)), s0.2.1, s0.2.2.1, false, false, x70))
         else
          bif (decide ((w64 (Int.tdiv (w64 (s0.2.1 - s0.1)) 8)) ≤ (w64 (s0.2.1 - x64.1)))) then
           (rc (w64 (x64.1 + 1)) s0.2.1 s0.2.2.1 e x64.2).bind fun x71 =>
           some (.inl (s0.1, x64.1, s0.2.2.1, true, false, x71))
          else
           (rc (w64 (x64.1 + 1)) s0.2.1 s0.2.2.1 e x64.2).bind fun x72 =>
           some (.inl (s0.1, x64.1, s0.2.2.1, false, false, x72))
  else
   bif (decide ((w64 (s0.2.1 - s0.1)) ≤ 12)) then
    (ZR s0.1 s0.2.1 e s0.2.2.2.2.2).bind fun x73 =>
    some (.inr x73)
   else
    bif (s0.2.2.1 == 0) then
     (Z0 s0.1 s0.2.1 e s0.2.2.2.2.2).bind fun x74 =>
     some (.inr x74)
    else
     (ZF s0.1 s0.2.1 e s0.2.2.2.2.2).bind fun x75 =>
     bif (x75.2 == 2) then
      (ZE s0.1 s0.2.1 e s0.2.2.2.2.2).bind fun x76 =>
      bif (decide (0 < s0.1)) then
       (ZA x76 (w64 (s0.1 - 1))).bind fun x77 =>
       (ZA x76 (w64 ((w64 (s0.2.1 - 1)) - (w64 (x75.1 - s0.1))))).bind fun x78 =>
       (e x77 x78).bind fun x79 =>
       bif (decide (x79 < 0)) then
        (Zn s0.1 s0.2.1 (w64 ((w64 (s0.2.1 - 1)) - (w64 (x75.1 - s0.1)))) e x76).bind fun x80 =>
        match x80 with
        | (.inl x80) =>
         bif (decide ((w64 (x80.1 - s0.1)) < (w64 (s0.2.1 - x80.1)))) then
          bif (decide ((w64 (Int.tdiv (w64 (s0.2.1 - s0.1)) 8)) ≤ (w64 (x80.1 - s0.1)))) then
           (rc s0.1 x80.1 s0.2.2.1 e x80.2).bind fun x81 =>
           some (.inl ((w64 (x80.1 + 1)), s0.2.1, s0.2.2.1, true, true, x81))
          else
           (rc s0.1 x80.1 s0.2.2.1 e x80.2).bind fun x82 =>
           some (.inl ((w64 (x80.1 + 1)), s0.2.1, s0.2.2.1, false, true, x82))
         else
          bif (decide ((w64 (Int.tdiv (w64 (s0.2.1 - s0.1)) 8)) ≤ (w64 (s0.2.1 - x80.1)))) then
           (rc (w64 (x80.1 + 1)) s0.2.1 s0.2.2.1 e x80.2).bind fun x83 =>
           some (.inl (s0.1, x80.1, s0.2.2.1, true, true, x83))
          else
           (rc (w64 (x80.1 + 1)) s0.2.1 s0.2.2.1 e x80.2).bind fun x84 =>
           some (.inl (s0.1, x80.1, s0.2.2.1, false, true, x84))
        | (.inr x80) =>
         bif (decide ((w64 (x80.1 - s0.1)) < (w64 (s0.2.1 - x80.1)))) then
          bif (decide ((w64 (Int.tdiv (w64 (s0.2.1 - s0.1)) 8)) ≤ (w64 (x80.1 - s0.1)))) then
           (rc s0.1 x80.1 s0.2.2.1 e x80.2).bind fun x85 =>
           some (.inl ((w64 (x80.1 + 1)), s0.2.1, s0.2.2.1, true, false, x85))
          else
           (rc s0.1 x80.1 s0.2.2.1 e x80.2).bind fun x86 =>
           some (.inl ((w64 (x80.1 + 1)), s0.2.1, s0.2.2.1, false, false, x86))
         else
          bif (decide ((w64 (Int.tdiv (w64 (s0.2.1 - s0.1)) 8)) ≤ (w64 (s0.2.1 - x80.1)))) then
           (rc (w64 (x80.1 + 1)) s0.2.1 s0.2.2.1 e x80.2).bind fun x87 =>
           some (.inl (s0.1, x80.1, s0.2.2.1, true, false, x87))
          else
           (rc (w64 (x80.1 + 1)) s0.2.1 s0.2.2.1 e x80.2).bind fun x88 =>
           some (.inl (s0.1, x80.1, s0.2.2.1, false, false, x88))
       else
        (Zx s0.1 s0.2.1 (w64 ((w64 (s0.2.1 - 1)) - (w64 (x75.1 - s0.1)))) e x76).bind fun x89 =>
        some (.inl (x89.1, s0.2.1, s0.2.2.1, true, false, x89.2))
      else
       (Zn s0.1 s0.2.1 (w64 ((w64 (s0.2.1 - 1)) - (w64 (x75.1 - s0.1)))) e x76).bind fun x90 =>
       match x90 with
       | (.inl x90) =>
        bif (decide ((w64 (x90.1 - s0.1)) < (w64 (s0.2.1 - x90.1)))) then
         bif (decide ((w64 (Int.tdiv (w64 (s0.2.1 - s0.1)) 8)) ≤ (w64 (x90.1 - s0.1)))) then
          (rc s0.1 x90.1 s0.2.2.1 e x90.2).bind fun x91 =>
          some (.inl ((w64 (x90.1 + 1)), s0.2.1, s0.2.2.1, true, true, x91))
         else
          (rc s0.1 x90.1 s0.2.2.1 e x90.2).bind fun x92 =>
          some (.inl ((w64 (x90.1 + 1)), s0.2.1, s0.2.2.1, false, true, x92))
        else
         bif (decide ((w64 (Int.tdiv (w64 (s0.2.1 - s0.1)) 8)) ≤ (w64 (s0.2.1 - x90.1)))) then
          (rc (w64 (x90.1 + 1)) s0.2.1 s0.2.2.1 e x90.2).bind fun x93 =>
          some (.inl (s0.1, x90.1, s0.2.2.1, true, true, x93))
         else
          (rc (w64 (x90.1 + 1)) s0.2.1 s0.2.2.1 e x90.2).bind fun x94 =>
          some (.inl (s0.1, x90.1, s0.2.2.1, false, true, x94))
       | (.inr x90) =>
        bif (decide ((w64 (x90.1 - s0.1)) < (w64 (s0.2.1 - x90.1)))) then
         bif (decide ((w64 (Int.tdiv (w64 (s0.2.1 - s0.1)) 8)) ≤ (w64 (x90.1 - s0.1)))) then
          (rc s0.1 x90.1 s0.2.2.1 e x90.2).bind fun x95 =>
          some (.inl ((w64 (x90.1 + 1)), s0.2.1, s0.2.2.1, true, false, x95))
         else
          (rc s0.1 x90.1 s0.2.2.1 e x90.2).bind fun x96 =>
          some (.inl ((w64 (x90.1 + 1)), s0.2.1, s0.2.2.1, false, false, x96))
        else
         bif (decide ((w64 (Int.tdiv (w64 (s0.2.1 - s0.1)) 8)) ≤ (w64 (s0.2.1 - x90.1)))) then
          (rc (w64 (x90.1 + 1)) s0.2.1 s0.2.2.1 e x90.2).bind fun x97 =>
          some (.inl (s0.1, x90.1, s0.2.2.1, true, false, x97))
         else
          (rc (w64 (x90.1 + 1)) s0.2.1 s0.2.2.1 e x90.2).bind fun x98 =>
          some (.inl (s0.1, x90.1, s0.2.2.1, false, false, x98))
     else
      bif (decide (0 < s0.1)) then
       (ZA s0.2.2.2.2.2 (w64 (s0.1 - 1))).bind fun x99 =>
       (ZA s0.2.2.2.2.2 x75.1).bind fun x100 =>
       (e x99 x100).bind fun x101 =>
       bif (decide (x101 < 0)) then
        (Zn s0.1 s0.2.1 x75.1 e s0.2.2.2.2.2).bind fun x102 =>
        match x102 with
        | (.inl x102) =>
         bif (decide ((w64 (x102.1 - s0.1)) < (w64 (s0.2.1 - x102.1)))) then
          bif (decide ((w64 (Int.tdiv (w64 (s0.2.1 - s0.1)) 8)) ≤ (w64 (x102.1 - s0.1)))) then
           (rc s0.1 x102.1 s0.2.2.1 e x102.2).bind fun x103 =>
           some (.inl ((w64 (x102.1 + 1)), s0.2.1, s0.2.2.1, true, true, x103))
          else
           (rc s0.1 x102.1 s0.2.2.1 e x102.2).bind fun x104 =>
           some (.inl ((w64 (x102.1 + 1)), s0.2.1, s0.2.2.1, false, true, x104))
         else
          bif (decide ((w64 (Int.tdiv (w64 (s0.2.1 - s0.1)) 8)) ≤ (w64 (s0.2.1 - x102.1)))) then
           (rc (w64 (x102.1 + 1)) s0.2.1 s0.2.2.1 e x102.2).bind fun x105 =>
           some (.inl (s0.1, x102.1, s0.2.2.1, true, true, x105))
          else
           (rc (w64 (x102.1 + 1)) s0.2.1 s0.2.2.1 e x102.2).bind fun x106 =>
           some (.inl (s0.1, x102.1, s0.2.2.1, false, true, x106))
        | (.inr x102) =>
         bif (decide ((w64 (x102.1 - s0.1)) < (w64 (s0.2.1 - x102.1)))) then
          bif (decide ((w64 (Int.tdiv (w64 (s0.2.1 - s0.1)) 8)) ≤ (w64 (x102.1 - s0.1)))) then
           (rc s0.1 x102.1 s0.2.2.1 e x102.2).bind fun x107 =>
           some (.inl ((w64 (x102.1 + 1)), s0.2.1, s0.2.2.1, true, false, x107))
          else
           (rc s0.1 x102.1 s0.2.2.1 e x102.2).bind fun x108 =>
           some (.inl ((w64 (x102.1 + 1)), s0.2.1, s0.2.2.1, false, false, x108))
         else
          bif (decide ((w64 (Int.tdiv (w64 (s0.2.1 - s0.1)) 8)) ≤ (w64 (s0.2.1 - x102.1)))) then
           (rc (w64 (x102.1 + 1)) s0.2.1 s0.2.2.1 e x102.2).bind fun x109 =>
           some (.inl (s0.1, x102.1, s0.2.2.1, true, false, x109))
          else
           (rc (w64 (x102.1 + 1)) s0.2.1 s0.2.2.1 e x102.2).bind fun x110 =>
           some (.inl (s0.1, x102.1, s0.2.2.1, false, false, x110))
       else
        (Zx s0.1 s0.2.1 x75.1 e s0.2.2.2.2.2).bind fun x111 =>
        some (.inl (x111.1, s0.2.1, s0.2.2.1, true, false, x111.2))
      else
       (Zn s0.1 s0.2.1 x75.1 e s0.2.2.2.2.2).bind fun x112 =>
       match x112 with
       | (.inl x112) =>
        bif (decide ((w64 (x112.1 - s0.1)) < (w64 (s0.2.1 - x112.1)))) then
         bif (decide ((w64 (Int.tdiv (w64 (s0.2.1 - s0.1)) 8)) ≤ (w64 (x112.1 - s0.1)))) then
          (rc s0.1 x112.1 s0.2.2.1 e x112.2).bind fun x113 =>
          some (.inl ((w64 (x112.1 + 1)), s0.2.1, s0.2.2.1, true, true, x113))
         else
          (rc s0.1 x112.1 s0.2.2.1 e x112.2).bind fun x114 =>
          some (.inl ((w64 (x112.1 + 1)), s0.2.1, s0.2.2.1, false, true, x114))
        else
         bif (decide ((w64 (Int.tdiv (w64 (s0.2.1 - s0.1)) 8)) ≤ (w64 (s0.2.1 - x112.1)))) then
          (rc (w64 (x112.1 + 1)) s0.2.1 s0.2.2.1 e x112.2).bind fun x115 =>
          some (.inl (s0.1, x112.1, s0.2.2.1, true, true, x115))
         else
          (rc (w64 (x112.1 + 1)) s0.2.1 s0.2.2.1 e x112.2).bind fun x116 =>
          some (.inl (s0.1, x112.1, s0.2.2.1, false, true, x116))
       | (.inr x112) =>
        bif (decide ((w64 (x112.1 - s0.1)) < (w64 (s0.2.1 - x112.1)))) then
         bif (decide ((w64 (Int.tdiv (w64 (s0.2.1 - s0.1)) 8)) ≤ (w64 (x112.1 - s0.1)))) then
          (rc s0.1 x112.1 s0.2.2.1 e x112.2).bind fun x117 =>
          some (.inl ((w64 (x112.1 + 1)), s0.2.1, s0.2.2.1, true, false, x117))
         else
          (rc s0.1 x112.1 s0.2.2.1 e x112.2).bind fun x118 =>
          some (.inl ((w64 (x112.1 + 1)), s0.2.1, s0.2.2.1, false, false, x118))
        else
         bif (decide ((w64 (Int.tdiv (w64 (s0.2.1 - s0.1)) 8)) ≤ (w64 (s0.2.1 - x112.1)))) then
          (rc (w64 (x112.1 + 1)) s0.2.1 s0.2.2.1 e x112.2).bind fun x119 =>
          some (.inl (s0.1, x112.1, s0.2.2.1, true, false, x119))
         else
          (rc (w64 (x112.1 + 1)) s0.2.1 s0.2.2.1 e x112.2).bind fun x120 =>
          some (.inl (s0.1, x112.1, s0.2.2.1, false, false, x120))
 else
  bif s0.2.2.2.2.1 then
   bif (decide ((w64 (s0.2.1 - s0.1)) ≤ 12)) then
    (ZR s0.1 s0.2.1 e s0.2.2.2.2.2).bind fun x121 =>
    some (.inr x121)
   else
    bif (s0.2.2.1 == 0) then
     (Z0 s0.1 s0.2.1 e s0.2.2.2.2.2).bind fun x122 =>
     some (.inr x122)
    else
     (Z4 s0.1 s0.2.1 e s0.2.2.2.2.2).bind fun x123 =>
     (ZF s0.1 s0.2.1 e x123).bind fun x124 =>
     bif (x124.2 == 2) then
      (ZE s0.1 s0.2.1 e x123).bind fun x125 =>
      bif (decide (0 < s0.1)) then
       (ZA x125 (w64 (s0.1 - 1))).bind fun x126 =>
       (ZA x125 (w64 ((w64 (s0.2.1 - 1)) - (w64 (x124.1 - s0.1))))).bind fun x127 =>
       (e x126 x127).bind fun x128 =>
       bif (decide (x128 < 0)) then
        (Zn s0.1 s0.2.1 (w64 ((w64 (s0.2.1 - 1)) - (w64 (x124.1 - s0.1)))) e x125).bind fun x129 =>
        match x129 with
        | (.inl x129) =>
         bif (decide ((w64 (x129.1 - s0.1)) < (w64 (s0.2.1 - x129.1)))) then
          bif (decide ((w64 (Int.tdiv (w64 (s0.2.1 - s0.1)) 8)) ≤ (w64 (x129.1 - s0.1)))) then
           (rc s0.1 x129.1 (w64 (s0.2.2.1 - 1)) e x129.2).bind fun x130 =>
           some (.inl ((w64 (x129.1 + 1)), s0.2.1, (w64 (s0.2.2.1 - 1)), true, true, x130))
          else
           (rc s0.1 x129.1 (w64 (s0.2.2.1 - 1)) e x129.2).bind fun x131 =>
           some (.inl ((w64 (x129.1 + 1)), s0.2.1, (w64 (s0.2.2.1 - 1)), false, true, x131))
         else
          bif (decide ((w64 (Int.tdiv (w64 (s0.2.1 - s0.1)) 8)) ≤ (w64 (s0.2.1 - x129.1)))) then
           (rc (w64 (x129.1 + 1)) s0.2.1 (w64 (s0.2.2.1 - 1)) e x129.2).bind fun x132 =>
           some (.inl (s0.1, x129.1, (w64 (s0.2.2.1 - 1)), true, true, x132))
          else
           (rc (w64 (x129.1 + 1)) s0.2.1 (w64 (s0.2.2.1 - 1)) e x129.2).bind fun x133 =>
           some (.inl (s0.1, x129.1, (w64 (s0.2.2.1 - 1)), false, true, x133))
        | (.inr x129) =>
         bif (decide ((w64 (x129.1 - s0.1)) < (w64 (s0.2.1 - x129.1)))) then
          bif (decide ((w64 (Int.tdiv (w64 (s0.2.1 - s0.1)) 8)) ≤ (w64 (x129.1 - s0.1)))) then
           (rc s0.1 x129.1 (w64 (s0.2.2.1 - 1)) e x129.2).bind fun x134 =>
           some (.inl ((w64 (x129.1 + 1)), s0.2.1, (w64 (s0.2.2.1 - 1)), true, false, x134))
          else
           (rc s0.1 x129.1 (w64 (s0.2.2.1 - 1)) e x129.2).bind fun x135 =>
           some (.inl ((w64 (x129.1 + 1)), s0.2.1, (w64 (s0.2.2.1 - 1)), false, false, x135))
         else
          bif (decide ((w64 (Int.tdiv (w64 (s0.2.1 - s0.1)) 8)) ≤ (w64 (s0.2.1 - x129.1)))) then
           (rc (w64 (x129.1 + 1)) s0.2.1 (w64 (s0.2.2.1 - 1)) e x129.2).bind fun x136 =>
           some (.inl (s0.1, x129.1, (w64 (s0.2.2.1 - 1)), true, false, x136))
          else
           (rc (w64 (x129.1 + 1)) s0.2.1 (w64 (s0.2.2.1 - 1)) e x129.2).bind fun x137 =>
           some (.inl (s0.1, x129.1, (w64 (s0.2.2.1 - 1)), false, false, x137))
       else
        (Zx s0.1 s0.2.1 (w64 ((w64 (s0.2.1 - 1)) - (w64 (x124.1 - s0.1)))) e x125).bind fun x138 =>
        some (.inl (x138.1, s0.2.1, (w64 (s0.2.2.1 - 1)), false, true, x138.2))
      else
       (Zn s0.1 s0.2.1 (w64 ((w64 (s0.2.1 - 1)) - (w64 (x124.1 - s0.1)))) e x125).bind fun x139 =>
       match x139 with
       | (.inl x139) =>
        bif (decide ((w64 (x139.1 - s0.1)) < (w64 (s0.2.1 - x139.1)))) then
         bif (decide ((w64 (Int.tdiv (w64 (s0.2.1 - s0.1)) 8)) ≤ (w64 (x139.1 - s0.1)))) then
          (rc s0.1 x139.1 (w64 (s0.2.2.1 - 1)) e x139.2).bind fun x140 =>
          some (.inl ((w64 (x139.1 + 1)), s0.2.1, (w64 (s0.2.2.1 - 1)), true, true, x140))
         else
          (rc s0.1 x139.1 (w64 (s0.2.2.1 - 1)) e x139.2).bind fun x141 =>
          some (.inl ((w64 (x139.1 + 1)), s0.2.1, (w64 (s0.2.2.1 - 1)), false, true, x141))
        else
         bif (decide ((w64 (Int.tdiv (w64 (s0.2.1 - s0.1)) 8)) ≤ (w64 (s0.2.1 - x139.1)))) then
          (rc (w64 (x139.1 + 1)) s0.2.1 (w64 (s0.2.2.1 - 1)) e x139.2).bind fun x142 =>
          some (.inl (s0.1, x139.1, (w64 (s0.2.2.1 - 1)), true, true, x142))
         else
          (rc (w64 (x139.1 + 1)) s0.2.1 (w64 (s0.2.2.1 - 1)) e x139.2).bind fun x143 =>
          some (.inl (s0.1, x139.1, (w64 (s0.2.2.1 - 1)), false, true, x143))
       | (.inr x139) =>
        bif (decide ((w64 (x139.1 - s0.1)) < (w64 (s0.2.1 - x139.1)))) then
         bif (decide ((w64 (Int.tdiv (w64 (s0.2.1 - s0.1)) 8)) ≤ (w64 (x139.1 - s0.1)))) then
          (rc s0.1 x139.1 (w64 (s0.2.2.1 - 1)) e x139.2).bind fun x144 =>
          some (.inl ((w64 (x139.1 + 1)), s0.2.1, (w64 (s0.2.2.1 - 1)), true, false, x144))
         else
          (rc s0.1 x139.1 (w64 (s0.2.2.1 - 1)) e x139.2).bind fun x145 =>
          some (.inl ((w64 (x139.1 + 1)), s0.2.1, (w64 (s0.2.2.1 - 1)), false, false, x145))
        else
         bif (decide ((w64 (Int.tdiv (w64 (s0.2.1 - s0.1)) 8)) ≤ (w64 (s0.2.1 - x139.1)))) then
          (rc (w64 (x139.1 + 1)) s0.2.1 (w64 (s0.2.2.1 - 1)) e x139.2).bind fun x146 =>
          some (.inl (s0.1, x139.1, (w64 (s0.2.2.1 - 1)), true, false, x146))
         else
          (rc (w64 (x139.1 + 1)) s0.2.1 (w64 (s0.2.2.1 - 1)) e x139.2).bind fun x147 =>
          some (.inl (s0.1, x139.1, (w64 (s0.2.2.1 - 1)), false, false, x147))
     else
      bif (decide (0 < s0.1)) then
       (ZA x123 (w64 (s0.1 - 1))).bind fun x148 =>
       (ZA x123 x124.1).bind fun x149 =>
       (e x148 x149).bind fun x150 =>
       bif (decide (x150 < 0)) then
        (Zn s0.1 s0.2.1 x124.1 e x123).bind fun x151 =>
        match x151 with
        | (.inl x151) =>
         bif (decide ((w64 (x151.1 - s0.1)) < (w64 (s0.2.1 - x151.1)))) then
          bif (decide ((w64 (Int.tdiv (w64 (s0.2.1 - s0.1)) 8)) ≤ (w64 (x151.1 - s0.1)))) then
           (rc s0.1 x151.1 (w64 (s0.2.2.1 - 1)) e x151.2).bind fun x152 =>
           some (.inl ((w64 (x151.1 + 1)), s0.2.1, (w64 (s0.2.2.1 - 1)), true, true, x152))
          else
           (rc s0.1 x151.1 (w64 (s0.2.2.1 - 1)) e x151.2).bind fun x153 =>
           some (.inl ((w64 (x151.1 + 1)), s0.2.1, (w64 (s0.2.2.1 - 1)), false, true, x153))
         else
          bif (decide ((w64 (Int.tdiv (w64 (s0.2.1 - s0.1)) 8)) ≤ (w64 (s0.2.1 - x151.1)))) then
           (rc (w64 (x151.1 + 1)) s0.2.1 (w64 (s0.2.2.1 - 1)) e x151.2).bind fun x154 =>
           some (.inl (s0.1, x151.1, (w64 (s0.2.2.1 - 1)), true, true, x154))
          else
           (rc (w64 (x151.1 + 1)) s0.2.1 (w64 (s0.2.2.1 - 1)) e x151.2).bind fun x155 =>
           some (.inl (s0.1, x151.1, (w64 (s0.2.2.1 - 1)), false, true, x155))
        | (.inr x151) =>
         bif (decide ((w64 (x151.1 - s0.1)) < (w64 (s0.2.1 - x151.1)))) then
          bif (decide ((w64 (Int.tdiv (w64 (s0.2.1 - s0.1)) 8)) ≤ (w64 (x151.1 - s0.1)))) then
           (rc s0.1 x151.1 (w64 (s0.2.2.1 - 1)) e x151.2).bind fun x156 =>
           some (.inl ((w64 (x151.1 + 1)), s0.2.1, (w64 (s0.2.2.1 - 1)), true, false, x156))
          else
           (rc s0.1 x151.1 (w64 (s0.2.2.1 - 1)) e x151.2).bind fun x157 =>
           some (.inl ((w64 (x151.1 + 1)), s0.2.1, (w64 (s0.2.2.1 - 1)), false, false, x157))
         else
          bif (decide ((w64 (Int.tdiv (w64 (s0.2.1 - s0.1)) 8)) ≤ (w64 (s0.2.1 - x151.1)))) then
           (rc (w64 (x151.1 + 1)) s0.2.1 (w64 (s0.2.2.1 - 1)) e x151.2).bind fun x158 =>
           some (.inl (s0.1, x151.1, (w64 (s0.2.2.1 - 1)), true, false, x158))
          else
           (rc (w64 (x151.1 + 1)) s0.2.1 (w64 (s0.2.2.1 - 1)) e x151.2).bind fun x159 =>
           some (.inl (s0.1, x151.1, (w64 (s0.2.2.1 - 1)), false, false, x159))
       else
        (Zx s0.1 s0.2.1 x124.1 e x123).bind fun x160 =>
        some (.inl (x160.1, s0.2.1, (w64 (s0.2.2.1 - 1)), false, true, x160.2))
      else
       (Zn s0.1 s0.2.1 x124.1 e x123).bind fun x161 =>
       match x161 with
       | (.inl x161) =>
        bif (decide ((w64 (x161.1 - s0.1)) < (w64 (s0.2.1 - x161.1)))) then
         bif (decide ((w64 (Int.tdiv (w64 (s0.2.1 - s0.1)) 8)) ≤ (w64 (x161.1 - s0.1)))) then
          (rc s0.1 x161.1 (w64 (s0.2.2.1 - 1)) e x161.2).bind fun x162 =>
          some (.inl ((w64 (x161.1 + 1)), s0.2.1, (w64 (s0.2.2.1 - 1)), true, true, x162))
         else
          (rc s0.1 x161.1 (w64 (s0.2.2.1 - 1)) e x161.2).bind fun x163 =>
          some (.inl ((w64 (x161.1 + 1)), s0.2.1, (w64 (s0.2.2.1 - 1)), false, true, x163))
        else
         bif (decide ((w64 (Int.tdiv (w64 (s0.2.1 - s0.1)) 8)) ≤ (w64 (s0.2.1 - x161.1)))) then
          (rc (w64 (x161.1 + 1)) s0.2.1 (w64 (s0.2.2.1 - 1)) e x161.2).bind fun x164 =>
          some (.inl (s0.1, x161.1, (w64 (s0.2.2.1 - 1)), true, true, x164))
         else
          (rc (w64 (x161.1 + 1)) s0.2.1 (w64 (s0.2.2.1 - 1)) e x161.2).bind fun x165 =>
          some (.inl (s0.1, x161.1, (w64 (s0.2.2.1 - 1)), false, true, x165))
       | (.inr x161) =>
        bif (decide ((w64 (x161.1 - s0.1)) < (w64 (s0.2.1 - x161.1)))) then
         bif (decide ((w64 (Int.tdiv (w64 (s0.2.1 - s0.1)) 8)) ≤ (w64 (x161.1 - s0.1)))) then
          (rc s0.1 x161.1 (w64 (s0.2.2.1 - 1)) e x161.2).bind fun x166 =>
          some (.inl ((w64 (x161.1 + 1)), s0.2.1, (w64 (s0.2.2.1 - 1)), true, false, x166))
         else
          (rc s0.1 x161.1 (w64 (s0.2.2.1 - 1)) e x161.2).bind fun x167 =>
          some (.inl ((w64 (x161.1 + 1)), s0.2.1, (w64 (s0.2.2.1 - 1)), false, false, x167))
        else
         bif (decide ((w64 (Int.tdiv (w64 (s0.2.1 - s0.1)) 8)) ≤ (w64 (s0.2.1 - x161.1)))) then
          (rc (w64 (x161.1 + 1)) s0.2.1 (w64 (s0.2.2.1 - 1)) e x161.2).bind fun x168 =>
          some (.inl (s0.1, x161.1, (w64 (s0.2.2.1 - 1)), true, false, x168))
         else
          (rc (w64 (x161.1 + 1)) s0.2.1 (w64 (s0.2.2.1 - 1)) e x161.2).bind fun x169 =>
          some (.inl (s0.1, x161.1, (w64 (s0.2.2.1 - 1)), false, false, x169))
  else
   bif (decide ((w64 (s0.2.1 - s0.1)) ≤ 12)) then
    (ZR s0.1 s0.2.1 e s0.2.2.2.2.2).bind fun x170 =>
    some (.inr x170)
   else
    bif (s0.2.2.1 == 0) then
     (Z0 s0.1 s0.2.1 e s0.2.2.2.2.2).bind fun x171 =>
     some (.inr x171)
    else
     (Z4 s0.1 s0.2.1 e s0.2.2.2.2.2).bind fun x172 =>
     (ZF s0.1 s0.2.1 e x172).bind fun x173 =>
     bif (x173.2 == 2) then
      (ZE s0.1 s0.2.1 e x172).bind fun x174 =>
      bif (decide (0 < s0.1)) then
       (ZA x174 (w64 (s0.1 - 1))).bind fun x175 =>
       (ZA x174 (w64 ((w64 (s0.2.1 - 1)) - (w64 (x173.1 - s0.1))))).bind fun x176 =>
       (e x175 x176).bind fun x177 =>
       bif (decide (x177 < 0)) then
        (Zn s0.1 s0.2.1 (w64 ((w64 (s0.2.1 - 1)) - (w64 (x173.1 - s0.1)))) e x174).bind fun x178 =>
        match x178 with
        | (.inl x178) =>
         bif (decide ((w64 (x178.1 - s0.1)) < (w64 (s0.2.1 - x178.1)))) then
          bif (decide ((w64 (Int.tdiv (w64 (s0.2.1 - s0.1)) 8)) ≤ (w64 (x178.1 - s0.1)))) then
           (rc s0.1 x178.1 (w64 (s0.2.2.1 - 1)) e x178.2).bind fun x179 =>
           some (.inl ((w64 (x178.1 + 1)), s0.2.1, (w64 (s0.2.2.1 - 1)), true, true, x179))
          else
           (rc s0.1 x178.1 (w64 (s0.2.2.1 - 1)) e x178.2).bind fun x180 =>
           some (.inl ((w64 (x178.1 + 1)), s0.2.1, (w64 (s0.2.2.1 - 1)), false, true, x180))
         else
          bif (decide ((w64 (Int.tdiv (w64 (s0.2.1 - s0.1)) 8)) ≤ (w64 (s0.2.1 - x178.1)))) then
           (rc (w64 (x178.1 + 1)) s0.2.1 (w64 (s0.2.2.1 - 1)) e x178.2).bind fun x181 =>
           some (.inl (s0.1, x178.1, (w64 (s0.2.2.1 - 1)), true, true, x181))
          else
           (rc (w64 (x178.1 + 1)) s0.2.1 (w64 (s0.2.2.1 - 1)) e x178.2).bind fun x182 =>
           some (.inl (s0.1, x178.1, (w64 (s0.2.2.1 - 1)), false, true, x182))
        | (.inr x178) =>
         bif (decide ((w64 (x178.1 - s0.1)) < (w64 (s0.2.1 - x178.1)))) then
          bif (decide ((w64 (Int.tdiv (w64 (s0.2.1 - s0.1)) 8)) ≤ (w64 (x178.1 - s0.1)))) then
           (rc s0.1 x178.1 (w64 (s0.2.2.1 - 1)) e x178.2).bind fun x183 =>
           some (.inl ((w64 (x178.1 + 1)), s0.2.1, (w64 (s0.2.2.1 - 1)), true, false, x183))
          else
           (rc s0.1 x178.1 (w64 (s0.2.2.1 - 1)) e x178.2).bind fun x184 =>
           some (.inl ((w64 (x178.1 + 1)), s0.2.1, (w64 (s0.2.2.1 - 1)), false, false, x184))
         else
          bif (decide ((w64 (Int.tdiv (w64 (s0.2.1 - s0.1)) 8)) ≤ (w64 (s0.2.1 - x178.1)))) then
           (rc (w64 (x178.1 + 1)) s0.2.1 (w64 (s0.2.2.1 - 1)) e x178.2).bind fun x185 =>
           some (.inl (s0.1, x178.1, (w64 (s0.2.2.1 - 1)), true, false, x185))
          else
           (rc (w64 (x178.1 + 1)) s0.2.1 (w64 (s0.2.2.1 - 1)) e x178.2).bind fun x186 =>
           some (.inl (s0.1, x178.1, (w64 (s0.2.2.1 - 1)), false, false, x186))
       else
        (Zx s0.1 s0.2.1 (w64 ((w64 (s0.2.1 - 1)) - (w64 (x173.1 - s0.1)))) e x174).bind fun x187 =>
        some (.inl (x187.1, s0.2.1, (w64 (s0.2.2.1 - 1)), false, false, x187.2))
      else
       (Zn s0.1 s0.2.1 (w64 ((w64 (s0.2.1 - 1)) - (w64 (x173.1 - s0.1)))) e x174).bind fun x188 =>
       match x188 with
       | (.inl x188) =>
        bif (decide ((w64 (x188.1 - s0.1)) < (w64 (s0.2.1 - x188.1)))) then
         bif (decide ((w64 (Int.tdiv (w64 (s0.2.1 - s0.1)) 8)) ≤ (w64 (x188.1 - s0.1)))) then
          (rc s0.1 x188.1 (w64 (s0.2.2.1 - 1)) e x188.2).bind fun x189 =>
          some (.inl ((w64 (x188.1 + 1)), s0.2.1, (w64 (s0.2.2.1 - 1)), true, true, x189))
         else
          (rc s0.1 x188.1 (w64 (s0.2.2.1 - 1)) e x188.2).bind fun x190 =>
          some (.inl ((w64 (x188.1 + 1)), s0.2.1, (w64 (s0.2.2.1 - 1)), false, true, x190))
        else
         bif (decide ((w64 (Int.tdiv (w64 (s0.2.1 - s0.1)) 8)) ≤ (w64 (s0.2.1 - x188.1)))) then
          (rc (w64 (x188.1 + 1)) s0.2.1 (w64 (s0.2.2.1 - 1)) e x188.2).bind fun x191 =>
          some (.inl (s0.1, x188.1, (w64 (s0.2.2.1 - 1)), true, true, x191))
         else
          (rc (w64 (x188.1 + 1)) s0.2.1 (w64 (s0.2.2.1 - 1)) e x188.2).bind fun x192 =>
          some (.inl (s0.1, x188.1, (w64 (s0.2.2.1 - 1)), false, true, x192))
       | (.inr x188) =>
        bif (decide ((w64 (x188.1 - s0.1)) < (w64 (s0.2.1 - x188.1)))) then
         bif (decide ((w64 (Int.tdiv (w64 (s0.2.1 - s0.1)) 8)) ≤ (w64 (x188.1 - s0.1)))) then
          (rc s0.1 x188.1 (w64 (s0.2.2.1 - 1)) e x188.2).bind fun x193 =>
          some (.inl ((w64 (x188.1 + 1)), s0.2.1, (w64 (s0.2.2.1 - 1)), true, false, x193))
         else
          (rc s0.1 x188.1 (w64 (s0.2.2.1 - 1)) e x188.2).bind fun x194 =>
          some (.inl ((w64 (x188.1 + 1)), s0.2.1, (w64 (s0.2.2.1 - 1)), false, false, x194))
        else
         bif (decide ((w64 (Int.tdiv (w64 (s0.2.1 - s0.1)) 8)) ≤ (w64 (s0.2.1 - x188.1)))) then
          (rc (w64 (x188.1 + 1)) s0.2.1 (w64 (s0.2.2.1 - 1)) e x188.2).bind fun x195 =>
          some (.inl (s0.1, x188.1, (w64 (s0.2.2.1 - 1)), true, false, x195))
         else
          (rc (w64 (x188.1 + 1)) s0.2.1 (w64 (s0.2.2.1 - 1)) e x188.2).bind fun x196 =>
          some (.inl (s0.1, x188.1, (w64 (s0.2.2.1 - 1)), false, false, x196))
     else
      bif (decide (0 < s0.1)) then
       (ZA x172 (w64 (s0.1 - 1))).bind fun x197 =>
       (ZA x172 x173.1).bind fun x198 =>
       (e x197 x198).bind fun x199 =>
       bif (decide (x199 < 0)) then
        (Zn s0.1 s0.2.1 x173.1 e x172).bind fun x200 =>
        match x200 with
        | (.inl x200) =>
         bif (decide ((w64 (x200.1 - s0.1)) < (w64 (s0.2.1 - x200.1)))) then
          bif (decide ((w64 (Int.tdiv (w64 (s0.2.1 - s0.1)) 8)) ≤ (w64 (x200.1 - s0.1)))) then
           (rc s0.1 x200.1 (w64 (s0.2.2.1 - 1)) e x200.2).bind fun x201 =>
           some (.inl ((w64 (x200.1 + 1)), s0.2.1, (w64 (s0.2.2.1 - 1)), true, true, x201))
          else
           (rc s0.1 x200.1 (w64 (s0.2.2.1 - 1)) e x200.2).bind fun x202 =>
           some (.inl ((w64 (x200.1 + 1)), s0.2.1, (w64 (s0.2.2.1 - 1)), false, true, x202))
         else
          bif (decide ((w64 (Int.tdiv (w64 (s0.2.1 - s0.1)) 8)) ≤ (w64 (s0.2.1 - x200.1)))) then
           (rc (w64 (x200.1 + 1)) s0.2.1 (w64 (s0.2.2.1 - 1)) e x200.2).bind fun x203 =>
           some (.inl (s0.1, x200.1, (w64 (s0.2.2.1 - 1)), true, true, x203))
          else
           (rc (w64 (x200.1 + 1)) s0.2.1 (w64 (s0.2.2.1 - 1)) e x200.2).bind fun x204 =>
           some (.inl (s0.1, x200.1, (w64 (s0.2.2.1 - 1)), false, true, x204))
        | (.inr x200) =>
         bif (decide ((w64 (x200.1 - s0.1)) < (w64 (s0.2.1 - x200.1)))) then
          bif (decide ((w64 (Int.tdiv (w64 (s0.2.1 - s0.1)) 8)) ≤ (w64 (x200.1 - s0.1)))) then
           (rc s0.1 x200.1 (w64 (s0.2.2.1 - 1)) e x200.2).bind fun x205 =>
           some (.inl ((w64 (x200.1 + 1)), s0.2.1, (w64 (s0.2.2.1 - 1)), true, false, x205))
          else
           (rc s0.1 x200.1 (w64 (s0.2.2.1 - 1)) e x200.2).bind fun x206 =>
           some (.inl ((w64 (x200.1 + 1)), s0.2.1, (w64 (s0.2.2.1 - 1)), false, false, x206))
         else
          bif (decide ((w64 (Int.tdiv (w64 (s0.2.1 - s0.1)) 8)) ≤ (w64 (s0.2.1 - x200.1)))) then
           (rc (w64 (x200.1 + 1)) s0.2.1 (w64 (s0.2.2.1 - 1)) e x200.2).bind fun x207 =>
           some (.inl (s0.1, x200.1, (w64 (s0.2.2.1 - 1)), true, false, x207))
          else
           (rc (w64 (x200.1 + 1)) s0.2.1 (w64 (s0.2.2.1 - 1)) e x200.2).bind fun x208 =>
           some (.inl (s0.1, x200.1, (w64 (s0.2.2.1 - 1)), false, false, x208))
       else
        (Zx s0.1 s0.2.1 x173.1 e x172).bind fun x209 =>
        some (.inl (x209.1, s0.2.1, (w64 (s0.2.2.1 - 1)), false, false, x209.2))
      else
       (Zn s0.1 s0.2.1 x173.1 e x172).bind fun x210 =>
       match x210 with
       | (.inl x210) =>
        bif (decide ((w64 (x210.1 - s0.1)) < (w64 (s0.2.1 - x210.1)))) then
         bif (decide ((w64 (Int.tdiv (w64 (s0.2.1 - s0.1)) 8)) ≤ (w64 (x210.1 - s0.1)))) then
          (rc s0.1 x210.1 (w64 (s0.2.2.1 - 1)) e x210.2).bind fun x211 =>
          some (.inl ((w64 (x210.1 + 1)), s0.2.1, (w64 (s0.2.2.1 - 1)), true, true, x211))
         else
          (rc s0.1 x210.1 (w64 (s0.2.2.1 - 1)) e x210.2).bind fun x212 =>
          some (.inl ((w64 (x210.1 + 1)), s0.2.1, (w64 (s0.2.2.1 - 1)), false, true, x212))
        else
         bif (decide ((w64 (Int.tdiv (w64 (s0.2.1 - s0.1)) 8)) ≤ (w64 (s0.2.1 - x210.1)))) then
          (rc (w64 (x210.1 + 1)) s0.2.1 (w64 (s0.2.2.1 - 1)) e x210.2).bind fun x213 =>
          some (.inl (s0.1, x210.1, (w64 (s0.2.2.1 - 1)), true, true, x213))
         else
          (rc (w64 (x210.1 + 1)) s0.2.1 (w64 (s0.2.2.1 - 1)) e x210.2).bind fun x214 =>
          some (.inl (s0.1, x210.1, (w64 (s0.2.2.1 - 1)), false, true, x214))
       | (.inr x210) =>
        bif (decide ((w64 (x210.1 - s0.1)) < (w64 (s0.2.1 - x210.1)))) then
         bif (decide ((w64 (Int.tdiv (w64 (s0.2.1 - s0.1)) 8)) ≤ (w64 (x210.1 - s0.1)))) then
          (rc s0.1 x210.1 (w64 (s0.2.2.1 - 1)) e x210.2).bind fun x215 =>
          some (.inl ((w64 (x210.1 + 1)), s0.2.1, (w64 (s0.2.2.1 - 1)), true, false, x215))
         else
          (rc s0.1 x210.1 (w64 (s0.2.2.1 - 1)) e x210.2).bind fun x216 =>
          some (.inl ((w64 (x210.1 + 1)), s0.2.1, (w64 (s0.2.2.1 - 1)), false, false, x216))
        else
         bif (decide ((w64 (Int.tdiv (w64 (s0.2.1 - s0.1)) 8)) ≤ (w64 (s0.2.1 - x210.1)))) then
          (rc (w64 (x210.1 + 1)) s0.2.1 (w64 (s0.2.2.1 - 1)) e x210.2).bind fun x217 =>
          some (.inl (s0.1, x210.1, (w64 (s0.2.2.1 - 1)), true, false, x217))
         else
          (rc (w64 (x210.1 + 1)) s0.2.1 (w64 (s0.2.2.1 - 1)) e x210.2).bind fun x218 =>
          some (.inl (s0.1, x210.1, (w64 (s0.2.2.1 - 1)), false, false, x218))
noncomputable def Zaj (rc : Int → Int → Int → (Int → Int → Option Int) → (List Int) → Option (List Int)) (b : Int) (c : Int) (d : Int) (e : (Int → Int → Option Int)) (m0_0 : (List Int)) : Option (List Int) :=
 (lp (ZI e rc) (b, c, d, true, true, m0_0)).bind fun r219 =>
 some r219
noncomputable def ZU : Nat → Int → Int → Int → (Int → Int → Option Int) → (List Int) → Option (List Int)
 | 0 => fun _ _ _ _ _ => none
 | n + 1 => Zaj (ZU n)
noncomputable def Zc9 (b : Int) (c : Int) (d : Int) (e : (Int → Int → Option Int)) (m0_0 : (List Int)) : Option (List Int) := ZsU fun n => ZU n b c d e m0_0
noncomputable def Zaz (b : (Int → Int → Option Int)) (m0_0 : (List Int)) : Option (List Int) :=
 (ZdF (IntKind.u64.wrap (m0_0.length : Int))).bind fun x0 =>
 (Zc9 0 (m0_0.length : Int) x0 b m0_0).bind fun x1 =>
 some x1
noncomputable def ZcT (a : Zm) (b : Int) (s1 : Int × (List Int)) : Option ((Int × (List Int)) ⊕ (List Int)) :=
 bif (decide (s1.1 < (a.futures.length : Int))) then
  (ZA a.futures s1.1).bind fun x2 =>
  bif (x2.user == b) then
   bif (Nat.ble (List.length s1.2 + 1) lim) then
    some (.inl ((w64 (s1.1 + 1)), (s1.2 ++ [s1.1])))
   else
    none
  else
   some (.inl ((w64 (s1.1 + 1)), s1.2))
 else
  some (.inr s1.2)
noncomputable def Zew (a : Zm) (b : Int) : Option (List Int) :=
 (ZdJ a).bind fun x0 =>
 bif (x0 != 0) then
  some ([] : List Int)
 else
  (lp (ZcT a b) (0, ([] : (List Int)))).bind fun r3 =>
  (Zaz (fun z0 z1 => Zp z0 z1 a.futures) r3).bind fun x4 =>
  some x4
noncomputable def ZeT (a : Zm) (b : Int) (s1 : Int × (List Int)) : Option ((Int × (List Int)) ⊕ (List Int)) :=
 bif (decide (s1.1 < (a.edges.length : Int))) then
  (ZA a.edges s1.1).bind fun x2 =>
  bif (x2.dst == b) then
   bif (Nat.ble (List.length s1.2 + 1) lim) then
    some (.inl ((w64 (s1.1 + 1)), (s1.2 ++ [x2.src])))
   else
    none
  else
   some (.inl ((w64 (s1.1 + 1)), s1.2))
 else
  some (.inr s1.2)
noncomputable def ZeV (a : Zm) (x4 : (List Int)) (s5 : Int × (List Int)) : Option ((Int × (List Int)) ⊕ (List Int)) :=
 bif (decide (s5.1 < (x4.length : Int))) then
  (ZA x4 s5.1).bind fun x6 =>
  (ZA a.futures x6).bind fun x7 =>
  bif (Nat.ble (List.length s5.2 + 1) lim) then
   some (.inl ((w64 (s5.1 + 1)), (s5.2 ++ [x7.maker])))
  else
   none
 else
  some (.inr s5.2)
noncomputable def ZeE (a : Zm) (b : Int) : Option (List Int) :=
 (ZdJ a).bind fun x0 =>
 bif (x0 != 0) then
  some ([] : List Int)
 else
  (lp (ZeT a b) (0, ([] : (List Int)))).bind fun r3 =>
  (Zew a b).bind fun x4 =>
  (lp (ZeV a x4) (0, r3)).bind fun r8 =>
  some r8
noncomputable def ZcA (a : Int) : Option Int :=
 some (IntKind.u32.wrap a)
noncomputable def ZgT : Option Unit :=
 some ()
noncomputable def ZeP (a : Int) (b : Int) : Option Int :=
 some (IntKind.u32.wrap (a + b))
noncomputable def ZeM (a : Int) (b : Int) : Option Int :=
 some (IntKind.u32.wrap (a * b))
noncomputable def ZeN (a : Int) (b : Int) : Option Int :=
 some (bif decide (a < b) then b else a)
noncomputable def ZeR (a : Int) (b : Int) : Option Int :=
 some (IntKind.u32.wrap ((IntKind.u32.wrap (a * 31)) + b))
noncomputable def Zd5 (b : (List Int)) (s0 : Int × (List (Int × Int))) : Option ((Int × (List (Int × Int))) ⊕ (List (Int × Int))) :=
 bif (decide (s0.1 < (b.length : Int))) then
  (ZA b s0.1).bind fun x1 =>
  some (.inl ((w64 (s0.1 + 1)), (ZkZ (fun ka kb : Int => (ka == kb)) s0.2 s0.1 x1)))
 else
  some (.inr s0.2)
noncomputable def Zd4 (c : (List Int)) (s6 : Int × Int) : Option ((Int × Int) ⊕ Int) :=
 bif (decide (s6.2 < (c.length : Int))) then
  (ZA c s6.2).bind fun x7 =>
  (ZcA x7).bind fun x8 =>
  (ZeP s6.1 x8).bind fun x9 =>
  some (.inl (x9, (w64 (s6.2 + 1))))
 else
  some (.inr s6.1)
noncomputable def Zdr (c : (List Int)) (s11 : Int × Int) : Option ((Int × Int) ⊕ Int) :=
 bif (decide (s11.2 < (c.length : Int))) then
  (ZA c s11.2).bind fun x12 =>
  (ZcA x12).bind fun x13 =>
  (ZeM s11.1 x13).bind fun x14 =>
  some (.inl (x14, (w64 (s11.2 + 1))))
 else
  some (.inr s11.1)
noncomputable def Zdm (c : (List Int)) (s16 : Int × Int) : Option ((Int × Int) ⊕ Int) :=
 bif (decide (s16.2 < (c.length : Int))) then
  (ZA c s16.2).bind fun x17 =>
  (ZcA x17).bind fun x18 =>
  (ZeN s16.1 x18).bind fun x19 =>
  some (.inl (x19, (w64 (s16.2 + 1))))
 else
  some (.inr s16.1)
noncomputable def Zdq (c : (List Int)) (s21 : Int × Int) : Option ((Int × Int) ⊕ Int) :=
 bif (decide (s21.2 < (c.length : Int))) then
  (ZA c s21.2).bind fun x22 =>
  (ZcA x22).bind fun x23 =>
  (ZeR s21.1 x23).bind fun x24 =>
  some (.inl (x24, (w64 (s21.2 + 1))))
 else
  some (.inr s21.1)
noncomputable def ZhE (a : ZK) (b : (List Int)) (c : (List Int)) : Option Int :=
 bif (a.op == 0) then
  (lp (Zd5 b) (0, ([] : (List (Int × Int))))).bind fun r2 =>
  (ZcA (Zfw (fun ka kb : Int => (ka == kb)) r2 a.arg 0)).bind fun x3 =>
  some (w64 x3)
 else
  bif (a.op == 1) then
   (ZcA a.arg).bind fun x4 =>
   some (w64 x4)
  else
   bif (decide (a.op < 0)) then
    some 0
   else
    bif (decide (5 < a.op)) then
     some 0
    else
     ZgT.bind fun x5 =>
     bif (decide (0 ≤ (w64 (a.op - 2))) && decide ((w64 (a.op - 2)) < 4)) then
      bif ((w64 (a.op - 2)) == 0) then
       (lp (Zd4 c) (0, 0)).bind fun r10 =>
       some (w64 r10)
      else
      bif ((w64 (a.op - 2)) == 1) then
       (lp (Zdr c) (1, 0)).bind fun r15 =>
       some (w64 r15)
      else
      bif ((w64 (a.op - 2)) == 2) then
       (lp (Zdm c) (0, 0)).bind fun r20 =>
       some (w64 r20)
      else
      bif ((w64 (a.op - 2)) == 3) then
       (lp (Zdq c) (7, 0)).bind fun r25 =>
       some (w64 r25)
      else
       none
     else
      none
noncomputable def ZeD (c : Zr) (x4 : (List Int)) (s5 : Int × (List Int)) : Option ((Int × (List Int)) ⊕ (List Int)) :=
 bif (decide (s5.1 < (x4.length : Int))) then
  (ZA x4 s5.1).bind fun x6 =>
  (ZA c.vals x6).bind fun x7 =>
  bif (Nat.ble (List.length s5.2 + 1) lim) then
   some (.inl ((w64 (s5.1 + 1)), (s5.2 ++ [x7])))
  else
   none
 else
  some (.inr s5.2)
noncomputable def Zeh (a : Zm) (b : (List Int)) (c : Zr) (d : Int) : Option Zr :=
 (Zbg c.work).bind fun x0 =>
 (Zbg c.vals).bind fun x1 =>
 (ZA c.work d).bind fun x2 =>
 (Za4 a (Zr.mk (List.set c.work d.toNat (w64 (x2 + 1))) c.vals) d).bind fun x3 =>
 bif x3 then
  (ZeE a d).bind fun x4 =>
  (lp (ZeD c x4) (0, ([] : (List Int)))).bind fun r8 =>
  (ZA a.parts d).bind fun x9 =>
  (ZhE x9 b r8).bind fun x10 =>
  (ZA c.vals d).bind fun x11 =>
  some (Zr.mk (List.set c.work d.toNat (w64 (x2 + 1))) (List.set c.vals d.toNat x10))
 else
  some (Zr.mk (List.set c.work d.toNat (w64 (x2 + 1))) c.vals)
noncomputable def ZfX (a : Zm) (b : (List Int)) (c : Zr) (d : Int) : Option (Zr × Int) :=
 (Zbz a c).bind fun x0 =>
 bif (x0 == 0) then
  bif (decide (d < 0)) then
   some ((Zr.mk ([] : List Int) ([] : List Int)), 91)
  else
   bif (decide ((a.parts.length : Int) ≤ d)) then
    some ((Zr.mk ([] : List Int) ([] : List Int)), 91)
   else
    bif (x0 != 0) then
     some ((Zr.mk ([] : List Int) ([] : List Int)), x0)
    else
     (Za4 a c d).bind fun x1 =>
     bif x1 then
      some ((Zr.mk ([] : List Int) ([] : List Int)), 92)
     else
      (Zei a c d).bind fun x2 =>
      bif x2 then
       (Zeh a b c d).bind fun x3 =>
       some (x3, 0)
      else
       some ((Zr.mk ([] : List Int) ([] : List Int)), 93)
 else
  bif (x0 != 0) then
   some ((Zr.mk ([] : List Int) ([] : List Int)), x0)
  else
   (Za4 a c d).bind fun x4 =>
   bif x4 then
    some ((Zr.mk ([] : List Int) ([] : List Int)), 92)
   else
    (Zei a c d).bind fun x5 =>
    bif x5 then
     (Zeh a b c d).bind fun x6 =>
     some (x6, 0)
    else
     some ((Zr.mk ([] : List Int) ([] : List Int)), 93)
noncomputable def Zfh (a : Zm) : Option (Zr × Int) :=
 (ZdJ a).bind fun x0 =>
 bif (x0 != 0) then
  some ((Zr.mk ([] : List Int) ([] : List Int)), x0)
 else
  bif (decide (0 ≤ (a.parts.length : Int)) && decide ((a.parts.length : Int) ≤ lim) && decide ((a.parts.length : Int) == (a.parts.length : Int))) then
   bif (decide (0 ≤ (a.parts.length : Int)) && decide ((a.parts.length : Int) ≤ lim) && decide ((a.parts.length : Int) == (a.parts.length : Int))) then
    some ((Zr.mk (List.replicate (a.parts.length : Int).toNat (0 : Int)) (List.replicate (a.parts.length : Int).toNat (0 : Int))), 0)
   else
    none
  else
   none
noncomputable def ZaB (x7 : Zi) (x12 : (Zr × Int)) (s13 : Bool × Int) : Option ((Bool × Int) ⊕ (Unit ⊕ Unit)) :=
 bif s13.1 then
  bif (decide (s13.2 < (x7.outs.length : Int))) then
   some (.inl (true, (w64 (s13.2 + 1))))
  else
   some (.inr (.inl ()))
 else
  bif (decide (s13.2 < (x7.outs.length : Int))) then
   (ZA x7.outs s13.2).bind fun x14 =>
   (ZA x12.1.work x14).bind fun x15 =>
   bif (decide (0 < x15)) then
    some (.inl (true, (w64 (s13.2 + 1))))
   else
    some (.inl (false, (w64 (s13.2 + 1))))
  else
   some (.inr (.inr ()))
noncomputable def ZcB (a : Zm) (x7 : Zi) (x12 : (Zr × Int)) (s17 : Bool × Int) : Option ((Bool × Int) ⊕ (Unit ⊕ Unit)) :=
 bif s17.1 then
  bif (decide (s17.2 < (x7.ins.length : Int))) then
   some (.inl (true, (w64 (s17.2 + 1))))
  else
   some (.inr (.inl ()))
 else
  bif (decide (s17.2 < (x7.ins.length : Int))) then
   (ZA x7.ins s17.2).bind fun x18 =>
   (ZA x12.1.work x18).bind fun x19 =>
   (ZA a.parts x18).bind fun x20 =>
   bif (decide (x19 < x20.work)) then
    some (.inl (true, (w64 (s17.2 + 1))))
   else
    some (.inl (false, (w64 (s17.2 + 1))))
  else
   some (.inr (.inr ()))
noncomputable def Zcc (a : Zm) (x7 : Zi) (x12 : (Zr × Int)) (s25 : Bool × Int) : Option ((Bool × Int) ⊕ (Unit ⊕ Unit)) :=
 bif s25.1 then
  bif (decide (s25.2 < (x7.ins.length : Int))) then
   some (.inl (true, (w64 (s25.2 + 1))))
  else
   some (.inr (.inl ()))
 else
  bif (decide (s25.2 < (x7.ins.length : Int))) then
   (ZA x7.ins s25.2).bind fun x26 =>
   (ZA x12.1.work x26).bind fun x27 =>
   (ZA a.parts x26).bind fun x28 =>
   bif (decide (x27 < x28.work)) then
    some (.inl (true, (w64 (s25.2 + 1))))
   else
    some (.inl (false, (w64 (s25.2 + 1))))
  else
   some (.inr (.inr ()))
noncomputable def Zak (x7 : Zi) (s8 : Int × (List Int) × (List Int)) (s36 : Bool × Int) : Option ((Bool × Int) ⊕ (Unit ⊕ Unit)) :=
 bif s36.1 then
  bif (decide (s36.2 < (x7.outs.length : Int))) then
   some (.inl (true, (w64 (s36.2 + 1))))
  else
   some (.inr (.inl ()))
 else
  bif (decide (s36.2 < (x7.outs.length : Int))) then
   (ZA x7.outs s36.2).bind fun x37 =>
   (ZA s8.2.1 x37).bind fun x38 =>
   bif (decide (0 < x38)) then
    some (.inl (true, (w64 (s36.2 + 1))))
   else
    some (.inl (false, (w64 (s36.2 + 1))))
  else
   some (.inr (.inr ()))
noncomputable def Zck (a : Zm) (x7 : Zi) (s8 : Int × (List Int) × (List Int)) (s40 : Bool × Int) : Option ((Bool × Int) ⊕ (Unit ⊕ Unit)) :=
 bif s40.1 then
  bif (decide (s40.2 < (x7.ins.length : Int))) then
   some (.inl (true, (w64 (s40.2 + 1))))
  else
   some (.inr (.inl ()))
 else
  bif (decide (s40.2 < (x7.ins.length : Int))) then
   (ZA x7.ins s40.2).bind fun x41 =>
   (ZA s8.2.1 x41).bind fun x42 =>
   (ZA a.parts x41).bind fun x43 =>
   bif (decide (x42 < x43.work)) then
    some (.inl (true, (w64 (s40.2 + 1))))
   else
    some (.inl (false, (w64 (s40.2 + 1))))
  else
   some (.inr (.inr ()))
noncomputable def Zcj (a : Zm) (x7 : Zi) (s8 : Int × (List Int) × (List Int)) (s48 : Bool × Int) : Option ((Bool × Int) ⊕ (Unit ⊕ Unit)) :=
 bif s48.1 then
  bif (decide (s48.2 < (x7.ins.length : Int))) then
   some (.inl (true, (w64 (s48.2 + 1))))
  else
   some (.inr (.inl ()))
 else
  bif (decide (s48.2 < (x7.ins.length : Int))) then
   (ZA x7.ins s48.2).bind fun x49 =>
   (ZA s8.2.1 x49).bind fun x50 =>
   (ZA a.parts x49).bind fun x51 =>
   bif (decide (x50 < x51.work)) then
    some (.inl (true, (w64 (s48.2 + 1))))
   else
    some (.inl (false, (w64 (s48.2 + 1))))
  else
   some (.inr (.inr ()))
noncomputable def ZaP (a : Zm) (b : (List Int)) (c : (List Int)) (x7 : Zi) (s8 : Int × (List Int) × (List Int)) : Option ((Int × (List Int) × (List Int)) ⊕ (Unit ⊕ Unit)) :=
 bif (decide (s8.1 < (c.length : Int))) then
  (Zcl a).bind fun x9 =>
  bif (Nat.ble (List.length b) lim) then
   (ZcK (Zr.mk s8.2.1 s8.2.2)).bind fun x10 =>
   (ZA c s8.1).bind fun x11 =>
   (ZfX (Zm.mk a.period a.deadline a.parts a.edges a.futures x9) b (Zr.mk (Zr.mk s8.2.1 s8.2.2).work (Zr.mk s8.2.1 s8.2.2).vals) x11).bind fun x12 =>
   bif (x12.2 == 0) then
    (lp (ZaB x7 x12) (false, 0)).bind fun r16 =>
    match r16 with
    | (.inl r16) =>
     (lp (ZcB a x7 x12) (false, 0)).bind fun r21 =>
     match r21 with
     | (.inl r21) =>
      some (.inr (.inl ()))
     | (.inr r21) =>
      (Zcl a).bind fun x22 =>
      (ZcK x12.1).bind fun x23 =>
      (Zbz (Zm.mk a.period a.deadline a.parts a.edges a.futures x22) x12.1).bind fun x24 =>
      bif (x24 != 0) then
       some (.inr (.inl ()))
      else
       some (.inl ((w64 (s8.1 + 1)), x12.1.work, x12.1.vals))
    | (.inr r16) =>
     (lp (Zcc a x7 x12) (false, 0)).bind fun r29 =>
     match r29 with
     | (.inl r29) =>
      (Zcl a).bind fun x30 =>
      (ZcK x12.1).bind fun x31 =>
      (Zbz (Zm.mk a.period a.deadline a.parts a.edges a.futures x30) x12.1).bind fun x32 =>
      bif (x32 != 0) then
       some (.inr (.inl ()))
      else
       some (.inl ((w64 (s8.1 + 1)), x12.1.work, x12.1.vals))
     | (.inr r29) =>
      (Zcl a).bind fun x33 =>
      (ZcK x12.1).bind fun x34 =>
      (Zbz (Zm.mk a.period a.deadline a.parts a.edges a.futures x33) x12.1).bind fun x35 =>
      bif (x35 != 0) then
       some (.inr (.inl ()))
      else
       some (.inl ((w64 (s8.1 + 1)), x12.1.work, x12.1.vals))
   else
    (lp (Zak x7 s8) (false, 0)).bind fun r39 =>
    match r39 with
    | (.inl r39) =>
     (lp (Zck a x7 s8) (false, 0)).bind fun r44 =>
     match r44 with
     | (.inl r44) =>
      some (.inr (.inl ()))
     | (.inr r44) =>
      (Zcl a).bind fun x45 =>
      (ZcK (Zr.mk s8.2.1 s8.2.2)).bind fun x46 =>
      (Zbz (Zm.mk a.period a.deadline a.parts a.edges a.futures x45) (Zr.mk (Zr.mk s8.2.1 s8.2.2).work (Zr.mk s8.2.1 s8.2.2).vals)).bind fun x47 =>
      bif (x47 != 0) then
       some (.inr (.inl ()))
      else
       some (.inl ((w64 (s8.1 + 1)), s8.2.1, s8.2.2))
    | (.inr r39) =>
     (lp (Zcj a x7 s8) (false, 0)).bind fun r52 =>
     match r52 with
     | (.inl r52) =>
      (Zcl a).bind fun x53 =>
      (ZcK (Zr.mk s8.2.1 s8.2.2)).bind fun x54 =>
      (Zbz (Zm.mk a.period a.deadline a.parts a.edges a.futures x53) (Zr.mk (Zr.mk s8.2.1 s8.2.2).work (Zr.mk s8.2.1 s8.2.2).vals)).bind fun x55 =>
      bif (x55 != 0) then
       some (.inr (.inl ()))
      else
       some (.inl ((w64 (s8.1 + 1)), s8.2.1, s8.2.2))
     | (.inr r52) =>
      (Zcl a).bind fun x56 =>
      (ZcK (Zr.mk s8.2.1 s8.2.2)).bind fun x57 =>
      (Zbz (Zm.mk a.period a.deadline a.parts a.edges a.futures x56) (Zr.mk (Zr.mk s8.2.1 s8.2.2).work (Zr.mk s8.2.1 s8.2.2).vals)).bind fun x58 =>
      bif (x58 != 0) then
       some (.inr (.inl ()))
      else
       some (.inl ((w64 (s8.1 + 1)), s8.2.1, s8.2.2))
  else
   none
 else
  some (.inr (.inr ()))
noncomputable def Zdw (a : Zm) (b : (List Int)) (c : (List Int)) (d : Int) : Option Bool :=
 Zdc.bind fun x0 =>
 bif x0 then
  (ZfK a b (Zr.mk ([] : List Int) ([] : List Int))).bind fun x1 =>
  bif x1 then
   bif (decide (200 < (c.length : Int))) then
    Zdc.bind fun x2 =>
    bif x2 then
     some true
    else
     some false
   else
    bif (decide (d < 0)) then
     Zdc.bind fun x3 =>
     bif x3 then
      some true
     else
      some false
    else
     bif (decide ((a.barriers.length : Int) ≤ d)) then
      Zdc.bind fun x4 =>
      bif x4 then
       some true
      else
       some false
     else
      (Zcl a).bind fun x5 =>
      (Zfh (Zm.mk a.period a.deadline a.parts a.edges a.futures x5)).bind fun x6 =>
      bif (x6.2 != 0) then
       some true
      else
       (ZA a.barriers d).bind fun x7 =>
       (lp (ZaP a b c x7) (0, x6.1.work, x6.1.vals)).bind fun r59 =>
       match r59 with
       | (.inl r59) =>
        some false
       | (.inr r59) =>
        some true
  else
   Zdc.bind fun x60 =>
   bif x60 then
    some true
   else
    some false
 else
  Zdc.bind fun x61 =>
  bif x61 then
   some true
  else
   some false
end Go.Proofs.YtnmbdjkbaihicaaDoor
namespace Go.Proofs.YtnmbdjkbaihicaaDoorE
open Go
set_option linter.unusedVariables false
set_option linter.unusedSimpArgs false
theorem ZeK {i n : Nat} (h : i < n) : decide ((i : Int) < (n : Int)) = true := decide_eq_true (by omega)
theorem ZeL (n : Nat) : decide ((n : Int) < (n : Int)) = false := decide_eq_false (by omega)
theorem ZaZ {γ : Type} {l : List γ} {i : Nat} {x : γ} (h : l[i]? = some x) : ZA l (i : Int) = some x := (ZsE l i).trans h
theorem ZpN {γ : Type} {l : List γ} {i : Int} {x : γ} (h0 : 0 ≤ i) (h : l[i.toNat]? = some x) : ZA l i = some x := by
 have := ZaZ h
 rwa [Int.toNat_of_nonneg h0] at this
theorem Zeu {n : Int} (h1 : -9223372036854775808 ≤ n) (h2 : n < 9223372036854775808) : w64 n = n := Zvi h1 h2
theorem Z2 {i n : Nat} (h : i < n) (hn : n < 9223372036854775808) : w64 ((i : Int) + 1) = ((i + 1 : Nat) : Int) := by rw [Zeu (by omega) (by omega)]; omega
theorem ZiR {n : Nat} (h : n ≤ 1073741824) : Nat.ble n lim = true := Nat.ble_eq_true_of_le h
def ZkP {γ S R : Type} (f : Nat → γ → S → Option (S ⊕ R)) (fin : S → Option R) : Nat → List γ → S → Option R
 | _, [], s => fin s
 | i, x :: l, s => (match f i x s with | some (.inl s') => ZkP f fin (i + 1) l s' | some (.inr r) => some r | none => none)
theorem ZnT {γ S St R : Type} (l : List γ) (step : St → Option (St ⊕ R)) (st : Nat → S → St) (f : Nat → γ → S → Option (S ⊕ R)) (fin : S → Option R)
  (h1 : ∀ i x s, i < l.length → l[i]? = some x → step (st i s) = (match f i x s with | some (.inl s') => some (.inl (st (i + 1) s')) | some (.inr r) => some (.inr r) | none => none))
  (h2 : ∀ s, step (st l.length s) = (fin s).map Sum.inr) : ∀ s, lp step (st 0 s) = ZkP f fin 0 l s := by
 have key : ∀ (k i : Nat) (s : S), i + k = l.length → lp step (st i s) = ZkP f fin i (l.drop i) s := by
  intro k
  induction k with
  | zero =>
   intro i s hi
   have : i = l.length := by omega
   subst this
   rw [List.drop_length, Zb9, h2]
   unfold ZkP
   cases fin s <;> rfl
  | succ k ih =>
   intro i s hi
   have hi' : i < l.length := by omega
   rw [List.drop_eq_getElem_cons hi', Zb9, h1 i l[i] s hi' (List.getElem?_eq_getElem hi')]
   conv => rhs; unfold ZkP
   cases f i l[i] s with
   | none => rfl
   | some t =>
    cases t with
    | inl s' => exact ih (i + 1) s' (by omega)
    | inr r => rfl
 intro s
 have := key l.length 0 s (by omega)
 rwa [List.drop_zero] at this
def ZmA {γ R : Type} (p : Nat → γ → Bool) (out : Nat → γ → R) (fin : R) : Nat → List γ → R
 | _, [] => fin
 | i, x :: l => bif p i x then out i x else ZmA p out fin (i + 1) l
theorem ZeU {γ R : Type} (l : List γ) (step : Int → Option (Int ⊕ R)) (p : Nat → γ → Bool) (out : Nat → γ → R) (fin : R)
  (h1 : ∀ i x, i < l.length → l[i]? = some x → step (i : Int) = some (bif p i x then .inr (out i x) else .inl ((i + 1 : Nat) : Int)))
  (h2 : step (l.length : Int) = some (.inr fin)) : lp step 0 = some (ZmA p out fin 0 l) := by
 have key := ZnT (S := Unit) l step (fun i _ => (i : Int)) (fun i x _ => some (bif p i x then .inr (out i x) else .inl ())) (fun _ => some fin)
  (fun i x s hi hx => by rw [h1 i x hi hx]; cases p i x <;> rfl) (fun _ => h2) ()
 refine (key : lp step 0 = _).trans ?_
 have : ∀ (l : List γ) (i : Nat), ZkP (S := Unit) (fun i x _ => some (bif p i x then Sum.inr (out i x) else Sum.inl ())) (fun _ => some fin) i l () = some (ZmA p out fin i l) := by
  intro l
  induction l with
  | nil => intro i; rfl
  | cons x l ih =>
   intro i
   unfold ZkP ZmA
   cases p i x with
   | true => rfl
   | false => exact ih (i + 1)
 exact this l 0
def Zfq {γ : Type} (p : Nat → γ → Bool) : Nat → List γ → Bool
 | _, [] => false
 | i, x :: l => p i x || Zfq p (i + 1) l
theorem Zhu {γ : Type} (p : γ → Bool) : ∀ (l : List γ) (i : Nat), Zfq (fun _ => p) i l = l.any p
 | [], _ => rfl
 | x :: l, i => by rw [Zfq, List.any_cons, Zhu p l]
theorem Zdv {γ R : Type} (p : Nat → γ → Bool) (c fin : R) : ∀ (l : List γ) (i : Nat), ZmA p (fun _ _ => c) fin i l = bif Zfq p i l then c else fin
 | [], _ => rfl
 | x :: l, i => by
  unfold ZmA Zfq
  rw [Zdv p c fin l (i + 1)]
  cases p i x <;> rfl
theorem Zme {γ R : Type} (p : γ → Bool) (fin : R) : ∀ (l : List γ) (i : Nat), (∃ j : Nat, ZmA (fun _ => p) (fun i _ => (Sum.inl (i : Int) : Int ⊕ R)) (.inr fin) i l = .inl (j : Int) ∧ l.any p = true) ∨ (ZmA (fun _ => p) (fun i _ => (Sum.inl (i : Int) : Int ⊕ R)) (.inr fin) i l = .inr fin ∧ l.any p = false)
 | [], _ => .inr ⟨rfl, rfl⟩
 | x :: l, i => by
  unfold ZmA
  rw [List.any_cons]
  cases h : p x with
  | true => exact .inl ⟨i, rfl, rfl⟩
  | false => simpa using Zme p fin l (i + 1)
theorem Zhz {γ : Type} (p : Nat → γ → Bool) : ∀ (l : List γ) (i : Nat), Zfq p i l = true ↔ ∃ j x, l[j]? = some x ∧ p (i + j) x = true
 | [], i => by simp [Zfq]
 | x :: l, i => by
  rw [Zfq, Bool.or_eq_true, Zhz p l (i + 1)]
  constructor
  ·rintro (h | ⟨j, y, hj, hp⟩)
   ·exact ⟨0, x, rfl, h⟩
   ·exact ⟨j + 1, y, by simpa using hj, by rw [show i + (j + 1) = i + 1 + j by omega]; exact hp⟩
  ·rintro ⟨j, y, hj, hp⟩
   cases j with
   | zero => left; simp at hj; subst hj; exact hp
   | succ j => right; exact ⟨j, y, by simpa using hj, by rw [show i + 1 + j = i + (j + 1) by omega]; exact hp⟩
end Go.Proofs.YtnmbdjkbaihicaaDoorE
namespace Go.Proofs.YtnmbdjkbaihicaaDoor
open Go Go.Proofs.YtnmbdjkbaihicaaDoorE
set_option linter.unusedVariables false
set_option linter.unusedSimpArgs false
def ZcC (n a b : Int) : Bool := decide (a ≤ n) && decide (n ≤ b)
theorem ZiL (n a b : Int) : Zbh n a b = some (ZcC n a b) := by
 unfold Zbh ZcC
 cases decide (a ≤ n) <;> cases decide (n ≤ b) <;> rfl
def ZeW (p : ZK) : Bool := !(ZcC p.op 0 5 && (ZcC p.arg 0 2147483647 && ZcC p.work 1 100))
theorem Zvh (p : ZK) : Zd3 p = some (ZeW p) := by
 unfold Zd3 ZeW
 simp only [ZiL, Option.bind_some]
 cases ZcC p.op 0 5 <;> cases ZcC p.arg 0 2147483647 <;> cases ZcC p.work 1 100 <;> rfl
theorem ZiM {γ : Type} (l : List γ) (p : γ → Bool) (step : Int → Option (Int ⊕ (Int ⊕ Unit)))
  (h1 : ∀ i x, i < l.length → l[i]? = some x → step (i : Int) = some (bif p x then .inr (.inl (i : Int)) else .inl ((i + 1 : Nat) : Int)))
  (h2 : step (l.length : Int) = some (.inr (.inr ()))) :
  (((lp step 0).bind fun (r : Int ⊕ Unit) => match r with | .inl r => some r | .inr _ => some (-1)).bind fun x => bif decide (0 ≤ x) then some true else some false) = some (l.any p) := by
 rw [ZeU l step (fun _ => p) (fun i _ => .inl (i : Int)) (.inr ()) h1 h2]
 rcases Zme p () l 0 with ⟨j, e1, e2⟩ | ⟨e1, e2⟩
 ·rw [e1, e2]
  show (bif decide ((0 : Int) ≤ (j : Int)) then some true else some false) = some true
  rw [decide_eq_true (by omega)]
  rfl
 ·rw [e1, e2]
  rfl
theorem Zmc (l : List ZK) (f : ZK → Option Bool) (p : ZK → Bool) (hf : ∀ x ∈ l, f x = some (p x)) (hl : l.length < 9223372036854775808) : ZaF l f = some (l.any p) := by
 unfold ZaF ZbH
 refine ZiM l p _ (fun i x hi hx => ?_) ?_
 ·simp only [ZaG, ZeK hi, ZaZ hx, Option.bind_some, hf x (List.mem_of_getElem? hx), Z2 hi hl, cond_true]
  cases p x <;> rfl
 ·simp only [ZaG, ZeL]; rfl
def Zpn (e x : ZJ) : Bool := e.src == x.src && (e.dst == x.dst && true)
theorem ZrD (l : List ZJ) (e : ZJ) (hl : l.length < 9223372036854775808) : Za5 l e = some (l.any (Zpn e)) := by
 unfold Za5 Zcb
 refine ZiM l (Zpn e) _ (fun i x hi hx => ?_) ?_
 ·simp only [Za6, ZeK hi, ZaZ hx, Option.bind_some, Z2 hi hl, cond_true, Zpn]
  cases (e.src == x.src && (e.dst == x.dst && true)) <;> rfl
 ·simp only [Za6, ZeL]; rfl
def again (f g : Zq) : Bool := g.user == f.user && g.pos == f.pos
theorem Zhi (l : List Zq) (f : Zq → Option Bool) (p : Zq → Bool) (hf : ∀ x ∈ l, f x = some (p x)) (hl : l.length < 9223372036854775808) : ZP l f = some (l.any p) := by
 unfold ZP Zai
 refine ZiM l p _ (fun i x hi hx => ?_) ?_
 ·simp only [ZX, ZeK hi, ZaZ hx, Option.bind_some, hf x (List.mem_of_getElem? hx), Z2 hi hl, cond_true]
  cases p x <;> rfl
 ·simp only [ZX, ZeL]; rfl
theorem ZtG (f g : Zq) : ZcH g f.user f.pos = some (again f g) := by
 unfold ZcH again
 cases (g.user == f.user) <;> cases (g.pos == f.pos) <;> rfl
theorem Zov (l : List Int) (n : Int) (hl : l.length < 9223372036854775808) : ZaQ l n = some (l.any (fun x => n == x)) := by
 unfold ZaQ Zcz
 refine ZiM l (fun x => n == x) _ (fun i x hi hx => ?_) ?_
 ·simp only [Zbq, ZeK hi, ZaZ hx, Option.bind_some, Z2 hi hl, cond_true]
  cases (n == x) <;> rfl
 ·simp only [Zbq, ZeL]; rfl
def ZmR (b : Zi) (n : Int) : Bool := b.outs.any fun x => n == x
theorem ZmY (l : List Int) (f : Int → Option Bool) (p : Int → Bool) (hf : ∀ x ∈ l, f x = some (p x)) (hl : l.length < 9223372036854775808) : ZaR l f = some (l.any p) := by
 unfold ZaR ZbX
 refine ZiM l p _ (fun i x hi hx => ?_) ?_
 ·simp only [ZaS, ZeK hi, ZaZ hx, Option.bind_some, hf x (List.mem_of_getElem? hx), Z2 hi hl, cond_true]
  cases p x <;> rfl
 ·simp only [ZaS, ZeL]; rfl
theorem Zws (b : Zi) (h2 : b.outs.length < 9223372036854775808) (n : Int) : ZcG n b.outs = some (ZmR b n) := by
 unfold ZcG
 simp only [Zov _ _ h2, Option.bind_some]
 unfold ZmR
 cases (b.outs.any fun y => n == y) <;> rfl
def two (n : Nat) (a b : Int) : Bool := (a != b) && (ZcC a 0 (n - 1) && ZcC b 0 (n - 1))
theorem ZuM (d : Zm) (hl : d.parts.length < 9223372036854775808) (a b : Int) : Zfo d a b = some (two d.parts.length a b) := by
 unfold Zfo two
 rw [Zeu (by omega) (by omega)]
 simp only [ZiL, Option.bind_some]
 cases (a != b) <;> cases ZcC a 0 (d.parts.length - 1) <;> cases ZcC b 0 (d.parts.length - 1) <;> rfl
def Zne (n : Nat) (l : List Int) (i : Nat) (x : Int) : Bool := !(ZcC x 0 (n - 1)) || (match i with | 0 => false | j + 1 => match l[j]? with | some y => decide (x ≤ y) | none => false)
def Zjt (n : Nat) (l : List Int) : Bool := !(Zfq (Zne n l) 0 l) && !l.isEmpty
theorem ZuA (b : Bool) (l : List Int) : ((some (bif b then (Sum.inl () : Unit ⊕ Unit) else .inr ())).bind fun r => match r with | .inl _ => some false | .inr _ => bif decide (0 < (l.length : Int)) then some true else some false) = some (!b && !l.isEmpty) := by
 cases b with
 | true => rfl
 | false =>
  cases l with
  | nil => rfl
  | cons x l => show (bif decide (0 < ((x :: l).length : Int)) then some true else some false) = some true; rw [decide_eq_true (by rw [List.length_cons]; omega)]; rfl
theorem ZuW (d : Zm) (hd : d.parts.length < 9223372036854775808) (l : List Int) (hl : l.length < 9223372036854775808) : ZfA d l = some (Zjt d.parts.length l) := by
 have key := ZeU l (Zef d l) (Zne d.parts.length l) (fun _ _ => .inl ()) (.inr ()) (fun i x hi hx => by
   simp only [Zef, ZeK hi, ZaZ hx, Option.bind_some, Z2 hi hl, cond_true, ZiL, Zne]
   rw [Zeu (by omega) (by omega)]
   cases ZcC x 0 (d.parts.length - 1) with
   | false => rfl
   | true =>
    cases i with
    | zero => rfl
    | succ i =>
     rw [decide_eq_true (show (0 : Int) < ((i + 1 : Nat) : Int) by omega), Zeu (by omega) (by omega), show (((i + 1 : Nat) : Int) - 1) = (i : Int) by omega]
     have hi2 : l[i]? = some l[i] := List.getElem?_eq_getElem (by omega)
     rw [ZaZ hi2]
     simp only [cond_true, Option.bind_some, Bool.not_true, Bool.false_or, hi2]
     cases decide (x ≤ l[i]) <;> rfl) (by simp only [Zef, ZeL]; rfl)
 unfold ZfA Zjt
 rw [key, Zdv]
 exact ZuA _ _
end Go.Proofs.YtnmbdjkbaihicaaDoor
namespace Go.Proofs.YtnmbdjkbaihicaaDoor
open Go Go.Proofs.YtnmbdjkbaihicaaDoorE
set_option linter.unusedVariables false
set_option linter.unusedSimpArgs false
def Zoh (n : Int) : Int := bif decide (n < 0) then 10 else bif decide (1099511627775 < n) then 11 else 0
theorem ZpE (n : Int) : ZfP n = some (Zoh n) := by
 unfold ZfP Zoh
 cases decide (n < 0) <;> cases decide (1099511627775 < n) <;> rfl
noncomputable def Zt2 (x : Int) : Int := match Zb4 x with | some n => n | none => 0
theorem Zvy (x : Int) : Zcp x = some (Zt2 x) := by
 unfold Zcp Zt2 Zb4
 rfl
noncomputable def Zum (n : Int) : Bool := !(Zoh n != 0) && !(Zt2 (IntKind.u64.wrap n) != 1)
theorem Ztg (n : Int) : ∃ k, Zhf n = some (k, Zum n) := by
 have tz : ∃ k, Zcn (IntKind.u64.wrap n) = some k := ⟨_, rfl⟩
 obtain ⟨k, hk⟩ := tz
 unfold Zhf Zum
 simp only [ZpE, Zvy, Option.bind_some, hk]
 cases (Zoh n != 0)
 ·cases (Zt2 (IntKind.u64.wrap n) != 1)
  ·exact ⟨k, rfl⟩
  ·exact ⟨0, rfl⟩
 ·exact ⟨0, rfl⟩
end Go.Proofs.YtnmbdjkbaihicaaDoor
namespace Go.Proofs.YtnmbdjkbaihicaaDoor
open Go Go.Proofs.YtnmbdjkbaihicaaDoorE
set_option linter.unusedVariables false
set_option linter.unusedSimpArgs false
def Zna (b : Zi) : Prop := b.ins.length < 9223372036854775808 ∧ b.outs.length < 9223372036854775808
structure Zf9 (d : Zm) : Prop where
 p : d.parts.length < 9223372036854775808
 e : d.edges.length < 9223372036854775808
 f : d.futures.length < 9223372036854775808
 b : d.barriers.length < 9223372036854775808
 i : ∀ b ∈ d.barriers, Zna b
theorem ZmK {γ : Type} {l : List γ} {i n : Nat} (h : l.length < n) : (l.take i).length < n := by rw [List.length_take]; omega
def Ze7 (d : Zm) (i : Nat) (e : ZJ) : Bool := !(two d.parts.length e.src e.dst) || (d.edges.take i).any (Zpn e)
theorem Zue (d : Zm) (h : Zf9 d) : lp (ZcW d) 0 = some (bif Zfq (Ze7 d) 0 d.edges then .inl () else .inr ()) := by
 have key := ZeU d.edges (ZcW d) (Ze7 d) (fun _ _ => .inl ()) (.inr ()) (fun i x hi hx => by
   simp only [ZcW, ZeK hi, ZaZ hx, Option.bind_some, Z2 hi h.e, cond_true, ZuM d h.p, Ze7, Int.toNat_natCast, ZrD _ _ (ZmK h.e)]
   rw [decide_eq_true (show (0 : Int) ≤ (i : Int) by omega), Nat.ble_eq_true_of_le (Nat.le_of_lt hi)]
   cases two d.parts.length x.src x.dst <;> cases (d.edges.take i).any (Zpn x) <;> rfl) (by simp only [ZcW, ZeL]; rfl)
 rw [key, Zdv]
def Zc7 (ps : List ZK) (z : Int) : Int := match ps[z.toNat]? with | some p => p.work | none => 0
def ZdC (d : Zm) (i : Nat) (f : Zq) : Bool := !(two d.parts.length f.maker f.user) || (!(ZcC f.pos 1 (Zc7 d.parts f.user - 1)) || (d.futures.take i).any (again f))
theorem ZlK {n : Nat} {a b : Int} (h : two n a b = true) : (0 ≤ a ∧ a.toNat < n) ∧ (0 ≤ b ∧ b.toNat < n) ∧ a ≠ b := by
 simp only [two, ZcC, Bool.and_eq_true, decide_eq_true_eq, bne_iff_ne] at h
 omega
theorem ZiY {γ : Type} {l : List γ} {z : Int} (h0 : 0 ≤ z) (h : z.toNat < l.length) : ZA l z = some l[z.toNat] := ZpN h0 (List.getElem?_eq_getElem h)
theorem Zrb (d : Zm) (h : Zf9 d) (hg : ∀ p ∈ d.parts, 1 ≤ p.work ∧ p.work ≤ 100) : lp (Zc1 d) 0 = some (bif Zfq (ZdC d) 0 d.futures then .inl () else .inr ()) := by
 have key := ZeU d.futures (Zc1 d) (ZdC d) (fun _ _ => .inl ()) (.inr ()) (fun i x hi hx => by
   simp only [Zc1, ZeK hi, ZaZ hx, Option.bind_some, Z2 hi h.f, cond_true, ZuM d h.p, ZdC]
   cases h1 : two d.parts.length x.maker x.user with
   | false => rfl
   | true =>
    obtain ⟨_, ⟨u1, u2⟩, _⟩ := ZlK h1
    have w := hg _ (List.getElem_mem u2)
    have wa : Zc7 d.parts x.user = d.parts[x.user.toNat].work := by simp only [Zc7, List.getElem?_eq_getElem u2]
    rw [← wa] at w
    rw [ZiY u1 u2]
    simp only [cond_true, Option.bind_some, ZiL, ← wa, Zeu (show -9223372036854775808 ≤ Zc7 d.parts x.user - 1 by omega) (by omega), Int.toNat_natCast]
    rw [decide_eq_true (show (0 : Int) ≤ (i : Int) by omega), Nat.ble_eq_true_of_le (Nat.le_of_lt hi), Zhi _ _ (again x) (fun y _ => ZtG x y) (ZmK h.f)]
    cases ZcC x.pos 1 (Zc7 d.parts x.user - 1) <;> cases (d.futures.take i).any (again x) <;> rfl) (by simp only [Zc1, ZeL]; rfl)
 rw [key, Zdv]
def Zet (n : Nat) (b : Zi) : Bool := !(Zjt n b.ins) || (!(Zjt n b.outs) || b.ins.any (ZmR b))
theorem Zp3 (d : Zm) (h : Zf9 d) : lp (ZcZ d) 0 = some (bif d.barriers.any (Zet d.parts.length) then .inl () else .inr ()) := by
 have key := ZeU d.barriers (ZcZ d) (fun _ => Zet d.parts.length) (fun _ _ => .inl ()) (.inr ()) (fun i x hi hx => by
   have hb := h.i x (List.mem_of_getElem? hx)
   simp only [ZcZ, ZeK hi, ZaZ hx, Option.bind_some, Z2 hi h.b, cond_true, ZuW d h.p _ hb.1, ZuW d h.p _ hb.2, Zet, ZmY x.ins _ (ZmR x) (fun y _ => Zws x hb.2 y) hb.1]
   cases Zjt d.parts.length x.ins <;> cases Zjt d.parts.length x.outs <;> cases x.ins.any (ZmR x) <;> rfl) (by simp only [ZcZ, ZeL]; rfl)
 rw [key, Zdv, Zhu]
noncomputable def Zmv (d : Zm) : Bool := Zum d.period && (!decide (4096 < d.period) && ZcC d.deadline 1 d.period)
def Zjy (d : Zm) : Bool := ZcC (d.parts.length : Int) 1 16 && (!decide ((48 : Int) < d.edges.length) && (!decide ((16 : Int) < d.futures.length) && !decide ((4 : Int) < d.barriers.length)))
noncomputable def Zcm (d : Zm) : Int :=
 bif Zjy d then bif Zmv d then bif d.parts.any ZeW then 52 else bif Zfq (Ze7 d) 0 d.edges then 53 else
 bif Zfq (ZdC d) 0 d.futures then 54 else bif d.barriers.any (Zet d.parts.length) then 55 else 0 else 51 else 50
theorem Zmb {ps : List ZK} (h : ps.any ZeW = false) : ∀ p ∈ ps, 1 ≤ p.work ∧ p.work ≤ 100 := fun p hp => by
 have := List.any_eq_false.1 h p hp
 simp only [ZeW, ZcC, Bool.not_eq_true, Bool.not_eq_false', Bool.and_eq_true, decide_eq_true_eq] at this
 exact this.2.2
theorem ZlA (d : Zm) (h : Zf9 d) : ZdJ d = some (Zcm d) := by
 obtain ⟨k, hk⟩ := Ztg d.period
 unfold ZdJ Zcm Zjy Zmv
 simp only [ZiL, Option.bind_some, hk, Zmc _ _ ZeW (fun x _ => Zvh x) h.p, Zue d h, Zp3 d h]
 cases ZcC (d.parts.length : Int) 1 16 with
 | false => rfl
 | true =>
  cases decide ((48 : Int) < d.edges.length) with
  | true => rfl
  | false =>
   cases decide ((16 : Int) < d.futures.length) with
   | true => rfl
   | false =>
    cases decide ((4 : Int) < d.barriers.length) with
    | true => rfl
    | false =>
     cases Zum d.period with
     | false => rfl
     | true =>
      cases decide (4096 < d.period) with
      | true => rfl
      | false =>
       cases ZcC d.deadline 1 d.period with
       | false => rfl
       | true =>
        cases hp : d.parts.any ZeW with
        | true => rfl
        | false =>
         rw [Zrb d h (Zmb hp)]
         cases Zfq (Ze7 d) 0 d.edges <;> cases Zfq (ZdC d) 0 d.futures <;> cases d.barriers.any (Zet d.parts.length) <;> rfl
end Go.Proofs.YtnmbdjkbaihicaaDoor
namespace Go.Proofs.YtnmbdjkbaihicaaDoor
open Go Go.Proofs.YtnmbdjkbaihicaaDoorE
set_option linter.unusedVariables false
set_option linter.unusedSimpArgs false
def ZmU (b : Zi) : Bool := decide (20 < (b.ins.length : Int)) || decide (20 < (b.outs.length : Int))
def few (d : Zm) : Bool := !((d.barriers.take 9).any ZmU) && (decide ((d.parts.length : Int) ≤ 20) && (decide ((d.edges.length : Int) ≤ 60) && (decide ((d.futures.length : Int) ≤ 20) && decide ((d.barriers.length : Int) ≤ 8))))
theorem Zw9 (d : Zm) : ZfH d = some (few d) := by
 have hl : (d.barriers.take 9).length = min 9 d.barriers.length := List.length_take
 have key := ZeU (d.barriers.take 9) (ZdV d) (fun _ => ZmU) (fun _ _ => .inl ()) (.inr ()) (fun i x hi hx => by
   have h9 : i < 9 := by omega
   rw [List.getElem?_take_of_lt h9] at hx
   simp only [ZdV, ZeK (show i < d.barriers.length by omega), ZaZ hx, Option.bind_some, Z2 h9 (by omega), cond_true, ZmU, decide_eq_true (show (i : Int) < 9 by omega)]
   cases decide (20 < (x.ins.length : Int)) <;> cases decide (20 < (x.outs.length : Int)) <;> rfl) (by
   rw [hl]
   unfold ZdV
   by_cases h : d.barriers.length ≤ 9
   ·rw [Nat.min_eq_right h, ZeL]; rfl
   ·rw [Nat.min_eq_left (by omega), decide_eq_true (show ((9 : Nat) : Int) < d.barriers.length by omega)]; rfl)
 unfold ZfH few
 rw [key, Zdv, Zhu]
 cases (d.barriers.take 9).any ZmU <;> cases decide ((d.parts.length : Int) ≤ 20) <;> cases decide ((d.edges.length : Int) ≤ 60) <;> cases decide ((d.futures.length : Int) ≤ 20) <;> cases decide ((d.barriers.length : Int) ≤ 8) <;> rfl
structure Znr (d : Zm) : Prop where
 p : d.parts.length ≤ 20
 e : d.edges.length ≤ 60
 f : d.futures.length ≤ 20
 b : d.barriers.length ≤ 8
 i : ∀ b ∈ d.barriers, b.ins.length ≤ 20 ∧ b.outs.length ≤ 20
theorem Zq3 {d : Zm} (h : few d = true) : Znr d := by
 unfold few at h
 simp only [Bool.and_eq_true, decide_eq_true_eq, Bool.not_eq_true'] at h
 obtain ⟨h1, h2, h3, h4, h5⟩ := h
 refine ⟨by omega, by omega, by omega, by omega, fun b hb => ?_⟩
 have := List.any_eq_false.1 h1 b (by rw [List.take_of_length_le (by omega)]; exact hb)
 simp only [ZmU, Bool.or_eq_true, decide_eq_true_eq, not_or] at this
 omega
theorem Znr.short {d : Zm} (h : Znr d) : Zf9 d :=
 ⟨by have := h.p; omega, by have := h.e; omega, by have := h.f; omega, by have := h.b; omega, fun b hb => ⟨by have := (h.i b hb).1; omega, by have := (h.i b hb).2; omega⟩⟩
theorem ZuY (d : Zm) (h : Znr d) : Zcl d = some d.barriers := by
 have key := ZnT d.barriers (Zdt d) (fun i (s : List Zi) => ((i : Int), s)) (fun i x s => bif Nat.ble (s.length + 1) lim then some (.inl (s ++ [x])) else none) (fun s => some s) (fun i x s hi hx => by
   have hb := h.i x (List.mem_of_getElem? hx)
   simp only [Zdt, ZeK hi, ZaZ hx, Option.bind_some, Z2 hi h.short.b, cond_true, ZiR (show x.ins.length ≤ 1073741824 by omega), ZiR (show x.outs.length ≤ 1073741824 by omega)]
   cases Nat.ble (s.length + 1) lim <;> rfl) (fun s => by simp only [Zdt, ZeL]; rfl) []
 have sc : ∀ (l : List Zi) (i : Nat) (s : List Zi), s.length + l.length ≤ 1073741824 → ZkP (fun i x s => bif Nat.ble (s.length + 1) lim then some (Sum.inl (s ++ [x])) else (none : Option (List Zi ⊕ List Zi))) (fun s => some s) i l s = some (s ++ l) := by
  intro l
  induction l with
  | nil => intro i s _; simp [ZkP]
  | cons x l ih =>
   intro i s hs
   rw [List.length_cons] at hs
   unfold ZkP
   rw [ZiR (by omega)]
   simp only [cond_true]
   rw [ih (i + 1) (s ++ [x]) (by rw [List.length_append]; simp; omega)]
   simp
 rw [sc _ _ _ (by have := h.b; simp; omega)] at key
 unfold Zcl
 rw [ZiR (show List.length d.parts ≤ 1073741824 by have := h.p; omega), ZiR (show List.length d.edges ≤ 1073741824 by have := h.e; omega), ZiR (show List.length d.futures ≤ 1073741824 by have := h.f; omega)]
 show (lp (Zdt d) (((0 : Nat) : Int), [])).bind _ = _
 rw [key]
 rfl
end Go.Proofs.YtnmbdjkbaihicaaDoor
namespace Go.Proofs.YtnmbdjkbaihicaaDoor
open Go Go.Proofs.YtnmbdjkbaihicaaDoorE Go.Sort
set_option linter.unusedVariables false
set_option linter.unusedSimpArgs false
structure OKA (P : Int → Prop) (d : Array Int) : Prop where
 el : ∀ i, i < d.size → P d[i]!
 sz : d.size ≤ 1000
theorem Zbr {d : Array Int} {i : Nat} (h : i < d.size) : ZA d.toList (i : Int) = some d[i]! := by
 refine ZaZ ?_
 rw [Array.getElem?_toList, Array.getElem?_eq_getElem h, getElem!_pos d i h]
theorem Zv5 (d : Array Int) (i : Nat) (x : Int) : List.set d.toList i x = (d.setIfInBounds i x).toList := by simp
theorem ZfV (d : Array Int) (i j : Nat) : List.set (List.set d.toList i d[j]!) j d[i]! = (swp d i j).toList := by
 unfold swp
 rw [Zv5, Zv5]
theorem ZiS {d : Array Int} {i j : Nat} {x : Int} (h : j < d.size) : ∃ y, ZA (List.set d.toList i x) (j : Int) = some y := by
 rw [Zv5]
 exact ⟨_, Zbr (by simpa using h)⟩
theorem Z6 (d : Array Int) (i j : Nat) : (swp d i j).size = d.size := by unfold swp; simp
theorem Zuk {d : Array Int} {i j k : Nat} (hi : i < d.size) (hj : j < d.size) : (swp d i j)[k]! = if k = j then d[i]! else if k = i then d[j]! else d[k]! := by
 unfold swp
 by_cases hk : k < d.size
 ·rw [getElem!_pos _ k (by simpa using hk), getElem!_pos d k hk, Array.getElem_setIfInBounds (by simpa using hk)]
  by_cases h1 : j = k
  ·rw [if_pos h1, if_pos h1.symm]
  ·rw [if_neg h1, if_neg (Ne.symm h1), Array.getElem_setIfInBounds hk]
   by_cases h2 : i = k
   ·rw [if_pos h2, if_pos h2.symm]
   ·rw [if_neg h2, if_neg (Ne.symm h2)]
 ·rw [getElem!_neg _ k (by simpa using hk), getElem!_neg d k hk, if_neg (by omega), if_neg (by omega)]
theorem OKA.swp {P : Int → Prop} {d : Array Int} (h : OKA P d) {i j : Nat} (hi : i < d.size) (hj : j < d.size) : OKA P (swp d i j) :=
 ⟨fun k hk => by
  rw [Z6] at hk
  rw [Zuk hi hj]
  split
  ·exact h.el _ hi
  ·split
   ·exact h.el _ hj
   ·exact h.el _ hk, by rw [Z6]; exact h.sz⟩
theorem Zfl {a b : Nat} : decide ((a : Int) < (b : Int)) = decide (a < b) := decide_eq_decide.2 (by omega)
theorem ZfI {a b : Nat} : decide ((a : Int) ≤ (b : Int)) = decide (a ≤ b) := decide_eq_decide.2 (by omega)
theorem Zam {z : Int} {n : Nat} (h : z = (n : Int)) (hn : n < 9223372036854775808) : w64 z = (n : Int) := by rw [h, Zeu (by omega) (by omega)]
section
variable (cmp : Int → Int → Option Int) (c : Int → Int → Int) (P : Int → Prop)
def ZoE : Prop := ∀ x y, P x → P y → cmp x y = some (c x y)
def ltC (x y : Int) : Bool := decide (c x y < 0)
variable {cmp c P} (hc : ZoE cmp c P)
include hc
theorem Znl (a : Nat) : ∀ (j : Nat) (d : Array Int), OKA P d → j < d.size → lp (ZT (a : Int) cmp) ((j : Int), d.toList) = some (insInner (ltC c) a j d).toList ∧ OKA P (insInner (ltC c) a j d) ∧ (insInner (ltC c) a j d).size = d.size
 | 0, d, hd, hj => by
  rw [Zb9]
  simp only [ZT, decide_eq_false (show ¬ ((a : Int) < ((0 : Nat) : Int)) by omega), cond_false]
  exact ⟨rfl, hd, rfl⟩
 | j + 1, d, hd, hj => by
  have hj' : j < d.size := by omega
  have hz := hd.sz
  rw [Zb9]
  have e2 : w64 (((j + 1 : Nat) : Int) - 1) = (j : Int) := Zam (by omega) (by omega)
  have e3 := hc _ _ (hd.el (j + 1) hj) (hd.el j hj')
  unfold insInner
  by_cases h1 : a < j + 1
  ·by_cases h2 : c d[j + 1]! d[j]! < 0
   ·have ih := Znl a j (swp d (j + 1) j) (hd.swp hj hj') (by rw [Z6]; omega)
    obtain ⟨y, e5⟩ := ZiS (i := j + 1) (x := d[j]!) hj'
    simp only [ZT, Zfl, decide_eq_true h1, cond_true, Zbr hj, e2, Zbr hj', Option.bind_some, e3, decide_eq_true h2, Int.toNat_natCast, e5, ZfV]
    rw [if_pos (by simp [h1, h2, ltC])]
    rw [Z6] at ih
    exact ih
   ·simp only [ZT, Zfl, decide_eq_true h1, cond_true, Zbr hj, e2, Zbr hj', Option.bind_some, e3, decide_eq_false h2, cond_false]
    rw [if_neg (by simp [h1, h2, ltC])]
    exact ⟨rfl, hd, rfl⟩
  ·simp only [ZT, Zfl, decide_eq_false h1, cond_false]
   rw [if_neg (by simp [h1])]
   exact ⟨rfl, hd, rfl⟩
theorem Zm6 (a b : Nat) : ∀ (k i : Nat) (d : Array Int), i + k = max i b → b ≤ d.size → OKA P d → lp (Zac (a : Int) (b : Int) cmp) ((i : Int), d.toList) = some (insOuter (ltC c) a b i d).toList ∧ OKA P (insOuter (ltC c) a b i d) ∧ (insOuter (ltC c) a b i d).size = d.size
 | 0, i, d, hi, hb, hd => by
  rw [Zb9]
  unfold insOuter
  simp only [Zac, Zfl, decide_eq_false (show ¬ i < b by omega), cond_false]
  rw [if_neg (by omega)]
  exact ⟨rfl, hd, rfl⟩
 | k + 1, i, d, hi, hb, hd => by
  have hib : i < b := by omega
  have hz := hd.sz
  obtain ⟨h1, h2, h3⟩ := Znl hc a i d hd (by omega)
  have ih := Zm6 a b k (i + 1) (insInner (ltC c) a i d) (by omega) (by rw [h3]; exact hb) h2
  rw [Zb9]
  unfold insOuter
  simp only [Zac, Zfl, decide_eq_true hib, cond_true, h1, Option.bind_some, Z2 hib (by omega)]
  rw [if_pos hib, ← h3]
  exact ih
theorem ZuS (a b : Nat) (d : Array Int) (hb : b ≤ d.size) (ha : a ≤ b) (hd : OKA P d) : ZR (a : Int) (b : Int) cmp d.toList = some (insertionSort (ltC c) d a b).toList ∧ OKA P (insertionSort (ltC c) d a b) ∧ (insertionSort (ltC c) d a b).size = d.size := by
 have hz := hd.sz
 obtain ⟨h1, h2⟩ := Zm6 hc a b (max (a + 1) b - (a + 1)) (a + 1) d (by omega) hb hd
 unfold ZR insertionSort
 rw [Zam (n := a + 1) (by omega) (by omega), h1]
 exact ⟨rfl, h2⟩
theorem Zt8 (hi first : Nat) : ∀ (k root : Nat) (d : Array Int), hi - root ≤ k → root ≤ hi → first + hi ≤ d.size → OKA P d → ∃ r, lp (ZC (hi : Int) (first : Int) cmp) ((root : Int), d.toList) = some r ∧ (r = .inl (siftDown (ltC c) hi first root d).toList ∨ r = .inr (siftDown (ltC c) hi first root d).toList) ∧ OKA P (siftDown (ltC c) hi first root d) ∧ (siftDown (ltC c) hi first root d).size = d.size := by
 intro k
 induction k with
 | zero =>
  intro root d hk hr hs hd
  have hz := hd.sz
  rw [Zb9]
  unfold siftDown
  have e0 : w64 (2 * (root : Int)) = ((2 * root : Nat) : Int) := Zam (by omega) (by omega)
  have e1 : w64 (((2 * root : Nat) : Int) + 1) = ((2 * root + 1 : Nat) : Int) := Zam (by omega) (by omega)
  simp only [ZC, e0, e1, ZfI, decide_eq_true (show hi ≤ 2 * root + 1 by omega), cond_true]
  rw [dif_pos (by omega)]
  exact ⟨_, rfl, .inl rfl, hd, rfl⟩
 | succ k ih =>
  intro root d hk hr hs hd
  have hz := hd.sz
  rw [Zb9]
  unfold siftDown
  have e0 : w64 (2 * (root : Int)) = ((2 * root : Nat) : Int) := Zam (by omega) (by omega)
  have e1 : w64 (((2 * root : Nat) : Int) + 1) = ((2 * root + 1 : Nat) : Int) := Zam (by omega) (by omega)
  by_cases h1 : hi ≤ 2 * root + 1
  ·simp only [ZC, e0, e1, ZfI, decide_eq_true h1, cond_true]
   rw [dif_pos (by omega)]
   exact ⟨_, rfl, .inl rfl, hd, rfl⟩
  have e2 : w64 (((2 * root + 1 : Nat) : Int) + 1) = ((2 * root + 2 : Nat) : Int) := Zam (by omega) (by omega)
  have er : w64 ((first : Int) + (root : Int)) = ((first + root : Nat) : Int) := Zam (by omega) (by omega)
  have ef : w64 ((first : Int) + ((2 * root + 1 : Nat) : Int)) = ((first + (2 * root + 1) : Nat) : Int) := Zam (by omega) (by omega)
  have ef1 : w64 (((first + (2 * root + 1) : Nat) : Int) + 1) = ((first + (2 * root + 1) + 1 : Nat) : Int) := Zam (by omega) (by omega)
  have ef2 : w64 ((first : Int) + ((2 * root + 2 : Nat) : Int)) = ((first + (2 * root + 2) : Nat) : Int) := Zam (by omega) (by omega)
  have ir : first + root < d.size := by omega
  have i1 : first + (2 * root + 1) < d.size := by omega
  have cr1 := hc _ _ (hd.el _ ir) (hd.el _ i1)
  have one : ∀ {r : List Int ⊕ List Int} {A : Array Int}, A = d → (r = .inl d.toList ∨ r = .inr d.toList) → ∃ q, some r = some q ∧ (q = .inl A.toList ∨ q = .inr A.toList) ∧ OKA P A ∧ A.size = d.size := fun hA hr => by
   subst hA
   exact ⟨_, rfl, hr, hd, rfl⟩
  rw [dif_neg (by omega)]
  by_cases h2 : 2 * root + 2 < hi
  ·have i2 : first + (2 * root + 2) < d.size := by omega
   have i2' : first + (2 * root + 1) + 1 < d.size := by omega
   have c12 := hc _ _ (hd.el _ i1) (hd.el _ i2')
   have cr2 := hc _ _ (hd.el _ ir) (hd.el _ i2)
   by_cases h3 : c d[first + (2 * root + 1)]! d[first + (2 * root + 1) + 1]! < 0
   ·rw [if_pos (by simp [h3, ltC]; omega)]
    by_cases h4 : c d[first + root]! d[first + (2 * root + 2)]! < 0
    ·obtain ⟨y, em⟩ := ZiS (i := first + root) (x := d[first + (2 * root + 2)]!) i2
     simp only [ZC, e0, e1, e2, ZfI, Zfl, decide_eq_false h1, decide_eq_true h2, cond_false, cond_true, ef, ef1, ef2, er, Zbr i1, Zbr i2', Zbr ir, Zbr i2, Option.bind_some, c12, cr2, decide_eq_true h3, decide_eq_true h4, Int.toNat_natCast, em, ZfV]
     rw [if_neg (by simp [h4, ltC]), dif_pos h2]
     have := ih (2 * root + 2) (swp d (first + root) (first + (2 * root + 2))) (by omega) (by omega) (by rw [Z6]; omega) (hd.swp ir i2)
     rw [Z6] at this
     exact this
    ·simp only [ZC, e0, e1, e2, ZfI, Zfl, decide_eq_false h1, decide_eq_true h2, cond_false, cond_true, ef, ef1, ef2, er, Zbr i1, Zbr i2', Zbr ir, Zbr i2, Option.bind_some, c12, cr2, decide_eq_true h3, decide_eq_false h4]
     rw [if_pos (by simp [h4, ltC])]
     exact one rfl (.inr rfl)
   ·rw [if_neg (by simp [h3, ltC])]
    by_cases h4 : c d[first + root]! d[first + (2 * root + 1)]! < 0
    ·obtain ⟨y, em⟩ := ZiS (i := first + root) (x := d[first + (2 * root + 1)]!) i1
     simp only [ZC, e0, e1, e2, ZfI, Zfl, decide_eq_false h1, decide_eq_true h2, cond_false, cond_true, ef, ef1, ef2, er, Zbr i1, Zbr i2', Zbr ir, Option.bind_some, c12, cr1, decide_eq_false h3, decide_eq_true h4, Int.toNat_natCast, em, ZfV]
     rw [if_neg (by simp [h4, ltC])]
     have := ih (2 * root + 1) (swp d (first + root) (first + (2 * root + 1))) (by omega) (by omega) (by rw [Z6]; omega) (hd.swp ir i1)
     rw [Z6] at this
     exact this
    ·simp only [ZC, e0, e1, e2, ZfI, Zfl, decide_eq_false h1, decide_eq_true h2, cond_false, cond_true, ef, ef1, ef2, er, Zbr i1, Zbr i2', Zbr ir, Option.bind_some, c12, cr1, decide_eq_false h3, decide_eq_false h4]
     rw [if_pos (by simp [h4, ltC])]
     exact one rfl (.inr rfl)
  ·rw [if_neg (by simp; omega)]
   by_cases h4 : c d[first + root]! d[first + (2 * root + 1)]! < 0
   ·obtain ⟨y, em⟩ := ZiS (i := first + root) (x := d[first + (2 * root + 1)]!) i1
    simp only [ZC, e0, e1, e2, ZfI, Zfl, decide_eq_false h1, decide_eq_false h2, cond_false, cond_true, ef, er, Zbr i1, Zbr ir, Option.bind_some, cr1, decide_eq_true h4, Int.toNat_natCast, em, ZfV]
    rw [if_neg (by simp [h4, ltC])]
    have := ih (2 * root + 1) (swp d (first + root) (first + (2 * root + 1))) (by omega) (by omega) (by rw [Z6]; omega) (hd.swp ir i1)
    rw [Z6] at this
    exact this
   ·simp only [ZC, e0, e1, e2, ZfI, Zfl, decide_eq_false h1, decide_eq_false h2, cond_false, cond_true, ef, er, Zbr i1, Zbr ir, Option.bind_some, cr1, decide_eq_false h4]
    rw [if_pos (by simp [h4, ltC])]
    exact one rfl (.inr rfl)
theorem ZrU (hi first root : Nat) (d : Array Int) (hr : root ≤ hi) (hs : first + hi ≤ d.size) (hd : OKA P d) : Zas (root : Int) (hi : Int) (first : Int) cmp d.toList = some (siftDown (ltC c) hi first root d).toList ∧ OKA P (siftDown (ltC c) hi first root d) ∧ (siftDown (ltC c) hi first root d).size = d.size := by
 obtain ⟨r, h1, h2, h3⟩ := Zt8 hc hi first _ root d (Nat.le_refl _) hr hs hd
 unfold Zas
 rw [h1]
 rcases h2 with rfl | rfl
 ·exact ⟨rfl, h3⟩
 ·exact ⟨rfl, h3⟩
theorem Zqu (hi first b : Nat) (hb : (b : Int) = first + hi) : ∀ (k : Nat) (d : Array Int), k ≤ hi + 1 → first + hi ≤ d.size → OKA P d → lp (Zaw (first : Int) (b : Int) cmp) ((k : Int) - 1, d.toList) = some (heapBuild (ltC c) hi first k d).toList ∧ OKA P (heapBuild (ltC c) hi first k d) ∧ (heapBuild (ltC c) hi first k d).size = d.size
 | 0, d, hk, hs, hd => by
  rw [Zb9]
  simp only [Zaw, decide_eq_false (show ¬ ((0 : Int) ≤ ((0 : Nat) : Int) - 1) by omega), cond_false]
  exact ⟨rfl, hd, rfl⟩
 | k + 1, d, hk, hs, hd => by
  have hz := hd.sz
  obtain ⟨h1, h2, h3⟩ := ZrU hc hi first k d (by omega) hs hd
  have ih := Zqu hi first b hb k (siftDown (ltC c) hi first k d) (by omega) (by rw [h3]; exact hs) h2
  have e1 : w64 ((b : Int) - (first : Int)) = (hi : Int) := Zam (by omega) (by omega)
  have e2 : (((k + 1 : Nat) : Int) - 1) = (k : Int) := by omega
  have e3 : w64 ((k : Int) - 1) = (k : Int) - 1 := Zeu (by omega) (by omega)
  rw [Zb9, e2]
  simp only [Zaw, decide_eq_true (show (0 : Int) ≤ (k : Int) by omega), cond_true, e1, h1, Option.bind_some, e3]
  rw [← h3]
  exact ih
theorem ZuP (first : Nat) : ∀ (k : Nat) (d : Array Int), first + k ≤ d.size → OKA P d → lp (Zax (first : Int) cmp) ((k : Int) - 1, d.toList) = some (heapPop (ltC c) first k d).toList ∧ OKA P (heapPop (ltC c) first k d) ∧ (heapPop (ltC c) first k d).size = d.size
 | 0, d, hs, hd => by
  rw [Zb9]
  simp only [Zax, decide_eq_false (show ¬ ((0 : Int) ≤ ((0 : Nat) : Int) - 1) by omega), cond_false]
  exact ⟨rfl, hd, rfl⟩
 | k + 1, d, hs, hd => by
  have hz := hd.sz
  have i1 : first + k < d.size := by omega
  have i2 : first < d.size := by omega
  obtain ⟨h1, h2, h3⟩ := ZrU hc k first 0 (swp d first (first + k)) (by omega) (by rw [Z6]; omega) (hd.swp i2 i1)
  rw [Z6] at h3
  have ih := ZuP first k (siftDown (ltC c) k first 0 (swp d first (first + k))) (by rw [h3]; omega) h2
  have e2 : (((k + 1 : Nat) : Int) - 1) = (k : Int) := by omega
  have e3 : w64 ((k : Int) - 1) = (k : Int) - 1 := Zeu (by omega) (by omega)
  have e4 : w64 ((first : Int) + (k : Int)) = ((first + k : Nat) : Int) := Zam (by omega) (by omega)
  obtain ⟨y, em⟩ := ZiS (i := first) (x := d[first + k]!) i1
  have h1' : Zas 0 (k : Int) (first : Int) cmp (swp d first (first + k)).toList = _ := h1
  rw [Zb9, e2]
  simp only [Zax, decide_eq_true (show (0 : Int) ≤ (k : Int) by omega), cond_true, e4, Zbr i1, Zbr i2, Option.bind_some, Int.toNat_natCast, em, ZfV, h1', e3]
  rw [← h3]
  exact ih
theorem Zvo (a b : Nat) (d : Array Int) (ha : a ≤ b) (hb : b ≤ d.size) (hd : OKA P d) : Z0 (a : Int) (b : Int) cmp d.toList = some (heapSort (ltC c) d a b).toList ∧ OKA P (heapSort (ltC c) d a b) ∧ (heapSort (ltC c) d a b).size = d.size := by
 have hz := hd.sz
 have e1 : w64 ((b : Int) - (a : Int)) = ((b - a : Nat) : Int) := Zam (by omega) (by omega)
 have e2 : w64 (((b - a : Nat) : Int) - 1) = ((b - a : Nat) : Int) - 1 := Zeu (by omega) (by omega)
 have e3 : w64 (Int.tdiv (((b - a : Nat) : Int) - 1) 2) = (((b - a - 1) / 2 + 1 : Nat) : Int) - 1 := by
  by_cases h : b - a = 0
  ·rw [h]; rfl
  ·rw [Int.tdiv_eq_ediv_of_nonneg (by omega), Zeu (by omega) (by omega)]
   omega
 obtain ⟨h1, h2, h3⟩ := Zqu hc (b - a) a b (by omega) ((b - a - 1) / 2 + 1) d (by omega) (by omega) hd
 obtain ⟨h4, h5, h6⟩ := ZuP hc a (b - a) (heapBuild (ltC c) (b - a) a ((b - a - 1) / 2 + 1) d) (by rw [h3]; omega) h2
 unfold Z0 heapSort
 simp only [e1, e2, e3, h1, h4, Option.bind_some]
 exact ⟨trivial, h5, by rw [h6, h3]⟩
end
end Go.Proofs.YtnmbdjkbaihicaaDoor
namespace Go.Proofs.YtnmbdjkbaihicaaDoor
open Go Go.Proofs.YtnmbdjkbaihicaaDoorE Go.Sort
set_option linter.unusedVariables false
set_option linter.unusedSimpArgs false
theorem ZkW (step : Int → Option (Int ⊕ Int)) (p : Int → Bool) (d : Array Int) (j : Nat) (h : ∀ i : Nat, i ≤ j + 2 → step (i : Int) = some (bif decide (i ≤ j) && p d[i]! then .inl ((i + 1 : Nat) : Int) else .inr (i : Int))) :
  ∀ (k i : Nat), j + 2 - i ≤ k → i ≤ j + 2 → lp step (i : Int) = some ((scanUp p d j i : Nat) : Int) ∧ i ≤ scanUp p d j i ∧ scanUp p d j i ≤ max i (j + 1) := by
 intro k
 induction k with
 | zero =>
  intro i hk hi
  rw [Zb9, h i hi]
  unfold scanUp
  rw [decide_eq_false (show ¬ i ≤ j by omega)]
  simp [show ¬ i ≤ j by omega]
  omega
 | succ k ih =>
  intro i hk hi
  rw [Zb9, h i hi]
  unfold scanUp
  by_cases h1 : i ≤ j
  ·cases h2 : p d[i]! with
   | true =>
    rw [decide_eq_true h1, if_pos (by simp [h1])]
    obtain ⟨a1, a2, a3⟩ := ih (i + 1) (by omega) (by omega)
    exact ⟨a1, by omega, by omega⟩
   | false =>
    rw [decide_eq_true h1, if_neg (by simp)]
    exact ⟨rfl, by omega, by omega⟩
  ·rw [decide_eq_false h1, if_neg (by simp [h1])]
   exact ⟨rfl, by omega, by omega⟩
theorem Zg2 (step : Int → Option (Int ⊕ Int)) (p : Int → Bool) (d : Array Int) (i : Nat) (hi : 1 ≤ i) : ∀ (j : Nat), (∀ k : Nat, k ≤ j → step (k : Int) = some (bif decide (i ≤ k) && p d[k]! then .inl ((k : Int) - 1) else .inr (k : Int))) → lp step (j : Int) = some ((scanDown p d i j : Nat) : Int) ∧ scanDown p d i j ≤ j
 | 0, h => by
  rw [Zb9, h 0 (Nat.le_refl _), decide_eq_false (show ¬ i ≤ 0 by omega)]
  exact ⟨rfl, Nat.le_refl _⟩
 | j + 1, h => by
  rw [Zb9, h (j + 1) (Nat.le_refl _)]
  unfold scanDown
  by_cases h1 : i ≤ j + 1
  ·cases h2 : p d[j + 1]! with
   | true =>
    rw [decide_eq_true h1, if_pos (by simp [h1])]
    have ih := Zg2 step p d i hi j (fun k hk => h k (by omega))
    have e : (((j + 1 : Nat) : Int) - 1) = (j : Int) := by omega
    simp only [Bool.and_self, cond_true, e]
    exact ⟨ih.1, by omega⟩
   | false =>
    rw [decide_eq_true h1, if_neg (by simp)]
    exact ⟨rfl, Nat.le_refl _⟩
  ·rw [decide_eq_false h1, if_neg (by simp [h1])]
   exact ⟨rfl, Nat.le_refl _⟩
section
variable {cmp : Int → Int → Option Int} {c : Int → Int → Int} {P : Int → Prop} (hc : ZoE cmp c P)
include hc
theorem ZrF (a : Nat) : ∀ (k i j : Nat) (d : Array Int), j + 3 - i ≤ k → 1 ≤ i → i ≤ j + 2 → j < d.size → a < d.size → OKA P d →
  lp (ZaJ (a : Int) cmp) ((i : Int), (j : Int), d.toList) = some (((partLoop (ltC c) a i j d).1 : Int), (partLoop (ltC c) a i j d).2.toList) ∧ OKA P (partLoop (ltC c) a i j d).2 ∧ (partLoop (ltC c) a i j d).2.size = d.size ∧ (partLoop (ltC c) a i j d).1 ≤ j := by
 intro k
 induction k with
 | zero =>
  intro i j d hk h1 h2 hj ha hd
  exact absurd hk (by omega)
 | succ k ih =>
  intro i j d hk h1 h2 hj ha hd
  have hz := hd.sz
  obtain ⟨u1, u2, u3⟩ := ZkW (Zap (a : Int) cmp ((i : Int), (j : Int), d.toList)) (fun x => ltC c x d[a]!) d j (fun m hm => by
    by_cases hmj : m ≤ j
    ·have im : m < d.size := by omega
     simp only [Zap, ZfI, decide_eq_true hmj, cond_true, Zbr im, Zbr ha, Option.bind_some, hc _ _ (hd.el _ im) (hd.el _ ha), ltC, Bool.true_and, Z2 (show m < j + 1 by omega) (by omega)]
     cases decide (c d[m]! d[a]! < 0) <;> rfl
    ·simp only [Zap, ZfI, decide_eq_false hmj, cond_false, Bool.false_and]) (j + 2 - i) i (Nat.le_refl _) h2
  generalize hi2 : scanUp (fun x => ltC c x d[a]!) d j i = i2 at u1 u2 u3
  obtain ⟨v1, v2⟩ := Zg2 (Zan (a : Int) cmp ((i : Int), (j : Int), d.toList) (i2 : Int)) (fun x => !ltC c x d[a]!) d i2 (by omega) j (fun m hm => by
    have im : m < d.size := by omega
    by_cases hmi : i2 ≤ m
    ·simp only [Zan, ZfI, decide_eq_true hmi, cond_true, Zbr im, Zbr ha, Option.bind_some, hc _ _ (hd.el _ im) (hd.el _ ha), ltC, Bool.true_and, Zeu (show -9223372036854775808 ≤ (m : Int) - 1 by omega) (by omega)]
     cases decide (c d[m]! d[a]! < 0) <;> rfl
    ·simp only [Zan, ZfI, decide_eq_false hmi, cond_false, Bool.false_and])
  generalize hj2 : scanDown (fun x => !ltC c x d[a]!) d i2 j = j2 at v1 v2
  rw [Zb9]
  unfold partLoop
  simp only [ZaJ, u1, v1, Option.bind_some, Zfl, hi2, hj2]
  by_cases hij : j2 < i2
  ·rw [decide_eq_true hij, if_pos hij]
   exact ⟨rfl, hd, rfl, v2⟩
  ·have k1 : i2 < d.size := by omega
   have k2 : j2 < d.size := by omega
   obtain ⟨y, em⟩ := ZiS (i := i2) (x := d[j2]!) k2
   have e1 : w64 ((i2 : Int) + 1) = ((i2 + 1 : Nat) : Int) := Zam (by omega) (by omega)
   have e2 : w64 ((j2 : Int) - 1) = ((j2 - 1 : Nat) : Int) := Zam (by omega) (by omega)
   rw [decide_eq_false hij, if_neg hij, dif_pos (by omega)]
   simp only [cond_false, Zbr k1, Zbr k2, Option.bind_some, Int.toNat_natCast, em, ZfV, e1, e2]
   obtain ⟨q1, q2, q3, q4⟩ := ih (i2 + 1) (j2 - 1) (swp d i2 j2) (by omega) (by omega) (by omega) (by rw [Z6]; omega) (by rw [Z6]; exact ha) (hd.swp k1 k2)
   rw [Z6] at q3
   exact ⟨q1, q2, q3, by omega⟩
theorem Zt9 (a b pivot : Nat) (d : Array Int) (h1 : a ≤ pivot) (h2 : pivot < b) (hb : b ≤ d.size) (hd : OKA P d) :
  Zn (a : Int) (b : Int) (pivot : Int) cmp d.toList = some (bif (partition (ltC c) d a b pivot).2.1 then .inl (((partition (ltC c) d a b pivot).1 : Int), (partition (ltC c) d a b pivot).2.2.toList) else .inr (((partition (ltC c) d a b pivot).1 : Int), (partition (ltC c) d a b pivot).2.2.toList)) ∧
  OKA P (partition (ltC c) d a b pivot).2.2 ∧ (partition (ltC c) d a b pivot).2.2.size = d.size := by
 have hz := hd.sz
 have ip : pivot < d.size := by omega
 have ia : a < d.size := by omega
 have hd1 := hd.swp ia ip
 have s1 := Z6 d a pivot
 obtain ⟨y, em⟩ := ZiS (i := a) (x := d[pivot]!) ip
 have e1 : w64 ((a : Int) + 1) = ((a + 1 : Nat) : Int) := Zam (by omega) (by omega)
 have e2 : w64 ((b : Int) - 1) = ((b - 1 : Nat) : Int) := Zam (by omega) (by omega)
 have sw := ZfV d a pivot
 have ia1 : a < (swp d a pivot).size := by omega
 obtain ⟨u1, u2, u3⟩ := ZkW (Zao (a : Int) (b : Int) (pivot : Int) d.toList cmp d[pivot]! d[a]!) (fun x => ltC c x (swp d a pivot)[a]!) (swp d a pivot) (b - 1) (fun m hm => by
   by_cases hmj : m ≤ b - 1
   ·have im : m < (swp d a pivot).size := by omega
    simp only [Zao, e2, ZfI, decide_eq_true hmj, cond_true, Int.toNat_natCast, sw, Zbr im, Zbr ia1, Option.bind_some, hc _ _ (hd1.el _ im) (hd1.el _ ia1), ltC, Bool.true_and, Z2 (show m < b by omega) (by omega)]
    cases decide (c (swp d a pivot)[m]! (swp d a pivot)[a]! < 0) <;> rfl
   ·simp only [Zao, e2, ZfI, decide_eq_false hmj, cond_false, Bool.false_and]) (b - 1 + 2 - (a + 1)) (a + 1) (Nat.le_refl _) (by omega)
 generalize hi2 : scanUp (fun x => ltC c x (swp d a pivot)[a]!) (swp d a pivot) (b - 1) (a + 1) = i2 at u1 u2 u3
 obtain ⟨v1, v2⟩ := Zg2 (Zaq (a : Int) (pivot : Int) d.toList cmp d[pivot]! d[a]! (i2 : Int)) (fun x => !ltC c x (swp d a pivot)[a]!) (swp d a pivot) i2 (by omega) (b - 1) (fun m hm => by
   have im : m < (swp d a pivot).size := by omega
   by_cases hmi : i2 ≤ m
   ·simp only [Zaq, ZfI, decide_eq_true hmi, cond_true, Int.toNat_natCast, sw, Zbr im, Zbr ia1, Option.bind_some, hc _ _ (hd1.el _ im) (hd1.el _ ia1), ltC, Bool.true_and, Zeu (show -9223372036854775808 ≤ (m : Int) - 1 by omega) (by omega)]
    cases decide (c (swp d a pivot)[m]! (swp d a pivot)[a]! < 0) <;> rfl
   ·simp only [Zaq, ZfI, decide_eq_false hmi, cond_false, Bool.false_and])
 generalize hj2 : scanDown (fun x => !ltC c x (swp d a pivot)[a]!) (swp d a pivot) i2 (b - 1) = j2 at v1 v2
 unfold Zn partition
 simp only [Zbr ip, Zbr ia, Option.bind_some, Int.toNat_natCast, em, e1, e2, u1, v1, Zfl, sw, hi2, hj2]
 have kj : j2 < (swp d a pivot).size := by omega
 by_cases hij : j2 < i2
 ·obtain ⟨y2, em2⟩ := ZiS (i := j2) (x := (swp d a pivot)[a]!) ia1
  rw [decide_eq_true hij, if_pos hij]
  simp only [cond_true, Zbr ia1, Zbr kj, Option.bind_some, Int.toNat_natCast, em2, ZfV]
  exact ⟨trivial, hd1.swp kj ia1, by rw [Z6, s1]⟩
 ·have ki : i2 < (swp d a pivot).size := by omega
  obtain ⟨y2, em2⟩ := ZiS (i := i2) (x := (swp d a pivot)[j2]!) kj
  have e3 : w64 ((i2 : Int) + 1) = ((i2 + 1 : Nat) : Int) := Zam (by omega) (by omega)
  have e4 : w64 ((j2 : Int) - 1) = ((j2 - 1 : Nat) : Int) := Zam (by omega) (by omega)
  obtain ⟨q1, q2, q3, q4⟩ := ZrF hc a (j2 - 1 + 3 - (i2 + 1)) (i2 + 1) (j2 - 1) (swp (swp d a pivot) i2 j2) (by omega) (by omega) (by omega) (by rw [Z6]; omega) (by rw [Z6]; exact ia1) (hd1.swp ki kj)
  rw [Z6, s1] at q3
  rw [decide_eq_false hij, if_neg hij]
  simp only [cond_false, Zbr ki, Zbr kj, Option.bind_some, Int.toNat_natCast, em2, ZfV, e3, e4, q1]
  generalize partLoop (ltC c) a (i2 + 1) (j2 - 1) (swp (swp d a pivot) i2 j2) = r at *
  have kr : r.1 < r.2.size := by omega
  have kr2 : a < r.2.size := by omega
  obtain ⟨y3, em3⟩ := ZiS (i := r.1) (x := r.2[a]!) kr2
  simp only [Zbr kr, Zbr kr2, Option.bind_some, em3, ZfV]
  exact ⟨trivial, q2.swp kr kr2, by rw [Z6, q3]⟩
theorem ZoN (a : Nat) : ∀ (k i j : Nat) (d : Array Int), j + 3 - i ≤ k → 1 ≤ i → i ≤ j + 2 → j < d.size → a < d.size → OKA P d →
  lp (Zar (a : Int) cmp) ((i : Int), (j : Int), d.toList) = some (((partEqLoop (ltC c) a i j d).1 : Int), (partEqLoop (ltC c) a i j d).2.toList) ∧ OKA P (partEqLoop (ltC c) a i j d).2 ∧ (partEqLoop (ltC c) a i j d).2.size = d.size ∧ i ≤ (partEqLoop (ltC c) a i j d).1 ∧ (partEqLoop (ltC c) a i j d).1 ≤ max i (j + 1) := by
 intro k
 induction k with
 | zero =>
  intro i j d hk h1 h2 hj ha hd
  exact absurd hk (by omega)
 | succ k ih =>
  intro i j d hk h1 h2 hj ha hd
  have hz := hd.sz
  obtain ⟨u1, u2, u3⟩ := ZkW (Z8 (a : Int) cmp ((i : Int), (j : Int), d.toList)) (fun x => !ltC c d[a]! x) d j (fun m hm => by
    by_cases hmj : m ≤ j
    ·have im : m < d.size := by omega
     simp only [Z8, ZfI, decide_eq_true hmj, cond_true, Zbr im, Zbr ha, Option.bind_some, hc _ _ (hd.el _ ha) (hd.el _ im), ltC, Bool.true_and, Z2 (show m < j + 1 by omega) (by omega)]
     cases decide (c d[a]! d[m]! < 0) <;> rfl
    ·simp only [Z8, ZfI, decide_eq_false hmj, cond_false, Bool.false_and]) (j + 2 - i) i (Nat.le_refl _) h2
  generalize hi2 : scanUp (fun x => !ltC c d[a]! x) d j i = i2 at u1 u2 u3
  obtain ⟨v1, v2⟩ := Zg2 (Z7 (a : Int) cmp ((i : Int), (j : Int), d.toList) (i2 : Int)) (fun x => ltC c d[a]! x) d i2 (by omega) j (fun m hm => by
    have im : m < d.size := by omega
    by_cases hmi : i2 ≤ m
    ·simp only [Z7, ZfI, decide_eq_true hmi, cond_true, Zbr im, Zbr ha, Option.bind_some, hc _ _ (hd.el _ ha) (hd.el _ im), ltC, Bool.true_and, Zeu (show -9223372036854775808 ≤ (m : Int) - 1 by omega) (by omega)]
     cases decide (c d[a]! d[m]! < 0) <;> rfl
    ·simp only [Z7, ZfI, decide_eq_false hmi, cond_false, Bool.false_and])
  generalize hj2 : scanDown (fun x => ltC c d[a]! x) d i2 j = j2 at v1 v2
  rw [Zb9]
  unfold partEqLoop
  simp only [Zar, u1, v1, Option.bind_some, Zfl, hi2, hj2]
  by_cases hij : j2 < i2
  ·rw [decide_eq_true hij, if_pos hij]
   exact ⟨rfl, hd, rfl, u2, u3⟩
  ·have k1 : i2 < d.size := by omega
   have k2 : j2 < d.size := by omega
   obtain ⟨y, em⟩ := ZiS (i := i2) (x := d[j2]!) k2
   have e1 : w64 ((i2 : Int) + 1) = ((i2 + 1 : Nat) : Int) := Zam (by omega) (by omega)
   have e2 : w64 ((j2 : Int) - 1) = ((j2 - 1 : Nat) : Int) := Zam (by omega) (by omega)
   rw [decide_eq_false hij, if_neg hij, dif_pos (by omega)]
   simp only [cond_false, Zbr k1, Zbr k2, Option.bind_some, Int.toNat_natCast, em, ZfV, e1, e2]
   obtain ⟨q1, q2, q3, q4, q5⟩ := ih (i2 + 1) (j2 - 1) (swp d i2 j2) (by omega) (by omega) (by omega) (by rw [Z6]; omega) (by rw [Z6]; exact ha) (hd.swp k1 k2)
   rw [Z6] at q3
   exact ⟨q1, q2, q3, by omega, by omega⟩
theorem Zso (a b pivot : Nat) (d : Array Int) (h1 : a ≤ pivot) (h2 : pivot < b) (hb : b ≤ d.size) (hd : OKA P d) :
  Zx (a : Int) (b : Int) (pivot : Int) cmp d.toList = some (((partitionEqual (ltC c) d a b pivot).1 : Int), (partitionEqual (ltC c) d a b pivot).2.toList) ∧ OKA P (partitionEqual (ltC c) d a b pivot).2 ∧ (partitionEqual (ltC c) d a b pivot).2.size = d.size ∧ a < (partitionEqual (ltC c) d a b pivot).1 ∧ (partitionEqual (ltC c) d a b pivot).1 ≤ b := by
 have hz := hd.sz
 have ip : pivot < d.size := by omega
 have ia : a < d.size := by omega
 obtain ⟨y, em⟩ := ZiS (i := a) (x := d[pivot]!) ip
 have e1 : w64 ((a : Int) + 1) = ((a + 1 : Nat) : Int) := Zam (by omega) (by omega)
 have e2 : w64 ((b : Int) - 1) = ((b - 1 : Nat) : Int) := Zam (by omega) (by omega)
 obtain ⟨q1, q2, q3, q4, q5⟩ := ZoN hc a (b - 1 + 3 - (a + 1)) (a + 1) (b - 1) (swp d a pivot) (by omega) (by omega) (by omega) (by rw [Z6]; omega) (by rw [Z6]; omega) (hd.swp ia ip)
 rw [Z6] at q3
 unfold Zx partitionEqual
 simp only [Zbr ip, Zbr ia, Option.bind_some, Int.toNat_natCast, em, e1, e2, ZfV, q1]
 exact ⟨trivial, q2, q3, by omega, by omega⟩
end
end Go.Proofs.YtnmbdjkbaihicaaDoor
namespace Go.Proofs.YtnmbdjkbaihicaaDoor
open Go Go.Proofs.YtnmbdjkbaihicaaDoorE Go.Sort
set_option linter.unusedVariables false
set_option linter.unusedSimpArgs false
theorem ZxI : Zal = ZB := rfl
def ZlU : Hint → Int
 | .unknown => 0
 | .increasing => 1
 | .decreasing => 2
theorem ZsT (p : Int × Int) (n : Nat) (x : Int) (h : p.2 = (n : Int)) (hx : p.1 = x) : (bif p.2 == 0 then some (p.1, (1 : Int)) else bif p.2 == 12 then some (p.1, 2) else some (p.1, 0)) = some (x, ZlU (if n = 0 then Hint.increasing else if n = 12 then .decreasing else .unknown)) := by
 rw [h, hx]
 by_cases h0 : n = 0
 ·subst h0; rfl
 ·by_cases h1 : n = 12
  ·subst h1; rfl
  ·rw [show ((n : Int) == 0) = false by simpa using h0, show ((n : Int) == 12) = false by simp; omega, if_neg h0, if_neg h1]
   rfl
section
variable {cmp : Int → Int → Option Int} {c : Int → Int → Int} {P : Int → Prop} (hc : ZoE cmp c P)
include hc
theorem ZuX : ∀ (j : Nat) (d : Array Int), OKA P d → j < d.size → lp (ZN cmp) ((j : Int), d.toList) = some (shiftDown (ltC c) j d).toList ∧ OKA P (shiftDown (ltC c) j d) ∧ (shiftDown (ltC c) j d).size = d.size
 | 0, d, hd, hj => by
  rw [Zb9]
  simp only [ZN, decide_eq_false (show ¬ ((1 : Int) ≤ ((0 : Nat) : Int)) by omega), cond_false]
  exact ⟨rfl, hd, rfl⟩
 | j + 1, d, hd, hj => by
  have hj' : j < d.size := by omega
  have hz := hd.sz
  rw [Zb9]
  have e2 : w64 (((j + 1 : Nat) : Int) - 1) = (j : Int) := Zam (by omega) (by omega)
  have e3 := hc _ _ (hd.el (j + 1) hj) (hd.el j hj')
  unfold shiftDown
  by_cases h2 : c d[j + 1]! d[j]! < 0
  ·obtain ⟨y, e5⟩ := ZiS (i := j + 1) (x := d[j]!) hj'
   simp only [ZN, decide_eq_true (show (1 : Int) ≤ ((j + 1 : Nat) : Int) by omega), cond_true, Zbr hj, e2, Zbr hj', Option.bind_some, e3, decide_eq_true h2, Int.toNat_natCast, e5, ZfV]
   rw [if_neg (by simp [h2, ltC])]
   have ih := ZuX j (swp d (j + 1) j) (hd.swp hj hj') (by rw [Z6]; omega)
   rw [Z6] at ih
   exact ih
  ·simp only [ZN, decide_eq_true (show (1 : Int) ≤ ((j + 1 : Nat) : Int) by omega), cond_true, Zbr hj, e2, Zbr hj', Option.bind_some, e3, decide_eq_false h2, cond_false]
   rw [if_pos (by simp [h2, ltC])]
   exact ⟨rfl, hd, rfl⟩
theorem ZuT (b : Nat) : ∀ (k j : Nat) (d : Array Int), b - j ≤ k → 1 ≤ j → b ≤ d.size → OKA P d → lp (ZB (b : Int) cmp) ((j : Int), d.toList) = some (shiftUp (ltC c) b j d).toList ∧ OKA P (shiftUp (ltC c) b j d) ∧ (shiftUp (ltC c) b j d).size = d.size := by
 intro k
 induction k with
 | zero =>
  intro j d hk hj hb hd
  rw [Zb9]
  unfold shiftUp
  simp only [ZB, Zfl, decide_eq_false (show ¬ j < b by omega), cond_false]
  rw [if_neg (by omega)]
  exact ⟨rfl, hd, rfl⟩
 | succ k ih =>
  intro j d hk hj hb hd
  have hz := hd.sz
  rw [Zb9]
  unfold shiftUp
  by_cases h1 : j < b
  ·have i1 : j < d.size := by omega
   have i2 : j - 1 < d.size := by omega
   have e2 : w64 ((j : Int) - 1) = ((j - 1 : Nat) : Int) := Zam (by omega) (by omega)
   have e3 := hc _ _ (hd.el j i1) (hd.el (j - 1) i2)
   rw [if_pos h1]
   by_cases h2 : c d[j]! d[j - 1]! < 0
   ·obtain ⟨y, e5⟩ := ZiS (i := j) (x := d[j - 1]!) i2
    simp only [ZB, Zfl, decide_eq_true h1, cond_true, Zbr i1, e2, Zbr i2, Option.bind_some, e3, decide_eq_true h2, Int.toNat_natCast, e5, ZfV, Z2 h1 (by omega)]
    rw [if_neg (by simp [h2, ltC])]
    have := ih (j + 1) (swp d j (j - 1)) (by omega) (by omega) (by rw [Z6]; exact hb) (hd.swp i1 i2)
    rw [Z6] at this
    exact this
   ·simp only [ZB, Zfl, decide_eq_true h1, cond_true, Zbr i1, e2, Zbr i2, Option.bind_some, e3, decide_eq_false h2, cond_false]
    rw [if_pos (by simp [h2, ltC])]
    exact ⟨rfl, hd, rfl⟩
  ·simp only [ZB, Zfl, decide_eq_false h1, cond_false]
   rw [if_neg h1]
   exact ⟨rfl, hd, rfl⟩
theorem ZrQ (b : Nat) (z : Int) (d : Array Int) (hb : b ≤ d.size) (hd : OKA P d) (y1 y2 : Int) : ∀ (k i : Nat), b - i ≤ k → 1 ≤ i → i ≤ b → lp (ZD (b : Int) cmp (y1, y2, d.toList)) (i : Int) = some ((scanSorted (ltC c) d b i : Nat) : Int) ∧ i ≤ scanSorted (ltC c) d b i ∧ scanSorted (ltC c) d b i ≤ b := by
 have hz := hd.sz
 intro k
 induction k with
 | zero =>
  intro i hk hi hib
  rw [Zb9]
  unfold scanSorted
  simp only [ZD, Zfl, decide_eq_false (show ¬ i < b by omega), cond_false]
  rw [if_neg (by simp [show ¬ i < b by omega])]
  exact ⟨rfl, Nat.le_refl _, hib⟩
 | succ k ih =>
  intro i hk hi hib
  rw [Zb9]
  unfold scanSorted
  by_cases h1 : i < b
  ·have i1 : i < d.size := by omega
   have i2 : i - 1 < d.size := by omega
   have e2 : w64 ((i : Int) - 1) = ((i - 1 : Nat) : Int) := Zam (by omega) (by omega)
   have e3 := hc _ _ (hd.el i i1) (hd.el (i - 1) i2)
   by_cases h2 : c d[i]! d[i - 1]! < 0
   ·simp only [ZD, Zfl, decide_eq_true h1, cond_true, Zbr i1, e2, Zbr i2, Option.bind_some, e3, decide_eq_true h2]
    rw [if_neg (by simp [h2, ltC])]
    exact ⟨rfl, Nat.le_refl _, hib⟩
   ·simp only [ZD, Zfl, decide_eq_true h1, cond_true, Zbr i1, e2, Zbr i2, Option.bind_some, e3, decide_eq_false h2, cond_false, Z2 h1 (by omega)]
    rw [if_pos (by simp [h1, h2, ltC])]
    obtain ⟨a1, a2, a3⟩ := ih (i + 1) (by omega) (by omega) (by omega)
    exact ⟨a1, by omega, a3⟩
  ·simp only [ZD, Zfl, decide_eq_false h1, cond_false]
   rw [if_neg (by simp [h1])]
   exact ⟨rfl, Nat.le_refl _, hib⟩
theorem Zs9 (a b : Nat) : ∀ (s i : Nat) (d : Array Int), s ≤ 5 → a < i → i ≤ b → b ≤ d.size → OKA P d →
  ∃ r, lp (ZM (a : Int) (b : Int) cmp) ((i : Int), ((5 - s : Nat) : Int), d.toList) = some r ∧ (match r with | .inl l => l = (partialIns (ltC c) a b s i d).1.toList ∧ (partialIns (ltC c) a b s i d).2 = true | .inr (.inl l) => l = (partialIns (ltC c) a b s i d).1.toList ∧ (partialIns (ltC c) a b s i d).2 = false | .inr (.inr l) => l = (partialIns (ltC c) a b s i d).1.toList ∧ (partialIns (ltC c) a b s i d).2 = false) ∧
   OKA P (partialIns (ltC c) a b s i d).1 ∧ (partialIns (ltC c) a b s i d).1.size = d.size
 | 0, i, d, hs, ha, hi, hb, hd => by
  rw [Zb9]
  simp only [ZM, decide_eq_false (show ¬ (((5 - 0 : Nat) : Int) < 5) by omega), cond_false]
  exact ⟨_, rfl, by simp [partialIns], by first | exact hd | (simpa [partialIns] using hd), by first | rfl | simp [partialIns]⟩
 | s + 1, i, d, hs, ha, hi, hb, hd => by
  have hz := hd.sz
  obtain ⟨u1, u2, u3⟩ := ZrQ hc b 0 d hb hd (i : Int) ((5 - (s + 1) : Nat) : Int) (b - i) i (Nat.le_refl _) (by omega) hi
  rw [Zb9]
  unfold partialIns
  generalize hi2 : scanSorted (ltC c) d b i = i2 at u1 u2 u3 ⊢
  simp only [ZM, decide_eq_true (show (((5 - (s + 1) : Nat) : Int) < 5) by omega), cond_true, u1, Option.bind_some]
  by_cases h1 : i2 = b
  ·rw [show ((i2 : Int) == (b : Int)) = true by simp [h1], if_pos h1]
   exact ⟨_, rfl, by simp [partialIns], by first | exact hd | (simpa [partialIns] using hd), by first | rfl | simp [partialIns]⟩
  ·have e1 : w64 ((b : Int) - (a : Int)) = ((b - a : Nat) : Int) := Zam (by omega) (by omega)
   rw [show ((i2 : Int) == (b : Int)) = false by simpa using (show ¬ (i2 : Int) = (b : Int) by omega), if_neg h1]
   by_cases h2 : b - a < 50
   ·rw [if_pos h2]
    simp only [cond_false, e1, decide_eq_true (show ((b - a : Nat) : Int) < 50 by omega), cond_true]
    exact ⟨_, rfl, by simp [partialIns], by first | exact hd | (simpa [partialIns] using hd), by first | rfl | simp [partialIns]⟩
   ·rw [if_neg h2]
    have i1 : i2 < d.size := by omega
    have i3 : i2 - 1 < d.size := by omega
    have e2 : w64 ((i2 : Int) - 1) = ((i2 - 1 : Nat) : Int) := Zam (by omega) (by omega)
    have e3 : w64 ((i2 : Int) - (a : Int)) = ((i2 - a : Nat) : Int) := Zam (by omega) (by omega)
    have e4 : w64 ((b : Int) - (i2 : Int)) = ((b - i2 : Nat) : Int) := Zam (by omega) (by omega)
    have e5 : w64 ((i2 : Int) + 1) = ((i2 + 1 : Nat) : Int) := Zam (by omega) (by omega)
    have e6 : w64 (((5 - (s + 1) : Nat) : Int) + 1) = ((5 - s : Nat) : Int) := Zam (by omega) (by omega)
    obtain ⟨y, em⟩ := ZiS (i := i2) (x := d[i2 - 1]!) i3
    have hd2 := hd.swp i1 i3
    simp only [cond_false, e1, decide_eq_false (show ¬ ((b - a : Nat) : Int) < 50 by omega), e2, Zbr i1, Zbr i3, Option.bind_some, Int.toNat_natCast, em, ZfV, e3, e4, e5, e6, ZxI]
    have n2 : ∀ n : Nat, decide ((2 : Int) ≤ (n : Int)) = decide (n ≥ 2) := fun n => decide_eq_decide.2 (by omega)
    rw [n2, n2]
    have go : ∀ d' : Array Int, OKA P d' → d'.size = d.size → ∃ r, lp (ZM (a : Int) (b : Int) cmp) ((i2 : Int), ((5 - s : Nat) : Int), d'.toList) = some r ∧ (match r with | .inl l => l = (partialIns (ltC c) a b s i2 d').1.toList ∧ (partialIns (ltC c) a b s i2 d').2 = true | .inr (.inl l) => l = (partialIns (ltC c) a b s i2 d').1.toList ∧ (partialIns (ltC c) a b s i2 d').2 = false | .inr (.inr l) => l = (partialIns (ltC c) a b s i2 d').1.toList ∧ (partialIns (ltC c) a b s i2 d').2 = false) ∧
      OKA P (partialIns (ltC c) a b s i2 d').1 ∧ (partialIns (ltC c) a b s i2 d').1.size = d.size := fun d' h h' => by
     have := Zs9 a b s i2 d' (by omega) (by omega) u3 (by omega) h
     rw [h'] at this
     exact this
    by_cases h3 : i2 - a ≥ 2
    ·obtain ⟨v1, v2, v3⟩ := ZuX hc (i2 - 1) (swp d i2 (i2 - 1)) hd2 (by rw [Z6]; exact i3)
     rw [Z6] at v3
     rw [decide_eq_true h3, if_pos h3]
     simp only [cond_true, v1, Option.bind_some]
     by_cases h4 : b - i2 ≥ 2
     ·obtain ⟨w1, w2, w3⟩ := ZuT hc b (b - (i2 + 1)) (i2 + 1) (shiftDown (ltC c) (i2 - 1) (swp d i2 (i2 - 1))) (Nat.le_refl _) (by omega) (by omega) v2
      rw [decide_eq_true h4, if_pos h4]
      simp only [cond_true, w1, Option.bind_some]
      exact go _ w2 (by omega)
     ·rw [decide_eq_false h4, if_neg h4]
      exact go _ v2 v3
    ·rw [decide_eq_false h3, if_neg h3]
     simp only [cond_false]
     by_cases h4 : b - i2 ≥ 2
     ·obtain ⟨w1, w2, w3⟩ := ZuT hc b (b - (i2 + 1)) (i2 + 1) (swp d i2 (i2 - 1)) (Nat.le_refl _) (by omega) (by rw [Z6]; omega) hd2
      rw [Z6] at w3
      rw [decide_eq_true h4, if_pos h4]
      simp only [cond_true, w1, Option.bind_some]
      exact go _ w2 w3
     ·rw [decide_eq_false h4, if_neg h4]
      exact go _ hd2 (Z6 _ _ _)
theorem ZuK (a b : Nat) (d : Array Int) (h1 : a < b) (hb : b ≤ d.size) (hd : OKA P d) :
  ZH (a : Int) (b : Int) cmp d.toList = some (bif (partialInsertionSort (ltC c) d a b).2 then .inl (partialInsertionSort (ltC c) d a b).1.toList else .inr (partialInsertionSort (ltC c) d a b).1.toList) ∧ OKA P (partialInsertionSort (ltC c) d a b).1 ∧ (partialInsertionSort (ltC c) d a b).1.size = d.size := by
 have hz := hd.sz
 obtain ⟨r, e, h2, h3⟩ := Zs9 hc a b 5 (a + 1) d (Nat.le_refl _) (by omega) (by omega) hb hd
 unfold ZH partialInsertionSort
 have e0 : ((5 - 5 : Nat) : Int) = 0 := rfl
 rw [e0] at e
 rw [Zam (n := a + 1) (by omega) (by omega), e]
 refine ⟨?_, h3⟩
 rcases r with l | l | l
 ·obtain ⟨rfl, h⟩ := h2; rw [h]; rfl
 ·obtain ⟨rfl, h⟩ := h2; rw [h]; rfl
 ·obtain ⟨rfl, h⟩ := h2; rw [h]; rfl
theorem ZsY (d : Array Int) (hd : OKA P d) (a b n : Nat) (ha : a < d.size) (hb : b < d.size) (hn : n < 1000) : ZaE (a : Int) (b : Int) cmp d.toList (n : Int) = some (((order2 (ltC c) d a b n).1 : Int), ((order2 (ltC c) d a b n).2.1 : Int), ((order2 (ltC c) d a b n).2.2 : Int)) ∧
  (order2 (ltC c) d a b n).1 < d.size ∧ (order2 (ltC c) d a b n).2.1 < d.size ∧ (order2 (ltC c) d a b n).2.2 ≤ n + 1 := by
 unfold ZaE order2
 simp only [Zbr ha, Zbr hb, Option.bind_some, hc _ _ (hd.el b hb) (hd.el a ha)]
 by_cases h : c d[b]! d[a]! < 0
 ·rw [if_pos (by simp [h, ltC]), decide_eq_true h, Zam (n := n + 1) (by omega) (by omega)]
  exact ⟨rfl, hb, ha, Nat.le_refl _⟩
 ·rw [if_neg (by simp [h, ltC]), decide_eq_false h]
  exact ⟨rfl, ha, hb, Nat.le_succ _⟩
theorem ZrV (d : Array Int) (hd : OKA P d) (i j k n : Nat) (hi : i < d.size) (hj : j < d.size) (hk : k < d.size) (hn : n < 990) : ZaD (i : Int) (j : Int) (k : Int) cmp d.toList (n : Int) = some (((median (ltC c) d i j k n).1 : Int), ((median (ltC c) d i j k n).2 : Int)) ∧ (median (ltC c) d i j k n).1 < d.size ∧ (median (ltC c) d i j k n).2 ≤ n + 3 := by
 obtain ⟨a1, a2, a3, a4⟩ := ZsY hc d hd i j n hi hj (by omega)
 obtain ⟨b1, b2, b3, b4⟩ := ZsY hc d hd (order2 (ltC c) d i j n).2.1 k (order2 (ltC c) d i j n).2.2 a3 hk (by omega)
 obtain ⟨c1, c2, c3, c4⟩ := ZsY hc d hd (order2 (ltC c) d i j n).1 (order2 (ltC c) d (order2 (ltC c) d i j n).2.1 k (order2 (ltC c) d i j n).2.2).1 (order2 (ltC c) d (order2 (ltC c) d i j n).2.1 k (order2 (ltC c) d i j n).2.2).2.2 a2 b2 (by omega)
 unfold ZaD median
 simp only [a1, b1, c1, Option.bind_some]
 exact ⟨trivial, c3, by omega⟩
theorem Ztw (d : Array Int) (hd : OKA P d) (i n : Nat) (h1 : 1 ≤ i) (hi : i + 1 < d.size) (hn : n < 990) : Z1 (i : Int) cmp d.toList (n : Int) = some (((medianAdjacent (ltC c) d i n).1 : Int), ((medianAdjacent (ltC c) d i n).2 : Int)) ∧ (medianAdjacent (ltC c) d i n).1 < d.size ∧ (medianAdjacent (ltC c) d i n).2 ≤ n + 3 := by
 have hz := hd.sz
 obtain ⟨a1, a2⟩ := ZrV hc d hd (i - 1) i (i + 1) n (by omega) (by omega) hi hn
 unfold Z1 medianAdjacent
 rw [Zam (n := i - 1) (by omega) (by omega), Zam (n := i + 1) (by omega) (by omega), a1]
 exact ⟨rfl, a2⟩
theorem ZuO (a b : Nat) (d : Array Int) (hab : a < b) (hb : b ≤ d.size) (hd : OKA P d) : ZF (a : Int) (b : Int) cmp d.toList = some (((choosePivot (ltC c) d a b).1 : Int), ZlU (choosePivot (ltC c) d a b).2) := by
 have hz := hd.sz
 have e1 : w64 ((b : Int) - (a : Int)) = ((b - a : Nat) : Int) := Zam (by omega) (by omega)
 have e2 : w64 (Int.tdiv ((b - a : Nat) : Int) 4) = (((b - a) / 4 : Nat) : Int) := by
  rw [Int.tdiv_eq_ediv_of_nonneg (by omega)]
  exact Zam (by omega) (by omega)
 have q : ∀ m : Nat, m ≤ 3 → w64 ((((b - a) / 4 : Nat) : Int) * (m : Int)) = (((b - a) / 4 * m : Nat) : Int) := fun m hm => by
  refine Zam (by rw [Int.natCast_mul]) ?_
  have : (b - a) / 4 * m ≤ (b - a) / 4 * 3 := Nat.mul_le_mul_left _ hm
  omega
 have q1 := q 1 (by omega)
 have q2 := q 2 (by omega)
 have q3 := q 3 (by omega)
 have p : ∀ m : Nat, m ≤ 3 → w64 ((a : Int) + (((b - a) / 4 * m : Nat) : Int)) = ((a + (b - a) / 4 * m : Nat) : Int) := fun m hm => by
  refine Zam (by omega) ?_
  have : (b - a) / 4 * m ≤ (b - a) / 4 * 3 := Nat.mul_le_mul_left _ hm
  omega
 have p1 := p 1 (by omega)
 have p2 := p 2 (by omega)
 have p3 := p 3 (by omega)
 unfold ZF choosePivot
 have q1' : w64 ((((b - a) / 4 : Nat) : Int) * 1) = _ := q1
 have q2' : w64 ((((b - a) / 4 : Nat) : Int) * 2) = _ := q2
 have q3' : w64 ((((b - a) / 4 : Nat) : Int) * 3) = _ := q3
 simp only [e1, e2, q1', q2', q3', p1, p2, p3]
 have z : ((0 : Nat) : Int) = 0 := rfl
 by_cases h8 : b - a ≥ 8
 ·rw [decide_eq_true (show (8 : Int) ≤ ((b - a : Nat) : Int) by omega), if_pos h8]
  by_cases h50 : b - a ≥ 50
  ·obtain ⟨m1, m2, m3⟩ := Ztw hc d hd (a + (b - a) / 4 * 1) 0 (by omega) (by omega) (by omega)
   obtain ⟨n1, n2, n3⟩ := Ztw hc d hd (a + (b - a) / 4 * 2) (medianAdjacent (ltC c) d (a + (b - a) / 4 * 1) 0).2 (by omega) (by omega) (by omega)
   obtain ⟨o1, o2, o3⟩ := Ztw hc d hd (a + (b - a) / 4 * 3) (medianAdjacent (ltC c) d (a + (b - a) / 4 * 2) (medianAdjacent (ltC c) d (a + (b - a) / 4 * 1) 0).2).2 (by omega) (by omega) (by omega)
   obtain ⟨r1, r2, r3⟩ := ZrV hc d hd _ _ _ (medianAdjacent (ltC c) d (a + (b - a) / 4 * 3) (medianAdjacent (ltC c) d (a + (b - a) / 4 * 2) (medianAdjacent (ltC c) d (a + (b - a) / 4 * 1) 0).2).2).2 m2 n2 o2 (by omega)
   rw [z] at m1
   rw [decide_eq_true (show (50 : Int) ≤ ((b - a : Nat) : Int) by omega), if_pos h50]
   simp only [cond_true, m1, n1, o1, r1, Option.bind_some]
   exact ZsT (_, _) _ _ rfl rfl
  ·obtain ⟨r1, r2, r3⟩ := ZrV hc d hd (a + (b - a) / 4 * 1) (a + (b - a) / 4 * 2) (a + (b - a) / 4 * 3) 0 (by omega) (by omega) (by omega) (by omega)
   rw [z] at r1
   rw [decide_eq_false (show ¬ (50 : Int) ≤ ((b - a : Nat) : Int) by omega), if_neg h50]
   simp only [cond_true, cond_false, r1, Option.bind_some]
   exact ZsT (_, _) _ _ rfl rfl
 ·rw [decide_eq_false (show ¬ (8 : Int) ≤ ((b - a : Nat) : Int) by omega), if_neg h8]
  rfl
end
theorem Zv2 {P : Int → Prop} : ∀ (k i j : Nat) (d : Array Int), j - i ≤ k → j < d.size ∨ j ≤ i → OKA P d → lp ZZ ((i : Int), (j : Int), d.toList) = some (reverseLoop i j d).toList ∧ OKA P (reverseLoop i j d) ∧ (reverseLoop i j d).size = d.size := by
 intro k
 induction k with
 | zero =>
  intro i j d hk hj hd
  rw [Zb9]
  unfold reverseLoop
  simp only [ZZ, Zfl, decide_eq_false (show ¬ i < j by omega), cond_false]
  rw [if_neg (by omega)]
  exact ⟨rfl, hd, rfl⟩
 | succ k ih =>
  intro i j d hk hj hd
  have hz := hd.sz
  rw [Zb9]
  unfold reverseLoop
  by_cases h : i < j
  ·have i1 : j < d.size := by omega
   have i2 : i < d.size := by omega
   obtain ⟨y, em⟩ := ZiS (i := i) (x := d[j]!) i1
   have e2 : w64 ((j : Int) - 1) = ((j - 1 : Nat) : Int) := Zam (by omega) (by omega)
   simp only [ZZ, Zfl, decide_eq_true h, cond_true, Zbr i1, Zbr i2, Option.bind_some, Int.toNat_natCast, em, ZfV, Z2 h (by omega), e2]
   rw [if_pos h]
   have := ih (i + 1) (j - 1) (swp d i j) (by omega) (by rw [Z6]; omega) (hd.swp i2 i1)
   rw [Z6] at this
   exact this
  ·simp only [ZZ, Zfl, decide_eq_false h, cond_false]
   rw [if_neg h]
   exact ⟨rfl, hd, rfl⟩
theorem ZsZ {P : Int → Prop} (cmp : Int → Int → Option Int) (a b : Nat) (d : Array Int) (hab : a < b) (hb : b ≤ d.size) (hd : OKA P d) : ZE (a : Int) (b : Int) cmp d.toList = some (reverseRange d a b).toList ∧ OKA P (reverseRange d a b) ∧ (reverseRange d a b).size = d.size := by
 have hz := hd.sz
 obtain ⟨h1, h2⟩ := Zv2 (b - 1 - a) a (b - 1) d (Nat.le_refl _) (by omega) hd
 unfold ZE reverseRange
 rw [Zam (n := b - 1) (by omega) (by omega)]
 simp only [h1, Option.bind_some]
 exact ⟨trivial, h2⟩
end Go.Proofs.YtnmbdjkbaihicaaDoor
namespace Go.Proofs.YtnmbdjkbaihicaaDoor
open Go Go.Proofs.YtnmbdjkbaihicaaDoorE Go.Sort
set_option linter.unusedVariables false
set_option linter.unusedSimpArgs false
theorem Zo2 (n : Int) : IntKind.u64.wrap n = n % 18446744073709551616 := by
 show (if (false && decide (n % 18446744073709551616 ≥ 9223372036854775808)) = true then n % 18446744073709551616 - 18446744073709551616 else n % 18446744073709551616) = _
 simp
theorem Zgj {n : Nat} (h : n < 18446744073709551616) : IntKind.u64.wrap (n : Int) = (n : Int) := by rw [Zo2]; omega
def Zop (a b : Int) : Int := IntKind.u64.wrap (BitVec.ofInt IntKind.u64.bits a ^^^ BitVec.ofInt IntKind.u64.bits b).toNat
def Zr2 (a b : Int) : Int := IntKind.u64.wrap (BitVec.ofInt IntKind.u64.bits a &&& BitVec.ofInt IntKind.u64.bits b).toNat
def xs (r : Int) : Int := Zop (Zop (Zop r (IntKind.u64.wrap (r * 2 ^ 13))) (Int.fdiv (Zop r (IntKind.u64.wrap (r * 2 ^ 13))) (2 ^ 7))) (IntKind.u64.wrap (Zop (Zop r (IntKind.u64.wrap (r * 2 ^ 13))) (Int.fdiv (Zop r (IntKind.u64.wrap (r * 2 ^ 13))) (2 ^ 7)) * 2 ^ 17))
theorem Zoo (u : UInt64) : BitVec.ofInt IntKind.u64.bits (u.toNat : Int) = u.toBitVec := by
 show BitVec.ofInt 64 (u.toNat : Int) = u.toBitVec
 rw [BitVec.ofInt_natCast]
 apply BitVec.eq_of_toNat_eq
 rw [BitVec.toNat_ofNat]
 exact Nat.mod_eq_of_lt u.toNat_lt
theorem ZsM (u v : UInt64) : Zop (u.toNat : Int) (v.toNat : Int) = ((u ^^^ v).toNat : Int) := by
 unfold Zop
 rw [Zoo, Zoo]
 exact Zgj (u ^^^ v).toNat_lt
theorem ZuJ (u : UInt64) (k : Nat) (v : UInt64) (hk : v.toNat % 64 = k) : IntKind.u64.wrap ((u.toNat : Int) * 2 ^ k) = ((u <<< v).toNat : Int) := by
 rw [Zo2, UInt64.toNat_shiftLeft, hk, Nat.shiftLeft_eq]
 have : ((2 : Int) ^ k) = ((2 ^ k : Nat) : Int) := by rw [Int.natCast_pow]; rfl
 rw [this]
 omega
theorem Zxu (u : UInt64) (k : Nat) (v : UInt64) (hk : v.toNat % 64 = k) : Int.fdiv (u.toNat : Int) (2 ^ k) = ((u >>> v).toNat : Int) := by
 have e : ((2 : Int) ^ k) = ((2 ^ k : Nat) : Int) := by rw [Int.natCast_pow]; rfl
 rw [UInt64.toNat_shiftRight, hk, Nat.shiftRight_eq_div_pow, e, Int.fdiv_eq_ediv_of_nonneg _ (Int.natCast_nonneg _)]
 exact (Int.natCast_ediv _ _).symm
theorem ZwC (u : UInt64) : xs (u.toNat : Int) = ((xorNext u).toNat : Int) := by
 unfold xs xorNext
 rw [ZuJ u 13 13 rfl, ZsM, Zxu _ 7 7 rfl, ZsM, ZuJ _ 17 17 rfl, ZsM]
theorem Zui (u : UInt64) (m : Nat) (hm : m < 18446744073709551616) : Zr2 (u.toNat : Int) (m : Int) = ((u.toNat &&& m : Nat) : Int) := by
 unfold Zr2
 rw [Zoo]
 have : BitVec.ofInt IntKind.u64.bits (m : Int) = BitVec.ofNat 64 m := BitVec.ofInt_natCast _ _
 rw [this]
 show IntKind.u64.wrap ((((u.toBitVec &&& BitVec.ofNat 64 m : BitVec 64)).toNat : Nat) : Int) = _
 rw [BitVec.toNat_and, BitVec.toNat_ofNat, Nat.mod_eq_of_lt hm]
 refine Zgj (Nat.lt_of_le_of_lt Nat.and_le_left u.toNat_lt)
theorem Zrh : ((List.range 1001).all fun n => (match ZdF (IntKind.u64.wrap (n : Int)) with | some v => v == (bitsLen n : Int) | none => false) && ((match Zb1 (n : Int) with | some v => v == ((1 <<< bitsLen n : Nat) : Int) | none => false) && (decide (1 <<< bitsLen n ≤ 2 * n) || n == 0))) = true := by kernel_rfl
theorem Zs4 {n : Nat} (h : n ≤ 1000) : ZdF (IntKind.u64.wrap (n : Int)) = some (bitsLen n : Int) ∧ Zb1 (n : Int) = some ((1 <<< bitsLen n : Nat) : Int) ∧ (0 < n → 1 <<< bitsLen n ≤ 2 * n) := by
 have := List.all_eq_true.1 Zrh n (by simp; omega)
 simp only [Bool.and_eq_true, Bool.or_eq_true, decide_eq_true_eq, beq_iff_eq] at this
 obtain ⟨h1, h2, h3⟩ := this
 refine ⟨?_, ?_, fun h => by omega⟩
 ·split at h1
  ·rename_i v hv; rw [hv, eq_of_beq h1]
  ·cases h1
 ·split at h2
  ·rename_i v hv; rw [hv, eq_of_beq h2]
  ·cases h2
def Zlq (s : Int × List Int × Int) (o : Int) : Option ((Int × List Int × Int) ⊕ List Int) :=
 (ZA s.2.1 o).bind fun x3 => (ZA s.2.1 s.1).bind fun x4 => (ZA (List.set s.2.1 s.1.toNat x3) o).bind fun _ => some (Sum.inl (w64 (s.1 + 1), List.set (List.set s.2.1 s.1.toNat x3) o.toNat x4, xs s.2.2))
theorem ZuU (b c x0 : Int) (s : Int × List Int × Int) : Zav b c x0 s = (bif (decide (s.1 ≤ (w64 ((w64 (b + (w64 ((w64 (Int.tdiv (w64 (c - b)) 4)) * 2)))) + 1)))) then
  Zc5.bind fun _ => bif decide (w64 (c - b) ≤ w64 (Zr2 (xs s.2.2) (IntKind.u64.wrap (x0 - 1)))) then Zlq s (w64 (b + w64 (w64 (Zr2 (xs s.2.2) (IntKind.u64.wrap (x0 - 1))) - w64 (c - b)))) else Zlq s (w64 (b + w64 (Zr2 (xs s.2.2) (IntKind.u64.wrap (x0 - 1)))))
 else some (.inr s.2.1)) := rfl
theorem Zpl {P : Int → Prop} (d : Array Int) (hd : OKA P d) (i o : Nat) (u : UInt64) (hi : i < d.size) (ho : o < d.size) : Zlq ((i : Int), d.toList, (u.toNat : Int)) (o : Int) = some (.inl (((i + 1 : Nat) : Int), (swp d i o).toList, ((xorNext u).toNat : Int))) := by
 have hz := hd.sz
 obtain ⟨y, em⟩ := ZiS (i := i) (x := d[o]!) ho
 unfold Zlq
 simp only [Zbr ho, Zbr hi, Option.bind_some, Int.toNat_natCast, em, ZfV, ZwC, Z2 hi (by omega)]
theorem ZnV {P : Int → Prop} (a b : Nat) (d : Array Int) (hd : OKA P d) (h8 : 8 ≤ b - a) (hb : b ≤ d.size) (i : Nat) (hi : i ≤ a + (b - a) / 4 * 2 + 1) (u : UInt64) :
  Zav (a : Int) (b : Int) ((1 <<< bitsLen (b - a) : Nat) : Int) ((i : Int), d.toList, (u.toNat : Int)) = some (.inl (((i + 1 : Nat) : Int), (breakStep a (b - a) (1 <<< bitsLen (b - a)) (u, d) i).2.toList, ((breakStep a (b - a) (1 <<< bitsLen (b - a)) (u, d) i).1.toNat : Int))) ∧
  OKA P (breakStep a (b - a) (1 <<< bitsLen (b - a)) (u, d) i).2 ∧ (breakStep a (b - a) (1 <<< bitsLen (b - a)) (u, d) i).2.size = d.size := by
 have hz := hd.sz
 obtain ⟨_, _, l3⟩ := Zs4 (show b - a ≤ 1000 by omega)
 have l4 := l3 (by omega)
 have l5 : 0 < 1 <<< bitsLen (b - a) := by rw [Nat.shiftLeft_eq, Nat.one_mul]; exact Nat.pow_pos (by omega)
 generalize hm : 1 <<< bitsLen (b - a) = m at *
 have e1 : w64 ((b : Int) - (a : Int)) = ((b - a : Nat) : Int) := Zam (by omega) (by omega)
 have e2 : w64 (Int.tdiv ((b - a : Nat) : Int) 4) = (((b - a) / 4 : Nat) : Int) := by
  rw [Int.tdiv_eq_ediv_of_nonneg (by omega)]
  exact Zam (by omega) (by omega)
 have e3 : w64 ((((b - a) / 4 : Nat) : Int) * 2) = (((b - a) / 4 * 2 : Nat) : Int) := Zam (by omega) (by omega)
 have e4 : w64 ((a : Int) + (((b - a) / 4 * 2 : Nat) : Int)) = ((a + (b - a) / 4 * 2 : Nat) : Int) := Zam (by omega) (by omega)
 have e5 : w64 (((a + (b - a) / 4 * 2 : Nat) : Int) + 1) = ((a + (b - a) / 4 * 2 + 1 : Nat) : Int) := Zam (by omega) (by omega)
 have e6 : IntKind.u64.wrap ((m : Int) - 1) = ((m - 1 : Nat) : Int) := by
  rw [show (m : Int) - 1 = ((m - 1 : Nat) : Int) by omega]; exact Zgj (by omega)
 have hand : (xorNext u).toNat &&& (m - 1) ≤ m - 1 := Nat.and_le_right
 have e7 : w64 (((xorNext u).toNat &&& (m - 1) : Nat) : Int) = (((xorNext u).toNat &&& (m - 1) : Nat) : Int) := Zam rfl (by omega)
 have ii : i < d.size := by omega
 rw [ZuU]
 unfold breakStep
 simp only [e1, e2, e3, e4, e5, ZfI, decide_eq_true hi, cond_true, ZwC, e6, Zui _ (m - 1) (by omega), e7]
 generalize (xorNext u).toNat &&& (m - 1) = o at *
 show (bif decide (b - a ≤ o) then _ else _) = _ ∧ _
 by_cases ho : b - a ≤ o
 ·have e8 : w64 ((o : Int) - ((b - a : Nat) : Int)) = ((o - (b - a) : Nat) : Int) := Zam (by omega) (by omega)
  have e9 : w64 ((a : Int) + ((o - (b - a) : Nat) : Int)) = ((a + (o - (b - a)) : Nat) : Int) := Zam (by omega) (by omega)
  rw [decide_eq_true ho, if_pos ho]
  simp only [cond_true, e8, e9]
  exact ⟨Zpl d hd i _ u ii (by omega), hd.swp ii (by omega), Z6 _ _ _⟩
 ·have e9 : w64 ((a : Int) + (o : Int)) = ((a + o : Nat) : Int) := Zam (by omega) (by omega)
  rw [decide_eq_false ho, if_neg ho]
  simp only [cond_false, e9]
  exact ⟨Zpl d hd i _ u ii (by omega), hd.swp ii (by omega), Z6 _ _ _⟩
theorem ZyV {P : Int → Prop} (cmp : Int → Int → Option Int) (a b : Nat) (d : Array Int) (hab : a ≤ b) (hb : b ≤ d.size) (hd : OKA P d) : Z4 (a : Int) (b : Int) cmp d.toList = some (breakPatterns d a b).toList ∧ OKA P (breakPatterns d a b) ∧ (breakPatterns d a b).size = d.size := by
 have hz := hd.sz
 have e1 : w64 ((b : Int) - (a : Int)) = ((b - a : Nat) : Int) := Zam (by omega) (by omega)
 unfold Z4 breakPatterns
 simp only [e1]
 by_cases h8 : 8 ≤ b - a
 ·obtain ⟨_, l2, _⟩ := Zs4 (show b - a ≤ 1000 by omega)
  have e2 : w64 (Int.tdiv ((b - a : Nat) : Int) 4) = (((b - a) / 4 : Nat) : Int) := by
   rw [Int.tdiv_eq_ediv_of_nonneg (by omega)]
   exact Zam (by omega) (by omega)
  have e3 : w64 ((((b - a) / 4 : Nat) : Int) * 2) = (((b - a) / 4 * 2 : Nat) : Int) := Zam (by omega) (by omega)
  have e4 : w64 ((a : Int) + (((b - a) / 4 * 2 : Nat) : Int)) = ((a + (b - a) / 4 * 2 : Nat) : Int) := Zam (by omega) (by omega)
  have e5 : w64 (((a + (b - a) / 4 * 2 : Nat) : Int) - 1) = ((a + (b - a) / 4 * 2 - 1 : Nat) : Int) := Zam (by omega) (by omega)
  have e6 : IntKind.u64.wrap ((b - a : Nat) : Int) = ((UInt64.ofNat (b - a)).toNat : Int) := by
   rw [Zgj (by omega), UInt64.toNat_ofNat_of_lt' (by show b - a < 2 ^ 64; omega)]
  rw [decide_eq_true (show (8 : Int) ≤ ((b - a : Nat) : Int) by omega), if_pos h8]
  simp only [cond_true, l2, Option.bind_some, e2, e3, e4, e5, e6]
  generalize hi0 : a + (b - a) / 4 * 2 - 1 = i0
  obtain ⟨p1, p2, p3⟩ := ZnV a b d hd h8 hb i0 (by omega) (UInt64.ofNat (b - a))
  generalize breakStep a (b - a) (1 <<< bitsLen (b - a)) (UInt64.ofNat (b - a), d) i0 = r1 at *
  obtain ⟨q1, q2, q3⟩ := ZnV a b r1.2 p2 h8 (by omega) (i0 + 1) (by omega) r1.1
  generalize breakStep a (b - a) (1 <<< bitsLen (b - a)) (r1.1, r1.2) (i0 + 1) = r2 at *
  obtain ⟨s1, s2, s3⟩ := ZnV a b r2.2 q2 h8 (by omega) (i0 + 2) (by omega) r2.1
  generalize breakStep a (b - a) (1 <<< bitsLen (b - a)) (r2.1, r2.2) (i0 + 2) = r3 at *
  rw [ZlT p1, ZlT q1, ZlT s1, ZtY (r := r3.2.toList)]
  ·exact ⟨rfl, s2, by omega⟩
  ·rw [ZuU]
   have e7 : w64 (((a + (b - a) / 4 * 2 : Nat) : Int) + 1) = ((a + (b - a) / 4 * 2 + 1 : Nat) : Int) := Zam (by omega) (by omega)
   simp only [e1, e2, e3, e4, e7, ZfI, decide_eq_false (show ¬ i0 + 2 + 1 ≤ a + (b - a) / 4 * 2 + 1 by omega), cond_false]
 ·rw [decide_eq_false (show ¬ (8 : Int) ≤ ((b - a : Nat) : Int) by omega), if_neg h8]
  exact ⟨rfl, hd, rfl⟩
end Go.Proofs.YtnmbdjkbaihicaaDoor
namespace Go.Proofs.YtnmbdjkbaihicaaDoor
open Go Go.Proofs.YtnmbdjkbaihicaaDoorE Go.Sort
set_option linter.unusedVariables false
set_option linter.unusedSimpArgs false
abbrev ZtS := Int × Int × Int × Bool × Bool × List Int
noncomputable def ZqB (e : Int → Int → Option Int) (rc : Int → Int → Int → (Int → Int → Option Int) → List Int → Option (List Int)) (a b limit pivot : Int) (x5 : List Int) : Option (ZtS ⊕ List Int) :=
 (Zn a b pivot e x5).bind fun x9 =>
 match x9 with
 | .inl x9 =>
  bif decide (w64 (x9.1 - a) < w64 (b - x9.1)) then
   bif decide (w64 (Int.tdiv (w64 (b - a)) 8) ≤ w64 (x9.1 - a)) then (rc a x9.1 limit e x9.2).bind fun x10 => some (.inl (w64 (x9.1 + 1), b, limit, true, true, x10))
   else (rc a x9.1 limit e x9.2).bind fun x10 => some (.inl (w64 (x9.1 + 1), b, limit, false, true, x10))
  else
   bif decide (w64 (Int.tdiv (w64 (b - a)) 8) ≤ w64 (b - x9.1)) then (rc (w64 (x9.1 + 1)) b limit e x9.2).bind fun x10 => some (.inl (a, x9.1, limit, true, true, x10))
   else (rc (w64 (x9.1 + 1)) b limit e x9.2).bind fun x10 => some (.inl (a, x9.1, limit, false, true, x10))
 | .inr x9 =>
  bif decide (w64 (x9.1 - a) < w64 (b - x9.1)) then
   bif decide (w64 (Int.tdiv (w64 (b - a)) 8) ≤ w64 (x9.1 - a)) then (rc a x9.1 limit e x9.2).bind fun x10 => some (.inl (w64 (x9.1 + 1), b, limit, true, false, x10))
   else (rc a x9.1 limit e x9.2).bind fun x10 => some (.inl (w64 (x9.1 + 1), b, limit, false, false, x10))
  else
   bif decide (w64 (Int.tdiv (w64 (b - a)) 8) ≤ w64 (b - x9.1)) then (rc (w64 (x9.1 + 1)) b limit e x9.2).bind fun x10 => some (.inl (a, x9.1, limit, true, false, x10))
   else (rc (w64 (x9.1 + 1)) b limit e x9.2).bind fun x10 => some (.inl (a, x9.1, limit, false, false, x10))
noncomputable def Zj7 (e : Int → Int → Option Int) (rc : Int → Int → Int → (Int → Int → Option Int) → List Int → Option (List Int)) (a b limit pivot : Int) (wb wp : Bool) (x5 : List Int) : Option (ZtS ⊕ List Int) :=
 bif decide (0 < a) then
  (ZA x5 (w64 (a - 1))).bind fun x6 => (ZA x5 pivot).bind fun x7 => (e x6 x7).bind fun x8 =>
  bif decide (x8 < 0) then ZqB e rc a b limit pivot x5
  else (Zx a b pivot e x5).bind fun x18 => some (.inl (x18.1, b, limit, wb, wp, x18.2))
 else ZqB e rc a b limit pivot x5
theorem Znw (e : Int → Int → Option Int) (rc : Int → Int → Int → (Int → Int → Option Int) → List Int → Option (List Int)) (a b limit : Int) (wb wp : Bool) (l : List Int) : ZI e rc (a, b, limit, wb, wp, l) =
  (bif decide (w64 (b - a) ≤ 12) then (ZR a b e l).bind fun x => some (.inr x)
  else bif limit == 0 then (Z0 a b e l).bind fun x => some (.inr x)
  else (bif wb then bif wp then
    (ZF a b e l).bind fun x3 =>
    bif x3.2 == 2 then (ZE a b e l).bind fun x4 => (ZH a b e x4).bind fun x5 => (match x5 with | .inl x5 => some (.inr x5) | .inr x5 => Zj7 e rc a b limit (w64 (w64 (b - 1) - w64 (x3.1 - a))) true true x5)
    else bif x3.2 == 1 then (ZH a b e l).bind fun x5 => (match x5 with | .inl x5 => some (.inr x5) | .inr x5 => Zj7 e rc a b limit x3.1 true true x5)
    else Zj7 e rc a b limit x3.1 true true l
   else
    (ZF a b e l).bind fun x3 =>
    bif x3.2 == 2 then (ZE a b e l).bind fun x4 => Zj7 e rc a b limit (w64 (w64 (b - 1) - w64 (x3.1 - a))) true false x4
    else Zj7 e rc a b limit x3.1 true false l
  else
   (Z4 a b e l).bind fun x0 => (ZF a b e x0).bind fun x3 =>
    bif x3.2 == 2 then (ZE a b e x0).bind fun x4 => Zj7 e rc a b (w64 (limit - 1)) (w64 (w64 (b - 1) - w64 (x3.1 - a))) false wp x4
    else Zj7 e rc a b (w64 (limit - 1)) x3.1 false wp x0)) := by
 cases wb <;> cases wp <;> rfl
end Go.Proofs.YtnmbdjkbaihicaaDoor
namespace Go.Proofs.YtnmbdjkbaihicaaDoor
open Go Go.Proofs.YtnmbdjkbaihicaaDoorE Go.Sort
set_option linter.unusedVariables false
set_option linter.unusedSimpArgs false
noncomputable def after (e : Int → Int → Option Int) (rc : Int → Int → Int → (Int → Int → Option Int) → List Int → Option (List Int)) (x : Option (ZtS ⊕ List Int)) : Option (List Int) :=
 match x with | some (.inl s') => lp (ZI e rc) s' | some (.inr r) => some r | none => none
theorem Zsk (e : Int → Int → Option Int) (rc : Int → Int → Int → (Int → Int → Option Int) → List Int → Option (List Int)) (s : ZtS) : lp (ZI e rc) s = after e rc (ZI e rc s) := by
 rw [Zb9]
 unfold after
 cases ZI e rc s with
 | none => rfl
 | some t => cases t <;> rfl
def Res (P : Int → Prop) (r : Option (List Int)) (X : Array Int) (n : Nat) : Prop := r = some X.toList ∧ OKA P X ∧ X.size = n
section
variable {cmp : Int → Int → Option Int} {c : Int → Int → Int} {P : Int → Prop} (hc : ZoE cmp c P) (hs : SWO (ltC c))
include hc hs
def Zlr (cmp : Int → Int → Option Int) (c : Int → Int → Int) (P : Int → Prop) (rc : Int → Int → Int → (Int → Int → Option Int) → List Int → Option (List Int)) (k : Nat) : Prop :=
 ∀ (a b limit : Nat) (wb wp : Bool) (d : Array Int), b - a ≤ k → a ≤ b → b ≤ d.size → OKA P d → limit ≤ 1000 →
  Res P (rc (a : Int) (b : Int) (limit : Int) cmp d.toList) (pdq (ltC c) d a b limit true true) d.size ∧
  Res P (lp (ZI cmp rc) ((a : Int), (b : Int), (limit : Int), wb, wp, d.toList)) (pdq (ltC c) d a b limit wb wp) d.size
theorem Zp2 {rc : Int → Int → Int → (Int → Int → Option Int) → List Int → Option (List Int)} {k : Nat} (ih : Zlr cmp c P rc k) (a b limit pivot : Nat) (d : Array Int) (hk : b - a ≤ k + 1) (h1 : a ≤ pivot) (h2 : pivot < b) (hb : b ≤ d.size) (hd : OKA P d) (hl : limit ≤ 1000) :
  Res P (after cmp rc (ZqB cmp rc (a : Int) (b : Int) (limit : Int) (pivot : Int) d.toList)) (match partition (ltC c) d a b pivot with
   | (mid, alreadyPartitioned, d4) =>
    if _h : a ≤ mid ∧ mid < b then
     if mid - a < b - mid then pdq (ltC c) (pdq (ltC c) d4 a mid limit true true) (mid + 1) b limit (decide (mid - a ≥ (b - a) / 8)) alreadyPartitioned
     else pdq (ltC c) (pdq (ltC c) d4 (mid + 1) b limit true true) a mid limit (decide (b - mid ≥ (b - a) / 8)) alreadyPartitioned
    else d4) d.size := by
 have hz := hd.sz
 obtain ⟨p1, p2, p3⟩ := Zt9 hc a b pivot d h1 h2 hb hd
 obtain ⟨r1, r2, _⟩ := partition_holds (ltC c) hs d a b pivot h1 h2 hb
 unfold ZqB
 rw [p1]
 generalize partition (ltC c) d a b pivot = q at *
 obtain ⟨mid, ap, d4⟩ := q
 dsimp only at *
 rw [dif_pos ⟨r1, r2⟩]
 have e1 : w64 ((mid : Int) - (a : Int)) = ((mid - a : Nat) : Int) := Zam (by omega) (by omega)
 have e2 : w64 ((b : Int) - (mid : Int)) = ((b - mid : Nat) : Int) := Zam (by omega) (by omega)
 have e3 : w64 ((b : Int) - (a : Int)) = ((b - a : Nat) : Int) := Zam (by omega) (by omega)
 have e4 : w64 (Int.tdiv ((b - a : Nat) : Int) 8) = (((b - a) / 8 : Nat) : Int) := by
  rw [Int.tdiv_eq_ediv_of_nonneg (by omega)]
  exact Zam (by omega) (by omega)
 have e5 : w64 ((mid : Int) + 1) = ((mid + 1 : Nat) : Int) := Zam (by omega) (by omega)
 by_cases hlt : mid - a < b - mid
 ·obtain ⟨⟨u1, u2, u3⟩, _⟩ := ih a mid limit true true d4 (by omega) r1 (by omega) p2 hl
  rw [if_pos hlt]
  by_cases ht : mid - a ≥ (b - a) / 8
  ·obtain ⟨_, v1, v2, v3⟩ := ih (mid + 1) b limit true ap (pdq (ltC c) d4 a mid limit true true) (by omega) (by omega) (by omega) u2 hl
   rw [decide_eq_true ht]
   refine ⟨?_, v2, by omega⟩
   cases ap <;> simp only [cond_true, cond_false, Option.bind_some, e1, e2, e3, e4, e5, Zfl, ZfI, decide_eq_true hlt, decide_eq_true (show (b - a) / 8 ≤ mid - a from ht), u1, after] <;> exact v1
  ·obtain ⟨_, v1, v2, v3⟩ := ih (mid + 1) b limit false ap (pdq (ltC c) d4 a mid limit true true) (by omega) (by omega) (by omega) u2 hl
   rw [decide_eq_false ht]
   refine ⟨?_, v2, by omega⟩
   cases ap <;> simp only [cond_true, cond_false, Option.bind_some, e1, e2, e3, e4, e5, Zfl, ZfI, decide_eq_true hlt, decide_eq_false (show ¬ (b - a) / 8 ≤ mid - a from ht), u1, after] <;> exact v1
 ·obtain ⟨⟨u1, u2, u3⟩, _⟩ := ih (mid + 1) b limit true true d4 (by omega) (by omega) (by omega) p2 hl
  rw [if_neg hlt]
  by_cases ht : b - mid ≥ (b - a) / 8
  ·obtain ⟨_, v1, v2, v3⟩ := ih a mid limit true ap (pdq (ltC c) d4 (mid + 1) b limit true true) (by omega) r1 (by omega) u2 hl
   rw [decide_eq_true ht]
   refine ⟨?_, v2, by omega⟩
   cases ap <;> simp only [cond_true, cond_false, Option.bind_some, e1, e2, e3, e4, e5, Zfl, ZfI, decide_eq_false hlt, decide_eq_true (show (b - a) / 8 ≤ b - mid from ht), u1, after] <;> exact v1
  ·obtain ⟨_, v1, v2, v3⟩ := ih a mid limit false ap (pdq (ltC c) d4 (mid + 1) b limit true true) (by omega) r1 (by omega) u2 hl
   rw [decide_eq_false ht]
   refine ⟨?_, v2, by omega⟩
   cases ap <;> simp only [cond_true, cond_false, Option.bind_some, e1, e2, e3, e4, e5, Zfl, ZfI, decide_eq_false hlt, decide_eq_false (show ¬ (b - a) / 8 ≤ b - mid from ht), u1, after] <;> exact v1
theorem Zd7 {rc : Int → Int → Int → (Int → Int → Option Int) → List Int → Option (List Int)} {k : Nat} (ih : Zlr cmp c P rc k) (a b limit pivot : Nat) (wb wp : Bool) (d : Array Int) (hk : b - a ≤ k + 1) (h1 : a ≤ pivot) (h2 : pivot < b) (hb : b ≤ d.size) (hd : OKA P d) (hl : limit ≤ 1000) :
  Res P (after cmp rc (Zj7 cmp rc (a : Int) (b : Int) (limit : Int) (pivot : Int) wb wp d.toList)) (if (decide (a > 0) && !ltC c d[a - 1]! d[pivot]!) = true then
    match partitionEqual (ltC c) d a b pivot with
    | (mid, d4) => if _h : a < mid ∧ mid ≤ b then pdq (ltC c) d4 mid b limit wb wp else d4
   else
    match partition (ltC c) d a b pivot with
    | (mid, alreadyPartitioned, d4) =>
     if _h : a ≤ mid ∧ mid < b then
      if mid - a < b - mid then pdq (ltC c) (pdq (ltC c) d4 a mid limit true true) (mid + 1) b limit (decide (mid - a ≥ (b - a) / 8)) alreadyPartitioned
      else pdq (ltC c) (pdq (ltC c) d4 (mid + 1) b limit true true) a mid limit (decide (b - mid ≥ (b - a) / 8)) alreadyPartitioned
     else d4) d.size := by
 have hz := hd.sz
 have pa := Zp2 hc hs ih a b limit pivot d hk h1 h2 hb hd hl
 have ip : pivot < d.size := by omega
 unfold Zj7
 by_cases ha : 0 < a
 ·have ia : a - 1 < d.size := by omega
  have e1 : w64 ((a : Int) - 1) = ((a - 1 : Nat) : Int) := Zam (by omega) (by omega)
  have e3 := hc _ _ (hd.el _ ia) (hd.el _ ip)
  simp only [decide_eq_true (show (0 : Int) < (a : Int) by omega), cond_true, e1, Zbr ia, Zbr ip, Option.bind_some, e3]
  by_cases h : c d[a - 1]! d[pivot]! < 0
  ·rw [decide_eq_true h, if_neg (by simp [ltC, h])]
   exact pa
  ·rw [decide_eq_false h, if_pos (by simp [ltC, h, ha])]
   obtain ⟨q1, q2, q3, q4, q5⟩ := Zso hc a b pivot d h1 h2 hb hd
   generalize partitionEqual (ltC c) d a b pivot = q at *
   obtain ⟨mid, d4⟩ := q
   dsimp only at *
   rw [dif_pos ⟨q4, q5⟩]
   obtain ⟨_, v1, v2, v3⟩ := ih mid b limit wb wp d4 (by omega) q5 (by omega) q2 hl
   simp only [cond_false, q1, Option.bind_some, after]
   exact ⟨v1, v2, by omega⟩
 ·rw [if_neg (by simp [ha])]
  simp only [decide_eq_false (show ¬ (0 : Int) < (a : Int) by omega), cond_false]
  exact pa
theorem Zni {rc : Int → Int → Int → (Int → Int → Option Int) → List Int → Option (List Int)} {k : Nat} (ih : Zlr cmp c P rc k) (a b limit : Nat) (wb wp : Bool) (d : Array Int) (hk : b - a ≤ k + 1) (hab : a ≤ b) (hb : b ≤ d.size) (hd : OKA P d) (hl : limit ≤ 1000) :
  Res P (lp (ZI cmp rc) ((a : Int), (b : Int), (limit : Int), wb, wp, d.toList)) (pdq (ltC c) d a b limit wb wp) d.size := by
 have hz := hd.sz
 have e1 : w64 ((b : Int) - (a : Int)) = ((b - a : Nat) : Int) := Zam (by omega) (by omega)
 rw [Zsk, Znw, pdq, e1]
 by_cases h12 : b - a ≤ 12
 ·obtain ⟨q1, q2, q3⟩ := ZuS hc a b d hb hab hd
  rw [decide_eq_true (show ((b - a : Nat) : Int) ≤ 12 by omega), if_pos h12]
  simp only [cond_true, q1, Option.bind_some, after]
  exact ⟨rfl, q2, q3⟩
 rw [decide_eq_false (show ¬ ((b - a : Nat) : Int) ≤ 12 by omega), if_neg h12]
 by_cases h0 : limit = 0
 ·obtain ⟨q1, q2, q3⟩ := Zvo hc a b d hab hb hd
  rw [show ((limit : Int) == 0) = true by simp [h0], if_pos h0]
  simp only [cond_false, cond_true, q1, Option.bind_some, after]
  exact ⟨rfl, q2, q3⟩
 rw [show ((limit : Int) == 0) = false by simpa using (show ¬ (limit : Int) = 0 by omega), if_neg h0]
 have hl2 : ∀ x : Nat, (ZlU Hint.unknown == 2) = false ∧ (ZlU Hint.unknown == 1) = false ∧ (ZlU Hint.increasing == 2) = false ∧ (ZlU Hint.increasing == 1) = true ∧ (ZlU Hint.decreasing == 2) = true := fun _ => ⟨rfl, rfl, rfl, rfl, rfl⟩
 obtain ⟨g1, g2, g3, g4, g5⟩ := hl2 0
 have rp : ∀ p : Nat, a ≤ p → p < b → w64 (w64 ((b : Int) - 1) - w64 ((p : Int) - (a : Int))) = (((b - 1) - (p - a) : Nat) : Int) := fun p h1 h2 => by
  have x1 : w64 ((b : Int) - 1) = ((b - 1 : Nat) : Int) := Zam (by omega) (by omega)
  have x2 : w64 ((p : Int) - (a : Int)) = ((p - a : Nat) : Int) := Zam (by omega) (by omega)
  rw [x1, x2]
  exact Zam (by omega) (by omega)
 cases wb with
 | true =>
  have pv := ZuO hc a b d (by omega) hb hd
  have pr := choosePivot_holds (ltC c) d a b (by omega)
  simp only [cond_false, cond_true, Bool.not_true, Bool.false_eq_true, if_false, Bool.true_and]
  generalize choosePivot (ltC c) d a b = cp at *
  obtain ⟨p, h⟩ := cp
  dsimp only at *
  cases wp with
  | true =>
   simp only [cond_true, pv, Option.bind_some]
   cases h with
   | decreasing =>
    obtain ⟨v1, v2, v3⟩ := ZsZ (P := P) cmp a b d (by omega) hb hd
    obtain ⟨w1, w2, w3⟩ := ZuK hc a b (reverseRange d a b) (by omega) (by omega) v2
    simp only [g5, cond_true, v1, Option.bind_some, w1, if_true, decide_true, Bool.and_self]
    generalize partialInsertionSort (ltC c) (reverseRange d a b) a b = pi at *
    obtain ⟨d3, fin⟩ := pi
    dsimp only at *
    cases fin with
    | true => exact ⟨rfl, w2, w3.trans v3⟩
    | false =>
     rw [rp p pr.1 pr.2]
     have := Zd7 hc hs ih a b limit ((b - 1) - (p - a)) true true d3 hk (by omega) (by omega) (by omega) w2 hl
     rw [show d3.size = d.size by omega] at this
     exact this
   | increasing =>
    obtain ⟨w1, w2, w3⟩ := ZuK hc a b d (by omega) hb hd
    simp only [g3, g4, cond_true, cond_false, w1, Option.bind_some, reduceCtorEq, if_false, if_true, decide_true, Bool.and_self]
    generalize partialInsertionSort (ltC c) d a b = pi at *
    obtain ⟨d3, fin⟩ := pi
    dsimp only at *
    cases fin with
    | true => exact ⟨rfl, w2, w3⟩
    | false =>
     have := Zd7 hc hs ih a b limit p true true d3 hk pr.1 pr.2 (by omega) w2 hl
     rw [show d3.size = d.size by omega] at this
     exact this
   | unknown =>
    simp only [g1, g2, cond_false, reduceCtorEq, if_false, decide_false, Bool.and_false, Bool.false_eq_true]
    exact Zd7 hc hs ih a b limit p true true d hk pr.1 pr.2 hb hd hl
  | false =>
   simp only [cond_false, pv, Option.bind_some, Bool.false_and, Bool.false_eq_true, if_false]
   cases h with
   | decreasing =>
    obtain ⟨v1, v2, v3⟩ := ZsZ (P := P) cmp a b d (by omega) hb hd
    simp only [g5, cond_true, v1, Option.bind_some, if_true]
    rw [rp p pr.1 pr.2]
    have := Zd7 hc hs ih a b limit ((b - 1) - (p - a)) true false (reverseRange d a b) hk (by omega) (by omega) (by omega) v2 hl
    rw [v3] at this
    exact this
   | increasing =>
    simp only [g3, cond_false, reduceCtorEq, if_false]
    exact Zd7 hc hs ih a b limit p true false d hk pr.1 pr.2 hb hd hl
   | unknown =>
    simp only [g1, cond_false, reduceCtorEq, if_false]
    exact Zd7 hc hs ih a b limit p true false d hk pr.1 pr.2 hb hd hl
 | false =>
  obtain ⟨b1, b2, b3⟩ := ZyV (P := P) cmp a b d hab hb hd
  have pv := ZuO hc a b (breakPatterns d a b) (by omega) (by omega) b2
  have pr := choosePivot_holds (ltC c) (breakPatterns d a b) a b (by omega)
  have el : w64 ((limit : Int) - 1) = ((limit - 1 : Nat) : Int) := Zam (by omega) (by omega)
  simp only [cond_false, b1, Option.bind_some, pv, Bool.not_false, if_true, Bool.false_and, Bool.false_eq_true, if_false, el]
  generalize choosePivot (ltC c) (breakPatterns d a b) a b = cp at *
  obtain ⟨p, h⟩ := cp
  dsimp only at *
  cases h with
  | decreasing =>
   obtain ⟨v1, v2, v3⟩ := ZsZ (P := P) cmp a b (breakPatterns d a b) (by omega) (by omega) b2
   simp only [g5, cond_true, v1, Option.bind_some, if_true]
   rw [rp p pr.1 pr.2]
   have := Zd7 hc hs ih a b (limit - 1) ((b - 1) - (p - a)) false wp (reverseRange (breakPatterns d a b) a b) hk (by omega) (by omega) (by omega) v2 (by omega)
   rw [v3, b3] at this
   exact this
  | increasing =>
   simp only [g3, cond_false, reduceCtorEq, if_false]
   have := Zd7 hc hs ih a b (limit - 1) p false wp (breakPatterns d a b) hk pr.1 pr.2 (by omega) b2 (by omega)
   rw [b3] at this
   exact this
  | unknown =>
   simp only [g1, cond_false, reduceCtorEq, if_false]
   have := Zd7 hc hs ih a b (limit - 1) p false wp (breakPatterns d a b) hk pr.1 pr.2 (by omega) b2 (by omega)
   rw [b3] at this
   exact this
theorem Zt0 : ∀ (k m : Nat), k ≤ m → Zlr cmp c P (ZU (m + 1)) k := by
 intro k
 induction k with
 | zero =>
  intro m hm
  have base : ∀ (rc : Int → Int → Int → (Int → Int → Option Int) → List Int → Option (List Int)) (a b limit : Nat) (wb wp : Bool) (d : Array Int), b - a ≤ 0 → a ≤ b → b ≤ d.size → OKA P d → Res P (lp (ZI cmp rc) ((a : Int), (b : Int), (limit : Int), wb, wp, d.toList)) (pdq (ltC c) d a b limit wb wp) d.size := by
   intro rc a b limit wb wp d hk hab hb hd
   have hz := hd.sz
   have e1 : w64 ((b : Int) - (a : Int)) = ((b - a : Nat) : Int) := Zam (by omega) (by omega)
   obtain ⟨q1, q2, q3⟩ := ZuS hc a b d hb hab hd
   rw [Zb9, Znw, pdq, e1, decide_eq_true (show ((b - a : Nat) : Int) ≤ 12 by omega), if_pos (by omega)]
   simp only [cond_true, q1, Option.bind_some]
   exact ⟨rfl, q2, q3⟩
  intro a b limit wb wp d hk hab hb hd hl
  refine ⟨?_, base _ a b limit wb wp d hk hab hb hd⟩
  obtain ⟨r1, r2⟩ := base (ZU m) a b limit true true d hk hab hb hd
  refine ⟨?_, r2⟩
  show Zaj (ZU m) (a : Int) (b : Int) (limit : Int) cmp d.toList = _
  unfold Zaj
  rw [r1]; rfl
 | succ k ih =>
  intro m hm a b limit wb wp d hk hab hb hd hl
  refine ⟨?_, Zni hc hs (ih m (by omega)) a b limit wb wp d hk hab hb hd hl⟩
  obtain ⟨m', rfl⟩ : ∃ m', m = m' + 1 := ⟨m - 1, by omega⟩
  obtain ⟨r1, r2⟩ := Zni hc hs (ih m' (by omega)) a b limit true true d hk hab hb hd hl
  refine ⟨?_, r2⟩
  show Zaj (ZU (m' + 1)) (a : Int) (b : Int) (limit : Int) cmp d.toList = _
  unfold Zaj
  rw [r1]; rfl
theorem ZtO (l : List Int) (hl : l.length ≤ 1000) (hP : ∀ x ∈ l, P x) : Zaz cmp l = some (Sort.sort (ltC c) l.toArray).toList := by
 have hd : OKA P l.toArray := ⟨fun i hi => by
  have hi' : i < l.length := by simpa using hi
  rw [getElem!_pos l.toArray i hi]
  simpa using hP _ (List.getElem_mem hi'), by simpa using hl⟩
 obtain ⟨l1, _, _⟩ := Zs4 hl
 have hbl : bitsLen l.length ≤ 1000 := by
  unfold bitsLen
  split
  ·omega
  ·have : Nat.log2 l.length < 11 := (Nat.log2_lt (by assumption)).2 (by omega)
   omega
 have key : ∀ n, l.length + 1 ≤ n → ZU n 0 (l.length : Int) (bitsLen l.length : Int) cmp l = some (Sort.sort (ltC c) l.toArray).toList := by
  intro n hn
  obtain ⟨m, rfl⟩ : ∃ m, n = m + 1 := ⟨n - 1, by omega⟩
  obtain ⟨⟨r1, _⟩, _⟩ := Zt0 hc hs l.length m (by omega) 0 l.length (bitsLen l.length) true true l.toArray (by omega) (by omega) (by simp) hd hbl
  refine (r1 : ZU (m + 1) 0 (l.length : Int) (bitsLen l.length : Int) cmp l = _).trans ?_
  unfold Sort.sort
  rw [List.size_toArray]
 unfold Zaz Zc9
 rw [l1, Option.bind_some, Zt6 key]
 rfl
theorem ZvK (l : List Int) (hl : l.length ≤ 1000) (hP : ∀ x ∈ l, P x) : ∃ r : List Int, Zaz cmp l = some r ∧ r.Perm l ∧ r.Pairwise (fun x y => ltC c y x = false) := by
 refine ⟨_, ZtO hc hs l hl hP, ?_⟩
 obtain ⟨⟨h1, _, h2⟩, h3⟩ := sort_sorts (ltC c) hs l.toArray
 generalize Sort.sort (ltC c) l.toArray = d at *
 constructor
 ·have e1 : d.extract 0 l.toArray.size = d := by rw [← h1]; simp
  rw [e1] at h2
  simpa using h2
 ·rw [List.pairwise_iff_getElem]
  intro i j hi hj hij
  have hj' : j < d.size := by simpa using hj
  have hi' : i < d.size := by omega
  have := h3 i j (Nat.zero_le _) hij (by omega)
  rw [getElem!_pos d j hj', getElem!_pos d i hi'] at this
  simpa using this
end
end Go.Proofs.YtnmbdjkbaihicaaDoor
namespace Go.Proofs.YtnmbdjkbaihicaaDoor
open Go Go.Proofs.YtnmbdjkbaihicaaDoorE Go.Sort
set_option linter.unusedVariables false
set_option linter.unusedSimpArgs false
def sel {γ : Type} (p : γ → Bool) (g : Nat → γ → Int) : Nat → List γ → List Int
 | _, [] => []
 | i, x :: l => bif p x then g i x :: sel p g (i + 1) l else sel p g (i + 1) l
theorem ZlD {γ : Type} (p : γ → Bool) (g : Nat → γ → Int) : ∀ (l : List γ) (i : Nat), (sel p g i l).length = l.countP p
 | [], _ => rfl
 | x :: l, i => by
  unfold sel
  have ih := ZlD p g l (i + 1)
  cases h : p x with
  | true => simp [ih, h]
  | false => simp [ih, h]
theorem ZnZ {γ : Type} (p : γ → Bool) (g : Nat → γ → Int) (z : Int) : ∀ (l : List γ) (i : Nat), z ∈ sel p g i l ↔ ∃ j x, l[j]? = some x ∧ p x = true ∧ z = g (i + j) x
 | [], i => by simp [sel]
 | x :: l, i => by
  have ih := ZnZ p g z l (i + 1)
  have key : (∃ j y, (x :: l)[j]? = some y ∧ p y = true ∧ z = g (i + j) y) ↔ (p x = true ∧ z = g i x) ∨ ∃ j y, l[j]? = some y ∧ p y = true ∧ z = g (i + 1 + j) y := by
   constructor
   ·rintro ⟨j, y, h1, h2, h3⟩
    cases j with
    | zero => left; simp at h1; subst h1; exact ⟨h2, h3⟩
    | succ j => right; exact ⟨j, y, by simpa using h1, h2, by rw [h3]; congr 1; omega⟩
   ·rintro (⟨h2, h3⟩ | ⟨j, y, h1, h2, h3⟩)
    ·exact ⟨0, x, rfl, h2, h3⟩
    ·exact ⟨j + 1, y, by simpa using h1, h2, by rw [h3]; congr 1; omega⟩
  rw [key]
  unfold sel
  cases h : p x with
  | true => simp [ih]
  | false => simp [ih]
theorem Zn8 {γ : Type} (l : List γ) (hl : l.length ≤ 1000) (p : γ → Bool) (g : Nat → γ → Int) (step : Int × List Int → Option ((Int × List Int) ⊕ List Int))
  (h1 : ∀ i x s, i < l.length → l[i]? = some x → step ((i : Int), s) = (bif p x then (bif Nat.ble (s.length + 1) lim then some (.inl (((i + 1 : Nat) : Int), s ++ [g i x])) else none) else some (.inl (((i + 1 : Nat) : Int), s))))
  (h2 : ∀ s, step ((l.length : Int), s) = some (.inr s)) (s : List Int) (hs : s.length ≤ 1000000) : lp step (0, s) = some (s ++ sel p g 0 l) := by
 have key := ZnT l step (fun i s => ((i : Int), s)) (fun i x s => bif p x then (bif Nat.ble (s.length + 1) lim then some (.inl (s ++ [g i x])) else none) else some (.inl s)) (fun s => some s) (fun i x s hi hx => by
   rw [h1 i x s hi hx]
   cases p x <;> cases Nat.ble (s.length + 1) lim <;> rfl) (fun s => h2 s) s
 refine (key : lp step (0, s) = _).trans ?_
 have : ∀ (l : List γ) (i : Nat) (s : List Int), s.length + l.length ≤ 1001000 → ZkP (fun i x s => bif p x then (bif Nat.ble (s.length + 1) lim then some (Sum.inl (s ++ [g i x])) else (none : Option (List Int ⊕ List Int))) else some (.inl s)) (fun s => some s) i l s = some (s ++ sel p g i l) := by
  intro l
  induction l with
  | nil => intro i s _; simp [ZkP, sel]
  | cons x l ih =>
   intro i s hb
   rw [List.length_cons] at hb
   unfold ZkP sel
   cases p x with
   | true =>
    rw [ZiR (show s.length + 1 ≤ 1073741824 by omega)]
    simp only [cond_true]
    rw [ih (i + 1) (s ++ [g i x]) (by rw [List.length_append, List.length_singleton]; omega)]
    simp
   | false =>
    simp only [cond_false]
    rw [ih (i + 1) s (by omega)]
 exact this l 0 s (by omega)
theorem ZmI (k : Int → Int) : ∀ (l m : List Int), l.Pairwise (fun x y => k x < k y) → m.Pairwise (fun x y => k x < k y) → (∀ z, z ∈ l ↔ z ∈ m) → l = m
 | [], [], _, _, _ => rfl
 | [], y :: m, _, _, h => absurd ((h y).2 (by simp)) (by simp)
 | x :: l, [], _, _, h => absurd ((h x).1 (by simp)) (by simp)
 | x :: l, y :: m, h1, h2, h => by
  rw [List.pairwise_cons] at h1 h2
  have hxy : x = y := by
   rcases List.mem_cons.1 ((h x).1 (by simp)) with e | e
   ·exact e
   ·rcases List.mem_cons.1 ((h y).2 (by simp)) with e2 | e2
    ·exact e2.symm
    ·have := h2.1 _ e
     have := h1.1 _ e2
     omega
  subst hxy
  congr 1
  refine ZmI k l m h1.2 h2.2 fun z => ?_
  constructor
  ·intro hz
   rcases List.mem_cons.1 ((h z).1 (by simp [hz])) with e | e
   ·subst e
    have := h1.1 _ hz
    omega
   ·exact e
  ·intro hz
   rcases List.mem_cons.1 ((h z).2 (by simp [hz])) with e | e
   ·subst e
    have := h2.1 _ hz
    omega
   ·exact e
structure ZtD (d : Zm) : Prop where
 w : ∀ p ∈ d.parts, 1 ≤ p.work ∧ p.work ≤ 100
 e : ∀ x ∈ d.edges, two d.parts.length x.src x.dst = true
 f : ∀ x ∈ d.futures, two d.parts.length x.maker x.user = true ∧ 1 ≤ x.pos ∧ x.pos ≤ Zc7 d.parts x.user - 1
 ne : ∀ (i j : Nat) (x y : Zq), i < j → d.futures[i]? = some x → d.futures[j]? = some y → ¬ (x.user = y.user ∧ x.pos = y.pos)
theorem Zqq {d : Zm} (h : Zcm d = 0) : ZtD d := by
 unfold Zcm at h
 have all : Zjy d = true ∧ Zmv d = true ∧ d.parts.any ZeW = false ∧ Zfq (Ze7 d) 0 d.edges = false ∧ Zfq (ZdC d) 0 d.futures = false := by
  revert h
  cases Zjy d <;> cases Zmv d <;> cases d.parts.any ZeW <;> cases Zfq (Ze7 d) 0 d.edges <;> cases Zfq (ZdC d) 0 d.futures <;> simp
 obtain ⟨_, _, h3, h4, h5⟩ := all
 have he : ∀ (i : Nat) x, d.edges[i]? = some x → Ze7 d i x = false := fun i x hx => by
  cases hb : Ze7 d i x with
  | false => rfl
  | true => rw [(Zhz _ _ 0).2 ⟨i, x, hx, by simpa using hb⟩] at h4; cases h4
 have hf : ∀ (i : Nat) x, d.futures[i]? = some x → ZdC d i x = false := fun i x hx => by
  cases hb : ZdC d i x with
  | false => rfl
  | true => rw [(Zhz _ _ 0).2 ⟨i, x, hx, by simpa using hb⟩] at h5; cases h5
 refine ⟨Zmb h3, fun x hx => ?_, fun x hx => ?_, fun i j x y hij hx hy => ?_⟩
 ·obtain ⟨i, hi⟩ := List.getElem?_of_mem hx
  have := he i x hi
  unfold Ze7 at this
  simp only [Bool.or_eq_false_iff, Bool.not_eq_false'] at this
  exact this.1
 ·obtain ⟨i, hi⟩ := List.getElem?_of_mem hx
  have := hf i x hi
  unfold ZdC ZcC at this
  simp only [Bool.or_eq_false_iff, Bool.not_eq_false', Bool.and_eq_true, decide_eq_true_eq] at this
  exact ⟨this.1, this.2.1.1, this.2.1.2⟩
 ·rintro ⟨h1, h2⟩
  have := hf j y hy
  unfold ZdC at this
  simp only [Bool.or_eq_false_iff] at this
  have h6 := List.any_eq_false.1 this.2.2 x (List.mem_of_getElem? (i := i) (by rw [List.getElem?_take_of_lt hij]; exact hx))
  unfold again at h6
  simp [h1, h2] at h6
theorem Znt {d : Zm} (g : ZtD d) (u : Int) : Zc7 d.parts u ≤ 100 := by
 unfold Zc7
 split
 ·rename_i p hp; exact (g.w p (List.mem_of_getElem? hp)).2
 ·omega
def Zh9 (fs : List Zq) (z : Int) : Int := match fs[z.toNat]? with | some f => f.pos | none => 0
def Zl9 (d : Zm) (u : Int) : List Int := sel (fun f : Zq => f.user == u) (fun i _ => (i : Int)) 0 d.futures
theorem Ziq (d : Zm) (u z : Int) : z ∈ Zl9 d u ↔ ∃ (i : Nat) (f : Zq), d.futures[i]? = some f ∧ f.user = u ∧ z = (i : Int) := by
 unfold Zl9
 rw [ZnZ]
 simp
theorem Zmx (d : Zm) (u : Int) : (Zl9 d u).Pairwise (fun x y => x < y) := by
 have : ∀ (l : List Zq) (i : Nat), (sel (fun f : Zq => f.user == u) (fun i _ => (i : Int)) i l).Pairwise (fun x y => x < y) ∧ ∀ z ∈ sel (fun f : Zq => f.user == u) (fun i _ => (i : Int)) i l, (i : Int) ≤ z := by
  intro l
  induction l with
  | nil => intro i; simp [sel]
  | cons x l ih =>
   intro i
   obtain ⟨h1, h2⟩ := ih (i + 1)
   unfold sel
   cases x.user == u with
   | true =>
    simp only [cond_true, List.pairwise_cons, List.mem_cons]
    refine ⟨⟨fun z hz => ?_, h1⟩, ?_⟩
    ·have := h2 z hz; omega
    ·rintro z (rfl | hz)
     ·exact Int.le_refl _
     ·have := h2 z hz; omega
   | false =>
    simp only [cond_false]
    exact ⟨h1, fun z hz => by have := h2 z hz; omega⟩
 exact (this d.futures 0).1
structure Zcu (d : Zm) (u : Int) (r : List Int) : Prop where
 mem : ∀ z, z ∈ r ↔ ∃ (i : Nat) (f : Zq), d.futures[i]? = some f ∧ f.user = u ∧ z = (i : Int)
 rise : r.Pairwise (fun x y => Zh9 d.futures x < Zh9 d.futures y)
theorem Zcu.eq {d : Zm} {u : Int} {r s : List Int} (h1 : Zcu d u r) (h2 : Zcu d u s) : r = s := ZmI (Zh9 d.futures) r s h1.rise h2.rise fun z => by rw [h1.mem, h2.mem]
theorem Zs5 {l : List Int} {p q : Int → Int → Prop} (h : l.Pairwise p) (hq : ∀ x y, x ∈ l → y ∈ l → p x y → q x y) : l.Pairwise q := by
 rw [List.pairwise_iff_getElem] at h ⊢
 exact fun i j hi hj hij => hq _ _ (List.getElem_mem hi) (List.getElem_mem hj) (h i j hi hj hij)
theorem ZvH {d : Zm} (g : ZtD d) {u x y : Int} (hx : ∃ (i : Nat) (f : Zq), d.futures[i]? = some f ∧ f.user = u ∧ x = (i : Int)) (hy : ∃ (i : Nat) (f : Zq), d.futures[i]? = some f ∧ f.user = u ∧ y = (i : Int)) (hne : x ≠ y) : Zh9 d.futures x ≠ Zh9 d.futures y := by
 obtain ⟨i, f, h1, h2, rfl⟩ := hx
 obtain ⟨j, e, h3, h4, rfl⟩ := hy
 intro he
 unfold Zh9 at he
 rw [Int.toNat_natCast, Int.toNat_natCast, h1, h3] at he
 simp only at he
 rcases Nat.lt_trichotomy i j with h | h | h
 ·exact g.ne i j f e h h1 h3 ⟨h2.trans h4.symm, he⟩
 ·exact hne (by rw [h])
 ·exact g.ne j i e f h h3 h1 ⟨h4.trans h2.symm, he.symm⟩
theorem Zq0 {d : Zm} (g : ZtD d) : ZoE (fun z0 z1 => Zp z0 z1 d.futures) (fun x y => Zh9 d.futures x - Zh9 d.futures y) (fun z => 0 ≤ z ∧ z.toNat < d.futures.length) := by
 intro x y hx hy
 have b : ∀ z : Int, z.toNat < d.futures.length → ∃ f, d.futures[z.toNat]? = some f ∧ Zh9 d.futures z = f.pos ∧ 1 ≤ f.pos ∧ f.pos ≤ 100 := fun z hz => by
  have hm := List.getElem_mem hz
  have := g.f _ hm
  have hw := Znt g d.futures[z.toNat].user
  exact ⟨d.futures[z.toNat], List.getElem?_eq_getElem hz, by unfold Zh9; rw [List.getElem?_eq_getElem hz], this.2.1, by omega⟩
 obtain ⟨f, f1, f2, f3, f4⟩ := b x hx.2
 obtain ⟨e, e1, e2, e3, e4⟩ := b y hy.2
 show Zp x y d.futures = some (Zh9 d.futures x - Zh9 d.futures y)
 unfold Zp
 rw [ZpN hx.1 f1, ZpN hy.1 e1]
 simp only [Option.bind_some]
 rw [f2, e2, Zeu (by omega) (by omega)]
theorem ZtT (k : Int → Int) : SWO (ltC fun x y => k x - k y) := by
 refine ⟨fun x => ?_, fun x y z h1 h2 => ?_, fun x y z h1 h2 => ?_⟩
 ·show decide (k x - k x < 0) = false
  exact decide_eq_false (by omega)
 ·simp only [ltC, decide_eq_true_eq] at *
  omega
 ·simp only [ltC, decide_eq_false_iff_not] at *
  omega
theorem Znm (d : Zm) (h : Zf9 d) (hf : d.futures.length ≤ 1000) (hc : Zcm d = 0) (u : Int) : ∃ r, Zew d u = some r ∧ Zcu d u r := by
 have g := Zqq hc
 have key := Zn8 d.futures hf (fun f : Zq => f.user == u) (fun i _ => (i : Int)) (ZcT d u) (fun i x s hi hx => by
   simp only [ZcT, ZeK hi, ZaZ hx, Option.bind_some, Z2 hi h.f, cond_true]) (fun s => by simp only [ZcT, ZeL]; rfl) [] (by simp)
 have hP : ∀ x ∈ Zl9 d u, 0 ≤ x ∧ x.toNat < d.futures.length := fun x hx => by
  obtain ⟨i, f, h1, h2, rfl⟩ := (Ziq d u x).1 hx
  have := (List.getElem?_eq_some_iff.1 h1).1
  exact ⟨by omega, by simpa using this⟩
 have hlen : (Zl9 d u).length ≤ 1000 := by
  unfold Zl9
  rw [ZlD]
  exact Nat.le_trans List.countP_le_length hf
 obtain ⟨r, h1, h2, h3⟩ := ZvK (Zq0 g) (ZtT _) (Zl9 d u) hlen hP
 refine ⟨r, ?_, ?_, ?_⟩
 ·unfold Zew
  rw [ZlA d h, hc]
  simp only [Option.bind_some, bne_self_eq_false, cond_false]
  rw [key, List.nil_append, Option.bind_some]
  show (Zaz (fun z0 z1 => Zp z0 z1 d.futures) (Zl9 d u)).bind _ = _
  rw [h1]
  rfl
 ·exact fun z => by rw [h2.mem_iff, Ziq]
 ·have nd : r.Pairwise (fun x y => x ≠ y) := (h2.pairwise_iff (fun h => Ne.symm h)).2 ((Zmx d u).imp fun h => by omega)
  refine Zs5 (h3.and nd) fun x y hx hy hp => ?_
  have a := (Ziq d u x).1 (h2.mem_iff.1 hx)
  have b := (Ziq d u y).1 (h2.mem_iff.1 hy)
  have h4 := ZvH g a b hp.2
  have h5 := hp.1
  simp only [ltC, decide_eq_false_iff_not] at h5
  omega
def ZhP (fs : List Zq) (z : Int) : Int := match fs[z.toNat]? with | some f => f.maker | none => 0
def ZoK (d : Zm) (u : Int) (r : List Int) : List Int := sel (fun e : ZJ => e.dst == u) (fun _ e => e.src) 0 d.edges ++ r.map (ZhP d.futures)
theorem Zn3 {γ : Type} (k : γ → Int) : ∀ (l : List γ) (i : Nat), sel (fun _ => true) (fun _ x => k x) i l = l.map k
 | [], _ => rfl
 | x :: l, i => by unfold sel; rw [Zn3 k l]; rfl
theorem ZpA (d : Zm) (r s : List Int) (hr : r.length ≤ 1000) (hs : s.length ≤ 1000000) (hP : ∀ x ∈ r, 0 ≤ x ∧ x.toNat < d.futures.length) (step : Int × List Int → Option ((Int × List Int) ⊕ List Int))
  (hstep : ∀ t, step t = (bif (decide (t.1 < (r.length : Int))) then (ZA r t.1).bind fun x6 => (ZA d.futures x6).bind fun x7 => bif (Nat.ble (List.length t.2 + 1) lim) then some (.inl ((w64 (t.1 + 1)), (t.2 ++ [x7.maker]))) else none else some (.inr t.2))) :
  lp step (0, s) = some (s ++ r.map (ZhP d.futures)) := by
 rw [← Zn3 (ZhP d.futures) r 0]
 refine Zn8 r hr (fun _ => true) (fun _ x => ZhP d.futures x) step (fun i x s hi hx => ?_) (fun s => ?_) s hs
 ·obtain ⟨p1, p2⟩ := hP x (List.mem_of_getElem? hx)
  rw [hstep]
  have hm : ZhP d.futures x = d.futures[x.toNat].maker := by unfold ZhP; rw [List.getElem?_eq_getElem p2]
  simp only [ZeK hi, ZaZ hx, Option.bind_some, Z2 hi (show r.length < 9223372036854775808 by omega), cond_true, ZiY p1 p2, hm]
 ·rw [hstep]
  simp only [ZeL, cond_false]
theorem ZsD {d : Zm} {u : Int} {r : List Int} (h : Zcu d u r) : ∀ x ∈ r, 0 ≤ x ∧ x.toNat < d.futures.length := fun x hx => by
 obtain ⟨i, f, h1, h2, rfl⟩ := (h.mem x).1 hx
 have := (List.getElem?_eq_some_iff.1 h1).1
 exact ⟨by omega, by simpa using this⟩
theorem ZqZ {d : Zm} {u : Int} {r : List Int} (h : Zcu d u r) : r.length = (Zl9 d u).length := by
 have nd1 : r.Nodup := h.rise.imp fun hp he => by rw [he] at hp; omega
 have nd2 : (Zl9 d u).Nodup := (Zmx d u).imp fun hp he => by omega
 exact ((List.perm_ext_iff_of_nodup nd1 nd2).2 fun z => by rw [h.mem, Ziq]).length_eq
theorem Zk3 {d : Zm} {u : Int} {r : List Int} (h : Zcu d u r) : r.length ≤ d.futures.length := by
 rw [ZqZ h]
 unfold Zl9
 rw [ZlD]
 exact List.countP_le_length
theorem Zrl (d : Zm) (he : d.edges.length ≤ 1000) (u : Int) (step : Int × List Int → Option ((Int × List Int) ⊕ List Int))
  (hstep : ∀ t, step t = (bif (decide (t.1 < (d.edges.length : Int))) then (ZA d.edges t.1).bind fun x2 => bif (x2.dst == u) then bif (Nat.ble (List.length t.2 + 1) lim) then some (.inl ((w64 (t.1 + 1)), (t.2 ++ [x2.src]))) else none else some (.inl ((w64 (t.1 + 1)), t.2)) else some (.inr t.2))) :
  lp step (0, []) = some (sel (fun e : ZJ => e.dst == u) (fun _ e => e.src) 0 d.edges) := by
 have key := Zn8 d.edges he (fun e : ZJ => e.dst == u) (fun _ e => e.src) step (fun i x s hi hx => by
   rw [hstep]
   simp only [ZeK hi, ZaZ hx, Option.bind_some, Z2 hi (show d.edges.length < 9223372036854775808 by omega), cond_true]) (fun s => by rw [hstep]; simp only [ZeL, cond_false]) [] (by simp)
 rwa [List.nil_append] at key
theorem Zm3 {γ : Type} (p : γ → Bool) (g : Nat → γ → Int) (l : List γ) (i : Nat) : (sel p g i l).length ≤ l.length := by rw [ZlD]; exact List.countP_le_length
theorem Zuw (d : Zm) (h : Zf9 d) (he : d.edges.length ≤ 1000) (hf : d.futures.length ≤ 1000) (hc : Zcm d = 0) (u : Int) {r : List Int} (hr : Zcu d u r) : ZeE d u = some (ZoK d u r) := by
 obtain ⟨r', h1, h2⟩ := Znm d h hf hc u
 have := h2.eq hr
 subst this
 have k1 := Zrl d he u (ZeT d u) (fun t => rfl)
 have k2 := ZpA d r' (sel (fun e : ZJ => e.dst == u) (fun _ e => e.src) 0 d.edges) (Nat.le_trans (Zk3 h2) hf) (Nat.le_trans (Zm3 _ _ _ _) (by omega)) (ZsD h2) (ZeV d r') (fun t => rfl)
 unfold ZeE ZoK
 rw [ZlA d h, hc]
 simp only [Option.bind_some, bne_self_eq_false, cond_false, k1, h1, k2]
end Go.Proofs.YtnmbdjkbaihicaaDoor
namespace Go.Proofs.YtnmbdjkbaihicaaDoor
open Go Go.Proofs.YtnmbdjkbaihicaaDoorE
set_option linter.unusedVariables false
set_option linter.unusedSimpArgs false
def u32 (n : Int) : Int := n % 4294967296
theorem Zl1 (n : Int) : 0 ≤ u32 n ∧ u32 n < 4294967296 := by unfold u32; omega
theorem ZmP (n : Int) : IntKind.u32.wrap n = u32 n := by
 unfold IntKind.wrap u32
 rfl
theorem Zi5 (n : Int) : ZcA n = some (u32 n) := by
 unfold ZcA
 rw [ZmP]
def Zh5 (op : Int) (out v : Int) : Int := if op = 2 then u32 (out + v) else if op = 3 then u32 (out * v) else if op = 4 then (bif decide (out < v) then v else out) else u32 (u32 (out * 31) + v)
theorem ZoJ {op out v : Int} (h : 0 ≤ out ∧ out < 4294967296) (hv : 0 ≤ v ∧ v < 4294967296) : 0 ≤ Zh5 op out v ∧ Zh5 op out v < 4294967296 := by
 unfold Zh5
 split
 ·exact Zl1 _
 split
 ·exact Zl1 _
 split
 ·cases decide (out < v) <;> simp [h, hv]
 ·exact Zl1 _
def ZkE (op : Int) : Int → List Int → Int
 | out, [] => out
 | out, v :: l => ZkE op (Zh5 op out (u32 v)) l
theorem Ziv (op : Int) : ∀ (l : List Int) (out : Int), 0 ≤ out ∧ out < 4294967296 → 0 ≤ ZkE op out l ∧ ZkE op out l < 4294967296
 | [], out, h => h
 | v :: l, out, h => Ziv op l _ (ZoJ h (Zl1 v))
theorem Zlv (op : Int) (l : List Int) (step : Int × Int → Option ((Int × Int) ⊕ Int))
  (h1 : ∀ (i : Nat) (x out : Int), i < l.length → l[i]? = some x → 0 ≤ out ∧ out < 4294967296 → step (out, (i : Int)) = some (.inl (Zh5 op out (u32 x), ((i + 1 : Nat) : Int))))
  (h2 : ∀ out, step (out, (l.length : Int)) = some (.inr out)) (out : Int) (ho : 0 ≤ out ∧ out < 4294967296) : lp step (out, 0) = some (ZkE op out l) := by
 have key : ∀ k i : Nat, i + k = l.length → ∀ out, 0 ≤ out ∧ out < 4294967296 → lp step (out, (i : Int)) = some (ZkE op out (l.drop i)) := by
  intro k
  induction k with
  | zero =>
   intro i hi out ho
   have : i = l.length := by omega
   subst this
   rw [Zb9, h2, List.drop_length]
   rfl
  | succ k ih =>
   intro i hi out ho
   have hi' : i < l.length := by omega
   rw [Zb9, h1 i l[i] out hi' (List.getElem?_eq_getElem hi') ho, List.drop_eq_getElem_cons hi']
   exact ih (i + 1) (by omega) _ (ZoJ ho (Zl1 _))
 have := key l.length 0 (by omega) out ho
 rwa [List.drop_zero] at this
theorem ZtQ (a b : Int) : ZeP a b = some (Zh5 2 a b) := by unfold ZeP; rw [ZmP]; rfl
theorem Zuv (a b : Int) : ZeM a b = some (Zh5 3 a b) := by unfold ZeM; rw [ZmP]; rfl
theorem ZtM (a b : Int) : ZeN a b = some (Zh5 4 a b) := by unfold ZeN; rfl
theorem Zuc (a b : Int) : ZeR a b = some (Zh5 5 a b) := by unfold ZeR; rw [ZmP, ZmP]; rfl
def places (l : List Int) (k : Nat) : List (Int × Int) := (List.range k).map fun i : Nat => ((i : Int), (l[i]?).getD 0)
theorem Zld (l : List Int) (k : Nat) : places l (k + 1) = places l k ++ [((k : Int), (l[k]?).getD 0)] := by simp [places, List.range_succ]
theorem Zmj {K W : Type} (eq : K → K → Bool) (k : K) (v : W) : ∀ l : List (K × W), (∀ q ∈ l, eq k q.1 = false) → ZkZ eq l k v = l ++ [(k, v)]
 | [], _ => rfl
 | (a, u) :: r, h => by
  unfold ZkZ
  rw [h (a, u) (by simp)]
  simp only [cond_false, List.cons_append]
  rw [Zmj eq k v r fun q hq => h q (by simp [hq])]
theorem Zlg {K W : Type} (eq : K → K → Bool) (k : K) (z : W) : ∀ l : List (K × W), (∀ q ∈ l, eq k q.1 = false) → Zfw eq l k z = z
 | [], _ => rfl
 | (a, u) :: r, h => by
  unfold Zfw
  rw [h (a, u) (by simp)]
  exact Zlg eq k z r fun q hq => h q (by simp [hq])
theorem Zjo {K W : Type} (eq : K → K → Bool) (k : K) (z : W) (m : List (K × W)) : ∀ l : List (K × W), (∀ q ∈ l, eq k q.1 = false) → Zfw eq (l ++ m) k z = Zfw eq m k z
 | [], _ => rfl
 | (a, u) :: r, h => by
  rw [List.cons_append]
  conv => lhs; unfold Zfw
  rw [h (a, u) (by simp)]
  exact Zjo eq k z m r fun q hq => h q (by simp [hq])
theorem Zj5 {K W : Type} (eq : K → K → Bool) (k : K) (z : W) (m : List (K × W)) : ∀ l : List (K × W), (∃ q ∈ l, eq k q.1 = true) → Zfw eq (l ++ m) k z = Zfw eq l k z
 | [], h => by obtain ⟨q, hq, _⟩ := h; simp at hq
 | (a, u) :: r, h => by
  rw [List.cons_append]
  unfold Zfw
  cases hb : eq k a with
  | true => rfl
  | false =>
   simp only [cond_false]
   refine Zj5 eq k z m r ?_
   obtain ⟨q, hq, hk⟩ := h
   rcases List.mem_cons.1 hq with rfl | hq
   ·rw [hb] at hk; cases hk
   ·exact ⟨q, hq, hk⟩
abbrev eqI : Int → Int → Bool := fun ka kb : Int => (ka == kb)
theorem ZkD (l : List Int) (k : Nat) (j : Int) (hj : j < 0 ∨ (k : Int) ≤ j) : ∀ q ∈ places l k, eqI j q.1 = false := by
 intro q hq
 simp only [places, List.mem_map, List.mem_range] at hq
 obtain ⟨i, hi, rfl⟩ := hq
 show (j == (i : Int)) = false
 simp; omega
theorem Zmf (l : List Int) : ∀ (k : Nat) (j : Nat), j < k → Zfw eqI (places l k) (j : Int) 0 = (l[j]?).getD 0
 | k + 1, j, h => by
  rw [Zld]
  by_cases hk : j = k
  ·subst hk
   rw [Zjo eqI _ _ _ _ (ZkD l j j (.inr (by omega)))]
   show (bif ((j : Int) == (j : Int)) then _ else _) = _
   rw [beq_self_eq_true]; rfl
  ·rw [Zj5 eqI _ _ _ _ ⟨((j : Int), (l[j]?).getD 0), by simp only [places, List.mem_map, List.mem_range]; exact ⟨j, by omega, rfl⟩, by simp [eqI]⟩]
   exact Zmf l k j (by omega)
theorem Zux (l : List Int) (hl : l.length ≤ 1000) : lp (Zd5 l) (0, ([] : List (Int × Int))) = some (places l l.length) := by
 have key : ∀ k i : Nat, i + k = l.length → lp (Zd5 l) ((i : Int), places l i) = some (places l l.length) := by
  intro k
  induction k with
  | zero =>
   intro i hi
   have : i = l.length := by omega
   subst this
   rw [Zb9]
   simp only [Zd5, ZeL, cond_false]
  | succ k ih =>
   intro i hi
   have hi' : i < l.length := by omega
   have hx : l[i]? = some l[i] := List.getElem?_eq_getElem hi'
   have e := Zmj eqI (i : Int) l[i] (places l i) (ZkD l i i (.inr (by omega)))
   have ih' := ih (i + 1) (by omega)
   rw [Zld, hx] at ih'
   rw [Zb9]
   simp only [Zd5, ZeK hi', ZaZ hx, Option.bind_some, cond_true, Z2 hi' (show l.length < 9223372036854775808 by omega), e]
   exact ih'
 exact key l.length 0 (by omega)
def opV (p : ZK) (input vals : List Int) : Int :=
 if p.op = 0 then (if p.arg < 0 ∨ (input.length : Int) ≤ p.arg then 0 else u32 ((input[p.arg.toNat]?).getD 0)) else
 if p.op = 1 then u32 p.arg else if p.op < 0 ∨ 5 < p.op then 0 else ZkE p.op (if p.op = 3 then 1 else if p.op = 5 then 7 else 0) vals
theorem ZsR (p : ZK) (input vals : List Int) (h1 : input.length ≤ 1000) (h2 : vals.length ≤ 1000) : ZhE p input vals = some (opV p input vals) := by
 have hl : vals.length < 9223372036854775808 := by omega
 have fin : ∀ x : Int, 0 ≤ x ∧ x < 4294967296 → (some x).bind (fun r => some (w64 r)) = some x := fun x h => by
  show some (w64 x) = some x
  rw [Zeu (by omega) (by omega)]
 unfold ZhE opV
 by_cases c0 : p.op = 0
 ·rw [c0, beq_self_eq_true, if_pos rfl]
  simp only [cond_true]
  rw [Zux input h1]
  simp only [Option.bind_some, Zi5]
  by_cases c : p.arg < 0 ∨ (input.length : Int) ≤ p.arg
  ·rw [if_pos c, Zlg eqI _ _ _ (ZkD input input.length p.arg c)]
   rfl
  ·rw [if_neg c]
   obtain ⟨j, hj⟩ : ∃ j : Nat, p.arg = (j : Int) := ⟨p.arg.toNat, by omega⟩
   rw [hj, Zmf input input.length j (by omega), Int.toNat_natCast]
   exact fin _ (Zl1 _)
 rw [show (p.op == 0) = false by simpa using c0, if_neg c0]
 by_cases c1 : p.op = 1
 ·rw [c1, if_pos rfl]
  simp only [cond_false, beq_self_eq_true, cond_true, Zi5]
  exact fin _ (Zl1 _)
 rw [show (p.op == 1) = false by simpa using c1, if_neg c1]
 simp only [cond_false]
 by_cases c2 : p.op < 0
 ·rw [decide_eq_true c2, if_pos (.inl c2)]; rfl
 by_cases c3 : 5 < p.op
 ·rw [decide_eq_false c2, decide_eq_true c3, if_pos (.inr c3)]; rfl
 rw [decide_eq_false c2, decide_eq_false c3, if_neg (by omega), Zeu (by omega) (by omega), decide_eq_true (show 0 ≤ p.op - 2 by omega), decide_eq_true (show p.op - 2 < 4 by omega)]
 have hw : ZgT = some () := rfl
 simp only [cond_false, hw, Option.bind_some, Bool.and_self, cond_true]
 have h4 : p.op = 2 ∨ p.op = 3 ∨ p.op = 4 ∨ p.op = 5 := by omega
 rcases h4 with h | h | h | h <;> rw [h]
 ·have := Zlv 2 vals (Zd4 vals) (fun i x out hi hx ho => by
   simp only [Zd4, ZeK hi, ZaZ hx, Option.bind_some, cond_true, Z2 hi hl, Zi5, ZtQ]) (fun out => by simp only [Zd4, ZeL]; rfl) 0 (by omega)
  show (lp (Zd4 vals) (0, 0)).bind _ = _
  rw [this]
  exact fin _ (Ziv _ _ _ (by omega))
 ·have := Zlv 3 vals (Zdr vals) (fun i x out hi hx ho => by
   simp only [Zdr, ZeK hi, ZaZ hx, Option.bind_some, cond_true, Z2 hi hl, Zi5, Zuv]) (fun out => by simp only [Zdr, ZeL]; rfl) 1 (by omega)
  show (lp (Zdr vals) (1, 0)).bind _ = _
  rw [this]
  exact fin _ (Ziv _ _ _ (by omega))
 ·have := Zlv 4 vals (Zdm vals) (fun i x out hi hx ho => by
   simp only [Zdm, ZeK hi, ZaZ hx, Option.bind_some, cond_true, Z2 hi hl, Zi5, ZtM]) (fun out => by simp only [Zdm, ZeL]; rfl) 0 (by omega)
  show (lp (Zdm vals) (0, 0)).bind _ = _
  rw [this]
  exact fin _ (Ziv _ _ _ (by omega))
 ·have := Zlv 5 vals (Zdq vals) (fun i x out hi hx ho => by
   simp only [Zdq, ZeK hi, ZaZ hx, Option.bind_some, cond_true, Z2 hi hl, Zi5, Zuc]) (fun out => by simp only [Zdq, ZeL]; rfl) 7 (by omega)
  show (lp (Zdq vals) (7, 0)).bind _ = _
  rw [this]
  exact fin _ (Ziv _ _ _ (by omega))
end Go.Proofs.YtnmbdjkbaihicaaDoor
namespace Go.Proofs.YtnmbdjkbaihicaaDoor
open Go Go.Proofs.YtnmbdjkbaihicaaDoorE
set_option linter.unusedVariables false
set_option linter.unusedSimpArgs false
structure Zem (d : Zm) : Prop where
 g : ZtD d
 ins : ∀ b ∈ d.barriers, ∀ q ∈ b.ins, 0 ≤ q ∧ q.toNat < d.parts.length
 outs : ∀ b ∈ d.barriers, ∀ q ∈ b.outs, 0 ≤ q ∧ q.toNat < d.parts.length
 disj : ∀ b ∈ d.barriers, ∀ q ∈ b.ins, q ∉ b.outs
 pl : d.parts.length ≤ 16
 el : d.edges.length ≤ 48
 fl : d.futures.length ≤ 16
 bl : d.barriers.length ≤ 4
 p1 : 1 ≤ d.parts.length
 arg : ∀ p ∈ d.parts, 0 ≤ p.arg ∧ p.arg ≤ 2147483647
theorem Zsj {n : Nat} {l : List Int} (h : Zjt n l = true) : ∀ q ∈ l, 0 ≤ q ∧ q.toNat < n := by
 intro q hq
 unfold Zjt at h
 simp only [Bool.and_eq_true, Bool.not_eq_true'] at h
 obtain ⟨i, hi⟩ := List.getElem?_of_mem hq
 have : Zne n l i q = false := by
  cases hb : Zne n l i q with
  | false => rfl
  | true => rw [(Zhz _ _ 0).2 ⟨i, q, hi, by simpa using hb⟩] at h; exact absurd h.1 (by simp)
 unfold Zne ZcC at this
 simp only [Bool.or_eq_false_iff, Bool.not_eq_false', Bool.and_eq_true, decide_eq_true_eq] at this
 omega
theorem Zf2 {d : Zm} (h : Zcm d = 0) : Zem d := by
 have g := Zqq h
 unfold Zcm at h
 have all : Zjy d = true ∧ d.barriers.any (Zet d.parts.length) = false ∧ d.parts.any ZeW = false := by
  revert h
  cases Zjy d <;> cases Zmv d <;> cases d.parts.any ZeW <;> cases Zfq (Ze7 d) 0 d.edges <;> cases Zfq (ZdC d) 0 d.futures <;> cases d.barriers.any (Zet d.parts.length) <;> simp
 have hb : ∀ b ∈ d.barriers, Zjt d.parts.length b.ins = true ∧ Zjt d.parts.length b.outs = true ∧ b.ins.any (ZmR b) = false := fun b hb => by
  have := List.any_eq_false.1 all.2.1 b hb
  simp only [Zet, Bool.or_eq_true, Bool.not_eq_true', not_or, Bool.not_eq_false, Bool.not_eq_true] at this
  exact this
 have m := all.1
 unfold Zjy ZcC at m
 simp only [Bool.and_eq_true, decide_eq_true_eq, Bool.not_eq_true', decide_eq_false_iff_not] at m
 refine ⟨g, fun b h1 => Zsj (hb b h1).1, fun b h1 => Zsj (hb b h1).2.1, fun b h1 q h2 h3 => ?_, by omega, by omega, by omega, by omega, by omega, fun p hp => ?_⟩
 case refine_2 =>
  have := List.any_eq_false.1 all.2.2 p hp
  simp only [ZeW, ZcC, Bool.not_eq_true, Bool.not_eq_false', Bool.and_eq_true, decide_eq_true_eq] at this
  exact this.2.1
 have := List.any_eq_false.1 (hb b h1).2.2 q h2
 unfold ZmR at this
 exact this (List.any_eq_true.2 ⟨q, h3, by simp⟩)
def inR (d : Zm) (p : Int) : Prop := 0 ≤ p ∧ p.toNat < d.parts.length
theorem Zem.src {d : Zm} (g : Zem d) {e : ZJ} (h : e ∈ d.edges) : inR d e.src := (ZlK (g.g.e e h)).1
theorem Zem.dst {d : Zm} (g : Zem d) {e : ZJ} (h : e ∈ d.edges) : inR d e.dst := (ZlK (g.g.e e h)).2.1
theorem Zem.maker {d : Zm} (g : Zem d) {f : Zq} (h : f ∈ d.futures) : inR d f.maker := (ZlK (g.g.f f h).1).1
theorem Zem.user {d : Zm} (g : Zem d) {f : Zq} (h : f ∈ d.futures) : inR d f.user := (ZlK (g.g.f f h).1).2.1
theorem Zem.short {d : Zm} (g : Zem d) (hs : ∀ b ∈ d.barriers, Zna b) : Zf9 d := ⟨by have := g.pl; omega, by have := g.el; omega, by have := g.fl; omega, by have := g.bl; omega, hs⟩
def wk (s : Zr) (p : Int) : Int := match s.work[p.toNat]? with | some x => x | none => 0
def vl (s : Zr) (p : Int) : Int := match s.vals[p.toNat]? with | some x => x | none => 0
def Zdd (d : Zm) (s : Zr) (p : Int) : Bool := wk s p == Zc7 d.parts p
structure OKS (d : Zm) (s : Zr) : Prop where
 w : s.work.length = d.parts.length
 v : s.vals.length = d.parts.length
theorem Zix {d : Zm} {s : Zr} (o : OKS d s) {p : Int} (h : inR d p) : ZA s.work p = some (wk s p) := by
 have hl : p.toNat < s.work.length := by rw [o.w]; exact h.2
 unfold wk
 rw [List.getElem?_eq_getElem hl]
 exact ZiY h.1 hl
theorem Zsq {d : Zm} {s : Zr} (o : OKS d s) {p : Int} (h : inR d p) : ZA s.vals p = some (vl s p) := by
 have hl : p.toNat < s.vals.length := by rw [o.v]; exact h.2
 unfold vl
 rw [List.getElem?_eq_getElem hl]
 exact ZiY h.1 hl
theorem ZiB {d : Zm} {p : Int} (h : inR d p) : ∃ x, ZA d.parts p = some x ∧ d.parts[p.toNat]? = some x ∧ x.work = Zc7 d.parts p := by
 obtain ⟨h0, hl⟩ := h
 refine ⟨d.parts[p.toNat]'hl, ZiY h0 hl, List.getElem?_eq_getElem hl, ?_⟩
 unfold Zc7
 rw [List.getElem?_eq_getElem hl]
theorem ZjH {d : Zm} {s : Zr} (o : OKS d s) {p : Int} (h : inR d p) : Za4 d s p = some (Zdd d s p) := by
 obtain ⟨x, h1, _, h3⟩ := ZiB h
 unfold Za4 Zdd
 rw [Zix o h, h1]
 simp only [Option.bind_some]
 rw [h3]
 cases (wk s p == Zc7 d.parts p) <;> rfl
def ZnH (d : Zm) (s : Zr) (p : Int) (e : ZJ) : Bool := (e.dst == p) && !Zdd d s e.src
def ZkS (d : Zm) (s : Zr) (p : Int) (b : Zi) : Bool := (b.outs.any fun x => p == x) && b.ins.any fun q => !Zdd d s q
def ZgM (d : Zm) (s : Zr) (p : Int) : Bool := !(d.edges.any (ZnH d s p)) && !(d.barriers.any (ZkS d s p))
theorem Zpa {d : Zm} {s : Zr} (g : Zem d) (hs : ∀ b ∈ d.barriers, Zna b) (o : OKS d s) (p : Int) : ZdD d s p = some (ZgM d s p) := by
 have sh := g.short hs
 have k1 := ZeU d.edges (Zcx d s p) (fun _ => ZnH d s p) (fun _ _ => .inl ()) (.inr ()) (fun i x hi hx => by
  simp only [Zcx, ZeK hi, ZaZ hx, Option.bind_some, Z2 hi sh.e, cond_true, ZnH, ZjH o (g.src (List.mem_of_getElem? hx))]
  cases (x.dst == p) <;> cases Zdd d s x.src <;> rfl) (by simp only [Zcx, ZeL]; rfl)
 have k3 : ∀ b ∈ d.barriers, lp (Zb0 d s b) 0 = some (bif b.ins.any (fun q => !Zdd d s q) then .inl () else .inr ()) := fun b hb => by
  have := ZeU b.ins (Zb0 d s b) (fun _ q => !Zdd d s q) (fun _ _ => .inl ()) (.inr ()) (fun i x hi hx => by
   simp only [Zb0, ZeK hi, ZaZ hx, Option.bind_some, Z2 hi (hs b hb).1, cond_true, ZjH o (g.ins b hb x (List.mem_of_getElem? hx))]
   cases Zdd d s x <;> rfl) (by simp only [Zb0, ZeL]; rfl)
  rw [this, Zdv, Zhu]
 have k2 := ZeU d.barriers (Zct d s p) (fun _ => ZkS d s p) (fun _ _ => .inl ()) (.inr ()) (fun i x hi hx => by
  have hb := List.mem_of_getElem? hx
  simp only [Zct, ZeK hi, ZaZ hx, Option.bind_some, Z2 hi sh.b, cond_true, ZkS, Zov _ _ (hs x hb).2, k3 x hb]
  cases (x.outs.any fun y => p == y) <;> cases (x.ins.any fun q => !Zdd d s q) <;> rfl) (by simp only [Zct, ZeL]; rfl)
 unfold ZdD ZgM
 rw [k1, Zdv, Zhu]
 cases d.edges.any (ZnH d s p) with
 | true => rfl
 | false =>
  simp only [cond_false, Option.bind_some]
  rw [k2, Zdv, Zhu]
  cases d.barriers.any (ZkS d s p) <;> rfl
theorem Znv {γ R : Type} (q : γ → Bool) (f : γ → R) (fin : R) : ∀ (l : List γ) (i : Nat), ZmA (fun _ => q) (fun _ x => f x) fin i l = (match l.find? q with | some x => f x | none => fin)
 | [], _ => rfl
 | x :: l, i => by
  unfold ZmA
  rw [List.find?_cons]
  cases q x with
  | true => rfl
  | false => exact Znv q f fin l (i + 1)
def Zlc (s : Zr) (p : Int) (f : Zq) : Bool := (f.user == p) && (f.pos == wk s p)
def ZrY (d : Zm) (s : Zr) (p : Int) : Bool := match d.futures.find? (Zlc s p) with | some f => Zdd d s f.maker | none => true
def ZmC (d : Zm) (s : Zr) (p : Int) : Bool := !Zdd d s p && ((!(wk s p == 0) || ZgM d s p) && ZrY d s p)
theorem ZnO {d : Zm} {s : Zr} (g : Zem d) (o : OKS d s) {p : Int} (hp : inR d p) (step : Int → Option (Int ⊕ (Unit ⊕ Unit))) (hstep : step = Zcw d s p) :
  ((lp step 0).bind fun r => match r with | .inl _ => some true | .inr _ => some false) = some (ZrY d s p) := by
 subst hstep
 have k := ZeU d.futures (Zcw d s p) (fun _ => Zlc s p) (fun _ f => bif Zdd d s f.maker then (.inl () : Unit ⊕ Unit) else .inr ()) (.inl ()) (fun i x hi hx => by
  simp only [Zcw, ZeK hi, ZaZ hx, Option.bind_some, Z2 hi (show d.futures.length < 9223372036854775808 by have := g.fl; omega), cond_true, Zlc, Zix o hp, ZjH o (g.maker (List.mem_of_getElem? hx))]
  cases (x.user == p) <;> cases (x.pos == wk s p) <;> cases Zdd d s x.maker <;> rfl) (by simp only [Zcw, ZeL]; rfl)
 rw [k, Znv (Zlc s p) (fun f => bif Zdd d s f.maker then (.inl () : Unit ⊕ Unit) else .inr ())]
 unfold ZrY
 cases d.futures.find? (Zlc s p) with
 | none => rfl
 | some f => dsimp only; cases Zdd d s f.maker <;> rfl
theorem Zvr {d : Zm} {s : Zr} (g : Zem d) (hs : ∀ b ∈ d.barriers, Zna b) (o : OKS d s) {p : Int} (hp : inR d p) : Zei d s p = some (ZmC d s p) := by
 unfold Zei ZmC
 rw [ZjH o hp, Zix o hp, Zpa g hs o]
 simp only [Option.bind_some]
 cases Zdd d s p with
 | true => rfl
 | false =>
  simp only [cond_false, Bool.not_false, Bool.true_and]
  cases (wk s p == 0) with
  | true =>
   cases ZgM d s p with
   | false => rfl
   | true =>
    simp only [cond_true, Bool.not_true, Bool.false_or, Bool.true_and]
    exact ZnO g o hp _ rfl
  | false =>
   simp only [cond_false, Bool.not_false, Bool.true_or, Bool.true_and]
   exact ZnO g o hp _ rfl
def Zq6 (d : Zm) (i : Nat) (x : Int) : Bool := decide (x < 0) || decide (Zc7 d.parts (i : Int) < x)
def Zrv (d : Zm) (s : Zr) (i : Nat) (x : Int) : Bool := decide (0 < x) && !ZgM d s (i : Int)
def ZpX (d : Zm) (s : Zr) (f : Zq) : Bool := decide (f.pos < wk s f.user) && !Zdd d s f.maker
def ZiU (d : Zm) (s : Zr) : Bool :=
 decide (s.work.length = d.parts.length) && (decide (s.vals.length = d.parts.length) && (!(Zfq (Zq6 d) 0 s.work) && (!(Zfq (Zrv d s) 0 s.work) && !(d.futures.any (ZpX d s)))))
theorem ZpC {d : Zm} {i : Nat} (h : i < d.parts.length) : inR d (i : Int) := ⟨by omega, by simpa using h⟩
theorem Zt3 {d : Zm} {s : Zr} (g : Zem d) (hs : ∀ b ∈ d.barriers, Zna b) : ZeA d s = some (ZiU d s) := by
 unfold ZeA ZiU
 have ne : ∀ a b : Nat, (((a : Int)) != (b : Int)) = !decide (a = b) := fun a b => by
  by_cases h : a = b
  ·rw [decide_eq_true h, h]; simp
  ·rw [decide_eq_false h]
   have : ((a : Int)) ≠ (b : Int) := by omega
   simp [bne_iff_ne.2 this]
 rw [ne, ne]
 by_cases h1 : s.work.length = d.parts.length
 case neg => rw [decide_eq_false h1]; rfl
 by_cases h2 : s.vals.length = d.parts.length
 case neg => rw [decide_eq_true h1, decide_eq_false h2]; rfl
 have o : OKS d s := ⟨h1, h2⟩
 have hl : s.work.length < 9223372036854775808 := by have := g.pl; omega
 rw [decide_eq_true h1, decide_eq_true h2]
 have k0 := ZeU s.work (ZcQ d s) (Zq6 d) (fun _ _ => .inl ()) (.inr ()) (fun i x hi hx => by
  obtain ⟨q, q1, _, q3⟩ := ZiB (ZpC (d := d) (i := i) (by omega))
  simp only [ZcQ, ZeK hi, ZaZ hx, Option.bind_some, Z2 hi hl, cond_true, Zq6, q1, q3]
  cases decide (x < 0) <;> cases decide (Zc7 d.parts (i : Int) < x) <;> rfl) (by simp only [ZcQ, ZeL]; rfl)
 have k1 := ZeU s.work (ZcU d s) (Zrv d s) (fun _ _ => .inl ()) (.inr ()) (fun i x hi hx => by
  simp only [ZcU, ZeK hi, ZaZ hx, Option.bind_some, Z2 hi hl, cond_true, Zrv, Zpa g hs o]
  cases decide (0 < x) <;> cases ZgM d s (i : Int) <;> rfl) (by simp only [ZcU, ZeL]; rfl)
 have k2 : ∀ f ∈ d.futures, Zb5 f s.work s.vals d.period d.deadline d.parts d.edges d.futures d.barriers = some (ZpX d s f) := fun f hf => by
  unfold Zb5 ZpX
  rw [Zix o (g.user hf)]
  have := ZjH o (g.maker hf)
  simp only [Option.bind_some]
  show (bif decide (f.pos < wk s f.user) then (Za4 d s f.maker).bind _ else _) = _
  rw [this]
  cases decide (f.pos < wk s f.user) <;> cases Zdd d s f.maker <;> rfl
 simp only [Bool.not_true, cond_false, Bool.true_and]
 rw [k0, Zdv]
 cases Zfq (Zq6 d) 0 s.work with
 | true => rfl
 | false =>
  simp only [cond_false, Option.bind_some, Bool.not_false, Bool.true_and]
  rw [k1, Zdv]
  cases Zfq (Zrv d s) 0 s.work with
  | true => rfl
  | false =>
   simp only [cond_false, Option.bind_some, Bool.not_false, Bool.true_and]
   rw [Zhi d.futures _ (ZpX d s) k2 (by have := g.fl; omega)]
   cases d.futures.any (ZpX d s) <;> rfl
noncomputable def Zfz (d : Zm) (s : Zr) : Int := bif (Zcm d == 0) then (bif ZiU d s then 0 else 90) else Zcm d
theorem Ziu (d : Zm) (s : Zr) (h : Zf9 d) : Zbz d s = some (Zfz d s) := by
 unfold Zbz Zfz
 rw [ZlA d h]
 simp only [Option.bind_some]
 by_cases hc : Zcm d = 0
 ·rw [hc, Zt3 (Zf2 hc) h.i]
  simp only [beq_self_eq_true, cond_true, Option.bind_some]
  cases ZiU d s <;> rfl
 ·rw [show (Zcm d == 0) = false by simpa using hc]
  rfl
def pick (p : Nat → Bool) (n : Nat) : List Int := ((List.range n).filter p).map fun i : Nat => (i : Int)
theorem Ziy (p : Nat → Bool) (n : Nat) : (pick p n).length ≤ n := by
 unfold pick
 rw [List.length_map]
 exact Nat.le_trans (List.length_filter_le _ _) (by simp)
noncomputable def Zfp (d : Zm) (u : Int) : List Int := @dite _ (∃ r, Zcu d u r) (Classical.propDecidable _) (fun h => Classical.choose h) fun _ => []
theorem Zon {d : Zm} {u : Int} {r : List Int} (h : Zcu d u r) : Zfp d u = r := by
 unfold Zfp
 rw [dif_pos ⟨r, h⟩]
 exact (Classical.choose_spec (⟨r, h⟩ : ∃ r, Zcu d u r)).eq h
noncomputable def ZfC (d : Zm) (u : Int) : List Int := ZoK d u (Zfp d u)
theorem Zrx (d : Zm) (h : Zf9 d) (hc : Zcm d = 0) (u : Int) : ZeE d u = some (ZfC d u) ∧ Zcu d u (Zfp d u) := by
 have g := Zf2 hc
 obtain ⟨r, h1, h2⟩ := Znm d h (by have := g.fl; omega) hc u
 have := Zuw d h (by have := g.el; omega) (by have := g.fl; omega) hc u h2
 unfold ZfC
 rw [Zon h2]
 exact ⟨this, h2⟩
theorem ZoA {d : Zm} (g : Zem d) {u : Int} (ht : Zcu d u (Zfp d u)) {q : Int} (hq : q ∈ ZfC d u) : (∃ e ∈ d.edges, e.dst = u ∧ q = e.src) ∨ (∃ f ∈ d.futures, f.user = u ∧ q = f.maker) := by
 unfold ZfC ZoK at hq
 rcases List.mem_append.1 hq with h | h
 ·obtain ⟨j, x, h1, h2, h3⟩ := (ZnZ _ _ _ _ _).1 h
  exact .inl ⟨x, List.mem_of_getElem? h1, by simpa using h2, h3⟩
 ·obtain ⟨z, h1, rfl⟩ := List.mem_map.1 h
  obtain ⟨i, f, h2, h3, rfl⟩ := (ht.mem z).1 h1
  refine .inr ⟨f, List.mem_of_getElem? h2, h3, ?_⟩
  unfold ZhP
  rw [Int.toNat_natCast, h2]
theorem Zps {d : Zm} (g : Zem d) {u : Int} (ht : Zcu d u (Zfp d u)) {q : Int} (hq : q ∈ ZfC d u) : inR d q := by
 rcases ZoA g ht hq with ⟨e, h1, _, rfl⟩ | ⟨f, h1, _, rfl⟩
 ·exact g.src h1
 ·exact g.maker h1
theorem Zk9 {d : Zm} (g : Zem d) {u : Int} (ht : Zcu d u (Zfp d u)) : (ZfC d u).length ≤ 1000 := by
 unfold ZfC ZoK
 rw [List.length_append, List.length_map]
 have h1 := Zm3 (fun e : ZJ => e.dst == u) (fun _ e => e.src) d.edges 0
 have h2 := Zk3 ht
 have := g.el; have := g.fl
 omega
theorem ZrJ (s : Zr) (l : List Int) (hl : l.length ≤ 1000) (hP : ∀ x ∈ l, ZA s.vals x = some (vl s x)) (step : Int × List Int → Option ((Int × List Int) ⊕ List Int))
  (hstep : ∀ t, step t = (bif (decide (t.1 < (l.length : Int))) then (ZA l t.1).bind fun x6 => (ZA s.vals x6).bind fun x7 => bif (Nat.ble (List.length t.2 + 1) lim) then some (.inl ((w64 (t.1 + 1)), (t.2 ++ [x7]))) else none else some (.inr t.2))) :
  lp step (0, []) = some (l.map (vl s)) := by
 have := Zn8 l hl (fun _ => true) (fun _ x => vl s x) step (fun i x acc hi hx => by
  rw [hstep]
  simp only [ZeK hi, ZaZ hx, Option.bind_some, Z2 hi (show l.length < 9223372036854775808 by omega), cond_true, hP x (List.mem_of_getElem? hx)]) (fun acc => by
  rw [hstep]
  simp only [ZeL, cond_false]) [] (by simp)
 rw [Zn3 (vl s) l 0, List.nil_append] at this
 exact this
def Zpr (d : Zm) (p : Int) : ZK := match d.parts[p.toNat]? with | some x => x | none => ⟨0, 0, 0⟩
def more (s : Zr) (p : Int) : Zr := ⟨s.work.set p.toNat (wk s p + 1), s.vals⟩
noncomputable def Zu0 (d : Zm) (input : List Int) (s : Zr) (p : Int) : Int := opV (Zpr d p) input ((ZfC d p).map (vl s))
noncomputable def Zfd (d : Zm) (input : List Int) (s : Zr) (p : Int) : Zr :=
 ⟨s.work.set p.toNat (wk s p + 1), bif Zdd d (more s p) p then s.vals.set p.toNat (Zu0 d input s p) else s.vals⟩
theorem OKS.more {d : Zm} {s : Zr} (o : OKS d s) (p : Int) : OKS d (more s p) := ⟨by unfold Proofs.YtnmbdjkbaihicaaDoor.more; rw [List.length_set]; exact o.w, o.v⟩
theorem OKS.step {d : Zm} {s : Zr} (o : OKS d s) (input : List Int) (p : Int) : OKS d (Zfd d input s p) := by
 refine ⟨by unfold Zfd; rw [List.length_set]; exact o.w, ?_⟩
 unfold Zfd
 dsimp only
 cases Zdd d (Proofs.YtnmbdjkbaihicaaDoor.more s p) p
 ·exact o.v
 ·simp only [cond_true, List.length_set]; exact o.v
theorem ZqP {l : List Int} (h1 : 0 < l.length) (h2 : l.length ≤ 1000) : Zbg l = some () := by
 unfold Zbg
 rw [show Nat.blt 0 l.length = true by simp [Nat.blt]; omega, ZiR (show l.length ≤ 1073741824 by omega)]
 rfl
theorem Zu5 {d : Zm} {s : Zr} (hc : Zcm d = 0) (hs : ∀ b ∈ d.barriers, Zna b) (o : OKS d s) {p : Int} (hp : inR d p) (input : List Int) (hi : input.length ≤ 1000) (hw : 0 ≤ wk s p ∧ wk s p ≤ 100) :
  Zeh d input s p = some (Zfd d input s p) := by
 have g := Zf2 hc
 have sh := g.short hs
 obtain ⟨f1, f2⟩ := Zrx d sh hc p
 have g1 := g.p1; have g2 := g.pl
 have hlw : 0 < s.work.length ∧ s.work.length ≤ 1000 := by rw [o.w]; omega
 have hlv : 0 < s.vals.length ∧ s.vals.length ≤ 1000 := by rw [o.v]; omega
 obtain ⟨x, q1, q2, _⟩ := ZiB hp
 have hx : Zpr d p = x := by unfold Zpr; rw [q2]
 unfold Zeh Zfd Zu0
 rw [ZqP hlw.1 hlw.2, ZqP hlv.1 hlv.2, Zix o hp]
 simp only [Option.bind_some]
 rw [Zeu (n := wk s p + 1) (by omega) (by omega)]
 have hd := ZjH (o.more p) hp
 unfold more at hd
 rw [hd]
 simp only [Option.bind_some]
 show (bif Zdd d (more s p) p then _ else _) = some (Zr.mk (s.work.set p.toNat (wk s p + 1)) (bif Zdd d (more s p) p then _ else _))
 cases Zdd d (more s p) p with
 | false => rfl
 | true =>
  simp only [cond_true]
  rw [f1]
  simp only [Option.bind_some]
  rw [ZrJ s (ZfC d p) (Zk9 g f2) (fun y hy => Zsq o (Zps g f2 hy)) (ZeD s (ZfC d p)) (fun t => rfl)]
  simp only [Option.bind_some]
  rw [q1]
  simp only [Option.bind_some]
  rw [ZsR x input _ hi (by rw [List.length_map]; exact Zk9 g f2), Zsq o hp]
  simp only [Option.bind_some]
  rw [hx]
noncomputable def goS (d : Zm) (input : List Int) (s : Zr) (p : Int) : Zr × Int :=
 bif (Zfz d s == 0) then (bif decide (p < 0) || decide ((d.parts.length : Int) ≤ p) then (⟨[], []⟩, 91) else bif Zdd d s p then (⟨[], []⟩, 92) else bif ZmC d s p then (Zfd d input s p, 0) else (⟨[], []⟩, 93)) else (⟨[], []⟩, Zfz d s)
theorem Zrj {d : Zm} {s : Zr} (h : Zfz d s = 0) : Zcm d = 0 ∧ ZiU d s = true := by
 unfold Zfz at h
 by_cases hc : Zcm d = 0
 ·refine ⟨hc, ?_⟩
  rw [hc] at h
  cases hr : ZiU d s with
  | true => rfl
  | false => rw [hr] at h; simp at h
 ·rw [show (Zcm d == 0) = false by simpa using hc] at h
  exact absurd h hc
def Zij (d : Zm) (s : Zr) (p : Int) : Prop := wk s p = Zc7 d.parts p
def ZkH (d : Zm) (s : Zr) (p : Int) : Prop := (∀ e ∈ d.edges, e.dst = p → Zij d s e.src) ∧ (∀ b ∈ d.barriers, p ∈ b.outs → ∀ q ∈ b.ins, Zij d s q)
def Zud (d : Zm) (s : Zr) (p : Int) : Prop := ¬ Zij d s p ∧ (wk s p = 0 → ZkH d s p) ∧ (∀ f ∈ d.futures, f.user = p → f.pos = wk s p → Zij d s f.maker)
structure Zft (d : Zm) (s : Zr) : Prop where
 o : OKS d s
 rng : ∀ p, inR d p → 0 ≤ wk s p ∧ wk s p ≤ Zc7 d.parts p
 beg : ∀ p, inR d p → 0 < wk s p → ZkH d s p
 fut : ∀ f ∈ d.futures, f.pos < wk s f.user → Zij d s f.maker
theorem ZfS {d : Zm} {s : Zr} {p : Int} : Zdd d s p = true ↔ Zij d s p := by unfold Zdd Zij; simp
theorem Zvz {d : Zm} {s : Zr} {p : Int} (h : ¬ Zij d s p) : Zdd d s p = false := by
 cases hb : Zdd d s p with
 | false => rfl
 | true => exact absurd (ZfS.1 hb) h
theorem ZjF {d : Zm} {s : Zr} {p : Int} : ZgM d s p = true ↔ ZkH d s p := by
 have e1 : ∀ e : ZJ, ZnH d s p e = true ↔ (e.dst = p ∧ ¬ Zij d s e.src) := fun e => by
  unfold ZnH
  rw [← ZfS]
  cases Zdd d s e.src <;> simp
 have e2 : ∀ b : Zi, ZkS d s p b = true ↔ (p ∈ b.outs ∧ ∃ q ∈ b.ins, ¬ Zij d s q) := fun b => by
  unfold ZkS
  rw [Bool.and_eq_true, List.any_eq_true, List.any_eq_true]
  constructor
  ·rintro ⟨⟨x, h1, h2⟩, ⟨q, h3, h4⟩⟩
   have h2 := eq_of_beq h2
   subst h2
   exact ⟨h1, q, h3, fun h => by rw [ZfS.2 h] at h4; cases h4⟩
  ·rintro ⟨h1, q, h3, h4⟩
   exact ⟨⟨p, h1, by simp⟩, ⟨q, h3, by cases h : Zdd d s q with | false => rfl | true => exact absurd (ZfS.1 h) h4⟩⟩
 unfold ZgM ZkH
 rw [Bool.and_eq_true, Bool.not_eq_true', Bool.not_eq_true', List.any_eq_false, List.any_eq_false]
 constructor
 ·rintro ⟨h1, h2⟩
  exact ⟨fun e he h => Classical.byContradiction fun hn => h1 e he ((e1 e).2 ⟨h, hn⟩), fun b hb h q hq => Classical.byContradiction fun hn => h2 b hb ((e2 b).2 ⟨h, q, hq, hn⟩)⟩
 ·rintro ⟨h1, h2⟩
  exact ⟨fun e he h => by obtain ⟨a, b⟩ := (e1 e).1 h; exact b (h1 e he a), fun b hb h => by obtain ⟨a, q, c, f⟩ := (e2 b).1 h; exact f (h2 b hb a q c)⟩
theorem Zup {d : Zm} {s : Zr} (g : Zem d) {p : Int} : ZrY d s p = true ↔ (∀ f ∈ d.futures, f.user = p → f.pos = wk s p → Zij d s f.maker) := by
 unfold ZrY
 cases hf : d.futures.find? (Zlc s p) with
 | none =>
  simp only [true_iff]
  intro f h1 h2 h3
  have := List.find?_eq_none.1 hf f h1
  unfold Zlc at this
  simp [h2, h3] at this
 | some f =>
  have m := List.mem_of_find?_eq_some hf
  have q := List.find?_some hf
  unfold Zlc at q
  simp only [Bool.and_eq_true, beq_iff_eq] at q
  dsimp only
  rw [ZfS]
  constructor
  ·intro h f' h1 h2 h3
   have : f' = f := by
    obtain ⟨i, hi⟩ := List.getElem?_of_mem m
    obtain ⟨j, hj⟩ := List.getElem?_of_mem h1
    rcases Nat.lt_trichotomy i j with hl | hl | hl
    ·exact absurd ⟨q.1.trans h2.symm, q.2.trans h3.symm⟩ (g.g.ne i j f f' hl hi hj)
    ·subst hl; rw [hi] at hj; exact (Option.some.inj hj).symm
    ·exact absurd ⟨h2.trans q.1.symm, h3.trans q.2.symm⟩ (g.g.ne j i f' f hl hj hi)
   rw [this]; exact h
  ·intro h
   exact h f m q.1 q.2
theorem Zsi {d : Zm} {s : Zr} (g : Zem d) {p : Int} : ZmC d s p = true ↔ Zud d s p := by
 unfold ZmC Zud
 simp only [Bool.and_eq_true, Bool.not_eq_true', Bool.or_eq_true, Zup g, ZjF]
 constructor
 ·rintro ⟨h1, h2, h3⟩
  refine ⟨fun h => (by rw [ZfS.2 h] at h1; cases h1), fun h => ?_, h3⟩
  rcases h2 with h2 | h2
  ·rw [h] at h2; simp at h2
  ·exact h2
 ·rintro ⟨h1, h2, h3⟩
  refine ⟨Zvz h1, ?_, h3⟩
  by_cases h : wk s p = 0
  ·exact .inr (h2 h)
  ·left; simpa using h
theorem ZpJ {γ : Type} {p : Nat → γ → Bool} {l : List γ} : Zfq p 0 l = false ↔ ∀ (i : Nat) x, l[i]? = some x → p i x = false := by
 constructor
 ·intro h i x hx
  cases hb : p i x with
  | false => rfl
  | true => rw [(Zhz _ _ 0).2 ⟨i, x, hx, by simpa using hb⟩] at h; cases h
 ·intro h
  cases hb : Zfq p 0 l with
  | false => rfl
  | true =>
   obtain ⟨j, x, h1, h2⟩ := (Zhz _ _ 0).1 hb
   rw [Nat.zero_add, h j x h1] at h2; cases h2
theorem Zr8 {s : Zr} {i : Nat} {x : Int} (h : s.work[i]? = some x) : wk s (i : Int) = x := by unfold wk; rw [Int.toNat_natCast, h]
theorem ZkT {d : Zm} {s : Zr} : ZiU d s = true ↔ Zft d s := by
 unfold ZiU
 simp only [Bool.and_eq_true, decide_eq_true_eq, Bool.not_eq_true', ZpJ]
 have ex : ∀ {p : Int}, OKS d s → inR d p → ∃ i : Nat, p = (i : Int) ∧ s.work[i]? = some (wk s p) := fun {p} o hp => by
  have hl : p.toNat < s.work.length := by rw [o.w]; exact hp.2
  refine ⟨p.toNat, by have := hp.1; omega, ?_⟩
  unfold wk
  rw [List.getElem?_eq_getElem hl]
 constructor
 ·rintro ⟨h1, h2, h3, h4, h5⟩
  refine ⟨⟨h1, h2⟩, fun p hp => ?_, fun p hp hw => ?_, fun f hf hw => ?_⟩
  ·obtain ⟨i, e, hi⟩ := ex ⟨h1, h2⟩ hp
   have := h3 i _ hi
   unfold Zq6 at this
   simp only [Bool.or_eq_false_iff, decide_eq_false_iff_not] at this
   rw [e] at this ⊢
   omega
  ·obtain ⟨i, e, hi⟩ := ex ⟨h1, h2⟩ hp
   have := h4 i _ hi
   unfold Zrv at this
   rw [decide_eq_true hw, ← e] at this
   exact ZjF.1 (by simpa using this)
  ·have := List.any_eq_false.1 h5 f hf
   unfold ZpX at this
   rw [decide_eq_true hw] at this
   exact ZfS.1 (by simpa using this)
 ·rintro ⟨o, h3, h4, h5⟩
  refine ⟨o.w, o.v, fun i x hx => ?_, fun i x hx => ?_, List.any_eq_false.2 fun f hf => ?_⟩
  ·have hi : i < d.parts.length := by rw [← o.w]; exact (List.getElem?_eq_some_iff.1 hx).1
   have := h3 i (ZpC hi)
   rw [Zr8 hx] at this
   unfold Zq6
   rw [decide_eq_false (by omega), decide_eq_false (by omega)]; rfl
  ·have hi : i < d.parts.length := by rw [← o.w]; exact (List.getElem?_eq_some_iff.1 hx).1
   unfold Zrv
   by_cases hp : 0 < x
   ·have := h4 i (ZpC hi) (by rw [Zr8 hx]; exact hp)
    rw [ZjF.2 this]; simp
   ·rw [decide_eq_false hp]; rfl
  ·unfold ZpX
   by_cases hp : f.pos < wk s f.user
   ·rw [ZfS.2 (h5 f hf hp)]; simp
   ·rw [decide_eq_false hp]; simp
theorem Zkt {d : Zm} {s : Zr} (o : OKS d s) (input : List Int) {p : Int} (hp : inR d p) : wk (Zfd d input s p) p = wk s p + 1 := by
 have hl : p.toNat < s.work.length := by rw [o.w]; exact hp.2
 conv => lhs; unfold wk Zfd
 dsimp only
 rw [List.getElem?_set_self hl]
theorem ZfB {d : Zm} {s : Zr} (input : List Int) {p q : Int} (hp : inR d p) (hq : inR d q) (h : q ≠ p) : wk (Zfd d input s p) q = wk s q := by
 have : p.toNat ≠ q.toNat := by have := hp.1; have := hq.1; omega
 conv => lhs; unfold wk Zfd
 dsimp only
 rw [List.getElem?_set_ne this]
 rfl
theorem ZkO {d : Zm} {s : Zr} (o : OKS d s) (input : List Int) {p : Int} (hp : inR d p) (hn : ¬ Zij d s p) {q : Int} (hq : inR d q) (h : Zij d s q) : Zij d (Zfd d input s p) q := by
 by_cases e : q = p
 ·subst e; exact absurd h hn
 ·unfold Zij; rw [ZfB input hp hq e]; exact h
theorem ZoC {d : Zm} {s : Zr} (g : Zem d) (o : OKS d s) (input : List Int) {p : Int} (hp : inR d p) (hn : ¬ Zij d s p) {q : Int} (h : ZkH d s q) : ZkH d (Zfd d input s p) q :=
 ⟨fun e he h1 => ZkO o input hp hn (g.src he) (h.1 e he h1), fun b hb h1 r hr => ZkO o input hp hn (g.ins b hb r hr) (h.2 b hb h1 r hr)⟩
theorem Zpy {d : Zm} {s : Zr} (g : Zem d) (r : Zft d s) (input : List Int) {p : Int} (hp : inR d p) (hg : Zud d s p) : Zft d (Zfd d input s p) := by
 have hw := r.rng p hp
 have hlt : wk s p < Zc7 d.parts p := by have := hg.1; unfold Zij at this; omega
 refine ⟨r.o.step input p, fun q hq => ?_, fun q hq h => ?_, fun f hf h => ?_⟩
 ·by_cases e : q = p
  ·subst e; rw [Zkt r.o input hp]; omega
  ·rw [ZfB input hp hq e]; exact r.rng q hq
 ·refine ZoC g r.o input hp hg.1 ?_
  by_cases e : q = p
  ·subst e
   by_cases h0 : wk s q = 0
   ·exact hg.2.1 h0
   ·exact r.beg q hq (by omega)
  ·rw [ZfB input hp hq e] at h
   exact r.beg q hq h
 ·refine ZkO r.o input hp hg.1 (g.maker hf) ?_
  by_cases e : f.user = p
  ·rw [e, Zkt r.o input hp] at h
   rcases Int.lt_or_eq_of_le (show f.pos ≤ wk s p by omega) with h1 | h1
   ·exact r.fut f hf (by rw [e]; exact h1)
   ·exact hg.2.2 f hf e h1
  ·rw [ZfB input hp (g.user hf) e] at h
   exact r.fut f hf h
theorem Zt7 {d : Zm} (g : Zem d) (p : Int) : Zc7 d.parts p ≤ 100 := Znt g.g p
theorem ZyW {d : Zm} {s : Zr} (h : Zf9 d) (input : List Int) (hi : input.length ≤ 1000) (p : Int) : ZfX d input s p = some (goS d input s p) := by
 unfold ZfX goS
 rw [Ziu d s h]
 simp only [Option.bind_some]
 by_cases hc : Zfz d s = 0
 ·rw [hc]
  simp only [beq_self_eq_true, cond_true, bne_self_eq_false, cond_false]
  obtain ⟨h1, h2⟩ := Zrj hc
  have g := Zf2 h1
  have r := ZkT.1 h2
  by_cases c1 : p < 0
  ·rw [decide_eq_true c1]; rfl
  by_cases c2 : (d.parts.length : Int) ≤ p
  ·rw [decide_eq_false c1, decide_eq_true c2]; rfl
  have hp : inR d p := ⟨by omega, by omega⟩
  have hw := r.rng p hp
  have hle := Zt7 g p
  rw [decide_eq_false c1, decide_eq_false c2, ZjH r.o hp, Zvr g h.i r.o hp, Zu5 h1 h.i r.o hp input hi (by omega)]
  simp only [cond_false, Option.bind_some, Bool.or_self]
  cases Zdd d s p with
  | true => rfl
  | false => cases ZmC d s p <;> rfl
 ·rw [show (Zfz d s == 0) = false by simpa using hc, show (Zfz d s != 0) = true by simpa using hc]
  rfl
def Zsd (d : Zm) (input : List Int) (s : Zr) : Bool := few d && (decide ((input.length : Int) ≤ 60) && (decide ((s.work.length : Int) ≤ 20) && decide ((s.vals.length : Int) ≤ 20)))
theorem ZvC (d : Zm) (input : List Int) (s : Zr) : ZfK d input s = some (Zsd d input s) := by
 unfold ZfK Zsd
 rw [Zw9]
 simp only [Option.bind_some]
 cases few d <;> cases decide ((input.length : Int) ≤ 60) <;> cases decide ((s.work.length : Int) ≤ 20) <;> cases decide ((s.vals.length : Int) ≤ 20) <;> rfl
theorem ZtX {d : Zm} {input : List Int} {s : Zr} (h : Zsd d input s = true) : Znr d ∧ input.length ≤ 60 ∧ s.work.length ≤ 20 ∧ s.vals.length ≤ 20 := by
 unfold Zsd at h
 simp only [Bool.and_eq_true, decide_eq_true_eq] at h
 exact ⟨Zq3 h.1, by omega, by omega, by omega⟩
theorem Zl0 {s : Zr} (h1 : s.work.length ≤ 1000) (h2 : s.vals.length ≤ 1000) : ZcK s = some () := by
 unfold ZcK
 rw [ZiR (by omega), ZiR (by omega)]
 rfl
theorem Zp4 {γ : Type} (l : List γ) (hl : l.length < 9223372036854775808) (step : Bool × Int → Option ((Bool × Int) ⊕ (Unit ⊕ Unit))) (q : γ → Bool)
  (h1 : ∀ i : Nat, i < l.length → step (true, (i : Int)) = some (.inl (true, ((i + 1 : Nat) : Int)))) (h2 : ∀ (i : Nat) x, i < l.length → l[i]? = some x → step (false, (i : Int)) = some (.inl (q x, ((i + 1 : Nat) : Int))))
  (h3 : step (true, (l.length : Int)) = some (.inr (.inl ()))) (h4 : step (false, (l.length : Int)) = some (.inr (.inr ()))) : lp step (false, 0) = some (bif l.any q then .inl () else .inr ()) := by
 have key : ∀ k i : Nat, i + k = l.length → ∀ b : Bool, lp step (b, (i : Int)) = some (bif b || (l.drop i).any q then .inl () else .inr ()) := by
  intro k
  induction k with
  | zero =>
   intro i hi b
   have : i = l.length := by omega
   subst this
   rw [Zb9, List.drop_length]
   cases b
   ·rw [h4]; rfl
   ·rw [h3]; rfl
  | succ k ih =>
   intro i hi b
   have hi' : i < l.length := by omega
   rw [Zb9, List.drop_eq_getElem_cons hi', List.any_cons]
   cases b with
   | true => rw [h1 i hi']; dsimp only; rw [ih (i + 1) (by omega)]; rfl
   | false => rw [h2 i l[i] hi' (List.getElem?_eq_getElem hi')]; dsimp only; rw [ih (i + 1) (by omega)]; rfl
 have := key l.length 0 (by omega) false
 rw [List.drop_zero] at this
 exact this
def ZoD (d : Zm) : Zr := ⟨List.replicate d.parts.length 0, List.replicate d.parts.length 0⟩
theorem Zpz (d : Zm) (p : Int) : wk (ZoD d) p = 0 := by
 unfold wk ZoD
 dsimp only
 rw [List.getElem?_replicate]
 split <;> rename_i h <;> split at h <;> simp_all
theorem Zrk {d : Zm} (g : Zem d) : Zft d (ZoD d) := by
 refine ⟨⟨by simp [ZoD], by simp [ZoD]⟩, fun p hp => ?_, fun p hp h => ?_, fun f hf h => ?_⟩
 ·obtain ⟨x, _, h2, h3⟩ := ZiB hp
  have := (g.g.w x (List.mem_of_getElem? h2)).1
  rw [Zpz, ← h3]
  omega
 ·rw [Zpz] at h; omega
 ·rw [Zpz] at h
  have := (g.g.f f hf).2.1
  omega
theorem ZwH (d : Zm) (h : Zf9 d) : Zfh d = some (bif (Zcm d == 0) then (ZoD d, 0) else (⟨[], []⟩, Zcm d)) := by
 unfold Zfh ZoD
 rw [ZlA d h]
 simp only [Option.bind_some]
 by_cases hc : Zcm d = 0
 ·have g := Zf2 hc
  have hl := g.pl
  rw [hc]
  simp only [bne_self_eq_false, cond_false, beq_self_eq_true, cond_true, Int.toNat_natCast]
  rw [decide_eq_true (show (0 : Int) ≤ (d.parts.length : Int) by omega), decide_eq_true (show (d.parts.length : Int) ≤ lim by unfold lim; omega)]
  simp
 ·rw [show (Zcm d != 0) = true by simpa using hc, show (Zcm d == 0) = false by simpa using hc]
  rfl
theorem Zse {d : Zm} {s : Zr} (r : Zft d s) (hc : Zcm d = 0) (input : List Int) (p : Int) : (goS d input s p = (Zfd d input s p, 0) ∧ inR d p ∧ Zud d s p) ∨ (goS d input s p).2 ≠ 0 := by
 have g := Zf2 hc
 have hck : Zfz d s = 0 := by unfold Zfz; rw [hc, ZkT.2 r]; rfl
 unfold goS
 rw [hck]
 simp only [beq_self_eq_true, cond_true]
 by_cases c1 : p < 0
 ·rw [decide_eq_true c1]; right; simp
 by_cases c2 : (d.parts.length : Int) ≤ p
 ·rw [decide_eq_true c2]; right; simp
 rw [decide_eq_false c1, decide_eq_false c2]
 simp only [Bool.or_self, cond_false]
 cases hd : Zdd d s p with
 | true => right; simp
 | false =>
  cases hg : ZmC d s p with
  | false => right; simp
  | true => left; exact ⟨rfl, ⟨by omega, by omega⟩, (Zsi g).1 hg⟩
theorem Zg5 {d : Zm} {s : Zr} (hc : Zcm d = 0) (r : Zft d s) : Zfz d s = 0 := by unfold Zfz; rw [hc, ZkT.2 r]; rfl
theorem Zpk (d : Zm) : Zm.mk d.period d.deadline d.parts d.edges d.futures d.barriers = d := rfl
theorem Zqi {xs : List D} (h : Ze3 [.sl false [.int .i64]] xs) : ∃ l, ZjD false xs = Zqj true l ∧ Zuo l := by
 obtain ⟨_, _, rfl, h1, rfl⟩ := h
 obtain ⟨l, rfl, h2⟩ := Zok h1
 exact ⟨l, rfl, h2⟩
end Go.Proofs.YtnmbdjkbaihicaaDoor
