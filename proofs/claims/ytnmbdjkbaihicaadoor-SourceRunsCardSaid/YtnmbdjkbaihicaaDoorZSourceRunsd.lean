/- SourceRuns: part 4 of 6 of the proof. -/
import Derived.Test.YtnmbdjkbaihicaaDoorZSourceRunsc
import Derived.KernelRfl
import Derived.Sort.AssemblyPlain
set_option maxRecDepth 100000
set_option maxHeartbeats 40000000
namespace Go.Proofs.YtnmbdjkbaihicaaDoor
open Go Go.Proofs.YtnmbdjkbaihicaaDoorE
set_option linter.unusedVariables false
structure Zn where
 work : (List Int)
 vals : (List Int)
 deriving DecidableEq
def Zq2 : ByteArray := ⟨#[0, 1, 2, 2, 3, 3, 3, 3, 4, 4, 4, 4, 4, 4, 4, 4, 5, 5, 5, 5, 5, 5, 5, 5, 5, 5, 5, 5, 5, 5, 5, 5, 6, 6, 6, 6, 6, 6, 6, 6, 6, 6, 6, 6, 6, 6, 6, 6, 6, 6, 6, 6, 6, 6, 6, 6, 6, 6, 6, 6, 6, 6, 6, 6, 7, 7, 7, 7, 7, 7, 7, 7, 7, 7, 7, 7, 7, 7, 7, 7, 7, 7, 7, 7, 7, 7, 7, 7, 7, 7, 7, 7, 7, 7, 7, 7, 7, 7, 7, 7, 7, 7, 7, 7, 7, 7, 7, 7, 7, 7, 7, 7, 7, 7, 7, 7, 7, 7, 7, 7, 7, 7, 7, 7, 7, 7, 7, 7, 8, 8, 8, 8, 8, 8, 8, 8, 8, 8, 8, 8, 8, 8, 8, 8, 8, 8, 8, 8, 8, 8, 8, 8, 8, 8, 8, 8, 8, 8, 8, 8, 8, 8, 8, 8, 8, 8, 8, 8, 8, 8, 8, 8, 8, 8, 8, 8, 8, 8, 8, 8, 8, 8, 8, 8, 8, 8, 8, 8, 8, 8, 8, 8, 8, 8, 8, 8, 8, 8, 8, 8, 8, 8, 8, 8, 8, 8, 8, 8, 8, 8, 8, 8, 8, 8, 8, 8, 8, 8, 8, 8, 8, 8, 8, 8, 8, 8, 8, 8, 8, 8, 8, 8, 8, 8, 8, 8, 8, 8, 8, 8, 8, 8, 8, 8, 8, 8, 8, 8, 8, 8, 8, 8, 8, 8, 8, 8]⟩
abbrev dA (t0 t1 t2 t3 : Bool) (a : Zh) : List D := [(Zb a.period), (Zb a.deadline), (D.list t0 (List.map ZW a.parts)), (D.list t1 (List.map ZT a.edges)), (D.list t2 (List.map Zx a.futures)), (D.list t3 (List.map Zt a.barriers))]
abbrev dV (t0 t1 t2 t3 : Bool) (a : Zh) : List V := [(.d (Zb a.period)), (.d (Zb a.deadline)), (.d (D.list t0 (List.map ZW a.parts))), (.d (D.list t1 (List.map ZT a.edges))), (.d (D.list t2 (List.map Zx a.futures))), (.d (D.list t3 (List.map Zt a.barriers)))]
def Zfj : Option Bool := some true
noncomputable def Zeb (a : Zh) (s0 : Int) : Option (Int ⊕ (Unit ⊕ Unit)) :=
 bif (decide (s0 < (a.barriers.length : Int))) then
  bif (decide (s0 < 9)) then
   (ZA a.barriers s0).bind fun x1 =>
   bif (decide (20 < (x1.ins.length : Int))) then
    some (.inr (.inl ()))
   else
    bif (decide (20 < (x1.outs.length : Int))) then
     some (.inr (.inl ()))
    else
     some (.inl (w64 (s0 + 1)))
  else
   some (.inr (.inr ()))
 else
  some (.inr (.inr ()))
noncomputable def Zgw (a : Zh) : Option Bool :=
 (lp (Zeb a) 0).bind fun r2 =>
 match r2 with
 | (.inl r2) =>
  some false
 | (.inr r2) =>
  bif (decide ((a.parts.length : Int) ≤ 20)) then
   bif (decide ((a.edges.length : Int) ≤ 60)) then
    bif (decide ((a.futures.length : Int) ≤ 20)) then
     bif (decide ((a.barriers.length : Int) ≤ 8)) then
      some true
     else
      some false
    else
     some false
   else
    some false
  else
   some false
noncomputable def Zgk (a : Zh) (b : (List Int)) (c : Zn) : Option Bool :=
 (Zgw a).bind fun x0 =>
 bif x0 then
  bif (decide ((b.length : Int) ≤ 60)) then
   bif (decide ((c.work.length : Int) ≤ 20)) then
    bif (decide ((c.vals.length : Int) ≤ 20)) then
     some true
    else
     some false
   else
    some false
  else
   some false
 else
  some false
noncomputable def Zdu (a : Zh) (s0 : Int × (List Zo)) : Option ((Int × (List Zo)) ⊕ (List Zo)) :=
 bif (decide (s0.1 < (a.barriers.length : Int))) then
  (ZA a.barriers s0.1).bind fun x1 =>
  bif (Nat.ble (List.length x1.ins) lim) then
   bif (Nat.ble (List.length x1.outs) lim) then
    bif (Nat.ble (List.length s0.2 + 1) lim) then
     some (.inl ((w64 (s0.1 + 1)), (s0.2 ++ [x1])))
    else
     none
   else
    none
  else
   none
 else
  some (.inr s0.2)
noncomputable def ZfD (a : Zh) : Option (List Zo) :=
 bif (Nat.ble (List.length a.parts) lim) then
  bif (Nat.ble (List.length a.edges) lim) then
   bif (Nat.ble (List.length a.futures) lim) then
    (lp (Zdu a) (0, ([] : (List Zo)))).bind fun r2 =>
    some r2
   else
    none
  else
   none
 else
  none
noncomputable def Zbi (a : Int) (b : Int) (c : Int) : Option Bool :=
 bif (decide (b ≤ a)) then
  bif (decide (a ≤ c)) then
   some true
  else
   some false
 else
  some false
noncomputable def Zgo (a : Int) : Option Int :=
 bif (decide (a < 0)) then
  some 10
 else
  bif (decide (1099511627775 < a)) then
   some 11
  else
   some 0
noncomputable def Zb9 (a : Int) : Option Int :=
 some (IntKind.i64.wrap (BitVec.ofInt IntKind.i64.bits (w64 (IntKind.u64.wrap ((IntKind.u64.wrap ((IntKind.u64.wrap ((IntKind.u64.wrap (BitVec.ofInt IntKind.u64.bits (IntKind.u64.wrap ((Int.fdiv (IntKind.u64.wrap ((IntKind.u64.wrap (BitVec.ofInt IntKind.u64.bits (Int.fdiv (IntKind.u64.wrap ((IntKind.u64.wrap (BitVec.ofInt IntKind.u64.bits (Int.fdiv a (2 ^ 1)) &&& BitVec.ofInt IntKind.u64.bits 6148914691236517205).toNat) + (IntKind.u64.wrap (BitVec.ofInt IntKind.u64.bits a &&& BitVec.ofInt IntKind.u64.bits 6148914691236517205).toNat))) (2 ^ 2)) &&& BitVec.ofInt IntKind.u64.bits 3689348814741910323).toNat) + (IntKind.u64.wrap (BitVec.ofInt IntKind.u64.bits (IntKind.u64.wrap ((IntKind.u64.wrap (BitVec.ofInt IntKind.u64.bits (Int.fdiv a (2 ^ 1)) &&& BitVec.ofInt IntKind.u64.bits 6148914691236517205).toNat) + (IntKind.u64.wrap (BitVec.ofInt IntKind.u64.bits a &&& BitVec.ofInt IntKind.u64.bits 6148914691236517205).toNat))) &&& BitVec.ofInt IntKind.u64.bits 3689348814741910323).toNat))) (2 ^ 4)) + (IntKind.u64.wrap ((IntKind.u64.wrap (BitVec.ofInt IntKind.u64.bits (Int.fdiv (IntKind.u64.wrap ((IntKind.u64.wrap (BitVec.ofInt IntKind.u64.bits (Int.fdiv a (2 ^ 1)) &&& BitVec.ofInt IntKind.u64.bits 6148914691236517205).toNat) + (IntKind.u64.wrap (BitVec.ofInt IntKind.u64.bits a &&& BitVec.ofInt IntKind.u64.bits 6148914691236517205).toNat))) (2 ^ 2)) &&& BitVec.ofInt IntKind.u64.bits 3689348814741910323).toNat) + (IntKind.u64.wrap (BitVec.ofInt IntKind.u64.bits (IntKind.u64.wrap ((IntKind.u64.wrap (BitVec.ofInt IntKind.u64.bits (Int.fdiv a (2 ^ 1)) &&& BitVec.ofInt IntKind.u64.bits 6148914691236517205).toNat) + (IntKind.u64.wrap (BitVec.ofInt IntKind.u64.bits a &&& BitVec.ofInt IntKind.u64.bits 6148914691236517205).toNat))) &&& BitVec.ofInt IntKind.u64.bits 3689348814741910323).toNat))))) &&& BitVec.ofInt IntKind.u64.bits 1085102592571150095).toNat) + (Int.fdiv (IntKind.u64.wrap (BitVec.ofInt IntKind.u64.bits (IntKind.u64.wrap ((Int.fdiv (IntKind.u64.wrap ((IntKind.u64.wrap (BitVec.ofInt IntKind.u64.bits (Int.fdiv (IntKind.u64.wrap ((IntKind.u64.wrap (BitVec.ofInt IntKind.u64.bits (Int.fdiv a (2 ^ 1)) &&& BitVec.ofInt IntKind.u64.bits 6148914691236517205).toNat) + (IntKind.u64.wrap (BitVec.ofInt IntKind.u64.bits a &&& BitVec.ofInt IntKind.u64.bits 6148914691236517205).toNat))) (2 ^ 2)) &&& BitVec.ofInt IntKind.u64.bits 3689348814741910323).toNat) + (IntKind.u64.wrap (BitVec.ofInt IntKind.u64.bits (IntKind.u64.wrap ((IntKind.u64.wrap (BitVec.ofInt IntKind.u64.bits (Int.fdiv a (2 ^ 1)) &&& BitVec.ofInt IntKind.u64.bits 6148914691236517205).toNat) + (IntKind.u64.wrap (BitVec.ofInt IntKind.u64.bits a &&& BitVec.ofInt IntKind.u64.bits 6148914691236517205).toNat))) &&& BitVec.ofInt IntKind.u64.bits 3689348814741910323).toNat))) (2 ^ 4)) + (IntKind.u64.wrap ((IntKind.u64.wrap (BitVec.ofInt IntKind.u64.bits (Int.fdiv (IntKind.u64.wrap ((IntKind.u64.wrap (BitVec.ofInt IntKind.u64.bits (Int.fdiv a (2 ^ 1)) &&& BitVec.ofInt IntKind.u64.bits 6148914691236517205).toNat) + (IntKind.u64.wrap (BitVec.ofInt IntKind.u64.bits a &&& BitVec.ofInt IntKind.u64.bits 6148914691236517205).toNat))) (2 ^ 2)) &&& BitVec.ofInt IntKind.u64.bits 3689348814741910323).toNat) + (IntKind.u64.wrap (BitVec.ofInt IntKind.u64.bits (IntKind.u64.wrap ((IntKind.u64.wrap (BitVec.ofInt IntKind.u64.bits (Int.fdiv a (2 ^ 1)) &&& BitVec.ofInt IntKind.u64.bits 6148914691236517205).toNat) + (IntKind.u64.wrap (BitVec.ofInt IntKind.u64.bits a &&& BitVec.ofInt IntKind.u64.bits 6148914691236517205).toNat))) &&& BitVec.ofInt IntKind.u64.bits 3689348814741910323).toNat))))) &&& BitVec.ofInt IntKind.u64.bits 1085102592571150095).toNat) (2 ^ 8)))) + (Int.fdiv (IntKind.u64.wrap ((IntKind.u64.wrap (BitVec.ofInt IntKind.u64.bits (IntKind.u64.wrap ((Int.fdiv (IntKind.u64.wrap ((IntKind.u64.wrap (BitVec.ofInt IntKind.u64.bits (Int.fdiv (IntKind.u64.wrap ((IntKind.u64.wrap (BitVec.ofInt IntKind.u64.bits (Int.fdiv a (2 ^ 1)) &&& BitVec.ofInt IntKind.u64.bits 6148914691236517205).toNat) + (IntKind.u64.wrap (BitVec.ofInt IntKind.u64.bits a &&& BitVec.ofInt IntKind.u64.bits 6148914691236517205).toNat))) (2 ^ 2)) &&& BitVec.ofInt IntKind.u64.bits 3689348814741910323).toNat) + (IntKind.u64.wrap (BitVec.ofInt IntKind.u64.bits (IntKind.u64.wrap ((IntKind.u64.wrap (BitVec.ofInt IntKind.u64.bits (Int.fdiv a (2 ^ 1)) &&& BitVec.ofInt IntKind.u64.bits 6148914691236517205).toNat) + (IntKind.u64.wrap (BitVec.ofInt IntKind.u64.bits a &&& BitVec.ofInt IntKind.u64.bits 6148914691236517205).toNat))) &&& BitVec.ofInt IntKind.u64.bits 3689348814741910323).toNat))) (2 ^ 4)) + (IntKind.u64.wrap ((IntKind.u64.wrap (BitVec.ofInt IntKind.u64.bits (Int.fdiv (IntKind.u64.wrap ((IntKind.u64.wrap (BitVec.ofInt IntKind.u64.bits (Int.fdiv a (2 ^ 1)) &&& BitVec.ofInt IntKind.u64.bits 6148914691236517205).toNat) + (IntKind.u64.wrap (BitVec.ofInt IntKind.u64.bits a &&& BitVec.ofInt IntKind.u64.bits 6148914691236517205).toNat))) (2 ^ 2)) &&& BitVec.ofInt IntKind.u64.bits 3689348814741910323).toNat) + (IntKind.u64.wrap (BitVec.ofInt IntKind.u64.bits (IntKind.u64.wrap ((IntKind.u64.wrap (BitVec.ofInt IntKind.u64.bits (Int.fdiv a (2 ^ 1)) &&& BitVec.ofInt IntKind.u64.bits 6148914691236517205).toNat) + (IntKind.u64.wrap (BitVec.ofInt IntKind.u64.bits a &&& BitVec.ofInt IntKind.u64.bits 6148914691236517205).toNat))) &&& BitVec.ofInt IntKind.u64.bits 3689348814741910323).toNat))))) &&& BitVec.ofInt IntKind.u64.bits 1085102592571150095).toNat) + (Int.fdiv (IntKind.u64.wrap (BitVec.ofInt IntKind.u64.bits (IntKind.u64.wrap ((Int.fdiv (IntKind.u64.wrap ((IntKind.u64.wrap (BitVec.ofInt IntKind.u64.bits (Int.fdiv (IntKind.u64.wrap ((IntKind.u64.wrap (BitVec.ofInt IntKind.u64.bits (Int.fdiv a (2 ^ 1)) &&& BitVec.ofInt IntKind.u64.bits 6148914691236517205).toNat) + (IntKind.u64.wrap (BitVec.ofInt IntKind.u64.bits a &&& BitVec.ofInt IntKind.u64.bits 6148914691236517205).toNat))) (2 ^ 2)) &&& BitVec.ofInt IntKind.u64.bits 3689348814741910323).toNat) + (IntKind.u64.wrap (BitVec.ofInt IntKind.u64.bits (IntKind.u64.wrap ((IntKind.u64.wrap (BitVec.ofInt IntKind.u64.bits (Int.fdiv a (2 ^ 1)) &&& BitVec.ofInt IntKind.u64.bits 6148914691236517205).toNat) + (IntKind.u64.wrap (BitVec.ofInt IntKind.u64.bits a &&& BitVec.ofInt IntKind.u64.bits 6148914691236517205).toNat))) &&& BitVec.ofInt IntKind.u64.bits 3689348814741910323).toNat))) (2 ^ 4)) + (IntKind.u64.wrap ((IntKind.u64.wrap (BitVec.ofInt IntKind.u64.bits (Int.fdiv (IntKind.u64.wrap ((IntKind.u64.wrap (BitVec.ofInt IntKind.u64.bits (Int.fdiv a (2 ^ 1)) &&& BitVec.ofInt IntKind.u64.bits 6148914691236517205).toNat) + (IntKind.u64.wrap (BitVec.ofInt IntKind.u64.bits a &&& BitVec.ofInt IntKind.u64.bits 6148914691236517205).toNat))) (2 ^ 2)) &&& BitVec.ofInt IntKind.u64.bits 3689348814741910323).toNat) + (IntKind.u64.wrap (BitVec.ofInt IntKind.u64.bits (IntKind.u64.wrap ((IntKind.u64.wrap (BitVec.ofInt IntKind.u64.bits (Int.fdiv a (2 ^ 1)) &&& BitVec.ofInt IntKind.u64.bits 6148914691236517205).toNat) + (IntKind.u64.wrap (BitVec.ofInt IntKind.u64.bits a &&& BitVec.ofInt IntKind.u64.bits 6148914691236517205).toNat))) &&& BitVec.ofInt IntKind.u64.bits 3689348814741910323).toNat))))) &&& BitVec.ofInt IntKind.u64.bits 1085102592571150095).toNat) (2 ^ 8)))) (2 ^ 16)))) + (Int.fdiv (IntKind.u64.wrap ((IntKind.u64.wrap ((IntKind.u64.wrap (BitVec.ofInt IntKind.u64.bits (IntKind.u64.wrap ((Int.fdiv (IntKind.u64.wrap ((IntKind.u64.wrap (BitVec.ofInt IntKind.u64.bits (Int.fdiv (IntKind.u64.wrap ((IntKind.u64.wrap (BitVec.ofInt IntKind.u64.bits (Int.fdiv a (2 ^ 1)) &&& BitVec.ofInt IntKind.u64.bits 6148914691236517205).toNat) + (IntKind.u64.wrap (BitVec.ofInt IntKind.u64.bits a &&& BitVec.ofInt IntKind.u64.bits 6148914691236517205).toNat))) (2 ^ 2)) &&& BitVec.ofInt IntKind.u64.bits 3689348814741910323).toNat) + (IntKind.u64.wrap (BitVec.ofInt IntKind.u64.bits (IntKind.u64.wrap ((IntKind.u64.wrap (BitVec.ofInt IntKind.u64.bits (Int.fdiv a (2 ^ 1)) &&& BitVec.ofInt IntKind.u64.bits 6148914691236517205).toNat) + (IntKind.u64.wrap (BitVec.ofInt IntKind.u64.bits a &&& BitVec.ofInt IntKind.u64.bits 6148914691236517205).toNat))) &&& BitVec.ofInt IntKind.u64.bits 3689348814741910323).toNat))) (2 ^ 4)) + (IntKind.u64.wrap ((IntKind.u64.wrap (BitVec.ofInt IntKind.u64.bits (Int.fdiv (IntKind.u64.wrap ((IntKind.u64.wrap (BitVec.ofInt IntKind.u64.bits (Int.fdiv a (2 ^ 1)) &&& BitVec.ofInt IntKind.u64.bits 6148914691236517205).toNat) + (IntKind.u64.wrap (BitVec.ofInt IntKind.u64.bits a &&& BitVec.ofInt IntKind.u64.bits 6148914691236517205).toNat))) (2 ^ 2)) &&& BitVec.ofInt IntKind.u64.bits 3689348814741910323).toNat) + (IntKind.u64.wrap (BitVec.ofInt IntKind.u64.bits (IntKind.u64.wrap ((IntKind.u64.wrap (BitVec.ofInt IntKind.u64.bits (Int.fdiv a (2 ^ 1)) &&& BitVec.ofInt IntKind.u64.bits 6148914691236517205).toNat) + (IntKind.u64.wrap (BitVec.ofInt IntKind.u64.bits a &&& BitVec.ofInt IntKind.u64.bits 6148914691236517205).toNat))) &&& BitVec.ofInt IntKind.u64.bits 3689348814741910323).toNat))))) &&& BitVec.ofInt IntKind.u64.bits 1085102592571150095).toNat) + (Int.fdiv (IntKind.u64.wrap (BitVec.ofInt IntKind.u64.bits (IntKind.u64.wrap ((Int.fdiv (IntKind.u64.wrap ((IntKind.u64.wrap (BitVec.ofInt IntKind.u64.bits (Int.fdiv (IntKind.u64.wrap ((IntKind.u64.wrap (BitVec.ofInt IntKind.u64.bits (Int.fdiv a (2 ^ 1)) &&& BitVec.ofInt IntKind.u64.bits 6148914691236517205).toNat) + (IntKind.u64.wrap (BitVec.ofInt IntKind.u64.bits a &&& BitVec.ofInt IntKind.u64.bits 6148914691236517205).toNat))) (2 ^ 2)) &&& BitVec.ofInt IntKind.u64.bits 3689348814741910323).toNat) + (IntKind.u64.wrap (BitVec.ofInt IntKind.u64.bits (IntKind.u64.wrap ((IntKind.u64.wrap (BitVec.ofInt IntKind.u64.bits (Int.fdiv a (2 ^ 1)) &&& BitVec.ofInt IntKind.u64.bits 6148914691236517205).toNat) + (IntKind.u64.wrap (BitVec.ofInt IntKind.u64.bits a &&& BitVec.ofInt IntKind.u64.bits 6148914691236517205).toNat))) &&& BitVec.ofInt IntKind.u64.bits 3689348814741910323).toNat))) (2 ^ 4)) + (IntKind.u64.wrap ((IntKind.u64.wrap (BitVec.ofInt IntKind.u64.bits (Int.fdiv (IntKind.u64.wrap ((IntKind.u64.wrap (BitVec.ofInt IntKind.u64.bits (Int.fdiv a (2 ^ 1)) &&& BitVec.ofInt IntKind.u64.bits 6148914691236517205).toNat) + (IntKind.u64.wrap (BitVec.ofInt IntKind.u64.bits a &&& BitVec.ofInt IntKind.u64.bits 6148914691236517205).toNat))) (2 ^ 2)) &&& BitVec.ofInt IntKind.u64.bits 3689348814741910323).toNat) + (IntKind.u64.wrap (BitVec.ofInt IntKind.u64.bits (IntKind.u64.wrap ((IntKind.u64.wrap (BitVec.ofInt IntKind.u64.bits (Int.fdiv a (2 ^ 1)) &&& BitVec.ofInt IntKind.u64.bits 6148914691236517205).toNat) + (IntKind.u64.wrap (BitVec.ofInt IntKind.u64.bits a &&& BitVec.ofInt IntKind.u64.bits 6148914691236517205).toNat))) &&& BitVec.ofInt IntKind.u64.bits 3689348814741910323).toNat))))) &&& BitVec.ofInt IntKind.u64.bits 1085102592571150095).toNat) (2 ^ 8)))) + (Int.fdiv (IntKind.u64.wrap ((IntKind.u64.wrap (BitVec.ofInt IntKind.u64.bits (IntKind.u64.wrap ((Int.fdiv (IntKind.u64.wrap ((IntKind.u64.wrap (BitVec.ofInt IntKind.u64.bits (Int.fdiv (IntKind.u64.wrap ((IntKind.u64.wrap (BitVec.ofInt IntKind.u64.bits (Int.fdiv a (2 ^ 1)) &&& BitVec.ofInt IntKind.u64.bits 6148914691236517205).toNat) + (IntKind.u64.wrap (BitVec.ofInt IntKind.u64.bits a &&& BitVec.ofInt IntKind.u64.bits 6148914691236517205).toNat))) (2 ^ 2)) &&& BitVec.ofInt IntKind.u64.bits 3689348814741910323).toNat) + (IntKind.u64.wrap (BitVec.ofInt IntKind.u64.bits (IntKind.u64.wrap ((IntKind.u64.wrap (BitVec.ofInt IntKind.u64.bits (Int.fdiv a (2 ^ 1)) &&& BitVec.ofInt IntKind.u64.bits 6148914691236517205).toNat) + (IntKind.u64.wrap (BitVec.ofInt IntKind.u64.bits a &&& BitVec.ofInt IntKind.u64.bits 6148914691236517205).toNat))) &&& BitVec.ofInt IntKind.u64.bits 3689348814741910323).toNat))) (2 ^ 4)) + (IntKind.u64.wrap ((IntKind.u64.wrap (BitVec.ofInt IntKind.u64.bits (Int.fdiv (IntKind.u64.wrap ((IntKind.u64.wrap (BitVec.ofInt IntKind.u64.bits (Int.fdiv a (2 ^ 1)) &&& BitVec.ofInt IntKind.u64.bits 6148914691236517205).toNat) + (IntKind.u64.wrap (BitVec.ofInt IntKind.u64.bits a &&& BitVec.ofInt IntKind.u64.bits 6148914691236517205).toNat))) (2 ^ 2)) &&& BitVec.ofInt IntKind.u64.bits 3689348814741910323).toNat) + (IntKind.u64.wrap (BitVec.ofInt IntKind.u64.bits (IntKind.u64.wrap ((IntKind.u64.wrap (BitVec.ofInt IntKind.u64.bits (Int.fdiv a (2 ^ 1)) &&& BitVec.ofInt IntKind.u64.bits 6148914691236517205).toNat) + (IntKind.u64.wrap (BitVec.ofInt IntKind.u64.bits a &&& BitVec.ofInt IntKind.u64.bits 6148914691236517205).toNat))) &&& BitVec.ofInt IntKind.u64.bits 3689348814741910323).toNat))))) &&& BitVec.ofInt IntKind.u64.bits 1085102592571150095).toNat) + (Int.fdiv (IntKind.u64.wrap (BitVec.ofInt IntKind.u64.bits (IntKind.u64.wrap ((Int.fdiv (IntKind.u64.wrap ((IntKind.u64.wrap (BitVec.ofInt IntKind.u64.bits (Int.fdiv (IntKind.u64.wrap ((IntKind.u64.wrap (BitVec.ofInt IntKind.u64.bits (Int.fdiv a (2 ^ 1)) &&& BitVec.ofInt IntKind.u64.bits 6148914691236517205).toNat) + (IntKind.u64.wrap (BitVec.ofInt IntKind.u64.bits a &&& BitVec.ofInt IntKind.u64.bits 6148914691236517205).toNat))) (2 ^ 2)) &&& BitVec.ofInt IntKind.u64.bits 3689348814741910323).toNat) + (IntKind.u64.wrap (BitVec.ofInt IntKind.u64.bits (IntKind.u64.wrap ((IntKind.u64.wrap (BitVec.ofInt IntKind.u64.bits (Int.fdiv a (2 ^ 1)) &&& BitVec.ofInt IntKind.u64.bits 6148914691236517205).toNat) + (IntKind.u64.wrap (BitVec.ofInt IntKind.u64.bits a &&& BitVec.ofInt IntKind.u64.bits 6148914691236517205).toNat))) &&& BitVec.ofInt IntKind.u64.bits 3689348814741910323).toNat))) (2 ^ 4)) + (IntKind.u64.wrap ((IntKind.u64.wrap (BitVec.ofInt IntKind.u64.bits (Int.fdiv (IntKind.u64.wrap ((IntKind.u64.wrap (BitVec.ofInt IntKind.u64.bits (Int.fdiv a (2 ^ 1)) &&& BitVec.ofInt IntKind.u64.bits 6148914691236517205).toNat) + (IntKind.u64.wrap (BitVec.ofInt IntKind.u64.bits a &&& BitVec.ofInt IntKind.u64.bits 6148914691236517205).toNat))) (2 ^ 2)) &&& BitVec.ofInt IntKind.u64.bits 3689348814741910323).toNat) + (IntKind.u64.wrap (BitVec.ofInt IntKind.u64.bits (IntKind.u64.wrap ((IntKind.u64.wrap (BitVec.ofInt IntKind.u64.bits (Int.fdiv a (2 ^ 1)) &&& BitVec.ofInt IntKind.u64.bits 6148914691236517205).toNat) + (IntKind.u64.wrap (BitVec.ofInt IntKind.u64.bits a &&& BitVec.ofInt IntKind.u64.bits 6148914691236517205).toNat))) &&& BitVec.ofInt IntKind.u64.bits 3689348814741910323).toNat))))) &&& BitVec.ofInt IntKind.u64.bits 1085102592571150095).toNat) (2 ^ 8)))) (2 ^ 16)))) (2 ^ 32))))) &&& BitVec.ofInt IntKind.i64.bits 127).toNat)
noncomputable def Zcr (a : Int) : Option Int :=
 (Zb9 a).bind fun x0 =>
 some x0
def ZqE : List Int := [0, 1, 56, 2, 57, 49, 28, 3, 61, 58, 42, 50, 38, 29, 17, 4, 62, 47, 59, 36, 45, 43, 51, 22, 53, 39, 33, 30, 24, 18, 12, 5, 63, 55, 48, 27, 60, 41, 37, 16, 46, 35, 44, 21, 52, 32, 23, 11, 54, 26, 40, 15, 34, 20, 31, 10, 25, 14, 19, 9, 13, 8, 7, 6]
def Zc9 (a : Int) : Option Int := some (bif a == 0 then 64 else w64 (ZqE.getD (Int.fdiv (IntKind.u64.wrap ((IntKind.u64.wrap (BitVec.ofInt IntKind.u64.bits a &&& BitVec.ofInt IntKind.u64.bits (IntKind.u64.wrap (0 - a))).toNat) * 285870213051353865)) (2 ^ (min (Int.toNat 58) IntKind.u64.bits))).toNat 0))
noncomputable def Zcp (a : Int) : Option Int :=
 (Zc9 a).bind fun x0 =>
 some x0
noncomputable def Zit (a : Int) : Option (Int × Bool) :=
 (Zgo a).bind fun x0 =>
 bif (x0 != 0) then
  some (0, false)
 else
  (Zcr (IntKind.u64.wrap a)).bind fun x1 =>
  bif (x1 != 1) then
   some (0, false)
  else
   (Zcp (IntKind.u64.wrap a)).bind fun x2 =>
   some (x2, true)
noncomputable def Zek (a : ZG) : Option Bool :=
 (Zbi a.op 0 5).bind fun x0 =>
 bif x0 then
  (Zbi a.arg 0 2147483647).bind fun x1 =>
  bif x1 then
   (Zbi a.work 1 100).bind fun x2 =>
   bif x2 then
    some false
   else
    some true
  else
   some true
 else
  some true
noncomputable def ZaK (a : (List ZG)) (b : (ZG → Option Bool)) (s0 : Int) : Option (Int ⊕ (Int ⊕ Unit)) :=
 bif (decide (s0 < (a.length : Int))) then
  (ZA a s0).bind fun x1 =>
  (b x1).bind fun x2 =>
  bif x2 then
   some (.inr (.inl s0))
  else
   some (.inl (w64 (s0 + 1)))
 else
  some (.inr (.inr ()))
noncomputable def ZbH (a : (List ZG)) (b : (ZG → Option Bool)) : Option Int :=
 (lp (ZaK a b) 0).bind fun r3 =>
 match r3 with
 | (.inl r3) =>
  some r3
 | (.inr r3) =>
  some (-1)
noncomputable def ZaJ (a : (List ZG)) (b : (ZG → Option Bool)) : Option Bool :=
 (ZbH a b).bind fun x0 =>
 bif (decide (0 ≤ x0)) then
  some true
 else
  some false
noncomputable def Zf5 (a : Zh) (b : Int) (c : Int) : Option Bool :=
 bif (b != c) then
  (Zbi b 0 (w64 ((a.parts.length : Int) - 1))).bind fun x0 =>
  bif x0 then
   (Zbi c 0 (w64 ((a.parts.length : Int) - 1))).bind fun x1 =>
   bif x1 then
    some true
   else
    some false
  else
   some false
 else
  some false
noncomputable def Za5 (a : (List ZM)) (b : ZM) (s0 : Int) : Option (Int ⊕ (Int ⊕ Unit)) :=
 bif (decide (s0 < (a.length : Int))) then
  (ZA a s0).bind fun x1 =>
  bif ((b.src == x1.src) && ((b.dst == x1.dst) && true)) then
   some (.inr (.inl s0))
  else
   some (.inl (w64 (s0 + 1)))
 else
  some (.inr (.inr ()))
noncomputable def Zci (a : (List ZM)) (b : ZM) : Option Int :=
 (lp (Za5 a b) 0).bind fun r2 =>
 match r2 with
 | (.inl r2) =>
  some r2
 | (.inr r2) =>
  some (-1)
noncomputable def Za4 (a : (List ZM)) (b : ZM) : Option Bool :=
 (Zci a b).bind fun x0 =>
 bif (decide (0 ≤ x0)) then
  some true
 else
  some false
noncomputable def ZcK (a : Zs) (b1 : Int) (b2 : Int) : Option Bool :=
 bif (a.user == b1) then
  bif (a.pos == b2) then
   some true
  else
   some false
 else
  some false
noncomputable def Zat (a : (List Zs)) (b : (Zs → Option Bool)) (s0 : Int) : Option (Int ⊕ (Int ⊕ Unit)) :=
 bif (decide (s0 < (a.length : Int))) then
  (ZA a s0).bind fun x1 =>
  (b x1).bind fun x2 =>
  bif x2 then
   some (.inr (.inl s0))
  else
   some (.inl (w64 (s0 + 1)))
 else
  some (.inr (.inr ()))
noncomputable def Za7 (a : (List Zs)) (b : (Zs → Option Bool)) : Option Int :=
 (lp (Zat a b) 0).bind fun r3 =>
 match r3 with
 | (.inl r3) =>
  some r3
 | (.inr r3) =>
  some (-1)
noncomputable def Zas (a : (List Zs)) (b : (Zs → Option Bool)) : Option Bool :=
 (Za7 a b).bind fun x0 =>
 bif (decide (0 ≤ x0)) then
  some true
 else
  some false
noncomputable def ZeG (a : Zh) (b : (List Int)) (s0 : Int) : Option (Int ⊕ (Unit ⊕ Unit)) :=
 bif (decide (s0 < (b.length : Int))) then
  (ZA b s0).bind fun x1 =>
  (Zbi x1 0 (w64 ((a.parts.length : Int) - 1))).bind fun x2 =>
  bif x2 then
   bif (decide (0 < s0)) then
    (ZA b (w64 (s0 - 1))).bind fun x3 =>
    bif (decide (x1 ≤ x3)) then
     some (.inr (.inl ()))
    else
     some (.inl (w64 (s0 + 1)))
   else
    some (.inl (w64 (s0 + 1)))
  else
   some (.inr (.inl ()))
 else
  some (.inr (.inr ()))
noncomputable def Zf6 (a : Zh) (b : (List Int)) : Option Bool :=
 (lp (ZeG a b) 0).bind fun r4 =>
 match r4 with
 | (.inl r4) =>
  some false
 | (.inr r4) =>
  bif (decide (0 < (b.length : Int))) then
   some true
  else
   some false
noncomputable def Zbp (a : (List Int)) (b : Int) (s0 : Int) : Option (Int ⊕ (Int ⊕ Unit)) :=
 bif (decide (s0 < (a.length : Int))) then
  (ZA a s0).bind fun x1 =>
  bif (b == x1) then
   some (.inr (.inl s0))
  else
   some (.inl (w64 (s0 + 1)))
 else
  some (.inr (.inr ()))
noncomputable def ZcF (a : (List Int)) (b : Int) : Option Int :=
 (lp (Zbp a b) 0).bind fun r2 =>
 match r2 with
 | (.inl r2) =>
  some r2
 | (.inr r2) =>
  some (-1)
noncomputable def ZaV (a : (List Int)) (b : Int) : Option Bool :=
 (ZcF a b).bind fun x0 =>
 bif (decide (0 ≤ x0)) then
  some true
 else
  some false
noncomputable def ZcI (a : Int) (b1 : (List Int)) : Option Bool :=
 (ZaV b1 a).bind fun x0 =>
 bif x0 then
  some true
 else
  some false
noncomputable def ZaW (a : (List Int)) (b : (Int → Option Bool)) (s0 : Int) : Option (Int ⊕ (Int ⊕ Unit)) :=
 bif (decide (s0 < (a.length : Int))) then
  (ZA a s0).bind fun x1 =>
  (b x1).bind fun x2 =>
  bif x2 then
   some (.inr (.inl s0))
  else
   some (.inl (w64 (s0 + 1)))
 else
  some (.inr (.inr ()))
noncomputable def ZbZ (a : (List Int)) (b : (Int → Option Bool)) : Option Int :=
 (lp (ZaW a b) 0).bind fun r3 =>
 match r3 with
 | (.inl r3) =>
  some r3
 | (.inr r3) =>
  some (-1)
noncomputable def ZaX (a : (List Int)) (b : (Int → Option Bool)) : Option Bool :=
 (ZbZ a b).bind fun x0 =>
 bif (decide (0 ≤ x0)) then
  some true
 else
  some false
noncomputable def Zc2 (a : Zh) (s4 : Int) : Option (Int ⊕ (Unit ⊕ Unit)) :=
 bif (decide (s4 < (a.edges.length : Int))) then
  (ZA a.edges s4).bind fun x5 =>
  (Zf5 a x5.src x5.dst).bind fun x6 =>
  bif x6 then
   bif (decide (0 ≤ s4)) then
    bif (Nat.ble s4.toNat (List.length a.edges)) then
     (Za4 (List.take s4.toNat a.edges) x5).bind fun x7 =>
     bif x7 then
      some (.inr (.inl ()))
     else
      some (.inl (w64 (s4 + 1)))
    else
     none
   else
    none
  else
   some (.inr (.inl ()))
 else
  some (.inr (.inr ()))
noncomputable def ZcW (a : Zh) (s9 : Int) : Option (Int ⊕ (Unit ⊕ Unit)) :=
 bif (decide (s9 < (a.futures.length : Int))) then
  (ZA a.futures s9).bind fun x10 =>
  (Zf5 a x10.maker x10.user).bind fun x11 =>
  bif x11 then
   (ZA a.parts x10.user).bind fun x12 =>
   (Zbi x10.pos 1 (w64 (x12.work - 1))).bind fun x13 =>
   bif x13 then
    bif (decide (0 ≤ s9)) then
     bif (Nat.ble s9.toNat (List.length a.futures)) then
      (Zas (List.take s9.toNat a.futures) (fun z0 => ZcK z0 x10.user x10.pos)).bind fun x14 =>
      bif x14 then
       some (.inr (.inl ()))
      else
       some (.inl (w64 (s9 + 1)))
     else
      none
    else
     none
   else
    some (.inr (.inl ()))
  else
   some (.inr (.inl ()))
 else
  some (.inr (.inr ()))
noncomputable def Zc3 (a : Zh) (s16 : Int) : Option (Int ⊕ (Unit ⊕ Unit)) :=
 bif (decide (s16 < (a.barriers.length : Int))) then
  (ZA a.barriers s16).bind fun x17 =>
  (Zf6 a x17.ins).bind fun x18 =>
  bif x18 then
   (Zf6 a x17.outs).bind fun x19 =>
   bif x19 then
    (ZaX x17.ins (fun z0 => ZcI z0 x17.outs)).bind fun x20 =>
    bif x20 then
     some (.inr (.inl ()))
    else
     some (.inl (w64 (s16 + 1)))
   else
    some (.inr (.inl ()))
  else
   some (.inr (.inl ()))
 else
  some (.inr (.inr ()))
noncomputable def Zen (a : Zh) : Option Int :=
 (Zbi (a.parts.length : Int) 1 16).bind fun x0 =>
 bif x0 then
  bif (decide (48 < (a.edges.length : Int))) then
   some 50
  else
   bif (decide (16 < (a.futures.length : Int))) then
    some 50
   else
    bif (decide (4 < (a.barriers.length : Int))) then
     some 50
    else
     (Zit a.period).bind fun x1 =>
     bif x1.2 then
      bif (decide (4096 < a.period)) then
       some 51
      else
       (Zbi a.deadline 1 a.period).bind fun x2 =>
       bif x2 then
        (ZaJ a.parts (fun z0 => Zek z0)).bind fun x3 =>
        bif x3 then
         some 52
        else
         (lp (Zc2 a) 0).bind fun r8 =>
         match r8 with
         | (.inl r8) =>
          some 53
         | (.inr r8) =>
          (lp (ZcW a) 0).bind fun r15 =>
          match r15 with
          | (.inl r15) =>
           some 54
          | (.inr r15) =>
           (lp (Zc3 a) 0).bind fun r21 =>
           match r21 with
           | (.inl r21) =>
            some 55
           | (.inr r21) =>
            some 0
       else
        some 51
     else
      some 51
 else
  some 50
noncomputable def ZbB (a : Zh) (b : Zn) (c : Int) : Option Bool :=
 (ZA b.work c).bind fun x0 =>
 (ZA a.parts c).bind fun x1 =>
 bif (x0 == x1.work) then
  some true
 else
  some false
noncomputable def Zcy (a : Zh) (b : Zn) (c : Int) (s0 : Int) : Option (Int ⊕ (Unit ⊕ Unit)) :=
 bif (decide (s0 < (a.edges.length : Int))) then
  (ZA a.edges s0).bind fun x1 =>
  bif (x1.dst == c) then
   (ZbB a b x1.src).bind fun x2 =>
   bif x2 then
    some (.inl (w64 (s0 + 1)))
   else
    some (.inr (.inl ()))
  else
   some (.inl (w64 (s0 + 1)))
 else
  some (.inr (.inr ()))
noncomputable def Zb2 (a : Zh) (b : Zn) (x5 : Zo) (s7 : Int) : Option (Int ⊕ (Unit ⊕ Unit)) :=
 bif (decide (s7 < (x5.ins.length : Int))) then
  (ZA x5.ins s7).bind fun x8 =>
  (ZbB a b x8).bind fun x9 =>
  bif x9 then
   some (.inl (w64 (s7 + 1)))
  else
   some (.inr (.inl ()))
 else
  some (.inr (.inr ()))
noncomputable def Zcw (a : Zh) (b : Zn) (c : Int) (s4 : Int) : Option (Int ⊕ (Unit ⊕ Unit)) :=
 bif (decide (s4 < (a.barriers.length : Int))) then
  (ZA a.barriers s4).bind fun x5 =>
  (ZaV x5.outs c).bind fun x6 =>
  bif x6 then
   (lp (Zb2 a b x5) 0).bind fun r10 =>
   match r10 with
   | (.inl r10) =>
    some (.inr (.inl ()))
   | (.inr r10) =>
    some (.inl (w64 (s4 + 1)))
  else
   some (.inl (w64 (s4 + 1)))
 else
  some (.inr (.inr ()))
noncomputable def Zew (a : Zh) (b : Zn) (c : Int) : Option Bool :=
 (lp (Zcy a b c) 0).bind fun r3 =>
 match r3 with
 | (.inl r3) =>
  some false
 | (.inr r3) =>
  (lp (Zcw a b c) 0).bind fun r11 =>
  match r11 with
  | (.inl r11) =>
   some false
  | (.inr r11) =>
   some true
noncomputable def Zcx (a : Zh) (b : Zn) (c : Int) (s3 : Int) : Option (Int ⊕ (Unit ⊕ Unit)) :=
 bif (decide (s3 < (a.futures.length : Int))) then
  (ZA a.futures s3).bind fun x4 =>
  bif (x4.user == c) then
   (ZA b.work c).bind fun x5 =>
   bif (x4.pos == x5) then
    (ZbB a b x4.maker).bind fun x6 =>
    bif x6 then
     some (.inr (.inl ()))
    else
     some (.inr (.inr ()))
   else
    some (.inl (w64 (s3 + 1)))
  else
   some (.inl (w64 (s3 + 1)))
 else
  some (.inr (.inl ()))
noncomputable def Zfy (a : Zh) (b : Zn) (c : Int) (s8 : Int) : Option (Int ⊕ (Unit ⊕ Unit)) :=
 bif (decide (s8 < (a.futures.length : Int))) then
  (ZA a.futures s8).bind fun x9 =>
  bif (x9.user == c) then
   (ZA b.work c).bind fun x10 =>
   bif (x9.pos == x10) then
    (ZbB a b x9.maker).bind fun x11 =>
    bif x11 then
     some (.inr (.inl ()))
    else
     some (.inr (.inr ()))
   else
    some (.inl (w64 (s8 + 1)))
  else
   some (.inl (w64 (s8 + 1)))
 else
  some (.inr (.inl ()))
noncomputable def Zfi (a : Zh) (b : Zn) (c : Int) : Option Bool :=
 (ZbB a b c).bind fun x0 =>
 bif x0 then
  some false
 else
  (ZA b.work c).bind fun x1 =>
  bif (x1 == 0) then
   (Zew a b c).bind fun x2 =>
   bif x2 then
    (lp (Zcx a b c) 0).bind fun r7 =>
    match r7 with
    | (.inl r7) =>
     some true
    | (.inr r7) =>
     some false
   else
    some false
  else
   (lp (Zfy a b c) 0).bind fun r12 =>
   match r12 with
   | (.inl r12) =>
    some true
   | (.inr r12) =>
    some false
noncomputable def ZdN (a : Zh) (b : Zn) (s0 : Int × (List Int)) : Option ((Int × (List Int)) ⊕ (List Int)) :=
 bif (decide (s0.1 < (a.parts.length : Int))) then
  (Zfi a b s0.1).bind fun x1 =>
  bif x1 then
   bif (Nat.ble (List.length s0.2 + 1) lim) then
    some (.inl ((w64 (s0.1 + 1)), (s0.2 ++ [s0.1])))
   else
    none
  else
   some (.inl ((w64 (s0.1 + 1)), s0.2))
 else
  some (.inr s0.2)
noncomputable def Ze5 (a : Zh) (b : Zn) : Option (List Int) :=
 (lp (ZdN a b) (0, ([] : (List Int)))).bind fun r2 =>
 some r2
noncomputable def Zbh (a : (List Int)) : Option Unit :=
 bif (Nat.blt 0 (List.length a)) then
  bif (Nat.ble (List.length a) lim) then
   some ()
  else
   none
 else
  none
noncomputable def Zq (a : Int) (b : Int) (c4 : (List Zs)) : Option Int :=
 (ZA c4 a).bind fun x0 =>
 (ZA c4 b).bind fun x1 =>
 some (w64 (x0.pos - x1.pos))
noncomputable def ZfK (a : Int) : Option Int :=
 bif (decide (4294967296 ≤ a)) then
  bif (decide (65536 ≤ (Int.fdiv a (2 ^ 32)))) then
   bif (decide (256 ≤ (Int.fdiv (Int.fdiv a (2 ^ 32)) (2 ^ 16)))) then
    bif (decide (0 ≤ (IntKind.u8.wrap (Int.fdiv (Int.fdiv (Int.fdiv a (2 ^ 32)) (2 ^ 16)) (2 ^ 8))))) then
     (Zq2[(IntKind.u8.wrap (Int.fdiv (Int.fdiv (Int.fdiv a (2 ^ 32)) (2 ^ 16)) (2 ^ 8))).toNat]?).bind fun x0 =>
     some (w64 (56 + (w64 (x0.toNat : Int))))
    else
     none
   else
    bif (decide (0 ≤ (IntKind.u8.wrap (Int.fdiv (Int.fdiv a (2 ^ 32)) (2 ^ 16))))) then
     (Zq2[(IntKind.u8.wrap (Int.fdiv (Int.fdiv a (2 ^ 32)) (2 ^ 16))).toNat]?).bind fun x1 =>
     some (w64 (48 + (w64 (x1.toNat : Int))))
    else
     none
  else
   bif (decide (256 ≤ (Int.fdiv a (2 ^ 32)))) then
    bif (decide (0 ≤ (IntKind.u8.wrap (Int.fdiv (Int.fdiv a (2 ^ 32)) (2 ^ 8))))) then
     (Zq2[(IntKind.u8.wrap (Int.fdiv (Int.fdiv a (2 ^ 32)) (2 ^ 8))).toNat]?).bind fun x2 =>
     some (w64 (40 + (w64 (x2.toNat : Int))))
    else
     none
   else
    bif (decide (0 ≤ (IntKind.u8.wrap (Int.fdiv a (2 ^ 32))))) then
     (Zq2[(IntKind.u8.wrap (Int.fdiv a (2 ^ 32))).toNat]?).bind fun x3 =>
     some (w64 (32 + (w64 (x3.toNat : Int))))
    else
     none
 else
  bif (decide (65536 ≤ a)) then
   bif (decide (256 ≤ (Int.fdiv a (2 ^ 16)))) then
    bif (decide (0 ≤ (IntKind.u8.wrap (Int.fdiv (Int.fdiv a (2 ^ 16)) (2 ^ 8))))) then
     (Zq2[(IntKind.u8.wrap (Int.fdiv (Int.fdiv a (2 ^ 16)) (2 ^ 8))).toNat]?).bind fun x4 =>
     some (w64 (24 + (w64 (x4.toNat : Int))))
    else
     none
   else
    bif (decide (0 ≤ (IntKind.u8.wrap (Int.fdiv a (2 ^ 16))))) then
     (Zq2[(IntKind.u8.wrap (Int.fdiv a (2 ^ 16))).toNat]?).bind fun x5 =>
     some (w64 (16 + (w64 (x5.toNat : Int))))
    else
     none
  else
   bif (decide (256 ≤ a)) then
    bif (decide (0 ≤ (IntKind.u8.wrap (Int.fdiv a (2 ^ 8))))) then
     (Zq2[(IntKind.u8.wrap (Int.fdiv a (2 ^ 8))).toNat]?).bind fun x6 =>
     some (w64 (8 + (w64 (x6.toNat : Int))))
    else
     none
   else
    bif (decide (0 ≤ (IntKind.u8.wrap a))) then
     (Zq2[(IntKind.u8.wrap a).toNat]?).bind fun x7 =>
     some (w64 (0 + (w64 (x7.toNat : Int))))
    else
     none
noncomputable def ZdM (a : Int) : Option Int :=
 (ZfK a).bind fun x0 =>
 some x0
noncomputable def ZS (b : Int) (d : (Int → Int → Option Int)) (s1 : Int × (List Int)) : Option ((Int × (List Int)) ⊕ (List Int)) :=
 bif (decide (b < s1.1)) then
  (ZA s1.2 s1.1).bind fun x2 =>
  (ZA s1.2 (w64 (s1.1 - 1))).bind fun x3 =>
  (d x2 x3).bind fun x4 =>
  bif (decide (x4 < 0)) then
   (ZA (List.set s1.2 s1.1.toNat x3) (w64 (s1.1 - 1))).bind fun x5 =>
   some (.inl ((w64 (s1.1 - 1)), (List.set (List.set s1.2 s1.1.toNat x3) (w64 (s1.1 - 1)).toNat x2)))
  else
   some (.inr s1.2)
 else
  some (.inr s1.2)
noncomputable def Zaf (b : Int) (c : Int) (d : (Int → Int → Option Int)) (s0 : Int × (List Int)) : Option ((Int × (List Int)) ⊕ (List Int)) :=
 bif (decide (s0.1 < c)) then
  (lp (ZS b d) (s0.1, s0.2)).bind fun r6 =>
  some (.inl ((w64 (s0.1 + 1)), r6))
 else
  some (.inr s0.2)
noncomputable def ZR (b : Int) (c : Int) (d : (Int → Int → Option Int)) (m0_0 : (List Int)) : Option (List Int) :=
 (lp (Zaf b c d) ((w64 (b + 1)), m0_0)).bind fun r7 =>
 some r7
noncomputable def ZF (c : Int) (d : Int) (e : (Int → Int → Option Int)) (s0 : Int × (List Int)) : Option ((Int × (List Int)) ⊕ ((List Int) ⊕ (List Int))) :=
 bif (decide (c ≤ (w64 ((w64 (2 * s0.1)) + 1)))) then
  some (.inr (.inl s0.2))
 else
  bif (decide ((w64 ((w64 ((w64 (2 * s0.1)) + 1)) + 1)) < c)) then
   (ZA s0.2 (w64 (d + (w64 ((w64 (2 * s0.1)) + 1))))).bind fun x1 =>
   (ZA s0.2 (w64 ((w64 (d + (w64 ((w64 (2 * s0.1)) + 1)))) + 1))).bind fun x2 =>
   (e x1 x2).bind fun x3 =>
   bif (decide (x3 < 0)) then
    (ZA s0.2 (w64 (d + s0.1))).bind fun x4 =>
    (ZA s0.2 (w64 (d + (w64 ((w64 ((w64 (2 * s0.1)) + 1)) + 1))))).bind fun x5 =>
    (e x4 x5).bind fun x6 =>
    bif (decide (x6 < 0)) then
     (ZA (List.set s0.2 (w64 (d + s0.1)).toNat x5) (w64 (d + (w64 ((w64 ((w64 (2 * s0.1)) + 1)) + 1))))).bind fun x7 =>
     some (.inl ((w64 ((w64 ((w64 (2 * s0.1)) + 1)) + 1)), (List.set (List.set s0.2 (w64 (d + s0.1)).toNat x5) (w64 (d + (w64 ((w64 ((w64 (2 * s0.1)) + 1)) + 1)))).toNat x4)))
    else
     some (.inr (.inr s0.2))
   else
    (ZA s0.2 (w64 (d + s0.1))).bind fun x8 =>
    (e x8 x1).bind fun x9 =>
    bif (decide (x9 < 0)) then
     (ZA (List.set s0.2 (w64 (d + s0.1)).toNat x1) (w64 (d + (w64 ((w64 (2 * s0.1)) + 1))))).bind fun x10 =>
     some (.inl ((w64 ((w64 (2 * s0.1)) + 1)), (List.set (List.set s0.2 (w64 (d + s0.1)).toNat x1) (w64 (d + (w64 ((w64 (2 * s0.1)) + 1)))).toNat x8)))
    else
     some (.inr (.inr s0.2))
  else
   (ZA s0.2 (w64 (d + s0.1))).bind fun x11 =>
   (ZA s0.2 (w64 (d + (w64 ((w64 (2 * s0.1)) + 1))))).bind fun x12 =>
   (e x11 x12).bind fun x13 =>
   bif (decide (x13 < 0)) then
    (ZA (List.set s0.2 (w64 (d + s0.1)).toNat x12) (w64 (d + (w64 ((w64 (2 * s0.1)) + 1))))).bind fun x14 =>
    some (.inl ((w64 ((w64 (2 * s0.1)) + 1)), (List.set (List.set s0.2 (w64 (d + s0.1)).toNat x12) (w64 (d + (w64 ((w64 (2 * s0.1)) + 1)))).toNat x11)))
   else
    some (.inr (.inr s0.2))
noncomputable def Zaz (b : Int) (c : Int) (d : Int) (e : (Int → Int → Option Int)) (m0_0 : (List Int)) : Option (List Int) :=
 (lp (ZF c d e) (b, m0_0)).bind fun r15 =>
 match r15 with
 | (.inl r15) =>
  some r15
 | (.inr r15) =>
  some r15
noncomputable def ZaC (b : Int) (c : Int) (d : (Int → Int → Option Int)) (s0 : Int × (List Int)) : Option ((Int × (List Int)) ⊕ (List Int)) :=
 bif (decide (0 ≤ s0.1)) then
  (Zaz s0.1 (w64 (c - b)) b d s0.2).bind fun x1 =>
  some (.inl ((w64 (s0.1 - 1)), x1))
 else
  some (.inr s0.2)
noncomputable def ZaD (b : Int) (d : (Int → Int → Option Int)) (s3 : Int × (List Int)) : Option ((Int × (List Int)) ⊕ (List Int)) :=
 bif (decide (0 ≤ s3.1)) then
  (ZA s3.2 (w64 (b + s3.1))).bind fun x4 =>
  (ZA s3.2 b).bind fun x5 =>
  (ZA (List.set s3.2 b.toNat x4) (w64 (b + s3.1))).bind fun x6 =>
  (Zaz 0 s3.1 b d (List.set (List.set s3.2 b.toNat x4) (w64 (b + s3.1)).toNat x5)).bind fun x7 =>
  some (.inl ((w64 (s3.1 - 1)), x7))
 else
  some (.inr s3.2)
noncomputable def ZZ (b : Int) (c : Int) (d : (Int → Int → Option Int)) (m0_0 : (List Int)) : Option (List Int) :=
 (lp (ZaC b c d) ((w64 (Int.tdiv (w64 ((w64 (c - b)) - 1)) 2)), m0_0)).bind fun r2 =>
 (lp (ZaD b d) ((w64 ((w64 (c - b)) - 1)), r2)).bind fun r8 =>
 some r8
noncomputable def ZaH (b : Int) (c : Int) (e : (Int → Int → Option Int)) (m0_0 : (List Int)) (m1_0 : Int) : Option (Int × Int × Int) :=
 (ZA m0_0 c).bind fun x0 =>
 (ZA m0_0 b).bind fun x1 =>
 (e x0 x1).bind fun x2 =>
 bif (decide (x2 < 0)) then
  some (c, b, (w64 (m1_0 + 1)))
 else
  some (b, c, m1_0)
noncomputable def ZaI (b : Int) (c : Int) (d : Int) (f : (Int → Int → Option Int)) (m0_0 : (List Int)) (m1_0 : Int) : Option (Int × Int) :=
 (ZaH b c f m0_0 m1_0).bind fun x0 =>
 (ZaH x0.2.1 d f m0_0 x0.2.2).bind fun x1 =>
 (ZaH x0.1 x1.1 f m0_0 x1.2.2).bind fun x2 =>
 some (x2.2.1, x2.2.2)
noncomputable def Z1 (b : Int) (d : (Int → Int → Option Int)) (m0_0 : (List Int)) (m1_0 : Int) : Option (Int × Int) :=
 (ZaI (w64 (b - 1)) b (w64 (b + 1)) d m0_0 m1_0).bind fun x0 =>
 some (x0.1, x0.2)
noncomputable def ZJ (b : Int) (c : Int) (d : (Int → Int → Option Int)) (m0_0 : (List Int)) : Option (Int × Int) :=
 bif (decide (8 ≤ (w64 (c - b)))) then
  bif (decide (50 ≤ (w64 (c - b)))) then
   (Z1 (w64 (b + (w64 ((w64 (Int.tdiv (w64 (c - b)) 4)) * 1)))) d m0_0 0).bind fun x0 =>
   (Z1 (w64 (b + (w64 ((w64 (Int.tdiv (w64 (c - b)) 4)) * 2)))) d m0_0 x0.2).bind fun x1 =>
   (Z1 (w64 (b + (w64 ((w64 (Int.tdiv (w64 (c - b)) 4)) * 3)))) d m0_0 x1.2).bind fun x2 =>
   (ZaI x0.1 x1.1 x2.1 d m0_0 x2.2).bind fun x3 =>
   bif (x3.2 == 0) then
    some (x3.1, 1)
   else
    bif (x3.2 == 12) then
     some (x3.1, 2)
    else
     some (x3.1, 0)
  else
   (ZaI (w64 (b + (w64 ((w64 (Int.tdiv (w64 (c - b)) 4)) * 1)))) (w64 (b + (w64 ((w64 (Int.tdiv (w64 (c - b)) 4)) * 2)))) (w64 (b + (w64 ((w64 (Int.tdiv (w64 (c - b)) 4)) * 3)))) d m0_0 0).bind fun x4 =>
   bif (x4.2 == 0) then
    some (x4.1, 1)
   else
    bif (x4.2 == 12) then
     some (x4.1, 2)
    else
     some (x4.1, 0)
 else
  some ((w64 (b + (w64 ((w64 (Int.tdiv (w64 (c - b)) 4)) * 2)))), 1)
noncomputable def ZY (s0 : Int × Int × (List Int)) : Option ((Int × Int × (List Int)) ⊕ (List Int)) :=
 bif (decide (s0.1 < s0.2.1)) then
  (ZA s0.2.2 s0.2.1).bind fun x1 =>
  (ZA s0.2.2 s0.1).bind fun x2 =>
  (ZA (List.set s0.2.2 s0.1.toNat x1) s0.2.1).bind fun x3 =>
  some (.inl ((w64 (s0.1 + 1)), (w64 (s0.2.1 - 1)), (List.set (List.set s0.2.2 s0.1.toNat x1) s0.2.1.toNat x2)))
 else
  some (.inr s0.2.2)
noncomputable def ZI (b : Int) (c : Int) (d : (Int → Int → Option Int)) (m0_0 : (List Int)) : Option (List Int) :=
 (lp (ZY) (b, (w64 (c - 1)), m0_0)).bind fun r4 =>
 some r4
noncomputable def ZH (c : Int) (d : (Int → Int → Option Int)) (s0 : Int × Int × (List Int)) (s1 : Int) : Option (Int ⊕ Int) :=
 bif (decide (s1 < c)) then
  (ZA s0.2.2 s1).bind fun x2 =>
  (ZA s0.2.2 (w64 (s1 - 1))).bind fun x3 =>
  (d x2 x3).bind fun x4 =>
  bif (decide (x4 < 0)) then
   some (.inr s1)
  else
   some (.inl (w64 (s1 + 1)))
 else
  some (.inr s1)
noncomputable def ZO (d : (Int → Int → Option Int)) (s9 : Int × (List Int)) : Option ((Int × (List Int)) ⊕ (List Int)) :=
 bif (decide (1 ≤ s9.1)) then
  (ZA s9.2 s9.1).bind fun x10 =>
  (ZA s9.2 (w64 (s9.1 - 1))).bind fun x11 =>
  (d x10 x11).bind fun x12 =>
  bif (decide (x12 < 0)) then
   (ZA (List.set s9.2 s9.1.toNat x11) (w64 (s9.1 - 1))).bind fun x13 =>
   some (.inl ((w64 (s9.1 - 1)), (List.set (List.set s9.2 s9.1.toNat x11) (w64 (s9.1 - 1)).toNat x10)))
  else
   some (.inr s9.2)
 else
  some (.inr s9.2)
noncomputable def ZD (c : Int) (d : (Int → Int → Option Int)) (s15 : Int × (List Int)) : Option ((Int × (List Int)) ⊕ (List Int)) :=
 bif (decide (s15.1 < c)) then
  (ZA s15.2 s15.1).bind fun x16 =>
  (ZA s15.2 (w64 (s15.1 - 1))).bind fun x17 =>
  (d x16 x17).bind fun x18 =>
  bif (decide (x18 < 0)) then
   (ZA (List.set s15.2 s15.1.toNat x17) (w64 (s15.1 - 1))).bind fun x19 =>
   some (.inl ((w64 (s15.1 + 1)), (List.set (List.set s15.2 s15.1.toNat x17) (w64 (s15.1 - 1)).toNat x16)))
  else
   some (.inr s15.2)
 else
  some (.inr s15.2)
noncomputable def Zao (c : Int) (d : (Int → Int → Option Int)) (s21 : Int × (List Int)) : Option ((Int × (List Int)) ⊕ (List Int)) :=
 bif (decide (s21.1 < c)) then
  (ZA s21.2 s21.1).bind fun x22 =>
  (ZA s21.2 (w64 (s21.1 - 1))).bind fun x23 =>
  (d x22 x23).bind fun x24 =>
  bif (decide (x24 < 0)) then
   (ZA (List.set s21.2 s21.1.toNat x23) (w64 (s21.1 - 1))).bind fun x25 =>
   some (.inl ((w64 (s21.1 + 1)), (List.set (List.set s21.2 s21.1.toNat x23) (w64 (s21.1 - 1)).toNat x22)))
  else
   some (.inr s21.2)
 else
  some (.inr s21.2)
noncomputable def ZP (b : Int) (c : Int) (d : (Int → Int → Option Int)) (s0 : Int × Int × (List Int)) : Option ((Int × Int × (List Int)) ⊕ ((List Int) ⊕ ((List Int) ⊕ (List Int)))) :=
 bif (decide (s0.2.1 < 5)) then
  (lp (ZH c d s0) s0.1).bind fun r5 =>
  bif (r5 == c) then
   some (.inr (.inl s0.2.2))
  else
   bif (decide ((w64 (c - b)) < 50)) then
    some (.inr (.inr (.inl s0.2.2)))
   else
    (ZA s0.2.2 (w64 (r5 - 1))).bind fun x6 =>
    (ZA s0.2.2 r5).bind fun x7 =>
    (ZA (List.set s0.2.2 r5.toNat x6) (w64 (r5 - 1))).bind fun x8 =>
    bif (decide (2 ≤ (w64 (r5 - b)))) then
     (lp (ZO d) ((w64 (r5 - 1)), (List.set (List.set s0.2.2 r5.toNat x6) (w64 (r5 - 1)).toNat x7))).bind fun r14 =>
     bif (decide (2 ≤ (w64 (c - r5)))) then
      (lp (ZD c d) ((w64 (r5 + 1)), r14)).bind fun r20 =>
      some (.inl (r5, (w64 (s0.2.1 + 1)), r20))
     else
      some (.inl (r5, (w64 (s0.2.1 + 1)), r14))
    else
     bif (decide (2 ≤ (w64 (c - r5)))) then
      (lp (Zao c d) ((w64 (r5 + 1)), (List.set (List.set s0.2.2 r5.toNat x6) (w64 (r5 - 1)).toNat x7))).bind fun r26 =>
      some (.inl (r5, (w64 (s0.2.1 + 1)), r26))
     else
      some (.inl (r5, (w64 (s0.2.1 + 1)), (List.set (List.set s0.2.2 r5.toNat x6) (w64 (r5 - 1)).toNat x7)))
 else
  some (.inr (.inr (.inr s0.2.2)))
noncomputable def ZL (b : Int) (c : Int) (d : (Int → Int → Option Int)) (m0_0 : (List Int)) : Option ((List Int) ⊕ (List Int)) :=
 (lp (ZP b c d) ((w64 (b + 1)), 0, m0_0)).bind fun r27 =>
 match r27 with
 | (.inl r27) =>
  some (.inl r27)
 | (.inr (.inl r27)) =>
  some (.inr r27)
 | (.inr (.inr r27)) =>
  some (.inr r27)
noncomputable def Zaw (b : Int) (c : Int) (d : Int) (m0_0 : (List Int)) (e : (Int → Int → Option Int)) (x0 : Int) (x1 : Int) (s3 : Int) : Option (Int ⊕ Int) :=
 bif (decide (s3 ≤ (w64 (c - 1)))) then
  (ZA (List.set (List.set m0_0 b.toNat x0) d.toNat x1) s3).bind fun x4 =>
  (ZA (List.set (List.set m0_0 b.toNat x0) d.toNat x1) b).bind fun x5 =>
  (e x4 x5).bind fun x6 =>
  bif (decide (x6 < 0)) then
   some (.inl (w64 (s3 + 1)))
  else
   some (.inr s3)
 else
  some (.inr s3)
noncomputable def Zau (b : Int) (d : Int) (m0_0 : (List Int)) (e : (Int → Int → Option Int)) (x0 : Int) (x1 : Int) (r7 : Int) (s8 : Int) : Option (Int ⊕ Int) :=
 bif (decide (r7 ≤ s8)) then
  (ZA (List.set (List.set m0_0 b.toNat x0) d.toNat x1) s8).bind fun x9 =>
  (ZA (List.set (List.set m0_0 b.toNat x0) d.toNat x1) b).bind fun x10 =>
  (e x9 x10).bind fun x11 =>
  bif (decide (x11 < 0)) then
   some (.inr s8)
  else
   some (.inl (w64 (s8 - 1)))
 else
  some (.inr s8)
noncomputable def Zar (b : Int) (e : (Int → Int → Option Int)) (s19 : Int × Int × (List Int)) (s20 : Int) : Option (Int ⊕ Int) :=
 bif (decide (s20 ≤ s19.2.1)) then
  (ZA s19.2.2 s20).bind fun x21 =>
  (ZA s19.2.2 b).bind fun x22 =>
  (e x21 x22).bind fun x23 =>
  bif (decide (x23 < 0)) then
   some (.inl (w64 (s20 + 1)))
  else
   some (.inr s20)
 else
  some (.inr s20)
noncomputable def Zav (b : Int) (e : (Int → Int → Option Int)) (s19 : Int × Int × (List Int)) (r24 : Int) (s25 : Int) : Option (Int ⊕ Int) :=
 bif (decide (r24 ≤ s25)) then
  (ZA s19.2.2 s25).bind fun x26 =>
  (ZA s19.2.2 b).bind fun x27 =>
  (e x26 x27).bind fun x28 =>
  bif (decide (x28 < 0)) then
   some (.inr s25)
  else
   some (.inl (w64 (s25 - 1)))
 else
  some (.inr s25)
noncomputable def ZaO (b : Int) (e : (Int → Int → Option Int)) (s19 : Int × Int × (List Int)) : Option ((Int × Int × (List Int)) ⊕ (Int × (List Int))) :=
 (lp (Zar b e s19) s19.1).bind fun r24 =>
 (lp (Zav b e s19 r24) s19.2.1).bind fun r29 =>
 bif (decide (r29 < r24)) then
  some (.inr (r29, s19.2.2))
 else
  (ZA s19.2.2 r29).bind fun x30 =>
  (ZA s19.2.2 r24).bind fun x31 =>
  (ZA (List.set s19.2.2 r24.toNat x30) r29).bind fun x32 =>
  some (.inl ((w64 (r24 + 1)), (w64 (r29 - 1)), (List.set (List.set s19.2.2 r24.toNat x30) r29.toNat x31)))
noncomputable def Zp (b : Int) (c : Int) (d : Int) (e : (Int → Int → Option Int)) (m0_0 : (List Int)) : Option ((Int × (List Int)) ⊕ (Int × (List Int))) :=
 (ZA m0_0 d).bind fun x0 =>
 (ZA m0_0 b).bind fun x1 =>
 (ZA (List.set m0_0 b.toNat x0) d).bind fun x2 =>
 (lp (Zaw b c d m0_0 e x0 x1) (w64 (b + 1))).bind fun r7 =>
 (lp (Zau b d m0_0 e x0 x1 r7) (w64 (c - 1))).bind fun r12 =>
 bif (decide (r12 < r7)) then
  (ZA (List.set (List.set m0_0 b.toNat x0) d.toNat x1) b).bind fun x13 =>
  (ZA (List.set (List.set m0_0 b.toNat x0) d.toNat x1) r12).bind fun x14 =>
  (ZA (List.set (List.set (List.set m0_0 b.toNat x0) d.toNat x1) r12.toNat x13) b).bind fun x15 =>
  some (.inl (r12, (List.set (List.set (List.set (List.set m0_0 b.toNat x0) d.toNat x1) r12.toNat x13) b.toNat x14)))
 else
  (ZA (List.set (List.set m0_0 b.toNat x0) d.toNat x1) r12).bind fun x16 =>
  (ZA (List.set (List.set m0_0 b.toNat x0) d.toNat x1) r7).bind fun x17 =>
  (ZA (List.set (List.set (List.set m0_0 b.toNat x0) d.toNat x1) r7.toNat x16) r12).bind fun x18 =>
  (lp (ZaO b e) ((w64 (r7 + 1)), (w64 (r12 - 1)), (List.set (List.set (List.set (List.set m0_0 b.toNat x0) d.toNat x1) r7.toNat x16) r12.toNat x17))).bind fun r33 =>
  (ZA r33.2 b).bind fun x34 =>
  (ZA r33.2 r33.1).bind fun x35 =>
  (ZA (List.set r33.2 r33.1.toNat x34) b).bind fun x36 =>
  some (.inr (r33.1, (List.set (List.set r33.2 r33.1.toNat x34) b.toNat x35)))
noncomputable def Z9 (b : Int) (e : (Int → Int → Option Int)) (s3 : Int × Int × (List Int)) (s4 : Int) : Option (Int ⊕ Int) :=
 bif (decide (s4 ≤ s3.2.1)) then
  (ZA s3.2.2 b).bind fun x5 =>
  (ZA s3.2.2 s4).bind fun x6 =>
  (e x5 x6).bind fun x7 =>
  bif (decide (x7 < 0)) then
   some (.inr s4)
  else
   some (.inl (w64 (s4 + 1)))
 else
  some (.inr s4)
noncomputable def Z7 (b : Int) (e : (Int → Int → Option Int)) (s3 : Int × Int × (List Int)) (r8 : Int) (s9 : Int) : Option (Int ⊕ Int) :=
 bif (decide (r8 ≤ s9)) then
  (ZA s3.2.2 b).bind fun x10 =>
  (ZA s3.2.2 s9).bind fun x11 =>
  (e x10 x11).bind fun x12 =>
  bif (decide (x12 < 0)) then
   some (.inl (w64 (s9 - 1)))
  else
   some (.inr s9)
 else
  some (.inr s9)
noncomputable def Zay (b : Int) (e : (Int → Int → Option Int)) (s3 : Int × Int × (List Int)) : Option ((Int × Int × (List Int)) ⊕ (Int × (List Int))) :=
 (lp (Z9 b e s3) s3.1).bind fun r8 =>
 (lp (Z7 b e s3 r8) s3.2.1).bind fun r13 =>
 bif (decide (r13 < r8)) then
  some (.inr (r8, s3.2.2))
 else
  (ZA s3.2.2 r13).bind fun x14 =>
  (ZA s3.2.2 r8).bind fun x15 =>
  (ZA (List.set s3.2.2 r8.toNat x14) r13).bind fun x16 =>
  some (.inl ((w64 (r8 + 1)), (w64 (r13 - 1)), (List.set (List.set s3.2.2 r8.toNat x14) r13.toNat x15)))
noncomputable def Zy (b : Int) (c : Int) (d : Int) (e : (Int → Int → Option Int)) (m0_0 : (List Int)) : Option (Int × (List Int)) :=
 (ZA m0_0 d).bind fun x0 =>
 (ZA m0_0 b).bind fun x1 =>
 (ZA (List.set m0_0 b.toNat x0) d).bind fun x2 =>
 (lp (Zay b e) ((w64 (b + 1)), (w64 (c - 1)), (List.set (List.set m0_0 b.toNat x0) d.toNat x1))).bind fun r17 =>
 some (r17.1, r17.2)
noncomputable def Zca (a : Int) : Option Int :=
 (ZdM (IntKind.u64.wrap a)).bind fun x0 =>
 bif (decide (x0 < 0)) then
  none
 else
  some (IntKind.u64.wrap (1 * 2 ^ (min (x0).toNat IntKind.u64.bits)))
noncomputable def Zdd : Option Unit :=
 some ()
noncomputable def ZaB (b : Int) (c : Int) (x0 : Int) (s1 : Int × (List Int) × Int) : Option ((Int × (List Int) × Int) ⊕ (List Int)) :=
 bif (decide (s1.1 ≤ (w64 ((w64 (b + (w64 ((w64 (Int.tdiv (w64 (c - b)) 4)) * 2)))) + 1)))) then
  Zdd.bind fun x2 =>
  bif (decide ((w64 (c - b)) ≤ (w64 (IntKind.u64.wrap (BitVec.ofInt IntKind.u64.bits (IntKind.u64.wrap (BitVec.ofInt IntKind.u64.bits (IntKind.u64.wrap (BitVec.ofInt IntKind.u64.bits (IntKind.u64.wrap (BitVec.ofInt IntKind.u64.bits s1.2.2 ^^^ BitVec.ofInt IntKind.u64.bits (IntKind.u64.wrap (s1.2.2 * 2 ^ 13))).toNat) ^^^ BitVec.ofInt IntKind.u64.bits (Int.fdiv (IntKind.u64.wrap (BitVec.ofInt IntKind.u64.bits s1.2.2 ^^^ BitVec.ofInt IntKind.u64.bits (IntKind.u64.wrap (s1.2.2 * 2 ^ 13))).toNat) (2 ^ 7))).toNat) ^^^ BitVec.ofInt IntKind.u64.bits (IntKind.u64.wrap ((IntKind.u64.wrap (BitVec.ofInt IntKind.u64.bits (IntKind.u64.wrap (BitVec.ofInt IntKind.u64.bits s1.2.2 ^^^ BitVec.ofInt IntKind.u64.bits (IntKind.u64.wrap (s1.2.2 * 2 ^ 13))).toNat) ^^^ BitVec.ofInt IntKind.u64.bits (Int.fdiv (IntKind.u64.wrap (BitVec.ofInt IntKind.u64.bits s1.2.2 ^^^ BitVec.ofInt IntKind.u64.bits (IntKind.u64.wrap (s1.2.2 * 2 ^ 13))).toNat) (2 ^ 7))).toNat) * 2 ^ 17))).toNat) &&& BitVec.ofInt IntKind.u64.bits (IntKind.u64.wrap (x0 - 1))).toNat)))) then
   (ZA s1.2.1 (w64 (b + (w64 ((w64 (IntKind.u64.wrap (BitVec.ofInt IntKind.u64.bits (IntKind.u64.wrap (BitVec.ofInt IntKind.u64.bits (IntKind.u64.wrap (BitVec.ofInt IntKind.u64.bits (IntKind.u64.wrap (BitVec.ofInt IntKind.u64.bits s1.2.2 ^^^ BitVec.ofInt IntKind.u64.bits (IntKind.u64.wrap (s1.2.2 * 2 ^ 13))).toNat) ^^^ BitVec.ofInt IntKind.u64.bits (Int.fdiv (IntKind.u64.wrap (BitVec.ofInt IntKind.u64.bits s1.2.2 ^^^ BitVec.ofInt IntKind.u64.bits (IntKind.u64.wrap (s1.2.2 * 2 ^ 13))).toNat) (2 ^ 7))).toNat) ^^^ BitVec.ofInt IntKind.u64.bits (IntKind.u64.wrap ((IntKind.u64.wrap (BitVec.ofInt IntKind.u64.bits (IntKind.u64.wrap (BitVec.ofInt IntKind.u64.bits s1.2.2 ^^^ BitVec.ofInt IntKind.u64.bits (IntKind.u64.wrap (s1.2.2 * 2 ^ 13))).toNat) ^^^ BitVec.ofInt IntKind.u64.bits (Int.fdiv (IntKind.u64.wrap (BitVec.ofInt IntKind.u64.bits s1.2.2 ^^^ BitVec.ofInt IntKind.u64.bits (IntKind.u64.wrap (s1.2.2 * 2 ^ 13))).toNat) (2 ^ 7))).toNat) * 2 ^ 17))).toNat) &&& BitVec.ofInt IntKind.u64.bits (IntKind.u64.wrap (x0 - 1))).toNat)) - (w64 (c - b))))))).bind fun x3 =>
   (ZA s1.2.1 s1.1).bind fun x4 =>
   (ZA (List.set s1.2.1 s1.1.toNat x3) (w64 (b + (w64 ((w64 (IntKind.u64.wrap (BitVec.ofInt IntKind.u64.bits (IntKind.u64.wrap (BitVec.ofInt IntKind.u64.bits (IntKind.u64.wrap (BitVec.ofInt IntKind.u64.bits (IntKind.u64.wrap (BitVec.ofInt IntKind.u64.bits s1.2.2 ^^^ BitVec.ofInt IntKind.u64.bits (IntKind.u64.wrap (s1.2.2 * 2 ^ 13))).toNat) ^^^ BitVec.ofInt IntKind.u64.bits (Int.fdiv (IntKind.u64.wrap (BitVec.ofInt IntKind.u64.bits s1.2.2 ^^^ BitVec.ofInt IntKind.u64.bits (IntKind.u64.wrap (s1.2.2 * 2 ^ 13))).toNat) (2 ^ 7))).toNat) ^^^ BitVec.ofInt IntKind.u64.bits (IntKind.u64.wrap ((IntKind.u64.wrap (BitVec.ofInt IntKind.u64.bits (IntKind.u64.wrap (BitVec.ofInt IntKind.u64.bits s1.2.2 ^^^ BitVec.ofInt IntKind.u64.bits (IntKind.u64.wrap (s1.2.2 * 2 ^ 13))).toNat) ^^^ BitVec.ofInt IntKind.u64.bits (Int.fdiv (IntKind.u64.wrap (BitVec.ofInt IntKind.u64.bits s1.2.2 ^^^ BitVec.ofInt IntKind.u64.bits (IntKind.u64.wrap (s1.2.2 * 2 ^ 13))).toNat) (2 ^ 7))).toNat) * 2 ^ 17))).toNat) &&& BitVec.ofInt IntKind.u64.bits (IntKind.u64.wrap (x0 - 1))).toNat)) - (w64 (c - b))))))).bind fun x5 =>
   some (.inl ((w64 (s1.1 + 1)), (List.set (List.set s1.2.1 s1.1.toNat x3) (w64 (b + (w64 ((w64 (IntKind.u64.wrap (BitVec.ofInt IntKind.u64.bits (IntKind.u64.wrap (BitVec.ofInt IntKind.u64.bits (IntKind.u64.wrap (BitVec.ofInt IntKind.u64.bits (IntKind.u64.wrap (BitVec.ofInt IntKind.u64.bits s1.2.2 ^^^ BitVec.ofInt IntKind.u64.bits (IntKind.u64.wrap (s1.2.2 * 2 ^ 13))).toNat) ^^^ BitVec.ofInt IntKind.u64.bits (Int.fdiv (IntKind.u64.wrap (BitVec.ofInt IntKind.u64.bits s1.2.2 ^^^ BitVec.ofInt IntKind.u64.bits (IntKind.u64.wrap (s1.2.2 * 2 ^ 13))).toNat) (2 ^ 7))).toNat) ^^^ BitVec.ofInt IntKind.u64.bits (IntKind.u64.wrap ((IntKind.u64.wrap (BitVec.ofInt IntKind.u64.bits (IntKind.u64.wrap (BitVec.ofInt IntKind.u64.bits s1.2.2 ^^^ BitVec.ofInt IntKind.u64.bits (IntKind.u64.wrap (s1.2.2 * 2 ^ 13))).toNat) ^^^ BitVec.ofInt IntKind.u64.bits (Int.fdiv (IntKind.u64.wrap (BitVec.ofInt IntKind.u64.bits s1.2.2 ^^^ BitVec.ofInt IntKind.u64.bits (IntKind.u64.wrap (s1.2.2 * 2 ^ 13))).toNat) (2 ^ 7))).toNat) * 2 ^ 17))).toNat) &&& BitVec.ofInt IntKind.u64.bits (IntKind.u64.wrap (x0 - 1))).toNat)) - (w64 (c - b)))))).toNat x4), (IntKind.u64.wrap (BitVec.ofInt IntKind.u64.bits (IntKind.u64.wrap (BitVec.ofInt IntKind.u64.bits (IntKind.u64.wrap (BitVec.ofInt IntKind.u64.bits s1.2.2 ^^^ BitVec.ofInt IntKind.u64.bits (IntKind.u64.wrap (s1.2.2 * 2 ^ 13))).toNat) ^^^ BitVec.ofInt IntKind.u64.bits (Int.fdiv (IntKind.u64.wrap (BitVec.ofInt IntKind.u64.bits s1.2.2 ^^^ BitVec.ofInt IntKind.u64.bits (IntKind.u64.wrap (s1.2.2 * 2 ^ 13))).toNat) (2 ^ 7))).toNat) ^^^ BitVec.ofInt IntKind.u64.bits (IntKind.u64.wrap ((IntKind.u64.wrap (BitVec.ofInt IntKind.u64.bits (IntKind.u64.wrap (BitVec.ofInt IntKind.u64.bits s1.2.2 ^^^ BitVec.ofInt IntKind.u64.bits (IntKind.u64.wrap (s1.2.2 * 2 ^ 13))).toNat) ^^^ BitVec.ofInt IntKind.u64.bits (Int.fdiv (IntKind.u64.wrap (BitVec.ofInt IntKind.u64.bits s1.2.2 ^^^ BitVec.ofInt IntKind.u64.bits (IntKind.u64.wrap (s1.2.2 * 2 ^ 13))).toNat) (2 ^ 7))).toNat) * 2 ^ 17))).toNat)))
  else
   (ZA s1.2.1 (w64 (b + (w64 (IntKind.u64.wrap (BitVec.ofInt IntKind.u64.bits (IntKind.u64.wrap (BitVec.ofInt IntKind.u64.bits (IntKind.u64.wrap (BitVec.ofInt IntKind.u64.bits (IntKind.u64.wrap (BitVec.ofInt IntKind.u64.bits s1.2.2 ^^^ BitVec.ofInt IntKind.u64.bits (IntKind.u64.wrap (s1.2.2 * 2 ^ 13))).toNat) ^^^ BitVec.ofInt IntKind.u64.bits (Int.fdiv (IntKind.u64.wrap (BitVec.ofInt IntKind.u64.bits s1.2.2 ^^^ BitVec.ofInt IntKind.u64.bits (IntKind.u64.wrap (s1.2.2 * 2 ^ 13))).toNat) (2 ^ 7))).toNat) ^^^ BitVec.ofInt IntKind.u64.bits (IntKind.u64.wrap ((IntKind.u64.wrap (BitVec.ofInt IntKind.u64.bits (IntKind.u64.wrap (BitVec.ofInt IntKind.u64.bits s1.2.2 ^^^ BitVec.ofInt IntKind.u64.bits (IntKind.u64.wrap (s1.2.2 * 2 ^ 13))).toNat) ^^^ BitVec.ofInt IntKind.u64.bits (Int.fdiv (IntKind.u64.wrap (BitVec.ofInt IntKind.u64.bits s1.2.2 ^^^ BitVec.ofInt IntKind.u64.bits (IntKind.u64.wrap (s1.2.2 * 2 ^ 13))).toNat) (2 ^ 7))).toNat) * 2 ^ 17))).toNat) &&& BitVec.ofInt IntKind.u64.bits (IntKind.u64.wrap (x0 - 1))).toNat))))).bind fun x6 =>
   (ZA s1.2.1 s1.1).bind fun x7 =>
   (ZA (List.set s1.2.1 s1.1.toNat x6) (w64 (b + (w64 (IntKind.u64.wrap (BitVec.ofInt IntKind.u64.bits (IntKind.u64.wrap (BitVec.ofInt IntKind.u64.bits (IntKind.u64.wrap (BitVec.ofInt IntKind.u64.bits (IntKind.u64.wrap (BitVec.ofInt IntKind.u64.bits s1.2.2 ^^^ BitVec.ofInt IntKind.u64.bits (IntKind.u64.wrap (s1.2.2 * 2 ^ 13))).toNat) ^^^ BitVec.ofInt IntKind.u64.bits (Int.fdiv (IntKind.u64.wrap (BitVec.ofInt IntKind.u64.bits s1.2.2 ^^^ BitVec.ofInt IntKind.u64.bits (IntKind.u64.wrap (s1.2.2 * 2 ^ 13))).toNat) (2 ^ 7))).toNat) ^^^ BitVec.ofInt IntKind.u64.bits (IntKind.u64.wrap ((IntKind.u64.wrap (BitVec.ofInt IntKind.u64.bits (IntKind.u64.wrap (BitVec.ofInt IntKind.u64.bits s1.2.2 ^^^ BitVec.ofInt IntKind.u64.bits (IntKind.u64.wrap (s1.2.2 * 2 ^ 13))).toNat) ^^^ BitVec.ofInt IntKind.u64.bits (Int.fdiv (IntKind.u64.wrap (BitVec.ofInt IntKind.u64.bits s1.2.2 ^^^ BitVec.ofInt IntKind.u64.bits (IntKind.u64.wrap (s1.2.2 * 2 ^ 13))).toNat) (2 ^ 7))).toNat) * 2 ^ 17))).toNat) &&& BitVec.ofInt IntKind.u64.bits (IntKind.u64.wrap (x0 - 1))).toNat))))).bind fun x8 =>
   some (.inl ((w64 (s1.1 + 1)), (List.set (List.set s1.2.1 s1.1.toNat x6) (w64 (b + (w64 (IntKind.u64.wrap (BitVec.ofInt IntKind.u64.bits (IntKind.u64.wrap (BitVec.ofInt IntKind.u64.bits (IntKind.u64.wrap (BitVec.ofInt IntKind.u64.bits (IntKind.u64.wrap (BitVec.ofInt IntKind.u64.bits s1.2.2 ^^^ BitVec.ofInt IntKind.u64.bits (IntKind.u64.wrap (s1.2.2 * 2 ^ 13))).toNat) ^^^ BitVec.ofInt IntKind.u64.bits (Int.fdiv (IntKind.u64.wrap (BitVec.ofInt IntKind.u64.bits s1.2.2 ^^^ BitVec.ofInt IntKind.u64.bits (IntKind.u64.wrap (s1.2.2 * 2 ^ 13))).toNat) (2 ^ 7))).toNat) ^^^ BitVec.ofInt IntKind.u64.bits (IntKind.u64.wrap ((IntKind.u64.wrap (BitVec.ofInt IntKind.u64.bits (IntKind.u64.wrap (BitVec.ofInt IntKind.u64.bits s1.2.2 ^^^ BitVec.ofInt IntKind.u64.bits (IntKind.u64.wrap (s1.2.2 * 2 ^ 13))).toNat) ^^^ BitVec.ofInt IntKind.u64.bits (Int.fdiv (IntKind.u64.wrap (BitVec.ofInt IntKind.u64.bits s1.2.2 ^^^ BitVec.ofInt IntKind.u64.bits (IntKind.u64.wrap (s1.2.2 * 2 ^ 13))).toNat) (2 ^ 7))).toNat) * 2 ^ 17))).toNat) &&& BitVec.ofInt IntKind.u64.bits (IntKind.u64.wrap (x0 - 1))).toNat)))).toNat x7), (IntKind.u64.wrap (BitVec.ofInt IntKind.u64.bits (IntKind.u64.wrap (BitVec.ofInt IntKind.u64.bits (IntKind.u64.wrap (BitVec.ofInt IntKind.u64.bits s1.2.2 ^^^ BitVec.ofInt IntKind.u64.bits (IntKind.u64.wrap (s1.2.2 * 2 ^ 13))).toNat) ^^^ BitVec.ofInt IntKind.u64.bits (Int.fdiv (IntKind.u64.wrap (BitVec.ofInt IntKind.u64.bits s1.2.2 ^^^ BitVec.ofInt IntKind.u64.bits (IntKind.u64.wrap (s1.2.2 * 2 ^ 13))).toNat) (2 ^ 7))).toNat) ^^^ BitVec.ofInt IntKind.u64.bits (IntKind.u64.wrap ((IntKind.u64.wrap (BitVec.ofInt IntKind.u64.bits (IntKind.u64.wrap (BitVec.ofInt IntKind.u64.bits s1.2.2 ^^^ BitVec.ofInt IntKind.u64.bits (IntKind.u64.wrap (s1.2.2 * 2 ^ 13))).toNat) ^^^ BitVec.ofInt IntKind.u64.bits (Int.fdiv (IntKind.u64.wrap (BitVec.ofInt IntKind.u64.bits s1.2.2 ^^^ BitVec.ofInt IntKind.u64.bits (IntKind.u64.wrap (s1.2.2 * 2 ^ 13))).toNat) (2 ^ 7))).toNat) * 2 ^ 17))).toNat)))
 else
  some (.inr s1.2.1)
noncomputable def Z4 (b : Int) (c : Int) (d : (Int → Int → Option Int)) (m0_0 : (List Int)) : Option (List Int) :=
 bif (decide (8 ≤ (w64 (c - b)))) then
  (Zca (w64 (c - b))).bind fun x0 =>
  (lp (ZaB b c x0) ((w64 ((w64 (b + (w64 ((w64 (Int.tdiv (w64 (c - b)) 4)) * 2)))) - 1)), m0_0, (IntKind.u64.wrap (w64 (c - b))))).bind fun r9 =>
  some r9
 else
  some m0_0
noncomputable def ZN (e : (Int → Int → Option Int)) (rc : Int → Int → Int → (Int → Int → Option Int) → (List Int) → Option (List Int)) (s0 : Int × Int × Int × Bool × Bool × (List Int)) : Option ((Int × Int × Int × Bool × Bool × (List Int)) ⊕ (List Int)) :=
 bif s0.2.2.2.1 then
  bif s0.2.2.2.2.1 then
   bif (decide ((w64 (s0.2.1 - s0.1)) ≤ 12)) then
    (ZR s0.1 s0.2.1 e s0.2.2.2.2.2).bind fun x1 =>
    some (.inr x1)
   else
    bif (s0.2.2.1 == 0) then
     (ZZ s0.1 s0.2.1 e s0.2.2.2.2.2).bind fun x2 =>
     some (.inr x2)
    else
     (ZJ s0.1 s0.2.1 e s0.2.2.2.2.2).bind fun x3 =>
     bif (x3.2 == 2) then
      (ZI s0.1 s0.2.1 e s0.2.2.2.2.2).bind fun x4 =>
      (ZL s0.1 s0.2.1 e x4).bind fun x5 =>
      match x5 with
      | (.inl x5) =>
       some (.inr x5)
      | (.inr x5) =>
       bif (decide (0 < s0.1)) then
        (ZA x5 (w64 (s0.1 - 1))).bind fun x6 =>
        (ZA x5 (w64 ((w64 (s0.2.1 - 1)) - (w64 (x3.1 - s0.1))))).bind fun x7 =>
        (e x6 x7).bind fun x8 =>
        bif (decide (x8 < 0)) then
         (Zp s0.1 s0.2.1 (w64 ((w64 (s0.2.1 - 1)) - (w64 (x3.1 - s0.1)))) e x5).bind fun x9 =>
         match x9 with
         | (.inl x9) =>
          bif (decide ((w64 (x9.1 - s0.1)) < (w64 (s0.2.1 - x9.1)))) then
           bif (decide ((w64 (Int.tdiv (w64 (s0.2.1 - s0.1)) 8)) ≤ (w64 (x9.1 - s0.1)))) then
            (rc s0.1 x9.1 s0.2.2.1 e x9.2).bind fun x10 =>
            some (.inl ((w64 (x9.1 + 1)), s0.2.1, s0.2.2.1, true, true, x10))
           else
            (rc s0.1 x9.1 s0.2.2.1 e x9.2).bind fun x11 =>
            some (.inl ((w64 (x9.1 + 1)), s0.2.1, s0.2.2.1, false, true, x11))
          else
           bif (decide ((w64 (Int.tdiv (w64 (s0.2.1 - s0.1)) 8)) ≤ (w64 (s0.2.1 - x9.1)))) then
            (rc (w64 (x9.1 + 1)) s0.2.1 s0.2.2.1 e x9.2).bind fun x12 =>
            some (.inl (s0.1, x9.1, s0.2.2.1, true, true, x12))
           else
            (rc (w64 (x9.1 + 1)) s0.2.1 s0.2.2.1 e x9.2).bind fun x13 =>
            some (.inl (s0.1, x9.1, s0.2.2.1, false, true, x13))
         | (.inr x9) =>
          bif (decide ((w64 (x9.1 - s0.1)) < (w64 (s0.2.1 - x9.1)))) then
           bif (decide ((w64 (Int.tdiv (w64 (s0.2.1 - s0.1)) 8)) ≤ (w64 (x9.1 - s0.1)))) then
            (rc s0.1 x9.1 s0.2.2.1 e x9.2).bind fun x14 =>
            some (.inl ((w64 (x9.1 + 1)), s0.2.1, s0.2.2.1, true, false, x14))
           else
            (rc s0.1 x9.1 s0.2.2.1 e x9.2).bind fun x15 =>
            some (.inl ((w64 (x9.1 + 1)), s0.2.1, s0.2.2.1, false, false, x15))
          else
           bif (decide ((w64 (Int.tdiv (w64 (s0.2.1 - s0.1)) 8)) ≤ (w64 (s0.2.1 - x9.1)))) then
            (rc (w64 (x9.1 + 1)) s0.2.1 s0.2.2.1 e x9.2).bind fun x16 =>
            some (.inl (s0.1, x9.1, s0.2.2.1, true, false, x16))
           else
            (rc (w64 (x9.1 + 1)) s0.2.1 s0.2.2.1 e x9.2).bind fun x17 =>
            some (.inl (s0.1, x9.1, s0.2.2.1, false, false, x17))
        else
         (Zy s0.1 s0.2.1 (w64 ((w64 (s0.2.1 - 1)) - (w64 (x3.1 - s0.1)))) e x5).bind fun x18 =>
         some (.inl (x18.1, s0.2.1, s0.2.2.1, true, true, x18.2))
       else
        (Zp s0.1 s0.2.1 (w64 ((w64 (s0.2.1 - 1)) - (w64 (x3.1 - s0.1)))) e x5).bind fun x19 =>
        match x19 with
        | (.inl x19) =>
         bif (decide ((w64 (x19.1 - s0.1)) < (w64 (s0.2.1 - x19.1)))) then
          bif (decide ((w64 (Int.tdiv (w64 (s0.2.1 - s0.1)) 8)) ≤ (w64 (x19.1 - s0.1)))) then
           (rc s0.1 x19.1 s0.2.2.1 e x19.2).bind fun x20 =>
           some (.inl ((w64 (x19.1 + 1)), s0.2.1, s0.2.2.1, true, true, x20))
          else
           (rc s0.1 x19.1 s0.2.2.1 e x19.2).bind fun x21 =>
           some (.inl ((w64 (x19.1 + 1)), s0.2.1, s0.2.2.1, false, true, x21))
         else
          bif (decide ((w64 (Int.tdiv (w64 (s0.2.1 - s0.1)) 8)) ≤ (w64 (s0.2.1 - x19.1)))) then
           (rc (w64 (x19.1 + 1)) s0.2.1 s0.2.2.1 e x19.2).bind fun x22 =>
           some (.inl (s0.1, x19.1, s0.2.2.1, true, true, x22))
          else
           (rc (w64 (x19.1 + 1)) s0.2.1 s0.2.2.1 e x19.2).bind fun x23 =>
           some (.inl (s0.1, x19.1, s0.2.2.1, false, true, x23))
        | (.inr x19) =>
         bif (decide ((w64 (x19.1 - s0.1)) < (w64 (s0.2.1 - x19.1)))) then
          bif (decide ((w64 (Int.tdiv (w64 (s0.2.1 - s0.1)) 8)) ≤ (w64 (x19.1 - s0.1)))) then
           (rc s0.1 x19.1 s0.2.2.1 e x19.2).bind fun x24 =>
           some (.inl ((w64 (x19.1 + 1)), s0.2.1, s0.2.2.1, true, false, x24))
          else
           (rc s0.1 x19.1 s0.2.2.1 e x19.2).bind fun x25 =>
           some (.inl ((w64 (x19.1 + 1)), s0.2.1, s0.2.2.1, false, false, x25))
         else
          bif (decide ((w64 (Int.tdiv (w64 (s0.2.1 - s0.1)) 8)) ≤ (w64 (s0.2.1 - x19.1)))) then
           (rc (w64 (x19.1 + 1)) s0.2.1 s0.2.2.1 e x19.2).bind fun x26 =>
           some (.inl (s0.1, x19.1, s0.2.2.1, true, false, x26))
          else
           (rc (w64 (x19.1 + 1)) s0.2.1 s0.2.2.1 e x19.2).bind fun x27 =>
           some (.inl (s0.1, x19.1, s0.2.2.1, false, false, x27))
     else
      bif (x3.2 == 1) then
       (ZL s0.1 s0.2.1 e s0.2.2.2.2.2).bind fun x28 =>
       match x28 with
       | (.inl x28) =>
        some (.inr x28)
       | (.inr x28) =>
        bif (decide (0 < s0.1)) then
         (ZA x28 (w64 (s0.1 - 1))).bind fun x29 =>
         (ZA x28 x3.1).bind fun x30 =>
         (e x29 x30).bind fun x31 =>
         bif (decide (x31 < 0)) then
          (Zp s0.1 s0.2.1 x3.1 e x28).bind fun x32 =>
          match x32 with
          | (.inl x32) =>
           bif (decide ((w64 (x32.1 - s0.1)) < (w64 (s0.2.1 - x32.1)))) then
            bif (decide ((w64 (Int.tdiv (w64 (s0.2.1 - s0.1)) 8)) ≤ (w64 (x32.1 - s0.1)))) then
             (rc s0.1 x32.1 s0.2.2.1 e x32.2).bind fun x33 =>
             some (.inl ((w64 (x32.1 + 1)), s0.2.1, s0.2.2.1, true, true, x33))
            else
             (rc s0.1 x32.1 s0.2.2.1 e x32.2).bind fun x34 =>
             some (.inl ((w64 (x32.1 + 1)), s0.2.1, s0.2.2.1, false, true, x34))
           else
            bif (decide ((w64 (Int.tdiv (w64 (s0.2.1 - s0.1)) 8)) ≤ (w64 (s0.2.1 - x32.1)))) then
             (rc (w64 (x32.1 + 1)) s0.2.1 s0.2.2.1 e x32.2).bind fun x35 =>
             some (.inl (s0.1, x32.1, s0.2.2.1, true, true, x35))
            else
             (rc (w64 (x32.1 + 1)) s0.2.1 s0.2.2.1 e x32.2).bind fun x36 =>
             some (.inl (s0.1, x32.1, s0.2.2.1, false, true, x36))
          | (.inr x32) =>
           bif (decide ((w64 (x32.1 - s0.1)) < (w64 (s0.2.1 - x32.1)))) then
            bif (decide ((w64 (Int.tdiv (w64 (s0.2.1 - s0.1)) 8)) ≤ (w64 (x32.1 - s0.1)))) then
             (rc s0.1 x32.1 s0.2.2.1 e x32.2).bind fun x37 =>
             some (.inl ((w64 (x32.1 + 1)), s0.2.1, s0.2.2.1, true, false, x37))
            else
             (rc s0.1 x32.1 s0.2.2.1 e x32.2).bind fun x38 =>
             some (.inl ((w64 (x32.1 + 1)), s0.2.1, s0.2.2.1, false, false, x38))
           else
            bif (decide ((w64 (Int.tdiv (w64 (s0.2.1 - s0.1)) 8)) ≤ (w64 (s0.2.1 - x32.1)))) then
             (rc (w64 (x32.1 + 1)) s0.2.1 s0.2.2.1 e x32.2).bind fun x39 =>
             some (.inl (s0.1, x32.1, s0.2.2.1, true, false, x39))
            else
             (rc (w64 (x32.1 + 1)) s0.2.1 s0.2.2.1 e x32.2).bind fun x40 =>
             some (.inl (s0.1, x32.1, s0.2.2.1, false, false, x40))
         else
          (Zy s0.1 s0.2.1 x3.1 e x28).bind fun x41 =>
          some (.inl (x41.1, s0.2.1, s0.2.2.1, true, true, x41.2))
        else
         (Zp s0.1 s0.2.1 x3.1 e x28).bind fun x42 =>
         match x42 with
         | (.inl x42) =>
          bif (decide ((w64 (x42.1 - s0.1)) < (w64 (s0.2.1 - x42.1)))) then
           bif (decide ((w64 (Int.tdiv (w64 (s0.2.1 - s0.1)) 8)) ≤ (w64 (x42.1 - s0.1)))) then
            (rc s0.1 x42.1 s0.2.2.1 e x42.2).bind fun x43 =>
            some (.inl ((w64 (x42.1 + 1)), s0.2.1, s0.2.2.1, true, true, x43))
           else
            (rc s0.1 x42.1 s0.2.2.1 e x42.2).bind fun x44 =>
            some (.inl ((w64 (x42.1 + 1)), s0.2.1, s0.2.2.1, false, true, x44))
          else
           bif (decide ((w64 (Int.tdiv (w64 (s0.2.1 - s0.1)) 8)) ≤ (w64 (s0.2.1 - x42.1)))) then
            (rc (w64 (x42.1 + 1)) s0.2.1 s0.2.2.1 e x42.2).bind fun x45 =>
            some (.inl (s0.1, x42.1, s0.2.2.1, true, true, x45))
           else
            (rc (w64 (x42.1 + 1)) s0.2.1 s0.2.2.1 e x42.2).bind fun x46 =>
            some (.inl (s0.1, x42.1, s0.2.2.1, false, true, x46))
         | (.inr x42) =>
          bif (decide ((w64 (x42.1 - s0.1)) < (w64 (s0.2.1 - x42.1)))) then
           bif (decide ((w64 (Int.tdiv (w64 (s0.2.1 - s0.1)) 8)) ≤ (w64 (x42.1 - s0.1)))) then
            (rc s0.1 x42.1 s0.2.2.1 e x42.2).bind fun x47 =>
            some (.inl ((w64 (x42.1 + 1)), s0.2.1, s0.2.2.1, true, false, x47))
           else
            (rc s0.1 x42.1 s0.2.2.1 e x42.2).bind fun x48 =>
            some (.inl ((w64 (x42.1 + 1)), s0.2.1, s0.2.2.1, false, false, x48))
          else
           bif (decide ((w64 (Int.tdiv (w64 (s0.2.1 - s0.1)) 8)) ≤ (w64 (s0.2.1 - x42.1)))) then
            (rc (w64 (x42.1 + 1)) s0.2.1 s0.2.2.1 e x42.2).bind fun x49 =>
            some (.inl (s0.1, x42.1, s0.2.2.1, true, false, x49))
           else
            (rc (w64 (x42.1 + 1)) s0.2.1 s0.2.2.1 e x42.2).bind fun x50 =>
            some (.inl (s0.1, x42.1, s0.2.2.1, false, false, x50))
      else
       bif (decide (0 < s0.1)) then
        (ZA s0.2.2.2.2.2 (w64 (s0.1 - 1))).bind fun x51 =>
        (ZA s0.2.2.2.2.2 x3.1).bind fun x52 =>
        (e x51 x52).bind fun x53 =>
        bif (decide (x53 < 0)) then
         (Zp s0.1 s0.2.1 x3.1 e s0.2.2.2.2.2).bind fun x54 =>
         match x54 with
         | (.inl x54) =>
          bif (decide ((w64 (x54.1 - s0.1)) < (w64 (s0.2.1 - x54.1)))) then
           bif (decide ((w64 (Int.tdiv (w64 (s0.2.1 - s0.1)) 8)) ≤ (w64 (x54.1 - s0.1)))) then
            (rc s0.1 x54.1 s0.2.2.1 e x54.2).bind fun x55 =>
            some (.inl ((w64 (x54.1 + 1)), s0.2.1, s0.2.2.1, true, true, x55))
           else
            (rc s0.1 x54.1 s0.2.2.1 e x54.2).bind fun x56 =>
            some (.inl ((w64 (x54.1 + 1)), s0.2.1, s0.2.2.1, false, true, x56))
          else
           bif (decide ((w64 (Int.tdiv (w64 (s0.2.1 - s0.1)) 8)) ≤ (w64 (s0.2.1 - x54.1)))) then
            (rc (w64 (x54.1 + 1)) s0.2.1 s0.2.2.1 e x54.2).bind fun x57 =>
            some (.inl (s0.1, x54.1, s0.2.2.1, true, true, x57))
           else
            (rc (w64 (x54.1 + 1)) s0.2.1 s0.2.2.1 e x54.2).bind fun x58 =>
            some (.inl (s0.1, x54.1, s0.2.2.1, false, true, x58))
         | (.inr x54) =>
          bif (decide ((w64 (x54.1 - s0.1)) < (w64 (s0.2.1 - x54.1)))) then
           bif (decide ((w64 (Int.tdiv (w64 (s0.2.1 - s0.1)) 8)) ≤ (w64 (x54.1 - s0.1)))) then
            (rc s0.1 x54.1 s0.2.2.1 e x54.2).bind fun x59 =>
            some (.inl ((w64 (x54.1 + 1)), s0.2.1, s0.2.2.1, true, false, x59))
           else
            (rc s0.1 x54.1 s0.2.2.1 e x54.2).bind fun x60 =>
            some (.inl ((w64 (x54.1 + 1)), s0.2.1, s0.2.2.1, false, false, x60))
          else
           bif (decide ((w64 (Int.tdiv (w64 (s0.2.1 - s0.1)) 8)) ≤ (w64 (s0.2.1 - x54.1)))) then
            (rc (w64 (x54.1 + 1)) s0.2.1 s0.2.2.1 e x54.2).bind fun x61 =>
            some (.inl (s0.1, x54.1, s0.2.2.1, true, false, x61))
           else
            (rc (w64 (x54.1 + 1)) s0.2.1 s0.2.2.1 e x54.2).bind fun x62 =>
            some (.inl (s0.1, x54.1, s0.2.2.1, false, false, x62))
        else
         (Zy s0.1 s0.2.1 x3.1 e s0.2.2.2.2.2).bind fun x63 =>
         some (.inl (x63.1, s0.2.1, s0.2.2.1, true, true, x63.2))
       else
        (Zp s0.1 s0.2.1 x3.1 e s0.2.2.2.2.2).bind fun x64 =>
        match x64 with
        | (.inl x64) =>
         bif (decide ((w64 (x64.1 - s0.1)) < (w64 (s0.2.1 - x64.1)))) then
          bif (decide ((w64 (Int.tdiv (w64 (s0.2.1 - s0.1)) 8)) ≤ (w64 (x64.1 - s0.1)))) then
           (rc s0.1 x64.1 s0.2.2.1 e x64.2).bind fun x65 =>
           some (.inl ((w64 (x64.1 + 1)), s0.2.1, s0.2.2.1, true, true, x65))
          else
           (rc s0.1 x64.1 s0.2.2.1 e x64.2).bind fun x66 =>
           some (.inl ((w64 (x64.1 + 1)), s0.2.1, s0.2.2.1, false, true, x66))
         else
          bif (decide ((w64 (Int.tdiv (w64 (s0.2.1 - s0.1)) 8)) ≤ (w64 (s0.2.1 - x64.1)))) then
           (rc (w64 (x64.1 + 1)) s0.2.1 s0.2.2.1 e x64.2).bind fun x67 =>
           some (.inl (s0.1, x64.1, s0.2.2.1, true, true, x67))
          else
           (rc (w64 (x64.1 + 1)) s0.2.1 s0.2.2.1 e x64.2).bind fun x68 =>
           some (.inl (s0.1, x64.1, s0.2.2.1, false, true, x68))
        | (.inr x64) =>
         bif (decide ((w64 (x64.1 - s0.1)) < (w64 (s0.2.1 - x64.1)))) then
          bif (decide ((w64 (Int.tdiv (w64 (s0.2.1 - s0.1)) 8)) ≤ (w64 (x64.1 - s0.1)))) then
           (rc s0.1 x64.1 s0.2.2.1 e x64.2).bind fun x69 =>
           some (.inl ((w64 (x64.1 + 1)), s0.2.1, s0.2.2.1, true, false, x69))
          else
           (rc s0.1 x64.1 s0.2.2.1 e x64.2).bind fun x70 =>
           some (.inl ((w64 (x64.1 + 1)), s0.2.1, s0.2.2.1, false, false, x70))
         else
          bif (decide ((w64 (Int.tdiv (w64 (s0.2.1 - s0.1)) 8)) ≤ (w64 (s0.2.1 - x64.1)))) then
           (rc (w64 (x64.1 + 1)) s0.2.1 s0.2.2.1 e x64.2).bind fun x71 =>
           some (.inl (s0.1, x64.1, s0.2.2.1, true, false, x71))
          else
           (rc (w64 (x64.1 + 1)) s0.2.1 s0.2.2.1 e x64.2).bind fun x72 =>
           some (.inl (s0.1, x64.1, s0.2.2.1, false, false, x72))
  else
   bif (decide ((w64 (s0.2.1 - s0.1)) ≤ 12)) then
    (ZR s0.1 s0.2.1 e s0.2.2.2.2.2).bind fun x73 =>
    some (.inr x73)
   else
    bif (s0.2.2.1 == 0) then
     (ZZ s0.1 s0.2.1 e s0.2.2.2.2.2).bind fun x74 =>
     some (.inr x74)
    else
     (ZJ s0.1 s0.2.1 e s0.2.2.2.2.2).bind fun x75 =>
     bif (x75.2 == 2) then
      (ZI s0.1 s0.2.1 e s0.2.2.2.2.2).bind fun x76 =>
      bif (decide (0 < s0.1)) then
       (ZA x76 (w64 (s0.1 - 1))).bind fun x77 =>
       (ZA x76 (w64 ((w64 (s0.2.1 - 1)) - (w64 (x75.1 - s0.1))))).bind fun x78 =>
       (e x77 x78).bind fun x79 =>
       bif (decide (x79 < 0)) then
        (Zp s0.1 s0.2.1 (w64 ((w64 (s0.2.1 - 1)) - (w64 (x75.1 - s0.1)))) e x76).bind fun x80 =>
        match x80 with
        | (.inl x80) =>
         bif (decide ((w64 (x80.1 - s0.1)) < (w64 (s0.2.1 - x80.1)))) then
          bif (decide ((w64 (Int.tdiv (w64 (s0.2.1 - s0.1)) 8)) ≤ (w64 (x80.1 - s0.1)))) then
           (rc s0.1 x80.1 s0.2.2.1 e x80.2).bind fun x81 =>
           some (.inl ((w64 (x80.1 + 1)), s0.2.1, s0.2.2.1, true, true, x81))
          else
           (rc s0.1 x80.1 s0.2.2.1 e x80.2).bind fun x82 =>
           some (.inl ((w64 (x80.1 + 1)), s0.2.1, s0.2.2.1, false, true, x82))
         else
          bif (decide ((w64 (Int.tdiv (w64 (s0.2.1 - s0.1)) 8)) ≤ (w64 (s0.2.1 - x80.1)))) then
           (rc (w64 (x80.1 + 1)) s0.2.1 s0.2.2.1 e x80.2).bind fun x83 =>
           some (.inl (s0.1, x80.1, s0.2.2.1, true, true, x83))
          else
           (rc (w64 (x80.1 + 1)) s0.2.1 s0.2.2.1 e x80.2).bind fun x84 =>
           some (.inl (s0.1, x80.1, s0.2.2.1, false, true, x84))
        | (.inr x80) =>
         bif (decide ((w64 (x80.1 - s0.1)) < (w64 (s0.2.1 - x80.1)))) then
          bif (decide ((w64 (Int.tdiv (w64 (s0.2.1 - s0.1)) 8)) ≤ (w64 (x80.1 - s0.1)))) then
           (rc s0.1 x80.1 s0.2.2.1 e x80.2).bind fun x85 =>
           some (.inl ((w64 (x80.1 + 1)), s0.2.1, s0.2.2.1, true, false, x85))
          else
           (rc s0.1 x80.1 s0.2.2.1 e x80.2).bind fun x86 =>
           some (.inl ((w64 (x80.1 + 1)), s0.2.1, s0.2.2.1, false, false, x86))
         else
          bif (decide ((w64 (Int.tdiv (w64 (s0.2.1 - s0.1)) 8)) ≤ (w64 (s0.2.1 - x80.1)))) then
           (rc (w64 (x80.1 + 1)) s0.2.1 s0.2.2.1 e x80.2).bind fun x87 =>
           some (.inl (s0.1, x80.1, s0.2.2.1, true, false, x87))
          else
           (rc (w64 (x80.1 + 1)) s0.2.1 s0.2.2.1 e x80.2).bind fun x88 =>
           some (.inl (s0.1, x80.1, s0.2.2.1, false, false, x88))
       else
        (Zy s0.1 s0.2.1 (w64 ((w64 (s0.2.1 - 1)) - (w64 (x75.1 - s0.1)))) e x76).bind fun x89 =>
        some (.inl (x89.1, s0.2.1, s0.2.2.1, true, false, x89.2))
      else
       (Zp s0.1 s0.2.1 (w64 ((w64 (s0.2.1 - 1)) - (w64 (x75.1 - s0.1)))) e x76).bind fun x90 =>
       match x90 with
       | (.inl x90) =>
        bif (decide ((w64 (x90.1 - s0.1)) < (w64 (s0.2.1 - x90.1)))) then
         bif (decide ((w64 (Int.tdiv (w64 (s0.2.1 - s0.1)) 8)) ≤ (w64 (x90.1 - s0.1)))) then
          (rc s0.1 x90.1 s0.2.2.1 e x90.2).bind fun x91 =>
          some (.inl ((w64 (x90.1 + 1)), s0.2.1, s0.2.2.1, true, true, x91))
         else
          (rc s0.1 x90.1 s0.2.2.1 e x90.2).bind fun x92 =>
          some (.inl ((w64 (x90.1 + 1)), s0.2.1, s0.2.2.1, false, true, x92))
        else
         bif (decide ((w64 (Int.tdiv (w64 (s0.2.1 - s0.1)) 8)) ≤ (w64 (s0.2.1 - x90.1)))) then
          (rc (w64 (x90.1 + 1)) s0.2.1 s0.2.2.1 e x90.2).bind fun x93 =>
          some (.inl (s0.1, x90.1, s0.2.2.1, true, true, x93))
         else
          (rc (w64 (x90.1 + 1)) s0.2.1 s0.2.2.1 e x90.2).bind fun x94 =>
          some (.inl (s0.1, x90.1, s0.2.2.1, false, true, x94))
       | (.inr x90) =>
        bif (decide ((w64 (x90.1 - s0.1)) < (w64 (s0.2.1 - x90.1)))) then
         bif (decide ((w64 (Int.tdiv (w64 (s0.2.1 - s0.1)) 8)) ≤ (w64 (x90.1 - s0.1)))) then
          (rc s0.1 x90.1 s0.2.2.1 e x90.2).bind fun x95 =>
          some (.inl ((w64 (x90.1 + 1)), s0.2.1, s0.2.2.1, true, false, x95))
         else
          (rc s0.1 x90.1 s0.2.2.1 e x90.2).bind fun x96 =>
          some (.inl ((w64 (x90.1 + 1)), s0.2.1, s0.2.2.1, false, false, x96))
        else
         bif (decide ((w64 (Int.tdiv (w64 (s0.2.1 - s0.1)) 8)) ≤ (w64 (s0.2.1 - x90.1)))) then
          (rc (w64 (x90.1 + 1)) s0.2.1 s0.2.2.1 e x90.2).bind fun x97 =>
          some (.inl (s0.1, x90.1, s0.2.2.1, true, false, x97))
         else
          (rc (w64 (x90.1 + 1)) s0.2.1 s0.2.2.1 e x90.2).bind fun x98 =>
          some (.inl (s0.1, x90.1, s0.2.2.1, false, false, x98))
     else
      bif (decide (0 < s0.1)) then
       (ZA s0.2.2.2.2.2 (w64 (s0.1 - 1))).bind fun x99 =>
       (ZA s0.2.2.2.2.2 x75.1).bind fun x100 =>
       (e x99 x100).bind fun x101 =>
       bif (decide (x101 < 0)) then
        (Zp s0.1 s0.2.1 x75.1 e s0.2.2.2.2.2).bind fun x102 =>
        match x102 with
        | (.inl x102) =>
         bif (decide ((w64 (x102.1 - s0.1)) < (w64 (s0.2.1 - x102.1)))) then
          bif (decide ((w64 (Int.tdiv (w64 (s0.2.1 - s0.1)) 8)) ≤ (w64 (x102.1 - s0.1)))) then
           (rc s0.1 x102.1 s0.2.2.1 e x102.2).bind fun x103 =>
           some (.inl ((w64 (x102.1 + 1)), s0.2.1, s0.2.2.1, true, true, x103))
          else
           (rc s0.1 x102.1 s0.2.2.1 e x102.2).bind fun x104 =>
           some (.inl ((w64 (x102.1 + 1)), s0.2.1, s0.2.2.1, false, true, x104))
         else
          bif (decide ((w64 (Int.tdiv (w64 (s0.2.1 - s0.1)) 8)) ≤ (w64 (s0.2.1 - x102.1)))) then
           (rc (w64 (x102.1 + 1)) s0.2.1 s0.2.2.1 e x102.2).bind fun x105 =>
           some (.inl (s0.1, x102.1, s0.2.2.1, true, true, x105))
          else
           (rc (w64 (x102.1 + 1)) s0.2.1 s0.2.2.1 e x102.2).bind fun x106 =>
           some (.inl (s0.1, x102.1, s0.2.2.1, false, true, x106))
        | (.inr x102) =>
         bif (decide ((w64 (x102.1 - s0.1)) < (w64 (s0.2.1 - x102.1)))) then
          bif (decide ((w64 (Int.tdiv (w64 (s0.2.1 - s0.1)) 8)) ≤ (w64 (x102.1 - s0.1)))) then
           (rc s0.1 x102.1 s0.2.2.1 e x102.2).bind fun x107 =>
           some (.inl ((w64 (x102.1 + 1)), s0.2.1, s0.2.2.1, true, false, x107))
          else
           (rc s0.1 x102.1 s0.2.2.1 e x102.2).bind fun x108 =>
           some (.inl ((w64 (x102.1 + 1)), s0.2.1, s0.2.2.1, false, false, x108))
         else
          bif (decide ((w64 (Int.tdiv (w64 (s0.2.1 - s0.1)) 8)) ≤ (w64 (s0.2.1 - x102.1)))) then
           (rc (w64 (x102.1 + 1)) s0.2.1 s0.2.2.1 e x102.2).bind fun x109 =>
           some (.inl (s0.1, x102.1, s0.2.2.1, true, false, x109))
          else
           (rc (w64 (x102.1 + 1)) s0.2.1 s0.2.2.1 e x102.2).bind fun x110 =>
           some (.inl (s0.1, x102.1, s0.2.2.1, false, false, x110))
       else
        (Zy s0.1 s0.2.1 x75.1 e s0.2.2.2.2.2).bind fun x111 =>
        some (.inl (x111.1, s0.2.1, s0.2.2.1, true, false, x111.2))
      else
       (Zp s0.1 s0.2.1 x75.1 e s0.2.2.2.2.2).bind fun x112 =>
       match x112 with
       | (.inl x112) =>
        bif (decide ((w64 (x112.1 - s0.1)) < (w64 (s0.2.1 - x112.1)))) then
         bif (decide ((w64 (Int.tdiv (w64 (s0.2.1 - s0.1)) 8)) ≤ (w64 (x112.1 - s0.1)))) then
          (rc s0.1 x112.1 s0.2.2.1 e x112.2).bind fun x113 =>
          some (.inl ((w64 (x112.1 + 1)), s0.2.1, s0.2.2.1, true, true, x113))
         else
          (rc s0.1 x112.1 s0.2.2.1 e x112.2).bind fun x114 =>
          some (.inl ((w64 (x112.1 + 1)), s0.2.1, s0.2.2.1, false, true, x114))
        else
         bif (decide ((w64 (Int.tdiv (w64 (s0.2.1 - s0.1)) 8)) ≤ (w64 (s0.2.1 - x112.1)))) then
          (rc (w64 (x112.1 + 1)) s0.2.1 s0.2.2.1 e x112.2).bind fun x115 =>
          some (.inl (s0.1, x112.1, s0.2.2.1, true, true, x115))
         else
          (rc (w64 (x112.1 + 1)) s0.2.1 s0.2.2.1 e x112.2).bind fun x116 =>
          some (.inl (s0.1, x112.1, s0.2.2.1, false, true, x116))
       | (.inr x112) =>
        bif (decide ((w64 (x112.1 - s0.1)) < (w64 (s0.2.1 - x112.1)))) then
         bif (decide ((w64 (Int.tdiv (w64 (s0.2.1 - s0.1)) 8)) ≤ (w64 (x112.1 - s0.1)))) then
          (rc s0.1 x112.1 s0.2.2.1 e x112.2).bind fun x117 =>
          some (.inl ((w64 (x112.1 + 1)), s0.2.1, s0.2.2.1, true, false, x117))
         else
          (rc s0.1 x112.1 s0.2.2.1 e x112.2).bind fun x118 =>
          some (.inl ((w64 (x112.1 + 1)), s0.2.1, s0.2.2.1, false, false, x118))
        else
         bif (decide ((w64 (Int.tdiv (w64 (s0.2.1 - s0.1)) 8)) ≤ (w64 (s0.2.1 - x112.1)))) then
          (rc (w64 (x112.1 + 1)) s0.2.1 s0.2.2.1 e x112.2).bind fun x119 =>
          some (.inl (s0.1, x112.1, s0.2.2.1, true, false, x119))
         else
          (rc (w64 (x112.1 + 1)) s0.2.1 s0.2.2.1 e x112.2).bind fun x120 =>
          some (.inl (s0.1, x112.1, s0.2.2.1, false, false, x120))
 else
  bif s0.2.2.2.2.1 then
   bif (decide ((w64 (s0.2.1 - s0.1)) ≤ 12)) then
    (ZR s0.1 s0.2.1 e s0.2.2.2.2.2).bind fun x121 =>
    some (.inr x121)
   else
    bif (s0.2.2.1 == 0) then
     (ZZ s0.1 s0.2.1 e s0.2.2.2.2.2).bind fun x122 =>
     some (.inr x122)
    else
     (Z4 s0.1 s0.2.1 e s0.2.2.2.2.2).bind fun x123 =>
     (ZJ s0.1 s0.2.1 e x123).bind fun x124 =>
     bif (x124.2 == 2) then
      (ZI s0.1 s0.2.1 e x123).bind fun x125 =>
      bif (decide (0 < s0.1)) then
       (ZA x125 (w64 (s0.1 - 1))).bind fun x126 =>
       (ZA x125 (w64 ((w64 (s0.2.1 - 1)) - (w64 (x124.1 - s0.1))))).bind fun x127 =>
       (e x126 x127).bind fun x128 =>
       bif (decide (x128 < 0)) then
        (Zp s0.1 s0.2.1 (w64 ((w64 (s0.2.1 - 1)) - (w64 (x124.1 - s0.1)))) e x125).bind fun x129 =>
        match x129 with
        | (.inl x129) =>
         bif (decide ((w64 (x129.1 - s0.1)) < (w64 (s0.2.1 - x129.1)))) then
          bif (decide ((w64 (Int.tdiv (w64 (s0.2.1 - s0.1)) 8)) ≤ (w64 (x129.1 - s0.1)))) then
           (rc s0.1 x129.1 (w64 (s0.2.2.1 - 1)) e x129.2).bind fun x130 =>
           some (.inl ((w64 (x129.1 + 1)), s0.2.1, (w64 (s0.2.2.1 - 1)), true, true, x130))
          else
           (rc s0.1 x129.1 (w64 (s0.2.2.1 - 1)) e x129.2).bind fun x131 =>
           some (.inl ((w64 (x129.1 + 1)), s0.2.1, (w64 (s0.2.2.1 - 1)), false, true, x131))
         else
          bif (decide ((w64 (Int.tdiv (w64 (s0.2.1 - s0.1)) 8)) ≤ (w64 (s0.2.1 - x129.1)))) then
           (rc (w64 (x129.1 + 1)) s0.2.1 (w64 (s0.2.2.1 - 1)) e x129.2).bind fun x132 =>
           some (.inl (s0.1, x129.1, (w64 (s0.2.2.1 - 1)), true, true, x132))
          else
           (rc (w64 (x129.1 + 1)) s0.2.1 (w64 (s0.2.2.1 - 1)) e x129.2).bind fun x133 =>
           some (.inl (s0.1, x129.1, (w64 (s0.2.2.1 - 1)), false, true, x133))
        | (.inr x129) =>
         bif (decide ((w64 (x129.1 - s0.1)) < (w64 (s0.2.1 - x129.1)))) then
          bif (decide ((w64 (Int.tdiv (w64 (s0.2.1 - s0.1)) 8)) ≤ (w64 (x129.1 - s0.1)))) then
           (rc s0.1 x129.1 (w64 (s0.2.2.1 - 1)) e x129.2).bind fun x134 =>
           some (.inl ((w64 (x129.1 + 1)), s0.2.1, (w64 (s0.2.2.1 - 1)), true, false, x134))
          else
           (rc s0.1 x129.1 (w64 (s0.2.2.1 - 1)) e x129.2).bind fun x135 =>
           some (.inl ((w64 (x129.1 + 1)), s0.2.1, (w64 (s0.2.2.1 - 1)), false, false, x135))
         else
          bif (decide ((w64 (Int.tdiv (w64 (s0.2.1 - s0.1)) 8)) ≤ (w64 (s0.2.1 - x129.1)))) then
           (rc (w64 (x129.1 + 1)) s0.2.1 (w64 (s0.2.2.1 - 1)) e x129.2).bind fun x136 =>
           some (.inl (s0.1, x129.1, (w64 (s0.2.2.1 - 1)), true, false, x136))
          else
           (rc (w64 (x129.1 + 1)) s0.2.1 (w64 (s0.2.2.1 - 1)) e x129.2).bind fun x137 =>
           some (.inl (s0.1, x129.1, (w64 (s0.2.2.1 - 1)), false, false, x137))
       else
        (Zy s0.1 s0.2.1 (w64 ((w64 (s0.2.1 - 1)) - (w64 (x124.1 - s0.1)))) e x125).bind fun x138 =>
        some (.inl (x138.1, s0.2.1, (w64 (s0.2.2.1 - 1)), false, true, x138.2))
      else
       (Zp s0.1 s0.2.1 (w64 ((w64 (s0.2.1 - 1)) - (w64 (x124.1 - s0.1)))) e x125).bind fun x139 =>
       match x139 with
       | (.inl x139) =>
        bif (decide ((w64 (x139.1 - s0.1)) < (w64 (s0.2.1 - x139.1)))) then
         bif (decide ((w64 (Int.tdiv (w64 (s0.2.1 - s0.1)) 8)) ≤ (w64 (x139.1 - s0.1)))) then
          (rc s0.1 x139.1 (w64 (s0.2.2.1 - 1)) e x139.2).bind fun x140 =>
          some (.inl ((w64 (x139.1 + 1)), s0.2.1, (w64 (s0.2.2.1 - 1)), true, true, x140))
         else
          (rc s0.1 x139.1 (w64 (s0.2.2.1 - 1)) e x139.2).bind fun x141 =>
          some (.inl ((w64 (x139.1 + 1)), s0.2.1, (w64 (s0.2.2.1 - 1)), false, true, x141))
        else
         bif (decide ((w64 (Int.tdiv (w64 (s0.2.1 - s0.1)) 8)) ≤ (w64 (s0.2.1 - x139.1)))) then
          (rc (w64 (x139.1 + 1)) s0.2.1 (w64 (s0.2.2.1 - 1)) e x139.2).bind fun x142 =>
          some (.inl (s0.1, x139.1, (w64 (s0.2.2.1 - 1)), true, true, x142))
         else
          (rc (w64 (x139.1 + 1)) s0.2.1 (w64 (s0.2.2.1 - 1)) e x139.2).bind fun x143 =>
          some (.inl (s0.1, x139.1, (w64 (s0.2.2.1 - 1)), false, true, x143))
       | (.inr x139) =>
        bif (decide ((w64 (x139.1 - s0.1)) < (w64 (s0.2.1 - x139.1)))) then
         bif (decide ((w64 (Int.tdiv (w64 (s0.2.1 - s0.1)) 8)) ≤ (w64 (x139.1 - s0.1)))) then
          (rc s0.1 x139.1 (w64 (s0.2.2.1 - 1)) e x139.2).bind fun x144 =>
          some (.inl ((w64 (x139.1 + 1)), s0.2.1, (w64 (s0.2.2.1 - 1)), true, false, x144))
         else
          (rc s0.1 x139.1 (w64 (s0.2.2.1 - 1)) e x139.2).bind fun x145 =>
          some (.inl ((w64 (x139.1 + 1)), s0.2.1, (w64 (s0.2.2.1 - 1)), false, false, x145))
        else
         bif (decide ((w64 (Int.tdiv (w64 (s0.2.1 - s0.1)) 8)) ≤ (w64 (s0.2.1 - x139.1)))) then
          (rc (w64 (x139.1 + 1)) s0.2.1 (w64 (s0.2.2.1 - 1)) e x139.2).bind fun x146 =>
          some (.inl (s0.1, x139.1, (w64 (s0.2.2.1 - 1)), true, false, x146))
         else
          (rc (w64 (x139.1 + 1)) s0.2.1 (w64 (s0.2.2.1 - 1)) e x139.2).bind fun x147 =>
          some (.inl (s0.1, x139.1, (w64 (s0.2.2.1 - 1)), false, false, x147))
     else
      bif (decide (0 < s0.1)) then
       (ZA x123 (w64 (s0.1 - 1))).bind fun x148 =>
       (ZA x123 x124.1).bind fun x149 =>
       (e x148 x149).bind fun x150 =>
       bif (decide (x150 < 0)) then
        (Zp s0.1 s0.2.1 x124.1 e x123).bind fun x151 =>
        match x151 with
        | (.inl x151) =>
         bif (decide ((w64 (x151.1 - s0.1)) < (w64 (s0.2.1 - x151.1)))) then
          bif (decide ((w64 (Int.tdiv (w64 (s0.2.1 - s0.1)) 8)) ≤ (w64 (x151.1 - s0.1)))) then
           (rc s0.1 x151.1 (w64 (s0.2.2.1 - 1)) e x151.2).bind fun x152 =>
           some (.inl ((w64 (x151.1 + 1)), s0.2.1, (w64 (s0.2.2.1 - 1)), true, true, x152))
          else
           (rc s0.1 x151.1 (w64 (s0.2.2.1 - 1)) e x151.2).bind fun x153 =>
           some (.inl ((w64 (x151.1 + 1)), s0.2.1, (w64 (s0.2.2.1 - 1)), false, true, x153))
         else
          bif (decide ((w64 (Int.tdiv (w64 (s0.2.1 - s0.1)) 8)) ≤ (w64 (s0.2.1 - x151.1)))) then
           (rc (w64 (x151.1 + 1)) s0.2.1 (w64 (s0.2.2.1 - 1)) e x151.2).bind fun x154 =>
           some (.inl (s0.1, x151.1, (w64 (s0.2.2.1 - 1)), true, true, x154))
          else
           (rc (w64 (x151.1 + 1)) s0.2.1 (w64 (s0.2.2.1 - 1)) e x151.2).bind fun x155 =>
           some (.inl (s0.1, x151.1, (w64 (s0.2.2.1 - 1)), false, true, x155))
        | (.inr x151) =>
         bif (decide ((w64 (x151.1 - s0.1)) < (w64 (s0.2.1 - x151.1)))) then
          bif (decide ((w64 (Int.tdiv (w64 (s0.2.1 - s0.1)) 8)) ≤ (w64 (x151.1 - s0.1)))) then
           (rc s0.1 x151.1 (w64 (s0.2.2.1 - 1)) e x151.2).bind fun x156 =>
           some (.inl ((w64 (x151.1 + 1)), s0.2.1, (w64 (s0.2.2.1 - 1)), true, false, x156))
          else
           (rc s0.1 x151.1 (w64 (s0.2.2.1 - 1)) e x151.2).bind fun x157 =>
           some (.inl ((w64 (x151.1 + 1)), s0.2.1, (w64 (s0.2.2.1 - 1)), false, false, x157))
         else
          bif (decide ((w64 (Int.tdiv (w64 (s0.2.1 - s0.1)) 8)) ≤ (w64 (s0.2.1 - x151.1)))) then
           (rc (w64 (x151.1 + 1)) s0.2.1 (w64 (s0.2.2.1 - 1)) e x151.2).bind fun x158 =>
           some (.inl (s0.1, x151.1, (w64 (s0.2.2.1 - 1)), true, false, x158))
          else
           (rc (w64 (x151.1 + 1)) s0.2.1 (w64 (s0.2.2.1 - 1)) e x151.2).bind fun x159 =>
           some (.inl (s0.1, x151.1, (w64 (s0.2.2.1 - 1)), false, false, x159))
       else
        (Zy s0.1 s0.2.1 x124.1 e x123).bind fun x160 =>
        some (.inl (x160.1, s0.2.1, (w64 (s0.2.2.1 - 1)), false, true, x160.2))
      else
       (Zp s0.1 s0.2.1 x124.1 e x123).bind fun x161 =>
       match x161 with
       | (.inl x161) =>
        bif (decide ((w64 (x161.1 - s0.1)) < (w64 (s0.2.1 - x161.1)))) then
         bif (decide ((w64 (Int.tdiv (w64 (s0.2.1 - s0.1)) 8)) ≤ (w64 (x161.1 - s0.1)))) then
          (rc s0.1 x161.1 (w64 (s0.2.2.1 - 1)) e x161.2).bind fun x162 =>
          some (.inl ((w64 (x161.1 + 1)), s0.2.1, (w64 (s0.2.2.1 - 1)), true, true, x162))
         else
          (rc s0.1 x161.1 (w64 (s0.2.2.1 - 1)) e x161.2).bind fun x163 =>
          some (.inl ((w64 (x161.1 + 1)), s0.2.1, (w64 (s0.2.2.1 - 1)), false, true, x163))
        else
         bif (decide ((w64 (Int.tdiv (w64 (s0.2.1 - s0.1)) 8)) ≤ (w64 (s0.2.1 - x161.1)))) then
          (rc (w64 (x161.1 + 1)) s0.2.1 (w64 (s0.2.2.1 - 1)) e x161.2).bind fun x164 =>
          some (.inl (s0.1, x161.1, (w64 (s0.2.2.1 - 1)), true, true, x164))
         else
          (rc (w64 (x161.1 + 1)) s0.2.1 (w64 (s0.2.2.1 - 1)) e x161.2).bind fun x165 =>
          some (.inl (s0.1, x161.1, (w64 (s0.2.2.1 - 1)), false, true, x165))
       | (.inr x161) =>
        bif (decide ((w64 (x161.1 - s0.1)) < (w64 (s0.2.1 - x161.1)))) then
         bif (decide ((w64 (Int.tdiv (w64 (s0.2.1 - s0.1)) 8)) ≤ (w64 (x161.1 - s0.1)))) then
          (rc s0.1 x161.1 (w64 (s0.2.2.1 - 1)) e x161.2).bind fun x166 =>
          some (.inl ((w64 (x161.1 + 1)), s0.2.1, (w64 (s0.2.2.1 - 1)), true, false, x166))
         else
          (rc s0.1 x161.1 (w64 (s0.2.2.1 - 1)) e x161.2).bind fun x167 =>
          some (.inl ((w64 (x161.1 + 1)), s0.2.1, (w64 (s0.2.2.1 - 1)), false, false, x167))
        else
         bif (decide ((w64 (Int.tdiv (w64 (s0.2.1 - s0.1)) 8)) ≤ (w64 (s0.2.1 - x161.1)))) then
          (rc (w64 (x161.1 + 1)) s0.2.1 (w64 (s0.2.2.1 - 1)) e x161.2).bind fun x168 =>
          some (.inl (s0.1, x161.1, (w64 (s0.2.2.1 - 1)), true, false, x168))
         else
          (rc (w64 (x161.1 + 1)) s0.2.1 (w64 (s0.2.2.1 - 1)) e x161.2).bind fun x169 =>
          some (.inl (s0.1, x161.1, (w64 (s0.2.2.1 - 1)), false, false, x169))
  else
   bif (decide ((w64 (s0.2.1 - s0.1)) ≤ 12)) then
    (ZR s0.1 s0.2.1 e s0.2.2.2.2.2).bind fun x170 =>
    some (.inr x170)
   else
    bif (s0.2.2.1 == 0) then
     (ZZ s0.1 s0.2.1 e s0.2.2.2.2.2).bind fun x171 =>
     some (.inr x171)
    else
     (Z4 s0.1 s0.2.1 e s0.2.2.2.2.2).bind fun x172 =>
     (ZJ s0.1 s0.2.1 e x172).bind fun x173 =>
     bif (x173.2 == 2) then
      (ZI s0.1 s0.2.1 e x172).bind fun x174 =>
      bif (decide (0 < s0.1)) then
       (ZA x174 (w64 (s0.1 - 1))).bind fun x175 =>
       (ZA x174 (w64 ((w64 (s0.2.1 - 1)) - (w64 (x173.1 - s0.1))))).bind fun x176 =>
       (e x175 x176).bind fun x177 =>
       bif (decide (x177 < 0)) then
        (Zp s0.1 s0.2.1 (w64 ((w64 (s0.2.1 - 1)) - (w64 (x173.1 - s0.1)))) e x174).bind fun x178 =>
        match x178 with
        | (.inl x178) =>
         bif (decide ((w64 (x178.1 - s0.1)) < (w64 (s0.2.1 - x178.1)))) then
          bif (decide ((w64 (Int.tdiv (w64 (s0.2.1 - s0.1)) 8)) ≤ (w64 (x178.1 - s0.1)))) then
           (rc s0.1 x178.1 (w64 (s0.2.2.1 - 1)) e x178.2).bind fun x179 =>
           some (.inl ((w64 (x178.1 + 1)), s0.2.1, (w64 (s0.2.2.1 - 1)), true, true, x179))
          else
           (rc s0.1 x178.1 (w64 (s0.2.2.1 - 1)) e x178.2).bind fun x180 =>
           some (.inl ((w64 (x178.1 + 1)), s0.2.1, (w64 (s0.2.2.1 - 1)), false, true, x180))
         else
          bif (decide ((w64 (Int.tdiv (w64 (s0.2.1 - s0.1)) 8)) ≤ (w64 (s0.2.1 - x178.1)))) then
           (rc (w64 (x178.1 + 1)) s0.2.1 (w64 (s0.2.2.1 - 1)) e x178.2).bind fun x181 =>
           some (.inl (s0.1, x178.1, (w64 (s0.2.2.1 - 1)), true, true, x181))
          else
           (rc (w64 (x178.1 + 1)) s0.2.1 (w64 (s0.2.2.1 - 1)) e x178.2).bind fun x182 =>
           some (.inl (s0.1, x178.1, (w64 (s0.2.2.1 - 1)), false, true, x182))
        | (.inr x178) =>
         bif (decide ((w64 (x178.1 - s0.1)) < (w64 (s0.2.1 - x178.1)))) then
          bif (decide ((w64 (Int.tdiv (w64 (s0.2.1 - s0.1)) 8)) ≤ (w64 (x178.1 - s0.1)))) then
           (rc s0.1 x178.1 (w64 (s0.2.2.1 - 1)) e x178.2).bind fun x183 =>
           some (.inl ((w64 (x178.1 + 1)), s0.2.1, (w64 (s0.2.2.1 - 1)), true, false, x183))
          else
           (rc s0.1 x178.1 (w64 (s0.2.2.1 - 1)) e x178.2).bind fun x184 =>
           some (.inl ((w64 (x178.1 + 1)), s0.2.1, (w64 (s0.2.2.1 - 1)), false, false, x184))
         else
          bif (decide ((w64 (Int.tdiv (w64 (s0.2.1 - s0.1)) 8)) ≤ (w64 (s0.2.1 - x178.1)))) then
           (rc (w64 (x178.1 + 1)) s0.2.1 (w64 (s0.2.2.1 - 1)) e x178.2).bind fun x185 =>
           some (.inl (s0.1, x178.1, (w64 (s0.2.2.1 - 1)), true, false, x185))
          else
           (rc (w64 (x178.1 + 1)) s0.2.1 (w64 (s0.2.2.1 - 1)) e x178.2).bind fun x186 =>
           some (.inl (s0.1, x178.1, (w64 (s0.2.2.1 - 1)), false, false, x186))
       else
        (Zy s0.1 s0.2.1 (w64 ((w64 (s0.2.1 - 1)) - (w64 (x173.1 - s0.1)))) e x174).bind fun x187 =>
        some (.inl (x187.1, s0.2.1, (w64 (s0.2.2.1 - 1)), false, false, x187.2))
      else
       (Zp s0.1 s0.2.1 (w64 ((w64 (s0.2.1 - 1)) - (w64 (x173.1 - s0.1)))) e x174).bind fun x188 =>
       match x188 with
       | (.inl x188) =>
        bif (decide ((w64 (x188.1 - s0.1)) < (w64 (s0.2.1 - x188.1)))) then
         bif (decide ((w64 (Int.tdiv (w64 (s0.2.1 - s0.1)) 8)) ≤ (w64 (x188.1 - s0.1)))) then
          (rc s0.1 x188.1 (w64 (s0.2.2.1 - 1)) e x188.2).bind fun x189 =>
          some (.inl ((w64 (x188.1 + 1)), s0.2.1, (w64 (s0.2.2.1 - 1)), true, true, x189))
         else
          (rc s0.1 x188.1 (w64 (s0.2.2.1 - 1)) e x188.2).bind fun x190 =>
          some (.inl ((w64 (x188.1 + 1)), s0.2.1, (w64 (s0.2.2.1 - 1)), false, true, x190))
        else
         bif (decide ((w64 (Int.tdiv (w64 (s0.2.1 - s0.1)) 8)) ≤ (w64 (s0.2.1 - x188.1)))) then
          (rc (w64 (x188.1 + 1)) s0.2.1 (w64 (s0.2.2.1 - 1)) e x188.2).bind fun x191 =>
          some (.inl (s0.1, x188.1, (w64 (s0.2.2.1 - 1)), true, true, x191))
         else
          (rc (w64 (x188.1 + 1)) s0.2.1 (w64 (s0.2.2.1 - 1)) e x188.2).bind fun x192 =>
          some (.inl (s0.1, x188.1, (w64 (s0.2.2.1 - 1)), false, true, x192))
       | (.inr x188) =>
        bif (decide ((w64 (x188.1 - s0.1)) < (w64 (s0.2.1 - x188.1)))) then
         bif (decide ((w64 (Int.tdiv (w64 (s0.2.1 - s0.1)) 8)) ≤ (w64 (x188.1 - s0.1)))) then
          (rc s0.1 x188.1 (w64 (s0.2.2.1 - 1)) e x188.2).bind fun x193 =>
          some (.inl ((w64 (x188.1 + 1)), s0.2.1, (w64 (s0.2.2.1 - 1)), true, false, x193))
         else
          (rc s0.1 x188.1 (w64 (s0.2.2.1 - 1)) e x188.2).bind fun x194 =>
          some (.inl ((w64 (x188.1 + 1)), s0.2.1, (w64 (s0.2.2.1 - 1)), false, false, x194))
        else
         bif (decide ((w64 (Int.tdiv (w64 (s0.2.1 - s0.1)) 8)) ≤ (w64 (s0.2.1 - x188.1)))) then
          (rc (w64 (x188.1 + 1)) s0.2.1 (w64 (s0.2.2.1 - 1)) e x188.2).bind fun x195 =>
          some (.inl (s0.1, x188.1, (w64 (s0.2.2.1 - 1)), true, false, x195))
         else
          (rc (w64 (x188.1 + 1)) s0.2.1 (w64 (s0.2.2.1 - 1)) e x188.2).bind fun x196 =>
          some (.inl (s0.1, x188.1, (w64 (s0.2.2.1 - 1)), false, false, x196))
     else
      bif (decide (0 < s0.1)) then
       (ZA x172 (w64 (s0.1 - 1))).bind fun x197 =>
       (ZA x172 x173.1).bind fun x198 =>
       (e x197 x198).bind fun x199 =>
       bif (decide (x199 < 0)) then
        (Zp s0.1 s0.2.1 x173.1 e x172).bind fun x200 =>
        match x200 with
        | (.inl x200) =>
         bif (decide ((w64 (x200.1 - s0.1)) < (w64 (s0.2.1 - x200.1)))) then
          bif (decide ((w64 (Int.tdiv (w64 (s0.2.1 - s0.1)) 8)) ≤ (w64 (x200.1 - s0.1)))) then
           (rc s0.1 x200.1 (w64 (s0.2.2.1 - 1)) e x200.2).bind fun x201 =>
           some (.inl ((w64 (x200.1 + 1)), s0.2.1, (w64 (s0.2.2.1 - 1)), true, true, x201))
          else
           (rc s0.1 x200.1 (w64 (s0.2.2.1 - 1)) e x200.2).bind fun x202 =>
           some (.inl ((w64 (x200.1 + 1)), s0.2.1, (w64 (s0.2.2.1 - 1)), false, true, x202))
         else
          bif (decide ((w64 (Int.tdiv (w64 (s0.2.1 - s0.1)) 8)) ≤ (w64 (s0.2.1 - x200.1)))) then
           (rc (w64 (x200.1 + 1)) s0.2.1 (w64 (s0.2.2.1 - 1)) e x200.2).bind fun x203 =>
           some (.inl (s0.1, x200.1, (w64 (s0.2.2.1 - 1)), true, true, x203))
          else
           (rc (w64 (x200.1 + 1)) s0.2.1 (w64 (s0.2.2.1 - 1)) e x200.2).bind fun x204 =>
           some (.inl (s0.1, x200.1, (w64 (s0.2.2.1 - 1)), false, true, x204))
        | (.inr x200) =>
         bif (decide ((w64 (x200.1 - s0.1)) < (w64 (s0.2.1 - x200.1)))) then
          bif (decide ((w64 (Int.tdiv (w64 (s0.2.1 - s0.1)) 8)) ≤ (w64 (x200.1 - s0.1)))) then
           (rc s0.1 x200.1 (w64 (s0.2.2.1 - 1)) e x200.2).bind fun x205 =>
           some (.inl ((w64 (x200.1 + 1)), s0.2.1, (w64 (s0.2.2.1 - 1)), true, false, x205))
          else
           (rc s0.1 x200.1 (w64 (s0.2.2.1 - 1)) e x200.2).bind fun x206 =>
           some (.inl ((w64 (x200.1 + 1)), s0.2.1, (w64 (s0.2.2.1 - 1)), false, false, x206))
         else
          bif (decide ((w64 (Int.tdiv (w64 (s0.2.1 - s0.1)) 8)) ≤ (w64 (s0.2.1 - x200.1)))) then
           (rc (w64 (x200.1 + 1)) s0.2.1 (w64 (s0.2.2.1 - 1)) e x200.2).bind fun x207 =>
           some (.inl (s0.1, x200.1, (w64 (s0.2.2.1 - 1)), true, false, x207))
          else
           (rc (w64 (x200.1 + 1)) s0.2.1 (w64 (s0.2.2.1 - 1)) e x200.2).bind fun x208 =>
           some (.inl (s0.1, x200.1, (w64 (s0.2.2.1 - 1)), false, false, x208))
       else
        (Zy s0.1 s0.2.1 x173.1 e x172).bind fun x209 =>
        some (.inl (x209.1, s0.2.1, (w64 (s0.2.2.1 - 1)), false, false, x209.2))
      else
       (Zp s0.1 s0.2.1 x173.1 e x172).bind fun x210 =>
       match x210 with
       | (.inl x210) =>
        bif (decide ((w64 (x210.1 - s0.1)) < (w64 (s0.2.1 - x210.1)))) then
         bif (decide ((w64 (Int.tdiv (w64 (s0.2.1 - s0.1)) 8)) ≤ (w64 (x210.1 - s0.1)))) then
          (rc s0.1 x210.1 (w64 (s0.2.2.1 - 1)) e x210.2).bind fun x211 =>
          some (.inl ((w64 (x210.1 + 1)), s0.2.1, (w64 (s0.2.2.1 - 1)), true, true, x211))
         else
          (rc s0.1 x210.1 (w64 (s0.2.2.1 - 1)) e x210.2).bind fun x212 =>
          some (.inl ((w64 (x210.1 + 1)), s0.2.1, (w64 (s0.2.2.1 - 1)), false, true, x212))
        else
         bif (decide ((w64 (Int.tdiv (w64 (s0.2.1 - s0.1)) 8)) ≤ (w64 (s0.2.1 - x210.1)))) then
          (rc (w64 (x210.1 + 1)) s0.2.1 (w64 (s0.2.2.1 - 1)) e x210.2).bind fun x213 =>
          some (.inl (s0.1, x210.1, (w64 (s0.2.2.1 - 1)), true, true, x213))
         else
          (rc (w64 (x210.1 + 1)) s0.2.1 (w64 (s0.2.2.1 - 1)) e x210.2).bind fun x214 =>
          some (.inl (s0.1, x210.1, (w64 (s0.2.2.1 - 1)), false, true, x214))
       | (.inr x210) =>
        bif (decide ((w64 (x210.1 - s0.1)) < (w64 (s0.2.1 - x210.1)))) then
         bif (decide ((w64 (Int.tdiv (w64 (s0.2.1 - s0.1)) 8)) ≤ (w64 (x210.1 - s0.1)))) then
          (rc s0.1 x210.1 (w64 (s0.2.2.1 - 1)) e x210.2).bind fun x215 =>
          some (.inl ((w64 (x210.1 + 1)), s0.2.1, (w64 (s0.2.2.1 - 1)), true, false, x215))
         else
          (rc s0.1 x210.1 (w64 (s0.2.2.1 - 1)) e x210.2).bind fun x216 =>
          some (.inl ((w64 (x210.1 + 1)), s0.2.1, (w64 (s0.2.2.1 - 1)), false, false, x216))
        else
         bif (decide ((w64 (Int.tdiv (w64 (s0.2.1 - s0.1)) 8)) ≤ (w64 (s0.2.1 - x210.1)))) then
          (rc (w64 (x210.1 + 1)) s0.2.1 (w64 (s0.2.2.1 - 1)) e x210.2).bind fun x217 =>
          some (.inl (s0.1, x210.1, (w64 (s0.2.2.1 - 1)), true, false, x217))
         else
          (rc (w64 (x210.1 + 1)) s0.2.1 (w64 (s0.2.2.1 - 1)) e x210.2).bind fun x218 =>
          some (.inl (s0.1, x210.1, (w64 (s0.2.2.1 - 1)), false, false, x218))
noncomputable def Zam (rc : Int → Int → Int → (Int → Int → Option Int) → (List Int) → Option (List Int)) (b : Int) (c : Int) (d : Int) (e : (Int → Int → Option Int)) (m0_0 : (List Int)) : Option (List Int) :=
 (lp (ZN e rc) (b, c, d, true, true, m0_0)).bind fun r219 =>
 some r219
noncomputable def ZU : Nat → Int → Int → Int → (Int → Int → Option Int) → (List Int) → Option (List Int)
 | 0 => fun _ _ _ _ _ => none
 | n + 1 => Zam (ZU n)
noncomputable def Zdc (b : Int) (c : Int) (d : Int) (e : (Int → Int → Option Int)) (m0_0 : (List Int)) : Option (List Int) := ZvD fun n => ZU n b c d e m0_0
noncomputable def ZaF (b : (Int → Int → Option Int)) (m0_0 : (List Int)) : Option (List Int) :=
 (ZdM (IntKind.u64.wrap (m0_0.length : Int))).bind fun x0 =>
 (Zdc 0 (m0_0.length : Int) x0 b m0_0).bind fun x1 =>
 some x1
noncomputable def ZcS (a : Zh) (b : Int) (s1 : Int × (List Int)) : Option ((Int × (List Int)) ⊕ (List Int)) :=
 bif (decide (s1.1 < (a.futures.length : Int))) then
  (ZA a.futures s1.1).bind fun x2 =>
  bif (x2.user == b) then
   bif (Nat.ble (List.length s1.2 + 1) lim) then
    some (.inl ((w64 (s1.1 + 1)), (s1.2 ++ [s1.1])))
   else
    none
  else
   some (.inl ((w64 (s1.1 + 1)), s1.2))
 else
  some (.inr s1.2)
noncomputable def ZeP (a : Zh) (b : Int) : Option (List Int) :=
 (Zen a).bind fun x0 =>
 bif (x0 != 0) then
  some ([] : List Int)
 else
  (lp (ZcS a b) (0, ([] : (List Int)))).bind fun r3 =>
  (ZaF (fun z0 z1 => Zq z0 z1 a.futures) r3).bind fun x4 =>
  some x4
noncomputable def Zfu (a : Zh) (b : Int) (s1 : Int × (List Int)) : Option ((Int × (List Int)) ⊕ (List Int)) :=
 bif (decide (s1.1 < (a.edges.length : Int))) then
  (ZA a.edges s1.1).bind fun x2 =>
  bif (x2.dst == b) then
   bif (Nat.ble (List.length s1.2 + 1) lim) then
    some (.inl ((w64 (s1.1 + 1)), (s1.2 ++ [x2.src])))
   else
    none
  else
   some (.inl ((w64 (s1.1 + 1)), s1.2))
 else
  some (.inr s1.2)
noncomputable def Zfs (a : Zh) (x4 : (List Int)) (s5 : Int × (List Int)) : Option ((Int × (List Int)) ⊕ (List Int)) :=
 bif (decide (s5.1 < (x4.length : Int))) then
  (ZA x4 s5.1).bind fun x6 =>
  (ZA a.futures x6).bind fun x7 =>
  bif (Nat.ble (List.length s5.2 + 1) lim) then
   some (.inl ((w64 (s5.1 + 1)), (s5.2 ++ [x7.maker])))
  else
   none
 else
  some (.inr s5.2)
noncomputable def Ze2 (a : Zh) (b : Int) : Option (List Int) :=
 (Zen a).bind fun x0 =>
 bif (x0 != 0) then
  some ([] : List Int)
 else
  (lp (Zfu a b) (0, ([] : (List Int)))).bind fun r3 =>
  (ZeP a b).bind fun x4 =>
  (lp (Zfs a x4) (0, r3)).bind fun r8 =>
  some r8
noncomputable def ZcE (a : Int) : Option Int :=
 some (IntKind.u32.wrap a)
noncomputable def ZhG : Option Unit :=
 some ()
noncomputable def Zfh (a : Int) (b : Int) : Option Int :=
 some (IntKind.u32.wrap (a + b))
noncomputable def Zff (a : Int) (b : Int) : Option Int :=
 some (IntKind.u32.wrap (a * b))
noncomputable def Zfq (a : Int) (b : Int) : Option Int :=
 some (bif decide (a < b) then b else a)
noncomputable def Zfe (a : Int) (b : Int) : Option Int :=
 some (IntKind.u32.wrap ((IntKind.u32.wrap (a * 31)) + b))
noncomputable def Zem (b : (List Int)) (s0 : Int × (List (Int × Int))) : Option ((Int × (List (Int × Int))) ⊕ (List (Int × Int))) :=
 bif (decide (s0.1 < (b.length : Int))) then
  (ZA b s0.1).bind fun x1 =>
  some (.inl ((w64 (s0.1 + 1)), (ZmU (fun ka kb : Int => (ka == kb)) s0.2 s0.1 x1)))
 else
  some (.inr s0.2)
noncomputable def Zer (c : (List Int)) (s6 : Int × Int) : Option ((Int × Int) ⊕ Int) :=
 bif (decide (s6.2 < (c.length : Int))) then
  (ZA c s6.2).bind fun x7 =>
  (ZcE x7).bind fun x8 =>
  (Zfh s6.1 x8).bind fun x9 =>
  some (.inl (x9, (w64 (s6.2 + 1))))
 else
  some (.inr s6.1)
noncomputable def ZdA (c : (List Int)) (s11 : Int × Int) : Option ((Int × Int) ⊕ Int) :=
 bif (decide (s11.2 < (c.length : Int))) then
  (ZA c s11.2).bind fun x12 =>
  (ZcE x12).bind fun x13 =>
  (Zff s11.1 x13).bind fun x14 =>
  some (.inl (x14, (w64 (s11.2 + 1))))
 else
  some (.inr s11.1)
noncomputable def Zdq (c : (List Int)) (s16 : Int × Int) : Option ((Int × Int) ⊕ Int) :=
 bif (decide (s16.2 < (c.length : Int))) then
  (ZA c s16.2).bind fun x17 =>
  (ZcE x17).bind fun x18 =>
  (Zfq s16.1 x18).bind fun x19 =>
  some (.inl (x19, (w64 (s16.2 + 1))))
 else
  some (.inr s16.1)
noncomputable def Zdw (c : (List Int)) (s21 : Int × Int) : Option ((Int × Int) ⊕ Int) :=
 bif (decide (s21.2 < (c.length : Int))) then
  (ZA c s21.2).bind fun x22 =>
  (ZcE x22).bind fun x23 =>
  (Zfe s21.1 x23).bind fun x24 =>
  some (.inl (x24, (w64 (s21.2 + 1))))
 else
  some (.inr s21.1)
noncomputable def Zix (a : ZG) (b : (List Int)) (c : (List Int)) : Option Int :=
 bif (a.op == 0) then
  (lp (Zem b) (0, ([] : (List (Int × Int))))).bind fun r2 =>
  (ZcE (Zf9 (fun ka kb : Int => (ka == kb)) r2 a.arg 0)).bind fun x3 =>
  some (w64 x3)
 else
  bif (a.op == 1) then
   (ZcE a.arg).bind fun x4 =>
   some (w64 x4)
  else
   bif (decide (a.op < 0)) then
    some 0
   else
    bif (decide (5 < a.op)) then
     some 0
    else
     ZhG.bind fun x5 =>
     bif (decide (0 ≤ (w64 (a.op - 2))) && decide ((w64 (a.op - 2)) < 4)) then
      bif ((w64 (a.op - 2)) == 0) then
       (lp (Zer c) (0, 0)).bind fun r10 =>
       some (w64 r10)
      else
      bif ((w64 (a.op - 2)) == 1) then
       (lp (ZdA c) (1, 0)).bind fun r15 =>
       some (w64 r15)
      else
      bif ((w64 (a.op - 2)) == 2) then
       (lp (Zdq c) (0, 0)).bind fun r20 =>
       some (w64 r20)
      else
      bif ((w64 (a.op - 2)) == 3) then
       (lp (Zdw c) (7, 0)).bind fun r25 =>
       some (w64 r25)
      else
       none
     else
      none
noncomputable def Ze1 (c : Zn) (x4 : (List Int)) (s5 : Int × (List Int)) : Option ((Int × (List Int)) ⊕ (List Int)) :=
 bif (decide (s5.1 < (x4.length : Int))) then
  (ZA x4 s5.1).bind fun x6 =>
  (ZA c.vals x6).bind fun x7 =>
  bif (Nat.ble (List.length s5.2 + 1) lim) then
   some (.inl ((w64 (s5.1 + 1)), (s5.2 ++ [x7])))
  else
   none
 else
  some (.inr s5.2)
noncomputable def ZeD (a : Zh) (b : (List Int)) (c : Zn) (d : Int) : Option Zn :=
 (Zbh c.work).bind fun x0 =>
 (Zbh c.vals).bind fun x1 =>
 (ZA c.work d).bind fun x2 =>
 (ZbB a (Zn.mk (List.set c.work d.toNat (w64 (x2 + 1))) c.vals) d).bind fun x3 =>
 bif x3 then
  (Ze2 a d).bind fun x4 =>
  (lp (Ze1 c x4) (0, ([] : (List Int)))).bind fun r8 =>
  (ZA a.parts d).bind fun x9 =>
  (Zix x9 b r8).bind fun x10 =>
  (ZA c.vals d).bind fun x11 =>
  some (Zn.mk (List.set c.work d.toNat (w64 (x2 + 1))) (List.set c.vals d.toNat x10))
 else
  some (Zn.mk (List.set c.work d.toNat (w64 (x2 + 1))) c.vals)
noncomputable def Zck (a : Int) (s0 : Int × Int) : Option ((Int × Int) ⊕ (Int ⊕ Unit)) :=
 bif (decide (s0.2 < 40)) then
  bif (s0.1 == a) then
   some (.inr (.inl s0.2))
  else
   some (.inl ((w64 (2 * s0.1)), (w64 (s0.2 + 1))))
 else
  some (.inr (.inr ()))
noncomputable def ZgH (a : Int) : Option (Int × Bool) :=
 (lp (Zck a) (1, 0)).bind fun r1 =>
 match r1 with
 | (.inl r1) =>
  some (r1, true)
 | (.inr r1) =>
  some (0, false)
noncomputable def ZfX (a : Zh) : Option Bool :=
 (ZgH a.period).bind fun x0 =>
 bif x0.2 then
  bif (decide (a.period ≤ 4096)) then
   bif (decide (1 ≤ a.deadline)) then
    bif (decide (a.deadline ≤ a.period)) then
     some true
    else
     some false
   else
    some false
  else
   some false
 else
  some false
noncomputable def Zdo (a : Zh) (s0 : Int) : Option (Int ⊕ (Unit ⊕ Unit)) :=
 bif (decide (s0 < (a.parts.length : Int))) then
  (ZA a.parts s0).bind fun x1 =>
  bif (decide (x1.op < 0)) then
   some (.inr (.inl ()))
  else
   bif (decide (5 < x1.op)) then
    some (.inr (.inl ()))
   else
    bif (decide (x1.arg < 0)) then
     some (.inr (.inl ()))
    else
     bif (decide (2147483647 < x1.arg)) then
      some (.inr (.inl ()))
     else
      bif (decide (x1.work < 1)) then
       some (.inr (.inl ()))
      else
       bif (decide (100 < x1.work)) then
        some (.inr (.inl ()))
       else
        some (.inl (w64 (s0 + 1)))
 else
  some (.inr (.inr ()))
noncomputable def Zfm (a : Zh) : Option Bool :=
 (lp (Zdo a) 0).bind fun r2 =>
 match r2 with
 | (.inl r2) =>
  some false
 | (.inr r2) =>
  some true
noncomputable def Zdb (a : Zh) (b : Int) : Option Bool :=
 bif (decide (0 ≤ b)) then
  bif (decide (b < (a.parts.length : Int))) then
   some true
  else
   some false
 else
  some false
noncomputable def Zdi (a : Zh) (s0 : Int) (x1 : ZM) (s4 : Int) : Option (Int ⊕ (Unit ⊕ Unit)) :=
 bif (decide (s4 < s0)) then
  (ZA a.edges s4).bind fun x5 =>
  bif (x5.src == x1.src) then
   bif (x5.dst == x1.dst) then
    some (.inr (.inl ()))
   else
    some (.inl (w64 (s4 + 1)))
  else
   some (.inl (w64 (s4 + 1)))
 else
  some (.inr (.inr ()))
noncomputable def Zdp (a : Zh) (s0 : Int) : Option (Int ⊕ (Unit ⊕ Unit)) :=
 bif (decide (s0 < (a.edges.length : Int))) then
  (ZA a.edges s0).bind fun x1 =>
  (Zdb a x1.src).bind fun x2 =>
  bif x2 then
   (Zdb a x1.dst).bind fun x3 =>
   bif x3 then
    bif (x1.src == x1.dst) then
     some (.inr (.inl ()))
    else
     (lp (Zdi a s0 x1) 0).bind fun r6 =>
     match r6 with
     | (.inl r6) =>
      some (.inr (.inl ()))
     | (.inr r6) =>
      some (.inl (w64 (s0 + 1)))
   else
    some (.inr (.inl ()))
  else
   some (.inr (.inl ()))
 else
  some (.inr (.inr ()))
noncomputable def Zfl (a : Zh) : Option Bool :=
 (lp (Zdp a) 0).bind fun r7 =>
 match r7 with
 | (.inl r7) =>
  some false
 | (.inr r7) =>
  some true
noncomputable def Zcz (a : Zh) (s0 : Int) (x1 : Zs) (s5 : Int) : Option (Int ⊕ (Unit ⊕ Unit)) :=
 bif (decide (s5 < s0)) then
  (ZA a.futures s5).bind fun x6 =>
  bif (x6.user == x1.user) then
   bif (x6.pos == x1.pos) then
    some (.inr (.inl ()))
   else
    some (.inl (w64 (s5 + 1)))
  else
   some (.inl (w64 (s5 + 1)))
 else
  some (.inr (.inr ()))
noncomputable def ZcC (a : Zh) (s0 : Int) : Option (Int ⊕ (Unit ⊕ Unit)) :=
 bif (decide (s0 < (a.futures.length : Int))) then
  (ZA a.futures s0).bind fun x1 =>
  (Zdb a x1.maker).bind fun x2 =>
  bif x2 then
   (Zdb a x1.user).bind fun x3 =>
   bif x3 then
    bif (x1.maker == x1.user) then
     some (.inr (.inl ()))
    else
     bif (decide (x1.pos < 1)) then
      some (.inr (.inl ()))
     else
      (ZA a.parts x1.user).bind fun x4 =>
      bif (decide (x4.work ≤ x1.pos)) then
       some (.inr (.inl ()))
      else
       (lp (Zcz a s0 x1) 0).bind fun r7 =>
       match r7 with
       | (.inl r7) =>
        some (.inr (.inl ()))
       | (.inr r7) =>
        some (.inl (w64 (s0 + 1)))
   else
    some (.inr (.inl ()))
  else
   some (.inr (.inl ()))
 else
  some (.inr (.inr ()))
noncomputable def Zex (a : Zh) : Option Bool :=
 (lp (ZcC a) 0).bind fun r8 =>
 match r8 with
 | (.inl r8) =>
  some false
 | (.inr r8) =>
  some true
noncomputable def Zec (a : Zh) (b : (List Int)) (s0 : Int) : Option (Int ⊕ (Unit ⊕ Unit)) :=
 bif (decide (s0 < (b.length : Int))) then
  (ZA b s0).bind fun x1 =>
  (Zdb a x1).bind fun x2 =>
  bif x2 then
   bif (decide (0 < s0)) then
    (ZA b (w64 (s0 - 1))).bind fun x3 =>
    bif (decide (x1 ≤ x3)) then
     some (.inr (.inl ()))
    else
     some (.inl (w64 (s0 + 1)))
   else
    some (.inl (w64 (s0 + 1)))
  else
   some (.inr (.inl ()))
 else
  some (.inr (.inr ()))
noncomputable def ZfG (a : Zh) (b : (List Int)) : Option Bool :=
 (lp (Zec a b) 0).bind fun r4 =>
 match r4 with
 | (.inl r4) =>
  some false
 | (.inr r4) =>
  bif (decide (0 < (b.length : Int))) then
   some true
  else
   some false
noncomputable def Zef (a : (List Int)) (b : Int) (s0 : Int) : Option (Int ⊕ (Unit ⊕ Unit)) :=
 bif (decide (s0 < (a.length : Int))) then
  (ZA a s0).bind fun x1 =>
  bif (x1 == b) then
   some (.inr (.inl ()))
  else
   some (.inl (w64 (s0 + 1)))
 else
  some (.inr (.inr ()))
noncomputable def ZfC (a : (List Int)) (b : Int) : Option Bool :=
 (lp (Zef a b) 0).bind fun r2 =>
 match r2 with
 | (.inl r2) =>
  some true
 | (.inr r2) =>
  some false
noncomputable def Zcn (x1 : Zo) (s4 : Int) : Option (Int ⊕ (Unit ⊕ Unit)) :=
 bif (decide (s4 < (x1.ins.length : Int))) then
  (ZA x1.ins s4).bind fun x5 =>
  (ZfC x1.outs x5).bind fun x6 =>
  bif x6 then
   some (.inr (.inl ()))
  else
   some (.inl (w64 (s4 + 1)))
 else
  some (.inr (.inr ()))
noncomputable def Zcm (a : Zh) (s0 : Int) : Option (Int ⊕ (Unit ⊕ Unit)) :=
 bif (decide (s0 < (a.barriers.length : Int))) then
  (ZA a.barriers s0).bind fun x1 =>
  (ZfG a x1.ins).bind fun x2 =>
  bif x2 then
   (ZfG a x1.outs).bind fun x3 =>
   bif x3 then
    (lp (Zcn x1) 0).bind fun r7 =>
    match r7 with
    | (.inl r7) =>
     some (.inr (.inl ()))
    | (.inr r7) =>
     some (.inl (w64 (s0 + 1)))
   else
    some (.inr (.inl ()))
  else
   some (.inr (.inl ()))
 else
  some (.inr (.inr ()))
noncomputable def Zeh (a : Zh) : Option Bool :=
 (lp (Zcm a) 0).bind fun r8 =>
 match r8 with
 | (.inl r8) =>
  some false
 | (.inr r8) =>
  some true
noncomputable def ZeB (a : Zh) : Option Int :=
 bif (decide ((a.parts.length : Int) < 1)) then
  some 50
 else
  bif (decide (16 < (a.parts.length : Int))) then
   some 50
  else
   bif (decide (48 < (a.edges.length : Int))) then
    some 50
   else
    bif (decide (16 < (a.futures.length : Int))) then
     some 50
    else
     bif (decide (4 < (a.barriers.length : Int))) then
      some 50
     else
      (ZfX a).bind fun x0 =>
      bif x0 then
       (Zfm a).bind fun x1 =>
       bif x1 then
        (Zfl a).bind fun x2 =>
        bif x2 then
         (Zex a).bind fun x3 =>
         bif x3 then
          (Zeh a).bind fun x4 =>
          bif x4 then
           some 0
          else
           some 55
         else
          some 54
        else
         some 53
       else
        some 52
      else
       some 51
noncomputable def ZcG (a : Zh) (b : Zn) (c : Int) : Option Bool :=
 (ZA b.work c).bind fun x0 =>
 (ZA a.parts c).bind fun x1 =>
 bif (decide (x1.work ≤ x0)) then
  some true
 else
  some false
noncomputable def ZeK (a : Zh) (c : Int) (s0 : Int × (List Int)) : Option ((Int × (List Int)) ⊕ (List Int)) :=
 bif (decide (s0.1 < (a.edges.length : Int))) then
  (ZA a.edges s0.1).bind fun x1 =>
  bif (x1.dst == c) then
   bif (Nat.ble (List.length s0.2 + 1) lim) then
    some (.inl ((w64 (s0.1 + 1)), (s0.2 ++ [x1.src])))
   else
    none
  else
   some (.inl ((w64 (s0.1 + 1)), s0.2))
 else
  some (.inr s0.2)
noncomputable def ZbR (a : Zh) (c : Int) (s3 : Int × (List Int)) : Option ((Int × (List Int)) ⊕ (List Int)) :=
 bif (decide (s3.1 < (a.barriers.length : Int))) then
  (ZA a.barriers s3.1).bind fun x4 =>
  (ZfC x4.outs c).bind fun x5 =>
  bif x5 then
   bif (Nat.ble (List.length s3.2 + List.length x4.ins) lim) then
    some (.inl ((w64 (s3.1 + 1)), (s3.2 ++ x4.ins)))
   else
    none
  else
   some (.inl ((w64 (s3.1 + 1)), s3.2))
 else
  some (.inr s3.2)
noncomputable def ZcQ (a : Zh) (b : Zn) (r6 : (List Int)) (s7 : Int) : Option (Int ⊕ (Unit ⊕ Unit)) :=
 bif (decide (s7 < (r6.length : Int))) then
  (ZA r6 s7).bind fun x8 =>
  (ZcG a b x8).bind fun x9 =>
  bif x9 then
   some (.inl (w64 (s7 + 1)))
  else
   some (.inr (.inl ()))
 else
  some (.inr (.inr ()))
noncomputable def ZeS (a : Zh) (b : Zn) (c : Int) : Option Bool :=
 (lp (ZeK a c) (0, ([] : (List Int)))).bind fun r2 =>
 (lp (ZbR a c) (0, r2)).bind fun r6 =>
 (lp (ZcQ a b r6) 0).bind fun r10 =>
 match r10 with
 | (.inl r10) =>
  some false
 | (.inr r10) =>
  some true
noncomputable def ZdJ (a : Zh) (b : Zn) (c : Int) (s0 : Int) : Option (Int ⊕ (Unit ⊕ Unit)) :=
 bif (decide (s0 < (a.futures.length : Int))) then
  (ZA a.futures s0).bind fun x1 =>
  bif (x1.user == c) then
   (ZA b.work c).bind fun x2 =>
   bif (x1.pos == x2) then
    (ZcG a b x1.maker).bind fun x3 =>
    bif x3 then
     some (.inl (w64 (s0 + 1)))
    else
     some (.inr (.inl ()))
   else
    some (.inl (w64 (s0 + 1)))
  else
   some (.inl (w64 (s0 + 1)))
 else
  some (.inr (.inr ()))
noncomputable def ZfT (a : Zh) (b : Zn) (c : Int) : Option Bool :=
 (lp (ZdJ a b c) 0).bind fun r4 =>
 match r4 with
 | (.inl r4) =>
  some false
 | (.inr r4) =>
  (ZcG a b c).bind fun x5 =>
  bif x5 then
   some false
  else
   (ZA b.work c).bind fun x6 =>
   bif (decide (0 < x6)) then
    some true
   else
    (ZeS a b c).bind fun x7 =>
    bif x7 then
     some true
    else
     some false
noncomputable def Zb3 (a : Zh) (b : Int) (s0 : Int × (List Int)) (s1 : Int × (List Int)) : Option ((Int × (List Int)) ⊕ (List Int)) :=
 bif (decide (s1.1 < (a.futures.length : Int))) then
  (ZA a.futures s1.1).bind fun x2 =>
  bif (x2.user == b) then
   bif (x2.pos == s0.1) then
    bif (Nat.ble (List.length s1.2 + 1) lim) then
     some (.inl ((w64 (s1.1 + 1)), (s1.2 ++ [s1.1])))
    else
     none
   else
    some (.inl ((w64 (s1.1 + 1)), s1.2))
  else
   some (.inl ((w64 (s1.1 + 1)), s1.2))
 else
  some (.inr s1.2)
noncomputable def Zds (a : Zh) (b : Int) (s0 : Int × (List Int)) : Option ((Int × (List Int)) ⊕ (List Int)) :=
 bif (decide (s0.1 < 100)) then
  (lp (Zb3 a b s0) (0, s0.2)).bind fun r3 =>
  some (.inl ((w64 (s0.1 + 1)), r3))
 else
  some (.inr s0.2)
noncomputable def ZeA (a : Zh) (b : Int) : Option (List Int) :=
 (lp (Zds a b) (1, ([] : (List Int)))).bind fun r4 =>
 some r4
noncomputable def Ze7 (a : Zh) (b : Int) (s0 : Int × (List Int)) : Option ((Int × (List Int)) ⊕ (List Int)) :=
 bif (decide (s0.1 < (a.edges.length : Int))) then
  (ZA a.edges s0.1).bind fun x1 =>
  bif (x1.dst == b) then
   bif (Nat.ble (List.length s0.2 + 1) lim) then
    some (.inl ((w64 (s0.1 + 1)), (s0.2 ++ [x1.src])))
   else
    none
  else
   some (.inl ((w64 (s0.1 + 1)), s0.2))
 else
  some (.inr s0.2)
noncomputable def Ze4 (a : Zh) (x3 : (List Int)) (s4 : Int × (List Int)) : Option ((Int × (List Int)) ⊕ (List Int)) :=
 bif (decide (s4.1 < (x3.length : Int))) then
  (ZA x3 s4.1).bind fun x5 =>
  (ZA a.futures x5).bind fun x6 =>
  bif (Nat.ble (List.length s4.2 + 1) lim) then
   some (.inl ((w64 (s4.1 + 1)), (s4.2 ++ [x6.maker])))
  else
   none
 else
  some (.inr s4.2)
noncomputable def ZeC (a : Zh) (b : Int) : Option (List Int) :=
 (lp (Ze7 a b) (0, ([] : (List Int)))).bind fun r2 =>
 (ZeA a b).bind fun x3 =>
 (lp (Ze4 a x3) (0, r2)).bind fun r7 =>
 some r7
noncomputable def Zab (a : Int) : Option Int :=
 bif (decide ((Int.tmod a 4294967296) < 0)) then
  some (w64 ((Int.tmod a 4294967296) + 4294967296))
 else
  some (Int.tmod a 4294967296)
noncomputable def Zde (a : Int) (b : Int) : Option Int :=
 (Zab (w64 ((w64 (Int.tdiv a 65536)) * b))).bind fun x0 =>
 (Zab (w64 ((w64 ((Int.tmod x0 65536) * 65536)) + (w64 ((Int.tmod a 65536) * b))))).bind fun x1 =>
 some x1
noncomputable def Zh4 (a : ZG) (c : (List Int)) (s3 : Int × Int) : Option ((Int × Int) ⊕ Int) :=
 bif (decide (s3.2 < (c.length : Int))) then
  (ZA c s3.2).bind fun x4 =>
  (Zab x4).bind fun x5 =>
  bif (a.op == 2) then
   (Zab (w64 (s3.1 + x5))).bind fun x6 =>
   some (.inl (x6, (w64 (s3.2 + 1))))
  else
   bif (a.op == 3) then
    (Zde s3.1 x5).bind fun x7 =>
    some (.inl (x7, (w64 (s3.2 + 1))))
   else
    bif (a.op == 4) then
     some (.inl ((bif decide (s3.1 < x5) then x5 else s3.1), (w64 (s3.2 + 1))))
    else
     bif (a.op == 5) then
      (Zab (w64 ((w64 (s3.1 * 31)) + x5))).bind fun x8 =>
      some (.inl (x8, (w64 (s3.2 + 1))))
     else
      some (.inl (s3.1, (w64 (s3.2 + 1))))
 else
  some (.inr s3.1)
noncomputable def ZcZ (a : ZG) (c : (List Int)) (s10 : Int × Int) : Option ((Int × Int) ⊕ Int) :=
 bif (decide (s10.2 < (c.length : Int))) then
  (ZA c s10.2).bind fun x11 =>
  (Zab x11).bind fun x12 =>
  bif (a.op == 2) then
   (Zab (w64 (s10.1 + x12))).bind fun x13 =>
   some (.inl (x13, (w64 (s10.2 + 1))))
  else
   bif (a.op == 3) then
    (Zde s10.1 x12).bind fun x14 =>
    some (.inl (x14, (w64 (s10.2 + 1))))
   else
    bif (a.op == 4) then
     some (.inl ((bif decide (s10.1 < x12) then x12 else s10.1), (w64 (s10.2 + 1))))
    else
     bif (a.op == 5) then
      (Zab (w64 ((w64 (s10.1 * 31)) + x12))).bind fun x15 =>
      some (.inl (x15, (w64 (s10.2 + 1))))
     else
      some (.inl (s10.1, (w64 (s10.2 + 1))))
 else
  some (.inr s10.1)
noncomputable def Zc0 (a : ZG) (c : (List Int)) (s17 : Int × Int) : Option ((Int × Int) ⊕ Int) :=
 bif (decide (s17.2 < (c.length : Int))) then
  (ZA c s17.2).bind fun x18 =>
  (Zab x18).bind fun x19 =>
  bif (a.op == 2) then
   (Zab (w64 (s17.1 + x19))).bind fun x20 =>
   some (.inl (x20, (w64 (s17.2 + 1))))
  else
   bif (a.op == 3) then
    (Zde s17.1 x19).bind fun x21 =>
    some (.inl (x21, (w64 (s17.2 + 1))))
   else
    bif (a.op == 4) then
     some (.inl ((bif decide (s17.1 < x19) then x19 else s17.1), (w64 (s17.2 + 1))))
    else
     bif (a.op == 5) then
      (Zab (w64 ((w64 (s17.1 * 31)) + x19))).bind fun x22 =>
      some (.inl (x22, (w64 (s17.2 + 1))))
     else
      some (.inl (s17.1, (w64 (s17.2 + 1))))
 else
  some (.inr s17.1)
noncomputable def Zbc (a : ZG) (c : (List Int)) (s24 : Int × Int) : Option ((Int × Int) ⊕ Int) :=
 bif (decide (s24.2 < (c.length : Int))) then
  (ZA c s24.2).bind fun x25 =>
  (Zab x25).bind fun x26 =>
  bif (a.op == 2) then
   (Zab (w64 (s24.1 + x26))).bind fun x27 =>
   some (.inl (x27, (w64 (s24.2 + 1))))
  else
   bif (a.op == 3) then
    (Zde s24.1 x26).bind fun x28 =>
    some (.inl (x28, (w64 (s24.2 + 1))))
   else
    bif (a.op == 4) then
     some (.inl ((bif decide (s24.1 < x26) then x26 else s24.1), (w64 (s24.2 + 1))))
    else
     bif (a.op == 5) then
      (Zab (w64 ((w64 (s24.1 * 31)) + x26))).bind fun x29 =>
      some (.inl (x29, (w64 (s24.2 + 1))))
     else
      some (.inl (s24.1, (w64 (s24.2 + 1))))
 else
  some (.inr s24.1)
noncomputable def Zhg (a : ZG) (b : (List Int)) (c : (List Int)) : Option Int :=
 bif (a.op == 0) then
  bif (decide (a.arg < 0)) then
   some 0
  else
   bif (decide ((b.length : Int) ≤ a.arg)) then
    some 0
   else
    (ZA b a.arg).bind fun x0 =>
    (Zab x0).bind fun x1 =>
    some x1
 else
  bif (a.op == 1) then
   (Zab a.arg).bind fun x2 =>
   some x2
  else
   bif (decide (a.op < 0)) then
    some 0
   else
    bif (decide (5 < a.op)) then
     some 0
    else
     bif (a.op == 3) then
      bif (a.op == 5) then
       (lp (Zh4 a c) (7, 0)).bind fun r9 =>
       some r9
      else
       (lp (ZcZ a c) (1, 0)).bind fun r16 =>
       some r16
     else
      bif (a.op == 5) then
       (lp (Zc0 a c) (7, 0)).bind fun r23 =>
       some r23
      else
       (lp (Zbc a c) (0, 0)).bind fun r30 =>
       some r30
noncomputable def Zft (c : Zn) (x2 : (List Int)) (s3 : Int × (List Int)) : Option ((Int × (List Int)) ⊕ (List Int)) :=
 bif (decide (s3.1 < (x2.length : Int))) then
  (ZA x2 s3.1).bind fun x4 =>
  (ZA c.vals x4).bind fun x5 =>
  bif (Nat.ble (List.length s3.2 + 1) lim) then
   some (.inl ((w64 (s3.1 + 1)), (s3.2 ++ [x5])))
  else
   none
 else
  some (.inr s3.2)
noncomputable def Ze8 (a : Zh) (b : (List Int)) (c : Zn) (d : Int) : Option Zn :=
 bif (Nat.ble (List.length c.work) lim) then
  bif (Nat.ble (List.length c.vals) lim) then
   (ZA c.work d).bind fun x0 =>
   (ZcG a (Zn.mk (List.set c.work d.toNat (w64 (x0 + 1))) c.vals) d).bind fun x1 =>
   bif x1 then
    (ZeC a d).bind fun x2 =>
    (lp (Zft c x2) (0, ([] : (List Int)))).bind fun r6 =>
    (ZA a.parts d).bind fun x7 =>
    (Zhg x7 b r6).bind fun x8 =>
    (ZA c.vals d).bind fun x9 =>
    some (Zn.mk (List.set c.work d.toNat (w64 (x0 + 1))) (List.set c.vals d.toNat x8))
   else
    some (Zn.mk (List.set c.work d.toNat (w64 (x0 + 1))) c.vals)
  else
   none
 else
  none
noncomputable def Zeg (a : Zh) (b : Zn) (s0 : Int × (List Int)) : Option ((Int × (List Int)) ⊕ (List Int)) :=
 bif (decide (s0.1 < (a.parts.length : Int))) then
  (ZfT a b s0.1).bind fun x1 =>
  bif x1 then
   bif (Nat.ble (List.length s0.2 + 1) lim) then
    some (.inl ((w64 (s0.1 + 1)), (s0.2 ++ [s0.1])))
   else
    none
  else
   some (.inl ((w64 (s0.1 + 1)), s0.2))
 else
  some (.inr s0.2)
noncomputable def ZeO (a : Zh) (b : Zn) : Option (List Int) :=
 (lp (Zeg a b) (0, ([] : (List Int)))).bind fun r2 =>
 some r2
noncomputable def ZdK (a : (List Int)) (b : (List Int)) (s0 : Int) : Option (Int ⊕ (Unit ⊕ Unit)) :=
 bif (decide (s0 < (a.length : Int))) then
  (ZA a s0).bind fun x1 =>
  (ZA b s0).bind fun x2 =>
  bif (x1 != x2) then
   some (.inr (.inl ()))
  else
   some (.inl (w64 (s0 + 1)))
 else
  some (.inr (.inr ()))
noncomputable def Zep (a : (List Int)) (b : (List Int)) : Option Bool :=
 bif ((a.length : Int) != (b.length : Int)) then
  some false
 else
  (lp (ZdK a b) 0).bind fun r3 =>
  match r3 with
  | (.inl r3) =>
   some false
  | (.inr r3) =>
   some true
noncomputable def Ze9 (a : Zn) (b : Zn) : Option Bool :=
 (Zep a.work b.work).bind fun x0 =>
 bif x0 then
  (Zep a.vals b.vals).bind fun x1 =>
  bif x1 then
   some true
  else
   some false
 else
  some false
noncomputable def Ze0 (a : Zh) : Option (Zn × Int) :=
 (Zen a).bind fun x0 =>
 bif (x0 != 0) then
  some ((Zn.mk ([] : List Int) ([] : List Int)), x0)
 else
  bif (decide (0 ≤ (a.parts.length : Int)) && decide ((a.parts.length : Int) ≤ lim) && decide ((a.parts.length : Int) == (a.parts.length : Int))) then
   bif (decide (0 ≤ (a.parts.length : Int)) && decide ((a.parts.length : Int) ≤ lim) && decide ((a.parts.length : Int) == (a.parts.length : Int))) then
    some ((Zn.mk (List.replicate (a.parts.length : Int).toNat (0 : Int)) (List.replicate (a.parts.length : Int).toNat (0 : Int))), 0)
   else
    none
  else
   none
noncomputable def Zev (a : Zh) (b : (List Int)) (s2 : (List Int) × (List Int) × (List Int)) : Option (((List Int) × (List Int) × (List Int)) ⊕ ((List Int) × (List Int))) :=
 bif (decide (0 < (s2.1.length : Int))) then
  (ZA s2.1 0).bind fun x3 =>
  (ZeD a b (Zn.mk s2.2.1 s2.2.2) x3).bind fun x4 =>
  (Ze5 a x4).bind fun x5 =>
  some (.inl (x5, x4.work, x4.vals))
 else
  some (.inr (s2.2.1, s2.2.2))
noncomputable def ZcV (a : Zh) (r6 : ((List Int) × (List Int))) (s7 : Int) : Option (Int ⊕ (Unit ⊕ Unit)) :=
 bif (decide (s7 < (a.parts.length : Int))) then
  (ZbB a (Zn.mk r6.1 r6.2) s7).bind fun x8 =>
  bif x8 then
   some (.inl (w64 (s7 + 1)))
  else
   some (.inr (.inl ()))
 else
  some (.inr (.inr ()))
noncomputable def Zes (a : Zh) (b : (List Int)) : Option ((List Int) × Int) :=
 (Ze0 a).bind fun x0 =>
 bif (x0.2 != 0) then
  some (([] : List Int), x0.2)
 else
  (Ze5 a x0.1).bind fun x1 =>
  (lp (Zev a b) (x1, x0.1.work, x0.1.vals)).bind fun r6 =>
  (lp (ZcV a r6) 0).bind fun r9 =>
  match r9 with
  | (.inl r9) =>
   some (([] : List Int), 94)
  | (.inr r9) =>
   some (r6.2, 0)
noncomputable def ZfE (a : Zh) : Option Zn :=
 bif (decide (0 ≤ (a.parts.length : Int)) && decide ((a.parts.length : Int) ≤ lim) && decide ((a.parts.length : Int) == (a.parts.length : Int))) then
  bif (decide (0 ≤ (a.parts.length : Int)) && decide ((a.parts.length : Int) ≤ lim) && decide ((a.parts.length : Int) == (a.parts.length : Int))) then
   some (Zn.mk (List.replicate (a.parts.length : Int).toNat (0 : Int)) (List.replicate (a.parts.length : Int).toNat (0 : Int)))
  else
   none
 else
  none
noncomputable def Zdx (a : Zh) (b : (List Int)) (s2 : (List Int) × (List Int)) : Option (((List Int) × (List Int)) ⊕ ((List Int) × (List Int))) :=
 (ZeO a (Zn.mk s2.1 s2.2)).bind fun x3 =>
 bif ((x3.length : Int) == 0) then
  some (.inr (s2.1, s2.2))
 else
  (ZA x3 (w64 ((x3.length : Int) - 1))).bind fun x4 =>
  (Ze8 a b (Zn.mk s2.1 s2.2) x4).bind fun x5 =>
  some (.inl (x5.work, x5.vals))
noncomputable def Zdv (a : Zh) (r6 : ((List Int) × (List Int))) (s7 : Int) : Option (Int ⊕ (Unit ⊕ Unit)) :=
 bif (decide (s7 < (a.parts.length : Int))) then
  (ZcG a (Zn.mk r6.1 r6.2) s7).bind fun x8 =>
  bif x8 then
   some (.inl (w64 (s7 + 1)))
  else
   some (.inr (.inl ()))
 else
  some (.inr (.inr ()))
noncomputable def ZeU (a : Zh) (b : (List Int)) : Option ((List Int) × Int) :=
 (ZeB a).bind fun x0 =>
 bif (x0 != 0) then
  some (([] : List Int), x0)
 else
  (ZfE a).bind fun x1 =>
  (lp (Zdx a b) (x1.work, x1.vals)).bind fun r6 =>
  (lp (Zdv a r6) 0).bind fun r9 =>
  match r9 with
  | (.inl r9) =>
   some (([] : List Int), 94)
  | (.inr r9) =>
   some (r6.2, 0)
noncomputable def Zel (a : Zh) (b : (List Int)) : Option Bool :=
 Zfj.bind fun x0 =>
 bif x0 then
  (Zgk a b (Zn.mk ([] : List Int) ([] : List Int))).bind fun x1 =>
  bif x1 then
   (ZfD a).bind fun x2 =>
   bif (Nat.ble (List.length b) lim) then
    (Zes (Zh.mk a.period a.deadline a.parts a.edges a.futures x2) b).bind fun x3 =>
    (ZeU a b).bind fun x4 =>
    (ZfD a).bind fun x5 =>
    (Ze0 (Zh.mk a.period a.deadline a.parts a.edges a.futures x5)).bind fun x6 =>
    (ZeB a).bind fun x7 =>
    bif (x7 != 0) then
     bif ((x3.1.length : Int) == 0) then
      bif (x3.2 == x7) then
       bif (x6.2 == x7) then
        (Ze9 x6.1 (Zn.mk ([] : List Int) ([] : List Int))).bind fun x8 =>
        bif x8 then
         some true
        else
         some false
       else
        some false
      else
       some false
     else
      some false
    else
     (Zep x3.1 x4.1).bind fun x9 =>
     bif x9 then
      bif (x3.2 == x4.2) then
       bif (x6.2 == 0) then
        (ZfE a).bind fun x10 =>
        (Ze9 x6.1 x10).bind fun x11 =>
        bif x11 then
         some true
        else
         some false
       else
        some false
      else
       some false
     else
      some false
   else
    none
  else
   Zfj.bind fun x12 =>
   bif x12 then
    some true
   else
    some false
 else
  Zfj.bind fun x13 =>
  bif x13 then
   some true
  else
   some false
end Go.Proofs.YtnmbdjkbaihicaaDoor
namespace Go.Proofs.YtnmbdjkbaihicaaDoorE
open Go
set_option linter.unusedVariables false
set_option linter.unusedSimpArgs false
theorem ZdC {i n : Nat} (h : i < n) : decide ((i : Int) < (n : Int)) = true := decide_eq_true (by omega)
theorem ZdB (n : Nat) : decide ((n : Int) < (n : Int)) = false := decide_eq_false (by omega)
theorem Z6 {γ : Type} {l : List γ} {i : Nat} {x : γ} (h : l[i]? = some x) : ZA l (i : Int) = some x := (Zu5 l i).trans h
theorem ZqV {γ : Type} {l : List γ} {i : Int} {x : γ} (h0 : 0 ≤ i) (h : l[i.toNat]? = some x) : ZA l i = some x := by
 have := Z6 h
 rwa [Int.toNat_of_nonneg h0] at this
theorem Zcd {n : Int} (h1 : -9223372036854775808 ≤ n) (h2 : n < 9223372036854775808) : w64 n = n := Zzu h1 h2
theorem ZK {i n : Nat} (h : i < n) (hn : n < 9223372036854775808) : w64 ((i : Int) + 1) = ((i + 1 : Nat) : Int) := by rw [Zcd (by omega) (by omega)]; omega
theorem ZiM {n : Nat} (h : n ≤ 1073741824) : Nat.ble n lim = true := Nat.ble_eq_true_of_le h
def ZmK {γ S R : Type} (f : Nat → γ → S → Option (S ⊕ R)) (fin : S → Option R) : Nat → List γ → S → Option R
 | _, [], s => fin s
 | i, x :: l, s => (match f i x s with | some (.inl s') => ZmK f fin (i + 1) l s' | some (.inr r) => some r | none => none)
theorem ZqR {γ S St R : Type} (l : List γ) (step : St → Option (St ⊕ R)) (st : Nat → S → St) (f : Nat → γ → S → Option (S ⊕ R)) (fin : S → Option R)
  (h1 : ∀ i x s, i < l.length → l[i]? = some x → step (st i s) = (match f i x s with | some (.inl s') => some (.inl (st (i + 1) s')) | some (.inr r) => some (.inr r) | none => none))
  (h2 : ∀ s, step (st l.length s) = (fin s).map Sum.inr) : ∀ s, lp step (st 0 s) = ZmK f fin 0 l s := by
 have key : ∀ (k i : Nat) (s : S), i + k = l.length → lp step (st i s) = ZmK f fin i (l.drop i) s := by
  intro k
  induction k with
  | zero =>
   intro i s hi
   have : i = l.length := by omega
   subst this
   rw [List.drop_length, Zba, h2]
   unfold ZmK
   cases fin s <;> rfl
  | succ k ih =>
   intro i s hi
   have hi' : i < l.length := by omega
   rw [List.drop_eq_getElem_cons hi', Zba, h1 i l[i] s hi' (List.getElem?_eq_getElem hi')]
   conv => rhs; unfold ZmK
   cases f i l[i] s with
   | none => rfl
   | some t =>
    cases t with
    | inl s' => exact ih (i + 1) s' (by omega)
    | inr r => rfl
 intro s
 have := key l.length 0 s (by omega)
 rwa [List.drop_zero] at this
def Zo4 {γ R : Type} (p : Nat → γ → Bool) (out : Nat → γ → R) (fin : R) : Nat → List γ → R
 | _, [] => fin
 | i, x :: l => bif p i x then out i x else Zo4 p out fin (i + 1) l
theorem Zco {γ R : Type} (l : List γ) (step : Int → Option (Int ⊕ R)) (p : Nat → γ → Bool) (out : Nat → γ → R) (fin : R)
  (h1 : ∀ i x, i < l.length → l[i]? = some x → step (i : Int) = some (bif p i x then .inr (out i x) else .inl ((i + 1 : Nat) : Int)))
  (h2 : step (l.length : Int) = some (.inr fin)) : lp step 0 = some (Zo4 p out fin 0 l) := by
 have key := ZqR (S := Unit) l step (fun i _ => (i : Int)) (fun i x _ => some (bif p i x then .inr (out i x) else .inl ())) (fun _ => some fin)
  (fun i x s hi hx => by rw [h1 i x hi hx]; cases p i x <;> rfl) (fun _ => h2) ()
 refine (key : lp step 0 = _).trans ?_
 have : ∀ (l : List γ) (i : Nat), ZmK (S := Unit) (fun i x _ => some (bif p i x then Sum.inr (out i x) else Sum.inl ())) (fun _ => some fin) i l () = some (Zo4 p out fin i l) := by
  intro l
  induction l with
  | nil => intro i; rfl
  | cons x l ih =>
   intro i
   unfold ZmK Zo4
   cases p i x with
   | true => rfl
   | false => exact ih (i + 1)
 exact this l 0
def Zfo {γ : Type} (p : Nat → γ → Bool) : Nat → List γ → Bool
 | _, [] => false
 | i, x :: l => p i x || Zfo p (i + 1) l
theorem Zd7 {γ : Type} (p : γ → Bool) : ∀ (l : List γ) (i : Nat), Zfo (fun _ => p) i l = l.any p
 | [], _ => rfl
 | x :: l, i => by rw [Zfo, List.any_cons, Zd7 p l]
theorem ZaU {γ R : Type} (p : Nat → γ → Bool) (c fin : R) : ∀ (l : List γ) (i : Nat), Zo4 p (fun _ _ => c) fin i l = bif Zfo p i l then c else fin
 | [], _ => rfl
 | x :: l, i => by
  unfold Zo4 Zfo
  rw [ZaU p c fin l (i + 1)]
  cases p i x <;> rfl
theorem ZoM {γ R : Type} (p : γ → Bool) (fin : R) : ∀ (l : List γ) (i : Nat), (∃ j : Nat, Zo4 (fun _ => p) (fun i _ => (Sum.inl (i : Int) : Int ⊕ R)) (.inr fin) i l = .inl (j : Int) ∧ l.any p = true) ∨ (Zo4 (fun _ => p) (fun i _ => (Sum.inl (i : Int) : Int ⊕ R)) (.inr fin) i l = .inr fin ∧ l.any p = false)
 | [], _ => .inr ⟨rfl, rfl⟩
 | x :: l, i => by
  unfold Zo4
  rw [List.any_cons]
  cases h : p x with
  | true => exact .inl ⟨i, rfl, rfl⟩
  | false => simpa using ZoM p fin l (i + 1)
theorem ZiI {γ : Type} (p : Nat → γ → Bool) : ∀ (l : List γ) (i : Nat), Zfo p i l = true ↔ ∃ j x, l[j]? = some x ∧ p (i + j) x = true
 | [], i => by simp [Zfo]
 | x :: l, i => by
  rw [Zfo, Bool.or_eq_true, ZiI p l (i + 1)]
  constructor
  ·rintro (h | ⟨j, y, hj, hp⟩)
   ·exact ⟨0, x, rfl, h⟩
   ·exact ⟨j + 1, y, by simpa using hj, by rw [show i + (j + 1) = i + 1 + j by omega]; exact hp⟩
  ·rintro ⟨j, y, hj, hp⟩
   cases j with
   | zero => left; simp at hj; subst hj; exact hp
   | succ j => right; exact ⟨j, y, by simpa using hj, by rw [show i + 1 + j = i + (j + 1) by omega]; exact hp⟩
theorem ZxO {γ : Type} [DecidableEq γ] (a b : List γ) (he : a.length = b.length) (step : Int → Option (Int ⊕ (Unit ⊕ Unit)))
  (h1 : ∀ i x y, i < a.length → a[i]? = some x → b[i]? = some y → step (i : Int) = some (bif decide (x = y) then .inl ((i + 1 : Nat) : Int) else .inr (.inl ())))
  (h2 : step (a.length : Int) = some (.inr (.inr ()))) : lp step 0 = some (bif decide (a = b) then .inr () else .inl ()) := by
 have key : ∀ (k i : Nat), i + k = a.length → lp step (i : Int) = some (bif decide (a.drop i = b.drop i) then .inr () else .inl ()) := by
  intro k
  induction k with
  | zero =>
   intro i hi
   have : i = a.length := by omega
   subst this
   rw [Zba, h2, List.drop_length, he, List.drop_length]
   rfl
  | succ k ih =>
   intro i hi
   have ha : i < a.length := by omega
   have hb : i < b.length := by omega
   rw [Zba, h1 i a[i] b[i] ha (List.getElem?_eq_getElem ha) (List.getElem?_eq_getElem hb), List.drop_eq_getElem_cons ha, List.drop_eq_getElem_cons hb]
   by_cases h : a[i] = b[i]
   ·rw [decide_eq_true h]
    simp only [cond_true]
    rw [ih (i + 1) (by omega)]
    by_cases h3 : a.drop (i + 1) = b.drop (i + 1)
    ·rw [decide_eq_true h3, decide_eq_true (by rw [h, h3])]
    ·rw [decide_eq_false h3, decide_eq_false (by intro h4; exact h3 (List.cons.inj h4).2)]
   ·rw [decide_eq_false h, decide_eq_false (by intro h4; exact h (List.cons.inj h4).1)]
    rfl
 have := key a.length 0 (by omega)
 rwa [List.drop_zero, List.drop_zero] at this
end Go.Proofs.YtnmbdjkbaihicaaDoorE
namespace Go.Proofs.YtnmbdjkbaihicaaDoor
open Go Go.Proofs.YtnmbdjkbaihicaaDoorE
set_option linter.unusedVariables false
set_option linter.unusedSimpArgs false
def ZbU (n a b : Int) : Bool := decide (a ≤ n) && decide (n ≤ b)
theorem ZjR (n a b : Int) : Zbi n a b = some (ZbU n a b) := by
 unfold Zbi ZbU
 cases decide (a ≤ n) <;> cases decide (n ≤ b) <;> rfl
theorem ZjX (x : Int) (n : Nat) : ZbU x 0 ((n : Int) - 1) = (decide (0 ≤ x) && decide (x < (n : Int))) := by
 unfold ZbU
 congr 1
 exact decide_eq_decide.2 (by omega)
def ZdQ (p : ZG) : Bool := !(ZbU p.op 0 5 && (ZbU p.arg 0 2147483647 && ZbU p.work 1 100))
theorem ZzP (p : ZG) : Zek p = some (ZdQ p) := by
 unfold Zek ZdQ
 simp only [ZjR, Option.bind_some]
 cases ZbU p.op 0 5 <;> cases ZbU p.arg 0 2147483647 <;> cases ZbU p.work 1 100 <;> rfl
theorem Zj7 {γ : Type} (l : List γ) (p : γ → Bool) (step : Int → Option (Int ⊕ (Int ⊕ Unit)))
  (h1 : ∀ i x, i < l.length → l[i]? = some x → step (i : Int) = some (bif p x then .inr (.inl (i : Int)) else .inl ((i + 1 : Nat) : Int)))
  (h2 : step (l.length : Int) = some (.inr (.inr ()))) :
  (((lp step 0).bind fun (r : Int ⊕ Unit) => match r with | .inl r => some r | .inr _ => some (-1)).bind fun x => bif decide (0 ≤ x) then some true else some false) = some (l.any p) := by
 rw [Zco l step (fun _ => p) (fun i _ => .inl (i : Int)) (.inr ()) h1 h2]
 rcases ZoM p () l 0 with ⟨j, e1, e2⟩ | ⟨e1, e2⟩
 ·rw [e1, e2]
  show (bif decide ((0 : Int) ≤ (j : Int)) then some true else some false) = some true
  rw [decide_eq_true (by omega)]
  rfl
 ·rw [e1, e2]
  rfl
theorem Zo5 (l : List ZG) (f : ZG → Option Bool) (p : ZG → Bool) (hf : ∀ x ∈ l, f x = some (p x)) (hl : l.length < 9223372036854775808) : ZaJ l f = some (l.any p) := by
 unfold ZaJ ZbH
 refine Zj7 l p _ (fun i x hi hx => ?_) ?_
 ·simp only [ZaK, ZdC hi, Z6 hx, Option.bind_some, hf x (List.mem_of_getElem? hx), ZK hi hl, cond_true]
  cases p x <;> rfl
 ·simp only [ZaK, ZdB]; rfl
def Znz (e x : ZM) : Bool := e.src == x.src && (e.dst == x.dst && true)
theorem Zux (l : List ZM) (e : ZM) (hl : l.length < 9223372036854775808) : Za4 l e = some (l.any (Znz e)) := by
 unfold Za4 Zci
 refine Zj7 l (Znz e) _ (fun i x hi hx => ?_) ?_
 ·simp only [Za5, ZdC hi, Z6 hx, Option.bind_some, ZK hi hl, cond_true, Znz]
  cases (e.src == x.src && (e.dst == x.dst && true)) <;> rfl
 ·simp only [Za5, ZdB]; rfl
def again (f g : Zs) : Bool := g.user == f.user && g.pos == f.pos
theorem ZmH (l : List Zs) (f : Zs → Option Bool) (p : Zs → Bool) (hf : ∀ x ∈ l, f x = some (p x)) (hl : l.length < 9223372036854775808) : Zas l f = some (l.any p) := by
 unfold Zas Za7
 refine Zj7 l p _ (fun i x hi hx => ?_) ?_
 ·simp only [Zat, ZdC hi, Z6 hx, Option.bind_some, hf x (List.mem_of_getElem? hx), ZK hi hl, cond_true]
  cases p x <;> rfl
 ·simp only [Zat, ZdB]; rfl
theorem ZxJ (f g : Zs) : ZcK g f.user f.pos = some (again f g) := by
 unfold ZcK again
 cases (g.user == f.user) <;> cases (g.pos == f.pos) <;> rfl
theorem Zrw (l : List Int) (n : Int) (hl : l.length < 9223372036854775808) : ZaV l n = some (l.any (fun x => n == x)) := by
 unfold ZaV ZcF
 refine Zj7 l (fun x => n == x) _ (fun i x hi hx => ?_) ?_
 ·simp only [Zbp, ZdC hi, Z6 hx, Option.bind_some, ZK hi hl, cond_true]
  cases (n == x) <;> rfl
 ·simp only [Zbp, ZdB]; rfl
def Zk8 (b : Zo) (n : Int) : Bool := b.outs.any fun x => n == x
theorem Zpt (l : List Int) (f : Int → Option Bool) (p : Int → Bool) (hf : ∀ x ∈ l, f x = some (p x)) (hl : l.length < 9223372036854775808) : ZaX l f = some (l.any p) := by
 unfold ZaX ZbZ
 refine Zj7 l p _ (fun i x hi hx => ?_) ?_
 ·simp only [ZaW, ZdC hi, Z6 hx, Option.bind_some, hf x (List.mem_of_getElem? hx), ZK hi hl, cond_true]
  cases p x <;> rfl
 ·simp only [ZaW, ZdB]; rfl
theorem ZzQ (b : Zo) (h2 : b.outs.length < 9223372036854775808) (n : Int) : ZcI n b.outs = some (Zk8 b n) := by
 unfold ZcI
 simp only [Zrw _ _ h2, Option.bind_some]
 unfold Zk8
 cases (b.outs.any fun y => n == y) <;> rfl
def two (n : Nat) (a b : Int) : Bool := (a != b) && (ZbU a 0 (n - 1) && ZbU b 0 (n - 1))
theorem Zyo (d : Zh) (hl : d.parts.length < 9223372036854775808) (a b : Int) : Zf5 d a b = some (two d.parts.length a b) := by
 unfold Zf5 two
 rw [Zcd (by omega) (by omega)]
 simp only [ZjR, Option.bind_some]
 cases (a != b) <;> cases ZbU a 0 (d.parts.length - 1) <;> cases ZbU b 0 (d.parts.length - 1) <;> rfl
def Znx (n : Nat) (l : List Int) (i : Nat) (x : Int) : Bool := !(ZbU x 0 (n - 1)) || (match i with | 0 => false | j + 1 => match l[j]? with | some y => decide (x ≤ y) | none => false)
def ZhM (n : Nat) (l : List Int) : Bool := !(Zfo (Znx n l) 0 l) && !l.isEmpty
theorem Ztu (b : Bool) (l : List Int) : ((some (bif b then (Sum.inl () : Unit ⊕ Unit) else .inr ())).bind fun r => match r with | .inl _ => some false | .inr _ => bif decide (0 < (l.length : Int)) then some true else some false) = some (!b && !l.isEmpty) := by
 cases b with
 | true => rfl
 | false =>
  cases l with
  | nil => rfl
  | cons x l => show (bif decide (0 < ((x :: l).length : Int)) then some true else some false) = some true; rw [decide_eq_true (by rw [List.length_cons]; omega)]; rfl
theorem Zx8 (d : Zh) (hd : d.parts.length < 9223372036854775808) (l : List Int) (hl : l.length < 9223372036854775808) : Zf6 d l = some (ZhM d.parts.length l) := by
 have key := Zco l (ZeG d l) (Znx d.parts.length l) (fun _ _ => .inl ()) (.inr ()) (fun i x hi hx => by
   simp only [ZeG, ZdC hi, Z6 hx, Option.bind_some, ZK hi hl, cond_true, ZjR, Znx]
   rw [Zcd (by omega) (by omega)]
   cases ZbU x 0 (d.parts.length - 1) with
   | false => rfl
   | true =>
    cases i with
    | zero => rfl
    | succ i =>
     rw [decide_eq_true (show (0 : Int) < ((i + 1 : Nat) : Int) by omega), Zcd (by omega) (by omega), show (((i + 1 : Nat) : Int) - 1) = (i : Int) by omega]
     have hi2 : l[i]? = some l[i] := List.getElem?_eq_getElem (by omega)
     rw [Z6 hi2]
     simp only [cond_true, Option.bind_some, Bool.not_true, Bool.false_or, hi2]
     cases decide (x ≤ l[i]) <;> rfl) (by simp only [ZeG, ZdB]; rfl)
 unfold Zf6 ZhM
 rw [key, ZaU]
 exact Ztu _ _
end Go.Proofs.YtnmbdjkbaihicaaDoor
namespace Go.Proofs.YtnmbdjkbaihicaaDoor
open Go Go.Proofs.YtnmbdjkbaihicaaDoorE
set_option linter.unusedVariables false
set_option linter.unusedSimpArgs false
def ZjY (n : Int) : Int := bif decide (n < 0) then 10 else bif decide (1099511627775 < n) then 11 else 0
theorem Zr5 (n : Int) : Zgo n = some (ZjY n) := by
 unfold Zgo ZjY
 cases decide (n < 0) <;> cases decide (1099511627775 < n) <;> rfl
noncomputable def Zua (x : Int) : Int := match Zb9 x with | some n => n | none => 0
theorem ZyX (x : Int) : Zcr x = some (Zua x) := by
 unfold Zcr Zua Zb9
 rfl
def Zvm (n : Nat) : Bool := [1, 2, 4, 8, 16, 32, 64, 128, 256, 512, 1024, 2048, 4096].contains n
theorem ZsA : ((List.range 4097).all fun n => (Zua (IntKind.u64.wrap (n : Int)) == 1) == Zvm n) = true := by kernel_rfl
theorem Zsg (n : Nat) (h : n ≤ 4096) : (Zua (IntKind.u64.wrap (n : Int)) == 1) = Zvm n := by
 have := List.all_eq_true.1 ZsA n (by simp; omega)
 simpa using this
noncomputable def Zpx (n : Int) : Bool := !(ZjY n != 0) && !(Zua (IntKind.u64.wrap n) != 1)
theorem ZuU (n : Int) : ∃ k, Zit n = some (k, Zpx n) := by
 have tz : ∃ k, Zcp (IntKind.u64.wrap n) = some k := ⟨_, rfl⟩
 obtain ⟨k, hk⟩ := tz
 unfold Zit Zpx
 simp only [Zr5, ZyX, Option.bind_some, hk]
 cases (ZjY n != 0)
 ·cases (Zua (IntKind.u64.wrap n) != 1)
  ·exact ⟨k, rfl⟩
  ·exact ⟨0, rfl⟩
 ·exact ⟨0, rfl⟩
theorem ZwM {n : Int} (h : n < 0) : Zpx n = false := by
 have : (ZjY n != 0) = true := by unfold ZjY; rw [decide_eq_true h]; rfl
 simp only [Zpx, this]; rfl
theorem Zst (n : Nat) (h : n ≤ 4096) : Zpx (n : Int) = Zvm n := by
 have h1 : (ZjY (n : Int) != 0) = false := by
  unfold ZjY
  rw [decide_eq_false (show ¬ ((n : Int) < 0) by omega), decide_eq_false (show ¬ ((1099511627775 : Int) < n) by omega)]
  rfl
 rw [← Zsg n h]
 unfold Zpx
 rw [h1]
 unfold bne
 rw [Bool.not_not]
 rfl
end Go.Proofs.YtnmbdjkbaihicaaDoor
namespace Go.Proofs.YtnmbdjkbaihicaaDoor
open Go Go.Proofs.YtnmbdjkbaihicaaDoorE
set_option linter.unusedVariables false
set_option linter.unusedSimpArgs false
def Zp4 (b : Zo) : Prop := b.ins.length < 9223372036854775808 ∧ b.outs.length < 9223372036854775808
structure Zd8 (d : Zh) : Prop where
 p : d.parts.length < 9223372036854775808
 e : d.edges.length < 9223372036854775808
 f : d.futures.length < 9223372036854775808
 b : d.barriers.length < 9223372036854775808
 i : ∀ b ∈ d.barriers, Zp4 b
theorem ZoD {γ : Type} {l : List γ} {i n : Nat} (h : l.length < n) : (l.take i).length < n := by rw [List.length_take]; omega
def Zd5 (d : Zh) (i : Nat) (e : ZM) : Bool := !(two d.parts.length e.src e.dst) || (d.edges.take i).any (Znz e)
theorem Zx4 (d : Zh) (h : Zd8 d) : lp (Zc2 d) 0 = some (bif Zfo (Zd5 d) 0 d.edges then .inl () else .inr ()) := by
 have key := Zco d.edges (Zc2 d) (Zd5 d) (fun _ _ => .inl ()) (.inr ()) (fun i x hi hx => by
   simp only [Zc2, ZdC hi, Z6 hx, Option.bind_some, ZK hi h.e, cond_true, Zyo d h.p, Zd5, Int.toNat_natCast, Zux _ _ (ZoD h.e)]
   rw [decide_eq_true (show (0 : Int) ≤ (i : Int) by omega), Nat.ble_eq_true_of_le (Nat.le_of_lt hi)]
   cases two d.parts.length x.src x.dst <;> cases (d.edges.take i).any (Znz x) <;> rfl) (by simp only [Zc2, ZdB]; rfl)
 rw [key, ZaU]
def Zda (ps : List ZG) (z : Int) : Int := match ps[z.toNat]? with | some p => p.work | none => 0
def Zb6 (d : Zh) (i : Nat) (f : Zs) : Bool := !(two d.parts.length f.maker f.user) || (!(ZbU f.pos 1 (Zda d.parts f.user - 1)) || (d.futures.take i).any (again f))
theorem ZlG {n : Nat} {a b : Int} (h : two n a b = true) : (0 ≤ a ∧ a.toNat < n) ∧ (0 ≤ b ∧ b.toNat < n) ∧ a ≠ b := by
 simp only [two, ZbU, Bool.and_eq_true, decide_eq_true_eq, bne_iff_ne] at h
 omega
theorem ZkA {γ : Type} {l : List γ} {z : Int} (h0 : 0 ≤ z) (h : z.toNat < l.length) : ZA l z = some l[z.toNat] := ZqV h0 (List.getElem?_eq_getElem h)
theorem Zur (d : Zh) (h : Zd8 d) (hg : ∀ p ∈ d.parts, 1 ≤ p.work ∧ p.work ≤ 100) : lp (ZcW d) 0 = some (bif Zfo (Zb6 d) 0 d.futures then .inl () else .inr ()) := by
 have key := Zco d.futures (ZcW d) (Zb6 d) (fun _ _ => .inl ()) (.inr ()) (fun i x hi hx => by
   simp only [ZcW, ZdC hi, Z6 hx, Option.bind_some, ZK hi h.f, cond_true, Zyo d h.p, Zb6]
   cases h1 : two d.parts.length x.maker x.user with
   | false => rfl
   | true =>
    obtain ⟨_, ⟨u1, u2⟩, _⟩ := ZlG h1
    have w := hg _ (List.getElem_mem u2)
    have wa : Zda d.parts x.user = d.parts[x.user.toNat].work := by simp only [Zda, List.getElem?_eq_getElem u2]
    rw [← wa] at w
    rw [ZkA u1 u2]
    simp only [cond_true, Option.bind_some, ZjR, ← wa, Zcd (show -9223372036854775808 ≤ Zda d.parts x.user - 1 by omega) (by omega), Int.toNat_natCast]
    rw [decide_eq_true (show (0 : Int) ≤ (i : Int) by omega), Nat.ble_eq_true_of_le (Nat.le_of_lt hi), ZmH _ _ (again x) (fun y _ => ZxJ x y) (ZoD h.f)]
    cases ZbU x.pos 1 (Zda d.parts x.user - 1) <;> cases (d.futures.take i).any (again x) <;> rfl) (by simp only [ZcW, ZdB]; rfl)
 rw [key, ZaU]
def ZcD (n : Nat) (b : Zo) : Bool := !(ZhM n b.ins) || (!(ZhM n b.outs) || b.ins.any (Zk8 b))
theorem Zsx (d : Zh) (h : Zd8 d) : lp (Zc3 d) 0 = some (bif d.barriers.any (ZcD d.parts.length) then .inl () else .inr ()) := by
 have key := Zco d.barriers (Zc3 d) (fun _ => ZcD d.parts.length) (fun _ _ => .inl ()) (.inr ()) (fun i x hi hx => by
   have hb := h.i x (List.mem_of_getElem? hx)
   simp only [Zc3, ZdC hi, Z6 hx, Option.bind_some, ZK hi h.b, cond_true, Zx8 d h.p _ hb.1, Zx8 d h.p _ hb.2, ZcD, Zpt x.ins _ (Zk8 x) (fun y _ => ZzQ x hb.2 y) hb.1]
   cases ZhM d.parts.length x.ins <;> cases ZhM d.parts.length x.outs <;> cases x.ins.any (Zk8 x) <;> rfl) (by simp only [Zc3, ZdB]; rfl)
 rw [key, ZaU, Zd7]
noncomputable def Zkr (d : Zh) : Bool := Zpx d.period && (!decide (4096 < d.period) && ZbU d.deadline 1 d.period)
def Zku (d : Zh) : Bool := ZbU (d.parts.length : Int) 1 16 && (!decide ((48 : Int) < d.edges.length) && (!decide ((16 : Int) < d.futures.length) && !decide ((4 : Int) < d.barriers.length)))
noncomputable def Zb4 (d : Zh) : Int :=
 bif Zku d then bif Zkr d then bif d.parts.any ZdQ then 52 else bif Zfo (Zd5 d) 0 d.edges then 53 else
 bif Zfo (Zb6 d) 0 d.futures then 54 else bif d.barriers.any (ZcD d.parts.length) then 55 else 0 else 51 else 50
theorem Zo3 {ps : List ZG} (h : ps.any ZdQ = false) : ∀ p ∈ ps, 1 ≤ p.work ∧ p.work ≤ 100 := fun p hp => by
 have := List.any_eq_false.1 h p hp
 simp only [ZdQ, ZbU, Bool.not_eq_true, Bool.not_eq_false', Bool.and_eq_true, decide_eq_true_eq] at this
 exact this.2.2
theorem ZqN (d : Zh) (h : Zd8 d) : Zen d = some (Zb4 d) := by
 obtain ⟨k, hk⟩ := ZuU d.period
 unfold Zen Zb4 Zku Zkr
 simp only [ZjR, Option.bind_some, hk, Zo5 _ _ ZdQ (fun x _ => ZzP x) h.p, Zx4 d h, Zsx d h]
 cases ZbU (d.parts.length : Int) 1 16 with
 | false => rfl
 | true =>
  cases decide ((48 : Int) < d.edges.length) with
  | true => rfl
  | false =>
   cases decide ((16 : Int) < d.futures.length) with
   | true => rfl
   | false =>
    cases decide ((4 : Int) < d.barriers.length) with
    | true => rfl
    | false =>
     cases Zpx d.period with
     | false => rfl
     | true =>
      cases decide (4096 < d.period) with
      | true => rfl
      | false =>
       cases ZbU d.deadline 1 d.period with
       | false => rfl
       | true =>
        cases hp : d.parts.any ZdQ with
        | true => rfl
        | false =>
         rw [Zur d h (Zo3 hp)]
         cases Zfo (Zd5 d) 0 d.edges <;> cases Zfo (Zb6 d) 0 d.futures <;> cases d.barriers.any (ZcD d.parts.length) <;> rfl
end Go.Proofs.YtnmbdjkbaihicaaDoor
namespace Go.Proofs.YtnmbdjkbaihicaaDoor
open Go Go.Proofs.YtnmbdjkbaihicaaDoorE
set_option linter.unusedVariables false
set_option linter.unusedSimpArgs false
def Zn9 (b : Zo) : Bool := decide (20 < (b.ins.length : Int)) || decide (20 < (b.outs.length : Int))
def few (d : Zh) : Bool := !((d.barriers.take 9).any Zn9) && (decide ((d.parts.length : Int) ≤ 20) && (decide ((d.edges.length : Int) ≤ 60) && (decide ((d.futures.length : Int) ≤ 20) && decide ((d.barriers.length : Int) ≤ 8))))
theorem ZBo (d : Zh) : Zgw d = some (few d) := by
 have hl : (d.barriers.take 9).length = min 9 d.barriers.length := List.length_take
 have key := Zco (d.barriers.take 9) (Zeb d) (fun _ => Zn9) (fun _ _ => .inl ()) (.inr ()) (fun i x hi hx => by
   have h9 : i < 9 := by omega
   rw [List.getElem?_take_of_lt h9] at hx
   simp only [Zeb, ZdC (show i < d.barriers.length by omega), Z6 hx, Option.bind_some, ZK h9 (by omega), cond_true, Zn9, decide_eq_true (show (i : Int) < 9 by omega)]
   cases decide (20 < (x.ins.length : Int)) <;> cases decide (20 < (x.outs.length : Int)) <;> rfl) (by
   rw [hl]
   unfold Zeb
   by_cases h : d.barriers.length ≤ 9
   ·rw [Nat.min_eq_right h, ZdB]; rfl
   ·rw [Nat.min_eq_left (by omega), decide_eq_true (show ((9 : Nat) : Int) < d.barriers.length by omega)]; rfl)
 unfold Zgw few
 rw [key, ZaU, Zd7]
 cases (d.barriers.take 9).any Zn9 <;> cases decide ((d.parts.length : Int) ≤ 20) <;> cases decide ((d.edges.length : Int) ≤ 60) <;> cases decide ((d.futures.length : Int) ≤ 20) <;> cases decide ((d.barriers.length : Int) ≤ 8) <;> rfl
structure ZjV (d : Zh) : Prop where
 p : d.parts.length ≤ 20
 e : d.edges.length ≤ 60
 f : d.futures.length ≤ 20
 b : d.barriers.length ≤ 8
 i : ∀ b ∈ d.barriers, b.ins.length ≤ 20 ∧ b.outs.length ≤ 20
theorem Zt0 {d : Zh} (h : few d = true) : ZjV d := by
 unfold few at h
 simp only [Bool.and_eq_true, decide_eq_true_eq, Bool.not_eq_true'] at h
 obtain ⟨h1, h2, h3, h4, h5⟩ := h
 refine ⟨by omega, by omega, by omega, by omega, fun b hb => ?_⟩
 have := List.any_eq_false.1 h1 b (by rw [List.take_of_length_le (by omega)]; exact hb)
 simp only [Zn9, Bool.or_eq_true, decide_eq_true_eq, not_or] at this
 omega
theorem ZjV.short {d : Zh} (h : ZjV d) : Zd8 d :=
 ⟨by have := h.p; omega, by have := h.e; omega, by have := h.f; omega, by have := h.b; omega, fun b hb => ⟨by have := (h.i b hb).1; omega, by have := (h.i b hb).2; omega⟩⟩
theorem ZBa (d : Zh) (h : ZjV d) : ZfD d = some d.barriers := by
 have key := ZqR d.barriers (Zdu d) (fun i (s : List Zo) => ((i : Int), s)) (fun i x s => bif Nat.ble (s.length + 1) lim then some (.inl (s ++ [x])) else none) (fun s => some s) (fun i x s hi hx => by
   have hb := h.i x (List.mem_of_getElem? hx)
   simp only [Zdu, ZdC hi, Z6 hx, Option.bind_some, ZK hi h.short.b, cond_true, ZiM (show x.ins.length ≤ 1073741824 by omega), ZiM (show x.outs.length ≤ 1073741824 by omega)]
   cases Nat.ble (s.length + 1) lim <;> rfl) (fun s => by simp only [Zdu, ZdB]; rfl) []
 have sc : ∀ (l : List Zo) (i : Nat) (s : List Zo), s.length + l.length ≤ 1073741824 → ZmK (fun i x s => bif Nat.ble (s.length + 1) lim then some (Sum.inl (s ++ [x])) else (none : Option (List Zo ⊕ List Zo))) (fun s => some s) i l s = some (s ++ l) := by
  intro l
  induction l with
  | nil => intro i s _; simp [ZmK]
  | cons x l ih =>
   intro i s hs
   rw [List.length_cons] at hs
   unfold ZmK
   rw [ZiM (by omega)]
   simp only [cond_true]
   rw [ih (i + 1) (s ++ [x]) (by rw [List.length_append]; simp; omega)]
   simp
 rw [sc _ _ _ (by have := h.b; simp; omega)] at key
 unfold ZfD
 rw [ZiM (show List.length d.parts ≤ 1073741824 by have := h.p; omega), ZiM (show List.length d.edges ≤ 1073741824 by have := h.e; omega), ZiM (show List.length d.futures ≤ 1073741824 by have := h.f; omega)]
 show (lp (Zdu d) (((0 : Nat) : Int), [])).bind _ = _
 rw [key]
 rfl
end Go.Proofs.YtnmbdjkbaihicaaDoor
namespace Go.Proofs.YtnmbdjkbaihicaaDoor
open Go Go.Proofs.YtnmbdjkbaihicaaDoorE Go.Sort
set_option linter.unusedVariables false
set_option linter.unusedSimpArgs false
structure OKA (P : Int → Prop) (d : Array Int) : Prop where
 el : ∀ i, i < d.size → P d[i]!
 sz : d.size ≤ 1000
theorem Zbq {d : Array Int} {i : Nat} (h : i < d.size) : ZA d.toList (i : Int) = some d[i]! := by
 refine Z6 ?_
 rw [Array.getElem?_toList, Array.getElem?_eq_getElem h, getElem!_pos d i h]
theorem ZzH (d : Array Int) (i : Nat) (x : Int) : List.set d.toList i x = (d.setIfInBounds i x).toList := by simp
theorem Zgu (d : Array Int) (i j : Nat) : List.set (List.set d.toList i d[j]!) j d[i]! = (swp d i j).toList := by
 unfold swp
 rw [ZzH, ZzH]
theorem Zkl {d : Array Int} {i j : Nat} {x : Int} (h : j < d.size) : ∃ y, ZA (List.set d.toList i x) (j : Int) = some y := by
 rw [ZzH]
 exact ⟨_, Zbq (by simpa using h)⟩
theorem Z5 (d : Array Int) (i j : Nat) : (swp d i j).size = d.size := by unfold swp; simp
theorem Zxj {d : Array Int} {i j k : Nat} (hi : i < d.size) (hj : j < d.size) : (swp d i j)[k]! = if k = j then d[i]! else if k = i then d[j]! else d[k]! := by
 unfold swp
 by_cases hk : k < d.size
 ·rw [getElem!_pos _ k (by simpa using hk), getElem!_pos d k hk, Array.getElem_setIfInBounds (by simpa using hk)]
  by_cases h1 : j = k
  ·rw [if_pos h1, if_pos h1.symm]
  ·rw [if_neg h1, if_neg (Ne.symm h1), Array.getElem_setIfInBounds hk]
   by_cases h2 : i = k
   ·rw [if_pos h2, if_pos h2.symm]
   ·rw [if_neg h2, if_neg (Ne.symm h2)]
 ·rw [getElem!_neg _ k (by simpa using hk), getElem!_neg d k hk, if_neg (by omega), if_neg (by omega)]
theorem OKA.swp {P : Int → Prop} {d : Array Int} (h : OKA P d) {i j : Nat} (hi : i < d.size) (hj : j < d.size) : OKA P (swp d i j) :=
 ⟨fun k hk => by
  rw [Z5] at hk
  rw [Zxj hi hj]
  split
  ·exact h.el _ hi
  ·split
   ·exact h.el _ hj
   ·exact h.el _ hk, by rw [Z5]; exact h.sz⟩
theorem ZfP {a b : Nat} : decide ((a : Int) < (b : Int)) = decide (a < b) := decide_eq_decide.2 (by omega)
theorem Zgt {a b : Nat} : decide ((a : Int) ≤ (b : Int)) = decide (a ≤ b) := decide_eq_decide.2 (by omega)
theorem Zap {z : Int} {n : Nat} (h : z = (n : Int)) (hn : n < 9223372036854775808) : w64 z = (n : Int) := by rw [h, Zcd (by omega) (by omega)]
section
variable (cmp : Int → Int → Option Int) (c : Int → Int → Int) (P : Int → Prop)
def Zrd : Prop := ∀ x y, P x → P y → cmp x y = some (c x y)
def ltC (x y : Int) : Bool := decide (c x y < 0)
variable {cmp c P} (hc : Zrd cmp c P)
include hc
theorem Zp1 (a : Nat) : ∀ (j : Nat) (d : Array Int), OKA P d → j < d.size → lp (ZS (a : Int) cmp) ((j : Int), d.toList) = some (insInner (ltC c) a j d).toList ∧ OKA P (insInner (ltC c) a j d) ∧ (insInner (ltC c) a j d).size = d.size
 | 0, d, hd, hj => by
  rw [Zba]
  simp only [ZS, decide_eq_false (show ¬ ((a : Int) < ((0 : Nat) : Int)) by omega), cond_false]
  exact ⟨rfl, hd, rfl⟩
 | j + 1, d, hd, hj => by
  have hj' : j < d.size := by omega
  have hz := hd.sz
  rw [Zba]
  have e2 : w64 (((j + 1 : Nat) : Int) - 1) = (j : Int) := Zap (by omega) (by omega)
  have e3 := hc _ _ (hd.el (j + 1) hj) (hd.el j hj')
  unfold insInner
  by_cases h1 : a < j + 1
  ·by_cases h2 : c d[j + 1]! d[j]! < 0
   ·have ih := Zp1 a j (swp d (j + 1) j) (hd.swp hj hj') (by rw [Z5]; omega)
    obtain ⟨y, e5⟩ := Zkl (i := j + 1) (x := d[j]!) hj'
    simp only [ZS, ZfP, decide_eq_true h1, cond_true, Zbq hj, e2, Zbq hj', Option.bind_some, e3, decide_eq_true h2, Int.toNat_natCast, e5, Zgu]
    rw [if_pos (by simp [h1, h2, ltC])]
    rw [Z5] at ih
    exact ih
   ·simp only [ZS, ZfP, decide_eq_true h1, cond_true, Zbq hj, e2, Zbq hj', Option.bind_some, e3, decide_eq_false h2, cond_false]
    rw [if_neg (by simp [h1, h2, ltC])]
    exact ⟨rfl, hd, rfl⟩
  ·simp only [ZS, ZfP, decide_eq_false h1, cond_false]
   rw [if_neg (by simp [h1])]
   exact ⟨rfl, hd, rfl⟩
theorem Zp8 (a b : Nat) : ∀ (k i : Nat) (d : Array Int), i + k = max i b → b ≤ d.size → OKA P d → lp (Zaf (a : Int) (b : Int) cmp) ((i : Int), d.toList) = some (insOuter (ltC c) a b i d).toList ∧ OKA P (insOuter (ltC c) a b i d) ∧ (insOuter (ltC c) a b i d).size = d.size
 | 0, i, d, hi, hb, hd => by
  rw [Zba]
  unfold insOuter
  simp only [Zaf, ZfP, decide_eq_false (show ¬ i < b by omega), cond_false]
  rw [if_neg (by omega)]
  exact ⟨rfl, hd, rfl⟩
 | k + 1, i, d, hi, hb, hd => by
  have hib : i < b := by omega
  have hz := hd.sz
  obtain ⟨h1, h2, h3⟩ := Zp1 hc a i d hd (by omega)
  have ih := Zp8 a b k (i + 1) (insInner (ltC c) a i d) (by omega) (by rw [h3]; exact hb) h2
  rw [Zba]
  unfold insOuter
  simp only [Zaf, ZfP, decide_eq_true hib, cond_true, h1, Option.bind_some, ZK hib (by omega)]
  rw [if_pos hib, ← h3]
  exact ih
theorem Zyh (a b : Nat) (d : Array Int) (hb : b ≤ d.size) (ha : a ≤ b) (hd : OKA P d) : ZR (a : Int) (b : Int) cmp d.toList = some (insertionSort (ltC c) d a b).toList ∧ OKA P (insertionSort (ltC c) d a b) ∧ (insertionSort (ltC c) d a b).size = d.size := by
 have hz := hd.sz
 obtain ⟨h1, h2⟩ := Zp8 hc a b (max (a + 1) b - (a + 1)) (a + 1) d (by omega) hb hd
 unfold ZR insertionSort
 rw [Zap (n := a + 1) (by omega) (by omega), h1]
 exact ⟨rfl, h2⟩
theorem Zxt (hi first : Nat) : ∀ (k root : Nat) (d : Array Int), hi - root ≤ k → root ≤ hi → first + hi ≤ d.size → OKA P d → ∃ r, lp (ZF (hi : Int) (first : Int) cmp) ((root : Int), d.toList) = some r ∧ (r = .inl (siftDown (ltC c) hi first root d).toList ∨ r = .inr (siftDown (ltC c) hi first root d).toList) ∧ OKA P (siftDown (ltC c) hi first root d) ∧ (siftDown (ltC c) hi first root d).size = d.size := by
 intro k
 induction k with
 | zero =>
  intro root d hk hr hs hd
  have hz := hd.sz
  rw [Zba]
  unfold siftDown
  have e0 : w64 (2 * (root : Int)) = ((2 * root : Nat) : Int) := Zap (by omega) (by omega)
  have e1 : w64 (((2 * root : Nat) : Int) + 1) = ((2 * root + 1 : Nat) : Int) := Zap (by omega) (by omega)
  simp only [ZF, e0, e1, Zgt, decide_eq_true (show hi ≤ 2 * root + 1 by omega), cond_true]
  rw [dif_pos (by omega)]
  exact ⟨_, rfl, .inl rfl, hd, rfl⟩
 | succ k ih =>
  intro root d hk hr hs hd
  have hz := hd.sz
  rw [Zba]
  unfold siftDown
  have e0 : w64 (2 * (root : Int)) = ((2 * root : Nat) : Int) := Zap (by omega) (by omega)
  have e1 : w64 (((2 * root : Nat) : Int) + 1) = ((2 * root + 1 : Nat) : Int) := Zap (by omega) (by omega)
  by_cases h1 : hi ≤ 2 * root + 1
  ·simp only [ZF, e0, e1, Zgt, decide_eq_true h1, cond_true]
   rw [dif_pos (by omega)]
   exact ⟨_, rfl, .inl rfl, hd, rfl⟩
  have e2 : w64 (((2 * root + 1 : Nat) : Int) + 1) = ((2 * root + 2 : Nat) : Int) := Zap (by omega) (by omega)
  have er : w64 ((first : Int) + (root : Int)) = ((first + root : Nat) : Int) := Zap (by omega) (by omega)
  have ef : w64 ((first : Int) + ((2 * root + 1 : Nat) : Int)) = ((first + (2 * root + 1) : Nat) : Int) := Zap (by omega) (by omega)
  have ef1 : w64 (((first + (2 * root + 1) : Nat) : Int) + 1) = ((first + (2 * root + 1) + 1 : Nat) : Int) := Zap (by omega) (by omega)
  have ef2 : w64 ((first : Int) + ((2 * root + 2 : Nat) : Int)) = ((first + (2 * root + 2) : Nat) : Int) := Zap (by omega) (by omega)
  have ir : first + root < d.size := by omega
  have i1 : first + (2 * root + 1) < d.size := by omega
  have cr1 := hc _ _ (hd.el _ ir) (hd.el _ i1)
  have one : ∀ {r : List Int ⊕ List Int} {A : Array Int}, A = d → (r = .inl d.toList ∨ r = .inr d.toList) → ∃ q, some r = some q ∧ (q = .inl A.toList ∨ q = .inr A.toList) ∧ OKA P A ∧ A.size = d.size := fun hA hr => by
   subst hA
   exact ⟨_, rfl, hr, hd, rfl⟩
  rw [dif_neg (by omega)]
  by_cases h2 : 2 * root + 2 < hi
  ·have i2 : first + (2 * root + 2) < d.size := by omega
   have i2' : first + (2 * root + 1) + 1 < d.size := by omega
   have c12 := hc _ _ (hd.el _ i1) (hd.el _ i2')
   have cr2 := hc _ _ (hd.el _ ir) (hd.el _ i2)
   by_cases h3 : c d[first + (2 * root + 1)]! d[first + (2 * root + 1) + 1]! < 0
   ·rw [if_pos (by simp [h3, ltC]; omega)]
    by_cases h4 : c d[first + root]! d[first + (2 * root + 2)]! < 0
    ·obtain ⟨y, em⟩ := Zkl (i := first + root) (x := d[first + (2 * root + 2)]!) i2
     simp only [ZF, e0, e1, e2, Zgt, ZfP, decide_eq_false h1, decide_eq_true h2, cond_false, cond_true, ef, ef1, ef2, er, Zbq i1, Zbq i2', Zbq ir, Zbq i2, Option.bind_some, c12, cr2, decide_eq_true h3, decide_eq_true h4, Int.toNat_natCast, em, Zgu]
     rw [if_neg (by simp [h4, ltC]), dif_pos h2]
     have := ih (2 * root + 2) (swp d (first + root) (first + (2 * root + 2))) (by omega) (by omega) (by rw [Z5]; omega) (hd.swp ir i2)
     rw [Z5] at this
     exact this
    ·simp only [ZF, e0, e1, e2, Zgt, ZfP, decide_eq_false h1, decide_eq_true h2, cond_false, cond_true, ef, ef1, ef2, er, Zbq i1, Zbq i2', Zbq ir, Zbq i2, Option.bind_some, c12, cr2, decide_eq_true h3, decide_eq_false h4]
     rw [if_pos (by simp [h4, ltC])]
     exact one rfl (.inr rfl)
   ·rw [if_neg (by simp [h3, ltC])]
    by_cases h4 : c d[first + root]! d[first + (2 * root + 1)]! < 0
    ·obtain ⟨y, em⟩ := Zkl (i := first + root) (x := d[first + (2 * root + 1)]!) i1
     simp only [ZF, e0, e1, e2, Zgt, ZfP, decide_eq_false h1, decide_eq_true h2, cond_false, cond_true, ef, ef1, ef2, er, Zbq i1, Zbq i2', Zbq ir, Option.bind_some, c12, cr1, decide_eq_false h3, decide_eq_true h4, Int.toNat_natCast, em, Zgu]
     rw [if_neg (by simp [h4, ltC])]
     have := ih (2 * root + 1) (swp d (first + root) (first + (2 * root + 1))) (by omega) (by omega) (by rw [Z5]; omega) (hd.swp ir i1)
     rw [Z5] at this
     exact this
    ·simp only [ZF, e0, e1, e2, Zgt, ZfP, decide_eq_false h1, decide_eq_true h2, cond_false, cond_true, ef, ef1, ef2, er, Zbq i1, Zbq i2', Zbq ir, Option.bind_some, c12, cr1, decide_eq_false h3, decide_eq_false h4]
     rw [if_pos (by simp [h4, ltC])]
     exact one rfl (.inr rfl)
  ·rw [if_neg (by simp; omega)]
   by_cases h4 : c d[first + root]! d[first + (2 * root + 1)]! < 0
   ·obtain ⟨y, em⟩ := Zkl (i := first + root) (x := d[first + (2 * root + 1)]!) i1
    simp only [ZF, e0, e1, e2, Zgt, ZfP, decide_eq_false h1, decide_eq_false h2, cond_false, cond_true, ef, er, Zbq i1, Zbq ir, Option.bind_some, cr1, decide_eq_true h4, Int.toNat_natCast, em, Zgu]
    rw [if_neg (by simp [h4, ltC])]
    have := ih (2 * root + 1) (swp d (first + root) (first + (2 * root + 1))) (by omega) (by omega) (by rw [Z5]; omega) (hd.swp ir i1)
    rw [Z5] at this
    exact this
   ·simp only [ZF, e0, e1, e2, Zgt, ZfP, decide_eq_false h1, decide_eq_false h2, cond_false, cond_true, ef, er, Zbq i1, Zbq ir, Option.bind_some, cr1, decide_eq_false h4]
    rw [if_pos (by simp [h4, ltC])]
    exact one rfl (.inr rfl)
theorem Zwf (hi first root : Nat) (d : Array Int) (hr : root ≤ hi) (hs : first + hi ≤ d.size) (hd : OKA P d) : Zaz (root : Int) (hi : Int) (first : Int) cmp d.toList = some (siftDown (ltC c) hi first root d).toList ∧ OKA P (siftDown (ltC c) hi first root d) ∧ (siftDown (ltC c) hi first root d).size = d.size := by
 obtain ⟨r, h1, h2, h3⟩ := Zxt hc hi first _ root d (Nat.le_refl _) hr hs hd
 unfold Zaz
 rw [h1]
 rcases h2 with rfl | rfl
 ·exact ⟨rfl, h3⟩
 ·exact ⟨rfl, h3⟩
theorem Zs9 (hi first b : Nat) (hb : (b : Int) = first + hi) : ∀ (k : Nat) (d : Array Int), k ≤ hi + 1 → first + hi ≤ d.size → OKA P d → lp (ZaC (first : Int) (b : Int) cmp) ((k : Int) - 1, d.toList) = some (heapBuild (ltC c) hi first k d).toList ∧ OKA P (heapBuild (ltC c) hi first k d) ∧ (heapBuild (ltC c) hi first k d).size = d.size
 | 0, d, hk, hs, hd => by
  rw [Zba]
  simp only [ZaC, decide_eq_false (show ¬ ((0 : Int) ≤ ((0 : Nat) : Int) - 1) by omega), cond_false]
  exact ⟨rfl, hd, rfl⟩
 | k + 1, d, hk, hs, hd => by
  have hz := hd.sz
  obtain ⟨h1, h2, h3⟩ := Zwf hc hi first k d (by omega) hs hd
  have ih := Zs9 hi first b hb k (siftDown (ltC c) hi first k d) (by omega) (by rw [h3]; exact hs) h2
  have e1 : w64 ((b : Int) - (first : Int)) = (hi : Int) := Zap (by omega) (by omega)
  have e2 : (((k + 1 : Nat) : Int) - 1) = (k : Int) := by omega
  have e3 : w64 ((k : Int) - 1) = (k : Int) - 1 := Zcd (by omega) (by omega)
  rw [Zba, e2]
  simp only [ZaC, decide_eq_true (show (0 : Int) ≤ (k : Int) by omega), cond_true, e1, h1, Option.bind_some, e3]
  rw [← h3]
  exact ih
theorem Zyb (first : Nat) : ∀ (k : Nat) (d : Array Int), first + k ≤ d.size → OKA P d → lp (ZaD (first : Int) cmp) ((k : Int) - 1, d.toList) = some (heapPop (ltC c) first k d).toList ∧ OKA P (heapPop (ltC c) first k d) ∧ (heapPop (ltC c) first k d).size = d.size
 | 0, d, hs, hd => by
  rw [Zba]
  simp only [ZaD, decide_eq_false (show ¬ ((0 : Int) ≤ ((0 : Nat) : Int) - 1) by omega), cond_false]
  exact ⟨rfl, hd, rfl⟩
 | k + 1, d, hs, hd => by
  have hz := hd.sz
  have i1 : first + k < d.size := by omega
  have i2 : first < d.size := by omega
  obtain ⟨h1, h2, h3⟩ := Zwf hc k first 0 (swp d first (first + k)) (by omega) (by rw [Z5]; omega) (hd.swp i2 i1)
  rw [Z5] at h3
  have ih := Zyb first k (siftDown (ltC c) k first 0 (swp d first (first + k))) (by rw [h3]; omega) h2
  have e2 : (((k + 1 : Nat) : Int) - 1) = (k : Int) := by omega
  have e3 : w64 ((k : Int) - 1) = (k : Int) - 1 := Zcd (by omega) (by omega)
  have e4 : w64 ((first : Int) + (k : Int)) = ((first + k : Nat) : Int) := Zap (by omega) (by omega)
  obtain ⟨y, em⟩ := Zkl (i := first) (x := d[first + k]!) i1
  have h1' : Zaz 0 (k : Int) (first : Int) cmp (swp d first (first + k)).toList = _ := h1
  rw [Zba, e2]
  simp only [ZaD, decide_eq_true (show (0 : Int) ≤ (k : Int) by omega), cond_true, e4, Zbq i1, Zbq i2, Option.bind_some, Int.toNat_natCast, em, Zgu, h1', e3]
  rw [← h3]
  exact ih
theorem ZyY (a b : Nat) (d : Array Int) (ha : a ≤ b) (hb : b ≤ d.size) (hd : OKA P d) : ZZ (a : Int) (b : Int) cmp d.toList = some (heapSort (ltC c) d a b).toList ∧ OKA P (heapSort (ltC c) d a b) ∧ (heapSort (ltC c) d a b).size = d.size := by
 have hz := hd.sz
 have e1 : w64 ((b : Int) - (a : Int)) = ((b - a : Nat) : Int) := Zap (by omega) (by omega)
 have e2 : w64 (((b - a : Nat) : Int) - 1) = ((b - a : Nat) : Int) - 1 := Zcd (by omega) (by omega)
 have e3 : w64 (Int.tdiv (((b - a : Nat) : Int) - 1) 2) = (((b - a - 1) / 2 + 1 : Nat) : Int) - 1 := by
  by_cases h : b - a = 0
  ·rw [h]; rfl
  ·rw [Int.tdiv_eq_ediv_of_nonneg (by omega), Zcd (by omega) (by omega)]
   omega
 obtain ⟨h1, h2, h3⟩ := Zs9 hc (b - a) a b (by omega) ((b - a - 1) / 2 + 1) d (by omega) (by omega) hd
 obtain ⟨h4, h5, h6⟩ := Zyb hc a (b - a) (heapBuild (ltC c) (b - a) a ((b - a - 1) / 2 + 1) d) (by rw [h3]; omega) h2
 unfold ZZ heapSort
 simp only [e1, e2, e3, h1, h4, Option.bind_some]
 exact ⟨trivial, h5, by rw [h6, h3]⟩
end
end Go.Proofs.YtnmbdjkbaihicaaDoor
namespace Go.Proofs.YtnmbdjkbaihicaaDoor
open Go Go.Proofs.YtnmbdjkbaihicaaDoorE Go.Sort
set_option linter.unusedVariables false
set_option linter.unusedSimpArgs false
theorem ZmS (step : Int → Option (Int ⊕ Int)) (p : Int → Bool) (d : Array Int) (j : Nat) (h : ∀ i : Nat, i ≤ j + 2 → step (i : Int) = some (bif decide (i ≤ j) && p d[i]! then .inl ((i + 1 : Nat) : Int) else .inr (i : Int))) :
  ∀ (k i : Nat), j + 2 - i ≤ k → i ≤ j + 2 → lp step (i : Int) = some ((scanUp p d j i : Nat) : Int) ∧ i ≤ scanUp p d j i ∧ scanUp p d j i ≤ max i (j + 1) := by
 intro k
 induction k with
 | zero =>
  intro i hk hi
  rw [Zba, h i hi]
  unfold scanUp
  rw [decide_eq_false (show ¬ i ≤ j by omega)]
  simp [show ¬ i ≤ j by omega]
  omega
 | succ k ih =>
  intro i hk hi
  rw [Zba, h i hi]
  unfold scanUp
  by_cases h1 : i ≤ j
  ·cases h2 : p d[i]! with
   | true =>
    rw [decide_eq_true h1, if_pos (by simp [h1])]
    obtain ⟨a1, a2, a3⟩ := ih (i + 1) (by omega) (by omega)
    exact ⟨a1, by omega, by omega⟩
   | false =>
    rw [decide_eq_true h1, if_neg (by simp)]
    exact ⟨rfl, by omega, by omega⟩
  ·rw [decide_eq_false h1, if_neg (by simp [h1])]
   exact ⟨rfl, by omega, by omega⟩
theorem ZhT (step : Int → Option (Int ⊕ Int)) (p : Int → Bool) (d : Array Int) (i : Nat) (hi : 1 ≤ i) : ∀ (j : Nat), (∀ k : Nat, k ≤ j → step (k : Int) = some (bif decide (i ≤ k) && p d[k]! then .inl ((k : Int) - 1) else .inr (k : Int))) → lp step (j : Int) = some ((scanDown p d i j : Nat) : Int) ∧ scanDown p d i j ≤ j
 | 0, h => by
  rw [Zba, h 0 (Nat.le_refl _), decide_eq_false (show ¬ i ≤ 0 by omega)]
  exact ⟨rfl, Nat.le_refl _⟩
 | j + 1, h => by
  rw [Zba, h (j + 1) (Nat.le_refl _)]
  unfold scanDown
  by_cases h1 : i ≤ j + 1
  ·cases h2 : p d[j + 1]! with
   | true =>
    rw [decide_eq_true h1, if_pos (by simp [h1])]
    have ih := ZhT step p d i hi j (fun k hk => h k (by omega))
    have e : (((j + 1 : Nat) : Int) - 1) = (j : Int) := by omega
    simp only [Bool.and_self, cond_true, e]
    exact ⟨ih.1, by omega⟩
   | false =>
    rw [decide_eq_true h1, if_neg (by simp)]
    exact ⟨rfl, Nat.le_refl _⟩
  ·rw [decide_eq_false h1, if_neg (by simp [h1])]
   exact ⟨rfl, Nat.le_refl _⟩
section
variable {cmp : Int → Int → Option Int} {c : Int → Int → Int} {P : Int → Prop} (hc : Zrd cmp c P)
include hc
theorem Zud (a : Nat) : ∀ (k i j : Nat) (d : Array Int), j + 3 - i ≤ k → 1 ≤ i → i ≤ j + 2 → j < d.size → a < d.size → OKA P d →
  lp (ZaO (a : Int) cmp) ((i : Int), (j : Int), d.toList) = some (((partLoop (ltC c) a i j d).1 : Int), (partLoop (ltC c) a i j d).2.toList) ∧ OKA P (partLoop (ltC c) a i j d).2 ∧ (partLoop (ltC c) a i j d).2.size = d.size ∧ (partLoop (ltC c) a i j d).1 ≤ j := by
 intro k
 induction k with
 | zero =>
  intro i j d hk h1 h2 hj ha hd
  exact absurd hk (by omega)
 | succ k ih =>
  intro i j d hk h1 h2 hj ha hd
  have hz := hd.sz
  obtain ⟨u1, u2, u3⟩ := ZmS (Zar (a : Int) cmp ((i : Int), (j : Int), d.toList)) (fun x => ltC c x d[a]!) d j (fun m hm => by
    by_cases hmj : m ≤ j
    ·have im : m < d.size := by omega
     simp only [Zar, Zgt, decide_eq_true hmj, cond_true, Zbq im, Zbq ha, Option.bind_some, hc _ _ (hd.el _ im) (hd.el _ ha), ltC, Bool.true_and, ZK (show m < j + 1 by omega) (by omega)]
     cases decide (c d[m]! d[a]! < 0) <;> rfl
    ·simp only [Zar, Zgt, decide_eq_false hmj, cond_false, Bool.false_and]) (j + 2 - i) i (Nat.le_refl _) h2
  generalize hi2 : scanUp (fun x => ltC c x d[a]!) d j i = i2 at u1 u2 u3
  obtain ⟨v1, v2⟩ := ZhT (Zav (a : Int) cmp ((i : Int), (j : Int), d.toList) (i2 : Int)) (fun x => !ltC c x d[a]!) d i2 (by omega) j (fun m hm => by
    have im : m < d.size := by omega
    by_cases hmi : i2 ≤ m
    ·simp only [Zav, Zgt, decide_eq_true hmi, cond_true, Zbq im, Zbq ha, Option.bind_some, hc _ _ (hd.el _ im) (hd.el _ ha), ltC, Bool.true_and, Zcd (show -9223372036854775808 ≤ (m : Int) - 1 by omega) (by omega)]
     cases decide (c d[m]! d[a]! < 0) <;> rfl
    ·simp only [Zav, Zgt, decide_eq_false hmi, cond_false, Bool.false_and])
  generalize hj2 : scanDown (fun x => !ltC c x d[a]!) d i2 j = j2 at v1 v2
  rw [Zba]
  unfold partLoop
  simp only [ZaO, u1, v1, Option.bind_some, ZfP, hi2, hj2]
  by_cases hij : j2 < i2
  ·rw [decide_eq_true hij, if_pos hij]
   exact ⟨rfl, hd, rfl, v2⟩
  ·have k1 : i2 < d.size := by omega
   have k2 : j2 < d.size := by omega
   obtain ⟨y, em⟩ := Zkl (i := i2) (x := d[j2]!) k2
   have e1 : w64 ((i2 : Int) + 1) = ((i2 + 1 : Nat) : Int) := Zap (by omega) (by omega)
   have e2 : w64 ((j2 : Int) - 1) = ((j2 - 1 : Nat) : Int) := Zap (by omega) (by omega)
   rw [decide_eq_false hij, if_neg hij, dif_pos (by omega)]
   simp only [cond_false, Zbq k1, Zbq k2, Option.bind_some, Int.toNat_natCast, em, Zgu, e1, e2]
   obtain ⟨q1, q2, q3, q4⟩ := ih (i2 + 1) (j2 - 1) (swp d i2 j2) (by omega) (by omega) (by omega) (by rw [Z5]; omega) (by rw [Z5]; exact ha) (hd.swp k1 k2)
   rw [Z5] at q3
   exact ⟨q1, q2, q3, by omega⟩
theorem ZxX (a b pivot : Nat) (d : Array Int) (h1 : a ≤ pivot) (h2 : pivot < b) (hb : b ≤ d.size) (hd : OKA P d) :
  Zp (a : Int) (b : Int) (pivot : Int) cmp d.toList = some (bif (partition (ltC c) d a b pivot).2.1 then .inl (((partition (ltC c) d a b pivot).1 : Int), (partition (ltC c) d a b pivot).2.2.toList) else .inr (((partition (ltC c) d a b pivot).1 : Int), (partition (ltC c) d a b pivot).2.2.toList)) ∧
  OKA P (partition (ltC c) d a b pivot).2.2 ∧ (partition (ltC c) d a b pivot).2.2.size = d.size := by
 have hz := hd.sz
 have ip : pivot < d.size := by omega
 have ia : a < d.size := by omega
 have hd1 := hd.swp ia ip
 have s1 := Z5 d a pivot
 obtain ⟨y, em⟩ := Zkl (i := a) (x := d[pivot]!) ip
 have e1 : w64 ((a : Int) + 1) = ((a + 1 : Nat) : Int) := Zap (by omega) (by omega)
 have e2 : w64 ((b : Int) - 1) = ((b - 1 : Nat) : Int) := Zap (by omega) (by omega)
 have sw := Zgu d a pivot
 have ia1 : a < (swp d a pivot).size := by omega
 obtain ⟨u1, u2, u3⟩ := ZmS (Zaw (a : Int) (b : Int) (pivot : Int) d.toList cmp d[pivot]! d[a]!) (fun x => ltC c x (swp d a pivot)[a]!) (swp d a pivot) (b - 1) (fun m hm => by
   by_cases hmj : m ≤ b - 1
   ·have im : m < (swp d a pivot).size := by omega
    simp only [Zaw, e2, Zgt, decide_eq_true hmj, cond_true, Int.toNat_natCast, sw, Zbq im, Zbq ia1, Option.bind_some, hc _ _ (hd1.el _ im) (hd1.el _ ia1), ltC, Bool.true_and, ZK (show m < b by omega) (by omega)]
    cases decide (c (swp d a pivot)[m]! (swp d a pivot)[a]! < 0) <;> rfl
   ·simp only [Zaw, e2, Zgt, decide_eq_false hmj, cond_false, Bool.false_and]) (b - 1 + 2 - (a + 1)) (a + 1) (Nat.le_refl _) (by omega)
 generalize hi2 : scanUp (fun x => ltC c x (swp d a pivot)[a]!) (swp d a pivot) (b - 1) (a + 1) = i2 at u1 u2 u3
 obtain ⟨v1, v2⟩ := ZhT (Zau (a : Int) (pivot : Int) d.toList cmp d[pivot]! d[a]! (i2 : Int)) (fun x => !ltC c x (swp d a pivot)[a]!) (swp d a pivot) i2 (by omega) (b - 1) (fun m hm => by
   have im : m < (swp d a pivot).size := by omega
   by_cases hmi : i2 ≤ m
   ·simp only [Zau, Zgt, decide_eq_true hmi, cond_true, Int.toNat_natCast, sw, Zbq im, Zbq ia1, Option.bind_some, hc _ _ (hd1.el _ im) (hd1.el _ ia1), ltC, Bool.true_and, Zcd (show -9223372036854775808 ≤ (m : Int) - 1 by omega) (by omega)]
    cases decide (c (swp d a pivot)[m]! (swp d a pivot)[a]! < 0) <;> rfl
   ·simp only [Zau, Zgt, decide_eq_false hmi, cond_false, Bool.false_and])
 generalize hj2 : scanDown (fun x => !ltC c x (swp d a pivot)[a]!) (swp d a pivot) i2 (b - 1) = j2 at v1 v2
 unfold Zp partition
 simp only [Zbq ip, Zbq ia, Option.bind_some, Int.toNat_natCast, em, e1, e2, u1, v1, ZfP, sw, hi2, hj2]
 have kj : j2 < (swp d a pivot).size := by omega
 by_cases hij : j2 < i2
 ·obtain ⟨y2, em2⟩ := Zkl (i := j2) (x := (swp d a pivot)[a]!) ia1
  rw [decide_eq_true hij, if_pos hij]
  simp only [cond_true, Zbq ia1, Zbq kj, Option.bind_some, Int.toNat_natCast, em2, Zgu]
  exact ⟨trivial, hd1.swp kj ia1, by rw [Z5, s1]⟩
 ·have ki : i2 < (swp d a pivot).size := by omega
  obtain ⟨y2, em2⟩ := Zkl (i := i2) (x := (swp d a pivot)[j2]!) kj
  have e3 : w64 ((i2 : Int) + 1) = ((i2 + 1 : Nat) : Int) := Zap (by omega) (by omega)
  have e4 : w64 ((j2 : Int) - 1) = ((j2 - 1 : Nat) : Int) := Zap (by omega) (by omega)
  obtain ⟨q1, q2, q3, q4⟩ := Zud hc a (j2 - 1 + 3 - (i2 + 1)) (i2 + 1) (j2 - 1) (swp (swp d a pivot) i2 j2) (by omega) (by omega) (by omega) (by rw [Z5]; omega) (by rw [Z5]; exact ia1) (hd1.swp ki kj)
  rw [Z5, s1] at q3
  rw [decide_eq_false hij, if_neg hij]
  simp only [cond_false, Zbq ki, Zbq kj, Option.bind_some, Int.toNat_natCast, em2, Zgu, e3, e4, q1]
  generalize partLoop (ltC c) a (i2 + 1) (j2 - 1) (swp (swp d a pivot) i2 j2) = r at *
  have kr : r.1 < r.2.size := by omega
  have kr2 : a < r.2.size := by omega
  obtain ⟨y3, em3⟩ := Zkl (i := r.1) (x := r.2[a]!) kr2
  simp only [Zbq kr, Zbq kr2, Option.bind_some, em3, Zgu]
  exact ⟨trivial, q2.swp kr kr2, by rw [Z5, q3]⟩
theorem ZrK (a : Nat) : ∀ (k i j : Nat) (d : Array Int), j + 3 - i ≤ k → 1 ≤ i → i ≤ j + 2 → j < d.size → a < d.size → OKA P d →
  lp (Zay (a : Int) cmp) ((i : Int), (j : Int), d.toList) = some (((partEqLoop (ltC c) a i j d).1 : Int), (partEqLoop (ltC c) a i j d).2.toList) ∧ OKA P (partEqLoop (ltC c) a i j d).2 ∧ (partEqLoop (ltC c) a i j d).2.size = d.size ∧ i ≤ (partEqLoop (ltC c) a i j d).1 ∧ (partEqLoop (ltC c) a i j d).1 ≤ max i (j + 1) := by
 intro k
 induction k with
 | zero =>
  intro i j d hk h1 h2 hj ha hd
  exact absurd hk (by omega)
 | succ k ih =>
  intro i j d hk h1 h2 hj ha hd
  have hz := hd.sz
  obtain ⟨u1, u2, u3⟩ := ZmS (Z9 (a : Int) cmp ((i : Int), (j : Int), d.toList)) (fun x => !ltC c d[a]! x) d j (fun m hm => by
    by_cases hmj : m ≤ j
    ·have im : m < d.size := by omega
     simp only [Z9, Zgt, decide_eq_true hmj, cond_true, Zbq im, Zbq ha, Option.bind_some, hc _ _ (hd.el _ ha) (hd.el _ im), ltC, Bool.true_and, ZK (show m < j + 1 by omega) (by omega)]
     cases decide (c d[a]! d[m]! < 0) <;> rfl
    ·simp only [Z9, Zgt, decide_eq_false hmj, cond_false, Bool.false_and]) (j + 2 - i) i (Nat.le_refl _) h2
  generalize hi2 : scanUp (fun x => !ltC c d[a]! x) d j i = i2 at u1 u2 u3
  obtain ⟨v1, v2⟩ := ZhT (Z7 (a : Int) cmp ((i : Int), (j : Int), d.toList) (i2 : Int)) (fun x => ltC c d[a]! x) d i2 (by omega) j (fun m hm => by
    have im : m < d.size := by omega
    by_cases hmi : i2 ≤ m
    ·simp only [Z7, Zgt, decide_eq_true hmi, cond_true, Zbq im, Zbq ha, Option.bind_some, hc _ _ (hd.el _ ha) (hd.el _ im), ltC, Bool.true_and, Zcd (show -9223372036854775808 ≤ (m : Int) - 1 by omega) (by omega)]
     cases decide (c d[a]! d[m]! < 0) <;> rfl
    ·simp only [Z7, Zgt, decide_eq_false hmi, cond_false, Bool.false_and])
  generalize hj2 : scanDown (fun x => ltC c d[a]! x) d i2 j = j2 at v1 v2
  rw [Zba]
  unfold partEqLoop
  simp only [Zay, u1, v1, Option.bind_some, ZfP, hi2, hj2]
  by_cases hij : j2 < i2
  ·rw [decide_eq_true hij, if_pos hij]
   exact ⟨rfl, hd, rfl, u2, u3⟩
  ·have k1 : i2 < d.size := by omega
   have k2 : j2 < d.size := by omega
   obtain ⟨y, em⟩ := Zkl (i := i2) (x := d[j2]!) k2
   have e1 : w64 ((i2 : Int) + 1) = ((i2 + 1 : Nat) : Int) := Zap (by omega) (by omega)
   have e2 : w64 ((j2 : Int) - 1) = ((j2 - 1 : Nat) : Int) := Zap (by omega) (by omega)
   rw [decide_eq_false hij, if_neg hij, dif_pos (by omega)]
   simp only [cond_false, Zbq k1, Zbq k2, Option.bind_some, Int.toNat_natCast, em, Zgu, e1, e2]
   obtain ⟨q1, q2, q3, q4, q5⟩ := ih (i2 + 1) (j2 - 1) (swp d i2 j2) (by omega) (by omega) (by omega) (by rw [Z5]; omega) (by rw [Z5]; exact ha) (hd.swp k1 k2)
   rw [Z5] at q3
   exact ⟨q1, q2, q3, by omega, by omega⟩
theorem ZuZ (a b pivot : Nat) (d : Array Int) (h1 : a ≤ pivot) (h2 : pivot < b) (hb : b ≤ d.size) (hd : OKA P d) :
  Zy (a : Int) (b : Int) (pivot : Int) cmp d.toList = some (((partitionEqual (ltC c) d a b pivot).1 : Int), (partitionEqual (ltC c) d a b pivot).2.toList) ∧ OKA P (partitionEqual (ltC c) d a b pivot).2 ∧ (partitionEqual (ltC c) d a b pivot).2.size = d.size ∧ a < (partitionEqual (ltC c) d a b pivot).1 ∧ (partitionEqual (ltC c) d a b pivot).1 ≤ b := by
 have hz := hd.sz
 have ip : pivot < d.size := by omega
 have ia : a < d.size := by omega
 obtain ⟨y, em⟩ := Zkl (i := a) (x := d[pivot]!) ip
 have e1 : w64 ((a : Int) + 1) = ((a + 1 : Nat) : Int) := Zap (by omega) (by omega)
 have e2 : w64 ((b : Int) - 1) = ((b - 1 : Nat) : Int) := Zap (by omega) (by omega)
 obtain ⟨q1, q2, q3, q4, q5⟩ := ZrK hc a (b - 1 + 3 - (a + 1)) (a + 1) (b - 1) (swp d a pivot) (by omega) (by omega) (by omega) (by rw [Z5]; omega) (by rw [Z5]; omega) (hd.swp ia ip)
 rw [Z5] at q3
 unfold Zy partitionEqual
 simp only [Zbq ip, Zbq ia, Option.bind_some, Int.toNat_natCast, em, e1, e2, Zgu, q1]
 exact ⟨trivial, q2, q3, by omega, by omega⟩
end
end Go.Proofs.YtnmbdjkbaihicaaDoor
namespace Go.Proofs.YtnmbdjkbaihicaaDoor
open Go Go.Proofs.YtnmbdjkbaihicaaDoorE Go.Sort
set_option linter.unusedVariables false
set_option linter.unusedSimpArgs false
theorem Zz8 : Zao = ZD := rfl
def ZoY : Hint → Int
 | .unknown => 0
 | .increasing => 1
 | .decreasing => 2
theorem Zv6 (p : Int × Int) (n : Nat) (x : Int) (h : p.2 = (n : Int)) (hx : p.1 = x) : (bif p.2 == 0 then some (p.1, (1 : Int)) else bif p.2 == 12 then some (p.1, 2) else some (p.1, 0)) = some (x, ZoY (if n = 0 then Hint.increasing else if n = 12 then .decreasing else .unknown)) := by
 rw [h, hx]
 by_cases h0 : n = 0
 ·subst h0; rfl
 ·by_cases h1 : n = 12
  ·subst h1; rfl
  ·rw [show ((n : Int) == 0) = false by simpa using h0, show ((n : Int) == 12) = false by simp; omega, if_neg h0, if_neg h1]
   rfl
section
variable {cmp : Int → Int → Option Int} {c : Int → Int → Int} {P : Int → Prop} (hc : Zrd cmp c P)
include hc
theorem Zyp : ∀ (j : Nat) (d : Array Int), OKA P d → j < d.size → lp (ZO cmp) ((j : Int), d.toList) = some (shiftDown (ltC c) j d).toList ∧ OKA P (shiftDown (ltC c) j d) ∧ (shiftDown (ltC c) j d).size = d.size
 | 0, d, hd, hj => by
  rw [Zba]
  simp only [ZO, decide_eq_false (show ¬ ((1 : Int) ≤ ((0 : Nat) : Int)) by omega), cond_false]
  exact ⟨rfl, hd, rfl⟩
 | j + 1, d, hd, hj => by
  have hj' : j < d.size := by omega
  have hz := hd.sz
  rw [Zba]
  have e2 : w64 (((j + 1 : Nat) : Int) - 1) = (j : Int) := Zap (by omega) (by omega)
  have e3 := hc _ _ (hd.el (j + 1) hj) (hd.el j hj')
  unfold shiftDown
  by_cases h2 : c d[j + 1]! d[j]! < 0
  ·obtain ⟨y, e5⟩ := Zkl (i := j + 1) (x := d[j]!) hj'
   simp only [ZO, decide_eq_true (show (1 : Int) ≤ ((j + 1 : Nat) : Int) by omega), cond_true, Zbq hj, e2, Zbq hj', Option.bind_some, e3, decide_eq_true h2, Int.toNat_natCast, e5, Zgu]
   rw [if_neg (by simp [h2, ltC])]
   have ih := Zyp j (swp d (j + 1) j) (hd.swp hj hj') (by rw [Z5]; omega)
   rw [Z5] at ih
   exact ih
  ·simp only [ZO, decide_eq_true (show (1 : Int) ≤ ((j + 1 : Nat) : Int) by omega), cond_true, Zbq hj, e2, Zbq hj', Option.bind_some, e3, decide_eq_false h2, cond_false]
   rw [if_pos (by simp [h2, ltC])]
   exact ⟨rfl, hd, rfl⟩
theorem Zyf (b : Nat) : ∀ (k j : Nat) (d : Array Int), b - j ≤ k → 1 ≤ j → b ≤ d.size → OKA P d → lp (ZD (b : Int) cmp) ((j : Int), d.toList) = some (shiftUp (ltC c) b j d).toList ∧ OKA P (shiftUp (ltC c) b j d) ∧ (shiftUp (ltC c) b j d).size = d.size := by
 intro k
 induction k with
 | zero =>
  intro j d hk hj hb hd
  rw [Zba]
  unfold shiftUp
  simp only [ZD, ZfP, decide_eq_false (show ¬ j < b by omega), cond_false]
  rw [if_neg (by omega)]
  exact ⟨rfl, hd, rfl⟩
 | succ k ih =>
  intro j d hk hj hb hd
  have hz := hd.sz
  rw [Zba]
  unfold shiftUp
  by_cases h1 : j < b
  ·have i1 : j < d.size := by omega
   have i2 : j - 1 < d.size := by omega
   have e2 : w64 ((j : Int) - 1) = ((j - 1 : Nat) : Int) := Zap (by omega) (by omega)
   have e3 := hc _ _ (hd.el j i1) (hd.el (j - 1) i2)
   rw [if_pos h1]
   by_cases h2 : c d[j]! d[j - 1]! < 0
   ·obtain ⟨y, e5⟩ := Zkl (i := j) (x := d[j - 1]!) i2
    simp only [ZD, ZfP, decide_eq_true h1, cond_true, Zbq i1, e2, Zbq i2, Option.bind_some, e3, decide_eq_true h2, Int.toNat_natCast, e5, Zgu, ZK h1 (by omega)]
    rw [if_neg (by simp [h2, ltC])]
    have := ih (j + 1) (swp d j (j - 1)) (by omega) (by omega) (by rw [Z5]; exact hb) (hd.swp i1 i2)
    rw [Z5] at this
    exact this
   ·simp only [ZD, ZfP, decide_eq_true h1, cond_true, Zbq i1, e2, Zbq i2, Option.bind_some, e3, decide_eq_false h2, cond_false]
    rw [if_pos (by simp [h2, ltC])]
    exact ⟨rfl, hd, rfl⟩
  ·simp only [ZD, ZfP, decide_eq_false h1, cond_false]
   rw [if_neg h1]
   exact ⟨rfl, hd, rfl⟩
theorem ZwA (b : Nat) (z : Int) (d : Array Int) (hb : b ≤ d.size) (hd : OKA P d) (y1 y2 : Int) : ∀ (k i : Nat), b - i ≤ k → 1 ≤ i → i ≤ b → lp (ZH (b : Int) cmp (y1, y2, d.toList)) (i : Int) = some ((scanSorted (ltC c) d b i : Nat) : Int) ∧ i ≤ scanSorted (ltC c) d b i ∧ scanSorted (ltC c) d b i ≤ b := by
 have hz := hd.sz
 intro k
 induction k with
 | zero =>
  intro i hk hi hib
  rw [Zba]
  unfold scanSorted
  simp only [ZH, ZfP, decide_eq_false (show ¬ i < b by omega), cond_false]
  rw [if_neg (by simp [show ¬ i < b by omega])]
  exact ⟨rfl, Nat.le_refl _, hib⟩
 | succ k ih =>
  intro i hk hi hib
  rw [Zba]
  unfold scanSorted
  by_cases h1 : i < b
  ·have i1 : i < d.size := by omega
   have i2 : i - 1 < d.size := by omega
   have e2 : w64 ((i : Int) - 1) = ((i - 1 : Nat) : Int) := Zap (by omega) (by omega)
   have e3 := hc _ _ (hd.el i i1) (hd.el (i - 1) i2)
   by_cases h2 : c d[i]! d[i - 1]! < 0
   ·simp only [ZH, ZfP, decide_eq_true h1, cond_true, Zbq i1, e2, Zbq i2, Option.bind_some, e3, decide_eq_true h2]
    rw [if_neg (by simp [h2, ltC])]
    exact ⟨rfl, Nat.le_refl _, hib⟩
   ·simp only [ZH, ZfP, decide_eq_true h1, cond_true, Zbq i1, e2, Zbq i2, Option.bind_some, e3, decide_eq_false h2, cond_false, ZK h1 (by omega)]
    rw [if_pos (by simp [h1, h2, ltC])]
    obtain ⟨a1, a2, a3⟩ := ih (i + 1) (by omega) (by omega) (by omega)
    exact ⟨a1, by omega, a3⟩
  ·simp only [ZH, ZfP, decide_eq_false h1, cond_false]
   rw [if_neg (by simp [h1])]
   exact ⟨rfl, Nat.le_refl _, hib⟩
theorem Zv7 (a b : Nat) : ∀ (s i : Nat) (d : Array Int), s ≤ 5 → a < i → i ≤ b → b ≤ d.size → OKA P d →
  ∃ r, lp (ZP (a : Int) (b : Int) cmp) ((i : Int), ((5 - s : Nat) : Int), d.toList) = some r ∧ (match r with | .inl l => l = (partialIns (ltC c) a b s i d).1.toList ∧ (partialIns (ltC c) a b s i d).2 = true | .inr (.inl l) => l = (partialIns (ltC c) a b s i d).1.toList ∧ (partialIns (ltC c) a b s i d).2 = false | .inr (.inr l) => l = (partialIns (ltC c) a b s i d).1.toList ∧ (partialIns (ltC c) a b s i d).2 = false) ∧
   OKA P (partialIns (ltC c) a b s i d).1 ∧ (partialIns (ltC c) a b s i d).1.size = d.size
 | 0, i, d, hs, ha, hi, hb, hd => by
  rw [Zba]
  simp only [ZP, decide_eq_false (show ¬ (((5 - 0 : Nat) : Int) < 5) by omega), cond_false]
  exact ⟨_, rfl, by simp [partialIns], by first | exact hd | (simpa [partialIns] using hd), by first | rfl | simp [partialIns]⟩
 | s + 1, i, d, hs, ha, hi, hb, hd => by
  have hz := hd.sz
  obtain ⟨u1, u2, u3⟩ := ZwA hc b 0 d hb hd (i : Int) ((5 - (s + 1) : Nat) : Int) (b - i) i (Nat.le_refl _) (by omega) hi
  rw [Zba]
  unfold partialIns
  generalize hi2 : scanSorted (ltC c) d b i = i2 at u1 u2 u3 ⊢
  simp only [ZP, decide_eq_true (show (((5 - (s + 1) : Nat) : Int) < 5) by omega), cond_true, u1, Option.bind_some]
  by_cases h1 : i2 = b
  ·rw [show ((i2 : Int) == (b : Int)) = true by simp [h1], if_pos h1]
   exact ⟨_, rfl, by simp [partialIns], by first | exact hd | (simpa [partialIns] using hd), by first | rfl | simp [partialIns]⟩
  ·have e1 : w64 ((b : Int) - (a : Int)) = ((b - a : Nat) : Int) := Zap (by omega) (by omega)
   rw [show ((i2 : Int) == (b : Int)) = false by simpa using (show ¬ (i2 : Int) = (b : Int) by omega), if_neg h1]
   by_cases h2 : b - a < 50
   ·rw [if_pos h2]
    simp only [cond_false, e1, decide_eq_true (show ((b - a : Nat) : Int) < 50 by omega), cond_true]
    exact ⟨_, rfl, by simp [partialIns], by first | exact hd | (simpa [partialIns] using hd), by first | rfl | simp [partialIns]⟩
   ·rw [if_neg h2]
    have i1 : i2 < d.size := by omega
    have i3 : i2 - 1 < d.size := by omega
    have e2 : w64 ((i2 : Int) - 1) = ((i2 - 1 : Nat) : Int) := Zap (by omega) (by omega)
    have e3 : w64 ((i2 : Int) - (a : Int)) = ((i2 - a : Nat) : Int) := Zap (by omega) (by omega)
    have e4 : w64 ((b : Int) - (i2 : Int)) = ((b - i2 : Nat) : Int) := Zap (by omega) (by omega)
    have e5 : w64 ((i2 : Int) + 1) = ((i2 + 1 : Nat) : Int) := Zap (by omega) (by omega)
    have e6 : w64 (((5 - (s + 1) : Nat) : Int) + 1) = ((5 - s : Nat) : Int) := Zap (by omega) (by omega)
    obtain ⟨y, em⟩ := Zkl (i := i2) (x := d[i2 - 1]!) i3
    have hd2 := hd.swp i1 i3
    simp only [cond_false, e1, decide_eq_false (show ¬ ((b - a : Nat) : Int) < 50 by omega), e2, Zbq i1, Zbq i3, Option.bind_some, Int.toNat_natCast, em, Zgu, e3, e4, e5, e6, Zz8]
    have n2 : ∀ n : Nat, decide ((2 : Int) ≤ (n : Int)) = decide (n ≥ 2) := fun n => decide_eq_decide.2 (by omega)
    rw [n2, n2]
    have go : ∀ d' : Array Int, OKA P d' → d'.size = d.size → ∃ r, lp (ZP (a : Int) (b : Int) cmp) ((i2 : Int), ((5 - s : Nat) : Int), d'.toList) = some r ∧ (match r with | .inl l => l = (partialIns (ltC c) a b s i2 d').1.toList ∧ (partialIns (ltC c) a b s i2 d').2 = true | .inr (.inl l) => l = (partialIns (ltC c) a b s i2 d').1.toList ∧ (partialIns (ltC c) a b s i2 d').2 = false | .inr (.inr l) => l = (partialIns (ltC c) a b s i2 d').1.toList ∧ (partialIns (ltC c) a b s i2 d').2 = false) ∧
      OKA P (partialIns (ltC c) a b s i2 d').1 ∧ (partialIns (ltC c) a b s i2 d').1.size = d.size := fun d' h h' => by
     have := Zv7 a b s i2 d' (by omega) (by omega) u3 (by omega) h
     rw [h'] at this
     exact this
    by_cases h3 : i2 - a ≥ 2
    ·obtain ⟨v1, v2, v3⟩ := Zyp hc (i2 - 1) (swp d i2 (i2 - 1)) hd2 (by rw [Z5]; exact i3)
     rw [Z5] at v3
     rw [decide_eq_true h3, if_pos h3]
     simp only [cond_true, v1, Option.bind_some]
     by_cases h4 : b - i2 ≥ 2
     ·obtain ⟨w1, w2, w3⟩ := Zyf hc b (b - (i2 + 1)) (i2 + 1) (shiftDown (ltC c) (i2 - 1) (swp d i2 (i2 - 1))) (Nat.le_refl _) (by omega) (by omega) v2
      rw [decide_eq_true h4, if_pos h4]
      simp only [cond_true, w1, Option.bind_some]
      exact go _ w2 (by omega)
     ·rw [decide_eq_false h4, if_neg h4]
      exact go _ v2 v3
    ·rw [decide_eq_false h3, if_neg h3]
     simp only [cond_false]
     by_cases h4 : b - i2 ≥ 2
     ·obtain ⟨w1, w2, w3⟩ := Zyf hc b (b - (i2 + 1)) (i2 + 1) (swp d i2 (i2 - 1)) (Nat.le_refl _) (by omega) (by rw [Z5]; omega) hd2
      rw [Z5] at w3
      rw [decide_eq_true h4, if_pos h4]
      simp only [cond_true, w1, Option.bind_some]
      exact go _ w2 w3
     ·rw [decide_eq_false h4, if_neg h4]
      exact go _ hd2 (Z5 _ _ _)
theorem Zyq (a b : Nat) (d : Array Int) (h1 : a < b) (hb : b ≤ d.size) (hd : OKA P d) :
  ZL (a : Int) (b : Int) cmp d.toList = some (bif (partialInsertionSort (ltC c) d a b).2 then .inl (partialInsertionSort (ltC c) d a b).1.toList else .inr (partialInsertionSort (ltC c) d a b).1.toList) ∧ OKA P (partialInsertionSort (ltC c) d a b).1 ∧ (partialInsertionSort (ltC c) d a b).1.size = d.size := by
 have hz := hd.sz
 obtain ⟨r, e, h2, h3⟩ := Zv7 hc a b 5 (a + 1) d (Nat.le_refl _) (by omega) (by omega) hb hd
 unfold ZL partialInsertionSort
 have e0 : ((5 - 5 : Nat) : Int) = 0 := rfl
 rw [e0] at e
 rw [Zap (n := a + 1) (by omega) (by omega), e]
 refine ⟨?_, h3⟩
 rcases r with l | l | l
 ·obtain ⟨rfl, h⟩ := h2; rw [h]; rfl
 ·obtain ⟨rfl, h⟩ := h2; rw [h]; rfl
 ·obtain ⟨rfl, h⟩ := h2; rw [h]; rfl
theorem Zvd (d : Array Int) (hd : OKA P d) (a b n : Nat) (ha : a < d.size) (hb : b < d.size) (hn : n < 1000) : ZaH (a : Int) (b : Int) cmp d.toList (n : Int) = some (((order2 (ltC c) d a b n).1 : Int), ((order2 (ltC c) d a b n).2.1 : Int), ((order2 (ltC c) d a b n).2.2 : Int)) ∧
  (order2 (ltC c) d a b n).1 < d.size ∧ (order2 (ltC c) d a b n).2.1 < d.size ∧ (order2 (ltC c) d a b n).2.2 ≤ n + 1 := by
 unfold ZaH order2
 simp only [Zbq ha, Zbq hb, Option.bind_some, hc _ _ (hd.el b hb) (hd.el a ha)]
 by_cases h : c d[b]! d[a]! < 0
 ·rw [if_pos (by simp [h, ltC]), decide_eq_true h, Zap (n := n + 1) (by omega) (by omega)]
  exact ⟨rfl, hb, ha, Nat.le_refl _⟩
 ·rw [if_neg (by simp [h, ltC]), decide_eq_false h]
  exact ⟨rfl, ha, hb, Nat.le_succ _⟩
theorem ZwY (d : Array Int) (hd : OKA P d) (i j k n : Nat) (hi : i < d.size) (hj : j < d.size) (hk : k < d.size) (hn : n < 990) : ZaI (i : Int) (j : Int) (k : Int) cmp d.toList (n : Int) = some (((median (ltC c) d i j k n).1 : Int), ((median (ltC c) d i j k n).2 : Int)) ∧ (median (ltC c) d i j k n).1 < d.size ∧ (median (ltC c) d i j k n).2 ≤ n + 3 := by
 obtain ⟨a1, a2, a3, a4⟩ := Zvd hc d hd i j n hi hj (by omega)
 obtain ⟨b1, b2, b3, b4⟩ := Zvd hc d hd (order2 (ltC c) d i j n).2.1 k (order2 (ltC c) d i j n).2.2 a3 hk (by omega)
 obtain ⟨c1, c2, c3, c4⟩ := Zvd hc d hd (order2 (ltC c) d i j n).1 (order2 (ltC c) d (order2 (ltC c) d i j n).2.1 k (order2 (ltC c) d i j n).2.2).1 (order2 (ltC c) d (order2 (ltC c) d i j n).2.1 k (order2 (ltC c) d i j n).2.2).2.2 a2 b2 (by omega)
 unfold ZaI median
 simp only [a1, b1, c1, Option.bind_some]
 exact ⟨trivial, c3, by omega⟩
theorem Zwq (d : Array Int) (hd : OKA P d) (i n : Nat) (h1 : 1 ≤ i) (hi : i + 1 < d.size) (hn : n < 990) : Z1 (i : Int) cmp d.toList (n : Int) = some (((medianAdjacent (ltC c) d i n).1 : Int), ((medianAdjacent (ltC c) d i n).2 : Int)) ∧ (medianAdjacent (ltC c) d i n).1 < d.size ∧ (medianAdjacent (ltC c) d i n).2 ≤ n + 3 := by
 have hz := hd.sz
 obtain ⟨a1, a2⟩ := ZwY hc d hd (i - 1) i (i + 1) n (by omega) (by omega) hi hn
 unfold Z1 medianAdjacent
 rw [Zap (n := i - 1) (by omega) (by omega), Zap (n := i + 1) (by omega) (by omega), a1]
 exact ⟨rfl, a2⟩
theorem Zye (a b : Nat) (d : Array Int) (hab : a < b) (hb : b ≤ d.size) (hd : OKA P d) : ZJ (a : Int) (b : Int) cmp d.toList = some (((choosePivot (ltC c) d a b).1 : Int), ZoY (choosePivot (ltC c) d a b).2) := by
 have hz := hd.sz
 have e1 : w64 ((b : Int) - (a : Int)) = ((b - a : Nat) : Int) := Zap (by omega) (by omega)
 have e2 : w64 (Int.tdiv ((b - a : Nat) : Int) 4) = (((b - a) / 4 : Nat) : Int) := by
  rw [Int.tdiv_eq_ediv_of_nonneg (by omega)]
  exact Zap (by omega) (by omega)
 have q : ∀ m : Nat, m ≤ 3 → w64 ((((b - a) / 4 : Nat) : Int) * (m : Int)) = (((b - a) / 4 * m : Nat) : Int) := fun m hm => by
  refine Zap (by rw [Int.natCast_mul]) ?_
  have : (b - a) / 4 * m ≤ (b - a) / 4 * 3 := Nat.mul_le_mul_left _ hm
  omega
 have q1 := q 1 (by omega)
 have q2 := q 2 (by omega)
 have q3 := q 3 (by omega)
 have p : ∀ m : Nat, m ≤ 3 → w64 ((a : Int) + (((b - a) / 4 * m : Nat) : Int)) = ((a + (b - a) / 4 * m : Nat) : Int) := fun m hm => by
  refine Zap (by omega) ?_
  have : (b - a) / 4 * m ≤ (b - a) / 4 * 3 := Nat.mul_le_mul_left _ hm
  omega
 have p1 := p 1 (by omega)
 have p2 := p 2 (by omega)
 have p3 := p 3 (by omega)
 unfold ZJ choosePivot
 have q1' : w64 ((((b - a) / 4 : Nat) : Int) * 1) = _ := q1
 have q2' : w64 ((((b - a) / 4 : Nat) : Int) * 2) = _ := q2
 have q3' : w64 ((((b - a) / 4 : Nat) : Int) * 3) = _ := q3
 simp only [e1, e2, q1', q2', q3', p1, p2, p3]
 have z : ((0 : Nat) : Int) = 0 := rfl
 by_cases h8 : b - a ≥ 8
 ·rw [decide_eq_true (show (8 : Int) ≤ ((b - a : Nat) : Int) by omega), if_pos h8]
  by_cases h50 : b - a ≥ 50
  ·obtain ⟨m1, m2, m3⟩ := Zwq hc d hd (a + (b - a) / 4 * 1) 0 (by omega) (by omega) (by omega)
   obtain ⟨n1, n2, n3⟩ := Zwq hc d hd (a + (b - a) / 4 * 2) (medianAdjacent (ltC c) d (a + (b - a) / 4 * 1) 0).2 (by omega) (by omega) (by omega)
   obtain ⟨o1, o2, o3⟩ := Zwq hc d hd (a + (b - a) / 4 * 3) (medianAdjacent (ltC c) d (a + (b - a) / 4 * 2) (medianAdjacent (ltC c) d (a + (b - a) / 4 * 1) 0).2).2 (by omega) (by omega) (by omega)
   obtain ⟨r1, r2, r3⟩ := ZwY hc d hd _ _ _ (medianAdjacent (ltC c) d (a + (b - a) / 4 * 3) (medianAdjacent (ltC c) d (a + (b - a) / 4 * 2) (medianAdjacent (ltC c) d (a + (b - a) / 4 * 1) 0).2).2).2 m2 n2 o2 (by omega)
   rw [z] at m1
   rw [decide_eq_true (show (50 : Int) ≤ ((b - a : Nat) : Int) by omega), if_pos h50]
   simp only [cond_true, m1, n1, o1, r1, Option.bind_some]
   exact Zv6 (_, _) _ _ rfl rfl
  ·obtain ⟨r1, r2, r3⟩ := ZwY hc d hd (a + (b - a) / 4 * 1) (a + (b - a) / 4 * 2) (a + (b - a) / 4 * 3) 0 (by omega) (by omega) (by omega) (by omega)
   rw [z] at r1
   rw [decide_eq_false (show ¬ (50 : Int) ≤ ((b - a : Nat) : Int) by omega), if_neg h50]
   simp only [cond_true, cond_false, r1, Option.bind_some]
   exact Zv6 (_, _) _ _ rfl rfl
 ·rw [decide_eq_false (show ¬ (8 : Int) ≤ ((b - a : Nat) : Int) by omega), if_neg h8]
  rfl
end
theorem ZzK {P : Int → Prop} : ∀ (k i j : Nat) (d : Array Int), j - i ≤ k → j < d.size ∨ j ≤ i → OKA P d → lp ZY ((i : Int), (j : Int), d.toList) = some (reverseLoop i j d).toList ∧ OKA P (reverseLoop i j d) ∧ (reverseLoop i j d).size = d.size := by
 intro k
 induction k with
 | zero =>
  intro i j d hk hj hd
  rw [Zba]
  unfold reverseLoop
  simp only [ZY, ZfP, decide_eq_false (show ¬ i < j by omega), cond_false]
  rw [if_neg (by omega)]
  exact ⟨rfl, hd, rfl⟩
 | succ k ih =>
  intro i j d hk hj hd
  have hz := hd.sz
  rw [Zba]
  unfold reverseLoop
  by_cases h : i < j
  ·have i1 : j < d.size := by omega
   have i2 : i < d.size := by omega
   obtain ⟨y, em⟩ := Zkl (i := i) (x := d[j]!) i1
   have e2 : w64 ((j : Int) - 1) = ((j - 1 : Nat) : Int) := Zap (by omega) (by omega)
   simp only [ZY, ZfP, decide_eq_true h, cond_true, Zbq i1, Zbq i2, Option.bind_some, Int.toNat_natCast, em, Zgu, ZK h (by omega), e2]
   rw [if_pos h]
   have := ih (i + 1) (j - 1) (swp d i j) (by omega) (by rw [Z5]; omega) (hd.swp i2 i1)
   rw [Z5] at this
   exact this
  ·simp only [ZY, ZfP, decide_eq_false h, cond_false]
   rw [if_neg h]
   exact ⟨rfl, hd, rfl⟩
theorem ZwT {P : Int → Prop} (cmp : Int → Int → Option Int) (a b : Nat) (d : Array Int) (hab : a < b) (hb : b ≤ d.size) (hd : OKA P d) : ZI (a : Int) (b : Int) cmp d.toList = some (reverseRange d a b).toList ∧ OKA P (reverseRange d a b) ∧ (reverseRange d a b).size = d.size := by
 have hz := hd.sz
 obtain ⟨h1, h2⟩ := ZzK (b - 1 - a) a (b - 1) d (Nat.le_refl _) (by omega) hd
 unfold ZI reverseRange
 rw [Zap (n := b - 1) (by omega) (by omega)]
 simp only [h1, Option.bind_some]
 exact ⟨trivial, h2⟩
end Go.Proofs.YtnmbdjkbaihicaaDoor
namespace Go.Proofs.YtnmbdjkbaihicaaDoor
open Go Go.Proofs.YtnmbdjkbaihicaaDoorE Go.Sort
set_option linter.unusedVariables false
set_option linter.unusedSimpArgs false
theorem Zrn (n : Int) : IntKind.u64.wrap n = n % 18446744073709551616 := by
 show (if (false && decide (n % 18446744073709551616 ≥ 9223372036854775808)) = true then n % 18446744073709551616 - 18446744073709551616 else n % 18446744073709551616) = _
 simp
theorem Zg2 {n : Nat} (h : n < 18446744073709551616) : IntKind.u64.wrap (n : Int) = (n : Int) := by rw [Zrn]; omega
def ZqW (a b : Int) : Int := IntKind.u64.wrap (BitVec.ofInt IntKind.u64.bits a ^^^ BitVec.ofInt IntKind.u64.bits b).toNat
def Zv3 (a b : Int) : Int := IntKind.u64.wrap (BitVec.ofInt IntKind.u64.bits a &&& BitVec.ofInt IntKind.u64.bits b).toNat
def xs (r : Int) : Int := ZqW (ZqW (ZqW r (IntKind.u64.wrap (r * 2 ^ 13))) (Int.fdiv (ZqW r (IntKind.u64.wrap (r * 2 ^ 13))) (2 ^ 7))) (IntKind.u64.wrap (ZqW (ZqW r (IntKind.u64.wrap (r * 2 ^ 13))) (Int.fdiv (ZqW r (IntKind.u64.wrap (r * 2 ^ 13))) (2 ^ 7)) * 2 ^ 17))
theorem ZqX (u : UInt64) : BitVec.ofInt IntKind.u64.bits (u.toNat : Int) = u.toBitVec := by
 show BitVec.ofInt 64 (u.toNat : Int) = u.toBitVec
 rw [BitVec.ofInt_natCast]
 apply BitVec.eq_of_toNat_eq
 rw [BitVec.toNat_ofNat]
 exact Nat.mod_eq_of_lt u.toNat_lt
theorem ZuR (u v : UInt64) : ZqW (u.toNat : Int) (v.toNat : Int) = ((u ^^^ v).toNat : Int) := by
 unfold ZqW
 rw [ZqX, ZqX]
 exact Zg2 (u ^^^ v).toNat_lt
theorem Zyc (u : UInt64) (k : Nat) (v : UInt64) (hk : v.toNat % 64 = k) : IntKind.u64.wrap ((u.toNat : Int) * 2 ^ k) = ((u <<< v).toNat : Int) := by
 rw [Zrn, UInt64.toNat_shiftLeft, hk, Nat.shiftLeft_eq]
 have : ((2 : Int) ^ k) = ((2 ^ k : Nat) : Int) := by rw [Int.natCast_pow]; rfl
 rw [this]
 omega
theorem ZBm (u : UInt64) (k : Nat) (v : UInt64) (hk : v.toNat % 64 = k) : Int.fdiv (u.toNat : Int) (2 ^ k) = ((u >>> v).toNat : Int) := by
 have e : ((2 : Int) ^ k) = ((2 ^ k : Nat) : Int) := by rw [Int.natCast_pow]; rfl
 rw [UInt64.toNat_shiftRight, hk, Nat.shiftRight_eq_div_pow, e, Int.fdiv_eq_ediv_of_nonneg _ (Int.natCast_nonneg _)]
 exact (Int.natCast_ediv _ _).symm
theorem ZAP (u : UInt64) : xs (u.toNat : Int) = ((xorNext u).toNat : Int) := by
 unfold xs xorNext
 rw [Zyc u 13 13 rfl, ZuR, ZBm _ 7 7 rfl, ZuR, Zyc _ 17 17 rfl, ZuR]
theorem Zxb (u : UInt64) (m : Nat) (hm : m < 18446744073709551616) : Zv3 (u.toNat : Int) (m : Int) = ((u.toNat &&& m : Nat) : Int) := by
 unfold Zv3
 rw [ZqX]
 have : BitVec.ofInt IntKind.u64.bits (m : Int) = BitVec.ofNat 64 m := BitVec.ofInt_natCast _ _
 rw [this]
 show IntKind.u64.wrap ((((u.toBitVec &&& BitVec.ofNat 64 m : BitVec 64)).toNat : Nat) : Int) = _
 rw [BitVec.toNat_and, BitVec.toNat_ofNat, Nat.mod_eq_of_lt hm]
 refine Zg2 (Nat.lt_of_le_of_lt Nat.and_le_left u.toNat_lt)
theorem Zut : ((List.range 1001).all fun n => (match ZdM (IntKind.u64.wrap (n : Int)) with | some v => v == (bitsLen n : Int) | none => false) && ((match Zca (n : Int) with | some v => v == ((1 <<< bitsLen n : Nat) : Int) | none => false) && (decide (1 <<< bitsLen n ≤ 2 * n) || n == 0))) = true := by kernel_rfl
theorem ZvK {n : Nat} (h : n ≤ 1000) : ZdM (IntKind.u64.wrap (n : Int)) = some (bitsLen n : Int) ∧ Zca (n : Int) = some ((1 <<< bitsLen n : Nat) : Int) ∧ (0 < n → 1 <<< bitsLen n ≤ 2 * n) := by
 have := List.all_eq_true.1 Zut n (by simp; omega)
 simp only [Bool.and_eq_true, Bool.or_eq_true, decide_eq_true_eq, beq_iff_eq] at this
 obtain ⟨h1, h2, h3⟩ := this
 refine ⟨?_, ?_, fun h => by omega⟩
 ·split at h1
  ·rename_i v hv; rw [hv, eq_of_beq h1]
  ·cases h1
 ·split at h2
  ·rename_i v hv; rw [hv, eq_of_beq h2]
  ·cases h2
def ZnX (s : Int × List Int × Int) (o : Int) : Option ((Int × List Int × Int) ⊕ List Int) :=
 (ZA s.2.1 o).bind fun x3 => (ZA s.2.1 s.1).bind fun x4 => (ZA (List.set s.2.1 s.1.toNat x3) o).bind fun _ => some (Sum.inl (w64 (s.1 + 1), List.set (List.set s.2.1 s.1.toNat x3) o.toNat x4, xs s.2.2))
theorem Zyl (b c x0 : Int) (s : Int × List Int × Int) : ZaB b c x0 s = (bif (decide (s.1 ≤ (w64 ((w64 (b + (w64 ((w64 (Int.tdiv (w64 (c - b)) 4)) * 2)))) + 1)))) then
  Zdd.bind fun _ => bif decide (w64 (c - b) ≤ w64 (Zv3 (xs s.2.2) (IntKind.u64.wrap (x0 - 1)))) then ZnX s (w64 (b + w64 (w64 (Zv3 (xs s.2.2) (IntKind.u64.wrap (x0 - 1))) - w64 (c - b)))) else ZnX s (w64 (b + w64 (Zv3 (xs s.2.2) (IntKind.u64.wrap (x0 - 1)))))
 else some (.inr s.2.1)) := rfl
theorem Zre {P : Int → Prop} (d : Array Int) (hd : OKA P d) (i o : Nat) (u : UInt64) (hi : i < d.size) (ho : o < d.size) : ZnX ((i : Int), d.toList, (u.toNat : Int)) (o : Int) = some (.inl (((i + 1 : Nat) : Int), (swp d i o).toList, ((xorNext u).toNat : Int))) := by
 have hz := hd.sz
 obtain ⟨y, em⟩ := Zkl (i := i) (x := d[o]!) ho
 unfold ZnX
 simp only [Zbq ho, Zbq hi, Option.bind_some, Int.toNat_natCast, em, Zgu, ZAP, ZK hi (by omega)]
theorem Zqp {P : Int → Prop} (a b : Nat) (d : Array Int) (hd : OKA P d) (h8 : 8 ≤ b - a) (hb : b ≤ d.size) (i : Nat) (hi : i ≤ a + (b - a) / 4 * 2 + 1) (u : UInt64) :
  ZaB (a : Int) (b : Int) ((1 <<< bitsLen (b - a) : Nat) : Int) ((i : Int), d.toList, (u.toNat : Int)) = some (.inl (((i + 1 : Nat) : Int), (breakStep a (b - a) (1 <<< bitsLen (b - a)) (u, d) i).2.toList, ((breakStep a (b - a) (1 <<< bitsLen (b - a)) (u, d) i).1.toNat : Int))) ∧
  OKA P (breakStep a (b - a) (1 <<< bitsLen (b - a)) (u, d) i).2 ∧ (breakStep a (b - a) (1 <<< bitsLen (b - a)) (u, d) i).2.size = d.size := by
 have hz := hd.sz
 obtain ⟨_, _, l3⟩ := ZvK (show b - a ≤ 1000 by omega)
 have l4 := l3 (by omega)
 have l5 : 0 < 1 <<< bitsLen (b - a) := by rw [Nat.shiftLeft_eq, Nat.one_mul]; exact Nat.pow_pos (by omega)
 generalize hm : 1 <<< bitsLen (b - a) = m at *
 have e1 : w64 ((b : Int) - (a : Int)) = ((b - a : Nat) : Int) := Zap (by omega) (by omega)
 have e2 : w64 (Int.tdiv ((b - a : Nat) : Int) 4) = (((b - a) / 4 : Nat) : Int) := by
  rw [Int.tdiv_eq_ediv_of_nonneg (by omega)]
  exact Zap (by omega) (by omega)
 have e3 : w64 ((((b - a) / 4 : Nat) : Int) * 2) = (((b - a) / 4 * 2 : Nat) : Int) := Zap (by omega) (by omega)
 have e4 : w64 ((a : Int) + (((b - a) / 4 * 2 : Nat) : Int)) = ((a + (b - a) / 4 * 2 : Nat) : Int) := Zap (by omega) (by omega)
 have e5 : w64 (((a + (b - a) / 4 * 2 : Nat) : Int) + 1) = ((a + (b - a) / 4 * 2 + 1 : Nat) : Int) := Zap (by omega) (by omega)
 have e6 : IntKind.u64.wrap ((m : Int) - 1) = ((m - 1 : Nat) : Int) := by
  rw [show (m : Int) - 1 = ((m - 1 : Nat) : Int) by omega]; exact Zg2 (by omega)
 have hand : (xorNext u).toNat &&& (m - 1) ≤ m - 1 := Nat.and_le_right
 have e7 : w64 (((xorNext u).toNat &&& (m - 1) : Nat) : Int) = (((xorNext u).toNat &&& (m - 1) : Nat) : Int) := Zap rfl (by omega)
 have ii : i < d.size := by omega
 rw [Zyl]
 unfold breakStep
 simp only [e1, e2, e3, e4, e5, Zgt, decide_eq_true hi, cond_true, ZAP, e6, Zxb _ (m - 1) (by omega), e7]
 generalize (xorNext u).toNat &&& (m - 1) = o at *
 show (bif decide (b - a ≤ o) then _ else _) = _ ∧ _
 by_cases ho : b - a ≤ o
 ·have e8 : w64 ((o : Int) - ((b - a : Nat) : Int)) = ((o - (b - a) : Nat) : Int) := Zap (by omega) (by omega)
  have e9 : w64 ((a : Int) + ((o - (b - a) : Nat) : Int)) = ((a + (o - (b - a)) : Nat) : Int) := Zap (by omega) (by omega)
  rw [decide_eq_true ho, if_pos ho]
  simp only [cond_true, e8, e9]
  exact ⟨Zre d hd i _ u ii (by omega), hd.swp ii (by omega), Z5 _ _ _⟩
 ·have e9 : w64 ((a : Int) + (o : Int)) = ((a + o : Nat) : Int) := Zap (by omega) (by omega)
  rw [decide_eq_false ho, if_neg ho]
  simp only [cond_false, e9]
  exact ⟨Zre d hd i _ u ii (by omega), hd.swp ii (by omega), Z5 _ _ _⟩
theorem ZCc {P : Int → Prop} (cmp : Int → Int → Option Int) (a b : Nat) (d : Array Int) (hab : a ≤ b) (hb : b ≤ d.size) (hd : OKA P d) : Z4 (a : Int) (b : Int) cmp d.toList = some (breakPatterns d a b).toList ∧ OKA P (breakPatterns d a b) ∧ (breakPatterns d a b).size = d.size := by
 have hz := hd.sz
 have e1 : w64 ((b : Int) - (a : Int)) = ((b - a : Nat) : Int) := Zap (by omega) (by omega)
 unfold Z4 breakPatterns
 simp only [e1]
 by_cases h8 : 8 ≤ b - a
 ·obtain ⟨_, l2, _⟩ := ZvK (show b - a ≤ 1000 by omega)
  have e2 : w64 (Int.tdiv ((b - a : Nat) : Int) 4) = (((b - a) / 4 : Nat) : Int) := by
   rw [Int.tdiv_eq_ediv_of_nonneg (by omega)]
   exact Zap (by omega) (by omega)
  have e3 : w64 ((((b - a) / 4 : Nat) : Int) * 2) = (((b - a) / 4 * 2 : Nat) : Int) := Zap (by omega) (by omega)
  have e4 : w64 ((a : Int) + (((b - a) / 4 * 2 : Nat) : Int)) = ((a + (b - a) / 4 * 2 : Nat) : Int) := Zap (by omega) (by omega)
  have e5 : w64 (((a + (b - a) / 4 * 2 : Nat) : Int) - 1) = ((a + (b - a) / 4 * 2 - 1 : Nat) : Int) := Zap (by omega) (by omega)
  have e6 : IntKind.u64.wrap ((b - a : Nat) : Int) = ((UInt64.ofNat (b - a)).toNat : Int) := by
   rw [Zg2 (by omega), UInt64.toNat_ofNat_of_lt' (by show b - a < 2 ^ 64; omega)]
  rw [decide_eq_true (show (8 : Int) ≤ ((b - a : Nat) : Int) by omega), if_pos h8]
  simp only [cond_true, l2, Option.bind_some, e2, e3, e4, e5, e6]
  generalize hi0 : a + (b - a) / 4 * 2 - 1 = i0
  obtain ⟨p1, p2, p3⟩ := Zqp a b d hd h8 hb i0 (by omega) (UInt64.ofNat (b - a))
  generalize breakStep a (b - a) (1 <<< bitsLen (b - a)) (UInt64.ofNat (b - a), d) i0 = r1 at *
  obtain ⟨q1, q2, q3⟩ := Zqp a b r1.2 p2 h8 (by omega) (i0 + 1) (by omega) r1.1
  generalize breakStep a (b - a) (1 <<< bitsLen (b - a)) (r1.1, r1.2) (i0 + 1) = r2 at *
  obtain ⟨s1, s2, s3⟩ := Zqp a b r2.2 q2 h8 (by omega) (i0 + 2) (by omega) r2.1
  generalize breakStep a (b - a) (1 <<< bitsLen (b - a)) (r2.1, r2.2) (i0 + 2) = r3 at *
  rw [Zpc p1, Zpc q1, Zpc s1, ZxK (r := r3.2.toList)]
  ·exact ⟨rfl, s2, by omega⟩
  ·rw [Zyl]
   have e7 : w64 (((a + (b - a) / 4 * 2 : Nat) : Int) + 1) = ((a + (b - a) / 4 * 2 + 1 : Nat) : Int) := Zap (by omega) (by omega)
   simp only [e1, e2, e3, e4, e7, Zgt, decide_eq_false (show ¬ i0 + 2 + 1 ≤ a + (b - a) / 4 * 2 + 1 by omega), cond_false]
 ·rw [decide_eq_false (show ¬ (8 : Int) ≤ ((b - a : Nat) : Int) by omega), if_neg h8]
  exact ⟨rfl, hd, rfl⟩
end Go.Proofs.YtnmbdjkbaihicaaDoor
namespace Go.Proofs.YtnmbdjkbaihicaaDoor
open Go Go.Proofs.YtnmbdjkbaihicaaDoorE Go.Sort
set_option linter.unusedVariables false
set_option linter.unusedSimpArgs false
abbrev ZxZ := Int × Int × Int × Bool × Bool × List Int
noncomputable def Ztz (e : Int → Int → Option Int) (rc : Int → Int → Int → (Int → Int → Option Int) → List Int → Option (List Int)) (a b limit pivot : Int) (x5 : List Int) : Option (ZxZ ⊕ List Int) :=
 (Zp a b pivot e x5).bind fun x9 =>
 match x9 with
 | .inl x9 =>
  bif decide (w64 (x9.1 - a) < w64 (b - x9.1)) then
   bif decide (w64 (Int.tdiv (w64 (b - a)) 8) ≤ w64 (x9.1 - a)) then (rc a x9.1 limit e x9.2).bind fun x10 => some (.inl (w64 (x9.1 + 1), b, limit, true, true, x10))
   else (rc a x9.1 limit e x9.2).bind fun x10 => some (.inl (w64 (x9.1 + 1), b, limit, false, true, x10))
  else
   bif decide (w64 (Int.tdiv (w64 (b - a)) 8) ≤ w64 (b - x9.1)) then (rc (w64 (x9.1 + 1)) b limit e x9.2).bind fun x10 => some (.inl (a, x9.1, limit, true, true, x10))
   else (rc (w64 (x9.1 + 1)) b limit e x9.2).bind fun x10 => some (.inl (a, x9.1, limit, false, true, x10))
 | .inr x9 =>
  bif decide (w64 (x9.1 - a) < w64 (b - x9.1)) then
   bif decide (w64 (Int.tdiv (w64 (b - a)) 8) ≤ w64 (x9.1 - a)) then (rc a x9.1 limit e x9.2).bind fun x10 => some (.inl (w64 (x9.1 + 1), b, limit, true, false, x10))
   else (rc a x9.1 limit e x9.2).bind fun x10 => some (.inl (w64 (x9.1 + 1), b, limit, false, false, x10))
  else
   bif decide (w64 (Int.tdiv (w64 (b - a)) 8) ≤ w64 (b - x9.1)) then (rc (w64 (x9.1 + 1)) b limit e x9.2).bind fun x10 => some (.inl (a, x9.1, limit, true, false, x10))
   else (rc (w64 (x9.1 + 1)) b limit e x9.2).bind fun x10 => some (.inl (a, x9.1, limit, false, false, x10))
noncomputable def Zl5 (e : Int → Int → Option Int) (rc : Int → Int → Int → (Int → Int → Option Int) → List Int → Option (List Int)) (a b limit pivot : Int) (wb wp : Bool) (x5 : List Int) : Option (ZxZ ⊕ List Int) :=
 bif decide (0 < a) then
  (ZA x5 (w64 (a - 1))).bind fun x6 => (ZA x5 pivot).bind fun x7 => (e x6 x7).bind fun x8 =>
  bif decide (x8 < 0) then Ztz e rc a b limit pivot x5
  else (Zy a b pivot e x5).bind fun x18 => some (.inl (x18.1, b, limit, wb, wp, x18.2))
 else Ztz e rc a b limit pivot x5
theorem ZpC (e : Int → Int → Option Int) (rc : Int → Int → Int → (Int → Int → Option Int) → List Int → Option (List Int)) (a b limit : Int) (wb wp : Bool) (l : List Int) : ZN e rc (a, b, limit, wb, wp, l) =
  (bif decide (w64 (b - a) ≤ 12) then (ZR a b e l).bind fun x => some (.inr x)
  else bif limit == 0 then (ZZ a b e l).bind fun x => some (.inr x)
  else (bif wb then bif wp then
    (ZJ a b e l).bind fun x3 =>
    bif x3.2 == 2 then (ZI a b e l).bind fun x4 => (ZL a b e x4).bind fun x5 => (match x5 with | .inl x5 => some (.inr x5) | .inr x5 => Zl5 e rc a b limit (w64 (w64 (b - 1) - w64 (x3.1 - a))) true true x5)
    else bif x3.2 == 1 then (ZL a b e l).bind fun x5 => (match x5 with | .inl x5 => some (.inr x5) | .inr x5 => Zl5 e rc a b limit x3.1 true true x5)
    else Zl5 e rc a b limit x3.1 true true l
   else
    (ZJ a b e l).bind fun x3 =>
    bif x3.2 == 2 then (ZI a b e l).bind fun x4 => Zl5 e rc a b limit (w64 (w64 (b - 1) - w64 (x3.1 - a))) true false x4
    else Zl5 e rc a b limit x3.1 true false l
  else
   (Z4 a b e l).bind fun x0 => (ZJ a b e x0).bind fun x3 =>
    bif x3.2 == 2 then (ZI a b e x0).bind fun x4 => Zl5 e rc a b (w64 (limit - 1)) (w64 (w64 (b - 1) - w64 (x3.1 - a))) false wp x4
    else Zl5 e rc a b (w64 (limit - 1)) x3.1 false wp x0)) := by
 cases wb <;> cases wp <;> rfl
end Go.Proofs.YtnmbdjkbaihicaaDoor
namespace Go.Proofs.YtnmbdjkbaihicaaDoor
open Go Go.Proofs.YtnmbdjkbaihicaaDoorE Go.Sort
set_option linter.unusedVariables false
set_option linter.unusedSimpArgs false
noncomputable def after (e : Int → Int → Option Int) (rc : Int → Int → Int → (Int → Int → Option Int) → List Int → Option (List Int)) (x : Option (ZxZ ⊕ List Int)) : Option (List Int) :=
 match x with | some (.inl s') => lp (ZN e rc) s' | some (.inr r) => some r | none => none
theorem Zv8 (e : Int → Int → Option Int) (rc : Int → Int → Int → (Int → Int → Option Int) → List Int → Option (List Int)) (s : ZxZ) : lp (ZN e rc) s = after e rc (ZN e rc s) := by
 rw [Zba]
 unfold after
 cases ZN e rc s with
 | none => rfl
 | some t => cases t <;> rfl
def Res (P : Int → Prop) (r : Option (List Int)) (X : Array Int) (n : Nat) : Prop := r = some X.toList ∧ OKA P X ∧ X.size = n
section
variable {cmp : Int → Int → Option Int} {c : Int → Int → Int} {P : Int → Prop} (hc : Zrd cmp c P) (hs : SWO (ltC c))
include hc hs
def ZnV (cmp : Int → Int → Option Int) (c : Int → Int → Int) (P : Int → Prop) (rc : Int → Int → Int → (Int → Int → Option Int) → List Int → Option (List Int)) (k : Nat) : Prop :=
 ∀ (a b limit : Nat) (wb wp : Bool) (d : Array Int), b - a ≤ k → a ≤ b → b ≤ d.size → OKA P d → limit ≤ 1000 →
  Res P (rc (a : Int) (b : Int) (limit : Int) cmp d.toList) (pdq (ltC c) d a b limit true true) d.size ∧
  Res P (lp (ZN cmp rc) ((a : Int), (b : Int), (limit : Int), wb, wp, d.toList)) (pdq (ltC c) d a b limit wb wp) d.size
theorem Zr8 {rc : Int → Int → Int → (Int → Int → Option Int) → List Int → Option (List Int)} {k : Nat} (ih : ZnV cmp c P rc k) (a b limit pivot : Nat) (d : Array Int) (hk : b - a ≤ k + 1) (h1 : a ≤ pivot) (h2 : pivot < b) (hb : b ≤ d.size) (hd : OKA P d) (hl : limit ≤ 1000) :
  Res P (after cmp rc (Ztz cmp rc (a : Int) (b : Int) (limit : Int) (pivot : Int) d.toList)) (match partition (ltC c) d a b pivot with
   | (mid, alreadyPartitioned, d4) =>
    if _h : a ≤ mid ∧ mid < b then
     if mid - a < b - mid then pdq (ltC c) (pdq (ltC c) d4 a mid limit true true) (mid + 1) b limit (decide (mid - a ≥ (b - a) / 8)) alreadyPartitioned
     else pdq (ltC c) (pdq (ltC c) d4 (mid + 1) b limit true true) a mid limit (decide (b - mid ≥ (b - a) / 8)) alreadyPartitioned
    else d4) d.size := by
 have hz := hd.sz
 obtain ⟨p1, p2, p3⟩ := ZxX hc a b pivot d h1 h2 hb hd
 obtain ⟨r1, r2, _⟩ := partition_holds (ltC c) hs d a b pivot h1 h2 hb
 unfold Ztz
 rw [p1]
 generalize partition (ltC c) d a b pivot = q at *
 obtain ⟨mid, ap, d4⟩ := q
 dsimp only at *
 rw [dif_pos ⟨r1, r2⟩]
 have e1 : w64 ((mid : Int) - (a : Int)) = ((mid - a : Nat) : Int) := Zap (by omega) (by omega)
 have e2 : w64 ((b : Int) - (mid : Int)) = ((b - mid : Nat) : Int) := Zap (by omega) (by omega)
 have e3 : w64 ((b : Int) - (a : Int)) = ((b - a : Nat) : Int) := Zap (by omega) (by omega)
 have e4 : w64 (Int.tdiv ((b - a : Nat) : Int) 8) = (((b - a) / 8 : Nat) : Int) := by
  rw [Int.tdiv_eq_ediv_of_nonneg (by omega)]
  exact Zap (by omega) (by omega)
 have e5 : w64 ((mid : Int) + 1) = ((mid + 1 : Nat) : Int) := Zap (by omega) (by omega)
 by_cases hlt : mid - a < b - mid
 ·obtain ⟨⟨u1, u2, u3⟩, _⟩ := ih a mid limit true true d4 (by omega) r1 (by omega) p2 hl
  rw [if_pos hlt]
  by_cases ht : mid - a ≥ (b - a) / 8
  ·obtain ⟨_, v1, v2, v3⟩ := ih (mid + 1) b limit true ap (pdq (ltC c) d4 a mid limit true true) (by omega) (by omega) (by omega) u2 hl
   rw [decide_eq_true ht]
   refine ⟨?_, v2, by omega⟩
   cases ap <;> simp only [cond_true, cond_false, Option.bind_some, e1, e2, e3, e4, e5, ZfP, Zgt, decide_eq_true hlt, decide_eq_true (show (b - a) / 8 ≤ mid - a from ht), u1, after] <;> exact v1
  ·obtain ⟨_, v1, v2, v3⟩ := ih (mid + 1) b limit false ap (pdq (ltC c) d4 a mid limit true true) (by omega) (by omega) (by omega) u2 hl
   rw [decide_eq_false ht]
   refine ⟨?_, v2, by omega⟩
   cases ap <;> simp only [cond_true, cond_false, Option.bind_some, e1, e2, e3, e4, e5, ZfP, Zgt, decide_eq_true hlt, decide_eq_false (show ¬ (b - a) / 8 ≤ mid - a from ht), u1, after] <;> exact v1
 ·obtain ⟨⟨u1, u2, u3⟩, _⟩ := ih (mid + 1) b limit true true d4 (by omega) (by omega) (by omega) p2 hl
  rw [if_neg hlt]
  by_cases ht : b - mid ≥ (b - a) / 8
  ·obtain ⟨_, v1, v2, v3⟩ := ih a mid limit true ap (pdq (ltC c) d4 (mid + 1) b limit true true) (by omega) r1 (by omega) u2 hl
   rw [decide_eq_true ht]
   refine ⟨?_, v2, by omega⟩
   cases ap <;> simp only [cond_true, cond_false, Option.bind_some, e1, e2, e3, e4, e5, ZfP, Zgt, decide_eq_false hlt, decide_eq_true (show (b - a) / 8 ≤ b - mid from ht), u1, after] <;> exact v1
  ·obtain ⟨_, v1, v2, v3⟩ := ih a mid limit false ap (pdq (ltC c) d4 (mid + 1) b limit true true) (by omega) r1 (by omega) u2 hl
   rw [decide_eq_false ht]
   refine ⟨?_, v2, by omega⟩
   cases ap <;> simp only [cond_true, cond_false, Option.bind_some, e1, e2, e3, e4, e5, ZfP, Zgt, decide_eq_false hlt, decide_eq_false (show ¬ (b - a) / 8 ≤ b - mid from ht), u1, after] <;> exact v1
theorem Zeo {rc : Int → Int → Int → (Int → Int → Option Int) → List Int → Option (List Int)} {k : Nat} (ih : ZnV cmp c P rc k) (a b limit pivot : Nat) (wb wp : Bool) (d : Array Int) (hk : b - a ≤ k + 1) (h1 : a ≤ pivot) (h2 : pivot < b) (hb : b ≤ d.size) (hd : OKA P d) (hl : limit ≤ 1000) :
  Res P (after cmp rc (Zl5 cmp rc (a : Int) (b : Int) (limit : Int) (pivot : Int) wb wp d.toList)) (if (decide (a > 0) && !ltC c d[a - 1]! d[pivot]!) = true then
    match partitionEqual (ltC c) d a b pivot with
    | (mid, d4) => if _h : a < mid ∧ mid ≤ b then pdq (ltC c) d4 mid b limit wb wp else d4
   else
    match partition (ltC c) d a b pivot with
    | (mid, alreadyPartitioned, d4) =>
     if _h : a ≤ mid ∧ mid < b then
      if mid - a < b - mid then pdq (ltC c) (pdq (ltC c) d4 a mid limit true true) (mid + 1) b limit (decide (mid - a ≥ (b - a) / 8)) alreadyPartitioned
      else pdq (ltC c) (pdq (ltC c) d4 (mid + 1) b limit true true) a mid limit (decide (b - mid ≥ (b - a) / 8)) alreadyPartitioned
     else d4) d.size := by
 have hz := hd.sz
 have pa := Zr8 hc hs ih a b limit pivot d hk h1 h2 hb hd hl
 have ip : pivot < d.size := by omega
 unfold Zl5
 by_cases ha : 0 < a
 ·have ia : a - 1 < d.size := by omega
  have e1 : w64 ((a : Int) - 1) = ((a - 1 : Nat) : Int) := Zap (by omega) (by omega)
  have e3 := hc _ _ (hd.el _ ia) (hd.el _ ip)
  simp only [decide_eq_true (show (0 : Int) < (a : Int) by omega), cond_true, e1, Zbq ia, Zbq ip, Option.bind_some, e3]
  by_cases h : c d[a - 1]! d[pivot]! < 0
  ·rw [decide_eq_true h, if_neg (by simp [ltC, h])]
   exact pa
  ·rw [decide_eq_false h, if_pos (by simp [ltC, h, ha])]
   obtain ⟨q1, q2, q3, q4, q5⟩ := ZuZ hc a b pivot d h1 h2 hb hd
   generalize partitionEqual (ltC c) d a b pivot = q at *
   obtain ⟨mid, d4⟩ := q
   dsimp only at *
   rw [dif_pos ⟨q4, q5⟩]
   obtain ⟨_, v1, v2, v3⟩ := ih mid b limit wb wp d4 (by omega) q5 (by omega) q2 hl
   simp only [cond_false, q1, Option.bind_some, after]
   exact ⟨v1, v2, by omega⟩
 ·rw [if_neg (by simp [ha])]
  simp only [decide_eq_false (show ¬ (0 : Int) < (a : Int) by omega), cond_false]
  exact pa
theorem Zqj {rc : Int → Int → Int → (Int → Int → Option Int) → List Int → Option (List Int)} {k : Nat} (ih : ZnV cmp c P rc k) (a b limit : Nat) (wb wp : Bool) (d : Array Int) (hk : b - a ≤ k + 1) (hab : a ≤ b) (hb : b ≤ d.size) (hd : OKA P d) (hl : limit ≤ 1000) :
  Res P (lp (ZN cmp rc) ((a : Int), (b : Int), (limit : Int), wb, wp, d.toList)) (pdq (ltC c) d a b limit wb wp) d.size := by
 have hz := hd.sz
 have e1 : w64 ((b : Int) - (a : Int)) = ((b - a : Nat) : Int) := Zap (by omega) (by omega)
 rw [Zv8, ZpC, pdq, e1]
 by_cases h12 : b - a ≤ 12
 ·obtain ⟨q1, q2, q3⟩ := Zyh hc a b d hb hab hd
  rw [decide_eq_true (show ((b - a : Nat) : Int) ≤ 12 by omega), if_pos h12]
  simp only [cond_true, q1, Option.bind_some, after]
  exact ⟨rfl, q2, q3⟩
 rw [decide_eq_false (show ¬ ((b - a : Nat) : Int) ≤ 12 by omega), if_neg h12]
 by_cases h0 : limit = 0
 ·obtain ⟨q1, q2, q3⟩ := ZyY hc a b d hab hb hd
  rw [show ((limit : Int) == 0) = true by simp [h0], if_pos h0]
  simp only [cond_false, cond_true, q1, Option.bind_some, after]
  exact ⟨rfl, q2, q3⟩
 rw [show ((limit : Int) == 0) = false by simpa using (show ¬ (limit : Int) = 0 by omega), if_neg h0]
 have hl2 : ∀ x : Nat, (ZoY Hint.unknown == 2) = false ∧ (ZoY Hint.unknown == 1) = false ∧ (ZoY Hint.increasing == 2) = false ∧ (ZoY Hint.increasing == 1) = true ∧ (ZoY Hint.decreasing == 2) = true := fun _ => ⟨rfl, rfl, rfl, rfl, rfl⟩
 obtain ⟨g1, g2, g3, g4, g5⟩ := hl2 0
 have rp : ∀ p : Nat, a ≤ p → p < b → w64 (w64 ((b : Int) - 1) - w64 ((p : Int) - (a : Int))) = (((b - 1) - (p - a) : Nat) : Int) := fun p h1 h2 => by
  have x1 : w64 ((b : Int) - 1) = ((b - 1 : Nat) : Int) := Zap (by omega) (by omega)
  have x2 : w64 ((p : Int) - (a : Int)) = ((p - a : Nat) : Int) := Zap (by omega) (by omega)
  rw [x1, x2]
  exact Zap (by omega) (by omega)
 cases wb with
 | true =>
  have pv := Zye hc a b d (by omega) hb hd
  have pr := choosePivot_holds (ltC c) d a b (by omega)
  simp only [cond_false, cond_true, Bool.not_true, Bool.false_eq_true, if_false, Bool.true_and]
  generalize choosePivot (ltC c) d a b = cp at *
  obtain ⟨p, h⟩ := cp
  dsimp only at *
  cases wp with
  | true =>
   simp only [cond_true, pv, Option.bind_some]
   cases h with
   | decreasing =>
    obtain ⟨v1, v2, v3⟩ := ZwT (P := P) cmp a b d (by omega) hb hd
    obtain ⟨w1, w2, w3⟩ := Zyq hc a b (reverseRange d a b) (by omega) (by omega) v2
    simp only [g5, cond_true, v1, Option.bind_some, w1, if_true, decide_true, Bool.and_self]
    generalize partialInsertionSort (ltC c) (reverseRange d a b) a b = pi at *
    obtain ⟨d3, fin⟩ := pi
    dsimp only at *
    cases fin with
    | true => exact ⟨rfl, w2, w3.trans v3⟩
    | false =>
     rw [rp p pr.1 pr.2]
     have := Zeo hc hs ih a b limit ((b - 1) - (p - a)) true true d3 hk (by omega) (by omega) (by omega) w2 hl
     rw [show d3.size = d.size by omega] at this
     exact this
   | increasing =>
    obtain ⟨w1, w2, w3⟩ := Zyq hc a b d (by omega) hb hd
    simp only [g3, g4, cond_true, cond_false, w1, Option.bind_some, reduceCtorEq, if_false, if_true, decide_true, Bool.and_self]
    generalize partialInsertionSort (ltC c) d a b = pi at *
    obtain ⟨d3, fin⟩ := pi
    dsimp only at *
    cases fin with
    | true => exact ⟨rfl, w2, w3⟩
    | false =>
     have := Zeo hc hs ih a b limit p true true d3 hk pr.1 pr.2 (by omega) w2 hl
     rw [show d3.size = d.size by omega] at this
     exact this
   | unknown =>
    simp only [g1, g2, cond_false, reduceCtorEq, if_false, decide_false, Bool.and_false, Bool.false_eq_true]
    exact Zeo hc hs ih a b limit p true true d hk pr.1 pr.2 hb hd hl
  | false =>
   simp only [cond_false, pv, Option.bind_some, Bool.false_and, Bool.false_eq_true, if_false]
   cases h with
   | decreasing =>
    obtain ⟨v1, v2, v3⟩ := ZwT (P := P) cmp a b d (by omega) hb hd
    simp only [g5, cond_true, v1, Option.bind_some, if_true]
    rw [rp p pr.1 pr.2]
    have := Zeo hc hs ih a b limit ((b - 1) - (p - a)) true false (reverseRange d a b) hk (by omega) (by omega) (by omega) v2 hl
    rw [v3] at this
    exact this
   | increasing =>
    simp only [g3, cond_false, reduceCtorEq, if_false]
    exact Zeo hc hs ih a b limit p true false d hk pr.1 pr.2 hb hd hl
   | unknown =>
    simp only [g1, cond_false, reduceCtorEq, if_false]
    exact Zeo hc hs ih a b limit p true false d hk pr.1 pr.2 hb hd hl
 | false =>
  obtain ⟨b1, b2, b3⟩ := ZCc (P := P) cmp a b d hab hb hd
  have pv := Zye hc a b (breakPatterns d a b) (by omega) (by omega) b2
  have pr := choosePivot_holds (ltC c) (breakPatterns d a b) a b (by omega)
  have el : w64 ((limit : Int) - 1) = ((limit - 1 : Nat) : Int) := Zap (by omega) (by omega)
  simp only [cond_false, b1, Option.bind_some, pv, Bool.not_false, if_true, Bool.false_and, Bool.false_eq_true, if_false, el]
  generalize choosePivot (ltC c) (breakPatterns d a b) a b = cp at *
  obtain ⟨p, h⟩ := cp
  dsimp only at *
  cases h with
  | decreasing =>
   obtain ⟨v1, v2, v3⟩ := ZwT (P := P) cmp a b (breakPatterns d a b) (by omega) (by omega) b2
   simp only [g5, cond_true, v1, Option.bind_some, if_true]
   rw [rp p pr.1 pr.2]
   have := Zeo hc hs ih a b (limit - 1) ((b - 1) - (p - a)) false wp (reverseRange (breakPatterns d a b) a b) hk (by omega) (by omega) (by omega) v2 (by omega)
   rw [v3, b3] at this
   exact this
  | increasing =>
   simp only [g3, cond_false, reduceCtorEq, if_false]
   have := Zeo hc hs ih a b (limit - 1) p false wp (breakPatterns d a b) hk pr.1 pr.2 (by omega) b2 (by omega)
   rw [b3] at this
   exact this
  | unknown =>
   simp only [g1, cond_false, reduceCtorEq, if_false]
   have := Zeo hc hs ih a b (limit - 1) p false wp (breakPatterns d a b) hk pr.1 pr.2 (by omega) b2 (by omega)
   rw [b3] at this
   exact this
theorem ZxU : ∀ (k m : Nat), k ≤ m → ZnV cmp c P (ZU (m + 1)) k := by
 intro k
 induction k with
 | zero =>
  intro m hm
  have base : ∀ (rc : Int → Int → Int → (Int → Int → Option Int) → List Int → Option (List Int)) (a b limit : Nat) (wb wp : Bool) (d : Array Int), b - a ≤ 0 → a ≤ b → b ≤ d.size → OKA P d → Res P (lp (ZN cmp rc) ((a : Int), (b : Int), (limit : Int), wb, wp, d.toList)) (pdq (ltC c) d a b limit wb wp) d.size := by
   intro rc a b limit wb wp d hk hab hb hd
   have hz := hd.sz
   have e1 : w64 ((b : Int) - (a : Int)) = ((b - a : Nat) : Int) := Zap (by omega) (by omega)
   obtain ⟨q1, q2, q3⟩ := Zyh hc a b d hb hab hd
   rw [Zba, ZpC, pdq, e1, decide_eq_true (show ((b - a : Nat) : Int) ≤ 12 by omega), if_pos (by omega)]
   simp only [cond_true, q1, Option.bind_some]
   exact ⟨rfl, q2, q3⟩
  intro a b limit wb wp d hk hab hb hd hl
  refine ⟨?_, base _ a b limit wb wp d hk hab hb hd⟩
  obtain ⟨r1, r2⟩ := base (ZU m) a b limit true true d hk hab hb hd
  refine ⟨?_, r2⟩
  show Zam (ZU m) (a : Int) (b : Int) (limit : Int) cmp d.toList = _
  unfold Zam
  rw [r1]; rfl
 | succ k ih =>
  intro m hm a b limit wb wp d hk hab hb hd hl
  refine ⟨?_, Zqj hc hs (ih m (by omega)) a b limit wb wp d hk hab hb hd hl⟩
  obtain ⟨m', rfl⟩ : ∃ m', m = m' + 1 := ⟨m - 1, by omega⟩
  obtain ⟨r1, r2⟩ := Zqj hc hs (ih m' (by omega)) a b limit true true d hk hab hb hd hl
  refine ⟨?_, r2⟩
  show Zam (ZU (m' + 1)) (a : Int) (b : Int) (limit : Int) cmp d.toList = _
  unfold Zam
  rw [r1]; rfl
theorem ZxV (l : List Int) (hl : l.length ≤ 1000) (hP : ∀ x ∈ l, P x) : ZaF cmp l = some (Sort.sort (ltC c) l.toArray).toList := by
 have hd : OKA P l.toArray := ⟨fun i hi => by
  have hi' : i < l.length := by simpa using hi
  rw [getElem!_pos l.toArray i hi]
  simpa using hP _ (List.getElem_mem hi'), by simpa using hl⟩
 obtain ⟨l1, _, _⟩ := ZvK hl
 have hbl : bitsLen l.length ≤ 1000 := by
  unfold bitsLen
  split
  ·omega
  ·have : Nat.log2 l.length < 11 := (Nat.log2_lt (by assumption)).2 (by omega)
   omega
 have key : ∀ n, l.length + 1 ≤ n → ZU n 0 (l.length : Int) (bitsLen l.length : Int) cmp l = some (Sort.sort (ltC c) l.toArray).toList := by
  intro n hn
  obtain ⟨m, rfl⟩ : ∃ m, n = m + 1 := ⟨n - 1, by omega⟩
  obtain ⟨⟨r1, _⟩, _⟩ := ZxU hc hs l.length m (by omega) 0 l.length (bitsLen l.length) true true l.toArray (by omega) (by omega) (by simp) hd hbl
  refine (r1 : ZU (m + 1) 0 (l.length : Int) (bitsLen l.length : Int) cmp l = _).trans ?_
  unfold Sort.sort
  rw [List.size_toArray]
 unfold ZaF Zdc
 rw [l1, Option.bind_some, ZxH key]
 rfl
theorem Zy0 (l : List Int) (hl : l.length ≤ 1000) (hP : ∀ x ∈ l, P x) : ∃ r : List Int, ZaF cmp l = some r ∧ r.Perm l ∧ r.Pairwise (fun x y => ltC c y x = false) := by
 refine ⟨_, ZxV hc hs l hl hP, ?_⟩
 obtain ⟨⟨h1, _, h2⟩, h3⟩ := sort_sorts (ltC c) hs l.toArray
 generalize Sort.sort (ltC c) l.toArray = d at *
 constructor
 ·have e1 : d.extract 0 l.toArray.size = d := by rw [← h1]; simp
  rw [e1] at h2
  simpa using h2
 ·rw [List.pairwise_iff_getElem]
  intro i j hi hj hij
  have hj' : j < d.size := by simpa using hj
  have hi' : i < d.size := by omega
  have := h3 i j (Nat.zero_le _) hij (by omega)
  rw [getElem!_pos d j hj', getElem!_pos d i hi'] at this
  simpa using this
end
end Go.Proofs.YtnmbdjkbaihicaaDoor
namespace Go.Proofs.YtnmbdjkbaihicaaDoor
open Go Go.Proofs.YtnmbdjkbaihicaaDoorE Go.Sort
set_option linter.unusedVariables false
set_option linter.unusedSimpArgs false
def sel {γ : Type} (p : γ → Bool) (g : Nat → γ → Int) : Nat → List γ → List Int
 | _, [] => []
 | i, x :: l => bif p x then g i x :: sel p g (i + 1) l else sel p g (i + 1) l
theorem ZnU {γ : Type} (p : γ → Bool) (g : Nat → γ → Int) : ∀ (l : List γ) (i : Nat), (sel p g i l).length = l.countP p
 | [], _ => rfl
 | x :: l, i => by
  unfold sel
  have ih := ZnU p g l (i + 1)
  cases h : p x with
  | true => simp [ih, h]
  | false => simp [ih, h]
theorem ZlW {γ : Type} (p : γ → Bool) (g : Nat → γ → Int) (z : Int) : ∀ (l : List γ) (i : Nat), z ∈ sel p g i l ↔ ∃ j x, l[j]? = some x ∧ p x = true ∧ z = g (i + j) x
 | [], i => by simp [sel]
 | x :: l, i => by
  have ih := ZlW p g z l (i + 1)
  have key : (∃ j y, (x :: l)[j]? = some y ∧ p y = true ∧ z = g (i + j) y) ↔ (p x = true ∧ z = g i x) ∨ ∃ j y, l[j]? = some y ∧ p y = true ∧ z = g (i + 1 + j) y := by
   constructor
   ·rintro ⟨j, y, h1, h2, h3⟩
    cases j with
    | zero => left; simp at h1; subst h1; exact ⟨h2, h3⟩
    | succ j => right; exact ⟨j, y, by simpa using h1, h2, by rw [h3]; congr 1; omega⟩
   ·rintro (⟨h2, h3⟩ | ⟨j, y, h1, h2, h3⟩)
    ·exact ⟨0, x, rfl, h2, h3⟩
    ·exact ⟨j + 1, y, by simpa using h1, h2, by rw [h3]; congr 1; omega⟩
  rw [key]
  unfold sel
  cases h : p x with
  | true => simp [ih]
  | false => simp [ih]
theorem ZoQ {γ : Type} (l : List γ) (hl : l.length ≤ 1000) (p : γ → Bool) (g : Nat → γ → Int) (step : Int × List Int → Option ((Int × List Int) ⊕ List Int))
  (h1 : ∀ i x s, i < l.length → l[i]? = some x → step ((i : Int), s) = (bif p x then (bif Nat.ble (s.length + 1) lim then some (.inl (((i + 1 : Nat) : Int), s ++ [g i x])) else none) else some (.inl (((i + 1 : Nat) : Int), s))))
  (h2 : ∀ s, step ((l.length : Int), s) = some (.inr s)) (s : List Int) (hs : s.length ≤ 1000000) : lp step (0, s) = some (s ++ sel p g 0 l) := by
 have key := ZqR l step (fun i s => ((i : Int), s)) (fun i x s => bif p x then (bif Nat.ble (s.length + 1) lim then some (.inl (s ++ [g i x])) else none) else some (.inl s)) (fun s => some s) (fun i x s hi hx => by
   rw [h1 i x s hi hx]
   cases p x <;> cases Nat.ble (s.length + 1) lim <;> rfl) (fun s => h2 s) s
 refine (key : lp step (0, s) = _).trans ?_
 have : ∀ (l : List γ) (i : Nat) (s : List Int), s.length + l.length ≤ 1001000 → ZmK (fun i x s => bif p x then (bif Nat.ble (s.length + 1) lim then some (Sum.inl (s ++ [g i x])) else (none : Option (List Int ⊕ List Int))) else some (.inl s)) (fun s => some s) i l s = some (s ++ sel p g i l) := by
  intro l
  induction l with
  | nil => intro i s _; simp [ZmK, sel]
  | cons x l ih =>
   intro i s hb
   rw [List.length_cons] at hb
   unfold ZmK sel
   cases p x with
   | true =>
    rw [ZiM (show s.length + 1 ≤ 1073741824 by omega)]
    simp only [cond_true]
    rw [ih (i + 1) (s ++ [g i x]) (by rw [List.length_append, List.length_singleton]; omega)]
    simp
   | false =>
    simp only [cond_false]
    rw [ih (i + 1) s (by omega)]
 exact this l 0 s (by omega)
theorem Zo1 (k : Int → Int) : ∀ (l m : List Int), l.Pairwise (fun x y => k x < k y) → m.Pairwise (fun x y => k x < k y) → (∀ z, z ∈ l ↔ z ∈ m) → l = m
 | [], [], _, _, _ => rfl
 | [], y :: m, _, _, h => absurd ((h y).2 (by simp)) (by simp)
 | x :: l, [], _, _, h => absurd ((h x).1 (by simp)) (by simp)
 | x :: l, y :: m, h1, h2, h => by
  rw [List.pairwise_cons] at h1 h2
  have hxy : x = y := by
   rcases List.mem_cons.1 ((h x).1 (by simp)) with e | e
   ·exact e
   ·rcases List.mem_cons.1 ((h y).2 (by simp)) with e2 | e2
    ·exact e2.symm
    ·have := h2.1 _ e
     have := h1.1 _ e2
     omega
  subst hxy
  congr 1
  refine Zo1 k l m h1.2 h2.2 fun z => ?_
  constructor
  ·intro hz
   rcases List.mem_cons.1 ((h z).1 (by simp [hz])) with e | e
   ·subst e
    have := h1.1 _ hz
    omega
   ·exact e
  ·intro hz
   rcases List.mem_cons.1 ((h z).2 (by simp [hz])) with e | e
   ·subst e
    have := h2.1 _ hz
    omega
   ·exact e
structure ZrW (d : Zh) : Prop where
 w : ∀ p ∈ d.parts, 1 ≤ p.work ∧ p.work ≤ 100
 e : ∀ x ∈ d.edges, two d.parts.length x.src x.dst = true
 f : ∀ x ∈ d.futures, two d.parts.length x.maker x.user = true ∧ 1 ≤ x.pos ∧ x.pos ≤ Zda d.parts x.user - 1
 ne : ∀ (i j : Nat) (x y : Zs), i < j → d.futures[i]? = some x → d.futures[j]? = some y → ¬ (x.user = y.user ∧ x.pos = y.pos)
theorem Zs1 {d : Zh} (h : Zb4 d = 0) : ZrW d := by
 unfold Zb4 at h
 have all : Zku d = true ∧ Zkr d = true ∧ d.parts.any ZdQ = false ∧ Zfo (Zd5 d) 0 d.edges = false ∧ Zfo (Zb6 d) 0 d.futures = false := by
  revert h
  cases Zku d <;> cases Zkr d <;> cases d.parts.any ZdQ <;> cases Zfo (Zd5 d) 0 d.edges <;> cases Zfo (Zb6 d) 0 d.futures <;> simp
 obtain ⟨_, _, h3, h4, h5⟩ := all
 have he : ∀ (i : Nat) x, d.edges[i]? = some x → Zd5 d i x = false := fun i x hx => by
  cases hb : Zd5 d i x with
  | false => rfl
  | true => rw [(ZiI _ _ 0).2 ⟨i, x, hx, by simpa using hb⟩] at h4; cases h4
 have hf : ∀ (i : Nat) x, d.futures[i]? = some x → Zb6 d i x = false := fun i x hx => by
  cases hb : Zb6 d i x with
  | false => rfl
  | true => rw [(ZiI _ _ 0).2 ⟨i, x, hx, by simpa using hb⟩] at h5; cases h5
 refine ⟨Zo3 h3, fun x hx => ?_, fun x hx => ?_, fun i j x y hij hx hy => ?_⟩
 ·obtain ⟨i, hi⟩ := List.getElem?_of_mem hx
  have := he i x hi
  unfold Zd5 at this
  simp only [Bool.or_eq_false_iff, Bool.not_eq_false'] at this
  exact this.1
 ·obtain ⟨i, hi⟩ := List.getElem?_of_mem hx
  have := hf i x hi
  unfold Zb6 ZbU at this
  simp only [Bool.or_eq_false_iff, Bool.not_eq_false', Bool.and_eq_true, decide_eq_true_eq] at this
  exact ⟨this.1, this.2.1.1, this.2.1.2⟩
 ·rintro ⟨h1, h2⟩
  have := hf j y hy
  unfold Zb6 at this
  simp only [Bool.or_eq_false_iff] at this
  have h6 := List.any_eq_false.1 this.2.2 x (List.mem_of_getElem? (i := i) (by rw [List.getElem?_take_of_lt hij]; exact hx))
  unfold again at h6
  simp [h1, h2] at h6
theorem Zm3 {d : Zh} (g : ZrW d) (u : Int) : Zda d.parts u ≤ 100 := by
 unfold Zda
 split
 ·rename_i p hp; exact (g.w p (List.mem_of_getElem? hp)).2
 ·omega
def ZgW (fs : List Zs) (z : Int) : Int := match fs[z.toNat]? with | some f => f.pos | none => 0
def Zpp (d : Zh) (u : Int) : List Int := sel (fun f : Zs => f.user == u) (fun i _ => (i : Int)) 0 d.futures
theorem Zkf (d : Zh) (u z : Int) : z ∈ Zpp d u ↔ ∃ (i : Nat) (f : Zs), d.futures[i]? = some f ∧ f.user = u ∧ z = (i : Int) := by
 unfold Zpp
 rw [ZlW]
 simp
theorem ZoP (d : Zh) (u : Int) : (Zpp d u).Pairwise (fun x y => x < y) := by
 have : ∀ (l : List Zs) (i : Nat), (sel (fun f : Zs => f.user == u) (fun i _ => (i : Int)) i l).Pairwise (fun x y => x < y) ∧ ∀ z ∈ sel (fun f : Zs => f.user == u) (fun i _ => (i : Int)) i l, (i : Int) ≤ z := by
  intro l
  induction l with
  | nil => intro i; simp [sel]
  | cons x l ih =>
   intro i
   obtain ⟨h1, h2⟩ := ih (i + 1)
   unfold sel
   cases x.user == u with
   | true =>
    simp only [cond_true, List.pairwise_cons, List.mem_cons]
    refine ⟨⟨fun z hz => ?_, h1⟩, ?_⟩
    ·have := h2 z hz; omega
    ·rintro z (rfl | hz)
     ·exact Int.le_refl _
     ·have := h2 z hz; omega
   | false =>
    simp only [cond_false]
    exact ⟨h1, fun z hz => by have := h2 z hz; omega⟩
 exact (this d.futures 0).1
structure ZbS (d : Zh) (u : Int) (r : List Int) : Prop where
 mem : ∀ z, z ∈ r ↔ ∃ (i : Nat) (f : Zs), d.futures[i]? = some f ∧ f.user = u ∧ z = (i : Int)
 rise : r.Pairwise (fun x y => ZgW d.futures x < ZgW d.futures y)
theorem ZbS.eq {d : Zh} {u : Int} {r s : List Int} (h1 : ZbS d u r) (h2 : ZbS d u s) : r = s := Zo1 (ZgW d.futures) r s h1.rise h2.rise fun z => by rw [h1.mem, h2.mem]
theorem Zr2 {l : List Int} {p q : Int → Int → Prop} (h : l.Pairwise p) (hq : ∀ x y, x ∈ l → y ∈ l → p x y → q x y) : l.Pairwise q := by
 rw [List.pairwise_iff_getElem] at h ⊢
 exact fun i j hi hj hij => hq _ _ (List.getElem_mem hi) (List.getElem_mem hj) (h i j hi hj hij)
theorem ZvM {d : Zh} (g : ZrW d) {u x y : Int} (hx : ∃ (i : Nat) (f : Zs), d.futures[i]? = some f ∧ f.user = u ∧ x = (i : Int)) (hy : ∃ (i : Nat) (f : Zs), d.futures[i]? = some f ∧ f.user = u ∧ y = (i : Int)) (hne : x ≠ y) : ZgW d.futures x ≠ ZgW d.futures y := by
 obtain ⟨i, f, h1, h2, rfl⟩ := hx
 obtain ⟨j, e, h3, h4, rfl⟩ := hy
 intro he
 unfold ZgW at he
 rw [Int.toNat_natCast, Int.toNat_natCast, h1, h3] at he
 simp only at he
 rcases Nat.lt_trichotomy i j with h | h | h
 ·exact g.ne i j f e h h1 h3 ⟨h2.trans h4.symm, he⟩
 ·exact hne (by rw [h])
 ·exact g.ne j i e f h h3 h1 ⟨h4.trans h2.symm, he.symm⟩
theorem Zuq {d : Zh} (g : ZrW d) : Zrd (fun z0 z1 => Zq z0 z1 d.futures) (fun x y => ZgW d.futures x - ZgW d.futures y) (fun z => 0 ≤ z ∧ z.toNat < d.futures.length) := by
 intro x y hx hy
 have b : ∀ z : Int, z.toNat < d.futures.length → ∃ f, d.futures[z.toNat]? = some f ∧ ZgW d.futures z = f.pos ∧ 1 ≤ f.pos ∧ f.pos ≤ 100 := fun z hz => by
  have hm := List.getElem_mem hz
  have := g.f _ hm
  have hw := Zm3 g d.futures[z.toNat].user
  exact ⟨d.futures[z.toNat], List.getElem?_eq_getElem hz, by unfold ZgW; rw [List.getElem?_eq_getElem hz], this.2.1, by omega⟩
 obtain ⟨f, f1, f2, f3, f4⟩ := b x hx.2
 obtain ⟨e, e1, e2, e3, e4⟩ := b y hy.2
 show Zq x y d.futures = some (ZgW d.futures x - ZgW d.futures y)
 unfold Zq
 rw [ZqV hx.1 f1, ZqV hy.1 e1]
 simp only [Option.bind_some]
 rw [f2, e2, Zcd (by omega) (by omega)]
theorem Zw9 (k : Int → Int) : SWO (ltC fun x y => k x - k y) := by
 refine ⟨fun x => ?_, fun x y z h1 h2 => ?_, fun x y z h1 h2 => ?_⟩
 ·show decide (k x - k x < 0) = false
  exact decide_eq_false (by omega)
 ·simp only [ltC, decide_eq_true_eq] at *
  omega
 ·simp only [ltC, decide_eq_false_iff_not] at *
  omega
theorem ZpU (d : Zh) (h : Zd8 d) (hf : d.futures.length ≤ 1000) (hc : Zb4 d = 0) (u : Int) : ∃ r, ZeP d u = some r ∧ ZbS d u r := by
 have g := Zs1 hc
 have key := ZoQ d.futures hf (fun f : Zs => f.user == u) (fun i _ => (i : Int)) (ZcS d u) (fun i x s hi hx => by
   simp only [ZcS, ZdC hi, Z6 hx, Option.bind_some, ZK hi h.f, cond_true]) (fun s => by simp only [ZcS, ZdB]; rfl) [] (by simp)
 have hP : ∀ x ∈ Zpp d u, 0 ≤ x ∧ x.toNat < d.futures.length := fun x hx => by
  obtain ⟨i, f, h1, h2, rfl⟩ := (Zkf d u x).1 hx
  have := (List.getElem?_eq_some_iff.1 h1).1
  exact ⟨by omega, by simpa using this⟩
 have hlen : (Zpp d u).length ≤ 1000 := by
  unfold Zpp
  rw [ZnU]
  exact Nat.le_trans List.countP_le_length hf
 obtain ⟨r, h1, h2, h3⟩ := Zy0 (Zuq g) (Zw9 _) (Zpp d u) hlen hP
 refine ⟨r, ?_, ?_, ?_⟩
 ·unfold ZeP
  rw [ZqN d h, hc]
  simp only [Option.bind_some, bne_self_eq_false, cond_false]
  rw [key, List.nil_append, Option.bind_some]
  show (ZaF (fun z0 z1 => Zq z0 z1 d.futures) (Zpp d u)).bind _ = _
  rw [h1]
  rfl
 ·exact fun z => by rw [h2.mem_iff, Zkf]
 ·have nd : r.Pairwise (fun x y => x ≠ y) := (h2.pairwise_iff (fun h => Ne.symm h)).2 ((ZoP d u).imp fun h => by omega)
  refine Zr2 (h3.and nd) fun x y hx hy hp => ?_
  have a := (Zkf d u x).1 (h2.mem_iff.1 hx)
  have b := (Zkf d u y).1 (h2.mem_iff.1 hy)
  have h4 := ZvM g a b hp.2
  have h5 := hp.1
  simp only [ltC, decide_eq_false_iff_not] at h5
  omega
def ZiU (fs : List Zs) (z : Int) : Int := match fs[z.toNat]? with | some f => f.maker | none => 0
def Zoh (d : Zh) (u : Int) (r : List Int) : List Int := sel (fun e : ZM => e.dst == u) (fun _ e => e.src) 0 d.edges ++ r.map (ZiU d.futures)
theorem ZqT {γ : Type} (k : γ → Int) : ∀ (l : List γ) (i : Nat), sel (fun _ => true) (fun _ x => k x) i l = l.map k
 | [], _ => rfl
 | x :: l, i => by unfold sel; rw [ZqT k l]; rfl
theorem ZoE (d : Zh) (r s : List Int) (hr : r.length ≤ 1000) (hs : s.length ≤ 1000000) (hP : ∀ x ∈ r, 0 ≤ x ∧ x.toNat < d.futures.length) (step : Int × List Int → Option ((Int × List Int) ⊕ List Int))
  (hstep : ∀ t, step t = (bif (decide (t.1 < (r.length : Int))) then (ZA r t.1).bind fun x6 => (ZA d.futures x6).bind fun x7 => bif (Nat.ble (List.length t.2 + 1) lim) then some (.inl ((w64 (t.1 + 1)), (t.2 ++ [x7.maker]))) else none else some (.inr t.2))) :
  lp step (0, s) = some (s ++ r.map (ZiU d.futures)) := by
 rw [← ZqT (ZiU d.futures) r 0]
 refine ZoQ r hr (fun _ => true) (fun _ x => ZiU d.futures x) step (fun i x s hi hx => ?_) (fun s => ?_) s hs
 ·obtain ⟨p1, p2⟩ := hP x (List.mem_of_getElem? hx)
  rw [hstep]
  have hm : ZiU d.futures x = d.futures[x.toNat].maker := by unfold ZiU; rw [List.getElem?_eq_getElem p2]
  simp only [ZdC hi, Z6 hx, Option.bind_some, ZK hi (show r.length < 9223372036854775808 by omega), cond_true, ZkA p1 p2, hm]
 ·rw [hstep]
  simp only [ZdB, cond_false]
theorem Zrh {d : Zh} {u : Int} {r : List Int} (h : ZbS d u r) : ∀ x ∈ r, 0 ≤ x ∧ x.toNat < d.futures.length := fun x hx => by
 obtain ⟨i, f, h1, h2, rfl⟩ := (h.mem x).1 hx
 have := (List.getElem?_eq_some_iff.1 h1).1
 exact ⟨by omega, by simpa using this⟩
theorem Zum {d : Zh} {u : Int} {r : List Int} (h : ZbS d u r) : r.length = (Zpp d u).length := by
 have nd1 : r.Nodup := h.rise.imp fun hp he => by rw [he] at hp; omega
 have nd2 : (Zpp d u).Nodup := (ZoP d u).imp fun hp he => by omega
 exact ((List.perm_ext_iff_of_nodup nd1 nd2).2 fun z => by rw [h.mem, Zkf]).length_eq
theorem Zkh {d : Zh} {u : Int} {r : List Int} (h : ZbS d u r) : r.length ≤ d.futures.length := by
 rw [Zum h]
 unfold Zpp
 rw [ZnU]
 exact List.countP_le_length
theorem ZmZ (d : Zh) (he : d.edges.length ≤ 1000) (u : Int) (step : Int × List Int → Option ((Int × List Int) ⊕ List Int))
  (hstep : ∀ t, step t = (bif (decide (t.1 < (d.edges.length : Int))) then (ZA d.edges t.1).bind fun x2 => bif (x2.dst == u) then bif (Nat.ble (List.length t.2 + 1) lim) then some (.inl ((w64 (t.1 + 1)), (t.2 ++ [x2.src]))) else none else some (.inl ((w64 (t.1 + 1)), t.2)) else some (.inr t.2))) :
  lp step (0, []) = some (sel (fun e : ZM => e.dst == u) (fun _ e => e.src) 0 d.edges) := by
 have key := ZoQ d.edges he (fun e : ZM => e.dst == u) (fun _ e => e.src) step (fun i x s hi hx => by
   rw [hstep]
   simp only [ZdC hi, Z6 hx, Option.bind_some, ZK hi (show d.edges.length < 9223372036854775808 by omega), cond_true]) (fun s => by rw [hstep]; simp only [ZdB, cond_false]) [] (by simp)
 rwa [List.nil_append] at key
theorem ZiJ {γ : Type} (p : γ → Bool) (g : Nat → γ → Int) (l : List γ) (i : Nat) : (sel p g i l).length ≤ l.length := by rw [ZnU]; exact List.countP_le_length
theorem Zxe (d : Zh) (h : Zd8 d) (he : d.edges.length ≤ 1000) (hf : d.futures.length ≤ 1000) (hc : Zb4 d = 0) (u : Int) {r : List Int} (hr : ZbS d u r) : Ze2 d u = some (Zoh d u r) := by
 obtain ⟨r', h1, h2⟩ := ZpU d h hf hc u
 have := h2.eq hr
 subst this
 have k1 := ZmZ d he u (Zfu d u) (fun t => rfl)
 have k2 := ZoE d r' (sel (fun e : ZM => e.dst == u) (fun _ e => e.src) 0 d.edges) (Nat.le_trans (Zkh h2) hf) (Nat.le_trans (ZiJ _ _ _ _) (by omega)) (Zrh h2) (Zfs d r') (fun t => rfl)
 unfold Ze2 Zoh
 rw [ZqN d h, hc]
 simp only [Option.bind_some, bne_self_eq_false, cond_false, k1, h1, k2]
end Go.Proofs.YtnmbdjkbaihicaaDoor
namespace Go.Proofs.YtnmbdjkbaihicaaDoor
open Go Go.Proofs.YtnmbdjkbaihicaaDoorE
set_option linter.unusedVariables false
set_option linter.unusedSimpArgs false
def u32 (n : Int) : Int := n % 4294967296
theorem Zin (n : Int) : 0 ≤ u32 n ∧ u32 n < 4294967296 := by unfold u32; omega
theorem ZoH (n : Int) : IntKind.u32.wrap n = u32 n := by
 unfold IntKind.wrap u32
 rfl
theorem ZkF (n : Int) : ZcE n = some (u32 n) := by
 unfold ZcE
 rw [ZoH]
theorem Zi5 {n : Int} (h1 : -9223372036854775808 ≤ n) (h2 : n < 9223372036854775808) : Zab n = some (u32 n) := by
 unfold Zab u32
 have hm : Int.tmod n 4294967296 = if 0 ≤ n ∨ (4294967296 : Int) ∣ n then n % 4294967296 else n % 4294967296 - 4294967296 := by
  rw [Int.tmod_eq_emod]
  split
  ·exact Int.sub_zero _
  ·rfl
 by_cases h0 : Int.tmod n 4294967296 < 0
 ·rw [decide_eq_true h0]
  have hb : -4294967296 < Int.tmod n 4294967296 := Int.lt_tmod_of_pos n (by omega)
  simp only [cond_true]
  rw [Zcd (by omega) (by omega)]
  rw [hm] at h0 ⊢
  split at h0
  ·omega
  ·rename_i hc
   rw [if_neg hc]
   congr 1
   omega
 ·rw [decide_eq_false h0]
  simp only [cond_false]
  rw [hm] at h0 ⊢
  split at h0
  ·rename_i hc; rw [if_pos hc]
  ·have := Int.emod_lt_of_pos n (show (0 : Int) < 4294967296 by omega)
   omega
theorem Zya {a b m n : Int} (h1 : 0 ≤ a) (h2 : a ≤ m) (h3 : 0 ≤ b) (h4 : b ≤ n) : 0 ≤ a * b ∧ a * b ≤ m * n :=
 ⟨Int.mul_nonneg h1 h3, Int.mul_le_mul h2 h4 h3 (by omega)⟩
theorem Zx1 {a b : Int} (ha : 0 ≤ a ∧ a < 4294967296) (hb : 0 ≤ b ∧ b < 4294967296) : Zde a b = some (u32 (a * b)) := by
 unfold Zde
 have e1 : Int.tdiv a 65536 = a / 65536 := Int.tdiv_eq_ediv_of_nonneg ha.1
 have e2 : Int.tmod a 65536 = a % 65536 := Int.tmod_eq_emod_of_nonneg ha.1
 have hq : 0 ≤ a / 65536 ∧ a / 65536 ≤ 65535 := by omega
 have hr : 0 ≤ a % 65536 ∧ a % 65536 ≤ 65535 := by omega
 have m1 := Zya hq.1 hq.2 hb.1 (show b ≤ 4294967295 by omega)
 have m2 := Zya hr.1 hr.2 hb.1 (show b ≤ 4294967295 by omega)
 rw [e1, e2, Zcd (n := a / 65536) (by omega) (by omega), Zcd (n := a / 65536 * b) (by omega) (by omega), Zi5 (by omega) (by omega)]
 simp only [Option.bind_some]
 have hu := Zin (a / 65536 * b)
 rw [Int.tmod_eq_emod_of_nonneg hu.1]
 have hs : 0 ≤ u32 (a / 65536 * b) % 65536 ∧ u32 (a / 65536 * b) % 65536 ≤ 65535 := by omega
 rw [Zcd (n := u32 (a / 65536 * b) % 65536 * 65536) (by omega) (by omega), Zcd (n := a % 65536 * b) (by omega) (by omega), Zcd (by omega) (by omega), Zi5 (by omega) (by omega)]
 simp only [Option.bind_some]
 congr 1
 have hab : a * b = 65536 * (a / 65536 * b) + a % 65536 * b := by
  conv => lhs; rw [← Int.mul_ediv_add_emod a 65536]
  rw [Int.add_mul, Int.mul_assoc]
 unfold u32
 rw [hab]
 generalize a / 65536 * b = x
 generalize a % 65536 * b = y
 omega
def Zi7 (op : Int) (out v : Int) : Int := if op = 2 then u32 (out + v) else if op = 3 then u32 (out * v) else if op = 4 then (bif decide (out < v) then v else out) else u32 (u32 (out * 31) + v)
theorem Zrp {op out v : Int} (h : 0 ≤ out ∧ out < 4294967296) (hv : 0 ≤ v ∧ v < 4294967296) : 0 ≤ Zi7 op out v ∧ Zi7 op out v < 4294967296 := by
 unfold Zi7
 split
 ·exact Zin _
 split
 ·exact Zin _
 split
 ·cases decide (out < v) <;> simp [h, hv]
 ·exact Zin _
def ZmO (op : Int) : Int → List Int → Int
 | out, [] => out
 | out, v :: l => ZmO op (Zi7 op out (u32 v)) l
theorem ZiL (op : Int) : ∀ (l : List Int) (out : Int), 0 ≤ out ∧ out < 4294967296 → 0 ≤ ZmO op out l ∧ ZmO op out l < 4294967296
 | [], out, h => h
 | v :: l, out, h => ZiL op l _ (Zrp h (Zin v))
theorem ZhC (op : Int) (l : List Int) (step : Int × Int → Option ((Int × Int) ⊕ Int))
  (h1 : ∀ (i : Nat) (x out : Int), i < l.length → l[i]? = some x → 0 ≤ out ∧ out < 4294967296 → step (out, (i : Int)) = some (.inl (Zi7 op out (u32 x), ((i + 1 : Nat) : Int))))
  (h2 : ∀ out, step (out, (l.length : Int)) = some (.inr out)) (out : Int) (ho : 0 ≤ out ∧ out < 4294967296) : lp step (out, 0) = some (ZmO op out l) := by
 have key : ∀ k i : Nat, i + k = l.length → ∀ out, 0 ≤ out ∧ out < 4294967296 → lp step (out, (i : Int)) = some (ZmO op out (l.drop i)) := by
  intro k
  induction k with
  | zero =>
   intro i hi out ho
   have : i = l.length := by omega
   subst this
   rw [Zba, h2, List.drop_length]
   rfl
  | succ k ih =>
   intro i hi out ho
   have hi' : i < l.length := by omega
   rw [Zba, h1 i l[i] out hi' (List.getElem?_eq_getElem hi') ho, List.drop_eq_getElem_cons hi']
   exact ih (i + 1) (by omega) _ (Zrp ho (Zin _))
 have := key l.length 0 (by omega) out ho
 rwa [List.drop_zero] at this
theorem ZxP (a b : Int) : Zfh a b = some (Zi7 2 a b) := by unfold Zfh; rw [ZoH]; rfl
theorem ZxS (a b : Int) : Zff a b = some (Zi7 3 a b) := by unfold Zff; rw [ZoH]; rfl
theorem Zx5 (a b : Int) : Zfq a b = some (Zi7 4 a b) := by unfold Zfq; rfl
theorem ZxA (a b : Int) : Zfe a b = some (Zi7 5 a b) := by unfold Zfe; rw [ZoH, ZoH]; rfl
def places (l : List Int) (k : Nat) : List (Int × Int) := (List.range k).map fun i : Nat => ((i : Int), (l[i]?).getD 0)
theorem Znm (l : List Int) (k : Nat) : places l (k + 1) = places l k ++ [((k : Int), (l[k]?).getD 0)] := by simp [places, List.range_succ]
theorem Zpj {K W : Type} (eq : K → K → Bool) (k : K) (v : W) : ∀ l : List (K × W), (∀ q ∈ l, eq k q.1 = false) → ZmU eq l k v = l ++ [(k, v)]
 | [], _ => rfl
 | (a, u) :: r, h => by
  unfold ZmU
  rw [h (a, u) (by simp)]
  simp only [cond_false, List.cons_append]
  rw [Zpj eq k v r fun q hq => h q (by simp [hq])]
theorem Zns {K W : Type} (eq : K → K → Bool) (k : K) (z : W) : ∀ l : List (K × W), (∀ q ∈ l, eq k q.1 = false) → Zf9 eq l k z = z
 | [], _ => rfl
 | (a, u) :: r, h => by
  unfold Zf9
  rw [h (a, u) (by simp)]
  exact Zns eq k z r fun q hq => h q (by simp [hq])
theorem Zll {K W : Type} (eq : K → K → Bool) (k : K) (z : W) (m : List (K × W)) : ∀ l : List (K × W), (∀ q ∈ l, eq k q.1 = false) → Zf9 eq (l ++ m) k z = Zf9 eq m k z
 | [], _ => rfl
 | (a, u) :: r, h => by
  rw [List.cons_append]
  conv => lhs; unfold Zf9
  rw [h (a, u) (by simp)]
  exact Zll eq k z m r fun q hq => h q (by simp [hq])
theorem Zmm {K W : Type} (eq : K → K → Bool) (k : K) (z : W) (m : List (K × W)) : ∀ l : List (K × W), (∃ q ∈ l, eq k q.1 = true) → Zf9 eq (l ++ m) k z = Zf9 eq l k z
 | [], h => by obtain ⟨q, hq, _⟩ := h; simp at hq
 | (a, u) :: r, h => by
  rw [List.cons_append]
  unfold Zf9
  cases hb : eq k a with
  | true => rfl
  | false =>
   simp only [cond_false]
   refine Zmm eq k z m r ?_
   obtain ⟨q, hq, hk⟩ := h
   rcases List.mem_cons.1 hq with rfl | hq
   ·rw [hb] at hk; cases hk
   ·exact ⟨q, hq, hk⟩
abbrev eqI : Int → Int → Bool := fun ka kb : Int => (ka == kb)
theorem ZmQ (l : List Int) (k : Nat) (j : Int) (hj : j < 0 ∨ (k : Int) ≤ j) : ∀ q ∈ places l k, eqI j q.1 = false := by
 intro q hq
 simp only [places, List.mem_map, List.mem_range] at hq
 obtain ⟨i, hi, rfl⟩ := hq
 show (j == (i : Int)) = false
 simp; omega
theorem Zod (l : List Int) : ∀ (k : Nat) (j : Nat), j < k → Zf9 eqI (places l k) (j : Int) 0 = (l[j]?).getD 0
 | k + 1, j, h => by
  rw [Znm]
  by_cases hk : j = k
  ·subst hk
   rw [Zll eqI _ _ _ _ (ZmQ l j j (.inr (by omega)))]
   show (bif ((j : Int) == (j : Int)) then _ else _) = _
   rw [beq_self_eq_true]; rfl
  ·rw [Zmm eqI _ _ _ _ ⟨((j : Int), (l[j]?).getD 0), by simp only [places, List.mem_map, List.mem_range]; exact ⟨j, by omega, rfl⟩, by simp [eqI]⟩]
   exact Zod l k j (by omega)
theorem Zxh (l : List Int) (hl : l.length ≤ 1000) : lp (Zem l) (0, ([] : List (Int × Int))) = some (places l l.length) := by
 have key : ∀ k i : Nat, i + k = l.length → lp (Zem l) ((i : Int), places l i) = some (places l l.length) := by
  intro k
  induction k with
  | zero =>
   intro i hi
   have : i = l.length := by omega
   subst this
   rw [Zba]
   simp only [Zem, ZdB, cond_false]
  | succ k ih =>
   intro i hi
   have hi' : i < l.length := by omega
   have hx : l[i]? = some l[i] := List.getElem?_eq_getElem hi'
   have e := Zpj eqI (i : Int) l[i] (places l i) (ZmQ l i i (.inr (by omega)))
   have ih' := ih (i + 1) (by omega)
   rw [Znm, hx] at ih'
   rw [Zba]
   simp only [Zem, ZdC hi', Z6 hx, Option.bind_some, cond_true, ZK hi' (show l.length < 9223372036854775808 by omega), e]
   exact ih'
 exact key l.length 0 (by omega)
def opV (p : ZG) (input vals : List Int) : Int :=
 if p.op = 0 then (if p.arg < 0 ∨ (input.length : Int) ≤ p.arg then 0 else u32 ((input[p.arg.toNat]?).getD 0)) else
 if p.op = 1 then u32 p.arg else if p.op < 0 ∨ 5 < p.op then 0 else ZmO p.op (if p.op = 3 then 1 else if p.op = 5 then 7 else 0) vals
theorem ZAc (p : ZG) (input vals : List Int) : 0 ≤ opV p input vals ∧ opV p input vals < 4294967296 := by
 unfold opV
 split
 ·split
  ·omega
  ·exact Zin _
 split
 ·exact Zin _
 split
 ·omega
 ·refine ZiL _ _ _ ?_
  split
  ·omega
  ·split <;> omega
theorem Zvn (p : ZG) (input vals : List Int) (h1 : input.length ≤ 1000) (h2 : vals.length ≤ 1000) : Zix p input vals = some (opV p input vals) := by
 have hl : vals.length < 9223372036854775808 := by omega
 have fin : ∀ x : Int, 0 ≤ x ∧ x < 4294967296 → (some x).bind (fun r => some (w64 r)) = some x := fun x h => by
  show some (w64 x) = some x
  rw [Zcd (by omega) (by omega)]
 unfold Zix opV
 by_cases c0 : p.op = 0
 ·rw [c0, beq_self_eq_true, if_pos rfl]
  simp only [cond_true]
  rw [Zxh input h1]
  simp only [Option.bind_some, ZkF]
  by_cases c : p.arg < 0 ∨ (input.length : Int) ≤ p.arg
  ·rw [if_pos c, Zns eqI _ _ _ (ZmQ input input.length p.arg c)]
   rfl
  ·rw [if_neg c]
   obtain ⟨j, hj⟩ : ∃ j : Nat, p.arg = (j : Int) := ⟨p.arg.toNat, by omega⟩
   rw [hj, Zod input input.length j (by omega), Int.toNat_natCast]
   exact fin _ (Zin _)
 rw [show (p.op == 0) = false by simpa using c0, if_neg c0]
 by_cases c1 : p.op = 1
 ·rw [c1, if_pos rfl]
  simp only [cond_false, beq_self_eq_true, cond_true, ZkF]
  exact fin _ (Zin _)
 rw [show (p.op == 1) = false by simpa using c1, if_neg c1]
 simp only [cond_false]
 by_cases c2 : p.op < 0
 ·rw [decide_eq_true c2, if_pos (.inl c2)]; rfl
 by_cases c3 : 5 < p.op
 ·rw [decide_eq_false c2, decide_eq_true c3, if_pos (.inr c3)]; rfl
 rw [decide_eq_false c2, decide_eq_false c3, if_neg (by omega), Zcd (by omega) (by omega), decide_eq_true (show 0 ≤ p.op - 2 by omega), decide_eq_true (show p.op - 2 < 4 by omega)]
 have hw : ZhG = some () := rfl
 simp only [cond_false, hw, Option.bind_some, Bool.and_self, cond_true]
 have h4 : p.op = 2 ∨ p.op = 3 ∨ p.op = 4 ∨ p.op = 5 := by omega
 rcases h4 with h | h | h | h <;> rw [h]
 ·have := ZhC 2 vals (Zer vals) (fun i x out hi hx ho => by
   simp only [Zer, ZdC hi, Z6 hx, Option.bind_some, cond_true, ZK hi hl, ZkF, ZxP]) (fun out => by simp only [Zer, ZdB]; rfl) 0 (by omega)
  show (lp (Zer vals) (0, 0)).bind _ = _
  rw [this]
  exact fin _ (ZiL _ _ _ (by omega))
 ·have := ZhC 3 vals (ZdA vals) (fun i x out hi hx ho => by
   simp only [ZdA, ZdC hi, Z6 hx, Option.bind_some, cond_true, ZK hi hl, ZkF, ZxS]) (fun out => by simp only [ZdA, ZdB]; rfl) 1 (by omega)
  show (lp (ZdA vals) (1, 0)).bind _ = _
  rw [this]
  exact fin _ (ZiL _ _ _ (by omega))
 ·have := ZhC 4 vals (Zdq vals) (fun i x out hi hx ho => by
   simp only [Zdq, ZdC hi, Z6 hx, Option.bind_some, cond_true, ZK hi hl, ZkF, Zx5]) (fun out => by simp only [Zdq, ZdB]; rfl) 0 (by omega)
  show (lp (Zdq vals) (0, 0)).bind _ = _
  rw [this]
  exact fin _ (ZiL _ _ _ (by omega))
 ·have := ZhC 5 vals (Zdw vals) (fun i x out hi hx ho => by
   simp only [Zdw, ZdC hi, Z6 hx, Option.bind_some, cond_true, ZK hi hl, ZkF, ZxA]) (fun out => by simp only [Zdw, ZdB]; rfl) 7 (by omega)
  show (lp (Zdw vals) (7, 0)).bind _ = _
  rw [this]
  exact fin _ (ZiL _ _ _ (by omega))
theorem Zub (p : ZG) (input vals : List Int) (h1 : input.length ≤ 1000) (h2 : vals.length ≤ 1000) (hp : -9223372036854775808 ≤ p.arg ∧ p.arg < 9223372036854775808) (hi : ∀ x ∈ input, -9223372036854775808 ≤ x ∧ x < 9223372036854775808) (hv : ∀ x ∈ vals, -9223372036854775808 ≤ x ∧ x < 9223372036854775808) :
  Zhg p input vals = some (opV p input vals) := by
 have hl : vals.length < 9223372036854775808 := by omega
 have rd : ∀ (i : Nat) (x : Int), vals[i]? = some x → Zab x = some (u32 x) := fun i x hx => Zi5 (hv x (List.mem_of_getElem? hx)).1 (hv x (List.mem_of_getElem? hx)).2
 unfold Zhg opV
 by_cases c0 : p.op = 0
 ·rw [c0, beq_self_eq_true, if_pos rfl]
  simp only [cond_true]
  by_cases c : p.arg < 0
  ·rw [decide_eq_true c, if_pos (.inl c)]; rfl
  by_cases d : (input.length : Int) ≤ p.arg
  ·rw [decide_eq_false c, decide_eq_true d, if_pos (.inr d)]; rfl
  rw [decide_eq_false c, decide_eq_false d, if_neg (by omega)]
  have hj : p.arg.toNat < input.length := by omega
  have hx : input[p.arg.toNat]? = some input[p.arg.toNat] := List.getElem?_eq_getElem hj
  have hb := hi _ (List.getElem_mem hj)
  rw [ZqV (by omega) hx, hx]
  simp only [cond_false, Option.bind_some, Zi5 hb.1 hb.2]
  rfl
 rw [show (p.op == 0) = false by simpa using c0, if_neg c0]
 by_cases c1 : p.op = 1
 ·rw [c1, if_pos rfl]
  simp only [cond_false, beq_self_eq_true, cond_true, Zi5 hp.1 hp.2]
  rfl
 rw [show (p.op == 1) = false by simpa using c1, if_neg c1]
 simp only [cond_false]
 by_cases c2 : p.op < 0
 ·rw [decide_eq_true c2, if_pos (.inl c2)]; rfl
 by_cases c3 : 5 < p.op
 ·rw [decide_eq_false c2, decide_eq_true c3, if_pos (.inr c3)]; rfl
 rw [decide_eq_false c2, decide_eq_false c3, if_neg (by omega)]
 simp only [cond_false]
 have h4 : p.op = 2 ∨ p.op = 3 ∨ p.op = 4 ∨ p.op = 5 := by omega
 rcases h4 with h | h | h | h <;> rw [h]
 ·have := ZhC 2 vals (Zbc p vals) (fun i x out hi hx ho => by
   have hb := Zin x
   simp only [Zbc, ZdC hi, Z6 hx, Option.bind_some, cond_true, ZK hi hl, rd i x hx, h, beq_self_eq_true, Zcd (show -9223372036854775808 ≤ out + u32 x by omega) (by omega), Zi5 (show -9223372036854775808 ≤ out + u32 x by omega) (by omega)]
   rfl) (fun out => by simp only [Zbc, ZdB]; rfl) 0 (by omega)
  show (lp (Zbc p vals) (0, 0)).bind _ = _
  rw [this]; rfl
 ·have := ZhC 3 vals (ZcZ p vals) (fun i x out hi hx ho => by
   have hb := Zin x
   simp only [ZcZ, ZdC hi, Z6 hx, Option.bind_some, cond_true, ZK hi hl, rd i x hx, h, beq_self_eq_true, show ((3 : Int) == 2) = false from rfl, cond_false, Zx1 ho hb]
   rfl) (fun out => by simp only [ZcZ, ZdB]; rfl) 1 (by omega)
  show (lp (ZcZ p vals) (1, 0)).bind _ = _
  rw [this]; rfl
 ·have := ZhC 4 vals (Zbc p vals) (fun i x out hi hx ho => by
   simp only [Zbc, ZdC hi, Z6 hx, Option.bind_some, cond_true, ZK hi hl, rd i x hx, h, beq_self_eq_true, show ((4 : Int) == 2) = false from rfl, show ((4 : Int) == 3) = false from rfl, cond_false]
   rfl) (fun out => by simp only [Zbc, ZdB]; rfl) 0 (by omega)
  show (lp (Zbc p vals) (0, 0)).bind _ = _
  rw [this]; rfl
 ·have := ZhC 5 vals (Zc0 p vals) (fun i x out hi hx ho => by
   have hb := Zin x
   have e : u32 (out * 31 + u32 x) = u32 (u32 (out * 31) + u32 x) := by unfold u32; omega
   simp only [Zc0, ZdC hi, Z6 hx, Option.bind_some, cond_true, ZK hi hl, rd i x hx, h, beq_self_eq_true, show ((5 : Int) == 2) = false from rfl, show ((5 : Int) == 3) = false from rfl, show ((5 : Int) == 4) = false from rfl, cond_false,
    Zcd (show -9223372036854775808 ≤ out * 31 by omega) (by omega), Zcd (show -9223372036854775808 ≤ out * 31 + u32 x by omega) (by omega), Zi5 (show -9223372036854775808 ≤ out * 31 + u32 x by omega) (by omega), e]
   rfl) (fun out => by simp only [Zc0, ZdB]; rfl) 7 (by omega)
  show (lp (Zc0 p vals) (7, 0)).bind _ = _
  rw [this]; rfl
end Go.Proofs.YtnmbdjkbaihicaaDoor
