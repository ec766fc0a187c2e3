/- What the functions say, as plain text. -/
import Derived.Test.YtakebhleglnpjaaDoorE35
namespace Go.Proofs.YtakebhleglnpjaaDoor
open Go Go.Proofs.YtakebhleglnpjaaDoorE
set_option linter.unusedVariables false

structure DagT where
  work : (List Int)
  edges : (List EdgeT)
  deriving DecidableEq
abbrev dagD (x : DagT) : D := (D.agg [(D.list true (List.map intD x.work)), (D.list true (List.map edgeD x.edges))])
def str0 : ByteArray := ⟨#[0, 1, 2, 2, 3, 3, 3, 3, 4, 4, 4, 4, 4, 4, 4, 4, 5, 5, 5, 5, 5, 5, 5, 5, 5, 5, 5, 5, 5, 5, 5, 5, 6, 6, 6, 6, 6, 6, 6, 6, 6, 6, 6, 6, 6, 6, 6, 6, 6, 6, 6, 6, 6, 6, 6, 6, 6, 6, 6, 6, 6, 6, 6, 6, 7, 7, 7, 7, 7, 7, 7, 7, 7, 7, 7, 7, 7, 7, 7, 7, 7, 7, 7, 7, 7, 7, 7, 7, 7, 7, 7, 7, 7, 7, 7, 7, 7, 7, 7, 7, 7, 7, 7, 7, 7, 7, 7, 7, 7, 7, 7, 7, 7, 7, 7, 7, 7, 7, 7, 7, 7, 7, 7, 7, 7, 7, 7, 7, 8, 8, 8, 8, 8, 8, 8, 8, 8, 8, 8, 8, 8, 8, 8, 8, 8, 8, 8, 8, 8, 8, 8, 8, 8, 8, 8, 8, 8, 8, 8, 8, 8, 8, 8, 8, 8, 8, 8, 8, 8, 8, 8, 8, 8, 8, 8, 8, 8, 8, 8, 8, 8, 8, 8, 8, 8, 8, 8, 8, 8, 8, 8, 8, 8, 8, 8, 8, 8, 8, 8, 8, 8, 8, 8, 8, 8, 8, 8, 8, 8, 8, 8, 8, 8, 8, 8, 8, 8, 8, 8, 8, 8, 8, 8, 8, 8, 8, 8, 8, 8, 8, 8, 8, 8, 8, 8, 8, 8, 8, 8, 8, 8, 8, 8, 8, 8, 8, 8, 8, 8, 8, 8, 8, 8, 8, 8, 8]⟩
def g_law05_awake : Option Bool := some true
noncomputable def g_ref05_Few_L0 (a : DescT) (s0 : Int) : Option (Int ⊕ (Unit ⊕ Unit)) :=
  bif (decide (s0 < (a.barriers.length : Int))) then
    bif (decide (s0 < 9)) then
      (getI a.barriers s0).bind fun x1 =>
      bif (decide (20 < (x1.ins.length : Int))) then
        some (.inr (.inl ()))
      else
        bif (decide (20 < (x1.outs.length : Int))) then
          some (.inr (.inl ()))
        else
          some (.inl (w64 (s0 + 1)))
    else
      some (.inr (.inr ()))
  else
    some (.inr (.inr ()))

noncomputable def g_ref05_Few (a : DescT) : Option Bool :=
  (lp (g_ref05_Few_L0 a) 0).bind fun r2 =>
  match r2 with
  | (.inl r2) =>
    some false
  | (.inr r2) =>
    bif (decide ((a.parts.length : Int) ≤ 20)) then
      bif (decide ((a.edges.length : Int) ≤ 60)) then
        bif (decide ((a.futures.length : Int) ≤ 20)) then
          bif (decide ((a.barriers.length : Int) ≤ 8)) then
            some true
          else
            some false
        else
          some false
      else
        some false
    else
      some false
noncomputable def g_law05_Own_L0 (a : DescT) (s0 : Int × (List BarrierT)) : Option ((Int × (List BarrierT)) ⊕ (List BarrierT)) :=
  bif (decide (s0.1 < (a.barriers.length : Int))) then
    (getI a.barriers s0.1).bind fun x1 =>
    bif (Nat.ble (List.length x1.ins) lim) then
      bif (Nat.ble (List.length x1.outs) lim) then
        bif (Nat.ble (List.length s0.2 + 1) lim) then
          some (.inl ((w64 (s0.1 + 1)), (s0.2 ++ [x1])))
        else
          none
      else
        none
    else
      none
  else
    some (.inr s0.2)

noncomputable def g_law05_Own (a : DescT) : Option (List BarrierT) :=
  bif (Nat.ble (List.length a.parts) lim) then
    bif (Nat.ble (List.length a.edges) lim) then
      bif (Nat.ble (List.length a.futures) lim) then
        (lp (g_law05_Own_L0 a) (0, ([] : (List BarrierT)))).bind fun r2 =>
        some r2
      else
        none
    else
      none
  else
    none
noncomputable def g_desc_within (a : Int) (b : Int) (c : Int) : Option Bool :=
  bif (decide (b ≤ a)) then
    bif (decide (a ≤ c)) then
      some true
    else
      some false
  else
    some false
noncomputable def g_num_Check (a : Int) : Option Int :=
  bif (decide (a < 0)) then
    some 10
  else
    bif (decide (1099511627775 < a)) then
      some 11
    else
      some 0
noncomputable def g_math_bits_OnesCount64 (a : Int) : Option Int :=
  some (IntKind.i64.wrap (BitVec.ofInt IntKind.i64.bits (w64 (IntKind.u64.wrap ((IntKind.u64.wrap ((IntKind.u64.wrap ((IntKind.u64.wrap (BitVec.ofInt IntKind.u64.bits (IntKind.u64.wrap ((Int.fdiv (IntKind.u64.wrap ((IntKind.u64.wrap (BitVec.ofInt IntKind.u64.bits (Int.fdiv (IntKind.u64.wrap ((IntKind.u64.wrap (BitVec.ofInt IntKind.u64.bits (Int.fdiv a (2 ^ 1)) &&& BitVec.ofInt IntKind.u64.bits 6148914691236517205).toNat) + (IntKind.u64.wrap (BitVec.ofInt IntKind.u64.bits a &&& BitVec.ofInt IntKind.u64.bits 6148914691236517205).toNat))) (2 ^ 2)) &&& BitVec.ofInt IntKind.u64.bits 3689348814741910323).toNat) + (IntKind.u64.wrap (BitVec.ofInt IntKind.u64.bits (IntKind.u64.wrap ((IntKind.u64.wrap (BitVec.ofInt IntKind.u64.bits (Int.fdiv a (2 ^ 1)) &&& BitVec.ofInt IntKind.u64.bits 6148914691236517205).toNat) + (IntKind.u64.wrap (BitVec.ofInt IntKind.u64.bits a &&& BitVec.ofInt IntKind.u64.bits 6148914691236517205).toNat))) &&& BitVec.ofInt IntKind.u64.bits 3689348814741910323).toNat))) (2 ^ 4)) + (IntKind.u64.wrap ((IntKind.u64.wrap (BitVec.ofInt IntKind.u64.bits (Int.fdiv (IntKind.u64.wrap ((IntKind.u64.wrap (BitVec.ofInt IntKind.u64.bits (Int.fdiv a (2 ^ 1)) &&& BitVec.ofInt IntKind.u64.bits 6148914691236517205).toNat) + (IntKind.u64.wrap (BitVec.ofInt IntKind.u64.bits a &&& BitVec.ofInt IntKind.u64.bits 6148914691236517205).toNat))) (2 ^ 2)) &&& BitVec.ofInt IntKind.u64.bits 3689348814741910323).toNat) + (IntKind.u64.wrap (BitVec.ofInt IntKind.u64.bits (IntKind.u64.wrap ((IntKind.u64.wrap (BitVec.ofInt IntKind.u64.bits (Int.fdiv a (2 ^ 1)) &&& BitVec.ofInt IntKind.u64.bits 6148914691236517205).toNat) + (IntKind.u64.wrap (BitVec.ofInt IntKind.u64.bits a &&& BitVec.ofInt IntKind.u64.bits 6148914691236517205).toNat))) &&& BitVec.ofInt IntKind.u64.bits 3689348814741910323).toNat))))) &&& BitVec.ofInt IntKind.u64.bits 1085102592571150095).toNat) + (Int.fdiv (IntKind.u64.wrap (BitVec.ofInt IntKind.u64.bits (IntKind.u64.wrap ((Int.fdiv (IntKind.u64.wrap ((IntKind.u64.wrap (BitVec.ofInt IntKind.u64.bits (Int.fdiv (IntKind.u64.wrap ((IntKind.u64.wrap (BitVec.ofInt IntKind.u64.bits (Int.fdiv a (2 ^ 1)) &&& BitVec.ofInt IntKind.u64.bits 6148914691236517205).toNat) + (IntKind.u64.wrap (BitVec.ofInt IntKind.u64.bits a &&& BitVec.ofInt IntKind.u64.bits 6148914691236517205).toNat))) (2 ^ 2)) &&& BitVec.ofInt IntKind.u64.bits 3689348814741910323).toNat) + (IntKind.u64.wrap (BitVec.ofInt IntKind.u64.bits (IntKind.u64.wrap ((IntKind.u64.wrap (BitVec.ofInt IntKind.u64.bits (Int.fdiv a (2 ^ 1)) &&& BitVec.ofInt IntKind.u64.bits 6148914691236517205).toNat) + (IntKind.u64.wrap (BitVec.ofInt IntKind.u64.bits a &&& BitVec.ofInt IntKind.u64.bits 6148914691236517205).toNat))) &&& BitVec.ofInt IntKind.u64.bits 3689348814741910323).toNat))) (2 ^ 4)) + (IntKind.u64.wrap ((IntKind.u64.wrap (BitVec.ofInt IntKind.u64.bits (Int.fdiv (IntKind.u64.wrap ((IntKind.u64.wrap (BitVec.ofInt IntKind.u64.bits (Int.fdiv a (2 ^ 1)) &&& BitVec.ofInt IntKind.u64.bits 6148914691236517205).toNat) + (IntKind.u64.wrap (BitVec.ofInt IntKind.u64.bits a &&& BitVec.ofInt IntKind.u64.bits 6148914691236517205).toNat))) (2 ^ 2)) &&& BitVec.ofInt IntKind.u64.bits 3689348814741910323).toNat) + (IntKind.u64.wrap (BitVec.ofInt IntKind.u64.bits (IntKind.u64.wrap ((IntKind.u64.wrap (BitVec.ofInt IntKind.u64.bits (Int.fdiv a (2 ^ 1)) &&& BitVec.ofInt IntKind.u64.bits 6148914691236517205).toNat) + (IntKind.u64.wrap (BitVec.ofInt IntKind.u64.bits a &&& BitVec.ofInt IntKind.u64.bits 6148914691236517205).toNat))) &&& BitVec.ofInt IntKind.u64.bits 3689348814741910323).toNat))))) &&& BitVec.ofInt IntKind.u64.bits 1085102592571150095).toNat) (2 ^ 8)))) + (Int.fdiv (IntKind.u64.wrap ((IntKind.u64.wrap (BitVec.ofInt IntKind.u64.bits (IntKind.u64.wrap ((Int.fdiv (IntKind.u64.wrap ((IntKind.u64.wrap (BitVec.ofInt IntKind.u64.bits (Int.fdiv (IntKind.u64.wrap ((IntKind.u64.wrap (BitVec.ofInt IntKind.u64.bits (Int.fdiv a (2 ^ 1)) &&& BitVec.ofInt IntKind.u64.bits 6148914691236517205).toNat) + (IntKind.u64.wrap (BitVec.ofInt IntKind.u64.bits a &&& BitVec.ofInt IntKind.u64.bits 6148914691236517205).toNat))) (2 ^ 2)) &&& BitVec.ofInt IntKind.u64.bits 3689348814741910323).toNat) + (IntKind.u64.wrap (BitVec.ofInt IntKind.u64.bits (IntKind.u64.wrap ((IntKind.u64.wrap (BitVec.ofInt IntKind.u64.bits (Int.fdiv a (2 ^ 1)) &&& BitVec.ofInt IntKind.u64.bits 6148914691236517205).toNat) + (IntKind.u64.wrap (BitVec.ofInt IntKind.u64.bits a &&& BitVec.ofInt IntKind.u64.bits 6148914691236517205).toNat))) &&& BitVec.ofInt IntKind.u64.bits 3689348814741910323).toNat))) (2 ^ 4)) + (IntKind.u64.wrap ((IntKind.u64.wrap (BitVec.ofInt IntKind.u64.bits (Int.fdiv (IntKind.u64.wrap ((IntKind.u64.wrap (BitVec.ofInt IntKind.u64.bits (Int.fdiv a (2 ^ 1)) &&& BitVec.ofInt IntKind.u64.bits 6148914691236517205).toNat) + (IntKind.u64.wrap (BitVec.ofInt IntKind.u64.bits a &&& BitVec.ofInt IntKind.u64.bits 6148914691236517205).toNat))) (2 ^ 2)) &&& BitVec.ofInt IntKind.u64.bits 3689348814741910323).toNat) + (IntKind.u64.wrap (BitVec.ofInt IntKind.u64.bits (IntKind.u64.wrap ((IntKind.u64.wrap (BitVec.ofInt IntKind.u64.bits (Int.fdiv a (2 ^ 1)) &&& BitVec.ofInt IntKind.u64.bits 6148914691236517205).toNat) + (IntKind.u64.wrap (BitVec.ofInt IntKind.u64.bits a &&& BitVec.ofInt IntKind.u64.bits 6148914691236517205).toNat))) &&& BitVec.ofInt IntKind.u64.bits 3689348814741910323).toNat))))) &&& BitVec.ofInt IntKind.u64.bits 1085102592571150095).toNat) + (Int.fdiv (IntKind.u64.wrap (BitVec.ofInt IntKind.u64.bits (IntKind.u64.wrap ((Int.fdiv (IntKind.u64.wrap ((IntKind.u64.wrap (BitVec.ofInt IntKind.u64.bits (Int.fdiv (IntKind.u64.wrap ((IntKind.u64.wrap (BitVec.ofInt IntKind.u64.bits (Int.fdiv a (2 ^ 1)) &&& BitVec.ofInt IntKind.u64.bits 6148914691236517205).toNat) + (IntKind.u64.wrap (BitVec.ofInt IntKind.u64.bits a &&& BitVec.ofInt IntKind.u64.bits 6148914691236517205).toNat))) (2 ^ 2)) &&& BitVec.ofInt IntKind.u64.bits 3689348814741910323).toNat) + (IntKind.u64.wrap (BitVec.ofInt IntKind.u64.bits (IntKind.u64.wrap ((IntKind.u64.wrap (BitVec.ofInt IntKind.u64.bits (Int.fdiv a (2 ^ 1)) &&& BitVec.ofInt IntKind.u64.bits 6148914691236517205).toNat) + (IntKind.u64.wrap (BitVec.ofInt IntKind.u64.bits a &&& BitVec.ofInt IntKind.u64.bits 6148914691236517205).toNat))) &&& BitVec.ofInt IntKind.u64.bits 3689348814741910323).toNat))) (2 ^ 4)) + (IntKind.u64.wrap ((IntKind.u64.wrap (BitVec.ofInt IntKind.u64.bits (Int.fdiv (IntKind.u64.wrap ((IntKind.u64.wrap (BitVec.ofInt IntKind.u64.bits (Int.fdiv a (2 ^ 1)) &&& BitVec.ofInt IntKind.u64.bits 6148914691236517205).toNat) + (IntKind.u64.wrap (BitVec.ofInt IntKind.u64.bits a &&& BitVec.ofInt IntKind.u64.bits 6148914691236517205).toNat))) (2 ^ 2)) &&& BitVec.ofInt IntKind.u64.bits 3689348814741910323).toNat) + (IntKind.u64.wrap (BitVec.ofInt IntKind.u64.bits (IntKind.u64.wrap ((IntKind.u64.wrap (BitVec.ofInt IntKind.u64.bits (Int.fdiv a (2 ^ 1)) &&& BitVec.ofInt IntKind.u64.bits 6148914691236517205).toNat) + (IntKind.u64.wrap (BitVec.ofInt IntKind.u64.bits a &&& BitVec.ofInt IntKind.u64.bits 6148914691236517205).toNat))) &&& BitVec.ofInt IntKind.u64.bits 3689348814741910323).toNat))))) &&& BitVec.ofInt IntKind.u64.bits 1085102592571150095).toNat) (2 ^ 8)))) (2 ^ 16)))) + (Int.fdiv (IntKind.u64.wrap ((IntKind.u64.wrap ((IntKind.u64.wrap (BitVec.ofInt IntKind.u64.bits (IntKind.u64.wrap ((Int.fdiv (IntKind.u64.wrap ((IntKind.u64.wrap (BitVec.ofInt IntKind.u64.bits (Int.fdiv (IntKind.u64.wrap ((IntKind.u64.wrap (BitVec.ofInt IntKind.u64.bits (Int.fdiv a (2 ^ 1)) &&& BitVec.ofInt IntKind.u64.bits 6148914691236517205).toNat) + (IntKind.u64.wrap (BitVec.ofInt IntKind.u64.bits a &&& BitVec.ofInt IntKind.u64.bits 6148914691236517205).toNat))) (2 ^ 2)) &&& BitVec.ofInt IntKind.u64.bits 3689348814741910323).toNat) + (IntKind.u64.wrap (BitVec.ofInt IntKind.u64.bits (IntKind.u64.wrap ((IntKind.u64.wrap (BitVec.ofInt IntKind.u64.bits (Int.fdiv a (2 ^ 1)) &&& BitVec.ofInt IntKind.u64.bits 6148914691236517205).toNat) + (IntKind.u64.wrap (BitVec.ofInt IntKind.u64.bits a &&& BitVec.ofInt IntKind.u64.bits 6148914691236517205).toNat))) &&& BitVec.ofInt IntKind.u64.bits 3689348814741910323).toNat))) (2 ^ 4)) + (IntKind.u64.wrap ((IntKind.u64.wrap (BitVec.ofInt IntKind.u64.bits (Int.fdiv (IntKind.u64.wrap ((IntKind.u64.wrap (BitVec.ofInt IntKind.u64.bits (Int.fdiv a (2 ^ 1)) &&& BitVec.ofInt IntKind.u64.bits 6148914691236517205).toNat) + (IntKind.u64.wrap (BitVec.ofInt IntKind.u64.bits a &&& BitVec.ofInt IntKind.u64.bits 6148914691236517205).toNat))) (2 ^ 2)) &&& BitVec.ofInt IntKind.u64.bits 3689348814741910323).toNat) + (IntKind.u64.wrap (BitVec.ofInt IntKind.u64.bits (IntKind.u64.wrap ((IntKind.u64.wrap (BitVec.ofInt IntKind.u64.bits (Int.fdiv a (2 ^ 1)) &&& BitVec.ofInt IntKind.u64.bits 6148914691236517205).toNat) + (IntKind.u64.wrap (BitVec.ofInt IntKind.u64.bits a &&& BitVec.ofInt IntKind.u64.bits 6148914691236517205).toNat))) &&& BitVec.ofInt IntKind.u64.bits 3689348814741910323).toNat))))) &&& BitVec.ofInt IntKind.u64.bits 1085102592571150095).toNat) + (Int.fdiv (IntKind.u64.wrap (BitVec.ofInt IntKind.u64.bits (IntKind.u64.wrap ((Int.fdiv (IntKind.u64.wrap ((IntKind.u64.wrap (BitVec.ofInt IntKind.u64.bits (Int.fdiv (IntKind.u64.wrap ((IntKind.u64.wrap (BitVec.ofInt IntKind.u64.bits (Int.fdiv a (2 ^ 1)) &&& BitVec.ofInt IntKind.u64.bits 6148914691236517205).toNat) + (IntKind.u64.wrap (BitVec.ofInt IntKind.u64.bits a &&& BitVec.ofInt IntKind.u64.bits 6148914691236517205).toNat))) (2 ^ 2)) &&& BitVec.ofInt IntKind.u64.bits 3689348814741910323).toNat) + (IntKind.u64.wrap (BitVec.ofInt IntKind.u64.bits (IntKind.u64.wrap ((IntKind.u64.wrap (BitVec.ofInt IntKind.u64.bits (Int.fdiv a (2 ^ 1)) &&& BitVec.ofInt IntKind.u64.bits 6148914691236517205).toNat) + (IntKind.u64.wrap (BitVec.ofInt IntKind.u64.bits a &&& BitVec.ofInt IntKind.u64.bits 6148914691236517205).toNat))) &&& BitVec.ofInt IntKind.u64.bits 3689348814741910323).toNat))) (2 ^ 4)) + (IntKind.u64.wrap ((IntKind.u64.wrap (BitVec.ofInt IntKind.u64.bits (Int.fdiv (IntKind.u64.wrap ((IntKind.u64.wrap (BitVec.ofInt IntKind.u64.bits (Int.fdiv a (2 ^ 1)) &&& BitVec.ofInt IntKind.u64.bits 6148914691236517205).toNat) + (IntKind.u64.wrap (BitVec.ofInt IntKind.u64.bits a &&& BitVec.ofInt IntKind.u64.bits 6148914691236517205).toNat))) (2 ^ 2)) &&& BitVec.ofInt IntKind.u64.bits 3689348814741910323).toNat) + (IntKind.u64.wrap (BitVec.ofInt IntKind.u64.bits (IntKind.u64.wrap ((IntKind.u64.wrap (BitVec.ofInt IntKind.u64.bits (Int.fdiv a (2 ^ 1)) &&& BitVec.ofInt IntKind.u64.bits 6148914691236517205).toNat) + (IntKind.u64.wrap (BitVec.ofInt IntKind.u64.bits a &&& BitVec.ofInt IntKind.u64.bits 6148914691236517205).toNat))) &&& BitVec.ofInt IntKind.u64.bits 3689348814741910323).toNat))))) &&& BitVec.ofInt IntKind.u64.bits 1085102592571150095).toNat) (2 ^ 8)))) + (Int.fdiv (IntKind.u64.wrap ((IntKind.u64.wrap (BitVec.ofInt IntKind.u64.bits (IntKind.u64.wrap ((Int.fdiv (IntKind.u64.wrap ((IntKind.u64.wrap (BitVec.ofInt IntKind.u64.bits (Int.fdiv (IntKind.u64.wrap ((IntKind.u64.wrap (BitVec.ofInt IntKind.u64.bits (Int.fdiv a (2 ^ 1)) &&& BitVec.ofInt IntKind.u64.bits 6148914691236517205).toNat) + (IntKind.u64.wrap (BitVec.ofInt IntKind.u64.bits a &&& BitVec.ofInt IntKind.u64.bits 6148914691236517205).toNat))) (2 ^ 2)) &&& BitVec.ofInt IntKind.u64.bits 3689348814741910323).toNat) + (IntKind.u64.wrap (BitVec.ofInt IntKind.u64.bits (IntKind.u64.wrap ((IntKind.u64.wrap (BitVec.ofInt IntKind.u64.bits (Int.fdiv a (2 ^ 1)) &&& BitVec.ofInt IntKind.u64.bits 6148914691236517205).toNat) + (IntKind.u64.wrap (BitVec.ofInt IntKind.u64.bits a &&& BitVec.ofInt IntKind.u64.bits 6148914691236517205).toNat))) &&& BitVec.ofInt IntKind.u64.bits 3689348814741910323).toNat))) (2 ^ 4)) + (IntKind.u64.wrap ((IntKind.u64.wrap (BitVec.ofInt IntKind.u64.bits (Int.fdiv (IntKind.u64.wrap ((IntKind.u64.wrap (BitVec.ofInt IntKind.u64.bits (Int.fdiv a (2 ^ 1)) &&& BitVec.ofInt IntKind.u64.bits 6148914691236517205).toNat) + (IntKind.u64.wrap (BitVec.ofInt IntKind.u64.bits a &&& BitVec.ofInt IntKind.u64.bits 6148914691236517205).toNat))) (2 ^ 2)) &&& BitVec.ofInt IntKind.u64.bits 3689348814741910323).toNat) + (IntKind.u64.wrap (BitVec.ofInt IntKind.u64.bits (IntKind.u64.wrap ((IntKind.u64.wrap (BitVec.ofInt IntKind.u64.bits (Int.fdiv a (2 ^ 1)) &&& BitVec.ofInt IntKind.u64.bits 6148914691236517205).toNat) + (IntKind.u64.wrap (BitVec.ofInt IntKind.u64.bits a &&& BitVec.ofInt IntKind.u64.bits 6148914691236517205).toNat))) &&& BitVec.ofInt IntKind.u64.bits 3689348814741910323).toNat))))) &&& BitVec.ofInt IntKind.u64.bits 1085102592571150095).toNat) + (Int.fdiv (IntKind.u64.wrap (BitVec.ofInt IntKind.u64.bits (IntKind.u64.wrap ((Int.fdiv (IntKind.u64.wrap ((IntKind.u64.wrap (BitVec.ofInt IntKind.u64.bits (Int.fdiv (IntKind.u64.wrap ((IntKind.u64.wrap (BitVec.ofInt IntKind.u64.bits (Int.fdiv a (2 ^ 1)) &&& BitVec.ofInt IntKind.u64.bits 6148914691236517205).toNat) + (IntKind.u64.wrap (BitVec.ofInt IntKind.u64.bits a &&& BitVec.ofInt IntKind.u64.bits 6148914691236517205).toNat))) (2 ^ 2)) &&& BitVec.ofInt IntKind.u64.bits 3689348814741910323).toNat) + (IntKind.u64.wrap (BitVec.ofInt IntKind.u64.bits (IntKind.u64.wrap ((IntKind.u64.wrap (BitVec.ofInt IntKind.u64.bits (Int.fdiv a (2 ^ 1)) &&& BitVec.ofInt IntKind.u64.bits 6148914691236517205).toNat) + (IntKind.u64.wrap (BitVec.ofInt IntKind.u64.bits a &&& BitVec.ofInt IntKind.u64.bits 6148914691236517205).toNat))) &&& BitVec.ofInt IntKind.u64.bits 3689348814741910323).toNat))) (2 ^ 4)) + (IntKind.u64.wrap ((IntKind.u64.wrap (BitVec.ofInt IntKind.u64.bits (Int.fdiv (IntKind.u64.wrap ((IntKind.u64.wrap (BitVec.ofInt IntKind.u64.bits (Int.fdiv a (2 ^ 1)) &&& BitVec.ofInt IntKind.u64.bits 6148914691236517205).toNat) + (IntKind.u64.wrap (BitVec.ofInt IntKind.u64.bits a &&& BitVec.ofInt IntKind.u64.bits 6148914691236517205).toNat))) (2 ^ 2)) &&& BitVec.ofInt IntKind.u64.bits 3689348814741910323).toNat) + (IntKind.u64.wrap (BitVec.ofInt IntKind.u64.bits (IntKind.u64.wrap ((IntKind.u64.wrap (BitVec.ofInt IntKind.u64.bits (Int.fdiv a (2 ^ 1)) &&& BitVec.ofInt IntKind.u64.bits 6148914691236517205).toNat) + (IntKind.u64.wrap (BitVec.ofInt IntKind.u64.bits a &&& BitVec.ofInt IntKind.u64.bits 6148914691236517205).toNat))) &&& BitVec.ofInt IntKind.u64.bits 3689348814741910323).toNat))))) &&& BitVec.ofInt IntKind.u64.bits 1085102592571150095).toNat) (2 ^ 8)))) (2 ^ 16)))) (2 ^ 32))))) &&& BitVec.ofInt IntKind.i64.bits 127).toNat)
noncomputable def g_math_bits_OnesCount (a : Int) : Option Int :=
  (g_math_bits_OnesCount64 a).bind fun x0 =>
  some x0
def tz64tab : List Int := [0, 1, 56, 2, 57, 49, 28, 3, 61, 58, 42, 50, 38, 29, 17, 4, 62, 47, 59, 36, 45, 43, 51, 22, 53, 39, 33, 30, 24, 18, 12, 5, 63, 55, 48, 27, 60, 41, 37, 16, 46, 35, 44, 21, 52, 32, 23, 11, 54, 26, 40, 15, 34, 20, 31, 10, 25, 14, 19, 9, 13, 8, 7, 6]
def g_math_bits_TrailingZeros64 (a : Int) : Option Int := some (bif a == 0 then 64 else w64 (tz64tab.getD (Int.fdiv (IntKind.u64.wrap ((IntKind.u64.wrap (BitVec.ofInt IntKind.u64.bits a &&& BitVec.ofInt IntKind.u64.bits (IntKind.u64.wrap (0 - a))).toNat) * 285870213051353865)) (2 ^ (min (Int.toNat 58) IntKind.u64.bits))).toNat 0))
noncomputable def g_math_bits_TrailingZeros (a : Int) : Option Int :=
  (g_math_bits_TrailingZeros64 a).bind fun x0 =>
  some x0
noncomputable def g_num_Two (a : Int) : Option (Int × Bool) :=
  (g_num_Check a).bind fun x0 =>
  bif (x0 != 0) then
    some (0, false)
  else
    (g_math_bits_OnesCount (IntKind.u64.wrap a)).bind fun x1 =>
    bif (x1 != 1) then
      some (0, false)
    else
      (g_math_bits_TrailingZeros (IntKind.u64.wrap a)).bind fun x2 =>
      some (x2, true)
noncomputable def g_desc_part (a : PartT) : Option Bool :=
  (g_desc_within a.op 0 5).bind fun x0 =>
  bif x0 then
    (g_desc_within a.arg 0 2147483647).bind fun x1 =>
    bif x1 then
      (g_desc_within a.work 1 100).bind fun x2 =>
      bif x2 then
        some false
      else
        some true
    else
      some true
  else
    some true
noncomputable def g_slices_IndexFunc_l_Part_Part_L0 (a : (List PartT)) (b : (PartT → Option Bool)) (s0 : Int) : Option (Int ⊕ (Int ⊕ Unit)) :=
  bif (decide (s0 < (a.length : Int))) then
    (getI a s0).bind fun x1 =>
    (b x1).bind fun x2 =>
    bif x2 then
      some (.inr (.inl s0))
    else
      some (.inl (w64 (s0 + 1)))
  else
    some (.inr (.inr ()))

noncomputable def g_slices_IndexFunc_l_Part_Part (a : (List PartT)) (b : (PartT → Option Bool)) : Option Int :=
  (lp (g_slices_IndexFunc_l_Part_Part_L0 a b) 0).bind fun r3 =>
  match r3 with
  | (.inl r3) =>
    some r3
  | (.inr r3) =>
    some (-1)
noncomputable def g_slices_ContainsFunc_l_Part_Part (a : (List PartT)) (b : (PartT → Option Bool)) : Option Bool :=
  (g_slices_IndexFunc_l_Part_Part a b).bind fun x0 =>
  bif (decide (0 ≤ x0)) then
    some true
  else
    some false
noncomputable def g_desc_two (a : DescT) (b : Int) (c : Int) : Option Bool :=
  bif (b != c) then
    (g_desc_within b 0 (w64 ((a.parts.length : Int) - 1))).bind fun x0 =>
    bif x0 then
      (g_desc_within c 0 (w64 ((a.parts.length : Int) - 1))).bind fun x1 =>
      bif x1 then
        some true
      else
        some false
    else
      some false
  else
    some false
noncomputable def g_slices_Index_l_Edge_Edge_L0 (a : (List EdgeT)) (b : EdgeT) (s0 : Int) : Option (Int ⊕ (Int ⊕ Unit)) :=
  bif (decide (s0 < (a.length : Int))) then
    (getI a s0).bind fun x1 =>
    bif ((b.src == x1.src) && ((b.dst == x1.dst) && true)) then
      some (.inr (.inl s0))
    else
      some (.inl (w64 (s0 + 1)))
  else
    some (.inr (.inr ()))

noncomputable def g_slices_Index_l_Edge_Edge (a : (List EdgeT)) (b : EdgeT) : Option Int :=
  (lp (g_slices_Index_l_Edge_Edge_L0 a b) 0).bind fun r2 =>
  match r2 with
  | (.inl r2) =>
    some r2
  | (.inr r2) =>
    some (-1)
noncomputable def g_slices_Contains_l_Edge_Edge (a : (List EdgeT)) (b : EdgeT) : Option Bool :=
  (g_slices_Index_l_Edge_Edge a b).bind fun x0 =>
  bif (decide (0 ≤ x0)) then
    some true
  else
    some false
noncomputable def g_desc_Check_1 (a : FutureT) (b1 : Int) (b2 : Int) : Option Bool :=
  bif (a.user == b1) then
    bif (a.pos == b2) then
      some true
    else
      some false
  else
    some false
noncomputable def g_slices_IndexFunc_l_Future_Future_L0 (a : (List FutureT)) (b : (FutureT → Option Bool)) (s0 : Int) : Option (Int ⊕ (Int ⊕ Unit)) :=
  bif (decide (s0 < (a.length : Int))) then
    (getI a s0).bind fun x1 =>
    (b x1).bind fun x2 =>
    bif x2 then
      some (.inr (.inl s0))
    else
      some (.inl (w64 (s0 + 1)))
  else
    some (.inr (.inr ()))

noncomputable def g_slices_IndexFunc_l_Future_Future (a : (List FutureT)) (b : (FutureT → Option Bool)) : Option Int :=
  (lp (g_slices_IndexFunc_l_Future_Future_L0 a b) 0).bind fun r3 =>
  match r3 with
  | (.inl r3) =>
    some r3
  | (.inr r3) =>
    some (-1)
noncomputable def g_slices_ContainsFunc_l_Future_Future (a : (List FutureT)) (b : (FutureT → Option Bool)) : Option Bool :=
  (g_slices_IndexFunc_l_Future_Future a b).bind fun x0 =>
  bif (decide (0 ≤ x0)) then
    some true
  else
    some false
noncomputable def g_desc_row_L0 (a : DescT) (b : (List Int)) (s0 : Int) : Option (Int ⊕ (Unit ⊕ Unit)) :=
  bif (decide (s0 < (b.length : Int))) then
    (getI b s0).bind fun x1 =>
    (g_desc_within x1 0 (w64 ((a.parts.length : Int) - 1))).bind fun x2 =>
    bif x2 then
      bif (decide (0 < s0)) then
        (getI b (w64 (s0 - 1))).bind fun x3 =>
        bif (decide (x1 ≤ x3)) then
          some (.inr (.inl ()))
        else
          some (.inl (w64 (s0 + 1)))
      else
        some (.inl (w64 (s0 + 1)))
    else
      some (.inr (.inl ()))
  else
    some (.inr (.inr ()))

noncomputable def g_desc_row (a : DescT) (b : (List Int)) : Option Bool :=
  (lp (g_desc_row_L0 a b) 0).bind fun r4 =>
  match r4 with
  | (.inl r4) =>
    some false
  | (.inr r4) =>
    bif (decide (0 < (b.length : Int))) then
      some true
    else
      some false
noncomputable def g_slices_Index_l_int_int_L0 (a : (List Int)) (b : Int) (s0 : Int) : Option (Int ⊕ (Int ⊕ Unit)) :=
  bif (decide (s0 < (a.length : Int))) then
    (getI a s0).bind fun x1 =>
    bif (b == x1) then
      some (.inr (.inl s0))
    else
      some (.inl (w64 (s0 + 1)))
  else
    some (.inr (.inr ()))

noncomputable def g_slices_Index_l_int_int (a : (List Int)) (b : Int) : Option Int :=
  (lp (g_slices_Index_l_int_int_L0 a b) 0).bind fun r2 =>
  match r2 with
  | (.inl r2) =>
    some r2
  | (.inr r2) =>
    some (-1)
noncomputable def g_slices_Contains_l_int_int (a : (List Int)) (b : Int) : Option Bool :=
  (g_slices_Index_l_int_int a b).bind fun x0 =>
  bif (decide (0 ≤ x0)) then
    some true
  else
    some false
noncomputable def g_desc_Check_2 (a : Int) (b1 : (List Int)) : Option Bool :=
  (g_slices_Contains_l_int_int b1 a).bind fun x0 =>
  bif x0 then
    some true
  else
    some false
noncomputable def g_slices_IndexFunc_l_int_int_L0 (a : (List Int)) (b : (Int → Option Bool)) (s0 : Int) : Option (Int ⊕ (Int ⊕ Unit)) :=
  bif (decide (s0 < (a.length : Int))) then
    (getI a s0).bind fun x1 =>
    (b x1).bind fun x2 =>
    bif x2 then
      some (.inr (.inl s0))
    else
      some (.inl (w64 (s0 + 1)))
  else
    some (.inr (.inr ()))

noncomputable def g_slices_IndexFunc_l_int_int (a : (List Int)) (b : (Int → Option Bool)) : Option Int :=
  (lp (g_slices_IndexFunc_l_int_int_L0 a b) 0).bind fun r3 =>
  match r3 with
  | (.inl r3) =>
    some r3
  | (.inr r3) =>
    some (-1)
noncomputable def g_slices_ContainsFunc_l_int_int (a : (List Int)) (b : (Int → Option Bool)) : Option Bool :=
  (g_slices_IndexFunc_l_int_int a b).bind fun x0 =>
  bif (decide (0 ≤ x0)) then
    some true
  else
    some false
noncomputable def g_desc_Check_L0 (a : DescT) (s4 : Int) : Option (Int ⊕ (Unit ⊕ Unit)) :=
  bif (decide (s4 < (a.edges.length : Int))) then
    (getI a.edges s4).bind fun x5 =>
    (g_desc_two a x5.src x5.dst).bind fun x6 =>
    bif x6 then
      bif (decide (0 ≤ s4)) then
        bif (Nat.ble s4.toNat (List.length a.edges)) then
          (g_slices_Contains_l_Edge_Edge (List.take s4.toNat a.edges) x5).bind fun x7 =>
          bif x7 then
            some (.inr (.inl ()))
          else
            some (.inl (w64 (s4 + 1)))
        else
          none
      else
        none
    else
      some (.inr (.inl ()))
  else
    some (.inr (.inr ()))

noncomputable def g_desc_Check_L1 (a : DescT) (s9 : Int) : Option (Int ⊕ (Unit ⊕ Unit)) :=
  bif (decide (s9 < (a.futures.length : Int))) then
    (getI a.futures s9).bind fun x10 =>
    (g_desc_two a x10.maker x10.user).bind fun x11 =>
    bif x11 then
      (getI a.parts x10.user).bind fun x12 =>
      (g_desc_within x10.pos 1 (w64 (x12.work - 1))).bind fun x13 =>
      bif x13 then
        bif (decide (0 ≤ s9)) then
          bif (Nat.ble s9.toNat (List.length a.futures)) then
            (g_slices_ContainsFunc_l_Future_Future (List.take s9.toNat a.futures) (fun z0 => g_desc_Check_1 z0 x10.user x10.pos)).bind fun x14 =>
            bif x14 then
              some (.inr (.inl ()))
            else
              some (.inl (w64 (s9 + 1)))
          else
            none
        else
          none
      else
        some (.inr (.inl ()))
    else
      some (.inr (.inl ()))
  else
    some (.inr (.inr ()))

noncomputable def g_desc_Check_L2 (a : DescT) (s16 : Int) : Option (Int ⊕ (Unit ⊕ Unit)) :=
  bif (decide (s16 < (a.barriers.length : Int))) then
    (getI a.barriers s16).bind fun x17 =>
    (g_desc_row a x17.ins).bind fun x18 =>
    bif x18 then
      (g_desc_row a x17.outs).bind fun x19 =>
      bif x19 then
        (g_slices_ContainsFunc_l_int_int x17.ins (fun z0 => g_desc_Check_2 z0 x17.outs)).bind fun x20 =>
        bif x20 then
          some (.inr (.inl ()))
        else
          some (.inl (w64 (s16 + 1)))
      else
        some (.inr (.inl ()))
    else
      some (.inr (.inl ()))
  else
    some (.inr (.inr ()))

noncomputable def g_desc_Check (a : DescT) : Option Int :=
  (g_desc_within (a.parts.length : Int) 1 16).bind fun x0 =>
  bif x0 then
    bif (decide (48 < (a.edges.length : Int))) then
      some 50
    else
      bif (decide (16 < (a.futures.length : Int))) then
        some 50
      else
        bif (decide (4 < (a.barriers.length : Int))) then
          some 50
        else
          (g_num_Two a.period).bind fun x1 =>
          bif x1.2 then
            bif (decide (4096 < a.period)) then
              some 51
            else
              (g_desc_within a.deadline 1 a.period).bind fun x2 =>
              bif x2 then
                (g_slices_ContainsFunc_l_Part_Part a.parts (fun z0 => g_desc_part z0)).bind fun x3 =>
                bif x3 then
                  some 52
                else
                  (lp (g_desc_Check_L0 a) 0).bind fun r8 =>
                  match r8 with
                  | (.inl r8) =>
                    some 53
                  | (.inr r8) =>
                    (lp (g_desc_Check_L1 a) 0).bind fun r15 =>
                    match r15 with
                    | (.inl r15) =>
                      some 54
                    | (.inr r15) =>
                      (lp (g_desc_Check_L2 a) 0).bind fun r21 =>
                      match r21 with
                      | (.inl r21) =>
                        some 55
                      | (.inr r21) =>
                        some 0
              else
                some 51
          else
            some 51
  else
    some 50
noncomputable def g_ref01_Two_L0 (a : Int) (s0 : Int × Int) : Option ((Int × Int) ⊕ (Int ⊕ Unit)) :=
  bif (decide (s0.2 < 40)) then
    bif (s0.1 == a) then
      some (.inr (.inl s0.2))
    else
      some (.inl ((w64 (2 * s0.1)), (w64 (s0.2 + 1))))
  else
    some (.inr (.inr ()))

noncomputable def g_ref01_Two (a : Int) : Option (Int × Bool) :=
  (lp (g_ref01_Two_L0 a) (1, 0)).bind fun r1 =>
  match r1 with
  | (.inl r1) =>
    some (r1, true)
  | (.inr r1) =>
    some (0, false)
noncomputable def g_ref05_time (a : DescT) : Option Bool :=
  (g_ref01_Two a.period).bind fun x0 =>
  bif x0.2 then
    bif (decide (a.period ≤ 4096)) then
      bif (decide (1 ≤ a.deadline)) then
        bif (decide (a.deadline ≤ a.period)) then
          some true
        else
          some false
      else
        some false
    else
      some false
  else
    some false
noncomputable def g_ref05_parts_L0 (a : DescT) (s0 : Int) : Option (Int ⊕ (Unit ⊕ Unit)) :=
  bif (decide (s0 < (a.parts.length : Int))) then
    (getI a.parts s0).bind fun x1 =>
    bif (decide (x1.op < 0)) then
      some (.inr (.inl ()))
    else
      bif (decide (5 < x1.op)) then
        some (.inr (.inl ()))
      else
        bif (decide (x1.arg < 0)) then
          some (.inr (.inl ()))
        else
          bif (decide (2147483647 < x1.arg)) then
            some (.inr (.inl ()))
          else
            bif (decide (x1.work < 1)) then
              some (.inr (.inl ()))
            else
              bif (decide (100 < x1.work)) then
                some (.inr (.inl ()))
              else
                some (.inl (w64 (s0 + 1)))
  else
    some (.inr (.inr ()))

noncomputable def g_ref05_parts (a : DescT) : Option Bool :=
  (lp (g_ref05_parts_L0 a) 0).bind fun r2 =>
  match r2 with
  | (.inl r2) =>
    some false
  | (.inr r2) =>
    some true
noncomputable def g_ref05_Part (a : DescT) (b : Int) : Option Bool :=
  bif (decide (0 ≤ b)) then
    bif (decide (b < (a.parts.length : Int))) then
      some true
    else
      some false
  else
    some false
noncomputable def g_ref05_edges_L0 (a : DescT) (s0 : Int) (x1 : EdgeT) (s4 : Int) : Option (Int ⊕ (Unit ⊕ Unit)) :=
  bif (decide (s4 < s0)) then
    (getI a.edges s4).bind fun x5 =>
    bif (x5.src == x1.src) then
      bif (x5.dst == x1.dst) then
        some (.inr (.inl ()))
      else
        some (.inl (w64 (s4 + 1)))
    else
      some (.inl (w64 (s4 + 1)))
  else
    some (.inr (.inr ()))

noncomputable def g_ref05_edges_L1 (a : DescT) (s0 : Int) : Option (Int ⊕ (Unit ⊕ Unit)) :=
  bif (decide (s0 < (a.edges.length : Int))) then
    (getI a.edges s0).bind fun x1 =>
    (g_ref05_Part a x1.src).bind fun x2 =>
    bif x2 then
      (g_ref05_Part a x1.dst).bind fun x3 =>
      bif x3 then
        bif (x1.src == x1.dst) then
          some (.inr (.inl ()))
        else
          (lp (g_ref05_edges_L0 a s0 x1) 0).bind fun r6 =>
          match r6 with
          | (.inl r6) =>
            some (.inr (.inl ()))
          | (.inr r6) =>
            some (.inl (w64 (s0 + 1)))
      else
        some (.inr (.inl ()))
    else
      some (.inr (.inl ()))
  else
    some (.inr (.inr ()))

noncomputable def g_ref05_edges (a : DescT) : Option Bool :=
  (lp (g_ref05_edges_L1 a) 0).bind fun r7 =>
  match r7 with
  | (.inl r7) =>
    some false
  | (.inr r7) =>
    some true
noncomputable def g_ref05_futures_L0 (a : DescT) (s0 : Int) (x1 : FutureT) (s5 : Int) : Option (Int ⊕ (Unit ⊕ Unit)) :=
  bif (decide (s5 < s0)) then
    (getI a.futures s5).bind fun x6 =>
    bif (x6.user == x1.user) then
      bif (x6.pos == x1.pos) then
        some (.inr (.inl ()))
      else
        some (.inl (w64 (s5 + 1)))
    else
      some (.inl (w64 (s5 + 1)))
  else
    some (.inr (.inr ()))

noncomputable def g_ref05_futures_L1 (a : DescT) (s0 : Int) : Option (Int ⊕ (Unit ⊕ Unit)) :=
  bif (decide (s0 < (a.futures.length : Int))) then
    (getI a.futures s0).bind fun x1 =>
    (g_ref05_Part a x1.maker).bind fun x2 =>
    bif x2 then
      (g_ref05_Part a x1.user).bind fun x3 =>
      bif x3 then
        bif (x1.maker == x1.user) then
          some (.inr (.inl ()))
        else
          bif (decide (x1.pos < 1)) then
            some (.inr (.inl ()))
          else
            (getI a.parts x1.user).bind fun x4 =>
            bif (decide (x4.work ≤ x1.pos)) then
              some (.inr (.inl ()))
            else
              (lp (g_ref05_futures_L0 a s0 x1) 0).bind fun r7 =>
              match r7 with
              | (.inl r7) =>
                some (.inr (.inl ()))
              | (.inr r7) =>
                some (.inl (w64 (s0 + 1)))
      else
        some (.inr (.inl ()))
    else
      some (.inr (.inl ()))
  else
    some (.inr (.inr ()))

noncomputable def g_ref05_futures (a : DescT) : Option Bool :=
  (lp (g_ref05_futures_L1 a) 0).bind fun r8 =>
  match r8 with
  | (.inl r8) =>
    some false
  | (.inr r8) =>
    some true
noncomputable def g_ref05_row_L0 (a : DescT) (b : (List Int)) (s0 : Int) : Option (Int ⊕ (Unit ⊕ Unit)) :=
  bif (decide (s0 < (b.length : Int))) then
    (getI b s0).bind fun x1 =>
    (g_ref05_Part a x1).bind fun x2 =>
    bif x2 then
      bif (decide (0 < s0)) then
        (getI b (w64 (s0 - 1))).bind fun x3 =>
        bif (decide (x1 ≤ x3)) then
          some (.inr (.inl ()))
        else
          some (.inl (w64 (s0 + 1)))
      else
        some (.inl (w64 (s0 + 1)))
    else
      some (.inr (.inl ()))
  else
    some (.inr (.inr ()))

noncomputable def g_ref05_row (a : DescT) (b : (List Int)) : Option Bool :=
  (lp (g_ref05_row_L0 a b) 0).bind fun r4 =>
  match r4 with
  | (.inl r4) =>
    some false
  | (.inr r4) =>
    bif (decide (0 < (b.length : Int))) then
      some true
    else
      some false
noncomputable def g_ref04_Has_L0 (a : (List Int)) (b : Int) (s0 : Int) : Option (Int ⊕ (Unit ⊕ Unit)) :=
  bif (decide (s0 < (a.length : Int))) then
    (getI a s0).bind fun x1 =>
    bif (x1 == b) then
      some (.inr (.inl ()))
    else
      some (.inl (w64 (s0 + 1)))
  else
    some (.inr (.inr ()))

noncomputable def g_ref04_Has (a : (List Int)) (b : Int) : Option Bool :=
  (lp (g_ref04_Has_L0 a b) 0).bind fun r2 =>
  match r2 with
  | (.inl r2) =>
    some true
  | (.inr r2) =>
    some false
noncomputable def g_ref05_barriers_L0 (x1 : BarrierT) (s4 : Int) : Option (Int ⊕ (Unit ⊕ Unit)) :=
  bif (decide (s4 < (x1.ins.length : Int))) then
    (getI x1.ins s4).bind fun x5 =>
    (g_ref04_Has x1.outs x5).bind fun x6 =>
    bif x6 then
      some (.inr (.inl ()))
    else
      some (.inl (w64 (s4 + 1)))
  else
    some (.inr (.inr ()))

noncomputable def g_ref05_barriers_L1 (a : DescT) (s0 : Int) : Option (Int ⊕ (Unit ⊕ Unit)) :=
  bif (decide (s0 < (a.barriers.length : Int))) then
    (getI a.barriers s0).bind fun x1 =>
    (g_ref05_row a x1.ins).bind fun x2 =>
    bif x2 then
      (g_ref05_row a x1.outs).bind fun x3 =>
      bif x3 then
        (lp (g_ref05_barriers_L0 x1) 0).bind fun r7 =>
        match r7 with
        | (.inl r7) =>
          some (.inr (.inl ()))
        | (.inr r7) =>
          some (.inl (w64 (s0 + 1)))
      else
        some (.inr (.inl ()))
    else
      some (.inr (.inl ()))
  else
    some (.inr (.inr ()))

noncomputable def g_ref05_barriers (a : DescT) : Option Bool :=
  (lp (g_ref05_barriers_L1 a) 0).bind fun r8 =>
  match r8 with
  | (.inl r8) =>
    some false
  | (.inr r8) =>
    some true
noncomputable def g_ref05_Check (a : DescT) : Option Int :=
  bif (decide ((a.parts.length : Int) < 1)) then
    some 50
  else
    bif (decide (16 < (a.parts.length : Int))) then
      some 50
    else
      bif (decide (48 < (a.edges.length : Int))) then
        some 50
      else
        bif (decide (16 < (a.futures.length : Int))) then
          some 50
        else
          bif (decide (4 < (a.barriers.length : Int))) then
            some 50
          else
            (g_ref05_time a).bind fun x0 =>
            bif x0 then
              (g_ref05_parts a).bind fun x1 =>
              bif x1 then
                (g_ref05_edges a).bind fun x2 =>
                bif x2 then
                  (g_ref05_futures a).bind fun x3 =>
                  bif x3 then
                    (g_ref05_barriers a).bind fun x4 =>
                    bif x4 then
                      some 0
                    else
                      some 55
                  else
                    some 54
                else
                  some 53
              else
                some 52
            else
              some 51
noncomputable def g_slices_Equal_l_Part_Part_L0 (a : (List PartT)) (b : (List PartT)) (s0 : Int) : Option (Int ⊕ (Unit ⊕ Unit)) :=
  bif (decide (s0 < (a.length : Int))) then
    (getI a s0).bind fun x1 =>
    (getI b s0).bind fun x2 =>
    bif (!((x1.op == x2.op) && ((x1.arg == x2.arg) && ((x1.work == x2.work) && true)))) then
      some (.inr (.inl ()))
    else
      some (.inl (w64 (s0 + 1)))
  else
    some (.inr (.inr ()))

noncomputable def g_slices_Equal_l_Part_Part (a : (List PartT)) (b : (List PartT)) : Option Bool :=
  bif ((a.length : Int) != (b.length : Int)) then
    some false
  else
    (lp (g_slices_Equal_l_Part_Part_L0 a b) 0).bind fun r3 =>
    match r3 with
    | (.inl r3) =>
      some false
    | (.inr r3) =>
      some true
noncomputable def g_slices_Equal_l_Edge_Edge_L0 (a : (List EdgeT)) (b : (List EdgeT)) (s0 : Int) : Option (Int ⊕ (Unit ⊕ Unit)) :=
  bif (decide (s0 < (a.length : Int))) then
    (getI a s0).bind fun x1 =>
    (getI b s0).bind fun x2 =>
    bif (!((x1.src == x2.src) && ((x1.dst == x2.dst) && true))) then
      some (.inr (.inl ()))
    else
      some (.inl (w64 (s0 + 1)))
  else
    some (.inr (.inr ()))

noncomputable def g_slices_Equal_l_Edge_Edge (a : (List EdgeT)) (b : (List EdgeT)) : Option Bool :=
  bif ((a.length : Int) != (b.length : Int)) then
    some false
  else
    (lp (g_slices_Equal_l_Edge_Edge_L0 a b) 0).bind fun r3 =>
    match r3 with
    | (.inl r3) =>
      some false
    | (.inr r3) =>
      some true
noncomputable def g_slices_Equal_l_Future_Future_L0 (a : (List FutureT)) (b : (List FutureT)) (s0 : Int) : Option (Int ⊕ (Unit ⊕ Unit)) :=
  bif (decide (s0 < (a.length : Int))) then
    (getI a s0).bind fun x1 =>
    (getI b s0).bind fun x2 =>
    bif (!((x1.maker == x2.maker) && ((x1.user == x2.user) && ((x1.pos == x2.pos) && true)))) then
      some (.inr (.inl ()))
    else
      some (.inl (w64 (s0 + 1)))
  else
    some (.inr (.inr ()))

noncomputable def g_slices_Equal_l_Future_Future (a : (List FutureT)) (b : (List FutureT)) : Option Bool :=
  bif ((a.length : Int) != (b.length : Int)) then
    some false
  else
    (lp (g_slices_Equal_l_Future_Future_L0 a b) 0).bind fun r3 =>
    match r3 with
    | (.inl r3) =>
      some false
    | (.inr r3) =>
      some true
noncomputable def g_slices_Equal_l_int_int_L0 (a : (List Int)) (b : (List Int)) (s0 : Int) : Option (Int ⊕ (Unit ⊕ Unit)) :=
  bif (decide (s0 < (a.length : Int))) then
    (getI a s0).bind fun x1 =>
    (getI b s0).bind fun x2 =>
    bif (x1 != x2) then
      some (.inr (.inl ()))
    else
      some (.inl (w64 (s0 + 1)))
  else
    some (.inr (.inr ()))

noncomputable def g_slices_Equal_l_int_int (a : (List Int)) (b : (List Int)) : Option Bool :=
  bif ((a.length : Int) != (b.length : Int)) then
    some false
  else
    (lp (g_slices_Equal_l_int_int_L0 a b) 0).bind fun r3 =>
    match r3 with
    | (.inl r3) =>
      some false
    | (.inr r3) =>
      some true
noncomputable def g_desc_Same_1 (a : BarrierT) (b : BarrierT) : Option Bool :=
  (g_slices_Equal_l_int_int a.ins b.ins).bind fun x0 =>
  bif x0 then
    (g_slices_Equal_l_int_int a.outs b.outs).bind fun x1 =>
    bif x1 then
      some true
    else
      some false
  else
    some false
noncomputable def g_slices_EqualFunc_l_Barrier_l_Barrier_Barrier_Barrier_L0 (a : (List BarrierT)) (b : (List BarrierT)) (c : (BarrierT → BarrierT → Option Bool)) (s0 : Int) : Option (Int ⊕ (Unit ⊕ Unit)) :=
  bif (decide (s0 < (a.length : Int))) then
    (getI a s0).bind fun x1 =>
    (getI b s0).bind fun x2 =>
    (c x1 x2).bind fun x3 =>
    bif x3 then
      some (.inl (w64 (s0 + 1)))
    else
      some (.inr (.inl ()))
  else
    some (.inr (.inr ()))

noncomputable def g_slices_EqualFunc_l_Barrier_l_Barrier_Barrier_Barrier (a : (List BarrierT)) (b : (List BarrierT)) (c : (BarrierT → BarrierT → Option Bool)) : Option Bool :=
  bif ((a.length : Int) != (b.length : Int)) then
    some false
  else
    (lp (g_slices_EqualFunc_l_Barrier_l_Barrier_Barrier_Barrier_L0 a b c) 0).bind fun r4 =>
    match r4 with
    | (.inl r4) =>
      some false
    | (.inr r4) =>
      some true
noncomputable def g_desc_Same (a : DescT) (b : DescT) : Option Bool :=
  bif (a.period == b.period) then
    bif (a.deadline == b.deadline) then
      (g_slices_Equal_l_Part_Part a.parts b.parts).bind fun x0 =>
      bif x0 then
        (g_slices_Equal_l_Edge_Edge a.edges b.edges).bind fun x1 =>
        bif x1 then
          (g_slices_Equal_l_Future_Future a.futures b.futures).bind fun x2 =>
          bif x2 then
            (g_slices_EqualFunc_l_Barrier_l_Barrier_Barrier_Barrier a.barriers b.barriers (fun z0 z1 => g_desc_Same_1 z0 z1)).bind fun x3 =>
            bif x3 then
              some true
            else
              some false
          else
            some false
        else
          some false
      else
        some false
    else
      some false
  else
    some false
noncomputable def g_ref04_Same_L0 (a : DagT) (b : DagT) (s0 : Int) : Option (Int ⊕ (Unit ⊕ Unit)) :=
  bif (decide (s0 < (a.work.length : Int))) then
    (getI a.work s0).bind fun x1 =>
    (getI b.work s0).bind fun x2 =>
    bif (x1 != x2) then
      some (.inr (.inl ()))
    else
      some (.inl (w64 (s0 + 1)))
  else
    some (.inr (.inr ()))

noncomputable def g_ref04_Same_L1 (a : DagT) (b : DagT) (s4 : Int) : Option (Int ⊕ (Unit ⊕ Unit)) :=
  bif (decide (s4 < (a.edges.length : Int))) then
    (getI a.edges s4).bind fun x5 =>
    (getI b.edges s4).bind fun x6 =>
    bif (!((x5.src == x6.src) && ((x5.dst == x6.dst) && true))) then
      some (.inr (.inl ()))
    else
      some (.inl (w64 (s4 + 1)))
  else
    some (.inr (.inr ()))

noncomputable def g_ref04_Same (a : DagT) (b : DagT) : Option Bool :=
  bif ((a.work.length : Int) != (b.work.length : Int)) then
    some false
  else
    bif ((a.edges.length : Int) != (b.edges.length : Int)) then
      some false
    else
      (lp (g_ref04_Same_L0 a b) 0).bind fun r3 =>
      match r3 with
      | (.inl r3) =>
        some false
      | (.inr r3) =>
        (lp (g_ref04_Same_L1 a b) 0).bind fun r7 =>
        match r7 with
        | (.inl r7) =>
          some false
        | (.inr r7) =>
          some true
noncomputable def g_ref02_Ints_L0 (a : (List Int)) (b : (List Int)) (s0 : Int) : Option (Int ⊕ (Unit ⊕ Unit)) :=
  bif (decide (s0 < (a.length : Int))) then
    (getI a s0).bind fun x1 =>
    (getI b s0).bind fun x2 =>
    bif (x1 != x2) then
      some (.inr (.inl ()))
    else
      some (.inl (w64 (s0 + 1)))
  else
    some (.inr (.inr ()))

noncomputable def g_ref02_Ints (a : (List Int)) (b : (List Int)) : Option Bool :=
  bif ((a.length : Int) != (b.length : Int)) then
    some false
  else
    (lp (g_ref02_Ints_L0 a b) 0).bind fun r3 =>
    match r3 with
    | (.inl r3) =>
      some false
    | (.inr r3) =>
      some true
noncomputable def g_ref05_Same_L0 (a : DescT) (b : DescT) (s1 : Int) : Option (Int ⊕ (Unit ⊕ Unit)) :=
  bif (decide (s1 < (a.parts.length : Int))) then
    (getI a.parts s1).bind fun x2 =>
    (getI b.parts s1).bind fun x3 =>
    bif (!((x2.op == x3.op) && ((x2.arg == x3.arg) && ((x2.work == x3.work) && true)))) then
      some (.inr (.inl ()))
    else
      some (.inl (w64 (s1 + 1)))
  else
    some (.inr (.inr ()))

noncomputable def g_ref05_Same_L1 (a : DescT) (b : DescT) (s5 : Int) : Option (Int ⊕ (Unit ⊕ Unit)) :=
  bif (decide (s5 < (a.futures.length : Int))) then
    (getI a.futures s5).bind fun x6 =>
    (getI b.futures s5).bind fun x7 =>
    bif (!((x6.maker == x7.maker) && ((x6.user == x7.user) && ((x6.pos == x7.pos) && true)))) then
      some (.inr (.inl ()))
    else
      some (.inl (w64 (s5 + 1)))
  else
    some (.inr (.inr ()))

noncomputable def g_ref05_Same_L2 (a : DescT) (b : DescT) (s9 : Int) : Option (Int ⊕ (Unit ⊕ Unit)) :=
  bif (decide (s9 < (a.barriers.length : Int))) then
    (getI a.barriers s9).bind fun x10 =>
    (getI b.barriers s9).bind fun x11 =>
    (g_ref02_Ints x10.ins x11.ins).bind fun x12 =>
    bif x12 then
      (g_ref02_Ints x10.outs x11.outs).bind fun x13 =>
      bif x13 then
        some (.inl (w64 (s9 + 1)))
      else
        some (.inr (.inl ()))
    else
      some (.inr (.inl ()))
  else
    some (.inr (.inr ()))

noncomputable def g_ref05_Same (a : DescT) (b : DescT) : Option Bool :=
  bif (a.period != b.period) then
    some false
  else
    bif (a.deadline != b.deadline) then
      some false
    else
      bif ((a.parts.length : Int) != (b.parts.length : Int)) then
        some false
      else
        bif ((a.futures.length : Int) != (b.futures.length : Int)) then
          some false
        else
          bif ((a.barriers.length : Int) != (b.barriers.length : Int)) then
            some false
          else
            (g_ref04_Same (DagT.mk ([] : List Int) a.edges) (DagT.mk ([] : List Int) b.edges)).bind fun x0 =>
            bif x0 then
              (lp (g_ref05_Same_L0 a b) 0).bind fun r4 =>
              match r4 with
              | (.inl r4) =>
                some false
              | (.inr r4) =>
                (lp (g_ref05_Same_L1 a b) 0).bind fun r8 =>
                match r8 with
                | (.inl r8) =>
                  some false
                | (.inr r8) =>
                  (lp (g_ref05_Same_L2 a b) 0).bind fun r14 =>
                  match r14 with
                  | (.inl r14) =>
                    some false
                  | (.inr r14) =>
                    some true
            else
              some false
noncomputable def g_law05_DescChecks (a : DescT) (b : DescT) : Option Bool :=
  g_law05_awake.bind fun x0 =>
  bif x0 then
    (g_ref05_Few a).bind fun x1 =>
    bif x1 then
      (g_ref05_Few b).bind fun x2 =>
      bif x2 then
        (g_law05_Own a).bind fun x3 =>
        (g_desc_Check (DescT.mk a.period a.deadline a.parts a.edges a.futures x3)).bind fun x4 =>
        (g_ref05_Check a).bind fun x5 =>
        bif (x4 == x5) then
          (g_law05_Own a).bind fun x6 =>
          (g_law05_Own b).bind fun x7 =>
          (g_desc_Same (DescT.mk a.period a.deadline a.parts a.edges a.futures x6) (DescT.mk b.period b.deadline b.parts b.edges b.futures x7)).bind fun x8 =>
          bif x8 then
            (g_ref05_Same a b).bind fun x9 =>
            bif x9 then
              some true
            else
              some false
          else
            (g_ref05_Same a b).bind fun x10 =>
            bif x10 then
              some false
            else
              some true
        else
          some false
      else
        g_law05_awake.bind fun x11 =>
        bif x11 then
          some true
        else
          some false
    else
      g_law05_awake.bind fun x12 =>
      bif x12 then
        some true
      else
        some false
  else
    g_law05_awake.bind fun x13 =>
    bif x13 then
      some true
    else
      some false
noncomputable def g_law05_DescLess (a : DescT) (b : Int) : Option Bool :=
  g_law05_awake.bind fun x0 =>
  bif x0 then
    (g_ref05_Few a).bind fun x1 =>
    bif x1 then
      (g_law05_Own a).bind fun x2 =>
      (g_desc_Check (DescT.mk a.period a.deadline a.parts a.edges a.futures x2)).bind fun x3 =>
      bif (x3 != 0) then
        g_law05_awake.bind fun x4 =>
        bif x4 then
          some true
        else
          some false
      else
        bif (decide (b < 0)) then
          g_law05_awake.bind fun x5 =>
          bif x5 then
            some true
          else
            some false
        else
          (g_law05_Own a).bind fun x6 =>
          (g_law05_Own a).bind fun x7 =>
          (g_law05_Own a).bind fun x8 =>
          bif (decide (b < (a.edges.length : Int))) then
            bif (decide (0 ≤ b)) then
              bif (Nat.ble b.toNat (List.length a.edges)) then
                bif (decide (0 ≤ (w64 (b + 1)))) then
                  bif (Nat.ble (w64 (b + 1)).toNat (List.length a.edges)) then
                    bif (Nat.ble (0 + b.toNat + List.length (List.take ((List.length a.edges) - (w64 (b + 1)).toNat) (List.drop (w64 (b + 1)).toNat a.edges))) (List.length a.edges)) then
                      bif (decide (b < (a.futures.length : Int))) then
                        bif (decide (0 ≤ b)) then
                          bif (Nat.ble b.toNat (List.length a.futures)) then
                            bif (decide (0 ≤ (w64 (b + 1)))) then
                              bif (Nat.ble (w64 (b + 1)).toNat (List.length a.futures)) then
                                bif (Nat.ble (0 + b.toNat + List.length (List.take ((List.length a.futures) - (w64 (b + 1)).toNat) (List.drop (w64 (b + 1)).toNat a.futures))) (List.length a.futures)) then
                                  bif (decide (b < (a.barriers.length : Int))) then
                                    bif (decide (0 ≤ b)) then
                                      bif (Nat.ble b.toNat (List.length x8)) then
                                        bif (decide (0 ≤ (w64 (b + 1)))) then
                                          bif (Nat.ble (w64 (b + 1)).toNat (List.length x8)) then
                                            bif (Nat.ble (0 + b.toNat + List.length (List.take ((List.length x8) - (w64 (b + 1)).toNat) (List.drop (w64 (b + 1)).toNat x8))) (List.length x8)) then
                                              (g_desc_Check (DescT.mk a.period a.deadline a.parts (List.take (b.toNat + List.length (List.take ((List.length a.edges) - (w64 (b + 1)).toNat) (List.drop (w64 (b + 1)).toNat a.edges))) (List.drop 0 (List.take (0 + b.toNat) a.edges ++ ((List.take ((List.length a.edges) - (w64 (b + 1)).toNat) (List.drop (w64 (b + 1)).toNat a.edges)) ++ List.drop (0 + b.toNat + List.length (List.take ((List.length a.edges) - (w64 (b + 1)).toNat) (List.drop (w64 (b + 1)).toNat a.edges))) a.edges)))) a.futures x6)).bind fun x9 =>
                                              bif (x9 == 0) then
                                                (g_desc_Check (DescT.mk a.period a.deadline a.parts a.edges (List.take (b.toNat + List.length (List.take ((List.length a.futures) - (w64 (b + 1)).toNat) (List.drop (w64 (b + 1)).toNat a.futures))) (List.drop 0 (List.take (0 + b.toNat) a.futures ++ ((List.take ((List.length a.futures) - (w64 (b + 1)).toNat) (List.drop (w64 (b + 1)).toNat a.futures)) ++ List.drop (0 + b.toNat + List.length (List.take ((List.length a.futures) - (w64 (b + 1)).toNat) (List.drop (w64 (b + 1)).toNat a.futures))) a.futures)))) x7)).bind fun x10 =>
                                                bif (x10 == 0) then
                                                  (g_desc_Check (DescT.mk a.period a.deadline a.parts a.edges a.futures (List.take (b.toNat + List.length (List.take ((List.length x8) - (w64 (b + 1)).toNat) (List.drop (w64 (b + 1)).toNat x8))) (List.drop 0 (List.take (0 + b.toNat) x8 ++ ((List.take ((List.length x8) - (w64 (b + 1)).toNat) (List.drop (w64 (b + 1)).toNat x8)) ++ List.drop (0 + b.toNat + List.length (List.take ((List.length x8) - (w64 (b + 1)).toNat) (List.drop (w64 (b + 1)).toNat x8))) x8)))))).bind fun x11 =>
                                                  bif (x11 == 0) then
                                                    (g_desc_Same (DescT.mk a.period a.deadline a.parts (List.take (b.toNat + List.length (List.take ((List.length a.edges) - (w64 (b + 1)).toNat) (List.drop (w64 (b + 1)).toNat a.edges))) (List.drop 0 (List.take (0 + b.toNat) a.edges ++ ((List.take ((List.length a.edges) - (w64 (b + 1)).toNat) (List.drop (w64 (b + 1)).toNat a.edges)) ++ List.drop (0 + b.toNat + List.length (List.take ((List.length a.edges) - (w64 (b + 1)).toNat) (List.drop (w64 (b + 1)).toNat a.edges))) a.edges)))) a.futures x6) a).bind fun x12 =>
                                                    bif x12 then
                                                      bif (decide ((a.edges.length : Int) ≤ b)) then
                                                        (g_desc_Same (DescT.mk a.period a.deadline a.parts a.edges a.futures (List.take (b.toNat + List.length (List.take ((List.length x8) - (w64 (b + 1)).toNat) (List.drop (w64 (b + 1)).toNat x8))) (List.drop 0 (List.take (0 + b.toNat) x8 ++ ((List.take ((List.length x8) - (w64 (b + 1)).toNat) (List.drop (w64 (b + 1)).toNat x8)) ++ List.drop (0 + b.toNat + List.length (List.take ((List.length x8) - (w64 (b + 1)).toNat) (List.drop (w64 (b + 1)).toNat x8))) x8))))) a).bind fun x13 =>
                                                        bif x13 then
                                                          bif (decide ((a.barriers.length : Int) ≤ b)) then
                                                            some true
                                                          else
                                                            some false
                                                        else
                                                          bif (decide ((a.barriers.length : Int) ≤ b)) then
                                                            some false
                                                          else
                                                            some true
                                                      else
                                                        some false
                                                    else
                                                      bif (decide ((a.edges.length : Int) ≤ b)) then
                                                        some false
                                                      else
                                                        (g_desc_Same (DescT.mk a.period a.deadline a.parts a.edges a.futures (List.take (b.toNat + List.length (List.take ((List.length x8) - (w64 (b + 1)).toNat) (List.drop (w64 (b + 1)).toNat x8))) (List.drop 0 (List.take (0 + b.toNat) x8 ++ ((List.take ((List.length x8) - (w64 (b + 1)).toNat) (List.drop (w64 (b + 1)).toNat x8)) ++ List.drop (0 + b.toNat + List.length (List.take ((List.length x8) - (w64 (b + 1)).toNat) (List.drop (w64 (b + 1)).toNat x8))) x8))))) a).bind fun x14 =>
                                                        bif x14 then
                                                          bif (decide ((a.barriers.length : Int) ≤ b)) then
                                                            some true
                                                          else
                                                            some false
                                                        else
                                                          bif (decide ((a.barriers.length : Int) ≤ b)) then
                                                            some false
                                                          else
                                                            some true
                                                  else
                                                    some false
                                                else
                                                  some false
                                              else
                                                some false
                                            else
                                              none
                                          else
                                            none
                                        else
                                          none
                                      else
                                        none
                                    else
                                      none
                                  else
                                    (g_desc_Check (DescT.mk a.period a.deadline a.parts (List.take (b.toNat + List.length (List.take ((List.length a.edges) - (w64 (b + 1)).toNat) (List.drop (w64 (b + 1)).toNat a.edges))) (List.drop 0 (List.take (0 + b.toNat) a.edges ++ ((List.take ((List.length a.edges) - (w64 (b + 1)).toNat) (List.drop (w64 (b + 1)).toNat a.edges)) ++ List.drop (0 + b.toNat + List.length (List.take ((List.length a.edges) - (w64 (b + 1)).toNat) (List.drop (w64 (b + 1)).toNat a.edges))) a.edges)))) a.futures x6)).bind fun x15 =>
                                    bif (x15 == 0) then
                                      (g_desc_Check (DescT.mk a.period a.deadline a.parts a.edges (List.take (b.toNat + List.length (List.take ((List.length a.futures) - (w64 (b + 1)).toNat) (List.drop (w64 (b + 1)).toNat a.futures))) (List.drop 0 (List.take (0 + b.toNat) a.futures ++ ((List.take ((List.length a.futures) - (w64 (b + 1)).toNat) (List.drop (w64 (b + 1)).toNat a.futures)) ++ List.drop (0 + b.toNat + List.length (List.take ((List.length a.futures) - (w64 (b + 1)).toNat) (List.drop (w64 (b + 1)).toNat a.futures))) a.futures)))) x7)).bind fun x16 =>
                                      bif (x16 == 0) then
                                        (g_desc_Check (DescT.mk a.period a.deadline a.parts a.edges a.futures x8)).bind fun x17 =>
                                        bif (x17 == 0) then
                                          (g_desc_Same (DescT.mk a.period a.deadline a.parts (List.take (b.toNat + List.length (List.take ((List.length a.edges) - (w64 (b + 1)).toNat) (List.drop (w64 (b + 1)).toNat a.edges))) (List.drop 0 (List.take (0 + b.toNat) a.edges ++ ((List.take ((List.length a.edges) - (w64 (b + 1)).toNat) (List.drop (w64 (b + 1)).toNat a.edges)) ++ List.drop (0 + b.toNat + List.length (List.take ((List.length a.edges) - (w64 (b + 1)).toNat) (List.drop (w64 (b + 1)).toNat a.edges))) a.edges)))) a.futures x6) a).bind fun x18 =>
                                          bif x18 then
                                            bif (decide ((a.edges.length : Int) ≤ b)) then
                                              (g_desc_Same (DescT.mk a.period a.deadline a.parts a.edges a.futures x8) a).bind fun x19 =>
                                              bif x19 then
                                                bif (decide ((a.barriers.length : Int) ≤ b)) then
                                                  some true
                                                else
                                                  some false
                                              else
                                                bif (decide ((a.barriers.length : Int) ≤ b)) then
                                                  some false
                                                else
                                                  some true
                                            else
                                              some false
                                          else
                                            bif (decide ((a.edges.length : Int) ≤ b)) then
                                              some false
                                            else
                                              (g_desc_Same (DescT.mk a.period a.deadline a.parts a.edges a.futures x8) a).bind fun x20 =>
                                              bif x20 then
                                                bif (decide ((a.barriers.length : Int) ≤ b)) then
                                                  some true
                                                else
                                                  some false
                                              else
                                                bif (decide ((a.barriers.length : Int) ≤ b)) then
                                                  some false
                                                else
                                                  some true
                                        else
                                          some false
                                      else
                                        some false
                                    else
                                      some false
                                else
                                  none
                              else
                                none
                            else
                              none
                          else
                            none
                        else
                          none
                      else
                        bif (decide (b < (a.barriers.length : Int))) then
                          bif (decide (0 ≤ b)) then
                            bif (Nat.ble b.toNat (List.length x8)) then
                              bif (decide (0 ≤ (w64 (b + 1)))) then
                                bif (Nat.ble (w64 (b + 1)).toNat (List.length x8)) then
                                  bif (Nat.ble (0 + b.toNat + List.length (List.take ((List.length x8) - (w64 (b + 1)).toNat) (List.drop (w64 (b + 1)).toNat x8))) (List.length x8)) then
                                    (g_desc_Check (DescT.mk a.period a.deadline a.parts (List.take (b.toNat + List.length (List.take ((List.length a.edges) - (w64 (b + 1)).toNat) (List.drop (w64 (b + 1)).toNat a.edges))) (List.drop 0 (List.take (0 + b.toNat) a.edges ++ ((List.take ((List.length a.edges) - (w64 (b + 1)).toNat) (List.drop (w64 (b + 1)).toNat a.edges)) ++ List.drop (0 + b.toNat + List.length (List.take ((List.length a.edges) - (w64 (b + 1)).toNat) (List.drop (w64 (b + 1)).toNat a.edges))) a.edges)))) a.futures x6)).bind fun x21 =>
                                    bif (x21 == 0) then
                                      (g_desc_Check (DescT.mk a.period a.deadline a.parts a.edges a.futures x7)).bind fun x22 =>
                                      bif (x22 == 0) then
                                        (g_desc_Check (DescT.mk a.period a.deadline a.parts a.edges a.futures (List.take (b.toNat + List.length (List.take ((List.length x8) - (w64 (b + 1)).toNat) (List.drop (w64 (b + 1)).toNat x8))) (List.drop 0 (List.take (0 + b.toNat) x8 ++ ((List.take ((List.length x8) - (w64 (b + 1)).toNat) (List.drop (w64 (b + 1)).toNat x8)) ++ List.drop (0 + b.toNat + List.length (List.take ((List.length x8) - (w64 (b + 1)).toNat) (List.drop (w64 (b + 1)).toNat x8))) x8)))))).bind fun x23 =>
                                        bif (x23 == 0) then
                                          (g_desc_Same (DescT.mk a.period a.deadline a.parts (List.take (b.toNat + List.length (List.take ((List.length a.edges) - (w64 (b + 1)).toNat) (List.drop (w64 (b + 1)).toNat a.edges))) (List.drop 0 (List.take (0 + b.toNat) a.edges ++ ((List.take ((List.length a.edges) - (w64 (b + 1)).toNat) (List.drop (w64 (b + 1)).toNat a.edges)) ++ List.drop (0 + b.toNat + List.length (List.take ((List.length a.edges) - (w64 (b + 1)).toNat) (List.drop (w64 (b + 1)).toNat a.edges))) a.edges)))) a.futures x6) a).bind fun x24 =>
                                          bif x24 then
                                            bif (decide ((a.edges.length : Int) ≤ b)) then
                                              (g_desc_Same (DescT.mk a.period a.deadline a.parts a.edges a.futures (List.take (b.toNat + List.length (List.take ((List.length x8) - (w64 (b + 1)).toNat) (List.drop (w64 (b + 1)).toNat x8))) (List.drop 0 (List.take (0 + b.toNat) x8 ++ ((List.take ((List.length x8) - (w64 (b + 1)).toNat) (List.drop (w64 (b + 1)).toNat x8)) ++ List.drop (0 + b.toNat + List.length (List.take ((List.length x8) - (w64 (b + 1)).toNat) (List.drop (w64 (b + 1)).toNat x8))) x8))))) a).bind fun x25 =>
                                              bif x25 then
                                                bif (decide ((a.barriers.length : Int) ≤ b)) then
                                                  some true
                                                else
                                                  some false
                                              else
                                                bif (decide ((a.barriers.length : Int) ≤ b)) then
                                                  some false
                                                else
                                                  some true
                                            else
                                              some false
                                          else
                                            bif (decide ((a.edges.length : Int) ≤ b)) then
                                              some false
                                            else
                                              (g_desc_Same (DescT.mk a.period a.deadline a.parts a.edges a.futures (List.take (b.toNat + List.length (List.take ((List.length x8) - (w64 (b + 1)).toNat) (List.drop (w64 (b + 1)).toNat x8))) (List.drop 0 (List.take (0 + b.toNat) x8 ++ ((List.take ((List.length x8) - (w64 (b + 1)).toNat) (List.drop (w64 (b + 1)).toNat x8)) ++ List.drop (0 + b.toNat + List.length (List.take ((List.length x8) - (w64 (b + 1)).toNat) (List.drop (w64 (b + 1)).toNat x8))) x8))))) a).bind fun x26 =>
                                              bif x26 then
                                                bif (decide ((a.barriers.length : Int) ≤ b)) then
                                                  some true
                                                else
                                                  some false
                                              else
                                                bif (decide ((a.barriers.length : Int) ≤ b)) then
                                                  some false
                                                else
                                                  some true
                                        else
                                          some false
                                      else
                                        some false
                                    else
                                      some false
                                  else
                                    none
                                else
                                  none
                              else
                                none
                            else
                              none
                          else
                            none
                        else
                          (g_desc_Check (DescT.mk a.period a.deadline a.parts (List.take (b.toNat + List.length (List.take ((List.length a.edges) - (w64 (b + 1)).toNat) (List.drop (w64 (b + 1)).toNat a.edges))) (List.drop 0 (List.take (0 + b.toNat) a.edges ++ ((List.take ((List.length a.edges) - (w64 (b + 1)).toNat) (List.drop (w64 (b + 1)).toNat a.edges)) ++ List.drop (0 + b.toNat + List.length (List.take ((List.length a.edges) - (w64 (b + 1)).toNat) (List.drop (w64 (b + 1)).toNat a.edges))) a.edges)))) a.futures x6)).bind fun x27 =>
                          bif (x27 == 0) then
                            (g_desc_Check (DescT.mk a.period a.deadline a.parts a.edges a.futures x7)).bind fun x28 =>
                            bif (x28 == 0) then
                              (g_desc_Check (DescT.mk a.period a.deadline a.parts a.edges a.futures x8)).bind fun x29 =>
                              bif (x29 == 0) then
                                (g_desc_Same (DescT.mk a.period a.deadline a.parts (List.take (b.toNat + List.length (List.take ((List.length a.edges) - (w64 (b + 1)).toNat) (List.drop (w64 (b + 1)).toNat a.edges))) (List.drop 0 (List.take (0 + b.toNat) a.edges ++ ((List.take ((List.length a.edges) - (w64 (b + 1)).toNat) (List.drop (w64 (b + 1)).toNat a.edges)) ++ List.drop (0 + b.toNat + List.length (List.take ((List.length a.edges) - (w64 (b + 1)).toNat) (List.drop (w64 (b + 1)).toNat a.edges))) a.edges)))) a.futures x6) a).bind fun x30 =>
                                bif x30 then
                                  bif (decide ((a.edges.length : Int) ≤ b)) then
                                    (g_desc_Same (DescT.mk a.period a.deadline a.parts a.edges a.futures x8) a).bind fun x31 =>
                                    bif x31 then
                                      bif (decide ((a.barriers.length : Int) ≤ b)) then
                                        some true
                                      else
                                        some false
                                    else
                                      bif (decide ((a.barriers.length : Int) ≤ b)) then
                                        some false
                                      else
                                        some true
                                  else
                                    some false
                                else
                                  bif (decide ((a.edges.length : Int) ≤ b)) then
                                    some false
                                  else
                                    (g_desc_Same (DescT.mk a.period a.deadline a.parts a.edges a.futures x8) a).bind fun x32 =>
                                    bif x32 then
                                      bif (decide ((a.barriers.length : Int) ≤ b)) then
                                        some true
                                      else
                                        some false
                                    else
                                      bif (decide ((a.barriers.length : Int) ≤ b)) then
                                        some false
                                      else
                                        some true
                              else
                                some false
                            else
                              some false
                          else
                            some false
                    else
                      none
                  else
                    none
                else
                  none
              else
                none
            else
              none
          else
            bif (decide (b < (a.futures.length : Int))) then
              bif (decide (0 ≤ b)) then
                bif (Nat.ble b.toNat (List.length a.futures)) then
                  bif (decide (0 ≤ (w64 (b + 1)))) then
                    bif (Nat.ble (w64 (b + 1)).toNat (List.length a.futures)) then
                      bif (Nat.ble (0 + b.toNat + List.length (List.take ((List.length a.futures) - (w64 (b + 1)).toNat) (List.drop (w64 (b + 1)).toNat a.futures))) (List.length a.futures)) then
                        bif (decide (b < (a.barriers.length : Int))) then
                          bif (decide (0 ≤ b)) then
                            bif (Nat.ble b.toNat (List.length x8)) then
                              bif (decide (0 ≤ (w64 (b + 1)))) then
                                bif (Nat.ble (w64 (b + 1)).toNat (List.length x8)) then
                                  bif (Nat.ble (0 + b.toNat + List.length (List.take ((List.length x8) - (w64 (b + 1)).toNat) (List.drop (w64 (b + 1)).toNat x8))) (List.length x8)) then
                                    (g_desc_Check (DescT.mk a.period a.deadline a.parts a.edges a.futures x6)).bind fun x33 =>
                                    bif (x33 == 0) then
                                      (g_desc_Check (DescT.mk a.period a.deadline a.parts a.edges (List.take (b.toNat + List.length (List.take ((List.length a.futures) - (w64 (b + 1)).toNat) (List.drop (w64 (b + 1)).toNat a.futures))) (List.drop 0 (List.take (0 + b.toNat) a.futures ++ ((List.take ((List.length a.futures) - (w64 (b + 1)).toNat) (List.drop (w64 (b + 1)).toNat a.futures)) ++ List.drop (0 + b.toNat + List.length (List.take ((List.length a.futures) - (w64 (b + 1)).toNat) (List.drop (w64 (b + 1)).toNat a.futures))) a.futures)))) x7)).bind fun x34 =>
                                      bif (x34 == 0) then
                                        (g_desc_Check (DescT.mk a.period a.deadline a.parts a.edges a.futures (List.take (b.toNat + List.length (List.take ((List.length x8) - (w64 (b + 1)).toNat) (List.drop (w64 (b + 1)).toNat x8))) (List.drop 0 (List.take (0 + b.toNat) x8 ++ ((List.take ((List.length x8) - (w64 (b + 1)).toNat) (List.drop (w64 (b + 1)).toNat x8)) ++ List.drop (0 + b.toNat + List.length (List.take ((List.length x8) - (w64 (b + 1)).toNat) (List.drop (w64 (b + 1)).toNat x8))) x8)))))).bind fun x35 =>
                                        bif (x35 == 0) then
                                          (g_desc_Same (DescT.mk a.period a.deadline a.parts a.edges a.futures x6) a).bind fun x36 =>
                                          bif x36 then
                                            bif (decide ((a.edges.length : Int) ≤ b)) then
                                              (g_desc_Same (DescT.mk a.period a.deadline a.parts a.edges a.futures (List.take (b.toNat + List.length (List.take ((List.length x8) - (w64 (b + 1)).toNat) (List.drop (w64 (b + 1)).toNat x8))) (List.drop 0 (List.take (0 + b.toNat) x8 ++ ((List.take ((List.length x8) - (w64 (b + 1)).toNat) (List.drop (w64 (b + 1)).toNat x8)) ++ List.drop (0 + b.toNat + List.length (List.take ((List.length x8) - (w64 (b + 1)).toNat) (List.drop (w64 (b + 1)).toNat x8))) x8))))) a).bind fun x37 =>
                                              bif x37 then
                                                bif (decide ((a.barriers.length : Int) ≤ b)) then
                                                  some true
                                                else
                                                  some false
                                              else
                                                bif (decide ((a.barriers.length : Int) ≤ b)) then
                                                  some false
                                                else
                                                  some true
                                            else
                                              some false
                                          else
                                            bif (decide ((a.edges.length : Int) ≤ b)) then
                                              some false
                                            else
                                              (g_desc_Same (DescT.mk a.period a.deadline a.parts a.edges a.futures (List.take (b.toNat + List.length (List.take ((List.length x8) - (w64 (b + 1)).toNat) (List.drop (w64 (b + 1)).toNat x8))) (List.drop 0 (List.take (0 + b.toNat) x8 ++ ((List.take ((List.length x8) - (w64 (b + 1)).toNat) (List.drop (w64 (b + 1)).toNat x8)) ++ List.drop (0 + b.toNat + List.length (List.take ((List.length x8) - (w64 (b + 1)).toNat) (List.drop (w64 (b + 1)).toNat x8))) x8))))) a).bind fun x38 =>
                                              bif x38 then
                                                bif (decide ((a.barriers.length : Int) ≤ b)) then
                                                  some true
                                                else
                                                  some false
                                              else
                                                bif (decide ((a.barriers.length : Int) ≤ b)) then
                                                  some false
                                                else
                                                  some true
                                        else
                                          some false
                                      else
                                        some false
                                    else
                                      some false
                                  else
                                    none
                                else
                                  none
                              else
                                none
                            else
                              none
                          else
                            none
                        else
                          (g_desc_Check (DescT.mk a.period a.deadline a.parts a.edges a.futures x6)).bind fun x39 =>
                          bif (x39 == 0) then
                            (g_desc_Check (DescT.mk a.period a.deadline a.parts a.edges (List.take (b.toNat + List.length (List.take ((List.length a.futures) - (w64 (b + 1)).toNat) (List.drop (w64 (b + 1)).toNat a.futures))) (List.drop 0 (List.take (0 + b.toNat) a.futures ++ ((List.take ((List.length a.futures) - (w64 (b + 1)).toNat) (List.drop (w64 (b + 1)).toNat a.futures)) ++ List.drop (0 + b.toNat + List.length (List.take ((List.length a.futures) - (w64 (b + 1)).toNat) (List.drop (w64 (b + 1)).toNat a.futures))) a.futures)))) x7)).bind fun x40 =>
                            bif (x40 == 0) then
                              (g_desc_Check (DescT.mk a.period a.deadline a.parts a.edges a.futures x8)).bind fun x41 =>
                              bif (x41 == 0) then
                                (g_desc_Same (DescT.mk a.period a.deadline a.parts a.edges a.futures x6) a).bind fun x42 =>
                                bif x42 then
                                  bif (decide ((a.edges.length : Int) ≤ b)) then
                                    (g_desc_Same (DescT.mk a.period a.deadline a.parts a.edges a.futures x8) a).bind fun x43 =>
                                    bif x43 then
                                      bif (decide ((a.barriers.length : Int) ≤ b)) then
                                        some true
                                      else
                                        some false
                                    else
                                      bif (decide ((a.barriers.length : Int) ≤ b)) then
                                        some false
                                      else
                                        some true
                                  else
                                    some false
                                else
                                  bif (decide ((a.edges.length : Int) ≤ b)) then
                                    some false
                                  else
                                    (g_desc_Same (DescT.mk a.period a.deadline a.parts a.edges a.futures x8) a).bind fun x44 =>
                                    bif x44 then
                                      bif (decide ((a.barriers.length : Int) ≤ b)) then
                                        some true
                                      else
                                        some false
                                    else
                                      bif (decide ((a.barriers.length : Int) ≤ b)) then
                                        some false
                                      else
                                        some true
                              else
                                some false
                            else
                              some false
                          else
                            some false
                      else
                        none
                    else
                      none
                  else
                    none
                else
                  none
              else
                none
            else
              bif (decide (b < (a.barriers.length : Int))) then
                bif (decide (0 ≤ b)) then
                  bif (Nat.ble b.toNat (List.length x8)) then
                    bif (decide (0 ≤ (w64 (b + 1)))) then
                      bif (Nat.ble (w64 (b + 1)).toNat (List.length x8)) then
                        bif (Nat.ble (0 + b.toNat + List.length (List.take ((List.length x8) - (w64 (b + 1)).toNat) (List.drop (w64 (b + 1)).toNat x8))) (List.length x8)) then
                          (g_desc_Check (DescT.mk a.period a.deadline a.parts a.edges a.futures x6)).bind fun x45 =>
                          bif (x45 == 0) then
                            (g_desc_Check (DescT.mk a.period a.deadline a.parts a.edges a.futures x7)).bind fun x46 =>
                            bif (x46 == 0) then
                              (g_desc_Check (DescT.mk a.period a.deadline a.parts a.edges a.futures (List.take (b.toNat + List.length (List.take ((List.length x8) - (w64 (b + 1)).toNat) (List.drop (w64 (b + 1)).toNat x8))) (List.drop 0 (List.take (0 + b.toNat) x8 ++ ((List.take ((List.length x8) - (w64 (b + 1)).toNat) (List.drop (w64 (b + 1)).toNat x8)) ++ List.drop (0 + b.toNat + List.length (List.take ((List.length x8) - (w64 (b + 1)).toNat) (List.drop (w64 (b + 1)).toNat x8))) x8)))))).bind fun x47 =>
                              bif (x47 == 0) then
                                (g_desc_Same (DescT.mk a.period a.deadline a.parts a.edges a.futures x6) a).bind fun x48 =>
                                bif x48 then
                                  bif (decide ((a.edges.length : Int) ≤ b)) then
                                    (g_desc_Same (DescT.mk a.period a.deadline a.parts a.edges a.futures (List.take (b.toNat + List.length (List.take ((List.length x8) - (w64 (b + 1)).toNat) (List.drop (w64 (b + 1)).toNat x8))) (List.drop 0 (List.take (0 + b.toNat) x8 ++ ((List.take ((List.length x8) - (w64 (b + 1)).toNat) (List.drop (w64 (b + 1)).toNat x8)) ++ List.drop (0 + b.toNat + List.length (List.take ((List.length x8) - (w64 (b + 1)).toNat) (List.drop (w64 (b + 1)).toNat x8))) x8))))) a).bind fun x49 =>
                                    bif x49 then
                                      bif (decide ((a.barriers.length : Int) ≤ b)) then
                                        some true
                                      else
                                        some false
                                    else
                                      bif (decide ((a.barriers.length : Int) ≤ b)) then
                                        some false
                                      else
                                        some true
                                  else
                                    some false
                                else
                                  bif (decide ((a.edges.length : Int) ≤ b)) then
                                    some false
                                  else
                                    (g_desc_Same (DescT.mk a.period a.deadline a.parts a.edges a.futures (List.take (b.toNat + List.length (List.take ((List.length x8) - (w64 (b + 1)).toNat) (List.drop (w64 (b + 1)).toNat x8))) (List.drop 0 (List.take (0 + b.toNat) x8 ++ ((List.take ((List.length x8) - (w64 (b + 1)).toNat) (List.drop (w64 (b + 1)).toNat x8)) ++ List.drop (0 + b.toNat + List.length (List.take ((List.length x8) - (w64 (b + 1)).toNat) (List.drop (w64 (b + 1)).toNat x8))) x8))))) a).bind fun x50 =>
                                    bif x50 then
                                      bif (decide ((a.barriers.length : Int) ≤ b)) then
                                        some true
                                      else
                                        some false
                                    else
                                      bif (decide ((a.barriers.length : Int) ≤ b)) then
                                        some false
                                      else
                                        some true
                              else
                                some false
                            else
                              some false
                          else
                            some false
                        else
                          none
                      else
                        none
                    else
                      none
                  else
                    none
                else
                  none
              else
                (g_desc_Check (DescT.mk a.period a.deadline a.parts a.edges a.futures x6)).bind fun x51 =>
                bif (x51 == 0) then
                  (g_desc_Check (DescT.mk a.period a.deadline a.parts a.edges a.futures x7)).bind fun x52 =>
                  bif (x52 == 0) then
                    (g_desc_Check (DescT.mk a.period a.deadline a.parts a.edges a.futures x8)).bind fun x53 =>
                    bif (x53 == 0) then
                      (g_desc_Same (DescT.mk a.period a.deadline a.parts a.edges a.futures x6) a).bind fun x54 =>
                      bif x54 then
                        bif (decide ((a.edges.length : Int) ≤ b)) then
                          (g_desc_Same (DescT.mk a.period a.deadline a.parts a.edges a.futures x8) a).bind fun x55 =>
                          bif x55 then
                            bif (decide ((a.barriers.length : Int) ≤ b)) then
                              some true
                            else
                              some false
                          else
                            bif (decide ((a.barriers.length : Int) ≤ b)) then
                              some false
                            else
                              some true
                        else
                          some false
                      else
                        bif (decide ((a.edges.length : Int) ≤ b)) then
                          some false
                        else
                          (g_desc_Same (DescT.mk a.period a.deadline a.parts a.edges a.futures x8) a).bind fun x56 =>
                          bif x56 then
                            bif (decide ((a.barriers.length : Int) ≤ b)) then
                              some true
                            else
                              some false
                          else
                            bif (decide ((a.barriers.length : Int) ≤ b)) then
                              some false
                            else
                              some true
                    else
                      some false
                  else
                    some false
                else
                  some false
    else
      g_law05_awake.bind fun x57 =>
      bif x57 then
        some true
      else
        some false
  else
    g_law05_awake.bind fun x58 =>
    bif x58 then
      some true
    else
      some false
noncomputable def g_law05_DescSame (a : DescT) (b : Int) : Option Bool :=
  g_law05_awake.bind fun x0 =>
  bif x0 then
    (g_ref05_Few a).bind fun x1 =>
    bif x1 then
      (g_law05_Own a).bind fun x2 =>
      (g_law05_Own a).bind fun x3 =>
      (g_law05_Own a).bind fun x4 =>
      (g_law05_Own a).bind fun x5 =>
      (g_desc_Same (DescT.mk a.period a.deadline a.parts a.edges a.futures x4) (DescT.mk a.period a.deadline a.parts a.edges a.futures x5)).bind fun x6 =>
      bif x6 then
        (g_desc_Same a (DescT.mk b a.deadline a.parts a.edges a.futures x2)).bind fun x7 =>
        bif x7 then
          bif (b == a.period) then
            (g_desc_Same a (DescT.mk a.period b a.parts a.edges a.futures x3)).bind fun x8 =>
            bif x8 then
              bif (b == a.deadline) then
                some true
              else
                some false
            else
              bif (b == a.deadline) then
                some false
              else
                some true
          else
            some false
        else
          bif (b == a.period) then
            some false
          else
            (g_desc_Same a (DescT.mk a.period b a.parts a.edges a.futures x3)).bind fun x9 =>
            bif x9 then
              bif (b == a.deadline) then
                some true
              else
                some false
            else
              bif (b == a.deadline) then
                some false
              else
                some true
      else
        some false
    else
      g_law05_awake.bind fun x10 =>
      bif x10 then
        some true
      else
        some false
  else
    g_law05_awake.bind fun x11 =>
    bif x11 then
      some true
    else
      some false
noncomputable def g_desc_Touches_1 (a : Int) (b : Int) (c4 : (List FutureT)) : Option Int :=
  (getI c4 a).bind fun x0 =>
  (getI c4 b).bind fun x1 =>
  some (w64 (x0.pos - x1.pos))
noncomputable def g_math_bits_Len64 (a : Int) : Option Int :=
  bif (decide (4294967296 ≤ a)) then
    bif (decide (65536 ≤ (Int.fdiv a (2 ^ 32)))) then
      bif (decide (256 ≤ (Int.fdiv (Int.fdiv a (2 ^ 32)) (2 ^ 16)))) then
        bif (decide (0 ≤ (IntKind.u8.wrap (Int.fdiv (Int.fdiv (Int.fdiv a (2 ^ 32)) (2 ^ 16)) (2 ^ 8))))) then
          (str0[(IntKind.u8.wrap (Int.fdiv (Int.fdiv (Int.fdiv a (2 ^ 32)) (2 ^ 16)) (2 ^ 8))).toNat]?).bind fun x0 =>
          some (w64 (56 + (w64 (x0.toNat : Int))))
        else
          none
      else
        bif (decide (0 ≤ (IntKind.u8.wrap (Int.fdiv (Int.fdiv a (2 ^ 32)) (2 ^ 16))))) then
          (str0[(IntKind.u8.wrap (Int.fdiv (Int.fdiv a (2 ^ 32)) (2 ^ 16))).toNat]?).bind fun x1 =>
          some (w64 (48 + (w64 (x1.toNat : Int))))
        else
          none
    else
      bif (decide (256 ≤ (Int.fdiv a (2 ^ 32)))) then
        bif (decide (0 ≤ (IntKind.u8.wrap (Int.fdiv (Int.fdiv a (2 ^ 32)) (2 ^ 8))))) then
          (str0[(IntKind.u8.wrap (Int.fdiv (Int.fdiv a (2 ^ 32)) (2 ^ 8))).toNat]?).bind fun x2 =>
          some (w64 (40 + (w64 (x2.toNat : Int))))
        else
          none
      else
        bif (decide (0 ≤ (IntKind.u8.wrap (Int.fdiv a (2 ^ 32))))) then
          (str0[(IntKind.u8.wrap (Int.fdiv a (2 ^ 32))).toNat]?).bind fun x3 =>
          some (w64 (32 + (w64 (x3.toNat : Int))))
        else
          none
  else
    bif (decide (65536 ≤ a)) then
      bif (decide (256 ≤ (Int.fdiv a (2 ^ 16)))) then
        bif (decide (0 ≤ (IntKind.u8.wrap (Int.fdiv (Int.fdiv a (2 ^ 16)) (2 ^ 8))))) then
          (str0[(IntKind.u8.wrap (Int.fdiv (Int.fdiv a (2 ^ 16)) (2 ^ 8))).toNat]?).bind fun x4 =>
          some (w64 (24 + (w64 (x4.toNat : Int))))
        else
          none
      else
        bif (decide (0 ≤ (IntKind.u8.wrap (Int.fdiv a (2 ^ 16))))) then
          (str0[(IntKind.u8.wrap (Int.fdiv a (2 ^ 16))).toNat]?).bind fun x5 =>
          some (w64 (16 + (w64 (x5.toNat : Int))))
        else
          none
    else
      bif (decide (256 ≤ a)) then
        bif (decide (0 ≤ (IntKind.u8.wrap (Int.fdiv a (2 ^ 8))))) then
          (str0[(IntKind.u8.wrap (Int.fdiv a (2 ^ 8))).toNat]?).bind fun x6 =>
          some (w64 (8 + (w64 (x6.toNat : Int))))
        else
          none
      else
        bif (decide (0 ≤ (IntKind.u8.wrap a))) then
          (str0[(IntKind.u8.wrap a).toNat]?).bind fun x7 =>
          some (w64 (0 + (w64 (x7.toNat : Int))))
        else
          none
noncomputable def g_math_bits_Len (a : Int) : Option Int :=
  (g_math_bits_Len64 a).bind fun x0 =>
  some x0
noncomputable def g_slices_insertionSortCmpFunc_int_L0 (b : Int) (d : (Int → Int → Option Int)) (s1 : Int × (List Int)) : Option ((Int × (List Int)) ⊕ (List Int)) :=
  bif (decide (b < s1.1)) then
    (getI s1.2 s1.1).bind fun x2 =>
    (getI s1.2 (w64 (s1.1 - 1))).bind fun x3 =>
    (d x2 x3).bind fun x4 =>
    bif (decide (x4 < 0)) then
      (getI (List.set s1.2 s1.1.toNat x3) (w64 (s1.1 - 1))).bind fun x5 =>
      some (.inl ((w64 (s1.1 - 1)), (List.set (List.set s1.2 s1.1.toNat x3) (w64 (s1.1 - 1)).toNat x2)))
    else
      some (.inr s1.2)
  else
    some (.inr s1.2)

noncomputable def g_slices_insertionSortCmpFunc_int_L1 (b : Int) (c : Int) (d : (Int → Int → Option Int)) (s0 : Int × (List Int)) : Option ((Int × (List Int)) ⊕ (List Int)) :=
  bif (decide (s0.1 < c)) then
    (lp (g_slices_insertionSortCmpFunc_int_L0 b d) (s0.1, s0.2)).bind fun r6 =>
    some (.inl ((w64 (s0.1 + 1)), r6))
  else
    some (.inr s0.2)

noncomputable def g_slices_insertionSortCmpFunc_int (b : Int) (c : Int) (d : (Int → Int → Option Int)) (m0_0 : (List Int)) : Option (List Int) :=
  (lp (g_slices_insertionSortCmpFunc_int_L1 b c d) ((w64 (b + 1)), m0_0)).bind fun r7 =>
  some r7
noncomputable def g_slices_siftDownCmpFunc_int_L0 (c : Int) (d : Int) (e : (Int → Int → Option Int)) (s0 : Int × (List Int)) : Option ((Int × (List Int)) ⊕ ((List Int) ⊕ (List Int))) :=
  bif (decide (c ≤ (w64 ((w64 (2 * s0.1)) + 1)))) then
    some (.inr (.inl s0.2))
  else
    bif (decide ((w64 ((w64 ((w64 (2 * s0.1)) + 1)) + 1)) < c)) then
      (getI s0.2 (w64 (d + (w64 ((w64 (2 * s0.1)) + 1))))).bind fun x1 =>
      (getI s0.2 (w64 ((w64 (d + (w64 ((w64 (2 * s0.1)) + 1)))) + 1))).bind fun x2 =>
      (e x1 x2).bind fun x3 =>
      bif (decide (x3 < 0)) then
        (getI s0.2 (w64 (d + s0.1))).bind fun x4 =>
        (getI s0.2 (w64 (d + (w64 ((w64 ((w64 (2 * s0.1)) + 1)) + 1))))).bind fun x5 =>
        (e x4 x5).bind fun x6 =>
        bif (decide (x6 < 0)) then
          (getI (List.set s0.2 (w64 (d + s0.1)).toNat x5) (w64 (d + (w64 ((w64 ((w64 (2 * s0.1)) + 1)) + 1))))).bind fun x7 =>
          some (.inl ((w64 ((w64 ((w64 (2 * s0.1)) + 1)) + 1)), (List.set (List.set s0.2 (w64 (d + s0.1)).toNat x5) (w64 (d + (w64 ((w64 ((w64 (2 * s0.1)) + 1)) + 1)))).toNat x4)))
        else
          some (.inr (.inr s0.2))
      else
        (getI s0.2 (w64 (d + s0.1))).bind fun x8 =>
        (e x8 x1).bind fun x9 =>
        bif (decide (x9 < 0)) then
          (getI (List.set s0.2 (w64 (d + s0.1)).toNat x1) (w64 (d + (w64 ((w64 (2 * s0.1)) + 1))))).bind fun x10 =>
          some (.inl ((w64 ((w64 (2 * s0.1)) + 1)), (List.set (List.set s0.2 (w64 (d + s0.1)).toNat x1) (w64 (d + (w64 ((w64 (2 * s0.1)) + 1)))).toNat x8)))
        else
          some (.inr (.inr s0.2))
    else
      (getI s0.2 (w64 (d + s0.1))).bind fun x11 =>
      (getI s0.2 (w64 (d + (w64 ((w64 (2 * s0.1)) + 1))))).bind fun x12 =>
      (e x11 x12).bind fun x13 =>
      bif (decide (x13 < 0)) then
        (getI (List.set s0.2 (w64 (d + s0.1)).toNat x12) (w64 (d + (w64 ((w64 (2 * s0.1)) + 1))))).bind fun x14 =>
        some (.inl ((w64 ((w64 (2 * s0.1)) + 1)), (List.set (List.set s0.2 (w64 (d + s0.1)).toNat x12) (w64 (d + (w64 ((w64 (2 * s0.1)) + 1)))).toNat x11)))
      else
        some (.inr (.inr s0.2))

noncomputable def g_slices_siftDownCmpFunc_int (b : Int) (c : Int) (d : Int) (e : (Int → Int → Option Int)) (m0_0 : (List Int)) : Option (List Int) :=
  (lp (g_slices_siftDownCmpFunc_int_L0 c d e) (b, m0_0)).bind fun r15 =>
  match r15 with
  | (.inl r15) =>
    some r15
  | (.inr r15) =>
    some r15
noncomputable def g_slices_heapSortCmpFunc_int_L0 (b : Int) (c : Int) (d : (Int → Int → Option Int)) (s0 : Int × (List Int)) : Option ((Int × (List Int)) ⊕ (List Int)) :=
  bif (decide (0 ≤ s0.1)) then
    (g_slices_siftDownCmpFunc_int s0.1 (w64 (c - b)) b d s0.2).bind fun x1 =>
    some (.inl ((w64 (s0.1 - 1)), x1))
  else
    some (.inr s0.2)

noncomputable def g_slices_heapSortCmpFunc_int_L1 (b : Int) (d : (Int → Int → Option Int)) (s3 : Int × (List Int)) : Option ((Int × (List Int)) ⊕ (List Int)) :=
  bif (decide (0 ≤ s3.1)) then
    (getI s3.2 (w64 (b + s3.1))).bind fun x4 =>
    (getI s3.2 b).bind fun x5 =>
    (getI (List.set s3.2 b.toNat x4) (w64 (b + s3.1))).bind fun x6 =>
    (g_slices_siftDownCmpFunc_int 0 s3.1 b d (List.set (List.set s3.2 b.toNat x4) (w64 (b + s3.1)).toNat x5)).bind fun x7 =>
    some (.inl ((w64 (s3.1 - 1)), x7))
  else
    some (.inr s3.2)

noncomputable def g_slices_heapSortCmpFunc_int (b : Int) (c : Int) (d : (Int → Int → Option Int)) (m0_0 : (List Int)) : Option (List Int) :=
  (lp (g_slices_heapSortCmpFunc_int_L0 b c d) ((w64 (Int.tdiv (w64 ((w64 (c - b)) - 1)) 2)), m0_0)).bind fun r2 =>
  (lp (g_slices_heapSortCmpFunc_int_L1 b d) ((w64 ((w64 (c - b)) - 1)), r2)).bind fun r8 =>
  some r8
noncomputable def g_slices_order2CmpFunc_int (b : Int) (c : Int) (e : (Int → Int → Option Int)) (m0_0 : (List Int)) (m1_0 : Int) : Option (Int × Int × Int) :=
  (getI m0_0 c).bind fun x0 =>
  (getI m0_0 b).bind fun x1 =>
  (e x0 x1).bind fun x2 =>
  bif (decide (x2 < 0)) then
    some (c, b, (w64 (m1_0 + 1)))
  else
    some (b, c, m1_0)
noncomputable def g_slices_medianCmpFunc_int (b : Int) (c : Int) (d : Int) (f : (Int → Int → Option Int)) (m0_0 : (List Int)) (m1_0 : Int) : Option (Int × Int) :=
  (g_slices_order2CmpFunc_int b c f m0_0 m1_0).bind fun x0 =>
  (g_slices_order2CmpFunc_int x0.2.1 d f m0_0 x0.2.2).bind fun x1 =>
  (g_slices_order2CmpFunc_int x0.1 x1.1 f m0_0 x1.2.2).bind fun x2 =>
  some (x2.2.1, x2.2.2)
noncomputable def g_slices_medianAdjacentCmpFunc_int (b : Int) (d : (Int → Int → Option Int)) (m0_0 : (List Int)) (m1_0 : Int) : Option (Int × Int) :=
  (g_slices_medianCmpFunc_int (w64 (b - 1)) b (w64 (b + 1)) d m0_0 m1_0).bind fun x0 =>
  some (x0.1, x0.2)
noncomputable def g_slices_choosePivotCmpFunc_int (b : Int) (c : Int) (d : (Int → Int → Option Int)) (m0_0 : (List Int)) : Option (Int × Int) :=
  bif (decide (8 ≤ (w64 (c - b)))) then
    bif (decide (50 ≤ (w64 (c - b)))) then
      (g_slices_medianAdjacentCmpFunc_int (w64 (b + (w64 ((w64 (Int.tdiv (w64 (c - b)) 4)) * 1)))) d m0_0 0).bind fun x0 =>
      (g_slices_medianAdjacentCmpFunc_int (w64 (b + (w64 ((w64 (Int.tdiv (w64 (c - b)) 4)) * 2)))) d m0_0 x0.2).bind fun x1 =>
      (g_slices_medianAdjacentCmpFunc_int (w64 (b + (w64 ((w64 (Int.tdiv (w64 (c - b)) 4)) * 3)))) d m0_0 x1.2).bind fun x2 =>
      (g_slices_medianCmpFunc_int x0.1 x1.1 x2.1 d m0_0 x2.2).bind fun x3 =>
      bif (x3.2 == 0) then
        some (x3.1, 1)
      else
        bif (x3.2 == 12) then
          some (x3.1, 2)
        else
          some (x3.1, 0)
    else
      (g_slices_medianCmpFunc_int (w64 (b + (w64 ((w64 (Int.tdiv (w64 (c - b)) 4)) * 1)))) (w64 (b + (w64 ((w64 (Int.tdiv (w64 (c - b)) 4)) * 2)))) (w64 (b + (w64 ((w64 (Int.tdiv (w64 (c - b)) 4)) * 3)))) d m0_0 0).bind fun x4 =>
      bif (x4.2 == 0) then
        some (x4.1, 1)
      else
        bif (x4.2 == 12) then
          some (x4.1, 2)
        else
          some (x4.1, 0)
  else
    some ((w64 (b + (w64 ((w64 (Int.tdiv (w64 (c - b)) 4)) * 2)))), 1)
noncomputable def g_slices_reverseRangeCmpFunc_int_L0 (s0 : Int × Int × (List Int)) : Option ((Int × Int × (List Int)) ⊕ (List Int)) :=
  bif (decide (s0.1 < s0.2.1)) then
    (getI s0.2.2 s0.2.1).bind fun x1 =>
    (getI s0.2.2 s0.1).bind fun x2 =>
    (getI (List.set s0.2.2 s0.1.toNat x1) s0.2.1).bind fun x3 =>
    some (.inl ((w64 (s0.1 + 1)), (w64 (s0.2.1 - 1)), (List.set (List.set s0.2.2 s0.1.toNat x1) s0.2.1.toNat x2)))
  else
    some (.inr s0.2.2)

noncomputable def g_slices_reverseRangeCmpFunc_int (b : Int) (c : Int) (d : (Int → Int → Option Int)) (m0_0 : (List Int)) : Option (List Int) :=
  (lp (g_slices_reverseRangeCmpFunc_int_L0) (b, (w64 (c - 1)), m0_0)).bind fun r4 =>
  some r4
noncomputable def g_slices_partialInsertionSortCmpFunc_int_L0 (c : Int) (d : (Int → Int → Option Int)) (s0 : Int × Int × (List Int)) (s1 : Int) : Option (Int ⊕ Int) :=
  bif (decide (s1 < c)) then
    (getI s0.2.2 s1).bind fun x2 =>
    (getI s0.2.2 (w64 (s1 - 1))).bind fun x3 =>
    (d x2 x3).bind fun x4 =>
    bif (decide (x4 < 0)) then
      some (.inr s1)
    else
      some (.inl (w64 (s1 + 1)))
  else
    some (.inr s1)

noncomputable def g_slices_partialInsertionSortCmpFunc_int_L1 (d : (Int → Int → Option Int)) (s9 : Int × (List Int)) : Option ((Int × (List Int)) ⊕ (List Int)) :=
  bif (decide (1 ≤ s9.1)) then
    (getI s9.2 s9.1).bind fun x10 =>
    (getI s9.2 (w64 (s9.1 - 1))).bind fun x11 =>
    (d x10 x11).bind fun x12 =>
    bif (decide (x12 < 0)) then
      (getI (List.set s9.2 s9.1.toNat x11) (w64 (s9.1 - 1))).bind fun x13 =>
      some (.inl ((w64 (s9.1 - 1)), (List.set (List.set s9.2 s9.1.toNat x11) (w64 (s9.1 - 1)).toNat x10)))
    else
      some (.inr s9.2)
  else
    some (.inr s9.2)

noncomputable def g_slices_partialInsertionSortCmpFunc_int_L2 (c : Int) (d : (Int → Int → Option Int)) (s15 : Int × (List Int)) : Option ((Int × (List Int)) ⊕ (List Int)) :=
  bif (decide (s15.1 < c)) then
    (getI s15.2 s15.1).bind fun x16 =>
    (getI s15.2 (w64 (s15.1 - 1))).bind fun x17 =>
    (d x16 x17).bind fun x18 =>
    bif (decide (x18 < 0)) then
      (getI (List.set s15.2 s15.1.toNat x17) (w64 (s15.1 - 1))).bind fun x19 =>
      some (.inl ((w64 (s15.1 + 1)), (List.set (List.set s15.2 s15.1.toNat x17) (w64 (s15.1 - 1)).toNat x16)))
    else
      some (.inr s15.2)
  else
    some (.inr s15.2)

noncomputable def g_slices_partialInsertionSortCmpFunc_int_L2_2 (c : Int) (d : (Int → Int → Option Int)) (s21 : Int × (List Int)) : Option ((Int × (List Int)) ⊕ (List Int)) :=
  bif (decide (s21.1 < c)) then
    (getI s21.2 s21.1).bind fun x22 =>
    (getI s21.2 (w64 (s21.1 - 1))).bind fun x23 =>
    (d x22 x23).bind fun x24 =>
    bif (decide (x24 < 0)) then
      (getI (List.set s21.2 s21.1.toNat x23) (w64 (s21.1 - 1))).bind fun x25 =>
      some (.inl ((w64 (s21.1 + 1)), (List.set (List.set s21.2 s21.1.toNat x23) (w64 (s21.1 - 1)).toNat x22)))
    else
      some (.inr s21.2)
  else
    some (.inr s21.2)

noncomputable def g_slices_partialInsertionSortCmpFunc_int_L3 (b : Int) (c : Int) (d : (Int → Int → Option Int)) (s0 : Int × Int × (List Int)) : Option ((Int × Int × (List Int)) ⊕ ((List Int) ⊕ ((List Int) ⊕ (List Int)))) :=
  bif (decide (s0.2.1 < 5)) then
    (lp (g_slices_partialInsertionSortCmpFunc_int_L0 c d s0) s0.1).bind fun r5 =>
    bif (r5 == c) then
      some (.inr (.inl s0.2.2))
    else
      bif (decide ((w64 (c - b)) < 50)) then
        some (.inr (.inr (.inl s0.2.2)))
      else
        (getI s0.2.2 (w64 (r5 - 1))).bind fun x6 =>
        (getI s0.2.2 r5).bind fun x7 =>
        (getI (List.set s0.2.2 r5.toNat x6) (w64 (r5 - 1))).bind fun x8 =>
        bif (decide (2 ≤ (w64 (r5 - b)))) then
          (lp (g_slices_partialInsertionSortCmpFunc_int_L1 d) ((w64 (r5 - 1)), (List.set (List.set s0.2.2 r5.toNat x6) (w64 (r5 - 1)).toNat x7))).bind fun r14 =>
          bif (decide (2 ≤ (w64 (c - r5)))) then
            (lp (g_slices_partialInsertionSortCmpFunc_int_L2 c d) ((w64 (r5 + 1)), r14)).bind fun r20 =>
            some (.inl (r5, (w64 (s0.2.1 + 1)), r20))
          else
            some (.inl (r5, (w64 (s0.2.1 + 1)), r14))
        else
          bif (decide (2 ≤ (w64 (c - r5)))) then
            (lp (g_slices_partialInsertionSortCmpFunc_int_L2_2 c d) ((w64 (r5 + 1)), (List.set (List.set s0.2.2 r5.toNat x6) (w64 (r5 - 1)).toNat x7))).bind fun r26 =>
            some (.inl (r5, (w64 (s0.2.1 + 1)), r26))
          else
            some (.inl (r5, (w64 (s0.2.1 + 1)), (List.set (List.set s0.2.2 r5.toNat x6) (w64 (r5 - 1)).toNat x7)))
  else
    some (.inr (.inr (.inr s0.2.2)))

noncomputable def g_slices_partialInsertionSortCmpFunc_int (b : Int) (c : Int) (d : (Int → Int → Option Int)) (m0_0 : (List Int)) : Option ((List Int) ⊕ (List Int)) :=
  (lp (g_slices_partialInsertionSortCmpFunc_int_L3 b c d) ((w64 (b + 1)), 0, m0_0)).bind fun r27 =>
  match r27 with
  | (.inl r27) =>
    some (.inl r27)
  | (.inr (.inl r27)) =>
    some (.inr r27)
  | (.inr (.inr r27)) =>
    some (.inr r27)
noncomputable def g_slices_partitionCmpFunc_int_L0 (b : Int) (c : Int) (d : Int) (m0_0 : (List Int)) (e : (Int → Int → Option Int)) (x0 : Int) (x1 : Int) (s3 : Int) : Option (Int ⊕ Int) :=
  bif (decide (s3 ≤ (w64 (c - 1)))) then
    (getI (List.set (List.set m0_0 b.toNat x0) d.toNat x1) s3).bind fun x4 =>
    (getI (List.set (List.set m0_0 b.toNat x0) d.toNat x1) b).bind fun x5 =>
    (e x4 x5).bind fun x6 =>
    bif (decide (x6 < 0)) then
      some (.inl (w64 (s3 + 1)))
    else
      some (.inr s3)
  else
    some (.inr s3)

noncomputable def g_slices_partitionCmpFunc_int_L1 (b : Int) (d : Int) (m0_0 : (List Int)) (e : (Int → Int → Option Int)) (x0 : Int) (x1 : Int) (r7 : Int) (s8 : Int) : Option (Int ⊕ Int) :=
  bif (decide (r7 ≤ s8)) then
    (getI (List.set (List.set m0_0 b.toNat x0) d.toNat x1) s8).bind fun x9 =>
    (getI (List.set (List.set m0_0 b.toNat x0) d.toNat x1) b).bind fun x10 =>
    (e x9 x10).bind fun x11 =>
    bif (decide (x11 < 0)) then
      some (.inr s8)
    else
      some (.inl (w64 (s8 - 1)))
  else
    some (.inr s8)

noncomputable def g_slices_partitionCmpFunc_int_L2 (b : Int) (e : (Int → Int → Option Int)) (s19 : Int × Int × (List Int)) (s20 : Int) : Option (Int ⊕ Int) :=
  bif (decide (s20 ≤ s19.2.1)) then
    (getI s19.2.2 s20).bind fun x21 =>
    (getI s19.2.2 b).bind fun x22 =>
    (e x21 x22).bind fun x23 =>
    bif (decide (x23 < 0)) then
      some (.inl (w64 (s20 + 1)))
    else
      some (.inr s20)
  else
    some (.inr s20)

noncomputable def g_slices_partitionCmpFunc_int_L3 (b : Int) (e : (Int → Int → Option Int)) (s19 : Int × Int × (List Int)) (r24 : Int) (s25 : Int) : Option (Int ⊕ Int) :=
  bif (decide (r24 ≤ s25)) then
    (getI s19.2.2 s25).bind fun x26 =>
    (getI s19.2.2 b).bind fun x27 =>
    (e x26 x27).bind fun x28 =>
    bif (decide (x28 < 0)) then
      some (.inr s25)
    else
      some (.inl (w64 (s25 - 1)))
  else
    some (.inr s25)

noncomputable def g_slices_partitionCmpFunc_int_L4 (b : Int) (e : (Int → Int → Option Int)) (s19 : Int × Int × (List Int)) : Option ((Int × Int × (List Int)) ⊕ (Int × (List Int))) :=
  (lp (g_slices_partitionCmpFunc_int_L2 b e s19) s19.1).bind fun r24 =>
  (lp (g_slices_partitionCmpFunc_int_L3 b e s19 r24) s19.2.1).bind fun r29 =>
  bif (decide (r29 < r24)) then
    some (.inr (r29, s19.2.2))
  else
    (getI s19.2.2 r29).bind fun x30 =>
    (getI s19.2.2 r24).bind fun x31 =>
    (getI (List.set s19.2.2 r24.toNat x30) r29).bind fun x32 =>
    some (.inl ((w64 (r24 + 1)), (w64 (r29 - 1)), (List.set (List.set s19.2.2 r24.toNat x30) r29.toNat x31)))

noncomputable def g_slices_partitionCmpFunc_int (b : Int) (c : Int) (d : Int) (e : (Int → Int → Option Int)) (m0_0 : (List Int)) : Option ((Int × (List Int)) ⊕ (Int × (List Int))) :=
  (getI m0_0 d).bind fun x0 =>
  (getI m0_0 b).bind fun x1 =>
  (getI (List.set m0_0 b.toNat x0) d).bind fun x2 =>
  (lp (g_slices_partitionCmpFunc_int_L0 b c d m0_0 e x0 x1) (w64 (b + 1))).bind fun r7 =>
  (lp (g_slices_partitionCmpFunc_int_L1 b d m0_0 e x0 x1 r7) (w64 (c - 1))).bind fun r12 =>
  bif (decide (r12 < r7)) then
    (getI (List.set (List.set m0_0 b.toNat x0) d.toNat x1) b).bind fun x13 =>
    (getI (List.set (List.set m0_0 b.toNat x0) d.toNat x1) r12).bind fun x14 =>
    (getI (List.set (List.set (List.set m0_0 b.toNat x0) d.toNat x1) r12.toNat x13) b).bind fun x15 =>
    some (.inl (r12, (List.set (List.set (List.set (List.set m0_0 b.toNat x0) d.toNat x1) r12.toNat x13) b.toNat x14)))
  else
    (getI (List.set (List.set m0_0 b.toNat x0) d.toNat x1) r12).bind fun x16 =>
    (getI (List.set (List.set m0_0 b.toNat x0) d.toNat x1) r7).bind fun x17 =>
    (getI (List.set (List.set (List.set m0_0 b.toNat x0) d.toNat x1) r7.toNat x16) r12).bind fun x18 =>
    (lp (g_slices_partitionCmpFunc_int_L4 b e) ((w64 (r7 + 1)), (w64 (r12 - 1)), (List.set (List.set (List.set (List.set m0_0 b.toNat x0) d.toNat x1) r7.toNat x16) r12.toNat x17))).bind fun r33 =>
    (getI r33.2 b).bind fun x34 =>
    (getI r33.2 r33.1).bind fun x35 =>
    (getI (List.set r33.2 r33.1.toNat x34) b).bind fun x36 =>
    some (.inr (r33.1, (List.set (List.set r33.2 r33.1.toNat x34) b.toNat x35)))
noncomputable def g_slices_partitionEqualCmpFunc_int_L0 (b : Int) (e : (Int → Int → Option Int)) (s3 : Int × Int × (List Int)) (s4 : Int) : Option (Int ⊕ Int) :=
  bif (decide (s4 ≤ s3.2.1)) then
    (getI s3.2.2 b).bind fun x5 =>
    (getI s3.2.2 s4).bind fun x6 =>
    (e x5 x6).bind fun x7 =>
    bif (decide (x7 < 0)) then
      some (.inr s4)
    else
      some (.inl (w64 (s4 + 1)))
  else
    some (.inr s4)

noncomputable def g_slices_partitionEqualCmpFunc_int_L1 (b : Int) (e : (Int → Int → Option Int)) (s3 : Int × Int × (List Int)) (r8 : Int) (s9 : Int) : Option (Int ⊕ Int) :=
  bif (decide (r8 ≤ s9)) then
    (getI s3.2.2 b).bind fun x10 =>
    (getI s3.2.2 s9).bind fun x11 =>
    (e x10 x11).bind fun x12 =>
    bif (decide (x12 < 0)) then
      some (.inl (w64 (s9 - 1)))
    else
      some (.inr s9)
  else
    some (.inr s9)

noncomputable def g_slices_partitionEqualCmpFunc_int_L2 (b : Int) (e : (Int → Int → Option Int)) (s3 : Int × Int × (List Int)) : Option ((Int × Int × (List Int)) ⊕ (Int × (List Int))) :=
  (lp (g_slices_partitionEqualCmpFunc_int_L0 b e s3) s3.1).bind fun r8 =>
  (lp (g_slices_partitionEqualCmpFunc_int_L1 b e s3 r8) s3.2.1).bind fun r13 =>
  bif (decide (r13 < r8)) then
    some (.inr (r8, s3.2.2))
  else
    (getI s3.2.2 r13).bind fun x14 =>
    (getI s3.2.2 r8).bind fun x15 =>
    (getI (List.set s3.2.2 r8.toNat x14) r13).bind fun x16 =>
    some (.inl ((w64 (r8 + 1)), (w64 (r13 - 1)), (List.set (List.set s3.2.2 r8.toNat x14) r13.toNat x15)))

noncomputable def g_slices_partitionEqualCmpFunc_int (b : Int) (c : Int) (d : Int) (e : (Int → Int → Option Int)) (m0_0 : (List Int)) : Option (Int × (List Int)) :=
  (getI m0_0 d).bind fun x0 =>
  (getI m0_0 b).bind fun x1 =>
  (getI (List.set m0_0 b.toNat x0) d).bind fun x2 =>
  (lp (g_slices_partitionEqualCmpFunc_int_L2 b e) ((w64 (b + 1)), (w64 (c - 1)), (List.set (List.set m0_0 b.toNat x0) d.toNat x1))).bind fun r17 =>
  some (r17.1, r17.2)
noncomputable def g_slices_nextPowerOfTwo (a : Int) : Option Int :=
  (g_math_bits_Len (IntKind.u64.wrap a)).bind fun x0 =>
  bif (decide (x0 < 0)) then
    none
  else
    some (IntKind.u64.wrap (1 * 2 ^ (min (x0).toNat IntKind.u64.bits)))
noncomputable def g_slices_xorshift_Next : Option Unit :=
  some ()
noncomputable def g_slices_breakPatternsCmpFunc_int_L0 (b : Int) (c : Int) (x0 : Int) (s1 : Int × (List Int) × Int) : Option ((Int × (List Int) × Int) ⊕ (List Int)) :=
  bif (decide (s1.1 ≤ (w64 ((w64 (b + (w64 ((w64 (Int.tdiv (w64 (c - b)) 4)) * 2)))) + 1)))) then
    g_slices_xorshift_Next.bind fun x2 =>
    bif (decide ((w64 (c - b)) ≤ (w64 (IntKind.u64.wrap (BitVec.ofInt IntKind.u64.bits (IntKind.u64.wrap (BitVec.ofInt IntKind.u64.bits (IntKind.u64.wrap (BitVec.ofInt IntKind.u64.bits (IntKind.u64.wrap (BitVec.ofInt IntKind.u64.bits s1.2.2 ^^^ BitVec.ofInt IntKind.u64.bits (IntKind.u64.wrap (s1.2.2 * 2 ^ 13))).toNat) ^^^ BitVec.ofInt IntKind.u64.bits (Int.fdiv (IntKind.u64.wrap (BitVec.ofInt IntKind.u64.bits s1.2.2 ^^^ BitVec.ofInt IntKind.u64.bits (IntKind.u64.wrap (s1.2.2 * 2 ^ 13))).toNat) (2 ^ 7))).toNat) ^^^ BitVec.ofInt IntKind.u64.bits (IntKind.u64.wrap ((IntKind.u64.wrap (BitVec.ofInt IntKind.u64.bits (IntKind.u64.wrap (BitVec.ofInt IntKind.u64.bits s1.2.2 ^^^ BitVec.ofInt IntKind.u64.bits (IntKind.u64.wrap (s1.2.2 * 2 ^ 13))).toNat) ^^^ BitVec.ofInt IntKind.u64.bits (Int.fdiv (IntKind.u64.wrap (BitVec.ofInt IntKind.u64.bits s1.2.2 ^^^ BitVec.ofInt IntKind.u64.bits (IntKind.u64.wrap (s1.2.2 * 2 ^ 13))).toNat) (2 ^ 7))).toNat) * 2 ^ 17))).toNat) &&& BitVec.ofInt IntKind.u64.bits (IntKind.u64.wrap (x0 - 1))).toNat)))) then
      (getI s1.2.1 (w64 (b + (w64 ((w64 (IntKind.u64.wrap (BitVec.ofInt IntKind.u64.bits (IntKind.u64.wrap (BitVec.ofInt IntKind.u64.bits (IntKind.u64.wrap (BitVec.ofInt IntKind.u64.bits (IntKind.u64.wrap (BitVec.ofInt IntKind.u64.bits s1.2.2 ^^^ BitVec.ofInt IntKind.u64.bits (IntKind.u64.wrap (s1.2.2 * 2 ^ 13))).toNat) ^^^ BitVec.ofInt IntKind.u64.bits (Int.fdiv (IntKind.u64.wrap (BitVec.ofInt IntKind.u64.bits s1.2.2 ^^^ BitVec.ofInt IntKind.u64.bits (IntKind.u64.wrap (s1.2.2 * 2 ^ 13))).toNat) (2 ^ 7))).toNat) ^^^ BitVec.ofInt IntKind.u64.bits (IntKind.u64.wrap ((IntKind.u64.wrap (BitVec.ofInt IntKind.u64.bits (IntKind.u64.wrap (BitVec.ofInt IntKind.u64.bits s1.2.2 ^^^ BitVec.ofInt IntKind.u64.bits (IntKind.u64.wrap (s1.2.2 * 2 ^ 13))).toNat) ^^^ BitVec.ofInt IntKind.u64.bits (Int.fdiv (IntKind.u64.wrap (BitVec.ofInt IntKind.u64.bits s1.2.2 ^^^ BitVec.ofInt IntKind.u64.bits (IntKind.u64.wrap (s1.2.2 * 2 ^ 13))).toNat) (2 ^ 7))).toNat) * 2 ^ 17))).toNat) &&& BitVec.ofInt IntKind.u64.bits (IntKind.u64.wrap (x0 - 1))).toNat)) - (w64 (c - b))))))).bind fun x3 =>
      (getI s1.2.1 s1.1).bind fun x4 =>
      (getI (List.set s1.2.1 s1.1.toNat x3) (w64 (b + (w64 ((w64 (IntKind.u64.wrap (BitVec.ofInt IntKind.u64.bits (IntKind.u64.wrap (BitVec.ofInt IntKind.u64.bits (IntKind.u64.wrap (BitVec.ofInt IntKind.u64.bits (IntKind.u64.wrap (BitVec.ofInt IntKind.u64.bits s1.2.2 ^^^ BitVec.ofInt IntKind.u64.bits (IntKind.u64.wrap (s1.2.2 * 2 ^ 13))).toNat) ^^^ BitVec.ofInt IntKind.u64.bits (Int.fdiv (IntKind.u64.wrap (BitVec.ofInt IntKind.u64.bits s1.2.2 ^^^ BitVec.ofInt IntKind.u64.bits (IntKind.u64.wrap (s1.2.2 * 2 ^ 13))).toNat) (2 ^ 7))).toNat) ^^^ BitVec.ofInt IntKind.u64.bits (IntKind.u64.wrap ((IntKind.u64.wrap (BitVec.ofInt IntKind.u64.bits (IntKind.u64.wrap (BitVec.ofInt IntKind.u64.bits s1.2.2 ^^^ BitVec.ofInt IntKind.u64.bits (IntKind.u64.wrap (s1.2.2 * 2 ^ 13))).toNat) ^^^ BitVec.ofInt IntKind.u64.bits (Int.fdiv (IntKind.u64.wrap (BitVec.ofInt IntKind.u64.bits s1.2.2 ^^^ BitVec.ofInt IntKind.u64.bits (IntKind.u64.wrap (s1.2.2 * 2 ^ 13))).toNat) (2 ^ 7))).toNat) * 2 ^ 17))).toNat) &&& BitVec.ofInt IntKind.u64.bits (IntKind.u64.wrap (x0 - 1))).toNat)) - (w64 (c - b))))))).bind fun x5 =>
      some (.inl ((w64 (s1.1 + 1)), (List.set (List.set s1.2.1 s1.1.toNat x3) (w64 (b + (w64 ((w64 (IntKind.u64.wrap (BitVec.ofInt IntKind.u64.bits (IntKind.u64.wrap (BitVec.ofInt IntKind.u64.bits (IntKind.u64.wrap (BitVec.ofInt IntKind.u64.bits (IntKind.u64.wrap (BitVec.ofInt IntKind.u64.bits s1.2.2 ^^^ BitVec.ofInt IntKind.u64.bits (IntKind.u64.wrap (s1.2.2 * 2 ^ 13))).toNat) ^^^ BitVec.ofInt IntKind.u64.bits (Int.fdiv (IntKind.u64.wrap (BitVec.ofInt IntKind.u64.bits s1.2.2 ^^^ BitVec.ofInt IntKind.u64.bits (IntKind.u64.wrap (s1.2.2 * 2 ^ 13))).toNat) (2 ^ 7))).toNat) ^^^ BitVec.ofInt IntKind.u64.bits (IntKind.u64.wrap ((IntKind.u64.wrap (BitVec.ofInt IntKind.u64.bits (IntKind.u64.wrap (BitVec.ofInt IntKind.u64.bits s1.2.2 ^^^ BitVec.ofInt IntKind.u64.bits (IntKind.u64.wrap (s1.2.2 * 2 ^ 13))).toNat) ^^^ BitVec.ofInt IntKind.u64.bits (Int.fdiv (IntKind.u64.wrap (BitVec.ofInt IntKind.u64.bits s1.2.2 ^^^ BitVec.ofInt IntKind.u64.bits (IntKind.u64.wrap (s1.2.2 * 2 ^ 13))).toNat) (2 ^ 7))).toNat) * 2 ^ 17))).toNat) &&& BitVec.ofInt IntKind.u64.bits (IntKind.u64.wrap (x0 - 1))).toNat)) - (w64 (c - b)))))).toNat x4), (IntKind.u64.wrap (BitVec.ofInt IntKind.u64.bits (IntKind.u64.wrap (BitVec.ofInt IntKind.u64.bits (IntKind.u64.wrap (BitVec.ofInt IntKind.u64.bits s1.2.2 ^^^ BitVec.ofInt IntKind.u64.bits (IntKind.u64.wrap (s1.2.2 * 2 ^ 13))).toNat) ^^^ BitVec.ofInt IntKind.u64.bits (Int.fdiv (IntKind.u64.wrap (BitVec.ofInt IntKind.u64.bits s1.2.2 ^^^ BitVec.ofInt IntKind.u64.bits (IntKind.u64.wrap (s1.2.2 * 2 ^ 13))).toNat) (2 ^ 7))).toNat) ^^^ BitVec.ofInt IntKind.u64.bits (IntKind.u64.wrap ((IntKind.u64.wrap (BitVec.ofInt IntKind.u64.bits (IntKind.u64.wrap (BitVec.ofInt IntKind.u64.bits s1.2.2 ^^^ BitVec.ofInt IntKind.u64.bits (IntKind.u64.wrap (s1.2.2 * 2 ^ 13))).toNat) ^^^ BitVec.ofInt IntKind.u64.bits (Int.fdiv (IntKind.u64.wrap (BitVec.ofInt IntKind.u64.bits s1.2.2 ^^^ BitVec.ofInt IntKind.u64.bits (IntKind.u64.wrap (s1.2.2 * 2 ^ 13))).toNat) (2 ^ 7))).toNat) * 2 ^ 17))).toNat)))
    else
      (getI s1.2.1 (w64 (b + (w64 (IntKind.u64.wrap (BitVec.ofInt IntKind.u64.bits (IntKind.u64.wrap (BitVec.ofInt IntKind.u64.bits (IntKind.u64.wrap (BitVec.ofInt IntKind.u64.bits (IntKind.u64.wrap (BitVec.ofInt IntKind.u64.bits s1.2.2 ^^^ BitVec.ofInt IntKind.u64.bits (IntKind.u64.wrap (s1.2.2 * 2 ^ 13))).toNat) ^^^ BitVec.ofInt IntKind.u64.bits (Int.fdiv (IntKind.u64.wrap (BitVec.ofInt IntKind.u64.bits s1.2.2 ^^^ BitVec.ofInt IntKind.u64.bits (IntKind.u64.wrap (s1.2.2 * 2 ^ 13))).toNat) (2 ^ 7))).toNat) ^^^ BitVec.ofInt IntKind.u64.bits (IntKind.u64.wrap ((IntKind.u64.wrap (BitVec.ofInt IntKind.u64.bits (IntKind.u64.wrap (BitVec.ofInt IntKind.u64.bits s1.2.2 ^^^ BitVec.ofInt IntKind.u64.bits (IntKind.u64.wrap (s1.2.2 * 2 ^ 13))).toNat) ^^^ BitVec.ofInt IntKind.u64.bits (Int.fdiv (IntKind.u64.wrap (BitVec.ofInt IntKind.u64.bits s1.2.2 ^^^ BitVec.ofInt IntKind.u64.bits (IntKind.u64.wrap (s1.2.2 * 2 ^ 13))).toNat) (2 ^ 7))).toNat) * 2 ^ 17))).toNat) &&& BitVec.ofInt IntKind.u64.bits (IntKind.u64.wrap (x0 - 1))).toNat))))).bind fun x6 =>
      (getI s1.2.1 s1.1).bind fun x7 =>
      (getI (List.set s1.2.1 s1.1.toNat x6) (w64 (b + (w64 (IntKind.u64.wrap (BitVec.ofInt IntKind.u64.bits (IntKind.u64.wrap (BitVec.ofInt IntKind.u64.bits (IntKind.u64.wrap (BitVec.ofInt IntKind.u64.bits (IntKind.u64.wrap (BitVec.ofInt IntKind.u64.bits s1.2.2 ^^^ BitVec.ofInt IntKind.u64.bits (IntKind.u64.wrap (s1.2.2 * 2 ^ 13))).toNat) ^^^ BitVec.ofInt IntKind.u64.bits (Int.fdiv (IntKind.u64.wrap (BitVec.ofInt IntKind.u64.bits s1.2.2 ^^^ BitVec.ofInt IntKind.u64.bits (IntKind.u64.wrap (s1.2.2 * 2 ^ 13))).toNat) (2 ^ 7))).toNat) ^^^ BitVec.ofInt IntKind.u64.bits (IntKind.u64.wrap ((IntKind.u64.wrap (BitVec.ofInt IntKind.u64.bits (IntKind.u64.wrap (BitVec.ofInt IntKind.u64.bits s1.2.2 ^^^ BitVec.ofInt IntKind.u64.bits (IntKind.u64.wrap (s1.2.2 * 2 ^ 13))).toNat) ^^^ BitVec.ofInt IntKind.u64.bits (Int.fdiv (IntKind.u64.wrap (BitVec.ofInt IntKind.u64.bits s1.2.2 ^^^ BitVec.ofInt IntKind.u64.bits (IntKind.u64.wrap (s1.2.2 * 2 ^ 13))).toNat) (2 ^ 7))).toNat) * 2 ^ 17))).toNat) &&& BitVec.ofInt IntKind.u64.bits (IntKind.u64.wrap (x0 - 1))).toNat))))).bind fun x8 =>
      some (.inl ((w64 (s1.1 + 1)), (List.set (List.set s1.2.1 s1.1.toNat x6) (w64 (b + (w64 (IntKind.u64.wrap (BitVec.ofInt IntKind.u64.bits (IntKind.u64.wrap (BitVec.ofInt IntKind.u64.bits (IntKind.u64.wrap (BitVec.ofInt IntKind.u64.bits (IntKind.u64.wrap (BitVec.ofInt IntKind.u64.bits s1.2.2 ^^^ BitVec.ofInt IntKind.u64.bits (IntKind.u64.wrap (s1.2.2 * 2 ^ 13))).toNat) ^^^ BitVec.ofInt IntKind.u64.bits (Int.fdiv (IntKind.u64.wrap (BitVec.ofInt IntKind.u64.bits s1.2.2 ^^^ BitVec.ofInt IntKind.u64.bits (IntKind.u64.wrap (s1.2.2 * 2 ^ 13))).toNat) (2 ^ 7))).toNat) ^^^ BitVec.ofInt IntKind.u64.bits (IntKind.u64.wrap ((IntKind.u64.wrap (BitVec.ofInt IntKind.u64.bits (IntKind.u64.wrap (BitVec.ofInt IntKind.u64.bits s1.2.2 ^^^ BitVec.ofInt IntKind.u64.bits (IntKind.u64.wrap (s1.2.2 * 2 ^ 13))).toNat) ^^^ BitVec.ofInt IntKind.u64.bits (Int.fdiv (IntKind.u64.wrap (BitVec.ofInt IntKind.u64.bits s1.2.2 ^^^ BitVec.ofInt IntKind.u64.bits (IntKind.u64.wrap (s1.2.2 * 2 ^ 13))).toNat) (2 ^ 7))).toNat) * 2 ^ 17))).toNat) &&& BitVec.ofInt IntKind.u64.bits (IntKind.u64.wrap (x0 - 1))).toNat)))).toNat x7), (IntKind.u64.wrap (BitVec.ofInt IntKind.u64.bits (IntKind.u64.wrap (BitVec.ofInt IntKind.u64.bits (IntKind.u64.wrap (BitVec.ofInt IntKind.u64.bits s1.2.2 ^^^ BitVec.ofInt IntKind.u64.bits (IntKind.u64.wrap (s1.2.2 * 2 ^ 13))).toNat) ^^^ BitVec.ofInt IntKind.u64.bits (Int.fdiv (IntKind.u64.wrap (BitVec.ofInt IntKind.u64.bits s1.2.2 ^^^ BitVec.ofInt IntKind.u64.bits (IntKind.u64.wrap (s1.2.2 * 2 ^ 13))).toNat) (2 ^ 7))).toNat) ^^^ BitVec.ofInt IntKind.u64.bits (IntKind.u64.wrap ((IntKind.u64.wrap (BitVec.ofInt IntKind.u64.bits (IntKind.u64.wrap (BitVec.ofInt IntKind.u64.bits s1.2.2 ^^^ BitVec.ofInt IntKind.u64.bits (IntKind.u64.wrap (s1.2.2 * 2 ^ 13))).toNat) ^^^ BitVec.ofInt IntKind.u64.bits (Int.fdiv (IntKind.u64.wrap (BitVec.ofInt IntKind.u64.bits s1.2.2 ^^^ BitVec.ofInt IntKind.u64.bits (IntKind.u64.wrap (s1.2.2 * 2 ^ 13))).toNat) (2 ^ 7))).toNat) * 2 ^ 17))).toNat)))
  else
    some (.inr s1.2.1)

noncomputable def g_slices_breakPatternsCmpFunc_int (b : Int) (c : Int) (d : (Int → Int → Option Int)) (m0_0 : (List Int)) : Option (List Int) :=
  bif (decide (8 ≤ (w64 (c - b)))) then
    (g_slices_nextPowerOfTwo (w64 (c - b))).bind fun x0 =>
    (lp (g_slices_breakPatternsCmpFunc_int_L0 b c x0) ((w64 ((w64 (b + (w64 ((w64 (Int.tdiv (w64 (c - b)) 4)) * 2)))) - 1)), m0_0, (IntKind.u64.wrap (w64 (c - b))))).bind fun r9 =>
    some r9
  else
    some m0_0
noncomputable def g_slices_pdqsortCmpFunc_int_L0 (e : (Int → Int → Option Int)) (rc : Int → Int → Int → (Int → Int → Option Int) → (List Int) → Option (List Int)) (s0 : Int × Int × Int × Bool × Bool × (List Int)) : Option ((Int × Int × Int × Bool × Bool × (List Int)) ⊕ (List Int)) :=
  bif s0.2.2.2.1 then
    bif s0.2.2.2.2.1 then
      bif (decide ((w64 (s0.2.1 - s0.1)) ≤ 12)) then
        (g_slices_insertionSortCmpFunc_int s0.1 s0.2.1 e s0.2.2.2.2.2).bind fun x1 =>
        some (.inr x1)
      else
        bif (s0.2.2.1 == 0) then
          (g_slices_heapSortCmpFunc_int s0.1 s0.2.1 e s0.2.2.2.2.2).bind fun x2 =>
          some (.inr x2)
        else
          (g_slices_choosePivotCmpFunc_int s0.1 s0.2.1 e s0.2.2.2.2.2).bind fun x3 =>
          bif (x3.2 == 2) then
            (g_slices_reverseRangeCmpFunc_int s0.1 s0.2.1 e s0.2.2.2.2.2).bind fun x4 =>
            (g_slices_partialInsertionSortCmpFunc_int s0.1 s0.2.1 e x4).bind fun x5 =>
            match x5 with
            | (.inl x5) =>
              some (.inr x5)
            | (.inr x5) =>
              bif (decide (0 < s0.1)) then
                (getI x5 (w64 (s0.1 - 1))).bind fun x6 =>
                (getI x5 (w64 ((w64 (s0.2.1 - 1)) - (w64 (x3.1 - s0.1))))).bind fun x7 =>
                (e x6 x7).bind fun x8 =>
                bif (decide (x8 < 0)) then
                  (g_slices_partitionCmpFunc_int s0.1 s0.2.1 (w64 ((w64 (s0.2.1 - 1)) - (w64 (x3.1 - s0.1)))) e x5).bind fun x9 =>
                  match x9 with
                  | (.inl x9) =>
                    bif (decide ((w64 (x9.1 - s0.1)) < (w64 (s0.2.1 - x9.1)))) then
                      bif (decide ((w64 (Int.tdiv (w64 (s0.2.1 - s0.1)) 8)) ≤ (w64 (x9.1 - s0.1)))) then
                        (rc s0.1 x9.1 s0.2.2.1 e x9.2).bind fun x10 =>
                        some (.inl ((w64 (x9.1 + 1)), s0.2.1, s0.2.2.1, true, true, x10))
                      else
                        (rc s0.1 x9.1 s0.2.2.1 e x9.2).bind fun x11 =>
                        some (.inl ((w64 (x9.1 + 1)), s0.2.1, s0.2.2.1, false, true, x11))
                    else
                      bif (decide ((w64 (Int.tdiv (w64 (s0.2.1 - s0.1)) 8)) ≤ (w64 (s0.2.1 - x9.1)))) then
                        (rc (w64 (x9.1 + 1)) s0.2.1 s0.2.2.1 e x9.2).bind fun x12 =>
                        some (.inl (s0.1, x9.1, s0.2.2.1, true, true, x12))
                      else
                        (rc (w64 (x9.1 + 1)) s0.2.1 s0.2.2.1 e x9.2).bind fun x13 =>
                        some (.inl (s0.1, x9.1, s0.2.2.1, false, true, x13))
                  | (.inr x9) =>
                    bif (decide ((w64 (x9.1 - s0.1)) < (w64 (s0.2.1 - x9.1)))) then
                      bif (decide ((w64 (Int.tdiv (w64 (s0.2.1 - s0.1)) 8)) ≤ (w64 (x9.1 - s0.1)))) then
                        (rc s0.1 x9.1 s0.2.2.1 e x9.2).bind fun x14 =>
                        some (.inl ((w64 (x9.1 + 1)), s0.2.1, s0.2.2.1, true, false, x14))
                      else
                        (rc s0.1 x9.1 s0.2.2.1 e x9.2).bind fun x15 =>
                        some (.inl ((w64 (x9.1 + 1)), s0.2.1, s0.2.2.1, false, false, x15))
                    else
                      bif (decide ((w64 (Int.tdiv (w64 (s0.2.1 - s0.1)) 8)) ≤ (w64 (s0.2.1 - x9.1)))) then
                        (rc (w64 (x9.1 + 1)) s0.2.1 s0.2.2.1 e x9.2).bind fun x16 =>
                        some (.inl (s0.1, x9.1, s0.2.2.1, true, false, x16))
                      else
                        (rc (w64 (x9.1 + 1)) s0.2.1 s0.2.2.1 e x9.2).bind fun x17 =>
                        some (.inl (s0.1, x9.1, s0.2.2.1, false, false, x17))
                else
                  (g_slices_partitionEqualCmpFunc_int s0.1 s0.2.1 (w64 ((w64 (s0.2.1 - 1)) - (w64 (x3.1 - s0.1)))) e x5).bind fun x18 =>
                  some (.inl (x18.1, s0.2.1, s0.2.2.1, true, true, x18.2))
              else
                (g_slices_partitionCmpFunc_int s0.1 s0.2.1 (w64 ((w64 (s0.2.1 - 1)) - (w64 (x3.1 - s0.1)))) e x5).bind fun x19 =>
                match x19 with
                | (.inl x19) =>
                  bif (decide ((w64 (x19.1 - s0.1)) < (w64 (s0.2.1 - x19.1)))) then
                    bif (decide ((w64 (Int.tdiv (w64 (s0.2.1 - s0.1)) 8)) ≤ (w64 (x19.1 - s0.1)))) then
                      (rc s0.1 x19.1 s0.2.2.1 e x19.2).bind fun x20 =>
                      some (.inl ((w64 (x19.1 + 1)), s0.2.1, s0.2.2.1, true, true, x20))
                    else
                      (rc s0.1 x19.1 s0.2.2.1 e x19.2).bind fun x21 =>
                      some (.inl ((w64 (x19.1 + 1)), s0.2.1, s0.2.2.1, false, true, x21))
                  else
                    bif (decide ((w64 (Int.tdiv (w64 (s0.2.1 - s0.1)) 8)) ≤ (w64 (s0.2.1 - x19.1)))) then
                      (rc (w64 (x19.1 + 1)) s0.2.1 s0.2.2.1 e x19.2).bind fun x22 =>
                      some (.inl (s0.1, x19.1, s0.2.2.1, true, true, x22))
                    else
                      (rc (w64 (x19.1 + 1)) s0.2.1 s0.2.2.1 e x19.2).bind fun x23 =>
                      some (.inl (s0.1, x19.1, s0.2.2.1, false, true, x23))
                | (.inr x19) =>
                  bif (decide ((w64 (x19.1 - s0.1)) < (w64 (s0.2.1 - x19.1)))) then
                    bif (decide ((w64 (Int.tdiv (w64 (s0.2.1 - s0.1)) 8)) ≤ (w64 (x19.1 - s0.1)))) then
                      (rc s0.1 x19.1 s0.2.2.1 e x19.2).bind fun x24 =>
                      some (.inl ((w64 (x19.1 + 1)), s0.2.1, s0.2.2.1, true, false, x24))
                    else
                      (rc s0.1 x19.1 s0.2.2.1 e x19.2).bind fun x25 =>
                      some (.inl ((w64 (x19.1 + 1)), s0.2.1, s0.2.2.1, false, false, x25))
                  else
                    bif (decide ((w64 (Int.tdiv (w64 (s0.2.1 - s0.1)) 8)) ≤ (w64 (s0.2.1 - x19.1)))) then
                      (rc (w64 (x19.1 + 1)) s0.2.1 s0.2.2.1 e x19.2).bind fun x26 =>
                      some (.inl (s0.1, x19.1, s0.2.2.1, true, false, x26))
                    else
                      (rc (w64 (x19.1 + 1)) s0.2.1 s0.2.2.1 e x19.2).bind fun x27 =>
                      some (.inl (s0.1, x19.1, s0.2.2.1, false, false, x27))
          else
            bif (x3.2 == 1) then
              (g_slices_partialInsertionSortCmpFunc_int s0.1 s0.2.1 e s0.2.2.2.2.2).bind fun x28 =>
              match x28 with
              | (.inl x28) =>
                some (.inr x28)
              | (.inr x28) =>
                bif (decide (0 < s0.1)) then
                  (getI x28 (w64 (s0.1 - 1))).bind fun x29 =>
                  (getI x28 x3.1).bind fun x30 =>
                  (e x29 x30).bind fun x31 =>
                  bif (decide (x31 < 0)) then
                    (g_slices_partitionCmpFunc_int s0.1 s0.2.1 x3.1 e x28).bind fun x32 =>
                    match x32 with
                    | (.inl x32) =>
                      bif (decide ((w64 (x32.1 - s0.1)) < (w64 (s0.2.1 - x32.1)))) then
                        bif (decide ((w64 (Int.tdiv (w64 (s0.2.1 - s0.1)) 8)) ≤ (w64 (x32.1 - s0.1)))) then
                          (rc s0.1 x32.1 s0.2.2.1 e x32.2).bind fun x33 =>
                          some (.inl ((w64 (x32.1 + 1)), s0.2.1, s0.2.2.1, true, true, x33))
                        else
                          (rc s0.1 x32.1 s0.2.2.1 e x32.2).bind fun x34 =>
                          some (.inl ((w64 (x32.1 + 1)), s0.2.1, s0.2.2.1, false, true, x34))
                      else
                        bif (decide ((w64 (Int.tdiv (w64 (s0.2.1 - s0.1)) 8)) ≤ (w64 (s0.2.1 - x32.1)))) then
                          (rc (w64 (x32.1 + 1)) s0.2.1 s0.2.2.1 e x32.2).bind fun x35 =>
                          some (.inl (s0.1, x32.1, s0.2.2.1, true, true, x35))
                        else
                          (rc (w64 (x32.1 + 1)) s0.2.1 s0.2.2.1 e x32.2).bind fun x36 =>
                          some (.inl (s0.1, x32.1, s0.2.2.1, false, true, x36))
                    | (.inr x32) =>
                      bif (decide ((w64 (x32.1 - s0.1)) < (w64 (s0.2.1 - x32.1)))) then
                        bif (decide ((w64 (Int.tdiv (w64 (s0.2.1 - s0.1)) 8)) ≤ (w64 (x32.1 - s0.1)))) then
                          (rc s0.1 x32.1 s0.2.2.1 e x32.2).bind fun x37 =>
                          some (.inl ((w64 (x32.1 + 1)), s0.2.1, s0.2.2.1, true, false, x37))
                        else
                          (rc s0.1 x32.1 s0.2.2.1 e x32.2).bind fun x38 =>
                          some (.inl ((w64 (x32.1 + 1)), s0.2.1, s0.2.2.1, false, false, x38))
                      else
                        bif (decide ((w64 (Int.tdiv (w64 (s0.2.1 - s0.1)) 8)) ≤ (w64 (s0.2.1 - x32.1)))) then
                          (rc (w64 (x32.1 + 1)) s0.2.1 s0.2.2.1 e x32.2).bind fun x39 =>
                          some (.inl (s0.1, x32.1, s0.2.2.1, true, false, x39))
                        else
                          (rc (w64 (x32.1 + 1)) s0.2.1 s0.2.2.1 e x32.2).bind fun x40 =>
                          some (.inl (s0.1, x32.1, s0.2.2.1, false, false, x40))
                  else
                    (g_slices_partitionEqualCmpFunc_int s0.1 s0.2.1 x3.1 e x28).bind fun x41 =>
                    some (.inl (x41.1, s0.2.1, s0.2.2.1, true, true, x41.2))
                else
                  (g_slices_partitionCmpFunc_int s0.1 s0.2.1 x3.1 e x28).bind fun x42 =>
                  match x42 with
                  | (.inl x42) =>
                    bif (decide ((w64 (x42.1 - s0.1)) < (w64 (s0.2.1 - x42.1)))) then
                      bif (decide ((w64 (Int.tdiv (w64 (s0.2.1 - s0.1)) 8)) ≤ (w64 (x42.1 - s0.1)))) then
                        (rc s0.1 x42.1 s0.2.2.1 e x42.2).bind fun x43 =>
                        some (.inl ((w64 (x42.1 + 1)), s0.2.1, s0.2.2.1, true, true, x43))
                      else
                        (rc s0.1 x42.1 s0.2.2.1 e x42.2).bind fun x44 =>
                        some (.inl ((w64 (x42.1 + 1)), s0.2.1, s0.2.2.1, false, true, x44))
                    else
                      bif (decide ((w64 (Int.tdiv (w64 (s0.2.1 - s0.1)) 8)) ≤ (w64 (s0.2.1 - x42.1)))) then
                        (rc (w64 (x42.1 + 1)) s0.2.1 s0.2.2.1 e x42.2).bind fun x45 =>
                        some (.inl (s0.1, x42.1, s0.2.2.1, true, true, x45))
                      else
                        (rc (w64 (x42.1 + 1)) s0.2.1 s0.2.2.1 e x42.2).bind fun x46 =>
                        some (.inl (s0.1, x42.1, s0.2.2.1, false, true, x46))
                  | (.inr x42) =>
                    bif (decide ((w64 (x42.1 - s0.1)) < (w64 (s0.2.1 - x42.1)))) then
                      bif (decide ((w64 (Int.tdiv (w64 (s0.2.1 - s0.1)) 8)) ≤ (w64 (x42.1 - s0.1)))) then
                        (rc s0.1 x42.1 s0.2.2.1 e x42.2).bind fun x47 =>
                        some (.inl ((w64 (x42.1 + 1)), s0.2.1, s0.2.2.1, true, false, x47))
                      else
                        (rc s0.1 x42.1 s0.2.2.1 e x42.2).bind fun x48 =>
                        some (.inl ((w64 (x42.1 + 1)), s0.2.1, s0.2.2.1, false, false, x48))
                    else
                      bif (decide ((w64 (Int.tdiv (w64 (s0.2.1 - s0.1)) 8)) ≤ (w64 (s0.2.1 - x42.1)))) then
                        (rc (w64 (x42.1 + 1)) s0.2.1 s0.2.2.1 e x42.2).bind fun x49 =>
                        some (.inl (s0.1, x42.1, s0.2.2.1, true, false, x49))
                      else
                        (rc (w64 (x42.1 + 1)) s0.2.1 s0.2.2.1 e x42.2).bind fun x50 =>
                        some (.inl (s0.1, x42.1, s0.2.2.1, false, false, x50))
            else
              bif (decide (0 < s0.1)) then
                (getI s0.2.2.2.2.2 (w64 (s0.1 - 1))).bind fun x51 =>
                (getI s0.2.2.2.2.2 x3.1).bind fun x52 =>
                (e x51 x52).bind fun x53 =>
                bif (decide (x53 < 0)) then
                  (g_slices_partitionCmpFunc_int s0.1 s0.2.1 x3.1 e s0.2.2.2.2.2).bind fun x54 =>
                  match x54 with
                  | (.inl x54) =>
                    bif (decide ((w64 (x54.1 - s0.1)) < (w64 (s0.2.1 - x54.1)))) then
                      bif (decide ((w64 (Int.tdiv (w64 (s0.2.1 - s0.1)) 8)) ≤ (w64 (x54.1 - s0.1)))) then
                        (rc s0.1 x54.1 s0.2.2.1 e x54.2).bind fun x55 =>
                        some (.inl ((w64 (x54.1 + 1)), s0.2.1, s0.2.2.1, true, true, x55))
                      else
                        (rc s0.1 x54.1 s0.2.2.1 e x54.2).bind fun x56 =>
                        some (.inl ((w64 (x54.1 + 1)), s0.2.1, s0.2.2.1, false, true, x56))
                    else
                      bif (decide ((w64 (Int.tdiv (w64 (s0.2.1 - s0.1)) 8)) ≤ (w64 (s0.2.1 - x54.1)))) then
                        (rc (w64 (x54.1 + 1)) s0.2.1 s0.2.2.1 e x54.2).bind fun x57 =>
                        some (.inl (s0.1, x54.1, s0.2.2.1, true, true, x57))
                      else
                        (rc (w64 (x54.1 + 1)) s0.2.1 s0.2.2.1 e x54.2).bind fun x58 =>
                        some (.inl (s0.1, x54.1, s0.2.2.1, false, true, x58))
                  | (.inr x54) =>
                    bif (decide ((w64 (x54.1 - s0.1)) < (w64 (s0.2.1 - x54.1)))) then
                      bif (decide ((w64 (Int.tdiv (w64 (s0.2.1 - s0.1)) 8)) ≤ (w64 (x54.1 - s0.1)))) then
                        (rc s0.1 x54.1 s0.2.2.1 e x54.2).bind fun x59 =>
                        some (.inl ((w64 (x54.1 + 1)), s0.2.1, s0.2.2.1, true, false, x59))
                      else
                        (rc s0.1 x54.1 s0.2.2.1 e x54.2).bind fun x60 =>
                        some (.inl ((w64 (x54.1 + 1)), s0.2.1, s0.2.2.1, false, false, x60))
                    else
                      bif (decide ((w64 (Int.tdiv (w64 (s0.2.1 - s0.1)) 8)) ≤ (w64 (s0.2.1 - x54.1)))) then
                        (rc (w64 (x54.1 + 1)) s0.2.1 s0.2.2.1 e x54.2).bind fun x61 =>
                        some (.inl (s0.1, x54.1, s0.2.2.1, true, false, x61))
                      else
                        (rc (w64 (x54.1 + 1)) s0.2.1 s0.2.2.1 e x54.2).bind fun x62 =>
                        some (.inl (s0.1, x54.1, s0.2.2.1, false, false, x62))
                else
                  (g_slices_partitionEqualCmpFunc_int s0.1 s0.2.1 x3.1 e s0.2.2.2.2.2).bind fun x63 =>
                  some (.inl (x63.1, s0.2.1, s0.2.2.1, true, true, x63.2))
              else
                (g_slices_partitionCmpFunc_int s0.1 s0.2.1 x3.1 e s0.2.2.2.2.2).bind fun x64 =>
                match x64 with
                | (.inl x64) =>
                  bif (decide ((w64 (x64.1 - s0.1)) < (w64 (s0.2.1 - x64.1)))) then
                    bif (decide ((w64 (Int.tdiv (w64 (s0.2.1 - s0.1)) 8)) ≤ (w64 (x64.1 - s0.1)))) then
                      (rc s0.1 x64.1 s0.2.2.1 e x64.2).bind fun x65 =>
                      some (.inl ((w64 (x64.1 + 1)), s0.2.1, s0.2.2.1, true, true, x65))
                    else
                      (rc s0.1 x64.1 s0.2.2.1 e x64.2).bind fun x66 =>
                      some (.inl ((w64 (x64.1 + 1)), s0.2.1, s0.2.2.1, false, true, x66))
                  else
                    bif (decide ((w64 (Int.tdiv (w64 (s0.2.1 - s0.1)) 8)) ≤ (w64 (s0.2.1 - x64.1)))) then
                      (rc (w64 (x64.1 + 1)) s0.2.1 s0.2.2.1 e x64.2).bind fun x67 =>
                      some (.inl (s0.1, x64.1, s0.2.2.1, true, true, x67))
                    else
                      (rc (w64 (x64.1 + 1)) s0.2.1 s0.2.2.1 e x64.2).bind fun x68 =>
                      some (.inl (s0.1, x64.1, s0.2.2.1, false, true, x68))
                | (.inr x64) =>
                  bif (decide ((w64 (x64.1 - s0.1)) < (w64 (s0.2.1 - x64.1)))) then
                    bif (decide ((w64 (Int.tdiv (w64 (s0.2.1 - s0.1)) 8)) ≤ (w64 (x64.1 - s0.1)))) then
                      (rc s0.1 x64.1 s0.2.2.1 e x64.2).bind fun x69 =>
                      some (.inl ((w64 (x64.1 + 1)), s0.2.1, s0.2.2.1, true, false, x69))
                    else
                      (rc s0.1 x64.1 s0.2.2.1 e x64.2).bind fun x70 =>
                      some (.inl ((w64 (x64.1 + 1)), s0.2.1, s0.2.2.1, false, false, x70))
                  else
                    bif (decide ((w64 (Int.tdiv (w64 (s0.2.1 - s0.1)) 8)) ≤ (w64 (s0.2.1 - x64.1)))) then
                      (rc (w64 (x64.1 + 1)) s0.2.1 s0.2.2.1 e x64.2).bind fun x71 =>
                      some (.inl (s0.1, x64.1, s0.2.2.1, true, false, x71))
                    else
                      (rc (w64 (x64.1 + 1)) s0.2.1 s0.2.2.1 e x64.2).bind fun x72 =>
                      some (.inl (s0.1, x64.1, s0.2.2.1, false, false, x72))
    else
      bif (decide ((w64 (s0.2.1 - s0.1)) ≤ 12)) then
        (g_slices_insertionSortCmpFunc_int s0.1 s0.2.1 e s0.2.2.2.2.2).bind fun x73 =>
        some (.inr x73)
      else
        bif (s0.2.2.1 == 0) then
          (g_slices_heapSortCmpFunc_int s0.1 s0.2.1 e s0.2.2.2.2.2).bind fun x74 =>
          some (.inr x74)
        else
          (g_slices_choosePivotCmpFunc_int s0.1 s0.2.1 e s0.2.2.2.2.2).bind fun x75 =>
          bif (x75.2 == 2) then
            (g_slices_reverseRangeCmpFunc_int s0.1 s0.2.1 e s0.2.2.2.2.2).bind fun x76 =>
            bif (decide (0 < s0.1)) then
              (getI x76 (w64 (s0.1 - 1))).bind fun x77 =>
              (getI x76 (w64 ((w64 (s0.2.1 - 1)) - (w64 (x75.1 - s0.1))))).bind fun x78 =>
              (e x77 x78).bind fun x79 =>
              bif (decide (x79 < 0)) then
                (g_slices_partitionCmpFunc_int s0.1 s0.2.1 (w64 ((w64 (s0.2.1 - 1)) - (w64 (x75.1 - s0.1)))) e x76).bind fun x80 =>
                match x80 with
                | (.inl x80) =>
                  bif (decide ((w64 (x80.1 - s0.1)) < (w64 (s0.2.1 - x80.1)))) then
                    bif (decide ((w64 (Int.tdiv (w64 (s0.2.1 - s0.1)) 8)) ≤ (w64 (x80.1 - s0.1)))) then
                      (rc s0.1 x80.1 s0.2.2.1 e x80.2).bind fun x81 =>
                      some (.inl ((w64 (x80.1 + 1)), s0.2.1, s0.2.2.1, true, true, x81))
                    else
                      (rc s0.1 x80.1 s0.2.2.1 e x80.2).bind fun x82 =>
                      some (.inl ((w64 (x80.1 + 1)), s0.2.1, s0.2.2.1, false, true, x82))
                  else
                    bif (decide ((w64 (Int.tdiv (w64 (s0.2.1 - s0.1)) 8)) ≤ (w64 (s0.2.1 - x80.1)))) then
                      (rc (w64 (x80.1 + 1)) s0.2.1 s0.2.2.1 e x80.2).bind fun x83 =>
                      some (.inl (s0.1, x80.1, s0.2.2.1, true, true, x83))
                    else
                      (rc (w64 (x80.1 + 1)) s0.2.1 s0.2.2.1 e x80.2).bind fun x84 =>
                      some (.inl (s0.1, x80.1, s0.2.2.1, false, true, x84))
                | (.inr x80) =>
                  bif (decide ((w64 (x80.1 - s0.1)) < (w64 (s0.2.1 - x80.1)))) then
                    bif (decide ((w64 (Int.tdiv (w64 (s0.2.1 - s0.1)) 8)) ≤ (w64 (x80.1 - s0.1)))) then
                      (rc s0.1 x80.1 s0.2.2.1 e x80.2).bind fun x85 =>
                      some (.inl ((w64 (x80.1 + 1)), s0.2.1, s0.2.2.1, true, false, x85))
                    else
                      (rc s0.1 x80.1 s0.2.2.1 e x80.2).bind fun x86 =>
                      some (.inl ((w64 (x80.1 + 1)), s0.2.1, s0.2.2.1, false, false, x86))
                  else
                    bif (decide ((w64 (Int.tdiv (w64 (s0.2.1 - s0.1)) 8)) ≤ (w64 (s0.2.1 - x80.1)))) then
                      (rc (w64 (x80.1 + 1)) s0.2.1 s0.2.2.1 e x80.2).bind fun x87 =>
                      some (.inl (s0.1, x80.1, s0.2.2.1, true, false, x87))
                    else
                      (rc (w64 (x80.1 + 1)) s0.2.1 s0.2.2.1 e x80.2).bind fun x88 =>
                      some (.inl (s0.1, x80.1, s0.2.2.1, false, false, x88))
              else
                (g_slices_partitionEqualCmpFunc_int s0.1 s0.2.1 (w64 ((w64 (s0.2.1 - 1)) - (w64 (x75.1 - s0.1)))) e x76).bind fun x89 =>
                some (.inl (x89.1, s0.2.1, s0.2.2.1, true, false, x89.2))
            else
              (g_slices_partitionCmpFunc_int s0.1 s0.2.1 (w64 ((w64 (s0.2.1 - 1)) - (w64 (x75.1 - s0.1)))) e x76).bind fun x90 =>
              match x90 with
              | (.inl x90) =>
                bif (decide ((w64 (x90.1 - s0.1)) < (w64 (s0.2.1 - x90.1)))) then
                  bif (decide ((w64 (Int.tdiv (w64 (s0.2.1 - s0.1)) 8)) ≤ (w64 (x90.1 - s0.1)))) then
                    (rc s0.1 x90.1 s0.2.2.1 e x90.2).bind fun x91 =>
                    some (.inl ((w64 (x90.1 + 1)), s0.2.1, s0.2.2.1, true, true, x91))
                  else
                    (rc s0.1 x90.1 s0.2.2.1 e x90.2).bind fun x92 =>
                    some (.inl ((w64 (x90.1 + 1)), s0.2.1, s0.2.2.1, false, true, x92))
                else
                  bif (decide ((w64 (Int.tdiv (w64 (s0.2.1 - s0.1)) 8)) ≤ (w64 (s0.2.1 - x90.1)))) then
                    (rc (w64 (x90.1 + 1)) s0.2.1 s0.2.2.1 e x90.2).bind fun x93 =>
                    some (.inl (s0.1, x90.1, s0.2.2.1, true, true, x93))
                  else
                    (rc (w64 (x90.1 + 1)) s0.2.1 s0.2.2.1 e x90.2).bind fun x94 =>
                    some (.inl (s0.1, x90.1, s0.2.2.1, false, true, x94))
              | (.inr x90) =>
                bif (decide ((w64 (x90.1 - s0.1)) < (w64 (s0.2.1 - x90.1)))) then
                  bif (decide ((w64 (Int.tdiv (w64 (s0.2.1 - s0.1)) 8)) ≤ (w64 (x90.1 - s0.1)))) then
                    (rc s0.1 x90.1 s0.2.2.1 e x90.2).bind fun x95 =>
                    some (.inl ((w64 (x90.1 + 1)), s0.2.1, s0.2.2.1, true, false, x95))
                  else
                    (rc s0.1 x90.1 s0.2.2.1 e x90.2).bind fun x96 =>
                    some (.inl ((w64 (x90.1 + 1)), s0.2.1, s0.2.2.1, false, false, x96))
                else
                  bif (decide ((w64 (Int.tdiv (w64 (s0.2.1 - s0.1)) 8)) ≤ (w64 (s0.2.1 - x90.1)))) then
                    (rc (w64 (x90.1 + 1)) s0.2.1 s0.2.2.1 e x90.2).bind fun x97 =>
                    some (.inl (s0.1, x90.1, s0.2.2.1, true, false, x97))
                  else
                    (rc (w64 (x90.1 + 1)) s0.2.1 s0.2.2.1 e x90.2).bind fun x98 =>
                    some (.inl (s0.1, x90.1, s0.2.2.1, false, false, x98))
          else
            bif (decide (0 < s0.1)) then
              (getI s0.2.2.2.2.2 (w64 (s0.1 - 1))).bind fun x99 =>
              (getI s0.2.2.2.2.2 x75.1).bind fun x100 =>
              (e x99 x100).bind fun x101 =>
              bif (decide (x101 < 0)) then
                (g_slices_partitionCmpFunc_int s0.1 s0.2.1 x75.1 e s0.2.2.2.2.2).bind fun x102 =>
                match x102 with
                | (.inl x102) =>
                  bif (decide ((w64 (x102.1 - s0.1)) < (w64 (s0.2.1 - x102.1)))) then
                    bif (decide ((w64 (Int.tdiv (w64 (s0.2.1 - s0.1)) 8)) ≤ (w64 (x102.1 - s0.1)))) then
                      (rc s0.1 x102.1 s0.2.2.1 e x102.2).bind fun x103 =>
                      some (.inl ((w64 (x102.1 + 1)), s0.2.1, s0.2.2.1, true, true, x103))
                    else
                      (rc s0.1 x102.1 s0.2.2.1 e x102.2).bind fun x104 =>
                      some (.inl ((w64 (x102.1 + 1)), s0.2.1, s0.2.2.1, false, true, x104))
                  else
                    bif (decide ((w64 (Int.tdiv (w64 (s0.2.1 - s0.1)) 8)) ≤ (w64 (s0.2.1 - x102.1)))) then
                      (rc (w64 (x102.1 + 1)) s0.2.1 s0.2.2.1 e x102.2).bind fun x105 =>
                      some (.inl (s0.1, x102.1, s0.2.2.1, true, true, x105))
                    else
                      (rc (w64 (x102.1 + 1)) s0.2.1 s0.2.2.1 e x102.2).bind fun x106 =>
                      some (.inl (s0.1, x102.1, s0.2.2.1, false, true, x106))
                | (.inr x102) =>
                  bif (decide ((w64 (x102.1 - s0.1)) < (w64 (s0.2.1 - x102.1)))) then
                    bif (decide ((w64 (Int.tdiv (w64 (s0.2.1 - s0.1)) 8)) ≤ (w64 (x102.1 - s0.1)))) then
                      (rc s0.1 x102.1 s0.2.2.1 e x102.2).bind fun x107 =>
                      some (.inl ((w64 (x102.1 + 1)), s0.2.1, s0.2.2.1, true, false, x107))
                    else
                      (rc s0.1 x102.1 s0.2.2.1 e x102.2).bind fun x108 =>
                      some (.inl ((w64 (x102.1 + 1)), s0.2.1, s0.2.2.1, false, false, x108))
                  else
                    bif (decide ((w64 (Int.tdiv (w64 (s0.2.1 - s0.1)) 8)) ≤ (w64 (s0.2.1 - x102.1)))) then
                      (rc (w64 (x102.1 + 1)) s0.2.1 s0.2.2.1 e x102.2).bind fun x109 =>
                      some (.inl (s0.1, x102.1, s0.2.2.1, true, false, x109))
                    else
                      (rc (w64 (x102.1 + 1)) s0.2.1 s0.2.2.1 e x102.2).bind fun x110 =>
                      some (.inl (s0.1, x102.1, s0.2.2.1, false, false, x110))
              else
                (g_slices_partitionEqualCmpFunc_int s0.1 s0.2.1 x75.1 e s0.2.2.2.2.2).bind fun x111 =>
                some (.inl (x111.1, s0.2.1, s0.2.2.1, true, false, x111.2))
            else
              (g_slices_partitionCmpFunc_int s0.1 s0.2.1 x75.1 e s0.2.2.2.2.2).bind fun x112 =>
              match x112 with
              | (.inl x112) =>
                bif (decide ((w64 (x112.1 - s0.1)) < (w64 (s0.2.1 - x112.1)))) then
                  bif (decide ((w64 (Int.tdiv (w64 (s0.2.1 - s0.1)) 8)) ≤ (w64 (x112.1 - s0.1)))) then
                    (rc s0.1 x112.1 s0.2.2.1 e x112.2).bind fun x113 =>
                    some (.inl ((w64 (x112.1 + 1)), s0.2.1, s0.2.2.1, true, true, x113))
                  else
                    (rc s0.1 x112.1 s0.2.2.1 e x112.2).bind fun x114 =>
                    some (.inl ((w64 (x112.1 + 1)), s0.2.1, s0.2.2.1, false, true, x114))
                else
                  bif (decide ((w64 (Int.tdiv (w64 (s0.2.1 - s0.1)) 8)) ≤ (w64 (s0.2.1 - x112.1)))) then
                    (rc (w64 (x112.1 + 1)) s0.2.1 s0.2.2.1 e x112.2).bind fun x115 =>
                    some (.inl (s0.1, x112.1, s0.2.2.1, true, true, x115))
                  else
                    (rc (w64 (x112.1 + 1)) s0.2.1 s0.2.2.1 e x112.2).bind fun x116 =>
                    some (.inl (s0.1, x112.1, s0.2.2.1, false, true, x116))
              | (.inr x112) =>
                bif (decide ((w64 (x112.1 - s0.1)) < (w64 (s0.2.1 - x112.1)))) then
                  bif (decide ((w64 (Int.tdiv (w64 (s0.2.1 - s0.1)) 8)) ≤ (w64 (x112.1 - s0.1)))) then
                    (rc s0.1 x112.1 s0.2.2.1 e x112.2).bind fun x117 =>
                    some (.inl ((w64 (x112.1 + 1)), s0.2.1, s0.2.2.1, true, false, x117))
                  else
                    (rc s0.1 x112.1 s0.2.2.1 e x112.2).bind fun x118 =>
                    some (.inl ((w64 (x112.1 + 1)), s0.2.1, s0.2.2.1, false, false, x118))
                else
                  bif (decide ((w64 (Int.tdiv (w64 (s0.2.1 - s0.1)) 8)) ≤ (w64 (s0.2.1 - x112.1)))) then
                    (rc (w64 (x112.1 + 1)) s0.2.1 s0.2.2.1 e x112.2).bind fun x119 =>
                    some (.inl (s0.1, x112.1, s0.2.2.1, true, false, x119))
                  else
                    (rc (w64 (x112.1 + 1)) s0.2.1 s0.2.2.1 e x112.2).bind fun x120 =>
                    some (.inl (s0.1, x112.1, s0.2.2.1, false, false, x120))
  else
    bif s0.2.2.2.2.1 then
      bif (decide ((w64 (s0.2.1 - s0.1)) ≤ 12)) then
        (g_slices_insertionSortCmpFunc_int s0.1 s0.2.1 e s0.2.2.2.2.2).bind fun x121 =>
        some (.inr x121)
      else
        bif (s0.2.2.1 == 0) then
          (g_slices_heapSortCmpFunc_int s0.1 s0.2.1 e s0.2.2.2.2.2).bind fun x122 =>
          some (.inr x122)
        else
          (g_slices_breakPatternsCmpFunc_int s0.1 s0.2.1 e s0.2.2.2.2.2).bind fun x123 =>
          (g_slices_choosePivotCmpFunc_int s0.1 s0.2.1 e x123).bind fun x124 =>
          bif (x124.2 == 2) then
            (g_slices_reverseRangeCmpFunc_int s0.1 s0.2.1 e x123).bind fun x125 =>
            bif (decide (0 < s0.1)) then
              (getI x125 (w64 (s0.1 - 1))).bind fun x126 =>
              (getI x125 (w64 ((w64 (s0.2.1 - 1)) - (w64 (x124.1 - s0.1))))).bind fun x127 =>
              (e x126 x127).bind fun x128 =>
              bif (decide (x128 < 0)) then
                (g_slices_partitionCmpFunc_int s0.1 s0.2.1 (w64 ((w64 (s0.2.1 - 1)) - (w64 (x124.1 - s0.1)))) e x125).bind fun x129 =>
                match x129 with
                | (.inl x129) =>
                  bif (decide ((w64 (x129.1 - s0.1)) < (w64 (s0.2.1 - x129.1)))) then
                    bif (decide ((w64 (Int.tdiv (w64 (s0.2.1 - s0.1)) 8)) ≤ (w64 (x129.1 - s0.1)))) then
                      (rc s0.1 x129.1 (w64 (s0.2.2.1 - 1)) e x129.2).bind fun x130 =>
                      some (.inl ((w64 (x129.1 + 1)), s0.2.1, (w64 (s0.2.2.1 - 1)), true, true, x130))
                    else
                      (rc s0.1 x129.1 (w64 (s0.2.2.1 - 1)) e x129.2).bind fun x131 =>
                      some (.inl ((w64 (x129.1 + 1)), s0.2.1, (w64 (s0.2.2.1 - 1)), false, true, x131))
                  else
                    bif (decide ((w64 (Int.tdiv (w64 (s0.2.1 - s0.1)) 8)) ≤ (w64 (s0.2.1 - x129.1)))) then
                      (rc (w64 (x129.1 + 1)) s0.2.1 (w64 (s0.2.2.1 - 1)) e x129.2).bind fun x132 =>
                      some (.inl (s0.1, x129.1, (w64 (s0.2.2.1 - 1)), true, true, x132))
                    else
                      (rc (w64 (x129.1 + 1)) s0.2.1 (w64 (s0.2.2.1 - 1)) e x129.2).bind fun x133 =>
                      some (.inl (s0.1, x129.1, (w64 (s0.2.2.1 - 1)), false, true, x133))
                | (.inr x129) =>
                  bif (decide ((w64 (x129.1 - s0.1)) < (w64 (s0.2.1 - x129.1)))) then
                    bif (decide ((w64 (Int.tdiv (w64 (s0.2.1 - s0.1)) 8)) ≤ (w64 (x129.1 - s0.1)))) then
                      (rc s0.1 x129.1 (w64 (s0.2.2.1 - 1)) e x129.2).bind fun x134 =>
                      some (.inl ((w64 (x129.1 + 1)), s0.2.1, (w64 (s0.2.2.1 - 1)), true, false, x134))
                    else
                      (rc s0.1 x129.1 (w64 (s0.2.2.1 - 1)) e x129.2).bind fun x135 =>
                      some (.inl ((w64 (x129.1 + 1)), s0.2.1, (w64 (s0.2.2.1 - 1)), false, false, x135))
                  else
                    bif (decide ((w64 (Int.tdiv (w64 (s0.2.1 - s0.1)) 8)) ≤ (w64 (s0.2.1 - x129.1)))) then
                      (rc (w64 (x129.1 + 1)) s0.2.1 (w64 (s0.2.2.1 - 1)) e x129.2).bind fun x136 =>
                      some (.inl (s0.1, x129.1, (w64 (s0.2.2.1 - 1)), true, false, x136))
                    else
                      (rc (w64 (x129.1 + 1)) s0.2.1 (w64 (s0.2.2.1 - 1)) e x129.2).bind fun x137 =>
                      some (.inl (s0.1, x129.1, (w64 (s0.2.2.1 - 1)), false, false, x137))
              else
                (g_slices_partitionEqualCmpFunc_int s0.1 s0.2.1 (w64 ((w64 (s0.2.1 - 1)) - (w64 (x124.1 - s0.1)))) e x125).bind fun x138 =>
                some (.inl (x138.1, s0.2.1, (w64 (s0.2.2.1 - 1)), false, true, x138.2))
            else
              (g_slices_partitionCmpFunc_int s0.1 s0.2.1 (w64 ((w64 (s0.2.1 - 1)) - (w64 (x124.1 - s0.1)))) e x125).bind fun x139 =>
              match x139 with
              | (.inl x139) =>
                bif (decide ((w64 (x139.1 - s0.1)) < (w64 (s0.2.1 - x139.1)))) then
                  bif (decide ((w64 (Int.tdiv (w64 (s0.2.1 - s0.1)) 8)) ≤ (w64 (x139.1 - s0.1)))) then
                    (rc s0.1 x139.1 (w64 (s0.2.2.1 - 1)) e x139.2).bind fun x140 =>
                    some (.inl ((w64 (x139.1 + 1)), s0.2.1, (w64 (s0.2.2.1 - 1)), true, true, x140))
                  else
                    (rc s0.1 x139.1 (w64 (s0.2.2.1 - 1)) e x139.2).bind fun x141 =>
                    some (.inl ((w64 (x139.1 + 1)), s0.2.1, (w64 (s0.2.2.1 - 1)), false, true, x141))
                else
                  bif (decide ((w64 (Int.tdiv (w64 (s0.2.1 - s0.1)) 8)) ≤ (w64 (s0.2.1 - x139.1)))) then
                    (rc (w64 (x139.1 + 1)) s0.2.1 (w64 (s0.2.2.1 - 1)) e x139.2).bind fun x142 =>
                    some (.inl (s0.1, x139.1, (w64 (s0.2.2.1 - 1)), true, true, x142))
                  else
                    (rc (w64 (x139.1 + 1)) s0.2.1 (w64 (s0.2.2.1 - 1)) e x139.2).bind fun x143 =>
                    some (.inl (s0.1, x139.1, (w64 (s0.2.2.1 - 1)), false, true, x143))
              | (.inr x139) =>
                bif (decide ((w64 (x139.1 - s0.1)) < (w64 (s0.2.1 - x139.1)))) then
                  bif (decide ((w64 (Int.tdiv (w64 (s0.2.1 - s0.1)) 8)) ≤ (w64 (x139.1 - s0.1)))) then
                    (rc s0.1 x139.1 (w64 (s0.2.2.1 - 1)) e x139.2).bind fun x144 =>
                    some (.inl ((w64 (x139.1 + 1)), s0.2.1, (w64 (s0.2.2.1 - 1)), true, false, x144))
                  else
                    (rc s0.1 x139.1 (w64 (s0.2.2.1 - 1)) e x139.2).bind fun x145 =>
                    some (.inl ((w64 (x139.1 + 1)), s0.2.1, (w64 (s0.2.2.1 - 1)), false, false, x145))
                else
                  bif (decide ((w64 (Int.tdiv (w64 (s0.2.1 - s0.1)) 8)) ≤ (w64 (s0.2.1 - x139.1)))) then
                    (rc (w64 (x139.1 + 1)) s0.2.1 (w64 (s0.2.2.1 - 1)) e x139.2).bind fun x146 =>
                    some (.inl (s0.1, x139.1, (w64 (s0.2.2.1 - 1)), true, false, x146))
                  else
                    (rc (w64 (x139.1 + 1)) s0.2.1 (w64 (s0.2.2.1 - 1)) e x139.2).bind fun x147 =>
                    some (.inl (s0.1, x139.1, (w64 (s0.2.2.1 - 1)), false, false, x147))
          else
            bif (decide (0 < s0.1)) then
              (getI x123 (w64 (s0.1 - 1))).bind fun x148 =>
              (getI x123 x124.1).bind fun x149 =>
              (e x148 x149).bind fun x150 =>
              bif (decide (x150 < 0)) then
                (g_slices_partitionCmpFunc_int s0.1 s0.2.1 x124.1 e x123).bind fun x151 =>
                match x151 with
                | (.inl x151) =>
                  bif (decide ((w64 (x151.1 - s0.1)) < (w64 (s0.2.1 - x151.1)))) then
                    bif (decide ((w64 (Int.tdiv (w64 (s0.2.1 - s0.1)) 8)) ≤ (w64 (x151.1 - s0.1)))) then
                      (rc s0.1 x151.1 (w64 (s0.2.2.1 - 1)) e x151.2).bind fun x152 =>
                      some (.inl ((w64 (x151.1 + 1)), s0.2.1, (w64 (s0.2.2.1 - 1)), true, true, x152))
                    else
                      (rc s0.1 x151.1 (w64 (s0.2.2.1 - 1)) e x151.2).bind fun x153 =>
                      some (.inl ((w64 (x151.1 + 1)), s0.2.1, (w64 (s0.2.2.1 - 1)), false, true, x153))
                  else
                    bif (decide ((w64 (Int.tdiv (w64 (s0.2.1 - s0.1)) 8)) ≤ (w64 (s0.2.1 - x151.1)))) then
                      (rc (w64 (x151.1 + 1)) s0.2.1 (w64 (s0.2.2.1 - 1)) e x151.2).bind fun x154 =>
                      some (.inl (s0.1, x151.1, (w64 (s0.2.2.1 - 1)), true, true, x154))
                    else
                      (rc (w64 (x151.1 + 1)) s0.2.1 (w64 (s0.2.2.1 - 1)) e x151.2).bind fun x155 =>
                      some (.inl (s0.1, x151.1, (w64 (s0.2.2.1 - 1)), false, true, x155))
                | (.inr x151) =>
                  bif (decide ((w64 (x151.1 - s0.1)) < (w64 (s0.2.1 - x151.1)))) then
                    bif (decide ((w64 (Int.tdiv (w64 (s0.2.1 - s0.1)) 8)) ≤ (w64 (x151.1 - s0.1)))) then
                      (rc s0.1 x151.1 (w64 (s0.2.2.1 - 1)) e x151.2).bind fun x156 =>
                      some (.inl ((w64 (x151.1 + 1)), s0.2.1, (w64 (s0.2.2.1 - 1)), true, false, x156))
                    else
                      (rc s0.1 x151.1 (w64 (s0.2.2.1 - 1)) e x151.2).bind fun x157 =>
                      some (.inl ((w64 (x151.1 + 1)), s0.2.1, (w64 (s0.2.2.1 - 1)), false, false, x157))
                  else
                    bif (decide ((w64 (Int.tdiv (w64 (s0.2.1 - s0.1)) 8)) ≤ (w64 (s0.2.1 - x151.1)))) then
                      (rc (w64 (x151.1 + 1)) s0.2.1 (w64 (s0.2.2.1 - 1)) e x151.2).bind fun x158 =>
                      some (.inl (s0.1, x151.1, (w64 (s0.2.2.1 - 1)), true, false, x158))
                    else
                      (rc (w64 (x151.1 + 1)) s0.2.1 (w64 (s0.2.2.1 - 1)) e x151.2).bind fun x159 =>
                      some (.inl (s0.1, x151.1, (w64 (s0.2.2.1 - 1)), false, false, x159))
              else
                (g_slices_partitionEqualCmpFunc_int s0.1 s0.2.1 x124.1 e x123).bind fun x160 =>
                some (.inl (x160.1, s0.2.1, (w64 (s0.2.2.1 - 1)), false, true, x160.2))
            else
              (g_slices_partitionCmpFunc_int s0.1 s0.2.1 x124.1 e x123).bind fun x161 =>
              match x161 with
              | (.inl x161) =>
                bif (decide ((w64 (x161.1 - s0.1)) < (w64 (s0.2.1 - x161.1)))) then
                  bif (decide ((w64 (Int.tdiv (w64 (s0.2.1 - s0.1)) 8)) ≤ (w64 (x161.1 - s0.1)))) then
                    (rc s0.1 x161.1 (w64 (s0.2.2.1 - 1)) e x161.2).bind fun x162 =>
                    some (.inl ((w64 (x161.1 + 1)), s0.2.1, (w64 (s0.2.2.1 - 1)), true, true, x162))
                  else
                    (rc s0.1 x161.1 (w64 (s0.2.2.1 - 1)) e x161.2).bind fun x163 =>
                    some (.inl ((w64 (x161.1 + 1)), s0.2.1, (w64 (s0.2.2.1 - 1)), false, true, x163))
                else
                  bif (decide ((w64 (Int.tdiv (w64 (s0.2.1 - s0.1)) 8)) ≤ (w64 (s0.2.1 - x161.1)))) then
                    (rc (w64 (x161.1 + 1)) s0.2.1 (w64 (s0.2.2.1 - 1)) e x161.2).bind fun x164 =>
                    some (.inl (s0.1, x161.1, (w64 (s0.2.2.1 - 1)), true, true, x164))
                  else
                    (rc (w64 (x161.1 + 1)) s0.2.1 (w64 (s0.2.2.1 - 1)) e x161.2).bind fun x165 =>
                    some (.inl (s0.1, x161.1, (w64 (s0.2.2.1 - 1)), false, true, x165))
              | (.inr x161) =>
                bif (decide ((w64 (x161.1 - s0.1)) < (w64 (s0.2.1 - x161.1)))) then
                  bif (decide ((w64 (Int.tdiv (w64 (s0.2.1 - s0.1)) 8)) ≤ (w64 (x161.1 - s0.1)))) then
                    (rc s0.1 x161.1 (w64 (s0.2.2.1 - 1)) e x161.2).bind fun x166 =>
                    some (.inl ((w64 (x161.1 + 1)), s0.2.1, (w64 (s0.2.2.1 - 1)), true, false, x166))
                  else
                    (rc s0.1 x161.1 (w64 (s0.2.2.1 - 1)) e x161.2).bind fun x167 =>
                    some (.inl ((w64 (x161.1 + 1)), s0.2.1, (w64 (s0.2.2.1 - 1)), false, false, x167))
                else
                  bif (decide ((w64 (Int.tdiv (w64 (s0.2.1 - s0.1)) 8)) ≤ (w64 (s0.2.1 - x161.1)))) then
                    (rc (w64 (x161.1 + 1)) s0.2.1 (w64 (s0.2.2.1 - 1)) e x161.2).bind fun x168 =>
                    some (.inl (s0.1, x161.1, (w64 (s0.2.2.1 - 1)), true, false, x168))
                  else
                    (rc (w64 (x161.1 + 1)) s0.2.1 (w64 (s0.2.2.1 - 1)) e x161.2).bind fun x169 =>
                    some (.inl (s0.1, x161.1, (w64 (s0.2.2.1 - 1)), false, false, x169))
    else
      bif (decide ((w64 (s0.2.1 - s0.1)) ≤ 12)) then
        (g_slices_insertionSortCmpFunc_int s0.1 s0.2.1 e s0.2.2.2.2.2).bind fun x170 =>
        some (.inr x170)
      else
        bif (s0.2.2.1 == 0) then
          (g_slices_heapSortCmpFunc_int s0.1 s0.2.1 e s0.2.2.2.2.2).bind fun x171 =>
          some (.inr x171)
        else
          (g_slices_breakPatternsCmpFunc_int s0.1 s0.2.1 e s0.2.2.2.2.2).bind fun x172 =>
          (g_slices_choosePivotCmpFunc_int s0.1 s0.2.1 e x172).bind fun x173 =>
          bif (x173.2 == 2) then
            (g_slices_reverseRangeCmpFunc_int s0.1 s0.2.1 e x172).bind fun x174 =>
            bif (decide (0 < s0.1)) then
              (getI x174 (w64 (s0.1 - 1))).bind fun x175 =>
              (getI x174 (w64 ((w64 (s0.2.1 - 1)) - (w64 (x173.1 - s0.1))))).bind fun x176 =>
              (e x175 x176).bind fun x177 =>
              bif (decide (x177 < 0)) then
                (g_slices_partitionCmpFunc_int s0.1 s0.2.1 (w64 ((w64 (s0.2.1 - 1)) - (w64 (x173.1 - s0.1)))) e x174).bind fun x178 =>
                match x178 with
                | (.inl x178) =>
                  bif (decide ((w64 (x178.1 - s0.1)) < (w64 (s0.2.1 - x178.1)))) then
                    bif (decide ((w64 (Int.tdiv (w64 (s0.2.1 - s0.1)) 8)) ≤ (w64 (x178.1 - s0.1)))) then
                      (rc s0.1 x178.1 (w64 (s0.2.2.1 - 1)) e x178.2).bind fun x179 =>
                      some (.inl ((w64 (x178.1 + 1)), s0.2.1, (w64 (s0.2.2.1 - 1)), true, true, x179))
                    else
                      (rc s0.1 x178.1 (w64 (s0.2.2.1 - 1)) e x178.2).bind fun x180 =>
                      some (.inl ((w64 (x178.1 + 1)), s0.2.1, (w64 (s0.2.2.1 - 1)), false, true, x180))
                  else
                    bif (decide ((w64 (Int.tdiv (w64 (s0.2.1 - s0.1)) 8)) ≤ (w64 (s0.2.1 - x178.1)))) then
                      (rc (w64 (x178.1 + 1)) s0.2.1 (w64 (s0.2.2.1 - 1)) e x178.2).bind fun x181 =>
                      some (.inl (s0.1, x178.1, (w64 (s0.2.2.1 - 1)), true, true, x181))
                    else
                      (rc (w64 (x178.1 + 1)) s0.2.1 (w64 (s0.2.2.1 - 1)) e x178.2).bind fun x182 =>
                      some (.inl (s0.1, x178.1, (w64 (s0.2.2.1 - 1)), false, true, x182))
                | (.inr x178) =>
                  bif (decide ((w64 (x178.1 - s0.1)) < (w64 (s0.2.1 - x178.1)))) then
                    bif (decide ((w64 (Int.tdiv (w64 (s0.2.1 - s0.1)) 8)) ≤ (w64 (x178.1 - s0.1)))) then
                      (rc s0.1 x178.1 (w64 (s0.2.2.1 - 1)) e x178.2).bind fun x183 =>
                      some (.inl ((w64 (x178.1 + 1)), s0.2.1, (w64 (s0.2.2.1 - 1)), true, false, x183))
                    else
                      (rc s0.1 x178.1 (w64 (s0.2.2.1 - 1)) e x178.2).bind fun x184 =>
                      some (.inl ((w64 (x178.1 + 1)), s0.2.1, (w64 (s0.2.2.1 - 1)), false, false, x184))
                  else
                    bif (decide ((w64 (Int.tdiv (w64 (s0.2.1 - s0.1)) 8)) ≤ (w64 (s0.2.1 - x178.1)))) then
                      (rc (w64 (x178.1 + 1)) s0.2.1 (w64 (s0.2.2.1 - 1)) e x178.2).bind fun x185 =>
                      some (.inl (s0.1, x178.1, (w64 (s0.2.2.1 - 1)), true, false, x185))
                    else
                      (rc (w64 (x178.1 + 1)) s0.2.1 (w64 (s0.2.2.1 - 1)) e x178.2).bind fun x186 =>
                      some (.inl (s0.1, x178.1, (w64 (s0.2.2.1 - 1)), false, false, x186))
              else
                (g_slices_partitionEqualCmpFunc_int s0.1 s0.2.1 (w64 ((w64 (s0.2.1 - 1)) - (w64 (x173.1 - s0.1)))) e x174).bind fun x187 =>
                some (.inl (x187.1, s0.2.1, (w64 (s0.2.2.1 - 1)), false, false, x187.2))
            else
              (g_slices_partitionCmpFunc_int s0.1 s0.2.1 (w64 ((w64 (s0.2.1 - 1)) - (w64 (x173.1 - s0.1)))) e x174).bind fun x188 =>
              match x188 with
              | (.inl x188) =>
                bif (decide ((w64 (x188.1 - s0.1)) < (w64 (s0.2.1 - x188.1)))) then
                  bif (decide ((w64 (Int.tdiv (w64 (s0.2.1 - s0.1)) 8)) ≤ (w64 (x188.1 - s0.1)))) then
                    (rc s0.1 x188.1 (w64 (s0.2.2.1 - 1)) e x188.2).bind fun x189 =>
                    some (.inl ((w64 (x188.1 + 1)), s0.2.1, (w64 (s0.2.2.1 - 1)), true, true, x189))
                  else
                    (rc s0.1 x188.1 (w64 (s0.2.2.1 - 1)) e x188.2).bind fun x190 =>
                    some (.inl ((w64 (x188.1 + 1)), s0.2.1, (w64 (s0.2.2.1 - 1)), false, true, x190))
                else
                  bif (decide ((w64 (Int.tdiv (w64 (s0.2.1 - s0.1)) 8)) ≤ (w64 (s0.2.1 - x188.1)))) then
                    (rc (w64 (x188.1 + 1)) s0.2.1 (w64 (s0.2.2.1 - 1)) e x188.2).bind fun x191 =>
                    some (.inl (s0.1, x188.1, (w64 (s0.2.2.1 - 1)), true, true, x191))
                  else
                    (rc (w64 (x188.1 + 1)) s0.2.1 (w64 (s0.2.2.1 - 1)) e x188.2).bind fun x192 =>
                    some (.inl (s0.1, x188.1, (w64 (s0.2.2.1 - 1)), false, true, x192))
              | (.inr x188) =>
                bif (decide ((w64 (x188.1 - s0.1)) < (w64 (s0.2.1 - x188.1)))) then
                  bif (decide ((w64 (Int.tdiv (w64 (s0.2.1 - s0.1)) 8)) ≤ (w64 (x188.1 - s0.1)))) then
                    (rc s0.1 x188.1 (w64 (s0.2.2.1 - 1)) e x188.2).bind fun x193 =>
                    some (.inl ((w64 (x188.1 + 1)), s0.2.1, (w64 (s0.2.2.1 - 1)), true, false, x193))
                  else
                    (rc s0.1 x188.1 (w64 (s0.2.2.1 - 1)) e x188.2).bind fun x194 =>
                    some (.inl ((w64 (x188.1 + 1)), s0.2.1, (w64 (s0.2.2.1 - 1)), false, false, x194))
                else
                  bif (decide ((w64 (Int.tdiv (w64 (s0.2.1 - s0.1)) 8)) ≤ (w64 (s0.2.1 - x188.1)))) then
                    (rc (w64 (x188.1 + 1)) s0.2.1 (w64 (s0.2.2.1 - 1)) e x188.2).bind fun x195 =>
                    some (.inl (s0.1, x188.1, (w64 (s0.2.2.1 - 1)), true, false, x195))
                  else
                    (rc (w64 (x188.1 + 1)) s0.2.1 (w64 (s0.2.2.1 - 1)) e x188.2).bind fun x196 =>
                    some (.inl (s0.1, x188.1, (w64 (s0.2.2.1 - 1)), false, false, x196))
          else
            bif (decide (0 < s0.1)) then
              (getI x172 (w64 (s0.1 - 1))).bind fun x197 =>
              (getI x172 x173.1).bind fun x198 =>
              (e x197 x198).bind fun x199 =>
              bif (decide (x199 < 0)) then
                (g_slices_partitionCmpFunc_int s0.1 s0.2.1 x173.1 e x172).bind fun x200 =>
                match x200 with
                | (.inl x200) =>
                  bif (decide ((w64 (x200.1 - s0.1)) < (w64 (s0.2.1 - x200.1)))) then
                    bif (decide ((w64 (Int.tdiv (w64 (s0.2.1 - s0.1)) 8)) ≤ (w64 (x200.1 - s0.1)))) then
                      (rc s0.1 x200.1 (w64 (s0.2.2.1 - 1)) e x200.2).bind fun x201 =>
                      some (.inl ((w64 (x200.1 + 1)), s0.2.1, (w64 (s0.2.2.1 - 1)), true, true, x201))
                    else
                      (rc s0.1 x200.1 (w64 (s0.2.2.1 - 1)) e x200.2).bind fun x202 =>
                      some (.inl ((w64 (x200.1 + 1)), s0.2.1, (w64 (s0.2.2.1 - 1)), false, true, x202))
                  else
                    bif (decide ((w64 (Int.tdiv (w64 (s0.2.1 - s0.1)) 8)) ≤ (w64 (s0.2.1 - x200.1)))) then
                      (rc (w64 (x200.1 + 1)) s0.2.1 (w64 (s0.2.2.1 - 1)) e x200.2).bind fun x203 =>
                      some (.inl (s0.1, x200.1, (w64 (s0.2.2.1 - 1)), true, true, x203))
                    else
                      (rc (w64 (x200.1 + 1)) s0.2.1 (w64 (s0.2.2.1 - 1)) e x200.2).bind fun x204 =>
                      some (.inl (s0.1, x200.1, (w64 (s0.2.2.1 - 1)), false, true, x204))
                | (.inr x200) =>
                  bif (decide ((w64 (x200.1 - s0.1)) < (w64 (s0.2.1 - x200.1)))) then
                    bif (decide ((w64 (Int.tdiv (w64 (s0.2.1 - s0.1)) 8)) ≤ (w64 (x200.1 - s0.1)))) then
                      (rc s0.1 x200.1 (w64 (s0.2.2.1 - 1)) e x200.2).bind fun x205 =>
                      some (.inl ((w64 (x200.1 + 1)), s0.2.1, (w64 (s0.2.2.1 - 1)), true, false, x205))
                    else
                      (rc s0.1 x200.1 (w64 (s0.2.2.1 - 1)) e x200.2).bind fun x206 =>
                      some (.inl ((w64 (x200.1 + 1)), s0.2.1, (w64 (s0.2.2.1 - 1)), false, false, x206))
                  else
                    bif (decide ((w64 (Int.tdiv (w64 (s0.2.1 - s0.1)) 8)) ≤ (w64 (s0.2.1 - x200.1)))) then
                      (rc (w64 (x200.1 + 1)) s0.2.1 (w64 (s0.2.2.1 - 1)) e x200.2).bind fun x207 =>
                      some (.inl (s0.1, x200.1, (w64 (s0.2.2.1 - 1)), true, false, x207))
                    else
                      (rc (w64 (x200.1 + 1)) s0.2.1 (w64 (s0.2.2.1 - 1)) e x200.2).bind fun x208 =>
                      some (.inl (s0.1, x200.1, (w64 (s0.2.2.1 - 1)), false, false, x208))
              else
                (g_slices_partitionEqualCmpFunc_int s0.1 s0.2.1 x173.1 e x172).bind fun x209 =>
                some (.inl (x209.1, s0.2.1, (w64 (s0.2.2.1 - 1)), false, false, x209.2))
            else
              (g_slices_partitionCmpFunc_int s0.1 s0.2.1 x173.1 e x172).bind fun x210 =>
              match x210 with
              | (.inl x210) =>
                bif (decide ((w64 (x210.1 - s0.1)) < (w64 (s0.2.1 - x210.1)))) then
                  bif (decide ((w64 (Int.tdiv (w64 (s0.2.1 - s0.1)) 8)) ≤ (w64 (x210.1 - s0.1)))) then
                    (rc s0.1 x210.1 (w64 (s0.2.2.1 - 1)) e x210.2).bind fun x211 =>
                    some (.inl ((w64 (x210.1 + 1)), s0.2.1, (w64 (s0.2.2.1 - 1)), true, true, x211))
                  else
                    (rc s0.1 x210.1 (w64 (s0.2.2.1 - 1)) e x210.2).bind fun x212 =>
                    some (.inl ((w64 (x210.1 + 1)), s0.2.1, (w64 (s0.2.2.1 - 1)), false, true, x212))
                else
                  bif (decide ((w64 (Int.tdiv (w64 (s0.2.1 - s0.1)) 8)) ≤ (w64 (s0.2.1 - x210.1)))) then
                    (rc (w64 (x210.1 + 1)) s0.2.1 (w64 (s0.2.2.1 - 1)) e x210.2).bind fun x213 =>
                    some (.inl (s0.1, x210.1, (w64 (s0.2.2.1 - 1)), true, true, x213))
                  else
                    (rc (w64 (x210.1 + 1)) s0.2.1 (w64 (s0.2.2.1 - 1)) e x210.2).bind fun x214 =>
                    some (.inl (s0.1, x210.1, (w64 (s0.2.2.1 - 1)), false, true, x214))
              | (.inr x210) =>
                bif (decide ((w64 (x210.1 - s0.1)) < (w64 (s0.2.1 - x210.1)))) then
                  bif (decide ((w64 (Int.tdiv (w64 (s0.2.1 - s0.1)) 8)) ≤ (w64 (x210.1 - s0.1)))) then
                    (rc s0.1 x210.1 (w64 (s0.2.2.1 - 1)) e x210.2).bind fun x215 =>
                    some (.inl ((w64 (x210.1 + 1)), s0.2.1, (w64 (s0.2.2.1 - 1)), true, false, x215))
                  else
                    (rc s0.1 x210.1 (w64 (s0.2.2.1 - 1)) e x210.2).bind fun x216 =>
                    some (.inl ((w64 (x210.1 + 1)), s0.2.1, (w64 (s0.2.2.1 - 1)), false, false, x216))
                else
                  bif (decide ((w64 (Int.tdiv (w64 (s0.2.1 - s0.1)) 8)) ≤ (w64 (s0.2.1 - x210.1)))) then
                    (rc (w64 (x210.1 + 1)) s0.2.1 (w64 (s0.2.2.1 - 1)) e x210.2).bind fun x217 =>
                    some (.inl (s0.1, x210.1, (w64 (s0.2.2.1 - 1)), true, false, x217))
                  else
                    (rc (w64 (x210.1 + 1)) s0.2.1 (w64 (s0.2.2.1 - 1)) e x210.2).bind fun x218 =>
                    some (.inl (s0.1, x210.1, (w64 (s0.2.2.1 - 1)), false, false, x218))

noncomputable def g_slices_pdqsortCmpFunc_int_b (rc : Int → Int → Int → (Int → Int → Option Int) → (List Int) → Option (List Int)) (b : Int) (c : Int) (d : Int) (e : (Int → Int → Option Int)) (m0_0 : (List Int)) : Option (List Int) :=
  (lp (g_slices_pdqsortCmpFunc_int_L0 e rc) (b, c, d, true, true, m0_0)).bind fun r219 =>
  some r219

noncomputable def g_slices_pdqsortCmpFunc_int_n : Nat → Int → Int → Int → (Int → Int → Option Int) → (List Int) → Option (List Int)
  | 0 => fun _ _ _ _ _ => none
  | n + 1 => g_slices_pdqsortCmpFunc_int_b (g_slices_pdqsortCmpFunc_int_n n)

noncomputable def g_slices_pdqsortCmpFunc_int (b : Int) (c : Int) (d : Int) (e : (Int → Int → Option Int)) (m0_0 : (List Int)) : Option (List Int) := lim1 fun n => g_slices_pdqsortCmpFunc_int_n n b c d e m0_0
noncomputable def g_slices_SortFunc_l_int_int (b : (Int → Int → Option Int)) (m0_0 : (List Int)) : Option (List Int) :=
  (g_math_bits_Len (IntKind.u64.wrap (m0_0.length : Int))).bind fun x0 =>
  (g_slices_pdqsortCmpFunc_int 0 (m0_0.length : Int) x0 b m0_0).bind fun x1 =>
  some x1
noncomputable def g_desc_Touches_L0 (a : DescT) (b : Int) (s1 : Int × (List Int)) : Option ((Int × (List Int)) ⊕ (List Int)) :=
  bif (decide (s1.1 < (a.futures.length : Int))) then
    (getI a.futures s1.1).bind fun x2 =>
    bif (x2.user == b) then
      bif (Nat.ble (List.length s1.2 + 1) lim) then
        some (.inl ((w64 (s1.1 + 1)), (s1.2 ++ [s1.1])))
      else
        none
    else
      some (.inl ((w64 (s1.1 + 1)), s1.2))
  else
    some (.inr s1.2)

noncomputable def g_desc_Touches (a : DescT) (b : Int) : Option (List Int) :=
  (g_desc_Check a).bind fun x0 =>
  bif (x0 != 0) then
    some ([] : List Int)
  else
    (lp (g_desc_Touches_L0 a b) (0, ([] : (List Int)))).bind fun r3 =>
    (g_slices_SortFunc_l_int_int (fun z0 z1 => g_desc_Touches_1 z0 z1 a.futures) r3).bind fun x4 =>
    some x4
noncomputable def g_desc_Feeds_L0 (a : DescT) (b : Int) (s1 : Int × (List Int)) : Option ((Int × (List Int)) ⊕ (List Int)) :=
  bif (decide (s1.1 < (a.edges.length : Int))) then
    (getI a.edges s1.1).bind fun x2 =>
    bif (x2.dst == b) then
      bif (Nat.ble (List.length s1.2 + 1) lim) then
        some (.inl ((w64 (s1.1 + 1)), (s1.2 ++ [x2.src])))
      else
        none
    else
      some (.inl ((w64 (s1.1 + 1)), s1.2))
  else
    some (.inr s1.2)

noncomputable def g_desc_Feeds_L1 (a : DescT) (x4 : (List Int)) (s5 : Int × (List Int)) : Option ((Int × (List Int)) ⊕ (List Int)) :=
  bif (decide (s5.1 < (x4.length : Int))) then
    (getI x4 s5.1).bind fun x6 =>
    (getI a.futures x6).bind fun x7 =>
    bif (Nat.ble (List.length s5.2 + 1) lim) then
      some (.inl ((w64 (s5.1 + 1)), (s5.2 ++ [x7.maker])))
    else
      none
  else
    some (.inr s5.2)

noncomputable def g_desc_Feeds (a : DescT) (b : Int) : Option (List Int) :=
  (g_desc_Check a).bind fun x0 =>
  bif (x0 != 0) then
    some ([] : List Int)
  else
    (lp (g_desc_Feeds_L0 a b) (0, ([] : (List Int)))).bind fun r3 =>
    (g_desc_Touches a b).bind fun x4 =>
    (lp (g_desc_Feeds_L1 a x4) (0, r3)).bind fun r8 =>
    some r8
noncomputable def g_ref05_Touches_L0 (a : DescT) (b : Int) (s0 : Int × (List Int)) (s1 : Int × (List Int)) : Option ((Int × (List Int)) ⊕ (List Int)) :=
  bif (decide (s1.1 < (a.futures.length : Int))) then
    (getI a.futures s1.1).bind fun x2 =>
    bif (x2.user == b) then
      bif (x2.pos == s0.1) then
        bif (Nat.ble (List.length s1.2 + 1) lim) then
          some (.inl ((w64 (s1.1 + 1)), (s1.2 ++ [s1.1])))
        else
          none
      else
        some (.inl ((w64 (s1.1 + 1)), s1.2))
    else
      some (.inl ((w64 (s1.1 + 1)), s1.2))
  else
    some (.inr s1.2)

noncomputable def g_ref05_Touches_L1 (a : DescT) (b : Int) (s0 : Int × (List Int)) : Option ((Int × (List Int)) ⊕ (List Int)) :=
  bif (decide (s0.1 < 100)) then
    (lp (g_ref05_Touches_L0 a b s0) (0, s0.2)).bind fun r3 =>
    some (.inl ((w64 (s0.1 + 1)), r3))
  else
    some (.inr s0.2)

noncomputable def g_ref05_Touches (a : DescT) (b : Int) : Option (List Int) :=
  (lp (g_ref05_Touches_L1 a b) (1, ([] : (List Int)))).bind fun r4 =>
  some r4
noncomputable def g_ref05_Feeds_L0 (a : DescT) (b : Int) (s0 : Int × (List Int)) : Option ((Int × (List Int)) ⊕ (List Int)) :=
  bif (decide (s0.1 < (a.edges.length : Int))) then
    (getI a.edges s0.1).bind fun x1 =>
    bif (x1.dst == b) then
      bif (Nat.ble (List.length s0.2 + 1) lim) then
        some (.inl ((w64 (s0.1 + 1)), (s0.2 ++ [x1.src])))
      else
        none
    else
      some (.inl ((w64 (s0.1 + 1)), s0.2))
  else
    some (.inr s0.2)

noncomputable def g_ref05_Feeds_L1 (a : DescT) (x3 : (List Int)) (s4 : Int × (List Int)) : Option ((Int × (List Int)) ⊕ (List Int)) :=
  bif (decide (s4.1 < (x3.length : Int))) then
    (getI x3 s4.1).bind fun x5 =>
    (getI a.futures x5).bind fun x6 =>
    bif (Nat.ble (List.length s4.2 + 1) lim) then
      some (.inl ((w64 (s4.1 + 1)), (s4.2 ++ [x6.maker])))
    else
      none
  else
    some (.inr s4.2)

noncomputable def g_ref05_Feeds (a : DescT) (b : Int) : Option (List Int) :=
  (lp (g_ref05_Feeds_L0 a b) (0, ([] : (List Int)))).bind fun r2 =>
  (g_ref05_Touches a b).bind fun x3 =>
  (lp (g_ref05_Feeds_L1 a x3) (0, r2)).bind fun r7 =>
  some r7
noncomputable def g_law05_DescFeeds (a : DescT) (b : Int) : Option Bool :=
  g_law05_awake.bind fun x0 =>
  bif x0 then
    (g_ref05_Few a).bind fun x1 =>
    bif x1 then
      (g_law05_Own a).bind fun x2 =>
      (g_desc_Touches (DescT.mk a.period a.deadline a.parts a.edges a.futures x2) b).bind fun x3 =>
      (g_law05_Own a).bind fun x4 =>
      (g_desc_Feeds (DescT.mk a.period a.deadline a.parts a.edges a.futures x4) b).bind fun x5 =>
      (g_ref05_Check a).bind fun x6 =>
      bif (x6 != 0) then
        bif ((x3.length : Int) == 0) then
          bif ((x5.length : Int) == 0) then
            some true
          else
            some false
        else
          some false
      else
        (g_ref05_Touches a b).bind fun x7 =>
        (g_ref02_Ints x3 x7).bind fun x8 =>
        bif x8 then
          (g_ref05_Feeds a b).bind fun x9 =>
          (g_ref02_Ints x5 x9).bind fun x10 =>
          bif x10 then
            some true
          else
            some false
        else
          some false
    else
      g_law05_awake.bind fun x11 =>
      bif x11 then
        some true
      else
        some false
  else
    g_law05_awake.bind fun x12 =>
    bif x12 then
      some true
    else
      some false
noncomputable def g_law05_DescGaps_L0 (a : DescT) (b : Int) (x8 : (List Int)) (s9 : Int × Int) : Option ((Int × Int) ⊕ (Int ⊕ Int)) :=
  bif (decide (s9.2 < (x8.length : Int))) then
    (getI x8 s9.2).bind fun x10 =>
    bif (decide (x10 < 0)) then
      some (.inr (.inl s9.1))
    else
      bif (decide ((a.futures.length : Int) ≤ x10)) then
        some (.inr (.inl s9.1))
      else
        (getI a.futures x10).bind fun x11 =>
        bif (x11.user != b) then
          some (.inr (.inl s9.1))
        else
          bif (decide (x11.pos ≤ s9.1)) then
            some (.inr (.inl s9.1))
          else
            some (.inl (x11.pos, (w64 (s9.2 + 1))))
  else
    some (.inr (.inr s9.1))

noncomputable def g_law05_DescGaps (a : DescT) (b : Int) : Option Bool :=
  g_law05_awake.bind fun x0 =>
  bif x0 then
    (g_ref05_Few a).bind fun x1 =>
    bif x1 then
      (g_law05_Own a).bind fun x2 =>
      (g_desc_Check (DescT.mk a.period a.deadline a.parts a.edges a.futures x2)).bind fun x3 =>
      bif (x3 != 0) then
        g_law05_awake.bind fun x4 =>
        bif x4 then
          some true
        else
          some false
      else
        bif (decide (b < 0)) then
          g_law05_awake.bind fun x5 =>
          bif x5 then
            some true
          else
            some false
        else
          bif (decide ((a.parts.length : Int) ≤ b)) then
            g_law05_awake.bind fun x6 =>
            bif x6 then
              some true
            else
              some false
          else
            (g_law05_Own a).bind fun x7 =>
            (g_desc_Touches (DescT.mk a.period a.deadline a.parts a.edges a.futures x7) b).bind fun x8 =>
            (lp (g_law05_DescGaps_L0 a b x8) (0, 0)).bind fun r12 =>
            match r12 with
            | (.inl r12) =>
              some false
            | (.inr r12) =>
              (getI a.parts b).bind fun x13 =>
              bif (decide (r12 < x13.work)) then
                (g_law05_Own a).bind fun x14 =>
                (g_desc_Feeds (DescT.mk a.period a.deadline a.parts a.edges a.futures x14) b).bind fun x15 =>
                bif (decide ((x8.length : Int) ≤ (x15.length : Int))) then
                  some true
                else
                  some false
              else
                some false
    else
      g_law05_awake.bind fun x16 =>
      bif x16 then
        some true
      else
        some false
  else
    g_law05_awake.bind fun x17 =>
    bif x17 then
      some true
    else
      some false
noncomputable def g_law05_DescCounts_L0 (a : DescT) (s5 : Int × Int) (x7 : (List Int)) (s8 : Int) : Option (Int ⊕ (Unit ⊕ Unit)) :=
  bif (decide (s8 < (x7.length : Int))) then
    (getI x7 s8).bind fun x9 =>
    bif (x9 == s5.2) then
      some (.inr (.inl ()))
    else
      (g_ref05_Part a x9).bind fun x10 =>
      bif x10 then
        some (.inl (w64 (s8 + 1)))
      else
        some (.inr (.inl ()))
  else
    some (.inr (.inr ()))

noncomputable def g_law05_DescCounts_L1 (a : DescT) (s5 : Int × Int) : Option ((Int × Int) ⊕ (Int ⊕ Int)) :=
  bif (decide (s5.2 < (a.parts.length : Int))) then
    (g_law05_Own a).bind fun x6 =>
    (g_desc_Feeds (DescT.mk a.period a.deadline a.parts a.edges a.futures x6) s5.2).bind fun x7 =>
    (lp (g_law05_DescCounts_L0 a s5 x7) 0).bind fun r11 =>
    match r11 with
    | (.inl r11) =>
      some (.inr (.inl (w64 (s5.1 + (x7.length : Int)))))
    | (.inr r11) =>
      some (.inl ((w64 (s5.1 + (x7.length : Int))), (w64 (s5.2 + 1))))
  else
    some (.inr (.inr s5.1))

noncomputable def g_law05_DescCounts (a : DescT) : Option Bool :=
  g_law05_awake.bind fun x0 =>
  bif x0 then
    (g_ref05_Few a).bind fun x1 =>
    bif x1 then
      (g_law05_Own a).bind fun x2 =>
      (g_desc_Check (DescT.mk a.period a.deadline a.parts a.edges a.futures x2)).bind fun x3 =>
      bif (x3 != 0) then
        g_law05_awake.bind fun x4 =>
        bif x4 then
          some true
        else
          some false
      else
        (lp (g_law05_DescCounts_L1 a) (0, 0)).bind fun r12 =>
        match r12 with
        | (.inl r12) =>
          some false
        | (.inr r12) =>
          bif (r12 == (w64 ((a.edges.length : Int) + (a.futures.length : Int)))) then
            some true
          else
            some false
    else
      g_law05_awake.bind fun x13 =>
      bif x13 then
        some true
      else
        some false
  else
    g_law05_awake.bind fun x14 =>
    bif x14 then
      some true
    else
      some false
end Go.Proofs.YtakebhleglnpjaaDoor
