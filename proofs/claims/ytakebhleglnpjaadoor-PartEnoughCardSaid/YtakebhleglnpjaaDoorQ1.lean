/- What the functions say, as plain text. -/
import Derived.Test.YtakebhleglnpjaaDoorE35
namespace Go.Proofs.YtakebhleglnpjaaDoor
open Go Go.Proofs.YtakebhleglnpjaaDoorE
set_option linter.unusedVariables false

structure ShapeT where
  total : Int
  long : Int
  most : Int
  deadline : Int
  period : Int
  deriving DecidableEq
abbrev shapeD (x : ShapeT) : D := (D.agg [(intD x.total), (intD x.long), (intD x.most), (intD x.deadline), (intD x.period)])
structure HeavyT where
  shape : ShapeT
  deriving DecidableEq
abbrev heavyD (x : HeavyT) : D := (D.agg [(intD x.shape.total), (intD x.shape.long), (intD x.shape.most), (intD x.shape.deadline), (intD x.shape.period)])
structure VerdictT where
  cores : Int
  e : Int
  deriving DecidableEq
abbrev verdictD (x : VerdictT) : D := (D.agg [(intD x.cores), (intD x.e)])
structure LightT where
  shape : ShapeT
  deriving DecidableEq
abbrev lightD (x : LightT) : D := (D.agg [(intD x.shape.total), (intD x.shape.long), (intD x.shape.most), (intD x.shape.deadline), (intD x.shape.period)])
def str0 : ByteArray := ⟨#[0, 1, 2, 2, 3, 3, 3, 3, 4, 4, 4, 4, 4, 4, 4, 4, 5, 5, 5, 5, 5, 5, 5, 5, 5, 5, 5, 5, 5, 5, 5, 5, 6, 6, 6, 6, 6, 6, 6, 6, 6, 6, 6, 6, 6, 6, 6, 6, 6, 6, 6, 6, 6, 6, 6, 6, 6, 6, 6, 6, 6, 6, 6, 6, 7, 7, 7, 7, 7, 7, 7, 7, 7, 7, 7, 7, 7, 7, 7, 7, 7, 7, 7, 7, 7, 7, 7, 7, 7, 7, 7, 7, 7, 7, 7, 7, 7, 7, 7, 7, 7, 7, 7, 7, 7, 7, 7, 7, 7, 7, 7, 7, 7, 7, 7, 7, 7, 7, 7, 7, 7, 7, 7, 7, 7, 7, 7, 7, 8, 8, 8, 8, 8, 8, 8, 8, 8, 8, 8, 8, 8, 8, 8, 8, 8, 8, 8, 8, 8, 8, 8, 8, 8, 8, 8, 8, 8, 8, 8, 8, 8, 8, 8, 8, 8, 8, 8, 8, 8, 8, 8, 8, 8, 8, 8, 8, 8, 8, 8, 8, 8, 8, 8, 8, 8, 8, 8, 8, 8, 8, 8, 8, 8, 8, 8, 8, 8, 8, 8, 8, 8, 8, 8, 8, 8, 8, 8, 8, 8, 8, 8, 8, 8, 8, 8, 8, 8, 8, 8, 8, 8, 8, 8, 8, 8, 8, 8, 8, 8, 8, 8, 8, 8, 8, 8, 8, 8, 8, 8, 8, 8, 8, 8, 8, 8, 8, 8, 8, 8, 8, 8, 8, 8, 8, 8, 8]⟩
def g_law16_awake : Option Bool := some true
noncomputable def g_law15_Own (a : (List ShapeT)) : Option Unit :=
  bif (Nat.ble (List.length a) lim) then
    some ()
  else
    none
noncomputable def g_num_Check (a : Int) : Option Int :=
  bif (decide (a < 0)) then
    some 10
  else
    bif (decide (1099511627775 < a)) then
      some 11
    else
      some 0
noncomputable def g_math_bits_OnesCount64 (a : Int) : Option Int :=
  some (IntKind.i64.wrap (BitVec.ofInt IntKind.i64.bits (w64 (IntKind.u64.wrap ((IntKind.u64.wrap ((IntKind.u64.wrap ((IntKind.u64.wrap (BitVec.ofInt IntKind.u64.bits (IntKind.u64.wrap ((Int.fdiv (IntKind.u64.wrap ((IntKind.u64.wrap (BitVec.ofInt IntKind.u64.bits (Int.fdiv (IntKind.u64.wrap ((IntKind.u64.wrap (BitVec.ofInt IntKind.u64.bits (Int.fdiv a (2 ^ 1)) &&& BitVec.ofInt IntKind.u64.bits 6148914691236517205).toNat) + (IntKind.u64.wrap (BitVec.ofInt IntKind.u64.bits a &&& BitVec.ofInt IntKind.u64.bits 6148914691236517205).toNat))) (2 ^ 2)) &&& BitVec.ofInt IntKind.u64.bits 3689348814741910323).toNat) + (IntKind.u64.wrap (BitVec.ofInt IntKind.u64.bits (IntKind.u64.wrap ((IntKind.u64.wrap (BitVec.ofInt IntKind.u64.bits (Int.fdiv a (2 ^ 1)) &&& BitVec.ofInt IntKind.u64.bits 6148914691236517205).toNat) + (IntKind.u64.wrap (BitVec.ofInt IntKind.u64.bits a &&& BitVec.ofInt IntKind.u64.bits 6148914691236517205).toNat))) &&& BitVec.ofInt IntKind.u64.bits 3689348814741910323).toNat))) (2 ^ 4)) + (IntKind.u64.wrap ((IntKind.u64.wrap (BitVec.ofInt IntKind.u64.bits (Int.fdiv (IntKind.u64.wrap ((IntKind.u64.wrap (BitVec.ofInt IntKind.u64.bits (Int.fdiv a (2 ^ 1)) &&& BitVec.ofInt IntKind.u64.bits 6148914691236517205).toNat) + (IntKind.u64.wrap (BitVec.ofInt IntKind.u64.bits a &&& BitVec.ofInt IntKind.u64.bits 6148914691236517205).toNat))) (2 ^ 2)) &&& BitVec.ofInt IntKind.u64.bits 3689348814741910323).toNat) + (IntKind.u64.wrap (BitVec.ofInt IntKind.u64.bits (IntKind.u64.wrap ((IntKind.u64.wrap (BitVec.ofInt IntKind.u64.bits (Int.fdiv a (2 ^ 1)) &&& BitVec.ofInt IntKind.u64.bits 6148914691236517205).toNat) + (IntKind.u64.wrap (BitVec.ofInt IntKind.u64.bits a &&& BitVec.ofInt IntKind.u64.bits 6148914691236517205).toNat))) &&& BitVec.ofInt IntKind.u64.bits 3689348814741910323).toNat))))) &&& BitVec.ofInt IntKind.u64.bits 1085102592571150095).toNat) + (Int.fdiv (IntKind.u64.wrap (BitVec.ofInt IntKind.u64.bits (IntKind.u64.wrap ((Int.fdiv (IntKind.u64.wrap ((IntKind.u64.wrap (BitVec.ofInt IntKind.u64.bits (Int.fdiv (IntKind.u64.wrap ((IntKind.u64.wrap (BitVec.ofInt IntKind.u64.bits (Int.fdiv a (2 ^ 1)) &&& BitVec.ofInt IntKind.u64.bits 6148914691236517205).toNat) + (IntKind.u64.wrap (BitVec.ofInt IntKind.u64.bits a &&& BitVec.ofInt IntKind.u64.bits 6148914691236517205).toNat))) (2 ^ 2)) &&& BitVec.ofInt IntKind.u64.bits 3689348814741910323).toNat) + (IntKind.u64.wrap (BitVec.ofInt IntKind.u64.bits (IntKind.u64.wrap ((IntKind.u64.wrap (BitVec.ofInt IntKind.u64.bits (Int.fdiv a (2 ^ 1)) &&& BitVec.ofInt IntKind.u64.bits 6148914691236517205).toNat) + (IntKind.u64.wrap (BitVec.ofInt IntKind.u64.bits a &&& BitVec.ofInt IntKind.u64.bits 6148914691236517205).toNat))) &&& BitVec.ofInt IntKind.u64.bits 3689348814741910323).toNat))) (2 ^ 4)) + (IntKind.u64.wrap ((IntKind.u64.wrap (BitVec.ofInt IntKind.u64.bits (Int.fdiv (IntKind.u64.wrap ((IntKind.u64.wrap (BitVec.ofInt IntKind.u64.bits (Int.fdiv a (2 ^ 1)) &&& BitVec.ofInt IntKind.u64.bits 6148914691236517205).toNat) + (IntKind.u64.wrap (BitVec.ofInt IntKind.u64.bits a &&& BitVec.ofInt IntKind.u64.bits 6148914691236517205).toNat))) (2 ^ 2)) &&& BitVec.ofInt IntKind.u64.bits 3689348814741910323).toNat) + (IntKind.u64.wrap (BitVec.ofInt IntKind.u64.bits (IntKind.u64.wrap ((IntKind.u64.wrap (BitVec.ofInt IntKind.u64.bits (Int.fdiv a (2 ^ 1)) &&& BitVec.ofInt IntKind.u64.bits 6148914691236517205).toNat) + (IntKind.u64.wrap (BitVec.ofInt IntKind.u64.bits a &&& BitVec.ofInt IntKind.u64.bits 6148914691236517205).toNat))) &&& BitVec.ofInt IntKind.u64.bits 3689348814741910323).toNat))))) &&& BitVec.ofInt IntKind.u64.bits 1085102592571150095).toNat) (2 ^ 8)))) + (Int.fdiv (IntKind.u64.wrap ((IntKind.u64.wrap (BitVec.ofInt IntKind.u64.bits (IntKind.u64.wrap ((Int.fdiv (IntKind.u64.wrap ((IntKind.u64.wrap (BitVec.ofInt IntKind.u64.bits (Int.fdiv (IntKind.u64.wrap ((IntKind.u64.wrap (BitVec.ofInt IntKind.u64.bits (Int.fdiv a (2 ^ 1)) &&& BitVec.ofInt IntKind.u64.bits 6148914691236517205).toNat) + (IntKind.u64.wrap (BitVec.ofInt IntKind.u64.bits a &&& BitVec.ofInt IntKind.u64.bits 6148914691236517205).toNat))) (2 ^ 2)) &&& BitVec.ofInt IntKind.u64.bits 3689348814741910323).toNat) + (IntKind.u64.wrap (BitVec.ofInt IntKind.u64.bits (IntKind.u64.wrap ((IntKind.u64.wrap (BitVec.ofInt IntKind.u64.bits (Int.fdiv a (2 ^ 1)) &&& BitVec.ofInt IntKind.u64.bits 6148914691236517205).toNat) + (IntKind.u64.wrap (BitVec.ofInt IntKind.u64.bits a &&& BitVec.ofInt IntKind.u64.bits 6148914691236517205).toNat))) &&& BitVec.ofInt IntKind.u64.bits 3689348814741910323).toNat))) (2 ^ 4)) + (IntKind.u64.wrap ((IntKind.u64.wrap (BitVec.ofInt IntKind.u64.bits (Int.fdiv (IntKind.u64.wrap ((IntKind.u64.wrap (BitVec.ofInt IntKind.u64.bits (Int.fdiv a (2 ^ 1)) &&& BitVec.ofInt IntKind.u64.bits 6148914691236517205).toNat) + (IntKind.u64.wrap (BitVec.ofInt IntKind.u64.bits a &&& BitVec.ofInt IntKind.u64.bits 6148914691236517205).toNat))) (2 ^ 2)) &&& BitVec.ofInt IntKind.u64.bits 3689348814741910323).toNat) + (IntKind.u64.wrap (BitVec.ofInt IntKind.u64.bits (IntKind.u64.wrap ((IntKind.u64.wrap (BitVec.ofInt IntKind.u64.bits (Int.fdiv a (2 ^ 1)) &&& BitVec.ofInt IntKind.u64.bits 6148914691236517205).toNat) + (IntKind.u64.wrap (BitVec.ofInt IntKind.u64.bits a &&& BitVec.ofInt IntKind.u64.bits 6148914691236517205).toNat))) &&& BitVec.ofInt IntKind.u64.bits 3689348814741910323).toNat))))) &&& BitVec.ofInt IntKind.u64.bits 1085102592571150095).toNat) + (Int.fdiv (IntKind.u64.wrap (BitVec.ofInt IntKind.u64.bits (IntKind.u64.wrap ((Int.fdiv (IntKind.u64.wrap ((IntKind.u64.wrap (BitVec.ofInt IntKind.u64.bits (Int.fdiv (IntKind.u64.wrap ((IntKind.u64.wrap (BitVec.ofInt IntKind.u64.bits (Int.fdiv a (2 ^ 1)) &&& BitVec.ofInt IntKind.u64.bits 6148914691236517205).toNat) + (IntKind.u64.wrap (BitVec.ofInt IntKind.u64.bits a &&& BitVec.ofInt IntKind.u64.bits 6148914691236517205).toNat))) (2 ^ 2)) &&& BitVec.ofInt IntKind.u64.bits 3689348814741910323).toNat) + (IntKind.u64.wrap (BitVec.ofInt IntKind.u64.bits (IntKind.u64.wrap ((IntKind.u64.wrap (BitVec.ofInt IntKind.u64.bits (Int.fdiv a (2 ^ 1)) &&& BitVec.ofInt IntKind.u64.bits 6148914691236517205).toNat) + (IntKind.u64.wrap (BitVec.ofInt IntKind.u64.bits a &&& BitVec.ofInt IntKind.u64.bits 6148914691236517205).toNat))) &&& BitVec.ofInt IntKind.u64.bits 3689348814741910323).toNat))) (2 ^ 4)) + (IntKind.u64.wrap ((IntKind.u64.wrap (BitVec.ofInt IntKind.u64.bits (Int.fdiv (IntKind.u64.wrap ((IntKind.u64.wrap (BitVec.ofInt IntKind.u64.bits (Int.fdiv a (2 ^ 1)) &&& BitVec.ofInt IntKind.u64.bits 6148914691236517205).toNat) + (IntKind.u64.wrap (BitVec.ofInt IntKind.u64.bits a &&& BitVec.ofInt IntKind.u64.bits 6148914691236517205).toNat))) (2 ^ 2)) &&& BitVec.ofInt IntKind.u64.bits 3689348814741910323).toNat) + (IntKind.u64.wrap (BitVec.ofInt IntKind.u64.bits (IntKind.u64.wrap ((IntKind.u64.wrap (BitVec.ofInt IntKind.u64.bits (Int.fdiv a (2 ^ 1)) &&& BitVec.ofInt IntKind.u64.bits 6148914691236517205).toNat) + (IntKind.u64.wrap (BitVec.ofInt IntKind.u64.bits a &&& BitVec.ofInt IntKind.u64.bits 6148914691236517205).toNat))) &&& BitVec.ofInt IntKind.u64.bits 3689348814741910323).toNat))))) &&& BitVec.ofInt IntKind.u64.bits 1085102592571150095).toNat) (2 ^ 8)))) (2 ^ 16)))) + (Int.fdiv (IntKind.u64.wrap ((IntKind.u64.wrap ((IntKind.u64.wrap (BitVec.ofInt IntKind.u64.bits (IntKind.u64.wrap ((Int.fdiv (IntKind.u64.wrap ((IntKind.u64.wrap (BitVec.ofInt IntKind.u64.bits (Int.fdiv (IntKind.u64.wrap ((IntKind.u64.wrap (BitVec.ofInt IntKind.u64.bits (Int.fdiv a (2 ^ 1)) &&& BitVec.ofInt IntKind.u64.bits 6148914691236517205).toNat) + (IntKind.u64.wrap (BitVec.ofInt IntKind.u64.bits a &&& BitVec.ofInt IntKind.u64.bits 6148914691236517205).toNat))) (2 ^ 2)) &&& BitVec.ofInt IntKind.u64.bits 3689348814741910323).toNat) + (IntKind.u64.wrap (BitVec.ofInt IntKind.u64.bits (IntKind.u64.wrap ((IntKind.u64.wrap (BitVec.ofInt IntKind.u64.bits (Int.fdiv a (2 ^ 1)) &&& BitVec.ofInt IntKind.u64.bits 6148914691236517205).toNat) + (IntKind.u64.wrap (BitVec.ofInt IntKind.u64.bits a &&& BitVec.ofInt IntKind.u64.bits 6148914691236517205).toNat))) &&& BitVec.ofInt IntKind.u64.bits 3689348814741910323).toNat))) (2 ^ 4)) + (IntKind.u64.wrap ((IntKind.u64.wrap (BitVec.ofInt IntKind.u64.bits (Int.fdiv (IntKind.u64.wrap ((IntKind.u64.wrap (BitVec.ofInt IntKind.u64.bits (Int.fdiv a (2 ^ 1)) &&& BitVec.ofInt IntKind.u64.bits 6148914691236517205).toNat) + (IntKind.u64.wrap (BitVec.ofInt IntKind.u64.bits a &&& BitVec.ofInt IntKind.u64.bits 6148914691236517205).toNat))) (2 ^ 2)) &&& BitVec.ofInt IntKind.u64.bits 3689348814741910323).toNat) + (IntKind.u64.wrap (BitVec.ofInt IntKind.u64.bits (IntKind.u64.wrap ((IntKind.u64.wrap (BitVec.ofInt IntKind.u64.bits (Int.fdiv a (2 ^ 1)) &&& BitVec.ofInt IntKind.u64.bits 6148914691236517205).toNat) + (IntKind.u64.wrap (BitVec.ofInt IntKind.u64.bits a &&& BitVec.ofInt IntKind.u64.bits 6148914691236517205).toNat))) &&& BitVec.ofInt IntKind.u64.bits 3689348814741910323).toNat))))) &&& BitVec.ofInt IntKind.u64.bits 1085102592571150095).toNat) + (Int.fdiv (IntKind.u64.wrap (BitVec.ofInt IntKind.u64.bits (IntKind.u64.wrap ((Int.fdiv (IntKind.u64.wrap ((IntKind.u64.wrap (BitVec.ofInt IntKind.u64.bits (Int.fdiv (IntKind.u64.wrap ((IntKind.u64.wrap (BitVec.ofInt IntKind.u64.bits (Int.fdiv a (2 ^ 1)) &&& BitVec.ofInt IntKind.u64.bits 6148914691236517205).toNat) + (IntKind.u64.wrap (BitVec.ofInt IntKind.u64.bits a &&& BitVec.ofInt IntKind.u64.bits 6148914691236517205).toNat))) (2 ^ 2)) &&& BitVec.ofInt IntKind.u64.bits 3689348814741910323).toNat) + (IntKind.u64.wrap (BitVec.ofInt IntKind.u64.bits (IntKind.u64.wrap ((IntKind.u64.wrap (BitVec.ofInt IntKind.u64.bits (Int.fdiv a (2 ^ 1)) &&& BitVec.ofInt IntKind.u64.bits 6148914691236517205).toNat) + (IntKind.u64.wrap (BitVec.ofInt IntKind.u64.bits a &&& BitVec.ofInt IntKind.u64.bits 6148914691236517205).toNat))) &&& BitVec.ofInt IntKind.u64.bits 3689348814741910323).toNat))) (2 ^ 4)) + (IntKind.u64.wrap ((IntKind.u64.wrap (BitVec.ofInt IntKind.u64.bits (Int.fdiv (IntKind.u64.wrap ((IntKind.u64.wrap (BitVec.ofInt IntKind.u64.bits (Int.fdiv a (2 ^ 1)) &&& BitVec.ofInt IntKind.u64.bits 6148914691236517205).toNat) + (IntKind.u64.wrap (BitVec.ofInt IntKind.u64.bits a &&& BitVec.ofInt IntKind.u64.bits 6148914691236517205).toNat))) (2 ^ 2)) &&& BitVec.ofInt IntKind.u64.bits 3689348814741910323).toNat) + (IntKind.u64.wrap (BitVec.ofInt IntKind.u64.bits (IntKind.u64.wrap ((IntKind.u64.wrap (BitVec.ofInt IntKind.u64.bits (Int.fdiv a (2 ^ 1)) &&& BitVec.ofInt IntKind.u64.bits 6148914691236517205).toNat) + (IntKind.u64.wrap (BitVec.ofInt IntKind.u64.bits a &&& BitVec.ofInt IntKind.u64.bits 6148914691236517205).toNat))) &&& BitVec.ofInt IntKind.u64.bits 3689348814741910323).toNat))))) &&& BitVec.ofInt IntKind.u64.bits 1085102592571150095).toNat) (2 ^ 8)))) + (Int.fdiv (IntKind.u64.wrap ((IntKind.u64.wrap (BitVec.ofInt IntKind.u64.bits (IntKind.u64.wrap ((Int.fdiv (IntKind.u64.wrap ((IntKind.u64.wrap (BitVec.ofInt IntKind.u64.bits (Int.fdiv (IntKind.u64.wrap ((IntKind.u64.wrap (BitVec.ofInt IntKind.u64.bits (Int.fdiv a (2 ^ 1)) &&& BitVec.ofInt IntKind.u64.bits 6148914691236517205).toNat) + (IntKind.u64.wrap (BitVec.ofInt IntKind.u64.bits a &&& BitVec.ofInt IntKind.u64.bits 6148914691236517205).toNat))) (2 ^ 2)) &&& BitVec.ofInt IntKind.u64.bits 3689348814741910323).toNat) + (IntKind.u64.wrap (BitVec.ofInt IntKind.u64.bits (IntKind.u64.wrap ((IntKind.u64.wrap (BitVec.ofInt IntKind.u64.bits (Int.fdiv a (2 ^ 1)) &&& BitVec.ofInt IntKind.u64.bits 6148914691236517205).toNat) + (IntKind.u64.wrap (BitVec.ofInt IntKind.u64.bits a &&& BitVec.ofInt IntKind.u64.bits 6148914691236517205).toNat))) &&& BitVec.ofInt IntKind.u64.bits 3689348814741910323).toNat))) (2 ^ 4)) + (IntKind.u64.wrap ((IntKind.u64.wrap (BitVec.ofInt IntKind.u64.bits (Int.fdiv (IntKind.u64.wrap ((IntKind.u64.wrap (BitVec.ofInt IntKind.u64.bits (Int.fdiv a (2 ^ 1)) &&& BitVec.ofInt IntKind.u64.bits 6148914691236517205).toNat) + (IntKind.u64.wrap (BitVec.ofInt IntKind.u64.bits a &&& BitVec.ofInt IntKind.u64.bits 6148914691236517205).toNat))) (2 ^ 2)) &&& BitVec.ofInt IntKind.u64.bits 3689348814741910323).toNat) + (IntKind.u64.wrap (BitVec.ofInt IntKind.u64.bits (IntKind.u64.wrap ((IntKind.u64.wrap (BitVec.ofInt IntKind.u64.bits (Int.fdiv a (2 ^ 1)) &&& BitVec.ofInt IntKind.u64.bits 6148914691236517205).toNat) + (IntKind.u64.wrap (BitVec.ofInt IntKind.u64.bits a &&& BitVec.ofInt IntKind.u64.bits 6148914691236517205).toNat))) &&& BitVec.ofInt IntKind.u64.bits 3689348814741910323).toNat))))) &&& BitVec.ofInt IntKind.u64.bits 1085102592571150095).toNat) + (Int.fdiv (IntKind.u64.wrap (BitVec.ofInt IntKind.u64.bits (IntKind.u64.wrap ((Int.fdiv (IntKind.u64.wrap ((IntKind.u64.wrap (BitVec.ofInt IntKind.u64.bits (Int.fdiv (IntKind.u64.wrap ((IntKind.u64.wrap (BitVec.ofInt IntKind.u64.bits (Int.fdiv a (2 ^ 1)) &&& BitVec.ofInt IntKind.u64.bits 6148914691236517205).toNat) + (IntKind.u64.wrap (BitVec.ofInt IntKind.u64.bits a &&& BitVec.ofInt IntKind.u64.bits 6148914691236517205).toNat))) (2 ^ 2)) &&& BitVec.ofInt IntKind.u64.bits 3689348814741910323).toNat) + (IntKind.u64.wrap (BitVec.ofInt IntKind.u64.bits (IntKind.u64.wrap ((IntKind.u64.wrap (BitVec.ofInt IntKind.u64.bits (Int.fdiv a (2 ^ 1)) &&& BitVec.ofInt IntKind.u64.bits 6148914691236517205).toNat) + (IntKind.u64.wrap (BitVec.ofInt IntKind.u64.bits a &&& BitVec.ofInt IntKind.u64.bits 6148914691236517205).toNat))) &&& BitVec.ofInt IntKind.u64.bits 3689348814741910323).toNat))) (2 ^ 4)) + (IntKind.u64.wrap ((IntKind.u64.wrap (BitVec.ofInt IntKind.u64.bits (Int.fdiv (IntKind.u64.wrap ((IntKind.u64.wrap (BitVec.ofInt IntKind.u64.bits (Int.fdiv a (2 ^ 1)) &&& BitVec.ofInt IntKind.u64.bits 6148914691236517205).toNat) + (IntKind.u64.wrap (BitVec.ofInt IntKind.u64.bits a &&& BitVec.ofInt IntKind.u64.bits 6148914691236517205).toNat))) (2 ^ 2)) &&& BitVec.ofInt IntKind.u64.bits 3689348814741910323).toNat) + (IntKind.u64.wrap (BitVec.ofInt IntKind.u64.bits (IntKind.u64.wrap ((IntKind.u64.wrap (BitVec.ofInt IntKind.u64.bits (Int.fdiv a (2 ^ 1)) &&& BitVec.ofInt IntKind.u64.bits 6148914691236517205).toNat) + (IntKind.u64.wrap (BitVec.ofInt IntKind.u64.bits a &&& BitVec.ofInt IntKind.u64.bits 6148914691236517205).toNat))) &&& BitVec.ofInt IntKind.u64.bits 3689348814741910323).toNat))))) &&& BitVec.ofInt IntKind.u64.bits 1085102592571150095).toNat) (2 ^ 8)))) (2 ^ 16)))) (2 ^ 32))))) &&& BitVec.ofInt IntKind.i64.bits 127).toNat)
noncomputable def g_math_bits_OnesCount (a : Int) : Option Int :=
  (g_math_bits_OnesCount64 a).bind fun x0 =>
  some x0
def tz64tab : List Int := [0, 1, 56, 2, 57, 49, 28, 3, 61, 58, 42, 50, 38, 29, 17, 4, 62, 47, 59, 36, 45, 43, 51, 22, 53, 39, 33, 30, 24, 18, 12, 5, 63, 55, 48, 27, 60, 41, 37, 16, 46, 35, 44, 21, 52, 32, 23, 11, 54, 26, 40, 15, 34, 20, 31, 10, 25, 14, 19, 9, 13, 8, 7, 6]
def g_math_bits_TrailingZeros64 (a : Int) : Option Int := some (bif a == 0 then 64 else w64 (tz64tab.getD (Int.fdiv (IntKind.u64.wrap ((IntKind.u64.wrap (BitVec.ofInt IntKind.u64.bits a &&& BitVec.ofInt IntKind.u64.bits (IntKind.u64.wrap (0 - a))).toNat) * 285870213051353865)) (2 ^ (min (Int.toNat 58) IntKind.u64.bits))).toNat 0))
noncomputable def g_math_bits_TrailingZeros (a : Int) : Option Int :=
  (g_math_bits_TrailingZeros64 a).bind fun x0 =>
  some x0
noncomputable def g_num_Two (a : Int) : Option (Int × Bool) :=
  (g_num_Check a).bind fun x0 =>
  bif (x0 != 0) then
    some (0, false)
  else
    (g_math_bits_OnesCount (IntKind.u64.wrap a)).bind fun x1 =>
    bif (x1 != 1) then
      some (0, false)
    else
      (g_math_bits_TrailingZeros (IntKind.u64.wrap a)).bind fun x2 =>
      some (x2, true)
noncomputable def g_class_Check_1 (a : Int) (b : Int) : Option Bool :=
  bif (decide (1 ≤ a)) then
    bif (decide (a ≤ b)) then
      some true
    else
      some false
  else
    some false
noncomputable def g_class_Check (a : ShapeT) : Option Int :=
  (g_num_Two a.period).bind fun x0 =>
  bif x0.2 then
    bif (decide (4096 < a.period)) then
      some 140
    else
      (g_class_Check_1 a.deadline a.period).bind fun x1 =>
      bif x1 then
        (g_class_Check_1 a.total 4096).bind fun x2 =>
        bif x2 then
          (g_class_Check_1 a.long a.total).bind fun x3 =>
          bif x3 then
            (g_class_Check_1 a.most a.long).bind fun x4 =>
            bif x4 then
              some 0
            else
              some 140
          else
            some 140
        else
          some 140
      else
        some 140
  else
    some 140
noncomputable def g_class_of (a : ShapeT) : Option (Unit ⊕ Unit) :=
  bif (decide (a.deadline < a.total)) then
    some (.inl ())
  else
    some (.inr ())
noncomputable def g_num_Up_1 (a0 : Int) : Option Int :=
  some (w64 (a0 - 1))
noncomputable def g_num_first_1 (a : Int) : Option Bool :=
  (g_num_Check a).bind fun x0 =>
  bif (x0 != 0) then
    some true
  else
    some false
noncomputable def g_slices_IndexFunc_l_int_int_L0 (a : (List Int)) (b : (Int → Option Bool)) (s0 : Int) : Option (Int ⊕ (Int ⊕ Unit)) :=
  bif (decide (s0 < (a.length : Int))) then
    (getI a s0).bind fun x1 =>
    (b x1).bind fun x2 =>
    bif x2 then
      some (.inr (.inl s0))
    else
      some (.inl (w64 (s0 + 1)))
  else
    some (.inr (.inr ()))

noncomputable def g_slices_IndexFunc_l_int_int (a : (List Int)) (b : (Int → Option Bool)) : Option Int :=
  (lp (g_slices_IndexFunc_l_int_int_L0 a b) 0).bind fun r3 =>
  match r3 with
  | (.inl r3) =>
    some r3
  | (.inr r3) =>
    some (-1)
noncomputable def g_num_first (a : (List Int)) : Option Int :=
  (g_slices_IndexFunc_l_int_int a (fun z0 => g_num_first_1 z0)).bind fun x0 =>
  bif (decide (x0 < 0)) then
    some 0
  else
    (getI a x0).bind fun x1 =>
    (g_num_Check x1).bind fun x2 =>
    some x2
noncomputable def g_num_quotient (a : Int) (b : Int) (c : (Option Int)) : Option (Int × Int) :=
  (g_num_first [a, b]).bind fun x0 =>
  bif (x0 != 0) then
    some (0, x0)
  else
    bif (b == 0) then
      some (0, 12)
    else
      (c).bind fun x1 =>
      bif (b == 0) then
        none
      else
        some ((w64 (Int.tdiv (w64 (a + x1)) b)), 0)
noncomputable def g_num_Up (a : Int) (b : Int) : Option (Int × Int) :=
  (g_num_quotient a b (g_num_Up_1 b)).bind fun x0 =>
  some (x0.1, x0.2)
noncomputable def g_class_heavy_need (a : HeavyT) : Option VerdictT :=
  bif (decide (a.shape.deadline ≤ a.shape.long)) then
    some (VerdictT.mk 0 141)
  else
    (g_num_Up (w64 (a.shape.total - a.shape.long)) (w64 (a.shape.deadline - a.shape.long))).bind fun x0 =>
    bif (x0.2 == 0) then
      bif (decide (8 < x0.1)) then
        some (VerdictT.mk 0 142)
      else
        some (VerdictT.mk x0.1 x0.2)
    else
      some (VerdictT.mk x0.1 x0.2)
noncomputable def g_class_light_need (a : LightT) : Option VerdictT :=
  some (VerdictT.mk 1 0)
noncomputable def g_class_Heavy (a : ShapeT) : Option Bool :=
  (g_class_Check a).bind fun x0 =>
  bif (x0 == 0) then
    (g_class_of a).bind fun x1 =>
    match x1 with
    | (.inl x1) =>
      (g_class_heavy_need (HeavyT.mk a)).bind fun x2 =>
      (g_class_light_need (LightT.mk a)).bind fun x3 =>
      bif (!((x2.cores == x3.cores) && ((x2.e == x3.e) && true))) then
        some true
      else
        some false
    | (.inr x1) =>
      (g_class_light_need (LightT.mk a)).bind fun x4 =>
      (g_class_light_need (LightT.mk a)).bind fun x5 =>
      bif (!((x4.cores == x5.cores) && ((x4.e == x5.e) && true))) then
        some true
      else
        some false
  else
    some false
noncomputable def g_edf_Check_1 (a : ShapeT) : Option Bool :=
  (g_class_Check a).bind fun x0 =>
  bif (x0 != 0) then
    some true
  else
    (g_class_Heavy a).bind fun x1 =>
    bif x1 then
      some true
    else
      some false
noncomputable def g_slices_IndexFunc_l_Shape_Shape_L0 (a : (List ShapeT)) (b : (ShapeT → Option Bool)) (s0 : Int) : Option (Int ⊕ (Int ⊕ Unit)) :=
  bif (decide (s0 < (a.length : Int))) then
    (getI a s0).bind fun x1 =>
    (b x1).bind fun x2 =>
    bif x2 then
      some (.inr (.inl s0))
    else
      some (.inl (w64 (s0 + 1)))
  else
    some (.inr (.inr ()))

noncomputable def g_slices_IndexFunc_l_Shape_Shape (a : (List ShapeT)) (b : (ShapeT → Option Bool)) : Option Int :=
  (lp (g_slices_IndexFunc_l_Shape_Shape_L0 a b) 0).bind fun r3 =>
  match r3 with
  | (.inl r3) =>
    some r3
  | (.inr r3) =>
    some (-1)
noncomputable def g_slices_ContainsFunc_l_Shape_Shape (a : (List ShapeT)) (b : (ShapeT → Option Bool)) : Option Bool :=
  (g_slices_IndexFunc_l_Shape_Shape a b).bind fun x0 =>
  bif (decide (0 ≤ x0)) then
    some true
  else
    some false
noncomputable def g_edf_Check (a : (List ShapeT)) : Option Int :=
  bif (decide (8 < (a.length : Int))) then
    some 150
  else
    (g_slices_ContainsFunc_l_Shape_Shape a (fun z0 => g_edf_Check_1 z0)).bind fun x0 =>
    bif x0 then
      some 150
    else
      some 0
noncomputable def g_part_within (a : Int) : Option Bool :=
  bif (decide (0 ≤ a)) then
    bif (decide (a ≤ 8)) then
      some true
    else
      some false
  else
    some false
noncomputable def g_part_Order_1 (a : Int) (b : Int) (c0 : (List ShapeT)) : Option Int :=
  (getI c0 a).bind fun x0 =>
  (getI c0 b).bind fun x1 =>
  bif (decide (x1.total < x0.total)) then
    some (-1)
  else
    bif (decide (x0.total < x1.total)) then
      some 1
    else
      some (w64 (a - b))
noncomputable def g_math_bits_Len64 (a : Int) : Option Int :=
  bif (decide (4294967296 ≤ a)) then
    bif (decide (65536 ≤ (Int.fdiv a (2 ^ 32)))) then
      bif (decide (256 ≤ (Int.fdiv (Int.fdiv a (2 ^ 32)) (2 ^ 16)))) then
        bif (decide (0 ≤ (IntKind.u8.wrap (Int.fdiv (Int.fdiv (Int.fdiv a (2 ^ 32)) (2 ^ 16)) (2 ^ 8))))) then
          (str0[(IntKind.u8.wrap (Int.fdiv (Int.fdiv (Int.fdiv a (2 ^ 32)) (2 ^ 16)) (2 ^ 8))).toNat]?).bind fun x0 =>
          some (w64 (56 + (w64 (x0.toNat : Int))))
        else
          none
      else
        bif (decide (0 ≤ (IntKind.u8.wrap (Int.fdiv (Int.fdiv a (2 ^ 32)) (2 ^ 16))))) then
          (str0[(IntKind.u8.wrap (Int.fdiv (Int.fdiv a (2 ^ 32)) (2 ^ 16))).toNat]?).bind fun x1 =>
          some (w64 (48 + (w64 (x1.toNat : Int))))
        else
          none
    else
      bif (decide (256 ≤ (Int.fdiv a (2 ^ 32)))) then
        bif (decide (0 ≤ (IntKind.u8.wrap (Int.fdiv (Int.fdiv a (2 ^ 32)) (2 ^ 8))))) then
          (str0[(IntKind.u8.wrap (Int.fdiv (Int.fdiv a (2 ^ 32)) (2 ^ 8))).toNat]?).bind fun x2 =>
          some (w64 (40 + (w64 (x2.toNat : Int))))
        else
          none
      else
        bif (decide (0 ≤ (IntKind.u8.wrap (Int.fdiv a (2 ^ 32))))) then
          (str0[(IntKind.u8.wrap (Int.fdiv a (2 ^ 32))).toNat]?).bind fun x3 =>
          some (w64 (32 + (w64 (x3.toNat : Int))))
        else
          none
  else
    bif (decide (65536 ≤ a)) then
      bif (decide (256 ≤ (Int.fdiv a (2 ^ 16)))) then
        bif (decide (0 ≤ (IntKind.u8.wrap (Int.fdiv (Int.fdiv a (2 ^ 16)) (2 ^ 8))))) then
          (str0[(IntKind.u8.wrap (Int.fdiv (Int.fdiv a (2 ^ 16)) (2 ^ 8))).toNat]?).bind fun x4 =>
          some (w64 (24 + (w64 (x4.toNat : Int))))
        else
          none
      else
        bif (decide (0 ≤ (IntKind.u8.wrap (Int.fdiv a (2 ^ 16))))) then
          (str0[(IntKind.u8.wrap (Int.fdiv a (2 ^ 16))).toNat]?).bind fun x5 =>
          some (w64 (16 + (w64 (x5.toNat : Int))))
        else
          none
    else
      bif (decide (256 ≤ a)) then
        bif (decide (0 ≤ (IntKind.u8.wrap (Int.fdiv a (2 ^ 8))))) then
          (str0[(IntKind.u8.wrap (Int.fdiv a (2 ^ 8))).toNat]?).bind fun x6 =>
          some (w64 (8 + (w64 (x6.toNat : Int))))
        else
          none
      else
        bif (decide (0 ≤ (IntKind.u8.wrap a))) then
          (str0[(IntKind.u8.wrap a).toNat]?).bind fun x7 =>
          some (w64 (0 + (w64 (x7.toNat : Int))))
        else
          none
noncomputable def g_math_bits_Len (a : Int) : Option Int :=
  (g_math_bits_Len64 a).bind fun x0 =>
  some x0
noncomputable def g_slices_insertionSortCmpFunc_int_L0 (b : Int) (d : (Int → Int → Option Int)) (s1 : Int × (List Int)) : Option ((Int × (List Int)) ⊕ (List Int)) :=
  bif (decide (b < s1.1)) then
    (getI s1.2 s1.1).bind fun x2 =>
    (getI s1.2 (w64 (s1.1 - 1))).bind fun x3 =>
    (d x2 x3).bind fun x4 =>
    bif (decide (x4 < 0)) then
      (getI (List.set s1.2 s1.1.toNat x3) (w64 (s1.1 - 1))).bind fun x5 =>
      some (.inl ((w64 (s1.1 - 1)), (List.set (List.set s1.2 s1.1.toNat x3) (w64 (s1.1 - 1)).toNat x2)))
    else
      some (.inr s1.2)
  else
    some (.inr s1.2)

noncomputable def g_slices_insertionSortCmpFunc_int_L1 (b : Int) (c : Int) (d : (Int → Int → Option Int)) (s0 : Int × (List Int)) : Option ((Int × (List Int)) ⊕ (List Int)) :=
  bif (decide (s0.1 < c)) then
    (lp (g_slices_insertionSortCmpFunc_int_L0 b d) (s0.1, s0.2)).bind fun r6 =>
    some (.inl ((w64 (s0.1 + 1)), r6))
  else
    some (.inr s0.2)

noncomputable def g_slices_insertionSortCmpFunc_int (b : Int) (c : Int) (d : (Int → Int → Option Int)) (m0_0 : (List Int)) : Option (List Int) :=
  (lp (g_slices_insertionSortCmpFunc_int_L1 b c d) ((w64 (b + 1)), m0_0)).bind fun r7 =>
  some r7
noncomputable def g_slices_siftDownCmpFunc_int_L0 (c : Int) (d : Int) (e : (Int → Int → Option Int)) (s0 : Int × (List Int)) : Option ((Int × (List Int)) ⊕ ((List Int) ⊕ (List Int))) :=
  bif (decide (c ≤ (w64 ((w64 (2 * s0.1)) + 1)))) then
    some (.inr (.inl s0.2))
  else
    bif (decide ((w64 ((w64 ((w64 (2 * s0.1)) + 1)) + 1)) < c)) then
      (getI s0.2 (w64 (d + (w64 ((w64 (2 * s0.1)) + 1))))).bind fun x1 =>
      (getI s0.2 (w64 ((w64 (d + (w64 ((w64 (2 * s0.1)) + 1)))) + 1))).bind fun x2 =>
      (e x1 x2).bind fun x3 =>
      bif (decide (x3 < 0)) then
        (getI s0.2 (w64 (d + s0.1))).bind fun x4 =>
        (getI s0.2 (w64 (d + (w64 ((w64 ((w64 (2 * s0.1)) + 1)) + 1))))).bind fun x5 =>
        (e x4 x5).bind fun x6 =>
        bif (decide (x6 < 0)) then
          (getI (List.set s0.2 (w64 (d + s0.1)).toNat x5) (w64 (d + (w64 ((w64 ((w64 (2 * s0.1)) + 1)) + 1))))).bind fun x7 =>
          some (.inl ((w64 ((w64 ((w64 (2 * s0.1)) + 1)) + 1)), (List.set (List.set s0.2 (w64 (d + s0.1)).toNat x5) (w64 (d + (w64 ((w64 ((w64 (2 * s0.1)) + 1)) + 1)))).toNat x4)))
        else
          some (.inr (.inr s0.2))
      else
        (getI s0.2 (w64 (d + s0.1))).bind fun x8 =>
        (e x8 x1).bind fun x9 =>
        bif (decide (x9 < 0)) then
          (getI (List.set s0.2 (w64 (d + s0.1)).toNat x1) (w64 (d + (w64 ((w64 (2 * s0.1)) + 1))))).bind fun x10 =>
          some (.inl ((w64 ((w64 (2 * s0.1)) + 1)), (List.set (List.set s0.2 (w64 (d + s0.1)).toNat x1) (w64 (d + (w64 ((w64 (2 * s0.1)) + 1)))).toNat x8)))
        else
          some (.inr (.inr s0.2))
    else
      (getI s0.2 (w64 (d + s0.1))).bind fun x11 =>
      (getI s0.2 (w64 (d + (w64 ((w64 (2 * s0.1)) + 1))))).bind fun x12 =>
      (e x11 x12).bind fun x13 =>
      bif (decide (x13 < 0)) then
        (getI (List.set s0.2 (w64 (d + s0.1)).toNat x12) (w64 (d + (w64 ((w64 (2 * s0.1)) + 1))))).bind fun x14 =>
        some (.inl ((w64 ((w64 (2 * s0.1)) + 1)), (List.set (List.set s0.2 (w64 (d + s0.1)).toNat x12) (w64 (d + (w64 ((w64 (2 * s0.1)) + 1)))).toNat x11)))
      else
        some (.inr (.inr s0.2))

noncomputable def g_slices_siftDownCmpFunc_int (b : Int) (c : Int) (d : Int) (e : (Int → Int → Option Int)) (m0_0 : (List Int)) : Option (List Int) :=
  (lp (g_slices_siftDownCmpFunc_int_L0 c d e) (b, m0_0)).bind fun r15 =>
  match r15 with
  | (.inl r15) =>
    some r15
  | (.inr r15) =>
    some r15
noncomputable def g_slices_heapSortCmpFunc_int_L0 (b : Int) (c : Int) (d : (Int → Int → Option Int)) (s0 : Int × (List Int)) : Option ((Int × (List Int)) ⊕ (List Int)) :=
  bif (decide (0 ≤ s0.1)) then
    (g_slices_siftDownCmpFunc_int s0.1 (w64 (c - b)) b d s0.2).bind fun x1 =>
    some (.inl ((w64 (s0.1 - 1)), x1))
  else
    some (.inr s0.2)

noncomputable def g_slices_heapSortCmpFunc_int_L1 (b : Int) (d : (Int → Int → Option Int)) (s3 : Int × (List Int)) : Option ((Int × (List Int)) ⊕ (List Int)) :=
  bif (decide (0 ≤ s3.1)) then
    (getI s3.2 (w64 (b + s3.1))).bind fun x4 =>
    (getI s3.2 b).bind fun x5 =>
    (getI (List.set s3.2 b.toNat x4) (w64 (b + s3.1))).bind fun x6 =>
    (g_slices_siftDownCmpFunc_int 0 s3.1 b d (List.set (List.set s3.2 b.toNat x4) (w64 (b + s3.1)).toNat x5)).bind fun x7 =>
    some (.inl ((w64 (s3.1 - 1)), x7))
  else
    some (.inr s3.2)

noncomputable def g_slices_heapSortCmpFunc_int (b : Int) (c : Int) (d : (Int → Int → Option Int)) (m0_0 : (List Int)) : Option (List Int) :=
  (lp (g_slices_heapSortCmpFunc_int_L0 b c d) ((w64 (Int.tdiv (w64 ((w64 (c - b)) - 1)) 2)), m0_0)).bind fun r2 =>
  (lp (g_slices_heapSortCmpFunc_int_L1 b d) ((w64 ((w64 (c - b)) - 1)), r2)).bind fun r8 =>
  some r8
noncomputable def g_slices_order2CmpFunc_int (b : Int) (c : Int) (e : (Int → Int → Option Int)) (m0_0 : (List Int)) (m1_0 : Int) : Option (Int × Int × Int) :=
  (getI m0_0 c).bind fun x0 =>
  (getI m0_0 b).bind fun x1 =>
  (e x0 x1).bind fun x2 =>
  bif (decide (x2 < 0)) then
    some (c, b, (w64 (m1_0 + 1)))
  else
    some (b, c, m1_0)
noncomputable def g_slices_medianCmpFunc_int (b : Int) (c : Int) (d : Int) (f : (Int → Int → Option Int)) (m0_0 : (List Int)) (m1_0 : Int) : Option (Int × Int) :=
  (g_slices_order2CmpFunc_int b c f m0_0 m1_0).bind fun x0 =>
  (g_slices_order2CmpFunc_int x0.2.1 d f m0_0 x0.2.2).bind fun x1 =>
  (g_slices_order2CmpFunc_int x0.1 x1.1 f m0_0 x1.2.2).bind fun x2 =>
  some (x2.2.1, x2.2.2)
noncomputable def g_slices_medianAdjacentCmpFunc_int (b : Int) (d : (Int → Int → Option Int)) (m0_0 : (List Int)) (m1_0 : Int) : Option (Int × Int) :=
  (g_slices_medianCmpFunc_int (w64 (b - 1)) b (w64 (b + 1)) d m0_0 m1_0).bind fun x0 =>
  some (x0.1, x0.2)
noncomputable def g_slices_choosePivotCmpFunc_int (b : Int) (c : Int) (d : (Int → Int → Option Int)) (m0_0 : (List Int)) : Option (Int × Int) :=
  bif (decide (8 ≤ (w64 (c - b)))) then
    bif (decide (50 ≤ (w64 (c - b)))) then
      (g_slices_medianAdjacentCmpFunc_int (w64 (b + (w64 ((w64 (Int.tdiv (w64 (c - b)) 4)) * 1)))) d m0_0 0).bind fun x0 =>
      (g_slices_medianAdjacentCmpFunc_int (w64 (b + (w64 ((w64 (Int.tdiv (w64 (c - b)) 4)) * 2)))) d m0_0 x0.2).bind fun x1 =>
      (g_slices_medianAdjacentCmpFunc_int (w64 (b + (w64 ((w64 (Int.tdiv (w64 (c - b)) 4)) * 3)))) d m0_0 x1.2).bind fun x2 =>
      (g_slices_medianCmpFunc_int x0.1 x1.1 x2.1 d m0_0 x2.2).bind fun x3 =>
      bif (x3.2 == 0) then
        some (x3.1, 1)
      else
        bif (x3.2 == 12) then
          some (x3.1, 2)
        else
          some (x3.1, 0)
    else
      (g_slices_medianCmpFunc_int (w64 (b + (w64 ((w64 (Int.tdiv (w64 (c - b)) 4)) * 1)))) (w64 (b + (w64 ((w64 (Int.tdiv (w64 (c - b)) 4)) * 2)))) (w64 (b + (w64 ((w64 (Int.tdiv (w64 (c - b)) 4)) * 3)))) d m0_0 0).bind fun x4 =>
      bif (x4.2 == 0) then
        some (x4.1, 1)
      else
        bif (x4.2 == 12) then
          some (x4.1, 2)
        else
          some (x4.1, 0)
  else
    some ((w64 (b + (w64 ((w64 (Int.tdiv (w64 (c - b)) 4)) * 2)))), 1)
noncomputable def g_slices_reverseRangeCmpFunc_int_L0 (s0 : Int × Int × (List Int)) : Option ((Int × Int × (List Int)) ⊕ (List Int)) :=
  bif (decide (s0.1 < s0.2.1)) then
    (getI s0.2.2 s0.2.1).bind fun x1 =>
    (getI s0.2.2 s0.1).bind fun x2 =>
    (getI (List.set s0.2.2 s0.1.toNat x1) s0.2.1).bind fun x3 =>
    some (.inl ((w64 (s0.1 + 1)), (w64 (s0.2.1 - 1)), (List.set (List.set s0.2.2 s0.1.toNat x1) s0.2.1.toNat x2)))
  else
    some (.inr s0.2.2)

noncomputable def g_slices_reverseRangeCmpFunc_int (b : Int) (c : Int) (d : (Int → Int → Option Int)) (m0_0 : (List Int)) : Option (List Int) :=
  (lp (g_slices_reverseRangeCmpFunc_int_L0) (b, (w64 (c - 1)), m0_0)).bind fun r4 =>
  some r4
noncomputable def g_slices_partialInsertionSortCmpFunc_int_L0 (c : Int) (d : (Int → Int → Option Int)) (s0 : Int × Int × (List Int)) (s1 : Int) : Option (Int ⊕ Int) :=
  bif (decide (s1 < c)) then
    (getI s0.2.2 s1).bind fun x2 =>
    (getI s0.2.2 (w64 (s1 - 1))).bind fun x3 =>
    (d x2 x3).bind fun x4 =>
    bif (decide (x4 < 0)) then
      some (.inr s1)
    else
      some (.inl (w64 (s1 + 1)))
  else
    some (.inr s1)

noncomputable def g_slices_partialInsertionSortCmpFunc_int_L1 (d : (Int → Int → Option Int)) (s9 : Int × (List Int)) : Option ((Int × (List Int)) ⊕ (List Int)) :=
  bif (decide (1 ≤ s9.1)) then
    (getI s9.2 s9.1).bind fun x10 =>
    (getI s9.2 (w64 (s9.1 - 1))).bind fun x11 =>
    (d x10 x11).bind fun x12 =>
    bif (decide (x12 < 0)) then
      (getI (List.set s9.2 s9.1.toNat x11) (w64 (s9.1 - 1))).bind fun x13 =>
      some (.inl ((w64 (s9.1 - 1)), (List.set (List.set s9.2 s9.1.toNat x11) (w64 (s9.1 - 1)).toNat x10)))
    else
      some (.inr s9.2)
  else
    some (.inr s9.2)

noncomputable def g_slices_partialInsertionSortCmpFunc_int_L2 (c : Int) (d : (Int → Int → Option Int)) (s15 : Int × (List Int)) : Option ((Int × (List Int)) ⊕ (List Int)) :=
  bif (decide (s15.1 < c)) then
    (getI s15.2 s15.1).bind fun x16 =>
    (getI s15.2 (w64 (s15.1 - 1))).bind fun x17 =>
    (d x16 x17).bind fun x18 =>
    bif (decide (x18 < 0)) then
      (getI (List.set s15.2 s15.1.toNat x17) (w64 (s15.1 - 1))).bind fun x19 =>
      some (.inl ((w64 (s15.1 + 1)), (List.set (List.set s15.2 s15.1.toNat x17) (w64 (s15.1 - 1)).toNat x16)))
    else
      some (.inr s15.2)
  else
    some (.inr s15.2)

noncomputable def g_slices_partialInsertionSortCmpFunc_int_L2_2 (c : Int) (d : (Int → Int → Option Int)) (s21 : Int × (List Int)) : Option ((Int × (List Int)) ⊕ (List Int)) :=
  bif (decide (s21.1 < c)) then
    (getI s21.2 s21.1).bind fun x22 =>
    (getI s21.2 (w64 (s21.1 - 1))).bind fun x23 =>
    (d x22 x23).bind fun x24 =>
    bif (decide (x24 < 0)) then
      (getI (List.set s21.2 s21.1.toNat x23) (w64 (s21.1 - 1))).bind fun x25 =>
      some (.inl ((w64 (s21.1 + 1)), (List.set (List.set s21.2 s21.1.toNat x23) (w64 (s21.1 - 1)).toNat x22)))
    else
      some (.inr s21.2)
  else
    some (.inr s21.2)

noncomputable def g_slices_partialInsertionSortCmpFunc_int_L3 (b : Int) (c : Int) (d : (Int → Int → Option Int)) (s0 : Int × Int × (List Int)) : Option ((Int × Int × (List Int)) ⊕ ((List Int) ⊕ ((List Int) ⊕ (List Int)))) :=
  bif (decide (s0.2.1 < 5)) then
    (lp (g_slices_partialInsertionSortCmpFunc_int_L0 c d s0) s0.1).bind fun r5 =>
    bif (r5 == c) then
      some (.inr (.inl s0.2.2))
    else
      bif (decide ((w64 (c - b)) < 50)) then
        some (.inr (.inr (.inl s0.2.2)))
      else
        (getI s0.2.2 (w64 (r5 - 1))).bind fun x6 =>
        (getI s0.2.2 r5).bind fun x7 =>
        (getI (List.set s0.2.2 r5.toNat x6) (w64 (r5 - 1))).bind fun x8 =>
        bif (decide (2 ≤ (w64 (r5 - b)))) then
          (lp (g_slices_partialInsertionSortCmpFunc_int_L1 d) ((w64 (r5 - 1)), (List.set (List.set s0.2.2 r5.toNat x6) (w64 (r5 - 1)).toNat x7))).bind fun r14 =>
          bif (decide (2 ≤ (w64 (c - r5)))) then
            (lp (g_slices_partialInsertionSortCmpFunc_int_L2 c d) ((w64 (r5 + 1)), r14)).bind fun r20 =>
            some (.inl (r5, (w64 (s0.2.1 + 1)), r20))
          else
            some (.inl (r5, (w64 (s0.2.1 + 1)), r14))
        else
          bif (decide (2 ≤ (w64 (c - r5)))) then
            (lp (g_slices_partialInsertionSortCmpFunc_int_L2_2 c d) ((w64 (r5 + 1)), (List.set (List.set s0.2.2 r5.toNat x6) (w64 (r5 - 1)).toNat x7))).bind fun r26 =>
            some (.inl (r5, (w64 (s0.2.1 + 1)), r26))
          else
            some (.inl (r5, (w64 (s0.2.1 + 1)), (List.set (List.set s0.2.2 r5.toNat x6) (w64 (r5 - 1)).toNat x7)))
  else
    some (.inr (.inr (.inr s0.2.2)))

noncomputable def g_slices_partialInsertionSortCmpFunc_int (b : Int) (c : Int) (d : (Int → Int → Option Int)) (m0_0 : (List Int)) : Option ((List Int) ⊕ (List Int)) :=
  (lp (g_slices_partialInsertionSortCmpFunc_int_L3 b c d) ((w64 (b + 1)), 0, m0_0)).bind fun r27 =>
  match r27 with
  | (.inl r27) =>
    some (.inl r27)
  | (.inr (.inl r27)) =>
    some (.inr r27)
  | (.inr (.inr r27)) =>
    some (.inr r27)
noncomputable def g_slices_partitionCmpFunc_int_L0 (b : Int) (c : Int) (d : Int) (m0_0 : (List Int)) (e : (Int → Int → Option Int)) (x0 : Int) (x1 : Int) (s3 : Int) : Option (Int ⊕ Int) :=
  bif (decide (s3 ≤ (w64 (c - 1)))) then
    (getI (List.set (List.set m0_0 b.toNat x0) d.toNat x1) s3).bind fun x4 =>
    (getI (List.set (List.set m0_0 b.toNat x0) d.toNat x1) b).bind fun x5 =>
    (e x4 x5).bind fun x6 =>
    bif (decide (x6 < 0)) then
      some (.inl (w64 (s3 + 1)))
    else
      some (.inr s3)
  else
    some (.inr s3)

noncomputable def g_slices_partitionCmpFunc_int_L1 (b : Int) (d : Int) (m0_0 : (List Int)) (e : (Int → Int → Option Int)) (x0 : Int) (x1 : Int) (r7 : Int) (s8 : Int) : Option (Int ⊕ Int) :=
  bif (decide (r7 ≤ s8)) then
    (getI (List.set (List.set m0_0 b.toNat x0) d.toNat x1) s8).bind fun x9 =>
    (getI (List.set (List.set m0_0 b.toNat x0) d.toNat x1) b).bind fun x10 =>
    (e x9 x10).bind fun x11 =>
    bif (decide (x11 < 0)) then
      some (.inr s8)
    else
      some (.inl (w64 (s8 - 1)))
  else
    some (.inr s8)

noncomputable def g_slices_partitionCmpFunc_int_L2 (b : Int) (e : (Int → Int → Option Int)) (s19 : Int × Int × (List Int)) (s20 : Int) : Option (Int ⊕ Int) :=
  bif (decide (s20 ≤ s19.2.1)) then
    (getI s19.2.2 s20).bind fun x21 =>
    (getI s19.2.2 b).bind fun x22 =>
    (e x21 x22).bind fun x23 =>
    bif (decide (x23 < 0)) then
      some (.inl (w64 (s20 + 1)))
    else
      some (.inr s20)
  else
    some (.inr s20)

noncomputable def g_slices_partitionCmpFunc_int_L3 (b : Int) (e : (Int → Int → Option Int)) (s19 : Int × Int × (List Int)) (r24 : Int) (s25 : Int) : Option (Int ⊕ Int) :=
  bif (decide (r24 ≤ s25)) then
    (getI s19.2.2 s25).bind fun x26 =>
    (getI s19.2.2 b).bind fun x27 =>
    (e x26 x27).bind fun x28 =>
    bif (decide (x28 < 0)) then
      some (.inr s25)
    else
      some (.inl (w64 (s25 - 1)))
  else
    some (.inr s25)

noncomputable def g_slices_partitionCmpFunc_int_L4 (b : Int) (e : (Int → Int → Option Int)) (s19 : Int × Int × (List Int)) : Option ((Int × Int × (List Int)) ⊕ (Int × (List Int))) :=
  (lp (g_slices_partitionCmpFunc_int_L2 b e s19) s19.1).bind fun r24 =>
  (lp (g_slices_partitionCmpFunc_int_L3 b e s19 r24) s19.2.1).bind fun r29 =>
  bif (decide (r29 < r24)) then
    some (.inr (r29, s19.2.2))
  else
    (getI s19.2.2 r29).bind fun x30 =>
    (getI s19.2.2 r24).bind fun x31 =>
    (getI (List.set s19.2.2 r24.toNat x30) r29).bind fun x32 =>
    some (.inl ((w64 (r24 + 1)), (w64 (r29 - 1)), (List.set (List.set s19.2.2 r24.toNat x30) r29.toNat x31)))

noncomputable def g_slices_partitionCmpFunc_int (b : Int) (c : Int) (d : Int) (e : (Int → Int → Option Int)) (m0_0 : (List Int)) : Option ((Int × (List Int)) ⊕ (Int × (List Int))) :=
  (getI m0_0 d).bind fun x0 =>
  (getI m0_0 b).bind fun x1 =>
  (getI (List.set m0_0 b.toNat x0) d).bind fun x2 =>
  (lp (g_slices_partitionCmpFunc_int_L0 b c d m0_0 e x0 x1) (w64 (b + 1))).bind fun r7 =>
  (lp (g_slices_partitionCmpFunc_int_L1 b d m0_0 e x0 x1 r7) (w64 (c - 1))).bind fun r12 =>
  bif (decide (r12 < r7)) then
    (getI (List.set (List.set m0_0 b.toNat x0) d.toNat x1) b).bind fun x13 =>
    (getI (List.set (List.set m0_0 b.toNat x0) d.toNat x1) r12).bind fun x14 =>
    (getI (List.set (List.set (List.set m0_0 b.toNat x0) d.toNat x1) r12.toNat x13) b).bind fun x15 =>
    some (.inl (r12, (List.set (List.set (List.set (List.set m0_0 b.toNat x0) d.toNat x1) r12.toNat x13) b.toNat x14)))
  else
    (getI (List.set (List.set m0_0 b.toNat x0) d.toNat x1) r12).bind fun x16 =>
    (getI (List.set (List.set m0_0 b.toNat x0) d.toNat x1) r7).bind fun x17 =>
    (getI (List.set (List.set (List.set m0_0 b.toNat x0) d.toNat x1) r7.toNat x16) r12).bind fun x18 =>
    (lp (g_slices_partitionCmpFunc_int_L4 b e) ((w64 (r7 + 1)), (w64 (r12 - 1)), (List.set (List.set (List.set (List.set m0_0 b.toNat x0) d.toNat x1) r7.toNat x16) r12.toNat x17))).bind fun r33 =>
    (getI r33.2 b).bind fun x34 =>
    (getI r33.2 r33.1).bind fun x35 =>
    (getI (List.set r33.2 r33.1.toNat x34) b).bind fun x36 =>
    some (.inr (r33.1, (List.set (List.set r33.2 r33.1.toNat x34) b.toNat x35)))
noncomputable def g_slices_partitionEqualCmpFunc_int_L0 (b : Int) (e : (Int → Int → Option Int)) (s3 : Int × Int × (List Int)) (s4 : Int) : Option (Int ⊕ Int) :=
  bif (decide (s4 ≤ s3.2.1)) then
    (getI s3.2.2 b).bind fun x5 =>
    (getI s3.2.2 s4).bind fun x6 =>
    (e x5 x6).bind fun x7 =>
    bif (decide (x7 < 0)) then
      some (.inr s4)
    else
      some (.inl (w64 (s4 + 1)))
  else
    some (.inr s4)

noncomputable def g_slices_partitionEqualCmpFunc_int_L1 (b : Int) (e : (Int → Int → Option Int)) (s3 : Int × Int × (List Int)) (r8 : Int) (s9 : Int) : Option (Int ⊕ Int) :=
  bif (decide (r8 ≤ s9)) then
    (getI s3.2.2 b).bind fun x10 =>
    (getI s3.2.2 s9).bind fun x11 =>
    (e x10 x11).bind fun x12 =>
    bif (decide (x12 < 0)) then
      some (.inl (w64 (s9 - 1)))
    else
      some (.inr s9)
  else
    some (.inr s9)

noncomputable def g_slices_partitionEqualCmpFunc_int_L2 (b : Int) (e : (Int → Int → Option Int)) (s3 : Int × Int × (List Int)) : Option ((Int × Int × (List Int)) ⊕ (Int × (List Int))) :=
  (lp (g_slices_partitionEqualCmpFunc_int_L0 b e s3) s3.1).bind fun r8 =>
  (lp (g_slices_partitionEqualCmpFunc_int_L1 b e s3 r8) s3.2.1).bind fun r13 =>
  bif (decide (r13 < r8)) then
    some (.inr (r8, s3.2.2))
  else
    (getI s3.2.2 r13).bind fun x14 =>
    (getI s3.2.2 r8).bind fun x15 =>
    (getI (List.set s3.2.2 r8.toNat x14) r13).bind fun x16 =>
    some (.inl ((w64 (r8 + 1)), (w64 (r13 - 1)), (List.set (List.set s3.2.2 r8.toNat x14) r13.toNat x15)))

noncomputable def g_slices_partitionEqualCmpFunc_int (b : Int) (c : Int) (d : Int) (e : (Int → Int → Option Int)) (m0_0 : (List Int)) : Option (Int × (List Int)) :=
  (getI m0_0 d).bind fun x0 =>
  (getI m0_0 b).bind fun x1 =>
  (getI (List.set m0_0 b.toNat x0) d).bind fun x2 =>
  (lp (g_slices_partitionEqualCmpFunc_int_L2 b e) ((w64 (b + 1)), (w64 (c - 1)), (List.set (List.set m0_0 b.toNat x0) d.toNat x1))).bind fun r17 =>
  some (r17.1, r17.2)
noncomputable def g_slices_nextPowerOfTwo (a : Int) : Option Int :=
  (g_math_bits_Len (IntKind.u64.wrap a)).bind fun x0 =>
  bif (decide (x0 < 0)) then
    none
  else
    some (IntKind.u64.wrap (1 * 2 ^ (min (x0).toNat IntKind.u64.bits)))
noncomputable def g_slices_xorshift_Next : Option Unit :=
  some ()
noncomputable def g_slices_breakPatternsCmpFunc_int_L0 (b : Int) (c : Int) (x0 : Int) (s1 : Int × (List Int) × Int) : Option ((Int × (List Int) × Int) ⊕ (List Int)) :=
  bif (decide (s1.1 ≤ (w64 ((w64 (b + (w64 ((w64 (Int.tdiv (w64 (c - b)) 4)) * 2)))) + 1)))) then
    g_slices_xorshift_Next.bind fun x2 =>
    bif (decide ((w64 (c - b)) ≤ (w64 (IntKind.u64.wrap (BitVec.ofInt IntKind.u64.bits (IntKind.u64.wrap (BitVec.ofInt IntKind.u64.bits (IntKind.u64.wrap (BitVec.ofInt IntKind.u64.bits (IntKind.u64.wrap (BitVec.ofInt IntKind.u64.bits s1.2.2 ^^^ BitVec.ofInt IntKind.u64.bits (IntKind.u64.wrap (s1.2.2 * 2 ^ 13))).toNat) ^^^ BitVec.ofInt IntKind.u64.bits (Int.fdiv (IntKind.u64.wrap (BitVec.ofInt IntKind.u64.bits s1.2.2 ^^^ BitVec.ofInt IntKind.u64.bits (IntKind.u64.wrap (s1.2.2 * 2 ^ 13))).toNat) (2 ^ 7))).toNat) ^^^ BitVec.ofInt IntKind.u64.bits (IntKind.u64.wrap ((IntKind.u64.wrap (BitVec.ofInt IntKind.u64.bits (IntKind.u64.wrap (BitVec.ofInt IntKind.u64.bits s1.2.2 ^^^ BitVec.ofInt IntKind.u64.bits (IntKind.u64.wrap (s1.2.2 * 2 ^ 13))).toNat) ^^^ BitVec.ofInt IntKind.u64.bits (Int.fdiv (IntKind.u64.wrap (BitVec.ofInt IntKind.u64.bits s1.2.2 ^^^ BitVec.ofInt IntKind.u64.bits (IntKind.u64.wrap (s1.2.2 * 2 ^ 13))).toNat) (2 ^ 7))).toNat) * 2 ^ 17))).toNat) &&& BitVec.ofInt IntKind.u64.bits (IntKind.u64.wrap (x0 - 1))).toNat)))) then
      (getI s1.2.1 (w64 (b + (w64 ((w64 (IntKind.u64.wrap (BitVec.ofInt IntKind.u64.bits (IntKind.u64.wrap (BitVec.ofInt IntKind.u64.bits (IntKind.u64.wrap (BitVec.ofInt IntKind.u64.bits (IntKind.u64.wrap (BitVec.ofInt IntKind.u64.bits s1.2.2 ^^^ BitVec.ofInt IntKind.u64.bits (IntKind.u64.wrap (s1.2.2 * 2 ^ 13))).toNat) ^^^ BitVec.ofInt IntKind.u64.bits (Int.fdiv (IntKind.u64.wrap (BitVec.ofInt IntKind.u64.bits s1.2.2 ^^^ BitVec.ofInt IntKind.u64.bits (IntKind.u64.wrap (s1.2.2 * 2 ^ 13))).toNat) (2 ^ 7))).toNat) ^^^ BitVec.ofInt IntKind.u64.bits (IntKind.u64.wrap ((IntKind.u64.wrap (BitVec.ofInt IntKind.u64.bits (IntKind.u64.wrap (BitVec.ofInt IntKind.u64.bits s1.2.2 ^^^ BitVec.ofInt IntKind.u64.bits (IntKind.u64.wrap (s1.2.2 * 2 ^ 13))).toNat) ^^^ BitVec.ofInt IntKind.u64.bits (Int.fdiv (IntKind.u64.wrap (BitVec.ofInt IntKind.u64.bits s1.2.2 ^^^ BitVec.ofInt IntKind.u64.bits (IntKind.u64.wrap (s1.2.2 * 2 ^ 13))).toNat) (2 ^ 7))).toNat) * 2 ^ 17))).toNat) &&& BitVec.ofInt IntKind.u64.bits (IntKind.u64.wrap (x0 - 1))).toNat)) - (w64 (c - b))))))).bind fun x3 =>
      (getI s1.2.1 s1.1).bind fun x4 =>
      (getI (List.set s1.2.1 s1.1.toNat x3) (w64 (b + (w64 ((w64 (IntKind.u64.wrap (BitVec.ofInt IntKind.u64.bits (IntKind.u64.wrap (BitVec.ofInt IntKind.u64.bits (IntKind.u64.wrap (BitVec.ofInt IntKind.u64.bits (IntKind.u64.wrap (BitVec.ofInt IntKind.u64.bits s1.2.2 ^^^ BitVec.ofInt IntKind.u64.bits (IntKind.u64.wrap (s1.2.2 * 2 ^ 13))).toNat) ^^^ BitVec.ofInt IntKind.u64.bits (Int.fdiv (IntKind.u64.wrap (BitVec.ofInt IntKind.u64.bits s1.2.2 ^^^ BitVec.ofInt IntKind.u64.bits (IntKind.u64.wrap (s1.2.2 * 2 ^ 13))).toNat) (2 ^ 7))).toNat) ^^^ BitVec.ofInt IntKind.u64.bits (IntKind.u64.wrap ((IntKind.u64.wrap (BitVec.ofInt IntKind.u64.bits (IntKind.u64.wrap (BitVec.ofInt IntKind.u64.bits s1.2.2 ^^^ BitVec.ofInt IntKind.u64.bits (IntKind.u64.wrap (s1.2.2 * 2 ^ 13))).toNat) ^^^ BitVec.ofInt IntKind.u64.bits (Int.fdiv (IntKind.u64.wrap (BitVec.ofInt IntKind.u64.bits s1.2.2 ^^^ BitVec.ofInt IntKind.u64.bits (IntKind.u64.wrap (s1.2.2 * 2 ^ 13))).toNat) (2 ^ 7))).toNat) * 2 ^ 17))).toNat) &&& BitVec.ofInt IntKind.u64.bits (IntKind.u64.wrap (x0 - 1))).toNat)) - (w64 (c - b))))))).bind fun x5 =>
      some (.inl ((w64 (s1.1 + 1)), (List.set (List.set s1.2.1 s1.1.toNat x3) (w64 (b + (w64 ((w64 (IntKind.u64.wrap (BitVec.ofInt IntKind.u64.bits (IntKind.u64.wrap (BitVec.ofInt IntKind.u64.bits (IntKind.u64.wrap (BitVec.ofInt IntKind.u64.bits (IntKind.u64.wrap (BitVec.ofInt IntKind.u64.bits s1.2.2 ^^^ BitVec.ofInt IntKind.u64.bits (IntKind.u64.wrap (s1.2.2 * 2 ^ 13))).toNat) ^^^ BitVec.ofInt IntKind.u64.bits (Int.fdiv (IntKind.u64.wrap (BitVec.ofInt IntKind.u64.bits s1.2.2 ^^^ BitVec.ofInt IntKind.u64.bits (IntKind.u64.wrap (s1.2.2 * 2 ^ 13))).toNat) (2 ^ 7))).toNat) ^^^ BitVec.ofInt IntKind.u64.bits (IntKind.u64.wrap ((IntKind.u64.wrap (BitVec.ofInt IntKind.u64.bits (IntKind.u64.wrap (BitVec.ofInt IntKind.u64.bits s1.2.2 ^^^ BitVec.ofInt IntKind.u64.bits (IntKind.u64.wrap (s1.2.2 * 2 ^ 13))).toNat) ^^^ BitVec.ofInt IntKind.u64.bits (Int.fdiv (IntKind.u64.wrap (BitVec.ofInt IntKind.u64.bits s1.2.2 ^^^ BitVec.ofInt IntKind.u64.bits (IntKind.u64.wrap (s1.2.2 * 2 ^ 13))).toNat) (2 ^ 7))).toNat) * 2 ^ 17))).toNat) &&& BitVec.ofInt IntKind.u64.bits (IntKind.u64.wrap (x0 - 1))).toNat)) - (w64 (c - b)))))).toNat x4), (IntKind.u64.wrap (BitVec.ofInt IntKind.u64.bits (IntKind.u64.wrap (BitVec.ofInt IntKind.u64.bits (IntKind.u64.wrap (BitVec.ofInt IntKind.u64.bits s1.2.2 ^^^ BitVec.ofInt IntKind.u64.bits (IntKind.u64.wrap (s1.2.2 * 2 ^ 13))).toNat) ^^^ BitVec.ofInt IntKind.u64.bits (Int.fdiv (IntKind.u64.wrap (BitVec.ofInt IntKind.u64.bits s1.2.2 ^^^ BitVec.ofInt IntKind.u64.bits (IntKind.u64.wrap (s1.2.2 * 2 ^ 13))).toNat) (2 ^ 7))).toNat) ^^^ BitVec.ofInt IntKind.u64.bits (IntKind.u64.wrap ((IntKind.u64.wrap (BitVec.ofInt IntKind.u64.bits (IntKind.u64.wrap (BitVec.ofInt IntKind.u64.bits s1.2.2 ^^^ BitVec.ofInt IntKind.u64.bits (IntKind.u64.wrap (s1.2.2 * 2 ^ 13))).toNat) ^^^ BitVec.ofInt IntKind.u64.bits (Int.fdiv (IntKind.u64.wrap (BitVec.ofInt IntKind.u64.bits s1.2.2 ^^^ BitVec.ofInt IntKind.u64.bits (IntKind.u64.wrap (s1.2.2 * 2 ^ 13))).toNat) (2 ^ 7))).toNat) * 2 ^ 17))).toNat)))
    else
      (getI s1.2.1 (w64 (b + (w64 (IntKind.u64.wrap (BitVec.ofInt IntKind.u64.bits (IntKind.u64.wrap (BitVec.ofInt IntKind.u64.bits (IntKind.u64.wrap (BitVec.ofInt IntKind.u64.bits (IntKind.u64.wrap (BitVec.ofInt IntKind.u64.bits s1.2.2 ^^^ BitVec.ofInt IntKind.u64.bits (IntKind.u64.wrap (s1.2.2 * 2 ^ 13))).toNat) ^^^ BitVec.ofInt IntKind.u64.bits (Int.fdiv (IntKind.u64.wrap (BitVec.ofInt IntKind.u64.bits s1.2.2 ^^^ BitVec.ofInt IntKind.u64.bits (IntKind.u64.wrap (s1.2.2 * 2 ^ 13))).toNat) (2 ^ 7))).toNat) ^^^ BitVec.ofInt IntKind.u64.bits (IntKind.u64.wrap ((IntKind.u64.wrap (BitVec.ofInt IntKind.u64.bits (IntKind.u64.wrap (BitVec.ofInt IntKind.u64.bits s1.2.2 ^^^ BitVec.ofInt IntKind.u64.bits (IntKind.u64.wrap (s1.2.2 * 2 ^ 13))).toNat) ^^^ BitVec.ofInt IntKind.u64.bits (Int.fdiv (IntKind.u64.wrap (BitVec.ofInt IntKind.u64.bits s1.2.2 ^^^ BitVec.ofInt IntKind.u64.bits (IntKind.u64.wrap (s1.2.2 * 2 ^ 13))).toNat) (2 ^ 7))).toNat) * 2 ^ 17))).toNat) &&& BitVec.ofInt IntKind.u64.bits (IntKind.u64.wrap (x0 - 1))).toNat))))).bind fun x6 =>
      (getI s1.2.1 s1.1).bind fun x7 =>
      (getI (List.set s1.2.1 s1.1.toNat x6) (w64 (b + (w64 (IntKind.u64.wrap (BitVec.ofInt IntKind.u64.bits (IntKind.u64.wrap (BitVec.ofInt IntKind.u64.bits (IntKind.u64.wrap (BitVec.ofInt IntKind.u64.bits (IntKind.u64.wrap (BitVec.ofInt IntKind.u64.bits s1.2.2 ^^^ BitVec.ofInt IntKind.u64.bits (IntKind.u64.wrap (s1.2.2 * 2 ^ 13))).toNat) ^^^ BitVec.ofInt IntKind.u64.bits (Int.fdiv (IntKind.u64.wrap (BitVec.ofInt IntKind.u64.bits s1.2.2 ^^^ BitVec.ofInt IntKind.u64.bits (IntKind.u64.wrap (s1.2.2 * 2 ^ 13))).toNat) (2 ^ 7))).toNat) ^^^ BitVec.ofInt IntKind.u64.bits (IntKind.u64.wrap ((IntKind.u64.wrap (BitVec.ofInt IntKind.u64.bits (IntKind.u64.wrap (BitVec.ofInt IntKind.u64.bits s1.2.2 ^^^ BitVec.ofInt IntKind.u64.bits (IntKind.u64.wrap (s1.2.2 * 2 ^ 13))).toNat) ^^^ BitVec.ofInt IntKind.u64.bits (Int.fdiv (IntKind.u64.wrap (BitVec.ofInt IntKind.u64.bits s1.2.2 ^^^ BitVec.ofInt IntKind.u64.bits (IntKind.u64.wrap (s1.2.2 * 2 ^ 13))).toNat) (2 ^ 7))).toNat) * 2 ^ 17))).toNat) &&& BitVec.ofInt IntKind.u64.bits (IntKind.u64.wrap (x0 - 1))).toNat))))).bind fun x8 =>
      some (.inl ((w64 (s1.1 + 1)), (List.set (List.set s1.2.1 s1.1.toNat x6) (w64 (b + (w64 (IntKind.u64.wrap (BitVec.ofInt IntKind.u64.bits (IntKind.u64.wrap (BitVec.ofInt IntKind.u64.bits (IntKind.u64.wrap (BitVec.ofInt IntKind.u64.bits (IntKind.u64.wrap (BitVec.ofInt IntKind.u64.bits s1.2.2 ^^^ BitVec.ofInt IntKind.u64.bits (IntKind.u64.wrap (s1.2.2 * 2 ^ 13))).toNat) ^^^ BitVec.ofInt IntKind.u64.bits (Int.fdiv (IntKind.u64.wrap (BitVec.ofInt IntKind.u64.bits s1.2.2 ^^^ BitVec.ofInt IntKind.u64.bits (IntKind.u64.wrap (s1.2.2 * 2 ^ 13))).toNat) (2 ^ 7))).toNat) ^^^ BitVec.ofInt IntKind.u64.bits (IntKind.u64.wrap ((IntKind.u64.wrap (BitVec.ofInt IntKind.u64.bits (IntKind.u64.wrap (BitVec.ofInt IntKind.u64.bits s1.2.2 ^^^ BitVec.ofInt IntKind.u64.bits (IntKind.u64.wrap (s1.2.2 * 2 ^ 13))).toNat) ^^^ BitVec.ofInt IntKind.u64.bits (Int.fdiv (IntKind.u64.wrap (BitVec.ofInt IntKind.u64.bits s1.2.2 ^^^ BitVec.ofInt IntKind.u64.bits (IntKind.u64.wrap (s1.2.2 * 2 ^ 13))).toNat) (2 ^ 7))).toNat) * 2 ^ 17))).toNat) &&& BitVec.ofInt IntKind.u64.bits (IntKind.u64.wrap (x0 - 1))).toNat)))).toNat x7), (IntKind.u64.wrap (BitVec.ofInt IntKind.u64.bits (IntKind.u64.wrap (BitVec.ofInt IntKind.u64.bits (IntKind.u64.wrap (BitVec.ofInt IntKind.u64.bits s1.2.2 ^^^ BitVec.ofInt IntKind.u64.bits (IntKind.u64.wrap (s1.2.2 * 2 ^ 13))).toNat) ^^^ BitVec.ofInt IntKind.u64.bits (Int.fdiv (IntKind.u64.wrap (BitVec.ofInt IntKind.u64.bits s1.2.2 ^^^ BitVec.ofInt IntKind.u64.bits (IntKind.u64.wrap (s1.2.2 * 2 ^ 13))).toNat) (2 ^ 7))).toNat) ^^^ BitVec.ofInt IntKind.u64.bits (IntKind.u64.wrap ((IntKind.u64.wrap (BitVec.ofInt IntKind.u64.bits (IntKind.u64.wrap (BitVec.ofInt IntKind.u64.bits s1.2.2 ^^^ BitVec.ofInt IntKind.u64.bits (IntKind.u64.wrap (s1.2.2 * 2 ^ 13))).toNat) ^^^ BitVec.ofInt IntKind.u64.bits (Int.fdiv (IntKind.u64.wrap (BitVec.ofInt IntKind.u64.bits s1.2.2 ^^^ BitVec.ofInt IntKind.u64.bits (IntKind.u64.wrap (s1.2.2 * 2 ^ 13))).toNat) (2 ^ 7))).toNat) * 2 ^ 17))).toNat)))
  else
    some (.inr s1.2.1)

noncomputable def g_slices_breakPatternsCmpFunc_int (b : Int) (c : Int) (d : (Int → Int → Option Int)) (m0_0 : (List Int)) : Option (List Int) :=
  bif (decide (8 ≤ (w64 (c - b)))) then
    (g_slices_nextPowerOfTwo (w64 (c - b))).bind fun x0 =>
    (lp (g_slices_breakPatternsCmpFunc_int_L0 b c x0) ((w64 ((w64 (b + (w64 ((w64 (Int.tdiv (w64 (c - b)) 4)) * 2)))) - 1)), m0_0, (IntKind.u64.wrap (w64 (c - b))))).bind fun r9 =>
    some r9
  else
    some m0_0
noncomputable def g_slices_pdqsortCmpFunc_int_L0 (e : (Int → Int → Option Int)) (rc : Int → Int → Int → (Int → Int → Option Int) → (List Int) → Option (List Int)) (s0 : Int × Int × Int × Bool × Bool × (List Int)) : Option ((Int × Int × Int × Bool × Bool × (List Int)) ⊕ (List Int)) :=
  bif s0.2.2.2.1 then
    bif s0.2.2.2.2.1 then
      bif (decide ((w64 (s0.2.1 - s0.1)) ≤ 12)) then
        (g_slices_insertionSortCmpFunc_int s0.1 s0.2.1 e s0.2.2.2.2.2).bind fun x1 =>
        some (.inr x1)
      else
        bif (s0.2.2.1 == 0) then
          (g_slices_heapSortCmpFunc_int s0.1 s0.2.1 e s0.2.2.2.2.2).bind fun x2 =>
          some (.inr x2)
        else
          (g_slices_choosePivotCmpFunc_int s0.1 s0.2.1 e s0.2.2.2.2.2).bind fun x3 =>
          bif (x3.2 == 2) then
            (g_slices_reverseRangeCmpFunc_int s0.1 s0.2.1 e s0.2.2.2.2.2).bind fun x4 =>
            (g_slices_partialInsertionSortCmpFunc_int s0.1 s0.2.1 e x4).bind fun x5 =>
            match x5 with
            | (.inl x5) =>
              some (.inr x5)
            | (.inr x5) =>
              bif (decide (0 < s0.1)) then
                (getI x5 (w64 (s0.1 - 1))).bind fun x6 =>
                (getI x5 (w64 ((w64 (s0.2.1 - 1)) - (w64 (x3.1 - s0.1))))).bind fun x7 =>
                (e x6 x7).bind fun x8 =>
                bif (decide (x8 < 0)) then
                  (g_slices_partitionCmpFunc_int s0.1 s0.2.1 (w64 ((w64 (s0.2.1 - 1)) - (w64 (x3.1 - s0.1)))) e x5).bind fun x9 =>
                  match x9 with
                  | (.inl x9) =>
                    bif (decide ((w64 (x9.1 - s0.1)) < (w64 (s0.2.1 - x9.1)))) then
                      bif (decide ((w64 (Int.tdiv (w64 (s0.2.1 - s0.1)) 8)) ≤ (w64 (x9.1 - s0.1)))) then
                        (rc s0.1 x9.1 s0.2.2.1 e x9.2).bind fun x10 =>
                        some (.inl ((w64 (x9.1 + 1)), s0.2.1, s0.2.2.1, true, true, x10))
                      else
                        (rc s0.1 x9.1 s0.2.2.1 e x9.2).bind fun x11 =>
                        some (.inl ((w64 (x9.1 + 1)), s0.2.1, s0.2.2.1, false, true, x11))
                    else
                      bif (decide ((w64 (Int.tdiv (w64 (s0.2.1 - s0.1)) 8)) ≤ (w64 (s0.2.1 - x9.1)))) then
                        (rc (w64 (x9.1 + 1)) s0.2.1 s0.2.2.1 e x9.2).bind fun x12 =>
                        some (.inl (s0.1, x9.1, s0.2.2.1, true, true, x12))
                      else
                        (rc (w64 (x9.1 + 1)) s0.2.1 s0.2.2.1 e x9.2).bind fun x13 =>
                        some (.inl (s0.1, x9.1, s0.2.2.1, false, true, x13))
                  | (.inr x9) =>
                    bif (decide ((w64 (x9.1 - s0.1)) < (w64 (s0.2.1 - x9.1)))) then
                      bif (decide ((w64 (Int.tdiv (w64 (s0.2.1 - s0.1)) 8)) ≤ (w64 (x9.1 - s0.1)))) then
                        (rc s0.1 x9.1 s0.2.2.1 e x9.2).bind fun x14 =>
                        some (.inl ((w64 (x9.1 + 1)), s0.2.1, s0.2.2.1, true, false, x14))
                      else
                        (rc s0.1 x9.1 s0.2.2.1 e x9.2).bind fun x15 =>
                        some (.inl ((w64 (x9.1 + 1)), s0.2.1, s0.2.2.1, false, false, x15))
                    else
                      bif (decide ((w64 (Int.tdiv (w64 (s0.2.1 - s0.1)) 8)) ≤ (w64 (s0.2.1 - x9.1)))) then
                        (rc (w64 (x9.1 + 1)) s0.2.1 s0.2.2.1 e x9.2).bind fun x16 =>
                        some (.inl (s0.1, x9.1, s0.2.2.1, true, false, x16))
                      else
                        (rc (w64 (x9.1 + 1)) s0.2.1 s0.2.2.1 e x9.2).bind fun x17 =>
                        some (.inl (s0.1, x9.1, s0.2.2.1, false, false, x17))
                else
                  (g_slices_partitionEqualCmpFunc_int s0.1 s0.2.1 (w64 ((w64 (s0.2.1 - 1)) - (w64 (x3.1 - s0.1)))) e x5).bind fun x18 =>
                  some (.inl (x18.1, s0.2.1, s0.2.2.1, true, true, x18.2))
              else
                (g_slices_partitionCmpFunc_int s0.1 s0.2.1 (w64 ((w64 (s0.2.1 - 1)) - (w64 (x3.1 - s0.1)))) e x5).bind fun x19 =>
                match x19 with
                | (.inl x19) =>
                  bif (decide ((w64 (x19.1 - s0.1)) < (w64 (s0.2.1 - x19.1)))) then
                    bif (decide ((w64 (Int.tdiv (w64 (s0.2.1 - s0.1)) 8)) ≤ (w64 (x19.1 - s0.1)))) then
                      (rc s0.1 x19.1 s0.2.2.1 e x19.2).bind fun x20 =>
                      some (.inl ((w64 (x19.1 + 1)), s0.2.1, s0.2.2.1, true, true, x20))
                    else
                      (rc s0.1 x19.1 s0.2.2.1 e x19.2).bind fun x21 =>
                      some (.inl ((w64 (x19.1 + 1)), s0.2.1, s0.2.2.1, false, true, x21))
                  else
                    bif (decide ((w64 (Int.tdiv (w64 (s0.2.1 - s0.1)) 8)) ≤ (w64 (s0.2.1 - x19.1)))) then
                      (rc (w64 (x19.1 + 1)) s0.2.1 s0.2.2.1 e x19.2).bind fun x22 =>
                      some (.inl (s0.1, x19.1, s0.2.2.1, true, true, x22))
                    else
                      (rc (w64 (x19.1 + 1)) s0.2.1 s0.2.2.1 e x19.2).bind fun x23 =>
                      some (.inl (s0.1, x19.1, s0.2.2.1, false, true, x23))
                | (.inr x19) =>
                  bif (decide ((w64 (x19.1 - s0.1)) < (w64 (s0.2.1 - x19.1)))) then
                    bif (decide ((w64 (Int.tdiv (w64 (s0.2.1 - s0.1)) 8)) ≤ (w64 (x19.1 - s0.1)))) then
                      (rc s0.1 x19.1 s0.2.2.1 e x19.2).bind fun x24 =>
                      some (.inl ((w64 (x19.1 + 1)), s0.2.1, s0.2.2.1, true, false, x24))
                    else
                      (rc s0.1 x19.1 s0.2.2.1 e x19.2).bind fun x25 =>
                      some (.inl ((w64 (x19.1 + 1)), s0.2.1, s0.2.2.1, false, false, x25))
                  else
                    bif (decide ((w64 (Int.tdiv (w64 (s0.2.1 - s0.1)) 8)) ≤ (w64 (s0.2.1 - x19.1)))) then
                      (rc (w64 (x19.1 + 1)) s0.2.1 s0.2.2.1 e x19.2).bind fun x26 =>
                      some (.inl (s0.1, x19.1, s0.2.2.1, true, false, x26))
                    else
                      (rc (w64 (x19.1 + 1)) s0.2.1 s0.2.2.1 e x19.2).bind fun x27 =>
                      some (.inl (s0.1, x19.1, s0.2.2.1, false, false, x27))
          else
            bif (x3.2 == 1) then
              (g_slices_partialInsertionSortCmpFunc_int s0.1 s0.2.1 e s0.2.2.2.2.2).bind fun x28 =>
              match x28 with
              | (.inl x28) =>
                some (.inr x28)
              | (.inr x28) =>
                bif (decide (0 < s0.1)) then
                  (getI x28 (w64 (s0.1 - 1))).bind fun x29 =>
                  (getI x28 x3.1).bind fun x30 =>
                  (e x29 x30).bind fun x31 =>
                  bif (decide (x31 < 0)) then
                    (g_slices_partitionCmpFunc_int s0.1 s0.2.1 x3.1 e x28).bind fun x32 =>
                    match x32 with
                    | (.inl x32) =>
                      bif (decide ((w64 (x32.1 - s0.1)) < (w64 (s0.2.1 - x32.1)))) then
                        bif (decide ((w64 (Int.tdiv (w64 (s0.2.1 - s0.1)) 8)) ≤ (w64 (x32.1 - s0.1)))) then
                          (rc s0.1 x32.1 s0.2.2.1 e x32.2).bind fun x33 =>
                          some (.inl ((w64 (x32.1 + 1)), s0.2.1, s0.2.2.1, true, true, x33))
                        else
                          (rc s0.1 x32.1 s0.2.2.1 e x32.2).bind fun x34 =>
                          some (.inl ((w64 (x32.1 + 1)), s0.2.1, s0.2.2.1, false, true, x34))
                      else
                        bif (decide ((w64 (Int.tdiv (w64 (s0.2.1 - s0.1)) 8)) ≤ (w64 (s0.2.1 - x32.1)))) then
                          (rc (w64 (x32.1 + 1)) s0.2.1 s0.2.2.1 e x32.2).bind fun x35 =>
                          some (.inl (s0.1, x32.1, s0.2.2.1, true, true, x35))
                        else
                          (rc (w64 (x32.1 + 1)) s0.2.1 s0.2.2.1 e x32.2).bind fun x36 =>
                          some (.inl (s0.1, x32.1, s0.2.2.1, false, true, x36))
                    | (.inr x32) =>
                      bif (decide ((w64 (x32.1 - s0.1)) < (w64 (s0.2.1 - x32.1)))) then
                        bif (decide ((w64 (Int.tdiv (w64 (s0.2.1 - s0.1)) 8)) ≤ (w64 (x32.1 - s0.1)))) then
                          (rc s0.1 x32.1 s0.2.2.1 e x32.2).bind fun x37 =>
                          some (.inl ((w64 (x32.1 + 1)), s0.2.1, s0.2.2.1, true, false, x37))
                        else
                          (rc s0.1 x32.1 s0.2.2.1 e x32.2).bind fun x38 =>
                          some (.inl ((w64 (x32.1 + 1)), s0.2.1, s0.2.2.1, false, false, x38))
                      else
                        bif (decide ((w64 (Int.tdiv (w64 (s0.2.1 - s0.1)) 8)) ≤ (w64 (s0.2.1 - x32.1)))) then
                          (rc (w64 (x32.1 + 1)) s0.2.1 s0.2.2.1 e x32.2).bind fun x39 =>
                          some (.inl (s0.1, x32.1, s0.2.2.1, true, false, x39))
                        else
                          (rc (w64 (x32.1 + 1)) s0.2.1 s0.2.2.1 e x32.2).bind fun x40 =>
                          some (.inl (s0.1, x32.1, s0.2.2.1, false, false, x40))
                  else
                    (g_slices_partitionEqualCmpFunc_int s0.1 s0.2.1 x3.1 e x28).bind fun x41 =>
                    some (.inl (x41.1, s0.2.1, s0.2.2.1, true, true, x41.2))
                else
                  (g_slices_partitionCmpFunc_int s0.1 s0.2.1 x3.1 e x28).bind fun x42 =>
                  match x42 with
                  | (.inl x42) =>
                    bif (decide ((w64 (x42.1 - s0.1)) < (w64 (s0.2.1 - x42.1)))) then
                      bif (decide ((w64 (Int.tdiv (w64 (s0.2.1 - s0.1)) 8)) ≤ (w64 (x42.1 - s0.1)))) then
                        (rc s0.1 x42.1 s0.2.2.1 e x42.2).bind fun x43 =>
                        some (.inl ((w64 (x42.1 + 1)), s0.2.1, s0.2.2.1, true, true, x43))
                      else
                        (rc s0.1 x42.1 s0.2.2.1 e x42.2).bind fun x44 =>
                        some (.inl ((w64 (x42.1 + 1)), s0.2.1, s0.2.2.1, false, true, x44))
                    else
                      bif (decide ((w64 (Int.tdiv (w64 (s0.2.1 - s0.1)) 8)) ≤ (w64 (s0.2.1 - x42.1)))) then
                        (rc (w64 (x42.1 + 1)) s0.2.1 s0.2.2.1 e x42.2).bind fun x45 =>
                        some (.inl (s0.1, x42.1, s0.2.2.1, true, true, x45))
                      else
                        (rc (w64 (x42.1 + 1)) s0.2.1 s0.2.2.1 e x42.2).bind fun x46 =>
                        some (.inl (s0.1, x42.1, s0.2.2.1, false, true, x46))
                  | (.inr x42) =>
                    bif (decide ((w64 (x42.1 - s0.1)) < (w64 (s0.2.1 - x42.1)))) then
                      bif (decide ((w64 (Int.tdiv (w64 (s0.2.1 - s0.1)) 8)) ≤ (w64 (x42.1 - s0.1)))) then
                        (rc s0.1 x42.1 s0.2.2.1 e x42.2).bind fun x47 =>
                        some (.inl ((w64 (x42.1 + 1)), s0.2.1, s0.2.2.1, true, false, x47))
                      else
                        (rc s0.1 x42.1 s0.2.2.1 e x42.2).bind fun x48 =>
                        some (.inl ((w64 (x42.1 + 1)), s0.2.1, s0.2.2.1, false, false, x48))
                    else
                      bif (decide ((w64 (Int.tdiv (w64 (s0.2.1 - s0.1)) 8)) ≤ (w64 (s0.2.1 - x42.1)))) then
                        (rc (w64 (x42.1 + 1)) s0.2.1 s0.2.2.1 e x42.2).bind fun x49 =>
                        some (.inl (s0.1, x42.1, s0.2.2.1, true, false, x49))
                      else
                        (rc (w64 (x42.1 + 1)) s0.2.1 s0.2.2.1 e x42.2).bind fun x50 =>
                        some (.inl (s0.1, x42.1, s0.2.2.1, false, false, x50))
            else
              bif (decide (0 < s0.1)) then
                (getI s0.2.2.2.2.2 (w64 (s0.1 - 1))).bind fun x51 =>
                (getI s0.2.2.2.2.2 x3.1).bind fun x52 =>
                (e x51 x52).bind fun x53 =>
                bif (decide (x53 < 0)) then
                  (g_slices_partitionCmpFunc_int s0.1 s0.2.1 x3.1 e s0.2.2.2.2.2).bind fun x54 =>
                  match x54 with
                  | (.inl x54) =>
                    bif (decide ((w64 (x54.1 - s0.1)) < (w64 (s0.2.1 - x54.1)))) then
                      bif (decide ((w64 (Int.tdiv (w64 (s0.2.1 - s0.1)) 8)) ≤ (w64 (x54.1 - s0.1)))) then
                        (rc s0.1 x54.1 s0.2.2.1 e x54.2).bind fun x55 =>
                        some (.inl ((w64 (x54.1 + 1)), s0.2.1, s0.2.2.1, true, true, x55))
                      else
                        (rc s0.1 x54.1 s0.2.2.1 e x54.2).bind fun x56 =>
                        some (.inl ((w64 (x54.1 + 1)), s0.2.1, s0.2.2.1, false, true, x56))
                    else
                      bif (decide ((w64 (Int.tdiv (w64 (s0.2.1 - s0.1)) 8)) ≤ (w64 (s0.2.1 - x54.1)))) then
                        (rc (w64 (x54.1 + 1)) s0.2.1 s0.2.2.1 e x54.2).bind fun x57 =>
                        some (.inl (s0.1, x54.1, s0.2.2.1, true, true, x57))
                      else
                        (rc (w64 (x54.1 + 1)) s0.2.1 s0.2.2.1 e x54.2).bind fun x58 =>
                        some (.inl (s0.1, x54.1, s0.2.2.1, false, true, x58))
                  | (.inr x54) =>
                    bif (decide ((w64 (x54.1 - s0.1)) < (w64 (s0.2.1 - x54.1)))) then
                      bif (decide ((w64 (Int.tdiv (w64 (s0.2.1 - s0.1)) 8)) ≤ (w64 (x54.1 - s0.1)))) then
                        (rc s0.1 x54.1 s0.2.2.1 e x54.2).bind fun x59 =>
                        some (.inl ((w64 (x54.1 + 1)), s0.2.1, s0.2.2.1, true, false, x59))
                      else
                        (rc s0.1 x54.1 s0.2.2.1 e x54.2).bind fun x60 =>
                        some (.inl ((w64 (x54.1 + 1)), s0.2.1, s0.2.2.1, false, false, x60))
                    else
                      bif (decide ((w64 (Int.tdiv (w64 (s0.2.1 - s0.1)) 8)) ≤ (w64 (s0.2.1 - x54.1)))) then
                        (rc (w64 (x54.1 + 1)) s0.2.1 s0.2.2.1 e x54.2).bind fun x61 =>
                        some (.inl (s0.1, x54.1, s0.2.2.1, true, false, x61))
                      else
                        (rc (w64 (x54.1 + 1)) s0.2.1 s0.2.2.1 e x54.2).bind fun x62 =>
                        some (.inl (s0.1, x54.1, s0.2.2.1, false, false, x62))
                else
                  (g_slices_partitionEqualCmpFunc_int s0.1 s0.2.1 x3.1 e s0.2.2.2.2.2).bind fun x63 =>
                  some (.inl (x63.1, s0.2.1, s0.2.2.1, true, true, x63.2))
              else
                (g_slices_partitionCmpFunc_int s0.1 s0.2.1 x3.1 e s0.2.2.2.2.2).bind fun x64 =>
                match x64 with
                | (.inl x64) =>
                  bif (decide ((w64 (x64.1 - s0.1)) < (w64 (s0.2.1 - x64.1)))) then
                    bif (decide ((w64 (Int.tdiv (w64 (s0.2.1 - s0.1)) 8)) ≤ (w64 (x64.1 - s0.1)))) then
                      (rc s0.1 x64.1 s0.2.2.1 e x64.2).bind fun x65 =>
                      some (.inl ((w64 (x64.1 + 1)), s0.2.1, s0.2.2.1, true, true, x65))
                    else
                      (rc s0.1 x64.1 s0.2.2.1 e x64.2).bind fun x66 =>
                      some (.inl ((w64 (x64.1 + 1)), s0.2.1, s0.2.2.1, false, true, x66))
                  else
                    bif (decide ((w64 (Int.tdiv (w64 (s0.2.1 - s0.1)) 8)) ≤ (w64 (s0.2.1 - x64.1)))) then
                      (rc (w64 (x64.1 + 1)) s0.2.1 s0.2.2.1 e x64.2).bind fun x67 =>
                      some (.inl (s0.1, x64.1, s0.2.2.1, true, true, x67))
                    else
                      (rc (w64 (x64.1 + 1)) s0.2.1 s0.2.2.1 e x64.2).bind fun x68 =>
                      some (.inl (s0.1, x64.1, s0.2.2.1, false, true, x68))
                | (.inr x64) =>
                  bif (decide ((w64 (x64.1 - s0.1)) < (w64 (s0.2.1 - x64.1)))) then
                    bif (decide ((w64 (Int.tdiv (w64 (s0.2.1 - s0.1)) 8)) ≤ (w64 (x64.1 - s0.1)))) then
                      (rc s0.1 x64.1 s0.2.2.1 e x64.2).bind fun x69 =>
                      some (.inl ((w64 (x64.1 + 1)), s0.2.1, s0.2.2.1, true, false, x69))
                    else
                      (rc s0.1 x64.1 s0.2.2.1 e x64.2).bind fun x70 =>
                      some (.inl ((w64 (x64.1 + 1)), s0.2.1, s0.2.2.1, false, false, x70))
                  else
                    bif (decide ((w64 (Int.tdiv (w64 (s0.2.1 - s0.1)) 8)) ≤ (w64 (s0.2.1 - x64.1)))) then
                      (rc (w64 (x64.1 + 1)) s0.2.1 s0.2.2.1 e x64.2).bind fun x71 =>
                      some (.inl (s0.1, x64.1, s0.2.2.1, true, false, x71))
                    else
                      (rc (w64 (x64.1 + 1)) s0.2.1 s0.2.2.1 e x64.2).bind fun x72 =>
                      some (.inl (s0.1, x64.1, s0.2.2.1, false, false, x72))
    else
      bif (decide ((w64 (s0.2.1 - s0.1)) ≤ 12)) then
        (g_slices_insertionSortCmpFunc_int s0.1 s0.2.1 e s0.2.2.2.2.2).bind fun x73 =>
        some (.inr x73)
      else
        bif (s0.2.2.1 == 0) then
          (g_slices_heapSortCmpFunc_int s0.1 s0.2.1 e s0.2.2.2.2.2).bind fun x74 =>
          some (.inr x74)
        else
          (g_slices_choosePivotCmpFunc_int s0.1 s0.2.1 e s0.2.2.2.2.2).bind fun x75 =>
          bif (x75.2 == 2) then
            (g_slices_reverseRangeCmpFunc_int s0.1 s0.2.1 e s0.2.2.2.2.2).bind fun x76 =>
            bif (decide (0 < s0.1)) then
              (getI x76 (w64 (s0.1 - 1))).bind fun x77 =>
              (getI x76 (w64 ((w64 (s0.2.1 - 1)) - (w64 (x75.1 - s0.1))))).bind fun x78 =>
              (e x77 x78).bind fun x79 =>
              bif (decide (x79 < 0)) then
                (g_slices_partitionCmpFunc_int s0.1 s0.2.1 (w64 ((w64 (s0.2.1 - 1)) - (w64 (x75.1 - s0.1)))) e x76).bind fun x80 =>
                match x80 with
                | (.inl x80) =>
                  bif (decide ((w64 (x80.1 - s0.1)) < (w64 (s0.2.1 - x80.1)))) then
                    bif (decide ((w64 (Int.tdiv (w64 (s0.2.1 - s0.1)) 8)) ≤ (w64 (x80.1 - s0.1)))) then
                      (rc s0.1 x80.1 s0.2.2.1 e x80.2).bind fun x81 =>
                      some (.inl ((w64 (x80.1 + 1)), s0.2.1, s0.2.2.1, true, true, x81))
                    else
                      (rc s0.1 x80.1 s0.2.2.1 e x80.2).bind fun x82 =>
                      some (.inl ((w64 (x80.1 + 1)), s0.2.1, s0.2.2.1, false, true, x82))
                  else
                    bif (decide ((w64 (Int.tdiv (w64 (s0.2.1 - s0.1)) 8)) ≤ (w64 (s0.2.1 - x80.1)))) then
                      (rc (w64 (x80.1 + 1)) s0.2.1 s0.2.2.1 e x80.2).bind fun x83 =>
                      some (.inl (s0.1, x80.1, s0.2.2.1, true, true, x83))
                    else
                      (rc (w64 (x80.1 + 1)) s0.2.1 s0.2.2.1 e x80.2).bind fun x84 =>
                      some (.inl (s0.1, x80.1, s0.2.2.1, false, true, x84))
                | (.inr x80) =>
                  bif (decide ((w64 (x80.1 - s0.1)) < (w64 (s0.2.1 - x80.1)))) then
                    bif (decide ((w64 (Int.tdiv (w64 (s0.2.1 - s0.1)) 8)) ≤ (w64 (x80.1 - s0.1)))) then
                      (rc s0.1 x80.1 s0.2.2.1 e x80.2).bind fun x85 =>
                      some (.inl ((w64 (x80.1 + 1)), s0.2.1, s0.2.2.1, true, false, x85))
                    else
                      (rc s0.1 x80.1 s0.2.2.1 e x80.2).bind fun x86 =>
                      some (.inl ((w64 (x80.1 + 1)), s0.2.1, s0.2.2.1, false, false, x86))
                  else
                    bif (decide ((w64 (Int.tdiv (w64 (s0.2.1 - s0.1)) 8)) ≤ (w64 (s0.2.1 - x80.1)))) then
                      (rc (w64 (x80.1 + 1)) s0.2.1 s0.2.2.1 e x80.2).bind fun x87 =>
                      some (.inl (s0.1, x80.1, s0.2.2.1, true, false, x87))
                    else
                      (rc (w64 (x80.1 + 1)) s0.2.1 s0.2.2.1 e x80.2).bind fun x88 =>
                      some (.inl (s0.1, x80.1, s0.2.2.1, false, false, x88))
              else
                (g_slices_partitionEqualCmpFunc_int s0.1 s0.2.1 (w64 ((w64 (s0.2.1 - 1)) - (w64 (x75.1 - s0.1)))) e x76).bind fun x89 =>
                some (.inl (x89.1, s0.2.1, s0.2.2.1, true, false, x89.2))
            else
              (g_slices_partitionCmpFunc_int s0.1 s0.2.1 (w64 ((w64 (s0.2.1 - 1)) - (w64 (x75.1 - s0.1)))) e x76).bind fun x90 =>
              match x90 with
              | (.inl x90) =>
                bif (decide ((w64 (x90.1 - s0.1)) < (w64 (s0.2.1 - x90.1)))) then
                  bif (decide ((w64 (Int.tdiv (w64 (s0.2.1 - s0.1)) 8)) ≤ (w64 (x90.1 - s0.1)))) then
                    (rc s0.1 x90.1 s0.2.2.1 e x90.2).bind fun x91 =>
                    some (.inl ((w64 (x90.1 + 1)), s0.2.1, s0.2.2.1, true, true, x91))
                  else
                    (rc s0.1 x90.1 s0.2.2.1 e x90.2).bind fun x92 =>
                    some (.inl ((w64 (x90.1 + 1)), s0.2.1, s0.2.2.1, false, true, x92))
                else
                  bif (decide ((w64 (Int.tdiv (w64 (s0.2.1 - s0.1)) 8)) ≤ (w64 (s0.2.1 - x90.1)))) then
                    (rc (w64 (x90.1 + 1)) s0.2.1 s0.2.2.1 e x90.2).bind fun x93 =>
                    some (.inl (s0.1, x90.1, s0.2.2.1, true, true, x93))
                  else
                    (rc (w64 (x90.1 + 1)) s0.2.1 s0.2.2.1 e x90.2).bind fun x94 =>
                    some (.inl (s0.1, x90.1, s0.2.2.1, false, true, x94))
              | (.inr x90) =>
                bif (decide ((w64 (x90.1 - s0.1)) < (w64 (s0.2.1 - x90.1)))) then
                  bif (decide ((w64 (Int.tdiv (w64 (s0.2.1 - s0.1)) 8)) ≤ (w64 (x90.1 - s0.1)))) then
                    (rc s0.1 x90.1 s0.2.2.1 e x90.2).bind fun x95 =>
                    some (.inl ((w64 (x90.1 + 1)), s0.2.1, s0.2.2.1, true, false, x95))
                  else
                    (rc s0.1 x90.1 s0.2.2.1 e x90.2).bind fun x96 =>
                    some (.inl ((w64 (x90.1 + 1)), s0.2.1, s0.2.2.1, false, false, x96))
                else
                  bif (decide ((w64 (Int.tdiv (w64 (s0.2.1 - s0.1)) 8)) ≤ (w64 (s0.2.1 - x90.1)))) then
                    (rc (w64 (x90.1 + 1)) s0.2.1 s0.2.2.1 e x90.2).bind fun x97 =>
                    some (.inl (s0.1, x90.1, s0.2.2.1, true, false, x97))
                  else
                    (rc (w64 (x90.1 + 1)) s0.2.1 s0.2.2.1 e x90.2).bind fun x98 =>
                    some (.inl (s0.1, x90.1, s0.2.2.1, false, false, x98))
          else
            bif (decide (0 < s0.1)) then
              (getI s0.2.2.2.2.2 (w64 (s0.1 - 1))).bind fun x99 =>
              (getI s0.2.2.2.2.2 x75.1).bind fun x100 =>
              (e x99 x100).bind fun x101 =>
              bif (decide (x101 < 0)) then
                (g_slices_partitionCmpFunc_int s0.1 s0.2.1 x75.1 e s0.2.2.2.2.2).bind fun x102 =>
                match x102 with
                | (.inl x102) =>
                  bif (decide ((w64 (x102.1 - s0.1)) < (w64 (s0.2.1 - x102.1)))) then
                    bif (decide ((w64 (Int.tdiv (w64 (s0.2.1 - s0.1)) 8)) ≤ (w64 (x102.1 - s0.1)))) then
                      (rc s0.1 x102.1 s0.2.2.1 e x102.2).bind fun x103 =>
                      some (.inl ((w64 (x102.1 + 1)), s0.2.1, s0.2.2.1, true, true, x103))
                    else
                      (rc s0.1 x102.1 s0.2.2.1 e x102.2).bind fun x104 =>
                      some (.inl ((w64 (x102.1 + 1)), s0.2.1, s0.2.2.1, false, true, x104))
                  else
                    bif (decide ((w64 (Int.tdiv (w64 (s0.2.1 - s0.1)) 8)) ≤ (w64 (s0.2.1 - x102.1)))) then
                      (rc (w64 (x102.1 + 1)) s0.2.1 s0.2.2.1 e x102.2).bind fun x105 =>
                      some (.inl (s0.1, x102.1, s0.2.2.1, true, true, x105))
                    else
                      (rc (w64 (x102.1 + 1)) s0.2.1 s0.2.2.1 e x102.2).bind fun x106 =>
                      some (.inl (s0.1, x102.1, s0.2.2.1, false, true, x106))
                | (.inr x102) =>
                  bif (decide ((w64 (x102.1 - s0.1)) < (w64 (s0.2.1 - x102.1)))) then
                    bif (decide ((w64 (Int.tdiv (w64 (s0.2.1 - s0.1)) 8)) ≤ (w64 (x102.1 - s0.1)))) then
                      (rc s0.1 x102.1 s0.2.2.1 e x102.2).bind fun x107 =>
                      some (.inl ((w64 (x102.1 + 1)), s0.2.1, s0.2.2.1, true, false, x107))
                    else
                      (rc s0.1 x102.1 s0.2.2.1 e x102.2).bind fun x108 =>
                      some (.inl ((w64 (x102.1 + 1)), s0.2.1, s0.2.2.1, false, false, x108))
                  else
                    bif (decide ((w64 (Int.tdiv (w64 (s0.2.1 - s0.1)) 8)) ≤ (w64 (s0.2.1 - x102.1)))) then
                      (rc (w64 (x102.1 + 1)) s0.2.1 s0.2.2.1 e x102.2).bind fun x109 =>
                      some (.inl (s0.1, x102.1, s0.2.2.1, true, false, x109))
                    else
                      (rc (w64 (x102.1 + 1)) s0.2.1 s0.2.2.1 e x102.2).bind fun x110 =>
                      some (.inl (s0.1, x102.1, s0.2.2.1, false, false, x110))
              else
                (g_slices_partitionEqualCmpFunc_int s0.1 s0.2.1 x75.1 e s0.2.2.2.2.2).bind fun x111 =>
                some (.inl (x111.1, s0.2.1, s0.2.2.1, true, false, x111.2))
            else
              (g_slices_partitionCmpFunc_int s0.1 s0.2.1 x75.1 e s0.2.2.2.2.2).bind fun x112 =>
              match x112 with
              | (.inl x112) =>
                bif (decide ((w64 (x112.1 - s0.1)) < (w64 (s0.2.1 - x112.1)))) then
                  bif (decide ((w64 (Int.tdiv (w64 (s0.2.1 - s0.1)) 8)) ≤ (w64 (x112.1 - s0.1)))) then
                    (rc s0.1 x112.1 s0.2.2.1 e x112.2).bind fun x113 =>
                    some (.inl ((w64 (x112.1 + 1)), s0.2.1, s0.2.2.1, true, true, x113))
                  else
                    (rc s0.1 x112.1 s0.2.2.1 e x112.2).bind fun x114 =>
                    some (.inl ((w64 (x112.1 + 1)), s0.2.1, s0.2.2.1, false, true, x114))
                else
                  bif (decide ((w64 (Int.tdiv (w64 (s0.2.1 - s0.1)) 8)) ≤ (w64 (s0.2.1 - x112.1)))) then
                    (rc (w64 (x112.1 + 1)) s0.2.1 s0.2.2.1 e x112.2).bind fun x115 =>
                    some (.inl (s0.1, x112.1, s0.2.2.1, true, true, x115))
                  else
                    (rc (w64 (x112.1 + 1)) s0.2.1 s0.2.2.1 e x112.2).bind fun x116 =>
                    some (.inl (s0.1, x112.1, s0.2.2.1, false, true, x116))
              | (.inr x112) =>
                bif (decide ((w64 (x112.1 - s0.1)) < (w64 (s0.2.1 - x112.1)))) then
                  bif (decide ((w64 (Int.tdiv (w64 (s0.2.1 - s0.1)) 8)) ≤ (w64 (x112.1 - s0.1)))) then
                    (rc s0.1 x112.1 s0.2.2.1 e x112.2).bind fun x117 =>
                    some (.inl ((w64 (x112.1 + 1)), s0.2.1, s0.2.2.1, true, false, x117))
                  else
                    (rc s0.1 x112.1 s0.2.2.1 e x112.2).bind fun x118 =>
                    some (.inl ((w64 (x112.1 + 1)), s0.2.1, s0.2.2.1, false, false, x118))
                else
                  bif (decide ((w64 (Int.tdiv (w64 (s0.2.1 - s0.1)) 8)) ≤ (w64 (s0.2.1 - x112.1)))) then
                    (rc (w64 (x112.1 + 1)) s0.2.1 s0.2.2.1 e x112.2).bind fun x119 =>
                    some (.inl (s0.1, x112.1, s0.2.2.1, true, false, x119))
                  else
                    (rc (w64 (x112.1 + 1)) s0.2.1 s0.2.2.1 e x112.2).bind fun x120 =>
                    some (.inl (s0.1, x112.1, s0.2.2.1, false, false, x120))
  else
    bif s0.2.2.2.2.1 then
      bif (decide ((w64 (s0.2.1 - s0.1)) ≤ 12)) then
        (g_slices_insertionSortCmpFunc_int s0.1 s0.2.1 e s0.2.2.2.2.2).bind fun x121 =>
        some (.inr x121)
      else
        bif (s0.2.2.1 == 0) then
          (g_slices_heapSortCmpFunc_int s0.1 s0.2.1 e s0.2.2.2.2.2).bind fun x122 =>
          some (.inr x122)
        else
          (g_slices_breakPatternsCmpFunc_int s0.1 s0.2.1 e s0.2.2.2.2.2).bind fun x123 =>
          (g_slices_choosePivotCmpFunc_int s0.1 s0.2.1 e x123).bind fun x124 =>
          bif (x124.2 == 2) then
            (g_slices_reverseRangeCmpFunc_int s0.1 s0.2.1 e x123).bind fun x125 =>
            bif (decide (0 < s0.1)) then
              (getI x125 (w64 (s0.1 - 1))).bind fun x126 =>
              (getI x125 (w64 ((w64 (s0.2.1 - 1)) - (w64 (x124.1 - s0.1))))).bind fun x127 =>
              (e x126 x127).bind fun x128 =>
              bif (decide (x128 < 0)) then
                (g_slices_partitionCmpFunc_int s0.1 s0.2.1 (w64 ((w64 (s0.2.1 - 1)) - (w64 (x124.1 - s0.1)))) e x125).bind fun x129 =>
                match x129 with
                | (.inl x129) =>
                  bif (decide ((w64 (x129.1 - s0.1)) < (w64 (s0.2.1 - x129.1)))) then
                    bif (decide ((w64 (Int.tdiv (w64 (s0.2.1 - s0.1)) 8)) ≤ (w64 (x129.1 - s0.1)))) then
                      (rc s0.1 x129.1 (w64 (s0.2.2.1 - 1)) e x129.2).bind fun x130 =>
                      some (.inl ((w64 (x129.1 + 1)), s0.2.1, (w64 (s0.2.2.1 - 1)), true, true, x130))
                    else
                      (rc s0.1 x129.1 (w64 (s0.2.2.1 - 1)) e x129.2).bind fun x131 =>
                      some (.inl ((w64 (x129.1 + 1)), s0.2.1, (w64 (s0.2.2.1 - 1)), false, true, x131))
                  else
                    bif (decide ((w64 (Int.tdiv (w64 (s0.2.1 - s0.1)) 8)) ≤ (w64 (s0.2.1 - x129.1)))) then
                      (rc (w64 (x129.1 + 1)) s0.2.1 (w64 (s0.2.2.1 - 1)) e x129.2).bind fun x132 =>
                      some (.inl (s0.1, x129.1, (w64 (s0.2.2.1 - 1)), true, true, x132))
                    else
                      (rc (w64 (x129.1 + 1)) s0.2.1 (w64 (s0.2.2.1 - 1)) e x129.2).bind fun x133 =>
                      some (.inl (s0.1, x129.1, (w64 (s0.2.2.1 - 1)), false, true, x133))
                | (.inr x129) =>
                  bif (decide ((w64 (x129.1 - s0.1)) < (w64 (s0.2.1 - x129.1)))) then
                    bif (decide ((w64 (Int.tdiv (w64 (s0.2.1 - s0.1)) 8)) ≤ (w64 (x129.1 - s0.1)))) then
                      (rc s0.1 x129.1 (w64 (s0.2.2.1 - 1)) e x129.2).bind fun x134 =>
                      some (.inl ((w64 (x129.1 + 1)), s0.2.1, (w64 (s0.2.2.1 - 1)), true, false, x134))
                    else
                      (rc s0.1 x129.1 (w64 (s0.2.2.1 - 1)) e x129.2).bind fun x135 =>
                      some (.inl ((w64 (x129.1 + 1)), s0.2.1, (w64 (s0.2.2.1 - 1)), false, false, x135))
                  else
                    bif (decide ((w64 (Int.tdiv (w64 (s0.2.1 - s0.1)) 8)) ≤ (w64 (s0.2.1 - x129.1)))) then
                      (rc (w64 (x129.1 + 1)) s0.2.1 (w64 (s0.2.2.1 - 1)) e x129.2).bind fun x136 =>
                      some (.inl (s0.1, x129.1, (w64 (s0.2.2.1 - 1)), true, false, x136))
                    else
                      (rc (w64 (x129.1 + 1)) s0.2.1 (w64 (s0.2.2.1 - 1)) e x129.2).bind fun x137 =>
                      some (.inl (s0.1, x129.1, (w64 (s0.2.2.1 - 1)), false, false, x137))
              else
                (g_slices_partitionEqualCmpFunc_int s0.1 s0.2.1 (w64 ((w64 (s0.2.1 - 1)) - (w64 (x124.1 - s0.1)))) e x125).bind fun x138 =>
                some (.inl (x138.1, s0.2.1, (w64 (s0.2.2.1 - 1)), false, true, x138.2))
            else
              (g_slices_partitionCmpFunc_int s0.1 s0.2.1 (w64 ((w64 (s0.2.1 - 1)) - (w64 (x124.1 - s0.1)))) e x125).bind fun x139 =>
              match x139 with
              | (.inl x139) =>
                bif (decide ((w64 (x139.1 - s0.1)) < (w64 (s0.2.1 - x139.1)))) then
                  bif (decide ((w64 (Int.tdiv (w64 (s0.2.1 - s0.1)) 8)) ≤ (w64 (x139.1 - s0.1)))) then
                    (rc s0.1 x139.1 (w64 (s0.2.2.1 - 1)) e x139.2).bind fun x140 =>
                    some (.inl ((w64 (x139.1 + 1)), s0.2.1, (w64 (s0.2.2.1 - 1)), true, true, x140))
                  else
                    (rc s0.1 x139.1 (w64 (s0.2.2.1 - 1)) e x139.2).bind fun x141 =>
                    some (.inl ((w64 (x139.1 + 1)), s0.2.1, (w64 (s0.2.2.1 - 1)), false, true, x141))
                else
                  bif (decide ((w64 (Int.tdiv (w64 (s0.2.1 - s0.1)) 8)) ≤ (w64 (s0.2.1 - x139.1)))) then
                    (rc (w64 (x139.1 + 1)) s0.2.1 (w64 (s0.2.2.1 - 1)) e x139.2).bind fun x142 =>
                    some (.inl (s0.1, x139.1, (w64 (s0.2.2.1 - 1)), true, true, x142))
                  else
                    (rc (w64 (x139.1 + 1)) s0.2.1 (w64 (s0.2.2.1 - 1)) e x139.2).bind fun x143 =>
                    some (.inl (s0.1, x139.1, (w64 (s0.2.2.1 - 1)), false, true, x143))
              | (.inr x139) =>
                bif (decide ((w64 (x139.1 - s0.1)) < (w64 (s0.2.1 - x139.1)))) then
                  bif (decide ((w64 (Int.tdiv (w64 (s0.2.1 - s0.1)) 8)) ≤ (w64 (x139.1 - s0.1)))) then
                    (rc s0.1 x139.1 (w64 (s0.2.2.1 - 1)) e x139.2).bind fun x144 =>
                    some (.inl ((w64 (x139.1 + 1)), s0.2.1, (w64 (s0.2.2.1 - 1)), true, false, x144))
                  else
                    (rc s0.1 x139.1 (w64 (s0.2.2.1 - 1)) e x139.2).bind fun x145 =>
                    some (.inl ((w64 (x139.1 + 1)), s0.2.1, (w64 (s0.2.2.1 - 1)), false, false, x145))
                else
                  bif (decide ((w64 (Int.tdiv (w64 (s0.2.1 - s0.1)) 8)) ≤ (w64 (s0.2.1 - x139.1)))) then
                    (rc (w64 (x139.1 + 1)) s0.2.1 (w64 (s0.2.2.1 - 1)) e x139.2).bind fun x146 =>
                    some (.inl (s0.1, x139.1, (w64 (s0.2.2.1 - 1)), true, false, x146))
                  else
                    (rc (w64 (x139.1 + 1)) s0.2.1 (w64 (s0.2.2.1 - 1)) e x139.2).bind fun x147 =>
                    some (.inl (s0.1, x139.1, (w64 (s0.2.2.1 - 1)), false, false, x147))
          else
            bif (decide (0 < s0.1)) then
              (getI x123 (w64 (s0.1 - 1))).bind fun x148 =>
              (getI x123 x124.1).bind fun x149 =>
              (e x148 x149).bind fun x150 =>
              bif (decide (x150 < 0)) then
                (g_slices_partitionCmpFunc_int s0.1 s0.2.1 x124.1 e x123).bind fun x151 =>
                match x151 with
                | (.inl x151) =>
                  bif (decide ((w64 (x151.1 - s0.1)) < (w64 (s0.2.1 - x151.1)))) then
                    bif (decide ((w64 (Int.tdiv (w64 (s0.2.1 - s0.1)) 8)) ≤ (w64 (x151.1 - s0.1)))) then
                      (rc s0.1 x151.1 (w64 (s0.2.2.1 - 1)) e x151.2).bind fun x152 =>
                      some (.inl ((w64 (x151.1 + 1)), s0.2.1, (w64 (s0.2.2.1 - 1)), true, true, x152))
                    else
                      (rc s0.1 x151.1 (w64 (s0.2.2.1 - 1)) e x151.2).bind fun x153 =>
                      some (.inl ((w64 (x151.1 + 1)), s0.2.1, (w64 (s0.2.2.1 - 1)), false, true, x153))
                  else
                    bif (decide ((w64 (Int.tdiv (w64 (s0.2.1 - s0.1)) 8)) ≤ (w64 (s0.2.1 - x151.1)))) then
                      (rc (w64 (x151.1 + 1)) s0.2.1 (w64 (s0.2.2.1 - 1)) e x151.2).bind fun x154 =>
                      some (.inl (s0.1, x151.1, (w64 (s0.2.2.1 - 1)), true, true, x154))
                    else
                      (rc (w64 (x151.1 + 1)) s0.2.1 (w64 (s0.2.2.1 - 1)) e x151.2).bind fun x155 =>
                      some (.inl (s0.1, x151.1, (w64 (s0.2.2.1 - 1)), false, true, x155))
                | (.inr x151) =>
                  bif (decide ((w64 (x151.1 - s0.1)) < (w64 (s0.2.1 - x151.1)))) then
                    bif (decide ((w64 (Int.tdiv (w64 (s0.2.1 - s0.1)) 8)) ≤ (w64 (x151.1 - s0.1)))) then
                      (rc s0.1 x151.1 (w64 (s0.2.2.1 - 1)) e x151.2).bind fun x156 =>
                      some (.inl ((w64 (x151.1 + 1)), s0.2.1, (w64 (s0.2.2.1 - 1)), true, false, x156))
                    else
                      (rc s0.1 x151.1 (w64 (s0.2.2.1 - 1)) e x151.2).bind fun x157 =>
                      some (.inl ((w64 (x151.1 + 1)), s0.2.1, (w64 (s0.2.2.1 - 1)), false, false, x157))
                  else
                    bif (decide ((w64 (Int.tdiv (w64 (s0.2.1 - s0.1)) 8)) ≤ (w64 (s0.2.1 - x151.1)))) then
                      (rc (w64 (x151.1 + 1)) s0.2.1 (w64 (s0.2.2.1 - 1)) e x151.2).bind fun x158 =>
                      some (.inl (s0.1, x151.1, (w64 (s0.2.2.1 - 1)), true, false, x158))
                    else
                      (rc (w64 (x151.1 + 1)) s0.2.1 (w64 (s0.2.2.1 - 1)) e x151.2).bind fun x159 =>
                      some (.inl (s0.1, x151.1, (w64 (s0.2.2.1 - 1)), false, false, x159))
              else
                (g_slices_partitionEqualCmpFunc_int s0.1 s0.2.1 x124.1 e x123).bind fun x160 =>
                some (.inl (x160.1, s0.2.1, (w64 (s0.2.2.1 - 1)), false, true, x160.2))
            else
              (g_slices_partitionCmpFunc_int s0.1 s0.2.1 x124.1 e x123).bind fun x161 =>
              match x161 with
              | (.inl x161) =>
                bif (decide ((w64 (x161.1 - s0.1)) < (w64 (s0.2.1 - x161.1)))) then
                  bif (decide ((w64 (Int.tdiv (w64 (s0.2.1 - s0.1)) 8)) ≤ (w64 (x161.1 - s0.1)))) then
                    (rc s0.1 x161.1 (w64 (s0.2.2.1 - 1)) e x161.2).bind fun x162 =>
                    some (.inl ((w64 (x161.1 + 1)), s0.2.1, (w64 (s0.2.2.1 - 1)), true, true, x162))
                  else
                    (rc s0.1 x161.1 (w64 (s0.2.2.1 - 1)) e x161.2).bind fun x163 =>
                    some (.inl ((w64 (x161.1 + 1)), s0.2.1, (w64 (s0.2.2.1 - 1)), false, true, x163))
                else
                  bif (decide ((w64 (Int.tdiv (w64 (s0.2.1 - s0.1)) 8)) ≤ (w64 (s0.2.1 - x161.1)))) then
                    (rc (w64 (x161.1 + 1)) s0.2.1 (w64 (s0.2.2.1 - 1)) e x161.2).bind fun x164 =>
                    some (.inl (s0.1, x161.1, (w64 (s0.2.2.1 - 1)), true, true, x164))
                  else
                    (rc (w64 (x161.1 + 1)) s0.2.1 (w64 (s0.2.2.1 - 1)) e x161.2).bind fun x165 =>
                    some (.inl (s0.1, x161.1, (w64 (s0.2.2.1 - 1)), false, true, x165))
              | (.inr x161) =>
                bif (decide ((w64 (x161.1 - s0.1)) < (w64 (s0.2.1 - x161.1)))) then
                  bif (decide ((w64 (Int.tdiv (w64 (s0.2.1 - s0.1)) 8)) ≤ (w64 (x161.1 - s0.1)))) then
                    (rc s0.1 x161.1 (w64 (s0.2.2.1 - 1)) e x161.2).bind fun x166 =>
                    some (.inl ((w64 (x161.1 + 1)), s0.2.1, (w64 (s0.2.2.1 - 1)), true, false, x166))
                  else
                    (rc s0.1 x161.1 (w64 (s0.2.2.1 - 1)) e x161.2).bind fun x167 =>
                    some (.inl ((w64 (x161.1 + 1)), s0.2.1, (w64 (s0.2.2.1 - 1)), false, false, x167))
                else
                  bif (decide ((w64 (Int.tdiv (w64 (s0.2.1 - s0.1)) 8)) ≤ (w64 (s0.2.1 - x161.1)))) then
                    (rc (w64 (x161.1 + 1)) s0.2.1 (w64 (s0.2.2.1 - 1)) e x161.2).bind fun x168 =>
                    some (.inl (s0.1, x161.1, (w64 (s0.2.2.1 - 1)), true, false, x168))
                  else
                    (rc (w64 (x161.1 + 1)) s0.2.1 (w64 (s0.2.2.1 - 1)) e x161.2).bind fun x169 =>
                    some (.inl (s0.1, x161.1, (w64 (s0.2.2.1 - 1)), false, false, x169))
    else
      bif (decide ((w64 (s0.2.1 - s0.1)) ≤ 12)) then
        (g_slices_insertionSortCmpFunc_int s0.1 s0.2.1 e s0.2.2.2.2.2).bind fun x170 =>
        some (.inr x170)
      else
        bif (s0.2.2.1 == 0) then
          (g_slices_heapSortCmpFunc_int s0.1 s0.2.1 e s0.2.2.2.2.2).bind fun x171 =>
          some (.inr x171)
        else
          (g_slices_breakPatternsCmpFunc_int s0.1 s0.2.1 e s0.2.2.2.2.2).bind fun x172 =>
          (g_slices_choosePivotCmpFunc_int s0.1 s0.2.1 e x172).bind fun x173 =>
          bif (x173.2 == 2) then
            (g_slices_reverseRangeCmpFunc_int s0.1 s0.2.1 e x172).bind fun x174 =>
            bif (decide (0 < s0.1)) then
              (getI x174 (w64 (s0.1 - 1))).bind fun x175 =>
              (getI x174 (w64 ((w64 (s0.2.1 - 1)) - (w64 (x173.1 - s0.1))))).bind fun x176 =>
              (e x175 x176).bind fun x177 =>
              bif (decide (x177 < 0)) then
                (g_slices_partitionCmpFunc_int s0.1 s0.2.1 (w64 ((w64 (s0.2.1 - 1)) - (w64 (x173.1 - s0.1)))) e x174).bind fun x178 =>
                match x178 with
                | (.inl x178) =>
                  bif (decide ((w64 (x178.1 - s0.1)) < (w64 (s0.2.1 - x178.1)))) then
                    bif (decide ((w64 (Int.tdiv (w64 (s0.2.1 - s0.1)) 8)) ≤ (w64 (x178.1 - s0.1)))) then
                      (rc s0.1 x178.1 (w64 (s0.2.2.1 - 1)) e x178.2).bind fun x179 =>
                      some (.inl ((w64 (x178.1 + 1)), s0.2.1, (w64 (s0.2.2.1 - 1)), true, true, x179))
                    else
                      (rc s0.1 x178.1 (w64 (s0.2.2.1 - 1)) e x178.2).bind fun x180 =>
                      some (.inl ((w64 (x178.1 + 1)), s0.2.1, (w64 (s0.2.2.1 - 1)), false, true, x180))
                  else
                    bif (decide ((w64 (Int.tdiv (w64 (s0.2.1 - s0.1)) 8)) ≤ (w64 (s0.2.1 - x178.1)))) then
                      (rc (w64 (x178.1 + 1)) s0.2.1 (w64 (s0.2.2.1 - 1)) e x178.2).bind fun x181 =>
                      some (.inl (s0.1, x178.1, (w64 (s0.2.2.1 - 1)), true, true, x181))
                    else
                      (rc (w64 (x178.1 + 1)) s0.2.1 (w64 (s0.2.2.1 - 1)) e x178.2).bind fun x182 =>
                      some (.inl (s0.1, x178.1, (w64 (s0.2.2.1 - 1)), false, true, x182))
                | (.inr x178) =>
                  bif (decide ((w64 (x178.1 - s0.1)) < (w64 (s0.2.1 - x178.1)))) then
                    bif (decide ((w64 (Int.tdiv (w64 (s0.2.1 - s0.1)) 8)) ≤ (w64 (x178.1 - s0.1)))) then
                      (rc s0.1 x178.1 (w64 (s0.2.2.1 - 1)) e x178.2).bind fun x183 =>
                      some (.inl ((w64 (x178.1 + 1)), s0.2.1, (w64 (s0.2.2.1 - 1)), true, false, x183))
                    else
                      (rc s0.1 x178.1 (w64 (s0.2.2.1 - 1)) e x178.2).bind fun x184 =>
                      some (.inl ((w64 (x178.1 + 1)), s0.2.1, (w64 (s0.2.2.1 - 1)), false, false, x184))
                  else
                    bif (decide ((w64 (Int.tdiv (w64 (s0.2.1 - s0.1)) 8)) ≤ (w64 (s0.2.1 - x178.1)))) then
                      (rc (w64 (x178.1 + 1)) s0.2.1 (w64 (s0.2.2.1 - 1)) e x178.2).bind fun x185 =>
                      some (.inl (s0.1, x178.1, (w64 (s0.2.2.1 - 1)), true, false, x185))
                    else
                      (rc (w64 (x178.1 + 1)) s0.2.1 (w64 (s0.2.2.1 - 1)) e x178.2).bind fun x186 =>
                      some (.inl (s0.1, x178.1, (w64 (s0.2.2.1 - 1)), false, false, x186))
              else
                (g_slices_partitionEqualCmpFunc_int s0.1 s0.2.1 (w64 ((w64 (s0.2.1 - 1)) - (w64 (x173.1 - s0.1)))) e x174).bind fun x187 =>
                some (.inl (x187.1, s0.2.1, (w64 (s0.2.2.1 - 1)), false, false, x187.2))
            else
              (g_slices_partitionCmpFunc_int s0.1 s0.2.1 (w64 ((w64 (s0.2.1 - 1)) - (w64 (x173.1 - s0.1)))) e x174).bind fun x188 =>
              match x188 with
              | (.inl x188) =>
                bif (decide ((w64 (x188.1 - s0.1)) < (w64 (s0.2.1 - x188.1)))) then
                  bif (decide ((w64 (Int.tdiv (w64 (s0.2.1 - s0.1)) 8)) ≤ (w64 (x188.1 - s0.1)))) then
                    (rc s0.1 x188.1 (w64 (s0.2.2.1 - 1)) e x188.2).bind fun x189 =>
                    some (.inl ((w64 (x188.1 + 1)), s0.2.1, (w64 (s0.2.2.1 - 1)), true, true, x189))
                  else
                    (rc s0.1 x188.1 (w64 (s0.2.2.1 - 1)) e x188.2).bind fun x190 =>
                    some (.inl ((w64 (x188.1 + 1)), s0.2.1, (w64 (s0.2.2.1 - 1)), false, true, x190))
                else
                  bif (decide ((w64 (Int.tdiv (w64 (s0.2.1 - s0.1)) 8)) ≤ (w64 (s0.2.1 - x188.1)))) then
                    (rc (w64 (x188.1 + 1)) s0.2.1 (w64 (s0.2.2.1 - 1)) e x188.2).bind fun x191 =>
                    some (.inl (s0.1, x188.1, (w64 (s0.2.2.1 - 1)), true, true, x191))
                  else
                    (rc (w64 (x188.1 + 1)) s0.2.1 (w64 (s0.2.2.1 - 1)) e x188.2).bind fun x192 =>
                    some (.inl (s0.1, x188.1, (w64 (s0.2.2.1 - 1)), false, true, x192))
              | (.inr x188) =>
                bif (decide ((w64 (x188.1 - s0.1)) < (w64 (s0.2.1 - x188.1)))) then
                  bif (decide ((w64 (Int.tdiv (w64 (s0.2.1 - s0.1)) 8)) ≤ (w64 (x188.1 - s0.1)))) then
                    (rc s0.1 x188.1 (w64 (s0.2.2.1 - 1)) e x188.2).bind fun x193 =>
                    some (.inl ((w64 (x188.1 + 1)), s0.2.1, (w64 (s0.2.2.1 - 1)), true, false, x193))
                  else
                    (rc s0.1 x188.1 (w64 (s0.2.2.1 - 1)) e x188.2).bind fun x194 =>
                    some (.inl ((w64 (x188.1 + 1)), s0.2.1, (w64 (s0.2.2.1 - 1)), false, false, x194))
                else
                  bif (decide ((w64 (Int.tdiv (w64 (s0.2.1 - s0.1)) 8)) ≤ (w64 (s0.2.1 - x188.1)))) then
                    (rc (w64 (x188.1 + 1)) s0.2.1 (w64 (s0.2.2.1 - 1)) e x188.2).bind fun x195 =>
                    some (.inl (s0.1, x188.1, (w64 (s0.2.2.1 - 1)), true, false, x195))
                  else
                    (rc (w64 (x188.1 + 1)) s0.2.1 (w64 (s0.2.2.1 - 1)) e x188.2).bind fun x196 =>
                    some (.inl (s0.1, x188.1, (w64 (s0.2.2.1 - 1)), false, false, x196))
          else
            bif (decide (0 < s0.1)) then
              (getI x172 (w64 (s0.1 - 1))).bind fun x197 =>
              (getI x172 x173.1).bind fun x198 =>
              (e x197 x198).bind fun x199 =>
              bif (decide (x199 < 0)) then
                (g_slices_partitionCmpFunc_int s0.1 s0.2.1 x173.1 e x172).bind fun x200 =>
                match x200 with
                | (.inl x200) =>
                  bif (decide ((w64 (x200.1 - s0.1)) < (w64 (s0.2.1 - x200.1)))) then
                    bif (decide ((w64 (Int.tdiv (w64 (s0.2.1 - s0.1)) 8)) ≤ (w64 (x200.1 - s0.1)))) then
                      (rc s0.1 x200.1 (w64 (s0.2.2.1 - 1)) e x200.2).bind fun x201 =>
                      some (.inl ((w64 (x200.1 + 1)), s0.2.1, (w64 (s0.2.2.1 - 1)), true, true, x201))
                    else
                      (rc s0.1 x200.1 (w64 (s0.2.2.1 - 1)) e x200.2).bind fun x202 =>
                      some (.inl ((w64 (x200.1 + 1)), s0.2.1, (w64 (s0.2.2.1 - 1)), false, true, x202))
                  else
                    bif (decide ((w64 (Int.tdiv (w64 (s0.2.1 - s0.1)) 8)) ≤ (w64 (s0.2.1 - x200.1)))) then
                      (rc (w64 (x200.1 + 1)) s0.2.1 (w64 (s0.2.2.1 - 1)) e x200.2).bind fun x203 =>
                      some (.inl (s0.1, x200.1, (w64 (s0.2.2.1 - 1)), true, true, x203))
                    else
                      (rc (w64 (x200.1 + 1)) s0.2.1 (w64 (s0.2.2.1 - 1)) e x200.2).bind fun x204 =>
                      some (.inl (s0.1, x200.1, (w64 (s0.2.2.1 - 1)), false, true, x204))
                | (.inr x200) =>
                  bif (decide ((w64 (x200.1 - s0.1)) < (w64 (s0.2.1 - x200.1)))) then
                    bif (decide ((w64 (Int.tdiv (w64 (s0.2.1 - s0.1)) 8)) ≤ (w64 (x200.1 - s0.1)))) then
                      (rc s0.1 x200.1 (w64 (s0.2.2.1 - 1)) e x200.2).bind fun x205 =>
                      some (.inl ((w64 (x200.1 + 1)), s0.2.1, (w64 (s0.2.2.1 - 1)), true, false, x205))
                    else
                      (rc s0.1 x200.1 (w64 (s0.2.2.1 - 1)) e x200.2).bind fun x206 =>
                      some (.inl ((w64 (x200.1 + 1)), s0.2.1, (w64 (s0.2.2.1 - 1)), false, false, x206))
                  else
                    bif (decide ((w64 (Int.tdiv (w64 (s0.2.1 - s0.1)) 8)) ≤ (w64 (s0.2.1 - x200.1)))) then
                      (rc (w64 (x200.1 + 1)) s0.2.1 (w64 (s0.2.2.1 - 1)) e x200.2).bind fun x207 =>
                      some (.inl (s0.1, x200.1, (w64 (s0.2.2.1 - 1)), true, false, x207))
                    else
                      (rc (w64 (x200.1 + 1)) s0.2.1 (w64 (s0.2.2.1 - 1)) e x200.2).bind fun x208 =>
                      some (.inl (s0.1, x200.1, (w64 (s0.2.2.1 - 1)), false, false, x208))
              else
                (g_slices_partitionEqualCmpFunc_int s0.1 s0.2.1 x173.1 e x172).bind fun x209 =>
                some (.inl (x209.1, s0.2.1, (w64 (s0.2.2.1 - 1)), false, false, x209.2))
            else
              (g_slices_partitionCmpFunc_int s0.1 s0.2.1 x173.1 e x172).bind fun x210 =>
              match x210 with
              | (.inl x210) =>
                bif (decide ((w64 (x210.1 - s0.1)) < (w64 (s0.2.1 - x210.1)))) then
                  bif (decide ((w64 (Int.tdiv (w64 (s0.2.1 - s0.1)) 8)) ≤ (w64 (x210.1 - s0.1)))) then
                    (rc s0.1 x210.1 (w64 (s0.2.2.1 - 1)) e x210.2).bind fun x211 =>
                    some (.inl ((w64 (x210.1 + 1)), s0.2.1, (w64 (s0.2.2.1 - 1)), true, true, x211))
                  else
                    (rc s0.1 x210.1 (w64 (s0.2.2.1 - 1)) e x210.2).bind fun x212 =>
                    some (.inl ((w64 (x210.1 + 1)), s0.2.1, (w64 (s0.2.2.1 - 1)), false, true, x212))
                else
                  bif (decide ((w64 (Int.tdiv (w64 (s0.2.1 - s0.1)) 8)) ≤ (w64 (s0.2.1 - x210.1)))) then
                    (rc (w64 (x210.1 + 1)) s0.2.1 (w64 (s0.2.2.1 - 1)) e x210.2).bind fun x213 =>
                    some (.inl (s0.1, x210.1, (w64 (s0.2.2.1 - 1)), true, true, x213))
                  else
                    (rc (w64 (x210.1 + 1)) s0.2.1 (w64 (s0.2.2.1 - 1)) e x210.2).bind fun x214 =>
                    some (.inl (s0.1, x210.1, (w64 (s0.2.2.1 - 1)), false, true, x214))
              | (.inr x210) =>
                bif (decide ((w64 (x210.1 - s0.1)) < (w64 (s0.2.1 - x210.1)))) then
                  bif (decide ((w64 (Int.tdiv (w64 (s0.2.1 - s0.1)) 8)) ≤ (w64 (x210.1 - s0.1)))) then
                    (rc s0.1 x210.1 (w64 (s0.2.2.1 - 1)) e x210.2).bind fun x215 =>
                    some (.inl ((w64 (x210.1 + 1)), s0.2.1, (w64 (s0.2.2.1 - 1)), true, false, x215))
                  else
                    (rc s0.1 x210.1 (w64 (s0.2.2.1 - 1)) e x210.2).bind fun x216 =>
                    some (.inl ((w64 (x210.1 + 1)), s0.2.1, (w64 (s0.2.2.1 - 1)), false, false, x216))
                else
                  bif (decide ((w64 (Int.tdiv (w64 (s0.2.1 - s0.1)) 8)) ≤ (w64 (s0.2.1 - x210.1)))) then
                    (rc (w64 (x210.1 + 1)) s0.2.1 (w64 (s0.2.2.1 - 1)) e x210.2).bind fun x217 =>
                    some (.inl (s0.1, x210.1, (w64 (s0.2.2.1 - 1)), true, false, x217))
                  else
                    (rc (w64 (x210.1 + 1)) s0.2.1 (w64 (s0.2.2.1 - 1)) e x210.2).bind fun x218 =>
                    some (.inl (s0.1, x210.1, (w64 (s0.2.2.1 - 1)), false, false, x218))

noncomputable def g_slices_pdqsortCmpFunc_int_b (rc : Int → Int → Int → (Int → Int → Option Int) → (List Int) → Option (List Int)) (b : Int) (c : Int) (d : Int) (e : (Int → Int → Option Int)) (m0_0 : (List Int)) : Option (List Int) :=
  (lp (g_slices_pdqsortCmpFunc_int_L0 e rc) (b, c, d, true, true, m0_0)).bind fun r219 =>
  some r219

noncomputable def g_slices_pdqsortCmpFunc_int_n : Nat → Int → Int → Int → (Int → Int → Option Int) → (List Int) → Option (List Int)
  | 0 => fun _ _ _ _ _ => none
  | n + 1 => g_slices_pdqsortCmpFunc_int_b (g_slices_pdqsortCmpFunc_int_n n)

noncomputable def g_slices_pdqsortCmpFunc_int (b : Int) (c : Int) (d : Int) (e : (Int → Int → Option Int)) (m0_0 : (List Int)) : Option (List Int) := lim1 fun n => g_slices_pdqsortCmpFunc_int_n n b c d e m0_0
noncomputable def g_slices_SortFunc_l_int_int (b : (Int → Int → Option Int)) (m0_0 : (List Int)) : Option (List Int) :=
  (g_math_bits_Len (IntKind.u64.wrap (m0_0.length : Int))).bind fun x0 =>
  (g_slices_pdqsortCmpFunc_int 0 (m0_0.length : Int) x0 b m0_0).bind fun x1 =>
  some x1
noncomputable def g_part_Order_L0 (a : (List ShapeT)) (s0 : Int × (List Int)) : Option ((Int × (List Int)) ⊕ (List Int)) :=
  bif (decide (s0.1 < (a.length : Int))) then
    bif (Nat.ble (List.length s0.2 + 1) lim) then
      some (.inl ((w64 (s0.1 + 1)), (s0.2 ++ [s0.1])))
    else
      none
  else
    some (.inr s0.2)

noncomputable def g_part_Order (a : (List ShapeT)) : Option (List Int) :=
  (lp (g_part_Order_L0 a) (0, ([] : (List Int)))).bind fun r1 =>
  (g_slices_SortFunc_l_int_int (fun z0 z1 => g_part_Order_1 z0 z1 a) r1).bind fun x2 =>
  some x2
noncomputable def g_part_On_L0 (a : (List ShapeT)) (b : (List Int)) (c : Int) (s0 : Int × (List ShapeT)) : Option ((Int × (List ShapeT)) ⊕ (List ShapeT)) :=
  bif (decide (s0.1 < (a.length : Int))) then
    (getI a s0.1).bind fun x1 =>
    bif (decide (s0.1 < (b.length : Int))) then
      (getI b s0.1).bind fun x2 =>
      bif (x2 == c) then
        bif (Nat.ble (List.length s0.2 + 1) lim) then
          some (.inl ((w64 (s0.1 + 1)), (s0.2 ++ [x1])))
        else
          none
      else
        some (.inl ((w64 (s0.1 + 1)), s0.2))
    else
      some (.inl ((w64 (s0.1 + 1)), s0.2))
  else
    some (.inr s0.2)

noncomputable def g_part_On (a : (List ShapeT)) (b : (List Int)) (c : Int) : Option (List ShapeT) :=
  (lp (g_part_On_L0 a b c) (0, ([] : (List ShapeT)))).bind fun r3 =>
  some r3
noncomputable def g_edf_Horizon_1 (a : Int) (b : ShapeT) : Option Int :=
  some (bif decide (a < b.period) then b.period else a)
noncomputable def g_edf_fold_L0 (a : (List ShapeT)) (b : (Int → ShapeT → Option Int)) (s0 : Int × Int) : Option ((Int × Int) ⊕ Int) :=
  bif (decide (s0.2 < (a.length : Int))) then
    (getI a s0.2).bind fun x1 =>
    (b s0.1 x1).bind fun x2 =>
    some (.inl (x2, (w64 (s0.2 + 1))))
  else
    some (.inr s0.1)

noncomputable def g_edf_fold (a : (List ShapeT)) (b : (Int → ShapeT → Option Int)) : Option Int :=
  (lp (g_edf_fold_L0 a b) (0, 0)).bind fun r3 =>
  some r3
noncomputable def g_edf_Horizon (a : (List ShapeT)) : Option Int :=
  (g_edf_Check a).bind fun x0 =>
  bif (x0 != 0) then
    some 0
  else
    (g_edf_fold a (fun z0 z1 => g_edf_Horizon_1 z0 z1)).bind fun x1 =>
    some x1
noncomputable def g_edf_demand_1 (a : Int) (b : ShapeT) (c0 : Int) : Option Int :=
  bif (decide (c0 < b.deadline)) then
    some a
  else
    bif (b.period == 0) then
      none
    else
      some (w64 (a + (w64 (b.total * (w64 ((w64 (Int.tdiv (w64 (c0 - b.deadline)) b.period)) + 1))))))
noncomputable def g_edf_demand (a : (List ShapeT)) (b : Int) : Option Int :=
  (g_edf_fold a (fun z0 z1 => g_edf_demand_1 z0 z1 b)).bind fun x0 =>
  some x0
noncomputable def g_edf_block_1 (a : Int) (b : ShapeT) (c0 : Int) : Option Int :=
  bif (decide (c0 < b.deadline)) then
    some (bif decide (a < b.most) then b.most else a)
  else
    some a
noncomputable def g_edf_block (a : (List ShapeT)) (b : Int) : Option Int :=
  (g_edf_fold a (fun z0 z1 => g_edf_block_1 z0 z1 b)).bind fun x0 =>
  some x0
noncomputable def g_edf_Fits_L0 (a : (List ShapeT)) (x2 : ShapeT) (s3 : Int) : Option (Int ⊕ (Unit ⊕ Unit)) :=
  (g_edf_Horizon a).bind fun x4 =>
  bif (decide (s3 ≤ x4)) then
    (g_edf_demand a s3).bind fun x5 =>
    (g_edf_block a s3).bind fun x6 =>
    bif (decide (s3 < (w64 (x5 + x6)))) then
      some (.inr (.inl ()))
    else
      some (.inl (w64 (s3 + x2.period)))
  else
    some (.inr (.inr ()))

noncomputable def g_edf_Fits_L1 (a : (List ShapeT)) (s1 : Int) : Option (Int ⊕ (Unit ⊕ Unit)) :=
  bif (decide (s1 < (a.length : Int))) then
    (getI a s1).bind fun x2 =>
    (lp (g_edf_Fits_L0 a x2) x2.deadline).bind fun r7 =>
    match r7 with
    | (.inl r7) =>
      some (.inr (.inl ()))
    | (.inr r7) =>
      some (.inl (w64 (s1 + 1)))
  else
    some (.inr (.inr ()))

noncomputable def g_edf_Fits (a : (List ShapeT)) : Option Bool :=
  (g_edf_Check a).bind fun x0 =>
  bif (x0 != 0) then
    some false
  else
    (lp (g_edf_Fits_L1 a) 0).bind fun r8 =>
    match r8 with
    | (.inl r8) =>
      some false
    | (.inr r8) =>
      some true
noncomputable def g_part_Place_1 (a : Int) (m1_0 : Int) (m2_0 : (List ShapeT)) (m3_0 : (List Int)) : Option (Unit ⊕ Unit) :=
  (getI m3_0 m1_0).bind fun x0 =>
  (g_part_On m2_0 (List.set m3_0 m1_0.toNat a) a).bind fun x1 =>
  (g_edf_Fits x1).bind fun x2 =>
  bif x2 then
    some (.inl ())
  else
    some (.inr ())
noncomputable def g_part_Place_L0 (a : (List ShapeT)) (s2 : Int × (List Int)) : Option ((Int × (List Int)) ⊕ (List Int)) :=
  bif (decide (s2.1 < (List.length (List.replicate (a.length : Int).toNat (0 : Int)) : Int))) then
    (getI s2.2 s2.1).bind fun x3 =>
    some (.inl ((w64 (s2.1 + 1)), (List.set s2.2 s2.1.toNat (-1))))
  else
    some (.inr s2.2)

noncomputable def g_part_Place_L1 (a : (List ShapeT)) (b : Int) (x7 : Int) (s8 : Int × (List Int)) : Option ((Int × (List Int)) ⊕ ((List Int) ⊕ (List Int))) :=
  bif (decide (s8.1 < b)) then
    (g_part_Place_1 s8.1 x7 a s8.2).bind fun x9 =>
    match x9 with
    | (.inl x9) =>
      some (.inr (.inl (List.set s8.2 x7.toNat s8.1)))
    | (.inr x9) =>
      some (.inl ((w64 (s8.1 + 1)), (List.set s8.2 x7.toNat s8.1)))
  else
    some (.inr (.inr s8.2))

noncomputable def g_part_Place_L2 (a : (List ShapeT)) (b : Int) (x5 : (List Int)) (s6 : Int × (List Int)) : Option ((Int × (List Int)) ⊕ ((List Int) ⊕ (List Int))) :=
  bif (decide (s6.1 < (x5.length : Int))) then
    (getI x5 s6.1).bind fun x7 =>
    (lp (g_part_Place_L1 a b x7) (0, s6.2)).bind fun r10 =>
    match r10 with
    | (.inl r10) =>
      some (.inl ((w64 (s6.1 + 1)), r10))
    | (.inr r10) =>
      some (.inr (.inl r10))
  else
    some (.inr (.inr s6.2))

noncomputable def g_part_Place (a : (List ShapeT)) (b : Int) : Option ((List Int) × Int) :=
  (g_edf_Check a).bind fun x0 =>
  bif (x0 != 0) then
    some (([] : List Int), 160)
  else
    (g_part_within b).bind fun x1 =>
    bif x1 then
      bif (decide (0 ≤ (a.length : Int)) && decide ((a.length : Int) ≤ lim) && decide ((a.length : Int) == (a.length : Int))) then
        (lp (g_part_Place_L0 a) (0, (List.replicate (a.length : Int).toNat (0 : Int)))).bind fun r4 =>
        (g_part_Order a).bind fun x5 =>
        (lp (g_part_Place_L2 a b x5) (0, r4)).bind fun r11 =>
        match r11 with
        | (.inl r11) =>
          some (([] : List Int), 161)
        | (.inr r11) =>
          some (r11, 0)
      else
        none
    else
      some (([] : List Int), 160)
noncomputable def g_part_Right_1 (a : Int) (b0 : Int) : Option Bool :=
  bif (decide (a < 0)) then
    some true
  else
    bif (decide (b0 ≤ a)) then
      some true
    else
      some false
noncomputable def g_slices_ContainsFunc_l_int_int (a : (List Int)) (b : (Int → Option Bool)) : Option Bool :=
  (g_slices_IndexFunc_l_int_int a b).bind fun x0 =>
  bif (decide (0 ≤ x0)) then
    some true
  else
    some false
noncomputable def g_part_Right_L0 (a : (List ShapeT)) (b : (List Int)) (c : Int) (s2 : Int) : Option (Int ⊕ (Unit ⊕ Unit)) :=
  bif (decide (s2 < c)) then
    (g_part_On a b s2).bind fun x3 =>
    (g_edf_Fits x3).bind fun x4 =>
    bif x4 then
      some (.inl (w64 (s2 + 1)))
    else
      some (.inr (.inl ()))
  else
    some (.inr (.inr ()))

noncomputable def g_part_Right (a : (List ShapeT)) (b : (List Int)) (c : Int) : Option Bool :=
  (g_part_within c).bind fun x0 =>
  bif x0 then
    bif ((b.length : Int) != (a.length : Int)) then
      some false
    else
      (g_slices_ContainsFunc_l_int_int b (fun z0 => g_part_Right_1 z0 c)).bind fun x1 =>
      bif x1 then
        some false
      else
        (lp (g_part_Right_L0 a b c) 0).bind fun r5 =>
        match r5 with
        | (.inl r5) =>
          some false
        | (.inr r5) =>
          some true
  else
    some false
noncomputable def g_law16_PartRight_L0 (a : (List ShapeT)) (b : Int) (x3 : ((List Int) × Int)) (s4 : Int) : Option (Int ⊕ (Unit ⊕ Unit)) :=
  bif (decide (s4 < b)) then
    (g_law15_Own a).bind fun x5 =>
    bif (Nat.ble (List.length x3.1) lim) then
      (g_part_On a x3.1 s4).bind fun x6 =>
      (g_edf_Fits x6).bind fun x7 =>
      bif x7 then
        some (.inl (w64 (s4 + 1)))
      else
        some (.inr (.inl ()))
    else
      none
  else
    some (.inr (.inr ()))

noncomputable def g_law16_PartRight (a : (List ShapeT)) (b : Int) : Option Bool :=
  g_law16_awake.bind fun x0 =>
  bif x0 then
    bif (decide (20 < (a.length : Int))) then
      g_law16_awake.bind fun x1 =>
      bif x1 then
        some true
      else
        some false
    else
      (g_law15_Own a).bind fun x2 =>
      (g_part_Place a b).bind fun x3 =>
      bif (x3.2 != 0) then
        bif ((x3.1.length : Int) == 0) then
          some true
        else
          some false
      else
        (lp (g_law16_PartRight_L0 a b x3) 0).bind fun r8 =>
        match r8 with
        | (.inl r8) =>
          some false
        | (.inr r8) =>
          bif ((x3.1.length : Int) == (a.length : Int)) then
            (g_law15_Own a).bind fun x9 =>
            bif (Nat.ble (List.length x3.1) lim) then
              (g_part_Right a x3.1 b).bind fun x10 =>
              bif x10 then
                some true
              else
                some false
            else
              none
          else
            some false
  else
    g_law16_awake.bind fun x11 =>
    bif x11 then
      some true
    else
      some false
noncomputable def g_law16_PartEnough_L0 (x10 : ((List Int) × Int)) (s11 : Int) : Option (Int ⊕ (Unit ⊕ Unit)) :=
  bif (decide (s11 < (x10.1.length : Int))) then
    (getI x10.1 s11).bind fun x12 =>
    bif (x12 != 0) then
      some (.inr (.inl ()))
    else
      some (.inl (w64 (s11 + 1)))
  else
    some (.inr (.inr ()))

noncomputable def g_law16_PartEnough (a : (List ShapeT)) (b : Int) : Option Bool :=
  g_law16_awake.bind fun x0 =>
  bif x0 then
    bif (decide (20 < (a.length : Int))) then
      g_law16_awake.bind fun x1 =>
      bif x1 then
        some true
      else
        some false
    else
      (g_law15_Own a).bind fun x2 =>
      (g_edf_Check a).bind fun x3 =>
      bif (x3 != 0) then
        g_law16_awake.bind fun x4 =>
        bif x4 then
          some true
        else
          some false
      else
        bif (decide (b < 0)) then
          g_law16_awake.bind fun x5 =>
          bif x5 then
            some true
          else
            some false
        else
          bif (decide (8 < b)) then
            g_law16_awake.bind fun x6 =>
            bif x6 then
              some true
            else
              some false
          else
            (g_law15_Own a).bind fun x7 =>
            (g_part_Place a b).bind fun x8 =>
            (g_law15_Own a).bind fun x9 =>
            (g_part_Place a 1).bind fun x10 =>
            (lp (g_law16_PartEnough_L0 x10) 0).bind fun r13 =>
            match r13 with
            | (.inl r13) =>
              some false
            | (.inr r13) =>
              bif (x8.2 == 0) then
                bif (x10.2 == 0) then
                  (g_law15_Own a).bind fun x14 =>
                  (g_edf_Fits a).bind fun x15 =>
                  bif x15 then
                    bif (x8.2 == 0) then
                      some true
                    else
                      bif (x8.2 == 161) then
                        some true
                      else
                        some false
                  else
                    some false
                else
                  (g_law15_Own a).bind fun x16 =>
                  (g_edf_Fits a).bind fun x17 =>
                  bif x17 then
                    some false
                  else
                    bif (x8.2 == 0) then
                      some true
                    else
                      bif (x8.2 == 161) then
                        some true
                      else
                        some false
              else
                bif (decide (b < (a.length : Int))) then
                  bif (x10.2 == 0) then
                    (g_law15_Own a).bind fun x18 =>
                    (g_edf_Fits a).bind fun x19 =>
                    bif x19 then
                      bif (x8.2 == 0) then
                        some true
                      else
                        bif (x8.2 == 161) then
                          some true
                        else
                          some false
                    else
                      some false
                  else
                    (g_law15_Own a).bind fun x20 =>
                    (g_edf_Fits a).bind fun x21 =>
                    bif x21 then
                      some false
                    else
                      bif (x8.2 == 0) then
                        some true
                      else
                        bif (x8.2 == 161) then
                          some true
                        else
                          some false
                else
                  some false
  else
    g_law16_awake.bind fun x22 =>
    bif x22 then
      some true
    else
      some false
noncomputable def g_ref02_Ints_L0 (a : (List Int)) (b : (List Int)) (s0 : Int) : Option (Int ⊕ (Unit ⊕ Unit)) :=
  bif (decide (s0 < (a.length : Int))) then
    (getI a s0).bind fun x1 =>
    (getI b s0).bind fun x2 =>
    bif (x1 != x2) then
      some (.inr (.inl ()))
    else
      some (.inl (w64 (s0 + 1)))
  else
    some (.inr (.inr ()))

noncomputable def g_ref02_Ints (a : (List Int)) (b : (List Int)) : Option Bool :=
  bif ((a.length : Int) != (b.length : Int)) then
    some false
  else
    (lp (g_ref02_Ints_L0 a b) 0).bind fun r3 =>
    match r3 with
    | (.inl r3) =>
      some false
    | (.inr r3) =>
      some true
noncomputable def g_law16_PartMore (a : (List ShapeT)) (b : Int) : Option Bool :=
  g_law16_awake.bind fun x0 =>
  bif x0 then
    bif (decide (20 < (a.length : Int))) then
      g_law16_awake.bind fun x1 =>
      bif x1 then
        some true
      else
        some false
    else
      bif (decide (b < 0)) then
        g_law16_awake.bind fun x2 =>
        bif x2 then
          some true
        else
          some false
      else
        bif (decide (8 ≤ b)) then
          g_law16_awake.bind fun x3 =>
          bif x3 then
            some true
          else
            some false
        else
          (g_law15_Own a).bind fun x4 =>
          (g_part_Place a b).bind fun x5 =>
          (g_law15_Own a).bind fun x6 =>
          (g_part_Place a (w64 (b + 1))).bind fun x7 =>
          bif (x5.2 != 0) then
            some true
          else
            bif (x7.2 == 0) then
              (g_ref02_Ints x5.1 x7.1).bind fun x8 =>
              bif x8 then
                some true
              else
                some false
            else
              some false
  else
    g_law16_awake.bind fun x9 =>
    bif x9 then
      some true
    else
      some false
noncomputable def g_ref04_Has_L0 (a : (List Int)) (b : Int) (s0 : Int) : Option (Int ⊕ (Unit ⊕ Unit)) :=
  bif (decide (s0 < (a.length : Int))) then
    (getI a s0).bind fun x1 =>
    bif (x1 == b) then
      some (.inr (.inl ()))
    else
      some (.inl (w64 (s0 + 1)))
  else
    some (.inr (.inr ()))

noncomputable def g_ref04_Has (a : (List Int)) (b : Int) : Option Bool :=
  (lp (g_ref04_Has_L0 a b) 0).bind fun r2 =>
  match r2 with
  | (.inl r2) =>
    some true
  | (.inr r2) =>
    some false
noncomputable def g_law16_PartOrder_L0 (a : (List ShapeT)) (x3 : (List Int)) (s4 : Int) : Option (Int ⊕ (Unit ⊕ Unit)) :=
  bif (decide (s4 < (x3.length : Int))) then
    (getI x3 s4).bind fun x5 =>
    bif (decide (x5 < 0)) then
      some (.inr (.inl ()))
    else
      bif (decide ((a.length : Int) ≤ x5)) then
        some (.inr (.inl ()))
      else
        bif (decide (0 ≤ s4)) then
          bif (Nat.ble s4.toNat (List.length x3)) then
            (g_ref04_Has (List.take s4.toNat x3) x5).bind fun x6 =>
            bif x6 then
              some (.inr (.inl ()))
            else
              bif (decide (0 < s4)) then
                (getI x3 (w64 (s4 - 1))).bind fun x7 =>
                (getI a x7).bind fun x8 =>
                (getI a x5).bind fun x9 =>
                bif (decide (x8.total < x9.total)) then
                  some (.inr (.inl ()))
                else
                  bif (x8.total == x9.total) then
                    bif (decide (x5 < x7)) then
                      some (.inr (.inl ()))
                    else
                      some (.inl (w64 (s4 + 1)))
                  else
                    some (.inl (w64 (s4 + 1)))
              else
                some (.inl (w64 (s4 + 1)))
          else
            none
        else
          none
  else
    some (.inr (.inr ()))

noncomputable def g_law16_PartOrder (a : (List ShapeT)) : Option Bool :=
  g_law16_awake.bind fun x0 =>
  bif x0 then
    bif (decide (20 < (a.length : Int))) then
      g_law16_awake.bind fun x1 =>
      bif x1 then
        some true
      else
        some false
    else
      (g_law15_Own a).bind fun x2 =>
      (g_part_Order a).bind fun x3 =>
      (lp (g_law16_PartOrder_L0 a x3) 0).bind fun r10 =>
      match r10 with
      | (.inl r10) =>
        some false
      | (.inr r10) =>
        bif ((x3.length : Int) == (a.length : Int)) then
          some true
        else
          some false
  else
    g_law16_awake.bind fun x11 =>
    bif x11 then
      some true
    else
      some false
noncomputable def g_law16_PartFirst_L0 (x3 : ((List Int) × Int)) (s6 : Int × (List Int)) : Option ((Int × (List Int)) ⊕ (List Int)) :=
  bif (decide (s6.1 < (x3.1.length : Int))) then
    bif (Nat.ble (List.length s6.2 + 1) lim) then
      some (.inl ((w64 (s6.1 + 1)), (s6.2 ++ [(-1)])))
    else
      none
  else
    some (.inr s6.2)

noncomputable def g_law16_PartFirst_L1 (a : (List ShapeT)) (x3 : ((List Int) × Int)) (x9 : Int) (s10 : Int × (List Int)) : Option ((Int × (List Int)) ⊕ ((List Int) ⊕ (List Int))) :=
  (getI x3.1 x9).bind fun x11 =>
  bif (decide (s10.1 < x11)) then
    (getI s10.2 x9).bind fun x12 =>
    (g_law15_Own a).bind fun x13 =>
    bif (Nat.ble (List.length (List.set s10.2 x9.toNat s10.1)) lim) then
      (g_part_On a (List.set s10.2 x9.toNat s10.1) s10.1).bind fun x14 =>
      (g_edf_Fits x14).bind fun x15 =>
      bif x15 then
        some (.inr (.inl (List.set s10.2 x9.toNat s10.1)))
      else
        some (.inl ((w64 (s10.1 + 1)), (List.set s10.2 x9.toNat s10.1)))
    else
      none
  else
    some (.inr (.inr s10.2))

noncomputable def g_law16_PartFirst_L2 (a : (List ShapeT)) (x3 : ((List Int) × Int)) (x5 : (List Int)) (s8 : Int × (List Int)) : Option ((Int × (List Int)) ⊕ (Unit ⊕ Unit)) :=
  bif (decide (s8.1 < (x5.length : Int))) then
    (getI x5 s8.1).bind fun x9 =>
    (lp (g_law16_PartFirst_L1 a x3 x9) (0, s8.2)).bind fun r16 =>
    match r16 with
    | (.inl r16) =>
      some (.inr (.inl ()))
    | (.inr r16) =>
      (getI x3.1 x9).bind fun x17 =>
      (getI r16 x9).bind fun x18 =>
      some (.inl ((w64 (s8.1 + 1)), (List.set r16 x9.toNat x17)))
  else
    some (.inr (.inr ()))

noncomputable def g_law16_PartFirst (a : (List ShapeT)) (b : Int) : Option Bool :=
  g_law16_awake.bind fun x0 =>
  bif x0 then
    bif (decide (20 < (a.length : Int))) then
      g_law16_awake.bind fun x1 =>
      bif x1 then
        some true
      else
        some false
    else
      (g_law15_Own a).bind fun x2 =>
      (g_part_Place a b).bind fun x3 =>
      bif (x3.2 != 0) then
        some true
      else
        bif ((a.length : Int) == 0) then
          some true
        else
          (g_law15_Own a).bind fun x4 =>
          (g_part_Order a).bind fun x5 =>
          (lp (g_law16_PartFirst_L0 x3) (0, ([] : (List Int)))).bind fun r7 =>
          (lp (g_law16_PartFirst_L2 a x3 x5) (0, r7)).bind fun r19 =>
          match r19 with
          | (.inl r19) =>
            some false
          | (.inr r19) =>
            (getI x5 0).bind fun x20 =>
            (getI x3.1 x20).bind fun x21 =>
            bif (x21 == 0) then
              some true
            else
              some false
  else
    g_law16_awake.bind fun x22 =>
    bif x22 then
      some true
    else
      some false
noncomputable def g_law16_PartWider (a : (List ShapeT)) (b : (List Int)) (c : Int) (d : Int) : Option Bool :=
  g_law16_awake.bind fun x0 =>
  bif x0 then
    bif (decide (20 < (a.length : Int))) then
      g_law16_awake.bind fun x1 =>
      bif x1 then
        some true
      else
        some false
    else
      bif (decide (20 < (b.length : Int))) then
        g_law16_awake.bind fun x2 =>
        bif x2 then
          some true
        else
          some false
      else
        bif (decide (8 ≤ c)) then
          g_law16_awake.bind fun x3 =>
          bif x3 then
            some true
          else
            some false
        else
          (g_law15_Own a).bind fun x4 =>
          bif (Nat.ble (List.length b) lim) then
            (g_part_Right a b c).bind fun x5 =>
            bif x5 then
              (g_law15_Own a).bind fun x6 =>
              bif (Nat.ble (List.length b) lim) then
                (g_part_Right a b (w64 (c + 1))).bind fun x7 =>
                bif x7 then
                  bif (decide (d < 0)) then
                    some true
                  else
                    bif (decide ((a.length : Int) ≤ d)) then
                      some true
                    else
                      bif (decide ((b.length : Int) ≤ d)) then
                        some true
                      else
                        (g_law15_Own a).bind fun x8 =>
                        bif (Nat.ble (List.length b) lim) then
                          bif (decide (0 ≤ d)) then
                            bif (Nat.ble d.toNat (List.length a)) then
                              bif (decide (0 ≤ (w64 (d + 1)))) then
                                bif (Nat.ble (w64 (d + 1)).toNat (List.length a)) then
                                  bif (Nat.ble (0 + d.toNat + List.length (List.take ((List.length a) - (w64 (d + 1)).toNat) (List.drop (w64 (d + 1)).toNat a))) (List.length a)) then
                                    bif (decide (0 ≤ d)) then
                                      bif (Nat.ble d.toNat (List.length b)) then
                                        bif (decide (0 ≤ (w64 (d + 1)))) then
                                          bif (Nat.ble (w64 (d + 1)).toNat (List.length b)) then
                                            bif (Nat.ble (0 + d.toNat + List.length (List.take ((List.length b) - (w64 (d + 1)).toNat) (List.drop (w64 (d + 1)).toNat b))) (List.length b)) then
                                              (g_part_Right (List.take (d.toNat + List.length (List.take ((List.length a) - (w64 (d + 1)).toNat) (List.drop (w64 (d + 1)).toNat a))) (List.drop 0 (List.take (0 + d.toNat) a ++ ((List.take ((List.length a) - (w64 (d + 1)).toNat) (List.drop (w64 (d + 1)).toNat a)) ++ List.drop (0 + d.toNat + List.length (List.take ((List.length a) - (w64 (d + 1)).toNat) (List.drop (w64 (d + 1)).toNat a))) a)))) (List.take (d.toNat + List.length (List.take ((List.length b) - (w64 (d + 1)).toNat) (List.drop (w64 (d + 1)).toNat b))) (List.drop 0 (List.take (0 + d.toNat) b ++ ((List.take ((List.length b) - (w64 (d + 1)).toNat) (List.drop (w64 (d + 1)).toNat b)) ++ List.drop (0 + d.toNat + List.length (List.take ((List.length b) - (w64 (d + 1)).toNat) (List.drop (w64 (d + 1)).toNat b))) b)))) c).bind fun x9 =>
                                              bif x9 then
                                                some true
                                              else
                                                some false
                                            else
                                              none
                                          else
                                            none
                                        else
                                          none
                                      else
                                        none
                                    else
                                      none
                                  else
                                    none
                                else
                                  none
                              else
                                none
                            else
                              none
                          else
                            none
                        else
                          none
                else
                  some false
              else
                none
            else
              g_law16_awake.bind fun x10 =>
              bif x10 then
                some true
              else
                some false
          else
            none
  else
    g_law16_awake.bind fun x11 =>
    bif x11 then
      some true
    else
      some false
end Go.Proofs.YtakebhleglnpjaaDoor
