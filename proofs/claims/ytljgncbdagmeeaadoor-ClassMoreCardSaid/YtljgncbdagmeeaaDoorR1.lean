/- What the functions say, as plain text. -/
import Derived.Test.YtljgncbdagmeeaaDoorE35
namespace Go.Proofs.YtljgncbdagmeeaaDoor
open Go Go.Proofs.YtljgncbdagmeeaaDoorE
set_option linter.unusedVariables false

structure ShapeT where
  total : Int
  long : Int
  most : Int
  deadline : Int
  period : Int
  deriving DecidableEq
abbrev shapeD (x : ShapeT) : D := (D.agg [(intD x.total), (intD x.long), (intD x.most), (intD x.deadline), (intD x.period)])
structure HeavyT where
  shape : ShapeT
  deriving DecidableEq
abbrev heavyD (x : HeavyT) : D := (D.agg [(intD x.shape.total), (intD x.shape.long), (intD x.shape.most), (intD x.shape.deadline), (intD x.shape.period)])
structure VerdictT where
  cores : Int
  e : Int
  deriving DecidableEq
abbrev verdictD (x : VerdictT) : D := (D.agg [(intD x.cores), (intD x.e)])
structure LightT where
  shape : ShapeT
  deriving DecidableEq
abbrev lightD (x : LightT) : D := (D.agg [(intD x.shape.total), (intD x.shape.long), (intD x.shape.most), (intD x.shape.deadline), (intD x.shape.period)])
def g_law14_awake : Option Bool := some true
noncomputable def g_num_Check (a : Int) : Option Int :=
  bif (decide (a < 0)) then
    some 10
  else
    bif (decide (1099511627775 < a)) then
      some 11
    else
      some 0
noncomputable def g_math_bits_OnesCount64 (a : Int) : Option Int :=
  some (IntKind.i64.wrap (BitVec.ofInt IntKind.i64.bits (w64 (IntKind.u64.wrap ((IntKind.u64.wrap ((IntKind.u64.wrap ((IntKind.u64.wrap (BitVec.ofInt IntKind.u64.bits (IntKind.u64.wrap ((Int.fdiv (IntKind.u64.wrap ((IntKind.u64.wrap (BitVec.ofInt IntKind.u64.bits (Int.fdiv (IntKind.u64.wrap ((IntKind.u64.wrap (BitVec.ofInt IntKind.u64.bits (Int.fdiv a (2 ^ 1)) &&& BitVec.ofInt IntKind.u64.bits 6148914691236517205).toNat) + (IntKind.u64.wrap (BitVec.ofInt IntKind.u64.bits a &&& BitVec.ofInt IntKind.u64.bits 6148914691236517205).toNat))) (2 ^ 2)) &&& BitVec.ofInt IntKind.u64.bits 3689348814741910323).toNat) + (IntKind.u64.wrap (BitVec.ofInt IntKind.u64.bits (IntKind.u64.wrap ((IntKind.u64.wrap (BitVec.ofInt IntKind.u64.bits (Int.fdiv a (2 ^ 1)) &&& BitVec.ofInt IntKind.u64.bits 6148914691236517205).toNat) + (IntKind.u64.wrap (BitVec.ofInt IntKind.u64.bits a &&& BitVec.ofInt IntKind.u64.bits 6148914691236517205).toNat))) &&& BitVec.ofInt IntKind.u64.bits 3689348814741910323).toNat))) (2 ^ 4)) + (IntKind.u64.wrap ((IntKind.u64.wrap (BitVec.ofInt IntKind.u64.bits (Int.fdiv (IntKind.u64.wrap ((IntKind.u64.wrap (BitVec.ofInt IntKind.u64.bits (Int.fdiv a (2 ^ 1)) &&& BitVec.ofInt IntKind.u64.bits 6148914691236517205).toNat) + (IntKind.u64.wrap (BitVec.ofInt IntKind.u64.bits a &&& BitVec.ofInt IntKind.u64.bits 6148914691236517205).toNat))) (2 ^ 2)) &&& BitVec.ofInt IntKind.u64.bits 3689348814741910323).toNat) + (IntKind.u64.wrap (BitVec.ofInt IntKind.u64.bits (IntKind.u64.wrap ((IntKind.u64.wrap (BitVec.ofInt IntKind.u64.bits (Int.fdiv a (2 ^ 1)) &&& BitVec.ofInt IntKind.u64.bits 6148914691236517205).toNat) + (IntKind.u64.wrap (BitVec.ofInt IntKind.u64.bits a &&& BitVec.ofInt IntKind.u64.bits 6148914691236517205).toNat))) &&& BitVec.ofInt IntKind.u64.bits 3689348814741910323).toNat))))) &&& BitVec.ofInt IntKind.u64.bits 1085102592571150095).toNat) + (Int.fdiv (IntKind.u64.wrap (BitVec.ofInt IntKind.u64.bits (IntKind.u64.wrap ((Int.fdiv (IntKind.u64.wrap ((IntKind.u64.wrap (BitVec.ofInt IntKind.u64.bits (Int.fdiv (IntKind.u64.wrap ((IntKind.u64.wrap (BitVec.ofInt IntKind.u64.bits (Int.fdiv a (2 ^ 1)) &&& BitVec.ofInt IntKind.u64.bits 6148914691236517205).toNat) + (IntKind.u64.wrap (BitVec.ofInt IntKind.u64.bits a &&& BitVec.ofInt IntKind.u64.bits 6148914691236517205).toNat))) (2 ^ 2)) &&& BitVec.ofInt IntKind.u64.bits 3689348814741910323).toNat) + (IntKind.u64.wrap (BitVec.ofInt IntKind.u64.bits (IntKind.u64.wrap ((IntKind.u64.wrap (BitVec.ofInt IntKind.u64.bits (Int.fdiv a (2 ^ 1)) &&& BitVec.ofInt IntKind.u64.bits 6148914691236517205).toNat) + (IntKind.u64.wrap (BitVec.ofInt IntKind.u64.bits a &&& BitVec.ofInt IntKind.u64.bits 6148914691236517205).toNat))) &&& BitVec.ofInt IntKind.u64.bits 3689348814741910323).toNat))) (2 ^ 4)) + (IntKind.u64.wrap ((IntKind.u64.wrap (BitVec.ofInt IntKind.u64.bits (Int.fdiv (IntKind.u64.wrap ((IntKind.u64.wrap (BitVec.ofInt IntKind.u64.bits (Int.fdiv a (2 ^ 1)) &&& BitVec.ofInt IntKind.u64.bits 6148914691236517205).toNat) + (IntKind.u64.wrap (BitVec.ofInt IntKind.u64.bits a &&& BitVec.ofInt IntKind.u64.bits 6148914691236517205).toNat))) (2 ^ 2)) &&& BitVec.ofInt IntKind.u64.bits 3689348814741910323).toNat) + (IntKind.u64.wrap (BitVec.ofInt IntKind.u64.bits (IntKind.u64.wrap ((IntKind.u64.wrap (BitVec.ofInt IntKind.u64.bits (Int.fdiv a (2 ^ 1)) &&& BitVec.ofInt IntKind.u64.bits 6148914691236517205).toNat) + (IntKind.u64.wrap (BitVec.ofInt IntKind.u64.bits a &&& BitVec.ofInt IntKind.u64.bits 6148914691236517205).toNat))) &&& BitVec.ofInt IntKind.u64.bits 3689348814741910323).toNat))))) &&& BitVec.ofInt IntKind.u64.bits 1085102592571150095).toNat) (2 ^ 8)))) + (Int.fdiv (IntKind.u64.wrap ((IntKind.u64.wrap (BitVec.ofInt IntKind.u64.bits (IntKind.u64.wrap ((Int.fdiv (IntKind.u64.wrap ((IntKind.u64.wrap (BitVec.ofInt IntKind.u64.bits (Int.fdiv (IntKind.u64.wrap ((IntKind.u64.wrap (BitVec.ofInt IntKind.u64.bits (Int.fdiv a (2 ^ 1)) &&& BitVec.ofInt IntKind.u64.bits 6148914691236517205).toNat) + (IntKind.u64.wrap (BitVec.ofInt IntKind.u64.bits a &&& BitVec.ofInt IntKind.u64.bits 6148914691236517205).toNat))) (2 ^ 2)) &&& BitVec.ofInt IntKind.u64.bits 3689348814741910323).toNat) + (IntKind.u64.wrap (BitVec.ofInt IntKind.u64.bits (IntKind.u64.wrap ((IntKind.u64.wrap (BitVec.ofInt IntKind.u64.bits (Int.fdiv a (2 ^ 1)) &&& BitVec.ofInt IntKind.u64.bits 6148914691236517205).toNat) + (IntKind.u64.wrap (BitVec.ofInt IntKind.u64.bits a &&& BitVec.ofInt IntKind.u64.bits 6148914691236517205).toNat))) &&& BitVec.ofInt IntKind.u64.bits 3689348814741910323).toNat))) (2 ^ 4)) + (IntKind.u64.wrap ((IntKind.u64.wrap (BitVec.ofInt IntKind.u64.bits (Int.fdiv (IntKind.u64.wrap ((IntKind.u64.wrap (BitVec.ofInt IntKind.u64.bits (Int.fdiv a (2 ^ 1)) &&& BitVec.ofInt IntKind.u64.bits 6148914691236517205).toNat) + (IntKind.u64.wrap (BitVec.ofInt IntKind.u64.bits a &&& BitVec.ofInt IntKind.u64.bits 6148914691236517205).toNat))) (2 ^ 2)) &&& BitVec.ofInt IntKind.u64.bits 3689348814741910323).toNat) + (IntKind.u64.wrap (BitVec.ofInt IntKind.u64.bits (IntKind.u64.wrap ((IntKind.u64.wrap (BitVec.ofInt IntKind.u64.bits (Int.fdiv a (2 ^ 1)) &&& BitVec.ofInt IntKind.u64.bits 6148914691236517205).toNat) + (IntKind.u64.wrap (BitVec.ofInt IntKind.u64.bits a &&& BitVec.ofInt IntKind.u64.bits 6148914691236517205).toNat))) &&& BitVec.ofInt IntKind.u64.bits 3689348814741910323).toNat))))) &&& BitVec.ofInt IntKind.u64.bits 1085102592571150095).toNat) + (Int.fdiv (IntKind.u64.wrap (BitVec.ofInt IntKind.u64.bits (IntKind.u64.wrap ((Int.fdiv (IntKind.u64.wrap ((IntKind.u64.wrap (BitVec.ofInt IntKind.u64.bits (Int.fdiv (IntKind.u64.wrap ((IntKind.u64.wrap (BitVec.ofInt IntKind.u64.bits (Int.fdiv a (2 ^ 1)) &&& BitVec.ofInt IntKind.u64.bits 6148914691236517205).toNat) + (IntKind.u64.wrap (BitVec.ofInt IntKind.u64.bits a &&& BitVec.ofInt IntKind.u64.bits 6148914691236517205).toNat))) (2 ^ 2)) &&& BitVec.ofInt IntKind.u64.bits 3689348814741910323).toNat) + (IntKind.u64.wrap (BitVec.ofInt IntKind.u64.bits (IntKind.u64.wrap ((IntKind.u64.wrap (BitVec.ofInt IntKind.u64.bits (Int.fdiv a (2 ^ 1)) &&& BitVec.ofInt IntKind.u64.bits 6148914691236517205).toNat) + (IntKind.u64.wrap (BitVec.ofInt IntKind.u64.bits a &&& BitVec.ofInt IntKind.u64.bits 6148914691236517205).toNat))) &&& BitVec.ofInt IntKind.u64.bits 3689348814741910323).toNat))) (2 ^ 4)) + (IntKind.u64.wrap ((IntKind.u64.wrap (BitVec.ofInt IntKind.u64.bits (Int.fdiv (IntKind.u64.wrap ((IntKind.u64.wrap (BitVec.ofInt IntKind.u64.bits (Int.fdiv a (2 ^ 1)) &&& BitVec.ofInt IntKind.u64.bits 6148914691236517205).toNat) + (IntKind.u64.wrap (BitVec.ofInt IntKind.u64.bits a &&& BitVec.ofInt IntKind.u64.bits 6148914691236517205).toNat))) (2 ^ 2)) &&& BitVec.ofInt IntKind.u64.bits 3689348814741910323).toNat) + (IntKind.u64.wrap (BitVec.ofInt IntKind.u64.bits (IntKind.u64.wrap ((IntKind.u64.wrap (BitVec.ofInt IntKind.u64.bits (Int.fdiv a (2 ^ 1)) &&& BitVec.ofInt IntKind.u64.bits 6148914691236517205).toNat) + (IntKind.u64.wrap (BitVec.ofInt IntKind.u64.bits a &&& BitVec.ofInt IntKind.u64.bits 6148914691236517205).toNat))) &&& BitVec.ofInt IntKind.u64.bits 3689348814741910323).toNat))))) &&& BitVec.ofInt IntKind.u64.bits 1085102592571150095).toNat) (2 ^ 8)))) (2 ^ 16)))) + (Int.fdiv (IntKind.u64.wrap ((IntKind.u64.wrap ((IntKind.u64.wrap (BitVec.ofInt IntKind.u64.bits (IntKind.u64.wrap ((Int.fdiv (IntKind.u64.wrap ((IntKind.u64.wrap (BitVec.ofInt IntKind.u64.bits (Int.fdiv (IntKind.u64.wrap ((IntKind.u64.wrap (BitVec.ofInt IntKind.u64.bits (Int.fdiv a (2 ^ 1)) &&& BitVec.ofInt IntKind.u64.bits 6148914691236517205).toNat) + (IntKind.u64.wrap (BitVec.ofInt IntKind.u64.bits a &&& BitVec.ofInt IntKind.u64.bits 6148914691236517205).toNat))) (2 ^ 2)) &&& BitVec.ofInt IntKind.u64.bits 3689348814741910323).toNat) + (IntKind.u64.wrap (BitVec.ofInt IntKind.u64.bits (IntKind.u64.wrap ((IntKind.u64.wrap (BitVec.ofInt IntKind.u64.bits (Int.fdiv a (2 ^ 1)) &&& BitVec.ofInt IntKind.u64.bits 6148914691236517205).toNat) + (IntKind.u64.wrap (BitVec.ofInt IntKind.u64.bits a &&& BitVec.ofInt IntKind.u64.bits 6148914691236517205).toNat))) &&& BitVec.ofInt IntKind.u64.bits 3689348814741910323).toNat))) (2 ^ 4)) + (IntKind.u64.wrap ((IntKind.u64.wrap (BitVec.ofInt IntKind.u64.bits (Int.fdiv (IntKind.u64.wrap ((IntKind.u64.wrap (BitVec.ofInt IntKind.u64.bits (Int.fdiv a (2 ^ 1)) &&& BitVec.ofInt IntKind.u64.bits 6148914691236517205).toNat) + (IntKind.u64.wrap (BitVec.ofInt IntKind.u64.bits a &&& BitVec.ofInt IntKind.u64.bits 6148914691236517205).toNat))) (2 ^ 2)) &&& BitVec.ofInt IntKind.u64.bits 3689348814741910323).toNat) + (IntKind.u64.wrap (BitVec.ofInt IntKind.u64.bits (IntKind.u64.wrap ((IntKind.u64.wrap (BitVec.ofInt IntKind.u64.bits (Int.fdiv a (2 ^ 1)) &&& BitVec.ofInt IntKind.u64.bits 6148914691236517205).toNat) + (IntKind.u64.wrap (BitVec.ofInt IntKind.u64.bits a &&& BitVec.ofInt IntKind.u64.bits 6148914691236517205).toNat))) &&& BitVec.ofInt IntKind.u64.bits 3689348814741910323).toNat))))) &&& BitVec.ofInt IntKind.u64.bits 1085102592571150095).toNat) + (Int.fdiv (IntKind.u64.wrap (BitVec.ofInt IntKind.u64.bits (IntKind.u64.wrap ((Int.fdiv (IntKind.u64.wrap ((IntKind.u64.wrap (BitVec.ofInt IntKind.u64.bits (Int.fdiv (IntKind.u64.wrap ((IntKind.u64.wrap (BitVec.ofInt IntKind.u64.bits (Int.fdiv a (2 ^ 1)) &&& BitVec.ofInt IntKind.u64.bits 6148914691236517205).toNat) + (IntKind.u64.wrap (BitVec.ofInt IntKind.u64.bits a &&& BitVec.ofInt IntKind.u64.bits 6148914691236517205).toNat))) (2 ^ 2)) &&& BitVec.ofInt IntKind.u64.bits 3689348814741910323).toNat) + (IntKind.u64.wrap (BitVec.ofInt IntKind.u64.bits (IntKind.u64.wrap ((IntKind.u64.wrap (BitVec.ofInt IntKind.u64.bits (Int.fdiv a (2 ^ 1)) &&& BitVec.ofInt IntKind.u64.bits 6148914691236517205).toNat) + (IntKind.u64.wrap (BitVec.ofInt IntKind.u64.bits a &&& BitVec.ofInt IntKind.u64.bits 6148914691236517205).toNat))) &&& BitVec.ofInt IntKind.u64.bits 3689348814741910323).toNat))) (2 ^ 4)) + (IntKind.u64.wrap ((IntKind.u64.wrap (BitVec.ofInt IntKind.u64.bits (Int.fdiv (IntKind.u64.wrap ((IntKind.u64.wrap (BitVec.ofInt IntKind.u64.bits (Int.fdiv a (2 ^ 1)) &&& BitVec.ofInt IntKind.u64.bits 6148914691236517205).toNat) + (IntKind.u64.wrap (BitVec.ofInt IntKind.u64.bits a &&& BitVec.ofInt IntKind.u64.bits 6148914691236517205).toNat))) (2 ^ 2)) &&& BitVec.ofInt IntKind.u64.bits 3689348814741910323).toNat) + (IntKind.u64.wrap (BitVec.ofInt IntKind.u64.bits (IntKind.u64.wrap ((IntKind.u64.wrap (BitVec.ofInt IntKind.u64.bits (Int.fdiv a (2 ^ 1)) &&& BitVec.ofInt IntKind.u64.bits 6148914691236517205).toNat) + (IntKind.u64.wrap (BitVec.ofInt IntKind.u64.bits a &&& BitVec.ofInt IntKind.u64.bits 6148914691236517205).toNat))) &&& BitVec.ofInt IntKind.u64.bits 3689348814741910323).toNat))))) &&& BitVec.ofInt IntKind.u64.bits 1085102592571150095).toNat) (2 ^ 8)))) + (Int.fdiv (IntKind.u64.wrap ((IntKind.u64.wrap (BitVec.ofInt IntKind.u64.bits (IntKind.u64.wrap ((Int.fdiv (IntKind.u64.wrap ((IntKind.u64.wrap (BitVec.ofInt IntKind.u64.bits (Int.fdiv (IntKind.u64.wrap ((IntKind.u64.wrap (BitVec.ofInt IntKind.u64.bits (Int.fdiv a (2 ^ 1)) &&& BitVec.ofInt IntKind.u64.bits 6148914691236517205).toNat) + (IntKind.u64.wrap (BitVec.ofInt IntKind.u64.bits a &&& BitVec.ofInt IntKind.u64.bits 6148914691236517205).toNat))) (2 ^ 2)) &&& BitVec.ofInt IntKind.u64.bits 3689348814741910323).toNat) + (IntKind.u64.wrap (BitVec.ofInt IntKind.u64.bits (IntKind.u64.wrap ((IntKind.u64.wrap (BitVec.ofInt IntKind.u64.bits (Int.fdiv a (2 ^ 1)) &&& BitVec.ofInt IntKind.u64.bits 6148914691236517205).toNat) + (IntKind.u64.wrap (BitVec.ofInt IntKind.u64.bits a &&& BitVec.ofInt IntKind.u64.bits 6148914691236517205).toNat))) &&& BitVec.ofInt IntKind.u64.bits 3689348814741910323).toNat))) (2 ^ 4)) + (IntKind.u64.wrap ((IntKind.u64.wrap (BitVec.ofInt IntKind.u64.bits (Int.fdiv (IntKind.u64.wrap ((IntKind.u64.wrap (BitVec.ofInt IntKind.u64.bits (Int.fdiv a (2 ^ 1)) &&& BitVec.ofInt IntKind.u64.bits 6148914691236517205).toNat) + (IntKind.u64.wrap (BitVec.ofInt IntKind.u64.bits a &&& BitVec.ofInt IntKind.u64.bits 6148914691236517205).toNat))) (2 ^ 2)) &&& BitVec.ofInt IntKind.u64.bits 3689348814741910323).toNat) + (IntKind.u64.wrap (BitVec.ofInt IntKind.u64.bits (IntKind.u64.wrap ((IntKind.u64.wrap (BitVec.ofInt IntKind.u64.bits (Int.fdiv a (2 ^ 1)) &&& BitVec.ofInt IntKind.u64.bits 6148914691236517205).toNat) + (IntKind.u64.wrap (BitVec.ofInt IntKind.u64.bits a &&& BitVec.ofInt IntKind.u64.bits 6148914691236517205).toNat))) &&& BitVec.ofInt IntKind.u64.bits 3689348814741910323).toNat))))) &&& BitVec.ofInt IntKind.u64.bits 1085102592571150095).toNat) + (Int.fdiv (IntKind.u64.wrap (BitVec.ofInt IntKind.u64.bits (IntKind.u64.wrap ((Int.fdiv (IntKind.u64.wrap ((IntKind.u64.wrap (BitVec.ofInt IntKind.u64.bits (Int.fdiv (IntKind.u64.wrap ((IntKind.u64.wrap (BitVec.ofInt IntKind.u64.bits (Int.fdiv a (2 ^ 1)) &&& BitVec.ofInt IntKind.u64.bits 6148914691236517205).toNat) + (IntKind.u64.wrap (BitVec.ofInt IntKind.u64.bits a &&& BitVec.ofInt IntKind.u64.bits 6148914691236517205).toNat))) (2 ^ 2)) &&& BitVec.ofInt IntKind.u64.bits 3689348814741910323).toNat) + (IntKind.u64.wrap (BitVec.ofInt IntKind.u64.bits (IntKind.u64.wrap ((IntKind.u64.wrap (BitVec.ofInt IntKind.u64.bits (Int.fdiv a (2 ^ 1)) &&& BitVec.ofInt IntKind.u64.bits 6148914691236517205).toNat) + (IntKind.u64.wrap (BitVec.ofInt IntKind.u64.bits a &&& BitVec.ofInt IntKind.u64.bits 6148914691236517205).toNat))) &&& BitVec.ofInt IntKind.u64.bits 3689348814741910323).toNat))) (2 ^ 4)) + (IntKind.u64.wrap ((IntKind.u64.wrap (BitVec.ofInt IntKind.u64.bits (Int.fdiv (IntKind.u64.wrap ((IntKind.u64.wrap (BitVec.ofInt IntKind.u64.bits (Int.fdiv a (2 ^ 1)) &&& BitVec.ofInt IntKind.u64.bits 6148914691236517205).toNat) + (IntKind.u64.wrap (BitVec.ofInt IntKind.u64.bits a &&& BitVec.ofInt IntKind.u64.bits 6148914691236517205).toNat))) (2 ^ 2)) &&& BitVec.ofInt IntKind.u64.bits 3689348814741910323).toNat) + (IntKind.u64.wrap (BitVec.ofInt IntKind.u64.bits (IntKind.u64.wrap ((IntKind.u64.wrap (BitVec.ofInt IntKind.u64.bits (Int.fdiv a (2 ^ 1)) &&& BitVec.ofInt IntKind.u64.bits 6148914691236517205).toNat) + (IntKind.u64.wrap (BitVec.ofInt IntKind.u64.bits a &&& BitVec.ofInt IntKind.u64.bits 6148914691236517205).toNat))) &&& BitVec.ofInt IntKind.u64.bits 3689348814741910323).toNat))))) &&& BitVec.ofInt IntKind.u64.bits 1085102592571150095).toNat) (2 ^ 8)))) (2 ^ 16)))) (2 ^ 32))))) &&& BitVec.ofInt IntKind.i64.bits 127).toNat)
noncomputable def g_math_bits_OnesCount (a : Int) : Option Int :=
  (g_math_bits_OnesCount64 a).bind fun x0 =>
  some x0
def tz64tab : List Int := [0, 1, 56, 2, 57, 49, 28, 3, 61, 58, 42, 50, 38, 29, 17, 4, 62, 47, 59, 36, 45, 43, 51, 22, 53, 39, 33, 30, 24, 18, 12, 5, 63, 55, 48, 27, 60, 41, 37, 16, 46, 35, 44, 21, 52, 32, 23, 11, 54, 26, 40, 15, 34, 20, 31, 10, 25, 14, 19, 9, 13, 8, 7, 6]
def g_math_bits_TrailingZeros64 (a : Int) : Option Int := some (bif a == 0 then 64 else w64 (tz64tab.getD (Int.fdiv (IntKind.u64.wrap ((IntKind.u64.wrap (BitVec.ofInt IntKind.u64.bits a &&& BitVec.ofInt IntKind.u64.bits (IntKind.u64.wrap (0 - a))).toNat) * 285870213051353865)) (2 ^ (min (Int.toNat 58) IntKind.u64.bits))).toNat 0))
noncomputable def g_math_bits_TrailingZeros (a : Int) : Option Int :=
  (g_math_bits_TrailingZeros64 a).bind fun x0 =>
  some x0
noncomputable def g_num_Two (a : Int) : Option (Int × Bool) :=
  (g_num_Check a).bind fun x0 =>
  bif (x0 != 0) then
    some (0, false)
  else
    (g_math_bits_OnesCount (IntKind.u64.wrap a)).bind fun x1 =>
    bif (x1 != 1) then
      some (0, false)
    else
      (g_math_bits_TrailingZeros (IntKind.u64.wrap a)).bind fun x2 =>
      some (x2, true)
noncomputable def g_class_Check_1 (a : Int) (b : Int) : Option Bool :=
  bif (decide (1 ≤ a)) then
    bif (decide (a ≤ b)) then
      some true
    else
      some false
  else
    some false
noncomputable def g_class_Check (a : ShapeT) : Option Int :=
  (g_num_Two a.period).bind fun x0 =>
  bif x0.2 then
    bif (decide (4096 < a.period)) then
      some 140
    else
      (g_class_Check_1 a.deadline a.period).bind fun x1 =>
      bif x1 then
        (g_class_Check_1 a.total 4096).bind fun x2 =>
        bif x2 then
          (g_class_Check_1 a.long a.total).bind fun x3 =>
          bif x3 then
            (g_class_Check_1 a.most a.long).bind fun x4 =>
            bif x4 then
              some 0
            else
              some 140
          else
            some 140
        else
          some 140
      else
        some 140
  else
    some 140
noncomputable def g_class_of (a : ShapeT) : Option (Unit ⊕ Unit) :=
  bif (decide (a.deadline < a.total)) then
    some (.inl ())
  else
    some (.inr ())
noncomputable def g_num_Up_1 (a0 : Int) : Option Int :=
  some (w64 (a0 - 1))
noncomputable def g_num_first_1 (a : Int) : Option Bool :=
  (g_num_Check a).bind fun x0 =>
  bif (x0 != 0) then
    some true
  else
    some false
noncomputable def g_slices_IndexFunc_l_int_int_L0 (a : (List Int)) (b : (Int → Option Bool)) (s0 : Int) : Option (Int ⊕ (Int ⊕ Unit)) :=
  bif (decide (s0 < (a.length : Int))) then
    (getI a s0).bind fun x1 =>
    (b x1).bind fun x2 =>
    bif x2 then
      some (.inr (.inl s0))
    else
      some (.inl (w64 (s0 + 1)))
  else
    some (.inr (.inr ()))

noncomputable def g_slices_IndexFunc_l_int_int (a : (List Int)) (b : (Int → Option Bool)) : Option Int :=
  (lp (g_slices_IndexFunc_l_int_int_L0 a b) 0).bind fun r3 =>
  match r3 with
  | (.inl r3) =>
    some r3
  | (.inr r3) =>
    some (-1)
noncomputable def g_num_first (a : (List Int)) : Option Int :=
  (g_slices_IndexFunc_l_int_int a (fun z0 => g_num_first_1 z0)).bind fun x0 =>
  bif (decide (x0 < 0)) then
    some 0
  else
    (getI a x0).bind fun x1 =>
    (g_num_Check x1).bind fun x2 =>
    some x2
noncomputable def g_num_quotient (a : Int) (b : Int) (c : (Option Int)) : Option (Int × Int) :=
  (g_num_first [a, b]).bind fun x0 =>
  bif (x0 != 0) then
    some (0, x0)
  else
    bif (b == 0) then
      some (0, 12)
    else
      (c).bind fun x1 =>
      bif (b == 0) then
        none
      else
        some ((w64 (Int.tdiv (w64 (a + x1)) b)), 0)
noncomputable def g_num_Up (a : Int) (b : Int) : Option (Int × Int) :=
  (g_num_quotient a b (g_num_Up_1 b)).bind fun x0 =>
  some (x0.1, x0.2)
noncomputable def g_class_heavy_need (a : HeavyT) : Option VerdictT :=
  bif (decide (a.shape.deadline ≤ a.shape.long)) then
    some (VerdictT.mk 0 141)
  else
    (g_num_Up (w64 (a.shape.total - a.shape.long)) (w64 (a.shape.deadline - a.shape.long))).bind fun x0 =>
    bif (x0.2 == 0) then
      bif (decide (8 < x0.1)) then
        some (VerdictT.mk 0 142)
      else
        some (VerdictT.mk x0.1 x0.2)
    else
      some (VerdictT.mk x0.1 x0.2)
noncomputable def g_class_light_need (a : LightT) : Option VerdictT :=
  some (VerdictT.mk 1 0)
noncomputable def g_class_Cores (a : ShapeT) : Option (Int × Int) :=
  (g_class_Check a).bind fun x0 =>
  bif (x0 != 0) then
    some (0, x0)
  else
    (g_class_of a).bind fun x1 =>
    match x1 with
    | (.inl x1) =>
      (g_class_heavy_need (HeavyT.mk a)).bind fun x2 =>
      some (x2.cores, x2.e)
    | (.inr x1) =>
      (g_class_light_need (LightT.mk a)).bind fun x3 =>
      some (x3.cores, x3.e)
noncomputable def g_ref01_Two_L0 (a : Int) (s0 : Int × Int) : Option ((Int × Int) ⊕ (Int ⊕ Unit)) :=
  bif (decide (s0.2 < 40)) then
    bif (s0.1 == a) then
      some (.inr (.inl s0.2))
    else
      some (.inl ((w64 (2 * s0.1)), (w64 (s0.2 + 1))))
  else
    some (.inr (.inr ()))

noncomputable def g_ref01_Two (a : Int) : Option (Int × Bool) :=
  (lp (g_ref01_Two_L0 a) (1, 0)).bind fun r1 =>
  match r1 with
  | (.inl r1) =>
    some (r1, true)
  | (.inr r1) =>
    some (0, false)
noncomputable def g_ref14_Check (a : ShapeT) : Option Bool :=
  (g_ref01_Two a.period).bind fun x0 =>
  bif x0.2 then
    bif (decide (a.period ≤ 4096)) then
      bif (decide (1 ≤ a.deadline)) then
        bif (decide (a.deadline ≤ a.period)) then
          bif (decide (1 ≤ a.total)) then
            bif (decide (a.total ≤ 4096)) then
              bif (decide (1 ≤ a.long)) then
                bif (decide (a.long ≤ a.total)) then
                  bif (decide (1 ≤ a.most)) then
                    bif (decide (a.most ≤ a.long)) then
                      some true
                    else
                      some false
                  else
                    some false
                else
                  some false
              else
                some false
            else
              some false
          else
            some false
        else
          some false
      else
        some false
    else
      some false
  else
    some false
noncomputable def g_ref14_Cores_L0 (a : ShapeT) (s1 : Int) : Option (Int ⊕ (Int ⊕ Unit)) :=
  bif (decide (s1 ≤ 8)) then
    bif (decide ((w64 (a.total - a.long)) ≤ (w64 (s1 * (w64 (a.deadline - a.long)))))) then
      some (.inr (.inl s1))
    else
      some (.inl (w64 (s1 + 1)))
  else
    some (.inr (.inr ()))

noncomputable def g_ref14_Cores (a : ShapeT) : Option (Int × Int) :=
  (g_ref14_Check a).bind fun x0 =>
  bif x0 then
    bif (decide (a.total ≤ a.deadline)) then
      some (1, 0)
    else
      bif (decide (a.deadline ≤ a.long)) then
        some (0, 141)
      else
        (lp (g_ref14_Cores_L0 a) 1).bind fun r2 =>
        match r2 with
        | (.inl r2) =>
          some (r2, 0)
        | (.inr r2) =>
          some (0, 142)
  else
    some (0, 140)
noncomputable def g_class_Heavy (a : ShapeT) : Option Bool :=
  (g_class_Check a).bind fun x0 =>
  bif (x0 == 0) then
    (g_class_of a).bind fun x1 =>
    match x1 with
    | (.inl x1) =>
      (g_class_heavy_need (HeavyT.mk a)).bind fun x2 =>
      (g_class_light_need (LightT.mk a)).bind fun x3 =>
      bif (!((x2.cores == x3.cores) && ((x2.e == x3.e) && true))) then
        some true
      else
        some false
    | (.inr x1) =>
      (g_class_light_need (LightT.mk a)).bind fun x4 =>
      (g_class_light_need (LightT.mk a)).bind fun x5 =>
      bif (!((x4.cores == x5.cores) && ((x4.e == x5.e) && true))) then
        some true
      else
        some false
  else
    some false
noncomputable def g_class_Bound (a : ShapeT) (b : Int) : Option Int :=
  (g_class_Check a).bind fun x0 =>
  bif (x0 != 0) then
    some 0
  else
    bif (decide (b < 1)) then
      some 0
    else
      bif (decide (8 < b)) then
        some 0
      else
        bif (b == 0) then
          none
        else
          some (w64 (Int.tdiv (w64 (a.total + (w64 ((w64 (b - 1)) * a.long)))) b))
noncomputable def g_ref14_Bound_L0 (a : ShapeT) (b : Int) (s1 : Int) : Option (Int ⊕ Int) :=
  bif (decide ((w64 ((w64 (s1 + 1)) * b)) ≤ (w64 (a.total + (w64 ((w64 (b - 1)) * a.long)))))) then
    some (.inl (w64 (s1 + 1)))
  else
    some (.inr s1)

noncomputable def g_ref14_Bound (a : ShapeT) (b : Int) : Option Int :=
  (g_ref14_Check a).bind fun x0 =>
  bif x0 then
    bif (decide (b < 1)) then
      some 0
    else
      bif (decide (8 < b)) then
        some 0
      else
        (lp (g_ref14_Bound_L0 a b) 0).bind fun r2 =>
        some r2
  else
    some 0
noncomputable def g_law14_ClassTells (a : ShapeT) (b : Int) : Option Bool :=
  g_law14_awake.bind fun x0 =>
  bif x0 then
    (g_class_Cores a).bind fun x1 =>
    (g_ref14_Cores a).bind fun x2 =>
    (g_ref14_Check a).bind fun x3 =>
    bif x3 then
      bif (x1.1 == x2.1) then
        bif (x1.2 == x2.2) then
          (g_class_Check a).bind fun x4 =>
          bif (x4 == 0) then
            (g_class_Heavy a).bind fun x5 =>
            bif x5 then
              bif (decide (a.deadline < a.total)) then
                (g_class_Bound a b).bind fun x6 =>
                (g_ref14_Bound a b).bind fun x7 =>
                bif (x6 == x7) then
                  some true
                else
                  some false
              else
                some false
            else
              bif (decide (a.deadline < a.total)) then
                some false
              else
                (g_class_Bound a b).bind fun x8 =>
                (g_ref14_Bound a b).bind fun x9 =>
                bif (x8 == x9) then
                  some true
                else
                  some false
          else
            some false
        else
          some false
      else
        some false
    else
      bif (x1.1 == x2.1) then
        bif (x1.2 == x2.2) then
          (g_class_Check a).bind fun x10 =>
          bif (x10 == 0) then
            some false
          else
            (g_class_Heavy a).bind fun x11 =>
            bif x11 then
              some false
            else
              (g_class_Bound a b).bind fun x12 =>
              (g_ref14_Bound a b).bind fun x13 =>
              bif (x12 == x13) then
                some true
              else
                some false
        else
          some false
      else
        some false
  else
    some false
noncomputable def g_law14_ClassLeast (a : ShapeT) : Option Bool :=
  g_law14_awake.bind fun x0 =>
  bif x0 then
    (g_class_Cores a).bind fun x1 =>
    bif (x1.2 != 0) then
      bif (x1.1 == 0) then
        some true
      else
        some false
    else
      (g_class_Bound a x1.1).bind fun x2 =>
      bif (decide (a.deadline < x2)) then
        some false
      else
        bif (decide ((w64 (x1.1 * a.deadline)) < (w64 (a.total + (w64 ((w64 (x1.1 - 1)) * a.long)))))) then
          some false
        else
          (g_class_Heavy a).bind fun x3 =>
          bif x3 then
            (g_class_Heavy a).bind fun x4 =>
            bif x4 then
              bif (decide (2 ≤ x1.1)) then
                bif (decide (x1.1 ≤ 8)) then
                  bif (decide ((w64 ((w64 (x1.1 - 1)) * a.deadline)) < (w64 (a.total + (w64 ((w64 (x1.1 - 2)) * a.long)))))) then
                    some true
                  else
                    some false
                else
                  some false
              else
                some false
            else
              some false
          else
            bif (x1.1 == 1) then
              some true
            else
              (g_class_Heavy a).bind fun x5 =>
              bif x5 then
                bif (decide (2 ≤ x1.1)) then
                  bif (decide (x1.1 ≤ 8)) then
                    bif (decide ((w64 ((w64 (x1.1 - 1)) * a.deadline)) < (w64 (a.total + (w64 ((w64 (x1.1 - 2)) * a.long)))))) then
                      some true
                    else
                      some false
                  else
                    some false
                else
                  some false
              else
                some false
  else
    some false
noncomputable def g_law14_ClassMore_L0 (a : ShapeT) (s3 : Int) : Option (Int ⊕ (Unit ⊕ Unit)) :=
  bif (decide (s3 ≤ 8)) then
    (g_class_Bound a s3).bind fun x4 =>
    bif (decide (x4 < a.long)) then
      some (.inr (.inl ()))
    else
      bif (decide (a.total < x4)) then
        some (.inr (.inl ()))
      else
        bif (decide (1 < s3)) then
          (g_class_Bound a (w64 (s3 - 1))).bind fun x5 =>
          bif (decide (x5 < x4)) then
            some (.inr (.inl ()))
          else
            some (.inl (w64 (s3 + 1)))
        else
          some (.inl (w64 (s3 + 1)))
  else
    some (.inr (.inr ()))

noncomputable def g_law14_ClassMore (a : ShapeT) : Option Bool :=
  g_law14_awake.bind fun x0 =>
  bif x0 then
    (g_class_Check a).bind fun x1 =>
    bif (x1 != 0) then
      g_law14_awake.bind fun x2 =>
      bif x2 then
        some true
      else
        some false
    else
      (lp (g_law14_ClassMore_L0 a) 1).bind fun r6 =>
      match r6 with
      | (.inl r6) =>
        some false
      | (.inr r6) =>
        (g_class_Bound a 1).bind fun x7 =>
        bif (x7 == a.total) then
          some true
        else
          some false
  else
    g_law14_awake.bind fun x8 =>
    bif x8 then
      some true
    else
      some false
end Go.Proofs.YtljgncbdagmeeaaDoor
