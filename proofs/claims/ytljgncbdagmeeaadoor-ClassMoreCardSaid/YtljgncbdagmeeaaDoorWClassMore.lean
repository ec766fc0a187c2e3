/- The walks: the evaluator says what the plain text says. -/
import Derived.Test.YtljgncbdagmeeaaDoorR1
import Derived.Test.YtljgncbdagmeeaaDoorK1
import Derived.KernelRfl
namespace Go.Proofs.YtljgncbdagmeeaaDoor
open Go Go.Proofs.YtljgncbdagmeeaaDoorE
set_option linter.unusedVariables false
set_option linter.unusedSimpArgs false

theorem g_law14_awake_ok : ∀ r, g_law14_awake = some r → evD ctx 30 [] = some (D.bool r) := fun r h => by
  cases h
  exact evD_of 100 (by kernel_rfl)
def g_num_Check_e (r : Int) : D := (intD r)

set_option maxRecDepth 100000 in
set_option maxHeartbeats 40000000 in
theorem g_num_Check_ok (a : Int) : ∀ r, (g_num_Check a) = some r → evD ctx 107 [(.d (intD a))] = some (g_num_Check_e r) := by
 show Says _ (fun r rhs => rhs = some (g_num_Check_e r)) _
 unfold g_num_Check
 rw [evD_K ctx 107 fn107 _ rfl rfl]
 conv => arg 3; whnf
 refine sim_br rfl ?_ ?_
 ·conv => arg 3; whnf
  exact sim_ret rfl
 ·conv => arg 3; whnf
  refine sim_br rfl ?_ ?_
  ·conv => arg 3; whnf
   exact sim_ret rfl
  ·conv => arg 3; whnf
   exact sim_ret rfl
def g_math_bits_OnesCount64_e (r : Int) : D := (intD r)

set_option maxRecDepth 100000 in
set_option maxHeartbeats 40000000 in
theorem g_math_bits_OnesCount64_ok (a : Int) : ∀ r, (g_math_bits_OnesCount64 a) = some r → evD ctx 129 [(.d (D.int .u64 a))] = some (g_math_bits_OnesCount64_e r) := by
 show Says _ (fun r rhs => rhs = some (g_math_bits_OnesCount64_e r)) _
 unfold g_math_bits_OnesCount64
 rw [evD_K ctx 129 fn129 _ rfl rfl]
 conv => arg 3; whnf
 refine sim_f rfl ?_
 conv => arg 3; whnf
 refine sim_f rfl ?_
 conv => arg 3; whnf
 refine sim_f rfl ?_
 conv => arg 3; whnf
 refine sim_f rfl ?_
 conv => arg 3; whnf
 refine sim_f rfl ?_
 conv => arg 3; whnf
 refine sim_f rfl ?_
 conv => arg 3; whnf
 exact sim_ret rfl
def g_math_bits_OnesCount_e (r : Int) : D := (intD r)

set_option maxRecDepth 100000 in
set_option maxHeartbeats 40000000 in
theorem g_math_bits_OnesCount_ok (a : Int) : ∀ r, (g_math_bits_OnesCount a) = some r → evD ctx 108 [(.d (D.int .u64 a))] = some (g_math_bits_OnesCount_e r) := by
 show Says _ (fun r rhs => rhs = some (g_math_bits_OnesCount_e r)) _
 unfold g_math_bits_OnesCount
 rw [evD_K ctx 108 fn108 _ rfl rfl]
 conv => arg 3; whnf
 refine sim_call g_math_bits_OnesCount64_e (g_math_bits_OnesCount64_ok a) rfl fun x0 hx0 => ?_
 conv => arg 3; whnf
 exact sim_ret rfl
theorem wrapU (n : Int) : 0 ≤ IntKind.u64.wrap n ∧ IntKind.u64.wrap n < 18446744073709551616 := by
  have : IntKind.u64.wrap n = n % 18446744073709551616 := by
    show (if (false && decide (n % 18446744073709551616 ≥ 9223372036854775808)) = true then n % 18446744073709551616 - 18446744073709551616 else n % 18446744073709551616) = _
    simp
  rw [this]
  omega
theorem shr58 (n : Int) : ∃ j : Nat, j < 64 ∧ (IntKind.u64.wrap n).fdiv (2 ^ (min (Int.toNat 58) IntKind.u64.bits)) = (j : Int) := by
  obtain ⟨h1, h2⟩ := wrapU n
  have e : (2 : Int) ^ (min (Int.toNat 58) IntKind.u64.bits) = 288230376151711744 := by decide
  rw [e, Int.fdiv_eq_ediv_of_nonneg _ (by omega)]
  refine ⟨((IntKind.u64.wrap n) / 288230376151711744).toNat, ?_, ?_⟩ <;> omega
theorem tab64 : ∀ j : Nat, j < 64 → loadE [] 1 false (.d (.rptr (glob1.drop (j * 1)))) = some (.d (.int .u8 (tz64tab.getD j 0))) := by
  have key : ((List.range 64).all fun j => match loadE [] 1 false (.d (.rptr (glob1.drop (j * 1)))) with | some (.d (.int .u8 z)) => z == tz64tab.getD j 0 | _ => false) = true := by rfl
  intro j hj
  have := List.all_eq_true.1 key j (by simpa using hj)
  split at this
  · rename_i z hz
    rw [hz, eq_of_beq this]
  · cases this
def g_math_bits_TrailingZeros64_e (r : Int) : D := intD r
set_option maxRecDepth 100000 in
theorem g_math_bits_TrailingZeros64_ok (a : Int) : ∀ r, g_math_bits_TrailingZeros64 a = some r → evD ctx 131 [.d (.int .u64 a)] = some (g_math_bits_TrailingZeros64_e r) := by
  intro r hr
  unfold g_math_bits_TrailingZeros64 at hr
  have hr := Option.some.inj hr
  subst hr
  rw [evD_K ctx 131 fn131 _ rfl rfl]
  by_cases h : (a == 0) = true
  · conv => lhs; whnf
    rw [h, br_t]
    rfl
  · replace h : (a == 0) = false := by simpa using h
    obtain ⟨j, hj, e⟩ := shr58 (IntKind.u64.wrap ((BitVec.ofInt IntKind.u64.bits a &&& BitVec.ofInt IntKind.u64.bits (IntKind.u64.wrap (0 - a))).toNat : Int) * 285870213051353865)
    conv => lhs; whnf
    rw [h, br_f]
    conv => lhs; whnf
    refine (br_ff (by rfl)).trans ?_
    conv => lhs; whnf
    rw [e]
    refine (br_tt (by simp; omega)).trans ?_
    conv => lhs; whnf
    erw [tab64 j hj]
    rfl
def g_math_bits_TrailingZeros_e (r : Int) : D := (intD r)

set_option maxRecDepth 100000 in
set_option maxHeartbeats 40000000 in
theorem g_math_bits_TrailingZeros_ok (a : Int) : ∀ r, (g_math_bits_TrailingZeros a) = some r → evD ctx 109 [(.d (D.int .u64 a))] = some (g_math_bits_TrailingZeros_e r) := by
 show Says _ (fun r rhs => rhs = some (g_math_bits_TrailingZeros_e r)) _
 unfold g_math_bits_TrailingZeros
 rw [evD_K ctx 109 fn109 _ rfl rfl]
 conv => arg 3; whnf
 refine sim_call g_math_bits_TrailingZeros64_e (g_math_bits_TrailingZeros64_ok a) rfl fun x0 hx0 => ?_
 conv => arg 3; whnf
 exact sim_ret rfl
def g_num_Two_e (r : (Int × Bool)) : D := (D.tup [(intD r.1), (D.bool r.2)])

set_option maxRecDepth 100000 in
set_option maxHeartbeats 40000000 in
theorem g_num_Two_ok (a : Int) : ∀ r, (g_num_Two a) = some r → evD ctx 64 [(.d (intD a))] = some (g_num_Two_e r) := by
 show Says _ (fun r rhs => rhs = some (g_num_Two_e r)) _
 unfold g_num_Two
 rw [evD_K ctx 64 fn64 _ rfl rfl]
 conv => arg 3; whnf
 refine sim_call g_num_Check_e (g_num_Check_ok a) rfl fun x0 hx0 => ?_
 conv => arg 3; whnf
 refine sim_br rfl ?_ ?_
 ·conv => arg 3; whnf
  exact sim_ret rfl
 ·conv => arg 3; whnf
  refine sim_call g_math_bits_OnesCount_e (g_math_bits_OnesCount_ok (IntKind.u64.wrap a)) rfl fun x1 hx1 => ?_
  conv => arg 3; whnf
  refine sim_br rfl ?_ ?_
  ·conv => arg 3; whnf
   exact sim_ret rfl
  ·conv => arg 3; whnf
   refine sim_call g_math_bits_TrailingZeros_e (g_math_bits_TrailingZeros_ok (IntKind.u64.wrap a)) rfl fun x2 hx2 => ?_
   conv => arg 3; whnf
   exact sim_ret rfl
def g_class_Check_1_e (r : Bool) : D := (D.bool r)

set_option maxRecDepth 100000 in
set_option maxHeartbeats 40000000 in
theorem g_class_Check_1_ok (a : Int) (b : Int) : ∀ r, (g_class_Check_1 a b) = some r → evD ctx 65 [(.d (intD a)), (.d (intD b))] = some (g_class_Check_1_e r) := by
 show Says _ (fun r rhs => rhs = some (g_class_Check_1_e r)) _
 unfold g_class_Check_1
 rw [evD_K ctx 65 fn65 _ rfl rfl]
 conv => arg 3; whnf
 refine sim_br rfl ?_ ?_
 ·conv => arg 3; whnf
  refine sim_br rfl ?_ ?_
  ·conv => arg 3; whnf
   exact sim_ret rfl
  ·conv => arg 3; whnf
   exact sim_ret rfl
 ·conv => arg 3; whnf
  exact sim_ret rfl
def g_class_Check_e (r : Int) : D := (intD r)

set_option maxRecDepth 100000 in
set_option maxHeartbeats 40000000 in
theorem g_class_Check_ok (a : ShapeT) : ∀ r, (g_class_Check a) = some r → evD ctx 34 [(.d (D.agg [(intD a.total), (intD a.long), (intD a.most), (intD a.deadline), (intD a.period)]))] = some (g_class_Check_e r) := by
 show Says _ (fun r rhs => rhs = some (g_class_Check_e r)) _
 unfold g_class_Check
 rw [evD_K ctx 34 fn34 _ rfl rfl]
 conv => arg 3; whnf
 refine sim_call g_num_Two_e (g_num_Two_ok a.period) rfl fun x0 hx0 => ?_
 conv => arg 3; whnf
 refine sim_br rfl ?_ ?_
 ·conv => arg 3; whnf
  refine sim_br rfl ?_ ?_
  ·conv => arg 3; whnf
   exact sim_ret rfl
  ·conv => arg 3; whnf
   refine sim_call g_class_Check_1_e (g_class_Check_1_ok a.deadline a.period) rfl fun x1 hx1 => ?_
   conv => arg 3; whnf
   refine sim_br rfl ?_ ?_
   ·conv => arg 3; whnf
    refine sim_call g_class_Check_1_e (g_class_Check_1_ok a.total 4096) rfl fun x2 hx2 => ?_
    conv => arg 3; whnf
    refine sim_br rfl ?_ ?_
    ·conv => arg 3; whnf
     refine sim_call g_class_Check_1_e (g_class_Check_1_ok a.long a.total) rfl fun x3 hx3 => ?_
     conv => arg 3; whnf
     refine sim_br rfl ?_ ?_
     ·conv => arg 3; whnf
      refine sim_call g_class_Check_1_e (g_class_Check_1_ok a.most a.long) rfl fun x4 hx4 => ?_
      conv => arg 3; whnf
      refine sim_br rfl ?_ ?_
      ·conv => arg 3; whnf
       exact sim_ret rfl
      ·conv => arg 3; whnf
       exact sim_ret rfl
     ·conv => arg 3; whnf
      exact sim_ret rfl
    ·conv => arg 3; whnf
     exact sim_ret rfl
   ·conv => arg 3; whnf
    exact sim_ret rfl
 ·conv => arg 3; whnf
  exact sim_ret rfl
def g_class_Bound_e (r : Int) : D := (intD r)

set_option maxRecDepth 100000 in
set_option maxHeartbeats 40000000 in
theorem g_class_Bound_ok (a : ShapeT) (b : Int) : ∀ r, (g_class_Bound a b) = some r → evD ctx 36 [(.d (D.agg [(intD a.total), (intD a.long), (intD a.most), (intD a.deadline), (intD a.period)])), (.d (intD b))] = some (g_class_Bound_e r) := by
 show Says _ (fun r rhs => rhs = some (g_class_Bound_e r)) _
 unfold g_class_Bound
 rw [evD_K ctx 36 fn36 _ rfl rfl]
 conv => arg 3; whnf
 refine sim_call g_class_Check_e (g_class_Check_ok a) rfl fun x0 hx0 => ?_
 conv => arg 3; whnf
 refine sim_br rfl ?_ ?_
 ·conv => arg 3; whnf
  exact sim_ret rfl
 ·conv => arg 3; whnf
  refine sim_br rfl ?_ ?_
  ·conv => arg 3; whnf
   exact sim_ret rfl
  ·conv => arg 3; whnf
   refine sim_br rfl ?_ ?_
   ·conv => arg 3; whnf
    exact sim_ret rfl
   ·conv => arg 3; whnf
    refine sim_br rfl ?_ ?_
    ·exact sim_none
    ·conv => arg 3; whnf
     exact sim_ret rfl
def g_law14_ClassMore_e (r : Bool) : D := (D.bool r)

def g_law14_ClassMore_L0_x (a : ShapeT) : (Unit ⊕ Unit) → Ex × List V × Heap
  | (.inl r) => (.ret, [(.ptr 0 0), (.d (D.bool false))], [(.cells [(.d (intD a.total)), (.d (intD a.long)), (.d (intD a.most)), (.d (intD a.deadline)), (.d (intD a.period))])])
  | (.inr r) => (.exit 0, [(.ptr 0 0), .bad], [(.cells [(.d (intD a.total)), (.d (intD a.long)), (.d (intD a.most)), (.d (intD a.deadline)), (.d (intD a.period))])])

set_option maxRecDepth 100000 in
set_option maxHeartbeats 40000000 in
theorem g_law14_ClassMore_L0_ok (a : ShapeT) : ∀ (s3 : Int) (r : (Unit ⊕ Unit)), lp (g_law14_ClassMore_L0 a) s3 = some r → lpW ctx 0 [1, 3] [1, 2] ir12L0 [(.ptr 0 0), (.d (intD s3))] [(.cells [(.d (intD a.total)), (.d (intD a.long)), (.d (intD a.most)), (.d (intD a.deadline)), (.d (intD a.period))])] = some ((g_law14_ClassMore_L0_x a) r) := by
 refine lp_ok (g_law14_ClassMore_L0_x a) ?_
 intro s3 rcl ih
 show Says _ _ (lpW _ _ _ _ _ _ _)
 unfold g_law14_ClassMore_L0
 rw [lpW_b]
 conv => arg 3; whnf
 refine sim_br rfl ?_ ?_
 ·conv => arg 3; whnf
  refine sim_call g_class_Bound_e (g_class_Bound_ok a s3) rfl fun x4 hx4 => ?_
  conv => arg 3; whnf
  refine sim_br rfl ?_ ?_
  ·conv => arg 3; whnf
   exact sim_ret rfl
  ·conv => arg 3; whnf
   refine sim_br rfl ?_ ?_
   ·conv => arg 3; whnf
    exact sim_ret rfl
   ·conv => arg 3; whnf
    refine sim_br rfl ?_ ?_
    ·conv => arg 3; whnf
     refine sim_call g_class_Bound_e (g_class_Bound_ok a (w64 (s3 - 1))) rfl fun x5 hx5 => ?_
     conv => arg 3; whnf
     refine sim_br rfl ?_ ?_
     ·conv => arg 3; whnf
      exact sim_ret rfl
     ·conv => arg 3; whnf
      exact sim_again (ih (w64 (s3 + 1)))
    ·conv => arg 3; whnf
     exact sim_again (ih (w64 (s3 + 1)))
 ·conv => arg 3; whnf
  exact sim_ret rfl

set_option maxRecDepth 100000 in
set_option maxHeartbeats 40000000 in
theorem g_law14_ClassMore_ok (a : ShapeT) : ∀ r, (g_law14_ClassMore a) = some r → evD ctx 12 [(.d (D.agg [(intD a.total), (intD a.long), (intD a.most), (intD a.deadline), (intD a.period)]))] = some (g_law14_ClassMore_e r) := by
 show Says _ (fun r rhs => rhs = some (g_law14_ClassMore_e r)) _
 unfold g_law14_ClassMore
 rw [evD_K ctx 12 fn12 _ rfl rfl]
 conv => arg 3; whnf
 refine sim_call D.bool (g_law14_awake_ok) rfl fun x0 hx0 => ?_
 conv => arg 3; whnf
 refine sim_br rfl ?_ ?_
 ·conv => arg 3; whnf
  refine sim_call g_class_Check_e (g_class_Check_ok a) rfl fun x1 hx1 => ?_
  conv => arg 3; whnf
  refine sim_br rfl ?_ ?_
  ·conv => arg 3; whnf
   refine sim_call D.bool (g_law14_awake_ok) rfl fun x2 hx2 => ?_
   conv => arg 3; whnf
   refine sim_br rfl ?_ ?_
   ·conv => arg 3; whnf
    exact sim_ret rfl
   ·conv => arg 3; whnf
    exact sim_ret rfl
  ·conv => arg 3; whnf
   refine sim_bind (g_law14_ClassMore_L0_x a) (g_law14_ClassMore_L0_ok a 1) fun r6 hr6 => ?_
   clear hr6
   rcases r6 with r6 | r6
   ·conv => arg 3; whnf
    exact sim_ret rfl
   ·conv => arg 3; whnf
    refine sim_call g_class_Bound_e (g_class_Bound_ok a 1) rfl fun x7 hx7 => ?_
    conv => arg 3; whnf
    refine sim_br rfl ?_ ?_
    ·conv => arg 3; whnf
     exact sim_ret rfl
    ·conv => arg 3; whnf
     exact sim_ret rfl
 ·conv => arg 3; whnf
  refine sim_call D.bool (g_law14_awake_ok) rfl fun x8 hx8 => ?_
  conv => arg 3; whnf
  refine sim_br rfl ?_ ?_
  ·conv => arg 3; whnf
   exact sim_ret rfl
  ·conv => arg 3; whnf
   exact sim_ret rfl
end Go.Proofs.YtljgncbdagmeeaaDoor
