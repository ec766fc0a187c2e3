/- The walks: the evaluator says what the plain text says. -/
import Derived.Test.YtljgncbdagmeeaaDoorR1
import Derived.Test.YtljgncbdagmeeaaDoorK1
import Derived.KernelRfl
namespace Go.Proofs.YtljgncbdagmeeaaDoor
open Go Go.Proofs.YtljgncbdagmeeaaDoorE
set_option linter.unusedVariables false
set_option linter.unusedSimpArgs false

theorem g_law14_awake_ok : ∀ r, g_law14_awake = some r → evD ctx 30 [] = some (D.bool r) := fun r h => by
  cases h
  exact evD_of 100 (by kernel_rfl)
def g_num_Check_e (r : Int) : D := (intD r)

set_option maxRecDepth 100000 in
set_option maxHeartbeats 40000000 in
theorem g_num_Check_ok (a : Int) : ∀ r, (g_num_Check a) = some r → evD ctx 107 [(.d (intD a))] = some (g_num_Check_e r) := by
 show Says _ (fun r rhs => rhs = some (g_num_Check_e r)) _
 unfold g_num_Check
 rw [evD_K ctx 107 fn107 _ rfl rfl]
 conv => arg 3; whnf
 refine sim_br rfl ?_ ?_
 ·conv => arg 3; whnf
  exact sim_ret rfl
 ·conv => arg 3; whnf
  refine sim_br rfl ?_ ?_
  ·conv => arg 3; whnf
   exact sim_ret rfl
  ·conv => arg 3; whnf
   exact sim_ret rfl
def g_math_bits_OnesCount64_e (r : Int) : D := (intD r)

set_option maxRecDepth 100000 in
set_option maxHeartbeats 40000000 in
theorem g_math_bits_OnesCount64_ok (a : Int) : ∀ r, (g_math_bits_OnesCount64 a) = some r → evD ctx 129 [(.d (D.int .u64 a))] = some (g_math_bits_OnesCount64_e r) := by
 show Says _ (fun r rhs => rhs = some (g_math_bits_OnesCount64_e r)) _
 unfold g_math_bits_OnesCount64
 rw [evD_K ctx 129 fn129 _ rfl rfl]
 conv => arg 3; whnf
 refine sim_f rfl ?_
 conv => arg 3; whnf
 refine sim_f rfl ?_
 conv => arg 3; whnf
 refine sim_f rfl ?_
 conv => arg 3; whnf
 refine sim_f rfl ?_
 conv => arg 3; whnf
 refine sim_f rfl ?_
 conv => arg 3; whnf
 refine sim_f rfl ?_
 conv => arg 3; whnf
 exact sim_ret rfl
def g_math_bits_OnesCount_e (r : Int) : D := (intD r)

set_option maxRecDepth 100000 in
set_option maxHeartbeats 40000000 in
theorem g_math_bits_OnesCount_ok (a : Int) : ∀ r, (g_math_bits_OnesCount a) = some r → evD ctx 108 [(.d (D.int .u64 a))] = some (g_math_bits_OnesCount_e r) := by
 show Says _ (fun r rhs => rhs = some (g_math_bits_OnesCount_e r)) _
 unfold g_math_bits_OnesCount
 rw [evD_K ctx 108 fn108 _ rfl rfl]
 conv => arg 3; whnf
 refine sim_call g_math_bits_OnesCount64_e (g_math_bits_OnesCount64_ok a) rfl fun x0 hx0 => ?_
 conv => arg 3; whnf
 exact sim_ret rfl
theorem wrapU (n : Int) : 0 ≤ IntKind.u64.wrap n ∧ IntKind.u64.wrap n < 18446744073709551616 := by
  have : IntKind.u64.wrap n = n % 18446744073709551616 := by
    show (if (false && decide (n % 18446744073709551616 ≥ 9223372036854775808)) = true then n % 18446744073709551616 - 18446744073709551616 else n % 18446744073709551616) = _
    simp
  rw [this]
  omega
theorem shr58 (n : Int) : ∃ j : Nat, j < 64 ∧ (IntKind.u64.wrap n).fdiv (2 ^ (min (Int.toNat 58) IntKind.u64.bits)) = (j : Int) := by
  obtain ⟨h1, h2⟩ := wrapU n
  have e : (2 : Int) ^ (min (Int.toNat 58) IntKind.u64.bits) = 288230376151711744 := by decide
  rw [e, Int.fdiv_eq_ediv_of_nonneg _ (by omega)]
  refine ⟨((IntKind.u64.wrap n) / 288230376151711744).toNat, ?_, ?_⟩ <;> omega
theorem tab64 : ∀ j : Nat, j < 64 → loadE [] 1 false (.d (.rptr (glob1.drop (j * 1)))) = some (.d (.int .u8 (tz64tab.getD j 0))) := by
  have key : ((List.range 64).all fun j => match loadE [] 1 false (.d (.rptr (glob1.drop (j * 1)))) with | some (.d (.int .u8 z)) => z == tz64tab.getD j 0 | _ => false) = true := by rfl
  intro j hj
  have := List.all_eq_true.1 key j (by simpa using hj)
  split at this
  · rename_i z hz
    rw [hz, eq_of_beq this]
  · cases this
def g_math_bits_TrailingZeros64_e (r : Int) : D := intD r
set_option maxRecDepth 100000 in
theorem g_math_bits_TrailingZeros64_ok (a : Int) : ∀ r, g_math_bits_TrailingZeros64 a = some r → evD ctx 131 [.d (.int .u64 a)] = some (g_math_bits_TrailingZeros64_e r) := by
  intro r hr
  unfold g_math_bits_TrailingZeros64 at hr
  have hr := Option.some.inj hr
  subst hr
  rw [evD_K ctx 131 fn131 _ rfl rfl]
  by_cases h : (a == 0) = true
  · conv => lhs; whnf
    rw [h, br_t]
    rfl
  · replace h : (a == 0) = false := by simpa using h
    obtain ⟨j, hj, e⟩ := shr58 (IntKind.u64.wrap ((BitVec.ofInt IntKind.u64.bits a &&& BitVec.ofInt IntKind.u64.bits (IntKind.u64.wrap (0 - a))).toNat : Int) * 285870213051353865)
    conv => lhs; whnf
    rw [h, br_f]
    conv => lhs; whnf
    refine (br_ff (by rfl)).trans ?_
    conv => lhs; whnf
    rw [e]
    refine (br_tt (by simp; omega)).trans ?_
    conv => lhs; whnf
    erw [tab64 j hj]
    rfl
def g_math_bits_TrailingZeros_e (r : Int) : D := (intD r)

set_option maxRecDepth 100000 in
set_option maxHeartbeats 40000000 in
theorem g_math_bits_TrailingZeros_ok (a : Int) : ∀ r, (g_math_bits_TrailingZeros a) = some r → evD ctx 109 [(.d (D.int .u64 a))] = some (g_math_bits_TrailingZeros_e r) := by
 show Says _ (fun r rhs => rhs = some (g_math_bits_TrailingZeros_e r)) _
 unfold g_math_bits_TrailingZeros
 rw [evD_K ctx 109 fn109 _ rfl rfl]
 conv => arg 3; whnf
 refine sim_call g_math_bits_TrailingZeros64_e (g_math_bits_TrailingZeros64_ok a) rfl fun x0 hx0 => ?_
 conv => arg 3; whnf
 exact sim_ret rfl
def g_num_Two_e (r : (Int × Bool)) : D := (D.tup [(intD r.1), (D.bool r.2)])

set_option maxRecDepth 100000 in
set_option maxHeartbeats 40000000 in
theorem g_num_Two_ok (a : Int) : ∀ r, (g_num_Two a) = some r → evD ctx 64 [(.d (intD a))] = some (g_num_Two_e r) := by
 show Says _ (fun r rhs => rhs = some (g_num_Two_e r)) _
 unfold g_num_Two
 rw [evD_K ctx 64 fn64 _ rfl rfl]
 conv => arg 3; whnf
 refine sim_call g_num_Check_e (g_num_Check_ok a) rfl fun x0 hx0 => ?_
 conv => arg 3; whnf
 refine sim_br rfl ?_ ?_
 ·conv => arg 3; whnf
  exact sim_ret rfl
 ·conv => arg 3; whnf
  refine sim_call g_math_bits_OnesCount_e (g_math_bits_OnesCount_ok (IntKind.u64.wrap a)) rfl fun x1 hx1 => ?_
  conv => arg 3; whnf
  refine sim_br rfl ?_ ?_
  ·conv => arg 3; whnf
   exact sim_ret rfl
  ·conv => arg 3; whnf
   refine sim_call g_math_bits_TrailingZeros_e (g_math_bits_TrailingZeros_ok (IntKind.u64.wrap a)) rfl fun x2 hx2 => ?_
   conv => arg 3; whnf
   exact sim_ret rfl
def g_class_Check_1_e (r : Bool) : D := (D.bool r)

set_option maxRecDepth 100000 in
set_option maxHeartbeats 40000000 in
theorem g_class_Check_1_ok (a : Int) (b : Int) : ∀ r, (g_class_Check_1 a b) = some r → evD ctx 65 [(.d (intD a)), (.d (intD b))] = some (g_class_Check_1_e r) := by
 show Says _ (fun r rhs => rhs = some (g_class_Check_1_e r)) _
 unfold g_class_Check_1
 rw [evD_K ctx 65 fn65 _ rfl rfl]
 conv => arg 3; whnf
 refine sim_br rfl ?_ ?_
 ·conv => arg 3; whnf
  refine sim_br rfl ?_ ?_
  ·conv => arg 3; whnf
   exact sim_ret rfl
  ·conv => arg 3; whnf
   exact sim_ret rfl
 ·conv => arg 3; whnf
  exact sim_ret rfl
def g_class_Check_e (r : Int) : D := (intD r)

set_option maxRecDepth 100000 in
set_option maxHeartbeats 40000000 in
theorem g_class_Check_ok (a : ShapeT) : ∀ r, (g_class_Check a) = some r → evD ctx 34 [(.d (D.agg [(intD a.total), (intD a.long), (intD a.most), (intD a.deadline), (intD a.period)]))] = some (g_class_Check_e r) := by
 show Says _ (fun r rhs => rhs = some (g_class_Check_e r)) _
 unfold g_class_Check
 rw [evD_K ctx 34 fn34 _ rfl rfl]
 conv => arg 3; whnf
 refine sim_call g_num_Two_e (g_num_Two_ok a.period) rfl fun x0 hx0 => ?_
 conv => arg 3; whnf
 refine sim_br rfl ?_ ?_
 ·conv => arg 3; whnf
  refine sim_br rfl ?_ ?_
  ·conv => arg 3; whnf
   exact sim_ret rfl
  ·conv => arg 3; whnf
   refine sim_call g_class_Check_1_e (g_class_Check_1_ok a.deadline a.period) rfl fun x1 hx1 => ?_
   conv => arg 3; whnf
   refine sim_br rfl ?_ ?_
   ·conv => arg 3; whnf
    refine sim_call g_class_Check_1_e (g_class_Check_1_ok a.total 4096) rfl fun x2 hx2 => ?_
    conv => arg 3; whnf
    refine sim_br rfl ?_ ?_
    ·conv => arg 3; whnf
     refine sim_call g_class_Check_1_e (g_class_Check_1_ok a.long a.total) rfl fun x3 hx3 => ?_
     conv => arg 3; whnf
     refine sim_br rfl ?_ ?_
     ·conv => arg 3; whnf
      refine sim_call g_class_Check_1_e (g_class_Check_1_ok a.most a.long) rfl fun x4 hx4 => ?_
      conv => arg 3; whnf
      refine sim_br rfl ?_ ?_
      ·conv => arg 3; whnf
       exact sim_ret rfl
      ·conv => arg 3; whnf
       exact sim_ret rfl
     ·conv => arg 3; whnf
      exact sim_ret rfl
    ·conv => arg 3; whnf
     exact sim_ret rfl
   ·conv => arg 3; whnf
    exact sim_ret rfl
 ·conv => arg 3; whnf
  exact sim_ret rfl
def g_class_of_e (a : ShapeT) : (Unit ⊕ Unit) → D
  | (.inl r) => (D.iface 148 (D.agg [(intD a.total), (intD a.long), (intD a.most), (intD a.deadline), (intD a.period)]))
  | (.inr r) => (D.iface 108 (D.agg [(intD a.total), (intD a.long), (intD a.most), (intD a.deadline), (intD a.period)]))

set_option maxRecDepth 100000 in
set_option maxHeartbeats 40000000 in
theorem g_class_of_ok (a : ShapeT) : ∀ r, (g_class_of a) = some r → evD ctx 62 [(.d (D.agg [(intD a.total), (intD a.long), (intD a.most), (intD a.deadline), (intD a.period)]))] = some ((g_class_of_e a) r) := by
 show Says _ (fun r rhs => rhs = some ((g_class_of_e a) r)) _
 unfold g_class_of
 rw [evD_K ctx 62 fn62 _ rfl rfl]
 conv => arg 3; whnf
 refine sim_br rfl ?_ ?_
 ·conv => arg 3; whnf
  exact sim_ret rfl
 ·conv => arg 3; whnf
  exact sim_ret rfl
def g_num_Up_1_e (r : Int) : D := (intD r)

set_option maxRecDepth 100000 in
set_option maxHeartbeats 40000000 in
theorem g_num_Up_1_ok (a0 : Int) : ∀ r, (g_num_Up_1 a0) = some r → evD ctx 191 [(.d (D.rptr [(intD a0)]))] = some (g_num_Up_1_e r) := by
 show Says _ (fun r rhs => rhs = some (g_num_Up_1_e r)) _
 unfold g_num_Up_1
 rw [evD_K ctx 191 fn191 _ rfl rfl]
 conv => arg 3; whnf
 exact sim_ret rfl
def g_num_first_1_e (r : Bool) : D := (D.bool r)

set_option maxRecDepth 100000 in
set_option maxHeartbeats 40000000 in
theorem g_num_first_1_ok (a : Int) : ∀ r, (g_num_first_1 a) = some r → evD ctx 193 [(.d (intD a))] = some (g_num_first_1_e r) := by
 show Says _ (fun r rhs => rhs = some (g_num_first_1_e r)) _
 unfold g_num_first_1
 rw [evD_K ctx 193 fn193 _ rfl rfl]
 conv => arg 3; whnf
 refine sim_call g_num_Check_e (g_num_Check_ok a) rfl fun x0 hx0 => ?_
 conv => arg 3; whnf
 refine sim_br rfl ?_ ?_
 ·conv => arg 3; whnf
  exact sim_ret rfl
 ·conv => arg 3; whnf
  exact sim_ret rfl
def g_slices_IndexFunc_l_int_int__num_first_1_e (r : Int) : D := (intD r)

def g_slices_IndexFunc_l_int_int__num_first_1_L0_x (t0 : Bool) (a : (List Int)) : (Int ⊕ Unit) → Ex × List V × Heap
  | (.inl r) => (.ret, [(.d (intD r))], [])
  | (.inr r) => (.exit 0, [.bad], [])

set_option maxRecDepth 100000 in
set_option maxHeartbeats 40000000 in
theorem g_slices_IndexFunc_l_int_int__num_first_1_L0_ok (t0 : Bool) (a : (List Int)) : ∀ (s0 : Int) (r : (Int ⊕ Unit)), lp (g_slices_IndexFunc_l_int_int_L0 a (fun z0 => g_num_first_1 z0)) s0 = some r → lpW ctx 0 [0, 1, 7, 8] [4] ir101L0 [(.d (D.list t0 (List.map intD a))), (.d (D.fn 193 [])), (.d (intD (a.length : Int))), (.d (intD s0))] [] = some ((g_slices_IndexFunc_l_int_int__num_first_1_L0_x t0 a) r) := by
 refine lp_ok (g_slices_IndexFunc_l_int_int__num_first_1_L0_x t0 a) ?_
 intro s0 rcl ih
 show Says _ _ (lpW _ _ _ _ _ _ _)
 unfold g_slices_IndexFunc_l_int_int_L0
 rw [lpW_b]
 conv => arg 3; whnf
 refine sim_br rfl ?_ ?_
 ·conv => arg 3; whnf
  refine sim_get (f := intD) rfl rfl fun x1 hx1 => ?_
  conv => arg 3; whnf
  refine sim_call g_num_first_1_e (g_num_first_1_ok x1) rfl fun x2 hx2 => ?_
  conv => arg 3; whnf
  refine sim_br rfl ?_ ?_
  ·conv => arg 3; whnf
   exact sim_ret rfl
  ·conv => arg 3; whnf
   exact sim_again (ih (w64 (s0 + 1)))
 ·conv => arg 3; whnf
  exact sim_ret rfl

set_option maxRecDepth 100000 in
set_option maxHeartbeats 40000000 in
theorem g_slices_IndexFunc_l_int_int__num_first_1_ok (t0 : Bool) (a : (List Int)) : ∀ r, (g_slices_IndexFunc_l_int_int a (fun z0 => g_num_first_1 z0)) = some r → evD ctx 101 [(.d (D.list t0 (List.map intD a))), (.d (D.fn 193 []))] = some (g_slices_IndexFunc_l_int_int__num_first_1_e r) := by
 show Says _ (fun r rhs => rhs = some (g_slices_IndexFunc_l_int_int__num_first_1_e r)) _
 unfold g_slices_IndexFunc_l_int_int
 rw [evD_K ctx 101 fn101 _ rfl rfl]
 conv => arg 3; whnf
 refine sim_let (x' := (a.length : Int)) (len_enc intD a) ?_
 conv => arg 3; whnf
 refine sim_bind (g_slices_IndexFunc_l_int_int__num_first_1_L0_x t0 a) (g_slices_IndexFunc_l_int_int__num_first_1_L0_ok t0 a 0) fun r3 hr3 => ?_
 clear hr3
 rcases r3 with r3 | r3
 ·conv => arg 3; whnf
  exact sim_ret rfl
 ·conv => arg 3; whnf
  exact sim_ret rfl
def g_num_first_e (r : Int) : D := (intD r)

set_option maxRecDepth 100000 in
set_option maxHeartbeats 40000000 in
theorem g_num_first_ok (t0 : Bool) (a : (List Int)) : ∀ r, (g_num_first a) = some r → evD ctx 192 [(.d (D.list t0 (List.map intD a)))] = some (g_num_first_e r) := by
 show Says _ (fun r rhs => rhs = some (g_num_first_e r)) _
 unfold g_num_first
 rw [evD_K ctx 192 fn192 _ rfl rfl]
 conv => arg 3; whnf
 refine sim_call g_slices_IndexFunc_l_int_int__num_first_1_e (g_slices_IndexFunc_l_int_int__num_first_1_ok t0 a) rfl fun x0 hx0 => ?_
 conv => arg 3; whnf
 refine sim_br rfl ?_ ?_
 ·conv => arg 3; whnf
  exact sim_ret rfl
 ·conv => arg 3; whnf
  refine sim_get (f := intD) rfl rfl fun x1 hx1 => ?_
  conv => arg 3; whnf
  refine sim_call g_num_Check_e (g_num_Check_ok x1) rfl fun x2 hx2 => ?_
  conv => arg 3; whnf
  exact sim_ret rfl
def g_num_quotient__num_Up_1_e (r : (Int × Int)) : D := (D.tup [(intD r.1), (intD r.2)])

set_option maxRecDepth 100000 in
set_option maxHeartbeats 40000000 in
theorem g_num_quotient__num_Up_1_ok (a : Int) (b : Int) (c0 : Int) : ∀ r, (g_num_quotient a b (g_num_Up_1 c0)) = some r → evD ctx 190 [(.d (intD a)), (.d (intD b)), (.d (D.fn 191 [(D.rptr [(intD c0)])]))] = some (g_num_quotient__num_Up_1_e r) := by
 show Says _ (fun r rhs => rhs = some (g_num_quotient__num_Up_1_e r)) _
 unfold g_num_quotient
 rw [evD_K ctx 190 fn190 _ rfl rfl]
 conv => arg 3; whnf
 refine sim_call g_num_first_e (g_num_first_ok false [a, b]) rfl fun x0 hx0 => ?_
 conv => arg 3; whnf
 refine sim_br rfl ?_ ?_
 ·conv => arg 3; whnf
  exact sim_ret rfl
 ·conv => arg 3; whnf
  refine sim_br rfl ?_ ?_
  ·conv => arg 3; whnf
   exact sim_ret rfl
  ·conv => arg 3; whnf
   refine sim_call g_num_Up_1_e (g_num_Up_1_ok c0) rfl fun x1 hx1 => ?_
   conv => arg 3; whnf
   refine sim_br rfl ?_ ?_
   ·exact sim_none
   ·conv => arg 3; whnf
    exact sim_ret rfl
def g_num_Up_e (r : (Int × Int)) : D := (D.tup [(intD r.1), (intD r.2)])

set_option maxRecDepth 100000 in
set_option maxHeartbeats 40000000 in
theorem g_num_Up_ok (a : Int) (b : Int) : ∀ r, (g_num_Up a b) = some r → evD ctx 189 [(.d (intD a)), (.d (intD b))] = some (g_num_Up_e r) := by
 show Says _ (fun r rhs => rhs = some (g_num_Up_e r)) _
 unfold g_num_Up
 rw [evD_K ctx 189 fn189 _ rfl rfl]
 conv => arg 3; whnf
 refine sim_call g_num_quotient__num_Up_1_e (g_num_quotient__num_Up_1_ok a b b) rfl fun x0 hx0 => ?_
 conv => arg 3; whnf
 exact sim_ret rfl
def g_class_heavy_need_e (r : VerdictT) : D := (D.agg [(intD r.cores), (intD r.e)])

set_option maxRecDepth 100000 in
set_option maxHeartbeats 40000000 in
theorem g_class_heavy_need_ok (a : HeavyT) : ∀ r, (g_class_heavy_need a) = some r → evD ctx 188 [(.d (D.agg [(intD a.shape.total), (intD a.shape.long), (intD a.shape.most), (intD a.shape.deadline), (intD a.shape.period)]))] = some (g_class_heavy_need_e r) := by
 show Says _ (fun r rhs => rhs = some (g_class_heavy_need_e r)) _
 unfold g_class_heavy_need
 rw [evD_K ctx 188 fn188 _ rfl rfl]
 conv => arg 3; whnf
 refine sim_br rfl ?_ ?_
 ·conv => arg 3; whnf
  exact sim_ret rfl
 ·conv => arg 3; whnf
  refine sim_call g_num_Up_e (g_num_Up_ok (w64 (a.shape.total - a.shape.long)) (w64 (a.shape.deadline - a.shape.long))) rfl fun x0 hx0 => ?_
  conv => arg 3; whnf
  refine sim_br rfl ?_ ?_
  ·conv => arg 3; whnf
   refine sim_br rfl ?_ ?_
   ·conv => arg 3; whnf
    exact sim_ret rfl
   ·conv => arg 3; whnf
    exact sim_ret rfl
  ·conv => arg 3; whnf
   exact sim_ret rfl
def g_class_light_need_e (r : VerdictT) : D := (D.agg [(intD r.cores), (intD r.e)])

set_option maxRecDepth 100000 in
set_option maxHeartbeats 40000000 in
theorem g_class_light_need_ok (a : LightT) : ∀ r, (g_class_light_need a) = some r → evD ctx 66 [(.d (D.agg [(intD a.shape.total), (intD a.shape.long), (intD a.shape.most), (intD a.shape.deadline), (intD a.shape.period)]))] = some (g_class_light_need_e r) := by
 show Says _ (fun r rhs => rhs = some (g_class_light_need_e r)) _
 unfold g_class_light_need
 rw [evD_K ctx 66 fn66 _ rfl rfl]
 conv => arg 3; whnf
 exact sim_ret rfl
def g_class_Cores_e (r : (Int × Int)) : D := (D.tup [(intD r.1), (intD r.2)])

set_option maxRecDepth 100000 in
set_option maxHeartbeats 40000000 in
theorem g_class_Cores_ok (a : ShapeT) : ∀ r, (g_class_Cores a) = some r → evD ctx 31 [(.d (D.agg [(intD a.total), (intD a.long), (intD a.most), (intD a.deadline), (intD a.period)]))] = some (g_class_Cores_e r) := by
 show Says _ (fun r rhs => rhs = some (g_class_Cores_e r)) _
 unfold g_class_Cores
 rw [evD_K ctx 31 fn31 _ rfl rfl]
 conv => arg 3; whnf
 refine sim_call g_class_Check_e (g_class_Check_ok a) rfl fun x0 hx0 => ?_
 conv => arg 3; whnf
 refine sim_br rfl ?_ ?_
 ·conv => arg 3; whnf
  exact sim_ret rfl
 ·conv => arg 3; whnf
  refine sim_call (g_class_of_e a) (g_class_of_ok a) rfl fun x1 hx1 => ?_
  clear hx1
  rcases x1 with x1 | x1
  ·conv => arg 3; whnf
   refine sim_call g_class_heavy_need_e (g_class_heavy_need_ok (HeavyT.mk a)) rfl fun x2 hx2 => ?_
   conv => arg 3; whnf
   exact sim_ret rfl
  ·conv => arg 3; whnf
   refine sim_call g_class_light_need_e (g_class_light_need_ok (LightT.mk a)) rfl fun x3 hx3 => ?_
   conv => arg 3; whnf
   exact sim_ret rfl
def g_class_Heavy_e (r : Bool) : D := (D.bool r)

set_option maxRecDepth 100000 in
set_option maxHeartbeats 40000000 in
theorem g_class_Heavy_ok (a : ShapeT) : ∀ r, (g_class_Heavy a) = some r → evD ctx 35 [(.d (D.agg [(intD a.total), (intD a.long), (intD a.most), (intD a.deadline), (intD a.period)]))] = some (g_class_Heavy_e r) := by
 show Says _ (fun r rhs => rhs = some (g_class_Heavy_e r)) _
 unfold g_class_Heavy
 rw [evD_K ctx 35 fn35 _ rfl rfl]
 conv => arg 3; whnf
 refine sim_call g_class_Check_e (g_class_Check_ok a) rfl fun x0 hx0 => ?_
 conv => arg 3; whnf
 refine sim_br rfl ?_ ?_
 ·conv => arg 3; whnf
  refine sim_call (g_class_of_e a) (g_class_of_ok a) rfl fun x1 hx1 => ?_
  clear hx1
  rcases x1 with x1 | x1
  ·conv => arg 3; whnf
   refine sim_call g_class_heavy_need_e (g_class_heavy_need_ok (HeavyT.mk a)) rfl fun x2 hx2 => ?_
   conv => arg 3; whnf
   refine sim_call g_class_light_need_e (g_class_light_need_ok (LightT.mk a)) rfl fun x3 hx3 => ?_
   conv => arg 3; whnf
   refine sim_br rfl ?_ ?_
   ·conv => arg 3; whnf
    exact sim_ret rfl
   ·conv => arg 3; whnf
    exact sim_ret rfl
  ·conv => arg 3; whnf
   refine sim_call g_class_light_need_e (g_class_light_need_ok (LightT.mk a)) rfl fun x4 hx4 => ?_
   conv => arg 3; whnf
   refine sim_call g_class_light_need_e (g_class_light_need_ok (LightT.mk a)) rfl fun x5 hx5 => ?_
   conv => arg 3; whnf
   refine sim_br rfl ?_ ?_
   ·conv => arg 3; whnf
    exact sim_ret rfl
   ·conv => arg 3; whnf
    exact sim_ret rfl
 ·conv => arg 3; whnf
  exact sim_ret rfl
def g_class_Bound_e (r : Int) : D := (intD r)

set_option maxRecDepth 100000 in
set_option maxHeartbeats 40000000 in
theorem g_class_Bound_ok (a : ShapeT) (b : Int) : ∀ r, (g_class_Bound a b) = some r → evD ctx 36 [(.d (D.agg [(intD a.total), (intD a.long), (intD a.most), (intD a.deadline), (intD a.period)])), (.d (intD b))] = some (g_class_Bound_e r) := by
 show Says _ (fun r rhs => rhs = some (g_class_Bound_e r)) _
 unfold g_class_Bound
 rw [evD_K ctx 36 fn36 _ rfl rfl]
 conv => arg 3; whnf
 refine sim_call g_class_Check_e (g_class_Check_ok a) rfl fun x0 hx0 => ?_
 conv => arg 3; whnf
 refine sim_br rfl ?_ ?_
 ·conv => arg 3; whnf
  exact sim_ret rfl
 ·conv => arg 3; whnf
  refine sim_br rfl ?_ ?_
  ·conv => arg 3; whnf
   exact sim_ret rfl
  ·conv => arg 3; whnf
   refine sim_br rfl ?_ ?_
   ·conv => arg 3; whnf
    exact sim_ret rfl
   ·conv => arg 3; whnf
    refine sim_br rfl ?_ ?_
    ·exact sim_none
    ·conv => arg 3; whnf
     exact sim_ret rfl
def g_law14_ClassLeast_e (r : Bool) : D := (D.bool r)

set_option maxRecDepth 100000 in
set_option maxHeartbeats 40000000 in
theorem g_law14_ClassLeast_ok (a : ShapeT) : ∀ r, (g_law14_ClassLeast a) = some r → evD ctx 11 [(.d (D.agg [(intD a.total), (intD a.long), (intD a.most), (intD a.deadline), (intD a.period)]))] = some (g_law14_ClassLeast_e r) := by
 show Says _ (fun r rhs => rhs = some (g_law14_ClassLeast_e r)) _
 unfold g_law14_ClassLeast
 rw [evD_K ctx 11 fn11 _ rfl rfl]
 conv => arg 3; whnf
 refine sim_call D.bool (g_law14_awake_ok) rfl fun x0 hx0 => ?_
 conv => arg 3; whnf
 refine sim_br rfl ?_ ?_
 ·conv => arg 3; whnf
  refine sim_call g_class_Cores_e (g_class_Cores_ok a) rfl fun x1 hx1 => ?_
  conv => arg 3; whnf
  refine sim_br rfl ?_ ?_
  ·conv => arg 3; whnf
   refine sim_br rfl ?_ ?_
   ·conv => arg 3; whnf
    exact sim_ret rfl
   ·conv => arg 3; whnf
    exact sim_ret rfl
  ·conv => arg 3; whnf
   refine sim_call g_class_Bound_e (g_class_Bound_ok a x1.1) rfl fun x2 hx2 => ?_
   conv => arg 3; whnf
   refine sim_br rfl ?_ ?_
   ·conv => arg 3; whnf
    exact sim_ret rfl
   ·conv => arg 3; whnf
    refine sim_br rfl ?_ ?_
    ·conv => arg 3; whnf
     exact sim_ret rfl
    ·conv => arg 3; whnf
     refine sim_call g_class_Heavy_e (g_class_Heavy_ok a) rfl fun x3 hx3 => ?_
     conv => arg 3; whnf
     refine sim_br rfl ?_ ?_
     ·conv => arg 3; whnf
      refine sim_call g_class_Heavy_e (g_class_Heavy_ok a) rfl fun x4 hx4 => ?_
      conv => arg 3; whnf
      refine sim_br rfl ?_ ?_
      ·conv => arg 3; whnf
       refine sim_br rfl ?_ ?_
       ·conv => arg 3; whnf
        refine sim_br rfl ?_ ?_
        ·conv => arg 3; whnf
         refine sim_br rfl ?_ ?_
         ·conv => arg 3; whnf
          exact sim_ret rfl
         ·conv => arg 3; whnf
          exact sim_ret rfl
        ·conv => arg 3; whnf
         exact sim_ret rfl
       ·conv => arg 3; whnf
        exact sim_ret rfl
      ·conv => arg 3; whnf
       exact sim_ret rfl
     ·conv => arg 3; whnf
      refine sim_br rfl ?_ ?_
      ·conv => arg 3; whnf
       exact sim_ret rfl
      ·conv => arg 3; whnf
       refine sim_call g_class_Heavy_e (g_class_Heavy_ok a) rfl fun x5 hx5 => ?_
       conv => arg 3; whnf
       refine sim_br rfl ?_ ?_
       ·conv => arg 3; whnf
        refine sim_br rfl ?_ ?_
        ·conv => arg 3; whnf
         refine sim_br rfl ?_ ?_
         ·conv => arg 3; whnf
          refine sim_br rfl ?_ ?_
          ·conv => arg 3; whnf
           exact sim_ret rfl
          ·conv => arg 3; whnf
           exact sim_ret rfl
         ·conv => arg 3; whnf
          exact sim_ret rfl
        ·conv => arg 3; whnf
         exact sim_ret rfl
       ·conv => arg 3; whnf
        exact sim_ret rfl
 ·conv => arg 3; whnf
  exact sim_ret rfl
end Go.Proofs.YtljgncbdagmeeaaDoor
