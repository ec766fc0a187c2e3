/- The walks: the evaluator says what the plain text says. -/
import Derived.Test.YtakebhleglnpjaaDoorQ1
import Derived.Test.YtakebhleglnpjaaDoorJ1
import Derived.KernelRfl
namespace Go.Proofs.YtakebhleglnpjaaDoor
open Go Go.Proofs.YtakebhleglnpjaaDoorE
set_option linter.unusedVariables false
set_option linter.unusedSimpArgs false

theorem g_law16_awake_ok : ∀ r, g_law16_awake = some r → evD ctx 28 [] = some (D.bool r) := fun r h => by
  cases h
  exact evD_of 100 (by kernel_rfl)
def g_law15_Own_e (t0 : Bool) (a : (List ShapeT)) : Unit → V × Heap
  | r => ((.sl 0 5), [(.arr 5 (List.map shapeD a))])

set_option maxRecDepth 100000 in
set_option maxHeartbeats 40000000 in
theorem g_law15_Own_ok (t0 : Bool) (a : (List ShapeT)) : ∀ r, (g_law15_Own a) = some r → evW ctx 30 [(.d (D.list t0 (List.map shapeD a)))] [] = some ((g_law15_Own_e t0 a) r) := by
 show Says _ (fun r rhs => rhs = some ((g_law15_Own_e t0 a) r)) _
 unfold g_law15_Own
 rw [evW_K ctx 30 fn30 _ _ rfl rfl]
 conv => arg 3; whnf
 refine sim_t (szAt_map (f := shapeD) (fun _ => ⟨rfl, rfl⟩) a 0) ?_
 conv => arg 3; whnf
 refine sim_br (ble_enc1 shapeD a) ?_ ?_
 ·conv => arg 3; whnf
  refine sim_let (rfl : _ = List.map shapeD a) ?_
  conv => arg 3; whnf
  exact sim_ret rfl
 ·exact sim_none
def g_num_Check_e (r : Int) : D := (intD r)

set_option maxRecDepth 100000 in
set_option maxHeartbeats 40000000 in
theorem g_num_Check_ok (a : Int) : ∀ r, (g_num_Check a) = some r → evD ctx 74 [(.d (intD a))] = some (g_num_Check_e r) := by
 show Says _ (fun r rhs => rhs = some (g_num_Check_e r)) _
 unfold g_num_Check
 rw [evD_K ctx 74 fn74 _ rfl rfl]
 conv => arg 3; whnf
 refine sim_br rfl ?_ ?_
 ·conv => arg 3; whnf
  exact sim_ret rfl
 ·conv => arg 3; whnf
  refine sim_br rfl ?_ ?_
  ·conv => arg 3; whnf
   exact sim_ret rfl
  ·conv => arg 3; whnf
   exact sim_ret rfl
def g_math_bits_OnesCount64_e (r : Int) : D := (intD r)

set_option maxRecDepth 100000 in
set_option maxHeartbeats 40000000 in
theorem g_math_bits_OnesCount64_ok (a : Int) : ∀ r, (g_math_bits_OnesCount64 a) = some r → evD ctx 95 [(.d (D.int .u64 a))] = some (g_math_bits_OnesCount64_e r) := by
 show Says _ (fun r rhs => rhs = some (g_math_bits_OnesCount64_e r)) _
 unfold g_math_bits_OnesCount64
 rw [evD_K ctx 95 fn95 _ rfl rfl]
 conv => arg 3; whnf
 refine sim_f rfl ?_
 conv => arg 3; whnf
 refine sim_f rfl ?_
 conv => arg 3; whnf
 refine sim_f rfl ?_
 conv => arg 3; whnf
 refine sim_f rfl ?_
 conv => arg 3; whnf
 refine sim_f rfl ?_
 conv => arg 3; whnf
 refine sim_f rfl ?_
 conv => arg 3; whnf
 exact sim_ret rfl
def g_math_bits_OnesCount_e (r : Int) : D := (intD r)

set_option maxRecDepth 100000 in
set_option maxHeartbeats 40000000 in
theorem g_math_bits_OnesCount_ok (a : Int) : ∀ r, (g_math_bits_OnesCount a) = some r → evD ctx 75 [(.d (D.int .u64 a))] = some (g_math_bits_OnesCount_e r) := by
 show Says _ (fun r rhs => rhs = some (g_math_bits_OnesCount_e r)) _
 unfold g_math_bits_OnesCount
 rw [evD_K ctx 75 fn75 _ rfl rfl]
 conv => arg 3; whnf
 refine sim_call g_math_bits_OnesCount64_e (g_math_bits_OnesCount64_ok a) rfl fun x0 hx0 => ?_
 conv => arg 3; whnf
 exact sim_ret rfl
theorem wrapU (n : Int) : 0 ≤ IntKind.u64.wrap n ∧ IntKind.u64.wrap n < 18446744073709551616 := by
  have : IntKind.u64.wrap n = n % 18446744073709551616 := by
    show (if (false && decide (n % 18446744073709551616 ≥ 9223372036854775808)) = true then n % 18446744073709551616 - 18446744073709551616 else n % 18446744073709551616) = _
    simp
  rw [this]
  omega
theorem shr58 (n : Int) : ∃ j : Nat, j < 64 ∧ (IntKind.u64.wrap n).fdiv (2 ^ (min (Int.toNat 58) IntKind.u64.bits)) = (j : Int) := by
  obtain ⟨h1, h2⟩ := wrapU n
  have e : (2 : Int) ^ (min (Int.toNat 58) IntKind.u64.bits) = 288230376151711744 := by decide
  rw [e, Int.fdiv_eq_ediv_of_nonneg _ (by omega)]
  refine ⟨((IntKind.u64.wrap n) / 288230376151711744).toNat, ?_, ?_⟩ <;> omega
theorem tab64 : ∀ j : Nat, j < 64 → loadE [] 1 false (.d (.rptr (glob1.drop (j * 1)))) = some (.d (.int .u8 (tz64tab.getD j 0))) := by
  have key : ((List.range 64).all fun j => match loadE [] 1 false (.d (.rptr (glob1.drop (j * 1)))) with | some (.d (.int .u8 z)) => z == tz64tab.getD j 0 | _ => false) = true := by rfl
  intro j hj
  have := List.all_eq_true.1 key j (by simpa using hj)
  split at this
  · rename_i z hz
    rw [hz, eq_of_beq this]
  · cases this
def g_math_bits_TrailingZeros64_e (r : Int) : D := intD r
set_option maxRecDepth 100000 in
theorem g_math_bits_TrailingZeros64_ok (a : Int) : ∀ r, g_math_bits_TrailingZeros64 a = some r → evD ctx 97 [.d (.int .u64 a)] = some (g_math_bits_TrailingZeros64_e r) := by
  intro r hr
  unfold g_math_bits_TrailingZeros64 at hr
  have hr := Option.some.inj hr
  subst hr
  rw [evD_K ctx 97 fn97 _ rfl rfl]
  by_cases h : (a == 0) = true
  · conv => lhs; whnf
    rw [h, br_t]
    rfl
  · replace h : (a == 0) = false := by simpa using h
    obtain ⟨j, hj, e⟩ := shr58 (IntKind.u64.wrap ((BitVec.ofInt IntKind.u64.bits a &&& BitVec.ofInt IntKind.u64.bits (IntKind.u64.wrap (0 - a))).toNat : Int) * 285870213051353865)
    conv => lhs; whnf
    rw [h, br_f]
    conv => lhs; whnf
    refine (br_ff (by rfl)).trans ?_
    conv => lhs; whnf
    rw [e]
    refine (br_tt (by simp; omega)).trans ?_
    conv => lhs; whnf
    erw [tab64 j hj]
    rfl
def g_math_bits_TrailingZeros_e (r : Int) : D := (intD r)

set_option maxRecDepth 100000 in
set_option maxHeartbeats 40000000 in
theorem g_math_bits_TrailingZeros_ok (a : Int) : ∀ r, (g_math_bits_TrailingZeros a) = some r → evD ctx 76 [(.d (D.int .u64 a))] = some (g_math_bits_TrailingZeros_e r) := by
 show Says _ (fun r rhs => rhs = some (g_math_bits_TrailingZeros_e r)) _
 unfold g_math_bits_TrailingZeros
 rw [evD_K ctx 76 fn76 _ rfl rfl]
 conv => arg 3; whnf
 refine sim_call g_math_bits_TrailingZeros64_e (g_math_bits_TrailingZeros64_ok a) rfl fun x0 hx0 => ?_
 conv => arg 3; whnf
 exact sim_ret rfl
def g_num_Two_e (r : (Int × Bool)) : D := (D.tup [(intD r.1), (D.bool r.2)])

set_option maxRecDepth 100000 in
set_option maxHeartbeats 40000000 in
theorem g_num_Two_ok (a : Int) : ∀ r, (g_num_Two a) = some r → evD ctx 38 [(.d (intD a))] = some (g_num_Two_e r) := by
 show Says _ (fun r rhs => rhs = some (g_num_Two_e r)) _
 unfold g_num_Two
 rw [evD_K ctx 38 fn38 _ rfl rfl]
 conv => arg 3; whnf
 refine sim_call g_num_Check_e (g_num_Check_ok a) rfl fun x0 hx0 => ?_
 conv => arg 3; whnf
 refine sim_br rfl ?_ ?_
 ·conv => arg 3; whnf
  exact sim_ret rfl
 ·conv => arg 3; whnf
  refine sim_call g_math_bits_OnesCount_e (g_math_bits_OnesCount_ok (IntKind.u64.wrap a)) rfl fun x1 hx1 => ?_
  conv => arg 3; whnf
  refine sim_br rfl ?_ ?_
  ·conv => arg 3; whnf
   exact sim_ret rfl
  ·conv => arg 3; whnf
   refine sim_call g_math_bits_TrailingZeros_e (g_math_bits_TrailingZeros_ok (IntKind.u64.wrap a)) rfl fun x2 hx2 => ?_
   conv => arg 3; whnf
   exact sim_ret rfl
def g_class_Check_1_e (r : Bool) : D := (D.bool r)

set_option maxRecDepth 100000 in
set_option maxHeartbeats 40000000 in
theorem g_class_Check_1_ok (a : Int) (b : Int) : ∀ r, (g_class_Check_1 a b) = some r → evD ctx 90 [(.d (intD a)), (.d (intD b))] = some (g_class_Check_1_e r) := by
 show Says _ (fun r rhs => rhs = some (g_class_Check_1_e r)) _
 unfold g_class_Check_1
 rw [evD_K ctx 90 fn90 _ rfl rfl]
 conv => arg 3; whnf
 refine sim_br rfl ?_ ?_
 ·conv => arg 3; whnf
  refine sim_br rfl ?_ ?_
  ·conv => arg 3; whnf
   exact sim_ret rfl
  ·conv => arg 3; whnf
   exact sim_ret rfl
 ·conv => arg 3; whnf
  exact sim_ret rfl
def g_class_Check_e (r : Int) : D := (intD r)

set_option maxRecDepth 100000 in
set_option maxHeartbeats 40000000 in
theorem g_class_Check_ok (a : ShapeT) : ∀ r, (g_class_Check a) = some r → evD ctx 70 [(.d (D.agg [(intD a.total), (intD a.long), (intD a.most), (intD a.deadline), (intD a.period)]))] = some (g_class_Check_e r) := by
 show Says _ (fun r rhs => rhs = some (g_class_Check_e r)) _
 unfold g_class_Check
 rw [evD_K ctx 70 fn70 _ rfl rfl]
 conv => arg 3; whnf
 refine sim_call g_num_Two_e (g_num_Two_ok a.period) rfl fun x0 hx0 => ?_
 conv => arg 3; whnf
 refine sim_br rfl ?_ ?_
 ·conv => arg 3; whnf
  refine sim_br rfl ?_ ?_
  ·conv => arg 3; whnf
   exact sim_ret rfl
  ·conv => arg 3; whnf
   refine sim_call g_class_Check_1_e (g_class_Check_1_ok a.deadline a.period) rfl fun x1 hx1 => ?_
   conv => arg 3; whnf
   refine sim_br rfl ?_ ?_
   ·conv => arg 3; whnf
    refine sim_call g_class_Check_1_e (g_class_Check_1_ok a.total 4096) rfl fun x2 hx2 => ?_
    conv => arg 3; whnf
    refine sim_br rfl ?_ ?_
    ·conv => arg 3; whnf
     refine sim_call g_class_Check_1_e (g_class_Check_1_ok a.long a.total) rfl fun x3 hx3 => ?_
     conv => arg 3; whnf
     refine sim_br rfl ?_ ?_
     ·conv => arg 3; whnf
      refine sim_call g_class_Check_1_e (g_class_Check_1_ok a.most a.long) rfl fun x4 hx4 => ?_
      conv => arg 3; whnf
      refine sim_br rfl ?_ ?_
      ·conv => arg 3; whnf
       exact sim_ret rfl
      ·conv => arg 3; whnf
       exact sim_ret rfl
     ·conv => arg 3; whnf
      exact sim_ret rfl
    ·conv => arg 3; whnf
     exact sim_ret rfl
   ·conv => arg 3; whnf
    exact sim_ret rfl
 ·conv => arg 3; whnf
  exact sim_ret rfl
def g_class_of_e (a : ShapeT) : (Unit ⊕ Unit) → D
  | (.inl r) => (D.iface 120 (D.agg [(intD a.total), (intD a.long), (intD a.most), (intD a.deadline), (intD a.period)]))
  | (.inr r) => (D.iface 107 (D.agg [(intD a.total), (intD a.long), (intD a.most), (intD a.deadline), (intD a.period)]))

set_option maxRecDepth 100000 in
set_option maxHeartbeats 40000000 in
theorem g_class_of_ok (a : ShapeT) : ∀ r, (g_class_of a) = some r → evD ctx 91 [(.d (D.agg [(intD a.total), (intD a.long), (intD a.most), (intD a.deadline), (intD a.period)]))] = some ((g_class_of_e a) r) := by
 show Says _ (fun r rhs => rhs = some ((g_class_of_e a) r)) _
 unfold g_class_of
 rw [evD_K ctx 91 fn91 _ rfl rfl]
 conv => arg 3; whnf
 refine sim_br rfl ?_ ?_
 ·conv => arg 3; whnf
  exact sim_ret rfl
 ·conv => arg 3; whnf
  exact sim_ret rfl
def g_num_Up_1_e (r : Int) : D := (intD r)

set_option maxRecDepth 100000 in
set_option maxHeartbeats 40000000 in
theorem g_num_Up_1_ok (a0 : Int) : ∀ r, (g_num_Up_1 a0) = some r → evD ctx 133 [(.d (D.rptr [(intD a0)]))] = some (g_num_Up_1_e r) := by
 show Says _ (fun r rhs => rhs = some (g_num_Up_1_e r)) _
 unfold g_num_Up_1
 rw [evD_K ctx 133 fn133 _ rfl rfl]
 conv => arg 3; whnf
 exact sim_ret rfl
def g_num_first_1_e (r : Bool) : D := (D.bool r)

set_option maxRecDepth 100000 in
set_option maxHeartbeats 40000000 in
theorem g_num_first_1_ok (a : Int) : ∀ r, (g_num_first_1 a) = some r → evD ctx 135 [(.d (intD a))] = some (g_num_first_1_e r) := by
 show Says _ (fun r rhs => rhs = some (g_num_first_1_e r)) _
 unfold g_num_first_1
 rw [evD_K ctx 135 fn135 _ rfl rfl]
 conv => arg 3; whnf
 refine sim_call g_num_Check_e (g_num_Check_ok a) rfl fun x0 hx0 => ?_
 conv => arg 3; whnf
 refine sim_br rfl ?_ ?_
 ·conv => arg 3; whnf
  exact sim_ret rfl
 ·conv => arg 3; whnf
  exact sim_ret rfl
def g_slices_IndexFunc_l_int_int__num_first_1_e (r : Int) : D := (intD r)

def g_slices_IndexFunc_l_int_int__num_first_1_L0_x (t0 : Bool) (a : (List Int)) : (Int ⊕ Unit) → Ex × List V × Heap
  | (.inl r) => (.ret, [(.d (intD r))], [])
  | (.inr r) => (.exit 0, [.bad], [])

set_option maxRecDepth 100000 in
set_option maxHeartbeats 40000000 in
theorem g_slices_IndexFunc_l_int_int__num_first_1_L0_ok (t0 : Bool) (a : (List Int)) : ∀ (s0 : Int) (r : (Int ⊕ Unit)), lp (g_slices_IndexFunc_l_int_int_L0 a (fun z0 => g_num_first_1 z0)) s0 = some r → lpW ctx 0 [0, 1, 7, 8] [4] ir81L0 [(.d (D.list t0 (List.map intD a))), (.d (D.fn 135 [])), (.d (intD (a.length : Int))), (.d (intD s0))] [] = some ((g_slices_IndexFunc_l_int_int__num_first_1_L0_x t0 a) r) := by
 refine lp_ok (g_slices_IndexFunc_l_int_int__num_first_1_L0_x t0 a) ?_
 intro s0 rcl ih
 show Says _ _ (lpW _ _ _ _ _ _ _)
 unfold g_slices_IndexFunc_l_int_int_L0
 rw [lpW_b]
 conv => arg 3; whnf
 refine sim_br rfl ?_ ?_
 ·conv => arg 3; whnf
  refine sim_get (f := intD) rfl rfl fun x1 hx1 => ?_
  conv => arg 3; whnf
  refine sim_call g_num_first_1_e (g_num_first_1_ok x1) rfl fun x2 hx2 => ?_
  conv => arg 3; whnf
  refine sim_br rfl ?_ ?_
  ·conv => arg 3; whnf
   exact sim_ret rfl
  ·conv => arg 3; whnf
   exact sim_again (ih (w64 (s0 + 1)))
 ·conv => arg 3; whnf
  exact sim_ret rfl

set_option maxRecDepth 100000 in
set_option maxHeartbeats 40000000 in
theorem g_slices_IndexFunc_l_int_int__num_first_1_ok (t0 : Bool) (a : (List Int)) : ∀ r, (g_slices_IndexFunc_l_int_int a (fun z0 => g_num_first_1 z0)) = some r → evD ctx 81 [(.d (D.list t0 (List.map intD a))), (.d (D.fn 135 []))] = some (g_slices_IndexFunc_l_int_int__num_first_1_e r) := by
 show Says _ (fun r rhs => rhs = some (g_slices_IndexFunc_l_int_int__num_first_1_e r)) _
 unfold g_slices_IndexFunc_l_int_int
 rw [evD_K ctx 81 fn81 _ rfl rfl]
 conv => arg 3; whnf
 refine sim_let (x' := (a.length : Int)) (len_enc intD a) ?_
 conv => arg 3; whnf
 refine sim_bind (g_slices_IndexFunc_l_int_int__num_first_1_L0_x t0 a) (g_slices_IndexFunc_l_int_int__num_first_1_L0_ok t0 a 0) fun r3 hr3 => ?_
 clear hr3
 rcases r3 with r3 | r3
 ·conv => arg 3; whnf
  exact sim_ret rfl
 ·conv => arg 3; whnf
  exact sim_ret rfl
def g_num_first_e (r : Int) : D := (intD r)

set_option maxRecDepth 100000 in
set_option maxHeartbeats 40000000 in
theorem g_num_first_ok (t0 : Bool) (a : (List Int)) : ∀ r, (g_num_first a) = some r → evD ctx 134 [(.d (D.list t0 (List.map intD a)))] = some (g_num_first_e r) := by
 show Says _ (fun r rhs => rhs = some (g_num_first_e r)) _
 unfold g_num_first
 rw [evD_K ctx 134 fn134 _ rfl rfl]
 conv => arg 3; whnf
 refine sim_call g_slices_IndexFunc_l_int_int__num_first_1_e (g_slices_IndexFunc_l_int_int__num_first_1_ok t0 a) rfl fun x0 hx0 => ?_
 conv => arg 3; whnf
 refine sim_br rfl ?_ ?_
 ·conv => arg 3; whnf
  exact sim_ret rfl
 ·conv => arg 3; whnf
  refine sim_get (f := intD) rfl rfl fun x1 hx1 => ?_
  conv => arg 3; whnf
  refine sim_call g_num_Check_e (g_num_Check_ok x1) rfl fun x2 hx2 => ?_
  conv => arg 3; whnf
  exact sim_ret rfl
def g_num_quotient__num_Up_1_e (r : (Int × Int)) : D := (D.tup [(intD r.1), (intD r.2)])

set_option maxRecDepth 100000 in
set_option maxHeartbeats 40000000 in
theorem g_num_quotient__num_Up_1_ok (a : Int) (b : Int) (c0 : Int) : ∀ r, (g_num_quotient a b (g_num_Up_1 c0)) = some r → evD ctx 132 [(.d (intD a)), (.d (intD b)), (.d (D.fn 133 [(D.rptr [(intD c0)])]))] = some (g_num_quotient__num_Up_1_e r) := by
 show Says _ (fun r rhs => rhs = some (g_num_quotient__num_Up_1_e r)) _
 unfold g_num_quotient
 rw [evD_K ctx 132 fn132 _ rfl rfl]
 conv => arg 3; whnf
 refine sim_call g_num_first_e (g_num_first_ok false [a, b]) rfl fun x0 hx0 => ?_
 conv => arg 3; whnf
 refine sim_br rfl ?_ ?_
 ·conv => arg 3; whnf
  exact sim_ret rfl
 ·conv => arg 3; whnf
  refine sim_br rfl ?_ ?_
  ·conv => arg 3; whnf
   exact sim_ret rfl
  ·conv => arg 3; whnf
   refine sim_call g_num_Up_1_e (g_num_Up_1_ok c0) rfl fun x1 hx1 => ?_
   conv => arg 3; whnf
   refine sim_br rfl ?_ ?_
   ·exact sim_none
   ·conv => arg 3; whnf
    exact sim_ret rfl
def g_num_Up_e (r : (Int × Int)) : D := (D.tup [(intD r.1), (intD r.2)])

set_option maxRecDepth 100000 in
set_option maxHeartbeats 40000000 in
theorem g_num_Up_ok (a : Int) (b : Int) : ∀ r, (g_num_Up a b) = some r → evD ctx 131 [(.d (intD a)), (.d (intD b))] = some (g_num_Up_e r) := by
 show Says _ (fun r rhs => rhs = some (g_num_Up_e r)) _
 unfold g_num_Up
 rw [evD_K ctx 131 fn131 _ rfl rfl]
 conv => arg 3; whnf
 refine sim_call g_num_quotient__num_Up_1_e (g_num_quotient__num_Up_1_ok a b b) rfl fun x0 hx0 => ?_
 conv => arg 3; whnf
 exact sim_ret rfl
def g_class_heavy_need_e (r : VerdictT) : D := (D.agg [(intD r.cores), (intD r.e)])

set_option maxRecDepth 100000 in
set_option maxHeartbeats 40000000 in
theorem g_class_heavy_need_ok (a : HeavyT) : ∀ r, (g_class_heavy_need a) = some r → evD ctx 130 [(.d (D.agg [(intD a.shape.total), (intD a.shape.long), (intD a.shape.most), (intD a.shape.deadline), (intD a.shape.period)]))] = some (g_class_heavy_need_e r) := by
 show Says _ (fun r rhs => rhs = some (g_class_heavy_need_e r)) _
 unfold g_class_heavy_need
 rw [evD_K ctx 130 fn130 _ rfl rfl]
 conv => arg 3; whnf
 refine sim_br rfl ?_ ?_
 ·conv => arg 3; whnf
  exact sim_ret rfl
 ·conv => arg 3; whnf
  refine sim_call g_num_Up_e (g_num_Up_ok (w64 (a.shape.total - a.shape.long)) (w64 (a.shape.deadline - a.shape.long))) rfl fun x0 hx0 => ?_
  conv => arg 3; whnf
  refine sim_br rfl ?_ ?_
  ·conv => arg 3; whnf
   refine sim_br rfl ?_ ?_
   ·conv => arg 3; whnf
    exact sim_ret rfl
   ·conv => arg 3; whnf
    exact sim_ret rfl
  ·conv => arg 3; whnf
   exact sim_ret rfl
def g_class_light_need_e (r : VerdictT) : D := (D.agg [(intD r.cores), (intD r.e)])

set_option maxRecDepth 100000 in
set_option maxHeartbeats 40000000 in
theorem g_class_light_need_ok (a : LightT) : ∀ r, (g_class_light_need a) = some r → evD ctx 92 [(.d (D.agg [(intD a.shape.total), (intD a.shape.long), (intD a.shape.most), (intD a.shape.deadline), (intD a.shape.period)]))] = some (g_class_light_need_e r) := by
 show Says _ (fun r rhs => rhs = some (g_class_light_need_e r)) _
 unfold g_class_light_need
 rw [evD_K ctx 92 fn92 _ rfl rfl]
 conv => arg 3; whnf
 exact sim_ret rfl
def g_class_Heavy_e (r : Bool) : D := (D.bool r)

set_option maxRecDepth 100000 in
set_option maxHeartbeats 40000000 in
theorem g_class_Heavy_ok (a : ShapeT) : ∀ r, (g_class_Heavy a) = some r → evD ctx 71 [(.d (D.agg [(intD a.total), (intD a.long), (intD a.most), (intD a.deadline), (intD a.period)]))] = some (g_class_Heavy_e r) := by
 show Says _ (fun r rhs => rhs = some (g_class_Heavy_e r)) _
 unfold g_class_Heavy
 rw [evD_K ctx 71 fn71 _ rfl rfl]
 conv => arg 3; whnf
 refine sim_call g_class_Check_e (g_class_Check_ok a) rfl fun x0 hx0 => ?_
 conv => arg 3; whnf
 refine sim_br rfl ?_ ?_
 ·conv => arg 3; whnf
  refine sim_call (g_class_of_e a) (g_class_of_ok a) rfl fun x1 hx1 => ?_
  clear hx1
  rcases x1 with x1 | x1
  ·conv => arg 3; whnf
   refine sim_call g_class_heavy_need_e (g_class_heavy_need_ok (HeavyT.mk a)) rfl fun x2 hx2 => ?_
   conv => arg 3; whnf
   refine sim_call g_class_light_need_e (g_class_light_need_ok (LightT.mk a)) rfl fun x3 hx3 => ?_
   conv => arg 3; whnf
   refine sim_br rfl ?_ ?_
   ·conv => arg 3; whnf
    exact sim_ret rfl
   ·conv => arg 3; whnf
    exact sim_ret rfl
  ·conv => arg 3; whnf
   refine sim_call g_class_light_need_e (g_class_light_need_ok (LightT.mk a)) rfl fun x4 hx4 => ?_
   conv => arg 3; whnf
   refine sim_call g_class_light_need_e (g_class_light_need_ok (LightT.mk a)) rfl fun x5 hx5 => ?_
   conv => arg 3; whnf
   refine sim_br rfl ?_ ?_
   ·conv => arg 3; whnf
    exact sim_ret rfl
   ·conv => arg 3; whnf
    exact sim_ret rfl
 ·conv => arg 3; whnf
  exact sim_ret rfl
def g_edf_Check_1_e (r : Bool) : D := (D.bool r)

set_option maxRecDepth 100000 in
set_option maxHeartbeats 40000000 in
theorem g_edf_Check_1_ok (a : ShapeT) : ∀ r, (g_edf_Check_1 a) = some r → evD ctx 69 [(.d (D.agg [(intD a.total), (intD a.long), (intD a.most), (intD a.deadline), (intD a.period)]))] = some (g_edf_Check_1_e r) := by
 show Says _ (fun r rhs => rhs = some (g_edf_Check_1_e r)) _
 unfold g_edf_Check_1
 rw [evD_K ctx 69 fn69 _ rfl rfl]
 conv => arg 3; whnf
 refine sim_call g_class_Check_e (g_class_Check_ok a) rfl fun x0 hx0 => ?_
 conv => arg 3; whnf
 refine sim_br rfl ?_ ?_
 ·conv => arg 3; whnf
  exact sim_ret rfl
 ·conv => arg 3; whnf
  refine sim_call g_class_Heavy_e (g_class_Heavy_ok a) rfl fun x1 hx1 => ?_
  conv => arg 3; whnf
  refine sim_br rfl ?_ ?_
  ·conv => arg 3; whnf
   exact sim_ret rfl
  ·conv => arg 3; whnf
   exact sim_ret rfl
def g_slices_IndexFunc_l_Shape_Shape__edf_Check_1_e (r : Int) : D := (intD r)

def g_slices_IndexFunc_l_Shape_Shape__edf_Check_1_L0_x (t0 : Bool) (a : (List ShapeT)) : (Int ⊕ Unit) → Ex × List V × Heap
  | (.inl r) => (.ret, [(.d (intD r))], [])
  | (.inr r) => (.exit 0, [.bad], [])

set_option maxRecDepth 100000 in
set_option maxHeartbeats 40000000 in
theorem g_slices_IndexFunc_l_Shape_Shape__edf_Check_1_L0_ok (t0 : Bool) (a : (List ShapeT)) : ∀ (s0 : Int) (r : (Int ⊕ Unit)), lp (g_slices_IndexFunc_l_Shape_Shape_L0 a (fun z0 => g_edf_Check_1 z0)) s0 = some r → lpW ctx 0 [0, 1, 7, 8] [4] ir93L0 [(.d (D.list t0 (List.map shapeD a))), (.d (D.fn 69 [])), (.d (intD (a.length : Int))), (.d (intD s0))] [] = some ((g_slices_IndexFunc_l_Shape_Shape__edf_Check_1_L0_x t0 a) r) := by
 refine lp_ok (g_slices_IndexFunc_l_Shape_Shape__edf_Check_1_L0_x t0 a) ?_
 intro s0 rcl ih
 show Says _ _ (lpW _ _ _ _ _ _ _)
 unfold g_slices_IndexFunc_l_Shape_Shape_L0
 rw [lpW_b]
 conv => arg 3; whnf
 refine sim_br rfl ?_ ?_
 ·conv => arg 3; whnf
  refine sim_get (f := shapeD) rfl rfl fun x1 hx1 => ?_
  conv => arg 3; whnf
  refine sim_call g_edf_Check_1_e (g_edf_Check_1_ok x1) rfl fun x2 hx2 => ?_
  conv => arg 3; whnf
  refine sim_br rfl ?_ ?_
  ·conv => arg 3; whnf
   exact sim_ret rfl
  ·conv => arg 3; whnf
   exact sim_again (ih (w64 (s0 + 1)))
 ·conv => arg 3; whnf
  exact sim_ret rfl

set_option maxRecDepth 100000 in
set_option maxHeartbeats 40000000 in
theorem g_slices_IndexFunc_l_Shape_Shape__edf_Check_1_ok (t0 : Bool) (a : (List ShapeT)) : ∀ r, (g_slices_IndexFunc_l_Shape_Shape a (fun z0 => g_edf_Check_1 z0)) = some r → evD ctx 93 [(.d (D.list t0 (List.map shapeD a))), (.d (D.fn 69 []))] = some (g_slices_IndexFunc_l_Shape_Shape__edf_Check_1_e r) := by
 show Says _ (fun r rhs => rhs = some (g_slices_IndexFunc_l_Shape_Shape__edf_Check_1_e r)) _
 unfold g_slices_IndexFunc_l_Shape_Shape
 rw [evD_K ctx 93 fn93 _ rfl rfl]
 conv => arg 3; whnf
 refine sim_let (x' := (a.length : Int)) (len_enc shapeD a) ?_
 conv => arg 3; whnf
 refine sim_bind (g_slices_IndexFunc_l_Shape_Shape__edf_Check_1_L0_x t0 a) (g_slices_IndexFunc_l_Shape_Shape__edf_Check_1_L0_ok t0 a 0) fun r3 hr3 => ?_
 clear hr3
 rcases r3 with r3 | r3
 ·conv => arg 3; whnf
  exact sim_ret rfl
 ·conv => arg 3; whnf
  exact sim_ret rfl
def g_slices_ContainsFunc_l_Shape_Shape__edf_Check_1_e (r : Bool) : D := (D.bool r)

set_option maxRecDepth 100000 in
set_option maxHeartbeats 40000000 in
theorem g_slices_ContainsFunc_l_Shape_Shape__edf_Check_1_ok (t0 : Bool) (a : (List ShapeT)) : ∀ r, (g_slices_ContainsFunc_l_Shape_Shape a (fun z0 => g_edf_Check_1 z0)) = some r → evD ctx 72 [(.d (D.list t0 (List.map shapeD a))), (.d (D.fn 69 []))] = some (g_slices_ContainsFunc_l_Shape_Shape__edf_Check_1_e r) := by
 show Says _ (fun r rhs => rhs = some (g_slices_ContainsFunc_l_Shape_Shape__edf_Check_1_e r)) _
 unfold g_slices_ContainsFunc_l_Shape_Shape
 rw [evD_K ctx 72 fn72 _ rfl rfl]
 conv => arg 3; whnf
 refine sim_call g_slices_IndexFunc_l_Shape_Shape__edf_Check_1_e (g_slices_IndexFunc_l_Shape_Shape__edf_Check_1_ok t0 a) rfl fun x0 hx0 => ?_
 conv => arg 3; whnf
 refine sim_br rfl ?_ ?_
 ·conv => arg 3; whnf
  exact sim_ret rfl
 ·conv => arg 3; whnf
  exact sim_ret rfl
def g_edf_Check_e (r : Int) : D := (intD r)

set_option maxRecDepth 100000 in
set_option maxHeartbeats 40000000 in
theorem g_edf_Check_ok (t0 : Bool) (a : (List ShapeT)) : ∀ r, (g_edf_Check a) = some r → evD ctx 34 [(.d (D.list t0 (List.map shapeD a)))] = some (g_edf_Check_e r) := by
 show Says _ (fun r rhs => rhs = some (g_edf_Check_e r)) _
 unfold g_edf_Check
 rw [evD_K ctx 34 fn34 _ rfl rfl]
 conv => arg 3; whnf
 refine sim_let (x' := (a.length : Int)) (len_enc shapeD a) ?_
 conv => arg 3; whnf
 refine sim_br rfl ?_ ?_
 ·conv => arg 3; whnf
  exact sim_ret rfl
 ·conv => arg 3; whnf
  refine sim_call g_slices_ContainsFunc_l_Shape_Shape__edf_Check_1_e (g_slices_ContainsFunc_l_Shape_Shape__edf_Check_1_ok t0 a) rfl fun x0 hx0 => ?_
  conv => arg 3; whnf
  refine sim_br rfl ?_ ?_
  ·conv => arg 3; whnf
   exact sim_ret rfl
  ·conv => arg 3; whnf
   exact sim_ret rfl
def g_part_within_e (r : Bool) : D := (D.bool r)

set_option maxRecDepth 100000 in
set_option maxHeartbeats 40000000 in
theorem g_part_within_ok (a : Int) : ∀ r, (g_part_within a) = some r → evD ctx 63 [(.d (intD a))] = some (g_part_within_e r) := by
 show Says _ (fun r rhs => rhs = some (g_part_within_e r)) _
 unfold g_part_within
 rw [evD_K ctx 63 fn63 _ rfl rfl]
 conv => arg 3; whnf
 refine sim_br rfl ?_ ?_
 ·conv => arg 3; whnf
  refine sim_br rfl ?_ ?_
  ·conv => arg 3; whnf
   exact sim_ret rfl
  ·conv => arg 3; whnf
   exact sim_ret rfl
 ·conv => arg 3; whnf
  exact sim_ret rfl
def g_part_Order_1_e (r : Int) : D := (intD r)

set_option maxRecDepth 100000 in
set_option maxHeartbeats 40000000 in
theorem g_part_Order_1_ok (t0 : Bool) (a : Int) (b : Int) (c0 : (List ShapeT)) : ∀ r, (g_part_Order_1 a b c0) = some r → evD ctx 73 [(.d (intD a)), (.d (intD b)), (.d (D.rptr [(D.list t0 (List.map shapeD c0))]))] = some (g_part_Order_1_e r) := by
 show Says _ (fun r rhs => rhs = some (g_part_Order_1_e r)) _
 unfold g_part_Order_1
 rw [evD_K ctx 73 fn73 _ rfl rfl]
 conv => arg 3; whnf
 refine sim_get (f := shapeD) rfl rfl fun x0 hx0 => ?_
 conv => arg 3; whnf
 refine sim_get (f := shapeD) rfl rfl fun x1 hx1 => ?_
 conv => arg 3; whnf
 refine sim_br rfl ?_ ?_
 ·conv => arg 3; whnf
  exact sim_ret rfl
 ·conv => arg 3; whnf
  refine sim_known (get_of (f := shapeD) rfl hx0) ?_
  conv => arg 3; whnf
  refine sim_known (get_of (f := shapeD) rfl hx1) ?_
  conv => arg 3; whnf
  refine sim_br rfl ?_ ?_
  ·conv => arg 3; whnf
   exact sim_ret rfl
  ·conv => arg 3; whnf
   exact sim_ret rfl
def g_math_bits_Len64_e (r : Int) : D := (intD r)

set_option maxRecDepth 100000 in
set_option maxHeartbeats 40000000 in
theorem g_math_bits_Len64_ok (a : Int) : ∀ r, (g_math_bits_Len64 a) = some r → evD ctx 107 [(.d (D.int .u64 a))] = some (g_math_bits_Len64_e r) := by
 show Says _ (fun r rhs => rhs = some (g_math_bits_Len64_e r)) _
 unfold g_math_bits_Len64
 rw [evD_K ctx 107 fn107 _ rfl rfl]
 conv => arg 3; whnf
 refine sim_br rfl ?_ ?_
 ·conv => arg 3; whnf
  refine sim_f rfl ?_
  conv => arg 3; whnf
  refine sim_br rfl ?_ ?_
  ·conv => arg 3; whnf
   refine sim_f rfl ?_
   conv => arg 3; whnf
   refine sim_br rfl ?_ ?_
   ·conv => arg 3; whnf
    refine sim_f rfl ?_
    conv => arg 3; whnf
    refine sim_br rfl ?_ ?_
    ·conv => arg 3; whnf
     refine sim_same rfl fun x0 hx0 => ?_
     conv => arg 3; whnf
     exact sim_ret rfl
    ·exact sim_none
   ·conv => arg 3; whnf
    refine sim_br rfl ?_ ?_
    ·conv => arg 3; whnf
     refine sim_same rfl fun x1 hx1 => ?_
     conv => arg 3; whnf
     exact sim_ret rfl
    ·exact sim_none
  ·conv => arg 3; whnf
   refine sim_br rfl ?_ ?_
   ·conv => arg 3; whnf
    refine sim_f rfl ?_
    conv => arg 3; whnf
    refine sim_br rfl ?_ ?_
    ·conv => arg 3; whnf
     refine sim_same rfl fun x2 hx2 => ?_
     conv => arg 3; whnf
     exact sim_ret rfl
    ·exact sim_none
   ·conv => arg 3; whnf
    refine sim_br rfl ?_ ?_
    ·conv => arg 3; whnf
     refine sim_same rfl fun x3 hx3 => ?_
     conv => arg 3; whnf
     exact sim_ret rfl
    ·exact sim_none
 ·conv => arg 3; whnf
  refine sim_br rfl ?_ ?_
  ·conv => arg 3; whnf
   refine sim_f rfl ?_
   conv => arg 3; whnf
   refine sim_br rfl ?_ ?_
   ·conv => arg 3; whnf
    refine sim_f rfl ?_
    conv => arg 3; whnf
    refine sim_br rfl ?_ ?_
    ·conv => arg 3; whnf
     refine sim_same rfl fun x4 hx4 => ?_
     conv => arg 3; whnf
     exact sim_ret rfl
    ·exact sim_none
   ·conv => arg 3; whnf
    refine sim_br rfl ?_ ?_
    ·conv => arg 3; whnf
     refine sim_same rfl fun x5 hx5 => ?_
     conv => arg 3; whnf
     exact sim_ret rfl
    ·exact sim_none
  ·conv => arg 3; whnf
   refine sim_br rfl ?_ ?_
   ·conv => arg 3; whnf
    refine sim_f rfl ?_
    conv => arg 3; whnf
    refine sim_br rfl ?_ ?_
    ·conv => arg 3; whnf
     refine sim_same rfl fun x6 hx6 => ?_
     conv => arg 3; whnf
     exact sim_ret rfl
    ·exact sim_none
   ·conv => arg 3; whnf
    refine sim_br rfl ?_ ?_
    ·conv => arg 3; whnf
     refine sim_same rfl fun x7 hx7 => ?_
     conv => arg 3; whnf
     exact sim_ret rfl
    ·exact sim_none
def g_math_bits_Len_e (r : Int) : D := (intD r)

set_option maxRecDepth 100000 in
set_option maxHeartbeats 40000000 in
theorem g_math_bits_Len_ok (a : Int) : ∀ r, (g_math_bits_Len a) = some r → evD ctx 85 [(.d (D.int .u64 a))] = some (g_math_bits_Len_e r) := by
 show Says _ (fun r rhs => rhs = some (g_math_bits_Len_e r)) _
 unfold g_math_bits_Len
 rw [evD_K ctx 85 fn85 _ rfl rfl]
 conv => arg 3; whnf
 refine sim_call g_math_bits_Len64_e (g_math_bits_Len64_ok a) rfl fun x0 hx0 => ?_
 conv => arg 3; whnf
 exact sim_ret rfl
def g_slices_insertionSortCmpFunc_int__part_Order_1_e (t0 : Bool) (b : Int) (c : Int) (m0_0 : (List Int)) (m1_0 : (List ShapeT)) : (List Int) → V × Heap
  | r => ((.d (D.tup [])), [(.arr 1 (List.map intD r)), (.cells [(.d (D.list t0 (List.map shapeD m1_0)))])])

def g_slices_insertionSortCmpFunc_int__part_Order_1_L0_x (t0 : Bool) (b : Int) (c : Int) (m1_0 : (List ShapeT)) (s0 : Int × (List Int)) : (List Int) → Ex × List V × Heap
  | r => (.exit 2, [(.sl 0 1), (.d (intD b)), (.d (intD c)), (.fn 73 [(.ptr 1 0)]), (.d (intD s0.1))], [(.arr 1 (List.map intD r)), (.cells [(.d (D.list t0 (List.map shapeD m1_0)))])])

set_option maxRecDepth 100000 in
set_option maxHeartbeats 40000000 in
theorem g_slices_insertionSortCmpFunc_int__part_Order_1_L0_ok (t0 : Bool) (b : Int) (c : Int) (m1_0 : (List ShapeT)) (s0 : Int × (List Int)) : ∀ (s1 : Int × (List Int)) (r : (List Int)), lp (g_slices_insertionSortCmpFunc_int_L0 b (fun z0 z1 => g_part_Order_1 z0 z1 m1_0)) s1 = some r → lpW ctx 2 [0, 1, 2, 3, 8, 9] [0, 1, 2, 3, 8] ir98L0 [(.sl 0 1), (.d (intD b)), (.d (intD c)), (.fn 73 [(.ptr 1 0)]), (.d (intD s0.1)), (.d (intD s1.1))] [(.arr 1 (List.map intD s1.2)), (.cells [(.d (D.list t0 (List.map shapeD m1_0)))])] = some ((g_slices_insertionSortCmpFunc_int__part_Order_1_L0_x t0 b c m1_0 s0) r) := by
 refine lp_ok (g_slices_insertionSortCmpFunc_int__part_Order_1_L0_x t0 b c m1_0 s0) ?_
 intro s1 rcl ih
 show Says _ _ (lpW _ _ _ _ _ _ _)
 unfold g_slices_insertionSortCmpFunc_int_L0
 rw [lpW_b]
 conv => arg 3; whnf
 refine sim_br rfl ?_ ?_
 ·conv => arg 3; whnf
  refine sim_get (f := intD) rfl rfl fun x2 hx2 => ?_
  conv => arg 3; whnf
  refine sim_known (nth_of (f := intD) rfl hx2) ?_
  conv => arg 3; whnf
  refine sim_get (f := intD) rfl rfl fun x3 hx3 => ?_
  conv => arg 3; whnf
  refine sim_known (nth_of (f := intD) rfl hx3) ?_
  conv => arg 3; whnf
  refine sim_call g_part_Order_1_e (g_part_Order_1_ok t0 x2 x3 m1_0) rfl fun x4 hx4 => ?_
  conv => arg 3; whnf
  refine sim_br rfl ?_ ?_
  ·conv => arg 3; whnf
   refine sim_known (get_of (f := intD) rfl hx3) ?_
   conv => arg 3; whnf
   refine sim_known (nth_of (f := intD) rfl hx3) ?_
   conv => arg 3; whnf
   refine sim_known (get_of (f := intD) rfl hx2) ?_
   conv => arg 3; whnf
   refine sim_known (nth_of (f := intD) rfl hx2) ?_
   conv => arg 3; whnf
   refine sim_known (get_of (f := intD) rfl hx2) ?_
   conv => arg 3; whnf
   refine sim_known (nth_of (f := intD) rfl hx2) ?_
   conv => arg 3; whnf
   refine sim_let (set_enc intD s1.2 s1.1.toNat x3) ?_
   conv => arg 3; whnf
   refine sim_get (f := intD) rfl rfl fun x5 hx5 => ?_
   conv => arg 3; whnf
   refine sim_known (nth_of (f := intD) rfl hx5) ?_
   conv => arg 3; whnf
   refine sim_let (set_enc intD (List.set s1.2 s1.1.toNat x3) (w64 (s1.1 - 1)).toNat x2) ?_
   conv => arg 3; whnf
   exact sim_again (ih ((w64 (s1.1 - 1)), (List.set (List.set s1.2 s1.1.toNat x3) (w64 (s1.1 - 1)).toNat x2)))
  ·conv => arg 3; whnf
   exact sim_ret rfl
 ·conv => arg 3; whnf
  exact sim_ret rfl

def g_slices_insertionSortCmpFunc_int__part_Order_1_L1_x (t0 : Bool) (b : Int) (c : Int) (m1_0 : (List ShapeT)) : (List Int) → Ex × List V × Heap
  | r => (.exit 0, [], [(.arr 1 (List.map intD r)), (.cells [(.d (D.list t0 (List.map shapeD m1_0)))])])

set_option maxRecDepth 100000 in
set_option maxHeartbeats 40000000 in
theorem g_slices_insertionSortCmpFunc_int__part_Order_1_L1_ok (t0 : Bool) (b : Int) (c : Int) (m1_0 : (List ShapeT)) : ∀ (s0 : Int × (List Int)) (r : (List Int)), lp (g_slices_insertionSortCmpFunc_int_L1 b c (fun z0 z1 => g_part_Order_1 z0 z1 m1_0)) s0 = some r → lpW ctx 2 [0, 1, 2, 3, 8] [] ir98L1 [(.sl 0 1), (.d (intD b)), (.d (intD c)), (.fn 73 [(.ptr 1 0)]), (.d (intD s0.1))] [(.arr 1 (List.map intD s0.2)), (.cells [(.d (D.list t0 (List.map shapeD m1_0)))])] = some ((g_slices_insertionSortCmpFunc_int__part_Order_1_L1_x t0 b c m1_0) r) := by
 refine lp_ok (g_slices_insertionSortCmpFunc_int__part_Order_1_L1_x t0 b c m1_0) ?_
 intro s0 rcl ih
 show Says _ _ (lpW _ _ _ _ _ _ _)
 unfold g_slices_insertionSortCmpFunc_int_L1
 rw [lpW_b]
 conv => arg 3; whnf
 refine sim_br rfl ?_ ?_
 ·conv => arg 3; whnf
  refine sim_bind (g_slices_insertionSortCmpFunc_int__part_Order_1_L0_x t0 b c m1_0 s0) (g_slices_insertionSortCmpFunc_int__part_Order_1_L0_ok t0 b c m1_0 s0 (s0.1, s0.2)) fun r6 hr6 => ?_
  conv => arg 3; whnf
  exact sim_again (ih ((w64 (s0.1 + 1)), r6))
 ·conv => arg 3; whnf
  exact sim_ret rfl

set_option maxRecDepth 100000 in
set_option maxHeartbeats 40000000 in
theorem g_slices_insertionSortCmpFunc_int__part_Order_1_ok (t0 : Bool) (b : Int) (c : Int) (m0_0 : (List Int)) (m1_0 : (List ShapeT)) : ∀ r, (g_slices_insertionSortCmpFunc_int b c (fun z0 z1 => g_part_Order_1 z0 z1 m1_0) m0_0) = some r → evW ctx 98 [(.sl 0 1), (.d (intD b)), (.d (intD c)), (.fn 73 [(.ptr 1 0)])] [(.arr 1 (List.map intD m0_0)), (.cells [(.d (D.list t0 (List.map shapeD m1_0)))])] = some ((g_slices_insertionSortCmpFunc_int__part_Order_1_e t0 b c m0_0 m1_0) r) := by
 show Says _ (fun r rhs => rhs = some ((g_slices_insertionSortCmpFunc_int__part_Order_1_e t0 b c m0_0 m1_0) r)) _
 unfold g_slices_insertionSortCmpFunc_int
 rw [evW_K ctx 98 fn98 _ _ rfl rfl]
 conv => arg 3; whnf
 refine sim_bind (g_slices_insertionSortCmpFunc_int__part_Order_1_L1_x t0 b c m1_0) (g_slices_insertionSortCmpFunc_int__part_Order_1_L1_ok t0 b c m1_0 ((w64 (b + 1)), m0_0)) fun r7 hr7 => ?_
 conv => arg 3; whnf
 exact sim_ret rfl
def g_slices_siftDownCmpFunc_int__part_Order_1_e (t0 : Bool) (b : Int) (c : Int) (d : Int) (m0_0 : (List Int)) (m1_0 : (List ShapeT)) : (List Int) → V × Heap
  | r => ((.d (D.tup [])), [(.arr 1 (List.map intD r)), (.cells [(.d (D.list t0 (List.map shapeD m1_0)))])])

def g_slices_siftDownCmpFunc_int__part_Order_1_L0_x (t0 : Bool) (c : Int) (d : Int) (m1_0 : (List ShapeT)) : ((List Int) ⊕ (List Int)) → Ex × List V × Heap
  | (.inl r) => (.exit 0, [], [(.arr 1 (List.map intD r)), (.cells [(.d (D.list t0 (List.map shapeD m1_0)))])])
  | (.inr r) => (.ret, [], [(.arr 1 (List.map intD r)), (.cells [(.d (D.list t0 (List.map shapeD m1_0)))])])

set_option maxRecDepth 100000 in
set_option maxHeartbeats 40000000 in
theorem g_slices_siftDownCmpFunc_int__part_Order_1_L0_ok (t0 : Bool) (c : Int) (d : Int) (m1_0 : (List ShapeT)) : ∀ (s0 : Int × (List Int)) (r : ((List Int) ⊕ (List Int))), lp (g_slices_siftDownCmpFunc_int_L0 c d (fun z0 z1 => g_part_Order_1 z0 z1 m1_0)) s0 = some r → lpW ctx 2 [0, 2, 3, 4, 10] [] ir108L0 [(.sl 0 1), (.d (intD c)), (.d (intD d)), (.fn 73 [(.ptr 1 0)]), (.d (intD s0.1))] [(.arr 1 (List.map intD s0.2)), (.cells [(.d (D.list t0 (List.map shapeD m1_0)))])] = some ((g_slices_siftDownCmpFunc_int__part_Order_1_L0_x t0 c d m1_0) r) := by
 refine lp_ok (g_slices_siftDownCmpFunc_int__part_Order_1_L0_x t0 c d m1_0) ?_
 intro s0 rcl ih
 show Says _ _ (lpW _ _ _ _ _ _ _)
 unfold g_slices_siftDownCmpFunc_int_L0
 rw [lpW_b]
 conv => arg 3; whnf
 refine sim_br rfl ?_ ?_
 ·conv => arg 3; whnf
  exact sim_ret rfl
 ·conv => arg 3; whnf
  refine sim_br rfl ?_ ?_
  ·conv => arg 3; whnf
   refine sim_get (f := intD) rfl rfl fun x1 hx1 => ?_
   conv => arg 3; whnf
   refine sim_known (nth_of (f := intD) rfl hx1) ?_
   conv => arg 3; whnf
   refine sim_get (f := intD) rfl rfl fun x2 hx2 => ?_
   conv => arg 3; whnf
   refine sim_known (nth_of (f := intD) rfl hx2) ?_
   conv => arg 3; whnf
   refine sim_call g_part_Order_1_e (g_part_Order_1_ok t0 x1 x2 m1_0) rfl fun x3 hx3 => ?_
   conv => arg 3; whnf
   refine sim_br rfl ?_ ?_
   ·conv => arg 3; whnf
    refine sim_get (f := intD) rfl rfl fun x4 hx4 => ?_
    conv => arg 3; whnf
    refine sim_known (nth_of (f := intD) rfl hx4) ?_
    conv => arg 3; whnf
    refine sim_get (f := intD) rfl rfl fun x5 hx5 => ?_
    conv => arg 3; whnf
    refine sim_known (nth_of (f := intD) rfl hx5) ?_
    conv => arg 3; whnf
    refine sim_call g_part_Order_1_e (g_part_Order_1_ok t0 x4 x5 m1_0) rfl fun x6 hx6 => ?_
    conv => arg 3; whnf
    refine sim_br rfl ?_ ?_
    ·conv => arg 3; whnf
     refine sim_known (get_of (f := intD) rfl hx5) ?_
     conv => arg 3; whnf
     refine sim_known (nth_of (f := intD) rfl hx5) ?_
     conv => arg 3; whnf
     refine sim_known (get_of (f := intD) rfl hx4) ?_
     conv => arg 3; whnf
     refine sim_known (nth_of (f := intD) rfl hx4) ?_
     conv => arg 3; whnf
     refine sim_known (get_of (f := intD) rfl hx4) ?_
     conv => arg 3; whnf
     refine sim_known (nth_of (f := intD) rfl hx4) ?_
     conv => arg 3; whnf
     refine sim_let (set_enc intD s0.2 (w64 (d + s0.1)).toNat x5) ?_
     conv => arg 3; whnf
     refine sim_get (f := intD) rfl rfl fun x7 hx7 => ?_
     conv => arg 3; whnf
     refine sim_known (nth_of (f := intD) rfl hx7) ?_
     conv => arg 3; whnf
     refine sim_let (set_enc intD (List.set s0.2 (w64 (d + s0.1)).toNat x5) (w64 (d + (w64 ((w64 ((w64 (2 * s0.1)) + 1)) + 1)))).toNat x4) ?_
     conv => arg 3; whnf
     exact sim_again (ih ((w64 ((w64 ((w64 (2 * s0.1)) + 1)) + 1)), (List.set (List.set s0.2 (w64 (d + s0.1)).toNat x5) (w64 (d + (w64 ((w64 ((w64 (2 * s0.1)) + 1)) + 1)))).toNat x4)))
    ·conv => arg 3; whnf
     exact sim_ret rfl
   ·conv => arg 3; whnf
    refine sim_get (f := intD) rfl rfl fun x8 hx8 => ?_
    conv => arg 3; whnf
    refine sim_known (nth_of (f := intD) rfl hx8) ?_
    conv => arg 3; whnf
    refine sim_known (get_of (f := intD) rfl hx1) ?_
    conv => arg 3; whnf
    refine sim_known (nth_of (f := intD) rfl hx1) ?_
    conv => arg 3; whnf
    refine sim_call g_part_Order_1_e (g_part_Order_1_ok t0 x8 x1 m1_0) rfl fun x9 hx9 => ?_
    conv => arg 3; whnf
    refine sim_br rfl ?_ ?_
    ·conv => arg 3; whnf
     refine sim_known (get_of (f := intD) rfl hx1) ?_
     conv => arg 3; whnf
     refine sim_known (nth_of (f := intD) rfl hx1) ?_
     conv => arg 3; whnf
     refine sim_known (get_of (f := intD) rfl hx8) ?_
     conv => arg 3; whnf
     refine sim_known (nth_of (f := intD) rfl hx8) ?_
     conv => arg 3; whnf
     refine sim_known (get_of (f := intD) rfl hx8) ?_
     conv => arg 3; whnf
     refine sim_known (nth_of (f := intD) rfl hx8) ?_
     conv => arg 3; whnf
     refine sim_let (set_enc intD s0.2 (w64 (d + s0.1)).toNat x1) ?_
     conv => arg 3; whnf
     refine sim_get (f := intD) rfl rfl fun x10 hx10 => ?_
     conv => arg 3; whnf
     refine sim_known (nth_of (f := intD) rfl hx10) ?_
     conv => arg 3; whnf
     refine sim_let (set_enc intD (List.set s0.2 (w64 (d + s0.1)).toNat x1) (w64 (d + (w64 ((w64 (2 * s0.1)) + 1)))).toNat x8) ?_
     conv => arg 3; whnf
     exact sim_again (ih ((w64 ((w64 (2 * s0.1)) + 1)), (List.set (List.set s0.2 (w64 (d + s0.1)).toNat x1) (w64 (d + (w64 ((w64 (2 * s0.1)) + 1)))).toNat x8)))
    ·conv => arg 3; whnf
     exact sim_ret rfl
  ·conv => arg 3; whnf
   refine sim_get (f := intD) rfl rfl fun x11 hx11 => ?_
   conv => arg 3; whnf
   refine sim_known (nth_of (f := intD) rfl hx11) ?_
   conv => arg 3; whnf
   refine sim_get (f := intD) rfl rfl fun x12 hx12 => ?_
   conv => arg 3; whnf
   refine sim_known (nth_of (f := intD) rfl hx12) ?_
   conv => arg 3; whnf
   refine sim_call g_part_Order_1_e (g_part_Order_1_ok t0 x11 x12 m1_0) rfl fun x13 hx13 => ?_
   conv => arg 3; whnf
   refine sim_br rfl ?_ ?_
   ·conv => arg 3; whnf
    refine sim_known (get_of (f := intD) rfl hx12) ?_
    conv => arg 3; whnf
    refine sim_known (nth_of (f := intD) rfl hx12) ?_
    conv => arg 3; whnf
    refine sim_known (get_of (f := intD) rfl hx11) ?_
    conv => arg 3; whnf
    refine sim_known (nth_of (f := intD) rfl hx11) ?_
    conv => arg 3; whnf
    refine sim_known (get_of (f := intD) rfl hx11) ?_
    conv => arg 3; whnf
    refine sim_known (nth_of (f := intD) rfl hx11) ?_
    conv => arg 3; whnf
    refine sim_let (set_enc intD s0.2 (w64 (d + s0.1)).toNat x12) ?_
    conv => arg 3; whnf
    refine sim_get (f := intD) rfl rfl fun x14 hx14 => ?_
    conv => arg 3; whnf
    refine sim_known (nth_of (f := intD) rfl hx14) ?_
    conv => arg 3; whnf
    refine sim_let (set_enc intD (List.set s0.2 (w64 (d + s0.1)).toNat x12) (w64 (d + (w64 ((w64 (2 * s0.1)) + 1)))).toNat x11) ?_
    conv => arg 3; whnf
    exact sim_again (ih ((w64 ((w64 (2 * s0.1)) + 1)), (List.set (List.set s0.2 (w64 (d + s0.1)).toNat x12) (w64 (d + (w64 ((w64 (2 * s0.1)) + 1)))).toNat x11)))
   ·conv => arg 3; whnf
    exact sim_ret rfl

set_option maxRecDepth 100000 in
set_option maxHeartbeats 40000000 in
theorem g_slices_siftDownCmpFunc_int__part_Order_1_ok (t0 : Bool) (b : Int) (c : Int) (d : Int) (m0_0 : (List Int)) (m1_0 : (List ShapeT)) : ∀ r, (g_slices_siftDownCmpFunc_int b c d (fun z0 z1 => g_part_Order_1 z0 z1 m1_0) m0_0) = some r → evW ctx 108 [(.sl 0 1), (.d (intD b)), (.d (intD c)), (.d (intD d)), (.fn 73 [(.ptr 1 0)])] [(.arr 1 (List.map intD m0_0)), (.cells [(.d (D.list t0 (List.map shapeD m1_0)))])] = some ((g_slices_siftDownCmpFunc_int__part_Order_1_e t0 b c d m0_0 m1_0) r) := by
 show Says _ (fun r rhs => rhs = some ((g_slices_siftDownCmpFunc_int__part_Order_1_e t0 b c d m0_0 m1_0) r)) _
 unfold g_slices_siftDownCmpFunc_int
 rw [evW_K ctx 108 fn108 _ _ rfl rfl]
 conv => arg 3; whnf
 refine sim_bind (g_slices_siftDownCmpFunc_int__part_Order_1_L0_x t0 c d m1_0) (g_slices_siftDownCmpFunc_int__part_Order_1_L0_ok t0 c d m1_0 (b, m0_0)) fun r15 hr15 => ?_
 clear hr15
 rcases r15 with r15 | r15
 ·conv => arg 3; whnf
  exact sim_ret rfl
 ·conv => arg 3; whnf
  exact sim_ret rfl
def g_slices_heapSortCmpFunc_int__part_Order_1_e (t0 : Bool) (b : Int) (c : Int) (m0_0 : (List Int)) (m1_0 : (List ShapeT)) : (List Int) → V × Heap
  | r => ((.d (D.tup [])), [(.arr 1 (List.map intD r)), (.cells [(.d (D.list t0 (List.map shapeD m1_0)))])])

def g_slices_heapSortCmpFunc_int__part_Order_1_L0_x (t0 : Bool) (b : Int) (c : Int) (m1_0 : (List ShapeT)) : (List Int) → Ex × List V × Heap
  | r => (.exit 0, [(.sl 0 1), (.fn 73 [(.ptr 1 0)]), (.d (intD b)), (.d (intD 0)), (.d (intD (w64 (c - b))))], [(.arr 1 (List.map intD r)), (.cells [(.d (D.list t0 (List.map shapeD m1_0)))])])

set_option maxRecDepth 100000 in
set_option maxHeartbeats 40000000 in
theorem g_slices_heapSortCmpFunc_int__part_Order_1_L0_ok (t0 : Bool) (b : Int) (c : Int) (m1_0 : (List ShapeT)) : ∀ (s0 : Int × (List Int)) (r : (List Int)), lp (g_slices_heapSortCmpFunc_int_L0 b c (fun z0 z1 => g_part_Order_1 z0 z1 m1_0)) s0 = some r → lpW ctx 2 [0, 3, 8, 9, 10, 11] [0, 3, 8, 9, 10] ir99L0 [(.sl 0 1), (.fn 73 [(.ptr 1 0)]), (.d (intD b)), (.d (intD 0)), (.d (intD (w64 (c - b)))), (.d (intD s0.1))] [(.arr 1 (List.map intD s0.2)), (.cells [(.d (D.list t0 (List.map shapeD m1_0)))])] = some ((g_slices_heapSortCmpFunc_int__part_Order_1_L0_x t0 b c m1_0) r) := by
 refine lp_ok (g_slices_heapSortCmpFunc_int__part_Order_1_L0_x t0 b c m1_0) ?_
 intro s0 rcl ih
 show Says _ _ (lpW _ _ _ _ _ _ _)
 unfold g_slices_heapSortCmpFunc_int_L0
 rw [lpW_b]
 conv => arg 3; whnf
 refine sim_br rfl ?_ ?_
 ·conv => arg 3; whnf
  refine sim_bind (g_slices_siftDownCmpFunc_int__part_Order_1_e t0 s0.1 (w64 (c - b)) b s0.2 m1_0) (g_slices_siftDownCmpFunc_int__part_Order_1_ok t0 s0.1 (w64 (c - b)) b s0.2 m1_0) fun x1 hx1 => ?_
  conv => arg 3; whnf
  exact sim_again (ih ((w64 (s0.1 - 1)), x1))
 ·conv => arg 3; whnf
  exact sim_ret rfl

def g_slices_heapSortCmpFunc_int__part_Order_1_L1_x (t0 : Bool) (b : Int) (m1_0 : (List ShapeT)) : (List Int) → Ex × List V × Heap
  | r => (.exit 2, [], [(.arr 1 (List.map intD r)), (.cells [(.d (D.list t0 (List.map shapeD m1_0)))])])

set_option maxRecDepth 100000 in
set_option maxHeartbeats 40000000 in
theorem g_slices_heapSortCmpFunc_int__part_Order_1_L1_ok (t0 : Bool) (b : Int) (m1_0 : (List ShapeT)) : ∀ (s3 : Int × (List Int)) (r : (List Int)), lp (g_slices_heapSortCmpFunc_int_L1 b (fun z0 z1 => g_part_Order_1 z0 z1 m1_0)) s3 = some r → lpW ctx 2 [0, 3, 8, 9, 12] [] ir99L1 [(.sl 0 1), (.fn 73 [(.ptr 1 0)]), (.d (intD b)), (.d (intD 0)), (.d (intD s3.1))] [(.arr 1 (List.map intD s3.2)), (.cells [(.d (D.list t0 (List.map shapeD m1_0)))])] = some ((g_slices_heapSortCmpFunc_int__part_Order_1_L1_x t0 b m1_0) r) := by
 refine lp_ok (g_slices_heapSortCmpFunc_int__part_Order_1_L1_x t0 b m1_0) ?_
 intro s3 rcl ih
 show Says _ _ (lpW _ _ _ _ _ _ _)
 unfold g_slices_heapSortCmpFunc_int_L1
 rw [lpW_b]
 conv => arg 3; whnf
 refine sim_br rfl ?_ ?_
 ·conv => arg 3; whnf
  refine sim_get (f := intD) rfl rfl fun x4 hx4 => ?_
  conv => arg 3; whnf
  refine sim_known (nth_of (f := intD) rfl hx4) ?_
  conv => arg 3; whnf
  refine sim_get (f := intD) rfl rfl fun x5 hx5 => ?_
  conv => arg 3; whnf
  refine sim_known (nth_of (f := intD) rfl hx5) ?_
  conv => arg 3; whnf
  refine sim_known (get_of (f := intD) rfl hx5) ?_
  conv => arg 3; whnf
  refine sim_known (nth_of (f := intD) rfl hx5) ?_
  conv => arg 3; whnf
  refine sim_let (set_enc intD s3.2 b.toNat x4) ?_
  conv => arg 3; whnf
  refine sim_get (f := intD) rfl rfl fun x6 hx6 => ?_
  conv => arg 3; whnf
  refine sim_known (nth_of (f := intD) rfl hx6) ?_
  conv => arg 3; whnf
  refine sim_let (set_enc intD (List.set s3.2 b.toNat x4) (w64 (b + s3.1)).toNat x5) ?_
  conv => arg 3; whnf
  refine sim_bind (g_slices_siftDownCmpFunc_int__part_Order_1_e t0 0 s3.1 b (List.set (List.set s3.2 b.toNat x4) (w64 (b + s3.1)).toNat x5) m1_0) (g_slices_siftDownCmpFunc_int__part_Order_1_ok t0 0 s3.1 b (List.set (List.set s3.2 b.toNat x4) (w64 (b + s3.1)).toNat x5) m1_0) fun x7 hx7 => ?_
  conv => arg 3; whnf
  exact sim_again (ih ((w64 (s3.1 - 1)), x7))
 ·conv => arg 3; whnf
  exact sim_ret rfl

set_option maxRecDepth 100000 in
set_option maxHeartbeats 40000000 in
theorem g_slices_heapSortCmpFunc_int__part_Order_1_ok (t0 : Bool) (b : Int) (c : Int) (m0_0 : (List Int)) (m1_0 : (List ShapeT)) : ∀ r, (g_slices_heapSortCmpFunc_int b c (fun z0 z1 => g_part_Order_1 z0 z1 m1_0) m0_0) = some r → evW ctx 99 [(.sl 0 1), (.d (intD b)), (.d (intD c)), (.fn 73 [(.ptr 1 0)])] [(.arr 1 (List.map intD m0_0)), (.cells [(.d (D.list t0 (List.map shapeD m1_0)))])] = some ((g_slices_heapSortCmpFunc_int__part_Order_1_e t0 b c m0_0 m1_0) r) := by
 show Says _ (fun r rhs => rhs = some ((g_slices_heapSortCmpFunc_int__part_Order_1_e t0 b c m0_0 m1_0) r)) _
 unfold g_slices_heapSortCmpFunc_int
 rw [evW_K ctx 99 fn99 _ _ rfl rfl]
 conv => arg 3; whnf
 refine sim_f rfl ?_
 conv => arg 3; whnf
 refine sim_bind (g_slices_heapSortCmpFunc_int__part_Order_1_L0_x t0 b c m1_0) (g_slices_heapSortCmpFunc_int__part_Order_1_L0_ok t0 b c m1_0 ((w64 (Int.tdiv (w64 ((w64 (c - b)) - 1)) 2)), m0_0)) fun r2 hr2 => ?_
 conv => arg 3; whnf
 refine sim_bind (g_slices_heapSortCmpFunc_int__part_Order_1_L1_x t0 b m1_0) (g_slices_heapSortCmpFunc_int__part_Order_1_L1_ok t0 b m1_0 ((w64 ((w64 (c - b)) - 1)), r2)) fun r8 hr8 => ?_
 conv => arg 3; whnf
 exact sim_ret rfl
def g_slices_order2CmpFunc_int__part_Order_1_e (t0 : Bool) (b : Int) (c : Int) (m0_0 : (List Int)) (m1_0 : Int) (m2_0 : (List ShapeT)) : (Int × Int × Int) → V × Heap
  | r => ((.d (D.tup [(intD r.1), (intD r.2.1)])), [(.arr 1 (List.map intD m0_0)), (.cells [(.d (intD r.2.2))]), (.cells [(.d (D.list t0 (List.map shapeD m2_0)))])])

set_option maxRecDepth 100000 in
set_option maxHeartbeats 40000000 in
theorem g_slices_order2CmpFunc_int__part_Order_1_ok (t0 : Bool) (b : Int) (c : Int) (m0_0 : (List Int)) (m1_0 : Int) (m2_0 : (List ShapeT)) : ∀ r, (g_slices_order2CmpFunc_int b c (fun z0 z1 => g_part_Order_1 z0 z1 m2_0) m0_0 m1_0) = some r → evW ctx 113 [(.sl 0 1), (.d (intD b)), (.d (intD c)), (.ptr 1 0), (.fn 73 [(.ptr 2 0)])] [(.arr 1 (List.map intD m0_0)), (.cells [(.d (intD m1_0))]), (.cells [(.d (D.list t0 (List.map shapeD m2_0)))])] = some ((g_slices_order2CmpFunc_int__part_Order_1_e t0 b c m0_0 m1_0 m2_0) r) := by
 show Says _ (fun r rhs => rhs = some ((g_slices_order2CmpFunc_int__part_Order_1_e t0 b c m0_0 m1_0 m2_0) r)) _
 unfold g_slices_order2CmpFunc_int
 rw [evW_K ctx 113 fn113 _ _ rfl rfl]
 conv => arg 3; whnf
 refine sim_get (f := intD) rfl rfl fun x0 hx0 => ?_
 conv => arg 3; whnf
 refine sim_known (nth_of (f := intD) rfl hx0) ?_
 conv => arg 3; whnf
 refine sim_get (f := intD) rfl rfl fun x1 hx1 => ?_
 conv => arg 3; whnf
 refine sim_known (nth_of (f := intD) rfl hx1) ?_
 conv => arg 3; whnf
 refine sim_call g_part_Order_1_e (g_part_Order_1_ok t0 x0 x1 m2_0) rfl fun x2 hx2 => ?_
 conv => arg 3; whnf
 refine sim_br rfl ?_ ?_
 ·conv => arg 3; whnf
  exact sim_ret rfl
 ·conv => arg 3; whnf
  exact sim_ret rfl
def g_slices_medianCmpFunc_int__part_Order_1_e (t0 : Bool) (b : Int) (c : Int) (d : Int) (m0_0 : (List Int)) (m1_0 : Int) (m2_0 : (List ShapeT)) : (Int × Int) → V × Heap
  | r => ((.d (intD r.1)), [(.arr 1 (List.map intD m0_0)), (.cells [(.d (intD r.2))]), (.cells [(.d (D.list t0 (List.map shapeD m2_0)))])])

set_option maxRecDepth 100000 in
set_option maxHeartbeats 40000000 in
theorem g_slices_medianCmpFunc_int__part_Order_1_ok (t0 : Bool) (b : Int) (c : Int) (d : Int) (m0_0 : (List Int)) (m1_0 : Int) (m2_0 : (List ShapeT)) : ∀ r, (g_slices_medianCmpFunc_int b c d (fun z0 z1 => g_part_Order_1 z0 z1 m2_0) m0_0 m1_0) = some r → evW ctx 112 [(.sl 0 1), (.d (intD b)), (.d (intD c)), (.d (intD d)), (.ptr 1 0), (.fn 73 [(.ptr 2 0)])] [(.arr 1 (List.map intD m0_0)), (.cells [(.d (intD m1_0))]), (.cells [(.d (D.list t0 (List.map shapeD m2_0)))])] = some ((g_slices_medianCmpFunc_int__part_Order_1_e t0 b c d m0_0 m1_0 m2_0) r) := by
 show Says _ (fun r rhs => rhs = some ((g_slices_medianCmpFunc_int__part_Order_1_e t0 b c d m0_0 m1_0 m2_0) r)) _
 unfold g_slices_medianCmpFunc_int
 rw [evW_K ctx 112 fn112 _ _ rfl rfl]
 conv => arg 3; whnf
 refine sim_bind (g_slices_order2CmpFunc_int__part_Order_1_e t0 b c m0_0 m1_0 m2_0) (g_slices_order2CmpFunc_int__part_Order_1_ok t0 b c m0_0 m1_0 m2_0) fun x0 hx0 => ?_
 conv => arg 3; whnf
 refine sim_bind (g_slices_order2CmpFunc_int__part_Order_1_e t0 x0.2.1 d m0_0 x0.2.2 m2_0) (g_slices_order2CmpFunc_int__part_Order_1_ok t0 x0.2.1 d m0_0 x0.2.2 m2_0) fun x1 hx1 => ?_
 conv => arg 3; whnf
 refine sim_bind (g_slices_order2CmpFunc_int__part_Order_1_e t0 x0.1 x1.1 m0_0 x1.2.2 m2_0) (g_slices_order2CmpFunc_int__part_Order_1_ok t0 x0.1 x1.1 m0_0 x1.2.2 m2_0) fun x2 hx2 => ?_
 conv => arg 3; whnf
 exact sim_ret rfl
def g_slices_medianAdjacentCmpFunc_int__part_Order_1_e (t0 : Bool) (b : Int) (m0_0 : (List Int)) (m1_0 : Int) (m2_0 : (List ShapeT)) : (Int × Int) → V × Heap
  | r => ((.d (intD r.1)), [(.arr 1 (List.map intD m0_0)), (.cells [(.d (intD r.2))]), (.cells [(.d (D.list t0 (List.map shapeD m2_0)))])])

set_option maxRecDepth 100000 in
set_option maxHeartbeats 40000000 in
theorem g_slices_medianAdjacentCmpFunc_int__part_Order_1_ok (t0 : Bool) (b : Int) (m0_0 : (List Int)) (m1_0 : Int) (m2_0 : (List ShapeT)) : ∀ r, (g_slices_medianAdjacentCmpFunc_int b (fun z0 z1 => g_part_Order_1 z0 z1 m2_0) m0_0 m1_0) = some r → evW ctx 111 [(.sl 0 1), (.d (intD b)), (.ptr 1 0), (.fn 73 [(.ptr 2 0)])] [(.arr 1 (List.map intD m0_0)), (.cells [(.d (intD m1_0))]), (.cells [(.d (D.list t0 (List.map shapeD m2_0)))])] = some ((g_slices_medianAdjacentCmpFunc_int__part_Order_1_e t0 b m0_0 m1_0 m2_0) r) := by
 show Says _ (fun r rhs => rhs = some ((g_slices_medianAdjacentCmpFunc_int__part_Order_1_e t0 b m0_0 m1_0 m2_0) r)) _
 unfold g_slices_medianAdjacentCmpFunc_int
 rw [evW_K ctx 111 fn111 _ _ rfl rfl]
 conv => arg 3; whnf
 refine sim_bind (g_slices_medianCmpFunc_int__part_Order_1_e t0 (w64 (b - 1)) b (w64 (b + 1)) m0_0 m1_0 m2_0) (g_slices_medianCmpFunc_int__part_Order_1_ok t0 (w64 (b - 1)) b (w64 (b + 1)) m0_0 m1_0 m2_0) fun x0 hx0 => ?_
 conv => arg 3; whnf
 exact sim_ret rfl
def g_slices_choosePivotCmpFunc_int__part_Order_1_e (t0 : Bool) (b : Int) (c : Int) (m0_0 : (List Int)) (m1_0 : (List ShapeT)) : (Int × Int) → V × Heap
  | r => ((.d (D.tup [(intD r.1), (intD r.2)])), [(.arr 1 (List.map intD m0_0)), (.cells [(.d (D.list t0 (List.map shapeD m1_0)))])])

set_option maxRecDepth 100000 in
set_option maxHeartbeats 40000000 in
theorem g_slices_choosePivotCmpFunc_int__part_Order_1_ok (t0 : Bool) (b : Int) (c : Int) (m0_0 : (List Int)) (m1_0 : (List ShapeT)) : ∀ r, (g_slices_choosePivotCmpFunc_int b c (fun z0 z1 => g_part_Order_1 z0 z1 m1_0) m0_0) = some r → evW ctx 101 [(.sl 0 1), (.d (intD b)), (.d (intD c)), (.fn 73 [(.ptr 1 0)])] [(.arr 1 (List.map intD m0_0)), (.cells [(.d (D.list t0 (List.map shapeD m1_0)))])] = some ((g_slices_choosePivotCmpFunc_int__part_Order_1_e t0 b c m0_0 m1_0) r) := by
 show Says _ (fun r rhs => rhs = some ((g_slices_choosePivotCmpFunc_int__part_Order_1_e t0 b c m0_0 m1_0) r)) _
 unfold g_slices_choosePivotCmpFunc_int
 rw [evW_K ctx 101 fn101 _ _ rfl rfl]
 conv => arg 3; whnf
 refine sim_f rfl ?_
 conv => arg 3; whnf
 refine sim_f rfl ?_
 conv => arg 3; whnf
 refine sim_f rfl ?_
 conv => arg 3; whnf
 refine sim_br rfl ?_ ?_
 ·conv => arg 3; whnf
  refine sim_br rfl ?_ ?_
  ·conv => arg 3; whnf
   refine sim_bind (g_slices_medianAdjacentCmpFunc_int__part_Order_1_e t0 (w64 (b + (w64 ((w64 (Int.tdiv (w64 (c - b)) 4)) * 1)))) m0_0 0 m1_0) (g_slices_medianAdjacentCmpFunc_int__part_Order_1_ok t0 (w64 (b + (w64 ((w64 (Int.tdiv (w64 (c - b)) 4)) * 1)))) m0_0 0 m1_0) fun x0 hx0 => ?_
   conv => arg 3; whnf
   refine sim_bind (g_slices_medianAdjacentCmpFunc_int__part_Order_1_e t0 (w64 (b + (w64 ((w64 (Int.tdiv (w64 (c - b)) 4)) * 2)))) m0_0 x0.2 m1_0) (g_slices_medianAdjacentCmpFunc_int__part_Order_1_ok t0 (w64 (b + (w64 ((w64 (Int.tdiv (w64 (c - b)) 4)) * 2)))) m0_0 x0.2 m1_0) fun x1 hx1 => ?_
   conv => arg 3; whnf
   refine sim_bind (g_slices_medianAdjacentCmpFunc_int__part_Order_1_e t0 (w64 (b + (w64 ((w64 (Int.tdiv (w64 (c - b)) 4)) * 3)))) m0_0 x1.2 m1_0) (g_slices_medianAdjacentCmpFunc_int__part_Order_1_ok t0 (w64 (b + (w64 ((w64 (Int.tdiv (w64 (c - b)) 4)) * 3)))) m0_0 x1.2 m1_0) fun x2 hx2 => ?_
   conv => arg 3; whnf
   refine sim_bind (g_slices_medianCmpFunc_int__part_Order_1_e t0 x0.1 x1.1 x2.1 m0_0 x2.2 m1_0) (g_slices_medianCmpFunc_int__part_Order_1_ok t0 x0.1 x1.1 x2.1 m0_0 x2.2 m1_0) fun x3 hx3 => ?_
   conv => arg 3; whnf
   refine sim_br rfl ?_ ?_
   ·conv => arg 3; whnf
    exact sim_ret rfl
   ·conv => arg 3; whnf
    refine sim_br rfl ?_ ?_
    ·conv => arg 3; whnf
     exact sim_ret rfl
    ·conv => arg 3; whnf
     exact sim_ret rfl
  ·conv => arg 3; whnf
   refine sim_bind (g_slices_medianCmpFunc_int__part_Order_1_e t0 (w64 (b + (w64 ((w64 (Int.tdiv (w64 (c - b)) 4)) * 1)))) (w64 (b + (w64 ((w64 (Int.tdiv (w64 (c - b)) 4)) * 2)))) (w64 (b + (w64 ((w64 (Int.tdiv (w64 (c - b)) 4)) * 3)))) m0_0 0 m1_0) (g_slices_medianCmpFunc_int__part_Order_1_ok t0 (w64 (b + (w64 ((w64 (Int.tdiv (w64 (c - b)) 4)) * 1)))) (w64 (b + (w64 ((w64 (Int.tdiv (w64 (c - b)) 4)) * 2)))) (w64 (b + (w64 ((w64 (Int.tdiv (w64 (c - b)) 4)) * 3)))) m0_0 0 m1_0) fun x4 hx4 => ?_
   conv => arg 3; whnf
   refine sim_br rfl ?_ ?_
   ·conv => arg 3; whnf
    exact sim_ret rfl
   ·conv => arg 3; whnf
    refine sim_br rfl ?_ ?_
    ·conv => arg 3; whnf
     exact sim_ret rfl
    ·conv => arg 3; whnf
     exact sim_ret rfl
 ·conv => arg 3; whnf
  refine sim_t rfl ?_
  conv => arg 3; whnf
  exact sim_ret rfl
def g_slices_reverseRangeCmpFunc_int__part_Order_1_e (t0 : Bool) (b : Int) (c : Int) (m0_0 : (List Int)) (m1_0 : (List ShapeT)) : (List Int) → V × Heap
  | r => ((.d (D.tup [])), [(.arr 1 (List.map intD r)), (.cells [(.d (D.list t0 (List.map shapeD m1_0)))])])

def g_slices_reverseRangeCmpFunc_int__part_Order_1_L0_x (t0 : Bool) (m1_0 : (List ShapeT)) : (List Int) → Ex × List V × Heap
  | r => (.exit 0, [], [(.arr 1 (List.map intD r)), (.cells [(.d (D.list t0 (List.map shapeD m1_0)))])])

set_option maxRecDepth 100000 in
set_option maxHeartbeats 40000000 in
theorem g_slices_reverseRangeCmpFunc_int__part_Order_1_L0_ok (t0 : Bool) (m1_0 : (List ShapeT)) : ∀ (s0 : Int × Int × (List Int)) (r : (List Int)), lp (g_slices_reverseRangeCmpFunc_int_L0) s0 = some r → lpW ctx 2 [0, 8, 9] [] ir102L0 [(.sl 0 1), (.d (intD s0.1)), (.d (intD s0.2.1))] [(.arr 1 (List.map intD s0.2.2)), (.cells [(.d (D.list t0 (List.map shapeD m1_0)))])] = some ((g_slices_reverseRangeCmpFunc_int__part_Order_1_L0_x t0 m1_0) r) := by
 refine lp_ok (g_slices_reverseRangeCmpFunc_int__part_Order_1_L0_x t0 m1_0) ?_
 intro s0 rcl ih
 show Says _ _ (lpW _ _ _ _ _ _ _)
 unfold g_slices_reverseRangeCmpFunc_int_L0
 rw [lpW_b]
 conv => arg 3; whnf
 refine sim_br rfl ?_ ?_
 ·conv => arg 3; whnf
  refine sim_get (f := intD) rfl rfl fun x1 hx1 => ?_
  conv => arg 3; whnf
  refine sim_known (nth_of (f := intD) rfl hx1) ?_
  conv => arg 3; whnf
  refine sim_get (f := intD) rfl rfl fun x2 hx2 => ?_
  conv => arg 3; whnf
  refine sim_known (nth_of (f := intD) rfl hx2) ?_
  conv => arg 3; whnf
  refine sim_known (get_of (f := intD) rfl hx2) ?_
  conv => arg 3; whnf
  refine sim_known (nth_of (f := intD) rfl hx2) ?_
  conv => arg 3; whnf
  refine sim_let (set_enc intD s0.2.2 s0.1.toNat x1) ?_
  conv => arg 3; whnf
  refine sim_get (f := intD) rfl rfl fun x3 hx3 => ?_
  conv => arg 3; whnf
  refine sim_known (nth_of (f := intD) rfl hx3) ?_
  conv => arg 3; whnf
  refine sim_let (set_enc intD (List.set s0.2.2 s0.1.toNat x1) s0.2.1.toNat x2) ?_
  conv => arg 3; whnf
  exact sim_again (ih ((w64 (s0.1 + 1)), (w64 (s0.2.1 - 1)), (List.set (List.set s0.2.2 s0.1.toNat x1) s0.2.1.toNat x2)))
 ·conv => arg 3; whnf
  exact sim_ret rfl

set_option maxRecDepth 100000 in
set_option maxHeartbeats 40000000 in
theorem g_slices_reverseRangeCmpFunc_int__part_Order_1_ok (t0 : Bool) (b : Int) (c : Int) (m0_0 : (List Int)) (m1_0 : (List ShapeT)) : ∀ r, (g_slices_reverseRangeCmpFunc_int b c (fun z0 z1 => g_part_Order_1 z0 z1 m1_0) m0_0) = some r → evW ctx 102 [(.sl 0 1), (.d (intD b)), (.d (intD c)), (.fn 73 [(.ptr 1 0)])] [(.arr 1 (List.map intD m0_0)), (.cells [(.d (D.list t0 (List.map shapeD m1_0)))])] = some ((g_slices_reverseRangeCmpFunc_int__part_Order_1_e t0 b c m0_0 m1_0) r) := by
 show Says _ (fun r rhs => rhs = some ((g_slices_reverseRangeCmpFunc_int__part_Order_1_e t0 b c m0_0 m1_0) r)) _
 unfold g_slices_reverseRangeCmpFunc_int
 rw [evW_K ctx 102 fn102 _ _ rfl rfl]
 conv => arg 3; whnf
 refine sim_bind (g_slices_reverseRangeCmpFunc_int__part_Order_1_L0_x t0 m1_0) (g_slices_reverseRangeCmpFunc_int__part_Order_1_L0_ok t0 m1_0 (b, (w64 (c - 1)), m0_0)) fun r4 hr4 => ?_
 conv => arg 3; whnf
 exact sim_ret rfl
def g_slices_partialInsertionSortCmpFunc_int__part_Order_1_e (t0 : Bool) (b : Int) (c : Int) (m0_0 : (List Int)) (m1_0 : (List ShapeT)) : ((List Int) ⊕ (List Int)) → V × Heap
  | (.inl r) => ((.d (D.bool true)), [(.arr 1 (List.map intD r)), (.cells [(.d (D.list t0 (List.map shapeD m1_0)))])])
  | (.inr r) => ((.d (D.bool false)), [(.arr 1 (List.map intD r)), (.cells [(.d (D.list t0 (List.map shapeD m1_0)))])])

def g_slices_partialInsertionSortCmpFunc_int__part_Order_1_L0_x (t0 : Bool) (b : Int) (c : Int) (m1_0 : (List ShapeT)) (s0 : Int × Int × (List Int)) : Int → Ex × List V × Heap
  | r => (.exit 2, [(.sl 0 1), (.d (intD b)), (.d (intD c)), (.fn 73 [(.ptr 1 0)]), (.d (intD r)), (.d (intD s0.2.1))], [(.arr 1 (List.map intD s0.2.2)), (.cells [(.d (D.list t0 (List.map shapeD m1_0)))])])

set_option maxRecDepth 100000 in
set_option maxHeartbeats 40000000 in
theorem g_slices_partialInsertionSortCmpFunc_int__part_Order_1_L0_ok (t0 : Bool) (b : Int) (c : Int) (m1_0 : (List ShapeT)) (s0 : Int × Int × (List Int)) : ∀ (s1 : Int) (r : Int), lp (g_slices_partialInsertionSortCmpFunc_int_L0 c (fun z0 z1 => g_part_Order_1 z0 z1 m1_0) s0) s1 = some r → lpW ctx 2 [0, 1, 2, 3, 9, 10] [0, 1, 2, 3, 9, 10] ir103L0 [(.sl 0 1), (.d (intD b)), (.d (intD c)), (.fn 73 [(.ptr 1 0)]), (.d (intD s1)), (.d (intD s0.2.1))] [(.arr 1 (List.map intD s0.2.2)), (.cells [(.d (D.list t0 (List.map shapeD m1_0)))])] = some ((g_slices_partialInsertionSortCmpFunc_int__part_Order_1_L0_x t0 b c m1_0 s0) r) := by
 refine lp_ok (g_slices_partialInsertionSortCmpFunc_int__part_Order_1_L0_x t0 b c m1_0 s0) ?_
 intro s1 rcl ih
 show Says _ _ (lpW _ _ _ _ _ _ _)
 unfold g_slices_partialInsertionSortCmpFunc_int_L0
 rw [lpW_b]
 conv => arg 3; whnf
 refine sim_br rfl ?_ ?_
 ·conv => arg 3; whnf
  refine sim_get (f := intD) rfl rfl fun x2 hx2 => ?_
  conv => arg 3; whnf
  refine sim_known (nth_of (f := intD) rfl hx2) ?_
  conv => arg 3; whnf
  refine sim_get (f := intD) rfl rfl fun x3 hx3 => ?_
  conv => arg 3; whnf
  refine sim_known (nth_of (f := intD) rfl hx3) ?_
  conv => arg 3; whnf
  refine sim_call g_part_Order_1_e (g_part_Order_1_ok t0 x2 x3 m1_0) rfl fun x4 hx4 => ?_
  conv => arg 3; whnf
  refine sim_br rfl ?_ ?_
  ·conv => arg 3; whnf
   exact sim_ret rfl
  ·conv => arg 3; whnf
   exact sim_again (ih (w64 (s1 + 1)))
 ·conv => arg 3; whnf
  exact sim_ret rfl

def g_slices_partialInsertionSortCmpFunc_int__part_Order_1_L1_x (t0 : Bool) (b : Int) (c : Int) (m1_0 : (List ShapeT)) (s0 : Int × Int × (List Int)) (r5 : Int) : (List Int) → Ex × List V × Heap
  | r => (.exit 4, [(.sl 0 1), (.d (intD b)), (.d (intD c)), (.fn 73 [(.ptr 1 0)]), (.d (intD r5)), (.d (intD s0.2.1))], [(.arr 1 (List.map intD r)), (.cells [(.d (D.list t0 (List.map shapeD m1_0)))])])

set_option maxRecDepth 100000 in
set_option maxHeartbeats 40000000 in
theorem g_slices_partialInsertionSortCmpFunc_int__part_Order_1_L1_ok (t0 : Bool) (b : Int) (c : Int) (m1_0 : (List ShapeT)) (s0 : Int × Int × (List Int)) (r5 : Int) : ∀ (s9 : Int × (List Int)) (r : (List Int)), lp (g_slices_partialInsertionSortCmpFunc_int_L1 (fun z0 z1 => g_part_Order_1 z0 z1 m1_0)) s9 = some r → lpW ctx 2 [0, 1, 2, 3, 9, 10, 11] [0, 1, 2, 3, 9, 10] ir103L1 [(.sl 0 1), (.d (intD b)), (.d (intD c)), (.fn 73 [(.ptr 1 0)]), (.d (intD r5)), (.d (intD s0.2.1)), (.d (intD s9.1))] [(.arr 1 (List.map intD s9.2)), (.cells [(.d (D.list t0 (List.map shapeD m1_0)))])] = some ((g_slices_partialInsertionSortCmpFunc_int__part_Order_1_L1_x t0 b c m1_0 s0 r5) r) := by
 refine lp_ok (g_slices_partialInsertionSortCmpFunc_int__part_Order_1_L1_x t0 b c m1_0 s0 r5) ?_
 intro s9 rcl ih
 show Says _ _ (lpW _ _ _ _ _ _ _)
 unfold g_slices_partialInsertionSortCmpFunc_int_L1
 rw [lpW_b]
 conv => arg 3; whnf
 refine sim_br rfl ?_ ?_
 ·conv => arg 3; whnf
  refine sim_get (f := intD) rfl rfl fun x10 hx10 => ?_
  conv => arg 3; whnf
  refine sim_known (nth_of (f := intD) rfl hx10) ?_
  conv => arg 3; whnf
  refine sim_get (f := intD) rfl rfl fun x11 hx11 => ?_
  conv => arg 3; whnf
  refine sim_known (nth_of (f := intD) rfl hx11) ?_
  conv => arg 3; whnf
  refine sim_call g_part_Order_1_e (g_part_Order_1_ok t0 x10 x11 m1_0) rfl fun x12 hx12 => ?_
  conv => arg 3; whnf
  refine sim_br rfl ?_ ?_
  ·conv => arg 3; whnf
   refine sim_known (get_of (f := intD) rfl hx11) ?_
   conv => arg 3; whnf
   refine sim_known (nth_of (f := intD) rfl hx11) ?_
   conv => arg 3; whnf
   refine sim_known (get_of (f := intD) rfl hx10) ?_
   conv => arg 3; whnf
   refine sim_known (nth_of (f := intD) rfl hx10) ?_
   conv => arg 3; whnf
   refine sim_known (get_of (f := intD) rfl hx10) ?_
   conv => arg 3; whnf
   refine sim_known (nth_of (f := intD) rfl hx10) ?_
   conv => arg 3; whnf
   refine sim_let (set_enc intD s9.2 s9.1.toNat x11) ?_
   conv => arg 3; whnf
   refine sim_get (f := intD) rfl rfl fun x13 hx13 => ?_
   conv => arg 3; whnf
   refine sim_known (nth_of (f := intD) rfl hx13) ?_
   conv => arg 3; whnf
   refine sim_let (set_enc intD (List.set s9.2 s9.1.toNat x11) (w64 (s9.1 - 1)).toNat x10) ?_
   conv => arg 3; whnf
   exact sim_again (ih ((w64 (s9.1 - 1)), (List.set (List.set s9.2 s9.1.toNat x11) (w64 (s9.1 - 1)).toNat x10)))
  ·conv => arg 3; whnf
   exact sim_ret rfl
 ·conv => arg 3; whnf
  exact sim_ret rfl

def g_slices_partialInsertionSortCmpFunc_int__part_Order_1_L2_x (t0 : Bool) (b : Int) (c : Int) (m1_0 : (List ShapeT)) (s0 : Int × Int × (List Int)) (r5 : Int) : (List Int) → Ex × List V × Heap
  | r => (.exit 6, [(.sl 0 1), (.d (intD b)), (.d (intD c)), (.fn 73 [(.ptr 1 0)]), (.d (intD r5)), (.d (intD s0.2.1))], [(.arr 1 (List.map intD r)), (.cells [(.d (D.list t0 (List.map shapeD m1_0)))])])

set_option maxRecDepth 100000 in
set_option maxHeartbeats 40000000 in
theorem g_slices_partialInsertionSortCmpFunc_int__part_Order_1_L2_ok (t0 : Bool) (b : Int) (c : Int) (m1_0 : (List ShapeT)) (s0 : Int × Int × (List Int)) (r5 : Int) : ∀ (s15 : Int × (List Int)) (r : (List Int)), lp (g_slices_partialInsertionSortCmpFunc_int_L2 c (fun z0 z1 => g_part_Order_1 z0 z1 m1_0)) s15 = some r → lpW ctx 2 [0, 1, 2, 3, 9, 10, 12] [0, 1, 2, 3, 9, 10] ir103L2 [(.sl 0 1), (.d (intD b)), (.d (intD c)), (.fn 73 [(.ptr 1 0)]), (.d (intD r5)), (.d (intD s0.2.1)), (.d (intD s15.1))] [(.arr 1 (List.map intD s15.2)), (.cells [(.d (D.list t0 (List.map shapeD m1_0)))])] = some ((g_slices_partialInsertionSortCmpFunc_int__part_Order_1_L2_x t0 b c m1_0 s0 r5) r) := by
 refine lp_ok (g_slices_partialInsertionSortCmpFunc_int__part_Order_1_L2_x t0 b c m1_0 s0 r5) ?_
 intro s15 rcl ih
 show Says _ _ (lpW _ _ _ _ _ _ _)
 unfold g_slices_partialInsertionSortCmpFunc_int_L2
 rw [lpW_b]
 conv => arg 3; whnf
 refine sim_br rfl ?_ ?_
 ·conv => arg 3; whnf
  refine sim_get (f := intD) rfl rfl fun x16 hx16 => ?_
  conv => arg 3; whnf
  refine sim_known (nth_of (f := intD) rfl hx16) ?_
  conv => arg 3; whnf
  refine sim_get (f := intD) rfl rfl fun x17 hx17 => ?_
  conv => arg 3; whnf
  refine sim_known (nth_of (f := intD) rfl hx17) ?_
  conv => arg 3; whnf
  refine sim_call g_part_Order_1_e (g_part_Order_1_ok t0 x16 x17 m1_0) rfl fun x18 hx18 => ?_
  conv => arg 3; whnf
  refine sim_br rfl ?_ ?_
  ·conv => arg 3; whnf
   refine sim_known (get_of (f := intD) rfl hx17) ?_
   conv => arg 3; whnf
   refine sim_known (nth_of (f := intD) rfl hx17) ?_
   conv => arg 3; whnf
   refine sim_known (get_of (f := intD) rfl hx16) ?_
   conv => arg 3; whnf
   refine sim_known (nth_of (f := intD) rfl hx16) ?_
   conv => arg 3; whnf
   refine sim_known (get_of (f := intD) rfl hx16) ?_
   conv => arg 3; whnf
   refine sim_known (nth_of (f := intD) rfl hx16) ?_
   conv => arg 3; whnf
   refine sim_let (set_enc intD s15.2 s15.1.toNat x17) ?_
   conv => arg 3; whnf
   refine sim_get (f := intD) rfl rfl fun x19 hx19 => ?_
   conv => arg 3; whnf
   refine sim_known (nth_of (f := intD) rfl hx19) ?_
   conv => arg 3; whnf
   refine sim_let (set_enc intD (List.set s15.2 s15.1.toNat x17) (w64 (s15.1 - 1)).toNat x16) ?_
   conv => arg 3; whnf
   exact sim_again (ih ((w64 (s15.1 + 1)), (List.set (List.set s15.2 s15.1.toNat x17) (w64 (s15.1 - 1)).toNat x16)))
  ·conv => arg 3; whnf
   exact sim_ret rfl
 ·conv => arg 3; whnf
  exact sim_ret rfl

def g_slices_partialInsertionSortCmpFunc_int__part_Order_1_L2_2_x (t0 : Bool) (b : Int) (c : Int) (m1_0 : (List ShapeT)) (s0 : Int × Int × (List Int)) (r5 : Int) : (List Int) → Ex × List V × Heap
  | r => (.exit 6, [(.sl 0 1), (.d (intD b)), (.d (intD c)), (.fn 73 [(.ptr 1 0)]), (.d (intD r5)), (.d (intD s0.2.1))], [(.arr 1 (List.map intD r)), (.cells [(.d (D.list t0 (List.map shapeD m1_0)))])])

set_option maxRecDepth 100000 in
set_option maxHeartbeats 40000000 in
theorem g_slices_partialInsertionSortCmpFunc_int__part_Order_1_L2_2_ok (t0 : Bool) (b : Int) (c : Int) (m1_0 : (List ShapeT)) (s0 : Int × Int × (List Int)) (r5 : Int) : ∀ (s21 : Int × (List Int)) (r : (List Int)), lp (g_slices_partialInsertionSortCmpFunc_int_L2_2 c (fun z0 z1 => g_part_Order_1 z0 z1 m1_0)) s21 = some r → lpW ctx 2 [0, 1, 2, 3, 9, 10, 12] [0, 1, 2, 3, 9, 10] ir103L2 [(.sl 0 1), (.d (intD b)), (.d (intD c)), (.fn 73 [(.ptr 1 0)]), (.d (intD r5)), (.d (intD s0.2.1)), (.d (intD s21.1))] [(.arr 1 (List.map intD s21.2)), (.cells [(.d (D.list t0 (List.map shapeD m1_0)))])] = some ((g_slices_partialInsertionSortCmpFunc_int__part_Order_1_L2_2_x t0 b c m1_0 s0 r5) r) := by
 refine lp_ok (g_slices_partialInsertionSortCmpFunc_int__part_Order_1_L2_2_x t0 b c m1_0 s0 r5) ?_
 intro s21 rcl ih
 show Says _ _ (lpW _ _ _ _ _ _ _)
 unfold g_slices_partialInsertionSortCmpFunc_int_L2_2
 rw [lpW_b]
 conv => arg 3; whnf
 refine sim_br rfl ?_ ?_
 ·conv => arg 3; whnf
  refine sim_get (f := intD) rfl rfl fun x22 hx22 => ?_
  conv => arg 3; whnf
  refine sim_known (nth_of (f := intD) rfl hx22) ?_
  conv => arg 3; whnf
  refine sim_get (f := intD) rfl rfl fun x23 hx23 => ?_
  conv => arg 3; whnf
  refine sim_known (nth_of (f := intD) rfl hx23) ?_
  conv => arg 3; whnf
  refine sim_call g_part_Order_1_e (g_part_Order_1_ok t0 x22 x23 m1_0) rfl fun x24 hx24 => ?_
  conv => arg 3; whnf
  refine sim_br rfl ?_ ?_
  ·conv => arg 3; whnf
   refine sim_known (get_of (f := intD) rfl hx23) ?_
   conv => arg 3; whnf
   refine sim_known (nth_of (f := intD) rfl hx23) ?_
   conv => arg 3; whnf
   refine sim_known (get_of (f := intD) rfl hx22) ?_
   conv => arg 3; whnf
   refine sim_known (nth_of (f := intD) rfl hx22) ?_
   conv => arg 3; whnf
   refine sim_known (get_of (f := intD) rfl hx22) ?_
   conv => arg 3; whnf
   refine sim_known (nth_of (f := intD) rfl hx22) ?_
   conv => arg 3; whnf
   refine sim_let (set_enc intD s21.2 s21.1.toNat x23) ?_
   conv => arg 3; whnf
   refine sim_get (f := intD) rfl rfl fun x25 hx25 => ?_
   conv => arg 3; whnf
   refine sim_known (nth_of (f := intD) rfl hx25) ?_
   conv => arg 3; whnf
   refine sim_let (set_enc intD (List.set s21.2 s21.1.toNat x23) (w64 (s21.1 - 1)).toNat x22) ?_
   conv => arg 3; whnf
   exact sim_again (ih ((w64 (s21.1 + 1)), (List.set (List.set s21.2 s21.1.toNat x23) (w64 (s21.1 - 1)).toNat x22)))
  ·conv => arg 3; whnf
   exact sim_ret rfl
 ·conv => arg 3; whnf
  exact sim_ret rfl

def g_slices_partialInsertionSortCmpFunc_int__part_Order_1_L3_x (t0 : Bool) (b : Int) (c : Int) (m1_0 : (List ShapeT)) : ((List Int) ⊕ ((List Int) ⊕ (List Int))) → Ex × List V × Heap
  | (.inl r) => (.ret, [(.d (D.bool true))], [(.arr 1 (List.map intD r)), (.cells [(.d (D.list t0 (List.map shapeD m1_0)))])])
  | (.inr (.inl r)) => (.ret, [(.d (D.bool false))], [(.arr 1 (List.map intD r)), (.cells [(.d (D.list t0 (List.map shapeD m1_0)))])])
  | (.inr (.inr r)) => (.exit 0, [.bad], [(.arr 1 (List.map intD r)), (.cells [(.d (D.list t0 (List.map shapeD m1_0)))])])

set_option maxRecDepth 100000 in
set_option maxHeartbeats 40000000 in
theorem g_slices_partialInsertionSortCmpFunc_int__part_Order_1_L3_ok (t0 : Bool) (b : Int) (c : Int) (m1_0 : (List ShapeT)) : ∀ (s0 : Int × Int × (List Int)) (r : ((List Int) ⊕ ((List Int) ⊕ (List Int)))), lp (g_slices_partialInsertionSortCmpFunc_int_L3 b c (fun z0 z1 => g_part_Order_1 z0 z1 m1_0)) s0 = some r → lpW ctx 2 [0, 1, 2, 3, 9, 10] [8] ir103L3 [(.sl 0 1), (.d (intD b)), (.d (intD c)), (.fn 73 [(.ptr 1 0)]), (.d (intD s0.1)), (.d (intD s0.2.1))] [(.arr 1 (List.map intD s0.2.2)), (.cells [(.d (D.list t0 (List.map shapeD m1_0)))])] = some ((g_slices_partialInsertionSortCmpFunc_int__part_Order_1_L3_x t0 b c m1_0) r) := by
 refine lp_ok (g_slices_partialInsertionSortCmpFunc_int__part_Order_1_L3_x t0 b c m1_0) ?_
 intro s0 rcl ih
 show Says _ _ (lpW _ _ _ _ _ _ _)
 unfold g_slices_partialInsertionSortCmpFunc_int_L3
 rw [lpW_b]
 conv => arg 3; whnf
 refine sim_br rfl ?_ ?_
 ·conv => arg 3; whnf
  refine sim_bind (g_slices_partialInsertionSortCmpFunc_int__part_Order_1_L0_x t0 b c m1_0 s0) (g_slices_partialInsertionSortCmpFunc_int__part_Order_1_L0_ok t0 b c m1_0 s0 s0.1) fun r5 hr5 => ?_
  conv => arg 3; whnf
  refine sim_br rfl ?_ ?_
  ·conv => arg 3; whnf
   exact sim_ret rfl
  ·conv => arg 3; whnf
   refine sim_br rfl ?_ ?_
   ·conv => arg 3; whnf
    exact sim_ret rfl
   ·conv => arg 3; whnf
    refine sim_get (f := intD) rfl rfl fun x6 hx6 => ?_
    conv => arg 3; whnf
    refine sim_known (nth_of (f := intD) rfl hx6) ?_
    conv => arg 3; whnf
    refine sim_get (f := intD) rfl rfl fun x7 hx7 => ?_
    conv => arg 3; whnf
    refine sim_known (nth_of (f := intD) rfl hx7) ?_
    conv => arg 3; whnf
    refine sim_known (get_of (f := intD) rfl hx7) ?_
    conv => arg 3; whnf
    refine sim_known (nth_of (f := intD) rfl hx7) ?_
    conv => arg 3; whnf
    refine sim_let (set_enc intD s0.2.2 r5.toNat x6) ?_
    conv => arg 3; whnf
    refine sim_get (f := intD) rfl rfl fun x8 hx8 => ?_
    conv => arg 3; whnf
    refine sim_known (nth_of (f := intD) rfl hx8) ?_
    conv => arg 3; whnf
    refine sim_let (set_enc intD (List.set s0.2.2 r5.toNat x6) (w64 (r5 - 1)).toNat x7) ?_
    conv => arg 3; whnf
    refine sim_br rfl ?_ ?_
    ·conv => arg 3; whnf
     refine sim_bind (g_slices_partialInsertionSortCmpFunc_int__part_Order_1_L1_x t0 b c m1_0 s0 r5) (g_slices_partialInsertionSortCmpFunc_int__part_Order_1_L1_ok t0 b c m1_0 s0 r5 ((w64 (r5 - 1)), (List.set (List.set s0.2.2 r5.toNat x6) (w64 (r5 - 1)).toNat x7))) fun r14 hr14 => ?_
     conv => arg 3; whnf
     refine sim_br rfl ?_ ?_
     ·conv => arg 3; whnf
      refine sim_bind (g_slices_partialInsertionSortCmpFunc_int__part_Order_1_L2_x t0 b c m1_0 s0 r5) (g_slices_partialInsertionSortCmpFunc_int__part_Order_1_L2_ok t0 b c m1_0 s0 r5 ((w64 (r5 + 1)), r14)) fun r20 hr20 => ?_
      conv => arg 3; whnf
      exact sim_again (ih (r5, (w64 (s0.2.1 + 1)), r20))
     ·conv => arg 3; whnf
      exact sim_again (ih (r5, (w64 (s0.2.1 + 1)), r14))
    ·conv => arg 3; whnf
     refine sim_br rfl ?_ ?_
     ·conv => arg 3; whnf
      refine sim_bind (g_slices_partialInsertionSortCmpFunc_int__part_Order_1_L2_2_x t0 b c m1_0 s0 r5) (g_slices_partialInsertionSortCmpFunc_int__part_Order_1_L2_2_ok t0 b c m1_0 s0 r5 ((w64 (r5 + 1)), (List.set (List.set s0.2.2 r5.toNat x6) (w64 (r5 - 1)).toNat x7))) fun r26 hr26 => ?_
      conv => arg 3; whnf
      exact sim_again (ih (r5, (w64 (s0.2.1 + 1)), r26))
     ·conv => arg 3; whnf
      exact sim_again (ih (r5, (w64 (s0.2.1 + 1)), (List.set (List.set s0.2.2 r5.toNat x6) (w64 (r5 - 1)).toNat x7)))
 ·conv => arg 3; whnf
  exact sim_ret rfl

set_option maxRecDepth 100000 in
set_option maxHeartbeats 40000000 in
theorem g_slices_partialInsertionSortCmpFunc_int__part_Order_1_ok (t0 : Bool) (b : Int) (c : Int) (m0_0 : (List Int)) (m1_0 : (List ShapeT)) : ∀ r, (g_slices_partialInsertionSortCmpFunc_int b c (fun z0 z1 => g_part_Order_1 z0 z1 m1_0) m0_0) = some r → evW ctx 103 [(.sl 0 1), (.d (intD b)), (.d (intD c)), (.fn 73 [(.ptr 1 0)])] [(.arr 1 (List.map intD m0_0)), (.cells [(.d (D.list t0 (List.map shapeD m1_0)))])] = some ((g_slices_partialInsertionSortCmpFunc_int__part_Order_1_e t0 b c m0_0 m1_0) r) := by
 show Says _ (fun r rhs => rhs = some ((g_slices_partialInsertionSortCmpFunc_int__part_Order_1_e t0 b c m0_0 m1_0) r)) _
 unfold g_slices_partialInsertionSortCmpFunc_int
 rw [evW_K ctx 103 fn103 _ _ rfl rfl]
 conv => arg 3; whnf
 refine sim_bind (g_slices_partialInsertionSortCmpFunc_int__part_Order_1_L3_x t0 b c m1_0) (g_slices_partialInsertionSortCmpFunc_int__part_Order_1_L3_ok t0 b c m1_0 ((w64 (b + 1)), 0, m0_0)) fun r27 hr27 => ?_
 clear hr27
 rcases r27 with r27 | (r27 | r27)
 ·conv => arg 3; whnf
  exact sim_ret rfl
 ·conv => arg 3; whnf
  exact sim_ret rfl
 ·conv => arg 3; whnf
  exact sim_ret rfl
def g_slices_partitionCmpFunc_int__part_Order_1_e (t0 : Bool) (b : Int) (c : Int) (d : Int) (m0_0 : (List Int)) (m1_0 : (List ShapeT)) : ((Int × (List Int)) ⊕ (Int × (List Int))) → V × Heap
  | (.inl r) => ((.d (D.tup [(intD r.1), (D.bool true)])), [(.arr 1 (List.map intD r.2)), (.cells [(.d (D.list t0 (List.map shapeD m1_0)))])])
  | (.inr r) => ((.d (D.tup [(intD r.1), (D.bool false)])), [(.arr 1 (List.map intD r.2)), (.cells [(.d (D.list t0 (List.map shapeD m1_0)))])])

def g_slices_partitionCmpFunc_int__part_Order_1_L0_x (t0 : Bool) (b : Int) (c : Int) (d : Int) (m0_0 : (List Int)) (m1_0 : (List ShapeT)) (x0 : Int) (x1 : Int) : Int → Ex × List V × Heap
  | r => (.exit 0, [(.sl 0 1), (.d (intD b)), (.fn 73 [(.ptr 1 0)]), (.d (intD r)), (.d (intD (w64 (c - 1))))], [(.arr 1 (List.map intD (List.set (List.set m0_0 b.toNat x0) d.toNat x1))), (.cells [(.d (D.list t0 (List.map shapeD m1_0)))])])

set_option maxRecDepth 100000 in
set_option maxHeartbeats 40000000 in
theorem g_slices_partitionCmpFunc_int__part_Order_1_L0_ok (t0 : Bool) (b : Int) (c : Int) (d : Int) (m0_0 : (List Int)) (m1_0 : (List ShapeT)) (x0 : Int) (x1 : Int) : ∀ (s3 : Int) (r : Int), lp (g_slices_partitionCmpFunc_int_L0 b c d m0_0 (fun z0 z1 => g_part_Order_1 z0 z1 m1_0) x0 x1) s3 = some r → lpW ctx 2 [0, 1, 4, 12, 13] [0, 1, 4, 12, 13] ir105L0 [(.sl 0 1), (.d (intD b)), (.fn 73 [(.ptr 1 0)]), (.d (intD s3)), (.d (intD (w64 (c - 1))))] [(.arr 1 (List.map intD (List.set (List.set m0_0 b.toNat x0) d.toNat x1))), (.cells [(.d (D.list t0 (List.map shapeD m1_0)))])] = some ((g_slices_partitionCmpFunc_int__part_Order_1_L0_x t0 b c d m0_0 m1_0 x0 x1) r) := by
 refine lp_ok (g_slices_partitionCmpFunc_int__part_Order_1_L0_x t0 b c d m0_0 m1_0 x0 x1) ?_
 intro s3 rcl ih
 show Says _ _ (lpW _ _ _ _ _ _ _)
 unfold g_slices_partitionCmpFunc_int_L0
 rw [lpW_b]
 conv => arg 3; whnf
 refine sim_br rfl ?_ ?_
 ·conv => arg 3; whnf
  refine sim_get (f := intD) rfl rfl fun x4 hx4 => ?_
  conv => arg 3; whnf
  refine sim_known (nth_of (f := intD) rfl hx4) ?_
  conv => arg 3; whnf
  refine sim_get (f := intD) rfl rfl fun x5 hx5 => ?_
  conv => arg 3; whnf
  refine sim_known (nth_of (f := intD) rfl hx5) ?_
  conv => arg 3; whnf
  refine sim_call g_part_Order_1_e (g_part_Order_1_ok t0 x4 x5 m1_0) rfl fun x6 hx6 => ?_
  conv => arg 3; whnf
  refine sim_br rfl ?_ ?_
  ·conv => arg 3; whnf
   exact sim_again (ih (w64 (s3 + 1)))
  ·conv => arg 3; whnf
   exact sim_ret rfl
 ·conv => arg 3; whnf
  exact sim_ret rfl

def g_slices_partitionCmpFunc_int__part_Order_1_L1_x (t0 : Bool) (b : Int) (d : Int) (m0_0 : (List Int)) (m1_0 : (List ShapeT)) (x0 : Int) (x1 : Int) (r7 : Int) : Int → Ex × List V × Heap
  | r => (.exit 2, [(.sl 0 1), (.d (intD b)), (.fn 73 [(.ptr 1 0)]), (.d (intD r7)), (.d (intD r))], [(.arr 1 (List.map intD (List.set (List.set m0_0 b.toNat x0) d.toNat x1))), (.cells [(.d (D.list t0 (List.map shapeD m1_0)))])])

set_option maxRecDepth 100000 in
set_option maxHeartbeats 40000000 in
theorem g_slices_partitionCmpFunc_int__part_Order_1_L1_ok (t0 : Bool) (b : Int) (d : Int) (m0_0 : (List Int)) (m1_0 : (List ShapeT)) (x0 : Int) (x1 : Int) (r7 : Int) : ∀ (s8 : Int) (r : Int), lp (g_slices_partitionCmpFunc_int_L1 b d m0_0 (fun z0 z1 => g_part_Order_1 z0 z1 m1_0) x0 x1 r7) s8 = some r → lpW ctx 2 [0, 1, 4, 12, 13] [0, 1, 4, 12, 13] ir105L1 [(.sl 0 1), (.d (intD b)), (.fn 73 [(.ptr 1 0)]), (.d (intD r7)), (.d (intD s8))] [(.arr 1 (List.map intD (List.set (List.set m0_0 b.toNat x0) d.toNat x1))), (.cells [(.d (D.list t0 (List.map shapeD m1_0)))])] = some ((g_slices_partitionCmpFunc_int__part_Order_1_L1_x t0 b d m0_0 m1_0 x0 x1 r7) r) := by
 refine lp_ok (g_slices_partitionCmpFunc_int__part_Order_1_L1_x t0 b d m0_0 m1_0 x0 x1 r7) ?_
 intro s8 rcl ih
 show Says _ _ (lpW _ _ _ _ _ _ _)
 unfold g_slices_partitionCmpFunc_int_L1
 rw [lpW_b]
 conv => arg 3; whnf
 refine sim_br rfl ?_ ?_
 ·conv => arg 3; whnf
  refine sim_get (f := intD) rfl rfl fun x9 hx9 => ?_
  conv => arg 3; whnf
  refine sim_known (nth_of (f := intD) rfl hx9) ?_
  conv => arg 3; whnf
  refine sim_get (f := intD) rfl rfl fun x10 hx10 => ?_
  conv => arg 3; whnf
  refine sim_known (nth_of (f := intD) rfl hx10) ?_
  conv => arg 3; whnf
  refine sim_call g_part_Order_1_e (g_part_Order_1_ok t0 x9 x10 m1_0) rfl fun x11 hx11 => ?_
  conv => arg 3; whnf
  refine sim_br rfl ?_ ?_
  ·conv => arg 3; whnf
   exact sim_ret rfl
  ·conv => arg 3; whnf
   exact sim_again (ih (w64 (s8 - 1)))
 ·conv => arg 3; whnf
  exact sim_ret rfl

def g_slices_partitionCmpFunc_int__part_Order_1_L2_x (t0 : Bool) (b : Int) (d : Int) (m1_0 : (List ShapeT)) (s19 : Int × Int × (List Int)) : Int → Ex × List V × Heap
  | r => (.exit 6, [(.sl 0 1), (.d (intD b)), (.fn 73 [(.ptr 1 0)]), (.d (intD r)), (.d (intD s19.2.1))], [(.arr 1 (List.map intD s19.2.2)), (.cells [(.d (D.list t0 (List.map shapeD m1_0)))])])

set_option maxRecDepth 100000 in
set_option maxHeartbeats 40000000 in
theorem g_slices_partitionCmpFunc_int__part_Order_1_L2_ok (t0 : Bool) (b : Int) (d : Int) (m1_0 : (List ShapeT)) (s19 : Int × Int × (List Int)) : ∀ (s20 : Int) (r : Int), lp (g_slices_partitionCmpFunc_int_L2 b (fun z0 z1 => g_part_Order_1 z0 z1 m1_0) s19) s20 = some r → lpW ctx 2 [0, 1, 4, 12, 13] [0, 1, 4, 12, 13] ir105L2 [(.sl 0 1), (.d (intD b)), (.fn 73 [(.ptr 1 0)]), (.d (intD s20)), (.d (intD s19.2.1))] [(.arr 1 (List.map intD s19.2.2)), (.cells [(.d (D.list t0 (List.map shapeD m1_0)))])] = some ((g_slices_partitionCmpFunc_int__part_Order_1_L2_x t0 b d m1_0 s19) r) := by
 refine lp_ok (g_slices_partitionCmpFunc_int__part_Order_1_L2_x t0 b d m1_0 s19) ?_
 intro s20 rcl ih
 show Says _ _ (lpW _ _ _ _ _ _ _)
 unfold g_slices_partitionCmpFunc_int_L2
 rw [lpW_b]
 conv => arg 3; whnf
 refine sim_br rfl ?_ ?_
 ·conv => arg 3; whnf
  refine sim_get (f := intD) rfl rfl fun x21 hx21 => ?_
  conv => arg 3; whnf
  refine sim_known (nth_of (f := intD) rfl hx21) ?_
  conv => arg 3; whnf
  refine sim_get (f := intD) rfl rfl fun x22 hx22 => ?_
  conv => arg 3; whnf
  refine sim_known (nth_of (f := intD) rfl hx22) ?_
  conv => arg 3; whnf
  refine sim_call g_part_Order_1_e (g_part_Order_1_ok t0 x21 x22 m1_0) rfl fun x23 hx23 => ?_
  conv => arg 3; whnf
  refine sim_br rfl ?_ ?_
  ·conv => arg 3; whnf
   exact sim_again (ih (w64 (s20 + 1)))
  ·conv => arg 3; whnf
   exact sim_ret rfl
 ·conv => arg 3; whnf
  exact sim_ret rfl

def g_slices_partitionCmpFunc_int__part_Order_1_L3_x (t0 : Bool) (b : Int) (d : Int) (m1_0 : (List ShapeT)) (s19 : Int × Int × (List Int)) (r24 : Int) : Int → Ex × List V × Heap
  | r => (.exit 8, [(.sl 0 1), (.d (intD b)), (.fn 73 [(.ptr 1 0)]), (.d (intD r24)), (.d (intD r))], [(.arr 1 (List.map intD s19.2.2)), (.cells [(.d (D.list t0 (List.map shapeD m1_0)))])])

set_option maxRecDepth 100000 in
set_option maxHeartbeats 40000000 in
theorem g_slices_partitionCmpFunc_int__part_Order_1_L3_ok (t0 : Bool) (b : Int) (d : Int) (m1_0 : (List ShapeT)) (s19 : Int × Int × (List Int)) (r24 : Int) : ∀ (s25 : Int) (r : Int), lp (g_slices_partitionCmpFunc_int_L3 b (fun z0 z1 => g_part_Order_1 z0 z1 m1_0) s19 r24) s25 = some r → lpW ctx 2 [0, 1, 4, 12, 13] [0, 1, 4, 12, 13] ir105L3 [(.sl 0 1), (.d (intD b)), (.fn 73 [(.ptr 1 0)]), (.d (intD r24)), (.d (intD s25))] [(.arr 1 (List.map intD s19.2.2)), (.cells [(.d (D.list t0 (List.map shapeD m1_0)))])] = some ((g_slices_partitionCmpFunc_int__part_Order_1_L3_x t0 b d m1_0 s19 r24) r) := by
 refine lp_ok (g_slices_partitionCmpFunc_int__part_Order_1_L3_x t0 b d m1_0 s19 r24) ?_
 intro s25 rcl ih
 show Says _ _ (lpW _ _ _ _ _ _ _)
 unfold g_slices_partitionCmpFunc_int_L3
 rw [lpW_b]
 conv => arg 3; whnf
 refine sim_br rfl ?_ ?_
 ·conv => arg 3; whnf
  refine sim_get (f := intD) rfl rfl fun x26 hx26 => ?_
  conv => arg 3; whnf
  refine sim_known (nth_of (f := intD) rfl hx26) ?_
  conv => arg 3; whnf
  refine sim_get (f := intD) rfl rfl fun x27 hx27 => ?_
  conv => arg 3; whnf
  refine sim_known (nth_of (f := intD) rfl hx27) ?_
  conv => arg 3; whnf
  refine sim_call g_part_Order_1_e (g_part_Order_1_ok t0 x26 x27 m1_0) rfl fun x28 hx28 => ?_
  conv => arg 3; whnf
  refine sim_br rfl ?_ ?_
  ·conv => arg 3; whnf
   exact sim_ret rfl
  ·conv => arg 3; whnf
   exact sim_again (ih (w64 (s25 - 1)))
 ·conv => arg 3; whnf
  exact sim_ret rfl

def g_slices_partitionCmpFunc_int__part_Order_1_L4_x (t0 : Bool) (b : Int) (d : Int) (m1_0 : (List ShapeT)) : (Int × (List Int)) → Ex × List V × Heap
  | r => (.exit 4, [(.sl 0 1), (.d (intD b)), (.d (intD r.1))], [(.arr 1 (List.map intD r.2)), (.cells [(.d (D.list t0 (List.map shapeD m1_0)))])])

set_option maxRecDepth 100000 in
set_option maxHeartbeats 40000000 in
theorem g_slices_partitionCmpFunc_int__part_Order_1_L4_ok (t0 : Bool) (b : Int) (d : Int) (m1_0 : (List ShapeT)) : ∀ (s19 : Int × Int × (List Int)) (r : (Int × (List Int))), lp (g_slices_partitionCmpFunc_int_L4 b (fun z0 z1 => g_part_Order_1 z0 z1 m1_0)) s19 = some r → lpW ctx 2 [0, 1, 4, 12, 13] [0, 1, 13] ir105L4 [(.sl 0 1), (.d (intD b)), (.fn 73 [(.ptr 1 0)]), (.d (intD s19.1)), (.d (intD s19.2.1))] [(.arr 1 (List.map intD s19.2.2)), (.cells [(.d (D.list t0 (List.map shapeD m1_0)))])] = some ((g_slices_partitionCmpFunc_int__part_Order_1_L4_x t0 b d m1_0) r) := by
 refine lp_ok (g_slices_partitionCmpFunc_int__part_Order_1_L4_x t0 b d m1_0) ?_
 intro s19 rcl ih
 show Says _ _ (lpW _ _ _ _ _ _ _)
 unfold g_slices_partitionCmpFunc_int_L4
 rw [lpW_b]
 conv => arg 3; whnf
 refine sim_bind (g_slices_partitionCmpFunc_int__part_Order_1_L2_x t0 b d m1_0 s19) (g_slices_partitionCmpFunc_int__part_Order_1_L2_ok t0 b d m1_0 s19 s19.1) fun r24 hr24 => ?_
 conv => arg 3; whnf
 refine sim_bind (g_slices_partitionCmpFunc_int__part_Order_1_L3_x t0 b d m1_0 s19 r24) (g_slices_partitionCmpFunc_int__part_Order_1_L3_ok t0 b d m1_0 s19 r24 s19.2.1) fun r29 hr29 => ?_
 conv => arg 3; whnf
 refine sim_br rfl ?_ ?_
 ·conv => arg 3; whnf
  exact sim_ret rfl
 ·conv => arg 3; whnf
  refine sim_get (f := intD) rfl rfl fun x30 hx30 => ?_
  conv => arg 3; whnf
  refine sim_known (nth_of (f := intD) rfl hx30) ?_
  conv => arg 3; whnf
  refine sim_get (f := intD) rfl rfl fun x31 hx31 => ?_
  conv => arg 3; whnf
  refine sim_known (nth_of (f := intD) rfl hx31) ?_
  conv => arg 3; whnf
  refine sim_known (get_of (f := intD) rfl hx31) ?_
  conv => arg 3; whnf
  refine sim_known (nth_of (f := intD) rfl hx31) ?_
  conv => arg 3; whnf
  refine sim_let (set_enc intD s19.2.2 r24.toNat x30) ?_
  conv => arg 3; whnf
  refine sim_get (f := intD) rfl rfl fun x32 hx32 => ?_
  conv => arg 3; whnf
  refine sim_known (nth_of (f := intD) rfl hx32) ?_
  conv => arg 3; whnf
  refine sim_let (set_enc intD (List.set s19.2.2 r24.toNat x30) r29.toNat x31) ?_
  conv => arg 3; whnf
  exact sim_again (ih ((w64 (r24 + 1)), (w64 (r29 - 1)), (List.set (List.set s19.2.2 r24.toNat x30) r29.toNat x31)))

set_option maxRecDepth 100000 in
set_option maxHeartbeats 40000000 in
theorem g_slices_partitionCmpFunc_int__part_Order_1_ok (t0 : Bool) (b : Int) (c : Int) (d : Int) (m0_0 : (List Int)) (m1_0 : (List ShapeT)) : ∀ r, (g_slices_partitionCmpFunc_int b c d (fun z0 z1 => g_part_Order_1 z0 z1 m1_0) m0_0) = some r → evW ctx 105 [(.sl 0 1), (.d (intD b)), (.d (intD c)), (.d (intD d)), (.fn 73 [(.ptr 1 0)])] [(.arr 1 (List.map intD m0_0)), (.cells [(.d (D.list t0 (List.map shapeD m1_0)))])] = some ((g_slices_partitionCmpFunc_int__part_Order_1_e t0 b c d m0_0 m1_0) r) := by
 show Says _ (fun r rhs => rhs = some ((g_slices_partitionCmpFunc_int__part_Order_1_e t0 b c d m0_0 m1_0) r)) _
 unfold g_slices_partitionCmpFunc_int
 rw [evW_K ctx 105 fn105 _ _ rfl rfl]
 conv => arg 3; whnf
 refine sim_get (f := intD) rfl rfl fun x0 hx0 => ?_
 conv => arg 3; whnf
 refine sim_known (nth_of (f := intD) rfl hx0) ?_
 conv => arg 3; whnf
 refine sim_get (f := intD) rfl rfl fun x1 hx1 => ?_
 conv => arg 3; whnf
 refine sim_known (nth_of (f := intD) rfl hx1) ?_
 conv => arg 3; whnf
 refine sim_known (get_of (f := intD) rfl hx1) ?_
 conv => arg 3; whnf
 refine sim_known (nth_of (f := intD) rfl hx1) ?_
 conv => arg 3; whnf
 refine sim_let (set_enc intD m0_0 b.toNat x0) ?_
 conv => arg 3; whnf
 refine sim_get (f := intD) rfl rfl fun x2 hx2 => ?_
 conv => arg 3; whnf
 refine sim_known (nth_of (f := intD) rfl hx2) ?_
 conv => arg 3; whnf
 refine sim_let (set_enc intD (List.set m0_0 b.toNat x0) d.toNat x1) ?_
 conv => arg 3; whnf
 refine sim_bind (g_slices_partitionCmpFunc_int__part_Order_1_L0_x t0 b c d m0_0 m1_0 x0 x1) (g_slices_partitionCmpFunc_int__part_Order_1_L0_ok t0 b c d m0_0 m1_0 x0 x1 (w64 (b + 1))) fun r7 hr7 => ?_
 conv => arg 3; whnf
 refine sim_bind (g_slices_partitionCmpFunc_int__part_Order_1_L1_x t0 b d m0_0 m1_0 x0 x1 r7) (g_slices_partitionCmpFunc_int__part_Order_1_L1_ok t0 b d m0_0 m1_0 x0 x1 r7 (w64 (c - 1))) fun r12 hr12 => ?_
 conv => arg 3; whnf
 refine sim_br rfl ?_ ?_
 ·conv => arg 3; whnf
  refine sim_get (f := intD) rfl rfl fun x13 hx13 => ?_
  conv => arg 3; whnf
  refine sim_known (nth_of (f := intD) rfl hx13) ?_
  conv => arg 3; whnf
  refine sim_get (f := intD) rfl rfl fun x14 hx14 => ?_
  conv => arg 3; whnf
  refine sim_known (nth_of (f := intD) rfl hx14) ?_
  conv => arg 3; whnf
  refine sim_known (get_of (f := intD) rfl hx14) ?_
  conv => arg 3; whnf
  refine sim_known (nth_of (f := intD) rfl hx14) ?_
  conv => arg 3; whnf
  refine sim_let (set_enc intD (List.set (List.set m0_0 b.toNat x0) d.toNat x1) r12.toNat x13) ?_
  conv => arg 3; whnf
  refine sim_get (f := intD) rfl rfl fun x15 hx15 => ?_
  conv => arg 3; whnf
  refine sim_known (nth_of (f := intD) rfl hx15) ?_
  conv => arg 3; whnf
  refine sim_let (set_enc intD (List.set (List.set (List.set m0_0 b.toNat x0) d.toNat x1) r12.toNat x13) b.toNat x14) ?_
  conv => arg 3; whnf
  exact sim_ret rfl
 ·conv => arg 3; whnf
  refine sim_get (f := intD) rfl rfl fun x16 hx16 => ?_
  conv => arg 3; whnf
  refine sim_known (nth_of (f := intD) rfl hx16) ?_
  conv => arg 3; whnf
  refine sim_get (f := intD) rfl rfl fun x17 hx17 => ?_
  conv => arg 3; whnf
  refine sim_known (nth_of (f := intD) rfl hx17) ?_
  conv => arg 3; whnf
  refine sim_known (get_of (f := intD) rfl hx17) ?_
  conv => arg 3; whnf
  refine sim_known (nth_of (f := intD) rfl hx17) ?_
  conv => arg 3; whnf
  refine sim_let (set_enc intD (List.set (List.set m0_0 b.toNat x0) d.toNat x1) r7.toNat x16) ?_
  conv => arg 3; whnf
  refine sim_get (f := intD) rfl rfl fun x18 hx18 => ?_
  conv => arg 3; whnf
  refine sim_known (nth_of (f := intD) rfl hx18) ?_
  conv => arg 3; whnf
  refine sim_let (set_enc intD (List.set (List.set (List.set m0_0 b.toNat x0) d.toNat x1) r7.toNat x16) r12.toNat x17) ?_
  conv => arg 3; whnf
  refine sim_bind (g_slices_partitionCmpFunc_int__part_Order_1_L4_x t0 b d m1_0) (g_slices_partitionCmpFunc_int__part_Order_1_L4_ok t0 b d m1_0 ((w64 (r7 + 1)), (w64 (r12 - 1)), (List.set (List.set (List.set (List.set m0_0 b.toNat x0) d.toNat x1) r7.toNat x16) r12.toNat x17))) fun r33 hr33 => ?_
  conv => arg 3; whnf
  refine sim_get (f := intD) rfl rfl fun x34 hx34 => ?_
  conv => arg 3; whnf
  refine sim_known (nth_of (f := intD) rfl hx34) ?_
  conv => arg 3; whnf
  refine sim_get (f := intD) rfl rfl fun x35 hx35 => ?_
  conv => arg 3; whnf
  refine sim_known (nth_of (f := intD) rfl hx35) ?_
  conv => arg 3; whnf
  refine sim_known (get_of (f := intD) rfl hx35) ?_
  conv => arg 3; whnf
  refine sim_known (nth_of (f := intD) rfl hx35) ?_
  conv => arg 3; whnf
  refine sim_let (set_enc intD r33.2 r33.1.toNat x34) ?_
  conv => arg 3; whnf
  refine sim_get (f := intD) rfl rfl fun x36 hx36 => ?_
  conv => arg 3; whnf
  refine sim_known (nth_of (f := intD) rfl hx36) ?_
  conv => arg 3; whnf
  refine sim_let (set_enc intD (List.set r33.2 r33.1.toNat x34) b.toNat x35) ?_
  conv => arg 3; whnf
  exact sim_ret rfl
def g_slices_partitionEqualCmpFunc_int__part_Order_1_e (t0 : Bool) (b : Int) (c : Int) (d : Int) (m0_0 : (List Int)) (m1_0 : (List ShapeT)) : (Int × (List Int)) → V × Heap
  | r => ((.d (intD r.1)), [(.arr 1 (List.map intD r.2)), (.cells [(.d (D.list t0 (List.map shapeD m1_0)))])])

def g_slices_partitionEqualCmpFunc_int__part_Order_1_L0_x (t0 : Bool) (b : Int) (d : Int) (m1_0 : (List ShapeT)) (s3 : Int × Int × (List Int)) : Int → Ex × List V × Heap
  | r => (.exit 2, [(.sl 0 1), (.d (intD b)), (.fn 73 [(.ptr 1 0)]), (.d (intD r)), (.d (intD s3.2.1))], [(.arr 1 (List.map intD s3.2.2)), (.cells [(.d (D.list t0 (List.map shapeD m1_0)))])])

set_option maxRecDepth 100000 in
set_option maxHeartbeats 40000000 in
theorem g_slices_partitionEqualCmpFunc_int__part_Order_1_L0_ok (t0 : Bool) (b : Int) (d : Int) (m1_0 : (List ShapeT)) (s3 : Int × Int × (List Int)) : ∀ (s4 : Int) (r : Int), lp (g_slices_partitionEqualCmpFunc_int_L0 b (fun z0 z1 => g_part_Order_1 z0 z1 m1_0) s3) s4 = some r → lpW ctx 2 [0, 1, 4, 11, 12] [0, 1, 4, 11, 12] ir104L0 [(.sl 0 1), (.d (intD b)), (.fn 73 [(.ptr 1 0)]), (.d (intD s4)), (.d (intD s3.2.1))] [(.arr 1 (List.map intD s3.2.2)), (.cells [(.d (D.list t0 (List.map shapeD m1_0)))])] = some ((g_slices_partitionEqualCmpFunc_int__part_Order_1_L0_x t0 b d m1_0 s3) r) := by
 refine lp_ok (g_slices_partitionEqualCmpFunc_int__part_Order_1_L0_x t0 b d m1_0 s3) ?_
 intro s4 rcl ih
 show Says _ _ (lpW _ _ _ _ _ _ _)
 unfold g_slices_partitionEqualCmpFunc_int_L0
 rw [lpW_b]
 conv => arg 3; whnf
 refine sim_br rfl ?_ ?_
 ·conv => arg 3; whnf
  refine sim_get (f := intD) rfl rfl fun x5 hx5 => ?_
  conv => arg 3; whnf
  refine sim_known (nth_of (f := intD) rfl hx5) ?_
  conv => arg 3; whnf
  refine sim_get (f := intD) rfl rfl fun x6 hx6 => ?_
  conv => arg 3; whnf
  refine sim_known (nth_of (f := intD) rfl hx6) ?_
  conv => arg 3; whnf
  refine sim_call g_part_Order_1_e (g_part_Order_1_ok t0 x5 x6 m1_0) rfl fun x7 hx7 => ?_
  conv => arg 3; whnf
  refine sim_br rfl ?_ ?_
  ·conv => arg 3; whnf
   exact sim_ret rfl
  ·conv => arg 3; whnf
   exact sim_again (ih (w64 (s4 + 1)))
 ·conv => arg 3; whnf
  exact sim_ret rfl

def g_slices_partitionEqualCmpFunc_int__part_Order_1_L1_x (t0 : Bool) (b : Int) (d : Int) (m1_0 : (List ShapeT)) (s3 : Int × Int × (List Int)) (r8 : Int) : Int → Ex × List V × Heap
  | r => (.exit 4, [(.sl 0 1), (.d (intD b)), (.fn 73 [(.ptr 1 0)]), (.d (intD r8)), (.d (intD r))], [(.arr 1 (List.map intD s3.2.2)), (.cells [(.d (D.list t0 (List.map shapeD m1_0)))])])

set_option maxRecDepth 100000 in
set_option maxHeartbeats 40000000 in
theorem g_slices_partitionEqualCmpFunc_int__part_Order_1_L1_ok (t0 : Bool) (b : Int) (d : Int) (m1_0 : (List ShapeT)) (s3 : Int × Int × (List Int)) (r8 : Int) : ∀ (s9 : Int) (r : Int), lp (g_slices_partitionEqualCmpFunc_int_L1 b (fun z0 z1 => g_part_Order_1 z0 z1 m1_0) s3 r8) s9 = some r → lpW ctx 2 [0, 1, 4, 11, 12] [0, 1, 4, 11, 12] ir104L1 [(.sl 0 1), (.d (intD b)), (.fn 73 [(.ptr 1 0)]), (.d (intD r8)), (.d (intD s9))] [(.arr 1 (List.map intD s3.2.2)), (.cells [(.d (D.list t0 (List.map shapeD m1_0)))])] = some ((g_slices_partitionEqualCmpFunc_int__part_Order_1_L1_x t0 b d m1_0 s3 r8) r) := by
 refine lp_ok (g_slices_partitionEqualCmpFunc_int__part_Order_1_L1_x t0 b d m1_0 s3 r8) ?_
 intro s9 rcl ih
 show Says _ _ (lpW _ _ _ _ _ _ _)
 unfold g_slices_partitionEqualCmpFunc_int_L1
 rw [lpW_b]
 conv => arg 3; whnf
 refine sim_br rfl ?_ ?_
 ·conv => arg 3; whnf
  refine sim_get (f := intD) rfl rfl fun x10 hx10 => ?_
  conv => arg 3; whnf
  refine sim_known (nth_of (f := intD) rfl hx10) ?_
  conv => arg 3; whnf
  refine sim_get (f := intD) rfl rfl fun x11 hx11 => ?_
  conv => arg 3; whnf
  refine sim_known (nth_of (f := intD) rfl hx11) ?_
  conv => arg 3; whnf
  refine sim_call g_part_Order_1_e (g_part_Order_1_ok t0 x10 x11 m1_0) rfl fun x12 hx12 => ?_
  conv => arg 3; whnf
  refine sim_br rfl ?_ ?_
  ·conv => arg 3; whnf
   exact sim_again (ih (w64 (s9 - 1)))
  ·conv => arg 3; whnf
   exact sim_ret rfl
 ·conv => arg 3; whnf
  exact sim_ret rfl

def g_slices_partitionEqualCmpFunc_int__part_Order_1_L2_x (t0 : Bool) (b : Int) (d : Int) (m1_0 : (List ShapeT)) : (Int × (List Int)) → Ex × List V × Heap
  | r => (.exit 0, [(.d (intD r.1))], [(.arr 1 (List.map intD r.2)), (.cells [(.d (D.list t0 (List.map shapeD m1_0)))])])

set_option maxRecDepth 100000 in
set_option maxHeartbeats 40000000 in
theorem g_slices_partitionEqualCmpFunc_int__part_Order_1_L2_ok (t0 : Bool) (b : Int) (d : Int) (m1_0 : (List ShapeT)) : ∀ (s3 : Int × Int × (List Int)) (r : (Int × (List Int))), lp (g_slices_partitionEqualCmpFunc_int_L2 b (fun z0 z1 => g_part_Order_1 z0 z1 m1_0)) s3 = some r → lpW ctx 2 [0, 1, 4, 11, 12] [11] ir104L2 [(.sl 0 1), (.d (intD b)), (.fn 73 [(.ptr 1 0)]), (.d (intD s3.1)), (.d (intD s3.2.1))] [(.arr 1 (List.map intD s3.2.2)), (.cells [(.d (D.list t0 (List.map shapeD m1_0)))])] = some ((g_slices_partitionEqualCmpFunc_int__part_Order_1_L2_x t0 b d m1_0) r) := by
 refine lp_ok (g_slices_partitionEqualCmpFunc_int__part_Order_1_L2_x t0 b d m1_0) ?_
 intro s3 rcl ih
 show Says _ _ (lpW _ _ _ _ _ _ _)
 unfold g_slices_partitionEqualCmpFunc_int_L2
 rw [lpW_b]
 conv => arg 3; whnf
 refine sim_bind (g_slices_partitionEqualCmpFunc_int__part_Order_1_L0_x t0 b d m1_0 s3) (g_slices_partitionEqualCmpFunc_int__part_Order_1_L0_ok t0 b d m1_0 s3 s3.1) fun r8 hr8 => ?_
 conv => arg 3; whnf
 refine sim_bind (g_slices_partitionEqualCmpFunc_int__part_Order_1_L1_x t0 b d m1_0 s3 r8) (g_slices_partitionEqualCmpFunc_int__part_Order_1_L1_ok t0 b d m1_0 s3 r8 s3.2.1) fun r13 hr13 => ?_
 conv => arg 3; whnf
 refine sim_br rfl ?_ ?_
 ·conv => arg 3; whnf
  exact sim_ret rfl
 ·conv => arg 3; whnf
  refine sim_get (f := intD) rfl rfl fun x14 hx14 => ?_
  conv => arg 3; whnf
  refine sim_known (nth_of (f := intD) rfl hx14) ?_
  conv => arg 3; whnf
  refine sim_get (f := intD) rfl rfl fun x15 hx15 => ?_
  conv => arg 3; whnf
  refine sim_known (nth_of (f := intD) rfl hx15) ?_
  conv => arg 3; whnf
  refine sim_known (get_of (f := intD) rfl hx15) ?_
  conv => arg 3; whnf
  refine sim_known (nth_of (f := intD) rfl hx15) ?_
  conv => arg 3; whnf
  refine sim_let (set_enc intD s3.2.2 r8.toNat x14) ?_
  conv => arg 3; whnf
  refine sim_get (f := intD) rfl rfl fun x16 hx16 => ?_
  conv => arg 3; whnf
  refine sim_known (nth_of (f := intD) rfl hx16) ?_
  conv => arg 3; whnf
  refine sim_let (set_enc intD (List.set s3.2.2 r8.toNat x14) r13.toNat x15) ?_
  conv => arg 3; whnf
  exact sim_again (ih ((w64 (r8 + 1)), (w64 (r13 - 1)), (List.set (List.set s3.2.2 r8.toNat x14) r13.toNat x15)))

set_option maxRecDepth 100000 in
set_option maxHeartbeats 40000000 in
theorem g_slices_partitionEqualCmpFunc_int__part_Order_1_ok (t0 : Bool) (b : Int) (c : Int) (d : Int) (m0_0 : (List Int)) (m1_0 : (List ShapeT)) : ∀ r, (g_slices_partitionEqualCmpFunc_int b c d (fun z0 z1 => g_part_Order_1 z0 z1 m1_0) m0_0) = some r → evW ctx 104 [(.sl 0 1), (.d (intD b)), (.d (intD c)), (.d (intD d)), (.fn 73 [(.ptr 1 0)])] [(.arr 1 (List.map intD m0_0)), (.cells [(.d (D.list t0 (List.map shapeD m1_0)))])] = some ((g_slices_partitionEqualCmpFunc_int__part_Order_1_e t0 b c d m0_0 m1_0) r) := by
 show Says _ (fun r rhs => rhs = some ((g_slices_partitionEqualCmpFunc_int__part_Order_1_e t0 b c d m0_0 m1_0) r)) _
 unfold g_slices_partitionEqualCmpFunc_int
 rw [evW_K ctx 104 fn104 _ _ rfl rfl]
 conv => arg 3; whnf
 refine sim_get (f := intD) rfl rfl fun x0 hx0 => ?_
 conv => arg 3; whnf
 refine sim_known (nth_of (f := intD) rfl hx0) ?_
 conv => arg 3; whnf
 refine sim_get (f := intD) rfl rfl fun x1 hx1 => ?_
 conv => arg 3; whnf
 refine sim_known (nth_of (f := intD) rfl hx1) ?_
 conv => arg 3; whnf
 refine sim_known (get_of (f := intD) rfl hx1) ?_
 conv => arg 3; whnf
 refine sim_known (nth_of (f := intD) rfl hx1) ?_
 conv => arg 3; whnf
 refine sim_let (set_enc intD m0_0 b.toNat x0) ?_
 conv => arg 3; whnf
 refine sim_get (f := intD) rfl rfl fun x2 hx2 => ?_
 conv => arg 3; whnf
 refine sim_known (nth_of (f := intD) rfl hx2) ?_
 conv => arg 3; whnf
 refine sim_let (set_enc intD (List.set m0_0 b.toNat x0) d.toNat x1) ?_
 conv => arg 3; whnf
 refine sim_bind (g_slices_partitionEqualCmpFunc_int__part_Order_1_L2_x t0 b d m1_0) (g_slices_partitionEqualCmpFunc_int__part_Order_1_L2_ok t0 b d m1_0 ((w64 (b + 1)), (w64 (c - 1)), (List.set (List.set m0_0 b.toNat x0) d.toNat x1))) fun r17 hr17 => ?_
 conv => arg 3; whnf
 exact sim_ret rfl
def g_slices_nextPowerOfTwo_e (r : Int) : D := (D.int .u64 r)

set_option maxRecDepth 100000 in
set_option maxHeartbeats 40000000 in
theorem g_slices_nextPowerOfTwo_ok (a : Int) : ∀ r, (g_slices_nextPowerOfTwo a) = some r → evD ctx 109 [(.d (intD a))] = some (g_slices_nextPowerOfTwo_e r) := by
 show Says _ (fun r rhs => rhs = some (g_slices_nextPowerOfTwo_e r)) _
 unfold g_slices_nextPowerOfTwo
 rw [evD_K ctx 109 fn109 _ rfl rfl]
 conv => arg 3; whnf
 refine sim_call g_math_bits_Len_e (g_math_bits_Len_ok (IntKind.u64.wrap a)) rfl fun x0 hx0 => ?_
 conv => arg 3; whnf
 refine sim_br rfl ?_ ?_
 ·exact sim_none
 ·conv => arg 3; whnf
  exact sim_ret rfl
def g_slices_xorshift_Next_e (m0_0 : Int) : Unit → V × Heap
  | r => ((.d (D.int .u64 (IntKind.u64.wrap (BitVec.ofInt IntKind.u64.bits (IntKind.u64.wrap (BitVec.ofInt IntKind.u64.bits (IntKind.u64.wrap (BitVec.ofInt IntKind.u64.bits m0_0 ^^^ BitVec.ofInt IntKind.u64.bits (IntKind.u64.wrap (m0_0 * 2 ^ 13))).toNat) ^^^ BitVec.ofInt IntKind.u64.bits (Int.fdiv (IntKind.u64.wrap (BitVec.ofInt IntKind.u64.bits m0_0 ^^^ BitVec.ofInt IntKind.u64.bits (IntKind.u64.wrap (m0_0 * 2 ^ 13))).toNat) (2 ^ 7))).toNat) ^^^ BitVec.ofInt IntKind.u64.bits (IntKind.u64.wrap ((IntKind.u64.wrap (BitVec.ofInt IntKind.u64.bits (IntKind.u64.wrap (BitVec.ofInt IntKind.u64.bits m0_0 ^^^ BitVec.ofInt IntKind.u64.bits (IntKind.u64.wrap (m0_0 * 2 ^ 13))).toNat) ^^^ BitVec.ofInt IntKind.u64.bits (Int.fdiv (IntKind.u64.wrap (BitVec.ofInt IntKind.u64.bits m0_0 ^^^ BitVec.ofInt IntKind.u64.bits (IntKind.u64.wrap (m0_0 * 2 ^ 13))).toNat) (2 ^ 7))).toNat) * 2 ^ 17))).toNat))), [(.cells [(.d (D.int .u64 (IntKind.u64.wrap (BitVec.ofInt IntKind.u64.bits (IntKind.u64.wrap (BitVec.ofInt IntKind.u64.bits (IntKind.u64.wrap (BitVec.ofInt IntKind.u64.bits m0_0 ^^^ BitVec.ofInt IntKind.u64.bits (IntKind.u64.wrap (m0_0 * 2 ^ 13))).toNat) ^^^ BitVec.ofInt IntKind.u64.bits (Int.fdiv (IntKind.u64.wrap (BitVec.ofInt IntKind.u64.bits m0_0 ^^^ BitVec.ofInt IntKind.u64.bits (IntKind.u64.wrap (m0_0 * 2 ^ 13))).toNat) (2 ^ 7))).toNat) ^^^ BitVec.ofInt IntKind.u64.bits (IntKind.u64.wrap ((IntKind.u64.wrap (BitVec.ofInt IntKind.u64.bits (IntKind.u64.wrap (BitVec.ofInt IntKind.u64.bits m0_0 ^^^ BitVec.ofInt IntKind.u64.bits (IntKind.u64.wrap (m0_0 * 2 ^ 13))).toNat) ^^^ BitVec.ofInt IntKind.u64.bits (Int.fdiv (IntKind.u64.wrap (BitVec.ofInt IntKind.u64.bits m0_0 ^^^ BitVec.ofInt IntKind.u64.bits (IntKind.u64.wrap (m0_0 * 2 ^ 13))).toNat) (2 ^ 7))).toNat) * 2 ^ 17))).toNat)))])])

set_option maxRecDepth 100000 in
set_option maxHeartbeats 40000000 in
theorem g_slices_xorshift_Next_ok (m0_0 : Int) : ∀ r, g_slices_xorshift_Next = some r → evW ctx 110 [(.ptr 0 0)] [(.cells [(.d (D.int .u64 m0_0))])] = some ((g_slices_xorshift_Next_e m0_0) r) := by
 show Says _ (fun r rhs => rhs = some ((g_slices_xorshift_Next_e m0_0) r)) _
 unfold g_slices_xorshift_Next
 rw [evW_K ctx 110 fn110 _ _ rfl rfl]
 conv => arg 3; whnf
 refine sim_f rfl ?_
 conv => arg 3; whnf
 refine sim_f rfl ?_
 conv => arg 3; whnf
 refine sim_f rfl ?_
 conv => arg 3; whnf
 exact sim_ret rfl
def g_slices_breakPatternsCmpFunc_int__part_Order_1_e (t0 : Bool) (b : Int) (c : Int) (m0_0 : (List Int)) (m1_0 : (List ShapeT)) : (List Int) → V × Heap
  | r => ((.d (D.tup [])), [(.arr 1 (List.map intD r)), (.cells [(.d (D.list t0 (List.map shapeD m1_0)))])])

def g_slices_breakPatternsCmpFunc_int__part_Order_1_L0_x (t0 : Bool) (b : Int) (c : Int) (m1_0 : (List ShapeT)) (x0 : Int) : (List Int) → Ex × List V × Heap
  | r => (.exit 0, [], [(.arr 1 (List.map intD r)), (.cells [(.d (D.list t0 (List.map shapeD m1_0)))])])

set_option maxRecDepth 100000 in
set_option maxHeartbeats 40000000 in
theorem g_slices_breakPatternsCmpFunc_int__part_Order_1_L0_ok (t0 : Bool) (b : Int) (c : Int) (m1_0 : (List ShapeT)) (x0 : Int) : ∀ (s1 : Int × (List Int) × Int) (r : (List Int)), lp (g_slices_breakPatternsCmpFunc_int_L0 b c x0) s1 = some r → lpW ctx 2 [0, 1, 8, 9, 10, 11] [] ir100L0 [(.sl 0 1), (.d (intD b)), (.d (intD (w64 (c - b)))), (.ptr 2 0), (.d (D.int .u64 x0)), (.d (intD s1.1))] [(.arr 1 (List.map intD s1.2.1)), (.cells [(.d (D.list t0 (List.map shapeD m1_0)))]), (.cells [(.d (D.int .u64 s1.2.2))])] = some ((g_slices_breakPatternsCmpFunc_int__part_Order_1_L0_x t0 b c m1_0 x0) r) := by
 refine lp_ok (g_slices_breakPatternsCmpFunc_int__part_Order_1_L0_x t0 b c m1_0 x0) ?_
 intro s1 rcl ih
 show Says _ _ (lpW _ _ _ _ _ _ _)
 unfold g_slices_breakPatternsCmpFunc_int_L0
 rw [lpW_b]
 conv => arg 3; whnf
 refine sim_f rfl ?_
 conv => arg 3; whnf
 refine sim_br rfl ?_ ?_
 ·conv => arg 3; whnf
  refine sim_bind (g_slices_xorshift_Next_e s1.2.2) (g_slices_xorshift_Next_ok s1.2.2) fun x2 hx2 => ?_
  conv => arg 3; whnf
  refine sim_br rfl ?_ ?_
  ·conv => arg 3; whnf
   refine sim_get (f := intD) rfl rfl fun x3 hx3 => ?_
   conv => arg 3; whnf
   refine sim_known (nth_of (f := intD) rfl hx3) ?_
   conv => arg 3; whnf
   refine sim_get (f := intD) rfl rfl fun x4 hx4 => ?_
   conv => arg 3; whnf
   refine sim_known (nth_of (f := intD) rfl hx4) ?_
   conv => arg 3; whnf
   refine sim_known (get_of (f := intD) rfl hx4) ?_
   conv => arg 3; whnf
   refine sim_known (nth_of (f := intD) rfl hx4) ?_
   conv => arg 3; whnf
   refine sim_let (set_enc intD s1.2.1 s1.1.toNat x3) ?_
   conv => arg 3; whnf
   refine sim_get (f := intD) rfl rfl fun x5 hx5 => ?_
   conv => arg 3; whnf
   refine sim_known (nth_of (f := intD) rfl hx5) ?_
   conv => arg 3; whnf
   refine sim_let (set_enc intD (List.set s1.2.1 s1.1.toNat x3) (w64 (b + (w64 ((w64 (IntKind.u64.wrap (BitVec.ofInt IntKind.u64.bits (IntKind.u64.wrap (BitVec.ofInt IntKind.u64.bits (IntKind.u64.wrap (BitVec.ofInt IntKind.u64.bits (IntKind.u64.wrap (BitVec.ofInt IntKind.u64.bits s1.2.2 ^^^ BitVec.ofInt IntKind.u64.bits (IntKind.u64.wrap (s1.2.2 * 2 ^ 13))).toNat) ^^^ BitVec.ofInt IntKind.u64.bits (Int.fdiv (IntKind.u64.wrap (BitVec.ofInt IntKind.u64.bits s1.2.2 ^^^ BitVec.ofInt IntKind.u64.bits (IntKind.u64.wrap (s1.2.2 * 2 ^ 13))).toNat) (2 ^ 7))).toNat) ^^^ BitVec.ofInt IntKind.u64.bits (IntKind.u64.wrap ((IntKind.u64.wrap (BitVec.ofInt IntKind.u64.bits (IntKind.u64.wrap (BitVec.ofInt IntKind.u64.bits s1.2.2 ^^^ BitVec.ofInt IntKind.u64.bits (IntKind.u64.wrap (s1.2.2 * 2 ^ 13))).toNat) ^^^ BitVec.ofInt IntKind.u64.bits (Int.fdiv (IntKind.u64.wrap (BitVec.ofInt IntKind.u64.bits s1.2.2 ^^^ BitVec.ofInt IntKind.u64.bits (IntKind.u64.wrap (s1.2.2 * 2 ^ 13))).toNat) (2 ^ 7))).toNat) * 2 ^ 17))).toNat) &&& BitVec.ofInt IntKind.u64.bits (IntKind.u64.wrap (x0 - 1))).toNat)) - (w64 (c - b)))))).toNat x4) ?_
   conv => arg 3; whnf
   exact sim_again (ih ((w64 (s1.1 + 1)), (List.set (List.set s1.2.1 s1.1.toNat x3) (w64 (b + (w64 ((w64 (IntKind.u64.wrap (BitVec.ofInt IntKind.u64.bits (IntKind.u64.wrap (BitVec.ofInt IntKind.u64.bits (IntKind.u64.wrap (BitVec.ofInt IntKind.u64.bits (IntKind.u64.wrap (BitVec.ofInt IntKind.u64.bits s1.2.2 ^^^ BitVec.ofInt IntKind.u64.bits (IntKind.u64.wrap (s1.2.2 * 2 ^ 13))).toNat) ^^^ BitVec.ofInt IntKind.u64.bits (Int.fdiv (IntKind.u64.wrap (BitVec.ofInt IntKind.u64.bits s1.2.2 ^^^ BitVec.ofInt IntKind.u64.bits (IntKind.u64.wrap (s1.2.2 * 2 ^ 13))).toNat) (2 ^ 7))).toNat) ^^^ BitVec.ofInt IntKind.u64.bits (IntKind.u64.wrap ((IntKind.u64.wrap (BitVec.ofInt IntKind.u64.bits (IntKind.u64.wrap (BitVec.ofInt IntKind.u64.bits s1.2.2 ^^^ BitVec.ofInt IntKind.u64.bits (IntKind.u64.wrap (s1.2.2 * 2 ^ 13))).toNat) ^^^ BitVec.ofInt IntKind.u64.bits (Int.fdiv (IntKind.u64.wrap (BitVec.ofInt IntKind.u64.bits s1.2.2 ^^^ BitVec.ofInt IntKind.u64.bits (IntKind.u64.wrap (s1.2.2 * 2 ^ 13))).toNat) (2 ^ 7))).toNat) * 2 ^ 17))).toNat) &&& BitVec.ofInt IntKind.u64.bits (IntKind.u64.wrap (x0 - 1))).toNat)) - (w64 (c - b)))))).toNat x4), (IntKind.u64.wrap (BitVec.ofInt IntKind.u64.bits (IntKind.u64.wrap (BitVec.ofInt IntKind.u64.bits (IntKind.u64.wrap (BitVec.ofInt IntKind.u64.bits s1.2.2 ^^^ BitVec.ofInt IntKind.u64.bits (IntKind.u64.wrap (s1.2.2 * 2 ^ 13))).toNat) ^^^ BitVec.ofInt IntKind.u64.bits (Int.fdiv (IntKind.u64.wrap (BitVec.ofInt IntKind.u64.bits s1.2.2 ^^^ BitVec.ofInt IntKind.u64.bits (IntKind.u64.wrap (s1.2.2 * 2 ^ 13))).toNat) (2 ^ 7))).toNat) ^^^ BitVec.ofInt IntKind.u64.bits (IntKind.u64.wrap ((IntKind.u64.wrap (BitVec.ofInt IntKind.u64.bits (IntKind.u64.wrap (BitVec.ofInt IntKind.u64.bits s1.2.2 ^^^ BitVec.ofInt IntKind.u64.bits (IntKind.u64.wrap (s1.2.2 * 2 ^ 13))).toNat) ^^^ BitVec.ofInt IntKind.u64.bits (Int.fdiv (IntKind.u64.wrap (BitVec.ofInt IntKind.u64.bits s1.2.2 ^^^ BitVec.ofInt IntKind.u64.bits (IntKind.u64.wrap (s1.2.2 * 2 ^ 13))).toNat) (2 ^ 7))).toNat) * 2 ^ 17))).toNat)))
  ·conv => arg 3; whnf
   refine sim_get (f := intD) rfl rfl fun x6 hx6 => ?_
   conv => arg 3; whnf
   refine sim_known (nth_of (f := intD) rfl hx6) ?_
   conv => arg 3; whnf
   refine sim_get (f := intD) rfl rfl fun x7 hx7 => ?_
   conv => arg 3; whnf
   refine sim_known (nth_of (f := intD) rfl hx7) ?_
   conv => arg 3; whnf
   refine sim_known (get_of (f := intD) rfl hx7) ?_
   conv => arg 3; whnf
   refine sim_known (nth_of (f := intD) rfl hx7) ?_
   conv => arg 3; whnf
   refine sim_let (set_enc intD s1.2.1 s1.1.toNat x6) ?_
   conv => arg 3; whnf
   refine sim_get (f := intD) rfl rfl fun x8 hx8 => ?_
   conv => arg 3; whnf
   refine sim_known (nth_of (f := intD) rfl hx8) ?_
   conv => arg 3; whnf
   refine sim_let (set_enc intD (List.set s1.2.1 s1.1.toNat x6) (w64 (b + (w64 (IntKind.u64.wrap (BitVec.ofInt IntKind.u64.bits (IntKind.u64.wrap (BitVec.ofInt IntKind.u64.bits (IntKind.u64.wrap (BitVec.ofInt IntKind.u64.bits (IntKind.u64.wrap (BitVec.ofInt IntKind.u64.bits s1.2.2 ^^^ BitVec.ofInt IntKind.u64.bits (IntKind.u64.wrap (s1.2.2 * 2 ^ 13))).toNat) ^^^ BitVec.ofInt IntKind.u64.bits (Int.fdiv (IntKind.u64.wrap (BitVec.ofInt IntKind.u64.bits s1.2.2 ^^^ BitVec.ofInt IntKind.u64.bits (IntKind.u64.wrap (s1.2.2 * 2 ^ 13))).toNat) (2 ^ 7))).toNat) ^^^ BitVec.ofInt IntKind.u64.bits (IntKind.u64.wrap ((IntKind.u64.wrap (BitVec.ofInt IntKind.u64.bits (IntKind.u64.wrap (BitVec.ofInt IntKind.u64.bits s1.2.2 ^^^ BitVec.ofInt IntKind.u64.bits (IntKind.u64.wrap (s1.2.2 * 2 ^ 13))).toNat) ^^^ BitVec.ofInt IntKind.u64.bits (Int.fdiv (IntKind.u64.wrap (BitVec.ofInt IntKind.u64.bits s1.2.2 ^^^ BitVec.ofInt IntKind.u64.bits (IntKind.u64.wrap (s1.2.2 * 2 ^ 13))).toNat) (2 ^ 7))).toNat) * 2 ^ 17))).toNat) &&& BitVec.ofInt IntKind.u64.bits (IntKind.u64.wrap (x0 - 1))).toNat)))).toNat x7) ?_
   conv => arg 3; whnf
   exact sim_again (ih ((w64 (s1.1 + 1)), (List.set (List.set s1.2.1 s1.1.toNat x6) (w64 (b + (w64 (IntKind.u64.wrap (BitVec.ofInt IntKind.u64.bits (IntKind.u64.wrap (BitVec.ofInt IntKind.u64.bits (IntKind.u64.wrap (BitVec.ofInt IntKind.u64.bits (IntKind.u64.wrap (BitVec.ofInt IntKind.u64.bits s1.2.2 ^^^ BitVec.ofInt IntKind.u64.bits (IntKind.u64.wrap (s1.2.2 * 2 ^ 13))).toNat) ^^^ BitVec.ofInt IntKind.u64.bits (Int.fdiv (IntKind.u64.wrap (BitVec.ofInt IntKind.u64.bits s1.2.2 ^^^ BitVec.ofInt IntKind.u64.bits (IntKind.u64.wrap (s1.2.2 * 2 ^ 13))).toNat) (2 ^ 7))).toNat) ^^^ BitVec.ofInt IntKind.u64.bits (IntKind.u64.wrap ((IntKind.u64.wrap (BitVec.ofInt IntKind.u64.bits (IntKind.u64.wrap (BitVec.ofInt IntKind.u64.bits s1.2.2 ^^^ BitVec.ofInt IntKind.u64.bits (IntKind.u64.wrap (s1.2.2 * 2 ^ 13))).toNat) ^^^ BitVec.ofInt IntKind.u64.bits (Int.fdiv (IntKind.u64.wrap (BitVec.ofInt IntKind.u64.bits s1.2.2 ^^^ BitVec.ofInt IntKind.u64.bits (IntKind.u64.wrap (s1.2.2 * 2 ^ 13))).toNat) (2 ^ 7))).toNat) * 2 ^ 17))).toNat) &&& BitVec.ofInt IntKind.u64.bits (IntKind.u64.wrap (x0 - 1))).toNat)))).toNat x7), (IntKind.u64.wrap (BitVec.ofInt IntKind.u64.bits (IntKind.u64.wrap (BitVec.ofInt IntKind.u64.bits (IntKind.u64.wrap (BitVec.ofInt IntKind.u64.bits s1.2.2 ^^^ BitVec.ofInt IntKind.u64.bits (IntKind.u64.wrap (s1.2.2 * 2 ^ 13))).toNat) ^^^ BitVec.ofInt IntKind.u64.bits (Int.fdiv (IntKind.u64.wrap (BitVec.ofInt IntKind.u64.bits s1.2.2 ^^^ BitVec.ofInt IntKind.u64.bits (IntKind.u64.wrap (s1.2.2 * 2 ^ 13))).toNat) (2 ^ 7))).toNat) ^^^ BitVec.ofInt IntKind.u64.bits (IntKind.u64.wrap ((IntKind.u64.wrap (BitVec.ofInt IntKind.u64.bits (IntKind.u64.wrap (BitVec.ofInt IntKind.u64.bits s1.2.2 ^^^ BitVec.ofInt IntKind.u64.bits (IntKind.u64.wrap (s1.2.2 * 2 ^ 13))).toNat) ^^^ BitVec.ofInt IntKind.u64.bits (Int.fdiv (IntKind.u64.wrap (BitVec.ofInt IntKind.u64.bits s1.2.2 ^^^ BitVec.ofInt IntKind.u64.bits (IntKind.u64.wrap (s1.2.2 * 2 ^ 13))).toNat) (2 ^ 7))).toNat) * 2 ^ 17))).toNat)))
 ·conv => arg 3; whnf
  exact sim_ret rfl

set_option maxRecDepth 100000 in
set_option maxHeartbeats 40000000 in
theorem g_slices_breakPatternsCmpFunc_int__part_Order_1_ok (t0 : Bool) (b : Int) (c : Int) (m0_0 : (List Int)) (m1_0 : (List ShapeT)) : ∀ r, (g_slices_breakPatternsCmpFunc_int b c (fun z0 z1 => g_part_Order_1 z0 z1 m1_0) m0_0) = some r → evW ctx 100 [(.sl 0 1), (.d (intD b)), (.d (intD c)), (.fn 73 [(.ptr 1 0)])] [(.arr 1 (List.map intD m0_0)), (.cells [(.d (D.list t0 (List.map shapeD m1_0)))])] = some ((g_slices_breakPatternsCmpFunc_int__part_Order_1_e t0 b c m0_0 m1_0) r) := by
 show Says _ (fun r rhs => rhs = some ((g_slices_breakPatternsCmpFunc_int__part_Order_1_e t0 b c m0_0 m1_0) r)) _
 unfold g_slices_breakPatternsCmpFunc_int
 rw [evW_K ctx 100 fn100 _ _ rfl rfl]
 conv => arg 3; whnf
 refine sim_br rfl ?_ ?_
 ·conv => arg 3; whnf
  refine sim_call g_slices_nextPowerOfTwo_e (g_slices_nextPowerOfTwo_ok (w64 (c - b))) rfl fun x0 hx0 => ?_
  conv => arg 3; whnf
  refine sim_f rfl ?_
  conv => arg 3; whnf
  refine sim_bind (g_slices_breakPatternsCmpFunc_int__part_Order_1_L0_x t0 b c m1_0 x0) (g_slices_breakPatternsCmpFunc_int__part_Order_1_L0_ok t0 b c m1_0 x0 ((w64 ((w64 (b + (w64 ((w64 (Int.tdiv (w64 (c - b)) 4)) * 2)))) - 1)), m0_0, (IntKind.u64.wrap (w64 (c - b))))) fun r9 hr9 => ?_
  conv => arg 3; whnf
  exact sim_ret rfl
 ·conv => arg 3; whnf
  exact sim_ret rfl
def g_slices_pdqsortCmpFunc_int__part_Order_1_e (t0 : Bool) (b : Int) (c : Int) (d : Int) (m0_0 : (List Int)) (m1_0 : (List ShapeT)) : (List Int) → V × Heap
  | r => ((.d (D.tup [])), [(.arr 1 (List.map intD r)), (.cells [(.d (D.list t0 (List.map shapeD m1_0)))])])

def g_slices_pdqsortCmpFunc_int__part_Order_1_L0_x (t0 : Bool) (d : Int) (m1_0 : (List ShapeT)) (rc : Int → Int → Int → (Int → Int → Option Int) → (List Int) → Option (List Int)) : (List Int) → Ex × List V × Heap
  | r => (.ret, [], [(.arr 1 (List.map intD r)), (.cells [(.d (D.list t0 (List.map shapeD m1_0)))])])

set_option maxRecDepth 100000 in
set_option maxHeartbeats 40000000 in
theorem g_slices_pdqsortCmpFunc_int__part_Order_1_L0_ok (t0 : Bool) (d : Int) (m1_0 : (List ShapeT)) (rc : Int → Int → Int → (Int → Int → Option Int) → (List Int) → Option (List Int)) (hrc : ∀ (t0 : Bool) (b : Int) (c : Int) (d : Int) (m0_0 : (List Int)) (m1_0 : (List ShapeT)) (r : (List Int)), rc b c d (fun z0 z1 => g_part_Order_1 z0 z1 m1_0) m0_0 = some r → evW ctx 84 [(.sl 0 1), (.d (intD b)), (.d (intD c)), (.d (intD d)), (.fn 73 [(.ptr 1 0)])] [(.arr 1 (List.map intD m0_0)), (.cells [(.d (D.list t0 (List.map shapeD m1_0)))])] = some ((g_slices_pdqsortCmpFunc_int__part_Order_1_e t0 b c d m0_0 m1_0) r)) : ∀ (s0 : Int × Int × Int × Bool × Bool × (List Int)) (r : (List Int)), lp (g_slices_pdqsortCmpFunc_int_L0 (fun z0 z1 => g_part_Order_1 z0 z1 m1_0) rc) s0 = some r → lpW ctx 2 [0, 1, 2, 3, 4, 10, 11] [] ir84L0 [(.sl 0 1), (.d (intD s0.1)), (.d (intD s0.2.1)), (.d (intD s0.2.2.1)), (.fn 73 [(.ptr 1 0)]), (.d (D.bool s0.2.2.2.1)), (.d (D.bool s0.2.2.2.2.1))] [(.arr 1 (List.map intD s0.2.2.2.2.2)), (.cells [(.d (D.list t0 (List.map shapeD m1_0)))])] = some ((g_slices_pdqsortCmpFunc_int__part_Order_1_L0_x t0 d m1_0 rc) r) := by
 refine lp_ok (g_slices_pdqsortCmpFunc_int__part_Order_1_L0_x t0 d m1_0 rc) ?_
 intro s0 rcl ih
 show Says _ _ (lpW _ _ _ _ _ _ _)
 unfold g_slices_pdqsortCmpFunc_int_L0
 rw [lpW_b]
 rcases hb : s0.2.2.2.1 with _ | _
 ·refine sim_cf ?_
  rcases hb : s0.2.2.2.2.1 with _ | _
  ·refine sim_cf ?_
   conv => arg 3; whnf
   refine sim_br rfl ?_ ?_
   ·conv => arg 3; whnf
    refine sim_bind (g_slices_insertionSortCmpFunc_int__part_Order_1_e t0 s0.1 s0.2.1 s0.2.2.2.2.2 m1_0) (g_slices_insertionSortCmpFunc_int__part_Order_1_ok t0 s0.1 s0.2.1 s0.2.2.2.2.2 m1_0) fun x170 hx170 => ?_
    conv => arg 3; whnf
    exact sim_ret rfl
   ·conv => arg 3; whnf
    refine sim_br rfl ?_ ?_
    ·conv => arg 3; whnf
     refine sim_bind (g_slices_heapSortCmpFunc_int__part_Order_1_e t0 s0.1 s0.2.1 s0.2.2.2.2.2 m1_0) (g_slices_heapSortCmpFunc_int__part_Order_1_ok t0 s0.1 s0.2.1 s0.2.2.2.2.2 m1_0) fun x171 hx171 => ?_
     conv => arg 3; whnf
     exact sim_ret rfl
    ·conv => arg 3; whnf
     refine sim_bind (g_slices_breakPatternsCmpFunc_int__part_Order_1_e t0 s0.1 s0.2.1 s0.2.2.2.2.2 m1_0) (g_slices_breakPatternsCmpFunc_int__part_Order_1_ok t0 s0.1 s0.2.1 s0.2.2.2.2.2 m1_0) fun x172 hx172 => ?_
     conv => arg 3; whnf
     refine sim_bind (g_slices_choosePivotCmpFunc_int__part_Order_1_e t0 s0.1 s0.2.1 x172 m1_0) (g_slices_choosePivotCmpFunc_int__part_Order_1_ok t0 s0.1 s0.2.1 x172 m1_0) fun x173 hx173 => ?_
     conv => arg 3; whnf
     refine sim_br rfl ?_ ?_
     ·conv => arg 3; whnf
      refine sim_bind (g_slices_reverseRangeCmpFunc_int__part_Order_1_e t0 s0.1 s0.2.1 x172 m1_0) (g_slices_reverseRangeCmpFunc_int__part_Order_1_ok t0 s0.1 s0.2.1 x172 m1_0) fun x174 hx174 => ?_
      conv => arg 3; whnf
      refine sim_br rfl ?_ ?_
      ·conv => arg 3; whnf
       refine sim_get (f := intD) rfl rfl fun x175 hx175 => ?_
       conv => arg 3; whnf
       refine sim_known (nth_of (f := intD) rfl hx175) ?_
       conv => arg 3; whnf
       refine sim_get (f := intD) rfl rfl fun x176 hx176 => ?_
       conv => arg 3; whnf
       refine sim_known (nth_of (f := intD) rfl hx176) ?_
       conv => arg 3; whnf
       refine sim_call g_part_Order_1_e (g_part_Order_1_ok t0 x175 x176 m1_0) rfl fun x177 hx177 => ?_
       conv => arg 3; whnf
       refine sim_br rfl ?_ ?_
       ·conv => arg 3; whnf
        refine sim_bind (g_slices_partitionCmpFunc_int__part_Order_1_e t0 s0.1 s0.2.1 (w64 ((w64 (s0.2.1 - 1)) - (w64 (x173.1 - s0.1)))) x174 m1_0) (g_slices_partitionCmpFunc_int__part_Order_1_ok t0 s0.1 s0.2.1 (w64 ((w64 (s0.2.1 - 1)) - (w64 (x173.1 - s0.1)))) x174 m1_0) fun x178 hx178 => ?_
        clear hx178
        rcases x178 with x178 | x178
        ·conv => arg 3; whnf
         refine sim_t rfl ?_
         conv => arg 3; whnf
         refine sim_f rfl ?_
         conv => arg 3; whnf
         refine sim_br rfl ?_ ?_
         ·conv => arg 3; whnf
          refine sim_br rfl ?_ ?_
          ·conv => arg 3; whnf
           refine sim_bind (g_slices_pdqsortCmpFunc_int__part_Order_1_e t0 s0.1 x178.1 (w64 (s0.2.2.1 - 1)) x178.2 m1_0) (hrc t0 s0.1 x178.1 (w64 (s0.2.2.1 - 1)) x178.2 m1_0) fun x179 hx179 => ?_
           conv => arg 3; whnf
           exact sim_again (ih ((w64 (x178.1 + 1)), s0.2.1, (w64 (s0.2.2.1 - 1)), true, true, x179))
          ·conv => arg 3; whnf
           refine sim_bind (g_slices_pdqsortCmpFunc_int__part_Order_1_e t0 s0.1 x178.1 (w64 (s0.2.2.1 - 1)) x178.2 m1_0) (hrc t0 s0.1 x178.1 (w64 (s0.2.2.1 - 1)) x178.2 m1_0) fun x180 hx180 => ?_
           conv => arg 3; whnf
           exact sim_again (ih ((w64 (x178.1 + 1)), s0.2.1, (w64 (s0.2.2.1 - 1)), false, true, x180))
         ·conv => arg 3; whnf
          refine sim_br rfl ?_ ?_
          ·conv => arg 3; whnf
           refine sim_bind (g_slices_pdqsortCmpFunc_int__part_Order_1_e t0 (w64 (x178.1 + 1)) s0.2.1 (w64 (s0.2.2.1 - 1)) x178.2 m1_0) (hrc t0 (w64 (x178.1 + 1)) s0.2.1 (w64 (s0.2.2.1 - 1)) x178.2 m1_0) fun x181 hx181 => ?_
           conv => arg 3; whnf
           exact sim_again (ih (s0.1, x178.1, (w64 (s0.2.2.1 - 1)), true, true, x181))
          ·conv => arg 3; whnf
           refine sim_bind (g_slices_pdqsortCmpFunc_int__part_Order_1_e t0 (w64 (x178.1 + 1)) s0.2.1 (w64 (s0.2.2.1 - 1)) x178.2 m1_0) (hrc t0 (w64 (x178.1 + 1)) s0.2.1 (w64 (s0.2.2.1 - 1)) x178.2 m1_0) fun x182 hx182 => ?_
           conv => arg 3; whnf
           exact sim_again (ih (s0.1, x178.1, (w64 (s0.2.2.1 - 1)), false, true, x182))
        ·conv => arg 3; whnf
         refine sim_f rfl ?_
         conv => arg 3; whnf
         refine sim_f rfl ?_
         conv => arg 3; whnf
         refine sim_br rfl ?_ ?_
         ·conv => arg 3; whnf
          refine sim_br rfl ?_ ?_
          ·conv => arg 3; whnf
           refine sim_bind (g_slices_pdqsortCmpFunc_int__part_Order_1_e t0 s0.1 x178.1 (w64 (s0.2.2.1 - 1)) x178.2 m1_0) (hrc t0 s0.1 x178.1 (w64 (s0.2.2.1 - 1)) x178.2 m1_0) fun x183 hx183 => ?_
           conv => arg 3; whnf
           exact sim_again (ih ((w64 (x178.1 + 1)), s0.2.1, (w64 (s0.2.2.1 - 1)), true, false, x183))
          ·conv => arg 3; whnf
           refine sim_bind (g_slices_pdqsortCmpFunc_int__part_Order_1_e t0 s0.1 x178.1 (w64 (s0.2.2.1 - 1)) x178.2 m1_0) (hrc t0 s0.1 x178.1 (w64 (s0.2.2.1 - 1)) x178.2 m1_0) fun x184 hx184 => ?_
           conv => arg 3; whnf
           exact sim_again (ih ((w64 (x178.1 + 1)), s0.2.1, (w64 (s0.2.2.1 - 1)), false, false, x184))
         ·conv => arg 3; whnf
          refine sim_br rfl ?_ ?_
          ·conv => arg 3; whnf
           refine sim_bind (g_slices_pdqsortCmpFunc_int__part_Order_1_e t0 (w64 (x178.1 + 1)) s0.2.1 (w64 (s0.2.2.1 - 1)) x178.2 m1_0) (hrc t0 (w64 (x178.1 + 1)) s0.2.1 (w64 (s0.2.2.1 - 1)) x178.2 m1_0) fun x185 hx185 => ?_
           conv => arg 3; whnf
           exact sim_again (ih (s0.1, x178.1, (w64 (s0.2.2.1 - 1)), true, false, x185))
          ·conv => arg 3; whnf
           refine sim_bind (g_slices_pdqsortCmpFunc_int__part_Order_1_e t0 (w64 (x178.1 + 1)) s0.2.1 (w64 (s0.2.2.1 - 1)) x178.2 m1_0) (hrc t0 (w64 (x178.1 + 1)) s0.2.1 (w64 (s0.2.2.1 - 1)) x178.2 m1_0) fun x186 hx186 => ?_
           conv => arg 3; whnf
           exact sim_again (ih (s0.1, x178.1, (w64 (s0.2.2.1 - 1)), false, false, x186))
       ·conv => arg 3; whnf
        refine sim_bind (g_slices_partitionEqualCmpFunc_int__part_Order_1_e t0 s0.1 s0.2.1 (w64 ((w64 (s0.2.1 - 1)) - (w64 (x173.1 - s0.1)))) x174 m1_0) (g_slices_partitionEqualCmpFunc_int__part_Order_1_ok t0 s0.1 s0.2.1 (w64 ((w64 (s0.2.1 - 1)) - (w64 (x173.1 - s0.1)))) x174 m1_0) fun x187 hx187 => ?_
        conv => arg 3; whnf
        exact sim_again (ih (x187.1, s0.2.1, (w64 (s0.2.2.1 - 1)), false, false, x187.2))
      ·conv => arg 3; whnf
       refine sim_bind (g_slices_partitionCmpFunc_int__part_Order_1_e t0 s0.1 s0.2.1 (w64 ((w64 (s0.2.1 - 1)) - (w64 (x173.1 - s0.1)))) x174 m1_0) (g_slices_partitionCmpFunc_int__part_Order_1_ok t0 s0.1 s0.2.1 (w64 ((w64 (s0.2.1 - 1)) - (w64 (x173.1 - s0.1)))) x174 m1_0) fun x188 hx188 => ?_
       clear hx188
       rcases x188 with x188 | x188
       ·conv => arg 3; whnf
        refine sim_t rfl ?_
        conv => arg 3; whnf
        refine sim_f rfl ?_
        conv => arg 3; whnf
        refine sim_br rfl ?_ ?_
        ·conv => arg 3; whnf
         refine sim_br rfl ?_ ?_
         ·conv => arg 3; whnf
          refine sim_bind (g_slices_pdqsortCmpFunc_int__part_Order_1_e t0 s0.1 x188.1 (w64 (s0.2.2.1 - 1)) x188.2 m1_0) (hrc t0 s0.1 x188.1 (w64 (s0.2.2.1 - 1)) x188.2 m1_0) fun x189 hx189 => ?_
          conv => arg 3; whnf
          exact sim_again (ih ((w64 (x188.1 + 1)), s0.2.1, (w64 (s0.2.2.1 - 1)), true, true, x189))
         ·conv => arg 3; whnf
          refine sim_bind (g_slices_pdqsortCmpFunc_int__part_Order_1_e t0 s0.1 x188.1 (w64 (s0.2.2.1 - 1)) x188.2 m1_0) (hrc t0 s0.1 x188.1 (w64 (s0.2.2.1 - 1)) x188.2 m1_0) fun x190 hx190 => ?_
          conv => arg 3; whnf
          exact sim_again (ih ((w64 (x188.1 + 1)), s0.2.1, (w64 (s0.2.2.1 - 1)), false, true, x190))
        ·conv => arg 3; whnf
         refine sim_br rfl ?_ ?_
         ·conv => arg 3; whnf
          refine sim_bind (g_slices_pdqsortCmpFunc_int__part_Order_1_e t0 (w64 (x188.1 + 1)) s0.2.1 (w64 (s0.2.2.1 - 1)) x188.2 m1_0) (hrc t0 (w64 (x188.1 + 1)) s0.2.1 (w64 (s0.2.2.1 - 1)) x188.2 m1_0) fun x191 hx191 => ?_
          conv => arg 3; whnf
          exact sim_again (ih (s0.1, x188.1, (w64 (s0.2.2.1 - 1)), true, true, x191))
         ·conv => arg 3; whnf
          refine sim_bind (g_slices_pdqsortCmpFunc_int__part_Order_1_e t0 (w64 (x188.1 + 1)) s0.2.1 (w64 (s0.2.2.1 - 1)) x188.2 m1_0) (hrc t0 (w64 (x188.1 + 1)) s0.2.1 (w64 (s0.2.2.1 - 1)) x188.2 m1_0) fun x192 hx192 => ?_
          conv => arg 3; whnf
          exact sim_again (ih (s0.1, x188.1, (w64 (s0.2.2.1 - 1)), false, true, x192))
       ·conv => arg 3; whnf
        refine sim_f rfl ?_
        conv => arg 3; whnf
        refine sim_f rfl ?_
        conv => arg 3; whnf
        refine sim_br rfl ?_ ?_
        ·conv => arg 3; whnf
         refine sim_br rfl ?_ ?_
         ·conv => arg 3; whnf
          refine sim_bind (g_slices_pdqsortCmpFunc_int__part_Order_1_e t0 s0.1 x188.1 (w64 (s0.2.2.1 - 1)) x188.2 m1_0) (hrc t0 s0.1 x188.1 (w64 (s0.2.2.1 - 1)) x188.2 m1_0) fun x193 hx193 => ?_
          conv => arg 3; whnf
          exact sim_again (ih ((w64 (x188.1 + 1)), s0.2.1, (w64 (s0.2.2.1 - 1)), true, false, x193))
         ·conv => arg 3; whnf
          refine sim_bind (g_slices_pdqsortCmpFunc_int__part_Order_1_e t0 s0.1 x188.1 (w64 (s0.2.2.1 - 1)) x188.2 m1_0) (hrc t0 s0.1 x188.1 (w64 (s0.2.2.1 - 1)) x188.2 m1_0) fun x194 hx194 => ?_
          conv => arg 3; whnf
          exact sim_again (ih ((w64 (x188.1 + 1)), s0.2.1, (w64 (s0.2.2.1 - 1)), false, false, x194))
        ·conv => arg 3; whnf
         refine sim_br rfl ?_ ?_
         ·conv => arg 3; whnf
          refine sim_bind (g_slices_pdqsortCmpFunc_int__part_Order_1_e t0 (w64 (x188.1 + 1)) s0.2.1 (w64 (s0.2.2.1 - 1)) x188.2 m1_0) (hrc t0 (w64 (x188.1 + 1)) s0.2.1 (w64 (s0.2.2.1 - 1)) x188.2 m1_0) fun x195 hx195 => ?_
          conv => arg 3; whnf
          exact sim_again (ih (s0.1, x188.1, (w64 (s0.2.2.1 - 1)), true, false, x195))
         ·conv => arg 3; whnf
          refine sim_bind (g_slices_pdqsortCmpFunc_int__part_Order_1_e t0 (w64 (x188.1 + 1)) s0.2.1 (w64 (s0.2.2.1 - 1)) x188.2 m1_0) (hrc t0 (w64 (x188.1 + 1)) s0.2.1 (w64 (s0.2.2.1 - 1)) x188.2 m1_0) fun x196 hx196 => ?_
          conv => arg 3; whnf
          exact sim_again (ih (s0.1, x188.1, (w64 (s0.2.2.1 - 1)), false, false, x196))
     ·conv => arg 3; whnf
      refine sim_br rfl ?_ ?_
      ·conv => arg 3; whnf
       refine sim_get (f := intD) rfl rfl fun x197 hx197 => ?_
       conv => arg 3; whnf
       refine sim_known (nth_of (f := intD) rfl hx197) ?_
       conv => arg 3; whnf
       refine sim_get (f := intD) rfl rfl fun x198 hx198 => ?_
       conv => arg 3; whnf
       refine sim_known (nth_of (f := intD) rfl hx198) ?_
       conv => arg 3; whnf
       refine sim_call g_part_Order_1_e (g_part_Order_1_ok t0 x197 x198 m1_0) rfl fun x199 hx199 => ?_
       conv => arg 3; whnf
       refine sim_br rfl ?_ ?_
       ·conv => arg 3; whnf
        refine sim_bind (g_slices_partitionCmpFunc_int__part_Order_1_e t0 s0.1 s0.2.1 x173.1 x172 m1_0) (g_slices_partitionCmpFunc_int__part_Order_1_ok t0 s0.1 s0.2.1 x173.1 x172 m1_0) fun x200 hx200 => ?_
        clear hx200
        rcases x200 with x200 | x200
        ·conv => arg 3; whnf
         refine sim_t rfl ?_
         conv => arg 3; whnf
         refine sim_f rfl ?_
         conv => arg 3; whnf
         refine sim_br rfl ?_ ?_
         ·conv => arg 3; whnf
          refine sim_br rfl ?_ ?_
          ·conv => arg 3; whnf
           refine sim_bind (g_slices_pdqsortCmpFunc_int__part_Order_1_e t0 s0.1 x200.1 (w64 (s0.2.2.1 - 1)) x200.2 m1_0) (hrc t0 s0.1 x200.1 (w64 (s0.2.2.1 - 1)) x200.2 m1_0) fun x201 hx201 => ?_
           conv => arg 3; whnf
           exact sim_again (ih ((w64 (x200.1 + 1)), s0.2.1, (w64 (s0.2.2.1 - 1)), true, true, x201))
          ·conv => arg 3; whnf
           refine sim_bind (g_slices_pdqsortCmpFunc_int__part_Order_1_e t0 s0.1 x200.1 (w64 (s0.2.2.1 - 1)) x200.2 m1_0) (hrc t0 s0.1 x200.1 (w64 (s0.2.2.1 - 1)) x200.2 m1_0) fun x202 hx202 => ?_
           conv => arg 3; whnf
           exact sim_again (ih ((w64 (x200.1 + 1)), s0.2.1, (w64 (s0.2.2.1 - 1)), false, true, x202))
         ·conv => arg 3; whnf
          refine sim_br rfl ?_ ?_
          ·conv => arg 3; whnf
           refine sim_bind (g_slices_pdqsortCmpFunc_int__part_Order_1_e t0 (w64 (x200.1 + 1)) s0.2.1 (w64 (s0.2.2.1 - 1)) x200.2 m1_0) (hrc t0 (w64 (x200.1 + 1)) s0.2.1 (w64 (s0.2.2.1 - 1)) x200.2 m1_0) fun x203 hx203 => ?_
           conv => arg 3; whnf
           exact sim_again (ih (s0.1, x200.1, (w64 (s0.2.2.1 - 1)), true, true, x203))
          ·conv => arg 3; whnf
           refine sim_bind (g_slices_pdqsortCmpFunc_int__part_Order_1_e t0 (w64 (x200.1 + 1)) s0.2.1 (w64 (s0.2.2.1 - 1)) x200.2 m1_0) (hrc t0 (w64 (x200.1 + 1)) s0.2.1 (w64 (s0.2.2.1 - 1)) x200.2 m1_0) fun x204 hx204 => ?_
           conv => arg 3; whnf
           exact sim_again (ih (s0.1, x200.1, (w64 (s0.2.2.1 - 1)), false, true, x204))
        ·conv => arg 3; whnf
         refine sim_f rfl ?_
         conv => arg 3; whnf
         refine sim_f rfl ?_
         conv => arg 3; whnf
         refine sim_br rfl ?_ ?_
         ·conv => arg 3; whnf
          refine sim_br rfl ?_ ?_
          ·conv => arg 3; whnf
           refine sim_bind (g_slices_pdqsortCmpFunc_int__part_Order_1_e t0 s0.1 x200.1 (w64 (s0.2.2.1 - 1)) x200.2 m1_0) (hrc t0 s0.1 x200.1 (w64 (s0.2.2.1 - 1)) x200.2 m1_0) fun x205 hx205 => ?_
           conv => arg 3; whnf
           exact sim_again (ih ((w64 (x200.1 + 1)), s0.2.1, (w64 (s0.2.2.1 - 1)), true, false, x205))
          ·conv => arg 3; whnf
           refine sim_bind (g_slices_pdqsortCmpFunc_int__part_Order_1_e t0 s0.1 x200.1 (w64 (s0.2.2.1 - 1)) x200.2 m1_0) (hrc t0 s0.1 x200.1 (w64 (s0.2.2.1 - 1)) x200.2 m1_0) fun x206 hx206 => ?_
           conv => arg 3; whnf
           exact sim_again (ih ((w64 (x200.1 + 1)), s0.2.1, (w64 (s0.2.2.1 - 1)), false, false, x206))
         ·conv => arg 3; whnf
          refine sim_br rfl ?_ ?_
          ·conv => arg 3; whnf
           refine sim_bind (g_slices_pdqsortCmpFunc_int__part_Order_1_e t0 (w64 (x200.1 + 1)) s0.2.1 (w64 (s0.2.2.1 - 1)) x200.2 m1_0) (hrc t0 (w64 (x200.1 + 1)) s0.2.1 (w64 (s0.2.2.1 - 1)) x200.2 m1_0) fun x207 hx207 => ?_
           conv => arg 3; whnf
           exact sim_again (ih (s0.1, x200.1, (w64 (s0.2.2.1 - 1)), true, false, x207))
          ·conv => arg 3; whnf
           refine sim_bind (g_slices_pdqsortCmpFunc_int__part_Order_1_e t0 (w64 (x200.1 + 1)) s0.2.1 (w64 (s0.2.2.1 - 1)) x200.2 m1_0) (hrc t0 (w64 (x200.1 + 1)) s0.2.1 (w64 (s0.2.2.1 - 1)) x200.2 m1_0) fun x208 hx208 => ?_
           conv => arg 3; whnf
           exact sim_again (ih (s0.1, x200.1, (w64 (s0.2.2.1 - 1)), false, false, x208))
       ·conv => arg 3; whnf
        refine sim_bind (g_slices_partitionEqualCmpFunc_int__part_Order_1_e t0 s0.1 s0.2.1 x173.1 x172 m1_0) (g_slices_partitionEqualCmpFunc_int__part_Order_1_ok t0 s0.1 s0.2.1 x173.1 x172 m1_0) fun x209 hx209 => ?_
        conv => arg 3; whnf
        exact sim_again (ih (x209.1, s0.2.1, (w64 (s0.2.2.1 - 1)), false, false, x209.2))
      ·conv => arg 3; whnf
       refine sim_bind (g_slices_partitionCmpFunc_int__part_Order_1_e t0 s0.1 s0.2.1 x173.1 x172 m1_0) (g_slices_partitionCmpFunc_int__part_Order_1_ok t0 s0.1 s0.2.1 x173.1 x172 m1_0) fun x210 hx210 => ?_
       clear hx210
       rcases x210 with x210 | x210
       ·conv => arg 3; whnf
        refine sim_t rfl ?_
        conv => arg 3; whnf
        refine sim_f rfl ?_
        conv => arg 3; whnf
        refine sim_br rfl ?_ ?_
        ·conv => arg 3; whnf
         refine sim_br rfl ?_ ?_
         ·conv => arg 3; whnf
          refine sim_bind (g_slices_pdqsortCmpFunc_int__part_Order_1_e t0 s0.1 x210.1 (w64 (s0.2.2.1 - 1)) x210.2 m1_0) (hrc t0 s0.1 x210.1 (w64 (s0.2.2.1 - 1)) x210.2 m1_0) fun x211 hx211 => ?_
          conv => arg 3; whnf
          exact sim_again (ih ((w64 (x210.1 + 1)), s0.2.1, (w64 (s0.2.2.1 - 1)), true, true, x211))
         ·conv => arg 3; whnf
          refine sim_bind (g_slices_pdqsortCmpFunc_int__part_Order_1_e t0 s0.1 x210.1 (w64 (s0.2.2.1 - 1)) x210.2 m1_0) (hrc t0 s0.1 x210.1 (w64 (s0.2.2.1 - 1)) x210.2 m1_0) fun x212 hx212 => ?_
          conv => arg 3; whnf
          exact sim_again (ih ((w64 (x210.1 + 1)), s0.2.1, (w64 (s0.2.2.1 - 1)), false, true, x212))
        ·conv => arg 3; whnf
         refine sim_br rfl ?_ ?_
         ·conv => arg 3; whnf
          refine sim_bind (g_slices_pdqsortCmpFunc_int__part_Order_1_e t0 (w64 (x210.1 + 1)) s0.2.1 (w64 (s0.2.2.1 - 1)) x210.2 m1_0) (hrc t0 (w64 (x210.1 + 1)) s0.2.1 (w64 (s0.2.2.1 - 1)) x210.2 m1_0) fun x213 hx213 => ?_
          conv => arg 3; whnf
          exact sim_again (ih (s0.1, x210.1, (w64 (s0.2.2.1 - 1)), true, true, x213))
         ·conv => arg 3; whnf
          refine sim_bind (g_slices_pdqsortCmpFunc_int__part_Order_1_e t0 (w64 (x210.1 + 1)) s0.2.1 (w64 (s0.2.2.1 - 1)) x210.2 m1_0) (hrc t0 (w64 (x210.1 + 1)) s0.2.1 (w64 (s0.2.2.1 - 1)) x210.2 m1_0) fun x214 hx214 => ?_
          conv => arg 3; whnf
          exact sim_again (ih (s0.1, x210.1, (w64 (s0.2.2.1 - 1)), false, true, x214))
       ·conv => arg 3; whnf
        refine sim_f rfl ?_
        conv => arg 3; whnf
        refine sim_f rfl ?_
        conv => arg 3; whnf
        refine sim_br rfl ?_ ?_
        ·conv => arg 3; whnf
         refine sim_br rfl ?_ ?_
         ·conv => arg 3; whnf
          refine sim_bind (g_slices_pdqsortCmpFunc_int__part_Order_1_e t0 s0.1 x210.1 (w64 (s0.2.2.1 - 1)) x210.2 m1_0) (hrc t0 s0.1 x210.1 (w64 (s0.2.2.1 - 1)) x210.2 m1_0) fun x215 hx215 => ?_
          conv => arg 3; whnf
          exact sim_again (ih ((w64 (x210.1 + 1)), s0.2.1, (w64 (s0.2.2.1 - 1)), true, false, x215))
         ·conv => arg 3; whnf
          refine sim_bind (g_slices_pdqsortCmpFunc_int__part_Order_1_e t0 s0.1 x210.1 (w64 (s0.2.2.1 - 1)) x210.2 m1_0) (hrc t0 s0.1 x210.1 (w64 (s0.2.2.1 - 1)) x210.2 m1_0) fun x216 hx216 => ?_
          conv => arg 3; whnf
          exact sim_again (ih ((w64 (x210.1 + 1)), s0.2.1, (w64 (s0.2.2.1 - 1)), false, false, x216))
        ·conv => arg 3; whnf
         refine sim_br rfl ?_ ?_
         ·conv => arg 3; whnf
          refine sim_bind (g_slices_pdqsortCmpFunc_int__part_Order_1_e t0 (w64 (x210.1 + 1)) s0.2.1 (w64 (s0.2.2.1 - 1)) x210.2 m1_0) (hrc t0 (w64 (x210.1 + 1)) s0.2.1 (w64 (s0.2.2.1 - 1)) x210.2 m1_0) fun x217 hx217 => ?_
          conv => arg 3; whnf
          exact sim_again (ih (s0.1, x210.1, (w64 (s0.2.2.1 - 1)), true, false, x217))
         ·conv => arg 3; whnf
          refine sim_bind (g_slices_pdqsortCmpFunc_int__part_Order_1_e t0 (w64 (x210.1 + 1)) s0.2.1 (w64 (s0.2.2.1 - 1)) x210.2 m1_0) (hrc t0 (w64 (x210.1 + 1)) s0.2.1 (w64 (s0.2.2.1 - 1)) x210.2 m1_0) fun x218 hx218 => ?_
          conv => arg 3; whnf
          exact sim_again (ih (s0.1, x210.1, (w64 (s0.2.2.1 - 1)), false, false, x218))
  ·refine sim_ct ?_
   conv => arg 3; whnf
   refine sim_br rfl ?_ ?_
   ·conv => arg 3; whnf
    refine sim_bind (g_slices_insertionSortCmpFunc_int__part_Order_1_e t0 s0.1 s0.2.1 s0.2.2.2.2.2 m1_0) (g_slices_insertionSortCmpFunc_int__part_Order_1_ok t0 s0.1 s0.2.1 s0.2.2.2.2.2 m1_0) fun x121 hx121 => ?_
    conv => arg 3; whnf
    exact sim_ret rfl
   ·conv => arg 3; whnf
    refine sim_br rfl ?_ ?_
    ·conv => arg 3; whnf
     refine sim_bind (g_slices_heapSortCmpFunc_int__part_Order_1_e t0 s0.1 s0.2.1 s0.2.2.2.2.2 m1_0) (g_slices_heapSortCmpFunc_int__part_Order_1_ok t0 s0.1 s0.2.1 s0.2.2.2.2.2 m1_0) fun x122 hx122 => ?_
     conv => arg 3; whnf
     exact sim_ret rfl
    ·conv => arg 3; whnf
     refine sim_bind (g_slices_breakPatternsCmpFunc_int__part_Order_1_e t0 s0.1 s0.2.1 s0.2.2.2.2.2 m1_0) (g_slices_breakPatternsCmpFunc_int__part_Order_1_ok t0 s0.1 s0.2.1 s0.2.2.2.2.2 m1_0) fun x123 hx123 => ?_
     conv => arg 3; whnf
     refine sim_bind (g_slices_choosePivotCmpFunc_int__part_Order_1_e t0 s0.1 s0.2.1 x123 m1_0) (g_slices_choosePivotCmpFunc_int__part_Order_1_ok t0 s0.1 s0.2.1 x123 m1_0) fun x124 hx124 => ?_
     conv => arg 3; whnf
     refine sim_br rfl ?_ ?_
     ·conv => arg 3; whnf
      refine sim_bind (g_slices_reverseRangeCmpFunc_int__part_Order_1_e t0 s0.1 s0.2.1 x123 m1_0) (g_slices_reverseRangeCmpFunc_int__part_Order_1_ok t0 s0.1 s0.2.1 x123 m1_0) fun x125 hx125 => ?_
      conv => arg 3; whnf
      refine sim_br rfl ?_ ?_
      ·conv => arg 3; whnf
       refine sim_get (f := intD) rfl rfl fun x126 hx126 => ?_
       conv => arg 3; whnf
       refine sim_known (nth_of (f := intD) rfl hx126) ?_
       conv => arg 3; whnf
       refine sim_get (f := intD) rfl rfl fun x127 hx127 => ?_
       conv => arg 3; whnf
       refine sim_known (nth_of (f := intD) rfl hx127) ?_
       conv => arg 3; whnf
       refine sim_call g_part_Order_1_e (g_part_Order_1_ok t0 x126 x127 m1_0) rfl fun x128 hx128 => ?_
       conv => arg 3; whnf
       refine sim_br rfl ?_ ?_
       ·conv => arg 3; whnf
        refine sim_bind (g_slices_partitionCmpFunc_int__part_Order_1_e t0 s0.1 s0.2.1 (w64 ((w64 (s0.2.1 - 1)) - (w64 (x124.1 - s0.1)))) x125 m1_0) (g_slices_partitionCmpFunc_int__part_Order_1_ok t0 s0.1 s0.2.1 (w64 ((w64 (s0.2.1 - 1)) - (w64 (x124.1 - s0.1)))) x125 m1_0) fun x129 hx129 => ?_
        clear hx129
        rcases x129 with x129 | x129
        ·conv => arg 3; whnf
         refine sim_t rfl ?_
         conv => arg 3; whnf
         refine sim_f rfl ?_
         conv => arg 3; whnf
         refine sim_br rfl ?_ ?_
         ·conv => arg 3; whnf
          refine sim_br rfl ?_ ?_
          ·conv => arg 3; whnf
           refine sim_bind (g_slices_pdqsortCmpFunc_int__part_Order_1_e t0 s0.1 x129.1 (w64 (s0.2.2.1 - 1)) x129.2 m1_0) (hrc t0 s0.1 x129.1 (w64 (s0.2.2.1 - 1)) x129.2 m1_0) fun x130 hx130 => ?_
           conv => arg 3; whnf
           exact sim_again (ih ((w64 (x129.1 + 1)), s0.2.1, (w64 (s0.2.2.1 - 1)), true, true, x130))
          ·conv => arg 3; whnf
           refine sim_bind (g_slices_pdqsortCmpFunc_int__part_Order_1_e t0 s0.1 x129.1 (w64 (s0.2.2.1 - 1)) x129.2 m1_0) (hrc t0 s0.1 x129.1 (w64 (s0.2.2.1 - 1)) x129.2 m1_0) fun x131 hx131 => ?_
           conv => arg 3; whnf
           exact sim_again (ih ((w64 (x129.1 + 1)), s0.2.1, (w64 (s0.2.2.1 - 1)), false, true, x131))
         ·conv => arg 3; whnf
          refine sim_br rfl ?_ ?_
          ·conv => arg 3; whnf
           refine sim_bind (g_slices_pdqsortCmpFunc_int__part_Order_1_e t0 (w64 (x129.1 + 1)) s0.2.1 (w64 (s0.2.2.1 - 1)) x129.2 m1_0) (hrc t0 (w64 (x129.1 + 1)) s0.2.1 (w64 (s0.2.2.1 - 1)) x129.2 m1_0) fun x132 hx132 => ?_
           conv => arg 3; whnf
           exact sim_again (ih (s0.1, x129.1, (w64 (s0.2.2.1 - 1)), true, true, x132))
          ·conv => arg 3; whnf
           refine sim_bind (g_slices_pdqsortCmpFunc_int__part_Order_1_e t0 (w64 (x129.1 + 1)) s0.2.1 (w64 (s0.2.2.1 - 1)) x129.2 m1_0) (hrc t0 (w64 (x129.1 + 1)) s0.2.1 (w64 (s0.2.2.1 - 1)) x129.2 m1_0) fun x133 hx133 => ?_
           conv => arg 3; whnf
           exact sim_again (ih (s0.1, x129.1, (w64 (s0.2.2.1 - 1)), false, true, x133))
        ·conv => arg 3; whnf
         refine sim_f rfl ?_
         conv => arg 3; whnf
         refine sim_f rfl ?_
         conv => arg 3; whnf
         refine sim_br rfl ?_ ?_
         ·conv => arg 3; whnf
          refine sim_br rfl ?_ ?_
          ·conv => arg 3; whnf
           refine sim_bind (g_slices_pdqsortCmpFunc_int__part_Order_1_e t0 s0.1 x129.1 (w64 (s0.2.2.1 - 1)) x129.2 m1_0) (hrc t0 s0.1 x129.1 (w64 (s0.2.2.1 - 1)) x129.2 m1_0) fun x134 hx134 => ?_
           conv => arg 3; whnf
           exact sim_again (ih ((w64 (x129.1 + 1)), s0.2.1, (w64 (s0.2.2.1 - 1)), true, false, x134))
          ·conv => arg 3; whnf
           refine sim_bind (g_slices_pdqsortCmpFunc_int__part_Order_1_e t0 s0.1 x129.1 (w64 (s0.2.2.1 - 1)) x129.2 m1_0) (hrc t0 s0.1 x129.1 (w64 (s0.2.2.1 - 1)) x129.2 m1_0) fun x135 hx135 => ?_
           conv => arg 3; whnf
           exact sim_again (ih ((w64 (x129.1 + 1)), s0.2.1, (w64 (s0.2.2.1 - 1)), false, false, x135))
         ·conv => arg 3; whnf
          refine sim_br rfl ?_ ?_
          ·conv => arg 3; whnf
           refine sim_bind (g_slices_pdqsortCmpFunc_int__part_Order_1_e t0 (w64 (x129.1 + 1)) s0.2.1 (w64 (s0.2.2.1 - 1)) x129.2 m1_0) (hrc t0 (w64 (x129.1 + 1)) s0.2.1 (w64 (s0.2.2.1 - 1)) x129.2 m1_0) fun x136 hx136 => ?_
           conv => arg 3; whnf
           exact sim_again (ih (s0.1, x129.1, (w64 (s0.2.2.1 - 1)), true, false, x136))
          ·conv => arg 3; whnf
           refine sim_bind (g_slices_pdqsortCmpFunc_int__part_Order_1_e t0 (w64 (x129.1 + 1)) s0.2.1 (w64 (s0.2.2.1 - 1)) x129.2 m1_0) (hrc t0 (w64 (x129.1 + 1)) s0.2.1 (w64 (s0.2.2.1 - 1)) x129.2 m1_0) fun x137 hx137 => ?_
           conv => arg 3; whnf
           exact sim_again (ih (s0.1, x129.1, (w64 (s0.2.2.1 - 1)), false, false, x137))
       ·conv => arg 3; whnf
        refine sim_bind (g_slices_partitionEqualCmpFunc_int__part_Order_1_e t0 s0.1 s0.2.1 (w64 ((w64 (s0.2.1 - 1)) - (w64 (x124.1 - s0.1)))) x125 m1_0) (g_slices_partitionEqualCmpFunc_int__part_Order_1_ok t0 s0.1 s0.2.1 (w64 ((w64 (s0.2.1 - 1)) - (w64 (x124.1 - s0.1)))) x125 m1_0) fun x138 hx138 => ?_
        conv => arg 3; whnf
        exact sim_again (ih (x138.1, s0.2.1, (w64 (s0.2.2.1 - 1)), false, true, x138.2))
      ·conv => arg 3; whnf
       refine sim_bind (g_slices_partitionCmpFunc_int__part_Order_1_e t0 s0.1 s0.2.1 (w64 ((w64 (s0.2.1 - 1)) - (w64 (x124.1 - s0.1)))) x125 m1_0) (g_slices_partitionCmpFunc_int__part_Order_1_ok t0 s0.1 s0.2.1 (w64 ((w64 (s0.2.1 - 1)) - (w64 (x124.1 - s0.1)))) x125 m1_0) fun x139 hx139 => ?_
       clear hx139
       rcases x139 with x139 | x139
       ·conv => arg 3; whnf
        refine sim_t rfl ?_
        conv => arg 3; whnf
        refine sim_f rfl ?_
        conv => arg 3; whnf
        refine sim_br rfl ?_ ?_
        ·conv => arg 3; whnf
         refine sim_br rfl ?_ ?_
         ·conv => arg 3; whnf
          refine sim_bind (g_slices_pdqsortCmpFunc_int__part_Order_1_e t0 s0.1 x139.1 (w64 (s0.2.2.1 - 1)) x139.2 m1_0) (hrc t0 s0.1 x139.1 (w64 (s0.2.2.1 - 1)) x139.2 m1_0) fun x140 hx140 => ?_
          conv => arg 3; whnf
          exact sim_again (ih ((w64 (x139.1 + 1)), s0.2.1, (w64 (s0.2.2.1 - 1)), true, true, x140))
         ·conv => arg 3; whnf
          refine sim_bind (g_slices_pdqsortCmpFunc_int__part_Order_1_e t0 s0.1 x139.1 (w64 (s0.2.2.1 - 1)) x139.2 m1_0) (hrc t0 s0.1 x139.1 (w64 (s0.2.2.1 - 1)) x139.2 m1_0) fun x141 hx141 => ?_
          conv => arg 3; whnf
          exact sim_again (ih ((w64 (x139.1 + 1)), s0.2.1, (w64 (s0.2.2.1 - 1)), false, true, x141))
        ·conv => arg 3; whnf
         refine sim_br rfl ?_ ?_
         ·conv => arg 3; whnf
          refine sim_bind (g_slices_pdqsortCmpFunc_int__part_Order_1_e t0 (w64 (x139.1 + 1)) s0.2.1 (w64 (s0.2.2.1 - 1)) x139.2 m1_0) (hrc t0 (w64 (x139.1 + 1)) s0.2.1 (w64 (s0.2.2.1 - 1)) x139.2 m1_0) fun x142 hx142 => ?_
          conv => arg 3; whnf
          exact sim_again (ih (s0.1, x139.1, (w64 (s0.2.2.1 - 1)), true, true, x142))
         ·conv => arg 3; whnf
          refine sim_bind (g_slices_pdqsortCmpFunc_int__part_Order_1_e t0 (w64 (x139.1 + 1)) s0.2.1 (w64 (s0.2.2.1 - 1)) x139.2 m1_0) (hrc t0 (w64 (x139.1 + 1)) s0.2.1 (w64 (s0.2.2.1 - 1)) x139.2 m1_0) fun x143 hx143 => ?_
          conv => arg 3; whnf
          exact sim_again (ih (s0.1, x139.1, (w64 (s0.2.2.1 - 1)), false, true, x143))
       ·conv => arg 3; whnf
        refine sim_f rfl ?_
        conv => arg 3; whnf
        refine sim_f rfl ?_
        conv => arg 3; whnf
        refine sim_br rfl ?_ ?_
        ·conv => arg 3; whnf
         refine sim_br rfl ?_ ?_
         ·conv => arg 3; whnf
          refine sim_bind (g_slices_pdqsortCmpFunc_int__part_Order_1_e t0 s0.1 x139.1 (w64 (s0.2.2.1 - 1)) x139.2 m1_0) (hrc t0 s0.1 x139.1 (w64 (s0.2.2.1 - 1)) x139.2 m1_0) fun x144 hx144 => ?_
          conv => arg 3; whnf
          exact sim_again (ih ((w64 (x139.1 + 1)), s0.2.1, (w64 (s0.2.2.1 - 1)), true, false, x144))
         ·conv => arg 3; whnf
          refine sim_bind (g_slices_pdqsortCmpFunc_int__part_Order_1_e t0 s0.1 x139.1 (w64 (s0.2.2.1 - 1)) x139.2 m1_0) (hrc t0 s0.1 x139.1 (w64 (s0.2.2.1 - 1)) x139.2 m1_0) fun x145 hx145 => ?_
          conv => arg 3; whnf
          exact sim_again (ih ((w64 (x139.1 + 1)), s0.2.1, (w64 (s0.2.2.1 - 1)), false, false, x145))
        ·conv => arg 3; whnf
         refine sim_br rfl ?_ ?_
         ·conv => arg 3; whnf
          refine sim_bind (g_slices_pdqsortCmpFunc_int__part_Order_1_e t0 (w64 (x139.1 + 1)) s0.2.1 (w64 (s0.2.2.1 - 1)) x139.2 m1_0) (hrc t0 (w64 (x139.1 + 1)) s0.2.1 (w64 (s0.2.2.1 - 1)) x139.2 m1_0) fun x146 hx146 => ?_
          conv => arg 3; whnf
          exact sim_again (ih (s0.1, x139.1, (w64 (s0.2.2.1 - 1)), true, false, x146))
         ·conv => arg 3; whnf
          refine sim_bind (g_slices_pdqsortCmpFunc_int__part_Order_1_e t0 (w64 (x139.1 + 1)) s0.2.1 (w64 (s0.2.2.1 - 1)) x139.2 m1_0) (hrc t0 (w64 (x139.1 + 1)) s0.2.1 (w64 (s0.2.2.1 - 1)) x139.2 m1_0) fun x147 hx147 => ?_
          conv => arg 3; whnf
          exact sim_again (ih (s0.1, x139.1, (w64 (s0.2.2.1 - 1)), false, false, x147))
     ·conv => arg 3; whnf
      refine sim_br rfl ?_ ?_
      ·conv => arg 3; whnf
       refine sim_get (f := intD) rfl rfl fun x148 hx148 => ?_
       conv => arg 3; whnf
       refine sim_known (nth_of (f := intD) rfl hx148) ?_
       conv => arg 3; whnf
       refine sim_get (f := intD) rfl rfl fun x149 hx149 => ?_
       conv => arg 3; whnf
       refine sim_known (nth_of (f := intD) rfl hx149) ?_
       conv => arg 3; whnf
       refine sim_call g_part_Order_1_e (g_part_Order_1_ok t0 x148 x149 m1_0) rfl fun x150 hx150 => ?_
       conv => arg 3; whnf
       refine sim_br rfl ?_ ?_
       ·conv => arg 3; whnf
        refine sim_bind (g_slices_partitionCmpFunc_int__part_Order_1_e t0 s0.1 s0.2.1 x124.1 x123 m1_0) (g_slices_partitionCmpFunc_int__part_Order_1_ok t0 s0.1 s0.2.1 x124.1 x123 m1_0) fun x151 hx151 => ?_
        clear hx151
        rcases x151 with x151 | x151
        ·conv => arg 3; whnf
         refine sim_t rfl ?_
         conv => arg 3; whnf
         refine sim_f rfl ?_
         conv => arg 3; whnf
         refine sim_br rfl ?_ ?_
         ·conv => arg 3; whnf
          refine sim_br rfl ?_ ?_
          ·conv => arg 3; whnf
           refine sim_bind (g_slices_pdqsortCmpFunc_int__part_Order_1_e t0 s0.1 x151.1 (w64 (s0.2.2.1 - 1)) x151.2 m1_0) (hrc t0 s0.1 x151.1 (w64 (s0.2.2.1 - 1)) x151.2 m1_0) fun x152 hx152 => ?_
           conv => arg 3; whnf
           exact sim_again (ih ((w64 (x151.1 + 1)), s0.2.1, (w64 (s0.2.2.1 - 1)), true, true, x152))
          ·conv => arg 3; whnf
           refine sim_bind (g_slices_pdqsortCmpFunc_int__part_Order_1_e t0 s0.1 x151.1 (w64 (s0.2.2.1 - 1)) x151.2 m1_0) (hrc t0 s0.1 x151.1 (w64 (s0.2.2.1 - 1)) x151.2 m1_0) fun x153 hx153 => ?_
           conv => arg 3; whnf
           exact sim_again (ih ((w64 (x151.1 + 1)), s0.2.1, (w64 (s0.2.2.1 - 1)), false, true, x153))
         ·conv => arg 3; whnf
          refine sim_br rfl ?_ ?_
          ·conv => arg 3; whnf
           refine sim_bind (g_slices_pdqsortCmpFunc_int__part_Order_1_e t0 (w64 (x151.1 + 1)) s0.2.1 (w64 (s0.2.2.1 - 1)) x151.2 m1_0) (hrc t0 (w64 (x151.1 + 1)) s0.2.1 (w64 (s0.2.2.1 - 1)) x151.2 m1_0) fun x154 hx154 => ?_
           conv => arg 3; whnf
           exact sim_again (ih (s0.1, x151.1, (w64 (s0.2.2.1 - 1)), true, true, x154))
          ·conv => arg 3; whnf
           refine sim_bind (g_slices_pdqsortCmpFunc_int__part_Order_1_e t0 (w64 (x151.1 + 1)) s0.2.1 (w64 (s0.2.2.1 - 1)) x151.2 m1_0) (hrc t0 (w64 (x151.1 + 1)) s0.2.1 (w64 (s0.2.2.1 - 1)) x151.2 m1_0) fun x155 hx155 => ?_
           conv => arg 3; whnf
           exact sim_again (ih (s0.1, x151.1, (w64 (s0.2.2.1 - 1)), false, true, x155))
        ·conv => arg 3; whnf
         refine sim_f rfl ?_
         conv => arg 3; whnf
         refine sim_f rfl ?_
         conv => arg 3; whnf
         refine sim_br rfl ?_ ?_
         ·conv => arg 3; whnf
          refine sim_br rfl ?_ ?_
          ·conv => arg 3; whnf
           refine sim_bind (g_slices_pdqsortCmpFunc_int__part_Order_1_e t0 s0.1 x151.1 (w64 (s0.2.2.1 - 1)) x151.2 m1_0) (hrc t0 s0.1 x151.1 (w64 (s0.2.2.1 - 1)) x151.2 m1_0) fun x156 hx156 => ?_
           conv => arg 3; whnf
           exact sim_again (ih ((w64 (x151.1 + 1)), s0.2.1, (w64 (s0.2.2.1 - 1)), true, false, x156))
          ·conv => arg 3; whnf
           refine sim_bind (g_slices_pdqsortCmpFunc_int__part_Order_1_e t0 s0.1 x151.1 (w64 (s0.2.2.1 - 1)) x151.2 m1_0) (hrc t0 s0.1 x151.1 (w64 (s0.2.2.1 - 1)) x151.2 m1_0) fun x157 hx157 => ?_
           conv => arg 3; whnf
           exact sim_again (ih ((w64 (x151.1 + 1)), s0.2.1, (w64 (s0.2.2.1 - 1)), false, false, x157))
         ·conv => arg 3; whnf
          refine sim_br rfl ?_ ?_
          ·conv => arg 3; whnf
           refine sim_bind (g_slices_pdqsortCmpFunc_int__part_Order_1_e t0 (w64 (x151.1 + 1)) s0.2.1 (w64 (s0.2.2.1 - 1)) x151.2 m1_0) (hrc t0 (w64 (x151.1 + 1)) s0.2.1 (w64 (s0.2.2.1 - 1)) x151.2 m1_0) fun x158 hx158 => ?_
           conv => arg 3; whnf
           exact sim_again (ih (s0.1, x151.1, (w64 (s0.2.2.1 - 1)), true, false, x158))
          ·conv => arg 3; whnf
           refine sim_bind (g_slices_pdqsortCmpFunc_int__part_Order_1_e t0 (w64 (x151.1 + 1)) s0.2.1 (w64 (s0.2.2.1 - 1)) x151.2 m1_0) (hrc t0 (w64 (x151.1 + 1)) s0.2.1 (w64 (s0.2.2.1 - 1)) x151.2 m1_0) fun x159 hx159 => ?_
           conv => arg 3; whnf
           exact sim_again (ih (s0.1, x151.1, (w64 (s0.2.2.1 - 1)), false, false, x159))
       ·conv => arg 3; whnf
        refine sim_bind (g_slices_partitionEqualCmpFunc_int__part_Order_1_e t0 s0.1 s0.2.1 x124.1 x123 m1_0) (g_slices_partitionEqualCmpFunc_int__part_Order_1_ok t0 s0.1 s0.2.1 x124.1 x123 m1_0) fun x160 hx160 => ?_
        conv => arg 3; whnf
        exact sim_again (ih (x160.1, s0.2.1, (w64 (s0.2.2.1 - 1)), false, true, x160.2))
      ·conv => arg 3; whnf
       refine sim_bind (g_slices_partitionCmpFunc_int__part_Order_1_e t0 s0.1 s0.2.1 x124.1 x123 m1_0) (g_slices_partitionCmpFunc_int__part_Order_1_ok t0 s0.1 s0.2.1 x124.1 x123 m1_0) fun x161 hx161 => ?_
       clear hx161
       rcases x161 with x161 | x161
       ·conv => arg 3; whnf
        refine sim_t rfl ?_
        conv => arg 3; whnf
        refine sim_f rfl ?_
        conv => arg 3; whnf
        refine sim_br rfl ?_ ?_
        ·conv => arg 3; whnf
         refine sim_br rfl ?_ ?_
         ·conv => arg 3; whnf
          refine sim_bind (g_slices_pdqsortCmpFunc_int__part_Order_1_e t0 s0.1 x161.1 (w64 (s0.2.2.1 - 1)) x161.2 m1_0) (hrc t0 s0.1 x161.1 (w64 (s0.2.2.1 - 1)) x161.2 m1_0) fun x162 hx162 => ?_
          conv => arg 3; whnf
          exact sim_again (ih ((w64 (x161.1 + 1)), s0.2.1, (w64 (s0.2.2.1 - 1)), true, true, x162))
         ·conv => arg 3; whnf
          refine sim_bind (g_slices_pdqsortCmpFunc_int__part_Order_1_e t0 s0.1 x161.1 (w64 (s0.2.2.1 - 1)) x161.2 m1_0) (hrc t0 s0.1 x161.1 (w64 (s0.2.2.1 - 1)) x161.2 m1_0) fun x163 hx163 => ?_
          conv => arg 3; whnf
          exact sim_again (ih ((w64 (x161.1 + 1)), s0.2.1, (w64 (s0.2.2.1 - 1)), false, true, x163))
        ·conv => arg 3; whnf
         refine sim_br rfl ?_ ?_
         ·conv => arg 3; whnf
          refine sim_bind (g_slices_pdqsortCmpFunc_int__part_Order_1_e t0 (w64 (x161.1 + 1)) s0.2.1 (w64 (s0.2.2.1 - 1)) x161.2 m1_0) (hrc t0 (w64 (x161.1 + 1)) s0.2.1 (w64 (s0.2.2.1 - 1)) x161.2 m1_0) fun x164 hx164 => ?_
          conv => arg 3; whnf
          exact sim_again (ih (s0.1, x161.1, (w64 (s0.2.2.1 - 1)), true, true, x164))
         ·conv => arg 3; whnf
          refine sim_bind (g_slices_pdqsortCmpFunc_int__part_Order_1_e t0 (w64 (x161.1 + 1)) s0.2.1 (w64 (s0.2.2.1 - 1)) x161.2 m1_0) (hrc t0 (w64 (x161.1 + 1)) s0.2.1 (w64 (s0.2.2.1 - 1)) x161.2 m1_0) fun x165 hx165 => ?_
          conv => arg 3; whnf
          exact sim_again (ih (s0.1, x161.1, (w64 (s0.2.2.1 - 1)), false, true, x165))
       ·conv => arg 3; whnf
        refine sim_f rfl ?_
        conv => arg 3; whnf
        refine sim_f rfl ?_
        conv => arg 3; whnf
        refine sim_br rfl ?_ ?_
        ·conv => arg 3; whnf
         refine sim_br rfl ?_ ?_
         ·conv => arg 3; whnf
          refine sim_bind (g_slices_pdqsortCmpFunc_int__part_Order_1_e t0 s0.1 x161.1 (w64 (s0.2.2.1 - 1)) x161.2 m1_0) (hrc t0 s0.1 x161.1 (w64 (s0.2.2.1 - 1)) x161.2 m1_0) fun x166 hx166 => ?_
          conv => arg 3; whnf
          exact sim_again (ih ((w64 (x161.1 + 1)), s0.2.1, (w64 (s0.2.2.1 - 1)), true, false, x166))
         ·conv => arg 3; whnf
          refine sim_bind (g_slices_pdqsortCmpFunc_int__part_Order_1_e t0 s0.1 x161.1 (w64 (s0.2.2.1 - 1)) x161.2 m1_0) (hrc t0 s0.1 x161.1 (w64 (s0.2.2.1 - 1)) x161.2 m1_0) fun x167 hx167 => ?_
          conv => arg 3; whnf
          exact sim_again (ih ((w64 (x161.1 + 1)), s0.2.1, (w64 (s0.2.2.1 - 1)), false, false, x167))
        ·conv => arg 3; whnf
         refine sim_br rfl ?_ ?_
         ·conv => arg 3; whnf
          refine sim_bind (g_slices_pdqsortCmpFunc_int__part_Order_1_e t0 (w64 (x161.1 + 1)) s0.2.1 (w64 (s0.2.2.1 - 1)) x161.2 m1_0) (hrc t0 (w64 (x161.1 + 1)) s0.2.1 (w64 (s0.2.2.1 - 1)) x161.2 m1_0) fun x168 hx168 => ?_
          conv => arg 3; whnf
          exact sim_again (ih (s0.1, x161.1, (w64 (s0.2.2.1 - 1)), true, false, x168))
         ·conv => arg 3; whnf
          refine sim_bind (g_slices_pdqsortCmpFunc_int__part_Order_1_e t0 (w64 (x161.1 + 1)) s0.2.1 (w64 (s0.2.2.1 - 1)) x161.2 m1_0) (hrc t0 (w64 (x161.1 + 1)) s0.2.1 (w64 (s0.2.2.1 - 1)) x161.2 m1_0) fun x169 hx169 => ?_
          conv => arg 3; whnf
          exact sim_again (ih (s0.1, x161.1, (w64 (s0.2.2.1 - 1)), false, false, x169))
 ·refine sim_ct ?_
  rcases hb : s0.2.2.2.2.1 with _ | _
  ·refine sim_cf ?_
   conv => arg 3; whnf
   refine sim_br rfl ?_ ?_
   ·conv => arg 3; whnf
    refine sim_bind (g_slices_insertionSortCmpFunc_int__part_Order_1_e t0 s0.1 s0.2.1 s0.2.2.2.2.2 m1_0) (g_slices_insertionSortCmpFunc_int__part_Order_1_ok t0 s0.1 s0.2.1 s0.2.2.2.2.2 m1_0) fun x73 hx73 => ?_
    conv => arg 3; whnf
    exact sim_ret rfl
   ·conv => arg 3; whnf
    refine sim_br rfl ?_ ?_
    ·conv => arg 3; whnf
     refine sim_bind (g_slices_heapSortCmpFunc_int__part_Order_1_e t0 s0.1 s0.2.1 s0.2.2.2.2.2 m1_0) (g_slices_heapSortCmpFunc_int__part_Order_1_ok t0 s0.1 s0.2.1 s0.2.2.2.2.2 m1_0) fun x74 hx74 => ?_
     conv => arg 3; whnf
     exact sim_ret rfl
    ·conv => arg 3; whnf
     refine sim_bind (g_slices_choosePivotCmpFunc_int__part_Order_1_e t0 s0.1 s0.2.1 s0.2.2.2.2.2 m1_0) (g_slices_choosePivotCmpFunc_int__part_Order_1_ok t0 s0.1 s0.2.1 s0.2.2.2.2.2 m1_0) fun x75 hx75 => ?_
     conv => arg 3; whnf
     refine sim_br rfl ?_ ?_
     ·conv => arg 3; whnf
      refine sim_bind (g_slices_reverseRangeCmpFunc_int__part_Order_1_e t0 s0.1 s0.2.1 s0.2.2.2.2.2 m1_0) (g_slices_reverseRangeCmpFunc_int__part_Order_1_ok t0 s0.1 s0.2.1 s0.2.2.2.2.2 m1_0) fun x76 hx76 => ?_
      conv => arg 3; whnf
      refine sim_br rfl ?_ ?_
      ·conv => arg 3; whnf
       refine sim_get (f := intD) rfl rfl fun x77 hx77 => ?_
       conv => arg 3; whnf
       refine sim_known (nth_of (f := intD) rfl hx77) ?_
       conv => arg 3; whnf
       refine sim_get (f := intD) rfl rfl fun x78 hx78 => ?_
       conv => arg 3; whnf
       refine sim_known (nth_of (f := intD) rfl hx78) ?_
       conv => arg 3; whnf
       refine sim_call g_part_Order_1_e (g_part_Order_1_ok t0 x77 x78 m1_0) rfl fun x79 hx79 => ?_
       conv => arg 3; whnf
       refine sim_br rfl ?_ ?_
       ·conv => arg 3; whnf
        refine sim_bind (g_slices_partitionCmpFunc_int__part_Order_1_e t0 s0.1 s0.2.1 (w64 ((w64 (s0.2.1 - 1)) - (w64 (x75.1 - s0.1)))) x76 m1_0) (g_slices_partitionCmpFunc_int__part_Order_1_ok t0 s0.1 s0.2.1 (w64 ((w64 (s0.2.1 - 1)) - (w64 (x75.1 - s0.1)))) x76 m1_0) fun x80 hx80 => ?_
        clear hx80
        rcases x80 with x80 | x80
        ·conv => arg 3; whnf
         refine sim_t rfl ?_
         conv => arg 3; whnf
         refine sim_f rfl ?_
         conv => arg 3; whnf
         refine sim_br rfl ?_ ?_
         ·conv => arg 3; whnf
          refine sim_br rfl ?_ ?_
          ·conv => arg 3; whnf
           refine sim_bind (g_slices_pdqsortCmpFunc_int__part_Order_1_e t0 s0.1 x80.1 s0.2.2.1 x80.2 m1_0) (hrc t0 s0.1 x80.1 s0.2.2.1 x80.2 m1_0) fun x81 hx81 => ?_
           conv => arg 3; whnf
           exact sim_again (ih ((w64 (x80.1 + 1)), s0.2.1, s0.2.2.1, true, true, x81))
          ·conv => arg 3; whnf
           refine sim_bind (g_slices_pdqsortCmpFunc_int__part_Order_1_e t0 s0.1 x80.1 s0.2.2.1 x80.2 m1_0) (hrc t0 s0.1 x80.1 s0.2.2.1 x80.2 m1_0) fun x82 hx82 => ?_
           conv => arg 3; whnf
           exact sim_again (ih ((w64 (x80.1 + 1)), s0.2.1, s0.2.2.1, false, true, x82))
         ·conv => arg 3; whnf
          refine sim_br rfl ?_ ?_
          ·conv => arg 3; whnf
           refine sim_bind (g_slices_pdqsortCmpFunc_int__part_Order_1_e t0 (w64 (x80.1 + 1)) s0.2.1 s0.2.2.1 x80.2 m1_0) (hrc t0 (w64 (x80.1 + 1)) s0.2.1 s0.2.2.1 x80.2 m1_0) fun x83 hx83 => ?_
           conv => arg 3; whnf
           exact sim_again (ih (s0.1, x80.1, s0.2.2.1, true, true, x83))
          ·conv => arg 3; whnf
           refine sim_bind (g_slices_pdqsortCmpFunc_int__part_Order_1_e t0 (w64 (x80.1 + 1)) s0.2.1 s0.2.2.1 x80.2 m1_0) (hrc t0 (w64 (x80.1 + 1)) s0.2.1 s0.2.2.1 x80.2 m1_0) fun x84 hx84 => ?_
           conv => arg 3; whnf
           exact sim_again (ih (s0.1, x80.1, s0.2.2.1, false, true, x84))
        ·conv => arg 3; whnf
         refine sim_f rfl ?_
         conv => arg 3; whnf
         refine sim_f rfl ?_
         conv => arg 3; whnf
         refine sim_br rfl ?_ ?_
         ·conv => arg 3; whnf
          refine sim_br rfl ?_ ?_
          ·conv => arg 3; whnf
           refine sim_bind (g_slices_pdqsortCmpFunc_int__part_Order_1_e t0 s0.1 x80.1 s0.2.2.1 x80.2 m1_0) (hrc t0 s0.1 x80.1 s0.2.2.1 x80.2 m1_0) fun x85 hx85 => ?_
           conv => arg 3; whnf
           exact sim_again (ih ((w64 (x80.1 + 1)), s0.2.1, s0.2.2.1, true, false, x85))
          ·conv => arg 3; whnf
           refine sim_bind (g_slices_pdqsortCmpFunc_int__part_Order_1_e t0 s0.1 x80.1 s0.2.2.1 x80.2 m1_0) (hrc t0 s0.1 x80.1 s0.2.2.1 x80.2 m1_0) fun x86 hx86 => ?_
           conv => arg 3; whnf
           exact sim_again (ih ((w64 (x80.1 + 1)), s0.2.1, s0.2.2.1, false, false, x86))
         ·conv => arg 3; whnf
          refine sim_br rfl ?_ ?_
          ·conv => arg 3; whnf
           refine sim_bind (g_slices_pdqsortCmpFunc_int__part_Order_1_e t0 (w64 (x80.1 + 1)) s0.2.1 s0.2.2.1 x80.2 m1_0) (hrc t0 (w64 (x80.1 + 1)) s0.2.1 s0.2.2.1 x80.2 m1_0) fun x87 hx87 => ?_
           conv => arg 3; whnf
           exact sim_again (ih (s0.1, x80.1, s0.2.2.1, true, false, x87))
          ·conv => arg 3; whnf
           refine sim_bind (g_slices_pdqsortCmpFunc_int__part_Order_1_e t0 (w64 (x80.1 + 1)) s0.2.1 s0.2.2.1 x80.2 m1_0) (hrc t0 (w64 (x80.1 + 1)) s0.2.1 s0.2.2.1 x80.2 m1_0) fun x88 hx88 => ?_
           conv => arg 3; whnf
           exact sim_again (ih (s0.1, x80.1, s0.2.2.1, false, false, x88))
       ·conv => arg 3; whnf
        refine sim_bind (g_slices_partitionEqualCmpFunc_int__part_Order_1_e t0 s0.1 s0.2.1 (w64 ((w64 (s0.2.1 - 1)) - (w64 (x75.1 - s0.1)))) x76 m1_0) (g_slices_partitionEqualCmpFunc_int__part_Order_1_ok t0 s0.1 s0.2.1 (w64 ((w64 (s0.2.1 - 1)) - (w64 (x75.1 - s0.1)))) x76 m1_0) fun x89 hx89 => ?_
        conv => arg 3; whnf
        exact sim_again (ih (x89.1, s0.2.1, s0.2.2.1, true, false, x89.2))
      ·conv => arg 3; whnf
       refine sim_bind (g_slices_partitionCmpFunc_int__part_Order_1_e t0 s0.1 s0.2.1 (w64 ((w64 (s0.2.1 - 1)) - (w64 (x75.1 - s0.1)))) x76 m1_0) (g_slices_partitionCmpFunc_int__part_Order_1_ok t0 s0.1 s0.2.1 (w64 ((w64 (s0.2.1 - 1)) - (w64 (x75.1 - s0.1)))) x76 m1_0) fun x90 hx90 => ?_
       clear hx90
       rcases x90 with x90 | x90
       ·conv => arg 3; whnf
        refine sim_t rfl ?_
        conv => arg 3; whnf
        refine sim_f rfl ?_
        conv => arg 3; whnf
        refine sim_br rfl ?_ ?_
        ·conv => arg 3; whnf
         refine sim_br rfl ?_ ?_
         ·conv => arg 3; whnf
          refine sim_bind (g_slices_pdqsortCmpFunc_int__part_Order_1_e t0 s0.1 x90.1 s0.2.2.1 x90.2 m1_0) (hrc t0 s0.1 x90.1 s0.2.2.1 x90.2 m1_0) fun x91 hx91 => ?_
          conv => arg 3; whnf
          exact sim_again (ih ((w64 (x90.1 + 1)), s0.2.1, s0.2.2.1, true, true, x91))
         ·conv => arg 3; whnf
          refine sim_bind (g_slices_pdqsortCmpFunc_int__part_Order_1_e t0 s0.1 x90.1 s0.2.2.1 x90.2 m1_0) (hrc t0 s0.1 x90.1 s0.2.2.1 x90.2 m1_0) fun x92 hx92 => ?_
          conv => arg 3; whnf
          exact sim_again (ih ((w64 (x90.1 + 1)), s0.2.1, s0.2.2.1, false, true, x92))
        ·conv => arg 3; whnf
         refine sim_br rfl ?_ ?_
         ·conv => arg 3; whnf
          refine sim_bind (g_slices_pdqsortCmpFunc_int__part_Order_1_e t0 (w64 (x90.1 + 1)) s0.2.1 s0.2.2.1 x90.2 m1_0) (hrc t0 (w64 (x90.1 + 1)) s0.2.1 s0.2.2.1 x90.2 m1_0) fun x93 hx93 => ?_
          conv => arg 3; whnf
          exact sim_again (ih (s0.1, x90.1, s0.2.2.1, true, true, x93))
         ·conv => arg 3; whnf
          refine sim_bind (g_slices_pdqsortCmpFunc_int__part_Order_1_e t0 (w64 (x90.1 + 1)) s0.2.1 s0.2.2.1 x90.2 m1_0) (hrc t0 (w64 (x90.1 + 1)) s0.2.1 s0.2.2.1 x90.2 m1_0) fun x94 hx94 => ?_
          conv => arg 3; whnf
          exact sim_again (ih (s0.1, x90.1, s0.2.2.1, false, true, x94))
       ·conv => arg 3; whnf
        refine sim_f rfl ?_
        conv => arg 3; whnf
        refine sim_f rfl ?_
        conv => arg 3; whnf
        refine sim_br rfl ?_ ?_
        ·conv => arg 3; whnf
         refine sim_br rfl ?_ ?_
         ·conv => arg 3; whnf
          refine sim_bind (g_slices_pdqsortCmpFunc_int__part_Order_1_e t0 s0.1 x90.1 s0.2.2.1 x90.2 m1_0) (hrc t0 s0.1 x90.1 s0.2.2.1 x90.2 m1_0) fun x95 hx95 => ?_
          conv => arg 3; whnf
          exact sim_again (ih ((w64 (x90.1 + 1)), s0.2.1, s0.2.2.1, true, false, x95))
         ·conv => arg 3; whnf
          refine sim_bind (g_slices_pdqsortCmpFunc_int__part_Order_1_e t0 s0.1 x90.1 s0.2.2.1 x90.2 m1_0) (hrc t0 s0.1 x90.1 s0.2.2.1 x90.2 m1_0) fun x96 hx96 => ?_
          conv => arg 3; whnf
          exact sim_again (ih ((w64 (x90.1 + 1)), s0.2.1, s0.2.2.1, false, false, x96))
        ·conv => arg 3; whnf
         refine sim_br rfl ?_ ?_
         ·conv => arg 3; whnf
          refine sim_bind (g_slices_pdqsortCmpFunc_int__part_Order_1_e t0 (w64 (x90.1 + 1)) s0.2.1 s0.2.2.1 x90.2 m1_0) (hrc t0 (w64 (x90.1 + 1)) s0.2.1 s0.2.2.1 x90.2 m1_0) fun x97 hx97 => ?_
          conv => arg 3; whnf
          exact sim_again (ih (s0.1, x90.1, s0.2.2.1, true, false, x97))
         ·conv => arg 3; whnf
          refine sim_bind (g_slices_pdqsortCmpFunc_int__part_Order_1_e t0 (w64 (x90.1 + 1)) s0.2.1 s0.2.2.1 x90.2 m1_0) (hrc t0 (w64 (x90.1 + 1)) s0.2.1 s0.2.2.1 x90.2 m1_0) fun x98 hx98 => ?_
          conv => arg 3; whnf
          exact sim_again (ih (s0.1, x90.1, s0.2.2.1, false, false, x98))
     ·conv => arg 3; whnf
      refine sim_br rfl ?_ ?_
      ·conv => arg 3; whnf
       refine sim_get (f := intD) rfl rfl fun x99 hx99 => ?_
       conv => arg 3; whnf
       refine sim_known (nth_of (f := intD) rfl hx99) ?_
       conv => arg 3; whnf
       refine sim_get (f := intD) rfl rfl fun x100 hx100 => ?_
       conv => arg 3; whnf
       refine sim_known (nth_of (f := intD) rfl hx100) ?_
       conv => arg 3; whnf
       refine sim_call g_part_Order_1_e (g_part_Order_1_ok t0 x99 x100 m1_0) rfl fun x101 hx101 => ?_
       conv => arg 3; whnf
       refine sim_br rfl ?_ ?_
       ·conv => arg 3; whnf
        refine sim_bind (g_slices_partitionCmpFunc_int__part_Order_1_e t0 s0.1 s0.2.1 x75.1 s0.2.2.2.2.2 m1_0) (g_slices_partitionCmpFunc_int__part_Order_1_ok t0 s0.1 s0.2.1 x75.1 s0.2.2.2.2.2 m1_0) fun x102 hx102 => ?_
        clear hx102
        rcases x102 with x102 | x102
        ·conv => arg 3; whnf
         refine sim_t rfl ?_
         conv => arg 3; whnf
         refine sim_f rfl ?_
         conv => arg 3; whnf
         refine sim_br rfl ?_ ?_
         ·conv => arg 3; whnf
          refine sim_br rfl ?_ ?_
          ·conv => arg 3; whnf
           refine sim_bind (g_slices_pdqsortCmpFunc_int__part_Order_1_e t0 s0.1 x102.1 s0.2.2.1 x102.2 m1_0) (hrc t0 s0.1 x102.1 s0.2.2.1 x102.2 m1_0) fun x103 hx103 => ?_
           conv => arg 3; whnf
           exact sim_again (ih ((w64 (x102.1 + 1)), s0.2.1, s0.2.2.1, true, true, x103))
          ·conv => arg 3; whnf
           refine sim_bind (g_slices_pdqsortCmpFunc_int__part_Order_1_e t0 s0.1 x102.1 s0.2.2.1 x102.2 m1_0) (hrc t0 s0.1 x102.1 s0.2.2.1 x102.2 m1_0) fun x104 hx104 => ?_
           conv => arg 3; whnf
           exact sim_again (ih ((w64 (x102.1 + 1)), s0.2.1, s0.2.2.1, false, true, x104))
         ·conv => arg 3; whnf
          refine sim_br rfl ?_ ?_
          ·conv => arg 3; whnf
           refine sim_bind (g_slices_pdqsortCmpFunc_int__part_Order_1_e t0 (w64 (x102.1 + 1)) s0.2.1 s0.2.2.1 x102.2 m1_0) (hrc t0 (w64 (x102.1 + 1)) s0.2.1 s0.2.2.1 x102.2 m1_0) fun x105 hx105 => ?_
           conv => arg 3; whnf
           exact sim_again (ih (s0.1, x102.1, s0.2.2.1, true, true, x105))
          ·conv => arg 3; whnf
           refine sim_bind (g_slices_pdqsortCmpFunc_int__part_Order_1_e t0 (w64 (x102.1 + 1)) s0.2.1 s0.2.2.1 x102.2 m1_0) (hrc t0 (w64 (x102.1 + 1)) s0.2.1 s0.2.2.1 x102.2 m1_0) fun x106 hx106 => ?_
           conv => arg 3; whnf
           exact sim_again (ih (s0.1, x102.1, s0.2.2.1, false, true, x106))
        ·conv => arg 3; whnf
         refine sim_f rfl ?_
         conv => arg 3; whnf
         refine sim_f rfl ?_
         conv => arg 3; whnf
         refine sim_br rfl ?_ ?_
         ·conv => arg 3; whnf
          refine sim_br rfl ?_ ?_
          ·conv => arg 3; whnf
           refine sim_bind (g_slices_pdqsortCmpFunc_int__part_Order_1_e t0 s0.1 x102.1 s0.2.2.1 x102.2 m1_0) (hrc t0 s0.1 x102.1 s0.2.2.1 x102.2 m1_0) fun x107 hx107 => ?_
           conv => arg 3; whnf
           exact sim_again (ih ((w64 (x102.1 + 1)), s0.2.1, s0.2.2.1, true, false, x107))
          ·conv => arg 3; whnf
           refine sim_bind (g_slices_pdqsortCmpFunc_int__part_Order_1_e t0 s0.1 x102.1 s0.2.2.1 x102.2 m1_0) (hrc t0 s0.1 x102.1 s0.2.2.1 x102.2 m1_0) fun x108 hx108 => ?_
           conv => arg 3; whnf
           exact sim_again (ih ((w64 (x102.1 + 1)), s0.2.1, s0.2.2.1, false, false, x108))
         ·conv => arg 3; whnf
          refine sim_br rfl ?_ ?_
          ·conv => arg 3; whnf
           refine sim_bind (g_slices_pdqsortCmpFunc_int__part_Order_1_e t0 (w64 (x102.1 + 1)) s0.2.1 s0.2.2.1 x102.2 m1_0) (hrc t0 (w64 (x102.1 + 1)) s0.2.1 s0.2.2.1 x102.2 m1_0) fun x109 hx109 => ?_
           conv => arg 3; whnf
           exact sim_again (ih (s0.1, x102.1, s0.2.2.1, true, false, x109))
          ·conv => arg 3; whnf
           refine sim_bind (g_slices_pdqsortCmpFunc_int__part_Order_1_e t0 (w64 (x102.1 + 1)) s0.2.1 s0.2.2.1 x102.2 m1_0) (hrc t0 (w64 (x102.1 + 1)) s0.2.1 s0.2.2.1 x102.2 m1_0) fun x110 hx110 => ?_
           conv => arg 3; whnf
           exact sim_again (ih (s0.1, x102.1, s0.2.2.1, false, false, x110))
       ·conv => arg 3; whnf
        refine sim_bind (g_slices_partitionEqualCmpFunc_int__part_Order_1_e t0 s0.1 s0.2.1 x75.1 s0.2.2.2.2.2 m1_0) (g_slices_partitionEqualCmpFunc_int__part_Order_1_ok t0 s0.1 s0.2.1 x75.1 s0.2.2.2.2.2 m1_0) fun x111 hx111 => ?_
        conv => arg 3; whnf
        exact sim_again (ih (x111.1, s0.2.1, s0.2.2.1, true, false, x111.2))
      ·conv => arg 3; whnf
       refine sim_bind (g_slices_partitionCmpFunc_int__part_Order_1_e t0 s0.1 s0.2.1 x75.1 s0.2.2.2.2.2 m1_0) (g_slices_partitionCmpFunc_int__part_Order_1_ok t0 s0.1 s0.2.1 x75.1 s0.2.2.2.2.2 m1_0) fun x112 hx112 => ?_
       clear hx112
       rcases x112 with x112 | x112
       ·conv => arg 3; whnf
        refine sim_t rfl ?_
        conv => arg 3; whnf
        refine sim_f rfl ?_
        conv => arg 3; whnf
        refine sim_br rfl ?_ ?_
        ·conv => arg 3; whnf
         refine sim_br rfl ?_ ?_
         ·conv => arg 3; whnf
          refine sim_bind (g_slices_pdqsortCmpFunc_int__part_Order_1_e t0 s0.1 x112.1 s0.2.2.1 x112.2 m1_0) (hrc t0 s0.1 x112.1 s0.2.2.1 x112.2 m1_0) fun x113 hx113 => ?_
          conv => arg 3; whnf
          exact sim_again (ih ((w64 (x112.1 + 1)), s0.2.1, s0.2.2.1, true, true, x113))
         ·conv => arg 3; whnf
          refine sim_bind (g_slices_pdqsortCmpFunc_int__part_Order_1_e t0 s0.1 x112.1 s0.2.2.1 x112.2 m1_0) (hrc t0 s0.1 x112.1 s0.2.2.1 x112.2 m1_0) fun x114 hx114 => ?_
          conv => arg 3; whnf
          exact sim_again (ih ((w64 (x112.1 + 1)), s0.2.1, s0.2.2.1, false, true, x114))
        ·conv => arg 3; whnf
         refine sim_br rfl ?_ ?_
         ·conv => arg 3; whnf
          refine sim_bind (g_slices_pdqsortCmpFunc_int__part_Order_1_e t0 (w64 (x112.1 + 1)) s0.2.1 s0.2.2.1 x112.2 m1_0) (hrc t0 (w64 (x112.1 + 1)) s0.2.1 s0.2.2.1 x112.2 m1_0) fun x115 hx115 => ?_
          conv => arg 3; whnf
          exact sim_again (ih (s0.1, x112.1, s0.2.2.1, true, true, x115))
         ·conv => arg 3; whnf
          refine sim_bind (g_slices_pdqsortCmpFunc_int__part_Order_1_e t0 (w64 (x112.1 + 1)) s0.2.1 s0.2.2.1 x112.2 m1_0) (hrc t0 (w64 (x112.1 + 1)) s0.2.1 s0.2.2.1 x112.2 m1_0) fun x116 hx116 => ?_
          conv => arg 3; whnf
          exact sim_again (ih (s0.1, x112.1, s0.2.2.1, false, true, x116))
       ·conv => arg 3; whnf
        refine sim_f rfl ?_
        conv => arg 3; whnf
        refine sim_f rfl ?_
        conv => arg 3; whnf
        refine sim_br rfl ?_ ?_
        ·conv => arg 3; whnf
         refine sim_br rfl ?_ ?_
         ·conv => arg 3; whnf
          refine sim_bind (g_slices_pdqsortCmpFunc_int__part_Order_1_e t0 s0.1 x112.1 s0.2.2.1 x112.2 m1_0) (hrc t0 s0.1 x112.1 s0.2.2.1 x112.2 m1_0) fun x117 hx117 => ?_
          conv => arg 3; whnf
          exact sim_again (ih ((w64 (x112.1 + 1)), s0.2.1, s0.2.2.1, true, false, x117))
         ·conv => arg 3; whnf
          refine sim_bind (g_slices_pdqsortCmpFunc_int__part_Order_1_e t0 s0.1 x112.1 s0.2.2.1 x112.2 m1_0) (hrc t0 s0.1 x112.1 s0.2.2.1 x112.2 m1_0) fun x118 hx118 => ?_
          conv => arg 3; whnf
          exact sim_again (ih ((w64 (x112.1 + 1)), s0.2.1, s0.2.2.1, false, false, x118))
        ·conv => arg 3; whnf
         refine sim_br rfl ?_ ?_
         ·conv => arg 3; whnf
          refine sim_bind (g_slices_pdqsortCmpFunc_int__part_Order_1_e t0 (w64 (x112.1 + 1)) s0.2.1 s0.2.2.1 x112.2 m1_0) (hrc t0 (w64 (x112.1 + 1)) s0.2.1 s0.2.2.1 x112.2 m1_0) fun x119 hx119 => ?_
          conv => arg 3; whnf
          exact sim_again (ih (s0.1, x112.1, s0.2.2.1, true, false, x119))
         ·conv => arg 3; whnf
          refine sim_bind (g_slices_pdqsortCmpFunc_int__part_Order_1_e t0 (w64 (x112.1 + 1)) s0.2.1 s0.2.2.1 x112.2 m1_0) (hrc t0 (w64 (x112.1 + 1)) s0.2.1 s0.2.2.1 x112.2 m1_0) fun x120 hx120 => ?_
          conv => arg 3; whnf
          exact sim_again (ih (s0.1, x112.1, s0.2.2.1, false, false, x120))
  ·refine sim_ct ?_
   conv => arg 3; whnf
   refine sim_br rfl ?_ ?_
   ·conv => arg 3; whnf
    refine sim_bind (g_slices_insertionSortCmpFunc_int__part_Order_1_e t0 s0.1 s0.2.1 s0.2.2.2.2.2 m1_0) (g_slices_insertionSortCmpFunc_int__part_Order_1_ok t0 s0.1 s0.2.1 s0.2.2.2.2.2 m1_0) fun x1 hx1 => ?_
    conv => arg 3; whnf
    exact sim_ret rfl
   ·conv => arg 3; whnf
    refine sim_br rfl ?_ ?_
    ·conv => arg 3; whnf
     refine sim_bind (g_slices_heapSortCmpFunc_int__part_Order_1_e t0 s0.1 s0.2.1 s0.2.2.2.2.2 m1_0) (g_slices_heapSortCmpFunc_int__part_Order_1_ok t0 s0.1 s0.2.1 s0.2.2.2.2.2 m1_0) fun x2 hx2 => ?_
     conv => arg 3; whnf
     exact sim_ret rfl
    ·conv => arg 3; whnf
     refine sim_bind (g_slices_choosePivotCmpFunc_int__part_Order_1_e t0 s0.1 s0.2.1 s0.2.2.2.2.2 m1_0) (g_slices_choosePivotCmpFunc_int__part_Order_1_ok t0 s0.1 s0.2.1 s0.2.2.2.2.2 m1_0) fun x3 hx3 => ?_
     conv => arg 3; whnf
     refine sim_br rfl ?_ ?_
     ·conv => arg 3; whnf
      refine sim_bind (g_slices_reverseRangeCmpFunc_int__part_Order_1_e t0 s0.1 s0.2.1 s0.2.2.2.2.2 m1_0) (g_slices_reverseRangeCmpFunc_int__part_Order_1_ok t0 s0.1 s0.2.1 s0.2.2.2.2.2 m1_0) fun x4 hx4 => ?_
      conv => arg 3; whnf
      refine sim_t rfl ?_
      conv => arg 3; whnf
      refine sim_bind (g_slices_partialInsertionSortCmpFunc_int__part_Order_1_e t0 s0.1 s0.2.1 x4 m1_0) (g_slices_partialInsertionSortCmpFunc_int__part_Order_1_ok t0 s0.1 s0.2.1 x4 m1_0) fun x5 hx5 => ?_
      clear hx5
      rcases x5 with x5 | x5
      ·conv => arg 3; whnf
       exact sim_ret rfl
      ·conv => arg 3; whnf
       refine sim_br rfl ?_ ?_
       ·conv => arg 3; whnf
        refine sim_get (f := intD) rfl rfl fun x6 hx6 => ?_
        conv => arg 3; whnf
        refine sim_known (nth_of (f := intD) rfl hx6) ?_
        conv => arg 3; whnf
        refine sim_get (f := intD) rfl rfl fun x7 hx7 => ?_
        conv => arg 3; whnf
        refine sim_known (nth_of (f := intD) rfl hx7) ?_
        conv => arg 3; whnf
        refine sim_call g_part_Order_1_e (g_part_Order_1_ok t0 x6 x7 m1_0) rfl fun x8 hx8 => ?_
        conv => arg 3; whnf
        refine sim_br rfl ?_ ?_
        ·conv => arg 3; whnf
         refine sim_bind (g_slices_partitionCmpFunc_int__part_Order_1_e t0 s0.1 s0.2.1 (w64 ((w64 (s0.2.1 - 1)) - (w64 (x3.1 - s0.1)))) x5 m1_0) (g_slices_partitionCmpFunc_int__part_Order_1_ok t0 s0.1 s0.2.1 (w64 ((w64 (s0.2.1 - 1)) - (w64 (x3.1 - s0.1)))) x5 m1_0) fun x9 hx9 => ?_
         clear hx9
         rcases x9 with x9 | x9
         ·conv => arg 3; whnf
          refine sim_t rfl ?_
          conv => arg 3; whnf
          refine sim_f rfl ?_
          conv => arg 3; whnf
          refine sim_br rfl ?_ ?_
          ·conv => arg 3; whnf
           refine sim_br rfl ?_ ?_
           ·conv => arg 3; whnf
            refine sim_bind (g_slices_pdqsortCmpFunc_int__part_Order_1_e t0 s0.1 x9.1 s0.2.2.1 x9.2 m1_0) (hrc t0 s0.1 x9.1 s0.2.2.1 x9.2 m1_0) fun x10 hx10 => ?_
            conv => arg 3; whnf
            exact sim_again (ih ((w64 (x9.1 + 1)), s0.2.1, s0.2.2.1, true, true, x10))
           ·conv => arg 3; whnf
            refine sim_bind (g_slices_pdqsortCmpFunc_int__part_Order_1_e t0 s0.1 x9.1 s0.2.2.1 x9.2 m1_0) (hrc t0 s0.1 x9.1 s0.2.2.1 x9.2 m1_0) fun x11 hx11 => ?_
            conv => arg 3; whnf
            exact sim_again (ih ((w64 (x9.1 + 1)), s0.2.1, s0.2.2.1, false, true, x11))
          ·conv => arg 3; whnf
           refine sim_br rfl ?_ ?_
           ·conv => arg 3; whnf
            refine sim_bind (g_slices_pdqsortCmpFunc_int__part_Order_1_e t0 (w64 (x9.1 + 1)) s0.2.1 s0.2.2.1 x9.2 m1_0) (hrc t0 (w64 (x9.1 + 1)) s0.2.1 s0.2.2.1 x9.2 m1_0) fun x12 hx12 => ?_
            conv => arg 3; whnf
            exact sim_again (ih (s0.1, x9.1, s0.2.2.1, true, true, x12))
           ·conv => arg 3; whnf
            refine sim_bind (g_slices_pdqsortCmpFunc_int__part_Order_1_e t0 (w64 (x9.1 + 1)) s0.2.1 s0.2.2.1 x9.2 m1_0) (hrc t0 (w64 (x9.1 + 1)) s0.2.1 s0.2.2.1 x9.2 m1_0) fun x13 hx13 => ?_
            conv => arg 3; whnf
            exact sim_again (ih (s0.1, x9.1, s0.2.2.1, false, true, x13))
         ·conv => arg 3; whnf
          refine sim_f rfl ?_
          conv => arg 3; whnf
          refine sim_f rfl ?_
          conv => arg 3; whnf
          refine sim_br rfl ?_ ?_
          ·conv => arg 3; whnf
           refine sim_br rfl ?_ ?_
           ·conv => arg 3; whnf
            refine sim_bind (g_slices_pdqsortCmpFunc_int__part_Order_1_e t0 s0.1 x9.1 s0.2.2.1 x9.2 m1_0) (hrc t0 s0.1 x9.1 s0.2.2.1 x9.2 m1_0) fun x14 hx14 => ?_
            conv => arg 3; whnf
            exact sim_again (ih ((w64 (x9.1 + 1)), s0.2.1, s0.2.2.1, true, false, x14))
           ·conv => arg 3; whnf
            refine sim_bind (g_slices_pdqsortCmpFunc_int__part_Order_1_e t0 s0.1 x9.1 s0.2.2.1 x9.2 m1_0) (hrc t0 s0.1 x9.1 s0.2.2.1 x9.2 m1_0) fun x15 hx15 => ?_
            conv => arg 3; whnf
            exact sim_again (ih ((w64 (x9.1 + 1)), s0.2.1, s0.2.2.1, false, false, x15))
          ·conv => arg 3; whnf
           refine sim_br rfl ?_ ?_
           ·conv => arg 3; whnf
            refine sim_bind (g_slices_pdqsortCmpFunc_int__part_Order_1_e t0 (w64 (x9.1 + 1)) s0.2.1 s0.2.2.1 x9.2 m1_0) (hrc t0 (w64 (x9.1 + 1)) s0.2.1 s0.2.2.1 x9.2 m1_0) fun x16 hx16 => ?_
            conv => arg 3; whnf
            exact sim_again (ih (s0.1, x9.1, s0.2.2.1, true, false, x16))
           ·conv => arg 3; whnf
            refine sim_bind (g_slices_pdqsortCmpFunc_int__part_Order_1_e t0 (w64 (x9.1 + 1)) s0.2.1 s0.2.2.1 x9.2 m1_0) (hrc t0 (w64 (x9.1 + 1)) s0.2.1 s0.2.2.1 x9.2 m1_0) fun x17 hx17 => ?_
            conv => arg 3; whnf
            exact sim_again (ih (s0.1, x9.1, s0.2.2.1, false, false, x17))
        ·conv => arg 3; whnf
         refine sim_bind (g_slices_partitionEqualCmpFunc_int__part_Order_1_e t0 s0.1 s0.2.1 (w64 ((w64 (s0.2.1 - 1)) - (w64 (x3.1 - s0.1)))) x5 m1_0) (g_slices_partitionEqualCmpFunc_int__part_Order_1_ok t0 s0.1 s0.2.1 (w64 ((w64 (s0.2.1 - 1)) - (w64 (x3.1 - s0.1)))) x5 m1_0) fun x18 hx18 => ?_
         conv => arg 3; whnf
         exact sim_again (ih (x18.1, s0.2.1, s0.2.2.1, true, true, x18.2))
       ·conv => arg 3; whnf
        refine sim_bind (g_slices_partitionCmpFunc_int__part_Order_1_e t0 s0.1 s0.2.1 (w64 ((w64 (s0.2.1 - 1)) - (w64 (x3.1 - s0.1)))) x5 m1_0) (g_slices_partitionCmpFunc_int__part_Order_1_ok t0 s0.1 s0.2.1 (w64 ((w64 (s0.2.1 - 1)) - (w64 (x3.1 - s0.1)))) x5 m1_0) fun x19 hx19 => ?_
        clear hx19
        rcases x19 with x19 | x19
        ·conv => arg 3; whnf
         refine sim_t rfl ?_
         conv => arg 3; whnf
         refine sim_f rfl ?_
         conv => arg 3; whnf
         refine sim_br rfl ?_ ?_
         ·conv => arg 3; whnf
          refine sim_br rfl ?_ ?_
          ·conv => arg 3; whnf
           refine sim_bind (g_slices_pdqsortCmpFunc_int__part_Order_1_e t0 s0.1 x19.1 s0.2.2.1 x19.2 m1_0) (hrc t0 s0.1 x19.1 s0.2.2.1 x19.2 m1_0) fun x20 hx20 => ?_
           conv => arg 3; whnf
           exact sim_again (ih ((w64 (x19.1 + 1)), s0.2.1, s0.2.2.1, true, true, x20))
          ·conv => arg 3; whnf
           refine sim_bind (g_slices_pdqsortCmpFunc_int__part_Order_1_e t0 s0.1 x19.1 s0.2.2.1 x19.2 m1_0) (hrc t0 s0.1 x19.1 s0.2.2.1 x19.2 m1_0) fun x21 hx21 => ?_
           conv => arg 3; whnf
           exact sim_again (ih ((w64 (x19.1 + 1)), s0.2.1, s0.2.2.1, false, true, x21))
         ·conv => arg 3; whnf
          refine sim_br rfl ?_ ?_
          ·conv => arg 3; whnf
           refine sim_bind (g_slices_pdqsortCmpFunc_int__part_Order_1_e t0 (w64 (x19.1 + 1)) s0.2.1 s0.2.2.1 x19.2 m1_0) (hrc t0 (w64 (x19.1 + 1)) s0.2.1 s0.2.2.1 x19.2 m1_0) fun x22 hx22 => ?_
           conv => arg 3; whnf
           exact sim_again (ih (s0.1, x19.1, s0.2.2.1, true, true, x22))
          ·conv => arg 3; whnf
           refine sim_bind (g_slices_pdqsortCmpFunc_int__part_Order_1_e t0 (w64 (x19.1 + 1)) s0.2.1 s0.2.2.1 x19.2 m1_0) (hrc t0 (w64 (x19.1 + 1)) s0.2.1 s0.2.2.1 x19.2 m1_0) fun x23 hx23 => ?_
           conv => arg 3; whnf
           exact sim_again (ih (s0.1, x19.1, s0.2.2.1, false, true, x23))
        ·conv => arg 3; whnf
         refine sim_f rfl ?_
         conv => arg 3; whnf
         refine sim_f rfl ?_
         conv => arg 3; whnf
         refine sim_br rfl ?_ ?_
         ·conv => arg 3; whnf
          refine sim_br rfl ?_ ?_
          ·conv => arg 3; whnf
           refine sim_bind (g_slices_pdqsortCmpFunc_int__part_Order_1_e t0 s0.1 x19.1 s0.2.2.1 x19.2 m1_0) (hrc t0 s0.1 x19.1 s0.2.2.1 x19.2 m1_0) fun x24 hx24 => ?_
           conv => arg 3; whnf
           exact sim_again (ih ((w64 (x19.1 + 1)), s0.2.1, s0.2.2.1, true, false, x24))
          ·conv => arg 3; whnf
           refine sim_bind (g_slices_pdqsortCmpFunc_int__part_Order_1_e t0 s0.1 x19.1 s0.2.2.1 x19.2 m1_0) (hrc t0 s0.1 x19.1 s0.2.2.1 x19.2 m1_0) fun x25 hx25 => ?_
           conv => arg 3; whnf
           exact sim_again (ih ((w64 (x19.1 + 1)), s0.2.1, s0.2.2.1, false, false, x25))
         ·conv => arg 3; whnf
          refine sim_br rfl ?_ ?_
          ·conv => arg 3; whnf
           refine sim_bind (g_slices_pdqsortCmpFunc_int__part_Order_1_e t0 (w64 (x19.1 + 1)) s0.2.1 s0.2.2.1 x19.2 m1_0) (hrc t0 (w64 (x19.1 + 1)) s0.2.1 s0.2.2.1 x19.2 m1_0) fun x26 hx26 => ?_
           conv => arg 3; whnf
           exact sim_again (ih (s0.1, x19.1, s0.2.2.1, true, false, x26))
          ·conv => arg 3; whnf
           refine sim_bind (g_slices_pdqsortCmpFunc_int__part_Order_1_e t0 (w64 (x19.1 + 1)) s0.2.1 s0.2.2.1 x19.2 m1_0) (hrc t0 (w64 (x19.1 + 1)) s0.2.1 s0.2.2.1 x19.2 m1_0) fun x27 hx27 => ?_
           conv => arg 3; whnf
           exact sim_again (ih (s0.1, x19.1, s0.2.2.1, false, false, x27))
     ·conv => arg 3; whnf
      refine sim_br rfl ?_ ?_
      ·conv => arg 3; whnf
       refine sim_bind (g_slices_partialInsertionSortCmpFunc_int__part_Order_1_e t0 s0.1 s0.2.1 s0.2.2.2.2.2 m1_0) (g_slices_partialInsertionSortCmpFunc_int__part_Order_1_ok t0 s0.1 s0.2.1 s0.2.2.2.2.2 m1_0) fun x28 hx28 => ?_
       clear hx28
       rcases x28 with x28 | x28
       ·conv => arg 3; whnf
        exact sim_ret rfl
       ·conv => arg 3; whnf
        refine sim_br rfl ?_ ?_
        ·conv => arg 3; whnf
         refine sim_get (f := intD) rfl rfl fun x29 hx29 => ?_
         conv => arg 3; whnf
         refine sim_known (nth_of (f := intD) rfl hx29) ?_
         conv => arg 3; whnf
         refine sim_get (f := intD) rfl rfl fun x30 hx30 => ?_
         conv => arg 3; whnf
         refine sim_known (nth_of (f := intD) rfl hx30) ?_
         conv => arg 3; whnf
         refine sim_call g_part_Order_1_e (g_part_Order_1_ok t0 x29 x30 m1_0) rfl fun x31 hx31 => ?_
         conv => arg 3; whnf
         refine sim_br rfl ?_ ?_
         ·conv => arg 3; whnf
          refine sim_bind (g_slices_partitionCmpFunc_int__part_Order_1_e t0 s0.1 s0.2.1 x3.1 x28 m1_0) (g_slices_partitionCmpFunc_int__part_Order_1_ok t0 s0.1 s0.2.1 x3.1 x28 m1_0) fun x32 hx32 => ?_
          clear hx32
          rcases x32 with x32 | x32
          ·conv => arg 3; whnf
           refine sim_t rfl ?_
           conv => arg 3; whnf
           refine sim_f rfl ?_
           conv => arg 3; whnf
           refine sim_br rfl ?_ ?_
           ·conv => arg 3; whnf
            refine sim_br rfl ?_ ?_
            ·conv => arg 3; whnf
             refine sim_bind (g_slices_pdqsortCmpFunc_int__part_Order_1_e t0 s0.1 x32.1 s0.2.2.1 x32.2 m1_0) (hrc t0 s0.1 x32.1 s0.2.2.1 x32.2 m1_0) fun x33 hx33 => ?_
             conv => arg 3; whnf
             exact sim_again (ih ((w64 (x32.1 + 1)), s0.2.1, s0.2.2.1, true, true, x33))
            ·conv => arg 3; whnf
             refine sim_bind (g_slices_pdqsortCmpFunc_int__part_Order_1_e t0 s0.1 x32.1 s0.2.2.1 x32.2 m1_0) (hrc t0 s0.1 x32.1 s0.2.2.1 x32.2 m1_0) fun x34 hx34 => ?_
             conv => arg 3; whnf
             exact sim_again (ih ((w64 (x32.1 + 1)), s0.2.1, s0.2.2.1, false, true, x34))
           ·conv => arg 3; whnf
            refine sim_br rfl ?_ ?_
            ·conv => arg 3; whnf
             refine sim_bind (g_slices_pdqsortCmpFunc_int__part_Order_1_e t0 (w64 (x32.1 + 1)) s0.2.1 s0.2.2.1 x32.2 m1_0) (hrc t0 (w64 (x32.1 + 1)) s0.2.1 s0.2.2.1 x32.2 m1_0) fun x35 hx35 => ?_
             conv => arg 3; whnf
             exact sim_again (ih (s0.1, x32.1, s0.2.2.1, true, true, x35))
            ·conv => arg 3; whnf
             refine sim_bind (g_slices_pdqsortCmpFunc_int__part_Order_1_e t0 (w64 (x32.1 + 1)) s0.2.1 s0.2.2.1 x32.2 m1_0) (hrc t0 (w64 (x32.1 + 1)) s0.2.1 s0.2.2.1 x32.2 m1_0) fun x36 hx36 => ?_
             conv => arg 3; whnf
             exact sim_again (ih (s0.1, x32.1, s0.2.2.1, false, true, x36))
          ·conv => arg 3; whnf
           refine sim_f rfl ?_
           conv => arg 3; whnf
           refine sim_f rfl ?_
           conv => arg 3; whnf
           refine sim_br rfl ?_ ?_
           ·conv => arg 3; whnf
            refine sim_br rfl ?_ ?_
            ·conv => arg 3; whnf
             refine sim_bind (g_slices_pdqsortCmpFunc_int__part_Order_1_e t0 s0.1 x32.1 s0.2.2.1 x32.2 m1_0) (hrc t0 s0.1 x32.1 s0.2.2.1 x32.2 m1_0) fun x37 hx37 => ?_
             conv => arg 3; whnf
             exact sim_again (ih ((w64 (x32.1 + 1)), s0.2.1, s0.2.2.1, true, false, x37))
            ·conv => arg 3; whnf
             refine sim_bind (g_slices_pdqsortCmpFunc_int__part_Order_1_e t0 s0.1 x32.1 s0.2.2.1 x32.2 m1_0) (hrc t0 s0.1 x32.1 s0.2.2.1 x32.2 m1_0) fun x38 hx38 => ?_
             conv => arg 3; whnf
             exact sim_again (ih ((w64 (x32.1 + 1)), s0.2.1, s0.2.2.1, false, false, x38))
           ·conv => arg 3; whnf
            refine sim_br rfl ?_ ?_
            ·conv => arg 3; whnf
             refine sim_bind (g_slices_pdqsortCmpFunc_int__part_Order_1_e t0 (w64 (x32.1 + 1)) s0.2.1 s0.2.2.1 x32.2 m1_0) (hrc t0 (w64 (x32.1 + 1)) s0.2.1 s0.2.2.1 x32.2 m1_0) fun x39 hx39 => ?_
             conv => arg 3; whnf
             exact sim_again (ih (s0.1, x32.1, s0.2.2.1, true, false, x39))
            ·conv => arg 3; whnf
             refine sim_bind (g_slices_pdqsortCmpFunc_int__part_Order_1_e t0 (w64 (x32.1 + 1)) s0.2.1 s0.2.2.1 x32.2 m1_0) (hrc t0 (w64 (x32.1 + 1)) s0.2.1 s0.2.2.1 x32.2 m1_0) fun x40 hx40 => ?_
             conv => arg 3; whnf
             exact sim_again (ih (s0.1, x32.1, s0.2.2.1, false, false, x40))
         ·conv => arg 3; whnf
          refine sim_bind (g_slices_partitionEqualCmpFunc_int__part_Order_1_e t0 s0.1 s0.2.1 x3.1 x28 m1_0) (g_slices_partitionEqualCmpFunc_int__part_Order_1_ok t0 s0.1 s0.2.1 x3.1 x28 m1_0) fun x41 hx41 => ?_
          conv => arg 3; whnf
          exact sim_again (ih (x41.1, s0.2.1, s0.2.2.1, true, true, x41.2))
        ·conv => arg 3; whnf
         refine sim_bind (g_slices_partitionCmpFunc_int__part_Order_1_e t0 s0.1 s0.2.1 x3.1 x28 m1_0) (g_slices_partitionCmpFunc_int__part_Order_1_ok t0 s0.1 s0.2.1 x3.1 x28 m1_0) fun x42 hx42 => ?_
         clear hx42
         rcases x42 with x42 | x42
         ·conv => arg 3; whnf
          refine sim_t rfl ?_
          conv => arg 3; whnf
          refine sim_f rfl ?_
          conv => arg 3; whnf
          refine sim_br rfl ?_ ?_
          ·conv => arg 3; whnf
           refine sim_br rfl ?_ ?_
           ·conv => arg 3; whnf
            refine sim_bind (g_slices_pdqsortCmpFunc_int__part_Order_1_e t0 s0.1 x42.1 s0.2.2.1 x42.2 m1_0) (hrc t0 s0.1 x42.1 s0.2.2.1 x42.2 m1_0) fun x43 hx43 => ?_
            conv => arg 3; whnf
            exact sim_again (ih ((w64 (x42.1 + 1)), s0.2.1, s0.2.2.1, true, true, x43))
           ·conv => arg 3; whnf
            refine sim_bind (g_slices_pdqsortCmpFunc_int__part_Order_1_e t0 s0.1 x42.1 s0.2.2.1 x42.2 m1_0) (hrc t0 s0.1 x42.1 s0.2.2.1 x42.2 m1_0) fun x44 hx44 => ?_
            conv => arg 3; whnf
            exact sim_again (ih ((w64 (x42.1 + 1)), s0.2.1, s0.2.2.1, false, true, x44))
          ·conv => arg 3; whnf
           refine sim_br rfl ?_ ?_
           ·conv => arg 3; whnf
            refine sim_bind (g_slices_pdqsortCmpFunc_int__part_Order_1_e t0 (w64 (x42.1 + 1)) s0.2.1 s0.2.2.1 x42.2 m1_0) (hrc t0 (w64 (x42.1 + 1)) s0.2.1 s0.2.2.1 x42.2 m1_0) fun x45 hx45 => ?_
            conv => arg 3; whnf
            exact sim_again (ih (s0.1, x42.1, s0.2.2.1, true, true, x45))
           ·conv => arg 3; whnf
            refine sim_bind (g_slices_pdqsortCmpFunc_int__part_Order_1_e t0 (w64 (x42.1 + 1)) s0.2.1 s0.2.2.1 x42.2 m1_0) (hrc t0 (w64 (x42.1 + 1)) s0.2.1 s0.2.2.1 x42.2 m1_0) fun x46 hx46 => ?_
            conv => arg 3; whnf
            exact sim_again (ih (s0.1, x42.1, s0.2.2.1, false, true, x46))
         ·conv => arg 3; whnf
          refine sim_f rfl ?_
          conv => arg 3; whnf
          refine sim_f rfl ?_
          conv => arg 3; whnf
          refine sim_br rfl ?_ ?_
          ·conv => arg 3; whnf
           refine sim_br rfl ?_ ?_
           ·conv => arg 3; whnf
            refine sim_bind (g_slices_pdqsortCmpFunc_int__part_Order_1_e t0 s0.1 x42.1 s0.2.2.1 x42.2 m1_0) (hrc t0 s0.1 x42.1 s0.2.2.1 x42.2 m1_0) fun x47 hx47 => ?_
            conv => arg 3; whnf
            exact sim_again (ih ((w64 (x42.1 + 1)), s0.2.1, s0.2.2.1, true, false, x47))
           ·conv => arg 3; whnf
            refine sim_bind (g_slices_pdqsortCmpFunc_int__part_Order_1_e t0 s0.1 x42.1 s0.2.2.1 x42.2 m1_0) (hrc t0 s0.1 x42.1 s0.2.2.1 x42.2 m1_0) fun x48 hx48 => ?_
            conv => arg 3; whnf
            exact sim_again (ih ((w64 (x42.1 + 1)), s0.2.1, s0.2.2.1, false, false, x48))
          ·conv => arg 3; whnf
           refine sim_br rfl ?_ ?_
           ·conv => arg 3; whnf
            refine sim_bind (g_slices_pdqsortCmpFunc_int__part_Order_1_e t0 (w64 (x42.1 + 1)) s0.2.1 s0.2.2.1 x42.2 m1_0) (hrc t0 (w64 (x42.1 + 1)) s0.2.1 s0.2.2.1 x42.2 m1_0) fun x49 hx49 => ?_
            conv => arg 3; whnf
            exact sim_again (ih (s0.1, x42.1, s0.2.2.1, true, false, x49))
           ·conv => arg 3; whnf
            refine sim_bind (g_slices_pdqsortCmpFunc_int__part_Order_1_e t0 (w64 (x42.1 + 1)) s0.2.1 s0.2.2.1 x42.2 m1_0) (hrc t0 (w64 (x42.1 + 1)) s0.2.1 s0.2.2.1 x42.2 m1_0) fun x50 hx50 => ?_
            conv => arg 3; whnf
            exact sim_again (ih (s0.1, x42.1, s0.2.2.1, false, false, x50))
      ·conv => arg 3; whnf
       refine sim_br rfl ?_ ?_
       ·conv => arg 3; whnf
        refine sim_get (f := intD) rfl rfl fun x51 hx51 => ?_
        conv => arg 3; whnf
        refine sim_known (nth_of (f := intD) rfl hx51) ?_
        conv => arg 3; whnf
        refine sim_get (f := intD) rfl rfl fun x52 hx52 => ?_
        conv => arg 3; whnf
        refine sim_known (nth_of (f := intD) rfl hx52) ?_
        conv => arg 3; whnf
        refine sim_call g_part_Order_1_e (g_part_Order_1_ok t0 x51 x52 m1_0) rfl fun x53 hx53 => ?_
        conv => arg 3; whnf
        refine sim_br rfl ?_ ?_
        ·conv => arg 3; whnf
         refine sim_bind (g_slices_partitionCmpFunc_int__part_Order_1_e t0 s0.1 s0.2.1 x3.1 s0.2.2.2.2.2 m1_0) (g_slices_partitionCmpFunc_int__part_Order_1_ok t0 s0.1 s0.2.1 x3.1 s0.2.2.2.2.2 m1_0) fun x54 hx54 => ?_
         clear hx54
         rcases x54 with x54 | x54
         ·conv => arg 3; whnf
          refine sim_t rfl ?_
          conv => arg 3; whnf
          refine sim_f rfl ?_
          conv => arg 3; whnf
          refine sim_br rfl ?_ ?_
          ·conv => arg 3; whnf
           refine sim_br rfl ?_ ?_
           ·conv => arg 3; whnf
            refine sim_bind (g_slices_pdqsortCmpFunc_int__part_Order_1_e t0 s0.1 x54.1 s0.2.2.1 x54.2 m1_0) (hrc t0 s0.1 x54.1 s0.2.2.1 x54.2 m1_0) fun x55 hx55 => ?_
            conv => arg 3; whnf
            exact sim_again (ih ((w64 (x54.1 + 1)), s0.2.1, s0.2.2.1, true, true, x55))
           ·conv => arg 3; whnf
            refine sim_bind (g_slices_pdqsortCmpFunc_int__part_Order_1_e t0 s0.1 x54.1 s0.2.2.1 x54.2 m1_0) (hrc t0 s0.1 x54.1 s0.2.2.1 x54.2 m1_0) fun x56 hx56 => ?_
            conv => arg 3; whnf
            exact sim_again (ih ((w64 (x54.1 + 1)), s0.2.1, s0.2.2.1, false, true, x56))
          ·conv => arg 3; whnf
           refine sim_br rfl ?_ ?_
           ·conv => arg 3; whnf
            refine sim_bind (g_slices_pdqsortCmpFunc_int__part_Order_1_e t0 (w64 (x54.1 + 1)) s0.2.1 s0.2.2.1 x54.2 m1_0) (hrc t0 (w64 (x54.1 + 1)) s0.2.1 s0.2.2.1 x54.2 m1_0) fun x57 hx57 => ?_
            conv => arg 3; whnf
            exact sim_again (ih (s0.1, x54.1, s0.2.2.1, true, true, x57))
           ·conv => arg 3; whnf
            refine sim_bind (g_slices_pdqsortCmpFunc_int__part_Order_1_e t0 (w64 (x54.1 + 1)) s0.2.1 s0.2.2.1 x54.2 m1_0) (hrc t0 (w64 (x54.1 + 1)) s0.2.1 s0.2.2.1 x54.2 m1_0) fun x58 hx58 => ?_
            conv => arg 3; whnf
            exact sim_again (ih (s0.1, x54.1, s0.2.2.1, false, true, x58))
         ·conv => arg 3; whnf
          refine sim_f rfl ?_
          conv => arg 3; whnf
          refine sim_f rfl ?_
          conv => arg 3; whnf
          refine sim_br rfl ?_ ?_
          ·conv => arg 3; whnf
           refine sim_br rfl ?_ ?_
           ·conv => arg 3; whnf
            refine sim_bind (g_slices_pdqsortCmpFunc_int__part_Order_1_e t0 s0.1 x54.1 s0.2.2.1 x54.2 m1_0) (hrc t0 s0.1 x54.1 s0.2.2.1 x54.2 m1_0) fun x59 hx59 => ?_
            conv => arg 3; whnf
            exact sim_again (ih ((w64 (x54.1 + 1)), s0.2.1, s0.2.2.1, true, false, x59))
           ·conv => arg 3; whnf
            refine sim_bind (g_slices_pdqsortCmpFunc_int__part_Order_1_e t0 s0.1 x54.1 s0.2.2.1 x54.2 m1_0) (hrc t0 s0.1 x54.1 s0.2.2.1 x54.2 m1_0) fun x60 hx60 => ?_
            conv => arg 3; whnf
            exact sim_again (ih ((w64 (x54.1 + 1)), s0.2.1, s0.2.2.1, false, false, x60))
          ·conv => arg 3; whnf
           refine sim_br rfl ?_ ?_
           ·conv => arg 3; whnf
            refine sim_bind (g_slices_pdqsortCmpFunc_int__part_Order_1_e t0 (w64 (x54.1 + 1)) s0.2.1 s0.2.2.1 x54.2 m1_0) (hrc t0 (w64 (x54.1 + 1)) s0.2.1 s0.2.2.1 x54.2 m1_0) fun x61 hx61 => ?_
            conv => arg 3; whnf
            exact sim_again (ih (s0.1, x54.1, s0.2.2.1, true, false, x61))
           ·conv => arg 3; whnf
            refine sim_bind (g_slices_pdqsortCmpFunc_int__part_Order_1_e t0 (w64 (x54.1 + 1)) s0.2.1 s0.2.2.1 x54.2 m1_0) (hrc t0 (w64 (x54.1 + 1)) s0.2.1 s0.2.2.1 x54.2 m1_0) fun x62 hx62 => ?_
            conv => arg 3; whnf
            exact sim_again (ih (s0.1, x54.1, s0.2.2.1, false, false, x62))
        ·conv => arg 3; whnf
         refine sim_bind (g_slices_partitionEqualCmpFunc_int__part_Order_1_e t0 s0.1 s0.2.1 x3.1 s0.2.2.2.2.2 m1_0) (g_slices_partitionEqualCmpFunc_int__part_Order_1_ok t0 s0.1 s0.2.1 x3.1 s0.2.2.2.2.2 m1_0) fun x63 hx63 => ?_
         conv => arg 3; whnf
         exact sim_again (ih (x63.1, s0.2.1, s0.2.2.1, true, true, x63.2))
       ·conv => arg 3; whnf
        refine sim_bind (g_slices_partitionCmpFunc_int__part_Order_1_e t0 s0.1 s0.2.1 x3.1 s0.2.2.2.2.2 m1_0) (g_slices_partitionCmpFunc_int__part_Order_1_ok t0 s0.1 s0.2.1 x3.1 s0.2.2.2.2.2 m1_0) fun x64 hx64 => ?_
        clear hx64
        rcases x64 with x64 | x64
        ·conv => arg 3; whnf
         refine sim_t rfl ?_
         conv => arg 3; whnf
         refine sim_f rfl ?_
         conv => arg 3; whnf
         refine sim_br rfl ?_ ?_
         ·conv => arg 3; whnf
          refine sim_br rfl ?_ ?_
          ·conv => arg 3; whnf
           refine sim_bind (g_slices_pdqsortCmpFunc_int__part_Order_1_e t0 s0.1 x64.1 s0.2.2.1 x64.2 m1_0) (hrc t0 s0.1 x64.1 s0.2.2.1 x64.2 m1_0) fun x65 hx65 => ?_
           conv => arg 3; whnf
           exact sim_again (ih ((w64 (x64.1 + 1)), s0.2.1, s0.2.2.1, true, true, x65))
          ·conv => arg 3; whnf
           refine sim_bind (g_slices_pdqsortCmpFunc_int__part_Order_1_e t0 s0.1 x64.1 s0.2.2.1 x64.2 m1_0) (hrc t0 s0.1 x64.1 s0.2.2.1 x64.2 m1_0) fun x66 hx66 => ?_
           conv => arg 3; whnf
           exact sim_again (ih ((w64 (x64.1 + 1)), s0.2.1, s0.2.2.1, false, true, x66))
         ·conv => arg 3; whnf
          refine sim_br rfl ?_ ?_
          ·conv => arg 3; whnf
           refine sim_bind (g_slices_pdqsortCmpFunc_int__part_Order_1_e t0 (w64 (x64.1 + 1)) s0.2.1 s0.2.2.1 x64.2 m1_0) (hrc t0 (w64 (x64.1 + 1)) s0.2.1 s0.2.2.1 x64.2 m1_0) fun x67 hx67 => ?_
           conv => arg 3; whnf
           exact sim_again (ih (s0.1, x64.1, s0.2.2.1, true, true, x67))
          ·conv => arg 3; whnf
           refine sim_bind (g_slices_pdqsortCmpFunc_int__part_Order_1_e t0 (w64 (x64.1 + 1)) s0.2.1 s0.2.2.1 x64.2 m1_0) (hrc t0 (w64 (x64.1 + 1)) s0.2.1 s0.2.2.1 x64.2 m1_0) fun x68 hx68 => ?_
           conv => arg 3; whnf
           exact sim_again (ih (s0.1, x64.1, s0.2.2.1, false, true, x68))
        ·conv => arg 3; whnf
         refine sim_f rfl ?_
         conv => arg 3; whnf
         refine sim_f rfl ?_
         conv => arg 3; whnf
         refine sim_br rfl ?_ ?_
         ·conv => arg 3; whnf
          refine sim_br rfl ?_ ?_
          ·conv => arg 3; whnf
           refine sim_bind (g_slices_pdqsortCmpFunc_int__part_Order_1_e t0 s0.1 x64.1 s0.2.2.1 x64.2 m1_0) (hrc t0 s0.1 x64.1 s0.2.2.1 x64.2 m1_0) fun x69 hx69 => ?_
           conv => arg 3; whnf
           exact sim_again (ih ((w64 (x64.1 + 1)), s0.2.1, s0.2.2.1, true, false, x69))
          ·conv => arg 3; whnf
           refine sim_bind (g_slices_pdqsortCmpFunc_int__part_Order_1_e t0 s0.1 x64.1 s0.2.2.1 x64.2 m1_0) (hrc t0 s0.1 x64.1 s0.2.2.1 x64.2 m1_0) fun x70 hx70 => ?_
           conv => arg 3; whnf
           exact sim_again (ih ((w64 (x64.1 + 1)), s0.2.1, s0.2.2.1, false, false, x70))
         ·conv => arg 3; whnf
          refine sim_br rfl ?_ ?_
          ·conv => arg 3; whnf
           refine sim_bind (g_slices_pdqsortCmpFunc_int__part_Order_1_e t0 (w64 (x64.1 + 1)) s0.2.1 s0.2.2.1 x64.2 m1_0) (hrc t0 (w64 (x64.1 + 1)) s0.2.1 s0.2.2.1 x64.2 m1_0) fun x71 hx71 => ?_
           conv => arg 3; whnf
           exact sim_again (ih (s0.1, x64.1, s0.2.2.1, true, false, x71))
          ·conv => arg 3; whnf
           refine sim_bind (g_slices_pdqsortCmpFunc_int__part_Order_1_e t0 (w64 (x64.1 + 1)) s0.2.1 s0.2.2.1 x64.2 m1_0) (hrc t0 (w64 (x64.1 + 1)) s0.2.1 s0.2.2.1 x64.2 m1_0) fun x72 hx72 => ?_
           conv => arg 3; whnf
           exact sim_again (ih (s0.1, x64.1, s0.2.2.1, false, false, x72))

set_option maxRecDepth 100000 in
set_option maxHeartbeats 40000000 in
theorem g_slices_pdqsortCmpFunc_int__part_Order_1_b_ok (rc : Int → Int → Int → (Int → Int → Option Int) → (List Int) → Option (List Int)) (hrc : ∀ (t0 : Bool) (b : Int) (c : Int) (d : Int) (m0_0 : (List Int)) (m1_0 : (List ShapeT)) (r : (List Int)), rc b c d (fun z0 z1 => g_part_Order_1 z0 z1 m1_0) m0_0 = some r → evW ctx 84 [(.sl 0 1), (.d (intD b)), (.d (intD c)), (.d (intD d)), (.fn 73 [(.ptr 1 0)])] [(.arr 1 (List.map intD m0_0)), (.cells [(.d (D.list t0 (List.map shapeD m1_0)))])] = some ((g_slices_pdqsortCmpFunc_int__part_Order_1_e t0 b c d m0_0 m1_0) r)) (t0 : Bool) (b : Int) (c : Int) (d : Int) (m0_0 : (List Int)) (m1_0 : (List ShapeT)) : ∀ r, (g_slices_pdqsortCmpFunc_int_b rc b c d (fun z0 z1 => g_part_Order_1 z0 z1 m1_0) m0_0) = some r → evW ctx 84 [(.sl 0 1), (.d (intD b)), (.d (intD c)), (.d (intD d)), (.fn 73 [(.ptr 1 0)])] [(.arr 1 (List.map intD m0_0)), (.cells [(.d (D.list t0 (List.map shapeD m1_0)))])] = some ((g_slices_pdqsortCmpFunc_int__part_Order_1_e t0 b c d m0_0 m1_0) r) := by
 show Says _ (fun r rhs => rhs = some ((g_slices_pdqsortCmpFunc_int__part_Order_1_e t0 b c d m0_0 m1_0) r)) _
 unfold g_slices_pdqsortCmpFunc_int_b
 rw [evW_K ctx 84 fn84 _ _ rfl rfl]
 conv => arg 3; whnf
 refine sim_bind (g_slices_pdqsortCmpFunc_int__part_Order_1_L0_x t0 d m1_0 rc) (g_slices_pdqsortCmpFunc_int__part_Order_1_L0_ok t0 d m1_0 rc hrc (b, c, d, true, true, m0_0)) fun r219 hr219 => ?_
 conv => arg 3; whnf
 exact sim_ret rfl

theorem g_slices_pdqsortCmpFunc_int__part_Order_1_n_ok : ∀ (n : Nat) (t0 : Bool) (b : Int) (c : Int) (d : Int) (m0_0 : (List Int)) (m1_0 : (List ShapeT)) (r : (List Int)), g_slices_pdqsortCmpFunc_int_n n b c d (fun z0 z1 => g_part_Order_1 z0 z1 m1_0) m0_0 = some r → evW ctx 84 [(.sl 0 1), (.d (intD b)), (.d (intD c)), (.d (intD d)), (.fn 73 [(.ptr 1 0)])] [(.arr 1 (List.map intD m0_0)), (.cells [(.d (D.list t0 (List.map shapeD m1_0)))])] = some ((g_slices_pdqsortCmpFunc_int__part_Order_1_e t0 b c d m0_0 m1_0) r)
  | 0, t0, b, c, d, m0_0, m1_0, r, h => by cases h
  | n + 1, t0, b, c, d, m0_0, m1_0, r, h => g_slices_pdqsortCmpFunc_int__part_Order_1_b_ok (g_slices_pdqsortCmpFunc_int_n n) (g_slices_pdqsortCmpFunc_int__part_Order_1_n_ok n) t0 b c d m0_0 m1_0 r h

theorem g_slices_pdqsortCmpFunc_int__part_Order_1_ok (t0 : Bool) (b : Int) (c : Int) (d : Int) (m0_0 : (List Int)) (m1_0 : (List ShapeT)) : ∀ r, g_slices_pdqsortCmpFunc_int b c d (fun z0 z1 => g_part_Order_1 z0 z1 m1_0) m0_0 = some r → evW ctx 84 [(.sl 0 1), (.d (intD b)), (.d (intD c)), (.d (intD d)), (.fn 73 [(.ptr 1 0)])] [(.arr 1 (List.map intD m0_0)), (.cells [(.d (D.list t0 (List.map shapeD m1_0)))])] = some ((g_slices_pdqsortCmpFunc_int__part_Order_1_e t0 b c d m0_0 m1_0) r) := fun r h => by
  obtain ⟨n, hn⟩ := lim1_ex h
  exact g_slices_pdqsortCmpFunc_int__part_Order_1_n_ok n t0 b c d m0_0 m1_0 r hn
def g_slices_SortFunc_l_int_int__part_Order_1_e (t0 : Bool) (m0_0 : (List Int)) (m1_0 : (List ShapeT)) : (List Int) → V × Heap
  | r => ((.d (D.tup [])), [(.arr 1 (List.map intD r)), (.cells [(.d (D.list t0 (List.map shapeD m1_0)))])])

set_option maxRecDepth 100000 in
set_option maxHeartbeats 40000000 in
theorem g_slices_SortFunc_l_int_int__part_Order_1_ok (t0 : Bool) (m0_0 : (List Int)) (m1_0 : (List ShapeT)) : ∀ r, (g_slices_SortFunc_l_int_int (fun z0 z1 => g_part_Order_1 z0 z1 m1_0) m0_0) = some r → evW ctx 61 [(.sl 0 1), (.fn 73 [(.ptr 1 0)])] [(.arr 1 (List.map intD m0_0)), (.cells [(.d (D.list t0 (List.map shapeD m1_0)))])] = some ((g_slices_SortFunc_l_int_int__part_Order_1_e t0 m0_0 m1_0) r) := by
 show Says _ (fun r rhs => rhs = some ((g_slices_SortFunc_l_int_int__part_Order_1_e t0 m0_0 m1_0) r)) _
 unfold g_slices_SortFunc_l_int_int
 rw [evW_K ctx 61 fn61 _ _ rfl rfl]
 conv => arg 3; whnf
 refine sim_let (x' := (m0_0.length : Int)) (len_enc intD m0_0) ?_
 conv => arg 3; whnf
 refine sim_call g_math_bits_Len_e (g_math_bits_Len_ok (IntKind.u64.wrap (m0_0.length : Int))) rfl fun x0 hx0 => ?_
 conv => arg 3; whnf
 refine sim_bind (g_slices_pdqsortCmpFunc_int__part_Order_1_e t0 0 (m0_0.length : Int) x0 m0_0 m1_0) (g_slices_pdqsortCmpFunc_int__part_Order_1_ok t0 0 (m0_0.length : Int) x0 m0_0 m1_0) fun x1 hx1 => ?_
 conv => arg 3; whnf
 exact sim_ret rfl
def g_part_Order_e (r : (List Int)) : D := (D.list true (List.map intD r))

def g_part_Order_L0_x (t0 : Bool) (a : (List ShapeT)) : (List Int) → Ex × List V × Heap
  | r => (.exit 0, [(.ptr 0 0), (.sl 1 1)], [(.cells [(.d (D.list t0 (List.map shapeD a)))]), (.arr 1 (List.map intD r))])

set_option maxRecDepth 100000 in
set_option maxHeartbeats 40000000 in
theorem g_part_Order_L0_ok (t0 : Bool) (a : (List ShapeT)) : ∀ (s0 : Int × (List Int)) (r : (List Int)), lp (g_part_Order_L0 a) s0 = some r → lpW ctx 0 [1, 3, 6, 7] [1, 3] ir35L0 [(.ptr 0 0), (.sl 1 1), (.d (intD (a.length : Int))), (.d (intD s0.1))] [(.cells [(.d (D.list t0 (List.map shapeD a)))]), (.arr 1 (List.map intD s0.2))] = some ((g_part_Order_L0_x t0 a) r) := by
 refine lp_ok (g_part_Order_L0_x t0 a) ?_
 intro s0 rcl ih
 show Says _ _ (lpW _ _ _ _ _ _ _)
 unfold g_part_Order_L0
 rw [lpW_b]
 conv => arg 3; whnf
 refine sim_br rfl ?_ ?_
 ·conv => arg 3; whnf
  refine sim_t rfl ?_
  conv => arg 3; whnf
  refine sim_br (ble_enc intD s0.2 1) ?_ ?_
  ·conv => arg 3; whnf
   refine sim_let (app_enc intD s0.2 [s0.1]) ?_
   conv => arg 3; whnf
   exact sim_again (ih ((w64 (s0.1 + 1)), (s0.2 ++ [s0.1])))
  ·exact sim_none
 ·conv => arg 3; whnf
  exact sim_ret rfl

set_option maxRecDepth 100000 in
set_option maxHeartbeats 40000000 in
theorem g_part_Order_ok (t0 : Bool) (a : (List ShapeT)) : ∀ r, (g_part_Order a) = some r → evD ctx 35 [(.d (D.list t0 (List.map shapeD a)))] = some (g_part_Order_e r) := by
 show Says _ (fun r rhs => rhs = some (g_part_Order_e r)) _
 unfold g_part_Order
 rw [evD_K ctx 35 fn35 _ rfl rfl]
 conv => arg 3; whnf
 refine sim_let (x' := (a.length : Int)) (len_enc shapeD a) ?_
 conv => arg 3; whnf
 refine sim_bind (g_part_Order_L0_x t0 a) (g_part_Order_L0_ok t0 a (0, ([] : (List Int)))) fun r1 hr1 => ?_
 conv => arg 3; whnf
 refine sim_bind (g_slices_SortFunc_l_int_int__part_Order_1_e t0 r1 a) (g_slices_SortFunc_l_int_int__part_Order_1_ok t0 r1 a) fun x2 hx2 => ?_
 conv => arg 3; whnf
 exact sim_ret rfl
def g_part_On_e (r : (List ShapeT)) : D := (D.list true (List.map shapeD r))

def g_part_On_L0_x (t0 : Bool) (t1 : Bool) (a : (List ShapeT)) (b : (List Int)) (c : Int) : (List ShapeT) → Ex × List V × Heap
  | r => (.exit 0, [(.sl 0 5)], [(.arr 5 (List.map shapeD r))])

set_option maxRecDepth 100000 in
set_option maxHeartbeats 40000000 in
theorem g_part_On_L0_ok (t0 : Bool) (t1 : Bool) (a : (List ShapeT)) (b : (List Int)) (c : Int) : ∀ (s0 : Int × (List ShapeT)) (r : (List ShapeT)), lp (g_part_On_L0 a b c) s0 = some r → lpW ctx 0 [1, 2, 7, 10, 11, 12] [7] ir32L0 [(.d (D.list t1 (List.map intD b))), (.d (intD c)), (.sl 0 5), (.d (D.list t0 (List.map shapeD a))), (.d (intD (a.length : Int))), (.d (intD s0.1))] [(.arr 5 (List.map shapeD s0.2))] = some ((g_part_On_L0_x t0 t1 a b c) r) := by
 refine lp_ok (g_part_On_L0_x t0 t1 a b c) ?_
 intro s0 rcl ih
 show Says _ _ (lpW _ _ _ _ _ _ _)
 unfold g_part_On_L0
 rw [lpW_b]
 conv => arg 3; whnf
 refine sim_br rfl ?_ ?_
 ·conv => arg 3; whnf
  refine sim_get (f := shapeD) rfl rfl fun x1 hx1 => ?_
  conv => arg 3; whnf
  refine sim_let (x' := (b.length : Int)) (len_enc intD b) ?_
  conv => arg 3; whnf
  refine sim_br rfl ?_ ?_
  ·conv => arg 3; whnf
   refine sim_get (f := intD) rfl rfl fun x2 hx2 => ?_
   conv => arg 3; whnf
   refine sim_br rfl ?_ ?_
   ·conv => arg 3; whnf
    refine sim_t rfl ?_
    conv => arg 3; whnf
    refine sim_br (ble_enc shapeD s0.2 1) ?_ ?_
    ·conv => arg 3; whnf
     refine sim_let (app_enc shapeD s0.2 [x1]) ?_
     conv => arg 3; whnf
     exact sim_again (ih ((w64 (s0.1 + 1)), (s0.2 ++ [x1])))
    ·exact sim_none
   ·conv => arg 3; whnf
    exact sim_again (ih ((w64 (s0.1 + 1)), s0.2))
  ·conv => arg 3; whnf
   exact sim_again (ih ((w64 (s0.1 + 1)), s0.2))
 ·conv => arg 3; whnf
  exact sim_ret rfl

set_option maxRecDepth 100000 in
set_option maxHeartbeats 40000000 in
theorem g_part_On_ok (t0 : Bool) (t1 : Bool) (a : (List ShapeT)) (b : (List Int)) (c : Int) : ∀ r, (g_part_On a b c) = some r → evD ctx 32 [(.d (D.list t0 (List.map shapeD a))), (.d (D.list t1 (List.map intD b))), (.d (intD c))] = some (g_part_On_e r) := by
 show Says _ (fun r rhs => rhs = some (g_part_On_e r)) _
 unfold g_part_On
 rw [evD_K ctx 32 fn32 _ rfl rfl]
 conv => arg 3; whnf
 refine sim_let (x' := (a.length : Int)) (len_enc shapeD a) ?_
 conv => arg 3; whnf
 refine sim_bind (g_part_On_L0_x t0 t1 a b c) (g_part_On_L0_ok t0 t1 a b c (0, ([] : (List ShapeT)))) fun r3 hr3 => ?_
 conv => arg 3; whnf
 exact sim_ret rfl
def g_edf_Horizon_1_e (r : Int) : D := (intD r)

set_option maxRecDepth 100000 in
set_option maxHeartbeats 40000000 in
theorem g_edf_Horizon_1_ok (a : Int) (b : ShapeT) : ∀ r, (g_edf_Horizon_1 a b) = some r → evD ctx 87 [(.d (intD a)), (.d (D.agg [(intD b.total), (intD b.long), (intD b.most), (intD b.deadline), (intD b.period)]))] = some (g_edf_Horizon_1_e r) := by
 show Says _ (fun r rhs => rhs = some (g_edf_Horizon_1_e r)) _
 unfold g_edf_Horizon_1
 rw [evD_K ctx 87 fn87 _ rfl rfl]
 conv => arg 3; whnf
 exact sim_ret rfl
def g_edf_fold__edf_Horizon_1_e (r : Int) : D := (intD r)

def g_edf_fold__edf_Horizon_1_L0_x (t0 : Bool) (a : (List ShapeT)) : Int → Ex × List V × Heap
  | r => (.exit 0, [(.d (intD r))], [])

set_option maxRecDepth 100000 in
set_option maxHeartbeats 40000000 in
theorem g_edf_fold__edf_Horizon_1_L0_ok (t0 : Bool) (a : (List ShapeT)) : ∀ (s0 : Int × Int) (r : Int), lp (g_edf_fold_L0 a (fun z0 z1 => g_edf_Horizon_1 z0 z1)) s0 = some r → lpW ctx 0 [1, 5, 8, 9, 10] [5] ir86L0 [(.d (D.fn 87 [])), (.d (intD s0.1)), (.d (D.list t0 (List.map shapeD a))), (.d (intD (a.length : Int))), (.d (intD s0.2))] [] = some ((g_edf_fold__edf_Horizon_1_L0_x t0 a) r) := by
 refine lp_ok (g_edf_fold__edf_Horizon_1_L0_x t0 a) ?_
 intro s0 rcl ih
 show Says _ _ (lpW _ _ _ _ _ _ _)
 unfold g_edf_fold_L0
 rw [lpW_b]
 conv => arg 3; whnf
 refine sim_br rfl ?_ ?_
 ·conv => arg 3; whnf
  refine sim_get (f := shapeD) rfl rfl fun x1 hx1 => ?_
  conv => arg 3; whnf
  refine sim_call g_edf_Horizon_1_e (g_edf_Horizon_1_ok s0.1 x1) rfl fun x2 hx2 => ?_
  conv => arg 3; whnf
  exact sim_again (ih (x2, (w64 (s0.2 + 1))))
 ·conv => arg 3; whnf
  exact sim_ret rfl

set_option maxRecDepth 100000 in
set_option maxHeartbeats 40000000 in
theorem g_edf_fold__edf_Horizon_1_ok (t0 : Bool) (a : (List ShapeT)) : ∀ r, (g_edf_fold a (fun z0 z1 => g_edf_Horizon_1 z0 z1)) = some r → evD ctx 86 [(.d (D.list t0 (List.map shapeD a))), (.d (D.fn 87 []))] = some (g_edf_fold__edf_Horizon_1_e r) := by
 show Says _ (fun r rhs => rhs = some (g_edf_fold__edf_Horizon_1_e r)) _
 unfold g_edf_fold
 rw [evD_K ctx 86 fn86 _ rfl rfl]
 conv => arg 3; whnf
 refine sim_let (x' := (a.length : Int)) (len_enc shapeD a) ?_
 conv => arg 3; whnf
 refine sim_bind (g_edf_fold__edf_Horizon_1_L0_x t0 a) (g_edf_fold__edf_Horizon_1_L0_ok t0 a (0, 0)) fun r3 hr3 => ?_
 conv => arg 3; whnf
 exact sim_ret rfl
def g_edf_Horizon_e (r : Int) : D := (intD r)

set_option maxRecDepth 100000 in
set_option maxHeartbeats 40000000 in
theorem g_edf_Horizon_ok (t0 : Bool) (a : (List ShapeT)) : ∀ r, (g_edf_Horizon a) = some r → evD ctx 65 [(.d (D.list t0 (List.map shapeD a)))] = some (g_edf_Horizon_e r) := by
 show Says _ (fun r rhs => rhs = some (g_edf_Horizon_e r)) _
 unfold g_edf_Horizon
 rw [evD_K ctx 65 fn65 _ rfl rfl]
 conv => arg 3; whnf
 refine sim_call g_edf_Check_e (g_edf_Check_ok t0 a) rfl fun x0 hx0 => ?_
 conv => arg 3; whnf
 refine sim_br rfl ?_ ?_
 ·conv => arg 3; whnf
  exact sim_ret rfl
 ·conv => arg 3; whnf
  refine sim_call g_edf_fold__edf_Horizon_1_e (g_edf_fold__edf_Horizon_1_ok t0 a) rfl fun x1 hx1 => ?_
  conv => arg 3; whnf
  exact sim_ret rfl
def g_edf_demand_1_e (r : Int) : D := (intD r)

set_option maxRecDepth 100000 in
set_option maxHeartbeats 40000000 in
theorem g_edf_demand_1_ok (a : Int) (b : ShapeT) (c0 : Int) : ∀ r, (g_edf_demand_1 a b c0) = some r → evD ctx 88 [(.d (intD a)), (.d (D.agg [(intD b.total), (intD b.long), (intD b.most), (intD b.deadline), (intD b.period)])), (.d (D.rptr [(intD c0)]))] = some (g_edf_demand_1_e r) := by
 show Says _ (fun r rhs => rhs = some (g_edf_demand_1_e r)) _
 unfold g_edf_demand_1
 rw [evD_K ctx 88 fn88 _ rfl rfl]
 conv => arg 3; whnf
 refine sim_br rfl ?_ ?_
 ·conv => arg 3; whnf
  exact sim_ret rfl
 ·conv => arg 3; whnf
  refine sim_br rfl ?_ ?_
  ·exact sim_none
  ·conv => arg 3; whnf
   exact sim_ret rfl
def g_edf_fold__edf_demand_1_e (r : Int) : D := (intD r)

def g_edf_fold__edf_demand_1_L0_x (t0 : Bool) (a : (List ShapeT)) (b0 : Int) : Int → Ex × List V × Heap
  | r => (.exit 0, [(.d (intD r))], [])

set_option maxRecDepth 100000 in
set_option maxHeartbeats 40000000 in
theorem g_edf_fold__edf_demand_1_L0_ok (t0 : Bool) (a : (List ShapeT)) (b0 : Int) : ∀ (s0 : Int × Int) (r : Int), lp (g_edf_fold_L0 a (fun z0 z1 => g_edf_demand_1 z0 z1 b0)) s0 = some r → lpW ctx 0 [1, 5, 8, 9, 10] [5] ir86L0 [(.d (D.fn 88 [(D.rptr [(intD b0)])])), (.d (intD s0.1)), (.d (D.list t0 (List.map shapeD a))), (.d (intD (a.length : Int))), (.d (intD s0.2))] [] = some ((g_edf_fold__edf_demand_1_L0_x t0 a b0) r) := by
 refine lp_ok (g_edf_fold__edf_demand_1_L0_x t0 a b0) ?_
 intro s0 rcl ih
 show Says _ _ (lpW _ _ _ _ _ _ _)
 unfold g_edf_fold_L0
 rw [lpW_b]
 conv => arg 3; whnf
 refine sim_br rfl ?_ ?_
 ·conv => arg 3; whnf
  refine sim_get (f := shapeD) rfl rfl fun x1 hx1 => ?_
  conv => arg 3; whnf
  refine sim_call g_edf_demand_1_e (g_edf_demand_1_ok s0.1 x1 b0) rfl fun x2 hx2 => ?_
  conv => arg 3; whnf
  exact sim_again (ih (x2, (w64 (s0.2 + 1))))
 ·conv => arg 3; whnf
  exact sim_ret rfl

set_option maxRecDepth 100000 in
set_option maxHeartbeats 40000000 in
theorem g_edf_fold__edf_demand_1_ok (t0 : Bool) (a : (List ShapeT)) (b0 : Int) : ∀ r, (g_edf_fold a (fun z0 z1 => g_edf_demand_1 z0 z1 b0)) = some r → evD ctx 86 [(.d (D.list t0 (List.map shapeD a))), (.d (D.fn 88 [(D.rptr [(intD b0)])]))] = some (g_edf_fold__edf_demand_1_e r) := by
 show Says _ (fun r rhs => rhs = some (g_edf_fold__edf_demand_1_e r)) _
 unfold g_edf_fold
 rw [evD_K ctx 86 fn86 _ rfl rfl]
 conv => arg 3; whnf
 refine sim_let (x' := (a.length : Int)) (len_enc shapeD a) ?_
 conv => arg 3; whnf
 refine sim_bind (g_edf_fold__edf_demand_1_L0_x t0 a b0) (g_edf_fold__edf_demand_1_L0_ok t0 a b0 (0, 0)) fun r3 hr3 => ?_
 conv => arg 3; whnf
 exact sim_ret rfl
def g_edf_demand_e (r : Int) : D := (intD r)

set_option maxRecDepth 100000 in
set_option maxHeartbeats 40000000 in
theorem g_edf_demand_ok (t0 : Bool) (a : (List ShapeT)) (b : Int) : ∀ r, (g_edf_demand a b) = some r → evD ctx 66 [(.d (D.list t0 (List.map shapeD a))), (.d (intD b))] = some (g_edf_demand_e r) := by
 show Says _ (fun r rhs => rhs = some (g_edf_demand_e r)) _
 unfold g_edf_demand
 rw [evD_K ctx 66 fn66 _ rfl rfl]
 conv => arg 3; whnf
 refine sim_call g_edf_fold__edf_demand_1_e (g_edf_fold__edf_demand_1_ok t0 a b) rfl fun x0 hx0 => ?_
 conv => arg 3; whnf
 exact sim_ret rfl
def g_edf_block_1_e (r : Int) : D := (intD r)

set_option maxRecDepth 100000 in
set_option maxHeartbeats 40000000 in
theorem g_edf_block_1_ok (a : Int) (b : ShapeT) (c0 : Int) : ∀ r, (g_edf_block_1 a b c0) = some r → evD ctx 89 [(.d (intD a)), (.d (D.agg [(intD b.total), (intD b.long), (intD b.most), (intD b.deadline), (intD b.period)])), (.d (D.rptr [(intD c0)]))] = some (g_edf_block_1_e r) := by
 show Says _ (fun r rhs => rhs = some (g_edf_block_1_e r)) _
 unfold g_edf_block_1
 rw [evD_K ctx 89 fn89 _ rfl rfl]
 conv => arg 3; whnf
 refine sim_br rfl ?_ ?_
 ·conv => arg 3; whnf
  exact sim_ret rfl
 ·conv => arg 3; whnf
  exact sim_ret rfl
def g_edf_fold__edf_block_1_e (r : Int) : D := (intD r)

def g_edf_fold__edf_block_1_L0_x (t0 : Bool) (a : (List ShapeT)) (b0 : Int) : Int → Ex × List V × Heap
  | r => (.exit 0, [(.d (intD r))], [])

set_option maxRecDepth 100000 in
set_option maxHeartbeats 40000000 in
theorem g_edf_fold__edf_block_1_L0_ok (t0 : Bool) (a : (List ShapeT)) (b0 : Int) : ∀ (s0 : Int × Int) (r : Int), lp (g_edf_fold_L0 a (fun z0 z1 => g_edf_block_1 z0 z1 b0)) s0 = some r → lpW ctx 0 [1, 5, 8, 9, 10] [5] ir86L0 [(.d (D.fn 89 [(D.rptr [(intD b0)])])), (.d (intD s0.1)), (.d (D.list t0 (List.map shapeD a))), (.d (intD (a.length : Int))), (.d (intD s0.2))] [] = some ((g_edf_fold__edf_block_1_L0_x t0 a b0) r) := by
 refine lp_ok (g_edf_fold__edf_block_1_L0_x t0 a b0) ?_
 intro s0 rcl ih
 show Says _ _ (lpW _ _ _ _ _ _ _)
 unfold g_edf_fold_L0
 rw [lpW_b]
 conv => arg 3; whnf
 refine sim_br rfl ?_ ?_
 ·conv => arg 3; whnf
  refine sim_get (f := shapeD) rfl rfl fun x1 hx1 => ?_
  conv => arg 3; whnf
  refine sim_call g_edf_block_1_e (g_edf_block_1_ok s0.1 x1 b0) rfl fun x2 hx2 => ?_
  conv => arg 3; whnf
  exact sim_again (ih (x2, (w64 (s0.2 + 1))))
 ·conv => arg 3; whnf
  exact sim_ret rfl

set_option maxRecDepth 100000 in
set_option maxHeartbeats 40000000 in
theorem g_edf_fold__edf_block_1_ok (t0 : Bool) (a : (List ShapeT)) (b0 : Int) : ∀ r, (g_edf_fold a (fun z0 z1 => g_edf_block_1 z0 z1 b0)) = some r → evD ctx 86 [(.d (D.list t0 (List.map shapeD a))), (.d (D.fn 89 [(D.rptr [(intD b0)])]))] = some (g_edf_fold__edf_block_1_e r) := by
 show Says _ (fun r rhs => rhs = some (g_edf_fold__edf_block_1_e r)) _
 unfold g_edf_fold
 rw [evD_K ctx 86 fn86 _ rfl rfl]
 conv => arg 3; whnf
 refine sim_let (x' := (a.length : Int)) (len_enc shapeD a) ?_
 conv => arg 3; whnf
 refine sim_bind (g_edf_fold__edf_block_1_L0_x t0 a b0) (g_edf_fold__edf_block_1_L0_ok t0 a b0 (0, 0)) fun r3 hr3 => ?_
 conv => arg 3; whnf
 exact sim_ret rfl
def g_edf_block_e (r : Int) : D := (intD r)

set_option maxRecDepth 100000 in
set_option maxHeartbeats 40000000 in
theorem g_edf_block_ok (t0 : Bool) (a : (List ShapeT)) (b : Int) : ∀ r, (g_edf_block a b) = some r → evD ctx 67 [(.d (D.list t0 (List.map shapeD a))), (.d (intD b))] = some (g_edf_block_e r) := by
 show Says _ (fun r rhs => rhs = some (g_edf_block_e r)) _
 unfold g_edf_block
 rw [evD_K ctx 67 fn67 _ rfl rfl]
 conv => arg 3; whnf
 refine sim_call g_edf_fold__edf_block_1_e (g_edf_fold__edf_block_1_ok t0 a b) rfl fun x0 hx0 => ?_
 conv => arg 3; whnf
 exact sim_ret rfl
def g_edf_Fits_e (r : Bool) : D := (D.bool r)

def g_edf_Fits_L0_x (t0 : Bool) (a : (List ShapeT)) (s1 : Int) (x2 : ShapeT) : (Unit ⊕ Unit) → Ex × List V × Heap
  | (.inl r) => (.ret, [(.d (D.list t0 (List.map shapeD a))), (.d (D.bool false)), (.d (D.list t0 (List.map shapeD a))), (.d (intD (a.length : Int))), (.d (intD s1))], [])
  | (.inr r) => (.exit 2, [(.d (D.list t0 (List.map shapeD a))), .bad, (.d (D.list t0 (List.map shapeD a))), (.d (intD (a.length : Int))), (.d (intD s1))], [])

set_option maxRecDepth 100000 in
set_option maxHeartbeats 40000000 in
theorem g_edf_Fits_L0_ok (t0 : Bool) (a : (List ShapeT)) (s1 : Int) (x2 : ShapeT) : ∀ (s3 : Int) (r : (Unit ⊕ Unit)), lp (g_edf_Fits_L0 a x2) s3 = some r → lpW ctx 0 [0, 4, 5, 9, 10, 11] [0, 2, 9, 10, 11] ir31L0 [(.d (D.list t0 (List.map shapeD a))), (.ptr 0 0), (.d (intD s3)), (.d (D.list t0 (List.map shapeD a))), (.d (intD (a.length : Int))), (.d (intD s1))] [(.cells [(.d (intD x2.total)), (.d (intD x2.long)), (.d (intD x2.most)), (.d (intD x2.deadline)), (.d (intD x2.period))])] = some ((g_edf_Fits_L0_x t0 a s1 x2) r) := by
 refine lp_ok (g_edf_Fits_L0_x t0 a s1 x2) ?_
 intro s3 rcl ih
 show Says _ _ (lpW _ _ _ _ _ _ _)
 unfold g_edf_Fits_L0
 rw [lpW_b]
 conv => arg 3; whnf
 refine sim_call g_edf_Horizon_e (g_edf_Horizon_ok t0 a) rfl fun x4 hx4 => ?_
 conv => arg 3; whnf
 refine sim_br rfl ?_ ?_
 ·conv => arg 3; whnf
  refine sim_call g_edf_demand_e (g_edf_demand_ok t0 a s3) rfl fun x5 hx5 => ?_
  conv => arg 3; whnf
  refine sim_call g_edf_block_e (g_edf_block_ok t0 a s3) rfl fun x6 hx6 => ?_
  conv => arg 3; whnf
  refine sim_br rfl ?_ ?_
  ·conv => arg 3; whnf
   exact sim_ret rfl
  ·conv => arg 3; whnf
   exact sim_again (ih (w64 (s3 + x2.period)))
 ·conv => arg 3; whnf
  exact sim_ret rfl

def g_edf_Fits_L1_x (t0 : Bool) (a : (List ShapeT)) : (Unit ⊕ Unit) → Ex × List V × Heap
  | (.inl r) => (.ret, [(.d (D.bool false))], [])
  | (.inr r) => (.exit 0, [.bad], [])

set_option maxRecDepth 100000 in
set_option maxHeartbeats 40000000 in
theorem g_edf_Fits_L1_ok (t0 : Bool) (a : (List ShapeT)) : ∀ (s1 : Int) (r : (Unit ⊕ Unit)), lp (g_edf_Fits_L1 a) s1 = some r → lpW ctx 0 [0, 9, 10, 11] [2] ir31L1 [(.d (D.list t0 (List.map shapeD a))), (.d (D.list t0 (List.map shapeD a))), (.d (intD (a.length : Int))), (.d (intD s1))] [] = some ((g_edf_Fits_L1_x t0 a) r) := by
 refine lp_ok (g_edf_Fits_L1_x t0 a) ?_
 intro s1 rcl ih
 show Says _ _ (lpW _ _ _ _ _ _ _)
 unfold g_edf_Fits_L1
 rw [lpW_b]
 conv => arg 3; whnf
 refine sim_br rfl ?_ ?_
 ·conv => arg 3; whnf
  refine sim_get (f := shapeD) rfl rfl fun x2 hx2 => ?_
  conv => arg 3; whnf
  refine sim_bind (g_edf_Fits_L0_x t0 a s1 x2) (g_edf_Fits_L0_ok t0 a s1 x2 x2.deadline) fun r7 hr7 => ?_
  clear hr7
  rcases r7 with r7 | r7
  ·conv => arg 3; whnf
   exact sim_ret rfl
  ·conv => arg 3; whnf
   exact sim_again (ih (w64 (s1 + 1)))
 ·conv => arg 3; whnf
  exact sim_ret rfl

set_option maxRecDepth 100000 in
set_option maxHeartbeats 40000000 in
theorem g_edf_Fits_ok (t0 : Bool) (a : (List ShapeT)) : ∀ r, (g_edf_Fits a) = some r → evD ctx 31 [(.d (D.list t0 (List.map shapeD a)))] = some (g_edf_Fits_e r) := by
 show Says _ (fun r rhs => rhs = some (g_edf_Fits_e r)) _
 unfold g_edf_Fits
 rw [evD_K ctx 31 fn31 _ rfl rfl]
 conv => arg 3; whnf
 refine sim_call g_edf_Check_e (g_edf_Check_ok t0 a) rfl fun x0 hx0 => ?_
 conv => arg 3; whnf
 refine sim_br rfl ?_ ?_
 ·conv => arg 3; whnf
  exact sim_ret rfl
 ·conv => arg 3; whnf
  refine sim_let (x' := (a.length : Int)) (len_enc shapeD a) ?_
  conv => arg 3; whnf
  refine sim_bind (g_edf_Fits_L1_x t0 a) (g_edf_Fits_L1_ok t0 a 0) fun r8 hr8 => ?_
  clear hr8
  rcases r8 with r8 | r8
  ·conv => arg 3; whnf
   exact sim_ret rfl
  ·conv => arg 3; whnf
   exact sim_ret rfl
def g_part_Place_1_e (t0 : Bool) (a : Int) (m1_0 : Int) (m2_0 : (List ShapeT)) (m3_0 : (List Int)) : (Unit ⊕ Unit) → V × Heap
  | (.inl r) => ((.d (D.bool true)), [(.cells [(.sl 3 1)]), (.cells [(.d (intD m1_0))]), (.cells [(.d (D.list t0 (List.map shapeD m2_0)))]), (.arr 1 (List.map intD (List.set m3_0 m1_0.toNat a)))])
  | (.inr r) => ((.d (D.bool false)), [(.cells [(.sl 3 1)]), (.cells [(.d (intD m1_0))]), (.cells [(.d (D.list t0 (List.map shapeD m2_0)))]), (.arr 1 (List.map intD (List.set m3_0 m1_0.toNat a)))])

set_option maxRecDepth 100000 in
set_option maxHeartbeats 40000000 in
theorem g_part_Place_1_ok (t0 : Bool) (a : Int) (m1_0 : Int) (m2_0 : (List ShapeT)) (m3_0 : (List Int)) : ∀ r, (g_part_Place_1 a m1_0 m2_0 m3_0) = some r → evW ctx 64 [(.d (intD a)), (.ptr 0 0), (.ptr 1 0), (.ptr 2 0)] [(.cells [(.sl 3 1)]), (.cells [(.d (intD m1_0))]), (.cells [(.d (D.list t0 (List.map shapeD m2_0)))]), (.arr 1 (List.map intD m3_0))] = some ((g_part_Place_1_e t0 a m1_0 m2_0 m3_0) r) := by
 show Says _ (fun r rhs => rhs = some ((g_part_Place_1_e t0 a m1_0 m2_0 m3_0) r)) _
 unfold g_part_Place_1
 rw [evW_K ctx 64 fn64 _ _ rfl rfl]
 conv => arg 3; whnf
 refine sim_get (f := intD) rfl rfl fun x0 hx0 => ?_
 conv => arg 3; whnf
 refine sim_known (nth_of (f := intD) rfl hx0) ?_
 conv => arg 3; whnf
 refine sim_let (set_enc intD m3_0 m1_0.toNat a) ?_
 conv => arg 3; whnf
 refine sim_call g_part_On_e (g_part_On_ok t0 false m2_0 (List.set m3_0 m1_0.toNat a) a) rfl fun x1 hx1 => ?_
 conv => arg 3; whnf
 refine sim_call g_edf_Fits_e (g_edf_Fits_ok true x1) rfl fun x2 hx2 => ?_
 conv => arg 3; whnf
 refine sim_br rfl ?_ ?_
 ·conv => arg 3; whnf
  exact sim_ret rfl
 ·conv => arg 3; whnf
  exact sim_ret rfl
def g_part_Place_e (r : ((List Int) × Int)) : D := (D.tup [(D.list true (List.map intD r.1)), (intD r.2)])

def g_part_Place_L0_x (t0 : Bool) (a : (List ShapeT)) (b : Int) : (List Int) → Ex × List V × Heap
  | r => (.exit 0, [(.d (intD b)), (.ptr 0 0), (.ptr 1 0)], [(.cells [(.d (D.list t0 (List.map shapeD a)))]), (.cells [(.sl 2 1)]), (.arr 1 (List.map intD r))])

set_option maxRecDepth 100000 in
set_option maxHeartbeats 40000000 in
theorem g_part_Place_L0_ok (t0 : Bool) (a : (List ShapeT)) (b : Int) : ∀ (s2 : Int × (List Int)) (r : (List Int)), lp (g_part_Place_L0 a) s2 = some r → lpW ctx 0 [1, 2, 6, 24, 25] [1, 2, 6] ir29L0 [(.d (intD b)), (.ptr 0 0), (.ptr 1 0), (.d (intD (List.length (List.replicate (a.length : Int).toNat (0 : Int)) : Int))), (.d (intD s2.1))] [(.cells [(.d (D.list t0 (List.map shapeD a)))]), (.cells [(.sl 2 1)]), (.arr 1 (List.map intD s2.2))] = some ((g_part_Place_L0_x t0 a b) r) := by
 refine lp_ok (g_part_Place_L0_x t0 a b) ?_
 intro s2 rcl ih
 show Says _ _ (lpW _ _ _ _ _ _ _)
 unfold g_part_Place_L0
 rw [lpW_b]
 conv => arg 3; whnf
 refine sim_br rfl ?_ ?_
 ·conv => arg 3; whnf
  refine sim_get (f := intD) rfl rfl fun x3 hx3 => ?_
  conv => arg 3; whnf
  refine sim_known (nth_of (f := intD) rfl hx3) ?_
  conv => arg 3; whnf
  refine sim_let (set_enc intD s2.2 s2.1.toNat (-1)) ?_
  conv => arg 3; whnf
  exact sim_again (ih ((w64 (s2.1 + 1)), (List.set s2.2 s2.1.toNat (-1))))
 ·conv => arg 3; whnf
  exact sim_ret rfl

def g_part_Place_L1_x (t0 : Bool) (a : (List ShapeT)) (b : Int) (x5 : (List Int)) (s6 : Int × (List Int)) (x7 : Int) : ((List Int) ⊕ (List Int)) → Ex × List V × Heap
  | (.inl r) => (.exit 3, [(.d (intD b)), (.ptr 0 0), (.ptr 1 0), (.d (D.list true (List.map intD x5))), (.d (intD (x5.length : Int))), (.d (intD s6.1))], [(.cells [(.d (D.list t0 (List.map shapeD a)))]), (.cells [(.sl 2 1)]), (.arr 1 (List.map intD r))])
  | (.inr r) => (.exit 4, [(.d (intD b)), (.ptr 0 0), (.ptr 1 0), (.d (D.list true (List.map intD x5))), (.d (intD (x5.length : Int))), (.d (intD s6.1))], [(.cells [(.d (D.list t0 (List.map shapeD a)))]), (.cells [(.sl 2 1)]), (.arr 1 (List.map intD r))])

set_option maxRecDepth 100000 in
set_option maxHeartbeats 40000000 in
theorem g_part_Place_L1_ok (t0 : Bool) (a : (List ShapeT)) (b : Int) (x5 : (List Int)) (s6 : Int × (List Int)) (x7 : Int) : ∀ (s8 : Int × (List Int)) (r : ((List Int) ⊕ (List Int))), lp (g_part_Place_L1 a b x7) s8 = some r → lpW ctx 0 [1, 2, 6, 10, 33, 34, 35, 40, 41] [1, 2, 6, 33, 34, 35] ir29L1 [(.d (intD b)), (.ptr 0 0), (.ptr 1 0), (.fn 64 [(.ptr 1 0), (.ptr 2 0), (.ptr 0 0)]), (.d (D.list true (List.map intD x5))), (.d (intD (x5.length : Int))), (.d (intD s6.1)), (.d (intD b)), (.d (intD s8.1))] [(.cells [(.d (D.list t0 (List.map shapeD a)))]), (.cells [(.sl 3 1)]), (.cells [(.d (intD x7))]), (.arr 1 (List.map intD s8.2))] = some ((g_part_Place_L1_x t0 a b x5 s6 x7) r) := by
 refine lp_ok (g_part_Place_L1_x t0 a b x5 s6 x7) ?_
 intro s8 rcl ih
 show Says _ _ (lpW _ _ _ _ _ _ _)
 unfold g_part_Place_L1
 rw [lpW_b]
 conv => arg 3; whnf
 refine sim_br rfl ?_ ?_
 ·conv => arg 3; whnf
  refine sim_bind (g_part_Place_1_e t0 s8.1 x7 a s8.2) (g_part_Place_1_ok t0 s8.1 x7 a s8.2) fun x9 hx9 => ?_
  clear hx9
  rcases x9 with x9 | x9
  ·conv => arg 3; whnf
   exact sim_ret rfl
  ·conv => arg 3; whnf
   exact sim_again (ih ((w64 (s8.1 + 1)), (List.set s8.2 x7.toNat s8.1)))
 ·conv => arg 3; whnf
  exact sim_ret rfl

def g_part_Place_L2_x (t0 : Bool) (a : (List ShapeT)) (b : Int) (x5 : (List Int)) : ((List Int) ⊕ (List Int)) → Ex × List V × Heap
  | (.inl r) => (.ret, [(.nilsl 1), (.d (intD 161)), (.ptr 0 0)], [(.cells [(.sl 1 1)]), (.arr 1 (List.map intD r))])
  | (.inr r) => (.exit 2, [.bad, .bad, (.ptr 0 0)], [(.cells [(.sl 1 1)]), (.arr 1 (List.map intD r))])

set_option maxRecDepth 100000 in
set_option maxHeartbeats 40000000 in
theorem g_part_Place_L2_ok (t0 : Bool) (a : (List ShapeT)) (b : Int) (x5 : (List Int)) : ∀ (s6 : Int × (List Int)) (r : ((List Int) ⊕ (List Int))), lp (g_part_Place_L2 a b x5) s6 = some r → lpW ctx 0 [1, 2, 6, 33, 34, 35] [4, 5, 6] ir29L2 [(.d (intD b)), (.ptr 0 0), (.ptr 1 0), (.d (D.list true (List.map intD x5))), (.d (intD (x5.length : Int))), (.d (intD s6.1))] [(.cells [(.d (D.list t0 (List.map shapeD a)))]), (.cells [(.sl 2 1)]), (.arr 1 (List.map intD s6.2))] = some ((g_part_Place_L2_x t0 a b x5) r) := by
 refine lp_ok (g_part_Place_L2_x t0 a b x5) ?_
 intro s6 rcl ih
 show Says _ _ (lpW _ _ _ _ _ _ _)
 unfold g_part_Place_L2
 rw [lpW_b]
 conv => arg 3; whnf
 refine sim_br rfl ?_ ?_
 ·conv => arg 3; whnf
  refine sim_get (f := intD) rfl rfl fun x7 hx7 => ?_
  conv => arg 3; whnf
  refine sim_bind (g_part_Place_L1_x t0 a b x5 s6 x7) (g_part_Place_L1_ok t0 a b x5 s6 x7 (0, s6.2)) fun r10 hr10 => ?_
  clear hr10
  rcases r10 with r10 | r10
  ·conv => arg 3; whnf
   exact sim_again (ih ((w64 (s6.1 + 1)), r10))
  ·conv => arg 3; whnf
   exact sim_ret rfl
 ·conv => arg 3; whnf
  exact sim_ret rfl

set_option maxRecDepth 100000 in
set_option maxHeartbeats 40000000 in
theorem g_part_Place_ok (t0 : Bool) (a : (List ShapeT)) (b : Int) : ∀ r, (g_part_Place a b) = some r → evD ctx 29 [(.d (D.list t0 (List.map shapeD a))), (.d (intD b))] = some (g_part_Place_e r) := by
 show Says _ (fun r rhs => rhs = some (g_part_Place_e r)) _
 unfold g_part_Place
 rw [evD_K ctx 29 fn29 _ rfl rfl]
 conv => arg 3; whnf
 refine sim_call g_edf_Check_e (g_edf_Check_ok t0 a) rfl fun x0 hx0 => ?_
 conv => arg 3; whnf
 refine sim_br rfl ?_ ?_
 ·conv => arg 3; whnf
  exact sim_ret rfl
 ·conv => arg 3; whnf
  refine sim_call g_part_within_e (g_part_within_ok b) rfl fun x1 hx1 => ?_
  conv => arg 3; whnf
  refine sim_br rfl ?_ ?_
  ·conv => arg 3; whnf
   refine sim_let (x' := (a.length : Int)) (len_enc shapeD a) ?_
   conv => arg 3; whnf
   refine sim_br rfl ?_ ?_
   ·conv => arg 3; whnf
    refine sim_let (rep_enc intD (0 : Int) (a.length : Int)) ?_
    conv => arg 3; whnf
    refine sim_let (x' := (List.length (List.replicate (a.length : Int).toNat (0 : Int)) : Int)) (len_enc intD (List.replicate (a.length : Int).toNat (0 : Int))) ?_
    conv => arg 3; whnf
    refine sim_bind (g_part_Place_L0_x t0 a b) (g_part_Place_L0_ok t0 a b (0, (List.replicate (a.length : Int).toNat (0 : Int)))) fun r4 hr4 => ?_
    conv => arg 3; whnf
    refine sim_call g_part_Order_e (g_part_Order_ok t0 a) rfl fun x5 hx5 => ?_
    conv => arg 3; whnf
    refine sim_let (x' := (x5.length : Int)) (len_enc intD x5) ?_
    conv => arg 3; whnf
    refine sim_bind (g_part_Place_L2_x t0 a b x5) (g_part_Place_L2_ok t0 a b x5 (0, r4)) fun r11 hr11 => ?_
    clear hr11
    rcases r11 with r11 | r11
    ·conv => arg 3; whnf
     exact sim_ret rfl
    ·conv => arg 3; whnf
     exact sim_ret rfl
   ·exact sim_none
  ·conv => arg 3; whnf
   exact sim_ret rfl
def g_law16_PartEnough_e (r : Bool) : D := (D.bool r)

def g_law16_PartEnough_L0_x (t0 : Bool) (a : (List ShapeT)) (b : Int) (x8 : ((List Int) × Int)) (x10 : ((List Int) × Int)) : (Unit ⊕ Unit) → Ex × List V × Heap
  | (.inl r) => (.ret, [(.d (D.list t0 (List.map shapeD a))), (.d (intD b)), (.d (D.bool false)), (.d (intD x8.2)), (.d (intD x10.2))], [])
  | (.inr r) => (.exit 0, [(.d (D.list t0 (List.map shapeD a))), (.d (intD b)), .bad, (.d (intD x8.2)), (.d (intD x10.2))], [])

set_option maxRecDepth 100000 in
set_option maxHeartbeats 40000000 in
theorem g_law16_PartEnough_L0_ok (t0 : Bool) (a : (List ShapeT)) (b : Int) (x8 : ((List Int) × Int)) (x10 : ((List Int) × Int)) : ∀ (s11 : Int) (r : (Unit ⊕ Unit)), lp (g_law16_PartEnough_L0 x10) s11 = some r → lpW ctx 0 [0, 1, 6, 7, 8, 9] [0, 1, 4, 6, 8] ir10L0 [(.d (D.list t0 (List.map shapeD a))), (.d (intD b)), (.d (intD x8.2)), (.d (D.list true (List.map intD x10.1))), (.d (intD x10.2)), (.d (intD s11))] [] = some ((g_law16_PartEnough_L0_x t0 a b x8 x10) r) := by
 refine lp_ok (g_law16_PartEnough_L0_x t0 a b x8 x10) ?_
 intro s11 rcl ih
 show Says _ _ (lpW _ _ _ _ _ _ _)
 unfold g_law16_PartEnough_L0
 rw [lpW_b]
 conv => arg 3; whnf
 refine sim_let (x' := (x10.1.length : Int)) (len_enc intD x10.1) ?_
 conv => arg 3; whnf
 refine sim_br rfl ?_ ?_
 ·conv => arg 3; whnf
  refine sim_get (f := intD) rfl rfl fun x12 hx12 => ?_
  conv => arg 3; whnf
  refine sim_br rfl ?_ ?_
  ·conv => arg 3; whnf
   exact sim_ret rfl
  ·conv => arg 3; whnf
   exact sim_again (ih (w64 (s11 + 1)))
 ·conv => arg 3; whnf
  exact sim_ret rfl

set_option maxRecDepth 100000 in
set_option maxHeartbeats 40000000 in
theorem g_law16_PartEnough_ok (t0 : Bool) (a : (List ShapeT)) (b : Int) : ∀ r, (g_law16_PartEnough a b) = some r → evD ctx 10 [(.d (D.list t0 (List.map shapeD a))), (.d (intD b))] = some (g_law16_PartEnough_e r) := by
 show Says _ (fun r rhs => rhs = some (g_law16_PartEnough_e r)) _
 unfold g_law16_PartEnough
 rw [evD_K ctx 10 fn10 _ rfl rfl]
 conv => arg 3; whnf
 refine sim_call D.bool (g_law16_awake_ok) rfl fun x0 hx0 => ?_
 conv => arg 3; whnf
 refine sim_br rfl ?_ ?_
 ·conv => arg 3; whnf
  refine sim_let (x' := (a.length : Int)) (len_enc shapeD a) ?_
  conv => arg 3; whnf
  refine sim_br rfl ?_ ?_
  ·conv => arg 3; whnf
   refine sim_call D.bool (g_law16_awake_ok) rfl fun x1 hx1 => ?_
   conv => arg 3; whnf
   refine sim_br rfl ?_ ?_
   ·conv => arg 3; whnf
    exact sim_ret rfl
   ·conv => arg 3; whnf
    exact sim_ret rfl
  ·conv => arg 3; whnf
   refine sim_bind (g_law15_Own_e t0 a) (g_law15_Own_ok t0 a) fun x2 hx2 => ?_
   conv => arg 3; whnf
   refine sim_call g_edf_Check_e (g_edf_Check_ok false a) rfl fun x3 hx3 => ?_
   conv => arg 3; whnf
   refine sim_br rfl ?_ ?_
   ·conv => arg 3; whnf
    refine sim_call D.bool (g_law16_awake_ok) rfl fun x4 hx4 => ?_
    conv => arg 3; whnf
    refine sim_br rfl ?_ ?_
    ·conv => arg 3; whnf
     exact sim_ret rfl
    ·conv => arg 3; whnf
     exact sim_ret rfl
   ·conv => arg 3; whnf
    refine sim_br rfl ?_ ?_
    ·conv => arg 3; whnf
     refine sim_call D.bool (g_law16_awake_ok) rfl fun x5 hx5 => ?_
     conv => arg 3; whnf
     refine sim_br rfl ?_ ?_
     ·conv => arg 3; whnf
      exact sim_ret rfl
     ·conv => arg 3; whnf
      exact sim_ret rfl
    ·conv => arg 3; whnf
     refine sim_br rfl ?_ ?_
     ·conv => arg 3; whnf
      refine sim_call D.bool (g_law16_awake_ok) rfl fun x6 hx6 => ?_
      conv => arg 3; whnf
      refine sim_br rfl ?_ ?_
      ·conv => arg 3; whnf
       exact sim_ret rfl
      ·conv => arg 3; whnf
       exact sim_ret rfl
     ·conv => arg 3; whnf
      refine sim_bind (g_law15_Own_e t0 a) (g_law15_Own_ok t0 a) fun x7 hx7 => ?_
      conv => arg 3; whnf
      refine sim_call g_part_Place_e (g_part_Place_ok false a b) rfl fun x8 hx8 => ?_
      conv => arg 3; whnf
      refine sim_bind (g_law15_Own_e t0 a) (g_law15_Own_ok t0 a) fun x9 hx9 => ?_
      conv => arg 3; whnf
      refine sim_call g_part_Place_e (g_part_Place_ok false a 1) rfl fun x10 hx10 => ?_
      conv => arg 3; whnf
      refine sim_bind (g_law16_PartEnough_L0_x t0 a b x8 x10) (g_law16_PartEnough_L0_ok t0 a b x8 x10 0) fun r13 hr13 => ?_
      clear hr13
      rcases r13 with r13 | r13
      ·conv => arg 3; whnf
       exact sim_ret rfl
      ·conv => arg 3; whnf
       refine sim_br rfl ?_ ?_
       ·conv => arg 3; whnf
        refine sim_br rfl ?_ ?_
        ·conv => arg 3; whnf
         refine sim_bind (g_law15_Own_e t0 a) (g_law15_Own_ok t0 a) fun x14 hx14 => ?_
         conv => arg 3; whnf
         refine sim_call g_edf_Fits_e (g_edf_Fits_ok false a) rfl fun x15 hx15 => ?_
         conv => arg 3; whnf
         refine sim_br rfl ?_ ?_
         ·conv => arg 3; whnf
          refine sim_t rfl ?_
          conv => arg 3; whnf
          refine sim_br rfl ?_ ?_
          ·conv => arg 3; whnf
           exact sim_ret rfl
          ·conv => arg 3; whnf
           refine sim_br rfl ?_ ?_
           ·conv => arg 3; whnf
            exact sim_ret rfl
           ·conv => arg 3; whnf
            exact sim_ret rfl
         ·conv => arg 3; whnf
          refine sim_f rfl ?_
          conv => arg 3; whnf
          exact sim_ret rfl
        ·conv => arg 3; whnf
         refine sim_bind (g_law15_Own_e t0 a) (g_law15_Own_ok t0 a) fun x16 hx16 => ?_
         conv => arg 3; whnf
         refine sim_call g_edf_Fits_e (g_edf_Fits_ok false a) rfl fun x17 hx17 => ?_
         conv => arg 3; whnf
         refine sim_br rfl ?_ ?_
         ·conv => arg 3; whnf
          refine sim_f rfl ?_
          conv => arg 3; whnf
          exact sim_ret rfl
         ·conv => arg 3; whnf
          refine sim_t rfl ?_
          conv => arg 3; whnf
          refine sim_br rfl ?_ ?_
          ·conv => arg 3; whnf
           exact sim_ret rfl
          ·conv => arg 3; whnf
           refine sim_br rfl ?_ ?_
           ·conv => arg 3; whnf
            exact sim_ret rfl
           ·conv => arg 3; whnf
            exact sim_ret rfl
       ·conv => arg 3; whnf
        refine sim_let (x' := (a.length : Int)) (len_enc shapeD a) ?_
        conv => arg 3; whnf
        refine sim_br rfl ?_ ?_
        ·conv => arg 3; whnf
         refine sim_br rfl ?_ ?_
         ·conv => arg 3; whnf
          refine sim_bind (g_law15_Own_e t0 a) (g_law15_Own_ok t0 a) fun x18 hx18 => ?_
          conv => arg 3; whnf
          refine sim_call g_edf_Fits_e (g_edf_Fits_ok false a) rfl fun x19 hx19 => ?_
          conv => arg 3; whnf
          refine sim_br rfl ?_ ?_
          ·conv => arg 3; whnf
           refine sim_t rfl ?_
           conv => arg 3; whnf
           refine sim_br rfl ?_ ?_
           ·conv => arg 3; whnf
            exact sim_ret rfl
           ·conv => arg 3; whnf
            refine sim_br rfl ?_ ?_
            ·conv => arg 3; whnf
             exact sim_ret rfl
            ·conv => arg 3; whnf
             exact sim_ret rfl
          ·conv => arg 3; whnf
           refine sim_f rfl ?_
           conv => arg 3; whnf
           exact sim_ret rfl
         ·conv => arg 3; whnf
          refine sim_bind (g_law15_Own_e t0 a) (g_law15_Own_ok t0 a) fun x20 hx20 => ?_
          conv => arg 3; whnf
          refine sim_call g_edf_Fits_e (g_edf_Fits_ok false a) rfl fun x21 hx21 => ?_
          conv => arg 3; whnf
          refine sim_br rfl ?_ ?_
          ·conv => arg 3; whnf
           refine sim_f rfl ?_
           conv => arg 3; whnf
           exact sim_ret rfl
          ·conv => arg 3; whnf
           refine sim_t rfl ?_
           conv => arg 3; whnf
           refine sim_br rfl ?_ ?_
           ·conv => arg 3; whnf
            exact sim_ret rfl
           ·conv => arg 3; whnf
            refine sim_br rfl ?_ ?_
            ·conv => arg 3; whnf
             exact sim_ret rfl
            ·conv => arg 3; whnf
             exact sim_ret rfl
        ·conv => arg 3; whnf
         exact sim_ret rfl
 ·conv => arg 3; whnf
  refine sim_call D.bool (g_law16_awake_ok) rfl fun x22 hx22 => ?_
  conv => arg 3; whnf
  refine sim_br rfl ?_ ?_
  ·conv => arg 3; whnf
   exact sim_ret rfl
  ·conv => arg 3; whnf
   exact sim_ret rfl
end Go.Proofs.YtakebhleglnpjaaDoor
