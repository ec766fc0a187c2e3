/- The walks: the evaluator says what the plain text says. -/
import Derived.Test.YtakebhleglnpjaaDoorQ1
import Derived.Test.YtakebhleglnpjaaDoorJ1
import Derived.KernelRfl
namespace Go.Proofs.YtakebhleglnpjaaDoor
open Go Go.Proofs.YtakebhleglnpjaaDoorE
set_option linter.unusedVariables false
set_option linter.unusedSimpArgs false

theorem g_law16_awake_ok : ∀ r, g_law16_awake = some r → evD ctx 28 [] = some (D.bool r) := fun r h => by
  cases h
  exact evD_of 100 (by kernel_rfl)
def g_law15_Own_e (t0 : Bool) (a : (List ShapeT)) : Unit → V × Heap
  | r => ((.sl 0 5), [(.arr 5 (List.map shapeD a))])

set_option maxRecDepth 100000 in
set_option maxHeartbeats 40000000 in
theorem g_law15_Own_ok (t0 : Bool) (a : (List ShapeT)) : ∀ r, (g_law15_Own a) = some r → evW ctx 30 [(.d (D.list t0 (List.map shapeD a)))] [] = some ((g_law15_Own_e t0 a) r) := by
 show Says _ (fun r rhs => rhs = some ((g_law15_Own_e t0 a) r)) _
 unfold g_law15_Own
 rw [evW_K ctx 30 fn30 _ _ rfl rfl]
 conv => arg 3; whnf
 refine sim_t (szAt_map (f := shapeD) (fun _ => ⟨rfl, rfl⟩) a 0) ?_
 conv => arg 3; whnf
 refine sim_br (ble_enc1 shapeD a) ?_ ?_
 ·conv => arg 3; whnf
  refine sim_let (rfl : _ = List.map shapeD a) ?_
  conv => arg 3; whnf
  exact sim_ret rfl
 ·exact sim_none
def g_num_Check_e (r : Int) : D := (intD r)

set_option maxRecDepth 100000 in
set_option maxHeartbeats 40000000 in
theorem g_num_Check_ok (a : Int) : ∀ r, (g_num_Check a) = some r → evD ctx 74 [(.d (intD a))] = some (g_num_Check_e r) := by
 show Says _ (fun r rhs => rhs = some (g_num_Check_e r)) _
 unfold g_num_Check
 rw [evD_K ctx 74 fn74 _ rfl rfl]
 conv => arg 3; whnf
 refine sim_br rfl ?_ ?_
 ·conv => arg 3; whnf
  exact sim_ret rfl
 ·conv => arg 3; whnf
  refine sim_br rfl ?_ ?_
  ·conv => arg 3; whnf
   exact sim_ret rfl
  ·conv => arg 3; whnf
   exact sim_ret rfl
def g_math_bits_OnesCount64_e (r : Int) : D := (intD r)

set_option maxRecDepth 100000 in
set_option maxHeartbeats 40000000 in
theorem g_math_bits_OnesCount64_ok (a : Int) : ∀ r, (g_math_bits_OnesCount64 a) = some r → evD ctx 95 [(.d (D.int .u64 a))] = some (g_math_bits_OnesCount64_e r) := by
 show Says _ (fun r rhs => rhs = some (g_math_bits_OnesCount64_e r)) _
 unfold g_math_bits_OnesCount64
 rw [evD_K ctx 95 fn95 _ rfl rfl]
 conv => arg 3; whnf
 refine sim_f rfl ?_
 conv => arg 3; whnf
 refine sim_f rfl ?_
 conv => arg 3; whnf
 refine sim_f rfl ?_
 conv => arg 3; whnf
 refine sim_f rfl ?_
 conv => arg 3; whnf
 refine sim_f rfl ?_
 conv => arg 3; whnf
 refine sim_f rfl ?_
 conv => arg 3; whnf
 exact sim_ret rfl
def g_math_bits_OnesCount_e (r : Int) : D := (intD r)

set_option maxRecDepth 100000 in
set_option maxHeartbeats 40000000 in
theorem g_math_bits_OnesCount_ok (a : Int) : ∀ r, (g_math_bits_OnesCount a) = some r → evD ctx 75 [(.d (D.int .u64 a))] = some (g_math_bits_OnesCount_e r) := by
 show Says _ (fun r rhs => rhs = some (g_math_bits_OnesCount_e r)) _
 unfold g_math_bits_OnesCount
 rw [evD_K ctx 75 fn75 _ rfl rfl]
 conv => arg 3; whnf
 refine sim_call g_math_bits_OnesCount64_e (g_math_bits_OnesCount64_ok a) rfl fun x0 hx0 => ?_
 conv => arg 3; whnf
 exact sim_ret rfl
theorem wrapU (n : Int) : 0 ≤ IntKind.u64.wrap n ∧ IntKind.u64.wrap n < 18446744073709551616 := by
  have : IntKind.u64.wrap n = n % 18446744073709551616 := by
    show (if (false && decide (n % 18446744073709551616 ≥ 9223372036854775808)) = true then n % 18446744073709551616 - 18446744073709551616 else n % 18446744073709551616) = _
    simp
  rw [this]
  omega
theorem shr58 (n : Int) : ∃ j : Nat, j < 64 ∧ (IntKind.u64.wrap n).fdiv (2 ^ (min (Int.toNat 58) IntKind.u64.bits)) = (j : Int) := by
  obtain ⟨h1, h2⟩ := wrapU n
  have e : (2 : Int) ^ (min (Int.toNat 58) IntKind.u64.bits) = 288230376151711744 := by decide
  rw [e, Int.fdiv_eq_ediv_of_nonneg _ (by omega)]
  refine ⟨((IntKind.u64.wrap n) / 288230376151711744).toNat, ?_, ?_⟩ <;> omega
theorem tab64 : ∀ j : Nat, j < 64 → loadE [] 1 false (.d (.rptr (glob1.drop (j * 1)))) = some (.d (.int .u8 (tz64tab.getD j 0))) := by
  have key : ((List.range 64).all fun j => match loadE [] 1 false (.d (.rptr (glob1.drop (j * 1)))) with | some (.d (.int .u8 z)) => z == tz64tab.getD j 0 | _ => false) = true := by rfl
  intro j hj
  have := List.all_eq_true.1 key j (by simpa using hj)
  split at this
  · rename_i z hz
    rw [hz, eq_of_beq this]
  · cases this
def g_math_bits_TrailingZeros64_e (r : Int) : D := intD r
set_option maxRecDepth 100000 in
theorem g_math_bits_TrailingZeros64_ok (a : Int) : ∀ r, g_math_bits_TrailingZeros64 a = some r → evD ctx 97 [.d (.int .u64 a)] = some (g_math_bits_TrailingZeros64_e r) := by
  intro r hr
  unfold g_math_bits_TrailingZeros64 at hr
  have hr := Option.some.inj hr
  subst hr
  rw [evD_K ctx 97 fn97 _ rfl rfl]
  by_cases h : (a == 0) = true
  · conv => lhs; whnf
    rw [h, br_t]
    rfl
  · replace h : (a == 0) = false := by simpa using h
    obtain ⟨j, hj, e⟩ := shr58 (IntKind.u64.wrap ((BitVec.ofInt IntKind.u64.bits a &&& BitVec.ofInt IntKind.u64.bits (IntKind.u64.wrap (0 - a))).toNat : Int) * 285870213051353865)
    conv => lhs; whnf
    rw [h, br_f]
    conv => lhs; whnf
    refine (br_ff (by rfl)).trans ?_
    conv => lhs; whnf
    rw [e]
    refine (br_tt (by simp; omega)).trans ?_
    conv => lhs; whnf
    erw [tab64 j hj]
    rfl
def g_math_bits_TrailingZeros_e (r : Int) : D := (intD r)

set_option maxRecDepth 100000 in
set_option maxHeartbeats 40000000 in
theorem g_math_bits_TrailingZeros_ok (a : Int) : ∀ r, (g_math_bits_TrailingZeros a) = some r → evD ctx 76 [(.d (D.int .u64 a))] = some (g_math_bits_TrailingZeros_e r) := by
 show Says _ (fun r rhs => rhs = some (g_math_bits_TrailingZeros_e r)) _
 unfold g_math_bits_TrailingZeros
 rw [evD_K ctx 76 fn76 _ rfl rfl]
 conv => arg 3; whnf
 refine sim_call g_math_bits_TrailingZeros64_e (g_math_bits_TrailingZeros64_ok a) rfl fun x0 hx0 => ?_
 conv => arg 3; whnf
 exact sim_ret rfl
def g_num_Two_e (r : (Int × Bool)) : D := (D.tup [(intD r.1), (D.bool r.2)])

set_option maxRecDepth 100000 in
set_option maxHeartbeats 40000000 in
theorem g_num_Two_ok (a : Int) : ∀ r, (g_num_Two a) = some r → evD ctx 38 [(.d (intD a))] = some (g_num_Two_e r) := by
 show Says _ (fun r rhs => rhs = some (g_num_Two_e r)) _
 unfold g_num_Two
 rw [evD_K ctx 38 fn38 _ rfl rfl]
 conv => arg 3; whnf
 refine sim_call g_num_Check_e (g_num_Check_ok a) rfl fun x0 hx0 => ?_
 conv => arg 3; whnf
 refine sim_br rfl ?_ ?_
 ·conv => arg 3; whnf
  exact sim_ret rfl
 ·conv => arg 3; whnf
  refine sim_call g_math_bits_OnesCount_e (g_math_bits_OnesCount_ok (IntKind.u64.wrap a)) rfl fun x1 hx1 => ?_
  conv => arg 3; whnf
  refine sim_br rfl ?_ ?_
  ·conv => arg 3; whnf
   exact sim_ret rfl
  ·conv => arg 3; whnf
   refine sim_call g_math_bits_TrailingZeros_e (g_math_bits_TrailingZeros_ok (IntKind.u64.wrap a)) rfl fun x2 hx2 => ?_
   conv => arg 3; whnf
   exact sim_ret rfl
def g_class_Check_1_e (r : Bool) : D := (D.bool r)

set_option maxRecDepth 100000 in
set_option maxHeartbeats 40000000 in
theorem g_class_Check_1_ok (a : Int) (b : Int) : ∀ r, (g_class_Check_1 a b) = some r → evD ctx 90 [(.d (intD a)), (.d (intD b))] = some (g_class_Check_1_e r) := by
 show Says _ (fun r rhs => rhs = some (g_class_Check_1_e r)) _
 unfold g_class_Check_1
 rw [evD_K ctx 90 fn90 _ rfl rfl]
 conv => arg 3; whnf
 refine sim_br rfl ?_ ?_
 ·conv => arg 3; whnf
  refine sim_br rfl ?_ ?_
  ·conv => arg 3; whnf
   exact sim_ret rfl
  ·conv => arg 3; whnf
   exact sim_ret rfl
 ·conv => arg 3; whnf
  exact sim_ret rfl
def g_class_Check_e (r : Int) : D := (intD r)

set_option maxRecDepth 100000 in
set_option maxHeartbeats 40000000 in
theorem g_class_Check_ok (a : ShapeT) : ∀ r, (g_class_Check a) = some r → evD ctx 70 [(.d (D.agg [(intD a.total), (intD a.long), (intD a.most), (intD a.deadline), (intD a.period)]))] = some (g_class_Check_e r) := by
 show Says _ (fun r rhs => rhs = some (g_class_Check_e r)) _
 unfold g_class_Check
 rw [evD_K ctx 70 fn70 _ rfl rfl]
 conv => arg 3; whnf
 refine sim_call g_num_Two_e (g_num_Two_ok a.period) rfl fun x0 hx0 => ?_
 conv => arg 3; whnf
 refine sim_br rfl ?_ ?_
 ·conv => arg 3; whnf
  refine sim_br rfl ?_ ?_
  ·conv => arg 3; whnf
   exact sim_ret rfl
  ·conv => arg 3; whnf
   refine sim_call g_class_Check_1_e (g_class_Check_1_ok a.deadline a.period) rfl fun x1 hx1 => ?_
   conv => arg 3; whnf
   refine sim_br rfl ?_ ?_
   ·conv => arg 3; whnf
    refine sim_call g_class_Check_1_e (g_class_Check_1_ok a.total 4096) rfl fun x2 hx2 => ?_
    conv => arg 3; whnf
    refine sim_br rfl ?_ ?_
    ·conv => arg 3; whnf
     refine sim_call g_class_Check_1_e (g_class_Check_1_ok a.long a.total) rfl fun x3 hx3 => ?_
     conv => arg 3; whnf
     refine sim_br rfl ?_ ?_
     ·conv => arg 3; whnf
      refine sim_call g_class_Check_1_e (g_class_Check_1_ok a.most a.long) rfl fun x4 hx4 => ?_
      conv => arg 3; whnf
      refine sim_br rfl ?_ ?_
      ·conv => arg 3; whnf
       exact sim_ret rfl
      ·conv => arg 3; whnf
       exact sim_ret rfl
     ·conv => arg 3; whnf
      exact sim_ret rfl
    ·conv => arg 3; whnf
     exact sim_ret rfl
   ·conv => arg 3; whnf
    exact sim_ret rfl
 ·conv => arg 3; whnf
  exact sim_ret rfl
def g_class_of_e (a : ShapeT) : (Unit ⊕ Unit) → D
  | (.inl r) => (D.iface 120 (D.agg [(intD a.total), (intD a.long), (intD a.most), (intD a.deadline), (intD a.period)]))
  | (.inr r) => (D.iface 107 (D.agg [(intD a.total), (intD a.long), (intD a.most), (intD a.deadline), (intD a.period)]))

set_option maxRecDepth 100000 in
set_option maxHeartbeats 40000000 in
theorem g_class_of_ok (a : ShapeT) : ∀ r, (g_class_of a) = some r → evD ctx 91 [(.d (D.agg [(intD a.total), (intD a.long), (intD a.most), (intD a.deadline), (intD a.period)]))] = some ((g_class_of_e a) r) := by
 show Says _ (fun r rhs => rhs = some ((g_class_of_e a) r)) _
 unfold g_class_of
 rw [evD_K ctx 91 fn91 _ rfl rfl]
 conv => arg 3; whnf
 refine sim_br rfl ?_ ?_
 ·conv => arg 3; whnf
  exact sim_ret rfl
 ·conv => arg 3; whnf
  exact sim_ret rfl
def g_num_Up_1_e (r : Int) : D := (intD r)

set_option maxRecDepth 100000 in
set_option maxHeartbeats 40000000 in
theorem g_num_Up_1_ok (a0 : Int) : ∀ r, (g_num_Up_1 a0) = some r → evD ctx 133 [(.d (D.rptr [(intD a0)]))] = some (g_num_Up_1_e r) := by
 show Says _ (fun r rhs => rhs = some (g_num_Up_1_e r)) _
 unfold g_num_Up_1
 rw [evD_K ctx 133 fn133 _ rfl rfl]
 conv => arg 3; whnf
 exact sim_ret rfl
def g_num_first_1_e (r : Bool) : D := (D.bool r)

set_option maxRecDepth 100000 in
set_option maxHeartbeats 40000000 in
theorem g_num_first_1_ok (a : Int) : ∀ r, (g_num_first_1 a) = some r → evD ctx 135 [(.d (intD a))] = some (g_num_first_1_e r) := by
 show Says _ (fun r rhs => rhs = some (g_num_first_1_e r)) _
 unfold g_num_first_1
 rw [evD_K ctx 135 fn135 _ rfl rfl]
 conv => arg 3; whnf
 refine sim_call g_num_Check_e (g_num_Check_ok a) rfl fun x0 hx0 => ?_
 conv => arg 3; whnf
 refine sim_br rfl ?_ ?_
 ·conv => arg 3; whnf
  exact sim_ret rfl
 ·conv => arg 3; whnf
  exact sim_ret rfl
def g_slices_IndexFunc_l_int_int__num_first_1_e (r : Int) : D := (intD r)

def g_slices_IndexFunc_l_int_int__num_first_1_L0_x (t0 : Bool) (a : (List Int)) : (Int ⊕ Unit) → Ex × List V × Heap
  | (.inl r) => (.ret, [(.d (intD r))], [])
  | (.inr r) => (.exit 0, [.bad], [])

set_option maxRecDepth 100000 in
set_option maxHeartbeats 40000000 in
theorem g_slices_IndexFunc_l_int_int__num_first_1_L0_ok (t0 : Bool) (a : (List Int)) : ∀ (s0 : Int) (r : (Int ⊕ Unit)), lp (g_slices_IndexFunc_l_int_int_L0 a (fun z0 => g_num_first_1 z0)) s0 = some r → lpW ctx 0 [0, 1, 7, 8] [4] ir81L0 [(.d (D.list t0 (List.map intD a))), (.d (D.fn 135 [])), (.d (intD (a.length : Int))), (.d (intD s0))] [] = some ((g_slices_IndexFunc_l_int_int__num_first_1_L0_x t0 a) r) := by
 refine lp_ok (g_slices_IndexFunc_l_int_int__num_first_1_L0_x t0 a) ?_
 intro s0 rcl ih
 show Says _ _ (lpW _ _ _ _ _ _ _)
 unfold g_slices_IndexFunc_l_int_int_L0
 rw [lpW_b]
 conv => arg 3; whnf
 refine sim_br rfl ?_ ?_
 ·conv => arg 3; whnf
  refine sim_get (f := intD) rfl rfl fun x1 hx1 => ?_
  conv => arg 3; whnf
  refine sim_call g_num_first_1_e (g_num_first_1_ok x1) rfl fun x2 hx2 => ?_
  conv => arg 3; whnf
  refine sim_br rfl ?_ ?_
  ·conv => arg 3; whnf
   exact sim_ret rfl
  ·conv => arg 3; whnf
   exact sim_again (ih (w64 (s0 + 1)))
 ·conv => arg 3; whnf
  exact sim_ret rfl

set_option maxRecDepth 100000 in
set_option maxHeartbeats 40000000 in
theorem g_slices_IndexFunc_l_int_int__num_first_1_ok (t0 : Bool) (a : (List Int)) : ∀ r, (g_slices_IndexFunc_l_int_int a (fun z0 => g_num_first_1 z0)) = some r → evD ctx 81 [(.d (D.list t0 (List.map intD a))), (.d (D.fn 135 []))] = some (g_slices_IndexFunc_l_int_int__num_first_1_e r) := by
 show Says _ (fun r rhs => rhs = some (g_slices_IndexFunc_l_int_int__num_first_1_e r)) _
 unfold g_slices_IndexFunc_l_int_int
 rw [evD_K ctx 81 fn81 _ rfl rfl]
 conv => arg 3; whnf
 refine sim_let (x' := (a.length : Int)) (len_enc intD a) ?_
 conv => arg 3; whnf
 refine sim_bind (g_slices_IndexFunc_l_int_int__num_first_1_L0_x t0 a) (g_slices_IndexFunc_l_int_int__num_first_1_L0_ok t0 a 0) fun r3 hr3 => ?_
 clear hr3
 rcases r3 with r3 | r3
 ·conv => arg 3; whnf
  exact sim_ret rfl
 ·conv => arg 3; whnf
  exact sim_ret rfl
def g_num_first_e (r : Int) : D := (intD r)

set_option maxRecDepth 100000 in
set_option maxHeartbeats 40000000 in
theorem g_num_first_ok (t0 : Bool) (a : (List Int)) : ∀ r, (g_num_first a) = some r → evD ctx 134 [(.d (D.list t0 (List.map intD a)))] = some (g_num_first_e r) := by
 show Says _ (fun r rhs => rhs = some (g_num_first_e r)) _
 unfold g_num_first
 rw [evD_K ctx 134 fn134 _ rfl rfl]
 conv => arg 3; whnf
 refine sim_call g_slices_IndexFunc_l_int_int__num_first_1_e (g_slices_IndexFunc_l_int_int__num_first_1_ok t0 a) rfl fun x0 hx0 => ?_
 conv => arg 3; whnf
 refine sim_br rfl ?_ ?_
 ·conv => arg 3; whnf
  exact sim_ret rfl
 ·conv => arg 3; whnf
  refine sim_get (f := intD) rfl rfl fun x1 hx1 => ?_
  conv => arg 3; whnf
  refine sim_call g_num_Check_e (g_num_Check_ok x1) rfl fun x2 hx2 => ?_
  conv => arg 3; whnf
  exact sim_ret rfl
def g_num_quotient__num_Up_1_e (r : (Int × Int)) : D := (D.tup [(intD r.1), (intD r.2)])

set_option maxRecDepth 100000 in
set_option maxHeartbeats 40000000 in
theorem g_num_quotient__num_Up_1_ok (a : Int) (b : Int) (c0 : Int) : ∀ r, (g_num_quotient a b (g_num_Up_1 c0)) = some r → evD ctx 132 [(.d (intD a)), (.d (intD b)), (.d (D.fn 133 [(D.rptr [(intD c0)])]))] = some (g_num_quotient__num_Up_1_e r) := by
 show Says _ (fun r rhs => rhs = some (g_num_quotient__num_Up_1_e r)) _
 unfold g_num_quotient
 rw [evD_K ctx 132 fn132 _ rfl rfl]
 conv => arg 3; whnf
 refine sim_call g_num_first_e (g_num_first_ok false [a, b]) rfl fun x0 hx0 => ?_
 conv => arg 3; whnf
 refine sim_br rfl ?_ ?_
 ·conv => arg 3; whnf
  exact sim_ret rfl
 ·conv => arg 3; whnf
  refine sim_br rfl ?_ ?_
  ·conv => arg 3; whnf
   exact sim_ret rfl
  ·conv => arg 3; whnf
   refine sim_call g_num_Up_1_e (g_num_Up_1_ok c0) rfl fun x1 hx1 => ?_
   conv => arg 3; whnf
   refine sim_br rfl ?_ ?_
   ·exact sim_none
   ·conv => arg 3; whnf
    exact sim_ret rfl
def g_num_Up_e (r : (Int × Int)) : D := (D.tup [(intD r.1), (intD r.2)])

set_option maxRecDepth 100000 in
set_option maxHeartbeats 40000000 in
theorem g_num_Up_ok (a : Int) (b : Int) : ∀ r, (g_num_Up a b) = some r → evD ctx 131 [(.d (intD a)), (.d (intD b))] = some (g_num_Up_e r) := by
 show Says _ (fun r rhs => rhs = some (g_num_Up_e r)) _
 unfold g_num_Up
 rw [evD_K ctx 131 fn131 _ rfl rfl]
 conv => arg 3; whnf
 refine sim_call g_num_quotient__num_Up_1_e (g_num_quotient__num_Up_1_ok a b b) rfl fun x0 hx0 => ?_
 conv => arg 3; whnf
 exact sim_ret rfl
def g_class_heavy_need_e (r : VerdictT) : D := (D.agg [(intD r.cores), (intD r.e)])

set_option maxRecDepth 100000 in
set_option maxHeartbeats 40000000 in
theorem g_class_heavy_need_ok (a : HeavyT) : ∀ r, (g_class_heavy_need a) = some r → evD ctx 130 [(.d (D.agg [(intD a.shape.total), (intD a.shape.long), (intD a.shape.most), (intD a.shape.deadline), (intD a.shape.period)]))] = some (g_class_heavy_need_e r) := by
 show Says _ (fun r rhs => rhs = some (g_class_heavy_need_e r)) _
 unfold g_class_heavy_need
 rw [evD_K ctx 130 fn130 _ rfl rfl]
 conv => arg 3; whnf
 refine sim_br rfl ?_ ?_
 ·conv => arg 3; whnf
  exact sim_ret rfl
 ·conv => arg 3; whnf
  refine sim_call g_num_Up_e (g_num_Up_ok (w64 (a.shape.total - a.shape.long)) (w64 (a.shape.deadline - a.shape.long))) rfl fun x0 hx0 => ?_
  conv => arg 3; whnf
  refine sim_br rfl ?_ ?_
  ·conv => arg 3; whnf
   refine sim_br rfl ?_ ?_
   ·conv => arg 3; whnf
    exact sim_ret rfl
   ·conv => arg 3; whnf
    exact sim_ret rfl
  ·conv => arg 3; whnf
   exact sim_ret rfl
def g_class_light_need_e (r : VerdictT) : D := (D.agg [(intD r.cores), (intD r.e)])

set_option maxRecDepth 100000 in
set_option maxHeartbeats 40000000 in
theorem g_class_light_need_ok (a : LightT) : ∀ r, (g_class_light_need a) = some r → evD ctx 92 [(.d (D.agg [(intD a.shape.total), (intD a.shape.long), (intD a.shape.most), (intD a.shape.deadline), (intD a.shape.period)]))] = some (g_class_light_need_e r) := by
 show Says _ (fun r rhs => rhs = some (g_class_light_need_e r)) _
 unfold g_class_light_need
 rw [evD_K ctx 92 fn92 _ rfl rfl]
 conv => arg 3; whnf
 exact sim_ret rfl
def g_class_Heavy_e (r : Bool) : D := (D.bool r)

set_option maxRecDepth 100000 in
set_option maxHeartbeats 40000000 in
theorem g_class_Heavy_ok (a : ShapeT) : ∀ r, (g_class_Heavy a) = some r → evD ctx 71 [(.d (D.agg [(intD a.total), (intD a.long), (intD a.most), (intD a.deadline), (intD a.period)]))] = some (g_class_Heavy_e r) := by
 show Says _ (fun r rhs => rhs = some (g_class_Heavy_e r)) _
 unfold g_class_Heavy
 rw [evD_K ctx 71 fn71 _ rfl rfl]
 conv => arg 3; whnf
 refine sim_call g_class_Check_e (g_class_Check_ok a) rfl fun x0 hx0 => ?_
 conv => arg 3; whnf
 refine sim_br rfl ?_ ?_
 ·conv => arg 3; whnf
  refine sim_call (g_class_of_e a) (g_class_of_ok a) rfl fun x1 hx1 => ?_
  clear hx1
  rcases x1 with x1 | x1
  ·conv => arg 3; whnf
   refine sim_call g_class_heavy_need_e (g_class_heavy_need_ok (HeavyT.mk a)) rfl fun x2 hx2 => ?_
   conv => arg 3; whnf
   refine sim_call g_class_light_need_e (g_class_light_need_ok (LightT.mk a)) rfl fun x3 hx3 => ?_
   conv => arg 3; whnf
   refine sim_br rfl ?_ ?_
   ·conv => arg 3; whnf
    exact sim_ret rfl
   ·conv => arg 3; whnf
    exact sim_ret rfl
  ·conv => arg 3; whnf
   refine sim_call g_class_light_need_e (g_class_light_need_ok (LightT.mk a)) rfl fun x4 hx4 => ?_
   conv => arg 3; whnf
   refine sim_call g_class_light_need_e (g_class_light_need_ok (LightT.mk a)) rfl fun x5 hx5 => ?_
   conv => arg 3; whnf
   refine sim_br rfl ?_ ?_
   ·conv => arg 3; whnf
    exact sim_ret rfl
   ·conv => arg 3; whnf
    exact sim_ret rfl
 ·conv => arg 3; whnf
  exact sim_ret rfl
def g_edf_Check_1_e (r : Bool) : D := (D.bool r)

set_option maxRecDepth 100000 in
set_option maxHeartbeats 40000000 in
theorem g_edf_Check_1_ok (a : ShapeT) : ∀ r, (g_edf_Check_1 a) = some r → evD ctx 69 [(.d (D.agg [(intD a.total), (intD a.long), (intD a.most), (intD a.deadline), (intD a.period)]))] = some (g_edf_Check_1_e r) := by
 show Says _ (fun r rhs => rhs = some (g_edf_Check_1_e r)) _
 unfold g_edf_Check_1
 rw [evD_K ctx 69 fn69 _ rfl rfl]
 conv => arg 3; whnf
 refine sim_call g_class_Check_e (g_class_Check_ok a) rfl fun x0 hx0 => ?_
 conv => arg 3; whnf
 refine sim_br rfl ?_ ?_
 ·conv => arg 3; whnf
  exact sim_ret rfl
 ·conv => arg 3; whnf
  refine sim_call g_class_Heavy_e (g_class_Heavy_ok a) rfl fun x1 hx1 => ?_
  conv => arg 3; whnf
  refine sim_br rfl ?_ ?_
  ·conv => arg 3; whnf
   exact sim_ret rfl
  ·conv => arg 3; whnf
   exact sim_ret rfl
def g_slices_IndexFunc_l_Shape_Shape__edf_Check_1_e (r : Int) : D := (intD r)

def g_slices_IndexFunc_l_Shape_Shape__edf_Check_1_L0_x (t0 : Bool) (a : (List ShapeT)) : (Int ⊕ Unit) → Ex × List V × Heap
  | (.inl r) => (.ret, [(.d (intD r))], [])
  | (.inr r) => (.exit 0, [.bad], [])

set_option maxRecDepth 100000 in
set_option maxHeartbeats 40000000 in
theorem g_slices_IndexFunc_l_Shape_Shape__edf_Check_1_L0_ok (t0 : Bool) (a : (List ShapeT)) : ∀ (s0 : Int) (r : (Int ⊕ Unit)), lp (g_slices_IndexFunc_l_Shape_Shape_L0 a (fun z0 => g_edf_Check_1 z0)) s0 = some r → lpW ctx 0 [0, 1, 7, 8] [4] ir93L0 [(.d (D.list t0 (List.map shapeD a))), (.d (D.fn 69 [])), (.d (intD (a.length : Int))), (.d (intD s0))] [] = some ((g_slices_IndexFunc_l_Shape_Shape__edf_Check_1_L0_x t0 a) r) := by
 refine lp_ok (g_slices_IndexFunc_l_Shape_Shape__edf_Check_1_L0_x t0 a) ?_
 intro s0 rcl ih
 show Says _ _ (lpW _ _ _ _ _ _ _)
 unfold g_slices_IndexFunc_l_Shape_Shape_L0
 rw [lpW_b]
 conv => arg 3; whnf
 refine sim_br rfl ?_ ?_
 ·conv => arg 3; whnf
  refine sim_get (f := shapeD) rfl rfl fun x1 hx1 => ?_
  conv => arg 3; whnf
  refine sim_call g_edf_Check_1_e (g_edf_Check_1_ok x1) rfl fun x2 hx2 => ?_
  conv => arg 3; whnf
  refine sim_br rfl ?_ ?_
  ·conv => arg 3; whnf
   exact sim_ret rfl
  ·conv => arg 3; whnf
   exact sim_again (ih (w64 (s0 + 1)))
 ·conv => arg 3; whnf
  exact sim_ret rfl

set_option maxRecDepth 100000 in
set_option maxHeartbeats 40000000 in
theorem g_slices_IndexFunc_l_Shape_Shape__edf_Check_1_ok (t0 : Bool) (a : (List ShapeT)) : ∀ r, (g_slices_IndexFunc_l_Shape_Shape a (fun z0 => g_edf_Check_1 z0)) = some r → evD ctx 93 [(.d (D.list t0 (List.map shapeD a))), (.d (D.fn 69 []))] = some (g_slices_IndexFunc_l_Shape_Shape__edf_Check_1_e r) := by
 show Says _ (fun r rhs => rhs = some (g_slices_IndexFunc_l_Shape_Shape__edf_Check_1_e r)) _
 unfold g_slices_IndexFunc_l_Shape_Shape
 rw [evD_K ctx 93 fn93 _ rfl rfl]
 conv => arg 3; whnf
 refine sim_let (x' := (a.length : Int)) (len_enc shapeD a) ?_
 conv => arg 3; whnf
 refine sim_bind (g_slices_IndexFunc_l_Shape_Shape__edf_Check_1_L0_x t0 a) (g_slices_IndexFunc_l_Shape_Shape__edf_Check_1_L0_ok t0 a 0) fun r3 hr3 => ?_
 clear hr3
 rcases r3 with r3 | r3
 ·conv => arg 3; whnf
  exact sim_ret rfl
 ·conv => arg 3; whnf
  exact sim_ret rfl
def g_slices_ContainsFunc_l_Shape_Shape__edf_Check_1_e (r : Bool) : D := (D.bool r)

set_option maxRecDepth 100000 in
set_option maxHeartbeats 40000000 in
theorem g_slices_ContainsFunc_l_Shape_Shape__edf_Check_1_ok (t0 : Bool) (a : (List ShapeT)) : ∀ r, (g_slices_ContainsFunc_l_Shape_Shape a (fun z0 => g_edf_Check_1 z0)) = some r → evD ctx 72 [(.d (D.list t0 (List.map shapeD a))), (.d (D.fn 69 []))] = some (g_slices_ContainsFunc_l_Shape_Shape__edf_Check_1_e r) := by
 show Says _ (fun r rhs => rhs = some (g_slices_ContainsFunc_l_Shape_Shape__edf_Check_1_e r)) _
 unfold g_slices_ContainsFunc_l_Shape_Shape
 rw [evD_K ctx 72 fn72 _ rfl rfl]
 conv => arg 3; whnf
 refine sim_call g_slices_IndexFunc_l_Shape_Shape__edf_Check_1_e (g_slices_IndexFunc_l_Shape_Shape__edf_Check_1_ok t0 a) rfl fun x0 hx0 => ?_
 conv => arg 3; whnf
 refine sim_br rfl ?_ ?_
 ·conv => arg 3; whnf
  exact sim_ret rfl
 ·conv => arg 3; whnf
  exact sim_ret rfl
def g_edf_Check_e (r : Int) : D := (intD r)

set_option maxRecDepth 100000 in
set_option maxHeartbeats 40000000 in
theorem g_edf_Check_ok (t0 : Bool) (a : (List ShapeT)) : ∀ r, (g_edf_Check a) = some r → evD ctx 34 [(.d (D.list t0 (List.map shapeD a)))] = some (g_edf_Check_e r) := by
 show Says _ (fun r rhs => rhs = some (g_edf_Check_e r)) _
 unfold g_edf_Check
 rw [evD_K ctx 34 fn34 _ rfl rfl]
 conv => arg 3; whnf
 refine sim_let (x' := (a.length : Int)) (len_enc shapeD a) ?_
 conv => arg 3; whnf
 refine sim_br rfl ?_ ?_
 ·conv => arg 3; whnf
  exact sim_ret rfl
 ·conv => arg 3; whnf
  refine sim_call g_slices_ContainsFunc_l_Shape_Shape__edf_Check_1_e (g_slices_ContainsFunc_l_Shape_Shape__edf_Check_1_ok t0 a) rfl fun x0 hx0 => ?_
  conv => arg 3; whnf
  refine sim_br rfl ?_ ?_
  ·conv => arg 3; whnf
   exact sim_ret rfl
  ·conv => arg 3; whnf
   exact sim_ret rfl
def g_part_within_e (r : Bool) : D := (D.bool r)

set_option maxRecDepth 100000 in
set_option maxHeartbeats 40000000 in
theorem g_part_within_ok (a : Int) : ∀ r, (g_part_within a) = some r → evD ctx 63 [(.d (intD a))] = some (g_part_within_e r) := by
 show Says _ (fun r rhs => rhs = some (g_part_within_e r)) _
 unfold g_part_within
 rw [evD_K ctx 63 fn63 _ rfl rfl]
 conv => arg 3; whnf
 refine sim_br rfl ?_ ?_
 ·conv => arg 3; whnf
  refine sim_br rfl ?_ ?_
  ·conv => arg 3; whnf
   exact sim_ret rfl
  ·conv => arg 3; whnf
   exact sim_ret rfl
 ·conv => arg 3; whnf
  exact sim_ret rfl
def g_part_On_e (r : (List ShapeT)) : D := (D.list true (List.map shapeD r))

def g_part_On_L0_x (t0 : Bool) (t1 : Bool) (a : (List ShapeT)) (b : (List Int)) (c : Int) : (List ShapeT) → Ex × List V × Heap
  | r => (.exit 0, [(.sl 0 5)], [(.arr 5 (List.map shapeD r))])

set_option maxRecDepth 100000 in
set_option maxHeartbeats 40000000 in
theorem g_part_On_L0_ok (t0 : Bool) (t1 : Bool) (a : (List ShapeT)) (b : (List Int)) (c : Int) : ∀ (s0 : Int × (List ShapeT)) (r : (List ShapeT)), lp (g_part_On_L0 a b c) s0 = some r → lpW ctx 0 [1, 2, 7, 10, 11, 12] [7] ir32L0 [(.d (D.list t1 (List.map intD b))), (.d (intD c)), (.sl 0 5), (.d (D.list t0 (List.map shapeD a))), (.d (intD (a.length : Int))), (.d (intD s0.1))] [(.arr 5 (List.map shapeD s0.2))] = some ((g_part_On_L0_x t0 t1 a b c) r) := by
 refine lp_ok (g_part_On_L0_x t0 t1 a b c) ?_
 intro s0 rcl ih
 show Says _ _ (lpW _ _ _ _ _ _ _)
 unfold g_part_On_L0
 rw [lpW_b]
 conv => arg 3; whnf
 refine sim_br rfl ?_ ?_
 ·conv => arg 3; whnf
  refine sim_get (f := shapeD) rfl rfl fun x1 hx1 => ?_
  conv => arg 3; whnf
  refine sim_let (x' := (b.length : Int)) (len_enc intD b) ?_
  conv => arg 3; whnf
  refine sim_br rfl ?_ ?_
  ·conv => arg 3; whnf
   refine sim_get (f := intD) rfl rfl fun x2 hx2 => ?_
   conv => arg 3; whnf
   refine sim_br rfl ?_ ?_
   ·conv => arg 3; whnf
    refine sim_t rfl ?_
    conv => arg 3; whnf
    refine sim_br (ble_enc shapeD s0.2 1) ?_ ?_
    ·conv => arg 3; whnf
     refine sim_let (app_enc shapeD s0.2 [x1]) ?_
     conv => arg 3; whnf
     exact sim_again (ih ((w64 (s0.1 + 1)), (s0.2 ++ [x1])))
    ·exact sim_none
   ·conv => arg 3; whnf
    exact sim_again (ih ((w64 (s0.1 + 1)), s0.2))
  ·conv => arg 3; whnf
   exact sim_again (ih ((w64 (s0.1 + 1)), s0.2))
 ·conv => arg 3; whnf
  exact sim_ret rfl

set_option maxRecDepth 100000 in
set_option maxHeartbeats 40000000 in
theorem g_part_On_ok (t0 : Bool) (t1 : Bool) (a : (List ShapeT)) (b : (List Int)) (c : Int) : ∀ r, (g_part_On a b c) = some r → evD ctx 32 [(.d (D.list t0 (List.map shapeD a))), (.d (D.list t1 (List.map intD b))), (.d (intD c))] = some (g_part_On_e r) := by
 show Says _ (fun r rhs => rhs = some (g_part_On_e r)) _
 unfold g_part_On
 rw [evD_K ctx 32 fn32 _ rfl rfl]
 conv => arg 3; whnf
 refine sim_let (x' := (a.length : Int)) (len_enc shapeD a) ?_
 conv => arg 3; whnf
 refine sim_bind (g_part_On_L0_x t0 t1 a b c) (g_part_On_L0_ok t0 t1 a b c (0, ([] : (List ShapeT)))) fun r3 hr3 => ?_
 conv => arg 3; whnf
 exact sim_ret rfl
def g_edf_Horizon_1_e (r : Int) : D := (intD r)

set_option maxRecDepth 100000 in
set_option maxHeartbeats 40000000 in
theorem g_edf_Horizon_1_ok (a : Int) (b : ShapeT) : ∀ r, (g_edf_Horizon_1 a b) = some r → evD ctx 87 [(.d (intD a)), (.d (D.agg [(intD b.total), (intD b.long), (intD b.most), (intD b.deadline), (intD b.period)]))] = some (g_edf_Horizon_1_e r) := by
 show Says _ (fun r rhs => rhs = some (g_edf_Horizon_1_e r)) _
 unfold g_edf_Horizon_1
 rw [evD_K ctx 87 fn87 _ rfl rfl]
 conv => arg 3; whnf
 exact sim_ret rfl
def g_edf_fold__edf_Horizon_1_e (r : Int) : D := (intD r)

def g_edf_fold__edf_Horizon_1_L0_x (t0 : Bool) (a : (List ShapeT)) : Int → Ex × List V × Heap
  | r => (.exit 0, [(.d (intD r))], [])

set_option maxRecDepth 100000 in
set_option maxHeartbeats 40000000 in
theorem g_edf_fold__edf_Horizon_1_L0_ok (t0 : Bool) (a : (List ShapeT)) : ∀ (s0 : Int × Int) (r : Int), lp (g_edf_fold_L0 a (fun z0 z1 => g_edf_Horizon_1 z0 z1)) s0 = some r → lpW ctx 0 [1, 5, 8, 9, 10] [5] ir86L0 [(.d (D.fn 87 [])), (.d (intD s0.1)), (.d (D.list t0 (List.map shapeD a))), (.d (intD (a.length : Int))), (.d (intD s0.2))] [] = some ((g_edf_fold__edf_Horizon_1_L0_x t0 a) r) := by
 refine lp_ok (g_edf_fold__edf_Horizon_1_L0_x t0 a) ?_
 intro s0 rcl ih
 show Says _ _ (lpW _ _ _ _ _ _ _)
 unfold g_edf_fold_L0
 rw [lpW_b]
 conv => arg 3; whnf
 refine sim_br rfl ?_ ?_
 ·conv => arg 3; whnf
  refine sim_get (f := shapeD) rfl rfl fun x1 hx1 => ?_
  conv => arg 3; whnf
  refine sim_call g_edf_Horizon_1_e (g_edf_Horizon_1_ok s0.1 x1) rfl fun x2 hx2 => ?_
  conv => arg 3; whnf
  exact sim_again (ih (x2, (w64 (s0.2 + 1))))
 ·conv => arg 3; whnf
  exact sim_ret rfl

set_option maxRecDepth 100000 in
set_option maxHeartbeats 40000000 in
theorem g_edf_fold__edf_Horizon_1_ok (t0 : Bool) (a : (List ShapeT)) : ∀ r, (g_edf_fold a (fun z0 z1 => g_edf_Horizon_1 z0 z1)) = some r → evD ctx 86 [(.d (D.list t0 (List.map shapeD a))), (.d (D.fn 87 []))] = some (g_edf_fold__edf_Horizon_1_e r) := by
 show Says _ (fun r rhs => rhs = some (g_edf_fold__edf_Horizon_1_e r)) _
 unfold g_edf_fold
 rw [evD_K ctx 86 fn86 _ rfl rfl]
 conv => arg 3; whnf
 refine sim_let (x' := (a.length : Int)) (len_enc shapeD a) ?_
 conv => arg 3; whnf
 refine sim_bind (g_edf_fold__edf_Horizon_1_L0_x t0 a) (g_edf_fold__edf_Horizon_1_L0_ok t0 a (0, 0)) fun r3 hr3 => ?_
 conv => arg 3; whnf
 exact sim_ret rfl
def g_edf_Horizon_e (r : Int) : D := (intD r)

set_option maxRecDepth 100000 in
set_option maxHeartbeats 40000000 in
theorem g_edf_Horizon_ok (t0 : Bool) (a : (List ShapeT)) : ∀ r, (g_edf_Horizon a) = some r → evD ctx 65 [(.d (D.list t0 (List.map shapeD a)))] = some (g_edf_Horizon_e r) := by
 show Says _ (fun r rhs => rhs = some (g_edf_Horizon_e r)) _
 unfold g_edf_Horizon
 rw [evD_K ctx 65 fn65 _ rfl rfl]
 conv => arg 3; whnf
 refine sim_call g_edf_Check_e (g_edf_Check_ok t0 a) rfl fun x0 hx0 => ?_
 conv => arg 3; whnf
 refine sim_br rfl ?_ ?_
 ·conv => arg 3; whnf
  exact sim_ret rfl
 ·conv => arg 3; whnf
  refine sim_call g_edf_fold__edf_Horizon_1_e (g_edf_fold__edf_Horizon_1_ok t0 a) rfl fun x1 hx1 => ?_
  conv => arg 3; whnf
  exact sim_ret rfl
def g_edf_demand_1_e (r : Int) : D := (intD r)

set_option maxRecDepth 100000 in
set_option maxHeartbeats 40000000 in
theorem g_edf_demand_1_ok (a : Int) (b : ShapeT) (c0 : Int) : ∀ r, (g_edf_demand_1 a b c0) = some r → evD ctx 88 [(.d (intD a)), (.d (D.agg [(intD b.total), (intD b.long), (intD b.most), (intD b.deadline), (intD b.period)])), (.d (D.rptr [(intD c0)]))] = some (g_edf_demand_1_e r) := by
 show Says _ (fun r rhs => rhs = some (g_edf_demand_1_e r)) _
 unfold g_edf_demand_1
 rw [evD_K ctx 88 fn88 _ rfl rfl]
 conv => arg 3; whnf
 refine sim_br rfl ?_ ?_
 ·conv => arg 3; whnf
  exact sim_ret rfl
 ·conv => arg 3; whnf
  refine sim_br rfl ?_ ?_
  ·exact sim_none
  ·conv => arg 3; whnf
   exact sim_ret rfl
def g_edf_fold__edf_demand_1_e (r : Int) : D := (intD r)

def g_edf_fold__edf_demand_1_L0_x (t0 : Bool) (a : (List ShapeT)) (b0 : Int) : Int → Ex × List V × Heap
  | r => (.exit 0, [(.d (intD r))], [])

set_option maxRecDepth 100000 in
set_option maxHeartbeats 40000000 in
theorem g_edf_fold__edf_demand_1_L0_ok (t0 : Bool) (a : (List ShapeT)) (b0 : Int) : ∀ (s0 : Int × Int) (r : Int), lp (g_edf_fold_L0 a (fun z0 z1 => g_edf_demand_1 z0 z1 b0)) s0 = some r → lpW ctx 0 [1, 5, 8, 9, 10] [5] ir86L0 [(.d (D.fn 88 [(D.rptr [(intD b0)])])), (.d (intD s0.1)), (.d (D.list t0 (List.map shapeD a))), (.d (intD (a.length : Int))), (.d (intD s0.2))] [] = some ((g_edf_fold__edf_demand_1_L0_x t0 a b0) r) := by
 refine lp_ok (g_edf_fold__edf_demand_1_L0_x t0 a b0) ?_
 intro s0 rcl ih
 show Says _ _ (lpW _ _ _ _ _ _ _)
 unfold g_edf_fold_L0
 rw [lpW_b]
 conv => arg 3; whnf
 refine sim_br rfl ?_ ?_
 ·conv => arg 3; whnf
  refine sim_get (f := shapeD) rfl rfl fun x1 hx1 => ?_
  conv => arg 3; whnf
  refine sim_call g_edf_demand_1_e (g_edf_demand_1_ok s0.1 x1 b0) rfl fun x2 hx2 => ?_
  conv => arg 3; whnf
  exact sim_again (ih (x2, (w64 (s0.2 + 1))))
 ·conv => arg 3; whnf
  exact sim_ret rfl

set_option maxRecDepth 100000 in
set_option maxHeartbeats 40000000 in
theorem g_edf_fold__edf_demand_1_ok (t0 : Bool) (a : (List ShapeT)) (b0 : Int) : ∀ r, (g_edf_fold a (fun z0 z1 => g_edf_demand_1 z0 z1 b0)) = some r → evD ctx 86 [(.d (D.list t0 (List.map shapeD a))), (.d (D.fn 88 [(D.rptr [(intD b0)])]))] = some (g_edf_fold__edf_demand_1_e r) := by
 show Says _ (fun r rhs => rhs = some (g_edf_fold__edf_demand_1_e r)) _
 unfold g_edf_fold
 rw [evD_K ctx 86 fn86 _ rfl rfl]
 conv => arg 3; whnf
 refine sim_let (x' := (a.length : Int)) (len_enc shapeD a) ?_
 conv => arg 3; whnf
 refine sim_bind (g_edf_fold__edf_demand_1_L0_x t0 a b0) (g_edf_fold__edf_demand_1_L0_ok t0 a b0 (0, 0)) fun r3 hr3 => ?_
 conv => arg 3; whnf
 exact sim_ret rfl
def g_edf_demand_e (r : Int) : D := (intD r)

set_option maxRecDepth 100000 in
set_option maxHeartbeats 40000000 in
theorem g_edf_demand_ok (t0 : Bool) (a : (List ShapeT)) (b : Int) : ∀ r, (g_edf_demand a b) = some r → evD ctx 66 [(.d (D.list t0 (List.map shapeD a))), (.d (intD b))] = some (g_edf_demand_e r) := by
 show Says _ (fun r rhs => rhs = some (g_edf_demand_e r)) _
 unfold g_edf_demand
 rw [evD_K ctx 66 fn66 _ rfl rfl]
 conv => arg 3; whnf
 refine sim_call g_edf_fold__edf_demand_1_e (g_edf_fold__edf_demand_1_ok t0 a b) rfl fun x0 hx0 => ?_
 conv => arg 3; whnf
 exact sim_ret rfl
def g_edf_block_1_e (r : Int) : D := (intD r)

set_option maxRecDepth 100000 in
set_option maxHeartbeats 40000000 in
theorem g_edf_block_1_ok (a : Int) (b : ShapeT) (c0 : Int) : ∀ r, (g_edf_block_1 a b c0) = some r → evD ctx 89 [(.d (intD a)), (.d (D.agg [(intD b.total), (intD b.long), (intD b.most), (intD b.deadline), (intD b.period)])), (.d (D.rptr [(intD c0)]))] = some (g_edf_block_1_e r) := by
 show Says _ (fun r rhs => rhs = some (g_edf_block_1_e r)) _
 unfold g_edf_block_1
 rw [evD_K ctx 89 fn89 _ rfl rfl]
 conv => arg 3; whnf
 refine sim_br rfl ?_ ?_
 ·conv => arg 3; whnf
  exact sim_ret rfl
 ·conv => arg 3; whnf
  exact sim_ret rfl
def g_edf_fold__edf_block_1_e (r : Int) : D := (intD r)

def g_edf_fold__edf_block_1_L0_x (t0 : Bool) (a : (List ShapeT)) (b0 : Int) : Int → Ex × List V × Heap
  | r => (.exit 0, [(.d (intD r))], [])

set_option maxRecDepth 100000 in
set_option maxHeartbeats 40000000 in
theorem g_edf_fold__edf_block_1_L0_ok (t0 : Bool) (a : (List ShapeT)) (b0 : Int) : ∀ (s0 : Int × Int) (r : Int), lp (g_edf_fold_L0 a (fun z0 z1 => g_edf_block_1 z0 z1 b0)) s0 = some r → lpW ctx 0 [1, 5, 8, 9, 10] [5] ir86L0 [(.d (D.fn 89 [(D.rptr [(intD b0)])])), (.d (intD s0.1)), (.d (D.list t0 (List.map shapeD a))), (.d (intD (a.length : Int))), (.d (intD s0.2))] [] = some ((g_edf_fold__edf_block_1_L0_x t0 a b0) r) := by
 refine lp_ok (g_edf_fold__edf_block_1_L0_x t0 a b0) ?_
 intro s0 rcl ih
 show Says _ _ (lpW _ _ _ _ _ _ _)
 unfold g_edf_fold_L0
 rw [lpW_b]
 conv => arg 3; whnf
 refine sim_br rfl ?_ ?_
 ·conv => arg 3; whnf
  refine sim_get (f := shapeD) rfl rfl fun x1 hx1 => ?_
  conv => arg 3; whnf
  refine sim_call g_edf_block_1_e (g_edf_block_1_ok s0.1 x1 b0) rfl fun x2 hx2 => ?_
  conv => arg 3; whnf
  exact sim_again (ih (x2, (w64 (s0.2 + 1))))
 ·conv => arg 3; whnf
  exact sim_ret rfl

set_option maxRecDepth 100000 in
set_option maxHeartbeats 40000000 in
theorem g_edf_fold__edf_block_1_ok (t0 : Bool) (a : (List ShapeT)) (b0 : Int) : ∀ r, (g_edf_fold a (fun z0 z1 => g_edf_block_1 z0 z1 b0)) = some r → evD ctx 86 [(.d (D.list t0 (List.map shapeD a))), (.d (D.fn 89 [(D.rptr [(intD b0)])]))] = some (g_edf_fold__edf_block_1_e r) := by
 show Says _ (fun r rhs => rhs = some (g_edf_fold__edf_block_1_e r)) _
 unfold g_edf_fold
 rw [evD_K ctx 86 fn86 _ rfl rfl]
 conv => arg 3; whnf
 refine sim_let (x' := (a.length : Int)) (len_enc shapeD a) ?_
 conv => arg 3; whnf
 refine sim_bind (g_edf_fold__edf_block_1_L0_x t0 a b0) (g_edf_fold__edf_block_1_L0_ok t0 a b0 (0, 0)) fun r3 hr3 => ?_
 conv => arg 3; whnf
 exact sim_ret rfl
def g_edf_block_e (r : Int) : D := (intD r)

set_option maxRecDepth 100000 in
set_option maxHeartbeats 40000000 in
theorem g_edf_block_ok (t0 : Bool) (a : (List ShapeT)) (b : Int) : ∀ r, (g_edf_block a b) = some r → evD ctx 67 [(.d (D.list t0 (List.map shapeD a))), (.d (intD b))] = some (g_edf_block_e r) := by
 show Says _ (fun r rhs => rhs = some (g_edf_block_e r)) _
 unfold g_edf_block
 rw [evD_K ctx 67 fn67 _ rfl rfl]
 conv => arg 3; whnf
 refine sim_call g_edf_fold__edf_block_1_e (g_edf_fold__edf_block_1_ok t0 a b) rfl fun x0 hx0 => ?_
 conv => arg 3; whnf
 exact sim_ret rfl
def g_edf_Fits_e (r : Bool) : D := (D.bool r)

def g_edf_Fits_L0_x (t0 : Bool) (a : (List ShapeT)) (s1 : Int) (x2 : ShapeT) : (Unit ⊕ Unit) → Ex × List V × Heap
  | (.inl r) => (.ret, [(.d (D.list t0 (List.map shapeD a))), (.d (D.bool false)), (.d (D.list t0 (List.map shapeD a))), (.d (intD (a.length : Int))), (.d (intD s1))], [])
  | (.inr r) => (.exit 2, [(.d (D.list t0 (List.map shapeD a))), .bad, (.d (D.list t0 (List.map shapeD a))), (.d (intD (a.length : Int))), (.d (intD s1))], [])

set_option maxRecDepth 100000 in
set_option maxHeartbeats 40000000 in
theorem g_edf_Fits_L0_ok (t0 : Bool) (a : (List ShapeT)) (s1 : Int) (x2 : ShapeT) : ∀ (s3 : Int) (r : (Unit ⊕ Unit)), lp (g_edf_Fits_L0 a x2) s3 = some r → lpW ctx 0 [0, 4, 5, 9, 10, 11] [0, 2, 9, 10, 11] ir31L0 [(.d (D.list t0 (List.map shapeD a))), (.ptr 0 0), (.d (intD s3)), (.d (D.list t0 (List.map shapeD a))), (.d (intD (a.length : Int))), (.d (intD s1))] [(.cells [(.d (intD x2.total)), (.d (intD x2.long)), (.d (intD x2.most)), (.d (intD x2.deadline)), (.d (intD x2.period))])] = some ((g_edf_Fits_L0_x t0 a s1 x2) r) := by
 refine lp_ok (g_edf_Fits_L0_x t0 a s1 x2) ?_
 intro s3 rcl ih
 show Says _ _ (lpW _ _ _ _ _ _ _)
 unfold g_edf_Fits_L0
 rw [lpW_b]
 conv => arg 3; whnf
 refine sim_call g_edf_Horizon_e (g_edf_Horizon_ok t0 a) rfl fun x4 hx4 => ?_
 conv => arg 3; whnf
 refine sim_br rfl ?_ ?_
 ·conv => arg 3; whnf
  refine sim_call g_edf_demand_e (g_edf_demand_ok t0 a s3) rfl fun x5 hx5 => ?_
  conv => arg 3; whnf
  refine sim_call g_edf_block_e (g_edf_block_ok t0 a s3) rfl fun x6 hx6 => ?_
  conv => arg 3; whnf
  refine sim_br rfl ?_ ?_
  ·conv => arg 3; whnf
   exact sim_ret rfl
  ·conv => arg 3; whnf
   exact sim_again (ih (w64 (s3 + x2.period)))
 ·conv => arg 3; whnf
  exact sim_ret rfl

def g_edf_Fits_L1_x (t0 : Bool) (a : (List ShapeT)) : (Unit ⊕ Unit) → Ex × List V × Heap
  | (.inl r) => (.ret, [(.d (D.bool false))], [])
  | (.inr r) => (.exit 0, [.bad], [])

set_option maxRecDepth 100000 in
set_option maxHeartbeats 40000000 in
theorem g_edf_Fits_L1_ok (t0 : Bool) (a : (List ShapeT)) : ∀ (s1 : Int) (r : (Unit ⊕ Unit)), lp (g_edf_Fits_L1 a) s1 = some r → lpW ctx 0 [0, 9, 10, 11] [2] ir31L1 [(.d (D.list t0 (List.map shapeD a))), (.d (D.list t0 (List.map shapeD a))), (.d (intD (a.length : Int))), (.d (intD s1))] [] = some ((g_edf_Fits_L1_x t0 a) r) := by
 refine lp_ok (g_edf_Fits_L1_x t0 a) ?_
 intro s1 rcl ih
 show Says _ _ (lpW _ _ _ _ _ _ _)
 unfold g_edf_Fits_L1
 rw [lpW_b]
 conv => arg 3; whnf
 refine sim_br rfl ?_ ?_
 ·conv => arg 3; whnf
  refine sim_get (f := shapeD) rfl rfl fun x2 hx2 => ?_
  conv => arg 3; whnf
  refine sim_bind (g_edf_Fits_L0_x t0 a s1 x2) (g_edf_Fits_L0_ok t0 a s1 x2 x2.deadline) fun r7 hr7 => ?_
  clear hr7
  rcases r7 with r7 | r7
  ·conv => arg 3; whnf
   exact sim_ret rfl
  ·conv => arg 3; whnf
   exact sim_again (ih (w64 (s1 + 1)))
 ·conv => arg 3; whnf
  exact sim_ret rfl

set_option maxRecDepth 100000 in
set_option maxHeartbeats 40000000 in
theorem g_edf_Fits_ok (t0 : Bool) (a : (List ShapeT)) : ∀ r, (g_edf_Fits a) = some r → evD ctx 31 [(.d (D.list t0 (List.map shapeD a)))] = some (g_edf_Fits_e r) := by
 show Says _ (fun r rhs => rhs = some (g_edf_Fits_e r)) _
 unfold g_edf_Fits
 rw [evD_K ctx 31 fn31 _ rfl rfl]
 conv => arg 3; whnf
 refine sim_call g_edf_Check_e (g_edf_Check_ok t0 a) rfl fun x0 hx0 => ?_
 conv => arg 3; whnf
 refine sim_br rfl ?_ ?_
 ·conv => arg 3; whnf
  exact sim_ret rfl
 ·conv => arg 3; whnf
  refine sim_let (x' := (a.length : Int)) (len_enc shapeD a) ?_
  conv => arg 3; whnf
  refine sim_bind (g_edf_Fits_L1_x t0 a) (g_edf_Fits_L1_ok t0 a 0) fun r8 hr8 => ?_
  clear hr8
  rcases r8 with r8 | r8
  ·conv => arg 3; whnf
   exact sim_ret rfl
  ·conv => arg 3; whnf
   exact sim_ret rfl
def g_part_Right_1_e (r : Bool) : D := (D.bool r)

set_option maxRecDepth 100000 in
set_option maxHeartbeats 40000000 in
theorem g_part_Right_1_ok (a : Int) (b0 : Int) : ∀ r, (g_part_Right_1 a b0) = some r → evD ctx 68 [(.d (intD a)), (.d (D.rptr [(intD b0)]))] = some (g_part_Right_1_e r) := by
 show Says _ (fun r rhs => rhs = some (g_part_Right_1_e r)) _
 unfold g_part_Right_1
 rw [evD_K ctx 68 fn68 _ rfl rfl]
 conv => arg 3; whnf
 refine sim_br rfl ?_ ?_
 ·conv => arg 3; whnf
  exact sim_ret rfl
 ·conv => arg 3; whnf
  refine sim_br rfl ?_ ?_
  ·conv => arg 3; whnf
   exact sim_ret rfl
  ·conv => arg 3; whnf
   exact sim_ret rfl
def g_slices_IndexFunc_l_int_int__part_Right_1_e (r : Int) : D := (intD r)

def g_slices_IndexFunc_l_int_int__part_Right_1_L0_x (t0 : Bool) (a : (List Int)) (b0 : Int) : (Int ⊕ Unit) → Ex × List V × Heap
  | (.inl r) => (.ret, [(.d (intD r))], [])
  | (.inr r) => (.exit 0, [.bad], [])

set_option maxRecDepth 100000 in
set_option maxHeartbeats 40000000 in
theorem g_slices_IndexFunc_l_int_int__part_Right_1_L0_ok (t0 : Bool) (a : (List Int)) (b0 : Int) : ∀ (s0 : Int) (r : (Int ⊕ Unit)), lp (g_slices_IndexFunc_l_int_int_L0 a (fun z0 => g_part_Right_1 z0 b0)) s0 = some r → lpW ctx 0 [0, 1, 7, 8] [4] ir81L0 [(.d (D.list t0 (List.map intD a))), (.d (D.fn 68 [(D.rptr [(intD b0)])])), (.d (intD (a.length : Int))), (.d (intD s0))] [] = some ((g_slices_IndexFunc_l_int_int__part_Right_1_L0_x t0 a b0) r) := by
 refine lp_ok (g_slices_IndexFunc_l_int_int__part_Right_1_L0_x t0 a b0) ?_
 intro s0 rcl ih
 show Says _ _ (lpW _ _ _ _ _ _ _)
 unfold g_slices_IndexFunc_l_int_int_L0
 rw [lpW_b]
 conv => arg 3; whnf
 refine sim_br rfl ?_ ?_
 ·conv => arg 3; whnf
  refine sim_get (f := intD) rfl rfl fun x1 hx1 => ?_
  conv => arg 3; whnf
  refine sim_call g_part_Right_1_e (g_part_Right_1_ok x1 b0) rfl fun x2 hx2 => ?_
  conv => arg 3; whnf
  refine sim_br rfl ?_ ?_
  ·conv => arg 3; whnf
   exact sim_ret rfl
  ·conv => arg 3; whnf
   exact sim_again (ih (w64 (s0 + 1)))
 ·conv => arg 3; whnf
  exact sim_ret rfl

set_option maxRecDepth 100000 in
set_option maxHeartbeats 40000000 in
theorem g_slices_IndexFunc_l_int_int__part_Right_1_ok (t0 : Bool) (a : (List Int)) (b0 : Int) : ∀ r, (g_slices_IndexFunc_l_int_int a (fun z0 => g_part_Right_1 z0 b0)) = some r → evD ctx 81 [(.d (D.list t0 (List.map intD a))), (.d (D.fn 68 [(D.rptr [(intD b0)])]))] = some (g_slices_IndexFunc_l_int_int__part_Right_1_e r) := by
 show Says _ (fun r rhs => rhs = some (g_slices_IndexFunc_l_int_int__part_Right_1_e r)) _
 unfold g_slices_IndexFunc_l_int_int
 rw [evD_K ctx 81 fn81 _ rfl rfl]
 conv => arg 3; whnf
 refine sim_let (x' := (a.length : Int)) (len_enc intD a) ?_
 conv => arg 3; whnf
 refine sim_bind (g_slices_IndexFunc_l_int_int__part_Right_1_L0_x t0 a b0) (g_slices_IndexFunc_l_int_int__part_Right_1_L0_ok t0 a b0 0) fun r3 hr3 => ?_
 clear hr3
 rcases r3 with r3 | r3
 ·conv => arg 3; whnf
  exact sim_ret rfl
 ·conv => arg 3; whnf
  exact sim_ret rfl
def g_slices_ContainsFunc_l_int_int__part_Right_1_e (r : Bool) : D := (D.bool r)

set_option maxRecDepth 100000 in
set_option maxHeartbeats 40000000 in
theorem g_slices_ContainsFunc_l_int_int__part_Right_1_ok (t0 : Bool) (a : (List Int)) (b0 : Int) : ∀ r, (g_slices_ContainsFunc_l_int_int a (fun z0 => g_part_Right_1 z0 b0)) = some r → evD ctx 48 [(.d (D.list t0 (List.map intD a))), (.d (D.fn 68 [(D.rptr [(intD b0)])]))] = some (g_slices_ContainsFunc_l_int_int__part_Right_1_e r) := by
 show Says _ (fun r rhs => rhs = some (g_slices_ContainsFunc_l_int_int__part_Right_1_e r)) _
 unfold g_slices_ContainsFunc_l_int_int
 rw [evD_K ctx 48 fn48 _ rfl rfl]
 conv => arg 3; whnf
 refine sim_call g_slices_IndexFunc_l_int_int__part_Right_1_e (g_slices_IndexFunc_l_int_int__part_Right_1_ok t0 a b0) rfl fun x0 hx0 => ?_
 conv => arg 3; whnf
 refine sim_br rfl ?_ ?_
 ·conv => arg 3; whnf
  exact sim_ret rfl
 ·conv => arg 3; whnf
  exact sim_ret rfl
def g_part_Right_e (r : Bool) : D := (D.bool r)

def g_part_Right_L0_x (t0 : Bool) (t1 : Bool) (a : (List ShapeT)) (b : (List Int)) (c : Int) : (Unit ⊕ Unit) → Ex × List V × Heap
  | (.inl r) => (.ret, [(.d (D.bool false))], [])
  | (.inr r) => (.exit 0, [.bad], [])

set_option maxRecDepth 100000 in
set_option maxHeartbeats 40000000 in
theorem g_part_Right_L0_ok (t0 : Bool) (t1 : Bool) (a : (List ShapeT)) (b : (List Int)) (c : Int) : ∀ (s2 : Int) (r : (Unit ⊕ Unit)), lp (g_part_Right_L0 a b c) s2 = some r → lpW ctx 0 [0, 1, 25, 26] [6] ir33L0 [(.d (D.list t0 (List.map shapeD a))), (.d (D.list t1 (List.map intD b))), (.d (intD c)), (.d (intD s2))] [] = some ((g_part_Right_L0_x t0 t1 a b c) r) := by
 refine lp_ok (g_part_Right_L0_x t0 t1 a b c) ?_
 intro s2 rcl ih
 show Says _ _ (lpW _ _ _ _ _ _ _)
 unfold g_part_Right_L0
 rw [lpW_b]
 conv => arg 3; whnf
 refine sim_br rfl ?_ ?_
 ·conv => arg 3; whnf
  refine sim_call g_part_On_e (g_part_On_ok t0 t1 a b s2) rfl fun x3 hx3 => ?_
  conv => arg 3; whnf
  refine sim_call g_edf_Fits_e (g_edf_Fits_ok true x3) rfl fun x4 hx4 => ?_
  conv => arg 3; whnf
  refine sim_br rfl ?_ ?_
  ·conv => arg 3; whnf
   exact sim_again (ih (w64 (s2 + 1)))
  ·conv => arg 3; whnf
   exact sim_ret rfl
 ·conv => arg 3; whnf
  exact sim_ret rfl

set_option maxRecDepth 100000 in
set_option maxHeartbeats 40000000 in
theorem g_part_Right_ok (t0 : Bool) (t1 : Bool) (a : (List ShapeT)) (b : (List Int)) (c : Int) : ∀ r, (g_part_Right a b c) = some r → evD ctx 33 [(.d (D.list t0 (List.map shapeD a))), (.d (D.list t1 (List.map intD b))), (.d (intD c))] = some (g_part_Right_e r) := by
 show Says _ (fun r rhs => rhs = some (g_part_Right_e r)) _
 unfold g_part_Right
 rw [evD_K ctx 33 fn33 _ rfl rfl]
 conv => arg 3; whnf
 refine sim_call g_part_within_e (g_part_within_ok c) rfl fun x0 hx0 => ?_
 conv => arg 3; whnf
 refine sim_br rfl ?_ ?_
 ·conv => arg 3; whnf
  refine sim_let (x' := (b.length : Int)) (len_enc intD b) ?_
  conv => arg 3; whnf
  refine sim_let (x' := (a.length : Int)) (len_enc shapeD a) ?_
  conv => arg 3; whnf
  refine sim_br rfl ?_ ?_
  ·conv => arg 3; whnf
   exact sim_ret rfl
  ·conv => arg 3; whnf
   refine sim_call g_slices_ContainsFunc_l_int_int__part_Right_1_e (g_slices_ContainsFunc_l_int_int__part_Right_1_ok t1 b c) rfl fun x1 hx1 => ?_
   conv => arg 3; whnf
   refine sim_br rfl ?_ ?_
   ·conv => arg 3; whnf
    exact sim_ret rfl
   ·conv => arg 3; whnf
    refine sim_bind (g_part_Right_L0_x t0 t1 a b c) (g_part_Right_L0_ok t0 t1 a b c 0) fun r5 hr5 => ?_
    clear hr5
    rcases r5 with r5 | r5
    ·conv => arg 3; whnf
     exact sim_ret rfl
    ·conv => arg 3; whnf
     exact sim_ret rfl
 ·conv => arg 3; whnf
  exact sim_ret rfl
def g_law16_PartWider_e (r : Bool) : D := (D.bool r)

set_option maxRecDepth 100000 in
set_option maxHeartbeats 40000000 in
theorem g_law16_PartWider_ok (t0 : Bool) (t1 : Bool) (a : (List ShapeT)) (b : (List Int)) (c : Int) (d : Int) : ∀ r, (g_law16_PartWider a b c d) = some r → evD ctx 14 [(.d (D.list t0 (List.map shapeD a))), (.d (D.list t1 (List.map intD b))), (.d (intD c)), (.d (intD d))] = some (g_law16_PartWider_e r) := by
 show Says _ (fun r rhs => rhs = some (g_law16_PartWider_e r)) _
 unfold g_law16_PartWider
 rw [evD_K ctx 14 fn14 _ rfl rfl]
 conv => arg 3; whnf
 refine sim_call D.bool (g_law16_awake_ok) rfl fun x0 hx0 => ?_
 conv => arg 3; whnf
 refine sim_br rfl ?_ ?_
 ·conv => arg 3; whnf
  refine sim_let (x' := (a.length : Int)) (len_enc shapeD a) ?_
  conv => arg 3; whnf
  refine sim_br rfl ?_ ?_
  ·conv => arg 3; whnf
   refine sim_call D.bool (g_law16_awake_ok) rfl fun x1 hx1 => ?_
   conv => arg 3; whnf
   refine sim_br rfl ?_ ?_
   ·conv => arg 3; whnf
    exact sim_ret rfl
   ·conv => arg 3; whnf
    exact sim_ret rfl
  ·conv => arg 3; whnf
   refine sim_let (x' := (b.length : Int)) (len_enc intD b) ?_
   conv => arg 3; whnf
   refine sim_br rfl ?_ ?_
   ·conv => arg 3; whnf
    refine sim_call D.bool (g_law16_awake_ok) rfl fun x2 hx2 => ?_
    conv => arg 3; whnf
    refine sim_br rfl ?_ ?_
    ·conv => arg 3; whnf
     exact sim_ret rfl
    ·conv => arg 3; whnf
     exact sim_ret rfl
   ·conv => arg 3; whnf
    refine sim_br rfl ?_ ?_
    ·conv => arg 3; whnf
     refine sim_call D.bool (g_law16_awake_ok) rfl fun x3 hx3 => ?_
     conv => arg 3; whnf
     refine sim_br rfl ?_ ?_
     ·conv => arg 3; whnf
      exact sim_ret rfl
     ·conv => arg 3; whnf
      exact sim_ret rfl
    ·conv => arg 3; whnf
     refine sim_bind (g_law15_Own_e t0 a) (g_law15_Own_ok t0 a) fun x4 hx4 => ?_
     conv => arg 3; whnf
     refine sim_t (szAt_map (f := intD) (fun _ => ⟨rfl, rfl⟩) b 0) ?_
     conv => arg 3; whnf
     refine sim_br (ble_enc1 intD b) ?_ ?_
     ·conv => arg 3; whnf
      refine sim_let (rfl : _ = List.map intD b) ?_
      conv => arg 3; whnf
      refine sim_call g_part_Right_e (g_part_Right_ok false false a b c) rfl fun x5 hx5 => ?_
      conv => arg 3; whnf
      refine sim_br rfl ?_ ?_
      ·conv => arg 3; whnf
       refine sim_bind (g_law15_Own_e t0 a) (g_law15_Own_ok t0 a) fun x6 hx6 => ?_
       conv => arg 3; whnf
       refine sim_t (szAt_map (f := intD) (fun _ => ⟨rfl, rfl⟩) b 0) ?_
       conv => arg 3; whnf
       refine sim_br (ble_enc1 intD b) ?_ ?_
       ·conv => arg 3; whnf
        refine sim_let (rfl : _ = List.map intD b) ?_
        conv => arg 3; whnf
        refine sim_call g_part_Right_e (g_part_Right_ok false false a b (w64 (c + 1))) rfl fun x7 hx7 => ?_
        conv => arg 3; whnf
        refine sim_br rfl ?_ ?_
        ·conv => arg 3; whnf
         refine sim_br rfl ?_ ?_
         ·conv => arg 3; whnf
          exact sim_ret rfl
         ·conv => arg 3; whnf
          refine sim_let (x' := (a.length : Int)) (len_enc shapeD a) ?_
          conv => arg 3; whnf
          refine sim_br rfl ?_ ?_
          ·conv => arg 3; whnf
           exact sim_ret rfl
          ·conv => arg 3; whnf
           refine sim_let (x' := (b.length : Int)) (len_enc intD b) ?_
           conv => arg 3; whnf
           refine sim_br rfl ?_ ?_
           ·conv => arg 3; whnf
            exact sim_ret rfl
           ·conv => arg 3; whnf
            refine sim_bind (g_law15_Own_e t0 a) (g_law15_Own_ok t0 a) fun x8 hx8 => ?_
            conv => arg 3; whnf
            refine sim_t (szAt_map (f := intD) (fun _ => ⟨rfl, rfl⟩) b 0) ?_
            conv => arg 3; whnf
            refine sim_br (ble_enc1 intD b) ?_ ?_
            ·conv => arg 3; whnf
             refine sim_let (rfl : _ = List.map intD b) ?_
             conv => arg 3; whnf
             refine sim_br rfl ?_ ?_
             ·conv => arg 3; whnf
              refine sim_br (sl_c0 shapeD a d.toNat) ?_ ?_
              ·conv => arg 3; whnf
               refine sim_let (x' := 0) rfl ?_
               conv => arg 3; whnf
               refine sim_let (x' := d.toNat) (by first | rfl | rw [List.length_map] | rw [dt_enc, List.length_map]) ?_
               conv => arg 3; whnf
               refine sim_br rfl ?_ ?_
               ·conv => arg 3; whnf
                refine sim_br (sl_c_all shapeD a (w64 (d + 1)).toNat) ?_ ?_
                ·conv => arg 3; whnf
                 refine sim_let (x' := (w64 (d + 1)).toNat) rfl ?_
                 conv => arg 3; whnf
                 refine sim_let (x' := ((List.length a) - (w64 (d + 1)).toNat)) (by first | rfl | rw [List.length_map] | rw [dt_enc, List.length_map]) ?_
                 conv => arg 3; whnf
                 refine sim_t (by rw [dt_enc]; exact szAt_map (f := shapeD) (fun _ => ⟨rfl, rfl⟩) _ 0) ?_
                 conv => arg 3; whnf
                 refine sim_br (ble_cut shapeD a (List.take ((List.length a) - (w64 (d + 1)).toNat) (List.drop (w64 (d + 1)).toNat a)) _ (dt_enc shapeD _ _ _) (0 + d.toNat)) ?_ ?_
                 ·conv => arg 3; whnf
                  refine sim_let (cut_enc shapeD a (List.take ((List.length a) - (w64 (d + 1)).toNat) (List.drop (w64 (d + 1)).toNat a)) _ (dt_enc shapeD _ _ _) 0 d.toNat) ?_
                  conv => arg 3; whnf
                  refine sim_let (x' := (d.toNat + List.length (List.take ((List.length a) - (w64 (d + 1)).toNat) (List.drop (w64 (d + 1)).toNat a)))) (by rw [dt_enc, List.length_map]) ?_
                  conv => arg 3; whnf
                  refine sim_br rfl ?_ ?_
                  ·conv => arg 3; whnf
                   refine sim_br (sl_c0 intD b d.toNat) ?_ ?_
                   ·conv => arg 3; whnf
                    refine sim_let (x' := 0) rfl ?_
                    conv => arg 3; whnf
                    refine sim_let (x' := d.toNat) (by first | rfl | rw [List.length_map] | rw [dt_enc, List.length_map]) ?_
                    conv => arg 3; whnf
                    refine sim_br rfl ?_ ?_
                    ·conv => arg 3; whnf
                     refine sim_br (sl_c_all intD b (w64 (d + 1)).toNat) ?_ ?_
                     ·conv => arg 3; whnf
                      refine sim_let (x' := (w64 (d + 1)).toNat) rfl ?_
                      conv => arg 3; whnf
                      refine sim_let (x' := ((List.length b) - (w64 (d + 1)).toNat)) (by first | rfl | rw [List.length_map] | rw [dt_enc, List.length_map]) ?_
                      conv => arg 3; whnf
                      refine sim_t (by rw [dt_enc]; exact szAt_map (f := intD) (fun _ => ⟨rfl, rfl⟩) _ 0) ?_
                      conv => arg 3; whnf
                      refine sim_br (ble_cut intD b (List.take ((List.length b) - (w64 (d + 1)).toNat) (List.drop (w64 (d + 1)).toNat b)) _ (dt_enc intD _ _ _) (0 + d.toNat)) ?_ ?_
                      ·conv => arg 3; whnf
                       refine sim_let (cut_enc intD b (List.take ((List.length b) - (w64 (d + 1)).toNat) (List.drop (w64 (d + 1)).toNat b)) _ (dt_enc intD _ _ _) 0 d.toNat) ?_
                       conv => arg 3; whnf
                       refine sim_let (x' := (d.toNat + List.length (List.take ((List.length b) - (w64 (d + 1)).toNat) (List.drop (w64 (d + 1)).toNat b)))) (by rw [dt_enc, List.length_map]) ?_
                       conv => arg 3; whnf
                       refine sim_call g_part_Right_e (g_part_Right_ok false false (List.take (d.toNat + List.length (List.take ((List.length a) - (w64 (d + 1)).toNat) (List.drop (w64 (d + 1)).toNat a))) (List.drop 0 (List.take (0 + d.toNat) a ++ ((List.take ((List.length a) - (w64 (d + 1)).toNat) (List.drop (w64 (d + 1)).toNat a)) ++ List.drop (0 + d.toNat + List.length (List.take ((List.length a) - (w64 (d + 1)).toNat) (List.drop (w64 (d + 1)).toNat a))) a)))) (List.take (d.toNat + List.length (List.take ((List.length b) - (w64 (d + 1)).toNat) (List.drop (w64 (d + 1)).toNat b))) (List.drop 0 (List.take (0 + d.toNat) b ++ ((List.take ((List.length b) - (w64 (d + 1)).toNat) (List.drop (w64 (d + 1)).toNat b)) ++ List.drop (0 + d.toNat + List.length (List.take ((List.length b) - (w64 (d + 1)).toNat) (List.drop (w64 (d + 1)).toNat b))) b)))) c) (by first | rfl | simp only [dt_enc]) fun x9 hx9 => ?_
                       conv => arg 3; whnf
                       refine sim_br rfl ?_ ?_
                       ·conv => arg 3; whnf
                        exact sim_ret rfl
                       ·conv => arg 3; whnf
                        exact sim_ret rfl
                      ·exact sim_none
                     ·exact sim_none
                    ·exact sim_none
                   ·exact sim_none
                  ·exact sim_none
                 ·exact sim_none
                ·exact sim_none
               ·exact sim_none
              ·exact sim_none
             ·exact sim_none
            ·exact sim_none
        ·conv => arg 3; whnf
         exact sim_ret rfl
       ·exact sim_none
      ·conv => arg 3; whnf
       refine sim_call D.bool (g_law16_awake_ok) rfl fun x10 hx10 => ?_
       conv => arg 3; whnf
       refine sim_br rfl ?_ ?_
       ·conv => arg 3; whnf
        exact sim_ret rfl
       ·conv => arg 3; whnf
        exact sim_ret rfl
     ·exact sim_none
 ·conv => arg 3; whnf
  refine sim_call D.bool (g_law16_awake_ok) rfl fun x11 hx11 => ?_
  conv => arg 3; whnf
  refine sim_br rfl ?_ ?_
  ·conv => arg 3; whnf
   exact sim_ret rfl
  ·conv => arg 3; whnf
   exact sim_ret rfl
end Go.Proofs.YtakebhleglnpjaaDoor
