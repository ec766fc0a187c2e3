/- DescCounts: part 6 of 7 of the proof. -/
import Derived.Test.YtakebhleglnpjaaDoorZDescCountse
import Derived.KernelRfl
namespace Go.Proofs.YtakebhleglnpjaaDoor
open Go Go.Proofs.YtakebhleglnpjaaDoorE
set_option linter.unusedVariables false
set_option linter.unusedSimpArgs false
theorem g_law05_awake_ok : ∀ r, g_law05_awake = some r → evD ctx 15 [] = some (D.bool r) := fun r h => by
  cases h
  exact evD_of 100 (by kernel_rfl)
def g_ref05_Few_e (r : Bool) : D := (D.bool r)
def g_ref05_Few_L0_x (t0 : Bool) (t1 : Bool) (t2 : Bool) (t3 : Bool) (a : DescT) : (Unit ⊕ Unit) → Ex × List V × Heap
  | (.inl r) => (.ret, [(.ptr 0 0), (.d (D.bool false))], [(.cells [(.d (intD a.period)), (.d (intD a.deadline)), (.d (D.list t0 (List.map partD a.parts))), (.d (D.list t1 (List.map edgeD a.edges))), (.d (D.list t2 (List.map futureD a.futures))), (.d (D.list t3 (List.map barrierD a.barriers)))])])
  | (.inr r) => (.exit 0, [(.ptr 0 0), .bad], [(.cells [(.d (intD a.period)), (.d (intD a.deadline)), (.d (D.list t0 (List.map partD a.parts))), (.d (D.list t1 (List.map edgeD a.edges))), (.d (D.list t2 (List.map futureD a.futures))), (.d (D.list t3 (List.map barrierD a.barriers)))])])
set_option maxRecDepth 100000 in
set_option maxHeartbeats 40000000 in
theorem g_ref05_Few_L0_ok (t0 : Bool) (t1 : Bool) (t2 : Bool) (t3 : Bool) (a : DescT) : ∀ (s0 : Int) (r : (Unit ⊕ Unit)), lp (g_ref05_Few_L0 a) s0 = some r → lpW ctx 0 [1, 3] [1, 2] ir16L0 [(.ptr 0 0), (.d (intD s0))] [(.cells [(.d (intD a.period)), (.d (intD a.deadline)), (.d (D.list t0 (List.map partD a.parts))), (.d (D.list t1 (List.map edgeD a.edges))), (.d (D.list t2 (List.map futureD a.futures))), (.d (D.list t3 (List.map barrierD a.barriers)))])] = some ((g_ref05_Few_L0_x t0 t1 t2 t3 a) r) := by
 refine lp_ok (g_ref05_Few_L0_x t0 t1 t2 t3 a) ?_
 intro s0 rcl ih
 show Says _ _ (lpW _ _ _ _ _ _ _)
 unfold g_ref05_Few_L0
 rw [lpW_b]
 conv => arg 3; whnf
 refine sim_let (x' := (a.barriers.length : Int)) (len_enc barrierD a.barriers) ?_
 conv => arg 3; whnf
 refine sim_br rfl ?_ ?_
 ·conv => arg 3; whnf
  refine sim_br rfl ?_ ?_
  ·conv => arg 3; whnf
   refine sim_get (f := barrierD) rfl rfl fun x1 hx1 => ?_
   conv => arg 3; whnf
   refine sim_let (x' := (x1.ins.length : Int)) (len_enc intD x1.ins) ?_
   conv => arg 3; whnf
   refine sim_br rfl ?_ ?_
   ·conv => arg 3; whnf
    exact sim_ret rfl
   ·conv => arg 3; whnf
    refine sim_known (get_of (f := barrierD) rfl hx1) ?_
    conv => arg 3; whnf
    refine sim_let (x' := (x1.outs.length : Int)) (len_enc intD x1.outs) ?_
    conv => arg 3; whnf
    refine sim_br rfl ?_ ?_
    ·conv => arg 3; whnf
     exact sim_ret rfl
    ·conv => arg 3; whnf
     exact sim_again (ih (w64 (s0 + 1)))
  ·conv => arg 3; whnf
   exact sim_ret rfl
 ·conv => arg 3; whnf
  exact sim_ret rfl
set_option maxRecDepth 100000 in
set_option maxHeartbeats 40000000 in
theorem g_ref05_Few_ok (t0 : Bool) (t1 : Bool) (t2 : Bool) (t3 : Bool) (a : DescT) : ∀ r, (g_ref05_Few a) = some r → evD ctx 16 [(.d (D.agg [(intD a.period), (intD a.deadline), (D.list t0 (List.map partD a.parts)), (D.list t1 (List.map edgeD a.edges)), (D.list t2 (List.map futureD a.futures)), (D.list t3 (List.map barrierD a.barriers))]))] = some (g_ref05_Few_e r) := by
 show Says _ (fun r rhs => rhs = some (g_ref05_Few_e r)) _
 unfold g_ref05_Few
 rw [evD_K ctx 16 fn16 _ rfl rfl]
 conv => arg 3; whnf
 refine sim_bind (g_ref05_Few_L0_x t0 t1 t2 t3 a) (g_ref05_Few_L0_ok t0 t1 t2 t3 a 0) fun r2 hr2 => ?_
 clear hr2
 rcases r2 with r2 | r2
 ·conv => arg 3; whnf
  exact sim_ret rfl
 ·conv => arg 3; whnf
  refine sim_let (x' := (a.parts.length : Int)) (len_enc partD a.parts) ?_
  conv => arg 3; whnf
  refine sim_br rfl ?_ ?_
  ·conv => arg 3; whnf
   refine sim_let (x' := (a.edges.length : Int)) (len_enc edgeD a.edges) ?_
   conv => arg 3; whnf
   refine sim_br rfl ?_ ?_
   ·conv => arg 3; whnf
    refine sim_let (x' := (a.futures.length : Int)) (len_enc futureD a.futures) ?_
    conv => arg 3; whnf
    refine sim_br rfl ?_ ?_
    ·conv => arg 3; whnf
     refine sim_let (x' := (a.barriers.length : Int)) (len_enc barrierD a.barriers) ?_
     conv => arg 3; whnf
     refine sim_br rfl ?_ ?_
     ·conv => arg 3; whnf
      exact sim_ret rfl
     ·conv => arg 3; whnf
      exact sim_ret rfl
    ·conv => arg 3; whnf
     exact sim_ret rfl
   ·conv => arg 3; whnf
    exact sim_ret rfl
  ·conv => arg 3; whnf
   exact sim_ret rfl
def g_law05_Own_e (t0 : Bool) (t1 : Bool) (t2 : Bool) (t3 : Bool) (a : DescT) : (List BarrierT) → V × Heap
  | r => ((.agg [(.d (intD a.period)), (.d (intD a.deadline)), (.sl 0 3), (.sl 1 2), (.sl 2 3), (.sl 3 2)]), [(.arr 3 (List.map partD a.parts)), (.arr 2 (List.map edgeD a.edges)), (.arr 3 (List.map futureD a.futures)), (.arr 2 (List.map barrierD r))])
def g_law05_Own_L0_x (t0 : Bool) (t1 : Bool) (t2 : Bool) (t3 : Bool) (a : DescT) : (List BarrierT) → Ex × List V × Heap
  | r => (.exit 0, [(.ptr 0 0), (.ptr 1 0)], [(.cells [(.d (intD 0)), (.d (intD 0)), (.sl 2 3), (.sl 3 2), (.sl 4 3), (.sl 5 2)]), (.cells [(.d (intD a.period)), (.d (intD a.deadline)), (.sl 6 3), (.sl 7 2), (.sl 8 3), (.sl 9 2)]), (.arr 3 []), (.arr 2 []), (.arr 3 []), (.arr 2 []), (.arr 3 (List.map partD a.parts)), (.arr 2 (List.map edgeD a.edges)), (.arr 3 (List.map futureD a.futures)), (.arr 2 (List.map barrierD r))])
set_option maxRecDepth 100000 in
set_option maxHeartbeats 40000000 in
theorem g_law05_Own_L0_ok (t0 : Bool) (t1 : Bool) (t2 : Bool) (t3 : Bool) (a : DescT) : ∀ (s0 : Int × (List BarrierT)) (r : (List BarrierT)), lp (g_law05_Own_L0 a) s0 = some r → lpW ctx 0 [1, 2, 3, 4] [2, 3] ir18L0 [(.ptr 0 0), (.ptr 1 0), (.ptr 2 0), (.d (intD s0.1))] [(.cells [(.d (intD a.period)), (.d (intD a.deadline)), (.d (D.list t0 (List.map partD a.parts))), (.d (D.list t1 (List.map edgeD a.edges))), (.d (D.list t2 (List.map futureD a.futures))), (.d (D.list t3 (List.map barrierD a.barriers)))]), (.cells [(.d (intD 0)), (.d (intD 0)), (.sl 3 3), (.sl 4 2), (.sl 5 3), (.sl 6 2)]), (.cells [(.d (intD a.period)), (.d (intD a.deadline)), (.sl 7 3), (.sl 8 2), (.sl 9 3), (.sl 10 2)]), (.arr 3 []), (.arr 2 []), (.arr 3 []), (.arr 2 []), (.arr 3 (List.map partD a.parts)), (.arr 2 (List.map edgeD a.edges)), (.arr 3 (List.map futureD a.futures)), (.arr 2 (List.map barrierD s0.2))] = some ((g_law05_Own_L0_x t0 t1 t2 t3 a) r) := by
 refine lp_ok (g_law05_Own_L0_x t0 t1 t2 t3 a) ?_
 intro s0 rcl ih
 show Says _ _ (lpW _ _ _ _ _ _ _)
 unfold g_law05_Own_L0
 rw [lpW_b]
 conv => arg 3; whnf
 refine sim_let (x' := (a.barriers.length : Int)) (len_enc barrierD a.barriers) ?_
 conv => arg 3; whnf
 refine sim_br rfl ?_ ?_
 ·conv => arg 3; whnf
  refine sim_get (f := barrierD) rfl rfl fun x1 hx1 => ?_
  conv => arg 3; whnf
  refine sim_t (szAt_map (f := intD) (fun _ => ⟨rfl, rfl⟩) x1.ins 0) ?_
  conv => arg 3; whnf
  refine sim_br (ble_enc1 intD x1.ins) ?_ ?_
  ·conv => arg 3; whnf
   refine sim_let (rfl : _ = List.map intD x1.ins) ?_
   conv => arg 3; whnf
   refine sim_known (get_of (f := barrierD) rfl hx1) ?_
   conv => arg 3; whnf
   refine sim_t (szAt_map (f := intD) (fun _ => ⟨rfl, rfl⟩) x1.outs 0) ?_
   conv => arg 3; whnf
   refine sim_br (ble_enc1 intD x1.outs) ?_ ?_
   ·conv => arg 3; whnf
    refine sim_let (rfl : _ = List.map intD x1.outs) ?_
    conv => arg 3; whnf
    refine sim_t rfl ?_
    conv => arg 3; whnf
    refine sim_br (ble_enc barrierD s0.2 1) ?_ ?_
    ·conv => arg 3; whnf
     refine sim_let (app_enc barrierD s0.2 [x1]) ?_
     conv => arg 3; whnf
     exact sim_again (ih ((w64 (s0.1 + 1)), (s0.2 ++ [x1])))
    ·exact sim_none
   ·exact sim_none
  ·exact sim_none
 ·conv => arg 3; whnf
  exact sim_ret rfl
set_option maxRecDepth 100000 in
set_option maxHeartbeats 40000000 in
theorem g_law05_Own_ok (t0 : Bool) (t1 : Bool) (t2 : Bool) (t3 : Bool) (a : DescT) : ∀ r, (g_law05_Own a) = some r → evW ctx 18 [(.d (D.agg [(intD a.period), (intD a.deadline), (D.list t0 (List.map partD a.parts)), (D.list t1 (List.map edgeD a.edges)), (D.list t2 (List.map futureD a.futures)), (D.list t3 (List.map barrierD a.barriers))]))] [] = some ((g_law05_Own_e t0 t1 t2 t3 a) r) := by
 show Says _ (fun r rhs => rhs = some ((g_law05_Own_e t0 t1 t2 t3 a) r)) _
 unfold g_law05_Own
 rw [evW_K ctx 18 fn18 _ _ rfl rfl]
 conv => arg 3; whnf
 refine sim_t (szAt_map (f := partD) (fun _ => ⟨rfl, rfl⟩) a.parts 0) ?_
 conv => arg 3; whnf
 refine sim_br (ble_enc1 partD a.parts) ?_ ?_
 ·conv => arg 3; whnf
  refine sim_let (rfl : _ = List.map partD a.parts) ?_
  conv => arg 3; whnf
  refine sim_t (szAt_map (f := edgeD) (fun _ => ⟨rfl, rfl⟩) a.edges 0) ?_
  conv => arg 3; whnf
  refine sim_br (ble_enc1 edgeD a.edges) ?_ ?_
  ·conv => arg 3; whnf
   refine sim_let (rfl : _ = List.map edgeD a.edges) ?_
   conv => arg 3; whnf
   refine sim_t (szAt_map (f := futureD) (fun _ => ⟨rfl, rfl⟩) a.futures 0) ?_
   conv => arg 3; whnf
   refine sim_br (ble_enc1 futureD a.futures) ?_ ?_
   ·conv => arg 3; whnf
    refine sim_let (rfl : _ = List.map futureD a.futures) ?_
    conv => arg 3; whnf
    refine sim_bind (g_law05_Own_L0_x t0 t1 t2 t3 a) (g_law05_Own_L0_ok t0 t1 t2 t3 a (0, ([] : (List BarrierT)))) fun r2 hr2 => ?_
    conv => arg 3; whnf
    exact sim_ret rfl
   ·exact sim_none
  ·exact sim_none
 ·exact sim_none
def g_desc_within_e (r : Bool) : D := (D.bool r)
set_option maxRecDepth 100000 in
set_option maxHeartbeats 40000000 in
theorem g_desc_within_ok (a : Int) (b : Int) (c : Int) : ∀ r, (g_desc_within a b c) = some r → evD ctx 37 [(.d (intD a)), (.d (intD b)), (.d (intD c))] = some (g_desc_within_e r) := by
 show Says _ (fun r rhs => rhs = some (g_desc_within_e r)) _
 unfold g_desc_within
 rw [evD_K ctx 37 fn37 _ rfl rfl]
 conv => arg 3; whnf
 refine sim_br rfl ?_ ?_
 ·conv => arg 3; whnf
  refine sim_br rfl ?_ ?_
  ·conv => arg 3; whnf
   exact sim_ret rfl
  ·conv => arg 3; whnf
   exact sim_ret rfl
 ·conv => arg 3; whnf
  exact sim_ret rfl
def g_num_Check_e (r : Int) : D := (intD r)
set_option maxRecDepth 100000 in
set_option maxHeartbeats 40000000 in
theorem g_num_Check_ok (a : Int) : ∀ r, (g_num_Check a) = some r → evD ctx 74 [(.d (intD a))] = some (g_num_Check_e r) := by
 show Says _ (fun r rhs => rhs = some (g_num_Check_e r)) _
 unfold g_num_Check
 rw [evD_K ctx 74 fn74 _ rfl rfl]
 conv => arg 3; whnf
 refine sim_br rfl ?_ ?_
 ·conv => arg 3; whnf
  exact sim_ret rfl
 ·conv => arg 3; whnf
  refine sim_br rfl ?_ ?_
  ·conv => arg 3; whnf
   exact sim_ret rfl
  ·conv => arg 3; whnf
   exact sim_ret rfl
def g_math_bits_OnesCount64_e (r : Int) : D := (intD r)
set_option maxRecDepth 100000 in
set_option maxHeartbeats 40000000 in
theorem g_math_bits_OnesCount64_ok (a : Int) : ∀ r, (g_math_bits_OnesCount64 a) = some r → evD ctx 95 [(.d (D.int .u64 a))] = some (g_math_bits_OnesCount64_e r) := by
 show Says _ (fun r rhs => rhs = some (g_math_bits_OnesCount64_e r)) _
 unfold g_math_bits_OnesCount64
 rw [evD_K ctx 95 fn95 _ rfl rfl]
 conv => arg 3; whnf
 refine sim_f rfl ?_
 conv => arg 3; whnf
 refine sim_f rfl ?_
 conv => arg 3; whnf
 refine sim_f rfl ?_
 conv => arg 3; whnf
 refine sim_f rfl ?_
 conv => arg 3; whnf
 refine sim_f rfl ?_
 conv => arg 3; whnf
 refine sim_f rfl ?_
 conv => arg 3; whnf
 exact sim_ret rfl
def g_math_bits_OnesCount_e (r : Int) : D := (intD r)
set_option maxRecDepth 100000 in
set_option maxHeartbeats 40000000 in
theorem g_math_bits_OnesCount_ok (a : Int) : ∀ r, (g_math_bits_OnesCount a) = some r → evD ctx 75 [(.d (D.int .u64 a))] = some (g_math_bits_OnesCount_e r) := by
 show Says _ (fun r rhs => rhs = some (g_math_bits_OnesCount_e r)) _
 unfold g_math_bits_OnesCount
 rw [evD_K ctx 75 fn75 _ rfl rfl]
 conv => arg 3; whnf
 refine sim_call g_math_bits_OnesCount64_e (g_math_bits_OnesCount64_ok a) rfl fun x0 hx0 => ?_
 conv => arg 3; whnf
 exact sim_ret rfl
theorem wrapU (n : Int) : 0 ≤ IntKind.u64.wrap n ∧ IntKind.u64.wrap n < 18446744073709551616 := by
  have : IntKind.u64.wrap n = n % 18446744073709551616 := by
    show (if (false && decide (n % 18446744073709551616 ≥ 9223372036854775808)) = true then n % 18446744073709551616 - 18446744073709551616 else n % 18446744073709551616) = _
    simp
  rw [this]
  omega
theorem shr58 (n : Int) : ∃ j : Nat, j < 64 ∧ (IntKind.u64.wrap n).fdiv (2 ^ (min (Int.toNat 58) IntKind.u64.bits)) = (j : Int) := by
  obtain ⟨h1, h2⟩ := wrapU n
  have e : (2 : Int) ^ (min (Int.toNat 58) IntKind.u64.bits) = 288230376151711744 := by decide
  rw [e, Int.fdiv_eq_ediv_of_nonneg _ (by omega)]
  refine ⟨((IntKind.u64.wrap n) / 288230376151711744).toNat, ?_, ?_⟩ <;> omega
theorem tab64 : ∀ j : Nat, j < 64 → loadE [] 1 false (.d (.rptr (glob1.drop (j * 1)))) = some (.d (.int .u8 (tz64tab.getD j 0))) := by
  have key : ((List.range 64).all fun j => match loadE [] 1 false (.d (.rptr (glob1.drop (j * 1)))) with | some (.d (.int .u8 z)) => z == tz64tab.getD j 0 | _ => false) = true := by rfl
  intro j hj
  have := List.all_eq_true.1 key j (by simpa using hj)
  split at this
  · rename_i z hz
    rw [hz, eq_of_beq this]
  · cases this
def g_math_bits_TrailingZeros64_e (r : Int) : D := intD r
set_option maxRecDepth 100000 in
theorem g_math_bits_TrailingZeros64_ok (a : Int) : ∀ r, g_math_bits_TrailingZeros64 a = some r → evD ctx 97 [.d (.int .u64 a)] = some (g_math_bits_TrailingZeros64_e r) := by
  intro r hr
  unfold g_math_bits_TrailingZeros64 at hr
  have hr := Option.some.inj hr
  subst hr
  rw [evD_K ctx 97 fn97 _ rfl rfl]
  by_cases h : (a == 0) = true
  · conv => lhs; whnf
    rw [h, br_t]
    rfl
  · replace h : (a == 0) = false := by simpa using h
    obtain ⟨j, hj, e⟩ := shr58 (IntKind.u64.wrap ((BitVec.ofInt IntKind.u64.bits a &&& BitVec.ofInt IntKind.u64.bits (IntKind.u64.wrap (0 - a))).toNat : Int) * 285870213051353865)
    conv => lhs; whnf
    rw [h, br_f]
    conv => lhs; whnf
    refine (br_ff (by rfl)).trans ?_
    conv => lhs; whnf
    rw [e]
    refine (br_tt (by simp; omega)).trans ?_
    conv => lhs; whnf
    erw [tab64 j hj]
    rfl
def g_math_bits_TrailingZeros_e (r : Int) : D := (intD r)
set_option maxRecDepth 100000 in
set_option maxHeartbeats 40000000 in
theorem g_math_bits_TrailingZeros_ok (a : Int) : ∀ r, (g_math_bits_TrailingZeros a) = some r → evD ctx 76 [(.d (D.int .u64 a))] = some (g_math_bits_TrailingZeros_e r) := by
 show Says _ (fun r rhs => rhs = some (g_math_bits_TrailingZeros_e r)) _
 unfold g_math_bits_TrailingZeros
 rw [evD_K ctx 76 fn76 _ rfl rfl]
 conv => arg 3; whnf
 refine sim_call g_math_bits_TrailingZeros64_e (g_math_bits_TrailingZeros64_ok a) rfl fun x0 hx0 => ?_
 conv => arg 3; whnf
 exact sim_ret rfl
def g_num_Two_e (r : (Int × Bool)) : D := (D.tup [(intD r.1), (D.bool r.2)])
set_option maxRecDepth 100000 in
set_option maxHeartbeats 40000000 in
theorem g_num_Two_ok (a : Int) : ∀ r, (g_num_Two a) = some r → evD ctx 38 [(.d (intD a))] = some (g_num_Two_e r) := by
 show Says _ (fun r rhs => rhs = some (g_num_Two_e r)) _
 unfold g_num_Two
 rw [evD_K ctx 38 fn38 _ rfl rfl]
 conv => arg 3; whnf
 refine sim_call g_num_Check_e (g_num_Check_ok a) rfl fun x0 hx0 => ?_
 conv => arg 3; whnf
 refine sim_br rfl ?_ ?_
 ·conv => arg 3; whnf
  exact sim_ret rfl
 ·conv => arg 3; whnf
  refine sim_call g_math_bits_OnesCount_e (g_math_bits_OnesCount_ok (IntKind.u64.wrap a)) rfl fun x1 hx1 => ?_
  conv => arg 3; whnf
  refine sim_br rfl ?_ ?_
  ·conv => arg 3; whnf
   exact sim_ret rfl
  ·conv => arg 3; whnf
   refine sim_call g_math_bits_TrailingZeros_e (g_math_bits_TrailingZeros_ok (IntKind.u64.wrap a)) rfl fun x2 hx2 => ?_
   conv => arg 3; whnf
   exact sim_ret rfl
def g_desc_part_e (r : Bool) : D := (D.bool r)
set_option maxRecDepth 100000 in
set_option maxHeartbeats 40000000 in
theorem g_desc_part_ok (a : PartT) : ∀ r, (g_desc_part a) = some r → evD ctx 40 [(.d (D.agg [(intD a.op), (intD a.arg), (intD a.work)]))] = some (g_desc_part_e r) := by
 show Says _ (fun r rhs => rhs = some (g_desc_part_e r)) _
 unfold g_desc_part
 rw [evD_K ctx 40 fn40 _ rfl rfl]
 conv => arg 3; whnf
 refine sim_call g_desc_within_e (g_desc_within_ok a.op 0 5) rfl fun x0 hx0 => ?_
 conv => arg 3; whnf
 refine sim_br rfl ?_ ?_
 ·conv => arg 3; whnf
  refine sim_call g_desc_within_e (g_desc_within_ok a.arg 0 2147483647) rfl fun x1 hx1 => ?_
  conv => arg 3; whnf
  refine sim_br rfl ?_ ?_
  ·conv => arg 3; whnf
   refine sim_call g_desc_within_e (g_desc_within_ok a.work 1 100) rfl fun x2 hx2 => ?_
   conv => arg 3; whnf
   refine sim_br rfl ?_ ?_
   ·conv => arg 3; whnf
    exact sim_ret rfl
   ·conv => arg 3; whnf
    exact sim_ret rfl
  ·conv => arg 3; whnf
   exact sim_ret rfl
 ·conv => arg 3; whnf
  exact sim_ret rfl
def g_slices_IndexFunc_l_Part_Part__desc_part_e (r : Int) : D := (intD r)
def g_slices_IndexFunc_l_Part_Part__desc_part_L0_x (t0 : Bool) (a : (List PartT)) : (Int ⊕ Unit) → Ex × List V × Heap
  | (.inl r) => (.ret, [(.d (intD r))], [])
  | (.inr r) => (.exit 0, [.bad], [])
set_option maxRecDepth 100000 in
set_option maxHeartbeats 40000000 in
theorem g_slices_IndexFunc_l_Part_Part__desc_part_L0_ok (t0 : Bool) (a : (List PartT)) : ∀ (s0 : Int) (r : (Int ⊕ Unit)), lp (g_slices_IndexFunc_l_Part_Part_L0 a (fun z0 => g_desc_part z0)) s0 = some r → lpW ctx 0 [0, 1, 7, 8] [4] ir77L0 [(.d (D.list t0 (List.map partD a))), (.d (D.fn 40 [])), (.d (intD (a.length : Int))), (.d (intD s0))] [] = some ((g_slices_IndexFunc_l_Part_Part__desc_part_L0_x t0 a) r) := by
 refine lp_ok (g_slices_IndexFunc_l_Part_Part__desc_part_L0_x t0 a) ?_
 intro s0 rcl ih
 show Says _ _ (lpW _ _ _ _ _ _ _)
 unfold g_slices_IndexFunc_l_Part_Part_L0
 rw [lpW_b]
 conv => arg 3; whnf
 refine sim_br rfl ?_ ?_
 ·conv => arg 3; whnf
  refine sim_get (f := partD) rfl rfl fun x1 hx1 => ?_
  conv => arg 3; whnf
  refine sim_call g_desc_part_e (g_desc_part_ok x1) rfl fun x2 hx2 => ?_
  conv => arg 3; whnf
  refine sim_br rfl ?_ ?_
  ·conv => arg 3; whnf
   exact sim_ret rfl
  ·conv => arg 3; whnf
   exact sim_again (ih (w64 (s0 + 1)))
 ·conv => arg 3; whnf
  exact sim_ret rfl
set_option maxRecDepth 100000 in
set_option maxHeartbeats 40000000 in
theorem g_slices_IndexFunc_l_Part_Part__desc_part_ok (t0 : Bool) (a : (List PartT)) : ∀ r, (g_slices_IndexFunc_l_Part_Part a (fun z0 => g_desc_part z0)) = some r → evD ctx 77 [(.d (D.list t0 (List.map partD a))), (.d (D.fn 40 []))] = some (g_slices_IndexFunc_l_Part_Part__desc_part_e r) := by
 show Says _ (fun r rhs => rhs = some (g_slices_IndexFunc_l_Part_Part__desc_part_e r)) _
 unfold g_slices_IndexFunc_l_Part_Part
 rw [evD_K ctx 77 fn77 _ rfl rfl]
 conv => arg 3; whnf
 refine sim_let (x' := (a.length : Int)) (len_enc partD a) ?_
 conv => arg 3; whnf
 refine sim_bind (g_slices_IndexFunc_l_Part_Part__desc_part_L0_x t0 a) (g_slices_IndexFunc_l_Part_Part__desc_part_L0_ok t0 a 0) fun r3 hr3 => ?_
 clear hr3
 rcases r3 with r3 | r3
 ·conv => arg 3; whnf
  exact sim_ret rfl
 ·conv => arg 3; whnf
  exact sim_ret rfl
def g_slices_ContainsFunc_l_Part_Part__desc_part_e (r : Bool) : D := (D.bool r)
set_option maxRecDepth 100000 in
set_option maxHeartbeats 40000000 in
theorem g_slices_ContainsFunc_l_Part_Part__desc_part_ok (t0 : Bool) (a : (List PartT)) : ∀ r, (g_slices_ContainsFunc_l_Part_Part a (fun z0 => g_desc_part z0)) = some r → evD ctx 39 [(.d (D.list t0 (List.map partD a))), (.d (D.fn 40 []))] = some (g_slices_ContainsFunc_l_Part_Part__desc_part_e r) := by
 show Says _ (fun r rhs => rhs = some (g_slices_ContainsFunc_l_Part_Part__desc_part_e r)) _
 unfold g_slices_ContainsFunc_l_Part_Part
 rw [evD_K ctx 39 fn39 _ rfl rfl]
 conv => arg 3; whnf
 refine sim_call g_slices_IndexFunc_l_Part_Part__desc_part_e (g_slices_IndexFunc_l_Part_Part__desc_part_ok t0 a) rfl fun x0 hx0 => ?_
 conv => arg 3; whnf
 refine sim_br rfl ?_ ?_
 ·conv => arg 3; whnf
  exact sim_ret rfl
 ·conv => arg 3; whnf
  exact sim_ret rfl
def g_desc_two_e (r : Bool) : D := (D.bool r)
set_option maxRecDepth 100000 in
set_option maxHeartbeats 40000000 in
theorem g_desc_two_ok (t0 : Bool) (t1 : Bool) (t2 : Bool) (t3 : Bool) (a : DescT) (b : Int) (c : Int) : ∀ r, (g_desc_two a b c) = some r → evD ctx 41 [(.d (D.agg [(intD a.period), (intD a.deadline), (D.list t0 (List.map partD a.parts)), (D.list t1 (List.map edgeD a.edges)), (D.list t2 (List.map futureD a.futures)), (D.list t3 (List.map barrierD a.barriers))])), (.d (intD b)), (.d (intD c))] = some (g_desc_two_e r) := by
 show Says _ (fun r rhs => rhs = some (g_desc_two_e r)) _
 unfold g_desc_two
 rw [evD_K ctx 41 fn41 _ rfl rfl]
 conv => arg 3; whnf
 refine sim_br rfl ?_ ?_
 ·conv => arg 3; whnf
  refine sim_let (x' := (a.parts.length : Int)) (len_enc partD a.parts) ?_
  conv => arg 3; whnf
  refine sim_call g_desc_within_e (g_desc_within_ok b 0 (w64 ((a.parts.length : Int) - 1))) rfl fun x0 hx0 => ?_
  conv => arg 3; whnf
  refine sim_br rfl ?_ ?_
  ·conv => arg 3; whnf
   refine sim_let (x' := (a.parts.length : Int)) (len_enc partD a.parts) ?_
   conv => arg 3; whnf
   refine sim_call g_desc_within_e (g_desc_within_ok c 0 (w64 ((a.parts.length : Int) - 1))) rfl fun x1 hx1 => ?_
   conv => arg 3; whnf
   refine sim_br rfl ?_ ?_
   ·conv => arg 3; whnf
    exact sim_ret rfl
   ·conv => arg 3; whnf
    exact sim_ret rfl
  ·conv => arg 3; whnf
   exact sim_ret rfl
 ·conv => arg 3; whnf
  exact sim_ret rfl
def g_slices_Index_l_Edge_Edge_e (r : Int) : D := (intD r)
def g_slices_Index_l_Edge_Edge_L0_x (t0 : Bool) (a : (List EdgeT)) (b : EdgeT) : (Int ⊕ Unit) → Ex × List V × Heap
  | (.inl r) => (.ret, [(.d (intD r))], [])
  | (.inr r) => (.exit 0, [.bad], [])
set_option maxRecDepth 100000 in
set_option maxHeartbeats 40000000 in
theorem g_slices_Index_l_Edge_Edge_L0_ok (t0 : Bool) (a : (List EdgeT)) (b : EdgeT) : ∀ (s0 : Int) (r : (Int ⊕ Unit)), lp (g_slices_Index_l_Edge_Edge_L0 a b) s0 = some r → lpW ctx 0 [0, 3, 7, 8] [4] ir78L0 [(.d (D.list t0 (List.map edgeD a))), (.ptr 0 0), (.d (intD (a.length : Int))), (.d (intD s0))] [(.cells [(.d (intD b.src)), (.d (intD b.dst))])] = some ((g_slices_Index_l_Edge_Edge_L0_x t0 a b) r) := by
 refine lp_ok (g_slices_Index_l_Edge_Edge_L0_x t0 a b) ?_
 intro s0 rcl ih
 show Says _ _ (lpW _ _ _ _ _ _ _)
 unfold g_slices_Index_l_Edge_Edge_L0
 rw [lpW_b]
 conv => arg 3; whnf
 refine sim_br rfl ?_ ?_
 ·conv => arg 3; whnf
  refine sim_get (f := edgeD) rfl rfl fun x1 hx1 => ?_
  conv => arg 3; whnf
  refine sim_br rfl ?_ ?_
  ·conv => arg 3; whnf
   exact sim_ret rfl
  ·conv => arg 3; whnf
   exact sim_again (ih (w64 (s0 + 1)))
 ·conv => arg 3; whnf
  exact sim_ret rfl
set_option maxRecDepth 100000 in
set_option maxHeartbeats 40000000 in
theorem g_slices_Index_l_Edge_Edge_ok (t0 : Bool) (a : (List EdgeT)) (b : EdgeT) : ∀ r, (g_slices_Index_l_Edge_Edge a b) = some r → evD ctx 78 [(.d (D.list t0 (List.map edgeD a))), (.d (D.agg [(intD b.src), (intD b.dst)]))] = some (g_slices_Index_l_Edge_Edge_e r) := by
 show Says _ (fun r rhs => rhs = some (g_slices_Index_l_Edge_Edge_e r)) _
 unfold g_slices_Index_l_Edge_Edge
 rw [evD_K ctx 78 fn78 _ rfl rfl]
 conv => arg 3; whnf
 refine sim_let (x' := (a.length : Int)) (len_enc edgeD a) ?_
 conv => arg 3; whnf
 refine sim_bind (g_slices_Index_l_Edge_Edge_L0_x t0 a b) (g_slices_Index_l_Edge_Edge_L0_ok t0 a b 0) fun r2 hr2 => ?_
 clear hr2
 rcases r2 with r2 | r2
 ·conv => arg 3; whnf
  exact sim_ret rfl
 ·conv => arg 3; whnf
  exact sim_ret rfl
def g_slices_Contains_l_Edge_Edge_e (r : Bool) : D := (D.bool r)
set_option maxRecDepth 100000 in
set_option maxHeartbeats 40000000 in
theorem g_slices_Contains_l_Edge_Edge_ok (t0 : Bool) (a : (List EdgeT)) (b : EdgeT) : ∀ r, (g_slices_Contains_l_Edge_Edge a b) = some r → evD ctx 42 [(.d (D.list t0 (List.map edgeD a))), (.d (D.agg [(intD b.src), (intD b.dst)]))] = some (g_slices_Contains_l_Edge_Edge_e r) := by
 show Says _ (fun r rhs => rhs = some (g_slices_Contains_l_Edge_Edge_e r)) _
 unfold g_slices_Contains_l_Edge_Edge
 rw [evD_K ctx 42 fn42 _ rfl rfl]
 conv => arg 3; whnf
 refine sim_call g_slices_Index_l_Edge_Edge_e (g_slices_Index_l_Edge_Edge_ok t0 a b) rfl fun x0 hx0 => ?_
 conv => arg 3; whnf
 refine sim_br rfl ?_ ?_
 ·conv => arg 3; whnf
  exact sim_ret rfl
 ·conv => arg 3; whnf
  exact sim_ret rfl
def g_desc_Check_1_e (r : Bool) : D := (D.bool r)
set_option maxRecDepth 100000 in
set_option maxHeartbeats 40000000 in
theorem g_desc_Check_1_ok (a : FutureT) (b0 : Int) (b1 : Int) (b2 : Int) : ∀ r, (g_desc_Check_1 a b1 b2) = some r → evD ctx 43 [(.d (D.agg [(intD a.maker), (intD a.user), (intD a.pos)])), (.d (D.rptr [(intD b0), (intD b1), (intD b2)]))] = some (g_desc_Check_1_e r) := by
 show Says _ (fun r rhs => rhs = some (g_desc_Check_1_e r)) _
 unfold g_desc_Check_1
 rw [evD_K ctx 43 fn43 _ rfl rfl]
 conv => arg 3; whnf
 refine sim_br rfl ?_ ?_
 ·conv => arg 3; whnf
  refine sim_br rfl ?_ ?_
  ·conv => arg 3; whnf
   exact sim_ret rfl
  ·conv => arg 3; whnf
   exact sim_ret rfl
 ·conv => arg 3; whnf
  exact sim_ret rfl
def g_slices_IndexFunc_l_Future_Future__desc_Check_1_e (r : Int) : D := (intD r)
def g_slices_IndexFunc_l_Future_Future__desc_Check_1_L0_x (t0 : Bool) (a : (List FutureT)) (b0 : Int) (b1 : Int) (b2 : Int) : (Int ⊕ Unit) → Ex × List V × Heap
  | (.inl r) => (.ret, [(.d (intD r))], [])
  | (.inr r) => (.exit 0, [.bad], [])
set_option maxRecDepth 100000 in
set_option maxHeartbeats 40000000 in
theorem g_slices_IndexFunc_l_Future_Future__desc_Check_1_L0_ok (t0 : Bool) (a : (List FutureT)) (b0 : Int) (b1 : Int) (b2 : Int) : ∀ (s0 : Int) (r : (Int ⊕ Unit)), lp (g_slices_IndexFunc_l_Future_Future_L0 a (fun z0 => g_desc_Check_1 z0 b1 b2)) s0 = some r → lpW ctx 0 [0, 1, 7, 8] [4] ir79L0 [(.d (D.list t0 (List.map futureD a))), (.d (D.fn 43 [(D.rptr [(intD b0), (intD b1), (intD b2)])])), (.d (intD (a.length : Int))), (.d (intD s0))] [] = some ((g_slices_IndexFunc_l_Future_Future__desc_Check_1_L0_x t0 a b0 b1 b2) r) := by
 refine lp_ok (g_slices_IndexFunc_l_Future_Future__desc_Check_1_L0_x t0 a b0 b1 b2) ?_
 intro s0 rcl ih
 show Says _ _ (lpW _ _ _ _ _ _ _)
 unfold g_slices_IndexFunc_l_Future_Future_L0
 rw [lpW_b]
 conv => arg 3; whnf
 refine sim_br rfl ?_ ?_
 ·conv => arg 3; whnf
  refine sim_get (f := futureD) rfl rfl fun x1 hx1 => ?_
  conv => arg 3; whnf
  refine sim_call g_desc_Check_1_e (g_desc_Check_1_ok x1 b0 b1 b2) rfl fun x2 hx2 => ?_
  conv => arg 3; whnf
  refine sim_br rfl ?_ ?_
  ·conv => arg 3; whnf
   exact sim_ret rfl
  ·conv => arg 3; whnf
   exact sim_again (ih (w64 (s0 + 1)))
 ·conv => arg 3; whnf
  exact sim_ret rfl
set_option maxRecDepth 100000 in
set_option maxHeartbeats 40000000 in
theorem g_slices_IndexFunc_l_Future_Future__desc_Check_1_ok (t0 : Bool) (a : (List FutureT)) (b0 : Int) (b1 : Int) (b2 : Int) : ∀ r, (g_slices_IndexFunc_l_Future_Future a (fun z0 => g_desc_Check_1 z0 b1 b2)) = some r → evD ctx 79 [(.d (D.list t0 (List.map futureD a))), (.d (D.fn 43 [(D.rptr [(intD b0), (intD b1), (intD b2)])]))] = some (g_slices_IndexFunc_l_Future_Future__desc_Check_1_e r) := by
 show Says _ (fun r rhs => rhs = some (g_slices_IndexFunc_l_Future_Future__desc_Check_1_e r)) _
 unfold g_slices_IndexFunc_l_Future_Future
 rw [evD_K ctx 79 fn79 _ rfl rfl]
 conv => arg 3; whnf
 refine sim_let (x' := (a.length : Int)) (len_enc futureD a) ?_
 conv => arg 3; whnf
 refine sim_bind (g_slices_IndexFunc_l_Future_Future__desc_Check_1_L0_x t0 a b0 b1 b2) (g_slices_IndexFunc_l_Future_Future__desc_Check_1_L0_ok t0 a b0 b1 b2 0) fun r3 hr3 => ?_
 clear hr3
 rcases r3 with r3 | r3
 ·conv => arg 3; whnf
  exact sim_ret rfl
 ·conv => arg 3; whnf
  exact sim_ret rfl
def g_slices_ContainsFunc_l_Future_Future__desc_Check_1_e (r : Bool) : D := (D.bool r)
set_option maxRecDepth 100000 in
set_option maxHeartbeats 40000000 in
theorem g_slices_ContainsFunc_l_Future_Future__desc_Check_1_ok (t0 : Bool) (a : (List FutureT)) (b0 : Int) (b1 : Int) (b2 : Int) : ∀ r, (g_slices_ContainsFunc_l_Future_Future a (fun z0 => g_desc_Check_1 z0 b1 b2)) = some r → evD ctx 44 [(.d (D.list t0 (List.map futureD a))), (.d (D.fn 43 [(D.rptr [(intD b0), (intD b1), (intD b2)])]))] = some (g_slices_ContainsFunc_l_Future_Future__desc_Check_1_e r) := by
 show Says _ (fun r rhs => rhs = some (g_slices_ContainsFunc_l_Future_Future__desc_Check_1_e r)) _
 unfold g_slices_ContainsFunc_l_Future_Future
 rw [evD_K ctx 44 fn44 _ rfl rfl]
 conv => arg 3; whnf
 refine sim_call g_slices_IndexFunc_l_Future_Future__desc_Check_1_e (g_slices_IndexFunc_l_Future_Future__desc_Check_1_ok t0 a b0 b1 b2) rfl fun x0 hx0 => ?_
 conv => arg 3; whnf
 refine sim_br rfl ?_ ?_
 ·conv => arg 3; whnf
  exact sim_ret rfl
 ·conv => arg 3; whnf
  exact sim_ret rfl
def g_desc_row_e (r : Bool) : D := (D.bool r)
def g_desc_row_L0_x (t0 : Bool) (t1 : Bool) (t2 : Bool) (t3 : Bool) (t4 : Bool) (a : DescT) (b : (List Int)) : (Unit ⊕ Unit) → Ex × List V × Heap
  | (.inl r) => (.ret, [(.d (D.list t4 (List.map intD b))), (.d (D.bool false))], [])
  | (.inr r) => (.exit 0, [(.d (D.list t4 (List.map intD b))), .bad], [])
set_option maxRecDepth 100000 in
set_option maxHeartbeats 40000000 in
theorem g_desc_row_L0_ok (t0 : Bool) (t1 : Bool) (t2 : Bool) (t3 : Bool) (t4 : Bool) (a : DescT) (b : (List Int)) : ∀ (s0 : Int) (r : (Unit ⊕ Unit)), lp (g_desc_row_L0 a b) s0 = some r → lpW ctx 0 [1, 2, 7, 8, 9] [1, 4] ir47L0 [(.d (D.list t4 (List.map intD b))), (.ptr 0 0), (.d (D.list t4 (List.map intD b))), (.d (intD (b.length : Int))), (.d (intD s0))] [(.cells [(.d (intD a.period)), (.d (intD a.deadline)), (.d (D.list t0 (List.map partD a.parts))), (.d (D.list t1 (List.map edgeD a.edges))), (.d (D.list t2 (List.map futureD a.futures))), (.d (D.list t3 (List.map barrierD a.barriers)))])] = some ((g_desc_row_L0_x t0 t1 t2 t3 t4 a b) r) := by
 refine lp_ok (g_desc_row_L0_x t0 t1 t2 t3 t4 a b) ?_
 intro s0 rcl ih
 show Says _ _ (lpW _ _ _ _ _ _ _)
 unfold g_desc_row_L0
 rw [lpW_b]
 conv => arg 3; whnf
 refine sim_br rfl ?_ ?_
 ·conv => arg 3; whnf
  refine sim_get (f := intD) rfl rfl fun x1 hx1 => ?_
  conv => arg 3; whnf
  refine sim_let (x' := (a.parts.length : Int)) (len_enc partD a.parts) ?_
  conv => arg 3; whnf
  refine sim_call g_desc_within_e (g_desc_within_ok x1 0 (w64 ((a.parts.length : Int) - 1))) rfl fun x2 hx2 => ?_
  conv => arg 3; whnf
  refine sim_br rfl ?_ ?_
  ·conv => arg 3; whnf
   refine sim_br rfl ?_ ?_
   ·conv => arg 3; whnf
    refine sim_get (f := intD) rfl rfl fun x3 hx3 => ?_
    conv => arg 3; whnf
    refine sim_br rfl ?_ ?_
    ·conv => arg 3; whnf
     exact sim_ret rfl
    ·conv => arg 3; whnf
     exact sim_again (ih (w64 (s0 + 1)))
   ·conv => arg 3; whnf
    exact sim_again (ih (w64 (s0 + 1)))
  ·conv => arg 3; whnf
   exact sim_ret rfl
 ·conv => arg 3; whnf
  exact sim_ret rfl
set_option maxRecDepth 100000 in
set_option maxHeartbeats 40000000 in
theorem g_desc_row_ok (t0 : Bool) (t1 : Bool) (t2 : Bool) (t3 : Bool) (t4 : Bool) (a : DescT) (b : (List Int)) : ∀ r, (g_desc_row a b) = some r → evD ctx 47 [(.d (D.agg [(intD a.period), (intD a.deadline), (D.list t0 (List.map partD a.parts)), (D.list t1 (List.map edgeD a.edges)), (D.list t2 (List.map futureD a.futures)), (D.list t3 (List.map barrierD a.barriers))])), (.d (D.list t4 (List.map intD b)))] = some (g_desc_row_e r) := by
 show Says _ (fun r rhs => rhs = some (g_desc_row_e r)) _
 unfold g_desc_row
 rw [evD_K ctx 47 fn47 _ rfl rfl]
 conv => arg 3; whnf
 refine sim_let (x' := (b.length : Int)) (len_enc intD b) ?_
 conv => arg 3; whnf
 refine sim_bind (g_desc_row_L0_x t0 t1 t2 t3 t4 a b) (g_desc_row_L0_ok t0 t1 t2 t3 t4 a b 0) fun r4 hr4 => ?_
 clear hr4
 rcases r4 with r4 | r4
 ·conv => arg 3; whnf
  exact sim_ret rfl
 ·conv => arg 3; whnf
  refine sim_let (x' := (b.length : Int)) (len_enc intD b) ?_
  conv => arg 3; whnf
  refine sim_br rfl ?_ ?_
  ·conv => arg 3; whnf
   exact sim_ret rfl
  ·conv => arg 3; whnf
   exact sim_ret rfl
def g_slices_Index_l_int_int_e (r : Int) : D := (intD r)
def g_slices_Index_l_int_int_L0_x (t0 : Bool) (a : (List Int)) (b : Int) : (Int ⊕ Unit) → Ex × List V × Heap
  | (.inl r) => (.ret, [(.d (intD r))], [])
  | (.inr r) => (.exit 0, [.bad], [])
set_option maxRecDepth 100000 in
set_option maxHeartbeats 40000000 in
theorem g_slices_Index_l_int_int_L0_ok (t0 : Bool) (a : (List Int)) (b : Int) : ∀ (s0 : Int) (r : (Int ⊕ Unit)), lp (g_slices_Index_l_int_int_L0 a b) s0 = some r → lpW ctx 0 [0, 1, 7, 8] [4] ir80L0 [(.d (D.list t0 (List.map intD a))), (.d (intD b)), (.d (intD (a.length : Int))), (.d (intD s0))] [] = some ((g_slices_Index_l_int_int_L0_x t0 a b) r) := by
 refine lp_ok (g_slices_Index_l_int_int_L0_x t0 a b) ?_
 intro s0 rcl ih
 show Says _ _ (lpW _ _ _ _ _ _ _)
 unfold g_slices_Index_l_int_int_L0
 rw [lpW_b]
 conv => arg 3; whnf
 refine sim_br rfl ?_ ?_
 ·conv => arg 3; whnf
  refine sim_get (f := intD) rfl rfl fun x1 hx1 => ?_
  conv => arg 3; whnf
  refine sim_br rfl ?_ ?_
  ·conv => arg 3; whnf
   exact sim_ret rfl
  ·conv => arg 3; whnf
   exact sim_again (ih (w64 (s0 + 1)))
 ·conv => arg 3; whnf
  exact sim_ret rfl
set_option maxRecDepth 100000 in
set_option maxHeartbeats 40000000 in
theorem g_slices_Index_l_int_int_ok (t0 : Bool) (a : (List Int)) (b : Int) : ∀ r, (g_slices_Index_l_int_int a b) = some r → evD ctx 80 [(.d (D.list t0 (List.map intD a))), (.d (intD b))] = some (g_slices_Index_l_int_int_e r) := by
 show Says _ (fun r rhs => rhs = some (g_slices_Index_l_int_int_e r)) _
 unfold g_slices_Index_l_int_int
 rw [evD_K ctx 80 fn80 _ rfl rfl]
 conv => arg 3; whnf
 refine sim_let (x' := (a.length : Int)) (len_enc intD a) ?_
 conv => arg 3; whnf
 refine sim_bind (g_slices_Index_l_int_int_L0_x t0 a b) (g_slices_Index_l_int_int_L0_ok t0 a b 0) fun r2 hr2 => ?_
 clear hr2
 rcases r2 with r2 | r2
 ·conv => arg 3; whnf
  exact sim_ret rfl
 ·conv => arg 3; whnf
  exact sim_ret rfl
def g_slices_Contains_l_int_int_e (r : Bool) : D := (D.bool r)
set_option maxRecDepth 100000 in
set_option maxHeartbeats 40000000 in
theorem g_slices_Contains_l_int_int_ok (t0 : Bool) (a : (List Int)) (b : Int) : ∀ r, (g_slices_Contains_l_int_int a b) = some r → evD ctx 46 [(.d (D.list t0 (List.map intD a))), (.d (intD b))] = some (g_slices_Contains_l_int_int_e r) := by
 show Says _ (fun r rhs => rhs = some (g_slices_Contains_l_int_int_e r)) _
 unfold g_slices_Contains_l_int_int
 rw [evD_K ctx 46 fn46 _ rfl rfl]
 conv => arg 3; whnf
 refine sim_call g_slices_Index_l_int_int_e (g_slices_Index_l_int_int_ok t0 a b) rfl fun x0 hx0 => ?_
 conv => arg 3; whnf
 refine sim_br rfl ?_ ?_
 ·conv => arg 3; whnf
  exact sim_ret rfl
 ·conv => arg 3; whnf
  exact sim_ret rfl
def g_desc_Check_2_e (r : Bool) : D := (D.bool r)
set_option maxRecDepth 100000 in
set_option maxHeartbeats 40000000 in
theorem g_desc_Check_2_ok (t0 : Bool) (t1 : Bool) (a : Int) (b0 : (List Int)) (b1 : (List Int)) : ∀ r, (g_desc_Check_2 a b1) = some r → evD ctx 45 [(.d (intD a)), (.d (D.rptr [(D.list t0 (List.map intD b0)), (D.list t1 (List.map intD b1))]))] = some (g_desc_Check_2_e r) := by
 show Says _ (fun r rhs => rhs = some (g_desc_Check_2_e r)) _
 unfold g_desc_Check_2
 rw [evD_K ctx 45 fn45 _ rfl rfl]
 conv => arg 3; whnf
 refine sim_call g_slices_Contains_l_int_int_e (g_slices_Contains_l_int_int_ok t1 b1 a) rfl fun x0 hx0 => ?_
 conv => arg 3; whnf
 refine sim_br rfl ?_ ?_
 ·conv => arg 3; whnf
  exact sim_ret rfl
 ·conv => arg 3; whnf
  exact sim_ret rfl
def g_slices_IndexFunc_l_int_int__desc_Check_2_e (r : Int) : D := (intD r)
def g_slices_IndexFunc_l_int_int__desc_Check_2_L0_x (t0 : Bool) (t1 : Bool) (t2 : Bool) (a : (List Int)) (b0 : (List Int)) (b1 : (List Int)) : (Int ⊕ Unit) → Ex × List V × Heap
  | (.inl r) => (.ret, [(.d (intD r))], [])
  | (.inr r) => (.exit 0, [.bad], [])
set_option maxRecDepth 100000 in
set_option maxHeartbeats 40000000 in
theorem g_slices_IndexFunc_l_int_int__desc_Check_2_L0_ok (t0 : Bool) (t1 : Bool) (t2 : Bool) (a : (List Int)) (b0 : (List Int)) (b1 : (List Int)) : ∀ (s0 : Int) (r : (Int ⊕ Unit)), lp (g_slices_IndexFunc_l_int_int_L0 a (fun z0 => g_desc_Check_2 z0 b1)) s0 = some r → lpW ctx 0 [0, 1, 7, 8] [4] ir81L0 [(.d (D.list t0 (List.map intD a))), (.d (D.fn 45 [(D.rptr [(D.list t1 (List.map intD b0)), (D.list t2 (List.map intD b1))])])), (.d (intD (a.length : Int))), (.d (intD s0))] [] = some ((g_slices_IndexFunc_l_int_int__desc_Check_2_L0_x t0 t1 t2 a b0 b1) r) := by
 refine lp_ok (g_slices_IndexFunc_l_int_int__desc_Check_2_L0_x t0 t1 t2 a b0 b1) ?_
 intro s0 rcl ih
 show Says _ _ (lpW _ _ _ _ _ _ _)
 unfold g_slices_IndexFunc_l_int_int_L0
 rw [lpW_b]
 conv => arg 3; whnf
 refine sim_br rfl ?_ ?_
 ·conv => arg 3; whnf
  refine sim_get (f := intD) rfl rfl fun x1 hx1 => ?_
  conv => arg 3; whnf
  refine sim_call g_desc_Check_2_e (g_desc_Check_2_ok t1 t2 x1 b0 b1) rfl fun x2 hx2 => ?_
  conv => arg 3; whnf
  refine sim_br rfl ?_ ?_
  ·conv => arg 3; whnf
   exact sim_ret rfl
  ·conv => arg 3; whnf
   exact sim_again (ih (w64 (s0 + 1)))
 ·conv => arg 3; whnf
  exact sim_ret rfl
set_option maxRecDepth 100000 in
set_option maxHeartbeats 40000000 in
theorem g_slices_IndexFunc_l_int_int__desc_Check_2_ok (t0 : Bool) (t1 : Bool) (t2 : Bool) (a : (List Int)) (b0 : (List Int)) (b1 : (List Int)) : ∀ r, (g_slices_IndexFunc_l_int_int a (fun z0 => g_desc_Check_2 z0 b1)) = some r → evD ctx 81 [(.d (D.list t0 (List.map intD a))), (.d (D.fn 45 [(D.rptr [(D.list t1 (List.map intD b0)), (D.list t2 (List.map intD b1))])]))] = some (g_slices_IndexFunc_l_int_int__desc_Check_2_e r) := by
 show Says _ (fun r rhs => rhs = some (g_slices_IndexFunc_l_int_int__desc_Check_2_e r)) _
 unfold g_slices_IndexFunc_l_int_int
 rw [evD_K ctx 81 fn81 _ rfl rfl]
 conv => arg 3; whnf
 refine sim_let (x' := (a.length : Int)) (len_enc intD a) ?_
 conv => arg 3; whnf
 refine sim_bind (g_slices_IndexFunc_l_int_int__desc_Check_2_L0_x t0 t1 t2 a b0 b1) (g_slices_IndexFunc_l_int_int__desc_Check_2_L0_ok t0 t1 t2 a b0 b1 0) fun r3 hr3 => ?_
 clear hr3
 rcases r3 with r3 | r3
 ·conv => arg 3; whnf
  exact sim_ret rfl
 ·conv => arg 3; whnf
  exact sim_ret rfl
def g_slices_ContainsFunc_l_int_int__desc_Check_2_e (r : Bool) : D := (D.bool r)
set_option maxRecDepth 100000 in
set_option maxHeartbeats 40000000 in
theorem g_slices_ContainsFunc_l_int_int__desc_Check_2_ok (t0 : Bool) (t1 : Bool) (t2 : Bool) (a : (List Int)) (b0 : (List Int)) (b1 : (List Int)) : ∀ r, (g_slices_ContainsFunc_l_int_int a (fun z0 => g_desc_Check_2 z0 b1)) = some r → evD ctx 48 [(.d (D.list t0 (List.map intD a))), (.d (D.fn 45 [(D.rptr [(D.list t1 (List.map intD b0)), (D.list t2 (List.map intD b1))])]))] = some (g_slices_ContainsFunc_l_int_int__desc_Check_2_e r) := by
 show Says _ (fun r rhs => rhs = some (g_slices_ContainsFunc_l_int_int__desc_Check_2_e r)) _
 unfold g_slices_ContainsFunc_l_int_int
 rw [evD_K ctx 48 fn48 _ rfl rfl]
 conv => arg 3; whnf
 refine sim_call g_slices_IndexFunc_l_int_int__desc_Check_2_e (g_slices_IndexFunc_l_int_int__desc_Check_2_ok t0 t1 t2 a b0 b1) rfl fun x0 hx0 => ?_
 conv => arg 3; whnf
 refine sim_br rfl ?_ ?_
 ·conv => arg 3; whnf
  exact sim_ret rfl
 ·conv => arg 3; whnf
  exact sim_ret rfl
def g_desc_Check_e (r : Int) : D := (intD r)
def g_desc_Check_L0_x (t0 : Bool) (t1 : Bool) (t2 : Bool) (t3 : Bool) (a : DescT) : (Unit ⊕ Unit) → Ex × List V × Heap
  | (.inl r) => (.ret, [(.ptr 0 0), (.d (intD 53))], [(.cells [(.d (intD a.period)), (.d (intD a.deadline)), (.d (D.list t0 (List.map partD a.parts))), (.d (D.list t1 (List.map edgeD a.edges))), (.d (D.list t2 (List.map futureD a.futures))), (.d (D.list t3 (List.map barrierD a.barriers)))])])
  | (.inr r) => (.exit 0, [(.ptr 0 0), .bad], [(.cells [(.d (intD a.period)), (.d (intD a.deadline)), (.d (D.list t0 (List.map partD a.parts))), (.d (D.list t1 (List.map edgeD a.edges))), (.d (D.list t2 (List.map futureD a.futures))), (.d (D.list t3 (List.map barrierD a.barriers)))])])
set_option maxRecDepth 100000 in
set_option maxHeartbeats 40000000 in
theorem g_desc_Check_L0_ok (t0 : Bool) (t1 : Bool) (t2 : Bool) (t3 : Bool) (a : DescT) : ∀ (s4 : Int) (r : (Unit ⊕ Unit)), lp (g_desc_Check_L0 a) s4 = some r → lpW ctx 0 [1, 61, 62, 63] [1, 2] ir17L0 [(.ptr 0 0), (.d (D.list t1 (List.map edgeD a.edges))), (.d (intD (a.edges.length : Int))), (.d (intD s4))] [(.cells [(.d (intD a.period)), (.d (intD a.deadline)), (.d (D.list t0 (List.map partD a.parts))), (.d (D.list t1 (List.map edgeD a.edges))), (.d (D.list t2 (List.map futureD a.futures))), (.d (D.list t3 (List.map barrierD a.barriers)))])] = some ((g_desc_Check_L0_x t0 t1 t2 t3 a) r) := by
 refine lp_ok (g_desc_Check_L0_x t0 t1 t2 t3 a) ?_
 intro s4 rcl ih
 show Says _ _ (lpW _ _ _ _ _ _ _)
 unfold g_desc_Check_L0
 rw [lpW_b]
 conv => arg 3; whnf
 refine sim_br rfl ?_ ?_
 ·conv => arg 3; whnf
  refine sim_get (f := edgeD) rfl rfl fun x5 hx5 => ?_
  conv => arg 3; whnf
  refine sim_call g_desc_two_e (g_desc_two_ok t0 t1 t2 t3 a x5.src x5.dst) rfl fun x6 hx6 => ?_
  conv => arg 3; whnf
  refine sim_br rfl ?_ ?_
  ·conv => arg 3; whnf
   refine sim_br rfl ?_ ?_
   ·conv => arg 3; whnf
    refine sim_br (sl_c0 edgeD a.edges s4.toNat) ?_ ?_
    ·conv => arg 3; whnf
     refine sim_t rfl ?_
     conv => arg 3; whnf
     refine sim_let (sl_enc0 edgeD a.edges s4.toNat) ?_
     conv => arg 3; whnf
     refine sim_call g_slices_Contains_l_Edge_Edge_e (g_slices_Contains_l_Edge_Edge_ok t1 (List.take s4.toNat a.edges) x5) rfl fun x7 hx7 => ?_
     conv => arg 3; whnf
     refine sim_br rfl ?_ ?_
     ·conv => arg 3; whnf
      exact sim_ret rfl
     ·conv => arg 3; whnf
      exact sim_again (ih (w64 (s4 + 1)))
    ·exact sim_none
   ·exact sim_none
  ·conv => arg 3; whnf
   exact sim_ret rfl
 ·conv => arg 3; whnf
  exact sim_ret rfl
def g_desc_Check_L1_x (t0 : Bool) (t1 : Bool) (t2 : Bool) (t3 : Bool) (a : DescT) : (Unit ⊕ Unit) → Ex × List V × Heap
  | (.inl r) => (.ret, [(.ptr 0 0), (.d (intD 54))], [(.cells [(.d (intD a.period)), (.d (intD a.deadline)), (.d (D.list t0 (List.map partD a.parts))), (.d (D.list t1 (List.map edgeD a.edges))), (.d (D.list t2 (List.map futureD a.futures))), (.d (D.list t3 (List.map barrierD a.barriers)))])])
  | (.inr r) => (.exit 2, [(.ptr 0 0), .bad], [(.cells [(.d (intD a.period)), (.d (intD a.deadline)), (.d (D.list t0 (List.map partD a.parts))), (.d (D.list t1 (List.map edgeD a.edges))), (.d (D.list t2 (List.map futureD a.futures))), (.d (D.list t3 (List.map barrierD a.barriers)))])])
set_option maxRecDepth 100000 in
set_option maxHeartbeats 40000000 in
theorem g_desc_Check_L1_ok (t0 : Bool) (t1 : Bool) (t2 : Bool) (t3 : Bool) (a : DescT) : ∀ (s9 : Int) (r : (Unit ⊕ Unit)), lp (g_desc_Check_L1 a) s9 = some r → lpW ctx 0 [1, 85, 86, 87] [1, 2] ir17L1 [(.ptr 0 0), (.d (D.list t2 (List.map futureD a.futures))), (.d (intD (a.futures.length : Int))), (.d (intD s9))] [(.cells [(.d (intD a.period)), (.d (intD a.deadline)), (.d (D.list t0 (List.map partD a.parts))), (.d (D.list t1 (List.map edgeD a.edges))), (.d (D.list t2 (List.map futureD a.futures))), (.d (D.list t3 (List.map barrierD a.barriers)))])] = some ((g_desc_Check_L1_x t0 t1 t2 t3 a) r) := by
 refine lp_ok (g_desc_Check_L1_x t0 t1 t2 t3 a) ?_
 intro s9 rcl ih
 show Says _ _ (lpW _ _ _ _ _ _ _)
 unfold g_desc_Check_L1
 rw [lpW_b]
 conv => arg 3; whnf
 refine sim_br rfl ?_ ?_
 ·conv => arg 3; whnf
  refine sim_get (f := futureD) rfl rfl fun x10 hx10 => ?_
  conv => arg 3; whnf
  refine sim_call g_desc_two_e (g_desc_two_ok t0 t1 t2 t3 a x10.maker x10.user) rfl fun x11 hx11 => ?_
  conv => arg 3; whnf
  refine sim_br rfl ?_ ?_
  ·conv => arg 3; whnf
   refine sim_get (f := partD) rfl rfl fun x12 hx12 => ?_
   conv => arg 3; whnf
   refine sim_call g_desc_within_e (g_desc_within_ok x10.pos 1 (w64 (x12.work - 1))) rfl fun x13 hx13 => ?_
   conv => arg 3; whnf
   refine sim_br rfl ?_ ?_
   ·conv => arg 3; whnf
    refine sim_br rfl ?_ ?_
    ·conv => arg 3; whnf
     refine sim_br (sl_c0 futureD a.futures s9.toNat) ?_ ?_
     ·conv => arg 3; whnf
      refine sim_t rfl ?_
      conv => arg 3; whnf
      refine sim_let (sl_enc0 futureD a.futures s9.toNat) ?_
      conv => arg 3; whnf
      refine sim_call g_slices_ContainsFunc_l_Future_Future__desc_Check_1_e (g_slices_ContainsFunc_l_Future_Future__desc_Check_1_ok t2 (List.take s9.toNat a.futures) x10.maker x10.user x10.pos) rfl fun x14 hx14 => ?_
      conv => arg 3; whnf
      refine sim_br rfl ?_ ?_
      ·conv => arg 3; whnf
       exact sim_ret rfl
      ·conv => arg 3; whnf
       exact sim_again (ih (w64 (s9 + 1)))
     ·exact sim_none
    ·exact sim_none
   ·conv => arg 3; whnf
    exact sim_ret rfl
  ·conv => arg 3; whnf
   exact sim_ret rfl
 ·conv => arg 3; whnf
  exact sim_ret rfl
def g_desc_Check_L2_x (t0 : Bool) (t1 : Bool) (t2 : Bool) (t3 : Bool) (a : DescT) : (Unit ⊕ Unit) → Ex × List V × Heap
  | (.inl r) => (.ret, [(.d (intD 55))], [])
  | (.inr r) => (.exit 4, [.bad], [])
set_option maxRecDepth 100000 in
set_option maxHeartbeats 40000000 in
theorem g_desc_Check_L2_ok (t0 : Bool) (t1 : Bool) (t2 : Bool) (t3 : Bool) (a : DescT) : ∀ (s16 : Int) (r : (Unit ⊕ Unit)), lp (g_desc_Check_L2 a) s16 = some r → lpW ctx 0 [1, 124, 125, 126] [2] ir17L2 [(.ptr 0 0), (.d (D.list t3 (List.map barrierD a.barriers))), (.d (intD (a.barriers.length : Int))), (.d (intD s16))] [(.cells [(.d (intD a.period)), (.d (intD a.deadline)), (.d (D.list t0 (List.map partD a.parts))), (.d (D.list t1 (List.map edgeD a.edges))), (.d (D.list t2 (List.map futureD a.futures))), (.d (D.list t3 (List.map barrierD a.barriers)))])] = some ((g_desc_Check_L2_x t0 t1 t2 t3 a) r) := by
 refine lp_ok (g_desc_Check_L2_x t0 t1 t2 t3 a) ?_
 intro s16 rcl ih
 show Says _ _ (lpW _ _ _ _ _ _ _)
 unfold g_desc_Check_L2
 rw [lpW_b]
 conv => arg 3; whnf
 refine sim_br rfl ?_ ?_
 ·conv => arg 3; whnf
  refine sim_get (f := barrierD) rfl rfl fun x17 hx17 => ?_
  conv => arg 3; whnf
  refine sim_call g_desc_row_e (g_desc_row_ok t0 t1 t2 t3 true a x17.ins) rfl fun x18 hx18 => ?_
  conv => arg 3; whnf
  refine sim_br rfl ?_ ?_
  ·conv => arg 3; whnf
   refine sim_call g_desc_row_e (g_desc_row_ok t0 t1 t2 t3 true a x17.outs) rfl fun x19 hx19 => ?_
   conv => arg 3; whnf
   refine sim_br rfl ?_ ?_
   ·conv => arg 3; whnf
    refine sim_call g_slices_ContainsFunc_l_int_int__desc_Check_2_e (g_slices_ContainsFunc_l_int_int__desc_Check_2_ok true true true x17.ins x17.ins x17.outs) rfl fun x20 hx20 => ?_
    conv => arg 3; whnf
    refine sim_br rfl ?_ ?_
    ·conv => arg 3; whnf
     exact sim_ret rfl
    ·conv => arg 3; whnf
     exact sim_again (ih (w64 (s16 + 1)))
   ·conv => arg 3; whnf
    exact sim_ret rfl
  ·conv => arg 3; whnf
   exact sim_ret rfl
 ·conv => arg 3; whnf
  exact sim_ret rfl
set_option maxRecDepth 100000 in
set_option maxHeartbeats 40000000 in
theorem g_desc_Check_ok (t0 : Bool) (t1 : Bool) (t2 : Bool) (t3 : Bool) (a : DescT) : ∀ r, (g_desc_Check a) = some r → evD ctx 17 [(.d (D.agg [(intD a.period), (intD a.deadline), (D.list t0 (List.map partD a.parts)), (D.list t1 (List.map edgeD a.edges)), (D.list t2 (List.map futureD a.futures)), (D.list t3 (List.map barrierD a.barriers))]))] = some (g_desc_Check_e r) := by
 show Says _ (fun r rhs => rhs = some (g_desc_Check_e r)) _
 unfold g_desc_Check
 rw [evD_K ctx 17 fn17 _ rfl rfl]
 conv => arg 3; whnf
 refine sim_let (x' := (a.parts.length : Int)) (len_enc partD a.parts) ?_
 conv => arg 3; whnf
 refine sim_call g_desc_within_e (g_desc_within_ok (a.parts.length : Int) 1 16) rfl fun x0 hx0 => ?_
 conv => arg 3; whnf
 refine sim_br rfl ?_ ?_
 ·conv => arg 3; whnf
  refine sim_let (x' := (a.edges.length : Int)) (len_enc edgeD a.edges) ?_
  conv => arg 3; whnf
  refine sim_br rfl ?_ ?_
  ·conv => arg 3; whnf
   exact sim_ret rfl
  ·conv => arg 3; whnf
   refine sim_let (x' := (a.futures.length : Int)) (len_enc futureD a.futures) ?_
   conv => arg 3; whnf
   refine sim_br rfl ?_ ?_
   ·conv => arg 3; whnf
    exact sim_ret rfl
   ·conv => arg 3; whnf
    refine sim_let (x' := (a.barriers.length : Int)) (len_enc barrierD a.barriers) ?_
    conv => arg 3; whnf
    refine sim_br rfl ?_ ?_
    ·conv => arg 3; whnf
     exact sim_ret rfl
    ·conv => arg 3; whnf
     refine sim_call g_num_Two_e (g_num_Two_ok a.period) rfl fun x1 hx1 => ?_
     conv => arg 3; whnf
     refine sim_br rfl ?_ ?_
     ·conv => arg 3; whnf
      refine sim_br rfl ?_ ?_
      ·conv => arg 3; whnf
       exact sim_ret rfl
      ·conv => arg 3; whnf
       refine sim_call g_desc_within_e (g_desc_within_ok a.deadline 1 a.period) rfl fun x2 hx2 => ?_
       conv => arg 3; whnf
       refine sim_br rfl ?_ ?_
       ·conv => arg 3; whnf
        refine sim_call g_slices_ContainsFunc_l_Part_Part__desc_part_e (g_slices_ContainsFunc_l_Part_Part__desc_part_ok t0 a.parts) rfl fun x3 hx3 => ?_
        conv => arg 3; whnf
        refine sim_br rfl ?_ ?_
        ·conv => arg 3; whnf
         exact sim_ret rfl
        ·conv => arg 3; whnf
         refine sim_let (x' := (a.edges.length : Int)) (len_enc edgeD a.edges) ?_
         conv => arg 3; whnf
         refine sim_bind (g_desc_Check_L0_x t0 t1 t2 t3 a) (g_desc_Check_L0_ok t0 t1 t2 t3 a 0) fun r8 hr8 => ?_
         clear hr8
         rcases r8 with r8 | r8
         ·conv => arg 3; whnf
          exact sim_ret rfl
         ·conv => arg 3; whnf
          refine sim_let (x' := (a.futures.length : Int)) (len_enc futureD a.futures) ?_
          conv => arg 3; whnf
          refine sim_bind (g_desc_Check_L1_x t0 t1 t2 t3 a) (g_desc_Check_L1_ok t0 t1 t2 t3 a 0) fun r15 hr15 => ?_
          clear hr15
          rcases r15 with r15 | r15
          ·conv => arg 3; whnf
           exact sim_ret rfl
          ·conv => arg 3; whnf
           refine sim_let (x' := (a.barriers.length : Int)) (len_enc barrierD a.barriers) ?_
           conv => arg 3; whnf
           refine sim_bind (g_desc_Check_L2_x t0 t1 t2 t3 a) (g_desc_Check_L2_ok t0 t1 t2 t3 a 0) fun r21 hr21 => ?_
           clear hr21
           rcases r21 with r21 | r21
           ·conv => arg 3; whnf
            exact sim_ret rfl
           ·conv => arg 3; whnf
            exact sim_ret rfl
       ·conv => arg 3; whnf
        exact sim_ret rfl
     ·conv => arg 3; whnf
      exact sim_ret rfl
 ·conv => arg 3; whnf
  exact sim_ret rfl
def g_ref05_Part_e (r : Bool) : D := (D.bool r)
set_option maxRecDepth 100000 in
set_option maxHeartbeats 40000000 in
theorem g_ref05_Part_ok (t0 : Bool) (t1 : Bool) (t2 : Bool) (t3 : Bool) (a : DescT) (b : Int) : ∀ r, (g_ref05_Part a b) = some r → evD ctx 27 [(.d (D.agg [(intD a.period), (intD a.deadline), (D.list t0 (List.map partD a.parts)), (D.list t1 (List.map edgeD a.edges)), (D.list t2 (List.map futureD a.futures)), (D.list t3 (List.map barrierD a.barriers))])), (.d (intD b))] = some (g_ref05_Part_e r) := by
 show Says _ (fun r rhs => rhs = some (g_ref05_Part_e r)) _
 unfold g_ref05_Part
 rw [evD_K ctx 27 fn27 _ rfl rfl]
 conv => arg 3; whnf
 refine sim_br rfl ?_ ?_
 ·conv => arg 3; whnf
  refine sim_let (x' := (a.parts.length : Int)) (len_enc partD a.parts) ?_
  conv => arg 3; whnf
  refine sim_br rfl ?_ ?_
  ·conv => arg 3; whnf
   exact sim_ret rfl
  ·conv => arg 3; whnf
   exact sim_ret rfl
 ·conv => arg 3; whnf
  exact sim_ret rfl
def g_desc_Touches_1_e (r : Int) : D := (intD r)
set_option maxRecDepth 100000 in
set_option maxHeartbeats 40000000 in
theorem g_desc_Touches_1_ok (t0 : Bool) (t1 : Bool) (t2 : Bool) (t3 : Bool) (a : Int) (b : Int) (c0 : Int) (c1 : Int) (c2 : (List PartT)) (c3 : (List EdgeT)) (c4 : (List FutureT)) (c5 : (List BarrierT)) : ∀ r, (g_desc_Touches_1 a b c4) = some r → evD ctx 62 [(.d (intD a)), (.d (intD b)), (.d (D.rptr [(intD c0), (intD c1), (D.list t0 (List.map partD c2)), (D.list t1 (List.map edgeD c3)), (D.list t2 (List.map futureD c4)), (D.list t3 (List.map barrierD c5))]))] = some (g_desc_Touches_1_e r) := by
 show Says _ (fun r rhs => rhs = some (g_desc_Touches_1_e r)) _
 unfold g_desc_Touches_1
 rw [evD_K ctx 62 fn62 _ rfl rfl]
 conv => arg 3; whnf
 refine sim_get (f := futureD) rfl rfl fun x0 hx0 => ?_
 conv => arg 3; whnf
 refine sim_get (f := futureD) rfl rfl fun x1 hx1 => ?_
 conv => arg 3; whnf
 exact sim_ret rfl
def g_math_bits_Len64_e (r : Int) : D := (intD r)
set_option maxRecDepth 100000 in
set_option maxHeartbeats 40000000 in
theorem g_math_bits_Len64_ok (a : Int) : ∀ r, (g_math_bits_Len64 a) = some r → evD ctx 107 [(.d (D.int .u64 a))] = some (g_math_bits_Len64_e r) := by
 show Says _ (fun r rhs => rhs = some (g_math_bits_Len64_e r)) _
 unfold g_math_bits_Len64
 rw [evD_K ctx 107 fn107 _ rfl rfl]
 conv => arg 3; whnf
 refine sim_br rfl ?_ ?_
 ·conv => arg 3; whnf
  refine sim_f rfl ?_
  conv => arg 3; whnf
  refine sim_br rfl ?_ ?_
  ·conv => arg 3; whnf
   refine sim_f rfl ?_
   conv => arg 3; whnf
   refine sim_br rfl ?_ ?_
   ·conv => arg 3; whnf
    refine sim_f rfl ?_
    conv => arg 3; whnf
    refine sim_br rfl ?_ ?_
    ·conv => arg 3; whnf
     refine sim_same rfl fun x0 hx0 => ?_
     conv => arg 3; whnf
     exact sim_ret rfl
    ·exact sim_none
   ·conv => arg 3; whnf
    refine sim_br rfl ?_ ?_
    ·conv => arg 3; whnf
     refine sim_same rfl fun x1 hx1 => ?_
     conv => arg 3; whnf
     exact sim_ret rfl
    ·exact sim_none
  ·conv => arg 3; whnf
   refine sim_br rfl ?_ ?_
   ·conv => arg 3; whnf
    refine sim_f rfl ?_
    conv => arg 3; whnf
    refine sim_br rfl ?_ ?_
    ·conv => arg 3; whnf
     refine sim_same rfl fun x2 hx2 => ?_
     conv => arg 3; whnf
     exact sim_ret rfl
    ·exact sim_none
   ·conv => arg 3; whnf
    refine sim_br rfl ?_ ?_
    ·conv => arg 3; whnf
     refine sim_same rfl fun x3 hx3 => ?_
     conv => arg 3; whnf
     exact sim_ret rfl
    ·exact sim_none
 ·conv => arg 3; whnf
  refine sim_br rfl ?_ ?_
  ·conv => arg 3; whnf
   refine sim_f rfl ?_
   conv => arg 3; whnf
   refine sim_br rfl ?_ ?_
   ·conv => arg 3; whnf
    refine sim_f rfl ?_
    conv => arg 3; whnf
    refine sim_br rfl ?_ ?_
    ·conv => arg 3; whnf
     refine sim_same rfl fun x4 hx4 => ?_
     conv => arg 3; whnf
     exact sim_ret rfl
    ·exact sim_none
   ·conv => arg 3; whnf
    refine sim_br rfl ?_ ?_
    ·conv => arg 3; whnf
     refine sim_same rfl fun x5 hx5 => ?_
     conv => arg 3; whnf
     exact sim_ret rfl
    ·exact sim_none
  ·conv => arg 3; whnf
   refine sim_br rfl ?_ ?_
   ·conv => arg 3; whnf
    refine sim_f rfl ?_
    conv => arg 3; whnf
    refine sim_br rfl ?_ ?_
    ·conv => arg 3; whnf
     refine sim_same rfl fun x6 hx6 => ?_
     conv => arg 3; whnf
     exact sim_ret rfl
    ·exact sim_none
   ·conv => arg 3; whnf
    refine sim_br rfl ?_ ?_
    ·conv => arg 3; whnf
     refine sim_same rfl fun x7 hx7 => ?_
     conv => arg 3; whnf
     exact sim_ret rfl
    ·exact sim_none
def g_math_bits_Len_e (r : Int) : D := (intD r)
set_option maxRecDepth 100000 in
set_option maxHeartbeats 40000000 in
theorem g_math_bits_Len_ok (a : Int) : ∀ r, (g_math_bits_Len a) = some r → evD ctx 85 [(.d (D.int .u64 a))] = some (g_math_bits_Len_e r) := by
 show Says _ (fun r rhs => rhs = some (g_math_bits_Len_e r)) _
 unfold g_math_bits_Len
 rw [evD_K ctx 85 fn85 _ rfl rfl]
 conv => arg 3; whnf
 refine sim_call g_math_bits_Len64_e (g_math_bits_Len64_ok a) rfl fun x0 hx0 => ?_
 conv => arg 3; whnf
 exact sim_ret rfl
def g_slices_insertionSortCmpFunc_int__desc_Touches_1_e (t0 : Bool) (t1 : Bool) (t2 : Bool) (t3 : Bool) (b : Int) (c : Int) (m0_0 : (List Int)) (m1_0 : Int) (m1_1 : Int) (m1_2 : (List PartT)) (m1_3 : (List EdgeT)) (m1_4 : (List FutureT)) (m1_5 : (List BarrierT)) : (List Int) → V × Heap
  | r => ((.d (D.tup [])), [(.arr 1 (List.map intD r)), (.cells [(.d (intD m1_0)), (.d (intD m1_1)), (.d (D.list t0 (List.map partD m1_2))), (.d (D.list t1 (List.map edgeD m1_3))), (.d (D.list t2 (List.map futureD m1_4))), (.d (D.list t3 (List.map barrierD m1_5)))])])
def g_slices_insertionSortCmpFunc_int__desc_Touches_1_L0_x (t0 : Bool) (t1 : Bool) (t2 : Bool) (t3 : Bool) (b : Int) (c : Int) (m1_0 : Int) (m1_1 : Int) (m1_2 : (List PartT)) (m1_3 : (List EdgeT)) (m1_4 : (List FutureT)) (m1_5 : (List BarrierT)) (s0 : Int × (List Int)) : (List Int) → Ex × List V × Heap
  | r => (.exit 2, [(.sl 0 1), (.d (intD b)), (.d (intD c)), (.fn 62 [(.ptr 1 0)]), (.d (intD s0.1))], [(.arr 1 (List.map intD r)), (.cells [(.d (intD m1_0)), (.d (intD m1_1)), (.d (D.list t0 (List.map partD m1_2))), (.d (D.list t1 (List.map edgeD m1_3))), (.d (D.list t2 (List.map futureD m1_4))), (.d (D.list t3 (List.map barrierD m1_5)))])])
set_option maxRecDepth 100000 in
set_option maxHeartbeats 40000000 in
theorem g_slices_insertionSortCmpFunc_int__desc_Touches_1_L0_ok (t0 : Bool) (t1 : Bool) (t2 : Bool) (t3 : Bool) (b : Int) (c : Int) (m1_0 : Int) (m1_1 : Int) (m1_2 : (List PartT)) (m1_3 : (List EdgeT)) (m1_4 : (List FutureT)) (m1_5 : (List BarrierT)) (s0 : Int × (List Int)) : ∀ (s1 : Int × (List Int)) (r : (List Int)), lp (g_slices_insertionSortCmpFunc_int_L0 b (fun z0 z1 => g_desc_Touches_1 z0 z1 m1_4)) s1 = some r → lpW ctx 2 [0, 1, 2, 3, 8, 9] [0, 1, 2, 3, 8] ir98L0 [(.sl 0 1), (.d (intD b)), (.d (intD c)), (.fn 62 [(.ptr 1 0)]), (.d (intD s0.1)), (.d (intD s1.1))] [(.arr 1 (List.map intD s1.2)), (.cells [(.d (intD m1_0)), (.d (intD m1_1)), (.d (D.list t0 (List.map partD m1_2))), (.d (D.list t1 (List.map edgeD m1_3))), (.d (D.list t2 (List.map futureD m1_4))), (.d (D.list t3 (List.map barrierD m1_5)))])] = some ((g_slices_insertionSortCmpFunc_int__desc_Touches_1_L0_x t0 t1 t2 t3 b c m1_0 m1_1 m1_2 m1_3 m1_4 m1_5 s0) r) := by
 refine lp_ok (g_slices_insertionSortCmpFunc_int__desc_Touches_1_L0_x t0 t1 t2 t3 b c m1_0 m1_1 m1_2 m1_3 m1_4 m1_5 s0) ?_
 intro s1 rcl ih
 show Says _ _ (lpW _ _ _ _ _ _ _)
 unfold g_slices_insertionSortCmpFunc_int_L0
 rw [lpW_b]
 conv => arg 3; whnf
 refine sim_br rfl ?_ ?_
 ·conv => arg 3; whnf
  refine sim_get (f := intD) rfl rfl fun x2 hx2 => ?_
  conv => arg 3; whnf
  refine sim_known (nth_of (f := intD) rfl hx2) ?_
  conv => arg 3; whnf
  refine sim_get (f := intD) rfl rfl fun x3 hx3 => ?_
  conv => arg 3; whnf
  refine sim_known (nth_of (f := intD) rfl hx3) ?_
  conv => arg 3; whnf
  refine sim_call g_desc_Touches_1_e (g_desc_Touches_1_ok t0 t1 t2 t3 x2 x3 m1_0 m1_1 m1_2 m1_3 m1_4 m1_5) rfl fun x4 hx4 => ?_
  conv => arg 3; whnf
  refine sim_br rfl ?_ ?_
  ·conv => arg 3; whnf
   refine sim_known (get_of (f := intD) rfl hx3) ?_
   conv => arg 3; whnf
   refine sim_known (nth_of (f := intD) rfl hx3) ?_
   conv => arg 3; whnf
   refine sim_known (get_of (f := intD) rfl hx2) ?_
   conv => arg 3; whnf
   refine sim_known (nth_of (f := intD) rfl hx2) ?_
   conv => arg 3; whnf
   refine sim_known (get_of (f := intD) rfl hx2) ?_
   conv => arg 3; whnf
   refine sim_known (nth_of (f := intD) rfl hx2) ?_
   conv => arg 3; whnf
   refine sim_let (set_enc intD s1.2 s1.1.toNat x3) ?_
   conv => arg 3; whnf
   refine sim_get (f := intD) rfl rfl fun x5 hx5 => ?_
   conv => arg 3; whnf
   refine sim_known (nth_of (f := intD) rfl hx5) ?_
   conv => arg 3; whnf
   refine sim_let (set_enc intD (List.set s1.2 s1.1.toNat x3) (w64 (s1.1 - 1)).toNat x2) ?_
   conv => arg 3; whnf
   exact sim_again (ih ((w64 (s1.1 - 1)), (List.set (List.set s1.2 s1.1.toNat x3) (w64 (s1.1 - 1)).toNat x2)))
  ·conv => arg 3; whnf
   exact sim_ret rfl
 ·conv => arg 3; whnf
  exact sim_ret rfl
def g_slices_insertionSortCmpFunc_int__desc_Touches_1_L1_x (t0 : Bool) (t1 : Bool) (t2 : Bool) (t3 : Bool) (b : Int) (c : Int) (m1_0 : Int) (m1_1 : Int) (m1_2 : (List PartT)) (m1_3 : (List EdgeT)) (m1_4 : (List FutureT)) (m1_5 : (List BarrierT)) : (List Int) → Ex × List V × Heap
  | r => (.exit 0, [], [(.arr 1 (List.map intD r)), (.cells [(.d (intD m1_0)), (.d (intD m1_1)), (.d (D.list t0 (List.map partD m1_2))), (.d (D.list t1 (List.map edgeD m1_3))), (.d (D.list t2 (List.map futureD m1_4))), (.d (D.list t3 (List.map barrierD m1_5)))])])
set_option maxRecDepth 100000 in
set_option maxHeartbeats 40000000 in
theorem g_slices_insertionSortCmpFunc_int__desc_Touches_1_L1_ok (t0 : Bool) (t1 : Bool) (t2 : Bool) (t3 : Bool) (b : Int) (c : Int) (m1_0 : Int) (m1_1 : Int) (m1_2 : (List PartT)) (m1_3 : (List EdgeT)) (m1_4 : (List FutureT)) (m1_5 : (List BarrierT)) : ∀ (s0 : Int × (List Int)) (r : (List Int)), lp (g_slices_insertionSortCmpFunc_int_L1 b c (fun z0 z1 => g_desc_Touches_1 z0 z1 m1_4)) s0 = some r → lpW ctx 2 [0, 1, 2, 3, 8] [] ir98L1 [(.sl 0 1), (.d (intD b)), (.d (intD c)), (.fn 62 [(.ptr 1 0)]), (.d (intD s0.1))] [(.arr 1 (List.map intD s0.2)), (.cells [(.d (intD m1_0)), (.d (intD m1_1)), (.d (D.list t0 (List.map partD m1_2))), (.d (D.list t1 (List.map edgeD m1_3))), (.d (D.list t2 (List.map futureD m1_4))), (.d (D.list t3 (List.map barrierD m1_5)))])] = some ((g_slices_insertionSortCmpFunc_int__desc_Touches_1_L1_x t0 t1 t2 t3 b c m1_0 m1_1 m1_2 m1_3 m1_4 m1_5) r) := by
 refine lp_ok (g_slices_insertionSortCmpFunc_int__desc_Touches_1_L1_x t0 t1 t2 t3 b c m1_0 m1_1 m1_2 m1_3 m1_4 m1_5) ?_
 intro s0 rcl ih
 show Says _ _ (lpW _ _ _ _ _ _ _)
 unfold g_slices_insertionSortCmpFunc_int_L1
 rw [lpW_b]
 conv => arg 3; whnf
 refine sim_br rfl ?_ ?_
 ·conv => arg 3; whnf
  refine sim_bind (g_slices_insertionSortCmpFunc_int__desc_Touches_1_L0_x t0 t1 t2 t3 b c m1_0 m1_1 m1_2 m1_3 m1_4 m1_5 s0) (g_slices_insertionSortCmpFunc_int__desc_Touches_1_L0_ok t0 t1 t2 t3 b c m1_0 m1_1 m1_2 m1_3 m1_4 m1_5 s0 (s0.1, s0.2)) fun r6 hr6 => ?_
  conv => arg 3; whnf
  exact sim_again (ih ((w64 (s0.1 + 1)), r6))
 ·conv => arg 3; whnf
  exact sim_ret rfl
set_option maxRecDepth 100000 in
set_option maxHeartbeats 40000000 in
theorem g_slices_insertionSortCmpFunc_int__desc_Touches_1_ok (t0 : Bool) (t1 : Bool) (t2 : Bool) (t3 : Bool) (b : Int) (c : Int) (m0_0 : (List Int)) (m1_0 : Int) (m1_1 : Int) (m1_2 : (List PartT)) (m1_3 : (List EdgeT)) (m1_4 : (List FutureT)) (m1_5 : (List BarrierT)) : ∀ r, (g_slices_insertionSortCmpFunc_int b c (fun z0 z1 => g_desc_Touches_1 z0 z1 m1_4) m0_0) = some r → evW ctx 98 [(.sl 0 1), (.d (intD b)), (.d (intD c)), (.fn 62 [(.ptr 1 0)])] [(.arr 1 (List.map intD m0_0)), (.cells [(.d (intD m1_0)), (.d (intD m1_1)), (.d (D.list t0 (List.map partD m1_2))), (.d (D.list t1 (List.map edgeD m1_3))), (.d (D.list t2 (List.map futureD m1_4))), (.d (D.list t3 (List.map barrierD m1_5)))])] = some ((g_slices_insertionSortCmpFunc_int__desc_Touches_1_e t0 t1 t2 t3 b c m0_0 m1_0 m1_1 m1_2 m1_3 m1_4 m1_5) r) := by
 show Says _ (fun r rhs => rhs = some ((g_slices_insertionSortCmpFunc_int__desc_Touches_1_e t0 t1 t2 t3 b c m0_0 m1_0 m1_1 m1_2 m1_3 m1_4 m1_5) r)) _
 unfold g_slices_insertionSortCmpFunc_int
 rw [evW_K ctx 98 fn98 _ _ rfl rfl]
 conv => arg 3; whnf
 refine sim_bind (g_slices_insertionSortCmpFunc_int__desc_Touches_1_L1_x t0 t1 t2 t3 b c m1_0 m1_1 m1_2 m1_3 m1_4 m1_5) (g_slices_insertionSortCmpFunc_int__desc_Touches_1_L1_ok t0 t1 t2 t3 b c m1_0 m1_1 m1_2 m1_3 m1_4 m1_5 ((w64 (b + 1)), m0_0)) fun r7 hr7 => ?_
 conv => arg 3; whnf
 exact sim_ret rfl
def g_slices_siftDownCmpFunc_int__desc_Touches_1_e (t0 : Bool) (t1 : Bool) (t2 : Bool) (t3 : Bool) (b : Int) (c : Int) (d : Int) (m0_0 : (List Int)) (m1_0 : Int) (m1_1 : Int) (m1_2 : (List PartT)) (m1_3 : (List EdgeT)) (m1_4 : (List FutureT)) (m1_5 : (List BarrierT)) : (List Int) → V × Heap
  | r => ((.d (D.tup [])), [(.arr 1 (List.map intD r)), (.cells [(.d (intD m1_0)), (.d (intD m1_1)), (.d (D.list t0 (List.map partD m1_2))), (.d (D.list t1 (List.map edgeD m1_3))), (.d (D.list t2 (List.map futureD m1_4))), (.d (D.list t3 (List.map barrierD m1_5)))])])
def g_slices_siftDownCmpFunc_int__desc_Touches_1_L0_x (t0 : Bool) (t1 : Bool) (t2 : Bool) (t3 : Bool) (c : Int) (d : Int) (m1_0 : Int) (m1_1 : Int) (m1_2 : (List PartT)) (m1_3 : (List EdgeT)) (m1_4 : (List FutureT)) (m1_5 : (List BarrierT)) : ((List Int) ⊕ (List Int)) → Ex × List V × Heap
  | (.inl r) => (.exit 0, [], [(.arr 1 (List.map intD r)), (.cells [(.d (intD m1_0)), (.d (intD m1_1)), (.d (D.list t0 (List.map partD m1_2))), (.d (D.list t1 (List.map edgeD m1_3))), (.d (D.list t2 (List.map futureD m1_4))), (.d (D.list t3 (List.map barrierD m1_5)))])])
  | (.inr r) => (.ret, [], [(.arr 1 (List.map intD r)), (.cells [(.d (intD m1_0)), (.d (intD m1_1)), (.d (D.list t0 (List.map partD m1_2))), (.d (D.list t1 (List.map edgeD m1_3))), (.d (D.list t2 (List.map futureD m1_4))), (.d (D.list t3 (List.map barrierD m1_5)))])])
set_option maxRecDepth 100000 in
set_option maxHeartbeats 40000000 in
theorem g_slices_siftDownCmpFunc_int__desc_Touches_1_L0_ok (t0 : Bool) (t1 : Bool) (t2 : Bool) (t3 : Bool) (c : Int) (d : Int) (m1_0 : Int) (m1_1 : Int) (m1_2 : (List PartT)) (m1_3 : (List EdgeT)) (m1_4 : (List FutureT)) (m1_5 : (List BarrierT)) : ∀ (s0 : Int × (List Int)) (r : ((List Int) ⊕ (List Int))), lp (g_slices_siftDownCmpFunc_int_L0 c d (fun z0 z1 => g_desc_Touches_1 z0 z1 m1_4)) s0 = some r → lpW ctx 2 [0, 2, 3, 4, 10] [] ir108L0 [(.sl 0 1), (.d (intD c)), (.d (intD d)), (.fn 62 [(.ptr 1 0)]), (.d (intD s0.1))] [(.arr 1 (List.map intD s0.2)), (.cells [(.d (intD m1_0)), (.d (intD m1_1)), (.d (D.list t0 (List.map partD m1_2))), (.d (D.list t1 (List.map edgeD m1_3))), (.d (D.list t2 (List.map futureD m1_4))), (.d (D.list t3 (List.map barrierD m1_5)))])] = some ((g_slices_siftDownCmpFunc_int__desc_Touches_1_L0_x t0 t1 t2 t3 c d m1_0 m1_1 m1_2 m1_3 m1_4 m1_5) r) := by
 refine lp_ok (g_slices_siftDownCmpFunc_int__desc_Touches_1_L0_x t0 t1 t2 t3 c d m1_0 m1_1 m1_2 m1_3 m1_4 m1_5) ?_
 intro s0 rcl ih
 show Says _ _ (lpW _ _ _ _ _ _ _)
 unfold g_slices_siftDownCmpFunc_int_L0
 rw [lpW_b]
 conv => arg 3; whnf
 refine sim_br rfl ?_ ?_
 ·conv => arg 3; whnf
  exact sim_ret rfl
 ·conv => arg 3; whnf
  refine sim_br rfl ?_ ?_
  ·conv => arg 3; whnf
   refine sim_get (f := intD) rfl rfl fun x1 hx1 => ?_
   conv => arg 3; whnf
   refine sim_known (nth_of (f := intD) rfl hx1) ?_
   conv => arg 3; whnf
   refine sim_get (f := intD) rfl rfl fun x2 hx2 => ?_
   conv => arg 3; whnf
   refine sim_known (nth_of (f := intD) rfl hx2) ?_
   conv => arg 3; whnf
   refine sim_call g_desc_Touches_1_e (g_desc_Touches_1_ok t0 t1 t2 t3 x1 x2 m1_0 m1_1 m1_2 m1_3 m1_4 m1_5) rfl fun x3 hx3 => ?_
   conv => arg 3; whnf
   refine sim_br rfl ?_ ?_
   ·conv => arg 3; whnf
    refine sim_get (f := intD) rfl rfl fun x4 hx4 => ?_
    conv => arg 3; whnf
    refine sim_known (nth_of (f := intD) rfl hx4) ?_
    conv => arg 3; whnf
    refine sim_get (f := intD) rfl rfl fun x5 hx5 => ?_
    conv => arg 3; whnf
    refine sim_known (nth_of (f := intD) rfl hx5) ?_
    conv => arg 3; whnf
    refine sim_call g_desc_Touches_1_e (g_desc_Touches_1_ok t0 t1 t2 t3 x4 x5 m1_0 m1_1 m1_2 m1_3 m1_4 m1_5) rfl fun x6 hx6 => ?_
    conv => arg 3; whnf
    refine sim_br rfl ?_ ?_
    ·conv => arg 3; whnf
     refine sim_known (get_of (f := intD) rfl hx5) ?_
     conv => arg 3; whnf
     refine sim_known (nth_of (f := intD) rfl hx5) ?_
     conv => arg 3; whnf
     refine sim_known (get_of (f := intD) rfl hx4) ?_
     conv => arg 3; whnf
     refine sim_known (nth_of (f := intD) rfl hx4) ?_
     conv => arg 3; whnf
     refine sim_known (get_of (f := intD) rfl hx4) ?_
     conv => arg 3; whnf
     refine sim_known (nth_of (f := intD) rfl hx4) ?_
     conv => arg 3; whnf
     refine sim_let (set_enc intD s0.2 (w64 (d + s0.1)).toNat x5) ?_
     conv => arg 3; whnf
     refine sim_get (f := intD) rfl rfl fun x7 hx7 => ?_
     conv => arg 3; whnf
     refine sim_known (nth_of (f := intD) rfl hx7) ?_
     conv => arg 3; whnf
     refine sim_let (set_enc intD (List.set s0.2 (w64 (d + s0.1)).toNat x5) (w64 (d + (w64 ((w64 ((w64 (2 * s0.1)) + 1)) + 1)))).toNat x4) ?_
     conv => arg 3; whnf
     exact sim_again (ih ((w64 ((w64 ((w64 (2 * s0.1)) + 1)) + 1)), (List.set (List.set s0.2 (w64 (d + s0.1)).toNat x5) (w64 (d + (w64 ((w64 ((w64 (2 * s0.1)) + 1)) + 1)))).toNat x4)))
    ·conv => arg 3; whnf
     exact sim_ret rfl
   ·conv => arg 3; whnf
    refine sim_get (f := intD) rfl rfl fun x8 hx8 => ?_
    conv => arg 3; whnf
    refine sim_known (nth_of (f := intD) rfl hx8) ?_
    conv => arg 3; whnf
    refine sim_known (get_of (f := intD) rfl hx1) ?_
    conv => arg 3; whnf
    refine sim_known (nth_of (f := intD) rfl hx1) ?_
    conv => arg 3; whnf
    refine sim_call g_desc_Touches_1_e (g_desc_Touches_1_ok t0 t1 t2 t3 x8 x1 m1_0 m1_1 m1_2 m1_3 m1_4 m1_5) rfl fun x9 hx9 => ?_
    conv => arg 3; whnf
    refine sim_br rfl ?_ ?_
    ·conv => arg 3; whnf
     refine sim_known (get_of (f := intD) rfl hx1) ?_
     conv => arg 3; whnf
     refine sim_known (nth_of (f := intD) rfl hx1) ?_
     conv => arg 3; whnf
     refine sim_known (get_of (f := intD) rfl hx8) ?_
     conv => arg 3; whnf
     refine sim_known (nth_of (f := intD) rfl hx8) ?_
     conv => arg 3; whnf
     refine sim_known (get_of (f := intD) rfl hx8) ?_
     conv => arg 3; whnf
     refine sim_known (nth_of (f := intD) rfl hx8) ?_
     conv => arg 3; whnf
     refine sim_let (set_enc intD s0.2 (w64 (d + s0.1)).toNat x1) ?_
     conv => arg 3; whnf
     refine sim_get (f := intD) rfl rfl fun x10 hx10 => ?_
     conv => arg 3; whnf
     refine sim_known (nth_of (f := intD) rfl hx10) ?_
     conv => arg 3; whnf
     refine sim_let (set_enc intD (List.set s0.2 (w64 (d + s0.1)).toNat x1) (w64 (d + (w64 ((w64 (2 * s0.1)) + 1)))).toNat x8) ?_
     conv => arg 3; whnf
     exact sim_again (ih ((w64 ((w64 (2 * s0.1)) + 1)), (List.set (List.set s0.2 (w64 (d + s0.1)).toNat x1) (w64 (d + (w64 ((w64 (2 * s0.1)) + 1)))).toNat x8)))
    ·conv => arg 3; whnf
     exact sim_ret rfl
  ·conv => arg 3; whnf
   refine sim_get (f := intD) rfl rfl fun x11 hx11 => ?_
   conv => arg 3; whnf
   refine sim_known (nth_of (f := intD) rfl hx11) ?_
   conv => arg 3; whnf
   refine sim_get (f := intD) rfl rfl fun x12 hx12 => ?_
   conv => arg 3; whnf
   refine sim_known (nth_of (f := intD) rfl hx12) ?_
   conv => arg 3; whnf
   refine sim_call g_desc_Touches_1_e (g_desc_Touches_1_ok t0 t1 t2 t3 x11 x12 m1_0 m1_1 m1_2 m1_3 m1_4 m1_5) rfl fun x13 hx13 => ?_
   conv => arg 3; whnf
   refine sim_br rfl ?_ ?_
   ·conv => arg 3; whnf
    refine sim_known (get_of (f := intD) rfl hx12) ?_
    conv => arg 3; whnf
    refine sim_known (nth_of (f := intD) rfl hx12) ?_
    conv => arg 3; whnf
    refine sim_known (get_of (f := intD) rfl hx11) ?_
    conv => arg 3; whnf
    refine sim_known (nth_of (f := intD) rfl hx11) ?_
    conv => arg 3; whnf
    refine sim_known (get_of (f := intD) rfl hx11) ?_
    conv => arg 3; whnf
    refine sim_known (nth_of (f := intD) rfl hx11) ?_
    conv => arg 3; whnf
    refine sim_let (set_enc intD s0.2 (w64 (d + s0.1)).toNat x12) ?_
    conv => arg 3; whnf
    refine sim_get (f := intD) rfl rfl fun x14 hx14 => ?_
    conv => arg 3; whnf
    refine sim_known (nth_of (f := intD) rfl hx14) ?_
    conv => arg 3; whnf
    refine sim_let (set_enc intD (List.set s0.2 (w64 (d + s0.1)).toNat x12) (w64 (d + (w64 ((w64 (2 * s0.1)) + 1)))).toNat x11) ?_
    conv => arg 3; whnf
    exact sim_again (ih ((w64 ((w64 (2 * s0.1)) + 1)), (List.set (List.set s0.2 (w64 (d + s0.1)).toNat x12) (w64 (d + (w64 ((w64 (2 * s0.1)) + 1)))).toNat x11)))
   ·conv => arg 3; whnf
    exact sim_ret rfl
set_option maxRecDepth 100000 in
set_option maxHeartbeats 40000000 in
theorem g_slices_siftDownCmpFunc_int__desc_Touches_1_ok (t0 : Bool) (t1 : Bool) (t2 : Bool) (t3 : Bool) (b : Int) (c : Int) (d : Int) (m0_0 : (List Int)) (m1_0 : Int) (m1_1 : Int) (m1_2 : (List PartT)) (m1_3 : (List EdgeT)) (m1_4 : (List FutureT)) (m1_5 : (List BarrierT)) : ∀ r, (g_slices_siftDownCmpFunc_int b c d (fun z0 z1 => g_desc_Touches_1 z0 z1 m1_4) m0_0) = some r → evW ctx 108 [(.sl 0 1), (.d (intD b)), (.d (intD c)), (.d (intD d)), (.fn 62 [(.ptr 1 0)])] [(.arr 1 (List.map intD m0_0)), (.cells [(.d (intD m1_0)), (.d (intD m1_1)), (.d (D.list t0 (List.map partD m1_2))), (.d (D.list t1 (List.map edgeD m1_3))), (.d (D.list t2 (List.map futureD m1_4))), (.d (D.list t3 (List.map barrierD m1_5)))])] = some ((g_slices_siftDownCmpFunc_int__desc_Touches_1_e t0 t1 t2 t3 b c d m0_0 m1_0 m1_1 m1_2 m1_3 m1_4 m1_5) r) := by
 show Says _ (fun r rhs => rhs = some ((g_slices_siftDownCmpFunc_int__desc_Touches_1_e t0 t1 t2 t3 b c d m0_0 m1_0 m1_1 m1_2 m1_3 m1_4 m1_5) r)) _
 unfold g_slices_siftDownCmpFunc_int
 rw [evW_K ctx 108 fn108 _ _ rfl rfl]
 conv => arg 3; whnf
 refine sim_bind (g_slices_siftDownCmpFunc_int__desc_Touches_1_L0_x t0 t1 t2 t3 c d m1_0 m1_1 m1_2 m1_3 m1_4 m1_5) (g_slices_siftDownCmpFunc_int__desc_Touches_1_L0_ok t0 t1 t2 t3 c d m1_0 m1_1 m1_2 m1_3 m1_4 m1_5 (b, m0_0)) fun r15 hr15 => ?_
 clear hr15
 rcases r15 with r15 | r15
 ·conv => arg 3; whnf
  exact sim_ret rfl
 ·conv => arg 3; whnf
  exact sim_ret rfl
def g_slices_heapSortCmpFunc_int__desc_Touches_1_e (t0 : Bool) (t1 : Bool) (t2 : Bool) (t3 : Bool) (b : Int) (c : Int) (m0_0 : (List Int)) (m1_0 : Int) (m1_1 : Int) (m1_2 : (List PartT)) (m1_3 : (List EdgeT)) (m1_4 : (List FutureT)) (m1_5 : (List BarrierT)) : (List Int) → V × Heap
  | r => ((.d (D.tup [])), [(.arr 1 (List.map intD r)), (.cells [(.d (intD m1_0)), (.d (intD m1_1)), (.d (D.list t0 (List.map partD m1_2))), (.d (D.list t1 (List.map edgeD m1_3))), (.d (D.list t2 (List.map futureD m1_4))), (.d (D.list t3 (List.map barrierD m1_5)))])])
def g_slices_heapSortCmpFunc_int__desc_Touches_1_L0_x (t0 : Bool) (t1 : Bool) (t2 : Bool) (t3 : Bool) (b : Int) (c : Int) (m1_0 : Int) (m1_1 : Int) (m1_2 : (List PartT)) (m1_3 : (List EdgeT)) (m1_4 : (List FutureT)) (m1_5 : (List BarrierT)) : (List Int) → Ex × List V × Heap
  | r => (.exit 0, [(.sl 0 1), (.fn 62 [(.ptr 1 0)]), (.d (intD b)), (.d (intD 0)), (.d (intD (w64 (c - b))))], [(.arr 1 (List.map intD r)), (.cells [(.d (intD m1_0)), (.d (intD m1_1)), (.d (D.list t0 (List.map partD m1_2))), (.d (D.list t1 (List.map edgeD m1_3))), (.d (D.list t2 (List.map futureD m1_4))), (.d (D.list t3 (List.map barrierD m1_5)))])])
set_option maxRecDepth 100000 in
set_option maxHeartbeats 40000000 in
theorem g_slices_heapSortCmpFunc_int__desc_Touches_1_L0_ok (t0 : Bool) (t1 : Bool) (t2 : Bool) (t3 : Bool) (b : Int) (c : Int) (m1_0 : Int) (m1_1 : Int) (m1_2 : (List PartT)) (m1_3 : (List EdgeT)) (m1_4 : (List FutureT)) (m1_5 : (List BarrierT)) : ∀ (s0 : Int × (List Int)) (r : (List Int)), lp (g_slices_heapSortCmpFunc_int_L0 b c (fun z0 z1 => g_desc_Touches_1 z0 z1 m1_4)) s0 = some r → lpW ctx 2 [0, 3, 8, 9, 10, 11] [0, 3, 8, 9, 10] ir99L0 [(.sl 0 1), (.fn 62 [(.ptr 1 0)]), (.d (intD b)), (.d (intD 0)), (.d (intD (w64 (c - b)))), (.d (intD s0.1))] [(.arr 1 (List.map intD s0.2)), (.cells [(.d (intD m1_0)), (.d (intD m1_1)), (.d (D.list t0 (List.map partD m1_2))), (.d (D.list t1 (List.map edgeD m1_3))), (.d (D.list t2 (List.map futureD m1_4))), (.d (D.list t3 (List.map barrierD m1_5)))])] = some ((g_slices_heapSortCmpFunc_int__desc_Touches_1_L0_x t0 t1 t2 t3 b c m1_0 m1_1 m1_2 m1_3 m1_4 m1_5) r) := by
 refine lp_ok (g_slices_heapSortCmpFunc_int__desc_Touches_1_L0_x t0 t1 t2 t3 b c m1_0 m1_1 m1_2 m1_3 m1_4 m1_5) ?_
 intro s0 rcl ih
 show Says _ _ (lpW _ _ _ _ _ _ _)
 unfold g_slices_heapSortCmpFunc_int_L0
 rw [lpW_b]
 conv => arg 3; whnf
 refine sim_br rfl ?_ ?_
 ·conv => arg 3; whnf
  refine sim_bind (g_slices_siftDownCmpFunc_int__desc_Touches_1_e t0 t1 t2 t3 s0.1 (w64 (c - b)) b s0.2 m1_0 m1_1 m1_2 m1_3 m1_4 m1_5) (g_slices_siftDownCmpFunc_int__desc_Touches_1_ok t0 t1 t2 t3 s0.1 (w64 (c - b)) b s0.2 m1_0 m1_1 m1_2 m1_3 m1_4 m1_5) fun x1 hx1 => ?_
  conv => arg 3; whnf
  exact sim_again (ih ((w64 (s0.1 - 1)), x1))
 ·conv => arg 3; whnf
  exact sim_ret rfl
def g_slices_heapSortCmpFunc_int__desc_Touches_1_L1_x (t0 : Bool) (t1 : Bool) (t2 : Bool) (t3 : Bool) (b : Int) (m1_0 : Int) (m1_1 : Int) (m1_2 : (List PartT)) (m1_3 : (List EdgeT)) (m1_4 : (List FutureT)) (m1_5 : (List BarrierT)) : (List Int) → Ex × List V × Heap
  | r => (.exit 2, [], [(.arr 1 (List.map intD r)), (.cells [(.d (intD m1_0)), (.d (intD m1_1)), (.d (D.list t0 (List.map partD m1_2))), (.d (D.list t1 (List.map edgeD m1_3))), (.d (D.list t2 (List.map futureD m1_4))), (.d (D.list t3 (List.map barrierD m1_5)))])])
set_option maxRecDepth 100000 in
set_option maxHeartbeats 40000000 in
theorem g_slices_heapSortCmpFunc_int__desc_Touches_1_L1_ok (t0 : Bool) (t1 : Bool) (t2 : Bool) (t3 : Bool) (b : Int) (m1_0 : Int) (m1_1 : Int) (m1_2 : (List PartT)) (m1_3 : (List EdgeT)) (m1_4 : (List FutureT)) (m1_5 : (List BarrierT)) : ∀ (s3 : Int × (List Int)) (r : (List Int)), lp (g_slices_heapSortCmpFunc_int_L1 b (fun z0 z1 => g_desc_Touches_1 z0 z1 m1_4)) s3 = some r → lpW ctx 2 [0, 3, 8, 9, 12] [] ir99L1 [(.sl 0 1), (.fn 62 [(.ptr 1 0)]), (.d (intD b)), (.d (intD 0)), (.d (intD s3.1))] [(.arr 1 (List.map intD s3.2)), (.cells [(.d (intD m1_0)), (.d (intD m1_1)), (.d (D.list t0 (List.map partD m1_2))), (.d (D.list t1 (List.map edgeD m1_3))), (.d (D.list t2 (List.map futureD m1_4))), (.d (D.list t3 (List.map barrierD m1_5)))])] = some ((g_slices_heapSortCmpFunc_int__desc_Touches_1_L1_x t0 t1 t2 t3 b m1_0 m1_1 m1_2 m1_3 m1_4 m1_5) r) := by
 refine lp_ok (g_slices_heapSortCmpFunc_int__desc_Touches_1_L1_x t0 t1 t2 t3 b m1_0 m1_1 m1_2 m1_3 m1_4 m1_5) ?_
 intro s3 rcl ih
 show Says _ _ (lpW _ _ _ _ _ _ _)
 unfold g_slices_heapSortCmpFunc_int_L1
 rw [lpW_b]
 conv => arg 3; whnf
 refine sim_br rfl ?_ ?_
 ·conv => arg 3; whnf
  refine sim_get (f := intD) rfl rfl fun x4 hx4 => ?_
  conv => arg 3; whnf
  refine sim_known (nth_of (f := intD) rfl hx4) ?_
  conv => arg 3; whnf
  refine sim_get (f := intD) rfl rfl fun x5 hx5 => ?_
  conv => arg 3; whnf
  refine sim_known (nth_of (f := intD) rfl hx5) ?_
  conv => arg 3; whnf
  refine sim_known (get_of (f := intD) rfl hx5) ?_
  conv => arg 3; whnf
  refine sim_known (nth_of (f := intD) rfl hx5) ?_
  conv => arg 3; whnf
  refine sim_let (set_enc intD s3.2 b.toNat x4) ?_
  conv => arg 3; whnf
  refine sim_get (f := intD) rfl rfl fun x6 hx6 => ?_
  conv => arg 3; whnf
  refine sim_known (nth_of (f := intD) rfl hx6) ?_
  conv => arg 3; whnf
  refine sim_let (set_enc intD (List.set s3.2 b.toNat x4) (w64 (b + s3.1)).toNat x5) ?_
  conv => arg 3; whnf
  refine sim_bind (g_slices_siftDownCmpFunc_int__desc_Touches_1_e t0 t1 t2 t3 0 s3.1 b (List.set (List.set s3.2 b.toNat x4) (w64 (b + s3.1)).toNat x5) m1_0 m1_1 m1_2 m1_3 m1_4 m1_5) (g_slices_siftDownCmpFunc_int__desc_Touches_1_ok t0 t1 t2 t3 0 s3.1 b (List.set (List.set s3.2 b.toNat x4) (w64 (b + s3.1)).toNat x5) m1_0 m1_1 m1_2 m1_3 m1_4 m1_5) fun x7 hx7 => ?_
  conv => arg 3; whnf
  exact sim_again (ih ((w64 (s3.1 - 1)), x7))
 ·conv => arg 3; whnf
  exact sim_ret rfl
set_option maxRecDepth 100000 in
set_option maxHeartbeats 40000000 in
theorem g_slices_heapSortCmpFunc_int__desc_Touches_1_ok (t0 : Bool) (t1 : Bool) (t2 : Bool) (t3 : Bool) (b : Int) (c : Int) (m0_0 : (List Int)) (m1_0 : Int) (m1_1 : Int) (m1_2 : (List PartT)) (m1_3 : (List EdgeT)) (m1_4 : (List FutureT)) (m1_5 : (List BarrierT)) : ∀ r, (g_slices_heapSortCmpFunc_int b c (fun z0 z1 => g_desc_Touches_1 z0 z1 m1_4) m0_0) = some r → evW ctx 99 [(.sl 0 1), (.d (intD b)), (.d (intD c)), (.fn 62 [(.ptr 1 0)])] [(.arr 1 (List.map intD m0_0)), (.cells [(.d (intD m1_0)), (.d (intD m1_1)), (.d (D.list t0 (List.map partD m1_2))), (.d (D.list t1 (List.map edgeD m1_3))), (.d (D.list t2 (List.map futureD m1_4))), (.d (D.list t3 (List.map barrierD m1_5)))])] = some ((g_slices_heapSortCmpFunc_int__desc_Touches_1_e t0 t1 t2 t3 b c m0_0 m1_0 m1_1 m1_2 m1_3 m1_4 m1_5) r) := by
 show Says _ (fun r rhs => rhs = some ((g_slices_heapSortCmpFunc_int__desc_Touches_1_e t0 t1 t2 t3 b c m0_0 m1_0 m1_1 m1_2 m1_3 m1_4 m1_5) r)) _
 unfold g_slices_heapSortCmpFunc_int
 rw [evW_K ctx 99 fn99 _ _ rfl rfl]
 conv => arg 3; whnf
 refine sim_f rfl ?_
 conv => arg 3; whnf
 refine sim_bind (g_slices_heapSortCmpFunc_int__desc_Touches_1_L0_x t0 t1 t2 t3 b c m1_0 m1_1 m1_2 m1_3 m1_4 m1_5) (g_slices_heapSortCmpFunc_int__desc_Touches_1_L0_ok t0 t1 t2 t3 b c m1_0 m1_1 m1_2 m1_3 m1_4 m1_5 ((w64 (Int.tdiv (w64 ((w64 (c - b)) - 1)) 2)), m0_0)) fun r2 hr2 => ?_
 conv => arg 3; whnf
 refine sim_bind (g_slices_heapSortCmpFunc_int__desc_Touches_1_L1_x t0 t1 t2 t3 b m1_0 m1_1 m1_2 m1_3 m1_4 m1_5) (g_slices_heapSortCmpFunc_int__desc_Touches_1_L1_ok t0 t1 t2 t3 b m1_0 m1_1 m1_2 m1_3 m1_4 m1_5 ((w64 ((w64 (c - b)) - 1)), r2)) fun r8 hr8 => ?_
 conv => arg 3; whnf
 exact sim_ret rfl
def g_slices_order2CmpFunc_int__desc_Touches_1_e (t0 : Bool) (t1 : Bool) (t2 : Bool) (t3 : Bool) (b : Int) (c : Int) (m0_0 : (List Int)) (m1_0 : Int) (m2_0 : Int) (m2_1 : Int) (m2_2 : (List PartT)) (m2_3 : (List EdgeT)) (m2_4 : (List FutureT)) (m2_5 : (List BarrierT)) : (Int × Int × Int) → V × Heap
  | r => ((.d (D.tup [(intD r.1), (intD r.2.1)])), [(.arr 1 (List.map intD m0_0)), (.cells [(.d (intD r.2.2))]), (.cells [(.d (intD m2_0)), (.d (intD m2_1)), (.d (D.list t0 (List.map partD m2_2))), (.d (D.list t1 (List.map edgeD m2_3))), (.d (D.list t2 (List.map futureD m2_4))), (.d (D.list t3 (List.map barrierD m2_5)))])])
set_option maxRecDepth 100000 in
set_option maxHeartbeats 40000000 in
theorem g_slices_order2CmpFunc_int__desc_Touches_1_ok (t0 : Bool) (t1 : Bool) (t2 : Bool) (t3 : Bool) (b : Int) (c : Int) (m0_0 : (List Int)) (m1_0 : Int) (m2_0 : Int) (m2_1 : Int) (m2_2 : (List PartT)) (m2_3 : (List EdgeT)) (m2_4 : (List FutureT)) (m2_5 : (List BarrierT)) : ∀ r, (g_slices_order2CmpFunc_int b c (fun z0 z1 => g_desc_Touches_1 z0 z1 m2_4) m0_0 m1_0) = some r → evW ctx 113 [(.sl 0 1), (.d (intD b)), (.d (intD c)), (.ptr 1 0), (.fn 62 [(.ptr 2 0)])] [(.arr 1 (List.map intD m0_0)), (.cells [(.d (intD m1_0))]), (.cells [(.d (intD m2_0)), (.d (intD m2_1)), (.d (D.list t0 (List.map partD m2_2))), (.d (D.list t1 (List.map edgeD m2_3))), (.d (D.list t2 (List.map futureD m2_4))), (.d (D.list t3 (List.map barrierD m2_5)))])] = some ((g_slices_order2CmpFunc_int__desc_Touches_1_e t0 t1 t2 t3 b c m0_0 m1_0 m2_0 m2_1 m2_2 m2_3 m2_4 m2_5) r) := by
 show Says _ (fun r rhs => rhs = some ((g_slices_order2CmpFunc_int__desc_Touches_1_e t0 t1 t2 t3 b c m0_0 m1_0 m2_0 m2_1 m2_2 m2_3 m2_4 m2_5) r)) _
 unfold g_slices_order2CmpFunc_int
 rw [evW_K ctx 113 fn113 _ _ rfl rfl]
 conv => arg 3; whnf
 refine sim_get (f := intD) rfl rfl fun x0 hx0 => ?_
 conv => arg 3; whnf
 refine sim_known (nth_of (f := intD) rfl hx0) ?_
 conv => arg 3; whnf
 refine sim_get (f := intD) rfl rfl fun x1 hx1 => ?_
 conv => arg 3; whnf
 refine sim_known (nth_of (f := intD) rfl hx1) ?_
 conv => arg 3; whnf
 refine sim_call g_desc_Touches_1_e (g_desc_Touches_1_ok t0 t1 t2 t3 x0 x1 m2_0 m2_1 m2_2 m2_3 m2_4 m2_5) rfl fun x2 hx2 => ?_
 conv => arg 3; whnf
 refine sim_br rfl ?_ ?_
 ·conv => arg 3; whnf
  exact sim_ret rfl
 ·conv => arg 3; whnf
  exact sim_ret rfl
def g_slices_medianCmpFunc_int__desc_Touches_1_e (t0 : Bool) (t1 : Bool) (t2 : Bool) (t3 : Bool) (b : Int) (c : Int) (d : Int) (m0_0 : (List Int)) (m1_0 : Int) (m2_0 : Int) (m2_1 : Int) (m2_2 : (List PartT)) (m2_3 : (List EdgeT)) (m2_4 : (List FutureT)) (m2_5 : (List BarrierT)) : (Int × Int) → V × Heap
  | r => ((.d (intD r.1)), [(.arr 1 (List.map intD m0_0)), (.cells [(.d (intD r.2))]), (.cells [(.d (intD m2_0)), (.d (intD m2_1)), (.d (D.list t0 (List.map partD m2_2))), (.d (D.list t1 (List.map edgeD m2_3))), (.d (D.list t2 (List.map futureD m2_4))), (.d (D.list t3 (List.map barrierD m2_5)))])])
set_option maxRecDepth 100000 in
set_option maxHeartbeats 40000000 in
theorem g_slices_medianCmpFunc_int__desc_Touches_1_ok (t0 : Bool) (t1 : Bool) (t2 : Bool) (t3 : Bool) (b : Int) (c : Int) (d : Int) (m0_0 : (List Int)) (m1_0 : Int) (m2_0 : Int) (m2_1 : Int) (m2_2 : (List PartT)) (m2_3 : (List EdgeT)) (m2_4 : (List FutureT)) (m2_5 : (List BarrierT)) : ∀ r, (g_slices_medianCmpFunc_int b c d (fun z0 z1 => g_desc_Touches_1 z0 z1 m2_4) m0_0 m1_0) = some r → evW ctx 112 [(.sl 0 1), (.d (intD b)), (.d (intD c)), (.d (intD d)), (.ptr 1 0), (.fn 62 [(.ptr 2 0)])] [(.arr 1 (List.map intD m0_0)), (.cells [(.d (intD m1_0))]), (.cells [(.d (intD m2_0)), (.d (intD m2_1)), (.d (D.list t0 (List.map partD m2_2))), (.d (D.list t1 (List.map edgeD m2_3))), (.d (D.list t2 (List.map futureD m2_4))), (.d (D.list t3 (List.map barrierD m2_5)))])] = some ((g_slices_medianCmpFunc_int__desc_Touches_1_e t0 t1 t2 t3 b c d m0_0 m1_0 m2_0 m2_1 m2_2 m2_3 m2_4 m2_5) r) := by
 show Says _ (fun r rhs => rhs = some ((g_slices_medianCmpFunc_int__desc_Touches_1_e t0 t1 t2 t3 b c d m0_0 m1_0 m2_0 m2_1 m2_2 m2_3 m2_4 m2_5) r)) _
 unfold g_slices_medianCmpFunc_int
 rw [evW_K ctx 112 fn112 _ _ rfl rfl]
 conv => arg 3; whnf
 refine sim_bind (g_slices_order2CmpFunc_int__desc_Touches_1_e t0 t1 t2 t3 b c m0_0 m1_0 m2_0 m2_1 m2_2 m2_3 m2_4 m2_5) (g_slices_order2CmpFunc_int__desc_Touches_1_ok t0 t1 t2 t3 b c m0_0 m1_0 m2_0 m2_1 m2_2 m2_3 m2_4 m2_5) fun x0 hx0 => ?_
 conv => arg 3; whnf
 refine sim_bind (g_slices_order2CmpFunc_int__desc_Touches_1_e t0 t1 t2 t3 x0.2.1 d m0_0 x0.2.2 m2_0 m2_1 m2_2 m2_3 m2_4 m2_5) (g_slices_order2CmpFunc_int__desc_Touches_1_ok t0 t1 t2 t3 x0.2.1 d m0_0 x0.2.2 m2_0 m2_1 m2_2 m2_3 m2_4 m2_5) fun x1 hx1 => ?_
 conv => arg 3; whnf
 refine sim_bind (g_slices_order2CmpFunc_int__desc_Touches_1_e t0 t1 t2 t3 x0.1 x1.1 m0_0 x1.2.2 m2_0 m2_1 m2_2 m2_3 m2_4 m2_5) (g_slices_order2CmpFunc_int__desc_Touches_1_ok t0 t1 t2 t3 x0.1 x1.1 m0_0 x1.2.2 m2_0 m2_1 m2_2 m2_3 m2_4 m2_5) fun x2 hx2 => ?_
 conv => arg 3; whnf
 exact sim_ret rfl
def g_slices_medianAdjacentCmpFunc_int__desc_Touches_1_e (t0 : Bool) (t1 : Bool) (t2 : Bool) (t3 : Bool) (b : Int) (m0_0 : (List Int)) (m1_0 : Int) (m2_0 : Int) (m2_1 : Int) (m2_2 : (List PartT)) (m2_3 : (List EdgeT)) (m2_4 : (List FutureT)) (m2_5 : (List BarrierT)) : (Int × Int) → V × Heap
  | r => ((.d (intD r.1)), [(.arr 1 (List.map intD m0_0)), (.cells [(.d (intD r.2))]), (.cells [(.d (intD m2_0)), (.d (intD m2_1)), (.d (D.list t0 (List.map partD m2_2))), (.d (D.list t1 (List.map edgeD m2_3))), (.d (D.list t2 (List.map futureD m2_4))), (.d (D.list t3 (List.map barrierD m2_5)))])])
set_option maxRecDepth 100000 in
set_option maxHeartbeats 40000000 in
theorem g_slices_medianAdjacentCmpFunc_int__desc_Touches_1_ok (t0 : Bool) (t1 : Bool) (t2 : Bool) (t3 : Bool) (b : Int) (m0_0 : (List Int)) (m1_0 : Int) (m2_0 : Int) (m2_1 : Int) (m2_2 : (List PartT)) (m2_3 : (List EdgeT)) (m2_4 : (List FutureT)) (m2_5 : (List BarrierT)) : ∀ r, (g_slices_medianAdjacentCmpFunc_int b (fun z0 z1 => g_desc_Touches_1 z0 z1 m2_4) m0_0 m1_0) = some r → evW ctx 111 [(.sl 0 1), (.d (intD b)), (.ptr 1 0), (.fn 62 [(.ptr 2 0)])] [(.arr 1 (List.map intD m0_0)), (.cells [(.d (intD m1_0))]), (.cells [(.d (intD m2_0)), (.d (intD m2_1)), (.d (D.list t0 (List.map partD m2_2))), (.d (D.list t1 (List.map edgeD m2_3))), (.d (D.list t2 (List.map futureD m2_4))), (.d (D.list t3 (List.map barrierD m2_5)))])] = some ((g_slices_medianAdjacentCmpFunc_int__desc_Touches_1_e t0 t1 t2 t3 b m0_0 m1_0 m2_0 m2_1 m2_2 m2_3 m2_4 m2_5) r) := by
 show Says _ (fun r rhs => rhs = some ((g_slices_medianAdjacentCmpFunc_int__desc_Touches_1_e t0 t1 t2 t3 b m0_0 m1_0 m2_0 m2_1 m2_2 m2_3 m2_4 m2_5) r)) _
 unfold g_slices_medianAdjacentCmpFunc_int
 rw [evW_K ctx 111 fn111 _ _ rfl rfl]
 conv => arg 3; whnf
 refine sim_bind (g_slices_medianCmpFunc_int__desc_Touches_1_e t0 t1 t2 t3 (w64 (b - 1)) b (w64 (b + 1)) m0_0 m1_0 m2_0 m2_1 m2_2 m2_3 m2_4 m2_5) (g_slices_medianCmpFunc_int__desc_Touches_1_ok t0 t1 t2 t3 (w64 (b - 1)) b (w64 (b + 1)) m0_0 m1_0 m2_0 m2_1 m2_2 m2_3 m2_4 m2_5) fun x0 hx0 => ?_
 conv => arg 3; whnf
 exact sim_ret rfl
def g_slices_choosePivotCmpFunc_int__desc_Touches_1_e (t0 : Bool) (t1 : Bool) (t2 : Bool) (t3 : Bool) (b : Int) (c : Int) (m0_0 : (List Int)) (m1_0 : Int) (m1_1 : Int) (m1_2 : (List PartT)) (m1_3 : (List EdgeT)) (m1_4 : (List FutureT)) (m1_5 : (List BarrierT)) : (Int × Int) → V × Heap
  | r => ((.d (D.tup [(intD r.1), (intD r.2)])), [(.arr 1 (List.map intD m0_0)), (.cells [(.d (intD m1_0)), (.d (intD m1_1)), (.d (D.list t0 (List.map partD m1_2))), (.d (D.list t1 (List.map edgeD m1_3))), (.d (D.list t2 (List.map futureD m1_4))), (.d (D.list t3 (List.map barrierD m1_5)))])])
set_option maxRecDepth 100000 in
set_option maxHeartbeats 40000000 in
theorem g_slices_choosePivotCmpFunc_int__desc_Touches_1_ok (t0 : Bool) (t1 : Bool) (t2 : Bool) (t3 : Bool) (b : Int) (c : Int) (m0_0 : (List Int)) (m1_0 : Int) (m1_1 : Int) (m1_2 : (List PartT)) (m1_3 : (List EdgeT)) (m1_4 : (List FutureT)) (m1_5 : (List BarrierT)) : ∀ r, (g_slices_choosePivotCmpFunc_int b c (fun z0 z1 => g_desc_Touches_1 z0 z1 m1_4) m0_0) = some r → evW ctx 101 [(.sl 0 1), (.d (intD b)), (.d (intD c)), (.fn 62 [(.ptr 1 0)])] [(.arr 1 (List.map intD m0_0)), (.cells [(.d (intD m1_0)), (.d (intD m1_1)), (.d (D.list t0 (List.map partD m1_2))), (.d (D.list t1 (List.map edgeD m1_3))), (.d (D.list t2 (List.map futureD m1_4))), (.d (D.list t3 (List.map barrierD m1_5)))])] = some ((g_slices_choosePivotCmpFunc_int__desc_Touches_1_e t0 t1 t2 t3 b c m0_0 m1_0 m1_1 m1_2 m1_3 m1_4 m1_5) r) := by
 show Says _ (fun r rhs => rhs = some ((g_slices_choosePivotCmpFunc_int__desc_Touches_1_e t0 t1 t2 t3 b c m0_0 m1_0 m1_1 m1_2 m1_3 m1_4 m1_5) r)) _
 unfold g_slices_choosePivotCmpFunc_int
 rw [evW_K ctx 101 fn101 _ _ rfl rfl]
 conv => arg 3; whnf
 refine sim_f rfl ?_
 conv => arg 3; whnf
 refine sim_f rfl ?_
 conv => arg 3; whnf
 refine sim_f rfl ?_
 conv => arg 3; whnf
 refine sim_br rfl ?_ ?_
 ·conv => arg 3; whnf
  refine sim_br rfl ?_ ?_
  ·conv => arg 3; whnf
   refine sim_bind (g_slices_medianAdjacentCmpFunc_int__desc_Touches_1_e t0 t1 t2 t3 (w64 (b + (w64 ((w64 (Int.tdiv (w64 (c - b)) 4)) * 1)))) m0_0 0 m1_0 m1_1 m1_2 m1_3 m1_4 m1_5) (g_slices_medianAdjacentCmpFunc_int__desc_Touches_1_ok t0 t1 t2 t3 (w64 (b + (w64 ((w64 (Int.tdiv (w64 (c - b)) 4)) * 1)))) m0_0 0 m1_0 m1_1 m1_2 m1_3 m1_4 m1_5) fun x0 hx0 => ?_
   conv => arg 3; whnf
   refine sim_bind (g_slices_medianAdjacentCmpFunc_int__desc_Touches_1_e t0 t1 t2 t3 (w64 (b + (w64 ((w64 (Int.tdiv (w64 (c - b)) 4)) * 2)))) m0_0 x0.2 m1_0 m1_1 m1_2 m1_3 m1_4 m1_5) (g_slices_medianAdjacentCmpFunc_int__desc_Touches_1_ok t0 t1 t2 t3 (w64 (b + (w64 ((w64 (Int.tdiv (w64 (c - b)) 4)) * 2)))) m0_0 x0.2 m1_0 m1_1 m1_2 m1_3 m1_4 m1_5) fun x1 hx1 => ?_
   conv => arg 3; whnf
   refine sim_bind (g_slices_medianAdjacentCmpFunc_int__desc_Touches_1_e t0 t1 t2 t3 (w64 (b + (w64 ((w64 (Int.tdiv (w64 (c - b)) 4)) * 3)))) m0_0 x1.2 m1_0 m1_1 m1_2 m1_3 m1_4 m1_5) (g_slices_medianAdjacentCmpFunc_int__desc_Touches_1_ok t0 t1 t2 t3 (w64 (b + (w64 ((w64 (Int.tdiv (w64 (c - b)) 4)) * 3)))) m0_0 x1.2 m1_0 m1_1 m1_2 m1_3 m1_4 m1_5) fun x2 hx2 => ?_
   conv => arg 3; whnf
   refine sim_bind (g_slices_medianCmpFunc_int__desc_Touches_1_e t0 t1 t2 t3 x0.1 x1.1 x2.1 m0_0 x2.2 m1_0 m1_1 m1_2 m1_3 m1_4 m1_5) (g_slices_medianCmpFunc_int__desc_Touches_1_ok t0 t1 t2 t3 x0.1 x1.1 x2.1 m0_0 x2.2 m1_0 m1_1 m1_2 m1_3 m1_4 m1_5) fun x3 hx3 => ?_
   conv => arg 3; whnf
   refine sim_br rfl ?_ ?_
   ·conv => arg 3; whnf
    exact sim_ret rfl
   ·conv => arg 3; whnf
    refine sim_br rfl ?_ ?_
    ·conv => arg 3; whnf
     exact sim_ret rfl
    ·conv => arg 3; whnf
     exact sim_ret rfl
  ·conv => arg 3; whnf
   refine sim_bind (g_slices_medianCmpFunc_int__desc_Touches_1_e t0 t1 t2 t3 (w64 (b + (w64 ((w64 (Int.tdiv (w64 (c - b)) 4)) * 1)))) (w64 (b + (w64 ((w64 (Int.tdiv (w64 (c - b)) 4)) * 2)))) (w64 (b + (w64 ((w64 (Int.tdiv (w64 (c - b)) 4)) * 3)))) m0_0 0 m1_0 m1_1 m1_2 m1_3 m1_4 m1_5) (g_slices_medianCmpFunc_int__desc_Touches_1_ok t0 t1 t2 t3 (w64 (b + (w64 ((w64 (Int.tdiv (w64 (c - b)) 4)) * 1)))) (w64 (b + (w64 ((w64 (Int.tdiv (w64 (c - b)) 4)) * 2)))) (w64 (b + (w64 ((w64 (Int.tdiv (w64 (c - b)) 4)) * 3)))) m0_0 0 m1_0 m1_1 m1_2 m1_3 m1_4 m1_5) fun x4 hx4 => ?_
   conv => arg 3; whnf
   refine sim_br rfl ?_ ?_
   ·conv => arg 3; whnf
    exact sim_ret rfl
   ·conv => arg 3; whnf
    refine sim_br rfl ?_ ?_
    ·conv => arg 3; whnf
     exact sim_ret rfl
    ·conv => arg 3; whnf
     exact sim_ret rfl
 ·conv => arg 3; whnf
  refine sim_t rfl ?_
  conv => arg 3; whnf
  exact sim_ret rfl
def g_slices_reverseRangeCmpFunc_int__desc_Touches_1_e (t0 : Bool) (t1 : Bool) (t2 : Bool) (t3 : Bool) (b : Int) (c : Int) (m0_0 : (List Int)) (m1_0 : Int) (m1_1 : Int) (m1_2 : (List PartT)) (m1_3 : (List EdgeT)) (m1_4 : (List FutureT)) (m1_5 : (List BarrierT)) : (List Int) → V × Heap
  | r => ((.d (D.tup [])), [(.arr 1 (List.map intD r)), (.cells [(.d (intD m1_0)), (.d (intD m1_1)), (.d (D.list t0 (List.map partD m1_2))), (.d (D.list t1 (List.map edgeD m1_3))), (.d (D.list t2 (List.map futureD m1_4))), (.d (D.list t3 (List.map barrierD m1_5)))])])
def g_slices_reverseRangeCmpFunc_int__desc_Touches_1_L0_x (t0 : Bool) (t1 : Bool) (t2 : Bool) (t3 : Bool) (m1_0 : Int) (m1_1 : Int) (m1_2 : (List PartT)) (m1_3 : (List EdgeT)) (m1_4 : (List FutureT)) (m1_5 : (List BarrierT)) : (List Int) → Ex × List V × Heap
  | r => (.exit 0, [], [(.arr 1 (List.map intD r)), (.cells [(.d (intD m1_0)), (.d (intD m1_1)), (.d (D.list t0 (List.map partD m1_2))), (.d (D.list t1 (List.map edgeD m1_3))), (.d (D.list t2 (List.map futureD m1_4))), (.d (D.list t3 (List.map barrierD m1_5)))])])
set_option maxRecDepth 100000 in
set_option maxHeartbeats 40000000 in
theorem g_slices_reverseRangeCmpFunc_int__desc_Touches_1_L0_ok (t0 : Bool) (t1 : Bool) (t2 : Bool) (t3 : Bool) (m1_0 : Int) (m1_1 : Int) (m1_2 : (List PartT)) (m1_3 : (List EdgeT)) (m1_4 : (List FutureT)) (m1_5 : (List BarrierT)) : ∀ (s0 : Int × Int × (List Int)) (r : (List Int)), lp (g_slices_reverseRangeCmpFunc_int_L0) s0 = some r → lpW ctx 2 [0, 8, 9] [] ir102L0 [(.sl 0 1), (.d (intD s0.1)), (.d (intD s0.2.1))] [(.arr 1 (List.map intD s0.2.2)), (.cells [(.d (intD m1_0)), (.d (intD m1_1)), (.d (D.list t0 (List.map partD m1_2))), (.d (D.list t1 (List.map edgeD m1_3))), (.d (D.list t2 (List.map futureD m1_4))), (.d (D.list t3 (List.map barrierD m1_5)))])] = some ((g_slices_reverseRangeCmpFunc_int__desc_Touches_1_L0_x t0 t1 t2 t3 m1_0 m1_1 m1_2 m1_3 m1_4 m1_5) r) := by
 refine lp_ok (g_slices_reverseRangeCmpFunc_int__desc_Touches_1_L0_x t0 t1 t2 t3 m1_0 m1_1 m1_2 m1_3 m1_4 m1_5) ?_
 intro s0 rcl ih
 show Says _ _ (lpW _ _ _ _ _ _ _)
 unfold g_slices_reverseRangeCmpFunc_int_L0
 rw [lpW_b]
 conv => arg 3; whnf
 refine sim_br rfl ?_ ?_
 ·conv => arg 3; whnf
  refine sim_get (f := intD) rfl rfl fun x1 hx1 => ?_
  conv => arg 3; whnf
  refine sim_known (nth_of (f := intD) rfl hx1) ?_
  conv => arg 3; whnf
  refine sim_get (f := intD) rfl rfl fun x2 hx2 => ?_
  conv => arg 3; whnf
  refine sim_known (nth_of (f := intD) rfl hx2) ?_
  conv => arg 3; whnf
  refine sim_known (get_of (f := intD) rfl hx2) ?_
  conv => arg 3; whnf
  refine sim_known (nth_of (f := intD) rfl hx2) ?_
  conv => arg 3; whnf
  refine sim_let (set_enc intD s0.2.2 s0.1.toNat x1) ?_
  conv => arg 3; whnf
  refine sim_get (f := intD) rfl rfl fun x3 hx3 => ?_
  conv => arg 3; whnf
  refine sim_known (nth_of (f := intD) rfl hx3) ?_
  conv => arg 3; whnf
  refine sim_let (set_enc intD (List.set s0.2.2 s0.1.toNat x1) s0.2.1.toNat x2) ?_
  conv => arg 3; whnf
  exact sim_again (ih ((w64 (s0.1 + 1)), (w64 (s0.2.1 - 1)), (List.set (List.set s0.2.2 s0.1.toNat x1) s0.2.1.toNat x2)))
 ·conv => arg 3; whnf
  exact sim_ret rfl
set_option maxRecDepth 100000 in
set_option maxHeartbeats 40000000 in
theorem g_slices_reverseRangeCmpFunc_int__desc_Touches_1_ok (t0 : Bool) (t1 : Bool) (t2 : Bool) (t3 : Bool) (b : Int) (c : Int) (m0_0 : (List Int)) (m1_0 : Int) (m1_1 : Int) (m1_2 : (List PartT)) (m1_3 : (List EdgeT)) (m1_4 : (List FutureT)) (m1_5 : (List BarrierT)) : ∀ r, (g_slices_reverseRangeCmpFunc_int b c (fun z0 z1 => g_desc_Touches_1 z0 z1 m1_4) m0_0) = some r → evW ctx 102 [(.sl 0 1), (.d (intD b)), (.d (intD c)), (.fn 62 [(.ptr 1 0)])] [(.arr 1 (List.map intD m0_0)), (.cells [(.d (intD m1_0)), (.d (intD m1_1)), (.d (D.list t0 (List.map partD m1_2))), (.d (D.list t1 (List.map edgeD m1_3))), (.d (D.list t2 (List.map futureD m1_4))), (.d (D.list t3 (List.map barrierD m1_5)))])] = some ((g_slices_reverseRangeCmpFunc_int__desc_Touches_1_e t0 t1 t2 t3 b c m0_0 m1_0 m1_1 m1_2 m1_3 m1_4 m1_5) r) := by
 show Says _ (fun r rhs => rhs = some ((g_slices_reverseRangeCmpFunc_int__desc_Touches_1_e t0 t1 t2 t3 b c m0_0 m1_0 m1_1 m1_2 m1_3 m1_4 m1_5) r)) _
 unfold g_slices_reverseRangeCmpFunc_int
 rw [evW_K ctx 102 fn102 _ _ rfl rfl]
 conv => arg 3; whnf
 refine sim_bind (g_slices_reverseRangeCmpFunc_int__desc_Touches_1_L0_x t0 t1 t2 t3 m1_0 m1_1 m1_2 m1_3 m1_4 m1_5) (g_slices_reverseRangeCmpFunc_int__desc_Touches_1_L0_ok t0 t1 t2 t3 m1_0 m1_1 m1_2 m1_3 m1_4 m1_5 (b, (w64 (c - 1)), m0_0)) fun r4 hr4 => ?_
 conv => arg 3; whnf
 exact sim_ret rfl
def g_slices_partialInsertionSortCmpFunc_int__desc_Touches_1_e (t0 : Bool) (t1 : Bool) (t2 : Bool) (t3 : Bool) (b : Int) (c : Int) (m0_0 : (List Int)) (m1_0 : Int) (m1_1 : Int) (m1_2 : (List PartT)) (m1_3 : (List EdgeT)) (m1_4 : (List FutureT)) (m1_5 : (List BarrierT)) : ((List Int) ⊕ (List Int)) → V × Heap
  | (.inl r) => ((.d (D.bool true)), [(.arr 1 (List.map intD r)), (.cells [(.d (intD m1_0)), (.d (intD m1_1)), (.d (D.list t0 (List.map partD m1_2))), (.d (D.list t1 (List.map edgeD m1_3))), (.d (D.list t2 (List.map futureD m1_4))), (.d (D.list t3 (List.map barrierD m1_5)))])])
  | (.inr r) => ((.d (D.bool false)), [(.arr 1 (List.map intD r)), (.cells [(.d (intD m1_0)), (.d (intD m1_1)), (.d (D.list t0 (List.map partD m1_2))), (.d (D.list t1 (List.map edgeD m1_3))), (.d (D.list t2 (List.map futureD m1_4))), (.d (D.list t3 (List.map barrierD m1_5)))])])
def g_slices_partialInsertionSortCmpFunc_int__desc_Touches_1_L0_x (t0 : Bool) (t1 : Bool) (t2 : Bool) (t3 : Bool) (b : Int) (c : Int) (m1_0 : Int) (m1_1 : Int) (m1_2 : (List PartT)) (m1_3 : (List EdgeT)) (m1_4 : (List FutureT)) (m1_5 : (List BarrierT)) (s0 : Int × Int × (List Int)) : Int → Ex × List V × Heap
  | r => (.exit 2, [(.sl 0 1), (.d (intD b)), (.d (intD c)), (.fn 62 [(.ptr 1 0)]), (.d (intD r)), (.d (intD s0.2.1))], [(.arr 1 (List.map intD s0.2.2)), (.cells [(.d (intD m1_0)), (.d (intD m1_1)), (.d (D.list t0 (List.map partD m1_2))), (.d (D.list t1 (List.map edgeD m1_3))), (.d (D.list t2 (List.map futureD m1_4))), (.d (D.list t3 (List.map barrierD m1_5)))])])
set_option maxRecDepth 100000 in
set_option maxHeartbeats 40000000 in
theorem g_slices_partialInsertionSortCmpFunc_int__desc_Touches_1_L0_ok (t0 : Bool) (t1 : Bool) (t2 : Bool) (t3 : Bool) (b : Int) (c : Int) (m1_0 : Int) (m1_1 : Int) (m1_2 : (List PartT)) (m1_3 : (List EdgeT)) (m1_4 : (List FutureT)) (m1_5 : (List BarrierT)) (s0 : Int × Int × (List Int)) : ∀ (s1 : Int) (r : Int), lp (g_slices_partialInsertionSortCmpFunc_int_L0 c (fun z0 z1 => g_desc_Touches_1 z0 z1 m1_4) s0) s1 = some r → lpW ctx 2 [0, 1, 2, 3, 9, 10] [0, 1, 2, 3, 9, 10] ir103L0 [(.sl 0 1), (.d (intD b)), (.d (intD c)), (.fn 62 [(.ptr 1 0)]), (.d (intD s1)), (.d (intD s0.2.1))] [(.arr 1 (List.map intD s0.2.2)), (.cells [(.d (intD m1_0)), (.d (intD m1_1)), (.d (D.list t0 (List.map partD m1_2))), (.d (D.list t1 (List.map edgeD m1_3))), (.d (D.list t2 (List.map futureD m1_4))), (.d (D.list t3 (List.map barrierD m1_5)))])] = some ((g_slices_partialInsertionSortCmpFunc_int__desc_Touches_1_L0_x t0 t1 t2 t3 b c m1_0 m1_1 m1_2 m1_3 m1_4 m1_5 s0) r) := by
 refine lp_ok (g_slices_partialInsertionSortCmpFunc_int__desc_Touches_1_L0_x t0 t1 t2 t3 b c m1_0 m1_1 m1_2 m1_3 m1_4 m1_5 s0) ?_
 intro s1 rcl ih
 show Says _ _ (lpW _ _ _ _ _ _ _)
 unfold g_slices_partialInsertionSortCmpFunc_int_L0
 rw [lpW_b]
 conv => arg 3; whnf
 refine sim_br rfl ?_ ?_
 ·conv => arg 3; whnf
  refine sim_get (f := intD) rfl rfl fun x2 hx2 => ?_
  conv => arg 3; whnf
  refine sim_known (nth_of (f := intD) rfl hx2) ?_
  conv => arg 3; whnf
  refine sim_get (f := intD) rfl rfl fun x3 hx3 => ?_
  conv => arg 3; whnf
  refine sim_known (nth_of (f := intD) rfl hx3) ?_
  conv => arg 3; whnf
  refine sim_call g_desc_Touches_1_e (g_desc_Touches_1_ok t0 t1 t2 t3 x2 x3 m1_0 m1_1 m1_2 m1_3 m1_4 m1_5) rfl fun x4 hx4 => ?_
  conv => arg 3; whnf
  refine sim_br rfl ?_ ?_
  ·conv => arg 3; whnf
   exact sim_ret rfl
  ·conv => arg 3; whnf
   exact sim_again (ih (w64 (s1 + 1)))
 ·conv => arg 3; whnf
  exact sim_ret rfl
def g_slices_partialInsertionSortCmpFunc_int__desc_Touches_1_L1_x (t0 : Bool) (t1 : Bool) (t2 : Bool) (t3 : Bool) (b : Int) (c : Int) (m1_0 : Int) (m1_1 : Int) (m1_2 : (List PartT)) (m1_3 : (List EdgeT)) (m1_4 : (List FutureT)) (m1_5 : (List BarrierT)) (s0 : Int × Int × (List Int)) (r5 : Int) : (List Int) → Ex × List V × Heap
  | r => (.exit 4, [(.sl 0 1), (.d (intD b)), (.d (intD c)), (.fn 62 [(.ptr 1 0)]), (.d (intD r5)), (.d (intD s0.2.1))], [(.arr 1 (List.map intD r)), (.cells [(.d (intD m1_0)), (.d (intD m1_1)), (.d (D.list t0 (List.map partD m1_2))), (.d (D.list t1 (List.map edgeD m1_3))), (.d (D.list t2 (List.map futureD m1_4))), (.d (D.list t3 (List.map barrierD m1_5)))])])
set_option maxRecDepth 100000 in
set_option maxHeartbeats 40000000 in
theorem g_slices_partialInsertionSortCmpFunc_int__desc_Touches_1_L1_ok (t0 : Bool) (t1 : Bool) (t2 : Bool) (t3 : Bool) (b : Int) (c : Int) (m1_0 : Int) (m1_1 : Int) (m1_2 : (List PartT)) (m1_3 : (List EdgeT)) (m1_4 : (List FutureT)) (m1_5 : (List BarrierT)) (s0 : Int × Int × (List Int)) (r5 : Int) : ∀ (s9 : Int × (List Int)) (r : (List Int)), lp (g_slices_partialInsertionSortCmpFunc_int_L1 (fun z0 z1 => g_desc_Touches_1 z0 z1 m1_4)) s9 = some r → lpW ctx 2 [0, 1, 2, 3, 9, 10, 11] [0, 1, 2, 3, 9, 10] ir103L1 [(.sl 0 1), (.d (intD b)), (.d (intD c)), (.fn 62 [(.ptr 1 0)]), (.d (intD r5)), (.d (intD s0.2.1)), (.d (intD s9.1))] [(.arr 1 (List.map intD s9.2)), (.cells [(.d (intD m1_0)), (.d (intD m1_1)), (.d (D.list t0 (List.map partD m1_2))), (.d (D.list t1 (List.map edgeD m1_3))), (.d (D.list t2 (List.map futureD m1_4))), (.d (D.list t3 (List.map barrierD m1_5)))])] = some ((g_slices_partialInsertionSortCmpFunc_int__desc_Touches_1_L1_x t0 t1 t2 t3 b c m1_0 m1_1 m1_2 m1_3 m1_4 m1_5 s0 r5) r) := by
 refine lp_ok (g_slices_partialInsertionSortCmpFunc_int__desc_Touches_1_L1_x t0 t1 t2 t3 b c m1_0 m1_1 m1_2 m1_3 m1_4 m1_5 s0 r5) ?_
 intro s9 rcl ih
 show Says _ _ (lpW _ _ _ _ _ _ _)
 unfold g_slices_partialInsertionSortCmpFunc_int_L1
 rw [lpW_b]
 conv => arg 3; whnf
 refine sim_br rfl ?_ ?_
 ·conv => arg 3; whnf
  refine sim_get (f := intD) rfl rfl fun x10 hx10 => ?_
  conv => arg 3; whnf
  refine sim_known (nth_of (f := intD) rfl hx10) ?_
  conv => arg 3; whnf
  refine sim_get (f := intD) rfl rfl fun x11 hx11 => ?_
  conv => arg 3; whnf
  refine sim_known (nth_of (f := intD) rfl hx11) ?_
  conv => arg 3; whnf
  refine sim_call g_desc_Touches_1_e (g_desc_Touches_1_ok t0 t1 t2 t3 x10 x11 m1_0 m1_1 m1_2 m1_3 m1_4 m1_5) rfl fun x12 hx12 => ?_
  conv => arg 3; whnf
  refine sim_br rfl ?_ ?_
  ·conv => arg 3; whnf
   refine sim_known (get_of (f := intD) rfl hx11) ?_
   conv => arg 3; whnf
   refine sim_known (nth_of (f := intD) rfl hx11) ?_
   conv => arg 3; whnf
   refine sim_known (get_of (f := intD) rfl hx10) ?_
   conv => arg 3; whnf
   refine sim_known (nth_of (f := intD) rfl hx10) ?_
   conv => arg 3; whnf
   refine sim_known (get_of (f := intD) rfl hx10) ?_
   conv => arg 3; whnf
   refine sim_known (nth_of (f := intD) rfl hx10) ?_
   conv => arg 3; whnf
   refine sim_let (set_enc intD s9.2 s9.1.toNat x11) ?_
   conv => arg 3; whnf
   refine sim_get (f := intD) rfl rfl fun x13 hx13 => ?_
   conv => arg 3; whnf
   refine sim_known (nth_of (f := intD) rfl hx13) ?_
   conv => arg 3; whnf
   refine sim_let (set_enc intD (List.set s9.2 s9.1.toNat x11) (w64 (s9.1 - 1)).toNat x10) ?_
   conv => arg 3; whnf
   exact sim_again (ih ((w64 (s9.1 - 1)), (List.set (List.set s9.2 s9.1.toNat x11) (w64 (s9.1 - 1)).toNat x10)))
  ·conv => arg 3; whnf
   exact sim_ret rfl
 ·conv => arg 3; whnf
  exact sim_ret rfl
def g_slices_partialInsertionSortCmpFunc_int__desc_Touches_1_L2_x (t0 : Bool) (t1 : Bool) (t2 : Bool) (t3 : Bool) (b : Int) (c : Int) (m1_0 : Int) (m1_1 : Int) (m1_2 : (List PartT)) (m1_3 : (List EdgeT)) (m1_4 : (List FutureT)) (m1_5 : (List BarrierT)) (s0 : Int × Int × (List Int)) (r5 : Int) : (List Int) → Ex × List V × Heap
  | r => (.exit 6, [(.sl 0 1), (.d (intD b)), (.d (intD c)), (.fn 62 [(.ptr 1 0)]), (.d (intD r5)), (.d (intD s0.2.1))], [(.arr 1 (List.map intD r)), (.cells [(.d (intD m1_0)), (.d (intD m1_1)), (.d (D.list t0 (List.map partD m1_2))), (.d (D.list t1 (List.map edgeD m1_3))), (.d (D.list t2 (List.map futureD m1_4))), (.d (D.list t3 (List.map barrierD m1_5)))])])
set_option maxRecDepth 100000 in
set_option maxHeartbeats 40000000 in
theorem g_slices_partialInsertionSortCmpFunc_int__desc_Touches_1_L2_ok (t0 : Bool) (t1 : Bool) (t2 : Bool) (t3 : Bool) (b : Int) (c : Int) (m1_0 : Int) (m1_1 : Int) (m1_2 : (List PartT)) (m1_3 : (List EdgeT)) (m1_4 : (List FutureT)) (m1_5 : (List BarrierT)) (s0 : Int × Int × (List Int)) (r5 : Int) : ∀ (s15 : Int × (List Int)) (r : (List Int)), lp (g_slices_partialInsertionSortCmpFunc_int_L2 c (fun z0 z1 => g_desc_Touches_1 z0 z1 m1_4)) s15 = some r → lpW ctx 2 [0, 1, 2, 3, 9, 10, 12] [0, 1, 2, 3, 9, 10] ir103L2 [(.sl 0 1), (.d (intD b)), (.d (intD c)), (.fn 62 [(.ptr 1 0)]), (.d (intD r5)), (.d (intD s0.2.1)), (.d (intD s15.1))] [(.arr 1 (List.map intD s15.2)), (.cells [(.d (intD m1_0)), (.d (intD m1_1)), (.d (D.list t0 (List.map partD m1_2))), (.d (D.list t1 (List.map edgeD m1_3))), (.d (D.list t2 (List.map futureD m1_4))), (.d (D.list t3 (List.map barrierD m1_5)))])] = some ((g_slices_partialInsertionSortCmpFunc_int__desc_Touches_1_L2_x t0 t1 t2 t3 b c m1_0 m1_1 m1_2 m1_3 m1_4 m1_5 s0 r5) r) := by
 refine lp_ok (g_slices_partialInsertionSortCmpFunc_int__desc_Touches_1_L2_x t0 t1 t2 t3 b c m1_0 m1_1 m1_2 m1_3 m1_4 m1_5 s0 r5) ?_
 intro s15 rcl ih
 show Says _ _ (lpW _ _ _ _ _ _ _)
 unfold g_slices_partialInsertionSortCmpFunc_int_L2
 rw [lpW_b]
 conv => arg 3; whnf
 refine sim_br rfl ?_ ?_
 ·conv => arg 3; whnf
  refine sim_get (f := intD) rfl rfl fun x16 hx16 => ?_
  conv => arg 3; whnf
  refine sim_known (nth_of (f := intD) rfl hx16) ?_
  conv => arg 3; whnf
  refine sim_get (f := intD) rfl rfl fun x17 hx17 => ?_
  conv => arg 3; whnf
  refine sim_known (nth_of (f := intD) rfl hx17) ?_
  conv => arg 3; whnf
  refine sim_call g_desc_Touches_1_e (g_desc_Touches_1_ok t0 t1 t2 t3 x16 x17 m1_0 m1_1 m1_2 m1_3 m1_4 m1_5) rfl fun x18 hx18 => ?_
  conv => arg 3; whnf
  refine sim_br rfl ?_ ?_
  ·conv => arg 3; whnf
   refine sim_known (get_of (f := intD) rfl hx17) ?_
   conv => arg 3; whnf
   refine sim_known (nth_of (f := intD) rfl hx17) ?_
   conv => arg 3; whnf
   refine sim_known (get_of (f := intD) rfl hx16) ?_
   conv => arg 3; whnf
   refine sim_known (nth_of (f := intD) rfl hx16) ?_
   conv => arg 3; whnf
   refine sim_known (get_of (f := intD) rfl hx16) ?_
   conv => arg 3; whnf
   refine sim_known (nth_of (f := intD) rfl hx16) ?_
   conv => arg 3; whnf
   refine sim_let (set_enc intD s15.2 s15.1.toNat x17) ?_
   conv => arg 3; whnf
   refine sim_get (f := intD) rfl rfl fun x19 hx19 => ?_
   conv => arg 3; whnf
   refine sim_known (nth_of (f := intD) rfl hx19) ?_
   conv => arg 3; whnf
   refine sim_let (set_enc intD (List.set s15.2 s15.1.toNat x17) (w64 (s15.1 - 1)).toNat x16) ?_
   conv => arg 3; whnf
   exact sim_again (ih ((w64 (s15.1 + 1)), (List.set (List.set s15.2 s15.1.toNat x17) (w64 (s15.1 - 1)).toNat x16)))
  ·conv => arg 3; whnf
   exact sim_ret rfl
 ·conv => arg 3; whnf
  exact sim_ret rfl
def g_slices_partialInsertionSortCmpFunc_int__desc_Touches_1_L2_2_x (t0 : Bool) (t1 : Bool) (t2 : Bool) (t3 : Bool) (b : Int) (c : Int) (m1_0 : Int) (m1_1 : Int) (m1_2 : (List PartT)) (m1_3 : (List EdgeT)) (m1_4 : (List FutureT)) (m1_5 : (List BarrierT)) (s0 : Int × Int × (List Int)) (r5 : Int) : (List Int) → Ex × List V × Heap
  | r => (.exit 6, [(.sl 0 1), (.d (intD b)), (.d (intD c)), (.fn 62 [(.ptr 1 0)]), (.d (intD r5)), (.d (intD s0.2.1))], [(.arr 1 (List.map intD r)), (.cells [(.d (intD m1_0)), (.d (intD m1_1)), (.d (D.list t0 (List.map partD m1_2))), (.d (D.list t1 (List.map edgeD m1_3))), (.d (D.list t2 (List.map futureD m1_4))), (.d (D.list t3 (List.map barrierD m1_5)))])])
set_option maxRecDepth 100000 in
set_option maxHeartbeats 40000000 in
theorem g_slices_partialInsertionSortCmpFunc_int__desc_Touches_1_L2_2_ok (t0 : Bool) (t1 : Bool) (t2 : Bool) (t3 : Bool) (b : Int) (c : Int) (m1_0 : Int) (m1_1 : Int) (m1_2 : (List PartT)) (m1_3 : (List EdgeT)) (m1_4 : (List FutureT)) (m1_5 : (List BarrierT)) (s0 : Int × Int × (List Int)) (r5 : Int) : ∀ (s21 : Int × (List Int)) (r : (List Int)), lp (g_slices_partialInsertionSortCmpFunc_int_L2_2 c (fun z0 z1 => g_desc_Touches_1 z0 z1 m1_4)) s21 = some r → lpW ctx 2 [0, 1, 2, 3, 9, 10, 12] [0, 1, 2, 3, 9, 10] ir103L2 [(.sl 0 1), (.d (intD b)), (.d (intD c)), (.fn 62 [(.ptr 1 0)]), (.d (intD r5)), (.d (intD s0.2.1)), (.d (intD s21.1))] [(.arr 1 (List.map intD s21.2)), (.cells [(.d (intD m1_0)), (.d (intD m1_1)), (.d (D.list t0 (List.map partD m1_2))), (.d (D.list t1 (List.map edgeD m1_3))), (.d (D.list t2 (List.map futureD m1_4))), (.d (D.list t3 (List.map barrierD m1_5)))])] = some ((g_slices_partialInsertionSortCmpFunc_int__desc_Touches_1_L2_2_x t0 t1 t2 t3 b c m1_0 m1_1 m1_2 m1_3 m1_4 m1_5 s0 r5) r) := by
 refine lp_ok (g_slices_partialInsertionSortCmpFunc_int__desc_Touches_1_L2_2_x t0 t1 t2 t3 b c m1_0 m1_1 m1_2 m1_3 m1_4 m1_5 s0 r5) ?_
 intro s21 rcl ih
 show Says _ _ (lpW _ _ _ _ _ _ _)
 unfold g_slices_partialInsertionSortCmpFunc_int_L2_2
 rw [lpW_b]
 conv => arg 3; whnf
 refine sim_br rfl ?_ ?_
 ·conv => arg 3; whnf
  refine sim_get (f := intD) rfl rfl fun x22 hx22 => ?_
  conv => arg 3; whnf
  refine sim_known (nth_of (f := intD) rfl hx22) ?_
  conv => arg 3; whnf
  refine sim_get (f := intD) rfl rfl fun x23 hx23 => ?_
  conv => arg 3; whnf
  refine sim_known (nth_of (f := intD) rfl hx23) ?_
  conv => arg 3; whnf
  refine sim_call g_desc_Touches_1_e (g_desc_Touches_1_ok t0 t1 t2 t3 x22 x23 m1_0 m1_1 m1_2 m1_3 m1_4 m1_5) rfl fun x24 hx24 => ?_
  conv => arg 3; whnf
  refine sim_br rfl ?_ ?_
  ·conv => arg 3; whnf
   refine sim_known (get_of (f := intD) rfl hx23) ?_
   conv => arg 3; whnf
   refine sim_known (nth_of (f := intD) rfl hx23) ?_
   conv => arg 3; whnf
   refine sim_known (get_of (f := intD) rfl hx22) ?_
   conv => arg 3; whnf
   refine sim_known (nth_of (f := intD) rfl hx22) ?_
   conv => arg 3; whnf
   refine sim_known (get_of (f := intD) rfl hx22) ?_
   conv => arg 3; whnf
   refine sim_known (nth_of (f := intD) rfl hx22) ?_
   conv => arg 3; whnf
   refine sim_let (set_enc intD s21.2 s21.1.toNat x23) ?_
   conv => arg 3; whnf
   refine sim_get (f := intD) rfl rfl fun x25 hx25 => ?_
   conv => arg 3; whnf
   refine sim_known (nth_of (f := intD) rfl hx25) ?_
   conv => arg 3; whnf
   refine sim_let (set_enc intD (List.set s21.2 s21.1.toNat x23) (w64 (s21.1 - 1)).toNat x22) ?_
   conv => arg 3; whnf
   exact sim_again (ih ((w64 (s21.1 + 1)), (List.set (List.set s21.2 s21.1.toNat x23) (w64 (s21.1 - 1)).toNat x22)))
  ·conv => arg 3; whnf
   exact sim_ret rfl
 ·conv => arg 3; whnf
  exact sim_ret rfl
def g_slices_partialInsertionSortCmpFunc_int__desc_Touches_1_L3_x (t0 : Bool) (t1 : Bool) (t2 : Bool) (t3 : Bool) (b : Int) (c : Int) (m1_0 : Int) (m1_1 : Int) (m1_2 : (List PartT)) (m1_3 : (List EdgeT)) (m1_4 : (List FutureT)) (m1_5 : (List BarrierT)) : ((List Int) ⊕ ((List Int) ⊕ (List Int))) → Ex × List V × Heap
  | (.inl r) => (.ret, [(.d (D.bool true))], [(.arr 1 (List.map intD r)), (.cells [(.d (intD m1_0)), (.d (intD m1_1)), (.d (D.list t0 (List.map partD m1_2))), (.d (D.list t1 (List.map edgeD m1_3))), (.d (D.list t2 (List.map futureD m1_4))), (.d (D.list t3 (List.map barrierD m1_5)))])])
  | (.inr (.inl r)) => (.ret, [(.d (D.bool false))], [(.arr 1 (List.map intD r)), (.cells [(.d (intD m1_0)), (.d (intD m1_1)), (.d (D.list t0 (List.map partD m1_2))), (.d (D.list t1 (List.map edgeD m1_3))), (.d (D.list t2 (List.map futureD m1_4))), (.d (D.list t3 (List.map barrierD m1_5)))])])
  | (.inr (.inr r)) => (.exit 0, [.bad], [(.arr 1 (List.map intD r)), (.cells [(.d (intD m1_0)), (.d (intD m1_1)), (.d (D.list t0 (List.map partD m1_2))), (.d (D.list t1 (List.map edgeD m1_3))), (.d (D.list t2 (List.map futureD m1_4))), (.d (D.list t3 (List.map barrierD m1_5)))])])
set_option maxRecDepth 100000 in
set_option maxHeartbeats 40000000 in
theorem g_slices_partialInsertionSortCmpFunc_int__desc_Touches_1_L3_ok (t0 : Bool) (t1 : Bool) (t2 : Bool) (t3 : Bool) (b : Int) (c : Int) (m1_0 : Int) (m1_1 : Int) (m1_2 : (List PartT)) (m1_3 : (List EdgeT)) (m1_4 : (List FutureT)) (m1_5 : (List BarrierT)) : ∀ (s0 : Int × Int × (List Int)) (r : ((List Int) ⊕ ((List Int) ⊕ (List Int)))), lp (g_slices_partialInsertionSortCmpFunc_int_L3 b c (fun z0 z1 => g_desc_Touches_1 z0 z1 m1_4)) s0 = some r → lpW ctx 2 [0, 1, 2, 3, 9, 10] [8] ir103L3 [(.sl 0 1), (.d (intD b)), (.d (intD c)), (.fn 62 [(.ptr 1 0)]), (.d (intD s0.1)), (.d (intD s0.2.1))] [(.arr 1 (List.map intD s0.2.2)), (.cells [(.d (intD m1_0)), (.d (intD m1_1)), (.d (D.list t0 (List.map partD m1_2))), (.d (D.list t1 (List.map edgeD m1_3))), (.d (D.list t2 (List.map futureD m1_4))), (.d (D.list t3 (List.map barrierD m1_5)))])] = some ((g_slices_partialInsertionSortCmpFunc_int__desc_Touches_1_L3_x t0 t1 t2 t3 b c m1_0 m1_1 m1_2 m1_3 m1_4 m1_5) r) := by
 refine lp_ok (g_slices_partialInsertionSortCmpFunc_int__desc_Touches_1_L3_x t0 t1 t2 t3 b c m1_0 m1_1 m1_2 m1_3 m1_4 m1_5) ?_
 intro s0 rcl ih
 show Says _ _ (lpW _ _ _ _ _ _ _)
 unfold g_slices_partialInsertionSortCmpFunc_int_L3
 rw [lpW_b]
 conv => arg 3; whnf
 refine sim_br rfl ?_ ?_
 ·conv => arg 3; whnf
  refine sim_bind (g_slices_partialInsertionSortCmpFunc_int__desc_Touches_1_L0_x t0 t1 t2 t3 b c m1_0 m1_1 m1_2 m1_3 m1_4 m1_5 s0) (g_slices_partialInsertionSortCmpFunc_int__desc_Touches_1_L0_ok t0 t1 t2 t3 b c m1_0 m1_1 m1_2 m1_3 m1_4 m1_5 s0 s0.1) fun r5 hr5 => ?_
  conv => arg 3; whnf
  refine sim_br rfl ?_ ?_
  ·conv => arg 3; whnf
   exact sim_ret rfl
  ·conv => arg 3; whnf
   refine sim_br rfl ?_ ?_
   ·conv => arg 3; whnf
    exact sim_ret rfl
   ·conv => arg 3; whnf
    refine sim_get (f := intD) rfl rfl fun x6 hx6 => ?_
    conv => arg 3; whnf
    refine sim_known (nth_of (f := intD) rfl hx6) ?_
    conv => arg 3; whnf
    refine sim_get (f := intD) rfl rfl fun x7 hx7 => ?_
    conv => arg 3; whnf
    refine sim_known (nth_of (f := intD) rfl hx7) ?_
    conv => arg 3; whnf
    refine sim_known (get_of (f := intD) rfl hx7) ?_
    conv => arg 3; whnf
    refine sim_known (nth_of (f := intD) rfl hx7) ?_
    conv => arg 3; whnf
    refine sim_let (set_enc intD s0.2.2 r5.toNat x6) ?_
    conv => arg 3; whnf
    refine sim_get (f := intD) rfl rfl fun x8 hx8 => ?_
    conv => arg 3; whnf
    refine sim_known (nth_of (f := intD) rfl hx8) ?_
    conv => arg 3; whnf
    refine sim_let (set_enc intD (List.set s0.2.2 r5.toNat x6) (w64 (r5 - 1)).toNat x7) ?_
    conv => arg 3; whnf
    refine sim_br rfl ?_ ?_
    ·conv => arg 3; whnf
     refine sim_bind (g_slices_partialInsertionSortCmpFunc_int__desc_Touches_1_L1_x t0 t1 t2 t3 b c m1_0 m1_1 m1_2 m1_3 m1_4 m1_5 s0 r5) (g_slices_partialInsertionSortCmpFunc_int__desc_Touches_1_L1_ok t0 t1 t2 t3 b c m1_0 m1_1 m1_2 m1_3 m1_4 m1_5 s0 r5 ((w64 (r5 - 1)), (List.set (List.set s0.2.2 r5.toNat x6) (w64 (r5 - 1)).toNat x7))) fun r14 hr14 => ?_
     conv => arg 3; whnf
     refine sim_br rfl ?_ ?_
     ·conv => arg 3; whnf
      refine sim_bind (g_slices_partialInsertionSortCmpFunc_int__desc_Touches_1_L2_x t0 t1 t2 t3 b c m1_0 m1_1 m1_2 m1_3 m1_4 m1_5 s0 r5) (g_slices_partialInsertionSortCmpFunc_int__desc_Touches_1_L2_ok t0 t1 t2 t3 b c m1_0 m1_1 m1_2 m1_3 m1_4 m1_5 s0 r5 ((w64 (r5 + 1)), r14)) fun r20 hr20 => ?_
      conv => arg 3; whnf
      exact sim_again (ih (r5, (w64 (s0.2.1 + 1)), r20))
     ·conv => arg 3; whnf
      exact sim_again (ih (r5, (w64 (s0.2.1 + 1)), r14))
    ·conv => arg 3; whnf
     refine sim_br rfl ?_ ?_
     ·conv => arg 3; whnf
      refine sim_bind (g_slices_partialInsertionSortCmpFunc_int__desc_Touches_1_L2_2_x t0 t1 t2 t3 b c m1_0 m1_1 m1_2 m1_3 m1_4 m1_5 s0 r5) (g_slices_partialInsertionSortCmpFunc_int__desc_Touches_1_L2_2_ok t0 t1 t2 t3 b c m1_0 m1_1 m1_2 m1_3 m1_4 m1_5 s0 r5 ((w64 (r5 + 1)), (List.set (List.set s0.2.2 r5.toNat x6) (w64 (r5 - 1)).toNat x7))) fun r26 hr26 => ?_
      conv => arg 3; whnf
      exact sim_again (ih (r5, (w64 (s0.2.1 + 1)), r26))
     ·conv => arg 3; whnf
      exact sim_again (ih (r5, (w64 (s0.2.1 + 1)), (List.set (List.set s0.2.2 r5.toNat x6) (w64 (r5 - 1)).toNat x7)))
 ·conv => arg 3; whnf
  exact sim_ret rfl
set_option maxRecDepth 100000 in
set_option maxHeartbeats 40000000 in
theorem g_slices_partialInsertionSortCmpFunc_int__desc_Touches_1_ok (t0 : Bool) (t1 : Bool) (t2 : Bool) (t3 : Bool) (b : Int) (c : Int) (m0_0 : (List Int)) (m1_0 : Int) (m1_1 : Int) (m1_2 : (List PartT)) (m1_3 : (List EdgeT)) (m1_4 : (List FutureT)) (m1_5 : (List BarrierT)) : ∀ r, (g_slices_partialInsertionSortCmpFunc_int b c (fun z0 z1 => g_desc_Touches_1 z0 z1 m1_4) m0_0) = some r → evW ctx 103 [(.sl 0 1), (.d (intD b)), (.d (intD c)), (.fn 62 [(.ptr 1 0)])] [(.arr 1 (List.map intD m0_0)), (.cells [(.d (intD m1_0)), (.d (intD m1_1)), (.d (D.list t0 (List.map partD m1_2))), (.d (D.list t1 (List.map edgeD m1_3))), (.d (D.list t2 (List.map futureD m1_4))), (.d (D.list t3 (List.map barrierD m1_5)))])] = some ((g_slices_partialInsertionSortCmpFunc_int__desc_Touches_1_e t0 t1 t2 t3 b c m0_0 m1_0 m1_1 m1_2 m1_3 m1_4 m1_5) r) := by
 show Says _ (fun r rhs => rhs = some ((g_slices_partialInsertionSortCmpFunc_int__desc_Touches_1_e t0 t1 t2 t3 b c m0_0 m1_0 m1_1 m1_2 m1_3 m1_4 m1_5) r)) _
 unfold g_slices_partialInsertionSortCmpFunc_int
 rw [evW_K ctx 103 fn103 _ _ rfl rfl]
 conv => arg 3; whnf
 refine sim_bind (g_slices_partialInsertionSortCmpFunc_int__desc_Touches_1_L3_x t0 t1 t2 t3 b c m1_0 m1_1 m1_2 m1_3 m1_4 m1_5) (g_slices_partialInsertionSortCmpFunc_int__desc_Touches_1_L3_ok t0 t1 t2 t3 b c m1_0 m1_1 m1_2 m1_3 m1_4 m1_5 ((w64 (b + 1)), 0, m0_0)) fun r27 hr27 => ?_
 clear hr27
 rcases r27 with r27 | (r27 | r27)
 ·conv => arg 3; whnf
  exact sim_ret rfl
 ·conv => arg 3; whnf
  exact sim_ret rfl
 ·conv => arg 3; whnf
  exact sim_ret rfl
def g_slices_partitionCmpFunc_int__desc_Touches_1_e (t0 : Bool) (t1 : Bool) (t2 : Bool) (t3 : Bool) (b : Int) (c : Int) (d : Int) (m0_0 : (List Int)) (m1_0 : Int) (m1_1 : Int) (m1_2 : (List PartT)) (m1_3 : (List EdgeT)) (m1_4 : (List FutureT)) (m1_5 : (List BarrierT)) : ((Int × (List Int)) ⊕ (Int × (List Int))) → V × Heap
  | (.inl r) => ((.d (D.tup [(intD r.1), (D.bool true)])), [(.arr 1 (List.map intD r.2)), (.cells [(.d (intD m1_0)), (.d (intD m1_1)), (.d (D.list t0 (List.map partD m1_2))), (.d (D.list t1 (List.map edgeD m1_3))), (.d (D.list t2 (List.map futureD m1_4))), (.d (D.list t3 (List.map barrierD m1_5)))])])
  | (.inr r) => ((.d (D.tup [(intD r.1), (D.bool false)])), [(.arr 1 (List.map intD r.2)), (.cells [(.d (intD m1_0)), (.d (intD m1_1)), (.d (D.list t0 (List.map partD m1_2))), (.d (D.list t1 (List.map edgeD m1_3))), (.d (D.list t2 (List.map futureD m1_4))), (.d (D.list t3 (List.map barrierD m1_5)))])])
def g_slices_partitionCmpFunc_int__desc_Touches_1_L0_x (t0 : Bool) (t1 : Bool) (t2 : Bool) (t3 : Bool) (b : Int) (c : Int) (d : Int) (m0_0 : (List Int)) (m1_0 : Int) (m1_1 : Int) (m1_2 : (List PartT)) (m1_3 : (List EdgeT)) (m1_4 : (List FutureT)) (m1_5 : (List BarrierT)) (x0 : Int) (x1 : Int) : Int → Ex × List V × Heap
  | r => (.exit 0, [(.sl 0 1), (.d (intD b)), (.fn 62 [(.ptr 1 0)]), (.d (intD r)), (.d (intD (w64 (c - 1))))], [(.arr 1 (List.map intD (List.set (List.set m0_0 b.toNat x0) d.toNat x1))), (.cells [(.d (intD m1_0)), (.d (intD m1_1)), (.d (D.list t0 (List.map partD m1_2))), (.d (D.list t1 (List.map edgeD m1_3))), (.d (D.list t2 (List.map futureD m1_4))), (.d (D.list t3 (List.map barrierD m1_5)))])])
set_option maxRecDepth 100000 in
set_option maxHeartbeats 40000000 in
theorem g_slices_partitionCmpFunc_int__desc_Touches_1_L0_ok (t0 : Bool) (t1 : Bool) (t2 : Bool) (t3 : Bool) (b : Int) (c : Int) (d : Int) (m0_0 : (List Int)) (m1_0 : Int) (m1_1 : Int) (m1_2 : (List PartT)) (m1_3 : (List EdgeT)) (m1_4 : (List FutureT)) (m1_5 : (List BarrierT)) (x0 : Int) (x1 : Int) : ∀ (s3 : Int) (r : Int), lp (g_slices_partitionCmpFunc_int_L0 b c d m0_0 (fun z0 z1 => g_desc_Touches_1 z0 z1 m1_4) x0 x1) s3 = some r → lpW ctx 2 [0, 1, 4, 12, 13] [0, 1, 4, 12, 13] ir105L0 [(.sl 0 1), (.d (intD b)), (.fn 62 [(.ptr 1 0)]), (.d (intD s3)), (.d (intD (w64 (c - 1))))] [(.arr 1 (List.map intD (List.set (List.set m0_0 b.toNat x0) d.toNat x1))), (.cells [(.d (intD m1_0)), (.d (intD m1_1)), (.d (D.list t0 (List.map partD m1_2))), (.d (D.list t1 (List.map edgeD m1_3))), (.d (D.list t2 (List.map futureD m1_4))), (.d (D.list t3 (List.map barrierD m1_5)))])] = some ((g_slices_partitionCmpFunc_int__desc_Touches_1_L0_x t0 t1 t2 t3 b c d m0_0 m1_0 m1_1 m1_2 m1_3 m1_4 m1_5 x0 x1) r) := by
 refine lp_ok (g_slices_partitionCmpFunc_int__desc_Touches_1_L0_x t0 t1 t2 t3 b c d m0_0 m1_0 m1_1 m1_2 m1_3 m1_4 m1_5 x0 x1) ?_
 intro s3 rcl ih
 show Says _ _ (lpW _ _ _ _ _ _ _)
 unfold g_slices_partitionCmpFunc_int_L0
 rw [lpW_b]
 conv => arg 3; whnf
 refine sim_br rfl ?_ ?_
 ·conv => arg 3; whnf
  refine sim_get (f := intD) rfl rfl fun x4 hx4 => ?_
  conv => arg 3; whnf
  refine sim_known (nth_of (f := intD) rfl hx4) ?_
  conv => arg 3; whnf
  refine sim_get (f := intD) rfl rfl fun x5 hx5 => ?_
  conv => arg 3; whnf
  refine sim_known (nth_of (f := intD) rfl hx5) ?_
  conv => arg 3; whnf
  refine sim_call g_desc_Touches_1_e (g_desc_Touches_1_ok t0 t1 t2 t3 x4 x5 m1_0 m1_1 m1_2 m1_3 m1_4 m1_5) rfl fun x6 hx6 => ?_
  conv => arg 3; whnf
  refine sim_br rfl ?_ ?_
  ·conv => arg 3; whnf
   exact sim_again (ih (w64 (s3 + 1)))
  ·conv => arg 3; whnf
   exact sim_ret rfl
 ·conv => arg 3; whnf
  exact sim_ret rfl
def g_slices_partitionCmpFunc_int__desc_Touches_1_L1_x (t0 : Bool) (t1 : Bool) (t2 : Bool) (t3 : Bool) (b : Int) (d : Int) (m0_0 : (List Int)) (m1_0 : Int) (m1_1 : Int) (m1_2 : (List PartT)) (m1_3 : (List EdgeT)) (m1_4 : (List FutureT)) (m1_5 : (List BarrierT)) (x0 : Int) (x1 : Int) (r7 : Int) : Int → Ex × List V × Heap
  | r => (.exit 2, [(.sl 0 1), (.d (intD b)), (.fn 62 [(.ptr 1 0)]), (.d (intD r7)), (.d (intD r))], [(.arr 1 (List.map intD (List.set (List.set m0_0 b.toNat x0) d.toNat x1))), (.cells [(.d (intD m1_0)), (.d (intD m1_1)), (.d (D.list t0 (List.map partD m1_2))), (.d (D.list t1 (List.map edgeD m1_3))), (.d (D.list t2 (List.map futureD m1_4))), (.d (D.list t3 (List.map barrierD m1_5)))])])
set_option maxRecDepth 100000 in
set_option maxHeartbeats 40000000 in
theorem g_slices_partitionCmpFunc_int__desc_Touches_1_L1_ok (t0 : Bool) (t1 : Bool) (t2 : Bool) (t3 : Bool) (b : Int) (d : Int) (m0_0 : (List Int)) (m1_0 : Int) (m1_1 : Int) (m1_2 : (List PartT)) (m1_3 : (List EdgeT)) (m1_4 : (List FutureT)) (m1_5 : (List BarrierT)) (x0 : Int) (x1 : Int) (r7 : Int) : ∀ (s8 : Int) (r : Int), lp (g_slices_partitionCmpFunc_int_L1 b d m0_0 (fun z0 z1 => g_desc_Touches_1 z0 z1 m1_4) x0 x1 r7) s8 = some r → lpW ctx 2 [0, 1, 4, 12, 13] [0, 1, 4, 12, 13] ir105L1 [(.sl 0 1), (.d (intD b)), (.fn 62 [(.ptr 1 0)]), (.d (intD r7)), (.d (intD s8))] [(.arr 1 (List.map intD (List.set (List.set m0_0 b.toNat x0) d.toNat x1))), (.cells [(.d (intD m1_0)), (.d (intD m1_1)), (.d (D.list t0 (List.map partD m1_2))), (.d (D.list t1 (List.map edgeD m1_3))), (.d (D.list t2 (List.map futureD m1_4))), (.d (D.list t3 (List.map barrierD m1_5)))])] = some ((g_slices_partitionCmpFunc_int__desc_Touches_1_L1_x t0 t1 t2 t3 b d m0_0 m1_0 m1_1 m1_2 m1_3 m1_4 m1_5 x0 x1 r7) r) := by
 refine lp_ok (g_slices_partitionCmpFunc_int__desc_Touches_1_L1_x t0 t1 t2 t3 b d m0_0 m1_0 m1_1 m1_2 m1_3 m1_4 m1_5 x0 x1 r7) ?_
 intro s8 rcl ih
 show Says _ _ (lpW _ _ _ _ _ _ _)
 unfold g_slices_partitionCmpFunc_int_L1
 rw [lpW_b]
 conv => arg 3; whnf
 refine sim_br rfl ?_ ?_
 ·conv => arg 3; whnf
  refine sim_get (f := intD) rfl rfl fun x9 hx9 => ?_
  conv => arg 3; whnf
  refine sim_known (nth_of (f := intD) rfl hx9) ?_
  conv => arg 3; whnf
  refine sim_get (f := intD) rfl rfl fun x10 hx10 => ?_
  conv => arg 3; whnf
  refine sim_known (nth_of (f := intD) rfl hx10) ?_
  conv => arg 3; whnf
  refine sim_call g_desc_Touches_1_e (g_desc_Touches_1_ok t0 t1 t2 t3 x9 x10 m1_0 m1_1 m1_2 m1_3 m1_4 m1_5) rfl fun x11 hx11 => ?_
  conv => arg 3; whnf
  refine sim_br rfl ?_ ?_
  ·conv => arg 3; whnf
   exact sim_ret rfl
  ·conv => arg 3; whnf
   exact sim_again (ih (w64 (s8 - 1)))
 ·conv => arg 3; whnf
  exact sim_ret rfl
def g_slices_partitionCmpFunc_int__desc_Touches_1_L2_x (t0 : Bool) (t1 : Bool) (t2 : Bool) (t3 : Bool) (b : Int) (d : Int) (m1_0 : Int) (m1_1 : Int) (m1_2 : (List PartT)) (m1_3 : (List EdgeT)) (m1_4 : (List FutureT)) (m1_5 : (List BarrierT)) (s19 : Int × Int × (List Int)) : Int → Ex × List V × Heap
  | r => (.exit 6, [(.sl 0 1), (.d (intD b)), (.fn 62 [(.ptr 1 0)]), (.d (intD r)), (.d (intD s19.2.1))], [(.arr 1 (List.map intD s19.2.2)), (.cells [(.d (intD m1_0)), (.d (intD m1_1)), (.d (D.list t0 (List.map partD m1_2))), (.d (D.list t1 (List.map edgeD m1_3))), (.d (D.list t2 (List.map futureD m1_4))), (.d (D.list t3 (List.map barrierD m1_5)))])])
set_option maxRecDepth 100000 in
set_option maxHeartbeats 40000000 in
theorem g_slices_partitionCmpFunc_int__desc_Touches_1_L2_ok (t0 : Bool) (t1 : Bool) (t2 : Bool) (t3 : Bool) (b : Int) (d : Int) (m1_0 : Int) (m1_1 : Int) (m1_2 : (List PartT)) (m1_3 : (List EdgeT)) (m1_4 : (List FutureT)) (m1_5 : (List BarrierT)) (s19 : Int × Int × (List Int)) : ∀ (s20 : Int) (r : Int), lp (g_slices_partitionCmpFunc_int_L2 b (fun z0 z1 => g_desc_Touches_1 z0 z1 m1_4) s19) s20 = some r → lpW ctx 2 [0, 1, 4, 12, 13] [0, 1, 4, 12, 13] ir105L2 [(.sl 0 1), (.d (intD b)), (.fn 62 [(.ptr 1 0)]), (.d (intD s20)), (.d (intD s19.2.1))] [(.arr 1 (List.map intD s19.2.2)), (.cells [(.d (intD m1_0)), (.d (intD m1_1)), (.d (D.list t0 (List.map partD m1_2))), (.d (D.list t1 (List.map edgeD m1_3))), (.d (D.list t2 (List.map futureD m1_4))), (.d (D.list t3 (List.map barrierD m1_5)))])] = some ((g_slices_partitionCmpFunc_int__desc_Touches_1_L2_x t0 t1 t2 t3 b d m1_0 m1_1 m1_2 m1_3 m1_4 m1_5 s19) r) := by
 refine lp_ok (g_slices_partitionCmpFunc_int__desc_Touches_1_L2_x t0 t1 t2 t3 b d m1_0 m1_1 m1_2 m1_3 m1_4 m1_5 s19) ?_
 intro s20 rcl ih
 show Says _ _ (lpW _ _ _ _ _ _ _)
 unfold g_slices_partitionCmpFunc_int_L2
 rw [lpW_b]
 conv => arg 3; whnf
 refine sim_br rfl ?_ ?_
 ·conv => arg 3; whnf
  refine sim_get (f := intD) rfl rfl fun x21 hx21 => ?_
  conv => arg 3; whnf
  refine sim_known (nth_of (f := intD) rfl hx21) ?_
  conv => arg 3; whnf
  refine sim_get (f := intD) rfl rfl fun x22 hx22 => ?_
  conv => arg 3; whnf
  refine sim_known (nth_of (f := intD) rfl hx22) ?_
  conv => arg 3; whnf
  refine sim_call g_desc_Touches_1_e (g_desc_Touches_1_ok t0 t1 t2 t3 x21 x22 m1_0 m1_1 m1_2 m1_3 m1_4 m1_5) rfl fun x23 hx23 => ?_
  conv => arg 3; whnf
  refine sim_br rfl ?_ ?_
  ·conv => arg 3; whnf
   exact sim_again (ih (w64 (s20 + 1)))
  ·conv => arg 3; whnf
   exact sim_ret rfl
 ·conv => arg 3; whnf
  exact sim_ret rfl
def g_slices_partitionCmpFunc_int__desc_Touches_1_L3_x (t0 : Bool) (t1 : Bool) (t2 : Bool) (t3 : Bool) (b : Int) (d : Int) (m1_0 : Int) (m1_1 : Int) (m1_2 : (List PartT)) (m1_3 : (List EdgeT)) (m1_4 : (List FutureT)) (m1_5 : (List BarrierT)) (s19 : Int × Int × (List Int)) (r24 : Int) : Int → Ex × List V × Heap
  | r => (.exit 8, [(.sl 0 1), (.d (intD b)), (.fn 62 [(.ptr 1 0)]), (.d (intD r24)), (.d (intD r))], [(.arr 1 (List.map intD s19.2.2)), (.cells [(.d (intD m1_0)), (.d (intD m1_1)), (.d (D.list t0 (List.map partD m1_2))), (.d (D.list t1 (List.map edgeD m1_3))), (.d (D.list t2 (List.map futureD m1_4))), (.d (D.list t3 (List.map barrierD m1_5)))])])
set_option maxRecDepth 100000 in
set_option maxHeartbeats 40000000 in
theorem g_slices_partitionCmpFunc_int__desc_Touches_1_L3_ok (t0 : Bool) (t1 : Bool) (t2 : Bool) (t3 : Bool) (b : Int) (d : Int) (m1_0 : Int) (m1_1 : Int) (m1_2 : (List PartT)) (m1_3 : (List EdgeT)) (m1_4 : (List FutureT)) (m1_5 : (List BarrierT)) (s19 : Int × Int × (List Int)) (r24 : Int) : ∀ (s25 : Int) (r : Int), lp (g_slices_partitionCmpFunc_int_L3 b (fun z0 z1 => g_desc_Touches_1 z0 z1 m1_4) s19 r24) s25 = some r → lpW ctx 2 [0, 1, 4, 12, 13] [0, 1, 4, 12, 13] ir105L3 [(.sl 0 1), (.d (intD b)), (.fn 62 [(.ptr 1 0)]), (.d (intD r24)), (.d (intD s25))] [(.arr 1 (List.map intD s19.2.2)), (.cells [(.d (intD m1_0)), (.d (intD m1_1)), (.d (D.list t0 (List.map partD m1_2))), (.d (D.list t1 (List.map edgeD m1_3))), (.d (D.list t2 (List.map futureD m1_4))), (.d (D.list t3 (List.map barrierD m1_5)))])] = some ((g_slices_partitionCmpFunc_int__desc_Touches_1_L3_x t0 t1 t2 t3 b d m1_0 m1_1 m1_2 m1_3 m1_4 m1_5 s19 r24) r) := by
 refine lp_ok (g_slices_partitionCmpFunc_int__desc_Touches_1_L3_x t0 t1 t2 t3 b d m1_0 m1_1 m1_2 m1_3 m1_4 m1_5 s19 r24) ?_
 intro s25 rcl ih
 show Says _ _ (lpW _ _ _ _ _ _ _)
 unfold g_slices_partitionCmpFunc_int_L3
 rw [lpW_b]
 conv => arg 3; whnf
 refine sim_br rfl ?_ ?_
 ·conv => arg 3; whnf
  refine sim_get (f := intD) rfl rfl fun x26 hx26 => ?_
  conv => arg 3; whnf
  refine sim_known (nth_of (f := intD) rfl hx26) ?_
  conv => arg 3; whnf
  refine sim_get (f := intD) rfl rfl fun x27 hx27 => ?_
  conv => arg 3; whnf
  refine sim_known (nth_of (f := intD) rfl hx27) ?_
  conv => arg 3; whnf
  refine sim_call g_desc_Touches_1_e (g_desc_Touches_1_ok t0 t1 t2 t3 x26 x27 m1_0 m1_1 m1_2 m1_3 m1_4 m1_5) rfl fun x28 hx28 => ?_
  conv => arg 3; whnf
  refine sim_br rfl ?_ ?_
  ·conv => arg 3; whnf
   exact sim_ret rfl
  ·conv => arg 3; whnf
   exact sim_again (ih (w64 (s25 - 1)))
 ·conv => arg 3; whnf
  exact sim_ret rfl
def g_slices_partitionCmpFunc_int__desc_Touches_1_L4_x (t0 : Bool) (t1 : Bool) (t2 : Bool) (t3 : Bool) (b : Int) (d : Int) (m1_0 : Int) (m1_1 : Int) (m1_2 : (List PartT)) (m1_3 : (List EdgeT)) (m1_4 : (List FutureT)) (m1_5 : (List BarrierT)) : (Int × (List Int)) → Ex × List V × Heap
  | r => (.exit 4, [(.sl 0 1), (.d (intD b)), (.d (intD r.1))], [(.arr 1 (List.map intD r.2)), (.cells [(.d (intD m1_0)), (.d (intD m1_1)), (.d (D.list t0 (List.map partD m1_2))), (.d (D.list t1 (List.map edgeD m1_3))), (.d (D.list t2 (List.map futureD m1_4))), (.d (D.list t3 (List.map barrierD m1_5)))])])
set_option maxRecDepth 100000 in
set_option maxHeartbeats 40000000 in
theorem g_slices_partitionCmpFunc_int__desc_Touches_1_L4_ok (t0 : Bool) (t1 : Bool) (t2 : Bool) (t3 : Bool) (b : Int) (d : Int) (m1_0 : Int) (m1_1 : Int) (m1_2 : (List PartT)) (m1_3 : (List EdgeT)) (m1_4 : (List FutureT)) (m1_5 : (List BarrierT)) : ∀ (s19 : Int × Int × (List Int)) (r : (Int × (List Int))), lp (g_slices_partitionCmpFunc_int_L4 b (fun z0 z1 => g_desc_Touches_1 z0 z1 m1_4)) s19 = some r → lpW ctx 2 [0, 1, 4, 12, 13] [0, 1, 13] ir105L4 [(.sl 0 1), (.d (intD b)), (.fn 62 [(.ptr 1 0)]), (.d (intD s19.1)), (.d (intD s19.2.1))] [(.arr 1 (List.map intD s19.2.2)), (.cells [(.d (intD m1_0)), (.d (intD m1_1)), (.d (D.list t0 (List.map partD m1_2))), (.d (D.list t1 (List.map edgeD m1_3))), (.d (D.list t2 (List.map futureD m1_4))), (.d (D.list t3 (List.map barrierD m1_5)))])] = some ((g_slices_partitionCmpFunc_int__desc_Touches_1_L4_x t0 t1 t2 t3 b d m1_0 m1_1 m1_2 m1_3 m1_4 m1_5) r) := by
 refine lp_ok (g_slices_partitionCmpFunc_int__desc_Touches_1_L4_x t0 t1 t2 t3 b d m1_0 m1_1 m1_2 m1_3 m1_4 m1_5) ?_
 intro s19 rcl ih
 show Says _ _ (lpW _ _ _ _ _ _ _)
 unfold g_slices_partitionCmpFunc_int_L4
 rw [lpW_b]
 conv => arg 3; whnf
 refine sim_bind (g_slices_partitionCmpFunc_int__desc_Touches_1_L2_x t0 t1 t2 t3 b d m1_0 m1_1 m1_2 m1_3 m1_4 m1_5 s19) (g_slices_partitionCmpFunc_int__desc_Touches_1_L2_ok t0 t1 t2 t3 b d m1_0 m1_1 m1_2 m1_3 m1_4 m1_5 s19 s19.1) fun r24 hr24 => ?_
 conv => arg 3; whnf
 refine sim_bind (g_slices_partitionCmpFunc_int__desc_Touches_1_L3_x t0 t1 t2 t3 b d m1_0 m1_1 m1_2 m1_3 m1_4 m1_5 s19 r24) (g_slices_partitionCmpFunc_int__desc_Touches_1_L3_ok t0 t1 t2 t3 b d m1_0 m1_1 m1_2 m1_3 m1_4 m1_5 s19 r24 s19.2.1) fun r29 hr29 => ?_
 conv => arg 3; whnf
 refine sim_br rfl ?_ ?_
 ·conv => arg 3; whnf
  exact sim_ret rfl
 ·conv => arg 3; whnf
  refine sim_get (f := intD) rfl rfl fun x30 hx30 => ?_
  conv => arg 3; whnf
  refine sim_known (nth_of (f := intD) rfl hx30) ?_
  conv => arg 3; whnf
  refine sim_get (f := intD) rfl rfl fun x31 hx31 => ?_
  conv => arg 3; whnf
  refine sim_known (nth_of (f := intD) rfl hx31) ?_
  conv => arg 3; whnf
  refine sim_known (get_of (f := intD) rfl hx31) ?_
  conv => arg 3; whnf
  refine sim_known (nth_of (f := intD) rfl hx31) ?_
  conv => arg 3; whnf
  refine sim_let (set_enc intD s19.2.2 r24.toNat x30) ?_
  conv => arg 3; whnf
  refine sim_get (f := intD) rfl rfl fun x32 hx32 => ?_
  conv => arg 3; whnf
  refine sim_known (nth_of (f := intD) rfl hx32) ?_
  conv => arg 3; whnf
  refine sim_let (set_enc intD (List.set s19.2.2 r24.toNat x30) r29.toNat x31) ?_
  conv => arg 3; whnf
  exact sim_again (ih ((w64 (r24 + 1)), (w64 (r29 - 1)), (List.set (List.set s19.2.2 r24.toNat x30) r29.toNat x31)))
set_option maxRecDepth 100000 in
set_option maxHeartbeats 40000000 in
theorem g_slices_partitionCmpFunc_int__desc_Touches_1_ok (t0 : Bool) (t1 : Bool) (t2 : Bool) (t3 : Bool) (b : Int) (c : Int) (d : Int) (m0_0 : (List Int)) (m1_0 : Int) (m1_1 : Int) (m1_2 : (List PartT)) (m1_3 : (List EdgeT)) (m1_4 : (List FutureT)) (m1_5 : (List BarrierT)) : ∀ r, (g_slices_partitionCmpFunc_int b c d (fun z0 z1 => g_desc_Touches_1 z0 z1 m1_4) m0_0) = some r → evW ctx 105 [(.sl 0 1), (.d (intD b)), (.d (intD c)), (.d (intD d)), (.fn 62 [(.ptr 1 0)])] [(.arr 1 (List.map intD m0_0)), (.cells [(.d (intD m1_0)), (.d (intD m1_1)), (.d (D.list t0 (List.map partD m1_2))), (.d (D.list t1 (List.map edgeD m1_3))), (.d (D.list t2 (List.map futureD m1_4))), (.d (D.list t3 (List.map barrierD m1_5)))])] = some ((g_slices_partitionCmpFunc_int__desc_Touches_1_e t0 t1 t2 t3 b c d m0_0 m1_0 m1_1 m1_2 m1_3 m1_4 m1_5) r) := by
 show Says _ (fun r rhs => rhs = some ((g_slices_partitionCmpFunc_int__desc_Touches_1_e t0 t1 t2 t3 b c d m0_0 m1_0 m1_1 m1_2 m1_3 m1_4 m1_5) r)) _
 unfold g_slices_partitionCmpFunc_int
 rw [evW_K ctx 105 fn105 _ _ rfl rfl]
 conv => arg 3; whnf
 refine sim_get (f := intD) rfl rfl fun x0 hx0 => ?_
 conv => arg 3; whnf
 refine sim_known (nth_of (f := intD) rfl hx0) ?_
 conv => arg 3; whnf
 refine sim_get (f := intD) rfl rfl fun x1 hx1 => ?_
 conv => arg 3; whnf
 refine sim_known (nth_of (f := intD) rfl hx1) ?_
 conv => arg 3; whnf
 refine sim_known (get_of (f := intD) rfl hx1) ?_
 conv => arg 3; whnf
 refine sim_known (nth_of (f := intD) rfl hx1) ?_
 conv => arg 3; whnf
 refine sim_let (set_enc intD m0_0 b.toNat x0) ?_
 conv => arg 3; whnf
 refine sim_get (f := intD) rfl rfl fun x2 hx2 => ?_
 conv => arg 3; whnf
 refine sim_known (nth_of (f := intD) rfl hx2) ?_
 conv => arg 3; whnf
 refine sim_let (set_enc intD (List.set m0_0 b.toNat x0) d.toNat x1) ?_
 conv => arg 3; whnf
 refine sim_bind (g_slices_partitionCmpFunc_int__desc_Touches_1_L0_x t0 t1 t2 t3 b c d m0_0 m1_0 m1_1 m1_2 m1_3 m1_4 m1_5 x0 x1) (g_slices_partitionCmpFunc_int__desc_Touches_1_L0_ok t0 t1 t2 t3 b c d m0_0 m1_0 m1_1 m1_2 m1_3 m1_4 m1_5 x0 x1 (w64 (b + 1))) fun r7 hr7 => ?_
 conv => arg 3; whnf
 refine sim_bind (g_slices_partitionCmpFunc_int__desc_Touches_1_L1_x t0 t1 t2 t3 b d m0_0 m1_0 m1_1 m1_2 m1_3 m1_4 m1_5 x0 x1 r7) (g_slices_partitionCmpFunc_int__desc_Touches_1_L1_ok t0 t1 t2 t3 b d m0_0 m1_0 m1_1 m1_2 m1_3 m1_4 m1_5 x0 x1 r7 (w64 (c - 1))) fun r12 hr12 => ?_
 conv => arg 3; whnf
 refine sim_br rfl ?_ ?_
 ·conv => arg 3; whnf
  refine sim_get (f := intD) rfl rfl fun x13 hx13 => ?_
  conv => arg 3; whnf
  refine sim_known (nth_of (f := intD) rfl hx13) ?_
  conv => arg 3; whnf
  refine sim_get (f := intD) rfl rfl fun x14 hx14 => ?_
  conv => arg 3; whnf
  refine sim_known (nth_of (f := intD) rfl hx14) ?_
  conv => arg 3; whnf
  refine sim_known (get_of (f := intD) rfl hx14) ?_
  conv => arg 3; whnf
  refine sim_known (nth_of (f := intD) rfl hx14) ?_
  conv => arg 3; whnf
  refine sim_let (set_enc intD (List.set (List.set m0_0 b.toNat x0) d.toNat x1) r12.toNat x13) ?_
  conv => arg 3; whnf
  refine sim_get (f := intD) rfl rfl fun x15 hx15 => ?_
  conv => arg 3; whnf
  refine sim_known (nth_of (f := intD) rfl hx15) ?_
  conv => arg 3; whnf
  refine sim_let (set_enc intD (List.set (List.set (List.set m0_0 b.toNat x0) d.toNat x1) r12.toNat x13) b.toNat x14) ?_
  conv => arg 3; whnf
  exact sim_ret rfl
 ·conv => arg 3; whnf
  refine sim_get (f := intD) rfl rfl fun x16 hx16 => ?_
  conv => arg 3; whnf
  refine sim_known (nth_of (f := intD) rfl hx16) ?_
  conv => arg 3; whnf
  refine sim_get (f := intD) rfl rfl fun x17 hx17 => ?_
  conv => arg 3; whnf
  refine sim_known (nth_of (f := intD) rfl hx17) ?_
  conv => arg 3; whnf
  refine sim_known (get_of (f := intD) rfl hx17) ?_
  conv => arg 3; whnf
  refine sim_known (nth_of (f := intD) rfl hx17) ?_
  conv => arg 3; whnf
  refine sim_let (set_enc intD (List.set (List.set m0_0 b.toNat x0) d.toNat x1) r7.toNat x16) ?_
  conv => arg 3; whnf
  refine sim_get (f := intD) rfl rfl fun x18 hx18 => ?_
  conv => arg 3; whnf
  refine sim_known (nth_of (f := intD) rfl hx18) ?_
  conv => arg 3; whnf
  refine sim_let (set_enc intD (List.set (List.set (List.set m0_0 b.toNat x0) d.toNat x1) r7.toNat x16) r12.toNat x17) ?_
  conv => arg 3; whnf
  refine sim_bind (g_slices_partitionCmpFunc_int__desc_Touches_1_L4_x t0 t1 t2 t3 b d m1_0 m1_1 m1_2 m1_3 m1_4 m1_5) (g_slices_partitionCmpFunc_int__desc_Touches_1_L4_ok t0 t1 t2 t3 b d m1_0 m1_1 m1_2 m1_3 m1_4 m1_5 ((w64 (r7 + 1)), (w64 (r12 - 1)), (List.set (List.set (List.set (List.set m0_0 b.toNat x0) d.toNat x1) r7.toNat x16) r12.toNat x17))) fun r33 hr33 => ?_
  conv => arg 3; whnf
  refine sim_get (f := intD) rfl rfl fun x34 hx34 => ?_
  conv => arg 3; whnf
  refine sim_known (nth_of (f := intD) rfl hx34) ?_
  conv => arg 3; whnf
  refine sim_get (f := intD) rfl rfl fun x35 hx35 => ?_
  conv => arg 3; whnf
  refine sim_known (nth_of (f := intD) rfl hx35) ?_
  conv => arg 3; whnf
  refine sim_known (get_of (f := intD) rfl hx35) ?_
  conv => arg 3; whnf
  refine sim_known (nth_of (f := intD) rfl hx35) ?_
  conv => arg 3; whnf
  refine sim_let (set_enc intD r33.2 r33.1.toNat x34) ?_
  conv => arg 3; whnf
  refine sim_get (f := intD) rfl rfl fun x36 hx36 => ?_
  conv => arg 3; whnf
  refine sim_known (nth_of (f := intD) rfl hx36) ?_
  conv => arg 3; whnf
  refine sim_let (set_enc intD (List.set r33.2 r33.1.toNat x34) b.toNat x35) ?_
  conv => arg 3; whnf
  exact sim_ret rfl
def g_slices_partitionEqualCmpFunc_int__desc_Touches_1_e (t0 : Bool) (t1 : Bool) (t2 : Bool) (t3 : Bool) (b : Int) (c : Int) (d : Int) (m0_0 : (List Int)) (m1_0 : Int) (m1_1 : Int) (m1_2 : (List PartT)) (m1_3 : (List EdgeT)) (m1_4 : (List FutureT)) (m1_5 : (List BarrierT)) : (Int × (List Int)) → V × Heap
  | r => ((.d (intD r.1)), [(.arr 1 (List.map intD r.2)), (.cells [(.d (intD m1_0)), (.d (intD m1_1)), (.d (D.list t0 (List.map partD m1_2))), (.d (D.list t1 (List.map edgeD m1_3))), (.d (D.list t2 (List.map futureD m1_4))), (.d (D.list t3 (List.map barrierD m1_5)))])])
def g_slices_partitionEqualCmpFunc_int__desc_Touches_1_L0_x (t0 : Bool) (t1 : Bool) (t2 : Bool) (t3 : Bool) (b : Int) (d : Int) (m1_0 : Int) (m1_1 : Int) (m1_2 : (List PartT)) (m1_3 : (List EdgeT)) (m1_4 : (List FutureT)) (m1_5 : (List BarrierT)) (s3 : Int × Int × (List Int)) : Int → Ex × List V × Heap
  | r => (.exit 2, [(.sl 0 1), (.d (intD b)), (.fn 62 [(.ptr 1 0)]), (.d (intD r)), (.d (intD s3.2.1))], [(.arr 1 (List.map intD s3.2.2)), (.cells [(.d (intD m1_0)), (.d (intD m1_1)), (.d (D.list t0 (List.map partD m1_2))), (.d (D.list t1 (List.map edgeD m1_3))), (.d (D.list t2 (List.map futureD m1_4))), (.d (D.list t3 (List.map barrierD m1_5)))])])
set_option maxRecDepth 100000 in
set_option maxHeartbeats 40000000 in
theorem g_slices_partitionEqualCmpFunc_int__desc_Touches_1_L0_ok (t0 : Bool) (t1 : Bool) (t2 : Bool) (t3 : Bool) (b : Int) (d : Int) (m1_0 : Int) (m1_1 : Int) (m1_2 : (List PartT)) (m1_3 : (List EdgeT)) (m1_4 : (List FutureT)) (m1_5 : (List BarrierT)) (s3 : Int × Int × (List Int)) : ∀ (s4 : Int) (r : Int), lp (g_slices_partitionEqualCmpFunc_int_L0 b (fun z0 z1 => g_desc_Touches_1 z0 z1 m1_4) s3) s4 = some r → lpW ctx 2 [0, 1, 4, 11, 12] [0, 1, 4, 11, 12] ir104L0 [(.sl 0 1), (.d (intD b)), (.fn 62 [(.ptr 1 0)]), (.d (intD s4)), (.d (intD s3.2.1))] [(.arr 1 (List.map intD s3.2.2)), (.cells [(.d (intD m1_0)), (.d (intD m1_1)), (.d (D.list t0 (List.map partD m1_2))), (.d (D.list t1 (List.map edgeD m1_3))), (.d (D.list t2 (List.map futureD m1_4))), (.d (D.list t3 (List.map barrierD m1_5)))])] = some ((g_slices_partitionEqualCmpFunc_int__desc_Touches_1_L0_x t0 t1 t2 t3 b d m1_0 m1_1 m1_2 m1_3 m1_4 m1_5 s3) r) := by
 refine lp_ok (g_slices_partitionEqualCmpFunc_int__desc_Touches_1_L0_x t0 t1 t2 t3 b d m1_0 m1_1 m1_2 m1_3 m1_4 m1_5 s3) ?_
 intro s4 rcl ih
 show Says _ _ (lpW _ _ _ _ _ _ _)
 unfold g_slices_partitionEqualCmpFunc_int_L0
 rw [lpW_b]
 conv => arg 3; whnf
 refine sim_br rfl ?_ ?_
 ·conv => arg 3; whnf
  refine sim_get (f := intD) rfl rfl fun x5 hx5 => ?_
  conv => arg 3; whnf
  refine sim_known (nth_of (f := intD) rfl hx5) ?_
  conv => arg 3; whnf
  refine sim_get (f := intD) rfl rfl fun x6 hx6 => ?_
  conv => arg 3; whnf
  refine sim_known (nth_of (f := intD) rfl hx6) ?_
  conv => arg 3; whnf
  refine sim_call g_desc_Touches_1_e (g_desc_Touches_1_ok t0 t1 t2 t3 x5 x6 m1_0 m1_1 m1_2 m1_3 m1_4 m1_5) rfl fun x7 hx7 => ?_
  conv => arg 3; whnf
  refine sim_br rfl ?_ ?_
  ·conv => arg 3; whnf
   exact sim_ret rfl
  ·conv => arg 3; whnf
   exact sim_again (ih (w64 (s4 + 1)))
 ·conv => arg 3; whnf
  exact sim_ret rfl
def g_slices_partitionEqualCmpFunc_int__desc_Touches_1_L1_x (t0 : Bool) (t1 : Bool) (t2 : Bool) (t3 : Bool) (b : Int) (d : Int) (m1_0 : Int) (m1_1 : Int) (m1_2 : (List PartT)) (m1_3 : (List EdgeT)) (m1_4 : (List FutureT)) (m1_5 : (List BarrierT)) (s3 : Int × Int × (List Int)) (r8 : Int) : Int → Ex × List V × Heap
  | r => (.exit 4, [(.sl 0 1), (.d (intD b)), (.fn 62 [(.ptr 1 0)]), (.d (intD r8)), (.d (intD r))], [(.arr 1 (List.map intD s3.2.2)), (.cells [(.d (intD m1_0)), (.d (intD m1_1)), (.d (D.list t0 (List.map partD m1_2))), (.d (D.list t1 (List.map edgeD m1_3))), (.d (D.list t2 (List.map futureD m1_4))), (.d (D.list t3 (List.map barrierD m1_5)))])])
set_option maxRecDepth 100000 in
set_option maxHeartbeats 40000000 in
theorem g_slices_partitionEqualCmpFunc_int__desc_Touches_1_L1_ok (t0 : Bool) (t1 : Bool) (t2 : Bool) (t3 : Bool) (b : Int) (d : Int) (m1_0 : Int) (m1_1 : Int) (m1_2 : (List PartT)) (m1_3 : (List EdgeT)) (m1_4 : (List FutureT)) (m1_5 : (List BarrierT)) (s3 : Int × Int × (List Int)) (r8 : Int) : ∀ (s9 : Int) (r : Int), lp (g_slices_partitionEqualCmpFunc_int_L1 b (fun z0 z1 => g_desc_Touches_1 z0 z1 m1_4) s3 r8) s9 = some r → lpW ctx 2 [0, 1, 4, 11, 12] [0, 1, 4, 11, 12] ir104L1 [(.sl 0 1), (.d (intD b)), (.fn 62 [(.ptr 1 0)]), (.d (intD r8)), (.d (intD s9))] [(.arr 1 (List.map intD s3.2.2)), (.cells [(.d (intD m1_0)), (.d (intD m1_1)), (.d (D.list t0 (List.map partD m1_2))), (.d (D.list t1 (List.map edgeD m1_3))), (.d (D.list t2 (List.map futureD m1_4))), (.d (D.list t3 (List.map barrierD m1_5)))])] = some ((g_slices_partitionEqualCmpFunc_int__desc_Touches_1_L1_x t0 t1 t2 t3 b d m1_0 m1_1 m1_2 m1_3 m1_4 m1_5 s3 r8) r) := by
 refine lp_ok (g_slices_partitionEqualCmpFunc_int__desc_Touches_1_L1_x t0 t1 t2 t3 b d m1_0 m1_1 m1_2 m1_3 m1_4 m1_5 s3 r8) ?_
 intro s9 rcl ih
 show Says _ _ (lpW _ _ _ _ _ _ _)
 unfold g_slices_partitionEqualCmpFunc_int_L1
 rw [lpW_b]
 conv => arg 3; whnf
 refine sim_br rfl ?_ ?_
 ·conv => arg 3; whnf
  refine sim_get (f := intD) rfl rfl fun x10 hx10 => ?_
  conv => arg 3; whnf
  refine sim_known (nth_of (f := intD) rfl hx10) ?_
  conv => arg 3; whnf
  refine sim_get (f := intD) rfl rfl fun x11 hx11 => ?_
  conv => arg 3; whnf
  refine sim_known (nth_of (f := intD) rfl hx11) ?_
  conv => arg 3; whnf
  refine sim_call g_desc_Touches_1_e (g_desc_Touches_1_ok t0 t1 t2 t3 x10 x11 m1_0 m1_1 m1_2 m1_3 m1_4 m1_5) rfl fun x12 hx12 => ?_
  conv => arg 3; whnf
  refine sim_br rfl ?_ ?_
  ·conv => arg 3; whnf
   exact sim_again (ih (w64 (s9 - 1)))
  ·conv => arg 3; whnf
   exact sim_ret rfl
 ·conv => arg 3; whnf
  exact sim_ret rfl
def g_slices_partitionEqualCmpFunc_int__desc_Touches_1_L2_x (t0 : Bool) (t1 : Bool) (t2 : Bool) (t3 : Bool) (b : Int) (d : Int) (m1_0 : Int) (m1_1 : Int) (m1_2 : (List PartT)) (m1_3 : (List EdgeT)) (m1_4 : (List FutureT)) (m1_5 : (List BarrierT)) : (Int × (List Int)) → Ex × List V × Heap
  | r => (.exit 0, [(.d (intD r.1))], [(.arr 1 (List.map intD r.2)), (.cells [(.d (intD m1_0)), (.d (intD m1_1)), (.d (D.list t0 (List.map partD m1_2))), (.d (D.list t1 (List.map edgeD m1_3))), (.d (D.list t2 (List.map futureD m1_4))), (.d (D.list t3 (List.map barrierD m1_5)))])])
set_option maxRecDepth 100000 in
set_option maxHeartbeats 40000000 in
theorem g_slices_partitionEqualCmpFunc_int__desc_Touches_1_L2_ok (t0 : Bool) (t1 : Bool) (t2 : Bool) (t3 : Bool) (b : Int) (d : Int) (m1_0 : Int) (m1_1 : Int) (m1_2 : (List PartT)) (m1_3 : (List EdgeT)) (m1_4 : (List FutureT)) (m1_5 : (List BarrierT)) : ∀ (s3 : Int × Int × (List Int)) (r : (Int × (List Int))), lp (g_slices_partitionEqualCmpFunc_int_L2 b (fun z0 z1 => g_desc_Touches_1 z0 z1 m1_4)) s3 = some r → lpW ctx 2 [0, 1, 4, 11, 12] [11] ir104L2 [(.sl 0 1), (.d (intD b)), (.fn 62 [(.ptr 1 0)]), (.d (intD s3.1)), (.d (intD s3.2.1))] [(.arr 1 (List.map intD s3.2.2)), (.cells [(.d (intD m1_0)), (.d (intD m1_1)), (.d (D.list t0 (List.map partD m1_2))), (.d (D.list t1 (List.map edgeD m1_3))), (.d (D.list t2 (List.map futureD m1_4))), (.d (D.list t3 (List.map barrierD m1_5)))])] = some ((g_slices_partitionEqualCmpFunc_int__desc_Touches_1_L2_x t0 t1 t2 t3 b d m1_0 m1_1 m1_2 m1_3 m1_4 m1_5) r) := by
 refine lp_ok (g_slices_partitionEqualCmpFunc_int__desc_Touches_1_L2_x t0 t1 t2 t3 b d m1_0 m1_1 m1_2 m1_3 m1_4 m1_5) ?_
 intro s3 rcl ih
 show Says _ _ (lpW _ _ _ _ _ _ _)
 unfold g_slices_partitionEqualCmpFunc_int_L2
 rw [lpW_b]
 conv => arg 3; whnf
 refine sim_bind (g_slices_partitionEqualCmpFunc_int__desc_Touches_1_L0_x t0 t1 t2 t3 b d m1_0 m1_1 m1_2 m1_3 m1_4 m1_5 s3) (g_slices_partitionEqualCmpFunc_int__desc_Touches_1_L0_ok t0 t1 t2 t3 b d m1_0 m1_1 m1_2 m1_3 m1_4 m1_5 s3 s3.1) fun r8 hr8 => ?_
 conv => arg 3; whnf
 refine sim_bind (g_slices_partitionEqualCmpFunc_int__desc_Touches_1_L1_x t0 t1 t2 t3 b d m1_0 m1_1 m1_2 m1_3 m1_4 m1_5 s3 r8) (g_slices_partitionEqualCmpFunc_int__desc_Touches_1_L1_ok t0 t1 t2 t3 b d m1_0 m1_1 m1_2 m1_3 m1_4 m1_5 s3 r8 s3.2.1) fun r13 hr13 => ?_
 conv => arg 3; whnf
 refine sim_br rfl ?_ ?_
 ·conv => arg 3; whnf
  exact sim_ret rfl
 ·conv => arg 3; whnf
  refine sim_get (f := intD) rfl rfl fun x14 hx14 => ?_
  conv => arg 3; whnf
  refine sim_known (nth_of (f := intD) rfl hx14) ?_
  conv => arg 3; whnf
  refine sim_get (f := intD) rfl rfl fun x15 hx15 => ?_
  conv => arg 3; whnf
  refine sim_known (nth_of (f := intD) rfl hx15) ?_
  conv => arg 3; whnf
  refine sim_known (get_of (f := intD) rfl hx15) ?_
  conv => arg 3; whnf
  refine sim_known (nth_of (f := intD) rfl hx15) ?_
  conv => arg 3; whnf
  refine sim_let (set_enc intD s3.2.2 r8.toNat x14) ?_
  conv => arg 3; whnf
  refine sim_get (f := intD) rfl rfl fun x16 hx16 => ?_
  conv => arg 3; whnf
  refine sim_known (nth_of (f := intD) rfl hx16) ?_
  conv => arg 3; whnf
  refine sim_let (set_enc intD (List.set s3.2.2 r8.toNat x14) r13.toNat x15) ?_
  conv => arg 3; whnf
  exact sim_again (ih ((w64 (r8 + 1)), (w64 (r13 - 1)), (List.set (List.set s3.2.2 r8.toNat x14) r13.toNat x15)))
set_option maxRecDepth 100000 in
set_option maxHeartbeats 40000000 in
theorem g_slices_partitionEqualCmpFunc_int__desc_Touches_1_ok (t0 : Bool) (t1 : Bool) (t2 : Bool) (t3 : Bool) (b : Int) (c : Int) (d : Int) (m0_0 : (List Int)) (m1_0 : Int) (m1_1 : Int) (m1_2 : (List PartT)) (m1_3 : (List EdgeT)) (m1_4 : (List FutureT)) (m1_5 : (List BarrierT)) : ∀ r, (g_slices_partitionEqualCmpFunc_int b c d (fun z0 z1 => g_desc_Touches_1 z0 z1 m1_4) m0_0) = some r → evW ctx 104 [(.sl 0 1), (.d (intD b)), (.d (intD c)), (.d (intD d)), (.fn 62 [(.ptr 1 0)])] [(.arr 1 (List.map intD m0_0)), (.cells [(.d (intD m1_0)), (.d (intD m1_1)), (.d (D.list t0 (List.map partD m1_2))), (.d (D.list t1 (List.map edgeD m1_3))), (.d (D.list t2 (List.map futureD m1_4))), (.d (D.list t3 (List.map barrierD m1_5)))])] = some ((g_slices_partitionEqualCmpFunc_int__desc_Touches_1_e t0 t1 t2 t3 b c d m0_0 m1_0 m1_1 m1_2 m1_3 m1_4 m1_5) r) := by
 show Says _ (fun r rhs => rhs = some ((g_slices_partitionEqualCmpFunc_int__desc_Touches_1_e t0 t1 t2 t3 b c d m0_0 m1_0 m1_1 m1_2 m1_3 m1_4 m1_5) r)) _
 unfold g_slices_partitionEqualCmpFunc_int
 rw [evW_K ctx 104 fn104 _ _ rfl rfl]
 conv => arg 3; whnf
 refine sim_get (f := intD) rfl rfl fun x0 hx0 => ?_
 conv => arg 3; whnf
 refine sim_known (nth_of (f := intD) rfl hx0) ?_
 conv => arg 3; whnf
 refine sim_get (f := intD) rfl rfl fun x1 hx1 => ?_
 conv => arg 3; whnf
 refine sim_known (nth_of (f := intD) rfl hx1) ?_
 conv => arg 3; whnf
 refine sim_known (get_of (f := intD) rfl hx1) ?_
 conv => arg 3; whnf
 refine sim_known (nth_of (f := intD) rfl hx1) ?_
 conv => arg 3; whnf
 refine sim_let (set_enc intD m0_0 b.toNat x0) ?_
 conv => arg 3; whnf
 refine sim_get (f := intD) rfl rfl fun x2 hx2 => ?_
 conv => arg 3; whnf
 refine sim_known (nth_of (f := intD) rfl hx2) ?_
 conv => arg 3; whnf
 refine sim_let (set_enc intD (List.set m0_0 b.toNat x0) d.toNat x1) ?_
 conv => arg 3; whnf
 refine sim_bind (g_slices_partitionEqualCmpFunc_int__desc_Touches_1_L2_x t0 t1 t2 t3 b d m1_0 m1_1 m1_2 m1_3 m1_4 m1_5) (g_slices_partitionEqualCmpFunc_int__desc_Touches_1_L2_ok t0 t1 t2 t3 b d m1_0 m1_1 m1_2 m1_3 m1_4 m1_5 ((w64 (b + 1)), (w64 (c - 1)), (List.set (List.set m0_0 b.toNat x0) d.toNat x1))) fun r17 hr17 => ?_
 conv => arg 3; whnf
 exact sim_ret rfl
def g_slices_nextPowerOfTwo_e (r : Int) : D := (D.int .u64 r)
set_option maxRecDepth 100000 in
set_option maxHeartbeats 40000000 in
theorem g_slices_nextPowerOfTwo_ok (a : Int) : ∀ r, (g_slices_nextPowerOfTwo a) = some r → evD ctx 109 [(.d (intD a))] = some (g_slices_nextPowerOfTwo_e r) := by
 show Says _ (fun r rhs => rhs = some (g_slices_nextPowerOfTwo_e r)) _
 unfold g_slices_nextPowerOfTwo
 rw [evD_K ctx 109 fn109 _ rfl rfl]
 conv => arg 3; whnf
 refine sim_call g_math_bits_Len_e (g_math_bits_Len_ok (IntKind.u64.wrap a)) rfl fun x0 hx0 => ?_
 conv => arg 3; whnf
 refine sim_br rfl ?_ ?_
 ·exact sim_none
 ·conv => arg 3; whnf
  exact sim_ret rfl
def g_slices_xorshift_Next_e (m0_0 : Int) : Unit → V × Heap
  | r => ((.d (D.int .u64 (IntKind.u64.wrap (BitVec.ofInt IntKind.u64.bits (IntKind.u64.wrap (BitVec.ofInt IntKind.u64.bits (IntKind.u64.wrap (BitVec.ofInt IntKind.u64.bits m0_0 ^^^ BitVec.ofInt IntKind.u64.bits (IntKind.u64.wrap (m0_0 * 2 ^ 13))).toNat) ^^^ BitVec.ofInt IntKind.u64.bits (Int.fdiv (IntKind.u64.wrap (BitVec.ofInt IntKind.u64.bits m0_0 ^^^ BitVec.ofInt IntKind.u64.bits (IntKind.u64.wrap (m0_0 * 2 ^ 13))).toNat) (2 ^ 7))).toNat) ^^^ BitVec.ofInt IntKind.u64.bits (IntKind.u64.wrap ((IntKind.u64.wrap (BitVec.ofInt IntKind.u64.bits (IntKind.u64.wrap (BitVec.ofInt IntKind.u64.bits m0_0 ^^^ BitVec.ofInt IntKind.u64.bits (IntKind.u64.wrap (m0_0 * 2 ^ 13))).toNat) ^^^ BitVec.ofInt IntKind.u64.bits (Int.fdiv (IntKind.u64.wrap (BitVec.ofInt IntKind.u64.bits m0_0 ^^^ BitVec.ofInt IntKind.u64.bits (IntKind.u64.wrap (m0_0 * 2 ^ 13))).toNat) (2 ^ 7))).toNat) * 2 ^ 17))).toNat))), [(.cells [(.d (D.int .u64 (IntKind.u64.wrap (BitVec.ofInt IntKind.u64.bits (IntKind.u64.wrap (BitVec.ofInt IntKind.u64.bits (IntKind.u64.wrap (BitVec.ofInt IntKind.u64.bits m0_0 ^^^ BitVec.ofInt IntKind.u64.bits (IntKind.u64.wrap (m0_0 * 2 ^ 13))).toNat) ^^^ BitVec.ofInt IntKind.u64.bits (Int.fdiv (IntKind.u64.wrap (BitVec.ofInt IntKind.u64.bits m0_0 ^^^ BitVec.ofInt IntKind.u64.bits (IntKind.u64.wrap (m0_0 * 2 ^ 13))).toNat) (2 ^ 7))).toNat) ^^^ BitVec.ofInt IntKind.u64.bits (IntKind.u64.wrap ((IntKind.u64.wrap (BitVec.ofInt IntKind.u64.bits (IntKind.u64.wrap (BitVec.ofInt IntKind.u64.bits m0_0 ^^^ BitVec.ofInt IntKind.u64.bits (IntKind.u64.wrap (m0_0 * 2 ^ 13))).toNat) ^^^ BitVec.ofInt IntKind.u64.bits (Int.fdiv (IntKind.u64.wrap (BitVec.ofInt IntKind.u64.bits m0_0 ^^^ BitVec.ofInt IntKind.u64.bits (IntKind.u64.wrap (m0_0 * 2 ^ 13))).toNat) (2 ^ 7))).toNat) * 2 ^ 17))).toNat)))])])
set_option maxRecDepth 100000 in
set_option maxHeartbeats 40000000 in
theorem g_slices_xorshift_Next_ok (m0_0 : Int) : ∀ r, g_slices_xorshift_Next = some r → evW ctx 110 [(.ptr 0 0)] [(.cells [(.d (D.int .u64 m0_0))])] = some ((g_slices_xorshift_Next_e m0_0) r) := by
 show Says _ (fun r rhs => rhs = some ((g_slices_xorshift_Next_e m0_0) r)) _
 unfold g_slices_xorshift_Next
 rw [evW_K ctx 110 fn110 _ _ rfl rfl]
 conv => arg 3; whnf
 refine sim_f rfl ?_
 conv => arg 3; whnf
 refine sim_f rfl ?_
 conv => arg 3; whnf
 refine sim_f rfl ?_
 conv => arg 3; whnf
 exact sim_ret rfl
def g_slices_breakPatternsCmpFunc_int__desc_Touches_1_e (t0 : Bool) (t1 : Bool) (t2 : Bool) (t3 : Bool) (b : Int) (c : Int) (m0_0 : (List Int)) (m1_0 : Int) (m1_1 : Int) (m1_2 : (List PartT)) (m1_3 : (List EdgeT)) (m1_4 : (List FutureT)) (m1_5 : (List BarrierT)) : (List Int) → V × Heap
  | r => ((.d (D.tup [])), [(.arr 1 (List.map intD r)), (.cells [(.d (intD m1_0)), (.d (intD m1_1)), (.d (D.list t0 (List.map partD m1_2))), (.d (D.list t1 (List.map edgeD m1_3))), (.d (D.list t2 (List.map futureD m1_4))), (.d (D.list t3 (List.map barrierD m1_5)))])])
def g_slices_breakPatternsCmpFunc_int__desc_Touches_1_L0_x (t0 : Bool) (t1 : Bool) (t2 : Bool) (t3 : Bool) (b : Int) (c : Int) (m1_0 : Int) (m1_1 : Int) (m1_2 : (List PartT)) (m1_3 : (List EdgeT)) (m1_4 : (List FutureT)) (m1_5 : (List BarrierT)) (x0 : Int) : (List Int) → Ex × List V × Heap
  | r => (.exit 0, [], [(.arr 1 (List.map intD r)), (.cells [(.d (intD m1_0)), (.d (intD m1_1)), (.d (D.list t0 (List.map partD m1_2))), (.d (D.list t1 (List.map edgeD m1_3))), (.d (D.list t2 (List.map futureD m1_4))), (.d (D.list t3 (List.map barrierD m1_5)))])])
set_option maxRecDepth 100000 in
set_option maxHeartbeats 40000000 in
theorem g_slices_breakPatternsCmpFunc_int__desc_Touches_1_L0_ok (t0 : Bool) (t1 : Bool) (t2 : Bool) (t3 : Bool) (b : Int) (c : Int) (m1_0 : Int) (m1_1 : Int) (m1_2 : (List PartT)) (m1_3 : (List EdgeT)) (m1_4 : (List FutureT)) (m1_5 : (List BarrierT)) (x0 : Int) : ∀ (s1 : Int × (List Int) × Int) (r : (List Int)), lp (g_slices_breakPatternsCmpFunc_int_L0 b c x0) s1 = some r → lpW ctx 2 [0, 1, 8, 9, 10, 11] [] ir100L0 [(.sl 0 1), (.d (intD b)), (.d (intD (w64 (c - b)))), (.ptr 2 0), (.d (D.int .u64 x0)), (.d (intD s1.1))] [(.arr 1 (List.map intD s1.2.1)), (.cells [(.d (intD m1_0)), (.d (intD m1_1)), (.d (D.list t0 (List.map partD m1_2))), (.d (D.list t1 (List.map edgeD m1_3))), (.d (D.list t2 (List.map futureD m1_4))), (.d (D.list t3 (List.map barrierD m1_5)))]), (.cells [(.d (D.int .u64 s1.2.2))])] = some ((g_slices_breakPatternsCmpFunc_int__desc_Touches_1_L0_x t0 t1 t2 t3 b c m1_0 m1_1 m1_2 m1_3 m1_4 m1_5 x0) r) := by
 refine lp_ok (g_slices_breakPatternsCmpFunc_int__desc_Touches_1_L0_x t0 t1 t2 t3 b c m1_0 m1_1 m1_2 m1_3 m1_4 m1_5 x0) ?_
 intro s1 rcl ih
 show Says _ _ (lpW _ _ _ _ _ _ _)
 unfold g_slices_breakPatternsCmpFunc_int_L0
 rw [lpW_b]
 conv => arg 3; whnf
 refine sim_f rfl ?_
 conv => arg 3; whnf
 refine sim_br rfl ?_ ?_
 ·conv => arg 3; whnf
  refine sim_bind (g_slices_xorshift_Next_e s1.2.2) (g_slices_xorshift_Next_ok s1.2.2) fun x2 hx2 => ?_
  conv => arg 3; whnf
  refine sim_br rfl ?_ ?_
  ·conv => arg 3; whnf
   refine sim_get (f := intD) rfl rfl fun x3 hx3 => ?_
   conv => arg 3; whnf
   refine sim_known (nth_of (f := intD) rfl hx3) ?_
   conv => arg 3; whnf
   refine sim_get (f := intD) rfl rfl fun x4 hx4 => ?_
   conv => arg 3; whnf
   refine sim_known (nth_of (f := intD) rfl hx4) ?_
   conv => arg 3; whnf
   refine sim_known (get_of (f := intD) rfl hx4) ?_
   conv => arg 3; whnf
   refine sim_known (nth_of (f := intD) rfl hx4) ?_
   conv => arg 3; whnf
   refine sim_let (set_enc intD s1.2.1 s1.1.toNat x3) ?_
   conv => arg 3; whnf
   refine sim_get (f := intD) rfl rfl fun x5 hx5 => ?_
   conv => arg 3; whnf
   refine sim_known (nth_of (f := intD) rfl hx5) ?_
   conv => arg 3; whnf
   refine sim_let (set_enc intD (List.set s1.2.1 s1.1.toNat x3) (w64 (b + (w64 ((w64 (IntKind.u64.wrap (BitVec.ofInt IntKind.u64.bits (IntKind.u64.wrap (BitVec.ofInt IntKind.u64.bits (IntKind.u64.wrap (BitVec.ofInt IntKind.u64.bits (IntKind.u64.wrap (BitVec.ofInt IntKind.u64.bits s1.2.2 ^^^ BitVec.ofInt IntKind.u64.bits (IntKind.u64.wrap (s1.2.2 * 2 ^ 13))).toNat) ^^^ BitVec.ofInt IntKind.u64.bits (Int.fdiv (IntKind.u64.wrap (BitVec.ofInt IntKind.u64.bits s1.2.2 ^^^ BitVec.ofInt IntKind.u64.bits (IntKind.u64.wrap (s1.2.2 * 2 ^ 13))).toNat) (2 ^ 7))).toNat) ^^^ BitVec.ofInt IntKind.u64.bits (IntKind.u64.wrap ((IntKind.u64.wrap (BitVec.ofInt IntKind.u64.bits (IntKind.u64.wrap (BitVec.ofInt IntKind.u64.bits s1.2.2 ^^^ BitVec.ofInt IntKind.u64.bits (IntKind.u64.wrap (s1.2.2 * 2 ^ 13))).toNat) ^^^ BitVec.ofInt IntKind.u64.bits (Int.fdiv (IntKind.u64.wrap (BitVec.ofInt IntKind.u64.bits s1.2.2 ^^^ BitVec.ofInt IntKind.u64.bits (IntKind.u64.wrap (s1.2.2 * 2 ^ 13))).toNat) (2 ^ 7))).toNat) * 2 ^ 17))).toNat) &&& BitVec.ofInt IntKind.u64.bits (IntKind.u64.wrap (x0 - 1))).toNat)) - (w64 (c - b)))))).toNat x4) ?_
   conv => arg 3; whnf
   exact sim_again (ih ((w64 (s1.1 + 1)), (List.set (List.set s1.2.1 s1.1.toNat x3) (w64 (b + (w64 ((w64 (IntKind.u64.wrap (BitVec.ofInt IntKind.u64.bits (IntKind.u64.wrap (BitVec.ofInt IntKind.u64.bits (IntKind.u64.wrap (BitVec.ofInt IntKind.u64.bits (IntKind.u64.wrap (BitVec.ofInt IntKind.u64.bits s1.2.2 ^^^ BitVec.ofInt IntKind.u64.bits (IntKind.u64.wrap (s1.2.2 * 2 ^ 13))).toNat) ^^^ BitVec.ofInt IntKind.u64.bits (Int.fdiv (IntKind.u64.wrap (BitVec.ofInt IntKind.u64.bits s1.2.2 ^^^ BitVec.ofInt IntKind.u64.bits (IntKind.u64.wrap (s1.2.2 * 2 ^ 13))).toNat) (2 ^ 7))).toNat) ^^^ BitVec.ofInt IntKind.u64.bits (IntKind.u64.wrap ((IntKind.u64.wrap (BitVec.ofInt IntKind.u64.bits (IntKind.u64.wrap (BitVec.ofInt IntKind.u64.bits s1.2.2 ^^^ BitVec.ofInt IntKind.u64.bits (IntKind.u64.wrap (s1.2.2 * 2 ^ 13))).toNat) ^^^ BitVec.ofInt IntKind.u64.bits (Int.fdiv (IntKind.u64.wrap (BitVec.ofInt IntKind.u64.bits s1.2.2 ^^^ BitVec.ofInt IntKind.u64.bits (IntKind.u64.wrap (s1.2.2 * 2 ^ 13))).toNat) (2 ^ 7))).toNat) * 2 ^ 17))).toNat) &&& BitVec.ofInt IntKind.u64.bits (IntKind.u64.wrap (x0 - 1))).toNat)) - (w64 (c - b)))))).toNat x4), (IntKind.u64.wrap (BitVec.ofInt IntKind.u64.bits (IntKind.u64.wrap (BitVec.ofInt IntKind.u64.bits (IntKind.u64.wrap (BitVec.ofInt IntKind.u64.bits s1.2.2 ^^^ BitVec.ofInt IntKind.u64.bits (IntKind.u64.wrap (s1.2.2 * 2 ^ 13))).toNat) ^^^ BitVec.ofInt IntKind.u64.bits (Int.fdiv (IntKind.u64.wrap (BitVec.ofInt IntKind.u64.bits s1.2.2 ^^^ BitVec.ofInt IntKind.u64.bits (IntKind.u64.wrap (s1.2.2 * 2 ^ 13))).toNat) (2 ^ 7))).toNat) ^^^ BitVec.ofInt IntKind.u64.bits (IntKind.u64.wrap ((IntKind.u64.wrap (BitVec.ofInt IntKind.u64.bits (IntKind.u64.wrap (BitVec.ofInt IntKind.u64.bits s1.2.2 ^^^ BitVec.ofInt IntKind.u64.bits (IntKind.u64.wrap (s1.2.2 * 2 ^ 13))).toNat) ^^^ BitVec.ofInt IntKind.u64.bits (Int.fdiv (IntKind.u64.wrap (BitVec.ofInt IntKind.u64.bits s1.2.2 ^^^ BitVec.ofInt IntKind.u64.bits (IntKind.u64.wrap (s1.2.2 * 2 ^ 13))).toNat) (2 ^ 7))).toNat) * 2 ^ 17))).toNat)))
  ·conv => arg 3; whnf
   refine sim_get (f := intD) rfl rfl fun x6 hx6 => ?_
   conv => arg 3; whnf
   refine sim_known (nth_of (f := intD) rfl hx6) ?_
   conv => arg 3; whnf
   refine sim_get (f := intD) rfl rfl fun x7 hx7 => ?_
   conv => arg 3; whnf
   refine sim_known (nth_of (f := intD) rfl hx7) ?_
   conv => arg 3; whnf
   refine sim_known (get_of (f := intD) rfl hx7) ?_
   conv => arg 3; whnf
   refine sim_known (nth_of (f := intD) rfl hx7) ?_
   conv => arg 3; whnf
   refine sim_let (set_enc intD s1.2.1 s1.1.toNat x6) ?_
   conv => arg 3; whnf
   refine sim_get (f := intD) rfl rfl fun x8 hx8 => ?_
   conv => arg 3; whnf
   refine sim_known (nth_of (f := intD) rfl hx8) ?_
   conv => arg 3; whnf
   refine sim_let (set_enc intD (List.set s1.2.1 s1.1.toNat x6) (w64 (b + (w64 (IntKind.u64.wrap (BitVec.ofInt IntKind.u64.bits (IntKind.u64.wrap (BitVec.ofInt IntKind.u64.bits (IntKind.u64.wrap (BitVec.ofInt IntKind.u64.bits (IntKind.u64.wrap (BitVec.ofInt IntKind.u64.bits s1.2.2 ^^^ BitVec.ofInt IntKind.u64.bits (IntKind.u64.wrap (s1.2.2 * 2 ^ 13))).toNat) ^^^ BitVec.ofInt IntKind.u64.bits (Int.fdiv (IntKind.u64.wrap (BitVec.ofInt IntKind.u64.bits s1.2.2 ^^^ BitVec.ofInt IntKind.u64.bits (IntKind.u64.wrap (s1.2.2 * 2 ^ 13))).toNat) (2 ^ 7))).toNat) ^^^ BitVec.ofInt IntKind.u64.bits (IntKind.u64.wrap ((IntKind.u64.wrap (BitVec.ofInt IntKind.u64.bits (IntKind.u64.wrap (BitVec.ofInt IntKind.u64.bits s1.2.2 ^^^ BitVec.ofInt IntKind.u64.bits (IntKind.u64.wrap (s1.2.2 * 2 ^ 13))).toNat) ^^^ BitVec.ofInt IntKind.u64.bits (Int.fdiv (IntKind.u64.wrap (BitVec.ofInt IntKind.u64.bits s1.2.2 ^^^ BitVec.ofInt IntKind.u64.bits (IntKind.u64.wrap (s1.2.2 * 2 ^ 13))).toNat) (2 ^ 7))).toNat) * 2 ^ 17))).toNat) &&& BitVec.ofInt IntKind.u64.bits (IntKind.u64.wrap (x0 - 1))).toNat)))).toNat x7) ?_
   conv => arg 3; whnf
   exact sim_again (ih ((w64 (s1.1 + 1)), (List.set (List.set s1.2.1 s1.1.toNat x6) (w64 (b + (w64 (IntKind.u64.wrap (BitVec.ofInt IntKind.u64.bits (IntKind.u64.wrap (BitVec.ofInt IntKind.u64.bits (IntKind.u64.wrap (BitVec.ofInt IntKind.u64.bits (IntKind.u64.wrap (BitVec.ofInt IntKind.u64.bits s1.2.2 ^^^ BitVec.ofInt IntKind.u64.bits (IntKind.u64.wrap (s1.2.2 * 2 ^ 13))).toNat) ^^^ BitVec.ofInt IntKind.u64.bits (Int.fdiv (IntKind.u64.wrap (BitVec.ofInt IntKind.u64.bits s1.2.2 ^^^ BitVec.ofInt IntKind.u64.bits (IntKind.u64.wrap (s1.2.2 * 2 ^ 13))).toNat) (2 ^ 7))).toNat) ^^^ BitVec.ofInt IntKind.u64.bits (IntKind.u64.wrap ((IntKind.u64.wrap (BitVec.ofInt IntKind.u64.bits (IntKind.u64.wrap (BitVec.ofInt IntKind.u64.bits s1.2.2 ^^^ BitVec.ofInt IntKind.u64.bits (IntKind.u64.wrap (s1.2.2 * 2 ^ 13))).toNat) ^^^ BitVec.ofInt IntKind.u64.bits (Int.fdiv (IntKind.u64.wrap (BitVec.ofInt IntKind.u64.bits s1.2.2 ^^^ BitVec.ofInt IntKind.u64.bits (IntKind.u64.wrap (s1.2.2 * 2 ^ 13))).toNat) (2 ^ 7))).toNat) * 2 ^ 17))).toNat) &&& BitVec.ofInt IntKind.u64.bits (IntKind.u64.wrap (x0 - 1))).toNat)))).toNat x7), (IntKind.u64.wrap (BitVec.ofInt IntKind.u64.bits (IntKind.u64.wrap (BitVec.ofInt IntKind.u64.bits (IntKind.u64.wrap (BitVec.ofInt IntKind.u64.bits s1.2.2 ^^^ BitVec.ofInt IntKind.u64.bits (IntKind.u64.wrap (s1.2.2 * 2 ^ 13))).toNat) ^^^ BitVec.ofInt IntKind.u64.bits (Int.fdiv (IntKind.u64.wrap (BitVec.ofInt IntKind.u64.bits s1.2.2 ^^^ BitVec.ofInt IntKind.u64.bits (IntKind.u64.wrap (s1.2.2 * 2 ^ 13))).toNat) (2 ^ 7))).toNat) ^^^ BitVec.ofInt IntKind.u64.bits (IntKind.u64.wrap ((IntKind.u64.wrap (BitVec.ofInt IntKind.u64.bits (IntKind.u64.wrap (BitVec.ofInt IntKind.u64.bits s1.2.2 ^^^ BitVec.ofInt IntKind.u64.bits (IntKind.u64.wrap (s1.2.2 * 2 ^ 13))).toNat) ^^^ BitVec.ofInt IntKind.u64.bits (Int.fdiv (IntKind.u64.wrap (BitVec.ofInt IntKind.u64.bits s1.2.2 ^^^ BitVec.ofInt IntKind.u64.bits (IntKind.u64.wrap (s1.2.2 * 2 ^ 13))).toNat) (2 ^ 7))).toNat) * 2 ^ 17))).toNat)))
 ·conv => arg 3; whnf
  exact sim_ret rfl
set_option maxRecDepth 100000 in
set_option maxHeartbeats 40000000 in
theorem g_slices_breakPatternsCmpFunc_int__desc_Touches_1_ok (t0 : Bool) (t1 : Bool) (t2 : Bool) (t3 : Bool) (b : Int) (c : Int) (m0_0 : (List Int)) (m1_0 : Int) (m1_1 : Int) (m1_2 : (List PartT)) (m1_3 : (List EdgeT)) (m1_4 : (List FutureT)) (m1_5 : (List BarrierT)) : ∀ r, (g_slices_breakPatternsCmpFunc_int b c (fun z0 z1 => g_desc_Touches_1 z0 z1 m1_4) m0_0) = some r → evW ctx 100 [(.sl 0 1), (.d (intD b)), (.d (intD c)), (.fn 62 [(.ptr 1 0)])] [(.arr 1 (List.map intD m0_0)), (.cells [(.d (intD m1_0)), (.d (intD m1_1)), (.d (D.list t0 (List.map partD m1_2))), (.d (D.list t1 (List.map edgeD m1_3))), (.d (D.list t2 (List.map futureD m1_4))), (.d (D.list t3 (List.map barrierD m1_5)))])] = some ((g_slices_breakPatternsCmpFunc_int__desc_Touches_1_e t0 t1 t2 t3 b c m0_0 m1_0 m1_1 m1_2 m1_3 m1_4 m1_5) r) := by
 show Says _ (fun r rhs => rhs = some ((g_slices_breakPatternsCmpFunc_int__desc_Touches_1_e t0 t1 t2 t3 b c m0_0 m1_0 m1_1 m1_2 m1_3 m1_4 m1_5) r)) _
 unfold g_slices_breakPatternsCmpFunc_int
 rw [evW_K ctx 100 fn100 _ _ rfl rfl]
 conv => arg 3; whnf
 refine sim_br rfl ?_ ?_
 ·conv => arg 3; whnf
  refine sim_call g_slices_nextPowerOfTwo_e (g_slices_nextPowerOfTwo_ok (w64 (c - b))) rfl fun x0 hx0 => ?_
  conv => arg 3; whnf
  refine sim_f rfl ?_
  conv => arg 3; whnf
  refine sim_bind (g_slices_breakPatternsCmpFunc_int__desc_Touches_1_L0_x t0 t1 t2 t3 b c m1_0 m1_1 m1_2 m1_3 m1_4 m1_5 x0) (g_slices_breakPatternsCmpFunc_int__desc_Touches_1_L0_ok t0 t1 t2 t3 b c m1_0 m1_1 m1_2 m1_3 m1_4 m1_5 x0 ((w64 ((w64 (b + (w64 ((w64 (Int.tdiv (w64 (c - b)) 4)) * 2)))) - 1)), m0_0, (IntKind.u64.wrap (w64 (c - b))))) fun r9 hr9 => ?_
  conv => arg 3; whnf
  exact sim_ret rfl
 ·conv => arg 3; whnf
  exact sim_ret rfl
end Go.Proofs.YtakebhleglnpjaaDoor

