/- The walks: the evaluator says what the plain text says. -/
import Derived.Test.YtakebhleglnpjaaDoorP1
import Derived.Test.YtakebhleglnpjaaDoorI1
import Derived.KernelRfl
namespace Go.Proofs.YtakebhleglnpjaaDoor
open Go Go.Proofs.YtakebhleglnpjaaDoorE
set_option linter.unusedVariables false
set_option linter.unusedSimpArgs false

theorem g_law05_awake_ok : ∀ r, g_law05_awake = some r → evD ctx 15 [] = some (D.bool r) := fun r h => by
  cases h
  exact evD_of 100 (by kernel_rfl)
def g_ref05_Few_e (r : Bool) : D := (D.bool r)

def g_ref05_Few_L0_x (t0 : Bool) (t1 : Bool) (t2 : Bool) (t3 : Bool) (a : DescT) : (Unit ⊕ Unit) → Ex × List V × Heap
  | (.inl r) => (.ret, [(.ptr 0 0), (.d (D.bool false))], [(.cells [(.d (intD a.period)), (.d (intD a.deadline)), (.d (D.list t0 (List.map partD a.parts))), (.d (D.list t1 (List.map edgeD a.edges))), (.d (D.list t2 (List.map futureD a.futures))), (.d (D.list t3 (List.map barrierD a.barriers)))])])
  | (.inr r) => (.exit 0, [(.ptr 0 0), .bad], [(.cells [(.d (intD a.period)), (.d (intD a.deadline)), (.d (D.list t0 (List.map partD a.parts))), (.d (D.list t1 (List.map edgeD a.edges))), (.d (D.list t2 (List.map futureD a.futures))), (.d (D.list t3 (List.map barrierD a.barriers)))])])

set_option maxRecDepth 100000 in
set_option maxHeartbeats 40000000 in
theorem g_ref05_Few_L0_ok (t0 : Bool) (t1 : Bool) (t2 : Bool) (t3 : Bool) (a : DescT) : ∀ (s0 : Int) (r : (Unit ⊕ Unit)), lp (g_ref05_Few_L0 a) s0 = some r → lpW ctx 0 [1, 3] [1, 2] ir16L0 [(.ptr 0 0), (.d (intD s0))] [(.cells [(.d (intD a.period)), (.d (intD a.deadline)), (.d (D.list t0 (List.map partD a.parts))), (.d (D.list t1 (List.map edgeD a.edges))), (.d (D.list t2 (List.map futureD a.futures))), (.d (D.list t3 (List.map barrierD a.barriers)))])] = some ((g_ref05_Few_L0_x t0 t1 t2 t3 a) r) := by
  refine lp_ok (G := fun (s0 : Int) => lpW ctx 0 [1, 3] [1, 2] ir16L0 [(.ptr 0 0), (.d (intD s0))] [(.cells [(.d (intD a.period)), (.d (intD a.deadline)), (.d (D.list t0 (List.map partD a.parts))), (.d (D.list t1 (List.map edgeD a.edges))), (.d (D.list t2 (List.map futureD a.futures))), (.d (D.list t3 (List.map barrierD a.barriers)))])]) (g_ref05_Few_L0_x t0 t1 t2 t3 a) ?_
  intro s0 rcl ih
  show Says (g_ref05_Few_L0 a s0) _ (lpW ctx 0 [1, 3] [1, 2] ir16L0 [(.ptr 0 0), (.d (intD s0))] [(.cells [(.d (intD a.period)), (.d (intD a.deadline)), (.d (D.list t0 (List.map partD a.parts))), (.d (D.list t1 (List.map edgeD a.edges))), (.d (D.list t2 (List.map futureD a.futures))), (.d (D.list t3 (List.map barrierD a.barriers)))])])
  unfold g_ref05_Few_L0
  rw [lpW_b]
  conv => arg 3; whnf
  refine sim_let (x' := (a.barriers.length : Int)) (len_enc barrierD a.barriers) ?_
  conv => arg 3; whnf
  refine sim_br rfl ?_ ?_
  · skip
    conv => arg 3; whnf
    refine sim_br rfl ?_ ?_
    · skip
      conv => arg 3; whnf
      refine sim_get (f := barrierD) rfl rfl fun x1 hx1 => ?_
      conv => arg 3; whnf
      refine sim_let (x' := (x1.ins.length : Int)) (len_enc intD x1.ins) ?_
      conv => arg 3; whnf
      refine sim_br rfl ?_ ?_
      · skip
        conv => arg 3; whnf
        exact sim_ret rfl
      · skip
        conv => arg 3; whnf
        refine sim_known (get_of (f := barrierD) rfl hx1) ?_
        conv => arg 3; whnf
        refine sim_let (x' := (x1.outs.length : Int)) (len_enc intD x1.outs) ?_
        conv => arg 3; whnf
        refine sim_br rfl ?_ ?_
        · skip
          conv => arg 3; whnf
          exact sim_ret rfl
        · skip
          conv => arg 3; whnf
          exact sim_again (ih (w64 (s0 + 1)))
    · skip
      conv => arg 3; whnf
      exact sim_ret rfl
  · skip
    conv => arg 3; whnf
    exact sim_ret rfl

set_option maxRecDepth 100000 in
set_option maxHeartbeats 40000000 in
theorem g_ref05_Few_ok (t0 : Bool) (t1 : Bool) (t2 : Bool) (t3 : Bool) (a : DescT) : ∀ r, (g_ref05_Few a) = some r → evD ctx 16 [(.d (D.agg [(intD a.period), (intD a.deadline), (D.list t0 (List.map partD a.parts)), (D.list t1 (List.map edgeD a.edges)), (D.list t2 (List.map futureD a.futures)), (D.list t3 (List.map barrierD a.barriers))]))] = some (g_ref05_Few_e r) := by
  refine (?_ : Says (g_ref05_Few a) (fun r rhs => rhs = some (g_ref05_Few_e r)) (evD ctx 16 [(.d (D.agg [(intD a.period), (intD a.deadline), (D.list t0 (List.map partD a.parts)), (D.list t1 (List.map edgeD a.edges)), (D.list t2 (List.map futureD a.futures)), (D.list t3 (List.map barrierD a.barriers))]))]))
  unfold g_ref05_Few
  rw [evD_K ctx 16 fn16 _ rfl rfl]
  conv => arg 3; whnf
  refine sim_bind (g_ref05_Few_L0_x t0 t1 t2 t3 a) (g_ref05_Few_L0_ok t0 t1 t2 t3 a 0) fun r2 hr2 => ?_
  clear hr2
  rcases r2 with r2 | r2
  · skip
    conv => arg 3; whnf
    exact sim_ret rfl
  · skip
    conv => arg 3; whnf
    refine sim_let (x' := (a.parts.length : Int)) (len_enc partD a.parts) ?_
    conv => arg 3; whnf
    refine sim_br rfl ?_ ?_
    · skip
      conv => arg 3; whnf
      refine sim_let (x' := (a.edges.length : Int)) (len_enc edgeD a.edges) ?_
      conv => arg 3; whnf
      refine sim_br rfl ?_ ?_
      · skip
        conv => arg 3; whnf
        refine sim_let (x' := (a.futures.length : Int)) (len_enc futureD a.futures) ?_
        conv => arg 3; whnf
        refine sim_br rfl ?_ ?_
        · skip
          conv => arg 3; whnf
          refine sim_let (x' := (a.barriers.length : Int)) (len_enc barrierD a.barriers) ?_
          conv => arg 3; whnf
          refine sim_br rfl ?_ ?_
          · skip
            conv => arg 3; whnf
            exact sim_ret rfl
          · skip
            conv => arg 3; whnf
            exact sim_ret rfl
        · skip
          conv => arg 3; whnf
          exact sim_ret rfl
      · skip
        conv => arg 3; whnf
        exact sim_ret rfl
    · skip
      conv => arg 3; whnf
      exact sim_ret rfl
def g_law05_Own_e (t0 : Bool) (t1 : Bool) (t2 : Bool) (t3 : Bool) (a : DescT) : (List BarrierT) → V × Heap
  | r => ((.agg [(.d (intD a.period)), (.d (intD a.deadline)), (.sl 0 3), (.sl 1 2), (.sl 2 3), (.sl 3 2)]), [(.arr 3 (List.map partD a.parts)), (.arr 2 (List.map edgeD a.edges)), (.arr 3 (List.map futureD a.futures)), (.arr 2 (List.map barrierD r))])

def g_law05_Own_L0_x (t0 : Bool) (t1 : Bool) (t2 : Bool) (t3 : Bool) (a : DescT) : (List BarrierT) → Ex × List V × Heap
  | r => (.exit 0, [(.ptr 0 0), (.ptr 1 0)], [(.cells [(.d (intD 0)), (.d (intD 0)), (.sl 2 3), (.sl 3 2), (.sl 4 3), (.sl 5 2)]), (.cells [(.d (intD a.period)), (.d (intD a.deadline)), (.sl 6 3), (.sl 7 2), (.sl 8 3), (.sl 9 2)]), (.arr 3 []), (.arr 2 []), (.arr 3 []), (.arr 2 []), (.arr 3 (List.map partD a.parts)), (.arr 2 (List.map edgeD a.edges)), (.arr 3 (List.map futureD a.futures)), (.arr 2 (List.map barrierD r))])

set_option maxRecDepth 100000 in
set_option maxHeartbeats 40000000 in
theorem g_law05_Own_L0_ok (t0 : Bool) (t1 : Bool) (t2 : Bool) (t3 : Bool) (a : DescT) : ∀ (s0 : Int × (List BarrierT)) (r : (List BarrierT)), lp (g_law05_Own_L0 a) s0 = some r → lpW ctx 0 [1, 2, 3, 4] [2, 3] ir18L0 [(.ptr 0 0), (.ptr 1 0), (.ptr 2 0), (.d (intD s0.1))] [(.cells [(.d (intD a.period)), (.d (intD a.deadline)), (.d (D.list t0 (List.map partD a.parts))), (.d (D.list t1 (List.map edgeD a.edges))), (.d (D.list t2 (List.map futureD a.futures))), (.d (D.list t3 (List.map barrierD a.barriers)))]), (.cells [(.d (intD 0)), (.d (intD 0)), (.sl 3 3), (.sl 4 2), (.sl 5 3), (.sl 6 2)]), (.cells [(.d (intD a.period)), (.d (intD a.deadline)), (.sl 7 3), (.sl 8 2), (.sl 9 3), (.sl 10 2)]), (.arr 3 []), (.arr 2 []), (.arr 3 []), (.arr 2 []), (.arr 3 (List.map partD a.parts)), (.arr 2 (List.map edgeD a.edges)), (.arr 3 (List.map futureD a.futures)), (.arr 2 (List.map barrierD s0.2))] = some ((g_law05_Own_L0_x t0 t1 t2 t3 a) r) := by
  refine lp_ok (G := fun (s0 : Int × (List BarrierT)) => lpW ctx 0 [1, 2, 3, 4] [2, 3] ir18L0 [(.ptr 0 0), (.ptr 1 0), (.ptr 2 0), (.d (intD s0.1))] [(.cells [(.d (intD a.period)), (.d (intD a.deadline)), (.d (D.list t0 (List.map partD a.parts))), (.d (D.list t1 (List.map edgeD a.edges))), (.d (D.list t2 (List.map futureD a.futures))), (.d (D.list t3 (List.map barrierD a.barriers)))]), (.cells [(.d (intD 0)), (.d (intD 0)), (.sl 3 3), (.sl 4 2), (.sl 5 3), (.sl 6 2)]), (.cells [(.d (intD a.period)), (.d (intD a.deadline)), (.sl 7 3), (.sl 8 2), (.sl 9 3), (.sl 10 2)]), (.arr 3 []), (.arr 2 []), (.arr 3 []), (.arr 2 []), (.arr 3 (List.map partD a.parts)), (.arr 2 (List.map edgeD a.edges)), (.arr 3 (List.map futureD a.futures)), (.arr 2 (List.map barrierD s0.2))]) (g_law05_Own_L0_x t0 t1 t2 t3 a) ?_
  intro s0 rcl ih
  show Says (g_law05_Own_L0 a s0) _ (lpW ctx 0 [1, 2, 3, 4] [2, 3] ir18L0 [(.ptr 0 0), (.ptr 1 0), (.ptr 2 0), (.d (intD s0.1))] [(.cells [(.d (intD a.period)), (.d (intD a.deadline)), (.d (D.list t0 (List.map partD a.parts))), (.d (D.list t1 (List.map edgeD a.edges))), (.d (D.list t2 (List.map futureD a.futures))), (.d (D.list t3 (List.map barrierD a.barriers)))]), (.cells [(.d (intD 0)), (.d (intD 0)), (.sl 3 3), (.sl 4 2), (.sl 5 3), (.sl 6 2)]), (.cells [(.d (intD a.period)), (.d (intD a.deadline)), (.sl 7 3), (.sl 8 2), (.sl 9 3), (.sl 10 2)]), (.arr 3 []), (.arr 2 []), (.arr 3 []), (.arr 2 []), (.arr 3 (List.map partD a.parts)), (.arr 2 (List.map edgeD a.edges)), (.arr 3 (List.map futureD a.futures)), (.arr 2 (List.map barrierD s0.2))])
  unfold g_law05_Own_L0
  rw [lpW_b]
  conv => arg 3; whnf
  refine sim_let (x' := (a.barriers.length : Int)) (len_enc barrierD a.barriers) ?_
  conv => arg 3; whnf
  refine sim_br rfl ?_ ?_
  · skip
    conv => arg 3; whnf
    refine sim_get (f := barrierD) rfl rfl fun x1 hx1 => ?_
    conv => arg 3; whnf
    refine sim_t (szAt_map (f := intD) (fun _ => ⟨rfl, rfl⟩) x1.ins 0) ?_
    conv => arg 3; whnf
    refine sim_br (ble_enc1 intD x1.ins) ?_ ?_
    · skip
      conv => arg 3; whnf
      refine sim_let (rfl : _ = List.map intD x1.ins) ?_
      conv => arg 3; whnf
      refine sim_known (get_of (f := barrierD) rfl hx1) ?_
      conv => arg 3; whnf
      refine sim_t (szAt_map (f := intD) (fun _ => ⟨rfl, rfl⟩) x1.outs 0) ?_
      conv => arg 3; whnf
      refine sim_br (ble_enc1 intD x1.outs) ?_ ?_
      · skip
        conv => arg 3; whnf
        refine sim_let (rfl : _ = List.map intD x1.outs) ?_
        conv => arg 3; whnf
        refine sim_t rfl ?_
        conv => arg 3; whnf
        refine sim_br (ble_enc barrierD s0.2 1) ?_ ?_
        · skip
          conv => arg 3; whnf
          refine sim_let (app_enc barrierD s0.2 [x1]) ?_
          conv => arg 3; whnf
          exact sim_again (ih ((w64 (s0.1 + 1)), (s0.2 ++ [x1])))
        · skip
          exact sim_none
      · skip
        exact sim_none
    · skip
      exact sim_none
  · skip
    conv => arg 3; whnf
    exact sim_ret rfl

set_option maxRecDepth 100000 in
set_option maxHeartbeats 40000000 in
theorem g_law05_Own_ok (t0 : Bool) (t1 : Bool) (t2 : Bool) (t3 : Bool) (a : DescT) : ∀ r, (g_law05_Own a) = some r → evW ctx 18 [(.d (D.agg [(intD a.period), (intD a.deadline), (D.list t0 (List.map partD a.parts)), (D.list t1 (List.map edgeD a.edges)), (D.list t2 (List.map futureD a.futures)), (D.list t3 (List.map barrierD a.barriers))]))] [] = some ((g_law05_Own_e t0 t1 t2 t3 a) r) := by
  refine (?_ : Says (g_law05_Own a) (fun r rhs => rhs = some ((g_law05_Own_e t0 t1 t2 t3 a) r)) (evW ctx 18 [(.d (D.agg [(intD a.period), (intD a.deadline), (D.list t0 (List.map partD a.parts)), (D.list t1 (List.map edgeD a.edges)), (D.list t2 (List.map futureD a.futures)), (D.list t3 (List.map barrierD a.barriers))]))] []))
  unfold g_law05_Own
  rw [evW_K ctx 18 fn18 _ _ rfl rfl]
  conv => arg 3; whnf
  refine sim_t (szAt_map (f := partD) (fun _ => ⟨rfl, rfl⟩) a.parts 0) ?_
  conv => arg 3; whnf
  refine sim_br (ble_enc1 partD a.parts) ?_ ?_
  · skip
    conv => arg 3; whnf
    refine sim_let (rfl : _ = List.map partD a.parts) ?_
    conv => arg 3; whnf
    refine sim_t (szAt_map (f := edgeD) (fun _ => ⟨rfl, rfl⟩) a.edges 0) ?_
    conv => arg 3; whnf
    refine sim_br (ble_enc1 edgeD a.edges) ?_ ?_
    · skip
      conv => arg 3; whnf
      refine sim_let (rfl : _ = List.map edgeD a.edges) ?_
      conv => arg 3; whnf
      refine sim_t (szAt_map (f := futureD) (fun _ => ⟨rfl, rfl⟩) a.futures 0) ?_
      conv => arg 3; whnf
      refine sim_br (ble_enc1 futureD a.futures) ?_ ?_
      · skip
        conv => arg 3; whnf
        refine sim_let (rfl : _ = List.map futureD a.futures) ?_
        conv => arg 3; whnf
        refine sim_bind (g_law05_Own_L0_x t0 t1 t2 t3 a) (g_law05_Own_L0_ok t0 t1 t2 t3 a (0, ([] : (List BarrierT)))) fun r2 hr2 => ?_
        conv => arg 3; whnf
        exact sim_ret rfl
      · skip
        exact sim_none
    · skip
      exact sim_none
  · skip
    exact sim_none
def g_desc_within_e (r : Bool) : D := (D.bool r)

set_option maxRecDepth 100000 in
set_option maxHeartbeats 40000000 in
theorem g_desc_within_ok (a : Int) (b : Int) (c : Int) : ∀ r, (g_desc_within a b c) = some r → evD ctx 37 [(.d (intD a)), (.d (intD b)), (.d (intD c))] = some (g_desc_within_e r) := by
  refine (?_ : Says (g_desc_within a b c) (fun r rhs => rhs = some (g_desc_within_e r)) (evD ctx 37 [(.d (intD a)), (.d (intD b)), (.d (intD c))]))
  unfold g_desc_within
  rw [evD_K ctx 37 fn37 _ rfl rfl]
  conv => arg 3; whnf
  refine sim_br rfl ?_ ?_
  · skip
    conv => arg 3; whnf
    refine sim_br rfl ?_ ?_
    · skip
      conv => arg 3; whnf
      exact sim_ret rfl
    · skip
      conv => arg 3; whnf
      exact sim_ret rfl
  · skip
    conv => arg 3; whnf
    exact sim_ret rfl
def g_num_Check_e (r : Int) : D := (intD r)

set_option maxRecDepth 100000 in
set_option maxHeartbeats 40000000 in
theorem g_num_Check_ok (a : Int) : ∀ r, (g_num_Check a) = some r → evD ctx 74 [(.d (intD a))] = some (g_num_Check_e r) := by
  refine (?_ : Says (g_num_Check a) (fun r rhs => rhs = some (g_num_Check_e r)) (evD ctx 74 [(.d (intD a))]))
  unfold g_num_Check
  rw [evD_K ctx 74 fn74 _ rfl rfl]
  conv => arg 3; whnf
  refine sim_br rfl ?_ ?_
  · skip
    conv => arg 3; whnf
    exact sim_ret rfl
  · skip
    conv => arg 3; whnf
    refine sim_br rfl ?_ ?_
    · skip
      conv => arg 3; whnf
      exact sim_ret rfl
    · skip
      conv => arg 3; whnf
      exact sim_ret rfl
def g_math_bits_OnesCount64_e (r : Int) : D := (intD r)

set_option maxRecDepth 100000 in
set_option maxHeartbeats 40000000 in
theorem g_math_bits_OnesCount64_ok (a : Int) : ∀ r, (g_math_bits_OnesCount64 a) = some r → evD ctx 95 [(.d (D.int .u64 a))] = some (g_math_bits_OnesCount64_e r) := by
  refine (?_ : Says (g_math_bits_OnesCount64 a) (fun r rhs => rhs = some (g_math_bits_OnesCount64_e r)) (evD ctx 95 [(.d (D.int .u64 a))]))
  unfold g_math_bits_OnesCount64
  rw [evD_K ctx 95 fn95 _ rfl rfl]
  conv => arg 3; whnf
  refine sim_f rfl ?_
  conv => arg 3; whnf
  refine sim_f rfl ?_
  conv => arg 3; whnf
  refine sim_f rfl ?_
  conv => arg 3; whnf
  refine sim_f rfl ?_
  conv => arg 3; whnf
  refine sim_f rfl ?_
  conv => arg 3; whnf
  refine sim_f rfl ?_
  conv => arg 3; whnf
  exact sim_ret rfl
def g_math_bits_OnesCount_e (r : Int) : D := (intD r)

set_option maxRecDepth 100000 in
set_option maxHeartbeats 40000000 in
theorem g_math_bits_OnesCount_ok (a : Int) : ∀ r, (g_math_bits_OnesCount a) = some r → evD ctx 75 [(.d (D.int .u64 a))] = some (g_math_bits_OnesCount_e r) := by
  refine (?_ : Says (g_math_bits_OnesCount a) (fun r rhs => rhs = some (g_math_bits_OnesCount_e r)) (evD ctx 75 [(.d (D.int .u64 a))]))
  unfold g_math_bits_OnesCount
  rw [evD_K ctx 75 fn75 _ rfl rfl]
  conv => arg 3; whnf
  refine sim_call g_math_bits_OnesCount64_e (g_math_bits_OnesCount64_ok a) rfl fun x0 hx0 => ?_
  conv => arg 3; whnf
  exact sim_ret rfl
theorem wrapU (n : Int) : 0 ≤ IntKind.u64.wrap n ∧ IntKind.u64.wrap n < 18446744073709551616 := by
  have : IntKind.u64.wrap n = n % 18446744073709551616 := by
    show (if (false && decide (n % 18446744073709551616 ≥ 9223372036854775808)) = true then n % 18446744073709551616 - 18446744073709551616 else n % 18446744073709551616) = _
    simp
  rw [this]
  omega
theorem shr58 (n : Int) : ∃ j : Nat, j < 64 ∧ (IntKind.u64.wrap n).fdiv (2 ^ (min (Int.toNat 58) IntKind.u64.bits)) = (j : Int) := by
  obtain ⟨h1, h2⟩ := wrapU n
  have e : (2 : Int) ^ (min (Int.toNat 58) IntKind.u64.bits) = 288230376151711744 := by decide
  rw [e, Int.fdiv_eq_ediv_of_nonneg _ (by omega)]
  refine ⟨((IntKind.u64.wrap n) / 288230376151711744).toNat, ?_, ?_⟩ <;> omega
theorem tab64 : ∀ j : Nat, j < 64 → loadE [] 1 false (.d (.rptr (glob1.drop (j * 1)))) = some (.d (.int .u8 (tz64tab.getD j 0))) := by
  have key : ((List.range 64).all fun j => match loadE [] 1 false (.d (.rptr (glob1.drop (j * 1)))) with | some (.d (.int .u8 z)) => z == tz64tab.getD j 0 | _ => false) = true := by rfl
  intro j hj
  have := List.all_eq_true.1 key j (by simpa using hj)
  split at this
  · rename_i z hz
    rw [hz, eq_of_beq this]
  · cases this
def g_math_bits_TrailingZeros64_e (r : Int) : D := intD r
set_option maxRecDepth 100000 in
theorem g_math_bits_TrailingZeros64_ok (a : Int) : ∀ r, g_math_bits_TrailingZeros64 a = some r → evD ctx 97 [.d (.int .u64 a)] = some (g_math_bits_TrailingZeros64_e r) := by
  intro r hr
  unfold g_math_bits_TrailingZeros64 at hr
  have hr := Option.some.inj hr
  subst hr
  rw [evD_K ctx 97 fn97 _ rfl rfl]
  by_cases h : (a == 0) = true
  · conv => lhs; whnf
    rw [h, br_t]
    rfl
  · replace h : (a == 0) = false := by simpa using h
    obtain ⟨j, hj, e⟩ := shr58 (IntKind.u64.wrap ((BitVec.ofInt IntKind.u64.bits a &&& BitVec.ofInt IntKind.u64.bits (IntKind.u64.wrap (0 - a))).toNat : Int) * 285870213051353865)
    conv => lhs; whnf
    rw [h, br_f]
    conv => lhs; whnf
    refine (br_ff (by rfl)).trans ?_
    conv => lhs; whnf
    rw [e]
    refine (br_tt (by simp; omega)).trans ?_
    conv => lhs; whnf
    erw [tab64 j hj]
    rfl
def g_math_bits_TrailingZeros_e (r : Int) : D := (intD r)

set_option maxRecDepth 100000 in
set_option maxHeartbeats 40000000 in
theorem g_math_bits_TrailingZeros_ok (a : Int) : ∀ r, (g_math_bits_TrailingZeros a) = some r → evD ctx 76 [(.d (D.int .u64 a))] = some (g_math_bits_TrailingZeros_e r) := by
  refine (?_ : Says (g_math_bits_TrailingZeros a) (fun r rhs => rhs = some (g_math_bits_TrailingZeros_e r)) (evD ctx 76 [(.d (D.int .u64 a))]))
  unfold g_math_bits_TrailingZeros
  rw [evD_K ctx 76 fn76 _ rfl rfl]
  conv => arg 3; whnf
  refine sim_call g_math_bits_TrailingZeros64_e (g_math_bits_TrailingZeros64_ok a) rfl fun x0 hx0 => ?_
  conv => arg 3; whnf
  exact sim_ret rfl
def g_num_Two_e (r : (Int × Bool)) : D := (D.tup [(intD r.1), (D.bool r.2)])

set_option maxRecDepth 100000 in
set_option maxHeartbeats 40000000 in
theorem g_num_Two_ok (a : Int) : ∀ r, (g_num_Two a) = some r → evD ctx 38 [(.d (intD a))] = some (g_num_Two_e r) := by
  refine (?_ : Says (g_num_Two a) (fun r rhs => rhs = some (g_num_Two_e r)) (evD ctx 38 [(.d (intD a))]))
  unfold g_num_Two
  rw [evD_K ctx 38 fn38 _ rfl rfl]
  conv => arg 3; whnf
  refine sim_call g_num_Check_e (g_num_Check_ok a) rfl fun x0 hx0 => ?_
  conv => arg 3; whnf
  refine sim_br rfl ?_ ?_
  · skip
    conv => arg 3; whnf
    exact sim_ret rfl
  · skip
    conv => arg 3; whnf
    refine sim_call g_math_bits_OnesCount_e (g_math_bits_OnesCount_ok (IntKind.u64.wrap a)) rfl fun x1 hx1 => ?_
    conv => arg 3; whnf
    refine sim_br rfl ?_ ?_
    · skip
      conv => arg 3; whnf
      exact sim_ret rfl
    · skip
      conv => arg 3; whnf
      refine sim_call g_math_bits_TrailingZeros_e (g_math_bits_TrailingZeros_ok (IntKind.u64.wrap a)) rfl fun x2 hx2 => ?_
      conv => arg 3; whnf
      exact sim_ret rfl
def g_desc_part_e (r : Bool) : D := (D.bool r)

set_option maxRecDepth 100000 in
set_option maxHeartbeats 40000000 in
theorem g_desc_part_ok (a : PartT) : ∀ r, (g_desc_part a) = some r → evD ctx 40 [(.d (D.agg [(intD a.op), (intD a.arg), (intD a.work)]))] = some (g_desc_part_e r) := by
  refine (?_ : Says (g_desc_part a) (fun r rhs => rhs = some (g_desc_part_e r)) (evD ctx 40 [(.d (D.agg [(intD a.op), (intD a.arg), (intD a.work)]))]))
  unfold g_desc_part
  rw [evD_K ctx 40 fn40 _ rfl rfl]
  conv => arg 3; whnf
  refine sim_call g_desc_within_e (g_desc_within_ok a.op 0 5) rfl fun x0 hx0 => ?_
  conv => arg 3; whnf
  refine sim_br rfl ?_ ?_
  · skip
    conv => arg 3; whnf
    refine sim_call g_desc_within_e (g_desc_within_ok a.arg 0 2147483647) rfl fun x1 hx1 => ?_
    conv => arg 3; whnf
    refine sim_br rfl ?_ ?_
    · skip
      conv => arg 3; whnf
      refine sim_call g_desc_within_e (g_desc_within_ok a.work 1 100) rfl fun x2 hx2 => ?_
      conv => arg 3; whnf
      refine sim_br rfl ?_ ?_
      · skip
        conv => arg 3; whnf
        exact sim_ret rfl
      · skip
        conv => arg 3; whnf
        exact sim_ret rfl
    · skip
      conv => arg 3; whnf
      exact sim_ret rfl
  · skip
    conv => arg 3; whnf
    exact sim_ret rfl
def g_slices_IndexFunc_l_Part_Part__desc_part_e (r : Int) : D := (intD r)

def g_slices_IndexFunc_l_Part_Part__desc_part_L0_x (t0 : Bool) (a : (List PartT)) : (Int ⊕ Unit) → Ex × List V × Heap
  | (.inl r) => (.ret, [(.d (intD r))], [])
  | (.inr r) => (.exit 0, [.bad], [])

set_option maxRecDepth 100000 in
set_option maxHeartbeats 40000000 in
theorem g_slices_IndexFunc_l_Part_Part__desc_part_L0_ok (t0 : Bool) (a : (List PartT)) : ∀ (s0 : Int) (r : (Int ⊕ Unit)), lp (g_slices_IndexFunc_l_Part_Part_L0 a (fun z0 => g_desc_part z0)) s0 = some r → lpW ctx 0 [0, 1, 7, 8] [4] ir77L0 [(.d (D.list t0 (List.map partD a))), (.d (D.fn 40 [])), (.d (intD (a.length : Int))), (.d (intD s0))] [] = some ((g_slices_IndexFunc_l_Part_Part__desc_part_L0_x t0 a) r) := by
  refine lp_ok (G := fun (s0 : Int) => lpW ctx 0 [0, 1, 7, 8] [4] ir77L0 [(.d (D.list t0 (List.map partD a))), (.d (D.fn 40 [])), (.d (intD (a.length : Int))), (.d (intD s0))] []) (g_slices_IndexFunc_l_Part_Part__desc_part_L0_x t0 a) ?_
  intro s0 rcl ih
  show Says (g_slices_IndexFunc_l_Part_Part_L0 a (fun z0 => g_desc_part z0) s0) _ (lpW ctx 0 [0, 1, 7, 8] [4] ir77L0 [(.d (D.list t0 (List.map partD a))), (.d (D.fn 40 [])), (.d (intD (a.length : Int))), (.d (intD s0))] [])
  unfold g_slices_IndexFunc_l_Part_Part_L0
  rw [lpW_b]
  conv => arg 3; whnf
  refine sim_br rfl ?_ ?_
  · skip
    conv => arg 3; whnf
    refine sim_get (f := partD) rfl rfl fun x1 hx1 => ?_
    conv => arg 3; whnf
    refine sim_call g_desc_part_e (g_desc_part_ok x1) rfl fun x2 hx2 => ?_
    conv => arg 3; whnf
    refine sim_br rfl ?_ ?_
    · skip
      conv => arg 3; whnf
      exact sim_ret rfl
    · skip
      conv => arg 3; whnf
      exact sim_again (ih (w64 (s0 + 1)))
  · skip
    conv => arg 3; whnf
    exact sim_ret rfl

set_option maxRecDepth 100000 in
set_option maxHeartbeats 40000000 in
theorem g_slices_IndexFunc_l_Part_Part__desc_part_ok (t0 : Bool) (a : (List PartT)) : ∀ r, (g_slices_IndexFunc_l_Part_Part a (fun z0 => g_desc_part z0)) = some r → evD ctx 77 [(.d (D.list t0 (List.map partD a))), (.d (D.fn 40 []))] = some (g_slices_IndexFunc_l_Part_Part__desc_part_e r) := by
  refine (?_ : Says (g_slices_IndexFunc_l_Part_Part a (fun z0 => g_desc_part z0)) (fun r rhs => rhs = some (g_slices_IndexFunc_l_Part_Part__desc_part_e r)) (evD ctx 77 [(.d (D.list t0 (List.map partD a))), (.d (D.fn 40 []))]))
  unfold g_slices_IndexFunc_l_Part_Part
  rw [evD_K ctx 77 fn77 _ rfl rfl]
  conv => arg 3; whnf
  refine sim_let (x' := (a.length : Int)) (len_enc partD a) ?_
  conv => arg 3; whnf
  refine sim_bind (g_slices_IndexFunc_l_Part_Part__desc_part_L0_x t0 a) (g_slices_IndexFunc_l_Part_Part__desc_part_L0_ok t0 a 0) fun r3 hr3 => ?_
  clear hr3
  rcases r3 with r3 | r3
  · skip
    conv => arg 3; whnf
    exact sim_ret rfl
  · skip
    conv => arg 3; whnf
    exact sim_ret rfl
def g_slices_ContainsFunc_l_Part_Part__desc_part_e (r : Bool) : D := (D.bool r)

set_option maxRecDepth 100000 in
set_option maxHeartbeats 40000000 in
theorem g_slices_ContainsFunc_l_Part_Part__desc_part_ok (t0 : Bool) (a : (List PartT)) : ∀ r, (g_slices_ContainsFunc_l_Part_Part a (fun z0 => g_desc_part z0)) = some r → evD ctx 39 [(.d (D.list t0 (List.map partD a))), (.d (D.fn 40 []))] = some (g_slices_ContainsFunc_l_Part_Part__desc_part_e r) := by
  refine (?_ : Says (g_slices_ContainsFunc_l_Part_Part a (fun z0 => g_desc_part z0)) (fun r rhs => rhs = some (g_slices_ContainsFunc_l_Part_Part__desc_part_e r)) (evD ctx 39 [(.d (D.list t0 (List.map partD a))), (.d (D.fn 40 []))]))
  unfold g_slices_ContainsFunc_l_Part_Part
  rw [evD_K ctx 39 fn39 _ rfl rfl]
  conv => arg 3; whnf
  refine sim_call g_slices_IndexFunc_l_Part_Part__desc_part_e (g_slices_IndexFunc_l_Part_Part__desc_part_ok t0 a) rfl fun x0 hx0 => ?_
  conv => arg 3; whnf
  refine sim_br rfl ?_ ?_
  · skip
    conv => arg 3; whnf
    exact sim_ret rfl
  · skip
    conv => arg 3; whnf
    exact sim_ret rfl
def g_desc_two_e (r : Bool) : D := (D.bool r)

set_option maxRecDepth 100000 in
set_option maxHeartbeats 40000000 in
theorem g_desc_two_ok (t0 : Bool) (t1 : Bool) (t2 : Bool) (t3 : Bool) (a : DescT) (b : Int) (c : Int) : ∀ r, (g_desc_two a b c) = some r → evD ctx 41 [(.d (D.agg [(intD a.period), (intD a.deadline), (D.list t0 (List.map partD a.parts)), (D.list t1 (List.map edgeD a.edges)), (D.list t2 (List.map futureD a.futures)), (D.list t3 (List.map barrierD a.barriers))])), (.d (intD b)), (.d (intD c))] = some (g_desc_two_e r) := by
  refine (?_ : Says (g_desc_two a b c) (fun r rhs => rhs = some (g_desc_two_e r)) (evD ctx 41 [(.d (D.agg [(intD a.period), (intD a.deadline), (D.list t0 (List.map partD a.parts)), (D.list t1 (List.map edgeD a.edges)), (D.list t2 (List.map futureD a.futures)), (D.list t3 (List.map barrierD a.barriers))])), (.d (intD b)), (.d (intD c))]))
  unfold g_desc_two
  rw [evD_K ctx 41 fn41 _ rfl rfl]
  conv => arg 3; whnf
  refine sim_br rfl ?_ ?_
  · skip
    conv => arg 3; whnf
    refine sim_let (x' := (a.parts.length : Int)) (len_enc partD a.parts) ?_
    conv => arg 3; whnf
    refine sim_call g_desc_within_e (g_desc_within_ok b 0 (w64 ((a.parts.length : Int) - 1))) rfl fun x0 hx0 => ?_
    conv => arg 3; whnf
    refine sim_br rfl ?_ ?_
    · skip
      conv => arg 3; whnf
      refine sim_let (x' := (a.parts.length : Int)) (len_enc partD a.parts) ?_
      conv => arg 3; whnf
      refine sim_call g_desc_within_e (g_desc_within_ok c 0 (w64 ((a.parts.length : Int) - 1))) rfl fun x1 hx1 => ?_
      conv => arg 3; whnf
      refine sim_br rfl ?_ ?_
      · skip
        conv => arg 3; whnf
        exact sim_ret rfl
      · skip
        conv => arg 3; whnf
        exact sim_ret rfl
    · skip
      conv => arg 3; whnf
      exact sim_ret rfl
  · skip
    conv => arg 3; whnf
    exact sim_ret rfl
def g_slices_Index_l_Edge_Edge_e (r : Int) : D := (intD r)

def g_slices_Index_l_Edge_Edge_L0_x (t0 : Bool) (a : (List EdgeT)) (b : EdgeT) : (Int ⊕ Unit) → Ex × List V × Heap
  | (.inl r) => (.ret, [(.d (intD r))], [])
  | (.inr r) => (.exit 0, [.bad], [])

set_option maxRecDepth 100000 in
set_option maxHeartbeats 40000000 in
theorem g_slices_Index_l_Edge_Edge_L0_ok (t0 : Bool) (a : (List EdgeT)) (b : EdgeT) : ∀ (s0 : Int) (r : (Int ⊕ Unit)), lp (g_slices_Index_l_Edge_Edge_L0 a b) s0 = some r → lpW ctx 0 [0, 3, 7, 8] [4] ir78L0 [(.d (D.list t0 (List.map edgeD a))), (.ptr 0 0), (.d (intD (a.length : Int))), (.d (intD s0))] [(.cells [(.d (intD b.src)), (.d (intD b.dst))])] = some ((g_slices_Index_l_Edge_Edge_L0_x t0 a b) r) := by
  refine lp_ok (G := fun (s0 : Int) => lpW ctx 0 [0, 3, 7, 8] [4] ir78L0 [(.d (D.list t0 (List.map edgeD a))), (.ptr 0 0), (.d (intD (a.length : Int))), (.d (intD s0))] [(.cells [(.d (intD b.src)), (.d (intD b.dst))])]) (g_slices_Index_l_Edge_Edge_L0_x t0 a b) ?_
  intro s0 rcl ih
  show Says (g_slices_Index_l_Edge_Edge_L0 a b s0) _ (lpW ctx 0 [0, 3, 7, 8] [4] ir78L0 [(.d (D.list t0 (List.map edgeD a))), (.ptr 0 0), (.d (intD (a.length : Int))), (.d (intD s0))] [(.cells [(.d (intD b.src)), (.d (intD b.dst))])])
  unfold g_slices_Index_l_Edge_Edge_L0
  rw [lpW_b]
  conv => arg 3; whnf
  refine sim_br rfl ?_ ?_
  · skip
    conv => arg 3; whnf
    refine sim_get (f := edgeD) rfl rfl fun x1 hx1 => ?_
    conv => arg 3; whnf
    refine sim_br rfl ?_ ?_
    · skip
      conv => arg 3; whnf
      exact sim_ret rfl
    · skip
      conv => arg 3; whnf
      exact sim_again (ih (w64 (s0 + 1)))
  · skip
    conv => arg 3; whnf
    exact sim_ret rfl

set_option maxRecDepth 100000 in
set_option maxHeartbeats 40000000 in
theorem g_slices_Index_l_Edge_Edge_ok (t0 : Bool) (a : (List EdgeT)) (b : EdgeT) : ∀ r, (g_slices_Index_l_Edge_Edge a b) = some r → evD ctx 78 [(.d (D.list t0 (List.map edgeD a))), (.d (D.agg [(intD b.src), (intD b.dst)]))] = some (g_slices_Index_l_Edge_Edge_e r) := by
  refine (?_ : Says (g_slices_Index_l_Edge_Edge a b) (fun r rhs => rhs = some (g_slices_Index_l_Edge_Edge_e r)) (evD ctx 78 [(.d (D.list t0 (List.map edgeD a))), (.d (D.agg [(intD b.src), (intD b.dst)]))]))
  unfold g_slices_Index_l_Edge_Edge
  rw [evD_K ctx 78 fn78 _ rfl rfl]
  conv => arg 3; whnf
  refine sim_let (x' := (a.length : Int)) (len_enc edgeD a) ?_
  conv => arg 3; whnf
  refine sim_bind (g_slices_Index_l_Edge_Edge_L0_x t0 a b) (g_slices_Index_l_Edge_Edge_L0_ok t0 a b 0) fun r2 hr2 => ?_
  clear hr2
  rcases r2 with r2 | r2
  · skip
    conv => arg 3; whnf
    exact sim_ret rfl
  · skip
    conv => arg 3; whnf
    exact sim_ret rfl
def g_slices_Contains_l_Edge_Edge_e (r : Bool) : D := (D.bool r)

set_option maxRecDepth 100000 in
set_option maxHeartbeats 40000000 in
theorem g_slices_Contains_l_Edge_Edge_ok (t0 : Bool) (a : (List EdgeT)) (b : EdgeT) : ∀ r, (g_slices_Contains_l_Edge_Edge a b) = some r → evD ctx 42 [(.d (D.list t0 (List.map edgeD a))), (.d (D.agg [(intD b.src), (intD b.dst)]))] = some (g_slices_Contains_l_Edge_Edge_e r) := by
  refine (?_ : Says (g_slices_Contains_l_Edge_Edge a b) (fun r rhs => rhs = some (g_slices_Contains_l_Edge_Edge_e r)) (evD ctx 42 [(.d (D.list t0 (List.map edgeD a))), (.d (D.agg [(intD b.src), (intD b.dst)]))]))
  unfold g_slices_Contains_l_Edge_Edge
  rw [evD_K ctx 42 fn42 _ rfl rfl]
  conv => arg 3; whnf
  refine sim_call g_slices_Index_l_Edge_Edge_e (g_slices_Index_l_Edge_Edge_ok t0 a b) rfl fun x0 hx0 => ?_
  conv => arg 3; whnf
  refine sim_br rfl ?_ ?_
  · skip
    conv => arg 3; whnf
    exact sim_ret rfl
  · skip
    conv => arg 3; whnf
    exact sim_ret rfl
def g_desc_Check_1_e (r : Bool) : D := (D.bool r)

set_option maxRecDepth 100000 in
set_option maxHeartbeats 40000000 in
theorem g_desc_Check_1_ok (a : FutureT) (b0 : Int) (b1 : Int) (b2 : Int) : ∀ r, (g_desc_Check_1 a b1 b2) = some r → evD ctx 43 [(.d (D.agg [(intD a.maker), (intD a.user), (intD a.pos)])), (.d (D.rptr [(intD b0), (intD b1), (intD b2)]))] = some (g_desc_Check_1_e r) := by
  refine (?_ : Says (g_desc_Check_1 a b1 b2) (fun r rhs => rhs = some (g_desc_Check_1_e r)) (evD ctx 43 [(.d (D.agg [(intD a.maker), (intD a.user), (intD a.pos)])), (.d (D.rptr [(intD b0), (intD b1), (intD b2)]))]))
  unfold g_desc_Check_1
  rw [evD_K ctx 43 fn43 _ rfl rfl]
  conv => arg 3; whnf
  refine sim_br rfl ?_ ?_
  · skip
    conv => arg 3; whnf
    refine sim_br rfl ?_ ?_
    · skip
      conv => arg 3; whnf
      exact sim_ret rfl
    · skip
      conv => arg 3; whnf
      exact sim_ret rfl
  · skip
    conv => arg 3; whnf
    exact sim_ret rfl
def g_slices_IndexFunc_l_Future_Future__desc_Check_1_e (r : Int) : D := (intD r)

def g_slices_IndexFunc_l_Future_Future__desc_Check_1_L0_x (t0 : Bool) (a : (List FutureT)) (b0 : Int) (b1 : Int) (b2 : Int) : (Int ⊕ Unit) → Ex × List V × Heap
  | (.inl r) => (.ret, [(.d (intD r))], [])
  | (.inr r) => (.exit 0, [.bad], [])

set_option maxRecDepth 100000 in
set_option maxHeartbeats 40000000 in
theorem g_slices_IndexFunc_l_Future_Future__desc_Check_1_L0_ok (t0 : Bool) (a : (List FutureT)) (b0 : Int) (b1 : Int) (b2 : Int) : ∀ (s0 : Int) (r : (Int ⊕ Unit)), lp (g_slices_IndexFunc_l_Future_Future_L0 a (fun z0 => g_desc_Check_1 z0 b1 b2)) s0 = some r → lpW ctx 0 [0, 1, 7, 8] [4] ir79L0 [(.d (D.list t0 (List.map futureD a))), (.d (D.fn 43 [(D.rptr [(intD b0), (intD b1), (intD b2)])])), (.d (intD (a.length : Int))), (.d (intD s0))] [] = some ((g_slices_IndexFunc_l_Future_Future__desc_Check_1_L0_x t0 a b0 b1 b2) r) := by
  refine lp_ok (G := fun (s0 : Int) => lpW ctx 0 [0, 1, 7, 8] [4] ir79L0 [(.d (D.list t0 (List.map futureD a))), (.d (D.fn 43 [(D.rptr [(intD b0), (intD b1), (intD b2)])])), (.d (intD (a.length : Int))), (.d (intD s0))] []) (g_slices_IndexFunc_l_Future_Future__desc_Check_1_L0_x t0 a b0 b1 b2) ?_
  intro s0 rcl ih
  show Says (g_slices_IndexFunc_l_Future_Future_L0 a (fun z0 => g_desc_Check_1 z0 b1 b2) s0) _ (lpW ctx 0 [0, 1, 7, 8] [4] ir79L0 [(.d (D.list t0 (List.map futureD a))), (.d (D.fn 43 [(D.rptr [(intD b0), (intD b1), (intD b2)])])), (.d (intD (a.length : Int))), (.d (intD s0))] [])
  unfold g_slices_IndexFunc_l_Future_Future_L0
  rw [lpW_b]
  conv => arg 3; whnf
  refine sim_br rfl ?_ ?_
  · skip
    conv => arg 3; whnf
    refine sim_get (f := futureD) rfl rfl fun x1 hx1 => ?_
    conv => arg 3; whnf
    refine sim_call g_desc_Check_1_e (g_desc_Check_1_ok x1 b0 b1 b2) rfl fun x2 hx2 => ?_
    conv => arg 3; whnf
    refine sim_br rfl ?_ ?_
    · skip
      conv => arg 3; whnf
      exact sim_ret rfl
    · skip
      conv => arg 3; whnf
      exact sim_again (ih (w64 (s0 + 1)))
  · skip
    conv => arg 3; whnf
    exact sim_ret rfl

set_option maxRecDepth 100000 in
set_option maxHeartbeats 40000000 in
theorem g_slices_IndexFunc_l_Future_Future__desc_Check_1_ok (t0 : Bool) (a : (List FutureT)) (b0 : Int) (b1 : Int) (b2 : Int) : ∀ r, (g_slices_IndexFunc_l_Future_Future a (fun z0 => g_desc_Check_1 z0 b1 b2)) = some r → evD ctx 79 [(.d (D.list t0 (List.map futureD a))), (.d (D.fn 43 [(D.rptr [(intD b0), (intD b1), (intD b2)])]))] = some (g_slices_IndexFunc_l_Future_Future__desc_Check_1_e r) := by
  refine (?_ : Says (g_slices_IndexFunc_l_Future_Future a (fun z0 => g_desc_Check_1 z0 b1 b2)) (fun r rhs => rhs = some (g_slices_IndexFunc_l_Future_Future__desc_Check_1_e r)) (evD ctx 79 [(.d (D.list t0 (List.map futureD a))), (.d (D.fn 43 [(D.rptr [(intD b0), (intD b1), (intD b2)])]))]))
  unfold g_slices_IndexFunc_l_Future_Future
  rw [evD_K ctx 79 fn79 _ rfl rfl]
  conv => arg 3; whnf
  refine sim_let (x' := (a.length : Int)) (len_enc futureD a) ?_
  conv => arg 3; whnf
  refine sim_bind (g_slices_IndexFunc_l_Future_Future__desc_Check_1_L0_x t0 a b0 b1 b2) (g_slices_IndexFunc_l_Future_Future__desc_Check_1_L0_ok t0 a b0 b1 b2 0) fun r3 hr3 => ?_
  clear hr3
  rcases r3 with r3 | r3
  · skip
    conv => arg 3; whnf
    exact sim_ret rfl
  · skip
    conv => arg 3; whnf
    exact sim_ret rfl
def g_slices_ContainsFunc_l_Future_Future__desc_Check_1_e (r : Bool) : D := (D.bool r)

set_option maxRecDepth 100000 in
set_option maxHeartbeats 40000000 in
theorem g_slices_ContainsFunc_l_Future_Future__desc_Check_1_ok (t0 : Bool) (a : (List FutureT)) (b0 : Int) (b1 : Int) (b2 : Int) : ∀ r, (g_slices_ContainsFunc_l_Future_Future a (fun z0 => g_desc_Check_1 z0 b1 b2)) = some r → evD ctx 44 [(.d (D.list t0 (List.map futureD a))), (.d (D.fn 43 [(D.rptr [(intD b0), (intD b1), (intD b2)])]))] = some (g_slices_ContainsFunc_l_Future_Future__desc_Check_1_e r) := by
  refine (?_ : Says (g_slices_ContainsFunc_l_Future_Future a (fun z0 => g_desc_Check_1 z0 b1 b2)) (fun r rhs => rhs = some (g_slices_ContainsFunc_l_Future_Future__desc_Check_1_e r)) (evD ctx 44 [(.d (D.list t0 (List.map futureD a))), (.d (D.fn 43 [(D.rptr [(intD b0), (intD b1), (intD b2)])]))]))
  unfold g_slices_ContainsFunc_l_Future_Future
  rw [evD_K ctx 44 fn44 _ rfl rfl]
  conv => arg 3; whnf
  refine sim_call g_slices_IndexFunc_l_Future_Future__desc_Check_1_e (g_slices_IndexFunc_l_Future_Future__desc_Check_1_ok t0 a b0 b1 b2) rfl fun x0 hx0 => ?_
  conv => arg 3; whnf
  refine sim_br rfl ?_ ?_
  · skip
    conv => arg 3; whnf
    exact sim_ret rfl
  · skip
    conv => arg 3; whnf
    exact sim_ret rfl
def g_desc_row_e (r : Bool) : D := (D.bool r)

def g_desc_row_L0_x (t0 : Bool) (t1 : Bool) (t2 : Bool) (t3 : Bool) (t4 : Bool) (a : DescT) (b : (List Int)) : (Unit ⊕ Unit) → Ex × List V × Heap
  | (.inl r) => (.ret, [(.d (D.list t4 (List.map intD b))), (.d (D.bool false))], [])
  | (.inr r) => (.exit 0, [(.d (D.list t4 (List.map intD b))), .bad], [])

set_option maxRecDepth 100000 in
set_option maxHeartbeats 40000000 in
theorem g_desc_row_L0_ok (t0 : Bool) (t1 : Bool) (t2 : Bool) (t3 : Bool) (t4 : Bool) (a : DescT) (b : (List Int)) : ∀ (s0 : Int) (r : (Unit ⊕ Unit)), lp (g_desc_row_L0 a b) s0 = some r → lpW ctx 0 [1, 2, 7, 8, 9] [1, 4] ir47L0 [(.d (D.list t4 (List.map intD b))), (.ptr 0 0), (.d (D.list t4 (List.map intD b))), (.d (intD (b.length : Int))), (.d (intD s0))] [(.cells [(.d (intD a.period)), (.d (intD a.deadline)), (.d (D.list t0 (List.map partD a.parts))), (.d (D.list t1 (List.map edgeD a.edges))), (.d (D.list t2 (List.map futureD a.futures))), (.d (D.list t3 (List.map barrierD a.barriers)))])] = some ((g_desc_row_L0_x t0 t1 t2 t3 t4 a b) r) := by
  refine lp_ok (G := fun (s0 : Int) => lpW ctx 0 [1, 2, 7, 8, 9] [1, 4] ir47L0 [(.d (D.list t4 (List.map intD b))), (.ptr 0 0), (.d (D.list t4 (List.map intD b))), (.d (intD (b.length : Int))), (.d (intD s0))] [(.cells [(.d (intD a.period)), (.d (intD a.deadline)), (.d (D.list t0 (List.map partD a.parts))), (.d (D.list t1 (List.map edgeD a.edges))), (.d (D.list t2 (List.map futureD a.futures))), (.d (D.list t3 (List.map barrierD a.barriers)))])]) (g_desc_row_L0_x t0 t1 t2 t3 t4 a b) ?_
  intro s0 rcl ih
  show Says (g_desc_row_L0 a b s0) _ (lpW ctx 0 [1, 2, 7, 8, 9] [1, 4] ir47L0 [(.d (D.list t4 (List.map intD b))), (.ptr 0 0), (.d (D.list t4 (List.map intD b))), (.d (intD (b.length : Int))), (.d (intD s0))] [(.cells [(.d (intD a.period)), (.d (intD a.deadline)), (.d (D.list t0 (List.map partD a.parts))), (.d (D.list t1 (List.map edgeD a.edges))), (.d (D.list t2 (List.map futureD a.futures))), (.d (D.list t3 (List.map barrierD a.barriers)))])])
  unfold g_desc_row_L0
  rw [lpW_b]
  conv => arg 3; whnf
  refine sim_br rfl ?_ ?_
  · skip
    conv => arg 3; whnf
    refine sim_get (f := intD) rfl rfl fun x1 hx1 => ?_
    conv => arg 3; whnf
    refine sim_let (x' := (a.parts.length : Int)) (len_enc partD a.parts) ?_
    conv => arg 3; whnf
    refine sim_call g_desc_within_e (g_desc_within_ok x1 0 (w64 ((a.parts.length : Int) - 1))) rfl fun x2 hx2 => ?_
    conv => arg 3; whnf
    refine sim_br rfl ?_ ?_
    · skip
      conv => arg 3; whnf
      refine sim_br rfl ?_ ?_
      · skip
        conv => arg 3; whnf
        refine sim_get (f := intD) rfl rfl fun x3 hx3 => ?_
        conv => arg 3; whnf
        refine sim_br rfl ?_ ?_
        · skip
          conv => arg 3; whnf
          exact sim_ret rfl
        · skip
          conv => arg 3; whnf
          exact sim_again (ih (w64 (s0 + 1)))
      · skip
        conv => arg 3; whnf
        exact sim_again (ih (w64 (s0 + 1)))
    · skip
      conv => arg 3; whnf
      exact sim_ret rfl
  · skip
    conv => arg 3; whnf
    exact sim_ret rfl

set_option maxRecDepth 100000 in
set_option maxHeartbeats 40000000 in
theorem g_desc_row_ok (t0 : Bool) (t1 : Bool) (t2 : Bool) (t3 : Bool) (t4 : Bool) (a : DescT) (b : (List Int)) : ∀ r, (g_desc_row a b) = some r → evD ctx 47 [(.d (D.agg [(intD a.period), (intD a.deadline), (D.list t0 (List.map partD a.parts)), (D.list t1 (List.map edgeD a.edges)), (D.list t2 (List.map futureD a.futures)), (D.list t3 (List.map barrierD a.barriers))])), (.d (D.list t4 (List.map intD b)))] = some (g_desc_row_e r) := by
  refine (?_ : Says (g_desc_row a b) (fun r rhs => rhs = some (g_desc_row_e r)) (evD ctx 47 [(.d (D.agg [(intD a.period), (intD a.deadline), (D.list t0 (List.map partD a.parts)), (D.list t1 (List.map edgeD a.edges)), (D.list t2 (List.map futureD a.futures)), (D.list t3 (List.map barrierD a.barriers))])), (.d (D.list t4 (List.map intD b)))]))
  unfold g_desc_row
  rw [evD_K ctx 47 fn47 _ rfl rfl]
  conv => arg 3; whnf
  refine sim_let (x' := (b.length : Int)) (len_enc intD b) ?_
  conv => arg 3; whnf
  refine sim_bind (g_desc_row_L0_x t0 t1 t2 t3 t4 a b) (g_desc_row_L0_ok t0 t1 t2 t3 t4 a b 0) fun r4 hr4 => ?_
  clear hr4
  rcases r4 with r4 | r4
  · skip
    conv => arg 3; whnf
    exact sim_ret rfl
  · skip
    conv => arg 3; whnf
    refine sim_let (x' := (b.length : Int)) (len_enc intD b) ?_
    conv => arg 3; whnf
    refine sim_br rfl ?_ ?_
    · skip
      conv => arg 3; whnf
      exact sim_ret rfl
    · skip
      conv => arg 3; whnf
      exact sim_ret rfl
def g_slices_Index_l_int_int_e (r : Int) : D := (intD r)

def g_slices_Index_l_int_int_L0_x (t0 : Bool) (a : (List Int)) (b : Int) : (Int ⊕ Unit) → Ex × List V × Heap
  | (.inl r) => (.ret, [(.d (intD r))], [])
  | (.inr r) => (.exit 0, [.bad], [])

set_option maxRecDepth 100000 in
set_option maxHeartbeats 40000000 in
theorem g_slices_Index_l_int_int_L0_ok (t0 : Bool) (a : (List Int)) (b : Int) : ∀ (s0 : Int) (r : (Int ⊕ Unit)), lp (g_slices_Index_l_int_int_L0 a b) s0 = some r → lpW ctx 0 [0, 1, 7, 8] [4] ir80L0 [(.d (D.list t0 (List.map intD a))), (.d (intD b)), (.d (intD (a.length : Int))), (.d (intD s0))] [] = some ((g_slices_Index_l_int_int_L0_x t0 a b) r) := by
  refine lp_ok (G := fun (s0 : Int) => lpW ctx 0 [0, 1, 7, 8] [4] ir80L0 [(.d (D.list t0 (List.map intD a))), (.d (intD b)), (.d (intD (a.length : Int))), (.d (intD s0))] []) (g_slices_Index_l_int_int_L0_x t0 a b) ?_
  intro s0 rcl ih
  show Says (g_slices_Index_l_int_int_L0 a b s0) _ (lpW ctx 0 [0, 1, 7, 8] [4] ir80L0 [(.d (D.list t0 (List.map intD a))), (.d (intD b)), (.d (intD (a.length : Int))), (.d (intD s0))] [])
  unfold g_slices_Index_l_int_int_L0
  rw [lpW_b]
  conv => arg 3; whnf
  refine sim_br rfl ?_ ?_
  · skip
    conv => arg 3; whnf
    refine sim_get (f := intD) rfl rfl fun x1 hx1 => ?_
    conv => arg 3; whnf
    refine sim_br rfl ?_ ?_
    · skip
      conv => arg 3; whnf
      exact sim_ret rfl
    · skip
      conv => arg 3; whnf
      exact sim_again (ih (w64 (s0 + 1)))
  · skip
    conv => arg 3; whnf
    exact sim_ret rfl

set_option maxRecDepth 100000 in
set_option maxHeartbeats 40000000 in
theorem g_slices_Index_l_int_int_ok (t0 : Bool) (a : (List Int)) (b : Int) : ∀ r, (g_slices_Index_l_int_int a b) = some r → evD ctx 80 [(.d (D.list t0 (List.map intD a))), (.d (intD b))] = some (g_slices_Index_l_int_int_e r) := by
  refine (?_ : Says (g_slices_Index_l_int_int a b) (fun r rhs => rhs = some (g_slices_Index_l_int_int_e r)) (evD ctx 80 [(.d (D.list t0 (List.map intD a))), (.d (intD b))]))
  unfold g_slices_Index_l_int_int
  rw [evD_K ctx 80 fn80 _ rfl rfl]
  conv => arg 3; whnf
  refine sim_let (x' := (a.length : Int)) (len_enc intD a) ?_
  conv => arg 3; whnf
  refine sim_bind (g_slices_Index_l_int_int_L0_x t0 a b) (g_slices_Index_l_int_int_L0_ok t0 a b 0) fun r2 hr2 => ?_
  clear hr2
  rcases r2 with r2 | r2
  · skip
    conv => arg 3; whnf
    exact sim_ret rfl
  · skip
    conv => arg 3; whnf
    exact sim_ret rfl
def g_slices_Contains_l_int_int_e (r : Bool) : D := (D.bool r)

set_option maxRecDepth 100000 in
set_option maxHeartbeats 40000000 in
theorem g_slices_Contains_l_int_int_ok (t0 : Bool) (a : (List Int)) (b : Int) : ∀ r, (g_slices_Contains_l_int_int a b) = some r → evD ctx 46 [(.d (D.list t0 (List.map intD a))), (.d (intD b))] = some (g_slices_Contains_l_int_int_e r) := by
  refine (?_ : Says (g_slices_Contains_l_int_int a b) (fun r rhs => rhs = some (g_slices_Contains_l_int_int_e r)) (evD ctx 46 [(.d (D.list t0 (List.map intD a))), (.d (intD b))]))
  unfold g_slices_Contains_l_int_int
  rw [evD_K ctx 46 fn46 _ rfl rfl]
  conv => arg 3; whnf
  refine sim_call g_slices_Index_l_int_int_e (g_slices_Index_l_int_int_ok t0 a b) rfl fun x0 hx0 => ?_
  conv => arg 3; whnf
  refine sim_br rfl ?_ ?_
  · skip
    conv => arg 3; whnf
    exact sim_ret rfl
  · skip
    conv => arg 3; whnf
    exact sim_ret rfl
def g_desc_Check_2_e (r : Bool) : D := (D.bool r)

set_option maxRecDepth 100000 in
set_option maxHeartbeats 40000000 in
theorem g_desc_Check_2_ok (t0 : Bool) (t1 : Bool) (a : Int) (b0 : (List Int)) (b1 : (List Int)) : ∀ r, (g_desc_Check_2 a b1) = some r → evD ctx 45 [(.d (intD a)), (.d (D.rptr [(D.list t0 (List.map intD b0)), (D.list t1 (List.map intD b1))]))] = some (g_desc_Check_2_e r) := by
  refine (?_ : Says (g_desc_Check_2 a b1) (fun r rhs => rhs = some (g_desc_Check_2_e r)) (evD ctx 45 [(.d (intD a)), (.d (D.rptr [(D.list t0 (List.map intD b0)), (D.list t1 (List.map intD b1))]))]))
  unfold g_desc_Check_2
  rw [evD_K ctx 45 fn45 _ rfl rfl]
  conv => arg 3; whnf
  refine sim_call g_slices_Contains_l_int_int_e (g_slices_Contains_l_int_int_ok t1 b1 a) rfl fun x0 hx0 => ?_
  conv => arg 3; whnf
  refine sim_br rfl ?_ ?_
  · skip
    conv => arg 3; whnf
    exact sim_ret rfl
  · skip
    conv => arg 3; whnf
    exact sim_ret rfl
def g_slices_IndexFunc_l_int_int__desc_Check_2_e (r : Int) : D := (intD r)

def g_slices_IndexFunc_l_int_int__desc_Check_2_L0_x (t0 : Bool) (t1 : Bool) (t2 : Bool) (a : (List Int)) (b0 : (List Int)) (b1 : (List Int)) : (Int ⊕ Unit) → Ex × List V × Heap
  | (.inl r) => (.ret, [(.d (intD r))], [])
  | (.inr r) => (.exit 0, [.bad], [])

set_option maxRecDepth 100000 in
set_option maxHeartbeats 40000000 in
theorem g_slices_IndexFunc_l_int_int__desc_Check_2_L0_ok (t0 : Bool) (t1 : Bool) (t2 : Bool) (a : (List Int)) (b0 : (List Int)) (b1 : (List Int)) : ∀ (s0 : Int) (r : (Int ⊕ Unit)), lp (g_slices_IndexFunc_l_int_int_L0 a (fun z0 => g_desc_Check_2 z0 b1)) s0 = some r → lpW ctx 0 [0, 1, 7, 8] [4] ir81L0 [(.d (D.list t0 (List.map intD a))), (.d (D.fn 45 [(D.rptr [(D.list t1 (List.map intD b0)), (D.list t2 (List.map intD b1))])])), (.d (intD (a.length : Int))), (.d (intD s0))] [] = some ((g_slices_IndexFunc_l_int_int__desc_Check_2_L0_x t0 t1 t2 a b0 b1) r) := by
  refine lp_ok (G := fun (s0 : Int) => lpW ctx 0 [0, 1, 7, 8] [4] ir81L0 [(.d (D.list t0 (List.map intD a))), (.d (D.fn 45 [(D.rptr [(D.list t1 (List.map intD b0)), (D.list t2 (List.map intD b1))])])), (.d (intD (a.length : Int))), (.d (intD s0))] []) (g_slices_IndexFunc_l_int_int__desc_Check_2_L0_x t0 t1 t2 a b0 b1) ?_
  intro s0 rcl ih
  show Says (g_slices_IndexFunc_l_int_int_L0 a (fun z0 => g_desc_Check_2 z0 b1) s0) _ (lpW ctx 0 [0, 1, 7, 8] [4] ir81L0 [(.d (D.list t0 (List.map intD a))), (.d (D.fn 45 [(D.rptr [(D.list t1 (List.map intD b0)), (D.list t2 (List.map intD b1))])])), (.d (intD (a.length : Int))), (.d (intD s0))] [])
  unfold g_slices_IndexFunc_l_int_int_L0
  rw [lpW_b]
  conv => arg 3; whnf
  refine sim_br rfl ?_ ?_
  · skip
    conv => arg 3; whnf
    refine sim_get (f := intD) rfl rfl fun x1 hx1 => ?_
    conv => arg 3; whnf
    refine sim_call g_desc_Check_2_e (g_desc_Check_2_ok t1 t2 x1 b0 b1) rfl fun x2 hx2 => ?_
    conv => arg 3; whnf
    refine sim_br rfl ?_ ?_
    · skip
      conv => arg 3; whnf
      exact sim_ret rfl
    · skip
      conv => arg 3; whnf
      exact sim_again (ih (w64 (s0 + 1)))
  · skip
    conv => arg 3; whnf
    exact sim_ret rfl

set_option maxRecDepth 100000 in
set_option maxHeartbeats 40000000 in
theorem g_slices_IndexFunc_l_int_int__desc_Check_2_ok (t0 : Bool) (t1 : Bool) (t2 : Bool) (a : (List Int)) (b0 : (List Int)) (b1 : (List Int)) : ∀ r, (g_slices_IndexFunc_l_int_int a (fun z0 => g_desc_Check_2 z0 b1)) = some r → evD ctx 81 [(.d (D.list t0 (List.map intD a))), (.d (D.fn 45 [(D.rptr [(D.list t1 (List.map intD b0)), (D.list t2 (List.map intD b1))])]))] = some (g_slices_IndexFunc_l_int_int__desc_Check_2_e r) := by
  refine (?_ : Says (g_slices_IndexFunc_l_int_int a (fun z0 => g_desc_Check_2 z0 b1)) (fun r rhs => rhs = some (g_slices_IndexFunc_l_int_int__desc_Check_2_e r)) (evD ctx 81 [(.d (D.list t0 (List.map intD a))), (.d (D.fn 45 [(D.rptr [(D.list t1 (List.map intD b0)), (D.list t2 (List.map intD b1))])]))]))
  unfold g_slices_IndexFunc_l_int_int
  rw [evD_K ctx 81 fn81 _ rfl rfl]
  conv => arg 3; whnf
  refine sim_let (x' := (a.length : Int)) (len_enc intD a) ?_
  conv => arg 3; whnf
  refine sim_bind (g_slices_IndexFunc_l_int_int__desc_Check_2_L0_x t0 t1 t2 a b0 b1) (g_slices_IndexFunc_l_int_int__desc_Check_2_L0_ok t0 t1 t2 a b0 b1 0) fun r3 hr3 => ?_
  clear hr3
  rcases r3 with r3 | r3
  · skip
    conv => arg 3; whnf
    exact sim_ret rfl
  · skip
    conv => arg 3; whnf
    exact sim_ret rfl
def g_slices_ContainsFunc_l_int_int__desc_Check_2_e (r : Bool) : D := (D.bool r)

set_option maxRecDepth 100000 in
set_option maxHeartbeats 40000000 in
theorem g_slices_ContainsFunc_l_int_int__desc_Check_2_ok (t0 : Bool) (t1 : Bool) (t2 : Bool) (a : (List Int)) (b0 : (List Int)) (b1 : (List Int)) : ∀ r, (g_slices_ContainsFunc_l_int_int a (fun z0 => g_desc_Check_2 z0 b1)) = some r → evD ctx 48 [(.d (D.list t0 (List.map intD a))), (.d (D.fn 45 [(D.rptr [(D.list t1 (List.map intD b0)), (D.list t2 (List.map intD b1))])]))] = some (g_slices_ContainsFunc_l_int_int__desc_Check_2_e r) := by
  refine (?_ : Says (g_slices_ContainsFunc_l_int_int a (fun z0 => g_desc_Check_2 z0 b1)) (fun r rhs => rhs = some (g_slices_ContainsFunc_l_int_int__desc_Check_2_e r)) (evD ctx 48 [(.d (D.list t0 (List.map intD a))), (.d (D.fn 45 [(D.rptr [(D.list t1 (List.map intD b0)), (D.list t2 (List.map intD b1))])]))]))
  unfold g_slices_ContainsFunc_l_int_int
  rw [evD_K ctx 48 fn48 _ rfl rfl]
  conv => arg 3; whnf
  refine sim_call g_slices_IndexFunc_l_int_int__desc_Check_2_e (g_slices_IndexFunc_l_int_int__desc_Check_2_ok t0 t1 t2 a b0 b1) rfl fun x0 hx0 => ?_
  conv => arg 3; whnf
  refine sim_br rfl ?_ ?_
  · skip
    conv => arg 3; whnf
    exact sim_ret rfl
  · skip
    conv => arg 3; whnf
    exact sim_ret rfl
def g_desc_Check_e (r : Int) : D := (intD r)

def g_desc_Check_L0_x (t0 : Bool) (t1 : Bool) (t2 : Bool) (t3 : Bool) (a : DescT) : (Unit ⊕ Unit) → Ex × List V × Heap
  | (.inl r) => (.ret, [(.ptr 0 0), (.d (intD 53))], [(.cells [(.d (intD a.period)), (.d (intD a.deadline)), (.d (D.list t0 (List.map partD a.parts))), (.d (D.list t1 (List.map edgeD a.edges))), (.d (D.list t2 (List.map futureD a.futures))), (.d (D.list t3 (List.map barrierD a.barriers)))])])
  | (.inr r) => (.exit 0, [(.ptr 0 0), .bad], [(.cells [(.d (intD a.period)), (.d (intD a.deadline)), (.d (D.list t0 (List.map partD a.parts))), (.d (D.list t1 (List.map edgeD a.edges))), (.d (D.list t2 (List.map futureD a.futures))), (.d (D.list t3 (List.map barrierD a.barriers)))])])

set_option maxRecDepth 100000 in
set_option maxHeartbeats 40000000 in
theorem g_desc_Check_L0_ok (t0 : Bool) (t1 : Bool) (t2 : Bool) (t3 : Bool) (a : DescT) : ∀ (s4 : Int) (r : (Unit ⊕ Unit)), lp (g_desc_Check_L0 a) s4 = some r → lpW ctx 0 [1, 61, 62, 63] [1, 2] ir17L0 [(.ptr 0 0), (.d (D.list t1 (List.map edgeD a.edges))), (.d (intD (a.edges.length : Int))), (.d (intD s4))] [(.cells [(.d (intD a.period)), (.d (intD a.deadline)), (.d (D.list t0 (List.map partD a.parts))), (.d (D.list t1 (List.map edgeD a.edges))), (.d (D.list t2 (List.map futureD a.futures))), (.d (D.list t3 (List.map barrierD a.barriers)))])] = some ((g_desc_Check_L0_x t0 t1 t2 t3 a) r) := by
  refine lp_ok (G := fun (s4 : Int) => lpW ctx 0 [1, 61, 62, 63] [1, 2] ir17L0 [(.ptr 0 0), (.d (D.list t1 (List.map edgeD a.edges))), (.d (intD (a.edges.length : Int))), (.d (intD s4))] [(.cells [(.d (intD a.period)), (.d (intD a.deadline)), (.d (D.list t0 (List.map partD a.parts))), (.d (D.list t1 (List.map edgeD a.edges))), (.d (D.list t2 (List.map futureD a.futures))), (.d (D.list t3 (List.map barrierD a.barriers)))])]) (g_desc_Check_L0_x t0 t1 t2 t3 a) ?_
  intro s4 rcl ih
  show Says (g_desc_Check_L0 a s4) _ (lpW ctx 0 [1, 61, 62, 63] [1, 2] ir17L0 [(.ptr 0 0), (.d (D.list t1 (List.map edgeD a.edges))), (.d (intD (a.edges.length : Int))), (.d (intD s4))] [(.cells [(.d (intD a.period)), (.d (intD a.deadline)), (.d (D.list t0 (List.map partD a.parts))), (.d (D.list t1 (List.map edgeD a.edges))), (.d (D.list t2 (List.map futureD a.futures))), (.d (D.list t3 (List.map barrierD a.barriers)))])])
  unfold g_desc_Check_L0
  rw [lpW_b]
  conv => arg 3; whnf
  refine sim_br rfl ?_ ?_
  · skip
    conv => arg 3; whnf
    refine sim_get (f := edgeD) rfl rfl fun x5 hx5 => ?_
    conv => arg 3; whnf
    refine sim_call g_desc_two_e (g_desc_two_ok t0 t1 t2 t3 a x5.src x5.dst) rfl fun x6 hx6 => ?_
    conv => arg 3; whnf
    refine sim_br rfl ?_ ?_
    · skip
      conv => arg 3; whnf
      refine sim_br rfl ?_ ?_
      · skip
        conv => arg 3; whnf
        refine sim_br (sl_c0 edgeD a.edges s4.toNat) ?_ ?_
        · skip
          conv => arg 3; whnf
          refine sim_t rfl ?_
          conv => arg 3; whnf
          refine sim_let (sl_enc0 edgeD a.edges s4.toNat) ?_
          conv => arg 3; whnf
          refine sim_call g_slices_Contains_l_Edge_Edge_e (g_slices_Contains_l_Edge_Edge_ok t1 (List.take s4.toNat a.edges) x5) rfl fun x7 hx7 => ?_
          conv => arg 3; whnf
          refine sim_br rfl ?_ ?_
          · skip
            conv => arg 3; whnf
            exact sim_ret rfl
          · skip
            conv => arg 3; whnf
            exact sim_again (ih (w64 (s4 + 1)))
        · skip
          exact sim_none
      · skip
        exact sim_none
    · skip
      conv => arg 3; whnf
      exact sim_ret rfl
  · skip
    conv => arg 3; whnf
    exact sim_ret rfl

def g_desc_Check_L1_x (t0 : Bool) (t1 : Bool) (t2 : Bool) (t3 : Bool) (a : DescT) : (Unit ⊕ Unit) → Ex × List V × Heap
  | (.inl r) => (.ret, [(.ptr 0 0), (.d (intD 54))], [(.cells [(.d (intD a.period)), (.d (intD a.deadline)), (.d (D.list t0 (List.map partD a.parts))), (.d (D.list t1 (List.map edgeD a.edges))), (.d (D.list t2 (List.map futureD a.futures))), (.d (D.list t3 (List.map barrierD a.barriers)))])])
  | (.inr r) => (.exit 2, [(.ptr 0 0), .bad], [(.cells [(.d (intD a.period)), (.d (intD a.deadline)), (.d (D.list t0 (List.map partD a.parts))), (.d (D.list t1 (List.map edgeD a.edges))), (.d (D.list t2 (List.map futureD a.futures))), (.d (D.list t3 (List.map barrierD a.barriers)))])])

set_option maxRecDepth 100000 in
set_option maxHeartbeats 40000000 in
theorem g_desc_Check_L1_ok (t0 : Bool) (t1 : Bool) (t2 : Bool) (t3 : Bool) (a : DescT) : ∀ (s9 : Int) (r : (Unit ⊕ Unit)), lp (g_desc_Check_L1 a) s9 = some r → lpW ctx 0 [1, 85, 86, 87] [1, 2] ir17L1 [(.ptr 0 0), (.d (D.list t2 (List.map futureD a.futures))), (.d (intD (a.futures.length : Int))), (.d (intD s9))] [(.cells [(.d (intD a.period)), (.d (intD a.deadline)), (.d (D.list t0 (List.map partD a.parts))), (.d (D.list t1 (List.map edgeD a.edges))), (.d (D.list t2 (List.map futureD a.futures))), (.d (D.list t3 (List.map barrierD a.barriers)))])] = some ((g_desc_Check_L1_x t0 t1 t2 t3 a) r) := by
  refine lp_ok (G := fun (s9 : Int) => lpW ctx 0 [1, 85, 86, 87] [1, 2] ir17L1 [(.ptr 0 0), (.d (D.list t2 (List.map futureD a.futures))), (.d (intD (a.futures.length : Int))), (.d (intD s9))] [(.cells [(.d (intD a.period)), (.d (intD a.deadline)), (.d (D.list t0 (List.map partD a.parts))), (.d (D.list t1 (List.map edgeD a.edges))), (.d (D.list t2 (List.map futureD a.futures))), (.d (D.list t3 (List.map barrierD a.barriers)))])]) (g_desc_Check_L1_x t0 t1 t2 t3 a) ?_
  intro s9 rcl ih
  show Says (g_desc_Check_L1 a s9) _ (lpW ctx 0 [1, 85, 86, 87] [1, 2] ir17L1 [(.ptr 0 0), (.d (D.list t2 (List.map futureD a.futures))), (.d (intD (a.futures.length : Int))), (.d (intD s9))] [(.cells [(.d (intD a.period)), (.d (intD a.deadline)), (.d (D.list t0 (List.map partD a.parts))), (.d (D.list t1 (List.map edgeD a.edges))), (.d (D.list t2 (List.map futureD a.futures))), (.d (D.list t3 (List.map barrierD a.barriers)))])])
  unfold g_desc_Check_L1
  rw [lpW_b]
  conv => arg 3; whnf
  refine sim_br rfl ?_ ?_
  · skip
    conv => arg 3; whnf
    refine sim_get (f := futureD) rfl rfl fun x10 hx10 => ?_
    conv => arg 3; whnf
    refine sim_call g_desc_two_e (g_desc_two_ok t0 t1 t2 t3 a x10.maker x10.user) rfl fun x11 hx11 => ?_
    conv => arg 3; whnf
    refine sim_br rfl ?_ ?_
    · skip
      conv => arg 3; whnf
      refine sim_get (f := partD) rfl rfl fun x12 hx12 => ?_
      conv => arg 3; whnf
      refine sim_call g_desc_within_e (g_desc_within_ok x10.pos 1 (w64 (x12.work - 1))) rfl fun x13 hx13 => ?_
      conv => arg 3; whnf
      refine sim_br rfl ?_ ?_
      · skip
        conv => arg 3; whnf
        refine sim_br rfl ?_ ?_
        · skip
          conv => arg 3; whnf
          refine sim_br (sl_c0 futureD a.futures s9.toNat) ?_ ?_
          · skip
            conv => arg 3; whnf
            refine sim_t rfl ?_
            conv => arg 3; whnf
            refine sim_let (sl_enc0 futureD a.futures s9.toNat) ?_
            conv => arg 3; whnf
            refine sim_call g_slices_ContainsFunc_l_Future_Future__desc_Check_1_e (g_slices_ContainsFunc_l_Future_Future__desc_Check_1_ok t2 (List.take s9.toNat a.futures) x10.maker x10.user x10.pos) rfl fun x14 hx14 => ?_
            conv => arg 3; whnf
            refine sim_br rfl ?_ ?_
            · skip
              conv => arg 3; whnf
              exact sim_ret rfl
            · skip
              conv => arg 3; whnf
              exact sim_again (ih (w64 (s9 + 1)))
          · skip
            exact sim_none
        · skip
          exact sim_none
      · skip
        conv => arg 3; whnf
        exact sim_ret rfl
    · skip
      conv => arg 3; whnf
      exact sim_ret rfl
  · skip
    conv => arg 3; whnf
    exact sim_ret rfl

def g_desc_Check_L2_x (t0 : Bool) (t1 : Bool) (t2 : Bool) (t3 : Bool) (a : DescT) : (Unit ⊕ Unit) → Ex × List V × Heap
  | (.inl r) => (.ret, [(.d (intD 55))], [])
  | (.inr r) => (.exit 4, [.bad], [])

set_option maxRecDepth 100000 in
set_option maxHeartbeats 40000000 in
theorem g_desc_Check_L2_ok (t0 : Bool) (t1 : Bool) (t2 : Bool) (t3 : Bool) (a : DescT) : ∀ (s16 : Int) (r : (Unit ⊕ Unit)), lp (g_desc_Check_L2 a) s16 = some r → lpW ctx 0 [1, 124, 125, 126] [2] ir17L2 [(.ptr 0 0), (.d (D.list t3 (List.map barrierD a.barriers))), (.d (intD (a.barriers.length : Int))), (.d (intD s16))] [(.cells [(.d (intD a.period)), (.d (intD a.deadline)), (.d (D.list t0 (List.map partD a.parts))), (.d (D.list t1 (List.map edgeD a.edges))), (.d (D.list t2 (List.map futureD a.futures))), (.d (D.list t3 (List.map barrierD a.barriers)))])] = some ((g_desc_Check_L2_x t0 t1 t2 t3 a) r) := by
  refine lp_ok (G := fun (s16 : Int) => lpW ctx 0 [1, 124, 125, 126] [2] ir17L2 [(.ptr 0 0), (.d (D.list t3 (List.map barrierD a.barriers))), (.d (intD (a.barriers.length : Int))), (.d (intD s16))] [(.cells [(.d (intD a.period)), (.d (intD a.deadline)), (.d (D.list t0 (List.map partD a.parts))), (.d (D.list t1 (List.map edgeD a.edges))), (.d (D.list t2 (List.map futureD a.futures))), (.d (D.list t3 (List.map barrierD a.barriers)))])]) (g_desc_Check_L2_x t0 t1 t2 t3 a) ?_
  intro s16 rcl ih
  show Says (g_desc_Check_L2 a s16) _ (lpW ctx 0 [1, 124, 125, 126] [2] ir17L2 [(.ptr 0 0), (.d (D.list t3 (List.map barrierD a.barriers))), (.d (intD (a.barriers.length : Int))), (.d (intD s16))] [(.cells [(.d (intD a.period)), (.d (intD a.deadline)), (.d (D.list t0 (List.map partD a.parts))), (.d (D.list t1 (List.map edgeD a.edges))), (.d (D.list t2 (List.map futureD a.futures))), (.d (D.list t3 (List.map barrierD a.barriers)))])])
  unfold g_desc_Check_L2
  rw [lpW_b]
  conv => arg 3; whnf
  refine sim_br rfl ?_ ?_
  · skip
    conv => arg 3; whnf
    refine sim_get (f := barrierD) rfl rfl fun x17 hx17 => ?_
    conv => arg 3; whnf
    refine sim_call g_desc_row_e (g_desc_row_ok t0 t1 t2 t3 true a x17.ins) rfl fun x18 hx18 => ?_
    conv => arg 3; whnf
    refine sim_br rfl ?_ ?_
    · skip
      conv => arg 3; whnf
      refine sim_call g_desc_row_e (g_desc_row_ok t0 t1 t2 t3 true a x17.outs) rfl fun x19 hx19 => ?_
      conv => arg 3; whnf
      refine sim_br rfl ?_ ?_
      · skip
        conv => arg 3; whnf
        refine sim_call g_slices_ContainsFunc_l_int_int__desc_Check_2_e (g_slices_ContainsFunc_l_int_int__desc_Check_2_ok true true true x17.ins x17.ins x17.outs) rfl fun x20 hx20 => ?_
        conv => arg 3; whnf
        refine sim_br rfl ?_ ?_
        · skip
          conv => arg 3; whnf
          exact sim_ret rfl
        · skip
          conv => arg 3; whnf
          exact sim_again (ih (w64 (s16 + 1)))
      · skip
        conv => arg 3; whnf
        exact sim_ret rfl
    · skip
      conv => arg 3; whnf
      exact sim_ret rfl
  · skip
    conv => arg 3; whnf
    exact sim_ret rfl

set_option maxRecDepth 100000 in
set_option maxHeartbeats 40000000 in
theorem g_desc_Check_ok (t0 : Bool) (t1 : Bool) (t2 : Bool) (t3 : Bool) (a : DescT) : ∀ r, (g_desc_Check a) = some r → evD ctx 17 [(.d (D.agg [(intD a.period), (intD a.deadline), (D.list t0 (List.map partD a.parts)), (D.list t1 (List.map edgeD a.edges)), (D.list t2 (List.map futureD a.futures)), (D.list t3 (List.map barrierD a.barriers))]))] = some (g_desc_Check_e r) := by
  refine (?_ : Says (g_desc_Check a) (fun r rhs => rhs = some (g_desc_Check_e r)) (evD ctx 17 [(.d (D.agg [(intD a.period), (intD a.deadline), (D.list t0 (List.map partD a.parts)), (D.list t1 (List.map edgeD a.edges)), (D.list t2 (List.map futureD a.futures)), (D.list t3 (List.map barrierD a.barriers))]))]))
  unfold g_desc_Check
  rw [evD_K ctx 17 fn17 _ rfl rfl]
  conv => arg 3; whnf
  refine sim_let (x' := (a.parts.length : Int)) (len_enc partD a.parts) ?_
  conv => arg 3; whnf
  refine sim_call g_desc_within_e (g_desc_within_ok (a.parts.length : Int) 1 16) rfl fun x0 hx0 => ?_
  conv => arg 3; whnf
  refine sim_br rfl ?_ ?_
  · skip
    conv => arg 3; whnf
    refine sim_let (x' := (a.edges.length : Int)) (len_enc edgeD a.edges) ?_
    conv => arg 3; whnf
    refine sim_br rfl ?_ ?_
    · skip
      conv => arg 3; whnf
      exact sim_ret rfl
    · skip
      conv => arg 3; whnf
      refine sim_let (x' := (a.futures.length : Int)) (len_enc futureD a.futures) ?_
      conv => arg 3; whnf
      refine sim_br rfl ?_ ?_
      · skip
        conv => arg 3; whnf
        exact sim_ret rfl
      · skip
        conv => arg 3; whnf
        refine sim_let (x' := (a.barriers.length : Int)) (len_enc barrierD a.barriers) ?_
        conv => arg 3; whnf
        refine sim_br rfl ?_ ?_
        · skip
          conv => arg 3; whnf
          exact sim_ret rfl
        · skip
          conv => arg 3; whnf
          refine sim_call g_num_Two_e (g_num_Two_ok a.period) rfl fun x1 hx1 => ?_
          conv => arg 3; whnf
          refine sim_br rfl ?_ ?_
          · skip
            conv => arg 3; whnf
            refine sim_br rfl ?_ ?_
            · skip
              conv => arg 3; whnf
              exact sim_ret rfl
            · skip
              conv => arg 3; whnf
              refine sim_call g_desc_within_e (g_desc_within_ok a.deadline 1 a.period) rfl fun x2 hx2 => ?_
              conv => arg 3; whnf
              refine sim_br rfl ?_ ?_
              · skip
                conv => arg 3; whnf
                refine sim_call g_slices_ContainsFunc_l_Part_Part__desc_part_e (g_slices_ContainsFunc_l_Part_Part__desc_part_ok t0 a.parts) rfl fun x3 hx3 => ?_
                conv => arg 3; whnf
                refine sim_br rfl ?_ ?_
                · skip
                  conv => arg 3; whnf
                  exact sim_ret rfl
                · skip
                  conv => arg 3; whnf
                  refine sim_let (x' := (a.edges.length : Int)) (len_enc edgeD a.edges) ?_
                  conv => arg 3; whnf
                  refine sim_bind (g_desc_Check_L0_x t0 t1 t2 t3 a) (g_desc_Check_L0_ok t0 t1 t2 t3 a 0) fun r8 hr8 => ?_
                  clear hr8
                  rcases r8 with r8 | r8
                  · skip
                    conv => arg 3; whnf
                    exact sim_ret rfl
                  · skip
                    conv => arg 3; whnf
                    refine sim_let (x' := (a.futures.length : Int)) (len_enc futureD a.futures) ?_
                    conv => arg 3; whnf
                    refine sim_bind (g_desc_Check_L1_x t0 t1 t2 t3 a) (g_desc_Check_L1_ok t0 t1 t2 t3 a 0) fun r15 hr15 => ?_
                    clear hr15
                    rcases r15 with r15 | r15
                    · skip
                      conv => arg 3; whnf
                      exact sim_ret rfl
                    · skip
                      conv => arg 3; whnf
                      refine sim_let (x' := (a.barriers.length : Int)) (len_enc barrierD a.barriers) ?_
                      conv => arg 3; whnf
                      refine sim_bind (g_desc_Check_L2_x t0 t1 t2 t3 a) (g_desc_Check_L2_ok t0 t1 t2 t3 a 0) fun r21 hr21 => ?_
                      clear hr21
                      rcases r21 with r21 | r21
                      · skip
                        conv => arg 3; whnf
                        exact sim_ret rfl
                      · skip
                        conv => arg 3; whnf
                        exact sim_ret rfl
              · skip
                conv => arg 3; whnf
                exact sim_ret rfl
          · skip
            conv => arg 3; whnf
            exact sim_ret rfl
  · skip
    conv => arg 3; whnf
    exact sim_ret rfl
def g_slices_Equal_l_Part_Part_e (r : Bool) : D := (D.bool r)

def g_slices_Equal_l_Part_Part_L0_x (t0 : Bool) (t1 : Bool) (a : (List PartT)) (b : (List PartT)) : (Unit ⊕ Unit) → Ex × List V × Heap
  | (.inl r) => (.ret, [(.d (D.bool false))], [])
  | (.inr r) => (.exit 0, [.bad], [])

set_option maxRecDepth 100000 in
set_option maxHeartbeats 40000000 in
theorem g_slices_Equal_l_Part_Part_L0_ok (t0 : Bool) (t1 : Bool) (a : (List PartT)) (b : (List PartT)) : ∀ (s0 : Int) (r : (Unit ⊕ Unit)), lp (g_slices_Equal_l_Part_Part_L0 a b) s0 = some r → lpW ctx 0 [0, 1, 12, 13] [4] ir56L0 [(.d (D.list t0 (List.map partD a))), (.d (D.list t1 (List.map partD b))), (.d (intD (a.length : Int))), (.d (intD s0))] [] = some ((g_slices_Equal_l_Part_Part_L0_x t0 t1 a b) r) := by
  refine lp_ok (G := fun (s0 : Int) => lpW ctx 0 [0, 1, 12, 13] [4] ir56L0 [(.d (D.list t0 (List.map partD a))), (.d (D.list t1 (List.map partD b))), (.d (intD (a.length : Int))), (.d (intD s0))] []) (g_slices_Equal_l_Part_Part_L0_x t0 t1 a b) ?_
  intro s0 rcl ih
  show Says (g_slices_Equal_l_Part_Part_L0 a b s0) _ (lpW ctx 0 [0, 1, 12, 13] [4] ir56L0 [(.d (D.list t0 (List.map partD a))), (.d (D.list t1 (List.map partD b))), (.d (intD (a.length : Int))), (.d (intD s0))] [])
  unfold g_slices_Equal_l_Part_Part_L0
  rw [lpW_b]
  conv => arg 3; whnf
  refine sim_br rfl ?_ ?_
  · skip
    conv => arg 3; whnf
    refine sim_get (f := partD) rfl rfl fun x1 hx1 => ?_
    conv => arg 3; whnf
    refine sim_get (f := partD) rfl rfl fun x2 hx2 => ?_
    conv => arg 3; whnf
    refine sim_br rfl ?_ ?_
    · skip
      conv => arg 3; whnf
      exact sim_ret rfl
    · skip
      conv => arg 3; whnf
      exact sim_again (ih (w64 (s0 + 1)))
  · skip
    conv => arg 3; whnf
    exact sim_ret rfl

set_option maxRecDepth 100000 in
set_option maxHeartbeats 40000000 in
theorem g_slices_Equal_l_Part_Part_ok (t0 : Bool) (t1 : Bool) (a : (List PartT)) (b : (List PartT)) : ∀ r, (g_slices_Equal_l_Part_Part a b) = some r → evD ctx 56 [(.d (D.list t0 (List.map partD a))), (.d (D.list t1 (List.map partD b)))] = some (g_slices_Equal_l_Part_Part_e r) := by
  refine (?_ : Says (g_slices_Equal_l_Part_Part a b) (fun r rhs => rhs = some (g_slices_Equal_l_Part_Part_e r)) (evD ctx 56 [(.d (D.list t0 (List.map partD a))), (.d (D.list t1 (List.map partD b)))]))
  unfold g_slices_Equal_l_Part_Part
  rw [evD_K ctx 56 fn56 _ rfl rfl]
  conv => arg 3; whnf
  refine sim_let (x' := (a.length : Int)) (len_enc partD a) ?_
  conv => arg 3; whnf
  refine sim_let (x' := (b.length : Int)) (len_enc partD b) ?_
  conv => arg 3; whnf
  refine sim_br rfl ?_ ?_
  · skip
    conv => arg 3; whnf
    exact sim_ret rfl
  · skip
    conv => arg 3; whnf
    refine sim_let (x' := (a.length : Int)) (len_enc partD a) ?_
    conv => arg 3; whnf
    refine sim_bind (g_slices_Equal_l_Part_Part_L0_x t0 t1 a b) (g_slices_Equal_l_Part_Part_L0_ok t0 t1 a b 0) fun r3 hr3 => ?_
    clear hr3
    rcases r3 with r3 | r3
    · skip
      conv => arg 3; whnf
      exact sim_ret rfl
    · skip
      conv => arg 3; whnf
      exact sim_ret rfl
def g_slices_Equal_l_Edge_Edge_e (r : Bool) : D := (D.bool r)

def g_slices_Equal_l_Edge_Edge_L0_x (t0 : Bool) (t1 : Bool) (a : (List EdgeT)) (b : (List EdgeT)) : (Unit ⊕ Unit) → Ex × List V × Heap
  | (.inl r) => (.ret, [(.d (D.bool false))], [])
  | (.inr r) => (.exit 0, [.bad], [])

set_option maxRecDepth 100000 in
set_option maxHeartbeats 40000000 in
theorem g_slices_Equal_l_Edge_Edge_L0_ok (t0 : Bool) (t1 : Bool) (a : (List EdgeT)) (b : (List EdgeT)) : ∀ (s0 : Int) (r : (Unit ⊕ Unit)), lp (g_slices_Equal_l_Edge_Edge_L0 a b) s0 = some r → lpW ctx 0 [0, 1, 12, 13] [4] ir57L0 [(.d (D.list t0 (List.map edgeD a))), (.d (D.list t1 (List.map edgeD b))), (.d (intD (a.length : Int))), (.d (intD s0))] [] = some ((g_slices_Equal_l_Edge_Edge_L0_x t0 t1 a b) r) := by
  refine lp_ok (G := fun (s0 : Int) => lpW ctx 0 [0, 1, 12, 13] [4] ir57L0 [(.d (D.list t0 (List.map edgeD a))), (.d (D.list t1 (List.map edgeD b))), (.d (intD (a.length : Int))), (.d (intD s0))] []) (g_slices_Equal_l_Edge_Edge_L0_x t0 t1 a b) ?_
  intro s0 rcl ih
  show Says (g_slices_Equal_l_Edge_Edge_L0 a b s0) _ (lpW ctx 0 [0, 1, 12, 13] [4] ir57L0 [(.d (D.list t0 (List.map edgeD a))), (.d (D.list t1 (List.map edgeD b))), (.d (intD (a.length : Int))), (.d (intD s0))] [])
  unfold g_slices_Equal_l_Edge_Edge_L0
  rw [lpW_b]
  conv => arg 3; whnf
  refine sim_br rfl ?_ ?_
  · skip
    conv => arg 3; whnf
    refine sim_get (f := edgeD) rfl rfl fun x1 hx1 => ?_
    conv => arg 3; whnf
    refine sim_get (f := edgeD) rfl rfl fun x2 hx2 => ?_
    conv => arg 3; whnf
    refine sim_br rfl ?_ ?_
    · skip
      conv => arg 3; whnf
      exact sim_ret rfl
    · skip
      conv => arg 3; whnf
      exact sim_again (ih (w64 (s0 + 1)))
  · skip
    conv => arg 3; whnf
    exact sim_ret rfl

set_option maxRecDepth 100000 in
set_option maxHeartbeats 40000000 in
theorem g_slices_Equal_l_Edge_Edge_ok (t0 : Bool) (t1 : Bool) (a : (List EdgeT)) (b : (List EdgeT)) : ∀ r, (g_slices_Equal_l_Edge_Edge a b) = some r → evD ctx 57 [(.d (D.list t0 (List.map edgeD a))), (.d (D.list t1 (List.map edgeD b)))] = some (g_slices_Equal_l_Edge_Edge_e r) := by
  refine (?_ : Says (g_slices_Equal_l_Edge_Edge a b) (fun r rhs => rhs = some (g_slices_Equal_l_Edge_Edge_e r)) (evD ctx 57 [(.d (D.list t0 (List.map edgeD a))), (.d (D.list t1 (List.map edgeD b)))]))
  unfold g_slices_Equal_l_Edge_Edge
  rw [evD_K ctx 57 fn57 _ rfl rfl]
  conv => arg 3; whnf
  refine sim_let (x' := (a.length : Int)) (len_enc edgeD a) ?_
  conv => arg 3; whnf
  refine sim_let (x' := (b.length : Int)) (len_enc edgeD b) ?_
  conv => arg 3; whnf
  refine sim_br rfl ?_ ?_
  · skip
    conv => arg 3; whnf
    exact sim_ret rfl
  · skip
    conv => arg 3; whnf
    refine sim_let (x' := (a.length : Int)) (len_enc edgeD a) ?_
    conv => arg 3; whnf
    refine sim_bind (g_slices_Equal_l_Edge_Edge_L0_x t0 t1 a b) (g_slices_Equal_l_Edge_Edge_L0_ok t0 t1 a b 0) fun r3 hr3 => ?_
    clear hr3
    rcases r3 with r3 | r3
    · skip
      conv => arg 3; whnf
      exact sim_ret rfl
    · skip
      conv => arg 3; whnf
      exact sim_ret rfl
def g_slices_Equal_l_Future_Future_e (r : Bool) : D := (D.bool r)

def g_slices_Equal_l_Future_Future_L0_x (t0 : Bool) (t1 : Bool) (a : (List FutureT)) (b : (List FutureT)) : (Unit ⊕ Unit) → Ex × List V × Heap
  | (.inl r) => (.ret, [(.d (D.bool false))], [])
  | (.inr r) => (.exit 0, [.bad], [])

set_option maxRecDepth 100000 in
set_option maxHeartbeats 40000000 in
theorem g_slices_Equal_l_Future_Future_L0_ok (t0 : Bool) (t1 : Bool) (a : (List FutureT)) (b : (List FutureT)) : ∀ (s0 : Int) (r : (Unit ⊕ Unit)), lp (g_slices_Equal_l_Future_Future_L0 a b) s0 = some r → lpW ctx 0 [0, 1, 12, 13] [4] ir58L0 [(.d (D.list t0 (List.map futureD a))), (.d (D.list t1 (List.map futureD b))), (.d (intD (a.length : Int))), (.d (intD s0))] [] = some ((g_slices_Equal_l_Future_Future_L0_x t0 t1 a b) r) := by
  refine lp_ok (G := fun (s0 : Int) => lpW ctx 0 [0, 1, 12, 13] [4] ir58L0 [(.d (D.list t0 (List.map futureD a))), (.d (D.list t1 (List.map futureD b))), (.d (intD (a.length : Int))), (.d (intD s0))] []) (g_slices_Equal_l_Future_Future_L0_x t0 t1 a b) ?_
  intro s0 rcl ih
  show Says (g_slices_Equal_l_Future_Future_L0 a b s0) _ (lpW ctx 0 [0, 1, 12, 13] [4] ir58L0 [(.d (D.list t0 (List.map futureD a))), (.d (D.list t1 (List.map futureD b))), (.d (intD (a.length : Int))), (.d (intD s0))] [])
  unfold g_slices_Equal_l_Future_Future_L0
  rw [lpW_b]
  conv => arg 3; whnf
  refine sim_br rfl ?_ ?_
  · skip
    conv => arg 3; whnf
    refine sim_get (f := futureD) rfl rfl fun x1 hx1 => ?_
    conv => arg 3; whnf
    refine sim_get (f := futureD) rfl rfl fun x2 hx2 => ?_
    conv => arg 3; whnf
    refine sim_br rfl ?_ ?_
    · skip
      conv => arg 3; whnf
      exact sim_ret rfl
    · skip
      conv => arg 3; whnf
      exact sim_again (ih (w64 (s0 + 1)))
  · skip
    conv => arg 3; whnf
    exact sim_ret rfl

set_option maxRecDepth 100000 in
set_option maxHeartbeats 40000000 in
theorem g_slices_Equal_l_Future_Future_ok (t0 : Bool) (t1 : Bool) (a : (List FutureT)) (b : (List FutureT)) : ∀ r, (g_slices_Equal_l_Future_Future a b) = some r → evD ctx 58 [(.d (D.list t0 (List.map futureD a))), (.d (D.list t1 (List.map futureD b)))] = some (g_slices_Equal_l_Future_Future_e r) := by
  refine (?_ : Says (g_slices_Equal_l_Future_Future a b) (fun r rhs => rhs = some (g_slices_Equal_l_Future_Future_e r)) (evD ctx 58 [(.d (D.list t0 (List.map futureD a))), (.d (D.list t1 (List.map futureD b)))]))
  unfold g_slices_Equal_l_Future_Future
  rw [evD_K ctx 58 fn58 _ rfl rfl]
  conv => arg 3; whnf
  refine sim_let (x' := (a.length : Int)) (len_enc futureD a) ?_
  conv => arg 3; whnf
  refine sim_let (x' := (b.length : Int)) (len_enc futureD b) ?_
  conv => arg 3; whnf
  refine sim_br rfl ?_ ?_
  · skip
    conv => arg 3; whnf
    exact sim_ret rfl
  · skip
    conv => arg 3; whnf
    refine sim_let (x' := (a.length : Int)) (len_enc futureD a) ?_
    conv => arg 3; whnf
    refine sim_bind (g_slices_Equal_l_Future_Future_L0_x t0 t1 a b) (g_slices_Equal_l_Future_Future_L0_ok t0 t1 a b 0) fun r3 hr3 => ?_
    clear hr3
    rcases r3 with r3 | r3
    · skip
      conv => arg 3; whnf
      exact sim_ret rfl
    · skip
      conv => arg 3; whnf
      exact sim_ret rfl
def g_slices_Equal_l_int_int_e (r : Bool) : D := (D.bool r)

def g_slices_Equal_l_int_int_L0_x (t0 : Bool) (t1 : Bool) (a : (List Int)) (b : (List Int)) : (Unit ⊕ Unit) → Ex × List V × Heap
  | (.inl r) => (.ret, [(.d (D.bool false))], [])
  | (.inr r) => (.exit 0, [.bad], [])

set_option maxRecDepth 100000 in
set_option maxHeartbeats 40000000 in
theorem g_slices_Equal_l_int_int_L0_ok (t0 : Bool) (t1 : Bool) (a : (List Int)) (b : (List Int)) : ∀ (s0 : Int) (r : (Unit ⊕ Unit)), lp (g_slices_Equal_l_int_int_L0 a b) s0 = some r → lpW ctx 0 [0, 1, 12, 13] [4] ir55L0 [(.d (D.list t0 (List.map intD a))), (.d (D.list t1 (List.map intD b))), (.d (intD (a.length : Int))), (.d (intD s0))] [] = some ((g_slices_Equal_l_int_int_L0_x t0 t1 a b) r) := by
  refine lp_ok (G := fun (s0 : Int) => lpW ctx 0 [0, 1, 12, 13] [4] ir55L0 [(.d (D.list t0 (List.map intD a))), (.d (D.list t1 (List.map intD b))), (.d (intD (a.length : Int))), (.d (intD s0))] []) (g_slices_Equal_l_int_int_L0_x t0 t1 a b) ?_
  intro s0 rcl ih
  show Says (g_slices_Equal_l_int_int_L0 a b s0) _ (lpW ctx 0 [0, 1, 12, 13] [4] ir55L0 [(.d (D.list t0 (List.map intD a))), (.d (D.list t1 (List.map intD b))), (.d (intD (a.length : Int))), (.d (intD s0))] [])
  unfold g_slices_Equal_l_int_int_L0
  rw [lpW_b]
  conv => arg 3; whnf
  refine sim_br rfl ?_ ?_
  · skip
    conv => arg 3; whnf
    refine sim_get (f := intD) rfl rfl fun x1 hx1 => ?_
    conv => arg 3; whnf
    refine sim_get (f := intD) rfl rfl fun x2 hx2 => ?_
    conv => arg 3; whnf
    refine sim_br rfl ?_ ?_
    · skip
      conv => arg 3; whnf
      exact sim_ret rfl
    · skip
      conv => arg 3; whnf
      exact sim_again (ih (w64 (s0 + 1)))
  · skip
    conv => arg 3; whnf
    exact sim_ret rfl

set_option maxRecDepth 100000 in
set_option maxHeartbeats 40000000 in
theorem g_slices_Equal_l_int_int_ok (t0 : Bool) (t1 : Bool) (a : (List Int)) (b : (List Int)) : ∀ r, (g_slices_Equal_l_int_int a b) = some r → evD ctx 55 [(.d (D.list t0 (List.map intD a))), (.d (D.list t1 (List.map intD b)))] = some (g_slices_Equal_l_int_int_e r) := by
  refine (?_ : Says (g_slices_Equal_l_int_int a b) (fun r rhs => rhs = some (g_slices_Equal_l_int_int_e r)) (evD ctx 55 [(.d (D.list t0 (List.map intD a))), (.d (D.list t1 (List.map intD b)))]))
  unfold g_slices_Equal_l_int_int
  rw [evD_K ctx 55 fn55 _ rfl rfl]
  conv => arg 3; whnf
  refine sim_let (x' := (a.length : Int)) (len_enc intD a) ?_
  conv => arg 3; whnf
  refine sim_let (x' := (b.length : Int)) (len_enc intD b) ?_
  conv => arg 3; whnf
  refine sim_br rfl ?_ ?_
  · skip
    conv => arg 3; whnf
    exact sim_ret rfl
  · skip
    conv => arg 3; whnf
    refine sim_let (x' := (a.length : Int)) (len_enc intD a) ?_
    conv => arg 3; whnf
    refine sim_bind (g_slices_Equal_l_int_int_L0_x t0 t1 a b) (g_slices_Equal_l_int_int_L0_ok t0 t1 a b 0) fun r3 hr3 => ?_
    clear hr3
    rcases r3 with r3 | r3
    · skip
      conv => arg 3; whnf
      exact sim_ret rfl
    · skip
      conv => arg 3; whnf
      exact sim_ret rfl
def g_desc_Same_1_e (r : Bool) : D := (D.bool r)

set_option maxRecDepth 100000 in
set_option maxHeartbeats 40000000 in
theorem g_desc_Same_1_ok (t0 : Bool) (t1 : Bool) (t2 : Bool) (t3 : Bool) (a : BarrierT) (b : BarrierT) : ∀ r, (g_desc_Same_1 a b) = some r → evD ctx 54 [(.d (D.agg [(D.list t0 (List.map intD a.ins)), (D.list t1 (List.map intD a.outs))])), (.d (D.agg [(D.list t2 (List.map intD b.ins)), (D.list t3 (List.map intD b.outs))]))] = some (g_desc_Same_1_e r) := by
  refine (?_ : Says (g_desc_Same_1 a b) (fun r rhs => rhs = some (g_desc_Same_1_e r)) (evD ctx 54 [(.d (D.agg [(D.list t0 (List.map intD a.ins)), (D.list t1 (List.map intD a.outs))])), (.d (D.agg [(D.list t2 (List.map intD b.ins)), (D.list t3 (List.map intD b.outs))]))]))
  unfold g_desc_Same_1
  rw [evD_K ctx 54 fn54 _ rfl rfl]
  conv => arg 3; whnf
  refine sim_call g_slices_Equal_l_int_int_e (g_slices_Equal_l_int_int_ok t0 t2 a.ins b.ins) rfl fun x0 hx0 => ?_
  conv => arg 3; whnf
  refine sim_br rfl ?_ ?_
  · skip
    conv => arg 3; whnf
    refine sim_call g_slices_Equal_l_int_int_e (g_slices_Equal_l_int_int_ok t1 t3 a.outs b.outs) rfl fun x1 hx1 => ?_
    conv => arg 3; whnf
    refine sim_br rfl ?_ ?_
    · skip
      conv => arg 3; whnf
      exact sim_ret rfl
    · skip
      conv => arg 3; whnf
      exact sim_ret rfl
  · skip
    conv => arg 3; whnf
    exact sim_ret rfl
def g_slices_EqualFunc_l_Barrier_l_Barrier_Barrier_Barrier__desc_Same_1_e (r : Bool) : D := (D.bool r)

def g_slices_EqualFunc_l_Barrier_l_Barrier_Barrier_Barrier__desc_Same_1_L0_x (t0 : Bool) (t1 : Bool) (a : (List BarrierT)) (b : (List BarrierT)) : (Unit ⊕ Unit) → Ex × List V × Heap
  | (.inl r) => (.ret, [(.d (D.bool false))], [])
  | (.inr r) => (.exit 0, [.bad], [])

set_option maxRecDepth 100000 in
set_option maxHeartbeats 40000000 in
theorem g_slices_EqualFunc_l_Barrier_l_Barrier_Barrier_Barrier__desc_Same_1_L0_ok (t0 : Bool) (t1 : Bool) (a : (List BarrierT)) (b : (List BarrierT)) : ∀ (s0 : Int) (r : (Unit ⊕ Unit)), lp (g_slices_EqualFunc_l_Barrier_l_Barrier_Barrier_Barrier_L0 a b (fun z0 z1 => g_desc_Same_1 z0 z1)) s0 = some r → lpW ctx 0 [1, 2, 15, 16, 17] [6] ir59L0 [(.d (D.list t1 (List.map barrierD b))), (.d (D.fn 54 [])), (.d (D.list t0 (List.map barrierD a))), (.d (intD (a.length : Int))), (.d (intD s0))] [] = some ((g_slices_EqualFunc_l_Barrier_l_Barrier_Barrier_Barrier__desc_Same_1_L0_x t0 t1 a b) r) := by
  refine lp_ok (G := fun (s0 : Int) => lpW ctx 0 [1, 2, 15, 16, 17] [6] ir59L0 [(.d (D.list t1 (List.map barrierD b))), (.d (D.fn 54 [])), (.d (D.list t0 (List.map barrierD a))), (.d (intD (a.length : Int))), (.d (intD s0))] []) (g_slices_EqualFunc_l_Barrier_l_Barrier_Barrier_Barrier__desc_Same_1_L0_x t0 t1 a b) ?_
  intro s0 rcl ih
  show Says (g_slices_EqualFunc_l_Barrier_l_Barrier_Barrier_Barrier_L0 a b (fun z0 z1 => g_desc_Same_1 z0 z1) s0) _ (lpW ctx 0 [1, 2, 15, 16, 17] [6] ir59L0 [(.d (D.list t1 (List.map barrierD b))), (.d (D.fn 54 [])), (.d (D.list t0 (List.map barrierD a))), (.d (intD (a.length : Int))), (.d (intD s0))] [])
  unfold g_slices_EqualFunc_l_Barrier_l_Barrier_Barrier_Barrier_L0
  rw [lpW_b]
  conv => arg 3; whnf
  refine sim_br rfl ?_ ?_
  · skip
    conv => arg 3; whnf
    refine sim_get (f := barrierD) rfl rfl fun x1 hx1 => ?_
    conv => arg 3; whnf
    refine sim_get (f := barrierD) rfl rfl fun x2 hx2 => ?_
    conv => arg 3; whnf
    refine sim_call g_desc_Same_1_e (g_desc_Same_1_ok true true true true x1 x2) rfl fun x3 hx3 => ?_
    conv => arg 3; whnf
    refine sim_br rfl ?_ ?_
    · skip
      conv => arg 3; whnf
      exact sim_again (ih (w64 (s0 + 1)))
    · skip
      conv => arg 3; whnf
      exact sim_ret rfl
  · skip
    conv => arg 3; whnf
    exact sim_ret rfl

set_option maxRecDepth 100000 in
set_option maxHeartbeats 40000000 in
theorem g_slices_EqualFunc_l_Barrier_l_Barrier_Barrier_Barrier__desc_Same_1_ok (t0 : Bool) (t1 : Bool) (a : (List BarrierT)) (b : (List BarrierT)) : ∀ r, (g_slices_EqualFunc_l_Barrier_l_Barrier_Barrier_Barrier a b (fun z0 z1 => g_desc_Same_1 z0 z1)) = some r → evD ctx 59 [(.d (D.list t0 (List.map barrierD a))), (.d (D.list t1 (List.map barrierD b))), (.d (D.fn 54 []))] = some (g_slices_EqualFunc_l_Barrier_l_Barrier_Barrier_Barrier__desc_Same_1_e r) := by
  refine (?_ : Says (g_slices_EqualFunc_l_Barrier_l_Barrier_Barrier_Barrier a b (fun z0 z1 => g_desc_Same_1 z0 z1)) (fun r rhs => rhs = some (g_slices_EqualFunc_l_Barrier_l_Barrier_Barrier_Barrier__desc_Same_1_e r)) (evD ctx 59 [(.d (D.list t0 (List.map barrierD a))), (.d (D.list t1 (List.map barrierD b))), (.d (D.fn 54 []))]))
  unfold g_slices_EqualFunc_l_Barrier_l_Barrier_Barrier_Barrier
  rw [evD_K ctx 59 fn59 _ rfl rfl]
  conv => arg 3; whnf
  refine sim_let (x' := (a.length : Int)) (len_enc barrierD a) ?_
  conv => arg 3; whnf
  refine sim_let (x' := (b.length : Int)) (len_enc barrierD b) ?_
  conv => arg 3; whnf
  refine sim_br rfl ?_ ?_
  · skip
    conv => arg 3; whnf
    exact sim_ret rfl
  · skip
    conv => arg 3; whnf
    refine sim_let (x' := (a.length : Int)) (len_enc barrierD a) ?_
    conv => arg 3; whnf
    refine sim_bind (g_slices_EqualFunc_l_Barrier_l_Barrier_Barrier_Barrier__desc_Same_1_L0_x t0 t1 a b) (g_slices_EqualFunc_l_Barrier_l_Barrier_Barrier_Barrier__desc_Same_1_L0_ok t0 t1 a b 0) fun r4 hr4 => ?_
    clear hr4
    rcases r4 with r4 | r4
    · skip
      conv => arg 3; whnf
      exact sim_ret rfl
    · skip
      conv => arg 3; whnf
      exact sim_ret rfl
def g_desc_Same_e (r : Bool) : D := (D.bool r)

set_option maxRecDepth 100000 in
set_option maxHeartbeats 40000000 in
theorem g_desc_Same_ok (t0 : Bool) (t1 : Bool) (t2 : Bool) (t3 : Bool) (t4 : Bool) (t5 : Bool) (t6 : Bool) (t7 : Bool) (a : DescT) (b : DescT) : ∀ r, (g_desc_Same a b) = some r → evD ctx 20 [(.d (D.agg [(intD a.period), (intD a.deadline), (D.list t0 (List.map partD a.parts)), (D.list t1 (List.map edgeD a.edges)), (D.list t2 (List.map futureD a.futures)), (D.list t3 (List.map barrierD a.barriers))])), (.d (D.agg [(intD b.period), (intD b.deadline), (D.list t4 (List.map partD b.parts)), (D.list t5 (List.map edgeD b.edges)), (D.list t6 (List.map futureD b.futures)), (D.list t7 (List.map barrierD b.barriers))]))] = some (g_desc_Same_e r) := by
  refine (?_ : Says (g_desc_Same a b) (fun r rhs => rhs = some (g_desc_Same_e r)) (evD ctx 20 [(.d (D.agg [(intD a.period), (intD a.deadline), (D.list t0 (List.map partD a.parts)), (D.list t1 (List.map edgeD a.edges)), (D.list t2 (List.map futureD a.futures)), (D.list t3 (List.map barrierD a.barriers))])), (.d (D.agg [(intD b.period), (intD b.deadline), (D.list t4 (List.map partD b.parts)), (D.list t5 (List.map edgeD b.edges)), (D.list t6 (List.map futureD b.futures)), (D.list t7 (List.map barrierD b.barriers))]))]))
  unfold g_desc_Same
  rw [evD_K ctx 20 fn20 _ rfl rfl]
  conv => arg 3; whnf
  refine sim_br rfl ?_ ?_
  · skip
    conv => arg 3; whnf
    refine sim_br rfl ?_ ?_
    · skip
      conv => arg 3; whnf
      refine sim_call g_slices_Equal_l_Part_Part_e (g_slices_Equal_l_Part_Part_ok t0 t4 a.parts b.parts) rfl fun x0 hx0 => ?_
      conv => arg 3; whnf
      refine sim_br rfl ?_ ?_
      · skip
        conv => arg 3; whnf
        refine sim_call g_slices_Equal_l_Edge_Edge_e (g_slices_Equal_l_Edge_Edge_ok t1 t5 a.edges b.edges) rfl fun x1 hx1 => ?_
        conv => arg 3; whnf
        refine sim_br rfl ?_ ?_
        · skip
          conv => arg 3; whnf
          refine sim_call g_slices_Equal_l_Future_Future_e (g_slices_Equal_l_Future_Future_ok t2 t6 a.futures b.futures) rfl fun x2 hx2 => ?_
          conv => arg 3; whnf
          refine sim_br rfl ?_ ?_
          · skip
            conv => arg 3; whnf
            refine sim_call g_slices_EqualFunc_l_Barrier_l_Barrier_Barrier_Barrier__desc_Same_1_e (g_slices_EqualFunc_l_Barrier_l_Barrier_Barrier_Barrier__desc_Same_1_ok t3 t7 a.barriers b.barriers) rfl fun x3 hx3 => ?_
            conv => arg 3; whnf
            refine sim_br rfl ?_ ?_
            · skip
              conv => arg 3; whnf
              exact sim_ret rfl
            · skip
              conv => arg 3; whnf
              exact sim_ret rfl
          · skip
            conv => arg 3; whnf
            exact sim_ret rfl
        · skip
          conv => arg 3; whnf
          exact sim_ret rfl
      · skip
        conv => arg 3; whnf
        exact sim_ret rfl
    · skip
      conv => arg 3; whnf
      exact sim_ret rfl
  · skip
    conv => arg 3; whnf
    exact sim_ret rfl
def g_law05_DescLess_e (r : Bool) : D := (D.bool r)

set_option maxRecDepth 100000 in
set_option maxHeartbeats 40000000 in
theorem g_law05_DescLess_ok (t0 : Bool) (t1 : Bool) (t2 : Bool) (t3 : Bool) (a : DescT) (b : Int) : ∀ r, (g_law05_DescLess a b) = some r → evD ctx 7 [(.d (D.agg [(intD a.period), (intD a.deadline), (D.list t0 (List.map partD a.parts)), (D.list t1 (List.map edgeD a.edges)), (D.list t2 (List.map futureD a.futures)), (D.list t3 (List.map barrierD a.barriers))])), (.d (intD b))] = some (g_law05_DescLess_e r) := by
  refine (?_ : Says (g_law05_DescLess a b) (fun r rhs => rhs = some (g_law05_DescLess_e r)) (evD ctx 7 [(.d (D.agg [(intD a.period), (intD a.deadline), (D.list t0 (List.map partD a.parts)), (D.list t1 (List.map edgeD a.edges)), (D.list t2 (List.map futureD a.futures)), (D.list t3 (List.map barrierD a.barriers))])), (.d (intD b))]))
  unfold g_law05_DescLess
  rw [evD_K ctx 7 fn7 _ rfl rfl]
  conv => arg 3; whnf
  refine sim_call D.bool (g_law05_awake_ok) rfl fun x0 hx0 => ?_
  conv => arg 3; whnf
  refine sim_br rfl ?_ ?_
  · skip
    conv => arg 3; whnf
    refine sim_call g_ref05_Few_e (g_ref05_Few_ok t0 t1 t2 t3 a) rfl fun x1 hx1 => ?_
    conv => arg 3; whnf
    refine sim_br rfl ?_ ?_
    · skip
      conv => arg 3; whnf
      refine sim_bind (g_law05_Own_e t0 t1 t2 t3 a) (g_law05_Own_ok t0 t1 t2 t3 a) fun x2 hx2 => ?_
      conv => arg 3; whnf
      refine sim_call g_desc_Check_e (g_desc_Check_ok false false false false (DescT.mk a.period a.deadline a.parts a.edges a.futures x2)) rfl fun x3 hx3 => ?_
      conv => arg 3; whnf
      refine sim_br rfl ?_ ?_
      · skip
        conv => arg 3; whnf
        refine sim_call D.bool (g_law05_awake_ok) rfl fun x4 hx4 => ?_
        conv => arg 3; whnf
        refine sim_br rfl ?_ ?_
        · skip
          conv => arg 3; whnf
          exact sim_ret rfl
        · skip
          conv => arg 3; whnf
          exact sim_ret rfl
      · skip
        conv => arg 3; whnf
        refine sim_br rfl ?_ ?_
        · skip
          conv => arg 3; whnf
          refine sim_call D.bool (g_law05_awake_ok) rfl fun x5 hx5 => ?_
          conv => arg 3; whnf
          refine sim_br rfl ?_ ?_
          · skip
            conv => arg 3; whnf
            exact sim_ret rfl
          · skip
            conv => arg 3; whnf
            exact sim_ret rfl
        · skip
          conv => arg 3; whnf
          refine sim_bind (g_law05_Own_e t0 t1 t2 t3 a) (g_law05_Own_ok t0 t1 t2 t3 a) fun x6 hx6 => ?_
          conv => arg 3; whnf
          refine sim_bind (g_law05_Own_e t0 t1 t2 t3 a) (g_law05_Own_ok t0 t1 t2 t3 a) fun x7 hx7 => ?_
          conv => arg 3; whnf
          refine sim_bind (g_law05_Own_e t0 t1 t2 t3 a) (g_law05_Own_ok t0 t1 t2 t3 a) fun x8 hx8 => ?_
          conv => arg 3; whnf
          refine sim_let (x' := (a.edges.length : Int)) (len_enc edgeD a.edges) ?_
          conv => arg 3; whnf
          refine sim_br rfl ?_ ?_
          · skip
            conv => arg 3; whnf
            refine sim_br rfl ?_ ?_
            · skip
              conv => arg 3; whnf
              refine sim_br (sl_c0 edgeD a.edges b.toNat) ?_ ?_
              · skip
                conv => arg 3; whnf
                refine sim_let (x' := 0) rfl ?_
                conv => arg 3; whnf
                refine sim_let (x' := b.toNat) (by first | rfl | rw [List.length_map] | rw [dt_enc, List.length_map]) ?_
                conv => arg 3; whnf
                refine sim_br rfl ?_ ?_
                · skip
                  conv => arg 3; whnf
                  refine sim_br (sl_c_all edgeD a.edges (w64 (b + 1)).toNat) ?_ ?_
                  · skip
                    conv => arg 3; whnf
                    refine sim_let (x' := (w64 (b + 1)).toNat) rfl ?_
                    conv => arg 3; whnf
                    refine sim_let (x' := ((List.length a.edges) - (w64 (b + 1)).toNat)) (by first | rfl | rw [List.length_map] | rw [dt_enc, List.length_map]) ?_
                    conv => arg 3; whnf
                    refine sim_t (by rw [dt_enc]; exact szAt_map (f := edgeD) (fun _ => ⟨rfl, rfl⟩) _ 0) ?_
                    conv => arg 3; whnf
                    refine sim_br (ble_cut edgeD a.edges (List.take ((List.length a.edges) - (w64 (b + 1)).toNat) (List.drop (w64 (b + 1)).toNat a.edges)) _ (dt_enc edgeD _ _ _) (0 + b.toNat)) ?_ ?_
                    · skip
                      conv => arg 3; whnf
                      refine sim_let (cut_enc edgeD a.edges (List.take ((List.length a.edges) - (w64 (b + 1)).toNat) (List.drop (w64 (b + 1)).toNat a.edges)) _ (dt_enc edgeD _ _ _) 0 b.toNat) ?_
                      conv => arg 3; whnf
                      refine sim_let (x' := (b.toNat + List.length (List.take ((List.length a.edges) - (w64 (b + 1)).toNat) (List.drop (w64 (b + 1)).toNat a.edges)))) (by rw [dt_enc, List.length_map]) ?_
                      conv => arg 3; whnf
                      refine sim_let (x' := (a.futures.length : Int)) (len_enc futureD a.futures) ?_
                      conv => arg 3; whnf
                      refine sim_br rfl ?_ ?_
                      · skip
                        conv => arg 3; whnf
                        refine sim_br rfl ?_ ?_
                        · skip
                          conv => arg 3; whnf
                          refine sim_br (sl_c0 futureD a.futures b.toNat) ?_ ?_
                          · skip
                            conv => arg 3; whnf
                            refine sim_let (x' := 0) rfl ?_
                            conv => arg 3; whnf
                            refine sim_let (x' := b.toNat) (by first | rfl | rw [List.length_map] | rw [dt_enc, List.length_map]) ?_
                            conv => arg 3; whnf
                            refine sim_br rfl ?_ ?_
                            · skip
                              conv => arg 3; whnf
                              refine sim_br (sl_c_all futureD a.futures (w64 (b + 1)).toNat) ?_ ?_
                              · skip
                                conv => arg 3; whnf
                                refine sim_let (x' := (w64 (b + 1)).toNat) rfl ?_
                                conv => arg 3; whnf
                                refine sim_let (x' := ((List.length a.futures) - (w64 (b + 1)).toNat)) (by first | rfl | rw [List.length_map] | rw [dt_enc, List.length_map]) ?_
                                conv => arg 3; whnf
                                refine sim_t (by rw [dt_enc]; exact szAt_map (f := futureD) (fun _ => ⟨rfl, rfl⟩) _ 0) ?_
                                conv => arg 3; whnf
                                refine sim_br (ble_cut futureD a.futures (List.take ((List.length a.futures) - (w64 (b + 1)).toNat) (List.drop (w64 (b + 1)).toNat a.futures)) _ (dt_enc futureD _ _ _) (0 + b.toNat)) ?_ ?_
                                · skip
                                  conv => arg 3; whnf
                                  refine sim_let (cut_enc futureD a.futures (List.take ((List.length a.futures) - (w64 (b + 1)).toNat) (List.drop (w64 (b + 1)).toNat a.futures)) _ (dt_enc futureD _ _ _) 0 b.toNat) ?_
                                  conv => arg 3; whnf
                                  refine sim_let (x' := (b.toNat + List.length (List.take ((List.length a.futures) - (w64 (b + 1)).toNat) (List.drop (w64 (b + 1)).toNat a.futures)))) (by rw [dt_enc, List.length_map]) ?_
                                  conv => arg 3; whnf
                                  refine sim_let (x' := (a.barriers.length : Int)) (len_enc barrierD a.barriers) ?_
                                  conv => arg 3; whnf
                                  refine sim_br rfl ?_ ?_
                                  · skip
                                    conv => arg 3; whnf
                                    refine sim_br rfl ?_ ?_
                                    · skip
                                      conv => arg 3; whnf
                                      refine sim_br (sl_c0 barrierD x8 b.toNat) ?_ ?_
                                      · skip
                                        conv => arg 3; whnf
                                        refine sim_let (x' := 0) rfl ?_
                                        conv => arg 3; whnf
                                        refine sim_let (x' := b.toNat) (by first | rfl | rw [List.length_map] | rw [dt_enc, List.length_map]) ?_
                                        conv => arg 3; whnf
                                        refine sim_br rfl ?_ ?_
                                        · skip
                                          conv => arg 3; whnf
                                          refine sim_br (sl_c_all barrierD x8 (w64 (b + 1)).toNat) ?_ ?_
                                          · skip
                                            conv => arg 3; whnf
                                            refine sim_let (x' := (w64 (b + 1)).toNat) rfl ?_
                                            conv => arg 3; whnf
                                            refine sim_let (x' := ((List.length x8) - (w64 (b + 1)).toNat)) (by first | rfl | rw [List.length_map] | rw [dt_enc, List.length_map]) ?_
                                            conv => arg 3; whnf
                                            refine sim_t (by rw [dt_enc]; exact szAt_map (f := barrierD) (fun _ => ⟨rfl, rfl⟩) _ 0) ?_
                                            conv => arg 3; whnf
                                            refine sim_br (ble_cut barrierD x8 (List.take ((List.length x8) - (w64 (b + 1)).toNat) (List.drop (w64 (b + 1)).toNat x8)) _ (dt_enc barrierD _ _ _) (0 + b.toNat)) ?_ ?_
                                            · skip
                                              conv => arg 3; whnf
                                              refine sim_let (cut_enc barrierD x8 (List.take ((List.length x8) - (w64 (b + 1)).toNat) (List.drop (w64 (b + 1)).toNat x8)) _ (dt_enc barrierD _ _ _) 0 b.toNat) ?_
                                              conv => arg 3; whnf
                                              refine sim_let (x' := (b.toNat + List.length (List.take ((List.length x8) - (w64 (b + 1)).toNat) (List.drop (w64 (b + 1)).toNat x8)))) (by rw [dt_enc, List.length_map]) ?_
                                              conv => arg 3; whnf
                                              refine sim_call g_desc_Check_e (g_desc_Check_ok false false false false (DescT.mk a.period a.deadline a.parts (List.take (b.toNat + List.length (List.take ((List.length a.edges) - (w64 (b + 1)).toNat) (List.drop (w64 (b + 1)).toNat a.edges))) (List.drop 0 (List.take (0 + b.toNat) a.edges ++ ((List.take ((List.length a.edges) - (w64 (b + 1)).toNat) (List.drop (w64 (b + 1)).toNat a.edges)) ++ List.drop (0 + b.toNat + List.length (List.take ((List.length a.edges) - (w64 (b + 1)).toNat) (List.drop (w64 (b + 1)).toNat a.edges))) a.edges)))) a.futures x6)) (by first | rfl | simp only [dt_enc]) fun x9 hx9 => ?_
                                              conv => arg 3; whnf
                                              refine sim_br rfl ?_ ?_
                                              · skip
                                                conv => arg 3; whnf
                                                refine sim_call g_desc_Check_e (g_desc_Check_ok false false false false (DescT.mk a.period a.deadline a.parts a.edges (List.take (b.toNat + List.length (List.take ((List.length a.futures) - (w64 (b + 1)).toNat) (List.drop (w64 (b + 1)).toNat a.futures))) (List.drop 0 (List.take (0 + b.toNat) a.futures ++ ((List.take ((List.length a.futures) - (w64 (b + 1)).toNat) (List.drop (w64 (b + 1)).toNat a.futures)) ++ List.drop (0 + b.toNat + List.length (List.take ((List.length a.futures) - (w64 (b + 1)).toNat) (List.drop (w64 (b + 1)).toNat a.futures))) a.futures)))) x7)) (by first | rfl | simp only [dt_enc]) fun x10 hx10 => ?_
                                                conv => arg 3; whnf
                                                refine sim_br rfl ?_ ?_
                                                · skip
                                                  conv => arg 3; whnf
                                                  refine sim_call g_desc_Check_e (g_desc_Check_ok false false false false (DescT.mk a.period a.deadline a.parts a.edges a.futures (List.take (b.toNat + List.length (List.take ((List.length x8) - (w64 (b + 1)).toNat) (List.drop (w64 (b + 1)).toNat x8))) (List.drop 0 (List.take (0 + b.toNat) x8 ++ ((List.take ((List.length x8) - (w64 (b + 1)).toNat) (List.drop (w64 (b + 1)).toNat x8)) ++ List.drop (0 + b.toNat + List.length (List.take ((List.length x8) - (w64 (b + 1)).toNat) (List.drop (w64 (b + 1)).toNat x8))) x8)))))) (by first | rfl | simp only [dt_enc]) fun x11 hx11 => ?_
                                                  conv => arg 3; whnf
                                                  refine sim_br rfl ?_ ?_
                                                  · skip
                                                    conv => arg 3; whnf
                                                    refine sim_call g_desc_Same_e (g_desc_Same_ok false false false false t0 t1 t2 t3 (DescT.mk a.period a.deadline a.parts (List.take (b.toNat + List.length (List.take ((List.length a.edges) - (w64 (b + 1)).toNat) (List.drop (w64 (b + 1)).toNat a.edges))) (List.drop 0 (List.take (0 + b.toNat) a.edges ++ ((List.take ((List.length a.edges) - (w64 (b + 1)).toNat) (List.drop (w64 (b + 1)).toNat a.edges)) ++ List.drop (0 + b.toNat + List.length (List.take ((List.length a.edges) - (w64 (b + 1)).toNat) (List.drop (w64 (b + 1)).toNat a.edges))) a.edges)))) a.futures x6) a) (by first | rfl | simp only [dt_enc]) fun x12 hx12 => ?_
                                                    conv => arg 3; whnf
                                                    refine sim_br rfl ?_ ?_
                                                    · skip
                                                      conv => arg 3; whnf
                                                      refine sim_let (x' := (a.edges.length : Int)) (len_enc edgeD a.edges) ?_
                                                      conv => arg 3; whnf
                                                      refine sim_br rfl ?_ ?_
                                                      · skip
                                                        conv => arg 3; whnf
                                                        refine sim_t rfl ?_
                                                        conv => arg 3; whnf
                                                        refine sim_call g_desc_Same_e (g_desc_Same_ok false false false false t0 t1 t2 t3 (DescT.mk a.period a.deadline a.parts a.edges a.futures (List.take (b.toNat + List.length (List.take ((List.length x8) - (w64 (b + 1)).toNat) (List.drop (w64 (b + 1)).toNat x8))) (List.drop 0 (List.take (0 + b.toNat) x8 ++ ((List.take ((List.length x8) - (w64 (b + 1)).toNat) (List.drop (w64 (b + 1)).toNat x8)) ++ List.drop (0 + b.toNat + List.length (List.take ((List.length x8) - (w64 (b + 1)).toNat) (List.drop (w64 (b + 1)).toNat x8))) x8))))) a) (by first | rfl | simp only [dt_enc]) fun x13 hx13 => ?_
                                                        conv => arg 3; whnf
                                                        refine sim_br rfl ?_ ?_
                                                        · skip
                                                          conv => arg 3; whnf
                                                          refine sim_let (x' := (a.barriers.length : Int)) (len_enc barrierD a.barriers) ?_
                                                          conv => arg 3; whnf
                                                          refine sim_br rfl ?_ ?_
                                                          · skip
                                                            conv => arg 3; whnf
                                                            refine sim_t rfl ?_
                                                            conv => arg 3; whnf
                                                            exact sim_ret rfl
                                                          · skip
                                                            conv => arg 3; whnf
                                                            refine sim_f rfl ?_
                                                            conv => arg 3; whnf
                                                            exact sim_ret rfl
                                                        · skip
                                                          conv => arg 3; whnf
                                                          refine sim_let (x' := (a.barriers.length : Int)) (len_enc barrierD a.barriers) ?_
                                                          conv => arg 3; whnf
                                                          refine sim_br rfl ?_ ?_
                                                          · skip
                                                            conv => arg 3; whnf
                                                            refine sim_f rfl ?_
                                                            conv => arg 3; whnf
                                                            exact sim_ret rfl
                                                          · skip
                                                            conv => arg 3; whnf
                                                            refine sim_t rfl ?_
                                                            conv => arg 3; whnf
                                                            exact sim_ret rfl
                                                      · skip
                                                        conv => arg 3; whnf
                                                        refine sim_f rfl ?_
                                                        conv => arg 3; whnf
                                                        exact sim_ret rfl
                                                    · skip
                                                      conv => arg 3; whnf
                                                      refine sim_let (x' := (a.edges.length : Int)) (len_enc edgeD a.edges) ?_
                                                      conv => arg 3; whnf
                                                      refine sim_br rfl ?_ ?_
                                                      · skip
                                                        conv => arg 3; whnf
                                                        refine sim_f rfl ?_
                                                        conv => arg 3; whnf
                                                        exact sim_ret rfl
                                                      · skip
                                                        conv => arg 3; whnf
                                                        refine sim_t rfl ?_
                                                        conv => arg 3; whnf
                                                        refine sim_call g_desc_Same_e (g_desc_Same_ok false false false false t0 t1 t2 t3 (DescT.mk a.period a.deadline a.parts a.edges a.futures (List.take (b.toNat + List.length (List.take ((List.length x8) - (w64 (b + 1)).toNat) (List.drop (w64 (b + 1)).toNat x8))) (List.drop 0 (List.take (0 + b.toNat) x8 ++ ((List.take ((List.length x8) - (w64 (b + 1)).toNat) (List.drop (w64 (b + 1)).toNat x8)) ++ List.drop (0 + b.toNat + List.length (List.take ((List.length x8) - (w64 (b + 1)).toNat) (List.drop (w64 (b + 1)).toNat x8))) x8))))) a) (by first | rfl | simp only [dt_enc]) fun x14 hx14 => ?_
                                                        conv => arg 3; whnf
                                                        refine sim_br rfl ?_ ?_
                                                        · skip
                                                          conv => arg 3; whnf
                                                          refine sim_let (x' := (a.barriers.length : Int)) (len_enc barrierD a.barriers) ?_
                                                          conv => arg 3; whnf
                                                          refine sim_br rfl ?_ ?_
                                                          · skip
                                                            conv => arg 3; whnf
                                                            refine sim_t rfl ?_
                                                            conv => arg 3; whnf
                                                            exact sim_ret rfl
                                                          · skip
                                                            conv => arg 3; whnf
                                                            refine sim_f rfl ?_
                                                            conv => arg 3; whnf
                                                            exact sim_ret rfl
                                                        · skip
                                                          conv => arg 3; whnf
                                                          refine sim_let (x' := (a.barriers.length : Int)) (len_enc barrierD a.barriers) ?_
                                                          conv => arg 3; whnf
                                                          refine sim_br rfl ?_ ?_
                                                          · skip
                                                            conv => arg 3; whnf
                                                            refine sim_f rfl ?_
                                                            conv => arg 3; whnf
                                                            exact sim_ret rfl
                                                          · skip
                                                            conv => arg 3; whnf
                                                            refine sim_t rfl ?_
                                                            conv => arg 3; whnf
                                                            exact sim_ret rfl
                                                  · skip
                                                    conv => arg 3; whnf
                                                    exact sim_ret rfl
                                                · skip
                                                  conv => arg 3; whnf
                                                  exact sim_ret rfl
                                              · skip
                                                conv => arg 3; whnf
                                                exact sim_ret rfl
                                            · skip
                                              exact sim_none
                                          · skip
                                            exact sim_none
                                        · skip
                                          exact sim_none
                                      · skip
                                        exact sim_none
                                    · skip
                                      exact sim_none
                                  · skip
                                    conv => arg 3; whnf
                                    refine sim_call g_desc_Check_e (g_desc_Check_ok false false false false (DescT.mk a.period a.deadline a.parts (List.take (b.toNat + List.length (List.take ((List.length a.edges) - (w64 (b + 1)).toNat) (List.drop (w64 (b + 1)).toNat a.edges))) (List.drop 0 (List.take (0 + b.toNat) a.edges ++ ((List.take ((List.length a.edges) - (w64 (b + 1)).toNat) (List.drop (w64 (b + 1)).toNat a.edges)) ++ List.drop (0 + b.toNat + List.length (List.take ((List.length a.edges) - (w64 (b + 1)).toNat) (List.drop (w64 (b + 1)).toNat a.edges))) a.edges)))) a.futures x6)) (by first | rfl | simp only [dt_enc]) fun x15 hx15 => ?_
                                    conv => arg 3; whnf
                                    refine sim_br rfl ?_ ?_
                                    · skip
                                      conv => arg 3; whnf
                                      refine sim_call g_desc_Check_e (g_desc_Check_ok false false false false (DescT.mk a.period a.deadline a.parts a.edges (List.take (b.toNat + List.length (List.take ((List.length a.futures) - (w64 (b + 1)).toNat) (List.drop (w64 (b + 1)).toNat a.futures))) (List.drop 0 (List.take (0 + b.toNat) a.futures ++ ((List.take ((List.length a.futures) - (w64 (b + 1)).toNat) (List.drop (w64 (b + 1)).toNat a.futures)) ++ List.drop (0 + b.toNat + List.length (List.take ((List.length a.futures) - (w64 (b + 1)).toNat) (List.drop (w64 (b + 1)).toNat a.futures))) a.futures)))) x7)) (by first | rfl | simp only [dt_enc]) fun x16 hx16 => ?_
                                      conv => arg 3; whnf
                                      refine sim_br rfl ?_ ?_
                                      · skip
                                        conv => arg 3; whnf
                                        refine sim_call g_desc_Check_e (g_desc_Check_ok false false false false (DescT.mk a.period a.deadline a.parts a.edges a.futures x8)) rfl fun x17 hx17 => ?_
                                        conv => arg 3; whnf
                                        refine sim_br rfl ?_ ?_
                                        · skip
                                          conv => arg 3; whnf
                                          refine sim_call g_desc_Same_e (g_desc_Same_ok false false false false t0 t1 t2 t3 (DescT.mk a.period a.deadline a.parts (List.take (b.toNat + List.length (List.take ((List.length a.edges) - (w64 (b + 1)).toNat) (List.drop (w64 (b + 1)).toNat a.edges))) (List.drop 0 (List.take (0 + b.toNat) a.edges ++ ((List.take ((List.length a.edges) - (w64 (b + 1)).toNat) (List.drop (w64 (b + 1)).toNat a.edges)) ++ List.drop (0 + b.toNat + List.length (List.take ((List.length a.edges) - (w64 (b + 1)).toNat) (List.drop (w64 (b + 1)).toNat a.edges))) a.edges)))) a.futures x6) a) (by first | rfl | simp only [dt_enc]) fun x18 hx18 => ?_
                                          conv => arg 3; whnf
                                          refine sim_br rfl ?_ ?_
                                          · skip
                                            conv => arg 3; whnf
                                            refine sim_let (x' := (a.edges.length : Int)) (len_enc edgeD a.edges) ?_
                                            conv => arg 3; whnf
                                            refine sim_br rfl ?_ ?_
                                            · skip
                                              conv => arg 3; whnf
                                              refine sim_t rfl ?_
                                              conv => arg 3; whnf
                                              refine sim_call g_desc_Same_e (g_desc_Same_ok false false false false t0 t1 t2 t3 (DescT.mk a.period a.deadline a.parts a.edges a.futures x8) a) rfl fun x19 hx19 => ?_
                                              conv => arg 3; whnf
                                              refine sim_br rfl ?_ ?_
                                              · skip
                                                conv => arg 3; whnf
                                                refine sim_let (x' := (a.barriers.length : Int)) (len_enc barrierD a.barriers) ?_
                                                conv => arg 3; whnf
                                                refine sim_br rfl ?_ ?_
                                                · skip
                                                  conv => arg 3; whnf
                                                  refine sim_t rfl ?_
                                                  conv => arg 3; whnf
                                                  exact sim_ret rfl
                                                · skip
                                                  conv => arg 3; whnf
                                                  refine sim_f rfl ?_
                                                  conv => arg 3; whnf
                                                  exact sim_ret rfl
                                              · skip
                                                conv => arg 3; whnf
                                                refine sim_let (x' := (a.barriers.length : Int)) (len_enc barrierD a.barriers) ?_
                                                conv => arg 3; whnf
                                                refine sim_br rfl ?_ ?_
                                                · skip
                                                  conv => arg 3; whnf
                                                  refine sim_f rfl ?_
                                                  conv => arg 3; whnf
                                                  exact sim_ret rfl
                                                · skip
                                                  conv => arg 3; whnf
                                                  refine sim_t rfl ?_
                                                  conv => arg 3; whnf
                                                  exact sim_ret rfl
                                            · skip
                                              conv => arg 3; whnf
                                              refine sim_f rfl ?_
                                              conv => arg 3; whnf
                                              exact sim_ret rfl
                                          · skip
                                            conv => arg 3; whnf
                                            refine sim_let (x' := (a.edges.length : Int)) (len_enc edgeD a.edges) ?_
                                            conv => arg 3; whnf
                                            refine sim_br rfl ?_ ?_
                                            · skip
                                              conv => arg 3; whnf
                                              refine sim_f rfl ?_
                                              conv => arg 3; whnf
                                              exact sim_ret rfl
                                            · skip
                                              conv => arg 3; whnf
                                              refine sim_t rfl ?_
                                              conv => arg 3; whnf
                                              refine sim_call g_desc_Same_e (g_desc_Same_ok false false false false t0 t1 t2 t3 (DescT.mk a.period a.deadline a.parts a.edges a.futures x8) a) rfl fun x20 hx20 => ?_
                                              conv => arg 3; whnf
                                              refine sim_br rfl ?_ ?_
                                              · skip
                                                conv => arg 3; whnf
                                                refine sim_let (x' := (a.barriers.length : Int)) (len_enc barrierD a.barriers) ?_
                                                conv => arg 3; whnf
                                                refine sim_br rfl ?_ ?_
                                                · skip
                                                  conv => arg 3; whnf
                                                  refine sim_t rfl ?_
                                                  conv => arg 3; whnf
                                                  exact sim_ret rfl
                                                · skip
                                                  conv => arg 3; whnf
                                                  refine sim_f rfl ?_
                                                  conv => arg 3; whnf
                                                  exact sim_ret rfl
                                              · skip
                                                conv => arg 3; whnf
                                                refine sim_let (x' := (a.barriers.length : Int)) (len_enc barrierD a.barriers) ?_
                                                conv => arg 3; whnf
                                                refine sim_br rfl ?_ ?_
                                                · skip
                                                  conv => arg 3; whnf
                                                  refine sim_f rfl ?_
                                                  conv => arg 3; whnf
                                                  exact sim_ret rfl
                                                · skip
                                                  conv => arg 3; whnf
                                                  refine sim_t rfl ?_
                                                  conv => arg 3; whnf
                                                  exact sim_ret rfl
                                        · skip
                                          conv => arg 3; whnf
                                          exact sim_ret rfl
                                      · skip
                                        conv => arg 3; whnf
                                        exact sim_ret rfl
                                    · skip
                                      conv => arg 3; whnf
                                      exact sim_ret rfl
                                · skip
                                  exact sim_none
                              · skip
                                exact sim_none
                            · skip
                              exact sim_none
                          · skip
                            exact sim_none
                        · skip
                          exact sim_none
                      · skip
                        conv => arg 3; whnf
                        refine sim_let (x' := (a.barriers.length : Int)) (len_enc barrierD a.barriers) ?_
                        conv => arg 3; whnf
                        refine sim_br rfl ?_ ?_
                        · skip
                          conv => arg 3; whnf
                          refine sim_br rfl ?_ ?_
                          · skip
                            conv => arg 3; whnf
                            refine sim_br (sl_c0 barrierD x8 b.toNat) ?_ ?_
                            · skip
                              conv => arg 3; whnf
                              refine sim_let (x' := 0) rfl ?_
                              conv => arg 3; whnf
                              refine sim_let (x' := b.toNat) (by first | rfl | rw [List.length_map] | rw [dt_enc, List.length_map]) ?_
                              conv => arg 3; whnf
                              refine sim_br rfl ?_ ?_
                              · skip
                                conv => arg 3; whnf
                                refine sim_br (sl_c_all barrierD x8 (w64 (b + 1)).toNat) ?_ ?_
                                · skip
                                  conv => arg 3; whnf
                                  refine sim_let (x' := (w64 (b + 1)).toNat) rfl ?_
                                  conv => arg 3; whnf
                                  refine sim_let (x' := ((List.length x8) - (w64 (b + 1)).toNat)) (by first | rfl | rw [List.length_map] | rw [dt_enc, List.length_map]) ?_
                                  conv => arg 3; whnf
                                  refine sim_t (by rw [dt_enc]; exact szAt_map (f := barrierD) (fun _ => ⟨rfl, rfl⟩) _ 0) ?_
                                  conv => arg 3; whnf
                                  refine sim_br (ble_cut barrierD x8 (List.take ((List.length x8) - (w64 (b + 1)).toNat) (List.drop (w64 (b + 1)).toNat x8)) _ (dt_enc barrierD _ _ _) (0 + b.toNat)) ?_ ?_
                                  · skip
                                    conv => arg 3; whnf
                                    refine sim_let (cut_enc barrierD x8 (List.take ((List.length x8) - (w64 (b + 1)).toNat) (List.drop (w64 (b + 1)).toNat x8)) _ (dt_enc barrierD _ _ _) 0 b.toNat) ?_
                                    conv => arg 3; whnf
                                    refine sim_let (x' := (b.toNat + List.length (List.take ((List.length x8) - (w64 (b + 1)).toNat) (List.drop (w64 (b + 1)).toNat x8)))) (by rw [dt_enc, List.length_map]) ?_
                                    conv => arg 3; whnf
                                    refine sim_call g_desc_Check_e (g_desc_Check_ok false false false false (DescT.mk a.period a.deadline a.parts (List.take (b.toNat + List.length (List.take ((List.length a.edges) - (w64 (b + 1)).toNat) (List.drop (w64 (b + 1)).toNat a.edges))) (List.drop 0 (List.take (0 + b.toNat) a.edges ++ ((List.take ((List.length a.edges) - (w64 (b + 1)).toNat) (List.drop (w64 (b + 1)).toNat a.edges)) ++ List.drop (0 + b.toNat + List.length (List.take ((List.length a.edges) - (w64 (b + 1)).toNat) (List.drop (w64 (b + 1)).toNat a.edges))) a.edges)))) a.futures x6)) (by first | rfl | simp only [dt_enc]) fun x21 hx21 => ?_
                                    conv => arg 3; whnf
                                    refine sim_br rfl ?_ ?_
                                    · skip
                                      conv => arg 3; whnf
                                      refine sim_call g_desc_Check_e (g_desc_Check_ok false false false false (DescT.mk a.period a.deadline a.parts a.edges a.futures x7)) rfl fun x22 hx22 => ?_
                                      conv => arg 3; whnf
                                      refine sim_br rfl ?_ ?_
                                      · skip
                                        conv => arg 3; whnf
                                        refine sim_call g_desc_Check_e (g_desc_Check_ok false false false false (DescT.mk a.period a.deadline a.parts a.edges a.futures (List.take (b.toNat + List.length (List.take ((List.length x8) - (w64 (b + 1)).toNat) (List.drop (w64 (b + 1)).toNat x8))) (List.drop 0 (List.take (0 + b.toNat) x8 ++ ((List.take ((List.length x8) - (w64 (b + 1)).toNat) (List.drop (w64 (b + 1)).toNat x8)) ++ List.drop (0 + b.toNat + List.length (List.take ((List.length x8) - (w64 (b + 1)).toNat) (List.drop (w64 (b + 1)).toNat x8))) x8)))))) (by first | rfl | simp only [dt_enc]) fun x23 hx23 => ?_
                                        conv => arg 3; whnf
                                        refine sim_br rfl ?_ ?_
                                        · skip
                                          conv => arg 3; whnf
                                          refine sim_call g_desc_Same_e (g_desc_Same_ok false false false false t0 t1 t2 t3 (DescT.mk a.period a.deadline a.parts (List.take (b.toNat + List.length (List.take ((List.length a.edges) - (w64 (b + 1)).toNat) (List.drop (w64 (b + 1)).toNat a.edges))) (List.drop 0 (List.take (0 + b.toNat) a.edges ++ ((List.take ((List.length a.edges) - (w64 (b + 1)).toNat) (List.drop (w64 (b + 1)).toNat a.edges)) ++ List.drop (0 + b.toNat + List.length (List.take ((List.length a.edges) - (w64 (b + 1)).toNat) (List.drop (w64 (b + 1)).toNat a.edges))) a.edges)))) a.futures x6) a) (by first | rfl | simp only [dt_enc]) fun x24 hx24 => ?_
                                          conv => arg 3; whnf
                                          refine sim_br rfl ?_ ?_
                                          · skip
                                            conv => arg 3; whnf
                                            refine sim_let (x' := (a.edges.length : Int)) (len_enc edgeD a.edges) ?_
                                            conv => arg 3; whnf
                                            refine sim_br rfl ?_ ?_
                                            · skip
                                              conv => arg 3; whnf
                                              refine sim_t rfl ?_
                                              conv => arg 3; whnf
                                              refine sim_call g_desc_Same_e (g_desc_Same_ok false false false false t0 t1 t2 t3 (DescT.mk a.period a.deadline a.parts a.edges a.futures (List.take (b.toNat + List.length (List.take ((List.length x8) - (w64 (b + 1)).toNat) (List.drop (w64 (b + 1)).toNat x8))) (List.drop 0 (List.take (0 + b.toNat) x8 ++ ((List.take ((List.length x8) - (w64 (b + 1)).toNat) (List.drop (w64 (b + 1)).toNat x8)) ++ List.drop (0 + b.toNat + List.length (List.take ((List.length x8) - (w64 (b + 1)).toNat) (List.drop (w64 (b + 1)).toNat x8))) x8))))) a) (by first | rfl | simp only [dt_enc]) fun x25 hx25 => ?_
                                              conv => arg 3; whnf
                                              refine sim_br rfl ?_ ?_
                                              · skip
                                                conv => arg 3; whnf
                                                refine sim_let (x' := (a.barriers.length : Int)) (len_enc barrierD a.barriers) ?_
                                                conv => arg 3; whnf
                                                refine sim_br rfl ?_ ?_
                                                · skip
                                                  conv => arg 3; whnf
                                                  refine sim_t rfl ?_
                                                  conv => arg 3; whnf
                                                  exact sim_ret rfl
                                                · skip
                                                  conv => arg 3; whnf
                                                  refine sim_f rfl ?_
                                                  conv => arg 3; whnf
                                                  exact sim_ret rfl
                                              · skip
                                                conv => arg 3; whnf
                                                refine sim_let (x' := (a.barriers.length : Int)) (len_enc barrierD a.barriers) ?_
                                                conv => arg 3; whnf
                                                refine sim_br rfl ?_ ?_
                                                · skip
                                                  conv => arg 3; whnf
                                                  refine sim_f rfl ?_
                                                  conv => arg 3; whnf
                                                  exact sim_ret rfl
                                                · skip
                                                  conv => arg 3; whnf
                                                  refine sim_t rfl ?_
                                                  conv => arg 3; whnf
                                                  exact sim_ret rfl
                                            · skip
                                              conv => arg 3; whnf
                                              refine sim_f rfl ?_
                                              conv => arg 3; whnf
                                              exact sim_ret rfl
                                          · skip
                                            conv => arg 3; whnf
                                            refine sim_let (x' := (a.edges.length : Int)) (len_enc edgeD a.edges) ?_
                                            conv => arg 3; whnf
                                            refine sim_br rfl ?_ ?_
                                            · skip
                                              conv => arg 3; whnf
                                              refine sim_f rfl ?_
                                              conv => arg 3; whnf
                                              exact sim_ret rfl
                                            · skip
                                              conv => arg 3; whnf
                                              refine sim_t rfl ?_
                                              conv => arg 3; whnf
                                              refine sim_call g_desc_Same_e (g_desc_Same_ok false false false false t0 t1 t2 t3 (DescT.mk a.period a.deadline a.parts a.edges a.futures (List.take (b.toNat + List.length (List.take ((List.length x8) - (w64 (b + 1)).toNat) (List.drop (w64 (b + 1)).toNat x8))) (List.drop 0 (List.take (0 + b.toNat) x8 ++ ((List.take ((List.length x8) - (w64 (b + 1)).toNat) (List.drop (w64 (b + 1)).toNat x8)) ++ List.drop (0 + b.toNat + List.length (List.take ((List.length x8) - (w64 (b + 1)).toNat) (List.drop (w64 (b + 1)).toNat x8))) x8))))) a) (by first | rfl | simp only [dt_enc]) fun x26 hx26 => ?_
                                              conv => arg 3; whnf
                                              refine sim_br rfl ?_ ?_
                                              · skip
                                                conv => arg 3; whnf
                                                refine sim_let (x' := (a.barriers.length : Int)) (len_enc barrierD a.barriers) ?_
                                                conv => arg 3; whnf
                                                refine sim_br rfl ?_ ?_
                                                · skip
                                                  conv => arg 3; whnf
                                                  refine sim_t rfl ?_
                                                  conv => arg 3; whnf
                                                  exact sim_ret rfl
                                                · skip
                                                  conv => arg 3; whnf
                                                  refine sim_f rfl ?_
                                                  conv => arg 3; whnf
                                                  exact sim_ret rfl
                                              · skip
                                                conv => arg 3; whnf
                                                refine sim_let (x' := (a.barriers.length : Int)) (len_enc barrierD a.barriers) ?_
                                                conv => arg 3; whnf
                                                refine sim_br rfl ?_ ?_
                                                · skip
                                                  conv => arg 3; whnf
                                                  refine sim_f rfl ?_
                                                  conv => arg 3; whnf
                                                  exact sim_ret rfl
                                                · skip
                                                  conv => arg 3; whnf
                                                  refine sim_t rfl ?_
                                                  conv => arg 3; whnf
                                                  exact sim_ret rfl
                                        · skip
                                          conv => arg 3; whnf
                                          exact sim_ret rfl
                                      · skip
                                        conv => arg 3; whnf
                                        exact sim_ret rfl
                                    · skip
                                      conv => arg 3; whnf
                                      exact sim_ret rfl
                                  · skip
                                    exact sim_none
                                · skip
                                  exact sim_none
                              · skip
                                exact sim_none
                            · skip
                              exact sim_none
                          · skip
                            exact sim_none
                        · skip
                          conv => arg 3; whnf
                          refine sim_call g_desc_Check_e (g_desc_Check_ok false false false false (DescT.mk a.period a.deadline a.parts (List.take (b.toNat + List.length (List.take ((List.length a.edges) - (w64 (b + 1)).toNat) (List.drop (w64 (b + 1)).toNat a.edges))) (List.drop 0 (List.take (0 + b.toNat) a.edges ++ ((List.take ((List.length a.edges) - (w64 (b + 1)).toNat) (List.drop (w64 (b + 1)).toNat a.edges)) ++ List.drop (0 + b.toNat + List.length (List.take ((List.length a.edges) - (w64 (b + 1)).toNat) (List.drop (w64 (b + 1)).toNat a.edges))) a.edges)))) a.futures x6)) (by first | rfl | simp only [dt_enc]) fun x27 hx27 => ?_
                          conv => arg 3; whnf
                          refine sim_br rfl ?_ ?_
                          · skip
                            conv => arg 3; whnf
                            refine sim_call g_desc_Check_e (g_desc_Check_ok false false false false (DescT.mk a.period a.deadline a.parts a.edges a.futures x7)) rfl fun x28 hx28 => ?_
                            conv => arg 3; whnf
                            refine sim_br rfl ?_ ?_
                            · skip
                              conv => arg 3; whnf
                              refine sim_call g_desc_Check_e (g_desc_Check_ok false false false false (DescT.mk a.period a.deadline a.parts a.edges a.futures x8)) rfl fun x29 hx29 => ?_
                              conv => arg 3; whnf
                              refine sim_br rfl ?_ ?_
                              · skip
                                conv => arg 3; whnf
                                refine sim_call g_desc_Same_e (g_desc_Same_ok false false false false t0 t1 t2 t3 (DescT.mk a.period a.deadline a.parts (List.take (b.toNat + List.length (List.take ((List.length a.edges) - (w64 (b + 1)).toNat) (List.drop (w64 (b + 1)).toNat a.edges))) (List.drop 0 (List.take (0 + b.toNat) a.edges ++ ((List.take ((List.length a.edges) - (w64 (b + 1)).toNat) (List.drop (w64 (b + 1)).toNat a.edges)) ++ List.drop (0 + b.toNat + List.length (List.take ((List.length a.edges) - (w64 (b + 1)).toNat) (List.drop (w64 (b + 1)).toNat a.edges))) a.edges)))) a.futures x6) a) (by first | rfl | simp only [dt_enc]) fun x30 hx30 => ?_
                                conv => arg 3; whnf
                                refine sim_br rfl ?_ ?_
                                · skip
                                  conv => arg 3; whnf
                                  refine sim_let (x' := (a.edges.length : Int)) (len_enc edgeD a.edges) ?_
                                  conv => arg 3; whnf
                                  refine sim_br rfl ?_ ?_
                                  · skip
                                    conv => arg 3; whnf
                                    refine sim_t rfl ?_
                                    conv => arg 3; whnf
                                    refine sim_call g_desc_Same_e (g_desc_Same_ok false false false false t0 t1 t2 t3 (DescT.mk a.period a.deadline a.parts a.edges a.futures x8) a) rfl fun x31 hx31 => ?_
                                    conv => arg 3; whnf
                                    refine sim_br rfl ?_ ?_
                                    · skip
                                      conv => arg 3; whnf
                                      refine sim_let (x' := (a.barriers.length : Int)) (len_enc barrierD a.barriers) ?_
                                      conv => arg 3; whnf
                                      refine sim_br rfl ?_ ?_
                                      · skip
                                        conv => arg 3; whnf
                                        refine sim_t rfl ?_
                                        conv => arg 3; whnf
                                        exact sim_ret rfl
                                      · skip
                                        conv => arg 3; whnf
                                        refine sim_f rfl ?_
                                        conv => arg 3; whnf
                                        exact sim_ret rfl
                                    · skip
                                      conv => arg 3; whnf
                                      refine sim_let (x' := (a.barriers.length : Int)) (len_enc barrierD a.barriers) ?_
                                      conv => arg 3; whnf
                                      refine sim_br rfl ?_ ?_
                                      · skip
                                        conv => arg 3; whnf
                                        refine sim_f rfl ?_
                                        conv => arg 3; whnf
                                        exact sim_ret rfl
                                      · skip
                                        conv => arg 3; whnf
                                        refine sim_t rfl ?_
                                        conv => arg 3; whnf
                                        exact sim_ret rfl
                                  · skip
                                    conv => arg 3; whnf
                                    refine sim_f rfl ?_
                                    conv => arg 3; whnf
                                    exact sim_ret rfl
                                · skip
                                  conv => arg 3; whnf
                                  refine sim_let (x' := (a.edges.length : Int)) (len_enc edgeD a.edges) ?_
                                  conv => arg 3; whnf
                                  refine sim_br rfl ?_ ?_
                                  · skip
                                    conv => arg 3; whnf
                                    refine sim_f rfl ?_
                                    conv => arg 3; whnf
                                    exact sim_ret rfl
                                  · skip
                                    conv => arg 3; whnf
                                    refine sim_t rfl ?_
                                    conv => arg 3; whnf
                                    refine sim_call g_desc_Same_e (g_desc_Same_ok false false false false t0 t1 t2 t3 (DescT.mk a.period a.deadline a.parts a.edges a.futures x8) a) rfl fun x32 hx32 => ?_
                                    conv => arg 3; whnf
                                    refine sim_br rfl ?_ ?_
                                    · skip
                                      conv => arg 3; whnf
                                      refine sim_let (x' := (a.barriers.length : Int)) (len_enc barrierD a.barriers) ?_
                                      conv => arg 3; whnf
                                      refine sim_br rfl ?_ ?_
                                      · skip
                                        conv => arg 3; whnf
                                        refine sim_t rfl ?_
                                        conv => arg 3; whnf
                                        exact sim_ret rfl
                                      · skip
                                        conv => arg 3; whnf
                                        refine sim_f rfl ?_
                                        conv => arg 3; whnf
                                        exact sim_ret rfl
                                    · skip
                                      conv => arg 3; whnf
                                      refine sim_let (x' := (a.barriers.length : Int)) (len_enc barrierD a.barriers) ?_
                                      conv => arg 3; whnf
                                      refine sim_br rfl ?_ ?_
                                      · skip
                                        conv => arg 3; whnf
                                        refine sim_f rfl ?_
                                        conv => arg 3; whnf
                                        exact sim_ret rfl
                                      · skip
                                        conv => arg 3; whnf
                                        refine sim_t rfl ?_
                                        conv => arg 3; whnf
                                        exact sim_ret rfl
                              · skip
                                conv => arg 3; whnf
                                exact sim_ret rfl
                            · skip
                              conv => arg 3; whnf
                              exact sim_ret rfl
                          · skip
                            conv => arg 3; whnf
                            exact sim_ret rfl
                    · skip
                      exact sim_none
                  · skip
                    exact sim_none
                · skip
                  exact sim_none
              · skip
                exact sim_none
            · skip
              exact sim_none
          · skip
            conv => arg 3; whnf
            refine sim_let (x' := (a.futures.length : Int)) (len_enc futureD a.futures) ?_
            conv => arg 3; whnf
            refine sim_br rfl ?_ ?_
            · skip
              conv => arg 3; whnf
              refine sim_br rfl ?_ ?_
              · skip
                conv => arg 3; whnf
                refine sim_br (sl_c0 futureD a.futures b.toNat) ?_ ?_
                · skip
                  conv => arg 3; whnf
                  refine sim_let (x' := 0) rfl ?_
                  conv => arg 3; whnf
                  refine sim_let (x' := b.toNat) (by first | rfl | rw [List.length_map] | rw [dt_enc, List.length_map]) ?_
                  conv => arg 3; whnf
                  refine sim_br rfl ?_ ?_
                  · skip
                    conv => arg 3; whnf
                    refine sim_br (sl_c_all futureD a.futures (w64 (b + 1)).toNat) ?_ ?_
                    · skip
                      conv => arg 3; whnf
                      refine sim_let (x' := (w64 (b + 1)).toNat) rfl ?_
                      conv => arg 3; whnf
                      refine sim_let (x' := ((List.length a.futures) - (w64 (b + 1)).toNat)) (by first | rfl | rw [List.length_map] | rw [dt_enc, List.length_map]) ?_
                      conv => arg 3; whnf
                      refine sim_t (by rw [dt_enc]; exact szAt_map (f := futureD) (fun _ => ⟨rfl, rfl⟩) _ 0) ?_
                      conv => arg 3; whnf
                      refine sim_br (ble_cut futureD a.futures (List.take ((List.length a.futures) - (w64 (b + 1)).toNat) (List.drop (w64 (b + 1)).toNat a.futures)) _ (dt_enc futureD _ _ _) (0 + b.toNat)) ?_ ?_
                      · skip
                        conv => arg 3; whnf
                        refine sim_let (cut_enc futureD a.futures (List.take ((List.length a.futures) - (w64 (b + 1)).toNat) (List.drop (w64 (b + 1)).toNat a.futures)) _ (dt_enc futureD _ _ _) 0 b.toNat) ?_
                        conv => arg 3; whnf
                        refine sim_let (x' := (b.toNat + List.length (List.take ((List.length a.futures) - (w64 (b + 1)).toNat) (List.drop (w64 (b + 1)).toNat a.futures)))) (by rw [dt_enc, List.length_map]) ?_
                        conv => arg 3; whnf
                        refine sim_let (x' := (a.barriers.length : Int)) (len_enc barrierD a.barriers) ?_
                        conv => arg 3; whnf
                        refine sim_br rfl ?_ ?_
                        · skip
                          conv => arg 3; whnf
                          refine sim_br rfl ?_ ?_
                          · skip
                            conv => arg 3; whnf
                            refine sim_br (sl_c0 barrierD x8 b.toNat) ?_ ?_
                            · skip
                              conv => arg 3; whnf
                              refine sim_let (x' := 0) rfl ?_
                              conv => arg 3; whnf
                              refine sim_let (x' := b.toNat) (by first | rfl | rw [List.length_map] | rw [dt_enc, List.length_map]) ?_
                              conv => arg 3; whnf
                              refine sim_br rfl ?_ ?_
                              · skip
                                conv => arg 3; whnf
                                refine sim_br (sl_c_all barrierD x8 (w64 (b + 1)).toNat) ?_ ?_
                                · skip
                                  conv => arg 3; whnf
                                  refine sim_let (x' := (w64 (b + 1)).toNat) rfl ?_
                                  conv => arg 3; whnf
                                  refine sim_let (x' := ((List.length x8) - (w64 (b + 1)).toNat)) (by first | rfl | rw [List.length_map] | rw [dt_enc, List.length_map]) ?_
                                  conv => arg 3; whnf
                                  refine sim_t (by rw [dt_enc]; exact szAt_map (f := barrierD) (fun _ => ⟨rfl, rfl⟩) _ 0) ?_
                                  conv => arg 3; whnf
                                  refine sim_br (ble_cut barrierD x8 (List.take ((List.length x8) - (w64 (b + 1)).toNat) (List.drop (w64 (b + 1)).toNat x8)) _ (dt_enc barrierD _ _ _) (0 + b.toNat)) ?_ ?_
                                  · skip
                                    conv => arg 3; whnf
                                    refine sim_let (cut_enc barrierD x8 (List.take ((List.length x8) - (w64 (b + 1)).toNat) (List.drop (w64 (b + 1)).toNat x8)) _ (dt_enc barrierD _ _ _) 0 b.toNat) ?_
                                    conv => arg 3; whnf
                                    refine sim_let (x' := (b.toNat + List.length (List.take ((List.length x8) - (w64 (b + 1)).toNat) (List.drop (w64 (b + 1)).toNat x8)))) (by rw [dt_enc, List.length_map]) ?_
                                    conv => arg 3; whnf
                                    refine sim_call g_desc_Check_e (g_desc_Check_ok false false false false (DescT.mk a.period a.deadline a.parts a.edges a.futures x6)) rfl fun x33 hx33 => ?_
                                    conv => arg 3; whnf
                                    refine sim_br rfl ?_ ?_
                                    · skip
                                      conv => arg 3; whnf
                                      refine sim_call g_desc_Check_e (g_desc_Check_ok false false false false (DescT.mk a.period a.deadline a.parts a.edges (List.take (b.toNat + List.length (List.take ((List.length a.futures) - (w64 (b + 1)).toNat) (List.drop (w64 (b + 1)).toNat a.futures))) (List.drop 0 (List.take (0 + b.toNat) a.futures ++ ((List.take ((List.length a.futures) - (w64 (b + 1)).toNat) (List.drop (w64 (b + 1)).toNat a.futures)) ++ List.drop (0 + b.toNat + List.length (List.take ((List.length a.futures) - (w64 (b + 1)).toNat) (List.drop (w64 (b + 1)).toNat a.futures))) a.futures)))) x7)) (by first | rfl | simp only [dt_enc]) fun x34 hx34 => ?_
                                      conv => arg 3; whnf
                                      refine sim_br rfl ?_ ?_
                                      · skip
                                        conv => arg 3; whnf
                                        refine sim_call g_desc_Check_e (g_desc_Check_ok false false false false (DescT.mk a.period a.deadline a.parts a.edges a.futures (List.take (b.toNat + List.length (List.take ((List.length x8) - (w64 (b + 1)).toNat) (List.drop (w64 (b + 1)).toNat x8))) (List.drop 0 (List.take (0 + b.toNat) x8 ++ ((List.take ((List.length x8) - (w64 (b + 1)).toNat) (List.drop (w64 (b + 1)).toNat x8)) ++ List.drop (0 + b.toNat + List.length (List.take ((List.length x8) - (w64 (b + 1)).toNat) (List.drop (w64 (b + 1)).toNat x8))) x8)))))) (by first | rfl | simp only [dt_enc]) fun x35 hx35 => ?_
                                        conv => arg 3; whnf
                                        refine sim_br rfl ?_ ?_
                                        · skip
                                          conv => arg 3; whnf
                                          refine sim_call g_desc_Same_e (g_desc_Same_ok false false false false t0 t1 t2 t3 (DescT.mk a.period a.deadline a.parts a.edges a.futures x6) a) rfl fun x36 hx36 => ?_
                                          conv => arg 3; whnf
                                          refine sim_br rfl ?_ ?_
                                          · skip
                                            conv => arg 3; whnf
                                            refine sim_let (x' := (a.edges.length : Int)) (len_enc edgeD a.edges) ?_
                                            conv => arg 3; whnf
                                            refine sim_br rfl ?_ ?_
                                            · skip
                                              conv => arg 3; whnf
                                              refine sim_t rfl ?_
                                              conv => arg 3; whnf
                                              refine sim_call g_desc_Same_e (g_desc_Same_ok false false false false t0 t1 t2 t3 (DescT.mk a.period a.deadline a.parts a.edges a.futures (List.take (b.toNat + List.length (List.take ((List.length x8) - (w64 (b + 1)).toNat) (List.drop (w64 (b + 1)).toNat x8))) (List.drop 0 (List.take (0 + b.toNat) x8 ++ ((List.take ((List.length x8) - (w64 (b + 1)).toNat) (List.drop (w64 (b + 1)).toNat x8)) ++ List.drop (0 + b.toNat + List.length (List.take ((List.length x8) - (w64 (b + 1)).toNat) (List.drop (w64 (b + 1)).toNat x8))) x8))))) a) (by first | rfl | simp only [dt_enc]) fun x37 hx37 => ?_
                                              conv => arg 3; whnf
                                              refine sim_br rfl ?_ ?_
                                              · skip
                                                conv => arg 3; whnf
                                                refine sim_let (x' := (a.barriers.length : Int)) (len_enc barrierD a.barriers) ?_
                                                conv => arg 3; whnf
                                                refine sim_br rfl ?_ ?_
                                                · skip
                                                  conv => arg 3; whnf
                                                  refine sim_t rfl ?_
                                                  conv => arg 3; whnf
                                                  exact sim_ret rfl
                                                · skip
                                                  conv => arg 3; whnf
                                                  refine sim_f rfl ?_
                                                  conv => arg 3; whnf
                                                  exact sim_ret rfl
                                              · skip
                                                conv => arg 3; whnf
                                                refine sim_let (x' := (a.barriers.length : Int)) (len_enc barrierD a.barriers) ?_
                                                conv => arg 3; whnf
                                                refine sim_br rfl ?_ ?_
                                                · skip
                                                  conv => arg 3; whnf
                                                  refine sim_f rfl ?_
                                                  conv => arg 3; whnf
                                                  exact sim_ret rfl
                                                · skip
                                                  conv => arg 3; whnf
                                                  refine sim_t rfl ?_
                                                  conv => arg 3; whnf
                                                  exact sim_ret rfl
                                            · skip
                                              conv => arg 3; whnf
                                              refine sim_f rfl ?_
                                              conv => arg 3; whnf
                                              exact sim_ret rfl
                                          · skip
                                            conv => arg 3; whnf
                                            refine sim_let (x' := (a.edges.length : Int)) (len_enc edgeD a.edges) ?_
                                            conv => arg 3; whnf
                                            refine sim_br rfl ?_ ?_
                                            · skip
                                              conv => arg 3; whnf
                                              refine sim_f rfl ?_
                                              conv => arg 3; whnf
                                              exact sim_ret rfl
                                            · skip
                                              conv => arg 3; whnf
                                              refine sim_t rfl ?_
                                              conv => arg 3; whnf
                                              refine sim_call g_desc_Same_e (g_desc_Same_ok false false false false t0 t1 t2 t3 (DescT.mk a.period a.deadline a.parts a.edges a.futures (List.take (b.toNat + List.length (List.take ((List.length x8) - (w64 (b + 1)).toNat) (List.drop (w64 (b + 1)).toNat x8))) (List.drop 0 (List.take (0 + b.toNat) x8 ++ ((List.take ((List.length x8) - (w64 (b + 1)).toNat) (List.drop (w64 (b + 1)).toNat x8)) ++ List.drop (0 + b.toNat + List.length (List.take ((List.length x8) - (w64 (b + 1)).toNat) (List.drop (w64 (b + 1)).toNat x8))) x8))))) a) (by first | rfl | simp only [dt_enc]) fun x38 hx38 => ?_
                                              conv => arg 3; whnf
                                              refine sim_br rfl ?_ ?_
                                              · skip
                                                conv => arg 3; whnf
                                                refine sim_let (x' := (a.barriers.length : Int)) (len_enc barrierD a.barriers) ?_
                                                conv => arg 3; whnf
                                                refine sim_br rfl ?_ ?_
                                                · skip
                                                  conv => arg 3; whnf
                                                  refine sim_t rfl ?_
                                                  conv => arg 3; whnf
                                                  exact sim_ret rfl
                                                · skip
                                                  conv => arg 3; whnf
                                                  refine sim_f rfl ?_
                                                  conv => arg 3; whnf
                                                  exact sim_ret rfl
                                              · skip
                                                conv => arg 3; whnf
                                                refine sim_let (x' := (a.barriers.length : Int)) (len_enc barrierD a.barriers) ?_
                                                conv => arg 3; whnf
                                                refine sim_br rfl ?_ ?_
                                                · skip
                                                  conv => arg 3; whnf
                                                  refine sim_f rfl ?_
                                                  conv => arg 3; whnf
                                                  exact sim_ret rfl
                                                · skip
                                                  conv => arg 3; whnf
                                                  refine sim_t rfl ?_
                                                  conv => arg 3; whnf
                                                  exact sim_ret rfl
                                        · skip
                                          conv => arg 3; whnf
                                          exact sim_ret rfl
                                      · skip
                                        conv => arg 3; whnf
                                        exact sim_ret rfl
                                    · skip
                                      conv => arg 3; whnf
                                      exact sim_ret rfl
                                  · skip
                                    exact sim_none
                                · skip
                                  exact sim_none
                              · skip
                                exact sim_none
                            · skip
                              exact sim_none
                          · skip
                            exact sim_none
                        · skip
                          conv => arg 3; whnf
                          refine sim_call g_desc_Check_e (g_desc_Check_ok false false false false (DescT.mk a.period a.deadline a.parts a.edges a.futures x6)) rfl fun x39 hx39 => ?_
                          conv => arg 3; whnf
                          refine sim_br rfl ?_ ?_
                          · skip
                            conv => arg 3; whnf
                            refine sim_call g_desc_Check_e (g_desc_Check_ok false false false false (DescT.mk a.period a.deadline a.parts a.edges (List.take (b.toNat + List.length (List.take ((List.length a.futures) - (w64 (b + 1)).toNat) (List.drop (w64 (b + 1)).toNat a.futures))) (List.drop 0 (List.take (0 + b.toNat) a.futures ++ ((List.take ((List.length a.futures) - (w64 (b + 1)).toNat) (List.drop (w64 (b + 1)).toNat a.futures)) ++ List.drop (0 + b.toNat + List.length (List.take ((List.length a.futures) - (w64 (b + 1)).toNat) (List.drop (w64 (b + 1)).toNat a.futures))) a.futures)))) x7)) (by first | rfl | simp only [dt_enc]) fun x40 hx40 => ?_
                            conv => arg 3; whnf
                            refine sim_br rfl ?_ ?_
                            · skip
                              conv => arg 3; whnf
                              refine sim_call g_desc_Check_e (g_desc_Check_ok false false false false (DescT.mk a.period a.deadline a.parts a.edges a.futures x8)) rfl fun x41 hx41 => ?_
                              conv => arg 3; whnf
                              refine sim_br rfl ?_ ?_
                              · skip
                                conv => arg 3; whnf
                                refine sim_call g_desc_Same_e (g_desc_Same_ok false false false false t0 t1 t2 t3 (DescT.mk a.period a.deadline a.parts a.edges a.futures x6) a) rfl fun x42 hx42 => ?_
                                conv => arg 3; whnf
                                refine sim_br rfl ?_ ?_
                                · skip
                                  conv => arg 3; whnf
                                  refine sim_let (x' := (a.edges.length : Int)) (len_enc edgeD a.edges) ?_
                                  conv => arg 3; whnf
                                  refine sim_br rfl ?_ ?_
                                  · skip
                                    conv => arg 3; whnf
                                    refine sim_t rfl ?_
                                    conv => arg 3; whnf
                                    refine sim_call g_desc_Same_e (g_desc_Same_ok false false false false t0 t1 t2 t3 (DescT.mk a.period a.deadline a.parts a.edges a.futures x8) a) rfl fun x43 hx43 => ?_
                                    conv => arg 3; whnf
                                    refine sim_br rfl ?_ ?_
                                    · skip
                                      conv => arg 3; whnf
                                      refine sim_let (x' := (a.barriers.length : Int)) (len_enc barrierD a.barriers) ?_
                                      conv => arg 3; whnf
                                      refine sim_br rfl ?_ ?_
                                      · skip
                                        conv => arg 3; whnf
                                        refine sim_t rfl ?_
                                        conv => arg 3; whnf
                                        exact sim_ret rfl
                                      · skip
                                        conv => arg 3; whnf
                                        refine sim_f rfl ?_
                                        conv => arg 3; whnf
                                        exact sim_ret rfl
                                    · skip
                                      conv => arg 3; whnf
                                      refine sim_let (x' := (a.barriers.length : Int)) (len_enc barrierD a.barriers) ?_
                                      conv => arg 3; whnf
                                      refine sim_br rfl ?_ ?_
                                      · skip
                                        conv => arg 3; whnf
                                        refine sim_f rfl ?_
                                        conv => arg 3; whnf
                                        exact sim_ret rfl
                                      · skip
                                        conv => arg 3; whnf
                                        refine sim_t rfl ?_
                                        conv => arg 3; whnf
                                        exact sim_ret rfl
                                  · skip
                                    conv => arg 3; whnf
                                    refine sim_f rfl ?_
                                    conv => arg 3; whnf
                                    exact sim_ret rfl
                                · skip
                                  conv => arg 3; whnf
                                  refine sim_let (x' := (a.edges.length : Int)) (len_enc edgeD a.edges) ?_
                                  conv => arg 3; whnf
                                  refine sim_br rfl ?_ ?_
                                  · skip
                                    conv => arg 3; whnf
                                    refine sim_f rfl ?_
                                    conv => arg 3; whnf
                                    exact sim_ret rfl
                                  · skip
                                    conv => arg 3; whnf
                                    refine sim_t rfl ?_
                                    conv => arg 3; whnf
                                    refine sim_call g_desc_Same_e (g_desc_Same_ok false false false false t0 t1 t2 t3 (DescT.mk a.period a.deadline a.parts a.edges a.futures x8) a) rfl fun x44 hx44 => ?_
                                    conv => arg 3; whnf
                                    refine sim_br rfl ?_ ?_
                                    · skip
                                      conv => arg 3; whnf
                                      refine sim_let (x' := (a.barriers.length : Int)) (len_enc barrierD a.barriers) ?_
                                      conv => arg 3; whnf
                                      refine sim_br rfl ?_ ?_
                                      · skip
                                        conv => arg 3; whnf
                                        refine sim_t rfl ?_
                                        conv => arg 3; whnf
                                        exact sim_ret rfl
                                      · skip
                                        conv => arg 3; whnf
                                        refine sim_f rfl ?_
                                        conv => arg 3; whnf
                                        exact sim_ret rfl
                                    · skip
                                      conv => arg 3; whnf
                                      refine sim_let (x' := (a.barriers.length : Int)) (len_enc barrierD a.barriers) ?_
                                      conv => arg 3; whnf
                                      refine sim_br rfl ?_ ?_
                                      · skip
                                        conv => arg 3; whnf
                                        refine sim_f rfl ?_
                                        conv => arg 3; whnf
                                        exact sim_ret rfl
                                      · skip
                                        conv => arg 3; whnf
                                        refine sim_t rfl ?_
                                        conv => arg 3; whnf
                                        exact sim_ret rfl
                              · skip
                                conv => arg 3; whnf
                                exact sim_ret rfl
                            · skip
                              conv => arg 3; whnf
                              exact sim_ret rfl
                          · skip
                            conv => arg 3; whnf
                            exact sim_ret rfl
                      · skip
                        exact sim_none
                    · skip
                      exact sim_none
                  · skip
                    exact sim_none
                · skip
                  exact sim_none
              · skip
                exact sim_none
            · skip
              conv => arg 3; whnf
              refine sim_let (x' := (a.barriers.length : Int)) (len_enc barrierD a.barriers) ?_
              conv => arg 3; whnf
              refine sim_br rfl ?_ ?_
              · skip
                conv => arg 3; whnf
                refine sim_br rfl ?_ ?_
                · skip
                  conv => arg 3; whnf
                  refine sim_br (sl_c0 barrierD x8 b.toNat) ?_ ?_
                  · skip
                    conv => arg 3; whnf
                    refine sim_let (x' := 0) rfl ?_
                    conv => arg 3; whnf
                    refine sim_let (x' := b.toNat) (by first | rfl | rw [List.length_map] | rw [dt_enc, List.length_map]) ?_
                    conv => arg 3; whnf
                    refine sim_br rfl ?_ ?_
                    · skip
                      conv => arg 3; whnf
                      refine sim_br (sl_c_all barrierD x8 (w64 (b + 1)).toNat) ?_ ?_
                      · skip
                        conv => arg 3; whnf
                        refine sim_let (x' := (w64 (b + 1)).toNat) rfl ?_
                        conv => arg 3; whnf
                        refine sim_let (x' := ((List.length x8) - (w64 (b + 1)).toNat)) (by first | rfl | rw [List.length_map] | rw [dt_enc, List.length_map]) ?_
                        conv => arg 3; whnf
                        refine sim_t (by rw [dt_enc]; exact szAt_map (f := barrierD) (fun _ => ⟨rfl, rfl⟩) _ 0) ?_
                        conv => arg 3; whnf
                        refine sim_br (ble_cut barrierD x8 (List.take ((List.length x8) - (w64 (b + 1)).toNat) (List.drop (w64 (b + 1)).toNat x8)) _ (dt_enc barrierD _ _ _) (0 + b.toNat)) ?_ ?_
                        · skip
                          conv => arg 3; whnf
                          refine sim_let (cut_enc barrierD x8 (List.take ((List.length x8) - (w64 (b + 1)).toNat) (List.drop (w64 (b + 1)).toNat x8)) _ (dt_enc barrierD _ _ _) 0 b.toNat) ?_
                          conv => arg 3; whnf
                          refine sim_let (x' := (b.toNat + List.length (List.take ((List.length x8) - (w64 (b + 1)).toNat) (List.drop (w64 (b + 1)).toNat x8)))) (by rw [dt_enc, List.length_map]) ?_
                          conv => arg 3; whnf
                          refine sim_call g_desc_Check_e (g_desc_Check_ok false false false false (DescT.mk a.period a.deadline a.parts a.edges a.futures x6)) rfl fun x45 hx45 => ?_
                          conv => arg 3; whnf
                          refine sim_br rfl ?_ ?_
                          · skip
                            conv => arg 3; whnf
                            refine sim_call g_desc_Check_e (g_desc_Check_ok false false false false (DescT.mk a.period a.deadline a.parts a.edges a.futures x7)) rfl fun x46 hx46 => ?_
                            conv => arg 3; whnf
                            refine sim_br rfl ?_ ?_
                            · skip
                              conv => arg 3; whnf
                              refine sim_call g_desc_Check_e (g_desc_Check_ok false false false false (DescT.mk a.period a.deadline a.parts a.edges a.futures (List.take (b.toNat + List.length (List.take ((List.length x8) - (w64 (b + 1)).toNat) (List.drop (w64 (b + 1)).toNat x8))) (List.drop 0 (List.take (0 + b.toNat) x8 ++ ((List.take ((List.length x8) - (w64 (b + 1)).toNat) (List.drop (w64 (b + 1)).toNat x8)) ++ List.drop (0 + b.toNat + List.length (List.take ((List.length x8) - (w64 (b + 1)).toNat) (List.drop (w64 (b + 1)).toNat x8))) x8)))))) (by first | rfl | simp only [dt_enc]) fun x47 hx47 => ?_
                              conv => arg 3; whnf
                              refine sim_br rfl ?_ ?_
                              · skip
                                conv => arg 3; whnf
                                refine sim_call g_desc_Same_e (g_desc_Same_ok false false false false t0 t1 t2 t3 (DescT.mk a.period a.deadline a.parts a.edges a.futures x6) a) rfl fun x48 hx48 => ?_
                                conv => arg 3; whnf
                                refine sim_br rfl ?_ ?_
                                · skip
                                  conv => arg 3; whnf
                                  refine sim_let (x' := (a.edges.length : Int)) (len_enc edgeD a.edges) ?_
                                  conv => arg 3; whnf
                                  refine sim_br rfl ?_ ?_
                                  · skip
                                    conv => arg 3; whnf
                                    refine sim_t rfl ?_
                                    conv => arg 3; whnf
                                    refine sim_call g_desc_Same_e (g_desc_Same_ok false false false false t0 t1 t2 t3 (DescT.mk a.period a.deadline a.parts a.edges a.futures (List.take (b.toNat + List.length (List.take ((List.length x8) - (w64 (b + 1)).toNat) (List.drop (w64 (b + 1)).toNat x8))) (List.drop 0 (List.take (0 + b.toNat) x8 ++ ((List.take ((List.length x8) - (w64 (b + 1)).toNat) (List.drop (w64 (b + 1)).toNat x8)) ++ List.drop (0 + b.toNat + List.length (List.take ((List.length x8) - (w64 (b + 1)).toNat) (List.drop (w64 (b + 1)).toNat x8))) x8))))) a) (by first | rfl | simp only [dt_enc]) fun x49 hx49 => ?_
                                    conv => arg 3; whnf
                                    refine sim_br rfl ?_ ?_
                                    · skip
                                      conv => arg 3; whnf
                                      refine sim_let (x' := (a.barriers.length : Int)) (len_enc barrierD a.barriers) ?_
                                      conv => arg 3; whnf
                                      refine sim_br rfl ?_ ?_
                                      · skip
                                        conv => arg 3; whnf
                                        refine sim_t rfl ?_
                                        conv => arg 3; whnf
                                        exact sim_ret rfl
                                      · skip
                                        conv => arg 3; whnf
                                        refine sim_f rfl ?_
                                        conv => arg 3; whnf
                                        exact sim_ret rfl
                                    · skip
                                      conv => arg 3; whnf
                                      refine sim_let (x' := (a.barriers.length : Int)) (len_enc barrierD a.barriers) ?_
                                      conv => arg 3; whnf
                                      refine sim_br rfl ?_ ?_
                                      · skip
                                        conv => arg 3; whnf
                                        refine sim_f rfl ?_
                                        conv => arg 3; whnf
                                        exact sim_ret rfl
                                      · skip
                                        conv => arg 3; whnf
                                        refine sim_t rfl ?_
                                        conv => arg 3; whnf
                                        exact sim_ret rfl
                                  · skip
                                    conv => arg 3; whnf
                                    refine sim_f rfl ?_
                                    conv => arg 3; whnf
                                    exact sim_ret rfl
                                · skip
                                  conv => arg 3; whnf
                                  refine sim_let (x' := (a.edges.length : Int)) (len_enc edgeD a.edges) ?_
                                  conv => arg 3; whnf
                                  refine sim_br rfl ?_ ?_
                                  · skip
                                    conv => arg 3; whnf
                                    refine sim_f rfl ?_
                                    conv => arg 3; whnf
                                    exact sim_ret rfl
                                  · skip
                                    conv => arg 3; whnf
                                    refine sim_t rfl ?_
                                    conv => arg 3; whnf
                                    refine sim_call g_desc_Same_e (g_desc_Same_ok false false false false t0 t1 t2 t3 (DescT.mk a.period a.deadline a.parts a.edges a.futures (List.take (b.toNat + List.length (List.take ((List.length x8) - (w64 (b + 1)).toNat) (List.drop (w64 (b + 1)).toNat x8))) (List.drop 0 (List.take (0 + b.toNat) x8 ++ ((List.take ((List.length x8) - (w64 (b + 1)).toNat) (List.drop (w64 (b + 1)).toNat x8)) ++ List.drop (0 + b.toNat + List.length (List.take ((List.length x8) - (w64 (b + 1)).toNat) (List.drop (w64 (b + 1)).toNat x8))) x8))))) a) (by first | rfl | simp only [dt_enc]) fun x50 hx50 => ?_
                                    conv => arg 3; whnf
                                    refine sim_br rfl ?_ ?_
                                    · skip
                                      conv => arg 3; whnf
                                      refine sim_let (x' := (a.barriers.length : Int)) (len_enc barrierD a.barriers) ?_
                                      conv => arg 3; whnf
                                      refine sim_br rfl ?_ ?_
                                      · skip
                                        conv => arg 3; whnf
                                        refine sim_t rfl ?_
                                        conv => arg 3; whnf
                                        exact sim_ret rfl
                                      · skip
                                        conv => arg 3; whnf
                                        refine sim_f rfl ?_
                                        conv => arg 3; whnf
                                        exact sim_ret rfl
                                    · skip
                                      conv => arg 3; whnf
                                      refine sim_let (x' := (a.barriers.length : Int)) (len_enc barrierD a.barriers) ?_
                                      conv => arg 3; whnf
                                      refine sim_br rfl ?_ ?_
                                      · skip
                                        conv => arg 3; whnf
                                        refine sim_f rfl ?_
                                        conv => arg 3; whnf
                                        exact sim_ret rfl
                                      · skip
                                        conv => arg 3; whnf
                                        refine sim_t rfl ?_
                                        conv => arg 3; whnf
                                        exact sim_ret rfl
                              · skip
                                conv => arg 3; whnf
                                exact sim_ret rfl
                            · skip
                              conv => arg 3; whnf
                              exact sim_ret rfl
                          · skip
                            conv => arg 3; whnf
                            exact sim_ret rfl
                        · skip
                          exact sim_none
                      · skip
                        exact sim_none
                    · skip
                      exact sim_none
                  · skip
                    exact sim_none
                · skip
                  exact sim_none
              · skip
                conv => arg 3; whnf
                refine sim_call g_desc_Check_e (g_desc_Check_ok false false false false (DescT.mk a.period a.deadline a.parts a.edges a.futures x6)) rfl fun x51 hx51 => ?_
                conv => arg 3; whnf
                refine sim_br rfl ?_ ?_
                · skip
                  conv => arg 3; whnf
                  refine sim_call g_desc_Check_e (g_desc_Check_ok false false false false (DescT.mk a.period a.deadline a.parts a.edges a.futures x7)) rfl fun x52 hx52 => ?_
                  conv => arg 3; whnf
                  refine sim_br rfl ?_ ?_
                  · skip
                    conv => arg 3; whnf
                    refine sim_call g_desc_Check_e (g_desc_Check_ok false false false false (DescT.mk a.period a.deadline a.parts a.edges a.futures x8)) rfl fun x53 hx53 => ?_
                    conv => arg 3; whnf
                    refine sim_br rfl ?_ ?_
                    · skip
                      conv => arg 3; whnf
                      refine sim_call g_desc_Same_e (g_desc_Same_ok false false false false t0 t1 t2 t3 (DescT.mk a.period a.deadline a.parts a.edges a.futures x6) a) rfl fun x54 hx54 => ?_
                      conv => arg 3; whnf
                      refine sim_br rfl ?_ ?_
                      · skip
                        conv => arg 3; whnf
                        refine sim_let (x' := (a.edges.length : Int)) (len_enc edgeD a.edges) ?_
                        conv => arg 3; whnf
                        refine sim_br rfl ?_ ?_
                        · skip
                          conv => arg 3; whnf
                          refine sim_t rfl ?_
                          conv => arg 3; whnf
                          refine sim_call g_desc_Same_e (g_desc_Same_ok false false false false t0 t1 t2 t3 (DescT.mk a.period a.deadline a.parts a.edges a.futures x8) a) rfl fun x55 hx55 => ?_
                          conv => arg 3; whnf
                          refine sim_br rfl ?_ ?_
                          · skip
                            conv => arg 3; whnf
                            refine sim_let (x' := (a.barriers.length : Int)) (len_enc barrierD a.barriers) ?_
                            conv => arg 3; whnf
                            refine sim_br rfl ?_ ?_
                            · skip
                              conv => arg 3; whnf
                              refine sim_t rfl ?_
                              conv => arg 3; whnf
                              exact sim_ret rfl
                            · skip
                              conv => arg 3; whnf
                              refine sim_f rfl ?_
                              conv => arg 3; whnf
                              exact sim_ret rfl
                          · skip
                            conv => arg 3; whnf
                            refine sim_let (x' := (a.barriers.length : Int)) (len_enc barrierD a.barriers) ?_
                            conv => arg 3; whnf
                            refine sim_br rfl ?_ ?_
                            · skip
                              conv => arg 3; whnf
                              refine sim_f rfl ?_
                              conv => arg 3; whnf
                              exact sim_ret rfl
                            · skip
                              conv => arg 3; whnf
                              refine sim_t rfl ?_
                              conv => arg 3; whnf
                              exact sim_ret rfl
                        · skip
                          conv => arg 3; whnf
                          refine sim_f rfl ?_
                          conv => arg 3; whnf
                          exact sim_ret rfl
                      · skip
                        conv => arg 3; whnf
                        refine sim_let (x' := (a.edges.length : Int)) (len_enc edgeD a.edges) ?_
                        conv => arg 3; whnf
                        refine sim_br rfl ?_ ?_
                        · skip
                          conv => arg 3; whnf
                          refine sim_f rfl ?_
                          conv => arg 3; whnf
                          exact sim_ret rfl
                        · skip
                          conv => arg 3; whnf
                          refine sim_t rfl ?_
                          conv => arg 3; whnf
                          refine sim_call g_desc_Same_e (g_desc_Same_ok false false false false t0 t1 t2 t3 (DescT.mk a.period a.deadline a.parts a.edges a.futures x8) a) rfl fun x56 hx56 => ?_
                          conv => arg 3; whnf
                          refine sim_br rfl ?_ ?_
                          · skip
                            conv => arg 3; whnf
                            refine sim_let (x' := (a.barriers.length : Int)) (len_enc barrierD a.barriers) ?_
                            conv => arg 3; whnf
                            refine sim_br rfl ?_ ?_
                            · skip
                              conv => arg 3; whnf
                              refine sim_t rfl ?_
                              conv => arg 3; whnf
                              exact sim_ret rfl
                            · skip
                              conv => arg 3; whnf
                              refine sim_f rfl ?_
                              conv => arg 3; whnf
                              exact sim_ret rfl
                          · skip
                            conv => arg 3; whnf
                            refine sim_let (x' := (a.barriers.length : Int)) (len_enc barrierD a.barriers) ?_
                            conv => arg 3; whnf
                            refine sim_br rfl ?_ ?_
                            · skip
                              conv => arg 3; whnf
                              refine sim_f rfl ?_
                              conv => arg 3; whnf
                              exact sim_ret rfl
                            · skip
                              conv => arg 3; whnf
                              refine sim_t rfl ?_
                              conv => arg 3; whnf
                              exact sim_ret rfl
                    · skip
                      conv => arg 3; whnf
                      exact sim_ret rfl
                  · skip
                    conv => arg 3; whnf
                    exact sim_ret rfl
                · skip
                  conv => arg 3; whnf
                  exact sim_ret rfl
    · skip
      conv => arg 3; whnf
      refine sim_call D.bool (g_law05_awake_ok) rfl fun x57 hx57 => ?_
      conv => arg 3; whnf
      refine sim_br rfl ?_ ?_
      · skip
        conv => arg 3; whnf
        exact sim_ret rfl
      · skip
        conv => arg 3; whnf
        exact sim_ret rfl
  · skip
    conv => arg 3; whnf
    refine sim_call D.bool (g_law05_awake_ok) rfl fun x58 hx58 => ?_
    conv => arg 3; whnf
    refine sim_br rfl ?_ ?_
    · skip
      conv => arg 3; whnf
      exact sim_ret rfl
    · skip
      conv => arg 3; whnf
      exact sim_ret rfl
end Go.Proofs.YtakebhleglnpjaaDoor
