/- The walks: the evaluator says what the plain text says. -/
import Derived.Test.YtljgncbdagmeeaaDoorS1
import Derived.Test.YtljgncbdagmeeaaDoorL1
import Derived.KernelRfl
namespace Go.Proofs.YtljgncbdagmeeaaDoor
open Go Go.Proofs.YtljgncbdagmeeaaDoorE
set_option linter.unusedVariables false
set_option linter.unusedSimpArgs false

theorem g_law08_awake_ok : ∀ r, g_law08_awake = some r → evD ctx 38 [] = some (D.bool r) := fun r h => by
  cases h
  exact evD_of 100 (by kernel_rfl)
def g_eval_value_e (r : Int) : D := (D.int .u32 r)

set_option maxRecDepth 100000 in
set_option maxHeartbeats 40000000 in
theorem g_eval_value_ok (a : Int) : ∀ r, (g_eval_value a) = some r → evD ctx 74 [(.d (intD a))] = some (g_eval_value_e r) := by
 show Says _ (fun r rhs => rhs = some (g_eval_value_e r)) _
 unfold g_eval_value
 rw [evD_K ctx 74 fn74 _ rfl rfl]
 conv => arg 3; whnf
 exact sim_ret rfl
def g_eval_ways_e : Unit → D
  | r => (D.agg [(D.int .u32 0), (D.fn 114 []), (D.int .u32 1), (D.fn 115 []), (D.int .u32 0), (D.fn 116 []), (D.int .u32 7), (D.fn 117 [])])

set_option maxRecDepth 100000 in
set_option maxHeartbeats 40000000 in
theorem g_eval_ways_ok : ∀ r, g_eval_ways = some r → evD ctx 75 [] = some (g_eval_ways_e r) := by
 show Says _ (fun r rhs => rhs = some (g_eval_ways_e r)) _
 unfold g_eval_ways
 rw [evD_K ctx 75 fn75 _ rfl rfl]
 conv => arg 3; whnf
 exact sim_ret rfl
def g_eval_ways_1_e (r : Int) : D := (D.int .u32 r)

set_option maxRecDepth 100000 in
set_option maxHeartbeats 40000000 in
theorem g_eval_ways_1_ok (a : Int) (b : Int) : ∀ r, (g_eval_ways_1 a b) = some r → evD ctx 114 [(.d (D.int .u32 a)), (.d (D.int .u32 b))] = some (g_eval_ways_1_e r) := by
 show Says _ (fun r rhs => rhs = some (g_eval_ways_1_e r)) _
 unfold g_eval_ways_1
 rw [evD_K ctx 114 fn114 _ rfl rfl]
 conv => arg 3; whnf
 exact sim_ret rfl
def g_eval_ways_2_e (r : Int) : D := (D.int .u32 r)

set_option maxRecDepth 100000 in
set_option maxHeartbeats 40000000 in
theorem g_eval_ways_2_ok (a : Int) (b : Int) : ∀ r, (g_eval_ways_2 a b) = some r → evD ctx 115 [(.d (D.int .u32 a)), (.d (D.int .u32 b))] = some (g_eval_ways_2_e r) := by
 show Says _ (fun r rhs => rhs = some (g_eval_ways_2_e r)) _
 unfold g_eval_ways_2
 rw [evD_K ctx 115 fn115 _ rfl rfl]
 conv => arg 3; whnf
 exact sim_ret rfl
def g_eval_ways_3_e (r : Int) : D := (D.int .u32 r)

set_option maxRecDepth 100000 in
set_option maxHeartbeats 40000000 in
theorem g_eval_ways_3_ok (a : Int) (b : Int) : ∀ r, (g_eval_ways_3 a b) = some r → evD ctx 116 [(.d (D.int .u32 a)), (.d (D.int .u32 b))] = some (g_eval_ways_3_e r) := by
 show Says _ (fun r rhs => rhs = some (g_eval_ways_3_e r)) _
 unfold g_eval_ways_3
 rw [evD_K ctx 116 fn116 _ rfl rfl]
 conv => arg 3; whnf
 exact sim_ret rfl
def g_eval_ways_4_e (r : Int) : D := (D.int .u32 r)

set_option maxRecDepth 100000 in
set_option maxHeartbeats 40000000 in
theorem g_eval_ways_4_ok (a : Int) (b : Int) : ∀ r, (g_eval_ways_4 a b) = some r → evD ctx 117 [(.d (D.int .u32 a)), (.d (D.int .u32 b))] = some (g_eval_ways_4_e r) := by
 show Says _ (fun r rhs => rhs = some (g_eval_ways_4_e r)) _
 unfold g_eval_ways_4
 rw [evD_K ctx 117 fn117 _ rfl rfl]
 conv => arg 3; whnf
 exact sim_ret rfl
def g_eval_Op_e (r : Int) : D := (intD r)

def g_eval_Op_L0_x (t0 : Bool) (a : PartT) (b : (List Int)) : (List (Int × Int)) → Ex × List V × Heap
  | r => (.exit 1, [(.ptr 0 0), (.mp 1)], [(.cells [(.d (intD a.op)), (.d (intD a.arg)), (.d (intD a.work))]), (.mp (mpD intD intD r))])

set_option maxRecDepth 100000 in
set_option maxHeartbeats 40000000 in
theorem g_eval_Op_L0_ok (t0 : Bool) (a : PartT) (b : (List Int)) : ∀ (s0 : Int × (List (Int × Int))) (r : (List (Int × Int))), lp (g_eval_Op_L0 b) s0 = some r → lpW ctx 0 [3, 7, 19, 20, 21] [3, 7] ir39L0 [(.ptr 0 0), (.mp 1), (.d (D.list t0 (List.map intD b))), (.d (intD (b.length : Int))), (.d (intD s0.1))] [(.cells [(.d (intD a.op)), (.d (intD a.arg)), (.d (intD a.work))]), (.mp (mpD intD intD s0.2))] = some ((g_eval_Op_L0_x t0 a b) r) := by
 refine lp_ok (g_eval_Op_L0_x t0 a b) ?_
 intro s0 rcl ih
 show Says _ _ (lpW _ _ _ _ _ _ _)
 unfold g_eval_Op_L0
 rw [lpW_b]
 conv => arg 3; whnf
 refine sim_br rfl ?_ ?_
 ·conv => arg 3; whnf
  refine sim_get (f := intD) rfl rfl fun x1 hx1 => ?_
  conv => arg 3; whnf
  refine sim_known (setM_enc (f := intD) (g := intD) (fun ka kb : Int => (ka == kb)) (fun _ _ => rfl) s0.2 s0.1 x1) ?_
  conv => arg 3; whnf
  exact sim_again (ih ((w64 (s0.1 + 1)), (mapPut (fun ka kb : Int => (ka == kb)) s0.2 s0.1 x1)))
 ·conv => arg 3; whnf
  exact sim_ret rfl

def g_eval_Op_L1_x (t1 : Bool) (c : (List Int)) : Int → Ex × List V × Heap
  | r => (.exit 3, [(.d (D.int .u32 r))], [])

set_option maxRecDepth 100000 in
set_option maxHeartbeats 40000000 in
theorem g_eval_Op_L1_ok (t1 : Bool) (c : (List Int)) : ∀ (s6 : Int × Int) (r : Int), lp (g_eval_Op_L1 c) s6 = some r → lpW ctx 0 [10, 11, 60, 61, 62] [11] ir39L1 [(.ptr 0 0), (.d (D.int .u32 s6.1)), (.d (D.list t1 (List.map intD c))), (.d (intD (c.length : Int))), (.d (intD s6.2))] [(.cells [(.d (D.int .u32 0)), (.d (D.fn 114 []))])] = some ((g_eval_Op_L1_x t1 c) r) := by
 refine lp_ok (g_eval_Op_L1_x t1 c) ?_
 intro s6 rcl ih
 show Says _ _ (lpW _ _ _ _ _ _ _)
 unfold g_eval_Op_L1
 rw [lpW_b]
 conv => arg 3; whnf
 refine sim_br rfl ?_ ?_
 ·conv => arg 3; whnf
  refine sim_get (f := intD) rfl rfl fun x7 hx7 => ?_
  conv => arg 3; whnf
  refine sim_call g_eval_value_e (g_eval_value_ok x7) rfl fun x8 hx8 => ?_
  conv => arg 3; whnf
  refine sim_call g_eval_ways_1_e (g_eval_ways_1_ok s6.1 x8) rfl fun x9 hx9 => ?_
  conv => arg 3; whnf
  exact sim_again (ih (x9, (w64 (s6.2 + 1))))
 ·conv => arg 3; whnf
  exact sim_ret rfl

def g_eval_Op_L1_2_x (t1 : Bool) (c : (List Int)) : Int → Ex × List V × Heap
  | r => (.exit 3, [(.d (D.int .u32 r))], [])

set_option maxRecDepth 100000 in
set_option maxHeartbeats 40000000 in
theorem g_eval_Op_L1_2_ok (t1 : Bool) (c : (List Int)) : ∀ (s11 : Int × Int) (r : Int), lp (g_eval_Op_L1_2 c) s11 = some r → lpW ctx 0 [10, 11, 60, 61, 62] [11] ir39L1 [(.ptr 0 0), (.d (D.int .u32 s11.1)), (.d (D.list t1 (List.map intD c))), (.d (intD (c.length : Int))), (.d (intD s11.2))] [(.cells [(.d (D.int .u32 1)), (.d (D.fn 115 []))])] = some ((g_eval_Op_L1_2_x t1 c) r) := by
 refine lp_ok (g_eval_Op_L1_2_x t1 c) ?_
 intro s11 rcl ih
 show Says _ _ (lpW _ _ _ _ _ _ _)
 unfold g_eval_Op_L1_2
 rw [lpW_b]
 conv => arg 3; whnf
 refine sim_br rfl ?_ ?_
 ·conv => arg 3; whnf
  refine sim_get (f := intD) rfl rfl fun x12 hx12 => ?_
  conv => arg 3; whnf
  refine sim_call g_eval_value_e (g_eval_value_ok x12) rfl fun x13 hx13 => ?_
  conv => arg 3; whnf
  refine sim_call g_eval_ways_2_e (g_eval_ways_2_ok s11.1 x13) rfl fun x14 hx14 => ?_
  conv => arg 3; whnf
  exact sim_again (ih (x14, (w64 (s11.2 + 1))))
 ·conv => arg 3; whnf
  exact sim_ret rfl

def g_eval_Op_L1_3_x (t1 : Bool) (c : (List Int)) : Int → Ex × List V × Heap
  | r => (.exit 3, [(.d (D.int .u32 r))], [])

set_option maxRecDepth 100000 in
set_option maxHeartbeats 40000000 in
theorem g_eval_Op_L1_3_ok (t1 : Bool) (c : (List Int)) : ∀ (s16 : Int × Int) (r : Int), lp (g_eval_Op_L1_3 c) s16 = some r → lpW ctx 0 [10, 11, 60, 61, 62] [11] ir39L1 [(.ptr 0 0), (.d (D.int .u32 s16.1)), (.d (D.list t1 (List.map intD c))), (.d (intD (c.length : Int))), (.d (intD s16.2))] [(.cells [(.d (D.int .u32 0)), (.d (D.fn 116 []))])] = some ((g_eval_Op_L1_3_x t1 c) r) := by
 refine lp_ok (g_eval_Op_L1_3_x t1 c) ?_
 intro s16 rcl ih
 show Says _ _ (lpW _ _ _ _ _ _ _)
 unfold g_eval_Op_L1_3
 rw [lpW_b]
 conv => arg 3; whnf
 refine sim_br rfl ?_ ?_
 ·conv => arg 3; whnf
  refine sim_get (f := intD) rfl rfl fun x17 hx17 => ?_
  conv => arg 3; whnf
  refine sim_call g_eval_value_e (g_eval_value_ok x17) rfl fun x18 hx18 => ?_
  conv => arg 3; whnf
  refine sim_call g_eval_ways_3_e (g_eval_ways_3_ok s16.1 x18) rfl fun x19 hx19 => ?_
  conv => arg 3; whnf
  exact sim_again (ih (x19, (w64 (s16.2 + 1))))
 ·conv => arg 3; whnf
  exact sim_ret rfl

def g_eval_Op_L1_4_x (t1 : Bool) (c : (List Int)) : Int → Ex × List V × Heap
  | r => (.exit 3, [(.d (D.int .u32 r))], [])

set_option maxRecDepth 100000 in
set_option maxHeartbeats 40000000 in
theorem g_eval_Op_L1_4_ok (t1 : Bool) (c : (List Int)) : ∀ (s21 : Int × Int) (r : Int), lp (g_eval_Op_L1_4 c) s21 = some r → lpW ctx 0 [10, 11, 60, 61, 62] [11] ir39L1 [(.ptr 0 0), (.d (D.int .u32 s21.1)), (.d (D.list t1 (List.map intD c))), (.d (intD (c.length : Int))), (.d (intD s21.2))] [(.cells [(.d (D.int .u32 7)), (.d (D.fn 117 []))])] = some ((g_eval_Op_L1_4_x t1 c) r) := by
 refine lp_ok (g_eval_Op_L1_4_x t1 c) ?_
 intro s21 rcl ih
 show Says _ _ (lpW _ _ _ _ _ _ _)
 unfold g_eval_Op_L1_4
 rw [lpW_b]
 conv => arg 3; whnf
 refine sim_br rfl ?_ ?_
 ·conv => arg 3; whnf
  refine sim_get (f := intD) rfl rfl fun x22 hx22 => ?_
  conv => arg 3; whnf
  refine sim_call g_eval_value_e (g_eval_value_ok x22) rfl fun x23 hx23 => ?_
  conv => arg 3; whnf
  refine sim_call g_eval_ways_4_e (g_eval_ways_4_ok s21.1 x23) rfl fun x24 hx24 => ?_
  conv => arg 3; whnf
  exact sim_again (ih (x24, (w64 (s21.2 + 1))))
 ·conv => arg 3; whnf
  exact sim_ret rfl

set_option maxRecDepth 100000 in
set_option maxHeartbeats 40000000 in
theorem g_eval_Op_ok (t0 : Bool) (t1 : Bool) (a : PartT) (b : (List Int)) (c : (List Int)) : ∀ r, (g_eval_Op a b c) = some r → evD ctx 39 [(.d (D.agg [(intD a.op), (intD a.arg), (intD a.work)])), (.d (D.list t0 (List.map intD b))), (.d (D.list t1 (List.map intD c)))] = some (g_eval_Op_e r) := by
 show Says _ (fun r rhs => rhs = some (g_eval_Op_e r)) _
 unfold g_eval_Op
 rw [evD_K ctx 39 fn39 _ rfl rfl]
 conv => arg 3; whnf
 refine sim_br rfl ?_ ?_
 ·conv => arg 3; whnf
  refine sim_let (x' := (b.length : Int)) (len_enc intD b) ?_
  conv => arg 3; whnf
  refine sim_bind (g_eval_Op_L0_x t0 a b) (g_eval_Op_L0_ok t0 a b (0, ([] : (List (Int × Int))))) fun r2 hr2 => ?_
  conv => arg 3; whnf
  refine sim_known (getM_enc (f := intD) (g := intD) (fun ka kb : Int => (ka == kb)) (fun _ _ => rfl) r2 a.arg 0) ?_
  conv => arg 3; whnf
  refine sim_call g_eval_value_e (g_eval_value_ok (mapGet (fun ka kb : Int => (ka == kb)) r2 a.arg 0)) rfl fun x3 hx3 => ?_
  conv => arg 3; whnf
  exact sim_ret rfl
 ·conv => arg 3; whnf
  refine sim_br rfl ?_ ?_
  ·conv => arg 3; whnf
   refine sim_call g_eval_value_e (g_eval_value_ok a.arg) rfl fun x4 hx4 => ?_
   conv => arg 3; whnf
   exact sim_ret rfl
  ·conv => arg 3; whnf
   refine sim_br rfl ?_ ?_
   ·conv => arg 3; whnf
    exact sim_ret rfl
   ·conv => arg 3; whnf
    refine sim_br rfl ?_ ?_
    ·conv => arg 3; whnf
     exact sim_ret rfl
    ·conv => arg 3; whnf
     refine sim_call g_eval_ways_e (g_eval_ways_ok) rfl fun x5 hx5 => ?_
     conv => arg 3; whnf
     refine sim_br rfl ?_ ?_
     ·conv => arg 3; whnf
      refine sim_split4 rfl ?_ ?_ ?_ ?_
      ·conv => arg 3; whnf
       refine sim_known rfl ?_
       conv => arg 3; whnf
       refine sim_let (x' := (c.length : Int)) (len_enc intD c) ?_
       conv => arg 3; whnf
       refine sim_bind (g_eval_Op_L1_x t1 c) (g_eval_Op_L1_ok t1 c (0, 0)) fun r10 hr10 => ?_
       conv => arg 3; whnf
       exact sim_ret rfl
      ·conv => arg 3; whnf
       refine sim_known rfl ?_
       conv => arg 3; whnf
       refine sim_let (x' := (c.length : Int)) (len_enc intD c) ?_
       conv => arg 3; whnf
       refine sim_bind (g_eval_Op_L1_2_x t1 c) (g_eval_Op_L1_2_ok t1 c (1, 0)) fun r15 hr15 => ?_
       conv => arg 3; whnf
       exact sim_ret rfl
      ·conv => arg 3; whnf
       refine sim_known rfl ?_
       conv => arg 3; whnf
       refine sim_let (x' := (c.length : Int)) (len_enc intD c) ?_
       conv => arg 3; whnf
       refine sim_bind (g_eval_Op_L1_3_x t1 c) (g_eval_Op_L1_3_ok t1 c (0, 0)) fun r20 hr20 => ?_
       conv => arg 3; whnf
       exact sim_ret rfl
      ·conv => arg 3; whnf
       refine sim_known rfl ?_
       conv => arg 3; whnf
       refine sim_let (x' := (c.length : Int)) (len_enc intD c) ?_
       conv => arg 3; whnf
       refine sim_bind (g_eval_Op_L1_4_x t1 c) (g_eval_Op_L1_4_ok t1 c (7, 0)) fun r25 hr25 => ?_
       conv => arg 3; whnf
       exact sim_ret rfl
     ·exact sim_none
def g_ref08_Round_e (r : Int) : D := (intD r)

set_option maxRecDepth 100000 in
set_option maxHeartbeats 40000000 in
theorem g_ref08_Round_ok (a : Int) : ∀ r, (g_ref08_Round a) = some r → evD ctx 76 [(.d (intD a))] = some (g_ref08_Round_e r) := by
 show Says _ (fun r rhs => rhs = some (g_ref08_Round_e r)) _
 unfold g_ref08_Round
 rw [evD_K ctx 76 fn76 _ rfl rfl]
 conv => arg 3; whnf
 refine sim_f rfl ?_
 conv => arg 3; whnf
 refine sim_br rfl ?_ ?_
 ·conv => arg 3; whnf
  exact sim_ret rfl
 ·conv => arg 3; whnf
  exact sim_ret rfl
def g_ref08_times_e (r : Int) : D := (intD r)

set_option maxRecDepth 100000 in
set_option maxHeartbeats 40000000 in
theorem g_ref08_times_ok (a : Int) (b : Int) : ∀ r, (g_ref08_times a b) = some r → evD ctx 77 [(.d (intD a)), (.d (intD b))] = some (g_ref08_times_e r) := by
 show Says _ (fun r rhs => rhs = some (g_ref08_times_e r)) _
 unfold g_ref08_times
 rw [evD_K ctx 77 fn77 _ rfl rfl]
 conv => arg 3; whnf
 refine sim_f rfl ?_
 conv => arg 3; whnf
 refine sim_f rfl ?_
 conv => arg 3; whnf
 refine sim_call g_ref08_Round_e (g_ref08_Round_ok (w64 ((w64 (Int.tdiv a 65536)) * b))) rfl fun x0 hx0 => ?_
 conv => arg 3; whnf
 refine sim_f rfl ?_
 conv => arg 3; whnf
 refine sim_call g_ref08_Round_e (g_ref08_Round_ok (w64 ((w64 ((Int.tmod x0 65536) * 65536)) + (w64 ((Int.tmod a 65536) * b))))) rfl fun x1 hx1 => ?_
 conv => arg 3; whnf
 exact sim_ret rfl
def g_ref08_Op_e (r : Int) : D := (intD r)

def g_ref08_Op_L0_x (t1 : Bool) (a : PartT) (c : (List Int)) : Int → Ex × List V × Heap
  | r => (.exit 1, [(.d (intD r))], [])

set_option maxRecDepth 100000 in
set_option maxHeartbeats 40000000 in
theorem g_ref08_Op_L0_ok (t1 : Bool) (a : PartT) (c : (List Int)) : ∀ (s3 : Int × Int) (r : Int), lp (g_ref08_Op_L0 a c) s3 = some r → lpW ctx 0 [2, 3, 7, 8] [7] ir40L0 [(.d (D.list t1 (List.map intD c))), (.ptr 0 0), (.d (intD s3.1)), (.d (intD s3.2))] [(.cells [(.d (intD a.op)), (.d (intD a.arg)), (.d (intD a.work))])] = some ((g_ref08_Op_L0_x t1 a c) r) := by
 refine lp_ok (g_ref08_Op_L0_x t1 a c) ?_
 intro s3 rcl ih
 show Says _ _ (lpW _ _ _ _ _ _ _)
 unfold g_ref08_Op_L0
 rw [lpW_b]
 conv => arg 3; whnf
 refine sim_let (x' := (c.length : Int)) (len_enc intD c) ?_
 conv => arg 3; whnf
 refine sim_br rfl ?_ ?_
 ·conv => arg 3; whnf
  refine sim_get (f := intD) rfl rfl fun x4 hx4 => ?_
  conv => arg 3; whnf
  refine sim_call g_ref08_Round_e (g_ref08_Round_ok x4) rfl fun x5 hx5 => ?_
  conv => arg 3; whnf
  refine sim_br rfl ?_ ?_
  ·conv => arg 3; whnf
   refine sim_call g_ref08_Round_e (g_ref08_Round_ok (w64 (s3.1 + x5))) rfl fun x6 hx6 => ?_
   conv => arg 3; whnf
   exact sim_again (ih (x6, (w64 (s3.2 + 1))))
  ·conv => arg 3; whnf
   refine sim_br rfl ?_ ?_
   ·conv => arg 3; whnf
    refine sim_call g_ref08_times_e (g_ref08_times_ok s3.1 x5) rfl fun x7 hx7 => ?_
    conv => arg 3; whnf
    exact sim_again (ih (x7, (w64 (s3.2 + 1))))
   ·conv => arg 3; whnf
    refine sim_br rfl ?_ ?_
    ·conv => arg 3; whnf
     exact sim_again (ih ((bif decide (s3.1 < x5) then x5 else s3.1), (w64 (s3.2 + 1))))
    ·conv => arg 3; whnf
     refine sim_br rfl ?_ ?_
     ·conv => arg 3; whnf
      refine sim_call g_ref08_Round_e (g_ref08_Round_ok (w64 ((w64 (s3.1 * 31)) + x5))) rfl fun x8 hx8 => ?_
      conv => arg 3; whnf
      exact sim_again (ih (x8, (w64 (s3.2 + 1))))
     ·conv => arg 3; whnf
      exact sim_again (ih (s3.1, (w64 (s3.2 + 1))))
 ·conv => arg 3; whnf
  exact sim_ret rfl

def g_ref08_Op_L0_2_x (t1 : Bool) (a : PartT) (c : (List Int)) : Int → Ex × List V × Heap
  | r => (.exit 1, [(.d (intD r))], [])

set_option maxRecDepth 100000 in
set_option maxHeartbeats 40000000 in
theorem g_ref08_Op_L0_2_ok (t1 : Bool) (a : PartT) (c : (List Int)) : ∀ (s10 : Int × Int) (r : Int), lp (g_ref08_Op_L0_2 a c) s10 = some r → lpW ctx 0 [2, 3, 7, 8] [7] ir40L0 [(.d (D.list t1 (List.map intD c))), (.ptr 0 0), (.d (intD s10.1)), (.d (intD s10.2))] [(.cells [(.d (intD a.op)), (.d (intD a.arg)), (.d (intD a.work))])] = some ((g_ref08_Op_L0_2_x t1 a c) r) := by
 refine lp_ok (g_ref08_Op_L0_2_x t1 a c) ?_
 intro s10 rcl ih
 show Says _ _ (lpW _ _ _ _ _ _ _)
 unfold g_ref08_Op_L0_2
 rw [lpW_b]
 conv => arg 3; whnf
 refine sim_let (x' := (c.length : Int)) (len_enc intD c) ?_
 conv => arg 3; whnf
 refine sim_br rfl ?_ ?_
 ·conv => arg 3; whnf
  refine sim_get (f := intD) rfl rfl fun x11 hx11 => ?_
  conv => arg 3; whnf
  refine sim_call g_ref08_Round_e (g_ref08_Round_ok x11) rfl fun x12 hx12 => ?_
  conv => arg 3; whnf
  refine sim_br rfl ?_ ?_
  ·conv => arg 3; whnf
   refine sim_call g_ref08_Round_e (g_ref08_Round_ok (w64 (s10.1 + x12))) rfl fun x13 hx13 => ?_
   conv => arg 3; whnf
   exact sim_again (ih (x13, (w64 (s10.2 + 1))))
  ·conv => arg 3; whnf
   refine sim_br rfl ?_ ?_
   ·conv => arg 3; whnf
    refine sim_call g_ref08_times_e (g_ref08_times_ok s10.1 x12) rfl fun x14 hx14 => ?_
    conv => arg 3; whnf
    exact sim_again (ih (x14, (w64 (s10.2 + 1))))
   ·conv => arg 3; whnf
    refine sim_br rfl ?_ ?_
    ·conv => arg 3; whnf
     exact sim_again (ih ((bif decide (s10.1 < x12) then x12 else s10.1), (w64 (s10.2 + 1))))
    ·conv => arg 3; whnf
     refine sim_br rfl ?_ ?_
     ·conv => arg 3; whnf
      refine sim_call g_ref08_Round_e (g_ref08_Round_ok (w64 ((w64 (s10.1 * 31)) + x12))) rfl fun x15 hx15 => ?_
      conv => arg 3; whnf
      exact sim_again (ih (x15, (w64 (s10.2 + 1))))
     ·conv => arg 3; whnf
      exact sim_again (ih (s10.1, (w64 (s10.2 + 1))))
 ·conv => arg 3; whnf
  exact sim_ret rfl

def g_ref08_Op_L0_3_x (t1 : Bool) (a : PartT) (c : (List Int)) : Int → Ex × List V × Heap
  | r => (.exit 1, [(.d (intD r))], [])

set_option maxRecDepth 100000 in
set_option maxHeartbeats 40000000 in
theorem g_ref08_Op_L0_3_ok (t1 : Bool) (a : PartT) (c : (List Int)) : ∀ (s17 : Int × Int) (r : Int), lp (g_ref08_Op_L0_3 a c) s17 = some r → lpW ctx 0 [2, 3, 7, 8] [7] ir40L0 [(.d (D.list t1 (List.map intD c))), (.ptr 0 0), (.d (intD s17.1)), (.d (intD s17.2))] [(.cells [(.d (intD a.op)), (.d (intD a.arg)), (.d (intD a.work))])] = some ((g_ref08_Op_L0_3_x t1 a c) r) := by
 refine lp_ok (g_ref08_Op_L0_3_x t1 a c) ?_
 intro s17 rcl ih
 show Says _ _ (lpW _ _ _ _ _ _ _)
 unfold g_ref08_Op_L0_3
 rw [lpW_b]
 conv => arg 3; whnf
 refine sim_let (x' := (c.length : Int)) (len_enc intD c) ?_
 conv => arg 3; whnf
 refine sim_br rfl ?_ ?_
 ·conv => arg 3; whnf
  refine sim_get (f := intD) rfl rfl fun x18 hx18 => ?_
  conv => arg 3; whnf
  refine sim_call g_ref08_Round_e (g_ref08_Round_ok x18) rfl fun x19 hx19 => ?_
  conv => arg 3; whnf
  refine sim_br rfl ?_ ?_
  ·conv => arg 3; whnf
   refine sim_call g_ref08_Round_e (g_ref08_Round_ok (w64 (s17.1 + x19))) rfl fun x20 hx20 => ?_
   conv => arg 3; whnf
   exact sim_again (ih (x20, (w64 (s17.2 + 1))))
  ·conv => arg 3; whnf
   refine sim_br rfl ?_ ?_
   ·conv => arg 3; whnf
    refine sim_call g_ref08_times_e (g_ref08_times_ok s17.1 x19) rfl fun x21 hx21 => ?_
    conv => arg 3; whnf
    exact sim_again (ih (x21, (w64 (s17.2 + 1))))
   ·conv => arg 3; whnf
    refine sim_br rfl ?_ ?_
    ·conv => arg 3; whnf
     exact sim_again (ih ((bif decide (s17.1 < x19) then x19 else s17.1), (w64 (s17.2 + 1))))
    ·conv => arg 3; whnf
     refine sim_br rfl ?_ ?_
     ·conv => arg 3; whnf
      refine sim_call g_ref08_Round_e (g_ref08_Round_ok (w64 ((w64 (s17.1 * 31)) + x19))) rfl fun x22 hx22 => ?_
      conv => arg 3; whnf
      exact sim_again (ih (x22, (w64 (s17.2 + 1))))
     ·conv => arg 3; whnf
      exact sim_again (ih (s17.1, (w64 (s17.2 + 1))))
 ·conv => arg 3; whnf
  exact sim_ret rfl

def g_ref08_Op_L0_4_x (t1 : Bool) (a : PartT) (c : (List Int)) : Int → Ex × List V × Heap
  | r => (.exit 1, [(.d (intD r))], [])

set_option maxRecDepth 100000 in
set_option maxHeartbeats 40000000 in
theorem g_ref08_Op_L0_4_ok (t1 : Bool) (a : PartT) (c : (List Int)) : ∀ (s24 : Int × Int) (r : Int), lp (g_ref08_Op_L0_4 a c) s24 = some r → lpW ctx 0 [2, 3, 7, 8] [7] ir40L0 [(.d (D.list t1 (List.map intD c))), (.ptr 0 0), (.d (intD s24.1)), (.d (intD s24.2))] [(.cells [(.d (intD a.op)), (.d (intD a.arg)), (.d (intD a.work))])] = some ((g_ref08_Op_L0_4_x t1 a c) r) := by
 refine lp_ok (g_ref08_Op_L0_4_x t1 a c) ?_
 intro s24 rcl ih
 show Says _ _ (lpW _ _ _ _ _ _ _)
 unfold g_ref08_Op_L0_4
 rw [lpW_b]
 conv => arg 3; whnf
 refine sim_let (x' := (c.length : Int)) (len_enc intD c) ?_
 conv => arg 3; whnf
 refine sim_br rfl ?_ ?_
 ·conv => arg 3; whnf
  refine sim_get (f := intD) rfl rfl fun x25 hx25 => ?_
  conv => arg 3; whnf
  refine sim_call g_ref08_Round_e (g_ref08_Round_ok x25) rfl fun x26 hx26 => ?_
  conv => arg 3; whnf
  refine sim_br rfl ?_ ?_
  ·conv => arg 3; whnf
   refine sim_call g_ref08_Round_e (g_ref08_Round_ok (w64 (s24.1 + x26))) rfl fun x27 hx27 => ?_
   conv => arg 3; whnf
   exact sim_again (ih (x27, (w64 (s24.2 + 1))))
  ·conv => arg 3; whnf
   refine sim_br rfl ?_ ?_
   ·conv => arg 3; whnf
    refine sim_call g_ref08_times_e (g_ref08_times_ok s24.1 x26) rfl fun x28 hx28 => ?_
    conv => arg 3; whnf
    exact sim_again (ih (x28, (w64 (s24.2 + 1))))
   ·conv => arg 3; whnf
    refine sim_br rfl ?_ ?_
    ·conv => arg 3; whnf
     exact sim_again (ih ((bif decide (s24.1 < x26) then x26 else s24.1), (w64 (s24.2 + 1))))
    ·conv => arg 3; whnf
     refine sim_br rfl ?_ ?_
     ·conv => arg 3; whnf
      refine sim_call g_ref08_Round_e (g_ref08_Round_ok (w64 ((w64 (s24.1 * 31)) + x26))) rfl fun x29 hx29 => ?_
      conv => arg 3; whnf
      exact sim_again (ih (x29, (w64 (s24.2 + 1))))
     ·conv => arg 3; whnf
      exact sim_again (ih (s24.1, (w64 (s24.2 + 1))))
 ·conv => arg 3; whnf
  exact sim_ret rfl

set_option maxRecDepth 100000 in
set_option maxHeartbeats 40000000 in
theorem g_ref08_Op_ok (t0 : Bool) (t1 : Bool) (a : PartT) (b : (List Int)) (c : (List Int)) : ∀ r, (g_ref08_Op a b c) = some r → evD ctx 40 [(.d (D.agg [(intD a.op), (intD a.arg), (intD a.work)])), (.d (D.list t0 (List.map intD b))), (.d (D.list t1 (List.map intD c)))] = some (g_ref08_Op_e r) := by
 show Says _ (fun r rhs => rhs = some (g_ref08_Op_e r)) _
 unfold g_ref08_Op
 rw [evD_K ctx 40 fn40 _ rfl rfl]
 conv => arg 3; whnf
 refine sim_br rfl ?_ ?_
 ·conv => arg 3; whnf
  refine sim_br rfl ?_ ?_
  ·conv => arg 3; whnf
   exact sim_ret rfl
  ·conv => arg 3; whnf
   refine sim_let (x' := (b.length : Int)) (len_enc intD b) ?_
   conv => arg 3; whnf
   refine sim_br rfl ?_ ?_
   ·conv => arg 3; whnf
    exact sim_ret rfl
   ·conv => arg 3; whnf
    refine sim_get (f := intD) rfl rfl fun x0 hx0 => ?_
    conv => arg 3; whnf
    refine sim_call g_ref08_Round_e (g_ref08_Round_ok x0) rfl fun x1 hx1 => ?_
    conv => arg 3; whnf
    exact sim_ret rfl
 ·conv => arg 3; whnf
  refine sim_br rfl ?_ ?_
  ·conv => arg 3; whnf
   refine sim_call g_ref08_Round_e (g_ref08_Round_ok a.arg) rfl fun x2 hx2 => ?_
   conv => arg 3; whnf
   exact sim_ret rfl
  ·conv => arg 3; whnf
   refine sim_br rfl ?_ ?_
   ·conv => arg 3; whnf
    exact sim_ret rfl
   ·conv => arg 3; whnf
    refine sim_br rfl ?_ ?_
    ·conv => arg 3; whnf
     exact sim_ret rfl
    ·conv => arg 3; whnf
     refine sim_br rfl ?_ ?_
     ·conv => arg 3; whnf
      refine sim_br rfl ?_ ?_
      ·conv => arg 3; whnf
       refine sim_bind (g_ref08_Op_L0_x t1 a c) (g_ref08_Op_L0_ok t1 a c (7, 0)) fun r9 hr9 => ?_
       conv => arg 3; whnf
       exact sim_ret rfl
      ·conv => arg 3; whnf
       refine sim_bind (g_ref08_Op_L0_2_x t1 a c) (g_ref08_Op_L0_2_ok t1 a c (1, 0)) fun r16 hr16 => ?_
       conv => arg 3; whnf
       exact sim_ret rfl
     ·conv => arg 3; whnf
      refine sim_br rfl ?_ ?_
      ·conv => arg 3; whnf
       refine sim_bind (g_ref08_Op_L0_3_x t1 a c) (g_ref08_Op_L0_3_ok t1 a c (7, 0)) fun r23 hr23 => ?_
       conv => arg 3; whnf
       exact sim_ret rfl
      ·conv => arg 3; whnf
       refine sim_bind (g_ref08_Op_L0_4_x t1 a c) (g_ref08_Op_L0_4_ok t1 a c (0, 0)) fun r30 hr30 => ?_
       conv => arg 3; whnf
       exact sim_ret rfl
def g_law08_EvalOps_e (r : Bool) : D := (D.bool r)

set_option maxRecDepth 100000 in
set_option maxHeartbeats 40000000 in
theorem g_law08_EvalOps_ok (t0 : Bool) (t1 : Bool) (a : PartT) (b : (List Int)) (c : (List Int)) : ∀ r, (g_law08_EvalOps a b c) = some r → evD ctx 13 [(.d (D.agg [(intD a.op), (intD a.arg), (intD a.work)])), (.d (D.list t0 (List.map intD b))), (.d (D.list t1 (List.map intD c)))] = some (g_law08_EvalOps_e r) := by
 show Says _ (fun r rhs => rhs = some (g_law08_EvalOps_e r)) _
 unfold g_law08_EvalOps
 rw [evD_K ctx 13 fn13 _ rfl rfl]
 conv => arg 3; whnf
 refine sim_call D.bool (g_law08_awake_ok) rfl fun x0 hx0 => ?_
 conv => arg 3; whnf
 refine sim_br rfl ?_ ?_
 ·conv => arg 3; whnf
  refine sim_let (x' := (b.length : Int)) (len_enc intD b) ?_
  conv => arg 3; whnf
  refine sim_br rfl ?_ ?_
  ·conv => arg 3; whnf
   refine sim_call D.bool (g_law08_awake_ok) rfl fun x1 hx1 => ?_
   conv => arg 3; whnf
   refine sim_br rfl ?_ ?_
   ·conv => arg 3; whnf
    exact sim_ret rfl
   ·conv => arg 3; whnf
    exact sim_ret rfl
  ·conv => arg 3; whnf
   refine sim_let (x' := (c.length : Int)) (len_enc intD c) ?_
   conv => arg 3; whnf
   refine sim_br rfl ?_ ?_
   ·conv => arg 3; whnf
    refine sim_call D.bool (g_law08_awake_ok) rfl fun x2 hx2 => ?_
    conv => arg 3; whnf
    refine sim_br rfl ?_ ?_
    ·conv => arg 3; whnf
     exact sim_ret rfl
    ·conv => arg 3; whnf
     exact sim_ret rfl
   ·conv => arg 3; whnf
    refine sim_t (szAt_map (f := intD) (fun _ => ⟨rfl, rfl⟩) b 0) ?_
    conv => arg 3; whnf
    refine sim_br (ble_enc1 intD b) ?_ ?_
    ·conv => arg 3; whnf
     refine sim_let (rfl : _ = List.map intD b) ?_
     conv => arg 3; whnf
     refine sim_t (szAt_map (f := intD) (fun _ => ⟨rfl, rfl⟩) c 0) ?_
     conv => arg 3; whnf
     refine sim_br (ble_enc1 intD c) ?_ ?_
     ·conv => arg 3; whnf
      refine sim_let (rfl : _ = List.map intD c) ?_
      conv => arg 3; whnf
      refine sim_call g_eval_Op_e (g_eval_Op_ok false false a b c) rfl fun x3 hx3 => ?_
      conv => arg 3; whnf
      refine sim_call g_ref08_Op_e (g_ref08_Op_ok t0 t1 a b c) rfl fun x4 hx4 => ?_
      conv => arg 3; whnf
      refine sim_br rfl ?_ ?_
      ·conv => arg 3; whnf
       refine sim_br rfl ?_ ?_
       ·conv => arg 3; whnf
        refine sim_br rfl ?_ ?_
        ·conv => arg 3; whnf
         exact sim_ret rfl
        ·conv => arg 3; whnf
         exact sim_ret rfl
       ·conv => arg 3; whnf
        exact sim_ret rfl
      ·conv => arg 3; whnf
       exact sim_ret rfl
     ·exact sim_none
    ·exact sim_none
 ·conv => arg 3; whnf
  refine sim_call D.bool (g_law08_awake_ok) rfl fun x5 hx5 => ?_
  conv => arg 3; whnf
  refine sim_br rfl ?_ ?_
  ·conv => arg 3; whnf
   exact sim_ret rfl
  ·conv => arg 3; whnf
   exact sim_ret rfl
end Go.Proofs.YtljgncbdagmeeaaDoor
