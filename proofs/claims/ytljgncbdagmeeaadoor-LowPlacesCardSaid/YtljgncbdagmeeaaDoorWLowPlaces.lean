/- The walks: the evaluator says what the plain text says. -/
import Derived.Test.YtljgncbdagmeeaaDoorS1
import Derived.Test.YtljgncbdagmeeaaDoorL1
import Derived.KernelRfl
namespace Go.Proofs.YtljgncbdagmeeaaDoor
open Go Go.Proofs.YtljgncbdagmeeaaDoorE
set_option linter.unusedVariables false
set_option linter.unusedSimpArgs false

theorem g_law07_awake_ok : ∀ r, g_law07_awake = some r → evD ctx 14 [] = some (D.bool r) := fun r h => by
  cases h
  exact evD_of 100 (by kernel_rfl)
def g_law04_Few_e (r : Bool) : D := (D.bool r)

set_option maxRecDepth 100000 in
set_option maxHeartbeats 40000000 in
theorem g_law04_Few_ok (t0 : Bool) (t1 : Bool) (a : DagT) : ∀ r, (g_law04_Few a) = some r → evD ctx 20 [(.d (D.agg [(D.list t0 (List.map intD a.work)), (D.list t1 (List.map edgeD a.edges))]))] = some (g_law04_Few_e r) := by
 show Says _ (fun r rhs => rhs = some (g_law04_Few_e r)) _
 unfold g_law04_Few
 rw [evD_K ctx 20 fn20 _ rfl rfl]
 conv => arg 3; whnf
 refine sim_let (x' := (a.work.length : Int)) (len_enc intD a.work) ?_
 conv => arg 3; whnf
 refine sim_br rfl ?_ ?_
 ·conv => arg 3; whnf
  refine sim_let (x' := (a.edges.length : Int)) (len_enc edgeD a.edges) ?_
  conv => arg 3; whnf
  refine sim_br rfl ?_ ?_
  ·conv => arg 3; whnf
   exact sim_ret rfl
  ·conv => arg 3; whnf
   exact sim_ret rfl
 ·conv => arg 3; whnf
  exact sim_ret rfl
def g_law04_Own_e (t0 : Bool) (t1 : Bool) (a : DagT) : Unit → V × Heap
  | r => ((.agg [(.sl 0 1), (.sl 1 2)]), [(.arr 1 (List.map intD a.work)), (.arr 2 (List.map edgeD a.edges))])

set_option maxRecDepth 100000 in
set_option maxHeartbeats 40000000 in
theorem g_law04_Own_ok (t0 : Bool) (t1 : Bool) (a : DagT) : ∀ r, (g_law04_Own a) = some r → evW ctx 49 [(.d (D.agg [(D.list t0 (List.map intD a.work)), (D.list t1 (List.map edgeD a.edges))]))] [] = some ((g_law04_Own_e t0 t1 a) r) := by
 show Says _ (fun r rhs => rhs = some ((g_law04_Own_e t0 t1 a) r)) _
 unfold g_law04_Own
 rw [evW_K ctx 49 fn49 _ _ rfl rfl]
 conv => arg 3; whnf
 refine sim_t (szAt_map (f := intD) (fun _ => ⟨rfl, rfl⟩) a.work 0) ?_
 conv => arg 3; whnf
 refine sim_br (ble_enc1 intD a.work) ?_ ?_
 ·conv => arg 3; whnf
  refine sim_let (rfl : _ = List.map intD a.work) ?_
  conv => arg 3; whnf
  refine sim_t (szAt_map (f := edgeD) (fun _ => ⟨rfl, rfl⟩) a.edges 0) ?_
  conv => arg 3; whnf
  refine sim_br (ble_enc1 edgeD a.edges) ?_ ?_
  ·conv => arg 3; whnf
   refine sim_let (rfl : _ = List.map edgeD a.edges) ?_
   conv => arg 3; whnf
   exact sim_ret rfl
  ·exact sim_none
 ·exact sim_none
def g_law07_Own_e (t0 : Bool) (t1 : Bool) (t2 : Bool) (a : LowT) : Unit → V × Heap
  | r => ((.agg [(.sl 0 1), (.sl 1 2), (.sl 2 2)]), [(.arr 1 (List.map intD a.dag.work)), (.arr 2 (List.map edgeD a.dag.edges)), (.arr 2 (List.map pieceD a.pieces))])

set_option maxRecDepth 100000 in
set_option maxHeartbeats 40000000 in
theorem g_law07_Own_ok (t0 : Bool) (t1 : Bool) (t2 : Bool) (a : LowT) : ∀ r, (g_law07_Own a) = some r → evW ctx 22 [(.d (D.agg [(D.list t0 (List.map intD a.dag.work)), (D.list t1 (List.map edgeD a.dag.edges)), (D.list t2 (List.map pieceD a.pieces))]))] [] = some ((g_law07_Own_e t0 t1 t2 a) r) := by
 show Says _ (fun r rhs => rhs = some ((g_law07_Own_e t0 t1 t2 a) r)) _
 unfold g_law07_Own
 rw [evW_K ctx 22 fn22 _ _ rfl rfl]
 conv => arg 3; whnf
 refine sim_bind (g_law04_Own_e t0 t1 a.dag) (g_law04_Own_ok t0 t1 a.dag) fun x0 hx0 => ?_
 conv => arg 3; whnf
 refine sim_t (szAt_map (f := pieceD) (fun _ => ⟨rfl, rfl⟩) a.pieces 0) ?_
 conv => arg 3; whnf
 refine sim_br (ble_enc1 pieceD a.pieces) ?_ ?_
 ·conv => arg 3; whnf
  refine sim_let (rfl : _ = List.map pieceD a.pieces) ?_
  conv => arg 3; whnf
  exact sim_ret rfl
 ·exact sim_none
def g_lower_Node_e (r : Int) : D := (intD r)

def g_lower_Node_L0_x (t2 : Bool) (a : LowT) (b : PieceT) : Int → Ex × List V × Heap
  | r => (.exit 0, [(.d (intD r))], [])

set_option maxRecDepth 100000 in
set_option maxHeartbeats 40000000 in
theorem g_lower_Node_L0_ok (t2 : Bool) (a : LowT) (b : PieceT) : ∀ (s0 : Int) (r : Int), lp (g_lower_Node_L0 a b) s0 = some r → lpW ctx 0 [3, 5, 9, 10, 11] [5] ir21L0 [(.ptr 0 0), (.d (intD (-1))), (.d (D.list t2 (List.map pieceD a.pieces))), (.d (intD (a.pieces.length : Int))), (.d (intD s0))] [(.cells [(.d (intD b.part)), (.d (intD b.step))])] = some ((g_lower_Node_L0_x t2 a b) r) := by
 refine lp_ok (g_lower_Node_L0_x t2 a b) ?_
 intro s0 rcl ih
 show Says _ _ (lpW _ _ _ _ _ _ _)
 unfold g_lower_Node_L0
 rw [lpW_b]
 conv => arg 3; whnf
 refine sim_br rfl ?_ ?_
 ·conv => arg 3; whnf
  refine sim_get (f := pieceD) rfl rfl fun x1 hx1 => ?_
  conv => arg 3; whnf
  refine sim_br rfl ?_ ?_
  ·conv => arg 3; whnf
   exact sim_ret rfl
  ·conv => arg 3; whnf
   exact sim_again (ih (w64 (s0 + 1)))
 ·conv => arg 3; whnf
  exact sim_ret rfl

set_option maxRecDepth 100000 in
set_option maxHeartbeats 40000000 in
theorem g_lower_Node_ok (t0 : Bool) (t1 : Bool) (t2 : Bool) (a : LowT) (b : PieceT) : ∀ r, (g_lower_Node a b) = some r → evD ctx 21 [(.d (D.agg [(D.list t0 (List.map intD a.dag.work)), (D.list t1 (List.map edgeD a.dag.edges)), (D.list t2 (List.map pieceD a.pieces))])), (.d (D.agg [(intD b.part), (intD b.step)]))] = some (g_lower_Node_e r) := by
 show Says _ (fun r rhs => rhs = some (g_lower_Node_e r)) _
 unfold g_lower_Node
 rw [evD_K ctx 21 fn21 _ rfl rfl]
 conv => arg 3; whnf
 refine sim_let (x' := (a.pieces.length : Int)) (len_enc pieceD a.pieces) ?_
 conv => arg 3; whnf
 refine sim_bind (g_lower_Node_L0_x t2 a b) (g_lower_Node_L0_ok t2 a b 0) fun r2 hr2 => ?_
 conv => arg 3; whnf
 exact sim_ret rfl
def g_lower_Last_e (r : Int) : D := (intD r)

set_option maxRecDepth 100000 in
set_option maxHeartbeats 40000000 in
theorem g_lower_Last_ok (t0 : Bool) (t1 : Bool) (t2 : Bool) (a : LowT) (b : Int) : ∀ r, (g_lower_Last a b) = some r → evD ctx 23 [(.d (D.agg [(D.list t0 (List.map intD a.dag.work)), (D.list t1 (List.map edgeD a.dag.edges)), (D.list t2 (List.map pieceD a.pieces))])), (.d (intD b))] = some (g_lower_Last_e r) := by
 show Says _ (fun r rhs => rhs = some (g_lower_Last_e r)) _
 unfold g_lower_Last
 rw [evD_K ctx 23 fn23 _ rfl rfl]
 conv => arg 3; whnf
 refine sim_last (f := pieceD) (g := (fun x : PieceT => (x.part, x.step))) (l := a.pieces) (fun _ => rfl) fun x0 hx0 => ?_
 conv => arg 3; whnf
 exact sim_ret rfl
def g_slices_Equal_l_int_int_e (r : Bool) : D := (D.bool r)

def g_slices_Equal_l_int_int_L0_x (t0 : Bool) (t1 : Bool) (a : (List Int)) (b : (List Int)) : (Unit ⊕ Unit) → Ex × List V × Heap
  | (.inl r) => (.ret, [(.d (D.bool false))], [])
  | (.inr r) => (.exit 0, [.bad], [])

set_option maxRecDepth 100000 in
set_option maxHeartbeats 40000000 in
theorem g_slices_Equal_l_int_int_L0_ok (t0 : Bool) (t1 : Bool) (a : (List Int)) (b : (List Int)) : ∀ (s0 : Int) (r : (Unit ⊕ Unit)), lp (g_slices_Equal_l_int_int_L0 a b) s0 = some r → lpW ctx 0 [0, 1, 12, 13] [4] ir99L0 [(.d (D.list t0 (List.map intD a))), (.d (D.list t1 (List.map intD b))), (.d (intD (a.length : Int))), (.d (intD s0))] [] = some ((g_slices_Equal_l_int_int_L0_x t0 t1 a b) r) := by
 refine lp_ok (g_slices_Equal_l_int_int_L0_x t0 t1 a b) ?_
 intro s0 rcl ih
 show Says _ _ (lpW _ _ _ _ _ _ _)
 unfold g_slices_Equal_l_int_int_L0
 rw [lpW_b]
 conv => arg 3; whnf
 refine sim_br rfl ?_ ?_
 ·conv => arg 3; whnf
  refine sim_get (f := intD) rfl rfl fun x1 hx1 => ?_
  conv => arg 3; whnf
  refine sim_get (f := intD) rfl rfl fun x2 hx2 => ?_
  conv => arg 3; whnf
  refine sim_br rfl ?_ ?_
  ·conv => arg 3; whnf
   exact sim_ret rfl
  ·conv => arg 3; whnf
   exact sim_again (ih (w64 (s0 + 1)))
 ·conv => arg 3; whnf
  exact sim_ret rfl

set_option maxRecDepth 100000 in
set_option maxHeartbeats 40000000 in
theorem g_slices_Equal_l_int_int_ok (t0 : Bool) (t1 : Bool) (a : (List Int)) (b : (List Int)) : ∀ r, (g_slices_Equal_l_int_int a b) = some r → evD ctx 99 [(.d (D.list t0 (List.map intD a))), (.d (D.list t1 (List.map intD b)))] = some (g_slices_Equal_l_int_int_e r) := by
 show Says _ (fun r rhs => rhs = some (g_slices_Equal_l_int_int_e r)) _
 unfold g_slices_Equal_l_int_int
 rw [evD_K ctx 99 fn99 _ rfl rfl]
 conv => arg 3; whnf
 refine sim_let (x' := (a.length : Int)) (len_enc intD a) ?_
 conv => arg 3; whnf
 refine sim_let (x' := (b.length : Int)) (len_enc intD b) ?_
 conv => arg 3; whnf
 refine sim_br rfl ?_ ?_
 ·conv => arg 3; whnf
  exact sim_ret rfl
 ·conv => arg 3; whnf
  refine sim_let (x' := (a.length : Int)) (len_enc intD a) ?_
  conv => arg 3; whnf
  refine sim_bind (g_slices_Equal_l_int_int_L0_x t0 t1 a b) (g_slices_Equal_l_int_int_L0_ok t0 t1 a b 0) fun r3 hr3 => ?_
  clear hr3
  rcases r3 with r3 | r3
  ·conv => arg 3; whnf
   exact sim_ret rfl
  ·conv => arg 3; whnf
   exact sim_ret rfl
def g_slices_Equal_l_Edge_Edge_e (r : Bool) : D := (D.bool r)

def g_slices_Equal_l_Edge_Edge_L0_x (t0 : Bool) (t1 : Bool) (a : (List EdgeT)) (b : (List EdgeT)) : (Unit ⊕ Unit) → Ex × List V × Heap
  | (.inl r) => (.ret, [(.d (D.bool false))], [])
  | (.inr r) => (.exit 0, [.bad], [])

set_option maxRecDepth 100000 in
set_option maxHeartbeats 40000000 in
theorem g_slices_Equal_l_Edge_Edge_L0_ok (t0 : Bool) (t1 : Bool) (a : (List EdgeT)) (b : (List EdgeT)) : ∀ (s0 : Int) (r : (Unit ⊕ Unit)), lp (g_slices_Equal_l_Edge_Edge_L0 a b) s0 = some r → lpW ctx 0 [0, 1, 12, 13] [4] ir100L0 [(.d (D.list t0 (List.map edgeD a))), (.d (D.list t1 (List.map edgeD b))), (.d (intD (a.length : Int))), (.d (intD s0))] [] = some ((g_slices_Equal_l_Edge_Edge_L0_x t0 t1 a b) r) := by
 refine lp_ok (g_slices_Equal_l_Edge_Edge_L0_x t0 t1 a b) ?_
 intro s0 rcl ih
 show Says _ _ (lpW _ _ _ _ _ _ _)
 unfold g_slices_Equal_l_Edge_Edge_L0
 rw [lpW_b]
 conv => arg 3; whnf
 refine sim_br rfl ?_ ?_
 ·conv => arg 3; whnf
  refine sim_get (f := edgeD) rfl rfl fun x1 hx1 => ?_
  conv => arg 3; whnf
  refine sim_get (f := edgeD) rfl rfl fun x2 hx2 => ?_
  conv => arg 3; whnf
  refine sim_br rfl ?_ ?_
  ·conv => arg 3; whnf
   exact sim_ret rfl
  ·conv => arg 3; whnf
   exact sim_again (ih (w64 (s0 + 1)))
 ·conv => arg 3; whnf
  exact sim_ret rfl

set_option maxRecDepth 100000 in
set_option maxHeartbeats 40000000 in
theorem g_slices_Equal_l_Edge_Edge_ok (t0 : Bool) (t1 : Bool) (a : (List EdgeT)) (b : (List EdgeT)) : ∀ r, (g_slices_Equal_l_Edge_Edge a b) = some r → evD ctx 100 [(.d (D.list t0 (List.map edgeD a))), (.d (D.list t1 (List.map edgeD b)))] = some (g_slices_Equal_l_Edge_Edge_e r) := by
 show Says _ (fun r rhs => rhs = some (g_slices_Equal_l_Edge_Edge_e r)) _
 unfold g_slices_Equal_l_Edge_Edge
 rw [evD_K ctx 100 fn100 _ rfl rfl]
 conv => arg 3; whnf
 refine sim_let (x' := (a.length : Int)) (len_enc edgeD a) ?_
 conv => arg 3; whnf
 refine sim_let (x' := (b.length : Int)) (len_enc edgeD b) ?_
 conv => arg 3; whnf
 refine sim_br rfl ?_ ?_
 ·conv => arg 3; whnf
  exact sim_ret rfl
 ·conv => arg 3; whnf
  refine sim_let (x' := (a.length : Int)) (len_enc edgeD a) ?_
  conv => arg 3; whnf
  refine sim_bind (g_slices_Equal_l_Edge_Edge_L0_x t0 t1 a b) (g_slices_Equal_l_Edge_Edge_L0_ok t0 t1 a b 0) fun r3 hr3 => ?_
  clear hr3
  rcases r3 with r3 | r3
  ·conv => arg 3; whnf
   exact sim_ret rfl
  ·conv => arg 3; whnf
   exact sim_ret rfl
def g_dag_Same_e (r : Bool) : D := (D.bool r)

set_option maxRecDepth 100000 in
set_option maxHeartbeats 40000000 in
theorem g_dag_Same_ok (t0 : Bool) (t1 : Bool) (t2 : Bool) (t3 : Bool) (a : DagT) (b : DagT) : ∀ r, (g_dag_Same a b) = some r → evD ctx 51 [(.d (D.agg [(D.list t0 (List.map intD a.work)), (D.list t1 (List.map edgeD a.edges))])), (.d (D.agg [(D.list t2 (List.map intD b.work)), (D.list t3 (List.map edgeD b.edges))]))] = some (g_dag_Same_e r) := by
 show Says _ (fun r rhs => rhs = some (g_dag_Same_e r)) _
 unfold g_dag_Same
 rw [evD_K ctx 51 fn51 _ rfl rfl]
 conv => arg 3; whnf
 refine sim_call g_slices_Equal_l_int_int_e (g_slices_Equal_l_int_int_ok t0 t2 a.work b.work) rfl fun x0 hx0 => ?_
 conv => arg 3; whnf
 refine sim_br rfl ?_ ?_
 ·conv => arg 3; whnf
  refine sim_call g_slices_Equal_l_Edge_Edge_e (g_slices_Equal_l_Edge_Edge_ok t1 t3 a.edges b.edges) rfl fun x1 hx1 => ?_
  conv => arg 3; whnf
  refine sim_br rfl ?_ ?_
  ·conv => arg 3; whnf
   exact sim_ret rfl
  ·conv => arg 3; whnf
   exact sim_ret rfl
 ·conv => arg 3; whnf
  exact sim_ret rfl
def g_slices_Equal_l_Piece_Piece_e (r : Bool) : D := (D.bool r)

def g_slices_Equal_l_Piece_Piece_L0_x (t0 : Bool) (t1 : Bool) (a : (List PieceT)) (b : (List PieceT)) : (Unit ⊕ Unit) → Ex × List V × Heap
  | (.inl r) => (.ret, [(.d (D.bool false))], [])
  | (.inr r) => (.exit 0, [.bad], [])

set_option maxRecDepth 100000 in
set_option maxHeartbeats 40000000 in
theorem g_slices_Equal_l_Piece_Piece_L0_ok (t0 : Bool) (t1 : Bool) (a : (List PieceT)) (b : (List PieceT)) : ∀ (s0 : Int) (r : (Unit ⊕ Unit)), lp (g_slices_Equal_l_Piece_Piece_L0 a b) s0 = some r → lpW ctx 0 [0, 1, 12, 13] [4] ir52L0 [(.d (D.list t0 (List.map pieceD a))), (.d (D.list t1 (List.map pieceD b))), (.d (intD (a.length : Int))), (.d (intD s0))] [] = some ((g_slices_Equal_l_Piece_Piece_L0_x t0 t1 a b) r) := by
 refine lp_ok (g_slices_Equal_l_Piece_Piece_L0_x t0 t1 a b) ?_
 intro s0 rcl ih
 show Says _ _ (lpW _ _ _ _ _ _ _)
 unfold g_slices_Equal_l_Piece_Piece_L0
 rw [lpW_b]
 conv => arg 3; whnf
 refine sim_br rfl ?_ ?_
 ·conv => arg 3; whnf
  refine sim_get (f := pieceD) rfl rfl fun x1 hx1 => ?_
  conv => arg 3; whnf
  refine sim_get (f := pieceD) rfl rfl fun x2 hx2 => ?_
  conv => arg 3; whnf
  refine sim_br rfl ?_ ?_
  ·conv => arg 3; whnf
   exact sim_ret rfl
  ·conv => arg 3; whnf
   exact sim_again (ih (w64 (s0 + 1)))
 ·conv => arg 3; whnf
  exact sim_ret rfl

set_option maxRecDepth 100000 in
set_option maxHeartbeats 40000000 in
theorem g_slices_Equal_l_Piece_Piece_ok (t0 : Bool) (t1 : Bool) (a : (List PieceT)) (b : (List PieceT)) : ∀ r, (g_slices_Equal_l_Piece_Piece a b) = some r → evD ctx 52 [(.d (D.list t0 (List.map pieceD a))), (.d (D.list t1 (List.map pieceD b)))] = some (g_slices_Equal_l_Piece_Piece_e r) := by
 show Says _ (fun r rhs => rhs = some (g_slices_Equal_l_Piece_Piece_e r)) _
 unfold g_slices_Equal_l_Piece_Piece
 rw [evD_K ctx 52 fn52 _ rfl rfl]
 conv => arg 3; whnf
 refine sim_let (x' := (a.length : Int)) (len_enc pieceD a) ?_
 conv => arg 3; whnf
 refine sim_let (x' := (b.length : Int)) (len_enc pieceD b) ?_
 conv => arg 3; whnf
 refine sim_br rfl ?_ ?_
 ·conv => arg 3; whnf
  exact sim_ret rfl
 ·conv => arg 3; whnf
  refine sim_let (x' := (a.length : Int)) (len_enc pieceD a) ?_
  conv => arg 3; whnf
  refine sim_bind (g_slices_Equal_l_Piece_Piece_L0_x t0 t1 a b) (g_slices_Equal_l_Piece_Piece_L0_ok t0 t1 a b 0) fun r3 hr3 => ?_
  clear hr3
  rcases r3 with r3 | r3
  ·conv => arg 3; whnf
   exact sim_ret rfl
  ·conv => arg 3; whnf
   exact sim_ret rfl
def g_lower_Same_e (r : Bool) : D := (D.bool r)

set_option maxRecDepth 100000 in
set_option maxHeartbeats 40000000 in
theorem g_lower_Same_ok (t0 : Bool) (t1 : Bool) (t2 : Bool) (t3 : Bool) (t4 : Bool) (t5 : Bool) (a : LowT) (b : LowT) : ∀ r, (g_lower_Same a b) = some r → evD ctx 24 [(.d (D.agg [(D.list t0 (List.map intD a.dag.work)), (D.list t1 (List.map edgeD a.dag.edges)), (D.list t2 (List.map pieceD a.pieces))])), (.d (D.agg [(D.list t3 (List.map intD b.dag.work)), (D.list t4 (List.map edgeD b.dag.edges)), (D.list t5 (List.map pieceD b.pieces))]))] = some (g_lower_Same_e r) := by
 show Says _ (fun r rhs => rhs = some (g_lower_Same_e r)) _
 unfold g_lower_Same
 rw [evD_K ctx 24 fn24 _ rfl rfl]
 conv => arg 3; whnf
 refine sim_call g_dag_Same_e (g_dag_Same_ok t0 t1 t3 t4 a.dag b.dag) rfl fun x0 hx0 => ?_
 conv => arg 3; whnf
 refine sim_br rfl ?_ ?_
 ·conv => arg 3; whnf
  refine sim_call g_slices_Equal_l_Piece_Piece_e (g_slices_Equal_l_Piece_Piece_ok t2 t5 a.pieces b.pieces) rfl fun x1 hx1 => ?_
  conv => arg 3; whnf
  refine sim_br rfl ?_ ?_
  ·conv => arg 3; whnf
   exact sim_ret rfl
  ·conv => arg 3; whnf
   exact sim_ret rfl
 ·conv => arg 3; whnf
  exact sim_ret rfl
def g_ref04_Same_e (r : Bool) : D := (D.bool r)

def g_ref04_Same_L0_x (t0 : Bool) (t1 : Bool) (t2 : Bool) (t3 : Bool) (a : DagT) (b : DagT) : (Unit ⊕ Unit) → Ex × List V × Heap
  | (.inl r) => (.ret, [(.ptr 0 0), (.ptr 1 0), (.d (D.bool false))], [(.cells [(.d (D.list t0 (List.map intD a.work))), (.d (D.list t1 (List.map edgeD a.edges)))]), (.cells [(.d (D.list t2 (List.map intD b.work))), (.d (D.list t3 (List.map edgeD b.edges)))])])
  | (.inr r) => (.exit 0, [(.ptr 0 0), (.ptr 1 0), .bad], [(.cells [(.d (D.list t0 (List.map intD a.work))), (.d (D.list t1 (List.map edgeD a.edges)))]), (.cells [(.d (D.list t2 (List.map intD b.work))), (.d (D.list t3 (List.map edgeD b.edges)))])])

set_option maxRecDepth 100000 in
set_option maxHeartbeats 40000000 in
theorem g_ref04_Same_L0_ok (t0 : Bool) (t1 : Bool) (t2 : Bool) (t3 : Bool) (a : DagT) (b : DagT) : ∀ (s0 : Int) (r : (Unit ⊕ Unit)), lp (g_ref04_Same_L0 a b) s0 = some r → lpW ctx 0 [2, 3, 5] [2, 3, 4] ir48L0 [(.ptr 0 0), (.ptr 1 0), (.d (intD s0))] [(.cells [(.d (D.list t0 (List.map intD a.work))), (.d (D.list t1 (List.map edgeD a.edges)))]), (.cells [(.d (D.list t2 (List.map intD b.work))), (.d (D.list t3 (List.map edgeD b.edges)))])] = some ((g_ref04_Same_L0_x t0 t1 t2 t3 a b) r) := by
 refine lp_ok (g_ref04_Same_L0_x t0 t1 t2 t3 a b) ?_
 intro s0 rcl ih
 show Says _ _ (lpW _ _ _ _ _ _ _)
 unfold g_ref04_Same_L0
 rw [lpW_b]
 conv => arg 3; whnf
 refine sim_let (x' := (a.work.length : Int)) (len_enc intD a.work) ?_
 conv => arg 3; whnf
 refine sim_br rfl ?_ ?_
 ·conv => arg 3; whnf
  refine sim_get (f := intD) rfl rfl fun x1 hx1 => ?_
  conv => arg 3; whnf
  refine sim_get (f := intD) rfl rfl fun x2 hx2 => ?_
  conv => arg 3; whnf
  refine sim_br rfl ?_ ?_
  ·conv => arg 3; whnf
   exact sim_ret rfl
  ·conv => arg 3; whnf
   exact sim_again (ih (w64 (s0 + 1)))
 ·conv => arg 3; whnf
  exact sim_ret rfl

def g_ref04_Same_L1_x (t0 : Bool) (t1 : Bool) (t2 : Bool) (t3 : Bool) (a : DagT) (b : DagT) : (Unit ⊕ Unit) → Ex × List V × Heap
  | (.inl r) => (.ret, [(.d (D.bool false))], [])
  | (.inr r) => (.exit 2, [.bad], [])

set_option maxRecDepth 100000 in
set_option maxHeartbeats 40000000 in
theorem g_ref04_Same_L1_ok (t0 : Bool) (t1 : Bool) (t2 : Bool) (t3 : Bool) (a : DagT) (b : DagT) : ∀ (s4 : Int) (r : (Unit ⊕ Unit)), lp (g_ref04_Same_L1 a b) s4 = some r → lpW ctx 0 [2, 3, 6] [4] ir48L1 [(.ptr 0 0), (.ptr 1 0), (.d (intD s4))] [(.cells [(.d (D.list t0 (List.map intD a.work))), (.d (D.list t1 (List.map edgeD a.edges)))]), (.cells [(.d (D.list t2 (List.map intD b.work))), (.d (D.list t3 (List.map edgeD b.edges)))])] = some ((g_ref04_Same_L1_x t0 t1 t2 t3 a b) r) := by
 refine lp_ok (g_ref04_Same_L1_x t0 t1 t2 t3 a b) ?_
 intro s4 rcl ih
 show Says _ _ (lpW _ _ _ _ _ _ _)
 unfold g_ref04_Same_L1
 rw [lpW_b]
 conv => arg 3; whnf
 refine sim_let (x' := (a.edges.length : Int)) (len_enc edgeD a.edges) ?_
 conv => arg 3; whnf
 refine sim_br rfl ?_ ?_
 ·conv => arg 3; whnf
  refine sim_get (f := edgeD) rfl rfl fun x5 hx5 => ?_
  conv => arg 3; whnf
  refine sim_get (f := edgeD) rfl rfl fun x6 hx6 => ?_
  conv => arg 3; whnf
  refine sim_br rfl ?_ ?_
  ·conv => arg 3; whnf
   exact sim_ret rfl
  ·conv => arg 3; whnf
   exact sim_again (ih (w64 (s4 + 1)))
 ·conv => arg 3; whnf
  exact sim_ret rfl

set_option maxRecDepth 100000 in
set_option maxHeartbeats 40000000 in
theorem g_ref04_Same_ok (t0 : Bool) (t1 : Bool) (t2 : Bool) (t3 : Bool) (a : DagT) (b : DagT) : ∀ r, (g_ref04_Same a b) = some r → evD ctx 48 [(.d (D.agg [(D.list t0 (List.map intD a.work)), (D.list t1 (List.map edgeD a.edges))])), (.d (D.agg [(D.list t2 (List.map intD b.work)), (D.list t3 (List.map edgeD b.edges))]))] = some (g_ref04_Same_e r) := by
 show Says _ (fun r rhs => rhs = some (g_ref04_Same_e r)) _
 unfold g_ref04_Same
 rw [evD_K ctx 48 fn48 _ rfl rfl]
 conv => arg 3; whnf
 refine sim_let (x' := (a.work.length : Int)) (len_enc intD a.work) ?_
 conv => arg 3; whnf
 refine sim_let (x' := (b.work.length : Int)) (len_enc intD b.work) ?_
 conv => arg 3; whnf
 refine sim_br rfl ?_ ?_
 ·conv => arg 3; whnf
  exact sim_ret rfl
 ·conv => arg 3; whnf
  refine sim_let (x' := (a.edges.length : Int)) (len_enc edgeD a.edges) ?_
  conv => arg 3; whnf
  refine sim_let (x' := (b.edges.length : Int)) (len_enc edgeD b.edges) ?_
  conv => arg 3; whnf
  refine sim_br rfl ?_ ?_
  ·conv => arg 3; whnf
   exact sim_ret rfl
  ·conv => arg 3; whnf
   refine sim_bind (g_ref04_Same_L0_x t0 t1 t2 t3 a b) (g_ref04_Same_L0_ok t0 t1 t2 t3 a b 0) fun r3 hr3 => ?_
   clear hr3
   rcases r3 with r3 | r3
   ·conv => arg 3; whnf
    exact sim_ret rfl
   ·conv => arg 3; whnf
    refine sim_bind (g_ref04_Same_L1_x t0 t1 t2 t3 a b) (g_ref04_Same_L1_ok t0 t1 t2 t3 a b 0) fun r7 hr7 => ?_
    clear hr7
    rcases r7 with r7 | r7
    ·conv => arg 3; whnf
     exact sim_ret rfl
    ·conv => arg 3; whnf
     exact sim_ret rfl
def g_ref07_Same_e (r : Bool) : D := (D.bool r)

def g_ref07_Same_L0_x (t0 : Bool) (t1 : Bool) (t2 : Bool) (t3 : Bool) (t4 : Bool) (t5 : Bool) (a : LowT) (b : LowT) : (Unit ⊕ Unit) → Ex × List V × Heap
  | (.inl r) => (.ret, [(.ptr 0 0), (.ptr 1 0), (.d (D.bool false))], [(.cells [(.d (D.list t0 (List.map intD a.dag.work))), (.d (D.list t1 (List.map edgeD a.dag.edges))), (.d (D.list t2 (List.map pieceD a.pieces)))]), (.cells [(.d (D.list t3 (List.map intD b.dag.work))), (.d (D.list t4 (List.map edgeD b.dag.edges))), (.d (D.list t5 (List.map pieceD b.pieces)))])])
  | (.inr r) => (.exit 0, [(.ptr 0 0), (.ptr 1 0), .bad], [(.cells [(.d (D.list t0 (List.map intD a.dag.work))), (.d (D.list t1 (List.map edgeD a.dag.edges))), (.d (D.list t2 (List.map pieceD a.pieces)))]), (.cells [(.d (D.list t3 (List.map intD b.dag.work))), (.d (D.list t4 (List.map edgeD b.dag.edges))), (.d (D.list t5 (List.map pieceD b.pieces)))])])

set_option maxRecDepth 100000 in
set_option maxHeartbeats 40000000 in
theorem g_ref07_Same_L0_ok (t0 : Bool) (t1 : Bool) (t2 : Bool) (t3 : Bool) (t4 : Bool) (t5 : Bool) (a : LowT) (b : LowT) : ∀ (s0 : Int) (r : (Unit ⊕ Unit)), lp (g_ref07_Same_L0 a b) s0 = some r → lpW ctx 0 [2, 3, 5] [2, 3, 4] ir19L0 [(.ptr 0 0), (.ptr 1 0), (.d (intD s0))] [(.cells [(.d (D.list t0 (List.map intD a.dag.work))), (.d (D.list t1 (List.map edgeD a.dag.edges))), (.d (D.list t2 (List.map pieceD a.pieces)))]), (.cells [(.d (D.list t3 (List.map intD b.dag.work))), (.d (D.list t4 (List.map edgeD b.dag.edges))), (.d (D.list t5 (List.map pieceD b.pieces)))])] = some ((g_ref07_Same_L0_x t0 t1 t2 t3 t4 t5 a b) r) := by
 refine lp_ok (g_ref07_Same_L0_x t0 t1 t2 t3 t4 t5 a b) ?_
 intro s0 rcl ih
 show Says _ _ (lpW _ _ _ _ _ _ _)
 unfold g_ref07_Same_L0
 rw [lpW_b]
 conv => arg 3; whnf
 refine sim_let (x' := (a.pieces.length : Int)) (len_enc pieceD a.pieces) ?_
 conv => arg 3; whnf
 refine sim_br rfl ?_ ?_
 ·conv => arg 3; whnf
  refine sim_get (f := pieceD) rfl rfl fun x1 hx1 => ?_
  conv => arg 3; whnf
  refine sim_get (f := pieceD) rfl rfl fun x2 hx2 => ?_
  conv => arg 3; whnf
  refine sim_br rfl ?_ ?_
  ·conv => arg 3; whnf
   exact sim_ret rfl
  ·conv => arg 3; whnf
   exact sim_again (ih (w64 (s0 + 1)))
 ·conv => arg 3; whnf
  exact sim_ret rfl

set_option maxRecDepth 100000 in
set_option maxHeartbeats 40000000 in
theorem g_ref07_Same_ok (t0 : Bool) (t1 : Bool) (t2 : Bool) (t3 : Bool) (t4 : Bool) (t5 : Bool) (a : LowT) (b : LowT) : ∀ r, (g_ref07_Same a b) = some r → evD ctx 19 [(.d (D.agg [(D.list t0 (List.map intD a.dag.work)), (D.list t1 (List.map edgeD a.dag.edges)), (D.list t2 (List.map pieceD a.pieces))])), (.d (D.agg [(D.list t3 (List.map intD b.dag.work)), (D.list t4 (List.map edgeD b.dag.edges)), (D.list t5 (List.map pieceD b.pieces))]))] = some (g_ref07_Same_e r) := by
 show Says _ (fun r rhs => rhs = some (g_ref07_Same_e r)) _
 unfold g_ref07_Same
 rw [evD_K ctx 19 fn19 _ rfl rfl]
 conv => arg 3; whnf
 refine sim_let (x' := (a.pieces.length : Int)) (len_enc pieceD a.pieces) ?_
 conv => arg 3; whnf
 refine sim_let (x' := (b.pieces.length : Int)) (len_enc pieceD b.pieces) ?_
 conv => arg 3; whnf
 refine sim_br rfl ?_ ?_
 ·conv => arg 3; whnf
  exact sim_ret rfl
 ·conv => arg 3; whnf
  refine sim_bind (g_ref07_Same_L0_x t0 t1 t2 t3 t4 t5 a b) (g_ref07_Same_L0_ok t0 t1 t2 t3 t4 t5 a b 0) fun r3 hr3 => ?_
  clear hr3
  rcases r3 with r3 | r3
  ·conv => arg 3; whnf
   exact sim_ret rfl
  ·conv => arg 3; whnf
   refine sim_call g_ref04_Same_e (g_ref04_Same_ok t0 t1 t3 t4 a.dag b.dag) rfl fun x4 hx4 => ?_
   conv => arg 3; whnf
   refine sim_br rfl ?_ ?_
   ·conv => arg 3; whnf
    exact sim_ret rfl
   ·conv => arg 3; whnf
    exact sim_ret rfl
def g_law07_LowPlaces_e (r : Bool) : D := (D.bool r)

def g_law07_LowPlaces_L0_x (t0 : Bool) (t1 : Bool) (t2 : Bool) (t3 : Bool) (t4 : Bool) (t5 : Bool) (a : LowT) (b : LowT) (c : PieceT) (d : Int) : (Int × Int) → Ex × List V × Heap
  | r => (.exit 0, [(.d (intD d)), (.ptr 0 0), (.ptr 1 0), (.ptr 2 0), (.d (intD r.1)), (.d (intD r.2))], [(.cells [(.d (D.list t0 (List.map intD a.dag.work))), (.d (D.list t1 (List.map edgeD a.dag.edges))), (.d (D.list t2 (List.map pieceD a.pieces)))]), (.cells [(.d (D.list t3 (List.map intD b.dag.work))), (.d (D.list t4 (List.map edgeD b.dag.edges))), (.d (D.list t5 (List.map pieceD b.pieces)))]), (.cells [(.d (intD c.part)), (.d (intD c.step))])])

set_option maxRecDepth 100000 in
set_option maxHeartbeats 40000000 in
theorem g_law07_LowPlaces_L0_ok (t0 : Bool) (t1 : Bool) (t2 : Bool) (t3 : Bool) (t4 : Bool) (t5 : Bool) (a : LowT) (b : LowT) (c : PieceT) (d : Int) : ∀ (s5 : Int × Int × Int) (r : (Int × Int)), lp (g_law07_LowPlaces_L0 a c d) s5 = some r → lpW ctx 0 [3, 4, 5, 6, 9, 10, 11] [3, 4, 5, 6, 9, 10] ir4L0 [(.d (intD d)), (.ptr 0 0), (.ptr 1 0), (.ptr 2 0), (.d (intD s5.1)), (.d (intD s5.2.1)), (.d (intD s5.2.2))] [(.cells [(.d (D.list t0 (List.map intD a.dag.work))), (.d (D.list t1 (List.map edgeD a.dag.edges))), (.d (D.list t2 (List.map pieceD a.pieces)))]), (.cells [(.d (D.list t3 (List.map intD b.dag.work))), (.d (D.list t4 (List.map edgeD b.dag.edges))), (.d (D.list t5 (List.map pieceD b.pieces)))]), (.cells [(.d (intD c.part)), (.d (intD c.step))])] = some ((g_law07_LowPlaces_L0_x t0 t1 t2 t3 t4 t5 a b c d) r) := by
 refine lp_ok (g_law07_LowPlaces_L0_x t0 t1 t2 t3 t4 t5 a b c d) ?_
 intro s5 rcl ih
 show Says _ _ (lpW _ _ _ _ _ _ _)
 unfold g_law07_LowPlaces_L0
 rw [lpW_b]
 conv => arg 3; whnf
 refine sim_let (x' := (a.pieces.length : Int)) (len_enc pieceD a.pieces) ?_
 conv => arg 3; whnf
 refine sim_br rfl ?_ ?_
 ·conv => arg 3; whnf
  refine sim_br rfl ?_ ?_
  ·conv => arg 3; whnf
   refine sim_get (f := pieceD) rfl rfl fun x6 hx6 => ?_
   conv => arg 3; whnf
   refine sim_br rfl ?_ ?_
   ·conv => arg 3; whnf
    refine sim_br rfl ?_ ?_
    ·conv => arg 3; whnf
     refine sim_known (get_of (f := pieceD) rfl hx6) ?_
     conv => arg 3; whnf
     refine sim_br rfl ?_ ?_
     ·conv => arg 3; whnf
      exact sim_again (ih (s5.2.2, s5.2.2, (w64 (s5.2.2 + 1))))
     ·conv => arg 3; whnf
      exact sim_again (ih (s5.2.2, s5.2.1, (w64 (s5.2.2 + 1))))
    ·conv => arg 3; whnf
     exact sim_again (ih (s5.2.2, s5.2.1, (w64 (s5.2.2 + 1))))
   ·conv => arg 3; whnf
    refine sim_br rfl ?_ ?_
    ·conv => arg 3; whnf
     refine sim_known (get_of (f := pieceD) rfl hx6) ?_
     conv => arg 3; whnf
     refine sim_br rfl ?_ ?_
     ·conv => arg 3; whnf
      exact sim_again (ih (s5.1, s5.2.2, (w64 (s5.2.2 + 1))))
     ·conv => arg 3; whnf
      exact sim_again (ih (s5.1, s5.2.1, (w64 (s5.2.2 + 1))))
    ·conv => arg 3; whnf
     exact sim_again (ih (s5.1, s5.2.1, (w64 (s5.2.2 + 1))))
  ·conv => arg 3; whnf
   refine sim_br rfl ?_ ?_
   ·conv => arg 3; whnf
    refine sim_get (f := pieceD) rfl rfl fun x7 hx7 => ?_
    conv => arg 3; whnf
    refine sim_br rfl ?_ ?_
    ·conv => arg 3; whnf
     exact sim_again (ih (s5.1, s5.2.2, (w64 (s5.2.2 + 1))))
    ·conv => arg 3; whnf
     exact sim_again (ih (s5.1, s5.2.1, (w64 (s5.2.2 + 1))))
   ·conv => arg 3; whnf
    exact sim_again (ih (s5.1, s5.2.1, (w64 (s5.2.2 + 1))))
 ·conv => arg 3; whnf
  exact sim_ret rfl

set_option maxRecDepth 100000 in
set_option maxHeartbeats 40000000 in
theorem g_law07_LowPlaces_ok (t0 : Bool) (t1 : Bool) (t2 : Bool) (t3 : Bool) (t4 : Bool) (t5 : Bool) (a : LowT) (b : LowT) (c : PieceT) (d : Int) : ∀ r, (g_law07_LowPlaces a b c d) = some r → evD ctx 4 [(.d (D.agg [(D.list t0 (List.map intD a.dag.work)), (D.list t1 (List.map edgeD a.dag.edges)), (D.list t2 (List.map pieceD a.pieces))])), (.d (D.agg [(D.list t3 (List.map intD b.dag.work)), (D.list t4 (List.map edgeD b.dag.edges)), (D.list t5 (List.map pieceD b.pieces))])), (.d (D.agg [(intD c.part), (intD c.step)])), (.d (intD d))] = some (g_law07_LowPlaces_e r) := by
 show Says _ (fun r rhs => rhs = some (g_law07_LowPlaces_e r)) _
 unfold g_law07_LowPlaces
 rw [evD_K ctx 4 fn4 _ rfl rfl]
 conv => arg 3; whnf
 refine sim_call D.bool (g_law07_awake_ok) rfl fun x0 hx0 => ?_
 conv => arg 3; whnf
 refine sim_br rfl ?_ ?_
 ·conv => arg 3; whnf
  refine sim_call g_law04_Few_e (g_law04_Few_ok t0 t1 a.dag) rfl fun x1 hx1 => ?_
  conv => arg 3; whnf
  refine sim_br rfl ?_ ?_
  ·conv => arg 3; whnf
   refine sim_let (x' := (a.pieces.length : Int)) (len_enc pieceD a.pieces) ?_
   conv => arg 3; whnf
   refine sim_br rfl ?_ ?_
   ·conv => arg 3; whnf
    refine sim_call D.bool (g_law07_awake_ok) rfl fun x2 hx2 => ?_
    conv => arg 3; whnf
    refine sim_br rfl ?_ ?_
    ·conv => arg 3; whnf
     exact sim_ret rfl
    ·conv => arg 3; whnf
     exact sim_ret rfl
   ·conv => arg 3; whnf
    refine sim_call g_law04_Few_e (g_law04_Few_ok t3 t4 b.dag) rfl fun x3 hx3 => ?_
    conv => arg 3; whnf
    refine sim_br rfl ?_ ?_
    ·conv => arg 3; whnf
     refine sim_let (x' := (b.pieces.length : Int)) (len_enc pieceD b.pieces) ?_
     conv => arg 3; whnf
     refine sim_br rfl ?_ ?_
     ·conv => arg 3; whnf
      refine sim_call D.bool (g_law07_awake_ok) rfl fun x4 hx4 => ?_
      conv => arg 3; whnf
      refine sim_br rfl ?_ ?_
      ·conv => arg 3; whnf
       exact sim_ret rfl
      ·conv => arg 3; whnf
       exact sim_ret rfl
     ·conv => arg 3; whnf
      refine sim_bind (g_law07_LowPlaces_L0_x t0 t1 t2 t3 t4 t5 a b c d) (g_law07_LowPlaces_L0_ok t0 t1 t2 t3 t4 t5 a b c d ((-1), (-1), 0)) fun r8 hr8 => ?_
      conv => arg 3; whnf
      refine sim_bind (g_law07_Own_e t0 t1 t2 a) (g_law07_Own_ok t0 t1 t2 a) fun x9 hx9 => ?_
      conv => arg 3; whnf
      refine sim_call g_lower_Node_e (g_lower_Node_ok false false false a c) rfl fun x10 hx10 => ?_
      conv => arg 3; whnf
      refine sim_br rfl ?_ ?_
      ·conv => arg 3; whnf
       refine sim_bind (g_law07_Own_e t0 t1 t2 a) (g_law07_Own_ok t0 t1 t2 a) fun x11 hx11 => ?_
       conv => arg 3; whnf
       refine sim_call g_lower_Last_e (g_lower_Last_ok false false false a d) rfl fun x12 hx12 => ?_
       conv => arg 3; whnf
       refine sim_br rfl ?_ ?_
       ·conv => arg 3; whnf
        refine sim_bind (g_law07_Own_e t0 t1 t2 a) (g_law07_Own_ok t0 t1 t2 a) fun x13 hx13 => ?_
        conv => arg 3; whnf
        refine sim_bind (g_law07_Own_e t3 t4 t5 b) (g_law07_Own_ok t3 t4 t5 b) fun x14 hx14 => ?_
        conv => arg 3; whnf
        refine sim_call g_lower_Same_e (g_lower_Same_ok false false false false false false a b) rfl fun x15 hx15 => ?_
        conv => arg 3; whnf
        refine sim_br rfl ?_ ?_
        ·conv => arg 3; whnf
         refine sim_call g_ref07_Same_e (g_ref07_Same_ok t0 t1 t2 t3 t4 t5 a b) rfl fun x16 hx16 => ?_
         conv => arg 3; whnf
         refine sim_br rfl ?_ ?_
         ·conv => arg 3; whnf
          refine sim_t rfl ?_
          conv => arg 3; whnf
          exact sim_ret rfl
         ·conv => arg 3; whnf
          refine sim_f rfl ?_
          conv => arg 3; whnf
          exact sim_ret rfl
        ·conv => arg 3; whnf
         refine sim_call g_ref07_Same_e (g_ref07_Same_ok t0 t1 t2 t3 t4 t5 a b) rfl fun x17 hx17 => ?_
         conv => arg 3; whnf
         refine sim_br rfl ?_ ?_
         ·conv => arg 3; whnf
          refine sim_f rfl ?_
          conv => arg 3; whnf
          exact sim_ret rfl
         ·conv => arg 3; whnf
          refine sim_t rfl ?_
          conv => arg 3; whnf
          exact sim_ret rfl
       ·conv => arg 3; whnf
        exact sim_ret rfl
      ·conv => arg 3; whnf
       exact sim_ret rfl
    ·conv => arg 3; whnf
     refine sim_call D.bool (g_law07_awake_ok) rfl fun x18 hx18 => ?_
     conv => arg 3; whnf
     refine sim_br rfl ?_ ?_
     ·conv => arg 3; whnf
      exact sim_ret rfl
     ·conv => arg 3; whnf
      exact sim_ret rfl
  ·conv => arg 3; whnf
   refine sim_call D.bool (g_law07_awake_ok) rfl fun x19 hx19 => ?_
   conv => arg 3; whnf
   refine sim_br rfl ?_ ?_
   ·conv => arg 3; whnf
    exact sim_ret rfl
   ·conv => arg 3; whnf
    exact sim_ret rfl
 ·conv => arg 3; whnf
  refine sim_call D.bool (g_law07_awake_ok) rfl fun x20 hx20 => ?_
  conv => arg 3; whnf
  refine sim_br rfl ?_ ?_
  ·conv => arg 3; whnf
   exact sim_ret rfl
  ·conv => arg 3; whnf
   exact sim_ret rfl
end Go.Proofs.YtljgncbdagmeeaaDoor
