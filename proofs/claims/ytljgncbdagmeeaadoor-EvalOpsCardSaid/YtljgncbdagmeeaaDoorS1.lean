/- What the functions say, as plain text. -/
import Derived.Test.YtljgncbdagmeeaaDoorE35
namespace Go.Proofs.YtljgncbdagmeeaaDoor
open Go Go.Proofs.YtljgncbdagmeeaaDoorE
set_option linter.unusedVariables false

structure DagT where
  work : (List Int)
  edges : (List EdgeT)
  deriving DecidableEq
abbrev dagD (x : DagT) : D := (D.agg [(D.list true (List.map intD x.work)), (D.list true (List.map edgeD x.edges))])
structure PieceT where
  part : Int
  step : Int
  deriving DecidableEq
abbrev pieceD (x : PieceT) : D := (D.agg [(intD x.part), (intD x.step)])
structure LowT where
  dag : DagT
  pieces : (List PieceT)
  deriving DecidableEq
abbrev lowD (x : LowT) : D := (D.agg [(D.list true (List.map intD x.dag.work)), (D.list true (List.map edgeD x.dag.edges)), (D.list true (List.map pieceD x.pieces))])
def g_law07_awake : Option Bool := some true
noncomputable def g_law04_Few (a : DagT) : Option Bool :=
  bif (decide ((a.work.length : Int) ≤ 70)) then
    bif (decide ((a.edges.length : Int) ≤ 300)) then
      some true
    else
      some false
  else
    some false
noncomputable def g_law04_Own (a : DagT) : Option Unit :=
  bif (Nat.ble (List.length a.work) lim) then
    bif (Nat.ble (List.length a.edges) lim) then
      some ()
    else
      none
  else
    none
noncomputable def g_law07_Own (a : LowT) : Option Unit :=
  (g_law04_Own a.dag).bind fun x0 =>
  bif (Nat.ble (List.length a.pieces) lim) then
    some ()
  else
    none
noncomputable def g_lower_Node_L0 (a : LowT) (b : PieceT) (s0 : Int) : Option (Int ⊕ Int) :=
  bif (decide (s0 < (a.pieces.length : Int))) then
    (getI a.pieces s0).bind fun x1 =>
    bif ((x1.part == b.part) && ((x1.step == b.step) && true)) then
      some (.inr s0)
    else
      some (.inl (w64 (s0 + 1)))
  else
    some (.inr (-1))

noncomputable def g_lower_Node (a : LowT) (b : PieceT) : Option Int :=
  (lp (g_lower_Node_L0 a b) 0).bind fun r2 =>
  some r2
noncomputable def g_lower_Last (a : LowT) (b : Int) : Option Int :=
  (lastP (List.map (fun x : PieceT => (x.part, x.step)) a.pieces) b).bind fun x0 =>
  some x0
noncomputable def g_slices_Equal_l_int_int_L0 (a : (List Int)) (b : (List Int)) (s0 : Int) : Option (Int ⊕ (Unit ⊕ Unit)) :=
  bif (decide (s0 < (a.length : Int))) then
    (getI a s0).bind fun x1 =>
    (getI b s0).bind fun x2 =>
    bif (x1 != x2) then
      some (.inr (.inl ()))
    else
      some (.inl (w64 (s0 + 1)))
  else
    some (.inr (.inr ()))

noncomputable def g_slices_Equal_l_int_int (a : (List Int)) (b : (List Int)) : Option Bool :=
  bif ((a.length : Int) != (b.length : Int)) then
    some false
  else
    (lp (g_slices_Equal_l_int_int_L0 a b) 0).bind fun r3 =>
    match r3 with
    | (.inl r3) =>
      some false
    | (.inr r3) =>
      some true
noncomputable def g_slices_Equal_l_Edge_Edge_L0 (a : (List EdgeT)) (b : (List EdgeT)) (s0 : Int) : Option (Int ⊕ (Unit ⊕ Unit)) :=
  bif (decide (s0 < (a.length : Int))) then
    (getI a s0).bind fun x1 =>
    (getI b s0).bind fun x2 =>
    bif (!((x1.src == x2.src) && ((x1.dst == x2.dst) && true))) then
      some (.inr (.inl ()))
    else
      some (.inl (w64 (s0 + 1)))
  else
    some (.inr (.inr ()))

noncomputable def g_slices_Equal_l_Edge_Edge (a : (List EdgeT)) (b : (List EdgeT)) : Option Bool :=
  bif ((a.length : Int) != (b.length : Int)) then
    some false
  else
    (lp (g_slices_Equal_l_Edge_Edge_L0 a b) 0).bind fun r3 =>
    match r3 with
    | (.inl r3) =>
      some false
    | (.inr r3) =>
      some true
noncomputable def g_dag_Same (a : DagT) (b : DagT) : Option Bool :=
  (g_slices_Equal_l_int_int a.work b.work).bind fun x0 =>
  bif x0 then
    (g_slices_Equal_l_Edge_Edge a.edges b.edges).bind fun x1 =>
    bif x1 then
      some true
    else
      some false
  else
    some false
noncomputable def g_slices_Equal_l_Piece_Piece_L0 (a : (List PieceT)) (b : (List PieceT)) (s0 : Int) : Option (Int ⊕ (Unit ⊕ Unit)) :=
  bif (decide (s0 < (a.length : Int))) then
    (getI a s0).bind fun x1 =>
    (getI b s0).bind fun x2 =>
    bif (!((x1.part == x2.part) && ((x1.step == x2.step) && true))) then
      some (.inr (.inl ()))
    else
      some (.inl (w64 (s0 + 1)))
  else
    some (.inr (.inr ()))

noncomputable def g_slices_Equal_l_Piece_Piece (a : (List PieceT)) (b : (List PieceT)) : Option Bool :=
  bif ((a.length : Int) != (b.length : Int)) then
    some false
  else
    (lp (g_slices_Equal_l_Piece_Piece_L0 a b) 0).bind fun r3 =>
    match r3 with
    | (.inl r3) =>
      some false
    | (.inr r3) =>
      some true
noncomputable def g_lower_Same (a : LowT) (b : LowT) : Option Bool :=
  (g_dag_Same a.dag b.dag).bind fun x0 =>
  bif x0 then
    (g_slices_Equal_l_Piece_Piece a.pieces b.pieces).bind fun x1 =>
    bif x1 then
      some true
    else
      some false
  else
    some false
noncomputable def g_ref04_Same_L0 (a : DagT) (b : DagT) (s0 : Int) : Option (Int ⊕ (Unit ⊕ Unit)) :=
  bif (decide (s0 < (a.work.length : Int))) then
    (getI a.work s0).bind fun x1 =>
    (getI b.work s0).bind fun x2 =>
    bif (x1 != x2) then
      some (.inr (.inl ()))
    else
      some (.inl (w64 (s0 + 1)))
  else
    some (.inr (.inr ()))

noncomputable def g_ref04_Same_L1 (a : DagT) (b : DagT) (s4 : Int) : Option (Int ⊕ (Unit ⊕ Unit)) :=
  bif (decide (s4 < (a.edges.length : Int))) then
    (getI a.edges s4).bind fun x5 =>
    (getI b.edges s4).bind fun x6 =>
    bif (!((x5.src == x6.src) && ((x5.dst == x6.dst) && true))) then
      some (.inr (.inl ()))
    else
      some (.inl (w64 (s4 + 1)))
  else
    some (.inr (.inr ()))

noncomputable def g_ref04_Same (a : DagT) (b : DagT) : Option Bool :=
  bif ((a.work.length : Int) != (b.work.length : Int)) then
    some false
  else
    bif ((a.edges.length : Int) != (b.edges.length : Int)) then
      some false
    else
      (lp (g_ref04_Same_L0 a b) 0).bind fun r3 =>
      match r3 with
      | (.inl r3) =>
        some false
      | (.inr r3) =>
        (lp (g_ref04_Same_L1 a b) 0).bind fun r7 =>
        match r7 with
        | (.inl r7) =>
          some false
        | (.inr r7) =>
          some true
noncomputable def g_ref07_Same_L0 (a : LowT) (b : LowT) (s0 : Int) : Option (Int ⊕ (Unit ⊕ Unit)) :=
  bif (decide (s0 < (a.pieces.length : Int))) then
    (getI a.pieces s0).bind fun x1 =>
    (getI b.pieces s0).bind fun x2 =>
    bif (!((x1.part == x2.part) && ((x1.step == x2.step) && true))) then
      some (.inr (.inl ()))
    else
      some (.inl (w64 (s0 + 1)))
  else
    some (.inr (.inr ()))

noncomputable def g_ref07_Same (a : LowT) (b : LowT) : Option Bool :=
  bif ((a.pieces.length : Int) != (b.pieces.length : Int)) then
    some false
  else
    (lp (g_ref07_Same_L0 a b) 0).bind fun r3 =>
    match r3 with
    | (.inl r3) =>
      some false
    | (.inr r3) =>
      (g_ref04_Same a.dag b.dag).bind fun x4 =>
      bif x4 then
        some true
      else
        some false
noncomputable def g_law07_LowPlaces_L0 (a : LowT) (c : PieceT) (d : Int) (s5 : Int × Int × Int) : Option ((Int × Int × Int) ⊕ (Int × Int)) :=
  bif (decide (s5.2.2 < (a.pieces.length : Int))) then
    bif (decide (s5.1 < 0)) then
      (getI a.pieces s5.2.2).bind fun x6 =>
      bif ((x6.part == c.part) && ((x6.step == c.step) && true)) then
        bif (decide (0 ≤ d)) then
          bif (x6.part == d) then
            some (.inl (s5.2.2, s5.2.2, (w64 (s5.2.2 + 1))))
          else
            some (.inl (s5.2.2, s5.2.1, (w64 (s5.2.2 + 1))))
        else
          some (.inl (s5.2.2, s5.2.1, (w64 (s5.2.2 + 1))))
      else
        bif (decide (0 ≤ d)) then
          bif (x6.part == d) then
            some (.inl (s5.1, s5.2.2, (w64 (s5.2.2 + 1))))
          else
            some (.inl (s5.1, s5.2.1, (w64 (s5.2.2 + 1))))
        else
          some (.inl (s5.1, s5.2.1, (w64 (s5.2.2 + 1))))
    else
      bif (decide (0 ≤ d)) then
        (getI a.pieces s5.2.2).bind fun x7 =>
        bif (x7.part == d) then
          some (.inl (s5.1, s5.2.2, (w64 (s5.2.2 + 1))))
        else
          some (.inl (s5.1, s5.2.1, (w64 (s5.2.2 + 1))))
      else
        some (.inl (s5.1, s5.2.1, (w64 (s5.2.2 + 1))))
  else
    some (.inr (s5.1, s5.2.1))

noncomputable def g_law07_LowPlaces (a : LowT) (b : LowT) (c : PieceT) (d : Int) : Option Bool :=
  g_law07_awake.bind fun x0 =>
  bif x0 then
    (g_law04_Few a.dag).bind fun x1 =>
    bif x1 then
      bif (decide (70 < (a.pieces.length : Int))) then
        g_law07_awake.bind fun x2 =>
        bif x2 then
          some true
        else
          some false
      else
        (g_law04_Few b.dag).bind fun x3 =>
        bif x3 then
          bif (decide (70 < (b.pieces.length : Int))) then
            g_law07_awake.bind fun x4 =>
            bif x4 then
              some true
            else
              some false
          else
            (lp (g_law07_LowPlaces_L0 a c d) ((-1), (-1), 0)).bind fun r8 =>
            (g_law07_Own a).bind fun x9 =>
            (g_lower_Node a c).bind fun x10 =>
            bif (x10 == r8.1) then
              (g_law07_Own a).bind fun x11 =>
              (g_lower_Last a d).bind fun x12 =>
              bif (x12 == r8.2) then
                (g_law07_Own a).bind fun x13 =>
                (g_law07_Own b).bind fun x14 =>
                (g_lower_Same a b).bind fun x15 =>
                bif x15 then
                  (g_ref07_Same a b).bind fun x16 =>
                  bif x16 then
                    some true
                  else
                    some false
                else
                  (g_ref07_Same a b).bind fun x17 =>
                  bif x17 then
                    some false
                  else
                    some true
              else
                some false
            else
              some false
        else
          g_law07_awake.bind fun x18 =>
          bif x18 then
            some true
          else
            some false
    else
      g_law07_awake.bind fun x19 =>
      bif x19 then
        some true
      else
        some false
  else
    g_law07_awake.bind fun x20 =>
    bif x20 then
      some true
    else
      some false
def g_law08_awake : Option Bool := some true
noncomputable def g_eval_value (a : Int) : Option Int :=
  some (IntKind.u32.wrap a)
noncomputable def g_eval_ways : Option Unit :=
  some ()
noncomputable def g_eval_ways_1 (a : Int) (b : Int) : Option Int :=
  some (IntKind.u32.wrap (a + b))
noncomputable def g_eval_ways_2 (a : Int) (b : Int) : Option Int :=
  some (IntKind.u32.wrap (a * b))
noncomputable def g_eval_ways_3 (a : Int) (b : Int) : Option Int :=
  some (bif decide (a < b) then b else a)
noncomputable def g_eval_ways_4 (a : Int) (b : Int) : Option Int :=
  some (IntKind.u32.wrap ((IntKind.u32.wrap (a * 31)) + b))
noncomputable def g_eval_Op_L0 (b : (List Int)) (s0 : Int × (List (Int × Int))) : Option ((Int × (List (Int × Int))) ⊕ (List (Int × Int))) :=
  bif (decide (s0.1 < (b.length : Int))) then
    (getI b s0.1).bind fun x1 =>
    some (.inl ((w64 (s0.1 + 1)), (mapPut (fun ka kb : Int => (ka == kb)) s0.2 s0.1 x1)))
  else
    some (.inr s0.2)

noncomputable def g_eval_Op_L1 (c : (List Int)) (s6 : Int × Int) : Option ((Int × Int) ⊕ Int) :=
  bif (decide (s6.2 < (c.length : Int))) then
    (getI c s6.2).bind fun x7 =>
    (g_eval_value x7).bind fun x8 =>
    (g_eval_ways_1 s6.1 x8).bind fun x9 =>
    some (.inl (x9, (w64 (s6.2 + 1))))
  else
    some (.inr s6.1)

noncomputable def g_eval_Op_L1_2 (c : (List Int)) (s11 : Int × Int) : Option ((Int × Int) ⊕ Int) :=
  bif (decide (s11.2 < (c.length : Int))) then
    (getI c s11.2).bind fun x12 =>
    (g_eval_value x12).bind fun x13 =>
    (g_eval_ways_2 s11.1 x13).bind fun x14 =>
    some (.inl (x14, (w64 (s11.2 + 1))))
  else
    some (.inr s11.1)

noncomputable def g_eval_Op_L1_3 (c : (List Int)) (s16 : Int × Int) : Option ((Int × Int) ⊕ Int) :=
  bif (decide (s16.2 < (c.length : Int))) then
    (getI c s16.2).bind fun x17 =>
    (g_eval_value x17).bind fun x18 =>
    (g_eval_ways_3 s16.1 x18).bind fun x19 =>
    some (.inl (x19, (w64 (s16.2 + 1))))
  else
    some (.inr s16.1)

noncomputable def g_eval_Op_L1_4 (c : (List Int)) (s21 : Int × Int) : Option ((Int × Int) ⊕ Int) :=
  bif (decide (s21.2 < (c.length : Int))) then
    (getI c s21.2).bind fun x22 =>
    (g_eval_value x22).bind fun x23 =>
    (g_eval_ways_4 s21.1 x23).bind fun x24 =>
    some (.inl (x24, (w64 (s21.2 + 1))))
  else
    some (.inr s21.1)

noncomputable def g_eval_Op (a : PartT) (b : (List Int)) (c : (List Int)) : Option Int :=
  bif (a.op == 0) then
    (lp (g_eval_Op_L0 b) (0, ([] : (List (Int × Int))))).bind fun r2 =>
    (g_eval_value (mapGet (fun ka kb : Int => (ka == kb)) r2 a.arg 0)).bind fun x3 =>
    some (w64 x3)
  else
    bif (a.op == 1) then
      (g_eval_value a.arg).bind fun x4 =>
      some (w64 x4)
    else
      bif (decide (a.op < 0)) then
        some 0
      else
        bif (decide (5 < a.op)) then
          some 0
        else
          g_eval_ways.bind fun x5 =>
          bif (decide (0 ≤ (w64 (a.op - 2))) && decide ((w64 (a.op - 2)) < 4)) then
            bif ((w64 (a.op - 2)) == 0) then
              (lp (g_eval_Op_L1 c) (0, 0)).bind fun r10 =>
              some (w64 r10)
            else
            bif ((w64 (a.op - 2)) == 1) then
              (lp (g_eval_Op_L1_2 c) (1, 0)).bind fun r15 =>
              some (w64 r15)
            else
            bif ((w64 (a.op - 2)) == 2) then
              (lp (g_eval_Op_L1_3 c) (0, 0)).bind fun r20 =>
              some (w64 r20)
            else
            bif ((w64 (a.op - 2)) == 3) then
              (lp (g_eval_Op_L1_4 c) (7, 0)).bind fun r25 =>
              some (w64 r25)
            else
              none
          else
            none
noncomputable def g_ref08_Round (a : Int) : Option Int :=
  bif (decide ((Int.tmod a 4294967296) < 0)) then
    some (w64 ((Int.tmod a 4294967296) + 4294967296))
  else
    some (Int.tmod a 4294967296)
noncomputable def g_ref08_times (a : Int) (b : Int) : Option Int :=
  (g_ref08_Round (w64 ((w64 (Int.tdiv a 65536)) * b))).bind fun x0 =>
  (g_ref08_Round (w64 ((w64 ((Int.tmod x0 65536) * 65536)) + (w64 ((Int.tmod a 65536) * b))))).bind fun x1 =>
  some x1
noncomputable def g_ref08_Op_L0 (a : PartT) (c : (List Int)) (s3 : Int × Int) : Option ((Int × Int) ⊕ Int) :=
  bif (decide (s3.2 < (c.length : Int))) then
    (getI c s3.2).bind fun x4 =>
    (g_ref08_Round x4).bind fun x5 =>
    bif (a.op == 2) then
      (g_ref08_Round (w64 (s3.1 + x5))).bind fun x6 =>
      some (.inl (x6, (w64 (s3.2 + 1))))
    else
      bif (a.op == 3) then
        (g_ref08_times s3.1 x5).bind fun x7 =>
        some (.inl (x7, (w64 (s3.2 + 1))))
      else
        bif (a.op == 4) then
          some (.inl ((bif decide (s3.1 < x5) then x5 else s3.1), (w64 (s3.2 + 1))))
        else
          bif (a.op == 5) then
            (g_ref08_Round (w64 ((w64 (s3.1 * 31)) + x5))).bind fun x8 =>
            some (.inl (x8, (w64 (s3.2 + 1))))
          else
            some (.inl (s3.1, (w64 (s3.2 + 1))))
  else
    some (.inr s3.1)

noncomputable def g_ref08_Op_L0_2 (a : PartT) (c : (List Int)) (s10 : Int × Int) : Option ((Int × Int) ⊕ Int) :=
  bif (decide (s10.2 < (c.length : Int))) then
    (getI c s10.2).bind fun x11 =>
    (g_ref08_Round x11).bind fun x12 =>
    bif (a.op == 2) then
      (g_ref08_Round (w64 (s10.1 + x12))).bind fun x13 =>
      some (.inl (x13, (w64 (s10.2 + 1))))
    else
      bif (a.op == 3) then
        (g_ref08_times s10.1 x12).bind fun x14 =>
        some (.inl (x14, (w64 (s10.2 + 1))))
      else
        bif (a.op == 4) then
          some (.inl ((bif decide (s10.1 < x12) then x12 else s10.1), (w64 (s10.2 + 1))))
        else
          bif (a.op == 5) then
            (g_ref08_Round (w64 ((w64 (s10.1 * 31)) + x12))).bind fun x15 =>
            some (.inl (x15, (w64 (s10.2 + 1))))
          else
            some (.inl (s10.1, (w64 (s10.2 + 1))))
  else
    some (.inr s10.1)

noncomputable def g_ref08_Op_L0_3 (a : PartT) (c : (List Int)) (s17 : Int × Int) : Option ((Int × Int) ⊕ Int) :=
  bif (decide (s17.2 < (c.length : Int))) then
    (getI c s17.2).bind fun x18 =>
    (g_ref08_Round x18).bind fun x19 =>
    bif (a.op == 2) then
      (g_ref08_Round (w64 (s17.1 + x19))).bind fun x20 =>
      some (.inl (x20, (w64 (s17.2 + 1))))
    else
      bif (a.op == 3) then
        (g_ref08_times s17.1 x19).bind fun x21 =>
        some (.inl (x21, (w64 (s17.2 + 1))))
      else
        bif (a.op == 4) then
          some (.inl ((bif decide (s17.1 < x19) then x19 else s17.1), (w64 (s17.2 + 1))))
        else
          bif (a.op == 5) then
            (g_ref08_Round (w64 ((w64 (s17.1 * 31)) + x19))).bind fun x22 =>
            some (.inl (x22, (w64 (s17.2 + 1))))
          else
            some (.inl (s17.1, (w64 (s17.2 + 1))))
  else
    some (.inr s17.1)

noncomputable def g_ref08_Op_L0_4 (a : PartT) (c : (List Int)) (s24 : Int × Int) : Option ((Int × Int) ⊕ Int) :=
  bif (decide (s24.2 < (c.length : Int))) then
    (getI c s24.2).bind fun x25 =>
    (g_ref08_Round x25).bind fun x26 =>
    bif (a.op == 2) then
      (g_ref08_Round (w64 (s24.1 + x26))).bind fun x27 =>
      some (.inl (x27, (w64 (s24.2 + 1))))
    else
      bif (a.op == 3) then
        (g_ref08_times s24.1 x26).bind fun x28 =>
        some (.inl (x28, (w64 (s24.2 + 1))))
      else
        bif (a.op == 4) then
          some (.inl ((bif decide (s24.1 < x26) then x26 else s24.1), (w64 (s24.2 + 1))))
        else
          bif (a.op == 5) then
            (g_ref08_Round (w64 ((w64 (s24.1 * 31)) + x26))).bind fun x29 =>
            some (.inl (x29, (w64 (s24.2 + 1))))
          else
            some (.inl (s24.1, (w64 (s24.2 + 1))))
  else
    some (.inr s24.1)

noncomputable def g_ref08_Op (a : PartT) (b : (List Int)) (c : (List Int)) : Option Int :=
  bif (a.op == 0) then
    bif (decide (a.arg < 0)) then
      some 0
    else
      bif (decide ((b.length : Int) ≤ a.arg)) then
        some 0
      else
        (getI b a.arg).bind fun x0 =>
        (g_ref08_Round x0).bind fun x1 =>
        some x1
  else
    bif (a.op == 1) then
      (g_ref08_Round a.arg).bind fun x2 =>
      some x2
    else
      bif (decide (a.op < 0)) then
        some 0
      else
        bif (decide (5 < a.op)) then
          some 0
        else
          bif (a.op == 3) then
            bif (a.op == 5) then
              (lp (g_ref08_Op_L0 a c) (7, 0)).bind fun r9 =>
              some r9
            else
              (lp (g_ref08_Op_L0_2 a c) (1, 0)).bind fun r16 =>
              some r16
          else
            bif (a.op == 5) then
              (lp (g_ref08_Op_L0_3 a c) (7, 0)).bind fun r23 =>
              some r23
            else
              (lp (g_ref08_Op_L0_4 a c) (0, 0)).bind fun r30 =>
              some r30
noncomputable def g_law08_EvalOps (a : PartT) (b : (List Int)) (c : (List Int)) : Option Bool :=
  g_law08_awake.bind fun x0 =>
  bif x0 then
    bif (decide (60 < (b.length : Int))) then
      g_law08_awake.bind fun x1 =>
      bif x1 then
        some true
      else
        some false
    else
      bif (decide (60 < (c.length : Int))) then
        g_law08_awake.bind fun x2 =>
        bif x2 then
          some true
        else
          some false
      else
        bif (Nat.ble (List.length b) lim) then
          bif (Nat.ble (List.length c) lim) then
            (g_eval_Op a b c).bind fun x3 =>
            (g_ref08_Op a b c).bind fun x4 =>
            bif (x3 == x4) then
              bif (decide (0 ≤ x3)) then
                bif (decide (x3 ≤ 4294967295)) then
                  some true
                else
                  some false
              else
                some false
            else
              some false
          else
            none
        else
          none
  else
    g_law08_awake.bind fun x5 =>
    bif x5 then
      some true
    else
      some false
end Go.Proofs.YtljgncbdagmeeaaDoor
