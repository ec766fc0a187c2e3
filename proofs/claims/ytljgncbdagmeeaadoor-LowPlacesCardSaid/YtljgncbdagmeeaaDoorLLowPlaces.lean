/- LowPlaces: what the law comes to. -/
import Derived.Test.YtljgncbdagmeeaaDoorSDagSame
import Derived.Test.YtljgncbdagmeeaaDoorWLowPlaces
import Derived.Test.YtljgncbdagmeeaaDoorL3
namespace Go.Proofs.YtljgncbdagmeeaaDoor
open Go Go.Proofs.YtljgncbdagmeeaaDoorE
set_option linter.unusedVariables false
set_option linter.unusedSimpArgs false

def isPiece (p x : PieceT) : Bool := (x.part == p.part) && ((x.step == p.step) && true)
/-- the first place of a piece among the first k -/
def firstUp (p : PieceT) (l : List PieceT) : Nat → Int
  | 0 => -1
  | k + 1 => bif decide (firstUp p l k < 0) then (match l[k]? with | some x => (bif isPiece p x then (k : Int) else -1) | none => -1) else firstUp p l k
theorem firstUp_ge (p : PieceT) (l : List PieceT) : ∀ k, -1 ≤ firstUp p l k ∧ firstUp p l k < k
  | 0 => by simp [firstUp]
  | k + 1 => by
    have := firstUp_ge p l k
    unfold firstUp
    by_cases h : firstUp p l k < 0
    · rw [decide_eq_true h]
      simp only [cond_true]
      split
      · cases isPiece p _ <;> simp <;> omega
      · omega
    · rw [decide_eq_false h]; simp only [cond_false]; omega
theorem firstUp_stay (p : PieceT) (l : List PieceT) (i : Nat) (h : 0 ≤ firstUp p l i) : ∀ k, firstUp p l (i + k) = firstUp p l i
  | 0 => rfl
  | k + 1 => by
    have := firstUp_stay p l i h k
    show firstUp p l ((i + k) + 1) = _
    conv => lhs; unfold firstUp
    rw [this, decide_eq_false (by omega)]; rfl
theorem node_p (l : LowT) (p : PieceT) (hl : l.pieces.length < 9223372036854775808) : g_lower_Node l p = some (firstUp p l.pieces l.pieces.length) := by
  have key : ∀ k i : Nat, i + k = l.pieces.length → firstUp p l.pieces i = -1 → lp (g_lower_Node_L0 l p) (i : Int) = some (firstUp p l.pieces l.pieces.length) := by
    intro k
    induction k with
    | zero =>
      intro i hi hf
      have : i = l.pieces.length := by omega
      subst this
      rw [lp_eq]
      simp only [g_lower_Node_L0, lt_f, cond_false]
      rw [hf]
    | succ k ih =>
      intro i hi hf
      have hi' : i < l.pieces.length := by omega
      have hx : l.pieces[i]? = some l.pieces[i] := List.getElem?_eq_getElem hi'
      have e1 : firstUp p l.pieces (i + 1) = bif isPiece p l.pieces[i] then (i : Int) else -1 := by
        conv => lhs; unfold firstUp
        rw [hf, hx]; rfl
      rw [lp_eq]
      simp only [g_lower_Node_L0, lt_t hi', at_some hx, Option.bind_some, cond_true, w64_succ hi' hl]
      cases hp : isPiece p l.pieces[i] with
      | true =>
        rw [hp] at e1
        unfold isPiece at hp
        rw [hp]
        have := firstUp_stay p l.pieces (i + 1) (by rw [e1]; simp) k
        rw [show i + 1 + k = l.pieces.length by omega, e1] at this
        rw [this]; rfl
      | false =>
        rw [hp] at e1
        unfold isPiece at hp
        rw [hp]
        exact ih (i + 1) (by omega) e1
  have := key l.pieces.length 0 (by omega) rfl
  unfold g_lower_Node
  rw [show ((0 : Nat) : Int) = 0 from rfl] at this
  rw [this]; rfl
def pcs (l : LowT) : List (Int × Int) := List.map (fun x : PieceT => (x.part, x.step)) l.pieces
theorem last_p (l : LowT) (d : Int) (hl : l.pieces.length ≤ 1000) : g_lower_Last l d = some (lastFrom (pcs l) d l.pieces.length) := by
  unfold g_lower_Last lastP
  rw [List.length_map, lim_t (show l.pieces.length ≤ 1073741824 by omega)]
  rfl
theorem places_p (l : LowT) (p : PieceT) (d : Int) (hl : l.pieces.length ≤ 1000) : lp (g_law07_LowPlaces_L0 l p d) (-1, -1, 0) = some (firstUp p l.pieces l.pieces.length, lastFrom (pcs l) d l.pieces.length) := by
  have key : ∀ k i : Nat, i + k = l.pieces.length → lp (g_law07_LowPlaces_L0 l p d) (firstUp p l.pieces i, lastFrom (pcs l) d i, (i : Int)) = some (firstUp p l.pieces l.pieces.length, lastFrom (pcs l) d l.pieces.length) := by
    intro k
    induction k with
    | zero =>
      intro i hi
      have : i = l.pieces.length := by omega
      subst this
      rw [lp_eq]
      simp only [g_law07_LowPlaces_L0, lt_f, cond_false]
    | succ k ih =>
      intro i hi
      have hi' : i < l.pieces.length := by omega
      have hx : l.pieces[i]? = some l.pieces[i] := List.getElem?_eq_getElem hi'
      have e1 : firstUp p l.pieces (i + 1) = bif decide (firstUp p l.pieces i < 0) then (bif isPiece p l.pieces[i] then (i : Int) else -1) else firstUp p l.pieces i := by
        conv => lhs; unfold firstUp
        rw [hx]
      have e2 : lastFrom (pcs l) d (i + 1) = bif (l.pieces[i].part != d || decide (d < 0)) then lastFrom (pcs l) d i else (i : Int) := by
        conv => lhs; unfold lastFrom
        have : (pc (pcs l) i).1 = l.pieces[i].part := by simp [pc, pcs, hx]
        rw [this]
      have e4 : w64 ((i : Int) + 1) = ((i + 1 : Nat) : Int) := w64_succ hi' (by omega)
      have ih' := ih (i + 1) (by omega)
      have hd : decide (d < 0) = !decide (0 ≤ d) := by
        by_cases h : 0 ≤ d
        · rw [decide_eq_true h, decide_eq_false (by omega)]; rfl
        · rw [decide_eq_false h, decide_eq_true (by omega)]; rfl
      rw [e1, e2, hd] at ih'
      have hge := firstUp_ge p l.pieces i
      have hm : decide (firstUp p l.pieces i < 0) = true → firstUp p l.pieces i = -1 := fun h => by have := of_decide_eq_true h; omega
      rw [lp_eq]
      simp only [g_law07_LowPlaces_L0, lt_t hi', at_some hx, Option.bind_some, cond_true, e4]
      have hb : (l.pieces[i].part != d) = !(l.pieces[i].part == d) := rfl
      rw [hb] at ih'
      unfold isPiece at ih'
      cases h1 : decide (firstUp p l.pieces i < 0) <;> cases h2 : ((l.pieces[i].part == p.part) && ((l.pieces[i].step == p.step) && true)) <;> cases h3 : decide (0 ≤ d) <;> cases h4 : (l.pieces[i].part == d) <;>
        (rw [h1, h2, h3, h4] at ih'; simp only [cond_true, cond_false, Bool.not_true, Bool.not_false, Bool.true_or, Bool.or_true, Bool.or_false, Bool.false_or] at ih' ⊢; first | exact ih' | (rw [hm h1]; exact ih'))
  exact key l.pieces.length 0 (by omega)
theorem samePc_dec (x y : PieceT) : ((x.part == y.part) && ((x.step == y.step) && true)) = decide (x = y) := by
  cases x; cases y
  simp [PieceT.mk.injEq, Bool.beq_eq_decide_eq]
theorem eqPieces_p (a b : List PieceT) (ha : a.length < 9223372036854775808) : g_slices_Equal_l_Piece_Piece a b = some (decide (a = b)) := by
  unfold g_slices_Equal_l_Piece_Piece
  refine eqList_end a b _ fun hl => lp_same a b hl _ (fun i x y hi hx hy => ?_) ?_
  · simp only [g_slices_Equal_l_Piece_Piece_L0, lt_t hi, at_some hx, at_some hy, Option.bind_some, w64_succ hi ha, cond_true, samePc_dec]
    cases decide (x = y) <;> rfl
  · simp only [g_slices_Equal_l_Piece_Piece_L0, lt_f]; rfl
theorem lowSame_p (a b : LowT) (h1 : a.dag.work.length < 9223372036854775808) (h2 : a.dag.edges.length < 9223372036854775808) (h3 : a.pieces.length < 9223372036854775808) : g_lower_Same a b = some (decide (a.dag = b.dag) && decide (a.pieces = b.pieces)) := by
  unfold g_lower_Same
  simp only [dagSame_p _ _ h1 h2, eqPieces_p _ _ h3, Option.bind_some]
  cases decide (a.dag = b.dag) <;> cases decide (a.pieces = b.pieces) <;> rfl
theorem ref07Same_p (a b : LowT) (h1 : a.dag.work.length < 9223372036854775808) (h2 : a.dag.edges.length < 9223372036854775808) (h3 : a.pieces.length < 9223372036854775808) : g_ref07_Same a b = some (decide (a.dag = b.dag) && decide (a.pieces = b.pieces)) := by
  unfold g_ref07_Same
  rw [neq_len]
  by_cases l1 : a.pieces.length = b.pieces.length
  case neg => rw [decide_eq_false l1, decide_eq_false (show ¬ a.pieces = b.pieces from fun e => l1 (by rw [e])), Bool.and_false]; rfl
  rw [decide_eq_true l1]
  simp only [Bool.not_true, cond_false]
  rw [lp_same a.pieces b.pieces l1 (g_ref07_Same_L0 a b) (fun i x y hi hx hy => by
    simp only [g_ref07_Same_L0, lt_t hi, at_some hx, at_some hy, Option.bind_some, w64_succ hi h3, cond_true, samePc_dec]
    cases decide (x = y) <;> rfl) (by simp only [g_ref07_Same_L0, lt_f]; rfl)]
  simp only [ref04Same_p _ _ h1 h2]
  cases decide (a.pieces = b.pieces) <;> cases decide (a.dag = b.dag) <;> rfl
theorem ownLow_p {a : LowT} (h : fewDag a.dag = true) (h3 : a.pieces.length ≤ 1000) : g_law07_Own a = some () := by
  have := fewDag_w h; have := fewDag_e h
  unfold g_law07_Own
  rw [ownDag_p (by omega) (by omega), lim_t (by omega)]; rfl
theorem law_LowPlaces (l o : LowT) (p : PieceT) (d : Int) : g_law07_LowPlaces l o p d = some true := by
  unfold g_law07_LowPlaces
  simp only [g_law07_awake, Option.bind_some, cond_true, fewDag_p]
  cases f1 : fewDag l.dag with
  | false => rfl
  | true =>
    by_cases f2 : (70 : Int) < (l.pieces.length : Int)
    · rw [decide_eq_true f2]; rfl
    cases f3 : fewDag o.dag with
    | false => rw [decide_eq_false f2]; rfl
    | true =>
      by_cases f4 : (70 : Int) < (o.pieces.length : Int)
      · rw [decide_eq_false f2, decide_eq_true f4]; rfl
      have w1 := fewDag_w f1; have w2 := fewDag_e f1
      rw [decide_eq_false f2, decide_eq_false f4]
      simp only [cond_true, cond_false]
      rw [places_p l p d (by omega)]
      simp only [Option.bind_some, ownLow_p f1 (show l.pieces.length ≤ 1000 by omega), ownLow_p f3 (show o.pieces.length ≤ 1000 by omega), node_p l p (by omega), last_p l d (by omega), beq_self_eq_true, cond_true,
        lowSame_p l o (by omega) (by omega) (by omega), ref07Same_p l o (by omega) (by omega) (by omega)]
      cases decide (l.dag = o.dag) <;> cases decide (l.pieces = o.pieces) <;> rfl

theorem edges_of {x : D} (h : okLf (.sl true [.int .i64, .int .i64]) x) : ∃ l : List EdgeT, x = .list true (l.map edgeD) := by
  obtain ⟨l, rfl, _, _⟩ := aggs_of (f := edgeD) (p := fun _ => True) h fun cs hc => by
    obtain ⟨_, _, rfl, ⟨a, rfl, wa⟩, _, _, rfl, ⟨b, rfl, wb⟩, rfl⟩ := hc
    exact ⟨⟨a, b⟩, rfl, trivial⟩
  exact ⟨l, rfl⟩
theorem pieces_of {x : D} (h : okLf (.sl true [.int .i64, .int .i64]) x) : ∃ l : List PieceT, x = .list true (l.map pieceD) := by
  obtain ⟨l, rfl, _, _⟩ := aggs_of (f := pieceD) (p := fun _ => True) h fun cs hc => by
    obtain ⟨_, _, rfl, ⟨a, rfl, wa⟩, _, _, rfl, ⟨b, rfl, wb⟩, rfl⟩ := hc
    exact ⟨⟨a, b⟩, rfl, trivial⟩
  exact ⟨l, rfl⟩
theorem low_of {xs : List D} (h : okLfs [.sl false [.int .i64], .sl true [.int .i64, .int .i64], .sl true [.int .i64, .int .i64]] xs) : ∃ l : LowT, D.agg xs = lowD l := by
  obtain ⟨_, _, rfl, h1, _, _, rfl, h2, _, _, rfl, h3, rfl⟩ := h
  obtain ⟨a, rfl, _⟩ := ints_of h1
  obtain ⟨b, rfl⟩ := edges_of h2
  obtain ⟨c, rfl⟩ := pieces_of h3
  exact ⟨⟨⟨a, b⟩, c⟩, rfl⟩
theorem piece_of {xs : List D} (h : okLfs [.int .i64, .int .i64] xs) : ∃ p : PieceT, D.agg xs = pieceD p := by
  obtain ⟨_, _, rfl, ⟨a, rfl, wa⟩, _, _, rfl, ⟨b, rfl, wb⟩, rfl⟩ := h
  exact ⟨⟨a, b⟩, rfl⟩

theorem ev_LowPlaces (xs : List D) (h : okLfs par35.1 xs) (ys : List D) (k : okLfs par35.1 ys) (zs : List D) (m : okLfs par42.1 zs) (vs : List D) (n : okLfs par3.1 vs) :
    ∃ H', evW ctx 4 (mapd [parD par35.2 xs, parD par35.2 ys, parD par42.2 zs, parD par3.2 vs]) [] = some (.d (.bool true), H') := by
  obtain ⟨l, hl⟩ := low_of h
  obtain ⟨o, ho⟩ := low_of k
  obtain ⟨p, hp⟩ := piece_of m
  obtain ⟨d, hd, _⟩ := int_of n
  show ∃ H', evW ctx 4 [.d (D.agg xs), .d (D.agg ys), .d (D.agg zs), .d (parD false vs)] [] = _
  rw [hl, ho, hp, hd]
  exact evD_true (g_law07_LowPlaces_ok true true true true true true l o p d true (law_LowPlaces l o p d))
end Go.Proofs.YtljgncbdagmeeaaDoor
