/- Slices: equal ones. -/
import Derived.Test.YtakebhleglnpjaaDoorI1
import Derived.Test.YtakebhleglnpjaaDoorE33
namespace Go.Proofs.YtakebhleglnpjaaDoor
open Go Go.Proofs.YtakebhleglnpjaaDoorE
set_option linter.unusedVariables false
set_option linter.unusedSimpArgs false

theorem eq_loop_Part (τ τ' : Bool) (xs ys : List PartT) (hl : xs.length = ys.length) (hb : xs.length < 9223372036854775808) : ∀ (k i : Nat), i + k = xs.length →
    lpW ctx 0 [0, 1, 12, 13] [4] ir56L0 [.d (.list τ (xs.map partD)), .d (.list τ' (ys.map partD)), .d (intD xs.length), .d (intD i)] [] =
      if xs.drop i = ys.drop i then some (.exit 0, [.bad], []) else some (.ret, [.d (boolD false)], []) := by
  intro k
  induction k with
  | zero =>
    intro i hi
    rw [lpW_b]
    conv => lhs; whnf
    have : ¬ ((i : Int) < xs.length) := by omega
    rw [decide_eq_false this, br_f]
    conv => lhs; whnf
    have h1 : xs.drop i = [] := by simp; omega
    have h2 : ys.drop i = [] := by simp; omega
    rw [h1, h2]; rfl
  | succ k ih =>
    intro i hi
    rw [lpW_b]
    conv => lhs; whnf
    have : ((i : Int) < xs.length) := by omega
    rw [decide_eq_true this, br_t]
    conv => lhs; whnf
    rw [getI_map _ _ _ (show i < xs.length by omega), bnd_s]
    conv => lhs; whnf
    rw [getI_map _ _ _ (show i < ys.length by omega), bnd_s]
    conv => lhs; whnf
    have hx : xs.drop i = xs[i] :: xs.drop (i + 1) := List.drop_eq_getElem_cons (by omega)
    have hy : ys.drop i = ys[i] :: ys.drop (i + 1) := List.drop_eq_getElem_cons (by omega)
    rw [hx, hy]
    by_cases he : xs[i] = ys[i]
    · have hc : (bif true then !(xs[i].op == ys[i].op && (xs[i].arg == ys[i].arg && (xs[i].work == ys[i].work && true))) else (xs[i].op == ys[i].op && (xs[i].arg == ys[i].arg && (xs[i].work == ys[i].work && true)))) = false := by rw [he]; simp
      rw [hc]; first | rw [br_t] | rw [br_f]
      conv => lhs; whnf
      have hw : IntKind.i64.wrap ((i : Int) + 1) = ((i + 1 : Nat) : Int) := by rw [wrap64 (by omega) (by omega)]; omega
      simp only [hw]
      rw [ih (i + 1) (by omega), he]
      simp only [List.cons.injEq, true_and]
      exact bnd_some _
    · have hc : (bif true then !(xs[i].op == ys[i].op && (xs[i].arg == ys[i].arg && (xs[i].work == ys[i].work && true))) else (xs[i].op == ys[i].op && (xs[i].arg == ys[i].arg && (xs[i].work == ys[i].work && true)))) = true := by
        cases hb : (bif true then !(xs[i].op == ys[i].op && (xs[i].arg == ys[i].arg && (xs[i].work == ys[i].work && true))) else (xs[i].op == ys[i].op && (xs[i].arg == ys[i].arg && (xs[i].work == ys[i].work && true)))) with
        | true => rfl
        | false => exact absurd (by simp at hb; cases hx1 : xs[i]; cases hy1 : ys[i]; simp [hx1, hy1] at hb; simp [hb]) he
      rw [hc]; first | rw [br_t] | rw [br_f]
      conv => lhs; whnf
      rw [if_neg (fun h => he (List.cons.inj h).1)]

theorem eq_Part (τ τ' : Bool) (xs ys : List PartT) (hb : xs.length < 9223372036854775808) :
    evW ctx 56 [.d (.list τ (xs.map partD)), .d (.list τ' (ys.map partD))] [] = some (.d (.bool (decide (xs = ys))), []) := by
  rw [evW_K ctx 56 fn56 _ _ rfl rfl]
  conv => lhs; whnf
  simp only [List.length_map]
  by_cases hl : xs.length = ys.length
  · have hn : ((xs.length : Int) != (ys.length : Int)) = false := by rw [hl]; simp
    rw [hn]; first | rw [br_t] | rw [br_f]
    conv => lhs; whnf
    simp only [List.length_map, List.length_nil]
    rw [show (V.d (D.int .i64 0)) = V.d (intD ((0 : Nat) : Int)) from rfl, eq_loop_Part τ τ' xs ys hl hb xs.length 0 (by omega)]
    simp only [List.drop_zero]
    by_cases he : xs = ys
    · rw [if_pos he, decide_eq_true he, bnd_s]; rfl
    · rw [if_neg he, decide_eq_false he, bnd_s]; rfl
  · have hn : ((xs.length : Int) != (ys.length : Int)) = true := by simp; omega
    rw [hn]; first | rw [br_t] | rw [br_f]
    conv => lhs; whnf
    rw [decide_eq_false (fun h => hl (by rw [h]))]

theorem eq_loop_Edge (τ τ' : Bool) (xs ys : List EdgeT) (hl : xs.length = ys.length) (hb : xs.length < 9223372036854775808) : ∀ (k i : Nat), i + k = xs.length →
    lpW ctx 0 [0, 1, 12, 13] [4] ir57L0 [.d (.list τ (xs.map edgeD)), .d (.list τ' (ys.map edgeD)), .d (intD xs.length), .d (intD i)] [] =
      if xs.drop i = ys.drop i then some (.exit 0, [.bad], []) else some (.ret, [.d (boolD false)], []) := by
  intro k
  induction k with
  | zero =>
    intro i hi
    rw [lpW_b]
    conv => lhs; whnf
    have : ¬ ((i : Int) < xs.length) := by omega
    rw [decide_eq_false this, br_f]
    conv => lhs; whnf
    have h1 : xs.drop i = [] := by simp; omega
    have h2 : ys.drop i = [] := by simp; omega
    rw [h1, h2]; rfl
  | succ k ih =>
    intro i hi
    rw [lpW_b]
    conv => lhs; whnf
    have : ((i : Int) < xs.length) := by omega
    rw [decide_eq_true this, br_t]
    conv => lhs; whnf
    rw [getI_map _ _ _ (show i < xs.length by omega), bnd_s]
    conv => lhs; whnf
    rw [getI_map _ _ _ (show i < ys.length by omega), bnd_s]
    conv => lhs; whnf
    have hx : xs.drop i = xs[i] :: xs.drop (i + 1) := List.drop_eq_getElem_cons (by omega)
    have hy : ys.drop i = ys[i] :: ys.drop (i + 1) := List.drop_eq_getElem_cons (by omega)
    rw [hx, hy]
    by_cases he : xs[i] = ys[i]
    · have hc : (bif true then !(xs[i].src == ys[i].src && (xs[i].dst == ys[i].dst && true)) else (xs[i].src == ys[i].src && (xs[i].dst == ys[i].dst && true))) = false := by rw [he]; simp
      rw [hc]; first | rw [br_t] | rw [br_f]
      conv => lhs; whnf
      have hw : IntKind.i64.wrap ((i : Int) + 1) = ((i + 1 : Nat) : Int) := by rw [wrap64 (by omega) (by omega)]; omega
      simp only [hw]
      rw [ih (i + 1) (by omega), he]
      simp only [List.cons.injEq, true_and]
      exact bnd_some _
    · have hc : (bif true then !(xs[i].src == ys[i].src && (xs[i].dst == ys[i].dst && true)) else (xs[i].src == ys[i].src && (xs[i].dst == ys[i].dst && true))) = true := by
        cases hb : (bif true then !(xs[i].src == ys[i].src && (xs[i].dst == ys[i].dst && true)) else (xs[i].src == ys[i].src && (xs[i].dst == ys[i].dst && true))) with
        | true => rfl
        | false => exact absurd (by simp at hb; cases hx1 : xs[i]; cases hy1 : ys[i]; simp [hx1, hy1] at hb; simp [hb]) he
      rw [hc]; first | rw [br_t] | rw [br_f]
      conv => lhs; whnf
      rw [if_neg (fun h => he (List.cons.inj h).1)]

theorem eq_Edge (τ τ' : Bool) (xs ys : List EdgeT) (hb : xs.length < 9223372036854775808) :
    evW ctx 57 [.d (.list τ (xs.map edgeD)), .d (.list τ' (ys.map edgeD))] [] = some (.d (.bool (decide (xs = ys))), []) := by
  rw [evW_K ctx 57 fn57 _ _ rfl rfl]
  conv => lhs; whnf
  simp only [List.length_map]
  by_cases hl : xs.length = ys.length
  · have hn : ((xs.length : Int) != (ys.length : Int)) = false := by rw [hl]; simp
    rw [hn]; first | rw [br_t] | rw [br_f]
    conv => lhs; whnf
    simp only [List.length_map, List.length_nil]
    rw [show (V.d (D.int .i64 0)) = V.d (intD ((0 : Nat) : Int)) from rfl, eq_loop_Edge τ τ' xs ys hl hb xs.length 0 (by omega)]
    simp only [List.drop_zero]
    by_cases he : xs = ys
    · rw [if_pos he, decide_eq_true he, bnd_s]; rfl
    · rw [if_neg he, decide_eq_false he, bnd_s]; rfl
  · have hn : ((xs.length : Int) != (ys.length : Int)) = true := by simp; omega
    rw [hn]; first | rw [br_t] | rw [br_f]
    conv => lhs; whnf
    rw [decide_eq_false (fun h => hl (by rw [h]))]

theorem eq_loop_Future (τ τ' : Bool) (xs ys : List FutureT) (hl : xs.length = ys.length) (hb : xs.length < 9223372036854775808) : ∀ (k i : Nat), i + k = xs.length →
    lpW ctx 0 [0, 1, 12, 13] [4] ir58L0 [.d (.list τ (xs.map futureD)), .d (.list τ' (ys.map futureD)), .d (intD xs.length), .d (intD i)] [] =
      if xs.drop i = ys.drop i then some (.exit 0, [.bad], []) else some (.ret, [.d (boolD false)], []) := by
  intro k
  induction k with
  | zero =>
    intro i hi
    rw [lpW_b]
    conv => lhs; whnf
    have : ¬ ((i : Int) < xs.length) := by omega
    rw [decide_eq_false this, br_f]
    conv => lhs; whnf
    have h1 : xs.drop i = [] := by simp; omega
    have h2 : ys.drop i = [] := by simp; omega
    rw [h1, h2]; rfl
  | succ k ih =>
    intro i hi
    rw [lpW_b]
    conv => lhs; whnf
    have : ((i : Int) < xs.length) := by omega
    rw [decide_eq_true this, br_t]
    conv => lhs; whnf
    rw [getI_map _ _ _ (show i < xs.length by omega), bnd_s]
    conv => lhs; whnf
    rw [getI_map _ _ _ (show i < ys.length by omega), bnd_s]
    conv => lhs; whnf
    have hx : xs.drop i = xs[i] :: xs.drop (i + 1) := List.drop_eq_getElem_cons (by omega)
    have hy : ys.drop i = ys[i] :: ys.drop (i + 1) := List.drop_eq_getElem_cons (by omega)
    rw [hx, hy]
    by_cases he : xs[i] = ys[i]
    · have hc : (bif true then !(xs[i].maker == ys[i].maker && (xs[i].user == ys[i].user && (xs[i].pos == ys[i].pos && true))) else (xs[i].maker == ys[i].maker && (xs[i].user == ys[i].user && (xs[i].pos == ys[i].pos && true)))) = false := by rw [he]; simp
      rw [hc]; first | rw [br_t] | rw [br_f]
      conv => lhs; whnf
      have hw : IntKind.i64.wrap ((i : Int) + 1) = ((i + 1 : Nat) : Int) := by rw [wrap64 (by omega) (by omega)]; omega
      simp only [hw]
      rw [ih (i + 1) (by omega), he]
      simp only [List.cons.injEq, true_and]
      exact bnd_some _
    · have hc : (bif true then !(xs[i].maker == ys[i].maker && (xs[i].user == ys[i].user && (xs[i].pos == ys[i].pos && true))) else (xs[i].maker == ys[i].maker && (xs[i].user == ys[i].user && (xs[i].pos == ys[i].pos && true)))) = true := by
        cases hb : (bif true then !(xs[i].maker == ys[i].maker && (xs[i].user == ys[i].user && (xs[i].pos == ys[i].pos && true))) else (xs[i].maker == ys[i].maker && (xs[i].user == ys[i].user && (xs[i].pos == ys[i].pos && true)))) with
        | true => rfl
        | false => exact absurd (by simp at hb; cases hx1 : xs[i]; cases hy1 : ys[i]; simp [hx1, hy1] at hb; simp [hb]) he
      rw [hc]; first | rw [br_t] | rw [br_f]
      conv => lhs; whnf
      rw [if_neg (fun h => he (List.cons.inj h).1)]

theorem eq_Future (τ τ' : Bool) (xs ys : List FutureT) (hb : xs.length < 9223372036854775808) :
    evW ctx 58 [.d (.list τ (xs.map futureD)), .d (.list τ' (ys.map futureD))] [] = some (.d (.bool (decide (xs = ys))), []) := by
  rw [evW_K ctx 58 fn58 _ _ rfl rfl]
  conv => lhs; whnf
  simp only [List.length_map]
  by_cases hl : xs.length = ys.length
  · have hn : ((xs.length : Int) != (ys.length : Int)) = false := by rw [hl]; simp
    rw [hn]; first | rw [br_t] | rw [br_f]
    conv => lhs; whnf
    simp only [List.length_map, List.length_nil]
    rw [show (V.d (D.int .i64 0)) = V.d (intD ((0 : Nat) : Int)) from rfl, eq_loop_Future τ τ' xs ys hl hb xs.length 0 (by omega)]
    simp only [List.drop_zero]
    by_cases he : xs = ys
    · rw [if_pos he, decide_eq_true he, bnd_s]; rfl
    · rw [if_neg he, decide_eq_false he, bnd_s]; rfl
  · have hn : ((xs.length : Int) != (ys.length : Int)) = true := by simp; omega
    rw [hn]; first | rw [br_t] | rw [br_f]
    conv => lhs; whnf
    rw [decide_eq_false (fun h => hl (by rw [h]))]

theorem eq_loop_int (τ τ' : Bool) (xs ys : List Int) (hl : xs.length = ys.length) (hb : xs.length < 9223372036854775808) : ∀ (k i : Nat), i + k = xs.length →
    lpW ctx 0 [0, 1, 12, 13] [4] ir55L0 [.d (.list τ (xs.map intD)), .d (.list τ' (ys.map intD)), .d (intD xs.length), .d (intD i)] [] =
      if xs.drop i = ys.drop i then some (.exit 0, [.bad], []) else some (.ret, [.d (boolD false)], []) := by
  intro k
  induction k with
  | zero =>
    intro i hi
    rw [lpW_b]
    conv => lhs; whnf
    have : ¬ ((i : Int) < xs.length) := by omega
    rw [decide_eq_false this, br_f]
    conv => lhs; whnf
    have h1 : xs.drop i = [] := by simp; omega
    have h2 : ys.drop i = [] := by simp; omega
    rw [h1, h2]; rfl
  | succ k ih =>
    intro i hi
    rw [lpW_b]
    conv => lhs; whnf
    have : ((i : Int) < xs.length) := by omega
    rw [decide_eq_true this, br_t]
    conv => lhs; whnf
    rw [getI_map _ _ _ (show i < xs.length by omega), bnd_s]
    conv => lhs; whnf
    rw [getI_map _ _ _ (show i < ys.length by omega), bnd_s]
    conv => lhs; whnf
    have hx : xs.drop i = xs[i] :: xs.drop (i + 1) := List.drop_eq_getElem_cons (by omega)
    have hy : ys.drop i = ys[i] :: ys.drop (i + 1) := List.drop_eq_getElem_cons (by omega)
    rw [hx, hy]
    by_cases he : xs[i] = ys[i]
    · have hc : (xs[i] != ys[i]) = false := by rw [he]; simp
      rw [hc]; first | rw [br_t] | rw [br_f]
      conv => lhs; whnf
      have hw : IntKind.i64.wrap ((i : Int) + 1) = ((i + 1 : Nat) : Int) := by rw [wrap64 (by omega) (by omega)]; omega
      simp only [hw]
      rw [ih (i + 1) (by omega), he]
      simp only [List.cons.injEq, true_and]
      exact bnd_some _
    · have hc : (xs[i] != ys[i]) = true := by
        cases hb : (xs[i] != ys[i]) with
        | true => rfl
        | false => exact absurd (by simpa using hb) he
      rw [hc]; first | rw [br_t] | rw [br_f]
      conv => lhs; whnf
      rw [if_neg (fun h => he (List.cons.inj h).1)]

theorem eq_int (τ τ' : Bool) (xs ys : List Int) (hb : xs.length < 9223372036854775808) :
    evW ctx 55 [.d (.list τ (xs.map intD)), .d (.list τ' (ys.map intD))] [] = some (.d (.bool (decide (xs = ys))), []) := by
  rw [evW_K ctx 55 fn55 _ _ rfl rfl]
  conv => lhs; whnf
  simp only [List.length_map]
  by_cases hl : xs.length = ys.length
  · have hn : ((xs.length : Int) != (ys.length : Int)) = false := by rw [hl]; simp
    rw [hn]; first | rw [br_t] | rw [br_f]
    conv => lhs; whnf
    simp only [List.length_map, List.length_nil]
    rw [show (V.d (D.int .i64 0)) = V.d (intD ((0 : Nat) : Int)) from rfl, eq_loop_int τ τ' xs ys hl hb xs.length 0 (by omega)]
    simp only [List.drop_zero]
    by_cases he : xs = ys
    · rw [if_pos he, decide_eq_true he, bnd_s]; rfl
    · rw [if_neg he, decide_eq_false he, bnd_s]; rfl
  · have hn : ((xs.length : Int) != (ys.length : Int)) = true := by simp; omega
    rw [hn]; first | rw [br_t] | rw [br_f]
    conv => lhs; whnf
    rw [decide_eq_false (fun h => hl (by rw [h]))]

end Go.Proofs.YtakebhleglnpjaaDoor
