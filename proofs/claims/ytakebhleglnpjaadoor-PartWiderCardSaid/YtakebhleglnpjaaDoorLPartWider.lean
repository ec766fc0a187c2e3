/- PartWider: what the law comes to. -/
import Derived.Test.YtakebhleglnpjaaDoorQPlaced
import Derived.Test.YtakebhleglnpjaaDoorWPartWider
import Derived.Test.YtakebhleglnpjaaDoorJ3
namespace Go.Proofs.YtakebhleglnpjaaDoor
open Go Go.Proofs.YtakebhleglnpjaaDoorE
set_option linter.unusedVariables false
set_option linter.unusedSimpArgs false

theorem cut_eq {γ : Type} (l : List γ) (i : Nat) (hi : i < l.length) :
    List.take (i + List.length (List.take (List.length l - (i + 1)) (List.drop (i + 1) l))) (List.drop 0 (List.take (0 + i) l ++ (List.take (List.length l - (i + 1)) (List.drop (i + 1) l) ++ List.drop (0 + i + List.length (List.take (List.length l - (i + 1)) (List.drop (i + 1) l))) l))) = l.eraseIdx i := by
  have hm : List.take (List.length l - (i + 1)) (List.drop (i + 1) l) = List.drop (i + 1) l := List.take_of_length_le (by rw [List.length_drop]; exact Nat.le_refl _)
  rw [hm, List.drop_zero, Nat.zero_add, List.eraseIdx_eq_take_drop_succ, ← List.append_assoc]
  rw [List.take_left']
  rw [List.length_append, List.length_take, Nat.min_eq_left (Nat.le_of_lt hi)]
theorem cut_ble {γ : Type} (l : List γ) (i : Nat) (hi : i < l.length) : Nat.ble (0 + i + List.length (List.take (List.length l - (i + 1)) (List.drop (i + 1) l))) (List.length l) = true := by
  refine Nat.ble_eq_true_of_le ?_
  rw [List.length_take, List.length_drop]
  omega
theorem law_PartWider (l : List ShapeT) (a : List Int) (c d : Int) (hc : I64 c) (hd : I64 d) : g_law16_PartWider l a c d = some true := by
  unfold g_law16_PartWider
  simp only [g_law16_awake, Option.bind_some, cond_true]
  by_cases h20 : (20 : Int) < (l.length : Int)
  · rw [decide_eq_true h20]; rfl
  rw [decide_eq_false h20]
  by_cases h21 : (20 : Int) < (a.length : Int)
  · rw [decide_eq_true h21]; rfl
  rw [decide_eq_false h21]
  have hl : l.length ≤ 1000 := by omega
  have ha : a.length ≤ 1000 := by omega
  by_cases h8 : 8 ≤ c
  · rw [decide_eq_true h8]; rfl
  rw [decide_eq_false h8]
  obtain ⟨q, q1, q2⟩ := right_p l hl a ha c
  simp only [cond_false, own_s l hl, Option.bind_some, lim_t (show List.length a ≤ 1073741824 by omega), cond_true, q1]
  cases q with
  | false => rfl
  | true =>
    have hr := q2.1 rfl
    have c8 := hr.cc
    have w : w64 (c + 1) = c + 1 := w64_id (by omega) (by omega)
    obtain ⟨p, p1, p2⟩ := right_p l hl a ha (c + 1)
    rw [p2.2 (right_more hr (by omega))] at p1
    simp only [cond_true, w, p1, Option.bind_some]
    by_cases h0 : d < 0
    · rw [decide_eq_true h0]; rfl
    rw [decide_eq_false h0]
    by_cases h1 : (l.length : Int) ≤ d
    · rw [decide_eq_true h1]; rfl
    rw [decide_eq_false h1]
    by_cases h2 : (a.length : Int) ≤ d
    · rw [decide_eq_true h2]; rfl
    rw [decide_eq_false h2]
    obtain ⟨i, rfl⟩ : ∃ i : Nat, d = (i : Int) := ⟨d.toNat, by omega⟩
    have i1 : i < l.length := by omega
    have i2 : i < a.length := by omega
    have w2 : w64 ((i : Int) + 1) = ((i + 1 : Nat) : Int) := w64_succ i1 (by omega)
    obtain ⟨r, r1, r2⟩ := right_p (l.eraseIdx i) (Nat.le_trans (List.eraseIdx_sublist l i).length_le hl) (a.eraseIdx i) (Nat.le_trans (List.eraseIdx_sublist a i).length_le ha) c
    rw [r2.2 (right_less hr i)] at r1
    simp only [cond_false, cond_true, decide_eq_true (show (0 : Int) ≤ (i : Int) by omega), Int.toNat_natCast, Nat.ble_eq_true_of_le (Nat.le_of_lt i1), Nat.ble_eq_true_of_le (Nat.le_of_lt i2), w2, decide_eq_true (show (0 : Int) ≤ ((i + 1 : Nat) : Int) by omega), Nat.ble_eq_true_of_le (show i + 1 ≤ l.length from i1), Nat.ble_eq_true_of_le (show i + 1 ≤ a.length from i2), cut_ble _ _ i1, cut_ble _ _ i2, cut_eq _ _ i1, cut_eq _ _ i2, r1, Option.bind_some]

theorem ev_PartWider (xs : List D) (h : okLfs par43.1 xs) (ys : List D) (k : okLfs par34.1 ys) (zs : List D) (k2 : okLfs par3.1 zs) (ws : List D) (k3 : okLfs par3.1 ws) : ∃ H', evW ctx 14 (mapd [parD par43.2 xs, parD par34.2 ys, parD par3.2 zs, parD par3.2 ws]) [] = some (.d (.bool true), H') := by
  obtain ⟨x, r, rfl, h1, rfl⟩ := h
  obtain ⟨l, rfl⟩ := shape_of h1
  obtain ⟨y, r, rfl, h2, rfl⟩ := k
  obtain ⟨a, rfl, _⟩ := ints_of h2
  obtain ⟨n, hn, okn⟩ := int_of k2
  obtain ⟨m, hm, okm⟩ := int_of k3
  show ∃ H', evW ctx 14 [.d (.list true (l.map shapeD)), .d (intsD true a), .d (parD false zs), .d (parD false ws)] [] = _
  rw [hn, hm]
  exact evD_true (g_law16_PartWider_ok true true l a n m true (law_PartWider l a n m okn okm))
end Go.Proofs.YtakebhleglnpjaaDoor
