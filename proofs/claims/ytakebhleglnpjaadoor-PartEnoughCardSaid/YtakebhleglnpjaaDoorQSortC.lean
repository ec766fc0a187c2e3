/- Sorting, plainly: what is left beside the recursion. -/
import Derived.Test.YtakebhleglnpjaaDoorQSortB
import Derived.KernelRfl
namespace Go.Proofs.YtakebhleglnpjaaDoor
open Go Go.Proofs.YtakebhleglnpjaaDoorE Go.Sort
set_option linter.unusedVariables false
set_option linter.unusedSimpArgs false

theorem l2_eq : g_slices_partialInsertionSortCmpFunc_int_L2_2 = g_slices_partialInsertionSortCmpFunc_int_L2 := rfl

def hintI : Hint → Int
  | .unknown => 0
  | .increasing => 1
  | .decreasing => 2
theorem hint_p (p : Int × Int) (n : Nat) (x : Int) (h : p.2 = (n : Int)) (hx : p.1 = x) : (bif p.2 == 0 then some (p.1, (1 : Int)) else bif p.2 == 12 then some (p.1, 2) else some (p.1, 0)) = some (x, hintI (if n = 0 then Hint.increasing else if n = 12 then .decreasing else .unknown)) := by
  rw [h, hx]
  by_cases h0 : n = 0
  · subst h0; rfl
  · by_cases h1 : n = 12
    · subst h1; rfl
    · rw [show ((n : Int) == 0) = false by simpa using h0, show ((n : Int) == 12) = false by simp; omega, if_neg h0, if_neg h1]
      rfl

section
variable {cmp : Int → Int → Option Int} {c : Int → Int → Int} {P : Int → Prop} (hc : CmpOK cmp c P)
include hc

theorem shd_p : ∀ (j : Nat) (d : Array Int), OKA P d → j < d.size → lp (g_slices_partialInsertionSortCmpFunc_int_L1 cmp) ((j : Int), d.toList) = some (shiftDown (ltC c) j d).toList ∧ OKA P (shiftDown (ltC c) j d) ∧ (shiftDown (ltC c) j d).size = d.size
  | 0, d, hd, hj => by
    rw [lp_eq]
    simp only [g_slices_partialInsertionSortCmpFunc_int_L1, decide_eq_false (show ¬ ((1 : Int) ≤ ((0 : Nat) : Int)) by omega), cond_false]
    exact ⟨rfl, hd, rfl⟩
  | j + 1, d, hd, hj => by
    have hj' : j < d.size := by omega
    have hz := hd.sz
    rw [lp_eq]
    have e2 : w64 (((j + 1 : Nat) : Int) - 1) = (j : Int) := w_nat (by omega) (by omega)
    have e3 := hc _ _ (hd.el (j + 1) hj) (hd.el j hj')
    unfold shiftDown
    by_cases h2 : c d[j + 1]! d[j]! < 0
    · obtain ⟨y, e5⟩ := midA (i := j + 1) (x := d[j]!) hj'
      simp only [g_slices_partialInsertionSortCmpFunc_int_L1, decide_eq_true (show (1 : Int) ≤ ((j + 1 : Nat) : Int) by omega), cond_true, getA hj, e2, getA hj', Option.bind_some, e3, decide_eq_true h2, Int.toNat_natCast, e5, swapA]
      rw [if_neg (by simp [h2, ltC])]
      have ih := shd_p j (swp d (j + 1) j) (hd.swp hj hj') (by rw [swp_size]; omega)
      rw [swp_size] at ih
      exact ih
    · simp only [g_slices_partialInsertionSortCmpFunc_int_L1, decide_eq_true (show (1 : Int) ≤ ((j + 1 : Nat) : Int) by omega), cond_true, getA hj, e2, getA hj', Option.bind_some, e3, decide_eq_false h2, cond_false]
      rw [if_pos (by simp [h2, ltC])]
      exact ⟨rfl, hd, rfl⟩
theorem shu_p (b : Nat) : ∀ (k j : Nat) (d : Array Int), b - j ≤ k → 1 ≤ j → b ≤ d.size → OKA P d → lp (g_slices_partialInsertionSortCmpFunc_int_L2 (b : Int) cmp) ((j : Int), d.toList) = some (shiftUp (ltC c) b j d).toList ∧ OKA P (shiftUp (ltC c) b j d) ∧ (shiftUp (ltC c) b j d).size = d.size := by
  intro k
  induction k with
  | zero =>
    intro j d hk hj hb hd
    rw [lp_eq]
    unfold shiftUp
    simp only [g_slices_partialInsertionSortCmpFunc_int_L2, n_lt, decide_eq_false (show ¬ j < b by omega), cond_false]
    rw [if_neg (by omega)]
    exact ⟨rfl, hd, rfl⟩
  | succ k ih =>
    intro j d hk hj hb hd
    have hz := hd.sz
    rw [lp_eq]
    unfold shiftUp
    by_cases h1 : j < b
    · have i1 : j < d.size := by omega
      have i2 : j - 1 < d.size := by omega
      have e2 : w64 ((j : Int) - 1) = ((j - 1 : Nat) : Int) := w_nat (by omega) (by omega)
      have e3 := hc _ _ (hd.el j i1) (hd.el (j - 1) i2)
      rw [if_pos h1]
      by_cases h2 : c d[j]! d[j - 1]! < 0
      · obtain ⟨y, e5⟩ := midA (i := j) (x := d[j - 1]!) i2
        simp only [g_slices_partialInsertionSortCmpFunc_int_L2, n_lt, decide_eq_true h1, cond_true, getA i1, e2, getA i2, Option.bind_some, e3, decide_eq_true h2, Int.toNat_natCast, e5, swapA, w64_succ h1 (by omega)]
        rw [if_neg (by simp [h2, ltC])]
        have := ih (j + 1) (swp d j (j - 1)) (by omega) (by omega) (by rw [swp_size]; exact hb) (hd.swp i1 i2)
        rw [swp_size] at this
        exact this
      · simp only [g_slices_partialInsertionSortCmpFunc_int_L2, n_lt, decide_eq_true h1, cond_true, getA i1, e2, getA i2, Option.bind_some, e3, decide_eq_false h2, cond_false]
        rw [if_pos (by simp [h2, ltC])]
        exact ⟨rfl, hd, rfl⟩
    · simp only [g_slices_partialInsertionSortCmpFunc_int_L2, n_lt, decide_eq_false h1, cond_false]
      rw [if_neg h1]
      exact ⟨rfl, hd, rfl⟩
theorem sorted_p (b : Nat) (z : Int) (d : Array Int) (hb : b ≤ d.size) (hd : OKA P d) (y1 y2 : Int) : ∀ (k i : Nat), b - i ≤ k → 1 ≤ i → i ≤ b → lp (g_slices_partialInsertionSortCmpFunc_int_L0 (b : Int) cmp (y1, y2, d.toList)) (i : Int) = some ((scanSorted (ltC c) d b i : Nat) : Int) ∧ i ≤ scanSorted (ltC c) d b i ∧ scanSorted (ltC c) d b i ≤ b := by
  have hz := hd.sz
  intro k
  induction k with
  | zero =>
    intro i hk hi hib
    rw [lp_eq]
    unfold scanSorted
    simp only [g_slices_partialInsertionSortCmpFunc_int_L0, n_lt, decide_eq_false (show ¬ i < b by omega), cond_false]
    rw [if_neg (by simp [show ¬ i < b by omega])]
    exact ⟨rfl, Nat.le_refl _, hib⟩
  | succ k ih =>
    intro i hk hi hib
    rw [lp_eq]
    unfold scanSorted
    by_cases h1 : i < b
    · have i1 : i < d.size := by omega
      have i2 : i - 1 < d.size := by omega
      have e2 : w64 ((i : Int) - 1) = ((i - 1 : Nat) : Int) := w_nat (by omega) (by omega)
      have e3 := hc _ _ (hd.el i i1) (hd.el (i - 1) i2)
      by_cases h2 : c d[i]! d[i - 1]! < 0
      · simp only [g_slices_partialInsertionSortCmpFunc_int_L0, n_lt, decide_eq_true h1, cond_true, getA i1, e2, getA i2, Option.bind_some, e3, decide_eq_true h2]
        rw [if_neg (by simp [h2, ltC])]
        exact ⟨rfl, Nat.le_refl _, hib⟩
      · simp only [g_slices_partialInsertionSortCmpFunc_int_L0, n_lt, decide_eq_true h1, cond_true, getA i1, e2, getA i2, Option.bind_some, e3, decide_eq_false h2, cond_false, w64_succ h1 (by omega)]
        rw [if_pos (by simp [h1, h2, ltC])]
        obtain ⟨a1, a2, a3⟩ := ih (i + 1) (by omega) (by omega) (by omega)
        exact ⟨a1, by omega, a3⟩
    · simp only [g_slices_partialInsertionSortCmpFunc_int_L0, n_lt, decide_eq_false h1, cond_false]
      rw [if_neg (by simp [h1])]
      exact ⟨rfl, Nat.le_refl _, hib⟩

theorem pis_lp (a b : Nat) : ∀ (s i : Nat) (d : Array Int), s ≤ 5 → a < i → i ≤ b → b ≤ d.size → OKA P d →
    ∃ r, lp (g_slices_partialInsertionSortCmpFunc_int_L3 (a : Int) (b : Int) cmp) ((i : Int), ((5 - s : Nat) : Int), d.toList) = some r ∧ (match r with | .inl l => l = (partialIns (ltC c) a b s i d).1.toList ∧ (partialIns (ltC c) a b s i d).2 = true | .inr (.inl l) => l = (partialIns (ltC c) a b s i d).1.toList ∧ (partialIns (ltC c) a b s i d).2 = false | .inr (.inr l) => l = (partialIns (ltC c) a b s i d).1.toList ∧ (partialIns (ltC c) a b s i d).2 = false) ∧
      OKA P (partialIns (ltC c) a b s i d).1 ∧ (partialIns (ltC c) a b s i d).1.size = d.size
  | 0, i, d, hs, ha, hi, hb, hd => by
    rw [lp_eq]
    simp only [g_slices_partialInsertionSortCmpFunc_int_L3, decide_eq_false (show ¬ (((5 - 0 : Nat) : Int) < 5) by omega), cond_false]
    exact ⟨_, rfl, by simp [partialIns], by first | exact hd | (simpa [partialIns] using hd), by first | rfl | simp [partialIns]⟩
  | s + 1, i, d, hs, ha, hi, hb, hd => by
    have hz := hd.sz
    obtain ⟨u1, u2, u3⟩ := sorted_p hc b 0 d hb hd (i : Int) ((5 - (s + 1) : Nat) : Int) (b - i) i (Nat.le_refl _) (by omega) hi
    rw [lp_eq]
    unfold partialIns
    generalize hi2 : scanSorted (ltC c) d b i = i2 at u1 u2 u3 ⊢
    simp only [g_slices_partialInsertionSortCmpFunc_int_L3, decide_eq_true (show (((5 - (s + 1) : Nat) : Int) < 5) by omega), cond_true, u1, Option.bind_some]
    by_cases h1 : i2 = b
    · rw [show ((i2 : Int) == (b : Int)) = true by simp [h1], if_pos h1]
      exact ⟨_, rfl, by simp [partialIns], by first | exact hd | (simpa [partialIns] using hd), by first | rfl | simp [partialIns]⟩
    · have e1 : w64 ((b : Int) - (a : Int)) = ((b - a : Nat) : Int) := w_nat (by omega) (by omega)
      rw [show ((i2 : Int) == (b : Int)) = false by simpa using (show ¬ (i2 : Int) = (b : Int) by omega), if_neg h1]
      by_cases h2 : b - a < 50
      · rw [if_pos h2]
        simp only [cond_false, e1, decide_eq_true (show ((b - a : Nat) : Int) < 50 by omega), cond_true]
        exact ⟨_, rfl, by simp [partialIns], by first | exact hd | (simpa [partialIns] using hd), by first | rfl | simp [partialIns]⟩
      · rw [if_neg h2]
        have i1 : i2 < d.size := by omega
        have i3 : i2 - 1 < d.size := by omega
        have e2 : w64 ((i2 : Int) - 1) = ((i2 - 1 : Nat) : Int) := w_nat (by omega) (by omega)
        have e3 : w64 ((i2 : Int) - (a : Int)) = ((i2 - a : Nat) : Int) := w_nat (by omega) (by omega)
        have e4 : w64 ((b : Int) - (i2 : Int)) = ((b - i2 : Nat) : Int) := w_nat (by omega) (by omega)
        have e5 : w64 ((i2 : Int) + 1) = ((i2 + 1 : Nat) : Int) := w_nat (by omega) (by omega)
        have e6 : w64 (((5 - (s + 1) : Nat) : Int) + 1) = ((5 - s : Nat) : Int) := w_nat (by omega) (by omega)
        obtain ⟨y, em⟩ := midA (i := i2) (x := d[i2 - 1]!) i3
        have hd2 := hd.swp i1 i3
        simp only [cond_false, e1, decide_eq_false (show ¬ ((b - a : Nat) : Int) < 50 by omega), e2, getA i1, getA i3, Option.bind_some, Int.toNat_natCast, em, swapA, e3, e4, e5, e6, l2_eq]
        have n2 : ∀ n : Nat, decide ((2 : Int) ≤ (n : Int)) = decide (n ≥ 2) := fun n => decide_eq_decide.2 (by omega)
        rw [n2, n2]
        have go : ∀ d' : Array Int, OKA P d' → d'.size = d.size → ∃ r, lp (g_slices_partialInsertionSortCmpFunc_int_L3 (a : Int) (b : Int) cmp) ((i2 : Int), ((5 - s : Nat) : Int), d'.toList) = some r ∧ (match r with | .inl l => l = (partialIns (ltC c) a b s i2 d').1.toList ∧ (partialIns (ltC c) a b s i2 d').2 = true | .inr (.inl l) => l = (partialIns (ltC c) a b s i2 d').1.toList ∧ (partialIns (ltC c) a b s i2 d').2 = false | .inr (.inr l) => l = (partialIns (ltC c) a b s i2 d').1.toList ∧ (partialIns (ltC c) a b s i2 d').2 = false) ∧
            OKA P (partialIns (ltC c) a b s i2 d').1 ∧ (partialIns (ltC c) a b s i2 d').1.size = d.size := fun d' h h' => by
          have := pis_lp a b s i2 d' (by omega) (by omega) u3 (by omega) h
          rw [h'] at this
          exact this
        by_cases h3 : i2 - a ≥ 2
        · obtain ⟨v1, v2, v3⟩ := shd_p hc (i2 - 1) (swp d i2 (i2 - 1)) hd2 (by rw [swp_size]; exact i3)
          rw [swp_size] at v3
          rw [decide_eq_true h3, if_pos h3]
          simp only [cond_true, v1, Option.bind_some]
          by_cases h4 : b - i2 ≥ 2
          · obtain ⟨w1, w2, w3⟩ := shu_p hc b (b - (i2 + 1)) (i2 + 1) (shiftDown (ltC c) (i2 - 1) (swp d i2 (i2 - 1))) (Nat.le_refl _) (by omega) (by omega) v2
            rw [decide_eq_true h4, if_pos h4]
            simp only [cond_true, w1, Option.bind_some]
            exact go _ w2 (by omega)
          · rw [decide_eq_false h4, if_neg h4]
            exact go _ v2 v3
        · rw [decide_eq_false h3, if_neg h3]
          simp only [cond_false]
          by_cases h4 : b - i2 ≥ 2
          · obtain ⟨w1, w2, w3⟩ := shu_p hc b (b - (i2 + 1)) (i2 + 1) (swp d i2 (i2 - 1)) (Nat.le_refl _) (by omega) (by rw [swp_size]; omega) hd2
            rw [swp_size] at w3
            rw [decide_eq_true h4, if_pos h4]
            simp only [cond_true, w1, Option.bind_some]
            exact go _ w2 w3
          · rw [decide_eq_false h4, if_neg h4]
            exact go _ hd2 (swp_size _ _ _)
theorem pis_p (a b : Nat) (d : Array Int) (h1 : a < b) (hb : b ≤ d.size) (hd : OKA P d) :
    g_slices_partialInsertionSortCmpFunc_int (a : Int) (b : Int) cmp d.toList = some (bif (partialInsertionSort (ltC c) d a b).2 then .inl (partialInsertionSort (ltC c) d a b).1.toList else .inr (partialInsertionSort (ltC c) d a b).1.toList) ∧ OKA P (partialInsertionSort (ltC c) d a b).1 ∧ (partialInsertionSort (ltC c) d a b).1.size = d.size := by
  have hz := hd.sz
  obtain ⟨r, e, h2, h3⟩ := pis_lp hc a b 5 (a + 1) d (Nat.le_refl _) (by omega) (by omega) hb hd
  unfold g_slices_partialInsertionSortCmpFunc_int partialInsertionSort
  have e0 : ((5 - 5 : Nat) : Int) = 0 := rfl
  rw [e0] at e
  rw [w_nat (n := a + 1) (by omega) (by omega), e]
  refine ⟨?_, h3⟩
  rcases r with l | l | l
  · obtain ⟨rfl, h⟩ := h2; rw [h]; rfl
  · obtain ⟨rfl, h⟩ := h2; rw [h]; rfl
  · obtain ⟨rfl, h⟩ := h2; rw [h]; rfl

/-! medians -/
theorem ord_p (d : Array Int) (hd : OKA P d) (a b n : Nat) (ha : a < d.size) (hb : b < d.size) (hn : n < 1000) : g_slices_order2CmpFunc_int (a : Int) (b : Int) cmp d.toList (n : Int) = some (((order2 (ltC c) d a b n).1 : Int), ((order2 (ltC c) d a b n).2.1 : Int), ((order2 (ltC c) d a b n).2.2 : Int)) ∧
    (order2 (ltC c) d a b n).1 < d.size ∧ (order2 (ltC c) d a b n).2.1 < d.size ∧ (order2 (ltC c) d a b n).2.2 ≤ n + 1 := by
  unfold g_slices_order2CmpFunc_int order2
  simp only [getA ha, getA hb, Option.bind_some, hc _ _ (hd.el b hb) (hd.el a ha)]
  by_cases h : c d[b]! d[a]! < 0
  · rw [if_pos (by simp [h, ltC]), decide_eq_true h, w_nat (n := n + 1) (by omega) (by omega)]
    exact ⟨rfl, hb, ha, Nat.le_refl _⟩
  · rw [if_neg (by simp [h, ltC]), decide_eq_false h]
    exact ⟨rfl, ha, hb, Nat.le_succ _⟩
theorem med_p (d : Array Int) (hd : OKA P d) (i j k n : Nat) (hi : i < d.size) (hj : j < d.size) (hk : k < d.size) (hn : n < 990) : g_slices_medianCmpFunc_int (i : Int) (j : Int) (k : Int) cmp d.toList (n : Int) = some (((median (ltC c) d i j k n).1 : Int), ((median (ltC c) d i j k n).2 : Int)) ∧ (median (ltC c) d i j k n).1 < d.size ∧ (median (ltC c) d i j k n).2 ≤ n + 3 := by
  obtain ⟨a1, a2, a3, a4⟩ := ord_p hc d hd i j n hi hj (by omega)
  obtain ⟨b1, b2, b3, b4⟩ := ord_p hc d hd (order2 (ltC c) d i j n).2.1 k (order2 (ltC c) d i j n).2.2 a3 hk (by omega)
  obtain ⟨c1, c2, c3, c4⟩ := ord_p hc d hd (order2 (ltC c) d i j n).1 (order2 (ltC c) d (order2 (ltC c) d i j n).2.1 k (order2 (ltC c) d i j n).2.2).1 (order2 (ltC c) d (order2 (ltC c) d i j n).2.1 k (order2 (ltC c) d i j n).2.2).2.2 a2 b2 (by omega)
  unfold g_slices_medianCmpFunc_int median
  simp only [a1, b1, c1, Option.bind_some]
  exact ⟨trivial, c3, by omega⟩
theorem adj_p (d : Array Int) (hd : OKA P d) (i n : Nat) (h1 : 1 ≤ i) (hi : i + 1 < d.size) (hn : n < 990) : g_slices_medianAdjacentCmpFunc_int (i : Int) cmp d.toList (n : Int) = some (((medianAdjacent (ltC c) d i n).1 : Int), ((medianAdjacent (ltC c) d i n).2 : Int)) ∧ (medianAdjacent (ltC c) d i n).1 < d.size ∧ (medianAdjacent (ltC c) d i n).2 ≤ n + 3 := by
  have hz := hd.sz
  obtain ⟨a1, a2⟩ := med_p hc d hd (i - 1) i (i + 1) n (by omega) (by omega) hi hn
  unfold g_slices_medianAdjacentCmpFunc_int medianAdjacent
  rw [w_nat (n := i - 1) (by omega) (by omega), w_nat (n := i + 1) (by omega) (by omega), a1]
  exact ⟨rfl, a2⟩

theorem piv_p (a b : Nat) (d : Array Int) (hab : a < b) (hb : b ≤ d.size) (hd : OKA P d) : g_slices_choosePivotCmpFunc_int (a : Int) (b : Int) cmp d.toList = some (((choosePivot (ltC c) d a b).1 : Int), hintI (choosePivot (ltC c) d a b).2) := by
  have hz := hd.sz
  have e1 : w64 ((b : Int) - (a : Int)) = ((b - a : Nat) : Int) := w_nat (by omega) (by omega)
  have e2 : w64 (Int.tdiv ((b - a : Nat) : Int) 4) = (((b - a) / 4 : Nat) : Int) := by
    rw [Int.tdiv_eq_ediv_of_nonneg (by omega)]
    exact w_nat (by omega) (by omega)
  have q : ∀ m : Nat, m ≤ 3 → w64 ((((b - a) / 4 : Nat) : Int) * (m : Int)) = (((b - a) / 4 * m : Nat) : Int) := fun m hm => by
    refine w_nat (by rw [Int.natCast_mul]) ?_
    have : (b - a) / 4 * m ≤ (b - a) / 4 * 3 := Nat.mul_le_mul_left _ hm
    omega
  have q1 := q 1 (by omega)
  have q2 := q 2 (by omega)
  have q3 := q 3 (by omega)
  have p : ∀ m : Nat, m ≤ 3 → w64 ((a : Int) + (((b - a) / 4 * m : Nat) : Int)) = ((a + (b - a) / 4 * m : Nat) : Int) := fun m hm => by
    refine w_nat (by omega) ?_
    have : (b - a) / 4 * m ≤ (b - a) / 4 * 3 := Nat.mul_le_mul_left _ hm
    omega
  have p1 := p 1 (by omega)
  have p2 := p 2 (by omega)
  have p3 := p 3 (by omega)
  unfold g_slices_choosePivotCmpFunc_int choosePivot
  have q1' : w64 ((((b - a) / 4 : Nat) : Int) * 1) = _ := q1
  have q2' : w64 ((((b - a) / 4 : Nat) : Int) * 2) = _ := q2
  have q3' : w64 ((((b - a) / 4 : Nat) : Int) * 3) = _ := q3
  simp only [e1, e2, q1', q2', q3', p1, p2, p3]
  have z : ((0 : Nat) : Int) = 0 := rfl
  by_cases h8 : b - a ≥ 8
  · rw [decide_eq_true (show (8 : Int) ≤ ((b - a : Nat) : Int) by omega), if_pos h8]
    by_cases h50 : b - a ≥ 50
    · obtain ⟨m1, m2, m3⟩ := adj_p hc d hd (a + (b - a) / 4 * 1) 0 (by omega) (by omega) (by omega)
      obtain ⟨n1, n2, n3⟩ := adj_p hc d hd (a + (b - a) / 4 * 2) (medianAdjacent (ltC c) d (a + (b - a) / 4 * 1) 0).2 (by omega) (by omega) (by omega)
      obtain ⟨o1, o2, o3⟩ := adj_p hc d hd (a + (b - a) / 4 * 3) (medianAdjacent (ltC c) d (a + (b - a) / 4 * 2) (medianAdjacent (ltC c) d (a + (b - a) / 4 * 1) 0).2).2 (by omega) (by omega) (by omega)
      obtain ⟨r1, r2, r3⟩ := med_p hc d hd _ _ _ (medianAdjacent (ltC c) d (a + (b - a) / 4 * 3) (medianAdjacent (ltC c) d (a + (b - a) / 4 * 2) (medianAdjacent (ltC c) d (a + (b - a) / 4 * 1) 0).2).2).2 m2 n2 o2 (by omega)
      rw [z] at m1
      rw [decide_eq_true (show (50 : Int) ≤ ((b - a : Nat) : Int) by omega), if_pos h50]
      simp only [cond_true, m1, n1, o1, r1, Option.bind_some]
      exact hint_p (_, _) _ _ rfl rfl
    · obtain ⟨r1, r2, r3⟩ := med_p hc d hd (a + (b - a) / 4 * 1) (a + (b - a) / 4 * 2) (a + (b - a) / 4 * 3) 0 (by omega) (by omega) (by omega) (by omega)
      rw [z] at r1
      rw [decide_eq_false (show ¬ (50 : Int) ≤ ((b - a : Nat) : Int) by omega), if_neg h50]
      simp only [cond_true, cond_false, r1, Option.bind_some]
      exact hint_p (_, _) _ _ rfl rfl
  · rw [decide_eq_false (show ¬ (8 : Int) ≤ ((b - a : Nat) : Int) by omega), if_neg h8]
    rfl
end

theorem rev_lp {P : Int → Prop} : ∀ (k i j : Nat) (d : Array Int), j - i ≤ k → j < d.size ∨ j ≤ i → OKA P d → lp g_slices_reverseRangeCmpFunc_int_L0 ((i : Int), (j : Int), d.toList) = some (reverseLoop i j d).toList ∧ OKA P (reverseLoop i j d) ∧ (reverseLoop i j d).size = d.size := by
  intro k
  induction k with
  | zero =>
    intro i j d hk hj hd
    rw [lp_eq]
    unfold reverseLoop
    simp only [g_slices_reverseRangeCmpFunc_int_L0, n_lt, decide_eq_false (show ¬ i < j by omega), cond_false]
    rw [if_neg (by omega)]
    exact ⟨rfl, hd, rfl⟩
  | succ k ih =>
    intro i j d hk hj hd
    have hz := hd.sz
    rw [lp_eq]
    unfold reverseLoop
    by_cases h : i < j
    · have i1 : j < d.size := by omega
      have i2 : i < d.size := by omega
      obtain ⟨y, em⟩ := midA (i := i) (x := d[j]!) i1
      have e2 : w64 ((j : Int) - 1) = ((j - 1 : Nat) : Int) := w_nat (by omega) (by omega)
      simp only [g_slices_reverseRangeCmpFunc_int_L0, n_lt, decide_eq_true h, cond_true, getA i1, getA i2, Option.bind_some, Int.toNat_natCast, em, swapA, w64_succ h (by omega), e2]
      rw [if_pos h]
      have := ih (i + 1) (j - 1) (swp d i j) (by omega) (by rw [swp_size]; omega) (hd.swp i2 i1)
      rw [swp_size] at this
      exact this
    · simp only [g_slices_reverseRangeCmpFunc_int_L0, n_lt, decide_eq_false h, cond_false]
      rw [if_neg h]
      exact ⟨rfl, hd, rfl⟩
theorem rev_p {P : Int → Prop} (cmp : Int → Int → Option Int) (a b : Nat) (d : Array Int) (hab : a < b) (hb : b ≤ d.size) (hd : OKA P d) : g_slices_reverseRangeCmpFunc_int (a : Int) (b : Int) cmp d.toList = some (reverseRange d a b).toList ∧ OKA P (reverseRange d a b) ∧ (reverseRange d a b).size = d.size := by
  have hz := hd.sz
  obtain ⟨h1, h2⟩ := rev_lp (b - 1 - a) a (b - 1) d (Nat.le_refl _) (by omega) hd
  unfold g_slices_reverseRangeCmpFunc_int reverseRange
  rw [w_nat (n := b - 1) (by omega) (by omega)]
  simp only [h1, Option.bind_some]
  exact ⟨trivial, h2⟩
end Go.Proofs.YtakebhleglnpjaaDoor
