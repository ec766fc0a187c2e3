/- Sorting, plainly: the partitions. -/
import Derived.Test.YtakebhleglnpjaaDoorQSortA
namespace Go.Proofs.YtakebhleglnpjaaDoor
open Go Go.Proofs.YtakebhleglnpjaaDoorE Go.Sort
set_option linter.unusedVariables false
set_option linter.unusedSimpArgs false

theorem scanUp_lp (step : Int → Option (Int ⊕ Int)) (p : Int → Bool) (d : Array Int) (j : Nat) (h : ∀ i : Nat, i ≤ j + 2 → step (i : Int) = some (bif decide (i ≤ j) && p d[i]! then .inl ((i + 1 : Nat) : Int) else .inr (i : Int))) :
    ∀ (k i : Nat), j + 2 - i ≤ k → i ≤ j + 2 → lp step (i : Int) = some ((scanUp p d j i : Nat) : Int) ∧ i ≤ scanUp p d j i ∧ scanUp p d j i ≤ max i (j + 1) := by
  intro k
  induction k with
  | zero =>
    intro i hk hi
    rw [lp_eq, h i hi]
    unfold scanUp
    rw [decide_eq_false (show ¬ i ≤ j by omega)]
    simp [show ¬ i ≤ j by omega]
    omega
  | succ k ih =>
    intro i hk hi
    rw [lp_eq, h i hi]
    unfold scanUp
    by_cases h1 : i ≤ j
    · cases h2 : p d[i]! with
      | true =>
        rw [decide_eq_true h1, if_pos (by simp [h1])]
        obtain ⟨a1, a2, a3⟩ := ih (i + 1) (by omega) (by omega)
        exact ⟨a1, by omega, by omega⟩
      | false =>
        rw [decide_eq_true h1, if_neg (by simp)]
        exact ⟨rfl, by omega, by omega⟩
    · rw [decide_eq_false h1, if_neg (by simp [h1])]
      exact ⟨rfl, by omega, by omega⟩
theorem scanDown_lp (step : Int → Option (Int ⊕ Int)) (p : Int → Bool) (d : Array Int) (i : Nat) (hi : 1 ≤ i) : ∀ (j : Nat), (∀ k : Nat, k ≤ j → step (k : Int) = some (bif decide (i ≤ k) && p d[k]! then .inl ((k : Int) - 1) else .inr (k : Int))) → lp step (j : Int) = some ((scanDown p d i j : Nat) : Int) ∧ scanDown p d i j ≤ j
  | 0, h => by
    rw [lp_eq, h 0 (Nat.le_refl _), decide_eq_false (show ¬ i ≤ 0 by omega)]
    exact ⟨rfl, Nat.le_refl _⟩
  | j + 1, h => by
    rw [lp_eq, h (j + 1) (Nat.le_refl _)]
    unfold scanDown
    by_cases h1 : i ≤ j + 1
    · cases h2 : p d[j + 1]! with
      | true =>
        rw [decide_eq_true h1, if_pos (by simp [h1])]
        have ih := scanDown_lp step p d i hi j (fun k hk => h k (by omega))
        have e : (((j + 1 : Nat) : Int) - 1) = (j : Int) := by omega
        simp only [Bool.and_self, cond_true, e]
        exact ⟨ih.1, by omega⟩
      | false =>
        rw [decide_eq_true h1, if_neg (by simp)]
        exact ⟨rfl, Nat.le_refl _⟩
    · rw [decide_eq_false h1, if_neg (by simp [h1])]
      exact ⟨rfl, Nat.le_refl _⟩

section
variable {cmp : Int → Int → Option Int} {c : Int → Int → Int} {P : Int → Prop} (hc : CmpOK cmp c P)
include hc

theorem part_loop (a : Nat) : ∀ (k i j : Nat) (d : Array Int), j + 3 - i ≤ k → 1 ≤ i → i ≤ j + 2 → j < d.size → a < d.size → OKA P d →
    lp (g_slices_partitionCmpFunc_int_L4 (a : Int) cmp) ((i : Int), (j : Int), d.toList) = some (((partLoop (ltC c) a i j d).1 : Int), (partLoop (ltC c) a i j d).2.toList) ∧ OKA P (partLoop (ltC c) a i j d).2 ∧ (partLoop (ltC c) a i j d).2.size = d.size ∧ (partLoop (ltC c) a i j d).1 ≤ j := by
  intro k
  induction k with
  | zero =>
    intro i j d hk h1 h2 hj ha hd
    exact absurd hk (by omega)
  | succ k ih =>
    intro i j d hk h1 h2 hj ha hd
    have hz := hd.sz
    obtain ⟨u1, u2, u3⟩ := scanUp_lp (g_slices_partitionCmpFunc_int_L2 (a : Int) cmp ((i : Int), (j : Int), d.toList)) (fun x => ltC c x d[a]!) d j (fun m hm => by
        by_cases hmj : m ≤ j
        · have im : m < d.size := by omega
          simp only [g_slices_partitionCmpFunc_int_L2, n_le, decide_eq_true hmj, cond_true, getA im, getA ha, Option.bind_some, hc _ _ (hd.el _ im) (hd.el _ ha), ltC, Bool.true_and, w64_succ (show m < j + 1 by omega) (by omega)]
          cases decide (c d[m]! d[a]! < 0) <;> rfl
        · simp only [g_slices_partitionCmpFunc_int_L2, n_le, decide_eq_false hmj, cond_false, Bool.false_and]) (j + 2 - i) i (Nat.le_refl _) h2
    generalize hi2 : scanUp (fun x => ltC c x d[a]!) d j i = i2 at u1 u2 u3
    obtain ⟨v1, v2⟩ := scanDown_lp (g_slices_partitionCmpFunc_int_L3 (a : Int) cmp ((i : Int), (j : Int), d.toList) (i2 : Int)) (fun x => !ltC c x d[a]!) d i2 (by omega) j (fun m hm => by
        have im : m < d.size := by omega
        by_cases hmi : i2 ≤ m
        · simp only [g_slices_partitionCmpFunc_int_L3, n_le, decide_eq_true hmi, cond_true, getA im, getA ha, Option.bind_some, hc _ _ (hd.el _ im) (hd.el _ ha), ltC, Bool.true_and, w64_id (show -9223372036854775808 ≤ (m : Int) - 1 by omega) (by omega)]
          cases decide (c d[m]! d[a]! < 0) <;> rfl
        · simp only [g_slices_partitionCmpFunc_int_L3, n_le, decide_eq_false hmi, cond_false, Bool.false_and])
    generalize hj2 : scanDown (fun x => !ltC c x d[a]!) d i2 j = j2 at v1 v2
    rw [lp_eq]
    unfold partLoop
    simp only [g_slices_partitionCmpFunc_int_L4, u1, v1, Option.bind_some, n_lt, hi2, hj2]
    by_cases hij : j2 < i2
    · rw [decide_eq_true hij, if_pos hij]
      exact ⟨rfl, hd, rfl, v2⟩
    · have k1 : i2 < d.size := by omega
      have k2 : j2 < d.size := by omega
      obtain ⟨y, em⟩ := midA (i := i2) (x := d[j2]!) k2
      have e1 : w64 ((i2 : Int) + 1) = ((i2 + 1 : Nat) : Int) := w_nat (by omega) (by omega)
      have e2 : w64 ((j2 : Int) - 1) = ((j2 - 1 : Nat) : Int) := w_nat (by omega) (by omega)
      rw [decide_eq_false hij, if_neg hij, dif_pos (by omega)]
      simp only [cond_false, getA k1, getA k2, Option.bind_some, Int.toNat_natCast, em, swapA, e1, e2]
      obtain ⟨q1, q2, q3, q4⟩ := ih (i2 + 1) (j2 - 1) (swp d i2 j2) (by omega) (by omega) (by omega) (by rw [swp_size]; omega) (by rw [swp_size]; exact ha) (hd.swp k1 k2)
      rw [swp_size] at q3
      exact ⟨q1, q2, q3, by omega⟩

theorem partn_p (a b pivot : Nat) (d : Array Int) (h1 : a ≤ pivot) (h2 : pivot < b) (hb : b ≤ d.size) (hd : OKA P d) :
    g_slices_partitionCmpFunc_int (a : Int) (b : Int) (pivot : Int) cmp d.toList = some (bif (partition (ltC c) d a b pivot).2.1 then .inl (((partition (ltC c) d a b pivot).1 : Int), (partition (ltC c) d a b pivot).2.2.toList) else .inr (((partition (ltC c) d a b pivot).1 : Int), (partition (ltC c) d a b pivot).2.2.toList)) ∧
    OKA P (partition (ltC c) d a b pivot).2.2 ∧ (partition (ltC c) d a b pivot).2.2.size = d.size := by
  have hz := hd.sz
  have ip : pivot < d.size := by omega
  have ia : a < d.size := by omega
  have hd1 := hd.swp ia ip
  have s1 := swp_size d a pivot
  obtain ⟨y, em⟩ := midA (i := a) (x := d[pivot]!) ip
  have e1 : w64 ((a : Int) + 1) = ((a + 1 : Nat) : Int) := w_nat (by omega) (by omega)
  have e2 : w64 ((b : Int) - 1) = ((b - 1 : Nat) : Int) := w_nat (by omega) (by omega)
  have sw := swapA d a pivot
  have ia1 : a < (swp d a pivot).size := by omega
  obtain ⟨u1, u2, u3⟩ := scanUp_lp (g_slices_partitionCmpFunc_int_L0 (a : Int) (b : Int) (pivot : Int) d.toList cmp d[pivot]! d[a]!) (fun x => ltC c x (swp d a pivot)[a]!) (swp d a pivot) (b - 1) (fun m hm => by
      by_cases hmj : m ≤ b - 1
      · have im : m < (swp d a pivot).size := by omega
        simp only [g_slices_partitionCmpFunc_int_L0, e2, n_le, decide_eq_true hmj, cond_true, Int.toNat_natCast, sw, getA im, getA ia1, Option.bind_some, hc _ _ (hd1.el _ im) (hd1.el _ ia1), ltC, Bool.true_and, w64_succ (show m < b by omega) (by omega)]
        cases decide (c (swp d a pivot)[m]! (swp d a pivot)[a]! < 0) <;> rfl
      · simp only [g_slices_partitionCmpFunc_int_L0, e2, n_le, decide_eq_false hmj, cond_false, Bool.false_and]) (b - 1 + 2 - (a + 1)) (a + 1) (Nat.le_refl _) (by omega)
  generalize hi2 : scanUp (fun x => ltC c x (swp d a pivot)[a]!) (swp d a pivot) (b - 1) (a + 1) = i2 at u1 u2 u3
  obtain ⟨v1, v2⟩ := scanDown_lp (g_slices_partitionCmpFunc_int_L1 (a : Int) (pivot : Int) d.toList cmp d[pivot]! d[a]! (i2 : Int)) (fun x => !ltC c x (swp d a pivot)[a]!) (swp d a pivot) i2 (by omega) (b - 1) (fun m hm => by
      have im : m < (swp d a pivot).size := by omega
      by_cases hmi : i2 ≤ m
      · simp only [g_slices_partitionCmpFunc_int_L1, n_le, decide_eq_true hmi, cond_true, Int.toNat_natCast, sw, getA im, getA ia1, Option.bind_some, hc _ _ (hd1.el _ im) (hd1.el _ ia1), ltC, Bool.true_and, w64_id (show -9223372036854775808 ≤ (m : Int) - 1 by omega) (by omega)]
        cases decide (c (swp d a pivot)[m]! (swp d a pivot)[a]! < 0) <;> rfl
      · simp only [g_slices_partitionCmpFunc_int_L1, n_le, decide_eq_false hmi, cond_false, Bool.false_and])
  generalize hj2 : scanDown (fun x => !ltC c x (swp d a pivot)[a]!) (swp d a pivot) i2 (b - 1) = j2 at v1 v2
  unfold g_slices_partitionCmpFunc_int partition
  simp only [getA ip, getA ia, Option.bind_some, Int.toNat_natCast, em, e1, e2, u1, v1, n_lt, sw, hi2, hj2]
  have kj : j2 < (swp d a pivot).size := by omega
  by_cases hij : j2 < i2
  · obtain ⟨y2, em2⟩ := midA (i := j2) (x := (swp d a pivot)[a]!) ia1
    rw [decide_eq_true hij, if_pos hij]
    simp only [cond_true, getA ia1, getA kj, Option.bind_some, Int.toNat_natCast, em2, swapA]
    exact ⟨trivial, hd1.swp kj ia1, by rw [swp_size, s1]⟩
  · have ki : i2 < (swp d a pivot).size := by omega
    obtain ⟨y2, em2⟩ := midA (i := i2) (x := (swp d a pivot)[j2]!) kj
    have e3 : w64 ((i2 : Int) + 1) = ((i2 + 1 : Nat) : Int) := w_nat (by omega) (by omega)
    have e4 : w64 ((j2 : Int) - 1) = ((j2 - 1 : Nat) : Int) := w_nat (by omega) (by omega)
    obtain ⟨q1, q2, q3, q4⟩ := part_loop hc a (j2 - 1 + 3 - (i2 + 1)) (i2 + 1) (j2 - 1) (swp (swp d a pivot) i2 j2) (by omega) (by omega) (by omega) (by rw [swp_size]; omega) (by rw [swp_size]; exact ia1) (hd1.swp ki kj)
    rw [swp_size, s1] at q3
    rw [decide_eq_false hij, if_neg hij]
    simp only [cond_false, getA ki, getA kj, Option.bind_some, Int.toNat_natCast, em2, swapA, e3, e4, q1]
    generalize partLoop (ltC c) a (i2 + 1) (j2 - 1) (swp (swp d a pivot) i2 j2) = r at *
    have kr : r.1 < r.2.size := by omega
    have kr2 : a < r.2.size := by omega
    obtain ⟨y3, em3⟩ := midA (i := r.1) (x := r.2[a]!) kr2
    simp only [getA kr, getA kr2, Option.bind_some, em3, swapA]
    exact ⟨trivial, q2.swp kr kr2, by rw [swp_size, q3]⟩

theorem parteq_loop (a : Nat) : ∀ (k i j : Nat) (d : Array Int), j + 3 - i ≤ k → 1 ≤ i → i ≤ j + 2 → j < d.size → a < d.size → OKA P d →
    lp (g_slices_partitionEqualCmpFunc_int_L2 (a : Int) cmp) ((i : Int), (j : Int), d.toList) = some (((partEqLoop (ltC c) a i j d).1 : Int), (partEqLoop (ltC c) a i j d).2.toList) ∧ OKA P (partEqLoop (ltC c) a i j d).2 ∧ (partEqLoop (ltC c) a i j d).2.size = d.size ∧ i ≤ (partEqLoop (ltC c) a i j d).1 ∧ (partEqLoop (ltC c) a i j d).1 ≤ max i (j + 1) := by
  intro k
  induction k with
  | zero =>
    intro i j d hk h1 h2 hj ha hd
    exact absurd hk (by omega)
  | succ k ih =>
    intro i j d hk h1 h2 hj ha hd
    have hz := hd.sz
    obtain ⟨u1, u2, u3⟩ := scanUp_lp (g_slices_partitionEqualCmpFunc_int_L0 (a : Int) cmp ((i : Int), (j : Int), d.toList)) (fun x => !ltC c d[a]! x) d j (fun m hm => by
        by_cases hmj : m ≤ j
        · have im : m < d.size := by omega
          simp only [g_slices_partitionEqualCmpFunc_int_L0, n_le, decide_eq_true hmj, cond_true, getA im, getA ha, Option.bind_some, hc _ _ (hd.el _ ha) (hd.el _ im), ltC, Bool.true_and, w64_succ (show m < j + 1 by omega) (by omega)]
          cases decide (c d[a]! d[m]! < 0) <;> rfl
        · simp only [g_slices_partitionEqualCmpFunc_int_L0, n_le, decide_eq_false hmj, cond_false, Bool.false_and]) (j + 2 - i) i (Nat.le_refl _) h2
    generalize hi2 : scanUp (fun x => !ltC c d[a]! x) d j i = i2 at u1 u2 u3
    obtain ⟨v1, v2⟩ := scanDown_lp (g_slices_partitionEqualCmpFunc_int_L1 (a : Int) cmp ((i : Int), (j : Int), d.toList) (i2 : Int)) (fun x => ltC c d[a]! x) d i2 (by omega) j (fun m hm => by
        have im : m < d.size := by omega
        by_cases hmi : i2 ≤ m
        · simp only [g_slices_partitionEqualCmpFunc_int_L1, n_le, decide_eq_true hmi, cond_true, getA im, getA ha, Option.bind_some, hc _ _ (hd.el _ ha) (hd.el _ im), ltC, Bool.true_and, w64_id (show -9223372036854775808 ≤ (m : Int) - 1 by omega) (by omega)]
          cases decide (c d[a]! d[m]! < 0) <;> rfl
        · simp only [g_slices_partitionEqualCmpFunc_int_L1, n_le, decide_eq_false hmi, cond_false, Bool.false_and])
    generalize hj2 : scanDown (fun x => ltC c d[a]! x) d i2 j = j2 at v1 v2
    rw [lp_eq]
    unfold partEqLoop
    simp only [g_slices_partitionEqualCmpFunc_int_L2, u1, v1, Option.bind_some, n_lt, hi2, hj2]
    by_cases hij : j2 < i2
    · rw [decide_eq_true hij, if_pos hij]
      exact ⟨rfl, hd, rfl, u2, u3⟩
    · have k1 : i2 < d.size := by omega
      have k2 : j2 < d.size := by omega
      obtain ⟨y, em⟩ := midA (i := i2) (x := d[j2]!) k2
      have e1 : w64 ((i2 : Int) + 1) = ((i2 + 1 : Nat) : Int) := w_nat (by omega) (by omega)
      have e2 : w64 ((j2 : Int) - 1) = ((j2 - 1 : Nat) : Int) := w_nat (by omega) (by omega)
      rw [decide_eq_false hij, if_neg hij, dif_pos (by omega)]
      simp only [cond_false, getA k1, getA k2, Option.bind_some, Int.toNat_natCast, em, swapA, e1, e2]
      obtain ⟨q1, q2, q3, q4, q5⟩ := ih (i2 + 1) (j2 - 1) (swp d i2 j2) (by omega) (by omega) (by omega) (by rw [swp_size]; omega) (by rw [swp_size]; exact ha) (hd.swp k1 k2)
      rw [swp_size] at q3
      exact ⟨q1, q2, q3, by omega, by omega⟩
theorem parteq_p (a b pivot : Nat) (d : Array Int) (h1 : a ≤ pivot) (h2 : pivot < b) (hb : b ≤ d.size) (hd : OKA P d) :
    g_slices_partitionEqualCmpFunc_int (a : Int) (b : Int) (pivot : Int) cmp d.toList = some (((partitionEqual (ltC c) d a b pivot).1 : Int), (partitionEqual (ltC c) d a b pivot).2.toList) ∧ OKA P (partitionEqual (ltC c) d a b pivot).2 ∧ (partitionEqual (ltC c) d a b pivot).2.size = d.size ∧ a < (partitionEqual (ltC c) d a b pivot).1 ∧ (partitionEqual (ltC c) d a b pivot).1 ≤ b := by
  have hz := hd.sz
  have ip : pivot < d.size := by omega
  have ia : a < d.size := by omega
  obtain ⟨y, em⟩ := midA (i := a) (x := d[pivot]!) ip
  have e1 : w64 ((a : Int) + 1) = ((a + 1 : Nat) : Int) := w_nat (by omega) (by omega)
  have e2 : w64 ((b : Int) - 1) = ((b - 1 : Nat) : Int) := w_nat (by omega) (by omega)
  obtain ⟨q1, q2, q3, q4, q5⟩ := parteq_loop hc a (b - 1 + 3 - (a + 1)) (a + 1) (b - 1) (swp d a pivot) (by omega) (by omega) (by omega) (by rw [swp_size]; omega) (by rw [swp_size]; omega) (hd.swp ia ip)
  rw [swp_size] at q3
  unfold g_slices_partitionEqualCmpFunc_int partitionEqual
  simp only [getA ip, getA ia, Option.bind_some, Int.toNat_natCast, em, e1, e2, swapA, q1]
  exact ⟨trivial, q2, q3, by omega, by omega⟩
end
end Go.Proofs.YtakebhleglnpjaaDoor
