/- ClassMore: what the law comes to. -/
import Derived.Test.YtljgncbdagmeeaaDoorRClass
import Derived.Test.YtljgncbdagmeeaaDoorWClassMore
import Derived.Test.YtljgncbdagmeeaaDoorK3
namespace Go.Proofs.YtljgncbdagmeeaaDoor
open Go Go.Proofs.YtljgncbdagmeeaaDoorE
set_option linter.unusedVariables false
set_option linter.unusedSimpArgs false

theorem law_ClassMore (s : ShapeT) : g_law14_ClassMore s = some true := by
  unfold g_law14_ClassMore
  simp only [g_law14_awake, Option.bind_some, cond_true, class_p]
  cases h : okShape s with
  | false => rfl
  | true =>
    have o := ok_shape h
    have o1 := o.p; have o2 := o.d1; have o3 := o.d2; have o4 := o.t1; have o5 := o.t2; have o6 := o.l1; have o7 := o.l2
    have hb : ∀ n : Int, 1 ≤ n → n ≤ 8 → boundS s n = (s.total + (n - 1) * s.long) / n := fun n h1 h2 => by
      unfold boundS boundX
      rw [h, decide_eq_true h1, decide_eq_true h2]; rfl
    have in1 : ∀ n : Int, 1 ≤ n → n ≤ 8 → s.long ≤ boundS s n ∧ boundS s n ≤ s.total := fun n h1 h2 => by
      rw [hb n h1 h2]
      constructor
      · rw [Int.le_ediv_iff_mul_le (by omega), Int.sub_mul, Int.one_mul, Int.mul_comm s.long n]; omega
      · have : (s.total + (n - 1) * s.long) / n < s.total + 1 := by
          rw [Int.ediv_lt_iff_lt_mul (by omega), Int.add_mul, Int.one_mul]
          have : (n - 1) * s.long ≤ (n - 1) * s.total := Int.mul_le_mul_of_nonneg_left o7 (by omega)
          rw [Int.sub_mul n 1 s.total, Int.one_mul] at this
          rw [Int.mul_comm s.total n]
          omega
        omega
    have mono : ∀ n : Int, 2 ≤ n → n ≤ 8 → boundS s n ≤ boundS s (n - 1) := fun n h1 h2 => by
      have i1 := (in1 (n - 1) (by omega) (by omega)).1
      generalize hq : boundS s (n - 1) = q at i1 ⊢
      rw [hb (n - 1) (by omega) (by omega)] at hq
      rw [hb n (by omega) h2]
      have l1 : s.total + (n - 1 - 1) * s.long < (q + 1) * (n - 1) := by
        have := Int.ediv_lt_iff_lt_mul (a := s.total + (n - 1 - 1) * s.long) (b := q + 1) (show 0 < n - 1 by omega)
        rw [hq] at this
        exact this.1 (by omega)
      have : (s.total + (n - 1) * s.long) / n < q + 1 := by
        rw [Int.ediv_lt_iff_lt_mul (by omega)]
        have e1 : (n - 1 - 1) * s.long = (n - 1) * s.long - s.long := by rw [Int.sub_mul (n - 1) 1, Int.one_mul]
        have e2 : (q + 1) * (n - 1) = (q + 1) * n - (q + 1) := by rw [Int.mul_sub, Int.mul_one]
        omega
      omega
    have key : ∀ m k : Nat, k + m = 9 → 1 ≤ k → lp (g_law14_ClassMore_L0 s) (k : Int) = some (.inr ()) := by
      intro m
      induction m with
      | zero =>
        intro k hk _
        have : k = 9 := by omega
        subst this
        rw [lp_eq]
        simp only [g_law14_ClassMore_L0, decide_eq_false (show ¬ (((9 : Nat) : Int) ≤ 8) by omega), cond_false]
      | succ m ih =>
        intro k hk h1k
        obtain ⟨i1, i2⟩ := in1 k (by omega) (by omega)
        have e4 : w64 ((k : Int) + 1) = ((k + 1 : Nat) : Int) := w64_succ (show k < 100 by omega) (by omega)
        have e5 : w64 ((k : Int) - 1) = (k : Int) - 1 := w64_id (by omega) (by omega)
        have ih' := ih (k + 1) (by omega) (by omega)
        rw [lp_eq]
        simp only [g_law14_ClassMore_L0, decide_eq_true (show (k : Int) ≤ 8 by omega), cond_true, bound_p, Option.bind_some, decide_eq_false (show ¬ boundS s k < s.long by omega), decide_eq_false (show ¬ s.total < boundS s k by omega), cond_false, e4, e5]
        by_cases hk1 : 1 < (k : Int)
        · rw [decide_eq_true hk1]
          have := mono k (by omega) (by omega)
          rw [decide_eq_false (show ¬ boundS s ((k : Int) - 1) < boundS s k by omega)]
          exact ih'
        · rw [decide_eq_false hk1]
          exact ih'
    have k1 := key 8 1 rfl (by omega)
    rw [show ((1 : Nat) : Int) = 1 from rfl] at k1
    have b1 : boundS s 1 = s.total := by
      rw [hb 1 (by omega) (by omega)]
      simp
    simp only [cond_true, bne_self_eq_false, cond_false, k1, Option.bind_some, bound_p, b1, beq_self_eq_true]

theorem ev_ClassMore (xs : List D) (h : okLfs par63.1 xs) : ∃ H', evW ctx 12 (mapd [parD par63.2 xs]) [] = some (.d (.bool true), H') := by
  obtain ⟨s, hs⟩ := shape_par h
  show ∃ H', evW ctx 12 [.d (D.agg xs)] [] = _
  rw [hs]
  exact evD_true (g_law14_ClassMore_ok s true (law_ClassMore s))
end Go.Proofs.YtljgncbdagmeeaaDoor
