/- ClassLeast: what the law comes to. -/
import Derived.Test.YtljgncbdagmeeaaDoorRClass
import Derived.Test.YtljgncbdagmeeaaDoorWClassLeast
import Derived.Test.YtljgncbdagmeeaaDoorK3
namespace Go.Proofs.YtljgncbdagmeeaaDoor
open Go Go.Proofs.YtljgncbdagmeeaaDoorE
set_option linter.unusedVariables false
set_option linter.unusedSimpArgs false

theorem law_ClassLeast (s : ShapeT) : g_law14_ClassLeast s = some true := by
  unfold g_law14_ClassLeast
  simp only [g_law14_awake, Option.bind_some, cond_true, cores_p, bound_p]
  cases h : okShape s with
  | false => unfold coresS; rw [h]; rfl
  | true =>
    have o := ok_shape h
    have o1 := o.p; have o2 := o.d1; have o3 := o.d2; have o4 := o.t1; have o5 := o.t2; have o6 := o.l1; have o7 := o.l2
    simp only [heavy_p s h, Option.bind_some]
    by_cases h1 : s.deadline < s.total
    case neg =>
      have hc : coresS s = (1, 0) := by unfold coresS; rw [h, decide_eq_false h1]; rfl
      have hb : boundS s 1 = s.total := by
        unfold boundS boundX
        rw [h, decide_eq_true (show (1 : Int) ≤ 1 by omega), decide_eq_true (show (1 : Int) ≤ 8 by omega)]
        simp
      rw [hc, decide_eq_false h1]
      simp only [bne_self_eq_false, cond_false, hb, decide_eq_false h1]
      have e1 : w64 (1 - 1) = 0 := rfl
      have e2 : w64 (0 * s.long) = 0 := by rw [Int.zero_mul]; rfl
      have e3 : w64 (s.total + 0) = s.total := by rw [Int.add_zero]; exact w64_id (by omega) (by omega)
      have e4 : w64 (1 * s.deadline) = s.deadline := by rw [Int.one_mul]; exact w64_id (by omega) (by omega)
      simp only [e1, e2, e3, e4, decide_eq_false h1, cond_false]
      rfl
    case pos =>
      by_cases h2 : s.deadline ≤ s.long
      · have hc : coresS s = (0, 141) := by unfold coresS; rw [h, decide_eq_true h1, decide_eq_true h2]; rfl
        rw [hc]; rfl
      by_cases h8 : 8 < upN s
      · have hc : coresS s = (0, 142) := by unfold coresS; rw [h, decide_eq_true h1, decide_eq_false h2, decide_eq_true h8]; rfl
        rw [hc]; rfl
      have hc : coresS s = (upN s, 0) := by unfold coresS; rw [h, decide_eq_true h1, decide_eq_false h2, decide_eq_false h8]; rfl
      have u := up_iff (s := s) (by omega)
      have u2 : 2 ≤ upN s := by
        have := (u 1).1
        rw [Int.one_mul] at this
        omega
      have a1 := (u (upN s)).1 (Int.le_refl _)
      have a2 : ¬ (s.total - s.long ≤ (upN s - 1) * (s.deadline - s.long)) := fun h => by have := (u (upN s - 1)).2 h; omega
      rw [hc]
      generalize hn : upN s = n at u2 a1 a2 h8 ⊢
      have b1 : 0 ≤ (n - 1) * s.long ∧ (n - 1) * s.long ≤ 7 * 4096 := bound_in o (by omega) (by omega)
      have b2 : 0 ≤ (n - 2) * s.long ∧ (n - 2) * s.long ≤ 6 * 4096 := ⟨Int.mul_nonneg (by omega) (by omega), Int.mul_le_mul (by omega) (by omega) (by omega) (by omega)⟩
      have b3 : 0 ≤ n * s.deadline ∧ n * s.deadline ≤ 8 * 4096 := ⟨Int.mul_nonneg (by omega) (by omega), Int.mul_le_mul (by omega) (by omega) (by omega) (by omega)⟩
      have b4 : 0 ≤ (n - 1) * s.deadline ∧ (n - 1) * s.deadline ≤ 7 * 4096 := ⟨Int.mul_nonneg (by omega) (by omega), Int.mul_le_mul (by omega) (by omega) (by omega) (by omega)⟩
      have hb : boundS s n = (s.total + (n - 1) * s.long) / n := by
        unfold boundS boundX
        rw [h, decide_eq_true (show 1 ≤ n by omega), decide_eq_true (show n ≤ 8 by omega)]
        rfl
      have c1 : s.total + (n - 1) * s.long ≤ n * s.deadline := by
        rw [Int.mul_sub] at a1
        rw [Int.sub_mul, Int.one_mul]
        omega
      have c2 : (n - 1) * s.deadline < s.total + (n - 2) * s.long := by
        rw [Int.mul_sub, Int.sub_mul n 1 s.long, Int.one_mul] at a2
        rw [Int.sub_mul n 2 s.long]
        omega
      have c3 : (s.total + (n - 1) * s.long) / n ≤ s.deadline := by
        have : (s.total + (n - 1) * s.long) / n < s.deadline + 1 := by
          rw [Int.ediv_lt_iff_lt_mul (by omega), Int.add_mul, Int.one_mul, Int.mul_comm s.deadline n]
          omega
        omega
      have w1 : w64 (n - 1) = n - 1 := w64_id (by omega) (by omega)
      have w2 : w64 (n - 2) = n - 2 := w64_id (by omega) (by omega)
      have w3 : w64 ((n - 1) * s.long) = (n - 1) * s.long := w64_id (by omega) (by omega)
      have w4 : w64 ((n - 2) * s.long) = (n - 2) * s.long := w64_id (by omega) (by omega)
      have w5 : w64 (n * s.deadline) = n * s.deadline := w64_id (by omega) (by omega)
      have w6 : w64 ((n - 1) * s.deadline) = (n - 1) * s.deadline := w64_id (by omega) (by omega)
      have w7 : w64 (s.total + (n - 1) * s.long) = s.total + (n - 1) * s.long := w64_id (by omega) (by omega)
      have w8 : w64 (s.total + (n - 2) * s.long) = s.total + (n - 2) * s.long := w64_id (by omega) (by omega)
      simp only [bne_self_eq_false, cond_false, hb, decide_eq_true h1, cond_true, w1, w2, w3, w4, w5, w6, w7, w8, decide_eq_false (show ¬ s.deadline < (s.total + (n - 1) * s.long) / n by omega), decide_eq_false (show ¬ n * s.deadline < s.total + (n - 1) * s.long by omega), decide_eq_true u2, decide_eq_true (show n ≤ 8 by omega), decide_eq_true c2]

theorem ev_ClassLeast (xs : List D) (h : okLfs par63.1 xs) : ∃ H', evW ctx 11 (mapd [parD par63.2 xs]) [] = some (.d (.bool true), H') := by
  obtain ⟨s, hs⟩ := shape_par h
  show ∃ H', evW ctx 11 [.d (D.agg xs)] [] = _
  rw [hs]
  exact evD_true (g_law14_ClassLeast_ok s true (law_ClassLeast s))
end Go.Proofs.YtljgncbdagmeeaaDoor
