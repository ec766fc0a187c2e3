/- Chapter 14: how many cores a shape needs, plainly. -/
import Derived.Test.YtljgncbdagmeeaaDoorRTwo
namespace Go.Proofs.YtljgncbdagmeeaaDoor
open Go Go.Proofs.YtljgncbdagmeeaaDoorE
set_option linter.unusedVariables false
set_option linter.unusedSimpArgs false

def rng (n m : Int) : Bool := decide (1 ≤ n) && decide (n ≤ m)
theorem rng_p (n m : Int) : g_class_Check_1 n m = some (rng n m) := by
  unfold g_class_Check_1 rng
  cases decide (1 ≤ n) <;> cases decide (n ≤ m) <;> rfl
noncomputable def okShape (s : ShapeT) : Bool := twoB s.period && (!decide (4096 < s.period) && (rng s.deadline s.period && (rng s.total 4096 && (rng s.long s.total && rng s.most s.long))))
theorem class_p (s : ShapeT) : g_class_Check s = some (bif okShape s then 0 else 140) := by
  obtain ⟨k, hk⟩ := numTwo_p s.period
  unfold g_class_Check okShape
  simp only [hk, rng_p, Option.bind_some]
  cases twoB s.period <;> cases decide (4096 < s.period) <;> cases rng s.deadline s.period <;> cases rng s.total 4096 <;> cases rng s.long s.total <;> cases rng s.most s.long <;> rfl
structure OKShape (s : ShapeT) : Prop where
  p : s.period ≤ 4096
  d1 : 1 ≤ s.deadline
  d2 : s.deadline ≤ s.period
  t1 : 1 ≤ s.total
  t2 : s.total ≤ 4096
  l1 : 1 ≤ s.long
  l2 : s.long ≤ s.total
  m1 : 1 ≤ s.most
  m2 : s.most ≤ s.long
theorem ok_shape {s : ShapeT} (h : okShape s = true) : OKShape s := by
  unfold okShape rng at h
  simp only [Bool.and_eq_true, Bool.not_eq_true', decide_eq_false_iff_not, decide_eq_true_eq] at h
  obtain ⟨_, h1, h2, h3, h4, h5⟩ := h
  exact ⟨by omega, h2.1, h2.2, h3.1, h3.2, h4.1, h4.2, h5.1, h5.2⟩

theorem first_p (a b : Int) (ha : 0 ≤ a) (ha2 : a ≤ 1099511627775) (hb : 0 ≤ b) (hb2 : b ≤ 1099511627775) : g_num_first [a, b] = some 0 := by
  have ne : ∀ x : Int, 0 ≤ x → x ≤ 1099511627775 → g_num_first_1 x = some false := fun x h1 h2 => by
    unfold g_num_first_1
    rw [numCheck_p]
    unfold numErr
    rw [decide_eq_false (show ¬ x < 0 by omega), decide_eq_false (show ¬ 1099511627775 < x by omega)]
    rfl
  have key : lp (g_slices_IndexFunc_l_int_int_L0 [a, b] (fun z0 => g_num_first_1 z0)) 0 = some (.inr ()) := by
    have := lp_stop [a, b] (g_slices_IndexFunc_l_int_int_L0 [a, b] (fun z0 => g_num_first_1 z0)) (fun _ _ => false) (fun i _ => .inl (i : Int)) (.inr ()) (fun i x hi hx => by
      have hx' : x = a ∨ x = b := by
        have := List.mem_of_getElem? hx
        simpa using this
      have e : g_num_first_1 x = some false := by rcases hx' with rfl | rfl
                                                  · exact ne _ ha ha2
                                                  · exact ne _ hb hb2
      simp only [g_slices_IndexFunc_l_int_int_L0, lt_t hi, at_some hx, Option.bind_some, w64_succ hi (show [a, b].length < 9223372036854775808 by simp), cond_true, e, cond_false]) (by simp only [g_slices_IndexFunc_l_int_int_L0, lt_f]; rfl)
    rw [this]
    rfl
  unfold g_num_first g_slices_IndexFunc_l_int_int
  rw [key]
  rfl
theorem heavy_p (s : ShapeT) (h : okShape s = true) : g_class_Heavy s = some (decide (s.deadline < s.total)) := by
  have o := ok_shape h
  have o1 := o.p; have o2 := o.d1; have o3 := o.d2; have o4 := o.t1; have o5 := o.t2; have o6 := o.l1; have o7 := o.l2
  unfold g_class_Heavy
  rw [class_p, h]
  simp only [cond_true, Option.bind_some, beq_self_eq_true]
  unfold g_class_of
  by_cases h1 : s.deadline < s.total
  · rw [decide_eq_true h1]
    simp only [cond_true, Option.bind_some]
    unfold g_class_heavy_need g_class_light_need
    by_cases h2 : s.deadline ≤ s.long
    · rw [decide_eq_true h2]
      rfl
    · rw [decide_eq_false h2]
      have e1 : w64 (s.total - s.long) = s.total - s.long := w64_id (by omega) (by omega)
      have e2 : w64 (s.deadline - s.long) = s.deadline - s.long := w64_id (by omega) (by omega)
      have up : ∃ n, 2 ≤ n ∧ g_num_Up (s.total - s.long) (s.deadline - s.long) = some (n, 0) := by
        unfold g_num_Up g_num_quotient g_num_Up_1
        rw [first_p _ _ (by omega) (by omega) (by omega) (by omega)]
        have e3 : w64 (s.deadline - s.long - 1) = s.deadline - s.long - 1 := w64_id (by omega) (by omega)
        have e4 : w64 (s.total - s.long + (s.deadline - s.long - 1)) = s.total - s.long + (s.deadline - s.long - 1) := w64_id (by omega) (by omega)
        have hq : 2 ≤ (s.total - s.long + (s.deadline - s.long - 1)) / (s.deadline - s.long) := Int.le_ediv_of_mul_le (by omega) (by omega)
        have hq2 : (s.total - s.long + (s.deadline - s.long - 1)) / (s.deadline - s.long) ≤ s.total - s.long + (s.deadline - s.long - 1) := Int.ediv_le_self _ (by omega)
        refine ⟨(s.total - s.long + (s.deadline - s.long - 1)) / (s.deadline - s.long), hq, ?_⟩
        simp only [Option.bind_some, bne_self_eq_false, cond_false, show ((s.deadline - s.long) == 0) = false by simp; omega, e3, e4]
        rw [Int.tdiv_eq_ediv_of_nonneg (by omega), w64_id (by omega) (by omega)]
      obtain ⟨n, n1, n2⟩ := up
      simp only [cond_false, e1, e2, n2, Option.bind_some, beq_self_eq_true, cond_true]
      by_cases h3 : 8 < n
      · rw [decide_eq_true h3]; rfl
      · rw [decide_eq_false h3]
        simp only [cond_false, Option.bind_some, show (n == 1) = false by simp; omega, Bool.false_and, Bool.not_false, cond_true]
  · rw [decide_eq_false h1]
    rfl


theorem up_p (a b : Int) (ha : 0 ≤ a) (ha2 : a ≤ 4096) (hb : 1 ≤ b) (hb2 : b ≤ 4096) : g_num_Up a b = some ((a + (b - 1)) / b, 0) := by
  unfold g_num_Up g_num_quotient g_num_Up_1
  rw [first_p _ _ (by omega) (by omega) (by omega) (by omega)]
  have e3 : w64 (b - 1) = b - 1 := w64_id (by omega) (by omega)
  have e4 : w64 (a + (b - 1)) = a + (b - 1) := w64_id (by omega) (by omega)
  have h0 : 0 ≤ (a + (b - 1)) / b := Int.ediv_nonneg (by omega) (by omega)
  have hq2 : (a + (b - 1)) / b ≤ a + (b - 1) := Int.ediv_le_self _ (by omega)
  simp only [Option.bind_some, bne_self_eq_false, cond_false, show (b == 0) = false by simp; omega, e3, e4]
  rw [Int.tdiv_eq_ediv_of_nonneg (by omega), w64_id (by omega) (by omega)]

theorem ref14_check_p (s : ShapeT) : g_ref14_Check s = some (okShape s) := by
  obtain ⟨k, hk⟩ := ref_two s.period
  unfold g_ref14_Check okShape rng
  simp only [hk, Option.bind_some]
  by_cases hp : s.period ≤ 4096
  · rw [twoR_eq _ hp, decide_eq_true hp, decide_eq_false (show ¬ 4096 < s.period by omega)]
    cases twoB s.period with
    | false => rfl
    | true =>
      cases decide (1 ≤ s.deadline) with
      | false => rfl
      | true =>
        cases decide (s.deadline ≤ s.period) with
        | false => rfl
        | true =>
          cases decide (1 ≤ s.total) with
          | false => rfl
          | true => cases decide (s.total ≤ 4096) <;> cases decide (1 ≤ s.long) <;> cases decide (s.long ≤ s.total) <;> cases decide (1 ≤ s.most) <;> cases decide (s.most ≤ s.long) <;> rfl
  · rw [decide_eq_false hp, decide_eq_true (show 4096 < s.period by omega)]
    cases twoR s.period <;> cases twoB s.period <;> rfl

def upN (s : ShapeT) : Int := (s.total - s.long + (s.deadline - s.long - 1)) / (s.deadline - s.long)
noncomputable def coresS (s : ShapeT) : Int × Int := bif okShape s then (bif decide (s.deadline < s.total) then (bif decide (s.deadline ≤ s.long) then (0, 141) else bif decide (8 < upN s) then (0, 142) else (upN s, 0)) else (1, 0)) else (0, 140)

theorem up_iff {s : ShapeT} (h : s.long < s.deadline) (n : Int) : upN s ≤ n ↔ s.total - s.long ≤ n * (s.deadline - s.long) := by
  have hb : 0 < s.deadline - s.long := by omega
  have := Int.ediv_lt_iff_lt_mul (a := s.total - s.long + (s.deadline - s.long - 1)) (b := n + 1) hb
  rw [Int.add_mul, Int.one_mul] at this
  unfold upN
  omega

theorem cores_p (s : ShapeT) : g_class_Cores s = some (coresS s) := by
  unfold g_class_Cores coresS
  rw [class_p]
  cases h : okShape s with
  | false => rfl
  | true =>
    have o := ok_shape h
    have o1 := o.p; have o2 := o.d1; have o3 := o.d2; have o4 := o.t1; have o5 := o.t2; have o6 := o.l1; have o7 := o.l2
    simp only [cond_true, Option.bind_some, bne_self_eq_false, cond_false]
    unfold g_class_of
    cases h1 : decide (s.deadline < s.total) with
    | false => rfl
    | true =>
      have h1 := of_decide_eq_true h1
      simp only [cond_true, Option.bind_some]
      unfold g_class_heavy_need
      by_cases h2 : s.deadline ≤ s.long
      · rw [decide_eq_true h2]; rfl
      · rw [decide_eq_false h2]
        have e1 : w64 (s.total - s.long) = s.total - s.long := w64_id (by omega) (by omega)
        have e2 : w64 (s.deadline - s.long) = s.deadline - s.long := w64_id (by omega) (by omega)
        simp only [cond_false, e1, e2, up_p _ _ (show 0 ≤ s.total - s.long by omega) (by omega) (show 1 ≤ s.deadline - s.long by omega) (by omega), Option.bind_some, beq_self_eq_true, cond_true]
        show (bif decide (8 < upN s) then _ else _ : Option VerdictT).bind _ = _
        cases decide (8 < upN s) <;> rfl

theorem ref14_cores_p (s : ShapeT) : g_ref14_Cores s = some (coresS s) := by
  unfold g_ref14_Cores coresS
  rw [ref14_check_p]
  cases h : okShape s with
  | false => rfl
  | true =>
    have o := ok_shape h
    have o1 := o.p; have o2 := o.d1; have o3 := o.d2; have o4 := o.t1; have o5 := o.t2; have o6 := o.l1; have o7 := o.l2
    simp only [cond_true, Option.bind_some]
    by_cases h1 : s.deadline < s.total
    · rw [decide_eq_true h1, decide_eq_false (show ¬ s.total ≤ s.deadline by omega)]
      by_cases h2 : s.deadline ≤ s.long
      · rw [decide_eq_true h2]; rfl
      · rw [decide_eq_false h2]
        have e1 : w64 (s.total - s.long) = s.total - s.long := w64_id (by omega) (by omega)
        have e2 : w64 (s.deadline - s.long) = s.deadline - s.long := w64_id (by omega) (by omega)
        have u := up_iff (s := s) (by omega)
        have u1 : 1 ≤ upN s := by
          have := (u 0).1
          rw [Int.zero_mul] at this
          omega
        have key : ∀ m k : Nat, k + m = 9 → 1 ≤ k → (k : Int) ≤ upN s → lp (g_ref14_Cores_L0 s) (k : Int) = some (bif decide (8 < upN s) then .inr () else .inl (upN s)) := by
          intro m
          induction m with
          | zero =>
            intro k hk _ hu
            have : k = 9 := by omega
            subst this
            rw [lp_eq]
            simp only [g_ref14_Cores_L0, decide_eq_false (show ¬ (((9 : Nat) : Int) ≤ 8) by omega), cond_false, decide_eq_true (show 8 < upN s by omega), cond_true]
          | succ m ih =>
            intro k hk h1k hu
            have hb : (k : Int) * (s.deadline - s.long) ≤ 8 * 4096 := by
              have := Int.mul_le_mul (show (k : Int) ≤ 8 by omega) (show s.deadline - s.long ≤ 4096 by omega) (by omega) (by omega)
              exact this
            have hb0 : 0 ≤ (k : Int) * (s.deadline - s.long) := Int.mul_nonneg (by omega) (by omega)
            have e3 : w64 ((k : Int) * (s.deadline - s.long)) = (k : Int) * (s.deadline - s.long) := w64_id (by omega) (by omega)
            have e4 : w64 ((k : Int) + 1) = ((k + 1 : Nat) : Int) := w64_succ (show k < 100 by omega) (by omega)
            rw [lp_eq]
            simp only [g_ref14_Cores_L0, decide_eq_true (show (k : Int) ≤ 8 by omega), cond_true, e1, e2, e3, e4]
            by_cases hle : upN s ≤ (k : Int)
            · rw [decide_eq_true ((u k).1 hle), decide_eq_false (show ¬ 8 < upN s by omega)]
              simp only [cond_true, cond_false]
              rw [show upN s = (k : Int) by omega]
            · rw [decide_eq_false (fun h => hle ((u k).2 h))]
              simp only [cond_false]
              exact ih (k + 1) (by omega) (by omega) (by omega)
        have k1 := key 8 1 rfl (by omega) (by simpa using u1)
        rw [show ((1 : Nat) : Int) = 1 from rfl] at k1
        rw [k1]
        cases decide (8 < upN s) <;> rfl
    · rw [decide_eq_false h1, decide_eq_true (show s.total ≤ s.deadline by omega)]
      rfl

def boundX (s : ShapeT) (c : Int) : Int := (s.total + (c - 1) * s.long) / c
noncomputable def boundS (s : ShapeT) (c : Int) : Int := bif okShape s && (decide (1 ≤ c) && decide (c ≤ 8)) then boundX s c else 0
theorem bound_in {s : ShapeT} (o : OKShape s) {c : Int} (h1 : 1 ≤ c) (h8 : c ≤ 8) : 0 ≤ (c - 1) * s.long ∧ (c - 1) * s.long ≤ 7 * 4096 := by
  have := o.l1; have := o.l2; have := o.t2
  exact ⟨Int.mul_nonneg (by omega) (by omega), Int.mul_le_mul (by omega) (by omega) (by omega) (by omega)⟩
theorem bound_p (s : ShapeT) (c : Int) : g_class_Bound s c = some (boundS s c) := by
  unfold g_class_Bound boundS
  rw [class_p]
  cases h : okShape s with
  | false => rfl
  | true =>
    have o := ok_shape h
    have o4 := o.t1; have o5 := o.t2
    simp only [cond_true, Option.bind_some, bne_self_eq_false, cond_false, Bool.true_and]
    by_cases h1 : c < 1
    · rw [decide_eq_true h1, decide_eq_false (show ¬ 1 ≤ c by omega)]; rfl
    by_cases h8 : 8 < c
    · rw [decide_eq_false h1, decide_eq_true h8, decide_eq_false (show ¬ c ≤ 8 by omega), Bool.and_false]; rfl
    obtain ⟨b1, b2⟩ := bound_in o (show 1 ≤ c by omega) (by omega)
    rw [decide_eq_false h1, decide_eq_false h8, decide_eq_true (show 1 ≤ c by omega), decide_eq_true (show c ≤ 8 by omega)]
    have e0 : w64 (c - 1) = c - 1 := w64_id (by omega) (by omega)
    have e1 : w64 ((c - 1) * s.long) = (c - 1) * s.long := w64_id (by omega) (by omega)
    have e2 : w64 (s.total + (c - 1) * s.long) = s.total + (c - 1) * s.long := w64_id (by omega) (by omega)
    have e3 : 0 ≤ (s.total + (c - 1) * s.long) / c := Int.ediv_nonneg (by omega) (by omega)
    have e4 : (s.total + (c - 1) * s.long) / c ≤ s.total + (c - 1) * s.long := Int.ediv_le_self _ (by omega)
    simp only [cond_false, show (c == 0) = false by simp; omega, e0, e1, e2, Bool.and_self, cond_true]
    rw [Int.tdiv_eq_ediv_of_nonneg (by omega), w64_id (by omega) (by omega)]
    rfl
theorem ref14_bound_p (s : ShapeT) (c : Int) : g_ref14_Bound s c = some (boundS s c) := by
  unfold g_ref14_Bound boundS
  rw [ref14_check_p]
  cases h : okShape s with
  | false => rfl
  | true =>
    have o := ok_shape h
    have o4 := o.t1; have o5 := o.t2
    simp only [cond_true, Option.bind_some, Bool.true_and]
    by_cases h1 : c < 1
    · rw [decide_eq_true h1, decide_eq_false (show ¬ 1 ≤ c by omega)]; rfl
    by_cases h8 : 8 < c
    · rw [decide_eq_false h1, decide_eq_true h8, decide_eq_false (show ¬ c ≤ 8 by omega), Bool.and_false]; rfl
    obtain ⟨b1, b2⟩ := bound_in o (show 1 ≤ c by omega) (by omega)
    rw [decide_eq_false h1, decide_eq_false h8, decide_eq_true (show 1 ≤ c by omega), decide_eq_true (show c ≤ 8 by omega)]
    have e0 : w64 (c - 1) = c - 1 := w64_id (by omega) (by omega)
    have e1 : w64 ((c - 1) * s.long) = (c - 1) * s.long := w64_id (by omega) (by omega)
    have e2 : w64 (s.total + (c - 1) * s.long) = s.total + (c - 1) * s.long := w64_id (by omega) (by omega)
    have e3 : 0 ≤ boundX s c := Int.ediv_nonneg (by omega) (by omega)
    have e4 : boundX s c ≤ s.total + (c - 1) * s.long := Int.ediv_le_self _ (by omega)
    have q : ∀ n : Int, n ≤ boundX s c ↔ n * c ≤ s.total + (c - 1) * s.long := fun n => Int.le_ediv_iff_mul_le (by omega)
    have key : ∀ m k : Nat, (k : Int) + m = boundX s c → lp (g_ref14_Bound_L0 s c) (k : Int) = some (boundX s c) := by
      intro m
      induction m with
      | zero =>
        intro k hk
        have hk' : (k : Int) = boundX s c := by simpa using hk
        have hm : ((k : Int) + 1) * c ≤ 100000 * 8 := Int.mul_le_mul (by omega) (by omega) (by omega) (by omega)
        have hm0 : 0 ≤ ((k : Int) + 1) * c := Int.mul_nonneg (by omega) (by omega)
        have w1 : w64 ((k : Int) + 1) = (k : Int) + 1 := w64_id (by omega) (by omega)
        have w2 : w64 (((k : Int) + 1) * c) = ((k : Int) + 1) * c := w64_id (by omega) (by omega)
        rw [lp_eq]
        simp only [g_ref14_Bound_L0, w1, w2, e0, e1, e2, decide_eq_false (fun h => absurd ((q ((k : Int) + 1)).2 h) (by omega)), cond_false]
        rw [hk']
      | succ m ih =>
        intro k hk
        have hm : ((k : Int) + 1) * c ≤ 100000 * 8 := Int.mul_le_mul (by omega) (by omega) (by omega) (by omega)
        have hm0 : 0 ≤ ((k : Int) + 1) * c := Int.mul_nonneg (by omega) (by omega)
        have w1 : w64 ((k : Int) + 1) = (k : Int) + 1 := w64_id (by omega) (by omega)
        have w2 : w64 (((k : Int) + 1) * c) = ((k : Int) + 1) * c := w64_id (by omega) (by omega)
        rw [lp_eq]
        simp only [g_ref14_Bound_L0, w1, w2, e0, e1, e2, decide_eq_true ((q ((k : Int) + 1)).1 (by omega)), cond_true]
        exact ih (k + 1) (by omega)
    have k1 := key (boundX s c).toNat 0 (by omega)
    rw [show ((0 : Nat) : Int) = 0 from rfl] at k1
    simp only [cond_false, Bool.and_self, cond_true, k1, Option.bind_some]

theorem shape_par {xs : List D} (h : okLfs [.int .i64, .int .i64, .int .i64, .int .i64, .int .i64] xs) : ∃ s : ShapeT, D.agg xs = shapeD s := by
  obtain ⟨_, _, rfl, ⟨a, rfl, _⟩, _, _, rfl, ⟨b, rfl, _⟩, _, _, rfl, ⟨c, rfl, _⟩, _, _, rfl, ⟨d, rfl, _⟩, _, _, rfl, ⟨e, rfl, _⟩, rfl⟩ := h
  exact ⟨⟨a, b, c, d, e⟩, rfl⟩
end Go.Proofs.YtljgncbdagmeeaaDoor
