/- Sorting, plainly: the recursion, joined; and what is sorted. -/
import Derived.Test.YtakebhleglnpjaaDoorQSortE
namespace Go.Proofs.YtakebhleglnpjaaDoor
open Go Go.Proofs.YtakebhleglnpjaaDoorE Go.Sort
set_option linter.unusedVariables false
set_option linter.unusedSimpArgs false

/-- what comes behind one round -/
noncomputable def after (e : Int → Int → Option Int) (rc : Int → Int → Int → (Int → Int → Option Int) → List Int → Option (List Int)) (x : Option (PdqS ⊕ List Int)) : Option (List Int) :=
  match x with | some (.inl s') => lp (g_slices_pdqsortCmpFunc_int_L0 e rc) s' | some (.inr r) => some r | none => none
theorem lp_after (e : Int → Int → Option Int) (rc : Int → Int → Int → (Int → Int → Option Int) → List Int → Option (List Int)) (s : PdqS) : lp (g_slices_pdqsortCmpFunc_int_L0 e rc) s = after e rc (g_slices_pdqsortCmpFunc_int_L0 e rc s) := by
  rw [lp_eq]
  unfold after
  cases g_slices_pdqsortCmpFunc_int_L0 e rc s with
  | none => rfl
  | some t => cases t <;> rfl
def Res (P : Int → Prop) (r : Option (List Int)) (X : Array Int) (n : Nat) : Prop := r = some X.toList ∧ OKA P X ∧ X.size = n

section
variable {cmp : Int → Int → Option Int} {c : Int → Int → Int} {P : Int → Prop} (hc : CmpOK cmp c P) (hs : SWO (ltC c))
include hc hs

/-- what holds of shorter parts -/
def Shorter (cmp : Int → Int → Option Int) (c : Int → Int → Int) (P : Int → Prop) (rc : Int → Int → Int → (Int → Int → Option Int) → List Int → Option (List Int)) (k : Nat) : Prop :=
  ∀ (a b limit : Nat) (wb wp : Bool) (d : Array Int), b - a ≤ k → a ≤ b → b ≤ d.size → OKA P d → limit ≤ 1000 →
    Res P (rc (a : Int) (b : Int) (limit : Int) cmp d.toList) (pdq (ltC c) d a b limit true true) d.size ∧
    Res P (lp (g_slices_pdqsortCmpFunc_int_L0 cmp rc) ((a : Int), (b : Int), (limit : Int), wb, wp, d.toList)) (pdq (ltC c) d a b limit wb wp) d.size

theorem part_after {rc : Int → Int → Int → (Int → Int → Option Int) → List Int → Option (List Int)} {k : Nat} (ih : Shorter cmp c P rc k) (a b limit pivot : Nat) (d : Array Int) (hk : b - a ≤ k + 1) (h1 : a ≤ pivot) (h2 : pivot < b) (hb : b ≤ d.size) (hd : OKA P d) (hl : limit ≤ 1000) :
    Res P (after cmp rc (partF cmp rc (a : Int) (b : Int) (limit : Int) (pivot : Int) d.toList)) (match partition (ltC c) d a b pivot with
      | (mid, alreadyPartitioned, d4) =>
        if _h : a ≤ mid ∧ mid < b then
          if mid - a < b - mid then pdq (ltC c) (pdq (ltC c) d4 a mid limit true true) (mid + 1) b limit (decide (mid - a ≥ (b - a) / 8)) alreadyPartitioned
          else pdq (ltC c) (pdq (ltC c) d4 (mid + 1) b limit true true) a mid limit (decide (b - mid ≥ (b - a) / 8)) alreadyPartitioned
        else d4) d.size := by
  have hz := hd.sz
  obtain ⟨p1, p2, p3⟩ := partn_p hc a b pivot d h1 h2 hb hd
  obtain ⟨r1, r2, _⟩ := partition_holds (ltC c) hs d a b pivot h1 h2 hb
  unfold partF
  rw [p1]
  generalize partition (ltC c) d a b pivot = q at *
  obtain ⟨mid, ap, d4⟩ := q
  dsimp only at *
  rw [dif_pos ⟨r1, r2⟩]
  have e1 : w64 ((mid : Int) - (a : Int)) = ((mid - a : Nat) : Int) := w_nat (by omega) (by omega)
  have e2 : w64 ((b : Int) - (mid : Int)) = ((b - mid : Nat) : Int) := w_nat (by omega) (by omega)
  have e3 : w64 ((b : Int) - (a : Int)) = ((b - a : Nat) : Int) := w_nat (by omega) (by omega)
  have e4 : w64 (Int.tdiv ((b - a : Nat) : Int) 8) = (((b - a) / 8 : Nat) : Int) := by
    rw [Int.tdiv_eq_ediv_of_nonneg (by omega)]
    exact w_nat (by omega) (by omega)
  have e5 : w64 ((mid : Int) + 1) = ((mid + 1 : Nat) : Int) := w_nat (by omega) (by omega)
  by_cases hlt : mid - a < b - mid
  · obtain ⟨⟨u1, u2, u3⟩, _⟩ := ih a mid limit true true d4 (by omega) r1 (by omega) p2 hl
    rw [if_pos hlt]
    by_cases ht : mid - a ≥ (b - a) / 8
    · obtain ⟨_, v1, v2, v3⟩ := ih (mid + 1) b limit true ap (pdq (ltC c) d4 a mid limit true true) (by omega) (by omega) (by omega) u2 hl
      rw [decide_eq_true ht]
      refine ⟨?_, v2, by omega⟩
      cases ap <;> simp only [cond_true, cond_false, Option.bind_some, e1, e2, e3, e4, e5, n_lt, n_le, decide_eq_true hlt, decide_eq_true (show (b - a) / 8 ≤ mid - a from ht), u1, after] <;> exact v1
    · obtain ⟨_, v1, v2, v3⟩ := ih (mid + 1) b limit false ap (pdq (ltC c) d4 a mid limit true true) (by omega) (by omega) (by omega) u2 hl
      rw [decide_eq_false ht]
      refine ⟨?_, v2, by omega⟩
      cases ap <;> simp only [cond_true, cond_false, Option.bind_some, e1, e2, e3, e4, e5, n_lt, n_le, decide_eq_true hlt, decide_eq_false (show ¬ (b - a) / 8 ≤ mid - a from ht), u1, after] <;> exact v1
  · obtain ⟨⟨u1, u2, u3⟩, _⟩ := ih (mid + 1) b limit true true d4 (by omega) (by omega) (by omega) p2 hl
    rw [if_neg hlt]
    by_cases ht : b - mid ≥ (b - a) / 8
    · obtain ⟨_, v1, v2, v3⟩ := ih a mid limit true ap (pdq (ltC c) d4 (mid + 1) b limit true true) (by omega) r1 (by omega) u2 hl
      rw [decide_eq_true ht]
      refine ⟨?_, v2, by omega⟩
      cases ap <;> simp only [cond_true, cond_false, Option.bind_some, e1, e2, e3, e4, e5, n_lt, n_le, decide_eq_false hlt, decide_eq_true (show (b - a) / 8 ≤ b - mid from ht), u1, after] <;> exact v1
    · obtain ⟨_, v1, v2, v3⟩ := ih a mid limit false ap (pdq (ltC c) d4 (mid + 1) b limit true true) (by omega) r1 (by omega) u2 hl
      rw [decide_eq_false ht]
      refine ⟨?_, v2, by omega⟩
      cases ap <;> simp only [cond_true, cond_false, Option.bind_some, e1, e2, e3, e4, e5, n_lt, n_le, decide_eq_false hlt, decide_eq_false (show ¬ (b - a) / 8 ≤ b - mid from ht), u1, after] <;> exact v1

theorem tail_after {rc : Int → Int → Int → (Int → Int → Option Int) → List Int → Option (List Int)} {k : Nat} (ih : Shorter cmp c P rc k) (a b limit pivot : Nat) (wb wp : Bool) (d : Array Int) (hk : b - a ≤ k + 1) (h1 : a ≤ pivot) (h2 : pivot < b) (hb : b ≤ d.size) (hd : OKA P d) (hl : limit ≤ 1000) :
    Res P (after cmp rc (tailF cmp rc (a : Int) (b : Int) (limit : Int) (pivot : Int) wb wp d.toList)) (if (decide (a > 0) && !ltC c d[a - 1]! d[pivot]!) = true then
        match partitionEqual (ltC c) d a b pivot with
        | (mid, d4) => if _h : a < mid ∧ mid ≤ b then pdq (ltC c) d4 mid b limit wb wp else d4
      else
        match partition (ltC c) d a b pivot with
        | (mid, alreadyPartitioned, d4) =>
          if _h : a ≤ mid ∧ mid < b then
            if mid - a < b - mid then pdq (ltC c) (pdq (ltC c) d4 a mid limit true true) (mid + 1) b limit (decide (mid - a ≥ (b - a) / 8)) alreadyPartitioned
            else pdq (ltC c) (pdq (ltC c) d4 (mid + 1) b limit true true) a mid limit (decide (b - mid ≥ (b - a) / 8)) alreadyPartitioned
          else d4) d.size := by
  have hz := hd.sz
  have pa := part_after hc hs ih a b limit pivot d hk h1 h2 hb hd hl
  have ip : pivot < d.size := by omega
  unfold tailF
  by_cases ha : 0 < a
  · have ia : a - 1 < d.size := by omega
    have e1 : w64 ((a : Int) - 1) = ((a - 1 : Nat) : Int) := w_nat (by omega) (by omega)
    have e3 := hc _ _ (hd.el _ ia) (hd.el _ ip)
    simp only [decide_eq_true (show (0 : Int) < (a : Int) by omega), cond_true, e1, getA ia, getA ip, Option.bind_some, e3]
    by_cases h : c d[a - 1]! d[pivot]! < 0
    · rw [decide_eq_true h, if_neg (by simp [ltC, h])]
      exact pa
    · rw [decide_eq_false h, if_pos (by simp [ltC, h, ha])]
      obtain ⟨q1, q2, q3, q4, q5⟩ := parteq_p hc a b pivot d h1 h2 hb hd
      generalize partitionEqual (ltC c) d a b pivot = q at *
      obtain ⟨mid, d4⟩ := q
      dsimp only at *
      rw [dif_pos ⟨q4, q5⟩]
      obtain ⟨_, v1, v2, v3⟩ := ih mid b limit wb wp d4 (by omega) q5 (by omega) q2 hl
      simp only [cond_false, q1, Option.bind_some, after]
      exact ⟨v1, v2, by omega⟩
  · rw [if_neg (by simp [ha])]
    simp only [decide_eq_false (show ¬ (0 : Int) < (a : Int) by omega), cond_false]
    exact pa

theorem pdq_round {rc : Int → Int → Int → (Int → Int → Option Int) → List Int → Option (List Int)} {k : Nat} (ih : Shorter cmp c P rc k) (a b limit : Nat) (wb wp : Bool) (d : Array Int) (hk : b - a ≤ k + 1) (hab : a ≤ b) (hb : b ≤ d.size) (hd : OKA P d) (hl : limit ≤ 1000) :
    Res P (lp (g_slices_pdqsortCmpFunc_int_L0 cmp rc) ((a : Int), (b : Int), (limit : Int), wb, wp, d.toList)) (pdq (ltC c) d a b limit wb wp) d.size := by
  have hz := hd.sz
  have e1 : w64 ((b : Int) - (a : Int)) = ((b - a : Nat) : Int) := w_nat (by omega) (by omega)
  rw [lp_after, pdq_L0_eq, pdq, e1]
  by_cases h12 : b - a ≤ 12
  · obtain ⟨q1, q2, q3⟩ := ins_p hc a b d hb hab hd
    rw [decide_eq_true (show ((b - a : Nat) : Int) ≤ 12 by omega), if_pos h12]
    simp only [cond_true, q1, Option.bind_some, after]
    exact ⟨rfl, q2, q3⟩
  rw [decide_eq_false (show ¬ ((b - a : Nat) : Int) ≤ 12 by omega), if_neg h12]
  by_cases h0 : limit = 0
  · obtain ⟨q1, q2, q3⟩ := heap_p hc a b d hab hb hd
    rw [show ((limit : Int) == 0) = true by simp [h0], if_pos h0]
    simp only [cond_false, cond_true, q1, Option.bind_some, after]
    exact ⟨rfl, q2, q3⟩
  rw [show ((limit : Int) == 0) = false by simpa using (show ¬ (limit : Int) = 0 by omega), if_neg h0]
  have hl2 : ∀ x : Nat, (hintI Hint.unknown == 2) = false ∧ (hintI Hint.unknown == 1) = false ∧ (hintI Hint.increasing == 2) = false ∧ (hintI Hint.increasing == 1) = true ∧ (hintI Hint.decreasing == 2) = true := fun _ => ⟨rfl, rfl, rfl, rfl, rfl⟩
  obtain ⟨g1, g2, g3, g4, g5⟩ := hl2 0
  have rp : ∀ p : Nat, a ≤ p → p < b → w64 (w64 ((b : Int) - 1) - w64 ((p : Int) - (a : Int))) = (((b - 1) - (p - a) : Nat) : Int) := fun p h1 h2 => by
    have x1 : w64 ((b : Int) - 1) = ((b - 1 : Nat) : Int) := w_nat (by omega) (by omega)
    have x2 : w64 ((p : Int) - (a : Int)) = ((p - a : Nat) : Int) := w_nat (by omega) (by omega)
    rw [x1, x2]
    exact w_nat (by omega) (by omega)
  cases wb with
  | true =>
    have pv := piv_p hc a b d (by omega) hb hd
    have pr := choosePivot_holds (ltC c) d a b (by omega)
    simp only [cond_false, cond_true, Bool.not_true, Bool.false_eq_true, if_false, Bool.true_and]
    generalize choosePivot (ltC c) d a b = cp at *
    obtain ⟨p, h⟩ := cp
    dsimp only at *
    cases wp with
    | true =>
      simp only [cond_true, pv, Option.bind_some]
      cases h with
      | decreasing =>
        obtain ⟨v1, v2, v3⟩ := rev_p (P := P) cmp a b d (by omega) hb hd
        obtain ⟨w1, w2, w3⟩ := pis_p hc a b (reverseRange d a b) (by omega) (by omega) v2
        simp only [g5, cond_true, v1, Option.bind_some, w1, if_true, decide_true, Bool.and_self]
        generalize partialInsertionSort (ltC c) (reverseRange d a b) a b = pi at *
        obtain ⟨d3, fin⟩ := pi
        dsimp only at *
        cases fin with
        | true => exact ⟨rfl, w2, w3.trans v3⟩
        | false =>
          rw [rp p pr.1 pr.2]
          have := tail_after hc hs ih a b limit ((b - 1) - (p - a)) true true d3 hk (by omega) (by omega) (by omega) w2 hl
          rw [show d3.size = d.size by omega] at this
          exact this
      | increasing =>
        obtain ⟨w1, w2, w3⟩ := pis_p hc a b d (by omega) hb hd
        simp only [g3, g4, cond_true, cond_false, w1, Option.bind_some, reduceCtorEq, if_false, if_true, decide_true, Bool.and_self]
        generalize partialInsertionSort (ltC c) d a b = pi at *
        obtain ⟨d3, fin⟩ := pi
        dsimp only at *
        cases fin with
        | true => exact ⟨rfl, w2, w3⟩
        | false =>
          have := tail_after hc hs ih a b limit p true true d3 hk pr.1 pr.2 (by omega) w2 hl
          rw [show d3.size = d.size by omega] at this
          exact this
      | unknown =>
        simp only [g1, g2, cond_false, reduceCtorEq, if_false, decide_false, Bool.and_false, Bool.false_eq_true]
        exact tail_after hc hs ih a b limit p true true d hk pr.1 pr.2 hb hd hl
    | false =>
      simp only [cond_false, pv, Option.bind_some, Bool.false_and, Bool.false_eq_true, if_false]
      cases h with
      | decreasing =>
        obtain ⟨v1, v2, v3⟩ := rev_p (P := P) cmp a b d (by omega) hb hd
        simp only [g5, cond_true, v1, Option.bind_some, if_true]
        rw [rp p pr.1 pr.2]
        have := tail_after hc hs ih a b limit ((b - 1) - (p - a)) true false (reverseRange d a b) hk (by omega) (by omega) (by omega) v2 hl
        rw [v3] at this
        exact this
      | increasing =>
        simp only [g3, cond_false, reduceCtorEq, if_false]
        exact tail_after hc hs ih a b limit p true false d hk pr.1 pr.2 hb hd hl
      | unknown =>
        simp only [g1, cond_false, reduceCtorEq, if_false]
        exact tail_after hc hs ih a b limit p true false d hk pr.1 pr.2 hb hd hl
  | false =>
    obtain ⟨b1, b2, b3⟩ := bp_p (P := P) cmp a b d hab hb hd
    have pv := piv_p hc a b (breakPatterns d a b) (by omega) (by omega) b2
    have pr := choosePivot_holds (ltC c) (breakPatterns d a b) a b (by omega)
    have el : w64 ((limit : Int) - 1) = ((limit - 1 : Nat) : Int) := w_nat (by omega) (by omega)
    simp only [cond_false, b1, Option.bind_some, pv, Bool.not_false, if_true, Bool.false_and, Bool.false_eq_true, if_false, el]
    generalize choosePivot (ltC c) (breakPatterns d a b) a b = cp at *
    obtain ⟨p, h⟩ := cp
    dsimp only at *
    cases h with
    | decreasing =>
      obtain ⟨v1, v2, v3⟩ := rev_p (P := P) cmp a b (breakPatterns d a b) (by omega) (by omega) b2
      simp only [g5, cond_true, v1, Option.bind_some, if_true]
      rw [rp p pr.1 pr.2]
      have := tail_after hc hs ih a b (limit - 1) ((b - 1) - (p - a)) false wp (reverseRange (breakPatterns d a b) a b) hk (by omega) (by omega) (by omega) v2 (by omega)
      rw [v3, b3] at this
      exact this
    | increasing =>
      simp only [g3, cond_false, reduceCtorEq, if_false]
      have := tail_after hc hs ih a b (limit - 1) p false wp (breakPatterns d a b) hk pr.1 pr.2 (by omega) b2 (by omega)
      rw [b3] at this
      exact this
    | unknown =>
      simp only [g1, cond_false, reduceCtorEq, if_false]
      have := tail_after hc hs ih a b (limit - 1) p false wp (breakPatterns d a b) hk pr.1 pr.2 (by omega) b2 (by omega)
      rw [b3] at this
      exact this

theorem pdq_all : ∀ (k m : Nat), k ≤ m → Shorter cmp c P (g_slices_pdqsortCmpFunc_int_n (m + 1)) k := by
  intro k
  induction k with
  | zero =>
    intro m hm
    have base : ∀ (rc : Int → Int → Int → (Int → Int → Option Int) → List Int → Option (List Int)) (a b limit : Nat) (wb wp : Bool) (d : Array Int), b - a ≤ 0 → a ≤ b → b ≤ d.size → OKA P d → Res P (lp (g_slices_pdqsortCmpFunc_int_L0 cmp rc) ((a : Int), (b : Int), (limit : Int), wb, wp, d.toList)) (pdq (ltC c) d a b limit wb wp) d.size := by
      intro rc a b limit wb wp d hk hab hb hd
      have hz := hd.sz
      have e1 : w64 ((b : Int) - (a : Int)) = ((b - a : Nat) : Int) := w_nat (by omega) (by omega)
      obtain ⟨q1, q2, q3⟩ := ins_p hc a b d hb hab hd
      rw [lp_eq, pdq_L0_eq, pdq, e1, decide_eq_true (show ((b - a : Nat) : Int) ≤ 12 by omega), if_pos (by omega)]
      simp only [cond_true, q1, Option.bind_some]
      exact ⟨rfl, q2, q3⟩
    intro a b limit wb wp d hk hab hb hd hl
    refine ⟨?_, base _ a b limit wb wp d hk hab hb hd⟩
    obtain ⟨r1, r2⟩ := base (g_slices_pdqsortCmpFunc_int_n m) a b limit true true d hk hab hb hd
    refine ⟨?_, r2⟩
    show g_slices_pdqsortCmpFunc_int_b (g_slices_pdqsortCmpFunc_int_n m) (a : Int) (b : Int) (limit : Int) cmp d.toList = _
    unfold g_slices_pdqsortCmpFunc_int_b
    rw [r1]; rfl
  | succ k ih =>
    intro m hm a b limit wb wp d hk hab hb hd hl
    refine ⟨?_, pdq_round hc hs (ih m (by omega)) a b limit wb wp d hk hab hb hd hl⟩
    obtain ⟨m', rfl⟩ : ∃ m', m = m' + 1 := ⟨m - 1, by omega⟩
    obtain ⟨r1, r2⟩ := pdq_round hc hs (ih m' (by omega)) a b limit true true d hk hab hb hd hl
    refine ⟨?_, r2⟩
    show g_slices_pdqsortCmpFunc_int_b (g_slices_pdqsortCmpFunc_int_n (m' + 1)) (a : Int) (b : Int) (limit : Int) cmp d.toList = _
    unfold g_slices_pdqsortCmpFunc_int_b
    rw [r1]; rfl

/-- what is sorted -/
theorem sort_eq (l : List Int) (hl : l.length ≤ 1000) (hP : ∀ x ∈ l, P x) : g_slices_SortFunc_l_int_int cmp l = some (Sort.sort (ltC c) l.toArray).toList := by
  have hd : OKA P l.toArray := ⟨fun i hi => by
    have hi' : i < l.length := by simpa using hi
    rw [getElem!_pos l.toArray i hi]
    simpa using hP _ (List.getElem_mem hi'), by simpa using hl⟩
  obtain ⟨l1, _, _⟩ := len_p hl
  have hbl : bitsLen l.length ≤ 1000 := by
    unfold bitsLen
    split
    · omega
    · have : Nat.log2 l.length < 11 := (Nat.log2_lt (by assumption)).2 (by omega)
      omega
  have key : ∀ n, l.length + 1 ≤ n → g_slices_pdqsortCmpFunc_int_n n 0 (l.length : Int) (bitsLen l.length : Int) cmp l = some (Sort.sort (ltC c) l.toArray).toList := by
    intro n hn
    obtain ⟨m, rfl⟩ : ∃ m, n = m + 1 := ⟨n - 1, by omega⟩
    obtain ⟨⟨r1, _⟩, _⟩ := pdq_all hc hs l.length m (by omega) 0 l.length (bitsLen l.length) true true l.toArray (by omega) (by omega) (by simp) hd hbl
    refine (r1 : g_slices_pdqsortCmpFunc_int_n (m + 1) 0 (l.length : Int) (bitsLen l.length : Int) cmp l = _).trans ?_
    unfold Sort.sort
    rw [List.size_toArray]
  unfold g_slices_SortFunc_l_int_int g_slices_pdqsortCmpFunc_int
  rw [l1, Option.bind_some, lim1_of key]
  rfl
theorem sort_p (l : List Int) (hl : l.length ≤ 1000) (hP : ∀ x ∈ l, P x) : ∃ r : List Int, g_slices_SortFunc_l_int_int cmp l = some r ∧ r.Perm l ∧ r.Pairwise (fun x y => ltC c y x = false) := by
  refine ⟨_, sort_eq hc hs l hl hP, ?_⟩
  obtain ⟨⟨h1, _, h2⟩, h3⟩ := sort_sorts (ltC c) hs l.toArray
  generalize Sort.sort (ltC c) l.toArray = d at *
  constructor
  · have e1 : d.extract 0 l.toArray.size = d := by rw [← h1]; simp
    rw [e1] at h2
    simpa using h2
  · rw [List.pairwise_iff_getElem]
    intro i j hi hj hij
    have hj' : j < d.size := by simpa using hj
    have hi' : i < d.size := by omega
    have := h3 i j (Nat.zero_le _) hij (by omega)
    rw [getElem!_pos d j hj', getElem!_pos d i hi'] at this
    simpa using this
end
end Go.Proofs.YtakebhleglnpjaaDoor
