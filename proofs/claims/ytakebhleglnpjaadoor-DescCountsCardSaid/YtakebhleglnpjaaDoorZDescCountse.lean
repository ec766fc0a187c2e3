/- DescCounts: part 5 of 7 of the proof. -/
import Derived.Test.YtakebhleglnpjaaDoorZDescCountsd
import Derived.Sort.AssemblyPlain
import Derived.KernelRfl
namespace Go.Proofs.YtakebhleglnpjaaDoor
open Go Go.Proofs.YtakebhleglnpjaaDoorE
set_option linter.unusedVariables false
set_option linter.unusedSimpArgs false
def twoR (n : Int) : Bool := (List.range 40).any fun k => ((2 : Int) ^ k == n)
theorem ref_two (n : Int) : ∃ k, g_ref01_Two n = some (k, twoR n) := by
  have step : ∀ k : Nat, k < 40 → g_ref01_Two_L0 n ((2 : Int) ^ k, (k : Int)) = some (bif ((2 : Int) ^ k == n) then .inr (.inl (k : Int)) else .inl ((2 : Int) ^ (k + 1), ((k + 1 : Nat) : Int))) := by
    intro k hk
    have hp : (2 : Int) ^ k ≤ 2 ^ 39 := by
      have : (2 : Nat) ^ k ≤ 2 ^ 39 := Nat.pow_le_pow_right (by omega) (by omega)
      exact_mod_cast this
    have hq : (0 : Int) < 2 ^ k := by
      have : (0 : Nat) < 2 ^ k := Nat.pow_pos (by omega)
      exact_mod_cast this
    have e39 : (2 : Int) ^ 39 = 549755813888 := by decide
    rw [e39] at hp
    have e1 : w64 (2 * (2 : Int) ^ k) = (2 : Int) ^ (k + 1) := by rw [w64_id (by omega) (by omega), Int.pow_succ]; omega
    have e2 : w64 ((k : Int) + 1) = ((k + 1 : Nat) : Int) := w64_succ hk (by omega)
    unfold g_ref01_Two_L0
    simp only [decide_eq_true (show (k : Int) < 40 by omega), cond_true, e1, e2]
    cases ((2 : Int) ^ k == n) <;> rfl
  have key : ∀ m k : Nat, k + m = 40 → lp (g_ref01_Two_L0 n) ((2 : Int) ^ k, (k : Int)) = some (match (List.range' k m).find? (fun j => (2 : Int) ^ j == n) with | some j => .inl (j : Int) | none => .inr ()) := by
    intro m
    induction m with
    | zero =>
      intro k hk
      have : k = 40 := by omega
      subst this
      rw [lp_eq]
      unfold g_ref01_Two_L0
      rfl
    | succ m ih =>
      intro k hk
      rw [lp_eq, step k (by omega), List.range'_succ, List.find?_cons]
      cases h : ((2 : Int) ^ k == n) with
      | true => rfl
      | false => exact ih (k + 1) (by omega)
  have k0 := key 40 0 rfl
  rw [show ((2 : Int) ^ 0) = 1 from rfl] at k0
  have e : (List.range 40).any (fun j => (2 : Int) ^ j == n) = ((List.range' 0 40).find? (fun j => (2 : Int) ^ j == n)).isSome := by
    rw [List.range_eq_range', Bool.eq_iff_iff, List.any_eq_true, List.find?_isSome]
  unfold g_ref01_Two twoR
  rw [e]
  cases hf : (List.range' 0 40).find? (fun j => (2 : Int) ^ j == n) with
  | none =>
    rw [hf] at k0
    refine ⟨0, ?_⟩
    show (lp (g_ref01_Two_L0 n) (1, ((0 : Nat) : Int))).bind _ = _
    rw [k0]; rfl
  | some j =>
    rw [hf] at k0
    refine ⟨j, ?_⟩
    show (lp (g_ref01_Two_L0 n) (1, ((0 : Nat) : Int))).bind _ = _
    rw [k0]; rfl
theorem twoR_small (n : Nat) (h : n ≤ 4096) : twoR (n : Int) = pow2 n := by
  rw [Bool.eq_iff_iff]
  unfold twoR pow2
  rw [List.any_eq_true]
  constructor
  · rintro ⟨k, hk, he⟩
    have hk := List.mem_range.1 hk
    have he : (2 : Nat) ^ k = n := by have := eq_of_beq he; exact_mod_cast this
    have h13 : k < 13 := by
      rcases Nat.lt_or_ge k 13 with h1 | h1
      · exact h1
      · have : 2 ^ 13 ≤ 2 ^ k := Nat.pow_le_pow_right (by omega) h1
        omega
    subst he
    have : ((List.range 13).all fun k => [1, 2, 4, 8, 16, 32, 64, 128, 256, 512, 1024, 2048, 4096].contains (2 ^ k)) = true := by decide
    exact List.all_eq_true.1 this k (by simpa using h13)
  · intro h
    have : n = 2 ^ 0 ∨ n = 2 ^ 1 ∨ n = 2 ^ 2 ∨ n = 2 ^ 3 ∨ n = 2 ^ 4 ∨ n = 2 ^ 5 ∨ n = 2 ^ 6 ∨ n = 2 ^ 7 ∨ n = 2 ^ 8 ∨ n = 2 ^ 9 ∨ n = 2 ^ 10 ∨ n = 2 ^ 11 ∨ n = 2 ^ 12 := by
      simpa using h
    rcases this with h | h | h | h | h | h | h | h | h | h | h | h | h <;> subst h
    · exact ⟨0, by decide, by decide⟩
    · exact ⟨1, by decide, by decide⟩
    · exact ⟨2, by decide, by decide⟩
    · exact ⟨3, by decide, by decide⟩
    · exact ⟨4, by decide, by decide⟩
    · exact ⟨5, by decide, by decide⟩
    · exact ⟨6, by decide, by decide⟩
    · exact ⟨7, by decide, by decide⟩
    · exact ⟨8, by decide, by decide⟩
    · exact ⟨9, by decide, by decide⟩
    · exact ⟨10, by decide, by decide⟩
    · exact ⟨11, by decide, by decide⟩
    · exact ⟨12, by decide, by decide⟩
theorem ref_time (d : DescT) : g_ref05_time d = some (timeOK d) := by
  obtain ⟨k, hk⟩ := ref_two d.period
  unfold g_ref05_time timeOK within
  simp only [hk, Option.bind_some]
  by_cases h1 : d.period < 0
  · have : twoR d.period = false := by
      unfold twoR
      rw [List.any_eq_false]
      intro k _ he
      have he := eq_of_beq he
      have : (0 : Nat) < 2 ^ k := Nat.pow_pos (by omega)
      have : (0 : Int) < 2 ^ k := by exact_mod_cast this
      omega
    rw [this, twoB_neg h1]; rfl
  · by_cases h2 : d.period ≤ 4096
    · have e : d.period = ((d.period.toNat : Nat) : Int) := by omega
      have : twoB d.period = twoR d.period := by rw [e, twoB_small _ (by omega), twoR_small _ (by omega)]
      rw [this, decide_eq_true h2, decide_eq_false (show ¬ 4096 < d.period by omega)]
      cases twoR d.period <;> cases decide (1 ≤ d.deadline) <;> cases decide (d.deadline ≤ d.period) <;> rfl
    · rw [decide_eq_false h2, decide_eq_true (show 4096 < d.period by omega)]
      cases twoR d.period <;> cases twoB d.period <;> rfl
theorem ref_parts (d : DescT) (h : ShortD d) : g_ref05_parts d = some (!(d.parts.any badPart)) := by
  have key := lp_stop d.parts (g_ref05_parts_L0 d) (fun _ => badPart) (fun _ _ => .inl ()) (.inr ()) (fun i x hi hx => by
      simp only [g_ref05_parts_L0, lt_t hi, at_some hx, Option.bind_some, w64_succ hi h.p, cond_true]
      have e1 : decide (x.op < 0) = !decide (0 ≤ x.op) := by rw [← decide_not]; exact decide_eq_decide.2 (by omega)
      have e2 : decide (5 < x.op) = !decide (x.op ≤ 5) := by rw [← decide_not]; exact decide_eq_decide.2 (by omega)
      have e3 : decide (x.arg < 0) = !decide (0 ≤ x.arg) := by rw [← decide_not]; exact decide_eq_decide.2 (by omega)
      have e4 : decide (2147483647 < x.arg) = !decide (x.arg ≤ 2147483647) := by rw [← decide_not]; exact decide_eq_decide.2 (by omega)
      have e5 : decide (x.work < 1) = !decide (1 ≤ x.work) := by rw [← decide_not]; exact decide_eq_decide.2 (by omega)
      have e6 : decide (100 < x.work) = !decide (x.work ≤ 100) := by rw [← decide_not]; exact decide_eq_decide.2 (by omega)
      simp only [e1, e2, e3, e4, e5, e6, badPart, within]
      cases decide (0 ≤ x.op) <;> cases decide (x.op ≤ 5) <;> cases decide (0 ≤ x.arg) <;> cases decide (x.arg ≤ 2147483647) <;> cases decide (1 ≤ x.work) <;> cases decide (x.work ≤ 100) <;> rfl) (by simp only [g_ref05_parts_L0, lt_f]; rfl)
  unfold g_ref05_parts
  rw [key, stop_const, anyI_any]
  cases d.parts.any badPart <;> rfl
def inPart (n : Nat) (x : Int) : Bool := decide (0 ≤ x) && decide (x < (n : Int))
theorem ref_part (d : DescT) (x : Int) : g_ref05_Part d x = some (inPart d.parts.length x) := by
  unfold g_ref05_Part inPart
  cases decide (0 ≤ x) <;> cases decide (x < (d.parts.length : Int)) <;> rfl
theorem two_part (n : Nat) (a b : Int) : two n a b = ((a != b) && (inPart n a && inPart n b)) := by
  unfold two inPart
  rw [within_part, within_part]
theorem lp_ahead {γ R : Type} (l : List γ) (i : Nat) (hi : i < l.length) (step : Int → Option (Int ⊕ R)) (p : γ → Bool) (c fin : R)
    (h1 : ∀ (k : Nat) x, k < i → l[k]? = some x → step (k : Int) = some (bif p x then .inr c else .inl ((k + 1 : Nat) : Int)))
    (h2 : step (i : Int) = some (.inr fin)) : lp step 0 = some (bif (l.take i).any p then c else fin) := by
  have hl : (l.take i).length = i := by rw [List.length_take]; omega
  have key := lp_stop (l.take i) step (fun _ => p) (fun _ _ => c) fin (fun k x hk hx => by
      rw [hl] at hk
      refine h1 k x hk ?_
      rw [List.getElem?_take_of_lt hk] at hx
      exact hx) (by rw [hl]; exact h2)
  rw [key, stop_const, anyI_any]
theorem ref_edges (d : DescT) (h : ShortD d) : g_ref05_edges d = some (!(anyI (badEdge d) 0 d.edges)) := by
  have key := lp_stop d.edges (g_ref05_edges_L1 d) (badEdge d) (fun _ _ => .inl ()) (.inr ()) (fun i x hi hx => by
      have inner := lp_ahead d.edges i hi (g_ref05_edges_L0 d (i : Int) x) (sameE x) (.inl ()) (.inr ()) (fun k y hk hy => by
          simp only [g_ref05_edges_L0, lt_t hk, at_some hy, Option.bind_some, w64_succ hk (Nat.lt_trans hi h.e), cond_true, sameE]
          have e1 : (y.src == x.src) = (x.src == y.src) := Bool.beq_comm
          have e2 : (y.dst == x.dst) = (x.dst == y.dst) := Bool.beq_comm
          rw [e1, e2]
          cases (x.src == y.src) <;> cases (x.dst == y.dst) <;> rfl) (by simp only [g_ref05_edges_L0, lt_f]; rfl)
      simp only [g_ref05_edges_L1, lt_t hi, at_some hx, Option.bind_some, w64_succ hi h.e, cond_true, ref_part, badEdge, two_part, inner, bne]
      cases inPart d.parts.length x.src <;> cases inPart d.parts.length x.dst <;> cases (x.src == x.dst) <;> cases (d.edges.take i).any (sameE x) <;> rfl) (by simp only [g_ref05_edges_L1, lt_f]; rfl)
  unfold g_ref05_edges
  rw [key, stop_const]
  cases anyI (badEdge d) 0 d.edges <;> rfl
theorem ref_futures (d : DescT) (h : ShortD d) : g_ref05_futures d = some (!(anyI (badFuture d) 0 d.futures)) := by
  have key := lp_stop d.futures (g_ref05_futures_L1 d) (badFuture d) (fun _ _ => .inl ()) (.inr ()) (fun i x hi hx => by
      have inner := lp_ahead d.futures i hi (g_ref05_futures_L0 d (i : Int) x) (again x) (.inl ()) (.inr ()) (fun k y hk hy => by
          simp only [g_ref05_futures_L0, lt_t hk, at_some hy, Option.bind_some, w64_succ hk (Nat.lt_trans hi h.f), cond_true, again]
          cases (y.user == x.user) <;> cases (y.pos == x.pos) <;> rfl) (by simp only [g_ref05_futures_L0, lt_f]; rfl)
      simp only [g_ref05_futures_L1, lt_t hi, at_some hx, Option.bind_some, w64_succ hi h.f, cond_true, ref_part, badFuture, two_part, inner, bne]
      cases h1 : inPart d.parts.length x.maker with
      | false => cases (x.maker == x.user) <;> rfl
      | true =>
        cases h2 : inPart d.parts.length x.user with
        | false => cases (x.maker == x.user) <;> rfl
        | true =>
          simp only [inPart, Bool.and_eq_true, decide_eq_true_eq] at h2
          have u2 : x.user.toNat < d.parts.length := by omega
          have wa : workAt d.parts x.user = d.parts[x.user.toNat].work := by simp only [workAt, List.getElem?_eq_getElem u2]
          rw [getI_in h2.1 u2, wa]
          have e1 : decide (x.pos < 1) = !decide (1 ≤ x.pos) := by rw [← decide_not]; exact decide_eq_decide.2 (by omega)
          have e2 : decide (d.parts[x.user.toNat].work ≤ x.pos) = !decide (x.pos ≤ d.parts[x.user.toNat].work - 1) := by rw [← decide_not]; exact decide_eq_decide.2 (by omega)
          simp only [Option.bind_some, within, e1, e2]
          cases (x.maker == x.user) <;> cases decide (1 ≤ x.pos) <;> cases decide (x.pos ≤ d.parts[x.user.toNat].work - 1) <;> cases (d.futures.take i).any (again x) <;> rfl) (by simp only [g_ref05_futures_L1, lt_f]; rfl)
  unfold g_ref05_futures
  rw [key, stop_const]
  cases anyI (badFuture d) 0 d.futures <;> rfl
theorem ref_row (d : DescT) (hd : d.parts.length < 9223372036854775808) (l : List Int) (hl : l.length < 9223372036854775808) : g_ref05_row d l = some (rowOK d.parts.length l) := by
  have key := lp_stop l (g_ref05_row_L0 d l) (badAt d.parts.length l) (fun _ _ => .inl ()) (.inr ()) (fun i x hi hx => by
      simp only [g_ref05_row_L0, lt_t hi, at_some hx, Option.bind_some, w64_succ hi hl, cond_true, ref_part, badAt, within_part]
      show (bif inPart d.parts.length x then _ else _) = some (bif !(inPart d.parts.length x) || _ then _ else _)
      cases inPart d.parts.length x with
      | false => rfl
      | true =>
        cases i with
        | zero => rfl
        | succ i =>
          rw [decide_eq_true (show (0 : Int) < ((i + 1 : Nat) : Int) by omega), w64_id (by omega) (by omega), show (((i + 1 : Nat) : Int) - 1) = (i : Int) by omega]
          have hi2 : l[i]? = some l[i] := List.getElem?_eq_getElem (by omega)
          rw [at_some hi2]
          simp only [cond_true, Option.bind_some, Bool.not_true, Bool.false_or, hi2]
          cases decide (x ≤ l[i]) <;> rfl) (by simp only [g_ref05_row_L0, lt_f]; rfl)
  unfold g_ref05_row rowOK
  rw [key, stop_const]
  exact row_end _ _
theorem ref_has (l : List Int) (n : Int) (hl : l.length < 9223372036854775808) : g_ref04_Has l n = some (l.any fun x => n == x) := by
  have key := lp_stop l (g_ref04_Has_L0 l n) (fun _ x => n == x) (fun _ _ => .inl ()) (.inr ()) (fun i x hi hx => by
      have e : (x == n) = (n == x) := Bool.beq_comm
      simp only [g_ref04_Has_L0, lt_t hi, at_some hx, Option.bind_some, w64_succ hi hl, cond_true, e]
      cases (n == x) <;> rfl) (by simp only [g_ref04_Has_L0, lt_f]; rfl)
  unfold g_ref04_Has
  rw [key, stop_const, anyI_any]
  cases (l.any fun x => n == x) <;> rfl
theorem ref_barriers (d : DescT) (h : ShortD d) : g_ref05_barriers d = some (!(d.barriers.any (badBarrier d.parts.length))) := by
  have key := lp_stop d.barriers (g_ref05_barriers_L1 d) (fun _ => badBarrier d.parts.length) (fun _ _ => .inl ()) (.inr ()) (fun i x hi hx => by
      have hb := h.i x (List.mem_of_getElem? hx)
      have inner := lp_stop x.ins (g_ref05_barriers_L0 x) (fun _ => isOut x) (fun _ _ => .inl ()) (.inr ()) (fun k y hk hy => by
          simp only [g_ref05_barriers_L0, lt_t hk, at_some hy, Option.bind_some, w64_succ hk hb.1, cond_true, ref_has _ _ hb.2, isOut]
          cases (x.outs.any fun z => y == z) <;> rfl) (by simp only [g_ref05_barriers_L0, lt_f]; rfl)
      rw [stop_const, anyI_any] at inner
      simp only [g_ref05_barriers_L1, lt_t hi, at_some hx, Option.bind_some, w64_succ hi h.b, cond_true, ref_row d h.p _ hb.1, ref_row d h.p _ hb.2, badBarrier, inner]
      cases rowOK d.parts.length x.ins <;> cases rowOK d.parts.length x.outs <;> cases x.ins.any (isOut x) <;> rfl) (by simp only [g_ref05_barriers_L1, lt_f]; rfl)
  unfold g_ref05_barriers
  rw [key, stop_const, anyI_any]
  cases d.barriers.any (badBarrier d.parts.length) <;> rfl
theorem ref_check (d : DescT) (h : ShortD d) : g_ref05_Check d = some (checkD d) := by
  unfold g_ref05_Check checkD manyOK within
  simp only [ref_time, ref_parts d h, ref_edges d h, ref_futures d h, ref_barriers d h, Option.bind_some]
  have e1 : decide ((d.parts.length : Int) < 1) = !decide (1 ≤ (d.parts.length : Int)) := by rw [← decide_not]; exact decide_eq_decide.2 (by omega)
  have e2 : decide (16 < (d.parts.length : Int)) = !decide ((d.parts.length : Int) ≤ 16) := by rw [← decide_not]; exact decide_eq_decide.2 (by omega)
  rw [e1, e2]
  cases decide (1 ≤ (d.parts.length : Int)) with
  | false => rfl
  | true =>
    cases decide ((d.parts.length : Int) ≤ 16) with
    | false => rfl
    | true =>
      cases decide ((48 : Int) < d.edges.length) with
      | true => rfl
      | false =>
        cases decide ((16 : Int) < d.futures.length) with
        | true => rfl
        | false =>
          cases decide ((4 : Int) < d.barriers.length) with
          | true => rfl
          | false => cases timeOK d <;> cases d.parts.any badPart <;> cases anyI (badEdge d) 0 d.edges <;> cases anyI (badFuture d) 0 d.futures <;> cases d.barriers.any (badBarrier d.parts.length) <;> rfl
end Go.Proofs.YtakebhleglnpjaaDoor

namespace Go.Proofs.YtakebhleglnpjaaDoor
open Go Go.Proofs.YtakebhleglnpjaaDoorE
set_option linter.unusedVariables false
set_option linter.unusedSimpArgs false
theorem eq_part_p (a b : List PartT) (hl : a.length < 9223372036854775808) : g_slices_Equal_l_Part_Part a b = some (decide (a = b)) := by
  unfold g_slices_Equal_l_Part_Part
  by_cases he : a.length = b.length
  · have key := lp_same a b he (g_slices_Equal_l_Part_Part_L0 a b) (fun i x y hi hx hy => by
        simp only [g_slices_Equal_l_Part_Part_L0, lt_t hi, at_some hx, at_some hy, Option.bind_some, w64_succ hi hl, cond_true]
        have e : (!((x.op == y.op) && ((x.arg == y.arg) && ((x.work == y.work) && true)))) = !decide (x = y) := by
          rw [Bool.eq_iff_iff]; cases x; cases y; simp
        rw [e]
        cases decide (x = y) <;> rfl) (by simp only [g_slices_Equal_l_Part_Part_L0, lt_f]; rfl)
    rw [key, show ((a.length : Int) != (b.length : Int)) = false by rw [he]; simp]
    cases decide (a = b) <;> rfl
  · rw [show ((a.length : Int) != (b.length : Int)) = true by simp; omega, decide_eq_false (fun h => he (by rw [h]))]
    rfl
theorem eq_edge_p (a b : List EdgeT) (hl : a.length < 9223372036854775808) : g_slices_Equal_l_Edge_Edge a b = some (decide (a = b)) := by
  unfold g_slices_Equal_l_Edge_Edge
  by_cases he : a.length = b.length
  · have key := lp_same a b he (g_slices_Equal_l_Edge_Edge_L0 a b) (fun i x y hi hx hy => by
        simp only [g_slices_Equal_l_Edge_Edge_L0, lt_t hi, at_some hx, at_some hy, Option.bind_some, w64_succ hi hl, cond_true]
        have e : (!((x.src == y.src) && ((x.dst == y.dst) && true))) = !decide (x = y) := by
          rw [Bool.eq_iff_iff]; cases x; cases y; simp
        rw [e]
        cases decide (x = y) <;> rfl) (by simp only [g_slices_Equal_l_Edge_Edge_L0, lt_f]; rfl)
    rw [key, show ((a.length : Int) != (b.length : Int)) = false by rw [he]; simp]
    cases decide (a = b) <;> rfl
  · rw [show ((a.length : Int) != (b.length : Int)) = true by simp; omega, decide_eq_false (fun h => he (by rw [h]))]
    rfl
theorem eq_future_p (a b : List FutureT) (hl : a.length < 9223372036854775808) : g_slices_Equal_l_Future_Future a b = some (decide (a = b)) := by
  unfold g_slices_Equal_l_Future_Future
  by_cases he : a.length = b.length
  · have key := lp_same a b he (g_slices_Equal_l_Future_Future_L0 a b) (fun i x y hi hx hy => by
        simp only [g_slices_Equal_l_Future_Future_L0, lt_t hi, at_some hx, at_some hy, Option.bind_some, w64_succ hi hl, cond_true]
        have e : (!((x.maker == y.maker) && ((x.user == y.user) && ((x.pos == y.pos) && true)))) = !decide (x = y) := by
          rw [Bool.eq_iff_iff]; cases x; cases y; simp
        rw [e]
        cases decide (x = y) <;> rfl) (by simp only [g_slices_Equal_l_Future_Future_L0, lt_f]; rfl)
    rw [key, show ((a.length : Int) != (b.length : Int)) = false by rw [he]; simp]
    cases decide (a = b) <;> rfl
  · rw [show ((a.length : Int) != (b.length : Int)) = true by simp; omega, decide_eq_false (fun h => he (by rw [h]))]
    rfl
theorem eq_int_p (a b : List Int) (hl : a.length < 9223372036854775808) : g_slices_Equal_l_int_int a b = some (decide (a = b)) := by
  unfold g_slices_Equal_l_int_int
  by_cases he : a.length = b.length
  · have key := lp_same a b he (g_slices_Equal_l_int_int_L0 a b) (fun i x y hi hx hy => by
        simp only [g_slices_Equal_l_int_int_L0, lt_t hi, at_some hx, at_some hy, Option.bind_some, w64_succ hi hl, cond_true]
        have e : (x != y) = !decide (x = y) := by rw [Bool.eq_iff_iff]; simp
        rw [e]
        cases decide (x = y) <;> rfl) (by simp only [g_slices_Equal_l_int_int_L0, lt_f]; rfl)
    rw [key, show ((a.length : Int) != (b.length : Int)) = false by rw [he]; simp]
    cases decide (a = b) <;> rfl
  · rw [show ((a.length : Int) != (b.length : Int)) = true by simp; omega, decide_eq_false (fun h => he (by rw [h]))]
    rfl
theorem sameB_p (x y : BarrierT) (hx : Short x) : g_desc_Same_1 x y = some (decide (x = y)) := by
  unfold g_desc_Same_1
  simp only [eq_int_p _ _ hx.1, eq_int_p _ _ hx.2, Option.bind_some]
  obtain ⟨x1, x2⟩ := x
  obtain ⟨y1, y2⟩ := y
  by_cases h1 : x1 = y1 <;> by_cases h2 : x2 = y2 <;> simp [h1, h2]
theorem eq_barrier_p (a b : List BarrierT) (hl : a.length < 9223372036854775808) (hs : ∀ x ∈ a, Short x) : g_slices_EqualFunc_l_Barrier_l_Barrier_Barrier_Barrier a b (fun z0 z1 => g_desc_Same_1 z0 z1) = some (decide (a = b)) := by
  unfold g_slices_EqualFunc_l_Barrier_l_Barrier_Barrier_Barrier
  by_cases he : a.length = b.length
  · have key := lp_same a b he (g_slices_EqualFunc_l_Barrier_l_Barrier_Barrier_Barrier_L0 a b (fun z0 z1 => g_desc_Same_1 z0 z1)) (fun i x y hi hx hy => by
        simp only [g_slices_EqualFunc_l_Barrier_l_Barrier_Barrier_Barrier_L0, lt_t hi, at_some hx, at_some hy, Option.bind_some, w64_succ hi hl, cond_true, sameB_p x y (hs x (List.mem_of_getElem? hx))]
        cases decide (x = y) <;> rfl) (by simp only [g_slices_EqualFunc_l_Barrier_l_Barrier_Barrier_Barrier_L0, lt_f]; rfl)
    rw [key, show ((a.length : Int) != (b.length : Int)) = false by rw [he]; simp]
    cases decide (a = b) <;> rfl
  · rw [show ((a.length : Int) != (b.length : Int)) = true by simp; omega, decide_eq_false (fun h => he (by rw [h]))]
    rfl
theorem same_p (a b : DescT) (h : ShortD a) : g_desc_Same a b = some (decide (a = b)) := by
  unfold g_desc_Same
  simp only [eq_part_p _ _ h.p, eq_edge_p _ _ h.e, eq_future_p _ _ h.f, eq_barrier_p _ _ h.b h.i, Option.bind_some]
  obtain ⟨a1, a2, a3, a4, a5, a6⟩ := a
  obtain ⟨b1, b2, b3, b4, b5, b6⟩ := b
  by_cases h1 : a1 = b1
  · by_cases h2 : a2 = b2
    · by_cases h3 : a3 = b3 <;> by_cases h4 : a4 = b4 <;> by_cases h5 : a5 = b5 <;> by_cases h6 : a6 = b6 <;> simp [h1, h2, h3, h4, h5, h6]
    · rw [show (a2 == b2) = false by simpa using h2]; simp [h1, h2]
  · rw [show (a1 == b1) = false by simpa using h1]; simp [h1]
theorem ref_ints (a b : List Int) (hl : a.length < 9223372036854775808) : g_ref02_Ints a b = some (decide (a = b)) := by
  unfold g_ref02_Ints
  by_cases he : a.length = b.length
  · have key := lp_same a b he (g_ref02_Ints_L0 a b) (fun i x y hi hx hy => by
        simp only [g_ref02_Ints_L0, lt_t hi, at_some hx, at_some hy, Option.bind_some, w64_succ hi hl, cond_true]
        have e : (x != y) = !decide (x = y) := by rw [Bool.eq_iff_iff]; simp
        rw [e]
        cases decide (x = y) <;> rfl) (by simp only [g_ref02_Ints_L0, lt_f]; rfl)
    rw [key, show ((a.length : Int) != (b.length : Int)) = false by rw [he]; simp]
    cases decide (a = b) <;> rfl
  · rw [show ((a.length : Int) != (b.length : Int)) = true by simp; omega, decide_eq_false (fun h => he (by rw [h]))]
    rfl
section
variable (a b : DescT) (h : ShortD a)
include h
theorem ref_same0 (he : a.parts.length = b.parts.length) : lp (g_ref05_Same_L0 a b) 0 = some (bif decide (a.parts = b.parts) then .inr () else .inl ()) :=
  lp_same a.parts b.parts he (g_ref05_Same_L0 a b) (fun i x y hi hx hy => by
      simp only [g_ref05_Same_L0, lt_t hi, at_some hx, at_some hy, Option.bind_some, w64_succ hi h.p, cond_true]
      have e : (!((x.op == y.op) && ((x.arg == y.arg) && ((x.work == y.work) && true)))) = !decide (x = y) := by
        rw [Bool.eq_iff_iff]; cases x; cases y; simp
      rw [e]
      cases decide (x = y) <;> rfl) (by simp only [g_ref05_Same_L0, lt_f]; rfl)
theorem ref_same1 (he : a.futures.length = b.futures.length) : lp (g_ref05_Same_L1 a b) 0 = some (bif decide (a.futures = b.futures) then .inr () else .inl ()) :=
  lp_same a.futures b.futures he (g_ref05_Same_L1 a b) (fun i x y hi hx hy => by
      simp only [g_ref05_Same_L1, lt_t hi, at_some hx, at_some hy, Option.bind_some, w64_succ hi h.f, cond_true]
      have e : (!((x.maker == y.maker) && ((x.user == y.user) && ((x.pos == y.pos) && true)))) = !decide (x = y) := by
        rw [Bool.eq_iff_iff]; cases x; cases y; simp
      rw [e]
      cases decide (x = y) <;> rfl) (by simp only [g_ref05_Same_L1, lt_f]; rfl)
theorem ref_same2 (he : a.barriers.length = b.barriers.length) : lp (g_ref05_Same_L2 a b) 0 = some (bif decide (a.barriers = b.barriers) then .inr () else .inl ()) :=
  lp_same a.barriers b.barriers he (g_ref05_Same_L2 a b) (fun i x y hi hx hy => by
      have hs := h.i x (List.mem_of_getElem? hx)
      simp only [g_ref05_Same_L2, lt_t hi, at_some hx, at_some hy, Option.bind_some, w64_succ hi h.b, cond_true, ref_ints _ _ hs.1, ref_ints _ _ hs.2]
      obtain ⟨x1, x2⟩ := x
      obtain ⟨y1, y2⟩ := y
      by_cases h1 : x1 = y1 <;> by_cases h2 : x2 = y2 <;> simp [h1, h2]) (by simp only [g_ref05_Same_L2, lt_f]; rfl)
theorem ref_same_edges : g_ref04_Same (DagT.mk ([] : List Int) a.edges) (DagT.mk ([] : List Int) b.edges) = some (decide (a.edges = b.edges)) := by
  unfold g_ref04_Same
  have z : lp (g_ref04_Same_L0 (DagT.mk ([] : List Int) a.edges) (DagT.mk ([] : List Int) b.edges)) 0 = some (.inr ()) := by
    rw [lp_eq]; rfl
  by_cases he : a.edges.length = b.edges.length
  · have key := lp_same a.edges b.edges he (g_ref04_Same_L1 (DagT.mk ([] : List Int) a.edges) (DagT.mk ([] : List Int) b.edges)) (fun i x y hi hx hy => by
        simp only [g_ref04_Same_L1, lt_t hi, at_some hx, at_some hy, Option.bind_some, w64_succ hi h.e, cond_true]
        have e : (!((x.src == y.src) && ((x.dst == y.dst) && true))) = !decide (x = y) := by
          rw [Bool.eq_iff_iff]; cases x; cases y; simp
        rw [e]
        cases decide (x = y) <;> rfl) (by simp only [g_ref04_Same_L1, lt_f]; rfl)
    simp only [z, key, Option.bind_some]
    rw [show ((a.edges.length : Int) != (b.edges.length : Int)) = false by rw [he]; simp]
    cases decide (a.edges = b.edges) <;> rfl
  · simp only []
    rw [show ((a.edges.length : Int) != (b.edges.length : Int)) = true by simp; omega, decide_eq_false (fun h => he (by rw [h]))]
    rfl
theorem ref_same : g_ref05_Same a b = some (decide (a = b)) := by
  unfold g_ref05_Same
  rw [ref_same_edges a b h]
  have n0 : ∀ {x y : Int}, x = y → (x != y) = false := fun h => by rw [h]; simp
  have n1 : ∀ {x y : Int}, x ≠ y → (x != y) = true := fun h => by simpa using h
  by_cases h1 : a.period = b.period
  case neg => rw [n1 h1, decide_eq_false (show ¬ a = b from fun h => h1 (by rw [h]))]; rfl
  by_cases h2 : a.deadline = b.deadline
  case neg => rw [n0 h1, n1 h2, decide_eq_false (show ¬ a = b from fun h => h2 (by rw [h]))]; rfl
  by_cases h3 : a.parts.length = b.parts.length
  case neg => rw [n0 h1, n0 h2, n1 (by omega), decide_eq_false (show ¬ a = b from fun h => h3 (by rw [h]))]; rfl
  by_cases h4 : a.futures.length = b.futures.length
  case neg => rw [n0 h1, n0 h2, n0 (by omega), n1 (by omega), decide_eq_false (show ¬ a = b from fun h => h4 (by rw [h]))]; rfl
  by_cases h5 : a.barriers.length = b.barriers.length
  case neg => rw [n0 h1, n0 h2, n0 (by omega), n0 (by omega), n1 (by omega), decide_eq_false (show ¬ a = b from fun h => h5 (by rw [h]))]; rfl
  rw [n0 h1, n0 h2, n0 (by omega), n0 (by omega), n0 (by omega), ref_same0 a b h h3, ref_same1 a b h h4, ref_same2 a b h h5]
  obtain ⟨a1, a2, a3, a4, a5, a6⟩ := a
  obtain ⟨b1, b2, b3, b4, b5, b6⟩ := b
  simp only at h1 h2
  subst h1 h2
  by_cases h3 : a3 = b3 <;> by_cases h4 : a4 = b4 <;> by_cases h5 : a5 = b5 <;> by_cases h6 : a6 = b6 <;> simp [h3, h4, h5, h6]
end
def badFew (b : BarrierT) : Bool := decide (20 < (b.ins.length : Int)) || decide (20 < (b.outs.length : Int))
def few (d : DescT) : Bool := !((d.barriers.take 9).any badFew) && (decide ((d.parts.length : Int) ≤ 20) && (decide ((d.edges.length : Int) ≤ 60) && (decide ((d.futures.length : Int) ≤ 20) && decide ((d.barriers.length : Int) ≤ 8))))
theorem few_p (d : DescT) : g_ref05_Few d = some (few d) := by
  have hl : (d.barriers.take 9).length = min 9 d.barriers.length := List.length_take
  have key := lp_stop (d.barriers.take 9) (g_ref05_Few_L0 d) (fun _ => badFew) (fun _ _ => .inl ()) (.inr ()) (fun i x hi hx => by
      have h9 : i < 9 := by omega
      rw [List.getElem?_take_of_lt h9] at hx
      simp only [g_ref05_Few_L0, lt_t (show i < d.barriers.length by omega), at_some hx, Option.bind_some, w64_succ h9 (by omega), cond_true, badFew, decide_eq_true (show (i : Int) < 9 by omega)]
      cases decide (20 < (x.ins.length : Int)) <;> cases decide (20 < (x.outs.length : Int)) <;> rfl) (by
      rw [hl]
      unfold g_ref05_Few_L0
      by_cases h : d.barriers.length ≤ 9
      · rw [Nat.min_eq_right h, lt_f]; rfl
      · rw [Nat.min_eq_left (by omega), decide_eq_true (show ((9 : Nat) : Int) < d.barriers.length by omega)]; rfl)
  unfold g_ref05_Few few
  rw [key, stop_const, anyI_any]
  cases (d.barriers.take 9).any badFew <;> cases decide ((d.parts.length : Int) ≤ 20) <;> cases decide ((d.edges.length : Int) ≤ 60) <;> cases decide ((d.futures.length : Int) ≤ 20) <;> cases decide ((d.barriers.length : Int) ≤ 8) <;> rfl
structure Sized (d : DescT) : Prop where
  p : d.parts.length ≤ 20
  e : d.edges.length ≤ 60
  f : d.futures.length ≤ 20
  b : d.barriers.length ≤ 8
  i : ∀ b ∈ d.barriers, b.ins.length ≤ 20 ∧ b.outs.length ≤ 20
theorem few_sized {d : DescT} (h : few d = true) : Sized d := by
  unfold few at h
  simp only [Bool.and_eq_true, decide_eq_true_eq, Bool.not_eq_true'] at h
  obtain ⟨h1, h2, h3, h4, h5⟩ := h
  refine ⟨by omega, by omega, by omega, by omega, fun b hb => ?_⟩
  have := List.any_eq_false.1 h1 b (by rw [List.take_of_length_le (by omega)]; exact hb)
  simp only [badFew, Bool.or_eq_true, decide_eq_true_eq, not_or] at this
  omega
theorem Sized.short {d : DescT} (h : Sized d) : ShortD d :=
  ⟨by have := h.p; omega, by have := h.e; omega, by have := h.f; omega, by have := h.b; omega, fun b hb => ⟨by have := (h.i b hb).1; omega, by have := (h.i b hb).2; omega⟩⟩
theorem own_p (d : DescT) (h : Sized d) : g_law05_Own d = some d.barriers := by
  have key := lp_scan d.barriers (g_law05_Own_L0 d) (fun i (s : List BarrierT) => ((i : Int), s)) (fun i x s => bif Nat.ble (s.length + 1) lim then some (.inl (s ++ [x])) else none) (fun s => some s) (fun i x s hi hx => by
      have hb := h.i x (List.mem_of_getElem? hx)
      simp only [g_law05_Own_L0, lt_t hi, at_some hx, Option.bind_some, w64_succ hi h.short.b, cond_true, lim_t (show x.ins.length ≤ 1073741824 by omega), lim_t (show x.outs.length ≤ 1073741824 by omega)]
      cases Nat.ble (s.length + 1) lim <;> rfl) (fun s => by simp only [g_law05_Own_L0, lt_f]; rfl) []
  have sc : ∀ (l : List BarrierT) (i : Nat) (s : List BarrierT), s.length + l.length ≤ 1073741824 → scan (fun i x s => bif Nat.ble (s.length + 1) lim then some (Sum.inl (s ++ [x])) else (none : Option (List BarrierT ⊕ List BarrierT))) (fun s => some s) i l s = some (s ++ l) := by
    intro l
    induction l with
    | nil => intro i s _; simp [scan]
    | cons x l ih =>
      intro i s hs
      rw [List.length_cons] at hs
      unfold scan
      rw [lim_t (by omega)]
      simp only [cond_true]
      rw [ih (i + 1) (s ++ [x]) (by rw [List.length_append]; simp; omega)]
      simp
  rw [sc _ _ _ (by have := h.b; simp; omega)] at key
  unfold g_law05_Own
  rw [lim_t (show List.length d.parts ≤ 1073741824 by have := h.p; omega), lim_t (show List.length d.edges ≤ 1073741824 by have := h.e; omega), lim_t (show List.length d.futures ≤ 1073741824 by have := h.f; omega)]
  show (lp (g_law05_Own_L0 d) (((0 : Nat) : Int), [])).bind _ = _
  rw [key]
  rfl
end Go.Proofs.YtakebhleglnpjaaDoor

namespace Go.Proofs.YtakebhleglnpjaaDoor
open Go Go.Proofs.YtakebhleglnpjaaDoorE Go.Sort
set_option linter.unusedVariables false
set_option linter.unusedSimpArgs false
structure OKA (P : Int → Prop) (d : Array Int) : Prop where
  el : ∀ i, i < d.size → P d[i]!
  sz : d.size ≤ 1000
theorem getA {d : Array Int} {i : Nat} (h : i < d.size) : getI d.toList (i : Int) = some d[i]! := by
  refine at_some ?_
  rw [Array.getElem?_toList, Array.getElem?_eq_getElem h, getElem!_pos d i h]
theorem setA (d : Array Int) (i : Nat) (x : Int) : List.set d.toList i x = (d.setIfInBounds i x).toList := by simp
theorem swapA (d : Array Int) (i j : Nat) : List.set (List.set d.toList i d[j]!) j d[i]! = (swp d i j).toList := by
  unfold swp
  rw [setA, setA]
theorem midA {d : Array Int} {i j : Nat} {x : Int} (h : j < d.size) : ∃ y, getI (List.set d.toList i x) (j : Int) = some y := by
  rw [setA]
  exact ⟨_, getA (by simpa using h)⟩
theorem swp_size (d : Array Int) (i j : Nat) : (swp d i j).size = d.size := by unfold swp; simp
theorem swp_get {d : Array Int} {i j k : Nat} (hi : i < d.size) (hj : j < d.size) : (swp d i j)[k]! = if k = j then d[i]! else if k = i then d[j]! else d[k]! := by
  unfold swp
  by_cases hk : k < d.size
  · rw [getElem!_pos _ k (by simpa using hk), getElem!_pos d k hk, Array.getElem_setIfInBounds (by simpa using hk)]
    by_cases h1 : j = k
    · rw [if_pos h1, if_pos h1.symm]
    · rw [if_neg h1, if_neg (Ne.symm h1), Array.getElem_setIfInBounds hk]
      by_cases h2 : i = k
      · rw [if_pos h2, if_pos h2.symm]
      · rw [if_neg h2, if_neg (Ne.symm h2)]
  · rw [getElem!_neg _ k (by simpa using hk), getElem!_neg d k hk, if_neg (by omega), if_neg (by omega)]
theorem OKA.swp {P : Int → Prop} {d : Array Int} (h : OKA P d) {i j : Nat} (hi : i < d.size) (hj : j < d.size) : OKA P (swp d i j) :=
  ⟨fun k hk => by
    rw [swp_size] at hk
    rw [swp_get hi hj]
    split
    · exact h.el _ hi
    · split
      · exact h.el _ hj
      · exact h.el _ hk, by rw [swp_size]; exact h.sz⟩
theorem n_lt {a b : Nat} : decide ((a : Int) < (b : Int)) = decide (a < b) := decide_eq_decide.2 (by omega)
theorem n_le {a b : Nat} : decide ((a : Int) ≤ (b : Int)) = decide (a ≤ b) := decide_eq_decide.2 (by omega)
theorem w_nat {z : Int} {n : Nat} (h : z = (n : Int)) (hn : n < 9223372036854775808) : w64 z = (n : Int) := by rw [h, w64_id (by omega) (by omega)]
section
variable (cmp : Int → Int → Option Int) (c : Int → Int → Int) (P : Int → Prop)
def CmpOK : Prop := ∀ x y, P x → P y → cmp x y = some (c x y)
def ltC (x y : Int) : Bool := decide (c x y < 0)
variable {cmp c P} (hc : CmpOK cmp c P)
include hc
theorem ins_inner (a : Nat) : ∀ (j : Nat) (d : Array Int), OKA P d → j < d.size → lp (g_slices_insertionSortCmpFunc_int_L0 (a : Int) cmp) ((j : Int), d.toList) = some (insInner (ltC c) a j d).toList ∧ OKA P (insInner (ltC c) a j d) ∧ (insInner (ltC c) a j d).size = d.size
  | 0, d, hd, hj => by
    rw [lp_eq]
    simp only [g_slices_insertionSortCmpFunc_int_L0, decide_eq_false (show ¬ ((a : Int) < ((0 : Nat) : Int)) by omega), cond_false]
    exact ⟨rfl, hd, rfl⟩
  | j + 1, d, hd, hj => by
    have hj' : j < d.size := by omega
    have hz := hd.sz
    rw [lp_eq]
    have e2 : w64 (((j + 1 : Nat) : Int) - 1) = (j : Int) := w_nat (by omega) (by omega)
    have e3 := hc _ _ (hd.el (j + 1) hj) (hd.el j hj')
    unfold insInner
    by_cases h1 : a < j + 1
    · by_cases h2 : c d[j + 1]! d[j]! < 0
      · have ih := ins_inner a j (swp d (j + 1) j) (hd.swp hj hj') (by rw [swp_size]; omega)
        obtain ⟨y, e5⟩ := midA (i := j + 1) (x := d[j]!) hj'
        simp only [g_slices_insertionSortCmpFunc_int_L0, n_lt, decide_eq_true h1, cond_true, getA hj, e2, getA hj', Option.bind_some, e3, decide_eq_true h2, Int.toNat_natCast, e5, swapA]
        rw [if_pos (by simp [h1, h2, ltC])]
        rw [swp_size] at ih
        exact ih
      · simp only [g_slices_insertionSortCmpFunc_int_L0, n_lt, decide_eq_true h1, cond_true, getA hj, e2, getA hj', Option.bind_some, e3, decide_eq_false h2, cond_false]
        rw [if_neg (by simp [h1, h2, ltC])]
        exact ⟨rfl, hd, rfl⟩
    · simp only [g_slices_insertionSortCmpFunc_int_L0, n_lt, decide_eq_false h1, cond_false]
      rw [if_neg (by simp [h1])]
      exact ⟨rfl, hd, rfl⟩
theorem ins_outer (a b : Nat) : ∀ (k i : Nat) (d : Array Int), i + k = max i b → b ≤ d.size → OKA P d → lp (g_slices_insertionSortCmpFunc_int_L1 (a : Int) (b : Int) cmp) ((i : Int), d.toList) = some (insOuter (ltC c) a b i d).toList ∧ OKA P (insOuter (ltC c) a b i d) ∧ (insOuter (ltC c) a b i d).size = d.size
  | 0, i, d, hi, hb, hd => by
    rw [lp_eq]
    unfold insOuter
    simp only [g_slices_insertionSortCmpFunc_int_L1, n_lt, decide_eq_false (show ¬ i < b by omega), cond_false]
    rw [if_neg (by omega)]
    exact ⟨rfl, hd, rfl⟩
  | k + 1, i, d, hi, hb, hd => by
    have hib : i < b := by omega
    have hz := hd.sz
    obtain ⟨h1, h2, h3⟩ := ins_inner hc a i d hd (by omega)
    have ih := ins_outer a b k (i + 1) (insInner (ltC c) a i d) (by omega) (by rw [h3]; exact hb) h2
    rw [lp_eq]
    unfold insOuter
    simp only [g_slices_insertionSortCmpFunc_int_L1, n_lt, decide_eq_true hib, cond_true, h1, Option.bind_some, w64_succ hib (by omega)]
    rw [if_pos hib, ← h3]
    exact ih
theorem ins_p (a b : Nat) (d : Array Int) (hb : b ≤ d.size) (ha : a ≤ b) (hd : OKA P d) : g_slices_insertionSortCmpFunc_int (a : Int) (b : Int) cmp d.toList = some (insertionSort (ltC c) d a b).toList ∧ OKA P (insertionSort (ltC c) d a b) ∧ (insertionSort (ltC c) d a b).size = d.size := by
  have hz := hd.sz
  obtain ⟨h1, h2⟩ := ins_outer hc a b (max (a + 1) b - (a + 1)) (a + 1) d (by omega) hb hd
  unfold g_slices_insertionSortCmpFunc_int insertionSort
  rw [w_nat (n := a + 1) (by omega) (by omega), h1]
  exact ⟨rfl, h2⟩
theorem sift_lp (hi first : Nat) : ∀ (k root : Nat) (d : Array Int), hi - root ≤ k → root ≤ hi → first + hi ≤ d.size → OKA P d → ∃ r, lp (g_slices_siftDownCmpFunc_int_L0 (hi : Int) (first : Int) cmp) ((root : Int), d.toList) = some r ∧ (r = .inl (siftDown (ltC c) hi first root d).toList ∨ r = .inr (siftDown (ltC c) hi first root d).toList) ∧ OKA P (siftDown (ltC c) hi first root d) ∧ (siftDown (ltC c) hi first root d).size = d.size := by
  intro k
  induction k with
  | zero =>
    intro root d hk hr hs hd
    have hz := hd.sz
    rw [lp_eq]
    unfold siftDown
    have e0 : w64 (2 * (root : Int)) = ((2 * root : Nat) : Int) := w_nat (by omega) (by omega)
    have e1 : w64 (((2 * root : Nat) : Int) + 1) = ((2 * root + 1 : Nat) : Int) := w_nat (by omega) (by omega)
    simp only [g_slices_siftDownCmpFunc_int_L0, e0, e1, n_le, decide_eq_true (show hi ≤ 2 * root + 1 by omega), cond_true]
    rw [dif_pos (by omega)]
    exact ⟨_, rfl, .inl rfl, hd, rfl⟩
  | succ k ih =>
    intro root d hk hr hs hd
    have hz := hd.sz
    rw [lp_eq]
    unfold siftDown
    have e0 : w64 (2 * (root : Int)) = ((2 * root : Nat) : Int) := w_nat (by omega) (by omega)
    have e1 : w64 (((2 * root : Nat) : Int) + 1) = ((2 * root + 1 : Nat) : Int) := w_nat (by omega) (by omega)
    by_cases h1 : hi ≤ 2 * root + 1
    · simp only [g_slices_siftDownCmpFunc_int_L0, e0, e1, n_le, decide_eq_true h1, cond_true]
      rw [dif_pos (by omega)]
      exact ⟨_, rfl, .inl rfl, hd, rfl⟩
    have e2 : w64 (((2 * root + 1 : Nat) : Int) + 1) = ((2 * root + 2 : Nat) : Int) := w_nat (by omega) (by omega)
    have er : w64 ((first : Int) + (root : Int)) = ((first + root : Nat) : Int) := w_nat (by omega) (by omega)
    have ef : w64 ((first : Int) + ((2 * root + 1 : Nat) : Int)) = ((first + (2 * root + 1) : Nat) : Int) := w_nat (by omega) (by omega)
    have ef1 : w64 (((first + (2 * root + 1) : Nat) : Int) + 1) = ((first + (2 * root + 1) + 1 : Nat) : Int) := w_nat (by omega) (by omega)
    have ef2 : w64 ((first : Int) + ((2 * root + 2 : Nat) : Int)) = ((first + (2 * root + 2) : Nat) : Int) := w_nat (by omega) (by omega)
    have ir : first + root < d.size := by omega
    have i1 : first + (2 * root + 1) < d.size := by omega
    have cr1 := hc _ _ (hd.el _ ir) (hd.el _ i1)
    have one : ∀ {r : List Int ⊕ List Int} {A : Array Int}, A = d → (r = .inl d.toList ∨ r = .inr d.toList) → ∃ q, some r = some q ∧ (q = .inl A.toList ∨ q = .inr A.toList) ∧ OKA P A ∧ A.size = d.size := fun hA hr => by
      subst hA
      exact ⟨_, rfl, hr, hd, rfl⟩
    rw [dif_neg (by omega)]
    by_cases h2 : 2 * root + 2 < hi
    · have i2 : first + (2 * root + 2) < d.size := by omega
      have i2' : first + (2 * root + 1) + 1 < d.size := by omega
      have c12 := hc _ _ (hd.el _ i1) (hd.el _ i2')
      have cr2 := hc _ _ (hd.el _ ir) (hd.el _ i2)
      by_cases h3 : c d[first + (2 * root + 1)]! d[first + (2 * root + 1) + 1]! < 0
      · rw [if_pos (by simp [h3, ltC]; omega)]
        by_cases h4 : c d[first + root]! d[first + (2 * root + 2)]! < 0
        · obtain ⟨y, em⟩ := midA (i := first + root) (x := d[first + (2 * root + 2)]!) i2
          simp only [g_slices_siftDownCmpFunc_int_L0, e0, e1, e2, n_le, n_lt, decide_eq_false h1, decide_eq_true h2, cond_false, cond_true, ef, ef1, ef2, er, getA i1, getA i2', getA ir, getA i2, Option.bind_some, c12, cr2, decide_eq_true h3, decide_eq_true h4, Int.toNat_natCast, em, swapA]
          rw [if_neg (by simp [h4, ltC]), dif_pos h2]
          have := ih (2 * root + 2) (swp d (first + root) (first + (2 * root + 2))) (by omega) (by omega) (by rw [swp_size]; omega) (hd.swp ir i2)
          rw [swp_size] at this
          exact this
        · simp only [g_slices_siftDownCmpFunc_int_L0, e0, e1, e2, n_le, n_lt, decide_eq_false h1, decide_eq_true h2, cond_false, cond_true, ef, ef1, ef2, er, getA i1, getA i2', getA ir, getA i2, Option.bind_some, c12, cr2, decide_eq_true h3, decide_eq_false h4]
          rw [if_pos (by simp [h4, ltC])]
          exact one rfl (.inr rfl)
      · rw [if_neg (by simp [h3, ltC])]
        by_cases h4 : c d[first + root]! d[first + (2 * root + 1)]! < 0
        · obtain ⟨y, em⟩ := midA (i := first + root) (x := d[first + (2 * root + 1)]!) i1
          simp only [g_slices_siftDownCmpFunc_int_L0, e0, e1, e2, n_le, n_lt, decide_eq_false h1, decide_eq_true h2, cond_false, cond_true, ef, ef1, ef2, er, getA i1, getA i2', getA ir, Option.bind_some, c12, cr1, decide_eq_false h3, decide_eq_true h4, Int.toNat_natCast, em, swapA]
          rw [if_neg (by simp [h4, ltC])]
          have := ih (2 * root + 1) (swp d (first + root) (first + (2 * root + 1))) (by omega) (by omega) (by rw [swp_size]; omega) (hd.swp ir i1)
          rw [swp_size] at this
          exact this
        · simp only [g_slices_siftDownCmpFunc_int_L0, e0, e1, e2, n_le, n_lt, decide_eq_false h1, decide_eq_true h2, cond_false, cond_true, ef, ef1, ef2, er, getA i1, getA i2', getA ir, Option.bind_some, c12, cr1, decide_eq_false h3, decide_eq_false h4]
          rw [if_pos (by simp [h4, ltC])]
          exact one rfl (.inr rfl)
    · rw [if_neg (by simp; omega)]
      by_cases h4 : c d[first + root]! d[first + (2 * root + 1)]! < 0
      · obtain ⟨y, em⟩ := midA (i := first + root) (x := d[first + (2 * root + 1)]!) i1
        simp only [g_slices_siftDownCmpFunc_int_L0, e0, e1, e2, n_le, n_lt, decide_eq_false h1, decide_eq_false h2, cond_false, cond_true, ef, er, getA i1, getA ir, Option.bind_some, cr1, decide_eq_true h4, Int.toNat_natCast, em, swapA]
        rw [if_neg (by simp [h4, ltC])]
        have := ih (2 * root + 1) (swp d (first + root) (first + (2 * root + 1))) (by omega) (by omega) (by rw [swp_size]; omega) (hd.swp ir i1)
        rw [swp_size] at this
        exact this
      · simp only [g_slices_siftDownCmpFunc_int_L0, e0, e1, e2, n_le, n_lt, decide_eq_false h1, decide_eq_false h2, cond_false, cond_true, ef, er, getA i1, getA ir, Option.bind_some, cr1, decide_eq_false h4]
        rw [if_pos (by simp [h4, ltC])]
        exact one rfl (.inr rfl)
theorem sift_p (hi first root : Nat) (d : Array Int) (hr : root ≤ hi) (hs : first + hi ≤ d.size) (hd : OKA P d) : g_slices_siftDownCmpFunc_int (root : Int) (hi : Int) (first : Int) cmp d.toList = some (siftDown (ltC c) hi first root d).toList ∧ OKA P (siftDown (ltC c) hi first root d) ∧ (siftDown (ltC c) hi first root d).size = d.size := by
  obtain ⟨r, h1, h2, h3⟩ := sift_lp hc hi first _ root d (Nat.le_refl _) hr hs hd
  unfold g_slices_siftDownCmpFunc_int
  rw [h1]
  rcases h2 with rfl | rfl
  · exact ⟨rfl, h3⟩
  · exact ⟨rfl, h3⟩
theorem build_p (hi first b : Nat) (hb : (b : Int) = first + hi) : ∀ (k : Nat) (d : Array Int), k ≤ hi + 1 → first + hi ≤ d.size → OKA P d → lp (g_slices_heapSortCmpFunc_int_L0 (first : Int) (b : Int) cmp) ((k : Int) - 1, d.toList) = some (heapBuild (ltC c) hi first k d).toList ∧ OKA P (heapBuild (ltC c) hi first k d) ∧ (heapBuild (ltC c) hi first k d).size = d.size
  | 0, d, hk, hs, hd => by
    rw [lp_eq]
    simp only [g_slices_heapSortCmpFunc_int_L0, decide_eq_false (show ¬ ((0 : Int) ≤ ((0 : Nat) : Int) - 1) by omega), cond_false]
    exact ⟨rfl, hd, rfl⟩
  | k + 1, d, hk, hs, hd => by
    have hz := hd.sz
    obtain ⟨h1, h2, h3⟩ := sift_p hc hi first k d (by omega) hs hd
    have ih := build_p hi first b hb k (siftDown (ltC c) hi first k d) (by omega) (by rw [h3]; exact hs) h2
    have e1 : w64 ((b : Int) - (first : Int)) = (hi : Int) := w_nat (by omega) (by omega)
    have e2 : (((k + 1 : Nat) : Int) - 1) = (k : Int) := by omega
    have e3 : w64 ((k : Int) - 1) = (k : Int) - 1 := w64_id (by omega) (by omega)
    rw [lp_eq, e2]
    simp only [g_slices_heapSortCmpFunc_int_L0, decide_eq_true (show (0 : Int) ≤ (k : Int) by omega), cond_true, e1, h1, Option.bind_some, e3]
    rw [← h3]
    exact ih
theorem pop_p (first : Nat) : ∀ (k : Nat) (d : Array Int), first + k ≤ d.size → OKA P d → lp (g_slices_heapSortCmpFunc_int_L1 (first : Int) cmp) ((k : Int) - 1, d.toList) = some (heapPop (ltC c) first k d).toList ∧ OKA P (heapPop (ltC c) first k d) ∧ (heapPop (ltC c) first k d).size = d.size
  | 0, d, hs, hd => by
    rw [lp_eq]
    simp only [g_slices_heapSortCmpFunc_int_L1, decide_eq_false (show ¬ ((0 : Int) ≤ ((0 : Nat) : Int) - 1) by omega), cond_false]
    exact ⟨rfl, hd, rfl⟩
  | k + 1, d, hs, hd => by
    have hz := hd.sz
    have i1 : first + k < d.size := by omega
    have i2 : first < d.size := by omega
    obtain ⟨h1, h2, h3⟩ := sift_p hc k first 0 (swp d first (first + k)) (by omega) (by rw [swp_size]; omega) (hd.swp i2 i1)
    rw [swp_size] at h3
    have ih := pop_p first k (siftDown (ltC c) k first 0 (swp d first (first + k))) (by rw [h3]; omega) h2
    have e2 : (((k + 1 : Nat) : Int) - 1) = (k : Int) := by omega
    have e3 : w64 ((k : Int) - 1) = (k : Int) - 1 := w64_id (by omega) (by omega)
    have e4 : w64 ((first : Int) + (k : Int)) = ((first + k : Nat) : Int) := w_nat (by omega) (by omega)
    obtain ⟨y, em⟩ := midA (i := first) (x := d[first + k]!) i1
    have h1' : g_slices_siftDownCmpFunc_int 0 (k : Int) (first : Int) cmp (swp d first (first + k)).toList = _ := h1
    rw [lp_eq, e2]
    simp only [g_slices_heapSortCmpFunc_int_L1, decide_eq_true (show (0 : Int) ≤ (k : Int) by omega), cond_true, e4, getA i1, getA i2, Option.bind_some, Int.toNat_natCast, em, swapA, h1', e3]
    rw [← h3]
    exact ih
theorem heap_p (a b : Nat) (d : Array Int) (ha : a ≤ b) (hb : b ≤ d.size) (hd : OKA P d) : g_slices_heapSortCmpFunc_int (a : Int) (b : Int) cmp d.toList = some (heapSort (ltC c) d a b).toList ∧ OKA P (heapSort (ltC c) d a b) ∧ (heapSort (ltC c) d a b).size = d.size := by
  have hz := hd.sz
  have e1 : w64 ((b : Int) - (a : Int)) = ((b - a : Nat) : Int) := w_nat (by omega) (by omega)
  have e2 : w64 (((b - a : Nat) : Int) - 1) = ((b - a : Nat) : Int) - 1 := w64_id (by omega) (by omega)
  have e3 : w64 (Int.tdiv (((b - a : Nat) : Int) - 1) 2) = (((b - a - 1) / 2 + 1 : Nat) : Int) - 1 := by
    by_cases h : b - a = 0
    · rw [h]; rfl
    · rw [Int.tdiv_eq_ediv_of_nonneg (by omega), w64_id (by omega) (by omega)]
      omega
  obtain ⟨h1, h2, h3⟩ := build_p hc (b - a) a b (by omega) ((b - a - 1) / 2 + 1) d (by omega) (by omega) hd
  obtain ⟨h4, h5, h6⟩ := pop_p hc a (b - a) (heapBuild (ltC c) (b - a) a ((b - a - 1) / 2 + 1) d) (by rw [h3]; omega) h2
  unfold g_slices_heapSortCmpFunc_int heapSort
  simp only [e1, e2, e3, h1, h4, Option.bind_some]
  exact ⟨trivial, h5, by rw [h6, h3]⟩
end
end Go.Proofs.YtakebhleglnpjaaDoor

namespace Go.Proofs.YtakebhleglnpjaaDoor
open Go Go.Proofs.YtakebhleglnpjaaDoorE Go.Sort
set_option linter.unusedVariables false
set_option linter.unusedSimpArgs false
theorem scanUp_lp (step : Int → Option (Int ⊕ Int)) (p : Int → Bool) (d : Array Int) (j : Nat) (h : ∀ i : Nat, i ≤ j + 2 → step (i : Int) = some (bif decide (i ≤ j) && p d[i]! then .inl ((i + 1 : Nat) : Int) else .inr (i : Int))) :
    ∀ (k i : Nat), j + 2 - i ≤ k → i ≤ j + 2 → lp step (i : Int) = some ((scanUp p d j i : Nat) : Int) ∧ i ≤ scanUp p d j i ∧ scanUp p d j i ≤ max i (j + 1) := by
  intro k
  induction k with
  | zero =>
    intro i hk hi
    rw [lp_eq, h i hi]
    unfold scanUp
    rw [decide_eq_false (show ¬ i ≤ j by omega)]
    simp [show ¬ i ≤ j by omega]
    omega
  | succ k ih =>
    intro i hk hi
    rw [lp_eq, h i hi]
    unfold scanUp
    by_cases h1 : i ≤ j
    · cases h2 : p d[i]! with
      | true =>
        rw [decide_eq_true h1, if_pos (by simp [h1])]
        obtain ⟨a1, a2, a3⟩ := ih (i + 1) (by omega) (by omega)
        exact ⟨a1, by omega, by omega⟩
      | false =>
        rw [decide_eq_true h1, if_neg (by simp)]
        exact ⟨rfl, by omega, by omega⟩
    · rw [decide_eq_false h1, if_neg (by simp [h1])]
      exact ⟨rfl, by omega, by omega⟩
theorem scanDown_lp (step : Int → Option (Int ⊕ Int)) (p : Int → Bool) (d : Array Int) (i : Nat) (hi : 1 ≤ i) : ∀ (j : Nat), (∀ k : Nat, k ≤ j → step (k : Int) = some (bif decide (i ≤ k) && p d[k]! then .inl ((k : Int) - 1) else .inr (k : Int))) → lp step (j : Int) = some ((scanDown p d i j : Nat) : Int) ∧ scanDown p d i j ≤ j
  | 0, h => by
    rw [lp_eq, h 0 (Nat.le_refl _), decide_eq_false (show ¬ i ≤ 0 by omega)]
    exact ⟨rfl, Nat.le_refl _⟩
  | j + 1, h => by
    rw [lp_eq, h (j + 1) (Nat.le_refl _)]
    unfold scanDown
    by_cases h1 : i ≤ j + 1
    · cases h2 : p d[j + 1]! with
      | true =>
        rw [decide_eq_true h1, if_pos (by simp [h1])]
        have ih := scanDown_lp step p d i hi j (fun k hk => h k (by omega))
        have e : (((j + 1 : Nat) : Int) - 1) = (j : Int) := by omega
        simp only [Bool.and_self, cond_true, e]
        exact ⟨ih.1, by omega⟩
      | false =>
        rw [decide_eq_true h1, if_neg (by simp)]
        exact ⟨rfl, Nat.le_refl _⟩
    · rw [decide_eq_false h1, if_neg (by simp [h1])]
      exact ⟨rfl, Nat.le_refl _⟩
section
variable {cmp : Int → Int → Option Int} {c : Int → Int → Int} {P : Int → Prop} (hc : CmpOK cmp c P)
include hc
theorem part_loop (a : Nat) : ∀ (k i j : Nat) (d : Array Int), j + 3 - i ≤ k → 1 ≤ i → i ≤ j + 2 → j < d.size → a < d.size → OKA P d →
    lp (g_slices_partitionCmpFunc_int_L4 (a : Int) cmp) ((i : Int), (j : Int), d.toList) = some (((partLoop (ltC c) a i j d).1 : Int), (partLoop (ltC c) a i j d).2.toList) ∧ OKA P (partLoop (ltC c) a i j d).2 ∧ (partLoop (ltC c) a i j d).2.size = d.size ∧ (partLoop (ltC c) a i j d).1 ≤ j := by
  intro k
  induction k with
  | zero =>
    intro i j d hk h1 h2 hj ha hd
    exact absurd hk (by omega)
  | succ k ih =>
    intro i j d hk h1 h2 hj ha hd
    have hz := hd.sz
    obtain ⟨u1, u2, u3⟩ := scanUp_lp (g_slices_partitionCmpFunc_int_L2 (a : Int) cmp ((i : Int), (j : Int), d.toList)) (fun x => ltC c x d[a]!) d j (fun m hm => by
        by_cases hmj : m ≤ j
        · have im : m < d.size := by omega
          simp only [g_slices_partitionCmpFunc_int_L2, n_le, decide_eq_true hmj, cond_true, getA im, getA ha, Option.bind_some, hc _ _ (hd.el _ im) (hd.el _ ha), ltC, Bool.true_and, w64_succ (show m < j + 1 by omega) (by omega)]
          cases decide (c d[m]! d[a]! < 0) <;> rfl
        · simp only [g_slices_partitionCmpFunc_int_L2, n_le, decide_eq_false hmj, cond_false, Bool.false_and]) (j + 2 - i) i (Nat.le_refl _) h2
    generalize hi2 : scanUp (fun x => ltC c x d[a]!) d j i = i2 at u1 u2 u3
    obtain ⟨v1, v2⟩ := scanDown_lp (g_slices_partitionCmpFunc_int_L3 (a : Int) cmp ((i : Int), (j : Int), d.toList) (i2 : Int)) (fun x => !ltC c x d[a]!) d i2 (by omega) j (fun m hm => by
        have im : m < d.size := by omega
        by_cases hmi : i2 ≤ m
        · simp only [g_slices_partitionCmpFunc_int_L3, n_le, decide_eq_true hmi, cond_true, getA im, getA ha, Option.bind_some, hc _ _ (hd.el _ im) (hd.el _ ha), ltC, Bool.true_and, w64_id (show -9223372036854775808 ≤ (m : Int) - 1 by omega) (by omega)]
          cases decide (c d[m]! d[a]! < 0) <;> rfl
        · simp only [g_slices_partitionCmpFunc_int_L3, n_le, decide_eq_false hmi, cond_false, Bool.false_and])
    generalize hj2 : scanDown (fun x => !ltC c x d[a]!) d i2 j = j2 at v1 v2
    rw [lp_eq]
    unfold partLoop
    simp only [g_slices_partitionCmpFunc_int_L4, u1, v1, Option.bind_some, n_lt, hi2, hj2]
    by_cases hij : j2 < i2
    · rw [decide_eq_true hij, if_pos hij]
      exact ⟨rfl, hd, rfl, v2⟩
    · have k1 : i2 < d.size := by omega
      have k2 : j2 < d.size := by omega
      obtain ⟨y, em⟩ := midA (i := i2) (x := d[j2]!) k2
      have e1 : w64 ((i2 : Int) + 1) = ((i2 + 1 : Nat) : Int) := w_nat (by omega) (by omega)
      have e2 : w64 ((j2 : Int) - 1) = ((j2 - 1 : Nat) : Int) := w_nat (by omega) (by omega)
      rw [decide_eq_false hij, if_neg hij, dif_pos (by omega)]
      simp only [cond_false, getA k1, getA k2, Option.bind_some, Int.toNat_natCast, em, swapA, e1, e2]
      obtain ⟨q1, q2, q3, q4⟩ := ih (i2 + 1) (j2 - 1) (swp d i2 j2) (by omega) (by omega) (by omega) (by rw [swp_size]; omega) (by rw [swp_size]; exact ha) (hd.swp k1 k2)
      rw [swp_size] at q3
      exact ⟨q1, q2, q3, by omega⟩
theorem partn_p (a b pivot : Nat) (d : Array Int) (h1 : a ≤ pivot) (h2 : pivot < b) (hb : b ≤ d.size) (hd : OKA P d) :
    g_slices_partitionCmpFunc_int (a : Int) (b : Int) (pivot : Int) cmp d.toList = some (bif (partition (ltC c) d a b pivot).2.1 then .inl (((partition (ltC c) d a b pivot).1 : Int), (partition (ltC c) d a b pivot).2.2.toList) else .inr (((partition (ltC c) d a b pivot).1 : Int), (partition (ltC c) d a b pivot).2.2.toList)) ∧
    OKA P (partition (ltC c) d a b pivot).2.2 ∧ (partition (ltC c) d a b pivot).2.2.size = d.size := by
  have hz := hd.sz
  have ip : pivot < d.size := by omega
  have ia : a < d.size := by omega
  have hd1 := hd.swp ia ip
  have s1 := swp_size d a pivot
  obtain ⟨y, em⟩ := midA (i := a) (x := d[pivot]!) ip
  have e1 : w64 ((a : Int) + 1) = ((a + 1 : Nat) : Int) := w_nat (by omega) (by omega)
  have e2 : w64 ((b : Int) - 1) = ((b - 1 : Nat) : Int) := w_nat (by omega) (by omega)
  have sw := swapA d a pivot
  have ia1 : a < (swp d a pivot).size := by omega
  obtain ⟨u1, u2, u3⟩ := scanUp_lp (g_slices_partitionCmpFunc_int_L0 (a : Int) (b : Int) (pivot : Int) d.toList cmp d[pivot]! d[a]!) (fun x => ltC c x (swp d a pivot)[a]!) (swp d a pivot) (b - 1) (fun m hm => by
      by_cases hmj : m ≤ b - 1
      · have im : m < (swp d a pivot).size := by omega
        simp only [g_slices_partitionCmpFunc_int_L0, e2, n_le, decide_eq_true hmj, cond_true, Int.toNat_natCast, sw, getA im, getA ia1, Option.bind_some, hc _ _ (hd1.el _ im) (hd1.el _ ia1), ltC, Bool.true_and, w64_succ (show m < b by omega) (by omega)]
        cases decide (c (swp d a pivot)[m]! (swp d a pivot)[a]! < 0) <;> rfl
      · simp only [g_slices_partitionCmpFunc_int_L0, e2, n_le, decide_eq_false hmj, cond_false, Bool.false_and]) (b - 1 + 2 - (a + 1)) (a + 1) (Nat.le_refl _) (by omega)
  generalize hi2 : scanUp (fun x => ltC c x (swp d a pivot)[a]!) (swp d a pivot) (b - 1) (a + 1) = i2 at u1 u2 u3
  obtain ⟨v1, v2⟩ := scanDown_lp (g_slices_partitionCmpFunc_int_L1 (a : Int) (pivot : Int) d.toList cmp d[pivot]! d[a]! (i2 : Int)) (fun x => !ltC c x (swp d a pivot)[a]!) (swp d a pivot) i2 (by omega) (b - 1) (fun m hm => by
      have im : m < (swp d a pivot).size := by omega
      by_cases hmi : i2 ≤ m
      · simp only [g_slices_partitionCmpFunc_int_L1, n_le, decide_eq_true hmi, cond_true, Int.toNat_natCast, sw, getA im, getA ia1, Option.bind_some, hc _ _ (hd1.el _ im) (hd1.el _ ia1), ltC, Bool.true_and, w64_id (show -9223372036854775808 ≤ (m : Int) - 1 by omega) (by omega)]
        cases decide (c (swp d a pivot)[m]! (swp d a pivot)[a]! < 0) <;> rfl
      · simp only [g_slices_partitionCmpFunc_int_L1, n_le, decide_eq_false hmi, cond_false, Bool.false_and])
  generalize hj2 : scanDown (fun x => !ltC c x (swp d a pivot)[a]!) (swp d a pivot) i2 (b - 1) = j2 at v1 v2
  unfold g_slices_partitionCmpFunc_int partition
  simp only [getA ip, getA ia, Option.bind_some, Int.toNat_natCast, em, e1, e2, u1, v1, n_lt, sw, hi2, hj2]
  have kj : j2 < (swp d a pivot).size := by omega
  by_cases hij : j2 < i2
  · obtain ⟨y2, em2⟩ := midA (i := j2) (x := (swp d a pivot)[a]!) ia1
    rw [decide_eq_true hij, if_pos hij]
    simp only [cond_true, getA ia1, getA kj, Option.bind_some, Int.toNat_natCast, em2, swapA]
    exact ⟨trivial, hd1.swp kj ia1, by rw [swp_size, s1]⟩
  · have ki : i2 < (swp d a pivot).size := by omega
    obtain ⟨y2, em2⟩ := midA (i := i2) (x := (swp d a pivot)[j2]!) kj
    have e3 : w64 ((i2 : Int) + 1) = ((i2 + 1 : Nat) : Int) := w_nat (by omega) (by omega)
    have e4 : w64 ((j2 : Int) - 1) = ((j2 - 1 : Nat) : Int) := w_nat (by omega) (by omega)
    obtain ⟨q1, q2, q3, q4⟩ := part_loop hc a (j2 - 1 + 3 - (i2 + 1)) (i2 + 1) (j2 - 1) (swp (swp d a pivot) i2 j2) (by omega) (by omega) (by omega) (by rw [swp_size]; omega) (by rw [swp_size]; exact ia1) (hd1.swp ki kj)
    rw [swp_size, s1] at q3
    rw [decide_eq_false hij, if_neg hij]
    simp only [cond_false, getA ki, getA kj, Option.bind_some, Int.toNat_natCast, em2, swapA, e3, e4, q1]
    generalize partLoop (ltC c) a (i2 + 1) (j2 - 1) (swp (swp d a pivot) i2 j2) = r at *
    have kr : r.1 < r.2.size := by omega
    have kr2 : a < r.2.size := by omega
    obtain ⟨y3, em3⟩ := midA (i := r.1) (x := r.2[a]!) kr2
    simp only [getA kr, getA kr2, Option.bind_some, em3, swapA]
    exact ⟨trivial, q2.swp kr kr2, by rw [swp_size, q3]⟩
theorem parteq_loop (a : Nat) : ∀ (k i j : Nat) (d : Array Int), j + 3 - i ≤ k → 1 ≤ i → i ≤ j + 2 → j < d.size → a < d.size → OKA P d →
    lp (g_slices_partitionEqualCmpFunc_int_L2 (a : Int) cmp) ((i : Int), (j : Int), d.toList) = some (((partEqLoop (ltC c) a i j d).1 : Int), (partEqLoop (ltC c) a i j d).2.toList) ∧ OKA P (partEqLoop (ltC c) a i j d).2 ∧ (partEqLoop (ltC c) a i j d).2.size = d.size ∧ i ≤ (partEqLoop (ltC c) a i j d).1 ∧ (partEqLoop (ltC c) a i j d).1 ≤ max i (j + 1) := by
  intro k
  induction k with
  | zero =>
    intro i j d hk h1 h2 hj ha hd
    exact absurd hk (by omega)
  | succ k ih =>
    intro i j d hk h1 h2 hj ha hd
    have hz := hd.sz
    obtain ⟨u1, u2, u3⟩ := scanUp_lp (g_slices_partitionEqualCmpFunc_int_L0 (a : Int) cmp ((i : Int), (j : Int), d.toList)) (fun x => !ltC c d[a]! x) d j (fun m hm => by
        by_cases hmj : m ≤ j
        · have im : m < d.size := by omega
          simp only [g_slices_partitionEqualCmpFunc_int_L0, n_le, decide_eq_true hmj, cond_true, getA im, getA ha, Option.bind_some, hc _ _ (hd.el _ ha) (hd.el _ im), ltC, Bool.true_and, w64_succ (show m < j + 1 by omega) (by omega)]
          cases decide (c d[a]! d[m]! < 0) <;> rfl
        · simp only [g_slices_partitionEqualCmpFunc_int_L0, n_le, decide_eq_false hmj, cond_false, Bool.false_and]) (j + 2 - i) i (Nat.le_refl _) h2
    generalize hi2 : scanUp (fun x => !ltC c d[a]! x) d j i = i2 at u1 u2 u3
    obtain ⟨v1, v2⟩ := scanDown_lp (g_slices_partitionEqualCmpFunc_int_L1 (a : Int) cmp ((i : Int), (j : Int), d.toList) (i2 : Int)) (fun x => ltC c d[a]! x) d i2 (by omega) j (fun m hm => by
        have im : m < d.size := by omega
        by_cases hmi : i2 ≤ m
        · simp only [g_slices_partitionEqualCmpFunc_int_L1, n_le, decide_eq_true hmi, cond_true, getA im, getA ha, Option.bind_some, hc _ _ (hd.el _ ha) (hd.el _ im), ltC, Bool.true_and, w64_id (show -9223372036854775808 ≤ (m : Int) - 1 by omega) (by omega)]
          cases decide (c d[a]! d[m]! < 0) <;> rfl
        · simp only [g_slices_partitionEqualCmpFunc_int_L1, n_le, decide_eq_false hmi, cond_false, Bool.false_and])
    generalize hj2 : scanDown (fun x => ltC c d[a]! x) d i2 j = j2 at v1 v2
    rw [lp_eq]
    unfold partEqLoop
    simp only [g_slices_partitionEqualCmpFunc_int_L2, u1, v1, Option.bind_some, n_lt, hi2, hj2]
    by_cases hij : j2 < i2
    · rw [decide_eq_true hij, if_pos hij]
      exact ⟨rfl, hd, rfl, u2, u3⟩
    · have k1 : i2 < d.size := by omega
      have k2 : j2 < d.size := by omega
      obtain ⟨y, em⟩ := midA (i := i2) (x := d[j2]!) k2
      have e1 : w64 ((i2 : Int) + 1) = ((i2 + 1 : Nat) : Int) := w_nat (by omega) (by omega)
      have e2 : w64 ((j2 : Int) - 1) = ((j2 - 1 : Nat) : Int) := w_nat (by omega) (by omega)
      rw [decide_eq_false hij, if_neg hij, dif_pos (by omega)]
      simp only [cond_false, getA k1, getA k2, Option.bind_some, Int.toNat_natCast, em, swapA, e1, e2]
      obtain ⟨q1, q2, q3, q4, q5⟩ := ih (i2 + 1) (j2 - 1) (swp d i2 j2) (by omega) (by omega) (by omega) (by rw [swp_size]; omega) (by rw [swp_size]; exact ha) (hd.swp k1 k2)
      rw [swp_size] at q3
      exact ⟨q1, q2, q3, by omega, by omega⟩
theorem parteq_p (a b pivot : Nat) (d : Array Int) (h1 : a ≤ pivot) (h2 : pivot < b) (hb : b ≤ d.size) (hd : OKA P d) :
    g_slices_partitionEqualCmpFunc_int (a : Int) (b : Int) (pivot : Int) cmp d.toList = some (((partitionEqual (ltC c) d a b pivot).1 : Int), (partitionEqual (ltC c) d a b pivot).2.toList) ∧ OKA P (partitionEqual (ltC c) d a b pivot).2 ∧ (partitionEqual (ltC c) d a b pivot).2.size = d.size ∧ a < (partitionEqual (ltC c) d a b pivot).1 ∧ (partitionEqual (ltC c) d a b pivot).1 ≤ b := by
  have hz := hd.sz
  have ip : pivot < d.size := by omega
  have ia : a < d.size := by omega
  obtain ⟨y, em⟩ := midA (i := a) (x := d[pivot]!) ip
  have e1 : w64 ((a : Int) + 1) = ((a + 1 : Nat) : Int) := w_nat (by omega) (by omega)
  have e2 : w64 ((b : Int) - 1) = ((b - 1 : Nat) : Int) := w_nat (by omega) (by omega)
  obtain ⟨q1, q2, q3, q4, q5⟩ := parteq_loop hc a (b - 1 + 3 - (a + 1)) (a + 1) (b - 1) (swp d a pivot) (by omega) (by omega) (by omega) (by rw [swp_size]; omega) (by rw [swp_size]; omega) (hd.swp ia ip)
  rw [swp_size] at q3
  unfold g_slices_partitionEqualCmpFunc_int partitionEqual
  simp only [getA ip, getA ia, Option.bind_some, Int.toNat_natCast, em, e1, e2, swapA, q1]
  exact ⟨trivial, q2, q3, by omega, by omega⟩
end
end Go.Proofs.YtakebhleglnpjaaDoor

namespace Go.Proofs.YtakebhleglnpjaaDoor
open Go Go.Proofs.YtakebhleglnpjaaDoorE Go.Sort
set_option linter.unusedVariables false
set_option linter.unusedSimpArgs false
theorem l2_eq : g_slices_partialInsertionSortCmpFunc_int_L2_2 = g_slices_partialInsertionSortCmpFunc_int_L2 := rfl
def hintI : Hint → Int
  | .unknown => 0
  | .increasing => 1
  | .decreasing => 2
theorem hint_p (p : Int × Int) (n : Nat) (x : Int) (h : p.2 = (n : Int)) (hx : p.1 = x) : (bif p.2 == 0 then some (p.1, (1 : Int)) else bif p.2 == 12 then some (p.1, 2) else some (p.1, 0)) = some (x, hintI (if n = 0 then Hint.increasing else if n = 12 then .decreasing else .unknown)) := by
  rw [h, hx]
  by_cases h0 : n = 0
  · subst h0; rfl
  · by_cases h1 : n = 12
    · subst h1; rfl
    · rw [show ((n : Int) == 0) = false by simpa using h0, show ((n : Int) == 12) = false by simp; omega, if_neg h0, if_neg h1]
      rfl
section
variable {cmp : Int → Int → Option Int} {c : Int → Int → Int} {P : Int → Prop} (hc : CmpOK cmp c P)
include hc
theorem shd_p : ∀ (j : Nat) (d : Array Int), OKA P d → j < d.size → lp (g_slices_partialInsertionSortCmpFunc_int_L1 cmp) ((j : Int), d.toList) = some (shiftDown (ltC c) j d).toList ∧ OKA P (shiftDown (ltC c) j d) ∧ (shiftDown (ltC c) j d).size = d.size
  | 0, d, hd, hj => by
    rw [lp_eq]
    simp only [g_slices_partialInsertionSortCmpFunc_int_L1, decide_eq_false (show ¬ ((1 : Int) ≤ ((0 : Nat) : Int)) by omega), cond_false]
    exact ⟨rfl, hd, rfl⟩
  | j + 1, d, hd, hj => by
    have hj' : j < d.size := by omega
    have hz := hd.sz
    rw [lp_eq]
    have e2 : w64 (((j + 1 : Nat) : Int) - 1) = (j : Int) := w_nat (by omega) (by omega)
    have e3 := hc _ _ (hd.el (j + 1) hj) (hd.el j hj')
    unfold shiftDown
    by_cases h2 : c d[j + 1]! d[j]! < 0
    · obtain ⟨y, e5⟩ := midA (i := j + 1) (x := d[j]!) hj'
      simp only [g_slices_partialInsertionSortCmpFunc_int_L1, decide_eq_true (show (1 : Int) ≤ ((j + 1 : Nat) : Int) by omega), cond_true, getA hj, e2, getA hj', Option.bind_some, e3, decide_eq_true h2, Int.toNat_natCast, e5, swapA]
      rw [if_neg (by simp [h2, ltC])]
      have ih := shd_p j (swp d (j + 1) j) (hd.swp hj hj') (by rw [swp_size]; omega)
      rw [swp_size] at ih
      exact ih
    · simp only [g_slices_partialInsertionSortCmpFunc_int_L1, decide_eq_true (show (1 : Int) ≤ ((j + 1 : Nat) : Int) by omega), cond_true, getA hj, e2, getA hj', Option.bind_some, e3, decide_eq_false h2, cond_false]
      rw [if_pos (by simp [h2, ltC])]
      exact ⟨rfl, hd, rfl⟩
theorem shu_p (b : Nat) : ∀ (k j : Nat) (d : Array Int), b - j ≤ k → 1 ≤ j → b ≤ d.size → OKA P d → lp (g_slices_partialInsertionSortCmpFunc_int_L2 (b : Int) cmp) ((j : Int), d.toList) = some (shiftUp (ltC c) b j d).toList ∧ OKA P (shiftUp (ltC c) b j d) ∧ (shiftUp (ltC c) b j d).size = d.size := by
  intro k
  induction k with
  | zero =>
    intro j d hk hj hb hd
    rw [lp_eq]
    unfold shiftUp
    simp only [g_slices_partialInsertionSortCmpFunc_int_L2, n_lt, decide_eq_false (show ¬ j < b by omega), cond_false]
    rw [if_neg (by omega)]
    exact ⟨rfl, hd, rfl⟩
  | succ k ih =>
    intro j d hk hj hb hd
    have hz := hd.sz
    rw [lp_eq]
    unfold shiftUp
    by_cases h1 : j < b
    · have i1 : j < d.size := by omega
      have i2 : j - 1 < d.size := by omega
      have e2 : w64 ((j : Int) - 1) = ((j - 1 : Nat) : Int) := w_nat (by omega) (by omega)
      have e3 := hc _ _ (hd.el j i1) (hd.el (j - 1) i2)
      rw [if_pos h1]
      by_cases h2 : c d[j]! d[j - 1]! < 0
      · obtain ⟨y, e5⟩ := midA (i := j) (x := d[j - 1]!) i2
        simp only [g_slices_partialInsertionSortCmpFunc_int_L2, n_lt, decide_eq_true h1, cond_true, getA i1, e2, getA i2, Option.bind_some, e3, decide_eq_true h2, Int.toNat_natCast, e5, swapA, w64_succ h1 (by omega)]
        rw [if_neg (by simp [h2, ltC])]
        have := ih (j + 1) (swp d j (j - 1)) (by omega) (by omega) (by rw [swp_size]; exact hb) (hd.swp i1 i2)
        rw [swp_size] at this
        exact this
      · simp only [g_slices_partialInsertionSortCmpFunc_int_L2, n_lt, decide_eq_true h1, cond_true, getA i1, e2, getA i2, Option.bind_some, e3, decide_eq_false h2, cond_false]
        rw [if_pos (by simp [h2, ltC])]
        exact ⟨rfl, hd, rfl⟩
    · simp only [g_slices_partialInsertionSortCmpFunc_int_L2, n_lt, decide_eq_false h1, cond_false]
      rw [if_neg h1]
      exact ⟨rfl, hd, rfl⟩
theorem sorted_p (b : Nat) (z : Int) (d : Array Int) (hb : b ≤ d.size) (hd : OKA P d) (y1 y2 : Int) : ∀ (k i : Nat), b - i ≤ k → 1 ≤ i → i ≤ b → lp (g_slices_partialInsertionSortCmpFunc_int_L0 (b : Int) cmp (y1, y2, d.toList)) (i : Int) = some ((scanSorted (ltC c) d b i : Nat) : Int) ∧ i ≤ scanSorted (ltC c) d b i ∧ scanSorted (ltC c) d b i ≤ b := by
  have hz := hd.sz
  intro k
  induction k with
  | zero =>
    intro i hk hi hib
    rw [lp_eq]
    unfold scanSorted
    simp only [g_slices_partialInsertionSortCmpFunc_int_L0, n_lt, decide_eq_false (show ¬ i < b by omega), cond_false]
    rw [if_neg (by simp [show ¬ i < b by omega])]
    exact ⟨rfl, Nat.le_refl _, hib⟩
  | succ k ih =>
    intro i hk hi hib
    rw [lp_eq]
    unfold scanSorted
    by_cases h1 : i < b
    · have i1 : i < d.size := by omega
      have i2 : i - 1 < d.size := by omega
      have e2 : w64 ((i : Int) - 1) = ((i - 1 : Nat) : Int) := w_nat (by omega) (by omega)
      have e3 := hc _ _ (hd.el i i1) (hd.el (i - 1) i2)
      by_cases h2 : c d[i]! d[i - 1]! < 0
      · simp only [g_slices_partialInsertionSortCmpFunc_int_L0, n_lt, decide_eq_true h1, cond_true, getA i1, e2, getA i2, Option.bind_some, e3, decide_eq_true h2]
        rw [if_neg (by simp [h2, ltC])]
        exact ⟨rfl, Nat.le_refl _, hib⟩
      · simp only [g_slices_partialInsertionSortCmpFunc_int_L0, n_lt, decide_eq_true h1, cond_true, getA i1, e2, getA i2, Option.bind_some, e3, decide_eq_false h2, cond_false, w64_succ h1 (by omega)]
        rw [if_pos (by simp [h1, h2, ltC])]
        obtain ⟨a1, a2, a3⟩ := ih (i + 1) (by omega) (by omega) (by omega)
        exact ⟨a1, by omega, a3⟩
    · simp only [g_slices_partialInsertionSortCmpFunc_int_L0, n_lt, decide_eq_false h1, cond_false]
      rw [if_neg (by simp [h1])]
      exact ⟨rfl, Nat.le_refl _, hib⟩
theorem pis_lp (a b : Nat) : ∀ (s i : Nat) (d : Array Int), s ≤ 5 → a < i → i ≤ b → b ≤ d.size → OKA P d →
    ∃ r, lp (g_slices_partialInsertionSortCmpFunc_int_L3 (a : Int) (b : Int) cmp) ((i : Int), ((5 - s : Nat) : Int), d.toList) = some r ∧ (match r with | .inl l => l = (partialIns (ltC c) a b s i d).1.toList ∧ (partialIns (ltC c) a b s i d).2 = true | .inr (.inl l) => l = (partialIns (ltC c) a b s i d).1.toList ∧ (partialIns (ltC c) a b s i d).2 = false | .inr (.inr l) => l = (partialIns (ltC c) a b s i d).1.toList ∧ (partialIns (ltC c) a b s i d).2 = false) ∧
      OKA P (partialIns (ltC c) a b s i d).1 ∧ (partialIns (ltC c) a b s i d).1.size = d.size
  | 0, i, d, hs, ha, hi, hb, hd => by
    rw [lp_eq]
    simp only [g_slices_partialInsertionSortCmpFunc_int_L3, decide_eq_false (show ¬ (((5 - 0 : Nat) : Int) < 5) by omega), cond_false]
    exact ⟨_, rfl, by simp [partialIns], by first | exact hd | (simpa [partialIns] using hd), by first | rfl | simp [partialIns]⟩
  | s + 1, i, d, hs, ha, hi, hb, hd => by
    have hz := hd.sz
    obtain ⟨u1, u2, u3⟩ := sorted_p hc b 0 d hb hd (i : Int) ((5 - (s + 1) : Nat) : Int) (b - i) i (Nat.le_refl _) (by omega) hi
    rw [lp_eq]
    unfold partialIns
    generalize hi2 : scanSorted (ltC c) d b i = i2 at u1 u2 u3 ⊢
    simp only [g_slices_partialInsertionSortCmpFunc_int_L3, decide_eq_true (show (((5 - (s + 1) : Nat) : Int) < 5) by omega), cond_true, u1, Option.bind_some]
    by_cases h1 : i2 = b
    · rw [show ((i2 : Int) == (b : Int)) = true by simp [h1], if_pos h1]
      exact ⟨_, rfl, by simp [partialIns], by first | exact hd | (simpa [partialIns] using hd), by first | rfl | simp [partialIns]⟩
    · have e1 : w64 ((b : Int) - (a : Int)) = ((b - a : Nat) : Int) := w_nat (by omega) (by omega)
      rw [show ((i2 : Int) == (b : Int)) = false by simpa using (show ¬ (i2 : Int) = (b : Int) by omega), if_neg h1]
      by_cases h2 : b - a < 50
      · rw [if_pos h2]
        simp only [cond_false, e1, decide_eq_true (show ((b - a : Nat) : Int) < 50 by omega), cond_true]
        exact ⟨_, rfl, by simp [partialIns], by first | exact hd | (simpa [partialIns] using hd), by first | rfl | simp [partialIns]⟩
      · rw [if_neg h2]
        have i1 : i2 < d.size := by omega
        have i3 : i2 - 1 < d.size := by omega
        have e2 : w64 ((i2 : Int) - 1) = ((i2 - 1 : Nat) : Int) := w_nat (by omega) (by omega)
        have e3 : w64 ((i2 : Int) - (a : Int)) = ((i2 - a : Nat) : Int) := w_nat (by omega) (by omega)
        have e4 : w64 ((b : Int) - (i2 : Int)) = ((b - i2 : Nat) : Int) := w_nat (by omega) (by omega)
        have e5 : w64 ((i2 : Int) + 1) = ((i2 + 1 : Nat) : Int) := w_nat (by omega) (by omega)
        have e6 : w64 (((5 - (s + 1) : Nat) : Int) + 1) = ((5 - s : Nat) : Int) := w_nat (by omega) (by omega)
        obtain ⟨y, em⟩ := midA (i := i2) (x := d[i2 - 1]!) i3
        have hd2 := hd.swp i1 i3
        simp only [cond_false, e1, decide_eq_false (show ¬ ((b - a : Nat) : Int) < 50 by omega), e2, getA i1, getA i3, Option.bind_some, Int.toNat_natCast, em, swapA, e3, e4, e5, e6, l2_eq]
        have n2 : ∀ n : Nat, decide ((2 : Int) ≤ (n : Int)) = decide (n ≥ 2) := fun n => decide_eq_decide.2 (by omega)
        rw [n2, n2]
        have go : ∀ d' : Array Int, OKA P d' → d'.size = d.size → ∃ r, lp (g_slices_partialInsertionSortCmpFunc_int_L3 (a : Int) (b : Int) cmp) ((i2 : Int), ((5 - s : Nat) : Int), d'.toList) = some r ∧ (match r with | .inl l => l = (partialIns (ltC c) a b s i2 d').1.toList ∧ (partialIns (ltC c) a b s i2 d').2 = true | .inr (.inl l) => l = (partialIns (ltC c) a b s i2 d').1.toList ∧ (partialIns (ltC c) a b s i2 d').2 = false | .inr (.inr l) => l = (partialIns (ltC c) a b s i2 d').1.toList ∧ (partialIns (ltC c) a b s i2 d').2 = false) ∧
            OKA P (partialIns (ltC c) a b s i2 d').1 ∧ (partialIns (ltC c) a b s i2 d').1.size = d.size := fun d' h h' => by
          have := pis_lp a b s i2 d' (by omega) (by omega) u3 (by omega) h
          rw [h'] at this
          exact this
        by_cases h3 : i2 - a ≥ 2
        · obtain ⟨v1, v2, v3⟩ := shd_p hc (i2 - 1) (swp d i2 (i2 - 1)) hd2 (by rw [swp_size]; exact i3)
          rw [swp_size] at v3
          rw [decide_eq_true h3, if_pos h3]
          simp only [cond_true, v1, Option.bind_some]
          by_cases h4 : b - i2 ≥ 2
          · obtain ⟨w1, w2, w3⟩ := shu_p hc b (b - (i2 + 1)) (i2 + 1) (shiftDown (ltC c) (i2 - 1) (swp d i2 (i2 - 1))) (Nat.le_refl _) (by omega) (by omega) v2
            rw [decide_eq_true h4, if_pos h4]
            simp only [cond_true, w1, Option.bind_some]
            exact go _ w2 (by omega)
          · rw [decide_eq_false h4, if_neg h4]
            exact go _ v2 v3
        · rw [decide_eq_false h3, if_neg h3]
          simp only [cond_false]
          by_cases h4 : b - i2 ≥ 2
          · obtain ⟨w1, w2, w3⟩ := shu_p hc b (b - (i2 + 1)) (i2 + 1) (swp d i2 (i2 - 1)) (Nat.le_refl _) (by omega) (by rw [swp_size]; omega) hd2
            rw [swp_size] at w3
            rw [decide_eq_true h4, if_pos h4]
            simp only [cond_true, w1, Option.bind_some]
            exact go _ w2 w3
          · rw [decide_eq_false h4, if_neg h4]
            exact go _ hd2 (swp_size _ _ _)
theorem pis_p (a b : Nat) (d : Array Int) (h1 : a < b) (hb : b ≤ d.size) (hd : OKA P d) :
    g_slices_partialInsertionSortCmpFunc_int (a : Int) (b : Int) cmp d.toList = some (bif (partialInsertionSort (ltC c) d a b).2 then .inl (partialInsertionSort (ltC c) d a b).1.toList else .inr (partialInsertionSort (ltC c) d a b).1.toList) ∧ OKA P (partialInsertionSort (ltC c) d a b).1 ∧ (partialInsertionSort (ltC c) d a b).1.size = d.size := by
  have hz := hd.sz
  obtain ⟨r, e, h2, h3⟩ := pis_lp hc a b 5 (a + 1) d (Nat.le_refl _) (by omega) (by omega) hb hd
  unfold g_slices_partialInsertionSortCmpFunc_int partialInsertionSort
  have e0 : ((5 - 5 : Nat) : Int) = 0 := rfl
  rw [e0] at e
  rw [w_nat (n := a + 1) (by omega) (by omega), e]
  refine ⟨?_, h3⟩
  rcases r with l | l | l
  · obtain ⟨rfl, h⟩ := h2; rw [h]; rfl
  · obtain ⟨rfl, h⟩ := h2; rw [h]; rfl
  · obtain ⟨rfl, h⟩ := h2; rw [h]; rfl
theorem ord_p (d : Array Int) (hd : OKA P d) (a b n : Nat) (ha : a < d.size) (hb : b < d.size) (hn : n < 1000) : g_slices_order2CmpFunc_int (a : Int) (b : Int) cmp d.toList (n : Int) = some (((order2 (ltC c) d a b n).1 : Int), ((order2 (ltC c) d a b n).2.1 : Int), ((order2 (ltC c) d a b n).2.2 : Int)) ∧
    (order2 (ltC c) d a b n).1 < d.size ∧ (order2 (ltC c) d a b n).2.1 < d.size ∧ (order2 (ltC c) d a b n).2.2 ≤ n + 1 := by
  unfold g_slices_order2CmpFunc_int order2
  simp only [getA ha, getA hb, Option.bind_some, hc _ _ (hd.el b hb) (hd.el a ha)]
  by_cases h : c d[b]! d[a]! < 0
  · rw [if_pos (by simp [h, ltC]), decide_eq_true h, w_nat (n := n + 1) (by omega) (by omega)]
    exact ⟨rfl, hb, ha, Nat.le_refl _⟩
  · rw [if_neg (by simp [h, ltC]), decide_eq_false h]
    exact ⟨rfl, ha, hb, Nat.le_succ _⟩
theorem med_p (d : Array Int) (hd : OKA P d) (i j k n : Nat) (hi : i < d.size) (hj : j < d.size) (hk : k < d.size) (hn : n < 990) : g_slices_medianCmpFunc_int (i : Int) (j : Int) (k : Int) cmp d.toList (n : Int) = some (((median (ltC c) d i j k n).1 : Int), ((median (ltC c) d i j k n).2 : Int)) ∧ (median (ltC c) d i j k n).1 < d.size ∧ (median (ltC c) d i j k n).2 ≤ n + 3 := by
  obtain ⟨a1, a2, a3, a4⟩ := ord_p hc d hd i j n hi hj (by omega)
  obtain ⟨b1, b2, b3, b4⟩ := ord_p hc d hd (order2 (ltC c) d i j n).2.1 k (order2 (ltC c) d i j n).2.2 a3 hk (by omega)
  obtain ⟨c1, c2, c3, c4⟩ := ord_p hc d hd (order2 (ltC c) d i j n).1 (order2 (ltC c) d (order2 (ltC c) d i j n).2.1 k (order2 (ltC c) d i j n).2.2).1 (order2 (ltC c) d (order2 (ltC c) d i j n).2.1 k (order2 (ltC c) d i j n).2.2).2.2 a2 b2 (by omega)
  unfold g_slices_medianCmpFunc_int median
  simp only [a1, b1, c1, Option.bind_some]
  exact ⟨trivial, c3, by omega⟩
theorem adj_p (d : Array Int) (hd : OKA P d) (i n : Nat) (h1 : 1 ≤ i) (hi : i + 1 < d.size) (hn : n < 990) : g_slices_medianAdjacentCmpFunc_int (i : Int) cmp d.toList (n : Int) = some (((medianAdjacent (ltC c) d i n).1 : Int), ((medianAdjacent (ltC c) d i n).2 : Int)) ∧ (medianAdjacent (ltC c) d i n).1 < d.size ∧ (medianAdjacent (ltC c) d i n).2 ≤ n + 3 := by
  have hz := hd.sz
  obtain ⟨a1, a2⟩ := med_p hc d hd (i - 1) i (i + 1) n (by omega) (by omega) hi hn
  unfold g_slices_medianAdjacentCmpFunc_int medianAdjacent
  rw [w_nat (n := i - 1) (by omega) (by omega), w_nat (n := i + 1) (by omega) (by omega), a1]
  exact ⟨rfl, a2⟩
theorem piv_p (a b : Nat) (d : Array Int) (hab : a < b) (hb : b ≤ d.size) (hd : OKA P d) : g_slices_choosePivotCmpFunc_int (a : Int) (b : Int) cmp d.toList = some (((choosePivot (ltC c) d a b).1 : Int), hintI (choosePivot (ltC c) d a b).2) := by
  have hz := hd.sz
  have e1 : w64 ((b : Int) - (a : Int)) = ((b - a : Nat) : Int) := w_nat (by omega) (by omega)
  have e2 : w64 (Int.tdiv ((b - a : Nat) : Int) 4) = (((b - a) / 4 : Nat) : Int) := by
    rw [Int.tdiv_eq_ediv_of_nonneg (by omega)]
    exact w_nat (by omega) (by omega)
  have q : ∀ m : Nat, m ≤ 3 → w64 ((((b - a) / 4 : Nat) : Int) * (m : Int)) = (((b - a) / 4 * m : Nat) : Int) := fun m hm => by
    refine w_nat (by rw [Int.natCast_mul]) ?_
    have : (b - a) / 4 * m ≤ (b - a) / 4 * 3 := Nat.mul_le_mul_left _ hm
    omega
  have q1 := q 1 (by omega)
  have q2 := q 2 (by omega)
  have q3 := q 3 (by omega)
  have p : ∀ m : Nat, m ≤ 3 → w64 ((a : Int) + (((b - a) / 4 * m : Nat) : Int)) = ((a + (b - a) / 4 * m : Nat) : Int) := fun m hm => by
    refine w_nat (by omega) ?_
    have : (b - a) / 4 * m ≤ (b - a) / 4 * 3 := Nat.mul_le_mul_left _ hm
    omega
  have p1 := p 1 (by omega)
  have p2 := p 2 (by omega)
  have p3 := p 3 (by omega)
  unfold g_slices_choosePivotCmpFunc_int choosePivot
  have q1' : w64 ((((b - a) / 4 : Nat) : Int) * 1) = _ := q1
  have q2' : w64 ((((b - a) / 4 : Nat) : Int) * 2) = _ := q2
  have q3' : w64 ((((b - a) / 4 : Nat) : Int) * 3) = _ := q3
  simp only [e1, e2, q1', q2', q3', p1, p2, p3]
  have z : ((0 : Nat) : Int) = 0 := rfl
  by_cases h8 : b - a ≥ 8
  · rw [decide_eq_true (show (8 : Int) ≤ ((b - a : Nat) : Int) by omega), if_pos h8]
    by_cases h50 : b - a ≥ 50
    · obtain ⟨m1, m2, m3⟩ := adj_p hc d hd (a + (b - a) / 4 * 1) 0 (by omega) (by omega) (by omega)
      obtain ⟨n1, n2, n3⟩ := adj_p hc d hd (a + (b - a) / 4 * 2) (medianAdjacent (ltC c) d (a + (b - a) / 4 * 1) 0).2 (by omega) (by omega) (by omega)
      obtain ⟨o1, o2, o3⟩ := adj_p hc d hd (a + (b - a) / 4 * 3) (medianAdjacent (ltC c) d (a + (b - a) / 4 * 2) (medianAdjacent (ltC c) d (a + (b - a) / 4 * 1) 0).2).2 (by omega) (by omega) (by omega)
      obtain ⟨r1, r2, r3⟩ := med_p hc d hd _ _ _ (medianAdjacent (ltC c) d (a + (b - a) / 4 * 3) (medianAdjacent (ltC c) d (a + (b - a) / 4 * 2) (medianAdjacent (ltC c) d (a + (b - a) / 4 * 1) 0).2).2).2 m2 n2 o2 (by omega)
      rw [z] at m1
      rw [decide_eq_true (show (50 : Int) ≤ ((b - a : Nat) : Int) by omega), if_pos h50]
      simp only [cond_true, m1, n1, o1, r1, Option.bind_some]
      exact hint_p (_, _) _ _ rfl rfl
    · obtain ⟨r1, r2, r3⟩ := med_p hc d hd (a + (b - a) / 4 * 1) (a + (b - a) / 4 * 2) (a + (b - a) / 4 * 3) 0 (by omega) (by omega) (by omega) (by omega)
      rw [z] at r1
      rw [decide_eq_false (show ¬ (50 : Int) ≤ ((b - a : Nat) : Int) by omega), if_neg h50]
      simp only [cond_true, cond_false, r1, Option.bind_some]
      exact hint_p (_, _) _ _ rfl rfl
  · rw [decide_eq_false (show ¬ (8 : Int) ≤ ((b - a : Nat) : Int) by omega), if_neg h8]
    rfl
end
theorem rev_lp {P : Int → Prop} : ∀ (k i j : Nat) (d : Array Int), j - i ≤ k → j < d.size ∨ j ≤ i → OKA P d → lp g_slices_reverseRangeCmpFunc_int_L0 ((i : Int), (j : Int), d.toList) = some (reverseLoop i j d).toList ∧ OKA P (reverseLoop i j d) ∧ (reverseLoop i j d).size = d.size := by
  intro k
  induction k with
  | zero =>
    intro i j d hk hj hd
    rw [lp_eq]
    unfold reverseLoop
    simp only [g_slices_reverseRangeCmpFunc_int_L0, n_lt, decide_eq_false (show ¬ i < j by omega), cond_false]
    rw [if_neg (by omega)]
    exact ⟨rfl, hd, rfl⟩
  | succ k ih =>
    intro i j d hk hj hd
    have hz := hd.sz
    rw [lp_eq]
    unfold reverseLoop
    by_cases h : i < j
    · have i1 : j < d.size := by omega
      have i2 : i < d.size := by omega
      obtain ⟨y, em⟩ := midA (i := i) (x := d[j]!) i1
      have e2 : w64 ((j : Int) - 1) = ((j - 1 : Nat) : Int) := w_nat (by omega) (by omega)
      simp only [g_slices_reverseRangeCmpFunc_int_L0, n_lt, decide_eq_true h, cond_true, getA i1, getA i2, Option.bind_some, Int.toNat_natCast, em, swapA, w64_succ h (by omega), e2]
      rw [if_pos h]
      have := ih (i + 1) (j - 1) (swp d i j) (by omega) (by rw [swp_size]; omega) (hd.swp i2 i1)
      rw [swp_size] at this
      exact this
    · simp only [g_slices_reverseRangeCmpFunc_int_L0, n_lt, decide_eq_false h, cond_false]
      rw [if_neg h]
      exact ⟨rfl, hd, rfl⟩
theorem rev_p {P : Int → Prop} (cmp : Int → Int → Option Int) (a b : Nat) (d : Array Int) (hab : a < b) (hb : b ≤ d.size) (hd : OKA P d) : g_slices_reverseRangeCmpFunc_int (a : Int) (b : Int) cmp d.toList = some (reverseRange d a b).toList ∧ OKA P (reverseRange d a b) ∧ (reverseRange d a b).size = d.size := by
  have hz := hd.sz
  obtain ⟨h1, h2⟩ := rev_lp (b - 1 - a) a (b - 1) d (Nat.le_refl _) (by omega) hd
  unfold g_slices_reverseRangeCmpFunc_int reverseRange
  rw [w_nat (n := b - 1) (by omega) (by omega)]
  simp only [h1, Option.bind_some]
  exact ⟨trivial, h2⟩
end Go.Proofs.YtakebhleglnpjaaDoor

namespace Go.Proofs.YtakebhleglnpjaaDoor
open Go Go.Proofs.YtakebhleglnpjaaDoorE Go.Sort
set_option linter.unusedVariables false
set_option linter.unusedSimpArgs false
theorem wrap_u64 (n : Int) : IntKind.u64.wrap n = n % 18446744073709551616 := by
  show (if (false && decide (n % 18446744073709551616 ≥ 9223372036854775808)) = true then n % 18446744073709551616 - 18446744073709551616 else n % 18446744073709551616) = _
  simp
theorem wrap_u64_nat {n : Nat} (h : n < 18446744073709551616) : IntKind.u64.wrap (n : Int) = (n : Int) := by rw [wrap_u64]; omega
def xorI (a b : Int) : Int := IntKind.u64.wrap (BitVec.ofInt IntKind.u64.bits a ^^^ BitVec.ofInt IntKind.u64.bits b).toNat
def andI (a b : Int) : Int := IntKind.u64.wrap (BitVec.ofInt IntKind.u64.bits a &&& BitVec.ofInt IntKind.u64.bits b).toNat
def xs (r : Int) : Int := xorI (xorI (xorI r (IntKind.u64.wrap (r * 2 ^ 13))) (Int.fdiv (xorI r (IntKind.u64.wrap (r * 2 ^ 13))) (2 ^ 7))) (IntKind.u64.wrap (xorI (xorI r (IntKind.u64.wrap (r * 2 ^ 13))) (Int.fdiv (xorI r (IntKind.u64.wrap (r * 2 ^ 13))) (2 ^ 7)) * 2 ^ 17))
theorem ofInt_u (u : UInt64) : BitVec.ofInt IntKind.u64.bits (u.toNat : Int) = u.toBitVec := by
  show BitVec.ofInt 64 (u.toNat : Int) = u.toBitVec
  rw [BitVec.ofInt_natCast]
  apply BitVec.eq_of_toNat_eq
  rw [BitVec.toNat_ofNat]
  exact Nat.mod_eq_of_lt u.toNat_lt
theorem xor_u (u v : UInt64) : xorI (u.toNat : Int) (v.toNat : Int) = ((u ^^^ v).toNat : Int) := by
  unfold xorI
  rw [ofInt_u, ofInt_u]
  exact wrap_u64_nat (u ^^^ v).toNat_lt
theorem shl_u (u : UInt64) (k : Nat) (v : UInt64) (hk : v.toNat % 64 = k) : IntKind.u64.wrap ((u.toNat : Int) * 2 ^ k) = ((u <<< v).toNat : Int) := by
  rw [wrap_u64, UInt64.toNat_shiftLeft, hk, Nat.shiftLeft_eq]
  have : ((2 : Int) ^ k) = ((2 ^ k : Nat) : Int) := by rw [Int.natCast_pow]; rfl
  rw [this]
  omega
theorem shr_u (u : UInt64) (k : Nat) (v : UInt64) (hk : v.toNat % 64 = k) : Int.fdiv (u.toNat : Int) (2 ^ k) = ((u >>> v).toNat : Int) := by
  have e : ((2 : Int) ^ k) = ((2 ^ k : Nat) : Int) := by rw [Int.natCast_pow]; rfl
  rw [UInt64.toNat_shiftRight, hk, Nat.shiftRight_eq_div_pow, e, Int.fdiv_eq_ediv_of_nonneg _ (Int.natCast_nonneg _)]
  exact (Int.natCast_ediv _ _).symm
theorem xs_u (u : UInt64) : xs (u.toNat : Int) = ((xorNext u).toNat : Int) := by
  unfold xs xorNext
  rw [shl_u u 13 13 rfl, xor_u, shr_u _ 7 7 rfl, xor_u, shl_u _ 17 17 rfl, xor_u]
theorem and_nat (u : UInt64) (m : Nat) (hm : m < 18446744073709551616) : andI (u.toNat : Int) (m : Int) = ((u.toNat &&& m : Nat) : Int) := by
  unfold andI
  rw [ofInt_u]
  have : BitVec.ofInt IntKind.u64.bits (m : Int) = BitVec.ofNat 64 m := BitVec.ofInt_natCast _ _
  rw [this]
  show IntKind.u64.wrap ((((u.toBitVec &&& BitVec.ofNat 64 m : BitVec 64)).toNat : Nat) : Int) = _
  rw [BitVec.toNat_and, BitVec.toNat_ofNat, Nat.mod_eq_of_lt hm]
  refine wrap_u64_nat (Nat.lt_of_le_of_lt Nat.and_le_left u.toNat_lt)
theorem len_table : ((List.range 1001).all fun n => (match g_math_bits_Len (IntKind.u64.wrap (n : Int)) with | some v => v == (bitsLen n : Int) | none => false) && ((match g_slices_nextPowerOfTwo (n : Int) with | some v => v == ((1 <<< bitsLen n : Nat) : Int) | none => false) && (decide (1 <<< bitsLen n ≤ 2 * n) || n == 0))) = true := by kernel_rfl
theorem len_p {n : Nat} (h : n ≤ 1000) : g_math_bits_Len (IntKind.u64.wrap (n : Int)) = some (bitsLen n : Int) ∧ g_slices_nextPowerOfTwo (n : Int) = some ((1 <<< bitsLen n : Nat) : Int) ∧ (0 < n → 1 <<< bitsLen n ≤ 2 * n) := by
  have := List.all_eq_true.1 len_table n (by simp; omega)
  simp only [Bool.and_eq_true, Bool.or_eq_true, decide_eq_true_eq, beq_iff_eq] at this
  obtain ⟨h1, h2, h3⟩ := this
  refine ⟨?_, ?_, fun h => by omega⟩
  · split at h1
    · rename_i v hv; rw [hv, eq_of_beq h1]
    · cases h1
  · split at h2
    · rename_i v hv; rw [hv, eq_of_beq h2]
    · cases h2
def bpRound (s : Int × List Int × Int) (o : Int) : Option ((Int × List Int × Int) ⊕ List Int) :=
  (getI s.2.1 o).bind fun x3 => (getI s.2.1 s.1).bind fun x4 => (getI (List.set s.2.1 s.1.toNat x3) o).bind fun _ => some (Sum.inl (w64 (s.1 + 1), List.set (List.set s.2.1 s.1.toNat x3) o.toNat x4, xs s.2.2))
theorem bp_eq (b c x0 : Int) (s : Int × List Int × Int) : g_slices_breakPatternsCmpFunc_int_L0 b c x0 s = (bif (decide (s.1 ≤ (w64 ((w64 (b + (w64 ((w64 (Int.tdiv (w64 (c - b)) 4)) * 2)))) + 1)))) then
    g_slices_xorshift_Next.bind fun _ => bif decide (w64 (c - b) ≤ w64 (andI (xs s.2.2) (IntKind.u64.wrap (x0 - 1)))) then bpRound s (w64 (b + w64 (w64 (andI (xs s.2.2) (IntKind.u64.wrap (x0 - 1))) - w64 (c - b)))) else bpRound s (w64 (b + w64 (andI (xs s.2.2) (IntKind.u64.wrap (x0 - 1)))))
  else some (.inr s.2.1)) := rfl
theorem bp_round {P : Int → Prop} (d : Array Int) (hd : OKA P d) (i o : Nat) (u : UInt64) (hi : i < d.size) (ho : o < d.size) : bpRound ((i : Int), d.toList, (u.toNat : Int)) (o : Int) = some (.inl (((i + 1 : Nat) : Int), (swp d i o).toList, ((xorNext u).toNat : Int))) := by
  have hz := hd.sz
  obtain ⟨y, em⟩ := midA (i := i) (x := d[o]!) ho
  unfold bpRound
  simp only [getA ho, getA hi, Option.bind_some, Int.toNat_natCast, em, swapA, xs_u, w64_succ hi (by omega)]
theorem bp_step {P : Int → Prop} (a b : Nat) (d : Array Int) (hd : OKA P d) (h8 : 8 ≤ b - a) (hb : b ≤ d.size) (i : Nat) (hi : i ≤ a + (b - a) / 4 * 2 + 1) (u : UInt64) :
    g_slices_breakPatternsCmpFunc_int_L0 (a : Int) (b : Int) ((1 <<< bitsLen (b - a) : Nat) : Int) ((i : Int), d.toList, (u.toNat : Int)) = some (.inl (((i + 1 : Nat) : Int), (breakStep a (b - a) (1 <<< bitsLen (b - a)) (u, d) i).2.toList, ((breakStep a (b - a) (1 <<< bitsLen (b - a)) (u, d) i).1.toNat : Int))) ∧
    OKA P (breakStep a (b - a) (1 <<< bitsLen (b - a)) (u, d) i).2 ∧ (breakStep a (b - a) (1 <<< bitsLen (b - a)) (u, d) i).2.size = d.size := by
  have hz := hd.sz
  obtain ⟨_, _, l3⟩ := len_p (show b - a ≤ 1000 by omega)
  have l4 := l3 (by omega)
  have l5 : 0 < 1 <<< bitsLen (b - a) := by rw [Nat.shiftLeft_eq, Nat.one_mul]; exact Nat.pow_pos (by omega)
  generalize hm : 1 <<< bitsLen (b - a) = m at *
  have e1 : w64 ((b : Int) - (a : Int)) = ((b - a : Nat) : Int) := w_nat (by omega) (by omega)
  have e2 : w64 (Int.tdiv ((b - a : Nat) : Int) 4) = (((b - a) / 4 : Nat) : Int) := by
    rw [Int.tdiv_eq_ediv_of_nonneg (by omega)]
    exact w_nat (by omega) (by omega)
  have e3 : w64 ((((b - a) / 4 : Nat) : Int) * 2) = (((b - a) / 4 * 2 : Nat) : Int) := w_nat (by omega) (by omega)
  have e4 : w64 ((a : Int) + (((b - a) / 4 * 2 : Nat) : Int)) = ((a + (b - a) / 4 * 2 : Nat) : Int) := w_nat (by omega) (by omega)
  have e5 : w64 (((a + (b - a) / 4 * 2 : Nat) : Int) + 1) = ((a + (b - a) / 4 * 2 + 1 : Nat) : Int) := w_nat (by omega) (by omega)
  have e6 : IntKind.u64.wrap ((m : Int) - 1) = ((m - 1 : Nat) : Int) := by
    rw [show (m : Int) - 1 = ((m - 1 : Nat) : Int) by omega]; exact wrap_u64_nat (by omega)
  have hand : (xorNext u).toNat &&& (m - 1) ≤ m - 1 := Nat.and_le_right
  have e7 : w64 (((xorNext u).toNat &&& (m - 1) : Nat) : Int) = (((xorNext u).toNat &&& (m - 1) : Nat) : Int) := w_nat rfl (by omega)
  have ii : i < d.size := by omega
  rw [bp_eq]
  unfold breakStep
  simp only [e1, e2, e3, e4, e5, n_le, decide_eq_true hi, cond_true, xs_u, e6, and_nat _ (m - 1) (by omega), e7]
  generalize (xorNext u).toNat &&& (m - 1) = o at *
  show (bif decide (b - a ≤ o) then _ else _) = _ ∧ _
  by_cases ho : b - a ≤ o
  · have e8 : w64 ((o : Int) - ((b - a : Nat) : Int)) = ((o - (b - a) : Nat) : Int) := w_nat (by omega) (by omega)
    have e9 : w64 ((a : Int) + ((o - (b - a) : Nat) : Int)) = ((a + (o - (b - a)) : Nat) : Int) := w_nat (by omega) (by omega)
    rw [decide_eq_true ho, if_pos ho]
    simp only [cond_true, e8, e9]
    exact ⟨bp_round d hd i _ u ii (by omega), hd.swp ii (by omega), swp_size _ _ _⟩
  · have e9 : w64 ((a : Int) + (o : Int)) = ((a + o : Nat) : Int) := w_nat (by omega) (by omega)
    rw [decide_eq_false ho, if_neg ho]
    simp only [cond_false, e9]
    exact ⟨bp_round d hd i _ u ii (by omega), hd.swp ii (by omega), swp_size _ _ _⟩
theorem bp_p {P : Int → Prop} (cmp : Int → Int → Option Int) (a b : Nat) (d : Array Int) (hab : a ≤ b) (hb : b ≤ d.size) (hd : OKA P d) : g_slices_breakPatternsCmpFunc_int (a : Int) (b : Int) cmp d.toList = some (breakPatterns d a b).toList ∧ OKA P (breakPatterns d a b) ∧ (breakPatterns d a b).size = d.size := by
  have hz := hd.sz
  have e1 : w64 ((b : Int) - (a : Int)) = ((b - a : Nat) : Int) := w_nat (by omega) (by omega)
  unfold g_slices_breakPatternsCmpFunc_int breakPatterns
  simp only [e1]
  by_cases h8 : 8 ≤ b - a
  · obtain ⟨_, l2, _⟩ := len_p (show b - a ≤ 1000 by omega)
    have e2 : w64 (Int.tdiv ((b - a : Nat) : Int) 4) = (((b - a) / 4 : Nat) : Int) := by
      rw [Int.tdiv_eq_ediv_of_nonneg (by omega)]
      exact w_nat (by omega) (by omega)
    have e3 : w64 ((((b - a) / 4 : Nat) : Int) * 2) = (((b - a) / 4 * 2 : Nat) : Int) := w_nat (by omega) (by omega)
    have e4 : w64 ((a : Int) + (((b - a) / 4 * 2 : Nat) : Int)) = ((a + (b - a) / 4 * 2 : Nat) : Int) := w_nat (by omega) (by omega)
    have e5 : w64 (((a + (b - a) / 4 * 2 : Nat) : Int) - 1) = ((a + (b - a) / 4 * 2 - 1 : Nat) : Int) := w_nat (by omega) (by omega)
    have e6 : IntKind.u64.wrap ((b - a : Nat) : Int) = ((UInt64.ofNat (b - a)).toNat : Int) := by
      rw [wrap_u64_nat (by omega), UInt64.toNat_ofNat_of_lt' (by show b - a < 2 ^ 64; omega)]
    rw [decide_eq_true (show (8 : Int) ≤ ((b - a : Nat) : Int) by omega), if_pos h8]
    simp only [cond_true, l2, Option.bind_some, e2, e3, e4, e5, e6]
    generalize hi0 : a + (b - a) / 4 * 2 - 1 = i0
    obtain ⟨p1, p2, p3⟩ := bp_step a b d hd h8 hb i0 (by omega) (UInt64.ofNat (b - a))
    generalize breakStep a (b - a) (1 <<< bitsLen (b - a)) (UInt64.ofNat (b - a), d) i0 = r1 at *
    obtain ⟨q1, q2, q3⟩ := bp_step a b r1.2 p2 h8 (by omega) (i0 + 1) (by omega) r1.1
    generalize breakStep a (b - a) (1 <<< bitsLen (b - a)) (r1.1, r1.2) (i0 + 1) = r2 at *
    obtain ⟨s1, s2, s3⟩ := bp_step a b r2.2 q2 h8 (by omega) (i0 + 2) (by omega) r2.1
    generalize breakStep a (b - a) (1 <<< bitsLen (b - a)) (r2.1, r2.2) (i0 + 2) = r3 at *
    rw [lp_again p1, lp_again q1, lp_again s1, lp_done (r := r3.2.toList)]
    · exact ⟨rfl, s2, by omega⟩
    · rw [bp_eq]
      have e7 : w64 (((a + (b - a) / 4 * 2 : Nat) : Int) + 1) = ((a + (b - a) / 4 * 2 + 1 : Nat) : Int) := w_nat (by omega) (by omega)
      simp only [e1, e2, e3, e4, e7, n_le, decide_eq_false (show ¬ i0 + 2 + 1 ≤ a + (b - a) / 4 * 2 + 1 by omega), cond_false]
  · rw [decide_eq_false (show ¬ (8 : Int) ≤ ((b - a : Nat) : Int) by omega), if_neg h8]
    exact ⟨rfl, hd, rfl⟩
end Go.Proofs.YtakebhleglnpjaaDoor

namespace Go.Proofs.YtakebhleglnpjaaDoor
open Go Go.Proofs.YtakebhleglnpjaaDoorE Go.Sort
set_option linter.unusedVariables false
set_option linter.unusedSimpArgs false
abbrev PdqS := Int × Int × Int × Bool × Bool × List Int
noncomputable def partF (e : Int → Int → Option Int) (rc : Int → Int → Int → (Int → Int → Option Int) → List Int → Option (List Int)) (a b limit pivot : Int) (x5 : List Int) : Option (PdqS ⊕ List Int) :=
  (g_slices_partitionCmpFunc_int a b pivot e x5).bind fun x9 =>
  match x9 with
  | .inl x9 =>
    bif decide (w64 (x9.1 - a) < w64 (b - x9.1)) then
      bif decide (w64 (Int.tdiv (w64 (b - a)) 8) ≤ w64 (x9.1 - a)) then (rc a x9.1 limit e x9.2).bind fun x10 => some (.inl (w64 (x9.1 + 1), b, limit, true, true, x10))
      else (rc a x9.1 limit e x9.2).bind fun x10 => some (.inl (w64 (x9.1 + 1), b, limit, false, true, x10))
    else
      bif decide (w64 (Int.tdiv (w64 (b - a)) 8) ≤ w64 (b - x9.1)) then (rc (w64 (x9.1 + 1)) b limit e x9.2).bind fun x10 => some (.inl (a, x9.1, limit, true, true, x10))
      else (rc (w64 (x9.1 + 1)) b limit e x9.2).bind fun x10 => some (.inl (a, x9.1, limit, false, true, x10))
  | .inr x9 =>
    bif decide (w64 (x9.1 - a) < w64 (b - x9.1)) then
      bif decide (w64 (Int.tdiv (w64 (b - a)) 8) ≤ w64 (x9.1 - a)) then (rc a x9.1 limit e x9.2).bind fun x10 => some (.inl (w64 (x9.1 + 1), b, limit, true, false, x10))
      else (rc a x9.1 limit e x9.2).bind fun x10 => some (.inl (w64 (x9.1 + 1), b, limit, false, false, x10))
    else
      bif decide (w64 (Int.tdiv (w64 (b - a)) 8) ≤ w64 (b - x9.1)) then (rc (w64 (x9.1 + 1)) b limit e x9.2).bind fun x10 => some (.inl (a, x9.1, limit, true, false, x10))
      else (rc (w64 (x9.1 + 1)) b limit e x9.2).bind fun x10 => some (.inl (a, x9.1, limit, false, false, x10))
noncomputable def tailF (e : Int → Int → Option Int) (rc : Int → Int → Int → (Int → Int → Option Int) → List Int → Option (List Int)) (a b limit pivot : Int) (wb wp : Bool) (x5 : List Int) : Option (PdqS ⊕ List Int) :=
  bif decide (0 < a) then
    (getI x5 (w64 (a - 1))).bind fun x6 => (getI x5 pivot).bind fun x7 => (e x6 x7).bind fun x8 =>
    bif decide (x8 < 0) then partF e rc a b limit pivot x5
    else (g_slices_partitionEqualCmpFunc_int a b pivot e x5).bind fun x18 => some (.inl (x18.1, b, limit, wb, wp, x18.2))
  else partF e rc a b limit pivot x5
theorem pdq_L0_eq (e : Int → Int → Option Int) (rc : Int → Int → Int → (Int → Int → Option Int) → List Int → Option (List Int)) (a b limit : Int) (wb wp : Bool) (l : List Int) : g_slices_pdqsortCmpFunc_int_L0 e rc (a, b, limit, wb, wp, l) =
    (bif decide (w64 (b - a) ≤ 12) then (g_slices_insertionSortCmpFunc_int a b e l).bind fun x => some (.inr x)
    else bif limit == 0 then (g_slices_heapSortCmpFunc_int a b e l).bind fun x => some (.inr x)
    else (bif wb then bif wp then
        (g_slices_choosePivotCmpFunc_int a b e l).bind fun x3 =>
        bif x3.2 == 2 then (g_slices_reverseRangeCmpFunc_int a b e l).bind fun x4 => (g_slices_partialInsertionSortCmpFunc_int a b e x4).bind fun x5 => (match x5 with | .inl x5 => some (.inr x5) | .inr x5 => tailF e rc a b limit (w64 (w64 (b - 1) - w64 (x3.1 - a))) true true x5)
        else bif x3.2 == 1 then (g_slices_partialInsertionSortCmpFunc_int a b e l).bind fun x5 => (match x5 with | .inl x5 => some (.inr x5) | .inr x5 => tailF e rc a b limit x3.1 true true x5)
        else tailF e rc a b limit x3.1 true true l
      else
        (g_slices_choosePivotCmpFunc_int a b e l).bind fun x3 =>
        bif x3.2 == 2 then (g_slices_reverseRangeCmpFunc_int a b e l).bind fun x4 => tailF e rc a b limit (w64 (w64 (b - 1) - w64 (x3.1 - a))) true false x4
        else tailF e rc a b limit x3.1 true false l
    else
      (g_slices_breakPatternsCmpFunc_int a b e l).bind fun x0 => (g_slices_choosePivotCmpFunc_int a b e x0).bind fun x3 =>
        bif x3.2 == 2 then (g_slices_reverseRangeCmpFunc_int a b e x0).bind fun x4 => tailF e rc a b (w64 (limit - 1)) (w64 (w64 (b - 1) - w64 (x3.1 - a))) false wp x4
        else tailF e rc a b (w64 (limit - 1)) x3.1 false wp x0)) := by
  cases wb <;> cases wp <;> rfl
end Go.Proofs.YtakebhleglnpjaaDoor

namespace Go.Proofs.YtakebhleglnpjaaDoor
open Go Go.Proofs.YtakebhleglnpjaaDoorE Go.Sort
set_option linter.unusedVariables false
set_option linter.unusedSimpArgs false
noncomputable def after (e : Int → Int → Option Int) (rc : Int → Int → Int → (Int → Int → Option Int) → List Int → Option (List Int)) (x : Option (PdqS ⊕ List Int)) : Option (List Int) :=
  match x with | some (.inl s') => lp (g_slices_pdqsortCmpFunc_int_L0 e rc) s' | some (.inr r) => some r | none => none
theorem lp_after (e : Int → Int → Option Int) (rc : Int → Int → Int → (Int → Int → Option Int) → List Int → Option (List Int)) (s : PdqS) : lp (g_slices_pdqsortCmpFunc_int_L0 e rc) s = after e rc (g_slices_pdqsortCmpFunc_int_L0 e rc s) := by
  rw [lp_eq]
  unfold after
  cases g_slices_pdqsortCmpFunc_int_L0 e rc s with
  | none => rfl
  | some t => cases t <;> rfl
def Res (P : Int → Prop) (r : Option (List Int)) (X : Array Int) (n : Nat) : Prop := r = some X.toList ∧ OKA P X ∧ X.size = n
section
variable {cmp : Int → Int → Option Int} {c : Int → Int → Int} {P : Int → Prop} (hc : CmpOK cmp c P) (hs : SWO (ltC c))
include hc hs
def Shorter (cmp : Int → Int → Option Int) (c : Int → Int → Int) (P : Int → Prop) (rc : Int → Int → Int → (Int → Int → Option Int) → List Int → Option (List Int)) (k : Nat) : Prop :=
  ∀ (a b limit : Nat) (wb wp : Bool) (d : Array Int), b - a ≤ k → a ≤ b → b ≤ d.size → OKA P d → limit ≤ 1000 →
    Res P (rc (a : Int) (b : Int) (limit : Int) cmp d.toList) (pdq (ltC c) d a b limit true true) d.size ∧
    Res P (lp (g_slices_pdqsortCmpFunc_int_L0 cmp rc) ((a : Int), (b : Int), (limit : Int), wb, wp, d.toList)) (pdq (ltC c) d a b limit wb wp) d.size
theorem part_after {rc : Int → Int → Int → (Int → Int → Option Int) → List Int → Option (List Int)} {k : Nat} (ih : Shorter cmp c P rc k) (a b limit pivot : Nat) (d : Array Int) (hk : b - a ≤ k + 1) (h1 : a ≤ pivot) (h2 : pivot < b) (hb : b ≤ d.size) (hd : OKA P d) (hl : limit ≤ 1000) :
    Res P (after cmp rc (partF cmp rc (a : Int) (b : Int) (limit : Int) (pivot : Int) d.toList)) (match partition (ltC c) d a b pivot with
      | (mid, alreadyPartitioned, d4) =>
        if _h : a ≤ mid ∧ mid < b then
          if mid - a < b - mid then pdq (ltC c) (pdq (ltC c) d4 a mid limit true true) (mid + 1) b limit (decide (mid - a ≥ (b - a) / 8)) alreadyPartitioned
          else pdq (ltC c) (pdq (ltC c) d4 (mid + 1) b limit true true) a mid limit (decide (b - mid ≥ (b - a) / 8)) alreadyPartitioned
        else d4) d.size := by
  have hz := hd.sz
  obtain ⟨p1, p2, p3⟩ := partn_p hc a b pivot d h1 h2 hb hd
  obtain ⟨r1, r2, _⟩ := partition_holds (ltC c) hs d a b pivot h1 h2 hb
  unfold partF
  rw [p1]
  generalize partition (ltC c) d a b pivot = q at *
  obtain ⟨mid, ap, d4⟩ := q
  dsimp only at *
  rw [dif_pos ⟨r1, r2⟩]
  have e1 : w64 ((mid : Int) - (a : Int)) = ((mid - a : Nat) : Int) := w_nat (by omega) (by omega)
  have e2 : w64 ((b : Int) - (mid : Int)) = ((b - mid : Nat) : Int) := w_nat (by omega) (by omega)
  have e3 : w64 ((b : Int) - (a : Int)) = ((b - a : Nat) : Int) := w_nat (by omega) (by omega)
  have e4 : w64 (Int.tdiv ((b - a : Nat) : Int) 8) = (((b - a) / 8 : Nat) : Int) := by
    rw [Int.tdiv_eq_ediv_of_nonneg (by omega)]
    exact w_nat (by omega) (by omega)
  have e5 : w64 ((mid : Int) + 1) = ((mid + 1 : Nat) : Int) := w_nat (by omega) (by omega)
  by_cases hlt : mid - a < b - mid
  · obtain ⟨⟨u1, u2, u3⟩, _⟩ := ih a mid limit true true d4 (by omega) r1 (by omega) p2 hl
    rw [if_pos hlt]
    by_cases ht : mid - a ≥ (b - a) / 8
    · obtain ⟨_, v1, v2, v3⟩ := ih (mid + 1) b limit true ap (pdq (ltC c) d4 a mid limit true true) (by omega) (by omega) (by omega) u2 hl
      rw [decide_eq_true ht]
      refine ⟨?_, v2, by omega⟩
      cases ap <;> simp only [cond_true, cond_false, Option.bind_some, e1, e2, e3, e4, e5, n_lt, n_le, decide_eq_true hlt, decide_eq_true (show (b - a) / 8 ≤ mid - a from ht), u1, after] <;> exact v1
    · obtain ⟨_, v1, v2, v3⟩ := ih (mid + 1) b limit false ap (pdq (ltC c) d4 a mid limit true true) (by omega) (by omega) (by omega) u2 hl
      rw [decide_eq_false ht]
      refine ⟨?_, v2, by omega⟩
      cases ap <;> simp only [cond_true, cond_false, Option.bind_some, e1, e2, e3, e4, e5, n_lt, n_le, decide_eq_true hlt, decide_eq_false (show ¬ (b - a) / 8 ≤ mid - a from ht), u1, after] <;> exact v1
  · obtain ⟨⟨u1, u2, u3⟩, _⟩ := ih (mid + 1) b limit true true d4 (by omega) (by omega) (by omega) p2 hl
    rw [if_neg hlt]
    by_cases ht : b - mid ≥ (b - a) / 8
    · obtain ⟨_, v1, v2, v3⟩ := ih a mid limit true ap (pdq (ltC c) d4 (mid + 1) b limit true true) (by omega) r1 (by omega) u2 hl
      rw [decide_eq_true ht]
      refine ⟨?_, v2, by omega⟩
      cases ap <;> simp only [cond_true, cond_false, Option.bind_some, e1, e2, e3, e4, e5, n_lt, n_le, decide_eq_false hlt, decide_eq_true (show (b - a) / 8 ≤ b - mid from ht), u1, after] <;> exact v1
    · obtain ⟨_, v1, v2, v3⟩ := ih a mid limit false ap (pdq (ltC c) d4 (mid + 1) b limit true true) (by omega) r1 (by omega) u2 hl
      rw [decide_eq_false ht]
      refine ⟨?_, v2, by omega⟩
      cases ap <;> simp only [cond_true, cond_false, Option.bind_some, e1, e2, e3, e4, e5, n_lt, n_le, decide_eq_false hlt, decide_eq_false (show ¬ (b - a) / 8 ≤ b - mid from ht), u1, after] <;> exact v1
theorem tail_after {rc : Int → Int → Int → (Int → Int → Option Int) → List Int → Option (List Int)} {k : Nat} (ih : Shorter cmp c P rc k) (a b limit pivot : Nat) (wb wp : Bool) (d : Array Int) (hk : b - a ≤ k + 1) (h1 : a ≤ pivot) (h2 : pivot < b) (hb : b ≤ d.size) (hd : OKA P d) (hl : limit ≤ 1000) :
    Res P (after cmp rc (tailF cmp rc (a : Int) (b : Int) (limit : Int) (pivot : Int) wb wp d.toList)) (if (decide (a > 0) && !ltC c d[a - 1]! d[pivot]!) = true then
        match partitionEqual (ltC c) d a b pivot with
        | (mid, d4) => if _h : a < mid ∧ mid ≤ b then pdq (ltC c) d4 mid b limit wb wp else d4
      else
        match partition (ltC c) d a b pivot with
        | (mid, alreadyPartitioned, d4) =>
          if _h : a ≤ mid ∧ mid < b then
            if mid - a < b - mid then pdq (ltC c) (pdq (ltC c) d4 a mid limit true true) (mid + 1) b limit (decide (mid - a ≥ (b - a) / 8)) alreadyPartitioned
            else pdq (ltC c) (pdq (ltC c) d4 (mid + 1) b limit true true) a mid limit (decide (b - mid ≥ (b - a) / 8)) alreadyPartitioned
          else d4) d.size := by
  have hz := hd.sz
  have pa := part_after hc hs ih a b limit pivot d hk h1 h2 hb hd hl
  have ip : pivot < d.size := by omega
  unfold tailF
  by_cases ha : 0 < a
  · have ia : a - 1 < d.size := by omega
    have e1 : w64 ((a : Int) - 1) = ((a - 1 : Nat) : Int) := w_nat (by omega) (by omega)
    have e3 := hc _ _ (hd.el _ ia) (hd.el _ ip)
    simp only [decide_eq_true (show (0 : Int) < (a : Int) by omega), cond_true, e1, getA ia, getA ip, Option.bind_some, e3]
    by_cases h : c d[a - 1]! d[pivot]! < 0
    · rw [decide_eq_true h, if_neg (by simp [ltC, h])]
      exact pa
    · rw [decide_eq_false h, if_pos (by simp [ltC, h, ha])]
      obtain ⟨q1, q2, q3, q4, q5⟩ := parteq_p hc a b pivot d h1 h2 hb hd
      generalize partitionEqual (ltC c) d a b pivot = q at *
      obtain ⟨mid, d4⟩ := q
      dsimp only at *
      rw [dif_pos ⟨q4, q5⟩]
      obtain ⟨_, v1, v2, v3⟩ := ih mid b limit wb wp d4 (by omega) q5 (by omega) q2 hl
      simp only [cond_false, q1, Option.bind_some, after]
      exact ⟨v1, v2, by omega⟩
  · rw [if_neg (by simp [ha])]
    simp only [decide_eq_false (show ¬ (0 : Int) < (a : Int) by omega), cond_false]
    exact pa
theorem pdq_round {rc : Int → Int → Int → (Int → Int → Option Int) → List Int → Option (List Int)} {k : Nat} (ih : Shorter cmp c P rc k) (a b limit : Nat) (wb wp : Bool) (d : Array Int) (hk : b - a ≤ k + 1) (hab : a ≤ b) (hb : b ≤ d.size) (hd : OKA P d) (hl : limit ≤ 1000) :
    Res P (lp (g_slices_pdqsortCmpFunc_int_L0 cmp rc) ((a : Int), (b : Int), (limit : Int), wb, wp, d.toList)) (pdq (ltC c) d a b limit wb wp) d.size := by
  have hz := hd.sz
  have e1 : w64 ((b : Int) - (a : Int)) = ((b - a : Nat) : Int) := w_nat (by omega) (by omega)
  rw [lp_after, pdq_L0_eq, pdq, e1]
  by_cases h12 : b - a ≤ 12
  · obtain ⟨q1, q2, q3⟩ := ins_p hc a b d hb hab hd
    rw [decide_eq_true (show ((b - a : Nat) : Int) ≤ 12 by omega), if_pos h12]
    simp only [cond_true, q1, Option.bind_some, after]
    exact ⟨rfl, q2, q3⟩
  rw [decide_eq_false (show ¬ ((b - a : Nat) : Int) ≤ 12 by omega), if_neg h12]
  by_cases h0 : limit = 0
  · obtain ⟨q1, q2, q3⟩ := heap_p hc a b d hab hb hd
    rw [show ((limit : Int) == 0) = true by simp [h0], if_pos h0]
    simp only [cond_false, cond_true, q1, Option.bind_some, after]
    exact ⟨rfl, q2, q3⟩
  rw [show ((limit : Int) == 0) = false by simpa using (show ¬ (limit : Int) = 0 by omega), if_neg h0]
  have hl2 : ∀ x : Nat, (hintI Hint.unknown == 2) = false ∧ (hintI Hint.unknown == 1) = false ∧ (hintI Hint.increasing == 2) = false ∧ (hintI Hint.increasing == 1) = true ∧ (hintI Hint.decreasing == 2) = true := fun _ => ⟨rfl, rfl, rfl, rfl, rfl⟩
  obtain ⟨g1, g2, g3, g4, g5⟩ := hl2 0
  have rp : ∀ p : Nat, a ≤ p → p < b → w64 (w64 ((b : Int) - 1) - w64 ((p : Int) - (a : Int))) = (((b - 1) - (p - a) : Nat) : Int) := fun p h1 h2 => by
    have x1 : w64 ((b : Int) - 1) = ((b - 1 : Nat) : Int) := w_nat (by omega) (by omega)
    have x2 : w64 ((p : Int) - (a : Int)) = ((p - a : Nat) : Int) := w_nat (by omega) (by omega)
    rw [x1, x2]
    exact w_nat (by omega) (by omega)
  cases wb with
  | true =>
    have pv := piv_p hc a b d (by omega) hb hd
    have pr := choosePivot_holds (ltC c) d a b (by omega)
    simp only [cond_false, cond_true, Bool.not_true, Bool.false_eq_true, if_false, Bool.true_and]
    generalize choosePivot (ltC c) d a b = cp at *
    obtain ⟨p, h⟩ := cp
    dsimp only at *
    cases wp with
    | true =>
      simp only [cond_true, pv, Option.bind_some]
      cases h with
      | decreasing =>
        obtain ⟨v1, v2, v3⟩ := rev_p (P := P) cmp a b d (by omega) hb hd
        obtain ⟨w1, w2, w3⟩ := pis_p hc a b (reverseRange d a b) (by omega) (by omega) v2
        simp only [g5, cond_true, v1, Option.bind_some, w1, if_true, decide_true, Bool.and_self]
        generalize partialInsertionSort (ltC c) (reverseRange d a b) a b = pi at *
        obtain ⟨d3, fin⟩ := pi
        dsimp only at *
        cases fin with
        | true => exact ⟨rfl, w2, w3.trans v3⟩
        | false =>
          rw [rp p pr.1 pr.2]
          have := tail_after hc hs ih a b limit ((b - 1) - (p - a)) true true d3 hk (by omega) (by omega) (by omega) w2 hl
          rw [show d3.size = d.size by omega] at this
          exact this
      | increasing =>
        obtain ⟨w1, w2, w3⟩ := pis_p hc a b d (by omega) hb hd
        simp only [g3, g4, cond_true, cond_false, w1, Option.bind_some, reduceCtorEq, if_false, if_true, decide_true, Bool.and_self]
        generalize partialInsertionSort (ltC c) d a b = pi at *
        obtain ⟨d3, fin⟩ := pi
        dsimp only at *
        cases fin with
        | true => exact ⟨rfl, w2, w3⟩
        | false =>
          have := tail_after hc hs ih a b limit p true true d3 hk pr.1 pr.2 (by omega) w2 hl
          rw [show d3.size = d.size by omega] at this
          exact this
      | unknown =>
        simp only [g1, g2, cond_false, reduceCtorEq, if_false, decide_false, Bool.and_false, Bool.false_eq_true]
        exact tail_after hc hs ih a b limit p true true d hk pr.1 pr.2 hb hd hl
    | false =>
      simp only [cond_false, pv, Option.bind_some, Bool.false_and, Bool.false_eq_true, if_false]
      cases h with
      | decreasing =>
        obtain ⟨v1, v2, v3⟩ := rev_p (P := P) cmp a b d (by omega) hb hd
        simp only [g5, cond_true, v1, Option.bind_some, if_true]
        rw [rp p pr.1 pr.2]
        have := tail_after hc hs ih a b limit ((b - 1) - (p - a)) true false (reverseRange d a b) hk (by omega) (by omega) (by omega) v2 hl
        rw [v3] at this
        exact this
      | increasing =>
        simp only [g3, cond_false, reduceCtorEq, if_false]
        exact tail_after hc hs ih a b limit p true false d hk pr.1 pr.2 hb hd hl
      | unknown =>
        simp only [g1, cond_false, reduceCtorEq, if_false]
        exact tail_after hc hs ih a b limit p true false d hk pr.1 pr.2 hb hd hl
  | false =>
    obtain ⟨b1, b2, b3⟩ := bp_p (P := P) cmp a b d hab hb hd
    have pv := piv_p hc a b (breakPatterns d a b) (by omega) (by omega) b2
    have pr := choosePivot_holds (ltC c) (breakPatterns d a b) a b (by omega)
    have el : w64 ((limit : Int) - 1) = ((limit - 1 : Nat) : Int) := w_nat (by omega) (by omega)
    simp only [cond_false, b1, Option.bind_some, pv, Bool.not_false, if_true, Bool.false_and, Bool.false_eq_true, if_false, el]
    generalize choosePivot (ltC c) (breakPatterns d a b) a b = cp at *
    obtain ⟨p, h⟩ := cp
    dsimp only at *
    cases h with
    | decreasing =>
      obtain ⟨v1, v2, v3⟩ := rev_p (P := P) cmp a b (breakPatterns d a b) (by omega) (by omega) b2
      simp only [g5, cond_true, v1, Option.bind_some, if_true]
      rw [rp p pr.1 pr.2]
      have := tail_after hc hs ih a b (limit - 1) ((b - 1) - (p - a)) false wp (reverseRange (breakPatterns d a b) a b) hk (by omega) (by omega) (by omega) v2 (by omega)
      rw [v3, b3] at this
      exact this
    | increasing =>
      simp only [g3, cond_false, reduceCtorEq, if_false]
      have := tail_after hc hs ih a b (limit - 1) p false wp (breakPatterns d a b) hk pr.1 pr.2 (by omega) b2 (by omega)
      rw [b3] at this
      exact this
    | unknown =>
      simp only [g1, cond_false, reduceCtorEq, if_false]
      have := tail_after hc hs ih a b (limit - 1) p false wp (breakPatterns d a b) hk pr.1 pr.2 (by omega) b2 (by omega)
      rw [b3] at this
      exact this
theorem pdq_all : ∀ (k m : Nat), k ≤ m → Shorter cmp c P (g_slices_pdqsortCmpFunc_int_n (m + 1)) k := by
  intro k
  induction k with
  | zero =>
    intro m hm
    have base : ∀ (rc : Int → Int → Int → (Int → Int → Option Int) → List Int → Option (List Int)) (a b limit : Nat) (wb wp : Bool) (d : Array Int), b - a ≤ 0 → a ≤ b → b ≤ d.size → OKA P d → Res P (lp (g_slices_pdqsortCmpFunc_int_L0 cmp rc) ((a : Int), (b : Int), (limit : Int), wb, wp, d.toList)) (pdq (ltC c) d a b limit wb wp) d.size := by
      intro rc a b limit wb wp d hk hab hb hd
      have hz := hd.sz
      have e1 : w64 ((b : Int) - (a : Int)) = ((b - a : Nat) : Int) := w_nat (by omega) (by omega)
      obtain ⟨q1, q2, q3⟩ := ins_p hc a b d hb hab hd
      rw [lp_eq, pdq_L0_eq, pdq, e1, decide_eq_true (show ((b - a : Nat) : Int) ≤ 12 by omega), if_pos (by omega)]
      simp only [cond_true, q1, Option.bind_some]
      exact ⟨rfl, q2, q3⟩
    intro a b limit wb wp d hk hab hb hd hl
    refine ⟨?_, base _ a b limit wb wp d hk hab hb hd⟩
    obtain ⟨r1, r2⟩ := base (g_slices_pdqsortCmpFunc_int_n m) a b limit true true d hk hab hb hd
    refine ⟨?_, r2⟩
    show g_slices_pdqsortCmpFunc_int_b (g_slices_pdqsortCmpFunc_int_n m) (a : Int) (b : Int) (limit : Int) cmp d.toList = _
    unfold g_slices_pdqsortCmpFunc_int_b
    rw [r1]; rfl
  | succ k ih =>
    intro m hm a b limit wb wp d hk hab hb hd hl
    refine ⟨?_, pdq_round hc hs (ih m (by omega)) a b limit wb wp d hk hab hb hd hl⟩
    obtain ⟨m', rfl⟩ : ∃ m', m = m' + 1 := ⟨m - 1, by omega⟩
    obtain ⟨r1, r2⟩ := pdq_round hc hs (ih m' (by omega)) a b limit true true d hk hab hb hd hl
    refine ⟨?_, r2⟩
    show g_slices_pdqsortCmpFunc_int_b (g_slices_pdqsortCmpFunc_int_n (m' + 1)) (a : Int) (b : Int) (limit : Int) cmp d.toList = _
    unfold g_slices_pdqsortCmpFunc_int_b
    rw [r1]; rfl
theorem sort_eq (l : List Int) (hl : l.length ≤ 1000) (hP : ∀ x ∈ l, P x) : g_slices_SortFunc_l_int_int cmp l = some (Sort.sort (ltC c) l.toArray).toList := by
  have hd : OKA P l.toArray := ⟨fun i hi => by
    have hi' : i < l.length := by simpa using hi
    rw [getElem!_pos l.toArray i hi]
    simpa using hP _ (List.getElem_mem hi'), by simpa using hl⟩
  obtain ⟨l1, _, _⟩ := len_p hl
  have hbl : bitsLen l.length ≤ 1000 := by
    unfold bitsLen
    split
    · omega
    · have : Nat.log2 l.length < 11 := (Nat.log2_lt (by assumption)).2 (by omega)
      omega
  have key : ∀ n, l.length + 1 ≤ n → g_slices_pdqsortCmpFunc_int_n n 0 (l.length : Int) (bitsLen l.length : Int) cmp l = some (Sort.sort (ltC c) l.toArray).toList := by
    intro n hn
    obtain ⟨m, rfl⟩ : ∃ m, n = m + 1 := ⟨n - 1, by omega⟩
    obtain ⟨⟨r1, _⟩, _⟩ := pdq_all hc hs l.length m (by omega) 0 l.length (bitsLen l.length) true true l.toArray (by omega) (by omega) (by simp) hd hbl
    refine (r1 : g_slices_pdqsortCmpFunc_int_n (m + 1) 0 (l.length : Int) (bitsLen l.length : Int) cmp l = _).trans ?_
    unfold Sort.sort
    rw [List.size_toArray]
  unfold g_slices_SortFunc_l_int_int g_slices_pdqsortCmpFunc_int
  rw [l1, Option.bind_some, lim1_of key]
  rfl
theorem sort_p (l : List Int) (hl : l.length ≤ 1000) (hP : ∀ x ∈ l, P x) : ∃ r : List Int, g_slices_SortFunc_l_int_int cmp l = some r ∧ r.Perm l ∧ r.Pairwise (fun x y => ltC c y x = false) := by
  refine ⟨_, sort_eq hc hs l hl hP, ?_⟩
  obtain ⟨⟨h1, _, h2⟩, h3⟩ := sort_sorts (ltC c) hs l.toArray
  generalize Sort.sort (ltC c) l.toArray = d at *
  constructor
  · have e1 : d.extract 0 l.toArray.size = d := by rw [← h1]; simp
    rw [e1] at h2
    simpa using h2
  · rw [List.pairwise_iff_getElem]
    intro i j hi hj hij
    have hj' : j < d.size := by simpa using hj
    have hi' : i < d.size := by omega
    have := h3 i j (Nat.zero_le _) hij (by omega)
    rw [getElem!_pos d j hj', getElem!_pos d i hi'] at this
    simpa using this
end
end Go.Proofs.YtakebhleglnpjaaDoor

namespace Go.Proofs.YtakebhleglnpjaaDoor
open Go Go.Proofs.YtakebhleglnpjaaDoorE Go.Sort
set_option linter.unusedVariables false
set_option linter.unusedSimpArgs false
def sel {γ : Type} (p : γ → Bool) (g : Nat → γ → Int) : Nat → List γ → List Int
  | _, [] => []
  | i, x :: l => bif p x then g i x :: sel p g (i + 1) l else sel p g (i + 1) l
theorem sel_len {γ : Type} (p : γ → Bool) (g : Nat → γ → Int) : ∀ (l : List γ) (i : Nat), (sel p g i l).length = l.countP p
  | [], _ => rfl
  | x :: l, i => by
    unfold sel
    have ih := sel_len p g l (i + 1)
    cases h : p x with
    | true => simp [ih, h]
    | false => simp [ih, h]
theorem sel_mem {γ : Type} (p : γ → Bool) (g : Nat → γ → Int) (z : Int) : ∀ (l : List γ) (i : Nat), z ∈ sel p g i l ↔ ∃ j x, l[j]? = some x ∧ p x = true ∧ z = g (i + j) x
  | [], i => by simp [sel]
  | x :: l, i => by
    have ih := sel_mem p g z l (i + 1)
    have key : (∃ j y, (x :: l)[j]? = some y ∧ p y = true ∧ z = g (i + j) y) ↔ (p x = true ∧ z = g i x) ∨ ∃ j y, l[j]? = some y ∧ p y = true ∧ z = g (i + 1 + j) y := by
      constructor
      · rintro ⟨j, y, h1, h2, h3⟩
        cases j with
        | zero => left; simp at h1; subst h1; exact ⟨h2, h3⟩
        | succ j => right; exact ⟨j, y, by simpa using h1, h2, by rw [h3]; congr 1; omega⟩
      · rintro (⟨h2, h3⟩ | ⟨j, y, h1, h2, h3⟩)
        · exact ⟨0, x, rfl, h2, h3⟩
        · exact ⟨j + 1, y, by simpa using h1, h2, by rw [h3]; congr 1; omega⟩
    rw [key]
    unfold sel
    cases h : p x with
    | true => simp [ih]
    | false => simp [ih]
theorem lp_sel {γ : Type} (l : List γ) (hl : l.length ≤ 1000) (p : γ → Bool) (g : Nat → γ → Int) (step : Int × List Int → Option ((Int × List Int) ⊕ List Int))
    (h1 : ∀ i x s, i < l.length → l[i]? = some x → step ((i : Int), s) = (bif p x then (bif Nat.ble (s.length + 1) lim then some (.inl (((i + 1 : Nat) : Int), s ++ [g i x])) else none) else some (.inl (((i + 1 : Nat) : Int), s))))
    (h2 : ∀ s, step ((l.length : Int), s) = some (.inr s)) (s : List Int) (hs : s.length ≤ 1000000) : lp step (0, s) = some (s ++ sel p g 0 l) := by
  have key := lp_scan l step (fun i s => ((i : Int), s)) (fun i x s => bif p x then (bif Nat.ble (s.length + 1) lim then some (.inl (s ++ [g i x])) else none) else some (.inl s)) (fun s => some s) (fun i x s hi hx => by
      rw [h1 i x s hi hx]
      cases p x <;> cases Nat.ble (s.length + 1) lim <;> rfl) (fun s => h2 s) s
  refine (key : lp step (0, s) = _).trans ?_
  have : ∀ (l : List γ) (i : Nat) (s : List Int), s.length + l.length ≤ 1001000 → scan (fun i x s => bif p x then (bif Nat.ble (s.length + 1) lim then some (Sum.inl (s ++ [g i x])) else (none : Option (List Int ⊕ List Int))) else some (.inl s)) (fun s => some s) i l s = some (s ++ sel p g i l) := by
    intro l
    induction l with
    | nil => intro i s _; simp [scan, sel]
    | cons x l ih =>
      intro i s hb
      rw [List.length_cons] at hb
      unfold scan sel
      cases p x with
      | true =>
        rw [lim_t (show s.length + 1 ≤ 1073741824 by omega)]
        simp only [cond_true]
        rw [ih (i + 1) (s ++ [g i x]) (by rw [List.length_append, List.length_singleton]; omega)]
        simp
      | false =>
        simp only [cond_false]
        rw [ih (i + 1) s (by omega)]
  exact this l 0 s (by omega)
theorem eq_of_rise (k : Int → Int) : ∀ (l m : List Int), l.Pairwise (fun x y => k x < k y) → m.Pairwise (fun x y => k x < k y) → (∀ z, z ∈ l ↔ z ∈ m) → l = m
  | [], [], _, _, _ => rfl
  | [], y :: m, _, _, h => absurd ((h y).2 (by simp)) (by simp)
  | x :: l, [], _, _, h => absurd ((h x).1 (by simp)) (by simp)
  | x :: l, y :: m, h1, h2, h => by
    rw [List.pairwise_cons] at h1 h2
    have hxy : x = y := by
      rcases List.mem_cons.1 ((h x).1 (by simp)) with e | e
      · exact e
      · rcases List.mem_cons.1 ((h y).2 (by simp)) with e2 | e2
        · exact e2.symm
        · have := h2.1 _ e
          have := h1.1 _ e2
          omega
    subst hxy
    congr 1
    refine eq_of_rise k l m h1.2 h2.2 fun z => ?_
    constructor
    · intro hz
      rcases List.mem_cons.1 ((h z).1 (by simp [hz])) with e | e
      · subst e
        have := h1.1 _ hz
        omega
      · exact e
    · intro hz
      rcases List.mem_cons.1 ((h z).2 (by simp [hz])) with e | e
      · subst e
        have := h2.1 _ hz
        omega
      · exact e
structure Good (d : DescT) : Prop where
  w : ∀ p ∈ d.parts, 1 ≤ p.work ∧ p.work ≤ 100
  e : ∀ x ∈ d.edges, two d.parts.length x.src x.dst = true
  f : ∀ x ∈ d.futures, two d.parts.length x.maker x.user = true ∧ 1 ≤ x.pos ∧ x.pos ≤ workAt d.parts x.user - 1
  ne : ∀ (i j : Nat) (x y : FutureT), i < j → d.futures[i]? = some x → d.futures[j]? = some y → ¬ (x.user = y.user ∧ x.pos = y.pos)
theorem good_of {d : DescT} (h : checkD d = 0) : Good d := by
  unfold checkD at h
  have all : manyOK d = true ∧ timeOK d = true ∧ d.parts.any badPart = false ∧ anyI (badEdge d) 0 d.edges = false ∧ anyI (badFuture d) 0 d.futures = false := by
    revert h
    cases manyOK d <;> cases timeOK d <;> cases d.parts.any badPart <;> cases anyI (badEdge d) 0 d.edges <;> cases anyI (badFuture d) 0 d.futures <;> simp
  obtain ⟨_, _, h3, h4, h5⟩ := all
  have he : ∀ (i : Nat) x, d.edges[i]? = some x → badEdge d i x = false := fun i x hx => by
    cases hb : badEdge d i x with
    | false => rfl
    | true => rw [(anyI_iff _ _ 0).2 ⟨i, x, hx, by simpa using hb⟩] at h4; cases h4
  have hf : ∀ (i : Nat) x, d.futures[i]? = some x → badFuture d i x = false := fun i x hx => by
    cases hb : badFuture d i x with
    | false => rfl
    | true => rw [(anyI_iff _ _ 0).2 ⟨i, x, hx, by simpa using hb⟩] at h5; cases h5
  refine ⟨parts_good h3, fun x hx => ?_, fun x hx => ?_, fun i j x y hij hx hy => ?_⟩
  · obtain ⟨i, hi⟩ := List.getElem?_of_mem hx
    have := he i x hi
    unfold badEdge at this
    simp only [Bool.or_eq_false_iff, Bool.not_eq_false'] at this
    exact this.1
  · obtain ⟨i, hi⟩ := List.getElem?_of_mem hx
    have := hf i x hi
    unfold badFuture within at this
    simp only [Bool.or_eq_false_iff, Bool.not_eq_false', Bool.and_eq_true, decide_eq_true_eq] at this
    exact ⟨this.1, this.2.1.1, this.2.1.2⟩
  · rintro ⟨h1, h2⟩
    have := hf j y hy
    unfold badFuture at this
    simp only [Bool.or_eq_false_iff] at this
    have h6 := List.any_eq_false.1 this.2.2 x (List.mem_of_getElem? (i := i) (by rw [List.getElem?_take_of_lt hij]; exact hx))
    unfold again at h6
    simp [h1, h2] at h6
theorem workAt_le {d : DescT} (g : Good d) (u : Int) : workAt d.parts u ≤ 100 := by
  unfold workAt
  split
  · rename_i p hp; exact (g.w p (List.mem_of_getElem? hp)).2
  · omega
def posAt (fs : List FutureT) (z : Int) : Int := match fs[z.toNat]? with | some f => f.pos | none => 0
def mine (d : DescT) (u : Int) : List Int := sel (fun f : FutureT => f.user == u) (fun i _ => (i : Int)) 0 d.futures
theorem mine_mem (d : DescT) (u z : Int) : z ∈ mine d u ↔ ∃ (i : Nat) (f : FutureT), d.futures[i]? = some f ∧ f.user = u ∧ z = (i : Int) := by
  unfold mine
  rw [sel_mem]
  simp
theorem mine_nodup (d : DescT) (u : Int) : (mine d u).Pairwise (fun x y => x < y) := by
  have : ∀ (l : List FutureT) (i : Nat), (sel (fun f : FutureT => f.user == u) (fun i _ => (i : Int)) i l).Pairwise (fun x y => x < y) ∧ ∀ z ∈ sel (fun f : FutureT => f.user == u) (fun i _ => (i : Int)) i l, (i : Int) ≤ z := by
    intro l
    induction l with
    | nil => intro i; simp [sel]
    | cons x l ih =>
      intro i
      obtain ⟨h1, h2⟩ := ih (i + 1)
      unfold sel
      cases x.user == u with
      | true =>
        simp only [cond_true, List.pairwise_cons, List.mem_cons]
        refine ⟨⟨fun z hz => ?_, h1⟩, ?_⟩
        · have := h2 z hz; omega
        · rintro z (rfl | hz)
          · exact Int.le_refl _
          · have := h2 z hz; omega
      | false =>
        simp only [cond_false]
        exact ⟨h1, fun z hz => by have := h2 z hz; omega⟩
  exact (this d.futures 0).1
structure IsTouches (d : DescT) (u : Int) (r : List Int) : Prop where
  mem : ∀ z, z ∈ r ↔ ∃ (i : Nat) (f : FutureT), d.futures[i]? = some f ∧ f.user = u ∧ z = (i : Int)
  rise : r.Pairwise (fun x y => posAt d.futures x < posAt d.futures y)
theorem IsTouches.eq {d : DescT} {u : Int} {r s : List Int} (h1 : IsTouches d u r) (h2 : IsTouches d u s) : r = s := eq_of_rise (posAt d.futures) r s h1.rise h2.rise fun z => by rw [h1.mem, h2.mem]
theorem pair_mem {l : List Int} {p q : Int → Int → Prop} (h : l.Pairwise p) (hq : ∀ x y, x ∈ l → y ∈ l → p x y → q x y) : l.Pairwise q := by
  rw [List.pairwise_iff_getElem] at h ⊢
  exact fun i j hi hj hij => hq _ _ (List.getElem_mem hi) (List.getElem_mem hj) (h i j hi hj hij)
theorem pos_ne {d : DescT} (g : Good d) {u x y : Int} (hx : ∃ (i : Nat) (f : FutureT), d.futures[i]? = some f ∧ f.user = u ∧ x = (i : Int)) (hy : ∃ (i : Nat) (f : FutureT), d.futures[i]? = some f ∧ f.user = u ∧ y = (i : Int)) (hne : x ≠ y) : posAt d.futures x ≠ posAt d.futures y := by
  obtain ⟨i, f, h1, h2, rfl⟩ := hx
  obtain ⟨j, e, h3, h4, rfl⟩ := hy
  intro he
  unfold posAt at he
  rw [Int.toNat_natCast, Int.toNat_natCast, h1, h3] at he
  simp only at he
  rcases Nat.lt_trichotomy i j with h | h | h
  · exact g.ne i j f e h h1 h3 ⟨h2.trans h4.symm, he⟩
  · exact hne (by rw [h])
  · exact g.ne j i e f h h3 h1 ⟨h4.trans h2.symm, he.symm⟩
theorem touch_cmp {d : DescT} (g : Good d) : CmpOK (fun z0 z1 => g_desc_Touches_1 z0 z1 d.futures) (fun x y => posAt d.futures x - posAt d.futures y) (fun z => 0 ≤ z ∧ z.toNat < d.futures.length) := by
  intro x y hx hy
  have b : ∀ z : Int, z.toNat < d.futures.length → ∃ f, d.futures[z.toNat]? = some f ∧ posAt d.futures z = f.pos ∧ 1 ≤ f.pos ∧ f.pos ≤ 100 := fun z hz => by
    have hm := List.getElem_mem hz
    have := g.f _ hm
    have hw := workAt_le g d.futures[z.toNat].user
    exact ⟨d.futures[z.toNat], List.getElem?_eq_getElem hz, by unfold posAt; rw [List.getElem?_eq_getElem hz], this.2.1, by omega⟩
  obtain ⟨f, f1, f2, f3, f4⟩ := b x hx.2
  obtain ⟨e, e1, e2, e3, e4⟩ := b y hy.2
  show g_desc_Touches_1 x y d.futures = some (posAt d.futures x - posAt d.futures y)
  unfold g_desc_Touches_1
  rw [at_int hx.1 f1, at_int hy.1 e1]
  simp only [Option.bind_some]
  rw [f2, e2, w64_id (by omega) (by omega)]
theorem swo_key (k : Int → Int) : SWO (ltC fun x y => k x - k y) := by
  refine ⟨fun x => ?_, fun x y z h1 h2 => ?_, fun x y z h1 h2 => ?_⟩
  · show decide (k x - k x < 0) = false
    exact decide_eq_false (by omega)
  · simp only [ltC, decide_eq_true_eq] at *
    omega
  · simp only [ltC, decide_eq_false_iff_not] at *
    omega
theorem touches_p (d : DescT) (h : ShortD d) (hf : d.futures.length ≤ 1000) (hc : checkD d = 0) (u : Int) : ∃ r, g_desc_Touches d u = some r ∧ IsTouches d u r := by
  have g := good_of hc
  have key := lp_sel d.futures hf (fun f : FutureT => f.user == u) (fun i _ => (i : Int)) (g_desc_Touches_L0 d u) (fun i x s hi hx => by
      simp only [g_desc_Touches_L0, lt_t hi, at_some hx, Option.bind_some, w64_succ hi h.f, cond_true]) (fun s => by simp only [g_desc_Touches_L0, lt_f]; rfl) [] (by simp)
  have hP : ∀ x ∈ mine d u, 0 ≤ x ∧ x.toNat < d.futures.length := fun x hx => by
    obtain ⟨i, f, h1, h2, rfl⟩ := (mine_mem d u x).1 hx
    have := (List.getElem?_eq_some_iff.1 h1).1
    exact ⟨by omega, by simpa using this⟩
  have hlen : (mine d u).length ≤ 1000 := by
    unfold mine
    rw [sel_len]
    exact Nat.le_trans List.countP_le_length hf
  obtain ⟨r, h1, h2, h3⟩ := sort_p (touch_cmp g) (swo_key _) (mine d u) hlen hP
  refine ⟨r, ?_, ?_, ?_⟩
  · unfold g_desc_Touches
    rw [check_p d h, hc]
    simp only [Option.bind_some, bne_self_eq_false, cond_false]
    rw [key, List.nil_append, Option.bind_some]
    show (g_slices_SortFunc_l_int_int (fun z0 z1 => g_desc_Touches_1 z0 z1 d.futures) (mine d u)).bind _ = _
    rw [h1]
    rfl
  · exact fun z => by rw [h2.mem_iff, mine_mem]
  · have nd : r.Pairwise (fun x y => x ≠ y) := (h2.pairwise_iff (fun h => Ne.symm h)).2 ((mine_nodup d u).imp fun h => by omega)
    refine pair_mem (h3.and nd) fun x y hx hy hp => ?_
    have a := (mine_mem d u x).1 (h2.mem_iff.1 hx)
    have b := (mine_mem d u y).1 (h2.mem_iff.1 hy)
    have h4 := pos_ne g a b hp.2
    have h5 := hp.1
    simp only [ltC, decide_eq_false_iff_not] at h5
    omega
theorem touches_bad (d : DescT) (h : ShortD d) (hc : checkD d ≠ 0) (u : Int) : g_desc_Touches d u = some [] := by
  unfold g_desc_Touches
  rw [check_p d h]
  simp only [Option.bind_some, show (checkD d != 0) = true by simpa using hc, cond_true]
def makerAt (fs : List FutureT) (z : Int) : Int := match fs[z.toNat]? with | some f => f.maker | none => 0
def feeds (d : DescT) (u : Int) (r : List Int) : List Int := sel (fun e : EdgeT => e.dst == u) (fun _ e => e.src) 0 d.edges ++ r.map (makerAt d.futures)
theorem sel_all {γ : Type} (k : γ → Int) : ∀ (l : List γ) (i : Nat), sel (fun _ => true) (fun _ x => k x) i l = l.map k
  | [], _ => rfl
  | x :: l, i => by unfold sel; rw [sel_all k l]; rfl
theorem feeds_loop (d : DescT) (r s : List Int) (hr : r.length ≤ 1000) (hs : s.length ≤ 1000000) (hP : ∀ x ∈ r, 0 ≤ x ∧ x.toNat < d.futures.length) (step : Int × List Int → Option ((Int × List Int) ⊕ List Int))
    (hstep : ∀ t, step t = (bif (decide (t.1 < (r.length : Int))) then (getI r t.1).bind fun x6 => (getI d.futures x6).bind fun x7 => bif (Nat.ble (List.length t.2 + 1) lim) then some (.inl ((w64 (t.1 + 1)), (t.2 ++ [x7.maker]))) else none else some (.inr t.2))) :
    lp step (0, s) = some (s ++ r.map (makerAt d.futures)) := by
  rw [← sel_all (makerAt d.futures) r 0]
  refine lp_sel r hr (fun _ => true) (fun _ x => makerAt d.futures x) step (fun i x s hi hx => ?_) (fun s => ?_) s hs
  · obtain ⟨p1, p2⟩ := hP x (List.mem_of_getElem? hx)
    rw [hstep]
    have hm : makerAt d.futures x = d.futures[x.toNat].maker := by unfold makerAt; rw [List.getElem?_eq_getElem p2]
    simp only [lt_t hi, at_some hx, Option.bind_some, w64_succ hi (show r.length < 9223372036854775808 by omega), cond_true, getI_in p1 p2, hm]
  · rw [hstep]
    simp only [lt_f, cond_false]
theorem touch_in {d : DescT} {u : Int} {r : List Int} (h : IsTouches d u r) : ∀ x ∈ r, 0 ≤ x ∧ x.toNat < d.futures.length := fun x hx => by
  obtain ⟨i, f, h1, h2, rfl⟩ := (h.mem x).1 hx
  have := (List.getElem?_eq_some_iff.1 h1).1
  exact ⟨by omega, by simpa using this⟩
theorem touch_len {d : DescT} {u : Int} {r : List Int} (h : IsTouches d u r) : r.length = (mine d u).length := by
  have nd1 : r.Nodup := h.rise.imp fun hp he => by rw [he] at hp; omega
  have nd2 : (mine d u).Nodup := (mine_nodup d u).imp fun hp he => by omega
  exact ((List.perm_ext_iff_of_nodup nd1 nd2).2 fun z => by rw [h.mem, mine_mem]).length_eq
theorem touch_short {d : DescT} {u : Int} {r : List Int} (h : IsTouches d u r) : r.length ≤ d.futures.length := by
  rw [touch_len h]
  unfold mine
  rw [sel_len]
  exact List.countP_le_length
theorem edges_sel (d : DescT) (he : d.edges.length ≤ 1000) (u : Int) (step : Int × List Int → Option ((Int × List Int) ⊕ List Int))
    (hstep : ∀ t, step t = (bif (decide (t.1 < (d.edges.length : Int))) then (getI d.edges t.1).bind fun x2 => bif (x2.dst == u) then bif (Nat.ble (List.length t.2 + 1) lim) then some (.inl ((w64 (t.1 + 1)), (t.2 ++ [x2.src]))) else none else some (.inl ((w64 (t.1 + 1)), t.2)) else some (.inr t.2))) :
    lp step (0, []) = some (sel (fun e : EdgeT => e.dst == u) (fun _ e => e.src) 0 d.edges) := by
  have key := lp_sel d.edges he (fun e : EdgeT => e.dst == u) (fun _ e => e.src) step (fun i x s hi hx => by
      rw [hstep]
      simp only [lt_t hi, at_some hx, Option.bind_some, w64_succ hi (show d.edges.length < 9223372036854775808 by omega), cond_true]) (fun s => by rw [hstep]; simp only [lt_f, cond_false]) [] (by simp)
  rwa [List.nil_append] at key
theorem sel_short {γ : Type} (p : γ → Bool) (g : Nat → γ → Int) (l : List γ) (i : Nat) : (sel p g i l).length ≤ l.length := by rw [sel_len]; exact List.countP_le_length
theorem feeds_p (d : DescT) (h : ShortD d) (he : d.edges.length ≤ 1000) (hf : d.futures.length ≤ 1000) (hc : checkD d = 0) (u : Int) {r : List Int} (hr : IsTouches d u r) : g_desc_Feeds d u = some (feeds d u r) := by
  obtain ⟨r', h1, h2⟩ := touches_p d h hf hc u
  have := h2.eq hr
  subst this
  have k1 := edges_sel d he u (g_desc_Feeds_L0 d u) (fun t => rfl)
  have k2 := feeds_loop d r' (sel (fun e : EdgeT => e.dst == u) (fun _ e => e.src) 0 d.edges) (Nat.le_trans (touch_short h2) hf) (Nat.le_trans (sel_short _ _ _ _) (by omega)) (touch_in h2) (g_desc_Feeds_L1 d r') (fun t => rfl)
  unfold g_desc_Feeds feeds
  rw [check_p d h, hc]
  simp only [Option.bind_some, bne_self_eq_false, cond_false, k1, h1, k2]
theorem feeds_bad (d : DescT) (h : ShortD d) (hc : checkD d ≠ 0) (u : Int) : g_desc_Feeds d u = some [] := by
  unfold g_desc_Feeds
  rw [check_p d h]
  simp only [Option.bind_some, show (checkD d != 0) = true by simpa using hc, cond_true]
end Go.Proofs.YtakebhleglnpjaaDoor

