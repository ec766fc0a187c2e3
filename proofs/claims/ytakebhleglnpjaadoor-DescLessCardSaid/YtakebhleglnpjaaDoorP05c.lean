/- Chapter 5: may a task be: the document's answer, plainly; sameness. -/
import Derived.Test.YtakebhleglnpjaaDoorP05b
namespace Go.Proofs.YtakebhleglnpjaaDoor
open Go Go.Proofs.YtakebhleglnpjaaDoorE
set_option linter.unusedVariables false
set_option linter.unusedSimpArgs false

/-! the document's powers of two -/
def twoR (n : Int) : Bool := (List.range 40).any fun k => ((2 : Int) ^ k == n)
theorem ref_two (n : Int) : ∃ k, g_ref01_Two n = some (k, twoR n) := by
  have step : ∀ k : Nat, k < 40 → g_ref01_Two_L0 n ((2 : Int) ^ k, (k : Int)) = some (bif ((2 : Int) ^ k == n) then .inr (.inl (k : Int)) else .inl ((2 : Int) ^ (k + 1), ((k + 1 : Nat) : Int))) := by
    intro k hk
    have hp : (2 : Int) ^ k ≤ 2 ^ 39 := by
      have : (2 : Nat) ^ k ≤ 2 ^ 39 := Nat.pow_le_pow_right (by omega) (by omega)
      exact_mod_cast this
    have hq : (0 : Int) < 2 ^ k := by
      have : (0 : Nat) < 2 ^ k := Nat.pow_pos (by omega)
      exact_mod_cast this
    have e39 : (2 : Int) ^ 39 = 549755813888 := by decide
    rw [e39] at hp
    have e1 : w64 (2 * (2 : Int) ^ k) = (2 : Int) ^ (k + 1) := by rw [w64_id (by omega) (by omega), Int.pow_succ]; omega
    have e2 : w64 ((k : Int) + 1) = ((k + 1 : Nat) : Int) := w64_succ hk (by omega)
    unfold g_ref01_Two_L0
    simp only [decide_eq_true (show (k : Int) < 40 by omega), cond_true, e1, e2]
    cases ((2 : Int) ^ k == n) <;> rfl
  have key : ∀ m k : Nat, k + m = 40 → lp (g_ref01_Two_L0 n) ((2 : Int) ^ k, (k : Int)) = some (match (List.range' k m).find? (fun j => (2 : Int) ^ j == n) with | some j => .inl (j : Int) | none => .inr ()) := by
    intro m
    induction m with
    | zero =>
      intro k hk
      have : k = 40 := by omega
      subst this
      rw [lp_eq]
      unfold g_ref01_Two_L0
      rfl
    | succ m ih =>
      intro k hk
      rw [lp_eq, step k (by omega), List.range'_succ, List.find?_cons]
      cases h : ((2 : Int) ^ k == n) with
      | true => rfl
      | false => exact ih (k + 1) (by omega)
  have k0 := key 40 0 rfl
  rw [show ((2 : Int) ^ 0) = 1 from rfl] at k0
  have e : (List.range 40).any (fun j => (2 : Int) ^ j == n) = ((List.range' 0 40).find? (fun j => (2 : Int) ^ j == n)).isSome := by
    rw [List.range_eq_range', Bool.eq_iff_iff, List.any_eq_true, List.find?_isSome]
  unfold g_ref01_Two twoR
  rw [e]
  cases hf : (List.range' 0 40).find? (fun j => (2 : Int) ^ j == n) with
  | none =>
    rw [hf] at k0
    refine ⟨0, ?_⟩
    show (lp (g_ref01_Two_L0 n) (1, ((0 : Nat) : Int))).bind _ = _
    rw [k0]; rfl
  | some j =>
    rw [hf] at k0
    refine ⟨j, ?_⟩
    show (lp (g_ref01_Two_L0 n) (1, ((0 : Nat) : Int))).bind _ = _
    rw [k0]; rfl
theorem twoR_small (n : Nat) (h : n ≤ 4096) : twoR (n : Int) = pow2 n := by
  rw [Bool.eq_iff_iff]
  unfold twoR pow2
  rw [List.any_eq_true]
  constructor
  · rintro ⟨k, hk, he⟩
    have hk := List.mem_range.1 hk
    have he : (2 : Nat) ^ k = n := by have := eq_of_beq he; exact_mod_cast this
    have h13 : k < 13 := by
      rcases Nat.lt_or_ge k 13 with h1 | h1
      · exact h1
      · have : 2 ^ 13 ≤ 2 ^ k := Nat.pow_le_pow_right (by omega) h1
        omega
    subst he
    have : ((List.range 13).all fun k => [1, 2, 4, 8, 16, 32, 64, 128, 256, 512, 1024, 2048, 4096].contains (2 ^ k)) = true := by decide
    exact List.all_eq_true.1 this k (by simpa using h13)
  · intro h
    have : n = 2 ^ 0 ∨ n = 2 ^ 1 ∨ n = 2 ^ 2 ∨ n = 2 ^ 3 ∨ n = 2 ^ 4 ∨ n = 2 ^ 5 ∨ n = 2 ^ 6 ∨ n = 2 ^ 7 ∨ n = 2 ^ 8 ∨ n = 2 ^ 9 ∨ n = 2 ^ 10 ∨ n = 2 ^ 11 ∨ n = 2 ^ 12 := by
      simpa using h
    rcases this with h | h | h | h | h | h | h | h | h | h | h | h | h <;> subst h
    · exact ⟨0, by decide, by decide⟩
    · exact ⟨1, by decide, by decide⟩
    · exact ⟨2, by decide, by decide⟩
    · exact ⟨3, by decide, by decide⟩
    · exact ⟨4, by decide, by decide⟩
    · exact ⟨5, by decide, by decide⟩
    · exact ⟨6, by decide, by decide⟩
    · exact ⟨7, by decide, by decide⟩
    · exact ⟨8, by decide, by decide⟩
    · exact ⟨9, by decide, by decide⟩
    · exact ⟨10, by decide, by decide⟩
    · exact ⟨11, by decide, by decide⟩
    · exact ⟨12, by decide, by decide⟩
theorem ref_time (d : DescT) : g_ref05_time d = some (timeOK d) := by
  obtain ⟨k, hk⟩ := ref_two d.period
  unfold g_ref05_time timeOK within
  simp only [hk, Option.bind_some]
  by_cases h1 : d.period < 0
  · have : twoR d.period = false := by
      unfold twoR
      rw [List.any_eq_false]
      intro k _ he
      have he := eq_of_beq he
      have : (0 : Nat) < 2 ^ k := Nat.pow_pos (by omega)
      have : (0 : Int) < 2 ^ k := by exact_mod_cast this
      omega
    rw [this, twoB_neg h1]; rfl
  · by_cases h2 : d.period ≤ 4096
    · have e : d.period = ((d.period.toNat : Nat) : Int) := by omega
      have : twoB d.period = twoR d.period := by rw [e, twoB_small _ (by omega), twoR_small _ (by omega)]
      rw [this, decide_eq_true h2, decide_eq_false (show ¬ 4096 < d.period by omega)]
      cases twoR d.period <;> cases decide (1 ≤ d.deadline) <;> cases decide (d.deadline ≤ d.period) <;> rfl
    · rw [decide_eq_false h2, decide_eq_true (show 4096 < d.period by omega)]
      cases twoR d.period <;> cases twoB d.period <;> rfl

theorem ref_parts (d : DescT) (h : ShortD d) : g_ref05_parts d = some (!(d.parts.any badPart)) := by
  have key := lp_stop d.parts (g_ref05_parts_L0 d) (fun _ => badPart) (fun _ _ => .inl ()) (.inr ()) (fun i x hi hx => by
      simp only [g_ref05_parts_L0, lt_t hi, at_some hx, Option.bind_some, w64_succ hi h.p, cond_true]
      have e1 : decide (x.op < 0) = !decide (0 ≤ x.op) := by rw [← decide_not]; exact decide_eq_decide.2 (by omega)
      have e2 : decide (5 < x.op) = !decide (x.op ≤ 5) := by rw [← decide_not]; exact decide_eq_decide.2 (by omega)
      have e3 : decide (x.arg < 0) = !decide (0 ≤ x.arg) := by rw [← decide_not]; exact decide_eq_decide.2 (by omega)
      have e4 : decide (2147483647 < x.arg) = !decide (x.arg ≤ 2147483647) := by rw [← decide_not]; exact decide_eq_decide.2 (by omega)
      have e5 : decide (x.work < 1) = !decide (1 ≤ x.work) := by rw [← decide_not]; exact decide_eq_decide.2 (by omega)
      have e6 : decide (100 < x.work) = !decide (x.work ≤ 100) := by rw [← decide_not]; exact decide_eq_decide.2 (by omega)
      simp only [e1, e2, e3, e4, e5, e6, badPart, within]
      cases decide (0 ≤ x.op) <;> cases decide (x.op ≤ 5) <;> cases decide (0 ≤ x.arg) <;> cases decide (x.arg ≤ 2147483647) <;> cases decide (1 ≤ x.work) <;> cases decide (x.work ≤ 100) <;> rfl) (by simp only [g_ref05_parts_L0, lt_f]; rfl)
  unfold g_ref05_parts
  rw [key, stop_const, anyI_any]
  cases d.parts.any badPart <;> rfl

def inPart (n : Nat) (x : Int) : Bool := decide (0 ≤ x) && decide (x < (n : Int))
theorem ref_part (d : DescT) (x : Int) : g_ref05_Part d x = some (inPart d.parts.length x) := by
  unfold g_ref05_Part inPart
  cases decide (0 ≤ x) <;> cases decide (x < (d.parts.length : Int)) <;> rfl
theorem two_part (n : Nat) (a b : Int) : two n a b = ((a != b) && (inPart n a && inPart n b)) := by
  unfold two inPart
  rw [within_part, within_part]

/-- a loop over the ones ahead -/
theorem lp_ahead {γ R : Type} (l : List γ) (i : Nat) (hi : i < l.length) (step : Int → Option (Int ⊕ R)) (p : γ → Bool) (c fin : R)
    (h1 : ∀ (k : Nat) x, k < i → l[k]? = some x → step (k : Int) = some (bif p x then .inr c else .inl ((k + 1 : Nat) : Int)))
    (h2 : step (i : Int) = some (.inr fin)) : lp step 0 = some (bif (l.take i).any p then c else fin) := by
  have hl : (l.take i).length = i := by rw [List.length_take]; omega
  have key := lp_stop (l.take i) step (fun _ => p) (fun _ _ => c) fin (fun k x hk hx => by
      rw [hl] at hk
      refine h1 k x hk ?_
      rw [List.getElem?_take_of_lt hk] at hx
      exact hx) (by rw [hl]; exact h2)
  rw [key, stop_const, anyI_any]

theorem ref_edges (d : DescT) (h : ShortD d) : g_ref05_edges d = some (!(anyI (badEdge d) 0 d.edges)) := by
  have key := lp_stop d.edges (g_ref05_edges_L1 d) (badEdge d) (fun _ _ => .inl ()) (.inr ()) (fun i x hi hx => by
      have inner := lp_ahead d.edges i hi (g_ref05_edges_L0 d (i : Int) x) (sameE x) (.inl ()) (.inr ()) (fun k y hk hy => by
          simp only [g_ref05_edges_L0, lt_t hk, at_some hy, Option.bind_some, w64_succ hk (Nat.lt_trans hi h.e), cond_true, sameE]
          have e1 : (y.src == x.src) = (x.src == y.src) := Bool.beq_comm
          have e2 : (y.dst == x.dst) = (x.dst == y.dst) := Bool.beq_comm
          rw [e1, e2]
          cases (x.src == y.src) <;> cases (x.dst == y.dst) <;> rfl) (by simp only [g_ref05_edges_L0, lt_f]; rfl)
      simp only [g_ref05_edges_L1, lt_t hi, at_some hx, Option.bind_some, w64_succ hi h.e, cond_true, ref_part, badEdge, two_part, inner, bne]
      cases inPart d.parts.length x.src <;> cases inPart d.parts.length x.dst <;> cases (x.src == x.dst) <;> cases (d.edges.take i).any (sameE x) <;> rfl) (by simp only [g_ref05_edges_L1, lt_f]; rfl)
  unfold g_ref05_edges
  rw [key, stop_const]
  cases anyI (badEdge d) 0 d.edges <;> rfl

theorem ref_futures (d : DescT) (h : ShortD d) : g_ref05_futures d = some (!(anyI (badFuture d) 0 d.futures)) := by
  have key := lp_stop d.futures (g_ref05_futures_L1 d) (badFuture d) (fun _ _ => .inl ()) (.inr ()) (fun i x hi hx => by
      have inner := lp_ahead d.futures i hi (g_ref05_futures_L0 d (i : Int) x) (again x) (.inl ()) (.inr ()) (fun k y hk hy => by
          simp only [g_ref05_futures_L0, lt_t hk, at_some hy, Option.bind_some, w64_succ hk (Nat.lt_trans hi h.f), cond_true, again]
          cases (y.user == x.user) <;> cases (y.pos == x.pos) <;> rfl) (by simp only [g_ref05_futures_L0, lt_f]; rfl)
      simp only [g_ref05_futures_L1, lt_t hi, at_some hx, Option.bind_some, w64_succ hi h.f, cond_true, ref_part, badFuture, two_part, inner, bne]
      cases h1 : inPart d.parts.length x.maker with
      | false => cases (x.maker == x.user) <;> rfl
      | true =>
        cases h2 : inPart d.parts.length x.user with
        | false => cases (x.maker == x.user) <;> rfl
        | true =>
          simp only [inPart, Bool.and_eq_true, decide_eq_true_eq] at h2
          have u2 : x.user.toNat < d.parts.length := by omega
          have wa : workAt d.parts x.user = d.parts[x.user.toNat].work := by simp only [workAt, List.getElem?_eq_getElem u2]
          rw [getI_in h2.1 u2, wa]
          have e1 : decide (x.pos < 1) = !decide (1 ≤ x.pos) := by rw [← decide_not]; exact decide_eq_decide.2 (by omega)
          have e2 : decide (d.parts[x.user.toNat].work ≤ x.pos) = !decide (x.pos ≤ d.parts[x.user.toNat].work - 1) := by rw [← decide_not]; exact decide_eq_decide.2 (by omega)
          simp only [Option.bind_some, within, e1, e2]
          cases (x.maker == x.user) <;> cases decide (1 ≤ x.pos) <;> cases decide (x.pos ≤ d.parts[x.user.toNat].work - 1) <;> cases (d.futures.take i).any (again x) <;> rfl) (by simp only [g_ref05_futures_L1, lt_f]; rfl)
  unfold g_ref05_futures
  rw [key, stop_const]
  cases anyI (badFuture d) 0 d.futures <;> rfl

theorem ref_row (d : DescT) (hd : d.parts.length < 9223372036854775808) (l : List Int) (hl : l.length < 9223372036854775808) : g_ref05_row d l = some (rowOK d.parts.length l) := by
  have key := lp_stop l (g_ref05_row_L0 d l) (badAt d.parts.length l) (fun _ _ => .inl ()) (.inr ()) (fun i x hi hx => by
      simp only [g_ref05_row_L0, lt_t hi, at_some hx, Option.bind_some, w64_succ hi hl, cond_true, ref_part, badAt, within_part]
      show (bif inPart d.parts.length x then _ else _) = some (bif !(inPart d.parts.length x) || _ then _ else _)
      cases inPart d.parts.length x with
      | false => rfl
      | true =>
        cases i with
        | zero => rfl
        | succ i =>
          rw [decide_eq_true (show (0 : Int) < ((i + 1 : Nat) : Int) by omega), w64_id (by omega) (by omega), show (((i + 1 : Nat) : Int) - 1) = (i : Int) by omega]
          have hi2 : l[i]? = some l[i] := List.getElem?_eq_getElem (by omega)
          rw [at_some hi2]
          simp only [cond_true, Option.bind_some, Bool.not_true, Bool.false_or, hi2]
          cases decide (x ≤ l[i]) <;> rfl) (by simp only [g_ref05_row_L0, lt_f]; rfl)
  unfold g_ref05_row rowOK
  rw [key, stop_const]
  exact row_end _ _

theorem ref_has (l : List Int) (n : Int) (hl : l.length < 9223372036854775808) : g_ref04_Has l n = some (l.any fun x => n == x) := by
  have key := lp_stop l (g_ref04_Has_L0 l n) (fun _ x => n == x) (fun _ _ => .inl ()) (.inr ()) (fun i x hi hx => by
      have e : (x == n) = (n == x) := Bool.beq_comm
      simp only [g_ref04_Has_L0, lt_t hi, at_some hx, Option.bind_some, w64_succ hi hl, cond_true, e]
      cases (n == x) <;> rfl) (by simp only [g_ref04_Has_L0, lt_f]; rfl)
  unfold g_ref04_Has
  rw [key, stop_const, anyI_any]
  cases (l.any fun x => n == x) <;> rfl

theorem ref_barriers (d : DescT) (h : ShortD d) : g_ref05_barriers d = some (!(d.barriers.any (badBarrier d.parts.length))) := by
  have key := lp_stop d.barriers (g_ref05_barriers_L1 d) (fun _ => badBarrier d.parts.length) (fun _ _ => .inl ()) (.inr ()) (fun i x hi hx => by
      have hb := h.i x (List.mem_of_getElem? hx)
      have inner := lp_stop x.ins (g_ref05_barriers_L0 x) (fun _ => isOut x) (fun _ _ => .inl ()) (.inr ()) (fun k y hk hy => by
          simp only [g_ref05_barriers_L0, lt_t hk, at_some hy, Option.bind_some, w64_succ hk hb.1, cond_true, ref_has _ _ hb.2, isOut]
          cases (x.outs.any fun z => y == z) <;> rfl) (by simp only [g_ref05_barriers_L0, lt_f]; rfl)
      rw [stop_const, anyI_any] at inner
      simp only [g_ref05_barriers_L1, lt_t hi, at_some hx, Option.bind_some, w64_succ hi h.b, cond_true, ref_row d h.p _ hb.1, ref_row d h.p _ hb.2, badBarrier, inner]
      cases rowOK d.parts.length x.ins <;> cases rowOK d.parts.length x.outs <;> cases x.ins.any (isOut x) <;> rfl) (by simp only [g_ref05_barriers_L1, lt_f]; rfl)
  unfold g_ref05_barriers
  rw [key, stop_const, anyI_any]
  cases d.barriers.any (badBarrier d.parts.length) <;> rfl

theorem ref_check (d : DescT) (h : ShortD d) : g_ref05_Check d = some (checkD d) := by
  unfold g_ref05_Check checkD manyOK within
  simp only [ref_time, ref_parts d h, ref_edges d h, ref_futures d h, ref_barriers d h, Option.bind_some]
  have e1 : decide ((d.parts.length : Int) < 1) = !decide (1 ≤ (d.parts.length : Int)) := by rw [← decide_not]; exact decide_eq_decide.2 (by omega)
  have e2 : decide (16 < (d.parts.length : Int)) = !decide ((d.parts.length : Int) ≤ 16) := by rw [← decide_not]; exact decide_eq_decide.2 (by omega)
  rw [e1, e2]
  cases decide (1 ≤ (d.parts.length : Int)) with
  | false => rfl
  | true =>
    cases decide ((d.parts.length : Int) ≤ 16) with
    | false => rfl
    | true =>
      cases decide ((48 : Int) < d.edges.length) with
      | true => rfl
      | false =>
        cases decide ((16 : Int) < d.futures.length) with
        | true => rfl
        | false =>
          cases decide ((4 : Int) < d.barriers.length) with
          | true => rfl
          | false => cases timeOK d <;> cases d.parts.any badPart <;> cases anyI (badEdge d) 0 d.edges <;> cases anyI (badFuture d) 0 d.futures <;> cases d.barriers.any (badBarrier d.parts.length) <;> rfl
end Go.Proofs.YtakebhleglnpjaaDoor
