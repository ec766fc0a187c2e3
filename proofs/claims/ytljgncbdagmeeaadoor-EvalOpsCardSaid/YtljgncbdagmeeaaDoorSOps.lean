/- What comes of a part: the program's way and the document's, plainly. -/
import Derived.Test.YtljgncbdagmeeaaDoorS1
import Derived.Test.YtljgncbdagmeeaaDoorE36
namespace Go.Proofs.YtljgncbdagmeeaaDoor
open Go Go.Proofs.YtljgncbdagmeeaaDoorE
set_option linter.unusedVariables false
set_option linter.unusedSimpArgs false

/-- a number as a value -/
def u32 (n : Int) : Int := n % 4294967296
theorem u32_b (n : Int) : 0 ≤ u32 n ∧ u32 n < 4294967296 := by unfold u32; omega
theorem wrap32 (n : Int) : IntKind.u32.wrap n = u32 n := by
  unfold IntKind.wrap u32
  rfl
theorem value_p (n : Int) : g_eval_value n = some (u32 n) := by
  unfold g_eval_value
  rw [wrap32]
theorem round_p {n : Int} (h1 : -9223372036854775808 ≤ n) (h2 : n < 9223372036854775808) : g_ref08_Round n = some (u32 n) := by
  unfold g_ref08_Round u32
  have hm : Int.tmod n 4294967296 = if 0 ≤ n ∨ (4294967296 : Int) ∣ n then n % 4294967296 else n % 4294967296 - 4294967296 := by
    rw [Int.tmod_eq_emod]
    split
    · exact Int.sub_zero _
    · rfl
  by_cases h0 : Int.tmod n 4294967296 < 0
  · rw [decide_eq_true h0]
    have hb : -4294967296 < Int.tmod n 4294967296 := Int.lt_tmod_of_pos n (by omega)
    simp only [cond_true]
    rw [w64_id (by omega) (by omega)]
    rw [hm] at h0 ⊢
    split at h0
    · omega
    · rename_i hc
      rw [if_neg hc]
      congr 1
      omega
  · rw [decide_eq_false h0]
    simp only [cond_false]
    rw [hm] at h0 ⊢
    split at h0
    · rename_i hc; rw [if_pos hc]
    · have := Int.emod_lt_of_pos n (show (0 : Int) < 4294967296 by omega)
      omega
theorem mul_b {a b m n : Int} (h1 : 0 ≤ a) (h2 : a ≤ m) (h3 : 0 ≤ b) (h4 : b ≤ n) : 0 ≤ a * b ∧ a * b ≤ m * n :=
  ⟨Int.mul_nonneg h1 h3, Int.mul_le_mul h2 h4 h3 (by omega)⟩
theorem times_p {a b : Int} (ha : 0 ≤ a ∧ a < 4294967296) (hb : 0 ≤ b ∧ b < 4294967296) : g_ref08_times a b = some (u32 (a * b)) := by
  unfold g_ref08_times
  have e1 : Int.tdiv a 65536 = a / 65536 := Int.tdiv_eq_ediv_of_nonneg ha.1
  have e2 : Int.tmod a 65536 = a % 65536 := Int.tmod_eq_emod_of_nonneg ha.1
  have hq : 0 ≤ a / 65536 ∧ a / 65536 ≤ 65535 := by omega
  have hr : 0 ≤ a % 65536 ∧ a % 65536 ≤ 65535 := by omega
  have m1 := mul_b hq.1 hq.2 hb.1 (show b ≤ 4294967295 by omega)
  have m2 := mul_b hr.1 hr.2 hb.1 (show b ≤ 4294967295 by omega)
  rw [e1, e2, w64_id (n := a / 65536) (by omega) (by omega), w64_id (n := a / 65536 * b) (by omega) (by omega), round_p (by omega) (by omega)]
  simp only [Option.bind_some]
  have hu := u32_b (a / 65536 * b)
  rw [Int.tmod_eq_emod_of_nonneg hu.1]
  have hs : 0 ≤ u32 (a / 65536 * b) % 65536 ∧ u32 (a / 65536 * b) % 65536 ≤ 65535 := by omega
  rw [w64_id (n := u32 (a / 65536 * b) % 65536 * 65536) (by omega) (by omega), w64_id (n := a % 65536 * b) (by omega) (by omega), w64_id (by omega) (by omega), round_p (by omega) (by omega)]
  simp only [Option.bind_some]
  congr 1
  have hab : a * b = 65536 * (a / 65536 * b) + a % 65536 * b := by
    conv => lhs; rw [← Int.mul_ediv_add_emod a 65536]
    rw [Int.add_mul, Int.mul_assoc]
  unfold u32
  rw [hab]
  generalize a / 65536 * b = x
  generalize a % 65536 * b = y
  omega

/-- one more value -/
def takeOp (op : Int) (out v : Int) : Int := if op = 2 then u32 (out + v) else if op = 3 then u32 (out * v) else if op = 4 then (bif decide (out < v) then v else out) else u32 (u32 (out * 31) + v)
theorem takeOp_b {op out v : Int} (h : 0 ≤ out ∧ out < 4294967296) (hv : 0 ≤ v ∧ v < 4294967296) : 0 ≤ takeOp op out v ∧ takeOp op out v < 4294967296 := by
  unfold takeOp
  split
  · exact u32_b _
  split
  · exact u32_b _
  split
  · cases decide (out < v) <;> simp [h, hv]
  · exact u32_b _
def foldOp (op : Int) : Int → List Int → Int
  | out, [] => out
  | out, v :: l => foldOp op (takeOp op out (u32 v)) l
theorem foldOp_b (op : Int) : ∀ (l : List Int) (out : Int), 0 ≤ out ∧ out < 4294967296 → 0 ≤ foldOp op out l ∧ foldOp op out l < 4294967296
  | [], out, h => h
  | v :: l, out, h => foldOp_b op l _ (takeOp_b h (u32_b v))
theorem lp_fold (op : Int) (l : List Int) (step : Int × Int → Option ((Int × Int) ⊕ Int))
    (h1 : ∀ (i : Nat) (x out : Int), i < l.length → l[i]? = some x → 0 ≤ out ∧ out < 4294967296 → step (out, (i : Int)) = some (.inl (takeOp op out (u32 x), ((i + 1 : Nat) : Int))))
    (h2 : ∀ out, step (out, (l.length : Int)) = some (.inr out)) (out : Int) (ho : 0 ≤ out ∧ out < 4294967296) : lp step (out, 0) = some (foldOp op out l) := by
  have key : ∀ k i : Nat, i + k = l.length → ∀ out, 0 ≤ out ∧ out < 4294967296 → lp step (out, (i : Int)) = some (foldOp op out (l.drop i)) := by
    intro k
    induction k with
    | zero =>
      intro i hi out ho
      have : i = l.length := by omega
      subst this
      rw [lp_eq, h2, List.drop_length]
      rfl
    | succ k ih =>
      intro i hi out ho
      have hi' : i < l.length := by omega
      rw [lp_eq, h1 i l[i] out hi' (List.getElem?_eq_getElem hi') ho, List.drop_eq_getElem_cons hi']
      exact ih (i + 1) (by omega) _ (takeOp_b ho (u32_b _))
  have := key l.length 0 (by omega) out ho
  rwa [List.drop_zero] at this

theorem ways1_p (a b : Int) : g_eval_ways_1 a b = some (takeOp 2 a b) := by unfold g_eval_ways_1; rw [wrap32]; rfl
theorem ways2_p (a b : Int) : g_eval_ways_2 a b = some (takeOp 3 a b) := by unfold g_eval_ways_2; rw [wrap32]; rfl
theorem ways3_p (a b : Int) : g_eval_ways_3 a b = some (takeOp 4 a b) := by unfold g_eval_ways_3; rfl
theorem ways4_p (a b : Int) : g_eval_ways_4 a b = some (takeOp 5 a b) := by unfold g_eval_ways_4; rw [wrap32, wrap32]; rfl

/-- the inputs by their places -/
def places (l : List Int) (k : Nat) : List (Int × Int) := (List.range k).map fun i : Nat => ((i : Int), (l[i]?).getD 0)
theorem places_succ (l : List Int) (k : Nat) : places l (k + 1) = places l k ++ [((k : Int), (l[k]?).getD 0)] := by simp [places, List.range_succ]
theorem mapPut_new {K W : Type} (eq : K → K → Bool) (k : K) (v : W) : ∀ l : List (K × W), (∀ q ∈ l, eq k q.1 = false) → mapPut eq l k v = l ++ [(k, v)]
  | [], _ => rfl
  | (a, u) :: r, h => by
    unfold mapPut
    rw [h (a, u) (by simp)]
    simp only [cond_false, List.cons_append]
    rw [mapPut_new eq k v r fun q hq => h q (by simp [hq])]
theorem mapGet_none {K W : Type} (eq : K → K → Bool) (k : K) (z : W) : ∀ l : List (K × W), (∀ q ∈ l, eq k q.1 = false) → mapGet eq l k z = z
  | [], _ => rfl
  | (a, u) :: r, h => by
    unfold mapGet
    rw [h (a, u) (by simp)]
    exact mapGet_none eq k z r fun q hq => h q (by simp [hq])
theorem mapGet_append {K W : Type} (eq : K → K → Bool) (k : K) (z : W) (m : List (K × W)) : ∀ l : List (K × W), (∀ q ∈ l, eq k q.1 = false) → mapGet eq (l ++ m) k z = mapGet eq m k z
  | [], _ => rfl
  | (a, u) :: r, h => by
    rw [List.cons_append]
    conv => lhs; unfold mapGet
    rw [h (a, u) (by simp)]
    exact mapGet_append eq k z m r fun q hq => h q (by simp [hq])
theorem mapGet_front {K W : Type} (eq : K → K → Bool) (k : K) (z : W) (m : List (K × W)) : ∀ l : List (K × W), (∃ q ∈ l, eq k q.1 = true) → mapGet eq (l ++ m) k z = mapGet eq l k z
  | [], h => by obtain ⟨q, hq, _⟩ := h; simp at hq
  | (a, u) :: r, h => by
    rw [List.cons_append]
    unfold mapGet
    cases hb : eq k a with
    | true => rfl
    | false =>
      simp only [cond_false]
      refine mapGet_front eq k z m r ?_
      obtain ⟨q, hq, hk⟩ := h
      rcases List.mem_cons.1 hq with rfl | hq
      · rw [hb] at hk; cases hk
      · exact ⟨q, hq, hk⟩
abbrev eqI : Int → Int → Bool := fun ka kb : Int => (ka == kb)
theorem places_ne (l : List Int) (k : Nat) (j : Int) (hj : j < 0 ∨ (k : Int) ≤ j) : ∀ q ∈ places l k, eqI j q.1 = false := by
  intro q hq
  simp only [places, List.mem_map, List.mem_range] at hq
  obtain ⟨i, hi, rfl⟩ := hq
  show (j == (i : Int)) = false
  simp; omega
theorem places_get (l : List Int) : ∀ (k : Nat) (j : Nat), j < k → mapGet eqI (places l k) (j : Int) 0 = (l[j]?).getD 0
  | k + 1, j, h => by
    rw [places_succ]
    by_cases hk : j = k
    · subst hk
      rw [mapGet_append eqI _ _ _ _ (places_ne l j j (.inr (by omega)))]
      show (bif ((j : Int) == (j : Int)) then _ else _) = _
      rw [beq_self_eq_true]; rfl
    · rw [mapGet_front eqI _ _ _ _ ⟨((j : Int), (l[j]?).getD 0), by simp only [places, List.mem_map, List.mem_range]; exact ⟨j, by omega, rfl⟩, by simp [eqI]⟩]
      exact places_get l k j (by omega)
theorem input_p (l : List Int) (hl : l.length ≤ 1000) : lp (g_eval_Op_L0 l) (0, ([] : List (Int × Int))) = some (places l l.length) := by
  have key : ∀ k i : Nat, i + k = l.length → lp (g_eval_Op_L0 l) ((i : Int), places l i) = some (places l l.length) := by
    intro k
    induction k with
    | zero =>
      intro i hi
      have : i = l.length := by omega
      subst this
      rw [lp_eq]
      simp only [g_eval_Op_L0, lt_f, cond_false]
    | succ k ih =>
      intro i hi
      have hi' : i < l.length := by omega
      have hx : l[i]? = some l[i] := List.getElem?_eq_getElem hi'
      have e := mapPut_new eqI (i : Int) l[i] (places l i) (places_ne l i i (.inr (by omega)))
      have ih' := ih (i + 1) (by omega)
      rw [places_succ, hx] at ih'
      rw [lp_eq]
      simp only [g_eval_Op_L0, lt_t hi', at_some hx, Option.bind_some, cond_true, w64_succ hi' (show l.length < 9223372036854775808 by omega), e]
      exact ih'
  exact key l.length 0 (by omega)

/-- what comes of a part -/
def opV (p : PartT) (input vals : List Int) : Int :=
  if p.op = 0 then (if p.arg < 0 ∨ (input.length : Int) ≤ p.arg then 0 else u32 ((input[p.arg.toNat]?).getD 0)) else
  if p.op = 1 then u32 p.arg else if p.op < 0 ∨ 5 < p.op then 0 else foldOp p.op (if p.op = 3 then 1 else if p.op = 5 then 7 else 0) vals
theorem opV_b (p : PartT) (input vals : List Int) : 0 ≤ opV p input vals ∧ opV p input vals < 4294967296 := by
  unfold opV
  split
  · split
    · omega
    · exact u32_b _
  split
  · exact u32_b _
  split
  · omega
  · refine foldOp_b _ _ _ ?_
    split
    · omega
    · split <;> omega

theorem evalOp_p (p : PartT) (input vals : List Int) (h1 : input.length ≤ 1000) (h2 : vals.length ≤ 1000) : g_eval_Op p input vals = some (opV p input vals) := by
  have hl : vals.length < 9223372036854775808 := by omega
  have fin : ∀ x : Int, 0 ≤ x ∧ x < 4294967296 → (some x).bind (fun r => some (w64 r)) = some x := fun x h => by
    show some (w64 x) = some x
    rw [w64_id (by omega) (by omega)]
  unfold g_eval_Op opV
  by_cases c0 : p.op = 0
  · rw [c0, beq_self_eq_true, if_pos rfl]
    simp only [cond_true]
    rw [input_p input h1]
    simp only [Option.bind_some, value_p]
    by_cases c : p.arg < 0 ∨ (input.length : Int) ≤ p.arg
    · rw [if_pos c, mapGet_none eqI _ _ _ (places_ne input input.length p.arg c)]
      rfl
    · rw [if_neg c]
      obtain ⟨j, hj⟩ : ∃ j : Nat, p.arg = (j : Int) := ⟨p.arg.toNat, by omega⟩
      rw [hj, places_get input input.length j (by omega), Int.toNat_natCast]
      exact fin _ (u32_b _)
  rw [show (p.op == 0) = false by simpa using c0, if_neg c0]
  by_cases c1 : p.op = 1
  · rw [c1, if_pos rfl]
    simp only [cond_false, beq_self_eq_true, cond_true, value_p]
    exact fin _ (u32_b _)
  rw [show (p.op == 1) = false by simpa using c1, if_neg c1]
  simp only [cond_false]
  by_cases c2 : p.op < 0
  · rw [decide_eq_true c2, if_pos (.inl c2)]; rfl
  by_cases c3 : 5 < p.op
  · rw [decide_eq_false c2, decide_eq_true c3, if_pos (.inr c3)]; rfl
  rw [decide_eq_false c2, decide_eq_false c3, if_neg (by omega), w64_id (by omega) (by omega), decide_eq_true (show 0 ≤ p.op - 2 by omega), decide_eq_true (show p.op - 2 < 4 by omega)]
  have hw : g_eval_ways = some () := rfl
  simp only [cond_false, hw, Option.bind_some, Bool.and_self, cond_true]
  have h4 : p.op = 2 ∨ p.op = 3 ∨ p.op = 4 ∨ p.op = 5 := by omega
  rcases h4 with h | h | h | h <;> rw [h]
  · have := lp_fold 2 vals (g_eval_Op_L1 vals) (fun i x out hi hx ho => by
      simp only [g_eval_Op_L1, lt_t hi, at_some hx, Option.bind_some, cond_true, w64_succ hi hl, value_p, ways1_p]) (fun out => by simp only [g_eval_Op_L1, lt_f]; rfl) 0 (by omega)
    show (lp (g_eval_Op_L1 vals) (0, 0)).bind _ = _
    rw [this]
    exact fin _ (foldOp_b _ _ _ (by omega))
  · have := lp_fold 3 vals (g_eval_Op_L1_2 vals) (fun i x out hi hx ho => by
      simp only [g_eval_Op_L1_2, lt_t hi, at_some hx, Option.bind_some, cond_true, w64_succ hi hl, value_p, ways2_p]) (fun out => by simp only [g_eval_Op_L1_2, lt_f]; rfl) 1 (by omega)
    show (lp (g_eval_Op_L1_2 vals) (1, 0)).bind _ = _
    rw [this]
    exact fin _ (foldOp_b _ _ _ (by omega))
  · have := lp_fold 4 vals (g_eval_Op_L1_3 vals) (fun i x out hi hx ho => by
      simp only [g_eval_Op_L1_3, lt_t hi, at_some hx, Option.bind_some, cond_true, w64_succ hi hl, value_p, ways3_p]) (fun out => by simp only [g_eval_Op_L1_3, lt_f]; rfl) 0 (by omega)
    show (lp (g_eval_Op_L1_3 vals) (0, 0)).bind _ = _
    rw [this]
    exact fin _ (foldOp_b _ _ _ (by omega))
  · have := lp_fold 5 vals (g_eval_Op_L1_4 vals) (fun i x out hi hx ho => by
      simp only [g_eval_Op_L1_4, lt_t hi, at_some hx, Option.bind_some, cond_true, w64_succ hi hl, value_p, ways4_p]) (fun out => by simp only [g_eval_Op_L1_4, lt_f]; rfl) 7 (by omega)
    show (lp (g_eval_Op_L1_4 vals) (7, 0)).bind _ = _
    rw [this]
    exact fin _ (foldOp_b _ _ _ (by omega))

theorem ref08Op_p (p : PartT) (input vals : List Int) (h1 : input.length ≤ 1000) (h2 : vals.length ≤ 1000) (hp : -9223372036854775808 ≤ p.arg ∧ p.arg < 9223372036854775808) (hi : ∀ x ∈ input, -9223372036854775808 ≤ x ∧ x < 9223372036854775808) (hv : ∀ x ∈ vals, -9223372036854775808 ≤ x ∧ x < 9223372036854775808) :
    g_ref08_Op p input vals = some (opV p input vals) := by
  have hl : vals.length < 9223372036854775808 := by omega
  have rd : ∀ (i : Nat) (x : Int), vals[i]? = some x → g_ref08_Round x = some (u32 x) := fun i x hx => round_p (hv x (List.mem_of_getElem? hx)).1 (hv x (List.mem_of_getElem? hx)).2
  unfold g_ref08_Op opV
  by_cases c0 : p.op = 0
  · rw [c0, beq_self_eq_true, if_pos rfl]
    simp only [cond_true]
    by_cases c : p.arg < 0
    · rw [decide_eq_true c, if_pos (.inl c)]; rfl
    by_cases d : (input.length : Int) ≤ p.arg
    · rw [decide_eq_false c, decide_eq_true d, if_pos (.inr d)]; rfl
    rw [decide_eq_false c, decide_eq_false d, if_neg (by omega)]
    have hj : p.arg.toNat < input.length := by omega
    have hx : input[p.arg.toNat]? = some input[p.arg.toNat] := List.getElem?_eq_getElem hj
    have hb := hi _ (List.getElem_mem hj)
    rw [at_int (by omega) hx, hx]
    simp only [cond_false, Option.bind_some, round_p hb.1 hb.2]
    rfl
  rw [show (p.op == 0) = false by simpa using c0, if_neg c0]
  by_cases c1 : p.op = 1
  · rw [c1, if_pos rfl]
    simp only [cond_false, beq_self_eq_true, cond_true, round_p hp.1 hp.2]
    rfl
  rw [show (p.op == 1) = false by simpa using c1, if_neg c1]
  simp only [cond_false]
  by_cases c2 : p.op < 0
  · rw [decide_eq_true c2, if_pos (.inl c2)]; rfl
  by_cases c3 : 5 < p.op
  · rw [decide_eq_false c2, decide_eq_true c3, if_pos (.inr c3)]; rfl
  rw [decide_eq_false c2, decide_eq_false c3, if_neg (by omega)]
  simp only [cond_false]
  have h4 : p.op = 2 ∨ p.op = 3 ∨ p.op = 4 ∨ p.op = 5 := by omega
  rcases h4 with h | h | h | h <;> rw [h]
  · have := lp_fold 2 vals (g_ref08_Op_L0_4 p vals) (fun i x out hi hx ho => by
      have hb := u32_b x
      simp only [g_ref08_Op_L0_4, lt_t hi, at_some hx, Option.bind_some, cond_true, w64_succ hi hl, rd i x hx, h, beq_self_eq_true, w64_id (show -9223372036854775808 ≤ out + u32 x by omega) (by omega), round_p (show -9223372036854775808 ≤ out + u32 x by omega) (by omega)]
      rfl) (fun out => by simp only [g_ref08_Op_L0_4, lt_f]; rfl) 0 (by omega)
    show (lp (g_ref08_Op_L0_4 p vals) (0, 0)).bind _ = _
    rw [this]; rfl
  · have := lp_fold 3 vals (g_ref08_Op_L0_2 p vals) (fun i x out hi hx ho => by
      have hb := u32_b x
      simp only [g_ref08_Op_L0_2, lt_t hi, at_some hx, Option.bind_some, cond_true, w64_succ hi hl, rd i x hx, h, beq_self_eq_true, show ((3 : Int) == 2) = false from rfl, cond_false, times_p ho hb]
      rfl) (fun out => by simp only [g_ref08_Op_L0_2, lt_f]; rfl) 1 (by omega)
    show (lp (g_ref08_Op_L0_2 p vals) (1, 0)).bind _ = _
    rw [this]; rfl
  · have := lp_fold 4 vals (g_ref08_Op_L0_4 p vals) (fun i x out hi hx ho => by
      simp only [g_ref08_Op_L0_4, lt_t hi, at_some hx, Option.bind_some, cond_true, w64_succ hi hl, rd i x hx, h, beq_self_eq_true, show ((4 : Int) == 2) = false from rfl, show ((4 : Int) == 3) = false from rfl, cond_false]
      rfl) (fun out => by simp only [g_ref08_Op_L0_4, lt_f]; rfl) 0 (by omega)
    show (lp (g_ref08_Op_L0_4 p vals) (0, 0)).bind _ = _
    rw [this]; rfl
  · have := lp_fold 5 vals (g_ref08_Op_L0_3 p vals) (fun i x out hi hx ho => by
      have hb := u32_b x
      have e : u32 (out * 31 + u32 x) = u32 (u32 (out * 31) + u32 x) := by unfold u32; omega
      simp only [g_ref08_Op_L0_3, lt_t hi, at_some hx, Option.bind_some, cond_true, w64_succ hi hl, rd i x hx, h, beq_self_eq_true, show ((5 : Int) == 2) = false from rfl, show ((5 : Int) == 3) = false from rfl, show ((5 : Int) == 4) = false from rfl, cond_false,
        w64_id (show -9223372036854775808 ≤ out * 31 by omega) (by omega), w64_id (show -9223372036854775808 ≤ out * 31 + u32 x by omega) (by omega), round_p (show -9223372036854775808 ≤ out * 31 + u32 x by omega) (by omega), e]
      rfl) (fun out => by simp only [g_ref08_Op_L0_3, lt_f]; rfl) 7 (by omega)
    show (lp (g_ref08_Op_L0_3 p vals) (7, 0)).bind _ = _
    rw [this]; rfl
end Go.Proofs.YtljgncbdagmeeaaDoor
