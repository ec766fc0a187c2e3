/- Chapter 5: the same ones; tasks that aren't too great; tasks of their own memory. -/
import Derived.Test.YtakebhleglnpjaaDoorP05c
namespace Go.Proofs.YtakebhleglnpjaaDoor
open Go Go.Proofs.YtakebhleglnpjaaDoorE
set_option linter.unusedVariables false
set_option linter.unusedSimpArgs false

theorem eq_part_p (a b : List PartT) (hl : a.length < 9223372036854775808) : g_slices_Equal_l_Part_Part a b = some (decide (a = b)) := by
  unfold g_slices_Equal_l_Part_Part
  by_cases he : a.length = b.length
  · have key := lp_same a b he (g_slices_Equal_l_Part_Part_L0 a b) (fun i x y hi hx hy => by
        simp only [g_slices_Equal_l_Part_Part_L0, lt_t hi, at_some hx, at_some hy, Option.bind_some, w64_succ hi hl, cond_true]
        have e : (!((x.op == y.op) && ((x.arg == y.arg) && ((x.work == y.work) && true)))) = !decide (x = y) := by
          rw [Bool.eq_iff_iff]; cases x; cases y; simp
        rw [e]
        cases decide (x = y) <;> rfl) (by simp only [g_slices_Equal_l_Part_Part_L0, lt_f]; rfl)
    rw [key, show ((a.length : Int) != (b.length : Int)) = false by rw [he]; simp]
    cases decide (a = b) <;> rfl
  · rw [show ((a.length : Int) != (b.length : Int)) = true by simp; omega, decide_eq_false (fun h => he (by rw [h]))]
    rfl
theorem eq_edge_p (a b : List EdgeT) (hl : a.length < 9223372036854775808) : g_slices_Equal_l_Edge_Edge a b = some (decide (a = b)) := by
  unfold g_slices_Equal_l_Edge_Edge
  by_cases he : a.length = b.length
  · have key := lp_same a b he (g_slices_Equal_l_Edge_Edge_L0 a b) (fun i x y hi hx hy => by
        simp only [g_slices_Equal_l_Edge_Edge_L0, lt_t hi, at_some hx, at_some hy, Option.bind_some, w64_succ hi hl, cond_true]
        have e : (!((x.src == y.src) && ((x.dst == y.dst) && true))) = !decide (x = y) := by
          rw [Bool.eq_iff_iff]; cases x; cases y; simp
        rw [e]
        cases decide (x = y) <;> rfl) (by simp only [g_slices_Equal_l_Edge_Edge_L0, lt_f]; rfl)
    rw [key, show ((a.length : Int) != (b.length : Int)) = false by rw [he]; simp]
    cases decide (a = b) <;> rfl
  · rw [show ((a.length : Int) != (b.length : Int)) = true by simp; omega, decide_eq_false (fun h => he (by rw [h]))]
    rfl
theorem eq_future_p (a b : List FutureT) (hl : a.length < 9223372036854775808) : g_slices_Equal_l_Future_Future a b = some (decide (a = b)) := by
  unfold g_slices_Equal_l_Future_Future
  by_cases he : a.length = b.length
  · have key := lp_same a b he (g_slices_Equal_l_Future_Future_L0 a b) (fun i x y hi hx hy => by
        simp only [g_slices_Equal_l_Future_Future_L0, lt_t hi, at_some hx, at_some hy, Option.bind_some, w64_succ hi hl, cond_true]
        have e : (!((x.maker == y.maker) && ((x.user == y.user) && ((x.pos == y.pos) && true)))) = !decide (x = y) := by
          rw [Bool.eq_iff_iff]; cases x; cases y; simp
        rw [e]
        cases decide (x = y) <;> rfl) (by simp only [g_slices_Equal_l_Future_Future_L0, lt_f]; rfl)
    rw [key, show ((a.length : Int) != (b.length : Int)) = false by rw [he]; simp]
    cases decide (a = b) <;> rfl
  · rw [show ((a.length : Int) != (b.length : Int)) = true by simp; omega, decide_eq_false (fun h => he (by rw [h]))]
    rfl
theorem eq_int_p (a b : List Int) (hl : a.length < 9223372036854775808) : g_slices_Equal_l_int_int a b = some (decide (a = b)) := by
  unfold g_slices_Equal_l_int_int
  by_cases he : a.length = b.length
  · have key := lp_same a b he (g_slices_Equal_l_int_int_L0 a b) (fun i x y hi hx hy => by
        simp only [g_slices_Equal_l_int_int_L0, lt_t hi, at_some hx, at_some hy, Option.bind_some, w64_succ hi hl, cond_true]
        have e : (x != y) = !decide (x = y) := by rw [Bool.eq_iff_iff]; simp
        rw [e]
        cases decide (x = y) <;> rfl) (by simp only [g_slices_Equal_l_int_int_L0, lt_f]; rfl)
    rw [key, show ((a.length : Int) != (b.length : Int)) = false by rw [he]; simp]
    cases decide (a = b) <;> rfl
  · rw [show ((a.length : Int) != (b.length : Int)) = true by simp; omega, decide_eq_false (fun h => he (by rw [h]))]
    rfl

theorem sameB_p (x y : BarrierT) (hx : Short x) : g_desc_Same_1 x y = some (decide (x = y)) := by
  unfold g_desc_Same_1
  simp only [eq_int_p _ _ hx.1, eq_int_p _ _ hx.2, Option.bind_some]
  obtain ⟨x1, x2⟩ := x
  obtain ⟨y1, y2⟩ := y
  by_cases h1 : x1 = y1 <;> by_cases h2 : x2 = y2 <;> simp [h1, h2]
theorem eq_barrier_p (a b : List BarrierT) (hl : a.length < 9223372036854775808) (hs : ∀ x ∈ a, Short x) : g_slices_EqualFunc_l_Barrier_l_Barrier_Barrier_Barrier a b (fun z0 z1 => g_desc_Same_1 z0 z1) = some (decide (a = b)) := by
  unfold g_slices_EqualFunc_l_Barrier_l_Barrier_Barrier_Barrier
  by_cases he : a.length = b.length
  · have key := lp_same a b he (g_slices_EqualFunc_l_Barrier_l_Barrier_Barrier_Barrier_L0 a b (fun z0 z1 => g_desc_Same_1 z0 z1)) (fun i x y hi hx hy => by
        simp only [g_slices_EqualFunc_l_Barrier_l_Barrier_Barrier_Barrier_L0, lt_t hi, at_some hx, at_some hy, Option.bind_some, w64_succ hi hl, cond_true, sameB_p x y (hs x (List.mem_of_getElem? hx))]
        cases decide (x = y) <;> rfl) (by simp only [g_slices_EqualFunc_l_Barrier_l_Barrier_Barrier_Barrier_L0, lt_f]; rfl)
    rw [key, show ((a.length : Int) != (b.length : Int)) = false by rw [he]; simp]
    cases decide (a = b) <;> rfl
  · rw [show ((a.length : Int) != (b.length : Int)) = true by simp; omega, decide_eq_false (fun h => he (by rw [h]))]
    rfl

theorem same_p (a b : DescT) (h : ShortD a) : g_desc_Same a b = some (decide (a = b)) := by
  unfold g_desc_Same
  simp only [eq_part_p _ _ h.p, eq_edge_p _ _ h.e, eq_future_p _ _ h.f, eq_barrier_p _ _ h.b h.i, Option.bind_some]
  obtain ⟨a1, a2, a3, a4, a5, a6⟩ := a
  obtain ⟨b1, b2, b3, b4, b5, b6⟩ := b
  by_cases h1 : a1 = b1
  · by_cases h2 : a2 = b2
    · by_cases h3 : a3 = b3 <;> by_cases h4 : a4 = b4 <;> by_cases h5 : a5 = b5 <;> by_cases h6 : a6 = b6 <;> simp [h1, h2, h3, h4, h5, h6]
    · rw [show (a2 == b2) = false by simpa using h2]; simp [h1, h2]
  · rw [show (a1 == b1) = false by simpa using h1]; simp [h1]

/-! the document's -/
theorem ref_ints (a b : List Int) (hl : a.length < 9223372036854775808) : g_ref02_Ints a b = some (decide (a = b)) := by
  unfold g_ref02_Ints
  by_cases he : a.length = b.length
  · have key := lp_same a b he (g_ref02_Ints_L0 a b) (fun i x y hi hx hy => by
        simp only [g_ref02_Ints_L0, lt_t hi, at_some hx, at_some hy, Option.bind_some, w64_succ hi hl, cond_true]
        have e : (x != y) = !decide (x = y) := by rw [Bool.eq_iff_iff]; simp
        rw [e]
        cases decide (x = y) <;> rfl) (by simp only [g_ref02_Ints_L0, lt_f]; rfl)
    rw [key, show ((a.length : Int) != (b.length : Int)) = false by rw [he]; simp]
    cases decide (a = b) <;> rfl
  · rw [show ((a.length : Int) != (b.length : Int)) = true by simp; omega, decide_eq_false (fun h => he (by rw [h]))]
    rfl
section
variable (a b : DescT) (h : ShortD a)
include h
theorem ref_same0 (he : a.parts.length = b.parts.length) : lp (g_ref05_Same_L0 a b) 0 = some (bif decide (a.parts = b.parts) then .inr () else .inl ()) :=
  lp_same a.parts b.parts he (g_ref05_Same_L0 a b) (fun i x y hi hx hy => by
      simp only [g_ref05_Same_L0, lt_t hi, at_some hx, at_some hy, Option.bind_some, w64_succ hi h.p, cond_true]
      have e : (!((x.op == y.op) && ((x.arg == y.arg) && ((x.work == y.work) && true)))) = !decide (x = y) := by
        rw [Bool.eq_iff_iff]; cases x; cases y; simp
      rw [e]
      cases decide (x = y) <;> rfl) (by simp only [g_ref05_Same_L0, lt_f]; rfl)
theorem ref_same1 (he : a.futures.length = b.futures.length) : lp (g_ref05_Same_L1 a b) 0 = some (bif decide (a.futures = b.futures) then .inr () else .inl ()) :=
  lp_same a.futures b.futures he (g_ref05_Same_L1 a b) (fun i x y hi hx hy => by
      simp only [g_ref05_Same_L1, lt_t hi, at_some hx, at_some hy, Option.bind_some, w64_succ hi h.f, cond_true]
      have e : (!((x.maker == y.maker) && ((x.user == y.user) && ((x.pos == y.pos) && true)))) = !decide (x = y) := by
        rw [Bool.eq_iff_iff]; cases x; cases y; simp
      rw [e]
      cases decide (x = y) <;> rfl) (by simp only [g_ref05_Same_L1, lt_f]; rfl)

theorem ref_same2 (he : a.barriers.length = b.barriers.length) : lp (g_ref05_Same_L2 a b) 0 = some (bif decide (a.barriers = b.barriers) then .inr () else .inl ()) :=
  lp_same a.barriers b.barriers he (g_ref05_Same_L2 a b) (fun i x y hi hx hy => by
      have hs := h.i x (List.mem_of_getElem? hx)
      simp only [g_ref05_Same_L2, lt_t hi, at_some hx, at_some hy, Option.bind_some, w64_succ hi h.b, cond_true, ref_ints _ _ hs.1, ref_ints _ _ hs.2]
      obtain ⟨x1, x2⟩ := x
      obtain ⟨y1, y2⟩ := y
      by_cases h1 : x1 = y1 <;> by_cases h2 : x2 = y2 <;> simp [h1, h2]) (by simp only [g_ref05_Same_L2, lt_f]; rfl)
theorem ref_same_edges : g_ref04_Same (DagT.mk ([] : List Int) a.edges) (DagT.mk ([] : List Int) b.edges) = some (decide (a.edges = b.edges)) := by
  unfold g_ref04_Same
  have z : lp (g_ref04_Same_L0 (DagT.mk ([] : List Int) a.edges) (DagT.mk ([] : List Int) b.edges)) 0 = some (.inr ()) := by
    rw [lp_eq]; rfl
  by_cases he : a.edges.length = b.edges.length
  · have key := lp_same a.edges b.edges he (g_ref04_Same_L1 (DagT.mk ([] : List Int) a.edges) (DagT.mk ([] : List Int) b.edges)) (fun i x y hi hx hy => by
        simp only [g_ref04_Same_L1, lt_t hi, at_some hx, at_some hy, Option.bind_some, w64_succ hi h.e, cond_true]
        have e : (!((x.src == y.src) && ((x.dst == y.dst) && true))) = !decide (x = y) := by
          rw [Bool.eq_iff_iff]; cases x; cases y; simp
        rw [e]
        cases decide (x = y) <;> rfl) (by simp only [g_ref04_Same_L1, lt_f]; rfl)
    simp only [z, key, Option.bind_some]
    rw [show ((a.edges.length : Int) != (b.edges.length : Int)) = false by rw [he]; simp]
    cases decide (a.edges = b.edges) <;> rfl
  · simp only []
    rw [show ((a.edges.length : Int) != (b.edges.length : Int)) = true by simp; omega, decide_eq_false (fun h => he (by rw [h]))]
    rfl
theorem ref_same : g_ref05_Same a b = some (decide (a = b)) := by
  unfold g_ref05_Same
  rw [ref_same_edges a b h]
  have n0 : ∀ {x y : Int}, x = y → (x != y) = false := fun h => by rw [h]; simp
  have n1 : ∀ {x y : Int}, x ≠ y → (x != y) = true := fun h => by simpa using h
  by_cases h1 : a.period = b.period
  case neg => rw [n1 h1, decide_eq_false (show ¬ a = b from fun h => h1 (by rw [h]))]; rfl
  by_cases h2 : a.deadline = b.deadline
  case neg => rw [n0 h1, n1 h2, decide_eq_false (show ¬ a = b from fun h => h2 (by rw [h]))]; rfl
  by_cases h3 : a.parts.length = b.parts.length
  case neg => rw [n0 h1, n0 h2, n1 (by omega), decide_eq_false (show ¬ a = b from fun h => h3 (by rw [h]))]; rfl
  by_cases h4 : a.futures.length = b.futures.length
  case neg => rw [n0 h1, n0 h2, n0 (by omega), n1 (by omega), decide_eq_false (show ¬ a = b from fun h => h4 (by rw [h]))]; rfl
  by_cases h5 : a.barriers.length = b.barriers.length
  case neg => rw [n0 h1, n0 h2, n0 (by omega), n0 (by omega), n1 (by omega), decide_eq_false (show ¬ a = b from fun h => h5 (by rw [h]))]; rfl
  rw [n0 h1, n0 h2, n0 (by omega), n0 (by omega), n0 (by omega), ref_same0 a b h h3, ref_same1 a b h h4, ref_same2 a b h h5]
  obtain ⟨a1, a2, a3, a4, a5, a6⟩ := a
  obtain ⟨b1, b2, b3, b4, b5, b6⟩ := b
  simp only at h1 h2
  subst h1 h2
  by_cases h3 : a3 = b3 <;> by_cases h4 : a4 = b4 <;> by_cases h5 : a5 = b5 <;> by_cases h6 : a6 = b6 <;> simp [h3, h4, h5, h6]
end

/-! tasks that aren't too great -/
def badFew (b : BarrierT) : Bool := decide (20 < (b.ins.length : Int)) || decide (20 < (b.outs.length : Int))
def few (d : DescT) : Bool := !((d.barriers.take 9).any badFew) && (decide ((d.parts.length : Int) ≤ 20) && (decide ((d.edges.length : Int) ≤ 60) && (decide ((d.futures.length : Int) ≤ 20) && decide ((d.barriers.length : Int) ≤ 8))))
theorem few_p (d : DescT) : g_ref05_Few d = some (few d) := by
  have hl : (d.barriers.take 9).length = min 9 d.barriers.length := List.length_take
  have key := lp_stop (d.barriers.take 9) (g_ref05_Few_L0 d) (fun _ => badFew) (fun _ _ => .inl ()) (.inr ()) (fun i x hi hx => by
      have h9 : i < 9 := by omega
      rw [List.getElem?_take_of_lt h9] at hx
      simp only [g_ref05_Few_L0, lt_t (show i < d.barriers.length by omega), at_some hx, Option.bind_some, w64_succ h9 (by omega), cond_true, badFew, decide_eq_true (show (i : Int) < 9 by omega)]
      cases decide (20 < (x.ins.length : Int)) <;> cases decide (20 < (x.outs.length : Int)) <;> rfl) (by
      rw [hl]
      unfold g_ref05_Few_L0
      by_cases h : d.barriers.length ≤ 9
      · rw [Nat.min_eq_right h, lt_f]; rfl
      · rw [Nat.min_eq_left (by omega), decide_eq_true (show ((9 : Nat) : Int) < d.barriers.length by omega)]; rfl)
  unfold g_ref05_Few few
  rw [key, stop_const, anyI_any]
  cases (d.barriers.take 9).any badFew <;> cases decide ((d.parts.length : Int) ≤ 20) <;> cases decide ((d.edges.length : Int) ≤ 60) <;> cases decide ((d.futures.length : Int) ≤ 20) <;> cases decide ((d.barriers.length : Int) ≤ 8) <;> rfl

/-- what a task that isn't too great is -/
structure Sized (d : DescT) : Prop where
  p : d.parts.length ≤ 20
  e : d.edges.length ≤ 60
  f : d.futures.length ≤ 20
  b : d.barriers.length ≤ 8
  i : ∀ b ∈ d.barriers, b.ins.length ≤ 20 ∧ b.outs.length ≤ 20
theorem few_sized {d : DescT} (h : few d = true) : Sized d := by
  unfold few at h
  simp only [Bool.and_eq_true, decide_eq_true_eq, Bool.not_eq_true'] at h
  obtain ⟨h1, h2, h3, h4, h5⟩ := h
  refine ⟨by omega, by omega, by omega, by omega, fun b hb => ?_⟩
  have := List.any_eq_false.1 h1 b (by rw [List.take_of_length_le (by omega)]; exact hb)
  simp only [badFew, Bool.or_eq_true, decide_eq_true_eq, not_or] at this
  omega
theorem Sized.short {d : DescT} (h : Sized d) : ShortD d :=
  ⟨by have := h.p; omega, by have := h.e; omega, by have := h.f; omega, by have := h.b; omega, fun b hb => ⟨by have := (h.i b hb).1; omega, by have := (h.i b hb).2; omega⟩⟩

theorem own_p (d : DescT) (h : Sized d) : g_law05_Own d = some d.barriers := by
  have key := lp_scan d.barriers (g_law05_Own_L0 d) (fun i (s : List BarrierT) => ((i : Int), s)) (fun i x s => bif Nat.ble (s.length + 1) lim then some (.inl (s ++ [x])) else none) (fun s => some s) (fun i x s hi hx => by
      have hb := h.i x (List.mem_of_getElem? hx)
      simp only [g_law05_Own_L0, lt_t hi, at_some hx, Option.bind_some, w64_succ hi h.short.b, cond_true, lim_t (show x.ins.length ≤ 1073741824 by omega), lim_t (show x.outs.length ≤ 1073741824 by omega)]
      cases Nat.ble (s.length + 1) lim <;> rfl) (fun s => by simp only [g_law05_Own_L0, lt_f]; rfl) []
  have sc : ∀ (l : List BarrierT) (i : Nat) (s : List BarrierT), s.length + l.length ≤ 1073741824 → scan (fun i x s => bif Nat.ble (s.length + 1) lim then some (Sum.inl (s ++ [x])) else (none : Option (List BarrierT ⊕ List BarrierT))) (fun s => some s) i l s = some (s ++ l) := by
    intro l
    induction l with
    | nil => intro i s _; simp [scan]
    | cons x l ih =>
      intro i s hs
      rw [List.length_cons] at hs
      unfold scan
      rw [lim_t (by omega)]
      simp only [cond_true]
      rw [ih (i + 1) (s ++ [x]) (by rw [List.length_append]; simp; omega)]
      simp
  rw [sc _ _ _ (by have := h.b; simp; omega)] at key
  unfold g_law05_Own
  rw [lim_t (show List.length d.parts ≤ 1073741824 by have := h.p; omega), lim_t (show List.length d.edges ≤ 1073741824 by have := h.e; omega), lim_t (show List.length d.futures ≤ 1073741824 by have := h.f; omega)]
  show (lp (g_law05_Own_L0 d) (((0 : Nat) : Int), [])).bind _ = _
  rw [key]
  rfl
end Go.Proofs.YtakebhleglnpjaaDoor
