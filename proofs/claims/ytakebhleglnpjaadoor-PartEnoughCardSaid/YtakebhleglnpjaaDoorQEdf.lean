/- Chapter 15, as far as chapter 16 asks: which shapes fit on one core, plainly. -/
import Derived.Test.YtakebhleglnpjaaDoorQNum
import Derived.Test.YtakebhleglnpjaaDoorQPart
namespace Go.Proofs.YtakebhleglnpjaaDoor
open Go Go.Proofs.YtakebhleglnpjaaDoorE
set_option linter.unusedVariables false
set_option linter.unusedSimpArgs false

def rng (n m : Int) : Bool := decide (1 ≤ n) && decide (n ≤ m)
theorem rng_p (n m : Int) : g_class_Check_1 n m = some (rng n m) := by
  unfold g_class_Check_1 rng
  cases decide (1 ≤ n) <;> cases decide (n ≤ m) <;> rfl
noncomputable def okShape (s : ShapeT) : Bool := twoB s.period && (!decide (4096 < s.period) && (rng s.deadline s.period && (rng s.total 4096 && (rng s.long s.total && rng s.most s.long))))
theorem class_p (s : ShapeT) : g_class_Check s = some (bif okShape s then 0 else 140) := by
  obtain ⟨k, hk⟩ := numTwo_p s.period
  unfold g_class_Check okShape
  simp only [hk, rng_p, Option.bind_some]
  cases twoB s.period <;> cases decide (4096 < s.period) <;> cases rng s.deadline s.period <;> cases rng s.total 4096 <;> cases rng s.long s.total <;> cases rng s.most s.long <;> rfl
structure OKShape (s : ShapeT) : Prop where
  p : s.period ≤ 4096
  d1 : 1 ≤ s.deadline
  d2 : s.deadline ≤ s.period
  t1 : 1 ≤ s.total
  t2 : s.total ≤ 4096
  l1 : 1 ≤ s.long
  l2 : s.long ≤ s.total
  m1 : 1 ≤ s.most
  m2 : s.most ≤ s.long
theorem ok_shape {s : ShapeT} (h : okShape s = true) : OKShape s := by
  unfold okShape rng at h
  simp only [Bool.and_eq_true, Bool.not_eq_true', decide_eq_false_iff_not, decide_eq_true_eq] at h
  obtain ⟨_, h1, h2, h3, h4, h5⟩ := h
  exact ⟨by omega, h2.1, h2.2, h3.1, h3.2, h4.1, h4.2, h5.1, h5.2⟩

theorem first_p (a b : Int) (ha : 0 ≤ a) (ha2 : a ≤ 1099511627775) (hb : 0 ≤ b) (hb2 : b ≤ 1099511627775) : g_num_first [a, b] = some 0 := by
  have ne : ∀ x : Int, 0 ≤ x → x ≤ 1099511627775 → g_num_first_1 x = some false := fun x h1 h2 => by
    unfold g_num_first_1
    rw [numCheck_p]
    unfold numErr
    rw [decide_eq_false (show ¬ x < 0 by omega), decide_eq_false (show ¬ 1099511627775 < x by omega)]
    rfl
  have key : lp (g_slices_IndexFunc_l_int_int_L0 [a, b] (fun z0 => g_num_first_1 z0)) 0 = some (.inr ()) := by
    have := lp_stop [a, b] (g_slices_IndexFunc_l_int_int_L0 [a, b] (fun z0 => g_num_first_1 z0)) (fun _ _ => false) (fun i _ => .inl (i : Int)) (.inr ()) (fun i x hi hx => by
      have hx' : x = a ∨ x = b := by
        have := List.mem_of_getElem? hx
        simpa using this
      have e : g_num_first_1 x = some false := by rcases hx' with rfl | rfl
                                                  · exact ne _ ha ha2
                                                  · exact ne _ hb hb2
      simp only [g_slices_IndexFunc_l_int_int_L0, lt_t hi, at_some hx, Option.bind_some, w64_succ hi (show [a, b].length < 9223372036854775808 by simp), cond_true, e, cond_false]) (by simp only [g_slices_IndexFunc_l_int_int_L0, lt_f]; rfl)
    rw [this]
    rfl
  unfold g_num_first g_slices_IndexFunc_l_int_int
  rw [key]
  rfl
theorem heavy_p (s : ShapeT) (h : okShape s = true) : g_class_Heavy s = some (decide (s.deadline < s.total)) := by
  have o := ok_shape h
  have o1 := o.p; have o2 := o.d1; have o3 := o.d2; have o4 := o.t1; have o5 := o.t2; have o6 := o.l1; have o7 := o.l2
  unfold g_class_Heavy
  rw [class_p, h]
  simp only [cond_true, Option.bind_some, beq_self_eq_true]
  unfold g_class_of
  by_cases h1 : s.deadline < s.total
  · rw [decide_eq_true h1]
    simp only [cond_true, Option.bind_some]
    unfold g_class_heavy_need g_class_light_need
    by_cases h2 : s.deadline ≤ s.long
    · rw [decide_eq_true h2]
      rfl
    · rw [decide_eq_false h2]
      have e1 : w64 (s.total - s.long) = s.total - s.long := w64_id (by omega) (by omega)
      have e2 : w64 (s.deadline - s.long) = s.deadline - s.long := w64_id (by omega) (by omega)
      have up : ∃ n, 2 ≤ n ∧ g_num_Up (s.total - s.long) (s.deadline - s.long) = some (n, 0) := by
        unfold g_num_Up g_num_quotient g_num_Up_1
        rw [first_p _ _ (by omega) (by omega) (by omega) (by omega)]
        have e3 : w64 (s.deadline - s.long - 1) = s.deadline - s.long - 1 := w64_id (by omega) (by omega)
        have e4 : w64 (s.total - s.long + (s.deadline - s.long - 1)) = s.total - s.long + (s.deadline - s.long - 1) := w64_id (by omega) (by omega)
        have hq : 2 ≤ (s.total - s.long + (s.deadline - s.long - 1)) / (s.deadline - s.long) := Int.le_ediv_of_mul_le (by omega) (by omega)
        have hq2 : (s.total - s.long + (s.deadline - s.long - 1)) / (s.deadline - s.long) ≤ s.total - s.long + (s.deadline - s.long - 1) := Int.ediv_le_self _ (by omega)
        refine ⟨(s.total - s.long + (s.deadline - s.long - 1)) / (s.deadline - s.long), hq, ?_⟩
        simp only [Option.bind_some, bne_self_eq_false, cond_false, show ((s.deadline - s.long) == 0) = false by simp; omega, e3, e4]
        rw [Int.tdiv_eq_ediv_of_nonneg (by omega), w64_id (by omega) (by omega)]
      obtain ⟨n, n1, n2⟩ := up
      simp only [cond_false, e1, e2, n2, Option.bind_some, beq_self_eq_true, cond_true]
      by_cases h3 : 8 < n
      · rw [decide_eq_true h3]; rfl
      · rw [decide_eq_false h3]
        simp only [cond_false, Option.bind_some, show (n == 1) = false by simp; omega, Bool.false_and, Bool.not_false, cond_true]
  · rw [decide_eq_false h1]
    rfl

noncomputable def okS (s : ShapeT) : Bool := okShape s && decide (s.total ≤ s.deadline)
theorem edf1_p (s : ShapeT) : g_edf_Check_1 s = some (!(okS s)) := by
  unfold g_edf_Check_1 okS
  rw [class_p]
  cases h : okShape s with
  | false => rfl
  | true =>
    rw [heavy_p s h]
    have e : decide (s.deadline < s.total) = !decide (s.total ≤ s.deadline) := by rw [← decide_not]; exact decide_eq_decide.2 (by omega)
    simp only [cond_true, Option.bind_some, bne_self_eq_false, cond_false, e]
    cases decide (s.total ≤ s.deadline) <;> rfl
noncomputable def checkL (l : List ShapeT) : Bool := !decide ((8 : Int) < (l.length : Int)) && !(l.any fun s => !(okS s))
theorem edf_p (l : List ShapeT) (hl : l.length ≤ 1000) : g_edf_Check l = some (bif checkL l then 0 else 150) := by
  have key : g_slices_ContainsFunc_l_Shape_Shape l (fun z0 => g_edf_Check_1 z0) = some (l.any fun s => !(okS s)) := by
    unfold g_slices_ContainsFunc_l_Shape_Shape g_slices_IndexFunc_l_Shape_Shape
    rw [lp_stop l (g_slices_IndexFunc_l_Shape_Shape_L0 l (fun z0 => g_edf_Check_1 z0)) (fun _ s => !(okS s)) (fun i _ => .inl (i : Int)) (.inr ()) (fun i x hi hx => by
      simp only [g_slices_IndexFunc_l_Shape_Shape_L0, lt_t hi, at_some hx, Option.bind_some, edf1_p, w64_succ hi (show l.length < 9223372036854775808 by omega), cond_true]
      cases okS x <;> rfl) (by simp only [g_slices_IndexFunc_l_Shape_Shape_L0, lt_f]; rfl)]
    rcases stop_index (fun s => !(okS s)) () l 0 with ⟨j, e1, e2⟩ | ⟨e1, e2⟩
    · rw [e1, e2]
      show (bif decide ((0 : Int) ≤ (j : Int)) then some true else some false) = some true
      rw [decide_eq_true (by omega)]
      rfl
    · rw [e1, e2]
      rfl
  unfold g_edf_Check checkL
  rw [key]
  cases decide ((8 : Int) < (l.length : Int)) with
  | true => rfl
  | false => cases (l.any fun s => !(okS s)) <;> rfl
theorem check_ok {l : List ShapeT} (h : checkL l = true) : l.length ≤ 8 ∧ ∀ s ∈ l, OKShape s ∧ s.total ≤ s.deadline := by
  unfold checkL at h
  simp only [Bool.and_eq_true, Bool.not_eq_true', decide_eq_false_iff_not] at h
  refine ⟨by omega, fun s hs => ?_⟩
  have := List.any_eq_false.1 h.2 s hs
  simp only [Bool.not_eq_true', Bool.not_eq_false] at this
  unfold okS at this
  simp only [Bool.and_eq_true, decide_eq_true_eq] at this
  exact ⟨ok_shape this.1, this.2⟩
theorem check_sub {l m : List ShapeT} (h : checkL l = true) (hs : m.Sublist l) : checkL m = true := by
  unfold checkL at *
  simp only [Bool.and_eq_true, Bool.not_eq_true', decide_eq_false_iff_not] at *
  have := hs.length_le
  refine ⟨by omega, ?_⟩
  rw [List.any_eq_false] at *
  exact fun s hm => h.2 s (hs.subset hm)

/-! what is due, and what blocks -/
def dterm (t : Int) (s : ShapeT) : Int := if t < s.deadline then 0 else s.total * ((t - s.deadline) / s.period + 1)
def bterm (t : Int) (s : ShapeT) : Int := if t < s.deadline then s.most else 0
def dem (t : Int) : List ShapeT → Int
  | [] => 0
  | s :: l => dterm t s + dem t l
def blk (t : Int) : List ShapeT → Int
  | [] => 0
  | s :: l => max (bterm t s) (blk t l)
def hor : List ShapeT → Int
  | [] => 0
  | s :: l => max s.period (hor l)
theorem fold_p (l : List ShapeT) (hl : l.length ≤ 8) (b : Int → ShapeT → Option Int) (F : Int → ShapeT → Int) (h : ∀ n s, s ∈ l → 0 ≤ n → n ≤ 1073741824 → b n s = some (F n s) ∧ 0 ≤ F n s ∧ F n s ≤ n + 33554432) : g_edf_fold l b = some (l.foldl F 0) := by
  have key := lp_scan l (g_edf_fold_L0 l b) (fun i (n : Int) => (n, (i : Int))) (fun i x n => (b n x).map Sum.inl) (fun n => some n) (fun i x n hi hx => by
      simp only [g_edf_fold_L0, lt_t hi, at_some hx, Option.bind_some, w64_succ hi (show l.length < 9223372036854775808 by omega), cond_true]
      cases b n x <;> rfl) (fun n => by simp only [g_edf_fold_L0, lt_f]; rfl) 0
  have sc : ∀ (m : List ShapeT) (i : Nat) (n : Int), (∀ s ∈ m, s ∈ l) → 0 ≤ n → n + 33554432 * m.length ≤ 1073741824 → scan (fun (_ : Nat) x n => (b n x).map (Sum.inl : Int → Int ⊕ Int)) (fun n => some n) i m n = some (m.foldl F n) := by
    intro m
    induction m with
    | nil => intro i n _ _ _; rfl
    | cons x m ih =>
      intro i n hm h0 hn
      rw [List.length_cons] at hn
      obtain ⟨h1, h2, h3⟩ := h n x (hm x (by simp)) h0 (by omega)
      unfold scan
      rw [h1]
      exact ih (i + 1) (F n x) (fun s hs => hm s (by simp [hs])) h2 (by omega)
  have key2 : lp (g_edf_fold_L0 l b) (0, 0) = _ := key
  unfold g_edf_fold
  rw [key2, sc l 0 0 (fun s h => h) (by omega) (by omega)]
  rfl
theorem foldl_add (g : ShapeT → Int) (f : List ShapeT → Int) (h0 : f [] = 0) (h1 : ∀ s l, f (s :: l) = g s + f l) : ∀ (l : List ShapeT) (n : Int), l.foldl (fun n s => n + g s) n = n + f l
  | [], n => by rw [h0]; simp
  | s :: l, n => by
    rw [List.foldl_cons, foldl_add g f h0 h1 l, h1]
    omega
theorem foldl_max (g : ShapeT → Int) (f : List ShapeT → Int) (h0 : f [] = 0) (h1 : ∀ s l, f (s :: l) = max (g s) (f l)) : ∀ (l : List ShapeT) (n : Int), 0 ≤ n → l.foldl (fun n s => max n (g s)) n = max n (f l)
  | [], n, hn => by rw [h0]; simp; omega
  | s :: l, n, hn => by
    rw [List.foldl_cons, foldl_max g f h0 h1 l _ (by omega), h1]
    omega
theorem dterm_bounds {s : ShapeT} (o : OKShape s) {t : Int} (h1 : 1 ≤ t) (h2 : t ≤ 4096) : 0 ≤ dterm t s ∧ dterm t s ≤ 33554432 := by
  have := o.t1; have := o.t2; have := o.d1; have := o.d2
  unfold dterm
  split
  · omega
  · have q1 : 0 ≤ (t - s.deadline) / s.period := Int.ediv_nonneg (by omega) (by omega)
    have q2 : (t - s.deadline) / s.period ≤ t - s.deadline := Int.ediv_le_self _ (by omega)
    constructor
    · exact Int.mul_nonneg (by omega) (by omega)
    · have : s.total * ((t - s.deadline) / s.period + 1) ≤ 4096 * 8192 := Int.mul_le_mul (by omega) (by omega) (by omega) (by omega)
      omega
theorem demand_p (l : List ShapeT) (h : checkL l = true) (t : Int) (h1 : 1 ≤ t) (h2 : t ≤ 4096) : g_edf_demand l t = some (dem t l) := by
  obtain ⟨hl, ho⟩ := check_ok h
  have key := fold_p l hl (fun z0 z1 => g_edf_demand_1 z0 z1 t) (fun n s => n + dterm t s) (fun n s hs hn hn2 => by
    have o := (ho s hs).1
    obtain ⟨b1, b2⟩ := dterm_bounds o h1 h2
    have := o.t1; have := o.t2; have := o.d1; have := o.d2; have := o.p
    refine ⟨?_, by omega, by omega⟩
    show g_edf_demand_1 n s t = some (n + dterm t s)
    unfold g_edf_demand_1
    unfold dterm at b1 b2 ⊢
    by_cases hd : t < s.deadline
    · rw [decide_eq_true hd, if_pos hd, Int.add_zero]; rfl
    · rw [decide_eq_false hd, if_neg hd]
      rw [if_neg hd] at b1 b2
      have q1 : 0 ≤ (t - s.deadline) / s.period := Int.ediv_nonneg (by omega) (by omega)
      have q2 : (t - s.deadline) / s.period ≤ t - s.deadline := Int.ediv_le_self _ (by omega)
      have e1 : w64 (t - s.deadline) = t - s.deadline := w64_id (by omega) (by omega)
      have e2 : w64 (Int.tdiv (t - s.deadline) s.period) = (t - s.deadline) / s.period := by
        rw [Int.tdiv_eq_ediv_of_nonneg (by omega)]
        exact w64_id (by omega) (by omega)
      have e3 : w64 ((t - s.deadline) / s.period + 1) = (t - s.deadline) / s.period + 1 := w64_id (by omega) (by omega)
      have e4 : w64 (s.total * ((t - s.deadline) / s.period + 1)) = s.total * ((t - s.deadline) / s.period + 1) := w64_id (by omega) (by omega)
      have e5 : w64 (n + s.total * ((t - s.deadline) / s.period + 1)) = n + s.total * ((t - s.deadline) / s.period + 1) := w64_id (by omega) (by omega)
      simp only [cond_false, show (s.period == 0) = false by simp; omega, e1, e2, e3, e4, e5])
  unfold g_edf_demand
  rw [key, foldl_add (dterm t) (dem t) rfl (fun _ _ => rfl), Int.zero_add]
  rfl
theorem block_p (l : List ShapeT) (h : checkL l = true) (t : Int) : g_edf_block l t = some (blk t l) := by
  obtain ⟨hl, ho⟩ := check_ok h
  have key := fold_p l hl (fun z0 z1 => g_edf_block_1 z0 z1 t) (fun n s => max n (bterm t s)) (fun n s hs hn hn2 => by
    have o := (ho s hs).1
    have := o.m1; have := o.m2; have := o.l2; have := o.t2
    show g_edf_block_1 n s t = some (max n (bterm t s)) ∧ _
    unfold g_edf_block_1 bterm
    by_cases hd : t < s.deadline
    · rw [decide_eq_true hd, if_pos hd]
      refine ⟨?_, by omega, by omega⟩
      by_cases hm : n < s.most
      · rw [decide_eq_true hm, show max n s.most = s.most by omega]; rfl
      · rw [decide_eq_false hm, show max n s.most = n by omega]; rfl
    · rw [decide_eq_false hd, if_neg hd]
      refine ⟨?_, by omega, by omega⟩
      rw [show max n (0 : Int) = n by omega]
      rfl)
  have hb : ∀ m : List ShapeT, 0 ≤ blk t m := fun m => by
    induction m with
    | nil => exact Int.le_refl _
    | cons s m ih => unfold blk; omega
  unfold g_edf_block
  rw [key, foldl_max (bterm t) (blk t) rfl (fun _ _ => rfl) l 0 (Int.le_refl _), show max (0 : Int) (blk t l) = blk t l by have := hb l; omega]
  rfl
theorem horizon_p (l : List ShapeT) (h : checkL l = true) : g_edf_Horizon l = some (hor l) := by
  obtain ⟨hl, ho⟩ := check_ok h
  have key := fold_p l hl (fun z0 z1 => g_edf_Horizon_1 z0 z1) (fun n s => max n s.period) (fun n s hs hn hn2 => by
    have o := (ho s hs).1
    have := o.p; have := o.d1; have := o.d2
    show g_edf_Horizon_1 n s = some (max n s.period) ∧ _
    unfold g_edf_Horizon_1
    refine ⟨?_, by omega, by omega⟩
    by_cases hm : n < s.period
    · rw [decide_eq_true hm, show max n s.period = s.period by omega]; rfl
    · rw [decide_eq_false hm, show max n s.period = n by omega]; rfl)
  have hb : ∀ m : List ShapeT, 0 ≤ hor m := fun m => by
    induction m with
    | nil => exact Int.le_refl _
    | cons s m ih => unfold hor; omega
  unfold g_edf_Horizon
  rw [edf_p l (by omega), h]
  simp only [cond_true, Option.bind_some, bne_self_eq_false, cond_false]
  rw [key, foldl_max (fun s => s.period) hor rfl (fun _ _ => rfl) l 0 (Int.le_refl _), show max (0 : Int) (hor l) = hor l by have := hb l; omega]
  rfl
theorem hor_le {l : List ShapeT} (h : ∀ s ∈ l, OKShape s ∧ s.total ≤ s.deadline) : hor l ≤ 4096 := by
  induction l with
  | nil => unfold hor; omega
  | cons s l ih =>
    have := ih fun x hx => h x (by simp [hx])
    have := (h s (by simp)).1.p
    unfold hor
    omega

/-- all is done by its deadline -/
def okAt (l : List ShapeT) (s : ShapeT) (t : Int) : Prop := ∀ k : Nat, t + k * s.period ≤ hor l → dem (t + k * s.period) l + blk (t + k * s.period) l ≤ t + k * s.period
def FitsP (l : List ShapeT) : Prop := checkL l = true ∧ ∀ s ∈ l, okAt l s s.deadline
noncomputable def fits (l : List ShapeT) : Bool := @decide (FitsP l) (Classical.propDecidable _)
theorem fits_iff (l : List ShapeT) : fits l = true ↔ FitsP l := by unfold fits; exact @decide_eq_true_iff _ (Classical.propDecidable _)
noncomputable def lateB (l : List ShapeT) (s : ShapeT) : Bool := @decide (¬ okAt l s s.deadline) (Classical.propDecidable _)

theorem bounds_sum {l : List ShapeT} (h : checkL l = true) {t : Int} (h1 : 1 ≤ t) (h2 : t ≤ 4096) : 0 ≤ dem t l ∧ dem t l ≤ 33554432 * l.length ∧ 0 ≤ blk t l ∧ blk t l ≤ 4096 := by
  have ho := (check_ok h).2
  clear h
  induction l with
  | nil => unfold dem blk; simp
  | cons s l ih =>
    obtain ⟨a1, a2, a3, a4⟩ := ih fun x hx => ho x (by simp [hx])
    have o := (ho s (by simp)).1
    obtain ⟨b1, b2⟩ := dterm_bounds o h1 h2
    have := o.m1; have := o.m2; have := o.l2; have := o.t2
    have c : 0 ≤ bterm t s ∧ bterm t s ≤ 4096 := by unfold bterm; split <;> omega
    unfold dem blk
    rw [List.length_cons]
    omega
theorem late_lp (l : List ShapeT) (h : checkL l = true) (s : ShapeT) (hs : s ∈ l) : ∀ (m : Nat) (t : Int), 1 ≤ t → t ≤ 8192 → 4096 - t < (m : Int) → ∃ r, lp (g_edf_Fits_L0 l s) t = some r ∧ (r = .inr () ∧ okAt l s t ∨ r = .inl () ∧ ¬ okAt l s t) := by
  obtain ⟨hl, ho⟩ := check_ok h
  have o := (ho s hs).1
  have hh := hor_le ho
  have := o.p; have := o.d1; have := o.d2
  intro m
  induction m with
  | zero =>
    intro t h1 h2 hm
    rw [lp_eq]
    simp only [g_edf_Fits_L0, horizon_p l h, Option.bind_some, decide_eq_false (show ¬ t ≤ hor l by omega), cond_false]
    refine ⟨_, rfl, .inl ⟨rfl, fun k hk => ?_⟩⟩
    have : 0 ≤ (k : Int) * s.period := Int.mul_nonneg (by omega) (by omega)
    omega
  | succ m ih =>
    intro t h1 h2 hm
    rw [lp_eq]
    by_cases ht : t ≤ hor l
    · have t4 : t ≤ 4096 := by omega
      obtain ⟨a1, a2, a3, a4⟩ := bounds_sum h h1 t4
      have e1 : w64 (dem t l + blk t l) = dem t l + blk t l := w64_id (by omega) (by omega)
      have e2 : w64 (t + s.period) = t + s.period := w64_id (by omega) (by omega)
      simp only [g_edf_Fits_L0, horizon_p l h, Option.bind_some, decide_eq_true ht, cond_true, demand_p l h t h1 t4, block_p l h t, e1, e2]
      by_cases hv : t < dem t l + blk t l
      · rw [decide_eq_true hv]
        refine ⟨_, rfl, .inr ⟨rfl, fun hk => ?_⟩⟩
        have := hk 0 (by simpa using ht)
        simp only [Int.natCast_zero, Int.zero_mul, Int.add_zero] at this
        omega
      · rw [decide_eq_false hv]
        simp only [cond_false]
        obtain ⟨r, r1, r2⟩ := ih (t + s.period) (by omega) (by omega) (by omega)
        have key : okAt l s t ↔ okAt l s (t + s.period) := by
          constructor
          · intro hk k hk2
            have e : t + s.period + (k : Int) * s.period = t + ((k + 1 : Nat) : Int) * s.period := by
              rw [Int.natCast_add, Int.add_mul]; omega
            rw [e] at hk2 ⊢
            exact hk (k + 1) hk2
          · intro hk k hk2
            cases k with
            | zero =>
              simp only [Int.natCast_zero, Int.zero_mul, Int.add_zero]
              omega
            | succ k =>
              have e : t + s.period + (k : Int) * s.period = t + ((k + 1 : Nat) : Int) * s.period := by
                rw [Int.natCast_add, Int.add_mul]; omega
              have := hk k
              rw [e] at this
              exact this hk2
        exact ⟨r, r1, by rw [key]; exact r2⟩
    · simp only [g_edf_Fits_L0, horizon_p l h, Option.bind_some, decide_eq_false ht, cond_false]
      refine ⟨_, rfl, .inl ⟨rfl, fun k hk => ?_⟩⟩
      have : 0 ≤ (k : Int) * s.period := Int.mul_nonneg (by omega) (by omega)
      omega
theorem fits_p (l : List ShapeT) (hl : l.length ≤ 1000) : g_edf_Fits l = some (fits l) := by
  unfold g_edf_Fits
  rw [edf_p l hl]
  cases h : checkL l with
  | false =>
    have : fits l = false := by
      cases hf : fits l with
      | false => rfl
      | true => have := ((fits_iff l).1 hf).1; rw [h] at this; cases this
    rw [this]
    rfl
  | true =>
    obtain ⟨hl8, ho⟩ := check_ok h
    have key := lp_stop l (g_edf_Fits_L1 l) (fun _ s => lateB l s) (fun _ _ => .inl ()) (.inr ()) (fun i x hi hx => by
      have hm := List.mem_of_getElem? hx
      have o := (ho x hm).1
      have := o.p; have := o.d1; have := o.d2
      obtain ⟨r, r1, r2⟩ := late_lp l h x hm 4097 x.deadline o.d1 (by omega) (by omega)
      simp only [g_edf_Fits_L1, lt_t hi, at_some hx, Option.bind_some, w64_succ hi (show l.length < 9223372036854775808 by omega), cond_true, r1]
      rcases r2 with ⟨rfl, hk⟩ | ⟨rfl, hk⟩
      · rw [show lateB l x = false by unfold lateB; exact @decide_eq_false _ (Classical.propDecidable _) (fun h => h hk)]; rfl
      · rw [show lateB l x = true by unfold lateB; exact @decide_eq_true _ (Classical.propDecidable _) hk]; rfl) (by simp only [g_edf_Fits_L1, lt_f]; rfl)
    rw [stop_const, anyI_any] at key
    simp only [cond_true, Option.bind_some, bne_self_eq_false, cond_false, key]
    have e : fits l = !(l.any (lateB l)) := by
      rw [Bool.eq_iff_iff, fits_iff, Bool.not_eq_true', List.any_eq_false]
      constructor
      · rintro ⟨_, hk⟩ s hs hlate
        unfold lateB at hlate
        exact (@of_decide_eq_true _ (Classical.propDecidable _) hlate) (hk s hs)
      · intro hk
        refine ⟨h, fun s hs => ?_⟩
        have := hk s hs
        unfold lateB at this
        exact Classical.not_not.1 fun hn => this (@decide_eq_true _ (Classical.propDecidable _) hn)
    rw [e]
    cases l.any (lateB l) <;> rfl

/-! fewer fit, too -/
theorem dem_sub {l m : List ShapeT} (hs : m.Sublist l) (ho : ∀ s ∈ l, OKShape s) {t : Int} (h1 : 1 ≤ t) (h2 : t ≤ 4096) : dem t m ≤ dem t l ∧ blk t m ≤ blk t l ∧ hor m ≤ hor l := by
  induction hs with
  | slnil => exact ⟨Int.le_refl _, Int.le_refl _, Int.le_refl _⟩
  | cons s hs ih =>
    obtain ⟨a1, a2, a3⟩ := ih fun x hx => ho x (by simp [hx])
    obtain ⟨b1, b2⟩ := dterm_bounds (ho s (by simp)) h1 h2
    simp only [dem, blk, hor]
    omega
  | cons_cons s hs ih =>
    obtain ⟨a1, a2, a3⟩ := ih fun x hx => ho x (by simp [hx])
    simp only [dem, blk, hor]
    omega
theorem fits_sub {l m : List ShapeT} (h : fits l = true) (hs : m.Sublist l) : fits m = true := by
  rw [fits_iff] at *
  obtain ⟨h1, h2⟩ := h
  obtain ⟨_, ho⟩ := check_ok h1
  have hh := hor_le ho
  refine ⟨check_sub h1 hs, fun s hm k hk => ?_⟩
  have o := (ho s (hs.subset hm)).1
  have := o.d1; have := o.d2
  have hp : 0 ≤ (k : Int) * s.period := Int.mul_nonneg (by omega) (by omega)
  have h3 := (dem_sub (t := 1) hs (fun s hs => (ho s hs).1) (by omega) (by omega)).2.2
  obtain ⟨a1, a2, _⟩ := dem_sub (t := s.deadline + k * s.period) hs (fun s hs => (ho s hs).1) (by omega) (by omega)
  have := h2 s (hs.subset hm) k (by omega)
  omega
theorem fits_nil : fits [] = true := by
  rw [fits_iff]
  refine ⟨by unfold checkL; rfl, fun s hs => by cases hs⟩
end Go.Proofs.YtakebhleglnpjaaDoor
