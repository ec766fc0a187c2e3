/- Chapter 16: where shapes are placed, plainly. -/
import Derived.Test.YtakebhleglnpjaaDoorQEdf
namespace Go.Proofs.YtakebhleglnpjaaDoor
open Go Go.Proofs.YtakebhleglnpjaaDoorE
set_option linter.unusedVariables false
set_option linter.unusedSimpArgs false

/-- the shapes on a core -/
def on (l : List ShapeT) (at_ : List Int) (core : Int) : List ShapeT := ((l.zip at_).filter fun p => p.2 == core).map Prod.fst
theorem on_sub (l : List ShapeT) (at_ : List Int) (core : Int) : (on l at_ core).length ≤ l.length := by
  unfold on
  rw [List.length_map]
  refine Nat.le_trans (List.length_filter_le _ _) ?_
  rw [List.length_zip]
  omega
theorem on_p (l : List ShapeT) (hl : l.length ≤ 1000) (at_ : List Int) (core : Int) : g_part_On l at_ core = some (on l at_ core) := by
  have key : ∀ (k i : Nat) (s : List ShapeT), i + k = l.length → s.length ≤ i → lp (g_part_On_L0 l at_ core) ((i : Int), s) = some (s ++ on (l.drop i) (at_.drop i) core) := by
    intro k
    induction k with
    | zero =>
      intro i s hi hs
      have : i = l.length := by omega
      subst this
      rw [lp_eq, List.drop_length]
      simp only [g_part_On_L0, lt_f, cond_false]
      simp [on]
    | succ k ih =>
      intro i s hi hs
      have hi' : i < l.length := by omega
      rw [lp_eq, List.drop_eq_getElem_cons hi']
      have w := w64_succ hi' (show l.length < 9223372036854775808 by omega)
      by_cases ha : i < at_.length
      · rw [List.drop_eq_getElem_cons ha]
        simp only [g_part_On_L0, lt_t hi', at_some (List.getElem?_eq_getElem hi'), Option.bind_some, cond_true, lt_t ha, at_some (List.getElem?_eq_getElem ha), lim_t (show s.length + 1 ≤ 1073741824 by omega), w]
        unfold on
        rw [List.zip_cons_cons, List.filter_cons]
        cases at_[i] == core with
        | true =>
          simp only [cond_true, if_true, List.map_cons]
          rw [ih (i + 1) (s ++ [l[i]]) (by omega) (by rw [List.length_append, List.length_singleton]; omega)]
          unfold on
          simp
        | false =>
          simp only [cond_false, Bool.false_eq_true, if_false]
          rw [ih (i + 1) s (by omega) (by omega)]
          rfl
      · simp only [g_part_On_L0, lt_t hi', at_some (List.getElem?_eq_getElem hi'), Option.bind_some, cond_true, decide_eq_false (show ¬ (i : Int) < (at_.length : Int) by omega), cond_false, w]
        rw [ih (i + 1) s (by omega) (by omega), show at_.drop i = [] by simp; omega, show at_.drop (i + 1) = [] by simp; omega]
        simp [on]
  have k0 := key l.length 0 [] (by omega) (by simp)
  rw [List.drop_zero, List.drop_zero, List.nil_append] at k0
  have k1 : lp (g_part_On_L0 l at_ core) (0, []) = _ := k0
  unfold g_part_On
  rw [k1]
  rfl
theorem on_nil (l : List ShapeT) (at_ : List Int) (core : Int) (h : ∀ x ∈ at_, x ≠ core) : on l at_ core = [] := by
  unfold on
  rw [List.filter_eq_nil_iff.2 (fun p hp => by
    have := h p.2 (List.of_mem_zip hp).2
    simpa using this)]
  rfl
theorem on_set (core c : Int) (hc : c ≠ core) : ∀ (l : List ShapeT) (at_ : List Int) (i : Nat), (∀ x, at_[i]? = some x → x ≠ core) → on l (at_.set i c) core = on l at_ core
  | [], _, _, _ => by simp [on]
  | s :: l, [], i, h => by simp [on]
  | s :: l, x :: at_, 0, h => by
    have hx := h x rfl
    simp [on, hx, hc]
  | s :: l, x :: at_, i + 1, h => by
    have ih := on_set core c hc l at_ i (fun y hy => h y (by simpa using hy))
    unfold on at *
    rw [List.set_cons_succ, List.zip_cons_cons, List.zip_cons_cons, List.filter_cons, List.filter_cons]
    cases hx : (x == core) with
    | true => simp only [if_true, List.map_cons, ih]
    | false => simp only [Bool.false_eq_true, if_false, ih]
theorem zip_erase {α β : Type} : ∀ (l : List α) (m : List β) (i : Nat), l.length = m.length → (l.eraseIdx i).zip (m.eraseIdx i) = (l.zip m).eraseIdx i
  | [], [], i, _ => by simp
  | x :: l, y :: m, 0, h => by simp
  | x :: l, y :: m, i + 1, h => by
    simp only [List.eraseIdx_cons_succ, List.zip_cons_cons]
    rw [zip_erase l m i (by simpa using h)]
theorem on_erase (l : List ShapeT) (at_ : List Int) (core : Int) (i : Nat) (h : l.length = at_.length) : (on (l.eraseIdx i) (at_.eraseIdx i) core).Sublist (on l at_ core) := by
  unfold on
  rw [zip_erase l at_ i h]
  exact ((List.eraseIdx_sublist _ _).filter _).map _

/-! right -/
def cores8 (n : Int) : Bool := decide (0 ≤ n) && decide (n ≤ 8)
theorem cores_p (n : Int) : g_part_within n = some (cores8 n) := by
  unfold g_part_within cores8
  cases decide (0 ≤ n) <;> cases decide (n ≤ 8) <;> rfl
def oddC (c : Int) (x : Int) : Bool := decide (x < 0) || decide (c ≤ x)
theorem odd_p (c x : Int) : g_part_Right_1 x c = some (oddC c x) := by
  unfold g_part_Right_1 oddC
  cases decide (x < 0) <;> cases decide (c ≤ x) <;> rfl
structure RightP (l : List ShapeT) (at_ : List Int) (c : Int) : Prop where
  cc : 0 ≤ c ∧ c ≤ 8
  len : at_.length = l.length
  ok : ∀ x ∈ at_, 0 ≤ x ∧ x < c
  fit : ∀ core : Nat, (core : Int) < c → fits (on l at_ core) = true
theorem containsInt_p (l : List Int) (f : Int → Option Bool) (p : Int → Bool) (hf : ∀ x ∈ l, f x = some (p x)) (hl : l.length < 9223372036854775808) : g_slices_ContainsFunc_l_int_int l f = some (l.any p) := by
  unfold g_slices_ContainsFunc_l_int_int g_slices_IndexFunc_l_int_int
  rw [lp_stop l (g_slices_IndexFunc_l_int_int_L0 l f) (fun _ => p) (fun i _ => .inl (i : Int)) (.inr ()) (fun i x hi hx => by
    simp only [g_slices_IndexFunc_l_int_int_L0, lt_t hi, at_some hx, Option.bind_some, hf x (List.mem_of_getElem? hx), w64_succ hi hl, cond_true]
    cases p x <;> rfl) (by simp only [g_slices_IndexFunc_l_int_int_L0, lt_f]; rfl)]
  rcases stop_index p () l 0 with ⟨j, e1, e2⟩ | ⟨e1, e2⟩
  · rw [e1, e2]
    show (bif decide ((0 : Int) ≤ (j : Int)) then some true else some false) = some true
    rw [decide_eq_true (by omega)]
    rfl
  · rw [e1, e2]
    rfl
theorem right_p (l : List ShapeT) (hl : l.length ≤ 1000) (at_ : List Int) (ha : at_.length ≤ 1000) (c : Int) : ∃ b, g_part_Right l at_ c = some b ∧ (b = true ↔ RightP l at_ c) := by
  unfold g_part_Right
  rw [cores_p, Option.bind_some]
  by_cases hc : 0 ≤ c ∧ c ≤ 8
  case neg =>
    have : cores8 c = false := by unfold cores8; simp; omega
    rw [this]
    exact ⟨false, rfl, by simp; exact fun h => hc h.cc⟩
  have : cores8 c = true := by unfold cores8; simp; omega
  rw [this]
  simp only [cond_true]
  by_cases hlen : at_.length = l.length
  case neg =>
    rw [show ((at_.length : Int) != (l.length : Int)) = true by simp; omega]
    exact ⟨false, rfl, by simp; exact fun h => hlen h.len⟩
  rw [show ((at_.length : Int) != (l.length : Int)) = false by simp; omega]
  simp only [cond_false, containsInt_p at_ _ (oddC c) (fun x _ => odd_p c x) (show at_.length < 9223372036854775808 by omega), Option.bind_some]
  cases ho : at_.any (oddC c) with
  | true =>
    refine ⟨false, rfl, ⟨fun h => (by cases h), fun h => ?_⟩⟩
    exfalso
    obtain ⟨x, hx, hp⟩ := List.any_eq_true.1 ho
    have := h.ok x hx
    unfold oddC at hp
    simp only [Bool.or_eq_true, decide_eq_true_eq] at hp
    omega
  | false =>
    have hok : ∀ x ∈ at_, 0 ≤ x ∧ x < c := fun x hx => by
      have := List.any_eq_false.1 ho x hx
      unfold oddC at this
      simp only [Bool.or_eq_true, decide_eq_true_eq, not_or] at this
      omega
    simp only [cond_false]
    have loop : ∀ (k i : Nat), (i : Int) + k = c → ∃ r, lp (g_part_Right_L0 l at_ c) (i : Int) = some r ∧ (r = .inr () ∧ (∀ core : Nat, i ≤ core → (core : Int) < c → fits (on l at_ core) = true) ∨ r = .inl () ∧ ∃ core : Nat, (core : Int) < c ∧ fits (on l at_ core) = false) := by
      intro k
      induction k with
      | zero =>
        intro i hi
        rw [lp_eq]
        simp only [g_part_Right_L0, decide_eq_false (show ¬ (i : Int) < c by omega), cond_false]
        exact ⟨_, rfl, .inl ⟨rfl, fun core h1 h2 => by omega⟩⟩
      | succ k ih =>
        intro i hi
        rw [lp_eq]
        have w : w64 ((i : Int) + 1) = ((i + 1 : Nat) : Int) := w64_succ (show i < 100 by omega) (by omega)
        simp only [g_part_Right_L0, decide_eq_true (show (i : Int) < c by omega), cond_true, on_p l hl, Option.bind_some, fits_p (on l at_ i) (Nat.le_trans (on_sub l at_ i) hl), w]
        cases hf : fits (on l at_ i) with
        | true =>
          obtain ⟨r, r1, r2⟩ := ih (i + 1) (by omega)
          refine ⟨r, r1, ?_⟩
          rcases r2 with ⟨r2, r3⟩ | ⟨r2, r3⟩
          · refine .inl ⟨r2, fun core h1 h2 => ?_⟩
            by_cases h : core = i
            · rw [h]; exact hf
            · exact r3 core (by omega) h2
          · exact .inr ⟨r2, r3⟩
        | false => exact ⟨_, rfl, .inr ⟨rfl, i, by omega, hf⟩⟩
    obtain ⟨r, r1, r2⟩ := loop c.toNat 0 (by omega)
    have r1' : lp (g_part_Right_L0 l at_ c) 0 = some r := r1
    rw [r1', Option.bind_some]
    rcases r2 with ⟨rfl, r3⟩ | ⟨rfl, core, r3, r4⟩
    · exact ⟨true, rfl, by simp; exact ⟨hc, hlen, hok, fun core h => r3 core (Nat.zero_le _) h⟩⟩
    · exact ⟨false, rfl, by simp; exact fun h => by have := h.fit core r3; rw [r4] at this; cases this⟩

/-! placing -/
/-- does it fit there? -/
noncomputable def fitAt (l : List ShapeT) (at_ : List Int) (i : Nat) (core : Nat) : Bool := fits (on l (at_.set i (core : Int)) (core : Int))
/-- the least core on which it fits, of some -/
noncomputable def least (l : List ShapeT) (at_ : List Int) (i : Nat) : Nat → Nat → Option Nat
  | _, 0 => none
  | core, k + 1 => bif fitAt l at_ i core then some core else least l at_ i (core + 1) k
theorem fitAt_set (l : List ShapeT) (at_ : List Int) (i : Nat) (x : Int) (core : Nat) : fitAt l (at_.set i x) i core = fitAt l at_ i core := by
  unfold fitAt
  rw [List.set_set]
theorem least_set (l : List ShapeT) (at_ : List Int) (i : Nat) (x : Int) : ∀ (k core : Nat), least l (at_.set i x) i core k = least l at_ i core k
  | 0, _ => rfl
  | k + 1, core => by unfold least; rw [fitAt_set, least_set l at_ i x k]
theorem least_some {l : List ShapeT} {at_ : List Int} {i : Nat} {c : Nat} : ∀ {k core : Nat}, least l at_ i core k = some c → core ≤ c ∧ c < core + k ∧ fitAt l at_ i c = true ∧ ∀ b, core ≤ b → b < c → fitAt l at_ i b = false
  | 0, _, h => by cases h
  | k + 1, core, h => by
    unfold least at h
    cases hf : fitAt l at_ i core with
    | true =>
      rw [hf] at h
      cases h
      exact ⟨Nat.le_refl _, by omega, hf, fun b h1 h2 => by omega⟩
    | false =>
      rw [hf] at h
      obtain ⟨h1, h2, h3, h4⟩ := least_some h
      refine ⟨by omega, by omega, h3, fun b hb1 hb2 => ?_⟩
      by_cases he : b = core
      · rw [he]; exact hf
      · exact h4 b (by omega) hb2
theorem least_more {l : List ShapeT} {at_ : List Int} {i c : Nat} : ∀ {k core : Nat}, least l at_ i core k = some c → least l at_ i core (k + 1) = some c
  | 0, _, h => by cases h
  | k + 1, core, h => by
    unfold least at h ⊢
    cases hf : fitAt l at_ i core with
    | true => rw [hf] at h; exact h
    | false => rw [hf] at h; exact least_more h
theorem least_none {l : List ShapeT} {at_ : List Int} {i : Nat} : ∀ {k core : Nat}, least l at_ i core k = none → ∀ b, core ≤ b → b < core + k → fitAt l at_ i b = false
  | 0, _, _, b, h1, h2 => by omega
  | k + 1, core, h, b, h1, h2 => by
    unfold least at h
    cases hf : fitAt l at_ i core with
    | true => rw [hf] at h; cases h
    | false =>
      rw [hf] at h
      by_cases he : b = core
      · rw [he]; exact hf
      · exact least_none h b (by omega) (by omega)
/-- one by one -/
noncomputable def placeL (l : List ShapeT) (n : Nat) : List Int → List Int → Option (List Int)
  | [], at_ => some at_
  | i :: o, at_ => match least l at_ i.toNat 0 n with | some c => placeL l n o (at_.set i.toNat (c : Int)) | none => none

theorem try_lp (l : List ShapeT) (hl : l.length ≤ 1000) (n : Nat) (hn : n ≤ 8) (i : Int) (hi : 0 ≤ i) : ∀ (k core : Nat) (at_ : List Int), core + k = n → i.toNat < at_.length → ∃ r, lp (g_part_Place_L1 l (n : Int) i) ((core : Int), at_) = some r ∧ (match least l at_ i.toNat core k with | some c => r = .inl (at_.set i.toNat (c : Int)) | none => ∃ m, r = .inr m) := by
  intro k
  induction k with
  | zero =>
    intro core at_ hc ha
    rw [lp_eq]
    simp only [g_part_Place_L1, decide_eq_false (show ¬ (core : Int) < (n : Int) by omega), cond_false]
    exact ⟨_, rfl, _, rfl⟩
  | succ k ih =>
    intro core at_ hc ha
    rw [lp_eq]
    have w : w64 ((core : Int) + 1) = ((core + 1 : Nat) : Int) := w64_succ (show core < 100 by omega) (by omega)
    have g : getI at_ i = some at_[i.toNat] := by
      have := at_some (List.getElem?_eq_getElem ha)
      rwa [Int.toNat_of_nonneg hi] at this
    have f := fits_p (on l (at_.set i.toNat (core : Int)) (core : Int)) (Nat.le_trans (on_sub _ _ _) hl)
    simp only [g_part_Place_L1, decide_eq_true (show (core : Int) < (n : Int) by omega), cond_true, g_part_Place_1, g, Option.bind_some, on_p l hl, f, w]
    unfold least
    rw [show fits (on l (at_.set i.toNat (core : Int)) (core : Int)) = fitAt l at_ i.toNat core from rfl]
    cases fitAt l at_ i.toNat core with
    | true => exact ⟨_, rfl, rfl⟩
    | false =>
      obtain ⟨r, r1, r2⟩ := ih (core + 1) (at_.set i.toNat (core : Int)) (by omega) (by rw [List.length_set]; exact ha)
      refine ⟨r, r1, ?_⟩
      rw [least_set] at r2
      simp only [cond_false]
      cases hl2 : least l at_ i.toNat (core + 1) k with
      | some c => rw [hl2] at r2; simpa [List.set_set] using r2
      | none => rw [hl2] at r2; exact r2
theorem place_lp (l : List ShapeT) (hl : l.length ≤ 1000) (n : Nat) (hn : n ≤ 8) (o : List Int) (hol : o.length ≤ 1000) : ∀ (k j : Nat) (at_ : List Int), j + k = o.length → at_.length = l.length → (∀ x ∈ o, InL l x) → ∃ r, lp (g_part_Place_L2 l (n : Int) o) ((j : Int), at_) = some r ∧ (match placeL l n (o.drop j) at_ with | some a => r = .inr a | none => ∃ m, r = .inl m) := by
  intro k
  induction k with
  | zero =>
    intro j at_ hj ha ho
    have : j = o.length := by omega
    subst this
    rw [lp_eq, List.drop_length]
    simp only [g_part_Place_L2, lt_f, cond_false]
    exact ⟨_, rfl, rfl⟩
  | succ k ih =>
    intro j at_ hj ha ho
    have hj' : j < o.length := by omega
    have hx := ho _ (List.getElem_mem hj')
    obtain ⟨r, r1, r2⟩ := try_lp l hl n hn o[j] hx.1 n 0 at_ (by omega) (by rw [ha]; exact hx.2)
    have r1' : lp (g_part_Place_L1 l (n : Int) o[j]) (0, at_) = some r := r1
    rw [lp_eq, List.drop_eq_getElem_cons hj']
    simp only [g_part_Place_L2, lt_t hj', at_some (List.getElem?_eq_getElem hj'), Option.bind_some, cond_true, r1', w64_succ hj' (show o.length < 9223372036854775808 by omega)]
    conv => arg 1; ext; rhs; unfold placeL
    cases hl2 : least l at_ o[j].toNat 0 n with
    | some c =>
      rw [hl2] at r2
      subst r2
      obtain ⟨q, q1, q2⟩ := ih (j + 1) (at_.set o[j].toNat (c : Int)) (by omega) (by rw [List.length_set]; exact ha) ho
      exact ⟨q, q1, q2⟩
    | none =>
      rw [hl2] at r2
      obtain ⟨m, rfl⟩ := r2
      exact ⟨_, rfl, _, rfl⟩
theorem neg_lp (l : List ShapeT) (hl : l.length ≤ 1000) : lp (g_part_Place_L0 l) (0, List.replicate (l.length : Int).toNat 0) = some (List.replicate l.length (-1)) := by
  have key : ∀ (k i : Nat), i + k = l.length → lp (g_part_Place_L0 l) ((i : Int), List.replicate i (-1) ++ List.replicate k 0) = some (List.replicate l.length (-1)) := by
    intro k
    induction k with
    | zero =>
      intro i hi
      have : i = l.length := by omega
      subst this
      rw [lp_eq]
      simp only [g_part_Place_L0, List.length_replicate, Int.toNat_natCast, lt_f, cond_false]
      simp
    | succ k ih =>
      intro i hi
      have hi' : i < l.length := by omega
      rw [lp_eq]
      have g : getI (List.replicate i (-1 : Int) ++ List.replicate (k + 1) 0) (i : Int) = some 0 := at_some (by
        rw [List.getElem?_append_right (by simp)]
        simp)
      have e : List.set (List.replicate i (-1 : Int) ++ List.replicate (k + 1) 0) i (-1) = List.replicate (i + 1) (-1) ++ List.replicate k 0 := by
        rw [List.set_append_right _ _ (by simp), List.length_replicate, Nat.sub_self, List.replicate_succ, List.set_cons_zero, List.replicate_succ', List.append_assoc]
        rfl
      simp only [g_part_Place_L0, List.length_replicate, Int.toNat_natCast, lt_t hi', cond_true, g, Option.bind_some, w64_succ hi' (show l.length < 9223372036854775808 by omega), e]
      exact ih (i + 1) (by omega)
  have := key l.length 0 (by omega)
  simpa using this
/-- what is placed -/
theorem place_p (l : List ShapeT) (hl : l.length ≤ 1000) {o : List Int} (ho : g_part_Order l = some o) (h2 : IsOrder l o) (c : Int) :
    g_part_Place l c = some (bif checkL l && cores8 c then (match placeL l c.toNat o (List.replicate l.length (-1)) with | some a => (a, (0 : Int)) | none => ([], 161)) else ([], 160)) := by
  unfold g_part_Place
  rw [edf_p l hl, Option.bind_some, cores_p]
  cases hc : checkL l with
  | false => rfl
  | true =>
    cases h8 : cores8 c with
    | false => rfl
    | true =>
      have c8 : 0 ≤ c ∧ c ≤ 8 := by
        unfold cores8 at h8
        simpa using h8
      have hcond : (decide (0 ≤ (l.length : Int)) && decide ((l.length : Int) ≤ lim) && decide ((l.length : Int) == (l.length : Int))) = true := by
        have : (l.length : Int) ≤ lim := by unfold lim; omega
        simp [this]
      obtain ⟨r, r1, r2⟩ := place_lp l hl c.toNat (by omega) o (by rw [h2.len]; exact hl) o.length 0 (List.replicate l.length (-1)) (by omega) (by simp) (fun x hx => (h2.mem x).1 hx)
      rw [Int.toNat_of_nonneg c8.1] at r1
      have r1' : lp (g_part_Place_L2 l c o) (0, List.replicate l.length (-1)) = some r := r1
      rw [hcond]
      simp only [cond_true, bne_self_eq_false, cond_false, Option.bind_some, neg_lp l hl, ho, r1', Bool.and_self]
      rw [List.drop_zero] at r2
      cases hp : placeL l c.toNat o (List.replicate l.length (-1)) with
      | some a => rw [hp] at r2; subst r2; rfl
      | none => rw [hp] at r2; obtain ⟨m, rfl⟩ := r2; rfl
end Go.Proofs.YtakebhleglnpjaaDoor
