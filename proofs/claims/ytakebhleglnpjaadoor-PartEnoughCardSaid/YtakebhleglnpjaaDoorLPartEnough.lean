/- PartEnough: what the law comes to. -/
import Derived.Test.YtakebhleglnpjaaDoorQPlaced
import Derived.Test.YtakebhleglnpjaaDoorWPartEnough
import Derived.Test.YtakebhleglnpjaaDoorJ3
namespace Go.Proofs.YtakebhleglnpjaaDoor
open Go Go.Proofs.YtakebhleglnpjaaDoorE
set_option linter.unusedVariables false
set_option linter.unusedSimpArgs false

/-- one alone on a core on which nobody is -/
theorem on_fresh (c : Int) : ∀ (l : List ShapeT) (at_ : List Int) (i : Nat), (∀ x ∈ at_, x ≠ c) → at_.length = l.length → on l (at_.set i c) c = (match l[i]? with | some s => [s] | none => [])
  | [], at_, i, _, h => by simp [on]
  | s :: l, [], i, _, h => by simp at h
  | s :: l, x :: at_, 0, h, hl => by
    have hr : on l at_ c = [] := on_nil l at_ c (fun y hy => h y (by simp [hy]))
    unfold on at *
    rw [List.set_cons_zero, List.zip_cons_cons, List.filter_cons]
    simp only [beq_self_eq_true, if_true, List.map_cons, hr]
    rfl
  | s :: l, x :: at_, i + 1, h, hl => by
    have hx := h x (by simp)
    have ih := on_fresh c l at_ i (fun y hy => h y (by simp [hy])) (by simpa using hl)
    unfold on at *
    rw [List.set_cons_succ, List.zip_cons_cons, List.filter_cons]
    simp only [show (x == c) = false by simpa using hx, Bool.false_eq_true, if_false, ih]
    simp
theorem fits_one {s : ShapeT} (h : OKShape s ∧ s.total ≤ s.deadline) (hc : checkL [s] = true) : fits [s] = true := by
  rw [fits_iff]
  refine ⟨hc, fun x hx k hk => ?_⟩
  have hxs : x = s := by simpa using hx
  subst hxs
  obtain ⟨o, ht⟩ := h
  have := o.d1; have := o.d2; have := o.t1; have := o.p
  have hp : 0 ≤ (k : Int) * x.period := Int.mul_nonneg (by omega) (by omega)
  have hq : (x.deadline + (k : Int) * x.period - x.deadline) / x.period = k := by
    rw [show x.deadline + (k : Int) * x.period - x.deadline = (k : Int) * x.period by omega]
    exact Int.mul_ediv_cancel _ (by omega)
  have hm : x.total * (k : Int) ≤ (k : Int) * x.period := by
    rw [Int.mul_comm]
    exact Int.mul_le_mul_of_nonneg_left (by omega) (by omega)
  simp only [dem, blk]
  unfold dterm bterm
  rw [if_neg (by omega), if_neg (by omega), hq, Int.mul_add, Int.mul_one]
  omega
theorem nodup_sub : ∀ {l m : List Int}, l.Nodup → (∀ x ∈ l, x ∈ m) → l.length ≤ m.length
  | [], _, _, _ => Nat.zero_le _
  | x :: l, m, hn, hs => by
    have hx := hs x (by simp)
    have hn2 := List.nodup_cons.1 hn
    have ih := nodup_sub (m := m.erase x) hn2.2 (fun y hy => (List.mem_erase_of_ne (fun e : y = x => hn2.1 (by rw [← e]; exact hy))).2 (hs y (by simp [hy])))
    rw [List.length_erase_of_mem hx] at ih
    have := List.length_pos_of_mem hx
    rw [List.length_cons]
    omega
/-- there is a core on which nobody is -/
theorem free_core {n : Nat} {at_ : List Int} (h : at_.length ≤ n) (hm : (-1 : Int) ∈ at_) : ∃ c : Nat, c < n ∧ ∀ x ∈ at_, x ≠ (c : Int) := by
  refine Classical.byContradiction fun hno => ?_
  have all : ∀ c : Nat, c < n → (c : Int) ∈ at_ := fun c hc => Classical.byContradiction fun hn => hno ⟨c, hc, fun x hx e => hn (e ▸ hx)⟩
  have nd : ((-1 : Int) :: idxs 0 n).Nodup := by
    rw [List.nodup_cons]
    refine ⟨fun hx => ?_, (idxs_rise n 0).imp fun h => by omega⟩
    have := (idxs_mem _ _ _).1 hx
    omega
  have := nodup_sub (m := at_) nd (fun x hx => by
    rcases List.mem_cons.1 hx with rfl | hx
    · exact hm
    · have := (idxs_mem _ _ _).1 hx
      have := all x.toNat (by omega)
      rwa [Int.toNat_of_nonneg (by omega)] at this)
  rw [List.length_cons, idxs_len] at this
  omega
theorem least_exists {l : List ShapeT} {at_ : List Int} {i n c : Nat} (hc : c < n) (hf : fitAt l at_ i c = true) : ∃ b, least l at_ i 0 n = some b := by
  cases h : least l at_ i 0 n with
  | some b => exact ⟨b, rfl⟩
  | none => have := least_none h c (Nat.zero_le _) (by omega); rw [hf] at this; cases this
theorem enough {l : List ShapeT} (hc : checkL l = true) {n : Nat} (hn : l.length ≤ n) : ∀ {o at_ : List Int}, PInv l n at_ o → ∃ a, placeL l n o at_ = some a
  | [], at_, _ => ⟨at_, rfl⟩
  | i :: o, at_, h => by
    obtain ⟨hi, hm⟩ := h.left i (by simp)
    obtain ⟨c, c1, c2⟩ := free_core (n := n) (by rw [h.len]; exact hn) (List.mem_of_getElem? hm)
    have hs := List.getElem?_eq_getElem hi.2
    have hf : fitAt l at_ i.toNat c = true := by
      unfold fitAt
      rw [on_fresh (c : Int) l at_ i.toNat c2 h.len, hs]
      have hmem := List.getElem_mem hi.2
      exact fits_one ((check_ok hc).2 _ hmem) (check_sub hc (List.singleton_sublist.2 hmem))
    obtain ⟨b, hb⟩ := least_exists c1 hf
    unfold placeL
    rw [hb]
    exact enough hc hn (inv_step h hb)
theorem on_sublist (l : List ShapeT) (at_ : List Int) (c : Int) (h : l.length ≤ at_.length) : (on l at_ c).Sublist l := by
  have : ((l.zip at_).map Prod.fst) = l := List.map_fst_zip h
  conv => rhs; rw [← this]
  unfold on
  exact List.filter_sublist.map _
theorem on_all (l : List ShapeT) (at_ : List Int) (c : Int) (h : l.length ≤ at_.length) (hx : ∀ x ∈ at_, x = c) : on l at_ c = l := by
  have : ((l.zip at_).map Prod.fst) = l := List.map_fst_zip h
  conv => rhs; rw [← this]
  unfold on
  rw [List.filter_eq_self.2 fun p hp => by
    have := hx p.2 (List.of_mem_zip hp).2
    simpa using this]
theorem one_core {l : List ShapeT} (hf : fits l = true) : ∀ {o at_ : List Int}, at_.length = l.length → ∃ a, placeL l 1 o at_ = some a
  | [], at_, _ => ⟨at_, rfl⟩
  | i :: o, at_, h => by
    have hfit : fitAt l at_ i.toNat 0 = true := fits_sub hf (on_sublist l _ _ (by rw [List.length_set]; omega))
    obtain ⟨b, hb⟩ := least_exists (n := 1) (by omega) hfit
    unfold placeL
    rw [hb]
    exact one_core hf (by rw [List.length_set]; exact h)

theorem zeros_lp (a : List Int) (ha : a.length ≤ 1000) (e : Int) (h : ∀ x ∈ a, x = 0) : lp (g_law16_PartEnough_L0 (a, e)) 0 = some (.inr ()) := by
  have key := lp_stop a (g_law16_PartEnough_L0 (a, e)) (fun _ x => x != 0) (fun _ _ => .inl ()) (.inr ()) (fun i x hi hx => by
      simp only [g_law16_PartEnough_L0, lt_t hi, at_some hx, Option.bind_some, w64_succ hi (show a.length < 9223372036854775808 by omega), cond_true]
      cases x != 0 <;> rfl) (by simp only [g_law16_PartEnough_L0, lt_f]; rfl)
  rw [key, stop_const, anyI_any, List.any_eq_false.2 fun x hx => by simp [h x hx]]
  rfl
theorem law_PartEnough (l : List ShapeT) (b : Int) (hb : I64 b) : g_law16_PartEnough l b = some true := by
  unfold g_law16_PartEnough
  simp only [g_law16_awake, Option.bind_some, cond_true]
  by_cases h20 : (20 : Int) < (l.length : Int)
  · rw [decide_eq_true h20]; rfl
  rw [decide_eq_false h20]
  have hl : l.length ≤ 1000 := by omega
  obtain ⟨o, o1, o2⟩ := order_p l hl
  simp only [cond_false, own_s l hl, Option.bind_some, edf_p l hl]
  cases hc : checkL l with
  | false => rfl
  | true =>
    simp only [cond_true, bne_self_eq_false, cond_false]
    by_cases h0 : b < 0
    · rw [decide_eq_true h0]; rfl
    rw [decide_eq_false h0]
    by_cases h8 : 8 < b
    · rw [decide_eq_true h8]; rfl
    rw [decide_eq_false h8]
    have c1 : cores8 b = true := by unfold cores8; simp; omega
    have c2 : cores8 1 = true := rfl
    have z : ∀ a : List Int, a.length ≤ 1000 → (∀ x ∈ a, x = 0) → ∀ e : Int, lp (g_law16_PartEnough_L0 (a, e)) 0 = some (.inr ()) := fun a ha h e => zeros_lp a ha e h
    simp only [cond_false, place_p l hl o1 o2, hc, c1, c2, Bool.and_self, cond_true, Option.bind_some, fits_p l hl]
    -- one core
    have one : (∃ a, placeL l (1 : Int).toNat o (List.replicate l.length (-1)) = some a ∧ fits l = true ∧ a.length ≤ 1000 ∧ ∀ x ∈ a, x = 0) ∨ (placeL l (1 : Int).toNat o (List.replicate l.length (-1)) = none ∧ fits l = false) := by
      cases hp : placeL l (1 : Int).toNat o (List.replicate l.length (-1)) with
      | some a =>
        have hr := placed_right c2 o2 hp
        have hz : ∀ x ∈ a, x = 0 := fun x hx => by have := hr.ok x hx; omega
        have hfit := hr.fit 0 (by omega)
        rw [on_all l a ((0 : Nat) : Int) (by rw [hr.len]; exact Nat.le_refl _) (fun x hx => hz x hx)] at hfit
        exact .inl ⟨a, rfl, hfit, by rw [hr.len]; exact hl, hz⟩
      | none =>
        refine .inr ⟨rfl, ?_⟩
        cases hfit : fits l with
        | false => rfl
        | true =>
          obtain ⟨a, ha⟩ := one_core (o := o) hfit (at_ := List.replicate l.length (-1)) (by simp)
          have hp' : placeL l 1 o (List.replicate l.length (-1)) = none := hp
          rw [hp'] at ha; cases ha
    have many : ∀ {x : Option (List Int)}, placeL l b.toNat o (List.replicate l.length (-1)) = x → x = none → decide (b < (l.length : Int)) = true := fun {x} hx hn => by
      refine decide_eq_true ?_
      refine Classical.byContradiction fun hno => ?_
      obtain ⟨a, ha⟩ := enough hc (n := b.toNat) (by omega) (inv_zero b.toNat o2)
      rw [hx, hn] at ha; cases ha
    rcases one with ⟨a, a1, a2, a3, a4⟩ | ⟨a1, a2⟩
    · simp only [a1, a2, z a a3 a4, Option.bind_some]
      cases hp : placeL l b.toNat o (List.replicate l.length (-1)) with
      | some q => rfl
      | none => simp only [many hp rfl]; rfl
    · simp only [a1, a2, z [] (by simp) (fun x hx => by cases hx), Option.bind_some]
      cases hp : placeL l b.toNat o (List.replicate l.length (-1)) with
      | some q => rfl
      | none => simp only [many hp rfl]; rfl

theorem ev_PartEnough (xs : List D) (h : okLfs par43.1 xs) (ys : List D) (k : okLfs par3.1 ys) : ∃ H', evW ctx 10 (mapd [parD par43.2 xs, parD par3.2 ys]) [] = some (.d (.bool true), H') := by
  obtain ⟨x, r, rfl, h1, rfl⟩ := h
  obtain ⟨l, rfl⟩ := shape_of h1
  obtain ⟨n, hn, okn⟩ := int_of k
  show ∃ H', evW ctx 10 [.d (.list true (l.map shapeD)), .d (parD false ys)] [] = _
  rw [hn]
  exact evD_true (g_law16_PartEnough_ok true l n true (law_PartEnough l n okn))
end Go.Proofs.YtakebhleglnpjaaDoor
