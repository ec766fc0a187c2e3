/- PartFirst: what the law comes to. -/
import Derived.Test.YtakebhleglnpjaaDoorQPlaced
import Derived.Test.YtakebhleglnpjaaDoorWPartFirst
import Derived.Test.YtakebhleglnpjaaDoorJ3
namespace Go.Proofs.YtakebhleglnpjaaDoor
open Go Go.Proofs.YtakebhleglnpjaaDoorE
set_option linter.unusedVariables false
set_option linter.unusedSimpArgs false

/-- one alone on its core: the same on each -/
theorem on_alone (c : Int) (hc : 0 ≤ c) : ∀ (l : List ShapeT) (at_ : List Int) (i : Nat), (∀ x ∈ at_, x = -1) → at_.length = l.length → on l (at_.set i c) c = (match l[i]? with | some s => [s] | none => [])
  | [], at_, i, _, h => by simp [on]
  | s :: l, [], i, _, h => by simp at h
  | s :: l, x :: at_, 0, h, hl => by
    have hx := h x (by simp)
    have hr : on l at_ c = [] := on_nil l at_ c (fun y hy => by have := h y (by simp [hy]); omega)
    unfold on at *
    rw [List.set_cons_zero, List.zip_cons_cons, List.filter_cons]
    simp only [beq_self_eq_true, if_true, List.map_cons, hr]
    rfl
  | s :: l, x :: at_, i + 1, h, hl => by
    have hx := h x (by simp)
    have ih := on_alone c hc l at_ i (fun y hy => h y (by simp [hy])) (by simpa using hl)
    unfold on at *
    rw [List.set_cons_succ, List.zip_cons_cons, List.filter_cons]
    simp only [show (x == c) = false by rw [hx]; simp; omega, Bool.false_eq_true, if_false, ih]
    simp
theorem first_zero {l : List ShapeT} {n : Nat} {i c : Nat} (h : least l (List.replicate l.length (-1)) i 0 n = some c) : c = 0 := by
  obtain ⟨_, _, h3, h4⟩ := least_some h
  rcases Nat.eq_zero_or_pos c with h0 | h0
  · exact h0
  · have := h4 0 (Nat.le_refl _) h0
    unfold fitAt at h3 this
    rw [on_alone (c : Int) (by omega) l _ i (fun x hx => (List.mem_replicate.1 hx).2) (by simp)] at h3
    rw [on_alone ((0 : Nat) : Int) (by omega) l _ i (fun x hx => (List.mem_replicate.1 hx).2) (by simp), h3] at this
    cases this
theorem neg_seen (a : List Int) (ha : a.length ≤ 1000) (e : Int) : lp (g_law16_PartFirst_L0 (a, e)) (0, []) = some (List.replicate a.length (-1)) := by
  have key : ∀ (k i : Nat), i + k = a.length → lp (g_law16_PartFirst_L0 (a, e)) ((i : Int), List.replicate i (-1)) = some (List.replicate a.length (-1)) := by
    intro k
    induction k with
    | zero =>
      intro i hi
      have : i = a.length := by omega
      subst this
      rw [lp_eq]
      simp only [g_law16_PartFirst_L0, lt_f, cond_false]
    | succ k ih =>
      intro i hi
      have hi' : i < a.length := by omega
      rw [lp_eq]
      simp only [g_law16_PartFirst_L0, lt_t hi', cond_true, List.length_replicate, lim_t (show i + 1 ≤ 1073741824 by omega), w64_succ hi' (show a.length < 9223372036854775808 by omega)]
      rw [show List.replicate i (-1 : Int) ++ [-1] = List.replicate (i + 1) (-1) by rw [List.replicate_succ']]
      exact ih (i + 1) (by omega)
  exact key a.length 0 (by omega)
theorem seen_try (l : List ShapeT) (hl : l.length ≤ 1000) (a : List Int) (e : Int) (i : Int) (hi : 0 ≤ i) (c : Nat) (h8 : c < 100) (ha : a[i.toNat]? = some (c : Int)) : ∀ (k core : Nat) (seen : List Int), core + k = c → seen.length = l.length → i.toNat < l.length → (∀ b, core ≤ b → b < c → fitAt l seen i.toNat b = false) → ∃ s : List Int, lp (g_law16_PartFirst_L1 l (a, e) i) ((core : Int), seen) = some (.inr s) ∧ s.set i.toNat (c : Int) = seen.set i.toNat (c : Int) ∧ s.length = l.length := by
  intro k
  induction k with
  | zero =>
    intro core seen hc hs hil hf
    rw [lp_eq]
    simp only [g_law16_PartFirst_L1, at_int hi ha, Option.bind_some, decide_eq_false (show ¬ (core : Int) < (c : Int) by omega), cond_false]
    exact ⟨_, rfl, rfl, hs⟩
  | succ k ih =>
    intro core seen hc hs hil hf
    rw [lp_eq]
    have w : w64 ((core : Int) + 1) = ((core + 1 : Nat) : Int) := w64_succ (show core < 100 by omega) (by omega)
    have g : getI seen i = some (seen[i.toNat]'(by omega)) := at_int hi (List.getElem?_eq_getElem (by omega))
    have f := fits_p (on l (seen.set i.toNat (core : Int)) (core : Int)) (Nat.le_trans (on_sub _ _ _) hl)
    rw [show fits (on l (seen.set i.toNat (core : Int)) (core : Int)) = fitAt l seen i.toNat core from rfl, hf core (Nat.le_refl _) (by omega)] at f
    simp only [g_law16_PartFirst_L1, at_int hi ha, Option.bind_some, decide_eq_true (show (core : Int) < (c : Int) by omega), cond_true, g, own_s l hl, List.length_set, lim_t (show seen.length ≤ 1073741824 by omega), on_p l hl, f, cond_false, w]
    obtain ⟨s, s1, s2, s3⟩ := ih (core + 1) (seen.set i.toNat (core : Int)) (by omega) (by rw [List.length_set]; exact hs) hil (fun b h1 h2 => by rw [fitAt_set]; exact hf b (by omega) h2)
    exact ⟨s, s1, by rw [s2, List.set_set], s3⟩
theorem seen_all (l : List ShapeT) (hl : l.length ≤ 1000) (n : Nat) (hn : n ≤ 8) (a : List Int) (e : Int) (o : List Int) (hol : o.length ≤ 1000) (hnd : o.Nodup) (hin : ∀ x ∈ o, InL l x) : ∀ (k j : Nat) (seen : List Int), j + k = o.length → seen.length = l.length → placeL l n (o.drop j) seen = some a → lp (g_law16_PartFirst_L2 l (a, e) o) ((j : Int), seen) = some (.inr ()) := by
  intro k
  induction k with
  | zero =>
    intro j seen hj hs hp
    have : j = o.length := by omega
    subst this
    rw [lp_eq]
    simp only [g_law16_PartFirst_L2, lt_f, cond_false]
  | succ k ih =>
    intro j seen hj hs hp
    have hj' : j < o.length := by omega
    have hx := hin _ (List.getElem_mem hj')
    rw [List.drop_eq_getElem_cons hj'] at hp
    unfold placeL at hp
    cases hlst : least l seen o[j].toNat 0 n with
    | none => rw [hlst] at hp; cases hp
    | some c =>
      rw [hlst] at hp
      obtain ⟨_, b2, _, b4⟩ := least_some hlst
      have hai : a[o[j].toNat]? = some (c : Int) := by
        rw [placeL_stay hp (fun x hx2 => ?_), List.getElem?_set_self (by rw [hs]; exact hx.2)]
        intro heq
        have hxi := hin x (List.mem_of_mem_drop hx2)
        have : x = o[j] := by have := hxi.1; have := hx.1; omega
        subst this
        obtain ⟨m, hm1, hm2⟩ := List.mem_iff_getElem.1 hx2
        rw [List.getElem_drop] at hm2
        have := (List.pairwise_iff_getElem.1 hnd) j (j + 1 + m) hj' (by rw [List.length_drop] at hm1; omega) (by omega)
        exact this hm2.symm
      obtain ⟨s, s1, s2, s3⟩ := seen_try l hl a e o[j] hx.1 c (by omega) hai c 0 seen (by omega) hs hx.2 (fun b _ h2 => b4 b (Nat.zero_le _) h2)
      have s1' : lp (g_law16_PartFirst_L1 l (a, e) o[j]) (0, seen) = some (.inr s) := s1
      have gs : getI s o[j] = some (s[o[j].toNat]'(by rw [s3]; exact hx.2)) := at_int hx.1 (List.getElem?_eq_getElem (by rw [s3]; exact hx.2))
      rw [lp_eq]
      simp only [g_law16_PartFirst_L2, lt_t hj', at_some (List.getElem?_eq_getElem hj'), Option.bind_some, cond_true, s1', at_int hx.1 hai, gs, w64_succ hj' (show o.length < 9223372036854775808 by omega), s2]
      exact ih (j + 1) (seen.set o[j].toNat (c : Int)) (by omega) (by rw [List.length_set]; exact hs) hp
theorem law_PartFirst (l : List ShapeT) (b : Int) (hb : I64 b) : g_law16_PartFirst l b = some true := by
  unfold g_law16_PartFirst
  simp only [g_law16_awake, Option.bind_some, cond_true]
  by_cases h20 : (20 : Int) < (l.length : Int)
  · rw [decide_eq_true h20]; rfl
  rw [decide_eq_false h20]
  have hl : l.length ≤ 1000 := by omega
  obtain ⟨o, o1, o2⟩ := order_p l hl
  simp only [cond_false, own_s l hl, Option.bind_some, place_p l hl o1 o2 b]
  cases hc : (checkL l && cores8 b) with
  | false => rfl
  | true =>
    have c8 : 0 ≤ b ∧ b ≤ 8 := by
      simp only [Bool.and_eq_true] at hc
      have := hc.2
      unfold cores8 at this
      simpa using this
    simp only [cond_true]
    cases hp : placeL l b.toNat o (List.replicate l.length (-1)) with
    | none => rfl
    | some a =>
      simp only [bne_self_eq_false, cond_false]
      by_cases h0 : l.length = 0
      · rw [show ((l.length : Int) == 0) = true by simp [h0]]; rfl
      · rw [show ((l.length : Int) == 0) = false by simpa using h0]
        have hal := placeL_len hp
        rw [List.length_replicate] at hal
        have hol := o2.len
        have hnd := o2.nodup
        have sa := seen_all l hl b.toNat (by omega) a 0 o (by omega) hnd (fun x hx => (o2.mem x).1 hx) o.length 0 (List.replicate l.length (-1)) (by omega) (by simp) (by rw [List.drop_zero]; exact hp)
        have sa' : lp (g_law16_PartFirst_L2 l (a, 0) o) (0, List.replicate l.length (-1)) = some (.inr ()) := sa
        have ns := neg_seen a (by omega) 0
        rw [hal] at ns
        cases o with
        | nil => exact absurd hol.symm h0
        | cons i o =>
          have hi := (o2.mem i).1 (by simp)
          unfold placeL at hp
          cases hlst : least l (List.replicate l.length (-1)) i.toNat 0 b.toNat with
          | none => rw [hlst] at hp; cases hp
          | some c =>
            rw [hlst] at hp
            have hc0 := first_zero hlst
            subst hc0
            have hai : a[i.toNat]? = some ((0 : Nat) : Int) := by
              rw [placeL_stay hp (fun x hx2 => ?_), List.getElem?_set_self (by rw [List.length_replicate]; exact hi.2)]
              intro heq
              have hxi := (o2.mem x).1 (by simp [hx2])
              have : x = i := by have := hxi.1; have := hi.1; omega
              subst this
              exact (List.nodup_cons.1 hnd).1 hx2
            have g0 : getI (i :: o) 0 = some i := at_some (i := 0) rfl
            simp only [cond_false, own_s l hl, Option.bind_some, o1, ns, sa', g0, at_int hi.1 hai]
            rfl

theorem ev_PartFirst (xs : List D) (h : okLfs par43.1 xs) (ys : List D) (k : okLfs par3.1 ys) : ∃ H', evW ctx 13 (mapd [parD par43.2 xs, parD par3.2 ys]) [] = some (.d (.bool true), H') := by
  obtain ⟨x, r, rfl, h1, rfl⟩ := h
  obtain ⟨l, rfl⟩ := shape_of h1
  obtain ⟨n, hn, okn⟩ := int_of k
  show ∃ H', evW ctx 13 [.d (.list true (l.map shapeD)), .d (parD false ys)] [] = _
  rw [hn]
  exact evD_true (g_law16_PartFirst_ok true l n true (law_PartFirst l n okn))
end Go.Proofs.YtakebhleglnpjaaDoor
