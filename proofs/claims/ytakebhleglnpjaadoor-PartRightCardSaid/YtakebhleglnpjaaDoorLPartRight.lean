/- PartRight: what the law comes to. -/
import Derived.Test.YtakebhleglnpjaaDoorQPlaced
import Derived.Test.YtakebhleglnpjaaDoorWPartRight
import Derived.Test.YtakebhleglnpjaaDoorJ3
namespace Go.Proofs.YtakebhleglnpjaaDoor
open Go Go.Proofs.YtakebhleglnpjaaDoorE
set_option linter.unusedVariables false
set_option linter.unusedSimpArgs false

theorem right_loop {l : List ShapeT} (hl : l.length ≤ 1000) {a : List Int} {c : Int} (h : RightP l a c) (e : Int) : ∀ (k i : Nat), (i : Int) + k = c → lp (g_law16_PartRight_L0 l c (a, e)) (i : Int) = some (.inr ()) := by
  have c8 := h.cc
  intro k
  induction k with
  | zero =>
    intro i hi
    rw [lp_eq]
    simp only [g_law16_PartRight_L0, decide_eq_false (show ¬ (i : Int) < c by omega), cond_false]
  | succ k ih =>
    intro i hi
    rw [lp_eq]
    have w : w64 ((i : Int) + 1) = ((i + 1 : Nat) : Int) := w64_succ (show i < 100 by omega) (by omega)
    have f := fits_p (on l a (i : Int)) (Nat.le_trans (on_sub l a i) hl)
    rw [h.fit i (by omega)] at f
    simp only [g_law16_PartRight_L0, decide_eq_true (show (i : Int) < c by omega), cond_true, own_s l hl, Option.bind_some, lim_t (show a.length ≤ 1073741824 by rw [h.len]; omega), on_p l hl, f, w]
    exact ih (i + 1) (by omega)
theorem law_PartRight (l : List ShapeT) (b : Int) (hb : I64 b) : g_law16_PartRight l b = some true := by
  unfold g_law16_PartRight
  simp only [g_law16_awake, Option.bind_some, cond_true]
  by_cases h20 : (20 : Int) < (l.length : Int)
  · rw [decide_eq_true h20]; rfl
  rw [decide_eq_false h20]
  have hl : l.length ≤ 1000 := by omega
  obtain ⟨o, o1, o2⟩ := order_p l hl
  simp only [cond_false, own_s l hl, Option.bind_some, place_p l hl o1 o2 b]
  cases hc : (checkL l && cores8 b) with
  | false => rfl
  | true =>
    simp only [cond_true]
    cases hp : placeL l b.toNat o (List.replicate l.length (-1)) with
    | none => rfl
    | some a =>
      have hr := placed_right (by simp only [Bool.and_eq_true] at hc; exact hc.2) o2 hp
      have ha : a.length ≤ 1000 := by rw [hr.len]; exact hl
      obtain ⟨q, q1, q2⟩ := right_p l hl a ha b
      rw [q2.2 hr] at q1
      have lp0 : lp (g_law16_PartRight_L0 l b (a, 0)) 0 = some (.inr ()) := right_loop hl hr 0 b.toNat 0 (by have := hr.cc; omega)
      simp only [bne_self_eq_false, cond_false, lp0, Option.bind_some, hr.len, beq_self_eq_true, cond_true, lim_t (show l.length ≤ 1073741824 by omega), q1]

theorem ev_PartRight (xs : List D) (h : okLfs par43.1 xs) (ys : List D) (k : okLfs par3.1 ys) : ∃ H', evW ctx 9 (mapd [parD par43.2 xs, parD par3.2 ys]) [] = some (.d (.bool true), H') := by
  obtain ⟨x, r, rfl, h1, rfl⟩ := h
  obtain ⟨l, rfl⟩ := shape_of h1
  obtain ⟨n, hn, okn⟩ := int_of k
  show ∃ H', evW ctx 9 [.d (.list true (l.map shapeD)), .d (parD false ys)] [] = _
  rw [hn]
  exact evD_true (g_law16_PartRight_ok true l n true (law_PartRight l n okn))
end Go.Proofs.YtakebhleglnpjaaDoor
