/- Tasks that aren't too great. -/
import Derived.Test.YtakebhleglnpjaaDoorD2
namespace Go.Proofs.YtakebhleglnpjaaDoor
open Go Go.Proofs.YtakebhleglnpjaaDoorE
set_option linter.unusedVariables false
set_option linter.unusedSimpArgs false

def fewB (b : BarrierT) : Bool := decide (b.ins.length ≤ 20) && decide (b.outs.length ≤ 20)
def few (d : DescT) : Bool := (d.barriers.take 9).all fewB && (decide (d.parts.length ≤ 20) && (decide (d.edges.length ≤ 60) && (decide (d.futures.length ≤ 20) && decide (d.barriers.length ≤ 8))))

abbrev descH (τ : Bool) (d : DescT) : List V := [.d (intD d.period), .d (intD d.deadline), .d (.list τ (d.parts.map partD)), .d (.list τ (d.edges.map edgeD)), .d (.list τ (d.futures.map futureD)), .d (.list τ (d.barriers.map barrierD))]

theorem few_loop (τ : Bool) (d : DescT) (hb : d.barriers.length < 9223372036854775808) : ∀ (k i : Nat), i + k = min d.barriers.length 9 →
    lpW ctx 0 [1, 3] [1, 2] ir16L0 [.ptr 0 0, .d (intD i)] [.cells (descH τ d)] =
      if ((d.barriers.take 9).drop i).all fewB then some (.exit 0, [.ptr 0 0, .bad], [.cells (descH τ d)]) else some (.ret, [.ptr 0 0, .d (boolD false)], [.cells (descH τ d)]) := by
  intro k
  induction k with
  | zero =>
    intro i hi
    rw [lpW_b]
    conv => lhs; whnf
    rw [List.length_map]
    have h0 : (d.barriers.take 9).drop i = [] := by simp; omega
    rw [h0]
    by_cases h : (i : Int) < d.barriers.length
    · rw [decide_eq_true h, br_t]
      conv => lhs; whnf
      have h2 : ¬ (i : Int) < 9 := by omega
      rw [decide_eq_false h2, br_f]
      rfl
    · rw [decide_eq_false h, br_f]
      rfl
  | succ k ih =>
    intro i hi
    rw [lpW_b]
    conv => lhs; whnf
    rw [List.length_map]
    have h1 : (i : Int) < d.barriers.length := by omega
    have h2 : (i : Int) < 9 := by omega
    rw [decide_eq_true h1, br_t]
    conv => lhs; whnf
    rw [decide_eq_true h2, br_t]
    conv => lhs; whnf
    have hi' : i < d.barriers.length := by omega
    rw [getI_map _ _ _ hi', bnd_s]
    conv => lhs; whnf
    rw [List.length_map]
    have hd : (d.barriers.take 9).drop i = d.barriers[i] :: (d.barriers.take 9).drop (i + 1) := by
      rw [List.drop_eq_getElem_cons (by simp; omega)]
      simp
    rw [hd, List.all_cons]
    by_cases h3 : d.barriers[i].ins.length ≤ 20
    · have h3' : ¬ ((20 : Int) < d.barriers[i].ins.length) := by omega
      rw [decide_eq_false h3', br_f]
      conv => lhs; whnf
      rw [getI_map _ _ _ hi', bnd_s]
      conv => lhs; whnf
      rw [List.length_map]
      by_cases h4 : d.barriers[i].outs.length ≤ 20
      · have h4' : ¬ ((20 : Int) < d.barriers[i].outs.length) := by omega
        rw [decide_eq_false h4', br_f]
        conv => lhs; whnf
        have hw : IntKind.i64.wrap ((i : Int) + 1) = ((i + 1 : Nat) : Int) := by rw [wrap64 (by omega) (by omega)]; omega
        simp only [hw]
        rw [ih (i + 1) (by omega)]
        have : fewB d.barriers[i] = true := by simp [fewB, h3, h4]
        rw [this, Bool.true_and]
        exact bnd_some _
      · have h4' : ((20 : Int) < d.barriers[i].outs.length) := by omega
        rw [decide_eq_true h4', br_t]
        have : fewB d.barriers[i] = false := by simp [fewB, h4]
        rw [this]
        rfl
    · have h3' : ((20 : Int) < d.barriers[i].ins.length) := by omega
      rw [decide_eq_true h3', br_t]
      have : fewB d.barriers[i] = false := by simp [fewB, h3]
      rw [this]
      rfl

theorem few_ev (τ : Bool) (d : DescT) (hb : d.short) : evW ctx 16 [.d (descD τ d)] [] = some (.d (.bool (few d)), []) := by
  obtain ⟨s1, s2, s3, s4, s5⟩ := hb
  rw [evW_K ctx 16 fn16 _ _ rfl rfl]
  conv => lhs; whnf
  simp only [List.length_nil]
  rw [show (V.d (D.int .i64 0)) = V.d (intD ((0 : Nat) : Int)) from rfl, few_loop τ d s4 (min d.barriers.length 9) 0 (by omega), List.drop_zero]
  by_cases h : (d.barriers.take 9).all fewB = true
  · rw [if_pos h, bnd_s]
    conv => lhs; whnf
    rw [List.length_map]
    by_cases h1 : d.parts.length ≤ 20
    · rw [decide_eq_true (show (d.parts.length : Int) ≤ 20 by omega), br_t]
      conv => lhs; whnf
      rw [List.length_map]
      by_cases h2 : d.edges.length ≤ 60
      · rw [decide_eq_true (show (d.edges.length : Int) ≤ 60 by omega), br_t]
        conv => lhs; whnf
        rw [List.length_map]
        by_cases h3 : d.futures.length ≤ 20
        · rw [decide_eq_true (show (d.futures.length : Int) ≤ 20 by omega), br_t]
          conv => lhs; whnf
          rw [List.length_map]
          by_cases h4 : d.barriers.length ≤ 8
          · rw [decide_eq_true (show (d.barriers.length : Int) ≤ 8 by omega), br_t, show few d = true by simp [few, h, h1, h2, h3, h4]]
            rfl
          · rw [decide_eq_false (show ¬ (d.barriers.length : Int) ≤ 8 by omega), br_f, show few d = false by simp [few, h4]]
            rfl
        · rw [decide_eq_false (show ¬ (d.futures.length : Int) ≤ 20 by omega), br_f, show few d = false by simp [few, h3]]
          rfl
      · rw [decide_eq_false (show ¬ (d.edges.length : Int) ≤ 60 by omega), br_f, show few d = false by simp [few, h2]]
        rfl
    · rw [decide_eq_false (show ¬ (d.parts.length : Int) ≤ 20 by omega), br_f, show few d = false by simp [few, h1]]
      rfl
  · have h' : (d.barriers.take 9).all fewB = false := by simpa using h
    rw [if_neg h, bnd_s, show few d = false by simp only [few, h', Bool.false_and]]
    rfl

/-- what a task that isn't too great is -/
structure Sized (d : DescT) : Prop where
  p : d.parts.length ≤ 20
  e : d.edges.length ≤ 60
  f : d.futures.length ≤ 20
  b : d.barriers.length ≤ 8
  i : ∀ b ∈ d.barriers, b.ins.length ≤ 20 ∧ b.outs.length ≤ 20

theorem few_sized {d : DescT} (h : few d = true) : Sized d := by
  unfold few at h
  simp only [Bool.and_eq_true, decide_eq_true_eq, List.all_eq_true] at h
  obtain ⟨h1, h2, h3, h4, h5⟩ := h
  refine ⟨h2, h3, h4, h5, fun b hb => ?_⟩
  have := h1 b (by rw [List.take_of_length_le (by omega)]; exact hb)
  simpa [fewB] using this
theorem Sized.short {d : DescT} (h : Sized d) : d.short :=
  ⟨by have := h.p; omega, by have := h.e; omega, by have := h.f; omega, by have := h.b; omega, fun b hb => ⟨by have := (h.i b hb).1; omega, by have := (h.i b hb).2; omega⟩⟩
end Go.Proofs.YtakebhleglnpjaaDoor
