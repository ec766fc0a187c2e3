/- Tasks: the same ones. -/
import Derived.Test.YtakebhleglnpjaaDoorD1
namespace Go.Proofs.YtakebhleglnpjaaDoor
open Go Go.Proofs.YtakebhleglnpjaaDoorE
set_option linter.unusedVariables false
set_option linter.unusedSimpArgs false

def Short (b : BarrierT) : Prop := b.ins.length < 9223372036854775808 ∧ b.outs.length < 9223372036854775808

theorem sameB (a b : BarrierT) (ha : Short a) : evW ctx 54 [.d (barrierD a), .d (barrierD b)] [] = some (.d (.bool (decide (a = b))), []) := by
  rw [evW_K ctx 54 fn54 _ _ rfl rfl]
  conv => lhs; whnf
  rw [eq_int true true a.ins b.ins ha.1, bnd_s]
  conv => lhs; whnf
  obtain ⟨a1, a2⟩ := a
  obtain ⟨b1, b2⟩ := b
  by_cases h1 : a1 = b1
  · subst h1
    rw [decide_eq_true rfl, br_t]
    conv => lhs; whnf
    rw [eq_int true true a2 b2 ha.2, bnd_s]
    conv => lhs; whnf
    by_cases h2 : a2 = b2
    · subst h2; rw [decide_eq_true rfl, br_t, decide_eq_true rfl]; rfl
    · rw [decide_eq_false h2, br_f, decide_eq_false (fun h => h2 (BarrierT.mk.inj h).2)]; rfl
  · rw [decide_eq_false h1, br_f, decide_eq_false (fun h => h1 (BarrierT.mk.inj h).1)]; rfl

theorem eqf_loop (τ τ' : Bool) (xs ys : List BarrierT) (hl : xs.length = ys.length) (hb : xs.length < 9223372036854775808) (hs : ∀ b ∈ xs, Short b) : ∀ (k i : Nat), i + k = xs.length →
    lpW ctx 0 [1, 2, 15, 16, 17] [6] ir59L0 [.d (.list τ' (ys.map barrierD)), .d (.fn 54 []), .d (.list τ (xs.map barrierD)), .d (intD xs.length), .d (intD i)] [] =
      if xs.drop i = ys.drop i then some (.exit 0, [.bad], []) else some (.ret, [.d (boolD false)], []) := by
  intro k
  induction k with
  | zero =>
    intro i hi
    rw [lpW_b]
    conv => lhs; whnf
    have : ¬ ((i : Int) < xs.length) := by omega
    rw [decide_eq_false this, br_f]
    conv => lhs; whnf
    have h1 : xs.drop i = [] := by simp; omega
    have h2 : ys.drop i = [] := by simp; omega
    rw [h1, h2]; rfl
  | succ k ih =>
    intro i hi
    rw [lpW_b]
    conv => lhs; whnf
    have : ((i : Int) < xs.length) := by omega
    rw [decide_eq_true this, br_t]
    conv => lhs; whnf
    rw [getI_map _ _ _ (show i < xs.length by omega), bnd_s]
    conv => lhs; whnf
    rw [getI_map _ _ _ (show i < ys.length by omega), bnd_s]
    conv => lhs; whnf
    have hx : xs.drop i = xs[i] :: xs.drop (i + 1) := List.drop_eq_getElem_cons (by omega)
    have hy : ys.drop i = ys[i] :: ys.drop (i + 1) := List.drop_eq_getElem_cons (by omega)
    rw [hx, hy, sameB xs[i] ys[i] (hs _ (List.getElem_mem _)), bnd_s]
    conv => lhs; whnf
    by_cases he : xs[i] = ys[i]
    · rw [decide_eq_true he, br_t, he]
      conv => lhs; whnf
      have hw : IntKind.i64.wrap ((i : Int) + 1) = ((i + 1 : Nat) : Int) := by rw [wrap64 (by omega) (by omega)]; omega
      simp only [hw]
      rw [ih (i + 1) (by omega)]
      simp only [List.cons.injEq, true_and]
      exact bnd_some _
    · rw [decide_eq_false he, br_f]
      conv => lhs; whnf
      rw [if_neg (fun h => he (List.cons.inj h).1)]

theorem eqf (τ τ' : Bool) (xs ys : List BarrierT) (hb : xs.length < 9223372036854775808) (hs : ∀ b ∈ xs, Short b) :
    evW ctx 59 [.d (.list τ (xs.map barrierD)), .d (.list τ' (ys.map barrierD)), .d (.fn 54 [])] [] = some (.d (.bool (decide (xs = ys))), []) := by
  rw [evW_K ctx 59 fn59 _ _ rfl rfl]
  conv => lhs; whnf
  simp only [List.length_map]
  by_cases hl : xs.length = ys.length
  · have hn : ((xs.length : Int) != (ys.length : Int)) = false := by rw [hl]; simp
    rw [hn]; first | rw [br_t] | rw [br_f]
    conv => lhs; whnf
    simp only [List.length_map, List.length_nil]
    rw [show (V.d (D.int .i64 0)) = V.d (intD ((0 : Nat) : Int)) from rfl, eqf_loop τ τ' xs ys hl hb hs xs.length 0 (by omega)]
    simp only [List.drop_zero]
    by_cases he : xs = ys
    · rw [if_pos he, decide_eq_true he, bnd_s]; rfl
    · rw [if_neg he, decide_eq_false he, bnd_s]; rfl
  · have hn : ((xs.length : Int) != (ys.length : Int)) = true := by simp; omega
    rw [hn]; first | rw [br_t] | rw [br_f]
    conv => lhs; whnf
    rw [decide_eq_false (fun h => hl (by rw [h]))]

/-- no list too long for words -/
def _root_.Go.Proofs.YtakebhleglnpjaaDoorE.DescT.short (d : DescT) : Prop := d.parts.length < 9223372036854775808 ∧ d.edges.length < 9223372036854775808 ∧ d.futures.length < 9223372036854775808 ∧ d.barriers.length < 9223372036854775808 ∧ ∀ b ∈ d.barriers, Short b

theorem same_ev (τ τ' : Bool) (a b : DescT) (ha : a.short) : evW ctx 20 [.d (descD τ a), .d (descD τ' b)] [] = some (.d (.bool (decide (a = b))), []) := by
  obtain ⟨a1, a2, a3, a4, a5, a6⟩ := a
  obtain ⟨b1, b2, b3, b4, b5, b6⟩ := b
  obtain ⟨s3, s4, s5, s6, s7⟩ := ha
  rw [evW_K ctx 20 fn20 _ _ rfl rfl]
  conv => lhs; whnf
  by_cases h1 : a1 = b1
  · subst h1
    rw [beq_self_eq_true, br_t]
    conv => lhs; whnf
    by_cases h2 : a2 = b2
    · subst h2
      rw [beq_self_eq_true, br_t]
      conv => lhs; whnf
      rw [eq_Part τ τ' a3 b3 s3, bnd_s]
      conv => lhs; whnf
      by_cases h3 : a3 = b3
      · subst h3
        rw [decide_eq_true rfl, br_t]
        conv => lhs; whnf
        rw [eq_Edge τ τ' a4 b4 s4, bnd_s]
        conv => lhs; whnf
        by_cases h4 : a4 = b4
        · subst h4
          rw [decide_eq_true rfl, br_t]
          conv => lhs; whnf
          rw [eq_Future τ τ' a5 b5 s5, bnd_s]
          conv => lhs; whnf
          by_cases h5 : a5 = b5
          · subst h5
            rw [decide_eq_true rfl, br_t]
            conv => lhs; whnf
            rw [eqf τ τ' a6 b6 s6 s7, bnd_s]
            conv => lhs; whnf
            by_cases h6 : a6 = b6
            · subst h6
              rw [decide_eq_true rfl, br_t, decide_eq_true rfl]; rfl
            · rw [decide_eq_false h6, br_f, decide_eq_false (fun h => h6 (DescT.mk.inj h).2.2.2.2.2)]; rfl
          · rw [decide_eq_false h5, br_f, decide_eq_false (fun h => h5 (DescT.mk.inj h).2.2.2.2.1)]; rfl
        · rw [decide_eq_false h4, br_f, decide_eq_false (fun h => h4 (DescT.mk.inj h).2.2.2.1)]; rfl
      · rw [decide_eq_false h3, br_f, decide_eq_false (fun h => h3 (DescT.mk.inj h).2.2.1)]; rfl
    · have : (a2 == b2) = false := by simpa using h2
      rw [this, br_f, decide_eq_false (fun h => h2 (DescT.mk.inj h).2.1)]; rfl
  · have : (a1 == b1) = false := by simpa using h1
    rw [this, br_f, decide_eq_false (fun h => h1 (DescT.mk.inj h).1)]; rfl
end Go.Proofs.YtakebhleglnpjaaDoor
