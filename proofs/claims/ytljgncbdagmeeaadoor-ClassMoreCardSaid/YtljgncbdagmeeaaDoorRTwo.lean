/- The document's powers of two, plainly. -/
import Derived.Test.YtljgncbdagmeeaaDoorRNum
namespace Go.Proofs.YtljgncbdagmeeaaDoor
open Go Go.Proofs.YtljgncbdagmeeaaDoorE
set_option linter.unusedVariables false
set_option linter.unusedSimpArgs false

/-! the document's powers of two -/
def twoR (n : Int) : Bool := (List.range 40).any fun k => ((2 : Int) ^ k == n)
theorem ref_two (n : Int) : ∃ k, g_ref01_Two n = some (k, twoR n) := by
  have step : ∀ k : Nat, k < 40 → g_ref01_Two_L0 n ((2 : Int) ^ k, (k : Int)) = some (bif ((2 : Int) ^ k == n) then .inr (.inl (k : Int)) else .inl ((2 : Int) ^ (k + 1), ((k + 1 : Nat) : Int))) := by
    intro k hk
    have hp : (2 : Int) ^ k ≤ 2 ^ 39 := by
      have : (2 : Nat) ^ k ≤ 2 ^ 39 := Nat.pow_le_pow_right (by omega) (by omega)
      exact_mod_cast this
    have hq : (0 : Int) < 2 ^ k := by
      have : (0 : Nat) < 2 ^ k := Nat.pow_pos (by omega)
      exact_mod_cast this
    have e39 : (2 : Int) ^ 39 = 549755813888 := by decide
    rw [e39] at hp
    have e1 : w64 (2 * (2 : Int) ^ k) = (2 : Int) ^ (k + 1) := by rw [w64_id (by omega) (by omega), Int.pow_succ]; omega
    have e2 : w64 ((k : Int) + 1) = ((k + 1 : Nat) : Int) := w64_succ hk (by omega)
    unfold g_ref01_Two_L0
    simp only [decide_eq_true (show (k : Int) < 40 by omega), cond_true, e1, e2]
    cases ((2 : Int) ^ k == n) <;> rfl
  have key : ∀ m k : Nat, k + m = 40 → lp (g_ref01_Two_L0 n) ((2 : Int) ^ k, (k : Int)) = some (match (List.range' k m).find? (fun j => (2 : Int) ^ j == n) with | some j => .inl (j : Int) | none => .inr ()) := by
    intro m
    induction m with
    | zero =>
      intro k hk
      have : k = 40 := by omega
      subst this
      rw [lp_eq]
      unfold g_ref01_Two_L0
      rfl
    | succ m ih =>
      intro k hk
      rw [lp_eq, step k (by omega), List.range'_succ, List.find?_cons]
      cases h : ((2 : Int) ^ k == n) with
      | true => rfl
      | false => exact ih (k + 1) (by omega)
  have k0 := key 40 0 rfl
  rw [show ((2 : Int) ^ 0) = 1 from rfl] at k0
  have e : (List.range 40).any (fun j => (2 : Int) ^ j == n) = ((List.range' 0 40).find? (fun j => (2 : Int) ^ j == n)).isSome := by
    rw [List.range_eq_range', Bool.eq_iff_iff, List.any_eq_true, List.find?_isSome]
  unfold g_ref01_Two twoR
  rw [e]
  cases hf : (List.range' 0 40).find? (fun j => (2 : Int) ^ j == n) with
  | none =>
    rw [hf] at k0
    refine ⟨0, ?_⟩
    show (lp (g_ref01_Two_L0 n) (1, ((0 : Nat) : Int))).bind _ = _
    rw [k0]; rfl
  | some j =>
    rw [hf] at k0
    refine ⟨j, ?_⟩
    show (lp (g_ref01_Two_L0 n) (1, ((0 : Nat) : Int))).bind _ = _
    rw [k0]; rfl
theorem twoR_small (n : Nat) (h : n ≤ 4096) : twoR (n : Int) = pow2 n := by
  rw [Bool.eq_iff_iff]
  unfold twoR pow2
  rw [List.any_eq_true]
  constructor
  · rintro ⟨k, hk, he⟩
    have hk := List.mem_range.1 hk
    have he : (2 : Nat) ^ k = n := by have := eq_of_beq he; exact_mod_cast this
    have h13 : k < 13 := by
      rcases Nat.lt_or_ge k 13 with h1 | h1
      · exact h1
      · have : 2 ^ 13 ≤ 2 ^ k := Nat.pow_le_pow_right (by omega) h1
        omega
    subst he
    have : ((List.range 13).all fun k => [1, 2, 4, 8, 16, 32, 64, 128, 256, 512, 1024, 2048, 4096].contains (2 ^ k)) = true := by decide
    exact List.all_eq_true.1 this k (by simpa using h13)
  · intro h
    have : n = 2 ^ 0 ∨ n = 2 ^ 1 ∨ n = 2 ^ 2 ∨ n = 2 ^ 3 ∨ n = 2 ^ 4 ∨ n = 2 ^ 5 ∨ n = 2 ^ 6 ∨ n = 2 ^ 7 ∨ n = 2 ^ 8 ∨ n = 2 ^ 9 ∨ n = 2 ^ 10 ∨ n = 2 ^ 11 ∨ n = 2 ^ 12 := by
      simpa using h
    rcases this with h | h | h | h | h | h | h | h | h | h | h | h | h <;> subst h
    · exact ⟨0, by decide, by decide⟩
    · exact ⟨1, by decide, by decide⟩
    · exact ⟨2, by decide, by decide⟩
    · exact ⟨3, by decide, by decide⟩
    · exact ⟨4, by decide, by decide⟩
    · exact ⟨5, by decide, by decide⟩
    · exact ⟨6, by decide, by decide⟩
    · exact ⟨7, by decide, by decide⟩
    · exact ⟨8, by decide, by decide⟩
    · exact ⟨9, by decide, by decide⟩
    · exact ⟨10, by decide, by decide⟩
    · exact ⟨11, by decide, by decide⟩
    · exact ⟨12, by decide, by decide⟩
theorem twoR_eq (n : Int) (h : n ≤ 4096) : twoR n = twoB n := by
  by_cases h0 : n < 0
  · rw [twoB_neg h0]
    unfold twoR
    rw [List.any_eq_false]
    intro k _ he
    have he := eq_of_beq he
    have : (0 : Int) < 2 ^ k := Int.pow_pos (by omega)
    omega
  · obtain ⟨m, rfl⟩ : ∃ m : Nat, n = (m : Int) := ⟨n.toNat, by omega⟩
    rw [twoR_small m (by omega), twoB_small m (by omega)]

end Go.Proofs.YtljgncbdagmeeaaDoor
