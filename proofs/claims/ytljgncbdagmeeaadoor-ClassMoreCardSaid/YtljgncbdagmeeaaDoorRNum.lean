/- Numbers: powers of two, plainly. -/
import Derived.Test.YtljgncbdagmeeaaDoorR1
import Derived.Test.YtljgncbdagmeeaaDoorE36
import Derived.KernelRfl
namespace Go.Proofs.YtljgncbdagmeeaaDoor
open Go Go.Proofs.YtljgncbdagmeeaaDoorE
set_option linter.unusedVariables false
set_option linter.unusedSimpArgs false

/-! powers of two -/
def numErr (n : Int) : Int := bif decide (n < 0) then 10 else bif decide (1099511627775 < n) then 11 else 0
theorem numCheck_p (n : Int) : g_num_Check n = some (numErr n) := by
  unfold g_num_Check numErr
  cases decide (n < 0) <;> cases decide (1099511627775 < n) <;> rfl
noncomputable def ones (x : Int) : Int := match g_math_bits_OnesCount64 x with | some n => n | none => 0
theorem ones_p (x : Int) : g_math_bits_OnesCount x = some (ones x) := by
  unfold g_math_bits_OnesCount ones g_math_bits_OnesCount64
  rfl
def pow2 (n : Nat) : Bool := [1, 2, 4, 8, 16, 32, 64, 128, 256, 512, 1024, 2048, 4096].contains n
theorem ones_table : ((List.range 4097).all fun n => (ones (IntKind.u64.wrap (n : Int)) == 1) == pow2 n) = true := by kernel_rfl
theorem ones_small (n : Nat) (h : n ≤ 4096) : (ones (IntKind.u64.wrap (n : Int)) == 1) = pow2 n := by
  have := List.all_eq_true.1 ones_table n (by simp; omega)
  simpa using this
noncomputable def twoB (n : Int) : Bool := !(numErr n != 0) && !(ones (IntKind.u64.wrap n) != 1)
theorem numTwo_p (n : Int) : ∃ k, g_num_Two n = some (k, twoB n) := by
  have tz : ∃ k, g_math_bits_TrailingZeros (IntKind.u64.wrap n) = some k := ⟨_, rfl⟩
  obtain ⟨k, hk⟩ := tz
  unfold g_num_Two twoB
  simp only [numCheck_p, ones_p, Option.bind_some, hk]
  cases (numErr n != 0)
  · cases (ones (IntKind.u64.wrap n) != 1)
    · exact ⟨k, rfl⟩
    · exact ⟨0, rfl⟩
  · exact ⟨0, rfl⟩
theorem twoB_neg {n : Int} (h : n < 0) : twoB n = false := by
  have : (numErr n != 0) = true := by unfold numErr; rw [decide_eq_true h]; rfl
  simp only [twoB, this]; rfl
theorem twoB_small (n : Nat) (h : n ≤ 4096) : twoB (n : Int) = pow2 n := by
  have h1 : (numErr (n : Int) != 0) = false := by
    unfold numErr
    rw [decide_eq_false (show ¬ ((n : Int) < 0) by omega), decide_eq_false (show ¬ ((1099511627775 : Int) < n) by omega)]
    rfl
  rw [← ones_small n h]
  unfold twoB
  rw [h1]
  unfold bne
  rw [Bool.not_not]
  rfl

end Go.Proofs.YtljgncbdagmeeaaDoor
