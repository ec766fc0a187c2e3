/- Sorting, plainly: patterns broken. -/
import Derived.Test.YtakebhleglnpjaaDoorQSortC
import Derived.KernelRfl
namespace Go.Proofs.YtakebhleglnpjaaDoor
open Go Go.Proofs.YtakebhleglnpjaaDoorE Go.Sort
set_option linter.unusedVariables false
set_option linter.unusedSimpArgs false

theorem wrap_u64 (n : Int) : IntKind.u64.wrap n = n % 18446744073709551616 := by
  show (if (false && decide (n % 18446744073709551616 ≥ 9223372036854775808)) = true then n % 18446744073709551616 - 18446744073709551616 else n % 18446744073709551616) = _
  simp
theorem wrap_u64_nat {n : Nat} (h : n < 18446744073709551616) : IntKind.u64.wrap (n : Int) = (n : Int) := by rw [wrap_u64]; omega
def xorI (a b : Int) : Int := IntKind.u64.wrap (BitVec.ofInt IntKind.u64.bits a ^^^ BitVec.ofInt IntKind.u64.bits b).toNat
def andI (a b : Int) : Int := IntKind.u64.wrap (BitVec.ofInt IntKind.u64.bits a &&& BitVec.ofInt IntKind.u64.bits b).toNat
def xs (r : Int) : Int := xorI (xorI (xorI r (IntKind.u64.wrap (r * 2 ^ 13))) (Int.fdiv (xorI r (IntKind.u64.wrap (r * 2 ^ 13))) (2 ^ 7))) (IntKind.u64.wrap (xorI (xorI r (IntKind.u64.wrap (r * 2 ^ 13))) (Int.fdiv (xorI r (IntKind.u64.wrap (r * 2 ^ 13))) (2 ^ 7)) * 2 ^ 17))

theorem ofInt_u (u : UInt64) : BitVec.ofInt IntKind.u64.bits (u.toNat : Int) = u.toBitVec := by
  show BitVec.ofInt 64 (u.toNat : Int) = u.toBitVec
  rw [BitVec.ofInt_natCast]
  apply BitVec.eq_of_toNat_eq
  rw [BitVec.toNat_ofNat]
  exact Nat.mod_eq_of_lt u.toNat_lt
theorem xor_u (u v : UInt64) : xorI (u.toNat : Int) (v.toNat : Int) = ((u ^^^ v).toNat : Int) := by
  unfold xorI
  rw [ofInt_u, ofInt_u]
  exact wrap_u64_nat (u ^^^ v).toNat_lt
theorem shl_u (u : UInt64) (k : Nat) (v : UInt64) (hk : v.toNat % 64 = k) : IntKind.u64.wrap ((u.toNat : Int) * 2 ^ k) = ((u <<< v).toNat : Int) := by
  rw [wrap_u64, UInt64.toNat_shiftLeft, hk, Nat.shiftLeft_eq]
  have : ((2 : Int) ^ k) = ((2 ^ k : Nat) : Int) := by rw [Int.natCast_pow]; rfl
  rw [this]
  omega
theorem shr_u (u : UInt64) (k : Nat) (v : UInt64) (hk : v.toNat % 64 = k) : Int.fdiv (u.toNat : Int) (2 ^ k) = ((u >>> v).toNat : Int) := by
  have e : ((2 : Int) ^ k) = ((2 ^ k : Nat) : Int) := by rw [Int.natCast_pow]; rfl
  rw [UInt64.toNat_shiftRight, hk, Nat.shiftRight_eq_div_pow, e, Int.fdiv_eq_ediv_of_nonneg _ (Int.natCast_nonneg _)]
  exact (Int.natCast_ediv _ _).symm
theorem xs_u (u : UInt64) : xs (u.toNat : Int) = ((xorNext u).toNat : Int) := by
  unfold xs xorNext
  rw [shl_u u 13 13 rfl, xor_u, shr_u _ 7 7 rfl, xor_u, shl_u _ 17 17 rfl, xor_u]
theorem and_nat (u : UInt64) (m : Nat) (hm : m < 18446744073709551616) : andI (u.toNat : Int) (m : Int) = ((u.toNat &&& m : Nat) : Int) := by
  unfold andI
  rw [ofInt_u]
  have : BitVec.ofInt IntKind.u64.bits (m : Int) = BitVec.ofNat 64 m := BitVec.ofInt_natCast _ _
  rw [this]
  show IntKind.u64.wrap ((((u.toBitVec &&& BitVec.ofNat 64 m : BitVec 64)).toNat : Nat) : Int) = _
  rw [BitVec.toNat_and, BitVec.toNat_ofNat, Nat.mod_eq_of_lt hm]
  refine wrap_u64_nat (Nat.lt_of_le_of_lt Nat.and_le_left u.toNat_lt)

/-! lengths in bits -/
theorem len_table : ((List.range 1001).all fun n => (match g_math_bits_Len (IntKind.u64.wrap (n : Int)) with | some v => v == (bitsLen n : Int) | none => false) && ((match g_slices_nextPowerOfTwo (n : Int) with | some v => v == ((1 <<< bitsLen n : Nat) : Int) | none => false) && (decide (1 <<< bitsLen n ≤ 2 * n) || n == 0))) = true := by kernel_rfl
theorem len_p {n : Nat} (h : n ≤ 1000) : g_math_bits_Len (IntKind.u64.wrap (n : Int)) = some (bitsLen n : Int) ∧ g_slices_nextPowerOfTwo (n : Int) = some ((1 <<< bitsLen n : Nat) : Int) ∧ (0 < n → 1 <<< bitsLen n ≤ 2 * n) := by
  have := List.all_eq_true.1 len_table n (by simp; omega)
  simp only [Bool.and_eq_true, Bool.or_eq_true, decide_eq_true_eq, beq_iff_eq] at this
  obtain ⟨h1, h2, h3⟩ := this
  refine ⟨?_, ?_, fun h => by omega⟩
  · split at h1
    · rename_i v hv; rw [hv, eq_of_beq h1]
    · cases h1
  · split at h2
    · rename_i v hv; rw [hv, eq_of_beq h2]
    · cases h2

def bpRound (s : Int × List Int × Int) (o : Int) : Option ((Int × List Int × Int) ⊕ List Int) :=
  (getI s.2.1 o).bind fun x3 => (getI s.2.1 s.1).bind fun x4 => (getI (List.set s.2.1 s.1.toNat x3) o).bind fun _ => some (Sum.inl (w64 (s.1 + 1), List.set (List.set s.2.1 s.1.toNat x3) o.toNat x4, xs s.2.2))
theorem bp_eq (b c x0 : Int) (s : Int × List Int × Int) : g_slices_breakPatternsCmpFunc_int_L0 b c x0 s = (bif (decide (s.1 ≤ (w64 ((w64 (b + (w64 ((w64 (Int.tdiv (w64 (c - b)) 4)) * 2)))) + 1)))) then
    g_slices_xorshift_Next.bind fun _ => bif decide (w64 (c - b) ≤ w64 (andI (xs s.2.2) (IntKind.u64.wrap (x0 - 1)))) then bpRound s (w64 (b + w64 (w64 (andI (xs s.2.2) (IntKind.u64.wrap (x0 - 1))) - w64 (c - b)))) else bpRound s (w64 (b + w64 (andI (xs s.2.2) (IntKind.u64.wrap (x0 - 1)))))
  else some (.inr s.2.1)) := rfl

theorem bp_round {P : Int → Prop} (d : Array Int) (hd : OKA P d) (i o : Nat) (u : UInt64) (hi : i < d.size) (ho : o < d.size) : bpRound ((i : Int), d.toList, (u.toNat : Int)) (o : Int) = some (.inl (((i + 1 : Nat) : Int), (swp d i o).toList, ((xorNext u).toNat : Int))) := by
  have hz := hd.sz
  obtain ⟨y, em⟩ := midA (i := i) (x := d[o]!) ho
  unfold bpRound
  simp only [getA ho, getA hi, Option.bind_some, Int.toNat_natCast, em, swapA, xs_u, w64_succ hi (by omega)]
theorem bp_step {P : Int → Prop} (a b : Nat) (d : Array Int) (hd : OKA P d) (h8 : 8 ≤ b - a) (hb : b ≤ d.size) (i : Nat) (hi : i ≤ a + (b - a) / 4 * 2 + 1) (u : UInt64) :
    g_slices_breakPatternsCmpFunc_int_L0 (a : Int) (b : Int) ((1 <<< bitsLen (b - a) : Nat) : Int) ((i : Int), d.toList, (u.toNat : Int)) = some (.inl (((i + 1 : Nat) : Int), (breakStep a (b - a) (1 <<< bitsLen (b - a)) (u, d) i).2.toList, ((breakStep a (b - a) (1 <<< bitsLen (b - a)) (u, d) i).1.toNat : Int))) ∧
    OKA P (breakStep a (b - a) (1 <<< bitsLen (b - a)) (u, d) i).2 ∧ (breakStep a (b - a) (1 <<< bitsLen (b - a)) (u, d) i).2.size = d.size := by
  have hz := hd.sz
  obtain ⟨_, _, l3⟩ := len_p (show b - a ≤ 1000 by omega)
  have l4 := l3 (by omega)
  have l5 : 0 < 1 <<< bitsLen (b - a) := by rw [Nat.shiftLeft_eq, Nat.one_mul]; exact Nat.pow_pos (by omega)
  generalize hm : 1 <<< bitsLen (b - a) = m at *
  have e1 : w64 ((b : Int) - (a : Int)) = ((b - a : Nat) : Int) := w_nat (by omega) (by omega)
  have e2 : w64 (Int.tdiv ((b - a : Nat) : Int) 4) = (((b - a) / 4 : Nat) : Int) := by
    rw [Int.tdiv_eq_ediv_of_nonneg (by omega)]
    exact w_nat (by omega) (by omega)
  have e3 : w64 ((((b - a) / 4 : Nat) : Int) * 2) = (((b - a) / 4 * 2 : Nat) : Int) := w_nat (by omega) (by omega)
  have e4 : w64 ((a : Int) + (((b - a) / 4 * 2 : Nat) : Int)) = ((a + (b - a) / 4 * 2 : Nat) : Int) := w_nat (by omega) (by omega)
  have e5 : w64 (((a + (b - a) / 4 * 2 : Nat) : Int) + 1) = ((a + (b - a) / 4 * 2 + 1 : Nat) : Int) := w_nat (by omega) (by omega)
  have e6 : IntKind.u64.wrap ((m : Int) - 1) = ((m - 1 : Nat) : Int) := by
    rw [show (m : Int) - 1 = ((m - 1 : Nat) : Int) by omega]; exact wrap_u64_nat (by omega)
  have hand : (xorNext u).toNat &&& (m - 1) ≤ m - 1 := Nat.and_le_right
  have e7 : w64 (((xorNext u).toNat &&& (m - 1) : Nat) : Int) = (((xorNext u).toNat &&& (m - 1) : Nat) : Int) := w_nat rfl (by omega)
  have ii : i < d.size := by omega
  rw [bp_eq]
  unfold breakStep
  simp only [e1, e2, e3, e4, e5, n_le, decide_eq_true hi, cond_true, xs_u, e6, and_nat _ (m - 1) (by omega), e7]
  generalize (xorNext u).toNat &&& (m - 1) = o at *
  show (bif decide (b - a ≤ o) then _ else _) = _ ∧ _
  by_cases ho : b - a ≤ o
  · have e8 : w64 ((o : Int) - ((b - a : Nat) : Int)) = ((o - (b - a) : Nat) : Int) := w_nat (by omega) (by omega)
    have e9 : w64 ((a : Int) + ((o - (b - a) : Nat) : Int)) = ((a + (o - (b - a)) : Nat) : Int) := w_nat (by omega) (by omega)
    rw [decide_eq_true ho, if_pos ho]
    simp only [cond_true, e8, e9]
    exact ⟨bp_round d hd i _ u ii (by omega), hd.swp ii (by omega), swp_size _ _ _⟩
  · have e9 : w64 ((a : Int) + (o : Int)) = ((a + o : Nat) : Int) := w_nat (by omega) (by omega)
    rw [decide_eq_false ho, if_neg ho]
    simp only [cond_false, e9]
    exact ⟨bp_round d hd i _ u ii (by omega), hd.swp ii (by omega), swp_size _ _ _⟩
theorem bp_p {P : Int → Prop} (cmp : Int → Int → Option Int) (a b : Nat) (d : Array Int) (hab : a ≤ b) (hb : b ≤ d.size) (hd : OKA P d) : g_slices_breakPatternsCmpFunc_int (a : Int) (b : Int) cmp d.toList = some (breakPatterns d a b).toList ∧ OKA P (breakPatterns d a b) ∧ (breakPatterns d a b).size = d.size := by
  have hz := hd.sz
  have e1 : w64 ((b : Int) - (a : Int)) = ((b - a : Nat) : Int) := w_nat (by omega) (by omega)
  unfold g_slices_breakPatternsCmpFunc_int breakPatterns
  simp only [e1]
  by_cases h8 : 8 ≤ b - a
  · obtain ⟨_, l2, _⟩ := len_p (show b - a ≤ 1000 by omega)
    have e2 : w64 (Int.tdiv ((b - a : Nat) : Int) 4) = (((b - a) / 4 : Nat) : Int) := by
      rw [Int.tdiv_eq_ediv_of_nonneg (by omega)]
      exact w_nat (by omega) (by omega)
    have e3 : w64 ((((b - a) / 4 : Nat) : Int) * 2) = (((b - a) / 4 * 2 : Nat) : Int) := w_nat (by omega) (by omega)
    have e4 : w64 ((a : Int) + (((b - a) / 4 * 2 : Nat) : Int)) = ((a + (b - a) / 4 * 2 : Nat) : Int) := w_nat (by omega) (by omega)
    have e5 : w64 (((a + (b - a) / 4 * 2 : Nat) : Int) - 1) = ((a + (b - a) / 4 * 2 - 1 : Nat) : Int) := w_nat (by omega) (by omega)
    have e6 : IntKind.u64.wrap ((b - a : Nat) : Int) = ((UInt64.ofNat (b - a)).toNat : Int) := by
      rw [wrap_u64_nat (by omega), UInt64.toNat_ofNat_of_lt' (by show b - a < 2 ^ 64; omega)]
    rw [decide_eq_true (show (8 : Int) ≤ ((b - a : Nat) : Int) by omega), if_pos h8]
    simp only [cond_true, l2, Option.bind_some, e2, e3, e4, e5, e6]
    generalize hi0 : a + (b - a) / 4 * 2 - 1 = i0
    obtain ⟨p1, p2, p3⟩ := bp_step a b d hd h8 hb i0 (by omega) (UInt64.ofNat (b - a))
    generalize breakStep a (b - a) (1 <<< bitsLen (b - a)) (UInt64.ofNat (b - a), d) i0 = r1 at *
    obtain ⟨q1, q2, q3⟩ := bp_step a b r1.2 p2 h8 (by omega) (i0 + 1) (by omega) r1.1
    generalize breakStep a (b - a) (1 <<< bitsLen (b - a)) (r1.1, r1.2) (i0 + 1) = r2 at *
    obtain ⟨s1, s2, s3⟩ := bp_step a b r2.2 q2 h8 (by omega) (i0 + 2) (by omega) r2.1
    generalize breakStep a (b - a) (1 <<< bitsLen (b - a)) (r2.1, r2.2) (i0 + 2) = r3 at *
    rw [lp_again p1, lp_again q1, lp_again s1, lp_done (r := r3.2.toList)]
    · exact ⟨rfl, s2, by omega⟩
    · rw [bp_eq]
      have e7 : w64 (((a + (b - a) / 4 * 2 : Nat) : Int) + 1) = ((a + (b - a) / 4 * 2 + 1 : Nat) : Int) := w_nat (by omega) (by omega)
      simp only [e1, e2, e3, e4, e7, n_le, decide_eq_false (show ¬ i0 + 2 + 1 ≤ a + (b - a) / 4 * 2 + 1 by omega), cond_false]
  · rw [decide_eq_false (show ¬ (8 : Int) ≤ ((b - a : Nat) : Int) by omega), if_neg h8]
    exact ⟨rfl, hd, rfl⟩
end Go.Proofs.YtakebhleglnpjaaDoor
