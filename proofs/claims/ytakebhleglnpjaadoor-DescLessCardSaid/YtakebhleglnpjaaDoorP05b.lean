/- Chapter 5: may a task be: the program's answer, plainly. -/
import Derived.Test.YtakebhleglnpjaaDoorP05a
import Derived.KernelRfl
namespace Go.Proofs.YtakebhleglnpjaaDoor
open Go Go.Proofs.YtakebhleglnpjaaDoorE
set_option linter.unusedVariables false
set_option linter.unusedSimpArgs false

/-- no list too long for words -/
def Short (b : BarrierT) : Prop := b.ins.length < 9223372036854775808 ∧ b.outs.length < 9223372036854775808
structure ShortD (d : DescT) : Prop where
  p : d.parts.length < 9223372036854775808
  e : d.edges.length < 9223372036854775808
  f : d.futures.length < 9223372036854775808
  b : d.barriers.length < 9223372036854775808
  i : ∀ b ∈ d.barriers, Short b

theorem take_short {γ : Type} {l : List γ} {i n : Nat} (h : l.length < n) : (l.take i).length < n := by rw [List.length_take]; omega

/-- what is wrong with an edge -/
def badEdge (d : DescT) (i : Nat) (e : EdgeT) : Bool := !(two d.parts.length e.src e.dst) || (d.edges.take i).any (sameE e)
theorem edges_p (d : DescT) (h : ShortD d) : lp (g_desc_Check_L0 d) 0 = some (bif anyI (badEdge d) 0 d.edges then .inl () else .inr ()) := by
  have key := lp_stop d.edges (g_desc_Check_L0 d) (badEdge d) (fun _ _ => .inl ()) (.inr ()) (fun i x hi hx => by
      simp only [g_desc_Check_L0, lt_t hi, at_some hx, Option.bind_some, w64_succ hi h.e, cond_true, two_p d h.p, badEdge, Int.toNat_natCast, hasEdge_p _ _ (take_short h.e)]
      rw [decide_eq_true (show (0 : Int) ≤ (i : Int) by omega), Nat.ble_eq_true_of_le (Nat.le_of_lt hi)]
      cases two d.parts.length x.src x.dst <;> cases (d.edges.take i).any (sameE x) <;> rfl) (by simp only [g_desc_Check_L0, lt_f]; rfl)
  rw [key, stop_const]

def workAt (ps : List PartT) (z : Int) : Int := match ps[z.toNat]? with | some p => p.work | none => 0
/-- what is wrong with a future -/
def badFuture (d : DescT) (i : Nat) (f : FutureT) : Bool := !(two d.parts.length f.maker f.user) || (!(within f.pos 1 (workAt d.parts f.user - 1)) || (d.futures.take i).any (again f))
theorem two_in {n : Nat} {a b : Int} (h : two n a b = true) : (0 ≤ a ∧ a.toNat < n) ∧ (0 ≤ b ∧ b.toNat < n) ∧ a ≠ b := by
  simp only [two, within, Bool.and_eq_true, decide_eq_true_eq, bne_iff_ne] at h
  omega
theorem getI_in {γ : Type} {l : List γ} {z : Int} (h0 : 0 ≤ z) (h : z.toNat < l.length) : getI l z = some l[z.toNat] := at_int h0 (List.getElem?_eq_getElem h)
theorem futures_p (d : DescT) (h : ShortD d) (hg : ∀ p ∈ d.parts, 1 ≤ p.work ∧ p.work ≤ 100) : lp (g_desc_Check_L1 d) 0 = some (bif anyI (badFuture d) 0 d.futures then .inl () else .inr ()) := by
  have key := lp_stop d.futures (g_desc_Check_L1 d) (badFuture d) (fun _ _ => .inl ()) (.inr ()) (fun i x hi hx => by
      simp only [g_desc_Check_L1, lt_t hi, at_some hx, Option.bind_some, w64_succ hi h.f, cond_true, two_p d h.p, badFuture]
      cases h1 : two d.parts.length x.maker x.user with
      | false => rfl
      | true =>
        obtain ⟨_, ⟨u1, u2⟩, _⟩ := two_in h1
        have w := hg _ (List.getElem_mem u2)
        have wa : workAt d.parts x.user = d.parts[x.user.toNat].work := by simp only [workAt, List.getElem?_eq_getElem u2]
        rw [← wa] at w
        rw [getI_in u1 u2]
        simp only [cond_true, Option.bind_some, within_p, ← wa, w64_id (show -9223372036854775808 ≤ workAt d.parts x.user - 1 by omega) (by omega), Int.toNat_natCast]
        rw [decide_eq_true (show (0 : Int) ≤ (i : Int) by omega), Nat.ble_eq_true_of_le (Nat.le_of_lt hi), containsFuture_p _ _ (again x) (fun y _ => again_p x y) (take_short h.f)]
        cases within x.pos 1 (workAt d.parts x.user - 1) <;> cases (d.futures.take i).any (again x) <;> rfl) (by simp only [g_desc_Check_L1, lt_f]; rfl)
  rw [key, stop_const]

def badBarrier (n : Nat) (b : BarrierT) : Bool := !(rowOK n b.ins) || (!(rowOK n b.outs) || b.ins.any (isOut b))
theorem barriers_p (d : DescT) (h : ShortD d) : lp (g_desc_Check_L2 d) 0 = some (bif d.barriers.any (badBarrier d.parts.length) then .inl () else .inr ()) := by
  have key := lp_stop d.barriers (g_desc_Check_L2 d) (fun _ => badBarrier d.parts.length) (fun _ _ => .inl ()) (.inr ()) (fun i x hi hx => by
      have hb := h.i x (List.mem_of_getElem? hx)
      simp only [g_desc_Check_L2, lt_t hi, at_some hx, Option.bind_some, w64_succ hi h.b, cond_true, row_p d h.p _ hb.1, row_p d h.p _ hb.2, badBarrier, containsInt_p x.ins _ (isOut x) (fun y _ => out_p x hb.2 y) hb.1]
      cases rowOK d.parts.length x.ins <;> cases rowOK d.parts.length x.outs <;> cases x.ins.any (isOut x) <;> rfl) (by simp only [g_desc_Check_L2, lt_f]; rfl)
  rw [key, stop_const, anyI_any]

/-! powers of two -/
def numErr (n : Int) : Int := bif decide (n < 0) then 10 else bif decide (1099511627775 < n) then 11 else 0
theorem numCheck_p (n : Int) : g_num_Check n = some (numErr n) := by
  unfold g_num_Check numErr
  cases decide (n < 0) <;> cases decide (1099511627775 < n) <;> rfl
noncomputable def ones (x : Int) : Int := match g_math_bits_OnesCount64 x with | some n => n | none => 0
theorem ones_p (x : Int) : g_math_bits_OnesCount x = some (ones x) := by
  unfold g_math_bits_OnesCount ones g_math_bits_OnesCount64
  rfl
def pow2 (n : Nat) : Bool := [1, 2, 4, 8, 16, 32, 64, 128, 256, 512, 1024, 2048, 4096].contains n
theorem ones_table : ((List.range 4097).all fun n => (ones (IntKind.u64.wrap (n : Int)) == 1) == pow2 n) = true := by kernel_rfl
theorem ones_small (n : Nat) (h : n ≤ 4096) : (ones (IntKind.u64.wrap (n : Int)) == 1) = pow2 n := by
  have := List.all_eq_true.1 ones_table n (by simp; omega)
  simpa using this
noncomputable def twoB (n : Int) : Bool := !(numErr n != 0) && !(ones (IntKind.u64.wrap n) != 1)
theorem numTwo_p (n : Int) : ∃ k, g_num_Two n = some (k, twoB n) := by
  have tz : ∃ k, g_math_bits_TrailingZeros (IntKind.u64.wrap n) = some k := ⟨_, rfl⟩
  obtain ⟨k, hk⟩ := tz
  unfold g_num_Two twoB
  simp only [numCheck_p, ones_p, Option.bind_some, hk]
  cases (numErr n != 0)
  · cases (ones (IntKind.u64.wrap n) != 1)
    · exact ⟨k, rfl⟩
    · exact ⟨0, rfl⟩
  · exact ⟨0, rfl⟩
theorem twoB_neg {n : Int} (h : n < 0) : twoB n = false := by
  have : (numErr n != 0) = true := by unfold numErr; rw [decide_eq_true h]; rfl
  simp only [twoB, this]; rfl
theorem twoB_small (n : Nat) (h : n ≤ 4096) : twoB (n : Int) = pow2 n := by
  have h1 : (numErr (n : Int) != 0) = false := by
    unfold numErr
    rw [decide_eq_false (show ¬ ((n : Int) < 0) by omega), decide_eq_false (show ¬ ((1099511627775 : Int) < n) by omega)]
    rfl
  rw [← ones_small n h]
  unfold twoB
  rw [h1]
  unfold bne
  rw [Bool.not_not]
  rfl

noncomputable def timeOK (d : DescT) : Bool := twoB d.period && (!decide (4096 < d.period) && within d.deadline 1 d.period)
def manyOK (d : DescT) : Bool := within (d.parts.length : Int) 1 16 && (!decide ((48 : Int) < d.edges.length) && (!decide ((16 : Int) < d.futures.length) && !decide ((4 : Int) < d.barriers.length)))
noncomputable def checkD (d : DescT) : Int :=
  bif manyOK d then bif timeOK d then bif d.parts.any badPart then 52 else bif anyI (badEdge d) 0 d.edges then 53 else
  bif anyI (badFuture d) 0 d.futures then 54 else bif d.barriers.any (badBarrier d.parts.length) then 55 else 0 else 51 else 50
theorem parts_good {ps : List PartT} (h : ps.any badPart = false) : ∀ p ∈ ps, 1 ≤ p.work ∧ p.work ≤ 100 := fun p hp => by
  have := List.any_eq_false.1 h p hp
  simp only [badPart, within, Bool.not_eq_true, Bool.not_eq_false', Bool.and_eq_true, decide_eq_true_eq] at this
  exact this.2.2
theorem check_p (d : DescT) (h : ShortD d) : g_desc_Check d = some (checkD d) := by
  obtain ⟨k, hk⟩ := numTwo_p d.period
  unfold g_desc_Check checkD manyOK timeOK
  simp only [within_p, Option.bind_some, hk, containsPart_p _ _ badPart (fun x _ => part_p x) h.p, edges_p d h, barriers_p d h]
  cases within (d.parts.length : Int) 1 16 with
  | false => rfl
  | true =>
    cases decide ((48 : Int) < d.edges.length) with
    | true => rfl
    | false =>
      cases decide ((16 : Int) < d.futures.length) with
      | true => rfl
      | false =>
        cases decide ((4 : Int) < d.barriers.length) with
        | true => rfl
        | false =>
          cases twoB d.period with
          | false => rfl
          | true =>
            cases decide (4096 < d.period) with
            | true => rfl
            | false =>
              cases within d.deadline 1 d.period with
              | false => rfl
              | true =>
                cases hp : d.parts.any badPart with
                | true => rfl
                | false =>
                  rw [futures_p d h (parts_good hp)]
                  cases anyI (badEdge d) 0 d.edges <;> cases anyI (badFuture d) 0 d.futures <;> cases d.barriers.any (badBarrier d.parts.length) <;> rfl
end Go.Proofs.YtakebhleglnpjaaDoor
