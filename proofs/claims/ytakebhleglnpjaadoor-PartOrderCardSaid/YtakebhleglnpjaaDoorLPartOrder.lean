/- PartOrder: what the law comes to. -/
import Derived.Test.YtakebhleglnpjaaDoorQPlaced
import Derived.Test.YtakebhleglnpjaaDoorWPartOrder
import Derived.Test.YtakebhleglnpjaaDoorJ3
namespace Go.Proofs.YtakebhleglnpjaaDoor
open Go Go.Proofs.YtakebhleglnpjaaDoorE
set_option linter.unusedVariables false
set_option linter.unusedSimpArgs false


theorem law_PartOrder (l : List ShapeT) : g_law16_PartOrder l = some true := by
  unfold g_law16_PartOrder
  simp only [g_law16_awake, Option.bind_some, cond_true]
  by_cases h20 : (20 : Int) < (l.length : Int)
  · rw [decide_eq_true h20]; rfl
  rw [decide_eq_false h20]
  have hl : l.length ≤ 1000 := by omega
  obtain ⟨r, o1, o2⟩ := order_p l hl
  have hr : r.length < 9223372036854775808 := by rw [o2.len]; omega
  have good : ∀ (i : Nat) (x : Int), r[i]? = some x → InL l x ∧ ((r.take i).any fun y => x == y) = false ∧ (∀ j y, i = j + 1 → r[j]? = some y → InL l y ∧ ahead l y x) := by
    intro i x hx
    have hi := (List.getElem?_eq_some_iff.1 hx).1
    have hx' := (List.getElem?_eq_some_iff.1 hx).2
    refine ⟨(o2.mem x).1 (List.mem_of_getElem? hx), ?_, fun j y hij hy => ?_⟩
    · rw [List.any_eq_false]
      intro y hy he
      have he := eq_of_beq he
      subst he
      obtain ⟨k, hk1, hk2⟩ := List.mem_iff_getElem.1 hy
      rw [List.length_take] at hk1
      rw [List.getElem_take] at hk2
      have := (List.pairwise_iff_getElem.1 o2.rise) k i (by omega) hi (by omega)
      rw [hk2, hx'] at this
      unfold ahead at this
      omega
    · have hj := (List.getElem?_eq_some_iff.1 hy).1
      have hy' := (List.getElem?_eq_some_iff.1 hy).2
      refine ⟨(o2.mem y).1 (List.mem_of_getElem? hy), ?_⟩
      have := (List.pairwise_iff_getElem.1 o2.rise) j i hj hi (by omega)
      rwa [hx', hy'] at this
  have key : lp (g_law16_PartOrder_L0 l r) 0 = some (.inr ()) := by
    have k := lp_stop r (g_law16_PartOrder_L0 l r) (fun _ _ => false) (fun _ _ => .inl ()) (.inr ()) (fun i x hi hx => by
        obtain ⟨g1, g2, g3⟩ := good i x hx
        obtain ⟨s, s1, s2, s3⟩ := getS g1
        have b1 := g1.1
        have b2 := g1.2
        simp only [g_law16_PartOrder_L0, lt_t hi, at_some hx, Option.bind_some, w64_succ hi hr, cond_true, decide_eq_false (show ¬ x < 0 by omega), decide_eq_false (show ¬ (l.length : Int) ≤ x by omega), cond_false, decide_eq_true (show (0 : Int) ≤ (i : Int) by omega), Int.toNat_natCast, Nat.ble_eq_true_of_le (Nat.le_of_lt hi), ref_has _ _ (show (r.take i).length < 9223372036854775808 by rw [List.length_take]; omega), g2]
        cases i with
        | zero => rfl
        | succ j =>
          have hy : r[j]? = some r[j] := List.getElem?_eq_getElem (by omega)
          obtain ⟨g4, g5⟩ := g3 j r[j] rfl hy
          obtain ⟨t, t1, t2, t3⟩ := getS g4
          rw [decide_eq_true (show (0 : Int) < ((j + 1 : Nat) : Int) by omega), w64_id (by omega) (by omega), show (((j + 1 : Nat) : Int) - 1) = (j : Int) by omega, at_some hy]
          simp only [cond_true, Option.bind_some, t1, s1]
          unfold ahead at g5
          rw [s3, t3] at g5
          rw [decide_eq_false (show ¬ t.total < s.total by omega)]
          by_cases he : t.total = s.total
          · rw [show (t.total == s.total) = true by simpa using he, decide_eq_false (show ¬ x < r[j] by omega)]
            rfl
          · rw [show (t.total == s.total) = false by simpa using he]
            rfl) (by simp only [g_law16_PartOrder_L0, lt_f]; rfl)
    rw [k, stop_const]
    have : anyI (fun (_ : Nat) (_ : Int) => false) 0 r = false := by rw [anyI_any]; simp
    rw [this]
    rfl
  simp only [cond_false, own_s l hl, Option.bind_some, o1, key, o2.len, beq_self_eq_true, cond_true]

theorem ev_PartOrder (xs : List D) (h : okLfs par43.1 xs) : ∃ H', evW ctx 12 (mapd [parD par43.2 xs]) [] = some (.d (.bool true), H') := by
  obtain ⟨x, r, rfl, h1, rfl⟩ := h
  obtain ⟨l, rfl⟩ := shape_of h1
  show ∃ H', evW ctx 12 [.d (.list true (l.map shapeD))] [] = _
  exact evD_true (g_law16_PartOrder_ok true l true (law_PartOrder l))
end Go.Proofs.YtakebhleglnpjaaDoor
