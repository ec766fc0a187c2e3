/- Chapter 16: in which order shapes are placed, plainly. -/
import Derived.Test.YtakebhleglnpjaaDoorQSortF
namespace Go.Proofs.YtakebhleglnpjaaDoor
open Go Go.Proofs.YtakebhleglnpjaaDoorE Go.Sort
set_option linter.unusedVariables false
set_option linter.unusedSimpArgs false

def totAt (l : List ShapeT) (z : Int) : Int := match l[z.toNat]? with | some s => s.total | none => 0
/-- who is placed ahead -/
def ahead (l : List ShapeT) (x y : Int) : Prop := totAt l y < totAt l x ∨ (totAt l x = totAt l y ∧ x < y)
def ordC (l : List ShapeT) (x y : Int) : Int := if totAt l y < totAt l x then -1 else if totAt l x < totAt l y then 1 else x - y
theorem ord_lt (l : List ShapeT) (x y : Int) : ltC (ordC l) x y = true ↔ ahead l x y := by
  unfold ltC ordC ahead
  rw [decide_eq_true_eq]
  split
  · omega
  · split <;> omega
theorem ord_nlt (l : List ShapeT) (x y : Int) : ltC (ordC l) x y = false ↔ ¬ ahead l x y := by rw [← ord_lt]; simp
theorem ord_swo (l : List ShapeT) : SWO (ltC (ordC l)) := by
  refine ⟨fun x => ?_, fun x y z h1 h2 => ?_, fun x y z h1 h2 => ?_⟩
  · rw [ord_nlt]; unfold ahead; omega
  · rw [ord_lt] at *; unfold ahead at *; omega
  · rw [ord_nlt] at *; unfold ahead at *; omega
def InL (l : List ShapeT) (z : Int) : Prop := 0 ≤ z ∧ z.toNat < l.length
theorem getS {l : List ShapeT} {z : Int} (h : InL l z) : ∃ s, getI l z = some s ∧ l[z.toNat]? = some s ∧ totAt l z = s.total := by
  refine ⟨l[z.toNat]'h.2, ?_, List.getElem?_eq_getElem h.2, ?_⟩
  · have := at_some (List.getElem?_eq_getElem h.2)
    rwa [Int.toNat_of_nonneg h.1] at this
  · unfold totAt; rw [List.getElem?_eq_getElem h.2]
theorem ord_cmp (l : List ShapeT) (hl : l.length ≤ 1000) : CmpOK (fun z0 z1 => g_part_Order_1 z0 z1 l) (ordC l) (InL l) := by
  intro x y hx hy
  obtain ⟨s, s1, _, s2⟩ := getS hx
  obtain ⟨t, t1, _, t2⟩ := getS hy
  have hx2 := hx.2
  have hy2 := hy.2
  have hx1 := hx.1
  have hy1 := hy.1
  show g_part_Order_1 x y l = some (ordC l x y)
  unfold g_part_Order_1 ordC
  rw [s1, t1, s2, t2]
  simp only [Option.bind_some]
  by_cases h1 : t.total < s.total
  · rw [decide_eq_true h1, if_pos h1]; rfl
  · rw [decide_eq_false h1, if_neg h1]
    by_cases h2 : s.total < t.total
    · rw [decide_eq_true h2, if_pos h2]; rfl
    · rw [decide_eq_false h2, if_neg h2, w64_id (by omega) (by omega)]; rfl

def idxs : Nat → Nat → List Int
  | _, 0 => []
  | i, k + 1 => (i : Int) :: idxs (i + 1) k
theorem idxs_mem (z : Int) : ∀ (k i : Nat), z ∈ idxs i k ↔ (i : Int) ≤ z ∧ z < (i : Int) + k
  | 0, i => by simp only [idxs, List.not_mem_nil, false_iff]; omega
  | k + 1, i => by
    simp only [idxs, List.mem_cons, idxs_mem z k (i + 1)]
    omega
theorem idxs_rise : ∀ (k i : Nat), (idxs i k).Pairwise (fun x y => x < y)
  | 0, i => List.Pairwise.nil
  | k + 1, i => by
    unfold idxs
    rw [List.pairwise_cons]
    refine ⟨fun z hz => ?_, idxs_rise k (i + 1)⟩
    have := (idxs_mem z k (i + 1)).1 hz
    omega
theorem idxs_len : ∀ (k i : Nat), (idxs i k).length = k
  | 0, _ => rfl
  | k + 1, i => by unfold idxs; rw [List.length_cons, idxs_len k]

structure IsOrder (l : List ShapeT) (r : List Int) : Prop where
  perm : r.Perm (idxs 0 l.length)
  rise : r.Pairwise (ahead l)
theorem IsOrder.mem {l : List ShapeT} {r : List Int} (h : IsOrder l r) (z : Int) : z ∈ r ↔ InL l z := by
  rw [h.perm.mem_iff, idxs_mem]
  unfold InL
  omega
theorem IsOrder.len {l : List ShapeT} {r : List Int} (h : IsOrder l r) : r.length = l.length := by rw [h.perm.length_eq, idxs_len]
theorem IsOrder.nodup {l : List ShapeT} {r : List Int} (h : IsOrder l r) : r.Nodup := h.rise.imp fun {x y} hp he => by
  subst he
  unfold ahead at hp
  omega

theorem order_p (l : List ShapeT) (hl : l.length ≤ 1000) : ∃ r, g_part_Order l = some r ∧ IsOrder l r := by
  have loop : ∀ (k i : Nat) (s : List Int), i + k = l.length → s.length ≤ i → lp (g_part_Order_L0 l) ((i : Int), s) = some (s ++ idxs i k) := by
    intro k
    induction k with
    | zero =>
      intro i s hi hs
      have : i = l.length := by omega
      subst this
      rw [lp_eq]
      simp only [g_part_Order_L0, lt_f, cond_false, idxs, List.append_nil]
    | succ k ih =>
      intro i s hi hs
      have hi' : i < l.length := by omega
      rw [lp_eq]
      simp only [g_part_Order_L0, lt_t hi', cond_true, lim_t (show s.length + 1 ≤ 1073741824 by omega), w64_succ hi' (show l.length < 9223372036854775808 by omega)]
      rw [ih (i + 1) (s ++ [(i : Int)]) (by omega) (by rw [List.length_append, List.length_singleton]; omega)]
      simp [idxs]
  have k0 : lp (g_part_Order_L0 l) (0, []) = some (idxs 0 l.length) := loop l.length 0 [] (by omega) (by simp)
  obtain ⟨r, h1, h2, h3⟩ := sort_p (ord_cmp l hl) (ord_swo l) (idxs 0 l.length) (by rw [idxs_len]; exact hl) (fun x hx => by
    have := (idxs_mem x l.length 0).1 hx
    unfold InL
    omega)
  refine ⟨r, ?_, h2, ?_⟩
  · unfold g_part_Order
    rw [k0, Option.bind_some, h1]
    rfl
  · have nd : r.Pairwise (fun x y => x ≠ y) := (h2.pairwise_iff (fun h => Ne.symm h)).2 ((idxs_rise l.length 0).imp fun h => by omega)
    refine (h3.and nd).imp fun {x y} hp => ?_
    have h4 := (ord_nlt l y x).1 hp.1
    have h5 := hp.2
    unfold ahead at *
    omega

theorem ref_has (l : List Int) (n : Int) (hl : l.length < 9223372036854775808) : g_ref04_Has l n = some (l.any fun x => n == x) := by
  have key := lp_stop l (g_ref04_Has_L0 l n) (fun _ x => n == x) (fun _ _ => .inl ()) (.inr ()) (fun i x hi hx => by
      have e : (x == n) = (n == x) := Bool.beq_comm
      simp only [g_ref04_Has_L0, lt_t hi, at_some hx, Option.bind_some, w64_succ hi hl, cond_true, e]
      cases (n == x) <;> rfl) (by simp only [g_ref04_Has_L0, lt_f]; rfl)
  unfold g_ref04_Has
  rw [key, stop_const, anyI_any]
  cases (l.any fun x => n == x) <;> rfl
theorem own_s (l : List ShapeT) (hl : l.length ≤ 1000) : g_law15_Own l = some () := by
  unfold g_law15_Own
  rw [lim_t (show List.length l ≤ 1073741824 by omega)]
  rfl
end Go.Proofs.YtakebhleglnpjaaDoor
