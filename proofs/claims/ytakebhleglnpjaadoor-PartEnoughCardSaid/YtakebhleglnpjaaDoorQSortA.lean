/- Sorting, plainly: what the library's functions come to is what the kit's plain functions come to. -/
import Derived.Test.YtakebhleglnpjaaDoorQ1
import Derived.Test.YtakebhleglnpjaaDoorE36
import Derived.Sort.AssemblyPlain
namespace Go.Proofs.YtakebhleglnpjaaDoor
open Go Go.Proofs.YtakebhleglnpjaaDoorE Go.Sort
set_option linter.unusedVariables false
set_option linter.unusedSimpArgs false

/-- an array whose elements may be compared -/
structure OKA (P : Int → Prop) (d : Array Int) : Prop where
  el : ∀ i, i < d.size → P d[i]!
  sz : d.size ≤ 1000

theorem getA {d : Array Int} {i : Nat} (h : i < d.size) : getI d.toList (i : Int) = some d[i]! := by
  refine at_some ?_
  rw [Array.getElem?_toList, Array.getElem?_eq_getElem h, getElem!_pos d i h]
theorem setA (d : Array Int) (i : Nat) (x : Int) : List.set d.toList i x = (d.setIfInBounds i x).toList := by simp
theorem swapA (d : Array Int) (i j : Nat) : List.set (List.set d.toList i d[j]!) j d[i]! = (swp d i j).toList := by
  unfold swp
  rw [setA, setA]
/-- what is read in between -/
theorem midA {d : Array Int} {i j : Nat} {x : Int} (h : j < d.size) : ∃ y, getI (List.set d.toList i x) (j : Int) = some y := by
  rw [setA]
  exact ⟨_, getA (by simpa using h)⟩
theorem swp_size (d : Array Int) (i j : Nat) : (swp d i j).size = d.size := by unfold swp; simp
theorem swp_get {d : Array Int} {i j k : Nat} (hi : i < d.size) (hj : j < d.size) : (swp d i j)[k]! = if k = j then d[i]! else if k = i then d[j]! else d[k]! := by
  unfold swp
  by_cases hk : k < d.size
  · rw [getElem!_pos _ k (by simpa using hk), getElem!_pos d k hk, Array.getElem_setIfInBounds (by simpa using hk)]
    by_cases h1 : j = k
    · rw [if_pos h1, if_pos h1.symm]
    · rw [if_neg h1, if_neg (Ne.symm h1), Array.getElem_setIfInBounds hk]
      by_cases h2 : i = k
      · rw [if_pos h2, if_pos h2.symm]
      · rw [if_neg h2, if_neg (Ne.symm h2)]
  · rw [getElem!_neg _ k (by simpa using hk), getElem!_neg d k hk, if_neg (by omega), if_neg (by omega)]
theorem OKA.swp {P : Int → Prop} {d : Array Int} (h : OKA P d) {i j : Nat} (hi : i < d.size) (hj : j < d.size) : OKA P (swp d i j) :=
  ⟨fun k hk => by
    rw [swp_size] at hk
    rw [swp_get hi hj]
    split
    · exact h.el _ hi
    · split
      · exact h.el _ hj
      · exact h.el _ hk, by rw [swp_size]; exact h.sz⟩

theorem n_lt {a b : Nat} : decide ((a : Int) < (b : Int)) = decide (a < b) := decide_eq_decide.2 (by omega)
theorem n_le {a b : Nat} : decide ((a : Int) ≤ (b : Int)) = decide (a ≤ b) := decide_eq_decide.2 (by omega)
theorem w_nat {z : Int} {n : Nat} (h : z = (n : Int)) (hn : n < 9223372036854775808) : w64 z = (n : Int) := by rw [h, w64_id (by omega) (by omega)]

section
variable (cmp : Int → Int → Option Int) (c : Int → Int → Int) (P : Int → Prop)
/-- what is compared, and how -/
def CmpOK : Prop := ∀ x y, P x → P y → cmp x y = some (c x y)
def ltC (x y : Int) : Bool := decide (c x y < 0)
variable {cmp c P} (hc : CmpOK cmp c P)
include hc

theorem ins_inner (a : Nat) : ∀ (j : Nat) (d : Array Int), OKA P d → j < d.size → lp (g_slices_insertionSortCmpFunc_int_L0 (a : Int) cmp) ((j : Int), d.toList) = some (insInner (ltC c) a j d).toList ∧ OKA P (insInner (ltC c) a j d) ∧ (insInner (ltC c) a j d).size = d.size
  | 0, d, hd, hj => by
    rw [lp_eq]
    simp only [g_slices_insertionSortCmpFunc_int_L0, decide_eq_false (show ¬ ((a : Int) < ((0 : Nat) : Int)) by omega), cond_false]
    exact ⟨rfl, hd, rfl⟩
  | j + 1, d, hd, hj => by
    have hj' : j < d.size := by omega
    have hz := hd.sz
    rw [lp_eq]
    have e2 : w64 (((j + 1 : Nat) : Int) - 1) = (j : Int) := w_nat (by omega) (by omega)
    have e3 := hc _ _ (hd.el (j + 1) hj) (hd.el j hj')
    unfold insInner
    by_cases h1 : a < j + 1
    · by_cases h2 : c d[j + 1]! d[j]! < 0
      · have ih := ins_inner a j (swp d (j + 1) j) (hd.swp hj hj') (by rw [swp_size]; omega)
        obtain ⟨y, e5⟩ := midA (i := j + 1) (x := d[j]!) hj'
        simp only [g_slices_insertionSortCmpFunc_int_L0, n_lt, decide_eq_true h1, cond_true, getA hj, e2, getA hj', Option.bind_some, e3, decide_eq_true h2, Int.toNat_natCast, e5, swapA]
        rw [if_pos (by simp [h1, h2, ltC])]
        rw [swp_size] at ih
        exact ih
      · simp only [g_slices_insertionSortCmpFunc_int_L0, n_lt, decide_eq_true h1, cond_true, getA hj, e2, getA hj', Option.bind_some, e3, decide_eq_false h2, cond_false]
        rw [if_neg (by simp [h1, h2, ltC])]
        exact ⟨rfl, hd, rfl⟩
    · simp only [g_slices_insertionSortCmpFunc_int_L0, n_lt, decide_eq_false h1, cond_false]
      rw [if_neg (by simp [h1])]
      exact ⟨rfl, hd, rfl⟩

theorem ins_outer (a b : Nat) : ∀ (k i : Nat) (d : Array Int), i + k = max i b → b ≤ d.size → OKA P d → lp (g_slices_insertionSortCmpFunc_int_L1 (a : Int) (b : Int) cmp) ((i : Int), d.toList) = some (insOuter (ltC c) a b i d).toList ∧ OKA P (insOuter (ltC c) a b i d) ∧ (insOuter (ltC c) a b i d).size = d.size
  | 0, i, d, hi, hb, hd => by
    rw [lp_eq]
    unfold insOuter
    simp only [g_slices_insertionSortCmpFunc_int_L1, n_lt, decide_eq_false (show ¬ i < b by omega), cond_false]
    rw [if_neg (by omega)]
    exact ⟨rfl, hd, rfl⟩
  | k + 1, i, d, hi, hb, hd => by
    have hib : i < b := by omega
    have hz := hd.sz
    obtain ⟨h1, h2, h3⟩ := ins_inner hc a i d hd (by omega)
    have ih := ins_outer a b k (i + 1) (insInner (ltC c) a i d) (by omega) (by rw [h3]; exact hb) h2
    rw [lp_eq]
    unfold insOuter
    simp only [g_slices_insertionSortCmpFunc_int_L1, n_lt, decide_eq_true hib, cond_true, h1, Option.bind_some, w64_succ hib (by omega)]
    rw [if_pos hib, ← h3]
    exact ih

theorem ins_p (a b : Nat) (d : Array Int) (hb : b ≤ d.size) (ha : a ≤ b) (hd : OKA P d) : g_slices_insertionSortCmpFunc_int (a : Int) (b : Int) cmp d.toList = some (insertionSort (ltC c) d a b).toList ∧ OKA P (insertionSort (ltC c) d a b) ∧ (insertionSort (ltC c) d a b).size = d.size := by
  have hz := hd.sz
  obtain ⟨h1, h2⟩ := ins_outer hc a b (max (a + 1) b - (a + 1)) (a + 1) d (by omega) hb hd
  unfold g_slices_insertionSortCmpFunc_int insertionSort
  rw [w_nat (n := a + 1) (by omega) (by omega), h1]
  exact ⟨rfl, h2⟩

/-! heaps -/
theorem sift_lp (hi first : Nat) : ∀ (k root : Nat) (d : Array Int), hi - root ≤ k → root ≤ hi → first + hi ≤ d.size → OKA P d → ∃ r, lp (g_slices_siftDownCmpFunc_int_L0 (hi : Int) (first : Int) cmp) ((root : Int), d.toList) = some r ∧ (r = .inl (siftDown (ltC c) hi first root d).toList ∨ r = .inr (siftDown (ltC c) hi first root d).toList) ∧ OKA P (siftDown (ltC c) hi first root d) ∧ (siftDown (ltC c) hi first root d).size = d.size := by
  intro k
  induction k with
  | zero =>
    intro root d hk hr hs hd
    have hz := hd.sz
    rw [lp_eq]
    unfold siftDown
    have e0 : w64 (2 * (root : Int)) = ((2 * root : Nat) : Int) := w_nat (by omega) (by omega)
    have e1 : w64 (((2 * root : Nat) : Int) + 1) = ((2 * root + 1 : Nat) : Int) := w_nat (by omega) (by omega)
    simp only [g_slices_siftDownCmpFunc_int_L0, e0, e1, n_le, decide_eq_true (show hi ≤ 2 * root + 1 by omega), cond_true]
    rw [dif_pos (by omega)]
    exact ⟨_, rfl, .inl rfl, hd, rfl⟩
  | succ k ih =>
    intro root d hk hr hs hd
    have hz := hd.sz
    rw [lp_eq]
    unfold siftDown
    have e0 : w64 (2 * (root : Int)) = ((2 * root : Nat) : Int) := w_nat (by omega) (by omega)
    have e1 : w64 (((2 * root : Nat) : Int) + 1) = ((2 * root + 1 : Nat) : Int) := w_nat (by omega) (by omega)
    by_cases h1 : hi ≤ 2 * root + 1
    · simp only [g_slices_siftDownCmpFunc_int_L0, e0, e1, n_le, decide_eq_true h1, cond_true]
      rw [dif_pos (by omega)]
      exact ⟨_, rfl, .inl rfl, hd, rfl⟩
    have e2 : w64 (((2 * root + 1 : Nat) : Int) + 1) = ((2 * root + 2 : Nat) : Int) := w_nat (by omega) (by omega)
    have er : w64 ((first : Int) + (root : Int)) = ((first + root : Nat) : Int) := w_nat (by omega) (by omega)
    have ef : w64 ((first : Int) + ((2 * root + 1 : Nat) : Int)) = ((first + (2 * root + 1) : Nat) : Int) := w_nat (by omega) (by omega)
    have ef1 : w64 (((first + (2 * root + 1) : Nat) : Int) + 1) = ((first + (2 * root + 1) + 1 : Nat) : Int) := w_nat (by omega) (by omega)
    have ef2 : w64 ((first : Int) + ((2 * root + 2 : Nat) : Int)) = ((first + (2 * root + 2) : Nat) : Int) := w_nat (by omega) (by omega)
    have ir : first + root < d.size := by omega
    have i1 : first + (2 * root + 1) < d.size := by omega
    have cr1 := hc _ _ (hd.el _ ir) (hd.el _ i1)
    have one : ∀ {r : List Int ⊕ List Int} {A : Array Int}, A = d → (r = .inl d.toList ∨ r = .inr d.toList) → ∃ q, some r = some q ∧ (q = .inl A.toList ∨ q = .inr A.toList) ∧ OKA P A ∧ A.size = d.size := fun hA hr => by
      subst hA
      exact ⟨_, rfl, hr, hd, rfl⟩
    rw [dif_neg (by omega)]
    by_cases h2 : 2 * root + 2 < hi
    · have i2 : first + (2 * root + 2) < d.size := by omega
      have i2' : first + (2 * root + 1) + 1 < d.size := by omega
      have c12 := hc _ _ (hd.el _ i1) (hd.el _ i2')
      have cr2 := hc _ _ (hd.el _ ir) (hd.el _ i2)
      by_cases h3 : c d[first + (2 * root + 1)]! d[first + (2 * root + 1) + 1]! < 0
      · rw [if_pos (by simp [h3, ltC]; omega)]
        by_cases h4 : c d[first + root]! d[first + (2 * root + 2)]! < 0
        · obtain ⟨y, em⟩ := midA (i := first + root) (x := d[first + (2 * root + 2)]!) i2
          simp only [g_slices_siftDownCmpFunc_int_L0, e0, e1, e2, n_le, n_lt, decide_eq_false h1, decide_eq_true h2, cond_false, cond_true, ef, ef1, ef2, er, getA i1, getA i2', getA ir, getA i2, Option.bind_some, c12, cr2, decide_eq_true h3, decide_eq_true h4, Int.toNat_natCast, em, swapA]
          rw [if_neg (by simp [h4, ltC]), dif_pos h2]
          have := ih (2 * root + 2) (swp d (first + root) (first + (2 * root + 2))) (by omega) (by omega) (by rw [swp_size]; omega) (hd.swp ir i2)
          rw [swp_size] at this
          exact this
        · simp only [g_slices_siftDownCmpFunc_int_L0, e0, e1, e2, n_le, n_lt, decide_eq_false h1, decide_eq_true h2, cond_false, cond_true, ef, ef1, ef2, er, getA i1, getA i2', getA ir, getA i2, Option.bind_some, c12, cr2, decide_eq_true h3, decide_eq_false h4]
          rw [if_pos (by simp [h4, ltC])]
          exact one rfl (.inr rfl)
      · rw [if_neg (by simp [h3, ltC])]
        by_cases h4 : c d[first + root]! d[first + (2 * root + 1)]! < 0
        · obtain ⟨y, em⟩ := midA (i := first + root) (x := d[first + (2 * root + 1)]!) i1
          simp only [g_slices_siftDownCmpFunc_int_L0, e0, e1, e2, n_le, n_lt, decide_eq_false h1, decide_eq_true h2, cond_false, cond_true, ef, ef1, ef2, er, getA i1, getA i2', getA ir, Option.bind_some, c12, cr1, decide_eq_false h3, decide_eq_true h4, Int.toNat_natCast, em, swapA]
          rw [if_neg (by simp [h4, ltC])]
          have := ih (2 * root + 1) (swp d (first + root) (first + (2 * root + 1))) (by omega) (by omega) (by rw [swp_size]; omega) (hd.swp ir i1)
          rw [swp_size] at this
          exact this
        · simp only [g_slices_siftDownCmpFunc_int_L0, e0, e1, e2, n_le, n_lt, decide_eq_false h1, decide_eq_true h2, cond_false, cond_true, ef, ef1, ef2, er, getA i1, getA i2', getA ir, Option.bind_some, c12, cr1, decide_eq_false h3, decide_eq_false h4]
          rw [if_pos (by simp [h4, ltC])]
          exact one rfl (.inr rfl)
    · rw [if_neg (by simp; omega)]
      by_cases h4 : c d[first + root]! d[first + (2 * root + 1)]! < 0
      · obtain ⟨y, em⟩ := midA (i := first + root) (x := d[first + (2 * root + 1)]!) i1
        simp only [g_slices_siftDownCmpFunc_int_L0, e0, e1, e2, n_le, n_lt, decide_eq_false h1, decide_eq_false h2, cond_false, cond_true, ef, er, getA i1, getA ir, Option.bind_some, cr1, decide_eq_true h4, Int.toNat_natCast, em, swapA]
        rw [if_neg (by simp [h4, ltC])]
        have := ih (2 * root + 1) (swp d (first + root) (first + (2 * root + 1))) (by omega) (by omega) (by rw [swp_size]; omega) (hd.swp ir i1)
        rw [swp_size] at this
        exact this
      · simp only [g_slices_siftDownCmpFunc_int_L0, e0, e1, e2, n_le, n_lt, decide_eq_false h1, decide_eq_false h2, cond_false, cond_true, ef, er, getA i1, getA ir, Option.bind_some, cr1, decide_eq_false h4]
        rw [if_pos (by simp [h4, ltC])]
        exact one rfl (.inr rfl)
theorem sift_p (hi first root : Nat) (d : Array Int) (hr : root ≤ hi) (hs : first + hi ≤ d.size) (hd : OKA P d) : g_slices_siftDownCmpFunc_int (root : Int) (hi : Int) (first : Int) cmp d.toList = some (siftDown (ltC c) hi first root d).toList ∧ OKA P (siftDown (ltC c) hi first root d) ∧ (siftDown (ltC c) hi first root d).size = d.size := by
  obtain ⟨r, h1, h2, h3⟩ := sift_lp hc hi first _ root d (Nat.le_refl _) hr hs hd
  unfold g_slices_siftDownCmpFunc_int
  rw [h1]
  rcases h2 with rfl | rfl
  · exact ⟨rfl, h3⟩
  · exact ⟨rfl, h3⟩

theorem build_p (hi first b : Nat) (hb : (b : Int) = first + hi) : ∀ (k : Nat) (d : Array Int), k ≤ hi + 1 → first + hi ≤ d.size → OKA P d → lp (g_slices_heapSortCmpFunc_int_L0 (first : Int) (b : Int) cmp) ((k : Int) - 1, d.toList) = some (heapBuild (ltC c) hi first k d).toList ∧ OKA P (heapBuild (ltC c) hi first k d) ∧ (heapBuild (ltC c) hi first k d).size = d.size
  | 0, d, hk, hs, hd => by
    rw [lp_eq]
    simp only [g_slices_heapSortCmpFunc_int_L0, decide_eq_false (show ¬ ((0 : Int) ≤ ((0 : Nat) : Int) - 1) by omega), cond_false]
    exact ⟨rfl, hd, rfl⟩
  | k + 1, d, hk, hs, hd => by
    have hz := hd.sz
    obtain ⟨h1, h2, h3⟩ := sift_p hc hi first k d (by omega) hs hd
    have ih := build_p hi first b hb k (siftDown (ltC c) hi first k d) (by omega) (by rw [h3]; exact hs) h2
    have e1 : w64 ((b : Int) - (first : Int)) = (hi : Int) := w_nat (by omega) (by omega)
    have e2 : (((k + 1 : Nat) : Int) - 1) = (k : Int) := by omega
    have e3 : w64 ((k : Int) - 1) = (k : Int) - 1 := w64_id (by omega) (by omega)
    rw [lp_eq, e2]
    simp only [g_slices_heapSortCmpFunc_int_L0, decide_eq_true (show (0 : Int) ≤ (k : Int) by omega), cond_true, e1, h1, Option.bind_some, e3]
    rw [← h3]
    exact ih
theorem pop_p (first : Nat) : ∀ (k : Nat) (d : Array Int), first + k ≤ d.size → OKA P d → lp (g_slices_heapSortCmpFunc_int_L1 (first : Int) cmp) ((k : Int) - 1, d.toList) = some (heapPop (ltC c) first k d).toList ∧ OKA P (heapPop (ltC c) first k d) ∧ (heapPop (ltC c) first k d).size = d.size
  | 0, d, hs, hd => by
    rw [lp_eq]
    simp only [g_slices_heapSortCmpFunc_int_L1, decide_eq_false (show ¬ ((0 : Int) ≤ ((0 : Nat) : Int) - 1) by omega), cond_false]
    exact ⟨rfl, hd, rfl⟩
  | k + 1, d, hs, hd => by
    have hz := hd.sz
    have i1 : first + k < d.size := by omega
    have i2 : first < d.size := by omega
    obtain ⟨h1, h2, h3⟩ := sift_p hc k first 0 (swp d first (first + k)) (by omega) (by rw [swp_size]; omega) (hd.swp i2 i1)
    rw [swp_size] at h3
    have ih := pop_p first k (siftDown (ltC c) k first 0 (swp d first (first + k))) (by rw [h3]; omega) h2
    have e2 : (((k + 1 : Nat) : Int) - 1) = (k : Int) := by omega
    have e3 : w64 ((k : Int) - 1) = (k : Int) - 1 := w64_id (by omega) (by omega)
    have e4 : w64 ((first : Int) + (k : Int)) = ((first + k : Nat) : Int) := w_nat (by omega) (by omega)
    obtain ⟨y, em⟩ := midA (i := first) (x := d[first + k]!) i1
    have h1' : g_slices_siftDownCmpFunc_int 0 (k : Int) (first : Int) cmp (swp d first (first + k)).toList = _ := h1
    rw [lp_eq, e2]
    simp only [g_slices_heapSortCmpFunc_int_L1, decide_eq_true (show (0 : Int) ≤ (k : Int) by omega), cond_true, e4, getA i1, getA i2, Option.bind_some, Int.toNat_natCast, em, swapA, h1', e3]
    rw [← h3]
    exact ih
theorem heap_p (a b : Nat) (d : Array Int) (ha : a ≤ b) (hb : b ≤ d.size) (hd : OKA P d) : g_slices_heapSortCmpFunc_int (a : Int) (b : Int) cmp d.toList = some (heapSort (ltC c) d a b).toList ∧ OKA P (heapSort (ltC c) d a b) ∧ (heapSort (ltC c) d a b).size = d.size := by
  have hz := hd.sz
  have e1 : w64 ((b : Int) - (a : Int)) = ((b - a : Nat) : Int) := w_nat (by omega) (by omega)
  have e2 : w64 (((b - a : Nat) : Int) - 1) = ((b - a : Nat) : Int) - 1 := w64_id (by omega) (by omega)
  have e3 : w64 (Int.tdiv (((b - a : Nat) : Int) - 1) 2) = (((b - a - 1) / 2 + 1 : Nat) : Int) - 1 := by
    by_cases h : b - a = 0
    · rw [h]; rfl
    · rw [Int.tdiv_eq_ediv_of_nonneg (by omega), w64_id (by omega) (by omega)]
      omega
  obtain ⟨h1, h2, h3⟩ := build_p hc (b - a) a b (by omega) ((b - a - 1) / 2 + 1) d (by omega) (by omega) hd
  obtain ⟨h4, h5, h6⟩ := pop_p hc a (b - a) (heapBuild (ltC c) (b - a) a ((b - a - 1) / 2 + 1) d) (by rw [h3]; omega) h2
  unfold g_slices_heapSortCmpFunc_int heapSort
  simp only [e1, e2, e3, h1, h4, Option.bind_some]
  exact ⟨trivial, h5, by rw [h6, h3]⟩
end
end Go.Proofs.YtakebhleglnpjaaDoor
