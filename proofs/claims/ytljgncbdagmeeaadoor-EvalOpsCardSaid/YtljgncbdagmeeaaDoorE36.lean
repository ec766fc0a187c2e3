/- Plain loops: over a list, from left to right. -/
import Derived.Test.YtljgncbdagmeeaaDoorE35
namespace Go.Proofs.YtljgncbdagmeeaaDoorE
open Go
set_option linter.unusedVariables false
set_option linter.unusedSimpArgs false

theorem lt_t {i n : Nat} (h : i < n) : decide ((i : Int) < (n : Int)) = true := decide_eq_true (by omega)
theorem lt_f (n : Nat) : decide ((n : Int) < (n : Int)) = false := decide_eq_false (by omega)
theorem at_some {γ : Type} {l : List γ} {i : Nat} {x : γ} (h : l[i]? = some x) : getI l (i : Int) = some x := (getI_nat l i).trans h
theorem at_int {γ : Type} {l : List γ} {i : Int} {x : γ} (h0 : 0 ≤ i) (h : l[i.toNat]? = some x) : getI l i = some x := by
  have := at_some h
  rwa [Int.toNat_of_nonneg h0] at this
theorem w64_id {n : Int} (h1 : -9223372036854775808 ≤ n) (h2 : n < 9223372036854775808) : w64 n = n := wrap64 h1 h2
theorem w64_succ {i n : Nat} (h : i < n) (hn : n < 9223372036854775808) : w64 ((i : Int) + 1) = ((i + 1 : Nat) : Int) := by rw [w64_id (by omega) (by omega)]; omega
theorem lim_t {n : Nat} (h : n ≤ 1073741824) : Nat.ble n lim = true := Nat.ble_eq_true_of_le h

/-- a loop over a list: what each round makes of the state -/
def scan {γ S R : Type} (f : Nat → γ → S → Option (S ⊕ R)) (fin : S → Option R) : Nat → List γ → S → Option R
  | _, [], s => fin s
  | i, x :: l, s => (match f i x s with | some (.inl s') => scan f fin (i + 1) l s' | some (.inr r) => some r | none => none)

theorem lp_scan {γ S St R : Type} (l : List γ) (step : St → Option (St ⊕ R)) (st : Nat → S → St) (f : Nat → γ → S → Option (S ⊕ R)) (fin : S → Option R)
    (h1 : ∀ i x s, i < l.length → l[i]? = some x → step (st i s) = (match f i x s with | some (.inl s') => some (.inl (st (i + 1) s')) | some (.inr r) => some (.inr r) | none => none))
    (h2 : ∀ s, step (st l.length s) = (fin s).map Sum.inr) : ∀ s, lp step (st 0 s) = scan f fin 0 l s := by
  have key : ∀ (k i : Nat) (s : S), i + k = l.length → lp step (st i s) = scan f fin i (l.drop i) s := by
    intro k
    induction k with
    | zero =>
      intro i s hi
      have : i = l.length := by omega
      subst this
      rw [List.drop_length, lp_eq, h2]
      unfold scan
      cases fin s <;> rfl
    | succ k ih =>
      intro i s hi
      have hi' : i < l.length := by omega
      rw [List.drop_eq_getElem_cons hi', lp_eq, h1 i l[i] s hi' (List.getElem?_eq_getElem hi')]
      conv => rhs; unfold scan
      cases f i l[i] s with
      | none => rfl
      | some t =>
        cases t with
        | inl s' => exact ih (i + 1) s' (by omega)
        | inr r => rfl
  intro s
  have := key l.length 0 s (by omega)
  rwa [List.drop_zero] at this

/-- where it stops at the first that is so -/
def stop {γ R : Type} (p : Nat → γ → Bool) (out : Nat → γ → R) (fin : R) : Nat → List γ → R
  | _, [] => fin
  | i, x :: l => bif p i x then out i x else stop p out fin (i + 1) l

theorem lp_stop {γ R : Type} (l : List γ) (step : Int → Option (Int ⊕ R)) (p : Nat → γ → Bool) (out : Nat → γ → R) (fin : R)
    (h1 : ∀ i x, i < l.length → l[i]? = some x → step (i : Int) = some (bif p i x then .inr (out i x) else .inl ((i + 1 : Nat) : Int)))
    (h2 : step (l.length : Int) = some (.inr fin)) : lp step 0 = some (stop p out fin 0 l) := by
  have key := lp_scan (S := Unit) l step (fun i _ => (i : Int)) (fun i x _ => some (bif p i x then .inr (out i x) else .inl ())) (fun _ => some fin)
    (fun i x s hi hx => by rw [h1 i x hi hx]; cases p i x <;> rfl) (fun _ => h2) ()
  refine (key : lp step 0 = _).trans ?_
  have : ∀ (l : List γ) (i : Nat), scan (S := Unit) (fun i x _ => some (bif p i x then Sum.inr (out i x) else Sum.inl ())) (fun _ => some fin) i l () = some (stop p out fin i l) := by
    intro l
    induction l with
    | nil => intro i; rfl
    | cons x l ih =>
      intro i
      unfold scan stop
      cases p i x with
      | true => rfl
      | false => exact ih (i + 1)
  exact this l 0

def anyI {γ : Type} (p : Nat → γ → Bool) : Nat → List γ → Bool
  | _, [] => false
  | i, x :: l => p i x || anyI p (i + 1) l
theorem anyI_any {γ : Type} (p : γ → Bool) : ∀ (l : List γ) (i : Nat), anyI (fun _ => p) i l = l.any p
  | [], _ => rfl
  | x :: l, i => by rw [anyI, List.any_cons, anyI_any p l]
theorem stop_const {γ R : Type} (p : Nat → γ → Bool) (c fin : R) : ∀ (l : List γ) (i : Nat), stop p (fun _ _ => c) fin i l = bif anyI p i l then c else fin
  | [], _ => rfl
  | x :: l, i => by
    unfold stop anyI
    rw [stop_const p c fin l (i + 1)]
    cases p i x <;> rfl
theorem stop_index {γ R : Type} (p : γ → Bool) (fin : R) : ∀ (l : List γ) (i : Nat), (∃ j : Nat, stop (fun _ => p) (fun i _ => (Sum.inl (i : Int) : Int ⊕ R)) (.inr fin) i l = .inl (j : Int) ∧ l.any p = true) ∨ (stop (fun _ => p) (fun i _ => (Sum.inl (i : Int) : Int ⊕ R)) (.inr fin) i l = .inr fin ∧ l.any p = false)
  | [], _ => .inr ⟨rfl, rfl⟩
  | x :: l, i => by
    unfold stop
    rw [List.any_cons]
    cases h : p x with
    | true => exact .inl ⟨i, rfl, rfl⟩
    | false => simpa using stop_index p fin l (i + 1)
theorem anyI_iff {γ : Type} (p : Nat → γ → Bool) : ∀ (l : List γ) (i : Nat), anyI p i l = true ↔ ∃ j x, l[j]? = some x ∧ p (i + j) x = true
  | [], i => by simp [anyI]
  | x :: l, i => by
    rw [anyI, Bool.or_eq_true, anyI_iff p l (i + 1)]
    constructor
    · rintro (h | ⟨j, y, hj, hp⟩)
      · exact ⟨0, x, rfl, h⟩
      · exact ⟨j + 1, y, by simpa using hj, by rw [show i + (j + 1) = i + 1 + j by omega]; exact hp⟩
    · rintro ⟨j, y, hj, hp⟩
      cases j with
      | zero => left; simp at hj; subst hj; exact hp
      | succ j => right; exact ⟨j, y, by simpa using hj, by rw [show i + 1 + j = i + (j + 1) by omega]; exact hp⟩
theorem anyI_congr {γ : Type} (p q : Nat → γ → Bool) (l : List γ) (h : ∀ i x, l[i]? = some x → p i x = q i x) : anyI p 0 l = anyI q 0 l := by
  rw [Bool.eq_iff_iff, anyI_iff, anyI_iff]
  constructor
  · rintro ⟨j, x, hj, hp⟩; exact ⟨j, x, hj, by rw [Nat.zero_add] at hp ⊢; rw [← h j x hj]; exact hp⟩
  · rintro ⟨j, x, hj, hp⟩; exact ⟨j, x, hj, by rw [Nat.zero_add] at hp ⊢; rw [h j x hj]; exact hp⟩

/-- a loop that compares two lists of one length -/
theorem lp_same {γ : Type} [DecidableEq γ] (a b : List γ) (he : a.length = b.length) (step : Int → Option (Int ⊕ (Unit ⊕ Unit)))
    (h1 : ∀ i x y, i < a.length → a[i]? = some x → b[i]? = some y → step (i : Int) = some (bif decide (x = y) then .inl ((i + 1 : Nat) : Int) else .inr (.inl ())))
    (h2 : step (a.length : Int) = some (.inr (.inr ()))) : lp step 0 = some (bif decide (a = b) then .inr () else .inl ()) := by
  have key : ∀ (k i : Nat), i + k = a.length → lp step (i : Int) = some (bif decide (a.drop i = b.drop i) then .inr () else .inl ()) := by
    intro k
    induction k with
    | zero =>
      intro i hi
      have : i = a.length := by omega
      subst this
      rw [lp_eq, h2, List.drop_length, he, List.drop_length]
      rfl
    | succ k ih =>
      intro i hi
      have ha : i < a.length := by omega
      have hb : i < b.length := by omega
      rw [lp_eq, h1 i a[i] b[i] ha (List.getElem?_eq_getElem ha) (List.getElem?_eq_getElem hb), List.drop_eq_getElem_cons ha, List.drop_eq_getElem_cons hb]
      by_cases h : a[i] = b[i]
      · rw [decide_eq_true h]
        simp only [cond_true]
        rw [ih (i + 1) (by omega)]
        by_cases h3 : a.drop (i + 1) = b.drop (i + 1)
        · rw [decide_eq_true h3, decide_eq_true (by rw [h, h3])]
        · rw [decide_eq_false h3, decide_eq_false (by intro h4; exact h3 (List.cons.inj h4).2)]
      · rw [decide_eq_false h, decide_eq_false (by intro h4; exact h (List.cons.inj h4).1)]
        rfl
  have := key a.length 0 (by omega)
  rwa [List.drop_zero, List.drop_zero] at this
end Go.Proofs.YtljgncbdagmeeaaDoorE
