/- Chapter 5: what the functions come to, plainly. -/
import Derived.Test.YtakebhleglnpjaaDoorP1
import Derived.Test.YtakebhleglnpjaaDoorE36
namespace Go.Proofs.YtakebhleglnpjaaDoor
open Go Go.Proofs.YtakebhleglnpjaaDoorE
set_option linter.unusedVariables false
set_option linter.unusedSimpArgs false

def within (n a b : Int) : Bool := decide (a ≤ n) && decide (n ≤ b)
theorem within_p (n a b : Int) : g_desc_within n a b = some (within n a b) := by
  unfold g_desc_within within
  cases decide (a ≤ n) <;> cases decide (n ≤ b) <;> rfl
theorem within_part (x : Int) (n : Nat) : within x 0 ((n : Int) - 1) = (decide (0 ≤ x) && decide (x < (n : Int))) := by
  unfold within
  congr 1
  exact decide_eq_decide.2 (by omega)

def badPart (p : PartT) : Bool := !(within p.op 0 5 && (within p.arg 0 2147483647 && within p.work 1 100))
theorem part_p (p : PartT) : g_desc_part p = some (badPart p) := by
  unfold g_desc_part badPart
  simp only [within_p, Option.bind_some]
  cases within p.op 0 5 <;> cases within p.arg 0 2147483647 <;> cases within p.work 1 100 <;> rfl

theorem find_any {γ : Type} (l : List γ) (p : γ → Bool) (step : Int → Option (Int ⊕ (Int ⊕ Unit)))
    (h1 : ∀ i x, i < l.length → l[i]? = some x → step (i : Int) = some (bif p x then .inr (.inl (i : Int)) else .inl ((i + 1 : Nat) : Int)))
    (h2 : step (l.length : Int) = some (.inr (.inr ()))) :
    (((lp step 0).bind fun (r : Int ⊕ Unit) => match r with | .inl r => some r | .inr _ => some (-1)).bind fun x => bif decide (0 ≤ x) then some true else some false) = some (l.any p) := by
  rw [lp_stop l step (fun _ => p) (fun i _ => .inl (i : Int)) (.inr ()) h1 h2]
  rcases stop_index p () l 0 with ⟨j, e1, e2⟩ | ⟨e1, e2⟩
  · rw [e1, e2]
    show (bif decide ((0 : Int) ≤ (j : Int)) then some true else some false) = some true
    rw [decide_eq_true (by omega)]
    rfl
  · rw [e1, e2]
    rfl

theorem containsPart_p (l : List PartT) (f : PartT → Option Bool) (p : PartT → Bool) (hf : ∀ x ∈ l, f x = some (p x)) (hl : l.length < 9223372036854775808) : g_slices_ContainsFunc_l_Part_Part l f = some (l.any p) := by
  unfold g_slices_ContainsFunc_l_Part_Part g_slices_IndexFunc_l_Part_Part
  refine find_any l p _ (fun i x hi hx => ?_) ?_
  · simp only [g_slices_IndexFunc_l_Part_Part_L0, lt_t hi, at_some hx, Option.bind_some, hf x (List.mem_of_getElem? hx), w64_succ hi hl, cond_true]
    cases p x <;> rfl
  · simp only [g_slices_IndexFunc_l_Part_Part_L0, lt_f]; rfl

def sameE (e x : EdgeT) : Bool := e.src == x.src && (e.dst == x.dst && true)
theorem hasEdge_p (l : List EdgeT) (e : EdgeT) (hl : l.length < 9223372036854775808) : g_slices_Contains_l_Edge_Edge l e = some (l.any (sameE e)) := by
  unfold g_slices_Contains_l_Edge_Edge g_slices_Index_l_Edge_Edge
  refine find_any l (sameE e) _ (fun i x hi hx => ?_) ?_
  · simp only [g_slices_Index_l_Edge_Edge_L0, lt_t hi, at_some hx, Option.bind_some, w64_succ hi hl, cond_true, sameE]
    cases (e.src == x.src && (e.dst == x.dst && true)) <;> rfl
  · simp only [g_slices_Index_l_Edge_Edge_L0, lt_f]; rfl

def again (f g : FutureT) : Bool := g.user == f.user && g.pos == f.pos
theorem containsFuture_p (l : List FutureT) (f : FutureT → Option Bool) (p : FutureT → Bool) (hf : ∀ x ∈ l, f x = some (p x)) (hl : l.length < 9223372036854775808) : g_slices_ContainsFunc_l_Future_Future l f = some (l.any p) := by
  unfold g_slices_ContainsFunc_l_Future_Future g_slices_IndexFunc_l_Future_Future
  refine find_any l p _ (fun i x hi hx => ?_) ?_
  · simp only [g_slices_IndexFunc_l_Future_Future_L0, lt_t hi, at_some hx, Option.bind_some, hf x (List.mem_of_getElem? hx), w64_succ hi hl, cond_true]
    cases p x <;> rfl
  · simp only [g_slices_IndexFunc_l_Future_Future_L0, lt_f]; rfl

theorem again_p (f g : FutureT) : g_desc_Check_1 g f.user f.pos = some (again f g) := by
  unfold g_desc_Check_1 again
  cases (g.user == f.user) <;> cases (g.pos == f.pos) <;> rfl

theorem hasInt_p (l : List Int) (n : Int) (hl : l.length < 9223372036854775808) : g_slices_Contains_l_int_int l n = some (l.any (fun x => n == x)) := by
  unfold g_slices_Contains_l_int_int g_slices_Index_l_int_int
  refine find_any l (fun x => n == x) _ (fun i x hi hx => ?_) ?_
  · simp only [g_slices_Index_l_int_int_L0, lt_t hi, at_some hx, Option.bind_some, w64_succ hi hl, cond_true]
    cases (n == x) <;> rfl
  · simp only [g_slices_Index_l_int_int_L0, lt_f]; rfl

def isOut (b : BarrierT) (n : Int) : Bool := b.outs.any fun x => n == x
theorem containsInt_p (l : List Int) (f : Int → Option Bool) (p : Int → Bool) (hf : ∀ x ∈ l, f x = some (p x)) (hl : l.length < 9223372036854775808) : g_slices_ContainsFunc_l_int_int l f = some (l.any p) := by
  unfold g_slices_ContainsFunc_l_int_int g_slices_IndexFunc_l_int_int
  refine find_any l p _ (fun i x hi hx => ?_) ?_
  · simp only [g_slices_IndexFunc_l_int_int_L0, lt_t hi, at_some hx, Option.bind_some, hf x (List.mem_of_getElem? hx), w64_succ hi hl, cond_true]
    cases p x <;> rfl
  · simp only [g_slices_IndexFunc_l_int_int_L0, lt_f]; rfl

theorem out_p (b : BarrierT) (h2 : b.outs.length < 9223372036854775808) (n : Int) : g_desc_Check_2 n b.outs = some (isOut b n) := by
  unfold g_desc_Check_2
  simp only [hasInt_p _ _ h2, Option.bind_some]
  unfold isOut
  cases (b.outs.any fun y => n == y) <;> rfl

def two (n : Nat) (a b : Int) : Bool := (a != b) && (within a 0 (n - 1) && within b 0 (n - 1))
theorem two_p (d : DescT) (hl : d.parts.length < 9223372036854775808) (a b : Int) : g_desc_two d a b = some (two d.parts.length a b) := by
  unfold g_desc_two two
  rw [w64_id (by omega) (by omega)]
  simp only [within_p, Option.bind_some]
  cases (a != b) <;> cases within a 0 (d.parts.length - 1) <;> cases within b 0 (d.parts.length - 1) <;> rfl

/-- what is wrong with a row's element -/
def badAt (n : Nat) (l : List Int) (i : Nat) (x : Int) : Bool := !(within x 0 (n - 1)) || (match i with | 0 => false | j + 1 => match l[j]? with | some y => decide (x ≤ y) | none => false)
def rowOK (n : Nat) (l : List Int) : Bool := !(anyI (badAt n l) 0 l) && !l.isEmpty
theorem row_end (b : Bool) (l : List Int) : ((some (bif b then (Sum.inl () : Unit ⊕ Unit) else .inr ())).bind fun r => match r with | .inl _ => some false | .inr _ => bif decide (0 < (l.length : Int)) then some true else some false) = some (!b && !l.isEmpty) := by
  cases b with
  | true => rfl
  | false =>
    cases l with
    | nil => rfl
    | cons x l => show (bif decide (0 < ((x :: l).length : Int)) then some true else some false) = some true; rw [decide_eq_true (by rw [List.length_cons]; omega)]; rfl
theorem row_p (d : DescT) (hd : d.parts.length < 9223372036854775808) (l : List Int) (hl : l.length < 9223372036854775808) : g_desc_row d l = some (rowOK d.parts.length l) := by
  have key := lp_stop l (g_desc_row_L0 d l) (badAt d.parts.length l) (fun _ _ => .inl ()) (.inr ()) (fun i x hi hx => by
      simp only [g_desc_row_L0, lt_t hi, at_some hx, Option.bind_some, w64_succ hi hl, cond_true, within_p, badAt]
      rw [w64_id (by omega) (by omega)]
      cases within x 0 (d.parts.length - 1) with
      | false => rfl
      | true =>
        cases i with
        | zero => rfl
        | succ i =>
          rw [decide_eq_true (show (0 : Int) < ((i + 1 : Nat) : Int) by omega), w64_id (by omega) (by omega), show (((i + 1 : Nat) : Int) - 1) = (i : Int) by omega]
          have hi2 : l[i]? = some l[i] := List.getElem?_eq_getElem (by omega)
          rw [at_some hi2]
          simp only [cond_true, Option.bind_some, Bool.not_true, Bool.false_or, hi2]
          cases decide (x ≤ l[i]) <;> rfl) (by simp only [g_desc_row_L0, lt_f]; rfl)
  unfold g_desc_row rowOK
  rw [key, stop_const]
  exact row_end _ _
end Go.Proofs.YtakebhleglnpjaaDoor
