/- Small facts for going through functions' texts. -/
import Derived.Test.YtljgncbdagmeeaaDoorE7
import Derived.Test.YtljgncbdagmeeaaDoorE30
namespace Go.Proofs.YtljgncbdagmeeaaDoorE
open Go
set_option linter.unusedVariables false
set_option linter.unusedSimpArgs false

theorem wrap64 {n : Int} (h1 : -9223372036854775808 ≤ n) (h2 : n < 9223372036854775808) : IntKind.i64.wrap n = n := by
  show (if (true && decide (n % 18446744073709551616 ≥ 9223372036854775808)) = true then n % 18446744073709551616 - 18446744073709551616 else n % 18446744073709551616) = n
  by_cases h : n % 18446744073709551616 ≥ 9223372036854775808
  · rw [decide_eq_true h]; simp only [Bool.and_self, if_true]; omega
  · rw [decide_eq_false h]; simp only [Bool.and_false, Bool.false_eq_true, if_false]; omega

theorem getI_nat {α : Type} (xs : List α) (i : Nat) : getI xs (i : Int) = xs[i]? := by
  unfold getI
  have : decide ((0 : Int) ≤ i) = true := by simp
  rw [this]; simp [nth_eq]
theorem getI_map {α β : Type} (f : α → β) (xs : List α) (i : Nat) (h : i < xs.length) : getI (xs.map f) (i : Int) = some (f xs[i]) := by
  rw [getI_nat]; simp [h]

/-- one round of a loop; what is gone round again stands still -/
theorem lpW_b (Γ : Ctx) (k : Nat) (live outs : List Nat) (a : C) (vs : List V) (H : Heap) :
    lpW Γ k live outs a vs H = codeK Γ k a (envOf live vs) H fun x e H => (match x with
      | .normal => headK k (live.map e) H fun vs H => bnd (lpW Γ k live outs a vs H) some
      | x => extractK k (outs.map e) H fun _ vs H => some (x, vs, H)) := by
  refine (lpW_eq Γ k live outs a vs H).trans (congrArg (codeK Γ k a (envOf live vs) H) ?_)
  funext x e H
  cases x
  · exact congrArg (headK k (live.map e) H) (funext fun vs => funext fun H => (bnd_some _).symm)
  · rfl
  · rfl

theorem szAt_map {α : Type} {f : α → D} {sz : Nat} (hf : ∀ x, (f x).cells.length = sz ∧ (V.d (f x)).okb = true) (l : List α) (i : Nat) : szAt sz (l.map f) i = true := by
  unfold szAt
  rw [nth_eq, List.getElem?_map]
  cases l[i]? with
  | none => rfl
  | some x => simp [hf x]
theorem szAt_part (l : List PartT) (i : Nat) : szAt 3 (l.map partD) i = true := szAt_map (f := partD) (fun x => ⟨rfl, rfl⟩) l i
theorem szAt_edge (l : List EdgeT) (i : Nat) : szAt 2 (l.map edgeD) i = true := szAt_map (f := edgeD) (fun x => ⟨rfl, rfl⟩) l i
theorem szAt_future (l : List FutureT) (i : Nat) : szAt 3 (l.map futureD) i = true := szAt_map (f := futureD) (fun x => ⟨rfl, rfl⟩) l i
theorem szAt_barrier (l : List BarrierT) (i : Nat) : szAt 2 (l.map barrierD) i = true := szAt_map (f := barrierD) (fun x => ⟨rfl, rfl⟩) l i
theorem szAt_int (l : List Int) (i : Nat) : szAt 1 (l.map intD) i = true := szAt_map (f := intD) (fun x => ⟨rfl, rfl⟩) l i
theorem ble_lim {n : Nat} (h : n ≤ 1073741824) : Nat.ble n lim = true := Nat.ble_eq_true_of_le h
theorem succ64 (i : Nat) (h : i + 1 < 9223372036854775808) : IntKind.i64.wrap ((i : Int) + 1) = ((i + 1 : Nat) : Int) := by rw [wrap64 (by omega) (by omega)]; omega
theorem zero64 : V.d (D.int .i64 0) = V.d (intD ((0 : Nat) : Int)) := rfl

theorem br_tt {β : Type} {c : Bool} {x y : Option β} (h : c = true) : br c x y = x := by rw [h, br_t]
theorem br_ff {β : Type} {c : Bool} {x y : Option β} (h : c = false) : br c x y = y := by rw [h, br_f]
theorem bnd_ss {α β : Type} {x : Option α} {a : α} {k : α → Option β} (h : x = some a) : bnd x k = k a := by rw [h, bnd_s]

/-- where the first one is -/
def first {α : Type} (p : α → Bool) : Nat → List α → Option Nat
  | _, [] => none
  | i, x :: l => bif p x then some i else first p (i + 1) l
theorem first_t {α : Type} {p : α → Bool} {i : Nat} {x : α} {l : List α} (h : p x = true) : first p i (x :: l) = some i := by rw [first, h]; rfl
theorem first_f {α : Type} {p : α → Bool} {i : Nat} {x : α} {l : List α} (h : p x = false) : first p i (x :: l) = first p (i + 1) l := by rw [first, h]; rfl
theorem any_first {α : Type} (p : α → Bool) : ∀ (i : Nat) (l : List α), l.any p = (first p i l).isSome
  | _, [] => rfl
  | i, x :: l => by
    rw [List.any_cons, first]
    cases h : p x with
    | true => rfl
    | false => simpa using any_first p (i + 1) l

/-- said within a bound: said -/
theorem evW_of {Γ : Ctx} {f : Nat} {args : List V} {H : Heap} {r : V × Heap} (n : Nat) (h : evN Γ n f args H = some r) : evW Γ f args H = some r := (evW_iff Γ f args H r).2 ⟨n, h⟩

end Go.Proofs.YtljgncbdagmeeaaDoorE
