/- Regions that draw their order: the check. -/
import Derived.Test.YtljgncbdagmeeaaDoorE26
namespace Go.Proofs.YtljgncbdagmeeaaDoorE
open Go
set_option linter.unusedVariables false
set_option linter.unusedSimpArgs false

/-- what must come ahead of an operation -/
def preO (o : Oper) : List Nat := (o.after.toList.filter (Region.binds .any)).map (·.on)
/-- is i among these? (a set, as a number) -/
def tb (b i : Nat) : Bool := !(Nat.beq (Nat.land (Nat.shiftRight b i) 1) 0)
def orAll (acc : List Nat) : List Nat → Nat
  | [] => 0
  | i :: l => Nat.lor (Nat.lor (Nat.shiftLeft 1 i) (match nth acc i with | some b => b | none => 0)) (orAll acc l)
def befsGo (acc : List Nat) : List Oper → List Nat
  | [] => acc
  | o :: os => befsGo (acc ++ [orAll acc (preO o)]) os
/-- .. and whatever must come ahead of that -/
def befs (os : List Oper) : List Nat := befsGo [] os

theorem tb_eq (b i : Nat) : tb b i = b.testBit i := by
  unfold tb Nat.testBit
  rw [show Nat.land (Nat.shiftRight b i) 1 = 1 &&& (b >>> i) from Nat.and_comm _ _]
  cases h : (1 &&& b >>> i) with
  | zero => rfl
  | succ n => rfl

theorem orAll_spec (acc : List Nat) (k : Nat) : ∀ (l : List Nat), tb (orAll acc l) k = true → ∃ i ∈ l, k = i ∨ ∃ b, acc[i]? = some b ∧ tb b k = true
  | [], h => by rw [tb_eq] at h; simp [orAll] at h
  | i :: l, h => by
    rw [tb_eq] at h
    change ((1 <<< i ||| (match nth acc i with | some b => b | none => 0)) ||| orAll acc l).testBit k = true at h
    rw [Nat.testBit_or, Nat.testBit_or, Bool.or_eq_true, Bool.or_eq_true] at h
    rcases h with (h | h) | h
    · rw [Nat.testBit_shiftLeft] at h
      simp only [Bool.and_eq_true, decide_eq_true_eq, Nat.testBit_one_eq_true_iff_self_eq_zero] at h
      exact ⟨i, by simp, .inl (by omega)⟩
    · cases ha : nth acc i with
      | none => rw [ha] at h; simp at h
      | some b => rw [ha] at h; exact ⟨i, by simp, .inr ⟨b, by rw [← nth_eq]; exact ha, by rw [tb_eq]; exact h⟩⟩
    · obtain ⟨j, h1, h2⟩ := orAll_spec acc k l (by rw [tb_eq]; exact h)
      exact ⟨j, by simp [h1], h2⟩

theorem befsGo_spec : ∀ (os : List Oper) (acc : List Nat), (befsGo acc os).length = acc.length + os.length ∧ (∀ i, i < acc.length → (befsGo acc os)[i]? = acc[i]?) ∧
    ∀ (j : Nat) o, os[j]? = some o → (befsGo acc os)[acc.length + j]? = some (orAll ((befsGo acc os).take (acc.length + j)) (preO o))
  | [], acc => ⟨rfl, fun _ _ => rfl, fun j o h => by simp at h⟩
  | o :: os, acc => by
    obtain ⟨h1, h2, h3⟩ := befsGo_spec os (acc ++ [orAll acc (preO o)])
    simp only [befsGo]
    rw [List.length_append, List.length_singleton] at h1 h2 h3
    refine ⟨by rw [h1, List.length_cons]; omega, fun i hi => ?_, fun j o' hj => ?_⟩
    · rw [h2 i (by omega), List.getElem?_append_left hi]
    · cases j with
      | zero =>
        simp at hj; subst hj
        have htake : (befsGo (acc ++ [orAll acc (preO o)]) os).take (acc.length + 0) = acc := by
          apply List.ext_getElem?
          intro i
          rw [List.getElem?_take]
          by_cases hi : i < acc.length
          · rw [if_pos (by omega), h2 i (by omega), List.getElem?_append_left hi]
          · rw [if_neg (by omega), List.getElem?_eq_none (by omega)]
        rw [htake, Nat.add_zero, h2 acc.length (by omega), List.getElem?_append_right (Nat.le_refl _)]
        simp
      | succ j =>
        have e1 := h3 j o' (by simpa using hj)
        rw [show acc.length + 1 + j = acc.length + (j + 1) by omega] at e1
        exact e1

/-- what must come ahead of j, at last -/
theorem befs_spec {os : List Oper} {j k b : Nat} {o : Oper} (ho : os[j]? = some o) (hb : (befs os)[j]? = some b) (h : tb b k = true) : ∃ i ∈ preO o, k = i ∨ (i < j ∧ ∃ b', (befs os)[i]? = some b' ∧ tb b' k = true) := by
  obtain ⟨_, _, h3⟩ := befsGo_spec os []
  have e := h3 j o ho
  simp only [List.length_nil, Nat.zero_add] at e
  rw [show befsGo [] os = befs os from rfl, hb] at e
  cases e
  obtain ⟨i, h1, h2⟩ := orAll_spec _ k _ h
  refine ⟨i, h1, ?_⟩
  rcases h2 with h2 | ⟨b', f1, f2⟩
  · exact .inl h2
  · rw [List.getElem?_take] at f1
    by_cases hi : i < j
    · rw [if_pos hi] at f1
      exact .inr ⟨hi, b', f1, f2⟩
    · rw [if_neg hi] at f1; cases f1

/-! what the evaluator did, step by step -/
structure Trace where
  E : Nat → Env
  HH : Nat → Heap
  W : Nat → Bool
  VV : Nat → V
  UP : Nat → List (Nat × Blk)
  NW : Nat → List Blk

def Trace.pos (t : Trace) (j : Nat) : List (Nat × Nat) := (List.range j).map fun i => ((t.HH i).length, (t.NW i).length)

structure Trace.OK (t : Trace) (Γ : Ctx) (cf : CallF) (p0 : List (Nat × Nat)) (l : List Op1) (e : Env) (H : Heap) (e' : Env) (H' : Heap) : Prop where
  e0 : t.E 0 = e
  h0 : t.HH 0 = H
  e1 : t.E l.length = e'
  h1 : t.HH l.length = H'
  w : ∀ (j : Nat) p, l[j]? = some p → wants (t.E j) p.guard = some (t.W j)
  e : ∀ (j : Nat) p, l[j]? = some p → t.E (j + 1) = setO (t.E j) p.dst (t.VV j)
  h : ∀ (j : Nat) p, l[j]? = some p → t.HH (j + 1) = updH (t.HH j) (t.UP j) ++ t.NW j
  y : ∀ (j : Nat) p, l[j]? = some p → t.W j = true → opE Γ cf (t.E j) (t.HH j).length (hideH (t.HH j) (p0 ++ t.pos j) p.mask) p.op = some (t.VV j, t.UP j, t.NW j) ∧ effC (t.E j) (t.HH j) p (t.UP j) (t.NW j) = true
  n : ∀ (j : Nat) p, l[j]? = some p → t.W j = false → t.VV j = .d (.tup []) ∧ t.UP j = [] ∧ t.NW j = []

def consF {α : Type} (a : α) (f : Nat → α) : Nat → α
  | 0 => a
  | n + 1 => f n

theorem draw_trace {Γ : Ctx} {cf : CallF} : ∀ (l : List Op1) (p0 : List (Nat × Nat)) (e : Env) (H : Heap) (e' : Env) (H' : Heap), drawE Γ cf p0 l e H = some (e', H') → ∃ t : Trace, t.OK Γ cf p0 l e H e' H'
  | [], p0, e, H, e', H', h => by
    simp only [drawE, Option.some.injEq, Prod.mk.injEq] at h
    obtain ⟨rfl, rfl⟩ := h
    exact ⟨⟨fun _ => e, fun _ => H, fun _ => false, fun _ => .bad, fun _ => [], fun _ => []⟩, rfl, rfl, rfl, rfl, by simp, by simp, by simp, by simp, by simp⟩
  | o :: l, p0, e, H, e', H', h => by
    simp only [drawE] at h
    have step : ∀ (b : Bool) (v : V) (up : List (Nat × Blk)) (nw : List Blk), wants e o.guard = some b → drawE Γ cf (p0 ++ [(H.length, nw.length)]) l (setO e o.dst v) (updH H up ++ nw) = some (e', H') →
        (b = true → opE Γ cf e H.length (hideH H p0 o.mask) o.op = some (v, up, nw) ∧ effC e H o up nw = true) → (b = false → v = .d (.tup []) ∧ up = [] ∧ nw = []) → ∃ t : Trace, t.OK Γ cf p0 (o :: l) e H e' H' := by
      intro b v up nw hw hr hy hn
      obtain ⟨t, ht⟩ := draw_trace l _ _ _ e' H' hr
      refine ⟨⟨consF e t.E, consF H t.HH, consF b t.W, consF v t.VV, consF up t.UP, consF nw t.NW⟩, rfl, rfl, ht.e1, ht.h1, ?_, ?_, ?_, ?_, ?_⟩
      · intro j p hj
        cases j with
        | zero => simp at hj; subst hj; exact hw
        | succ j => exact ht.w j p (by simpa using hj)
      · intro j p hj
        cases j with
        | zero => simp at hj; subst hj; exact ht.e0
        | succ j => exact ht.e j p (by simpa using hj)
      · intro j p hj
        cases j with
        | zero => simp at hj; subst hj; exact ht.h0
        | succ j => exact ht.h j p (by simpa using hj)
      · intro j p hj hwj
        cases j with
        | zero =>
          simp at hj; subst hj
          have := hy hwj
          simpa [Trace.pos, consF] using this
        | succ j =>
          have := ht.y j p (by simpa using hj) hwj
          have hpos : p0 ++ Trace.pos ⟨consF e t.E, consF H t.HH, consF b t.W, consF v t.VV, consF up t.UP, consF nw t.NW⟩ (j + 1) = p0 ++ [(H.length, nw.length)] ++ t.pos j := by
            unfold Trace.pos
            rw [List.range_succ_eq_map, List.map_cons, List.map_map, List.append_assoc]
            rfl
          rw [hpos]
          exact this
      · intro j p hj hwj
        cases j with
        | zero => exact hn hwj
        | succ j => exact ht.n j p (by simpa using hj) hwj
    cases hw : wants e o.guard with
    | none => rw [hw] at h; cases h
    | some b =>
      rw [hw] at h
      cases b with
      | false =>
        exact step false (.d (.tup [])) [] [] hw (by simpa [updH] using h) (fun h => by cases h) (fun _ => ⟨rfl, rfl, rfl⟩)
      | true =>
        dsimp only at h
        cases ho : opE Γ cf e H.length (hideH H p0 o.mask) o.op with
        | none => rw [ho] at h; cases h
        | some q =>
          obtain ⟨v, up, nw⟩ := q
          rw [ho] at h
          dsimp only at h
          cases hb : effC e H o up nw with
          | false => rw [hb] at h; cases h
          | true =>
            rw [hb] at h
            exact step true v up nw hw h (fun _ => ⟨ho, hb⟩) (fun h => by cases h)

end Go.Proofs.YtljgncbdagmeeaaDoorE
