/- What came in, as the tasks' own types. -/
import Derived.Test.YtljgncbdagmeeaaDoorE31
import Derived.Test.YtljgncbdagmeeaaDoorE33
namespace Go.Proofs.YtljgncbdagmeeaaDoorE
open Go
set_option linter.unusedVariables false
set_option linter.unusedSimpArgs false

theorem list_of {α : Type} {f : α → D} {p : α → Prop} : ∀ {xs : List D}, (∀ y ∈ xs, ∃ a, y = f a ∧ p a) → ∃ l : List α, xs = l.map f ∧ ∀ a ∈ l, p a
  | [], _ => ⟨[], rfl, by simp⟩
  | x :: xs, h => by
    obtain ⟨a, ha, hp⟩ := h x (by simp)
    obtain ⟨l, hl, hq⟩ := list_of (xs := xs) fun y hy => h y (by simp [hy])
    refine ⟨a :: l, by rw [ha, hl]; rfl, fun b hb => ?_⟩
    rcases List.mem_cons.1 hb with rfl | hb
    · exact hp
    · exact hq b hb

/-- a word -/
def I64 (n : Int) : Prop := -9223372036854775808 ≤ n ∧ n < 9223372036854775808
theorem i64_of {n : Int} (h : (Lit.int .i64 n).wf = true) : I64 n := by
  unfold Lit.wf at h
  simp only [Bool.and_eq_true, decide_eq_true_eq] at h
  have e1 : IntKind.i64.min = -9223372036854775808 := by decide
  have e2 : IntKind.i64.max = 9223372036854775807 := by decide
  rw [e1, e2] at h
  unfold I64
  omega
theorem agg_of {y : D} {n : Nat} (h : y.isAgg = true) : y = .agg y.cells := by
  cases y <;> first | rfl | cases h
theorem cell_of {y : D} (h : y.isAgg = false) : y.cells = [y] := by
  cases y <;> first | rfl | cases h

theorem len63 {n : Nat} (h : n ≤ maxLen) : n < 9223372036854775808 := by
  unfold maxLen at h; omega

def Ints (l : List Int) : Prop := l.length < 9223372036854775808 ∧ ∀ n ∈ l, I64 n
theorem ints_of {x : D} (h : okLf (.sl false [.int .i64]) x) : ∃ l, x = intsD true l ∧ Ints l := by
  obtain ⟨xs, rfl, h1, h2⟩ := h
  obtain ⟨l, hl, hp⟩ := list_of (f := intD) (p := I64) (xs := xs) fun y hy => by
    obtain ⟨a1, a2⟩ := h2 y hy
    rw [cell_of a1] at a2
    obtain ⟨d, r, e1, ⟨n, e2, e3⟩, _⟩ := a2
    cases e1
    exact ⟨n, e2, i64_of e3⟩
  subst hl
  exact ⟨l, rfl, by simpa using len63 h1, hp⟩

def PartOK (p : PartT) : Prop := I64 p.op ∧ I64 p.arg ∧ I64 p.work
def EdgeOK (e : EdgeT) : Prop := I64 e.src ∧ I64 e.dst
def FutureOK (f : FutureT) : Prop := I64 f.maker ∧ I64 f.user ∧ I64 f.pos
def BarrierOK (b : BarrierT) : Prop := Ints b.ins ∧ Ints b.outs
/-- a task that may come in -/
structure DescOK (d : DescT) : Prop where
  period : I64 d.period
  deadline : I64 d.deadline
  pl : d.parts.length < 9223372036854775808
  p : ∀ x ∈ d.parts, PartOK x
  el : d.edges.length < 9223372036854775808
  e : ∀ x ∈ d.edges, EdgeOK x
  fl : d.futures.length < 9223372036854775808
  f : ∀ x ∈ d.futures, FutureOK x
  bl : d.barriers.length < 9223372036854775808
  b : ∀ x ∈ d.barriers, BarrierOK x

theorem aggs_of {x : D} {els : List Lf} {α : Type} {f : α → D} {p : α → Prop} (h : okLf (.sl true els) x) (hf : ∀ cs, okLfs els cs → ∃ a, D.agg cs = f a ∧ p a) : ∃ l : List α, x = .list true (l.map f) ∧ l.length < 9223372036854775808 ∧ ∀ a ∈ l, p a := by
  obtain ⟨xs, rfl, h1, h2⟩ := h
  obtain ⟨l, hl, hp⟩ := list_of (f := f) (p := p) (xs := xs) fun y hy => by
    obtain ⟨a1, a2⟩ := h2 y hy
    rw [agg_of (n := 0) a1]
    exact hf _ a2
  subst hl
  exact ⟨l, rfl, by simpa using len63 h1, hp⟩

abbrev descL : List Lf := [.int .i64, .int .i64, .sl true [.int .i64, .int .i64, .int .i64], .sl true [.int .i64, .int .i64], .sl true [.int .i64, .int .i64, .int .i64], .sl true [.sl false [.int .i64], .sl false [.int .i64]]]
theorem desc_of {xs : List D} (h : okLfs descL xs) : ∃ d, D.agg xs = descD true d ∧ DescOK d := by
  obtain ⟨x1, r1, rfl, ⟨n1, rfl, w1⟩, x2, r2, rfl, ⟨n2, rfl, w2⟩, x3, r3, rfl, h3, x4, r4, rfl, h4, x5, r5, rfl, h5, x6, r6, rfl, h6, rfl⟩ := h
  obtain ⟨l3, rfl, b3, p3⟩ := aggs_of (f := partD) (p := PartOK) h3 fun cs hc => by
    obtain ⟨_, _, rfl, ⟨a, rfl, wa⟩, _, _, rfl, ⟨b, rfl, wb⟩, _, _, rfl, ⟨c, rfl, wc⟩, rfl⟩ := hc
    exact ⟨⟨a, b, c⟩, rfl, i64_of wa, i64_of wb, i64_of wc⟩
  obtain ⟨l4, rfl, b4, p4⟩ := aggs_of (f := edgeD) (p := EdgeOK) h4 fun cs hc => by
    obtain ⟨_, _, rfl, ⟨a, rfl, wa⟩, _, _, rfl, ⟨b, rfl, wb⟩, rfl⟩ := hc
    exact ⟨⟨a, b⟩, rfl, i64_of wa, i64_of wb⟩
  obtain ⟨l5, rfl, b5, p5⟩ := aggs_of (f := futureD) (p := FutureOK) h5 fun cs hc => by
    obtain ⟨_, _, rfl, ⟨a, rfl, wa⟩, _, _, rfl, ⟨b, rfl, wb⟩, _, _, rfl, ⟨c, rfl, wc⟩, rfl⟩ := hc
    exact ⟨⟨a, b, c⟩, rfl, i64_of wa, i64_of wb, i64_of wc⟩
  obtain ⟨l6, rfl, b6, p6⟩ := aggs_of (f := barrierD) (p := BarrierOK) h6 fun cs hc => by
    obtain ⟨_, _, rfl, ha, _, _, rfl, hb, rfl⟩ := hc
    obtain ⟨a, rfl, wa⟩ := ints_of ha
    obtain ⟨b, rfl, wb⟩ := ints_of hb
    exact ⟨⟨a, b⟩, rfl, wa, wb⟩
  exact ⟨⟨n1, n2, l3, l4, l5, l6⟩, rfl, i64_of w1, i64_of w2, b3, p3, b4, p4, b5, p5, b6, p6⟩
theorem int_of {xs : List D} (h : okLfs [.int .i64] xs) : ∃ n, parD false xs = intD n ∧ I64 n := by
  obtain ⟨_, _, rfl, ⟨n, rfl, w⟩, rfl⟩ := h
  exact ⟨n, rfl, i64_of w⟩
end Go.Proofs.YtljgncbdagmeeaaDoorE
