/- DescCounts: part 2 of 7 of the proof. -/
import Derived.Test.YtakebhleglnpjaaDoorZDescCountsa
import Derived.Below
import Derived.WalkKit
import Derived.Laws.MakeOwn
import Derived.ArgAppend
namespace Go.Proofs.YtakebhleglnpjaaDoorE
open Go
set_option linter.unusedVariables false
set_option linter.unusedSimpArgs false
mutual
def DenD (A1 A0 AL : Nat → Prop) (w : World) : D → Value → Prop
  | .bool b, u => u = .bool b
  | .int k n, u => u = .int k n
  | .str s, u => u = .string s
  | .list own xs, u => ∃ a len cap, u = .slice a len cap ∧ len = xs.length ∧ len ≤ cap ∧ (∀ x ∈ xs, x.esc = true) ∧
      (xs ≠ [] → ∃ b off sz, a = some ⟨b, off, none⟩ ∧ (match own with | true => A1 b | false => A0 b) ∧ b < w.heap.size ∧ DenEls A1 A0 AL w b sz off xs)
  | .agg cs, u => ∃ us : List Value, u = .agg us.toArray ∧ DenDs A1 A0 AL w cs us
  | .tup cs, u => ∃ us : List Value, u = .tuple us.toArray ∧ DenDs A1 A0 AL w cs us
  | .fn f caps, u => ∃ us : List Value, u = .func (.func f) #[] us.toArray ∧ DenDs A1 AL AL w caps us
  | .nilfn, u => u = .nilFunc
  | .rptr cs, u => ∃ b off, u = .pointer (some ⟨b, off, none⟩) ∧ A0 b ∧ b < w.heap.size ∧ DenCells A1 A0 AL w b off cs
  | .nilp, u => u = .pointer none
  | .iface t v, u => ∃ u', u = .iface t u' ∧ DenD A1 A0 AL w v u'
  | .nilI, u => u = .nilIface
def DenDs (A1 A0 AL : Nat → Prop) (w : World) : List D → List Value → Prop
  | [], us => us = []
  | x :: xs, us => ∃ u us', us = u :: us' ∧ DenD A1 A0 AL w x u ∧ DenDs A1 A0 AL w xs us'
def DenCells (A1 A0 AL : Nat → Prop) (w : World) (b off : Nat) : List D → Prop
  | [] => True
  | x :: xs => (∃ u, w.cell? ⟨b, off, none⟩ = some u ∧ DenD A1 A0 AL w x u) ∧ DenCells A1 A0 AL w b (off + 1) xs
def DenEls (A1 A0 AL : Nat → Prop) (w : World) (b sz off : Nat) : List D → Prop
  | [] => True
  | x :: xs => (∃ u, DenD A1 A0 AL w x u ∧ u.cells.size = sz ∧ ∀ k v, u.cells[k]? = some v → w.cell? ⟨b, off + k, none⟩ = some v) ∧ DenEls A1 A0 AL w b sz (off + sz) xs
end
section
variable {A1 A1' A0 A0' AL AL' : Nat → Prop} {w w' : World}
theorem cell_same {b : Nat} (h : w'.heap[b]? = w.heap[b]?) (off : Nat) : w'.cell? ⟨b, off, none⟩ = w.cell? ⟨b, off, none⟩ := by
  unfold World.cell?; simp only [h]
mutual
theorem DenD.change (A1 A1' A0 A0' : Nat → Prop) (h1 : ∀ b, b < w.heap.size → A1 b → A1' b) (h0 : ∀ b, b < w.heap.size → A0 b → A0' b) (hL : ∀ b, b < w.heap.size → AL b → AL' b)
    (hw : ∀ b, b < w.heap.size → AL b → w'.heap[b]? = w.heap[b]?) (hs : w.heap.size ≤ w'.heap.size) (s0 : ∀ b, A0 b → AL b) (s1 : ∀ b, A1 b → AL b) :
    ∀ (x : D) (u : Value), DenD A1 A0 AL w x u → DenD A1' A0' AL' w' x u
  | .bool b, u, h => h
  | .int k n, u, h => h
  | .str s, u, h => h
  | .list own xs, u, h => by
    obtain ⟨a, len, cap, e1, e2, e3, e4, e5⟩ := h
    refine ⟨a, len, cap, e1, e2, e3, e4, fun hne => ?_⟩
    obtain ⟨b, off, sz, f1, f2, f3, f4⟩ := e5 hne
    have hb : AL b := by
      cases own
      · exact s0 _ f2
      · exact s1 _ f2
    refine ⟨b, off, sz, f1, ?_, by omega, DenEls.change A1 A1' A0 A0' h1 h0 hL hw hs s0 s1 b sz off xs (hw b f3 hb) f4⟩
    cases own
    · exact h0 _ f3 f2
    · exact h1 _ f3 f2
  | .agg cs, u, h => by
    obtain ⟨us, e1, e2⟩ := h
    exact ⟨us, e1, DenDs.change A1 A1' A0 A0' h1 h0 hL hw hs s0 s1 cs us e2⟩
  | .tup cs, u, h => by
    obtain ⟨us, e1, e2⟩ := h
    exact ⟨us, e1, DenDs.change A1 A1' A0 A0' h1 h0 hL hw hs s0 s1 cs us e2⟩
  | .fn f caps, u, h => by
    obtain ⟨us, e1, e2⟩ := h
    exact ⟨us, e1, DenDs.change A1 A1' AL AL' h1 hL hL hw hs (fun _ h => h) s1 caps us e2⟩
  | .nilfn, u, h => h
  | .rptr cs, u, h => by
    obtain ⟨b, off, e1, e2, e3, e4⟩ := h
    exact ⟨b, off, e1, h0 _ e3 e2, by omega, DenCells.change A1 A1' A0 A0' h1 h0 hL hw hs s0 s1 b off cs (hw b e3 (s0 _ e2)) e4⟩
  | .nilp, u, h => h
  | .iface t v, u, h => by
    obtain ⟨u', e1, e2⟩ := h
    exact ⟨u', e1, DenD.change A1 A1' A0 A0' h1 h0 hL hw hs s0 s1 v u' e2⟩
  | .nilI, u, h => h
theorem DenDs.change (A1 A1' A0 A0' : Nat → Prop) (h1 : ∀ b, b < w.heap.size → A1 b → A1' b) (h0 : ∀ b, b < w.heap.size → A0 b → A0' b) (hL : ∀ b, b < w.heap.size → AL b → AL' b)
    (hw : ∀ b, b < w.heap.size → AL b → w'.heap[b]? = w.heap[b]?) (hs : w.heap.size ≤ w'.heap.size) (s0 : ∀ b, A0 b → AL b) (s1 : ∀ b, A1 b → AL b) :
    ∀ (xs : List D) (us : List Value), DenDs A1 A0 AL w xs us → DenDs A1' A0' AL' w' xs us
  | [], us, h => h
  | x :: xs, us, h => by
    obtain ⟨u, us', e1, e2, e3⟩ := h
    exact ⟨u, us', e1, DenD.change A1 A1' A0 A0' h1 h0 hL hw hs s0 s1 x u e2, DenDs.change A1 A1' A0 A0' h1 h0 hL hw hs s0 s1 xs us' e3⟩
theorem DenCells.change (A1 A1' A0 A0' : Nat → Prop) (h1 : ∀ b, b < w.heap.size → A1 b → A1' b) (h0 : ∀ b, b < w.heap.size → A0 b → A0' b) (hL : ∀ b, b < w.heap.size → AL b → AL' b)
    (hw : ∀ b, b < w.heap.size → AL b → w'.heap[b]? = w.heap[b]?) (hs : w.heap.size ≤ w'.heap.size) (s0 : ∀ b, A0 b → AL b) (s1 : ∀ b, A1 b → AL b) (b off : Nat) :
    ∀ (xs : List D), w'.heap[b]? = w.heap[b]? → DenCells A1 A0 AL w b off xs → DenCells A1' A0' AL' w' b off xs
  | [], _, h => trivial
  | x :: xs, hb, h => by
    obtain ⟨⟨u, e1, e2⟩, e3⟩ := h
    exact ⟨⟨u, by rw [cell_same hb]; exact e1, DenD.change A1 A1' A0 A0' h1 h0 hL hw hs s0 s1 x u e2⟩, DenCells.change A1 A1' A0 A0' h1 h0 hL hw hs s0 s1 b (off + 1) xs hb e3⟩
theorem DenEls.change (A1 A1' A0 A0' : Nat → Prop) (h1 : ∀ b, b < w.heap.size → A1 b → A1' b) (h0 : ∀ b, b < w.heap.size → A0 b → A0' b) (hL : ∀ b, b < w.heap.size → AL b → AL' b)
    (hw : ∀ b, b < w.heap.size → AL b → w'.heap[b]? = w.heap[b]?) (hs : w.heap.size ≤ w'.heap.size) (s0 : ∀ b, A0 b → AL b) (s1 : ∀ b, A1 b → AL b) (b sz off : Nat) :
    ∀ (xs : List D), w'.heap[b]? = w.heap[b]? → DenEls A1 A0 AL w b sz off xs → DenEls A1' A0' AL' w' b sz off xs
  | [], _, h => trivial
  | x :: xs, hb, h => by
    obtain ⟨⟨u, e1, e2, e3⟩, e4⟩ := h
    exact ⟨⟨u, DenD.change A1 A1' A0 A0' h1 h0 hL hw hs s0 s1 x u e1, e2, fun k v hk => by rw [cell_same hb]; exact e3 k v hk⟩,
      DenEls.change A1 A1' A0 A0' h1 h0 hL hw hs s0 s1 b sz (off + sz) xs hb e4⟩
end
mutual
theorem DenD.lift (h1 : ∀ b, A1 b → A1' b) : ∀ (x : D) (u : Value), x.esc = true → DenD A1 A0 AL w x u → DenD A1' A0' AL' w x u
  | .bool b, u, _, h => h
  | .int k n, u, _, h => h
  | .str s, u, _, h => h
  | .list own xs, u, he, h => by
    obtain ⟨a, len, cap, e1, e2, e3, e4, e5⟩ := h
    simp only [D.esc] at he
    subst he
    refine ⟨a, len, cap, e1, e2, e3, e4, fun hne => ?_⟩
    obtain ⟨b, off, sz, f1, f2, f3, f4⟩ := e5 hne
    exact ⟨b, off, sz, f1, h1 _ f2, f3, DenEls.lift h1 b sz off xs e4 f4⟩
  | .agg cs, u, he, h => by
    obtain ⟨us, e1, e2⟩ := h
    exact ⟨us, e1, DenDs.lift h1 cs us he e2⟩
  | .tup cs, u, he, h => by simp [D.esc] at he
  | .fn f caps, u, he, h => by
    obtain ⟨us, e1, e2⟩ := h
    simp only [D.esc, List.isEmpty_iff] at he
    subst he
    exact ⟨us, e1, e2⟩
  | .nilfn, u, _, h => h
  | .rptr cs, u, he, h => by simp [D.esc] at he
  | .nilp, u, _, h => h
  | .iface t v, u, he, h => by
    obtain ⟨u', e1, e2⟩ := h
    exact ⟨u', e1, DenD.lift h1 v u' he e2⟩
  | .nilI, u, _, h => h
theorem DenDs.lift (h1 : ∀ b, A1 b → A1' b) : ∀ (xs : List D) (us : List Value), D.escs xs = true → DenDs A1 A0 AL w xs us → DenDs A1' A0' AL' w xs us
  | [], us, _, h => h
  | x :: xs, us, he, h => by
    obtain ⟨u, us', e1, e2, e3⟩ := h
    simp only [D.escs, Bool.and_eq_true] at he
    exact ⟨u, us', e1, DenD.lift h1 x u he.1 e2, DenDs.lift h1 xs us' he.2.2 e3⟩
theorem DenEls.lift (h1 : ∀ b, A1 b → A1' b) (b sz off : Nat) : ∀ (xs : List D), (∀ x ∈ xs, x.esc = true) → DenEls A1 A0 AL w b sz off xs → DenEls A1' A0' AL' w b sz off xs
  | [], _, h => trivial
  | x :: xs, he, h => by
    obtain ⟨⟨u, e1, e2, e3⟩, e4⟩ := h
    exact ⟨⟨u, DenD.lift h1 x u (he x (by simp)) e1, e2, e3⟩, DenEls.lift h1 b sz (off + sz) xs (fun y hy => he y (by simp [hy])) e4⟩
end
end
theorem DenDs.liftT {A1 A1' A0 A0' AL AL' : Nat → Prop} {w : World} (h1 : ∀ b, A1 b → A1' b) : ∀ (xs : List D) (us : List Value), escT xs = true → DenDs A1 A0 AL w xs us → DenDs A1' A0' AL' w xs us
  | [], us, _, h => h
  | x :: xs, us, he, h => by
    obtain ⟨u, us', e1, e2, e3⟩ := h
    simp only [escT, Bool.and_eq_true] at he
    exact ⟨u, us', e1, DenD.lift h1 x u he.1 e2, DenDs.liftT h1 xs us' he.2 e3⟩
theorem nth_eq {α : Type} : ∀ (l : List α) (n : Nat), nth l n = l[n]?
  | [], n => by simp [nth]
  | a :: l, 0 => by simp [nth]
  | a :: l, n + 1 => by simp [nth, nth_eq l n]
theorem setAt_eq {α : Type} : ∀ (l : List α) (n : Nat) (v : α), setAt l n v = l.set n v
  | [], n, v => by simp [setAt]
  | a :: l, 0, v => by simp [setAt]
  | a :: l, n + 1, v => by simp [setAt, setAt_eq l n v]
theorem getI_eq {α : Type} (l : List α) (i : Int) (x : α) (h : getI l i = some x) : 0 ≤ i ∧ i < l.length ∧ l[i.toNat]? = some x := by
  unfold getI at h
  by_cases h0 : 0 ≤ i
  · simp only [h0, decide_true, cond_true, nth_eq] at h
    have := (List.getElem?_eq_some_iff.1 h).1
    exact ⟨h0, by omega, h⟩
  · simp [h0] at h
section
variable {A1 A0 AL : Nat → Prop} {w : World}
theorem denEls_at {b sz : Nat} : ∀ (xs : List D) (off j : Nat) (x : D), DenEls A1 A0 AL w b sz off xs → xs[j]? = some x →
    ∃ u, DenD A1 A0 AL w x u ∧ u.cells.size = sz ∧ ∀ k v, u.cells[k]? = some v → w.cell? ⟨b, off + j * sz + k, none⟩ = some v
  | [], off, j, x, _, hj => by simp at hj
  | y :: xs, off, 0, x, h, hj => by
    simp at hj; subst hj
    obtain ⟨⟨u, e1, e2, e3⟩, _⟩ := h
    exact ⟨u, e1, e2, by simpa using e3⟩
  | y :: xs, off, j + 1, x, h, hj => by
    obtain ⟨u, e1, e2, e3⟩ := denEls_at xs (off + sz) j x h.2 (by simpa using hj)
    exact ⟨u, e1, e2, fun k v hk => by rw [← e3 k v hk]; congr 2; rw [Nat.succ_mul]; omega⟩
theorem denEls_mk {b sz : Nat} : ∀ (xs : List D) (off : Nat), (∀ (j : Nat) x, xs[j]? = some x → ∃ u, DenD A1 A0 AL w x u ∧ u.cells.size = sz ∧ ∀ k v, u.cells[k]? = some v → w.cell? ⟨b, off + j * sz + k, none⟩ = some v) →
    DenEls A1 A0 AL w b sz off xs
  | [], off, _ => trivial
  | y :: xs, off, h => by
    refine ⟨by simpa using h 0 y (by simp), denEls_mk xs (off + sz) fun j x hj => ?_⟩
    obtain ⟨u, e1, e2, e3⟩ := h (j + 1) x (by simpa using hj)
    exact ⟨u, e1, e2, fun k v hk => by rw [← e3 k v hk]; congr 2; rw [Nat.succ_mul]; omega⟩
theorem denCells_at {b : Nat} : ∀ (xs : List D) (off j : Nat) (x : D), DenCells A1 A0 AL w b off xs → xs[j]? = some x → ∃ u, w.cell? ⟨b, off + j, none⟩ = some u ∧ DenD A1 A0 AL w x u
  | [], off, j, x, _, hj => by simp at hj
  | y :: xs, off, 0, x, h, hj => by simp at hj; subst hj; simpa using h.1
  | y :: xs, off, j + 1, x, h, hj => by
    have := denCells_at xs (off + 1) j x h.2 (by simpa using hj)
    rwa [show off + 1 + j = off + (j + 1) from by omega] at this
theorem denCells_mk {b : Nat} : ∀ (xs : List D) (off : Nat), (∀ (j : Nat) x, xs[j]? = some x → ∃ u, w.cell? ⟨b, off + j, none⟩ = some u ∧ DenD A1 A0 AL w x u) → DenCells A1 A0 AL w b off xs
  | [], off, _ => trivial
  | y :: xs, off, h => ⟨by simpa using h 0 y (by simp), denCells_mk xs (off + 1) fun j x hj => by
      have := h (j + 1) x (by simpa using hj)
      rwa [show off + (j + 1) = off + 1 + j from by omega] at this⟩
theorem denCells_drop {b : Nat} (xs : List D) (off n : Nat) (h : DenCells A1 A0 AL w b off xs) : DenCells A1 A0 AL w b (off + n) (xs.drop n) :=
  denCells_mk _ _ fun j x hj => by
    have := denCells_at xs off (n + j) x h (by simpa using hj)
    rwa [← Nat.add_assoc] at this
theorem denDs_at : ∀ (xs : List D) (us : List Value) (j : Nat) (x : D), DenDs A1 A0 AL w xs us → xs[j]? = some x → ∃ u, us[j]? = some u ∧ DenD A1 A0 AL w x u
  | [], us, j, x, _, hj => by simp at hj
  | y :: xs, us, 0, x, h, hj => by
    obtain ⟨u, us', rfl, e1, e2⟩ := h
    simp at hj; subst hj
    exact ⟨u, by simp, e1⟩
  | y :: xs, us, j + 1, x, h, hj => by
    obtain ⟨u, us', rfl, e1, e2⟩ := h
    simpa using denDs_at xs us' j x e2 (by simpa using hj)
theorem denDs_len : ∀ (xs : List D) (us : List Value), DenDs A1 A0 AL w xs us → us.length = xs.length
  | [], us, h => by simp only [DenDs] at h; subst h; rfl
  | y :: xs, us, h => by
    obtain ⟨u, us', rfl, e1, e2⟩ := h
    simp [denDs_len xs us' e2]
theorem denDs_mk : ∀ (xs : List D) (us : List Value), us.length = xs.length → (∀ (j : Nat) x u, xs[j]? = some x → us[j]? = some u → DenD A1 A0 AL w x u) → DenDs A1 A0 AL w xs us
  | [], us, hl, _ => by simpa [DenDs] using hl
  | y :: xs, [], hl, _ => by simp at hl
  | y :: xs, u :: us, hl, h => ⟨u, us, rfl, h 0 y u rfl rfl, denDs_mk xs us (by simpa using hl) fun j x v hx hv => h (j + 1) x v (by simpa using hx) (by simpa using hv)⟩
end
structure RP where
  B1 : Nat → Prop
  B0 : Nat → Prop
  M : Nat → Option (Option Nat)
  H : Heap
def RP.live (R : RP) (c : Nat) : Prop := ∃ i, isLive R.H i = true ∧ R.M i = some (some c)
def RP.AL (R : RP) (c : Nat) : Prop := ¬ R.live c
def RP.A0 (R : RP) (c : Nat) : Prop := ¬ R.live c ∧ ¬ R.B0 c
def RP.A1 (R : RP) (c : Nat) : Prop := ¬ R.live c ∧ ¬ R.B1 c
abbrev RP.den (R : RP) (w : World) (x : D) (u : Value) : Prop := DenD R.A1 R.A0 R.AL w x u
def SlAt (w : World) (m : Option Nat) (xs : List D) (sz o len : Nat) (u : Value) : Prop :=
  o + len ≤ xs.length ∧ ∃ a cap, u = .slice a len cap ∧ len ≤ cap ∧
    ((cap = 0 ∧ o = xs.length) ∨ ∃ c cs el fr, m = some c ∧ a = some ⟨c, o * sz, none⟩ ∧ w.heap[c]? = some (.cells cs el fr) ∧ cs.size = (o + cap) * sz)
mutual
def DenV (R : RP) (w : World) : V → Value → Prop
  | .d x, u => R.den w x u
  | .bad, _ => True
  | .ptr b o, u => (∃ a, u = .pointer a) ∧ ∃ m, R.M b = some m ∧ ∀ cs, nth R.H b = some (.cells cs) → ∃ c, m = some c ∧ u = .pointer (some ⟨c, o, none⟩)
  | .eptr b sz i k, u => (∃ a, u = .pointer a) ∧ ∃ m, R.M b = some m ∧ ∀ xs, nth R.H b = some (.arr sz xs) → ∃ c, m = some c ∧ u = .pointer (some ⟨c, i * sz + k, none⟩)
  | .sl b sz, u => (∃ a n c, u = .slice a n c) ∧ ∃ m, R.M b = some m ∧ ∀ xs, nth R.H b = some (.arr sz xs) → SlAt w m xs sz 0 xs.length u
  | .slp b sz o len, u => (∃ a n c, u = .slice a n c) ∧ ∃ m, R.M b = some m ∧ ∀ xs, nth R.H b = some (.arr sz xs) → SlAt w m xs sz o len u
  | .nilsl _, u => ∃ a, u = .slice a 0 0
  | .agg cs, u => ∃ us : List Value, u = .agg us.toArray ∧ DenVs R w cs us
  | .tup cs, u => ∃ us : List Value, u = .tuple us.toArray ∧ DenVs R w cs us
  | .fn f caps, u => ∃ us : List Value, u = .func (.func f) #[] us.toArray ∧ DenVs R w caps us
  | .mp b, u => (∃ a, u = .map a) ∧ ∃ m, R.M b = some m ∧ ∀ es, nth R.H b = some (.mp es) → ∃ c, m = some c ∧ u = .map (some c)
def DenVs (R : RP) (w : World) : List V → List Value → Prop
  | [], us => us = []
  | x :: xs, us => ∃ u us', us = u :: us' ∧ DenV R w x u ∧ DenVs R w xs us'
end
end Go.Proofs.YtakebhleglnpjaaDoorE

namespace Go.Proofs.YtakebhleglnpjaaDoorE
open Go
set_option linter.unusedVariables false
set_option linter.unusedSimpArgs false
def Unfz (fr : Nat × Nat) : Prop := fr.2 ≤ fr.1
theorem Unfz.not {w : World} {c : Nat} {cs : Array Value} {el : TypeId} {fr : Nat × Nat} (h : Unfz fr) (hc : w.heap[c]? = some (.cells cs el fr)) (o : Nat) : w.frozen? ⟨c, o, none⟩ = false := by
  unfold Unfz at h
  simp only [World.frozen?, hc]
  by_cases h1 : fr.1 ≤ o
  · by_cases h2 : o < fr.2
    · omega
    · simp [h2]
  · simp [h1]
def BlkOK (R : RP) (w : World) (m : Option Nat) : Blk → Prop
  | .dead => True
  | .cells vs => ∃ c cs el fr, m = some c ∧ w.heap[c]? = some (.cells cs el fr) ∧ Unfz fr ∧ vs.length ≤ cs.size ∧ ∀ (k : Nat) v, vs[k]? = some v → ∃ u, cs[k]? = some u ∧ DenV R w v u
  | .arr sz xs => 0 < sz ∧ (∀ x ∈ xs, x.esc = true) ∧ ((m = none ∧ xs = []) ∨ ∃ c cs el, m = some c ∧ w.heap[c]? = some (.cells cs el (0, 0)) ∧ xs.length * sz ≤ cs.size ∧
      ∀ (j : Nat) x, xs[j]? = some x → ∃ u, R.den w x u ∧ u.cells.size = sz ∧ ∀ (k : Nat) v, u.cells[k]? = some v → cs[j * sz + k]? = some v)
  | .mp _ => False
structure RP.OK (R : RP) (w : World) : Prop where
  b01 : ∀ c, R.B0 c → R.B1 c
  al : ∀ (i : Nat) blk, R.H[i]? = some blk → blk ≠ .dead → ∃ m, R.M i = some m
  inj : ∀ i j c, isLive R.H i = true → isLive R.H j = true → R.M i = some (some c) → R.M j = some (some c) → i = j
  lt : ∀ i c, R.M i = some (some c) → c < w.heap.size
  blk : ∀ (i : Nat) m blk, R.H[i]? = some blk → R.M i = some m → BlkOK R w m blk
  nb : ∀ i c, isLive R.H i = true → R.M i = some (some c) → ¬ R.B1 c
  bl : ∀ c, R.B1 c → c < w.heap.size
theorem isLive_iff {H : Heap} {i : Nat} : isLive H i = true ↔ ∃ blk, H[i]? = some blk ∧ blk ≠ .dead := by
  unfold isLive
  rw [nth_eq]
  cases h : H[i]? with
  | none => simp
  | some blk => cases blk <;> simp
def Blk.like : Blk → Blk → Prop
  | .cells _, .cells _ => True
  | .arr sz xs, .arr sz' ys => sz = sz' ∧ ys.length = xs.length
  | .mp _, .mp _ => True
  | _, _ => False
structure Ext (R : RP) (w : World) (R' : RP) (w' : World) : Prop where
  m : ∀ i x, R.M i = some x → R'.M i = some x
  h : ∀ (i : Nat) x blk, R.M i = some x → R'.H[i]? = some blk → blk ≠ .dead → ∃ old, R.H[i]? = some old ∧ old.like blk
  b1 : R'.B1 = R.B1
  b0 : R'.B0 = R.B0
  same : ∀ (b : Nat), b < w.heap.size → ¬ R.live b → w'.heap[b]? = w.heap[b]?
  row : ∀ (b : Nat) cs el fr, w.heap[b]? = some (Obj.cells cs el fr) → ∃ cs' el' fr', w'.heap[b]? = some (Obj.cells cs' el' fr') ∧ cs'.size = cs.size
  grow : w.heap.size ≤ w'.heap.size
  liv : ∀ c, c < w.heap.size → R'.live c → R.live c
  os : w'.os = w.os
  tape : w'.tape = w.tape
  output : w'.output = w.output
theorem Blk.like_refl {b : Blk} (h : b ≠ .dead) : b.like b := by cases b <;> simp_all [Blk.like]
theorem Ext.refl (R : RP) (w : World) : Ext R w R w :=
  ⟨fun _ _ h => h, fun i x blk _ h hd => ⟨blk, h, Blk.like_refl hd⟩, rfl, rfl, fun _ _ _ => rfl, fun _ cs el fr h => ⟨cs, el, fr, h, rfl⟩, Nat.le_refl _, fun _ _ h => h, rfl, rfl, rfl⟩
theorem Blk.like_trans {a b c : Blk} (h : a.like b) (k : b.like c) : a.like c := by
  cases a <;> cases b <;> cases c <;> simp_all [Blk.like]
theorem Blk.like_ne {a b : Blk} (h : a.like b) : a ≠ .dead := by cases a <;> cases b <;> simp_all [Blk.like]
theorem Ext.trans {R R1 R2 : RP} {w w1 w2 : World} (h : Ext R w R1 w1) (k : Ext R1 w1 R2 w2) : Ext R w R2 w2 where
  m := fun i x hx => k.m i x (h.m i x hx)
  h := fun i x blk hx hb hd => by
    obtain ⟨o1, e1, e2⟩ := k.h i x blk (h.m i x hx) hb hd
    obtain ⟨o, f1, f2⟩ := h.h i x o1 hx e1 (Blk.like_ne e2)
    exact ⟨o, f1, Blk.like_trans f2 e2⟩
  b1 := k.b1.trans h.b1
  b0 := k.b0.trans h.b0
  same := fun b hb hl => (k.same b (Nat.lt_of_lt_of_le hb h.grow) (fun hl' => hl (h.liv b hb hl'))).trans (h.same b hb hl)
  row := fun b cs el fr hb => by
    obtain ⟨cs1, el1, fr1, e1, e2⟩ := h.row b cs el fr hb
    obtain ⟨cs2, el2, fr2, f1, f2⟩ := k.row b cs1 el1 fr1 e1
    exact ⟨cs2, el2, fr2, f1, f2.trans e2⟩
  grow := Nat.le_trans h.grow k.grow
  liv := fun c hc hl => h.liv c hc (k.liv c (Nat.lt_of_lt_of_le hc h.grow) hl)
  os := k.os.trans h.os
  tape := k.tape.trans h.tape
  output := k.output.trans h.output
section
variable {R R' : RP} {w w' : World}
theorem Ext.den (e : Ext R w R' w') (hb : ∀ c, R.B0 c → R.B1 c) {x : D} {u : Value} (h : R.den w x u) : R'.den w' x u := by
  refine DenD.change _ _ _ _ ?_ ?_ ?_ ?_ e.grow ?_ ?_ x u h
  · exact fun b hb' ⟨h1, h2⟩ => ⟨fun hl => h1 (e.liv b hb' hl), by rw [e.b1]; exact h2⟩
  · exact fun b hb' ⟨h1, h2⟩ => ⟨fun hl => h1 (e.liv b hb' hl), by rw [e.b0]; exact h2⟩
  · exact fun b hb' h1 hl => h1 (e.liv b hb' hl)
  · exact fun b hb' hl => e.same b hb' hl
  · exact fun b h => h.1
  · exact fun b h => h.1
theorem Ext.slAt (e : Ext R w R' w') {m : Option Nat} {xs ys : List D} {sz o len : Nat} {u : Value} (hl : ys.length = xs.length) (h : SlAt w m xs sz o len u) : SlAt w' m ys sz o len u := by
  obtain ⟨h1, a, cap, h2, h3, h4⟩ := h
  refine ⟨by omega, a, cap, h2, h3, ?_⟩
  rcases h4 with ⟨h4, h5⟩ | ⟨c, cs, el, fr, h4, h5, h6, h7⟩
  · exact .inl ⟨h4, by omega⟩
  · obtain ⟨cs', el', fr', f1, f2⟩ := e.row c cs el fr h6
    exact .inr ⟨c, cs', el', fr', h4, h5, f1, by omega⟩
mutual
theorem Ext.denV (e : Ext R w R' w') (hb : ∀ c, R.B0 c → R.B1 c) : ∀ (v : V) (u : Value), DenV R w v u → DenV R' w' v u
  | .d x, u, h => e.den hb h
  | .bad, _, h => h
  | .ptr b o, u, h => by
    obtain ⟨h0, m, h1, h2⟩ := h
    refine ⟨h0, m, e.m b m h1, fun cs hc => ?_⟩
    rw [nth_eq] at hc
    obtain ⟨old, f1, f2⟩ := e.h b m _ h1 hc (by simp)
    cases old <;> simp [Blk.like] at f2
    rename_i cs0
    exact h2 cs0 (by rw [nth_eq]; exact f1)
  | .eptr b sz i k, u, h => by
    obtain ⟨h0, m, h1, h2⟩ := h
    refine ⟨h0, m, e.m b m h1, fun xs hc => ?_⟩
    rw [nth_eq] at hc
    obtain ⟨old, f1, f2⟩ := e.h b m _ h1 hc (by simp)
    cases old <;> simp [Blk.like] at f2
    rename_i sz0 xs0
    obtain ⟨rfl, f2⟩ := f2
    exact h2 xs0 (by rw [nth_eq]; exact f1)
  | .sl b sz, u, h => by
    obtain ⟨h0, m, h1, h2⟩ := h
    refine ⟨h0, m, e.m b m h1, fun xs hc => ?_⟩
    rw [nth_eq] at hc
    obtain ⟨old, f1, f2⟩ := e.h b m _ h1 hc (by simp)
    cases old <;> simp [Blk.like] at f2
    rename_i sz0 xs0
    obtain ⟨rfl, f2⟩ := f2
    have := e.slAt f2 (h2 xs0 (by rw [nth_eq]; exact f1))
    rw [f2]
    exact this
  | .slp b sz o len, u, h => by
    obtain ⟨h0, m, h1, h2⟩ := h
    refine ⟨h0, m, e.m b m h1, fun xs hc => ?_⟩
    rw [nth_eq] at hc
    obtain ⟨old, f1, f2⟩ := e.h b m _ h1 hc (by simp)
    cases old <;> simp [Blk.like] at f2
    rename_i sz0 xs0
    obtain ⟨rfl, f2⟩ := f2
    exact e.slAt f2 (h2 xs0 (by rw [nth_eq]; exact f1))
  | .nilsl sz, u, h => h
  | .agg cs, u, h => by
    obtain ⟨us, h1, h2⟩ := h
    exact ⟨us, h1, Ext.denVs e hb cs us h2⟩
  | .tup cs, u, h => by
    obtain ⟨us, h1, h2⟩ := h
    exact ⟨us, h1, Ext.denVs e hb cs us h2⟩
  | .fn f caps, u, h => by
    obtain ⟨us, h1, h2⟩ := h
    exact ⟨us, h1, Ext.denVs e hb caps us h2⟩
  | .mp b, u, h => by
    obtain ⟨h0, m, h1, h2⟩ := h
    refine ⟨h0, m, e.m b m h1, fun es hc => ?_⟩
    rw [nth_eq] at hc
    obtain ⟨old, f1, f2⟩ := e.h b m _ h1 hc (by simp)
    cases old <;> simp [Blk.like] at f2
    rename_i es0
    exact h2 es0 (by rw [nth_eq]; exact f1)
theorem Ext.denVs (e : Ext R w R' w') (hb : ∀ c, R.B0 c → R.B1 c) : ∀ (vs : List V) (us : List Value), DenVs R w vs us → DenVs R' w' vs us
  | [], us, h => h
  | v :: vs, us, h => by
    obtain ⟨u, us', h1, h2, h3⟩ := h
    exact ⟨u, us', h1, Ext.denV e hb v u h2, Ext.denVs e hb vs us' h3⟩
end
theorem Ext.blkOK (e : Ext R w R' w') (hb : ∀ c, R.B0 c → R.B1 c) {m : Option Nat} {blk : Blk} (hs : ∀ (c : Nat), m = some c → w'.heap[c]? = w.heap[c]?) (h : BlkOK R w m blk) : BlkOK R' w' m blk := by
  cases blk with
  | dead => trivial
  | cells vs =>
    obtain ⟨c, cs, el, fr, h1, h2, h3, h4, h5⟩ := h
    refine ⟨c, cs, el, fr, h1, by rw [hs c h1]; exact h2, h3, h4, fun k v hk => ?_⟩
    obtain ⟨u, f1, f2⟩ := h5 k v hk
    exact ⟨u, f1, e.denV hb v u f2⟩
  | arr sz xs =>
    obtain ⟨h0, h1, h2⟩ := h
    refine ⟨h0, h1, ?_⟩
    rcases h2 with h2 | ⟨c, cs, el, h3, h4, h5, h6⟩
    · exact .inl h2
    · refine .inr ⟨c, cs, el, h3, by rw [hs c h3]; exact h4, h5, fun j x hj => ?_⟩
      obtain ⟨u, f1, f2, f3⟩ := h6 j x hj
      exact ⟨u, e.den hb f1, f2, f3⟩
  | mp es => exact h
end
theorem live_of_same {R R' : RP} (hM : R'.M = R.M) (hH : R'.H = R.H) (c : Nat) : R'.live c ↔ R.live c := by
  unfold RP.live; rw [hM, hH]
theorem Ext.draw {R : RP} {w w' : World} (hh : w'.heap = w.heap) (ho : w'.os = w.os) (ht : w'.tape = w.tape) (hp : w'.output = w.output) : Ext R w R w' :=
  ⟨fun _ _ h => h, fun i x blk _ h hd => ⟨blk, h, Blk.like_refl hd⟩, rfl, rfl, fun _ _ _ => by rw [hh], fun _ cs el fr h => ⟨cs, el, fr, by rw [hh]; exact h, rfl⟩, by rw [hh]; exact Nat.le_refl _, fun _ _ h => h, ho, ht, hp⟩
theorem RP.OK.draw {R : RP} {w w' : World} (h : R.OK w) (hh : w'.heap = w.heap) (ho : w'.os = w.os) (ht : w'.tape = w.tape) (hp : w'.output = w.output) : R.OK w' :=
  ⟨h.b01, h.al, h.inj, fun i c hc => by rw [hh]; exact h.lt i c hc, fun i m blk h1 h2 => (Ext.draw (R := R) hh ho ht hp).blkOK h.b01 (fun c _ => by rw [hh]) (h.blk i m blk h1 h2), h.nb, fun c hc => by rw [hh]; exact h.bl c hc⟩
theorem Ext.new {R : RP} {w : World} {H' : Heap} {n : Nat} {blk : Blk} {m : Option Nat} (o : Obj) (hn : R.M n = none) (hH : ∀ (i : Nat), i ≠ n → H'[i]? = R.H[i]?) (hb : H'[n]? = some blk)
    (hm : m = none ∨ m = some w.heap.size) (lt : ∀ i c, R.M i = some (some c) → c < w.heap.size) (al : ∀ (i : Nat) blk, R.H[i]? = some blk → blk ≠ .dead → ∃ m, R.M i = some m) :
    Ext R w { R with M := fun i => if i = n then some m else R.M i, H := H' } (w.alloc o) where
  m := fun i x hx => by
    have : i ≠ n := fun e => by rw [e, hn] at hx; cases hx
    simp [this, hx]
  h := fun i x blk' hx hb' hd => by
    have : i ≠ n := fun e => by rw [e, hn] at hx; cases hx
    simp only [hH i this] at hb'
    exact ⟨blk', hb', Blk.like_refl hd⟩
  b1 := rfl
  b0 := rfl
  same := fun b hb' _ => Go.RowKit.Below.heap_alloc _ _ _ hb'
  row := fun b cs el fr hb' => by
    have hlt : b < w.heap.size := by
      rcases Nat.lt_or_ge b w.heap.size with h | h
      · exact h
      · rw [Array.getElem?_eq_none h] at hb'; cases hb'
    exact ⟨cs, el, fr, by rw [Go.RowKit.Below.heap_alloc _ _ _ hlt]; exact hb', rfl⟩
  grow := by simp
  liv := fun c hc ⟨i, h1, h2⟩ => by
    by_cases e : i = n
    · subst e
      simp only [if_true] at h2
      rcases hm with h | h
      · rw [h] at h2; cases h2
      · rw [h] at h2; cases h2; omega
    · simp only [e, if_false] at h2
      refine ⟨i, ?_, h2⟩
      rw [isLive_iff] at h1 ⊢
      obtain ⟨b', f1, f2⟩ := h1
      exact ⟨b', by rw [← hH i e]; exact f1, f2⟩
  os := rfl
  tape := rfl
  output := rfl
theorem RP.OK.new {R : RP} {w : World} {H' : Heap} {n : Nat} {blk : Blk} {m : Option Nat} {o : Obj} (h : R.OK w) (hn : R.M n = none) (hH : ∀ (i : Nat), i ≠ n → H'[i]? = R.H[i]?) (hb : H'[n]? = some blk)
    (hm : m = none ∨ m = some w.heap.size)
    (hk : Ext R w { R with M := fun i => if i = n then some m else R.M i, H := H' } (w.alloc o) → BlkOK { R with M := fun i => if i = n then some m else R.M i, H := H' } (w.alloc o) m blk) :
    RP.OK { R with M := fun i => if i = n then some m else R.M i, H := H' } (w.alloc o) := by
  have e := Ext.new (R := R) (w := w) (H' := H') (n := n) (blk := blk) (m := m) o hn hH hb hm h.lt h.al
  refine ⟨h.b01, ?_, ?_, ?_, ?_, ?_, fun c hc => by have := h.bl c hc; simp; omega⟩
  · intro i blk' hi hd
    by_cases ei : i = n
    · exact ⟨m, by simp [ei]⟩
    · simp only [hH i ei] at hi
      obtain ⟨x, hx⟩ := h.al i blk' hi hd
      exact ⟨x, by simp [ei, hx]⟩
  · intro i j c hi hj h1 h2
    simp only at h1 h2
    by_cases ei : i = n <;> by_cases ej : j = n
    · rw [ei, ej]
    · rw [if_pos ei] at h1; rw [if_neg ej] at h2
      have := h.lt j c h2
      rcases hm with h' | h' <;> rw [h'] at h1 <;> cases h1
      omega
    · rw [if_neg ei] at h1; rw [if_pos ej] at h2
      have := h.lt i c h1
      rcases hm with h' | h' <;> rw [h'] at h2 <;> cases h2
      omega
    · rw [if_neg ei] at h1; rw [if_neg ej] at h2
      have l1 : isLive R.H i = true := by rw [isLive_iff] at hi ⊢; obtain ⟨b', f1, f2⟩ := hi; exact ⟨b', by rw [← hH i ei]; exact f1, f2⟩
      have l2 : isLive R.H j = true := by rw [isLive_iff] at hj ⊢; obtain ⟨b', f1, f2⟩ := hj; exact ⟨b', by rw [← hH j ej]; exact f1, f2⟩
      exact h.inj i j c l1 l2 h1 h2
  · intro i c hc
    simp only at hc
    by_cases ei : i = n
    · rw [if_pos ei] at hc
      rcases hm with h' | h' <;> rw [h'] at hc <;> cases hc
      simp
    · rw [if_neg ei] at hc
      have := h.lt i c hc
      simp; omega
  · intro i x blk' hi hx
    simp only at hi hx
    by_cases ei : i = n
    · subst ei
      rw [if_pos rfl] at hx
      cases hx
      rw [hb] at hi
      cases hi
      exact hk e
    · rw [if_neg ei] at hx
      rw [hH i ei] at hi
      refine e.blkOK h.b01 (fun c hc => ?_) (h.blk i x blk' hi hx)
      exact Go.RowKit.Below.heap_alloc _ _ _ (h.lt i c (by rw [hx, hc]))
  · intro i c hl hc hb1
    simp only at hc hb1
    by_cases ei : i = n
    · rw [if_pos ei] at hc
      rcases hm with h' | h' <;> rw [h'] at hc <;> cases hc
      exact absurd (h.bl _ hb1) (by omega)
    · rw [if_neg ei] at hc
      refine h.nb i c ?_ hc hb1
      rw [isLive_iff] at hl ⊢; obtain ⟨b', f1, f2⟩ := hl; exact ⟨b', by rw [← hH i ei]; exact f1, f2⟩
theorem Ext.kill {R : RP} {w : World} {H' : Heap} (hH : ∀ (i : Nat) blk, H'[i]? = some blk → blk ≠ .dead → R.H[i]? = some blk) : Ext R w { R with H := H' } w :=
  ⟨fun _ _ h => h, fun i x blk _ h hd => ⟨blk, hH i blk h hd, Blk.like_refl hd⟩, rfl, rfl, fun _ _ _ => rfl, fun _ cs el fr h => ⟨cs, el, fr, h, rfl⟩, Nat.le_refl _,
    fun c _ ⟨i, h1, h2⟩ => by
      rw [isLive_iff] at h1
      obtain ⟨blk, f1, f2⟩ := h1
      exact ⟨i, isLive_iff.2 ⟨blk, hH i blk f1 f2, f2⟩, h2⟩, rfl, rfl, rfl⟩
theorem RP.OK.kill {R : RP} {w : World} {H' : Heap} (h : R.OK w) (hH : ∀ (i : Nat) blk, H'[i]? = some blk → blk ≠ .dead → R.H[i]? = some blk) : RP.OK { R with H := H' } w := by
  have e := Ext.kill (R := R) (w := w) hH
  have lv : ∀ i, isLive H' i = true → isLive R.H i = true := fun i hi => by
    rw [isLive_iff] at hi ⊢
    obtain ⟨blk, f1, f2⟩ := hi
    exact ⟨blk, hH i blk f1 f2, f2⟩
  refine ⟨h.b01, fun i blk hi hd => h.al i blk (hH i blk hi hd) hd, fun i j c hi hj => h.inj i j c (lv i hi) (lv j hj), h.lt, fun i m blk hi hm => ?_, fun i c hl => h.nb i c (lv i hl), h.bl⟩
  by_cases hd : blk = .dead
  · subst hd; trivial
  · exact e.blkOK h.b01 (fun _ _ => rfl) (h.blk i m blk (hH i blk hi hd) hm)
end Go.Proofs.YtakebhleglnpjaaDoorE

namespace Go.Proofs.YtakebhleglnpjaaDoorE
open Go
set_option linter.unusedVariables false
set_option linter.unusedSimpArgs false
def OpOK (P : Program) (o : Oper) (a : Act) (w : World) (Post : Value → World → Prop) : Prop :=
  (∃ u w', (execOp a.eval o).run P w = .ok (.value u) w' ∧ Post u w') ∨ (∃ w', (execOp a.eval o).run P w = .ok .skip w' ∧ Post undef w') ∨
  (∃ f args w', (execOp a.eval o).run P w = .ok (.enter f args) w' ∧ Calls P f args w' fun e w'' => ∃ u, e = .returned u ∧ Post u w'')
theorem OpOK.wp {P : Program} {o : Oper} {a : Act} {w : World} {Post : Value → World → Prop} {K : Act → World → Prop} {Q : Exit → Act → World → Prop}
    (h : OpOK P o a w Post) (hK : ∀ u w', Post u w' → K (a.put o.dst u) w') : o.wp P a w K Q := by
  unfold Oper.wp
  rcases h with ⟨u, w', h1, h2⟩ | ⟨w', h1, h2⟩ | ⟨f, args, w', h1, h2⟩
  · rw [h1]; exact hK _ _ h2
  · rw [h1]; exact hK _ _ h2
  · rw [h1]
    exact h2.mono fun e w'' ⟨u, he, hp⟩ => by subst he; exact hK _ _ hp
theorem OpOK.val {P : Program} {o : Oper} {a : Act} {w w' : World} {Post : Value → World → Prop} {u : Value} (h : (execOp a.eval o).run P w = .ok (.value u) w') (hp : Post u w') : OpOK P o a w Post :=
  .inl ⟨u, w', h, hp⟩
mutual
def cv : V → Value → Bool
  | .d (.bool a), .bool b => a == b
  | .d (.int k n), .int k' m => k == k' && n == m
  | .d (.str s), .string t => decide (s = t)
  | .d .nilfn, .nilFunc => true
  | .d .nilp, .pointer none => true
  | .d .nilI, .nilIface => true
  | .d (.fn f []), .func (.func g) a b => f == g && a.isEmpty && b.isEmpty
  | .d (.agg ds), .agg us => cds ds us.toList
  | .d (.list _ []), .slice _ n _ => n == 0
  | .nilsl _, .slice _ n c => n == 0 && c == 0
  | .agg vs, .agg us => cvs vs us.toList
  | .bad, _ => true
  | _, _ => false
def cvs : List V → List Value → Bool
  | [], [] => true
  | v :: vs, u :: us => cv v u && cvs vs us
  | _, _ => false
def cds : List D → List Value → Bool
  | [], [] => true
  | .bool a :: ds, .bool b :: us => a == b && cds ds us
  | .int k n :: ds, .int k' m :: us => k == k' && n == m && cds ds us
  | .str s :: ds, .string t :: us => decide (s = t) && cds ds us
  | .nilfn :: ds, .nilFunc :: us => cds ds us
  | .nilp :: ds, .pointer none :: us => cds ds us
  | .nilI :: ds, .nilIface :: us => cds ds us
  | .list _ [] :: ds, .slice _ n _ :: us => n == 0 && cds ds us
  | _, _ => false
end
theorem cds_ok {A1 A0 AL : Nat → Prop} {w : World} : ∀ (ds : List D) (us : List Value), cds ds us = true → DenDs A1 A0 AL w ds us := by
  intro ds
  induction ds with
  | nil => intro us h; cases us <;> simp_all [cds, DenDs]
  | cons x ds ih =>
    intro us h
    cases us with
    | nil => cases x <;> simp_all [cds]
    | cons u us =>
      refine ⟨u, us, rfl, ?_⟩
      cases x with
      | bool a => cases u <;> simp_all [cds, DenD]
      | int k n => cases u <;> simp_all [cds, DenD]
      | str s =>
        cases u <;> simp only [cds, Bool.and_eq_true, decide_eq_true_eq, Bool.false_eq_true] at h
        exact ⟨by rw [h.1]; rfl, ih us h.2⟩
      | nilfn => cases u <;> simp_all [cds, DenD]
      | nilI => cases u <;> simp_all [cds, DenD]
      | nilp =>
        cases u with
        | pointer a => cases a <;> simp_all [cds, DenD]
        | _ => simp_all [cds]
      | list own xs =>
        cases xs with
        | nil =>
          cases u with
          | slice a n c =>
            simp only [cds, Bool.and_eq_true, beq_iff_eq] at h
            obtain ⟨rfl, h⟩ := h
            exact ⟨⟨a, 0, c, rfl, rfl, Nat.zero_le _, by simp, by simp⟩, ih us h⟩
          | _ => simp_all [cds]
        | cons y ys => cases u <;> simp_all [cds]
      | agg cs => cases u <;> simp_all [cds]
      | tup cs => cases u <;> simp_all [cds]
      | fn f cs => cases u <;> simp_all [cds]
      | rptr cs => cases u <;> simp_all [cds]
      | iface t v => cases u <;> simp_all [cds]
mutual
theorem cv_ok {R : RP} {w : World} : ∀ (v : V) (u : Value), cv v u = true → DenV R w v u
  | .bad, _, _ => trivial
  | .nilsl sz, u, h => by
    cases u <;> simp_all [cv, DenV]
  | .agg vs, u, h => by
    cases u <;> simp only [cv] at h <;> try (cases h; done)
    rename_i us
    exact ⟨us.toList, rfl, cvs_ok vs us.toList h⟩
  | .d x, u, h => by
    cases x with
    | bool a => cases u <;> simp_all [cv, DenV, RP.den, DenD]
    | int k n => cases u <;> simp_all [cv, DenV, RP.den, DenD]
    | str s =>
      cases u <;> simp only [cv, decide_eq_true_eq, Bool.false_eq_true] at h
      rw [h]; rfl
    | nilfn => cases u <;> simp_all [cv, DenV, RP.den, DenD]
    | nilI => cases u <;> simp_all [cv, DenV, RP.den, DenD]
    | nilp =>
      cases u with
      | pointer a => cases a <;> simp_all [cv, DenV, RP.den, DenD]
      | _ => simp_all [cv]
    | fn f cs =>
      cases cs with
      | cons => cases u <;> simp_all [cv]
      | nil =>
        cases u with
        | func fn a b =>
          cases fn <;> simp only [cv, Bool.and_eq_true, beq_iff_eq, Array.isEmpty_iff, Bool.false_eq_true] at h
          obtain ⟨⟨rfl, rfl⟩, rfl⟩ := h
          exact ⟨[], rfl, rfl⟩
        | _ => simp_all [cv]
    | agg ds =>
      cases u <;> simp only [cv] at h <;> try (cases h; done)
      rename_i us
      exact ⟨us.toList, rfl, cds_ok ds us.toList h⟩
    | list own xs =>
      cases xs with
      | cons => cases u <;> simp_all [cv]
      | nil =>
        cases u <;> simp only [cv, beq_iff_eq] at h <;> try (cases h; done)
        subst h
        exact ⟨_, 0, _, rfl, rfl, Nat.zero_le _, by simp, by simp⟩
    | tup cs => cases u <;> simp_all [cv]
    | rptr cs => cases u <;> simp_all [cv]
    | iface t v => cases u <;> simp_all [cv]
  | .ptr b o, u, h => by cases u <;> simp_all [cv]
  | .eptr b sz i k, u, h => by cases u <;> simp_all [cv]
  | .sl b sz, u, h => by cases u <;> simp_all [cv]
  | .slp b sz o l, u, h => by cases u <;> simp_all [cv]
  | .tup cs, u, h => by cases u <;> simp_all [cv]
  | .fn f cs, u, h => by cases u <;> simp_all [cv]
  | .mp b, u, h => by cases u <;> simp_all [cv]
theorem cvs_ok {R : RP} {w : World} : ∀ (vs : List V) (us : List Value), cvs vs us = true → DenVs R w vs us
  | [], us, h => by cases us <;> simp_all [cvs, DenVs]
  | v :: vs, [], h => by simp [cvs] at h
  | v :: vs, u :: us, h => by
    simp only [cvs, Bool.and_eq_true] at h
    exact ⟨u, us, rfl, cv_ok v u h.1, cvs_ok vs us h.2⟩
end
abbrev Globs := Nat → Option (List (IntKind × Int))
def gD : List (IntKind × Int) → List D
  | [] => []
  | (k, n) :: r => .int k n :: gD r
def eqG : List (IntKind × Int) → List D → Bool
  | [], [] => true
  | (k, n) :: r, .int k' n' :: s => k == k' && n == n' && eqG r s
  | _, _ => false
theorem eqG_ok : ∀ (g : List (IntKind × Int)) (l : List D), eqG g l = true → l = gD g
  | [], [], _ => rfl
  | [], _ :: _, h => by simp [eqG] at h
  | (k, n) :: r, [], h => by simp [eqG] at h
  | (k, n) :: r, x :: s, h => by
    cases x <;> simp only [eqG, Bool.and_eq_true, beq_iff_eq, Bool.false_eq_true] at h
    obtain ⟨⟨rfl, rfl⟩, h⟩ := h
    rw [gD, eqG_ok r s h]
def okOpd (G : Globs) : Operand → Opd → Bool
  | .tmp i, .t j => i == j
  | .const u, .c v => cv v u
  | .func f, .c (.d (.fn g [])) => f == g
  | .global g, .c (.d (.rptr cs)) => match G g with | some l => eqG l cs | none => false
  | _, _ => false
def okOpds (G : Globs) : List Operand → List Opd → Bool
  | [], [] => true
  | x :: xs, y :: ys => okOpd G x y && okOpds G xs ys
  | _, _ => false
def GOK (G : Globs) (R : RP) (w : World) : Prop := ∀ g l, G g = some l → R.den w (.rptr (gD l)) (.pointer (some ⟨g, 0, none⟩))
def EnvOK (R : RP) (w : World) (e : Env) (a : Act) : Prop := ∀ t, DenV R w (e t) (a.tmps.getD t undef)
theorem okOpd_ok {G : Globs} {R : RP} {w : World} {e : Env} {a : Act} (hg : GOK G R w) (he : EnvOK R w e a) {x : Operand} {y : Opd} (h : okOpd G x y = true) : DenV R w (y.val e) (a.eval x) := by
  cases x with
  | tmp i =>
    cases y with
    | t j =>
      simp only [okOpd, beq_iff_eq] at h
      subst h
      exact he i
    | c v => simp [okOpd] at h
  | const u =>
    cases y with
    | t j => simp [okOpd] at h
    | c v => exact cv_ok v u h
  | func f =>
    cases y with
    | t j => simp [okOpd] at h
    | c v =>
      cases v with
      | d x =>
        cases x with
        | fn g caps =>
          cases caps with
          | nil =>
            simp only [okOpd, beq_iff_eq] at h
            subst h
            exact ⟨[], rfl, rfl⟩
          | cons => simp [okOpd] at h
        | _ => simp [okOpd] at h
      | _ => simp [okOpd] at h
  | global g =>
    cases y with
    | t j => simp [okOpd] at h
    | c v =>
      cases v with
      | d x =>
        cases x with
        | rptr cs =>
          cases hG : G g with
          | none => simp [okOpd, hG] at h
          | some l =>
            simp only [okOpd, hG] at h
            rw [eqG_ok l cs h]
            exact hg g l hG
        | _ => simp [okOpd] at h
      | _ => simp [okOpd] at h
theorem okOpds_ok {G : Globs} {R : RP} {w : World} {e : Env} {a : Act} (hg : GOK G R w) (he : EnvOK R w e a) : ∀ {xs : List Operand} {ys : List Opd}, okOpds G xs ys = true → DenVs R w (vals e ys) (xs.map a.eval)
  | [], [], _ => rfl
  | [], _ :: _, h => by simp [okOpds] at h
  | _ :: _, [], h => by simp [okOpds] at h
  | x :: xs, y :: ys, h => by
    simp only [okOpds, Bool.and_eq_true] at h
    exact ⟨_, _, rfl, okOpd_ok hg he h.1, okOpds_ok hg he h.2⟩
theorem Ext.gok {G : Globs} {R R' : RP} {w w' : World} (e : Ext R w R' w') (hb : ∀ c, R.B0 c → R.B1 c) (h : GOK G R w) : GOK G R' w' := fun g l hg => e.den hb (h g l hg)
theorem Ext.envOK {R R' : RP} {w w' : World} (x : Ext R w R' w') (hb : ∀ c, R.B0 c → R.B1 c) {e : Env} {a : Act} (h : EnvOK R w e a) : EnvOK R' w' e a := fun t => x.denV hb _ _ (h t)
def Placed (H : Heap) (up : List (Nat × Blk)) (nid : Nat) (nw : List Blk) (H' : Heap) : Prop :=
  ∀ i, H'[i]? = if nid ≤ i ∧ i < nid + nw.length then nw[i - nid]? else (updH H up)[i]?
def Post (R : RP) (w : World) (nid n : Nat) (H' : Heap) (v : V) (u : Value) (w' : World) : Prop :=
  ∃ R', Ext R w R' w' ∧ R'.OK w' ∧ R'.H = H' ∧ DenV R' w' v u ∧ ∀ i, R.M i = none → ¬ (nid ≤ i ∧ i < nid + n) → R'.M i = none
theorem updH_nil (H : Heap) : updH H [] = H := rfl
theorem Placed.same {H H' : Heap} {nid : Nat} (h : Placed H [] nid [] H') : H' = H := by
  apply List.ext_getElem?
  intro i
  have := h i
  simp only [List.length_nil, Nat.add_zero, updH] at this
  rw [this, if_neg (by omega)]
theorem Post.still {R : RP} {w w' : World} {nid : Nat} {H' : Heap} {v : V} {u : Value} (ok : R.OK w) (hp : Placed R.H [] nid [] H') (hh : w'.heap = w.heap) (ho : w'.os = w.os) (ht : w'.tape = w.tape) (hpt : w'.output = w.output)
    (hv : DenV R w v u) : Post R w nid 0 H' v u w' :=
  ⟨R, Ext.draw hh ho ht hpt, ok.draw hh ho ht hpt, hp.same.symm, (Ext.draw hh ho ht hpt).denV ok.b01 v u hv, fun i h _ => h⟩
theorem Post.stay {R : RP} {w : World} {nid : Nat} {H' : Heap} {v : V} {u : Value} (ok : R.OK w) (hp : Placed R.H [] nid [] H') (hv : DenV R w v u) : Post R w nid 0 H' v u w :=
  Post.still ok hp rfl rfl rfl rfl hv
theorem Post.new {R : RP} {w : World} {nid : Nat} {H' : Heap} {v : V} {u : Value} {blk : Blk} {m : Option Nat} (o : Obj) (ok : R.OK w) (hp : Placed R.H [] nid [blk] H') (hn : R.M nid = none) (hm : m = none ∨ m = some w.heap.size)
    (hk : ∀ R' : RP, Ext R w R' (w.alloc o) → R'.M nid = some m → R'.H[nid]? = some blk → BlkOK R' (w.alloc o) m blk ∧ (BlkOK R' (w.alloc o) m blk → DenV R' (w.alloc o) v u)) : Post R w nid 1 H' v u (w.alloc o) := by
  have hH : ∀ i, i ≠ nid → H'[i]? = R.H[i]? := fun i hi => by
    have := hp i
    rw [this, if_neg (by simp; omega)]; rfl
  have hb : H'[nid]? = some blk := by
    have := hp nid
    rw [this, if_pos (by simp)]; simp
  have e := Ext.new (R := R) (w := w) (H' := H') (n := nid) (blk := blk) (m := m) o hn hH hb hm ok.lt ok.al
  have hk' := hk _ e (by simp) hb
  exact ⟨_, e, ok.new hn hH hb hm (fun _ => hk'.1), rfl, hk'.2 hk'.1, fun i hi hni => by
    have : i ≠ nid := fun h => hni (by subst h; simp)
    simp [this, hi]⟩
end Go.Proofs.YtakebhleglnpjaaDoorE

namespace Go.Proofs.YtakebhleglnpjaaDoorE
open Go
set_option linter.unusedVariables false
set_option linter.unusedSimpArgs false
def Le {α : Type} (x y : Option α) : Prop := ∀ a, x = some a → y = some a
theorem Le.refl {α : Type} (x : Option α) : Le x x := fun _ h => h
theorem Le.trans {α : Type} {x y z : Option α} (h : Le x y) (k : Le y z) : Le x z := fun a ha => k a (h a ha)
theorem Le.none {α : Type} (x : Option α) : Le none x := fun _ h => by cases h
theorem Le.of_eq {α : Type} {x y : Option α} (h : x = y) : Le x y := h ▸ Le.refl x
noncomputable def lim_ {α : Type} (F : Nat → Option α) : Option α := open Classical in if h : ∃ n, (F n).isSome = true then F (Classical.choose h) else none
theorem lim_iff {α : Type} {F : Nat → Option α} (mono : ∀ n m, n ≤ m → Le (F n) (F m)) (a : α) : lim_ F = some a ↔ ∃ n, F n = some a := by
  unfold lim_
  constructor
  · intro h
    split at h
    · rename_i hx; exact ⟨_, h⟩
    · cases h
  · rintro ⟨n, hn⟩
    have hx : ∃ n, (F n).isSome = true := ⟨n, by simp [hn]⟩
    rw [dif_pos hx]
    have hs := Classical.choose_spec hx
    cases hv : F (Classical.choose hx) with
    | none => rw [hv] at hs; cases hs
    | some b =>
      rcases Nat.le_total n (Classical.choose hx) with h | h
      · rw [← hv]; exact mono _ _ h a hn
      · have := mono _ _ h b hv; rw [hn] at this; exact this.symm
def LeC (f g : CallF) : Prop := ∀ a b c, Le (f a b c) (g a b c)
abbrev Rnd := List V → Heap → Option Lp
abbrev ItF := Rnd → List V → Heap → Option (Ex × List V × Heap)
def LeR (f g : Rnd) : Prop := ∀ a b, Le (f a b) (g a b)
def LeI (f g : ItF) : Prop := ∀ F G, LeR F G → ∀ a b, Le (f F a b) (g G a b)
theorem callE_mono {Γ : Ctx} {cf cg : CallF} (h : LeC cf cg) (nid : Nat) (H : Heap) (f : Nat) (args : List V) : Le (callE Γ cf nid H f args) (callE Γ cg nid H f args) := by
  intro r hr
  unfold callE at hr ⊢
  split at hr
  · rename_i hm
    cases h1 : fzs H args with
    | none => simp [h1] at hr
    | some l =>
      simp only [h1] at hr ⊢
      cases h2 : cf f (mapd l) [] with
      | none => simp [h2] at hr
      | some p => rw [h2] at hr; rw [h _ _ _ p h2]; exact hr
  · rename_i hm
    cases h1 : fzs H args with
    | none => simp [h1] at hr
    | some l =>
      simp only [h1] at hr ⊢
      cases h2 : cf f (mapd l) [] with
      | none => simp [h2] at hr
      | some p => rw [h2] at hr; rw [h _ _ _ p h2]; exact hr
  · cases h1 : extract 0 args H with
    | none => simp [h1] at hr
    | some q =>
      obtain ⟨L, args', H0⟩ := q
      simp only [h1] at hr ⊢
      cases h2 : cf f args' H0 with
      | none => simp [h2] at hr
      | some p => rw [h2] at hr; rw [h _ _ _ p h2]; exact hr
theorem opE_callv {Γ : Ctx} {cf : CallF} (e : Env) (nid : Nat) (H : Heap) (x : Opd) (args : List Opd) :
    opE Γ cf e nid H (.callv x args) = match capsOf (x.val e) with | some (f, caps) => (match callvBad Γ (x.val e) f caps with | true => none | false => callE Γ cf nid H f (vals e args ++ caps)) | none => none := rfl
theorem opE_invoke {Γ : Ctx} {cf : CallF} (e : Env) (nid : Nat) (H : Heap) (tab : List (Nat × Nat)) (x : Opd) (args : List Opd) :
    opE Γ cf e nid H (.invoke tab x args) = match x.val e with
      | .d (.iface t y) => (match lookT tab t with | some f => callE Γ cf nid H f (.d y :: vals e args) | none => none)
      | _ => none := rfl
theorem opE_mono {Γ : Ctx} {cf cg : CallF} (h : LeC cf cg) (e : Env) (nid : Nat) (H : Heap) (o : O) : Le (opE Γ cf e nid H o) (opE Γ cg e nid H o) := by
  intro r hr
  cases o <;> try exact hr
  · exact callE_mono h _ _ _ _ r hr
  · rename_i x args
    rw [opE_callv] at hr ⊢
    cases h1 : capsOf (x.val e) with
    | none => simp [h1] at hr
    | some q =>
      obtain ⟨f, caps⟩ := q; simp only [h1] at hr ⊢
      cases hb : callvBad Γ (x.val e) f caps with
      | true => rw [hb] at hr; cases hr
      | false => rw [hb] at hr; exact callE_mono h _ _ _ _ r hr
  · rename_i tab x args
    rw [opE_invoke] at hr ⊢
    split at hr
    · rename_i t y hx
      split at hr
      · exact callE_mono h _ _ _ _ r hr
      · cases hr
    · cases hr
theorem opsE_mono {Γ : Ctx} {cf cg : CallF} (h : LeC cf cg) : ∀ (l : List Op1) (e : Env) (H : Heap), Le (opsE Γ cf l e H) (opsE Γ cg l e H)
  | [], e, H, r, hr => hr
  | o :: l, e, H, r, hr => by
    unfold opsE at hr ⊢
    cases hw : wants e o.guard with
    | none => simp [hw] at hr
    | some b =>
      cases b with
      | false => simp only [hw] at hr ⊢; exact opsE_mono h l _ _ r hr
      | true =>
        simp only [hw] at hr ⊢
        cases ho : opE Γ cf e H.length H o.op with
        | none => simp [ho] at hr
        | some q =>
          rw [ho] at hr; rw [opE_mono h _ _ _ _ q ho]
          exact opsE_mono h l _ _ r hr
theorem drawE_mono {Γ : Ctx} {cf cg : CallF} (h : LeC cf cg) : ∀ (l : List Op1) (pos : List (Nat × Nat)) (e : Env) (H : Heap), Le (drawE Γ cf pos l e H) (drawE Γ cg pos l e H)
  | [], pos, e, H, r, hr => hr
  | o :: l, pos, e, H, r, hr => by
    unfold drawE at hr ⊢
    cases hw : wants e o.guard with
    | none => simp [hw] at hr
    | some b =>
      cases b with
      | false => simp only [hw] at hr ⊢; exact drawE_mono h l _ _ _ r hr
      | true =>
        simp only [hw] at hr ⊢
        cases ho : opE Γ cf e H.length (hideH H pos o.mask) o.op with
        | none => simp [ho] at hr
        | some q =>
          rw [ho] at hr; rw [opE_mono h _ _ _ _ q ho]
          obtain ⟨v, up, nw⟩ := q
          dsimp only at hr ⊢
          cases hb : (effOK o.eff up nw) with
          | false => simp [hb] at hr
          | true => simp only [hb, cond_true] at hr ⊢; exact drawE_mono h l _ _ _ r hr
theorem roundE_mono {k : Nat} {live outs : List Nat} {x y : Option (Ex × Env × Heap)} (h : Le x y) : Le (roundE k live outs x) (roundE k live outs y) := by
  intro r hr
  cases x with
  | none => simp [roundE] at hr
  | some q => rw [h q rfl]; exact hr
theorem codeE_mono {Γ : Ctx} {cf cg : CallF} {It Jt : ItF} (h : LeC cf cg) (hi : LeI It Jt) (k : Nat) : ∀ (c : C) (e : Env) (H : Heap), Le (codeE Γ cf It k c e H) (codeE Γ cg Jt k c e H) := by
  intro c
  induction c with
  | skip => intro e H; exact Le.refl _
  | ret => intro e H; exact Le.refl _
  | exit id => intro e H; exact Le.refl _
  | seq a b iha ihb =>
    intro e H r hr
    unfold codeE at hr ⊢
    cases ha : codeE Γ cf It k a e H with
    | none => simp [ha] at hr
    | some q =>
      rw [ha] at hr; rw [iha e H q ha]
      obtain ⟨x, e1, H1⟩ := q
      cases x with
      | normal => exact ihb e1 H1 r hr
      | exit id => exact hr
      | ret => exact hr
  | cond x a b iha ihb =>
    intro e H r hr
    unfold codeE at hr ⊢
    split at hr
    · rename_i t ht
      cases t with
      | true => exact iha e H r hr
      | false => exact ihb e H r hr
    · cases hr
  | block id a iha =>
    intro e H r hr
    unfold codeE at hr ⊢
    cases ha : codeE Γ cf It k a e H with
    | none => simp [ha] at hr
    | some q => rw [ha] at hr; rw [iha e H q ha]; exact hr
  | loop live outs a iha =>
    intro e H r hr
    unfold codeE at hr ⊢
    cases hh : head k (live.map e) H with
    | none => simp [hh] at hr
    | some q =>
      obtain ⟨vs, H1⟩ := q
      simp only [hh] at hr ⊢
      cases hit : It (fun vs H => roundE k live outs (codeE Γ cf It k a (envOf live vs) H)) vs H1 with
      | none => simp [hit] at hr
      | some p =>
        rw [hit] at hr
        rw [hi _ (fun vs H => roundE k live outs (codeE Γ cg Jt k a (envOf live vs) H)) (fun vs H => roundE_mono (iha (envOf live vs) H)) vs H1 p hit]
        exact hr
  | ops l =>
    intro e H r hr
    unfold codeE at hr ⊢
    cases ho : opsE Γ cf l e H with
    | none => simp [ho] at hr
    | some q => rw [ho] at hr; rw [opsE_mono h l e H q ho]; exact hr
  | draw l =>
    intro e H r hr
    unfold codeE at hr ⊢
    cases ho : drawE Γ cf [] l e H with
    | none => simp [ho] at hr
    | some q => rw [ho] at hr; rw [drawE_mono h l _ e H q ho]; exact hr
theorem funE_mono {Γ : Ctx} {cf cg : CallF} {It Jt : ItF} (h : LeC cf cg) (hi : LeI It Jt) (f : Nat) (args : List V) (H : Heap) : Le (funE Γ cf It f args H) (funE Γ cg Jt f args H) := by
  intro r hr
  unfold funE at hr ⊢
  cases hc : Γ.code f with
  | none => simp [hc] at hr
  | some fn =>
    simp only [hc] at hr ⊢
    cases hn : Nat.beq args.length fn.nargs with
    | false => simp [hn] at hr
    | true =>
      simp only [hn, cond_true] at hr ⊢
      cases hx : codeE Γ cf It H.length fn.body (argEnv 0 args) H with
      | none => simp [hx] at hr
      | some q => rw [hx] at hr; rw [codeE_mono h hi _ _ _ _ q hx]; exact hr
theorem iterN_mono {F G : Rnd} (h : LeR F G) : ∀ (n m : Nat), n ≤ m → ∀ vs H, Le (iterN F n vs H) (iterN G m vs H)
  | 0, m, _, vs, H => Le.none _
  | n + 1, 0, hm, vs, H => absurd hm (by omega)
  | n + 1, m + 1, hm, vs, H => by
    intro r hr
    unfold iterN at hr ⊢
    cases hf : F vs H with
    | none => simp [hf] at hr
    | some q =>
      rw [hf] at hr; rw [h vs H q hf]
      cases q with
      | again vs H => exact iterN_mono h n m (by omega) vs H r hr
      | done x vs H => exact hr
theorem evN_mono (Γ : Ctx) : ∀ (n m : Nat), n ≤ m → LeC (evN Γ n) (evN Γ m)
  | 0, m, _ => fun _ _ _ => Le.none _
  | n + 1, 0, hm => absurd hm (by omega)
  | n + 1, m + 1, hm => fun f args H => funE_mono (evN_mono Γ n m (by omega)) (fun F G h vs H => iterN_mono h n m (by omega) vs H) f args H
noncomputable def evW (Γ : Ctx) : CallF := fun f args H => lim_ fun n => evN Γ n f args H
noncomputable def itW : ItF := fun F vs H => lim_ fun n => iterN F n vs H
theorem evW_iff (Γ : Ctx) (f : Nat) (args : List V) (H : Heap) (r : V × Heap) : evW Γ f args H = some r ↔ ∃ n, evN Γ n f args H = some r :=
  lim_iff (fun n m h => evN_mono Γ n m h f args H) r
theorem itW_iff (F : Rnd) (vs : List V) (H : Heap) (r : Ex × List V × Heap) : itW F vs H = some r ↔ ∃ n, iterN F n vs H = some r :=
  lim_iff (fun n m h => iterN_mono (fun _ _ => Le.refl _) n m h vs H) r
theorem itW_eq (F : Rnd) (vs : List V) (H : Heap) : itW F vs H = match F vs H with | some (.again vs H) => itW F vs H | some (.done x vs H) => some (x, vs, H) | none => none := by
  cases hf : F vs H with
  | none =>
    cases h : itW F vs H with
    | none => rfl
    | some r =>
      obtain ⟨n, hn⟩ := (itW_iff F vs H r).1 h
      cases n with
      | zero => simp [iterN] at hn
      | succ n => simp [iterN, hf] at hn
  | some q =>
    cases q with
    | done x vs' H' => exact (itW_iff F vs H _).2 ⟨1, by simp [iterN, hf]⟩
    | again vs' H' =>
      dsimp only
      cases h : itW F vs' H' with
      | some r =>
        obtain ⟨n, hn⟩ := (itW_iff F vs' H' r).1 h
        exact (itW_iff F vs H r).2 ⟨n + 1, by simp [iterN, hf, hn]⟩
      | none =>
        cases h2 : itW F vs H with
        | none => rfl
        | some r =>
          obtain ⟨n, hn⟩ := (itW_iff F vs H r).1 h2
          cases n with
          | zero => simp [iterN] at hn
          | succ n =>
            simp [iterN, hf] at hn
            rw [(itW_iff F vs' H' r).2 ⟨n, hn⟩] at h
            cases h
section
variable {Γ : Ctx}
theorem callE_cont (nid : Nat) (H : Heap) (f : Nat) (args : List V) (r : V × List (Nat × Blk) × List Blk) (hr : callE Γ (evW Γ) nid H f args = some r) : ∃ n, callE Γ (evN Γ n) nid H f args = some r := by
  unfold callE at hr ⊢
  split at hr
  · cases h1 : fzs H args with
    | none => simp [h1] at hr
    | some l =>
      simp only [h1] at hr ⊢
      cases h2 : evW Γ f (mapd l) [] with
      | none => simp [h2] at hr
      | some p => obtain ⟨n, hn⟩ := (evW_iff Γ f (mapd l) [] p).1 h2; exact ⟨n, by rw [hn]; rw [h2] at hr; exact hr⟩
  · cases h1 : fzs H args with
    | none => simp [h1] at hr
    | some l =>
      simp only [h1] at hr ⊢
      cases h2 : evW Γ f (mapd l) [] with
      | none => simp [h2] at hr
      | some p => obtain ⟨n, hn⟩ := (evW_iff Γ f (mapd l) [] p).1 h2; exact ⟨n, by rw [hn]; rw [h2] at hr; exact hr⟩
  · cases h1 : extract 0 args H with
    | none => simp [h1] at hr
    | some q =>
      obtain ⟨L, args', H0⟩ := q
      simp only [h1] at hr ⊢
      cases h2 : evW Γ f args' H0 with
      | none => simp [h2] at hr
      | some p => obtain ⟨n, hn⟩ := (evW_iff Γ f args' H0 p).1 h2; exact ⟨n, by rw [hn]; rw [h2] at hr; exact hr⟩
theorem opE_cont (e : Env) (nid : Nat) (H : Heap) (o : O) (r : V × List (Nat × Blk) × List Blk) (hr : opE Γ (evW Γ) e nid H o = some r) : ∃ n, opE Γ (evN Γ n) e nid H o = some r := by
  cases o <;> try exact ⟨0, hr⟩
  · exact callE_cont _ _ _ _ r hr
  · rename_i x args
    rw [opE_callv] at hr
    cases h1 : capsOf (x.val e) with
    | none => simp [h1] at hr
    | some q =>
      obtain ⟨f, caps⟩ := q; simp only [h1] at hr
      cases hb : callvBad Γ (x.val e) f caps with
      | true => rw [hb] at hr; cases hr
      | false =>
        rw [hb] at hr
        obtain ⟨n, hn⟩ := callE_cont _ _ _ _ r hr
        exact ⟨n, by rw [opE_callv]; simp only [h1, hb]; exact hn⟩
  · rename_i tab x args
    rw [opE_invoke] at hr
    split at hr
    · rename_i t y hx
      cases hl : lookT tab t with
      | none => simp [hl] at hr
      | some f =>
        simp only [hl] at hr
        obtain ⟨n, hn⟩ := callE_cont _ _ _ _ r hr
        exact ⟨n, by rw [opE_invoke]; simp only [hx, hl]; exact hn⟩
    · cases hr
theorem opsE_cont : ∀ (l : List Op1) (e : Env) (H : Heap) (r : Env × Heap), opsE Γ (evW Γ) l e H = some r → ∃ n, opsE Γ (evN Γ n) l e H = some r
  | [], e, H, r, hr => ⟨0, hr⟩
  | o :: l, e, H, r, hr => by
    unfold opsE at hr
    cases hw : wants e o.guard with
    | none => simp [hw] at hr
    | some b =>
      cases b with
      | false =>
        simp only [hw] at hr
        obtain ⟨n, hn⟩ := opsE_cont l _ _ r hr
        exact ⟨n, by unfold opsE; simp only [hw]; exact hn⟩
      | true =>
        simp only [hw] at hr
        cases ho : opE Γ (evW Γ) e H.length H o.op with
        | none => simp [ho] at hr
        | some q =>
          rw [ho] at hr
          obtain ⟨n, hn⟩ := opE_cont _ _ _ _ q ho
          obtain ⟨v, up, nw⟩ := q
          obtain ⟨m, hm⟩ := opsE_cont l _ _ r hr
          refine ⟨max n m, ?_⟩
          unfold opsE
          simp only [hw]
          rw [opE_mono (evN_mono Γ n (max n m) (Nat.le_max_left _ _)) _ _ _ _ _ hn]
          exact opsE_mono (evN_mono Γ m (max n m) (Nat.le_max_right _ _)) l _ _ r hm
theorem drawE_cont : ∀ (l : List Op1) (pos : List (Nat × Nat)) (e : Env) (H : Heap) (r : Env × Heap), drawE Γ (evW Γ) pos l e H = some r → ∃ n, drawE Γ (evN Γ n) pos l e H = some r
  | [], pos, e, H, r, hr => ⟨0, hr⟩
  | o :: l, pos, e, H, r, hr => by
    unfold drawE at hr
    cases hw : wants e o.guard with
    | none => simp [hw] at hr
    | some b =>
      cases b with
      | false =>
        simp only [hw] at hr
        obtain ⟨n, hn⟩ := drawE_cont l _ _ _ r hr
        exact ⟨n, by unfold drawE; simp only [hw]; exact hn⟩
      | true =>
        simp only [hw] at hr
        cases ho : opE Γ (evW Γ) e H.length (hideH H pos o.mask) o.op with
        | none => simp [ho] at hr
        | some q =>
          rw [ho] at hr
          obtain ⟨n, hn⟩ := opE_cont _ _ _ _ q ho
          obtain ⟨v, up, nw⟩ := q
          dsimp only at hr
          cases hb : (effOK o.eff up nw) with
          | false => simp [hb] at hr
          | true =>
            simp only [hb, cond_true] at hr
            obtain ⟨m, hm⟩ := drawE_cont l _ _ _ r hr
            refine ⟨max n m, ?_⟩
            unfold drawE
            simp only [hw]
            rw [opE_mono (evN_mono Γ n (max n m) (Nat.le_max_left _ _)) _ _ _ _ _ hn]
            simp only [hb, cond_true]
            exact drawE_mono (evN_mono Γ m (max n m) (Nat.le_max_right _ _)) l _ _ _ r hm
theorem codeE_cont (k : Nat) : ∀ (c : C) (e : Env) (H : Heap) (r : Ex × Env × Heap), codeE Γ (evW Γ) itW k c e H = some r → ∃ n, codeE Γ (evN Γ n) (fun F => iterN F n) k c e H = some r := by
  have up : ∀ (c : C) (e : Env) (H : Heap) (r : Ex × Env × Heap) (n m : Nat), n ≤ m → codeE Γ (evN Γ n) (fun F => iterN F n) k c e H = some r → codeE Γ (evN Γ m) (fun F => iterN F m) k c e H = some r :=
    fun c e H r n m h => codeE_mono (evN_mono Γ n m h) (fun F G hFG vs H => iterN_mono hFG n m h vs H) k c e H r
  intro c
  induction c with
  | skip => intro e H r hr; exact ⟨0, hr⟩
  | ret => intro e H r hr; exact ⟨0, hr⟩
  | exit id => intro e H r hr; exact ⟨0, hr⟩
  | seq a b iha ihb =>
    intro e H r hr
    unfold codeE at hr
    cases ha : codeE Γ (evW Γ) itW k a e H with
    | none => simp [ha] at hr
    | some q =>
      rw [ha] at hr
      obtain ⟨n, hn⟩ := iha e H q ha
      obtain ⟨x, e1, H1⟩ := q
      cases x with
      | normal =>
        obtain ⟨m, hm⟩ := ihb e1 H1 r hr
        refine ⟨max n m, ?_⟩
        unfold codeE
        rw [up a e H _ n _ (Nat.le_max_left _ _) hn]
        exact up b e1 H1 r m _ (Nat.le_max_right _ _) hm
      | exit id => exact ⟨n, by unfold codeE; rw [hn]; exact hr⟩
      | ret => exact ⟨n, by unfold codeE; rw [hn]; exact hr⟩
  | cond x a b iha ihb =>
    intro e H r hr
    unfold codeE at hr
    split at hr
    · rename_i t ht
      cases t with
      | true => obtain ⟨n, hn⟩ := iha e H r hr; exact ⟨n, by unfold codeE; simp only [ht]; exact hn⟩
      | false => obtain ⟨n, hn⟩ := ihb e H r hr; exact ⟨n, by unfold codeE; simp only [ht]; exact hn⟩
    · cases hr
  | block id a iha =>
    intro e H r hr
    unfold codeE at hr
    cases ha : codeE Γ (evW Γ) itW k a e H with
    | none => simp [ha] at hr
    | some q => rw [ha] at hr; obtain ⟨n, hn⟩ := iha e H q ha; exact ⟨n, by unfold codeE; rw [hn]; exact hr⟩
  | loop live outs a iha =>
    intro e H r hr
    unfold codeE at hr
    cases hh : head k (live.map e) H with
    | none => simp [hh] at hr
    | some q =>
      obtain ⟨vs, H1⟩ := q
      simp only [hh] at hr
      cases hit : itW (fun vs H => roundE k live outs (codeE Γ (evW Γ) itW k a (envOf live vs) H)) vs H1 with
      | none => simp [hit] at hr
      | some p =>
        rw [hit] at hr
        obtain ⟨n, hn⟩ := (itW_iff _ vs H1 p).1 hit
        have key : ∀ (n : Nat) (vs : List V) (H1 : Heap) (p : Ex × List V × Heap), iterN (fun vs H => roundE k live outs (codeE Γ (evW Γ) itW k a (envOf live vs) H)) n vs H1 = some p →
            ∃ m, iterN (fun vs H => roundE k live outs (codeE Γ (evN Γ m) (fun F => iterN F m) k a (envOf live vs) H)) n vs H1 = some p := by
          intro n
          induction n with
          | zero => intro vs H1 p h; simp [iterN] at h
          | succ n ih =>
            intro vs H1 p h
            unfold iterN at h
            cases hc : codeE Γ (evW Γ) itW k a (envOf live vs) H1 with
            | none => simp [hc, roundE] at h
            | some q =>
              obtain ⟨m1, hm1⟩ := iha _ _ q hc
              simp only [hc] at h
              cases hr2 : roundE k live outs (some q) with
              | none => simp [hr2] at h
              | some z =>
                rw [hr2] at h
                cases z with
                | done x vs' H' => exact ⟨m1, by unfold iterN; simp only [hm1, hr2]; exact h⟩
                | again vs' H' =>
                  obtain ⟨m2, hm2⟩ := ih vs' H' p h
                  refine ⟨max m1 m2, ?_⟩
                  unfold iterN
                  simp only [up a _ _ q m1 _ (Nat.le_max_left m1 m2) hm1, hr2]
                  exact iterN_mono (fun vs H => roundE_mono (fun q hq => up a _ _ q m2 _ (Nat.le_max_right m1 m2) hq)) n n (Nat.le_refl _) vs' H' p hm2
        obtain ⟨m, hm⟩ := key n vs H1 p hn
        refine ⟨max n m, ?_⟩
        unfold codeE
        simp only [hh]
        rw [iterN_mono (fun vs H => roundE_mono (fun q hq => up a _ _ q m _ (Nat.le_max_right n m) hq)) n _ (Nat.le_max_left n m) vs H1 p hm]
        exact hr
  | ops l =>
    intro e H r hr
    unfold codeE at hr
    cases ho : opsE Γ (evW Γ) l e H with
    | none => simp [ho] at hr
    | some q => rw [ho] at hr; obtain ⟨n, hn⟩ := opsE_cont l e H q ho; exact ⟨n, by unfold codeE; rw [hn]; exact hr⟩
  | draw l =>
    intro e H r hr
    unfold codeE at hr
    cases ho : drawE Γ (evW Γ) [] l e H with
    | none => simp [ho] at hr
    | some q => rw [ho] at hr; obtain ⟨n, hn⟩ := drawE_cont l _ e H q ho; exact ⟨n, by unfold codeE; rw [hn]; exact hr⟩
theorem evW_eq (f : Nat) (args : List V) (H : Heap) : evW Γ f args H = funE Γ (evW Γ) itW f args H := by
  have h1 : Le (evW Γ f args H) (funE Γ (evW Γ) itW f args H) := by
    intro r hr
    obtain ⟨n, hn⟩ := (evW_iff Γ f args H r).1 hr
    cases n with
    | zero => simp [evN] at hn
    | succ n => exact funE_mono (fun a b c r h => (evW_iff Γ a b c r).2 ⟨n, h⟩) (fun F G h vs H r hr => (itW_iff G vs H r).2 ⟨n, iterN_mono h n n (Nat.le_refl _) vs H r hr⟩) f args H r hn
  have h2 : Le (funE Γ (evW Γ) itW f args H) (evW Γ f args H) := by
    intro r hr
    unfold funE at hr
    cases hc : Γ.code f with
    | none => simp [hc] at hr
    | some fn =>
      simp only [hc] at hr
      cases hn : Nat.beq args.length fn.nargs with
      | false => simp [hn] at hr
      | true =>
        simp only [hn, cond_true] at hr
        cases hx : codeE Γ (evW Γ) itW H.length fn.body (argEnv 0 args) H with
        | none => simp [hx] at hr
        | some q =>
          rw [hx] at hr
          obtain ⟨n, hn2⟩ := codeE_cont _ _ _ _ q hx
          refine (evW_iff Γ f args H r).2 ⟨n + 1, ?_⟩
          show funE Γ (evN Γ n) (fun F => iterN F n) f args H = some r
          unfold funE
          simp only [hc, hn, cond_true, hn2]
          exact hr
  cases h : evW Γ f args H with
  | some r => exact (h1 r h).symm
  | none =>
    cases h' : funE Γ (evW Γ) itW f args H with
    | none => rfl
    | some r => rw [h2 r h'] at h; cases h
end
end Go.Proofs.YtakebhleglnpjaaDoorE

namespace Go.Proofs.YtakebhleglnpjaaDoorE
open Go
set_option linter.unusedVariables false
set_option linter.unusedSimpArgs false
def aggOf (P : Program) (t : TypeId) : Option Bool :=
  match P.underlying t with
  | some (.struct _) => some true
  | some (.array _ _) => some true
  | some _ => some false
  | none => none
def szOf (P : Program) (t : TypeId) : Option Nat := (P.info? t).map (·.size)
theorem run_isAgg {P : Program} {w : World} {t : TypeId} {ag : Bool} (h : aggOf P t = some ag) : (isAgg t).run P w = .ok ag w := by
  unfold aggOf at h
  cases hu : P.underlying t with
  | none => simp [hu] at h
  | some d =>
    rw [hu] at h
    have := run_underlying (P := P) (w := w) hu
    simp only [isAgg, Sem.run_bind, this, Result.andThen_ok]
    cases d <;> simp_all
theorem run_sizeOf {P : Program} {w : World} {t : TypeId} {n : Nat} (h : szOf P t = some n) : (sizeOf t).run P w = .ok n w := by
  unfold szOf at h
  cases hi : P.info? t with
  | none => simp [hi] at h
  | some i =>
    simp only [hi, Option.map_some, Option.some.injEq] at h
    subst h
    simp [sizeOf, typeInfo, hi]
section
variable {R : RP} {w : World}
theorem denVs_len : ∀ (vs : List V) (us : List Value), DenVs R w vs us → us.length = vs.length
  | [], us, h => by simp only [DenVs] at h; subst h; rfl
  | v :: vs, us, h => by
    obtain ⟨u, us', rfl, e1, e2⟩ := h
    simp [denVs_len vs us' e2]
theorem denVs_at : ∀ (vs : List V) (us : List Value) (j : Nat) (v : V), DenVs R w vs us → vs[j]? = some v → ∃ u, us[j]? = some u ∧ DenV R w v u
  | [], us, j, v, _, hj => by simp at hj
  | y :: vs, us, 0, v, h, hj => by
    obtain ⟨u, us', rfl, e1, e2⟩ := h
    simp at hj; subst hj
    exact ⟨u, by simp, e1⟩
  | y :: vs, us, j + 1, v, h, hj => by
    obtain ⟨u, us', rfl, e1, e2⟩ := h
    simpa using denVs_at vs us' j v e2 (by simpa using hj)
theorem denVs_mk : ∀ (vs : List V) (us : List Value), us.length = vs.length → (∀ (j : Nat) v u, vs[j]? = some v → us[j]? = some u → DenV R w v u) → DenVs R w vs us
  | [], us, hl, _ => by simpa [DenVs] using hl
  | y :: vs, [], hl, _ => by simp at hl
  | y :: vs, u :: us, hl, h => ⟨u, us, rfl, h 0 y u rfl rfl, denVs_mk vs us (by simpa using hl) fun j x v hx hv => h (j + 1) x v (by simpa using hx) (by simpa using hv)⟩
theorem mapd_eq : ∀ (l : List D), mapd l = l.map V.d
  | [] => rfl
  | x :: l => by simp [mapd, mapd_eq l]
theorem denVs_mapd : ∀ (l : List D) (us : List Value), DenVs R w (mapd l) us ↔ DenDs R.A1 R.A0 R.AL w l us
  | [], us => Iff.rfl
  | x :: l, us => by
    simp only [mapd, DenVs, DenDs]
    constructor
    · rintro ⟨u, us', e, h1, h2⟩; exact ⟨u, us', e, h1, (denVs_mapd l us').1 h2⟩
    · rintro ⟨u, us', e, h1, h2⟩; exact ⟨u, us', e, h1, (denVs_mapd l us').2 h2⟩
theorem allD_some : ∀ {vs : List V} {l : List D}, allD vs = some l → vs = mapd l
  | [], l, h => by simp [allD] at h; subst h; rfl
  | v :: vs, l, h => by
    cases v <;> simp only [allD] at h <;> try (cases h; done)
    rename_i x
    cases hr : allD vs with
    | none => simp [hr] at h
    | some l' =>
      simp only [hr, Option.some.injEq] at h
      subst h
      rw [allD_some hr, mapd]
theorem mkAgg_ok {vs : List V} {us : List Value} (h : DenVs R w vs us) : DenV R w (mkAgg vs) (.agg us.toArray) := by
  unfold mkAgg
  cases ha : allD vs with
  | none => exact ⟨us, rfl, h⟩
  | some l =>
    rw [allD_some ha, denVs_mapd] at h
    exact ⟨us, rfl, h⟩
theorem mkTup_ok {vs : List V} {us : List Value} (h : DenVs R w vs us) : DenV R w (mkTup vs) (.tuple us.toArray) := by
  unfold mkTup
  cases ha : allD vs with
  | none => exact ⟨us, rfl, h⟩
  | some l =>
    rw [allD_some ha, denVs_mapd] at h
    exact ⟨us, rfl, h⟩
theorem cells_ok {v : V} {u : Value} (h : DenV R w v u) (hv : v.okb = true) : DenVs R w v.cells u.cells.toList := by
  cases v with
  | d x =>
    cases x with
    | agg cs =>
      obtain ⟨us, rfl, h⟩ := h
      simpa [V.cells, Value.cells] using (denVs_mapd cs us).2 h
    | tup cs => simp [V.okb] at hv
    | bool b => simp only [DenV, RP.den, DenD] at h; subst h; exact ⟨_, [], rfl, by simp [DenV, RP.den, DenD], rfl⟩
    | int k n => simp only [DenV, RP.den, DenD] at h; subst h; exact ⟨_, [], rfl, by simp [DenV, RP.den, DenD], rfl⟩
    | str s => simp only [DenV, RP.den, DenD] at h; subst h; exact ⟨_, [], rfl, by simp [DenV, RP.den, DenD], rfl⟩
    | nilfn => simp only [DenV, RP.den, DenD] at h; subst h; exact ⟨_, [], rfl, by simp [DenV, RP.den, DenD], rfl⟩
    | nilp => simp only [DenV, RP.den, DenD] at h; subst h; exact ⟨_, [], rfl, by simp [DenV, RP.den, DenD], rfl⟩
    | nilI => simp only [DenV, RP.den, DenD] at h; subst h; exact ⟨_, [], rfl, by simp [DenV, RP.den, DenD], rfl⟩
    | list own xs =>
      have h' := h
      obtain ⟨a, len, cap, rfl, _⟩ := h'
      exact ⟨_, [], rfl, h, rfl⟩
    | fn f caps =>
      have h' := h
      obtain ⟨us, rfl, _⟩ := h'
      exact ⟨_, [], rfl, h, rfl⟩
    | rptr cs =>
      have h' := h
      obtain ⟨b, off, rfl, _⟩ := h'
      exact ⟨_, [], rfl, h, rfl⟩
    | iface t v =>
      have h' := h
      obtain ⟨u', rfl, _⟩ := h'
      exact ⟨_, [], rfl, h, rfl⟩
  | bad => simp [V.okb] at hv
  | tup cs => simp [V.okb] at hv
  | agg cs =>
    obtain ⟨us, rfl, h⟩ := h
    simpa [V.cells, Value.cells] using h
  | nilsl sz =>
    have h' := h
    obtain ⟨a, rfl⟩ := h'
    exact ⟨_, [], rfl, h, rfl⟩
  | fn f caps =>
    have h' := h
    obtain ⟨us, rfl, _⟩ := h'
    exact ⟨_, [], rfl, h, rfl⟩
  | ptr b o =>
    have h' := h
    obtain ⟨⟨a, rfl⟩, _⟩ := h'
    exact ⟨_, [], rfl, h, rfl⟩
  | eptr b sz i k =>
    have h' := h
    obtain ⟨⟨a, rfl⟩, _⟩ := h'
    exact ⟨_, [], rfl, h, rfl⟩
  | sl b sz =>
    have h' := h
    obtain ⟨⟨a, n, c, rfl⟩, _⟩ := h'
    exact ⟨_, [], rfl, h, rfl⟩
  | slp b sz o l =>
    have h' := h
    obtain ⟨⟨a, n, c, rfl⟩, _⟩ := h'
    exact ⟨_, [], rfl, h, rfl⟩
  | mp b =>
    have h' := h
    obtain ⟨⟨a, rfl⟩, _⟩ := h'
    exact ⟨_, [], rfl, h, rfl⟩
end
structure Pre (G : Globs) (R : RP) (w : World) (e : Env) (a : Act) (Hm : Heap) : Prop where
  ok : R.OK w
  g : GOK G R w
  env : EnvOK R w e a
  le : ∀ b blk, nth Hm b = some blk → blk ≠ .dead → nth R.H b = some blk
section
variable {P : Program} {G : Globs} {R : RP} {w : World} {e : Env} {a : Act} {Hm H' : Heap} {nid : Nat} {o : Oper}
theorem Pre.opd (pre : Pre G R w e a Hm) {x : Operand} {y : Opd} (h : okOpd G x y = true) : DenV R w (y.val e) (a.eval x) := okOpd_ok pre.g pre.env h
theorem Pre.opds (pre : Pre G R w e a Hm) {xs : List Operand} {ys : List Opd} (h : okOpds G xs ys = true) : DenVs R w (vals e ys) (xs.map a.eval) := okOpds_ok pre.g pre.env h
theorem opOK_v {s : Sem Value} {u : Value} {w' : World} {Po : Value → World → Prop} (hx : execOp a.eval o = (do pure (Next.value (← s)))) (hr : s.run P w = .ok u w') (hp : Po u w') : OpOK P o a w Po :=
  .val (by rw [hx]; simp [hr]) hp
theorem s_mov (pre : Pre G R w e a Hm) {x : Operand} {y : Opd} (hop : o.op = .move x ∨ o.op = .assign x) (hx : okOpd G x y = true) (hp : Placed R.H [] nid [] H') :
    OpOK P o a w (Post R w nid 0 H' (y.val e)) := by
  refine .val (u := a.eval x) (w' := w) ?_ (Post.stay pre.ok hp (pre.opd hx))
  rcases hop with h | h <;> (unfold execOp; rw [h]; rfl)
theorem s_pick (pre : Pre G R w e a Hm) {c x y : Operand} {c' x' y' : Opd} {t : Bool} (hop : o.op = .pick c x y) (hc : okOpd G c c' = true) (hx : okOpd G x x' = true) (hy : okOpd G y y' = true)
    (ht : c'.val e = .d (.bool t)) (hp : Placed R.H [] nid [] H') : OpOK P o a w (Post R w nid 0 H' (bif t then x'.val e else y'.val e)) := by
  have hcv := pre.opd hc
  rw [ht] at hcv
  simp only [DenV, RP.den, DenD] at hcv
  refine .val (u := if t = true then a.eval x else a.eval y) (w' := w) ?_ (Post.stay pre.ok hp ?_)
  · unfold execOp; rw [hop]; simp [hcv, asBool]
  · cases t
    · exact pre.opd hy
    · exact pre.opd hx
theorem run_loadVar_one {t : TypeId} {x : Addr} {u : Value} (h : aggOf P t = some false) (hc : w.cell? x = some u) : (loadVar t x).run P w = .ok u w := by
  unfold loadVar
  simp only [Sem.run_bind, run_isAgg h, Result.andThen_ok, Bool.false_eq_true, if_false, run_load, hc]
theorem run_loadVar_agg {t : TypeId} {x : Addr} {us : List Value} (h : aggOf P t = some true) (hs : szOf P t = some us.length) (hc : ∀ (j : Nat) v, us[j]? = some v → w.cell? (x.add j) = some v) :
    (loadVar t x).run P w = .ok (.agg us.toArray) w := by
  unfold loadVar
  simp only [Sem.run_bind, run_isAgg h, run_sizeOf hs, Result.andThen_ok, if_true, run_loadCells_list w x us hc, Sem.run_pure]
theorem oneCell_ok {n : Nat} {ag : Bool} {cs : List V} {v : V} {t : TypeId} {b off : Nat} (hc : ∀ (j : Nat) v, cs[j]? = some v → ∃ u, w.cell? ⟨b, off + j, none⟩ = some u ∧ DenV R w v u)
    (hag : aggOf P t = some ag) (hsz : szOf P t = some n) (h : oneCell n ag cs = some v) : ∃ u, (loadVar t ⟨b, off, none⟩).run P w = .ok u w ∧ DenV R w v u := by
  unfold oneCell at h
  cases ag with
  | false =>
    simp only [cond_false] at h
    obtain ⟨u, h1, h2⟩ := hc 0 v (by rw [← List.head?_eq_getElem?]; exact h)
    exact ⟨u, run_loadVar_one hag (by simpa using h1), h2⟩
  | true =>
    simp only [cond_true] at h
    cases hl : Nat.beq (cs.take n).length n with
    | false => rw [hl] at h; cases h
    | true =>
      rw [hl] at h
      simp only [cond_true, Option.some.injEq] at h
      subst h
      have hl' : (cs.take n).length = n := Nat.eq_of_beq_eq_true hl
      let us : List Value := (List.range n).map fun j => (w.cell? ⟨b, off + j, none⟩).getD undef
      have hus : us.length = n := by simp [us]
      have key : ∀ (j : Nat) v, (cs.take n)[j]? = some v → ∃ u, us[j]? = some u ∧ w.cell? ⟨b, off + j, none⟩ = some u ∧ DenV R w v u := by
        intro j v hj
        have hjn : j < n := by have := (List.getElem?_eq_some_iff.1 hj).1; omega
        obtain ⟨u, h1, h2⟩ := hc j v (by rw [List.getElem?_take] at hj; simpa [hjn] using hj)
        exact ⟨u, by simp [us, hjn, h1], h1, h2⟩
      refine ⟨.agg us.toArray, run_loadVar_agg hag (by rw [hus]; exact hsz) ?_, mkAgg_ok (denVs_mk _ _ (by omega) ?_)⟩
      · intro j v hv
        have hjn : j < n := by have := (List.getElem?_eq_some_iff.1 hv).1; omega
        obtain ⟨v0, hv0⟩ : ∃ v0, (cs.take n)[j]? = some v0 := ⟨_, List.getElem?_eq_getElem (by omega)⟩
        obtain ⟨u, f1, f2, _⟩ := key j v0 hv0
        rw [hv] at f1; cases f1
        rw [Addr.add_lit]; exact f2
      · intro j v u hv hu
        obtain ⟨u', f1, _, f3⟩ := key j v hv
        rw [hu] at f1; cases f1; exact f3
theorem cell_of_heap {b off : Nat} {cs : Array Value} {el : TypeId} {fr : Nat × Nat} (h : w.heap[b]? = some (.cells cs el fr)) : w.cell? ⟨b, off, none⟩ = cs[off]? := by
  simp [World.cell?, h]
theorem load_ok (pre : Pre G R w e a Hm) {n : Nat} {ag : Bool} {t : TypeId} {x v : V} {u0 : Value} (hag : aggOf P t = some ag) (hsz : szOf P t = some n) (hx : DenV R w x u0) (h : loadE Hm n ag x = some v) :
    ∃ u, (Instr.loadAt t u0).run P w = .ok u w ∧ DenV R w v u := by
  unfold loadE at h
  cases x with
  | ptr b o =>
    dsimp only at h
    cases hb : nth Hm b with
    | none => simp [hb] at h
    | some blk =>
      rw [hb] at h
      cases blk <;> try (cases h; done)
      rename_i cs
      have hb' := pre.le b _ hb (by simp)
      obtain ⟨_, m, h1, h2⟩ := hx
      obtain ⟨c, rfl, rfl⟩ := h2 cs hb'
      rw [nth_eq] at hb'
      obtain ⟨c', cs', el, fr, e1, e2, e3, e4, e5⟩ := pre.ok.blk b _ _ hb' h1
      cases e1
      obtain ⟨u, f1, f2⟩ := oneCell_ok (P := P) (cs := cs.drop o) (b := c) (off := o) (by
        intro j v hj
        obtain ⟨u, g1, g2⟩ := e5 (o + j) v (by simpa using hj)
        exact ⟨u, by rw [cell_of_heap e2]; exact g1, g2⟩) hag hsz h
      exact ⟨u, by simpa [Instr.loadAt, Instr.sureAddr] using f1, f2⟩
  | eptr b sz i k =>
    dsimp only at h
    cases hb : nth Hm b with
    | none => simp [hb] at h
    | some blk =>
      rw [hb] at h
      cases blk <;> try (cases h; done)
      rename_i sz' xs
      dsimp only at h
      cases hs : Nat.beq sz sz' with
      | false => simp [hs] at h
      | true =>
        obtain rfl := Nat.eq_of_beq_eq_true hs
        simp only [hs, cond_true] at h
        cases hxi : nth xs i with
        | none => simp [hxi] at h
        | some y =>
          simp only [hxi] at h
          have hb' := pre.le b _ hb (by simp)
          obtain ⟨_, m, h1, h2⟩ := hx
          obtain ⟨c, rfl, rfl⟩ := h2 xs hb'
          rw [nth_eq] at hb' hxi
          obtain ⟨e0, e1, e2⟩ := pre.ok.blk b _ _ hb' h1
          rcases e2 with ⟨e2, _⟩ | ⟨c', cs, el, e2, e3, e4, e5⟩
          · cases e2
          · cases e2
            obtain ⟨uy, f1, f2, f3⟩ := e5 i y hxi
            have hyb : (V.d y).okb = true ∨ ∃ ts, y = .tup ts := by cases y <;> simp [V.okb]
            rcases hyb with hyb | ⟨ts, rfl⟩
            · have hcs := cells_ok (R := R) (v := .d y) f1 hyb
              have hVc : (V.d y).cells = mapd y.cells := by cases y <;> rfl
              rw [hVc] at hcs
              obtain ⟨u, g1, g2⟩ := oneCell_ok (P := P) (cs := mapd (y.cells.drop k)) (b := c) (off := i * sz + k) (by
                intro j v hj
                have hj' : (mapd y.cells)[k + j]? = some v := by
                  rw [mapd_eq, List.getElem?_map] at hj ⊢
                  simpa using hj
                obtain ⟨u, p1, p2⟩ := denVs_at _ _ _ _ hcs hj'
                refine ⟨u, ?_, p2⟩
                rw [cell_of_heap e3, Nat.add_assoc]
                exact f3 (k + j) u (by simpa using p1)) hag hsz h
              exact ⟨u, by simpa [Instr.loadAt, Instr.sureAddr] using g1, g2⟩
            · have f1' := f1
              obtain ⟨us, rfl, _⟩ := f1'
              obtain ⟨u, g1, g2⟩ := oneCell_ok (P := P) (cs := mapd (D.cells (.tup ts) |>.drop k)) (b := c) (off := i * sz + k) (by
                intro j v hj
                cases k with
                | zero =>
                  cases j with
                  | zero =>
                    simp [D.cells, mapd] at hj
                    subst hj
                    refine ⟨.tuple us.toArray, ?_, f1⟩
                    rw [cell_of_heap e3]
                    have := f3 0 (.tuple us.toArray) rfl
                    simpa using this
                  | succ j => simp [D.cells, mapd] at hj
                | succ k => simp [D.cells, mapd] at hj) hag hsz h
              exact ⟨u, by simpa [Instr.loadAt, Instr.sureAddr] using g1, g2⟩
  | d y =>
    cases y <;> try (cases h; done)
    rename_i cs
    dsimp only at h
    obtain ⟨b, off, rfl, h1, h2, h3⟩ := hx
    obtain ⟨u, g1, g2⟩ := oneCell_ok (P := P) (cs := mapd cs) (b := b) (off := off) (by
      intro j v hj
      rw [mapd_eq, List.getElem?_map] at hj
      cases hcj : cs[j]? with
      | none => simp [hcj] at hj
      | some x =>
        simp [hcj] at hj
        subst hj
        obtain ⟨u, p1, p2⟩ := denCells_at cs off j x h3 hcj
        exact ⟨u, p1, p2⟩) hag hsz h
    exact ⟨u, by simpa [Instr.loadAt, Instr.sureAddr] using g1, g2⟩
  | bad => cases h
  | sl b sz => cases h
  | slp b sz o l => cases h
  | nilsl sz => cases h
  | agg cs => cases h
  | tup cs => cases h
  | fn f cs => cases h
  | mp b => cases h
theorem s_load (pre : Pre G R w e a Hm) {n : Nat} {ag : Bool} {t : TypeId} {x : Operand} {y : Opd} {v : V} (hop : o.op = .load t x) (hx : okOpd G x y = true) (hag : aggOf P t = some ag) (hsz : szOf P t = some n)
    (h : loadE Hm n ag (y.val e) = some v) (hp : Placed R.H [] nid [] H') : OpOK P o a w (Post R w nid 0 H' v) := by
  obtain ⟨u, h1, h2⟩ := load_ok pre hag hsz (pre.opd hx) h
  exact opOK_v (s := Instr.loadAt t (a.eval x)) (by unfold execOp; rw [hop]) h1 (Post.stay pre.ok hp h2)
def fieldOf (P : Program) (s : TypeId) (f : Nat) : Option (Nat × TypeId) :=
  match P.underlying s with
  | some (.struct fields) => (fields[f]?).map fun x => (x.offset, x.type)
  | _ => none
theorem fieldOf_spec {s : TypeId} {f off : Nat} {t : TypeId} (h : fieldOf P s f = some (off, t)) : ∃ fields fd, P.underlying s = some (.struct fields) ∧ fields[f]? = some fd ∧ fd.offset = off ∧ fd.type = t := by
  unfold fieldOf at h
  split at h
  · rename_i fields hu
    cases hf : fields[f]? with
    | none => simp [hf] at h
    | some fd =>
      simp only [hf, Option.map_some, Option.some.injEq, Prod.mk.injEq] at h
      exact ⟨fields, fd, hu, hf, h.1, h.2⟩
  · cases h
theorem run_fieldAt {s : TypeId} {f off n : Nat} {t : TypeId} {x : Addr} (h : fieldOf P s f = some (off, t)) (hn : szOf P t = some n) (h0 : n ≠ 0) :
    (Instr.fieldAt s (.pointer (some x)) f).run P w = .ok (.pointer (some (x.add off))) w := by
  obtain ⟨fields, fd, h1, h2, rfl, rfl⟩ := fieldOf_spec h
  simp [Instr.fieldAt, run_underlying h1, h2, Instr.sureAddr, fieldPlace, run_sizeOf hn, h0]
theorem faddr_ok (pre : Pre G R w e a Hm) {off : Nat} {x v : V} {u0 : Value} (hx : DenV R w x u0) (h : faddrE Hm off x = some v) : ∃ ad, u0 = .pointer (some ad) ∧ DenV R w v (.pointer (some (ad.add off))) := by
  unfold faddrE at h
  cases ht : there Hm x with
  | false => rw [ht] at h; cases h
  | true =>
    rw [ht] at h
    simp only [cond_true] at h
    cases x <;> try (cases h; done)
    · rename_i y
      cases y <;> try (cases h; done)
      rename_i cs
      simp only [Option.some.injEq] at h
      subst h
      obtain ⟨b, of, rfl, h1, h2, h3⟩ := hx
      exact ⟨_, rfl, b, of + off, by rw [Addr.add_lit], h1, h2, denCells_drop cs of off h3⟩
    · rename_i b o
      simp only [Option.some.injEq] at h
      subst h
      dsimp only [there] at ht
      cases hb : nth Hm b with
      | none => simp [hb] at ht
      | some blk =>
        rw [hb] at ht
        cases blk <;> try (cases ht; done)
        rename_i cs
        obtain ⟨_, m, h1, h2⟩ := hx
        obtain ⟨c, rfl, rfl⟩ := h2 cs (pre.le b _ hb (by simp))
        exact ⟨_, rfl, ⟨_, rfl⟩, some c, h1, fun _ _ => ⟨c, rfl, by rw [Addr.add_lit]⟩⟩
    · rename_i b sz i k
      simp only [Option.some.injEq] at h
      subst h
      dsimp only [there] at ht
      cases hb : nth Hm b with
      | none => simp [hb] at ht
      | some blk =>
        rw [hb] at ht
        cases blk <;> try (cases ht; done)
        rename_i sz' xs
        obtain rfl := Nat.eq_of_beq_eq_true ht
        obtain ⟨_, m, h1, h2⟩ := hx
        obtain ⟨c, rfl, rfl⟩ := h2 xs (pre.le b _ hb (by simp))
        exact ⟨_, rfl, ⟨_, rfl⟩, some c, h1, fun _ _ => ⟨c, rfl, by rw [Addr.add_lit, Nat.add_assoc]⟩⟩
theorem s_faddr (pre : Pre G R w e a Hm) {s t : TypeId} {f off n : Nat} {x : Operand} {y : Opd} {v : V} (hop : o.op = .fieldAddr s x f) (hx : okOpd G x y = true) (hf : fieldOf P s f = some (off, t)) (hn : szOf P t = some n) (h0 : n ≠ 0)
    (h : faddrE Hm off (y.val e) = some v) (hp : Placed R.H [] nid [] H') : OpOK P o a w (Post R w nid 0 H' v) := by
  obtain ⟨ad, h1, h2⟩ := faddr_ok pre (pre.opd hx) h
  exact opOK_v (s := Instr.fieldAt s (a.eval x) f) (by unfold execOp; rw [hop]) (by rw [h1]; exact run_fieldAt hf hn h0) (Post.stay pre.ok hp h2)
theorem denI {k : IntKind} {n : Int} {u : Value} (h : DenV R w (.d (.int k n)) u) : u = .int k n := h
theorem denB {b : Bool} {u : Value} (h : DenV R w (.d (.bool b)) u) : u = .bool b := h
theorem binE_ok {op : BinOp} {x y : V} {r : D} {u1 u2 : Value} (t : TypeId) (ox oy : Operand) (hx : DenV R w x u1) (hy : DenV R w y u2) (h : binE op x y = some r) :
    ∃ u, ((do eqGuard op t ox oy u1 u2; binOp op t u1 u2 : Sem Value)).run P w = .ok u w ∧ R.den w r u := by
  unfold binE at h
  split at h
  · rename_i i a1 j b1
    cases denI hx; cases denI hy
    unfold shI at h
    cases hb : decide (b1 < 0) with
    | true => simp [hb] at h
    | false =>
      simp only [hb, cond_false, Option.some.injEq] at h
      subst h
      have hb' : ¬ b1 < 0 := of_decide_eq_false hb
      refine ⟨_, ?_, rfl⟩
      simp [eqGuard, binOp, Op.shift, hb']
  · rename_i i a1 j b1
    cases denI hx; cases denI hy
    unfold shI at h
    cases hb : decide (b1 < 0) with
    | true => simp [hb] at h
    | false =>
      simp only [hb, cond_false, Option.some.injEq] at h
      subst h
      have hb' : ¬ b1 < 0 := of_decide_eq_false hb
      refine ⟨_, ?_, rfl⟩
      simp [eqGuard, binOp, Op.shift, hb']
  · rename_i op' i a1 j b1 hn1 hn2
    cases denI hx; cases denI hy
    cases hk : i == j with
    | false => simp [hk] at h
    | true =>
      obtain rfl : i = j := by simpa using hk
      simp only [hk, cond_true] at h
      cases op <;> simp only [binI, Option.some.injEq] at h
      case shl => exact (hn1 rfl).elim
      case shr => exact (hn2 rfl).elim
      case andNot => cases h
      case quo =>
        cases hb : b1 == 0 with
        | true => simp [hb] at h
        | false =>
          simp only [hb, cond_false, Option.some.injEq] at h
          subst h
          exact ⟨_, by simp [eqGuard, binOp, Op.intDiv, show ¬ b1 = 0 by simpa using hb], rfl⟩
      case rem =>
        cases hb : b1 == 0 with
        | true => simp [hb] at h
        | false =>
          simp only [hb, cond_false, Option.some.injEq] at h
          subst h
          exact ⟨_, by simp [eqGuard, binOp, Op.intDiv, show ¬ b1 = 0 by simpa using hb], rfl⟩
      all_goals (subst h; exact ⟨_, by simp [eqGuard, binOp, Op.intArith, Op.intBits, Op.intCmp], rfl⟩)
  · cases h
theorem s_bin (pre : Pre G R w e a Hm) {op : BinOp} {t t' : TypeId} {x y : Operand} {x' y' : Opd} {r : D} (hop : o.op = .binOp op t x y t') (hx : okOpd G x x' = true) (hy : okOpd G y y' = true)
    (h : binE op (x'.val e) (y'.val e) = some r) (hp : Placed R.H [] nid [] H') : OpOK P o a w (Post R w nid 0 H' (.d r)) := by
  obtain ⟨u, h1, h2⟩ := binE_ok (P := P) t x y (pre.opd hx) (pre.opd hy) h
  exact opOK_v (s := do eqGuard op t x y (a.eval x) (a.eval y); binOp op t (a.eval x) (a.eval y)) (by unfold execOp; rw [hop]) h1 (Post.stay pre.ok hp h2)
theorem s_un (pre : Pre G R w e a Hm) {op : UnOp} {t : TypeId} {x : Operand} {x' : Opd} {r : D} (hop : o.op = .unOp op t x) (hx : okOpd G x x' = true)
    (h : unE op (x'.val e) = some r) (hp : Placed R.H [] nid [] H') : OpOK P o a w (Post R w nid 0 H' (.d r)) := by
  have hv := pre.opd hx
  unfold unE at h
  split at h
  · rename_i b hb
    rw [hb] at hv
    simp only [Option.some.injEq] at h
    subst h
    exact opOK_v (s := Op.unary .not (a.eval x)) (u := .bool !b) (by unfold execOp; rw [hop]) (by rw [denB hv]; rfl) (Post.stay pre.ok hp rfl)
  · rename_i k n hb
    rw [hb] at hv
    simp only [Option.some.injEq] at h
    subst h
    exact opOK_v (s := Op.unary .neg (a.eval x)) (u := .int k (k.wrap (0 - n))) (by unfold execOp; rw [hop]) (by rw [denI hv]; rfl) (Post.stay pre.ok hp rfl)
  · cases h
theorem s_conv (pre : Pre G R w e a Hm) {s t : TypeId} {k k0 : IntKind} {n : Int} {ds : TypeDesc} {x : Operand} {x' : Opd} (hop : o.op = .convert s t x) (hx : okOpd G x x' = true) (hs : P.underlying s = some ds) (ht : P.underlying t = some (.int k))
    (h : x'.val e = .d (.int k0 n)) (hp : Placed R.H [] nid [] H') : OpOK P o a w (Post R w nid 0 H' (.d (.int k (k.wrap n)))) := by
  have hv := pre.opd hx
  rw [h] at hv
  refine opOK_v (s := convert s t (a.eval x)) (u := .int k (k.wrap n)) (by unfold execOp; rw [hop]) ?_ (Post.stay pre.ok hp rfl)
  rw [denI hv]
  simp [convert, run_underlying hs, run_underlying ht, Conv.intToInt]
theorem s_extract (pre : Pre G R w e a Hm) {x : Operand} {x' : Opd} {i : Nat} {v : V} (hop : o.op = .extract x i) (hx : okOpd G x x' = true)
    (h : (∃ vs, x'.val e = .tup vs ∧ nth vs i = some v) ∨ (∃ vs y, x'.val e = .d (.tup vs) ∧ nth vs i = some y ∧ v = .d y)) (hp : Placed R.H [] nid [] H') : OpOK P o a w (Post R w nid 0 H' v) := by
  have hv := pre.opd hx
  rcases h with ⟨vs, h1, h2⟩ | ⟨vs, y, h1, h2, rfl⟩
  · rw [h1] at hv
    obtain ⟨us, h3, h4⟩ := hv
    rw [nth_eq] at h2
    obtain ⟨u, h5, h6⟩ := denVs_at vs us i v h4 h2
    exact opOK_v (s := Instr.extract (a.eval x) i) (u := u) (by unfold execOp; rw [hop]) (by rw [h3]; simp [Instr.extract, h5]) (Post.stay pre.ok hp h6)
  · rw [h1] at hv
    obtain ⟨us, h3, h4⟩ := hv
    rw [nth_eq] at h2
    obtain ⟨u, h5, h6⟩ := denDs_at vs us i y h4 h2
    exact opOK_v (s := Instr.extract (a.eval x) i) (u := u) (by unfold execOp; rw [hop]) (by rw [h3]; simp [Instr.extract, h5]) (Post.stay pre.ok hp h6)
theorem s_mkfn (pre : Pre G R w e a Hm) {f : Nat} {first caps : Array Operand} {ys : List Opd} (hop : o.op = .makeFunc (.func f) first caps) (hf : first = #[]) (hx : okOpds G caps.toList ys = true) (hp : Placed R.H [] nid [] H') :
    OpOK P o a w (Post R w nid 0 H' (match ys with | [] => .d (.fn f []) | ys => .fn f (vals e ys))) := by
  subst hf
  have hv := pre.opds hx
  refine opOK_v (s := Instr.makeFunc (.func f) (#[].map a.eval) (caps.map a.eval)) (u := .func (.func f) #[] (caps.toList.map a.eval).toArray) (by unfold execOp; rw [hop]) (by
    have hc : caps.map a.eval = (caps.toList.map a.eval).toArray := by apply Array.ext'; simp
    rw [hc]; simp [Instr.makeFunc]) (Post.stay pre.ok hp ?_)
  cases ys with
  | nil =>
    simp only [vals, DenVs] at hv
    exact ⟨[], by simp [hv], rfl⟩
  | cons y ys => exact ⟨_, rfl, hv⟩
end
end Go.Proofs.YtakebhleglnpjaaDoorE

namespace Go.Proofs.YtakebhleglnpjaaDoorE
open Go
set_option linter.unusedVariables false
set_option linter.unusedSimpArgs false
section
variable {P : Program} {G : Globs} {R : RP} {w : World} {e : Env} {a : Act} {Hm H' : Heap} {nid : Nat} {o : Oper}
theorem part_ok {n : Nat} {ag : Bool} {cs : List V} {us : List Value} {v : V} {t : TypeId} {off : Nat} (hd : DenVs R w cs us) (hag : aggOf P t = some ag) (hsz : szOf P t = some n) (h : oneCell n ag (cs.drop off) = some v) :
    ∃ u, (part t us.toArray off).run P w = .ok u w ∧ DenV R w v u := by
  unfold oneCell at h
  cases ag with
  | false =>
    simp only [cond_false] at h
    rw [List.head?_eq_getElem?, List.getElem?_drop] at h
    obtain ⟨u, h1, h2⟩ := denVs_at cs us _ v hd h
    refine ⟨u, ?_, h2⟩
    simp only [Nat.add_zero] at h1
    simp [part, run_isAgg hag, h1]
  | true =>
    simp only [cond_true] at h
    cases hl : Nat.beq ((cs.drop off).take n).length n with
    | false => rw [hl] at h; cases h
    | true =>
      rw [hl] at h
      simp only [cond_true, Option.some.injEq] at h
      subst h
      have hl' : ((cs.drop off).take n).length = n := Nat.eq_of_beq_eq_true hl
      refine ⟨.agg (((us.drop off).take n).toArray), ?_, mkAgg_ok (denVs_mk _ _ ?_ ?_)⟩
      · simp [part, run_isAgg hag, run_sizeOf hsz, List.drop_take]
      · have := denVs_len cs us hd
        simp only [List.length_take, List.length_drop] at hl' ⊢
        omega
      · intro j v u hv hu
        have hj : j < n := by have := (List.getElem?_eq_some_iff.1 hv).1; omega
        rw [List.getElem?_take, if_pos hj, List.getElem?_drop] at hv hu
        obtain ⟨u', g1, g2⟩ := denVs_at cs us _ v hd hv
        rw [hu] at g1; cases g1; exact g2
theorem s_field (pre : Pre G R w e a Hm) {s t : TypeId} {f off n : Nat} {ag : Bool} {x : Operand} {y : Opd} {v : V} (hop : o.op = .field s x f) (hx : okOpd G x y = true) (hf : fieldOf P s f = some (off, t)) (hag : aggOf P t = some ag) (hsz : szOf P t = some n)
    (h : (∃ cs, y.val e = .d (.agg cs) ∧ oneCell n ag (mapd (cs.drop off)) = some v) ∨ (∃ cs, y.val e = .agg cs ∧ oneCell n ag (cs.drop off) = some v)) (hp : Placed R.H [] nid [] H') : OpOK P o a w (Post R w nid 0 H' v) := by
  obtain ⟨fields, fd, h1, h2, rfl, rfl⟩ := fieldOf_spec hf
  have hv := pre.opd hx
  have key : ∃ us : List Value, a.eval x = .agg us.toArray ∧ ∃ u, (part fd.type us.toArray fd.offset).run P w = .ok u w ∧ DenV R w v u := by
    rcases h with ⟨cs, h3, h4⟩ | ⟨cs, h3, h4⟩
    · rw [h3] at hv
      obtain ⟨us, h5, h6⟩ := hv
      refine ⟨us, h5, part_ok (cs := mapd cs) ((denVs_mapd cs us).2 h6) hag hsz ?_⟩
      rw [mapd_eq] at h4 ⊢
      rw [← List.map_drop]; exact h4
    · rw [h3] at hv
      obtain ⟨us, h5, h6⟩ := hv
      exact ⟨us, h5, part_ok h6 hag hsz h4⟩
  obtain ⟨us, h5, u, h6, h7⟩ := key
  exact opOK_v (s := Instr.field s (a.eval x) f) (by unfold execOp; rw [hop]) (by rw [h5]; simp [Instr.field, run_underlying h1, h2, asAgg, h6]) (Post.stay pre.ok hp h7)
def arrOf (P : Program) (t : TypeId) : Option (Nat × TypeId) := match P.underlying t with | some (.array n e) => some (n, e) | _ => none
theorem arrOf_spec {t el : TypeId} {n : Nat} (h : arrOf P t = some (n, el)) : P.underlying t = some (.array n el) := by
  unfold arrOf at h; split at h <;> simp_all
def slOf (P : Program) (t : TypeId) : Option TypeId := match P.underlying t with | some (.slice e) => some e | _ => none
theorem slOf_spec {t el : TypeId} (h : slOf P t = some el) : P.underlying t = some (.slice el) := by
  unfold slOf at h; split at h <;> simp_all
theorem s_index (pre : Pre G R w e a Hm) {t el : TypeId} {len n : Nat} {ag : Bool} {x i : Operand} {y j : Opd} {v : V} (hop : o.op = .index t x i) (hx : okOpd G x y = true) (hi : okOpd G i j = true) (ht : arrOf P t = some (len, el)) (hag : aggOf P el = some ag) (hsz : szOf P el = some n)
    (h : indexE len n ag (y.val e) (j.val e) = some v) (hp : Placed R.H [] nid [] H') : OpOK P o a w (Post R w nid 0 H' v) := by
  have hv := pre.opd hx
  have hiv := pre.opd hi
  unfold indexE at h
  split at h
  · rename_i k m hj
    rw [hj] at hiv
    cases hc : ((y.val e).isAggV && (decide (0 ≤ m) && decide (m < len))) with
    | false => rw [hc] at h; cases h
    | true =>
      rw [hc] at h
      simp only [cond_true] at h
      simp only [Bool.and_eq_true, decide_eq_true_eq] at hc
      obtain ⟨hav, hc⟩ := hc
      have hagg : (∃ cs, y.val e = .d (.agg cs)) ∨ ∃ cs, y.val e = .agg cs := by
        unfold V.isAggV at hav
        split at hav
        · rename_i cs hv'; exact .inl ⟨cs, hv'⟩
        · rename_i cs hv'; exact .inr ⟨cs, hv'⟩
        · cases hav
      have hb : (y.val e).okb = true := by rcases hagg with ⟨cs, h3⟩ | ⟨cs, h3⟩ <;> rw [h3] <;> rfl
      have hcs := cells_ok hv hb
      have hag' : ∃ us, a.eval x = .agg us := by
        rcases hagg with ⟨cs, h3⟩ | ⟨cs, h3⟩ <;> (rw [h3] at hv; obtain ⟨us, h5, _⟩ := hv; exact ⟨_, h5⟩)
      obtain ⟨us, hus⟩ := hag'
      rw [hus] at hcs
      obtain ⟨u, h1, h2⟩ := part_ok (P := P) hcs hag hsz h
      refine opOK_v (s := Instr.index t (a.eval x) (a.eval i)) (u := u) (by unfold execOp; rw [hop]) ?_ (Post.stay pre.ok hp h2)
      rw [hus, denI hiv]
      simp only [Value.cells, Array.toArray_toList] at h1
      simp [Instr.index, asIntOf, run_underlying (arrOf_spec ht), hc, run_sizeOf hsz, h1]
  · cases h
theorem s_indexS (pre : Pre G R w e a Hm) {t : TypeId} {x i : Operand} {y j : Opd} {v : V} (hop : o.op = .index t x i) (hx : okOpd G x y = true) (hi : okOpd G i j = true) (ht : P.underlying t = some .string)
    (h : indexSE (y.val e) (j.val e) = some v) (hp : Placed R.H [] nid [] H') : OpOK P o a w (Post R w nid 0 H' v) := by
  have hv := pre.opd hx
  have hiv := pre.opd hi
  unfold indexSE at h
  split at h
  · rename_i s k m hy hj
    rw [hj] at hiv
    rw [hy] at hv
    cases hc : decide (0 ≤ m) with
    | false => rw [hc] at h; cases h
    | true =>
      rw [hc] at h
      simp only [cond_true] at h
      have h0 : 0 ≤ m := of_decide_eq_true hc
      cases hs : s[m.toNat]? with
      | none => rw [hs] at h; cases h
      | some b =>
        rw [hs] at h
        simp only [Option.some.injEq] at h
        subst h
        refine opOK_v (s := Instr.index t (a.eval x) (a.eval i)) (u := .int .u8 b.toNat) (by unfold execOp; rw [hop]) ?_ (Post.stay pre.ok hp rfl)
        rw [denI hiv, show a.eval x = .string s from hv]
        simp [Instr.index, asIntOf, run_underlying ht, h0, hs]
  · cases h
theorem slAt_real {m : Option Nat} {xs : List D} {sz of len : Nat} {u : Value} (h : SlAt w m xs sz of len u) (h0 : 0 < len ∨ of < xs.length) :
    ∃ c cs el fr cap, m = some c ∧ u = .slice (some ⟨c, of * sz, none⟩) len cap ∧ len ≤ cap ∧ w.heap[c]? = some (.cells cs el fr) ∧ cs.size = (of + cap) * sz := by
  obtain ⟨h1, ad, cap, rfl, h3, h4⟩ := h
  rcases h4 with ⟨rfl, h4⟩ | ⟨c, cs, el, fr, rfl, rfl, h6, h7⟩
  · exfalso; omega
  · exact ⟨c, cs, el, fr, cap, rfl, rfl, h3, h6, h7⟩
theorem run_indexAt {t el : TypeId} {n : Nat} {ad : Addr} {len cap : Nat} {k : IntKind} {i : Int} (ht : slOf P t = some el) (hsz : szOf P el = some n) (h0 : 0 ≤ i) (h1 : i < len) :
    (Instr.indexAt t (.slice (some ad) len cap) (.int k i)).run P w = .ok (.pointer (some (ad.add (i.toNat * n)))) w := by
  simp [Instr.indexAt, asIntOf, run_underlying (slOf_spec ht), run_sizeOf hsz, h0, h1]
theorem el_cells {A1 A0 AL : Nat → Prop} {b off : Nat} {x : D} {u : Value} (hu : DenD A1 A0 AL w x u) (hb : (V.d x).okb = true) (hc : ∀ (k : Nat) v, u.cells[k]? = some v → w.cell? ⟨b, off + k, none⟩ = some v) :
    u.cells.size = x.cells.length ∧ DenCells A1 A0 AL w b off x.cells := by
  have one : ∀ {x : D} {u : Value}, DenD A1 A0 AL w x u → u.cells = #[u] → x.cells = [x] → (∀ (k : Nat) v, u.cells[k]? = some v → w.cell? ⟨b, off + k, none⟩ = some v) → u.cells.size = x.cells.length ∧ DenCells A1 A0 AL w b off x.cells := by
    intro x u h1 h2 h3 h4
    have h5 := h4 0 u (by rw [h2]; rfl)
    rw [h2, h3]
    exact ⟨rfl, ⟨u, by simpa using h5, h1⟩, trivial⟩
  cases x with
  | agg cs =>
    obtain ⟨us, rfl, h⟩ := hu
    refine ⟨by simpa [Value.cells, D.cells] using denDs_len cs us h, denCells_mk _ _ fun j y hj => ?_⟩
    obtain ⟨u, h1, h2⟩ := denDs_at cs us j y h hj
    exact ⟨u, hc j u (by simpa [Value.cells] using h1), h2⟩
  | tup cs => simp [V.okb] at hb
  | bool b => cases hu; exact one (x := .bool b) rfl rfl rfl hc
  | int k n => cases hu; exact one (x := .int k n) rfl rfl rfl hc
  | str s => cases hu; exact one (x := .str s) rfl rfl rfl hc
  | nilfn => cases hu; exact one (x := .nilfn) rfl rfl rfl hc
  | nilp => cases hu; exact one (x := .nilp) rfl rfl rfl hc
  | nilI => cases hu; exact one (x := .nilI) rfl rfl rfl hc
  | list own xs =>
    have hu' := hu
    obtain ⟨ad, len, cap, rfl, _⟩ := hu'
    exact one hu rfl rfl hc
  | fn f caps =>
    have hu' := hu
    obtain ⟨us, rfl, _⟩ := hu'
    exact one hu rfl rfl hc
  | rptr cs =>
    have hu' := hu
    obtain ⟨b', off', rfl, _⟩ := hu'
    exact one hu rfl rfl hc
  | iface t v =>
    have hu' := hu
    obtain ⟨u', rfl, _⟩ := hu'
    exact one hu rfl rfl hc
theorem own_sl (pre : Pre G R w e a Hm) {b sz : Nat} {xs : List D} {u : Value} (hb : nth Hm b = some (.arr sz xs)) (h : DenV R w (.sl b sz) u) :
    ∃ m, R.M b = some m ∧ nth R.H b = some (.arr sz xs) ∧ BlkOK R w m (.arr sz xs) ∧ SlAt w m xs sz 0 xs.length u := by
  have hb' := pre.le b _ hb (by simp)
  obtain ⟨_, m, h1, h2⟩ := h
  exact ⟨m, h1, hb', pre.ok.blk b _ _ (by rw [← nth_eq]; exact hb') h1, h2 xs hb'⟩
theorem own_slp (pre : Pre G R w e a Hm) {b sz o len : Nat} {xs : List D} {u : Value} (hb : nth Hm b = some (.arr sz xs)) (h : DenV R w (.slp b sz o len) u) :
    ∃ m, R.M b = some m ∧ nth R.H b = some (.arr sz xs) ∧ BlkOK R w m (.arr sz xs) ∧ SlAt w m xs sz o len u := by
  have hb' := pre.le b _ hb (by simp)
  obtain ⟨_, m, h1, h2⟩ := h
  exact ⟨m, h1, hb', pre.ok.blk b _ _ (by rw [← nth_eq]; exact hb') h1, h2 xs hb'⟩
theorem s_iaddr (pre : Pre G R w e a Hm) {t el : TypeId} {n : Nat} {x i : Operand} {y j : Opd} {v : V} (hop : o.op = .indexAddr t x i) (hx : okOpd G x y = true) (hi : okOpd G i j = true) (ht : slOf P t = some el) (hsz : szOf P el = some n)
    (h : iaddrE Hm n (y.val e) (j.val e) = some v) (hp : Placed R.H [] nid [] H') : OpOK P o a w (Post R w nid 0 H' v) := by
  have hv := pre.opd hx
  have hiv := pre.opd hi
  unfold iaddrE at h
  have fin : ∀ {k : IntKind} {m : Int} {ad : Addr} {len cap : Nat} , a.eval i = .int k m → a.eval x = .slice (some ad) len cap → 0 ≤ m → m < len → DenV R w v (.pointer (some (ad.add (m.toNat * n)))) → OpOK P o a w (Post R w nid 0 H' v) :=
    fun h1 h2 h3 h4 h5 => opOK_v (s := Instr.indexAt t (a.eval x) (a.eval i)) (by unfold execOp; rw [hop]) (by rw [h1, h2]; exact run_indexAt ht hsz h3 h4) (Post.stay pre.ok hp h5)
  split at h
  · rename_i k m hj
    rw [hj] at hiv
    split at h
    · rename_i own xs hy
      rw [hy] at hv
      cases hg : getI xs m with
      | none => rw [hg] at h; cases h
      | some z =>
        rw [hg] at h
        dsimp only at h
        cases hc : (Nat.beq z.cells.length n && (V.d z).okb) with
        | false => rw [hc] at h; cases h
        | true =>
          rw [hc] at h
          simp only [cond_true, Option.some.injEq] at h
          subst h
          simp only [Bool.and_eq_true] at hc
          obtain ⟨h0, h1, h2⟩ := getI_eq xs m z hg
          obtain ⟨ad, len, cap, e1, rfl, e3, e4, e5⟩ := hv
          obtain ⟨b, off, sz, rfl, f2, f3, f4⟩ := e5 (by intro hn; rw [hn] at h2; simp at h2)
          obtain ⟨u, g1, g2, g3⟩ := denEls_at xs off m.toNat z f4 h2
          obtain ⟨q1, q2⟩ := el_cells (b := b) (off := off + m.toNat * sz) g1 hc.2 g3
          have hn : sz = n := by rw [← g2, q1]; exact Nat.eq_of_beq_eq_true hc.1
          subst hn
          refine fin (denI hiv) e1 h0 h1 ⟨b, off + m.toNat * sz, by rw [Addr.add_lit], ?_, f3, q2⟩
          cases own
          · exact f2
          · exact ⟨f2.1, fun hb => f2.2 (pre.ok.b01 _ hb)⟩
    · rename_i b sz' hy
      rw [hy] at hv
      cases hb : nth Hm b with
      | none => rw [hb] at h; cases h
      | some blk =>
        rw [hb] at h
        cases blk <;> try (cases h; done)
        rename_i sz'' xs
        dsimp only at h
        cases hs : (Nat.beq n sz' && Nat.beq n sz'') with
        | false => rw [hs] at h; cases h
        | true =>
          rw [hs] at h
          simp only [Bool.and_eq_true] at hs
          obtain rfl := Nat.eq_of_beq_eq_true hs.1
          obtain rfl := Nat.eq_of_beq_eq_true hs.2
          simp only [cond_true] at h
          cases hg : getI xs m with
          | none => rw [hg] at h; cases h
          | some z =>
            rw [hg] at h
            simp only [Option.some.injEq] at h
            subst h
            obtain ⟨h0, h1, h2⟩ := getI_eq xs m z hg
            obtain ⟨mm, q1, q2, q3, q4⟩ := own_sl pre hb hv
            obtain ⟨c, cs, el', fr, cap, rfl, e1, e2, e3, e4⟩ := slAt_real q4 (.inr (by omega))
            refine fin (denI hiv) e1 h0 h1 ⟨⟨_, rfl⟩, some c, q1, fun _ _ => ⟨c, rfl, ?_⟩⟩
            rw [Addr.add_lit, Nat.zero_mul, Nat.zero_add]; rfl
    · rename_i b sz' of ln hy
      rw [hy] at hv
      cases hb : nth Hm b with
      | none => rw [hb] at h; cases h
      | some blk =>
        rw [hb] at h
        cases blk <;> try (cases h; done)
        rename_i sz'' xs
        dsimp only at h
        cases hs : (Nat.beq n sz' && Nat.beq n sz'') with
        | false => rw [hs] at h; cases h
        | true =>
          rw [hs] at h
          simp only [Bool.and_eq_true] at hs
          obtain rfl := Nat.eq_of_beq_eq_true hs.1
          obtain rfl := Nat.eq_of_beq_eq_true hs.2
          simp only [cond_true] at h
          cases hg : getI ((xs.drop of).take ln) m with
          | none => rw [hg] at h; cases h
          | some z =>
            rw [hg] at h
            simp only [Option.some.injEq] at h
            subst h
            obtain ⟨h0, h1, h2⟩ := getI_eq _ m z hg
            simp only [List.length_take, List.length_drop] at h1
            obtain ⟨mm, q1, q2, q3, q4⟩ := own_slp pre hb hv
            obtain ⟨c, cs, el', fr, cap, rfl, e1, e2, e3, e4⟩ := slAt_real q4 (.inr (by omega))
            refine fin (denI hiv) e1 h0 (by omega) ⟨⟨_, rfl⟩, some c, q1, fun _ _ => ⟨c, rfl, ?_⟩⟩
            rw [Addr.add_lit, Nat.add_mul]; rfl
    · cases h
  · cases h
end
end Go.Proofs.YtakebhleglnpjaaDoorE

namespace Go.Proofs.YtakebhleglnpjaaDoorE
open Go
set_option linter.unusedVariables false
set_option linter.unusedSimpArgs false
section
variable {P : Program} {G : Globs} {R : RP} {w : World} {e : Env} {a : Act} {Hm H' : Heap} {nid : Nat} {o : Oper}
theorem s_iaddrA (pre : Pre G R w e a Hm) {t el : TypeId} {n len : Nat} {x i : Operand} {y j : Opd} {v : V} (hop : o.op = .indexAddr t x i) (hx : okOpd G x y = true) (hi : okOpd G i j = true) (ht : arrOf P t = some (len, el)) (hsz : szOf P el = some n)
    (h : iaddrAE Hm len n (y.val e) (j.val e) = some v) (hp : Placed R.H [] nid [] H') : OpOK P o a w (Post R w nid 0 H' v) := by
  have hv := pre.opd hx
  have hiv := pre.opd hi
  unfold iaddrAE at h
  split at h
  · rename_i k m hj
    rw [hj] at hiv
    cases hc : (decide (0 ≤ m) && decide (m < len)) with
    | false => rw [hc] at h; cases h
    | true =>
      rw [hc] at h
      simp only [cond_true] at h
      simp only [Bool.and_eq_true, decide_eq_true_eq] at hc
      obtain ⟨ad, h1, h2⟩ := faddr_ok pre hv h
      refine opOK_v (s := Instr.indexAt t (a.eval x) (a.eval i)) (by unfold execOp; rw [hop]) ?_ (Post.stay pre.ok hp h2)
      rw [h1, denI hiv]
      simp [Instr.indexAt, asIntOf, Instr.sureAddr, run_underlying (arrOf_spec ht), run_sizeOf hsz, hc]
  · cases h
theorem elems_len (pre : Pre G R w e a Hm) {x : V} {xs : List D} {u : Value} (hx : DenV R w x u) (h : elems Hm x = some xs) : ∃ ad cap, u = .slice ad xs.length cap ∧ xs.length ≤ cap := by
  unfold elems at h
  split at h
  · rename_i own xs'
    simp only [Option.some.injEq] at h
    subst h
    obtain ⟨ad, len, cap, rfl, rfl, e3, _⟩ := hx
    exact ⟨ad, cap, rfl, e3⟩
  · rename_i b sz
    cases hb : nth Hm b with
    | none => rw [hb] at h; cases h
    | some blk =>
      rw [hb] at h
      cases blk <;> try (cases h; done)
      rename_i sz' xs'
      dsimp only at h
      cases hs : Nat.beq sz sz' with
      | false => rw [hs] at h; cases h
      | true =>
        rw [hs] at h
        simp only [cond_true, Option.some.injEq] at h
        subst h
        obtain rfl := Nat.eq_of_beq_eq_true hs
        obtain ⟨m, q1, q2, q3, q4, ad, cap, rfl, q5, _⟩ := own_sl pre hb hx
        exact ⟨ad, cap, rfl, q5⟩
  · rename_i b sz of len
    cases hb : nth Hm b with
    | none => rw [hb] at h; cases h
    | some blk =>
      rw [hb] at h
      cases blk <;> try (cases h; done)
      rename_i sz' xs'
      dsimp only at h
      cases hs : Nat.beq sz sz' with
      | false => rw [hs] at h; cases h
      | true =>
        rw [hs] at h
        simp only [cond_true, Option.some.injEq] at h
        subst h
        obtain rfl := Nat.eq_of_beq_eq_true hs
        obtain ⟨m, q1, q2, q3, q4, ad, cap, rfl, q5, _⟩ := own_slp pre hb hx
        have : ((xs'.drop of).take len).length = len := by simp only [List.length_take, List.length_drop]; omega
        rw [this]
        exact ⟨ad, cap, rfl, q5⟩
  · simp only [Option.some.injEq] at h
    subst h
    obtain ⟨ad, rfl⟩ := hx
    exact ⟨ad, 0, rfl, Nat.le_refl _⟩
  · cases h
theorem exec_builtin {b : Builtin} {xs : Array Operand} {ats : Array TypeId} (hop : o.op = .call { callee := .builtin b, args := xs, argTypes := ats }) :
    execOp a.eval o = builtin b ats o.type (xs.map fun | .const _ => true | _ => false) (xs.map a.eval) := by
  obtain ⟨dst, op, ty, pos, after, guard⟩ := o
  simp only at hop
  subst hop
  rfl
theorem s_len (pre : Pre G R w e a Hm) {t el : TypeId} {x : Operand} {y : Opd} {r : D} (hop : o.op = .call { callee := .builtin .len, args := #[x], argTypes := #[t] }) (hx : okOpd G x y = true) (ht : slOf P t = some el)
    (h : lenE Hm (y.val e) = some r) (hp : Placed R.H [] nid [] H') : OpOK P o a w (Post R w nid 0 H' (.d r)) := by
  have hv := pre.opd hx
  unfold lenE at h
  cases hes : elems Hm (y.val e) with
  | none => rw [hes] at h; cases h
  | some xs =>
    rw [hes] at h
    simp only [Option.some.injEq] at h
    subst h
    obtain ⟨ad, cap, h1, _⟩ := elems_len pre hv hes
    refine opOK_v (s := Builtin.len_ #[t] o.type #[a.eval x]) (u := .int .i64 xs.length) (by rw [exec_builtin hop, BigFrame.builtin_len]; simp) ?_ (Post.stay pre.ok hp rfl)
    rw [h1]
    simp [Builtin.len_, run_underlying (slOf_spec ht), goInt]
def BndOK (x : Option Value) (d l : Nat) : Prop := (x = none ∧ l = d) ∨ ∃ k, x = some (.int k (l : Int))
theorem run_sl {t el : TypeId} {sz : Nat} {ad : Option Addr} {len cap l h : Nat} {lo hi : Option Value} (ht : slOf P t = some el) (hsz : szOf P el = some sz) (h1 : BndOK lo 0 l) (h2 : BndOK hi len h) (h3 : l ≤ h) (h4 : h ≤ cap) (h5 : len ≤ cap) :
    (Instr.sliceAt t (.slice ad len cap) lo hi none).run P w = .ok (.slice (if cap = l then ad else ad.map (·.add (l * sz))) (h - l) (cap - l)) w := by
  have ht' := slOf_spec ht
  rcases h1 with ⟨rfl, rfl⟩ | ⟨k1, rfl⟩ <;> rcases h2 with ⟨rfl, rfl⟩ | ⟨k2, rfl⟩ <;>
    simp [Instr.sliceAt, Instr.slice, run_underlying ht', Instr.sliceBounds, Instr.sliceBound, asIntOf, run_sizeOf hsz, *]
theorem run_sl3 {t el : TypeId} {sz : Nat} {ad : Option Addr} {len cap l h m : Nat} {lo hi mx : Option Value} (ht : slOf P t = some el) (hsz : szOf P el = some sz) (h1 : BndOK lo 0 l) (h2 : ∃ k, hi = some (.int k (h : Int))) (h6 : ∃ k, mx = some (.int k (m : Int))) (h3 : l ≤ h) (h4 : h ≤ m) (h5 : m ≤ cap) :
    (Instr.sliceAt t (.slice ad len cap) lo hi mx).run P w = .ok (.slice (if m = l then ad else ad.map (·.add (l * sz))) (h - l) (m - l)) w := by
  have ht' := slOf_spec ht
  obtain ⟨k2, rfl⟩ := h2
  obtain ⟨k3, rfl⟩ := h6
  rcases h1 with ⟨rfl, rfl⟩ | ⟨k1, rfl⟩ <;>
    simp [Instr.sliceAt, Instr.slice, run_underlying ht', Instr.sliceBounds, Instr.sliceBound, asIntOf, run_sizeOf hsz, *]
def okOpdO (G : Globs) : Option Operand → Option Opd → Bool
  | none, none => true
  | some x, some y => okOpd G x y
  | _, _ => false
theorem bnd_ok (pre : Pre G R w e a Hm) {x : Option Operand} {y : Option Opd} {d l : Nat} (hx : okOpdO G x y = true) (h : asNat (y.map (·.val e)) d = some l) : BndOK (x.map a.eval) d l := by
  cases x with
  | none =>
    cases y with
    | some y => cases hx
    | none => simp [asNat] at h; exact .inl ⟨rfl, h.symm⟩
  | some x =>
    cases y with
    | none => cases hx
    | some y =>
      have hv := pre.opd (x := x) (y := y) hx
      simp only [Option.map_some] at h
      unfold asNat at h
      split at h
      · cases ‹some _ = none›
      · rename_i k n hy
        simp only [Option.some.injEq] at hy
        rw [hy] at hv
        cases h0 : decide (0 ≤ n) with
        | false => rw [h0] at h; cases h
        | true =>
          rw [h0] at h
          simp only [cond_true, Option.some.injEq] at h
          have h0' : 0 ≤ n := of_decide_eq_true h0
          refine .inr ⟨k, ?_⟩
          simp only [Option.map_some]
          rw [denI hv, ← h, Int.toNat_of_nonneg h0']
      · cases h
theorem s_slice (pre : Pre G R w e a Hm) {t el : TypeId} {n : Nat} {x : Operand} {y : Opd} {lo hi mx : Option Operand} {lo' hi' mx' : Option Opd} {v : V} (hop : o.op = .slice t x lo hi mx) (hx : okOpd G x y = true)
    (hlo : okOpdO G lo lo' = true) (hhi : okOpdO G hi hi' = true) (hmx : okOpdO G mx mx' = true) (hh : mx'.isSome = true → hi'.isSome = true) (ht : slOf P t = some el) (hsz : szOf P el = some n)
    (h : sliceE Hm n (y.val e) (lo'.map (·.val e)) (hi'.map (·.val e)) (mx'.map (·.val e)) = some v) (hp : Placed R.H [] nid [] H') : OpOK P o a w (Post R w nid 0 H' v) := by
  have hv := pre.opd hx
  unfold sliceE at h
  cases hes : elems Hm (y.val e) with
  | none => rw [hes] at h; cases h
  | some xs =>
    rw [hes] at h
    dsimp only at h
    cases hl : asNat (lo'.map (·.val e)) 0 with
    | none => rw [hl] at h; cases h
    | some l =>
      rw [hl] at h
      cases hhn : asNat (hi'.map (·.val e)) xs.length with
      | none => rw [hhn] at h; cases h
      | some hn =>
        rw [hhn] at h
        dsimp only at h
        cases hc : (Nat.ble l hn && Nat.ble hn xs.length) with
        | false => rw [hc] at h; cases h
        | true =>
          rw [hc] at h
          simp only [cond_true] at h
          simp only [Bool.and_eq_true, Nat.ble_eq] at hc
          obtain ⟨c1, c2⟩ := hc
          obtain ⟨ad, cap, q1, q2⟩ := elems_len pre hv hes
          have b1 := bnd_ok pre hlo hl
          have b2 := bnd_ok pre hhi hhn
          have fin : DenV R w v (.slice (if cap = l then ad else ad.map (·.add (l * n))) (hn - l) (cap - l)) → mx = none → OpOK P o a w (Post R w nid 0 H' v) := fun h5 hm =>
            opOK_v (s := Instr.sliceAt t (a.eval x) (lo.map a.eval) (hi.map a.eval) (mx.map a.eval)) (by unfold execOp; rw [hop]) (by rw [q1, hm]; exact run_sl ht hsz b1 b2 c1 (by omega) q2) (Post.stay pre.ok hp h5)
          cases mx' with
          | none =>
            have hm : mx = none := by cases mx with | none => rfl | some m => cases hmx
            simp only [Option.map_none] at h
            refine fin ?_ hm
            rw [q1] at hv
            cases hy : y.val e <;> rw [hy] at h hv hes <;> try (cases h; done)
            · rename_i z
              cases z <;> try (cases h; done)
              rename_i own xs'
              simp only [elems, Option.some.injEq] at hes
              subst hes
              dsimp only at h
              cases hg : (Nat.beq l 0 || szAt n xs' l) with
              | false => rw [hg] at h; cases h
              | true =>
                rw [hg] at h
                simp only [cond_true, Option.some.injEq] at h
                subst h
                obtain ⟨ad', len', cap', e1, e2, e3, e4, e5⟩ := hv
                cases e1
                have hlen : ((xs'.drop l).take (hn - l)).length = hn - l := by simp only [List.length_take, List.length_drop]; omega
                refine ⟨_, _, _, rfl, hlen.symm, by omega, fun z hz => e4 z (List.mem_of_mem_drop (List.mem_of_mem_take hz)), fun hne => ?_⟩
                have hlt : l < hn := by
                  rcases Nat.lt_or_ge l hn with h | h
                  · exact h
                  · exact absurd (List.eq_nil_of_length_eq_zero (by omega)) hne
                obtain ⟨b, off, sz, rfl, f2, f3, f4⟩ := e5 (by intro hn'; rw [hn'] at c2; simp at c2; omega)
                have hcl : cap ≠ l := by omega
                have hsame : l * n = l * sz := by
                  simp only [Bool.or_eq_true] at hg
                  rcases hg with hg | hg
                  · rw [Nat.eq_of_beq_eq_true hg, Nat.zero_mul, Nat.zero_mul]
                  · have hll : l < xs'.length := by omega
                    unfold szAt at hg
                    rw [nth_eq, List.getElem?_eq_getElem hll] at hg
                    simp only [Bool.and_eq_true] at hg
                    obtain ⟨u, g1, g2, g3⟩ := denEls_at xs' off l _ f4 (List.getElem?_eq_getElem hll)
                    have := cells_ok (R := R) (v := .d xs'[l]) g1 hg.2
                    have h6 := denVs_len _ _ this
                    have hVc : (V.d xs'[l]).cells = mapd xs'[l].cells := by cases xs'[l] <;> rfl
                    rw [hVc, mapd_eq, List.length_map, Nat.eq_of_beq_eq_true hg.1] at h6
                    rw [← g2]; simp at h6; rw [h6]
                refine ⟨b, off + l * sz, sz, by rw [if_neg hcl, hsame]; simp [Addr.add_lit], f2, f3, denEls_mk _ _ fun j z hz => ?_⟩
                have hj : j < hn - l := by have := (List.getElem?_eq_some_iff.1 hz).1; omega
                rw [List.getElem?_take, if_pos hj, List.getElem?_drop] at hz
                obtain ⟨u, g1, g2, g3⟩ := denEls_at xs' off (l + j) z f4 hz
                exact ⟨u, g1, g2, fun k v hk => by rw [← g3 k v hk, Nat.add_mul]; congr 2; omega⟩
            · rename_i b sz'
              dsimp only at h
              cases hg : Nat.beq n sz' with
              | false => rw [hg] at h; cases h
              | true =>
                rw [hg] at h
                simp only [cond_true, Option.some.injEq] at h
                obtain rfl := Nat.eq_of_beq_eq_true hg
                subst h
                simp only [elems] at hes
                cases hb : nth Hm b with
                | none => rw [hb] at hes; cases hes
                | some blk =>
                  rw [hb] at hes
                  cases blk <;> try (cases hes; done)
                  rename_i sz'' xs'
                  dsimp only at hes
                  cases hs : Nat.beq n sz'' with
                  | false => rw [hs] at hes; cases hes
                  | true =>
                    rw [hs] at hes
                    simp only [cond_true, Option.some.injEq] at hes
                    obtain rfl := Nat.eq_of_beq_eq_true hs
                    subst hes
                    obtain ⟨m, r1, r2, r3, r4⟩ := own_sl pre hb hv
                    refine ⟨⟨_, _, _, rfl⟩, m, r1, fun ys hys => ?_⟩
                    rw [r2] at hys; cases hys
                    obtain ⟨_, ad', cap', s1, s2, s3⟩ := r4
                    cases s1
                    refine ⟨by omega, _, _, rfl, by omega, ?_⟩
                    rcases s3 with ⟨s3, s4⟩ | ⟨c, cs, el', fr, s4, s5, s6, s7⟩
                    · exact .inl ⟨by omega, by omega⟩
                    · by_cases hcl : cap = l
                      · exact .inl ⟨by omega, by omega⟩
                      · refine .inr ⟨c, cs, el', fr, s4, ?_, s6, ?_⟩
                        · rw [if_neg hcl, s5]; simp [Addr.add_lit]
                        · rw [s7]; congr 1; omega
            · rename_i b sz' of len
              dsimp only at h
              cases hg : Nat.beq n sz' with
              | false => rw [hg] at h; cases h
              | true =>
                rw [hg] at h
                simp only [cond_true, Option.some.injEq] at h
                obtain rfl := Nat.eq_of_beq_eq_true hg
                subst h
                simp only [elems] at hes
                cases hb : nth Hm b with
                | none => rw [hb] at hes; cases hes
                | some blk =>
                  rw [hb] at hes
                  cases blk <;> try (cases hes; done)
                  rename_i sz'' xs'
                  dsimp only at hes
                  cases hs : Nat.beq n sz'' with
                  | false => rw [hs] at hes; cases hes
                  | true =>
                    rw [hs] at hes
                    simp only [cond_true, Option.some.injEq] at hes
                    obtain rfl := Nat.eq_of_beq_eq_true hs
                    subst hes
                    obtain ⟨m, r1, r2, r3, r4⟩ := own_slp pre hb hv
                    simp only [List.length_take, List.length_drop] at c2 r4 q2
                    refine ⟨⟨_, _, _, rfl⟩, m, r1, fun ys hys => ?_⟩
                    rw [r2] at hys; cases hys
                    obtain ⟨s0, ad', cap', s1, s2, s3⟩ := r4
                    simp only [Value.slice.injEq] at s1
                    obtain ⟨rfl, _, rfl⟩ := s1
                    refine ⟨by omega, _, _, rfl, by omega, ?_⟩
                    rcases s3 with ⟨s3, s4⟩ | ⟨c, cs, el', fr, s4, s5, s6, s7⟩
                    · exact .inl ⟨by omega, by omega⟩
                    · obtain ⟨t0, _, t1⟩ := r3
                      by_cases hcl : cap = l
                      · refine .inl ⟨by omega, ?_⟩
                        rcases t1 with ⟨t1, t2⟩ | ⟨c', cs', el'', t1, t2, t3, _⟩
                        · rw [t1] at s4; cases s4
                        · rw [t1] at s4; cases s4
                          rw [t2] at s6; cases s6
                          rw [s7] at t3
                          have := Nat.le_of_mul_le_mul_right t3 t0
                          omega
                      · refine .inr ⟨c, cs, el', fr, s4, ?_, s6, ?_⟩
                        · rw [if_neg hcl, s5]; simp [Addr.add_lit, Nat.add_mul]
                        · rw [s7]; congr 1; omega
            · rename_i sz'
              simp only [Option.some.injEq] at h
              subst h
              simp only [elems, Option.some.injEq] at hes
              subst hes
              obtain ⟨ad', hv⟩ := hv
              cases hv
              simp only [List.length_nil] at c2
              obtain rfl : l = 0 := by omega
              obtain rfl : hn = 0 := by omega
              exact ⟨_, rfl⟩
          | some m' =>
            cases mx with
            | none => cases hmx
            | some m =>
              cases hhs : hi' with
              | none => rw [hhs] at hh; cases hh rfl
              | some hi1 =>
                dsimp only [Option.map_some] at h
                cases hm : asNat (some (m'.val e)) 0 with
                | none => rw [hm] at h; cases h
                | some mm =>
                  rw [hm] at h
                  dsimp only at h
                  cases hg : (Nat.beq mm l && Nat.beq mm hn) with
                  | false => rw [hg] at h; cases h
                  | true =>
                    rw [hg] at h
                    simp only [cond_true, Option.some.injEq] at h
                    subst h
                    simp only [Bool.and_eq_true] at hg
                    obtain rfl := Nat.eq_of_beq_eq_true hg.1
                    obtain rfl := Nat.eq_of_beq_eq_true hg.2
                    have b3 := bnd_ok pre (x := some m) (y := some m') hmx (by simpa using hm)
                    refine opOK_v (s := Instr.sliceAt t (a.eval x) (lo.map a.eval) (hi.map a.eval) ((some m).map a.eval)) (by unfold execOp; rw [hop]) (by
                      rw [q1]
                      refine run_sl3 ht hsz b1 ?_ ?_ c1 (Nat.le_refl _) (by omega)
                      · rcases b2 with ⟨b2, _⟩ | b2
                        · exfalso
                          cases hi with
                          | none => rw [hhs] at hhi; cases hhi
                          | some hi0 => cases b2
                        · exact b2
                      · rcases b3 with ⟨b3, _⟩ | b3
                        · cases b3
                        · exact b3) (Post.stay pre.ok hp ?_)
                    exact ⟨_, by rw [Nat.sub_self]⟩
end
end Go.Proofs.YtakebhleglnpjaaDoorE

namespace Go.Proofs.YtakebhleglnpjaaDoorE
open Go
set_option linter.unusedVariables false
set_option linter.unusedSimpArgs false
section
variable {P : Program} {G : Globs} {R : RP} {w : World} {e : Env} {a : Act} {Hm H' : Heap} {nid : Nat} {o : Oper}
theorem max_go : ∀ (vs : List V) (us : List Value) (k : IntKind) (n : Int) (r : D), DenVs R w vs us → mxE.go true k n vs = some r → ∃ u, (us.foldlM Builtin.max2 (.int k n)).run P w = .ok u w ∧ R.den w r u
  | [], us, k, n, r, hd, h => by
    simp only [mxE.go, Option.some.injEq] at h
    simp only [DenVs] at hd
    subst h; subst hd
    exact ⟨.int k n, rfl, rfl⟩
  | v :: vs, us, k, n, r, hd, h => by
    obtain ⟨u, us', rfl, h1, h2⟩ := hd
    cases v <;> try (cases h; done)
    rename_i x
    cases x <;> try (cases h; done)
    rename_i k' m
    simp only [mxE.go, cond_true] at h
    obtain ⟨u, h3, h4⟩ := max_go vs us' k _ r h2 h
    refine ⟨u, ?_, h4⟩
    cases h1
    rw [List.foldlM_cons, Sem.run_bind, ← h3]
    by_cases hlt : n < m
    · simp [Builtin.max2, hlt]
    · simp [Builtin.max2, hlt]
theorem min_go : ∀ (vs : List V) (us : List Value) (k : IntKind) (n : Int) (r : D), DenVs R w vs us → mxE.go false k n vs = some r → ∃ u, (us.foldlM Builtin.min2 (.int k n)).run P w = .ok u w ∧ R.den w r u
  | [], us, k, n, r, hd, h => by
    simp only [mxE.go, Option.some.injEq] at h
    simp only [DenVs] at hd
    subst h; subst hd
    exact ⟨.int k n, rfl, rfl⟩
  | v :: vs, us, k, n, r, hd, h => by
    obtain ⟨u, us', rfl, h1, h2⟩ := hd
    cases v <;> try (cases h; done)
    rename_i x
    cases x <;> try (cases h; done)
    rename_i k' m
    simp only [mxE.go, cond_false] at h
    obtain ⟨u, h3, h4⟩ := min_go vs us' k _ r h2 h
    refine ⟨u, ?_, h4⟩
    cases h1
    rw [List.foldlM_cons, Sem.run_bind, ← h3]
    by_cases hlt : m < n
    · simp [Builtin.min2, hlt]
    · simp [Builtin.min2, hlt]
theorem s_mx (pre : Pre G R w e a Hm) {b : Bool} {ats : Array TypeId} {xs : Array Operand} {ys : List Opd} {r : D} (hop : o.op = .call { callee := .builtin (bif b then .max else .min), args := xs, argTypes := ats }) (hx : okOpds G xs.toList ys = true)
    (h : mxE b (vals e ys) = some r) (hp : Placed R.H [] nid [] H') : OpOK P o a w (Post R w nid 0 H' (.d r)) := by
  have hv := pre.opds hx
  have hl : (xs.map a.eval).toList = xs.toList.map a.eval := by simp
  cases hvs : vals e ys with
  | nil => rw [hvs] at h; cases h
  | cons v vs =>
    rw [hvs] at h hv
    obtain ⟨u, us, hus, h1, h2⟩ := hv
    cases v <;> try (cases h; done)
    rename_i x
    cases x <;> try (cases h; done)
    rename_i k n
    cases h1
    simp only [mxE] at h
    cases b with
    | true =>
      obtain ⟨u, h3, h4⟩ := max_go (P := P) vs us k n r h2 h
      refine opOK_v (s := Builtin.max_ ats o.type (xs.map a.eval)) (u := u) (by rw [exec_builtin hop]; rfl) ?_ (Post.stay pre.ok hp h4)
      rw [Builtin.max_, hl, hus]; exact h3
    | false =>
      obtain ⟨u, h3, h4⟩ := min_go (P := P) vs us k n r h2 h
      refine opOK_v (s := Builtin.min_ ats o.type (xs.map a.eval)) (u := u) (by rw [exec_builtin hop]; rfl) ?_ (Post.stay pre.ok hp h4)
      rw [Builtin.min_, hl, hus]; exact h3
theorem s_nilck (pre : Pre G R w e a Hm) {x : Operand} {y : Opd} {v : V} (hop : o.op = .nilCheck x) (hx : okOpd G x y = true) (h : nilckE Hm (y.val e) = some v) (hp : Placed R.H [] nid [] H') : OpOK P o a w (Post R w nid 0 H' v) := by
  have hv := pre.opd hx
  have ptr : ∀ (ad : Addr) v, a.eval x = .pointer (some ad) → DenV R w v (a.eval x) → OpOK P o a w (Post R w nid 0 H' v) := fun ad v h1 h2 =>
    .val (u := a.eval x) (w' := w) (by unfold execOp; rw [hop]; simp [h1]) (Post.stay pre.ok hp h2)
  unfold nilckE at h
  split at h
  · rename_i f caps hy
    simp only [Option.some.injEq] at h
    subst h
    rw [hy] at hv
    have hv' := hv
    obtain ⟨us, h1, _⟩ := hv'
    exact .val (u := a.eval x) (w' := w) (by unfold execOp; rw [hop]; simp [h1]) (Post.stay pre.ok hp hv)
  · rename_i f caps hy
    simp only [Option.some.injEq] at h
    subst h
    rw [hy] at hv
    have hv' := hv
    obtain ⟨us, h1, _⟩ := hv'
    exact .val (u := a.eval x) (w' := w) (by unfold execOp; rw [hop]; simp [h1]) (Post.stay pre.ok hp hv)
  · rename_i t z hy
    simp only [Option.some.injEq] at h
    subst h
    rw [hy] at hv
    have hv' := hv
    obtain ⟨u', h1, _⟩ := hv'
    exact .val (u := a.eval x) (w' := w) (by unfold execOp; rw [hop]; simp [h1]) (Post.stay pre.ok hp hv)
  · cases ht : there Hm (y.val e) with
    | false => rw [ht] at h; cases h
    | true =>
      rw [ht] at h
      simp only [cond_true, Option.some.injEq] at h
      subst h
      obtain ⟨z, hz⟩ : ∃ z, faddrE Hm 0 (y.val e) = some z := by
        unfold faddrE; rw [ht]
        unfold there at ht
        cases hy : y.val e <;> rw [hy] at ht <;> try (cases ht; done)
        · rename_i d
          cases d <;> try (cases ht; done)
          exact ⟨_, rfl⟩
        · exact ⟨_, rfl⟩
        · exact ⟨_, rfl⟩
      obtain ⟨ad, h1, _⟩ := faddr_ok pre hv hz
      exact ptr ad _ h1 hv
structure Less (R R' : RP) (ks : List Nat) : Prop where
  m : R'.M = R.M
  b1 : R'.B1 = R.B1
  live : ∀ i, isLive R'.H i = true → isLive R.H i = true
  dead : ∀ k ∈ ks, isLive R'.H k = false
theorem Less.a1 {R R' : RP} {ks : List Nat} (h : Less R R' ks) : ∀ b, R.A1 b → R'.A1 b := fun b ⟨h1, h2⟩ =>
  ⟨fun ⟨i, l1, l2⟩ => h1 ⟨i, h.live i l1, by rw [← h.m]; exact l2⟩, by rw [h.b1]; exact h2⟩
theorem Less.own {R R' : RP} {ks : List Nat} (h : Less R R' ks) (ok : R.OK w) {b c : Nat} (hb : isLive R.H b = true) (hk : b ∈ ks) (hm : R.M b = some (some c)) : R'.A1 c :=
  ⟨fun ⟨i, l1, l2⟩ => by
    rw [h.m] at l2
    have := ok.inj i b c (h.live i l1) hb l2 hm
    subst this
    rw [h.dead i hk] at l1
    exact Bool.noConfusion l1, by rw [h.b1]; exact ok.nb b c hb hm⟩
theorem live_arr {H : Heap} {b sz : Nat} {xs : List D} (h : nth H b = some (.arr sz xs)) : isLive H b = true := by
  unfold isLive; rw [h]
theorem blk_els (ok : R.OK w) {c : Nat} {sz : Nat} {xs : List D} {A1' A0' AL' : Nat → Prop} (h1 : ∀ b, R.A1 b → A1' b) {l n : Nat} (hb : BlkOK R w (some c) (.arr sz xs)) (hne : (xs.drop l).take n ≠ []) :
    DenEls A1' A0' AL' w c sz (l * sz) ((xs.drop l).take n) := by
  obtain ⟨_, he, hb⟩ := hb
  rcases hb with ⟨hb, _⟩ | ⟨c', cs, el, e1, e2, e3, e4⟩
  · cases hb
  · cases e1
    refine denEls_mk _ _ fun j x hj => ?_
    rw [List.getElem?_take] at hj
    by_cases hjn : j < n
    · rw [if_pos hjn, List.getElem?_drop] at hj
      obtain ⟨u, f1, f2, f3⟩ := e4 (l + j) x hj
      refine ⟨u, DenD.lift h1 x u (he x (List.mem_of_getElem? hj)) f1, f2, fun k v hk => ?_⟩
      rw [cell_of_heap e2, ← f3 k v hk, Nat.add_mul]
    · rw [if_neg hjn] at hj; cases hj
mutual
theorem frV_esc (n : Nat) : ∀ (v : V) (y : D) (ks : List Nat), (pre : Pre G R w e a Hm) → fr Hm n v = some (y, ks) → ∀ {R' : RP} {ks' : List Nat}, Less R R' ks' → (∀ k ∈ ks, k ∈ ks') → ∀ u, DenV R w v u → (y.esc = true ∨ ∃ ts, y = .tup ts) ∧ ∀ A0' AL', DenD R'.A1 A0' AL' w y u := by
  intro v y ks pre h R' ks' hL hks u hu
  cases n with
  | zero => cases h
  | succ n =>
    simp only [fr] at h
    cases v <;> try (cases h; done)
    · rename_i x
      dsimp only at h
      split at h
      · rename_i ts
        cases he : escT ts with
        | false => rw [he] at h; cases h
        | true =>
          rw [he] at h
          simp only [cond_true, Option.some.injEq, Prod.mk.injEq] at h
          obtain ⟨rfl, _⟩ := h
          obtain ⟨us, rfl, hu⟩ := hu
          exact ⟨.inr ⟨ts, rfl⟩, fun A0' AL' => ⟨us, rfl, DenDs.liftT hL.a1 ts us he hu⟩⟩
      · cases he : x.esc with
        | false => rw [he] at h; cases h
        | true =>
          rw [he] at h
          simp only [cond_true, Option.some.injEq, Prod.mk.injEq] at h
          obtain ⟨rfl, _⟩ := h
          exact ⟨.inl he, fun A0' AL' => DenD.lift hL.a1 x u he hu⟩
    · rename_i b sz
      dsimp only at h
      cases hb : nth Hm b with
      | none => rw [hb] at h; cases h
      | some blk =>
        rw [hb] at h
        cases blk <;> try (cases h; done)
        rename_i sz' xs
        dsimp only at h
        cases hs : Nat.beq sz sz' with
        | false => rw [hs] at h; cases h
        | true =>
          rw [hs] at h
          obtain rfl := Nat.eq_of_beq_eq_true hs
          simp only [cond_true, Option.some.injEq, Prod.mk.injEq] at h
          obtain ⟨rfl, rfl⟩ := h
          refine ⟨.inl rfl, fun A0' AL' => ?_⟩
          obtain ⟨m, q1, q2, q3, q4⟩ := own_sl pre hb hu
          have q5 := q4
          obtain ⟨_, ad, cap, rfl, q6, q7⟩ := q5
          refine ⟨_, _, _, rfl, rfl, q6, q3.2.1, fun hne => ?_⟩
          obtain ⟨c, cs, el, fr', cap', rfl, e1, e2, e3, e4⟩ := slAt_real q4 (.inl (List.length_pos_iff.2 hne))
          cases e1
          refine ⟨c, 0 * sz, sz, rfl, hL.own pre.ok (live_arr q2) (hks _ (by simp)) q1, pre.ok.lt _ _ q1, ?_⟩
          have := blk_els pre.ok (A0' := A0') (AL' := AL') hL.a1 (l := 0) (n := xs.length) q3 (by simpa using hne)
          simpa using this
    · rename_i b sz of len
      dsimp only at h
      cases hb : nth Hm b with
      | none => rw [hb] at h; cases h
      | some blk =>
        rw [hb] at h
        cases blk <;> try (cases h; done)
        rename_i sz' xs
        dsimp only at h
        cases hs : Nat.beq sz sz' with
        | false => rw [hs] at h; cases h
        | true =>
          rw [hs] at h
          obtain rfl := Nat.eq_of_beq_eq_true hs
          simp only [cond_true, Option.some.injEq, Prod.mk.injEq] at h
          obtain ⟨rfl, rfl⟩ := h
          refine ⟨.inl rfl, fun A0' AL' => ?_⟩
          obtain ⟨m, q1, q2, q3, q4⟩ := own_slp pre hb hu
          have q5 := q4
          obtain ⟨q8, ad, cap, rfl, q6, q7⟩ := q5
          have hlen : ((xs.drop of).take len).length = len := by simp only [List.length_take, List.length_drop]; omega
          refine ⟨_, _, _, rfl, hlen.symm, q6, fun x hx => q3.2.1 x (List.mem_of_mem_drop (List.mem_of_mem_take hx)), fun hne => ?_⟩
          obtain ⟨c, cs, el, fr', cap', rfl, e1, e2, e3, e4⟩ := slAt_real q4 (.inl (by rw [← hlen]; exact List.length_pos_iff.2 hne))
          cases e1
          exact ⟨c, of * sz, sz, rfl, hL.own pre.ok (live_arr q2) (hks _ (by simp)) q1, pre.ok.lt _ _ q1, blk_els pre.ok hL.a1 q3 hne⟩
    · simp only [Option.some.injEq, Prod.mk.injEq] at h
      obtain ⟨rfl, rfl⟩ := h
      obtain ⟨ad, rfl⟩ := hu
      exact ⟨.inl rfl, fun A0' AL' => ⟨_, _, _, rfl, rfl, Nat.le_refl _, by simp, by simp⟩⟩
    · rename_i cs
      dsimp only at h
      cases hl : frl (fr Hm n) cs with
      | none => rw [hl] at h; cases h
      | some p =>
        obtain ⟨l, ks1⟩ := p
        rw [hl] at h
        dsimp only at h
        cases he : D.escs l with
        | false => rw [he] at h; cases h
        | true =>
          rw [he] at h
          simp only [cond_true, Option.some.injEq, Prod.mk.injEq] at h
          obtain ⟨rfl, rfl⟩ := h
          obtain ⟨us, rfl, h1⟩ := hu
          have g2 := frl_esc n cs l ks1 pre hl hL hks us h1
          exact ⟨.inl he, fun A0' AL' => ⟨us, rfl, g2 A0' AL'⟩⟩
    · rename_i cs
      dsimp only at h
      cases hl : frl (fr Hm n) cs with
      | none => rw [hl] at h; cases h
      | some p =>
        obtain ⟨l, ks1⟩ := p
        rw [hl] at h
        simp only [Option.some.injEq, Prod.mk.injEq] at h
        obtain ⟨rfl, rfl⟩ := h
        obtain ⟨us, rfl, h1⟩ := hu
        have g2 := frl_esc n cs l ks1 pre hl hL hks us h1
        exact ⟨.inr ⟨_, rfl⟩, fun A0' AL' => ⟨us, rfl, g2 A0' AL'⟩⟩
termination_by (n, 0)
theorem frl_esc (n : Nat) : ∀ (vs : List V) (ys : List D) (ks : List Nat), (pre : Pre G R w e a Hm) → frl (fr Hm n) vs = some (ys, ks) → ∀ {R' : RP} {ks' : List Nat}, Less R R' ks' → (∀ k ∈ ks, k ∈ ks') → ∀ us, DenVs R w vs us → ∀ A0' AL', DenDs R'.A1 A0' AL' w ys us
  | [], ys, ks, pre, h, R', ks', hL, hks, us, hu => by
    simp only [frl, Option.some.injEq, Prod.mk.injEq] at h
    obtain ⟨rfl, rfl⟩ := h
    exact fun _ _ => hu
  | v :: vs, ys, ks, pre, h, R', ks', hL, hks, us, hu => by
    simp only [frl] at h
    cases h1 : fr Hm n v with
    | none => rw [h1] at h; cases h
    | some p =>
      obtain ⟨y, k1⟩ := p
      cases h2 : frl (fr Hm n) vs with
      | none => rw [h1, h2] at h; cases h
      | some q =>
        obtain ⟨ys', k2⟩ := q
        rw [h1, h2] at h
        simp only [Option.some.injEq, Prod.mk.injEq] at h
        obtain ⟨rfl, rfl⟩ := h
        obtain ⟨u, us', rfl, e1, e2⟩ := hu
        obtain ⟨g1, g2⟩ := frV_esc n v y k1 pre h1 hL (fun k hk => hks k (by simp [hk])) u e1
        have g4 := frl_esc n vs ys' k2 pre h2 hL (fun k hk => hks k (by simp [hk])) us' e2
        exact fun A0' AL' => ⟨u, us', rfl, g2 A0' AL', g4 A0' AL'⟩
termination_by vs => (n, vs.length + 1)
end
theorem Less.refl (R : RP) : Less R R [] := ⟨rfl, rfl, fun _ h => h, by simp⟩
theorem s_mkif (pre : Pre G R w e a Hm) {t : TypeId} {x : Operand} {y : Opd} {z : D} (hop : o.op = .makeInterface t x) (hx : okOpd G x y = true) (ht : P.concrete t = true)
    (h : fr Hm 6 (y.val e) = some (z, [])) (hp : Placed R.H [] nid [] H') : OpOK P o a w (Post R w nid 0 H' (.d (.iface t z))) := by
  have hv := pre.opd hx
  obtain ⟨_, g⟩ := frV_esc 6 _ z [] pre h (Less.refl R) (fun _ h => h) _ hv
  exact opOK_v (s := Instr.makeInterface t (a.eval x)) (by unfold execOp; rw [hop]) (run_makeInterface w t _ ht) (Post.stay pre.ok hp ⟨_, rfl, g _ _⟩)
end
end Go.Proofs.YtakebhleglnpjaaDoorE

namespace Go.Proofs.YtakebhleglnpjaaDoorE
open Go
set_option linter.unusedVariables false
set_option linter.unusedSimpArgs false
theorem setRange_len {α : Type} : ∀ (vs cs : List α) (o : Nat), (setRange cs o vs).length = cs.length
  | [], cs, o => rfl
  | v :: vs, cs, o => by rw [setRange, setRange_len vs, setAt_eq, List.length_set]
theorem setRange_get {α : Type} : ∀ (vs cs : List α) (o j : Nat), (setRange cs o vs)[j]? = if o ≤ j ∧ j < o + vs.length then (if j < cs.length then vs[j - o]? else none) else cs[j]?
  | [], cs, o, j => by rw [setRange, if_neg (by simp only [List.length_nil]; omega)]
  | v :: vs, cs, o, j => by
    rw [setRange, setRange_get vs, setAt_eq, List.length_set, List.getElem?_set]
    by_cases h1 : o = j
    · subst h1
      have hR : o ≤ o ∧ o < o + (v :: vs).length := by simp only [List.length_cons]; omega
      have hL : ¬ (o + 1 ≤ o ∧ o < o + 1 + vs.length) := by omega
      rw [if_neg hL, if_pos rfl, if_pos hR]
      by_cases h2 : o < cs.length
      · rw [if_pos h2, if_pos h2, Nat.sub_self, List.getElem?_cons_zero]
      · rw [if_neg h2, if_neg h2]
    · rw [if_neg h1]
      by_cases h2 : o + 1 ≤ j ∧ j < o + 1 + vs.length
      · have hR : o ≤ j ∧ j < o + (v :: vs).length := by simp only [List.length_cons]; omega
        rw [if_pos h2, if_pos hR]
        have : j - o = (j - (o + 1)) + 1 := by omega
        rw [this, List.getElem?_cons_succ]
      · have hR : ¬ (o ≤ j ∧ j < o + (v :: vs).length) := by simp only [List.length_cons]; omega
        rw [if_neg h2, if_neg hR]
theorem fold_set : ∀ (vs : List Value) (k off : Nat) (cs : Array Value), ((vs.zipIdx k).foldl (fun cs (p : Value × Nat) => cs.setIfInBounds (off + p.2) p.1) cs).toList = setRange cs.toList (off + k) vs
  | [], k, off, cs => rfl
  | v :: vs, k, off, cs => by
    rw [List.zipIdx_cons, List.foldl_cons, fold_set vs (k + 1) off, setRange, setAt_eq]
    simp [Nat.add_assoc]
section
variable {P : Program} {G : Globs} {R : RP} {w : World} {e : Env} {a : Act} {Hm H' : Heap} {nid : Nat} {o : Oper}
theorem denVs_set {cs vs : List V} {us ws : List Value} (h : DenVs R w cs us) (k : DenVs R w vs ws) (off : Nat) : DenVs R w (setRange cs off vs) (setRange us off ws) := by
  have l1 := denVs_len _ _ h
  have l2 := denVs_len _ _ k
  refine denVs_mk _ _ (by rw [setRange_len, setRange_len, l1]) fun j v u hv hu => ?_
  rw [setRange_get] at hv hu
  rw [l2] at hu
  by_cases hj : off ≤ j ∧ j < off + vs.length
  · rw [if_pos hj] at hv hu
    by_cases hc : j < cs.length
    · rw [if_pos hc] at hv
      rw [if_pos (by omega)] at hu
      obtain ⟨u', e1, e2⟩ := denVs_at _ _ _ _ k hv
      rw [hu] at e1; cases e1; exact e2
    · rw [if_neg hc] at hv; cases hv
  · rw [if_neg hj] at hv hu
    obtain ⟨u', e1, e2⟩ := denVs_at _ _ _ _ h hv
    rw [hu] at e1; cases e1; exact e2
def partsOK (G : Globs) (place : Nat → Option (Nat × Nat)) : List (Nat × Operand) → List (Nat × Nat × Opd) → Bool
  | [], [] => true
  | (i, x) :: r, (off, size, y) :: s => (match place i with | some (off', size') => Nat.beq off off' && Nat.beq size size' | none => false) && okOpd G x y && partsOK G place r s
  | _, _ => false
theorem fill_ok (pre : Pre G R w e a Hm) {place : Nat → Option (Nat × Nat)} : ∀ (ps : List (Nat × Operand)) (qs : List (Nat × Nat × Opd)) (z : List V) (cells : Array Value) (z' : List V), partsOK G place ps qs = true → DenVs R w z cells.toList →
    fillV z (qs.map fun (o, s, x) => (o, s, x.val e)) = some z' → ∃ cells', Instr.fill place cells (ps.map fun (i, x) => (i, a.eval x)) = some cells' ∧ DenVs R w z' cells'.toList
  | [], [], z, cells, z', _, hd, h => by
    simp only [List.map_nil, fillV, Option.some.injEq] at h
    subst h
    exact ⟨cells, rfl, hd⟩
  | [], _ :: _, z, cells, z', hp, _, _ => by cases hp
  | _ :: _, [], z, cells, z', hp, _, _ => by cases hp
  | (i, x) :: ps, (off, size, y) :: qs, z, cells, z', hp, hd, h => by
    simp only [partsOK, Bool.and_eq_true] at hp
    obtain ⟨⟨h1, h2⟩, h3⟩ := hp
    cases hpl : place i with
    | none => rw [hpl] at h1; cases h1
    | some q =>
      obtain ⟨off', size'⟩ := q
      rw [hpl] at h1
      simp only [Bool.and_eq_true] at h1
      obtain rfl := Nat.eq_of_beq_eq_true h1.1
      obtain rfl := Nat.eq_of_beq_eq_true h1.2
      simp only [List.map_cons, fillV] at h
      cases hc : ((y.val e).okb && Nat.beq (y.val e).cells.length size && Nat.ble (off + size) z.length) with
      | false => rw [hc] at h; cases h
      | true =>
        rw [hc] at h
        simp only [cond_true] at h
        simp only [Bool.and_eq_true, Nat.ble_eq] at hc
        have hv := pre.opd h2
        have hcs := cells_ok hv hc.1.1
        have hl := denVs_len _ _ hcs
        have hn := Nat.eq_of_beq_eq_true hc.1.2
        have hz := denVs_len _ _ hd
        simp only [Array.length_toList] at hl hz
        obtain ⟨cells', e1, e2⟩ := fill_ok pre ps qs (setRange z off (y.val e).cells) ((a.eval x).cells.zipIdx.foldl (fun cs (c, j) => cs.setIfInBounds (off + j) c) cells) z' h3 (by
          have : ((a.eval x).cells.zipIdx.foldl (fun cs (c, j) => cs.setIfInBounds (off + j) c) cells).toList = setRange cells.toList off (a.eval x).cells.toList := by
            rw [← Array.foldl_toList, Array.toList_zipIdx]
            exact fold_set _ 0 off cells
          rw [this]
          exact denVs_set hd hcs off) h
        refine ⟨cells', ?_, e2⟩
        simp only [List.map_cons, Instr.fill, hpl]
        rw [if_neg (by simp; omega)]
        exact e1
def placesOf (P : Program) (t : TypeId) : Option (Nat → Option (Nat × Nat)) :=
  match P.underlying t with
  | some (.array _ e) => (P.info? e).map fun ie => fun i => some (i * ie.size, ie.size)
  | some (.struct fields) => (fields.toList.mapM (fun f => (P.info? f.type).map fun i => (f.offset, i.size))).map fun places => (places.toArray[·]?)
  | _ => none
def zeroOf (P : Program) (t : TypeId) : Option Value := match P.info? t with | some i => i.zero | none => none
theorem s_build (pre : Pre G R w e a Hm) {t : TypeId} {parts : Array (Nat × Operand)} {z : List V} {ps : List (Nat × Nat × Opd)} {cs : List V} {place : Nat → Option (Nat × Nat)} {zv : Value} (hop : o.op = .build t parts)
    (hpl : placesOf P t = some place) (hz : zeroOf P t = some zv) (hzc : cvs z zv.cells.toList = true) (hps : partsOK G place parts.toList ps = true) (h : fillV z (ps.map fun (o, s, x) => (o, s, x.val e)) = some cs) (hp : Placed R.H [] nid [] H') :
    OpOK P o a w (Post R w nid 0 H' (mkAgg cs)) := by
  obtain ⟨cells', h1, h2⟩ := fill_ok pre parts.toList ps z zv.cells cs hps (cvs_ok _ _ hzc) h
  have hb : P.built t (parts.map fun (i, x) => (i, a.eval x)).toList = some cells' := by
    rw [Array.toList_map]
    unfold Program.built
    unfold zeroOf at hz
    unfold placesOf at hpl
    cases hi : P.info? t with
    | none => rw [hi] at hz; cases hz
    | some it =>
      rw [hi] at hz
      dsimp only at hz
      cases hu : P.underlying t with
      | none => rw [hu] at hpl; cases hpl
      | some d =>
        rw [hu] at hpl
        cases d <;> try (cases hpl; done)
        · rename_i n el
          dsimp only at hpl ⊢
          cases hie : P.info? el with
          | none => rw [hie] at hpl; cases hpl
          | some ie =>
            rw [hie] at hpl
            simp only [Option.map_some, Option.some.injEq] at hpl
            subst hpl
            simp only [hz]
            exact h1
        · rename_i fields
          dsimp only at hpl ⊢
          cases hm : fields.toList.mapM (fun f => (P.info? f.type).map fun i => (f.offset, i.size)) with
          | none => rw [hm] at hpl; cases hpl
          | some places =>
            rw [hm] at hpl
            simp only [Option.map_some, Option.some.injEq] at hpl
            subst hpl
            simp only [hz, hm]
            exact h1
  refine opOK_v (s := Instr.build t (parts.map fun (i, x) => (i, a.eval x))) (by unfold execOp; rw [hop]) (run_build w t _ cells' hb) (Post.stay pre.ok hp ?_)
  have := mkAgg_ok h2
  simpa using this
def kindTy (P : Program) (t : TypeId) : Option Bool := match P.underlying t with | some .bool => some true | some (.int _) => some false | _ => none
def flatFields (P : Program) : Nat → List Field → Option (List Bool)
  | _, [] => some []
  | i, f :: fs => bif (f.name != "_") && Nat.beq f.offset i then (match kindTy P f.type, flatFields P (i + 1) fs with | some b, some l => some (b :: l) | _, _ => none) else none
theorem flatFields_len : ∀ (fs : List Field) (i : Nat) (ks : List Bool), flatFields P i fs = some ks → ks.length = fs.length
  | [], i, ks, h => by simp only [flatFields, Option.some.injEq] at h; subst h; rfl
  | f :: fs, i, ks, h => by
    simp only [flatFields] at h
    cases hc : ((f.name != "_") && Nat.beq f.offset i) with
    | false => rw [hc] at h; cases h
    | true =>
      rw [hc] at h
      simp only [cond_true] at h
      cases hkt : kindTy P f.type with
      | none => rw [hkt] at h; cases h
      | some b =>
        rw [hkt] at h
        cases hff : flatFields P (i + 1) fs with
        | none => rw [hff] at h; cases h
        | some ks' =>
          rw [hff] at h
          simp only [Option.some.injEq] at h
          subst h
          simp [flatFields_len fs (i + 1) ks' hff]
def eqTy (P : Program) (t : TypeId) : Option (List Bool) :=
  match P.underlying t with
  | some .bool => some [true]
  | some (.int _) => some [false]
  | some (.struct fs) => bif !(Nat.beq fs.toList.length 1) && (!(P.stoodInHeld t) && !(P.eqGuardType P.depth t)) then flatFields P 0 fs.toList else none
  | _ => none
theorem kindTy_agg {t : TypeId} {b : Bool} (h : kindTy P t = some b) : aggOf P t = some false := by
  unfold kindTy at h; unfold aggOf
  split at h <;> simp_all
theorem eq_cell {t : TypeId} {b : Bool} (ht : kindTy P t = some b) {x y : D} {u1 u2 : Value} {r : Bool} (hx : R.den w x u1) (hy : R.den w y u2) (h : eqD x y = some r) (hb : kindsB [b] [x] = true) (d : Nat) : (Op.equalIn (d + 1) t u1 u2).run P w = .ok r w := by
  unfold kindTy at ht
  split at ht
  · rename_i hu
    cases ht
    cases x <;> try (cases hb; done)
    cases y <;> try (cases h; done)
    cases hx; cases hy
    simp only [eqD, Option.some.injEq] at h
    subst h
    simp [Op.equalIn, run_underlying hu]
  · rename_i k0 hu
    cases ht
    cases x <;> try (cases hb; done)
    cases y <;> try (cases h; done)
    cases hx; cases hy
    rename_i k n k' m
    simp only [eqD] at h
    cases hk : k == k' with
    | false => rw [hk] at h; cases h
    | true =>
      rw [hk] at h
      obtain rfl : k = k' := by simpa using hk
      simp only [cond_true, Option.some.injEq] at h
      subst h
      simp [Op.equalIn, run_underlying hu]
  · cases ht
theorem kindsB_cons {b : Bool} {ks : List Bool} {c : D} {cs : List D} (h : kindsB (b :: ks) (c :: cs) = true) : kindsB [b] [c] = true ∧ kindsB ks cs = true := by
  cases b <;> cases c <;> simp_all [kindsB]
theorem eq_fields (d : Nat) (us vs : List Value) : ∀ (fs : List Field) (i : Nat) (ks : List Bool) (xs ys : List D) (r : Bool), flatFields P i fs = some ks → kindsB ks xs = true → eqDs xs ys = some r →
    (∀ (j : Nat) x, xs[j]? = some x → ∃ u, us[i + j]? = some u ∧ R.den w x u) → (∀ (j : Nat) y, ys[j]? = some y → ∃ u, vs[i + j]? = some u ∧ R.den w y u) → (Op.eqFields (d + 1) us.toArray vs.toArray fs).run P w = .ok r w
  | [], i, ks, xs, ys, r, hf, hk, h, _, _ => by
    simp only [flatFields, Option.some.injEq] at hf
    subst hf
    cases xs with
    | cons x xs => simp [kindsB] at hk
    | nil =>
      cases ys with
      | cons y ys => simp [eqDs] at h
      | nil =>
        simp only [eqDs, Option.some.injEq] at h
        subst h
        simp [Op.eqFields]
  | f :: fs, i, ks, xs, ys, r, hf, hk, h, h1, h2 => by
    simp only [flatFields] at hf
    cases hc : ((f.name != "_") && Nat.beq f.offset i) with
    | false => rw [hc] at hf; cases hf
    | true =>
      rw [hc] at hf
      simp only [cond_true] at hf
      simp only [Bool.and_eq_true] at hc
      cases hkt : kindTy P f.type with
      | none => rw [hkt] at hf; cases hf
      | some b =>
        rw [hkt] at hf
        cases hff : flatFields P (i + 1) fs with
        | none => rw [hff] at hf; cases hf
        | some ks' =>
          rw [hff] at hf
          simp only [Option.some.injEq] at hf
          subst hf
          cases xs with
          | nil => cases b <;> simp [kindsB] at hk
          | cons x xs =>
            cases ys with
            | nil => simp [eqDs] at h
            | cons y ys =>
              obtain ⟨k1, k2⟩ := kindsB_cons hk
              simp only [eqDs] at h
              cases e1 : eqD x y with
              | none => rw [e1] at h; cases h
              | some r1 =>
                cases e2 : eqDs xs ys with
                | none => rw [e1, e2] at h; cases h
                | some r2 =>
                  rw [e1, e2] at h
                  simp only [Option.some.injEq] at h
                  subst h
                  obtain ⟨u, f1, f2⟩ := h1 0 x rfl
                  obtain ⟨v, g1, g2⟩ := h2 0 y rfl
                  have hrest := eq_fields d us vs fs (i + 1) ks' xs ys r2 hff k2 e2
                    (fun j x hj => by have := h1 (j + 1) x (by simpa using hj); rwa [show i + (j + 1) = i + 1 + j from by omega] at this)
                    (fun j x hj => by have := h2 (j + 1) x (by simpa using hj); rwa [show i + (j + 1) = i + 1 + j from by omega] at this)
                  have hq := eq_cell (P := P) hkt f2 g2 e1 k1 d
                  have hn : f.name ≠ "_" := by simpa using hc.1
                  have ho := Nat.eq_of_beq_eq_true hc.2
                  simp only [Nat.add_zero] at f1 g1
                  have p1 : (part f.type us.toArray f.offset).run P w = .ok u w := by simp [part, run_isAgg (kindTy_agg hkt), ho, f1]
                  have p2 : (part f.type vs.toArray f.offset).run P w = .ok v w := by simp [part, run_isAgg (kindTy_agg hkt), ho, g1]
                  rw [Op.eqFields, if_pos hn]
                  simp only [Sem.run_bind, p1, p2, hq, Result.andThen_ok]
                  cases r1
                  · simp
                  · simpa using hrest
theorem s_eqv (pre : Pre G R w e a Hm) {neg : Bool} {t t' : TypeId} {x y : Operand} {x' y' : Opd} {ks : List Bool} {d1 d2 : D} {r : Bool} (hop : o.op = .binOp (bif neg then .neq else .eql) t x y t') (hx : okOpd G x x' = true) (hy : okOpd G y y' = true)
    (ht : eqTy P t = some ks) (h1 : x'.val e = .d d1) (h2 : y'.val e = .d d2) (hk : kindsD ks d1 = true) (h : eqD d1 d2 = some r) (hp : Placed R.H [] nid [] H') : OpOK P o a w (Post R w nid 0 H' (.d (.bool (bif neg then !r else r)))) := by
  have hv1 := pre.opd hx
  have hv2 := pre.opd hy
  rw [h1] at hv1
  rw [h2] at hv2
  refine opOK_v (s := do eqGuard (bif neg then .neq else .eql) t x y (a.eval x) (a.eval y); binOp (bif neg then .neq else .eql) t (a.eval x) (a.eval y)) (u := .bool (bif neg then !r else r)) (by unfold execOp; rw [hop]) ?_ (Post.stay pre.ok hp rfl)
  cases d1 <;> try (cases h; done)
  · cases d2 <;> try (cases h; done)
    rename_i b1 b2
    rw [denB hv1, denB hv2]
    have hk' : ∃ b, ks = [b] ∧ kindsB [b] [D.bool b1] = true := by
      unfold kindsD at hk
      split at hk
      · rename_i e1; cases e1
      · split at hk
        · exact ⟨_, rfl, hk⟩
        · cases hk
    obtain ⟨b, rfl, hkb⟩ := hk'
    have hkt : kindTy P t = some true := by
      cases b with
      | false => cases hkb
      | true =>
        unfold eqTy at ht; unfold kindTy
        split at ht
        · rename_i hu; rw [hu]
        · cases ht
        · rename_i fs hu
          cases hg : (!(Nat.beq fs.toList.length 1) && (!(P.stoodInHeld t) && !(P.eqGuardType P.depth t))) with
          | false => rw [hg] at ht; cases ht
          | true =>
            rw [hg] at ht
            simp only [cond_true] at ht
            have := flatFields_len _ _ _ ht
            rw [← this] at hg
            cases hg
        · cases ht
    have hq := eq_cell (P := P) (R := R) (w := w) hkt (x := .bool b1) (y := .bool b2) rfl rfl h (by rfl) 9999
    cases neg <;> simp [eqGuard, binOp, Op.equal, Op.maxDepth, hq]
  · cases d2 <;> try (cases h; done)
    rename_i k n k' m
    rw [denI hv1, denI hv2]
    simp only [eqD] at h
    cases hkk : k == k' with
    | false => rw [hkk] at h; cases h
    | true =>
      rw [hkk] at h
      obtain rfl : k = k' := by simpa using hkk
      simp only [cond_true, Option.some.injEq] at h
      subst h
      cases neg <;> simp [eqGuard, binOp, Op.intCmp]
      rfl
  · cases d2 <;> try (cases h; done)
    rename_i cs cs'
    obtain ⟨us, e1, e2⟩ := hv1
    obtain ⟨vs, e3, e4⟩ := hv2
    rw [e1, e3]
    have hk' : (∀ b, ks ≠ [b]) ∧ kindsB ks cs = true := by
      unfold kindsD at hk
      dsimp only at hk
      split at hk
      · cases hk
      · rename_i hn; exact ⟨fun b hb => hn b hb, hk⟩
    obtain ⟨hn1, hk⟩ := hk'
    simp only [eqD] at h
    unfold eqTy at ht
    split at ht
    · cases ht; exact absurd rfl (hn1 _)
    · cases ht; exact absurd rfl (hn1 _)
    · rename_i fs hu
      cases hg' : (!(Nat.beq fs.toList.length 1) && (!(P.stoodInHeld t) && !(P.eqGuardType P.depth t))) with
      | false => rw [hg'] at ht; cases ht
      | true =>
        rw [hg'] at ht
        simp only [cond_true] at ht
        simp only [Bool.and_eq_true, Bool.not_eq_true'] at hg'
        obtain ⟨_, hg⟩ := hg'
        have hfs : P.fieldsOf t = fs := by unfold Program.fieldsOf; rw [hu]
        have hq : (Op.equalIn 10000 t (.agg us.toArray) (.agg vs.toArray)).run P w = .ok r w := by
          rw [run_equalIn_struct w 9999 t us.toArray vs.toArray (by rw [hfs]; exact hu) hg.1, hfs]
          exact eq_fields 9998 us vs fs.toList 0 ks cs cs' r ht hk h (fun j x hj => by simpa using denDs_at cs us j x e2 hj) (fun j x hj => by simpa using denDs_at cs' vs j x e4 hj)
        cases neg <;> simp [eqGuard, binOp, Op.equal, Op.maxDepth, hq, hg.2]
    · cases ht
end
end Go.Proofs.YtakebhleglnpjaaDoorE

namespace Go.Proofs.YtakebhleglnpjaaDoorE
open Go
set_option linter.unusedVariables false
set_option linter.unusedSimpArgs false
def kills (ks : List Nat) : List (Nat × Blk) := ks.map (fun j => (j, .dead))
theorem kill_le : ∀ (ks : List Nat) (H : Heap) (i : Nat) (blk : Blk), (updH H (kills ks))[i]? = some blk → blk ≠ .dead → H[i]? = some blk
  | [], H, i, blk, h, _ => h
  | k :: ks, H, i, blk, h, hd => by
    have h1 := kill_le ks (setAt H k .dead) i blk h hd
    rw [setAt_eq, List.getElem?_set] at h1
    split at h1
    · split at h1
      · cases h1; exact absurd rfl hd
      · cases h1
    · exact h1
theorem kill_dead : ∀ (ks : List Nat) (H : Heap) (k : Nat), k ∈ ks → isLive (updH H (kills ks)) k = false
  | [], H, k, h => by cases h
  | j :: ks, H, k, h => by
    by_cases hk : k ∈ ks
    · exact kill_dead ks (setAt H j .dead) k hk
    · have hj : k = j := by simpa [hk] using h
      subst hj
      cases hl : isLive (updH H (kills (k :: ks))) k with
      | false => rfl
      | true =>
        obtain ⟨blk, h1, h2⟩ := isLive_iff.1 hl
        have h3 := kill_le ks (setAt H k .dead) k blk h1 h2
        rw [setAt_eq, List.getElem?_set, if_pos rfl] at h3
        split at h3
        · cases h3; exact absurd rfl h2
        · cases h3
section
variable {P : Program} {R : RP} {w w' : World} {nid n : Nat} {H' : Heap} {v : V} {u : Value}
theorem Less.kill (R : RP) (ks : List Nat) : Less R { R with H := updH R.H (kills ks) } ks :=
  ⟨rfl, rfl, fun i hi => by
    obtain ⟨blk, h1, h2⟩ := isLive_iff.1 hi
    exact isLive_iff.2 ⟨blk, kill_le ks _ i blk h1 h2, h2⟩, fun k hk => kill_dead ks _ k hk⟩
theorem Post.afterKill (ok : R.OK w) {ks : List Nat} (h : Post { R with H := updH R.H (kills ks) } w nid n H' v u w') : Post R w nid n H' v u w' := by
  obtain ⟨R', h1, h2, h3, h4, h5⟩ := h
  exact ⟨R', (Ext.kill (R := R) (w := w) (H' := updH R.H (kills ks)) (fun i blk => kill_le ks _ i blk)).trans h1, h2, h3, h4, h5⟩
theorem Post.drew (h : Post R w.drew nid n H' v u w') : Post R w nid n H' v u w' := by
  obtain ⟨R', h1, h2, h3, h4, h5⟩ := h
  exact ⟨R', (Ext.draw (R := R) (w := w) (w' := w.drew) rfl rfl rfl rfl).trans h1, h2, h3, h4, h5⟩
theorem Ext.junk (R : RP) (w : World) (o : Obj) : Ext R w R (w.alloc o) where
  m := fun _ _ h => h
  h := fun i x blk _ h hd => ⟨blk, h, Blk.like_refl hd⟩
  b1 := rfl
  b0 := rfl
  same := fun b hb' _ => Go.RowKit.Below.heap_alloc _ _ _ hb'
  row := fun b cs el fr hb' => by
    have hlt : b < w.heap.size := (Array.getElem?_eq_some_iff.1 hb').1
    exact ⟨cs, el, fr, by rw [Go.RowKit.Below.heap_alloc _ _ _ hlt]; exact hb', rfl⟩
  grow := by simp
  liv := fun c hc h => h
  os := rfl
  tape := rfl
  output := rfl
theorem RP.OK.junk (h : R.OK w) (o : Obj) : R.OK (w.alloc o) :=
  ⟨h.b01, h.al, h.inj, fun i c hc => by have := h.lt i c hc; simp; omega,
    fun i m blk h1 h2 => (Ext.junk R w o).blkOK h.b01 (fun c hc => Go.RowKit.Below.heap_alloc _ _ _ (h.lt i c (by rw [h2, hc]))) (h.blk i m blk h1 h2),
    h.nb, fun c hc => by have := h.bl c hc; simp; omega⟩
theorem Post.junk (o : Obj) (ok : R.OK w) (hp : Placed R.H [] nid [] H') (hv : DenV R (w.alloc o) v u) : Post R w nid 0 H' v u (w.alloc o) :=
  ⟨R, Ext.junk R w o, ok.junk o, hp.same.symm, hv, fun i h _ => h⟩
theorem Post.write (ok : R.OK w) {b c : Nat} {old blk : Blk} {cs cs' : Array Value} {el : TypeId} {fr : Nat × Nat} {ks : List Nat} (hb : R.H[b]? = some old) (hm : R.M b = some (some c)) (hl : old.like blk)
    (hw : w.heap[c]? = some (.cells cs el fr)) (hw' : w'.heap[c]? = some (.cells cs' el fr)) (hs : cs'.size = cs.size) (ho : ∀ c', c' ≠ c → w'.heap[c']? = w.heap[c']?) (hsz : w'.heap.size = w.heap.size)
    (h1 : w'.os = w.os) (h2 : w'.tape = w.tape) (h3 : w'.output = w.output) (hbk : b ∉ ks) (hp : Placed R.H ((b, blk) :: kills ks) nid [] H')
    (hk : ∀ R' : RP, Ext R w R' w' → Less R R' ks → R'.live c → R'.B0 = R.B0 → BlkOK R' w' (some c) blk)
    (hv : ∀ R' : RP, Ext R w R' w' → R'.M = R.M → (∀ blk', R'.H[b]? = some blk' → blk' ≠ .dead → blk' = blk) → DenV R' w' v u) : Post R w nid 0 H' v u w' := by
  have hd : old ≠ .dead := Blk.like_ne hl
  have hH : H' = updH (setAt R.H b blk) (kills ks) := by
    apply List.ext_getElem?
    intro i
    have := hp i
    rwa [if_neg (by simp only [List.length_nil]; omega)] at this
  have hHb : ∀ i blk', H'[i]? = some blk' → blk' ≠ .dead → (i = b ∧ blk' = blk) ∨ (i ≠ b ∧ R.H[i]? = some blk') := by
    intro i blk' hi hd'
    rw [hH] at hi
    have := kill_le ks _ i blk' hi hd'
    rw [setAt_eq, List.getElem?_set] at this
    split at this
    · rename_i e
      split at this
      · cases this; exact .inl ⟨e.symm, rfl⟩
      · cases this
    · exact .inr ⟨fun e => by rename_i hne; exact hne e.symm, this⟩
  have hlive : ∀ i, isLive H' i = true → isLive R.H i = true := fun i hi => by
    obtain ⟨blk', g1, g2⟩ := isLive_iff.1 hi
    rcases hHb i blk' g1 g2 with ⟨rfl, rfl⟩ | ⟨_, g3⟩
    · exact isLive_iff.2 ⟨old, hb, hd⟩
    · exact isLive_iff.2 ⟨blk', g3, g2⟩
  have lb : isLive R.H b = true := isLive_iff.2 ⟨old, hb, hd⟩
  have e : Ext R w { R with H := H' } w' := by
    refine ⟨fun _ _ h => h, ?_, rfl, rfl, ?_, ?_, by omega, ?_, h1, h2, h3⟩
    · intro i x blk' _ hi hd'
      rcases hHb i blk' hi hd' with ⟨rfl, rfl⟩ | ⟨_, g3⟩
      · exact ⟨old, hb, hl⟩
      · exact ⟨blk', g3, Blk.like_refl hd'⟩
    · intro c' _ hnl
      exact ho c' fun e => hnl ⟨b, lb, by rw [e]; exact hm⟩
    · intro c' cs0 el0 fr0 hc'
      by_cases e : c' = c
      · subst e
        rw [hw] at hc'; cases hc'
        exact ⟨cs', el, fr, hw', hs⟩
      · exact ⟨cs0, el0, fr0, by rw [ho c' e]; exact hc', rfl⟩
    · rintro c' _ ⟨i, g1, g2⟩
      exact ⟨i, hlive i g1, g2⟩
  have hL : Less R { R with H := H' } ks := ⟨rfl, rfl, hlive, fun k hk => by rw [hH]; exact kill_dead ks _ k hk⟩
  refine ⟨{ R with H := H' }, e, ?_, rfl, hv _ e rfl ?_, fun i h _ => h⟩
  · refine ⟨ok.b01, ?_, ?_, ?_, ?_, fun i c hl => ok.nb i c (hlive i hl), fun c hc => by rw [hsz]; exact ok.bl c hc⟩
    · intro i blk' hi hd'
      rcases hHb i blk' hi hd' with ⟨rfl, rfl⟩ | ⟨_, g3⟩
      · exact ⟨_, hm⟩
      · exact ok.al i blk' g3 hd'
    · intro i j c' hi hj
      exact ok.inj i j c' (hlive i hi) (hlive j hj)
    · intro i c' hc
      rw [hsz]; exact ok.lt i c' hc
    · intro i m blk' hi hmi
      by_cases hd' : blk' = .dead
      · subst hd'; trivial
      · rcases hHb i blk' hi hd' with ⟨rfl, rfl⟩ | ⟨hne, g3⟩
        · have hmi' : R.M i = some m := hmi
          rw [hm] at hmi'; cases hmi'
          refine hk _ e hL ⟨i, isLive_iff.2 ⟨blk', ?_, hd'⟩, hmi⟩ rfl
          show H'[i]? = some blk'
          exact hi
        · refine e.blkOK ok.b01 (fun c' hc' => ho c' fun e' => hne ?_) (ok.blk i m blk' g3 hmi)
          exact ok.inj i b c (isLive_iff.2 ⟨blk', g3, hd'⟩) lb (by rw [← e', ← hc']; exact hmi) hm
  · intro blk' hi hd'
    rcases hHb b blk' hi hd' with ⟨_, h⟩ | ⟨h, _⟩
    · exact h
    · exact absurd rfl h
theorem Post.reuse (ok : R.OK w) {b c : Nat} {old blk : Blk} {cs cs' : Array Value} {el : TypeId} {fr : Nat × Nat} (hb : R.H[b]? = some old) (hd : old ≠ .dead) (hm : R.M b = some (some c)) (hn : R.M nid = none)
    (hw : w.heap[c]? = some (.cells cs el fr)) (hw' : w'.heap[c]? = some (.cells cs' el fr)) (hs : cs'.size = cs.size) (ho : ∀ c', c' ≠ c → w'.heap[c']? = w.heap[c']?) (hsz : w'.heap.size = w.heap.size)
    (h1 : w'.os = w.os) (h2 : w'.tape = w.tape) (h3 : w'.output = w.output) (hp : Placed R.H [(b, .dead)] nid [blk] H')
    (hk : ∀ R' : RP, Ext R w R' w' → R'.M nid = some (some c) → R'.H[nid]? = some blk → BlkOK R' w' (some c) blk ∧ DenV R' w' v u) : Post R w nid 1 H' v u w' := by
  have hbn : b ≠ nid := fun e => by rw [e, hn] at hm; cases hm
  have hHn : H'[nid]? = some blk := by
    have := hp nid
    rw [this, if_pos (by simp)]; simp
  have hHb : ∀ i blk', H'[i]? = some blk' → blk' ≠ .dead → (i = nid ∧ blk' = blk) ∨ (i ≠ nid ∧ i ≠ b ∧ R.H[i]? = some blk') := by
    intro i blk' hi hd'
    by_cases hin : i = nid
    · subst hin
      rw [hHn] at hi; cases hi
      exact .inl ⟨rfl, rfl⟩
    · have := hp i
      rw [if_neg (by simp only [List.length_singleton]; omega), hi] at this
      simp only [updH, setAt_eq, List.getElem?_set] at this
      split at this
      · split at this
        · cases this; exact absurd rfl hd'
        · cases this
      · rename_i hne
        exact .inr ⟨hin, fun e => hne e.symm, this.symm⟩
  have lb : isLive R.H b = true := isLive_iff.2 ⟨old, hb, hd⟩
  have e : Ext R w { R with M := fun i => if i = nid then some (some c) else R.M i, H := H' } w' := by
    refine ⟨?_, ?_, rfl, rfl, ?_, ?_, by omega, ?_, h1, h2, h3⟩
    · intro i x hx
      have : i ≠ nid := fun e => by rw [e, hn] at hx; cases hx
      simp [this, hx]
    · intro i x blk' hx hi hd'
      have : i ≠ nid := fun e => by rw [e, hn] at hx; cases hx
      rcases hHb i blk' hi hd' with ⟨h, _⟩ | ⟨_, _, g3⟩
      · exact absurd h this
      · exact ⟨blk', g3, Blk.like_refl hd'⟩
    · intro c' _ hnl
      exact ho c' fun e => hnl ⟨b, lb, by rw [e]; exact hm⟩
    · intro c' cs0 el0 fr0 hc'
      by_cases e : c' = c
      · subst e
        rw [hw] at hc'; cases hc'
        exact ⟨cs', el, fr, hw', hs⟩
      · exact ⟨cs0, el0, fr0, by rw [ho c' e]; exact hc', rfl⟩
    · rintro c' _ ⟨i, g1, g2⟩
      simp only at g1 g2
      by_cases hin : i = nid
      · rw [if_pos hin] at g2
        cases g2
        exact ⟨b, lb, hm⟩
      · rw [if_neg hin] at g2
        obtain ⟨blk', q1, q2⟩ := isLive_iff.1 g1
        rcases hHb i blk' q1 q2 with ⟨h, _⟩ | ⟨_, _, g3⟩
        · exact absurd h hin
        · exact ⟨i, isLive_iff.2 ⟨blk', g3, q2⟩, g2⟩
  obtain ⟨k1, k2⟩ := hk _ e (by simp) hHn
  refine ⟨_, e, ?_, rfl, k2, fun i h hni => by
    have : i ≠ nid := fun h => hni (by subst h; simp)
    simp [this, h]⟩
  refine ⟨ok.b01, ?_, ?_, ?_, ?_, ?_, fun c hc => by rw [hsz]; exact ok.bl c hc⟩
  · intro i blk' hi hd'
    by_cases hin : i = nid
    · exact ⟨some c, by simp [hin]⟩
    · rcases hHb i blk' hi hd' with ⟨h, _⟩ | ⟨_, _, g3⟩
      · exact absurd h hin
      · obtain ⟨x, hx⟩ := ok.al i blk' g3 hd'
        exact ⟨x, by simp [hin, hx]⟩
  · intro i j c' hi hj g1 g2
    simp only at g1 g2
    have aux : ∀ j, isLive H' j = true → j ≠ nid → R.M j = some (some c) → False := by
      intro j hj hjn hmj
      obtain ⟨blk', q1, q2⟩ := isLive_iff.1 hj
      rcases hHb j blk' q1 q2 with ⟨h, _⟩ | ⟨_, hjb, g3⟩
      · exact hjn h
      · exact hjb (ok.inj j b c (isLive_iff.2 ⟨blk', g3, q2⟩) lb hmj hm)
    by_cases hin : i = nid <;> by_cases hjn : j = nid
    · rw [hin, hjn]
    · rw [if_pos hin] at g1; rw [if_neg hjn] at g2; cases g1
      exact (aux j hj hjn g2).elim
    · rw [if_neg hin] at g1; rw [if_pos hjn] at g2; cases g2
      exact (aux i hi hin g1).elim
    · rw [if_neg hin] at g1; rw [if_neg hjn] at g2
      have lv : ∀ i, isLive H' i = true → i ≠ nid → isLive R.H i = true := fun i hi hin => by
        obtain ⟨blk', q1, q2⟩ := isLive_iff.1 hi
        rcases hHb i blk' q1 q2 with ⟨h, _⟩ | ⟨_, _, g3⟩
        · exact absurd h hin
        · exact isLive_iff.2 ⟨blk', g3, q2⟩
      exact ok.inj i j c' (lv i hi hin) (lv j hj hjn) g1 g2
  · intro i c' hc
    simp only at hc
    rw [hsz]
    by_cases hin : i = nid
    · rw [if_pos hin] at hc; cases hc; exact ok.lt b c hm
    · rw [if_neg hin] at hc; exact ok.lt i c' hc
  · intro i m blk' hi hmi
    simp only at hi hmi
    by_cases hd' : blk' = .dead
    · subst hd'; trivial
    · rcases hHb i blk' hi hd' with ⟨rfl, rfl⟩ | ⟨hin, hne, g3⟩
      · rw [if_pos rfl] at hmi; cases hmi
        exact k1
      · rw [if_neg hin] at hmi
        refine e.blkOK ok.b01 (fun c' hc' => ho c' fun e' => hne ?_) (ok.blk i m blk' g3 hmi)
        exact ok.inj i b c (isLive_iff.2 ⟨blk', g3, hd'⟩) lb (by rw [← e', ← hc']; exact hmi) hm
  · intro i c' hl hc
    simp only at hc
    by_cases hin : i = nid
    · rw [if_pos hin] at hc; cases hc; exact ok.nb b c lb hm
    · rw [if_neg hin] at hc
      obtain ⟨blk', q1, q2⟩ := isLive_iff.1 hl
      rcases hHb i blk' q1 q2 with ⟨h, _⟩ | ⟨_, _, g3⟩
      · exact absurd h hin
      · exact ok.nb i c' (isLive_iff.2 ⟨blk', g3, q2⟩) hc
end
theorem heap_setCells (b : Nat) : ∀ (vs : List Value) (o : Nat) (w : World) (cs : Array Value) (el : TypeId) (fr : Nat × Nat), w.heap[b]? = some (.cells cs el fr) →
    (∃ cs' : Array Value, cs'.toList = setRange cs.toList o vs ∧ (w.setCells b o vs).heap[b]? = some (.cells cs' el fr)) ∧ (∀ c, c ≠ b → (w.setCells b o vs).heap[c]? = w.heap[c]?) ∧ (w.setCells b o vs).heap.size = w.heap.size ∧
      (w.setCells b o vs).os = w.os ∧ (w.setCells b o vs).tape = w.tape ∧ (w.setCells b o vs).output = w.output
  | [], o, w, cs, el, fr, h => ⟨⟨cs, rfl, h⟩, fun _ _ => rfl, rfl, rfl, rfl, rfl⟩
  | v :: vs, o, w, cs, el, fr, h => by
    have hlt : b < w.heap.size := (Array.getElem?_eq_some_iff.1 h).1
    have hv : w.heap[b] = .cells cs el fr := (Array.getElem?_eq_some_iff.1 h).2
    have h1 : (w.setCell ⟨b, o, none⟩ v).heap[b]? = some (.cells (cs.setIfInBounds o v) el fr) := by
      unfold World.setCell
      rw [Array.getElem?_eq_getElem (by simpa using hlt), Array.getElem_modify]
      simp [hv]
    obtain ⟨⟨cs', e1, e2⟩, e3, e4, e5, e6, e7⟩ := heap_setCells b vs (o + 1) (w.setCell ⟨b, o, none⟩ v) _ el fr h1
    refine ⟨⟨cs', ?_, e2⟩, fun c hc => ?_, by rw [World.setCells, e4]; simp, e5, e6, e7⟩
    · rw [e1, setRange, setAt_eq]; simp
    · rw [World.setCells, e3 c hc]
      exact heap_setCell_other w _ c v hc
def cellsOf (us : List Value) : List Value := us.flatMap fun u => u.cells.toList
theorem cellsOf_cons (u : Value) (us : List Value) : cellsOf (u :: us) = u.cells.toList ++ cellsOf us := by simp [cellsOf]
theorem cellsOf_append (us vs : List Value) : cellsOf (us ++ vs) = cellsOf us ++ cellsOf vs := by simp [cellsOf]
theorem flat_len {sz : Nat} : ∀ (us : List Value), (∀ u ∈ us, u.cells.size = sz) → (cellsOf us).length = us.length * sz
  | [], _ => by simp [cellsOf]
  | u :: us, h => by
    rw [cellsOf_cons, List.length_append, flat_len us (fun v hv => h v (by simp [hv])), Array.length_toList, h u (by simp), List.length_cons, Nat.succ_mul]; omega
theorem flat_get {sz : Nat} : ∀ (us : List Value), (∀ u ∈ us, u.cells.size = sz) → ∀ (i k : Nat) (u : Value) (v : Value), us[i]? = some u → u.cells[k]? = some v → (cellsOf us)[i * sz + k]? = some v
  | [], _, i, k, u, v, h, _ => by simp at h
  | u0 :: us, h, 0, k, u, v, h1, h2 => by
    simp at h1; subst h1
    have hk : k < u0.cells.size := (Array.getElem?_eq_some_iff.1 h2).1
    rw [cellsOf_cons, Nat.zero_mul, Nat.zero_add, List.getElem?_append_left (by simpa using hk)]
    simpa using h2
  | u0 :: us, h, i + 1, k, u, v, h1, h2 => by
    have h0 := h u0 (by simp)
    rw [cellsOf_cons, List.getElem?_append_right (by rw [Array.length_toList, h0, Nat.succ_mul]; omega), Array.length_toList, h0]
    have : (i + 1) * sz + k - sz = i * sz + k := by rw [Nat.succ_mul]; omega
    rw [this]
    exact flat_get us (fun v hv => h v (by simp [hv])) i k u v (by simpa using h1) h2
theorem flat_inv {sz : Nat} : ∀ (us : List Value), (∀ u ∈ us, u.cells.size = sz) → ∀ (j : Nat) (v : Value), (cellsOf us)[j]? = some v → ∃ i k u, us[i]? = some u ∧ u.cells[k]? = some v ∧ j = i * sz + k
  | [], _, j, v, h => by simp [cellsOf] at h
  | u0 :: us, h, j, v, hj => by
    have h0 := h u0 (by simp)
    rw [cellsOf_cons] at hj
    by_cases hlt : j < sz
    · rw [List.getElem?_append_left (by rw [Array.length_toList, h0]; exact hlt)] at hj
      exact ⟨0, j, u0, rfl, by simpa using hj, by omega⟩
    · rw [List.getElem?_append_right (by rw [Array.length_toList, h0]; omega), Array.length_toList, h0] at hj
      obtain ⟨i, k, u, e1, e2, e3⟩ := flat_inv us (fun v hv => h v (by simp [hv])) (j - sz) v hj
      exact ⟨i + 1, k, u, by simpa using e1, e2, by rw [Nat.succ_mul]; omega⟩
theorem list_choose {α β : Type} : ∀ (ys : List α) (Q : Nat → α → β → Prop), (∀ (j : Nat) x, ys[j]? = some x → ∃ u, Q j x u) → ∃ us : List β, us.length = ys.length ∧ ∀ (j : Nat) x u, ys[j]? = some x → us[j]? = some u → Q j x u
  | [], Q, _ => ⟨[], rfl, by simp⟩
  | y :: ys, Q, h => by
    obtain ⟨u, hu⟩ := h 0 y rfl
    obtain ⟨us, h1, h2⟩ := list_choose ys (fun j => Q (j + 1)) (fun j x hj => h (j + 1) x (by simpa using hj))
    refine ⟨u :: us, by simp [h1], fun j x v hx hv => ?_⟩
    cases j with
    | zero => simp at hx hv; subst hx; subst hv; exact hu
    | succ j => exact h2 j x v (by simpa using hx) (by simpa using hv)
end Go.Proofs.YtakebhleglnpjaaDoorE

namespace Go.Proofs.YtakebhleglnpjaaDoorE
open Go
set_option linter.unusedVariables false
set_option linter.unusedSimpArgs false
section
variable {A1 A0 AL : Nat → Prop} {w : World}
theorem esc_one {y : D} {v : Value} (he : y.esc = true) (ha : y.isAgg = false) (h : DenD A1 A0 AL w y v) : v.oneCell' = true := by
  cases y with
  | agg cs => cases ha
  | tup cs => cases he
  | rptr cs => cases he
  | bool b => cases h; rfl
  | int k n => cases h; rfl
  | str s => cases h; rfl
  | nilfn => cases h; rfl
  | nilp => cases h; rfl
  | nilI => cases h; rfl
  | list own xs => obtain ⟨ad, len, cap, rfl, _⟩ := h; rfl
  | fn f caps => obtain ⟨us, rfl, _⟩ := h; rfl
  | iface t v => obtain ⟨u', rfl, _⟩ := h; rfl
theorem escs_one : ∀ (cs : List D) (us : List Value), D.escs cs = true → DenDs A1 A0 AL w cs us → ∀ v ∈ us, v.oneCell' = true
  | [], us, _, h, v, hv => by simp only [DenDs] at h; subst h; cases hv
  | c :: cs, us, he, h, v, hv => by
    obtain ⟨u, us', rfl, h1, h2⟩ := h
    simp only [D.escs, Bool.and_eq_true, Bool.not_eq_true'] at he
    rcases List.mem_cons.1 hv with rfl | hv
    · exact esc_one he.1 he.2.1 h1
    · exact escs_one cs us' he.2.2 h2 v hv
theorem esc_cells {y : D} {v : Value} (he : y.esc = true) (h : DenD A1 A0 AL w y v) : ∀ c ∈ v.cells.toList, c.oneCell' = true := by
  cases ha : y.isAgg with
  | true =>
    cases y <;> try (cases ha; done)
    obtain ⟨us, rfl, h1⟩ := h
    simpa [Value.cells] using escs_one _ us he h1
  | false =>
    have h1 := esc_one he ha h
    intro c hc
    cases v <;> first
      | (cases h1; done)
      | (simp only [Value.cells] at hc; simp at hc; rw [hc]; exact h1)
theorem esc_size {R : RP} {y : D} {v : Value} (he : (V.d y).okb = true) (h : R.den w y v) : v.cells.size = y.cells.length := by
  have h1 := denVs_len _ _ (cells_ok (R := R) (v := .d y) h he)
  have hVc : (V.d y).cells = mapd y.cells := by cases y <;> rfl
  rw [hVc, mapd_eq, List.length_map] at h1
  simpa using h1
end
section
variable {P : Program} {G : Globs} {R : RP} {w : World} {e : Env} {a : Act} {Hm H' : Heap} {nid : Nat} {o : Oper}
theorem cells_new {R' : RP} {w' : World} {c : Nat} {el : TypeId} {vs : List V} {us : Array Value} (hc : w'.heap[c]? = some (.cells us el (0, 0))) (h : DenVs R' w' vs us.toList) : BlkOK R' w' (some c) (.cells vs) := by
  have hl := denVs_len _ _ h
  refine ⟨c, us, el, (0, 0), rfl, hc, Nat.le_refl _, by simp at hl; omega, fun k v hk => ?_⟩
  obtain ⟨u, e1, e2⟩ := denVs_at _ _ k v h hk
  exact ⟨u, by simpa using e1, e2⟩
theorem heap_new (w : World) (ob : Obj) : (w.alloc ob).heap[w.heap.size]? = some ob := by
  show (w.heap.push ob)[w.heap.size]? = some ob
  simp
theorem post_var (pre : Pre G R w e a Hm) {z : V} {u : Value} {t : TypeId} (hz : z.okb = true) (hu : DenV R w z u) (hn : R.M nid = none) (hp : Placed R.H [] nid [.cells z.cells] H') :
    Post R w nid 1 H' (.ptr nid 0) (.pointer (some ⟨w.heap.size, 0, none⟩)) (w.alloc (.cells u.cells t)) := by
  refine Post.new (m := some w.heap.size) _ pre.ok hp hn (.inr rfl) fun R' hx hM hH => ⟨?_, fun _ => ?_⟩
  · exact cells_new (heap_new w _) (hx.denVs pre.ok.b01 _ _ (cells_ok hu hz))
  · exact ⟨⟨_, rfl⟩, _, hM, fun cs _ => ⟨_, rfl, rfl⟩⟩
theorem s_alloc (pre : Pre G R w e a Hm) {t : TypeId} {z : V} {zv : Value} (hop : o.op = .alloc t) (hz : zeroOf P t = some zv) (hc : cv z zv = true) (hb : z.okb = true) (hn : R.M nid = none) (hp : Placed R.H [] nid [.cells z.cells] H') :
    OpOK P o a w (Post R w nid 1 H' (.ptr nid 0)) := by
  unfold zeroOf at hz
  cases hi : P.info? t with
  | none => rw [hi] at hz; cases hz
  | some i =>
    rw [hi] at hz
    refine opOK_v (s := Instr.alloc t true (.tuple #[])) (u := .pointer (some ⟨w.heap.size, 0, none⟩)) (w' := w.alloc (.cells zv.cells t)) (by unfold execOp; rw [hop]) ?_ (post_var pre hb (cv_ok z zv hc) hn hp)
    simp [Instr.alloc, zeroValue, typeInfo, hi, hz, newVar, newRow]
theorem s_box (pre : Pre G R w e a Hm) {t : TypeId} {x : Operand} {y : Opd} (hop : o.op = .box t x) (hx : okOpd G x y = true) (hb : (y.val e).okb = true) (hn : R.M nid = none) (hp : Placed R.H [] nid [.cells (y.val e).cells] H') :
    OpOK P o a w (Post R w nid 1 H' (.ptr nid 0)) :=
  opOK_v (s := Instr.box t (a.eval x)) (u := .pointer (some ⟨w.heap.size, 0, none⟩)) (w' := w.alloc (.cells (a.eval x).cells t)) (by unfold execOp; rw [hop]) (by simp [Instr.box, newVar, newRow]) (post_var pre hb (pre.opd hx) hn hp)
theorem flat_one : ∀ (vs : List V) (us : List Value), flats vs = true → DenVs R w vs us → ∀ u ∈ us, u.oneCell' = true
  | [], us, _, h, u, hu => by simp only [DenVs] at h; subst h; cases hu
  | v :: vs, us, hf, h, u, hu => by
    obtain ⟨u0, us', rfl, h1, h2⟩ := h
    simp only [flats, Bool.and_eq_true] at hf
    rcases List.mem_cons.1 hu with rfl | hu
    · cases v with
      | bad => cases hf.1
      | tup cs => cases hf.1
      | agg cs => cases hf.1
      | d x =>
        cases x with
        | agg cs => cases hf.1
        | tup cs => cases hf.1
        | bool b => cases h1; rfl
        | int k n => cases h1; rfl
        | str s => cases h1; rfl
        | nilfn => cases h1; rfl
        | nilp => cases h1; rfl
        | nilI => cases h1; rfl
        | rptr cs => obtain ⟨b, off, rfl, _⟩ := h1; rfl
        | list own xs => obtain ⟨ad, len, cap, rfl, _⟩ := h1; rfl
        | fn f caps => obtain ⟨us, rfl, _⟩ := h1; rfl
        | iface t v => obtain ⟨u', rfl, _⟩ := h1; rfl
      | ptr b o => obtain ⟨⟨a, rfl⟩, _⟩ := h1; rfl
      | eptr b sz i k => obtain ⟨⟨a, rfl⟩, _⟩ := h1; rfl
      | sl b sz => obtain ⟨⟨a, n, c, rfl⟩, _⟩ := h1; rfl
      | slp b sz o l => obtain ⟨⟨a, n, c, rfl⟩, _⟩ := h1; rfl
      | nilsl sz => obtain ⟨a, rfl⟩ := h1; rfl
      | fn f caps => obtain ⟨us, rfl, _⟩ := h1; rfl
      | mp b => obtain ⟨⟨a, rfl⟩, _⟩ := h1; rfl
    · exact flat_one vs us' hf.2 h2 u hu
structure Els (R : RP) (w : World) (sz : Nat) (xs : List D) (us : List Value) : Prop where
  len : us.length = xs.length
  den : ∀ (j : Nat) x u, xs[j]? = some x → us[j]? = some u → R.den w x u
  size : ∀ u ∈ us, u.cells.size = sz
  esc : ∀ x ∈ xs, x.esc = true
theorem Els.one {sz : Nat} {xs : List D} {us : List Value} (h : Els R w sz xs us) : ∀ c ∈ cellsOf us, c.oneCell' = true := by
  intro c hc
  simp only [cellsOf, List.mem_flatMap] at hc
  obtain ⟨u, hu, hc⟩ := hc
  obtain ⟨j, hj⟩ := List.mem_iff_getElem?.1 hu
  have hlt : j < xs.length := by rw [← h.len]; exact (List.getElem?_eq_some_iff.1 hj).1
  exact esc_cells (h.esc _ (List.getElem_mem hlt)) (h.den j _ u (List.getElem?_eq_getElem hlt) hj) c hc
theorem Els.append {sz : Nat} {xs ys : List D} {us vs : List Value} (h : Els R w sz xs us) (k : Els R w sz ys vs) : Els R w sz (xs ++ ys) (us ++ vs) where
  len := by simp [h.len, k.len]
  den := fun j x u hx hu => by
    by_cases hj : j < xs.length
    · rw [List.getElem?_append_left hj] at hx
      rw [List.getElem?_append_left (by rw [h.len]; exact hj)] at hu
      exact h.den j x u hx hu
    · rw [List.getElem?_append_right (by omega)] at hx
      rw [List.getElem?_append_right (by rw [h.len]; omega), h.len] at hu
      exact k.den _ x u hx hu
  size := fun u hu => by
    rcases List.mem_append.1 hu with hu | hu
    · exact h.size u hu
    · exact k.size u hu
  esc := fun x hx => by
    rcases List.mem_append.1 hx with hx | hx
    · exact h.esc x hx
    · exact k.esc x hx
theorem Els.ext {R' : RP} {w' : World} {sz : Nat} {xs : List D} {us : List Value} (x : Ext R w R' w') (hb : ∀ c, R.B0 c → R.B1 c) (h : Els R w sz xs us) : Els R' w' sz xs us :=
  ⟨h.len, fun j y u hy hu => x.den hb (h.den j y u hy hu), h.size, h.esc⟩
theorem Els.blk {R' : RP} {w' : World} {sz c : Nat} {el : TypeId} {xs : List D} {us : List Value} {cs : Array Value} (h : Els R' w' sz xs us) (h0 : 0 < sz) (hc : w'.heap[c]? = some (.cells cs el (0, 0)))
    (hcs : ∀ (j : Nat) v, (cellsOf us)[j]? = some v → cs[j]? = some v) : BlkOK R' w' (some c) (.arr sz xs) := by
  refine ⟨h0, h.esc, .inr ⟨c, cs, el, rfl, hc, ?_, fun j x hx => ?_⟩⟩
  · rw [← h.len, ← flat_len us h.size]
    rcases Nat.eq_zero_or_pos (cellsOf us).length with hz | hz
    · omega
    · have := hcs ((cellsOf us).length - 1) _ (List.getElem?_eq_getElem (by omega))
      have := (Array.getElem?_eq_some_iff.1 this).1
      omega
  · have hlt : j < us.length := by rw [h.len]; exact (List.getElem?_eq_some_iff.1 hx).1
    have hu := List.getElem?_eq_getElem hlt
    exact ⟨us[j], h.den j x _ hx hu, h.size _ (List.getElem_mem hlt), fun k v hk => hcs _ v (flat_get us h.size j k _ v hu hk)⟩
theorem blk_els' {c sz : Nat} {xs : List D} (h : BlkOK R w (some c) (.arr sz xs)) : ∃ us cs el, Els R w sz xs us ∧ w.heap[c]? = some (.cells cs el (0, 0)) ∧ ∀ (j : Nat) v, (cellsOf us)[j]? = some v → cs[j]? = some v := by
  obtain ⟨h0, h1, h2⟩ := h
  rcases h2 with ⟨h2, _⟩ | ⟨c', cs, el, e1, e2, e3, e4⟩
  · cases h2
  · cases e1
    obtain ⟨us, f1, f2⟩ := list_choose xs (fun j x u => R.den w x u ∧ u.cells.size = sz ∧ ∀ (k : Nat) v, u.cells[k]? = some v → cs[j * sz + k]? = some v) e4
    have hs : ∀ u ∈ us, u.cells.size = sz := fun u hu => by
      obtain ⟨j, hj⟩ := List.mem_iff_getElem?.1 hu
      have hlt : j < xs.length := by rw [← f1]; exact (List.getElem?_eq_some_iff.1 hj).1
      exact (f2 j _ u (List.getElem?_eq_getElem hlt) hj).2.1
    refine ⟨us, cs, el, ⟨f1, fun j x u hx hu => (f2 j x u hx hu).1, hs, h1⟩, e2, fun j v hv => ?_⟩
    obtain ⟨i, k, u, g1, g2, rfl⟩ := flat_inv us hs j v hv
    have hlt : i < xs.length := by rw [← f1]; exact (List.getElem?_eq_some_iff.1 g1).1
    exact (f2 i _ u (List.getElem?_eq_getElem hlt) g1).2.2 k v g2
theorem src_ok (pre : Pre G R w e a Hm) {y : V} {ys : List D} {u : Value} {sz : Nat} (h : elems Hm y = some ys) (hs : szAt sz ys 0 = true) (hu : DenV R w y u) :
    ∃ us ad cap, u = .slice ad ys.length cap ∧ ys.length ≤ cap ∧ Els R w sz ys us ∧ (ys ≠ [] → ∃ b off, ad = some ⟨b, off, none⟩ ∧ ∀ (j : Nat) v, (cellsOf us)[j]? = some v → w.cell? ⟨b, off + j, none⟩ = some v) := by
  have fin : ∀ {ad : Option Addr} {cap : Nat}, u = .slice ad ys.length cap → ys.length ≤ cap → (∀ x ∈ ys, x.esc = true) → (ys ≠ [] → ∃ b off sz', ad = some ⟨b, off, none⟩ ∧ ∀ (j : Nat) x, ys[j]? = some x → ∃ u, R.den w x u ∧ u.cells.size = sz' ∧ ∀ (k : Nat) v, u.cells[k]? = some v → w.cell? ⟨b, off + j * sz' + k, none⟩ = some v) →
      ∃ us ad cap, u = .slice ad ys.length cap ∧ ys.length ≤ cap ∧ Els R w sz ys us ∧ (ys ≠ [] → ∃ b off, ad = some ⟨b, off, none⟩ ∧ ∀ (j : Nat) v, (cellsOf us)[j]? = some v → w.cell? ⟨b, off + j, none⟩ = some v) := by
    intro ad cap h1 h2 h3 h4
    cases ys with
    | nil => exact ⟨[], ad, cap, h1, h2, ⟨rfl, by simp, by simp, by simp⟩, fun h => absurd rfl h⟩
    | cons y0 ys0 =>
      obtain ⟨b, off, sz', e1, e2⟩ := h4 (by simp)
      have hsz : sz' = sz := by
        simp only [szAt, nth, Bool.and_eq_true] at hs
        obtain ⟨u0, f1, f2, _⟩ := e2 0 y0 rfl
        rw [← f2, esc_size hs.2 f1]
        exact Nat.eq_of_beq_eq_true hs.1
      subst hsz
      obtain ⟨us, f1, f2⟩ := list_choose (y0 :: ys0) (fun j x u => R.den w x u ∧ u.cells.size = sz' ∧ ∀ (k : Nat) v, u.cells[k]? = some v → w.cell? ⟨b, off + j * sz' + k, none⟩ = some v) e2
      have hss : ∀ u ∈ us, u.cells.size = sz' := fun u hu => by
        obtain ⟨j, hj⟩ := List.mem_iff_getElem?.1 hu
        have hlt : j < (y0 :: ys0).length := by rw [← f1]; exact (List.getElem?_eq_some_iff.1 hj).1
        exact (f2 j _ u (List.getElem?_eq_getElem hlt) hj).2.1
      refine ⟨us, ad, cap, h1, h2, ⟨f1, fun j x u hx hu => (f2 j x u hx hu).1, hss, h3⟩, fun _ => ⟨b, off, e1, fun j v hv => ?_⟩⟩
      obtain ⟨i, k, u, g1, g2, rfl⟩ := flat_inv us hss j v hv
      have hlt : i < (y0 :: ys0).length := by rw [← f1]; exact (List.getElem?_eq_some_iff.1 g1).1
      rw [← Nat.add_assoc]
      exact (f2 i _ u (List.getElem?_eq_getElem hlt) g1).2.2 k v g2
  unfold elems at h
  split at h
  · rename_i own xs'
    simp only [Option.some.injEq] at h
    subst h
    obtain ⟨ad, len, cap, e1, rfl, e3, e4, e5⟩ := hu
    refine fin e1 e3 e4 fun hne => ?_
    obtain ⟨b, off, sz', f1, f2, f3, f4⟩ := e5 hne
    refine ⟨b, off, sz', f1, fun j x hx => ?_⟩
    obtain ⟨u, g1, g2, g3⟩ := denEls_at xs' off j x f4 hx
    refine ⟨u, ?_, g2, g3⟩
    cases own
    · exact g1
    · exact g1
  · rename_i b sz0
    cases hb : nth Hm b with
    | none => rw [hb] at h; cases h
    | some blk =>
      rw [hb] at h
      cases blk <;> try (cases h; done)
      rename_i sz' xs'
      dsimp only at h
      cases hs' : Nat.beq sz0 sz' with
      | false => rw [hs'] at h; cases h
      | true =>
        rw [hs'] at h
        simp only [cond_true, Option.some.injEq] at h
        subst h
        obtain rfl := Nat.eq_of_beq_eq_true hs'
        obtain ⟨m, q1, q2, q3, q4⟩ := own_sl pre hb hu
        have q5 := q4
        obtain ⟨_, ad, cap, e1, q6, q7⟩ := q5
        refine fin e1 q6 q3.2.1 fun hne => ?_
        obtain ⟨c, cs, el, fr', cap', rfl, e2, e3, e4, e5⟩ := slAt_real q4 (.inl (List.length_pos_iff.2 hne))
        rw [e1] at e2; cases e2
        refine ⟨c, 0 * sz0, sz0, rfl, fun j x hx => ?_⟩
        obtain ⟨_, _, q3⟩ := q3
        rcases q3 with ⟨q3, _⟩ | ⟨c', cs', el', r1, r2, r3, r4⟩
        · cases q3
        · cases r1
          obtain ⟨u, s1, s2, s3⟩ := r4 j x hx
          exact ⟨u, s1, s2, fun k v hk => by rw [cell_of_heap r2, Nat.zero_mul, Nat.zero_add]; exact s3 k v hk⟩
  · rename_i b sz0 of len
    cases hb : nth Hm b with
    | none => rw [hb] at h; cases h
    | some blk =>
      rw [hb] at h
      cases blk <;> try (cases h; done)
      rename_i sz' xs'
      dsimp only at h
      cases hs' : Nat.beq sz0 sz' with
      | false => rw [hs'] at h; cases h
      | true =>
        rw [hs'] at h
        simp only [cond_true, Option.some.injEq] at h
        subst h
        obtain rfl := Nat.eq_of_beq_eq_true hs'
        obtain ⟨m, q1, q2, q3, q4⟩ := own_slp pre hb hu
        have q5 := q4
        obtain ⟨q8, ad, cap, e1, q6, q7⟩ := q5
        have hlen : ((xs'.drop of).take len).length = len := by simp only [List.length_take, List.length_drop]; omega
        refine fin (by rw [hlen]; exact e1) (by rw [hlen]; exact q6) (fun x hx => q3.2.1 x (List.mem_of_mem_drop (List.mem_of_mem_take hx))) fun hne => ?_
        obtain ⟨c, cs, el, fr', cap', rfl, e2, e3, e4, e5⟩ := slAt_real q4 (.inl (by rw [← hlen]; exact List.length_pos_iff.2 hne))
        rw [e1] at e2; cases e2
        refine ⟨c, of * sz0, sz0, rfl, fun j x hx => ?_⟩
        obtain ⟨_, _, q3⟩ := q3
        rcases q3 with ⟨q3, _⟩ | ⟨c', cs', el', r1, r2, r3, r4⟩
        · cases q3
        · cases r1
          have hj : j < len := by rw [← hlen]; exact (List.getElem?_eq_some_iff.1 hx).1
          rw [List.getElem?_take, if_pos hj, List.getElem?_drop] at hx
          obtain ⟨u, s1, s2, s3⟩ := r4 (of + j) x hx
          exact ⟨u, s1, s2, fun k v hk => by rw [cell_of_heap r2, ← s3 k v hk, Nat.add_mul]⟩
  · simp only [Option.some.injEq] at h
    subst h
    obtain ⟨ad, rfl⟩ := hu
    exact fin rfl (Nat.le_refl _) (by simp) (fun h => absurd rfl h)
  · cases h
end
end Go.Proofs.YtakebhleglnpjaaDoorE

namespace Go.Proofs.YtakebhleglnpjaaDoorE
open Go
set_option linter.unusedVariables false
set_option linter.unusedSimpArgs false
theorem ltbl {sz i n k : Nat} (hi : i < n) (hk : k < sz) : i * sz + k < n * sz := by
  have := Nat.mul_le_mul_right sz (Nat.succ_le_of_lt hi)
  rw [Nat.succ_mul] at this
  omega
theorem cellsOf_set {sz : Nat} {us : List Value} {v : Value} {i : Nat} (hs : ∀ u ∈ us, u.cells.size = sz) (hv : v.cells.size = sz) (hi : i < us.length) : setRange (cellsOf us) (i * sz) v.cells.toList = cellsOf (us.set i v) := by
  have hs' : ∀ u ∈ us.set i v, u.cells.size = sz := fun u hu => by
    rcases List.mem_or_eq_of_mem_set hu with h | h
    · exact hs u h
    · rw [h]; exact hv
  apply List.ext_getElem?
  intro j
  rw [setRange_get, Array.length_toList, hv, flat_len us hs]
  by_cases hj : j < us.length * sz
  · have h0 : 0 < sz := Nat.pos_of_ne_zero fun h => by subst h; simp at hj
    have hdm : j = (j / sz) * sz + j % sz := by rw [Nat.mul_comm]; exact (Nat.div_add_mod j sz).symm
    have hq : j / sz < us.length := Nat.div_lt_of_lt_mul (by rwa [Nat.mul_comm])
    have hk : j % sz < sz := Nat.mod_lt _ h0
    rw [if_pos hj]
    generalize hqq : j / sz = q at *
    generalize hkk : j % sz = k at *
    subst hdm
    have hul := List.getElem?_eq_getElem hq
    by_cases hqi : q = i
    · subst hqi
      rw [if_pos (by omega), Nat.add_sub_cancel_left]
      have hkv : v.cells[k]? = some v.cells[k] := Array.getElem?_eq_getElem (by omega)
      rw [flat_get (us.set q v) hs' q k v _ (by rw [List.getElem?_set, if_pos rfl, if_pos hq]) hkv]
      simp
    · have hne : ¬ (i * sz ≤ q * sz + k ∧ q * sz + k < i * sz + sz) := by
        rcases Nat.lt_or_gt_of_ne hqi with h | h
        · have := ltbl (sz := sz) h hk; omega
        · have := Nat.mul_le_mul_right sz (Nat.succ_le_of_lt h)
          rw [Nat.succ_mul] at this; omega
      rw [if_neg hne]
      have hkq : k < us[q].cells.size := by rw [hs _ (List.getElem_mem hq)]; exact hk
      have hku : us[q].cells[k]? = some us[q].cells[k] := Array.getElem?_eq_getElem hkq
      rw [flat_get us hs q k _ _ hul hku, flat_get (us.set i v) hs' q k us[q] _ (by rw [List.getElem?_set, if_neg (fun h => hqi h.symm)]; exact hul) hku]
  · have h1 : (cellsOf us)[j]? = none := List.getElem?_eq_none (by rw [flat_len us hs]; omega)
    have h2 : (cellsOf (us.set i v))[j]? = none := List.getElem?_eq_none (by rw [flat_len _ hs', List.length_set]; omega)
    rw [h1, h2, if_neg hj]
    split <;> rfl
theorem rep_cells (z : Value) (n : Nat) : ((Array.range (n * z.cells.size)).map (z.cells[· % z.cells.size]!)).toList = cellsOf (List.replicate n z) := by
  have hs : ∀ u ∈ List.replicate n z, u.cells.size = z.cells.size := fun u hu => by rw [(List.mem_replicate.1 hu).2]
  apply List.ext_getElem?
  intro j
  by_cases hj : j < n * z.cells.size
  · have h0 : 0 < z.cells.size := Nat.pos_of_ne_zero fun h => by rw [h] at hj; simp at hj
    have hdm : j = (j / z.cells.size) * z.cells.size + j % z.cells.size := by rw [Nat.mul_comm]; exact (Nat.div_add_mod j _).symm
    have hq : j / z.cells.size < n := Nat.div_lt_of_lt_mul (by rwa [Nat.mul_comm])
    have hk : j % z.cells.size < z.cells.size := Nat.mod_lt _ h0
    have := flat_get (List.replicate n z) hs (j / z.cells.size) (j % z.cells.size) z _ (by rw [List.getElem?_replicate, if_pos hq]) (Array.getElem?_eq_getElem hk)
    rw [← hdm] at this
    rw [this]
    simp [hj, getElem!_def, Array.getElem?_eq_getElem hk]
  · rw [List.getElem?_eq_none (by simp; omega), List.getElem?_eq_none (by rw [flat_len _ hs, List.length_replicate]; omega)]
section
variable {P : Program} {G : Globs} {R : RP} {w : World} {e : Env} {a : Act} {Hm H' : Heap} {nid : Nat} {o : Oper}
theorem Els.set {sz : Nat} {xs : List D} {us : List Value} {y : D} {v : Value} {i : Nat} (h : Els R w sz xs us) (hv : R.den w y v) (hs : v.cells.size = sz) (he : y.esc = true) : Els R w sz (xs.set i y) (us.set i v) where
  len := by simp [h.len]
  den := fun j x u hx hu => by
    rw [List.getElem?_set] at hx hu
    split at hx
    · rename_i e
      rw [if_pos e] at hu
      split at hx
      · cases hx
        split at hu
        · cases hu; exact hv
        · cases hu
      · cases hx
    · rename_i e
      rw [if_neg e] at hu
      exact h.den j x u hx hu
  size := fun u hu => by
    rcases List.mem_or_eq_of_mem_set hu with h1 | h1
    · exact h.size u h1
    · rw [h1]; exact hs
  esc := fun x hx => by
    rcases List.mem_or_eq_of_mem_set hx with h1 | h1
    · exact h.esc x h1
    · rw [h1]; exact he
theorem Els.rep {sz : Nat} {z : D} {v : Value} (n : Nat) (hv : R.den w z v) (hs : v.cells.size = sz) (he : z.esc = true) : Els R w sz (List.replicate n z) (List.replicate n v) where
  len := by simp
  den := fun j x u hx hu => by
    rw [List.getElem?_replicate] at hx hu
    split at hx
    · cases hx
      rename_i hj
      rw [if_pos hj] at hu; cases hu; exact hv
    · cases hx
  size := fun u hu => by rw [(List.mem_replicate.1 hu).2]; exact hs
  esc := fun x hx => by rw [(List.mem_replicate.1 hx).2]; exact he
theorem post_arr (ok : R.OK w) {sz cap : Nat} {xs : List D} {us : List Value} {cs : Array Value} {el : TypeId} (h0 : 0 < sz) (h : Els R w sz xs us) (hcs : ∀ (j : Nat) v, (cellsOf us)[j]? = some v → cs[j]? = some v) (hsz : cs.size = cap * sz) (hcap : xs.length ≤ cap)
    (hn : R.M nid = none) (hp : Placed R.H [] nid [.arr sz xs] H') : Post R w nid 1 H' (.sl nid sz) (.slice (some ⟨w.heap.size, 0, none⟩) xs.length cap) (w.alloc (.cells cs el)) := by
  refine Post.new (m := some w.heap.size) _ ok hp hn (.inr rfl) fun R' hx hM hH => ⟨?_, fun _ => ?_⟩
  · exact Els.blk (h.ext hx ok.b01) h0 (heap_new w _) hcs
  · refine ⟨⟨_, _, _, rfl⟩, _, hM, fun ys hy => ?_⟩
    rw [nth_eq, hH] at hy; cases hy
    exact ⟨by omega, _, _, rfl, hcap, .inr ⟨w.heap.size, cs, el, (0, 0), rfl, by rw [Nat.zero_mul], heap_new w _, by rw [hsz, Nat.zero_add]⟩⟩
def partsB (G : Globs) : List (Nat × Operand) → List (Nat × Opd) → Bool
  | [], [] => true
  | (i, x) :: r, (j, y) :: s => Nat.beq i j && okOpd G x y && partsB G r s
  | _, _ => false
theorem fill_bs (pre : Pre G R w e a Hm) {sz : Nat} {R1 : RP} {ks' : List Nat} (hL : Less R R1 ks') : ∀ (ps : List (Nat × Operand)) (qs : List (Nat × Opd)) (xs : List D) (us : List Value) (cells : Array Value) (xs' : List D) (ks : List Nat), partsB G ps qs = true →
    cells.toList = cellsOf us → Els R1 w sz xs us → fillD Hm sz xs (qs.map fun (i, x) => (i, x.val e)) = some (xs', ks) → (∀ k ∈ ks, k ∈ ks') →
    ∃ cells' us', Instr.fill (fun i => some (i * sz, sz)) cells (ps.map fun (i, x) => (i, a.eval x)) = some cells' ∧ cells'.toList = cellsOf us' ∧ Els R1 w sz xs' us' ∧ xs'.length = xs.length
  | [], [], xs, us, cells, xs', ks, _, hc, hE, h, _ => by
    simp only [List.map_nil, fillD, Option.some.injEq, Prod.mk.injEq] at h
    obtain ⟨rfl, rfl⟩ := h
    exact ⟨cells, us, rfl, hc, hE, rfl⟩
  | [], _ :: _, xs, us, cells, xs', ks, hp, _, _, _, _ => by cases hp
  | _ :: _, [], xs, us, cells, xs', ks, hp, _, _, _, _ => by cases hp
  | (i, x) :: ps, (i', y) :: qs, xs, us, cells, xs', ks, hp, hc, hE, h, hks => by
    simp only [partsB, Bool.and_eq_true] at hp
    obtain ⟨⟨h1, h2⟩, h3⟩ := hp
    obtain rfl := Nat.eq_of_beq_eq_true h1
    simp only [List.map_cons, fillD] at h
    cases hf : fr Hm 6 (y.val e) with
    | none => rw [hf] at h; cases h
    | some q =>
      obtain ⟨z, k1⟩ := q
      rw [hf] at h
      dsimp only at h
      cases hcond : (Nat.blt i xs.length && Nat.beq z.cells.length sz && (V.d z).okb) with
      | false => rw [hcond] at h; cases h
      | true =>
        rw [hcond] at h
        simp only [cond_true] at h
        simp only [Bool.and_eq_true] at hcond
        have hi : i < xs.length := by have := hcond.1.1; simp [Nat.blt] at this; omega
        cases hr : fillD Hm sz (setAt xs i z) (qs.map fun (i, x) => (i, x.val e)) with
        | none => rw [hr] at h; cases h
        | some q2 =>
          obtain ⟨l, k2⟩ := q2
          rw [hr] at h
          simp only [Option.some.injEq, Prod.mk.injEq] at h
          obtain ⟨rfl, rfl⟩ := h
          have hv := pre.opd h2
          obtain ⟨g1, g2⟩ := frV_esc 6 _ z k1 pre hf hL (fun k hk => hks k (by simp [hk])) _ hv
          have hz : R1.den w z (a.eval x) := g2 _ _
          have hze : z.esc = true := by
            rcases g1 with g1 | ⟨ts, rfl⟩
            · exact g1
            · cases hcond.2
          have hzs : (a.eval x).cells.size = sz := by rw [esc_size hcond.2 hz]; exact Nat.eq_of_beq_eq_true hcond.1.2
          have hiu : i < us.length := by rw [hE.len]; exact hi
          rw [setAt_eq] at hr
          obtain ⟨cells', us', e1, e2, e3, e4⟩ := fill_bs pre hL ps qs (xs.set i z) (us.set i (a.eval x)) ((a.eval x).cells.zipIdx.foldl (fun cs (c, j) => cs.setIfInBounds (i * sz + j) c) cells) l k2 h3 (by
            have : ((a.eval x).cells.zipIdx.foldl (fun cs (c, j) => cs.setIfInBounds (i * sz + j) c) cells).toList = setRange cells.toList (i * sz) (a.eval x).cells.toList := by
              rw [← Array.foldl_toList, Array.toList_zipIdx]
              exact fold_set _ 0 _ cells
            rw [this, hc, cellsOf_set hE.size hzs hiu]) (hE.set hz hzs hze) hr (fun k hk => hks k (by simp [hk]))
          refine ⟨cells', us', ?_, e2, e3, by rw [e4, List.length_set]⟩
          simp only [List.map_cons, Instr.fill]
          rw [if_neg ?_]
          · exact e1
          · have hcl : cells.size = us.length * sz := by rw [← Array.length_toList, hc, flat_len us hE.size]
            have := Nat.mul_le_mul_right sz (Nat.succ_le_of_lt hiu)
            rw [Nat.succ_mul] at this
            simp [hzs, hcl]; omega
structure ElTy (P : Program) (t el : TypeId) (sz : Nat) (i : TypeInfo) (zv : Value) : Prop where
  u : P.underlying t = some (.slice el)
  inf : P.info? el = some i
  s : i.size = sz
  z : i.zero = some zv
  zs : zv.cells.size = sz
  pos : 0 < sz
  by_ : i.bytes ≤ 131072
theorem s_bslice0 (pre : Pre G R w e a Hm) {t el : TypeId} {sz : Nat} {i : TypeInfo} {zv : Value} {parts : Array (Nat × Operand)} (hop : o.op = .buildSlice t 0 parts) (he : ElTy P t el sz i zv) (hps : parts = #[]) (hp : Placed R.H [] nid [] H') :
    OpOK P o a w (Post R w nid 0 H' (.nilsl sz)) := by
  subst hps
  refine opOK_v (s := Instr.buildSlice t 0 (#[].map fun (i, x) => (i, a.eval x))) (u := .slice (some ⟨w.heap.size, 0, none⟩) 0 0) (w' := w.alloc (.cells #[] el)) (by unfold execOp; rw [hop]) ?_ (Post.junk _ pre.ok hp ⟨_, rfl⟩)
  simp [Instr.buildSlice, run_underlying he.u, sizeOf, typeInfo, he.inf, Instr.fill, newRow, Array.range_zero']
theorem s_bslice (pre : Pre G R w e a Hm) {t el : TypeId} {sz len : Nat} {i : TypeInfo} {zv : Value} {parts : Array (Nat × Operand)} {z : D} {ps : List (Nat × Opd)} {xs : List D} {ks : List Nat} (hop : o.op = .buildSlice t len parts) (he : ElTy P t el sz i zv) (hz : cv (.d z) zv = true) (hze : z.esc = true)
    (hl0 : len ≠ 0) (hl : len * sz ≤ 16777216) (hps : partsB G parts.toList ps = true) (h : fillD Hm sz (List.replicate len z) (ps.map fun (i, x) => (i, x.val e)) = some (xs, ks)) (hn : R.M nid = none) (hp : Placed R.H (kills ks) nid [.arr sz xs] H') :
    OpOK P o a w (Post R w nid 1 H' (.sl nid sz)) := by
  have hL := Less.kill R ks
  have ok1 : RP.OK { R with H := updH R.H (kills ks) } w := pre.ok.kill (fun i blk => kill_le ks _ i blk)
  have hzd : ∀ R1 : RP, R1.den w z zv := fun R1 => cv_ok (R := R1) (.d z) zv hz
  obtain ⟨cells', us', f1, f2, f3, f4⟩ := fill_bs pre hL parts.toList ps (List.replicate len z) (List.replicate len zv) ((Array.range (len * zv.cells.size)).map (zv.cells[· % zv.cells.size]!)) xs ks hps (rep_cells zv len) (Els.rep len (hzd _) he.zs hze) h (fun _ h => h)
  have hlen : xs.length = len := by rw [f4, List.length_replicate]
  refine opOK_v (s := Instr.buildSlice t len (parts.map fun (i, x) => (i, a.eval x))) (u := .slice (some ⟨w.heap.size, 0, none⟩) xs.length len) (w' := w.alloc (.cells cells' el)) (by unfold execOp; rw [hop]) ?_ (Post.afterKill pre.ok (post_arr ok1 he.pos f3 (fun j v hv => by rw [← f2] at hv; simpa using hv) ?_ (by omega) hn hp))
  · have hne : ¬ (len * sz = 0) := by
      have := Nat.mul_pos (Nat.pos_of_ne_zero hl0) he.pos
      omega
    have hbig : ¬ (16777216 < len * sz) := by omega
    rw [he.zs] at f1
    have f1' : Instr.fill (fun i => some (i * sz, sz)) ((Array.range (len * sz)).map (zv.cells[· % sz]!)) (parts.map fun (i, x) => (i, a.eval x)).toList = some cells' := by
      rw [Array.toList_map]; exact f1
    rw [hlen]
    simp only [Instr.buildSlice, Sem.run_bind, run_underlying he.u, Result.andThen_ok, run_sizeOf (P := P) (show szOf P el = some sz by simp [szOf, he.inf, he.s]), Nat.reducePow, hbig, if_false, hne, zeroValue, typeInfo, run_program, he.inf, he.z, Sem.run_pure, he.zs, f1', newRow, run_newObj_alloc]
  · rw [← Array.length_toList, f2, flat_len us' f3.size, f3.len, hlen]
theorem s_mkslice (pre : Pre G R w e a Hm) {t el : TypeId} {sz : Nat} {i : TypeInfo} {zv : Value} {x y : Operand} {x' y' : Opd} {z : D} {k1 k2 : IntKind} {n : Int} (hop : o.op = .makeSlice t x y) (he : ElTy P t el sz i zv) (hz : cv (.d z) zv = true) (hze : z.esc = true)
    (hx : okOpd G x x' = true) (hy : okOpd G y y' = true) (h1 : x'.val e = .d (.int k1 n)) (h2 : y'.val e = .d (.int k2 n)) (h0 : 0 ≤ n) (hl : n ≤ lim) (hn : R.M nid = none) (hp : Placed R.H [] nid [.arr sz (List.replicate n.toNat z)] H') :
    OpOK P o a w (Post R w nid 1 H' (.sl nid sz)) := by
  have hv1 := pre.opd hx
  have hv2 := pre.opd hy
  rw [h1] at hv1
  rw [h2] at hv2
  have hzd : R.den w z zv := cv_ok (R := R) (.d z) zv hz
  have hl' : n ≤ 1073741824 := hl
  have hrun := run_make (P := P) w t el i zv he.u he.inf he.z k1 k2 n n h0 (Int.le_refl _) (by
    have hb := he.by_
    have : (i.bytes : Int) * n ≤ 131072 * n := Int.mul_le_mul_of_nonneg_right (by omega) h0
    omega) (by omega)
  refine opOK_v (s := Instr.makeSlice t (a.eval x) (a.eval y)) (u := .slice (some ⟨w.heap.size, 0, none⟩) (List.replicate n.toNat z).length n.toNat) (w' := w.alloc (.cells (madeCells zv.cells (n.toNat * i.size)) el)) (by unfold execOp; rw [hop]) (by rw [denI hv1, denI hv2, List.length_replicate]; exact hrun)
    (post_arr pre.ok he.pos (Els.rep n.toNat hzd he.zs hze) ?_ (by rw [size_madeCells, he.s]) (by simp) hn hp)
  intro j v hv
  rw [← rep_cells, he.zs] at hv
  have hm : madeCells zv.cells (n.toNat * i.size) = (Array.range (n.toNat * sz)).map (zv.cells[· % sz]!) := by unfold madeCells; rw [he.s, he.zs]
  rw [hm, ← Array.getElem?_toList]
  exact hv
end
end Go.Proofs.YtakebhleglnpjaaDoorE

namespace Go.Proofs.YtakebhleglnpjaaDoorE
open Go
set_option linter.unusedVariables false
set_option linter.unusedSimpArgs false
theorem setRange_mono {α : Type} {A B vs : List α} {o : Nat} (h : ∀ (j : Nat) v, A[j]? = some v → B[j]? = some v) : ∀ (j : Nat) v, (setRange A o vs)[j]? = some v → (setRange B o vs)[j]? = some v := by
  intro j v hj
  rw [setRange_get] at hj ⊢
  split at hj
  · rename_i hc
    rw [if_pos hc]
    split at hj
    · rename_i hl
      have := h j _ (List.getElem?_eq_getElem hl)
      rw [if_pos (List.getElem?_eq_some_iff.1 this).1]
      exact hj
    · cases hj
  · rename_i hc
    rw [if_neg hc]
    exact h j v hj
theorem setRange_set {α : Type} {A cs vs : List α} {o k : Nat} (hA : ∀ (j : Nat), j < cs.length → A[o + j]? = cs[j]?) (hk : k + vs.length ≤ cs.length) : setRange A o (setRange cs k vs) = setRange A (o + k) vs := by
  apply List.ext_getElem?
  intro j
  rw [setRange_get, setRange_get, setRange_len, setRange_get]
  by_cases h2 : o ≤ j ∧ j < o + cs.length
  · have hA' := hA (j - o) (by omega)
    rw [show o + (j - o) = j by omega] at hA'
    have hjA : j < A.length := by
      rw [List.getElem?_eq_getElem (show j - o < cs.length by omega)] at hA'
      exact (List.getElem?_eq_some_iff.1 hA').1
    rw [if_pos h2, if_pos hjA]
    by_cases h1 : o + k ≤ j ∧ j < o + k + vs.length
    · rw [if_pos (show k ≤ j - o ∧ j - o < k + vs.length by omega), if_pos (show j - o < cs.length by omega), if_pos h1, if_pos hjA]
      congr 1; omega
    · rw [if_neg (show ¬ (k ≤ j - o ∧ j - o < k + vs.length) by omega), if_neg h1, hA']
  · rw [if_neg h2, if_neg (by omega)]
theorem escs_iff : ∀ (cs : List D), D.escs cs = true ↔ ∀ c ∈ cs, c.esc = true ∧ c.isAgg = false
  | [] => by simp [D.escs]
  | c :: cs => by
    simp only [D.escs, Bool.and_eq_true, Bool.not_eq_true', escs_iff cs, List.mem_cons, forall_eq_or_imp, and_assoc]
theorem escs_set (vs cs : List D) (k : Nat) (h : D.escs cs = true) (hv : D.escs vs = true) : D.escs (setRange cs k vs) = true := by
  rw [escs_iff] at h hv ⊢
  intro c hc
  obtain ⟨j, hj⟩ := List.mem_iff_getElem?.1 hc
  rw [setRange_get] at hj
  split at hj
  · split at hj
    · exact hv c (List.mem_of_getElem? hj)
    · cases hj
  · exact h c (List.mem_of_getElem? hj)
theorem escs_cells {y : D} (he : y.esc = true) : D.escs y.cells = true := by
  cases y <;> simp_all [D.cells, D.escs, D.esc, D.isAgg]
theorem kills_eq (ks : List Nat) : ks.map (fun j => (j, Blk.dead)) = kills ks := rfl
theorem elem_iff : ∀ (l : List Nat) (b : Nat), elem l b = true ↔ b ∈ l
  | [], b => by simp [elem]
  | a :: l, b => by
    simp only [elem, List.mem_cons]
    cases h : Nat.beq a b with
    | true => obtain rfl := Nat.eq_of_beq_eq_true h; simp
    | false =>
      have : b ≠ a := fun e => by subst e; rw [Nat.beq_refl] at h; cases h
      simp [elem_iff l b, this]
section
variable {P : Program} {G : Globs} {R : RP} {w : World} {e : Env} {a : Act} {Hm H' : Heap} {nid : Nat} {o : Oper}
theorem run_storeAt {t : TypeId} {n b off : Nat} {u : Value} {cs : Array Value} {el : TypeId} {fr : Nat × Nat} (hsz : szOf P t = some n) (hn : u.cells.size = n) (hc : w.heap[b]? = some (.cells cs el fr)) (hf : Unfz fr) (hlen : off + n ≤ cs.size) (h1 : ∀ v ∈ u.cells.toList, v.oneCell' = true) :
    (Instr.storeAt t (.pointer (some ⟨b, off, none⟩)) u).run P w = .ok () (w.setCells b off u.cells.toList) := by
  have hst := run_storeCells_cells (P := P) b off u.cells.toList 0 w (fun j hj => by
    rw [cell_of_heap hc]
    have : off + 0 + j < cs.size := by simp at hj; omega
    rw [Array.getElem?_eq_getElem this]; rfl) (fun j _ => hf.not hc _) h1
  simp only [Nat.add_zero] at hst
  simp [Instr.storeAt, Instr.sureAddr, storeVar, run_sizeOf hsz, hn, hst]
theorem opOK_u {s : Sem Unit} {w' : World} {Po : Value → World → Prop} (hx : execOp a.eval o = (do s; pure .skip)) (hr : s.run P w = .ok () w') (hp : Po undef w') : OpOK P o a w Po :=
  .inr (.inl ⟨w', by rw [hx]; simp [hr], hp⟩)
theorem s_store (pre : Pre G R w e a Hm) {t : TypeId} {n : Nat} {x y : Operand} {x' y' : Opd} {up : List (Nat × Blk)} {nw : List Blk} {r : V} (hop : o.op = .store t x y) (hx : okOpd G x x' = true) (hy : okOpd G y y' = true) (hsz : szOf P t = some n)
    (h : storeE Hm n (x'.val e) (y'.val e) = some (r, up, nw)) (hp : Placed R.H up nid nw H') : OpOK P o a w (Post R w nid nw.length H' r) := by
  have hv1 := pre.opd hx
  have hv2 := pre.opd hy
  unfold storeE at h
  split at h
  · rename_i b off hxe
    rw [hxe] at hv1
    cases hb : nth Hm b with
    | none => rw [hb] at h; cases h
    | some blk =>
      rw [hb] at h
      cases blk <;> try (cases h; done)
      rename_i cs
      dsimp only at h
      cases hc : (Nat.beq (y'.val e).cells.length n && Nat.ble (off + n) cs.length && (y'.val e).okb && flats (y'.val e).cells) with
      | false => rw [hc] at h; cases h
      | true =>
        rw [hc] at h
        simp only [cond_true, Option.some.injEq, Prod.mk.injEq] at h
        obtain ⟨rfl, rfl, rfl⟩ := h
        simp only [Bool.and_eq_true, Nat.ble_eq] at hc
        obtain ⟨⟨⟨c1, c2⟩, c3⟩, c4⟩ := hc
        have hcn := Nat.eq_of_beq_eq_true c1
        have hb' := pre.le b _ hb (by simp)
        obtain ⟨_, m, h1, h2⟩ := hv1
        obtain ⟨c, rfl, hpt⟩ := h2 cs hb'
        rw [nth_eq] at hb'
        obtain ⟨c', cs', el, fr, e1, e2, e3, e4, e5⟩ := pre.ok.blk b _ _ hb' h1
        cases e1
        have hcells := cells_ok hv2 c3
        have hlen := denVs_len _ _ hcells
        simp only [Array.length_toList] at hlen
        have hrun := run_storeAt (P := P) (u := a.eval y) (off := off) hsz (by omega) e2 e3 (by omega) (flat_one _ _ c4 hcells)
        obtain ⟨⟨cs1, g1, g2⟩, g3, g4, g5, g6, g7⟩ := heap_setCells c (a.eval y).cells.toList off w cs' el fr e2
        refine opOK_u (s := Instr.storeAt t (a.eval x) (a.eval y)) (by unfold execOp; rw [hop]) (by rw [hpt]; exact hrun) ?_
        have hl1 : cs1.size = cs'.size := by rw [← Array.length_toList, g1, setRange_len, Array.length_toList]
        refine Post.write (ks := []) pre.ok hb' h1 (by simp [Blk.like]) e2 g2 hl1 g3 g4 g5 g6 g7 (by simp) hp (fun R' hx hL hlv hb0 => ?_) (fun R' hx hM hh => trivial)
        refine ⟨c, cs1, el, fr, rfl, g2, e3, by rw [setRange_len, hl1]; exact e4, fun k v hk => ?_⟩
        rw [setRange_get] at hk
        rw [← Array.getElem?_toList, g1, setRange_get, Array.length_toList, hlen]
        split at hk
        · rename_i hr
          rw [if_pos hr]
          split at hk
          · rename_i hkl
            rw [if_pos (by simp; omega)]
            obtain ⟨u, q1, q2⟩ := denVs_at _ _ _ v hcells hk
            exact ⟨u, q1, hx.denV pre.ok.b01 _ _ q2⟩
          · cases hk
        · rename_i hr
          rw [if_neg hr]
          obtain ⟨u, q1, q2⟩ := e5 k v hk
          exact ⟨u, by simpa using q1, hx.denV pre.ok.b01 _ _ q2⟩
  · rename_i b sz i k hxe
    rw [hxe] at hv1
    cases hb : nth Hm b with
    | none => rw [hb] at h; cases h
    | some blk =>
      rw [hb] at h
      cases blk <;> try (cases h; done)
      rename_i sz' xs
      dsimp only at h
      cases hs : Nat.beq sz sz' with
      | false => rw [hs] at h; cases h
      | true =>
        rw [hs] at h
        obtain rfl := Nat.eq_of_beq_eq_true hs
        simp only [cond_true] at h
        cases hxi : nth xs i with
        | none => rw [hxi] at h; cases h
        | some x0 =>
          cases hfr : fr Hm 6 (y'.val e) with
          | none => rw [hxi, hfr] at h; cases h
          | some q =>
            obtain ⟨z, ks⟩ := q
            rw [hxi, hfr] at h
            dsimp only at h
            cases hel : elem ks b with
            | true => rw [hel] at h; cases h
            | false =>
              rw [hel] at h
              simp only [cond_false] at h
              cases hc : (Nat.beq z.cells.length n && Nat.ble (k + n) x0.cells.length && (V.d z).okb && (x0.isAgg || !z.isAgg)) with
              | false => rw [hc] at h; cases h
              | true =>
                rw [hc] at h
                simp only [cond_true, Option.some.injEq, Prod.mk.injEq] at h
                obtain ⟨rfl, rfl, rfl⟩ := h
                simp only [Bool.and_eq_true, Nat.ble_eq] at hc
                obtain ⟨⟨⟨c1, c2⟩, c3⟩, c4⟩ := hc
                have hcn := Nat.eq_of_beq_eq_true c1
                have hb' := pre.le b _ hb (by simp)
                obtain ⟨_, m, h1, h2⟩ := hv1
                obtain ⟨c, rfl, hpt⟩ := h2 xs hb'
                rw [nth_eq] at hb' hxi
                have hblk := pre.ok.blk b _ _ hb' h1
                obtain ⟨us, cs, el, hE, e2, e3⟩ := blk_els' hblk
                have hiu : i < us.length := by rw [hE.len]; exact (List.getElem?_eq_some_iff.1 hxi).1
                have hu0 := List.getElem?_eq_getElem hiu
                have hd0 : R.den w x0 us[i] := hE.den i x0 _ hxi hu0
                have hx0e : x0.esc = true := hE.esc x0 (List.mem_of_getElem? hxi)
                have hx0b : (V.d x0).okb = true := by cases x0 <;> simp_all [V.okb, D.esc]
                have hs0 : us[i].cells.size = x0.cells.length := esc_size hx0b hd0
                have hssz : us[i].cells.size = sz := hE.size _ (List.getElem_mem hiu)
                -- the value that is written
                have hvs : ∀ R1 : RP, Less R R1 ks → R1.den w z (a.eval y) ∧ (∀ A0' AL', DenD R1.A1 A0' AL' w z (a.eval y)) ∧ z.esc = true := by
                  intro R1 hL
                  obtain ⟨q1, q2⟩ := frV_esc 6 _ z ks pre hfr hL (fun _ h => h) _ hv2
                  refine ⟨q2 _ _, q2, ?_⟩
                  rcases q1 with q1 | ⟨ts, rfl⟩
                  · exact q1
                  · cases c3
                obtain ⟨hz1, _, hze⟩ := hvs _ (Less.kill R ks)
                have hzs : (a.eval y).cells.size = n := by rw [esc_size c3 hz1]; exact hcn
                have hone := esc_cells hze hz1
                have hcl : us.length * sz ≤ cs.size := by
                  rw [← flat_len us hE.size]
                  rcases Nat.eq_zero_or_pos (cellsOf us).length with hz | hz
                  · omega
                  · have := e3 ((cellsOf us).length - 1) _ (List.getElem?_eq_getElem (by omega))
                    have := (Array.getElem?_eq_some_iff.1 this).1
                    omega
                have hroom : i * sz + k + n ≤ cs.size := by
                  have := Nat.mul_le_mul_right sz (Nat.succ_le_of_lt hiu)
                  rw [Nat.succ_mul] at this
                  omega
                have hrun := run_storeAt (P := P) (u := a.eval y) (off := i * sz + k) hsz hzs e2 (show Unfz (0, 0) from Nat.le_refl _) (by omega) hone
                obtain ⟨⟨cs1, g1, g2⟩, g3, g4, g5, g6, g7⟩ := heap_setCells c (a.eval y).cells.toList (i * sz + k) w cs el (0, 0) e2
                refine opOK_u (s := Instr.storeAt t (a.eval x) (a.eval y)) (by unfold execOp; rw [hop]) (by rw [hpt]; exact hrun) ?_
                have hl1 : cs1.size = cs.size := by rw [← Array.length_toList, g1, setRange_len, Array.length_toList]
                have hbk : b ∉ ks := fun hm => by rw [(elem_iff ks b).2 hm] at hel; cases hel
                refine Post.write (ks := ks) pre.ok hb' h1 (by simp [Blk.like, setAt_eq]) e2 g2 hl1 g3 g4 g5 g6 g7 hbk hp (fun R' hx hL hlv hb0 => ?_) (fun R' hx hM hh => trivial)
                obtain ⟨hz2, hz3, _⟩ := hvs R' hL
                -- the same, in the new world
                have b01' : ∀ c, R'.B0 c → R'.B1 c := fun c hc => by rw [hL.b1]; rw [hb0] at hc; exact pre.ok.b01 c hc
                have hz4 : R'.den (w.setCells c (i * sz + k) (a.eval y).cells.toList) z (a.eval y) := by
                  refine DenD.change R'.A1 R'.A1 R'.A1 R'.A0 (fun _ _ h => h) (fun _ _ h => ⟨h.1, fun h0 => h.2 (b01' _ h0)⟩) (fun _ _ h => h) (fun b' _ hAL => g3 b' fun e => ?_) (by omega) (fun _ h => h.1) (fun _ h => h.1) z _ (hz3 R'.A1 R'.AL)
                  subst e; exact hAL hlv
                have hE' := hE.ext hx pre.ok.b01
                have hd0' : R'.den (w.setCells c (i * sz + k) (a.eval y).cells.toList) x0 us[i] := hE'.den i x0 _ hxi hu0
                -- the element's new value
                have key : ∃ u', R'.den (w.setCells c (i * sz + k) (a.eval y).cells.toList) (bif x0.isAgg then .agg (setRange x0.cells k z.cells) else z) u' ∧ u'.cells.toList = setRange us[i].cells.toList k (a.eval y).cells.toList ∧ (bif x0.isAgg then D.agg (setRange x0.cells k z.cells) else z).esc = true := by
                  cases hagg : x0.isAgg with
                  | true =>
                    cases x0 <;> try (cases hagg; done)
                    rename_i ds
                    obtain ⟨us0, f1, f2⟩ := hd0'
                    have f3 := (denVs_mapd ds us0).2 f2
                    have hzc := cells_ok (R := R') (v := .d z) hz4 c3
                    have hVc : (V.d z).cells = mapd z.cells := by cases z <;> rfl
                    rw [hVc] at hzc
                    have f4 := denVs_set f3 hzc k
                    have f5 : setRange (mapd ds) k (mapd z.cells) = mapd (setRange ds k z.cells) := by
                      apply List.ext_getElem?
                      intro j
                      simp only [mapd_eq, setRange_get, List.getElem?_map, List.length_map]
                      split
                      · split <;> simp
                      · rfl
                    rw [f5, denVs_mapd] at f4
                    refine ⟨.agg (setRange us0 k (a.eval y).cells.toList).toArray, ⟨_, rfl, f4⟩, by simp [Value.cells, f1], ?_⟩
                    exact escs_set _ _ _ hx0e (escs_cells hze)
                  | false =>
                    have hza : z.isAgg = false := by rw [hagg] at c4; simpa using c4
                    have hx1 : x0.cells = [x0] := by cases x0 <;> simp_all [D.cells, D.isAgg]
                    have hz1' : z.cells = [z] := by cases z <;> simp_all [D.cells, D.isAgg]
                    rw [hx1] at c2 hs0
                    rw [hz1'] at hcn
                    simp only [List.length_singleton] at c2 hs0 hcn
                    obtain rfl : k = 0 := by omega
                    refine ⟨a.eval y, hz4, ?_, hze⟩
                    have q1 : us[i].cells.toList.length = 1 := by simpa using hs0
                    have q2 : (a.eval y).cells.toList.length = 1 := by rw [Array.length_toList]; omega
                    obtain ⟨p1, hp1⟩ := List.length_eq_one_iff.1 q1
                    obtain ⟨p2, hp2⟩ := List.length_eq_one_iff.1 q2
                    rw [hp1, hp2]; rfl
                obtain ⟨u', k1, k2, k3⟩ := key
                have hus : u'.cells.size = sz := by rw [← Array.length_toList, k2, setRange_len, Array.length_toList]; exact hssz
                have hEn := hE'.set (i := i) k1 hus k3
                rw [setAt_eq]
                refine Els.blk hEn hblk.1 g2 fun j v hj => ?_
                have hsr : setRange (cellsOf us) (i * sz) (setRange us[i].cells.toList k (a.eval y).cells.toList) = setRange (cellsOf us) (i * sz + k) (a.eval y).cells.toList := by
                  refine setRange_set (fun j hj => ?_) ?_
                  · have hj' : j < us[i].cells.size := by simpa using hj
                    rw [flat_get us hE.size i j us[i] _ hu0 (Array.getElem?_eq_getElem hj'), Array.getElem?_toList, Array.getElem?_eq_getElem hj']
                  · simp only [Array.length_toList]; omega
                rw [← cellsOf_set hE.size hus hiu, k2, hsr] at hj
                rw [← Array.getElem?_toList, g1]
                exact setRange_mono (fun j v hv => by rw [Array.getElem?_toList]; exact e3 j v hv) j v hj
  · cases h
end
end Go.Proofs.YtakebhleglnpjaaDoorE

namespace Go.Proofs.YtakebhleglnpjaaDoorE
open Go
set_option linter.unusedVariables false
set_option linter.unusedSimpArgs false
section
variable {P : Program} {G : Globs} {R : RP} {w : World} {e : Env} {a : Act} {Hm H' : Heap} {nid : Nat} {o : Oper}
theorem Post.number (ok : R.OK w) {sz : Nat} {u : Value} (h0 : 0 < sz) (hn : R.M nid = none) (hp : Placed R.H [] nid [.arr sz []] H') (hu : ∃ ad, u = .slice ad 0 0) : Post R w nid 1 H' (.sl nid sz) u w := by
  have hH : ∀ i, i ≠ nid → H'[i]? = R.H[i]? := fun i hi => by
    have := hp i
    rw [this, if_neg (by simp; omega)]; rfl
  have hb : H'[nid]? = some (.arr sz []) := by
    have := hp nid
    rw [this, if_pos (by simp)]; simp
  have lv : ∀ i, i ≠ nid → isLive H' i = true → isLive R.H i = true := fun i hi h => by
    obtain ⟨blk, g1, g2⟩ := isLive_iff.1 h
    exact isLive_iff.2 ⟨blk, by rw [← hH i hi]; exact g1, g2⟩
  have e : Ext R w { R with M := fun i => if i = nid then some none else R.M i, H := H' } w := by
    refine ⟨?_, ?_, rfl, rfl, fun _ _ _ => rfl, fun _ cs el fr h => ⟨cs, el, fr, h, rfl⟩, Nat.le_refl _, ?_, rfl, rfl, rfl⟩
    · intro i x hx
      have : i ≠ nid := fun e => by rw [e, hn] at hx; cases hx
      simp [this, hx]
    · intro i x blk' hx hi hd
      have : i ≠ nid := fun e => by rw [e, hn] at hx; cases hx
      exact ⟨blk', by rw [← hH i this]; exact hi, Blk.like_refl hd⟩
    · rintro c _ ⟨i, g1, g2⟩
      simp only at g1 g2
      by_cases hi : i = nid
      · rw [if_pos hi] at g2; cases g2
      · rw [if_neg hi] at g2
        exact ⟨i, lv i hi g1, g2⟩
  refine ⟨_, e, ⟨ok.b01, ?_, ?_, ?_, ?_, ?_, ok.bl⟩, rfl, ?_, fun i h hni => by
    have : i ≠ nid := fun h => hni (by subst h; simp)
    simp [this, h]⟩
  · intro i blk' hi hd
    by_cases hin : i = nid
    · exact ⟨none, by simp [hin]⟩
    · obtain ⟨x, hx⟩ := ok.al i blk' (by rw [← hH i hin]; exact hi) hd
      exact ⟨x, by simp [hin, hx]⟩
  · intro i j c hi hj g1 g2
    simp only at g1 g2
    by_cases hin : i = nid
    · rw [if_pos hin] at g1; cases g1
    · by_cases hjn : j = nid
      · rw [if_pos hjn] at g2; cases g2
      · rw [if_neg hin] at g1; rw [if_neg hjn] at g2
        exact ok.inj i j c (lv i hin hi) (lv j hjn hj) g1 g2
  · intro i c hc
    simp only at hc
    by_cases hin : i = nid
    · rw [if_pos hin] at hc; cases hc
    · rw [if_neg hin] at hc; exact ok.lt i c hc
  · intro i m blk' hi hm
    simp only at hi hm
    by_cases hin : i = nid
    · subst hin
      rw [if_pos rfl] at hm; cases hm
      rw [hb] at hi; cases hi
      exact ⟨h0, by simp, .inl ⟨rfl, rfl⟩⟩
    · rw [if_neg hin] at hm
      rw [hH i hin] at hi
      exact e.blkOK ok.b01 (fun _ _ => rfl) (ok.blk i m blk' hi hm)
  · intro i c hl hc
    simp only at hc
    by_cases hin : i = nid
    · rw [if_pos hin] at hc; cases hc
    · rw [if_neg hin] at hc; exact ok.nb i c (lv i hin hl) hc
  · obtain ⟨ad, rfl⟩ := hu
    refine ⟨⟨_, _, _, rfl⟩, none, by simp, fun xs hx => ?_⟩
    simp only [nth_eq, hb] at hx
    cases hx
    exact ⟨by simp, _, _, rfl, Nat.le_refl _, .inl ⟨rfl, rfl⟩⟩
theorem Els.sub {sz : Nat} {xs : List D} {us : List Value} (h : Els R w sz xs us) (l n : Nat) : Els R w sz ((xs.drop l).take n) ((us.drop l).take n) where
  len := by simp [h.len]
  den := fun j x u hx hu => by
    rw [List.getElem?_take] at hx hu
    split at hx
    · rename_i hj
      rw [if_pos hj] at hu
      rw [List.getElem?_drop] at hx hu
      exact h.den _ x u hx hu
    · cases hx
  size := fun u hu => h.size u (List.mem_of_mem_drop (List.mem_of_mem_take hu))
  esc := fun x hx => h.esc x (List.mem_of_mem_drop (List.mem_of_mem_take hx))
theorem blk_write {sz p : Nat} {xs ys : List D} {us us2 : List Value} {cs cs1 : Array Value} (hE : Els R w sz xs us) (hE2 : Els R w sz ys us2) (hp : p ≤ xs.length) (hcs : ∀ (j : Nat) v, (cellsOf us)[j]? = some v → cs[j]? = some v) (hroom : (p + ys.length) * sz ≤ cs.size)
    (h1 : cs1.toList = setRange cs.toList (p * sz) (cellsOf us2)) : ∃ us', Els R w sz (xs.take p ++ (ys ++ xs.drop (p + ys.length))) us' ∧ ∀ (j : Nat) v, (cellsOf us')[j]? = some v → cs1[j]? = some v := by
  have hA := hE.sub 0 p
  have hC := hE.sub (p + ys.length) xs.length
  have e1 : (xs.drop (p + ys.length)).take xs.length = xs.drop (p + ys.length) := List.take_of_length_le (by simp)
  have e2 : (us.drop (p + ys.length)).take xs.length = us.drop (p + ys.length) := List.take_of_length_le (by simp [hE.len])
  rw [e1, e2] at hC
  simp only [List.drop_zero] at hA
  have hEn := hA.append (hE2.append hC)
  refine ⟨_, hEn, fun j v hj => ?_⟩
  obtain ⟨i, k, u, g1, g2, rfl⟩ := flat_inv _ hEn.size j v hj
  have hk : k < sz := by rw [← hEn.size u (List.mem_of_getElem? g1)]; exact (Array.getElem?_eq_some_iff.1 g2).1
  have hlp : (us.take p).length = p := by rw [List.length_take, hE.len]; omega
  have hl2 : (cellsOf us2).length = ys.length * sz := by rw [flat_len us2 hE2.size, hE2.len]
  rw [← Array.getElem?_toList, h1, setRange_get, hl2]
  by_cases c1 : i < p
  · rw [List.getElem?_append_left (by omega), List.getElem?_take, if_pos c1] at g1
    have := ltbl (sz := sz) c1 hk
    rw [if_neg (by omega), Array.getElem?_toList]
    exact hcs _ v (flat_get us hE.size i k u v g1 g2)
  · rw [List.getElem?_append_right (by omega), hlp] at g1
    have hge : p * sz ≤ i * sz := Nat.mul_le_mul_right sz (by omega)
    by_cases c2 : i - p < ys.length
    · rw [List.getElem?_append_left (by rw [hE2.len]; exact c2)] at g1
      have h3 := ltbl (sz := sz) c2 hk
      rw [Nat.sub_mul] at h3
      have h4 : (p + ys.length) * sz = p * sz + ys.length * sz := Nat.add_mul _ _ _
      rw [if_pos (by omega), if_pos (by simp only [Array.length_toList]; omega)]
      have := flat_get us2 hE2.size (i - p) k u v g1 g2
      rw [Nat.sub_mul] at this
      rw [← this]
      congr 1; omega
    · rw [List.getElem?_append_right (by rw [hE2.len]; omega), List.getElem?_drop, hE2.len] at g1
      have h3 : (p + ys.length) * sz ≤ i * sz := Nat.mul_le_mul_right sz (by omega)
      rw [Nat.add_mul] at h3
      rw [if_neg (by omega), Array.getElem?_toList]
      have h5 : p + ys.length + (i - p - ys.length) = i := by omega
      rw [h5] at g1
      exact hcs _ v (flat_get us hE.size i k u v g1 g2)
theorem run_first {i : TypeInfo} {ad : Option Addr} {n len cap : Nat} {news : List Value} (hl : news.length = n * i.size) (h : 0 < n → ∃ b off, ad = some ⟨b, off, none⟩ ∧ ∀ (j : Nat) v, news[j]? = some v → w.cell? ⟨b, off + j, none⟩ = some v) :
    (Builtin.firstCells i.size n (.slice ad len cap)).run P w = .ok news.toArray w := by
  rcases Nat.eq_zero_or_pos n with rfl | hn
  · have : news = [] := by simpa using hl
    subst this
    cases ad with
    | none => simp [Builtin.firstCells]
    | some ad => simp [Builtin.firstCells, loadCells, loadCellsFrom]
  · obtain ⟨b, off, rfl, h2⟩ := h hn
    exact run_firstCells_some (P := P) w i.size n ⟨b, off, none⟩ len cap news hl (fun j v hj => by rw [Addr.add_lit]; exact h2 j v hj)
theorem run_app_grow {t t2 ty el el2 : TypeId} {i : TypeInfo} {zv : Value} (ht : P.underlying t = some (.slice el)) (ht2 : P.underlying t2 = some (.slice el2)) (hi : P.info? el = some i) (hz : i.zero = some zv) {ad ad2 : Option Addr} {sLen sCap n cap2 : Nat} {olds news : List Value}
    (hfo : (Builtin.firstCells i.size sLen (.slice ad sLen sCap)).run P w.drew = .ok olds.toArray w.drew) (hf : (Builtin.firstCells i.size n (.slice ad2 n cap2)).run P w.drew = .ok news.toArray w.drew)
    (hg : sCap < sLen + n) (h63 : ((sLen + n : Nat) : Int) ≤ 9223372036854775807) (hfit : Builtin.nextslicecap (sLen + n) sCap * i.bytes ≤ 281474976710656) :
    (Builtin.append_ #[t, t2] ty #[.slice ad sLen sCap, .slice ad2 n cap2]).run P w =
      .ok (.slice (some ⟨w.heap.size, 0, none⟩) (sLen + n) (grownCap w (sLen + n) sCap el))
        (w.drew.alloc (.cells (olds.toArray ++ news.toArray ++ Builtin.zeroCells zv.cells (grownCap w (sLen + n) sCap el - (sLen + n))) el)) := by
  have hn : ¬ (sLen + n ≤ sCap) := by omega
  have h63' : ¬ (9223372036854775807 < ((sLen : Int) + (n : Int))) := by omega
  have h48' : ¬ (281474976710656 < Builtin.nextslicecap (sLen + n) sCap * i.bytes) := by omega
  simp [Builtin.append_, run_underlying ht, run_underlying ht2, sizeOf, typeInfo, zeroValue, hi, hz, Builtin.lenOf, hn, h63', h48', Question.forced, hf, hfo, newRow, grownCap]
  congr 2
  apply Array.ext'
  simp [List.append_assoc]
theorem run_app_room {t t2 ty el el2 : TypeId} {i : TypeInfo} (ht : P.underlying t = some (.slice el)) (ht2 : P.underlying t2 = some (.slice el2)) (hi : P.info? el = some i) {ad ad2 : Option Addr} {sLen sCap n cap2 : Nat} {news : List Value} {w' : World}
    (hf : (Builtin.firstCells i.size n (.slice ad2 n cap2)).run P w = .ok news.toArray w) (hroom : sLen + n ≤ sCap)
    (hst : ∀ b, ad = some b → (storeCells (b.add (sLen * i.size)) news).run P w = .ok () w') (h0 : ad = none → w' = w) :
    (Builtin.append_ #[t, t2] ty #[.slice ad sLen sCap, .slice ad2 n cap2]).run P w = .ok (.slice ad (sLen + n) sCap) w' := by
  cases ad with
  | none =>
    rw [h0 rfl]
    simp [Builtin.append_, run_underlying ht, run_underlying ht2, sizeOf, typeInfo, hi, Builtin.lenOf, hroom, hf]
  | some b =>
    have := hst b rfl
    simp [Builtin.append_, run_underlying ht, run_underlying ht2, sizeOf, typeInfo, hi, Builtin.lenOf, hroom, hf, this]
theorem zeroCells_size (z : Array Value) (n : Nat) : (Builtin.zeroCells z n).size = n * z.size := by simp [Builtin.zeroCells]
theorem s_append (pre : Pre G R w e a Hm) {t t2 el el2 : TypeId} {sz : Nat} {i : TypeInfo} {zv : Value} {x y : Operand} {x' y' : Opd} {v : V} {up : List (Nat × Blk)} {nw : List Blk} (hop : o.op = .call { callee := .builtin .append, args := #[x, y], argTypes := #[t, t2] })
    (he : ElTy P t el sz i zv) (ht2 : P.underlying t2 = some (.slice el2)) (hx : okOpd G x x' = true) (hy : okOpd G y y' = true) (h : appendE nid Hm sz (x'.val e) (y'.val e) = some (v, up, nw)) (hn : ∀ i, nid ≤ i → i < nid + nw.length → R.M i = none) (hp : Placed R.H up nid nw H') :
    OpOK P o a w (Post R w nid nw.length H' v) := by
  have hv1 := pre.opd hx
  have hv2 := pre.opd hy
  unfold appendE at h
  cases hes : elems Hm (y'.val e) with
  | none => rw [hes] at h; cases h
  | some ys =>
    rw [hes] at h
    dsimp only at h
    cases hsz : szAt sz ys 0 with
    | false => rw [hsz] at h; cases h
    | true =>
      rw [hsz] at h
      simp only [cond_true] at h
      obtain ⟨us2, ad2, cap2, q1, q2, hE2, q4⟩ := src_ok pre hes hsz hv2
      have hl2 : (cellsOf us2).length = ys.length * i.size := by rw [flat_len us2 hE2.size, hE2.len, he.s]
      have hloc : 0 < ys.length → ∃ b off, ad2 = some ⟨b, off, none⟩ ∧ ∀ (j : Nat) v, (cellsOf us2)[j]? = some v → w.cell? ⟨b, off + j, none⟩ = some v := fun h => q4 (List.length_pos_iff.1 h)
      have hf := run_first (P := P) (w := w) (ad := ad2) (len := ys.length) (cap := cap2) hl2 hloc
      have hfd := run_first (P := P) (w := w.drew) (ad := ad2) (len := ys.length) (cap := cap2) hl2 hloc
      have fin : ∀ {v : V} {u : Value} {w' : World} {n : Nat}, (Builtin.append_ #[t, t2] o.type #[a.eval x, a.eval y]).run P w = .ok u w' → Post R w nid n H' v u w' → OpOK P o a w (Post R w nid n H' v) :=
        fun h1 h2 => opOK_v (s := Builtin.append_ #[t, t2] o.type #[a.eval x, a.eval y]) (by rw [exec_builtin hop, BigFrame.builtin_append]; simp) h1 h2
      -- it grows
      have grow : ∀ {R1 : RP} {xs : List D} {us1 : List Value} {ad : Option Addr} {cap : Nat}, R1.OK w → R1.M nid = none → Els R1 w sz xs us1 → Els R1 w sz ys us2 → Placed R1.H [] nid [.arr sz (xs ++ ys)] H' → (∀ {n H' v u w'}, Post R1 w nid n H' v u w' → Post R w nid n H' v u w') →
          a.eval x = .slice ad xs.length cap → (0 < xs.length → ∃ b off, ad = some ⟨b, off, none⟩ ∧ ∀ (j : Nat) v, (cellsOf us1)[j]? = some v → w.cell? ⟨b, off + j, none⟩ = some v) → cap < xs.length + ys.length → xs.length + ys.length ≤ lim →
          OpOK P o a w (Post R w nid 1 H' (.sl nid sz)) := by
        intro R1 xs us1 ad cap ok1 hn1 hE1 hE2' hp1 hup h1 h2 h3 h4
        have hl1 : (cellsOf us1).length = xs.length * i.size := by rw [flat_len us1 hE1.size, hE1.len, he.s]
        have hfo := run_first (P := P) (w := w.drew) (ad := ad) (len := xs.length) (cap := cap) hl1 h2
        have hby := he.by_
        have h4' : xs.length + ys.length ≤ 1073741824 := h4
        have hmul : (xs.length + ys.length) * i.bytes ≤ 140737488355328 := Nat.le_trans (Nat.mul_le_mul h4' hby) (by omega)
        have hrun := run_app_grow (P := P) (w := w) (ty := o.type) he.u ht2 he.inf he.z hfo hfd h3 (by omega) (growslice_fits h3 hmul)
        have hge := grownCap_ge w (xs.length + ys.length) cap el
        refine fin (by rw [h1, q1]; exact hrun) (hup (Post.drew ?_))
        have hd : Ext R1 w R1 w.drew := Ext.draw rfl rfl rfl rfl
        have hE := (hE1.append hE2').ext hd ok1.b01
        have hll : (xs ++ ys).length = xs.length + ys.length := List.length_append
        have := post_arr (R := R1) (w := w.drew) (el := el) (cap := grownCap w (xs.length + ys.length) cap el) (ok1.draw rfl rfl rfl rfl) he.pos hE (cs := (cellsOf us1).toArray ++ (cellsOf us2).toArray ++ Builtin.zeroCells zv.cells (grownCap w (xs.length + ys.length) cap el - (xs.length + ys.length))) (fun j v hv => by
          rw [cellsOf_append] at hv
          have hlt := (List.getElem?_eq_some_iff.1 hv).1
          rw [Array.getElem?_append_left (by simpa using hlt)]
          simpa using hv) (by
          simp only [Array.size_append, List.size_toArray, hl1, hl2, he.s, zeroCells_size, he.zs]
          rw [← Nat.add_mul, ← Nat.add_mul]; congr 1; omega) (by rw [hll]; exact hge) hn1 hp1
        rwa [hll] at this
      -- nothing lies there yet
      have fresh : ∀ {R1 : RP} {ad : Option Addr}, R1.OK w → R1.M nid = none → Els R1 w sz ys us2 → Placed R1.H [] nid [.arr sz ys] H' → (∀ {n H' v u w'}, Post R1 w nid n H' v u w' → Post R w nid n H' v u w') → a.eval x = .slice ad 0 0 → ys.length ≤ lim →
          OpOK P o a w (Post R w nid 1 H' (.sl nid sz)) := by
        intro R1 ad ok1 hn1 hE2' hp1 hup h1 h4
        rcases Nat.eq_zero_or_pos ys.length with hy0 | hy0
        · have hys : ys = [] := List.eq_nil_of_length_eq_zero hy0
          subst hys
          have hus : cellsOf us2 = [] := List.eq_nil_of_length_eq_zero (by simpa using hl2)
          rw [hus] at hf
          refine fin (u := .slice ad 0 0) (w' := w) (by
            rw [h1, q1]
            exact run_app_room (P := P) he.u ht2 he.inf hf (Nat.le_refl _) (fun b _ => rfl) (fun _ => rfl)) (hup (Post.number ok1 he.pos hn1 hp1 ⟨_, rfl⟩))
        · have := grow (R1 := R1) (xs := []) (us1 := []) (ad := ad) (cap := 0) ok1 hn1 ⟨rfl, by simp, by simp, by simp⟩ hE2' hp1 hup h1 (fun h => by simp at h) (by simpa using hy0) (by simpa using h4)
          exact this
      -- it is written where it lies
      have room : ∀ {b c off p cap len : Nat} {xs : List D} {us : List Value} {cs : Array Value} {el' : TypeId}, a.eval x = .slice (some ⟨c, off, none⟩) len cap → off + len * sz = p * sz → len + ys.length ≤ cap → w.heap[c]? = some (.cells cs el' (0, 0)) → (p + ys.length) * sz ≤ cs.size →
          ∃ cs1 : Array Value, (Builtin.append_ #[t, t2] o.type #[a.eval x, a.eval y]).run P w = .ok (.slice (some ⟨c, off, none⟩) (len + ys.length) cap) (w.setCells c (p * sz) (cellsOf us2)) ∧ cs1.toList = setRange cs.toList (p * sz) (cellsOf us2) ∧ (w.setCells c (p * sz) (cellsOf us2)).heap[c]? = some (.cells cs1 el' (0, 0)) ∧ cs1.size = cs.size := by
        intro b c off p cap len xs us cs el' h1 h2 h3 h4 h5
        obtain ⟨⟨cs1, g1, g2⟩, _⟩ := heap_setCells c (cellsOf us2) (p * sz) w cs el' (0, 0) h4
        refine ⟨cs1, ?_, g1, g2, by rw [← Array.length_toList, g1, setRange_len, Array.length_toList]⟩
        rw [h1, q1]
        have hst := run_storeCells_cells (P := P) c (p * sz) (cellsOf us2) 0 w (fun j hj => by
          rw [cell_of_heap h4]
          rw [hl2, he.s] at hj
          have : p * sz + 0 + j < cs.size := by rw [Nat.add_mul] at h5; omega
          rw [Array.getElem?_eq_getElem this]; rfl) (fun j _ => Unfz.not (show Unfz (0, 0) from Nat.le_refl _) h4 _) hE2.one
        refine run_app_room (P := P) he.u ht2 he.inf hf h3 (fun b hb => ?_) (fun h => by cases h)
        cases hb
        rw [Addr.add_lit, he.s, h2]
        exact hst
      split at h
      · rename_i szx hxe
        rw [hxe] at hv1
        obtain ⟨ad, hu1⟩ := hv1
        cases hc : Nat.ble ys.length lim with
        | false => rw [hc] at h; cases h
        | true =>
          rw [hc] at h
          simp only [cond_true, Option.some.injEq, Prod.mk.injEq] at h
          obtain ⟨rfl, rfl, rfl⟩ := h
          have hn := hn nid (Nat.le_refl _) (by simp)
          exact fresh pre.ok hn hE2 hp (fun h => h) hu1 (Nat.le_of_ble_eq_true hc)
      · rename_i b sz' hxe
        rw [hxe] at hv1
        cases hb : nth Hm b with
        | none => rw [hb] at h; cases h
        | some blk =>
          rw [hb] at h
          cases blk <;> try (cases h; done)
          rename_i sz'' xs
          dsimp only at h
          cases hs : (Nat.beq sz sz' && Nat.beq sz sz'') with
          | false => rw [hs] at h; cases h
          | true =>
            rw [hs] at h
            simp only [cond_true] at h
            simp only [Bool.and_eq_true] at hs
            obtain rfl := Nat.eq_of_beq_eq_true hs.1
            obtain rfl := Nat.eq_of_beq_eq_true hs.2
            cases hc : Nat.ble (xs.length + ys.length) lim with
            | false => rw [hc] at h; cases h
            | true =>
              rw [hc] at h
              simp only [cond_true, Option.some.injEq, Prod.mk.injEq] at h
              obtain ⟨rfl, rfl, rfl⟩ := h
              have hnn : R.M nid = none := hn nid (Nat.le_refl _) (by simp)
              have hc' := Nat.le_of_ble_eq_true hc
              obtain ⟨m, r1, r2, r3, r4⟩ := own_sl pre hb hv1
              have ok1 : RP.OK { R with H := updH R.H (kills [b]) } w := pre.ok.kill (fun i blk => kill_le [b] _ i blk)
              have hx1 : Ext R w { R with H := updH R.H (kills [b]) } w := Ext.kill (fun i blk => kill_le [b] _ i blk)
              obtain ⟨s0, ad, cap, s1, s2, s3⟩ := r4
              rcases s3 with ⟨s3, s4⟩ | ⟨c, cs, el', fr', s4, s5, s6, s7⟩
              · have hxs : xs = [] := List.eq_nil_of_length_eq_zero s4.symm
                subst hxs
                subst s3
                exact fresh ok1 hnn (hE2.ext hx1 pre.ok.b01) (show Placed (updH R.H (kills [b])) [] nid [.arr sz ys] H' from hp) (fun h => Post.afterKill pre.ok h) s1 (by simpa using hc')
              · subst s4; subst s5
                obtain ⟨us1, cs2, el2', hE1, t1, t2'⟩ := blk_els' r3
                rw [s6] at t1; cases t1; have t1 := s6
                by_cases hroom : xs.length + ys.length ≤ cap
                · obtain ⟨cs1, u1, u2, u3, u4⟩ := room (b := b) (p := xs.length) (xs := xs) (us := us1) s1 (by rw [Nat.zero_mul, Nat.zero_add]) hroom t1 (by rw [s7, Nat.zero_add]; exact Nat.mul_le_mul_right sz hroom)
                  obtain ⟨_, g3, g4, g5, g6, g7⟩ := heap_setCells c (cellsOf us2) (xs.length * sz) w cs el' (0, 0) t1
                  refine fin u1 (Post.reuse pre.ok (by rw [← nth_eq]; exact r2) (by simp) r1 hnn t1 u3 u4 g3 g4 g5 g6 g7 hp fun R' hx' hM hH => ⟨?_, ?_⟩)
                  · obtain ⟨us', v1, v2⟩ := blk_write (R := R') (hE1.ext hx' pre.ok.b01) (hE2.ext hx' pre.ok.b01) (Nat.le_refl _) t2' (by rw [s7, Nat.zero_add]; exact Nat.mul_le_mul_right sz hroom) u2
                    have hlist : xs.take xs.length ++ (ys ++ xs.drop (xs.length + ys.length)) = xs ++ ys := by
                      rw [List.take_length, List.drop_eq_nil_of_le (by omega), List.append_nil]
                    rw [hlist] at v1
                    exact Els.blk v1 he.pos u3 v2
                  · refine ⟨⟨_, _, _, rfl⟩, _, hM, fun zs hz => ?_⟩
                    rw [nth_eq, hH] at hz; cases hz
                    exact ⟨by omega, _, _, by rw [List.length_append], by rw [List.length_append]; exact hroom, .inr ⟨c, cs1, el', (0, 0), rfl, by rw [Nat.zero_mul], u3, by rw [u4, s7]⟩⟩
                · refine grow (us1 := us1) ok1 hnn (hE1.ext hx1 pre.ok.b01) (hE2.ext hx1 pre.ok.b01) hp (fun h => Post.afterKill pre.ok h) s1 (fun _ => ⟨c, 0 * sz, rfl, fun j v hj => ?_⟩) (by omega) hc'
                  rw [cell_of_heap t1, Nat.zero_mul, Nat.zero_add]
                  exact t2' j v hj
      · rename_i b sz' of len hxe
        rw [hxe] at hv1
        cases hb : nth Hm b with
        | none => rw [hb] at h; cases h
        | some blk =>
          rw [hb] at h
          cases blk <;> try (cases h; done)
          rename_i sz'' xs
          dsimp only at h
          cases hs : (Nat.beq sz sz' && Nat.beq sz sz'' && Nat.ble (of + len + ys.length) xs.length) with
          | false => rw [hs] at h; cases h
          | true =>
            rw [hs] at h
            simp only [cond_true, Option.some.injEq, Prod.mk.injEq] at h
            obtain ⟨rfl, rfl, rfl⟩ := h
            simp only [Bool.and_eq_true, Nat.ble_eq] at hs
            obtain ⟨⟨hs1, hs2⟩, hs3⟩ := hs
            obtain rfl := Nat.eq_of_beq_eq_true hs1
            obtain rfl := Nat.eq_of_beq_eq_true hs2
            obtain ⟨m, r1, r2, r3, r4⟩ := own_slp pre hb hv1
            obtain ⟨s0, ad, cap, s1, s2, s3⟩ := r4
            rcases s3 with ⟨s3, s4⟩ | ⟨c, cs, el', fr', s4, s5, s6, s7⟩
            · subst s3
              have hl0 : len = 0 := by omega
              subst hl0
              have hy0 : ys.length = 0 := by omega
              have hys : ys = [] := List.eq_nil_of_length_eq_zero hy0
              subst hys
              have hus : cellsOf us2 = [] := List.eq_nil_of_length_eq_zero (by simpa using hl2)
              rw [hus] at hf
              refine fin (u := .slice ad 0 0) (w' := w) (by
                rw [s1, q1]
                exact run_app_room (P := P) he.u ht2 he.inf hf (Nat.le_refl _) (fun b _ => rfl) (fun _ => rfl)) ?_
              have hlist : xs.take (of + 0) ++ ([] ++ xs.drop (of + 0 + ([] : List D).length)) = xs := by simp
              rw [hlist] at hp
              have hsame : updH R.H [(b, .arr sz xs)] = R.H := by
                show setAt R.H b (.arr sz xs) = R.H
                rw [setAt_eq]
                apply List.ext_getElem?
                intro j
                rw [List.getElem?_set]
                split
                · rename_i hbj
                  subst hbj
                  rw [nth_eq] at r2
                  rw [if_pos (List.getElem?_eq_some_iff.1 r2).1, r2]
                · rfl
              have hp' : Placed R.H [] nid [] H' := fun j => by
                have := hp j
                rwa [hsame] at this
              refine Post.stay pre.ok hp' ?_
              rw [s1] at hv1
              exact hv1
            · subst s4; subst s5
              obtain ⟨us1, cs2, el2', hE1, t1, t2'⟩ := blk_els' r3
              rw [s6] at t1; cases t1; have t1 := s6
              have hxl : xs.length ≤ of + cap := by
                obtain ⟨k0, _, k1⟩ := r3
                rcases k1 with ⟨k1, _⟩ | ⟨c', cs2, el2', k1, k2, k3, _⟩
                · cases k1
                · cases k1
                  rw [t1] at k2; cases k2
                  rw [s7] at k3
                  exact Nat.le_of_mul_le_mul_right k3 k0
              have hfit : (of + len + ys.length) * sz ≤ cs.size := by
                rw [s7]; exact Nat.mul_le_mul_right sz (by omega)
              obtain ⟨cs1, u1, u2, u3, u4⟩ := room (b := b) (p := of + len) (xs := xs) (us := us1) s1 (by rw [Nat.add_mul]) (by omega) t1 hfit
              obtain ⟨_, g3, g4, g5, g6, g7⟩ := heap_setCells c (cellsOf us2) ((of + len) * sz) w cs el' (0, 0) t1
              have hnl : (xs.take (of + len) ++ (ys ++ xs.drop (of + len + ys.length))).length = xs.length := by
                simp only [List.length_append, List.length_take, List.length_drop]; omega
              refine fin u1 (Post.write (ks := []) pre.ok (by rw [← nth_eq]; exact r2) r1 (blk := .arr sz (xs.take (of + len) ++ (ys ++ xs.drop (of + len + ys.length)))) (old := .arr sz xs) ⟨rfl, hnl⟩ t1 u3 u4 g3 g4 g5 g6 g7 (by simp) hp (fun R' hx' hL hlv hb0 => ?_) (fun R' hx' hM hh => ?_))
              · obtain ⟨us', v1, v2⟩ := blk_write (R := R') (hE1.ext hx' pre.ok.b01) (hE2.ext hx' pre.ok.b01) (by omega) t2' hfit u2
                exact Els.blk v1 he.pos u3 v2
              · refine ⟨⟨_, _, _, rfl⟩, some c, by rw [hM]; exact r1, fun zs hz => ?_⟩
                rw [nth_eq] at hz
                have := hh _ hz (by simp)
                cases this
                exact ⟨by rw [hnl]; omega, _, _, rfl, by omega, .inr ⟨c, cs1, el', (0, 0), rfl, rfl, u3, by rw [u4, s7]⟩⟩
      · cases h
theorem Ext.aside (ok : R.OK w) (ob : Obj) : Ext R w R (w.alloc ob) where
  m := fun i x hx => hx
  h := fun i x blk _ hb hd => ⟨blk, hb, Blk.like_refl hd⟩
  b1 := rfl
  b0 := rfl
  same := fun b hb _ => Go.RowKit.Below.heap_alloc _ _ _ hb
  row := fun b cs el fr hb => by
    have hlt : b < w.heap.size := (Array.getElem?_eq_some_iff.1 hb).1
    exact ⟨cs, el, fr, by rw [Go.RowKit.Below.heap_alloc _ _ _ hlt]; exact hb, rfl⟩
  grow := by show w.heap.size ≤ (w.heap.push ob).size; simp
  liv := fun c _ h => h
  os := rfl
  tape := rfl
  output := rfl
theorem RP.OK.aside (ok : R.OK w) (ob : Obj) : R.OK (w.alloc ob) where
  b01 := ok.b01
  al := ok.al
  inj := ok.inj
  lt := fun i c h => Nat.lt_of_lt_of_le (ok.lt i c h) (Ext.aside ok ob).grow
  blk := fun i m blk h hm => (Ext.aside ok ob).blkOK ok.b01 (fun c hc => Go.RowKit.Below.heap_alloc _ _ _ (ok.lt i c (by rw [hm, hc]))) (ok.blk i m blk h hm)
  nb := ok.nb
  bl := fun c h => Nat.lt_of_lt_of_le (ok.bl c h) (Ext.aside ok ob).grow
theorem s_appendD (pre : Pre G R w e a Hm) {t t2 el el2 : TypeId} {sz : Nat} {i : TypeInfo} {zv : Value} {x y : Operand} {x' y' : Opd} {v : V} (hop : o.op = .call { callee := .builtin .append, args := #[x, y], argTypes := #[t, t2] })
    (he : ElTy P t el sz i zv) (ht2 : P.underlying t2 = some (.slice el2)) (hx : okOpd G x x' = true) (hy : okOpd G y y' = true) (h : appendDE Hm sz (x'.val e) (y'.val e) = some v) (hp : Placed R.H [] nid [] H') :
    OpOK P o a w (Post R w nid 0 H' v) := by
  have hv1 := pre.opd hx
  have hv2 := pre.opd hy
  unfold appendDE at h
  split at h
  · rename_i szx hxe
    rw [hxe] at hv1
    obtain ⟨ad, hu1⟩ := hv1
    cases hes : elems Hm (y'.val e) with
    | none => rw [hes] at h; cases h
    | some ys =>
      rw [hes] at h
      dsimp only at h
      cases hc : (szAt sz ys 0 && Nat.ble ys.length lim) with
      | false => rw [hc] at h; cases h
      | true =>
        rw [hc] at h
        simp only [cond_true, Option.some.injEq] at h
        subst h
        simp only [Bool.and_eq_true] at hc
        have h4 : ys.length ≤ 1073741824 := Nat.le_of_ble_eq_true hc.2
        obtain ⟨us2, ad2, cap2, q1, q2, hE2, q4⟩ := src_ok pre hes hc.1 hv2
        have hl2 : (cellsOf us2).length = ys.length * i.size := by rw [flat_len us2 hE2.size, hE2.len, he.s]
        have hloc : 0 < ys.length → ∃ b off, ad2 = some ⟨b, off, none⟩ ∧ ∀ (j : Nat) v, (cellsOf us2)[j]? = some v → w.cell? ⟨b, off + j, none⟩ = some v := fun h => q4 (List.length_pos_iff.1 h)
        have hf := run_first (P := P) (w := w) (ad := ad2) (len := ys.length) (cap := cap2) hl2 hloc
        have hfd := run_first (P := P) (w := w.drew) (ad := ad2) (len := ys.length) (cap := cap2) hl2 hloc
        have fin : ∀ {v : V} {u : Value} {w' : World} {n : Nat}, (Builtin.append_ #[t, t2] o.type #[a.eval x, a.eval y]).run P w = .ok u w' → Post R w nid n H' v u w' → OpOK P o a w (Post R w nid n H' v) :=
          fun h1 h2 => opOK_v (s := Builtin.append_ #[t, t2] o.type #[a.eval x, a.eval y]) (by rw [exec_builtin hop, BigFrame.builtin_append]; simp) h1 h2
        rcases Nat.eq_zero_or_pos ys.length with hy0 | hy0
        · have hys : ys = [] := List.eq_nil_of_length_eq_zero hy0
          subst hys
          have hus : cellsOf us2 = [] := List.eq_nil_of_length_eq_zero (by simpa using hl2)
          rw [hus] at hf
          refine fin (u := .slice ad 0 0) (w' := w) (by
            rw [hu1, q1]
            exact run_app_room (P := P) he.u ht2 he.inf hf (Nat.le_refl _) (fun b _ => rfl) (fun _ => rfl)) (Post.stay pre.ok hp ⟨ad, 0, 0, rfl, rfl, Nat.le_refl _, by simp, fun hne => absurd rfl hne⟩)
        · have hby := he.by_
          have hmul : (0 + ys.length) * i.bytes ≤ 140737488355328 := by rw [Nat.zero_add]; exact Nat.le_trans (Nat.mul_le_mul h4 hby) (by omega)
          have hfo : (Builtin.firstCells i.size 0 (.slice ad 0 0)).run P w.drew = .ok ([] : List Value).toArray w.drew := run_first (by simp) (fun h => by omega)
          have hrun := run_app_grow (P := P) (w := w) (ty := o.type) he.u ht2 he.inf he.z hfo hfd (sLen := 0) (sCap := 0) (by omega) (by omega) (growslice_fits (by omega) hmul)
          have hge := grownCap_ge w (0 + ys.length) 0 el
          refine fin (by rw [hu1, q1]; exact hrun) (Post.drew ?_)
          have okd : R.OK w.drew := pre.ok.draw rfl rfl rfl rfl
          have xd : Ext R w R w.drew := Ext.draw rfl rfl rfl rfl
          have xa := Ext.aside okd (.cells (([] : List Value).toArray ++ (cellsOf us2).toArray ++ Builtin.zeroCells zv.cells (grownCap w (0 + ys.length) 0 el - (0 + ys.length))) el)
          refine ⟨R, xa, okd.aside _, hp.same.symm, ⟨some ⟨w.heap.size, 0, none⟩, 0 + ys.length, _, rfl, Nat.zero_add _, hge, hE2.esc, fun _ => ⟨w.heap.size, 0, sz, rfl, ⟨fun hl => ?_, fun hb => ?_⟩, ?_, denEls_mk ys 0 fun j x hj => ?_⟩⟩, fun i h _ => h⟩
          · obtain ⟨i', _, hi'⟩ := hl
            exact absurd (pre.ok.lt i' _ hi') (Nat.lt_irrefl _)
          · exact absurd (pre.ok.bl _ hb) (Nat.lt_irrefl _)
          · show w.heap.size < (w.heap.push _).size; simp
          · have hju : j < us2.length := by rw [hE2.len]; exact (List.getElem?_eq_some_iff.1 hj).1
            have hu : us2[j]? = some us2[j] := List.getElem?_eq_getElem hju
            refine ⟨us2[j], xa.den pre.ok.b01 (xd.den pre.ok.b01 (hE2.den j x _ hj hu)), hE2.size _ (List.getElem_mem hju), fun k v hk => ?_⟩
            have hfl := flat_get us2 hE2.size j k us2[j] v hu hk
            have hheap : (w.drew.alloc (.cells (([] : List Value).toArray ++ (cellsOf us2).toArray ++ Builtin.zeroCells zv.cells (grownCap w (0 + ys.length) 0 el - (0 + ys.length))) el)).heap[w.heap.size]? = some (.cells (([] : List Value).toArray ++ (cellsOf us2).toArray ++ Builtin.zeroCells zv.cells (grownCap w (0 + ys.length) 0 el - (0 + ys.length))) el (0, 0)) := by
              show (w.heap.push _)[w.heap.size]? = _
              simp
            rw [cell_of_heap hheap]
            have hlt := (List.getElem?_eq_some_iff.1 hfl).1
            rw [Array.getElem?_append_left (by simp; omega), Array.getElem?_append_right (by simp)]
            simpa using hfl
  · cases h
end
end Go.Proofs.YtakebhleglnpjaaDoorE

