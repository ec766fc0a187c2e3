/- What a deep datum, a value of the small machine, and a block of it are in the model's world. -/
import Derived.Test.YtljgncbdagmeeaaDoorE1
import Derived.Below
namespace Go.Proofs.YtljgncbdagmeeaaDoorE
open Go
set_option linter.unusedVariables false
set_option linter.unusedSimpArgs false

mutual
def DenD (A1 A0 AL : Nat → Prop) (w : World) : D → Value → Prop
  | .bool b, u => u = .bool b
  | .int k n, u => u = .int k n
  | .str s, u => u = .string s
  | .list own xs, u => ∃ a len cap, u = .slice a len cap ∧ len = xs.length ∧ len ≤ cap ∧ (∀ x ∈ xs, x.esc = true) ∧
      (xs ≠ [] → ∃ b off sz, a = some ⟨b, off, none⟩ ∧ (match own with | true => A1 b | false => A0 b) ∧ b < w.heap.size ∧ DenEls A1 A0 AL w b sz off xs)
  | .agg cs, u => ∃ us : List Value, u = .agg us.toArray ∧ DenDs A1 A0 AL w cs us
  | .tup cs, u => ∃ us : List Value, u = .tuple us.toArray ∧ DenDs A1 A0 AL w cs us
  | .fn f caps, u => ∃ us : List Value, u = .func (.func f) #[] us.toArray ∧ DenDs A1 AL AL w caps us
  | .nilfn, u => u = .nilFunc
  | .rptr cs, u => ∃ b off, u = .pointer (some ⟨b, off, none⟩) ∧ A0 b ∧ b < w.heap.size ∧ DenCells A1 A0 AL w b off cs
  | .nilp, u => u = .pointer none
  | .iface t v, u => ∃ u', u = .iface t u' ∧ DenD A1 A0 AL w v u'
  | .nilI, u => u = .nilIface
def DenDs (A1 A0 AL : Nat → Prop) (w : World) : List D → List Value → Prop
  | [], us => us = []
  | x :: xs, us => ∃ u us', us = u :: us' ∧ DenD A1 A0 AL w x u ∧ DenDs A1 A0 AL w xs us'
def DenCells (A1 A0 AL : Nat → Prop) (w : World) (b off : Nat) : List D → Prop
  | [] => True
  | x :: xs => (∃ u, w.cell? ⟨b, off, none⟩ = some u ∧ DenD A1 A0 AL w x u) ∧ DenCells A1 A0 AL w b (off + 1) xs
def DenEls (A1 A0 AL : Nat → Prop) (w : World) (b sz off : Nat) : List D → Prop
  | [] => True
  | x :: xs => (∃ u, DenD A1 A0 AL w x u ∧ u.cells.size = sz ∧ ∀ k v, u.cells[k]? = some v → w.cell? ⟨b, off + k, none⟩ = some v) ∧ DenEls A1 A0 AL w b sz (off + sz) xs
end

section
variable {A1 A1' A0 A0' AL AL' : Nat → Prop} {w w' : World}

theorem cell_same {b : Nat} (h : w'.heap[b]? = w.heap[b]?) (off : Nat) : w'.cell? ⟨b, off, none⟩ = w.cell? ⟨b, off, none⟩ := by
  unfold World.cell?; simp only [h]

mutual
theorem DenD.change (A1 A1' A0 A0' : Nat → Prop) (h1 : ∀ b, b < w.heap.size → A1 b → A1' b) (h0 : ∀ b, b < w.heap.size → A0 b → A0' b) (hL : ∀ b, b < w.heap.size → AL b → AL' b)
    (hw : ∀ b, b < w.heap.size → AL b → w'.heap[b]? = w.heap[b]?) (hs : w.heap.size ≤ w'.heap.size) (s0 : ∀ b, A0 b → AL b) (s1 : ∀ b, A1 b → AL b) :
    ∀ (x : D) (u : Value), DenD A1 A0 AL w x u → DenD A1' A0' AL' w' x u
  | .bool b, u, h => h
  | .int k n, u, h => h
  | .str s, u, h => h
  | .list own xs, u, h => by
    obtain ⟨a, len, cap, e1, e2, e3, e4, e5⟩ := h
    refine ⟨a, len, cap, e1, e2, e3, e4, fun hne => ?_⟩
    obtain ⟨b, off, sz, f1, f2, f3, f4⟩ := e5 hne
    have hb : AL b := by
      cases own
      · exact s0 _ f2
      · exact s1 _ f2
    refine ⟨b, off, sz, f1, ?_, by omega, DenEls.change A1 A1' A0 A0' h1 h0 hL hw hs s0 s1 b sz off xs (hw b f3 hb) f4⟩
    cases own
    · exact h0 _ f3 f2
    · exact h1 _ f3 f2
  | .agg cs, u, h => by
    obtain ⟨us, e1, e2⟩ := h
    exact ⟨us, e1, DenDs.change A1 A1' A0 A0' h1 h0 hL hw hs s0 s1 cs us e2⟩
  | .tup cs, u, h => by
    obtain ⟨us, e1, e2⟩ := h
    exact ⟨us, e1, DenDs.change A1 A1' A0 A0' h1 h0 hL hw hs s0 s1 cs us e2⟩
  | .fn f caps, u, h => by
    obtain ⟨us, e1, e2⟩ := h
    exact ⟨us, e1, DenDs.change A1 A1' AL AL' h1 hL hL hw hs (fun _ h => h) s1 caps us e2⟩
  | .nilfn, u, h => h
  | .rptr cs, u, h => by
    obtain ⟨b, off, e1, e2, e3, e4⟩ := h
    exact ⟨b, off, e1, h0 _ e3 e2, by omega, DenCells.change A1 A1' A0 A0' h1 h0 hL hw hs s0 s1 b off cs (hw b e3 (s0 _ e2)) e4⟩
  | .nilp, u, h => h
  | .iface t v, u, h => by
    obtain ⟨u', e1, e2⟩ := h
    exact ⟨u', e1, DenD.change A1 A1' A0 A0' h1 h0 hL hw hs s0 s1 v u' e2⟩
  | .nilI, u, h => h
theorem DenDs.change (A1 A1' A0 A0' : Nat → Prop) (h1 : ∀ b, b < w.heap.size → A1 b → A1' b) (h0 : ∀ b, b < w.heap.size → A0 b → A0' b) (hL : ∀ b, b < w.heap.size → AL b → AL' b)
    (hw : ∀ b, b < w.heap.size → AL b → w'.heap[b]? = w.heap[b]?) (hs : w.heap.size ≤ w'.heap.size) (s0 : ∀ b, A0 b → AL b) (s1 : ∀ b, A1 b → AL b) :
    ∀ (xs : List D) (us : List Value), DenDs A1 A0 AL w xs us → DenDs A1' A0' AL' w' xs us
  | [], us, h => h
  | x :: xs, us, h => by
    obtain ⟨u, us', e1, e2, e3⟩ := h
    exact ⟨u, us', e1, DenD.change A1 A1' A0 A0' h1 h0 hL hw hs s0 s1 x u e2, DenDs.change A1 A1' A0 A0' h1 h0 hL hw hs s0 s1 xs us' e3⟩
theorem DenCells.change (A1 A1' A0 A0' : Nat → Prop) (h1 : ∀ b, b < w.heap.size → A1 b → A1' b) (h0 : ∀ b, b < w.heap.size → A0 b → A0' b) (hL : ∀ b, b < w.heap.size → AL b → AL' b)
    (hw : ∀ b, b < w.heap.size → AL b → w'.heap[b]? = w.heap[b]?) (hs : w.heap.size ≤ w'.heap.size) (s0 : ∀ b, A0 b → AL b) (s1 : ∀ b, A1 b → AL b) (b off : Nat) :
    ∀ (xs : List D), w'.heap[b]? = w.heap[b]? → DenCells A1 A0 AL w b off xs → DenCells A1' A0' AL' w' b off xs
  | [], _, h => trivial
  | x :: xs, hb, h => by
    obtain ⟨⟨u, e1, e2⟩, e3⟩ := h
    exact ⟨⟨u, by rw [cell_same hb]; exact e1, DenD.change A1 A1' A0 A0' h1 h0 hL hw hs s0 s1 x u e2⟩, DenCells.change A1 A1' A0 A0' h1 h0 hL hw hs s0 s1 b (off + 1) xs hb e3⟩
theorem DenEls.change (A1 A1' A0 A0' : Nat → Prop) (h1 : ∀ b, b < w.heap.size → A1 b → A1' b) (h0 : ∀ b, b < w.heap.size → A0 b → A0' b) (hL : ∀ b, b < w.heap.size → AL b → AL' b)
    (hw : ∀ b, b < w.heap.size → AL b → w'.heap[b]? = w.heap[b]?) (hs : w.heap.size ≤ w'.heap.size) (s0 : ∀ b, A0 b → AL b) (s1 : ∀ b, A1 b → AL b) (b sz off : Nat) :
    ∀ (xs : List D), w'.heap[b]? = w.heap[b]? → DenEls A1 A0 AL w b sz off xs → DenEls A1' A0' AL' w' b sz off xs
  | [], _, h => trivial
  | x :: xs, hb, h => by
    obtain ⟨⟨u, e1, e2, e3⟩, e4⟩ := h
    exact ⟨⟨u, DenD.change A1 A1' A0 A0' h1 h0 hL hw hs s0 s1 x u e1, e2, fun k v hk => by rw [cell_same hb]; exact e3 k v hk⟩,
      DenEls.change A1 A1' A0 A0' h1 h0 hL hw hs s0 s1 b sz (off + sz) xs hb e4⟩
end

/- What may outlive the call lies where only A1 says. -/
mutual
theorem DenD.lift (h1 : ∀ b, A1 b → A1' b) : ∀ (x : D) (u : Value), x.esc = true → DenD A1 A0 AL w x u → DenD A1' A0' AL' w x u
  | .bool b, u, _, h => h
  | .int k n, u, _, h => h
  | .str s, u, _, h => h
  | .list own xs, u, he, h => by
    obtain ⟨a, len, cap, e1, e2, e3, e4, e5⟩ := h
    simp only [D.esc] at he
    subst he
    refine ⟨a, len, cap, e1, e2, e3, e4, fun hne => ?_⟩
    obtain ⟨b, off, sz, f1, f2, f3, f4⟩ := e5 hne
    exact ⟨b, off, sz, f1, h1 _ f2, f3, DenEls.lift h1 b sz off xs e4 f4⟩
  | .agg cs, u, he, h => by
    obtain ⟨us, e1, e2⟩ := h
    exact ⟨us, e1, DenDs.lift h1 cs us he e2⟩
  | .tup cs, u, he, h => by simp [D.esc] at he
  | .fn f caps, u, he, h => by
    obtain ⟨us, e1, e2⟩ := h
    simp only [D.esc, List.isEmpty_iff] at he
    subst he
    exact ⟨us, e1, e2⟩
  | .nilfn, u, _, h => h
  | .rptr cs, u, he, h => by simp [D.esc] at he
  | .nilp, u, _, h => h
  | .iface t v, u, he, h => by
    obtain ⟨u', e1, e2⟩ := h
    exact ⟨u', e1, DenD.lift h1 v u' he e2⟩
  | .nilI, u, _, h => h
theorem DenDs.lift (h1 : ∀ b, A1 b → A1' b) : ∀ (xs : List D) (us : List Value), D.escs xs = true → DenDs A1 A0 AL w xs us → DenDs A1' A0' AL' w xs us
  | [], us, _, h => h
  | x :: xs, us, he, h => by
    obtain ⟨u, us', e1, e2, e3⟩ := h
    simp only [D.escs, Bool.and_eq_true] at he
    exact ⟨u, us', e1, DenD.lift h1 x u he.1 e2, DenDs.lift h1 xs us' he.2.2 e3⟩
theorem DenEls.lift (h1 : ∀ b, A1 b → A1' b) (b sz off : Nat) : ∀ (xs : List D), (∀ x ∈ xs, x.esc = true) → DenEls A1 A0 AL w b sz off xs → DenEls A1' A0' AL' w b sz off xs
  | [], _, h => trivial
  | x :: xs, he, h => by
    obtain ⟨⟨u, e1, e2, e3⟩, e4⟩ := h
    exact ⟨⟨u, DenD.lift h1 x u (he x (by simp)) e1, e2, e3⟩, DenEls.lift h1 b sz (off + sz) xs (fun y hy => he y (by simp [hy])) e4⟩
end
end

theorem DenDs.liftT {A1 A1' A0 A0' AL AL' : Nat → Prop} {w : World} (h1 : ∀ b, A1 b → A1' b) : ∀ (xs : List D) (us : List Value), escT xs = true → DenDs A1 A0 AL w xs us → DenDs A1' A0' AL' w xs us
  | [], us, _, h => h
  | x :: xs, us, he, h => by
    obtain ⟨u, us', e1, e2, e3⟩ := h
    simp only [escT, Bool.and_eq_true] at he
    exact ⟨u, us', e1, DenD.lift h1 x u he.1 e2, DenDs.liftT h1 xs us' he.2 e3⟩

/-! ## Lists by number -/
theorem nth_eq {α : Type} : ∀ (l : List α) (n : Nat), nth l n = l[n]?
  | [], n => by simp [nth]
  | a :: l, 0 => by simp [nth]
  | a :: l, n + 1 => by simp [nth, nth_eq l n]
theorem setAt_eq {α : Type} : ∀ (l : List α) (n : Nat) (v : α), setAt l n v = l.set n v
  | [], n, v => by simp [setAt]
  | a :: l, 0, v => by simp [setAt]
  | a :: l, n + 1, v => by simp [setAt, setAt_eq l n v]
theorem getI_eq {α : Type} (l : List α) (i : Int) (x : α) (h : getI l i = some x) : 0 ≤ i ∧ i < l.length ∧ l[i.toNat]? = some x := by
  unfold getI at h
  by_cases h0 : 0 ≤ i
  · simp only [h0, decide_true, cond_true, nth_eq] at h
    have := (List.getElem?_eq_some_iff.1 h).1
    exact ⟨h0, by omega, h⟩
  · simp [h0] at h

section
variable {A1 A0 AL : Nat → Prop} {w : World}
theorem denEls_at {b sz : Nat} : ∀ (xs : List D) (off j : Nat) (x : D), DenEls A1 A0 AL w b sz off xs → xs[j]? = some x →
    ∃ u, DenD A1 A0 AL w x u ∧ u.cells.size = sz ∧ ∀ k v, u.cells[k]? = some v → w.cell? ⟨b, off + j * sz + k, none⟩ = some v
  | [], off, j, x, _, hj => by simp at hj
  | y :: xs, off, 0, x, h, hj => by
    simp at hj; subst hj
    obtain ⟨⟨u, e1, e2, e3⟩, _⟩ := h
    exact ⟨u, e1, e2, by simpa using e3⟩
  | y :: xs, off, j + 1, x, h, hj => by
    obtain ⟨u, e1, e2, e3⟩ := denEls_at xs (off + sz) j x h.2 (by simpa using hj)
    exact ⟨u, e1, e2, fun k v hk => by rw [← e3 k v hk]; congr 2; rw [Nat.succ_mul]; omega⟩
theorem denEls_mk {b sz : Nat} : ∀ (xs : List D) (off : Nat), (∀ (j : Nat) x, xs[j]? = some x → ∃ u, DenD A1 A0 AL w x u ∧ u.cells.size = sz ∧ ∀ k v, u.cells[k]? = some v → w.cell? ⟨b, off + j * sz + k, none⟩ = some v) →
    DenEls A1 A0 AL w b sz off xs
  | [], off, _ => trivial
  | y :: xs, off, h => by
    refine ⟨by simpa using h 0 y (by simp), denEls_mk xs (off + sz) fun j x hj => ?_⟩
    obtain ⟨u, e1, e2, e3⟩ := h (j + 1) x (by simpa using hj)
    exact ⟨u, e1, e2, fun k v hk => by rw [← e3 k v hk]; congr 2; rw [Nat.succ_mul]; omega⟩
theorem denCells_at {b : Nat} : ∀ (xs : List D) (off j : Nat) (x : D), DenCells A1 A0 AL w b off xs → xs[j]? = some x → ∃ u, w.cell? ⟨b, off + j, none⟩ = some u ∧ DenD A1 A0 AL w x u
  | [], off, j, x, _, hj => by simp at hj
  | y :: xs, off, 0, x, h, hj => by simp at hj; subst hj; simpa using h.1
  | y :: xs, off, j + 1, x, h, hj => by
    have := denCells_at xs (off + 1) j x h.2 (by simpa using hj)
    rwa [show off + 1 + j = off + (j + 1) from by omega] at this
theorem denCells_mk {b : Nat} : ∀ (xs : List D) (off : Nat), (∀ (j : Nat) x, xs[j]? = some x → ∃ u, w.cell? ⟨b, off + j, none⟩ = some u ∧ DenD A1 A0 AL w x u) → DenCells A1 A0 AL w b off xs
  | [], off, _ => trivial
  | y :: xs, off, h => ⟨by simpa using h 0 y (by simp), denCells_mk xs (off + 1) fun j x hj => by
      have := h (j + 1) x (by simpa using hj)
      rwa [show off + (j + 1) = off + 1 + j from by omega] at this⟩
theorem denCells_drop {b : Nat} (xs : List D) (off n : Nat) (h : DenCells A1 A0 AL w b off xs) : DenCells A1 A0 AL w b (off + n) (xs.drop n) :=
  denCells_mk _ _ fun j x hj => by
    have := denCells_at xs off (n + j) x h (by simpa using hj)
    rwa [← Nat.add_assoc] at this
theorem denDs_at : ∀ (xs : List D) (us : List Value) (j : Nat) (x : D), DenDs A1 A0 AL w xs us → xs[j]? = some x → ∃ u, us[j]? = some u ∧ DenD A1 A0 AL w x u
  | [], us, j, x, _, hj => by simp at hj
  | y :: xs, us, 0, x, h, hj => by
    obtain ⟨u, us', rfl, e1, e2⟩ := h
    simp at hj; subst hj
    exact ⟨u, by simp, e1⟩
  | y :: xs, us, j + 1, x, h, hj => by
    obtain ⟨u, us', rfl, e1, e2⟩ := h
    simpa using denDs_at xs us' j x e2 (by simpa using hj)
theorem denDs_len : ∀ (xs : List D) (us : List Value), DenDs A1 A0 AL w xs us → us.length = xs.length
  | [], us, h => by simp only [DenDs] at h; subst h; rfl
  | y :: xs, us, h => by
    obtain ⟨u, us', rfl, e1, e2⟩ := h
    simp [denDs_len xs us' e2]
theorem denDs_mk : ∀ (xs : List D) (us : List Value), us.length = xs.length → (∀ (j : Nat) x u, xs[j]? = some x → us[j]? = some u → DenD A1 A0 AL w x u) → DenDs A1 A0 AL w xs us
  | [], us, hl, _ => by simpa [DenDs] using hl
  | y :: xs, [], hl, _ => by simp at hl
  | y :: xs, u :: us, hl, h => ⟨u, us, rfl, h 0 y u rfl rfl, denDs_mk xs us (by simpa using hl) fun j x v hx hv => h (j + 1) x v (by simpa using hx) (by simpa using hv)⟩
end

/-! ## Values and blocks -/
structure RP where
  B1 : Nat → Prop
  B0 : Nat → Prop
  M : Nat → Option (Option Nat)
  H : Heap

def RP.live (R : RP) (c : Nat) : Prop := ∃ i, isLive R.H i = true ∧ R.M i = some (some c)
def RP.AL (R : RP) (c : Nat) : Prop := ¬ R.live c
def RP.A0 (R : RP) (c : Nat) : Prop := ¬ R.live c ∧ ¬ R.B0 c
def RP.A1 (R : RP) (c : Nat) : Prop := ¬ R.live c ∧ ¬ R.B1 c

abbrev RP.den (R : RP) (w : World) (x : D) (u : Value) : Prop := DenD R.A1 R.A0 R.AL w x u

def SlAt (w : World) (m : Option Nat) (xs : List D) (sz o len : Nat) (u : Value) : Prop :=
  o + len ≤ xs.length ∧ ∃ a cap, u = .slice a len cap ∧ len ≤ cap ∧
    ((cap = 0 ∧ o = xs.length) ∨ ∃ c cs el fr, m = some c ∧ a = some ⟨c, o * sz, none⟩ ∧ w.heap[c]? = some (.cells cs el fr) ∧ cs.size = (o + cap) * sz)

mutual
def DenV (R : RP) (w : World) : V → Value → Prop
  | .d x, u => R.den w x u
  | .bad, _ => True
  | .ptr b o, u => ∃ c, R.M b = some (some c) ∧ u = .pointer (some ⟨c, o, none⟩)
  | .eptr b sz i k, u => ∃ c, R.M b = some (some c) ∧ u = .pointer (some ⟨c, i * sz + k, none⟩)
  | .sl b sz, u => (∃ a n c, u = .slice a n c) ∧ ∃ m, R.M b = some m ∧ ∀ xs, nth R.H b = some (.arr sz xs) → SlAt w m xs sz 0 xs.length u
  | .slp b sz o len, u => (∃ a n c, u = .slice a n c) ∧ ∃ m, R.M b = some m ∧ ∀ xs, nth R.H b = some (.arr sz xs) → SlAt w m xs sz o len u
  | .nilsl _, u => ∃ a, u = .slice a 0 0
  | .agg cs, u => ∃ us : List Value, u = .agg us.toArray ∧ DenVs R w cs us
  | .tup cs, u => ∃ us : List Value, u = .tuple us.toArray ∧ DenVs R w cs us
  | .fn f caps, u => ∃ us : List Value, u = .func (.func f) #[] us.toArray ∧ DenVs R w caps us
  | .mp b, u => (∃ a, u = .map a) ∧ ∃ m, R.M b = some m ∧ ∀ es, nth R.H b = some (.mp es) → ∃ c, m = some c ∧ u = .map (some c)
def DenVs (R : RP) (w : World) : List V → List Value → Prop
  | [], us => us = []
  | x :: xs, us => ∃ u us', us = u :: us' ∧ DenV R w x u ∧ DenVs R w xs us'
end

end Go.Proofs.YtljgncbdagmeeaaDoorE
