/- How the relation is kept: steps that make new blocks, or write into blocks of one's own. -/
import Derived.Test.YtljgncbdagmeeaaDoorE2
import Derived.WalkKit
namespace Go.Proofs.YtljgncbdagmeeaaDoorE
open Go
set_option linter.unusedVariables false
set_option linter.unusedSimpArgs false

def Unfz (fr : Nat × Nat) : Prop := fr.2 ≤ fr.1

theorem Unfz.not {w : World} {c : Nat} {cs : Array Value} {el : TypeId} {fr : Nat × Nat} (h : Unfz fr) (hc : w.heap[c]? = some (.cells cs el fr)) (o : Nat) : w.frozen? ⟨c, o, none⟩ = false := by
  unfold Unfz at h
  simp only [World.frozen?, hc]
  by_cases h1 : fr.1 ≤ o
  · by_cases h2 : o < fr.2
    · omega
    · simp [h2]
  · simp [h1]

/-- a value that looks at no memory -/
def flatU : D → Value
  | .bool b => .bool b
  | .int k n => .int k n
  | _ => undef
def keyU : D → Value
  | .agg cs => .agg (cs.map flatU).toArray
  | x => flatU x
def flatK : D → Bool
  | .agg cs => cs.all flat1
  | x => flat1 x
structure MpOK (w : World) (c : Nat) (es : List (D × D)) : Prop where
  mk ::
  ex : ∃ mes clock, w.heap[c]? = some (.map mes clock) ∧ mes.toList.map (fun e => (e.key, e.val)) = es.map (fun q => (keyU q.1, flatU q.2))
  fl : ∀ q ∈ es, flatK q.1 = true ∧ flat1 q.2 = true

def BlkOK (R : RP) (w : World) (m : Option Nat) : Blk → Prop
  | .dead => True
  | .cells vs => ∃ c cs el fr, m = some c ∧ w.heap[c]? = some (.cells cs el fr) ∧ Unfz fr ∧ vs.length ≤ cs.size ∧ ∀ (k : Nat) v, vs[k]? = some v → ∃ u, cs[k]? = some u ∧ DenV R w v u
  | .arr sz xs => 0 < sz ∧ (∀ x ∈ xs, x.esc = true) ∧ ((m = none ∧ xs = []) ∨ ∃ c cs el, m = some c ∧ w.heap[c]? = some (.cells cs el (0, 0)) ∧ xs.length * sz ≤ cs.size ∧
      ∀ (j : Nat) x, xs[j]? = some x → ∃ u, R.den w x u ∧ u.cells.size = sz ∧ ∀ (k : Nat) v, u.cells[k]? = some v → cs[j * sz + k]? = some v)
  | .mp es => ∃ c, m = some c ∧ MpOK w c es

structure RP.OK (R : RP) (w : World) : Prop where
  b01 : ∀ c, R.B0 c → R.B1 c
  al : ∀ (i : Nat) blk, R.H[i]? = some blk → blk ≠ .dead → ∃ m, R.M i = some m
  inj : ∀ i j c, isLive R.H i = true → isLive R.H j = true → R.M i = some (some c) → R.M j = some (some c) → i = j
  lt : ∀ i c, R.M i = some (some c) → c < w.heap.size
  blk : ∀ (i : Nat) m blk, R.H[i]? = some blk → R.M i = some m → BlkOK R w m blk
  nb : ∀ i c, isLive R.H i = true → R.M i = some (some c) → ¬ R.B1 c
  bl : ∀ c, R.B1 c → c < w.heap.size

theorem isLive_iff {H : Heap} {i : Nat} : isLive H i = true ↔ ∃ blk, H[i]? = some blk ∧ blk ≠ .dead := by
  unfold isLive
  rw [nth_eq]
  cases h : H[i]? with
  | none => simp
  | some blk => cases blk <;> simp

/-- the same kind of block, as long -/
def Blk.like : Blk → Blk → Prop
  | .cells _, .cells _ => True
  | .arr sz xs, .arr sz' ys => sz = sz' ∧ ys.length = xs.length
  | .mp _, .mp _ => True
  | _, _ => False

structure Ext (R : RP) (w : World) (R' : RP) (w' : World) : Prop where
  m : ∀ i x, R.M i = some x → R'.M i = some x
  h : ∀ (i : Nat) x blk, R.M i = some x → R'.H[i]? = some blk → blk ≠ .dead → ∃ old, R.H[i]? = some old ∧ old.like blk
  b1 : R'.B1 = R.B1
  b0 : R'.B0 = R.B0
  same : ∀ (b : Nat), b < w.heap.size → ¬ R.live b → w'.heap[b]? = w.heap[b]?
  row : ∀ (b : Nat) cs el fr, w.heap[b]? = some (Obj.cells cs el fr) → ∃ cs' el' fr', w'.heap[b]? = some (Obj.cells cs' el' fr') ∧ cs'.size = cs.size
  grow : w.heap.size ≤ w'.heap.size
  liv : ∀ c, c < w.heap.size → R'.live c → R.live c
  os : w'.os = w.os
  tape : w'.tape = w.tape
  output : w'.output = w.output

theorem Blk.like_refl {b : Blk} (h : b ≠ .dead) : b.like b := by cases b <;> simp_all [Blk.like]

theorem Ext.refl (R : RP) (w : World) : Ext R w R w :=
  ⟨fun _ _ h => h, fun i x blk _ h hd => ⟨blk, h, Blk.like_refl hd⟩, rfl, rfl, fun _ _ _ => rfl, fun _ cs el fr h => ⟨cs, el, fr, h, rfl⟩, Nat.le_refl _, fun _ _ h => h, rfl, rfl, rfl⟩

theorem Blk.like_trans {a b c : Blk} (h : a.like b) (k : b.like c) : a.like c := by
  cases a <;> cases b <;> cases c <;> simp_all [Blk.like]
theorem Blk.like_ne {a b : Blk} (h : a.like b) : a ≠ .dead := by cases a <;> cases b <;> simp_all [Blk.like]

theorem Ext.trans {R R1 R2 : RP} {w w1 w2 : World} (h : Ext R w R1 w1) (k : Ext R1 w1 R2 w2) : Ext R w R2 w2 where
  m := fun i x hx => k.m i x (h.m i x hx)
  h := fun i x blk hx hb hd => by
    obtain ⟨o1, e1, e2⟩ := k.h i x blk (h.m i x hx) hb hd
    obtain ⟨o, f1, f2⟩ := h.h i x o1 hx e1 (Blk.like_ne e2)
    exact ⟨o, f1, Blk.like_trans f2 e2⟩
  b1 := k.b1.trans h.b1
  b0 := k.b0.trans h.b0
  same := fun b hb hl => (k.same b (Nat.lt_of_lt_of_le hb h.grow) (fun hl' => hl (h.liv b hb hl'))).trans (h.same b hb hl)
  row := fun b cs el fr hb => by
    obtain ⟨cs1, el1, fr1, e1, e2⟩ := h.row b cs el fr hb
    obtain ⟨cs2, el2, fr2, f1, f2⟩ := k.row b cs1 el1 fr1 e1
    exact ⟨cs2, el2, fr2, f1, f2.trans e2⟩
  grow := Nat.le_trans h.grow k.grow
  liv := fun c hc hl => h.liv c hc (k.liv c (Nat.lt_of_lt_of_le hc h.grow) hl)
  os := k.os.trans h.os
  tape := k.tape.trans h.tape
  output := k.output.trans h.output

section
variable {R R' : RP} {w w' : World}

theorem Ext.den (e : Ext R w R' w') (hb : ∀ c, R.B0 c → R.B1 c) {x : D} {u : Value} (h : R.den w x u) : R'.den w' x u := by
  refine DenD.change _ _ _ _ ?_ ?_ ?_ ?_ e.grow ?_ ?_ x u h
  · exact fun b hb' ⟨h1, h2⟩ => ⟨fun hl => h1 (e.liv b hb' hl), by rw [e.b1]; exact h2⟩
  · exact fun b hb' ⟨h1, h2⟩ => ⟨fun hl => h1 (e.liv b hb' hl), by rw [e.b0]; exact h2⟩
  · exact fun b hb' h1 hl => h1 (e.liv b hb' hl)
  · exact fun b hb' hl => e.same b hb' hl
  · exact fun b h => h.1
  · exact fun b h => h.1

theorem Ext.slAt (e : Ext R w R' w') {m : Option Nat} {xs ys : List D} {sz o len : Nat} {u : Value} (hl : ys.length = xs.length) (h : SlAt w m xs sz o len u) : SlAt w' m ys sz o len u := by
  obtain ⟨h1, a, cap, h2, h3, h4⟩ := h
  refine ⟨by omega, a, cap, h2, h3, ?_⟩
  rcases h4 with ⟨h4, h5⟩ | ⟨c, cs, el, fr, h4, h5, h6, h7⟩
  · exact .inl ⟨h4, by omega⟩
  · obtain ⟨cs', el', fr', f1, f2⟩ := e.row c cs el fr h6
    exact .inr ⟨c, cs', el', fr', h4, h5, f1, by omega⟩

mutual
theorem Ext.denV (e : Ext R w R' w') (hb : ∀ c, R.B0 c → R.B1 c) : ∀ (v : V) (u : Value), DenV R w v u → DenV R' w' v u
  | .d x, u, h => e.den hb h
  | .bad, _, h => h
  | .ptr b o, u, h => by
    obtain ⟨c, h1, h2⟩ := h
    exact ⟨c, e.m b _ h1, h2⟩
  | .eptr b sz i k, u, h => by
    obtain ⟨c, h1, h2⟩ := h
    exact ⟨c, e.m b _ h1, h2⟩
  | .sl b sz, u, h => by
    obtain ⟨h0, m, h1, h2⟩ := h
    refine ⟨h0, m, e.m b m h1, fun xs hc => ?_⟩
    rw [nth_eq] at hc
    obtain ⟨old, f1, f2⟩ := e.h b m _ h1 hc (by simp)
    cases old <;> simp [Blk.like] at f2
    rename_i sz0 xs0
    obtain ⟨rfl, f2⟩ := f2
    have := e.slAt f2 (h2 xs0 (by rw [nth_eq]; exact f1))
    rw [f2]
    exact this
  | .slp b sz o len, u, h => by
    obtain ⟨h0, m, h1, h2⟩ := h
    refine ⟨h0, m, e.m b m h1, fun xs hc => ?_⟩
    rw [nth_eq] at hc
    obtain ⟨old, f1, f2⟩ := e.h b m _ h1 hc (by simp)
    cases old <;> simp [Blk.like] at f2
    rename_i sz0 xs0
    obtain ⟨rfl, f2⟩ := f2
    exact e.slAt f2 (h2 xs0 (by rw [nth_eq]; exact f1))
  | .nilsl sz, u, h => h
  | .agg cs, u, h => by
    obtain ⟨us, h1, h2⟩ := h
    exact ⟨us, h1, Ext.denVs e hb cs us h2⟩
  | .tup cs, u, h => by
    obtain ⟨us, h1, h2⟩ := h
    exact ⟨us, h1, Ext.denVs e hb cs us h2⟩
  | .fn f caps, u, h => by
    obtain ⟨us, h1, h2⟩ := h
    exact ⟨us, h1, Ext.denVs e hb caps us h2⟩
  | .mp b, u, h => by
    obtain ⟨h0, m, h1, h2⟩ := h
    refine ⟨h0, m, e.m b m h1, fun es hc => ?_⟩
    rw [nth_eq] at hc
    obtain ⟨old, f1, f2⟩ := e.h b m _ h1 hc (by simp)
    cases old <;> simp [Blk.like] at f2
    rename_i es0
    exact h2 es0 (by rw [nth_eq]; exact f1)
theorem Ext.denVs (e : Ext R w R' w') (hb : ∀ c, R.B0 c → R.B1 c) : ∀ (vs : List V) (us : List Value), DenVs R w vs us → DenVs R' w' vs us
  | [], us, h => h
  | v :: vs, us, h => by
    obtain ⟨u, us', h1, h2, h3⟩ := h
    exact ⟨u, us', h1, Ext.denV e hb v u h2, Ext.denVs e hb vs us' h3⟩
end

/-- A block whose cells have not turned. -/
theorem Ext.blkOK (e : Ext R w R' w') (hb : ∀ c, R.B0 c → R.B1 c) {m : Option Nat} {blk : Blk} (hs : ∀ (c : Nat), m = some c → w'.heap[c]? = w.heap[c]?) (h : BlkOK R w m blk) : BlkOK R' w' m blk := by
  cases blk with
  | dead => trivial
  | cells vs =>
    obtain ⟨c, cs, el, fr, h1, h2, h3, h4, h5⟩ := h
    refine ⟨c, cs, el, fr, h1, by rw [hs c h1]; exact h2, h3, h4, fun k v hk => ?_⟩
    obtain ⟨u, f1, f2⟩ := h5 k v hk
    exact ⟨u, f1, e.denV hb v u f2⟩
  | arr sz xs =>
    obtain ⟨h0, h1, h2⟩ := h
    refine ⟨h0, h1, ?_⟩
    rcases h2 with h2 | ⟨c, cs, el, h3, h4, h5, h6⟩
    · exact .inl h2
    · refine .inr ⟨c, cs, el, h3, by rw [hs c h3]; exact h4, h5, fun j x hj => ?_⟩
      obtain ⟨u, f1, f2, f3⟩ := h6 j x hj
      exact ⟨u, e.den hb f1, f2, f3⟩
  | mp es =>
    obtain ⟨c, h1, ⟨mes, clock, h2, h3⟩, h4⟩ := h
    exact ⟨c, h1, ⟨mes, clock, by rw [hs c h1]; exact h2, h3⟩, h4⟩
end

/-! ## Draws, and new blocks -/
theorem live_of_same {R R' : RP} (hM : R'.M = R.M) (hH : R'.H = R.H) (c : Nat) : R'.live c ↔ R.live c := by
  unfold RP.live; rw [hM, hH]

/-- A world with the same memory. -/
theorem Ext.draw {R : RP} {w w' : World} (hh : w'.heap = w.heap) (ho : w'.os = w.os) (ht : w'.tape = w.tape) (hp : w'.output = w.output) : Ext R w R w' :=
  ⟨fun _ _ h => h, fun i x blk _ h hd => ⟨blk, h, Blk.like_refl hd⟩, rfl, rfl, fun _ _ _ => by rw [hh], fun _ cs el fr h => ⟨cs, el, fr, by rw [hh]; exact h, rfl⟩, by rw [hh]; exact Nat.le_refl _, fun _ _ h => h, ho, ht, hp⟩

theorem RP.OK.draw {R : RP} {w w' : World} (h : R.OK w) (hh : w'.heap = w.heap) (ho : w'.os = w.os) (ht : w'.tape = w.tape) (hp : w'.output = w.output) : R.OK w' :=
  ⟨h.b01, h.al, h.inj, fun i c hc => by rw [hh]; exact h.lt i c hc, fun i m blk h1 h2 => (Ext.draw (R := R) hh ho ht hp).blkOK h.b01 (fun c _ => by rw [hh]) (h.blk i m blk h1 h2), h.nb, fun c hc => by rw [hh]; exact h.bl c hc⟩

/-- A new block of the model's, and a new number for it: 'H'' is H with 'blk' at number n. -/
theorem Ext.new {R : RP} {w : World} {H' : Heap} {n : Nat} {blk : Blk} {m : Option Nat} (o : Obj) (hn : R.M n = none) (hH : ∀ (i : Nat), i ≠ n → H'[i]? = R.H[i]?) (hb : H'[n]? = some blk)
    (hm : m = none ∨ m = some w.heap.size) (lt : ∀ i c, R.M i = some (some c) → c < w.heap.size) (al : ∀ (i : Nat) blk, R.H[i]? = some blk → blk ≠ .dead → ∃ m, R.M i = some m) :
    Ext R w { R with M := fun i => if i = n then some m else R.M i, H := H' } (w.alloc o) where
  m := fun i x hx => by
    have : i ≠ n := fun e => by rw [e, hn] at hx; cases hx
    simp [this, hx]
  h := fun i x blk' hx hb' hd => by
    have : i ≠ n := fun e => by rw [e, hn] at hx; cases hx
    simp only [hH i this] at hb'
    exact ⟨blk', hb', Blk.like_refl hd⟩
  b1 := rfl
  b0 := rfl
  same := fun b hb' _ => Go.RowKit.Below.heap_alloc _ _ _ hb'
  row := fun b cs el fr hb' => by
    have hlt : b < w.heap.size := by
      rcases Nat.lt_or_ge b w.heap.size with h | h
      · exact h
      · rw [Array.getElem?_eq_none h] at hb'; cases hb'
    exact ⟨cs, el, fr, by rw [Go.RowKit.Below.heap_alloc _ _ _ hlt]; exact hb', rfl⟩
  grow := by simp
  liv := fun c hc ⟨i, h1, h2⟩ => by
    by_cases e : i = n
    · subst e
      simp only [if_true] at h2
      rcases hm with h | h
      · rw [h] at h2; cases h2
      · rw [h] at h2; cases h2; omega
    · simp only [e, if_false] at h2
      refine ⟨i, ?_, h2⟩
      rw [isLive_iff] at h1 ⊢
      obtain ⟨b', f1, f2⟩ := h1
      exact ⟨b', by rw [← hH i e]; exact f1, f2⟩
  os := rfl
  tape := rfl
  output := rfl

theorem RP.OK.new {R : RP} {w : World} {H' : Heap} {n : Nat} {blk : Blk} {m : Option Nat} {o : Obj} (h : R.OK w) (hn : R.M n = none) (hH : ∀ (i : Nat), i ≠ n → H'[i]? = R.H[i]?) (hb : H'[n]? = some blk)
    (hm : m = none ∨ m = some w.heap.size)
    (hk : Ext R w { R with M := fun i => if i = n then some m else R.M i, H := H' } (w.alloc o) → BlkOK { R with M := fun i => if i = n then some m else R.M i, H := H' } (w.alloc o) m blk) :
    RP.OK { R with M := fun i => if i = n then some m else R.M i, H := H' } (w.alloc o) := by
  have e := Ext.new (R := R) (w := w) (H' := H') (n := n) (blk := blk) (m := m) o hn hH hb hm h.lt h.al
  refine ⟨h.b01, ?_, ?_, ?_, ?_, ?_, fun c hc => by have := h.bl c hc; simp; omega⟩
  · intro i blk' hi hd
    by_cases ei : i = n
    · exact ⟨m, by simp [ei]⟩
    · simp only [hH i ei] at hi
      obtain ⟨x, hx⟩ := h.al i blk' hi hd
      exact ⟨x, by simp [ei, hx]⟩
  · intro i j c hi hj h1 h2
    simp only at h1 h2
    by_cases ei : i = n <;> by_cases ej : j = n
    · rw [ei, ej]
    · rw [if_pos ei] at h1; rw [if_neg ej] at h2
      have := h.lt j c h2
      rcases hm with h' | h' <;> rw [h'] at h1 <;> cases h1
      omega
    · rw [if_neg ei] at h1; rw [if_pos ej] at h2
      have := h.lt i c h1
      rcases hm with h' | h' <;> rw [h'] at h2 <;> cases h2
      omega
    · rw [if_neg ei] at h1; rw [if_neg ej] at h2
      have l1 : isLive R.H i = true := by rw [isLive_iff] at hi ⊢; obtain ⟨b', f1, f2⟩ := hi; exact ⟨b', by rw [← hH i ei]; exact f1, f2⟩
      have l2 : isLive R.H j = true := by rw [isLive_iff] at hj ⊢; obtain ⟨b', f1, f2⟩ := hj; exact ⟨b', by rw [← hH j ej]; exact f1, f2⟩
      exact h.inj i j c l1 l2 h1 h2
  · intro i c hc
    simp only at hc
    by_cases ei : i = n
    · rw [if_pos ei] at hc
      rcases hm with h' | h' <;> rw [h'] at hc <;> cases hc
      simp
    · rw [if_neg ei] at hc
      have := h.lt i c hc
      simp; omega
  · intro i x blk' hi hx
    simp only at hi hx
    by_cases ei : i = n
    · subst ei
      rw [if_pos rfl] at hx
      cases hx
      rw [hb] at hi
      cases hi
      exact hk e
    · rw [if_neg ei] at hx
      rw [hH i ei] at hi
      refine e.blkOK h.b01 (fun c hc => ?_) (h.blk i x blk' hi hx)
      exact Go.RowKit.Below.heap_alloc _ _ _ (h.lt i c (by rw [hx, hc]))
  · intro i c hl hc hb1
    simp only at hc hb1
    by_cases ei : i = n
    · rw [if_pos ei] at hc
      rcases hm with h' | h' <;> rw [h'] at hc <;> cases hc
      exact absurd (h.bl _ hb1) (by omega)
    · rw [if_neg ei] at hc
      refine h.nb i c ?_ hc hb1
      rw [isLive_iff] at hl ⊢; obtain ⟨b', f1, f2⟩ := hl; exact ⟨b', by rw [← hH i ei]; exact f1, f2⟩

/-- Blocks die. -/
theorem Ext.kill {R : RP} {w : World} {H' : Heap} (hH : ∀ (i : Nat) blk, H'[i]? = some blk → blk ≠ .dead → R.H[i]? = some blk) : Ext R w { R with H := H' } w :=
  ⟨fun _ _ h => h, fun i x blk _ h hd => ⟨blk, hH i blk h hd, Blk.like_refl hd⟩, rfl, rfl, fun _ _ _ => rfl, fun _ cs el fr h => ⟨cs, el, fr, h, rfl⟩, Nat.le_refl _,
    fun c _ ⟨i, h1, h2⟩ => by
      rw [isLive_iff] at h1
      obtain ⟨blk, f1, f2⟩ := h1
      exact ⟨i, isLive_iff.2 ⟨blk, hH i blk f1 f2, f2⟩, h2⟩, rfl, rfl, rfl⟩

theorem RP.OK.kill {R : RP} {w : World} {H' : Heap} (h : R.OK w) (hH : ∀ (i : Nat) blk, H'[i]? = some blk → blk ≠ .dead → R.H[i]? = some blk) : RP.OK { R with H := H' } w := by
  have e := Ext.kill (R := R) (w := w) hH
  have lv : ∀ i, isLive H' i = true → isLive R.H i = true := fun i hi => by
    rw [isLive_iff] at hi ⊢
    obtain ⟨blk, f1, f2⟩ := hi
    exact ⟨blk, hH i blk f1 f2, f2⟩
  refine ⟨h.b01, fun i blk hi hd => h.al i blk (hH i blk hi hd) hd, fun i j c hi hj => h.inj i j c (lv i hi) (lv j hj), h.lt, fun i m blk hi hm => ?_, fun i c hl => h.nb i c (lv i hl), h.bl⟩
  by_cases hd : blk = .dead
  · subst hd; trivial
  · exact e.blkOK h.b01 (fun _ _ => rfl) (h.blk i m blk (hH i blk hi hd) hm)

end Go.Proofs.YtljgncbdagmeeaaDoorE
