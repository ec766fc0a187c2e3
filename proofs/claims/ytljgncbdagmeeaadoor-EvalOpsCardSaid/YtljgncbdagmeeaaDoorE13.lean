/- Steps that make and change blocks: how the relation is kept. -/
import Derived.Test.YtljgncbdagmeeaaDoorE12
import Derived.ArgAppend
namespace Go.Proofs.YtljgncbdagmeeaaDoorE
open Go
set_option linter.unusedVariables false
set_option linter.unusedSimpArgs false

/-! blocks die -/
def kills (ks : List Nat) : List (Nat × Blk) := ks.map (fun j => (j, .dead))

theorem kill_le : ∀ (ks : List Nat) (H : Heap) (i : Nat) (blk : Blk), (updH H (kills ks))[i]? = some blk → blk ≠ .dead → H[i]? = some blk
  | [], H, i, blk, h, _ => h
  | k :: ks, H, i, blk, h, hd => by
    have h1 := kill_le ks (setAt H k .dead) i blk h hd
    rw [setAt_eq, List.getElem?_set] at h1
    split at h1
    · split at h1
      · cases h1; exact absurd rfl hd
      · cases h1
    · exact h1

theorem kill_dead : ∀ (ks : List Nat) (H : Heap) (k : Nat), k ∈ ks → isLive (updH H (kills ks)) k = false
  | [], H, k, h => by cases h
  | j :: ks, H, k, h => by
    by_cases hk : k ∈ ks
    · exact kill_dead ks (setAt H j .dead) k hk
    · have hj : k = j := by simpa [hk] using h
      subst hj
      cases hl : isLive (updH H (kills (k :: ks))) k with
      | false => rfl
      | true =>
        obtain ⟨blk, h1, h2⟩ := isLive_iff.1 hl
        have h3 := kill_le ks (setAt H k .dead) k blk h1 h2
        rw [setAt_eq, List.getElem?_set, if_pos rfl] at h3
        split at h3
        · cases h3; exact absurd rfl h2
        · cases h3

section
variable {P : Program} {R : RP} {w w' : World} {nid n : Nat} {H' : Heap} {v : V} {u : Value}

theorem Less.kill (R : RP) (ks : List Nat) : Less R { R with H := updH R.H (kills ks) } ks :=
  ⟨rfl, rfl, fun i hi => by
    obtain ⟨blk, h1, h2⟩ := isLive_iff.1 hi
    exact isLive_iff.2 ⟨blk, kill_le ks _ i blk h1 h2, h2⟩, fun k hk => kill_dead ks _ k hk⟩

theorem Post.afterKill (ok : R.OK w) {ks : List Nat} (h : Post { R with H := updH R.H (kills ks) } w nid n H' v u w') : Post R w nid n H' v u w' := by
  obtain ⟨R', h1, h2, h3, h4, h5⟩ := h
  exact ⟨R', (Ext.kill (R := R) (w := w) (H' := updH R.H (kills ks)) (fun i blk => kill_le ks _ i blk)).trans h1, h2, h3, h4, h5⟩

theorem Post.drew (h : Post R w.drew nid n H' v u w') : Post R w nid n H' v u w' := by
  obtain ⟨R', h1, h2, h3, h4, h5⟩ := h
  exact ⟨R', (Ext.draw (R := R) (w := w) (w' := w.drew) rfl rfl rfl rfl).trans h1, h2, h3, h4, h5⟩

/-- A new block of the model's that nobody counts. -/
theorem Ext.junk (R : RP) (w : World) (o : Obj) : Ext R w R (w.alloc o) where
  m := fun _ _ h => h
  h := fun i x blk _ h hd => ⟨blk, h, Blk.like_refl hd⟩
  b1 := rfl
  b0 := rfl
  same := fun b hb' _ => Go.RowKit.Below.heap_alloc _ _ _ hb'
  row := fun b cs el fr hb' => by
    have hlt : b < w.heap.size := (Array.getElem?_eq_some_iff.1 hb').1
    exact ⟨cs, el, fr, by rw [Go.RowKit.Below.heap_alloc _ _ _ hlt]; exact hb', rfl⟩
  grow := by simp
  liv := fun c hc h => h
  os := rfl
  tape := rfl
  output := rfl

theorem RP.OK.junk (h : R.OK w) (o : Obj) : R.OK (w.alloc o) :=
  ⟨h.b01, h.al, h.inj, fun i c hc => by have := h.lt i c hc; simp; omega,
    fun i m blk h1 h2 => (Ext.junk R w o).blkOK h.b01 (fun c hc => Go.RowKit.Below.heap_alloc _ _ _ (h.lt i c (by rw [h2, hc]))) (h.blk i m blk h1 h2),
    h.nb, fun c hc => by have := h.bl c hc; simp; omega⟩

theorem Post.junk (o : Obj) (ok : R.OK w) (hp : Placed R.H [] nid [] H') (hv : DenV R (w.alloc o) v u) : Post R w nid 0 H' v u (w.alloc o) :=
  ⟨R, Ext.junk R w o, ok.junk o, hp.same.symm, hv, fun i h _ => h⟩

/-- A block is written into, in its place; others may die. -/
theorem Post.write (ok : R.OK w) {b c : Nat} {old blk : Blk} {cs cs' : Array Value} {el : TypeId} {fr : Nat × Nat} {ks : List Nat} (hb : R.H[b]? = some old) (hm : R.M b = some (some c)) (hl : old.like blk)
    (hw : w.heap[c]? = some (.cells cs el fr)) (hw' : w'.heap[c]? = some (.cells cs' el fr)) (hs : cs'.size = cs.size) (ho : ∀ c', c' ≠ c → w'.heap[c']? = w.heap[c']?) (hsz : w'.heap.size = w.heap.size)
    (h1 : w'.os = w.os) (h2 : w'.tape = w.tape) (h3 : w'.output = w.output) (hbk : b ∉ ks) (hp : Placed R.H ((b, blk) :: kills ks) nid [] H')
    (hk : ∀ R' : RP, Ext R w R' w' → Less R R' ks → R'.live c → R'.B0 = R.B0 → BlkOK R' w' (some c) blk)
    (hv : ∀ R' : RP, Ext R w R' w' → R'.M = R.M → (∀ blk', R'.H[b]? = some blk' → blk' ≠ .dead → blk' = blk) → DenV R' w' v u) : Post R w nid 0 H' v u w' := by
  have hd : old ≠ .dead := Blk.like_ne hl
  have hH : H' = updH (setAt R.H b blk) (kills ks) := by
    apply List.ext_getElem?
    intro i
    have := hp i
    rwa [if_neg (by simp only [List.length_nil]; omega)] at this
  have hHb : ∀ i blk', H'[i]? = some blk' → blk' ≠ .dead → (i = b ∧ blk' = blk) ∨ (i ≠ b ∧ R.H[i]? = some blk') := by
    intro i blk' hi hd'
    rw [hH] at hi
    have := kill_le ks _ i blk' hi hd'
    rw [setAt_eq, List.getElem?_set] at this
    split at this
    · rename_i e
      split at this
      · cases this; exact .inl ⟨e.symm, rfl⟩
      · cases this
    · exact .inr ⟨fun e => by rename_i hne; exact hne e.symm, this⟩
  have hlive : ∀ i, isLive H' i = true → isLive R.H i = true := fun i hi => by
    obtain ⟨blk', g1, g2⟩ := isLive_iff.1 hi
    rcases hHb i blk' g1 g2 with ⟨rfl, rfl⟩ | ⟨_, g3⟩
    · exact isLive_iff.2 ⟨old, hb, hd⟩
    · exact isLive_iff.2 ⟨blk', g3, g2⟩
  have lb : isLive R.H b = true := isLive_iff.2 ⟨old, hb, hd⟩
  have e : Ext R w { R with H := H' } w' := by
    refine ⟨fun _ _ h => h, ?_, rfl, rfl, ?_, ?_, by omega, ?_, h1, h2, h3⟩
    · intro i x blk' _ hi hd'
      rcases hHb i blk' hi hd' with ⟨rfl, rfl⟩ | ⟨_, g3⟩
      · exact ⟨old, hb, hl⟩
      · exact ⟨blk', g3, Blk.like_refl hd'⟩
    · intro c' _ hnl
      exact ho c' fun e => hnl ⟨b, lb, by rw [e]; exact hm⟩
    · intro c' cs0 el0 fr0 hc'
      by_cases e : c' = c
      · subst e
        rw [hw] at hc'; cases hc'
        exact ⟨cs', el, fr, hw', hs⟩
      · exact ⟨cs0, el0, fr0, by rw [ho c' e]; exact hc', rfl⟩
    · rintro c' _ ⟨i, g1, g2⟩
      exact ⟨i, hlive i g1, g2⟩
  have hL : Less R { R with H := H' } ks := ⟨rfl, rfl, hlive, fun k hk => by rw [hH]; exact kill_dead ks _ k hk⟩
  refine ⟨{ R with H := H' }, e, ?_, rfl, hv _ e rfl ?_, fun i h _ => h⟩
  · refine ⟨ok.b01, ?_, ?_, ?_, ?_, fun i c hl => ok.nb i c (hlive i hl), fun c hc => by rw [hsz]; exact ok.bl c hc⟩
    · intro i blk' hi hd'
      rcases hHb i blk' hi hd' with ⟨rfl, rfl⟩ | ⟨_, g3⟩
      · exact ⟨_, hm⟩
      · exact ok.al i blk' g3 hd'
    · intro i j c' hi hj
      exact ok.inj i j c' (hlive i hi) (hlive j hj)
    · intro i c' hc
      rw [hsz]; exact ok.lt i c' hc
    · intro i m blk' hi hmi
      by_cases hd' : blk' = .dead
      · subst hd'; trivial
      · rcases hHb i blk' hi hd' with ⟨rfl, rfl⟩ | ⟨hne, g3⟩
        · have hmi' : R.M i = some m := hmi
          rw [hm] at hmi'; cases hmi'
          refine hk _ e hL ⟨i, isLive_iff.2 ⟨blk', ?_, hd'⟩, hmi⟩ rfl
          show H'[i]? = some blk'
          exact hi
        · refine e.blkOK ok.b01 (fun c' hc' => ho c' fun e' => hne ?_) (ok.blk i m blk' g3 hmi)
          exact ok.inj i b c (isLive_iff.2 ⟨blk', g3, hd'⟩) lb (by rw [← e', ← hc']; exact hmi) hm
  · intro blk' hi hd'
    rcases hHb b blk' hi hd' with ⟨_, h⟩ | ⟨h, _⟩
    · exact h
    · exact absurd rfl h

/-- A map is written into, in its place. -/
theorem Post.writeM (ok : R.OK w) {b c : Nat} {old blk : Blk} {mes : Array MapEntry} {clock : Nat} {ks : List Nat} (hb : R.H[b]? = some old) (hm : R.M b = some (some c)) (hl : old.like blk)
    (hw : w.heap[c]? = some (.map mes clock)) (ho : ∀ c', c' ≠ c → w'.heap[c']? = w.heap[c']?) (hsz : w'.heap.size = w.heap.size)
    (h1 : w'.os = w.os) (h2 : w'.tape = w.tape) (h3 : w'.output = w.output) (hbk : b ∉ ks) (hp : Placed R.H ((b, blk) :: kills ks) nid [] H')
    (hk : ∀ R' : RP, Ext R w R' w' → Less R R' ks → R'.live c → R'.B0 = R.B0 → BlkOK R' w' (some c) blk)
    (hv : ∀ R' : RP, Ext R w R' w' → R'.M = R.M → (∀ blk', R'.H[b]? = some blk' → blk' ≠ .dead → blk' = blk) → DenV R' w' v u) : Post R w nid 0 H' v u w' := by
  have hd : old ≠ .dead := Blk.like_ne hl
  have hH : H' = updH (setAt R.H b blk) (kills ks) := by
    apply List.ext_getElem?
    intro i
    have := hp i
    rwa [if_neg (by simp only [List.length_nil]; omega)] at this
  have hHb : ∀ i blk', H'[i]? = some blk' → blk' ≠ .dead → (i = b ∧ blk' = blk) ∨ (i ≠ b ∧ R.H[i]? = some blk') := by
    intro i blk' hi hd'
    rw [hH] at hi
    have := kill_le ks _ i blk' hi hd'
    rw [setAt_eq, List.getElem?_set] at this
    split at this
    · rename_i e
      split at this
      · cases this; exact .inl ⟨e.symm, rfl⟩
      · cases this
    · exact .inr ⟨fun e => by rename_i hne; exact hne e.symm, this⟩
  have hlive : ∀ i, isLive H' i = true → isLive R.H i = true := fun i hi => by
    obtain ⟨blk', g1, g2⟩ := isLive_iff.1 hi
    rcases hHb i blk' g1 g2 with ⟨rfl, rfl⟩ | ⟨_, g3⟩
    · exact isLive_iff.2 ⟨old, hb, hd⟩
    · exact isLive_iff.2 ⟨blk', g3, g2⟩
  have lb : isLive R.H b = true := isLive_iff.2 ⟨old, hb, hd⟩
  have e : Ext R w { R with H := H' } w' := by
    refine ⟨fun _ _ h => h, ?_, rfl, rfl, ?_, ?_, by omega, ?_, h1, h2, h3⟩
    · intro i x blk' _ hi hd'
      rcases hHb i blk' hi hd' with ⟨rfl, rfl⟩ | ⟨_, g3⟩
      · exact ⟨old, hb, hl⟩
      · exact ⟨blk', g3, Blk.like_refl hd'⟩
    · intro c' _ hnl
      exact ho c' fun e => hnl ⟨b, lb, by rw [e]; exact hm⟩
    · intro c' cs0 el0 fr0 hc'
      by_cases e : c' = c
      · subst e
        rw [hw] at hc'; cases hc'
      · exact ⟨cs0, el0, fr0, by rw [ho c' e]; exact hc', rfl⟩
    · rintro c' _ ⟨i, g1, g2⟩
      exact ⟨i, hlive i g1, g2⟩
  have hL : Less R { R with H := H' } ks := ⟨rfl, rfl, hlive, fun k hk => by rw [hH]; exact kill_dead ks _ k hk⟩
  refine ⟨{ R with H := H' }, e, ?_, rfl, hv _ e rfl ?_, fun i h _ => h⟩
  · refine ⟨ok.b01, ?_, ?_, ?_, ?_, fun i c hl => ok.nb i c (hlive i hl), fun c hc => by rw [hsz]; exact ok.bl c hc⟩
    · intro i blk' hi hd'
      rcases hHb i blk' hi hd' with ⟨rfl, rfl⟩ | ⟨_, g3⟩
      · exact ⟨_, hm⟩
      · exact ok.al i blk' g3 hd'
    · intro i j c' hi hj
      exact ok.inj i j c' (hlive i hi) (hlive j hj)
    · intro i c' hc
      rw [hsz]; exact ok.lt i c' hc
    · intro i m blk' hi hmi
      by_cases hd' : blk' = .dead
      · subst hd'; trivial
      · rcases hHb i blk' hi hd' with ⟨rfl, rfl⟩ | ⟨hne, g3⟩
        · have hmi' : R.M i = some m := hmi
          rw [hm] at hmi'; cases hmi'
          refine hk _ e hL ⟨i, isLive_iff.2 ⟨blk', ?_, hd'⟩, hmi⟩ rfl
          show H'[i]? = some blk'
          exact hi
        · refine e.blkOK ok.b01 (fun c' hc' => ho c' fun e' => hne ?_) (ok.blk i m blk' g3 hmi)
          exact ok.inj i b c (isLive_iff.2 ⟨blk', g3, hd'⟩) lb (by rw [← e', ← hc']; exact hmi) hm
  · intro blk' hi hd'
    rcases hHb b blk' hi hd' with ⟨_, h⟩ | ⟨h, _⟩
    · exact h
    · exact absurd rfl h

/-- A block is written into and goes on under a new number. -/
theorem Post.reuse (ok : R.OK w) {b c : Nat} {old blk : Blk} {cs cs' : Array Value} {el : TypeId} {fr : Nat × Nat} (hb : R.H[b]? = some old) (hd : old ≠ .dead) (hm : R.M b = some (some c)) (hn : R.M nid = none)
    (hw : w.heap[c]? = some (.cells cs el fr)) (hw' : w'.heap[c]? = some (.cells cs' el fr)) (hs : cs'.size = cs.size) (ho : ∀ c', c' ≠ c → w'.heap[c']? = w.heap[c']?) (hsz : w'.heap.size = w.heap.size)
    (h1 : w'.os = w.os) (h2 : w'.tape = w.tape) (h3 : w'.output = w.output) (hp : Placed R.H [(b, .dead)] nid [blk] H')
    (hk : ∀ R' : RP, Ext R w R' w' → R'.M nid = some (some c) → R'.H[nid]? = some blk → BlkOK R' w' (some c) blk ∧ DenV R' w' v u) : Post R w nid 1 H' v u w' := by
  have hbn : b ≠ nid := fun e => by rw [e, hn] at hm; cases hm
  have hHn : H'[nid]? = some blk := by
    have := hp nid
    rw [this, if_pos (by simp)]; simp
  have hHb : ∀ i blk', H'[i]? = some blk' → blk' ≠ .dead → (i = nid ∧ blk' = blk) ∨ (i ≠ nid ∧ i ≠ b ∧ R.H[i]? = some blk') := by
    intro i blk' hi hd'
    by_cases hin : i = nid
    · subst hin
      rw [hHn] at hi; cases hi
      exact .inl ⟨rfl, rfl⟩
    · have := hp i
      rw [if_neg (by simp only [List.length_singleton]; omega), hi] at this
      simp only [updH, setAt_eq, List.getElem?_set] at this
      split at this
      · split at this
        · cases this; exact absurd rfl hd'
        · cases this
      · rename_i hne
        exact .inr ⟨hin, fun e => hne e.symm, this.symm⟩
  have lb : isLive R.H b = true := isLive_iff.2 ⟨old, hb, hd⟩
  have e : Ext R w { R with M := fun i => if i = nid then some (some c) else R.M i, H := H' } w' := by
    refine ⟨?_, ?_, rfl, rfl, ?_, ?_, by omega, ?_, h1, h2, h3⟩
    · intro i x hx
      have : i ≠ nid := fun e => by rw [e, hn] at hx; cases hx
      simp [this, hx]
    · intro i x blk' hx hi hd'
      have : i ≠ nid := fun e => by rw [e, hn] at hx; cases hx
      rcases hHb i blk' hi hd' with ⟨h, _⟩ | ⟨_, _, g3⟩
      · exact absurd h this
      · exact ⟨blk', g3, Blk.like_refl hd'⟩
    · intro c' _ hnl
      exact ho c' fun e => hnl ⟨b, lb, by rw [e]; exact hm⟩
    · intro c' cs0 el0 fr0 hc'
      by_cases e : c' = c
      · subst e
        rw [hw] at hc'; cases hc'
        exact ⟨cs', el, fr, hw', hs⟩
      · exact ⟨cs0, el0, fr0, by rw [ho c' e]; exact hc', rfl⟩
    · rintro c' _ ⟨i, g1, g2⟩
      simp only at g1 g2
      by_cases hin : i = nid
      · rw [if_pos hin] at g2
        cases g2
        exact ⟨b, lb, hm⟩
      · rw [if_neg hin] at g2
        obtain ⟨blk', q1, q2⟩ := isLive_iff.1 g1
        rcases hHb i blk' q1 q2 with ⟨h, _⟩ | ⟨_, _, g3⟩
        · exact absurd h hin
        · exact ⟨i, isLive_iff.2 ⟨blk', g3, q2⟩, g2⟩
  obtain ⟨k1, k2⟩ := hk _ e (by simp) hHn
  refine ⟨_, e, ?_, rfl, k2, fun i h hni => by
    have : i ≠ nid := fun h => hni (by subst h; simp)
    simp [this, h]⟩
  refine ⟨ok.b01, ?_, ?_, ?_, ?_, ?_, fun c hc => by rw [hsz]; exact ok.bl c hc⟩
  · intro i blk' hi hd'
    by_cases hin : i = nid
    · exact ⟨some c, by simp [hin]⟩
    · rcases hHb i blk' hi hd' with ⟨h, _⟩ | ⟨_, _, g3⟩
      · exact absurd h hin
      · obtain ⟨x, hx⟩ := ok.al i blk' g3 hd'
        exact ⟨x, by simp [hin, hx]⟩
  · intro i j c' hi hj g1 g2
    simp only at g1 g2
    have aux : ∀ j, isLive H' j = true → j ≠ nid → R.M j = some (some c) → False := by
      intro j hj hjn hmj
      obtain ⟨blk', q1, q2⟩ := isLive_iff.1 hj
      rcases hHb j blk' q1 q2 with ⟨h, _⟩ | ⟨_, hjb, g3⟩
      · exact hjn h
      · exact hjb (ok.inj j b c (isLive_iff.2 ⟨blk', g3, q2⟩) lb hmj hm)
    by_cases hin : i = nid <;> by_cases hjn : j = nid
    · rw [hin, hjn]
    · rw [if_pos hin] at g1; rw [if_neg hjn] at g2; cases g1
      exact (aux j hj hjn g2).elim
    · rw [if_neg hin] at g1; rw [if_pos hjn] at g2; cases g2
      exact (aux i hi hin g1).elim
    · rw [if_neg hin] at g1; rw [if_neg hjn] at g2
      have lv : ∀ i, isLive H' i = true → i ≠ nid → isLive R.H i = true := fun i hi hin => by
        obtain ⟨blk', q1, q2⟩ := isLive_iff.1 hi
        rcases hHb i blk' q1 q2 with ⟨h, _⟩ | ⟨_, _, g3⟩
        · exact absurd h hin
        · exact isLive_iff.2 ⟨blk', g3, q2⟩
      exact ok.inj i j c' (lv i hi hin) (lv j hj hjn) g1 g2
  · intro i c' hc
    simp only at hc
    rw [hsz]
    by_cases hin : i = nid
    · rw [if_pos hin] at hc; cases hc; exact ok.lt b c hm
    · rw [if_neg hin] at hc; exact ok.lt i c' hc
  · intro i m blk' hi hmi
    simp only at hi hmi
    by_cases hd' : blk' = .dead
    · subst hd'; trivial
    · rcases hHb i blk' hi hd' with ⟨rfl, rfl⟩ | ⟨hin, hne, g3⟩
      · rw [if_pos rfl] at hmi; cases hmi
        exact k1
      · rw [if_neg hin] at hmi
        refine e.blkOK ok.b01 (fun c' hc' => ho c' fun e' => hne ?_) (ok.blk i m blk' g3 hmi)
        exact ok.inj i b c (isLive_iff.2 ⟨blk', g3, hd'⟩) lb (by rw [← e', ← hc']; exact hmi) hm
  · intro i c' hl hc
    simp only at hc
    by_cases hin : i = nid
    · rw [if_pos hin] at hc; cases hc; exact ok.nb b c lb hm
    · rw [if_neg hin] at hc
      obtain ⟨blk', q1, q2⟩ := isLive_iff.1 hl
      rcases hHb i blk' q1 q2 with ⟨h, _⟩ | ⟨_, _, g3⟩
      · exact absurd h hin
      · exact ok.nb i c' (isLive_iff.2 ⟨blk', g3, q2⟩) hc
end

/-! cells, written -/
theorem heap_setCells (b : Nat) : ∀ (vs : List Value) (o : Nat) (w : World) (cs : Array Value) (el : TypeId) (fr : Nat × Nat), w.heap[b]? = some (.cells cs el fr) →
    (∃ cs' : Array Value, cs'.toList = setRange cs.toList o vs ∧ (w.setCells b o vs).heap[b]? = some (.cells cs' el fr)) ∧ (∀ c, c ≠ b → (w.setCells b o vs).heap[c]? = w.heap[c]?) ∧ (w.setCells b o vs).heap.size = w.heap.size ∧
      (w.setCells b o vs).os = w.os ∧ (w.setCells b o vs).tape = w.tape ∧ (w.setCells b o vs).output = w.output
  | [], o, w, cs, el, fr, h => ⟨⟨cs, rfl, h⟩, fun _ _ => rfl, rfl, rfl, rfl, rfl⟩
  | v :: vs, o, w, cs, el, fr, h => by
    have hlt : b < w.heap.size := (Array.getElem?_eq_some_iff.1 h).1
    have hv : w.heap[b] = .cells cs el fr := (Array.getElem?_eq_some_iff.1 h).2
    have h1 : (w.setCell ⟨b, o, none⟩ v).heap[b]? = some (.cells (cs.setIfInBounds o v) el fr) := by
      unfold World.setCell
      rw [Array.getElem?_eq_getElem (by simpa using hlt), Array.getElem_modify]
      simp [hv]
    obtain ⟨⟨cs', e1, e2⟩, e3, e4, e5, e6, e7⟩ := heap_setCells b vs (o + 1) (w.setCell ⟨b, o, none⟩ v) _ el fr h1
    refine ⟨⟨cs', ?_, e2⟩, fun c hc => ?_, by rw [World.setCells, e4]; simp, e5, e6, e7⟩
    · rw [e1, setRange, setAt_eq]; simp
    · rw [World.setCells, e3 c hc]
      exact heap_setCell_other w _ c v hc

/-! cells, one behind another -/
def cellsOf (us : List Value) : List Value := us.flatMap fun u => u.cells.toList

theorem cellsOf_cons (u : Value) (us : List Value) : cellsOf (u :: us) = u.cells.toList ++ cellsOf us := by simp [cellsOf]
theorem cellsOf_append (us vs : List Value) : cellsOf (us ++ vs) = cellsOf us ++ cellsOf vs := by simp [cellsOf]

theorem flat_len {sz : Nat} : ∀ (us : List Value), (∀ u ∈ us, u.cells.size = sz) → (cellsOf us).length = us.length * sz
  | [], _ => by simp [cellsOf]
  | u :: us, h => by
    rw [cellsOf_cons, List.length_append, flat_len us (fun v hv => h v (by simp [hv])), Array.length_toList, h u (by simp), List.length_cons, Nat.succ_mul]; omega

theorem flat_get {sz : Nat} : ∀ (us : List Value), (∀ u ∈ us, u.cells.size = sz) → ∀ (i k : Nat) (u : Value) (v : Value), us[i]? = some u → u.cells[k]? = some v → (cellsOf us)[i * sz + k]? = some v
  | [], _, i, k, u, v, h, _ => by simp at h
  | u0 :: us, h, 0, k, u, v, h1, h2 => by
    simp at h1; subst h1
    have hk : k < u0.cells.size := (Array.getElem?_eq_some_iff.1 h2).1
    rw [cellsOf_cons, Nat.zero_mul, Nat.zero_add, List.getElem?_append_left (by simpa using hk)]
    simpa using h2
  | u0 :: us, h, i + 1, k, u, v, h1, h2 => by
    have h0 := h u0 (by simp)
    rw [cellsOf_cons, List.getElem?_append_right (by rw [Array.length_toList, h0, Nat.succ_mul]; omega), Array.length_toList, h0]
    have : (i + 1) * sz + k - sz = i * sz + k := by rw [Nat.succ_mul]; omega
    rw [this]
    exact flat_get us (fun v hv => h v (by simp [hv])) i k u v (by simpa using h1) h2

theorem flat_inv {sz : Nat} : ∀ (us : List Value), (∀ u ∈ us, u.cells.size = sz) → ∀ (j : Nat) (v : Value), (cellsOf us)[j]? = some v → ∃ i k u, us[i]? = some u ∧ u.cells[k]? = some v ∧ j = i * sz + k
  | [], _, j, v, h => by simp [cellsOf] at h
  | u0 :: us, h, j, v, hj => by
    have h0 := h u0 (by simp)
    rw [cellsOf_cons] at hj
    by_cases hlt : j < sz
    · rw [List.getElem?_append_left (by rw [Array.length_toList, h0]; exact hlt)] at hj
      exact ⟨0, j, u0, rfl, by simpa using hj, by omega⟩
    · rw [List.getElem?_append_right (by rw [Array.length_toList, h0]; omega), Array.length_toList, h0] at hj
      obtain ⟨i, k, u, e1, e2, e3⟩ := flat_inv us (fun v hv => h v (by simp [hv])) (j - sz) v hj
      exact ⟨i + 1, k, u, by simpa using e1, e2, by rw [Nat.succ_mul]; omega⟩

theorem list_choose {α β : Type} : ∀ (ys : List α) (Q : Nat → α → β → Prop), (∀ (j : Nat) x, ys[j]? = some x → ∃ u, Q j x u) → ∃ us : List β, us.length = ys.length ∧ ∀ (j : Nat) x u, ys[j]? = some x → us[j]? = some u → Q j x u
  | [], Q, _ => ⟨[], rfl, by simp⟩
  | y :: ys, Q, h => by
    obtain ⟨u, hu⟩ := h 0 y rfl
    obtain ⟨us, h1, h2⟩ := list_choose ys (fun j => Q (j + 1)) (fun j x hj => h (j + 1) x (by simpa using hj))
    refine ⟨u :: us, by simp [h1], fun j x v hx hv => ?_⟩
    cases j with
    | zero => simp at hx hv; subst hx; subst hv; exact hu
    | succ j => exact h2 j x v (by simpa using hx) (by simpa using hv)

end Go.Proofs.YtljgncbdagmeeaaDoorE
