/- Calls on memory. -/
import Derived.Test.YtljgncbdagmeeaaDoorE19
namespace Go.Proofs.YtljgncbdagmeeaaDoorE
open Go
set_option linter.unusedVariables false
set_option linter.unusedSimpArgs false

def handM (R : RP) (L : List Nat) : Nat → Option (Option Nat) := fun j => match L[j]? with | some b => R.M b | none => none
def handLv (R : RP) (L : List Nat) (H0 : Heap) (c : Nat) : Prop := ∃ j, isLive H0 j = true ∧ handM R L j = some (some c)
/-- what the callee is handed -/
def RP.hand (R : RP) (L : List Nat) (H0 : Heap) : RP := { B1 := fun c => (R.live c ∧ ¬ handLv R L H0 c) ∨ R.B1 c, B0 := fun c => (R.live c ∧ ¬ handLv R L H0 c) ∨ R.B0 c, M := handM R L, H := H0 }

theorem updH_zip : ∀ (L : List Nat) (bs : List Blk) (H : Heap), (∀ (i j b : Nat), L[i]? = some b → L[j]? = some b → i = j) → (∀ (j b : Nat) blk, L[j]? = some b → bs[j]? = some blk → b < H.length → (updH H (L.zip bs))[b]? = some blk) ∧ (∀ b, b ∉ L → (updH H (L.zip bs))[b]? = H[b]?)
  | [], bs, H, _ => ⟨fun j b blk h => by simp at h, fun b _ => by simp [updH]⟩
  | a :: L, [], H, _ => ⟨fun j b blk _ h => by simp at h, fun b _ => by simp [updH]⟩
  | a :: L, x :: bs, H, hn => by
    have hn' : ∀ (i j b : Nat), L[i]? = some b → L[j]? = some b → i = j := fun i j b h1 h2 => by
      have := hn (i + 1) (j + 1) b (by simpa using h1) (by simpa using h2)
      omega
    have haL : a ∉ L := fun h => by
      obtain ⟨j, hj⟩ := List.mem_iff_getElem?.1 h
      have := hn 0 (j + 1) a (by simp) (by simpa using hj)
      omega
    obtain ⟨h1, h2⟩ := updH_zip L bs (setAt H a x) hn'
    refine ⟨fun j b blk hj hb hlt => ?_, fun b hb => ?_⟩
    · cases j with
      | zero =>
        simp at hj hb
        subst hj; subst hb
        show (updH (setAt H a x) (L.zip bs))[a]? = some x
        rw [h2 a haL, setAt_eq, List.getElem?_set, if_pos rfl, if_pos hlt]
      | succ j =>
        exact h1 j b blk (by simpa using hj) (by simpa using hb) (by rw [setAt_eq, List.length_set]; exact hlt)
    · show (updH (setAt H a x) (L.zip bs))[b]? = H[b]?
      rw [h2 b (fun h => hb (List.mem_cons_of_mem _ h)), setAt_eq, List.getElem?_set, if_neg (fun h => hb (by rw [h]; exact List.mem_cons_self))]

section
variable {P : Program} {G : Globs} {R R0' : RP} {w w' : World} {Hm H0 : Heap} {L : List Nat} {args args' : List V}

theorem least_at (hL : Least 0 args Hm L args' H0) {j : Nat} {blk : Blk} (h : H0[j]? = some blk) (hd : blk ≠ .dead) : ∃ b blk0, L[j]? = some b ∧ nth Hm b = some blk0 ∧ blk0 ≠ .dead ∧ blk = renB (fun b => idx L b 0) blk0 := by
  rw [hL.h, pick_get] at h
  cases hb : L[j]? with
  | none => rw [hb] at h; cases h
  | some b =>
    rw [hb] at h
    simp only [Option.map_some, Option.some.injEq] at h
    split at h
    · rename_i blk0 h0
      exact ⟨b, blk0, rfl, h0, fun e => hd (by rw [← h, renB_dead]; exact e), h.symm⟩
    · exact absurd h.symm hd

theorem handM_at {j b : Nat} (h : L[j]? = some b) : handM R L j = R.M b := by simp [handM, h]

variable (le : ∀ b blk, nth Hm b = some blk → blk ≠ .dead → nth R.H b = some blk)
include le

theorem hand_live (hL : Least 0 args Hm L args' H0) (c : Nat) (h : handLv R L H0 c) : R.live c := by
  obtain ⟨j, h1, h2⟩ := h
  obtain ⟨blk, g1, g2⟩ := isLive_iff.1 h1
  obtain ⟨b, blk0, e1, e2, e3, e4⟩ := least_at hL g1 g2
  rw [handM_at e1] at h2
  exact ⟨b, isLive_iff.2 ⟨blk0, by rw [← nth_eq]; exact le b blk0 e2 e3, e3⟩, h2⟩

theorem hand_ren (hL : Least 0 args Hm L args' H0) : Ren R (R.hand L H0) (fun b => idx L b 0) where
  m := fun b j x hj hm => by
    show handM R L j = some x
    rw [handM_at (idx0 hj)]; exact hm
  h := fun b j x blk hj hm hb hd => by
    obtain ⟨b', blk0, e1, e2, e3, e4⟩ := least_at hL hb hd
    rw [idx0 hj] at e1; cases e1
    refine ⟨blk0, by rw [← nth_eq]; exact le b blk0 e2 e3, ?_⟩
    rw [e4, renB_like]
    exact Blk.like_refl e3

theorem hand_den (hL : Least 0 args Hm L args' H0) {x : D} {u : Value} (h : R.den w x u) : (R.hand L H0).den w x u := by
  refine DenD.change _ _ _ _ (fun b _ h => ⟨fun hl => h.1 (hand_live le hL b hl), ?_⟩) (fun b _ h => ⟨fun hl => h.1 (hand_live le hL b hl), ?_⟩) (fun b _ h hl => h (hand_live le hL b hl)) (fun _ _ _ => rfl) (Nat.le_refl _) (fun _ h => h.1) (fun _ h => h.1) x u h
  · rintro (h' | h')
    · exact h.1 h'.1
    · exact h.2 h'
  · rintro (h' | h')
    · exact h.1 h'.1
    · exact h.2 h'

theorem hand_ok (ok : R.OK w) (hL : Least 0 args Hm L args' H0) : (R.hand L H0).OK w where
  b01 := fun c h => by
    rcases h with h | h
    · exact .inl h
    · exact .inr (ok.b01 c h)
  al := fun j blk h hd => by
    obtain ⟨b, blk0, e1, e2, e3, e4⟩ := least_at hL h hd
    obtain ⟨m, hm⟩ := ok.al b blk0 (by rw [← nth_eq]; exact le b blk0 e2 e3) e3
    exact ⟨m, by show handM R L j = some m; rw [handM_at e1]; exact hm⟩
  inj := fun i j c hi hj h1 h2 => by
    obtain ⟨bi, g1, g2⟩ := isLive_iff.1 hi
    obtain ⟨bj, g3, g4⟩ := isLive_iff.1 hj
    obtain ⟨b, blk0, e1, e2, e3, e4⟩ := least_at hL g1 g2
    obtain ⟨b', blk0', f1, f2, f3, f4⟩ := least_at hL g3 g4
    have h1' : handM R L i = some (some c) := h1
    have h2' : handM R L j = some (some c) := h2
    rw [handM_at e1] at h1'
    rw [handM_at f1] at h2'
    have := ok.inj b b' c (isLive_iff.2 ⟨blk0, by rw [← nth_eq]; exact le b blk0 e2 e3, e3⟩) (isLive_iff.2 ⟨blk0', by rw [← nth_eq]; exact le b' blk0' f2 f3, f3⟩) h1' h2'
    subst this
    exact hL.nodup i j b e1 f1
  lt := fun j c h => by
    have h' : handM R L j = some (some c) := h
    unfold handM at h'
    split at h'
    · exact ok.lt _ c h'
    · cases h'
  blk := fun j m blk h hm => by
    by_cases hd : blk = .dead
    · subst hd; trivial
    · obtain ⟨b, blk0, e1, e2, e3, e4⟩ := least_at hL h hd
      have hm' : handM R L j = some m := hm
      rw [handM_at e1] at hm'
      subst e4
      exact renB_ok (hand_ren le hL) closed_true (fun x u _ h => hand_den le hL h) (fun x u _ h => hand_den le hL h) (fun _ _ _ _ => trivial) (ok.blk b m blk0 (by rw [← nth_eq]; exact le b blk0 e2 e3) hm')
  nb := fun j c hl hm h => by
    have hm' : handM R L j = some (some c) := hm
    rcases h with h | h
    · exact h.2 ⟨j, hl, hm'⟩
    · obtain ⟨blk, g1, g2⟩ := isLive_iff.1 hl
      obtain ⟨b, blk0, e1, e2, e3, e4⟩ := least_at hL g1 g2
      rw [handM_at e1] at hm'
      exact ok.nb b c (isLive_iff.2 ⟨blk0, by rw [← nth_eq]; exact le b blk0 e2 e3, e3⟩) hm' h
  bl := fun c h => by
    rcases h with ⟨⟨i, _, h⟩, _⟩ | h
    · exact ok.lt i c h
    · exact ok.bl c h

/-- The callee is done. -/
theorem post_hand {nid : Nat} {H1 H' : Heap} {v : V} {u : Value} (ok : R.OK w) (hL : Least 0 args Hm L args' H0) (x : Ext (R.hand L H0) w R0' w') (ok0 : R0'.OK w') (hH : R0'.H = H1) (hv : DenV R0' w' v u) (h0 : ∀ i, H1.length ≤ i → R0'.M i = none)
    (hlen : H0.length ≤ H1.length) (he : nofnV v = true) (heB : nofnBs H1 = true) (back : Nat → Option Nat) (hback : back = fun j => match nth L j with | some b => some b | none => some (nid + (j - L.length)))
    (hn : ∀ i, nid ≤ i → i < nid + (H1.length - L.length) → R.M i = none) (hp : Placed R.H (L.zip (H1.map (renB back))) nid ((H1.drop L.length).map (renB back)) H') :
    Post R w nid (H1.length - L.length) H' (renV back v) u w' := by
  have hl0 : H0.length = L.length := by rw [hL.h, pick_len]
  rw [hl0] at hlen
  let R' : RP := { R with M := fun i => if nid ≤ i ∧ i < nid + (H1.length - L.length) then R0'.M (L.length + (i - nid)) else R.M i, H := H' }
  -- what is known of L's blocks
  have hLl : ∀ j b, L[j]? = some b → ∃ blk m, R.H[b]? = some blk ∧ blk ≠ .dead ∧ nth Hm b = some blk ∧ R.M b = some m := fun j b hj => by
    have := hL.live rfl b (List.mem_of_getElem? hj)
    obtain ⟨blk, g1, g2⟩ := isLive_iff.1 this
    rw [← nth_eq] at g1
    have g3 := le b blk g1 g2
    rw [nth_eq] at g3
    obtain ⟨m, hm⟩ := ok.al b blk g3 g2
    exact ⟨blk, m, g3, g2, g1, hm⟩
  let Src : Nat → Nat → Prop := fun i s => ((nid ≤ i ∧ i < nid + (H1.length - L.length)) ∧ s = L.length + (i - nid)) ∨ (¬ (nid ≤ i ∧ i < nid + (H1.length - L.length)) ∧ L[s]? = some i)
  have hLin : ∀ j b, L[j]? = some b → ¬ (nid ≤ b ∧ b < nid + (H1.length - L.length)) := fun j b hj h => by
    obtain ⟨_, m, _, _, _, hm⟩ := hLl j b hj
    rw [hn b h.1 h.2] at hm; cases hm
  obtain ⟨z1, z2⟩ := updH_zip L (H1.map (renB back)) R.H hL.nodup
  have F1 : ∀ i s blk, Src i s → H'[i]? = some blk → ∃ b0, H1[s]? = some b0 ∧ blk = renB back b0 := fun i s blk hs hi => by
    rcases hs with ⟨h1, rfl⟩ | ⟨h1, h2⟩
    · rw [hp i, if_pos (by simpa using h1), List.getElem?_map, List.getElem?_drop] at hi
      cases hb : H1[L.length + (i - nid)]? with
      | none => rw [hb] at hi; cases hi
      | some b0 =>
        rw [hb] at hi
        simp only [Option.map_some, Option.some.injEq] at hi
        exact ⟨b0, rfl, hi.symm⟩
    · rw [hp i, if_neg (by simpa using h1)] at hi
      have hsl : s < L.length := (List.getElem?_eq_some_iff.1 h2).1
      have hs1 : H1[s]? = some H1[s] := List.getElem?_eq_getElem (by omega)
      obtain ⟨blk0, _, q1, _⟩ := hLl s i h2
      rw [z1 s i (renB back H1[s]) h2 (by rw [List.getElem?_map, hs1]; rfl) (List.getElem?_eq_some_iff.1 q1).1] at hi
      exact ⟨_, hs1, (Option.some.inj hi).symm⟩
  have F2 : ∀ i s, Src i s → R'.M i = R0'.M s := fun i s hs => by
    rcases hs with ⟨h1, rfl⟩ | ⟨h1, h2⟩
    · exact if_pos h1
    · obtain ⟨_, m, _, _, _, hm⟩ := hLl s i h2
      have e1 : R'.M i = R.M i := if_neg h1
      rw [e1, hm]
      exact (x.m s m (by show handM R L s = some m; rw [handM_at h2]; exact hm)).symm
  have F3 : ∀ i, (∀ s, ¬ Src i s) → H'[i]? = R.H[i]? ∧ R'.M i = R.M i ∧ i ∉ L := fun i hs => by
    have h1 : ¬ (nid ≤ i ∧ i < nid + (H1.length - L.length)) := fun h => hs _ (.inl ⟨h, rfl⟩)
    have h2 : i ∉ L := fun h => by
      obtain ⟨s, hs'⟩ := List.mem_iff_getElem?.1 h
      exact hs s (.inr ⟨h1, hs'⟩)
    refine ⟨?_, if_neg h1, h2⟩
    rw [hp i, if_neg (by simpa using h1), z2 i h2]
  have F4 : ∀ i i' s, Src i s → Src i' s → i = i' := fun i i' s h h' => by
    rcases h with ⟨h1, h2⟩ | ⟨h1, h2⟩ <;> rcases h' with ⟨h3, h4⟩ | ⟨h3, h4⟩
    · omega
    · have := (List.getElem?_eq_some_iff.1 h4).1; omega
    · have := (List.getElem?_eq_some_iff.1 h2).1; omega
    · rw [h2] at h4; cases h4; rfl
  have F5 : ∀ b m, R0'.M b = some m → ∃ i, back b = some i ∧ Src i b := fun b m hm => by
    have hb : b < H1.length := by
      rcases Nat.lt_or_ge b H1.length with h | h
      · exact h
      · rw [h0 b h] at hm; cases hm
    rw [hback]
    dsimp only
    rw [nth_eq]
    by_cases hbl : b < L.length
    · rw [List.getElem?_eq_getElem hbl]
      exact ⟨_, rfl, .inr ⟨hLin b _ (List.getElem?_eq_getElem hbl), List.getElem?_eq_getElem hbl⟩⟩
    · rw [List.getElem?_eq_none (by omega)]
      exact ⟨_, rfl, .inl ⟨by omega, by omega⟩⟩
  have liveS : ∀ i s, Src i s → isLive H' i = true → isLive R0'.H s = true := fun i s hs hl => by
    obtain ⟨blk, g1, g2⟩ := isLive_iff.1 hl
    obtain ⟨b0, e1, e2⟩ := F1 i s blk hs g1
    exact isLive_iff.2 ⟨b0, by rw [hH]; exact e1, fun e => g2 (by rw [e2, renB_dead]; exact e)⟩
  have liveN : ∀ i, (∀ s, ¬ Src i s) → isLive H' i = true → isLive R.H i = true := fun i hs hl => by
    obtain ⟨blk, g1, g2⟩ := isLive_iff.1 hl
    exact isLive_iff.2 ⟨blk, by rw [← (F3 i hs).1]; exact g1, g2⟩
  -- a block of the callee's that was there already was handed to it
  have old : ∀ s c, isLive R0'.H s = true → R0'.M s = some (some c) → c < w.heap.size → handLv R L H0 c := fun s c hl hm hc => x.liv c hc ⟨s, hl, hm⟩
  have e : Ext R w R' w' := by
    refine ⟨?_, ?_, rfl, rfl, fun b hb hnl => x.same b hb (fun h => hnl (hand_live le hL b h)), x.row, x.grow, ?_, x.os, x.tape, x.output⟩
    · intro i m hm
      have : ¬ (nid ≤ i ∧ i < nid + (H1.length - L.length)) := fun h => by rw [hn i h.1 h.2] at hm; cases hm
      exact (if_neg this).trans hm
    · intro i m blk hm hi hd
      by_cases hs : ∃ s, Src i s
      · obtain ⟨s, hs⟩ := hs
        rcases hs with ⟨h1, _⟩ | ⟨h1, h2⟩
        · rw [hn i h1.1 h1.2] at hm; cases hm
        · obtain ⟨b0, e1, e2⟩ := F1 i s blk (.inr ⟨h1, h2⟩) hi
          have hb0 : b0 ≠ .dead := fun e => hd (by rw [e2, renB_dead]; exact e)
          obtain ⟨blk1, g1, g2⟩ := x.h s m b0 (by show handM R L s = some m; rw [handM_at h2]; exact hm) (by rw [hH]; exact e1) hb0
          obtain ⟨b', blk0, f1, f2, f3, f4⟩ := least_at hL (show H0[s]? = some blk1 from g1) (Blk.like_ne g2)
          rw [h2] at f1; cases f1
          have f5 := le i blk0 f2 f3
          rw [nth_eq] at f5
          refine ⟨blk0, f5, ?_⟩
          rw [e2, renB_like]
          rw [f4, like_renB] at g2
          exact g2
      · exact ⟨blk, by rw [← (F3 i (fun s h => hs ⟨s, h⟩)).1]; exact hi, Blk.like_refl hd⟩
    · rintro c hc ⟨i, g1, g2⟩
      by_cases hs : ∃ s, Src i s
      · obtain ⟨s, hs⟩ := hs
        rw [F2 i s hs] at g2
        exact hand_live le hL c (old s c (liveS i s hs g1) g2 hc)
      · have hs' : ∀ s, ¬ Src i s := fun s h => hs ⟨s, h⟩
        rw [(F3 i hs').2.1] at g2
        exact ⟨i, liveN i hs' g1, g2⟩
  have hr : Ren R0' R' back := by
    refine ⟨?_, ?_⟩
    · intro b j m hj hm
      obtain ⟨i, e1, e2⟩ := F5 b m hm
      rw [e1] at hj; cases hj
      rw [F2 _ b e2]; exact hm
    · intro b j m blk hj hm hb hd
      obtain ⟨i, e1, e2⟩ := F5 b m hm
      rw [e1] at hj; cases hj
      obtain ⟨b0, f1, f2⟩ := F1 _ b blk e2 hb
      refine ⟨b0, by rw [hH]; exact f1, ?_⟩
      rw [f2, renB_like]
      exact Blk.like_refl fun e => hd (by rw [f2, renB_dead]; exact e)
  -- what is not the callee's is not the caller's
  have nl : ∀ c, ¬ R0'.live c → ¬ (R.live c ∧ ¬ handLv R L H0 c) → ¬ R'.live c := by
    rintro c q1 q2 ⟨i, g1, g2⟩
    by_cases hs : ∃ s, Src i s
    · obtain ⟨s, hs⟩ := hs
      rw [F2 i s hs] at g2
      exact q1 ⟨s, liveS i s hs g1, g2⟩
    · have hs' : ∀ s, ¬ Src i s := fun s h => hs ⟨s, h⟩
      rw [(F3 i hs').2.1] at g2
      have hli := liveN i hs' g1
      refine q2 ⟨⟨i, hli, g2⟩, ?_⟩
      rintro ⟨j, h1, h2⟩
      obtain ⟨blk, p1, p2⟩ := isLive_iff.1 h1
      obtain ⟨b, blk0, f1, f2, f3, f4⟩ := least_at hL p1 p2
      rw [handM_at f1] at h2
      have := ok.inj i b c hli (isLive_iff.2 ⟨blk0, by rw [← nth_eq]; exact le b blk0 f2 f3, f3⟩) g2 h2
      subst this
      exact (F3 i hs').2.2 (List.mem_of_getElem? f1)
  have a1 : ∀ b, R0'.A1 b → R'.A1 b := fun b ⟨q1, q2⟩ => by
    rw [x.b1] at q2
    exact ⟨nl b q1 (fun h => q2 (.inl h)), fun h => q2 (.inr h)⟩
  have a0 : ∀ b, R0'.A0 b → R'.A0 b := fun b ⟨q1, q2⟩ => by
    rw [x.b0] at q2
    exact ⟨nl b q1 (fun h => q2 (.inl h)), fun h => q2 (.inr h)⟩
  have hesc : ∀ y u, y.esc = true → R0'.den w' y u → R'.den w' y u := fun y u hy h => DenD.lift a1 y u hy h
  have hd : ∀ y u, nofnV (.d y) = true → R0'.den w' y u → R'.den w' y u := fun y u hy h => DenD.nofn a1 a0 y u hy h
  refine ⟨R', e, ⟨ok.b01, ?_, ?_, ?_, ?_, ?_, fun c h => Nat.lt_of_lt_of_le (ok.bl c h) x.grow⟩, rfl, renV_ok hr closed_nofn hd v u he hv, fun i h hni => (if_neg hni).trans h⟩
  · intro i blk hb hdd
    by_cases hs : ∃ s, Src i s
    · obtain ⟨s, hs⟩ := hs
      obtain ⟨b0, e1, e2⟩ := F1 i s blk hs hb
      obtain ⟨m, hm⟩ := ok0.al s b0 (by rw [hH]; exact e1) (fun e => hdd (by rw [e2, renB_dead]; exact e))
      exact ⟨m, (F2 i s hs).trans hm⟩
    · have hs' : ∀ s, ¬ Src i s := fun s h => hs ⟨s, h⟩
      obtain ⟨m, hm⟩ := ok.al i blk (by rw [← (F3 i hs').1]; exact hb) hdd
      exact ⟨m, (F3 i hs').2.1.trans hm⟩
  · intro i j c hli hlj g1 g2
    have mixed : ∀ i s j, Src i s → (∀ s, ¬ Src j s) → isLive H' i = true → isLive H' j = true → R'.M i = some (some c) → R'.M j = some (some c) → False := by
      intro i s j hs hj hli hlj g1 g2
      rw [F2 i s hs] at g1
      rw [(F3 j hj).2.1] at g2
      have hc := ok.lt j c g2
      obtain ⟨k, h1, h2⟩ := old s c (liveS i s hs hli) g1 hc
      obtain ⟨blk, p1, p2⟩ := isLive_iff.1 h1
      obtain ⟨b, blk0, f1, f2, f3, f4⟩ := least_at hL p1 p2
      rw [handM_at f1] at h2
      have := ok.inj j b c (liveN j hj hlj) (isLive_iff.2 ⟨blk0, by rw [← nth_eq]; exact le b blk0 f2 f3, f3⟩) g2 h2
      subst this
      exact (F3 j hj).2.2 (List.mem_of_getElem? f1)
    by_cases hi : ∃ s, Src i s <;> by_cases hj : ∃ s, Src j s
    · obtain ⟨s, hs⟩ := hi
      obtain ⟨s', hs'⟩ := hj
      have g1' := g1
      have g2' := g2
      rw [F2 i s hs] at g1'
      rw [F2 j s' hs'] at g2'
      have := ok0.inj s s' c (liveS i s hs hli) (liveS j s' hs' hlj) g1' g2'
      subst this
      exact F4 i j s hs hs'
    · obtain ⟨s, hs⟩ := hi
      exact (mixed i s j hs (fun s h => hj ⟨s, h⟩) hli hlj g1 g2).elim
    · obtain ⟨s, hs⟩ := hj
      exact (mixed j s i hs (fun s h => hi ⟨s, h⟩) hlj hli g2 g1).elim
    · have hi' : ∀ s, ¬ Src i s := fun s h => hi ⟨s, h⟩
      have hj' : ∀ s, ¬ Src j s := fun s h => hj ⟨s, h⟩
      rw [(F3 i hi').2.1] at g1
      rw [(F3 j hj').2.1] at g2
      exact ok.inj i j c (liveN i hi' hli) (liveN j hj' hlj) g1 g2
  · intro i c hc
    by_cases hs : ∃ s, Src i s
    · obtain ⟨s, hs⟩ := hs
      rw [F2 i s hs] at hc; exact ok0.lt s c hc
    · rw [(F3 i (fun s h => hs ⟨s, h⟩)).2.1] at hc
      exact Nat.lt_of_lt_of_le (ok.lt i c hc) x.grow
  · intro i m blk hb hm
    by_cases hdd : blk = .dead
    · subst hdd; trivial
    · by_cases hs : ∃ s, Src i s
      · obtain ⟨s, hs⟩ := hs
        obtain ⟨b0, e1, e2⟩ := F1 i s blk hs hb
        rw [F2 i s hs] at hm
        subst e2
        exact renB_ok hr closed_nofn hd hesc (fun cs hcs => by subst hcs; exact nofnBs_at H1 _ cs heB e1) (ok0.blk s m b0 (by rw [hH]; exact e1) hm)
      · have hs' : ∀ s, ¬ Src i s := fun s h => hs ⟨s, h⟩
        obtain ⟨f1, f2, f3⟩ := F3 i hs'
        rw [f2] at hm
        have hb' : R.H[i]? = some blk := by rw [← f1]; exact hb
        refine e.blkOK ok.b01 (fun c hc => x.same c (ok.lt i c (by rw [hm, hc])) ?_) (ok.blk i m blk hb' hm)
        rintro ⟨k, h1, h2⟩
        obtain ⟨blk1, p1, p2⟩ := isLive_iff.1 h1
        obtain ⟨b, blk0, q1, q2, q3, q4⟩ := least_at hL p1 p2
        have h2' : handM R L k = some (some c) := h2
        rw [handM_at q1] at h2'
        have := ok.inj i b c (isLive_iff.2 ⟨blk, hb', hdd⟩) (isLive_iff.2 ⟨blk0, by rw [← nth_eq]; exact le b blk0 q2 q3, q3⟩) (by rw [hm, hc]) h2'
        subst this
        exact f3 (List.mem_of_getElem? q1)
  · intro i c hl hc hb1
    by_cases hs : ∃ s, Src i s
    · obtain ⟨s, hs⟩ := hs
      rw [F2 i s hs] at hc
      refine ok0.nb s c (liveS i s hs hl) hc ?_
      rw [x.b1]; exact .inr hb1
    · have hs' : ∀ s, ¬ Src i s := fun s h => hs ⟨s, h⟩
      rw [(F3 i hs').2.1] at hc
      exact ok.nb i c (liveN i hs' hl) hc hb1
end

end Go.Proofs.YtljgncbdagmeeaaDoorE
