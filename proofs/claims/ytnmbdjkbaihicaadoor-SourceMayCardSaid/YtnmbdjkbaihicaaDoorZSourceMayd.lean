/- SourceMay: part 4 of 7 of the proof. -/
import Derived.Test.YtnmbdjkbaihicaaDoorZSourceMayc
import Derived.LoopN
import Derived.Scope
import Derived.RangeFuncNested
import Derived.RangeFuncBox
import Derived.RangeFuncLeaves
import Derived.Shelf.Abstract
import Derived.WalkKit
import Derived.OwnWalkIn
import Derived.TacticsInMore
import Derived.LoopNIn
import Derived.LoopIn
import Derived.Test.YtnmbdjkbaihicaaDoorProg
import Derived.KernelRfl
import Derived.ChangeArms
import Derived.Deep.Slices
import Derived.ChangeOld
import Derived.WideShapes
import Derived.FnData
import Derived.MakeChecks
import Derived.LaidMore
import Derived.OpenShut
set_option maxRecDepth 100000
set_option maxHeartbeats 40000000
namespace Go.Proofs.YtnmbdjkbaihicaaDoorE
open Go
set_option linter.unusedVariables false
set_option linter.unusedSimpArgs false
def Zdk (R : RP) (L : List Nat) : Nat → Option (Option Nat) := fun j => match L[j]? with | some b => R.M b | none => none
def Zl4 (R : RP) (L : List Nat) (H0 : Zk) (c : Nat) : Prop := ∃ j, Z5 H0 j = true ∧ Zdk R L j = some (some c)
def RP.hand (R : RP) (L : List Nat) (H0 : Zk) : RP := { B1 := fun c => (R.live c ∧ ¬ Zl4 R L H0 c) ∨ R.B1 c, B0 := fun c => (R.live c ∧ ¬ Zl4 R L H0 c) ∨ R.B0 c, M := Zdk R L, H := H0 }
theorem Zo7 : ∀ (L : List Nat) (bs : List Blk) (H : Zk), (∀ (i j b : Nat), L[i]? = some b → L[j]? = some b → i = j) → (∀ (j b : Nat) blk, L[j]? = some b → bs[j]? = some blk → b < H.length → (ZdC H (L.zip bs))[b]? = some blk) ∧ (∀ b, b ∉ L → (ZdC H (L.zip bs))[b]? = H[b]?)
 | [], bs, H, _ => ⟨fun j b blk h => by simp at h, fun b _ => by simp [ZdC]⟩
 | a :: L, [], H, _ => ⟨fun j b blk _ h => by simp at h, fun b _ => by simp [ZdC]⟩
 | a :: L, x :: bs, H, hn => by
  have hn' : ∀ (i j b : Nat), L[i]? = some b → L[j]? = some b → i = j := fun i j b h1 h2 => by
   have := hn (i + 1) (j + 1) b (by simpa using h1) (by simpa using h2)
   omega
  have haL : a ∉ L := fun h => by
   obtain ⟨j, hj⟩ := List.mem_iff_getElem?.1 h
   have := hn 0 (j + 1) a (by simp) (by simpa using hj)
   omega
  obtain ⟨h1, h2⟩ := Zo7 L bs (Zen H a x) hn'
  refine ⟨fun j b blk hj hb hlt => ?_, fun b hb => ?_⟩
  ·cases j with
   | zero =>
    simp at hj hb
    subst hj; subst hb
    show (ZdC (Zen H a x) (L.zip bs))[a]? = some x
    rw [h2 a haL, ZbI, List.getElem?_set, if_pos rfl, if_pos hlt]
   | succ j =>
    exact h1 j b blk (by simpa using hj) (by simpa using hb) (by rw [ZbI, List.length_set]; exact hlt)
  ·show (ZdC (Zen H a x) (L.zip bs))[b]? = H[b]?
   rw [h2 b (fun h => hb (List.mem_cons_of_mem _ h)), ZbI, List.getElem?_set, if_neg (fun h => hb (by rw [h]; exact List.mem_cons_self))]
section
variable {P : Program} {G : Zbr} {R R0' : RP} {w w' : World} {Hm H0 : Zk} {L : List Nat} {args args' : List V}
theorem Zei (hL : ZmH 0 args Hm L args' H0) {j : Nat} {blk : Blk} (h : H0[j]? = some blk) (hd : blk ≠ .dead) : ∃ b blk0, L[j]? = some b ∧ nth Hm b = some blk0 ∧ blk0 ≠ .dead ∧ blk = Zgc (fun b => idx L b 0) blk0 := by
 rw [hL.h, ZmI] at h
 cases hb : L[j]? with
 | none => rw [hb] at h; cases h
 | some b =>
  rw [hb] at h
  simp only [Option.map_some, Option.some.injEq] at h
  split at h
  ·rename_i blk0 h0
   exact ⟨b, blk0, rfl, h0, fun e => hd (by rw [← h, Zeu]; exact e), h.symm⟩
  ·exact absurd h.symm hd
theorem ZbZ {j b : Nat} (h : L[j]? = some b) : Zdk R L j = R.M b := by simp [Zdk, h]
variable (le : ∀ b blk, nth Hm b = some blk → blk ≠ .dead → nth R.H b = some blk)
include le
theorem Zhf (hL : ZmH 0 args Hm L args' H0) (c : Nat) (h : Zl4 R L H0 c) : R.live c := by
 obtain ⟨j, h1, h2⟩ := h
 obtain ⟨blk, g1, g2⟩ := Zv.1 h1
 obtain ⟨b, blk0, e1, e2, e3, e4⟩ := Zei hL g1 g2
 rw [ZbZ e1] at h2
 exact ⟨b, Zv.2 ⟨blk0, by rw [← ZX]; exact le b blk0 e2 e3, e3⟩, h2⟩
theorem ZoE (hL : ZmH 0 args Hm L args' H0) : Ren R (R.hand L H0) (fun b => idx L b 0) where
 m := fun b j x hj hm => by
  show Zdk R L j = some x
  rw [ZbZ (ZtQ hj)]; exact hm
 h := fun b j x blk hj hm hb hd => by
  obtain ⟨b', blk0, e1, e2, e3, e4⟩ := Zei hL hb hd
  rw [ZtQ hj] at e1; cases e1
  refine ⟨blk0, by rw [← ZX]; exact le b blk0 e2 e3, ?_⟩
  rw [e4, Zge]
  exact Blk.like_refl e3
theorem Zkm (hL : ZmH 0 args Hm L args' H0) {x : D} {u : Value} (h : R.den w x u) : (R.hand L H0).den w x u := by
 refine ZaW.change _ _ _ _ (fun b _ h => ⟨fun hl => h.1 (Zhf le hL b hl), ?_⟩) (fun b _ h => ⟨fun hl => h.1 (Zhf le hL b hl), ?_⟩) (fun b _ h hl => h (Zhf le hL b hl)) (fun _ _ _ => rfl) (Nat.le_refl _) (fun _ h => h.1) (fun _ h => h.1) x u h
 ·rintro (h' | h')
  ·exact h.1 h'.1
  ·exact h.2 h'
 ·rintro (h' | h')
  ·exact h.1 h'.1
  ·exact h.2 h'
theorem ZtW (ok : R.OK w) (hL : ZmH 0 args Hm L args' H0) : (R.hand L H0).OK w where
 b01 := fun c h => by
  rcases h with h | h
  ·exact .inl h
  ·exact .inr (ok.b01 c h)
 al := fun j blk h hd => by
  obtain ⟨b, blk0, e1, e2, e3, e4⟩ := Zei hL h hd
  obtain ⟨m, hm⟩ := ok.al b blk0 (by rw [← ZX]; exact le b blk0 e2 e3) e3
  exact ⟨m, by show Zdk R L j = some m; rw [ZbZ e1]; exact hm⟩
 inj := fun i j c hi hj h1 h2 => by
  obtain ⟨bi, g1, g2⟩ := Zv.1 hi
  obtain ⟨bj, g3, g4⟩ := Zv.1 hj
  obtain ⟨b, blk0, e1, e2, e3, e4⟩ := Zei hL g1 g2
  obtain ⟨b', blk0', f1, f2, f3, f4⟩ := Zei hL g3 g4
  have h1' : Zdk R L i = some (some c) := h1
  have h2' : Zdk R L j = some (some c) := h2
  rw [ZbZ e1] at h1'
  rw [ZbZ f1] at h2'
  have := ok.inj b b' c (Zv.2 ⟨blk0, by rw [← ZX]; exact le b blk0 e2 e3, e3⟩) (Zv.2 ⟨blk0', by rw [← ZX]; exact le b' blk0' f2 f3, f3⟩) h1' h2'
  subst this
  exact hL.nodup i j b e1 f1
 lt := fun j c h => by
  have h' : Zdk R L j = some (some c) := h
  unfold Zdk at h'
  split at h'
  ·exact ok.lt _ c h'
  ·cases h'
 blk := fun j m blk h hm => by
  by_cases hd : blk = .dead
  ·subst hd; trivial
  ·obtain ⟨b, blk0, e1, e2, e3, e4⟩ := Zei hL h hd
   have hm' : Zdk R L j = some m := hm
   rw [ZbZ e1] at hm'
   subst e4
   exact Zln (ZoE le hL) ZgJ (fun x u _ h => Zkm le hL h) (fun x u _ h => Zkm le hL h) (fun _ _ _ _ => trivial) (ok.blk b m blk0 (by rw [← ZX]; exact le b blk0 e2 e3) hm')
 nb := fun j c hl hm h => by
  have hm' : Zdk R L j = some (some c) := hm
  rcases h with h | h
  ·exact h.2 ⟨j, hl, hm'⟩
  ·obtain ⟨blk, g1, g2⟩ := Zv.1 hl
   obtain ⟨b, blk0, e1, e2, e3, e4⟩ := Zei hL g1 g2
   rw [ZbZ e1] at hm'
   exact ok.nb b c (Zv.2 ⟨blk0, by rw [← ZX]; exact le b blk0 e2 e3, e3⟩) hm' h
 bl := fun c h => by
  rcases h with ⟨⟨i, _, h⟩, _⟩ | h
  ·exact ok.lt i c h
  ·exact ok.bl c h
theorem Zrf {nid : Nat} {H1 H' : Zk} {v : V} {u : Value} (ok : R.OK w) (hL : ZmH 0 args Hm L args' H0) (x : Ext (R.hand L H0) w R0' w') (ok0 : R0'.OK w') (hH : R0'.H = H1) (hv : ZaP R0' w' v u) (h0 : ∀ i, H1.length ≤ i → R0'.M i = none)
  (hlen : H0.length ≤ H1.length) (he : Zji v = true) (heB : ZgV H1 = true) (back : Nat → Option Nat) (hback : back = fun j => match nth L j with | some b => some b | none => some (nid + (j - L.length)))
  (hn : ∀ i, nid ≤ i → i < nid + (H1.length - L.length) → R.M i = none) (hp : Zaa R.H (L.zip (H1.map (Zgc back))) nid ((H1.drop L.length).map (Zgc back)) H') :
  ZZ R w nid (H1.length - L.length) H' (ZjZ back v) u w' := by
 have hl0 : H0.length = L.length := by rw [hL.h, Zgo]
 rw [hl0] at hlen
 let R' : RP := { R with M := fun i => if nid ≤ i ∧ i < nid + (H1.length - L.length) then R0'.M (L.length + (i - nid)) else R.M i, H := H' }
 have hLl : ∀ j b, L[j]? = some b → ∃ blk m, R.H[b]? = some blk ∧ blk ≠ .dead ∧ nth Hm b = some blk ∧ R.M b = some m := fun j b hj => by
  have := hL.live rfl b (List.mem_of_getElem? hj)
  obtain ⟨blk, g1, g2⟩ := Zv.1 this
  rw [← ZX] at g1
  have g3 := le b blk g1 g2
  rw [ZX] at g3
  obtain ⟨m, hm⟩ := ok.al b blk g3 g2
  exact ⟨blk, m, g3, g2, g1, hm⟩
 let Src : Nat → Nat → Prop := fun i s => ((nid ≤ i ∧ i < nid + (H1.length - L.length)) ∧ s = L.length + (i - nid)) ∨ (¬ (nid ≤ i ∧ i < nid + (H1.length - L.length)) ∧ L[s]? = some i)
 have hLin : ∀ j b, L[j]? = some b → ¬ (nid ≤ b ∧ b < nid + (H1.length - L.length)) := fun j b hj h => by
  obtain ⟨_, m, _, _, _, hm⟩ := hLl j b hj
  rw [hn b h.1 h.2] at hm; cases hm
 obtain ⟨z1, z2⟩ := Zo7 L (H1.map (Zgc back)) R.H hL.nodup
 have F1 : ∀ i s blk, Src i s → H'[i]? = some blk → ∃ b0, H1[s]? = some b0 ∧ blk = Zgc back b0 := fun i s blk hs hi => by
  rcases hs with ⟨h1, rfl⟩ | ⟨h1, h2⟩
  ·rw [hp i, if_pos (by simpa using h1), List.getElem?_map, List.getElem?_drop] at hi
   cases hb : H1[L.length + (i - nid)]? with
   | none => rw [hb] at hi; cases hi
   | some b0 =>
    rw [hb] at hi
    simp only [Option.map_some, Option.some.injEq] at hi
    exact ⟨b0, rfl, hi.symm⟩
  ·rw [hp i, if_neg (by simpa using h1)] at hi
   have hsl : s < L.length := (List.getElem?_eq_some_iff.1 h2).1
   have hs1 : H1[s]? = some H1[s] := List.getElem?_eq_getElem (by omega)
   obtain ⟨blk0, _, q1, _⟩ := hLl s i h2
   rw [z1 s i (Zgc back H1[s]) h2 (by rw [List.getElem?_map, hs1]; rfl) (List.getElem?_eq_some_iff.1 q1).1] at hi
   exact ⟨_, hs1, (Option.some.inj hi).symm⟩
 have F2 : ∀ i s, Src i s → R'.M i = R0'.M s := fun i s hs => by
  rcases hs with ⟨h1, rfl⟩ | ⟨h1, h2⟩
  ·exact if_pos h1
  ·obtain ⟨_, m, _, _, _, hm⟩ := hLl s i h2
   have e1 : R'.M i = R.M i := if_neg h1
   rw [e1, hm]
   exact (x.m s m (by show Zdk R L s = some m; rw [ZbZ h2]; exact hm)).symm
 have F3 : ∀ i, (∀ s, ¬ Src i s) → H'[i]? = R.H[i]? ∧ R'.M i = R.M i ∧ i ∉ L := fun i hs => by
  have h1 : ¬ (nid ≤ i ∧ i < nid + (H1.length - L.length)) := fun h => hs _ (.inl ⟨h, rfl⟩)
  have h2 : i ∉ L := fun h => by
   obtain ⟨s, hs'⟩ := List.mem_iff_getElem?.1 h
   exact hs s (.inr ⟨h1, hs'⟩)
  refine ⟨?_, if_neg h1, h2⟩
  rw [hp i, if_neg (by simpa using h1), z2 i h2]
 have F4 : ∀ i i' s, Src i s → Src i' s → i = i' := fun i i' s h h' => by
  rcases h with ⟨h1, h2⟩ | ⟨h1, h2⟩ <;> rcases h' with ⟨h3, h4⟩ | ⟨h3, h4⟩
  ·omega
  ·have := (List.getElem?_eq_some_iff.1 h4).1; omega
  ·have := (List.getElem?_eq_some_iff.1 h2).1; omega
  ·rw [h2] at h4; cases h4; rfl
 have F5 : ∀ b m, R0'.M b = some m → ∃ i, back b = some i ∧ Src i b := fun b m hm => by
  have hb : b < H1.length := by
   rcases Nat.lt_or_ge b H1.length with h | h
   ·exact h
   ·rw [h0 b h] at hm; cases hm
  rw [hback]
  dsimp only
  rw [ZX]
  by_cases hbl : b < L.length
  ·rw [List.getElem?_eq_getElem hbl]
   exact ⟨_, rfl, .inr ⟨hLin b _ (List.getElem?_eq_getElem hbl), List.getElem?_eq_getElem hbl⟩⟩
  ·rw [List.getElem?_eq_none (by omega)]
   exact ⟨_, rfl, .inl ⟨by omega, by omega⟩⟩
 have liveS : ∀ i s, Src i s → Z5 H' i = true → Z5 R0'.H s = true := fun i s hs hl => by
  obtain ⟨blk, g1, g2⟩ := Zv.1 hl
  obtain ⟨b0, e1, e2⟩ := F1 i s blk hs g1
  exact Zv.2 ⟨b0, by rw [hH]; exact e1, fun e => g2 (by rw [e2, Zeu]; exact e)⟩
 have liveN : ∀ i, (∀ s, ¬ Src i s) → Z5 H' i = true → Z5 R.H i = true := fun i hs hl => by
  obtain ⟨blk, g1, g2⟩ := Zv.1 hl
  exact Zv.2 ⟨blk, by rw [← (F3 i hs).1]; exact g1, g2⟩
 have old : ∀ s c, Z5 R0'.H s = true → R0'.M s = some (some c) → c < w.heap.size → Zl4 R L H0 c := fun s c hl hm hc => x.liv c hc ⟨s, hl, hm⟩
 have e : Ext R w R' w' := by
  refine ⟨?_, ?_, rfl, rfl, fun b hb hnl => x.same b hb (fun h => hnl (Zhf le hL b h)), x.row, x.grow, ?_, x.os, x.tape, x.output⟩
  ·intro i m hm
   have : ¬ (nid ≤ i ∧ i < nid + (H1.length - L.length)) := fun h => by rw [hn i h.1 h.2] at hm; cases hm
   exact (if_neg this).trans hm
  ·intro i m blk hm hi hd
   by_cases hs : ∃ s, Src i s
   ·obtain ⟨s, hs⟩ := hs
    rcases hs with ⟨h1, _⟩ | ⟨h1, h2⟩
    ·rw [hn i h1.1 h1.2] at hm; cases hm
    ·obtain ⟨b0, e1, e2⟩ := F1 i s blk (.inr ⟨h1, h2⟩) hi
     have hb0 : b0 ≠ .dead := fun e => hd (by rw [e2, Zeu]; exact e)
     obtain ⟨blk1, g1, g2⟩ := x.h s m b0 (by show Zdk R L s = some m; rw [ZbZ h2]; exact hm) (by rw [hH]; exact e1) hb0
     obtain ⟨b', blk0, f1, f2, f3, f4⟩ := Zei hL (show H0[s]? = some blk1 from g1) (Blk.like_ne g2)
     rw [h2] at f1; cases f1
     have f5 := le i blk0 f2 f3
     rw [ZX] at f5
     refine ⟨blk0, f5, ?_⟩
     rw [e2, Zge]
     rw [f4, Zq5] at g2
     exact g2
   ·exact ⟨blk, by rw [← (F3 i (fun s h => hs ⟨s, h⟩)).1]; exact hi, Blk.like_refl hd⟩
  ·rintro c hc ⟨i, g1, g2⟩
   by_cases hs : ∃ s, Src i s
   ·obtain ⟨s, hs⟩ := hs
    rw [F2 i s hs] at g2
    exact Zhf le hL c (old s c (liveS i s hs g1) g2 hc)
   ·have hs' : ∀ s, ¬ Src i s := fun s h => hs ⟨s, h⟩
    rw [(F3 i hs').2.1] at g2
    exact ⟨i, liveN i hs' g1, g2⟩
 have hr : Ren R0' R' back := by
  refine ⟨?_, ?_⟩
  ·intro b j m hj hm
   obtain ⟨i, e1, e2⟩ := F5 b m hm
   rw [e1] at hj; cases hj
   rw [F2 _ b e2]; exact hm
  ·intro b j m blk hj hm hb hd
   obtain ⟨i, e1, e2⟩ := F5 b m hm
   rw [e1] at hj; cases hj
   obtain ⟨b0, f1, f2⟩ := F1 _ b blk e2 hb
   refine ⟨b0, by rw [hH]; exact f1, ?_⟩
   rw [f2, Zge]
   exact Blk.like_refl fun e => hd (by rw [f2, Zeu]; exact e)
 have nl : ∀ c, ¬ R0'.live c → ¬ (R.live c ∧ ¬ Zl4 R L H0 c) → ¬ R'.live c := by
  rintro c q1 q2 ⟨i, g1, g2⟩
  by_cases hs : ∃ s, Src i s
  ·obtain ⟨s, hs⟩ := hs
   rw [F2 i s hs] at g2
   exact q1 ⟨s, liveS i s hs g1, g2⟩
  ·have hs' : ∀ s, ¬ Src i s := fun s h => hs ⟨s, h⟩
   rw [(F3 i hs').2.1] at g2
   have hli := liveN i hs' g1
   refine q2 ⟨⟨i, hli, g2⟩, ?_⟩
   rintro ⟨j, h1, h2⟩
   obtain ⟨blk, p1, p2⟩ := Zv.1 h1
   obtain ⟨b, blk0, f1, f2, f3, f4⟩ := Zei hL p1 p2
   rw [ZbZ f1] at h2
   have := ok.inj i b c hli (Zv.2 ⟨blk0, by rw [← ZX]; exact le b blk0 f2 f3, f3⟩) g2 h2
   subst this
   exact (F3 i hs').2.2 (List.mem_of_getElem? f1)
 have a1 : ∀ b, R0'.A1 b → R'.A1 b := fun b ⟨q1, q2⟩ => by
  rw [x.b1] at q2
  exact ⟨nl b q1 (fun h => q2 (.inl h)), fun h => q2 (.inr h)⟩
 have a0 : ∀ b, R0'.A0 b → R'.A0 b := fun b ⟨q1, q2⟩ => by
  rw [x.b0] at q2
  exact ⟨nl b q1 (fun h => q2 (.inl h)), fun h => q2 (.inr h)⟩
 have hesc : ∀ y u, y.esc = true → R0'.den w' y u → R'.den w' y u := fun y u hy h => ZaW.lift a1 y u hy h
 have hd : ∀ y u, Zji (.d y) = true → R0'.den w' y u → R'.den w' y u := fun y u hy h => ZaW.nofn a1 a0 y u hy h
 refine ⟨R', e, ⟨ok.b01, ?_, ?_, ?_, ?_, ?_, fun c h => Nat.lt_of_lt_of_le (ok.bl c h) x.grow⟩, rfl, Zlo hr Zk7 hd v u he hv, fun i h hni => (if_neg hni).trans h⟩
 ·intro i blk hb hdd
  by_cases hs : ∃ s, Src i s
  ·obtain ⟨s, hs⟩ := hs
   obtain ⟨b0, e1, e2⟩ := F1 i s blk hs hb
   obtain ⟨m, hm⟩ := ok0.al s b0 (by rw [hH]; exact e1) (fun e => hdd (by rw [e2, Zeu]; exact e))
   exact ⟨m, (F2 i s hs).trans hm⟩
  ·have hs' : ∀ s, ¬ Src i s := fun s h => hs ⟨s, h⟩
   obtain ⟨m, hm⟩ := ok.al i blk (by rw [← (F3 i hs').1]; exact hb) hdd
   exact ⟨m, (F3 i hs').2.1.trans hm⟩
 ·intro i j c hli hlj g1 g2
  have mixed : ∀ i s j, Src i s → (∀ s, ¬ Src j s) → Z5 H' i = true → Z5 H' j = true → R'.M i = some (some c) → R'.M j = some (some c) → False := by
   intro i s j hs hj hli hlj g1 g2
   rw [F2 i s hs] at g1
   rw [(F3 j hj).2.1] at g2
   have hc := ok.lt j c g2
   obtain ⟨k, h1, h2⟩ := old s c (liveS i s hs hli) g1 hc
   obtain ⟨blk, p1, p2⟩ := Zv.1 h1
   obtain ⟨b, blk0, f1, f2, f3, f4⟩ := Zei hL p1 p2
   rw [ZbZ f1] at h2
   have := ok.inj j b c (liveN j hj hlj) (Zv.2 ⟨blk0, by rw [← ZX]; exact le b blk0 f2 f3, f3⟩) g2 h2
   subst this
   exact (F3 j hj).2.2 (List.mem_of_getElem? f1)
  by_cases hi : ∃ s, Src i s <;> by_cases hj : ∃ s, Src j s
  ·obtain ⟨s, hs⟩ := hi
   obtain ⟨s', hs'⟩ := hj
   have g1' := g1
   have g2' := g2
   rw [F2 i s hs] at g1'
   rw [F2 j s' hs'] at g2'
   have := ok0.inj s s' c (liveS i s hs hli) (liveS j s' hs' hlj) g1' g2'
   subst this
   exact F4 i j s hs hs'
  ·obtain ⟨s, hs⟩ := hi
   exact (mixed i s j hs (fun s h => hj ⟨s, h⟩) hli hlj g1 g2).elim
  ·obtain ⟨s, hs⟩ := hj
   exact (mixed j s i hs (fun s h => hi ⟨s, h⟩) hlj hli g2 g1).elim
  ·have hi' : ∀ s, ¬ Src i s := fun s h => hi ⟨s, h⟩
   have hj' : ∀ s, ¬ Src j s := fun s h => hj ⟨s, h⟩
   rw [(F3 i hi').2.1] at g1
   rw [(F3 j hj').2.1] at g2
   exact ok.inj i j c (liveN i hi' hli) (liveN j hj' hlj) g1 g2
 ·intro i c hc
  by_cases hs : ∃ s, Src i s
  ·obtain ⟨s, hs⟩ := hs
   rw [F2 i s hs] at hc; exact ok0.lt s c hc
  ·rw [(F3 i (fun s h => hs ⟨s, h⟩)).2.1] at hc
   exact Nat.lt_of_lt_of_le (ok.lt i c hc) x.grow
 ·intro i m blk hb hm
  by_cases hdd : blk = .dead
  ·subst hdd; trivial
  ·by_cases hs : ∃ s, Src i s
   ·obtain ⟨s, hs⟩ := hs
    obtain ⟨b0, e1, e2⟩ := F1 i s blk hs hb
    rw [F2 i s hs] at hm
    subst e2
    exact Zln hr Zk7 hd hesc (fun cs hcs => by subst hcs; exact ZmW H1 _ cs heB e1) (ok0.blk s m b0 (by rw [hH]; exact e1) hm)
   ·have hs' : ∀ s, ¬ Src i s := fun s h => hs ⟨s, h⟩
    obtain ⟨f1, f2, f3⟩ := F3 i hs'
    rw [f2] at hm
    have hb' : R.H[i]? = some blk := by rw [← f1]; exact hb
    refine e.blkOK ok.b01 (fun c hc => x.same c (ok.lt i c (by rw [hm, hc])) ?_) (ok.blk i m blk hb' hm)
    rintro ⟨k, h1, h2⟩
    obtain ⟨blk1, p1, p2⟩ := Zv.1 h1
    obtain ⟨b, blk0, q1, q2, q3, q4⟩ := Zei hL p1 p2
    have h2' : Zdk R L k = some (some c) := h2
    rw [ZbZ q1] at h2'
    have := ok.inj i b c (Zv.2 ⟨blk, hb', hdd⟩) (Zv.2 ⟨blk0, by rw [← ZX]; exact le b blk0 q2 q3, q3⟩) (by rw [hm, hc]) h2'
    subst this
    exact f3 (List.mem_of_getElem? q1)
 ·intro i c hl hc hb1
  by_cases hs : ∃ s, Src i s
  ·obtain ⟨s, hs⟩ := hs
   rw [F2 i s hs] at hc
   refine ok0.nb s c (liveS i s hs hl) hc ?_
   rw [x.b1]; exact .inr hb1
  ·have hs' : ∀ s, ¬ Src i s := fun s h => hs ⟨s, h⟩
   rw [(F3 i hs').2.1] at hc
   exact ok.nb i c (liveN i hs' hl) hc hb1
end
end Go.Proofs.YtnmbdjkbaihicaaDoorE
namespace Go.Proofs.YtnmbdjkbaihicaaDoorE
open Go
set_option linter.unusedVariables false
set_option linter.unusedSimpArgs false
section
variable {P : Program} {G : Zbr} {R : RP} {w : World} {e : Env} {a : Act} {Hm H' : Zk} {nid : Nat} {o : Oper}
theorem ZlJ (a : Act) (ok : R.OK w) (g : GOK G R w) (le : ∀ b blk, nth Hm b = some blk → blk ≠ .dead → nth R.H b = some blk) {Γ : Ctx} {cf : Za9} (hcf : ZeN P G cf) {f : Nat} {args : List V} {us : List Value} {v : V} {up : List (Nat × Blk)} {nw : List Blk}
  (ha : Zay R.weak w args us) (ha2 : ¬ (Nat.ble (Γ.mode f) 1 = true) → Zay R w args us) (h : Ze1 Γ cf nid Hm f args = some (v, up, nw)) (hn : ∀ i, nid ≤ i → i < nid + nw.length → R.M i = none) (hp : Zaa R.H up nid nw H') :
  Zg7 P f = true ∧ Calls P f us.toArray w fun e w' => ∃ u, e = .returned u ∧ ZZ R w nid nw.length H' v u w' := by
 unfold Ze1 at h
 split at h
 ·cases hz : fzs Hm args with
  | none => rw [hz] at h; cases h
  | some l =>
   rw [hz] at h
   dsimp only at h
   cases hc : cf f (Zcn l) [] with
   | none => rw [hc] at h; cases h
   | some r =>
    obtain ⟨v1, H1⟩ := r
    rw [hc] at h
    dsimp only at h
    cases hfr : fr H1 6 v1 with
    | none => rw [hfr] at h; cases h
    | some q =>
     obtain ⟨x, ks⟩ := q
     rw [hfr] at h
     dsimp only at h
     obtain ⟨h1, h2⟩ := hcf f (Zcn l) [] v1 H1 hc
     refine ⟨h1, (h2 R.inner w us (ZmF ok) (ZkJ g) rfl (fun _ _ => rfl) (ZmK (ZkR ok le 6 args l us hz ha))).mono ?_⟩
     rintro e' w' ⟨u, rfl, R0', x0, ok0, hH, hv, h0, hl⟩
     have hx : R.den w' x u := Zt8 (a := a) ok x0 ok0 (x0.gok (ZmF ok).b01 (ZkJ g)) hH hv hfr
     have fin : ∀ v', ZaP R w' v' u → up = [] → nw = [] → ZZ R w nid nw.length H' v' u w' := by
      intro v' hv' hup hnw
      subst hup; subst hnw
      exact ⟨R, x0.outer, ok.outer x0, hp.same.symm, hv', fun i h _ => h⟩
     split at h
     ·simp only [Option.some.injEq, Prod.mk.injEq] at h
      obtain ⟨rfl, hup, hnw⟩ := h
      obtain ⟨us', e1, e2⟩ := hx
      exact ⟨u, rfl, fin _ ⟨us', e1, (ZcO _ us').2 e2⟩ hup.symm hnw.symm⟩
     ·simp only [Option.some.injEq, Prod.mk.injEq] at h
      obtain ⟨rfl, hup, hnw⟩ := h
      exact ⟨u, rfl, fin _ hx hup.symm hnw.symm⟩
 ·cases hz : fzs Hm args with
  | none => rw [hz] at h; cases h
  | some l =>
   rw [hz] at h
   dsimp only at h
   cases hc : cf f (Zcn l) [] with
   | none => rw [hc] at h; cases h
   | some r =>
    obtain ⟨v1, H1⟩ := r
    rw [hc] at h
    dsimp only at h
    cases he : (ZmQ v1 && Zje H1) with
    | false => rw [he] at h; cases h
    | true =>
     rw [he] at h
     simp only [cond_true, Option.some.injEq, Prod.mk.injEq] at h
     obtain ⟨rfl, rfl, rfl⟩ := h
     simp only [Bool.and_eq_true] at he
     obtain ⟨h1, h2⟩ := hcf f (Zcn l) [] v1 H1 hc
     refine ⟨h1, (h2 R.inner w us (ZmF ok) (ZkJ g) rfl (fun _ _ => rfl) (ZmK (ZkR ok le 6 args l us hz ha))).mono ?_⟩
     rintro e' w' ⟨u, rfl, R0', x0, ok0, hH, hv, h0, hl⟩
     rw [List.length_map] at hn ⊢
     exact ⟨u, rfl, Zry ok x0 ok0 hH hv h0 he.1 he.2 hn hp⟩
 ·rename_i m hm0 hm1
  have hm : ¬ (Nat.ble (Γ.mode f) 1 = true) := by
   intro hb
   have := Nat.le_of_ble_eq_true hb
   rcases Nat.lt_or_ge (Γ.mode f) 1 with h | h
   ·exact hm0 (by omega)
   ·exact hm1 (by omega)
  cases hx : extract 0 args Hm with
  | none => rw [hx] at h; cases h
  | some q =>
   obtain ⟨L, args', H0⟩ := q
   rw [hx] at h
   dsimp only at h
   have hL := Zkc hx
   cases hc : cf f args' H0 with
   | none => rw [hc] at h; cases h
   | some r =>
    obtain ⟨v1, H1⟩ := r
    rw [hc] at h
    dsimp only at h
    cases he : (Zji v1 && ZgV H1) with
    | false => rw [he] at h; cases h
    | true =>
     rw [he] at h
     simp only [cond_true, Option.some.injEq, Prod.mk.injEq] at h
     obtain ⟨rfl, rfl, rfl⟩ := h
     simp only [Bool.and_eq_true] at he
     obtain ⟨h1, h2⟩ := hcf f args' H0 v1 H1 hc
     have hl0 : H0.length = L.length := by rw [hL.h, Zgo]
     have hnone : ∀ i, H0.length ≤ i → (R.hand L H0).M i = none := fun i hi => by
      show Zdk R L i = none
      unfold Zdk
      rw [List.getElem?_eq_none (by omega)]
     have hargs : Zay (R.hand L H0) w args' us := by
      rw [hL.vs]
      exact Zhh (ZoE le hL) ZgJ (fun x u _ h => Zkm le hL h) args us (fun _ _ => trivial) (ha2 hm)
     refine ⟨h1, (h2 (R.hand L H0) w us (ZtW le ok hL) (fun gl l hg => Zkm le hL (g gl l hg)) rfl hnone hargs).mono ?_⟩
     rintro e' w' ⟨u, rfl, R0', x0, ok0, hH, hv, h0, hl⟩
     rw [List.length_map, List.length_drop] at hn ⊢
     exact ⟨u, rfl, Zrf le ok hL x0 ok0 hH hv h0 hl he.1 he.2 _ rfl hn hp⟩
theorem Zs3 (pre : Pre G R w e a Hm) {Γ : Ctx} {cf : Za9} (hcf : ZeN P G cf) {f : Nat} {xs : Array Operand} {ats : Array TypeId} {ys : List Opd} {v : V} {up : List (Nat × Blk)} {nw : List Blk} (hop : o.op = .call { callee := .value (.func f), args := xs, argTypes := ats }) (hx : Zd9 G xs.toList ys = true)
  (h : Ze1 Γ cf nid Hm f (vals e ys) = some (v, up, nw)) (hn : ∀ i, nid ≤ i → i < nid + nw.length → R.M i = none) (hp : Zaa R.H up nid nw H') : ZcX P o a w (ZZ R w nid nw.length H' v) := by
 have hv := pre.opds hx
 obtain ⟨h1, h2⟩ := ZlJ a pre.ok pre.g pre.le hcf (RP.denVs_weak _ _ hv) (fun _ => hv) h hn hp
 refine .inr (.inr ⟨f, (xs.toList.map a.eval).toArray, w, ?_, h2⟩)
 have he : execOp a.eval o = callFunc f (#[] ++ xs.map a.eval ++ #[]) := by
  obtain ⟨dst, op, ty, pos, after, guard⟩ := o
  simp only at hop
  subst hop
  rfl
 rw [he]
 have : (#[] ++ xs.map a.eval ++ #[] : Array Value) = (xs.toList.map a.eval).toArray := by apply Array.ext'; simp
 rw [this]
 exact ZhN h1
def Zod (P : Program) (name : String) (t f : Nat) : Bool :=
 match P.info? t with
 | some ti => (match ti.methods.find? (·.name == name) with
  | some m => m.path.toList.isEmpty && ((match m.func with | some (g, b) => Nat.beq g f && !b | none => false) && (match P.underlying t with | some (.pointer _) => false | some _ => true | none => false))
  | none => false)
 | none => false
def ZoW (P : Program) (name : String) : List (Nat × Nat) → Bool
 | [] => true
 | (t, f) :: r => Zod P name t f && ZoW P name r
theorem ZoL {name : String} {t f : Nat} : ∀ {tab : List (Nat × Nat)}, ZoW P name tab = true → Zjl tab t = some f → Zod P name t f = true
 | [], _, h => by cases h
 | (t', f') :: r, ht, h => by
  unfold ZoW at ht
  rw [Bool.and_eq_true] at ht
  unfold Zjl at h
  cases hb : Nat.beq t' t with
  | true =>
   rw [hb] at h
   obtain rfl := Nat.eq_of_beq_eq_true hb
   cases h
   exact ht.1
  | false =>
   rw [hb] at h
   exact ZoL ht.2 h
theorem ZpT {name : String} {t f n : Nat} {v : Value} (h : Zod P name t f = true) : (method (n + 1) t v name).run P w = .ok (f, v) w := by
 unfold Zod at h
 cases hi : P.info? t with
 | none => rw [hi] at h; cases h
 | some ti =>
  rw [hi] at h
  dsimp only at h
  cases hm : ti.methods.find? (·.name == name) with
  | none => rw [hm] at h; cases h
  | some m =>
   rw [hm] at h
   simp only [Bool.and_eq_true] at h
   obtain ⟨h1, h2, h3⟩ := h
   have hp : m.path.toList = [] := by simpa using h1
   cases hf : m.func with
   | none => rw [hf] at h2; cases h2
   | some q =>
    obtain ⟨g, b⟩ := q
    rw [hf] at h2
    simp only [Bool.and_eq_true, Bool.not_eq_true'] at h2
    obtain ⟨h4, rfl⟩ := h2
    obtain rfl := Nat.eq_of_beq_eq_true h4
    cases hu : P.underlying t with
    | none => rw [hu] at h3; cases h3
    | some d =>
     rw [hu] at h3
     have hr : (receiverAt t (.val v) false (if m.path.isEmpty then some ((name.splitOn ".").getLastD name) else none)).run P w = .ok v w := by
      unfold receiverAt
      simp only [Sem.run_bind, run_underlying hu, Result.andThen_ok]
      cases d <;> first | rfl | cases h3
     unfold method
     simp only [Sem.run_bind, typeInfo, run_program, hi, Result.andThen_ok, hm, hp, follow, hf, Sem.run_pure, hr]
theorem Zto (pre : Pre G R w e a Hm) {Γ : Ctx} {cf : Za9} (hcf : ZeN P G cf) {f t : Nat} {z : D} {tab : List (Nat × Nat)} {name : String} {x : Operand} {y : Opd} {xs : Array Operand} {ats : Array TypeId} {ys : List Opd} {v : V} {up : List (Nat × Blk)} {nw : List Blk} (hop : o.op = .call { callee := .invoke x name, args := xs, argTypes := ats })
  (hy : ZN G x y = true) (hx : Zd9 G xs.toList ys = true) (ht : ZoW P name tab = true) (hval : y.val e = .d (.iface t z)) (hl : Zjl tab t = some f)
  (h : Ze1 Γ cf nid Hm f (.d z :: vals e ys) = some (v, up, nw)) (hn : ∀ i, nid ≤ i → i < nid + nw.length → R.M i = none) (hp : Zaa R.H up nid nw H') : ZcX P o a w (ZZ R w nid nw.length H' v) := by
 have hv := pre.opds hx
 have hf := pre.opd hy
 rw [hval] at hf
 obtain ⟨u', e1, hz⟩ := hf
 have full : Zay R w (.d z :: vals e ys) (u' :: xs.toList.map a.eval) := ⟨u', _, rfl, hz, hv⟩
 obtain ⟨h1, h2⟩ := ZlJ a pre.ok pre.g pre.le hcf (RP.denVs_weak _ _ full) (fun _ => full) h hn hp
 refine .inr (.inr ⟨f, (u' :: xs.toList.map a.eval).toArray, w, ?_, h2⟩)
 have hm := ZpT (w := w) (n := P.types.size + (Made.depth - 1)) (v := u') (ZoL ht hl)
 have hd : P.types.size + (Made.depth - 1) + 1 = P.types.size + Made.depth := by
  have : 0 < Made.depth := by decide
  omega
 rw [hd] at hm
 have harr : (#[a.eval x] ++ xs.map a.eval : Array Value)[0]? = some (.iface t u') := by rw [e1, Array.getElem?_append_left (by simp)]; rfl
 have hext : (#[a.eval x] ++ xs.map a.eval : Array Value).extract 1 (#[a.eval x] ++ xs.map a.eval : Array Value).size = xs.map a.eval := by
  apply Array.ext'
  simp [List.take_of_length_le]
 have he : (execOp a.eval o).run P w = (callFunc f (#[u'] ++ xs.map a.eval)).run P w := by
  obtain ⟨dst, op, ty, pos, after, guard⟩ := o
  simp only at hop
  subst hop
  have i1 : (execOp a.eval { dst := dst, op := .call { callee := .invoke x name, args := xs, argTypes := ats }, type := ty, pos := pos, after := after, guard := guard }) = (invoke (.fn (.method name) #[]) (#[a.eval x] ++ xs.map a.eval)) := rfl
  rw [i1]
  unfold invoke
  simp only [harr, hext]
  show (callMethod (.iface t u') name (xs.map a.eval)).run P w = _
  unfold callMethod
  simp only [Sem.run_bind, run_program, Result.andThen_ok, hm]
 rw [he]
 have : (#[u'] ++ xs.map a.eval : Array Value) = (u' :: xs.toList.map a.eval).toArray := by apply Array.ext'; simp
 rw [this]
 exact ZhN h1
theorem Zul (pre : Pre G R w e a Hm) {Γ : Ctx} {cf : Za9} (hcf : ZeN P G cf) {f : Nat} {x : Operand} {y : Opd} {caps : List V} {xs : Array Operand} {ats : Array TypeId} {ys : List Opd} {v : V} {up : List (Nat × Blk)} {nw : List Blk} (hop : o.op = .call { callee := .value x, args := xs, argTypes := ats })
  (hx : Zd9 G xs.toList ys = true) (hy : ZN G x y = true) (hcaps : ZhG (y.val e) = some (f, caps)) (hbad : ZeV Γ (y.val e) f caps = false)
  (h : Ze1 Γ cf nid Hm f (vals e ys ++ caps) = some (v, up, nw)) (hn : ∀ i, nid ≤ i → i < nid + nw.length → R.M i = none) (hp : Zaa R.H up nid nw H') : ZcX P o a w (ZZ R w nid nw.length H' v) := by
 have hv := pre.opds hx
 have hf := pre.opd hy
 have app : ∀ {R : RP} {vs ws : List V} {us us' : List Value}, Zay R w vs us → Zay R w ws us' → Zay R w (vs ++ ws) (us ++ us') := by
  intro R vs
  induction vs with
  | nil => intro ws us us' h1 h2; simp only [Zay] at h1; subst h1; exact h2
  | cons v vs ih =>
   intro ws us us' h1 h2
   obtain ⟨u, us0, rfl, h3, h4⟩ := h1
   exact ⟨u, us0 ++ us', rfl, h3, ih h4 h2⟩
 have key : ∃ us', a.eval x = .func (.func f) #[] us'.toArray ∧ Zay R.weak w caps us' ∧ (¬ (Nat.ble (Γ.mode f) 1 = true) → Zay R w caps us') := by
  unfold ZhG at hcaps
  split at hcaps
  ·rename_i f' caps' hval
   cases hcaps
   rw [hval] at hf
   obtain ⟨us', h1, h2⟩ := hf
   exact ⟨us', h1, RP.denVs_weak _ _ h2, fun _ => h2⟩
  ·rename_i f' caps' hval
   cases hcaps
   rw [hval] at hf hbad
   obtain ⟨us', h1, h2⟩ := hf
   refine ⟨us', h1, (ZcO caps' us').2 (ZaI.change _ _ _ _ (fun _ _ h => h) (fun _ _ h => ⟨h, fun h => h⟩) (fun _ _ h => h) (fun _ _ _ => rfl) (Nat.le_refl _) (fun _ h => h) (fun _ h => h.1) caps' us' h2), fun hm => ?_⟩
   cases caps' with
   | nil =>
    simp only [ZaI] at h2
    subst h2
    exact rfl
   | cons c cs =>
    exfalso
    simp only [ZeV, V.isD, Zcn, List.isEmpty_cons, Bool.not_false, Bool.and_true, Bool.true_and, Bool.not_eq_false'] at hbad
    exact hm hbad
  ·cases hcaps
 obtain ⟨us', k1, k2, k3⟩ := key
 obtain ⟨h1, h2⟩ := ZlJ a pre.ok pre.g pre.le hcf (app (RP.denVs_weak _ _ hv) k2) (fun hm => app hv (k3 hm)) h hn hp
 refine .inr (.inr ⟨f, (xs.toList.map a.eval ++ us').toArray, w, ?_, h2⟩)
 have he : (execOp a.eval o).run P w = (callFunc f (#[] ++ xs.map a.eval ++ us'.toArray)).run P w := by
  obtain ⟨dst, op, ty, pos, after, guard⟩ := o
  simp only at hop
  subst hop
  simp [execOp, resolve, k1, Deferred.ofValue, invoke]
 rw [he]
 have : (#[] ++ xs.map a.eval ++ us'.toArray : Array Value) = (xs.toList.map a.eval ++ us').toArray := by apply Array.ext'; simp
 rw [this]
 exact ZhN h1
end
end Go.Proofs.YtnmbdjkbaihicaaDoorE
namespace Go.Proofs.YtnmbdjkbaihicaaDoorE
open Go
set_option linter.unusedVariables false
set_option linter.unusedSimpArgs false
def Zfx {α : Type} (x : Option α) (f : α → Bool) : Bool := match x with | some a => f a | none => false
theorem ZaH {α : Type} {x : Option α} {f : α → Bool} (h : Zfx x f = true) : ∃ a, x = some a ∧ f a = true := by
 cases x with
 | none => cases h
 | some a => exact ⟨a, rfl, h⟩
def ZrB (P : Program) (t : TypeId) (sz : Nat) (z : Value → Bool) : Bool :=
 match P.underlying t with
 | some (.slice el) => Zfx (P.info? el) fun i => Zfx i.zero fun zv => Nat.beq i.size sz && (Nat.beq zv.cells.size sz && (Nat.blt 0 sz && (Nat.ble i.bytes 131072 && z zv)))
 | _ => false
theorem ZiZ {P : Program} {t : TypeId} {sz : Nat} {z : Value → Bool} (h : ZrB P t sz z = true) : ∃ el i zv, ZrC P t el sz i zv ∧ z zv = true := by
 unfold ZrB at h
 split at h
 ·rename_i el hu
  obtain ⟨i, h1, h⟩ := ZaH h
  obtain ⟨zv, h2, h⟩ := ZaH h
  simp only [Bool.and_eq_true, Nat.ble_eq] at h
  obtain ⟨h3, h4, h5, h6, h7⟩ := h
  exact ⟨el, i, zv, ⟨hu, h1, Nat.eq_of_beq_eq_true h3, h2, Nat.eq_of_beq_eq_true h4, by simp [Nat.blt] at h5; omega, h6⟩, h7⟩
 ·cases h
def ZgS (P : Program) (t : TypeId) : Bool := match P.underlying t with | some (.slice _) => true | _ => false
def zOf (z : List D) : D := match z with | [x] => x | z => .agg z
def ZdZ (P : Program) (G : Zbr) (o : Oper) (op : O) : Bool :=
 match op with
 | .mov y => (match o.op with | .move x => ZN G x y | .assign x => ZN G x y | _ => false)
 | .pick c' x' y' => (match o.op with | .pick c x y => ZN G c c' && (ZN G x x' && ZN G y y') | _ => false)
 | .alloc z => (match o.op with | .alloc t => z.okb && Zfx (ZhV P t) (cv z) | _ => false)
 | .box y => (match o.op with | .box _ x => ZN G x y | _ => false)
 | .build z ps => (match o.op with | .build t parts => Zfx (Zl5 P t) fun place => Zfx (ZhV P t) fun zv => cvs z zv.cells.toList && Zkn G place parts.toList ps | _ => false)
 | .bslice sz z len ps => (match o.op with | .buildSlice t l parts => Nat.beq l len && ((!(Nat.beq len 0) || parts.isEmpty) && Zl3 G parts.toList ps && (Nat.ble (len * sz) 16777216 && ZrB P t sz fun zv => cv (.d (zOf z)) zv && (zOf z).esc)) | _ => false)
 | .load n ag y => (match o.op with | .load t x => ZN G x y && (Zfx (ZfY P t) (fun b => b == ag) && Zfx (ZeR P t) (fun m => Nat.beq m n)) | _ => false)
 | .store n x' y' => (match o.op with | .store t x y => ZN G x x' && (ZN G y y' && Zfx (ZeR P t) (fun m => Nat.beq m n)) | _ => false)
 | .nilck y => (match o.op with | .nilCheck x => ZN G x y | _ => false)
 | .bin b x' y' => (match o.op with | .binOp b' _ x y _ => decide (b' = b) && (ZN G x x' && ZN G y y') | _ => false)
 | .eqv ks neg x' y' => (match o.op with | .binOp b t x y _ => decide (b = (bif neg then .neq else .eql)) && (ZN G x x' && (ZN G y y' && Zfx (ZjJ P t) (fun l => l == ks))) | _ => false)
 | .un b y => (match o.op with | .unOp b' _ x => decide (b' = b) && ZN G x y | _ => false)
 | .conv k y => (match o.op with | .convert s t x => ZN G x y && ((P.underlying s).isSome && (match P.underlying t with | some (.int k') => decide (k' = k) | _ => false)) | _ => false)
 | .mkfn f ys => (match o.op with | .makeFunc (.func f') first caps => Nat.beq f' f && (first.isEmpty && Zd9 G caps.toList ys) | _ => false)
 | .mkslice sz z x' y' => (match o.op with | .makeSlice t x y => ZN G x x' && (ZN G y y' && ZrB P t sz fun zv => cv (.d (zOf z)) zv && (zOf z).esc) | _ => false)
 | .slice sz y lo' hi' mx' => (match o.op with | .slice t x lo hi mx => ZN G x y && (Zjv G lo lo' && (Zjv G hi hi' && (Zjv G mx mx' && ((mx'.isNone || hi'.isSome) && Zfx (Zla P t) (fun el => Zfx (ZeR P el) fun n => Nat.beq n sz))))) | _ => false)
 | .faddr off y => (match o.op with | .fieldAddr s x f => ZN G x y && Zfx (ZhO P s f) (fun q => Nat.beq q.1 off && Zfx (ZeR P q.2) (fun n => !(Nat.beq n 0))) | _ => false)
 | .field off n ag y => (match o.op with | .field s x f => ZN G x y && Zfx (ZhO P s f) (fun q => Nat.beq q.1 off && (Zfx (ZeR P q.2) (fun m => Nat.beq m n) && Zfx (ZfY P q.2) (fun b => b == ag))) | _ => false)
 | .iaddr sz x' i' => (match o.op with | .indexAddr t x i => ZN G x x' && (ZN G i i' && Zfx (Zla P t) (fun el => Zfx (ZeR P el) fun n => Nat.beq n sz)) | _ => false)
 | .iaddrA len sz x' i' => (match o.op with | .indexAddr t x i => ZN G x x' && (ZN G i i' && Zfx (Zm2 P t) (fun q => Nat.beq q.1 len && Zfx (ZeR P q.2) fun n => Nat.beq n sz)) | _ => false)
 | .index len sz ag x' i' => (match o.op with | .index t x i => ZN G x x' && (ZN G i i' && Zfx (Zm2 P t) (fun q => Nat.beq q.1 len && (Zfx (ZeR P q.2) (fun n => Nat.beq n sz) && Zfx (ZfY P q.2) (fun b => b == ag)))) | _ => false)
 | .indexS x' i' => (match o.op with | .index t x i => ZN G x x' && (ZN G i i' && (match P.underlying t with | some .string => true | _ => false)) | _ => false)
 | .len y => (match o.op with | .call c => (match c.callee, c.args.toList, c.argTypes.toList with | .builtin .len, [x], [t] => ZN G x y && ZgS P t | _, _, _ => false) | _ => false)
 | .append sz x' y' => (match o.op with | .call c => (match c.callee, c.args.toList, c.argTypes.toList with | .builtin .append, [x, y], [t, t2] => ZN G x x' && (ZN G y y' && (ZgS P t2 && ZrB P t sz fun _ => true)) | _, _, _ => false) | _ => false)
 | .appendD sz x' y' => (match o.op with | .call c => (match c.callee, c.args.toList, c.argTypes.toList with | .builtin .append, [x, y], [t, t2] => ZN G x x' && (ZN G y y' && (ZgS P t2 && ZrB P t sz fun _ => true)) | _, _, _ => false) | _ => false)
 | .mx b ys => (match o.op with | .call c => (match c.callee with | .builtin .max => b && Zd9 G c.args.toList ys | .builtin .min => !b && Zd9 G c.args.toList ys | _ => false) | _ => false)
 | .extract y i => (match o.op with | .extract x j => ZN G x y && Nat.beq j i | _ => false)
 | .mkif t y => (match o.op with | .makeInterface t' x => Nat.beq t' t && (ZN G x y && P.concrete t) | _ => false)
 | .call f ys => (match o.op with | .call c => (match c.callee with | .value (.func f') => Nat.beq f' f && Zd9 G c.args.toList ys | _ => false) | _ => false)
 | .callv y ys => (match o.op with | .call c => (match c.callee with | .value x => ZN G x y && Zd9 G c.args.toList ys | _ => false) | _ => false)
 | .invoke tab y ys => (match o.op with | .call c => (match c.callee with | .invoke x name => ZN G x y && (Zd9 G c.args.toList ys && ZoW P name tab) | _ => false) | _ => false)
 | .panic => true
 | .nilq y => (match o.op with | .binOp .eql t x (.const (.slice none _ _)) _ => ZN G x y && ZgS P t | _ => false)
 | .spec _ _ => false
 | .callk f ys _ => (match o.op with | .call c => (match c.callee with | .value (.func f') => Nat.beq f' f && Zd9 G c.args.toList ys | _ => false) | _ => false)
 | .mkmap => (match o.op with | .makeMap t r => r.isNone | _ => false)
 | .mapset ks m' k' v' => (match o.op with | .mapUpdate t m k v => ZN G m m' && (ZN G k k' && (ZN G v v' && Zm1 P t ks none)) | _ => false)
 | .mapget ks z m' k' => (match o.op with | .lookup t m k ok => !ok && (ZN G m m' && (ZN G k k' && Zm1 P t ks (some z))) | _ => false)
section
variable {P : Program} {G : Zbr} {R : RP} {w : World} {e : Env} {a : Act} {Hm H' : Zk} {nid : Nat} {o : Oper}
theorem Zaf {v v' : V} {up : List (Nat × Blk)} {nw : List Blk} (h : ZcC v = some (v', up, nw)) : v = v' ∧ up = [] ∧ nw = [] := by
 unfold ZcC at h; cases h; exact ⟨rfl, rfl, rfl⟩
theorem ZrY (pre : Pre G R w e a Hm) {Γ : Ctx} {cf : Za9} (hcf : ZeN P G cf) {op : O} {v : V} {up : List (Nat × Blk)} {nw : List Blk} (hc : ZdZ P G o op = true) (h : opE Γ cf e nid Hm op = some (v, up, nw)) (hn : ∀ i, nid ≤ i → i < nid + nw.length → R.M i = none) (hp : Zaa R.H up nid nw H') :
  ZcX P o a w (ZZ R w nid nw.length H' v) := by
 cases op with
 | mov y =>
  obtain ⟨rfl, rfl, rfl⟩ := Zaf h
  simp only [ZdZ] at hc
  split at hc
  ·rename_i x hop; exact Zvf pre (.inl hop) hc hp
  ·rename_i x hop; exact Zvf pre (.inr hop) hc hp
  ·cases hc
 | pick c' x' y' =>
  simp only [ZdZ] at hc
  split at hc
  ·rename_i c x y hop
   simp only [Bool.and_eq_true] at hc
   simp only [opE] at h
   split at h
   ·rename_i t ht
    obtain ⟨rfl, rfl, rfl⟩ := Zaf h
    exact ZvW pre hop hc.1 hc.2.1 hc.2.2 ht hp
   ·cases h
  ·cases hc
 | alloc z =>
  simp only [ZdZ] at hc
  split at hc
  ·rename_i t hop
   simp only [Bool.and_eq_true] at hc
   obtain ⟨zv, h1, h2⟩ := ZaH hc.2
   simp only [opE, Option.some.injEq, Prod.mk.injEq] at h
   obtain ⟨rfl, rfl, rfl⟩ := h
   exact ZtL pre hop h1 h2 hc.1 (hn nid (Nat.le_refl _) (by simp)) hp
  ·cases hc
 | box y =>
  simp only [ZdZ] at hc
  split at hc
  ·rename_i t x hop
   simp only [opE] at h
   cases hb : (y.val e).okb with
   | false => rw [hb] at h; cases h
   | true =>
    rw [hb] at h
    simp only [cond_true, Option.some.injEq, Prod.mk.injEq] at h
    obtain ⟨rfl, rfl, rfl⟩ := h
    exact Zzi pre hop hc hb (hn nid (Nat.le_refl _) (by simp)) hp
  ·cases hc
 | build z ps =>
  simp only [ZdZ] at hc
  split at hc
  ·rename_i t parts hop
   obtain ⟨place, h1, hc⟩ := ZaH hc
   obtain ⟨zv, h2, hc⟩ := ZaH hc
   simp only [Bool.and_eq_true] at hc
   simp only [opE] at h
   split at h
   ·rename_i cs hf
    obtain ⟨rfl, rfl, rfl⟩ := Zaf h
    exact Zud pre hop h1 h2 hc.1 hc.2 hf hp
   ·cases h
  ·cases hc
 | bslice sz z len ps =>
  simp only [ZdZ] at hc
  split at hc
  ·rename_i t l parts hop
   simp only [Bool.and_eq_true, Nat.ble_eq] at hc
   obtain ⟨c1, ⟨c0, c2⟩, c3, c4⟩ := hc
   obtain rfl := Nat.eq_of_beq_eq_true c1
   obtain ⟨el, i, zv, he, hz⟩ := ZiZ c4
   simp only [Bool.and_eq_true] at hz
   simp only [opE] at h
   cases hl : Nat.beq l 0 with
   | true =>
    rw [hl] at h
    obtain rfl := Nat.eq_of_beq_eq_true hl
    obtain ⟨rfl, rfl, rfl⟩ := Zaf h
    exact Zrc pre hop he (Array.isEmpty_iff.1 (by simpa using c0)) hp
   | false =>
    rw [hl] at h
    simp only [cond_false] at h
    split at h
    ·rename_i xs ks hf
     simp only [Option.some.injEq, Prod.mk.injEq] at h
     obtain ⟨rfl, rfl, rfl⟩ := h
     exact Zsq pre hop he hz.1 hz.2 (fun h0 => by subst h0; cases hl) c3 c2 hf (hn nid (Nat.le_refl _) (by simp)) hp
    ·cases h
  ·cases hc
 | load n ag y =>
  simp only [ZdZ] at hc
  split at hc
  ·rename_i t x hop
   simp only [Bool.and_eq_true] at hc
   obtain ⟨b, h1, h2⟩ := ZaH hc.2.1
   obtain ⟨m, h3, h4⟩ := ZaH hc.2.2
   obtain rfl := Nat.eq_of_beq_eq_true h4
   obtain rfl : b = ag := by simpa using h2
   simp only [opE] at h
   split at h
   ·rename_i v' hl
    obtain ⟨rfl, rfl, rfl⟩ := Zaf h
    exact Zv9 pre hop hc.1 h1 h3 hl hp
   ·cases h
  ·cases hc
 | store n x' y' =>
  simp only [ZdZ] at hc
  split at hc
  ·rename_i t x y hop
   simp only [Bool.and_eq_true] at hc
   obtain ⟨m, h3, h4⟩ := ZaH hc.2.2
   obtain rfl := Nat.eq_of_beq_eq_true h4
   simp only [opE] at h
   exact Zuh pre hop hc.1 hc.2.1 h3 h hp
  ·cases hc
 | nilck y =>
  simp only [ZdZ] at hc
  split at hc
  ·rename_i x hop
   simp only [opE] at h
   split at h
   ·rename_i v' hl
    obtain ⟨rfl, rfl, rfl⟩ := Zaf h
    exact Zur pre hop hc hl hp
   ·cases h
  ·cases hc
 | bin b x' y' =>
  simp only [ZdZ] at hc
  split at hc
  ·rename_i b' t x y t' hop
   simp only [Bool.and_eq_true, decide_eq_true_eq] at hc
   obtain ⟨rfl, c1, c2⟩ := hc
   simp only [opE] at h
   split at h
   ·rename_i v' hl
    obtain ⟨rfl, rfl, rfl⟩ := Zaf h
    exact ZzP pre hop c1 c2 hl hp
   ·cases h
  ·cases hc
 | eqv ks neg x' y' =>
  simp only [ZdZ] at hc
  split at hc
  ·rename_i b t x y t' hop
   simp only [Bool.and_eq_true, decide_eq_true_eq] at hc
   obtain ⟨rfl, c1, c2, c3⟩ := hc
   obtain ⟨l, h1, h2⟩ := ZaH c3
   obtain rfl : l = ks := by simpa using h2
   simp only [opE] at h
   split at h
   ·rename_i d1 d2 e1 e2
    split at h
    ·rename_i hk
     split at h
     ·rename_i r hr
      obtain ⟨rfl, rfl, rfl⟩ := Zaf h
      exact ZzA pre hop c1 c2 h1 e1 e2 hk hr hp
     ·cases h
    ·cases h
   ·cases h
  ·cases hc
 | un b y =>
  simp only [ZdZ] at hc
  split at hc
  ·rename_i b' t x hop
   simp only [Bool.and_eq_true, decide_eq_true_eq] at hc
   obtain ⟨rfl, c1⟩ := hc
   simp only [opE] at h
   split at h
   ·rename_i v' hl
    obtain ⟨rfl, rfl, rfl⟩ := Zaf h
    exact ZBi pre hop c1 hl hp
   ·cases h
  ·cases hc
 | conv k y =>
  simp only [ZdZ] at hc
  split at hc
  ·rename_i s t x hop
   simp only [Bool.and_eq_true] at hc
   obtain ⟨c1, c2, c3⟩ := hc
   obtain ⟨ds, hds⟩ := Option.isSome_iff_exists.1 c2
   split at c3
   ·rename_i k' hk
    simp only [decide_eq_true_eq] at c3
    subst c3
    simp only [opE] at h
    split at h
    ·rename_i k0 n hv
     obtain ⟨rfl, rfl, rfl⟩ := Zaf h
     exact ZvZ pre hop c1 hds hk hv hp
    ·cases h
   ·cases c3
  ·cases hc
 | mkfn f ys =>
  simp only [ZdZ] at hc
  split at hc
  ·rename_i f' first caps hop
   simp only [Bool.and_eq_true] at hc
   obtain ⟨c1, c2, c3⟩ := hc
   obtain rfl := Nat.eq_of_beq_eq_true c1
   simp only [opE] at h
   obtain ⟨rfl, rfl, rfl⟩ := Zaf h
   have := ZwD (P := P) pre hop (Array.isEmpty_iff.1 c2) c3 hp
   cases ys <;> exact this
  ·cases hc
 | mkslice sz z x' y' =>
  simp only [ZdZ] at hc
  split at hc
  ·rename_i t x y hop
   simp only [Bool.and_eq_true] at hc
   obtain ⟨c1, c2, c3⟩ := hc
   obtain ⟨el, i, zv, he, hz⟩ := ZiZ c3
   simp only [Bool.and_eq_true] at hz
   simp only [opE] at h
   split at h
   ·rename_i k1 n k2 m e1 e2
    cases hb : (decide (0 ≤ n) && decide (n ≤ lim) && decide (n == m)) with
    | false => rw [hb] at h; cases h
    | true =>
     rw [hb] at h
     simp only [cond_true, Option.some.injEq, Prod.mk.injEq] at h
     obtain ⟨rfl, rfl, rfl⟩ := h
     simp only [Bool.and_eq_true, decide_eq_true_eq, beq_iff_eq] at hb
     obtain ⟨⟨b1, b2⟩, rfl⟩ := hb
     exact Zrt pre hop he hz.1 hz.2 c1 c2 e1 e2 b1 b2 (hn nid (Nat.le_refl _) (by simp)) hp
   ·cases h
  ·cases hc
 | slice sz y lo' hi' mx' =>
  simp only [ZdZ] at hc
  split at hc
  ·rename_i t x lo hi mx hop
   simp only [Bool.and_eq_true] at hc
   obtain ⟨c1, c2, c3, c4, c5, c6⟩ := hc
   obtain ⟨el, h1, h2⟩ := ZaH c6
   obtain ⟨n, h3, h4⟩ := ZaH h2
   obtain rfl := Nat.eq_of_beq_eq_true h4
   simp only [opE] at h
   split at h
   ·rename_i v' hl
    obtain ⟨rfl, rfl, rfl⟩ := Zaf h
    exact ZtU pre hop c1 c2 c3 c4 (fun hm => by cases mx' <;> simp_all) h1 h3 hl hp
   ·cases h
  ·cases hc
 | faddr off y =>
  simp only [ZdZ] at hc
  split at hc
  ·rename_i s x f hop
   simp only [Bool.and_eq_true] at hc
   obtain ⟨⟨off', t⟩, h1, h2⟩ := ZaH hc.2
   simp only [Bool.and_eq_true] at h2
   obtain ⟨n, h3, h4⟩ := ZaH h2.2
   obtain rfl := Nat.eq_of_beq_eq_true h2.1
   simp only [opE] at h
   split at h
   ·rename_i v' hl
    obtain ⟨rfl, rfl, rfl⟩ := Zaf h
    exact ZuK pre hop hc.1 h1 h3 (fun h0 => by subst h0; cases h4) hl hp
   ·cases h
  ·cases hc
 | field off n ag y =>
  simp only [ZdZ] at hc
  split at hc
  ·rename_i s x f hop
   simp only [Bool.and_eq_true] at hc
   obtain ⟨⟨off', t⟩, h1, h2⟩ := ZaH hc.2
   simp only [Bool.and_eq_true] at h2
   obtain ⟨m, h3, h4⟩ := ZaH h2.2.1
   obtain ⟨b, h5, h6⟩ := ZaH h2.2.2
   obtain rfl := Nat.eq_of_beq_eq_true h2.1
   obtain rfl := Nat.eq_of_beq_eq_true h4
   obtain rfl : b = ag := by simpa using h6
   simp only [opE] at h
   split at h
   ·rename_i cs hy
    split at h
    ·rename_i v' hl
     obtain ⟨rfl, rfl, rfl⟩ := Zaf h
     exact Zqu pre hop hc.1 h1 h5 h3 (.inl ⟨cs, hy, hl⟩) hp
    ·cases h
   ·rename_i cs hy
    split at h
    ·rename_i v' hl
     obtain ⟨rfl, rfl, rfl⟩ := Zaf h
     exact Zqu pre hop hc.1 h1 h5 h3 (.inr ⟨cs, hy, hl⟩) hp
    ·cases h
   ·cases h
  ·cases hc
 | iaddr sz x' i' =>
  simp only [ZdZ] at hc
  split at hc
  ·rename_i t x i hop
   simp only [Bool.and_eq_true] at hc
   obtain ⟨c1, c2, c3⟩ := hc
   obtain ⟨el, h1, h2⟩ := ZaH c3
   obtain ⟨n, h3, h4⟩ := ZaH h2
   obtain rfl := Nat.eq_of_beq_eq_true h4
   simp only [opE] at h
   split at h
   ·rename_i v' hl
    obtain ⟨rfl, rfl, rfl⟩ := Zaf h
    exact Zun pre hop c1 c2 h1 h3 hl hp
   ·cases h
  ·cases hc
 | iaddrA len sz x' i' =>
  simp only [ZdZ] at hc
  split at hc
  ·rename_i t x i hop
   simp only [Bool.and_eq_true] at hc
   obtain ⟨c1, c2, c3⟩ := hc
   obtain ⟨⟨len', el⟩, h1, h2⟩ := ZaH c3
   simp only [Bool.and_eq_true] at h2
   obtain ⟨n, h3, h4⟩ := ZaH h2.2
   obtain rfl := Nat.eq_of_beq_eq_true h4
   obtain rfl := Nat.eq_of_beq_eq_true h2.1
   simp only [opE] at h
   split at h
   ·rename_i v' hl
    obtain ⟨rfl, rfl, rfl⟩ := Zaf h
    exact Ztr pre hop c1 c2 h1 h3 hl hp
   ·cases h
  ·cases hc
 | indexS x' i' =>
  simp only [ZdZ] at hc
  split at hc
  ·rename_i t x i hop
   simp only [Bool.and_eq_true] at hc
   obtain ⟨c1, c2, c3⟩ := hc
   split at c3
   ·rename_i hu
    simp only [opE] at h
    split at h
    ·rename_i v' hl
     obtain ⟨rfl, rfl, rfl⟩ := Zaf h
     exact ZtG pre hop c1 c2 hu hl hp
    ·cases h
   ·cases c3
  ·cases hc
 | len y =>
  simp only [ZdZ] at hc
  split at hc
  ·rename_i c hop
   obtain ⟨callee, args, ats⟩ := c
   dsimp only at hc
   split at hc
   ·rename_i x t hargs hats
    simp only [Bool.and_eq_true] at hc
    have e1 : args = #[x] := by apply Array.ext'; simpa using hargs
    have e2 : ats = #[t] := by apply Array.ext'; simpa using hats
    subst e1; subst e2
    obtain ⟨el, hel⟩ : ∃ el, Zla P t = some el := by
     have := hc.2
     unfold ZgS at this; unfold Zla
     split at this
     ·rename_i el hu; rw [hu]; exact ⟨el, rfl⟩
     ·cases this
    simp only [opE] at h
    split at h
    ·rename_i v' hl
     obtain ⟨rfl, rfl, rfl⟩ := Zaf h
     exact Zxe pre hop hc.1 hel hl hp
    ·cases h
   ·cases hc
  ·cases hc
 | append sz x' y' =>
  simp only [ZdZ] at hc
  split at hc
  ·rename_i c hop
   obtain ⟨callee, args, ats⟩ := c
   dsimp only at hc
   split at hc
   ·rename_i x y t t2 hargs hats
    simp only [Bool.and_eq_true] at hc
    obtain ⟨c1, c2, c3, c4⟩ := hc
    have e1 : args = #[x, y] := by apply Array.ext'; simpa using hargs
    have e2 : ats = #[t, t2] := by apply Array.ext'; simpa using hats
    subst e1; subst e2
    obtain ⟨el, i, zv, he, _⟩ := ZiZ c4
    obtain ⟨el2, hel⟩ : ∃ el2, P.underlying t2 = some (.slice el2) := by
     unfold ZgS at c3
     split at c3
     ·rename_i el hu; exact ⟨el, hu⟩
     ·cases c3
    simp only [opE] at h
    exact ZrT pre hop he hel c1 c2 h hn hp
   ·cases hc
  ·cases hc
 | appendD sz x' y' =>
  simp only [ZdZ] at hc
  split at hc
  ·rename_i c hop
   obtain ⟨callee, args, ats⟩ := c
   dsimp only at hc
   split at hc
   ·rename_i x y t t2 hargs hats
    simp only [Bool.and_eq_true] at hc
    obtain ⟨c1, c2, c3, c4⟩ := hc
    have e1 : args = #[x, y] := by apply Array.ext'; simpa using hargs
    have e2 : ats = #[t, t2] := by apply Array.ext'; simpa using hats
    subst e1; subst e2
    obtain ⟨el, i, zv, he, _⟩ := ZiZ c4
    obtain ⟨el2, hel⟩ : ∃ el2, P.underlying t2 = some (.slice el2) := by
     unfold ZgS at c3
     split at c3
     ·rename_i el hu; exact ⟨el, hu⟩
     ·cases c3
    simp only [opE] at h
    split at h
    ·rename_i v' hv'
     obtain ⟨rfl, rfl, rfl⟩ := Zaf h
     exact ZqV pre hop he hel c1 c2 hv' hp
    ·cases h
   ·cases hc
  ·cases hc
 | mx b ys =>
  simp only [ZdZ] at hc
  split at hc
  ·rename_i c hop
   obtain ⟨callee, args, ats⟩ := c
   dsimp only at hc
   simp only [opE] at h
   split at h
   ·rename_i r hr
    obtain ⟨rfl, rfl, rfl⟩ := Zaf h
    split at hc
    ·simp only [Bool.and_eq_true] at hc
     obtain ⟨rfl, c2⟩ := hc
     exact Zzl pre (b := true) hop c2 hr hp
    ·simp only [Bool.and_eq_true, Bool.not_eq_true'] at hc
     obtain ⟨rfl, c2⟩ := hc
     exact Zzl pre (b := false) hop c2 hr hp
    ·cases hc
   ·cases h
  ·cases hc
 | extract y i =>
  simp only [ZdZ] at hc
  split at hc
  ·rename_i x j hop
   simp only [Bool.and_eq_true] at hc
   obtain rfl := Nat.eq_of_beq_eq_true hc.2
   simp only [opE] at h
   split at h
   ·rename_i vs hy
    split at h
    ·rename_i v' hl
     obtain ⟨rfl, rfl, rfl⟩ := Zaf h
     exact Znp pre hop hc.1 (.inl ⟨vs, hy, hl⟩) hp
    ·cases h
   ·rename_i vs hy
    split at h
    ·rename_i v' hl
     obtain ⟨rfl, rfl, rfl⟩ := Zaf h
     exact Znp pre hop hc.1 (.inr ⟨vs, v', hy, hl, rfl⟩) hp
    ·cases h
   ·cases h
  ·cases hc
 | mkif t y =>
  simp only [ZdZ] at hc
  split at hc
  ·rename_i t' x hop
   simp only [Bool.and_eq_true] at hc
   obtain rfl := Nat.eq_of_beq_eq_true hc.1
   simp only [opE] at h
   split at h
   ·rename_i z hf
    obtain ⟨rfl, rfl, rfl⟩ := Zaf h
    exact Zw1 pre hop hc.2.1 hc.2.2 hf hp
   ·cases h
  ·cases hc
 | call f ys =>
  simp only [ZdZ] at hc
  split at hc
  ·rename_i c hop
   obtain ⟨callee, args, ats⟩ := c
   dsimp only at hc
   split at hc
   ·simp only [Bool.and_eq_true] at hc
    obtain rfl := Nat.eq_of_beq_eq_true hc.1
    simp only [opE] at h
    exact Zs3 pre hcf hop hc.2 h hn hp
   ·cases hc
  ·cases hc
 | callv y ys =>
  simp only [ZdZ] at hc
  split at hc
  ·rename_i c hop
   obtain ⟨callee, args, ats⟩ := c
   dsimp only at hc
   split at hc
   ·simp only [Bool.and_eq_true] at hc
    rw [Zfk] at h
    split at h
    ·rename_i f caps hcaps
     split at h
     ·cases h
     ·rename_i hbad
      exact Zul pre hcf hop hc.2 hc.1 hcaps hbad h hn hp
    ·cases h
   ·cases hc
  ·cases hc
 | index len sz ag x' i' =>
  simp only [ZdZ] at hc
  split at hc
  ·rename_i t x i hop
   simp only [Bool.and_eq_true] at hc
   obtain ⟨c1, c2, c3⟩ := hc
   obtain ⟨⟨len', el⟩, h1, h2⟩ := ZaH c3
   simp only [Bool.and_eq_true] at h2
   obtain ⟨n, h3, h4⟩ := ZaH h2.2.1
   obtain ⟨b, h5, h6⟩ := ZaH h2.2.2
   obtain rfl := Nat.eq_of_beq_eq_true h4
   obtain rfl := Nat.eq_of_beq_eq_true h2.1
   obtain rfl : b = ag := by simpa using h6
   simp only [opE] at h
   split at h
   ·rename_i v' hl
    obtain ⟨rfl, rfl, rfl⟩ := Zaf h
    exact Zuf pre hop c1 c2 h1 h5 h3 hl hp
   ·cases h
  ·cases hc
 | invoke tab y ys =>
  simp only [ZdZ] at hc
  split at hc
  ·rename_i c hop
   obtain ⟨callee, args, ats⟩ := c
   dsimp only at hc
   split at hc
   ·simp only [Bool.and_eq_true] at hc
    rw [ZeK] at h
    split at h
    ·rename_i t z hval
     split at h
     ·rename_i f hl
      exact Zto pre hcf hop hc.1 hc.2.1 hc.2.2 hval hl h hn hp
     ·cases h
    ·cases h
   ·cases hc
  ·cases hc
 | panic => cases h
 | spec id args => cases hc
 | nilq y =>
  simp only [ZdZ] at hc
  split at hc
  ·rename_i t x n1 n2 t' hop
   simp only [Bool.and_eq_true] at hc
   simp only [opE] at h
   split at h
   ·rename_i xs hxs
    split at h
    ·rename_i hb
     obtain ⟨rfl, rfl, rfl⟩ := Zaf h
     have hl : 0 < xs.length := by have := hb; simp [Nat.blt] at this; omega
     unfold ZgS at hc
     obtain ⟨c1, c2⟩ := hc
     split at c2
     ·rename_i el hu
      obtain ⟨ad, cap, hval⟩ := ZpP pre (pre.opd c1) hxs hl
      refine ZbL (s := do eqGuard .eql t x (.const (.slice none n1 n2)) (a.eval x) (.slice none n1 n2); binOp .eql t (a.eval x) (.slice none n1 n2)) (u := .bool false) (by unfold execOp; rw [hop]; rfl) ?_ (ZZ.stay pre.ok hp rfl)
      rw [hval]
      have hq : (Op.equalIn 10000 t (.slice (some ad) xs.length cap) (.slice none n1 n2)).run P w = .ok false w := by
       show (Op.equalIn (9999 + 1) t (.slice (some ad) xs.length cap) (.slice none n1 n2)).run P w = .ok false w
       rw [Op.equalIn]
       simp only [Sem.run_bind, run_underlying hu, Result.andThen_ok]
       rfl
      simp [eqGuard, binOp, Op.equal, Op.maxDepth, hq]
     ·cases c2
    ·cases h
   ·cases h
  ·cases hc
 | callk f ys chk =>
  simp only [ZdZ] at hc
  split at hc
  ·rename_i c hop
   obtain ⟨callee, args, ats⟩ := c
   dsimp only at hc
   split at hc
   ·simp only [Bool.and_eq_true] at hc
    obtain rfl := Nat.eq_of_beq_eq_true hc.1
    simp only [opE] at h
    exact Zs3 pre hcf hop hc.2 h hn hp
   ·cases hc
  ·cases hc
 | mkmap =>
  simp only [ZdZ] at hc
  split at hc
  ·rename_i t r hop
   simp only [opE, Option.some.injEq, Prod.mk.injEq] at h
   obtain ⟨rfl, rfl, rfl⟩ := h
   exact Zue pre hop (by simpa using hc) (hn nid (Nat.le_refl _) (by simp)) hp
  ·cases hc
 | mapset ks m' k' v' =>
  simp only [ZdZ] at hc
  split at hc
  ·rename_i t m k v hop
   simp only [Bool.and_eq_true] at hc
   obtain ⟨c1, c2, c3, c4⟩ := hc
   simp only [opE] at h
   exact Zr5 pre hop c1 c2 c3 c4 h hp
  ·cases hc
 | mapget ks z m' k' =>
  simp only [ZdZ] at hc
  split at hc
  ·rename_i t m k ok hop
   simp only [Bool.and_eq_true, Bool.not_eq_true'] at hc
   obtain ⟨c0, c1, c2, c3⟩ := hc
   subst c0
   simp only [opE] at h
   cases hr : ZiX Hm ks z (m'.val e) (k'.val e) with
   | none => rw [hr] at h; cases h
   | some r =>
    rw [hr] at h
    obtain ⟨rfl, rfl, rfl⟩ := Zaf h
    exact Zs8 pre hop c1 c2 c3 hr hp
  ·cases hc
end
end Go.Proofs.YtnmbdjkbaihicaaDoorE
namespace Go.Proofs.YtnmbdjkbaihicaaDoorE
open Go
set_option linter.unusedVariables false
set_option linter.unusedSimpArgs false
structure Sim (N : Nat) (Rf : RP) (wf : World) (e : Env) (H : Zk) (a : Act) (w : World) : Prop where
 ex : ∃ R, Ext Rf wf R w ∧ R.OK w ∧ R.H = H ∧ (∀ i, H.length ≤ i → R.M i = none) ∧ Zf2 R w e a
 tm : N ≤ a.tmps.size
 df : a.defers = []
 hl : Rf.H.length ≤ H.length
structure ZjQ (P : Program) (G : Zbr) (cf : Za9) (Rf : RP) (wf : World) : Prop where
 cf : ZeN P G cf
 ok : Rf.OK wf
 g : GOK G Rf wf
 m : ∀ i, Rf.H.length ≤ i → Rf.M i = none
section
variable {P : Program} {G : Zbr} {N : Nat} {Rf : RP} {wf : World} {e e' : Env} {H H' : Zk} {a : Act} {w : World} {Γ : Ctx} {cf : Za9}
theorem Zf2.put {R : RP} (h : Zf2 R w e a) {d : Nat} (hd : d < a.tmps.size) {v : V} {u : Value} (hv : ZaP R w v u) : Zf2 R w (e.set d v) (a.put (some d) u) := by
 intro t
 unfold Env.set
 cases hb : Nat.beq d t with
 | true =>
  obtain rfl := Nat.eq_of_beq_eq_true hb
  simp only [cond_true]
  have : (a.put (some d) u).tmps.getD d undef = u := by simp [Act.put, Array.getD_eq_getD_getElem?, hd]
  rw [this]; exact hv
 | false =>
  simp only [cond_false]
  have hne : d ≠ t := fun h => by subst h; rw [Nat.beq_refl] at hb; cases hb
  have : (a.put (some d) u).tmps.getD t undef = a.tmps.getD t undef := by simp [Act.put, Array.getD_eq_getD_getElem?, Array.getElem?_setIfInBounds_ne hne]
  rw [this]; exact h t
def Zsb (N : Nat) : Option Tmp → Option Nat → Bool
 | none, none => true
 | some i, some j => Nat.beq i j && Nat.blt i N
 | _, _ => false
def Zn4 (ops : Array Oper) : Option (Nat × Bool) → Option (Nat × Bool) → Bool
 | none, none => true
 | some (j, b), some (s, b') => b == b' && (match (ops[j]?).bind (·.dst) with | some d => Nat.beq d s | none => false)
 | _, _ => false
def Zl2 (P : Program) (G : Zbr) (N : Nat) (ops : Array Oper) (o : Oper) (p : Op1) : Bool := Zsb N o.dst p.dst && (Zn4 ops o.guard p.guard && ZdZ P G o p.op)
def ZmB (P : Program) (G : Zbr) (N : Nat) (ops : Array Oper) : List Oper → List Op1 → Bool
 | [], [] => true
 | o :: os, p :: ps => Zl2 P G N ops o p && ZmB P G N ops os ps
 | _, _ => false
theorem Zo8 {R : RP} (h : Zf2 R w e a) {ops : Array Oper} {o : Oper} {g : Option (Nat × Bool)} (hg : Zn4 ops o.guard g = true) {b : Bool} (hw : ZeE e g = some b) : Region.wanted o (yielded ops a.tmps) = b := by
 unfold ZeE at hw
 unfold Region.wanted
 cases ho : o.guard with
 | none =>
  rw [ho] at hg
  cases g with
  | some q => cases hg
  | none => simp at hw; rw [← hw]
 | some q =>
  obtain ⟨j, bj⟩ := q
  rw [ho] at hg
  cases g with
  | none => cases hg
  | some q =>
   obtain ⟨s, b'⟩ := q
   simp only [Zn4, Bool.and_eq_true] at hg
   obtain ⟨h1, h2⟩ := hg
   obtain rfl : bj = b' := by simpa using h1
   split at h2
   ·rename_i d hd
    obtain rfl := Nat.eq_of_beq_eq_true h2
    have hen := h d
    dsimp only at hw ⊢
    unfold yielded
    rw [hd]
    simp only [Option.bind_some]
    split at hw
    ·rename_i t ht
     rw [ht] at hen
     have hen' := Zq7 hen
     rw [Array.getD_eq_getD_getElem?] at hen'
     cases hv : a.tmps[d]? with
     | none => rw [hv] at hen'; cases hen'
     | some u =>
      rw [hv] at hen'
      simp only [Option.getD_some] at hen'
      subst hen'
      simp only [Option.some.injEq] at hw
      rw [← hw]
      cases t <;> cases bj <;> rfl
    ·rename_i ht
     rw [ht] at hen
     obtain ⟨us, h3, h4⟩ := hen
     simp only [ZaI] at h4
     subst h4
     rw [Array.getD_eq_getD_getElem?] at h3
     simp only [Option.some.injEq] at hw
     subst hw
     cases hv : a.tmps[d]? with
     | none => rfl
     | some u =>
      rw [hv] at h3
      simp only [Option.getD_some] at h3
      subst h3
      rfl
    ·cases hw
   ·cases h2
theorem Zip : ∀ (up : List (Nat × Blk)) (H : Zk), (ZdC H up).length = H.length
 | [], H => rfl
 | (b, blk) :: r, H => by rw [ZdC, Zip r, ZbI, List.length_set]
theorem Zmx (H : Zk) (up : List (Nat × Blk)) (nw : List Blk) : Zaa H up H.length nw (ZdC H up ++ nw) := by
 intro i
 have hl := Zip up H
 by_cases h1 : i < H.length
 ·rw [if_neg (by omega), List.getElem?_append_left (by omega)]
 ·rw [List.getElem?_append_right (by omega), hl]
  by_cases h2 : i < H.length + nw.length
  ·rw [if_pos (by omega)]
  ·rw [if_neg (by omega), List.getElem?_eq_none (by omega), List.getElem?_eq_none (by omega)]
theorem ZmM {R : RP} : ZaP R w (.d (.tup [])) undef := ⟨[], rfl, rfl⟩
theorem Zp4 {d : Option Tmp} {u : Value} : (a.put d u).tmps.size = a.tmps.size := by cases d <;> simp [Act.put]
theorem Zp1 {d : Option Tmp} {u : Value} : (a.put d u).defers = a.defers := by cases d <;> rfl
theorem ZnK {R : RP} (h : Zf2 R w e a) {d : Option Tmp} {d' : Option Nat} (hd : Zsb N d d' = true) (hN : N ≤ a.tmps.size) {v : V} {u : Value} (hv : ZaP R w v u) : Zf2 R w (Zlx e d' v) (a.put d u) := by
 cases d with
 | none =>
  cases d' with
  | none => exact h
  | some j => cases hd
 | some i =>
  cases d' with
  | none => cases hd
  | some j =>
   simp only [Zsb, Bool.and_eq_true] at hd
   obtain rfl := Nat.eq_of_beq_eq_true hd.1
   refine h.put ?_ hv
   have := hd.2; simp [Nat.blt] at this; omega
theorem Zpn (c : ZjQ P G cf Rf wf) {ops : Array Oper} {Q : Exit → Act → World → Prop} : ∀ (os : List Oper) (ps : List Op1) (e : Env) (H : Zk) (a : Act) (w : World), ZmB P G N ops os ps = true → Zgs Γ cf ps e H = some (e', H') → Sim N Rf wf e H a w →
  (∀ a w, Sim N Rf wf e' H' a w → Q .normal a w) → wpList P ops Q os a w
 | [], [], e, H, a, w, _, h, s, hQ => by
  simp only [Zgs, Option.some.injEq, Prod.mk.injEq] at h
  obtain ⟨rfl, rfl⟩ := h
  exact hQ a w s
 | [], _ :: _, e, H, a, w, hk, _, _, _ => by cases hk
 | _ :: _, [], e, H, a, w, hk, _, _, _ => by cases hk
 | o :: os, p :: ps, e, H, a, w, hk, h, s, hQ => by
  simp only [ZmB, Zl2, Bool.and_eq_true] at hk
  obtain ⟨⟨k1, k2, k3⟩, k4⟩ := hk
  obtain ⟨R, x, ok, hH, hM, hE⟩ := s.ex
  simp only [Zgs] at h
  cases hw : ZeE e p.guard with
  | none => rw [hw] at h; cases h
  | some b =>
   have hwant := Zo8 (a := a) hE k2 hw
   rw [hw] at h
   cases b with
   | false =>
    dsimp only at h
    unfold wpList
    rw [hwant]
    simp only [Bool.false_eq_true, if_false]
    refine Zpn c os ps _ H (a.put o.dst undef) w k4 h ⟨⟨R, x, ok, hH, hM, ZnK hE k1 s.tm ZmM⟩, by rw [Zp4]; exact s.tm, by rw [Zp1]; exact s.df, s.hl⟩ hQ
   | true =>
    dsimp only at h
    cases ho : opE Γ cf e H.length H p.op with
    | none => rw [ho] at h; cases h
    | some q =>
     obtain ⟨v, up, nw⟩ := q
     rw [ho] at h
     dsimp only at h
     unfold wpList
     rw [hwant]
     simp only [if_true]
     have pre : Pre G R w e a H := ⟨ok, x.gok c.ok.b01 c.g, hE, fun b blk hb _ => by rw [hH]; exact hb⟩
     have hp : Zaa R.H up H.length nw (ZdC H up ++ nw) := by rw [hH]; exact Zmx H up nw
     refine .inl ((ZrY pre c.cf k3 ho (fun i h1 _ => hM i h1) hp).wp fun u w' hpost => ?_)
     obtain ⟨R', x', ok', hH', hv, hM'⟩ := hpost
     refine Zpn c os ps _ _ (a.put o.dst u) w' k4 h ⟨⟨R', x.trans x', ok', hH', fun i hi => ?_, ZnK (x'.envOK ok.b01 hE) k1 s.tm hv⟩, by rw [Zp4]; exact s.tm, by rw [Zp1]; exact s.df, ?_⟩ hQ
     ·rw [List.length_append, Zip] at hi
      exact hM' i (hM i (by omega)) (by omega)
     ·rw [List.length_append, Zip]
      have := s.hl; omega
theorem ZiW (c : ZjQ P G cf Rf wf) {vs : List V} {L : List Nat} {vs' : List V} {H1 : Zk} {R : RP} (x : Ext Rf wf R w) (ok : R.OK w) (hH : R.H = H) (hM : ∀ i, H.length ≤ i → R.M i = none) (hl : Rf.H.length ≤ H.length) (hx : extract Rf.H.length vs H = some (L, vs', H1)) :
  ∃ R1, Ext Rf wf R1 w ∧ R1.OK w ∧ R1.H = H1 ∧ (∀ i, H1.length ≤ i → R1.M i = none) ∧ (∀ us, Zay R w vs us → Zay R1 w vs' us) ∧ Rf.H.length ≤ H1.length := by
 have hL := Zkc hx
 have le : ∀ b blk, nth H b = some blk → blk ≠ .dead → nth R.H b = some blk := fun b blk h _ => by rw [hH]; exact h
 have at' : ∀ (j : Nat) blk, H1[j]? = some blk → blk ≠ .dead → ∃ b blk0, L[j]? = some b ∧ R.H[b]? = some blk0 ∧ blk0 ≠ .dead ∧ blk = Zgc (fun b => idx L b 0) blk0 := by
  intro j blk h hd
  rw [hL.h, ZmI] at h
  cases hb : L[j]? with
  | none => rw [hb] at h; cases h
  | some b =>
   rw [hb] at h
   simp only [Option.map_some, Option.some.injEq] at h
   split at h
   ·rename_i blk0 h0
    exact ⟨b, blk0, rfl, by rw [hH, ← ZX]; exact h0, fun e => hd (by rw [← h, Zeu]; exact e), h.symm⟩
   ·exact absurd h.symm hd
 let R1 : RP := { R with M := Zdk R L, H := H1 }
 have lv : ∀ c, R1.live c → R.live c := by
  rintro c ⟨j, h1, h2⟩
  obtain ⟨blk, g1, g2⟩ := Zv.1 h1
  obtain ⟨b, blk0, e1, e2, e3, e4⟩ := at' j blk g1 g2
  have h2' : Zdk R L j = some (some c) := h2
  rw [ZbZ e1] at h2'
  exact ⟨b, Zv.2 ⟨blk0, e2, e3⟩, h2'⟩
 have den : ∀ x u, R.den w x u → R1.den w x u := fun x u h =>
  ZaW.change _ _ _ _ (fun b _ h => ⟨fun hl => h.1 (lv b hl), h.2⟩) (fun b _ h => ⟨fun hl => h.1 (lv b hl), h.2⟩) (fun b _ h hl => h (lv b hl)) (fun _ _ _ => rfl) (Nat.le_refl _) (fun _ h => h.1) (fun _ h => h.1) x u h
 have ren : Ren R R1 (fun b => idx L b 0) := by
  refine ⟨fun b j m hj hm => ?_, fun b j m blk hj hm hb hd => ?_⟩
  ·show Zdk R L j = some m
   rw [ZbZ (ZtQ hj)]; exact hm
  ·obtain ⟨b', blk0, e1, e2, e3, e4⟩ := at' j blk hb hd
   rw [ZtQ hj] at e1; cases e1
   refine ⟨blk0, e2, ?_⟩
   rw [e4, Zge]
   exact Blk.like_refl e3
 have hlen : H1.length = L.length := by rw [hL.h, Zgo]
 have hkL : Rf.H.length ≤ L.length := by
  rcases Nat.eq_zero_or_pos Rf.H.length with h | h
  ·omega
  ·have := hL.pre (Rf.H.length - 1) (by omega)
   have := (List.getElem?_eq_some_iff.1 this).1
   omega
 have e1 : Ext Rf wf R1 w := by
  refine ⟨?_, ?_, x.b1, x.b0, x.same, x.row, x.grow, ?_, x.os, x.tape, x.output⟩
  ·intro i m hm
   have hi : i < Rf.H.length := by
    rcases Nat.lt_or_ge i Rf.H.length with h | h
    ·exact h
    ·rw [c.m i h] at hm; cases hm
   show Zdk R L i = some m
   rw [ZbZ (hL.pre i hi)]
   exact x.m i m hm
  ·intro i m blk hm hi hd
   have hik : i < Rf.H.length := by
    rcases Nat.lt_or_ge i Rf.H.length with h | h
    ·exact h
    ·rw [c.m i h] at hm; cases hm
   obtain ⟨b, blk0, f1, f2, f3, f4⟩ := at' i blk hi hd
   rw [hL.pre i hik] at f1; cases f1
   obtain ⟨old, g1, g2⟩ := x.h i m blk0 hm f2 f3
   exact ⟨old, g1, by rw [f4, Zge]; exact g2⟩
  ·exact fun c' hc hl => x.liv c' hc (lv c' hl)
 refine ⟨R1, e1, ⟨ok.b01, ?_, ?_, ?_, ?_, ?_, ok.bl⟩, rfl, ?_, ?_, by omega⟩
 ·intro j blk h hd
  obtain ⟨b, blk0, f1, f2, f3, f4⟩ := at' j blk h hd
  obtain ⟨m, hm⟩ := ok.al b blk0 f2 f3
  exact ⟨m, by show Zdk R L j = some m; rw [ZbZ f1]; exact hm⟩
 ·intro i j c' hi hj h1 h2
  obtain ⟨bi, g1, g2⟩ := Zv.1 hi
  obtain ⟨bj, g3, g4⟩ := Zv.1 hj
  obtain ⟨b, blk0, f1, f2, f3, f4⟩ := at' i bi g1 g2
  obtain ⟨b', blk0', f5, f6, f7, f8⟩ := at' j bj g3 g4
  have h1' : Zdk R L i = some (some c') := h1
  have h2' : Zdk R L j = some (some c') := h2
  rw [ZbZ f1] at h1'
  rw [ZbZ f5] at h2'
  have := ok.inj b b' c' (Zv.2 ⟨blk0, f2, f3⟩) (Zv.2 ⟨blk0', f6, f7⟩) h1' h2'
  subst this
  exact hL.nodup i j b f1 f5
 ·intro j c' h
  have h' : Zdk R L j = some (some c') := h
  unfold Zdk at h'
  split at h'
  ·exact ok.lt _ c' h'
  ·cases h'
 ·intro j m blk h hm
  by_cases hd : blk = .dead
  ·subst hd; trivial
  ·obtain ⟨b, blk0, f1, f2, f3, f4⟩ := at' j blk h hd
   have hm' : Zdk R L j = some m := hm
   rw [ZbZ f1] at hm'
   subst f4
   exact Zln ren ZgJ (fun x u _ h => den x u h) (fun x u _ h => den x u h) (fun _ _ _ _ => trivial) (ok.blk b m blk0 f2 hm')
 ·intro j c' hl hm
  obtain ⟨blk, g1, g2⟩ := Zv.1 hl
  obtain ⟨b, blk0, f1, f2, f3, f4⟩ := at' j blk g1 g2
  have hm' : Zdk R L j = some (some c') := hm
  rw [ZbZ f1] at hm'
  exact ok.nb b c' (Zv.2 ⟨blk0, f2, f3⟩) hm'
 ·intro i hi
  show Zdk R L i = none
  unfold Zdk
  rw [List.getElem?_eq_none (by omega)]
 ·intro us hus
  rw [hL.vs]
  exact Zhh ren ZgJ (fun x u _ h => den x u h) vs us (fun _ _ => trivial) hus
theorem Zmv {R : RP} {a : Act} : ∀ (live : List Nat) (vs : List V), Zay R w vs (live.map fun t => a.tmps.getD t undef) → Zf2 R w (Zdy live vs) a
 | [], vs, h => fun t => by simp only [Zdy]; exact trivial
 | i :: is, [], h => fun t => by simp only [Zdy]; exact trivial
 | i :: is, v :: vs, h => fun t => by
  obtain ⟨u, us', h1, h2, h3⟩ := h
  simp only [List.map_cons, List.cons.injEq] at h1
  obtain ⟨rfl, rfl⟩ := h1
  simp only [Zdy, Env.set]
  cases hb : Nat.beq i t with
  | true => obtain rfl := Nat.eq_of_beq_eq_true hb; exact h2
  | false => exact Zmv is vs h3 t
theorem ZlK {R : RP} (h : Zf2 R w e a) : ∀ (live : List Nat), Zay R w (live.map e) (live.map fun t => a.tmps.getD t undef)
 | [] => rfl
 | i :: is => ⟨_, _, rfl, h i, ZlK h is⟩
theorem ZkY (c : ZjQ P G cf Rf wf) (s : Sim N Rf wf e H a w) {live : List Nat} {L : List Nat} {vs' : List V} {H1 : Zk} (hx : extract Rf.H.length (live.map e) H = some (L, vs', H1)) : Sim N Rf wf (Zdy live vs') H1 a w := by
 obtain ⟨R, x, ok, hH, hM, hE⟩ := s.ex
 obtain ⟨R1, x1, ok1, hH1, hM1, hv, hl⟩ := ZiW c x ok hH hM s.hl hx
 exact ⟨⟨R1, x1, ok1, hH1, hM1, Zmv live vs' (hv _ (ZlK hE live))⟩, s.tm, s.df, hl⟩
end
end Go.Proofs.YtnmbdjkbaihicaaDoorE
namespace Go.Proofs.YtnmbdjkbaihicaaDoorE
open Go
set_option linter.unusedVariables false
set_option linter.unusedSimpArgs false
theorem Zkp : ∀ (vs : List V) (n : Nat) (blk : Blk), blk ∈ (ZbQ n vs).2 → ∃ sz, 0 < sz ∧ blk = .arr sz []
 | [], n, blk, h => by simp [ZbQ] at h
 | v :: vs, n, blk, h => by
  have rest : ∀ n, blk ∈ (ZbQ n vs).2 → ∃ sz, 0 < sz ∧ blk = .arr sz [] := fun n h => Zkp vs n blk h
  cases v <;> try exact rest n h
  rename_i sz
  simp only [ZbQ] at h
  cases hs : Nat.blt 0 sz with
  | true =>
   rw [hs] at h
   simp only [cond_true, List.mem_cons] at h
   rcases h with h | h
   ·exact ⟨sz, by simp [Nat.blt] at hs; omega, h⟩
   ·exact rest _ h
  | false => rw [hs] at h; exact rest n h
section
variable {R1 R2 : RP} {w : World}
theorem Zka (hd : ∀ v u, ZaP R1 w v u → ZaP R2 w v u) : ∀ (vs : List V) (us : List Value) (n : Nat), (∀ (j : Nat) blk, (ZbQ n vs).2[j]? = some blk → R2.H[n + j]? = some blk ∧ R2.M (n + j) = some none) → Zay R1 w vs us → Zay R2 w (ZbQ n vs).1 us
 | [], us, n, _, h => h
 | v :: vs, us, n, hb, h => by
  obtain ⟨u, us', h1, h2, h3⟩ := h
  have same : (ZbQ n (v :: vs)) = (v :: (ZbQ n vs).1, (ZbQ n vs).2) → Zay R2 w (ZbQ n (v :: vs)).1 us := by
   intro e
   rw [e] at hb ⊢
   exact ⟨u, us', h1, hd v u h2, Zka hd vs us' n hb h3⟩
  cases v <;> try exact same rfl
  rename_i sz
  cases hs : Nat.blt 0 sz with
  | false => exact same (by simp only [ZbQ, hs, cond_false])
  | true =>
   have e : ZbQ n (.nilsl sz :: vs) = (.sl n sz :: (ZbQ (n + 1) vs).1, .arr sz [] :: (ZbQ (n + 1) vs).2) := by simp only [ZbQ, hs, cond_true]
   rw [e] at hb ⊢
   obtain ⟨ad, rfl⟩ := h2
   obtain ⟨b1, b2⟩ := hb 0 (.arr sz []) rfl
   refine ⟨_, us', h1, ⟨⟨_, _, _, rfl⟩, none, by simpa using b2, fun xs hx => ?_⟩, Zka hd vs us' (n + 1) (fun j blk hj => ?_) h3⟩
   ·rw [ZX] at hx
    rw [Nat.add_zero, hx] at b1
    cases b1
    exact ⟨Nat.le_refl _, ad, 0, rfl, Nat.le_refl _, .inl ⟨rfl, rfl⟩⟩
   ·have := hb (j + 1) blk (by simpa using hj)
    rwa [show n + (j + 1) = n + 1 + j by omega] at this
end
theorem Zij : ∀ (H : Zk) (n : Nat), (Zcr n H).1.length = H.length ∧ (∀ blk ∈ (Zcr n H).2, ∃ sz, 0 < sz ∧ blk = .arr sz []) ∧
  ∀ (i : Nat) blk, (Zcr n H).1[i]? = some blk → ∃ b0, H[i]? = some b0 ∧ (blk = b0 ∨ ∃ cs n', b0 = .cells cs ∧ blk = .cells (ZbQ n' cs).1 ∧ ∀ (j : Nat) x, (ZbQ n' cs).2[j]? = some x → ∃ m, n' + j = n + m ∧ (Zcr n H).2[m]? = some x)
 | [], n => ⟨rfl, by simp [Zcr], fun i blk h => by simp [Zcr] at h⟩
 | b :: H, n => by
  have same : Zcr n (b :: H) = (b :: (Zcr n H).1, (Zcr n H).2) → (Zcr n (b :: H)).1.length = (b :: H).length ∧ (∀ blk ∈ (Zcr n (b :: H)).2, ∃ sz, 0 < sz ∧ blk = .arr sz []) ∧
    ∀ (i : Nat) blk, (Zcr n (b :: H)).1[i]? = some blk → ∃ b0, (b :: H)[i]? = some b0 ∧ (blk = b0 ∨ ∃ cs n', b0 = .cells cs ∧ blk = .cells (ZbQ n' cs).1 ∧ ∀ (j : Nat) x, (ZbQ n' cs).2[j]? = some x → ∃ m, n' + j = n + m ∧ (Zcr n (b :: H)).2[m]? = some x) := by
   intro e
   obtain ⟨h1, h2, h3⟩ := Zij H n
   rw [e]
   refine ⟨by simp [h1], h2, fun i blk h => ?_⟩
   cases i with
   | zero => simp at h; subst h; exact ⟨b, rfl, .inl rfl⟩
   | succ i => simpa using h3 i blk (by simpa using h)
  cases b <;> try exact same rfl
  rename_i cs
  have e : Zcr n (.cells cs :: H) = (.cells (ZbQ n cs).1 :: (Zcr (n + (ZbQ n cs).2.length) H).1, (ZbQ n cs).2 ++ (Zcr (n + (ZbQ n cs).2.length) H).2) := rfl
  obtain ⟨h1, h2, h3⟩ := Zij H (n + (ZbQ n cs).2.length)
  rw [e]
  refine ⟨by simp [h1], fun blk hb => ?_, fun i blk h => ?_⟩
  ·rcases List.mem_append.1 hb with hb | hb
   ·exact Zkp cs n blk hb
   ·exact h2 blk hb
  ·cases i with
   | zero =>
    simp at h; subst h
    refine ⟨_, rfl, .inr ⟨cs, n, rfl, rfl, fun j x hj => ⟨j, rfl, ?_⟩⟩⟩
    rw [List.getElem?_append_left (List.getElem?_eq_some_iff.1 hj).1]; exact hj
   | succ i =>
    obtain ⟨b0, f1, f2⟩ := h3 i blk (by simpa using h)
    refine ⟨b0, by simpa using f1, ?_⟩
    rcases f2 with f2 | ⟨cs', n', g1, g2, g3⟩
    ·exact .inl f2
    ·refine .inr ⟨cs', n', g1, g2, fun j x hj => ?_⟩
     obtain ⟨m, m1, m2⟩ := g3 j x hj
     refine ⟨(ZbQ n cs).2.length + m, by omega, ?_⟩
     rw [List.getElem?_append_right (by omega), Nat.add_sub_cancel_left]; exact m2
section
variable {P : Program} {G : Zbr} {N : Nat} {Rf : RP} {wf : World} {e e' : Env} {H H' : Zk} {a : Act} {w : World} {Γ : Ctx} {cf : Za9}
theorem ZtF {R1 : RP} {H1 : Zk} {vs : List V} (ok : R1.OK w) (hH : R1.H = H1) (hM : ∀ i, H1.length ≤ i → R1.M i = none) {r q} (hr : r = ZbQ H1.length vs) (hq : q = Zcr (H1.length + r.2.length) H1) :
  ∃ R2, Ext R1 w R2 w ∧ R2.OK w ∧ R2.H = q.1 ++ (r.2 ++ q.2) ∧ (∀ i, (q.1 ++ (r.2 ++ q.2)).length ≤ i → R2.M i = none) ∧ (∀ us, Zay R1 w vs us → Zay R2 w r.1 us) ∧ H1.length ≤ (q.1 ++ (r.2 ++ q.2)).length := by
 obtain ⟨b1, b2, b3⟩ := Zij H1 (H1.length + r.2.length)
 rw [← hq] at b1 b2 b3
 have b4 : ∀ blk ∈ r.2, ∃ sz, 0 < sz ∧ blk = .arr sz [] := fun blk hb => Zkp vs _ blk (by rw [← hr]; exact hb)
 let H2 : Zk := q.1 ++ (r.2 ++ q.2)
 let R2 : RP := { R1 with M := fun i => if H1.length ≤ i ∧ i < H2.length then some none else R1.M i, H := H2 }
 have hlen : H2.length = H1.length + r.2.length + q.2.length := by simp [H2, b1]; omega
 have hMi : ∀ i, i < H1.length → R2.M i = R1.M i := fun i hi => if_neg (by omega)
 have hMn : ∀ i, H1.length ≤ i → i < H2.length → R2.M i = some none := fun i h1 h2 => if_pos ⟨h1, h2⟩
 have hHi : ∀ i, i < H1.length → H2[i]? = q.1[i]? := fun i hi => List.getElem?_append_left (by omega)
 have hHn : ∀ i blk, H1.length ≤ i → H2[i]? = some blk → ∃ sz, 0 < sz ∧ blk = .arr sz [] := fun i blk h1 h2 => by
  rw [List.getElem?_append_right (by omega)] at h2
  rcases List.mem_append.1 (List.mem_of_getElem? h2) with h | h
  ·exact b4 blk h
  ·exact b2 blk h
 have some1 : ∀ i m, R1.M i = some m → i < H1.length := fun i m h => by
  rcases Nat.lt_or_ge i H1.length with h' | h'
  ·exact h'
  ·rw [hM i h'] at h; cases h
 have like : ∀ i blk, i < H1.length → H2[i]? = some blk → blk ≠ .dead → ∃ old, R1.H[i]? = some old ∧ old.like blk := fun i blk hi h hd => by
  rw [hHi i hi] at h
  obtain ⟨b0, f1, f2⟩ := b3 i blk h
  refine ⟨b0, by rw [hH]; exact f1, ?_⟩
  rcases f2 with rfl | ⟨cs, n', rfl, rfl, _⟩
  ·exact Blk.like_refl hd
  ·trivial
 have lvi : ∀ i, i < H1.length → Z5 H2 i = true → Z5 R1.H i = true := fun i hi h => by
  obtain ⟨blk, g1, g2⟩ := Zv.1 h
  obtain ⟨old, f1, f2⟩ := like i blk hi g1 g2
  exact Zv.2 ⟨old, f1, Blk.like_ne f2⟩
 have x : Ext R1 w R2 w := by
  refine ⟨fun i m hm => by rw [hMi i (some1 i m hm)]; exact hm, fun i m blk hm h hd => like i blk (some1 i m hm) h hd, rfl, rfl, fun _ _ _ => rfl, fun _ cs el fr h => ⟨cs, el, fr, h, rfl⟩, Nat.le_refl _, ?_, rfl, rfl, rfl⟩
  rintro c _ ⟨i, g1, g2⟩
  by_cases hi : i < H1.length
  ·rw [hMi i hi] at g2
   exact ⟨i, lvi i hi g1, g2⟩
  ·by_cases h2 : i < H2.length
   ·rw [hMn i (by omega) h2] at g2; cases g2
   ·have : R2.M i = R1.M i := if_neg (by omega)
    rw [this, hM i (by omega)] at g2; cases g2
 have cellM : ∀ i c, R2.M i = some (some c) → i < H1.length ∧ R1.M i = some (some c) := fun i c h => by
  by_cases hi : i < H1.length
  ·rw [hMi i hi] at h; exact ⟨hi, h⟩
  ·by_cases h2 : i < H2.length
   ·rw [hMn i (by omega) h2] at h; cases h
   ·have : R2.M i = R1.M i := if_neg (by omega)
    rw [this, hM i (by omega)] at h; cases h
 have hd : ∀ v u, ZaP R1 w v u → ZaP R2 w v u := fun v u h => x.denV ok.b01 v u h
 have pos_r : ∀ (j : Nat) blk, r.2[j]? = some blk → R2.H[H1.length + j]? = some blk ∧ R2.M (H1.length + j) = some none := fun j blk hj => by
  have hjl := (List.getElem?_eq_some_iff.1 hj).1
  refine ⟨?_, hMn _ (by omega) (by omega)⟩
  show H2[H1.length + j]? = some blk
  rw [List.getElem?_append_right (by omega), b1, Nat.add_sub_cancel_left, List.getElem?_append_left hjl]; exact hj
 have pos_q : ∀ (m : Nat) blk, q.2[m]? = some blk → R2.H[H1.length + r.2.length + m]? = some blk ∧ R2.M (H1.length + r.2.length + m) = some none := fun m blk hm => by
  have hml := (List.getElem?_eq_some_iff.1 hm).1
  refine ⟨?_, hMn _ (by omega) (by omega)⟩
  show H2[H1.length + r.2.length + m]? = some blk
  rw [List.getElem?_append_right (by omega), b1, List.getElem?_append_right (by omega)]
  rw [show H1.length + r.2.length + m - H1.length - r.2.length = m by omega]; exact hm
 refine ⟨R2, x, ⟨ok.b01, ?_, ?_, ?_, ?_, ?_, ok.bl⟩, rfl, ?_, ?_, by show H1.length ≤ H2.length; omega⟩
 ·intro i blk h hdd
  by_cases hi : i < H1.length
  ·obtain ⟨old, f1, f2⟩ := like i blk hi h hdd
   obtain ⟨m, hm⟩ := ok.al i old f1 (Blk.like_ne f2)
   exact ⟨m, by rw [hMi i hi]; exact hm⟩
  ·exact ⟨none, hMn i (by omega) (List.getElem?_eq_some_iff.1 h).1⟩
 ·intro i j c hi hj g1 g2
  obtain ⟨h1, h2⟩ := cellM i c g1
  obtain ⟨h3, h4⟩ := cellM j c g2
  exact ok.inj i j c (lvi i h1 hi) (lvi j h3 hj) h2 h4
 ·intro i c h
  exact ok.lt i c (cellM i c h).2
 ·intro i m blk h hm
  by_cases hi : i < H1.length
  ·rw [hMi i hi] at hm
   have h' : H2[i]? = some blk := h
   rw [hHi i hi] at h'
   obtain ⟨b0, f1, f2⟩ := b3 i blk h'
   have hb0 := ok.blk i m b0 (by rw [hH]; exact f1) hm
   rcases f2 with rfl | ⟨cs, n', rfl, rfl, f3⟩
   ·exact x.blkOK ok.b01 (fun _ _ => rfl) hb0
   ·obtain ⟨c, us, el, fr, e1, e2, e3, e4, e5⟩ := hb0
    obtain ⟨us0, g1, g2⟩ := ZfK cs (fun k v u => us[k]? = some u ∧ ZaP R1 w v u) e5
    have hden := Zka (R2 := R2) hd cs us0 n' (fun j blk hj => by
     obtain ⟨m', m1, m2⟩ := f3 j blk hj
     rw [m1]; exact pos_q m' blk m2) (Zha _ _ g1 fun j v u hv hu => (g2 j v u hv hu).2)
    have hlen' : (ZbQ n' cs).1.length = cs.length := by rw [← Zdq _ _ hden]; exact g1
    refine ⟨c, us, el, fr, e1, e2, e3, by omega, fun k v hk => ?_⟩
    obtain ⟨u, p1, p2⟩ := Zep _ _ k v hden hk
    have hkc : k < cs.length := by rw [← hlen']; exact (List.getElem?_eq_some_iff.1 hk).1
    exact ⟨u, (g2 k _ u (List.getElem?_eq_getElem hkc) p1).1, p2⟩
  ·obtain ⟨sz, s1, rfl⟩ := hHn i blk (by omega) h
   rw [hMn i (by omega) (List.getElem?_eq_some_iff.1 h).1] at hm
   cases hm
   exact ⟨s1, by simp, .inl ⟨rfl, rfl⟩⟩
 ·intro i c hl h
  obtain ⟨h1, h2⟩ := cellM i c h
  exact ok.nb i c (lvi i h1 hl) h2
 ·intro i hi
  have h2 : H2.length ≤ i := hi
  have : R2.M i = R1.M i := if_neg (by omega)
  rw [this]; exact hM i (by omega)
 ·intro us hus
  rw [hr]
  exact Zka hd vs us H1.length (fun j blk hj => pos_r j blk (by rw [hr]; exact hj)) hus
theorem ZoH (c : ZjQ P G cf Rf wf) (s : Sim N Rf wf e H a w) {live : List Nat} {vs' : List V} {H1 : Zk} (hx : Zlc Rf.H.length (live.map e) H = some (vs', H1)) : Sim N Rf wf (Zdy live vs') H1 a w := by
 obtain ⟨R, x, ok, hH, hM, hE⟩ := s.ex
 unfold Zlc at hx
 cases he : extract Rf.H.length (live.map e) H with
 | none => rw [he] at hx; cases hx
 | some p =>
  obtain ⟨L, vs1, H0⟩ := p
  rw [he] at hx
  dsimp only at hx
  obtain ⟨R1, x1, ok1, hH1, hM1, hv1, hl1⟩ := ZiW c x ok hH hM s.hl he
  obtain ⟨R2, x2, ok2, hH2, hM2, hv2, hl2⟩ := ZtF (vs := vs1) ok1 hH1 hM1 rfl rfl
  cases he2 : extract Rf.H.length (ZbQ H0.length vs1).1 ((Zcr (H0.length + (ZbQ H0.length vs1).2.length) H0).1 ++ ((ZbQ H0.length vs1).2 ++ (Zcr (H0.length + (ZbQ H0.length vs1).2.length) H0).2)) with
  | none => rw [he2] at hx; cases hx
  | some p2 =>
   obtain ⟨L2, vs2, H2⟩ := p2
   rw [he2] at hx
   simp only [Option.some.injEq, Prod.mk.injEq] at hx
   obtain ⟨rfl, rfl⟩ := hx
   obtain ⟨R3, x3, ok3, hH3, hM3, hv3, hl3⟩ := ZiW c (x1.trans x2) ok2 hH2 hM2 (Nat.le_trans hl1 hl2) he2
   exact ⟨⟨R3, x3, ok3, hH3, hM3, Zmv live _ (hv3 _ (hv2 _ (hv1 _ (ZlK hE live))))⟩, s.tm, s.df, hl3⟩
def okC (P : Program) (G : Zbr) (N : Nat) (okD : Array Oper → List Op1 → Bool) : C → Code → Bool
 | c, .scope x => okC P G N okD c x
 | .skip, .skip => true
 | .skip, .label _ => true
 | .ret, .ret => true
 | .exit i, .exit j => Nat.beq i j
 | .seq a b, .seq x y => okC P G N okD a x && okC P G N okD b y
 | .cond y a b, .cond z u v => ZN G z y && (okC P G N okD a u && okC P G N okD b v)
 | .block i a, .block j x => Nat.beq i j && okC P G N okD a x
 | .loop _ _ a, .loop x => okC P G N okD a x
 | .ops l, .region _ os false => ZmB P G N os os.toList l
 | .draw l, .region _ os true => okD os l
 | _, _ => false
def Zxf : Ex → Exit → Prop
 | .normal, e => e = .normal
 | .exit i, e => e = .exit i
 | .ret, e => e = .ret
def ZlH (P : Program) (G : Zbr) (N : Nat) (Γ : Ctx) (cf : Za9) (okD : Array Oper → List Op1 → Bool) : Prop :=
 ∀ (id : Nat) (os : Array Oper) (l : List Op1) (Rf : RP) (wf : World) (e : Env) (H : Zk) (e' : Env) (H' : Zk) (a : Act) (w : World), okD os l = true → Zey Γ cf [] l e H = some (e', H') → ZjQ P G cf Rf wf → Sim N Rf wf e H a w →
  (Code.region id os true).wp P (fun ex a' w' => ex = .normal ∧ Sim N Rf wf e' H' a' w') a w
theorem Zt5 (c : ZjQ P G cf Rf wf) {okD : Array Oper → List Op1 → Bool} (hD : ZlH P G N Γ cf okD) (m : Nat) : ∀ (code : Code) (ic : C) (e : Env) (H : Zk) (r : Ex) (e' : Env) (H' : Zk) (a : Act) (w : World), okC P G N okD ic code = true →
  Zae Γ cf (fun F => ZcJ F m) Rf.H.length ic e H = some (r, e', H') → Sim N Rf wf e H a w → code.wp P (fun ex a' w' => Zxf r ex ∧ Sim N Rf wf e' H' a' w') a w := by
 intro code
 induction code with
 | scope x ih =>
  intro ic e H r e' H' a w hk h s
  have hk' : okC P G N okD ic x = true := by cases ic <;> exact hk
  refine wp_scope_straight (wp_mono (ih ic e H r e' H' a w hk' h s) fun ex a' w' hq => ?_)
  cases ex <;> first | exact hq | (cases r <;> cases hq.1)
 | skip =>
  intro ic e H r e' H' a w hk h s
  cases ic <;> try (cases hk; done)
  simp only [Zae, Option.some.injEq, Prod.mk.injEq] at h
  obtain ⟨rfl, rfl, rfl⟩ := h
  exact wp_skip ⟨rfl, s⟩
 | label l =>
  intro ic e H r e' H' a w hk h s
  cases ic <;> try (cases hk; done)
  simp only [Zae, Option.some.injEq, Prod.mk.injEq] at h
  obtain ⟨rfl, rfl, rfl⟩ := h
  exact wp_label ⟨rfl, s⟩
 | ret =>
  intro ic e H r e' H' a w hk h s
  cases ic <;> try (cases hk; done)
  simp only [Zae, Option.some.injEq, Prod.mk.injEq] at h
  obtain ⟨rfl, rfl, rfl⟩ := h
  exact wp_ret ⟨rfl, s⟩
 | exit id =>
  intro ic e H r e' H' a w hk h s
  cases ic <;> try (cases hk; done)
  obtain rfl := Nat.eq_of_beq_eq_true hk
  simp only [Zae, Option.some.injEq, Prod.mk.injEq] at h
  obtain ⟨rfl, rfl, rfl⟩ := h
  exact wp_exit ⟨rfl, s⟩
 | seq x y ihx ihy =>
  intro ic e H r e' H' a w hk h s
  cases ic <;> try (cases hk; done)
  rename_i p q
  simp only [okC, Bool.and_eq_true] at hk
  simp only [Zae] at h
  cases hp : Zae Γ cf (fun F => ZcJ F m) Rf.H.length p e H with
  | none => rw [hp] at h; cases h
  | some r1 =>
   obtain ⟨x1, e1, H1⟩ := r1
   rw [hp] at h
   refine wp_seq (wp_mono (ihx p e H x1 e1 H1 a w hk.1 hp s) fun ex a' w' hq => ?_)
   cases x1 with
   | normal =>
    obtain ⟨h1, h2⟩ := hq
    cases h1
    exact ihy q e1 H1 r e' H' a' w' hk.2 h h2
   | exit i =>
    obtain ⟨h1, h2⟩ := hq
    cases h1
    cases h
    exact ⟨rfl, h2⟩
   | ret =>
    obtain ⟨h1, h2⟩ := hq
    cases h1
    cases h
    exact ⟨rfl, h2⟩
 | cond z u v ihu ihv =>
  intro ic e H r e' H' a w hk h s
  cases ic <;> try (cases hk; done)
  rename_i y p q
  simp only [okC, Bool.and_eq_true] at hk
  simp only [Zae] at h
  split at h
  ·rename_i t ht
   obtain ⟨R, x, ok, hH, hM, hE⟩ := s.ex
   have hv := Zly (x.gok c.ok.b01 c.g) hE hk.1
   rw [ht] at hv
   cases t with
   | true => exact wp_cond_true (Zq7 hv) (ihu p e H r e' H' a w hk.2.1 h s)
   | false => exact wp_cond_false (Zq7 hv) (ihv q e H r e' H' a w hk.2.2 h s)
  ·cases h
 | block id x ih =>
  intro ic e H r e' H' a w hk h s
  cases ic <;> try (cases hk; done)
  rename_i i p
  simp only [okC, Bool.and_eq_true] at hk
  obtain rfl := Nat.eq_of_beq_eq_true hk.1
  simp only [Zae] at h
  cases hp : Zae Γ cf (fun F => ZcJ F m) Rf.H.length p e H with
  | none => rw [hp] at h; cases h
  | some r1 =>
   obtain ⟨x1, e1, H1⟩ := r1
   rw [hp] at h
   refine wp_block (wp_mono (ih p e H x1 e1 H1 a w hk.2 hp s) fun ex a' w' hq => ?_)
   obtain ⟨h1, h2⟩ := hq
   cases x1 with
   | normal => cases h1; cases h; exact ⟨rfl, h2⟩
   | ret => cases h1; cases h; exact ⟨rfl, h2⟩
   | exit j =>
    cases h1
    dsimp only at h
    show if j = i then _ else _
    cases hj : Nat.beq j i with
    | true =>
     rw [hj] at h
     cases h
     rw [if_pos (Nat.eq_of_beq_eq_true hj)]
     exact ⟨rfl, h2⟩
    | false =>
     rw [hj] at h
     cases h
     rw [if_neg (fun e => by subst e; rw [Nat.beq_refl] at hj; cases hj)]
     exact ⟨rfl, h2⟩
 | loop x ih =>
  intro ic e H r e' H' a w hk h s
  cases ic <;> try (cases hk; done)
  rename_i live outs p
  have hk' : okC P G N okD p x = true := hk
  simp only [Zae] at h
  cases hh : Zlc Rf.H.length (live.map e) H with
  | none => rw [hh] at h; cases h
  | some q =>
   obtain ⟨vs, H1⟩ := q
   rw [hh] at h
   dsimp only at h
   split at h
   ·rename_i x1 vs1 H2 hit
    simp only [Option.some.injEq, Prod.mk.injEq] at h
    obtain ⟨rfl, rfl, rfl⟩ := h
    have key : ∀ (n : Nat) (vs : List V) (H1 : Zk) (a : Act) (w : World), ZcJ (fun vs H => ZdN Rf.H.length live outs (Zae Γ cf (fun F => ZcJ F m) Rf.H.length p (Zdy live vs) H)) n vs H1 = some (x1, vs1, H2) → Sim N Rf wf (Zdy live vs) H1 a w →
      Code.rounds P x (fun ex a' w' => Zxf x1 ex ∧ Sim N Rf wf (Zdy outs vs1) H2 a' w') n a w := by
     intro n
     induction n with
     | zero => intro vs H1 a w h _; cases h
     | succ n ihn =>
      intro vs H1 a w h s
      rw [rounds_succ]
      simp only [ZcJ] at h
      cases hb : Zae Γ cf (fun F => ZcJ F m) Rf.H.length p (Zdy live vs) H1 with
      | none => rw [hb] at h; cases h
      | some r1 =>
       obtain ⟨x2, e2, H3⟩ := r1
       rw [hb] at h
       refine wp_mono (ih p (Zdy live vs) H1 x2 e2 H3 a w hk' hb s) fun ex a' w' hq => ?_
       obtain ⟨h1, h2⟩ := hq
       cases x2 with
       | normal =>
        cases h1
        simp only [ZdN] at h
        cases hd : Zlc Rf.H.length (live.map e2) H3 with
        | none => rw [hd] at h; cases h
        | some q =>
         obtain ⟨vs2, H4⟩ := q
         rw [hd] at h
         exact ihn vs2 H4 a' w' h (ZoH c h2 hd)
       | exit i =>
        cases h1
        simp only [ZdN] at h
        cases hd : extract Rf.H.length (outs.map e2) H3 with
        | none => rw [hd] at h; cases h
        | some q =>
         obtain ⟨L, vs2, H4⟩ := q
         rw [hd] at h
         cases h
         exact ⟨rfl, ZkY c h2 hd⟩
       | ret =>
        cases h1
        simp only [ZdN] at h
        cases hd : extract Rf.H.length (outs.map e2) H3 with
        | none => rw [hd] at h; cases h
        | some q =>
         obtain ⟨L, vs2, H4⟩ := q
         rw [hd] at h
         cases h
         exact ⟨rfl, ZkY c h2 hd⟩
    exact wp_loop_rounds m (key m vs H1 a w hit (ZoH c s hh))
   ·cases h
 | region id os d =>
  intro ic e H r e' H' a w hk h s
  cases d with
  | false =>
   cases ic <;> try (cases hk; done)
   rename_i l
   simp only [Zae] at h
   cases ho : Zgs Γ cf l e H with
   | none => rw [ho] at h; cases h
   | some q =>
    obtain ⟨e1, H1⟩ := q
    rw [ho] at h
    cases h
    exact wp_region_list (Zpn c os.toList l e H a w hk ho s fun a w s => ⟨rfl, s⟩)
  | true =>
   cases ic <;> try (cases hk; done)
   rename_i l
   simp only [Zae] at h
   cases ho : Zey Γ cf [] l e H with
   | none => rw [ho] at h; cases h
   | some q =>
    obtain ⟨e1, H1⟩ := q
    rw [ho] at h
    cases h
    exact wp_mono (hD id os l Rf wf e H _ _ a w hk ho c s) fun ex a' w' hq => ⟨by rw [hq.1]; rfl, hq.2⟩
 | rangeFunc f ps x y ihx ihy =>
  intro ic e H r e' H' a w hk h s
  cases ic <;> cases hk
 | goto l =>
  intro ic e H r e' H' a w hk h s
  cases ic <;> cases hk
 | refuse why =>
  intro ic e H r e' H' a w hk h s
  cases ic <;> cases hk
end
end Go.Proofs.YtnmbdjkbaihicaaDoorE
namespace Go.Proofs.YtnmbdjkbaihicaaDoorE
open Go
set_option linter.unusedVariables false
set_option linter.unusedSimpArgs false
def Zm8 (P : Program) : List ResultVar → List (Nat × Option (Nat × Bool)) → Bool
 | [], [] => true
 | .tmp t :: rs, (i, none) :: qs => Nat.beq t i && Zm8 P rs qs
 | .cell a t :: rs, (i, some (n, ag)) :: qs => Nat.beq a i && (Zfx (ZfY P t) (fun b => b == ag) && (Zfx (ZeR P t) (fun m => Nat.beq m n) && Zm8 P rs qs))
 | _, _ => false
def ZW (P : Program) (G : Zbr) (okD : Nat → Array Oper → List Op1 → Bool) (f : Nat) (fn : FnI) : Bool :=
 match P.funcs[f]? with
 | some F => Zg7 P f && (match F.body with | some c => okC P G F.ntmps (okD F.ntmps) fn.body c && Zm8 P F.results.toList fn.res | none => false)
 | none => false
section
variable {P : Program} {G : Zbr} {R : RP} {w : World} {e : Env} {a : Act} {H1 : Zk}
theorem ZlS : ∀ (vs : List V) (i t : Nat), ZdU i vs t = if i ≤ t then (vs[t - i]?).getD .bad else .bad
 | [], i, t => by simp [ZdU, env0]
 | v :: vs, i, t => by
  simp only [ZdU, Env.set]
  cases hb : Nat.beq i t with
  | true =>
   obtain rfl := Nat.eq_of_beq_eq_true hb
   simp
  | false =>
   have hne : i ≠ t := fun h => by subst h; rw [Nat.beq_refl] at hb; cases hb
   simp only [cond_false]
   rw [ZlS vs (i + 1) t]
   by_cases h : i ≤ t
   ·rw [if_pos (by omega), if_pos h]
    have : t - i = (t - (i + 1)) + 1 := by omega
    rw [this, List.getElem?_cons_succ]
   ·rw [if_neg (by omega), if_neg h]
theorem ZuE {args : List V} {us : List Value} {n : Nat} (h : Zay R w args us) : Zf2 R w (ZdU 0 args) { tmps := us.toArray ++ Array.replicate n undef, defers := [] } := by
 intro t
 rw [ZlS, if_pos (Nat.zero_le _), Nat.sub_zero]
 cases hv : args[t]? with
 | none => exact trivial
 | some v =>
  obtain ⟨u, h1, h2⟩ := Zep args us t v h hv
  have hlt := (List.getElem?_eq_some_iff.1 h1).1
  have : (us.toArray ++ Array.replicate n undef).getD t undef = u := by
   rw [Array.getD_eq_getD_getElem?, Array.getElem?_append_left (by simpa using hlt)]
   simp [h1]
  show ZaP R w ((some v).getD .bad) _
  rw [this]; exact h2
def ZkA (tmps : Array Value) : ResultVar → Sem Value
 | .tmp t => pure (tmps.getD t undef)
 | .cell a t => do loadVar t (← asAddr (tmps.getD a undef))
theorem ZpD {t : TypeId} {u0 u : Value} (h : (Instr.loadAt t u0).run P w = .ok u w) : (do loadVar t (← asAddr u0) : Sem Value).run P w = .ok u w := by
 cases u0 <;> try (simp [Instr.loadAt, Instr.sureAddr] at h; done)
 rename_i ad
 cases ad with
 | none => simp [Instr.loadAt, Instr.sureAddr] at h
 | some ad => simpa [Instr.loadAt, Instr.sureAddr, asAddr] using h
theorem Zn9 (pre : Pre G R w e a H1) : ∀ (rs : List ResultVar) (qs : List (Nat × Option (Nat × Bool))) (l : List V), Zm8 P rs qs = true → Zi0 e H1 qs = some l → ∃ us, (rs.mapM (ZkA a.tmps)).run P w = .ok us w ∧ Zay R w l us
 | [], [], l, _, h => by
  simp only [Zi0, Option.some.injEq] at h
  subst h
  exact ⟨[], rfl, rfl⟩
 | [], _ :: _, l, hk, _ => by cases hk
 | .tmp t :: rs, [], l, hk, _ => by cases hk
 | .cell b t :: rs, [], l, hk, _ => by cases hk
 | .tmp t :: rs, (i, some q) :: qs, l, hk, _ => by cases hk
 | .cell b t :: rs, (i, none) :: qs, l, hk, _ => by cases hk
 | .tmp t :: rs, (i, none) :: qs, l, hk, h => by
  simp only [Zm8, Bool.and_eq_true] at hk
  obtain rfl := Nat.eq_of_beq_eq_true hk.1
  simp only [Zi0] at h
  cases hr : Zi0 e H1 qs with
  | none => rw [hr] at h; cases h
  | some l' =>
   rw [hr] at h
   simp only [Option.some.injEq] at h
   subst h
   obtain ⟨us, h1, h2⟩ := Zn9 pre rs qs l' hk.2 hr
   refine ⟨a.tmps.getD t undef :: us, ?_, _, us, rfl, pre.env t, h2⟩
   rw [List.mapM_cons]
   simp [ZkA, h1]
 | .cell b t :: rs, (i, some (n, ag)) :: qs, l, hk, h => by
  simp only [Zm8, Bool.and_eq_true] at hk
  obtain ⟨k1, k2, k3, k4⟩ := hk
  obtain rfl := Nat.eq_of_beq_eq_true k1
  obtain ⟨b', h1, h2⟩ := ZaH k2
  obtain ⟨m, h3, h4⟩ := ZaH k3
  obtain rfl := Nat.eq_of_beq_eq_true h4
  obtain rfl : b' = ag := by simpa using h2
  simp only [Zi0] at h
  cases hl : ZcU H1 m b' (e b) with
  | none => rw [hl] at h; cases h
  | some v =>
   cases hr : Zi0 e H1 qs with
   | none => rw [hl, hr] at h; cases h
   | some l' =>
    rw [hl, hr] at h
    simp only [Option.some.injEq] at h
    subst h
    obtain ⟨u, f1, f2⟩ := Zqe pre h1 h3 (pre.env b) hl
    obtain ⟨us, g1, g2⟩ := Zn9 pre rs qs l' k4 hr
    refine ⟨u :: us, ?_, u, us, rfl, f2, g2⟩
    have := ZpD f1
    rw [List.mapM_cons]
    simp only [ZkA, Sem.run_bind, g1]
    simp only [Sem.run_bind] at this
    rw [this]
    simp [g1]
theorem Zot {F : Func} {us : List Value} (h : (F.results.toList.mapM (ZkA a.tmps)).run P w = .ok us w) : (results F a.tmps).run P w = .ok (if h : us.toArray.size = 1 then us.toArray[0] else .tuple us.toArray) w := by
 have hE : results F a.tmps = (F.results.mapM (ZkA a.tmps) >>= fun vs => pure (if h : vs.size = 1 then vs[0] else .tuple vs)) := by
  unfold results
  congr 2
 have hm : (F.results.mapM (ZkA a.tmps)).run P w = .ok us.toArray w := by
  rw [Array.mapM_eq_mapM_toList]
  simp [h]
 rw [hE, Sem.run_bind, hm]
 rfl
theorem Zq4 {l : List V} {us : List Value} (h : Zay R w l us) : ZaP R w (ZfV l) (if h : us.toArray.size = 1 then us.toArray[0] else .tuple us.toArray) := by
 have hl := Zdq _ _ h
 by_cases h1 : us.length = 1
 ·obtain ⟨u, rfl⟩ := List.length_eq_one_iff.1 h1
  obtain ⟨v, rfl⟩ := List.length_eq_one_iff.1 (hl ▸ h1 : l.length = 1)
  obtain ⟨u', us', e1, e2, e3⟩ := h
  cases e1
  simpa [ZfV] using e2
 ·rw [dif_neg (by simpa using h1)]
  have : ZfV l = Zqf l := by
   match l, hl with
   | [], _ => rfl
   | [v], hl => simp at hl; omega
   | _ :: _ :: _, _ => rfl
  rw [this]
  exact ZtA h
end
def Zob (id : Nat) : FnI := ⟨2, .ops [⟨some 2, .spec id [.t 0, .t 1], none, [], 0⟩], [(2, none)]⟩
def ZkO (P : Program) (f : Nat) (fn : FnI) : Prop :=
 Zg7 P f = true ∧ ∃ id, fn = Zob id ∧ ∀ (l : List D) (r : D) (R : RP) (w : World) (us : List Value), Ziu id l = some r → R.OK w → R.H = [] → Zay R w (Zcn l) us →
  Calls P f us.toArray w fun e w' => ∃ u, e = .returned u ∧ R.den w' r u ∧ Ext R w R w'
theorem ZsX {Γ : Ctx} {cf : Za9} {It : (List V → Zk → Option Lp) → List V → Zk → Option (Ex × List V × Zk)} {f id : Nat} {args : List V} {H : Zk} {q : V × Zk} (hc : Γ.code f = some (Zob id)) (h : Zib Γ cf It f args H = some q) :
  ∃ l r, args = Zcn l ∧ H = [] ∧ Ziu id l = some r ∧ q = (.d r, []) := by
 unfold Zib at h
 rw [hc] at h
 dsimp only [Zob] at h
 match args, h with
 | [], h => cases h
 | [x], h => cases h
 | _ :: _ :: _ :: _, h => cases h
 | [x, y], h =>
  cases H with
  | cons b H => cases h
  | nil =>
   have e : Zgs Γ cf [⟨some 2, .spec id [.t 0, .t 1], none, [], 0⟩] (ZdU 0 [x, y]) [] = (match Zii [x, y] with | some l => (match Ziu id l with | some r => some ((ZdU 0 [x, y]).set 2 (.d r), []) | none => none) | none => none) := by
    have hv : vals (ZdU 0 [x, y]) [.t 0, .t 1] = [x, y] := rfl
    unfold Zgs
    simp only [ZeE, opE, hv]
    cases Zii [x, y] with
    | none => rfl
    | some l =>
     dsimp only
     cases Ziu id l <;> rfl
   rw [show Zae Γ cf It (List.length ([] : Zk)) (.ops [⟨some 2, .spec id [.t 0, .t 1], none, [], 0⟩]) (ZdU 0 [x, y]) [] = (match Zgs Γ cf [⟨some 2, .spec id [.t 0, .t 1], none, [], 0⟩] (ZdU 0 [x, y]) [] with | some (e, H) => some (.normal, e, H) | none => none) from rfl, e] at h
   cases hl : Zii [x, y] with
   | none => rw [hl] at h; cases h
   | some l =>
    rw [hl] at h
    dsimp only at h
    cases hr : Ziu id l with
    | none => rw [hr] at h; cases h
    | some r => rw [hr] at h; exact ⟨l, r, ZiY hl, rfl, hr, (Option.some.inj h).symm⟩
theorem ZwJ {P : Program} {G : Zbr} {Γ : Ctx} {cf : Za9} {okD : Nat → Array Oper → List Op1 → Bool} (hcf : ZeN P G cf) (hD : ∀ N, ZlH P G N Γ cf (okD N)) (hall : ∀ f fn, Γ.code f = some fn → ZW P G okD f fn = true ∨ ZkO P f fn) (m : Nat) :
  ZeN P G (Zib Γ cf fun F => ZcJ F m) := by
 intro f args H v H' h
 unfold Zib at h
 cases hc : Γ.code f with
 | none => rw [hc] at h; cases h
 | some fn =>
  rw [hc] at h
  dsimp only at h
  cases hn : Nat.beq args.length fn.nargs with
  | false => rw [hn] at h; cases h
  | true =>
   rw [hn] at h
   simp only [cond_true] at h
   rcases hall f fn hc with hok | ⟨k1, id, rfl, hs⟩
   case inr =>
    have hq : Zib Γ cf (fun F => ZcJ F m) f args H = some (v, H') := by
     unfold Zib
     rw [hc]
     dsimp only
     rw [hn]
     simp only [cond_true]
     exact h
    obtain ⟨l, r, rfl, rfl, hr, hv⟩ := ZsX hc hq
    cases hv
    refine ⟨k1, fun R w us ok g hH hM ha => (hs l r R w us hr ok hH ha).mono ?_⟩
    rintro e w' ⟨u, he, hd, hx⟩
    refine ⟨u, he, R, hx, ⟨ok.b01, ?_, ?_, ?_, ?_, ?_, fun c hb => Nat.lt_of_lt_of_le (ok.bl c hb) hx.grow⟩, hH, hd, hM, by rw [hH]; exact Nat.le_refl _⟩
    ·intro i blk hb; rw [hH] at hb; simp at hb
    ·intro i j c hi; rw [hH] at hi; simp [Z5, nth] at hi
    ·intro i c hm; rw [hM i (Nat.zero_le _)] at hm; cases hm
    ·intro i m blk hb; rw [hH] at hb; simp at hb
    ·intro i c hi; rw [hH] at hi; simp [Z5, nth] at hi
   unfold ZW at hok
   cases hF : P.funcs[f]? with
   | none => rw [hF] at hok; cases hok
   | some F =>
    rw [hF] at hok
    simp only [Bool.and_eq_true] at hok
    obtain ⟨k1, k2⟩ := hok
    refine ⟨k1, fun R w us ok g hH hM ha => ?_⟩
    cases hb : F.body with
    | none => rw [hb] at k2; cases k2
    | some c =>
     rw [hb] at k2
     simp only [Bool.and_eq_true] at k2
     cases hx : Zae Γ cf (fun F => ZcJ F m) H.length fn.body (ZdU 0 args) H with
     | none => rw [hx] at h; cases h
     | some q =>
      obtain ⟨r, e1, H1⟩ := q
      rw [hx] at h
      subst hH
      have fc : ZjQ P G cf R w := ⟨hcf, ok, g, hM⟩
      have s : Sim F.ntmps R w (ZdU 0 args) R.H { tmps := us.toArray ++ Array.replicate (F.ntmps - us.toArray.size) undef, defers := [] } w :=
       ⟨⟨R, Ext.refl R w, ok, rfl, hM, ZuE ha⟩, by simp; omega, rfl, Nat.le_refl _⟩
      refine calls_of_wp hF hb (wp_mono (Zt5 fc (hD F.ntmps) m c fn.body _ _ r e1 H1 _ w k2.1 hx s) fun ex a' w' hq => ?_)
      obtain ⟨h1, h2⟩ := hq
      have fin : (match Zi0 e1 H1 fn.res with | some l => (match extract R.H.length [ZfV l] H1 with | some (_, [v], H2) => some (v, H2) | _ => none) | none => none) = some (v, H') → a'.defers = [] ∧ ∃ u, (results F a'.tmps).run P w' = .ok u w' ∧ ∃ u', Ending.returned u = .returned u' ∧ Ret R w v H' u' w' := by
       intro h
       cases hr : Zi0 e1 H1 fn.res with
       | none => rw [hr] at h; cases h
       | some l =>
        rw [hr] at h
        dsimp only at h
        obtain ⟨R1, x1, ok1, hH1, hM1, hE1⟩ := h2.ex
        have pre : Pre G R1 w' e1 a' H1 := ⟨ok1, x1.gok ok.b01 g, hE1, fun b blk hb' _ => by rw [hH1]; exact hb'⟩
        obtain ⟨us', f1, f2⟩ := Zn9 pre F.results.toList fn.res l k2.2 hr
        split at h
        ·rename_i L v2 H2 hex
         cases h
         obtain ⟨R2, x2, ok2, hH2, hM2, hv2, hl2⟩ := ZiW fc x1 ok1 hH1 hM1 h2.hl hex
         obtain ⟨u2, us2, e2, e3, _⟩ := hv2 _ ⟨_, [], rfl, Zq4 f2, rfl⟩
         cases e2
         exact ⟨h2.df, _, Zot f1, _, rfl, R2, x2, ok2, hH2, e3, hM2, hl2⟩
        ·cases h
      cases r with
      | normal => cases h1; exact fin h
      | ret => cases h1; exact fin h
      | exit i => cases h
theorem Zpy {P : Program} {G : Zbr} {Γ : Ctx} {okD : Nat → Array Oper → List Op1 → Bool} (hD : ∀ cf N, ZeN P G cf → ZlH P G N Γ cf (okD N)) (hall : ∀ f fn, Γ.code f = some fn → ZW P G okD f fn = true ∨ ZkO P f fn) : ∀ n, ZeN P G (evN Γ n)
 | 0 => fun f args H v H' h => by cases h
 | n + 1 => ZwJ (Zpy hD hall n) (fun N => hD _ N (Zpy hD hall n)) hall n
theorem Zvp {P : Program} {G : Zbr} {Γ : Ctx} {okD : Nat → Array Oper → List Op1 → Bool} (hD : ∀ cf N, ZeN P G cf → ZlH P G N Γ cf (okD N)) (hall : ∀ f fn, Γ.code f = some fn → ZW P G okD f fn = true ∨ ZkO P f fn) : ZeN P G (evW Γ) := by
 intro f args H v H' h
 obtain ⟨n, hn⟩ := (ZgL Γ f args H (v, H')).1 h
 exact Zpy hD hall n f args H v H' hn
end Go.Proofs.YtnmbdjkbaihicaaDoorE
namespace Go.Proofs.YtnmbdjkbaihicaaDoorE
open Go
set_option linter.unusedVariables false
set_option linter.unusedSimpArgs false
def ZsY (x : Option Opd) : List Opd := match x with | some y => [y] | none => []
def ZqG : O → List Opd
 | .mov x => [x]
 | .pick c a b => [c, a, b]
 | .alloc z => []
 | .box x => [x]
 | .build z ps => ps.map (·.2.2)
 | .bslice sz z len ps => ps.map (·.2)
 | .load n ag x => [x]
 | .store n x v => [x, v]
 | .nilck x => [x]
 | .bin op x y => [x, y]
 | .eqv ks neg x y => [x, y]
 | .un op x => [x]
 | .conv k x => [x]
 | .mkfn f caps => caps
 | .mkslice sz z n c => [n, c]
 | .slice sz x lo hi mx => x :: (ZsY lo ++ (ZsY hi ++ ZsY mx))
 | .faddr off x => [x]
 | .field off n ag x => [x]
 | .iaddr sz x i => [x, i]
 | .index len sz ag x i => [x, i]
 | .indexS x i => [x, i]
 | .iaddrA len sz x i => [x, i]
 | .len x => [x]
 | .append sz x y => [x, y]
 | .appendD sz x y => [x, y]
 | .mx isMax xs => xs
 | .extract x i => [x]
 | .mkif t x => [x]
 | .call f args => args
 | .callv x args => x :: args
 | .invoke tab x args => x :: args
 | .mkmap => []
 | .mapset _ m k v => [m, k, v]
 | .mapget _ _ m k => [m, k]
 | .panic => []
 | .callk _ args _ => args
 | .nilq x => [x]
 | .spec _ args => args
theorem Zeh {e e' : Env} : ∀ (l : List Opd), (∀ y ∈ l, y.val e = y.val e') → vals e l = vals e' l
 | [], _ => rfl
 | y :: l, h => by
  simp only [vals]
  rw [h y (by simp), Zeh l (fun z hz => h z (by simp [hz]))]
theorem Zjy {e e' : Env} {x : Option Opd} (h : ∀ y ∈ ZsY x, y.val e = y.val e') : x.map (·.val e) = x.map (·.val e') := by
 cases x with
 | none => rfl
 | some y => simp only [Option.map_some]; rw [h y (by simp [ZsY])]
theorem Zrz {Γ : Ctx} {cf : Za9} {e e' : Env} {nid : Nat} {H : Zk} : ∀ (op : O), (∀ y ∈ ZqG op, y.val e = y.val e') → opE Γ cf e nid H op = opE Γ cf e' nid H op := by
 intro op h
 cases op <;> simp only [ZqG, List.mem_cons, List.not_mem_nil, or_false, forall_eq_or_imp, forall_eq, List.mem_append] at h
 case build z ps =>
  simp only [opE]
  have : (ps.map fun (o, s, x) => (o, s, x.val e)) = ps.map fun (o, s, x) => (o, s, x.val e') := by
   apply List.map_congr_left
   rintro ⟨o, s, x⟩ hx
   simp only [h x (List.mem_map.2 ⟨_, hx, rfl⟩)]
  rw [this]
 case bslice sz z len ps =>
  simp only [opE]
  have : (ps.map fun (i, x) => (i, x.val e)) = ps.map fun (i, x) => (i, x.val e') := by
   apply List.map_congr_left
   rintro ⟨i, x⟩ hx
   simp only [h x (List.mem_map.2 ⟨_, hx, rfl⟩)]
  rw [this]
 case mkfn f caps =>
  cases caps with
  | nil => rfl
  | cons c cs => show ZcC (.fn f (vals e (c :: cs))) = ZcC (.fn f (vals e' (c :: cs))); rw [Zeh (c :: cs) h]
 case spec id args => simp only [opE]; rw [Zeh args h]
 case mx b xs => simp only [opE]; rw [Zeh xs h]
 case call f args => simp only [opE]; rw [Zeh args h]
 case callk f args chk => simp only [opE]; rw [Zeh args h]
 case callv x args => rw [Zfk, Zfk, h.1, Zeh args h.2]
 case invoke tab x args => rw [ZeK, ZeK, h.1, Zeh args h.2]
 case slice sz x lo hi mx =>
  simp only [opE]
  rw [h.1, Zjy (x := lo) (fun y hy => h.2 y (.inl hy)), Zjy (x := hi) (fun y hy => h.2 y (.inr (.inl hy))), Zjy (x := mx) (fun y hy => h.2 y (.inr (.inr hy)))]
 all_goals (first | rfl | (simp only [opE]; simp only [h]; done) | (simp only [opE, h.1, h.2]; done) | (simp only [opE]; rw [h]; done) | skip)
def Zrn : O → Bool
 | .mov _ => true
 | .pick _ _ _ => true
 | .build _ _ => true
 | .bin _ _ _ => true
 | .eqv _ _ _ _ => true
 | .un _ _ => true
 | .conv _ _ => true
 | .mkfn _ _ => true
 | .field _ _ _ _ => true
 | .index _ _ _ _ _ => true
 | .indexS _ _ => true
 | .mx _ _ => true
 | .extract _ _ => true
 | .nilck _ => true
 | .faddr _ _ => true
 | _ => false
theorem ZuA {Γ : Ctx} {cf : Za9} {e : Env} {nid nid' : Nat} {H H' : Zk} {op : O} (h : Zrn op = true) : opE Γ cf e nid H op = opE Γ cf e nid' H' op := by
 cases op <;> first | rfl | (cases h; done)
def Zra : O → Bool
 | .slice _ _ _ _ _ => true
 | .faddr _ _ => true
 | .iaddr _ _ _ => true
 | .iaddrA _ _ _ _ => true
 | .len _ => true
 | _ => false
def ZiH (H H' : Zk) : Prop := ∀ b blk, nth H b = some blk → blk ≠ .dead → ∃ blk', nth H' b = some blk' ∧ blk.like blk'
section
variable {H H' : Zk}
theorem ZiH.arr (h : ZiH H H') {b sz : Nat} {xs : List D} (hb : nth H b = some (.arr sz xs)) : ∃ ys, nth H' b = some (.arr sz ys) ∧ ys.length = xs.length := by
 obtain ⟨blk', h1, h2⟩ := h b _ hb (by simp)
 cases blk' <;> simp [Blk.like] at h2
 obtain ⟨rfl, h2⟩ := h2
 exact ⟨_, h1, h2⟩
theorem ZiH.cells (h : ZiH H H') {b : Nat} {cs : List V} (hb : nth H b = some (.cells cs)) : ∃ ds, nth H' b = some (.cells ds) := by
 obtain ⟨blk', h1, h2⟩ := h b _ hb (by simp)
 cases blk' <;> simp [Blk.like] at h2
 exact ⟨_, h1⟩
theorem Zmn (h : ZiH H H') {x : V} {xs : List D} (he : elems H x = some xs) : ∃ ys, elems H' x = some ys ∧ ys.length = xs.length ∧ ∀ own zs, x = .d (.list own zs) → ys = xs := by
 unfold elems at he
 split at he
 ·cases he; exact ⟨_, rfl, rfl, fun _ _ _ => rfl⟩
 ·rename_i b sz
  cases hb : nth H b with
  | none => rw [hb] at he; cases he
  | some blk =>
   rw [hb] at he
   cases blk <;> try (cases he; done)
   rename_i sz' xs'
   obtain ⟨ys, h1, h2⟩ := h.arr hb
   dsimp only at he
   cases hs : Nat.beq sz sz' with
   | false => rw [hs] at he; cases he
   | true =>
    rw [hs] at he
    cases he
    exact ⟨ys, by simp only [elems, h1, hs, cond_true], h2, fun _ _ h => by cases h⟩
 ·rename_i b sz o len
  cases hb : nth H b with
  | none => rw [hb] at he; cases he
  | some blk =>
   rw [hb] at he
   cases blk <;> try (cases he; done)
   rename_i sz' xs'
   obtain ⟨ys, h1, h2⟩ := h.arr hb
   dsimp only at he
   cases hs : Nat.beq sz sz' with
   | false => rw [hs] at he; cases he
   | true =>
    rw [hs] at he
    cases he
    exact ⟨(ys.drop o).take len, by simp only [elems, h1, hs, cond_true], by simp [h2], fun _ _ h => by cases h⟩
 ·cases he; exact ⟨[], rfl, rfl, fun _ _ h => by cases h⟩
 ·cases he
theorem ZlA (h : ZiH H H') {off : Nat} {x v : V} (hf : ZhC H off x = some v) : ZhC H' off x = some v := hf
theorem Zou (h : ZiH H H') {len sz : Nat} {x i v : V} (hf : Zfe H len sz x i = some v) : Zfe H' len sz x i = some v := by
 unfold Zfe at hf ⊢
 split at hf
 ·rename_i k m
  cases hc : (decide (0 ≤ m) && decide (m < len)) with
  | false => rw [hc] at hf; cases hf
  | true =>
   rw [hc] at hf
   exact ZlA h hf
 ·cases hf
theorem Zr9 (h : ZiH H H') {x : V} {r : D} (hf : Zn6 H x = some r) : Zn6 H' x = some r := by
 unfold Zn6 at hf ⊢
 cases he : elems H x with
 | none => rw [he] at hf; cases hf
 | some xs =>
  rw [he] at hf
  obtain ⟨ys, h1, h2, _⟩ := Zmn h he
  rw [h1]
  cases hf
  simp only [h2]
theorem Zph {α : Type} {xs ys : List α} {i : Int} {x : α} (hl : ys.length = xs.length) (h : ZC xs i = some x) : ∃ y, ZC ys i = some y := by
 obtain ⟨h0, h1, _⟩ := Zlt xs i x h
 have hlt : i.toNat < ys.length := by omega
 refine ⟨ys[i.toNat], ?_⟩
 unfold ZC
 simp only [h0, decide_true, cond_true, ZX]
 exact List.getElem?_eq_getElem hlt
theorem ZpG (h : ZiH H H') {sz : Nat} {x i v : V} (hf : Zgp H sz x i = some v) : Zgp H' sz x i = some v := by
 unfold Zgp at hf ⊢
 split at hf
 ·rename_i k m
  split at hf
  ·exact hf
  ·rename_i b sz'
   cases hb : nth H b with
   | none => rw [hb] at hf; cases hf
   | some blk =>
    rw [hb] at hf
    cases blk <;> try (cases hf; done)
    rename_i sz'' xs
    obtain ⟨ys, h1, h2⟩ := h.arr hb
    rw [h1]
    dsimp only at hf ⊢
    cases hs : (Nat.beq sz sz' && Nat.beq sz sz'') with
    | false => rw [hs] at hf; cases hf
    | true =>
     rw [hs] at hf
     simp only [cond_true] at hf ⊢
     cases hg : ZC xs m with
     | none => rw [hg] at hf; cases hf
     | some z =>
      rw [hg] at hf
      obtain ⟨y, hy⟩ := Zph h2 hg
      rw [hy]; exact hf
  ·rename_i b sz' o len
   cases hb : nth H b with
   | none => rw [hb] at hf; cases hf
   | some blk =>
    rw [hb] at hf
    cases blk <;> try (cases hf; done)
    rename_i sz'' xs
    obtain ⟨ys, h1, h2⟩ := h.arr hb
    rw [h1]
    dsimp only at hf ⊢
    cases hs : (Nat.beq sz sz' && Nat.beq sz sz'') with
    | false => rw [hs] at hf; cases hf
    | true =>
     rw [hs] at hf
     simp only [cond_true] at hf ⊢
     cases hg : ZC ((xs.drop o).take len) m with
     | none => rw [hg] at hf; cases hf
     | some z =>
      rw [hg] at hf
      obtain ⟨y, hy⟩ := Zph (ys := (ys.drop o).take len) (by simp [h2]) hg
      rw [hy]; exact hf
  ·cases hf
 ·cases hf
theorem ZpA (h : ZiH H H') {sz : Nat} {x v : V} {lo hi mx : Option V} (hf : Zgn H sz x lo hi mx = some v) : Zgn H' sz x lo hi mx = some v := by
 unfold Zgn at hf ⊢
 cases he : elems H x with
 | none => rw [he] at hf; cases hf
 | some xs =>
  rw [he] at hf
  obtain ⟨ys, h1, h2, h3⟩ := Zmn h he
  rw [h1]
  dsimp only at hf ⊢
  rw [h2]
  cases hl : Zf3 lo 0 with
  | none => rw [hl] at hf; cases hf
  | some l =>
   rw [hl] at hf
   cases hh : Zf3 hi xs.length with
   | none => rw [hh] at hf; cases hf
   | some n =>
    rw [hh] at hf
    dsimp only at hf ⊢
    cases hc : (Nat.ble l n && Nat.ble n xs.length) with
    | false => rw [hc] at hf; cases hf
    | true =>
     rw [hc] at hf
     simp only [cond_true] at hf ⊢
     cases mx with
     | some m => exact hf
     | none =>
      dsimp only at hf ⊢
      split at hf
      ·rename_i own zs
       rw [h3 own zs rfl]; exact hf
      ·exact hf
      ·exact hf
      ·exact hf
      ·cases hf
theorem Zt1 (h : ZiH H H') {Γ : Ctx} {cf : Za9} {e : Env} {nid nid' : Nat} {op : O} {r : V × List (Nat × Blk) × List Blk} (hc : Zra op = true) (ho : opE Γ cf e nid H op = some r) : opE Γ cf e nid' H' op = some r := by
 cases op <;> first | (cases hc; done) | skip
 case slice sz x lo hi mx =>
  simp only [opE] at ho ⊢
  cases hf : Zgn H sz (x.val e) (lo.map (·.val e)) (hi.map (·.val e)) (mx.map (·.val e)) with
  | none => rw [hf] at ho; cases ho
  | some v => rw [hf] at ho; rw [ZpA h hf]; exact ho
 case faddr off x =>
  simp only [opE] at ho ⊢
  cases hf : ZhC H off (x.val e) with
  | none => rw [hf] at ho; cases ho
  | some v => rw [hf] at ho; rw [ZlA h hf]; exact ho
 case iaddr sz x i =>
  simp only [opE] at ho ⊢
  cases hf : Zgp H sz (x.val e) (i.val e) with
  | none => rw [hf] at ho; cases ho
  | some v => rw [hf] at ho; rw [ZpG h hf]; exact ho
 case iaddrA len sz x i =>
  simp only [opE] at ho ⊢
  cases hf : Zfe H len sz (x.val e) (i.val e) with
  | none => rw [hf] at ho; cases ho
  | some v => rw [hf] at ho; rw [Zou h hf]; exact ho
 case len x =>
  simp only [opE] at ho ⊢
  cases hf : Zn6 H (x.val e) with
  | none => rw [hf] at ho; cases ho
  | some v => rw [hf] at ho; rw [Zr9 h hf]; exact ho
end
end Go.Proofs.YtnmbdjkbaihicaaDoorE
namespace Go.Proofs.YtnmbdjkbaihicaaDoorE
open Go
set_option linter.unusedVariables false
set_option linter.unusedSimpArgs false
def ZkD (o : Oper) : List Nat := (o.after.toList.filter (Region.binds .any)).map (·.on)
def tb (b i : Nat) : Bool := !(Nat.beq (Nat.land (Nat.shiftRight b i) 1) 0)
def Zk9 (acc : List Nat) : List Nat → Nat
 | [] => 0
 | i :: l => Nat.lor (Nat.lor (Nat.shiftLeft 1 i) (match nth acc i with | some b => b | none => 0)) (Zk9 acc l)
def Zg0 (acc : List Nat) : List Oper → List Nat
 | [] => acc
 | o :: os => Zg0 (acc ++ [Zk9 acc (ZkD o)]) os
def Zj7 (os : List Oper) : List Nat := Zg0 [] os
theorem Zqd (b i : Nat) : tb b i = b.testBit i := by
 unfold tb Nat.testBit
 rw [show Nat.land (Nat.shiftRight b i) 1 = 1 &&& (b >>> i) from Nat.and_comm _ _]
 cases h : (1 &&& b >>> i) with
 | zero => rfl
 | succ n => rfl
theorem Zl1 (acc : List Nat) (k : Nat) : ∀ (l : List Nat), tb (Zk9 acc l) k = true → ∃ i ∈ l, k = i ∨ ∃ b, acc[i]? = some b ∧ tb b k = true
 | [], h => by rw [Zqd] at h; simp [Zk9] at h
 | i :: l, h => by
  rw [Zqd] at h
  change ((1 <<< i ||| (match nth acc i with | some b => b | none => 0)) ||| Zk9 acc l).testBit k = true at h
  rw [Nat.testBit_or, Nat.testBit_or, Bool.or_eq_true, Bool.or_eq_true] at h
  rcases h with (h | h) | h
  ·rw [Nat.testBit_shiftLeft] at h
   simp only [Bool.and_eq_true, decide_eq_true_eq, Nat.testBit_one_eq_true_iff_self_eq_zero] at h
   exact ⟨i, by simp, .inl (by omega)⟩
  ·cases ha : nth acc i with
   | none => rw [ha] at h; simp at h
   | some b => rw [ha] at h; exact ⟨i, by simp, .inr ⟨b, by rw [← ZX]; exact ha, by rw [Zqd]; exact h⟩⟩
  ·obtain ⟨j, h1, h2⟩ := Zl1 acc k l (by rw [Zqd]; exact h)
   exact ⟨j, by simp [h1], h2⟩
theorem Zie : ∀ (os : List Oper) (acc : List Nat), (Zg0 acc os).length = acc.length + os.length ∧ (∀ i, i < acc.length → (Zg0 acc os)[i]? = acc[i]?) ∧
  ∀ (j : Nat) o, os[j]? = some o → (Zg0 acc os)[acc.length + j]? = some (Zk9 ((Zg0 acc os).take (acc.length + j)) (ZkD o))
 | [], acc => ⟨rfl, fun _ _ => rfl, fun j o h => by simp at h⟩
 | o :: os, acc => by
  obtain ⟨h1, h2, h3⟩ := Zie os (acc ++ [Zk9 acc (ZkD o)])
  simp only [Zg0]
  rw [List.length_append, List.length_singleton] at h1 h2 h3
  refine ⟨by rw [h1, List.length_cons]; omega, fun i hi => ?_, fun j o' hj => ?_⟩
  ·rw [h2 i (by omega), List.getElem?_append_left hi]
  ·cases j with
   | zero =>
    simp at hj; subst hj
    have htake : (Zg0 (acc ++ [Zk9 acc (ZkD o)]) os).take (acc.length + 0) = acc := by
     apply List.ext_getElem?
     intro i
     rw [List.getElem?_take]
     by_cases hi : i < acc.length
     ·rw [if_pos (by omega), h2 i (by omega), List.getElem?_append_left hi]
     ·rw [if_neg (by omega), List.getElem?_eq_none (by omega)]
    rw [htake, Nat.add_zero, h2 acc.length (by omega), List.getElem?_append_right (Nat.le_refl _)]
    simp
   | succ j =>
    have e1 := h3 j o' (by simpa using hj)
    rw [show acc.length + 1 + j = acc.length + (j + 1) by omega] at e1
    exact e1
theorem Zrh {os : List Oper} {j k b : Nat} {o : Oper} (ho : os[j]? = some o) (hb : (Zj7 os)[j]? = some b) (h : tb b k = true) : ∃ i ∈ ZkD o, k = i ∨ (i < j ∧ ∃ b', (Zj7 os)[i]? = some b' ∧ tb b' k = true) := by
 obtain ⟨_, _, h3⟩ := Zie os []
 have e := h3 j o ho
 simp only [List.length_nil, Nat.zero_add] at e
 rw [show Zg0 [] os = Zj7 os from rfl, hb] at e
 cases e
 obtain ⟨i, h1, h2⟩ := Zl1 _ k _ h
 refine ⟨i, h1, ?_⟩
 rcases h2 with h2 | ⟨b', f1, f2⟩
 ·exact .inl h2
 ·rw [List.getElem?_take] at f1
  by_cases hi : i < j
  ·rw [if_pos hi] at f1
   exact .inr ⟨hi, b', f1, f2⟩
  ·rw [if_neg hi] at f1; cases f1
structure Zck where
 E : Nat → Env
 HH : Nat → Zk
 W : Nat → Bool
 VV : Nat → V
 UP : Nat → List (Nat × Blk)
 NW : Nat → List Blk
def Zck.pos (t : Zck) (j : Nat) : List (Nat × Nat) := (List.range j).map fun i => ((t.HH i).length, (t.NW i).length)
structure Zck.OK (t : Zck) (Γ : Ctx) (cf : Za9) (p0 : List (Nat × Nat)) (l : List Op1) (e : Env) (H : Zk) (e' : Env) (H' : Zk) : Prop where
 e0 : t.E 0 = e
 h0 : t.HH 0 = H
 e1 : t.E l.length = e'
 h1 : t.HH l.length = H'
 w : ∀ (j : Nat) p, l[j]? = some p → ZeE (t.E j) p.guard = some (t.W j)
 e : ∀ (j : Nat) p, l[j]? = some p → t.E (j + 1) = Zlx (t.E j) p.dst (t.VV j)
 h : ∀ (j : Nat) p, l[j]? = some p → t.HH (j + 1) = ZdC (t.HH j) (t.UP j) ++ t.NW j
 y : ∀ (j : Nat) p, l[j]? = some p → t.W j = true → opE Γ cf (t.E j) (t.HH j).length (ZeU (t.HH j) (p0 ++ t.pos j) p.mask) p.op = some (t.VV j, t.UP j, t.NW j) ∧ ZlE (t.E j) (t.HH j) p (t.UP j) (t.NW j) = true
 n : ∀ (j : Nat) p, l[j]? = some p → t.W j = false → t.VV j = .d (.tup []) ∧ t.UP j = [] ∧ t.NW j = []
def Zhy {α : Type} (a : α) (f : Nat → α) : Nat → α
 | 0 => a
 | n + 1 => f n
theorem Zma {Γ : Ctx} {cf : Za9} : ∀ (l : List Op1) (p0 : List (Nat × Nat)) (e : Env) (H : Zk) (e' : Env) (H' : Zk), Zey Γ cf p0 l e H = some (e', H') → ∃ t : Zck, t.OK Γ cf p0 l e H e' H'
 | [], p0, e, H, e', H', h => by
  simp only [Zey, Option.some.injEq, Prod.mk.injEq] at h
  obtain ⟨rfl, rfl⟩ := h
  exact ⟨⟨fun _ => e, fun _ => H, fun _ => false, fun _ => .bad, fun _ => [], fun _ => []⟩, rfl, rfl, rfl, rfl, by simp, by simp, by simp, by simp, by simp⟩
 | o :: l, p0, e, H, e', H', h => by
  simp only [Zey] at h
  have step : ∀ (b : Bool) (v : V) (up : List (Nat × Blk)) (nw : List Blk), ZeE e o.guard = some b → Zey Γ cf (p0 ++ [(H.length, nw.length)]) l (Zlx e o.dst v) (ZdC H up ++ nw) = some (e', H') →
    (b = true → opE Γ cf e H.length (ZeU H p0 o.mask) o.op = some (v, up, nw) ∧ ZlE e H o up nw = true) → (b = false → v = .d (.tup []) ∧ up = [] ∧ nw = []) → ∃ t : Zck, t.OK Γ cf p0 (o :: l) e H e' H' := by
   intro b v up nw hw hr hy hn
   obtain ⟨t, ht⟩ := Zma l _ _ _ e' H' hr
   refine ⟨⟨Zhy e t.E, Zhy H t.HH, Zhy b t.W, Zhy v t.VV, Zhy up t.UP, Zhy nw t.NW⟩, rfl, rfl, ht.e1, ht.h1, ?_, ?_, ?_, ?_, ?_⟩
   ·intro j p hj
    cases j with
    | zero => simp at hj; subst hj; exact hw
    | succ j => exact ht.w j p (by simpa using hj)
   ·intro j p hj
    cases j with
    | zero => simp at hj; subst hj; exact ht.e0
    | succ j => exact ht.e j p (by simpa using hj)
   ·intro j p hj
    cases j with
    | zero => simp at hj; subst hj; exact ht.h0
    | succ j => exact ht.h j p (by simpa using hj)
   ·intro j p hj hwj
    cases j with
    | zero =>
     simp at hj; subst hj
     have := hy hwj
     simpa [Zck.pos, Zhy] using this
    | succ j =>
     have := ht.y j p (by simpa using hj) hwj
     have hpos : p0 ++ Zck.pos ⟨Zhy e t.E, Zhy H t.HH, Zhy b t.W, Zhy v t.VV, Zhy up t.UP, Zhy nw t.NW⟩ (j + 1) = p0 ++ [(H.length, nw.length)] ++ t.pos j := by
      unfold Zck.pos
      rw [List.range_succ_eq_map, List.map_cons, List.map_map, List.append_assoc]
      rfl
     rw [hpos]
     exact this
   ·intro j p hj hwj
    cases j with
    | zero => exact hn hwj
    | succ j => exact ht.n j p (by simpa using hj) hwj
  cases hw : ZeE e o.guard with
  | none => rw [hw] at h; cases h
  | some b =>
   rw [hw] at h
   cases b with
   | false =>
    exact step false (.d (.tup [])) [] [] hw (by simpa [ZdC] using h) (fun h => by cases h) (fun _ => ⟨rfl, rfl, rfl⟩)
   | true =>
    dsimp only at h
    cases ho : opE Γ cf e H.length (ZeU H p0 o.mask) o.op with
    | none => rw [ho] at h; cases h
    | some q =>
     obtain ⟨v, up, nw⟩ := q
     rw [ho] at h
     dsimp only at h
     cases hb : ZlE e H o up nw with
     | false => rw [hb] at h; cases h
     | true =>
      rw [hb] at h
      exact step true v up nw hw h (fun _ => ⟨ho, hb⟩) (fun h => by cases h)
end Go.Proofs.YtnmbdjkbaihicaaDoorE
namespace Go.Proofs.YtnmbdjkbaihicaaDoorE
open Go
set_option linter.unusedVariables false
set_option linter.unusedSimpArgs false
def ZaA (p : Op1) : Nat := match p.eff with | 0 => bif Zrn p.op then 0 else bif Zra p.op then 1 else 2 | 1 => 1 | 3 => 3 | _ => 4
def ZpB (p : Op1) : Bool := match p.eff with | 3 => (match p.op with | .store _ _ _ => true | .append _ _ _ => true | _ => false) | _ => true
def ZpN (p : Op1) : Bool := match p.eff with | 1 => (match p.op, p.guard with | .load 1 false (.t _), none => true | _, _ => false) | _ => true
def Zth : List Opd → Nat → Bool
  | [], _ => false
  | .t i :: l, s => Nat.beq i s || Zth l s
  | _ :: l, s => Zth l s
def ZrJ (p q : Op1) : Bool := match p.op, q.op with | .callk _ _ chk, .load _ _ (.t s) => Zth chk s | _, _ => false
def Ztk : Opd → Option Nat
  | .t i => some i
  | .c _ => none
def ZcY (p : Op1) : List Nat := (ZqG p.op).filterMap Ztk ++ (match p.guard with | some (s, _) => [s] | none => [])
structure Row where
  p : Op1
  c : Nat
  s : List Nat
  b : Nat
def Zpv (i : Nat) (p : Row) (j : Nat) (q : Row) : Bool :=
  Nat.ble p.c 2 || (Nat.beq i j || (tb q.b i || (tb p.b j || (Nat.beq q.c 0 || ((Nat.beq q.c 1 && (Nat.beq p.c 3 && !(Nat.beq q.p.eff 1))) || (Nat.beq q.p.eff 1 && (Nat.blt j i && ZrJ p.p q.p)))))))
def ZuR (p q : Op1) : Bool := match p.dst, q.dst with | some a, some b => !(Nat.beq a b) | _, _ => true
def Zlu (i : Nat) (p q : Row) : Bool := ZuR p.p q.p && (Nat.ble 3 q.c || (tb q.b i || Zg1 q.p.mask i))
def ZnV (i : Nat) (p : Row) (j : Nat) (q : Row) : Bool := match p.p.dst with | some d => tb q.b i || (!(Zg1 q.s d) || (tb p.b j || Nat.beq i j)) | none => true
def Zpp (i : Nat) (p : Row) (j : Nat) (q : Row) : Bool := !(Nat.beq q.p.eff 1) || (Nat.blt i j || (match p.p.dst with | some d => !(Zg1 q.s d) | none => true))
def Zrv {α : Type} (f : Nat → α → Bool) : Nat → List α → Bool
  | _, [] => true
  | i, a :: l => f i a && Zrv f (i + 1) l
theorem Zfh {α : Type} {f : Nat → α → Bool} : ∀ (l : List α) (k : Nat), Zrv f k l = true → ∀ (i : Nat) a, l[i]? = some a → f (k + i) a = true
  | [], k, _, i, a, h => by simp at h
  | x :: l, k, hk, i, a, h => by
    simp only [Zrv, Bool.and_eq_true] at hk
    cases i with
    | zero => simp at h; subst h; exact hk.1
    | succ i =>
      have := Zfh l (k + 1) hk.2 i a (by simpa using h)
      rwa [show k + 1 + i = k + (i + 1) by omega] at this
def ZmE : List Op1 → List Nat → List Row
  | p :: l, b :: bs => ⟨p, ZaA p, ZcY p, b⟩ :: ZmE l bs
  | _, _ => []
theorem ZhS : ∀ (l : List Op1) (bs : List Nat) (j : Nat) (p : Op1) (b : Nat), l[j]? = some p → bs[j]? = some b → (ZmE l bs)[j]? = some ⟨p, ZaA p, ZcY p, b⟩
  | [], bs, j, p, b, h, _ => by simp at h
  | _ :: _, [], j, p, b, _, h => by simp at h
  | x :: l, y :: bs, 0, p, b, h1, h2 => by simp at h1 h2; subst h1; subst h2; rfl
  | x :: l, y :: bs, j + 1, p, b, h1, h2 => by simpa [ZmE] using ZhS l bs j p b (by simpa using h1) (by simpa using h2)
def Zt (P : Program) (G : Zbr) (N : Nat) (os : Array Oper) (l : List Op1) : Bool :=
  P.follows .mixedOrders && (ZmB P G N os os.toList l && (Zrv (fun j o => (ZkD o).all fun i => Nat.blt i j) 0 os.toList &&
    (let rows := ZmE l (Zj7 os.toList)
     Zrv (fun j q => (ZpB q.p && (ZpN q.p && (Nat.ble q.c 2 || q.p.mask.isEmpty))) && Zrv (fun i p => Zpv i p j q && (ZnV i p j q && (Zpp i p j q && (!(Nat.blt i j) || Zlu i p q)))) 0 rows) 0 rows)))
structure Chk (P : Program) (G : Zbr) (N : Nat) (os : Array Oper) (l : List Op1) (B : Nat → Nat → Prop) : Prop where
  mixed : P.follows .mixedOrders = true
  oper : ∀ (j : Nat) o p, os[j]? = some o → l[j]? = some p → Zl2 P G N os o p = true
  len : os.size = l.length
  pre : ∀ (j : Nat) o, os[j]? = some o → ∀ i ∈ ZkD o, i < j
  bef : ∀ (j : Nat) o k, os[j]? = some o → B k j → ∃ i ∈ ZkD o, k = i ∨ (i < j ∧ B k i)
  pair : ∀ (i j : Nat) p q, l[i]? = some p → l[j]? = some q → 3 ≤ ZaA p → i = j ∨ B i j ∨ B j i ∨ ZaA q = 0 ∨ (ZaA q = 1 ∧ ZaA p = 3 ∧ q.eff ≠ 1) ∨ (q.eff = 1 ∧ j < i ∧ ZrJ p q = true)
  dst : ∀ (i j : Nat) p q d, l[i]? = some p → l[j]? = some q → p.dst = some d → q.dst = some d → i = j
  early : ∀ (i j : Nat) p q, l[i]? = some p → l[j]? = some q → i < j → 3 ≤ ZaA q ∨ B i j ∨ i ∈ q.mask
  reads : ∀ (i j : Nat) p q d, l[i]? = some p → l[j]? = some q → p.dst = some d → d ∈ ZcY q → B i j ∨ B j i ∨ i = j
  eff3 : ∀ (j : Nat) q, l[j]? = some q → ZpB q = true
  mask : ∀ (j : Nat) q, l[j]? = some q → 3 ≤ ZaA q → q.mask = []
  eff1 : ∀ (j : Nat) q, l[j]? = some q → ZpN q = true
  stay : ∀ (i j : Nat) p q d, l[i]? = some p → l[j]? = some q → q.eff = 1 → j ≤ i → p.dst = some d → ¬ d ∈ ZcY q
theorem Zkl : ∀ (l : List Nat) (b : Nat), Zg1 l b = true ↔ b ∈ l
  | [], b => by simp [Zg1]
  | a :: l, b => by
    simp only [Zg1]
    cases h : Nat.beq a b with
    | true => obtain rfl := Nat.eq_of_beq_eq_true h; simp
    | false =>
      have hne : ¬ b = a := fun h' => by subst h'; rw [Nat.beq_refl] at h; cases h
      simp [Zkl l b, hne]
theorem Znu {P : Program} {G : Zbr} {N : Nat} {ops : Array Oper} : ∀ (os : List Oper) (l : List Op1), ZmB P G N ops os l = true → os.length = l.length ∧ ∀ (j : Nat) o p, os[j]? = some o → l[j]? = some p → Zl2 P G N ops o p = true
  | [], [], _ => ⟨rfl, fun j o p h => by simp at h⟩
  | [], _ :: _, h => by cases h
  | _ :: _, [], h => by cases h
  | o :: os, p :: l, h => by
    simp only [ZmB, Bool.and_eq_true] at h
    obtain ⟨h1, h2⟩ := Znu os l h.2
    refine ⟨by simp [h1], fun j o' p' ho hp => ?_⟩
    cases j with
    | zero => simp at ho hp; subst ho; subst hp; exact h.1
    | succ j => exact h2 j o' p' (by simpa using ho) (by simpa using hp)
theorem ZpV {P : Program} {G : Zbr} {N : Nat} {os : Array Oper} {l : List Op1} (h : Zt P G N os l = true) : ∃ B, Chk P G N os l B := by
  unfold Zt at h
  simp only [Bool.and_eq_true] at h
  obtain ⟨h1, h2, h3, h4⟩ := h
  obtain ⟨l1, l2⟩ := Znu _ _ h2
  have bl : (Zj7 os.toList).length = l.length := by
    have := (Zie os.toList []).1
    rw [show Zg0 [] os.toList = Zj7 os.toList from rfl] at this
    rw [this, l1]; simp
  have row : ∀ (j : Nat) p, l[j]? = some p → ∃ b, (Zj7 os.toList)[j]? = some b ∧ (ZmE l (Zj7 os.toList))[j]? = some ⟨p, ZaA p, ZcY p, b⟩ := fun j p hp => by
    have hj := (List.getElem?_eq_some_iff.1 hp).1
    refine ⟨(Zj7 os.toList)[j]'(by omega), List.getElem?_eq_getElem (by omega), ZhS _ _ _ _ _ hp (List.getElem?_eq_getElem (by omega))⟩
  have pairs : ∀ (i j : Nat) p q bp bq, l[i]? = some p → l[j]? = some q → (Zj7 os.toList)[i]? = some bp → (Zj7 os.toList)[j]? = some bq →
      Zpv i ⟨p, ZaA p, ZcY p, bp⟩ j ⟨q, ZaA q, ZcY q, bq⟩ = true ∧ ZnV i ⟨p, ZaA p, ZcY p, bp⟩ j ⟨q, ZaA q, ZcY q, bq⟩ = true ∧ Zpp i ⟨p, ZaA p, ZcY p, bp⟩ j ⟨q, ZaA q, ZcY q, bq⟩ = true ∧ (i < j → Zlu i ⟨p, ZaA p, ZcY p, bp⟩ ⟨q, ZaA q, ZcY q, bq⟩ = true) := fun i j p q bp bq hp hq e1 e2 => by
    have a1 := Zfh _ _ h4 j _ (ZhS _ _ _ _ _ hq e2)
    simp only [Bool.and_eq_true, Nat.zero_add] at a1
    have a2 := Zfh _ _ a1.2 i _ (ZhS _ _ _ _ _ hp e1)
    simp only [Bool.and_eq_true, Nat.zero_add, Bool.or_eq_true, Bool.not_eq_true'] at a2
    refine ⟨a2.1, a2.2.1, a2.2.2.1, fun hij => ?_⟩
    rcases a2.2.2.2 with a3 | a3
    · rw [show Nat.blt i j = Nat.ble (i + 1) j from rfl, Nat.ble_eq_true_of_le hij] at a3; cases a3
    · exact a3
  refine ⟨fun i j => ∃ b, (Zj7 os.toList)[j]? = some b ∧ tb b i = true, h1, fun j o p ho hp => l2 j o p (by simpa using ho) hp, by simpa using l1, fun j o ho i hi => ?_, fun j o k ho ⟨b, e1, e2⟩ => ?_, fun i j p q hp hq hc => ?_, fun i j p q d hp hq hd hd' => ?_, fun i j p q hp hq hij => ?_, fun i j p q d hp hq hd hs => ?_, fun j q hq => ?_, fun j q hq hc => ?_, fun j q hq => ?_, fun i j p q d hp hq he hij hd => ?_⟩
  · have a1 := Zfh _ _ h3 j o (by simpa using ho)
    simp only [List.all_eq_true, Nat.zero_add] at a1
    have := a1 i hi
    simp [Nat.blt] at this; omega
  · obtain ⟨i, f1, f2⟩ := Zrh (by simpa using ho) e1 e2
    exact ⟨i, f1, f2⟩
  · obtain ⟨bp, e1, _⟩ := row i p hp
    obtain ⟨bq, e2, _⟩ := row j q hq
    have a := (pairs i j p q bp bq hp hq e1 e2).1
    simp only [Zpv, Bool.or_eq_true, Bool.and_eq_true, Nat.ble_eq] at a
    rcases a with a | a | a | a | a | a
    · omega
    · exact .inl (Nat.eq_of_beq_eq_true a)
    · exact .inr (.inl ⟨bq, e2, a⟩)
    · exact .inr (.inr (.inl ⟨bp, e1, a⟩))
    · exact .inr (.inr (.inr (.inl (Nat.eq_of_beq_eq_true a))))
    · rcases a with a | a
      · refine .inr (.inr (.inr (.inr (.inl ⟨Nat.eq_of_beq_eq_true a.1, Nat.eq_of_beq_eq_true a.2.1, fun h => ?_⟩))))
        rw [h] at a
        exact absurd a.2.2 (by decide)
      · refine .inr (.inr (.inr (.inr (.inr ⟨Nat.eq_of_beq_eq_true a.1, ?_, a.2.2⟩))))
        have := a.2.1
        simp [Nat.blt] at this; omega
  · obtain ⟨bp, e1, _⟩ := row i p hp
    obtain ⟨bq, e2, _⟩ := row j q hq
    have key : ∀ (i j : Nat) p q bp bq, l[i]? = some p → l[j]? = some q → (Zj7 os.toList)[i]? = some bp → (Zj7 os.toList)[j]? = some bq → p.dst = some d → q.dst = some d → ¬ i < j := fun i j p q bp bq hp hq e1 e2 hd hd' hlt => by
      have a := (pairs i j p q bp bq hp hq e1 e2).2.2.2 hlt
      simp [Zlu, ZuR, hd, hd'] at a
    have k1 := key i j p q bp bq hp hq e1 e2 hd hd'
    have k2 := key j i q p bq bp hq hp e2 e1 hd' hd
    omega
  · obtain ⟨bp, e1, _⟩ := row i p hp
    obtain ⟨bq, e2, _⟩ := row j q hq
    have a := (pairs i j p q bp bq hp hq e1 e2).2.2.2 hij
    simp only [Zlu, Bool.or_eq_true, Bool.and_eq_true, Nat.ble_eq] at a
    rcases a.2 with a | a | a
    · exact .inl a
    · exact .inr (.inl ⟨bq, e2, a⟩)
    · exact .inr (.inr ((Zkl _ _).1 a))
  · obtain ⟨bp, e1, _⟩ := row i p hp
    obtain ⟨bq, e2, _⟩ := row j q hq
    have a := (pairs i j p q bp bq hp hq e1 e2).2.1
    simp only [ZnV, hd, Bool.or_eq_true, Bool.not_eq_true'] at a
    rcases a with a | a | a | a
    · exact .inl ⟨bq, e2, a⟩
    · rw [(Zkl _ _).2 hs] at a; cases a
    · exact .inr (.inl ⟨bp, e1, a⟩)
    · exact .inr (.inr (Nat.eq_of_beq_eq_true a))
  · obtain ⟨bq, e2, e3⟩ := row j q hq
    have a1 := Zfh _ _ h4 j _ e3
    simp only [Bool.and_eq_true] at a1
    exact a1.1.1
  · obtain ⟨bq, e2, e3⟩ := row j q hq
    have a1 := Zfh _ _ h4 j _ e3
    simp only [Bool.and_eq_true, Bool.or_eq_true, Nat.ble_eq, List.isEmpty_iff] at a1
    rcases a1.1.2.2 with a2 | a2
    · omega
    · exact a2
  · obtain ⟨bq, e2, e3⟩ := row j q hq
    have a1 := Zfh _ _ h4 j _ e3
    simp only [Bool.and_eq_true] at a1
    exact a1.1.2.1
  · obtain ⟨bp, e1, _⟩ := row i p hp
    obtain ⟨bq, e2, _⟩ := row j q hq
    have a := (pairs i j p q bp bq hp hq e1 e2).2.2.1
    simp only [Zpp, hd, he, Nat.beq_refl, Bool.not_true, Bool.false_or, Bool.or_eq_true, Bool.not_eq_true'] at a
    intro hs
    rcases a with a | a
    · simp [Nat.blt] at a; omega
    · rw [(Zkl _ _).2 hs] at a; cases a
end Go.Proofs.YtnmbdjkbaihicaaDoorE
namespace Go.Proofs.YtnmbdjkbaihicaaDoorE
open Go
set_option linter.unusedVariables false
set_option linter.unusedSimpArgs false
theorem ZnC : ∀ (n : Nat) (H : Zk) (b i : Nat) (blk : Blk), (ZsQ H b n)[i]? = some blk → blk ≠ .dead → H[i]? = some blk ∧ ¬ (b ≤ i ∧ i < b + n)
  | 0, H, b, i, blk, h, _ => ⟨h, by omega⟩
  | n + 1, H, b, i, blk, h, hd => by
    obtain ⟨h1, h2⟩ := ZnC n _ _ i blk h hd
    rw [ZbI, List.getElem?_set] at h1
    by_cases hbi : b = i
    · rw [if_pos hbi] at h1
      split at h1
      · cases h1; exact absurd rfl hd
      · cases h1
    · rw [if_neg hbi] at h1
      exact ⟨h1, by omega⟩
theorem Zkr (pos : List (Nat × Nat)) : ∀ (mask : List Nat) (H : Zk) (i : Nat) (blk : Blk), (ZeU H pos mask)[i]? = some blk → blk ≠ .dead → H[i]? = some blk ∧ ∀ m ∈ mask, ∀ b n, pos[m]? = some (b, n) → ¬ (b ≤ i ∧ i < b + n)
  | [], H, i, blk, h, _ => ⟨h, by simp⟩
  | m :: mask, H, i, blk, h, hd => by
    simp only [ZeU] at h
    rw [ZX] at h
    cases hp : pos[m]? with
    | none =>
      rw [hp] at h
      obtain ⟨h1, h2⟩ := Zkr pos mask H i blk h hd
      refine ⟨h1, fun k hk b n hb => ?_⟩
      rcases List.mem_cons.1 hk with rfl | hk
      · rw [hp] at hb; cases hb
      · exact h2 k hk b n hb
    | some q =>
      obtain ⟨b0, n0⟩ := q
      rw [hp] at h
      obtain ⟨h1, h2⟩ := Zkr pos mask _ i blk h hd
      obtain ⟨h3, h4⟩ := ZnC n0 H b0 i blk h1 hd
      refine ⟨h3, fun k hk b n hb => ?_⟩
      rcases List.mem_cons.1 hk with rfl | hk
      · rw [hp] at hb; cases hb; exact h4
      · exact h2 k hk b n hb
theorem Blk.like_symm {a b : Blk} (h : a.like b) : b.like a := by
  cases a <;> cases b <;> simp_all [Blk.like]
theorem Zo6 {Γ : Ctx} {cf : Za9} {e : Env} {nid : Nat} {H : Zk} {op : O} {v : V} {up : List (Nat × Blk)} {nw : List Blk} (hc : Zrn op = true ∨ Zra op = true) (h : opE Γ cf e nid H op = some (v, up, nw)) : nw = [] := by
  have key : ∀ (x : Option V), (match x with | some v => ZcC v | none => none) = some (v, up, nw) → nw = [] := fun x h => by
    cases x with
    | none => cases h
    | some y => exact (Zaf h).2.2
  have keyD : ∀ (x : Option D), (match x with | some r => ZcC (.d r) | none => none) = some (v, up, nw) → nw = [] := fun x h => by
    cases x with
    | none => cases h
    | some y => exact (Zaf h).2.2
  cases op <;> first | (rcases hc with hc | hc <;> cases hc; done) | skip
  case mov x => exact (Zaf h).2.2
  case mkfn f caps => exact (Zaf h).2.2
  case build z ps => simp only [opE] at h; split at h <;> first | exact (Zaf h).2.2 | cases h
  case pick c a b => simp only [opE] at h; split at h <;> first | exact (Zaf h).2.2 | cases h
  case conv k x => simp only [opE] at h; split at h <;> first | exact (Zaf h).2.2 | cases h
  case eqv ks neg x y =>
    simp only [opE] at h
    split at h
    · split at h
      · split at h
        · exact (Zaf h).2.2
        · cases h
      · cases h
    · cases h
  case field off n ag x =>
    simp only [opE] at h
    split at h
    · exact key _ h
    · exact key _ h
    · cases h
  case extract x i =>
    simp only [opE] at h
    split at h
    · exact key _ h
    · split at h <;> first | exact (Zaf h).2.2 | cases h
    · cases h
  all_goals (simp only [opE] at h; first | exact key _ h | exact keyD _ h)
theorem Zrg {Γ : Ctx} {cf : Za9} {e : Env} {nid : Nat} {H : Zk} {op : O} {v : V} {up : List (Nat × Blk)} {nw : List Blk} (hs : (∃ n x y, op = .store n x y) ∨ ∃ sz x y, op = .append sz x y) (h : opE Γ cf e nid H op = some (v, up, nw)) (hu : Zmj 3 up nw = true) :
    nw = [] ∧ (up = [] ∨ ∃ b blk old, up = [(b, blk)] ∧ H[b]? = some old ∧ old.like blk) := by
  simp only [Zmj, Bool.and_eq_true, List.isEmpty_iff] at hu
  obtain ⟨hu, rfl⟩ := hu
  refine ⟨rfl, ?_⟩
  rcases hs with ⟨n, x, y, rfl⟩ | ⟨sz, x, y, rfl⟩
  · simp only [opE] at h
    unfold Zjt at h
    split at h
    · rename_i b o _
      split at h
      · rename_i cs hb
        cases hc : (Nat.beq (y.val e).cells.length n && Nat.ble (o + n) cs.length && (y.val e).okb && Zm9 (y.val e).cells) with
        | false => rw [hc] at h; cases h
        | true =>
          rw [hc] at h
          simp only [cond_true, Option.some.injEq, Prod.mk.injEq] at h
          obtain ⟨rfl, rfl, _⟩ := h
          exact .inr ⟨_, _, .cells cs, rfl, by rw [← ZX]; exact hb, trivial⟩
      · cases h
    · rename_i b sz i k _
      split at h
      · rename_i sz' xs hb
        cases hq : Nat.beq sz sz' with
        | false => rw [hq] at h; cases h
        | true =>
          obtain rfl := Nat.eq_of_beq_eq_true hq
          rw [hq] at h
          simp only [cond_true] at h
          split at h
          · rename_i x0 y0 ks h1 h2
            cases he : Zg1 ks b with
            | true => rw [he] at h; cases h
            | false =>
              rw [he] at h
              simp only [cond_false] at h
              cases hc : (Nat.beq y0.cells.length n && Nat.ble (k + n) x0.cells.length && (V.d y0).okb && (x0.isAgg || !y0.isAgg)) with
              | false => rw [hc] at h; cases h
              | true =>
                rw [hc] at h
                simp only [cond_true, Option.some.injEq, Prod.mk.injEq] at h
                obtain ⟨rfl, rfl, _⟩ := h
                cases ks with
                | nil => exact .inr ⟨_, _, .arr sz xs, rfl, by rw [← ZX]; exact hb, rfl, by rw [ZbI]; simp⟩
                | cons a r => simp [ZpM] at hu
          · cases h
      · cases h
    · cases h
  · simp only [opE] at h
    unfold ZiL at h
    split at h
    · cases h
    · rename_i ys hy
      cases hz : Zid sz ys 0 with
      | false => rw [hz] at h; cases h
      | true =>
        rw [hz] at h
        simp only [cond_true] at h
        split at h
        · cases hl : Nat.ble ys.length lim with
          | false => rw [hl] at h; cases h
          | true => rw [hl] at h; cases h
        · rename_i b sz' _
          split at h
          · rename_i sz'' xs hb
            cases hc : (Nat.beq sz sz' && Nat.beq sz sz'') with
            | false => rw [hc] at h; cases h
            | true =>
              rw [hc] at h
              simp only [cond_true] at h
              cases hl : Nat.ble (xs.length + ys.length) lim with
              | false => rw [hl] at h; cases h
              | true => rw [hl] at h; cases h
          · cases h
        · rename_i b sz' o len _
          split at h
          · rename_i sz'' xs hb
            cases hc : (Nat.beq sz sz' && Nat.beq sz sz'' && Nat.ble (o + len + ys.length) xs.length) with
            | false => rw [hc] at h; cases h
            | true =>
              rw [hc] at h
              simp only [cond_true, Option.some.injEq, Prod.mk.injEq] at h
              obtain ⟨rfl, rfl, _⟩ := h
              simp only [Bool.and_eq_true, Nat.ble_eq] at hc
              obtain ⟨⟨c1, c2⟩, c3⟩ := hc
              refine .inr ⟨_, _, .arr sz'' xs, rfl, by rw [← ZX]; exact hb, (Nat.eq_of_beq_eq_true c2).symm, ?_⟩
              simp only [List.length_append, List.length_take, List.length_drop]
              omega
          · cases h
        · cases h
theorem Zkh {e : Env} {H : Zk} {o : Op1} {up : List (Nat × Blk)} {nw : List Blk} (h : ZlE e H o up nw = true) : Zmj o.eff up nw = true ∧ ZzB e H up o.op = true := by
  unfold ZlE at h
  rwa [Bool.and_eq_true] at h
def Zck.len (t : Zck) (j : Nat) : Nat := (t.HH j).length
theorem ZkT {p : Op1} : (ZaA p ≤ 2 ↔ (p.eff = 0 ∨ p.eff = 1)) ∧ (ZaA p = 3 ↔ p.eff = 3) := by
  unfold ZaA
  split
  · rename_i h
    rw [h]
    cases Zrn p.op <;> cases Zra p.op <;> simp
  · rename_i h; rw [h]; simp
  · rename_i h; rw [h]; simp
  · rename_i h0 h1 h3
    constructor
    · simp; exact ⟨h0, h1⟩
    · simp; exact h3
theorem ZoN {p : Op1} (h : p.eff = 1) : ZaA p = 1 := by unfold ZaA; simp only [h]
theorem ZmT {p : Op1} (h : ZaA p ≤ 1) : (ZaA p = 0 ∧ Zrn p.op = true) ∨ (ZaA p = 1 ∧ Zra p.op = true ∧ p.eff ≠ 1) ∨ (ZaA p = 1 ∧ p.eff = 1) := by
  rcases (ZkT (p := p)).1.1 (by omega) with h0 | h0
  · unfold ZaA at h ⊢
    rw [h0] at h ⊢
    cases h1 : Zrn p.op <;> cases h2 : Zra p.op <;> simp_all
  · exact .inr (.inr ⟨ZoN h0, h0⟩)
def ZxE : V → Option Nat
  | .ptr b _ => some b
  | .eptr b _ _ _ => some b
  | _ => none
theorem ZjN {H H' : Zk} {n : Nat} {ag : Bool} {x v : V} (h : ZcU H n ag x = some v) (hs : ∀ b, ZxE x = some b → ∀ blk, H[b]? = some blk → blk ≠ .dead → H'[b]? = some blk) : ZcU H' n ag x = some v := by
  cases x <;> try exact h
  · rename_i d
    cases d <;> exact h
  · rename_i b o
    unfold ZcU at h ⊢
    simp only [ZX] at h ⊢
    cases hb : H[b]? with
    | none => rw [hb] at h; cases h
    | some blk =>
      rw [hb] at h
      cases blk <;> try (cases h; done)
      rw [hs b rfl _ hb (by simp)]; exact h
  · rename_i b sz i k
    unfold ZcU at h ⊢
    simp only [ZX] at h ⊢
    cases hb : H[b]? with
    | none => rw [hb] at h; cases h
    | some blk =>
      rw [hb] at h
      cases blk <;> try (cases h; done)
      rw [hs b rfl _ hb (by simp)]; exact h
theorem Zri {H : Zk} {n : Nat} {ag : Bool} {x v : V} {b : Nat} (h : ZcU H n ag x = some v) (hx : ZxE x = some b) : ∃ blk, H[b]? = some blk ∧ blk ≠ .dead := by
  cases x <;> try (cases hx; done)
  · rename_i b' o
    cases hx
    unfold ZcU at h
    simp only [ZX] at h
    cases hb : H[b]? with
    | none => rw [hb] at h; cases h
    | some blk =>
      rw [hb] at h
      cases blk <;> try (cases h; done)
      exact ⟨_, rfl, by simp⟩
  · rename_i b' sz i k
    cases hx
    unfold ZcU at h
    simp only [ZX] at h
    cases hb : H[b]? with
    | none => rw [hb] at h; cases h
    | some blk =>
      rw [hb] at h
      cases blk <;> try (cases h; done)
      exact ⟨_, rfl, by simp⟩
theorem Zpt {e : Env} {H H' : Zk} {s : Nat} : ∀ {l : List Opd}, ZrF e H H' l = true → Zth l s = true → ∃ i, ZcU H 1 false (e s) = some (.mp i) ∧ ZcU H' 1 false (e s) = some (.mp i)
  | [], _, hs => by cases hs
  | .c v :: l, h, hs => by
    simp only [ZrF, Bool.and_eq_true] at h
    exact Zpt (l := l) h.2 hs
  | .t i :: l, h, hs => by
    simp only [ZrF, Bool.and_eq_true] at h
    simp only [Zth, Bool.or_eq_true] at hs
    rcases hs with hs | hs
    · obtain rfl := Nat.eq_of_beq_eq_true hs
      have h1 := h.1
      change (match e i with
        | .ptr b o => (match ZcU H 1 false (.ptr b o), ZcU H' 1 false (.ptr b o) with | some (.mp i), some (.mp j) => Nat.beq i j | _, _ => false)
        | _ => false) = true at h1
      split at h1
      · rename_i b o hx
        rw [hx]
        split at h1
        · rename_i i1 j1 e1 e2
          rw [e1, e2, Nat.eq_of_beq_eq_true h1]
          exact ⟨_, rfl, rfl⟩
        · cases h1
      · cases h1
    · exact Zpt (l := l) h.2 hs
section
variable {P : Program} {G : Zbr} {N : Nat} {Γ : Ctx} {cf : Za9} {t : Zck} {l : List Op1} {e : Env} {H : Zk} {e' : Env} {H' : Zk} {os : Array Oper} {B : Nat → Nat → Prop} {D : Nat → Bool}
theorem Zck.OK.len_succ (ht : t.OK Γ cf [] l e H e' H') {j : Nat} (hj : j < l.length) : t.len (j + 1) = t.len j + (t.NW j).length := by
  unfold Zck.len
  rw [ht.h j _ (List.getElem?_eq_getElem hj), List.length_append, Zip]
theorem Zck.OK.len_mono (ht : t.OK Γ cf [] l e H e' H') {a : Nat} : ∀ (b : Nat), a ≤ b → b ≤ l.length → t.len a ≤ t.len b := by
  intro b
  induction b with
  | zero => intro h _; have : a = 0 := by omega
            subst this; exact Nat.le_refl _
  | succ b ih =>
    intro h hb
    by_cases hab : a = b + 1
    · subst hab; exact Nat.le_refl _
    · have h1 := ih (by omega) (by omega)
      have h2 := ht.len_succ (j := b) (by omega)
      omega
theorem Zck.OK.whose (ht : t.OK Γ cf [] l e H e' H') {a i : Nat} : ∀ (b : Nat), a ≤ b → b ≤ l.length → t.len a ≤ i → i < t.len b → ∃ j, a ≤ j ∧ j < b ∧ t.len j ≤ i ∧ i < t.len (j + 1) := by
  intro b
  induction b with
  | zero => intro h _ h1 h2; have : a = 0 := by omega
            subst this; omega
  | succ b ih =>
    intro h hb h1 h2
    by_cases hab : a = b + 1
    · subst hab; omega
    · by_cases hi : i < t.len b
      · obtain ⟨j, g1, g2, g3⟩ := ih (by omega) (by omega) h1 hi
        exact ⟨j, g1, by omega, g3⟩
      · exact ⟨b, by omega, by omega, by omega, h2⟩
theorem Zck.OK.one (ht : t.OK Γ cf [] l e H e' H') {i j k : Nat} (hj : j < l.length) (hk : k < l.length) (h1 : t.len j ≤ i ∧ i < t.len (j + 1)) (h2 : t.len k ≤ i ∧ i < t.len (k + 1)) : j = k := by
  rcases Nat.lt_trichotomy j k with h | h | h
  · have := ht.len_mono (a := j + 1) k (by omega) (by omega); omega
  · exact h
  · have := ht.len_mono (a := k + 1) j (by omega) (by omega); omega
theorem Zck.OK.noUp (ht : t.OK Γ cf [] l e H e' H') {j : Nat} {p : Op1} (hp : l[j]? = some p) (hc : ZaA p ≤ 2) : t.UP j = [] := by
  cases hw : t.W j with
  | false => exact (ht.n j p hp hw).2.1
  | true =>
    have := (Zkh (ht.y j p hp hw).2).1
    rcases (ZkT (p := p)).1.1 hc with h | h
    · rw [h] at this; simpa [Zmj] using this
    · rw [h] at this
      simp only [Zmj, Bool.and_eq_true, List.isEmpty_iff] at this
      exact this.1
theorem Zck.OK.noNew (ht : t.OK Γ cf [] l e H e' H') {j : Nat} {p : Op1} (hp : l[j]? = some p) (hc : ZaA p ≤ 1) : t.NW j = [] := by
  cases hw : t.W j with
  | false => exact (ht.n j p hp hw).2.2
  | true =>
    rcases ZmT hc with h | h | h
    · exact Zo6 (.inl h.2) (ht.y j p hp hw).1
    · exact Zo6 (.inr h.2.1) (ht.y j p hp hw).1
    · have := (Zkh (ht.y j p hp hw).2).1
      rw [h.2] at this
      simp only [Zmj, Bool.and_eq_true, List.isEmpty_iff] at this
      exact this.2
theorem Zck.OK.new2 (ht : t.OK Γ cf [] l e H e' H') {i j : Nat} {p : Op1} (hp : l[j]? = some p) (h : t.len j ≤ i ∧ i < t.len (j + 1)) : 2 ≤ ZaA p := by
  have hj := (List.getElem?_eq_some_iff.1 hp).1
  rcases Nat.lt_or_ge (ZaA p) 2 with h' | h'
  · have := ht.len_succ hj
    rw [ht.noNew hp (by omega)] at this
    simp at this
    omega
  · exact h'
theorem Zck.OK.stay1 (ht : t.OK Γ cf [] l e H e' H') {j : Nat} {p : Op1} (hp : l[j]? = some p) (hc : ZaA p ≤ 2) : t.HH (j + 1) = t.HH j ++ t.NW j := by
  rw [ht.h j p hp, ht.noUp hp hc]; rfl
theorem Zck.OK.stay (ht : t.OK Γ cf [] l e H e' H') {a : Nat} : ∀ (b : Nat), a ≤ b → b ≤ l.length → (∀ m p, a ≤ m → m < b → l[m]? = some p → ZaA p ≤ 2) → ∀ i, i < t.len a → (t.HH b)[i]? = (t.HH a)[i]? := by
  intro b
  induction b with
  | zero => intro h _ _ i _; have : a = 0 := by omega
            subst this; rfl
  | succ b ih =>
    intro h hb hc i hi
    by_cases hab : a = b + 1
    · subst hab; rfl
    · have hp : l[b]? = some (l[b]'(by omega)) := List.getElem?_eq_getElem (by omega)
      have hm := ht.len_mono (a := a) b (by omega) (by omega)
      rw [ht.stay1 hp (hc b _ (by omega) (by omega) hp), List.getElem?_append_left (by unfold Zck.len at *; omega)]
      exact ih (by omega) (by omega) (fun m p h1 h2 => hc m p h1 (by omega)) i hi
theorem Zck.OK.like1 (ht : t.OK Γ cf [] l e H e' H') (hk : Chk P G N os l B) {j : Nat} {p : Op1} (hp : l[j]? = some p) (hc : ZaA p ≤ 3) {i : Nat} (hi : i < t.len j) : ∃ x y, (t.HH j)[i]? = some x ∧ (t.HH (j + 1))[i]? = some y ∧ (x = y ∨ x.like y) := by
  have same : t.UP j = [] → ∃ x y, (t.HH j)[i]? = some x ∧ (t.HH (j + 1))[i]? = some y ∧ (x = y ∨ x.like y) := fun hu => by
    refine ⟨_, _, List.getElem?_eq_getElem hi, ?_, .inl rfl⟩
    rw [ht.h j p hp, hu]
    show (t.HH j ++ t.NW j)[i]? = _
    rw [List.getElem?_append_left hi]
    exact List.getElem?_eq_getElem hi
  rcases Nat.lt_or_ge (ZaA p) 3 with h | h
  · exact same (ht.noUp hp (by omega))
  · have he := (ZkT (p := p)).2.1 (by omega)
    cases hw : t.W j with
    | false => exact same (ht.n j p hp hw).2.1
    | true =>
      obtain ⟨y1, y2⟩ := ht.y j p hp hw
      rw [hk.mask j p hp h] at y1
      have y2 := (Zkh y2).1
      rw [he] at y2
      have hs : (∃ n x y, p.op = .store n x y) ∨ ∃ sz x y, p.op = .append sz x y := by
        have := hk.eff3 j p hp
        unfold ZpB at this
        rw [he] at this
        cases hop : p.op <;> rw [hop] at this <;> first | (cases this; done) | exact .inl ⟨_, _, _, rfl⟩ | exact .inr ⟨_, _, _, rfl⟩
      obtain ⟨f1, f2⟩ := Zrg hs y1 y2
      rcases f2 with f2 | ⟨b, blk, old, f2, f3, f4⟩
      · exact same f2
      · by_cases hbi : b = i
        · subst hbi
          refine ⟨old, blk, f3, ?_, .inr f4⟩
          rw [ht.h j p hp, f1, f2]
          simp only [ZdC, List.append_nil, ZbI]
          rw [List.getElem?_set, if_pos rfl, if_pos (show b < (t.HH j).length from hi)]
        · refine ⟨_, _, List.getElem?_eq_getElem hi, ?_, .inl rfl⟩
          rw [ht.h j p hp, f1, f2]
          simp only [ZdC, List.append_nil, ZbI]
          rw [List.getElem?_set, if_neg hbi]
          exact List.getElem?_eq_getElem hi
theorem Zck.OK.like (ht : t.OK Γ cf [] l e H e' H') (hk : Chk P G N os l B) {a : Nat} : ∀ (b : Nat), a ≤ b → b ≤ l.length → (∀ m p, a ≤ m → m < b → l[m]? = some p → ZaA p ≤ 3) → ∀ i, i < t.len a → ∃ x y, (t.HH a)[i]? = some x ∧ (t.HH b)[i]? = some y ∧ (x = y ∨ x.like y) := by
  intro b
  induction b with
  | zero => intro h _ _ i hi; have : a = 0 := by omega
            subst this; exact ⟨_, _, List.getElem?_eq_getElem hi, List.getElem?_eq_getElem hi, .inl rfl⟩
  | succ b ih =>
    intro h hb hc i hi
    by_cases hab : a = b + 1
    · subst hab; exact ⟨_, _, List.getElem?_eq_getElem hi, List.getElem?_eq_getElem hi, .inl rfl⟩
    · have hp : l[b]? = some (l[b]'(by omega)) := List.getElem?_eq_getElem (by omega)
      have hm := ht.len_mono (a := a) b (by omega) (by omega)
      obtain ⟨x, y, h1, h2, h3⟩ := ih (by omega) (by omega) (fun m p h1 h2 => hc m p h1 (by omega)) i hi
      obtain ⟨y', z, g1, g2, g3⟩ := ht.like1 hk hp (hc b _ (by omega) (by omega) hp) (i := i) (by omega)
      rw [h2] at g1
      cases g1
      refine ⟨x, z, h1, g2, ?_⟩
      rcases h3 with rfl | h3
      · exact g3
      · rcases g3 with rfl | g3
        · exact .inr h3
        · exact .inr (Blk.like_trans h3 g3)
theorem Zck.OK.env0 (ht : t.OK Γ cf [] l e H e' H') {x : Nat} : ∀ (j : Nat), j ≤ l.length → (∀ i p, i < j → l[i]? = some p → p.dst ≠ some x) → t.E j x = e x := by
  intro j
  induction j with
  | zero => intro _ _; rw [ht.e0]
  | succ j ih =>
    intro hj hn
    have hp : l[j]? = some (l[j]'(by omega)) := List.getElem?_eq_getElem (by omega)
    rw [ht.e j _ hp]
    have h1 := hn j _ (by omega) hp
    have h2 := ih (by omega) (fun i p hi => hn i p (by omega))
    cases hd : (l[j]'(by omega)).dst with
    | none => exact h2
    | some d =>
      rw [hd] at h1
      show (bif Nat.beq d x then t.VV j else t.E j x) = e x
      have : Nat.beq d x = false := by
        cases hb : Nat.beq d x with
        | false => rfl
        | true => exact absurd (congrArg some (Nat.eq_of_beq_eq_true hb)) h1
      rw [this]; exact h2
theorem Zck.OK.envd (ht : t.OK Γ cf [] l e H e' H') (hk : Chk P G N os l B) {i x : Nat} {p : Op1} (hp : l[i]? = some p) (hd : p.dst = some x) : ∀ (j : Nat), i < j → j ≤ l.length → t.E j x = t.VV i := by
  intro j
  induction j with
  | zero => intro h; omega
  | succ j ih =>
    intro hij hj
    have hq : l[j]? = some (l[j]'(by omega)) := List.getElem?_eq_getElem (by omega)
    rw [ht.e j _ hq]
    by_cases h : i = j
    · subst h
      rw [hp] at hq
      cases hq
      rw [hd]
      show (bif Nat.beq x x then t.VV i else _) = _
      rw [Nat.beq_refl]; rfl
    · have h2 := ih (by omega) (by omega)
      cases hd' : (l[j]'(by omega)).dst with
      | none => exact h2
      | some d =>
        show (bif Nat.beq d x then t.VV j else t.E j x) = _
        have : Nat.beq d x = false := by
          cases hb : Nat.beq d x with
          | false => rfl
          | true =>
            obtain rfl := Nat.eq_of_beq_eq_true hb
            exact absurd (hk.dst i j p _ d hp hq hd hd') h
        rw [this]; exact h2
theorem Zck.OK.envs (ht : t.OK Γ cf [] l e H e' H') (hk : Chk P G N os l B) {j x : Nat} {q : Op1} (hq : l[j]? = some q) (he : q.eff = 1) (hx : x ∈ ZcY q) : ∀ (k : Nat), j ≤ k → k ≤ l.length → t.E k x = t.E j x := by
  intro k
  induction k with
  | zero => intro h _; have : j = 0 := by omega
            subst this; rfl
  | succ k ih =>
    intro hjk hk'
    by_cases h : j = k + 1
    · subst h; rfl
    · have hp : l[k]? = some (l[k]'(by omega)) := List.getElem?_eq_getElem (by omega)
      have h2 := ih (by omega) (by omega)
      rw [ht.e k _ hp]
      cases hd : (l[k]'(by omega)).dst with
      | none => exact h2
      | some d =>
        show (bif Nat.beq d x then t.VV k else t.E k x) = _
        have : Nat.beq d x = false := by
          cases hb : Nat.beq d x with
          | false => rfl
          | true =>
            obtain rfl := Nat.eq_of_beq_eq_true hb
            exact absurd hx (hk.stay k j _ q d hp hq he (by omega) hd)
        rw [this]; exact h2
theorem Chk.lt (hk : Chk P G N os l B) : ∀ (j i : Nat), j < l.length → B i j → i < j := by
  intro j
  induction j using Nat.strongRecOn with
  | ind j ih =>
    intro i hj hb
    obtain ⟨k, h1, h2⟩ := hk.bef j _ i (Array.getElem?_eq_getElem (by rw [hk.len]; exact hj)) hb
    have h3 := hk.pre j _ (Array.getElem?_eq_getElem (by rw [hk.len]; exact hj)) k h1
    rcases h2 with rfl | ⟨h4, h5⟩
    · exact h3
    · have := ih k h4 i (by omega) h5; omega
def Zlq (os : Array Oper) (D : Nat → Bool) : Prop := ∀ (j : Nat) o, os[j]? = some o → D j = true → ∀ i ∈ ZkD o, D i = true
theorem Chk.down (hk : Chk P G N os l B) (hD : Zlq os D) : ∀ (j i : Nat) o, os[j]? = some o → (∀ k ∈ ZkD o, D k = true) → B i j → D i = true := by
  intro j
  induction j using Nat.strongRecOn with
  | ind j ih =>
    intro i o ho hp hb
    obtain ⟨k, h1, h2⟩ := hk.bef j o i ho hb
    rcases h2 with rfl | ⟨h4, h5⟩
    · exact hp _ h1
    · have hk' : k < os.size := by
        have := (Array.getElem?_eq_some_iff.1 ho).1; omega
      exact ih k h4 i _ (Array.getElem?_eq_getElem hk') (fun m hm => hD k _ (Array.getElem?_eq_getElem hk') (hp k h1) m hm) h5
theorem Chk.downD (hk : Chk P G N os l B) (hD : Zlq os D) {i j : Nat} (hj : j < l.length) (h : D j = true) (hb : B i j) : D i = true :=
  hk.down hD j i _ (Array.getElem?_eq_getElem (by rw [hk.len]; exact hj)) (hD j _ (Array.getElem?_eq_getElem (by rw [hk.len]; exact hj)) h) hb
theorem Chk.order (hk : Chk P G N os l B) {i j : Nat} {p q : Op1} (hp : l[i]? = some p) (hq : l[j]? = some q) (hc : 3 ≤ ZaA p) (hc2 : 2 ≤ ZaA q) : i = j ∨ (i < j ∧ B i j) ∨ (j < i ∧ B j i) := by
  have hi := (List.getElem?_eq_some_iff.1 hp).1
  have hj := (List.getElem?_eq_some_iff.1 hq).1
  rcases hk.pair i j p q hp hq hc with h | h | h | h | h | h
  · exact .inl h
  · exact .inr (.inl ⟨hk.lt j i hj h, h⟩)
  · exact .inr (.inr ⟨hk.lt i j hi h, h⟩)
  · omega
  · omega
  · have := ZoN h.1; omega
def hid (t : Zck) (D : Nat → Bool) (K i : Nat) : Bool := (List.range K).any fun j => !(D j) && (decide (t.len j ≤ i) && decide (i < t.len (j + 1)))
def ZgD (t : Zck) (D : Nat → Bool) (K : Nat) : Zk := (t.HH K).mapIdx fun i b => bif hid t D K i then .dead else b
theorem ZnR {K i : Nat} : hid t D K i = true ↔ ∃ j, j < K ∧ D j = false ∧ t.len j ≤ i ∧ i < t.len (j + 1) := by
  unfold hid
  simp [List.any_eq_true]
theorem ZhP {K i : Nat} : hid t D K i = false ↔ ∀ j, j < K → t.len j ≤ i → i < t.len (j + 1) → D j = true := by
  rw [← Bool.not_eq_true, ZnR]
  constructor
  · intro h j h1 h2 h3
    cases hd : D j with
    | true => rfl
    | false => exact absurd ⟨j, h1, hd, h2, h3⟩ h
  · rintro h ⟨j, h1, h2, h3, h4⟩
    rw [h j h1 h3 h4] at h2; cases h2
theorem ZiM {K i : Nat} : (ZgD t D K)[i]? = ((t.HH K)[i]?).map fun b => bif hid t D K i then .dead else b := by
  unfold ZgD
  rw [List.getElem?_mapIdx]
theorem ZpZ {K i : Nat} {blk : Blk} (h : (ZgD t D K)[i]? = some blk) (hd : blk ≠ .dead) : (t.HH K)[i]? = some blk ∧ hid t D K i = false := by
  rw [ZiM] at h
  cases hb : (t.HH K)[i]? with
  | none => rw [hb] at h; cases h
  | some b =>
    rw [hb] at h
    simp only [Option.map_some, Option.some.injEq] at h
    cases hh : hid t D K i with
    | true => rw [hh] at h; exact absurd h.symm hd
    | false => rw [hh] at h; exact ⟨by rw [← h]; rfl, rfl⟩
theorem Zfi {K i : Nat} (h : hid t D K i = false) : (ZgD t D K)[i]? = (t.HH K)[i]? := by
  rw [ZiM, h]
  cases (t.HH K)[i]? <;> rfl
theorem Ztm (l : List Op1) (a : Nat) (ha : a ≤ l.length) : ∃ K, a ≤ K ∧ K ≤ l.length ∧ (∀ m p, a ≤ m → m < K → l[m]? = some p → ZaA p ≤ 2) ∧ (K < l.length → ∃ p, l[K]? = some p ∧ 3 ≤ ZaA p) := by
  have key : ∀ n a, l.length - a = n → a ≤ l.length → ∃ K, a ≤ K ∧ K ≤ l.length ∧ (∀ m p, a ≤ m → m < K → l[m]? = some p → ZaA p ≤ 2) ∧ (K < l.length → ∃ p, l[K]? = some p ∧ 3 ≤ ZaA p) := by
    intro n
    induction n with
    | zero => intro a h1 h2; exact ⟨a, Nat.le_refl _, h2, fun m p h3 h4 => by omega, fun h => by omega⟩
    | succ n ih =>
      intro a h1 h2
      have hp : l[a]? = some (l[a]'(by omega)) := List.getElem?_eq_getElem (by omega)
      rcases Nat.lt_or_ge (ZaA (l[a]'(by omega))) 3 with h | h
      · obtain ⟨K, g1, g2, g3, g4⟩ := ih (a + 1) (by omega) (by omega)
        refine ⟨K, by omega, g2, fun m p h3 h4 h5 => ?_, g4⟩
        by_cases hm : m = a
        · subst hm; rw [hp] at h5; cases h5; omega
        · exact g3 m p (by omega) h4 h5
      · exact ⟨a, Nat.le_refl _, h2, fun m p h3 h4 => by omega, fun _ => ⟨_, hp, h⟩⟩
  exact key _ a rfl ha
end
end Go.Proofs.YtnmbdjkbaihicaaDoorE
namespace Go.Proofs.YtnmbdjkbaihicaaDoorE
open Go
set_option linter.unusedVariables false
set_option linter.unusedSimpArgs false
theorem ZoZ {e e' : Env} : ∀ (g : Option (Nat × Bool)), (∀ s b, g = some (s, b) → e s = e' s) → ZeE e g = ZeE e' g
 | none, _ => rfl
 | some (s, b), h => by simp only [ZeE, h s b rfl]
section
variable {P : Program} {G : Zbr} {N : Nat} {Γ : Ctx} {cf : Za9} {t : Zck} {l : List Op1} {e : Env} {H : Zk} {e' : Env} {H' : Zk} {os : Array Oper} {B : Nat → Nat → Prop} {Rf : RP} {wf : World}
structure Zrb (P : Program) (N : Nat) (t : Zck) (l : List Op1) (os : Array Oper) (e : Env) (H : Zk) (Rf : RP) (wf : World) (D : Nat → Bool) (a : Act) (w : World) : Prop where
 closed : Zlq os D
 ex : ∃ K R env, K ≤ l.length ∧ (∀ m p, l[m]? = some p → m < K → 3 ≤ ZaA p → D m = true) ∧ (K < l.length → ∃ p, l[K]? = some p ∧ 3 ≤ ZaA p ∧ D K = false) ∧
  Ext Rf wf R w ∧ R.OK w ∧ R.H = ZgD t D K ∧ (∀ i, H.length ≤ i → (∀ j, j < l.length → D j = true → ¬ (t.len j ≤ i ∧ i < t.len (j + 1))) → R.M i = none) ∧ Zf2 R w env a ∧
  (∀ j p d, l[j]? = some p → p.dst = some d → D j = true → env d = t.VV j) ∧ (∀ d, (∀ j p, l[j]? = some p → p.dst = some d → D j = false) → env d = e d)
 tm : N ≤ a.tmps.size
 df : a.defers = []
theorem Zs6 (ht : t.OK Γ cf [] l e H e' H') {D : Nat → Bool} {s : Nat} {R : RP} {w : World} (hs : s ≤ l.length) (ok : R.OK w) (hH : R.H = t.HH s) (hb : ∀ m p, l[m]? = some p → m < s → 2 ≤ ZaA p → D m = true) (ha : ∀ m p, l[m]? = some p → s ≤ m → 2 ≤ ZaA p → D m = false) :
  ∃ K, K ≤ l.length ∧ (∀ m p, l[m]? = some p → m < K → 3 ≤ ZaA p → D m = true) ∧ (K < l.length → ∃ p, l[K]? = some p ∧ 3 ≤ ZaA p ∧ D K = false) ∧ Ext R w { R with H := ZgD t D K } w ∧ RP.OK { R with H := ZgD t D K } w := by
 obtain ⟨K, h1, h2, h3, h4⟩ := Ztm l s hs
 have live : ∀ (i : Nat) blk, (ZgD t D K)[i]? = some blk → blk ≠ .dead → R.H[i]? = some blk := fun i blk h hd => by
  obtain ⟨g1, g2⟩ := ZpZ h hd
  rw [ZhP] at g2
  have hiK : i < t.len K := (List.getElem?_eq_some_iff.1 g1).1
  by_cases hi : i < t.len s
  ·rw [hH, ← ht.stay K h1 h2 h3 i hi]; exact g1
  ·obtain ⟨j, f1, f2, f3, f4⟩ := ht.whose K h1 h2 (by omega) hiK
   have hp : l[j]? = some (l[j]'(by omega)) := List.getElem?_eq_getElem (by omega)
   have d1 := ha j _ hp f1 (ht.new2 hp ⟨f3, f4⟩)
   rw [g2 j f2 f3 f4] at d1; cases d1
 refine ⟨K, h2, fun m p hp hm hc => ?_, fun hK => ?_, Ext.kill live, ok.kill live⟩
 ·rcases Nat.lt_or_ge m s with h | h
  ·exact hb m p hp h (by omega)
  ·have := h3 m p h hm hp; omega
 ·obtain ⟨p, f1, f2⟩ := h4 hK
  exact ⟨p, f1, f2, ha K p f1 h1 (by omega)⟩
def upd (D : Nat → Bool) (j : Nat) : Nat → Bool := fun i => if i = j then true else D i
theorem step (c : ZjQ P G cf Rf wf) (hlo : Rf.H.length ≤ H.length) (ht : t.OK Γ cf [] l e H e' H') (hk : Chk P G N os l B) {Q : Exit → Act → World → Prop} {D : Nat → Bool} {a : Act} {w : World} (s : Zrb P N t l os e H Rf wf D a w) {j : Nat} {o : Oper} (ho : os[j]? = some o) (hDj : D j = false) (hpre : ∀ i ∈ ZkD o, D i = true) :
  wpOp P os Q j (fun a' w' => Zrb P N t l os e H Rf wf (upd D j) a' w') a w := by
 obtain ⟨K, R, env, hK, hKd, hKn, x, ok, hH, hM, hE, hV, hO⟩ := s.ex
 have hjl : j < l.length := by rw [← hk.len]; exact (Array.getElem?_eq_some_iff.1 ho).1
 obtain ⟨p, hp⟩ : ∃ p, l[j]? = some p := ⟨_, List.getElem?_eq_getElem hjl⟩
 have hoper := hk.oper j o p ho hp
 simp only [Zl2, Bool.and_eq_true] at hoper
 obtain ⟨k1, k2, k3⟩ := hoper
 have down : ∀ i, B i j → D i = true := fun i hb => hk.down s.closed j i o ho hpre hb
 have downD : ∀ i k, k < l.length → D k = true → B i k → D i = true := fun i k h1 h2 h3 => hk.downD s.closed h1 h2 h3
 have slot : ∀ d, d ∈ ZcY p → env d = t.E j d := fun d hd => by
  by_cases hx : ∃ (i : Nat) (q : Op1), l[i]? = some q ∧ q.dst = some d
  ·obtain ⟨i, q, hq, hqd⟩ := hx
   have old : j ≤ i → D i = false → env d = t.E j d := fun hji hDi => by
    rw [hO d fun i' q' hq' hqd' => by rw [hk.dst i' i q' q d hq' hq hqd' hqd]; exact hDi, ht.env0 j (by omega) fun i' q' hi' hq' hqd' => by
     have := hk.dst i' i q' q d hq' hq hqd' hqd; omega]
   rcases hk.reads i j q p d hq hp hqd hd with hb | hb | hb
   ·rw [hV i q d hq hqd (down i hb), ht.envd hk hq hqd j (hk.lt j i hjl hb) (by omega)]
   ·have hi := (List.getElem?_eq_some_iff.1 hq).1
    refine old (Nat.le_of_lt (hk.lt i j hi hb)) ?_
    cases hDi : D i with
    | false => rfl
    | true => have := downD j i hi hDi hb; rw [hDj] at this; cases this
   ·subst hb; exact old (Nat.le_refl _) hDj
  ·have hn : ∀ (i : Nat) (q : Op1), l[i]? = some q → q.dst ≠ some d := fun i q hq hqd => hx ⟨i, q, hq, hqd⟩
   rw [hO d fun i q hq hqd => absurd hqd (hn i q hq), ht.env0 j (by omega) fun i q _ hq => hn i q hq]
 have hg : ZeE env p.guard = some (t.W j) := by
  rw [← ht.w j p hp]
  refine ZoZ _ fun s' b hs => slot s' ?_
  unfold ZcY
  rw [hs]; simp
 have hwant := Zo8 (a := a) hE k2 hg
 have hop : ∀ nid Hm, opE Γ cf env nid Hm p.op = opE Γ cf (t.E j) nid Hm p.op := fun nid Hm => by
  refine Zrz _ fun y hy => ?_
  cases y with
  | c v => rfl
  | t i =>
   refine slot i ?_
   unfold ZcY
   exact List.mem_append_left _ (List.mem_filterMap.2 ⟨.t i, hy, rfl⟩)
 have closed' : Zlq os (upd D j) := fun k o' hk' hd i hi => by
  unfold upd at hd ⊢
  by_cases hik : i = j
  ·rw [if_pos hik]
  ·rw [if_neg hik]
   by_cases hkj : k = j
   ·subst hkj; rw [ho] at hk'; cases hk'; exact hpre i hi
   ·rw [if_neg hkj] at hd; exact s.closed k o' hk' hd i hi
 have fin : ∀ (K' : Nat) (R' : RP) (u : Value) (w' : World), K' ≤ l.length → (∀ m p, l[m]? = some p → m < K' → 3 ≤ ZaA p → upd D j m = true) → (K' < l.length → ∃ p, l[K']? = some p ∧ 3 ≤ ZaA p ∧ upd D j K' = false) →
   Ext R w R' w' → R'.OK w' → R'.H = ZgD t (upd D j) K' → (∀ i, R.M i = none → ¬ (t.len j ≤ i ∧ i < t.len (j + 1)) → R'.M i = none) → ZaP R' w' (t.VV j) u → Zrb P N t l os e H Rf wf (upd D j) (a.put o.dst u) w' := by
  intro K' R' u w' hK' hKd' hKn' x' ok' hH' hM' hv
  refine ⟨closed', ⟨K', R', Zlx env p.dst (t.VV j), hK', hKd', hKn', x.trans x', ok', hH', fun i hi hni => ?_, ZnK (x'.envOK ok.b01 hE) k1 s.tm hv, fun i q d hq hqd hd => ?_, fun d hd => ?_⟩, by rw [Zp4]; exact s.tm, by rw [Zp1]; exact s.df⟩
  ·refine hM' i (hM i hi fun m hm hd => hni m hm ?_) (hni j hjl ?_)
   ·unfold upd; split
    ·rfl
    ·exact hd
   ·unfold upd; rw [if_pos rfl]
  ·cases hpd : p.dst with
   | none =>
    show env d = _
    have hij : i ≠ j := fun h => by subst h; rw [hp] at hq; cases hq; rw [hpd] at hqd; cases hqd
    refine hV i q d hq hqd ?_
    unfold upd at hd; rw [if_neg hij] at hd; exact hd
   | some d' =>
    show (bif Nat.beq d' d then t.VV j else env d) = _
    cases hb : Nat.beq d' d with
    | true =>
     obtain rfl := Nat.eq_of_beq_eq_true hb
     obtain rfl := hk.dst i j q p d' hq hp hqd hpd
     rfl
    | false =>
     have hij : i ≠ j := fun h => by
      subst h; rw [hp] at hq; cases hq; rw [hpd] at hqd; cases hqd; rw [Nat.beq_refl] at hb; cases hb
     refine hV i q d hq hqd ?_
     unfold upd at hd; rw [if_neg hij] at hd; exact hd
  ·have h0 : env d = e d := hO d fun i q hq hqd => by
    have := hd i q hq hqd
    unfold upd at this
    by_cases hij : i = j
    ·rw [if_pos hij] at this; cases this
    ·rw [if_neg hij] at this; exact this
   cases hpd : p.dst with
   | none => exact h0
   | some d' =>
    show (bif Nat.beq d' d then t.VV j else env d) = _
    cases hb : Nat.beq d' d with
    | false => exact h0
    | true =>
     obtain rfl := Nat.eq_of_beq_eq_true hb
     have := hd j p hp hpd
     unfold upd at this; rw [if_pos rfl] at this; cases this
 have hlen := ht.len_succ hjl
 have own : ∀ i m, m < l.length → (t.len m ≤ i ∧ i < t.len (m + 1)) → (t.len j ≤ i ∧ i < t.len (j + 1)) → m = j := fun i m hm h1 h2 => ht.one hm hjl h1 h2
 have base : H.length ≤ t.len j := by
  have := ht.len_mono (a := 0) j (by omega) (by omega)
  unfold Zck.len at this ⊢; rw [ht.h0] at this; exact this
 have free : ∀ i, t.len j ≤ i → i < t.len j + (t.NW j).length → R.M i = none := fun i h1 h2 => hM i (by omega) fun m hm hd h => by
  have := own i m hm h ⟨h1, by omega⟩
  subst this; rw [hDj] at hd; cases hd
 rcases Nat.lt_or_ge (ZaA p) 3 with hc | hc
 ·
  have hKd' : ∀ m p, l[m]? = some p → m < K → 3 ≤ ZaA p → upd D j m = true := fun m p' h1 h2 h3 => by
   unfold upd; split
   ·rfl
   ·exact hKd m p' h1 h2 h3
  have hKn' : K < l.length → ∃ p, l[K]? = some p ∧ 3 ≤ ZaA p ∧ upd D j K = false := fun h => by
   obtain ⟨q, h1, h2, h3⟩ := hKn h
   refine ⟨q, h1, h2, ?_⟩
   unfold upd; rw [if_neg (fun h => by subst h; rw [hp] at h1; cases h1; omega)]; exact h3
  have two : 2 ≤ ZaA p → j < K ∧ ∀ m q, j ≤ m → m < K → l[m]? = some q → ZaA q ≤ 2 := fun h2 => by
   constructor
   ·rcases Nat.lt_or_ge j K with h | h
    ·exact h
    ·obtain ⟨q, g1, g2, g3⟩ := hKn (by omega)
     rcases hk.order g1 hp g2 h2 with f | f | f
     ·subst f; rw [hp] at g1; cases g1; omega
     ·rw [down K f.2] at g3; cases g3
     ·omega
   ·intro m q h3 h4 hq
    rcases Nat.lt_or_ge (ZaA q) 3 with h | h
    ·omega
    ·rcases hk.order hq hp h h2 with f | f | f
     ·subst f; rw [hp] at hq; cases hq; omega
     ·omega
     ·have := downD j m (by omega) (hKd m q hq h4 h) f.2
      rw [hDj] at this; cases this
  have stg : ∀ i, (ZgD t (upd D j) K)[i]? = if t.len j ≤ i ∧ i < t.len j + (t.NW j).length then (t.NW j)[i - t.len j]? else (ZgD t D K)[i]? := fun i => by
   by_cases hi : t.len j ≤ i ∧ i < t.len j + (t.NW j).length
   ·rw [if_pos hi]
    have h2 := ht.new2 hp (i := i) ⟨hi.1, by omega⟩
    obtain ⟨t1, t2⟩ := two h2
    rw [Zfi]
    ·rw [ht.stay (a := j + 1) K (by omega) hK (fun m q h3 h4 hq => t2 m q (by omega) h4 hq) i (by omega), ht.stay1 hp (by omega), List.getElem?_append_right hi.1]
     rfl
    ·rw [ZhP]
     intro m hm h3 h4
     have := own i m (by omega) ⟨h3, h4⟩ ⟨hi.1, by omega⟩
     unfold upd; rw [if_pos this]
   ·rw [if_neg hi, ZiM, ZiM]
    have : hid t (upd D j) K i = hid t D K i := by
     rw [Bool.eq_iff_iff, ZnR, ZnR]
     constructor
     ·rintro ⟨m, h1, h2, h3⟩
      unfold upd at h2
      by_cases hm : m = j
      ·rw [if_pos hm] at h2; cases h2
      ·rw [if_neg hm] at h2; exact ⟨m, h1, h2, h3⟩
     ·rintro ⟨m, h1, h2, h3, h4⟩
      have hm : m ≠ j := fun h => by subst h; omega
      exact ⟨m, h1, by unfold upd; rw [if_neg hm]; exact h2, h3, h4⟩
    rw [this]
  have hpl : t.UP j = [] := ht.noUp hp (by omega)
  unfold wpOp
  simp only [ho]
  cases hw : t.W j with
  | false =>
   rw [hw] at hwant
   rw [hwant]
   simp only [Bool.false_eq_true, if_false]
   obtain ⟨n1, n2, n3⟩ := ht.n j p hp hw
   refine fin K R undef w hK hKd' hKn' (Ext.refl R w) ok ?_ (fun i h _ => h) (by rw [n1]; exact ZmM)
   rw [hH]
   apply List.ext_getElem?
   intro i
   rw [stg i, n3, if_neg (by rintro ⟨h1, h2⟩; simp at h2; omega)]
  | true =>
   rw [hw] at hwant
   rw [hwant]
   simp only [if_true]
   obtain ⟨y1, y2⟩ := ht.y j p hp hw
   rw [hpl] at y1
   have see : ZaA p ≤ 2 → ∀ i blk, (ZeU (t.HH j) ([] ++ t.pos j) p.mask)[i]? = some blk → blk ≠ .dead → (t.HH j)[i]? = some blk ∧ ∀ m, m < j → t.len m ≤ i → i < t.len (m + 1) → D m = true := fun _ i blk h hd => by
    obtain ⟨h1, h2⟩ := Zkr _ _ _ i blk h hd
    refine ⟨h1, fun m hm h3 h4 => ?_⟩
    have hq : l[m]? = some (l[m]'(by omega)) := List.getElem?_eq_getElem (by omega)
    rcases hk.early m j _ p hq hp hm with f | f | f
    ·omega
    ·exact down m f
    ·have h5 := h2 m f (t.len m) (t.NW m).length (by simp [Zck.pos, hm, Zck.len])
     have := ht.len_succ (j := m) (by omega)
     omega
   have hHm : ∃ Hm, (∀ b blk, nth Hm b = some blk → blk ≠ .dead → nth R.H b = some blk) ∧ opE Γ cf env (t.len j) Hm p.op = some (t.VV j, [], t.NW j) := by
    rcases Nat.lt_or_ge (ZaA p) 2 with h2 | h2
    ·rcases ZmT (p := p) (by omega) with ⟨_, h0⟩ | ⟨h01, h1, hne⟩ | ⟨h01, he1⟩
     ·refine ⟨[], fun b blk hb => by simp [nth] at hb, ?_⟩
      rw [hop, ZuA (nid' := (t.HH j).length) (H' := ZeU (t.HH j) ([] ++ t.pos j) p.mask) h0]; exact y1
     ·refine ⟨R.H, fun b blk hb _ => hb, ?_⟩
      rw [hop]
      refine Zt1 (H := ZeU (t.HH j) ([] ++ t.pos j) p.mask) (fun b blk hb hd => ?_) h1 y1
      rw [ZX] at hb
      obtain ⟨g1, g2⟩ := see (by omega) b blk hb hd
      have hbj : b < t.len j := (List.getElem?_eq_some_iff.1 g1).1
      have hbK : b < t.len K := by
       rcases Nat.lt_or_ge j K with h | h
       ·have := ht.len_mono (a := j) K (by omega) hK; omega
       ·by_cases hb0 : b < t.len 0
        ·have := ht.len_mono (a := 0) K (by omega) hK; omega
        ·obtain ⟨m, _, f2, f3, f4⟩ := ht.whose (a := 0) j (by omega) (by omega) (by omega) hbj
         have hdm := g2 m f2 f3 f4
         have hq : l[m]? = some (l[m]'(by omega)) := List.getElem?_eq_getElem (by omega)
         have hmK : m < K := by
          rcases Nat.lt_or_ge m K with h' | h'
          ·exact h'
          ·obtain ⟨q, q1, q2, q3⟩ := hKn (by omega)
           rcases hk.order q1 hq q2 (ht.new2 hq ⟨f3, f4⟩) with f | f | f
           ·subst f; rw [hdm] at q3; cases q3
           ·rw [downD K m (by omega) hdm f.2] at q3; cases q3
           ·omega
         have := ht.len_mono (a := m + 1) K (by omega) hK; omega
      have hhid : hid t D K b = false := by
       rw [ZhP]
       intro m hm h3 h4
       rcases Nat.lt_or_ge m j with h | h
       ·exact g2 m h h3 h4
       ·have := ht.len_mono (a := j) m h (by omega); omega
      rw [ZX, hH, Zfi hhid]
      have three : ∀ m q, l[m]? = some q → (j ≤ m ∧ m < K ∨ K ≤ m ∧ m < j) → ZaA q ≤ 3 := fun m q hq hm => by
       rcases Nat.lt_or_ge (ZaA q) 3 with h | h
       ·omega
       ·rcases hk.pair m j q p hq hp h with f | f | f | f | f | f
        ·subst f; rw [hp] at hq; cases hq; omega
        ·rcases hm with hm | hm
         ·have := hk.lt j m hjl f; omega
         ·have hdm := down m f
          obtain ⟨q', q1, q2, q3⟩ := hKn (by omega)
          rcases hk.order q1 hq q2 (by omega) with g | g | g
          ·subst g; rw [hdm] at q3; cases q3
          ·rw [downD K m (by omega) hdm g.2] at q3; cases q3
          ·omega
        ·rcases hm with hm | hm
         ·have := downD j m (by omega) (hKd m q hq hm.2 h) f
          rw [hDj] at this; cases this
         ·have := hk.lt m j (by omega) f; omega
        ·omega
        ·omega
        ·exact absurd f.1 hne
      rcases Nat.le_total j K with h | h
      ·obtain ⟨x1, y1', z1, z2, z3⟩ := ht.like hk (a := j) K h hK (fun m q h3 h4 hq => three m q hq (.inl ⟨h3, h4⟩)) b hbj
       rw [g1] at z1; cases z1
       exact ⟨y1', z2, z3.elim (fun h => h ▸ Blk.like_refl hd) id⟩
      ·obtain ⟨x1, y1', z1, z2, z3⟩ := ht.like hk (a := K) j h (by omega) (fun m q h3 h4 hq => three m q hq (.inr ⟨h3, h4⟩)) b hbK
       rw [g1] at z2; cases z2
       exact ⟨x1, z1, z3.elim (fun h => by subst h; exact Blk.like_refl hd) Blk.like_symm⟩
     ·
      obtain ⟨s', hops, hgd⟩ : ∃ s', p.op = .load 1 false (.t s') ∧ p.guard = none := by
       have := hk.eff1 j p hp
       unfold ZpN at this
       rw [he1] at this
       change (match p.op, p.guard with | .load 1 false (.t _), none => true | _, _ => false) = true at this
       split at this
       ·exact ⟨_, by assumption, by assumption⟩
       ·cases this
      have hsl : s' ∈ ZcY p := by unfold ZcY; rw [hops]; simp [ZqG, Ztk]
      have hjK : j < K := by
       rcases Nat.lt_or_ge j K with h | h
       ·exact h
       ·obtain ⟨q, g1, g2, g3⟩ := hKn (by omega)
        rcases hk.pair K j q p g1 hp g2 with f | f | f | f | f | f
        ·subst f; rw [hp] at g1; cases g1; omega
        ·rw [down K f] at g3; cases g3
        ·have := hk.lt K j (by omega) f; omega
        ·omega
        ·exact absurd he1 f.2.2
        ·omega
      have ldE : ∀ (Hx : Zk) (k : Nat), opE Γ cf (t.E j) k Hx p.op = (match ZcU Hx 1 false (t.E j s') with | some v => ZcC v | none => none) := fun Hx k => by rw [hops]; rfl
      rw [ldE] at y1
      have hyl : ZcU (ZeU (t.HH j) ([] ++ t.pos j) p.mask) 1 false (t.E j s') = some (t.VV j) ∧ t.NW j = [] := by
       cases hl : ZcU (ZeU (t.HH j) ([] ++ t.pos j) p.mask) 1 false (t.E j s') with
       | none => rw [hl] at y1; cases y1
       | some v =>
        rw [hl] at y1
        obtain ⟨rfl, _, h3⟩ := Zaf y1
        exact ⟨rfl, h3⟩
      obtain ⟨hyl, hnw⟩ := hyl
      have key : ∀ k, j ≤ k → k ≤ K → ZcU (t.HH k) 1 false (t.E j s') = some (t.VV j) := by
       intro k
       induction k with
       | zero =>
        intro h _
        have : j = 0 := by omega
        subst this
        exact ZjN hyl fun b _ blk hb hd => (see (by omega) b blk hb hd).1
       | succ k ih =>
        intro hjk hkK
        by_cases hjk' : j = k + 1
        ·subst hjk'
         exact ZjN hyl fun b _ blk hb hd => (see (by omega) b blk hb hd).1
        ·have ih' := ih (by omega) (by omega)
         have hq : l[k]? = some (l[k]'(by omega)) := List.getElem?_eq_getElem (by omega)
         have app : ∀ (Ha Hb : Zk), ZcU Ha 1 false (t.E j s') = some (t.VV j) → ZcU (Ha ++ Hb) 1 false (t.E j s') = some (t.VV j) := fun Ha Hb hl =>
          ZjN hl fun b _ blk hb _ => by rw [List.getElem?_append_left (List.getElem?_eq_some_iff.1 hb).1]; exact hb
         rcases Nat.lt_or_ge (ZaA (l[k]'(by omega))) 3 with h | h
         ·rw [ht.stay1 hq (by omega)]
          exact app _ _ ih'
         ·rcases hk.pair k j _ p hq hp h with f | f | f | f | f | f
          ·subst f
           rw [hp] at hq
           have hq' := Option.some.inj hq
           rw [← hq'] at h
           omega
          ·have := hk.lt j k hjl f; omega
          ·have := downD j k (by omega) (hKd k _ hq (by omega) h) f
           rw [hDj] at this; cases this
          ·omega
          ·exact absurd he1 f.2.2
          ·cases hwk : t.W k with
           | false =>
            obtain ⟨_, n2, n3⟩ := ht.n k _ hq hwk
            rw [ht.h k _ hq, n2, n3]
            exact app _ _ ih'
           | true =>
            have zc := (Zkh (ht.y k _ hq hwk).2).2
            have hkp := f.2.2
            unfold ZrJ at hkp
            rw [hops] at hkp
            split at hkp
            ·rename_i f' args chk x' y' s'' hopk hsx
             cases hsx
             rw [hopk] at zc
             obtain ⟨i0, q1, q2⟩ := Zpt (show ZrF (t.E k) (t.HH k) (ZdC (t.HH k) (t.UP k)) chk = true from zc) hkp
             rw [ht.envs hk hp he1 hsl k (by omega) (by omega)] at q1 q2
             rw [q1] at ih'
             rw [ht.h k _ hq]
             exact app _ _ (q2.trans ih')
            ·cases hkp
      refine ⟨R.H, fun b blk hb _ => hb, ?_⟩
      rw [hop, ldE]
      have : ZcU R.H 1 false (t.E j s') = some (t.VV j) := by
       refine ZjN (key K (by omega) (Nat.le_refl _)) fun b hb blk hbk hd => ?_
       obtain ⟨blk0, h5, h6⟩ := Zri hyl hb
       obtain ⟨g1, g2⟩ := see (by omega) b blk0 h5 h6
       have hbj : b < t.len j := (List.getElem?_eq_some_iff.1 g1).1
       rw [hH, Zfi]
       ·exact hbk
       ·rw [ZhP]
        intro m hm h3 h4
        rcases Nat.lt_or_ge m j with h | h
        ·exact g2 m h h3 h4
        ·have := ht.len_mono (a := j) m h (by omega); omega
      rw [this, hnw]; rfl
    ·obtain ⟨t1, t2⟩ := two h2
     refine ⟨_, fun b blk hb hd => ?_, by rw [hop]; exact y1⟩
     rw [ZX] at hb
     obtain ⟨g1, g2⟩ := see (by omega) b blk hb hd
     have hbj : b < t.len j := (List.getElem?_eq_some_iff.1 g1).1
     rw [ZX, hH, Zfi, ht.stay K (by omega) hK t2 b hbj]
     ·exact g1
     ·rw [ZhP]
      intro m hm h3 h4
      rcases Nat.lt_or_ge m j with h | h
      ·exact g2 m h h3 h4
      ·have := ht.len_mono (a := j) m h (by omega); omega
   obtain ⟨Hm, hle, hop'⟩ := hHm
   have pre : Pre G R w env a Hm := ⟨ok, x.gok c.ok.b01 c.g, hE, hle⟩
   have hplaced : Zaa R.H [] (t.len j) (t.NW j) (ZgD t (upd D j) K) := fun i => by rw [stg i, hH]; rfl
   refine .inl ((ZrY pre c.cf k3 hop' free hplaced).wp fun u w' hpost => ?_)
   obtain ⟨R', x', ok', hH', hv, hM'⟩ := hpost
   exact fin K R' u w' hK hKd' hKn' x' ok' hH' (fun i h1 h2 => hM' i h1 (by omega)) hv
 ·
  have hjK : j = K := by
   rcases Nat.lt_trichotomy j K with h | h | h
   ·rw [hKd j p hp h hc] at hDj; cases hDj
   ·exact h
   ·obtain ⟨q, g1, g2, g3⟩ := hKn (by omega)
    rcases hk.order g1 hp g2 (by omega) with f | f | f
    ·omega
    ·rw [down K f.2] at g3; cases g3
    ·omega
  subst hjK
  have below : ∀ m q, l[m]? = some q → m < j → 2 ≤ ZaA q → D m = true := fun m q hq hm h2 => by
   rcases hk.order hp hq hc h2 with f | f | f
   ·omega
   ·omega
   ·exact down m f.2
  have above : ∀ m q, l[m]? = some q → j < m → 2 ≤ ZaA q → D m = false := fun m q hq hm h2 => by
   cases hd : D m with
   | false => rfl
   | true =>
    rcases hk.order hp hq hc h2 with f | f | f
    ·omega
    ·have := downD j m (List.getElem?_eq_some_iff.1 hq).1 hd f.2
     rw [hDj] at this; cases this
    ·omega
  have full : ZgD t D j = t.HH j := by
   apply List.ext_getElem?
   intro i
   refine Zfi (ZhP.2 fun m hm h3 h4 => ?_)
   have hq : l[m]? = some (l[m]'(by omega)) := List.getElem?_eq_getElem (by omega)
   exact below m _ hq hm (ht.new2 hq ⟨h3, h4⟩)
  rw [full] at hH
  have go : ∀ (R' : RP) (u : Value) (w' : World), Ext R w R' w' → R'.OK w' → R'.H = t.HH (j + 1) → (∀ i, R.M i = none → ¬ (t.len j ≤ i ∧ i < t.len (j + 1)) → R'.M i = none) → ZaP R' w' (t.VV j) u → Zrb P N t l os e H Rf wf (upd D j) (a.put o.dst u) w' := by
   intro R' u w' x' ok' hH' hM' hv
   obtain ⟨K', g1, g2, g3, g4, g5⟩ := Zs6 ht (D := upd D j) (s := j + 1) (by omega) ok' hH' (fun m q hq hm h2 => by
    unfold upd
    by_cases hmj : m = j
    ·rw [if_pos hmj]
    ·rw [if_neg hmj]; exact below m q hq (by omega) h2) (fun m q hq hm h2 => by
    unfold upd; rw [if_neg (by omega)]; exact above m q hq (by omega) h2)
   exact fin K' _ u w' g1 g2 g3 (x'.trans g4) g5 rfl hM' (g4.denV ok'.b01 _ _ hv)
  unfold wpOp
  simp only [ho]
  cases hw : t.W j with
  | false =>
   rw [hw] at hwant
   rw [hwant]
   simp only [Bool.false_eq_true, if_false]
   obtain ⟨n1, n2, n3⟩ := ht.n j p hp hw
   refine go R undef w (Ext.refl R w) ok ?_ (fun i h _ => h) (by rw [n1]; exact ZmM)
   rw [hH, ht.h j p hp, n2, n3]; simp [ZdC]
  | true =>
   rw [hw] at hwant
   rw [hwant]
   simp only [if_true]
   obtain ⟨y1, y2⟩ := ht.y j p hp hw
   rw [hk.mask j p hp hc] at y1
   have pre : Pre G R w env a (t.HH j) := ⟨ok, x.gok c.ok.b01 c.g, hE, fun b blk hb _ => by rw [hH]; exact hb⟩
   have hplaced : Zaa R.H (t.UP j) (t.len j) (t.NW j) (t.HH (j + 1)) := by
    rw [hH, ht.h j p hp]; exact Zmx _ _ _
   refine .inl ((ZrY pre c.cf k3 (by rw [hop]; exact y1) free hplaced).wp fun u w' hpost => ?_)
   obtain ⟨R', x', ok', hH', hv, hM'⟩ := hpost
   exact go R' u w' x' ok' hH' (fun i h1 h2 => hM' i h1 (by omega)) hv
theorem Zna {p q : Nat → Bool} : ∀ (l : List Nat) (j : Nat), (∀ x, q x = true → p x = true) → j ∈ l → p j = true → q j = false → l.countP q < l.countP p
 | [], j, _, h, _, _ => by cases h
 | x :: l, j, hq, h, h1, h2 => by
  have mono : ∀ l : List Nat, l.countP q ≤ l.countP p := fun l => List.countP_mono_left fun x _ h => hq x h
  rw [List.countP_cons, List.countP_cons]
  by_cases hx : x = j
  ·subst hx
   have := mono l
   rw [h1, h2]; simp; omega
  ·have := Zna l j hq ((List.mem_cons.1 h).resolve_left (fun h => hx h.symm)) h1 h2
   cases hqx : q x with
   | true => rw [hq x hqx]; simp; omega
   | false => cases hpx : p x <;> simp <;> omega
theorem ZsH (c : ZjQ P G cf Rf wf) (hlo : Rf.H.length ≤ H.length) (ht : t.OK Γ cf [] l e H e' H') (hk : Chk P G N os l B) {Q : Exit → Act → World → Prop} (hQ : ∀ D a w, (∀ j, j < l.length → D j = true) → Zrb P N t l os e H Rf wf D a w → Q .normal a w) :
  ∀ (fuel : Nat) (listed : Array Bool) (a : Act) (w : World), listed.size = os.size → Zrb P N t l os e H Rf wf (fun j => listed.getD j false) a w → (List.range os.size).countP (fun j => !listed.getD j false) ≤ fuel → wpAny P .any os Q fuel listed a w := by
 have full : ∀ (listed : Array Bool), listed.size = os.size → (Region.ready .any os listed = []) → ∀ j, j < l.length → listed.getD j false = true := by
  intro listed hsz hr j
  induction j using Nat.strongRecOn with
  | ind j ih =>
   intro hj
   have hjs : j < os.size := by rw [hk.len]; exact hj
   cases hd : listed.getD j false with
   | true => rfl
   | false =>
    have : j ∈ Region.ready .any os listed := by
     rw [mem_ready]
     refine ⟨?_, os[j], Array.getElem?_eq_getElem hjs, fun ed he hb => ?_⟩
     ·simp only [Array.getD_eq_getD_getElem?] at hd ⊢
      rw [Array.getElem?_eq_getElem (by omega)] at hd ⊢; exact hd
     ·have hlt := hk.pre j _ (Array.getElem?_eq_getElem hjs) ed.on (by
       unfold ZkD
       exact List.mem_map.2 ⟨ed, List.mem_filter.2 ⟨by simpa using he, hb⟩, rfl⟩)
      exact ih ed.on hlt (by omega)
    rw [hr] at this; cases this
 intro fuel
 induction fuel with
 | zero =>
  intro listed a w hsz s hc
  have hall : ∀ j, j < l.length → listed.getD j false = true := fun j hj => by
   cases hd : listed.getD j false with
   | true => rfl
   | false =>
    have h1 : 0 < (List.range os.size).countP (fun j => !listed.getD j false) := List.countP_pos_iff.2 ⟨j, by simp [hk.len, hj], by simp only [hd]; rfl⟩
    omega
  refine ⟨?_, hQ _ a w hall s⟩
  apply List.eq_nil_iff_forall_not_mem.2
  intro j hj
  obtain ⟨h1, o, h2, _⟩ := mem_ready.1 hj
  have hjs := (Array.getElem?_eq_some_iff.1 h2).1
  have := hall j (by rw [← hk.len]; exact hjs)
  simp only [Array.getD_eq_getD_getElem?] at h1 this
  rw [Array.getElem?_eq_getElem (by omega)] at h1 this
  simp at h1 this; rw [h1] at this; cases this
 | succ fuel ih =>
  intro listed a w hsz s hc
  refine ⟨fun hr => hQ _ a w (full listed hsz hr) s, fun j hj => ?_⟩
  obtain ⟨h1, o, h2, h3⟩ := mem_ready.1 hj
  have hjs := (Array.getElem?_eq_some_iff.1 h2).1
  have hd : listed.getD j false = false := by
   simp only [Array.getD_eq_getD_getElem?] at h1 ⊢
   rw [Array.getElem?_eq_getElem (by omega)] at h1 ⊢; exact h1
  have hup : upd (fun j => listed.getD j false) j = fun k => (listed.setIfInBounds j true).getD k false := by
   funext k
   unfold upd
   by_cases hkj : k = j
   ·subst hkj
    rw [if_pos rfl]
    simp [Array.getD_eq_getD_getElem?, hsz, hjs]
   ·rw [if_neg hkj, getD_set_ne false (fun h => hkj h.symm)]
  refine wpOp_mono (fun a' w' s' => ih _ a' w' (by simp [hsz]) s' ?_) (hup ▸ step c hlo ht hk s h2 hd fun i hi => ?_)
  ·have := Zna (p := fun j => !listed.getD j false) (q := fun k => !(listed.setIfInBounds j true).getD k false) (List.range os.size) j (fun k hk' => by
    by_cases hkj : j = k
    ·subst hkj; simp only [hd]; rfl
    ·rw [getD_set_ne false hkj] at hk'; exact hk') (by simp [hjs]) (by simp only [hd]; rfl) (by simp [Array.getD_eq_getD_getElem?, hsz, hjs])
   omega
  ·unfold ZkD at hi
   obtain ⟨ed, f1, rfl⟩ := List.mem_map.1 hi
   obtain ⟨f2, f3⟩ := List.mem_filter.1 f1
   exact h3 ed (by simpa using f2) f3
end
theorem Zuv {P : Program} {G : Zbr} {N : Nat} {Γ : Ctx} {cf : Za9} : ZlH P G N Γ cf (Zt P G N) := by
 intro id os l Rf wf e H e' H' a w hok hd c s
 obtain ⟨B, hk⟩ := ZpV hok
 obtain ⟨t, ht⟩ := Zma l [] e H e' H' hd
 obtain ⟨R, x, ok, hH, hM, hE⟩ := s.ex
 refine wp_region_any hk.mixed ?_
 have xd : Ext R w R { w with drawn := w.drawn + 1 } := Ext.draw rfl rfl rfl rfl
 have okd : R.OK { w with drawn := w.drawn + 1 } := ok.draw rfl rfl rfl rfl
 refine ZsH c s.hl ht hk (fun D a' w' hall s' => ?_) os.size _ a _ (by simp) ?_ ?_
 ·obtain ⟨K, R', env, h1, h2, h3, x', ok', hH', hM', hE', hV, hO⟩ := s'.ex
  have hKl : K = l.length := by
   rcases Nat.lt_or_ge K l.length with h | h
   ·obtain ⟨_, _, _, h4⟩ := h3 h
    rw [hall K h] at h4; cases h4
   ·omega
  subst hKl
  have hHe : ZgD t D l.length = H' := by
   rw [← ht.h1]
   apply List.ext_getElem?
   intro i
   exact Zfi (ZhP.2 fun m hm _ _ => hall m hm)
  have hle : H.length ≤ H'.length := by
   have := ht.len_mono (a := 0) l.length (by omega) (Nat.le_refl _)
   unfold Zck.len at this; rw [ht.h0, ht.h1] at this; exact this
  have henv : ∀ d, env d = e' d := fun d => by
   rw [← ht.e1]
   by_cases hx : ∃ (i : Nat) (q : Op1), l[i]? = some q ∧ q.dst = some d
   ·obtain ⟨i, q, hq, hqd⟩ := hx
    have hi := (List.getElem?_eq_some_iff.1 hq).1
    rw [hV i q d hq hqd (hall i hi), ht.envd hk hq hqd l.length hi (Nat.le_refl _)]
   ·have hn : ∀ (i : Nat) (q : Op1), l[i]? = some q → q.dst ≠ some d := fun i q hq hqd => hx ⟨i, q, hq, hqd⟩
    rw [hO d fun i q hq hqd => absurd hqd (hn i q hq), ht.env0 l.length (Nat.le_refl _) fun i q _ hq => hn i q hq]
  refine ⟨rfl, ⟨⟨R', x', ok', by rw [hH', hHe], fun i hi => hM' i (by omega) fun j hj _ hb => ?_, fun d => by rw [← henv d]; exact hE' d⟩, s'.tm, s'.df, by have := s.hl; omega⟩⟩
  have := ht.len_mono (a := j + 1) l.length (by omega) (Nat.le_refl _)
  have h2 : t.len l.length = H'.length := by unfold Zck.len; rw [ht.h1]
  omega
 ·have hf : ∀ j, (Array.replicate os.size false).getD j false = false := fun j => by
   by_cases hj : j < os.size <;> simp [Array.getD_eq_getD_getElem?, hj]
  obtain ⟨K, g1, g2, g3, g4, g5⟩ := Zs6 ht (D := fun j => (Array.replicate os.size false).getD j false) (s := 0) (Nat.zero_le _) okd (by rw [ht.h0]; exact hH) (fun m p _ hm => by omega) (fun m p _ _ _ => hf m)
  refine ⟨fun j o _ hd => (by rw [hf j] at hd; cases hd), ⟨K, _, e, g1, g2, g3, (x.trans xd).trans g4, g5, rfl, fun i hi _ => hM i hi, g4.envOK okd.b01 (xd.envOK ok.b01 hE), fun j p d _ _ hd => (by rw [hf j] at hd; cases hd), fun d _ => rfl⟩, s.tm, s.df⟩
 ·exact Nat.le_trans List.countP_le_length (by simp)
theorem ZrO {P : Program} {G : Zbr} {Γ : Ctx} (hall : ∀ f fn, Γ.code f = some fn → ZW P G (fun N => Zt P G N) f fn = true ∨ ZkO P f fn) : ZeN P G (evW Γ) :=
 Zvp (fun _ _ _ => Zuv) hall
end Go.Proofs.YtnmbdjkbaihicaaDoorE
namespace Go.Proofs.YtnmbdjkbaihicaaDoor.Last
open Go Go.RowKit Go.Shelf Go.Proofs.YtnmbdjkbaihicaaDoorE
attribute [local go_sem] Oper.semAt_some
def upto {α : Type} (f : Nat → α) (k : Nat) : List α := (List.range k).map f
theorem ZkF {α : Type} (f : Nat → α) (k : Nat) : upto f (k + 1) = upto f k ++ [f k] := by simp [upto, List.range_succ]
theorem ZoX {α : Type} (f : Nat → α) (k : Nat) : (upto f k).length = k := by simp [upto]
def Kp (n₀ Bs : Nat) (A B : World) : Prop := Below n₀ A B ∧ B.heap[Bs]? = A.heap[Bs]?
theorem Kp.trans {n₀ Bs : Nat} {A B C : World} (h : Kp n₀ Bs A B) (k : Kp n₀ Bs B C) : Kp n₀ Bs A C := ⟨h.1.trans k.1, k.2.trans h.2⟩
theorem Kp.refl (n₀ Bs : Nat) (A : World) : Kp n₀ Bs A A := ⟨Below.refl _ _, rfl⟩
theorem Kp.cellB {n₀ Bs o : Nat} {A B : World} (h : Kp n₀ Bs A B) : B.cell? ⟨Bs, o, none⟩ = A.cell? ⟨Bs, o, none⟩ := by
 unfold World.cell?
 rw [h.2]
def rnd (zs : List (Int × Int)) (len k : Nat) : Nat × (Int × Int) := (len - 1 - k, pc zs (len - 1 - k))
theorem ZrG (F : Fence) (n : Nat) (h8 : F.fn 119) (hro : F.round = none) (hn : 1 ≤ n) (l Bs n₀ b off len cap : Nat) (zs : List (Int × Int)) (hreach : len ≤ 1073741824) (hb : b < n₀) (J Jx : List (Nat × (Int × Int)) → World → Prop)
  (hY : ∀ pre x W, J pre W → pre.length < len → YieldAt F (n - 1) Tryd.prog l #[.int .i64 (x.1 : Int), .agg #[.int .i64 x.2.1, .int .i64 x.2.2]] W fun e W' =>
   (e = .returned (.bool true) ∧ J (pre ++ [x]) W' ∧ Kp n₀ Bs W W') ∨ (e = .returned (.bool false) ∧ Jx (pre ++ [x]) W'))
  (W : World) (hBs : W.cell? ⟨Bs, 0, none⟩ = some (.slice (some ⟨b, off, none⟩) len cap)) (hc : ∀ j, j < len → W.cell? ⟨b, off + j * 2, none⟩ = some (.int .i64 (pc zs j).1) ∧ W.cell? ⟨b, off + j * 2 + 1, none⟩ = some (.int .i64 (pc zs j).2)) (h0 : J [] W) :
  CallsIn F n Tryd.prog 119 #[.func (.yield l) #[] #[], .pointer (some ⟨Bs, 0, none⟩)] W fun e W' => (∃ v, e = .returned v) ∧
   ((∃ ys, ys = upto (rnd zs len) len ∧ J ys W') ∨ (∃ pre, (∃ k, k ≤ len ∧ pre = upto (rnd zs len) k) ∧ Jx pre W')) := by
 refine callsIn_of_wp Tryd.func119 rfl h8 ?_ hro
 simp only [Tryd.ntmps119, List.size_toArray, List.length_cons, List.length_nil, Nat.reduceAdd, Nat.reduceSub, Array.replicate_succ, Array.replicate_zero, List.push_toArray, List.append_toArray, List.nil_append, List.cons_append]
 gi_wp2
 gi_loopw [3] (fun i wr => ∃ k : Nat, k ≤ len ∧ i = .int .i64 ((len : Int) - 1 - k) ∧ J (upto (rnd zs len) k) wr ∧ Kp n₀ Bs W wr)
  (fun i _ => (intOf i + 1).toNat)
 case atStart =>
  refine ⟨0, Nat.zero_le _, ?_, h0, Kp.refl _ _ _⟩
  simp
 case round =>
  obtain ⟨k, hk, rfl, hJs, hnx⟩ := hrel
  have hcx : k < len → wr.cell? ⟨b, off + (len - 1 - k) * 2, none⟩ = some (.int .i64 (pc zs (len - 1 - k)).1) ∧ wr.cell? ⟨b, off + (len - 1 - k) * 2 + 1, none⟩ = some (.int .i64 (pc zs (len - 1 - k)).2) := fun h => ⟨(hnx.1.cell (p := ⟨b, off + (len - 1 - k) * 2, none⟩) hb).trans (hc _ (by omega)).1, (hnx.1.cell (p := ⟨b, off + (len - 1 - k) * 2 + 1, none⟩) hb).trans (hc _ (by omega)).2⟩
  by_cases hlt : k < len
  ·obtain ⟨fn, tmps, assign, body, hy, hR⟩ := hY _ (rnd zs len k) wr hJs (by rw [ZoX]; exact hlt)
   dsimp only [rnd] at hy
   obtain ⟨hcx1, hcx2⟩ := hcx hlt
   obtain ⟨m, hm⟩ : ∃ m : Nat, len - 1 - k = m := ⟨_, rfl⟩
   rw [hm] at hy hcx1 hcx2
   rw [show (len : Int) - 1 - k = (m : Int) by omega]
   have hBw := hnx.cellB.trans hBs
   gi_wp2
   refine hR.mono ?_
   rintro e W3 (⟨rfl, hJ3, hk3⟩ | ⟨rfl, hJx3⟩)
   ·gi_wp2
    go_roundw
    case rel => exact ⟨k + 1, by omega, by congr 1; omega, by rw [ZkF]; exact hJ3, hnx.trans hk3⟩
    case measure => simp [intOf]
   ·gi_wp2
    refine bodyPost_ret (results_none rfl _ _ _) rfl ?_
    exact ⟨⟨_, rfl⟩, .inr ⟨_, ⟨k + 1, by omega, (ZkF _ _).symm⟩, hJx3⟩⟩
  ·obtain rfl : k = len := by omega
   rw [show (k : Int) - 1 - k = -1 by omega]
   gi_wp2
   go_end0
   exact ⟨⟨_, rfl⟩, .inl ⟨_, rfl, hJs⟩⟩
theorem ZrV (F : Fence) (n : Nat) (h8 : F.fn 119) (hro : F.round = none) (l Bs cap : Nat) (a : Option Addr) (J : List (Nat × (Int × Int)) → World → Prop) (W : World) (hBs : W.cell? ⟨Bs, 0, none⟩ = some (.slice a 0 cap)) (h0 : J [] W) :
  CallsIn F n Tryd.prog 119 #[.func (.yield l) #[] #[], .pointer (some ⟨Bs, 0, none⟩)] W fun e W' => (∃ v, e = .returned v) ∧ J [] W' := by
 refine callsIn_of_wp Tryd.func119 rfl h8 ?_ hro
 simp only [Tryd.ntmps119, List.size_toArray, List.length_cons, List.length_nil, Nat.reduceAdd, Nat.reduceSub, Array.replicate_succ, Array.replicate_zero, List.push_toArray, List.append_toArray, List.nil_append, List.cons_append]
 gi_wp2
 gi_loopw [3] (fun i wr => i = .int .i64 (-1) ∧ J [] wr) (fun _ _ => 0)
 case atStart => exact ⟨by simp, h0⟩
 case round =>
  obtain ⟨rfl, hJs⟩ := hrel
  gi_wp2
  go_end0
  exact ⟨⟨_, rfl⟩, hJs⟩
theorem ZAy {n₀ Bs : Nat} {w : World} (h1 : n₀ ≤ w.heap.size) (h2 : Bs < w.heap.size) : ∀ (W : World) (l : Nat) (o o' : Obj), w.heap.size ≤ l → W.heap[l]? = some o → o.isCells = false → o.isWalk = false → Kp n₀ Bs W (W.putObj l o') := fun W l o o' hl ho hc hw =>
 ⟨belowK_b (w := w) h1 W l o o' hl ho hc hw, (belowK_b (w := w) (Nat.le_refl _) W l o o' hl ho hc hw).block _ h2⟩
def Pcs (n₀ : Nat) (W : World) (sv : Value) (zs : List (Int × Int)) : Prop :=
 (∃ a cap, sv = .slice a 0 cap ∧ zs = []) ∨ ∃ b off cap, sv = .slice (some ⟨b, off, none⟩) zs.length cap ∧ b < n₀ ∧ ∀ j, j < zs.length → W.cell? ⟨b, off + j * 2, none⟩ = some (.int .i64 (pc zs j).1) ∧ W.cell? ⟨b, off + j * 2 + 1, none⟩ = some (.int .i64 (pc zs j).2)
theorem Pcs.below {n₀ : Nat} {A B : World} (h : Below n₀ A B) {sv : Value} {zs : List (Int × Int)} : Pcs n₀ A sv zs → Pcs n₀ B sv zs
 | .inl e => .inl e
 | .inr ⟨b, off, cap, e, hb, hc⟩ => .inr ⟨b, off, cap, e, hb, fun j hj => ⟨(h.cell (p := ⟨b, off + j * 2, none⟩) hb).trans (hc j hj).1, (h.cell (p := ⟨b, off + j * 2 + 1, none⟩) hb).trans (hc j hj).2⟩⟩
theorem Zug (F : Fence) (n : Nat) (h5 : F.fn 105) (hro : F.round = none) (sv : Value) (w : World) (hs : ∃ a len cap, sv = .slice a len cap) :
  CallsIn F n Tryd.prog 105 #[sv] w fun e w' => e = .returned (.func (.func 119) #[] #[.pointer (some ⟨w.heap.size, 0, none⟩)]) ∧ w' = w.alloc (.cells #[sv] 77) := by
 obtain ⟨a, len, cap, rfl⟩ := hs
 refine callsIn_of_wp Tryd.func105 rfl h5 ?_ hro
 simp only [Tryd.ntmps105, List.size_toArray, List.length_cons, List.length_nil, Nat.reduceAdd, Nat.reduceSub, Array.replicate_succ, Array.replicate_zero, List.push_toArray, List.append_toArray, List.nil_append, List.cons_append]
 gi_wp2
 go_ret
 exact ⟨rfl, rfl⟩
theorem ZpQ (F : Fence) (n : Nat) (h8 : F.fn 119) (hro : F.round = none) (hn : 1 ≤ n) (Bs n₀ : Nat) (sv : Value) (zs : List (Int × Int)) (hreach : zs.length ≤ 1073741824) (w : World) (hBs : Bs < w.heap.size) (hn₀ : n₀ ≤ w.heap.size)
  (hc : w.cell? ⟨Bs, 0, none⟩ = some sv) (hI : Pcs n₀ w sv zs) :
  SeqStopsK F n Tryd.prog 119 #[.pointer (some ⟨Bs, 0, none⟩)] (fun x : Nat × (Int × Int) => #[Value.int .i64 (x.1 : Int), .agg #[.int .i64 x.2.1, .int .i64 x.2.2]]) (Kp n₀ Bs) (fun ys => ys = upto (rnd zs zs.length) zs.length)
   (fun pre => ∃ k, k ≤ zs.length ∧ pre = upto (rnd zs zs.length) k) zs.length w := fun l J Jx W hW _ _ hY h0 => by
 have hc' := (hW.cell (p := ⟨Bs, 0, none⟩) hBs).trans hc
 rcases hI.below (hW.mono hn₀) with ⟨a, cap, rfl, rfl⟩ | ⟨b, off, cap, rfl, hb, hcs⟩
 ·exact (ZrV F n h8 hro l Bs cap a J W hc' h0).mono fun e W' ⟨he, hj⟩ => ⟨he, .inl ⟨_, rfl, hj⟩⟩
 ·exact ZrG F n h8 hro hn l Bs n₀ b off zs.length cap zs hreach hb J Jx hY W hc' hcs h0
theorem Zp7 {n : Nat} {P : Program} {Q : Exit → Act → World → Prop} {a : Act} {w : World} {c : Code} (h : c.wpIn Fence.wide n P (Exit.noGoto Q) a w) : (Code.scope c).wpIn Fence.wide n P Q a w := wpIn_wide.2 (wp_scope_straight (wpIn_wide.1 h))
theorem Zjc (zs : List (Int × Int)) (p : Int) : ∀ n : Nat, (∀ j, j < n → (pc zs j).1 ≠ p ∨ p < 0) → Zgt zs p n = -1
 | 0, _ => rfl
 | n + 1, h => by
  unfold Zgt
  have : ((pc zs n).1 != p || decide (p < 0)) = true := by
   rcases h n (by omega) with h | h
   ·simp [bne_iff_ne.2 h]
   ·simp [h]
  rw [this]
  exact Zjc zs p n fun j hj => h j (by omega)
theorem Zja (zs : List (Int × Int)) (p : Int) : ∀ (n k : Nat), k < n → (pc zs k).1 = p → 0 ≤ p → (∀ j, k < j → j < n → (pc zs j).1 ≠ p ∨ p < 0) → Zgt zs p n = (k : Int)
 | 0, _, h, _, _, _ => by omega
 | n + 1, k, h, h1, h2, h3 => by
  unfold Zgt
  by_cases hk : k = n
  ·subst hk
   have : ((pc zs k).1 != p || decide (p < 0)) = false := by simp [h1]; exact h2
   rw [this]; rfl
  ·have : ((pc zs n).1 != p || decide (p < 0)) = true := by
    rcases h3 n (by omega) (by omega) with h | h
    ·simp [bne_iff_ne.2 h]
    ·simp [h]
   rw [this]
   exact Zja zs p n k (by omega) h1 h2 fun j a b => h3 j a (by omega)
theorem ZtN (u0 u1 sv : Value) (p : Int) (zs : List (Int × Int)) (hreach : zs.length ≤ 1073741824) (w : World)
  (hs : ∃ a len cap, sv = .slice a len cap) (hI : Pcs w.heap.size w sv zs) :
  CallsIn Fence.wide 5 Tryd.prog 75 #[.agg #[u0, u1, sv], .int .i64 p] w fun e W' => e = .returned (.int .i64 (Zgt zs p zs.length)) ∧ Below w.heap.size w W' := by
 obtain ⟨a, len, cap, rfl⟩ := hs
 refine callsIn_of_wp_marks Tryd.func75 rfl trivial ?_ rfl
 simp only [Tryd.ntmps75, List.size_toArray, List.length_cons, List.length_nil, Nat.reduceAdd, Nat.reduceSub, Array.replicate_succ, Array.replicate_zero, List.push_toArray, List.append_toArray, List.nil_append, List.cons_append]
 gi_wp2
 refine Zp7 ?_
 gi_wp2
 rename_i K hK
 refine wpIn_label (hK _ _ ?_)
 clear hK K
 gi_wp2
 refine ⟨trivial, (Zug Fence.wide 4 trivial rfl _ _ ⟨_, _, _, rfl⟩).mono ?_⟩
 rintro e w' ⟨rfl, rfl⟩
 gi_wp2
 have bP := (((Boxed.new (w.alloc (.cells #[u0, u1, .slice a len cap] 79)) 3 (.int .i64 p)).alloc (.cells #[.int .i64 (-1)] 3)).alloc (.cells #[.slice a len cap] 77))
 have bA := (Boxed.new ((w.alloc (.cells #[u0, u1, .slice a len cap] 79)).alloc (.cells #[.int .i64 p] 3)) 3 (.int .i64 (-1))).alloc (.cells #[.slice a len cap] 77)
 have bN := Boxed.new (((w.alloc (.cells #[u0, u1, .slice a len cap] 79)).alloc (.cells #[.int .i64 p] 3)).alloc (.cells #[.int .i64 (-1)] 3)) 77 (.slice a len cap)
 simp only [World.size_alloc] at bP bA bN
 have hB0 : Below w.heap.size w ((((w.alloc (.cells #[u0, u1, .slice a len cap] 79)).alloc (.cells #[.int .i64 p] 3)).alloc (.cells #[.int .i64 (-1)] 3)).alloc (.cells #[.slice a len cap] 77)) := ((((Below.refl _ w).alloc (Nat.le_refl _) _).alloc (by simp) _).alloc (by simp; omega) _).alloc (by simp; omega) _
 have hsz : ((((w.alloc (.cells #[u0, u1, .slice a len cap] 79)).alloc (.cells #[.int .i64 p] 3)).alloc (.cells #[.int .i64 (-1)] 3)).alloc (.cells #[.slice a len cap] 77)).heap.size = w.heap.size + 4 := by simp
 obtain ⟨W0, hW0⟩ : ∃ W0, (((w.alloc (.cells #[u0, u1, .slice a len cap] 79)).alloc (.cells #[.int .i64 p] 3)).alloc (.cells #[.int .i64 (-1)] 3)).alloc (.cells #[.slice a len cap] 77) = W0 := ⟨_, rfl⟩
 rw [hW0] at bP bA bN hB0 hsz ⊢
 clear hW0
 refine wpIn_rangeFunc_ownH rfl (by omega) (gf := 119) (lb := #[.pointer (some ⟨w.heap.size + 1 + 1 + 1, 0, none⟩)]) rfl trivial (enters_of Tryd.func119 (by kernel_rfl) rfl)
  (ZpQ Fence.wide 4 trivial rfl (by omega) (w.heap.size + 1 + 1 + 1) w.heap.size _ zs hreach W0 (by omega) (by omega) bN.cell (hI.below hB0)) Kp.trans (ZAy (by omega) (by omega)) (Below.refl _ _) (fun _ => rfl)
  (fun pre W => ((Boxed W (w.heap.size + 1) 3 (.int .i64 p) ∧ Boxed W (w.heap.size + 1 + 1) 3 (.int .i64 (-1))) ∧ Boxed W (w.heap.size + 1 + 1 + 1) 77 (.slice a len cap) ∧ (∀ x ∈ pre, x.2.1 ≠ p ∨ p < 0)) ∧ Below w.heap.size w W)
  (fun c pre W => (c = .exit 0 ∧ ∃ ini lst, pre = ini ++ [lst] ∧ (∀ x ∈ ini, x.2.1 ≠ p ∨ p < 0) ∧ (lst.2.1 = p ∧ 0 ≤ p) ∧ Boxed W (w.heap.size + 1 + 1) 3 (.int .i64 (lst.1 : Int))) ∧ Below w.heap.size w W)
  (OwnFrom.and (OwnFrom.and (OwnFrom.and (Own.from (boxed_own _ _ _) _) (Own.from (boxed_own _ _ _) _)) (OwnFrom.and (Own.from (boxed_own _ _ _) _) (ownFrom_pure _ _))) (ownFrom_below (Nat.le_refl _) (by omega)))
  (fun c => OwnFrom.and (Own.from (fun s A B row hs hg hr => by obtain ⟨hc, ini, lst, e1, e2, e3, e4⟩ := hs; exact ⟨hc, ini, lst, e1, e2, e3, boxed_own (w.heap.size + 1 + 1) 3 (fun (_ : Unit) => Value.int .i64 (lst.1 : Int)) () A B row e4 hg hr⟩) _) (ownFrom_below (Nat.le_refl _) (by omega)))
  ⟨⟨⟨bP, bA⟩, bN, by simp⟩, hB0⟩
  (fun x a' W => ∃ Bx, W.cell? ⟨Bx, 0, none⟩ = some (.int .i64 x.2.1) ∧ a' = { tmps := #[.agg #[u0, u1, .slice a len cap], .int .i64 p, .pointer (some ⟨w.heap.size, 0, none⟩), .pointer (some ⟨w.heap.size + 1, 0, none⟩), .int .i64 0, .pointer (some ⟨w.heap.size + 1 + 1, 0, none⟩), .int .i64 (x.1 : Int), .pointer (some ⟨Bx, 0, none⟩), .pointer (some ⟨w.heap.size, 2, none⟩), .slice a len cap, .func (.func 119) #[] #[.pointer (some ⟨w.heap.size + 1 + 1 + 1, 0, none⟩)], .int .i64 (x.1 : Int), .agg #[.int .i64 x.2.1, .int .i64 x.2.2], undef, undef, undef, undef, undef, undef, undef, undef, undef, undef, undef], defers := [] })
  (fun x a' _ X Y row hs hg hr => by obtain ⟨Bx, h1, h2⟩ := hs; exact ⟨Bx, cell_kept h1 hg (fun r e => (hr r e).2), h2⟩)
  ?assign ?body ?done ?ZkK
 case assign =>
  rintro l pre x W K ⟨⟨⟨bP1, bA1⟩, bN1, hp1⟩, hB1⟩ hK
  gi_wp2
  refine hK _ _ ((KeepsOthers.alloc _ _).from _) ⟨(Below.refl _ W).alloc hB1.size _, ?_⟩ ⟨⟨⟨bP1.alloc _, bA1.alloc _⟩, bN1.alloc _, hp1⟩, hB1.alloc hB1.size _⟩ ⟨W.heap.size, ?_, rfl⟩
  ·exact (bN1.alloc _).trans bN1.symm
  ·show (match (W.alloc (.cells #[.int .i64 x.2.1, .int .i64 x.2.2] 106)).heap[W.heap.size]? with | some (.cells c _ _) => _ | _ => none) = _
   rw [World.alloc_heap_new]
   rfl
 case body =>
  rintro l pre x a' W hl ⟨r, hr⟩ ⟨⟨⟨bP1, bA1⟩, bN1, hp1⟩, hB1⟩ ⟨Bx, hBx, rfl⟩ hlt
  have cP := bP1.cell
  have cA := bA1.cell
  have fA := bA1.frozen
  gi_wp2
  ·have hx : p < 0 := by assumption
   exact ⟨KeepsFrom.refl _ _, Kp.refl _ _ _, ⟨⟨⟨bP1, bA1⟩, bN1, fun y hy => .inr hx⟩, hB1⟩⟩
  ·have hx : x.2.1 = p := by assumption
   have hp : 0 ≤ p := by assumption
   exact ⟨(KeepsOthers.setCell _ _ _).from _, ⟨rfl, pre, x, rfl, hp1, ⟨hx, hp⟩, bA1.set _⟩, hB1.setCell (p := ⟨w.heap.size + 1 + 1, 0, none⟩) (by simp; omega) _⟩
  ·have hx : ¬ x.2.1 = p := by assumption
   exact ⟨KeepsFrom.refl _ _, Kp.refl _ _ _, ⟨⟨⟨bP1, bA1⟩, bN1, fun y hy => (List.mem_append.1 hy).elim (hp1 y) fun e => by simp at e; subst e; exact .inl hx⟩, hB1⟩⟩
 case done =>
  rintro D ys W hD rfl ⟨⟨⟨bP1, bA1⟩, bN1, hp1⟩, hB1⟩ hK
  have cA := bA1.cell
  gi_wp2
  refine ⟨by simp, .inl ⟨_, _, rfl, run_takeDeferred hK, ?_⟩⟩
  refine ⟨_, results_tmp rfl _ _ _, ?_, hB1.trans (belowK_b (w := w) (Nat.le_refl _) W D _ _ (by omega) hK rfl rfl)⟩
  show Ending.returned (.int .i64 (-1)) = _
  rw [Zjc zs p zs.length fun j hj => hp1 (rnd zs zs.length (zs.length - 1 - j)) (by simp only [upto, List.mem_map, List.mem_range]; exact ⟨zs.length - 1 - j, by omega, rfl⟩) |> fun h => by unfold rnd at h; rwa [show zs.length - 1 - (zs.length - 1 - j) = j by omega] at h]
 case ZkK =>
  rintro D c pre W hD ⟨k, hk, rfl⟩ ⟨⟨rfl, ini, lst, e1, e2, e3, bA1⟩, hB1⟩ hK
  have cA := bA1.cell
  gi_wp2
  refine ⟨by simp, .inl ⟨_, _, rfl, run_takeDeferred hK, ?_⟩⟩
  refine ⟨_, results_tmp rfl _ _ _, ?_, hB1.trans (belowK_b (w := w) (Nat.le_refl _) W D _ _ (by omega) hK rfl rfl)⟩
  obtain ⟨k', rfl⟩ : ∃ k', k = k' + 1 := by
   cases k with
   | zero => simp [upto] at e1
   | succ k' => exact ⟨k', rfl⟩
  rw [ZkF] at e1
  obtain ⟨rfl, e5⟩ := List.append_inj' e1 rfl
  obtain rfl : rnd zs zs.length k' = lst := by simpa using e5
  show Ending.returned (.int .i64 ((zs.length - 1 - k' : Nat) : Int)) = _
  rw [Zja zs p zs.length (zs.length - 1 - k') (by omega) e3.1 e3.2 fun j h1 h2 => e2 (rnd zs zs.length (zs.length - 1 - j)) (by simp only [upto, List.mem_map, List.mem_range]; exact ⟨zs.length - 1 - j, by omega, rfl⟩) |> fun h => by unfold rnd at h; rwa [show zs.length - 1 - (zs.length - 1 - j) = j by omega] at h]
theorem ZsK {A1 A0 AL : Nat → Prop} {w : World} : ∀ (xs : List D) (zs : List (Int × Int)), Zrj xs = some zs → ∀ (b sz off : Nat), Zel A1 A0 AL w b sz off xs → zs.length = xs.length ∧ (xs ≠ [] → sz = 2) ∧ ∀ j, j < zs.length → w.cell? ⟨b, off + j * 2, none⟩ = some (.int .i64 (pc zs j).1) ∧ w.cell? ⟨b, off + j * 2 + 1, none⟩ = some (.int .i64 (pc zs j).2)
 | [], zs, h, b, sz, off, _ => by cases h; exact ⟨rfl, fun h => absurd rfl h, fun j hj => absurd hj (by simp)⟩
 | x :: xs, zs, h, b, sz, off, hd => by
  unfold Zrj at h
  split at h
  ·cases h
   rename_i heq; cases heq
  ·rename_i p q r heq
   cases heq
   cases hr : Zrj xs with
   | none => rw [hr] at h; cases h
   | some l =>
    rw [hr] at h
    cases h
    obtain ⟨⟨u, ⟨us, rfl, u1, us1, rfl, rfl, u2, us2, rfl, rfl, rfl⟩, h2, h3⟩, h4⟩ := hd
    have hsz : sz = 2 := by rw [← h2]; rfl
    subst hsz
    obtain ⟨i1, _, i3⟩ := ZsK xs l hr b 2 (off + 2) h4
    refine ⟨by simp [i1], fun _ => rfl, fun j hj => ?_⟩
    cases j with
    | zero => exact ⟨by simpa [pc] using h3 0 (.int .i64 p) rfl, by simpa [pc] using h3 1 (.int .i64 q) rfl⟩
    | succ j =>
     have := i3 j (by simpa using hj)
     rw [show off + (j + 1) * 2 = off + 2 + j * 2 by omega]
     simpa [pc] using this
  ·cases h
theorem special : ZkO Tryd.prog 75 (Zob 0) := by
 refine ⟨by kernel_rfl, 0, rfl, fun l r R w us hs ok hH hd => ?_⟩
 unfold Ziu at hs
 split at hs
 ·rename_i a b t xs p _
  obtain ⟨u1, us1, rfl, ⟨vs, rfl, v0, vs0, rfl, _, v1, vs1, rfl, _, v2, vs2, rfl, hv, rfl⟩, u2, us2, rfl, rfl, rfl⟩ := hd
  cases hz : Zrj xs with
  | none => rw [hz] at hs; cases hs
  | some zs =>
   rw [hz] at hs
   dsimp only at hs
   cases hb : Nat.ble zs.length lim with
   | false => rw [hb] at hs; cases hs
   | true =>
    rw [hb] at hs
    cases hs
    obtain ⟨ad, len, cap, rfl, rfl, hcap, _, hel⟩ := hv
    have hI : Pcs w.heap.size w (.slice ad xs.length cap) zs := by
     by_cases hne : xs = []
     ·subst hne; cases hz; exact .inl ⟨ad, cap, rfl, rfl⟩
     ·obtain ⟨b, off, sz, rfl, _, hlt, hels⟩ := hel hne
      obtain ⟨i1, _, i3⟩ := ZsK xs zs hz b sz off hels
      exact .inr ⟨b, off, cap, by rw [i1], hlt, i3⟩
    refine (callsIn_wide.1 (ZtN v0 v1 _ p zs (Nat.le_of_ble_eq_true hb) w ⟨_, _, _, rfl⟩ hI)).mono ?_
    rintro e w' ⟨he, hB⟩
    refine ⟨_, he, rfl, ⟨fun _ _ h => h, fun i x blk _ h hd => ⟨blk, h, Blk.like_refl hd⟩, rfl, rfl, fun b hb _ => hB.block b hb, fun b cs el fr h => ⟨cs, el, fr, (hB.block b (Array.getElem?_eq_some_iff.1 h).1).trans h, rfl⟩, hB.size, fun _ _ h => h, hB.os, hB.tape, hB.output⟩⟩
 ·cases hs
end Go.Proofs.YtnmbdjkbaihicaaDoor.Last
namespace Go.Proofs.YtnmbdjkbaihicaaDoor
open Go Go.Proofs.YtnmbdjkbaihicaaDoorE
def Zu8 : List (IntKind × Int) := [(.u8, 0), (.u8, 1), (.u8, 28), (.u8, 2), (.u8, 29), (.u8, 14), (.u8, 24), (.u8, 3), (.u8, 30), (.u8, 22), (.u8, 20), (.u8, 15), (.u8, 25), (.u8, 17), (.u8, 4), (.u8, 8), (.u8, 31), (.u8, 27), (.u8, 13), (.u8, 23), (.u8, 21), (.u8, 19), (.u8, 16), (.u8, 7), (.u8, 26), (.u8, 12), (.u8, 18), (.u8, 6), (.u8, 11), (.u8, 5), (.u8, 10), (.u8, 9)]
def ZuP : List (IntKind × Int) := [(.u8, 0), (.u8, 1), (.u8, 56), (.u8, 2), (.u8, 57), (.u8, 49), (.u8, 28), (.u8, 3), (.u8, 61), (.u8, 58), (.u8, 42), (.u8, 50), (.u8, 38), (.u8, 29), (.u8, 17), (.u8, 4), (.u8, 62), (.u8, 47), (.u8, 59), (.u8, 36), (.u8, 45), (.u8, 43), (.u8, 51), (.u8, 22), (.u8, 53), (.u8, 39), (.u8, 33), (.u8, 30), (.u8, 24), (.u8, 18), (.u8, 12), (.u8, 5), (.u8, 63), (.u8, 55), (.u8, 48), (.u8, 27), (.u8, 60), (.u8, 41), (.u8, 37), (.u8, 16), (.u8, 46), (.u8, 35), (.u8, 44), (.u8, 21), (.u8, 52), (.u8, 32), (.u8, 23), (.u8, 11), (.u8, 54), (.u8, 26), (.u8, 40), (.u8, 15), (.u8, 34), (.u8, 20), (.u8, 31), (.u8, 10), (.u8, 25), (.u8, 14), (.u8, 19), (.u8, 9), (.u8, 13), (.u8, 8), (.u8, 7), (.u8, 6)]
def Zi : Zbr
 | 0 => some Zu8
 | 1 => some ZuP
 | _ => none
theorem ok3 : ZW Tryd.prog Zi (fun N => Zt Tryd.prog Zi N) 3 fn3 = true := by kernel_rfl
theorem ok4 : ZW Tryd.prog Zi (fun N => Zt Tryd.prog Zi N) 4 fn4 = true := by kernel_rfl
theorem ok5 : ZW Tryd.prog Zi (fun N => Zt Tryd.prog Zi N) 5 fn5 = true := by kernel_rfl
theorem ok6 : ZW Tryd.prog Zi (fun N => Zt Tryd.prog Zi N) 6 fn6 = true := by kernel_rfl
theorem ok7 : ZW Tryd.prog Zi (fun N => Zt Tryd.prog Zi N) 7 fn7 = true := by kernel_rfl
theorem ok8 : ZW Tryd.prog Zi (fun N => Zt Tryd.prog Zi N) 8 fn8 = true := by kernel_rfl
theorem ok9 : ZW Tryd.prog Zi (fun N => Zt Tryd.prog Zi N) 9 fn9 = true := by kernel_rfl
theorem Zz5 : ZW Tryd.prog Zi (fun N => Zt Tryd.prog Zi N) 10 ZwU = true := by kernel_rfl
theorem ZAn : ZW Tryd.prog Zi (fun N => Zt Tryd.prog Zi N) 11 Zxs = true := by kernel_rfl
theorem ZA7 : ZW Tryd.prog Zi (fun N => Zt Tryd.prog Zi N) 12 Zxx = true := by kernel_rfl
theorem ZCb : ZW Tryd.prog Zi (fun N => Zt Tryd.prog Zi N) 13 ZyT = true := by kernel_rfl
theorem ZCa : ZW Tryd.prog Zi (fun N => Zt Tryd.prog Zi N) 14 Zzp = true := by kernel_rfl
theorem ZBY : ZW Tryd.prog Zi (fun N => Zt Tryd.prog Zi N) 15 Zv8 = true := by kernel_rfl
theorem ZBj : ZW Tryd.prog Zi (fun N => Zt Tryd.prog Zi N) 16 ZyJ = true := by kernel_rfl
theorem ZBV : ZW Tryd.prog Zi (fun N => Zt Tryd.prog Zi N) 17 Zyv = true := by kernel_rfl
theorem ZBe : ZW Tryd.prog Zi (fun N => Zt Tryd.prog Zi N) 18 Zyn = true := by kernel_rfl
theorem ZAU : ZW Tryd.prog Zi (fun N => Zt Tryd.prog Zi N) 19 Zxm = true := by kernel_rfl
theorem ZAZ : ZW Tryd.prog Zi (fun N => Zt Tryd.prog Zi N) 20 ZxQ = true := by kernel_rfl
theorem Zz2 : ZW Tryd.prog Zi (fun N => Zt Tryd.prog Zi N) 21 ZxD = true := by kernel_rfl
theorem ZAc : ZW Tryd.prog Zi (fun N => Zt Tryd.prog Zi N) 22 ZxI = true := by kernel_rfl
theorem ZBG : ZW Tryd.prog Zi (fun N => Zt Tryd.prog Zi N) 23 ZvC = true := by kernel_rfl
theorem ZAv : ZW Tryd.prog Zi (fun N => Zt Tryd.prog Zi N) 24 Zw0 = true := by kernel_rfl
theorem ZCk : ZW Tryd.prog Zi (fun N => Zt Tryd.prog Zi N) 25 Zv0 = true := by kernel_rfl
theorem ZCe : ZW Tryd.prog Zi (fun N => Zt Tryd.prog Zi N) 26 ZzQ = true := by kernel_rfl
theorem ZB1 : ZW Tryd.prog Zi (fun N => Zt Tryd.prog Zi N) 27 ZyP = true := by kernel_rfl
theorem ZAW : ZW Tryd.prog Zi (fun N => Zt Tryd.prog Zi N) 28 Zwn = true := by kernel_rfl
theorem ZAE : ZW Tryd.prog Zi (fun N => Zt Tryd.prog Zi N) 29 Zye = true := by kernel_rfl
theorem ZBJ : ZW Tryd.prog Zi (fun N => Zt Tryd.prog Zi N) 30 ZxN = true := by kernel_rfl
theorem ZBt : ZW Tryd.prog Zi (fun N => Zt Tryd.prog Zi N) 31 ZvT = true := by kernel_rfl
theorem Zz9 : ZW Tryd.prog Zi (fun N => Zt Tryd.prog Zi N) 32 Zw7 = true := by kernel_rfl
theorem ZBE : ZW Tryd.prog Zi (fun N => Zt Tryd.prog Zi N) 33 ZxV = true := by kernel_rfl
theorem ZAY : ZW Tryd.prog Zi (fun N => Zt Tryd.prog Zi N) 34 ZxO = true := by kernel_rfl
theorem ZAG : ZW Tryd.prog Zi (fun N => Zt Tryd.prog Zi N) 35 Zyp = true := by kernel_rfl
theorem ZCy : ZW Tryd.prog Zi (fun N => Zt Tryd.prog Zi N) 36 Zyu = true := by kernel_rfl
theorem ZB0 : ZW Tryd.prog Zi (fun N => Zt Tryd.prog Zi N) 37 ZxH = true := by kernel_rfl
theorem Zz1 : ZW Tryd.prog Zi (fun N => Zt Tryd.prog Zi N) 38 ZxM = true := by kernel_rfl
theorem ZCF : ZW Tryd.prog Zi (fun N => Zt Tryd.prog Zi N) 39 Zvj = true := by kernel_rfl
theorem ZCr : ZW Tryd.prog Zi (fun N => Zt Tryd.prog Zi N) 40 Zww = true := by kernel_rfl
theorem ZB9 : ZW Tryd.prog Zi (fun N => Zt Tryd.prog Zi N) 41 Zxo = true := by kernel_rfl
theorem ZAR : ZW Tryd.prog Zi (fun N => Zt Tryd.prog Zi N) 42 Zyy = true := by kernel_rfl
theorem ZCT : ZW Tryd.prog Zi (fun N => Zt Tryd.prog Zi N) 43 Zx5 = true := by kernel_rfl
theorem ZCC : ZW Tryd.prog Zi (fun N => Zt Tryd.prog Zi N) 44 ZzK = true := by kernel_rfl
theorem ZCu : ZW Tryd.prog Zi (fun N => Zt Tryd.prog Zi N) 45 ZyZ = true := by kernel_rfl
theorem ZAA : ZW Tryd.prog Zi (fun N => Zt Tryd.prog Zi N) 46 Zv5 = true := by kernel_rfl
theorem ZCS : ZW Tryd.prog Zi (fun N => Zt Tryd.prog Zi N) 47 Zv7 = true := by kernel_rfl
theorem Zz3 : ZW Tryd.prog Zi (fun N => Zt Tryd.prog Zi N) 48 Zv6 = true := by kernel_rfl
theorem Zz8 : ZW Tryd.prog Zi (fun N => Zt Tryd.prog Zi N) 49 ZyQ = true := by kernel_rfl
theorem ZAM : ZW Tryd.prog Zi (fun N => Zt Tryd.prog Zi N) 50 ZyA = true := by kernel_rfl
theorem ZCj : ZW Tryd.prog Zi (fun N => Zt Tryd.prog Zi N) 51 Zyj = true := by kernel_rfl
theorem ZAB : ZW Tryd.prog Zi (fun N => Zt Tryd.prog Zi N) 52 Zzr = true := by kernel_rfl
theorem ZAi : ZW Tryd.prog Zi (fun N => Zt Tryd.prog Zi N) 53 Zzu = true := by kernel_rfl
theorem ZAN : ZW Tryd.prog Zi (fun N => Zt Tryd.prog Zi N) 54 ZwG = true := by kernel_rfl
theorem ZBo : ZW Tryd.prog Zi (fun N => Zt Tryd.prog Zi N) 55 ZvI = true := by kernel_rfl
theorem ZBW : ZW Tryd.prog Zi (fun N => Zt Tryd.prog Zi N) 56 ZwZ = true := by kernel_rfl
theorem ZAX : ZW Tryd.prog Zi (fun N => Zt Tryd.prog Zi N) 57 Zyk = true := by kernel_rfl
theorem ZAo : ZW Tryd.prog Zi (fun N => Zt Tryd.prog Zi N) 58 ZxZ = true := by kernel_rfl
theorem ZBs : ZW Tryd.prog Zi (fun N => Zt Tryd.prog Zi N) 59 Zzn = true := by kernel_rfl
theorem ZAs : ZW Tryd.prog Zi (fun N => Zt Tryd.prog Zi N) 60 ZzI = true := by kernel_rfl
theorem ZAl : ZW Tryd.prog Zi (fun N => Zt Tryd.prog Zi N) 61 ZxC = true := by kernel_rfl
theorem ZBL : ZW Tryd.prog Zi (fun N => Zt Tryd.prog Zi N) 62 Zx3 = true := by kernel_rfl
theorem ZCx : ZW Tryd.prog Zi (fun N => Zt Tryd.prog Zi N) 63 ZzC = true := by kernel_rfl
theorem ZAe : ZW Tryd.prog Zi (fun N => Zt Tryd.prog Zi N) 64 ZvX = true := by kernel_rfl
theorem ZCg : ZW Tryd.prog Zi (fun N => Zt Tryd.prog Zi N) 65 ZvA = true := by kernel_rfl
theorem ZCl : ZW Tryd.prog Zi (fun N => Zt Tryd.prog Zi N) 66 Zyq = true := by kernel_rfl
theorem ZCM : ZW Tryd.prog Zi (fun N => Zt Tryd.prog Zi N) 67 Zy3 = true := by kernel_rfl
theorem ZCh : ZW Tryd.prog Zi (fun N => Zt Tryd.prog Zi N) 68 Zxq = true := by kernel_rfl
theorem ZA1 : ZW Tryd.prog Zi (fun N => Zt Tryd.prog Zi N) 69 ZyS = true := by kernel_rfl
theorem ZAg : ZW Tryd.prog Zi (fun N => Zt Tryd.prog Zi N) 70 Zyr = true := by kernel_rfl
theorem ZB5 : ZW Tryd.prog Zi (fun N => Zt Tryd.prog Zi N) 71 Zyf = true := by kernel_rfl
theorem ZBr : ZW Tryd.prog Zi (fun N => Zt Tryd.prog Zi N) 72 Zy2 = true := by kernel_rfl
theorem ZBF : ZW Tryd.prog Zi (fun N => Zt Tryd.prog Zi N) 73 ZzE = true := by kernel_rfl
theorem ZB7 : ZW Tryd.prog Zi (fun N => Zt Tryd.prog Zi N) 74 ZvG = true := by kernel_rfl
theorem ZBy : ZW Tryd.prog Zi (fun N => Zt Tryd.prog Zi N) 76 Zv4 = true := by kernel_rfl
theorem ZA0 : ZW Tryd.prog Zi (fun N => Zt Tryd.prog Zi N) 77 Zx8 = true := by kernel_rfl
theorem Zz6 : ZW Tryd.prog Zi (fun N => Zt Tryd.prog Zi N) 78 Zvw = true := by kernel_rfl
theorem ZCL : ZW Tryd.prog Zi (fun N => Zt Tryd.prog Zi N) 79 ZzY = true := by kernel_rfl
theorem ZA5 : ZW Tryd.prog Zi (fun N => Zt Tryd.prog Zi N) 80 ZyI = true := by kernel_rfl
theorem ZBv : ZW Tryd.prog Zi (fun N => Zt Tryd.prog Zi N) 81 Zxt = true := by kernel_rfl
theorem ZB4 : ZW Tryd.prog Zi (fun N => Zt Tryd.prog Zi N) 82 ZwN = true := by kernel_rfl
theorem ZA8 : ZW Tryd.prog Zi (fun N => Zt Tryd.prog Zi N) 83 ZwO = true := by kernel_rfl
theorem ZAk : ZW Tryd.prog Zi (fun N => Zt Tryd.prog Zi N) 84 ZwI = true := by kernel_rfl
theorem ZBf : ZW Tryd.prog Zi (fun N => Zt Tryd.prog Zi N) 85 Zw4 = true := by kernel_rfl
theorem ZBZ : ZW Tryd.prog Zi (fun N => Zt Tryd.prog Zi N) 86 Zwi = true := by kernel_rfl
theorem ZAb : ZW Tryd.prog Zi (fun N => Zt Tryd.prog Zi N) 87 Zvt = true := by kernel_rfl
theorem ZBS : ZW Tryd.prog Zi (fun N => Zt Tryd.prog Zi N) 88 Zwd = true := by kernel_rfl
theorem ZA9 : ZW Tryd.prog Zi (fun N => Zt Tryd.prog Zi N) 89 ZtR = true := by kernel_rfl
theorem ZAV : ZW Tryd.prog Zi (fun N => Zt Tryd.prog Zi N) 90 Zwh = true := by kernel_rfl
theorem ZCs : ZW Tryd.prog Zi (fun N => Zt Tryd.prog Zi N) 91 Zvm = true := by kernel_rfl
theorem ZAh : ZW Tryd.prog Zi (fun N => Zt Tryd.prog Zi N) 92 Zwq = true := by kernel_rfl
theorem ZBN : ZW Tryd.prog Zi (fun N => Zt Tryd.prog Zi N) 93 Zvr = true := by kernel_rfl
theorem ZAF : ZW Tryd.prog Zi (fun N => Zt Tryd.prog Zi N) 94 ZwE = true := by kernel_rfl
theorem ZBn : ZW Tryd.prog Zi (fun N => Zt Tryd.prog Zi N) 95 ZzN = true := by kernel_rfl
theorem ZBO : ZW Tryd.prog Zi (fun N => Zt Tryd.prog Zi N) 96 ZxB = true := by kernel_rfl
theorem ZAH : ZW Tryd.prog Zi (fun N => Zt Tryd.prog Zi N) 97 Zv1 = true := by kernel_rfl
theorem ZAT : ZW Tryd.prog Zi (fun N => Zt Tryd.prog Zi N) 98 Zw2 = true := by kernel_rfl
theorem ZAj : ZW Tryd.prog Zi (fun N => Zt Tryd.prog Zi N) 99 Zwc = true := by kernel_rfl
theorem Zyb : ZW Tryd.prog Zi (fun N => Zt Tryd.prog Zi N) 100 Zs2 = true := by kernel_rfl
theorem ZzW : ZW Tryd.prog Zi (fun N => Zt Tryd.prog Zi N) 101 Zse = true := by kernel_rfl
theorem Zx6 : ZW Tryd.prog Zi (fun N => Zt Tryd.prog Zi N) 102 Zu9 = true := by kernel_rfl
theorem ZyB : ZW Tryd.prog Zi (fun N => Zt Tryd.prog Zi N) 103 Zu3 = true := by kernel_rfl
theorem Zyd : ZW Tryd.prog Zi (fun N => Zt Tryd.prog Zi N) 104 ZuY = true := by kernel_rfl
theorem Zy8 : ZW Tryd.prog Zi (fun N => Zt Tryd.prog Zi N) 105 ZuS = true := by kernel_rfl
theorem Zyx : ZW Tryd.prog Zi (fun N => Zt Tryd.prog Zi N) 106 Zu4 = true := by kernel_rfl
theorem Zzw : ZW Tryd.prog Zi (fun N => Zt Tryd.prog Zi N) 107 Zu1 = true := by kernel_rfl
theorem Zxp : ZW Tryd.prog Zi (fun N => Zt Tryd.prog Zi N) 108 Zu6 = true := by kernel_rfl
theorem Zxh : ZW Tryd.prog Zi (fun N => Zt Tryd.prog Zi N) 109 ZsI = true := by kernel_rfl
theorem ZxR : ZW Tryd.prog Zi (fun N => Zt Tryd.prog Zi N) 110 ZsV = true := by kernel_rfl
theorem ZxL : ZW Tryd.prog Zi (fun N => Zt Tryd.prog Zi N) 111 Zta = true := by kernel_rfl
theorem Zzj : ZW Tryd.prog Zi (fun N => Zt Tryd.prog Zi N) 112 ZsO = true := by kernel_rfl
theorem ZyN : ZW Tryd.prog Zi (fun N => Zt Tryd.prog Zi N) 113 Zs7 = true := by kernel_rfl
theorem ZxU : ZW Tryd.prog Zi (fun N => Zt Tryd.prog Zi N) 114 Zqt = true := by kernel_rfl
theorem ZzG : ZW Tryd.prog Zi (fun N => Zt Tryd.prog Zi N) 115 ZrI = true := by kernel_rfl
theorem ZyK : ZW Tryd.prog Zi (fun N => Zt Tryd.prog Zi N) 116 ZtK = true := by kernel_rfl
theorem Zzy : ZW Tryd.prog Zi (fun N => Zt Tryd.prog Zi N) 117 Ztf = true := by kernel_rfl
theorem Zy9 : ZW Tryd.prog Zi (fun N => Zt Tryd.prog Zi N) 118 Zsy = true := by kernel_rfl
theorem Zzh : ZW Tryd.prog Zi (fun N => Zt Tryd.prog Zi N) 119 Zvb = true := by kernel_rfl
theorem Zzk : ZW Tryd.prog Zi (fun N => Zt Tryd.prog Zi N) 120 Zva = true := by kernel_rfl
theorem Zxn : ZW Tryd.prog Zi (fun N => Zt Tryd.prog Zi N) 121 Zsi = true := by kernel_rfl
theorem Zyh : ZW Tryd.prog Zi (fun N => Zt Tryd.prog Zi N) 122 Zu5 = true := by kernel_rfl
theorem ZzO : ZW Tryd.prog Zi (fun N => Zt Tryd.prog Zi N) 123 Zsr = true := by kernel_rfl
theorem ZzH : ZW Tryd.prog Zi (fun N => Zt Tryd.prog Zi N) 124 ZtI = true := by kernel_rfl
theorem Zzb : ZW Tryd.prog Zi (fun N => Zt Tryd.prog Zi N) 125 Zsw = true := by kernel_rfl
theorem Zw9 : ZW Tryd.prog Zi (fun N => Zt Tryd.prog Zi N) 126 Ztb = true := by kernel_rfl
theorem Zze : ZW Tryd.prog Zi (fun N => Zt Tryd.prog Zi N) 127 Zsh = true := by kernel_rfl
theorem Zyc : ZW Tryd.prog Zi (fun N => Zt Tryd.prog Zi N) 128 Zst = true := by kernel_rfl
theorem ZxT : ZW Tryd.prog Zi (fun N => Zt Tryd.prog Zi N) 129 ZsB = true := by kernel_rfl
theorem ZxW : ZW Tryd.prog Zi (fun N => Zt Tryd.prog Zi N) 130 Zr1 = true := by kernel_rfl
theorem ZzL : ZW Tryd.prog Zi (fun N => Zt Tryd.prog Zi N) 131 ZsJ = true := by kernel_rfl
theorem Zzg : ZW Tryd.prog Zi (fun N => Zt Tryd.prog Zi N) 132 ZsF = true := by kernel_rfl
theorem ZyW : ZW Tryd.prog Zi (fun N => Zt Tryd.prog Zi N) 133 Zso = true := by kernel_rfl
theorem Zxl : ZW Tryd.prog Zi (fun N => Zt Tryd.prog Zi N) 134 Zvd = true := by kernel_rfl
theorem ZxG : ZW Tryd.prog Zi (fun N => Zt Tryd.prog Zi N) 135 Ztt = true := by kernel_rfl
theorem Zxj : ZW Tryd.prog Zi (fun N => Zt Tryd.prog Zi N) 136 Zsc = true := by kernel_rfl
theorem Zx2 : ZW Tryd.prog Zi (fun N => Zt Tryd.prog Zi N) 137 Ztu = true := by kernel_rfl
theorem Zzd : ZW Tryd.prog Zi (fun N => Zt Tryd.prog Zi N) 138 Zs4 = true := by kernel_rfl
theorem ZxP : ZW Tryd.prog Zi (fun N => Zt Tryd.prog Zi N) 139 ZrK = true := by kernel_rfl
theorem Zw6 : ZW Tryd.prog Zi (fun N => Zt Tryd.prog Zi N) 140 Zs1 = true := by kernel_rfl
theorem Zzm : ZW Tryd.prog Zi (fun N => Zt Tryd.prog Zi N) 141 ZsS = true := by kernel_rfl
theorem Zx9 : ∀ f fn, ctx.code f = some fn → ZW Tryd.prog Zi (fun N => Zt Tryd.prog Zi N) f fn = true ∨ ZkO Tryd.prog f fn := by
 intro f fn h
 change code f = some fn at h
 unfold code at h
 split at h
 ·cases h; exact .inl ok3
 ·cases h; exact .inl ok4
 ·cases h; exact .inl ok5
 ·cases h; exact .inl ok6
 ·cases h; exact .inl ok7
 ·cases h; exact .inl ok8
 ·cases h; exact .inl ok9
 ·cases h; exact .inl Zz5
 ·cases h; exact .inl ZAn
 ·cases h; exact .inl ZA7
 ·cases h; exact .inl ZCb
 ·cases h; exact .inl ZCa
 ·cases h; exact .inl ZBY
 ·cases h; exact .inl ZBj
 ·cases h; exact .inl ZBV
 ·cases h; exact .inl ZBe
 ·cases h; exact .inl ZAU
 ·cases h; exact .inl ZAZ
 ·cases h; exact .inl Zz2
 ·cases h; exact .inl ZAc
 ·cases h; exact .inl ZBG
 ·cases h; exact .inl ZAv
 ·cases h; exact .inl ZCk
 ·cases h; exact .inl ZCe
 ·cases h; exact .inl ZB1
 ·cases h; exact .inl ZAW
 ·cases h; exact .inl ZAE
 ·cases h; exact .inl ZBJ
 ·cases h; exact .inl ZBt
 ·cases h; exact .inl Zz9
 ·cases h; exact .inl ZBE
 ·cases h; exact .inl ZAY
 ·cases h; exact .inl ZAG
 ·cases h; exact .inl ZCy
 ·cases h; exact .inl ZB0
 ·cases h; exact .inl Zz1
 ·cases h; exact .inl ZCF
 ·cases h; exact .inl ZCr
 ·cases h; exact .inl ZB9
 ·cases h; exact .inl ZAR
 ·cases h; exact .inl ZCT
 ·cases h; exact .inl ZCC
 ·cases h; exact .inl ZCu
 ·cases h; exact .inl ZAA
 ·cases h; exact .inl ZCS
 ·cases h; exact .inl Zz3
 ·cases h; exact .inl Zz8
 ·cases h; exact .inl ZAM
 ·cases h; exact .inl ZCj
 ·cases h; exact .inl ZAB
 ·cases h; exact .inl ZAi
 ·cases h; exact .inl ZAN
 ·cases h; exact .inl ZBo
 ·cases h; exact .inl ZBW
 ·cases h; exact .inl ZAX
 ·cases h; exact .inl ZAo
 ·cases h; exact .inl ZBs
 ·cases h; exact .inl ZAs
 ·cases h; exact .inl ZAl
 ·cases h; exact .inl ZBL
 ·cases h; exact .inl ZCx
 ·cases h; exact .inl ZAe
 ·cases h; exact .inl ZCg
 ·cases h; exact .inl ZCl
 ·cases h; exact .inl ZCM
 ·cases h; exact .inl ZCh
 ·cases h; exact .inl ZA1
 ·cases h; exact .inl ZAg
 ·cases h; exact .inl ZB5
 ·cases h; exact .inl ZBr
 ·cases h; exact .inl ZBF
 ·cases h; exact .inl ZB7
 ·cases h; exact .inr Last.special
 ·cases h; exact .inl ZBy
 ·cases h; exact .inl ZA0
 ·cases h; exact .inl Zz6
 ·cases h; exact .inl ZCL
 ·cases h; exact .inl ZA5
 ·cases h; exact .inl ZBv
 ·cases h; exact .inl ZB4
 ·cases h; exact .inl ZA8
 ·cases h; exact .inl ZAk
 ·cases h; exact .inl ZBf
 ·cases h; exact .inl ZBZ
 ·cases h; exact .inl ZAb
 ·cases h; exact .inl ZBS
 ·cases h; exact .inl ZA9
 ·cases h; exact .inl ZAV
 ·cases h; exact .inl ZCs
 ·cases h; exact .inl ZAh
 ·cases h; exact .inl ZBN
 ·cases h; exact .inl ZAF
 ·cases h; exact .inl ZBn
 ·cases h; exact .inl ZBO
 ·cases h; exact .inl ZAH
 ·cases h; exact .inl ZAT
 ·cases h; exact .inl ZAj
 ·cases h; exact .inl Zyb
 ·cases h; exact .inl ZzW
 ·cases h; exact .inl Zx6
 ·cases h; exact .inl ZyB
 ·cases h; exact .inl Zyd
 ·cases h; exact .inl Zy8
 ·cases h; exact .inl Zyx
 ·cases h; exact .inl Zzw
 ·cases h; exact .inl Zxp
 ·cases h; exact .inl Zxh
 ·cases h; exact .inl ZxR
 ·cases h; exact .inl ZxL
 ·cases h; exact .inl Zzj
 ·cases h; exact .inl ZyN
 ·cases h; exact .inl ZxU
 ·cases h; exact .inl ZzG
 ·cases h; exact .inl ZyK
 ·cases h; exact .inl Zzy
 ·cases h; exact .inl Zy9
 ·cases h; exact .inl Zzh
 ·cases h; exact .inl Zzk
 ·cases h; exact .inl Zxn
 ·cases h; exact .inl Zyh
 ·cases h; exact .inl ZzO
 ·cases h; exact .inl ZzH
 ·cases h; exact .inl Zzb
 ·cases h; exact .inl Zw9
 ·cases h; exact .inl Zze
 ·cases h; exact .inl Zyc
 ·cases h; exact .inl ZxT
 ·cases h; exact .inl ZxW
 ·cases h; exact .inl ZzL
 ·cases h; exact .inl Zzg
 ·cases h; exact .inl ZyW
 ·cases h; exact .inl Zxl
 ·cases h; exact .inl ZxG
 ·cases h; exact .inl Zxj
 ·cases h; exact .inl Zx2
 ·cases h; exact .inl Zzd
 ·cases h; exact .inl ZxP
 ·cases h; exact .inl Zw6
 ·cases h; exact .inl Zzm
 ·cases h
theorem ZxS : ZeN Tryd.prog Zi (evW ctx) := ZrO Zx9
end Go.Proofs.YtnmbdjkbaihicaaDoor
namespace Go.Proofs.YtnmbdjkbaihicaaDoorE
open Go
set_option linter.unusedVariables false
set_option linter.unusedSimpArgs false
inductive Lf where
 | bool | int (k : IntKind) | str | sl (ag : Bool) (els : List Lf)
mutual
def ZuI : Lf → D → Prop
 | .bool, x => ∃ b, x = .bool b
 | .int k, x => ∃ n, x = .int k n ∧ (Lit.int k n).wf = true
 | .str, x => ∃ s, x = .str s ∧ s.size ≤ maxLen
 | .sl ag els, x => ∃ xs, x = .list true xs ∧ xs.length ≤ maxLen ∧ ∀ y ∈ xs, y.isAgg = ag ∧ Ze9 els y.cells
def Ze9 : List Lf → List D → Prop
 | [], ds => ds = []
 | l :: ls, ds => ∃ d r, ds = d :: r ∧ ZuI l d ∧ Ze9 ls r
end
def ZhK (P : Program) (g : TypeId → Option (List Lf × Bool)) : Nat → List Field → Option (List Lf)
 | _, [] => some []
 | off, f :: fs => match g f.type with
  | some (l, _) => (match ZhK P g (off + l.length) fs with
   | some r => bif Nat.beq f.offset off && Nat.beq (P.cellsOf f.type) l.length then some (l ++ r) else none
   | none => none)
  | none => none
def lfs (P : Program) : Nat → TypeId → Option (List Lf × Bool)
 | 0, _ => none
 | n + 1, t => match P.underlying t with
  | some .bool => some ([.bool], false)
  | some (.int k) => some ([.int k], false)
  | some .string => some ([.str], false)
  | some (.slice e) => (match lfs P n e with | some (l, ag) => bif Nat.beq (P.cellsOf e) l.length && Nat.blt 0 l.length then some ([.sl ag l], false) else none | none => none)
  | some (.struct fs) => (match ZhK P (lfs P n) 0 fs.toList with | some l => bif Nat.beq (P.cellsOf t) l.length then some (l, true) else none | none => none)
  | _ => none
mutual
theorem ZoK : ∀ (l : Lf) (x : D), ZuI l x → x.esc = true ∧ x.isAgg = false ∧ x.cells = [x]
 | .bool, x, h => by obtain ⟨b, rfl⟩ := h; exact ⟨rfl, rfl, rfl⟩
 | .int k, x, h => by obtain ⟨n, rfl, _⟩ := h; exact ⟨rfl, rfl, rfl⟩
 | .str, x, h => by obtain ⟨s, rfl, _⟩ := h; exact ⟨rfl, rfl, rfl⟩
 | .sl ag els, x, h => by obtain ⟨xs, rfl, _⟩ := h; exact ⟨rfl, rfl, rfl⟩
theorem Zm0 : ∀ (ls : List Lf) (ds : List D), Ze9 ls ds → D.escs ds = true ∧ ds.length = ls.length
 | [], ds, h => by obtain rfl := h; exact ⟨rfl, rfl⟩
 | l :: ls, ds, h => by
  obtain ⟨d, r, rfl, h1, h2⟩ := h
  obtain ⟨e1, e2, _⟩ := ZoK l d h1
  obtain ⟨e3, e4⟩ := Zm0 ls r h2
  exact ⟨by simp [D.escs, e1, e2, e3], by simp [e4]⟩
end
theorem ZnE : ∀ (l r : List Lf) (ds es : List D), Ze9 l ds → Ze9 r es → Ze9 (l ++ r) (ds ++ es)
 | [], r, ds, es, h, k => by obtain rfl := h; exact k
 | a :: l, r, ds, es, h, k => by
  obtain ⟨d, ds', rfl, h1, h2⟩ := h
  exact ⟨d, ds' ++ es, rfl, h1, ZnE l r ds' es h2 k⟩
section
variable {H : Type} {enc : TypeId × Value → H} {P : Program} {W : World} {sp : Nat → Bool} {held : Bool}
abbrev All : Nat → Prop := fun _ => True
theorem ZnA : ∀ (ds es : List D) (us vs : List Value), ZaI All All All W ds us → ZaI All All All W es vs → ZaI All All All W (ds ++ es) (us ++ vs)
 | [], es, us, vs, h, k => by obtain rfl := h; exact k
 | x :: ds, es, us, vs, h, k => by
  obtain ⟨u, us', rfl, h1, h2⟩ := h
  exact ⟨u, us' ++ vs, rfl, h1, ZnA ds es us' vs h2 k⟩
theorem Zor {a : Addr} {n : Nat} {cs : List Value} (h : W.cells? 0 a n = some cs) : cs.length = n ∧ ∀ k, k < n → W.cell? (a.add k) = cs[k]? := by
 unfold World.cells? at h
 rw [if_pos (Nat.zero_le _)] at h
 exact ⟨by simpa using mapM_some_length h, fun k hk => mapM_some_get h k k (by simp [hk])⟩
theorem Znw {g : TypeId → Option (List Lf × Bool)} {m : Nat} {cs : List Value}
  (hg : ∀ t l ag cs x, g t = some (l, ag) → DataW.trod enc P W 0 sp held m t cs = some x → ∃ ds, ZaI All All All W ds cs ∧ Ze9 l ds) :
  ∀ (fs : List Field) (off : Nat) (l : List Lf) (xs : List (DataW H × List MemPlace)), ZhK P g off fs = some l → xs.length = fs.length → off + l.length ≤ cs.length →
   (∀ (i : Nat) f, fs[i]? = some f → DataW.trod enc P W 0 sp held m f.type ((cs.drop f.offset).take (P.cellsOf f.type)) = xs[i]?) → ∃ ds, ZaI All All All W ds ((cs.drop off).take l.length) ∧ Ze9 l ds
 | [], off, l, xs, h, _, _, _ => by
  simp only [ZhK, Option.some.injEq] at h
  subst h
  exact ⟨[], by simp [ZaI], rfl⟩
 | f :: fs, off, l, xs, h, hl, hle, hx => by
  simp only [ZhK] at h
  cases hgf : g f.type with
  | none => rw [hgf] at h; cases h
  | some q =>
   obtain ⟨l1, ag⟩ := q
   rw [hgf] at h
   dsimp only at h
   cases hr : ZhK P g (off + l1.length) fs with
   | none => rw [hr] at h; cases h
   | some r =>
    rw [hr] at h
    dsimp only at h
    cases hc : (Nat.beq f.offset off && Nat.beq (P.cellsOf f.type) l1.length) with
    | false => rw [hc] at h; cases h
    | true =>
     rw [hc] at h
     simp only [cond_true, Option.some.injEq] at h
     subst h
     simp only [Bool.and_eq_true] at hc
     have h1 := Nat.eq_of_beq_eq_true hc.1
     have h2 := Nat.eq_of_beq_eq_true hc.2
     rw [List.length_append] at hle
     cases xs with
     | nil => simp at hl
     | cons x xs =>
      have hx0 := hx 0 f rfl
      rw [h1, h2] at hx0
      simp only [List.getElem?_cons_zero] at hx0
      obtain ⟨d1, e1, e2⟩ := hg f.type l1 ag _ x hgf hx0
      obtain ⟨d2, e3, e4⟩ := Znw (cs := cs) hg fs (off + l1.length) r xs hr (by simpa using hl) (by omega) (fun i f' hf' => by simpa using hx (i + 1) f' (by simpa using hf'))
      refine ⟨d1 ++ d2, ?_, ZnE _ _ _ _ e2 e4⟩
      have hspl : (cs.drop off).take (l1 ++ r).length = (cs.drop off).take l1.length ++ (cs.drop (off + l1.length)).take r.length := by
       rw [List.length_append, List.take_add, List.drop_drop]
      rw [hspl]
      exact ZnA _ _ _ _ e1 e3
theorem Zmf : ∀ (n : Nat) (t : TypeId) (l : List Lf) (ag : Bool), lfs P n t = some (l, ag) → ∀ (fuel : Nat) (cs : List Value) (x : DataW H × List MemPlace), DataW.trod enc P W 0 sp held fuel t cs = some x →
  ∃ ds, ZaI All All All W ds cs ∧ Ze9 l ds ∧ (ag = false → ∃ u y, cs = [u] ∧ ds = [y] ∧ u.cells = #[u] ∧ y.isAgg = false)
 | 0, t, l, ag, h, fuel, cs, x, hx => by cases h
 | n + 1, t, l, ag, h, fuel, cs, x, hx => by
  simp only [lfs] at h
  split at h
  ·rename_i ht
   cases h
   obtain ⟨b, rfl, _⟩ := DataW.trod_bool ht hx
   exact ⟨[.bool b], ⟨_, _, rfl, rfl, rfl⟩, ⟨_, _, rfl, ⟨b, rfl⟩, rfl⟩, fun _ => ⟨_, _, rfl, rfl, rfl, rfl⟩⟩
  ·rename_i k ht
   cases h
   obtain ⟨m, rfl, _, hw⟩ := DataW.trod_int ht hx
   exact ⟨[.int k m], ⟨_, _, rfl, rfl, rfl⟩, ⟨_, _, rfl, ⟨m, rfl, hw⟩, rfl⟩, fun _ => ⟨_, _, rfl, rfl, rfl, rfl⟩⟩
  ·rename_i ht
   cases h
   obtain ⟨s, rfl, _, hs⟩ := DataW.trod_string ht hx
   exact ⟨[.str s], ⟨_, _, rfl, rfl, rfl⟩, ⟨_, _, rfl, ⟨s, rfl, hs⟩, rfl⟩, fun _ => ⟨_, _, rfl, rfl, rfl, rfl⟩⟩
  ·rename_i e ht
   cases he : lfs P n e with
   | none => rw [he] at h; cases h
   | some q =>
    obtain ⟨le, age⟩ := q
    rw [he] at h
    dsimp only at h
    cases hc : (Nat.beq (P.cellsOf e) le.length && Nat.blt 0 le.length) with
    | false => rw [hc] at h; cases h
    | true =>
     rw [hc] at h
     simp only [cond_true, Option.some.injEq, Prod.mk.injEq] at h
     obtain ⟨rfl, rfl⟩ := h
     simp only [Bool.and_eq_true] at hc
     have hsz := Nat.eq_of_beq_eq_true hc.1
     have hpos : 0 < le.length := by have := hc.2; simp [Nat.blt] at this; omega
     rcases Go.Deep.open_slice ht hx with ⟨rfl, _⟩ | ⟨a, len, cap, m, fu, Dd, Pl, rfl, _, hlc, hcap, hm, _, hel⟩
     ·exact ⟨[.list true []], ⟨_, _, rfl, ⟨_, 0, 0, rfl, rfl, Nat.le_refl _, by simp, by simp⟩, rfl⟩, ⟨_, _, rfl, ⟨[], rfl, by simp, by simp⟩, rfl⟩, fun _ => ⟨_, _, rfl, rfl, rfl, rfl⟩⟩
     ·rw [hsz] at hel
      have hlm : len ≤ m := by rw [hm]; split <;> omega
      have each : ∀ i, i < len → ∃ y u, ZaW All All All W y u ∧ y.isAgg = age ∧ Ze9 le y.cells ∧ u.cells.size = le.length ∧ (∀ k v, u.cells[k]? = some v → W.cell? ((a.add (i * le.length)).add k) = some v) ∧ y.esc = true := fun i hi => by
       obtain ⟨cs', h1, h2⟩ := hel i (by omega)
       obtain ⟨c1, c2⟩ := Zor h1
       obtain ⟨ds, d1, d2, d3⟩ := Zmf n e le age he fu cs' _ h2
       obtain ⟨s1, s2⟩ := Zm0 _ _ d2
       cases age with
       | true =>
        refine ⟨.agg ds, .agg cs'.toArray, ⟨cs', rfl, d1⟩, rfl, d2, by simpa [Value.cells] using c1, fun k v hk => ?_, s1⟩
        have hk' : cs'[k]? = some v := by simpa [Value.cells] using hk
        rw [c2 k (by rw [← c1]; exact (List.getElem?_eq_some_iff.1 hk').1)]; exact hk'
       | false =>
        obtain ⟨u, y, rfl, rfl, e1, e2⟩ := d3 rfl
        obtain ⟨u', us', f1, f2, _⟩ := d1
        cases f1
        have hy : y.cells = [y] := by
         cases y <;> first | rfl | (simp [D.isAgg] at e2)
        have hesc : y.esc = true := by
         match le, d2, hpos with
         | l0 :: ls, d2, _ =>
          obtain ⟨d, r, g1, g2, _⟩ := d2
          cases g1
          exact (ZoK l0 y g2).1
        refine ⟨y, u, f2, e2, by rw [hy]; exact d2, by rw [e1, ← c1]; rfl, fun k v hk => ?_, hesc⟩
        rw [e1] at hk
        have hk0 : k = 0 := by
         have := (Array.getElem?_eq_some_iff.1 hk).1; simp at this; exact this
        subst hk0
        simp at hk; subst hk
        rw [c2 0 (by omega)]; rfl
      have all : ∀ j, j ≤ len → ∃ ys : List D, ys.length = j ∧ (∀ y ∈ ys, y.isAgg = age ∧ Ze9 le y.cells ∧ y.esc = true) ∧ ∀ (i : Nat) y, ys[i]? = some y → ∃ u, ZaW All All All W y u ∧ u.cells.size = le.length ∧ ∀ k v, u.cells[k]? = some v → W.cell? ((a.add (i * le.length)).add k) = some v := by
       intro j
       induction j with
       | zero => intro _; exact ⟨[], rfl, by simp, by simp⟩
       | succ j ih =>
        intro hj
        obtain ⟨ys, y1, y2, y3⟩ := ih (by omega)
        obtain ⟨y, u, z1, z2, z3, z4, z5, z6⟩ := each j (by omega)
        refine ⟨ys ++ [y], by simp [y1], fun z hz => ?_, fun i z hz => ?_⟩
        ·rcases List.mem_append.1 hz with hz | hz
         ·exact y2 z hz
         ·simp at hz; subst hz; exact ⟨z2, z3, z6⟩
        ·by_cases hi : i < ys.length
         ·rw [List.getElem?_append_left hi] at hz; exact y3 i z hz
         ·rw [List.getElem?_append_right (by omega)] at hz
          have hij : i - ys.length = 0 := by
           have := (List.getElem?_eq_some_iff.1 hz).1; simp at this; omega
          rw [hij] at hz
          simp at hz; subst hz
          have : i = j := by omega
          subst this
          exact ⟨u, z1, z4, z5⟩
      obtain ⟨ys, y1, y2, y3⟩ := all len (Nat.le_refl _)
      refine ⟨[.list true ys], ⟨_, _, rfl, ⟨_, len, cap, rfl, y1.symm, hlc, fun z hz => (y2 z hz).2.2, fun hne => ?_⟩, rfl⟩, ⟨_, _, rfl, ⟨ys, rfl, by omega, fun z hz => ⟨(y2 z hz).1, (y2 z hz).2.1⟩⟩, rfl⟩, fun _ => ⟨_, _, rfl, rfl, rfl, rfl⟩⟩
      have hlen : 0 < len := by
       rw [← y1]; exact List.length_pos_iff.2 hne
      obtain ⟨cs0, h1, _⟩ := hel 0 (by omega)
      obtain ⟨c1, c2⟩ := Zor h1
      have c3 := c2 0 hpos
      have hcell : ∃ v, W.cell? a = some v := by
       refine ⟨cs0[0]'(by omega), ?_⟩
       have e0 : (a.add (0 * le.length)).add 0 = a := by simp [Addr.add]
       rw [e0] at c3
       rw [c3]; exact List.getElem?_eq_getElem (by omega)
      obtain ⟨v, hv⟩ := hcell
      have hspot : a.spot = none ∧ a.block < W.heap.size := by
       unfold World.cell? at hv
       split at hv
       ·rename_i hb
        cases hsx : a.spot with
        | none => exact ⟨rfl, (Array.getElem?_eq_some_iff.1 hb).1⟩
        | some z => rw [hsx] at hv; simp at hv
       ·cases hv
      obtain ⟨b, off, spot⟩ := a
      obtain ⟨hs1, hs2⟩ := hspot
      simp only at hs1 hs2
      subst hs1
      refine ⟨b, off, le.length, rfl, trivial, hs2, Zhk ys off fun j y hj => ?_⟩
      obtain ⟨u, u1, u2, u3⟩ := y3 j y hj
      refine ⟨u, u1, u2, fun k v hk => ?_⟩
      rw [← u3 k v hk]
      congr 1
      unfold Addr.add
      by_cases hj0 : j * le.length = 0
      ·by_cases hk0 : k = 0 <;> simp [hj0, hk0]
      ·by_cases hk0 : k = 0 <;> simp [hj0, hk0]
  ·rename_i fs ht
   cases hf : ZhK P (lfs P n) 0 fs.toList with
   | none => rw [hf] at h; cases h
   | some l' =>
    rw [hf] at h
    dsimp only at h
    cases hc : Nat.beq (P.cellsOf t) l'.length with
    | false => rw [hc] at h; cases h
    | true =>
     rw [hc] at h
     simp only [cond_true, Option.some.injEq, Prod.mk.injEq] at h
     obtain ⟨rfl, rfl⟩ := h
     have hcl := Nat.eq_of_beq_eq_true hc
     obtain ⟨xs, m, _, _, hlen, hxl, hxs⟩ := DataW.trod_struct ht hx
     have hlen' : cs.length = l'.length := hlen.trans hcl
     obtain ⟨ds, e1, e2⟩ := Znw (m := m) (cs := cs) (g := lfs P n) (fun t l ag cs x hg hx => by
      obtain ⟨ds, d1, d2, _⟩ := Zmf n t l ag hg m cs x hx
      exact ⟨ds, d1, d2⟩) fs.toList 0 l' xs hf (by simpa using hxl) (by omega) (fun i f hf' => hxs i f (by simpa using hf'))
     refine ⟨ds, ?_, e2, fun h => by cases h⟩
     have : (cs.drop 0).take l'.length = cs := by rw [List.drop_zero, List.take_of_length_le (by omega)]
     rw [this] at e1; exact e1
  ·cases h
def ZmN (ag : Bool) (ds : List D) : D := match ag, ds with | true, ds => .agg ds | false, d :: _ => d | false, [] => .nilp
theorem Zpj {n : Nat} {t : TypeId} {l : List Lf} {ag : Bool} (h : lfs P n t = some (l, ag)) {base : Nat} {v : Value} {d : DataW H} {ps : List MemPlace} (hv : Value.okWide P W .any base t v) (hx : DataW.Trod enc P W 0 sp held t v d ps) :
  ∃ ds, Ze9 l ds ∧ ZaW All All All W (ZmN ag ds) v := by
 obtain ⟨fuel, hf⟩ := hx
 obtain ⟨ds, d1, d2, d3⟩ := Zmf n t l ag h fuel _ _ hf
 refine ⟨ds, d2, ?_⟩
 have one : ag = false → v.cells = #[v] → ZaW All All All W (ZmN ag ds) v := fun hag hc => by
  subst hag
  obtain ⟨u, y, e1, rfl, _, _⟩ := d3 rfl
  rw [hc] at e1
  cases e1
  obtain ⟨u', us', f1, f2, _⟩ := d1
  rw [hc] at f1
  cases f1
  exact f2
 cases n with
 | zero => cases h
 | succ n =>
  simp only [lfs] at h
  split at h
  ·rename_i ht
   cases h
   obtain ⟨b, rfl⟩ := Go.WideShapes.okWide_bool ht hv
   exact one rfl rfl
  ·rename_i k ht
   cases h
   obtain ⟨b, rfl⟩ := Go.WideShapes.okWide_int ht hv
   exact one rfl rfl
  ·rename_i ht
   cases h
   obtain ⟨b, rfl⟩ := Go.WideShapes.okWide_string ht hv
   exact one rfl rfl
  ·rename_i e ht
   obtain ⟨a, len, cap, rfl⟩ := Go.WideShapes.okWide_slice ht hv
   split at h
   ·rename_i le age hq
    cases hc : (Nat.beq (P.cellsOf e) le.length && Nat.blt 0 le.length) with
    | false => rw [hc] at h; cases h
    | true => rw [hc] at h; cases h; exact one rfl rfl
   ·cases h
  ·rename_i fs ht
   obtain ⟨cs, rfl, _⟩ := Go.WideShapes.okWide_struct ht hv
   split at h
   ·rename_i q hq
    cases hc : Nat.beq (P.cellsOf t) q.length with
    | false => rw [hc] at h; cases h
    | true =>
     rw [hc] at h
     cases h
     exact ⟨cs.toList, by simp, by simpa [Value.cells] using d1⟩
   ·cases h
  ·cases h
end
end Go.Proofs.YtnmbdjkbaihicaaDoorE
namespace Go.Proofs.YtnmbdjkbaihicaaDoorE
open Go
set_option linter.unusedVariables false
set_option linter.unusedSimpArgs false
def R0 : RP := { B1 := fun _ => False, B0 := fun _ => False, M := fun _ => none, H := [] }
section
variable {P : Program} {G : Zbr} {Γ : Ctx} {W : World}
theorem ZhT (c : Nat) : ¬ R0.live c := by
 rintro ⟨i, h, _⟩
 simp [R0, Z5, nth] at h
theorem Zy7 : R0.OK W where
 b01 := fun c h => h.elim
 al := fun i blk h => by simp [R0] at h
 inj := fun i j c h => by simp [R0, Z5, nth] at h
 lt := fun i c h => by cases h
 blk := fun i m blk h => by simp [R0] at h
 nb := fun i c h => by simp [R0, Z5, nth] at h
 bl := fun c h => h.elim
theorem ZwK {x : D} {u : Value} (h : ZaW All All All W x u) : R0.den W x u :=
 ZaW.change _ _ _ _ (fun b _ _ => ⟨ZhT b, fun h => h⟩) (fun b _ _ => ⟨ZhT b, fun h => h⟩) (fun b _ _ => ZhT b) (fun _ _ _ => rfl) (Nat.le_refl _) (fun _ _ => trivial) (fun _ _ => trivial) x u h
theorem Zum {xs : List D} {us : List Value} (h : ZaI All All All W xs us) : Zay R0 W (Zcn xs) us :=
 (ZcO xs us).2 (ZaI.change _ _ _ _ (fun b _ _ => ⟨ZhT b, fun h => h⟩) (fun b _ _ => ⟨ZhT b, fun h => h⟩) (fun b _ _ => ZhT b) (fun _ _ _ => rfl) (Nat.le_refl _) (fun _ _ => trivial) (fun _ _ => trivial) xs us h)
theorem Zq2 (hs : ZeN P G (evW Γ)) (hg : GOK G R0 W) {f : Nat} {xs : List D} {us : List Value} (hd : ZaI All All All W xs us) {H' : Zk} (he : evW Γ f (Zcn xs) [] = some (.d (.bool true), H')) :
  Calls P f us.toArray W fun e W' => e = .returned (.bool true) ∧ Go.RowKit.Below W.heap.size W W' := by
 obtain ⟨_, h⟩ := hs f (Zcn xs) [] _ _ he
 refine (h R0 W us Zy7 hg rfl (fun i _ => rfl) (Zum hd)).mono fun e W' ⟨u, h1, R', x, ok, hH, hv, _, _⟩ => ?_
 have hu : u = .bool true := hv
 subst hu
 exact ⟨h1, ⟨x.os, x.tape, x.output, x.grow, fun k hk => x.same k hk (ZhT k)⟩⟩
def Zjs (l : List (IntKind × Int)) : List (DataW Unit) := l.map fun q => .lit (.int q.1 q.2)
theorem ZoC {n : String} {d : DataW Unit} : ∀ {L : List (String × DataW Unit)} {ps : List MemPlace}, DataW.LaidVars P W L ps → (n, d) ∈ L →
  ∃ g t cs fuel p, P.globalNamed n = some g ∧ (P.globals[g]?).map (·.type) = some t ∧ W.var? P n = some cs ∧ DataW.trod (fun _ => ()) P W 0 (fun _ => true) false fuel t cs.toList = some (d, p)
 | [], _, _, h => by cases h
 | (m, e) :: L, ps, h, hm => by
  obtain ⟨g, t, cs, fuel, p, q, h1, h2, h3, h4, h5, _⟩ := h
  rcases List.mem_cons.1 hm with hm | hm
  ·cases hm; exact ⟨g, t, cs, fuel, p, h1, h2, h3, h4⟩
  ·exact ZoC h5 hm
theorem Zme {L : List (String × DataW Unit)} (h : laidMetH P L W) (hl : (L.all fun x => x.2.handleName?.isNone) = true) {n : String} {l : List (IntKind × Int)} (hm : (n, DataW.agg (Zjs l)) ∈ L) {g t N e : Nat} {k : IntKind}
  (hg : P.globalNamed n = some g) (ht : (P.globals[g]?).map (·.type) = some t) (hu : P.underlying t = some (.array N e)) (he : P.underlying e = some (.int k)) (hc : P.cellsOf e = 1) (hN : l.length = N) (hne : 0 < N) :
  R0.den W (.rptr (gD l)) (.pointer (some ⟨g, 0, none⟩)) := by
 rw [MakeChecks.laidMetH_plain _ _ _ hl] at h
 obtain ⟨ps, hL, _, _⟩ := h
 obtain ⟨g', t', cs, fuel, p, h1, h2, h3, h4⟩ := ZoC hL hm
 obtain rfl := Option.some.inj (hg.symm.trans h1)
 obtain rfl := Option.some.inj (ht.symm.trans h2)
 obtain ⟨xs, m, _, hx, hlen, hxn, hel⟩ := DataW.trod_array hu h4
 have hmap : Zjs l = xs.map (·.1) := by
  have := (Prod.mk.inj hx).1
  exact DataW.agg.inj this
 have cell : ∀ (i : Nat) q, l[i]? = some q → W.cell? ⟨g, i, none⟩ = some (.int q.1 q.2) := fun i q hq => by
  have hi : i < N := by rw [← hN]; exact (List.getElem?_eq_some_iff.1 hq).1
  have hi2 : i < xs.length := by omega
  have e1 := hel i hi
  rw [List.getElem?_eq_getElem hi2] at e1
  obtain ⟨z, z1, z2, _⟩ := DataW.trod_int he e1
  have e3 : (Zjs l)[i]? = some (xs[i]'hi2).1 := by rw [hmap]; simp [hi2]
  rw [z2] at e3
  have e4 : (Zjs l)[i]? = some (.lit (.int q.1 q.2)) := by simp [Zjs, hq]
  rw [e4] at e3
  have e5 : q.1 = k ∧ q.2 = z := by
   have := Option.some.inj e3
   simpa using this
  rw [World.var?_cell h1 h3 i, hc] at *
  have e6 : (cs.toList.drop (i * 1)).take 1 = [.int k z] := z1
  have e7 : cs.toList[i]? = some (.int k z) := by
   have : (cs.toList.drop (i * 1))[0]? = some (.int k z) := by
    have h8 : ((cs.toList.drop (i * 1)).take 1)[0]? = some (.int k z) := by rw [e6]; rfl
    rwa [List.getElem?_take_of_lt (by omega)] at h8
   simpa using this
  rw [e5.1, e5.2]
  simpa using e7
 have hb : g < W.heap.size := by
  have := cell 0 (l[0]'(by omega)) (List.getElem?_eq_getElem (by omega))
  unfold World.cell? at this
  split at this
  ·rename_i hb; exact (Array.getElem?_eq_some_iff.1 hb).1
  ·cases this
 have gd : ∀ (l : List (IntKind × Int)) (i : Nat) x, (gD l)[i]? = some x → ∃ q, l[i]? = some q ∧ x = .int q.1 q.2 := by
  intro l
  induction l with
  | nil => intro i x h; simp [gD] at h
  | cons a r ih =>
   intro i x h
   obtain ⟨k, z⟩ := a
   cases i with
   | zero => simp [gD] at h; exact ⟨(k, z), rfl, h.symm⟩
   | succ i => simpa using ih i x (by simpa [gD] using h)
 refine ZwK ⟨g, 0, rfl, trivial, hb, ZfD _ _ fun j x hj => ?_⟩
 obtain ⟨q, q1, rfl⟩ := gd l j x hj
 exact ⟨_, by rw [Nat.zero_add]; exact cell j q q1, rfl⟩
end
end Go.Proofs.YtnmbdjkbaihicaaDoorE
