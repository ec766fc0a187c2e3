/- SourceMay: part 6 of 7 of the proof. -/
import Derived.Test.YtnmbdjkbaihicaaDoorZSourceMaye
import Derived.KernelRfl
set_option maxRecDepth 100000
set_option maxHeartbeats 40000000
namespace Go.Proofs.YtnmbdjkbaihicaaDoor
open Go Go.Proofs.YtnmbdjkbaihicaaDoorE Go.Sort
set_option linter.unusedVariables false
set_option linter.unusedSimpArgs false
noncomputable def after (e : Int → Int → Option Int) (rc : Int → Int → Int → (Int → Int → Option Int) → List Int → Option (List Int)) (x : Option (Zui ⊕ List Int)) : Option (List Int) :=
 match x with | some (.inl s') => lp (ZJ e rc) s' | some (.inr r) => some r | none => none
theorem Zts (e : Int → Int → Option Int) (rc : Int → Int → Int → (Int → Int → Option Int) → List Int → Option (List Int)) (s : Zui) : lp (ZJ e rc) s = after e rc (ZJ e rc s) := by
 rw [Zb8]
 unfold after
 cases ZJ e rc s with
 | none => rfl
 | some t => cases t <;> rfl
def Res (P : Int → Prop) (r : Option (List Int)) (X : Array Int) (n : Nat) : Prop := r = some X.toList ∧ OKA P X ∧ X.size = n
section
variable {cmp : Int → Int → Option Int} {c : Int → Int → Int} {P : Int → Prop} (hc : ZoF cmp c P) (hs : SWO (ltC c))
include hc hs
def Zlv (cmp : Int → Int → Option Int) (c : Int → Int → Int) (P : Int → Prop) (rc : Int → Int → Int → (Int → Int → Option Int) → List Int → Option (List Int)) (k : Nat) : Prop :=
 ∀ (a b limit : Nat) (wb wp : Bool) (d : Array Int), b - a ≤ k → a ≤ b → b ≤ d.size → OKA P d → limit ≤ 1000 →
  Res P (rc (a : Int) (b : Int) (limit : Int) cmp d.toList) (pdq (ltC c) d a b limit true true) d.size ∧
  Res P (lp (ZJ cmp rc) ((a : Int), (b : Int), (limit : Int), wb, wp, d.toList)) (pdq (ltC c) d a b limit wb wp) d.size
theorem Zpr {rc : Int → Int → Int → (Int → Int → Option Int) → List Int → Option (List Int)} {k : Nat} (ih : Zlv cmp c P rc k) (a b limit pivot : Nat) (d : Array Int) (hk : b - a ≤ k + 1) (h1 : a ≤ pivot) (h2 : pivot < b) (hb : b ≤ d.size) (hd : OKA P d) (hl : limit ≤ 1000) :
  Res P (after cmp rc (ZqJ cmp rc (a : Int) (b : Int) (limit : Int) (pivot : Int) d.toList)) (match partition (ltC c) d a b pivot with
   | (mid, alreadyPartitioned, d4) =>
    if _h : a ≤ mid ∧ mid < b then
     if mid - a < b - mid then pdq (ltC c) (pdq (ltC c) d4 a mid limit true true) (mid + 1) b limit (decide (mid - a ≥ (b - a) / 8)) alreadyPartitioned
     else pdq (ltC c) (pdq (ltC c) d4 (mid + 1) b limit true true) a mid limit (decide (b - mid ≥ (b - a) / 8)) alreadyPartitioned
    else d4) d.size := by
 have hz := hd.sz
 obtain ⟨p1, p2, p3⟩ := Zt7 hc a b pivot d h1 h2 hb hd
 obtain ⟨r1, r2, _⟩ := partition_holds (ltC c) hs d a b pivot h1 h2 hb
 unfold ZqJ
 rw [p1]
 generalize partition (ltC c) d a b pivot = q at *
 obtain ⟨mid, ap, d4⟩ := q
 dsimp only at *
 rw [dif_pos ⟨r1, r2⟩]
 have e1 : w64 ((mid : Int) - (a : Int)) = ((mid - a : Nat) : Int) := Zam (by omega) (by omega)
 have e2 : w64 ((b : Int) - (mid : Int)) = ((b - mid : Nat) : Int) := Zam (by omega) (by omega)
 have e3 : w64 ((b : Int) - (a : Int)) = ((b - a : Nat) : Int) := Zam (by omega) (by omega)
 have e4 : w64 (Int.tdiv ((b - a : Nat) : Int) 8) = (((b - a) / 8 : Nat) : Int) := by
  rw [Int.tdiv_eq_ediv_of_nonneg (by omega)]
  exact Zam (by omega) (by omega)
 have e5 : w64 ((mid : Int) + 1) = ((mid + 1 : Nat) : Int) := Zam (by omega) (by omega)
 by_cases hlt : mid - a < b - mid
 ·obtain ⟨⟨u1, u2, u3⟩, _⟩ := ih a mid limit true true d4 (by omega) r1 (by omega) p2 hl
  rw [if_pos hlt]
  by_cases ht : mid - a ≥ (b - a) / 8
  ·obtain ⟨_, v1, v2, v3⟩ := ih (mid + 1) b limit true ap (pdq (ltC c) d4 a mid limit true true) (by omega) (by omega) (by omega) u2 hl
   rw [decide_eq_true ht]
   refine ⟨?_, v2, by omega⟩
   cases ap <;> simp only [cond_true, cond_false, Option.bind_some, e1, e2, e3, e4, e5, ZeZ, ZfI, decide_eq_true hlt, decide_eq_true (show (b - a) / 8 ≤ mid - a from ht), u1, after] <;> exact v1
  ·obtain ⟨_, v1, v2, v3⟩ := ih (mid + 1) b limit false ap (pdq (ltC c) d4 a mid limit true true) (by omega) (by omega) (by omega) u2 hl
   rw [decide_eq_false ht]
   refine ⟨?_, v2, by omega⟩
   cases ap <;> simp only [cond_true, cond_false, Option.bind_some, e1, e2, e3, e4, e5, ZeZ, ZfI, decide_eq_true hlt, decide_eq_false (show ¬ (b - a) / 8 ≤ mid - a from ht), u1, after] <;> exact v1
 ·obtain ⟨⟨u1, u2, u3⟩, _⟩ := ih (mid + 1) b limit true true d4 (by omega) (by omega) (by omega) p2 hl
  rw [if_neg hlt]
  by_cases ht : b - mid ≥ (b - a) / 8
  ·obtain ⟨_, v1, v2, v3⟩ := ih a mid limit true ap (pdq (ltC c) d4 (mid + 1) b limit true true) (by omega) r1 (by omega) u2 hl
   rw [decide_eq_true ht]
   refine ⟨?_, v2, by omega⟩
   cases ap <;> simp only [cond_true, cond_false, Option.bind_some, e1, e2, e3, e4, e5, ZeZ, ZfI, decide_eq_false hlt, decide_eq_true (show (b - a) / 8 ≤ b - mid from ht), u1, after] <;> exact v1
  ·obtain ⟨_, v1, v2, v3⟩ := ih a mid limit false ap (pdq (ltC c) d4 (mid + 1) b limit true true) (by omega) r1 (by omega) u2 hl
   rw [decide_eq_false ht]
   refine ⟨?_, v2, by omega⟩
   cases ap <;> simp only [cond_true, cond_false, Option.bind_some, e1, e2, e3, e4, e5, ZeZ, ZfI, decide_eq_false hlt, decide_eq_false (show ¬ (b - a) / 8 ≤ b - mid from ht), u1, after] <;> exact v1
theorem ZdX {rc : Int → Int → Int → (Int → Int → Option Int) → List Int → Option (List Int)} {k : Nat} (ih : Zlv cmp c P rc k) (a b limit pivot : Nat) (wb wp : Bool) (d : Array Int) (hk : b - a ≤ k + 1) (h1 : a ≤ pivot) (h2 : pivot < b) (hb : b ≤ d.size) (hd : OKA P d) (hl : limit ≤ 1000) :
  Res P (after cmp rc (Zj0 cmp rc (a : Int) (b : Int) (limit : Int) (pivot : Int) wb wp d.toList)) (if (decide (a > 0) && !ltC c d[a - 1]! d[pivot]!) = true then
    match partitionEqual (ltC c) d a b pivot with
    | (mid, d4) => if _h : a < mid ∧ mid ≤ b then pdq (ltC c) d4 mid b limit wb wp else d4
   else
    match partition (ltC c) d a b pivot with
    | (mid, alreadyPartitioned, d4) =>
     if _h : a ≤ mid ∧ mid < b then
      if mid - a < b - mid then pdq (ltC c) (pdq (ltC c) d4 a mid limit true true) (mid + 1) b limit (decide (mid - a ≥ (b - a) / 8)) alreadyPartitioned
      else pdq (ltC c) (pdq (ltC c) d4 (mid + 1) b limit true true) a mid limit (decide (b - mid ≥ (b - a) / 8)) alreadyPartitioned
     else d4) d.size := by
 have hz := hd.sz
 have pa := Zpr hc hs ih a b limit pivot d hk h1 h2 hb hd hl
 have ip : pivot < d.size := by omega
 unfold Zj0
 by_cases ha : 0 < a
 ·have ia : a - 1 < d.size := by omega
  have e1 : w64 ((a : Int) - 1) = ((a - 1 : Nat) : Int) := Zam (by omega) (by omega)
  have e3 := hc _ _ (hd.el _ ia) (hd.el _ ip)
  simp only [decide_eq_true (show (0 : Int) < (a : Int) by omega), cond_true, e1, Zbp ia, Zbp ip, Option.bind_some, e3]
  by_cases h : c d[a - 1]! d[pivot]! < 0
  ·rw [decide_eq_true h, if_neg (by simp [ltC, h])]
   exact pa
  ·rw [decide_eq_false h, if_pos (by simp [ltC, h, ha])]
   obtain ⟨q1, q2, q3, q4, q5⟩ := Zsf hc a b pivot d h1 h2 hb hd
   generalize partitionEqual (ltC c) d a b pivot = q at *
   obtain ⟨mid, d4⟩ := q
   dsimp only at *
   rw [dif_pos ⟨q4, q5⟩]
   obtain ⟨_, v1, v2, v3⟩ := ih mid b limit wb wp d4 (by omega) q5 (by omega) q2 hl
   simp only [cond_false, q1, Option.bind_some, after]
   exact ⟨v1, v2, by omega⟩
 ·rw [if_neg (by simp [ha])]
  simp only [decide_eq_false (show ¬ (0 : Int) < (a : Int) by omega), cond_false]
  exact pa
theorem Znn {rc : Int → Int → Int → (Int → Int → Option Int) → List Int → Option (List Int)} {k : Nat} (ih : Zlv cmp c P rc k) (a b limit : Nat) (wb wp : Bool) (d : Array Int) (hk : b - a ≤ k + 1) (hab : a ≤ b) (hb : b ≤ d.size) (hd : OKA P d) (hl : limit ≤ 1000) :
  Res P (lp (ZJ cmp rc) ((a : Int), (b : Int), (limit : Int), wb, wp, d.toList)) (pdq (ltC c) d a b limit wb wp) d.size := by
 have hz := hd.sz
 have e1 : w64 ((b : Int) - (a : Int)) = ((b - a : Nat) : Int) := Zam (by omega) (by omega)
 rw [Zts, Znh, pdq, e1]
 by_cases h12 : b - a ≤ 12
 ·obtain ⟨q1, q2, q3⟩ := ZuZ hc a b d hb hab hd
  rw [decide_eq_true (show ((b - a : Nat) : Int) ≤ 12 by omega), if_pos h12]
  simp only [cond_true, q1, Option.bind_some, after]
  exact ⟨rfl, q2, q3⟩
 rw [decide_eq_false (show ¬ ((b - a : Nat) : Int) ≤ 12 by omega), if_neg h12]
 by_cases h0 : limit = 0
 ·obtain ⟨q1, q2, q3⟩ := ZwB hc a b d hab hb hd
  rw [show ((limit : Int) == 0) = true by simp [h0], if_pos h0]
  simp only [cond_false, cond_true, q1, Option.bind_some, after]
  exact ⟨rfl, q2, q3⟩
 rw [show ((limit : Int) == 0) = false by simpa using (show ¬ (limit : Int) = 0 by omega), if_neg h0]
 have hl2 : ∀ x : Nat, (ZlB Hint.unknown == 2) = false ∧ (ZlB Hint.unknown == 1) = false ∧ (ZlB Hint.increasing == 2) = false ∧ (ZlB Hint.increasing == 1) = true ∧ (ZlB Hint.decreasing == 2) = true := fun _ => ⟨rfl, rfl, rfl, rfl, rfl⟩
 obtain ⟨g1, g2, g3, g4, g5⟩ := hl2 0
 have rp : ∀ p : Nat, a ≤ p → p < b → w64 (w64 ((b : Int) - 1) - w64 ((p : Int) - (a : Int))) = (((b - 1) - (p - a) : Nat) : Int) := fun p h1 h2 => by
  have x1 : w64 ((b : Int) - 1) = ((b - 1 : Nat) : Int) := Zam (by omega) (by omega)
  have x2 : w64 ((p : Int) - (a : Int)) = ((p - a : Nat) : Int) := Zam (by omega) (by omega)
  rw [x1, x2]
  exact Zam (by omega) (by omega)
 cases wb with
 | true =>
  have pv := Zvc hc a b d (by omega) hb hd
  have pr := choosePivot_holds (ltC c) d a b (by omega)
  simp only [cond_false, cond_true, Bool.not_true, Bool.false_eq_true, if_false, Bool.true_and]
  generalize choosePivot (ltC c) d a b = cp at *
  obtain ⟨p, h⟩ := cp
  dsimp only at *
  cases wp with
  | true =>
   simp only [cond_true, pv, Option.bind_some]
   cases h with
   | decreasing =>
    obtain ⟨v1, v2, v3⟩ := Ztw (P := P) cmp a b d (by omega) hb hd
    obtain ⟨w1, w2, w3⟩ := Zu7 hc a b (reverseRange d a b) (by omega) (by omega) v2
    simp only [g5, cond_true, v1, Option.bind_some, w1, if_true, decide_true, Bool.and_self]
    generalize partialInsertionSort (ltC c) (reverseRange d a b) a b = pi at *
    obtain ⟨d3, fin⟩ := pi
    dsimp only at *
    cases fin with
    | true => exact ⟨rfl, w2, w3.trans v3⟩
    | false =>
     rw [rp p pr.1 pr.2]
     have := ZdX hc hs ih a b limit ((b - 1) - (p - a)) true true d3 hk (by omega) (by omega) (by omega) w2 hl
     rw [show d3.size = d.size by omega] at this
     exact this
   | increasing =>
    obtain ⟨w1, w2, w3⟩ := Zu7 hc a b d (by omega) hb hd
    simp only [g3, g4, cond_true, cond_false, w1, Option.bind_some, reduceCtorEq, if_false, if_true, decide_true, Bool.and_self]
    generalize partialInsertionSort (ltC c) d a b = pi at *
    obtain ⟨d3, fin⟩ := pi
    dsimp only at *
    cases fin with
    | true => exact ⟨rfl, w2, w3⟩
    | false =>
     have := ZdX hc hs ih a b limit p true true d3 hk pr.1 pr.2 (by omega) w2 hl
     rw [show d3.size = d.size by omega] at this
     exact this
   | unknown =>
    simp only [g1, g2, cond_false, reduceCtorEq, if_false, decide_false, Bool.and_false, Bool.false_eq_true]
    exact ZdX hc hs ih a b limit p true true d hk pr.1 pr.2 hb hd hl
  | false =>
   simp only [cond_false, pv, Option.bind_some, Bool.false_and, Bool.false_eq_true, if_false]
   cases h with
   | decreasing =>
    obtain ⟨v1, v2, v3⟩ := Ztw (P := P) cmp a b d (by omega) hb hd
    simp only [g5, cond_true, v1, Option.bind_some, if_true]
    rw [rp p pr.1 pr.2]
    have := ZdX hc hs ih a b limit ((b - 1) - (p - a)) true false (reverseRange d a b) hk (by omega) (by omega) (by omega) v2 hl
    rw [v3] at this
    exact this
   | increasing =>
    simp only [g3, cond_false, reduceCtorEq, if_false]
    exact ZdX hc hs ih a b limit p true false d hk pr.1 pr.2 hb hd hl
   | unknown =>
    simp only [g1, cond_false, reduceCtorEq, if_false]
    exact ZdX hc hs ih a b limit p true false d hk pr.1 pr.2 hb hd hl
 | false =>
  obtain ⟨b1, b2, b3⟩ := ZBm (P := P) cmp a b d hab hb hd
  have pv := Zvc hc a b (breakPatterns d a b) (by omega) (by omega) b2
  have pr := choosePivot_holds (ltC c) (breakPatterns d a b) a b (by omega)
  have el : w64 ((limit : Int) - 1) = ((limit - 1 : Nat) : Int) := Zam (by omega) (by omega)
  simp only [cond_false, b1, Option.bind_some, pv, Bool.not_false, if_true, Bool.false_and, Bool.false_eq_true, if_false, el]
  generalize choosePivot (ltC c) (breakPatterns d a b) a b = cp at *
  obtain ⟨p, h⟩ := cp
  dsimp only at *
  cases h with
  | decreasing =>
   obtain ⟨v1, v2, v3⟩ := Ztw (P := P) cmp a b (breakPatterns d a b) (by omega) (by omega) b2
   simp only [g5, cond_true, v1, Option.bind_some, if_true]
   rw [rp p pr.1 pr.2]
   have := ZdX hc hs ih a b (limit - 1) ((b - 1) - (p - a)) false wp (reverseRange (breakPatterns d a b) a b) hk (by omega) (by omega) (by omega) v2 (by omega)
   rw [v3, b3] at this
   exact this
  | increasing =>
   simp only [g3, cond_false, reduceCtorEq, if_false]
   have := ZdX hc hs ih a b (limit - 1) p false wp (breakPatterns d a b) hk pr.1 pr.2 (by omega) b2 (by omega)
   rw [b3] at this
   exact this
  | unknown =>
   simp only [g1, cond_false, reduceCtorEq, if_false]
   have := ZdX hc hs ih a b (limit - 1) p false wp (breakPatterns d a b) hk pr.1 pr.2 (by omega) b2 (by omega)
   rw [b3] at this
   exact this
theorem Zup : ∀ (k m : Nat), k ≤ m → Zlv cmp c P (ZT (m + 1)) k := by
 intro k
 induction k with
 | zero =>
  intro m hm
  have base : ∀ (rc : Int → Int → Int → (Int → Int → Option Int) → List Int → Option (List Int)) (a b limit : Nat) (wb wp : Bool) (d : Array Int), b - a ≤ 0 → a ≤ b → b ≤ d.size → OKA P d → Res P (lp (ZJ cmp rc) ((a : Int), (b : Int), (limit : Int), wb, wp, d.toList)) (pdq (ltC c) d a b limit wb wp) d.size := by
   intro rc a b limit wb wp d hk hab hb hd
   have hz := hd.sz
   have e1 : w64 ((b : Int) - (a : Int)) = ((b - a : Nat) : Int) := Zam (by omega) (by omega)
   obtain ⟨q1, q2, q3⟩ := ZuZ hc a b d hb hab hd
   rw [Zb8, Znh, pdq, e1, decide_eq_true (show ((b - a : Nat) : Int) ≤ 12 by omega), if_pos (by omega)]
   simp only [cond_true, q1, Option.bind_some]
   exact ⟨rfl, q2, q3⟩
  intro a b limit wb wp d hk hab hb hd hl
  refine ⟨?_, base _ a b limit wb wp d hk hab hb hd⟩
  obtain ⟨r1, r2⟩ := base (ZT m) a b limit true true d hk hab hb hd
  refine ⟨?_, r2⟩
  show Zak (ZT m) (a : Int) (b : Int) (limit : Int) cmp d.toList = _
  unfold Zak
  rw [r1]; rfl
 | succ k ih =>
  intro m hm a b limit wb wp d hk hab hb hd hl
  refine ⟨?_, Znn hc hs (ih m (by omega)) a b limit wb wp d hk hab hb hd hl⟩
  obtain ⟨m', rfl⟩ : ∃ m', m = m' + 1 := ⟨m - 1, by omega⟩
  obtain ⟨r1, r2⟩ := Znn hc hs (ih m' (by omega)) a b limit true true d hk hab hb hd hl
  refine ⟨?_, r2⟩
  show Zak (ZT (m' + 1)) (a : Int) (b : Int) (limit : Int) cmp d.toList = _
  unfold Zak
  rw [r1]; rfl
theorem Zt2 (l : List Int) (hl : l.length ≤ 1000) (hP : ∀ x ∈ l, P x) : Zaz cmp l = some (Sort.sort (ltC c) l.toArray).toList := by
 have hd : OKA P l.toArray := ⟨fun i hi => by
  have hi' : i < l.length := by simpa using hi
  rw [getElem!_pos l.toArray i hi]
  simpa using hP _ (List.getElem_mem hi'), by simpa using hl⟩
 obtain ⟨l1, _, _⟩ := ZrP hl
 have hbl : bitsLen l.length ≤ 1000 := by
  unfold bitsLen
  split
  ·omega
  ·have : Nat.log2 l.length < 11 := (Nat.log2_lt (by assumption)).2 (by omega)
   omega
 have key : ∀ n, l.length + 1 ≤ n → ZT n 0 (l.length : Int) (bitsLen l.length : Int) cmp l = some (Sort.sort (ltC c) l.toArray).toList := by
  intro n hn
  obtain ⟨m, rfl⟩ : ∃ m, n = m + 1 := ⟨n - 1, by omega⟩
  obtain ⟨⟨r1, _⟩, _⟩ := Zup hc hs l.length m (by omega) 0 l.length (bitsLen l.length) true true l.toArray (by omega) (by omega) (by simp) hd hbl
  refine (r1 : ZT (m + 1) 0 (l.length : Int) (bitsLen l.length : Int) cmp l = _).trans ?_
  unfold Sort.sort
  rw [List.size_toArray]
 unfold Zaz Zc1
 rw [l1, Option.bind_some, ZuN key]
 rfl
theorem Zwj (l : List Int) (hl : l.length ≤ 1000) (hP : ∀ x ∈ l, P x) : ∃ r : List Int, Zaz cmp l = some r ∧ r.Perm l ∧ r.Pairwise (fun x y => ltC c y x = false) := by
 refine ⟨_, Zt2 hc hs l hl hP, ?_⟩
 obtain ⟨⟨h1, _, h2⟩, h3⟩ := sort_sorts (ltC c) hs l.toArray
 generalize Sort.sort (ltC c) l.toArray = d at *
 constructor
 ·have e1 : d.extract 0 l.toArray.size = d := by rw [← h1]; simp
  rw [e1] at h2
  simpa using h2
 ·rw [List.pairwise_iff_getElem]
  intro i j hi hj hij
  have hj' : j < d.size := by simpa using hj
  have hi' : i < d.size := by omega
  have := h3 i j (Nat.zero_le _) hij (by omega)
  rw [getElem!_pos d j hj', getElem!_pos d i hi'] at this
  simpa using this
end
end Go.Proofs.YtnmbdjkbaihicaaDoor
namespace Go.Proofs.YtnmbdjkbaihicaaDoor
open Go Go.Proofs.YtnmbdjkbaihicaaDoorE Go.Sort
set_option linter.unusedVariables false
set_option linter.unusedSimpArgs false
def sel {γ : Type} (p : γ → Bool) (g : Nat → γ → Int) : Nat → List γ → List Int
 | _, [] => []
 | i, x :: l => bif p x then g i x :: sel p g (i + 1) l else sel p g (i + 1) l
theorem Zlr {γ : Type} (p : γ → Bool) (g : Nat → γ → Int) : ∀ (l : List γ) (i : Nat), (sel p g i l).length = l.countP p
 | [], _ => rfl
 | x :: l, i => by
  unfold sel
  have ih := Zlr p g l (i + 1)
  cases h : p x with
  | true => simp [ih, h]
  | false => simp [ih, h]
theorem Zoj {γ : Type} (p : γ → Bool) (g : Nat → γ → Int) (z : Int) : ∀ (l : List γ) (i : Nat), z ∈ sel p g i l ↔ ∃ j x, l[j]? = some x ∧ p x = true ∧ z = g (i + j) x
 | [], i => by simp [sel]
 | x :: l, i => by
  have ih := Zoj p g z l (i + 1)
  have key : (∃ j y, (x :: l)[j]? = some y ∧ p y = true ∧ z = g (i + j) y) ↔ (p x = true ∧ z = g i x) ∨ ∃ j y, l[j]? = some y ∧ p y = true ∧ z = g (i + 1 + j) y := by
   constructor
   ·rintro ⟨j, y, h1, h2, h3⟩
    cases j with
    | zero => left; simp at h1; subst h1; exact ⟨h2, h3⟩
    | succ j => right; exact ⟨j, y, by simpa using h1, h2, by rw [h3]; congr 1; omega⟩
   ·rintro (⟨h2, h3⟩ | ⟨j, y, h1, h2, h3⟩)
    ·exact ⟨0, x, rfl, h2, h3⟩
    ·exact ⟨j + 1, y, by simpa using h1, h2, by rw [h3]; congr 1; omega⟩
  rw [key]
  unfold sel
  cases h : p x with
  | true => simp [ih]
  | false => simp [ih]
theorem ZnY {γ : Type} (l : List γ) (hl : l.length ≤ 1000) (p : γ → Bool) (g : Nat → γ → Int) (step : Int × List Int → Option ((Int × List Int) ⊕ List Int))
  (h1 : ∀ i x s, i < l.length → l[i]? = some x → step ((i : Int), s) = (bif p x then (bif Nat.ble (s.length + 1) lim then some (.inl (((i + 1 : Nat) : Int), s ++ [g i x])) else none) else some (.inl (((i + 1 : Nat) : Int), s))))
  (h2 : ∀ s, step ((l.length : Int), s) = some (.inr s)) (s : List Int) (hs : s.length ≤ 1000000) : lp step (0, s) = some (s ++ sel p g 0 l) := by
 have key := ZnW l step (fun i s => ((i : Int), s)) (fun i x s => bif p x then (bif Nat.ble (s.length + 1) lim then some (.inl (s ++ [g i x])) else none) else some (.inl s)) (fun s => some s) (fun i x s hi hx => by
   rw [h1 i x s hi hx]
   cases p x <;> cases Nat.ble (s.length + 1) lim <;> rfl) (fun s => h2 s) s
 refine (key : lp step (0, s) = _).trans ?_
 have : ∀ (l : List γ) (i : Nat) (s : List Int), s.length + l.length ≤ 1001000 → ZkS (fun i x s => bif p x then (bif Nat.ble (s.length + 1) lim then some (Sum.inl (s ++ [g i x])) else (none : Option (List Int ⊕ List Int))) else some (.inl s)) (fun s => some s) i l s = some (s ++ sel p g i l) := by
  intro l
  induction l with
  | nil => intro i s _; simp [ZkS, sel]
  | cons x l ih =>
   intro i s hb
   rw [List.length_cons] at hb
   unfold ZkS sel
   cases p x with
   | true =>
    rw [Zig (show s.length + 1 ≤ 1073741824 by omega)]
    simp only [cond_true]
    rw [ih (i + 1) (s ++ [g i x]) (by rw [List.length_append, List.length_singleton]; omega)]
    simp
   | false =>
    simp only [cond_false]
    rw [ih (i + 1) s (by omega)]
 exact this l 0 s (by omega)
theorem ZlL (k : Int → Int) : ∀ (l m : List Int), l.Pairwise (fun x y => k x < k y) → m.Pairwise (fun x y => k x < k y) → (∀ z, z ∈ l ↔ z ∈ m) → l = m
 | [], [], _, _, _ => rfl
 | [], y :: m, _, _, h => absurd ((h y).2 (by simp)) (by simp)
 | x :: l, [], _, _, h => absurd ((h x).1 (by simp)) (by simp)
 | x :: l, y :: m, h1, h2, h => by
  rw [List.pairwise_cons] at h1 h2
  have hxy : x = y := by
   rcases List.mem_cons.1 ((h x).1 (by simp)) with e | e
   ·exact e
   ·rcases List.mem_cons.1 ((h y).2 (by simp)) with e2 | e2
    ·exact e2.symm
    ·have := h2.1 _ e
     have := h1.1 _ e2
     omega
  subst hxy
  congr 1
  refine ZlL k l m h1.2 h2.2 fun z => ?_
  constructor
  ·intro hz
   rcases List.mem_cons.1 ((h z).1 (by simp [hz])) with e | e
   ·subst e
    have := h1.1 _ hz
    omega
   ·exact e
  ·intro hz
   rcases List.mem_cons.1 ((h z).2 (by simp [hz])) with e | e
   ·subst e
    have := h2.1 _ hz
    omega
   ·exact e
structure Ztd (d : Zo) : Prop where
 w : ∀ p ∈ d.parts, 1 ≤ p.work ∧ p.work ≤ 100
 e : ∀ x ∈ d.edges, two d.parts.length x.src x.dst = true
 f : ∀ x ∈ d.futures, two d.parts.length x.maker x.user = true ∧ 1 ≤ x.pos ∧ x.pos ≤ Zd7 d.parts x.user - 1
 ne : ∀ (i j : Nat) (x y : Zq), i < j → d.futures[i]? = some x → d.futures[j]? = some y → ¬ (x.user = y.user ∧ x.pos = y.pos)
theorem Zqq {d : Zo} (h : Zem d = 0) : Ztd d := by
 unfold Zem at h
 have all : Zjn d = true ∧ Zmt d = true ∧ d.parts.any Zfs = false ∧ Ze8 (ZeX d) 0 d.edges = false ∧ Ze8 (Zdt d) 0 d.futures = false := by
  revert h
  cases Zjn d <;> cases Zmt d <;> cases d.parts.any Zfs <;> cases Ze8 (ZeX d) 0 d.edges <;> cases Ze8 (Zdt d) 0 d.futures <;> simp
 obtain ⟨_, _, h3, h4, h5⟩ := all
 have he : ∀ (i : Nat) x, d.edges[i]? = some x → ZeX d i x = false := fun i x hx => by
  cases hb : ZeX d i x with
  | false => rfl
  | true => rw [(Zg2 _ _ 0).2 ⟨i, x, hx, by simpa using hb⟩] at h4; cases h4
 have hf : ∀ (i : Nat) x, d.futures[i]? = some x → Zdt d i x = false := fun i x hx => by
  cases hb : Zdt d i x with
  | false => rfl
  | true => rw [(Zg2 _ _ 0).2 ⟨i, x, hx, by simpa using hb⟩] at h5; cases h5
 refine ⟨ZlY h3, fun x hx => ?_, fun x hx => ?_, fun i j x y hij hx hy => ?_⟩
 ·obtain ⟨i, hi⟩ := List.getElem?_of_mem hx
  have := he i x hi
  unfold ZeX at this
  simp only [Bool.or_eq_false_iff, Bool.not_eq_false'] at this
  exact this.1
 ·obtain ⟨i, hi⟩ := List.getElem?_of_mem hx
  have := hf i x hi
  unfold Zdt ZcN at this
  simp only [Bool.or_eq_false_iff, Bool.not_eq_false', Bool.and_eq_true, decide_eq_true_eq] at this
  exact ⟨this.1, this.2.1.1, this.2.1.2⟩
 ·rintro ⟨h1, h2⟩
  have := hf j y hy
  unfold Zdt at this
  simp only [Bool.or_eq_false_iff] at this
  have h6 := List.any_eq_false.1 this.2.2 x (List.mem_of_getElem? (i := i) (by rw [List.getElem?_take_of_lt hij]; exact hx))
  unfold again at h6
  simp [h1, h2] at h6
theorem Zm4 {d : Zo} (g : Ztd d) (u : Int) : Zd7 d.parts u ≤ 100 := by
 unfold Zd7
 split
 ·rename_i p hp; exact (g.w p (List.mem_of_getElem? hp)).2
 ·omega
def ZhZ (fs : List Zq) (z : Int) : Int := match fs[z.toNat]? with | some f => f.pos | none => 0
def ZlG (d : Zo) (u : Int) : List Int := sel (fun f : Zq => f.user == u) (fun i _ => (i : Int)) 0 d.futures
theorem Zix (d : Zo) (u z : Int) : z ∈ ZlG d u ↔ ∃ (i : Nat) (f : Zq), d.futures[i]? = some f ∧ f.user = u ∧ z = (i : Int) := by
 unfold ZlG
 rw [Zoj]
 simp
theorem ZlM (d : Zo) (u : Int) : (ZlG d u).Pairwise (fun x y => x < y) := by
 have : ∀ (l : List Zq) (i : Nat), (sel (fun f : Zq => f.user == u) (fun i _ => (i : Int)) i l).Pairwise (fun x y => x < y) ∧ ∀ z ∈ sel (fun f : Zq => f.user == u) (fun i _ => (i : Int)) i l, (i : Int) ≤ z := by
  intro l
  induction l with
  | nil => intro i; simp [sel]
  | cons x l ih =>
   intro i
   obtain ⟨h1, h2⟩ := ih (i + 1)
   unfold sel
   cases x.user == u with
   | true =>
    simp only [cond_true, List.pairwise_cons, List.mem_cons]
    refine ⟨⟨fun z hz => ?_, h1⟩, ?_⟩
    ·have := h2 z hz; omega
    ·rintro z (rfl | hz)
     ·exact Int.le_refl _
     ·have := h2 z hz; omega
   | false =>
    simp only [cond_false]
    exact ⟨h1, fun z hz => by have := h2 z hz; omega⟩
 exact (this d.futures 0).1
structure Zcp (d : Zo) (u : Int) (r : List Int) : Prop where
 mem : ∀ z, z ∈ r ↔ ∃ (i : Nat) (f : Zq), d.futures[i]? = some f ∧ f.user = u ∧ z = (i : Int)
 rise : r.Pairwise (fun x y => ZhZ d.futures x < ZhZ d.futures y)
theorem Zcp.eq {d : Zo} {u : Int} {r s : List Int} (h1 : Zcp d u r) (h2 : Zcp d u s) : r = s := ZlL (ZhZ d.futures) r s h1.rise h2.rise fun z => by rw [h1.mem, h2.mem]
theorem Zsa {l : List Int} {p q : Int → Int → Prop} (h : l.Pairwise p) (hq : ∀ x y, x ∈ l → y ∈ l → p x y → q x y) : l.Pairwise q := by
 rw [List.pairwise_iff_getElem] at h ⊢
 exact fun i j hi hj hij => hq _ _ (List.getElem_mem hi) (List.getElem_mem hj) (h i j hi hj hij)
theorem Zvy {d : Zo} (g : Ztd d) {u x y : Int} (hx : ∃ (i : Nat) (f : Zq), d.futures[i]? = some f ∧ f.user = u ∧ x = (i : Int)) (hy : ∃ (i : Nat) (f : Zq), d.futures[i]? = some f ∧ f.user = u ∧ y = (i : Int)) (hne : x ≠ y) : ZhZ d.futures x ≠ ZhZ d.futures y := by
 obtain ⟨i, f, h1, h2, rfl⟩ := hx
 obtain ⟨j, e, h3, h4, rfl⟩ := hy
 intro he
 unfold ZhZ at he
 rw [Int.toNat_natCast, Int.toNat_natCast, h1, h3] at he
 simp only at he
 rcases Nat.lt_trichotomy i j with h | h | h
 ·exact g.ne i j f e h h1 h3 ⟨h2.trans h4.symm, he⟩
 ·exact hne (by rw [h])
 ·exact g.ne j i e f h h3 h1 ⟨h4.trans h2.symm, he.symm⟩
theorem Zq8 {d : Zo} (g : Ztd d) : ZoF (fun z0 z1 => Zp z0 z1 d.futures) (fun x y => ZhZ d.futures x - ZhZ d.futures y) (fun z => 0 ≤ z ∧ z.toNat < d.futures.length) := by
 intro x y hx hy
 have b : ∀ z : Int, z.toNat < d.futures.length → ∃ f, d.futures[z.toNat]? = some f ∧ ZhZ d.futures z = f.pos ∧ 1 ≤ f.pos ∧ f.pos ≤ 100 := fun z hz => by
  have hm := List.getElem_mem hz
  have := g.f _ hm
  have hw := Zm4 g d.futures[z.toNat].user
  exact ⟨d.futures[z.toNat], List.getElem?_eq_getElem hz, by unfold ZhZ; rw [List.getElem?_eq_getElem hz], this.2.1, by omega⟩
 obtain ⟨f, f1, f2, f3, f4⟩ := b x hx.2
 obtain ⟨e, e1, e2, e3, e4⟩ := b y hy.2
 show Zp x y d.futures = some (ZhZ d.futures x - ZhZ d.futures y)
 unfold Zp
 rw [Zpu hx.1 f1, Zpu hy.1 e1]
 simp only [Option.bind_some]
 rw [f2, e2, ZdV (by omega) (by omega)]
theorem ZtX (k : Int → Int) : SWO (ltC fun x y => k x - k y) := by
 refine ⟨fun x => ?_, fun x y z h1 h2 => ?_, fun x y z h1 h2 => ?_⟩
 ·show decide (k x - k x < 0) = false
  exact decide_eq_false (by omega)
 ·simp only [ltC, decide_eq_true_eq] at *
  omega
 ·simp only [ltC, decide_eq_false_iff_not] at *
  omega
theorem Znf (d : Zo) (h : ZfU d) (hf : d.futures.length ≤ 1000) (hc : Zem d = 0) (u : Int) : ∃ r, Zeg d u = some r ∧ Zcp d u r := by
 have g := Zqq hc
 have key := ZnY d.futures hf (fun f : Zq => f.user == u) (fun i _ => (i : Int)) (ZcK d u) (fun i x s hi hx => by
   simp only [ZcK, ZeS hi, Za3 hx, Option.bind_some, Zag hi h.f, cond_true]) (fun s => by simp only [ZcK, Zff]; rfl) [] (by simp)
 have hP : ∀ x ∈ ZlG d u, 0 ≤ x ∧ x.toNat < d.futures.length := fun x hx => by
  obtain ⟨i, f, h1, h2, rfl⟩ := (Zix d u x).1 hx
  have := (List.getElem?_eq_some_iff.1 h1).1
  exact ⟨by omega, by simpa using this⟩
 have hlen : (ZlG d u).length ≤ 1000 := by
  unfold ZlG
  rw [Zlr]
  exact Nat.le_trans List.countP_le_length hf
 obtain ⟨r, h1, h2, h3⟩ := Zwj (Zq8 g) (ZtX _) (ZlG d u) hlen hP
 refine ⟨r, ?_, ?_, ?_⟩
 ·unfold Zeg
  rw [ZnM d h, hc]
  simp only [Option.bind_some, bne_self_eq_false, cond_false]
  rw [key, List.nil_append, Option.bind_some]
  show (Zaz (fun z0 z1 => Zp z0 z1 d.futures) (ZlG d u)).bind _ = _
  rw [h1]
  rfl
 ·exact fun z => by rw [h2.mem_iff, Zix]
 ·have nd : r.Pairwise (fun x y => x ≠ y) := (h2.pairwise_iff (fun h => Ne.symm h)).2 ((ZlM d u).imp fun h => by omega)
  refine Zsa (h3.and nd) fun x y hx hy hp => ?_
  have a := (Zix d u x).1 (h2.mem_iff.1 hx)
  have b := (Zix d u y).1 (h2.mem_iff.1 hy)
  have h4 := Zvy g a b hp.2
  have h5 := hp.1
  simp only [ltC, decide_eq_false_iff_not] at h5
  omega
def ZhW (fs : List Zq) (z : Int) : Int := match fs[z.toNat]? with | some f => f.maker | none => 0
def ZoB (d : Zo) (u : Int) (r : List Int) : List Int := sel (fun e : ZI => e.dst == u) (fun _ e => e.src) 0 d.edges ++ r.map (ZhW d.futures)
theorem Zol {γ : Type} (k : γ → Int) : ∀ (l : List γ) (i : Nat), sel (fun _ => true) (fun _ x => k x) i l = l.map k
 | [], _ => rfl
 | x :: l, i => by unfold sel; rw [Zol k l]; rfl
theorem ZpL (d : Zo) (r s : List Int) (hr : r.length ≤ 1000) (hs : s.length ≤ 1000000) (hP : ∀ x ∈ r, 0 ≤ x ∧ x.toNat < d.futures.length) (step : Int × List Int → Option ((Int × List Int) ⊕ List Int))
  (hstep : ∀ t, step t = (bif (decide (t.1 < (r.length : Int))) then (ZC r t.1).bind fun x6 => (ZC d.futures x6).bind fun x7 => bif (Nat.ble (List.length t.2 + 1) lim) then some (.inl ((w64 (t.1 + 1)), (t.2 ++ [x7.maker]))) else none else some (.inr t.2))) :
  lp step (0, s) = some (s ++ r.map (ZhW d.futures)) := by
 rw [← Zol (ZhW d.futures) r 0]
 refine ZnY r hr (fun _ => true) (fun _ x => ZhW d.futures x) step (fun i x s hi hx => ?_) (fun s => ?_) s hs
 ·obtain ⟨p1, p2⟩ := hP x (List.mem_of_getElem? hx)
  rw [hstep]
  have hm : ZhW d.futures x = d.futures[x.toNat].maker := by unfold ZhW; rw [List.getElem?_eq_getElem p2]
  simp only [ZeS hi, Za3 hx, Option.bind_some, Zag hi (show r.length < 9223372036854775808 by omega), cond_true, Zj1 p1 p2, hm]
 ·rw [hstep]
  simp only [Zff, cond_false]
theorem Zr6 {d : Zo} {u : Int} {r : List Int} (h : Zcp d u r) : ∀ x ∈ r, 0 ≤ x ∧ x.toNat < d.futures.length := fun x hx => by
 obtain ⟨i, f, h1, h2, rfl⟩ := (h.mem x).1 hx
 have := (List.getElem?_eq_some_iff.1 h1).1
 exact ⟨by omega, by simpa using this⟩
theorem Zrx {d : Zo} {u : Int} {r : List Int} (h : Zcp d u r) : r.length = (ZlG d u).length := by
 have nd1 : r.Nodup := h.rise.imp fun hp he => by rw [he] at hp; omega
 have nd2 : (ZlG d u).Nodup := (ZlM d u).imp fun hp he => by omega
 exact ((List.perm_ext_iff_of_nodup nd1 nd2).2 fun z => by rw [h.mem, Zix]).length_eq
theorem Zk5 {d : Zo} {u : Int} {r : List Int} (h : Zcp d u r) : r.length ≤ d.futures.length := by
 rw [Zrx h]
 unfold ZlG
 rw [Zlr]
 exact List.countP_le_length
theorem ZqU (d : Zo) (he : d.edges.length ≤ 1000) (u : Int) (step : Int × List Int → Option ((Int × List Int) ⊕ List Int))
  (hstep : ∀ t, step t = (bif (decide (t.1 < (d.edges.length : Int))) then (ZC d.edges t.1).bind fun x2 => bif (x2.dst == u) then bif (Nat.ble (List.length t.2 + 1) lim) then some (.inl ((w64 (t.1 + 1)), (t.2 ++ [x2.src]))) else none else some (.inl ((w64 (t.1 + 1)), t.2)) else some (.inr t.2))) :
  lp step (0, []) = some (sel (fun e : ZI => e.dst == u) (fun _ e => e.src) 0 d.edges) := by
 have key := ZnY d.edges he (fun e : ZI => e.dst == u) (fun _ e => e.src) step (fun i x s hi hx => by
   rw [hstep]
   simp only [ZeS hi, Za3 hx, Option.bind_some, Zag hi (show d.edges.length < 9223372036854775808 by omega), cond_true]) (fun s => by rw [hstep]; simp only [Zff, cond_false]) [] (by simp)
 rwa [List.nil_append] at key
theorem Zni {γ : Type} (p : γ → Bool) (g : Nat → γ → Int) (l : List γ) (i : Nat) : (sel p g i l).length ≤ l.length := by rw [Zlr]; exact List.countP_le_length
theorem ZuD (d : Zo) (h : ZfU d) (he : d.edges.length ≤ 1000) (hf : d.futures.length ≤ 1000) (hc : Zem d = 0) (u : Int) {r : List Int} (hr : Zcp d u r) : Zes d u = some (ZoB d u r) := by
 obtain ⟨r', h1, h2⟩ := Znf d h hf hc u
 have := h2.eq hr
 subst this
 have k1 := ZqU d he u (ZeI d u) (fun t => rfl)
 have k2 := ZpL d r' (sel (fun e : ZI => e.dst == u) (fun _ e => e.src) 0 d.edges) (Nat.le_trans (Zk5 h2) hf) (Nat.le_trans (Zni _ _ _ _) (by omega)) (Zr6 h2) (ZeJ d r') (fun t => rfl)
 unfold Zes ZoB
 rw [ZnM d h, hc]
 simp only [Option.bind_some, bne_self_eq_false, cond_false, k1, h1, k2]
end Go.Proofs.YtnmbdjkbaihicaaDoor
namespace Go.Proofs.YtnmbdjkbaihicaaDoor
open Go Go.Proofs.YtnmbdjkbaihicaaDoorE
set_option linter.unusedVariables false
set_option linter.unusedSimpArgs false
def u32 (n : Int) : Int := n % 4294967296
theorem Zml (n : Int) : 0 ≤ u32 n ∧ u32 n < 4294967296 := by unfold u32; omega
theorem Zmw (n : Int) : IntKind.u32.wrap n = u32 n := by
 unfold IntKind.wrap u32
 rfl
theorem ZiO (n : Int) : Zcs n = some (u32 n) := by
 unfold Zcs
 rw [Zmw]
def ZhE (op : Int) (out v : Int) : Int := if op = 2 then u32 (out + v) else if op = 3 then u32 (out * v) else if op = 4 then (bif decide (out < v) then v else out) else u32 (u32 (out * 31) + v)
theorem Zos {op out v : Int} (h : 0 ≤ out ∧ out < 4294967296) (hv : 0 ≤ v ∧ v < 4294967296) : 0 ≤ ZhE op out v ∧ ZhE op out v < 4294967296 := by
 unfold ZhE
 split
 ·exact Zml _
 split
 ·exact Zml _
 split
 ·cases decide (out < v) <;> simp [h, hv]
 ·exact Zml _
def ZkM (op : Int) : Int → List Int → Int
 | out, [] => out
 | out, v :: l => ZkM op (ZhE op out (u32 v)) l
theorem Zih (op : Int) : ∀ (l : List Int) (out : Int), 0 ≤ out ∧ out < 4294967296 → 0 ≤ ZkM op out l ∧ ZkM op out l < 4294967296
 | [], out, h => h
 | v :: l, out, h => Zih op l _ (Zos h (Zml v))
theorem Zll (op : Int) (l : List Int) (step : Int × Int → Option ((Int × Int) ⊕ Int))
  (h1 : ∀ (i : Nat) (x out : Int), i < l.length → l[i]? = some x → 0 ≤ out ∧ out < 4294967296 → step (out, (i : Int)) = some (.inl (ZhE op out (u32 x), ((i + 1 : Nat) : Int))))
  (h2 : ∀ out, step (out, (l.length : Int)) = some (.inr out)) (out : Int) (ho : 0 ≤ out ∧ out < 4294967296) : lp step (out, 0) = some (ZkM op out l) := by
 have key : ∀ k i : Nat, i + k = l.length → ∀ out, 0 ≤ out ∧ out < 4294967296 → lp step (out, (i : Int)) = some (ZkM op out (l.drop i)) := by
  intro k
  induction k with
  | zero =>
   intro i hi out ho
   have : i = l.length := by omega
   subst this
   rw [Zb8, h2, List.drop_length]
   rfl
  | succ k ih =>
   intro i hi out ho
   have hi' : i < l.length := by omega
   rw [Zb8, h1 i l[i] out hi' (List.getElem?_eq_getElem hi') ho, List.drop_eq_getElem_cons hi']
   exact ih (i + 1) (by omega) _ (Zos ho (Zml _))
 have := key l.length 0 (by omega) out ho
 rwa [List.drop_zero] at this
theorem ZuH (a b : Int) : ZeA a b = some (ZhE 2 a b) := by unfold ZeA; rw [Zmw]; rfl
theorem Zuz (a b : Int) : ZeC a b = some (ZhE 3 a b) := by unfold ZeC; rw [Zmw]; rfl
theorem ZtT (a b : Int) : ZeF a b = some (ZhE 4 a b) := by unfold ZeF; rfl
theorem ZtV (a b : Int) : ZeD a b = some (ZhE 5 a b) := by unfold ZeD; rw [Zmw, Zmw]; rfl
def places (l : List Int) (k : Nat) : List (Int × Int) := (List.range k).map fun i : Nat => ((i : Int), (l[i]?).getD 0)
theorem ZkX (l : List Int) (k : Nat) : places l (k + 1) = places l k ++ [((k : Int), (l[k]?).getD 0)] := by simp [places, List.range_succ]
theorem ZlZ {K W : Type} (eq : K → K → Bool) (k : K) (v : W) : ∀ l : List (K × W), (∀ q ∈ l, eq k q.1 = false) → Zkz eq l k v = l ++ [(k, v)]
 | [], _ => rfl
 | (a, u) :: r, h => by
  unfold Zkz
  rw [h (a, u) (by simp)]
  simp only [cond_false, List.cons_append]
  rw [ZlZ eq k v r fun q hq => h q (by simp [hq])]
theorem Zk0 {K W : Type} (eq : K → K → Bool) (k : K) (z : W) : ∀ l : List (K × W), (∀ q ∈ l, eq k q.1 = false) → Zfm eq l k z = z
 | [], _ => rfl
 | (a, u) :: r, h => by
  unfold Zfm
  rw [h (a, u) (by simp)]
  exact Zk0 eq k z r fun q hq => h q (by simp [hq])
theorem Zjg {K W : Type} (eq : K → K → Bool) (k : K) (z : W) (m : List (K × W)) : ∀ l : List (K × W), (∀ q ∈ l, eq k q.1 = false) → Zfm eq (l ++ m) k z = Zfm eq m k z
 | [], _ => rfl
 | (a, u) :: r, h => by
  rw [List.cons_append]
  conv => lhs; unfold Zfm
  rw [h (a, u) (by simp)]
  exact Zjg eq k z m r fun q hq => h q (by simp [hq])
theorem ZjV {K W : Type} (eq : K → K → Bool) (k : K) (z : W) (m : List (K × W)) : ∀ l : List (K × W), (∃ q ∈ l, eq k q.1 = true) → Zfm eq (l ++ m) k z = Zfm eq l k z
 | [], h => by obtain ⟨q, hq, _⟩ := h; simp at hq
 | (a, u) :: r, h => by
  rw [List.cons_append]
  unfold Zfm
  cases hb : eq k a with
  | true => rfl
  | false =>
   simp only [cond_false]
   refine ZjV eq k z m r ?_
   obtain ⟨q, hq, hk⟩ := h
   rcases List.mem_cons.1 hq with rfl | hq
   ·rw [hb] at hk; cases hk
   ·exact ⟨q, hq, hk⟩
abbrev eqI : Int → Int → Bool := fun ka kb : Int => (ka == kb)
theorem ZkH (l : List Int) (k : Nat) (j : Int) (hj : j < 0 ∨ (k : Int) ≤ j) : ∀ q ∈ places l k, eqI j q.1 = false := by
 intro q hq
 simp only [places, List.mem_map, List.mem_range] at hq
 obtain ⟨i, hi, rfl⟩ := hq
 show (j == (i : Int)) = false
 simp; omega
theorem ZlU (l : List Int) : ∀ (k : Nat) (j : Nat), j < k → Zfm eqI (places l k) (j : Int) 0 = (l[j]?).getD 0
 | k + 1, j, h => by
  rw [ZkX]
  by_cases hk : j = k
  ·subst hk
   rw [Zjg eqI _ _ _ _ (ZkH l j j (.inr (by omega)))]
   show (bif ((j : Int) == (j : Int)) then _ else _) = _
   rw [beq_self_eq_true]; rfl
  ·rw [ZjV eqI _ _ _ _ ⟨((j : Int), (l[j]?).getD 0), by simp only [places, List.mem_map, List.mem_range]; exact ⟨j, by omega, rfl⟩, by simp [eqI]⟩]
   exact ZlU l k j (by omega)
theorem Zuy (l : List Int) (hl : l.length ≤ 1000) : lp (ZdT l) (0, ([] : List (Int × Int))) = some (places l l.length) := by
 have key : ∀ k i : Nat, i + k = l.length → lp (ZdT l) ((i : Int), places l i) = some (places l l.length) := by
  intro k
  induction k with
  | zero =>
   intro i hi
   have : i = l.length := by omega
   subst this
   rw [Zb8]
   simp only [ZdT, Zff, cond_false]
  | succ k ih =>
   intro i hi
   have hi' : i < l.length := by omega
   have hx : l[i]? = some l[i] := List.getElem?_eq_getElem hi'
   have e := ZlZ eqI (i : Int) l[i] (places l i) (ZkH l i i (.inr (by omega)))
   have ih' := ih (i + 1) (by omega)
   rw [ZkX, hx] at ih'
   rw [Zb8]
   simp only [ZdT, ZeS hi', Za3 hx, Option.bind_some, cond_true, Zag hi' (show l.length < 9223372036854775808 by omega), e]
   exact ih'
 exact key l.length 0 (by omega)
def opV (p : ZK) (input vals : List Int) : Int :=
 if p.op = 0 then (if p.arg < 0 ∨ (input.length : Int) ≤ p.arg then 0 else u32 ((input[p.arg.toNat]?).getD 0)) else
 if p.op = 1 then u32 p.arg else if p.op < 0 ∨ 5 < p.op then 0 else ZkM p.op (if p.op = 3 then 1 else if p.op = 5 then 7 else 0) vals
theorem Ztx (p : ZK) (input vals : List Int) (h1 : input.length ≤ 1000) (h2 : vals.length ≤ 1000) : Zhr p input vals = some (opV p input vals) := by
 have hl : vals.length < 9223372036854775808 := by omega
 have fin : ∀ x : Int, 0 ≤ x ∧ x < 4294967296 → (some x).bind (fun r => some (w64 r)) = some x := fun x h => by
  show some (w64 x) = some x
  rw [ZdV (by omega) (by omega)]
 unfold Zhr opV
 by_cases c0 : p.op = 0
 ·rw [c0, beq_self_eq_true, if_pos rfl]
  simp only [cond_true]
  rw [Zuy input h1]
  simp only [Option.bind_some, ZiO]
  by_cases c : p.arg < 0 ∨ (input.length : Int) ≤ p.arg
  ·rw [if_pos c, Zk0 eqI _ _ _ (ZkH input input.length p.arg c)]
   rfl
  ·rw [if_neg c]
   obtain ⟨j, hj⟩ : ∃ j : Nat, p.arg = (j : Int) := ⟨p.arg.toNat, by omega⟩
   rw [hj, ZlU input input.length j (by omega), Int.toNat_natCast]
   exact fin _ (Zml _)
 rw [show (p.op == 0) = false by simpa using c0, if_neg c0]
 by_cases c1 : p.op = 1
 ·rw [c1, if_pos rfl]
  simp only [cond_false, beq_self_eq_true, cond_true, ZiO]
  exact fin _ (Zml _)
 rw [show (p.op == 1) = false by simpa using c1, if_neg c1]
 simp only [cond_false]
 by_cases c2 : p.op < 0
 ·rw [decide_eq_true c2, if_pos (.inl c2)]; rfl
 by_cases c3 : 5 < p.op
 ·rw [decide_eq_false c2, decide_eq_true c3, if_pos (.inr c3)]; rfl
 rw [decide_eq_false c2, decide_eq_false c3, if_neg (by omega), ZdV (by omega) (by omega), decide_eq_true (show 0 ≤ p.op - 2 by omega), decide_eq_true (show p.op - 2 < 4 by omega)]
 have hw : ZgI = some () := rfl
 simp only [cond_false, hw, Option.bind_some, Bool.and_self, cond_true]
 have h4 : p.op = 2 ∨ p.op = 3 ∨ p.op = 4 ∨ p.op = 5 := by omega
 rcases h4 with h | h | h | h <;> rw [h]
 ·have := Zll 2 vals (ZdY vals) (fun i x out hi hx ho => by
   simp only [ZdY, ZeS hi, Za3 hx, Option.bind_some, cond_true, Zag hi hl, ZiO, ZuH]) (fun out => by simp only [ZdY, Zff]; rfl) 0 (by omega)
  show (lp (ZdY vals) (0, 0)).bind _ = _
  rw [this]
  exact fin _ (Zih _ _ _ (by omega))
 ·have := Zll 3 vals (Zdf vals) (fun i x out hi hx ho => by
   simp only [Zdf, ZeS hi, Za3 hx, Option.bind_some, cond_true, Zag hi hl, ZiO, Zuz]) (fun out => by simp only [Zdf, Zff]; rfl) 1 (by omega)
  show (lp (Zdf vals) (1, 0)).bind _ = _
  rw [this]
  exact fin _ (Zih _ _ _ (by omega))
 ·have := Zll 4 vals (Zdi vals) (fun i x out hi hx ho => by
   simp only [Zdi, ZeS hi, Za3 hx, Option.bind_some, cond_true, Zag hi hl, ZiO, ZtT]) (fun out => by simp only [Zdi, Zff]; rfl) 0 (by omega)
  show (lp (Zdi vals) (0, 0)).bind _ = _
  rw [this]
  exact fin _ (Zih _ _ _ (by omega))
 ·have := Zll 5 vals (Zdg vals) (fun i x out hi hx ho => by
   simp only [Zdg, ZeS hi, Za3 hx, Option.bind_some, cond_true, Zag hi hl, ZiO, ZtV]) (fun out => by simp only [Zdg, Zff]; rfl) 7 (by omega)
  show (lp (Zdg vals) (7, 0)).bind _ = _
  rw [this]
  exact fin _ (Zih _ _ _ (by omega))
end Go.Proofs.YtnmbdjkbaihicaaDoor
namespace Go.Proofs.YtnmbdjkbaihicaaDoor
open Go Go.Proofs.YtnmbdjkbaihicaaDoorE
set_option linter.unusedVariables false
set_option linter.unusedSimpArgs false
structure Zd1 (d : Zo) : Prop where
 g : Ztd d
 ins : ∀ b ∈ d.barriers, ∀ q ∈ b.ins, 0 ≤ q ∧ q.toNat < d.parts.length
 outs : ∀ b ∈ d.barriers, ∀ q ∈ b.outs, 0 ≤ q ∧ q.toNat < d.parts.length
 disj : ∀ b ∈ d.barriers, ∀ q ∈ b.ins, q ∉ b.outs
 pl : d.parts.length ≤ 16
 el : d.edges.length ≤ 48
 fl : d.futures.length ≤ 16
 bl : d.barriers.length ≤ 4
 p1 : 1 ≤ d.parts.length
theorem Zr7 {n : Nat} {l : List Int} (h : Zjd n l = true) : ∀ q ∈ l, 0 ≤ q ∧ q.toNat < n := by
 intro q hq
 unfold Zjd at h
 simp only [Bool.and_eq_true, Bool.not_eq_true'] at h
 obtain ⟨i, hi⟩ := List.getElem?_of_mem hq
 have : Znt n l i q = false := by
  cases hb : Znt n l i q with
  | false => rfl
  | true => rw [(Zg2 _ _ 0).2 ⟨i, q, hi, by simpa using hb⟩] at h; exact absurd h.1 (by simp)
 unfold Znt ZcN at this
 simp only [Bool.or_eq_false_iff, Bool.not_eq_false', Bool.and_eq_true, decide_eq_true_eq] at this
 omega
theorem Zhn {d : Zo} (h : Zem d = 0) : Zd1 d := by
 have g := Zqq h
 unfold Zem at h
 have all : Zjn d = true ∧ d.barriers.any (Zek d.parts.length) = false := by
  revert h
  cases Zjn d <;> cases Zmt d <;> cases d.parts.any Zfs <;> cases Ze8 (ZeX d) 0 d.edges <;> cases Ze8 (Zdt d) 0 d.futures <;> cases d.barriers.any (Zek d.parts.length) <;> simp
 have hb : ∀ b ∈ d.barriers, Zjd d.parts.length b.ins = true ∧ Zjd d.parts.length b.outs = true ∧ b.ins.any (Zmz b) = false := fun b hb => by
  have := List.any_eq_false.1 all.2 b hb
  simp only [Zek, Bool.or_eq_true, Bool.not_eq_true', not_or, Bool.not_eq_false, Bool.not_eq_true] at this
  exact this
 have m := all.1
 unfold Zjn ZcN at m
 simp only [Bool.and_eq_true, decide_eq_true_eq, Bool.not_eq_true', decide_eq_false_iff_not] at m
 refine ⟨g, fun b h1 => Zr7 (hb b h1).1, fun b h1 => Zr7 (hb b h1).2.1, fun b h1 q h2 h3 => ?_, by omega, by omega, by omega, by omega, by omega⟩
 have := List.any_eq_false.1 (hb b h1).2.2 q h2
 unfold Zmz at this
 exact this (List.any_eq_true.2 ⟨q, h3, by simp⟩)
def inR (d : Zo) (p : Int) : Prop := 0 ≤ p ∧ p.toNat < d.parts.length
theorem Zd1.src {d : Zo} (g : Zd1 d) {e : ZI} (h : e ∈ d.edges) : inR d e.src := (Zmh (g.g.e e h)).1
theorem Zd1.dst {d : Zo} (g : Zd1 d) {e : ZI} (h : e ∈ d.edges) : inR d e.dst := (Zmh (g.g.e e h)).2.1
theorem Zd1.maker {d : Zo} (g : Zd1 d) {f : Zq} (h : f ∈ d.futures) : inR d f.maker := (Zmh (g.g.f f h).1).1
theorem Zd1.user {d : Zo} (g : Zd1 d) {f : Zq} (h : f ∈ d.futures) : inR d f.user := (Zmh (g.g.f f h).1).2.1
theorem Zd1.short {d : Zo} (g : Zd1 d) (hs : ∀ b ∈ d.barriers, Zmc b) : ZfU d := ⟨by have := g.pl; omega, by have := g.el; omega, by have := g.fl; omega, by have := g.bl; omega, hs⟩
def wk (s : Zs) (p : Int) : Int := match s.work[p.toNat]? with | some x => x | none => 0
def vl (s : Zs) (p : Int) : Int := match s.vals[p.toNat]? with | some x => x | none => 0
def ZcV (d : Zo) (s : Zs) (p : Int) : Bool := wk s p == Zd7 d.parts p
structure OKS (d : Zo) (s : Zs) : Prop where
 w : s.work.length = d.parts.length
 v : s.vals.length = d.parts.length
theorem ZkL {d : Zo} {s : Zs} (o : OKS d s) {p : Int} (h : inR d p) : ZC s.work p = some (wk s p) := by
 have hl : p.toNat < s.work.length := by rw [o.w]; exact h.2
 unfold wk
 rw [List.getElem?_eq_getElem hl]
 exact Zj1 h.1 hl
theorem Ztz {d : Zo} {s : Zs} (o : OKS d s) {p : Int} (h : inR d p) : ZC s.vals p = some (vl s p) := by
 have hl : p.toNat < s.vals.length := by rw [o.v]; exact h.2
 unfold vl
 rw [List.getElem?_eq_getElem hl]
 exact Zj1 h.1 hl
theorem Zmi {d : Zo} {p : Int} (h : inR d p) : ∃ x, ZC d.parts p = some x ∧ d.parts[p.toNat]? = some x ∧ x.work = Zd7 d.parts p := by
 obtain ⟨h0, hl⟩ := h
 refine ⟨d.parts[p.toNat]'hl, Zj1 h0 hl, List.getElem?_eq_getElem hl, ?_⟩
 unfold Zd7
 rw [List.getElem?_eq_getElem hl]
theorem ZjG {d : Zo} {s : Zs} (o : OKS d s) {p : Int} (h : inR d p) : ZaX d s p = some (ZcV d s p) := by
 obtain ⟨x, h1, _, h3⟩ := Zmi h
 unfold ZaX ZcV
 rw [ZkL o h, h1]
 simp only [Option.bind_some]
 rw [h3]
 cases (wk s p == Zd7 d.parts p) <;> rfl
def Znq (d : Zo) (s : Zs) (p : Int) (e : ZI) : Bool := (e.dst == p) && !ZcV d s e.src
def Zkx (d : Zo) (s : Zs) (p : Int) (b : Zm) : Bool := (b.outs.any fun x => p == x) && b.ins.any fun q => !ZcV d s q
def ZgK (d : Zo) (s : Zs) (p : Int) : Bool := !(d.edges.any (Znq d s p)) && !(d.barriers.any (Zkx d s p))
theorem Zpg {d : Zo} {s : Zs} (g : Zd1 d) (hs : ∀ b ∈ d.barriers, Zmc b) (o : OKS d s) (p : Int) : Zdp d s p = some (ZgK d s p) := by
 have sh := g.short hs
 have k1 := Zew d.edges (Zco d s p) (fun _ => Znq d s p) (fun _ _ => .inl ()) (.inr ()) (fun i x hi hx => by
  simp only [Zco, ZeS hi, Za3 hx, Option.bind_some, Zag hi sh.e, cond_true, Znq, ZjG o (g.src (List.mem_of_getElem? hx))]
  cases (x.dst == p) <;> cases ZcV d s x.src <;> rfl) (by simp only [Zco, Zff]; rfl)
 have k3 : ∀ b ∈ d.barriers, lp (ZbY d s b) 0 = some (bif b.ins.any (fun q => !ZcV d s q) then .inl () else .inr ()) := fun b hb => by
  have := Zew b.ins (ZbY d s b) (fun _ q => !ZcV d s q) (fun _ _ => .inl ()) (.inr ()) (fun i x hi hx => by
   simp only [ZbY, ZeS hi, Za3 hx, Option.bind_some, Zag hi (hs b hb).1, cond_true, ZjG o (g.ins b hb x (List.mem_of_getElem? hx))]
   cases ZcV d s x <;> rfl) (by simp only [ZbY, Zff]; rfl)
  rw [this, ZcS, Zhz]
 have k2 := Zew d.barriers (Zcq d s p) (fun _ => Zkx d s p) (fun _ _ => .inl ()) (.inr ()) (fun i x hi hx => by
  have hb := List.mem_of_getElem? hx
  simp only [Zcq, ZeS hi, Za3 hx, Option.bind_some, Zag hi sh.b, cond_true, Zkx, Zoz _ _ (hs x hb).2, k3 x hb]
  cases (x.outs.any fun y => p == y) <;> cases (x.ins.any fun q => !ZcV d s q) <;> rfl) (by simp only [Zcq, Zff]; rfl)
 unfold Zdp ZgK
 rw [k1, ZcS, Zhz]
 cases d.edges.any (Znq d s p) with
 | true => rfl
 | false =>
  simp only [cond_false, Option.bind_some]
  rw [k2, ZcS, Zhz]
  cases d.barriers.any (Zkx d s p) <;> rfl
theorem Znm {γ R : Type} (q : γ → Bool) (f : γ → R) (fin : R) : ∀ (l : List γ) (i : Nat), ZkK (fun _ => q) (fun _ x => f x) fin i l = (match l.find? q with | some x => f x | none => fin)
 | [], _ => rfl
 | x :: l, i => by
  unfold ZkK
  rw [List.find?_cons]
  cases q x with
  | true => rfl
  | false => exact Znm q f fin l (i + 1)
def Zk8 (s : Zs) (p : Int) (f : Zq) : Bool := (f.user == p) && (f.pos == wk s p)
def Zr0 (d : Zo) (s : Zs) (p : Int) : Bool := match d.futures.find? (Zk8 s p) with | some f => ZcV d s f.maker | none => true
def Zh5 (d : Zo) (s : Zs) (p : Int) : Bool := !ZcV d s p && ((!(wk s p == 0) || ZgK d s p) && Zr0 d s p)
theorem Zno {d : Zo} {s : Zs} (g : Zd1 d) (o : OKS d s) {p : Int} (hp : inR d p) (step : Int → Option (Int ⊕ (Unit ⊕ Unit))) (hstep : step = Zcl d s p) :
  ((lp step 0).bind fun r => match r with | .inl _ => some true | .inr _ => some false) = some (Zr0 d s p) := by
 subst hstep
 have k := Zew d.futures (Zcl d s p) (fun _ => Zk8 s p) (fun _ f => bif ZcV d s f.maker then (.inl () : Unit ⊕ Unit) else .inr ()) (.inl ()) (fun i x hi hx => by
  simp only [Zcl, ZeS hi, Za3 hx, Option.bind_some, Zag hi (show d.futures.length < 9223372036854775808 by have := g.fl; omega), cond_true, Zk8, ZkL o hp, ZjG o (g.maker (List.mem_of_getElem? hx))]
  cases (x.user == p) <;> cases (x.pos == wk s p) <;> cases ZcV d s x.maker <;> rfl) (by simp only [Zcl, Zff]; rfl)
 rw [k, Znm (Zk8 s p) (fun f => bif ZcV d s f.maker then (.inl () : Unit ⊕ Unit) else .inr ())]
 unfold Zr0
 cases d.futures.find? (Zk8 s p) with
 | none => rfl
 | some f => dsimp only; cases ZcV d s f.maker <;> rfl
theorem ZsR {d : Zo} {s : Zs} (g : Zd1 d) (hs : ∀ b ∈ d.barriers, Zmc b) (o : OKS d s) {p : Int} (hp : inR d p) : ZdA d s p = some (Zh5 d s p) := by
 unfold ZdA Zh5
 rw [ZjG o hp, ZkL o hp, Zpg g hs o]
 simp only [Option.bind_some]
 cases ZcV d s p with
 | true => rfl
 | false =>
  simp only [cond_false, Bool.not_false, Bool.true_and]
  cases (wk s p == 0) with
  | true =>
   cases ZgK d s p with
   | false => rfl
   | true =>
    simp only [cond_true, Bool.not_true, Bool.false_or, Bool.true_and]
    exact Zno g o hp _ rfl
  | false =>
   simp only [cond_false, Bool.not_false, Bool.true_or, Bool.true_and]
   exact Zno g o hp _ rfl
def Zrp (d : Zo) (i : Nat) (x : Int) : Bool := decide (x < 0) || decide (Zd7 d.parts (i : Int) < x)
def Zq0 (d : Zo) (s : Zs) (i : Nat) (x : Int) : Bool := decide (0 < x) && !ZgK d s (i : Int)
def Zpk (d : Zo) (s : Zs) (f : Zq) : Bool := decide (f.pos < wk s f.user) && !ZcV d s f.maker
def ZiB (d : Zo) (s : Zs) : Bool :=
 decide (s.work.length = d.parts.length) && (decide (s.vals.length = d.parts.length) && (!(Ze8 (Zrp d) 0 s.work) && (!(Ze8 (Zq0 d s) 0 s.work) && !(d.futures.any (Zpk d s)))))
theorem Zkq {d : Zo} {i : Nat} (h : i < d.parts.length) : inR d (i : Int) := ⟨by omega, by simpa using h⟩
theorem ZtM {d : Zo} {s : Zs} (g : Zd1 d) (hs : ∀ b ∈ d.barriers, Zmc b) : Zef d s = some (ZiB d s) := by
 unfold Zef ZiB
 have ne : ∀ a b : Nat, (((a : Int)) != (b : Int)) = !decide (a = b) := fun a b => by
  by_cases h : a = b
  ·rw [decide_eq_true h, h]; simp
  ·rw [decide_eq_false h]
   have : ((a : Int)) ≠ (b : Int) := by omega
   simp [bne_iff_ne.2 this]
 rw [ne, ne]
 by_cases h1 : s.work.length = d.parts.length
 case neg => rw [decide_eq_false h1]; rfl
 by_cases h2 : s.vals.length = d.parts.length
 case neg => rw [decide_eq_true h1, decide_eq_false h2]; rfl
 have o : OKS d s := ⟨h1, h2⟩
 have hl : s.work.length < 9223372036854775808 := by have := g.pl; omega
 rw [decide_eq_true h1, decide_eq_true h2]
 have k0 := Zew s.work (ZcH d s) (Zrp d) (fun _ _ => .inl ()) (.inr ()) (fun i x hi hx => by
  obtain ⟨q, q1, _, q3⟩ := Zmi (Zkq (d := d) (i := i) (by omega))
  simp only [ZcH, ZeS hi, Za3 hx, Option.bind_some, Zag hi hl, cond_true, Zrp, q1, q3]
  cases decide (x < 0) <;> cases decide (Zd7 d.parts (i : Int) < x) <;> rfl) (by simp only [ZcH, Zff]; rfl)
 have k1 := Zew s.work (ZcI d s) (Zq0 d s) (fun _ _ => .inl ()) (.inr ()) (fun i x hi hx => by
  simp only [ZcI, ZeS hi, Za3 hx, Option.bind_some, Zag hi hl, cond_true, Zq0, Zpg g hs o]
  cases decide (0 < x) <;> cases ZgK d s (i : Int) <;> rfl) (by simp only [ZcI, Zff]; rfl)
 have k2 : ∀ f ∈ d.futures, Zb5 f s.work s.vals d.period d.deadline d.parts d.edges d.futures d.barriers = some (Zpk d s f) := fun f hf => by
  unfold Zb5 Zpk
  rw [ZkL o (g.user hf)]
  have := ZjG o (g.maker hf)
  simp only [Option.bind_some]
  show (bif decide (f.pos < wk s f.user) then (ZaX d s f.maker).bind _ else _) = _
  rw [this]
  cases decide (f.pos < wk s f.user) <;> cases ZcV d s f.maker <;> rfl
 simp only [Bool.not_true, cond_false, Bool.true_and]
 rw [k0, ZcS]
 cases Ze8 (Zrp d) 0 s.work with
 | true => rfl
 | false =>
  simp only [cond_false, Option.bind_some, Bool.not_false, Bool.true_and]
  rw [k1, ZcS]
  cases Ze8 (Zq0 d s) 0 s.work with
  | true => rfl
  | false =>
   simp only [cond_false, Option.bind_some, Bool.not_false, Bool.true_and]
   rw [Zhs d.futures _ (Zpk d s) k2 (by have := g.fl; omega)]
   cases d.futures.any (Zpk d s) <;> rfl
noncomputable def Zeq (d : Zo) (s : Zs) : Int := bif (Zem d == 0) then (bif ZiB d s then 0 else 90) else Zem d
theorem Zke (d : Zo) (s : Zs) (h : ZfU d) : Zcz d s = some (Zeq d s) := by
 unfold Zcz Zeq
 rw [ZnM d h]
 simp only [Option.bind_some]
 by_cases hc : Zem d = 0
 ·rw [hc, ZtM (Zhn hc) h.i]
  simp only [beq_self_eq_true, cond_true, Option.bind_some]
  cases ZiB d s <;> rfl
 ·rw [show (Zem d == 0) = false by simpa using hc]
  rfl
def pick (p : Nat → Bool) (n : Nat) : List Int := ((List.range n).filter p).map fun i : Nat => (i : Int)
theorem ZoA {p : Nat → Bool} {n : Nat} {z : Int} : z ∈ pick p n ↔ ∃ i : Nat, i < n ∧ p i = true ∧ z = (i : Int) := by
 unfold pick
 simp only [List.mem_map, List.mem_filter, List.mem_range]
 constructor
 ·rintro ⟨i, ⟨h1, h2⟩, rfl⟩; exact ⟨i, h1, h2, rfl⟩
 ·rintro ⟨i, h1, h2, rfl⟩; exact ⟨i, ⟨h1, h2⟩, rfl⟩
theorem Zgo (p : Nat → Bool) (n : Nat) : (pick p n).length ≤ n := by
 unfold pick
 rw [List.length_map]
 exact Nat.le_trans (List.length_filter_le _ _) (by simp)
theorem Zq6 (p : Nat → Bool) (n : Nat) : pick p (n + 1) = pick p n ++ (bif p n then [(n : Int)] else []) := by
 unfold pick
 rw [List.range_succ, List.filter_append, List.map_append]
 cases h : p n <;> simp [h]
theorem Zua {γ : Type} (l : List γ) (hl : l.length ≤ 1000) (p : Nat → Bool) (step : Int × List Int → Option ((Int × List Int) ⊕ List Int))
  (h1 : ∀ i (s : List Int), i < l.length → step ((i : Int), s) = bif p i then (bif Nat.ble (s.length + 1) lim then some (.inl (((i + 1 : Nat) : Int), s ++ [(i : Int)])) else none) else some (.inl (((i + 1 : Nat) : Int), s)))
  (h2 : ∀ s, step ((l.length : Int), s) = some (.inr s)) : lp step (0, []) = some (pick p l.length) := by
 have key : ∀ k i : Nat, i + k = l.length → lp step ((i : Int), pick p i) = some (pick p l.length) := by
  intro k
  induction k with
  | zero =>
   intro i hi
   have : i = l.length := by omega
   subst this
   rw [Zb8, h2]
  | succ k ih =>
   intro i hi
   have ih' := ih (i + 1) (by omega)
   rw [Zq6] at ih'
   have hb := Zgo p i
   rw [Zb8, h1 i _ (by omega)]
   cases hp : p i with
   | true =>
    rw [hp] at ih'
    rw [Zig (show (pick p i).length + 1 ≤ 1073741824 by omega)]
    exact ih'
   | false =>
    rw [hp] at ih'
    simp only [cond_false, List.append_nil] at ih' ⊢
    exact ih'
 exact key l.length 0 (by omega)
def Zrk (d : Zo) (s : Zs) : List Int := pick (fun i => Zh5 d s (i : Int)) d.parts.length
theorem Zxz {d : Zo} {s : Zs} (g : Zd1 d) (hs : ∀ b ∈ d.barriers, Zmc b) (o : OKS d s) : Zfc d s = some (Zrk d s) := by
 have hl : d.parts.length < 9223372036854775808 := by have := g.pl; omega
 have := Zua d.parts (by have := g.pl; omega) (fun i => Zh5 d s (i : Int)) (Zds d s) (fun i acc hi => by
  simp only [Zds, ZeS hi, cond_true, ZsR g hs o (Zkq hi), Option.bind_some, Zag hi hl]) (fun acc => by simp only [Zds, Zff]; rfl)
 unfold Zfc Zrk
 rw [this]; rfl
noncomputable def Zfo (d : Zo) (u : Int) : List Int := @dite _ (∃ r, Zcp d u r) (Classical.propDecidable _) (fun h => Classical.choose h) fun _ => []
theorem ZnS {d : Zo} {u : Int} {r : List Int} (h : Zcp d u r) : Zfo d u = r := by
 unfold Zfo
 rw [dif_pos ⟨r, h⟩]
 exact (Classical.choose_spec (⟨r, h⟩ : ∃ r, Zcp d u r)).eq h
noncomputable def Zft (d : Zo) (u : Int) : List Int := ZoB d u (Zfo d u)
theorem Zrq (d : Zo) (h : ZfU d) (hc : Zem d = 0) (u : Int) : Zes d u = some (Zft d u) ∧ Zcp d u (Zfo d u) := by
 have g := Zhn hc
 obtain ⟨r, h1, h2⟩ := Znf d h (by have := g.fl; omega) hc u
 have := ZuD d h (by have := g.el; omega) (by have := g.fl; omega) hc u h2
 unfold Zft
 rw [ZnS h2]
 exact ⟨this, h2⟩
theorem ZoG {d : Zo} (g : Zd1 d) {u : Int} (ht : Zcp d u (Zfo d u)) {q : Int} (hq : q ∈ Zft d u) : (∃ e ∈ d.edges, e.dst = u ∧ q = e.src) ∨ (∃ f ∈ d.futures, f.user = u ∧ q = f.maker) := by
 unfold Zft ZoB at hq
 rcases List.mem_append.1 hq with h | h
 ·obtain ⟨j, x, h1, h2, h3⟩ := (Zoj _ _ _ _ _).1 h
  exact .inl ⟨x, List.mem_of_getElem? h1, by simpa using h2, h3⟩
 ·obtain ⟨z, h1, rfl⟩ := List.mem_map.1 h
  obtain ⟨i, f, h2, h3, rfl⟩ := (ht.mem z).1 h1
  refine .inr ⟨f, List.mem_of_getElem? h2, h3, ?_⟩
  unfold ZhW
  rw [Int.toNat_natCast, h2]
theorem ZpF {d : Zo} (g : Zd1 d) {u : Int} (ht : Zcp d u (Zfo d u)) {q : Int} (hq : q ∈ Zft d u) : inR d q := by
 rcases ZoG g ht hq with ⟨e, h1, _, rfl⟩ | ⟨f, h1, _, rfl⟩
 ·exact g.src h1
 ·exact g.maker h1
theorem Zk1 {d : Zo} (g : Zd1 d) {u : Int} (ht : Zcp d u (Zfo d u)) : (Zft d u).length ≤ 1000 := by
 unfold Zft ZoB
 rw [List.length_append, List.length_map]
 have h1 := Zni (fun e : ZI => e.dst == u) (fun _ e => e.src) d.edges 0
 have h2 := Zk5 ht
 have := g.el; have := g.fl
 omega
theorem Zq1 (s : Zs) (l : List Int) (hl : l.length ≤ 1000) (hP : ∀ x ∈ l, ZC s.vals x = some (vl s x)) (step : Int × List Int → Option ((Int × List Int) ⊕ List Int))
  (hstep : ∀ t, step t = (bif (decide (t.1 < (l.length : Int))) then (ZC l t.1).bind fun x6 => (ZC s.vals x6).bind fun x7 => bif (Nat.ble (List.length t.2 + 1) lim) then some (.inl ((w64 (t.1 + 1)), (t.2 ++ [x7]))) else none else some (.inr t.2))) :
  lp step (0, []) = some (l.map (vl s)) := by
 have := ZnY l hl (fun _ => true) (fun _ x => vl s x) step (fun i x acc hi hx => by
  rw [hstep]
  simp only [ZeS hi, Za3 hx, Option.bind_some, Zag hi (show l.length < 9223372036854775808 by omega), cond_true, hP x (List.mem_of_getElem? hx)]) (fun acc => by
  rw [hstep]
  simp only [Zff, cond_false]) [] (by simp)
 rw [Zol (vl s) l 0, List.nil_append] at this
 exact this
def ZpE (d : Zo) (p : Int) : ZK := match d.parts[p.toNat]? with | some x => x | none => ⟨0, 0, 0⟩
def more (s : Zs) (p : Int) : Zs := ⟨s.work.set p.toNat (wk s p + 1), s.vals⟩
noncomputable def Zu0 (d : Zo) (input : List Int) (s : Zs) (p : Int) : Int := opV (ZpE d p) input ((Zft d p).map (vl s))
noncomputable def ZeP (d : Zo) (input : List Int) (s : Zs) (p : Int) : Zs :=
 ⟨s.work.set p.toNat (wk s p + 1), bif ZcV d (more s p) p then s.vals.set p.toNat (Zu0 d input s p) else s.vals⟩
theorem OKS.more {d : Zo} {s : Zs} (o : OKS d s) (p : Int) : OKS d (more s p) := ⟨by unfold Proofs.YtnmbdjkbaihicaaDoor.more; rw [List.length_set]; exact o.w, o.v⟩
theorem OKS.step {d : Zo} {s : Zs} (o : OKS d s) (input : List Int) (p : Int) : OKS d (ZeP d input s p) := by
 refine ⟨by unfold ZeP; rw [List.length_set]; exact o.w, ?_⟩
 unfold ZeP
 dsimp only
 cases ZcV d (Proofs.YtnmbdjkbaihicaaDoor.more s p) p
 ·exact o.v
 ·simp only [cond_true, List.length_set]; exact o.v
theorem Zqr {l : List Int} (h1 : 0 < l.length) (h2 : l.length ≤ 1000) : Zbe l = some () := by
 unfold Zbe
 rw [show Nat.blt 0 l.length = true by simp [Nat.blt]; omega, Zig (show l.length ≤ 1073741824 by omega)]
 rfl
theorem ZvL {d : Zo} {s : Zs} (hc : Zem d = 0) (hs : ∀ b ∈ d.barriers, Zmc b) (o : OKS d s) {p : Int} (hp : inR d p) (input : List Int) (hi : input.length ≤ 1000) (hw : 0 ≤ wk s p ∧ wk s p ≤ 100) :
  Zd4 d input s p = some (ZeP d input s p) := by
 have g := Zhn hc
 have sh := g.short hs
 obtain ⟨f1, f2⟩ := Zrq d sh hc p
 have g1 := g.p1; have g2 := g.pl
 have hlw : 0 < s.work.length ∧ s.work.length ≤ 1000 := by rw [o.w]; omega
 have hlv : 0 < s.vals.length ∧ s.vals.length ≤ 1000 := by rw [o.v]; omega
 obtain ⟨x, q1, q2, _⟩ := Zmi hp
 have hx : ZpE d p = x := by unfold ZpE; rw [q2]
 unfold Zd4 ZeP Zu0
 rw [Zqr hlw.1 hlw.2, Zqr hlv.1 hlv.2, ZkL o hp]
 simp only [Option.bind_some]
 rw [ZdV (n := wk s p + 1) (by omega) (by omega)]
 have hd := ZjG (o.more p) hp
 unfold more at hd
 rw [hd]
 simp only [Option.bind_some]
 show (bif ZcV d (more s p) p then _ else _) = some (Zs.mk (s.work.set p.toNat (wk s p + 1)) (bif ZcV d (more s p) p then _ else _))
 cases ZcV d (more s p) p with
 | false => rfl
 | true =>
  simp only [cond_true]
  rw [f1]
  simp only [Option.bind_some]
  rw [Zq1 s (Zft d p) (Zk1 g f2) (fun y hy => Ztz o (ZpF g f2 hy)) (Zet s (Zft d p)) (fun t => rfl)]
  simp only [Option.bind_some]
  rw [q1]
  simp only [Option.bind_some]
  rw [Ztx x input _ hi (by rw [List.length_map]; exact Zk1 g f2), Ztz o hp]
  simp only [Option.bind_some]
  rw [hx]
noncomputable def goS (d : Zo) (input : List Int) (s : Zs) (p : Int) : Zs × Int :=
 bif (Zeq d s == 0) then (bif decide (p < 0) || decide ((d.parts.length : Int) ≤ p) then (⟨[], []⟩, 91) else bif ZcV d s p then (⟨[], []⟩, 92) else bif Zh5 d s p then (ZeP d input s p, 0) else (⟨[], []⟩, 93)) else (⟨[], []⟩, Zeq d s)
theorem ZkG {d : Zo} {s : Zs} (h : Zeq d s = 0) : Zem d = 0 ∧ ZiB d s = true := by
 unfold Zeq at h
 by_cases hc : Zem d = 0
 ·refine ⟨hc, ?_⟩
  rw [hc] at h
  cases hr : ZiB d s with
  | true => rfl
  | false => rw [hr] at h; simp at h
 ·rw [show (Zem d == 0) = false by simpa using hc] at h
  exact absurd h hc
def Zio (d : Zo) (s : Zs) (p : Int) : Prop := wk s p = Zd7 d.parts p
def Zkt (d : Zo) (s : Zs) (p : Int) : Prop := (∀ e ∈ d.edges, e.dst = p → Zio d s e.src) ∧ (∀ b ∈ d.barriers, p ∈ b.outs → ∀ q ∈ b.ins, Zio d s q)
def ZvM (d : Zo) (s : Zs) (p : Int) : Prop := ¬ Zio d s p ∧ (wk s p = 0 → Zkt d s p) ∧ (∀ f ∈ d.futures, f.user = p → f.pos = wk s p → Zio d s f.maker)
structure Zom (d : Zo) (s : Zs) : Prop where
 o : OKS d s
 rng : ∀ p, inR d p → 0 ≤ wk s p ∧ wk s p ≤ Zd7 d.parts p
 beg : ∀ p, inR d p → 0 < wk s p → Zkt d s p
 fut : ∀ f ∈ d.futures, f.pos < wk s f.user → Zio d s f.maker
theorem ZfG {d : Zo} {s : Zs} {p : Int} : ZcV d s p = true ↔ Zio d s p := by unfold ZcV Zio; simp
theorem Zsx {d : Zo} {s : Zs} {p : Int} (h : ¬ Zio d s p) : ZcV d s p = false := by
 cases hb : ZcV d s p with
 | false => rfl
 | true => exact absurd (ZfG.1 hb) h
theorem Zjw {d : Zo} {s : Zs} {p : Int} : ZgK d s p = true ↔ Zkt d s p := by
 have e1 : ∀ e : ZI, Znq d s p e = true ↔ (e.dst = p ∧ ¬ Zio d s e.src) := fun e => by
  unfold Znq
  rw [← ZfG]
  cases ZcV d s e.src <;> simp
 have e2 : ∀ b : Zm, Zkx d s p b = true ↔ (p ∈ b.outs ∧ ∃ q ∈ b.ins, ¬ Zio d s q) := fun b => by
  unfold Zkx
  rw [Bool.and_eq_true, List.any_eq_true, List.any_eq_true]
  constructor
  ·rintro ⟨⟨x, h1, h2⟩, ⟨q, h3, h4⟩⟩
   have h2 := eq_of_beq h2
   subst h2
   exact ⟨h1, q, h3, fun h => by rw [ZfG.2 h] at h4; cases h4⟩
  ·rintro ⟨h1, q, h3, h4⟩
   exact ⟨⟨p, h1, by simp⟩, ⟨q, h3, by cases h : ZcV d s q with | false => rfl | true => exact absurd (ZfG.1 h) h4⟩⟩
 unfold ZgK Zkt
 rw [Bool.and_eq_true, Bool.not_eq_true', Bool.not_eq_true', List.any_eq_false, List.any_eq_false]
 constructor
 ·rintro ⟨h1, h2⟩
  exact ⟨fun e he h => Classical.byContradiction fun hn => h1 e he ((e1 e).2 ⟨h, hn⟩), fun b hb h q hq => Classical.byContradiction fun hn => h2 b hb ((e2 b).2 ⟨h, q, hq, hn⟩)⟩
 ·rintro ⟨h1, h2⟩
  exact ⟨fun e he h => by obtain ⟨a, b⟩ := (e1 e).1 h; exact b (h1 e he a), fun b hb h => by obtain ⟨a, q, c, f⟩ := (e2 b).1 h; exact f (h2 b hb a q c)⟩
theorem ZuC {d : Zo} {s : Zs} (g : Zd1 d) {p : Int} : Zr0 d s p = true ↔ (∀ f ∈ d.futures, f.user = p → f.pos = wk s p → Zio d s f.maker) := by
 unfold Zr0
 cases hf : d.futures.find? (Zk8 s p) with
 | none =>
  simp only [true_iff]
  intro f h1 h2 h3
  have := List.find?_eq_none.1 hf f h1
  unfold Zk8 at this
  simp [h2, h3] at this
 | some f =>
  have m := List.mem_of_find?_eq_some hf
  have q := List.find?_some hf
  unfold Zk8 at q
  simp only [Bool.and_eq_true, beq_iff_eq] at q
  dsimp only
  rw [ZfG]
  constructor
  ·intro h f' h1 h2 h3
   have : f' = f := by
    obtain ⟨i, hi⟩ := List.getElem?_of_mem m
    obtain ⟨j, hj⟩ := List.getElem?_of_mem h1
    rcases Nat.lt_trichotomy i j with hl | hl | hl
    ·exact absurd ⟨q.1.trans h2.symm, q.2.trans h3.symm⟩ (g.g.ne i j f f' hl hi hj)
    ·subst hl; rw [hi] at hj; exact (Option.some.inj hj).symm
    ·exact absurd ⟨h2.trans q.1.symm, h3.trans q.2.symm⟩ (g.g.ne j i f' f hl hj hi)
   rw [this]; exact h
  ·intro h
   exact h f m q.1 q.2
theorem ZrU {d : Zo} {s : Zs} (g : Zd1 d) {p : Int} : Zh5 d s p = true ↔ ZvM d s p := by
 unfold Zh5 ZvM
 simp only [Bool.and_eq_true, Bool.not_eq_true', Bool.or_eq_true, ZuC g, Zjw]
 constructor
 ·rintro ⟨h1, h2, h3⟩
  refine ⟨fun h => (by rw [ZfG.2 h] at h1; cases h1), fun h => ?_, h3⟩
  rcases h2 with h2 | h2
  ·rw [h] at h2; simp at h2
  ·exact h2
 ·rintro ⟨h1, h2, h3⟩
  refine ⟨Zsx h1, ?_, h3⟩
  by_cases h : wk s p = 0
  ·exact .inr (h2 h)
  ·left; simpa using h
theorem ZpW {γ : Type} {p : Nat → γ → Bool} {l : List γ} : Ze8 p 0 l = false ↔ ∀ (i : Nat) x, l[i]? = some x → p i x = false := by
 constructor
 ·intro h i x hx
  cases hb : p i x with
  | false => rfl
  | true => rw [(Zg2 _ _ 0).2 ⟨i, x, hx, by simpa using hb⟩] at h; cases h
 ·intro h
  cases hb : Ze8 p 0 l with
  | false => rfl
  | true =>
   obtain ⟨j, x, h1, h2⟩ := (Zg2 _ _ 0).1 hb
   rw [Nat.zero_add, h j x h1] at h2; cases h2
theorem ZpJ {s : Zs} {i : Nat} {x : Int} (h : s.work[i]? = some x) : wk s (i : Int) = x := by unfold wk; rw [Int.toNat_natCast, h]
theorem ZiU {d : Zo} {s : Zs} : ZiB d s = true ↔ Zom d s := by
 unfold ZiB
 simp only [Bool.and_eq_true, decide_eq_true_eq, Bool.not_eq_true', ZpW]
 have ex : ∀ {p : Int}, OKS d s → inR d p → ∃ i : Nat, p = (i : Int) ∧ s.work[i]? = some (wk s p) := fun {p} o hp => by
  have hl : p.toNat < s.work.length := by rw [o.w]; exact hp.2
  refine ⟨p.toNat, by have := hp.1; omega, ?_⟩
  unfold wk
  rw [List.getElem?_eq_getElem hl]
 constructor
 ·rintro ⟨h1, h2, h3, h4, h5⟩
  refine ⟨⟨h1, h2⟩, fun p hp => ?_, fun p hp hw => ?_, fun f hf hw => ?_⟩
  ·obtain ⟨i, e, hi⟩ := ex ⟨h1, h2⟩ hp
   have := h3 i _ hi
   unfold Zrp at this
   simp only [Bool.or_eq_false_iff, decide_eq_false_iff_not] at this
   rw [e] at this ⊢
   omega
  ·obtain ⟨i, e, hi⟩ := ex ⟨h1, h2⟩ hp
   have := h4 i _ hi
   unfold Zq0 at this
   rw [decide_eq_true hw, ← e] at this
   exact Zjw.1 (by simpa using this)
  ·have := List.any_eq_false.1 h5 f hf
   unfold Zpk at this
   rw [decide_eq_true hw] at this
   exact ZfG.1 (by simpa using this)
 ·rintro ⟨o, h3, h4, h5⟩
  refine ⟨o.w, o.v, fun i x hx => ?_, fun i x hx => ?_, List.any_eq_false.2 fun f hf => ?_⟩
  ·have hi : i < d.parts.length := by rw [← o.w]; exact (List.getElem?_eq_some_iff.1 hx).1
   have := h3 i (Zkq hi)
   rw [ZpJ hx] at this
   unfold Zrp
   rw [decide_eq_false (by omega), decide_eq_false (by omega)]; rfl
  ·have hi : i < d.parts.length := by rw [← o.w]; exact (List.getElem?_eq_some_iff.1 hx).1
   unfold Zq0
   by_cases hp : 0 < x
   ·have := h4 i (Zkq hi) (by rw [ZpJ hx]; exact hp)
    rw [Zjw.2 this]; simp
   ·rw [decide_eq_false hp]; rfl
  ·unfold Zpk
   by_cases hp : f.pos < wk s f.user
   ·rw [ZfG.2 (h5 f hf hp)]; simp
   ·rw [decide_eq_false hp]; simp
theorem ZhI {d : Zo} {s : Zs} (o : OKS d s) (input : List Int) {p : Int} (hp : inR d p) : wk (ZeP d input s p) p = wk s p + 1 := by
 have hl : p.toNat < s.work.length := by rw [o.w]; exact hp.2
 conv => lhs; unfold wk ZeP
 dsimp only
 rw [List.getElem?_set_self hl]
theorem ZeB {d : Zo} {s : Zs} (input : List Int) {p q : Int} (hp : inR d p) (hq : inR d q) (h : q ≠ p) : wk (ZeP d input s p) q = wk s q := by
 have : p.toNat ≠ q.toNat := by have := hp.1; have := hq.1; omega
 conv => lhs; unfold wk ZeP
 dsimp only
 rw [List.getElem?_set_ne this]
 rfl
theorem ZkE {d : Zo} {s : Zs} (o : OKS d s) (input : List Int) {p : Int} (hp : inR d p) (hn : ¬ Zio d s p) {q : Int} (hq : inR d q) (h : Zio d s q) : Zio d (ZeP d input s p) q := by
 by_cases e : q = p
 ·subst e; exact absurd h hn
 ·unfold Zio; rw [ZeB input hp hq e]; exact h
theorem ZoV {d : Zo} {s : Zs} (g : Zd1 d) (o : OKS d s) (input : List Int) {p : Int} (hp : inR d p) (hn : ¬ Zio d s p) {q : Int} (h : Zkt d s q) : Zkt d (ZeP d input s p) q :=
 ⟨fun e he h1 => ZkE o input hp hn (g.src he) (h.1 e he h1), fun b hb h1 r hr => ZkE o input hp hn (g.ins b hb r hr) (h.2 b hb h1 r hr)⟩
theorem Zpz {d : Zo} {s : Zs} (g : Zd1 d) (r : Zom d s) (input : List Int) {p : Int} (hp : inR d p) (hg : ZvM d s p) : Zom d (ZeP d input s p) := by
 have hw := r.rng p hp
 have hlt : wk s p < Zd7 d.parts p := by have := hg.1; unfold Zio at this; omega
 refine ⟨r.o.step input p, fun q hq => ?_, fun q hq h => ?_, fun f hf h => ?_⟩
 ·by_cases e : q = p
  ·subst e; rw [ZhI r.o input hp]; omega
  ·rw [ZeB input hp hq e]; exact r.rng q hq
 ·refine ZoV g r.o input hp hg.1 ?_
  by_cases e : q = p
  ·subst e
   by_cases h0 : wk s q = 0
   ·exact hg.2.1 h0
   ·exact r.beg q hq (by omega)
  ·rw [ZeB input hp hq e] at h
   exact r.beg q hq h
 ·refine ZkE r.o input hp hg.1 (g.maker hf) ?_
  by_cases e : f.user = p
  ·rw [e, ZhI r.o input hp] at h
   rcases Int.lt_or_eq_of_le (show f.pos ≤ wk s p by omega) with h1 | h1
   ·exact r.fut f hf (by rw [e]; exact h1)
   ·exact hg.2.2 f hf e h1
  ·rw [ZeB input hp (g.user hf) e] at h
   exact r.fut f hf h
theorem Zqp {d : Zo} (g : Zd1 d) (p : Int) : Zd7 d.parts p ≤ 100 := Zm4 g.g p
theorem ZCq {d : Zo} {s : Zs} (h : ZfU d) (input : List Int) (hi : input.length ≤ 1000) (p : Int) : ZfN d input s p = some (goS d input s p) := by
 unfold ZfN goS
 rw [Zke d s h]
 simp only [Option.bind_some]
 by_cases hc : Zeq d s = 0
 ·rw [hc]
  simp only [beq_self_eq_true, cond_true, bne_self_eq_false, cond_false]
  obtain ⟨h1, h2⟩ := ZkG hc
  have g := Zhn h1
  have r := ZiU.1 h2
  by_cases c1 : p < 0
  ·rw [decide_eq_true c1]; rfl
  by_cases c2 : (d.parts.length : Int) ≤ p
  ·rw [decide_eq_false c1, decide_eq_true c2]; rfl
  have hp : inR d p := ⟨by omega, by omega⟩
  have hw := r.rng p hp
  have hle := Zqp g p
  rw [decide_eq_false c1, decide_eq_false c2, ZjG r.o hp, ZsR g h.i r.o hp, ZvL h1 h.i r.o hp input hi (by omega)]
  simp only [cond_false, Option.bind_some, Bool.or_self]
  cases ZcV d s p with
  | true => rfl
  | false => cases Zh5 d s p <;> rfl
 ·rw [show (Zeq d s == 0) = false by simpa using hc, show (Zeq d s != 0) = true by simpa using hc]
  rfl
theorem ZvY {d : Zo} {s : Zs} (h : ZfU d) : Zfb d s = some (bif (Zeq d s == 0) then Zrk d s else []) := by
 unfold Zfb
 rw [Zke d s h]
 simp only [Option.bind_some]
 by_cases hc : Zeq d s = 0
 ·rw [hc]
  simp only [beq_self_eq_true, cond_true, bne_self_eq_false, cond_false]
  obtain ⟨h1, h2⟩ := ZkG hc
  rw [Zxz (Zhn h1) h.i (ZiU.1 h2).o]
  rfl
 ·rw [show (Zeq d s == 0) = false by simpa using hc, show (Zeq d s != 0) = true by simpa using hc]
  rfl
def ZsM (d : Zo) (input : List Int) (s : Zs) : Bool := few d && (decide ((input.length : Int) ≤ 60) && (decide ((s.work.length : Int) ≤ 20) && decide ((s.vals.length : Int) ≤ 20)))
theorem Zvl (d : Zo) (input : List Int) (s : Zs) : Zfy d input s = some (ZsM d input s) := by
 unfold Zfy ZsM
 rw [Zxc]
 simp only [Option.bind_some]
 cases few d <;> cases decide ((input.length : Int) ≤ 60) <;> cases decide ((s.work.length : Int) ≤ 20) <;> cases decide ((s.vals.length : Int) ≤ 20) <;> rfl
theorem ZuF {d : Zo} {input : List Int} {s : Zs} (h : ZsM d input s = true) : Zov d ∧ input.length ≤ 60 ∧ s.work.length ≤ 20 ∧ s.vals.length ≤ 20 := by
 unfold ZsM at h
 simp only [Bool.and_eq_true, decide_eq_true_eq] at h
 exact ⟨Zrr h.1, by omega, by omega, by omega⟩
theorem Zti {s : Zs} (h1 : s.work.length ≤ 1000) (h2 : s.vals.length ≤ 1000) : ZdS s = some () := by
 unfold ZdS
 rw [Zig (by omega), Zig (by omega)]
 rfl
theorem ZsN (d : Zo) : Zo.mk d.period d.deadline d.parts d.edges d.futures d.barriers = d := rfl
end Go.Proofs.YtnmbdjkbaihicaaDoor
namespace Go.Proofs.YtnmbdjkbaihicaaDoor
open Go Go.Proofs.YtnmbdjkbaihicaaDoorE
set_option linter.unusedVariables false
set_option linter.unusedSimpArgs false
theorem Zev : ∀ r, Zd5 = some r → evD ctx 22 [] = some (D.bool r) := fun r h => by
  cases h
  exact ZwV 100 (by kernel_rfl)
def Zjj (r : Bool) : D := (D.bool r)
def Zhq (t0 : Bool) (t1 : Bool) (t2 : Bool) (t3 : Bool) (a : Zo) : (Unit ⊕ Unit) → Ex × List V × Zk
  | (.inl r) => (.ret, [(.ptr 0 0), (.d (D.bool false))], [(.cells (dV t0 t1 t2 t3 a))])
  | (.inr r) => (.exit 0, [(.ptr 0 0), .bad], [(.cells (dV t0 t1 t2 t3 a))])
theorem ZjM {t0 : Bool} {t1 : Bool} {t2 : Bool} {t3 : Bool} {a : Zo} : ∀ (s0 : Int) (r : (Unit ⊕ Unit)), lp (ZdK a) s0 = some r → lpW ctx 0 [1, 3] [1, 2] ZsT [(.ptr 0 0), (.d (Zb s0))] [(.cells (dV t0 t1 t2 t3 a))] = some ((Zhq t0 t1 t2 t3 a) r) := by
 refine ZaZ (Zhq t0 t1 t2 t3 a) ?_
 intro s0 rcl ih
 show ZR _ _ (lpW _ _ _ _ _ _ _)
 unfold ZdK
 rw [Za2]
 conv => arg 3; whnf
 refine Zu (ZU _ _) ?_
 conv => arg 3; whnf
 refine Ze rfl ?_ ?_
 ·conv => arg 3; whnf
  refine Ze rfl ?_ ?_
  ·conv => arg 3; whnf
   refine Zj rfl rfl fun x1 hx1 => ?_
   conv => arg 3; whnf
   refine Zu (ZU _ _) ?_
   conv => arg 3; whnf
   refine Ze rfl ?_ ?_
   ·conv => arg 3; whnf
    exact Zf rfl
   ·conv => arg 3; whnf
    refine Zg (Zbj rfl hx1) ?_
    conv => arg 3; whnf
    refine Zu (ZU _ _) ?_
    conv => arg 3; whnf
    refine Ze rfl ?_ ?_
    ·conv => arg 3; whnf
     exact Zf rfl
    ·conv => arg 3; whnf
     exact Zd (ih _)
  ·conv => arg 3; whnf
   exact Zf rfl
 ·conv => arg 3; whnf
  exact Zf rfl
theorem ZlT {t0 : Bool} {t1 : Bool} {t2 : Bool} {t3 : Bool} {a : Zo} : ∀ r, (ZfH a) = some r → evD ctx 40 [(.d (D.agg (dA t0 t1 t2 t3 a)))] = some (Zjj r) := by
 show ZR _ (fun r rhs => rhs = some (Zjj r)) _
 unfold ZfH
 rw [Zba ctx 40 Zww _ rfl rfl]
 conv => arg 3; whnf
 refine Zc _ (ZjM _) fun r2 hr2 => ?_
 clear hr2
 rcases r2 with r2 | r2
 ·conv => arg 3; whnf
  exact Zf rfl
 ·conv => arg 3; whnf
  refine Zu (ZU _ _) ?_
  conv => arg 3; whnf
  refine Ze rfl ?_ ?_
  ·conv => arg 3; whnf
   refine Zu (ZU _ _) ?_
   conv => arg 3; whnf
   refine Ze rfl ?_ ?_
   ·conv => arg 3; whnf
    refine Zu (ZU _ _) ?_
    conv => arg 3; whnf
    refine Ze rfl ?_ ?_
    ·conv => arg 3; whnf
     refine Zu (ZU _ _) ?_
     conv => arg 3; whnf
     refine Ze rfl ?_ ?_
     ·conv => arg 3; whnf
      exact Zf rfl
     ·conv => arg 3; whnf
      exact Zf rfl
    ·conv => arg 3; whnf
     exact Zf rfl
   ·conv => arg 3; whnf
    exact Zf rfl
  ·conv => arg 3; whnf
   exact Zf rfl
def Zjb (r : Bool) : D := (D.bool r)
theorem Zlz {t0 : Bool} {t1 : Bool} {t2 : Bool} {t3 : Bool} {t4 : Bool} {t5 : Bool} {t6 : Bool} {a : Zo} {b : (List Int)} {c : Zs} : ∀ r, (Zfy a b c) = some r → evD ctx 23 [(.d (D.agg (dA t0 t1 t2 t3 a))), (.d (D.list t4 (List.map Zb b))), (.d (D.agg [(D.list t5 (List.map Zb c.work)), (D.list t6 (List.map Zb c.vals))]))] = some (Zjb r) := by
 show ZR _ (fun r rhs => rhs = some (Zjb r)) _
 unfold Zfy
 rw [Zba ctx 23 ZvC _ rfl rfl]
 conv => arg 3; whnf
 refine Zl _ ZlT rfl fun x0 hx0 => ?_
 conv => arg 3; whnf
 refine Ze rfl ?_ ?_
 ·conv => arg 3; whnf
  refine Zu (ZU _ _) ?_
  conv => arg 3; whnf
  refine Ze rfl ?_ ?_
  ·conv => arg 3; whnf
   refine Zu (ZU _ _) ?_
   conv => arg 3; whnf
   refine Ze rfl ?_ ?_
   ·conv => arg 3; whnf
    refine Zu (ZU _ _) ?_
    conv => arg 3; whnf
    refine Ze rfl ?_ ?_
    ·conv => arg 3; whnf
     exact Zf rfl
    ·conv => arg 3; whnf
     exact Zf rfl
   ·conv => arg 3; whnf
    exact Zf rfl
  ·conv => arg 3; whnf
   exact Zf rfl
 ·conv => arg 3; whnf
  exact Zf rfl
def Zi4 (t0 : Bool) (t1 : Bool) (t2 : Bool) (t3 : Bool) (a : Zo) : (List Zm) → V × Zk
  | r => ((.agg [(.d (Zb a.period)), (.d (Zb a.deadline)), (.sl 0 3), (.sl 1 2), (.sl 2 3), (.sl 3 2)]), [(.arr 3 (List.map ZV a.parts)), (.arr 2 (List.map ZQ a.edges)), (.arr 3 (List.map Zw a.futures)), (.arr 2 (List.map Zr r))])
def Zhl (t0 : Bool) (t1 : Bool) (t2 : Bool) (t3 : Bool) (a : Zo) : (List Zm) → Ex × List V × Zk
  | r => (.exit 0, [(.ptr 0 0), (.ptr 1 0)], [(.cells [(.d (Zb 0)), (.d (Zb 0)), (.sl 2 3), (.sl 3 2), (.sl 4 3), (.sl 5 2)]), (.cells [(.d (Zb a.period)), (.d (Zb a.deadline)), (.sl 6 3), (.sl 7 2), (.sl 8 3), (.sl 9 2)]), (.arr 3 []), (.arr 2 []), (.arr 3 []), (.arr 2 []), (.arr 3 (List.map ZV a.parts)), (.arr 2 (List.map ZQ a.edges)), (.arr 3 (List.map Zw a.futures)), (.arr 2 (List.map Zr r))])
theorem Zj6 {t0 : Bool} {t1 : Bool} {t2 : Bool} {t3 : Bool} {a : Zo} : ∀ (s0 : Int × (List Zm)) (r : (List Zm)), lp (Zdc a) s0 = some r → lpW ctx 0 [1, 2, 3, 4] [2, 3] Zsm [(.ptr 0 0), (.ptr 1 0), (.ptr 2 0), (.d (Zb s0.1))] [(.cells (dV t0 t1 t2 t3 a)), (.cells [(.d (Zb 0)), (.d (Zb 0)), (.sl 3 3), (.sl 4 2), (.sl 5 3), (.sl 6 2)]), (.cells [(.d (Zb a.period)), (.d (Zb a.deadline)), (.sl 7 3), (.sl 8 2), (.sl 9 3), (.sl 10 2)]), (.arr 3 []), (.arr 2 []), (.arr 3 []), (.arr 2 []), (.arr 3 (List.map ZV a.parts)), (.arr 2 (List.map ZQ a.edges)), (.arr 3 (List.map Zw a.futures)), (.arr 2 (List.map Zr s0.2))] = some ((Zhl t0 t1 t2 t3 a) r) := by
 refine ZaZ (Zhl t0 t1 t2 t3 a) ?_
 intro s0 rcl ih
 show ZR _ _ (lpW _ _ _ _ _ _ _)
 unfold Zdc
 rw [Za2]
 conv => arg 3; whnf
 refine Zu (ZU _ _) ?_
 conv => arg 3; whnf
 refine Ze rfl ?_ ?_
 ·conv => arg 3; whnf
  refine Zj rfl rfl fun x1 hx1 => ?_
  conv => arg 3; whnf
  refine Zcg (Zfu (f := Zb) (fun _ => ⟨rfl, rfl⟩) x1.ins 0) ?_
  conv => arg 3; whnf
  refine Ze (ZfB Zb x1.ins) ?_ ?_
  ·conv => arg 3; whnf
   refine Zu (rfl : _ = List.map Zb x1.ins) ?_
   conv => arg 3; whnf
   refine Zg (Zbj rfl hx1) ?_
   conv => arg 3; whnf
   refine Zcg (Zfu (f := Zb) (fun _ => ⟨rfl, rfl⟩) x1.outs 0) ?_
   conv => arg 3; whnf
   refine Ze (ZfB Zb x1.outs) ?_ ?_
   ·conv => arg 3; whnf
    refine Zu (rfl : _ = List.map Zb x1.outs) ?_
    conv => arg 3; whnf
    refine Zcg rfl ?_
    conv => arg 3; whnf
    refine Ze (ZiR Zr s0.2 1) ?_ ?_
    ·conv => arg 3; whnf
     refine Zu (ZiN Zr s0.2 [x1]) ?_
     conv => arg 3; whnf
     exact Zd (ih _)
    ·exact ZaE
   ·exact ZaE
  ·exact ZaE
 ·conv => arg 3; whnf
  exact Zf rfl
theorem Zfd {t0 : Bool} {t1 : Bool} {t2 : Bool} {t3 : Bool} {a : Zo} : ∀ r, (ZdR a) = some r → evW ctx 15 [(.d (D.agg (dA t0 t1 t2 t3 a)))] [] = some ((Zi4 t0 t1 t2 t3 a) r) := by
 show ZR _ (fun r rhs => rhs = some ((Zi4 t0 t1 t2 t3 a) r)) _
 unfold ZdR
 rw [Ze7 ctx 15 Zv8 _ _ rfl rfl]
 conv => arg 3; whnf
 refine Zcg (Zfu (f := ZV) (fun _ => ⟨rfl, rfl⟩) a.parts 0) ?_
 conv => arg 3; whnf
 refine Ze (ZfB ZV a.parts) ?_ ?_
 ·conv => arg 3; whnf
  refine Zu (rfl : _ = List.map ZV a.parts) ?_
  conv => arg 3; whnf
  refine Zcg (Zfu (f := ZQ) (fun _ => ⟨rfl, rfl⟩) a.edges 0) ?_
  conv => arg 3; whnf
  refine Ze (ZfB ZQ a.edges) ?_ ?_
  ·conv => arg 3; whnf
   refine Zu (rfl : _ = List.map ZQ a.edges) ?_
   conv => arg 3; whnf
   refine Zcg (Zfu (f := Zw) (fun _ => ⟨rfl, rfl⟩) a.futures 0) ?_
   conv => arg 3; whnf
   refine Ze (ZfB Zw a.futures) ?_ ?_
   ·conv => arg 3; whnf
    refine Zu (rfl : _ = List.map Zw a.futures) ?_
    conv => arg 3; whnf
    refine Zc _ (Zj6 _) fun r2 hr2 => ?_
    conv => arg 3; whnf
    exact Zf rfl
   ·exact ZaE
  ·exact ZaE
 ·exact ZaE
def Zjf (t0 : Bool) (t1 : Bool) (a : Zs) : Unit → V × Zk
  | r => ((.agg [(.sl 0 1), (.sl 1 1)]), [(.arr 1 (List.map Zb a.work)), (.arr 1 (List.map Zb a.vals))])
theorem Ze2 {t0 : Bool} {t1 : Bool} {a : Zs} : ∀ r, (ZdS a) = some r → evW ctx 25 [(.d (D.agg [(D.list t0 (List.map Zb a.work)), (D.list t1 (List.map Zb a.vals))]))] [] = some ((Zjf t0 t1 a) r) := by
 show ZR _ (fun r rhs => rhs = some ((Zjf t0 t1 a) r)) _
 unfold ZdS
 rw [Ze7 ctx 25 Zv0 _ _ rfl rfl]
 conv => arg 3; whnf
 refine Zcg (Zfu (f := Zb) (fun _ => ⟨rfl, rfl⟩) a.work 0) ?_
 conv => arg 3; whnf
 refine Ze (ZfB Zb a.work) ?_ ?_
 ·conv => arg 3; whnf
  refine Zu (rfl : _ = List.map Zb a.work) ?_
  conv => arg 3; whnf
  refine Zcg (Zfu (f := Zb) (fun _ => ⟨rfl, rfl⟩) a.vals 0) ?_
  conv => arg 3; whnf
  refine Ze (ZfB Zb a.vals) ?_ ?_
  ·conv => arg 3; whnf
   refine Zu (rfl : _ = List.map Zb a.vals) ?_
   conv => arg 3; whnf
   exact Zf rfl
  ·exact ZaE
 ·exact ZaE
def Zh1 (r : Bool) : D := (D.bool r)
theorem ZbH {a : Int} {b : Int} {c : Int} : ∀ r, (Zbf a b c) = some r → evD ctx 82 [(.d (Zb a)), (.d (Zb b)), (.d (Zb c))] = some (Zh1 r) := by
 show ZR _ (fun r rhs => rhs = some (Zh1 r)) _
 unfold Zbf
 rw [Zba ctx 82 ZwN _ rfl rfl]
 conv => arg 3; whnf
 refine Ze rfl ?_ ?_
 ·conv => arg 3; whnf
  refine Ze rfl ?_ ?_
  ·conv => arg 3; whnf
   exact Zf rfl
  ·conv => arg 3; whnf
   exact Zf rfl
 ·conv => arg 3; whnf
  exact Zf rfl
def Zi5 (r : Int) : D := (Zb r)
theorem ZlQ {a : Int} : ∀ r, (ZfJ a) = some r → evD ctx 109 [(.d (Zb a))] = some (Zi5 r) := by
 show ZR _ (fun r rhs => rhs = some (Zi5 r)) _
 unfold ZfJ
 rw [Zba ctx 109 ZsI _ rfl rfl]
 conv => arg 3; whnf
 refine Ze rfl ?_ ?_
 ·conv => arg 3; whnf
  exact Zf rfl
 ·conv => arg 3; whnf
  refine Ze rfl ?_ ?_
  ·conv => arg 3; whnf
   exact Zf rfl
  ·conv => arg 3; whnf
   exact Zf rfl
def Zez (r : Int) : D := (Zb r)
theorem Zgv {a : Int} : ∀ r, (Zb1 a) = some r → evD ctx 121 [(.d (D.int .u64 a))] = some (Zez r) := by
 show ZR _ (fun r rhs => rhs = some (Zez r)) _
 unfold Zb1
 rw [Zba ctx 121 Zsi _ rfl rfl]
 conv => arg 3; whnf
 refine Zad rfl ?_
 conv => arg 3; whnf
 refine Zad rfl ?_
 conv => arg 3; whnf
 refine Zad rfl ?_
 conv => arg 3; whnf
 refine Zad rfl ?_
 conv => arg 3; whnf
 refine Zad rfl ?_
 conv => arg 3; whnf
 refine Zad rfl ?_
 conv => arg 3; whnf
 exact Zf rfl
def ZeQ (r : Int) : D := (Zb r)
theorem ZgW {a : Int} : ∀ r, (Zci a) = some r → evD ctx 110 [(.d (D.int .u64 a))] = some (ZeQ r) := by
 show ZR _ (fun r rhs => rhs = some (ZeQ r)) _
 unfold Zci
 rw [Zba ctx 110 ZsV _ rfl rfl]
 conv => arg 3; whnf
 refine Zl _ Zgv rfl fun x0 hx0 => ?_
 conv => arg 3; whnf
 exact Zf rfl
theorem Zy4 (n : Int) : 0 ≤ IntKind.u64.wrap n ∧ IntKind.u64.wrap n < 18446744073709551616 := by
  have : IntKind.u64.wrap n = n % 18446744073709551616 := by
    show (if (false && decide (n % 18446744073709551616 ≥ 9223372036854775808)) = true then n % 18446744073709551616 - 18446744073709551616 else n % 18446744073709551616) = _
    simp
  rw [this]
  omega
theorem Zw8 (n : Int) : ∃ j : Nat, j < 64 ∧ (IntKind.u64.wrap n).fdiv (2 ^ (min (Int.toNat 58) IntKind.u64.bits)) = (j : Int) := by
  obtain ⟨h1, h2⟩ := Zy4 n
  have e : (2 : Int) ^ (min (Int.toNat 58) IntKind.u64.bits) = 288230376151711744 := by decide
  rw [e, Int.fdiv_eq_ediv_of_nonneg _ (by omega)]
  refine ⟨((IntKind.u64.wrap n) / 288230376151711744).toNat, ?_, ?_⟩ <;> omega
theorem ZzJ : ∀ j : Nat, j < 64 → ZcU [] 1 false (.d (.rptr (ZtC.drop (j * 1)))) = some (.d (.int .u8 (Zoe.getD j 0))) := by
  have key : ((List.range 64).all fun j => match ZcU [] 1 false (.d (.rptr (ZtC.drop (j * 1)))) with | some (.d (.int .u8 z)) => z == Zoe.getD j 0 | _ => false) = true := by rfl
  intro j hj
  have := List.all_eq_true.1 key j (by simpa using hj)
  split at this
  · rename_i z hz
    rw [hz, eq_of_beq this]
  · cases this
def ZfF (r : Int) : D := Zb r
theorem Zfp (a : Int) : ∀ r, ZcZ a = some r → evD ctx 123 [.d (.int .u64 a)] = some (ZfF r) := by
  intro r hr
  unfold ZcZ at hr
  have hr := Option.some.inj hr
  subst hr
  rw [Zba ctx 123 Zsr _ rfl rfl]
  by_cases h : (a == 0) = true
  · conv => lhs; whnf
    rw [h, Zux]
    rfl
  · replace h : (a == 0) = false := by simpa using h
    obtain ⟨j, hj, e⟩ := Zw8 (IntKind.u64.wrap ((BitVec.ofInt IntKind.u64.bits a &&& BitVec.ofInt IntKind.u64.bits (IntKind.u64.wrap (0 - a))).toNat : Int) * 285870213051353865)
    conv => lhs; whnf
    rw [h, Zut]
    conv => lhs; whnf
    refine (Zx4 (by rfl)).trans ?_
    conv => lhs; whnf
    rw [e]
    refine (ZzT (by simp; omega)).trans ?_
    conv => lhs; whnf
    erw [ZzJ j hj]
    rfl
def Zea (r : Int) : D := (Zb r)
theorem ZfW {a : Int} : ∀ r, (Zch a) = some r → evD ctx 111 [(.d (D.int .u64 a))] = some (Zea r) := by
 show ZR _ (fun r rhs => rhs = some (Zea r)) _
 unfold Zch
 rw [Zba ctx 111 Zta _ rfl rfl]
 conv => arg 3; whnf
 refine Zl _ (Zfp _) rfl fun x0 hx0 => ?_
 conv => arg 3; whnf
 exact Zf rfl
def ZkW (r : (Int × Bool)) : D := (D.tup [(Zb r.1), (D.bool r.2)])
theorem Zn0 {a : Int} : ∀ r, (Zhx a) = some r → evD ctx 83 [(.d (Zb a))] = some (ZkW r) := by
 show ZR _ (fun r rhs => rhs = some (ZkW r)) _
 unfold Zhx
 rw [Zba ctx 83 ZwO _ rfl rfl]
 conv => arg 3; whnf
 refine Zl _ ZlQ rfl fun x0 hx0 => ?_
 conv => arg 3; whnf
 refine Ze rfl ?_ ?_
 ·conv => arg 3; whnf
  exact Zf rfl
 ·conv => arg 3; whnf
  refine Zl _ ZgW rfl fun x1 hx1 => ?_
  conv => arg 3; whnf
  refine Ze rfl ?_ ?_
  ·conv => arg 3; whnf
   exact Zf rfl
  ·conv => arg 3; whnf
   refine Zl _ ZfW rfl fun x2 hx2 => ?_
   conv => arg 3; whnf
   exact Zf rfl
def Zjh (r : Bool) : D := (D.bool r)
theorem Zl8 {a : ZK} : ∀ r, (ZdO a) = some r → evD ctx 85 [(.d (D.agg [(Zb a.op), (Zb a.arg), (Zb a.work)]))] = some (Zjh r) := by
 show ZR _ (fun r rhs => rhs = some (Zjh r)) _
 unfold ZdO
 rw [Zba ctx 85 Zw4 _ rfl rfl]
 conv => arg 3; whnf
 refine Zl _ ZbH rfl fun x0 hx0 => ?_
 conv => arg 3; whnf
 refine Ze rfl ?_ ?_
 ·conv => arg 3; whnf
  refine Zl _ ZbH rfl fun x1 hx1 => ?_
  conv => arg 3; whnf
  refine Ze rfl ?_ ?_
  ·conv => arg 3; whnf
   refine Zl _ ZbH rfl fun x2 hx2 => ?_
   conv => arg 3; whnf
   refine Ze rfl ?_ ?_
   ·conv => arg 3; whnf
    exact Zf rfl
   ·conv => arg 3; whnf
    exact Zf rfl
  ·conv => arg 3; whnf
   exact Zf rfl
 ·conv => arg 3; whnf
  exact Zf rfl
def Zb7 (r : Int) : D := (Zb r)
def ZbR (t0 : Bool) (a : (List ZK)) : (Int ⊕ Unit) → Ex × List V × Zk
  | (.inl r) => (.ret, [(.d (Zb r))], [])
  | (.inr r) => (.exit 0, [.bad], [])
theorem Zdw {t0 : Bool} {a : (List ZK)} : ∀ (s0 : Int) (r : (Int ⊕ Unit)), lp (ZaF a (fun z0 => ZdO z0)) s0 = some r → lpW ctx 0 [0, 1, 7, 8] [4] ZqD [(.d (D.list t0 (List.map ZV a))), (.d (D.fn 85 [])), (.d (Zb (a.length : Int))), (.d (Zb s0))] [] = some ((ZbR t0 a) r) := by
 refine ZaZ (ZbR t0 a) ?_
 intro s0 rcl ih
 show ZR _ _ (lpW _ _ _ _ _ _ _)
 unfold ZaF
 rw [Za2]
 conv => arg 3; whnf
 refine Ze rfl ?_ ?_
 ·conv => arg 3; whnf
  refine Zj rfl rfl fun x1 hx1 => ?_
  conv => arg 3; whnf
  refine Zl _ Zl8 rfl fun x2 hx2 => ?_
  conv => arg 3; whnf
  refine Ze rfl ?_ ?_
  ·conv => arg 3; whnf
   exact Zf rfl
  ·conv => arg 3; whnf
   exact Zd (ih _)
 ·conv => arg 3; whnf
  exact Zf rfl
theorem ZdL {t0 : Bool} {a : (List ZK)} : ∀ r, (ZbG a (fun z0 => ZdO z0)) = some r → evD ctx 112 [(.d (D.list t0 (List.map ZV a))), (.d (D.fn 85 []))] = some (Zb7 r) := by
 show ZR _ (fun r rhs => rhs = some (Zb7 r)) _
 unfold ZbG
 rw [Zba ctx 112 ZsO _ rfl rfl]
 conv => arg 3; whnf
 refine Zu (ZU _ _) ?_
 conv => arg 3; whnf
 refine Zc _ (Zdw _) fun r3 hr3 => ?_
 clear hr3
 rcases r3 with r3 | r3
 ·conv => arg 3; whnf
  exact Zf rfl
 ·conv => arg 3; whnf
  exact Zf rfl
def ZbU (r : Bool) : D := (D.bool r)
theorem Zdx {t0 : Bool} {a : (List ZK)} : ∀ r, (ZaD a (fun z0 => ZdO z0)) = some r → evD ctx 84 [(.d (D.list t0 (List.map ZV a))), (.d (D.fn 85 []))] = some (ZbU r) := by
 show ZR _ (fun r rhs => rhs = some (ZbU r)) _
 unfold ZaD
 rw [Zba ctx 84 ZwI _ rfl rfl]
 conv => arg 3; whnf
 refine Zl _ ZdL rfl fun x0 hx0 => ?_
 conv => arg 3; whnf
 refine Ze rfl ?_ ?_
 ·conv => arg 3; whnf
  exact Zf rfl
 ·conv => arg 3; whnf
  exact Zf rfl
def ZjL (r : Bool) : D := (D.bool r)
theorem Zi9 {t0 : Bool} {t1 : Bool} {t2 : Bool} {t3 : Bool} {a : Zo} {b : Int} {c : Int} : ∀ r, (Zfg a b c) = some r → evD ctx 86 [(.d (D.agg (dA t0 t1 t2 t3 a))), (.d (Zb b)), (.d (Zb c))] = some (ZjL r) := by
 show ZR _ (fun r rhs => rhs = some (ZjL r)) _
 unfold Zfg
 rw [Zba ctx 86 Zwi _ rfl rfl]
 conv => arg 3; whnf
 refine Ze rfl ?_ ?_
 ·conv => arg 3; whnf
  refine Zu (ZU _ _) ?_
  conv => arg 3; whnf
  refine Zl _ ZbH rfl fun x0 hx0 => ?_
  conv => arg 3; whnf
  refine Ze rfl ?_ ?_
  ·conv => arg 3; whnf
   refine Zu (ZU _ _) ?_
   conv => arg 3; whnf
   refine Zl _ ZbH rfl fun x1 hx1 => ?_
   conv => arg 3; whnf
   refine Ze rfl ?_ ?_
   ·conv => arg 3; whnf
    exact Zf rfl
   ·conv => arg 3; whnf
    exact Zf rfl
  ·conv => arg 3; whnf
   exact Zf rfl
 ·conv => arg 3; whnf
  exact Zf rfl
def Zd0 (r : Int) : D := (Zb r)
def ZdF (t0 : Bool) (a : (List ZI)) (b : ZI) : (Int ⊕ Unit) → Ex × List V × Zk
  | (.inl r) => (.ret, [(.d (Zb r))], [])
  | (.inr r) => (.exit 0, [.bad], [])
theorem Zfa {t0 : Bool} {a : (List ZI)} {b : ZI} : ∀ (s0 : Int) (r : (Int ⊕ Unit)), lp (ZaY a b) s0 = some r → lpW ctx 0 [0, 3, 7, 8] [4] ZqO [(.d (D.list t0 (List.map ZQ a))), (.ptr 0 0), (.d (Zb (a.length : Int))), (.d (Zb s0))] [(.cells [(.d (Zb b.src)), (.d (Zb b.dst))])] = some ((ZdF t0 a b) r) := by
 refine ZaZ (ZdF t0 a b) ?_
 intro s0 rcl ih
 show ZR _ _ (lpW _ _ _ _ _ _ _)
 unfold ZaY
 rw [Za2]
 conv => arg 3; whnf
 refine Ze rfl ?_ ?_
 ·conv => arg 3; whnf
  refine Zj rfl rfl fun x1 hx1 => ?_
  conv => arg 3; whnf
  refine Ze rfl ?_ ?_
  ·conv => arg 3; whnf
   exact Zf rfl
  ·conv => arg 3; whnf
   exact Zd (ih _)
 ·conv => arg 3; whnf
  exact Zf rfl
theorem ZfS {t0 : Bool} {a : (List ZI)} {b : ZI} : ∀ r, (Zce a b) = some r → evD ctx 113 [(.d (D.list t0 (List.map ZQ a))), (.d (D.agg [(Zb b.src), (Zb b.dst)]))] = some (Zd0 r) := by
 show ZR _ (fun r rhs => rhs = some (Zd0 r)) _
 unfold Zce
 rw [Zba ctx 113 Zs7 _ rfl rfl]
 conv => arg 3; whnf
 refine Zu (ZU _ _) ?_
 conv => arg 3; whnf
 refine Zc _ (Zfa _) fun r2 hr2 => ?_
 clear hr2
 rcases r2 with r2 | r2
 ·conv => arg 3; whnf
  exact Zf rfl
 ·conv => arg 3; whnf
  exact Zf rfl
def ZdG (r : Bool) : D := (D.bool r)
theorem Ze5 {t0 : Bool} {a : (List ZI)} {b : ZI} : ∀ r, (Za1 a b) = some r → evD ctx 87 [(.d (D.list t0 (List.map ZQ a))), (.d (D.agg [(Zb b.src), (Zb b.dst)]))] = some (ZdG r) := by
 show ZR _ (fun r rhs => rhs = some (ZdG r)) _
 unfold Za1
 rw [Zba ctx 87 Zvt _ rfl rfl]
 conv => arg 3; whnf
 refine Zl _ ZfS rfl fun x0 hx0 => ?_
 conv => arg 3; whnf
 refine Ze rfl ?_ ?_
 ·conv => arg 3; whnf
  exact Zf rfl
 ·conv => arg 3; whnf
  exact Zf rfl
def Zht (r : Bool) : D := (D.bool r)
theorem ZjR {a : Zq} {b0 : Int} {b1 : Int} {b2 : Int} : ∀ r, (Zcw a b1 b2) = some r → evD ctx 88 [(.d (D.agg [(Zb a.maker), (Zb a.user), (Zb a.pos)])), (.d (D.rptr [(Zb b0), (Zb b1), (Zb b2)]))] = some (Zht r) := by
 show ZR _ (fun r rhs => rhs = some (Zht r)) _
 unfold Zcw
 rw [Zba ctx 88 Zwd _ rfl rfl]
 conv => arg 3; whnf
 refine Ze rfl ?_ ?_
 ·conv => arg 3; whnf
  refine Ze rfl ?_ ?_
  ·conv => arg 3; whnf
   exact Zf rfl
  ·conv => arg 3; whnf
   exact Zf rfl
 ·conv => arg 3; whnf
  exact Zf rfl
def Zby (r : Int) : D := (Zb r)
def Zbh (t0 : Bool) (a : (List Zq)) (b0 : Int) (b1 : Int) (b2 : Int) : (Int ⊕ Unit) → Ex × List V × Zk
  | (.inl r) => (.ret, [(.d (Zb r))], [])
  | (.inr r) => (.exit 0, [.bad], [])
theorem ZcM {t0 : Bool} {a : (List Zq)} {b0 : Int} {b1 : Int} {b2 : Int} : ∀ (s0 : Int) (r : (Int ⊕ Unit)), lp (ZY a (fun z0 => Zcw z0 b1 b2)) s0 = some r → lpW ctx 0 [0, 1, 7, 8] [4] ZnJ [(.d (D.list t0 (List.map Zw a))), (.d (D.fn 88 [(D.rptr [(Zb b0), (Zb b1), (Zb b2)])])), (.d (Zb (a.length : Int))), (.d (Zb s0))] [] = some ((Zbh t0 a b0 b1 b2) r) := by
 refine ZaZ (Zbh t0 a b0 b1 b2) ?_
 intro s0 rcl ih
 show ZR _ _ (lpW _ _ _ _ _ _ _)
 unfold ZY
 rw [Za2]
 conv => arg 3; whnf
 refine Ze rfl ?_ ?_
 ·conv => arg 3; whnf
  refine Zj rfl rfl fun x1 hx1 => ?_
  conv => arg 3; whnf
  refine Zl _ ZjR rfl fun x2 hx2 => ?_
  conv => arg 3; whnf
  refine Ze rfl ?_ ?_
  ·conv => arg 3; whnf
   exact Zf rfl
  ·conv => arg 3; whnf
   exact Zd (ih _)
 ·conv => arg 3; whnf
  exact Zf rfl
theorem Zda {t0 : Bool} {a : (List Zq)} {b0 : Int} {b1 : Int} {b2 : Int} : ∀ r, (Zaj a (fun z0 => Zcw z0 b1 b2)) = some r → evD ctx 114 [(.d (D.list t0 (List.map Zw a))), (.d (D.fn 88 [(D.rptr [(Zb b0), (Zb b1), (Zb b2)])]))] = some (Zby r) := by
 show ZR _ (fun r rhs => rhs = some (Zby r)) _
 unfold Zaj
 rw [Zba ctx 114 Zqt _ rfl rfl]
 conv => arg 3; whnf
 refine Zu (ZU _ _) ?_
 conv => arg 3; whnf
 refine Zc _ (ZcM _) fun r3 hr3 => ?_
 clear hr3
 rcases r3 with r3 | r3
 ·conv => arg 3; whnf
  exact Zf rfl
 ·conv => arg 3; whnf
  exact Zf rfl
def Zbi (r : Bool) : D := (D.bool r)
theorem ZcP {t0 : Bool} {a : (List Zq)} {b0 : Int} {b1 : Int} {b2 : Int} : ∀ r, (ZO a (fun z0 => Zcw z0 b1 b2)) = some r → evD ctx 89 [(.d (D.list t0 (List.map Zw a))), (.d (D.fn 88 [(D.rptr [(Zb b0), (Zb b1), (Zb b2)])]))] = some (Zbi r) := by
 show ZR _ (fun r rhs => rhs = some (Zbi r)) _
 unfold ZO
 rw [Zba ctx 89 ZtR _ rfl rfl]
 conv => arg 3; whnf
 refine Zl _ Zda rfl fun x0 hx0 => ?_
 conv => arg 3; whnf
 refine Ze rfl ?_ ?_
 ·conv => arg 3; whnf
  exact Zf rfl
 ·conv => arg 3; whnf
  exact Zf rfl
def ZjS (r : Bool) : D := (D.bool r)
def Zh7 (t0 : Bool) (t1 : Bool) (t2 : Bool) (t3 : Bool) (t4 : Bool) (a : Zo) (b : (List Int)) : (Unit ⊕ Unit) → Ex × List V × Zk
  | (.inl r) => (.ret, [(.d (D.list t4 (List.map Zb b))), (.d (D.bool false))], [])
  | (.inr r) => (.exit 0, [(.d (D.list t4 (List.map Zb b))), .bad], [])
theorem ZkN {t0 : Bool} {t1 : Bool} {t2 : Bool} {t3 : Bool} {t4 : Bool} {a : Zo} {b : (List Int)} : ∀ (s0 : Int) (r : (Unit ⊕ Unit)), lp (Zd3 a b) s0 = some r → lpW ctx 0 [1, 2, 7, 8, 9] [1, 4] Ztv [(.d (D.list t4 (List.map Zb b))), (.ptr 0 0), (.d (D.list t4 (List.map Zb b))), (.d (Zb (b.length : Int))), (.d (Zb s0))] [(.cells (dV t0 t1 t2 t3 a))] = some ((Zh7 t0 t1 t2 t3 t4 a b) r) := by
 refine ZaZ (Zh7 t0 t1 t2 t3 t4 a b) ?_
 intro s0 rcl ih
 show ZR _ _ (lpW _ _ _ _ _ _ _)
 unfold Zd3
 rw [Za2]
 conv => arg 3; whnf
 refine Ze rfl ?_ ?_
 ·conv => arg 3; whnf
  refine Zj rfl rfl fun x1 hx1 => ?_
  conv => arg 3; whnf
  refine Zu (ZU _ _) ?_
  conv => arg 3; whnf
  refine Zl _ ZbH rfl fun x2 hx2 => ?_
  conv => arg 3; whnf
  refine Ze rfl ?_ ?_
  ·conv => arg 3; whnf
   refine Ze rfl ?_ ?_
   ·conv => arg 3; whnf
    refine Zj rfl rfl fun x3 hx3 => ?_
    conv => arg 3; whnf
    refine Ze rfl ?_ ?_
    ·conv => arg 3; whnf
     exact Zf rfl
    ·conv => arg 3; whnf
     exact Zd (ih _)
   ·conv => arg 3; whnf
    exact Zd (ih _)
  ·conv => arg 3; whnf
   exact Zf rfl
 ·conv => arg 3; whnf
  exact Zf rfl
theorem Zi6 {t0 : Bool} {t1 : Bool} {t2 : Bool} {t3 : Bool} {t4 : Bool} {a : Zo} {b : (List Int)} : ∀ r, (Zfj a b) = some r → evD ctx 92 [(.d (D.agg (dA t0 t1 t2 t3 a))), (.d (D.list t4 (List.map Zb b)))] = some (ZjS r) := by
 show ZR _ (fun r rhs => rhs = some (ZjS r)) _
 unfold Zfj
 rw [Zba ctx 92 Zwq _ rfl rfl]
 conv => arg 3; whnf
 refine Zu (ZU _ _) ?_
 conv => arg 3; whnf
 refine Zc _ (ZkN _) fun r4 hr4 => ?_
 clear hr4
 rcases r4 with r4 | r4
 ·conv => arg 3; whnf
  exact Zf rfl
 ·conv => arg 3; whnf
  refine Zu (ZU _ _) ?_
  conv => arg 3; whnf
  refine Ze rfl ?_ ?_
  ·conv => arg 3; whnf
   exact Zf rfl
  ·conv => arg 3; whnf
   exact Zf rfl
def Zer (r : Int) : D := (Zb r)
def ZdP (t0 : Bool) (a : (List Int)) (b : Int) : (Int ⊕ Unit) → Ex × List V × Zk
  | (.inl r) => (.ret, [(.d (Zb r))], [])
  | (.inr r) => (.exit 0, [.bad], [])
theorem Zfl {t0 : Bool} {a : (List Int)} {b : Int} : ∀ (s0 : Int) (r : (Int ⊕ Unit)), lp (Zbm a b) s0 = some r → lpW ctx 0 [0, 1, 7, 8] [4] Zql [(.d (D.list t0 (List.map Zb a))), (.d (Zb b)), (.d (Zb (a.length : Int))), (.d (Zb s0))] [] = some ((ZdP t0 a b) r) := by
 refine ZaZ (ZdP t0 a b) ?_
 intro s0 rcl ih
 show ZR _ _ (lpW _ _ _ _ _ _ _)
 unfold Zbm
 rw [Za2]
 conv => arg 3; whnf
 refine Ze rfl ?_ ?_
 ·conv => arg 3; whnf
  refine Zj rfl rfl fun x1 hx1 => ?_
  conv => arg 3; whnf
  refine Ze rfl ?_ ?_
  ·conv => arg 3; whnf
   exact Zf rfl
  ·conv => arg 3; whnf
   exact Zd (ih _)
 ·conv => arg 3; whnf
  exact Zf rfl
theorem Zf8 {t0 : Bool} {a : (List Int)} {b : Int} : ∀ r, (Zct a b) = some r → evD ctx 115 [(.d (D.list t0 (List.map Zb a))), (.d (Zb b))] = some (Zer r) := by
 show ZR _ (fun r rhs => rhs = some (Zer r)) _
 unfold Zct
 rw [Zba ctx 115 ZrI _ rfl rfl]
 conv => arg 3; whnf
 refine Zu (ZU _ _) ?_
 conv => arg 3; whnf
 refine Zc _ (Zfl _) fun r2 hr2 => ?_
 clear hr2
 rcases r2 with r2 | r2
 ·conv => arg 3; whnf
  exact Zf rfl
 ·conv => arg 3; whnf
  exact Zf rfl
def ZdQ (r : Bool) : D := (D.bool r)
theorem ZdI {t0 : Bool} {a : (List Int)} {b : Int} : ∀ r, (ZaO a b) = some r → evD ctx 91 [(.d (D.list t0 (List.map Zb a))), (.d (Zb b))] = some (ZdQ r) := by
 show ZR _ (fun r rhs => rhs = some (ZdQ r)) _
 unfold ZaO
 rw [Zba ctx 91 Zvm _ rfl rfl]
 conv => arg 3; whnf
 refine Zl _ Zf8 rfl fun x0 hx0 => ?_
 conv => arg 3; whnf
 refine Ze rfl ?_ ?_
 ·conv => arg 3; whnf
  exact Zf rfl
 ·conv => arg 3; whnf
  exact Zf rfl
def Zhi (r : Bool) : D := (D.bool r)
theorem Zkd {t0 : Bool} {t1 : Bool} {a : Int} {b0 : (List Int)} {b1 : (List Int)} : ∀ r, (Zcy a b1) = some r → evD ctx 90 [(.d (Zb a)), (.d (D.rptr [(D.list t0 (List.map Zb b0)), (D.list t1 (List.map Zb b1))]))] = some (Zhi r) := by
 show ZR _ (fun r rhs => rhs = some (Zhi r)) _
 unfold Zcy
 rw [Zba ctx 90 Zwh _ rfl rfl]
 conv => arg 3; whnf
 refine Zl _ ZdI rfl fun x0 hx0 => ?_
 conv => arg 3; whnf
 refine Ze rfl ?_ ?_
 ·conv => arg 3; whnf
  exact Zf rfl
 ·conv => arg 3; whnf
  exact Zf rfl
def Zb2 (r : Int) : D := (Zb r)
def ZbN (t0 : Bool) (t1 : Bool) (t2 : Bool) (a : (List Int)) (b0 : (List Int)) (b1 : (List Int)) : (Int ⊕ Unit) → Ex × List V × Zk
  | (.inl r) => (.ret, [(.d (Zb r))], [])
  | (.inr r) => (.exit 0, [.bad], [])
theorem Zdm {t0 : Bool} {t1 : Bool} {t2 : Bool} {a : (List Int)} {b0 : (List Int)} {b1 : (List Int)} : ∀ (s0 : Int) (r : (Int ⊕ Unit)), lp (ZaQ a (fun z0 => Zcy z0 b1)) s0 = some r → lpW ctx 0 [0, 1, 7, 8] [4] Zqb [(.d (D.list t0 (List.map Zb a))), (.d (D.fn 90 [(D.rptr [(D.list t1 (List.map Zb b0)), (D.list t2 (List.map Zb b1))])])), (.d (Zb (a.length : Int))), (.d (Zb s0))] [] = some ((ZbN t0 t1 t2 a b0 b1) r) := by
 refine ZaZ (ZbN t0 t1 t2 a b0 b1) ?_
 intro s0 rcl ih
 show ZR _ _ (lpW _ _ _ _ _ _ _)
 unfold ZaQ
 rw [Za2]
 conv => arg 3; whnf
 refine Ze rfl ?_ ?_
 ·conv => arg 3; whnf
  refine Zj rfl rfl fun x1 hx1 => ?_
  conv => arg 3; whnf
  refine Zl _ Zkd rfl fun x2 hx2 => ?_
  conv => arg 3; whnf
  refine Ze rfl ?_ ?_
  ·conv => arg 3; whnf
   exact Zf rfl
  ·conv => arg 3; whnf
   exact Zd (ih _)
 ·conv => arg 3; whnf
  exact Zf rfl
theorem ZdH {t0 : Bool} {t1 : Bool} {t2 : Bool} {a : (List Int)} {b0 : (List Int)} {b1 : (List Int)} : ∀ r, (ZbW a (fun z0 => Zcy z0 b1)) = some r → evD ctx 116 [(.d (D.list t0 (List.map Zb a))), (.d (D.fn 90 [(D.rptr [(D.list t1 (List.map Zb b0)), (D.list t2 (List.map Zb b1))])]))] = some (Zb2 r) := by
 show ZR _ (fun r rhs => rhs = some (Zb2 r)) _
 unfold ZbW
 rw [Zba ctx 116 ZtK _ rfl rfl]
 conv => arg 3; whnf
 refine Zu (ZU _ _) ?_
 conv => arg 3; whnf
 refine Zc _ (Zdm _) fun r3 hr3 => ?_
 clear hr3
 rcases r3 with r3 | r3
 ·conv => arg 3; whnf
  exact Zf rfl
 ·conv => arg 3; whnf
  exact Zf rfl
def ZbM (r : Bool) : D := (D.bool r)
theorem Zdl {t0 : Bool} {t1 : Bool} {t2 : Bool} {a : (List Int)} {b0 : (List Int)} {b1 : (List Int)} : ∀ r, (ZaR a (fun z0 => Zcy z0 b1)) = some r → evD ctx 93 [(.d (D.list t0 (List.map Zb a))), (.d (D.fn 90 [(D.rptr [(D.list t1 (List.map Zb b0)), (D.list t2 (List.map Zb b1))])]))] = some (ZbM r) := by
 show ZR _ (fun r rhs => rhs = some (ZbM r)) _
 unfold ZaR
 rw [Zba ctx 93 Zvr _ rfl rfl]
 conv => arg 3; whnf
 refine Zl _ ZdH rfl fun x0 hx0 => ?_
 conv => arg 3; whnf
 refine Ze rfl ?_ ?_
 ·conv => arg 3; whnf
  exact Zf rfl
 ·conv => arg 3; whnf
  exact Zf rfl
def Zik (r : Int) : D := (Zb r)
def ZgG (t0 : Bool) (t1 : Bool) (t2 : Bool) (t3 : Bool) (a : Zo) : (Unit ⊕ Unit) → Ex × List V × Zk
  | (.inl r) => (.ret, [(.ptr 0 0), (.d (Zb 53))], [(.cells (dV t0 t1 t2 t3 a))])
  | (.inr r) => (.exit 0, [(.ptr 0 0), .bad], [(.cells (dV t0 t1 t2 t3 a))])
theorem ZjC {t0 : Bool} {t1 : Bool} {t2 : Bool} {t3 : Bool} {a : Zo} : ∀ (s4 : Int) (r : (Unit ⊕ Unit)), lp (ZcL a) s4 = some r → lpW ctx 0 [1, 61, 62, 63] [1, 2] ZrL [(.ptr 0 0), (.d (D.list t1 (List.map ZQ a.edges))), (.d (Zb (a.edges.length : Int))), (.d (Zb s4))] [(.cells (dV t0 t1 t2 t3 a))] = some ((ZgG t0 t1 t2 t3 a) r) := by
 refine ZaZ (ZgG t0 t1 t2 t3 a) ?_
 intro s4 rcl ih
 show ZR _ _ (lpW _ _ _ _ _ _ _)
 unfold ZcL
 rw [Za2]
 conv => arg 3; whnf
 refine Ze rfl ?_ ?_
 ·conv => arg 3; whnf
  refine Zj rfl rfl fun x5 hx5 => ?_
  conv => arg 3; whnf
  refine Zl _ Zi9 rfl fun x6 hx6 => ?_
  conv => arg 3; whnf
  refine Ze rfl ?_ ?_
  ·conv => arg 3; whnf
   refine Ze rfl ?_ ?_
   ·conv => arg 3; whnf
    refine Ze (ZuT ZQ a.edges s4.toNat) ?_ ?_
    ·conv => arg 3; whnf
     refine Zcg rfl ?_
     conv => arg 3; whnf
     refine Zu (Zqc ZQ a.edges s4.toNat) ?_
     conv => arg 3; whnf
     refine Zl _ Ze5 rfl fun x7 hx7 => ?_
     conv => arg 3; whnf
     refine Ze rfl ?_ ?_
     ·conv => arg 3; whnf
      exact Zf rfl
     ·conv => arg 3; whnf
      exact Zd (ih _)
    ·exact ZaE
   ·exact ZaE
  ·conv => arg 3; whnf
   exact Zf rfl
 ·conv => arg 3; whnf
  exact Zf rfl
def ZgM (t0 : Bool) (t1 : Bool) (t2 : Bool) (t3 : Bool) (a : Zo) : (Unit ⊕ Unit) → Ex × List V × Zk
  | (.inl r) => (.ret, [(.ptr 0 0), (.d (Zb 54))], [(.cells (dV t0 t1 t2 t3 a))])
  | (.inr r) => (.exit 2, [(.ptr 0 0), .bad], [(.cells (dV t0 t1 t2 t3 a))])
theorem ZjF {t0 : Bool} {t1 : Bool} {t2 : Bool} {t3 : Bool} {a : Zo} : ∀ (s9 : Int) (r : (Unit ⊕ Unit)), lp (ZcT a) s9 = some r → lpW ctx 0 [1, 85, 86, 87] [1, 2] ZsL [(.ptr 0 0), (.d (D.list t2 (List.map Zw a.futures))), (.d (Zb (a.futures.length : Int))), (.d (Zb s9))] [(.cells (dV t0 t1 t2 t3 a))] = some ((ZgM t0 t1 t2 t3 a) r) := by
 refine ZaZ (ZgM t0 t1 t2 t3 a) ?_
 intro s9 rcl ih
 show ZR _ _ (lpW _ _ _ _ _ _ _)
 unfold ZcT
 rw [Za2]
 conv => arg 3; whnf
 refine Ze rfl ?_ ?_
 ·conv => arg 3; whnf
  refine Zj rfl rfl fun x10 hx10 => ?_
  conv => arg 3; whnf
  refine Zl _ Zi9 rfl fun x11 hx11 => ?_
  conv => arg 3; whnf
  refine Ze rfl ?_ ?_
  ·conv => arg 3; whnf
   refine Zj rfl rfl fun x12 hx12 => ?_
   conv => arg 3; whnf
   refine Zl _ ZbH rfl fun x13 hx13 => ?_
   conv => arg 3; whnf
   refine Ze rfl ?_ ?_
   ·conv => arg 3; whnf
    refine Ze rfl ?_ ?_
    ·conv => arg 3; whnf
     refine Ze (ZuT Zw a.futures s9.toNat) ?_ ?_
     ·conv => arg 3; whnf
      refine Zcg rfl ?_
      conv => arg 3; whnf
      refine Zu (Zqc Zw a.futures s9.toNat) ?_
      conv => arg 3; whnf
      refine Zl _ ZcP rfl fun x14 hx14 => ?_
      conv => arg 3; whnf
      refine Ze rfl ?_ ?_
      ·conv => arg 3; whnf
       exact Zf rfl
      ·conv => arg 3; whnf
       exact Zd (ih _)
     ·exact ZaE
    ·exact ZaE
   ·conv => arg 3; whnf
    exact Zf rfl
  ·conv => arg 3; whnf
   exact Zf rfl
 ·conv => arg 3; whnf
  exact Zf rfl
def ZgB (t0 : Bool) (t1 : Bool) (t2 : Bool) (t3 : Bool) (a : Zo) : (Unit ⊕ Unit) → Ex × List V × Zk
  | (.inl r) => (.ret, [(.d (Zb 55))], [])
  | (.inr r) => (.exit 4, [.bad], [])
theorem Zjr {t0 : Bool} {t1 : Bool} {t2 : Bool} {t3 : Bool} {a : Zo} : ∀ (s16 : Int) (r : (Unit ⊕ Unit)), lp (ZcR a) s16 = some r → lpW ctx 0 [1, 124, 125, 126] [2] ZsU [(.ptr 0 0), (.d (D.list t3 (List.map Zr a.barriers))), (.d (Zb (a.barriers.length : Int))), (.d (Zb s16))] [(.cells (dV t0 t1 t2 t3 a))] = some ((ZgB t0 t1 t2 t3 a) r) := by
 refine ZaZ (ZgB t0 t1 t2 t3 a) ?_
 intro s16 rcl ih
 show ZR _ _ (lpW _ _ _ _ _ _ _)
 unfold ZcR
 rw [Za2]
 conv => arg 3; whnf
 refine Ze rfl ?_ ?_
 ·conv => arg 3; whnf
  refine Zj rfl rfl fun x17 hx17 => ?_
  conv => arg 3; whnf
  refine Zl _ Zi6 rfl fun x18 hx18 => ?_
  conv => arg 3; whnf
  refine Ze rfl ?_ ?_
  ·conv => arg 3; whnf
   refine Zl _ Zi6 rfl fun x19 hx19 => ?_
   conv => arg 3; whnf
   refine Ze rfl ?_ ?_
   ·conv => arg 3; whnf
    refine Zl _ Zdl rfl fun x20 hx20 => ?_
    conv => arg 3; whnf
    refine Ze rfl ?_ ?_
    ·conv => arg 3; whnf
     exact Zf rfl
    ·conv => arg 3; whnf
     exact Zd (ih _)
   ·conv => arg 3; whnf
    exact Zf rfl
  ·conv => arg 3; whnf
   exact Zf rfl
 ·conv => arg 3; whnf
  exact Zf rfl
theorem ZfT {t0 : Bool} {t1 : Bool} {t2 : Bool} {t3 : Bool} {a : Zo} : ∀ r, (ZdW a) = some r → evD ctx 55 [(.d (D.agg (dA t0 t1 t2 t3 a)))] = some (Zik r) := by
 show ZR _ (fun r rhs => rhs = some (Zik r)) _
 unfold ZdW
 rw [Zba ctx 55 ZvI _ rfl rfl]
 conv => arg 3; whnf
 refine Zu (ZU _ _) ?_
 conv => arg 3; whnf
 refine Zl _ ZbH rfl fun x0 hx0 => ?_
 conv => arg 3; whnf
 refine Ze rfl ?_ ?_
 ·conv => arg 3; whnf
  refine Zu (ZU _ _) ?_
  conv => arg 3; whnf
  refine Ze rfl ?_ ?_
  ·conv => arg 3; whnf
   exact Zf rfl
  ·conv => arg 3; whnf
   refine Zu (ZU _ _) ?_
   conv => arg 3; whnf
   refine Ze rfl ?_ ?_
   ·conv => arg 3; whnf
    exact Zf rfl
   ·conv => arg 3; whnf
    refine Zu (ZU _ _) ?_
    conv => arg 3; whnf
    refine Ze rfl ?_ ?_
    ·conv => arg 3; whnf
     exact Zf rfl
    ·conv => arg 3; whnf
     refine Zl _ Zn0 rfl fun x1 hx1 => ?_
     conv => arg 3; whnf
     refine Ze rfl ?_ ?_
     ·conv => arg 3; whnf
      refine Ze rfl ?_ ?_
      ·conv => arg 3; whnf
       exact Zf rfl
      ·conv => arg 3; whnf
       refine Zl _ ZbH rfl fun x2 hx2 => ?_
       conv => arg 3; whnf
       refine Ze rfl ?_ ?_
       ·conv => arg 3; whnf
        refine Zl _ Zdx rfl fun x3 hx3 => ?_
        conv => arg 3; whnf
        refine Ze rfl ?_ ?_
        ·conv => arg 3; whnf
         exact Zf rfl
        ·conv => arg 3; whnf
         refine Zu (ZU _ _) ?_
         conv => arg 3; whnf
         refine Zc _ (ZjC _) fun r8 hr8 => ?_
         clear hr8
         rcases r8 with r8 | r8
         ·conv => arg 3; whnf
          exact Zf rfl
         ·conv => arg 3; whnf
          refine Zu (ZU _ _) ?_
          conv => arg 3; whnf
          refine Zc _ (ZjF _) fun r15 hr15 => ?_
          clear hr15
          rcases r15 with r15 | r15
          ·conv => arg 3; whnf
           exact Zf rfl
          ·conv => arg 3; whnf
           refine Zu (ZU _ _) ?_
           conv => arg 3; whnf
           refine Zc _ (Zjr _) fun r21 hr21 => ?_
           clear hr21
           rcases r21 with r21 | r21
           ·conv => arg 3; whnf
            exact Zf rfl
           ·conv => arg 3; whnf
            exact Zf rfl
       ·conv => arg 3; whnf
        exact Zf rfl
     ·conv => arg 3; whnf
      exact Zf rfl
 ·conv => arg 3; whnf
  exact Zf rfl
def Zh0 (r : Bool) : D := (D.bool r)
theorem ZbF {t0 : Bool} {t1 : Bool} {t2 : Bool} {t3 : Bool} {t4 : Bool} {t5 : Bool} {a : Zo} {b : Zs} {c : Int} : ∀ r, (ZaX a b c) = some r → evD ctx 46 [(.d (D.agg (dA t0 t1 t2 t3 a))), (.d (D.agg [(D.list t4 (List.map Zb b.work)), (D.list t5 (List.map Zb b.vals))])), (.d (Zb c))] = some (Zh0 r) := by
 show ZR _ (fun r rhs => rhs = some (Zh0 r)) _
 unfold ZaX
 rw [Zba ctx 46 Zv5 _ rfl rfl]
 conv => arg 3; whnf
 refine Zj rfl rfl fun x0 hx0 => ?_
 conv => arg 3; whnf
 refine Zj rfl rfl fun x1 hx1 => ?_
 conv => arg 3; whnf
 refine Ze rfl ?_ ?_
 ·conv => arg 3; whnf
  exact Zf rfl
 ·conv => arg 3; whnf
  exact Zf rfl
def ZgE (r : Bool) : D := (D.bool r)
def Zfw (t0 : Bool) (t1 : Bool) (t2 : Bool) (t3 : Bool) (t4 : Bool) (t5 : Bool) (a : Zo) (b : Zs) (c : Int) : (Unit ⊕ Unit) → Ex × List V × Zk
  | (.inl r) => (.ret, [(.d (Zb c)), (.ptr 0 0), (.ptr 1 0), (.d (D.bool false))], [(.cells (dV t0 t1 t2 t3 a)), (.cells [(.d (D.list t4 (List.map Zb b.work))), (.d (D.list t5 (List.map Zb b.vals)))])])
  | (.inr r) => (.exit 0, [(.d (Zb c)), (.ptr 0 0), (.ptr 1 0), .bad], [(.cells (dV t0 t1 t2 t3 a)), (.cells [(.d (D.list t4 (List.map Zb b.work))), (.d (D.list t5 (List.map Zb b.vals)))])])
theorem Zia {t0 : Bool} {t1 : Bool} {t2 : Bool} {t3 : Bool} {t4 : Bool} {t5 : Bool} {a : Zo} {b : Zs} {c : Int} : ∀ (s0 : Int) (r : (Unit ⊕ Unit)), lp (Zco a b c) s0 = some r → lpW ctx 0 [2, 3, 4, 14, 15, 16] [2, 3, 4, 6] ZrS [(.d (Zb c)), (.ptr 0 0), (.ptr 1 0), (.d (D.list t1 (List.map ZQ a.edges))), (.d (Zb (a.edges.length : Int))), (.d (Zb s0))] [(.cells (dV t0 t1 t2 t3 a)), (.cells [(.d (D.list t4 (List.map Zb b.work))), (.d (D.list t5 (List.map Zb b.vals)))])] = some ((Zfw t0 t1 t2 t3 t4 t5 a b c) r) := by
 refine ZaZ (Zfw t0 t1 t2 t3 t4 t5 a b c) ?_
 intro s0 rcl ih
 show ZR _ _ (lpW _ _ _ _ _ _ _)
 unfold Zco
 rw [Za2]
 conv => arg 3; whnf
 refine Ze rfl ?_ ?_
 ·conv => arg 3; whnf
  refine Zj rfl rfl fun x1 hx1 => ?_
  conv => arg 3; whnf
  refine Ze rfl ?_ ?_
  ·conv => arg 3; whnf
   refine Zl _ ZbF rfl fun x2 hx2 => ?_
   conv => arg 3; whnf
   refine Ze rfl ?_ ?_
   ·conv => arg 3; whnf
    exact Zd (ih _)
   ·conv => arg 3; whnf
    exact Zf rfl
  ·conv => arg 3; whnf
   exact Zd (ih _)
 ·conv => arg 3; whnf
  exact Zf rfl
def ZfP (t0 : Bool) (t1 : Bool) (t2 : Bool) (t3 : Bool) (t4 : Bool) (t5 : Bool) (a : Zo) (b : Zs) (c : Int) (s4 : Int) (x5 : Zm) : (Unit ⊕ Unit) → Ex × List V × Zk
  | (.inl r) => (.ret, [(.d (Zb c)), (.ptr 0 0), (.ptr 1 0), (.d (D.bool false)), (.d (D.list t3 (List.map Zr a.barriers))), (.d (Zb (a.barriers.length : Int))), (.d (Zb s4))], [(.cells (dV t0 t1 t2 t3 a)), (.cells [(.d (D.list t4 (List.map Zb b.work))), (.d (D.list t5 (List.map Zb b.vals)))])])
  | (.inr r) => (.exit 4, [(.d (Zb c)), (.ptr 0 0), (.ptr 1 0), .bad, (.d (D.list t3 (List.map Zr a.barriers))), (.d (Zb (a.barriers.length : Int))), (.d (Zb s4))], [(.cells (dV t0 t1 t2 t3 a)), (.cells [(.d (D.list t4 (List.map Zb b.work))), (.d (D.list t5 (List.map Zb b.vals)))])])
theorem Zh8 {t0 : Bool} {t1 : Bool} {t2 : Bool} {t3 : Bool} {t4 : Bool} {t5 : Bool} {a : Zo} {b : Zs} {c : Int} {s4 : Int} {x5 : Zm} : ∀ (s7 : Int) (r : (Unit ⊕ Unit)), lp (ZbY a b x5) s7 = some r → lpW ctx 0 [2, 3, 4, 34, 35, 36, 46, 47, 48] [2, 3, 4, 6, 34, 35, 36] ZrM [(.d (Zb c)), (.ptr 0 0), (.ptr 1 0), (.d (D.list t3 (List.map Zr a.barriers))), (.d (Zb (a.barriers.length : Int))), (.d (Zb s4)), (.d (D.list true (List.map Zb x5.ins))), (.d (Zb (x5.ins.length : Int))), (.d (Zb s7))] [(.cells (dV t0 t1 t2 t3 a)), (.cells [(.d (D.list t4 (List.map Zb b.work))), (.d (D.list t5 (List.map Zb b.vals)))])] = some ((ZfP t0 t1 t2 t3 t4 t5 a b c s4 x5) r) := by
 refine ZaZ (ZfP t0 t1 t2 t3 t4 t5 a b c s4 x5) ?_
 intro s7 rcl ih
 show ZR _ _ (lpW _ _ _ _ _ _ _)
 unfold ZbY
 rw [Za2]
 conv => arg 3; whnf
 refine Ze rfl ?_ ?_
 ·conv => arg 3; whnf
  refine Zj rfl rfl fun x8 hx8 => ?_
  conv => arg 3; whnf
  refine Zl _ ZbF rfl fun x9 hx9 => ?_
  conv => arg 3; whnf
  refine Ze rfl ?_ ?_
  ·conv => arg 3; whnf
   exact Zd (ih _)
  ·conv => arg 3; whnf
   exact Zf rfl
 ·conv => arg 3; whnf
  exact Zf rfl
def ZfL (t0 : Bool) (t1 : Bool) (t2 : Bool) (t3 : Bool) (t4 : Bool) (t5 : Bool) (a : Zo) (b : Zs) (c : Int) : (Unit ⊕ Unit) → Ex × List V × Zk
  | (.inl r) => (.ret, [(.d (D.bool false))], [])
  | (.inr r) => (.exit 2, [.bad], [])
theorem Zic {t0 : Bool} {t1 : Bool} {t2 : Bool} {t3 : Bool} {t4 : Bool} {t5 : Bool} {a : Zo} {b : Zs} {c : Int} : ∀ (s4 : Int) (r : (Unit ⊕ Unit)), lp (Zcq a b c) s4 = some r → lpW ctx 0 [2, 3, 4, 34, 35, 36] [6] ZrQ [(.d (Zb c)), (.ptr 0 0), (.ptr 1 0), (.d (D.list t3 (List.map Zr a.barriers))), (.d (Zb (a.barriers.length : Int))), (.d (Zb s4))] [(.cells (dV t0 t1 t2 t3 a)), (.cells [(.d (D.list t4 (List.map Zb b.work))), (.d (D.list t5 (List.map Zb b.vals)))])] = some ((ZfL t0 t1 t2 t3 t4 t5 a b c) r) := by
 refine ZaZ (ZfL t0 t1 t2 t3 t4 t5 a b c) ?_
 intro s4 rcl ih
 show ZR _ _ (lpW _ _ _ _ _ _ _)
 unfold Zcq
 rw [Za2]
 conv => arg 3; whnf
 refine Ze rfl ?_ ?_
 ·conv => arg 3; whnf
  refine Zj rfl rfl fun x5 hx5 => ?_
  conv => arg 3; whnf
  refine Zl _ ZdI rfl fun x6 hx6 => ?_
  conv => arg 3; whnf
  refine Ze rfl ?_ ?_
  ·conv => arg 3; whnf
   refine Zu (ZU _ _) ?_
   conv => arg 3; whnf
   refine Zc _ (Zh8 _) fun r10 hr10 => ?_
   clear hr10
   rcases r10 with r10 | r10
   ·conv => arg 3; whnf
    exact Zf rfl
   ·conv => arg 3; whnf
    exact Zd (ih _)
  ·conv => arg 3; whnf
   exact Zd (ih _)
 ·conv => arg 3; whnf
  exact Zf rfl
theorem Zgh {t0 : Bool} {t1 : Bool} {t2 : Bool} {t3 : Bool} {t4 : Bool} {t5 : Bool} {a : Zo} {b : Zs} {c : Int} : ∀ r, (Zdp a b c) = some r → evD ctx 78 [(.d (D.agg (dA t0 t1 t2 t3 a))), (.d (D.agg [(D.list t4 (List.map Zb b.work)), (D.list t5 (List.map Zb b.vals))])), (.d (Zb c))] = some (ZgE r) := by
 show ZR _ (fun r rhs => rhs = some (ZgE r)) _
 unfold Zdp
 rw [Zba ctx 78 Zvw _ rfl rfl]
 conv => arg 3; whnf
 refine Zu (ZU _ _) ?_
 conv => arg 3; whnf
 refine Zc _ (Zia _) fun r3 hr3 => ?_
 clear hr3
 rcases r3 with r3 | r3
 ·conv => arg 3; whnf
  exact Zf rfl
 ·conv => arg 3; whnf
  refine Zu (ZU _ _) ?_
  conv => arg 3; whnf
  refine Zc _ (Zic _) fun r11 hr11 => ?_
  clear hr11
  rcases r11 with r11 | r11
  ·conv => arg 3; whnf
   exact Zf rfl
  ·conv => arg 3; whnf
   exact Zf rfl
def Zgy (r : Bool) : D := (D.bool r)
theorem Zi1 {t0 : Bool} {t1 : Bool} {t2 : Bool} {t3 : Bool} {t4 : Bool} {t5 : Bool} {a : Zq} {b0 : (List Int)} {b1 : (List Int)} {c0 : Int} {c1 : Int} {c2 : (List ZK)} {c3 : (List ZI)} {c4 : (List Zq)} {c5 : (List Zm)} : ∀ r, (Zb5 a b0 b1 c0 c1 c2 c3 c4 c5) = some r → evD ctx 94 [(.d (D.agg [(Zb a.maker), (Zb a.user), (Zb a.pos)])), (.d (D.rptr [(D.list t0 (List.map Zb b0)), (D.list t1 (List.map Zb b1))])), (.d (D.rptr [(Zb c0), (Zb c1), (D.list t2 (List.map ZV c2)), (D.list t3 (List.map ZQ c3)), (D.list t4 (List.map Zw c4)), (D.list t5 (List.map Zr c5))]))] = some (Zgy r) := by
 show ZR _ (fun r rhs => rhs = some (Zgy r)) _
 unfold Zb5
 rw [Zba ctx 94 ZwE _ rfl rfl]
 conv => arg 3; whnf
 refine Zj rfl rfl fun x0 hx0 => ?_
 conv => arg 3; whnf
 refine Ze rfl ?_ ?_
 ·conv => arg 3; whnf
  refine Zl _ ZbF rfl fun x1 hx1 => ?_
  conv => arg 3; whnf
  refine Ze rfl ?_ ?_
  ·conv => arg 3; whnf
   exact Zf rfl
  ·conv => arg 3; whnf
   exact Zf rfl
 ·conv => arg 3; whnf
  exact Zf rfl
def Zbn (r : Int) : D := (Zb r)
def Za8 (t0 : Bool) (t1 : Bool) (t2 : Bool) (t3 : Bool) (t4 : Bool) (t5 : Bool) (t6 : Bool) (a : (List Zq)) (b0 : (List Int)) (b1 : (List Int)) (b2 : Int) (b3 : Int) (b4 : (List ZK)) (b5 : (List ZI)) (b6 : (List Zq)) (b7 : (List Zm)) : (Int ⊕ Unit) → Ex × List V × Zk
  | (.inl r) => (.ret, [(.d (Zb r))], [])
  | (.inr r) => (.exit 0, [.bad], [])
theorem Zcv {t0 : Bool} {t1 : Bool} {t2 : Bool} {t3 : Bool} {t4 : Bool} {t5 : Bool} {t6 : Bool} {a : (List Zq)} {b0 : (List Int)} {b1 : (List Int)} {b2 : Int} {b3 : Int} {b4 : (List ZK)} {b5 : (List ZI)} {b6 : (List Zq)} {b7 : (List Zm)} : ∀ (s0 : Int) (r : (Int ⊕ Unit)), lp (ZY a (fun z0 => Zb5 z0 b0 b1 b2 b3 b4 b5 b6 b7)) s0 = some r → lpW ctx 0 [0, 1, 7, 8] [4] ZnJ [(.d (D.list t0 (List.map Zw a))), (.d (D.fn 94 [(D.rptr [(D.list t1 (List.map Zb b0)), (D.list t2 (List.map Zb b1))]), (D.rptr [(Zb b2), (Zb b3), (D.list t3 (List.map ZV b4)), (D.list t4 (List.map ZQ b5)), (D.list t5 (List.map Zw b6)), (D.list t6 (List.map Zr b7))])])), (.d (Zb (a.length : Int))), (.d (Zb s0))] [] = some ((Za8 t0 t1 t2 t3 t4 t5 t6 a b0 b1 b2 b3 b4 b5 b6 b7) r) := by
 refine ZaZ (Za8 t0 t1 t2 t3 t4 t5 t6 a b0 b1 b2 b3 b4 b5 b6 b7) ?_
 intro s0 rcl ih
 show ZR _ _ (lpW _ _ _ _ _ _ _)
 unfold ZY
 rw [Za2]
 conv => arg 3; whnf
 refine Ze rfl ?_ ?_
 ·conv => arg 3; whnf
  refine Zj rfl rfl fun x1 hx1 => ?_
  conv => arg 3; whnf
  refine Zl _ Zi1 rfl fun x2 hx2 => ?_
  conv => arg 3; whnf
  refine Ze rfl ?_ ?_
  ·conv => arg 3; whnf
   exact Zf rfl
  ·conv => arg 3; whnf
   exact Zd (ih _)
 ·conv => arg 3; whnf
  exact Zf rfl
theorem ZcW {t0 : Bool} {t1 : Bool} {t2 : Bool} {t3 : Bool} {t4 : Bool} {t5 : Bool} {t6 : Bool} {a : (List Zq)} {b0 : (List Int)} {b1 : (List Int)} {b2 : Int} {b3 : Int} {b4 : (List ZK)} {b5 : (List ZI)} {b6 : (List Zq)} {b7 : (List Zm)} : ∀ r, (Zaj a (fun z0 => Zb5 z0 b0 b1 b2 b3 b4 b5 b6 b7)) = some r → evD ctx 114 [(.d (D.list t0 (List.map Zw a))), (.d (D.fn 94 [(D.rptr [(D.list t1 (List.map Zb b0)), (D.list t2 (List.map Zb b1))]), (D.rptr [(Zb b2), (Zb b3), (D.list t3 (List.map ZV b4)), (D.list t4 (List.map ZQ b5)), (D.list t5 (List.map Zw b6)), (D.list t6 (List.map Zr b7))])]))] = some (Zbn r) := by
 show ZR _ (fun r rhs => rhs = some (Zbn r)) _
 unfold Zaj
 rw [Zba ctx 114 Zqt _ rfl rfl]
 conv => arg 3; whnf
 refine Zu (ZU _ _) ?_
 conv => arg 3; whnf
 refine Zc _ (Zcv _) fun r3 hr3 => ?_
 clear hr3
 rcases r3 with r3 | r3
 ·conv => arg 3; whnf
  exact Zf rfl
 ·conv => arg 3; whnf
  exact Zf rfl
def Za5 (r : Bool) : D := (D.bool r)
theorem Zcx {t0 : Bool} {t1 : Bool} {t2 : Bool} {t3 : Bool} {t4 : Bool} {t5 : Bool} {t6 : Bool} {a : (List Zq)} {b0 : (List Int)} {b1 : (List Int)} {b2 : Int} {b3 : Int} {b4 : (List ZK)} {b5 : (List ZI)} {b6 : (List Zq)} {b7 : (List Zm)} : ∀ r, (ZO a (fun z0 => Zb5 z0 b0 b1 b2 b3 b4 b5 b6 b7)) = some r → evD ctx 89 [(.d (D.list t0 (List.map Zw a))), (.d (D.fn 94 [(D.rptr [(D.list t1 (List.map Zb b0)), (D.list t2 (List.map Zb b1))]), (D.rptr [(Zb b2), (Zb b3), (D.list t3 (List.map ZV b4)), (D.list t4 (List.map ZQ b5)), (D.list t5 (List.map Zw b6)), (D.list t6 (List.map Zr b7))])]))] = some (Za5 r) := by
 show ZR _ (fun r rhs => rhs = some (Za5 r)) _
 unfold ZO
 rw [Zba ctx 89 ZtR _ rfl rfl]
 conv => arg 3; whnf
 refine Zl _ ZcW rfl fun x0 hx0 => ?_
 conv => arg 3; whnf
 refine Ze rfl ?_ ?_
 ·conv => arg 3; whnf
  exact Zf rfl
 ·conv => arg 3; whnf
  exact Zf rfl
def Zhw (r : Bool) : D := (D.bool r)
def Zf4 (t0 : Bool) (t1 : Bool) (t2 : Bool) (t3 : Bool) (t4 : Bool) (t5 : Bool) (a : Zo) (b : Zs) : (Unit ⊕ Unit) → Ex × List V × Zk
  | (.inl r) => (.ret, [(.ptr 0 0), (.ptr 1 0), (.d (D.bool false))], [(.cells (dV t0 t1 t2 t3 a)), (.cells [(.d (D.list t4 (List.map Zb b.work))), (.d (D.list t5 (List.map Zb b.vals)))])])
  | (.inr r) => (.exit 0, [(.ptr 0 0), (.ptr 1 0), .bad], [(.cells (dV t0 t1 t2 t3 a)), (.cells [(.d (D.list t4 (List.map Zb b.work))), (.d (D.list t5 (List.map Zb b.vals)))])])
theorem Zis {t0 : Bool} {t1 : Bool} {t2 : Bool} {t3 : Bool} {t4 : Bool} {t5 : Bool} {a : Zo} {b : Zs} : ∀ (s0 : Int) (r : (Unit ⊕ Unit)), lp (ZcH a b) s0 = some r → lpW ctx 0 [2, 3, 26, 27, 28] [2, 3, 4] ZrN [(.ptr 0 0), (.ptr 1 0), (.d (D.list t4 (List.map Zb b.work))), (.d (Zb (b.work.length : Int))), (.d (Zb s0))] [(.cells (dV t0 t1 t2 t3 a)), (.cells [(.d (D.list t4 (List.map Zb b.work))), (.d (D.list t5 (List.map Zb b.vals)))])] = some ((Zf4 t0 t1 t2 t3 t4 t5 a b) r) := by
 refine ZaZ (Zf4 t0 t1 t2 t3 t4 t5 a b) ?_
 intro s0 rcl ih
 show ZR _ _ (lpW _ _ _ _ _ _ _)
 unfold ZcH
 rw [Za2]
 conv => arg 3; whnf
 refine Ze rfl ?_ ?_
 ·conv => arg 3; whnf
  refine Zj rfl rfl fun x1 hx1 => ?_
  conv => arg 3; whnf
  refine Ze rfl ?_ ?_
  ·conv => arg 3; whnf
   exact Zf rfl
  ·conv => arg 3; whnf
   refine Zj rfl rfl fun x2 hx2 => ?_
   conv => arg 3; whnf
   refine Ze rfl ?_ ?_
   ·conv => arg 3; whnf
    exact Zf rfl
   ·conv => arg 3; whnf
    exact Zd (ih _)
 ·conv => arg 3; whnf
  exact Zf rfl
def Zf1 (t0 : Bool) (t1 : Bool) (t2 : Bool) (t3 : Bool) (t4 : Bool) (t5 : Bool) (a : Zo) (b : Zs) : (Unit ⊕ Unit) → Ex × List V × Zk
  | (.inl r) => (.ret, [(.ptr 0 0), (.ptr 1 0), (.d (D.bool false))], [(.cells (dV t0 t1 t2 t3 a)), (.cells [(.d (D.list t4 (List.map Zb b.work))), (.d (D.list t5 (List.map Zb b.vals)))])])
  | (.inr r) => (.exit 2, [(.ptr 0 0), (.ptr 1 0), .bad], [(.cells (dV t0 t1 t2 t3 a)), (.cells [(.d (D.list t4 (List.map Zb b.work))), (.d (D.list t5 (List.map Zb b.vals)))])])
theorem ZiC {t0 : Bool} {t1 : Bool} {t2 : Bool} {t3 : Bool} {t4 : Bool} {t5 : Bool} {a : Zo} {b : Zs} : ∀ (s4 : Int) (r : (Unit ⊕ Unit)), lp (ZcI a b) s4 = some r → lpW ctx 0 [2, 3, 47, 48, 49] [2, 3, 4] Ztn [(.ptr 0 0), (.ptr 1 0), (.d (D.list t4 (List.map Zb b.work))), (.d (Zb (b.work.length : Int))), (.d (Zb s4))] [(.cells (dV t0 t1 t2 t3 a)), (.cells [(.d (D.list t4 (List.map Zb b.work))), (.d (D.list t5 (List.map Zb b.vals)))])] = some ((Zf1 t0 t1 t2 t3 t4 t5 a b) r) := by
 refine ZaZ (Zf1 t0 t1 t2 t3 t4 t5 a b) ?_
 intro s4 rcl ih
 show ZR _ _ (lpW _ _ _ _ _ _ _)
 unfold ZcI
 rw [Za2]
 conv => arg 3; whnf
 refine Ze rfl ?_ ?_
 ·conv => arg 3; whnf
  refine Zj rfl rfl fun x5 hx5 => ?_
  conv => arg 3; whnf
  refine Ze rfl ?_ ?_
  ·conv => arg 3; whnf
   refine Zl _ Zgh rfl fun x6 hx6 => ?_
   conv => arg 3; whnf
   refine Ze rfl ?_ ?_
   ·conv => arg 3; whnf
    exact Zd (ih _)
   ·conv => arg 3; whnf
    exact Zf rfl
  ·conv => arg 3; whnf
   exact Zd (ih _)
 ·conv => arg 3; whnf
  exact Zf rfl
theorem Zj2 {t0 : Bool} {t1 : Bool} {t2 : Bool} {t3 : Bool} {t4 : Bool} {t5 : Bool} {a : Zo} {b : Zs} : ∀ r, (Zef a b) = some r → evD ctx 56 [(.d (D.agg (dA t0 t1 t2 t3 a))), (.d (D.agg [(D.list t4 (List.map Zb b.work)), (D.list t5 (List.map Zb b.vals))]))] = some (Zhw r) := by
 show ZR _ (fun r rhs => rhs = some (Zhw r)) _
 unfold Zef
 rw [Zba ctx 56 ZwZ _ rfl rfl]
 conv => arg 3; whnf
 refine Zu (ZU _ _) ?_
 conv => arg 3; whnf
 refine Zu (ZU _ _) ?_
 conv => arg 3; whnf
 refine Ze rfl ?_ ?_
 ·conv => arg 3; whnf
  exact Zf rfl
 ·conv => arg 3; whnf
  refine Zu (ZU _ _) ?_
  conv => arg 3; whnf
  refine Zu (ZU _ _) ?_
  conv => arg 3; whnf
  refine Ze rfl ?_ ?_
  ·conv => arg 3; whnf
   exact Zf rfl
  ·conv => arg 3; whnf
   refine Zu (ZU _ _) ?_
   conv => arg 3; whnf
   refine Zc _ (Zis _) fun r3 hr3 => ?_
   clear hr3
   rcases r3 with r3 | r3
   ·conv => arg 3; whnf
    exact Zf rfl
   ·conv => arg 3; whnf
    refine Zu (ZU _ _) ?_
    conv => arg 3; whnf
    refine Zc _ (ZiC _) fun r7 hr7 => ?_
    clear hr7
    rcases r7 with r7 | r7
    ·conv => arg 3; whnf
     exact Zf rfl
    ·conv => arg 3; whnf
     refine Zl _ Zcx rfl fun x8 hx8 => ?_
     conv => arg 3; whnf
     refine Ze rfl ?_ ?_
     ·conv => arg 3; whnf
      exact Zf rfl
     ·conv => arg 3; whnf
      exact Zf rfl
def Zho (r : Int) : D := (Zb r)
theorem Zeb {t0 : Bool} {t1 : Bool} {t2 : Bool} {t3 : Bool} {t4 : Bool} {t5 : Bool} {a : Zo} {b : Zs} : ∀ r, (Zcz a b) = some r → evD ctx 31 [(.d (D.agg (dA t0 t1 t2 t3 a))), (.d (D.agg [(D.list t4 (List.map Zb b.work)), (D.list t5 (List.map Zb b.vals))]))] = some (Zho r) := by
 show ZR _ (fun r rhs => rhs = some (Zho r)) _
 unfold Zcz
 rw [Zba ctx 31 ZvT _ rfl rfl]
 conv => arg 3; whnf
 refine Zl _ ZfT rfl fun x0 hx0 => ?_
 conv => arg 3; whnf
 refine Ze rfl ?_ ?_
 ·conv => arg 3; whnf
  refine Zl _ Zj2 rfl fun x1 hx1 => ?_
  conv => arg 3; whnf
  refine Ze rfl ?_ ?_
  ·conv => arg 3; whnf
   exact Zf rfl
  ·conv => arg 3; whnf
   exact Zf rfl
 ·conv => arg 3; whnf
  exact Zf rfl
def ZhY (r : Bool) : D := (D.bool r)
def Zgl (t0 : Bool) (t1 : Bool) (t2 : Bool) (t3 : Bool) (t4 : Bool) (t5 : Bool) (a : Zo) (b : Zs) (c : Int) : (Unit ⊕ Unit) → Ex × List V × Zk
  | (.inl r) => (.exit 0, [(.d (D.bool true))], [])
  | (.inr r) => (.exit 0, [(.d (D.bool false))], [])
theorem Zi3 {t0 : Bool} {t1 : Bool} {t2 : Bool} {t3 : Bool} {t4 : Bool} {t5 : Bool} {a : Zo} {b : Zs} {c : Int} : ∀ (s3 : Int) (r : (Unit ⊕ Unit)), lp (Zcl a b c) s3 = some r → lpW ctx 0 [2, 3, 4, 7, 30, 31, 32] [7] Zpx [(.d (Zb c)), (.ptr 0 0), (.ptr 1 0), (.d (D.bool true)), (.d (D.list t2 (List.map Zw a.futures))), (.d (Zb (a.futures.length : Int))), (.d (Zb s3))] [(.cells (dV t0 t1 t2 t3 a)), (.cells [(.d (D.list t4 (List.map Zb b.work))), (.d (D.list t5 (List.map Zb b.vals)))])] = some ((Zgl t0 t1 t2 t3 t4 t5 a b c) r) := by
 refine ZaZ (Zgl t0 t1 t2 t3 t4 t5 a b c) ?_
 intro s3 rcl ih
 show ZR _ _ (lpW _ _ _ _ _ _ _)
 unfold Zcl
 rw [Za2]
 conv => arg 3; whnf
 refine Ze rfl ?_ ?_
 ·conv => arg 3; whnf
  refine Zj rfl rfl fun x4 hx4 => ?_
  conv => arg 3; whnf
  refine Ze rfl ?_ ?_
  ·conv => arg 3; whnf
   refine Zj rfl rfl fun x5 hx5 => ?_
   conv => arg 3; whnf
   refine Ze rfl ?_ ?_
   ·conv => arg 3; whnf
    refine Zl _ ZbF rfl fun x6 hx6 => ?_
    conv => arg 3; whnf
    refine Ze rfl ?_ ?_
    ·conv => arg 3; whnf
     exact Zf rfl
    ·conv => arg 3; whnf
     exact Zf rfl
   ·conv => arg 3; whnf
    exact Zd (ih _)
  ·conv => arg 3; whnf
   exact Zd (ih _)
 ·conv => arg 3; whnf
  exact Zf rfl
def Zfv (t0 : Bool) (t1 : Bool) (t2 : Bool) (t3 : Bool) (t4 : Bool) (t5 : Bool) (a : Zo) (b : Zs) (c : Int) : (Unit ⊕ Unit) → Ex × List V × Zk
  | (.inl r) => (.exit 0, [(.d (D.bool true))], [])
  | (.inr r) => (.exit 0, [(.d (D.bool false))], [])
theorem Zh9 {t0 : Bool} {t1 : Bool} {t2 : Bool} {t3 : Bool} {t4 : Bool} {t5 : Bool} {a : Zo} {b : Zs} {c : Int} : ∀ (s8 : Int) (r : (Unit ⊕ Unit)), lp (ZeO a b c) s8 = some r → lpW ctx 0 [2, 3, 4, 7, 30, 31, 32] [7] Zpx [(.d (Zb c)), (.ptr 0 0), (.ptr 1 0), (.d (D.bool true)), (.d (D.list t2 (List.map Zw a.futures))), (.d (Zb (a.futures.length : Int))), (.d (Zb s8))] [(.cells (dV t0 t1 t2 t3 a)), (.cells [(.d (D.list t4 (List.map Zb b.work))), (.d (D.list t5 (List.map Zb b.vals)))])] = some ((Zfv t0 t1 t2 t3 t4 t5 a b c) r) := by
 refine ZaZ (Zfv t0 t1 t2 t3 t4 t5 a b c) ?_
 intro s8 rcl ih
 show ZR _ _ (lpW _ _ _ _ _ _ _)
 unfold ZeO
 rw [Za2]
 conv => arg 3; whnf
 refine Ze rfl ?_ ?_
 ·conv => arg 3; whnf
  refine Zj rfl rfl fun x9 hx9 => ?_
  conv => arg 3; whnf
  refine Ze rfl ?_ ?_
  ·conv => arg 3; whnf
   refine Zj rfl rfl fun x10 hx10 => ?_
   conv => arg 3; whnf
   refine Ze rfl ?_ ?_
   ·conv => arg 3; whnf
    refine Zl _ ZbF rfl fun x11 hx11 => ?_
    conv => arg 3; whnf
    refine Ze rfl ?_ ?_
    ·conv => arg 3; whnf
     exact Zf rfl
    ·conv => arg 3; whnf
     exact Zf rfl
   ·conv => arg 3; whnf
    exact Zd (ih _)
  ·conv => arg 3; whnf
   exact Zd (ih _)
 ·conv => arg 3; whnf
  exact Zf rfl
theorem Zfq {t0 : Bool} {t1 : Bool} {t2 : Bool} {t3 : Bool} {t4 : Bool} {t5 : Bool} {a : Zo} {b : Zs} {c : Int} : ∀ r, (ZdA a b c) = some r → evD ctx 47 [(.d (D.agg (dA t0 t1 t2 t3 a))), (.d (D.agg [(D.list t4 (List.map Zb b.work)), (D.list t5 (List.map Zb b.vals))])), (.d (Zb c))] = some (ZhY r) := by
 show ZR _ (fun r rhs => rhs = some (ZhY r)) _
 unfold ZdA
 rw [Zba ctx 47 Zv7 _ rfl rfl]
 conv => arg 3; whnf
 refine Zl _ ZbF rfl fun x0 hx0 => ?_
 conv => arg 3; whnf
 refine Ze rfl ?_ ?_
 ·conv => arg 3; whnf
  exact Zf rfl
 ·conv => arg 3; whnf
  refine Zj rfl rfl fun x1 hx1 => ?_
  conv => arg 3; whnf
  refine Ze rfl ?_ ?_
  ·conv => arg 3; whnf
   refine Zl _ Zgh rfl fun x2 hx2 => ?_
   conv => arg 3; whnf
   refine Ze rfl ?_ ?_
   ·conv => arg 3; whnf
    refine Zu (ZU _ _) ?_
    conv => arg 3; whnf
    refine Zc _ (Zi3 _) fun r7 hr7 => ?_
    clear hr7
    rcases r7 with r7 | r7
    ·conv => arg 3; whnf
     exact Zf rfl
    ·conv => arg 3; whnf
     exact Zf rfl
   ·conv => arg 3; whnf
    exact Zf rfl
  ·conv => arg 3; whnf
   refine Zu (ZU _ _) ?_
   conv => arg 3; whnf
   refine Zc _ (Zh9 _) fun r12 hr12 => ?_
   clear hr12
   rcases r12 with r12 | r12
   ·conv => arg 3; whnf
    exact Zf rfl
   ·conv => arg 3; whnf
    exact Zf rfl
def Zif (r : (List Int)) : D := (D.list true (List.map Zb r))
def ZgT (t0 : Bool) (t1 : Bool) (t2 : Bool) (t3 : Bool) (t4 : Bool) (t5 : Bool) (a : Zo) (b : Zs) : (List Int) → Ex × List V × Zk
  | r => (.exit 0, [(.sl 0 1)], [(.arr 1 (List.map Zb r))])
theorem Zjm {t0 : Bool} {t1 : Bool} {t2 : Bool} {t3 : Bool} {t4 : Bool} {t5 : Bool} {a : Zo} {b : Zs} : ∀ (s0 : Int × (List Int)) (r : (List Int)), lp (Zds a b) s0 = some r → lpW ctx 0 [2, 3, 5, 9, 10] [5] ZsA [(.ptr 0 0), (.ptr 1 0), (.sl 2 1), (.d (Zb (a.parts.length : Int))), (.d (Zb s0.1))] [(.cells (dV t0 t1 t2 t3 a)), (.cells [(.d (D.list t4 (List.map Zb b.work))), (.d (D.list t5 (List.map Zb b.vals)))]), (.arr 1 (List.map Zb s0.2))] = some ((ZgT t0 t1 t2 t3 t4 t5 a b) r) := by
 refine ZaZ (ZgT t0 t1 t2 t3 t4 t5 a b) ?_
 intro s0 rcl ih
 show ZR _ _ (lpW _ _ _ _ _ _ _)
 unfold Zds
 rw [Za2]
 conv => arg 3; whnf
 refine Ze rfl ?_ ?_
 ·conv => arg 3; whnf
  refine Zl _ Zfq rfl fun x1 hx1 => ?_
  conv => arg 3; whnf
  refine Ze rfl ?_ ?_
  ·conv => arg 3; whnf
   refine Zcg rfl ?_
   conv => arg 3; whnf
   refine Ze (ZiR Zb s0.2 1) ?_ ?_
   ·conv => arg 3; whnf
    refine Zu (ZiN Zb s0.2 [s0.1]) ?_
    conv => arg 3; whnf
    exact Zd (ih _)
   ·exact ZaE
  ·conv => arg 3; whnf
   exact Zd (ih _)
 ·conv => arg 3; whnf
  exact Zf rfl
theorem Zlg {t0 : Bool} {t1 : Bool} {t2 : Bool} {t3 : Bool} {t4 : Bool} {t5 : Bool} {a : Zo} {b : Zs} : ∀ r, (Zfc a b) = some r → evD ctx 54 [(.d (D.agg (dA t0 t1 t2 t3 a))), (.d (D.agg [(D.list t4 (List.map Zb b.work)), (D.list t5 (List.map Zb b.vals))]))] = some (Zif r) := by
 show ZR _ (fun r rhs => rhs = some (Zif r)) _
 unfold Zfc
 rw [Zba ctx 54 ZwG _ rfl rfl]
 conv => arg 3; whnf
 refine Zu (ZU _ _) ?_
 conv => arg 3; whnf
 refine Zc _ (Zjm _) fun r2 hr2 => ?_
 conv => arg 3; whnf
 exact Zf rfl
def Ziv (r : (List Int)) : D := (D.list true (List.map Zb r))
theorem Zlf {t0 : Bool} {t1 : Bool} {t2 : Bool} {t3 : Bool} {t4 : Bool} {t5 : Bool} {a : Zo} {b : Zs} : ∀ r, (Zfb a b) = some r → evD ctx 28 [(.d (D.agg (dA t0 t1 t2 t3 a))), (.d (D.agg [(D.list t4 (List.map Zb b.work)), (D.list t5 (List.map Zb b.vals))]))] = some (Ziv r) := by
 show ZR _ (fun r rhs => rhs = some (Ziv r)) _
 unfold Zfb
 rw [Zba ctx 28 Zwn _ rfl rfl]
 conv => arg 3; whnf
 refine Zl _ Zeb rfl fun x0 hx0 => ?_
 conv => arg 3; whnf
 refine Ze rfl ?_ ?_
 ·conv => arg 3; whnf
  exact Zf rfl
 ·conv => arg 3; whnf
  refine Zl _ Zlg rfl fun x1 hx1 => ?_
  conv => arg 3; whnf
  exact Zf rfl
def Zej (t0 : Bool) (a : (List Int)) : Unit → V × Zk
  | r => ((.sl 0 1), [(.arr 1 (List.map Zb a))])
theorem Zee {t0 : Bool} {a : (List Int)} : ∀ r, (Zbe a) = some r → evW ctx 74 [(.d (D.list t0 (List.map Zb a)))] [] = some ((Zej t0 a) r) := by
 show ZR _ (fun r rhs => rhs = some ((Zej t0 a) r)) _
 unfold Zbe
 rw [Ze7 ctx 74 ZvG _ _ rfl rfl]
 conv => arg 3; whnf
 refine Ze (Zuj Zb a) ?_ ?_
 ·conv => arg 3; whnf
  refine Zcg (Zfu (f := Zb) (fun _ => ⟨rfl, rfl⟩) a 0) ?_
  conv => arg 3; whnf
  refine Ze (ZfB Zb a) ?_ ?_
  ·conv => arg 3; whnf
   refine Zu (rfl : _ = List.map Zb a) ?_
   conv => arg 3; whnf
   exact Zf rfl
  ·exact ZaE
 ·exact ZaE
def Zgw (r : Int) : D := (Zb r)
theorem ZA {t0 : Bool} {t1 : Bool} {t2 : Bool} {t3 : Bool} {a : Int} {b : Int} {c0 : Int} {c1 : Int} {c2 : (List ZK)} {c3 : (List ZI)} {c4 : (List Zq)} {c5 : (List Zm)} : ∀ r, (Zp a b c4) = some r → evD ctx 118 [(.d (Zb a)), (.d (Zb b)), (.d (D.rptr [(Zb c0), (Zb c1), (D.list t0 (List.map ZV c2)), (D.list t1 (List.map ZQ c3)), (D.list t2 (List.map Zw c4)), (D.list t3 (List.map Zr c5))]))] = some (Zgw r) := by
 show ZR _ (fun r rhs => rhs = some (Zgw r)) _
 unfold Zp
 rw [Zba ctx 118 Zsy _ rfl rfl]
 conv => arg 3; whnf
 refine Zj rfl rfl fun x0 hx0 => ?_
 conv => arg 3; whnf
 refine Zj rfl rfl fun x1 hx1 => ?_
 conv => arg 3; whnf
 exact Zf rfl
def Zf5 (r : Int) : D := (Zb r)
theorem Zin {a : Int} : ∀ r, (Ze0 a) = some r → evD ctx 135 [(.d (D.int .u64 a))] = some (Zf5 r) := by
 show ZR _ (fun r rhs => rhs = some (Zf5 r)) _
 unfold Ze0
 rw [Zba ctx 135 Ztt _ rfl rfl]
 conv => arg 3; whnf
 refine Ze rfl ?_ ?_
 ·conv => arg 3; whnf
  refine Zad rfl ?_
  conv => arg 3; whnf
  refine Ze rfl ?_ ?_
  ·conv => arg 3; whnf
   refine Zad rfl ?_
   conv => arg 3; whnf
   refine Ze rfl ?_ ?_
   ·conv => arg 3; whnf
    refine Zad rfl ?_
    conv => arg 3; whnf
    refine Ze rfl ?_ ?_
    ·conv => arg 3; whnf
     refine ZfA rfl fun x0 hx0 => ?_
     conv => arg 3; whnf
     exact Zf rfl
    ·exact ZaE
   ·conv => arg 3; whnf
    refine Ze rfl ?_ ?_
    ·conv => arg 3; whnf
     refine ZfA rfl fun x1 hx1 => ?_
     conv => arg 3; whnf
     exact Zf rfl
    ·exact ZaE
  ·conv => arg 3; whnf
   refine Ze rfl ?_ ?_
   ·conv => arg 3; whnf
    refine Zad rfl ?_
    conv => arg 3; whnf
    refine Ze rfl ?_ ?_
    ·conv => arg 3; whnf
     refine ZfA rfl fun x2 hx2 => ?_
     conv => arg 3; whnf
     exact Zf rfl
    ·exact ZaE
   ·conv => arg 3; whnf
    refine Ze rfl ?_ ?_
    ·conv => arg 3; whnf
     refine ZfA rfl fun x3 hx3 => ?_
     conv => arg 3; whnf
     exact Zf rfl
    ·exact ZaE
 ·conv => arg 3; whnf
  refine Ze rfl ?_ ?_
  ·conv => arg 3; whnf
   refine Zad rfl ?_
   conv => arg 3; whnf
   refine Ze rfl ?_ ?_
   ·conv => arg 3; whnf
    refine Zad rfl ?_
    conv => arg 3; whnf
    refine Ze rfl ?_ ?_
    ·conv => arg 3; whnf
     refine ZfA rfl fun x4 hx4 => ?_
     conv => arg 3; whnf
     exact Zf rfl
    ·exact ZaE
   ·conv => arg 3; whnf
    refine Ze rfl ?_ ?_
    ·conv => arg 3; whnf
     refine ZfA rfl fun x5 hx5 => ?_
     conv => arg 3; whnf
     exact Zf rfl
    ·exact ZaE
  ·conv => arg 3; whnf
   refine Ze rfl ?_ ?_
   ·conv => arg 3; whnf
    refine Zad rfl ?_
    conv => arg 3; whnf
    refine Ze rfl ?_ ?_
    ·conv => arg 3; whnf
     refine ZfA rfl fun x6 hx6 => ?_
     conv => arg 3; whnf
     exact Zf rfl
    ·exact ZaE
   ·conv => arg 3; whnf
    refine Ze rfl ?_ ?_
    ·conv => arg 3; whnf
     refine ZfA rfl fun x7 hx7 => ?_
     conv => arg 3; whnf
     exact Zf rfl
    ·exact ZaE
def ZgN (r : Int) : D := (Zb r)
theorem Zgu {a : Int} : ∀ r, (Zdo a) = some r → evD ctx 125 [(.d (D.int .u64 a))] = some (ZgN r) := by
 show ZR _ (fun r rhs => rhs = some (ZgN r)) _
 unfold Zdo
 rw [Zba ctx 125 Zsw _ rfl rfl]
 conv => arg 3; whnf
 refine Zl _ Zin rfl fun x0 hx0 => ?_
 conv => arg 3; whnf
 exact Zf rfl
def Zbq (t0 : Bool) (t1 : Bool) (t2 : Bool) (t3 : Bool) (b : Int) (c : Int) (m0_0 : (List Int)) (m1_0 : Int) (m1_1 : Int) (m1_2 : (List ZK)) (m1_3 : (List ZI)) (m1_4 : (List Zq)) (m1_5 : (List Zm)) : (List Int) → V × Zk
  | r => ((.d (D.tup [])), [(.arr 1 (List.map Zb r)), (.cells [(.d (Zb m1_0)), (.d (Zb m1_1)), (.d (D.list t0 (List.map ZV m1_2))), (.d (D.list t1 (List.map ZQ m1_3))), (.d (D.list t2 (List.map Zw m1_4))), (.d (D.list t3 (List.map Zr m1_5)))])])
def Zbd (t0 : Bool) (t1 : Bool) (t2 : Bool) (t3 : Bool) (b : Int) (c : Int) (m1_0 : Int) (m1_1 : Int) (m1_2 : (List ZK)) (m1_3 : (List ZI)) (m1_4 : (List Zq)) (m1_5 : (List Zm)) (s0 : Int × (List Int)) : (List Int) → Ex × List V × Zk
  | r => (.exit 2, [(.sl 0 1), (.d (Zb b)), (.d (Zb c)), (.fn 118 [(.ptr 1 0)]), (.d (Zb s0.1))], [(.arr 1 (List.map Zb r)), (.cells [(.d (Zb m1_0)), (.d (Zb m1_1)), (.d (D.list t0 (List.map ZV m1_2))), (.d (D.list t1 (List.map ZQ m1_3))), (.d (D.list t2 (List.map Zw m1_4))), (.d (D.list t3 (List.map Zr m1_5)))])])
theorem ZcD {t0 : Bool} {t1 : Bool} {t2 : Bool} {t3 : Bool} {b : Int} {c : Int} {m1_0 : Int} {m1_1 : Int} {m1_2 : (List ZK)} {m1_3 : (List ZI)} {m1_4 : (List Zq)} {m1_5 : (List Zm)} {s0 : Int × (List Int)} : ∀ (s1 : Int × (List Int)) (r : (List Int)), lp (ZS b (fun z0 z1 => Zp z0 z1 m1_4)) s1 = some r → lpW ctx 2 [0, 1, 2, 3, 8, 9] [0, 1, 2, 3, 8] Zqx [(.sl 0 1), (.d (Zb b)), (.d (Zb c)), (.fn 118 [(.ptr 1 0)]), (.d (Zb s0.1)), (.d (Zb s1.1))] [(.arr 1 (List.map Zb s1.2)), (.cells [(.d (Zb m1_0)), (.d (Zb m1_1)), (.d (D.list t0 (List.map ZV m1_2))), (.d (D.list t1 (List.map ZQ m1_3))), (.d (D.list t2 (List.map Zw m1_4))), (.d (D.list t3 (List.map Zr m1_5)))])] = some ((Zbd t0 t1 t2 t3 b c m1_0 m1_1 m1_2 m1_3 m1_4 m1_5 s0) r) := by
 refine ZaZ (Zbd t0 t1 t2 t3 b c m1_0 m1_1 m1_2 m1_3 m1_4 m1_5 s0) ?_
 intro s1 rcl ih
 show ZR _ _ (lpW _ _ _ _ _ _ _)
 unfold ZS
 rw [Za2]
 conv => arg 3; whnf
 refine Ze rfl ?_ ?_
 ·conv => arg 3; whnf
  refine Zj rfl rfl fun x2 hx2 => ?_
  conv => arg 3; whnf
  refine Zg (Zx rfl hx2) ?_
  conv => arg 3; whnf
  refine Zj rfl rfl fun x3 hx3 => ?_
  conv => arg 3; whnf
  refine Zg (Zx rfl hx3) ?_
  conv => arg 3; whnf
  refine Zl _ ZA rfl fun x4 hx4 => ?_
  conv => arg 3; whnf
  refine Ze rfl ?_ ?_
  ·conv => arg 3; whnf
   refine Zg (Zbj rfl hx3) ?_
   conv => arg 3; whnf
   refine Zg (Zx rfl hx3) ?_
   conv => arg 3; whnf
   refine Zg (Zbj rfl hx2) ?_
   conv => arg 3; whnf
   refine Zg (Zx rfl hx2) ?_
   conv => arg 3; whnf
   refine Zg (Zbj rfl hx2) ?_
   conv => arg 3; whnf
   refine Zg (Zx rfl hx2) ?_
   conv => arg 3; whnf
   refine Zu (Zat Zb s1.2 s1.1.toNat x3) ?_
   conv => arg 3; whnf
   refine Zj rfl rfl fun x5 hx5 => ?_
   conv => arg 3; whnf
   refine Zg (Zx rfl hx5) ?_
   conv => arg 3; whnf
   refine Zu (Zat Zb (List.set s1.2 s1.1.toNat x3) (w64 (s1.1 - 1)).toNat x2) ?_
   conv => arg 3; whnf
   exact Zd (ih _)
  ·conv => arg 3; whnf
   exact Zf rfl
 ·conv => arg 3; whnf
  exact Zf rfl
def Zbb (t0 : Bool) (t1 : Bool) (t2 : Bool) (t3 : Bool) (b : Int) (c : Int) (m1_0 : Int) (m1_1 : Int) (m1_2 : (List ZK)) (m1_3 : (List ZI)) (m1_4 : (List Zq)) (m1_5 : (List Zm)) : (List Int) → Ex × List V × Zk
  | r => (.exit 0, [], [(.arr 1 (List.map Zb r)), (.cells [(.d (Zb m1_0)), (.d (Zb m1_1)), (.d (D.list t0 (List.map ZV m1_2))), (.d (D.list t1 (List.map ZQ m1_3))), (.d (D.list t2 (List.map Zw m1_4))), (.d (D.list t3 (List.map Zr m1_5)))])])
theorem ZcF {t0 : Bool} {t1 : Bool} {t2 : Bool} {t3 : Bool} {b : Int} {c : Int} {m1_0 : Int} {m1_1 : Int} {m1_2 : (List ZK)} {m1_3 : (List ZI)} {m1_4 : (List Zq)} {m1_5 : (List Zm)} : ∀ (s0 : Int × (List Int)) (r : (List Int)), lp (Zac b c (fun z0 z1 => Zp z0 z1 m1_4)) s0 = some r → lpW ctx 2 [0, 1, 2, 3, 8] [] Zqv [(.sl 0 1), (.d (Zb b)), (.d (Zb c)), (.fn 118 [(.ptr 1 0)]), (.d (Zb s0.1))] [(.arr 1 (List.map Zb s0.2)), (.cells [(.d (Zb m1_0)), (.d (Zb m1_1)), (.d (D.list t0 (List.map ZV m1_2))), (.d (D.list t1 (List.map ZQ m1_3))), (.d (D.list t2 (List.map Zw m1_4))), (.d (D.list t3 (List.map Zr m1_5)))])] = some ((Zbb t0 t1 t2 t3 b c m1_0 m1_1 m1_2 m1_3 m1_4 m1_5) r) := by
 refine ZaZ (Zbb t0 t1 t2 t3 b c m1_0 m1_1 m1_2 m1_3 m1_4 m1_5) ?_
 intro s0 rcl ih
 show ZR _ _ (lpW _ _ _ _ _ _ _)
 unfold Zac
 rw [Za2]
 conv => arg 3; whnf
 refine Ze rfl ?_ ?_
 ·conv => arg 3; whnf
  refine Zc _ (ZcD _) fun r6 hr6 => ?_
  conv => arg 3; whnf
  exact Zd (ih _)
 ·conv => arg 3; whnf
  exact Zf rfl
theorem Z3 {t0 : Bool} {t1 : Bool} {t2 : Bool} {t3 : Bool} {b : Int} {c : Int} {m0_0 : (List Int)} {m1_0 : Int} {m1_1 : Int} {m1_2 : (List ZK)} {m1_3 : (List ZI)} {m1_4 : (List Zq)} {m1_5 : (List Zm)} : ∀ r, (ZP b c (fun z0 z1 => Zp z0 z1 m1_4) m0_0) = some r → evW ctx 126 [(.sl 0 1), (.d (Zb b)), (.d (Zb c)), (.fn 118 [(.ptr 1 0)])] [(.arr 1 (List.map Zb m0_0)), (.cells [(.d (Zb m1_0)), (.d (Zb m1_1)), (.d (D.list t0 (List.map ZV m1_2))), (.d (D.list t1 (List.map ZQ m1_3))), (.d (D.list t2 (List.map Zw m1_4))), (.d (D.list t3 (List.map Zr m1_5)))])] = some ((Zbq t0 t1 t2 t3 b c m0_0 m1_0 m1_1 m1_2 m1_3 m1_4 m1_5) r) := by
 show ZR _ (fun r rhs => rhs = some ((Zbq t0 t1 t2 t3 b c m0_0 m1_0 m1_1 m1_2 m1_3 m1_4 m1_5) r)) _
 unfold ZP
 rw [Ze7 ctx 126 Ztb _ _ rfl rfl]
 conv => arg 3; whnf
 refine Zc _ (ZcF _) fun r7 hr7 => ?_
 conv => arg 3; whnf
 exact Zf rfl
def ZbS (t0 : Bool) (t1 : Bool) (t2 : Bool) (t3 : Bool) (b : Int) (c : Int) (d : Int) (m0_0 : (List Int)) (m1_0 : Int) (m1_1 : Int) (m1_2 : (List ZK)) (m1_3 : (List ZI)) (m1_4 : (List Zq)) (m1_5 : (List Zm)) : (List Int) → V × Zk
  | r => ((.d (D.tup [])), [(.arr 1 (List.map Zb r)), (.cells [(.d (Zb m1_0)), (.d (Zb m1_1)), (.d (D.list t0 (List.map ZV m1_2))), (.d (D.list t1 (List.map ZQ m1_3))), (.d (D.list t2 (List.map Zw m1_4))), (.d (D.list t3 (List.map Zr m1_5)))])])
def ZbE (t0 : Bool) (t1 : Bool) (t2 : Bool) (t3 : Bool) (c : Int) (d : Int) (m1_0 : Int) (m1_1 : Int) (m1_2 : (List ZK)) (m1_3 : (List ZI)) (m1_4 : (List Zq)) (m1_5 : (List Zm)) : ((List Int) ⊕ (List Int)) → Ex × List V × Zk
  | (.inl r) => (.exit 0, [], [(.arr 1 (List.map Zb r)), (.cells [(.d (Zb m1_0)), (.d (Zb m1_1)), (.d (D.list t0 (List.map ZV m1_2))), (.d (D.list t1 (List.map ZQ m1_3))), (.d (D.list t2 (List.map Zw m1_4))), (.d (D.list t3 (List.map Zr m1_5)))])])
  | (.inr r) => (.ret, [], [(.arr 1 (List.map Zb r)), (.cells [(.d (Zb m1_0)), (.d (Zb m1_1)), (.d (D.list t0 (List.map ZV m1_2))), (.d (D.list t1 (List.map ZQ m1_3))), (.d (D.list t2 (List.map Zw m1_4))), (.d (D.list t3 (List.map Zr m1_5)))])])
theorem Zdd {t0 : Bool} {t1 : Bool} {t2 : Bool} {t3 : Bool} {c : Int} {d : Int} {m1_0 : Int} {m1_1 : Int} {m1_2 : (List ZK)} {m1_3 : (List ZI)} {m1_4 : (List Zq)} {m1_5 : (List Zm)} : ∀ (s0 : Int × (List Int)) (r : ((List Int) ⊕ (List Int))), lp (ZD c d (fun z0 z1 => Zp z0 z1 m1_4)) s0 = some r → lpW ctx 2 [0, 2, 3, 4, 10] [] Zqs [(.sl 0 1), (.d (Zb c)), (.d (Zb d)), (.fn 118 [(.ptr 1 0)]), (.d (Zb s0.1))] [(.arr 1 (List.map Zb s0.2)), (.cells [(.d (Zb m1_0)), (.d (Zb m1_1)), (.d (D.list t0 (List.map ZV m1_2))), (.d (D.list t1 (List.map ZQ m1_3))), (.d (D.list t2 (List.map Zw m1_4))), (.d (D.list t3 (List.map Zr m1_5)))])] = some ((ZbE t0 t1 t2 t3 c d m1_0 m1_1 m1_2 m1_3 m1_4 m1_5) r) := by
 refine ZaZ (ZbE t0 t1 t2 t3 c d m1_0 m1_1 m1_2 m1_3 m1_4 m1_5) ?_
 intro s0 rcl ih
 show ZR _ _ (lpW _ _ _ _ _ _ _)
 unfold ZD
 rw [Za2]
 conv => arg 3; whnf
 refine Ze rfl ?_ ?_
 ·conv => arg 3; whnf
  exact Zf rfl
 ·conv => arg 3; whnf
  refine Ze rfl ?_ ?_
  ·conv => arg 3; whnf
   refine Zj rfl rfl fun x1 hx1 => ?_
   conv => arg 3; whnf
   refine Zg (Zx rfl hx1) ?_
   conv => arg 3; whnf
   refine Zj rfl rfl fun x2 hx2 => ?_
   conv => arg 3; whnf
   refine Zg (Zx rfl hx2) ?_
   conv => arg 3; whnf
   refine Zl _ ZA rfl fun x3 hx3 => ?_
   conv => arg 3; whnf
   refine Ze rfl ?_ ?_
   ·conv => arg 3; whnf
    refine Zj rfl rfl fun x4 hx4 => ?_
    conv => arg 3; whnf
    refine Zg (Zx rfl hx4) ?_
    conv => arg 3; whnf
    refine Zj rfl rfl fun x5 hx5 => ?_
    conv => arg 3; whnf
    refine Zg (Zx rfl hx5) ?_
    conv => arg 3; whnf
    refine Zl _ ZA rfl fun x6 hx6 => ?_
    conv => arg 3; whnf
    refine Ze rfl ?_ ?_
    ·conv => arg 3; whnf
     refine Zg (Zbj rfl hx5) ?_
     conv => arg 3; whnf
     refine Zg (Zx rfl hx5) ?_
     conv => arg 3; whnf
     refine Zg (Zbj rfl hx4) ?_
     conv => arg 3; whnf
     refine Zg (Zx rfl hx4) ?_
     conv => arg 3; whnf
     refine Zg (Zbj rfl hx4) ?_
     conv => arg 3; whnf
     refine Zg (Zx rfl hx4) ?_
     conv => arg 3; whnf
     refine Zu (Zat Zb s0.2 (w64 (d + s0.1)).toNat x5) ?_
     conv => arg 3; whnf
     refine Zj rfl rfl fun x7 hx7 => ?_
     conv => arg 3; whnf
     refine Zg (Zx rfl hx7) ?_
     conv => arg 3; whnf
     refine Zu (Zat Zb (List.set s0.2 (w64 (d + s0.1)).toNat x5) (w64 (d + (w64 ((w64 ((w64 (2 * s0.1)) + 1)) + 1)))).toNat x4) ?_
     conv => arg 3; whnf
     exact Zd (ih _)
    ·conv => arg 3; whnf
     exact Zf rfl
   ·conv => arg 3; whnf
    refine Zj rfl rfl fun x8 hx8 => ?_
    conv => arg 3; whnf
    refine Zg (Zx rfl hx8) ?_
    conv => arg 3; whnf
    refine Zg (Zbj rfl hx1) ?_
    conv => arg 3; whnf
    refine Zg (Zx rfl hx1) ?_
    conv => arg 3; whnf
    refine Zl _ ZA rfl fun x9 hx9 => ?_
    conv => arg 3; whnf
    refine Ze rfl ?_ ?_
    ·conv => arg 3; whnf
     refine Zg (Zbj rfl hx1) ?_
     conv => arg 3; whnf
     refine Zg (Zx rfl hx1) ?_
     conv => arg 3; whnf
     refine Zg (Zbj rfl hx8) ?_
     conv => arg 3; whnf
     refine Zg (Zx rfl hx8) ?_
     conv => arg 3; whnf
     refine Zg (Zbj rfl hx8) ?_
     conv => arg 3; whnf
     refine Zg (Zx rfl hx8) ?_
     conv => arg 3; whnf
     refine Zu (Zat Zb s0.2 (w64 (d + s0.1)).toNat x1) ?_
     conv => arg 3; whnf
     refine Zj rfl rfl fun x10 hx10 => ?_
     conv => arg 3; whnf
     refine Zg (Zx rfl hx10) ?_
     conv => arg 3; whnf
     refine Zu (Zat Zb (List.set s0.2 (w64 (d + s0.1)).toNat x1) (w64 (d + (w64 ((w64 (2 * s0.1)) + 1)))).toNat x8) ?_
     conv => arg 3; whnf
     exact Zd (ih _)
    ·conv => arg 3; whnf
     exact Zf rfl
  ·conv => arg 3; whnf
   refine Zj rfl rfl fun x11 hx11 => ?_
   conv => arg 3; whnf
   refine Zg (Zx rfl hx11) ?_
   conv => arg 3; whnf
   refine Zj rfl rfl fun x12 hx12 => ?_
   conv => arg 3; whnf
   refine Zg (Zx rfl hx12) ?_
   conv => arg 3; whnf
   refine Zl _ ZA rfl fun x13 hx13 => ?_
   conv => arg 3; whnf
   refine Ze rfl ?_ ?_
   ·conv => arg 3; whnf
    refine Zg (Zbj rfl hx12) ?_
    conv => arg 3; whnf
    refine Zg (Zx rfl hx12) ?_
    conv => arg 3; whnf
    refine Zg (Zbj rfl hx11) ?_
    conv => arg 3; whnf
    refine Zg (Zx rfl hx11) ?_
    conv => arg 3; whnf
    refine Zg (Zbj rfl hx11) ?_
    conv => arg 3; whnf
    refine Zg (Zx rfl hx11) ?_
    conv => arg 3; whnf
    refine Zu (Zat Zb s0.2 (w64 (d + s0.1)).toNat x12) ?_
    conv => arg 3; whnf
    refine Zj rfl rfl fun x14 hx14 => ?_
    conv => arg 3; whnf
    refine Zg (Zx rfl hx14) ?_
    conv => arg 3; whnf
    refine Zu (Zat Zb (List.set s0.2 (w64 (d + s0.1)).toNat x12) (w64 (d + (w64 ((w64 (2 * s0.1)) + 1)))).toNat x11) ?_
    conv => arg 3; whnf
    exact Zd (ih _)
   ·conv => arg 3; whnf
    exact Zf rfl
theorem ZbP {t0 : Bool} {t1 : Bool} {t2 : Bool} {t3 : Bool} {b : Int} {c : Int} {d : Int} {m0_0 : (List Int)} {m1_0 : Int} {m1_1 : Int} {m1_2 : (List ZK)} {m1_3 : (List ZI)} {m1_4 : (List Zq)} {m1_5 : (List Zm)} : ∀ r, (Zas b c d (fun z0 z1 => Zp z0 z1 m1_4) m0_0) = some r → evW ctx 136 [(.sl 0 1), (.d (Zb b)), (.d (Zb c)), (.d (Zb d)), (.fn 118 [(.ptr 1 0)])] [(.arr 1 (List.map Zb m0_0)), (.cells [(.d (Zb m1_0)), (.d (Zb m1_1)), (.d (D.list t0 (List.map ZV m1_2))), (.d (D.list t1 (List.map ZQ m1_3))), (.d (D.list t2 (List.map Zw m1_4))), (.d (D.list t3 (List.map Zr m1_5)))])] = some ((ZbS t0 t1 t2 t3 b c d m0_0 m1_0 m1_1 m1_2 m1_3 m1_4 m1_5) r) := by
 show ZR _ (fun r rhs => rhs = some ((ZbS t0 t1 t2 t3 b c d m0_0 m1_0 m1_1 m1_2 m1_3 m1_4 m1_5) r)) _
 unfold Zas
 rw [Ze7 ctx 136 Zsc _ _ rfl rfl]
 conv => arg 3; whnf
 refine Zc _ (Zdd _) fun r15 hr15 => ?_
 clear hr15
 rcases r15 with r15 | r15
 ·conv => arg 3; whnf
  exact Zf rfl
 ·conv => arg 3; whnf
  exact Zf rfl
def ZbT (t0 : Bool) (t1 : Bool) (t2 : Bool) (t3 : Bool) (b : Int) (c : Int) (m0_0 : (List Int)) (m1_0 : Int) (m1_1 : Int) (m1_2 : (List ZK)) (m1_3 : (List ZI)) (m1_4 : (List Zq)) (m1_5 : (List Zm)) : (List Int) → V × Zk
  | r => ((.d (D.tup [])), [(.arr 1 (List.map Zb r)), (.cells [(.d (Zb m1_0)), (.d (Zb m1_1)), (.d (D.list t0 (List.map ZV m1_2))), (.d (D.list t1 (List.map ZQ m1_3))), (.d (D.list t2 (List.map Zw m1_4))), (.d (D.list t3 (List.map Zr m1_5)))])])
def ZbD (t0 : Bool) (t1 : Bool) (t2 : Bool) (t3 : Bool) (b : Int) (c : Int) (m1_0 : Int) (m1_1 : Int) (m1_2 : (List ZK)) (m1_3 : (List ZI)) (m1_4 : (List Zq)) (m1_5 : (List Zm)) : (List Int) → Ex × List V × Zk
  | r => (.exit 0, [(.sl 0 1), (.fn 118 [(.ptr 1 0)]), (.d (Zb b)), (.d (Zb 0)), (.d (Zb (w64 (c - b))))], [(.arr 1 (List.map Zb r)), (.cells [(.d (Zb m1_0)), (.d (Zb m1_1)), (.d (D.list t0 (List.map ZV m1_2))), (.d (D.list t1 (List.map ZQ m1_3))), (.d (D.list t2 (List.map Zw m1_4))), (.d (D.list t3 (List.map Zr m1_5)))])])
theorem Zdb {t0 : Bool} {t1 : Bool} {t2 : Bool} {t3 : Bool} {b : Int} {c : Int} {m1_0 : Int} {m1_1 : Int} {m1_2 : (List ZK)} {m1_3 : (List ZI)} {m1_4 : (List Zq)} {m1_5 : (List Zm)} : ∀ (s0 : Int × (List Int)) (r : (List Int)), lp (Zaw b c (fun z0 z1 => Zp z0 z1 m1_4)) s0 = some r → lpW ctx 2 [0, 3, 8, 9, 10, 11] [0, 3, 8, 9, 10] ZqR [(.sl 0 1), (.fn 118 [(.ptr 1 0)]), (.d (Zb b)), (.d (Zb 0)), (.d (Zb (w64 (c - b)))), (.d (Zb s0.1))] [(.arr 1 (List.map Zb s0.2)), (.cells [(.d (Zb m1_0)), (.d (Zb m1_1)), (.d (D.list t0 (List.map ZV m1_2))), (.d (D.list t1 (List.map ZQ m1_3))), (.d (D.list t2 (List.map Zw m1_4))), (.d (D.list t3 (List.map Zr m1_5)))])] = some ((ZbD t0 t1 t2 t3 b c m1_0 m1_1 m1_2 m1_3 m1_4 m1_5) r) := by
 refine ZaZ (ZbD t0 t1 t2 t3 b c m1_0 m1_1 m1_2 m1_3 m1_4 m1_5) ?_
 intro s0 rcl ih
 show ZR _ _ (lpW _ _ _ _ _ _ _)
 unfold Zaw
 rw [Za2]
 conv => arg 3; whnf
 refine Ze rfl ?_ ?_
 ·conv => arg 3; whnf
  refine Zc _ ZbP fun x1 hx1 => ?_
  conv => arg 3; whnf
  exact Zd (ih _)
 ·conv => arg 3; whnf
  exact Zf rfl
def ZbC (t0 : Bool) (t1 : Bool) (t2 : Bool) (t3 : Bool) (b : Int) (m1_0 : Int) (m1_1 : Int) (m1_2 : (List ZK)) (m1_3 : (List ZI)) (m1_4 : (List Zq)) (m1_5 : (List Zm)) : (List Int) → Ex × List V × Zk
  | r => (.exit 2, [], [(.arr 1 (List.map Zb r)), (.cells [(.d (Zb m1_0)), (.d (Zb m1_1)), (.d (D.list t0 (List.map ZV m1_2))), (.d (D.list t1 (List.map ZQ m1_3))), (.d (D.list t2 (List.map Zw m1_4))), (.d (D.list t3 (List.map Zr m1_5)))])])
theorem Zde {t0 : Bool} {t1 : Bool} {t2 : Bool} {t3 : Bool} {b : Int} {m1_0 : Int} {m1_1 : Int} {m1_2 : (List ZK)} {m1_3 : (List ZI)} {m1_4 : (List Zq)} {m1_5 : (List Zm)} : ∀ (s3 : Int × (List Int)) (r : (List Int)), lp (Zax b (fun z0 z1 => Zp z0 z1 m1_4)) s3 = some r → lpW ctx 2 [0, 3, 8, 9, 12] [] ZqN [(.sl 0 1), (.fn 118 [(.ptr 1 0)]), (.d (Zb b)), (.d (Zb 0)), (.d (Zb s3.1))] [(.arr 1 (List.map Zb s3.2)), (.cells [(.d (Zb m1_0)), (.d (Zb m1_1)), (.d (D.list t0 (List.map ZV m1_2))), (.d (D.list t1 (List.map ZQ m1_3))), (.d (D.list t2 (List.map Zw m1_4))), (.d (D.list t3 (List.map Zr m1_5)))])] = some ((ZbC t0 t1 t2 t3 b m1_0 m1_1 m1_2 m1_3 m1_4 m1_5) r) := by
 refine ZaZ (ZbC t0 t1 t2 t3 b m1_0 m1_1 m1_2 m1_3 m1_4 m1_5) ?_
 intro s3 rcl ih
 show ZR _ _ (lpW _ _ _ _ _ _ _)
 unfold Zax
 rw [Za2]
 conv => arg 3; whnf
 refine Ze rfl ?_ ?_
 ·conv => arg 3; whnf
  refine Zj rfl rfl fun x4 hx4 => ?_
  conv => arg 3; whnf
  refine Zg (Zx rfl hx4) ?_
  conv => arg 3; whnf
  refine Zj rfl rfl fun x5 hx5 => ?_
  conv => arg 3; whnf
  refine Zg (Zx rfl hx5) ?_
  conv => arg 3; whnf
  refine Zg (Zbj rfl hx5) ?_
  conv => arg 3; whnf
  refine Zg (Zx rfl hx5) ?_
  conv => arg 3; whnf
  refine Zu (Zat Zb s3.2 b.toNat x4) ?_
  conv => arg 3; whnf
  refine Zj rfl rfl fun x6 hx6 => ?_
  conv => arg 3; whnf
  refine Zg (Zx rfl hx6) ?_
  conv => arg 3; whnf
  refine Zu (Zat Zb (List.set s3.2 b.toNat x4) (w64 (b + s3.1)).toNat x5) ?_
  conv => arg 3; whnf
  refine Zc _ ZbP fun x7 hx7 => ?_
  conv => arg 3; whnf
  exact Zd (ih _)
 ·conv => arg 3; whnf
  exact Zf rfl
theorem Zai {t0 : Bool} {t1 : Bool} {t2 : Bool} {t3 : Bool} {b : Int} {c : Int} {m0_0 : (List Int)} {m1_0 : Int} {m1_1 : Int} {m1_2 : (List ZK)} {m1_3 : (List ZI)} {m1_4 : (List Zq)} {m1_5 : (List Zm)} : ∀ r, (Z1 b c (fun z0 z1 => Zp z0 z1 m1_4) m0_0) = some r → evW ctx 127 [(.sl 0 1), (.d (Zb b)), (.d (Zb c)), (.fn 118 [(.ptr 1 0)])] [(.arr 1 (List.map Zb m0_0)), (.cells [(.d (Zb m1_0)), (.d (Zb m1_1)), (.d (D.list t0 (List.map ZV m1_2))), (.d (D.list t1 (List.map ZQ m1_3))), (.d (D.list t2 (List.map Zw m1_4))), (.d (D.list t3 (List.map Zr m1_5)))])] = some ((ZbT t0 t1 t2 t3 b c m0_0 m1_0 m1_1 m1_2 m1_3 m1_4 m1_5) r) := by
 show ZR _ (fun r rhs => rhs = some ((ZbT t0 t1 t2 t3 b c m0_0 m1_0 m1_1 m1_2 m1_3 m1_4 m1_5) r)) _
 unfold Z1
 rw [Ze7 ctx 127 Zsh _ _ rfl rfl]
 conv => arg 3; whnf
 refine Zad rfl ?_
 conv => arg 3; whnf
 refine Zc _ (Zdb _) fun r2 hr2 => ?_
 conv => arg 3; whnf
 refine Zc _ (Zde _) fun r8 hr8 => ?_
 conv => arg 3; whnf
 exact Zf rfl
def Zb0 (t0 : Bool) (t1 : Bool) (t2 : Bool) (t3 : Bool) (b : Int) (c : Int) (m0_0 : (List Int)) (m1_0 : Int) (m2_0 : Int) (m2_1 : Int) (m2_2 : (List ZK)) (m2_3 : (List ZI)) (m2_4 : (List Zq)) (m2_5 : (List Zm)) : (Int × Int × Int) → V × Zk
  | r => ((.d (D.tup [(Zb r.1), (Zb r.2.1)])), [(.arr 1 (List.map Zb m0_0)), (.cells [(.d (Zb r.2.2))]), (.cells [(.d (Zb m2_0)), (.d (Zb m2_1)), (.d (D.list t0 (List.map ZV m2_2))), (.d (D.list t1 (List.map ZQ m2_3))), (.d (D.list t2 (List.map Zw m2_4))), (.d (D.list t3 (List.map Zr m2_5)))])])
theorem ZaT {t0 : Bool} {t1 : Bool} {t2 : Bool} {t3 : Bool} {b : Int} {c : Int} {m0_0 : (List Int)} {m1_0 : Int} {m2_0 : Int} {m2_1 : Int} {m2_2 : (List ZK)} {m2_3 : (List ZI)} {m2_4 : (List Zq)} {m2_5 : (List Zm)} : ∀ r, (ZaB b c (fun z0 z1 => Zp z0 z1 m2_4) m0_0 m1_0) = some r → evW ctx 141 [(.sl 0 1), (.d (Zb b)), (.d (Zb c)), (.ptr 1 0), (.fn 118 [(.ptr 2 0)])] [(.arr 1 (List.map Zb m0_0)), (.cells [(.d (Zb m1_0))]), (.cells [(.d (Zb m2_0)), (.d (Zb m2_1)), (.d (D.list t0 (List.map ZV m2_2))), (.d (D.list t1 (List.map ZQ m2_3))), (.d (D.list t2 (List.map Zw m2_4))), (.d (D.list t3 (List.map Zr m2_5)))])] = some ((Zb0 t0 t1 t2 t3 b c m0_0 m1_0 m2_0 m2_1 m2_2 m2_3 m2_4 m2_5) r) := by
 show ZR _ (fun r rhs => rhs = some ((Zb0 t0 t1 t2 t3 b c m0_0 m1_0 m2_0 m2_1 m2_2 m2_3 m2_4 m2_5) r)) _
 unfold ZaB
 rw [Ze7 ctx 141 ZsS _ _ rfl rfl]
 conv => arg 3; whnf
 refine Zj rfl rfl fun x0 hx0 => ?_
 conv => arg 3; whnf
 refine Zg (Zx rfl hx0) ?_
 conv => arg 3; whnf
 refine Zj rfl rfl fun x1 hx1 => ?_
 conv => arg 3; whnf
 refine Zg (Zx rfl hx1) ?_
 conv => arg 3; whnf
 refine Zl _ ZA rfl fun x2 hx2 => ?_
 conv => arg 3; whnf
 refine Ze rfl ?_ ?_
 ·conv => arg 3; whnf
  exact Zf rfl
 ·conv => arg 3; whnf
  exact Zf rfl
def Zb4 (t0 : Bool) (t1 : Bool) (t2 : Bool) (t3 : Bool) (b : Int) (c : Int) (d : Int) (m0_0 : (List Int)) (m1_0 : Int) (m2_0 : Int) (m2_1 : Int) (m2_2 : (List ZK)) (m2_3 : (List ZI)) (m2_4 : (List Zq)) (m2_5 : (List Zm)) : (Int × Int) → V × Zk
  | r => ((.d (Zb r.1)), [(.arr 1 (List.map Zb m0_0)), (.cells [(.d (Zb r.2))]), (.cells [(.d (Zb m2_0)), (.d (Zb m2_1)), (.d (D.list t0 (List.map ZV m2_2))), (.d (D.list t1 (List.map ZQ m2_3))), (.d (D.list t2 (List.map Zw m2_4))), (.d (D.list t3 (List.map Zr m2_5)))])])
theorem ZaS {t0 : Bool} {t1 : Bool} {t2 : Bool} {t3 : Bool} {b : Int} {c : Int} {d : Int} {m0_0 : (List Int)} {m1_0 : Int} {m2_0 : Int} {m2_1 : Int} {m2_2 : (List ZK)} {m2_3 : (List ZI)} {m2_4 : (List Zq)} {m2_5 : (List Zm)} : ∀ r, (ZaC b c d (fun z0 z1 => Zp z0 z1 m2_4) m0_0 m1_0) = some r → evW ctx 140 [(.sl 0 1), (.d (Zb b)), (.d (Zb c)), (.d (Zb d)), (.ptr 1 0), (.fn 118 [(.ptr 2 0)])] [(.arr 1 (List.map Zb m0_0)), (.cells [(.d (Zb m1_0))]), (.cells [(.d (Zb m2_0)), (.d (Zb m2_1)), (.d (D.list t0 (List.map ZV m2_2))), (.d (D.list t1 (List.map ZQ m2_3))), (.d (D.list t2 (List.map Zw m2_4))), (.d (D.list t3 (List.map Zr m2_5)))])] = some ((Zb4 t0 t1 t2 t3 b c d m0_0 m1_0 m2_0 m2_1 m2_2 m2_3 m2_4 m2_5) r) := by
 show ZR _ (fun r rhs => rhs = some ((Zb4 t0 t1 t2 t3 b c d m0_0 m1_0 m2_0 m2_1 m2_2 m2_3 m2_4 m2_5) r)) _
 unfold ZaC
 rw [Ze7 ctx 140 Zs1 _ _ rfl rfl]
 conv => arg 3; whnf
 refine Zc _ ZaT fun x0 hx0 => ?_
 conv => arg 3; whnf
 refine Zc _ ZaT fun x1 hx1 => ?_
 conv => arg 3; whnf
 refine Zc _ ZaT fun x2 hx2 => ?_
 conv => arg 3; whnf
 exact Zf rfl
def Zbk (t0 : Bool) (t1 : Bool) (t2 : Bool) (t3 : Bool) (b : Int) (m0_0 : (List Int)) (m1_0 : Int) (m2_0 : Int) (m2_1 : Int) (m2_2 : (List ZK)) (m2_3 : (List ZI)) (m2_4 : (List Zq)) (m2_5 : (List Zm)) : (Int × Int) → V × Zk
  | r => ((.d (Zb r.1)), [(.arr 1 (List.map Zb m0_0)), (.cells [(.d (Zb r.2))]), (.cells [(.d (Zb m2_0)), (.d (Zb m2_1)), (.d (D.list t0 (List.map ZV m2_2))), (.d (D.list t1 (List.map ZQ m2_3))), (.d (D.list t2 (List.map Zw m2_4))), (.d (D.list t3 (List.map Zr m2_5)))])])
theorem Zau {t0 : Bool} {t1 : Bool} {t2 : Bool} {t3 : Bool} {b : Int} {m0_0 : (List Int)} {m1_0 : Int} {m2_0 : Int} {m2_1 : Int} {m2_2 : (List ZK)} {m2_3 : (List ZI)} {m2_4 : (List Zq)} {m2_5 : (List Zm)} : ∀ r, (Z2 b (fun z0 z1 => Zp z0 z1 m2_4) m0_0 m1_0) = some r → evW ctx 139 [(.sl 0 1), (.d (Zb b)), (.ptr 1 0), (.fn 118 [(.ptr 2 0)])] [(.arr 1 (List.map Zb m0_0)), (.cells [(.d (Zb m1_0))]), (.cells [(.d (Zb m2_0)), (.d (Zb m2_1)), (.d (D.list t0 (List.map ZV m2_2))), (.d (D.list t1 (List.map ZQ m2_3))), (.d (D.list t2 (List.map Zw m2_4))), (.d (D.list t3 (List.map Zr m2_5)))])] = some ((Zbk t0 t1 t2 t3 b m0_0 m1_0 m2_0 m2_1 m2_2 m2_3 m2_4 m2_5) r) := by
 show ZR _ (fun r rhs => rhs = some ((Zbk t0 t1 t2 t3 b m0_0 m1_0 m2_0 m2_1 m2_2 m2_3 m2_4 m2_5) r)) _
 unfold Z2
 rw [Ze7 ctx 139 ZrK _ _ rfl rfl]
 conv => arg 3; whnf
 refine Zc _ ZaS fun x0 hx0 => ?_
 conv => arg 3; whnf
 exact Zf rfl
def ZbB (t0 : Bool) (t1 : Bool) (t2 : Bool) (t3 : Bool) (b : Int) (c : Int) (m0_0 : (List Int)) (m1_0 : Int) (m1_1 : Int) (m1_2 : (List ZK)) (m1_3 : (List ZI)) (m1_4 : (List Zq)) (m1_5 : (List Zm)) : (Int × Int) → V × Zk
  | r => ((.d (D.tup [(Zb r.1), (Zb r.2)])), [(.arr 1 (List.map Zb m0_0)), (.cells [(.d (Zb m1_0)), (.d (Zb m1_1)), (.d (D.list t0 (List.map ZV m1_2))), (.d (D.list t1 (List.map ZQ m1_3))), (.d (D.list t2 (List.map Zw m1_4))), (.d (D.list t3 (List.map Zr m1_5)))])])
theorem Zab {t0 : Bool} {t1 : Bool} {t2 : Bool} {t3 : Bool} {b : Int} {c : Int} {m0_0 : (List Int)} {m1_0 : Int} {m1_1 : Int} {m1_2 : (List ZK)} {m1_3 : (List ZI)} {m1_4 : (List Zq)} {m1_5 : (List Zm)} : ∀ r, (ZG b c (fun z0 z1 => Zp z0 z1 m1_4) m0_0) = some r → evW ctx 129 [(.sl 0 1), (.d (Zb b)), (.d (Zb c)), (.fn 118 [(.ptr 1 0)])] [(.arr 1 (List.map Zb m0_0)), (.cells [(.d (Zb m1_0)), (.d (Zb m1_1)), (.d (D.list t0 (List.map ZV m1_2))), (.d (D.list t1 (List.map ZQ m1_3))), (.d (D.list t2 (List.map Zw m1_4))), (.d (D.list t3 (List.map Zr m1_5)))])] = some ((ZbB t0 t1 t2 t3 b c m0_0 m1_0 m1_1 m1_2 m1_3 m1_4 m1_5) r) := by
 show ZR _ (fun r rhs => rhs = some ((ZbB t0 t1 t2 t3 b c m0_0 m1_0 m1_1 m1_2 m1_3 m1_4 m1_5) r)) _
 unfold ZG
 rw [Ze7 ctx 129 ZsB _ _ rfl rfl]
 conv => arg 3; whnf
 refine Zad rfl ?_
 conv => arg 3; whnf
 refine Zad rfl ?_
 conv => arg 3; whnf
 refine Zad rfl ?_
 conv => arg 3; whnf
 refine Ze rfl ?_ ?_
 ·conv => arg 3; whnf
  refine Ze rfl ?_ ?_
  ·conv => arg 3; whnf
   refine Zc _ Zau fun x0 hx0 => ?_
   conv => arg 3; whnf
   refine Zc _ Zau fun x1 hx1 => ?_
   conv => arg 3; whnf
   refine Zc _ Zau fun x2 hx2 => ?_
   conv => arg 3; whnf
   refine Zc _ ZaS fun x3 hx3 => ?_
   conv => arg 3; whnf
   refine Ze rfl ?_ ?_
   ·conv => arg 3; whnf
    exact Zf rfl
   ·conv => arg 3; whnf
    refine Ze rfl ?_ ?_
    ·conv => arg 3; whnf
     exact Zf rfl
    ·conv => arg 3; whnf
     exact Zf rfl
  ·conv => arg 3; whnf
   refine Zc _ ZaS fun x4 hx4 => ?_
   conv => arg 3; whnf
   refine Ze rfl ?_ ?_
   ·conv => arg 3; whnf
    exact Zf rfl
   ·conv => arg 3; whnf
    refine Ze rfl ?_ ?_
    ·conv => arg 3; whnf
     exact Zf rfl
    ·conv => arg 3; whnf
     exact Zf rfl
 ·conv => arg 3; whnf
  refine Zcg rfl ?_
  conv => arg 3; whnf
  exact Zf rfl
def Zbw (t0 : Bool) (t1 : Bool) (t2 : Bool) (t3 : Bool) (b : Int) (c : Int) (m0_0 : (List Int)) (m1_0 : Int) (m1_1 : Int) (m1_2 : (List ZK)) (m1_3 : (List ZI)) (m1_4 : (List Zq)) (m1_5 : (List Zm)) : (List Int) → V × Zk
  | r => ((.d (D.tup [])), [(.arr 1 (List.map Zb r)), (.cells [(.d (Zb m1_0)), (.d (Zb m1_1)), (.d (D.list t0 (List.map ZV m1_2))), (.d (D.list t1 (List.map ZQ m1_3))), (.d (D.list t2 (List.map Zw m1_4))), (.d (D.list t3 (List.map Zr m1_5)))])])
def Zbg (t0 : Bool) (t1 : Bool) (t2 : Bool) (t3 : Bool) (m1_0 : Int) (m1_1 : Int) (m1_2 : (List ZK)) (m1_3 : (List ZI)) (m1_4 : (List Zq)) (m1_5 : (List Zm)) : (List Int) → Ex × List V × Zk
  | r => (.exit 0, [], [(.arr 1 (List.map Zb r)), (.cells [(.d (Zb m1_0)), (.d (Zb m1_1)), (.d (D.list t0 (List.map ZV m1_2))), (.d (D.list t1 (List.map ZQ m1_3))), (.d (D.list t2 (List.map Zw m1_4))), (.d (D.list t3 (List.map Zr m1_5)))])])
theorem ZcQ {t0 : Bool} {t1 : Bool} {t2 : Bool} {t3 : Bool} {m1_0 : Int} {m1_1 : Int} {m1_2 : (List ZK)} {m1_3 : (List ZI)} {m1_4 : (List Zq)} {m1_5 : (List Zm)} : ∀ (s0 : Int × Int × (List Int)) (r : (List Int)), lp (Z0) s0 = some r → lpW ctx 2 [0, 8, 9] [] ZqH [(.sl 0 1), (.d (Zb s0.1)), (.d (Zb s0.2.1))] [(.arr 1 (List.map Zb s0.2.2)), (.cells [(.d (Zb m1_0)), (.d (Zb m1_1)), (.d (D.list t0 (List.map ZV m1_2))), (.d (D.list t1 (List.map ZQ m1_3))), (.d (D.list t2 (List.map Zw m1_4))), (.d (D.list t3 (List.map Zr m1_5)))])] = some ((Zbg t0 t1 t2 t3 m1_0 m1_1 m1_2 m1_3 m1_4 m1_5) r) := by
 refine ZaZ (Zbg t0 t1 t2 t3 m1_0 m1_1 m1_2 m1_3 m1_4 m1_5) ?_
 intro s0 rcl ih
 show ZR _ _ (lpW _ _ _ _ _ _ _)
 unfold Z0
 rw [Za2]
 conv => arg 3; whnf
 refine Ze rfl ?_ ?_
 ·conv => arg 3; whnf
  refine Zj rfl rfl fun x1 hx1 => ?_
  conv => arg 3; whnf
  refine Zg (Zx rfl hx1) ?_
  conv => arg 3; whnf
  refine Zj rfl rfl fun x2 hx2 => ?_
  conv => arg 3; whnf
  refine Zg (Zx rfl hx2) ?_
  conv => arg 3; whnf
  refine Zg (Zbj rfl hx2) ?_
  conv => arg 3; whnf
  refine Zg (Zx rfl hx2) ?_
  conv => arg 3; whnf
  refine Zu (Zat Zb s0.2.2 s0.1.toNat x1) ?_
  conv => arg 3; whnf
  refine Zj rfl rfl fun x3 hx3 => ?_
  conv => arg 3; whnf
  refine Zg (Zx rfl hx3) ?_
  conv => arg 3; whnf
  refine Zu (Zat Zb (List.set s0.2.2 s0.1.toNat x1) s0.2.1.toNat x2) ?_
  conv => arg 3; whnf
  exact Zd (ih _)
 ·conv => arg 3; whnf
  exact Zf rfl
theorem Z9 {t0 : Bool} {t1 : Bool} {t2 : Bool} {t3 : Bool} {b : Int} {c : Int} {m0_0 : (List Int)} {m1_0 : Int} {m1_1 : Int} {m1_2 : (List ZK)} {m1_3 : (List ZI)} {m1_4 : (List Zq)} {m1_5 : (List Zm)} : ∀ r, (ZF b c (fun z0 z1 => Zp z0 z1 m1_4) m0_0) = some r → evW ctx 130 [(.sl 0 1), (.d (Zb b)), (.d (Zb c)), (.fn 118 [(.ptr 1 0)])] [(.arr 1 (List.map Zb m0_0)), (.cells [(.d (Zb m1_0)), (.d (Zb m1_1)), (.d (D.list t0 (List.map ZV m1_2))), (.d (D.list t1 (List.map ZQ m1_3))), (.d (D.list t2 (List.map Zw m1_4))), (.d (D.list t3 (List.map Zr m1_5)))])] = some ((Zbw t0 t1 t2 t3 b c m0_0 m1_0 m1_1 m1_2 m1_3 m1_4 m1_5) r) := by
 show ZR _ (fun r rhs => rhs = some ((Zbw t0 t1 t2 t3 b c m0_0 m1_0 m1_1 m1_2 m1_3 m1_4 m1_5) r)) _
 unfold ZF
 rw [Ze7 ctx 130 Zr1 _ _ rfl rfl]
 conv => arg 3; whnf
 refine Zc _ (ZcQ _) fun r4 hr4 => ?_
 conv => arg 3; whnf
 exact Zf rfl
def ZaV (t0 : Bool) (t1 : Bool) (t2 : Bool) (t3 : Bool) (b : Int) (c : Int) (m0_0 : (List Int)) (m1_0 : Int) (m1_1 : Int) (m1_2 : (List ZK)) (m1_3 : (List ZI)) (m1_4 : (List Zq)) (m1_5 : (List Zm)) : ((List Int) ⊕ (List Int)) → V × Zk
  | (.inl r) => ((.d (D.bool true)), [(.arr 1 (List.map Zb r)), (.cells [(.d (Zb m1_0)), (.d (Zb m1_1)), (.d (D.list t0 (List.map ZV m1_2))), (.d (D.list t1 (List.map ZQ m1_3))), (.d (D.list t2 (List.map Zw m1_4))), (.d (D.list t3 (List.map Zr m1_5)))])])
  | (.inr r) => ((.d (D.bool false)), [(.arr 1 (List.map Zb r)), (.cells [(.d (Zb m1_0)), (.d (Zb m1_1)), (.d (D.list t0 (List.map ZV m1_2))), (.d (D.list t1 (List.map ZQ m1_3))), (.d (D.list t2 (List.map Zw m1_4))), (.d (D.list t3 (List.map Zr m1_5)))])])
def ZaN (t0 : Bool) (t1 : Bool) (t2 : Bool) (t3 : Bool) (b : Int) (c : Int) (m1_0 : Int) (m1_1 : Int) (m1_2 : (List ZK)) (m1_3 : (List ZI)) (m1_4 : (List Zq)) (m1_5 : (List Zm)) (s0 : Int × Int × (List Int)) : Int → Ex × List V × Zk
  | r => (.exit 2, [(.sl 0 1), (.d (Zb b)), (.d (Zb c)), (.fn 118 [(.ptr 1 0)]), (.d (Zb r)), (.d (Zb s0.2.1))], [(.arr 1 (List.map Zb s0.2.2)), (.cells [(.d (Zb m1_0)), (.d (Zb m1_1)), (.d (D.list t0 (List.map ZV m1_2))), (.d (D.list t1 (List.map ZQ m1_3))), (.d (D.list t2 (List.map Zw m1_4))), (.d (D.list t3 (List.map Zr m1_5)))])])
theorem Zcb {t0 : Bool} {t1 : Bool} {t2 : Bool} {t3 : Bool} {b : Int} {c : Int} {m1_0 : Int} {m1_1 : Int} {m1_2 : (List ZK)} {m1_3 : (List ZI)} {m1_4 : (List Zq)} {m1_5 : (List Zm)} {s0 : Int × Int × (List Int)} : ∀ (s1 : Int) (r : Int), lp (ZE c (fun z0 z1 => Zp z0 z1 m1_4) s0) s1 = some r → lpW ctx 2 [0, 1, 2, 3, 9, 10] [0, 1, 2, 3, 9, 10] Zqo [(.sl 0 1), (.d (Zb b)), (.d (Zb c)), (.fn 118 [(.ptr 1 0)]), (.d (Zb s1)), (.d (Zb s0.2.1))] [(.arr 1 (List.map Zb s0.2.2)), (.cells [(.d (Zb m1_0)), (.d (Zb m1_1)), (.d (D.list t0 (List.map ZV m1_2))), (.d (D.list t1 (List.map ZQ m1_3))), (.d (D.list t2 (List.map Zw m1_4))), (.d (D.list t3 (List.map Zr m1_5)))])] = some ((ZaN t0 t1 t2 t3 b c m1_0 m1_1 m1_2 m1_3 m1_4 m1_5 s0) r) := by
 refine ZaZ (ZaN t0 t1 t2 t3 b c m1_0 m1_1 m1_2 m1_3 m1_4 m1_5 s0) ?_
 intro s1 rcl ih
 show ZR _ _ (lpW _ _ _ _ _ _ _)
 unfold ZE
 rw [Za2]
 conv => arg 3; whnf
 refine Ze rfl ?_ ?_
 ·conv => arg 3; whnf
  refine Zj rfl rfl fun x2 hx2 => ?_
  conv => arg 3; whnf
  refine Zg (Zx rfl hx2) ?_
  conv => arg 3; whnf
  refine Zj rfl rfl fun x3 hx3 => ?_
  conv => arg 3; whnf
  refine Zg (Zx rfl hx3) ?_
  conv => arg 3; whnf
  refine Zl _ ZA rfl fun x4 hx4 => ?_
  conv => arg 3; whnf
  refine Ze rfl ?_ ?_
  ·conv => arg 3; whnf
   exact Zf rfl
  ·conv => arg 3; whnf
   exact Zd (ih _)
 ·conv => arg 3; whnf
  exact Zf rfl
def ZaL (t0 : Bool) (t1 : Bool) (t2 : Bool) (t3 : Bool) (b : Int) (c : Int) (m1_0 : Int) (m1_1 : Int) (m1_2 : (List ZK)) (m1_3 : (List ZI)) (m1_4 : (List Zq)) (m1_5 : (List Zm)) (s0 : Int × Int × (List Int)) (r5 : Int) : (List Int) → Ex × List V × Zk
  | r => (.exit 4, [(.sl 0 1), (.d (Zb b)), (.d (Zb c)), (.fn 118 [(.ptr 1 0)]), (.d (Zb r5)), (.d (Zb s0.2.1))], [(.arr 1 (List.map Zb r)), (.cells [(.d (Zb m1_0)), (.d (Zb m1_1)), (.d (D.list t0 (List.map ZV m1_2))), (.d (D.list t1 (List.map ZQ m1_3))), (.d (D.list t2 (List.map Zw m1_4))), (.d (D.list t3 (List.map Zr m1_5)))])])
theorem Zcc {t0 : Bool} {t1 : Bool} {t2 : Bool} {t3 : Bool} {b : Int} {c : Int} {m1_0 : Int} {m1_1 : Int} {m1_2 : (List ZK)} {m1_3 : (List ZI)} {m1_4 : (List Zq)} {m1_5 : (List Zm)} {s0 : Int × Int × (List Int)} {r5 : Int} : ∀ (s9 : Int × (List Int)) (r : (List Int)), lp (ZL (fun z0 z1 => Zp z0 z1 m1_4)) s9 = some r → lpW ctx 2 [0, 1, 2, 3, 9, 10, 11] [0, 1, 2, 3, 9, 10] ZqT [(.sl 0 1), (.d (Zb b)), (.d (Zb c)), (.fn 118 [(.ptr 1 0)]), (.d (Zb r5)), (.d (Zb s0.2.1)), (.d (Zb s9.1))] [(.arr 1 (List.map Zb s9.2)), (.cells [(.d (Zb m1_0)), (.d (Zb m1_1)), (.d (D.list t0 (List.map ZV m1_2))), (.d (D.list t1 (List.map ZQ m1_3))), (.d (D.list t2 (List.map Zw m1_4))), (.d (D.list t3 (List.map Zr m1_5)))])] = some ((ZaL t0 t1 t2 t3 b c m1_0 m1_1 m1_2 m1_3 m1_4 m1_5 s0 r5) r) := by
 refine ZaZ (ZaL t0 t1 t2 t3 b c m1_0 m1_1 m1_2 m1_3 m1_4 m1_5 s0 r5) ?_
 intro s9 rcl ih
 show ZR _ _ (lpW _ _ _ _ _ _ _)
 unfold ZL
 rw [Za2]
 conv => arg 3; whnf
 refine Ze rfl ?_ ?_
 ·conv => arg 3; whnf
  refine Zj rfl rfl fun x10 hx10 => ?_
  conv => arg 3; whnf
  refine Zg (Zx rfl hx10) ?_
  conv => arg 3; whnf
  refine Zj rfl rfl fun x11 hx11 => ?_
  conv => arg 3; whnf
  refine Zg (Zx rfl hx11) ?_
  conv => arg 3; whnf
  refine Zl _ ZA rfl fun x12 hx12 => ?_
  conv => arg 3; whnf
  refine Ze rfl ?_ ?_
  ·conv => arg 3; whnf
   refine Zg (Zbj rfl hx11) ?_
   conv => arg 3; whnf
   refine Zg (Zx rfl hx11) ?_
   conv => arg 3; whnf
   refine Zg (Zbj rfl hx10) ?_
   conv => arg 3; whnf
   refine Zg (Zx rfl hx10) ?_
   conv => arg 3; whnf
   refine Zg (Zbj rfl hx10) ?_
   conv => arg 3; whnf
   refine Zg (Zx rfl hx10) ?_
   conv => arg 3; whnf
   refine Zu (Zat Zb s9.2 s9.1.toNat x11) ?_
   conv => arg 3; whnf
   refine Zj rfl rfl fun x13 hx13 => ?_
   conv => arg 3; whnf
   refine Zg (Zx rfl hx13) ?_
   conv => arg 3; whnf
   refine Zu (Zat Zb (List.set s9.2 s9.1.toNat x11) (w64 (s9.1 - 1)).toNat x10) ?_
   conv => arg 3; whnf
   exact Zd (ih _)
  ·conv => arg 3; whnf
   exact Zf rfl
 ·conv => arg 3; whnf
  exact Zf rfl
def ZaK (t0 : Bool) (t1 : Bool) (t2 : Bool) (t3 : Bool) (b : Int) (c : Int) (m1_0 : Int) (m1_1 : Int) (m1_2 : (List ZK)) (m1_3 : (List ZI)) (m1_4 : (List Zq)) (m1_5 : (List Zm)) (s0 : Int × Int × (List Int)) (r5 : Int) : (List Int) → Ex × List V × Zk
  | r => (.exit 6, [(.sl 0 1), (.d (Zb b)), (.d (Zb c)), (.fn 118 [(.ptr 1 0)]), (.d (Zb r5)), (.d (Zb s0.2.1))], [(.arr 1 (List.map Zb r)), (.cells [(.d (Zb m1_0)), (.d (Zb m1_1)), (.d (D.list t0 (List.map ZV m1_2))), (.d (D.list t1 (List.map ZQ m1_3))), (.d (D.list t2 (List.map Zw m1_4))), (.d (D.list t3 (List.map Zr m1_5)))])])
theorem Zb9 {t0 : Bool} {t1 : Bool} {t2 : Bool} {t3 : Bool} {b : Int} {c : Int} {m1_0 : Int} {m1_1 : Int} {m1_2 : (List ZK)} {m1_3 : (List ZI)} {m1_4 : (List Zq)} {m1_5 : (List Zm)} {s0 : Int × Int × (List Int)} {r5 : Int} : ∀ (s15 : Int × (List Int)) (r : (List Int)), lp (ZB c (fun z0 z1 => Zp z0 z1 m1_4)) s15 = some r → lpW ctx 2 [0, 1, 2, 3, 9, 10, 12] [0, 1, 2, 3, 9, 10] Zn5 [(.sl 0 1), (.d (Zb b)), (.d (Zb c)), (.fn 118 [(.ptr 1 0)]), (.d (Zb r5)), (.d (Zb s0.2.1)), (.d (Zb s15.1))] [(.arr 1 (List.map Zb s15.2)), (.cells [(.d (Zb m1_0)), (.d (Zb m1_1)), (.d (D.list t0 (List.map ZV m1_2))), (.d (D.list t1 (List.map ZQ m1_3))), (.d (D.list t2 (List.map Zw m1_4))), (.d (D.list t3 (List.map Zr m1_5)))])] = some ((ZaK t0 t1 t2 t3 b c m1_0 m1_1 m1_2 m1_3 m1_4 m1_5 s0 r5) r) := by
 refine ZaZ (ZaK t0 t1 t2 t3 b c m1_0 m1_1 m1_2 m1_3 m1_4 m1_5 s0 r5) ?_
 intro s15 rcl ih
 show ZR _ _ (lpW _ _ _ _ _ _ _)
 unfold ZB
 rw [Za2]
 conv => arg 3; whnf
 refine Ze rfl ?_ ?_
 ·conv => arg 3; whnf
  refine Zj rfl rfl fun x16 hx16 => ?_
  conv => arg 3; whnf
  refine Zg (Zx rfl hx16) ?_
  conv => arg 3; whnf
  refine Zj rfl rfl fun x17 hx17 => ?_
  conv => arg 3; whnf
  refine Zg (Zx rfl hx17) ?_
  conv => arg 3; whnf
  refine Zl _ ZA rfl fun x18 hx18 => ?_
  conv => arg 3; whnf
  refine Ze rfl ?_ ?_
  ·conv => arg 3; whnf
   refine Zg (Zbj rfl hx17) ?_
   conv => arg 3; whnf
   refine Zg (Zx rfl hx17) ?_
   conv => arg 3; whnf
   refine Zg (Zbj rfl hx16) ?_
   conv => arg 3; whnf
   refine Zg (Zx rfl hx16) ?_
   conv => arg 3; whnf
   refine Zg (Zbj rfl hx16) ?_
   conv => arg 3; whnf
   refine Zg (Zx rfl hx16) ?_
   conv => arg 3; whnf
   refine Zu (Zat Zb s15.2 s15.1.toNat x17) ?_
   conv => arg 3; whnf
   refine Zj rfl rfl fun x19 hx19 => ?_
   conv => arg 3; whnf
   refine Zg (Zx rfl hx19) ?_
   conv => arg 3; whnf
   refine Zu (Zat Zb (List.set s15.2 s15.1.toNat x17) (w64 (s15.1 - 1)).toNat x16) ?_
   conv => arg 3; whnf
   exact Zd (ih _)
  ·conv => arg 3; whnf
   exact Zf rfl
 ·conv => arg 3; whnf
  exact Zf rfl
def ZaG (t0 : Bool) (t1 : Bool) (t2 : Bool) (t3 : Bool) (b : Int) (c : Int) (m1_0 : Int) (m1_1 : Int) (m1_2 : (List ZK)) (m1_3 : (List ZI)) (m1_4 : (List Zq)) (m1_5 : (List Zm)) (s0 : Int × Int × (List Int)) (r5 : Int) : (List Int) → Ex × List V × Zk
  | r => (.exit 6, [(.sl 0 1), (.d (Zb b)), (.d (Zb c)), (.fn 118 [(.ptr 1 0)]), (.d (Zb r5)), (.d (Zb s0.2.1))], [(.arr 1 (List.map Zb r)), (.cells [(.d (Zb m1_0)), (.d (Zb m1_1)), (.d (D.list t0 (List.map ZV m1_2))), (.d (D.list t1 (List.map ZQ m1_3))), (.d (D.list t2 (List.map Zw m1_4))), (.d (D.list t3 (List.map Zr m1_5)))])])
theorem Zb6 {t0 : Bool} {t1 : Bool} {t2 : Bool} {t3 : Bool} {b : Int} {c : Int} {m1_0 : Int} {m1_1 : Int} {m1_2 : (List ZK)} {m1_3 : (List ZI)} {m1_4 : (List Zq)} {m1_5 : (List Zm)} {s0 : Int × Int × (List Int)} {r5 : Int} : ∀ (s21 : Int × (List Int)) (r : (List Int)), lp (Zal c (fun z0 z1 => Zp z0 z1 m1_4)) s21 = some r → lpW ctx 2 [0, 1, 2, 3, 9, 10, 12] [0, 1, 2, 3, 9, 10] Zn5 [(.sl 0 1), (.d (Zb b)), (.d (Zb c)), (.fn 118 [(.ptr 1 0)]), (.d (Zb r5)), (.d (Zb s0.2.1)), (.d (Zb s21.1))] [(.arr 1 (List.map Zb s21.2)), (.cells [(.d (Zb m1_0)), (.d (Zb m1_1)), (.d (D.list t0 (List.map ZV m1_2))), (.d (D.list t1 (List.map ZQ m1_3))), (.d (D.list t2 (List.map Zw m1_4))), (.d (D.list t3 (List.map Zr m1_5)))])] = some ((ZaG t0 t1 t2 t3 b c m1_0 m1_1 m1_2 m1_3 m1_4 m1_5 s0 r5) r) := by
 refine ZaZ (ZaG t0 t1 t2 t3 b c m1_0 m1_1 m1_2 m1_3 m1_4 m1_5 s0 r5) ?_
 intro s21 rcl ih
 show ZR _ _ (lpW _ _ _ _ _ _ _)
 unfold Zal
 rw [Za2]
 conv => arg 3; whnf
 refine Ze rfl ?_ ?_
 ·conv => arg 3; whnf
  refine Zj rfl rfl fun x22 hx22 => ?_
  conv => arg 3; whnf
  refine Zg (Zx rfl hx22) ?_
  conv => arg 3; whnf
  refine Zj rfl rfl fun x23 hx23 => ?_
  conv => arg 3; whnf
  refine Zg (Zx rfl hx23) ?_
  conv => arg 3; whnf
  refine Zl _ ZA rfl fun x24 hx24 => ?_
  conv => arg 3; whnf
  refine Ze rfl ?_ ?_
  ·conv => arg 3; whnf
   refine Zg (Zbj rfl hx23) ?_
   conv => arg 3; whnf
   refine Zg (Zx rfl hx23) ?_
   conv => arg 3; whnf
   refine Zg (Zbj rfl hx22) ?_
   conv => arg 3; whnf
   refine Zg (Zx rfl hx22) ?_
   conv => arg 3; whnf
   refine Zg (Zbj rfl hx22) ?_
   conv => arg 3; whnf
   refine Zg (Zx rfl hx22) ?_
   conv => arg 3; whnf
   refine Zu (Zat Zb s21.2 s21.1.toNat x23) ?_
   conv => arg 3; whnf
   refine Zj rfl rfl fun x25 hx25 => ?_
   conv => arg 3; whnf
   refine Zg (Zx rfl hx25) ?_
   conv => arg 3; whnf
   refine Zu (Zat Zb (List.set s21.2 s21.1.toNat x23) (w64 (s21.1 - 1)).toNat x22) ?_
   conv => arg 3; whnf
   exact Zd (ih _)
  ·conv => arg 3; whnf
   exact Zf rfl
 ·conv => arg 3; whnf
  exact Zf rfl
def ZaM (t0 : Bool) (t1 : Bool) (t2 : Bool) (t3 : Bool) (b : Int) (c : Int) (m1_0 : Int) (m1_1 : Int) (m1_2 : (List ZK)) (m1_3 : (List ZI)) (m1_4 : (List Zq)) (m1_5 : (List Zm)) : ((List Int) ⊕ ((List Int) ⊕ (List Int))) → Ex × List V × Zk
  | (.inl r) => (.ret, [(.d (D.bool true))], [(.arr 1 (List.map Zb r)), (.cells [(.d (Zb m1_0)), (.d (Zb m1_1)), (.d (D.list t0 (List.map ZV m1_2))), (.d (D.list t1 (List.map ZQ m1_3))), (.d (D.list t2 (List.map Zw m1_4))), (.d (D.list t3 (List.map Zr m1_5)))])])
  | (.inr (.inl r)) => (.ret, [(.d (D.bool false))], [(.arr 1 (List.map Zb r)), (.cells [(.d (Zb m1_0)), (.d (Zb m1_1)), (.d (D.list t0 (List.map ZV m1_2))), (.d (D.list t1 (List.map ZQ m1_3))), (.d (D.list t2 (List.map Zw m1_4))), (.d (D.list t3 (List.map Zr m1_5)))])])
  | (.inr (.inr r)) => (.exit 0, [.bad], [(.arr 1 (List.map Zb r)), (.cells [(.d (Zb m1_0)), (.d (Zb m1_1)), (.d (D.list t0 (List.map ZV m1_2))), (.d (D.list t1 (List.map ZQ m1_3))), (.d (D.list t2 (List.map Zw m1_4))), (.d (D.list t3 (List.map Zr m1_5)))])])
theorem Zcf {t0 : Bool} {t1 : Bool} {t2 : Bool} {t3 : Bool} {b : Int} {c : Int} {m1_0 : Int} {m1_1 : Int} {m1_2 : (List ZK)} {m1_3 : (List ZI)} {m1_4 : (List Zq)} {m1_5 : (List Zm)} : ∀ (s0 : Int × Int × (List Int)) (r : ((List Int) ⊕ ((List Int) ⊕ (List Int)))), lp (ZM b c (fun z0 z1 => Zp z0 z1 m1_4)) s0 = some r → lpW ctx 2 [0, 1, 2, 3, 9, 10] [8] Zp9 [(.sl 0 1), (.d (Zb b)), (.d (Zb c)), (.fn 118 [(.ptr 1 0)]), (.d (Zb s0.1)), (.d (Zb s0.2.1))] [(.arr 1 (List.map Zb s0.2.2)), (.cells [(.d (Zb m1_0)), (.d (Zb m1_1)), (.d (D.list t0 (List.map ZV m1_2))), (.d (D.list t1 (List.map ZQ m1_3))), (.d (D.list t2 (List.map Zw m1_4))), (.d (D.list t3 (List.map Zr m1_5)))])] = some ((ZaM t0 t1 t2 t3 b c m1_0 m1_1 m1_2 m1_3 m1_4 m1_5) r) := by
 refine ZaZ (ZaM t0 t1 t2 t3 b c m1_0 m1_1 m1_2 m1_3 m1_4 m1_5) ?_
 intro s0 rcl ih
 show ZR _ _ (lpW _ _ _ _ _ _ _)
 unfold ZM
 rw [Za2]
 conv => arg 3; whnf
 refine Ze rfl ?_ ?_
 ·conv => arg 3; whnf
  refine Zc _ (Zcb _) fun r5 hr5 => ?_
  conv => arg 3; whnf
  refine Ze rfl ?_ ?_
  ·conv => arg 3; whnf
   exact Zf rfl
  ·conv => arg 3; whnf
   refine Ze rfl ?_ ?_
   ·conv => arg 3; whnf
    exact Zf rfl
   ·conv => arg 3; whnf
    refine Zj rfl rfl fun x6 hx6 => ?_
    conv => arg 3; whnf
    refine Zg (Zx rfl hx6) ?_
    conv => arg 3; whnf
    refine Zj rfl rfl fun x7 hx7 => ?_
    conv => arg 3; whnf
    refine Zg (Zx rfl hx7) ?_
    conv => arg 3; whnf
    refine Zg (Zbj rfl hx7) ?_
    conv => arg 3; whnf
    refine Zg (Zx rfl hx7) ?_
    conv => arg 3; whnf
    refine Zu (Zat Zb s0.2.2 r5.toNat x6) ?_
    conv => arg 3; whnf
    refine Zj rfl rfl fun x8 hx8 => ?_
    conv => arg 3; whnf
    refine Zg (Zx rfl hx8) ?_
    conv => arg 3; whnf
    refine Zu (Zat Zb (List.set s0.2.2 r5.toNat x6) (w64 (r5 - 1)).toNat x7) ?_
    conv => arg 3; whnf
    refine Ze rfl ?_ ?_
    ·conv => arg 3; whnf
     refine Zc _ (Zcc _) fun r14 hr14 => ?_
     conv => arg 3; whnf
     refine Ze rfl ?_ ?_
     ·conv => arg 3; whnf
      refine Zc _ (Zb9 _) fun r20 hr20 => ?_
      conv => arg 3; whnf
      exact Zd (ih _)
     ·conv => arg 3; whnf
      exact Zd (ih _)
    ·conv => arg 3; whnf
     refine Ze rfl ?_ ?_
     ·conv => arg 3; whnf
      refine Zc _ (Zb6 _) fun r26 hr26 => ?_
      conv => arg 3; whnf
      exact Zd (ih _)
     ·conv => arg 3; whnf
      exact Zd (ih _)
 ·conv => arg 3; whnf
  exact Zf rfl
theorem ZaU {t0 : Bool} {t1 : Bool} {t2 : Bool} {t3 : Bool} {b : Int} {c : Int} {m0_0 : (List Int)} {m1_0 : Int} {m1_1 : Int} {m1_2 : (List ZK)} {m1_3 : (List ZI)} {m1_4 : (List Zq)} {m1_5 : (List Zm)} : ∀ r, (ZH b c (fun z0 z1 => Zp z0 z1 m1_4) m0_0) = some r → evW ctx 131 [(.sl 0 1), (.d (Zb b)), (.d (Zb c)), (.fn 118 [(.ptr 1 0)])] [(.arr 1 (List.map Zb m0_0)), (.cells [(.d (Zb m1_0)), (.d (Zb m1_1)), (.d (D.list t0 (List.map ZV m1_2))), (.d (D.list t1 (List.map ZQ m1_3))), (.d (D.list t2 (List.map Zw m1_4))), (.d (D.list t3 (List.map Zr m1_5)))])] = some ((ZaV t0 t1 t2 t3 b c m0_0 m1_0 m1_1 m1_2 m1_3 m1_4 m1_5) r) := by
 show ZR _ (fun r rhs => rhs = some ((ZaV t0 t1 t2 t3 b c m0_0 m1_0 m1_1 m1_2 m1_3 m1_4 m1_5) r)) _
 unfold ZH
 rw [Ze7 ctx 131 ZsJ _ _ rfl rfl]
 conv => arg 3; whnf
 refine Zc _ (Zcf _) fun r27 hr27 => ?_
 clear hr27
 rcases r27 with r27 | (r27 | r27)
 ·conv => arg 3; whnf
  exact Zf rfl
 ·conv => arg 3; whnf
  exact Zf rfl
 ·conv => arg 3; whnf
  exact Zf rfl
def ZbO (t0 : Bool) (t1 : Bool) (t2 : Bool) (t3 : Bool) (b : Int) (c : Int) (d : Int) (m0_0 : (List Int)) (m1_0 : Int) (m1_1 : Int) (m1_2 : (List ZK)) (m1_3 : (List ZI)) (m1_4 : (List Zq)) (m1_5 : (List Zm)) : ((Int × (List Int)) ⊕ (Int × (List Int))) → V × Zk
  | (.inl r) => ((.d (D.tup [(Zb r.1), (D.bool true)])), [(.arr 1 (List.map Zb r.2)), (.cells [(.d (Zb m1_0)), (.d (Zb m1_1)), (.d (D.list t0 (List.map ZV m1_2))), (.d (D.list t1 (List.map ZQ m1_3))), (.d (D.list t2 (List.map Zw m1_4))), (.d (D.list t3 (List.map Zr m1_5)))])])
  | (.inr r) => ((.d (D.tup [(Zb r.1), (D.bool false)])), [(.arr 1 (List.map Zb r.2)), (.cells [(.d (Zb m1_0)), (.d (Zb m1_1)), (.d (D.list t0 (List.map ZV m1_2))), (.d (D.list t1 (List.map ZQ m1_3))), (.d (D.list t2 (List.map Zw m1_4))), (.d (D.list t3 (List.map Zr m1_5)))])])
def Zbz (t0 : Bool) (t1 : Bool) (t2 : Bool) (t3 : Bool) (b : Int) (c : Int) (d : Int) (m0_0 : (List Int)) (m1_0 : Int) (m1_1 : Int) (m1_2 : (List ZK)) (m1_3 : (List ZI)) (m1_4 : (List Zq)) (m1_5 : (List Zm)) (x0 : Int) (x1 : Int) : Int → Ex × List V × Zk
  | r => (.exit 0, [(.sl 0 1), (.d (Zb b)), (.fn 118 [(.ptr 1 0)]), (.d (Zb r)), (.d (Zb (w64 (c - 1))))], [(.arr 1 (List.map Zb (List.set (List.set m0_0 b.toNat x0) d.toNat x1))), (.cells [(.d (Zb m1_0)), (.d (Zb m1_1)), (.d (D.list t0 (List.map ZV m1_2))), (.d (D.list t1 (List.map ZQ m1_3))), (.d (D.list t2 (List.map Zw m1_4))), (.d (D.list t3 (List.map Zr m1_5)))])])
theorem Zc6 {t0 : Bool} {t1 : Bool} {t2 : Bool} {t3 : Bool} {b : Int} {c : Int} {d : Int} {m0_0 : (List Int)} {m1_0 : Int} {m1_1 : Int} {m1_2 : (List ZK)} {m1_3 : (List ZI)} {m1_4 : (List Zq)} {m1_5 : (List Zm)} {x0 : Int} {x1 : Int} : ∀ (s3 : Int) (r : Int), lp (Zar b c d m0_0 (fun z0 z1 => Zp z0 z1 m1_4) x0 x1) s3 = some r → lpW ctx 2 [0, 1, 4, 12, 13] [0, 1, 4, 12, 13] Zqm [(.sl 0 1), (.d (Zb b)), (.fn 118 [(.ptr 1 0)]), (.d (Zb s3)), (.d (Zb (w64 (c - 1))))] [(.arr 1 (List.map Zb (List.set (List.set m0_0 b.toNat x0) d.toNat x1))), (.cells [(.d (Zb m1_0)), (.d (Zb m1_1)), (.d (D.list t0 (List.map ZV m1_2))), (.d (D.list t1 (List.map ZQ m1_3))), (.d (D.list t2 (List.map Zw m1_4))), (.d (D.list t3 (List.map Zr m1_5)))])] = some ((Zbz t0 t1 t2 t3 b c d m0_0 m1_0 m1_1 m1_2 m1_3 m1_4 m1_5 x0 x1) r) := by
 refine ZaZ (Zbz t0 t1 t2 t3 b c d m0_0 m1_0 m1_1 m1_2 m1_3 m1_4 m1_5 x0 x1) ?_
 intro s3 rcl ih
 show ZR _ _ (lpW _ _ _ _ _ _ _)
 unfold Zar
 rw [Za2]
 conv => arg 3; whnf
 refine Ze rfl ?_ ?_
 ·conv => arg 3; whnf
  refine Zj rfl rfl fun x4 hx4 => ?_
  conv => arg 3; whnf
  refine Zg (Zx rfl hx4) ?_
  conv => arg 3; whnf
  refine Zj rfl rfl fun x5 hx5 => ?_
  conv => arg 3; whnf
  refine Zg (Zx rfl hx5) ?_
  conv => arg 3; whnf
  refine Zl _ ZA rfl fun x6 hx6 => ?_
  conv => arg 3; whnf
  refine Ze rfl ?_ ?_
  ·conv => arg 3; whnf
   exact Zd (ih _)
  ·conv => arg 3; whnf
   exact Zf rfl
 ·conv => arg 3; whnf
  exact Zf rfl
def Zbt (t0 : Bool) (t1 : Bool) (t2 : Bool) (t3 : Bool) (b : Int) (d : Int) (m0_0 : (List Int)) (m1_0 : Int) (m1_1 : Int) (m1_2 : (List ZK)) (m1_3 : (List ZI)) (m1_4 : (List Zq)) (m1_5 : (List Zm)) (x0 : Int) (x1 : Int) (r7 : Int) : Int → Ex × List V × Zk
  | r => (.exit 2, [(.sl 0 1), (.d (Zb b)), (.fn 118 [(.ptr 1 0)]), (.d (Zb r7)), (.d (Zb r))], [(.arr 1 (List.map Zb (List.set (List.set m0_0 b.toNat x0) d.toNat x1))), (.cells [(.d (Zb m1_0)), (.d (Zb m1_1)), (.d (D.list t0 (List.map ZV m1_2))), (.d (D.list t1 (List.map ZQ m1_3))), (.d (D.list t2 (List.map Zw m1_4))), (.d (D.list t3 (List.map Zr m1_5)))])])
theorem Zc9 {t0 : Bool} {t1 : Bool} {t2 : Bool} {t3 : Bool} {b : Int} {d : Int} {m0_0 : (List Int)} {m1_0 : Int} {m1_1 : Int} {m1_2 : (List ZK)} {m1_3 : (List ZI)} {m1_4 : (List Zq)} {m1_5 : (List Zm)} {x0 : Int} {x1 : Int} {r7 : Int} : ∀ (s8 : Int) (r : Int), lp (Zaq b d m0_0 (fun z0 z1 => Zp z0 z1 m1_4) x0 x1 r7) s8 = some r → lpW ctx 2 [0, 1, 4, 12, 13] [0, 1, 4, 12, 13] ZqC [(.sl 0 1), (.d (Zb b)), (.fn 118 [(.ptr 1 0)]), (.d (Zb r7)), (.d (Zb s8))] [(.arr 1 (List.map Zb (List.set (List.set m0_0 b.toNat x0) d.toNat x1))), (.cells [(.d (Zb m1_0)), (.d (Zb m1_1)), (.d (D.list t0 (List.map ZV m1_2))), (.d (D.list t1 (List.map ZQ m1_3))), (.d (D.list t2 (List.map Zw m1_4))), (.d (D.list t3 (List.map Zr m1_5)))])] = some ((Zbt t0 t1 t2 t3 b d m0_0 m1_0 m1_1 m1_2 m1_3 m1_4 m1_5 x0 x1 r7) r) := by
 refine ZaZ (Zbt t0 t1 t2 t3 b d m0_0 m1_0 m1_1 m1_2 m1_3 m1_4 m1_5 x0 x1 r7) ?_
 intro s8 rcl ih
 show ZR _ _ (lpW _ _ _ _ _ _ _)
 unfold Zaq
 rw [Za2]
 conv => arg 3; whnf
 refine Ze rfl ?_ ?_
 ·conv => arg 3; whnf
  refine Zj rfl rfl fun x9 hx9 => ?_
  conv => arg 3; whnf
  refine Zg (Zx rfl hx9) ?_
  conv => arg 3; whnf
  refine Zj rfl rfl fun x10 hx10 => ?_
  conv => arg 3; whnf
  refine Zg (Zx rfl hx10) ?_
  conv => arg 3; whnf
  refine Zl _ ZA rfl fun x11 hx11 => ?_
  conv => arg 3; whnf
  refine Ze rfl ?_ ?_
  ·conv => arg 3; whnf
   exact Zf rfl
  ·conv => arg 3; whnf
   exact Zd (ih _)
 ·conv => arg 3; whnf
  exact Zf rfl
def Zbv (t0 : Bool) (t1 : Bool) (t2 : Bool) (t3 : Bool) (b : Int) (m1_0 : Int) (m1_1 : Int) (m1_2 : (List ZK)) (m1_3 : (List ZI)) (m1_4 : (List Zq)) (m1_5 : (List Zm)) (s19 : Int × Int × (List Int)) : Int → Ex × List V × Zk
  | r => (.exit 6, [(.sl 0 1), (.d (Zb b)), (.fn 118 [(.ptr 1 0)]), (.d (Zb r)), (.d (Zb s19.2.1))], [(.arr 1 (List.map Zb s19.2.2)), (.cells [(.d (Zb m1_0)), (.d (Zb m1_1)), (.d (D.list t0 (List.map ZV m1_2))), (.d (D.list t1 (List.map ZQ m1_3))), (.d (D.list t2 (List.map Zw m1_4))), (.d (D.list t3 (List.map Zr m1_5)))])])
theorem Zc7 {t0 : Bool} {t1 : Bool} {t2 : Bool} {t3 : Bool} {b : Int} {m1_0 : Int} {m1_1 : Int} {m1_2 : (List ZK)} {m1_3 : (List ZI)} {m1_4 : (List Zq)} {m1_5 : (List Zm)} {s19 : Int × Int × (List Int)} : ∀ (s20 : Int) (r : Int), lp (Zao b (fun z0 z1 => Zp z0 z1 m1_4) s19) s20 = some r → lpW ctx 2 [0, 1, 4, 12, 13] [0, 1, 4, 12, 13] ZqE [(.sl 0 1), (.d (Zb b)), (.fn 118 [(.ptr 1 0)]), (.d (Zb s20)), (.d (Zb s19.2.1))] [(.arr 1 (List.map Zb s19.2.2)), (.cells [(.d (Zb m1_0)), (.d (Zb m1_1)), (.d (D.list t0 (List.map ZV m1_2))), (.d (D.list t1 (List.map ZQ m1_3))), (.d (D.list t2 (List.map Zw m1_4))), (.d (D.list t3 (List.map Zr m1_5)))])] = some ((Zbv t0 t1 t2 t3 b m1_0 m1_1 m1_2 m1_3 m1_4 m1_5 s19) r) := by
 refine ZaZ (Zbv t0 t1 t2 t3 b m1_0 m1_1 m1_2 m1_3 m1_4 m1_5 s19) ?_
 intro s20 rcl ih
 show ZR _ _ (lpW _ _ _ _ _ _ _)
 unfold Zao
 rw [Za2]
 conv => arg 3; whnf
 refine Ze rfl ?_ ?_
 ·conv => arg 3; whnf
  refine Zj rfl rfl fun x21 hx21 => ?_
  conv => arg 3; whnf
  refine Zg (Zx rfl hx21) ?_
  conv => arg 3; whnf
  refine Zj rfl rfl fun x22 hx22 => ?_
  conv => arg 3; whnf
  refine Zg (Zx rfl hx22) ?_
  conv => arg 3; whnf
  refine Zl _ ZA rfl fun x23 hx23 => ?_
  conv => arg 3; whnf
  refine Ze rfl ?_ ?_
  ·conv => arg 3; whnf
   exact Zd (ih _)
  ·conv => arg 3; whnf
   exact Zf rfl
 ·conv => arg 3; whnf
  exact Zf rfl
def ZbA (t0 : Bool) (t1 : Bool) (t2 : Bool) (t3 : Bool) (b : Int) (m1_0 : Int) (m1_1 : Int) (m1_2 : (List ZK)) (m1_3 : (List ZI)) (m1_4 : (List Zq)) (m1_5 : (List Zm)) (s19 : Int × Int × (List Int)) (r24 : Int) : Int → Ex × List V × Zk
  | r => (.exit 8, [(.sl 0 1), (.d (Zb b)), (.fn 118 [(.ptr 1 0)]), (.d (Zb r24)), (.d (Zb r))], [(.arr 1 (List.map Zb s19.2.2)), (.cells [(.d (Zb m1_0)), (.d (Zb m1_1)), (.d (D.list t0 (List.map ZV m1_2))), (.d (D.list t1 (List.map ZQ m1_3))), (.d (D.list t2 (List.map Zw m1_4))), (.d (D.list t3 (List.map Zr m1_5)))])])
theorem Zc5 {t0 : Bool} {t1 : Bool} {t2 : Bool} {t3 : Bool} {b : Int} {m1_0 : Int} {m1_1 : Int} {m1_2 : (List ZK)} {m1_3 : (List ZI)} {m1_4 : (List Zq)} {m1_5 : (List Zm)} {s19 : Int × Int × (List Int)} {r24 : Int} : ∀ (s25 : Int) (r : Int), lp (Zap b (fun z0 z1 => Zp z0 z1 m1_4) s19 r24) s25 = some r → lpW ctx 2 [0, 1, 4, 12, 13] [0, 1, 4, 12, 13] ZqP [(.sl 0 1), (.d (Zb b)), (.fn 118 [(.ptr 1 0)]), (.d (Zb r24)), (.d (Zb s25))] [(.arr 1 (List.map Zb s19.2.2)), (.cells [(.d (Zb m1_0)), (.d (Zb m1_1)), (.d (D.list t0 (List.map ZV m1_2))), (.d (D.list t1 (List.map ZQ m1_3))), (.d (D.list t2 (List.map Zw m1_4))), (.d (D.list t3 (List.map Zr m1_5)))])] = some ((ZbA t0 t1 t2 t3 b m1_0 m1_1 m1_2 m1_3 m1_4 m1_5 s19 r24) r) := by
 refine ZaZ (ZbA t0 t1 t2 t3 b m1_0 m1_1 m1_2 m1_3 m1_4 m1_5 s19 r24) ?_
 intro s25 rcl ih
 show ZR _ _ (lpW _ _ _ _ _ _ _)
 unfold Zap
 rw [Za2]
 conv => arg 3; whnf
 refine Ze rfl ?_ ?_
 ·conv => arg 3; whnf
  refine Zj rfl rfl fun x26 hx26 => ?_
  conv => arg 3; whnf
  refine Zg (Zx rfl hx26) ?_
  conv => arg 3; whnf
  refine Zj rfl rfl fun x27 hx27 => ?_
  conv => arg 3; whnf
  refine Zg (Zx rfl hx27) ?_
  conv => arg 3; whnf
  refine Zl _ ZA rfl fun x28 hx28 => ?_
  conv => arg 3; whnf
  refine Ze rfl ?_ ?_
  ·conv => arg 3; whnf
   exact Zf rfl
  ·conv => arg 3; whnf
   exact Zd (ih _)
 ·conv => arg 3; whnf
  exact Zf rfl
def Zbu (t0 : Bool) (t1 : Bool) (t2 : Bool) (t3 : Bool) (b : Int) (m1_0 : Int) (m1_1 : Int) (m1_2 : (List ZK)) (m1_3 : (List ZI)) (m1_4 : (List Zq)) (m1_5 : (List Zm)) : (Int × (List Int)) → Ex × List V × Zk
  | r => (.exit 4, [(.sl 0 1), (.d (Zb b)), (.d (Zb r.1))], [(.arr 1 (List.map Zb r.2)), (.cells [(.d (Zb m1_0)), (.d (Zb m1_1)), (.d (D.list t0 (List.map ZV m1_2))), (.d (D.list t1 (List.map ZQ m1_3))), (.d (D.list t2 (List.map Zw m1_4))), (.d (D.list t3 (List.map Zr m1_5)))])])
theorem Zc8 {t0 : Bool} {t1 : Bool} {t2 : Bool} {t3 : Bool} {b : Int} {m1_0 : Int} {m1_1 : Int} {m1_2 : (List ZK)} {m1_3 : (List ZI)} {m1_4 : (List Zq)} {m1_5 : (List Zm)} : ∀ (s19 : Int × Int × (List Int)) (r : (Int × (List Int))), lp (ZaJ b (fun z0 z1 => Zp z0 z1 m1_4)) s19 = some r → lpW ctx 2 [0, 1, 4, 12, 13] [0, 1, 13] Zqw [(.sl 0 1), (.d (Zb b)), (.fn 118 [(.ptr 1 0)]), (.d (Zb s19.1)), (.d (Zb s19.2.1))] [(.arr 1 (List.map Zb s19.2.2)), (.cells [(.d (Zb m1_0)), (.d (Zb m1_1)), (.d (D.list t0 (List.map ZV m1_2))), (.d (D.list t1 (List.map ZQ m1_3))), (.d (D.list t2 (List.map Zw m1_4))), (.d (D.list t3 (List.map Zr m1_5)))])] = some ((Zbu t0 t1 t2 t3 b m1_0 m1_1 m1_2 m1_3 m1_4 m1_5) r) := by
 refine ZaZ (Zbu t0 t1 t2 t3 b m1_0 m1_1 m1_2 m1_3 m1_4 m1_5) ?_
 intro s19 rcl ih
 show ZR _ _ (lpW _ _ _ _ _ _ _)
 unfold ZaJ
 rw [Za2]
 conv => arg 3; whnf
 refine Zc _ (Zc7 _) fun r24 hr24 => ?_
 conv => arg 3; whnf
 refine Zc _ (Zc5 _) fun r29 hr29 => ?_
 conv => arg 3; whnf
 refine Ze rfl ?_ ?_
 ·conv => arg 3; whnf
  exact Zf rfl
 ·conv => arg 3; whnf
  refine Zj rfl rfl fun x30 hx30 => ?_
  conv => arg 3; whnf
  refine Zg (Zx rfl hx30) ?_
  conv => arg 3; whnf
  refine Zj rfl rfl fun x31 hx31 => ?_
  conv => arg 3; whnf
  refine Zg (Zx rfl hx31) ?_
  conv => arg 3; whnf
  refine Zg (Zbj rfl hx31) ?_
  conv => arg 3; whnf
  refine Zg (Zx rfl hx31) ?_
  conv => arg 3; whnf
  refine Zu (Zat Zb s19.2.2 r24.toNat x30) ?_
  conv => arg 3; whnf
  refine Zj rfl rfl fun x32 hx32 => ?_
  conv => arg 3; whnf
  refine Zg (Zx rfl hx32) ?_
  conv => arg 3; whnf
  refine Zu (Zat Zb (List.set s19.2.2 r24.toNat x30) r29.toNat x31) ?_
  conv => arg 3; whnf
  exact Zd (ih _)
theorem Zh {t0 : Bool} {t1 : Bool} {t2 : Bool} {t3 : Bool} {b : Int} {c : Int} {d : Int} {m0_0 : (List Int)} {m1_0 : Int} {m1_1 : Int} {m1_2 : (List ZK)} {m1_3 : (List ZI)} {m1_4 : (List Zq)} {m1_5 : (List Zm)} : ∀ r, (Zn b c d (fun z0 z1 => Zp z0 z1 m1_4) m0_0) = some r → evW ctx 133 [(.sl 0 1), (.d (Zb b)), (.d (Zb c)), (.d (Zb d)), (.fn 118 [(.ptr 1 0)])] [(.arr 1 (List.map Zb m0_0)), (.cells [(.d (Zb m1_0)), (.d (Zb m1_1)), (.d (D.list t0 (List.map ZV m1_2))), (.d (D.list t1 (List.map ZQ m1_3))), (.d (D.list t2 (List.map Zw m1_4))), (.d (D.list t3 (List.map Zr m1_5)))])] = some ((ZbO t0 t1 t2 t3 b c d m0_0 m1_0 m1_1 m1_2 m1_3 m1_4 m1_5) r) := by
 show ZR _ (fun r rhs => rhs = some ((ZbO t0 t1 t2 t3 b c d m0_0 m1_0 m1_1 m1_2 m1_3 m1_4 m1_5) r)) _
 unfold Zn
 rw [Ze7 ctx 133 Zso _ _ rfl rfl]
 conv => arg 3; whnf
 refine Zj rfl rfl fun x0 hx0 => ?_
 conv => arg 3; whnf
 refine Zg (Zx rfl hx0) ?_
 conv => arg 3; whnf
 refine Zj rfl rfl fun x1 hx1 => ?_
 conv => arg 3; whnf
 refine Zg (Zx rfl hx1) ?_
 conv => arg 3; whnf
 refine Zg (Zbj rfl hx1) ?_
 conv => arg 3; whnf
 refine Zg (Zx rfl hx1) ?_
 conv => arg 3; whnf
 refine Zu (Zat Zb m0_0 b.toNat x0) ?_
 conv => arg 3; whnf
 refine Zj rfl rfl fun x2 hx2 => ?_
 conv => arg 3; whnf
 refine Zg (Zx rfl hx2) ?_
 conv => arg 3; whnf
 refine Zu (Zat Zb (List.set m0_0 b.toNat x0) d.toNat x1) ?_
 conv => arg 3; whnf
 refine Zc _ (Zc6 _) fun r7 hr7 => ?_
 conv => arg 3; whnf
 refine Zc _ (Zc9 _) fun r12 hr12 => ?_
 conv => arg 3; whnf
 refine Ze rfl ?_ ?_
 ·conv => arg 3; whnf
  refine Zj rfl rfl fun x13 hx13 => ?_
  conv => arg 3; whnf
  refine Zg (Zx rfl hx13) ?_
  conv => arg 3; whnf
  refine Zj rfl rfl fun x14 hx14 => ?_
  conv => arg 3; whnf
  refine Zg (Zx rfl hx14) ?_
  conv => arg 3; whnf
  refine Zg (Zbj rfl hx14) ?_
  conv => arg 3; whnf
  refine Zg (Zx rfl hx14) ?_
  conv => arg 3; whnf
  refine Zu (Zat Zb (List.set (List.set m0_0 b.toNat x0) d.toNat x1) r12.toNat x13) ?_
  conv => arg 3; whnf
  refine Zj rfl rfl fun x15 hx15 => ?_
  conv => arg 3; whnf
  refine Zg (Zx rfl hx15) ?_
  conv => arg 3; whnf
  refine Zu (Zat Zb (List.set (List.set (List.set m0_0 b.toNat x0) d.toNat x1) r12.toNat x13) b.toNat x14) ?_
  conv => arg 3; whnf
  exact Zf rfl
 ·conv => arg 3; whnf
  refine Zj rfl rfl fun x16 hx16 => ?_
  conv => arg 3; whnf
  refine Zg (Zx rfl hx16) ?_
  conv => arg 3; whnf
  refine Zj rfl rfl fun x17 hx17 => ?_
  conv => arg 3; whnf
  refine Zg (Zx rfl hx17) ?_
  conv => arg 3; whnf
  refine Zg (Zbj rfl hx17) ?_
  conv => arg 3; whnf
  refine Zg (Zx rfl hx17) ?_
  conv => arg 3; whnf
  refine Zu (Zat Zb (List.set (List.set m0_0 b.toNat x0) d.toNat x1) r7.toNat x16) ?_
  conv => arg 3; whnf
  refine Zj rfl rfl fun x18 hx18 => ?_
  conv => arg 3; whnf
  refine Zg (Zx rfl hx18) ?_
  conv => arg 3; whnf
  refine Zu (Zat Zb (List.set (List.set (List.set m0_0 b.toNat x0) d.toNat x1) r7.toNat x16) r12.toNat x17) ?_
  conv => arg 3; whnf
  refine Zc _ (Zc8 _) fun r33 hr33 => ?_
  conv => arg 3; whnf
  refine Zj rfl rfl fun x34 hx34 => ?_
  conv => arg 3; whnf
  refine Zg (Zx rfl hx34) ?_
  conv => arg 3; whnf
  refine Zj rfl rfl fun x35 hx35 => ?_
  conv => arg 3; whnf
  refine Zg (Zx rfl hx35) ?_
  conv => arg 3; whnf
  refine Zg (Zbj rfl hx35) ?_
  conv => arg 3; whnf
  refine Zg (Zx rfl hx35) ?_
  conv => arg 3; whnf
  refine Zu (Zat Zb r33.2 r33.1.toNat x34) ?_
  conv => arg 3; whnf
  refine Zj rfl rfl fun x36 hx36 => ?_
  conv => arg 3; whnf
  refine Zg (Zx rfl hx36) ?_
  conv => arg 3; whnf
  refine Zu (Zat Zb (List.set r33.2 r33.1.toNat x34) b.toNat x35) ?_
  conv => arg 3; whnf
  exact Zf rfl
def Zbl (t0 : Bool) (t1 : Bool) (t2 : Bool) (t3 : Bool) (b : Int) (c : Int) (d : Int) (m0_0 : (List Int)) (m1_0 : Int) (m1_1 : Int) (m1_2 : (List ZK)) (m1_3 : (List ZI)) (m1_4 : (List Zq)) (m1_5 : (List Zm)) : (Int × (List Int)) → V × Zk
  | r => ((.d (Zb r.1)), [(.arr 1 (List.map Zb r.2)), (.cells [(.d (Zb m1_0)), (.d (Zb m1_1)), (.d (D.list t0 (List.map ZV m1_2))), (.d (D.list t1 (List.map ZQ m1_3))), (.d (D.list t2 (List.map Zw m1_4))), (.d (D.list t3 (List.map Zr m1_5)))])])
def Za4 (t0 : Bool) (t1 : Bool) (t2 : Bool) (t3 : Bool) (b : Int) (m1_0 : Int) (m1_1 : Int) (m1_2 : (List ZK)) (m1_3 : (List ZI)) (m1_4 : (List Zq)) (m1_5 : (List Zm)) (s3 : Int × Int × (List Int)) : Int → Ex × List V × Zk
  | r => (.exit 2, [(.sl 0 1), (.d (Zb b)), (.fn 118 [(.ptr 1 0)]), (.d (Zb r)), (.d (Zb s3.2.1))], [(.arr 1 (List.map Zb s3.2.2)), (.cells [(.d (Zb m1_0)), (.d (Zb m1_1)), (.d (D.list t0 (List.map ZV m1_2))), (.d (D.list t1 (List.map ZQ m1_3))), (.d (D.list t2 (List.map Zw m1_4))), (.d (D.list t3 (List.map Zr m1_5)))])])
theorem ZcA {t0 : Bool} {t1 : Bool} {t2 : Bool} {t3 : Bool} {b : Int} {m1_0 : Int} {m1_1 : Int} {m1_2 : (List ZK)} {m1_3 : (List ZI)} {m1_4 : (List Zq)} {m1_5 : (List Zm)} {s3 : Int × Int × (List Int)} : ∀ (s4 : Int) (r : Int), lp (Z8 b (fun z0 z1 => Zp z0 z1 m1_4) s3) s4 = some r → lpW ctx 2 [0, 1, 4, 11, 12] [0, 1, 4, 11, 12] ZqQ [(.sl 0 1), (.d (Zb b)), (.fn 118 [(.ptr 1 0)]), (.d (Zb s4)), (.d (Zb s3.2.1))] [(.arr 1 (List.map Zb s3.2.2)), (.cells [(.d (Zb m1_0)), (.d (Zb m1_1)), (.d (D.list t0 (List.map ZV m1_2))), (.d (D.list t1 (List.map ZQ m1_3))), (.d (D.list t2 (List.map Zw m1_4))), (.d (D.list t3 (List.map Zr m1_5)))])] = some ((Za4 t0 t1 t2 t3 b m1_0 m1_1 m1_2 m1_3 m1_4 m1_5 s3) r) := by
 refine ZaZ (Za4 t0 t1 t2 t3 b m1_0 m1_1 m1_2 m1_3 m1_4 m1_5 s3) ?_
 intro s4 rcl ih
 show ZR _ _ (lpW _ _ _ _ _ _ _)
 unfold Z8
 rw [Za2]
 conv => arg 3; whnf
 refine Ze rfl ?_ ?_
 ·conv => arg 3; whnf
  refine Zj rfl rfl fun x5 hx5 => ?_
  conv => arg 3; whnf
  refine Zg (Zx rfl hx5) ?_
  conv => arg 3; whnf
  refine Zj rfl rfl fun x6 hx6 => ?_
  conv => arg 3; whnf
  refine Zg (Zx rfl hx6) ?_
  conv => arg 3; whnf
  refine Zl _ ZA rfl fun x7 hx7 => ?_
  conv => arg 3; whnf
  refine Ze rfl ?_ ?_
  ·conv => arg 3; whnf
   exact Zf rfl
  ·conv => arg 3; whnf
   exact Zd (ih _)
 ·conv => arg 3; whnf
  exact Zf rfl
def Za7 (t0 : Bool) (t1 : Bool) (t2 : Bool) (t3 : Bool) (b : Int) (m1_0 : Int) (m1_1 : Int) (m1_2 : (List ZK)) (m1_3 : (List ZI)) (m1_4 : (List Zq)) (m1_5 : (List Zm)) (s3 : Int × Int × (List Int)) (r8 : Int) : Int → Ex × List V × Zk
  | r => (.exit 4, [(.sl 0 1), (.d (Zb b)), (.fn 118 [(.ptr 1 0)]), (.d (Zb r8)), (.d (Zb r))], [(.arr 1 (List.map Zb s3.2.2)), (.cells [(.d (Zb m1_0)), (.d (Zb m1_1)), (.d (D.list t0 (List.map ZV m1_2))), (.d (D.list t1 (List.map ZQ m1_3))), (.d (D.list t2 (List.map Zw m1_4))), (.d (D.list t3 (List.map Zr m1_5)))])])
theorem ZcB {t0 : Bool} {t1 : Bool} {t2 : Bool} {t3 : Bool} {b : Int} {m1_0 : Int} {m1_1 : Int} {m1_2 : (List ZK)} {m1_3 : (List ZI)} {m1_4 : (List Zq)} {m1_5 : (List Zm)} {s3 : Int × Int × (List Int)} {r8 : Int} : ∀ (s9 : Int) (r : Int), lp (Z7 b (fun z0 z1 => Zp z0 z1 m1_4) s3 r8) s9 = some r → lpW ctx 2 [0, 1, 4, 11, 12] [0, 1, 4, 11, 12] ZqM [(.sl 0 1), (.d (Zb b)), (.fn 118 [(.ptr 1 0)]), (.d (Zb r8)), (.d (Zb s9))] [(.arr 1 (List.map Zb s3.2.2)), (.cells [(.d (Zb m1_0)), (.d (Zb m1_1)), (.d (D.list t0 (List.map ZV m1_2))), (.d (D.list t1 (List.map ZQ m1_3))), (.d (D.list t2 (List.map Zw m1_4))), (.d (D.list t3 (List.map Zr m1_5)))])] = some ((Za7 t0 t1 t2 t3 b m1_0 m1_1 m1_2 m1_3 m1_4 m1_5 s3 r8) r) := by
 refine ZaZ (Za7 t0 t1 t2 t3 b m1_0 m1_1 m1_2 m1_3 m1_4 m1_5 s3 r8) ?_
 intro s9 rcl ih
 show ZR _ _ (lpW _ _ _ _ _ _ _)
 unfold Z7
 rw [Za2]
 conv => arg 3; whnf
 refine Ze rfl ?_ ?_
 ·conv => arg 3; whnf
  refine Zj rfl rfl fun x10 hx10 => ?_
  conv => arg 3; whnf
  refine Zg (Zx rfl hx10) ?_
  conv => arg 3; whnf
  refine Zj rfl rfl fun x11 hx11 => ?_
  conv => arg 3; whnf
  refine Zg (Zx rfl hx11) ?_
  conv => arg 3; whnf
  refine Zl _ ZA rfl fun x12 hx12 => ?_
  conv => arg 3; whnf
  refine Ze rfl ?_ ?_
  ·conv => arg 3; whnf
   exact Zd (ih _)
  ·conv => arg 3; whnf
   exact Zf rfl
 ·conv => arg 3; whnf
  exact Zf rfl
def Za6 (t0 : Bool) (t1 : Bool) (t2 : Bool) (t3 : Bool) (b : Int) (m1_0 : Int) (m1_1 : Int) (m1_2 : (List ZK)) (m1_3 : (List ZI)) (m1_4 : (List Zq)) (m1_5 : (List Zm)) : (Int × (List Int)) → Ex × List V × Zk
  | r => (.exit 0, [(.d (Zb r.1))], [(.arr 1 (List.map Zb r.2)), (.cells [(.d (Zb m1_0)), (.d (Zb m1_1)), (.d (D.list t0 (List.map ZV m1_2))), (.d (D.list t1 (List.map ZQ m1_3))), (.d (D.list t2 (List.map Zw m1_4))), (.d (D.list t3 (List.map Zr m1_5)))])])
theorem Zcu {t0 : Bool} {t1 : Bool} {t2 : Bool} {t3 : Bool} {b : Int} {m1_0 : Int} {m1_1 : Int} {m1_2 : (List ZK)} {m1_3 : (List ZI)} {m1_4 : (List Zq)} {m1_5 : (List Zm)} : ∀ (s3 : Int × Int × (List Int)) (r : (Int × (List Int))), lp (Zan b (fun z0 z1 => Zp z0 z1 m1_4)) s3 = some r → lpW ctx 2 [0, 1, 4, 11, 12] [11] ZqI [(.sl 0 1), (.d (Zb b)), (.fn 118 [(.ptr 1 0)]), (.d (Zb s3.1)), (.d (Zb s3.2.1))] [(.arr 1 (List.map Zb s3.2.2)), (.cells [(.d (Zb m1_0)), (.d (Zb m1_1)), (.d (D.list t0 (List.map ZV m1_2))), (.d (D.list t1 (List.map ZQ m1_3))), (.d (D.list t2 (List.map Zw m1_4))), (.d (D.list t3 (List.map Zr m1_5)))])] = some ((Za6 t0 t1 t2 t3 b m1_0 m1_1 m1_2 m1_3 m1_4 m1_5) r) := by
 refine ZaZ (Za6 t0 t1 t2 t3 b m1_0 m1_1 m1_2 m1_3 m1_4 m1_5) ?_
 intro s3 rcl ih
 show ZR _ _ (lpW _ _ _ _ _ _ _)
 unfold Zan
 rw [Za2]
 conv => arg 3; whnf
 refine Zc _ (ZcA _) fun r8 hr8 => ?_
 conv => arg 3; whnf
 refine Zc _ (ZcB _) fun r13 hr13 => ?_
 conv => arg 3; whnf
 refine Ze rfl ?_ ?_
 ·conv => arg 3; whnf
  exact Zf rfl
 ·conv => arg 3; whnf
  refine Zj rfl rfl fun x14 hx14 => ?_
  conv => arg 3; whnf
  refine Zg (Zx rfl hx14) ?_
  conv => arg 3; whnf
  refine Zj rfl rfl fun x15 hx15 => ?_
  conv => arg 3; whnf
  refine Zg (Zx rfl hx15) ?_
  conv => arg 3; whnf
  refine Zg (Zbj rfl hx15) ?_
  conv => arg 3; whnf
  refine Zg (Zx rfl hx15) ?_
  conv => arg 3; whnf
  refine Zu (Zat Zb s3.2.2 r8.toNat x14) ?_
  conv => arg 3; whnf
  refine Zj rfl rfl fun x16 hx16 => ?_
  conv => arg 3; whnf
  refine Zg (Zx rfl hx16) ?_
  conv => arg 3; whnf
  refine Zu (Zat Zb (List.set s3.2.2 r8.toNat x14) r13.toNat x15) ?_
  conv => arg 3; whnf
  exact Zd (ih _)
theorem Zy {t0 : Bool} {t1 : Bool} {t2 : Bool} {t3 : Bool} {b : Int} {c : Int} {d : Int} {m0_0 : (List Int)} {m1_0 : Int} {m1_1 : Int} {m1_2 : (List ZK)} {m1_3 : (List ZI)} {m1_4 : (List Zq)} {m1_5 : (List Zm)} : ∀ r, (Zz b c d (fun z0 z1 => Zp z0 z1 m1_4) m0_0) = some r → evW ctx 132 [(.sl 0 1), (.d (Zb b)), (.d (Zb c)), (.d (Zb d)), (.fn 118 [(.ptr 1 0)])] [(.arr 1 (List.map Zb m0_0)), (.cells [(.d (Zb m1_0)), (.d (Zb m1_1)), (.d (D.list t0 (List.map ZV m1_2))), (.d (D.list t1 (List.map ZQ m1_3))), (.d (D.list t2 (List.map Zw m1_4))), (.d (D.list t3 (List.map Zr m1_5)))])] = some ((Zbl t0 t1 t2 t3 b c d m0_0 m1_0 m1_1 m1_2 m1_3 m1_4 m1_5) r) := by
 show ZR _ (fun r rhs => rhs = some ((Zbl t0 t1 t2 t3 b c d m0_0 m1_0 m1_1 m1_2 m1_3 m1_4 m1_5) r)) _
 unfold Zz
 rw [Ze7 ctx 132 ZsF _ _ rfl rfl]
 conv => arg 3; whnf
 refine Zj rfl rfl fun x0 hx0 => ?_
 conv => arg 3; whnf
 refine Zg (Zx rfl hx0) ?_
 conv => arg 3; whnf
 refine Zj rfl rfl fun x1 hx1 => ?_
 conv => arg 3; whnf
 refine Zg (Zx rfl hx1) ?_
 conv => arg 3; whnf
 refine Zg (Zbj rfl hx1) ?_
 conv => arg 3; whnf
 refine Zg (Zx rfl hx1) ?_
 conv => arg 3; whnf
 refine Zu (Zat Zb m0_0 b.toNat x0) ?_
 conv => arg 3; whnf
 refine Zj rfl rfl fun x2 hx2 => ?_
 conv => arg 3; whnf
 refine Zg (Zx rfl hx2) ?_
 conv => arg 3; whnf
 refine Zu (Zat Zb (List.set m0_0 b.toNat x0) d.toNat x1) ?_
 conv => arg 3; whnf
 refine Zc _ (Zcu _) fun r17 hr17 => ?_
 conv => arg 3; whnf
 exact Zf rfl
def Zex (r : Int) : D := (D.int .u64 r)
theorem Zgi {a : Int} : ∀ r, (Zb3 a) = some r → evD ctx 137 [(.d (Zb a))] = some (Zex r) := by
 show ZR _ (fun r rhs => rhs = some (Zex r)) _
 unfold Zb3
 rw [Zba ctx 137 Ztu _ rfl rfl]
 conv => arg 3; whnf
 refine Zl _ Zgu rfl fun x0 hx0 => ?_
 conv => arg 3; whnf
 refine Ze rfl ?_ ?_
 ·exact ZaE
 ·conv => arg 3; whnf
  exact Zf rfl
def ZeH (m0_0 : Int) : Unit → V × Zk
  | r => ((.d (D.int .u64 (IntKind.u64.wrap (BitVec.ofInt IntKind.u64.bits (IntKind.u64.wrap (BitVec.ofInt IntKind.u64.bits (IntKind.u64.wrap (BitVec.ofInt IntKind.u64.bits m0_0 ^^^ BitVec.ofInt IntKind.u64.bits (IntKind.u64.wrap (m0_0 * 2 ^ 13))).toNat) ^^^ BitVec.ofInt IntKind.u64.bits (Int.fdiv (IntKind.u64.wrap (BitVec.ofInt IntKind.u64.bits m0_0 ^^^ BitVec.ofInt IntKind.u64.bits (IntKind.u64.wrap (m0_0 * 2 ^ 13))).toNat) (2 ^ 7))).toNat) ^^^ BitVec.ofInt IntKind.u64.bits (IntKind.u64.wrap ((IntKind.u64.wrap (BitVec.ofInt IntKind.u64.bits (IntKind.u64.wrap (BitVec.ofInt IntKind.u64.bits m0_0 ^^^ BitVec.ofInt IntKind.u64.bits (IntKind.u64.wrap (m0_0 * 2 ^ 13))).toNat) ^^^ BitVec.ofInt IntKind.u64.bits (Int.fdiv (IntKind.u64.wrap (BitVec.ofInt IntKind.u64.bits m0_0 ^^^ BitVec.ofInt IntKind.u64.bits (IntKind.u64.wrap (m0_0 * 2 ^ 13))).toNat) (2 ^ 7))).toNat) * 2 ^ 17))).toNat))), [(.cells [(.d (D.int .u64 (IntKind.u64.wrap (BitVec.ofInt IntKind.u64.bits (IntKind.u64.wrap (BitVec.ofInt IntKind.u64.bits (IntKind.u64.wrap (BitVec.ofInt IntKind.u64.bits m0_0 ^^^ BitVec.ofInt IntKind.u64.bits (IntKind.u64.wrap (m0_0 * 2 ^ 13))).toNat) ^^^ BitVec.ofInt IntKind.u64.bits (Int.fdiv (IntKind.u64.wrap (BitVec.ofInt IntKind.u64.bits m0_0 ^^^ BitVec.ofInt IntKind.u64.bits (IntKind.u64.wrap (m0_0 * 2 ^ 13))).toNat) (2 ^ 7))).toNat) ^^^ BitVec.ofInt IntKind.u64.bits (IntKind.u64.wrap ((IntKind.u64.wrap (BitVec.ofInt IntKind.u64.bits (IntKind.u64.wrap (BitVec.ofInt IntKind.u64.bits m0_0 ^^^ BitVec.ofInt IntKind.u64.bits (IntKind.u64.wrap (m0_0 * 2 ^ 13))).toNat) ^^^ BitVec.ofInt IntKind.u64.bits (Int.fdiv (IntKind.u64.wrap (BitVec.ofInt IntKind.u64.bits m0_0 ^^^ BitVec.ofInt IntKind.u64.bits (IntKind.u64.wrap (m0_0 * 2 ^ 13))).toNat) (2 ^ 7))).toNat) * 2 ^ 17))).toNat)))])])
theorem Zgz {m0_0 : Int} : ∀ r, Zc3 = some r → evW ctx 138 [(.ptr 0 0)] [(.cells [(.d (D.int .u64 m0_0))])] = some ((ZeH m0_0) r) := by
 show ZR _ (fun r rhs => rhs = some ((ZeH m0_0) r)) _
 unfold Zc3
 rw [Ze7 ctx 138 Zs4 _ _ rfl rfl]
 conv => arg 3; whnf
 refine Zad rfl ?_
 conv => arg 3; whnf
 refine Zad rfl ?_
 conv => arg 3; whnf
 refine Zad rfl ?_
 conv => arg 3; whnf
 exact Zf rfl
def Zbs (t0 : Bool) (t1 : Bool) (t2 : Bool) (t3 : Bool) (b : Int) (c : Int) (m0_0 : (List Int)) (m1_0 : Int) (m1_1 : Int) (m1_2 : (List ZK)) (m1_3 : (List ZI)) (m1_4 : (List Zq)) (m1_5 : (List Zm)) : (List Int) → V × Zk
  | r => ((.d (D.tup [])), [(.arr 1 (List.map Zb r)), (.cells [(.d (Zb m1_0)), (.d (Zb m1_1)), (.d (D.list t0 (List.map ZV m1_2))), (.d (D.list t1 (List.map ZQ m1_3))), (.d (D.list t2 (List.map Zw m1_4))), (.d (D.list t3 (List.map Zr m1_5)))])])
def Zbc (t0 : Bool) (t1 : Bool) (t2 : Bool) (t3 : Bool) (b : Int) (c : Int) (m1_0 : Int) (m1_1 : Int) (m1_2 : (List ZK)) (m1_3 : (List ZI)) (m1_4 : (List Zq)) (m1_5 : (List Zm)) (x0 : Int) : (List Int) → Ex × List V × Zk
  | r => (.exit 0, [], [(.arr 1 (List.map Zb r)), (.cells [(.d (Zb m1_0)), (.d (Zb m1_1)), (.d (D.list t0 (List.map ZV m1_2))), (.d (D.list t1 (List.map ZQ m1_3))), (.d (D.list t2 (List.map Zw m1_4))), (.d (D.list t3 (List.map Zr m1_5)))])])
theorem ZcE {t0 : Bool} {t1 : Bool} {t2 : Bool} {t3 : Bool} {b : Int} {c : Int} {m1_0 : Int} {m1_1 : Int} {m1_2 : (List ZK)} {m1_3 : (List ZI)} {m1_4 : (List Zq)} {m1_5 : (List Zm)} {x0 : Int} : ∀ (s1 : Int × (List Int) × Int) (r : (List Int)), lp (Zav b c x0) s1 = some r → lpW ctx 2 [0, 1, 8, 9, 10, 11] [] Zqh [(.sl 0 1), (.d (Zb b)), (.d (Zb (w64 (c - b)))), (.ptr 2 0), (.d (D.int .u64 x0)), (.d (Zb s1.1))] [(.arr 1 (List.map Zb s1.2.1)), (.cells [(.d (Zb m1_0)), (.d (Zb m1_1)), (.d (D.list t0 (List.map ZV m1_2))), (.d (D.list t1 (List.map ZQ m1_3))), (.d (D.list t2 (List.map Zw m1_4))), (.d (D.list t3 (List.map Zr m1_5)))]), (.cells [(.d (D.int .u64 s1.2.2))])] = some ((Zbc t0 t1 t2 t3 b c m1_0 m1_1 m1_2 m1_3 m1_4 m1_5 x0) r) := by
 refine ZaZ (Zbc t0 t1 t2 t3 b c m1_0 m1_1 m1_2 m1_3 m1_4 m1_5 x0) ?_
 intro s1 rcl ih
 show ZR _ _ (lpW _ _ _ _ _ _ _)
 unfold Zav
 rw [Za2]
 conv => arg 3; whnf
 refine Zad rfl ?_
 conv => arg 3; whnf
 refine Ze rfl ?_ ?_
 ·conv => arg 3; whnf
  refine Zc _ Zgz fun x2 hx2 => ?_
  conv => arg 3; whnf
  refine Ze rfl ?_ ?_
  ·conv => arg 3; whnf
   refine Zj rfl rfl fun x3 hx3 => ?_
   conv => arg 3; whnf
   refine Zg (Zx rfl hx3) ?_
   conv => arg 3; whnf
   refine Zj rfl rfl fun x4 hx4 => ?_
   conv => arg 3; whnf
   refine Zg (Zx rfl hx4) ?_
   conv => arg 3; whnf
   refine Zg (Zbj rfl hx4) ?_
   conv => arg 3; whnf
   refine Zg (Zx rfl hx4) ?_
   conv => arg 3; whnf
   refine Zu (Zat Zb s1.2.1 s1.1.toNat x3) ?_
   conv => arg 3; whnf
   refine Zj rfl rfl fun x5 hx5 => ?_
   conv => arg 3; whnf
   refine Zg (Zx rfl hx5) ?_
   conv => arg 3; whnf
   refine Zu (Zat Zb (List.set s1.2.1 s1.1.toNat x3) (w64 (b + (w64 ((w64 (IntKind.u64.wrap (BitVec.ofInt IntKind.u64.bits (IntKind.u64.wrap (BitVec.ofInt IntKind.u64.bits (IntKind.u64.wrap (BitVec.ofInt IntKind.u64.bits (IntKind.u64.wrap (BitVec.ofInt IntKind.u64.bits s1.2.2 ^^^ BitVec.ofInt IntKind.u64.bits (IntKind.u64.wrap (s1.2.2 * 2 ^ 13))).toNat) ^^^ BitVec.ofInt IntKind.u64.bits (Int.fdiv (IntKind.u64.wrap (BitVec.ofInt IntKind.u64.bits s1.2.2 ^^^ BitVec.ofInt IntKind.u64.bits (IntKind.u64.wrap (s1.2.2 * 2 ^ 13))).toNat) (2 ^ 7))).toNat) ^^^ BitVec.ofInt IntKind.u64.bits (IntKind.u64.wrap ((IntKind.u64.wrap (BitVec.ofInt IntKind.u64.bits (IntKind.u64.wrap (BitVec.ofInt IntKind.u64.bits s1.2.2 ^^^ BitVec.ofInt IntKind.u64.bits (IntKind.u64.wrap (s1.2.2 * 2 ^ 13))).toNat) ^^^ BitVec.ofInt IntKind.u64.bits (Int.fdiv (IntKind.u64.wrap (BitVec.ofInt IntKind.u64.bits s1.2.2 ^^^ BitVec.ofInt IntKind.u64.bits (IntKind.u64.wrap (s1.2.2 * 2 ^ 13))).toNat) (2 ^ 7))).toNat) * 2 ^ 17))).toNat) &&& BitVec.ofInt IntKind.u64.bits (IntKind.u64.wrap (x0 - 1))).toNat)) - (w64 (c - b)))))).toNat x4) ?_
   conv => arg 3; whnf
   exact Zd (ih _)
  ·conv => arg 3; whnf
   refine Zj rfl rfl fun x6 hx6 => ?_
   conv => arg 3; whnf
   refine Zg (Zx rfl hx6) ?_
   conv => arg 3; whnf
   refine Zj rfl rfl fun x7 hx7 => ?_
   conv => arg 3; whnf
   refine Zg (Zx rfl hx7) ?_
   conv => arg 3; whnf
   refine Zg (Zbj rfl hx7) ?_
   conv => arg 3; whnf
   refine Zg (Zx rfl hx7) ?_
   conv => arg 3; whnf
   refine Zu (Zat Zb s1.2.1 s1.1.toNat x6) ?_
   conv => arg 3; whnf
   refine Zj rfl rfl fun x8 hx8 => ?_
   conv => arg 3; whnf
   refine Zg (Zx rfl hx8) ?_
   conv => arg 3; whnf
   refine Zu (Zat Zb (List.set s1.2.1 s1.1.toNat x6) (w64 (b + (w64 (IntKind.u64.wrap (BitVec.ofInt IntKind.u64.bits (IntKind.u64.wrap (BitVec.ofInt IntKind.u64.bits (IntKind.u64.wrap (BitVec.ofInt IntKind.u64.bits (IntKind.u64.wrap (BitVec.ofInt IntKind.u64.bits s1.2.2 ^^^ BitVec.ofInt IntKind.u64.bits (IntKind.u64.wrap (s1.2.2 * 2 ^ 13))).toNat) ^^^ BitVec.ofInt IntKind.u64.bits (Int.fdiv (IntKind.u64.wrap (BitVec.ofInt IntKind.u64.bits s1.2.2 ^^^ BitVec.ofInt IntKind.u64.bits (IntKind.u64.wrap (s1.2.2 * 2 ^ 13))).toNat) (2 ^ 7))).toNat) ^^^ BitVec.ofInt IntKind.u64.bits (IntKind.u64.wrap ((IntKind.u64.wrap (BitVec.ofInt IntKind.u64.bits (IntKind.u64.wrap (BitVec.ofInt IntKind.u64.bits s1.2.2 ^^^ BitVec.ofInt IntKind.u64.bits (IntKind.u64.wrap (s1.2.2 * 2 ^ 13))).toNat) ^^^ BitVec.ofInt IntKind.u64.bits (Int.fdiv (IntKind.u64.wrap (BitVec.ofInt IntKind.u64.bits s1.2.2 ^^^ BitVec.ofInt IntKind.u64.bits (IntKind.u64.wrap (s1.2.2 * 2 ^ 13))).toNat) (2 ^ 7))).toNat) * 2 ^ 17))).toNat) &&& BitVec.ofInt IntKind.u64.bits (IntKind.u64.wrap (x0 - 1))).toNat)))).toNat x7) ?_
   conv => arg 3; whnf
   exact Zd (ih _)
 ·conv => arg 3; whnf
  exact Zf rfl
theorem Zbo {t0 : Bool} {t1 : Bool} {t2 : Bool} {t3 : Bool} {b : Int} {c : Int} {m0_0 : (List Int)} {m1_0 : Int} {m1_1 : Int} {m1_2 : (List ZK)} {m1_3 : (List ZI)} {m1_4 : (List Zq)} {m1_5 : (List Zm)} : ∀ r, (Z4 b c (fun z0 z1 => Zp z0 z1 m1_4) m0_0) = some r → evW ctx 128 [(.sl 0 1), (.d (Zb b)), (.d (Zb c)), (.fn 118 [(.ptr 1 0)])] [(.arr 1 (List.map Zb m0_0)), (.cells [(.d (Zb m1_0)), (.d (Zb m1_1)), (.d (D.list t0 (List.map ZV m1_2))), (.d (D.list t1 (List.map ZQ m1_3))), (.d (D.list t2 (List.map Zw m1_4))), (.d (D.list t3 (List.map Zr m1_5)))])] = some ((Zbs t0 t1 t2 t3 b c m0_0 m1_0 m1_1 m1_2 m1_3 m1_4 m1_5) r) := by
 show ZR _ (fun r rhs => rhs = some ((Zbs t0 t1 t2 t3 b c m0_0 m1_0 m1_1 m1_2 m1_3 m1_4 m1_5) r)) _
 unfold Z4
 rw [Ze7 ctx 128 Zst _ _ rfl rfl]
 conv => arg 3; whnf
 refine Ze rfl ?_ ?_
 ·conv => arg 3; whnf
  refine Zl _ Zgi rfl fun x0 hx0 => ?_
  conv => arg 3; whnf
  refine Zad rfl ?_
  conv => arg 3; whnf
  refine Zc _ (ZcE _) fun r9 hr9 => ?_
  conv => arg 3; whnf
  exact Zf rfl
 ·conv => arg 3; whnf
  exact Zf rfl
end Go.Proofs.YtnmbdjkbaihicaaDoor
