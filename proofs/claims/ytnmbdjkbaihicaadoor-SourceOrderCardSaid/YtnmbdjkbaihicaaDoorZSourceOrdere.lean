/- SourceOrder: part 5 of 5 of the proof: the row and the card of the law, out of what the evaluator says of it; without conditions. -/
import Derived.Test.YtnmbdjkbaihicaaDoorZSourceOrderd
import Derived.KernelRfl
import Derived.Test.YtnmbdjkbaihicaaDoorRows
import Derived.Test.YtnmbdjkbaihicaaDoorCards
import Derived.Test.YtnmbdjkbaihicaaDoorTie
import Derived.WalkKit
import Derived.ProofKit
import Derived.OpenShut
import Derived.ShutString
import Derived.ChangeOld
import Derived.Below
import Derived.SizedLaws
import Derived.Handed
import Derived.LaidMore
import Derived.Stop.Joined
import Derived.ChangeShapes
import Derived.Carry
import Derived.SevenTiedAt
set_option maxRecDepth 100000
set_option maxHeartbeats 40000000
namespace Go.Proofs.YtnmbdjkbaihicaaDoor
open Go Go.Proofs.YtnmbdjkbaihicaaDoorE
set_option linter.unusedVariables false
set_option linter.unusedSimpArgs false
inductive Runs (d : Zi) (input : List Int) : Zj → Prop where
 | new : Runs d input (ZlK d)
 | step {s : Zj} {p : Int} : Runs d input s → inR d p → Zpm d s p → Runs d input (ZdM d input s p)
theorem Runs.right {d : Zi} {input : List Int} (g : Zct d) {s : Zj} (h : Runs d input s) : Zhe d s := by
 induction h with
 | new => exact ZkW g
 | step _ hp hg ih => exact ZjK g ih input hp hg
def Zju (d : Zi) (s : Zj) : Prop := ∀ p, inR d p → ¬ Zpm d s p
theorem ZoN {d : Zi} {s : Zj} (g : Zct d) : ZeO d s = [] ↔ Zju d s := by
 constructor
 ·intro h p hp hg
  have : p ∈ ZeO d s := Znf.2 ⟨p.toNat, hp.2, by rw [Int.toNat_of_nonneg hp.1]; exact (Zkh g).2 hg, (Int.toNat_of_nonneg hp.1).symm⟩
  rw [h] at this; cases this
 ·intro h
  refine List.eq_nil_iff_forall_not_mem.2 fun p hp => ?_
  obtain ⟨i, h1, h2, rfl⟩ := Znf.1 hp
  exact h _ (Ze5 h1) ((Zkh g).1 h2)
theorem ZqD {d : Zi} {s : Zj} (g : Zct d) {p : Int} (h : p ∈ ZeO d s) : inR d p ∧ Zpm d s p := by
 obtain ⟨i, h1, h2, rfl⟩ := Znf.1 h
 exact ⟨Ze5 h1, (Zkh g).1 h2⟩
theorem ZhR {d : Zi} {s : Zj} (g : Zct d) (r : Zhe d s) {p : Int} (hp : inR d p) (ht : Zci d p (Zfa d p)) (hd : Zd3 d s p) {q : Int} (hq : q ∈ ZeE d p) : inR d q ∧ q ≠ p ∧ Zd3 d s q := by
 obtain ⟨x, _, h2, h3⟩ := ZfS hp
 have hw := (g.g.w x (List.mem_of_getElem? h2)).1
 unfold Zd3 at hd
 rcases Zlp g ht hq with ⟨e, h1, h4, rfl⟩ | ⟨f, h1, h4, rfl⟩
 ·have := (ZjT (g.g.e e h1)).2.2
  exact ⟨g.src h1, by rw [← h4]; exact this, (r.beg p hp (by omega)).1 e h1 h4⟩
 ·have := (ZjT (g.g.f f h1).1).2.2
  have hpos := (g.g.f f h1).2.2
  exact ⟨g.maker h1, by rw [← h4]; exact this, r.fut f h1 (by rw [h4] at hpos ⊢; omega)⟩
theorem ZkO {d : Zi} {s : Zj} (input : List Int) {p q : Int} (hp : inR d p) (hq : inR d q) (h : q ≠ p) (hd : Zd3 d (ZdM d input s p) q) : Zd3 d s q := by
 unfold Zd3 at hd ⊢
 rwa [ZdI input hp hq h] at hd
theorem ZfI {d : Zi} {s : Zj} (input : List Int) {p q : Int} (hp : inR d p) (hq : inR d q) (h : q ≠ p) : vl (ZdM d input s p) q = vl s q := by
 have : p.toNat ≠ q.toNat := by have := hp.1; have := hq.1; omega
 conv => lhs; unfold vl ZdM
 dsimp only
 cases Zb0 d (more s p) p with
 | false => rfl
 | true => simp only [cond_true]; rw [List.getElem?_set_ne this]; rfl
theorem ZkJ {d : Zi} {s : Zj} (o : OKS d s) (input : List Int) {p : Int} (hp : inR d p) (h : Zd3 d (ZdM d input s p) p) : vl (ZdM d input s p) p = Zl9 d input s p := by
 have hb : Zb0 d (more s p) p = true := Zex.2 h
 have hl : p.toNat < s.vals.length := by rw [o.v]; exact hp.2
 conv => lhs; unfold vl ZdM
 dsimp only
 rw [hb]
 simp only [cond_true]
 rw [List.getElem?_set_self hl]
theorem Zmc {d : Zi} (input : List Int) {s t : Zj} {p : Int} (h : ∀ q ∈ ZeE d p, vl s q = vl t q) : Zl9 d input s p = Zl9 d input t p := by
 unfold Zl9
 rw [List.map_congr_left h]
theorem Runs.vals {d : Zi} {input : List Int} (hc : Zbz d = 0) (sh : Zem d) {s : Zj} (h : Runs d input s) : ∀ p, inR d p → Zd3 d s p → vl s p = Zl9 d input s p := by
 have g := Zef hc
 induction h with
 | new =>
  intro p hp hd
  obtain ⟨x, _, h2, h3⟩ := ZfS hp
  have hw := (g.g.w x (List.mem_of_getElem? h2)).1
  unfold Zd3 at hd
  rw [ZkV] at hd
  omega
 | @step s r hr hrp hg ih =>
  intro p hp hd
  have R := hr.right g
  have R' := ZjK g R input hrp hg
  have ht := (ZkP d sh hc p).2
  have fd : ∀ q ∈ ZeE d p, inR d q ∧ q ≠ p ∧ Zd3 d (ZdM d input s r) q := fun q hq => ZhR g R' hp ht hd hq
  by_cases e : p = r
  ·subst e
   rw [ZkJ R.o input hp hd]
   exact Zmc input fun q hq => (ZfI input hp (fd q hq).1 (fd q hq).2.1).symm
  ·have hd0 := ZkO input hrp hp e hd
   rw [ZfI input hrp hp e, ih p hp hd0]
   refine Zmc input fun q hq => ?_
   have hq0 := (ZhR g R hp ht hd0 hq)
   have : q ≠ r := fun e => by subst e; exact hg.1 hq0.2.2
   exact (ZfI input hrp hq0.1 this).symm
theorem Runs.same {d : Zi} {input : List Int} (hc : Zbz d = 0) (sh : Zem d) {s : Zj} (h : Runs d input s) {t : Zj} (k : Runs d input t) : ∀ p, inR d p → Zd3 d s p → Zd3 d t p → vl s p = vl t p := by
 have g := Zef hc
 have T := k.right g
 induction h with
 | new =>
  intro p hp hd
  obtain ⟨x, _, h2, h3⟩ := ZfS hp
  have hw := (g.g.w x (List.mem_of_getElem? h2)).1
  unfold Zd3 at hd
  rw [ZkV] at hd
  omega
 | @step s r hr hrp hg ih =>
  intro p hp hd hdt
  have R := hr.right g
  have R' := ZjK g R input hrp hg
  have ht := (ZkP d sh hc p).2
  by_cases e : p = r
  ·subst e
   rw [ZkJ R.o input hp hd, k.vals hc sh p hp hdt]
   refine Zmc input fun q hq => ?_
   obtain ⟨q1, q2, q3⟩ := ZhR g R' hp ht hd hq
   exact ih q q1 (ZkO input hp q1 q2 q3) (ZhR g T hp ht hdt hq).2.2
  ·rw [ZfI input hrp hp e]
   exact ih p hp (ZkO input hrp hp e hd) hdt
theorem Runs.le {d : Zi} {input : List Int} (g : Zct d) {s : Zj} (h : Runs d input s) {t : Zj} (k : Runs d input t) (f : Zju d t) : ∀ p, inR d p → wk s p ≤ wk t p := by
 have T := k.right g
 induction h with
 | new => intro p hp; rw [ZkV]; exact (T.rng p hp).1
 | @step s r hr hrp hg ih =>
  intro p hp
  have R := hr.right g
  by_cases e : p = r
  ·subst e
   rw [Zgk R.o input hp]
   have h1 := ih p hp
   rcases Int.lt_or_eq_of_le h1 with h2 | h2
   ·omega
   ·exfalso
    have dn : ∀ q, inR d q → Zd3 d s q → Zd3 d t q := fun q hq hd => by
     have h3 := ih q hq
     have h4 := (T.rng q hq).2
     unfold Zd3 at hd ⊢
     omega
    refine f p hp ⟨fun hd => hg.1 ?_, fun h0 => ?_, fun fu hf hu hpos => ?_⟩
    ·unfold Zd3 at hd ⊢; omega
    ·have hB := hg.2.1 (by omega)
     exact ⟨fun ed he hd => dn _ (g.src he) (hB.1 ed he hd), fun b hb ho q hq => dn _ (g.ins b hb q hq) (hB.2 b hb ho q hq)⟩
    ·exact dn _ (g.maker hf) (hg.2.2 fu hf hu (by omega))
  ·rw [ZdI input hrp hp e]
   exact ih p hp
theorem Runs.end_done {d : Zi} {input : List Int} (g : Zct d) {s t : Zj} (h : Runs d input s) (f : Zju d s) (k : Runs d input t) (f' : Zju d t) {p : Int} (hp : inR d p) : Zd3 d s p ↔ Zd3 d t p := by
 have h1 := h.le g k f' p hp
 have h2 := k.le g h f p hp
 unfold Zd3
 rw [show wk s p = wk t p by omega]
def Zmz (f : Nat → Nat) : Nat → Nat
 | 0 => 0
 | n + 1 => Zmz f n + f n
theorem Zl4 {f h : Nat → Nat} : ∀ n, (∀ i, i < n → f i = h i) → Zmz f n = Zmz h n
 | 0, _ => rfl
 | n + 1, e => by unfold Zmz; rw [Zl4 n fun i hi => e i (by omega), e n (by omega)]
theorem ZpN {f h : Nat → Nat} {j : Nat} : ∀ n, j < n → (∀ i, i < n → i ≠ j → f i = h i) → h j = f j + 1 → Zmz h n = Zmz f n + 1
 | 0, hj, _, _ => by omega
 | n + 1, hj, e, hd => by
  unfold Zmz
  by_cases hn : j = n
  ·subst hn
   rw [Zl4 (f := h) (h := f) j fun i hi => (e i (by omega) (by omega)).symm, hd]; omega
  ·rw [ZpN n (by omega) (fun i hi hne => e i (by omega) hne) hd, e n (by omega) (fun h => hn h.symm)]; omega
theorem Zre {f : Nat → Nat} {m : Nat} : ∀ n, (∀ i, i < n → f i ≤ m) → Zmz f n ≤ n * m
 | 0, _ => by simp [Zmz]
 | n + 1, e => by
  unfold Zmz
  have := Zre n fun i hi => e i (by omega)
  have := e n (by omega)
  rw [Nat.succ_mul]; omega
def left (d : Zi) (s : Zj) : Nat := Zmz (fun i => (ZdK d.parts (i : Int) - wk s (i : Int)).toNat) d.parts.length
theorem Zi9 {d : Zi} {s : Zj} (r : Zhe d s) (input : List Int) {p : Int} (hp : inR d p) (hg : Zpm d s p) : left d s = left d (ZdM d input s p) + 1 := by
 have hw := r.rng p hp
 have hlt : wk s p < ZdK d.parts p := by have := hg.1; unfold Zd3 at this; omega
 unfold left
 refine ZpN (j := p.toNat) d.parts.length hp.2 (fun i hi hne => ?_) ?_
 ·rw [ZdI input hp (Ze5 hi) (by omega)]
 ·rw [Int.toNat_of_nonneg hp.1, Zgk r.o input hp]; omega
theorem Zv0 {d : Zi} (g : Zct d) {s : Zj} (r : Zhe d s) : left d s ≤ 1600 := by
 have := Zre (f := fun i => (ZdK d.parts (i : Int) - wk s (i : Int)).toNat) (m := 100) d.parts.length fun i hi => by
  have h1 := Zoi g (i : Int)
  have h2 := r.rng i (Ze5 hi)
  omega
 have := g.pl
 unfold left
 omega
def Zf8 (d : Zi) (s : Zj) : Bool := !(Ze2 (fun i (_ : ZH) => !Zb0 d s (i : Int)) 0 d.parts)
theorem Zi5 {d : Zi} {s : Zj} : Zf8 d s = true ↔ ∀ p, inR d p → Zd3 d s p := by
 unfold Zf8
 rw [Bool.not_eq_true', ZmM]
 constructor
 ·intro h p hp
  have := h p.toNat _ (List.getElem?_eq_getElem hp.2)
  rw [Int.toNat_of_nonneg hp.1] at this
  exact Zex.1 (by simpa using this)
 ·intro h i x hx
  have := h i (Ze5 (List.getElem?_eq_some_iff.1 hx).1)
  rw [Zex.2 this]; rfl
theorem Zs1 {d : Zi} {input : List Int} (g : Zct d) {s t : Zj} (h : Runs d input s) (f : Zju d s) (k : Runs d input t) (f' : Zju d t) : Zf8 d s = Zf8 d t := by
 rw [Bool.eq_iff_iff, Zi5, Zi5]
 exact ⟨fun a p hp => (h.end_done g f k f' hp).1 (a p hp), fun a p hp => (h.end_done g f k f' hp).2 (a p hp)⟩
theorem ZuG {d : Zi} {input : List Int} (hc : Zbz d = 0) (sh : Zem d) {s t : Zj} (h : Runs d input s) (k : Runs d input t) (a : Zf8 d s = true) (b : Zf8 d t = true) : s.vals = t.vals := by
 have g := Zef hc
 have o1 := (h.right g).o; have o2 := (k.right g).o
 apply List.ext_getElem?
 intro i
 by_cases hi : i < d.parts.length
 ·have := h.same hc sh k (i : Int) (Ze5 hi) (Zi5.1 a _ (Ze5 hi)) (Zi5.1 b _ (Ze5 hi))
  have l1 : i < s.vals.length := by rw [o1.v]; exact hi
  have l2 : i < t.vals.length := by rw [o2.v]; exact hi
  unfold vl at this
  rw [Int.toNat_natCast, List.getElem?_eq_getElem l1, List.getElem?_eq_getElem l2] at this
  rw [List.getElem?_eq_getElem l1, List.getElem?_eq_getElem l2]
  exact congrArg some this
 ·rw [List.getElem?_eq_none (by rw [o1.v]; omega), List.getElem?_eq_none (by rw [o2.v]; omega)]
theorem Zqv {d : Zi} {s : Zj} (g : Zct d) (o : OKS d s) : lp (ZcP d (s.work, s.vals)) 0 = some (bif Zf8 d s then .inr () else .inl ()) := by
 have hl : d.parts.length < 9223372036854775808 := by have := g.pl; omega
 have := ZeF d.parts (ZcP d (s.work, s.vals)) (fun i _ => !Zb0 d s (i : Int)) (fun _ _ => .inl ()) (.inr ()) (fun i x hi hx => by
  have hd : ZaD d (Zj.mk s.work s.vals) (i : Int) = some (Zb0 d s (i : Int)) := ZiB o (Ze5 hi)
  simp only [ZcP, Ze8 hi, Option.bind_some, Zac hi hl, cond_true, hd]
  cases Zb0 d s (i : Int) <;> rfl) (by simp only [ZcP, Zfd]; rfl)
 rw [this, ZcU]
 unfold Zf8
 cases Ze2 (fun i (_ : ZH) => !Zb0 d s (i : Int)) 0 d.parts <;> rfl
theorem ZwQ {d : Zi} (hc : Zbz d = 0) (sh : Zem d) (input : List Int) (hi : input.length ≤ 1000) : ∃ t, Runs d input t ∧ Zju d t ∧ Zd8 d input = some (bif Zf8 d t then (t.vals, 0) else ([], 94)) := by
 have g := Zef hc
 have key : ∀ (n : Nat) (s : Zj), left d s ≤ n → Runs d input s → ∃ t, Runs d input t ∧ Zju d t ∧ lp (Zea d input) (ZeO d s, s.work, s.vals) = some (t.work, t.vals) := by
  intro n
  induction n with
  | zero =>
   intro s hn hr
   have R := hr.right g
   have hm : ZeO d s = [] := by
    cases h : ZeO d s with
    | nil => rfl
    | cons p l =>
     obtain ⟨h1, h2⟩ := ZqD g (show p ∈ ZeO d s by rw [h]; simp)
     have := Zi9 R input h1 h2
     omega
   refine ⟨s, hr, (ZoN g).1 hm, ?_⟩
   rw [hm, Zbv]
   rfl
  | succ n ih =>
   intro s hn hr
   have R := hr.right g
   cases h : ZeO d s with
   | nil =>
    refine ⟨s, hr, (ZoN g).1 h, ?_⟩
    rw [Zbv]
    rfl
   | cons p l =>
    obtain ⟨h1, h2⟩ := ZqD g (show p ∈ ZeO d s by rw [h]; simp)
    have hw := R.rng p h1
    have hle := Zoi g p
    have hl := Zi9 R input h1 h2
    have hr' := Runs.step (input := input) hr h1 h2
    obtain ⟨t, t1, t2, t3⟩ := ih (ZdM d input s p) (by omega) hr'
    refine ⟨t, t1, t2, ?_⟩
    have es : Zc5 d input (Zj.mk s.work s.vals) p = some (ZdM d input s p) := ZsC hc sh.i R.o h1 input hi (by omega)
    have em := Zs3 g sh.i (hr'.right g).o
    rw [Zbv]
    have e0 : ZB (p :: l) 0 = some p := rfl
    simp only [Zea, decide_eq_true (show (0 : Int) < (((p :: l).length : Nat) : Int) by rw [List.length_cons]; omega), cond_true, e0, Option.bind_some, es, em]
    exact t3
 obtain ⟨t, t1, t2, t3⟩ := key (left d (ZlK d)) (ZlK d) (Nat.le_refl _) .new
 refine ⟨t, t1, t2, ?_⟩
 unfold Zd8
 rw [Ztu d sh, hc]
 simp only [beq_self_eq_true, cond_true, Option.bind_some, bne_self_eq_false, cond_false]
 rw [Zs3 g sh.i (ZkW g).o]
 simp only [Option.bind_some]
 rw [t3]
 simp only [Option.bind_some]
 rw [Zqv g (t1.right g).o]
 cases Zf8 d t <;> rfl
theorem Zur {d : Zi} (hc : Zbz d ≠ 0) (sh : Zem d) (input : List Int) : Zd8 d input = some ([], Zbz d) := by
 unfold Zd8
 rw [Ztu d sh, show (Zbz d == 0) = false by simpa using hc]
 simp only [cond_false, Option.bind_some]
 rw [show (Zbz d != 0) = true by simpa using hc]
 rfl
end Go.Proofs.YtnmbdjkbaihicaaDoor
namespace Go.Proofs.YtnmbdjkbaihicaaDoor
open Go Go.Proofs.YtnmbdjkbaihicaaDoorE
set_option linter.unusedVariables false
set_option linter.unusedSimpArgs false
theorem Zsq (a b : List Int) (hl : a.length < 9223372036854775808) : Zfj a b = some (decide (a = b)) := by
  unfold Zfj
  by_cases he : a.length = b.length
  · have key := Zu6 a b he (Zdv a b) (fun i x y hi hx hy => by
        simp only [Zdv, Ze8 hi, Za2 hx, Za2 hy, Option.bind_some, Zac hi hl, cond_true]
        have e : (x != y) = !decide (x = y) := by rw [Bool.eq_iff_iff]; simp
        rw [e]
        cases decide (x = y) <;> rfl) (by simp only [Zdv, Zfd]; rfl)
    rw [key, show ((a.length : Int) != (b.length : Int)) = false by rw [he]; simp]
    cases decide (a = b) <;> rfl
  · rw [show ((a.length : Int) != (b.length : Int)) = true by simp; omega, decide_eq_false (fun h => he (by rw [h]))]
    rfl
end Go.Proofs.YtnmbdjkbaihicaaDoor
namespace Go.Proofs.YtnmbdjkbaihicaaDoor
open Go Go.Proofs.YtnmbdjkbaihicaaDoorE
set_option linter.unusedVariables false
set_option linter.unusedSimpArgs false
theorem ZeG : ∀ r, Zei = some r → evD ctx 22 [] = some (D.bool r) := fun r h => by
  cases h
  exact ZvR 100 (by kernel_rfl)
def Zjq (r : Bool) : D := (D.bool r)
def Zhx (t0 : Bool) (t1 : Bool) (t2 : Bool) (t3 : Bool) (a : Zi) : (Unit ⊕ Unit) → Ex × List V × Zm
  | (.inl r) => (.ret, [(.ptr 0 0), (.d (D.bool false))], [(.cells (dV t0 t1 t2 t3 a))])
  | (.inr r) => (.exit 0, [(.ptr 0 0), .bad], [(.cells (dV t0 t1 t2 t3 a))])
theorem Zj9 {t0 : Bool} {t1 : Bool} {t2 : Bool} {t3 : Bool} {a : Zi} : ∀ (s0 : Int) (r : (Unit ⊕ Unit)), lp (ZdX a) s0 = some r → lpW ctx 0 [1, 3] [1, 2] Zub [(.ptr 0 0), (.d (Zb s0))] [(.cells (dV t0 t1 t2 t3 a))] = some ((Zhx t0 t1 t2 t3 a) r) := by
 refine ZaY (Zhx t0 t1 t2 t3 a) ?_
 intro s0 rcl ih
 show ZP _ _ (lpW _ _ _ _ _ _ _)
 unfold ZdX
 rw [ZaW]
 conv => arg 3; whnf
 refine Zo (ZI _ _) ?_
 conv => arg 3; whnf
 refine Ze rfl ?_ ?_
 ·conv => arg 3; whnf
  refine Ze rfl ?_ ?_
  ·conv => arg 3; whnf
   refine Zl rfl rfl fun x1 hx1 => ?_
   conv => arg 3; whnf
   refine Zo (ZI _ _) ?_
   conv => arg 3; whnf
   refine Ze rfl ?_ ?_
   ·conv => arg 3; whnf
    exact Zf rfl
   ·conv => arg 3; whnf
    refine Zg (Zbc rfl hx1) ?_
    conv => arg 3; whnf
    refine Zo (ZI _ _) ?_
    conv => arg 3; whnf
    refine Ze rfl ?_ ?_
    ·conv => arg 3; whnf
     exact Zf rfl
    ·conv => arg 3; whnf
     exact Zd (ih _)
  ·conv => arg 3; whnf
   exact Zf rfl
 ·conv => arg 3; whnf
  exact Zf rfl
theorem Zmk {t0 : Bool} {t1 : Bool} {t2 : Bool} {t3 : Bool} {a : Zi} : ∀ r, (ZfP a) = some r → evD ctx 40 [(.d (D.agg (dA t0 t1 t2 t3 a)))] = some (Zjq r) := by
 show ZP _ (fun r rhs => rhs = some (Zjq r)) _
 unfold ZfP
 rw [Za1 ctx 40 ZvU _ rfl rfl]
 conv => arg 3; whnf
 refine Zc _ (Zj9 _) fun r2 hr2 => ?_
 clear hr2
 rcases r2 with r2 | r2
 ·conv => arg 3; whnf
  exact Zf rfl
 ·conv => arg 3; whnf
  refine Zo (ZI _ _) ?_
  conv => arg 3; whnf
  refine Ze rfl ?_ ?_
  ·conv => arg 3; whnf
   refine Zo (ZI _ _) ?_
   conv => arg 3; whnf
   refine Ze rfl ?_ ?_
   ·conv => arg 3; whnf
    refine Zo (ZI _ _) ?_
    conv => arg 3; whnf
    refine Ze rfl ?_ ?_
    ·conv => arg 3; whnf
     refine Zo (ZI _ _) ?_
     conv => arg 3; whnf
     refine Ze rfl ?_ ?_
     ·conv => arg 3; whnf
      exact Zf rfl
     ·conv => arg 3; whnf
      exact Zf rfl
    ·conv => arg 3; whnf
     exact Zf rfl
   ·conv => arg 3; whnf
    exact Zf rfl
  ·conv => arg 3; whnf
   exact Zf rfl
def Zjy (r : Bool) : D := (D.bool r)
theorem Zma {t0 : Bool} {t1 : Bool} {t2 : Bool} {t3 : Bool} {t4 : Bool} {t5 : Bool} {t6 : Bool} {a : Zi} {b : (List Int)} {c : Zj} : ∀ r, (ZfZ a b c) = some r → evD ctx 23 [(.d (D.agg (dA t0 t1 t2 t3 a))), (.d (D.list t4 (List.map Zb b))), (.d (D.agg [(D.list t5 (List.map Zb c.work)), (D.list t6 (List.map Zb c.vals))]))] = some (Zjy r) := by
 show ZP _ (fun r rhs => rhs = some (Zjy r)) _
 unfold ZfZ
 rw [Za1 ctx 23 ZwM _ rfl rfl]
 conv => arg 3; whnf
 refine Zk _ Zmk rfl fun x0 hx0 => ?_
 conv => arg 3; whnf
 refine Ze rfl ?_ ?_
 ·conv => arg 3; whnf
  refine Zo (ZI _ _) ?_
  conv => arg 3; whnf
  refine Ze rfl ?_ ?_
  ·conv => arg 3; whnf
   refine Zo (ZI _ _) ?_
   conv => arg 3; whnf
   refine Ze rfl ?_ ?_
   ·conv => arg 3; whnf
    refine Zo (ZI _ _) ?_
    conv => arg 3; whnf
    refine Ze rfl ?_ ?_
    ·conv => arg 3; whnf
     exact Zf rfl
    ·conv => arg 3; whnf
     exact Zf rfl
   ·conv => arg 3; whnf
    exact Zf rfl
  ·conv => arg 3; whnf
   exact Zf rfl
 ·conv => arg 3; whnf
  exact Zf rfl
def Zjw (t0 : Bool) (t1 : Bool) (t2 : Bool) (t3 : Bool) (a : Zi) : (List Zn) → V × Zm
  | r => ((.agg [(.d (Zb a.period)), (.d (Zb a.deadline)), (.sl 0 3), (.sl 1 2), (.sl 2 3), (.sl 3 2)]), [(.arr 3 (List.map ZV a.parts)), (.arr 2 (List.map ZS a.edges)), (.arr 3 (List.map Zu a.futures)), (.arr 2 (List.map Zs r))])
def ZhP (t0 : Bool) (t1 : Bool) (t2 : Bool) (t3 : Bool) (a : Zi) : (List Zn) → Ex × List V × Zm
  | r => (.exit 0, [(.ptr 0 0), (.ptr 1 0)], [(.cells [(.d (Zb 0)), (.d (Zb 0)), (.sl 2 3), (.sl 3 2), (.sl 4 3), (.sl 5 2)]), (.cells [(.d (Zb a.period)), (.d (Zb a.deadline)), (.sl 6 3), (.sl 7 2), (.sl 8 3), (.sl 9 2)]), (.arr 3 []), (.arr 2 []), (.arr 3 []), (.arr 2 []), (.arr 3 (List.map ZV a.parts)), (.arr 2 (List.map ZS a.edges)), (.arr 3 (List.map Zu a.futures)), (.arr 2 (List.map Zs r))])
theorem ZkC {t0 : Bool} {t1 : Bool} {t2 : Bool} {t3 : Bool} {a : Zi} : ∀ (s0 : Int × (List Zn)) (r : (List Zn)), lp (Zdf a) s0 = some r → lpW ctx 0 [1, 2, 3, 4] [2, 3] ZsG [(.ptr 0 0), (.ptr 1 0), (.ptr 2 0), (.d (Zb s0.1))] [(.cells (dV t0 t1 t2 t3 a)), (.cells [(.d (Zb 0)), (.d (Zb 0)), (.sl 3 3), (.sl 4 2), (.sl 5 3), (.sl 6 2)]), (.cells [(.d (Zb a.period)), (.d (Zb a.deadline)), (.sl 7 3), (.sl 8 2), (.sl 9 3), (.sl 10 2)]), (.arr 3 []), (.arr 2 []), (.arr 3 []), (.arr 2 []), (.arr 3 (List.map ZV a.parts)), (.arr 2 (List.map ZS a.edges)), (.arr 3 (List.map Zu a.futures)), (.arr 2 (List.map Zs s0.2))] = some ((ZhP t0 t1 t2 t3 a) r) := by
 refine ZaY (ZhP t0 t1 t2 t3 a) ?_
 intro s0 rcl ih
 show ZP _ _ (lpW _ _ _ _ _ _ _)
 unfold Zdf
 rw [ZaW]
 conv => arg 3; whnf
 refine Zo (ZI _ _) ?_
 conv => arg 3; whnf
 refine Ze rfl ?_ ?_
 ·conv => arg 3; whnf
  refine Zl rfl rfl fun x1 hx1 => ?_
  conv => arg 3; whnf
  refine ZbZ (Zec (f := Zb) (fun _ => ⟨rfl, rfl⟩) x1.ins 0) ?_
  conv => arg 3; whnf
  refine Ze (Zeb Zb x1.ins) ?_ ?_
  ·conv => arg 3; whnf
   refine Zo (rfl : _ = List.map Zb x1.ins) ?_
   conv => arg 3; whnf
   refine Zg (Zbc rfl hx1) ?_
   conv => arg 3; whnf
   refine ZbZ (Zec (f := Zb) (fun _ => ⟨rfl, rfl⟩) x1.outs 0) ?_
   conv => arg 3; whnf
   refine Ze (Zeb Zb x1.outs) ?_ ?_
   ·conv => arg 3; whnf
    refine Zo (rfl : _ = List.map Zb x1.outs) ?_
    conv => arg 3; whnf
    refine ZbZ rfl ?_
    conv => arg 3; whnf
    refine Ze (Zje Zs s0.2 1) ?_ ?_
    ·conv => arg 3; whnf
     refine Zo (Zi4 Zs s0.2 [x1]) ?_
     conv => arg 3; whnf
     exact Zd (ih _)
    ·exact Z9
   ·exact Z9
  ·exact Z9
 ·conv => arg 3; whnf
  exact Zf rfl
theorem ZdR {t0 : Bool} {t1 : Bool} {t2 : Bool} {t3 : Bool} {a : Zi} : ∀ r, (Zc7 a) = some r → evW ctx 15 [(.d (D.agg (dA t0 t1 t2 t3 a)))] [] = some ((Zjw t0 t1 t2 t3 a) r) := by
 show ZP _ (fun r rhs => rhs = some ((Zjw t0 t1 t2 t3 a) r)) _
 unfold Zc7
 rw [Zfm ctx 15 ZvL _ _ rfl rfl]
 conv => arg 3; whnf
 refine ZbZ (Zec (f := ZV) (fun _ => ⟨rfl, rfl⟩) a.parts 0) ?_
 conv => arg 3; whnf
 refine Ze (Zeb ZV a.parts) ?_ ?_
 ·conv => arg 3; whnf
  refine Zo (rfl : _ = List.map ZV a.parts) ?_
  conv => arg 3; whnf
  refine ZbZ (Zec (f := ZS) (fun _ => ⟨rfl, rfl⟩) a.edges 0) ?_
  conv => arg 3; whnf
  refine Ze (Zeb ZS a.edges) ?_ ?_
  ·conv => arg 3; whnf
   refine Zo (rfl : _ = List.map ZS a.edges) ?_
   conv => arg 3; whnf
   refine ZbZ (Zec (f := Zu) (fun _ => ⟨rfl, rfl⟩) a.futures 0) ?_
   conv => arg 3; whnf
   refine Ze (Zeb Zu a.futures) ?_ ?_
   ·conv => arg 3; whnf
    refine Zo (rfl : _ = List.map Zu a.futures) ?_
    conv => arg 3; whnf
    refine Zc _ (ZkC _) fun r2 hr2 => ?_
    conv => arg 3; whnf
    exact Zf rfl
   ·exact Z9
  ·exact Z9
 ·exact Z9
def Zik (r : Bool) : D := (D.bool r)
theorem ZbI {a : Int} {b : Int} {c : Int} : ∀ r, (Zbh a b c) = some r → evD ctx 82 [(.d (Zb a)), (.d (Zb b)), (.d (Zb c))] = some (Zik r) := by
 show ZP _ (fun r rhs => rhs = some (Zik r)) _
 unfold Zbh
 rw [Za1 ctx 82 ZvT _ rfl rfl]
 conv => arg 3; whnf
 refine Ze rfl ?_ ?_
 ·conv => arg 3; whnf
  refine Ze rfl ?_ ?_
  ·conv => arg 3; whnf
   exact Zf rfl
  ·conv => arg 3; whnf
   exact Zf rfl
 ·conv => arg 3; whnf
  exact Zf rfl
def ZjF (r : Int) : D := (Zb r)
theorem Zme {a : Int} : ∀ r, (ZfQ a) = some r → evD ctx 109 [(.d (Zb a))] = some (ZjF r) := by
 show ZP _ (fun r rhs => rhs = some (ZjF r)) _
 unfold ZfQ
 rw [Za1 ctx 109 Zte _ rfl rfl]
 conv => arg 3; whnf
 refine Ze rfl ?_ ?_
 ·conv => arg 3; whnf
  exact Zf rfl
 ·conv => arg 3; whnf
  refine Ze rfl ?_ ?_
  ·conv => arg 3; whnf
   exact Zf rfl
  ·conv => arg 3; whnf
   exact Zf rfl
def ZeM (r : Int) : D := (Zb r)
theorem Zgx {a : Int} : ∀ r, (Zb9 a) = some r → evD ctx 121 [(.d (D.int .u64 a))] = some (ZeM r) := by
 show ZP _ (fun r rhs => rhs = some (ZeM r)) _
 unfold Zb9
 rw [Za1 ctx 121 ZtR _ rfl rfl]
 conv => arg 3; whnf
 refine Zae rfl ?_
 conv => arg 3; whnf
 refine Zae rfl ?_
 conv => arg 3; whnf
 refine Zae rfl ?_
 conv => arg 3; whnf
 refine Zae rfl ?_
 conv => arg 3; whnf
 refine Zae rfl ?_
 conv => arg 3; whnf
 refine Zae rfl ?_
 conv => arg 3; whnf
 exact Zf rfl
def Zfb (r : Int) : D := (Zb r)
theorem Zhd {a : Int} : ∀ r, (Zck a) = some r → evD ctx 110 [(.d (D.int .u64 a))] = some (Zfb r) := by
 show ZP _ (fun r rhs => rhs = some (Zfb r)) _
 unfold Zck
 rw [Za1 ctx 110 Zsl _ rfl rfl]
 conv => arg 3; whnf
 refine Zk _ Zgx rfl fun x0 hx0 => ?_
 conv => arg 3; whnf
 exact Zf rfl
theorem ZwZ (n : Int) : 0 ≤ IntKind.u64.wrap n ∧ IntKind.u64.wrap n < 18446744073709551616 := by
  have : IntKind.u64.wrap n = n % 18446744073709551616 := by
    show (if (false && decide (n % 18446744073709551616 ≥ 9223372036854775808)) = true then n % 18446744073709551616 - 18446744073709551616 else n % 18446744073709551616) = _
    simp
  rw [this]
  omega
theorem Zw0 (n : Int) : ∃ j : Nat, j < 64 ∧ (IntKind.u64.wrap n).fdiv (2 ^ (min (Int.toNat 58) IntKind.u64.bits)) = (j : Int) := by
  obtain ⟨h1, h2⟩ := ZwZ n
  have e : (2 : Int) ^ (min (Int.toNat 58) IntKind.u64.bits) = 288230376151711744 := by decide
  rw [e, Int.fdiv_eq_ediv_of_nonneg _ (by omega)]
  refine ⟨((IntKind.u64.wrap n) / 288230376151711744).toNat, ?_, ?_⟩ <;> omega
theorem Zx9 : ∀ j : Nat, j < 64 → ZcY [] 1 false (.d (.rptr (ZtB.drop (j * 1)))) = some (.d (.int .u8 (ZoR.getD j 0))) := by
  have key : ((List.range 64).all fun j => match ZcY [] 1 false (.d (.rptr (ZtB.drop (j * 1)))) with | some (.d (.int .u8 z)) => z == ZoR.getD j 0 | _ => false) = true := by rfl
  intro j hj
  have := List.all_eq_true.1 key j (by simpa using hj)
  split at this
  · rename_i z hz
    rw [hz, eq_of_beq this]
  · cases this
def Zf2 (r : Int) : D := Zb r
theorem ZfC (a : Int) : ∀ r, Zc0 a = some r → evD ctx 123 [.d (.int .u64 a)] = some (Zf2 r) := by
  intro r hr
  unfold Zc0 at hr
  have hr := Option.some.inj hr
  subst hr
  rw [Za1 ctx 123 ZtZ _ rfl rfl]
  by_cases h : (a == 0) = true
  · conv => lhs; whnf
    rw [h, ZuC]
    rfl
  · replace h : (a == 0) = false := by simpa using h
    obtain ⟨j, hj, e⟩ := Zw0 (IntKind.u64.wrap ((BitVec.ofInt IntKind.u64.bits a &&& BitVec.ofInt IntKind.u64.bits (IntKind.u64.wrap (0 - a))).toNat : Int) * 285870213051353865)
    conv => lhs; whnf
    rw [h, Zup]
    conv => lhs; whnf
    refine (ZxR (by rfl)).trans ?_
    conv => lhs; whnf
    rw [e]
    refine (Zw5 (by simp; omega)).trans ?_
    conv => lhs; whnf
    erw [Zx9 j hj]
    rfl
def Zep (r : Int) : D := (Zb r)
theorem Zf7 {a : Int} : ∀ r, (Zcj a) = some r → evD ctx 111 [(.d (D.int .u64 a))] = some (Zep r) := by
 show ZP _ (fun r rhs => rhs = some (Zep r)) _
 unfold Zcj
 rw [Za1 ctx 111 ZsA _ rfl rfl]
 conv => arg 3; whnf
 refine Zk _ (ZfC _) rfl fun x0 hx0 => ?_
 conv => arg 3; whnf
 exact Zf rfl
def Zlm (r : (Int × Bool)) : D := (D.tup [(Zb r.1), (D.bool r.2)])
theorem Zon {a : Int} : ∀ r, (ZhO a) = some r → evD ctx 83 [(.d (Zb a))] = some (Zlm r) := by
 show ZP _ (fun r rhs => rhs = some (Zlm r)) _
 unfold ZhO
 rw [Za1 ctx 83 Zwl _ rfl rfl]
 conv => arg 3; whnf
 refine Zk _ Zme rfl fun x0 hx0 => ?_
 conv => arg 3; whnf
 refine Ze rfl ?_ ?_
 ·conv => arg 3; whnf
  exact Zf rfl
 ·conv => arg 3; whnf
  refine Zk _ Zhd rfl fun x1 hx1 => ?_
  conv => arg 3; whnf
  refine Ze rfl ?_ ?_
  ·conv => arg 3; whnf
   exact Zf rfl
  ·conv => arg 3; whnf
   refine Zk _ Zf7 rfl fun x2 hx2 => ?_
   conv => arg 3; whnf
   exact Zf rfl
def Zjt (r : Bool) : D := (D.bool r)
theorem Zm6 {a : ZH} : ∀ r, (Zd0 a) = some r → evD ctx 85 [(.d (D.agg [(Zb a.op), (Zb a.arg), (Zb a.work)]))] = some (Zjt r) := by
 show ZP _ (fun r rhs => rhs = some (Zjt r)) _
 unfold Zd0
 rw [Za1 ctx 85 ZwA _ rfl rfl]
 conv => arg 3; whnf
 refine Zk _ ZbI rfl fun x0 hx0 => ?_
 conv => arg 3; whnf
 refine Ze rfl ?_ ?_
 ·conv => arg 3; whnf
  refine Zk _ ZbI rfl fun x1 hx1 => ?_
  conv => arg 3; whnf
  refine Ze rfl ?_ ?_
  ·conv => arg 3; whnf
   refine Zk _ ZbI rfl fun x2 hx2 => ?_
   conv => arg 3; whnf
   refine Ze rfl ?_ ?_
   ·conv => arg 3; whnf
    exact Zf rfl
   ·conv => arg 3; whnf
    exact Zf rfl
  ·conv => arg 3; whnf
   exact Zf rfl
 ·conv => arg 3; whnf
  exact Zf rfl
def Zcb (r : Int) : D := (Zb r)
def ZbU (t0 : Bool) (a : (List ZH)) : (Int ⊕ Unit) → Ex × List V × Zm
  | (.inl r) => (.ret, [(.d (Zb r))], [])
  | (.inr r) => (.exit 0, [.bad], [])
theorem ZdD {t0 : Bool} {a : (List ZH)} : ∀ (s0 : Int) (r : (Int ⊕ Unit)), lp (ZaE a (fun z0 => Zd0 z0)) s0 = some r → lpW ctx 0 [0, 1, 7, 8] [4] Zrp [(.d (D.list t0 (List.map ZV a))), (.d (D.fn 85 [])), (.d (Zb (a.length : Int))), (.d (Zb s0))] [] = some ((ZbU t0 a) r) := by
 refine ZaY (ZbU t0 a) ?_
 intro s0 rcl ih
 show ZP _ _ (lpW _ _ _ _ _ _ _)
 unfold ZaE
 rw [ZaW]
 conv => arg 3; whnf
 refine Ze rfl ?_ ?_
 ·conv => arg 3; whnf
  refine Zl rfl rfl fun x1 hx1 => ?_
  conv => arg 3; whnf
  refine Zk _ Zm6 rfl fun x2 hx2 => ?_
  conv => arg 3; whnf
  refine Ze rfl ?_ ?_
  ·conv => arg 3; whnf
   exact Zf rfl
  ·conv => arg 3; whnf
   exact Zd (ih _)
 ·conv => arg 3; whnf
  exact Zf rfl
theorem ZdT {t0 : Bool} {a : (List ZH)} : ∀ r, (ZbJ a (fun z0 => Zd0 z0)) = some r → evD ctx 112 [(.d (D.list t0 (List.map ZV a))), (.d (D.fn 85 []))] = some (Zcb r) := by
 show ZP _ (fun r rhs => rhs = some (Zcb r)) _
 unfold ZbJ
 rw [Za1 ctx 112 Zsx _ rfl rfl]
 conv => arg 3; whnf
 refine Zo (ZI _ _) ?_
 conv => arg 3; whnf
 refine Zc _ (ZdD _) fun r3 hr3 => ?_
 clear hr3
 rcases r3 with r3 | r3
 ·conv => arg 3; whnf
  exact Zf rfl
 ·conv => arg 3; whnf
  exact Zf rfl
def ZbW (r : Bool) : D := (D.bool r)
theorem ZdC {t0 : Bool} {a : (List ZH)} : ∀ r, (ZaF a (fun z0 => Zd0 z0)) = some r → evD ctx 84 [(.d (D.list t0 (List.map ZV a))), (.d (D.fn 85 []))] = some (ZbW r) := by
 show ZP _ (fun r rhs => rhs = some (ZbW r)) _
 unfold ZaF
 rw [Za1 ctx 84 Zv2 _ rfl rfl]
 conv => arg 3; whnf
 refine Zk _ ZdT rfl fun x0 hx0 => ?_
 conv => arg 3; whnf
 refine Ze rfl ?_ ?_
 ·conv => arg 3; whnf
  exact Zf rfl
 ·conv => arg 3; whnf
  exact Zf rfl
def ZkI (r : Bool) : D := (D.bool r)
theorem Zjs {t0 : Bool} {t1 : Bool} {t2 : Bool} {t3 : Bool} {a : Zi} {b : Int} {c : Int} : ∀ r, (Zfz a b c) = some r → evD ctx 86 [(.d (D.agg (dA t0 t1 t2 t3 a))), (.d (Zb b)), (.d (Zb c))] = some (ZkI r) := by
 show ZP _ (fun r rhs => rhs = some (ZkI r)) _
 unfold Zfz
 rw [Za1 ctx 86 Zv8 _ rfl rfl]
 conv => arg 3; whnf
 refine Ze rfl ?_ ?_
 ·conv => arg 3; whnf
  refine Zo (ZI _ _) ?_
  conv => arg 3; whnf
  refine Zk _ ZbI rfl fun x0 hx0 => ?_
  conv => arg 3; whnf
  refine Ze rfl ?_ ?_
  ·conv => arg 3; whnf
   refine Zo (ZI _ _) ?_
   conv => arg 3; whnf
   refine Zk _ ZbI rfl fun x1 hx1 => ?_
   conv => arg 3; whnf
   refine Ze rfl ?_ ?_
   ·conv => arg 3; whnf
    exact Zf rfl
   ·conv => arg 3; whnf
    exact Zf rfl
  ·conv => arg 3; whnf
   exact Zf rfl
 ·conv => arg 3; whnf
  exact Zf rfl
def Zed (r : Int) : D := (Zb r)
def ZdN (t0 : Bool) (a : (List ZJ)) (b : ZJ) : (Int ⊕ Unit) → Ex × List V × Zm
  | (.inl r) => (.ret, [(.d (Zb r))], [])
  | (.inr r) => (.exit 0, [.bad], [])
theorem Zfe {t0 : Bool} {a : (List ZJ)} {b : ZJ} : ∀ (s0 : Int) (r : (Int ⊕ Unit)), lp (Za4 a b) s0 = some r → lpW ctx 0 [0, 3, 7, 8] [4] Zrh [(.d (D.list t0 (List.map ZS a))), (.ptr 0 0), (.d (Zb (a.length : Int))), (.d (Zb s0))] [(.cells [(.d (Zb b.src)), (.d (Zb b.dst))])] = some ((ZdN t0 a b) r) := by
 refine ZaY (ZdN t0 a b) ?_
 intro s0 rcl ih
 show ZP _ _ (lpW _ _ _ _ _ _ _)
 unfold Za4
 rw [ZaW]
 conv => arg 3; whnf
 refine Ze rfl ?_ ?_
 ·conv => arg 3; whnf
  refine Zl rfl rfl fun x1 hx1 => ?_
  conv => arg 3; whnf
  refine Ze rfl ?_ ?_
  ·conv => arg 3; whnf
   exact Zf rfl
  ·conv => arg 3; whnf
   exact Zd (ih _)
 ·conv => arg 3; whnf
  exact Zf rfl
theorem Zf0 {t0 : Bool} {a : (List ZJ)} {b : ZJ} : ∀ r, (Zch a b) = some r → evD ctx 113 [(.d (D.list t0 (List.map ZS a))), (.d (D.agg [(Zb b.src), (Zb b.dst)]))] = some (Zed r) := by
 show ZP _ (fun r rhs => rhs = some (Zed r)) _
 unfold Zch
 rw [Za1 ctx 113 Ztq _ rfl rfl]
 conv => arg 3; whnf
 refine Zo (ZI _ _) ?_
 conv => arg 3; whnf
 refine Zc _ (Zfe _) fun r2 hr2 => ?_
 clear hr2
 rcases r2 with r2 | r2
 ·conv => arg 3; whnf
  exact Zf rfl
 ·conv => arg 3; whnf
  exact Zf rfl
def ZdO (r : Bool) : D := (D.bool r)
theorem Zfh {t0 : Bool} {a : (List ZJ)} {b : ZJ} : ∀ r, (Za3 a b) = some r → evD ctx 87 [(.d (D.list t0 (List.map ZS a))), (.d (D.agg [(Zb b.src), (Zb b.dst)]))] = some (ZdO r) := by
 show ZP _ (fun r rhs => rhs = some (ZdO r)) _
 unfold Za3
 rw [Za1 ctx 87 ZwC _ rfl rfl]
 conv => arg 3; whnf
 refine Zk _ Zf0 rfl fun x0 hx0 => ?_
 conv => arg 3; whnf
 refine Ze rfl ?_ ?_
 ·conv => arg 3; whnf
  exact Zf rfl
 ·conv => arg 3; whnf
  exact Zf rfl
def ZhN (r : Bool) : D := (D.bool r)
theorem Zj7 {a : Zr} {b0 : Int} {b1 : Int} {b2 : Int} : ∀ r, (ZcA a b1 b2) = some r → evD ctx 88 [(.d (D.agg [(Zb a.maker), (Zb a.user), (Zb a.pos)])), (.d (D.rptr [(Zb b0), (Zb b1), (Zb b2)]))] = some (ZhN r) := by
 show ZP _ (fun r rhs => rhs = some (ZhN r)) _
 unfold ZcA
 rw [Za1 ctx 88 ZvZ _ rfl rfl]
 conv => arg 3; whnf
 refine Ze rfl ?_ ?_
 ·conv => arg 3; whnf
  refine Ze rfl ?_ ?_
  ·conv => arg 3; whnf
   exact Zf rfl
  ·conv => arg 3; whnf
   exact Zf rfl
 ·conv => arg 3; whnf
  exact Zf rfl
def Zby (r : Int) : D := (Zb r)
def Zbl (t0 : Bool) (a : (List Zr)) (b0 : Int) (b1 : Int) (b2 : Int) : (Int ⊕ Unit) → Ex × List V × Zm
  | (.inl r) => (.ret, [(.d (Zb r))], [])
  | (.inr r) => (.exit 0, [.bad], [])
theorem ZcT {t0 : Bool} {a : (List Zr)} {b0 : Int} {b1 : Int} {b2 : Int} : ∀ (s0 : Int) (r : (Int ⊕ Unit)), lp (ZX a (fun z0 => ZcA z0 b1 b2)) s0 = some r → lpW ctx 0 [0, 1, 7, 8] [4] Zoj [(.d (D.list t0 (List.map Zu a))), (.d (D.fn 88 [(D.rptr [(Zb b0), (Zb b1), (Zb b2)])])), (.d (Zb (a.length : Int))), (.d (Zb s0))] [] = some ((Zbl t0 a b0 b1 b2) r) := by
 refine ZaY (Zbl t0 a b0 b1 b2) ?_
 intro s0 rcl ih
 show ZP _ _ (lpW _ _ _ _ _ _ _)
 unfold ZX
 rw [ZaW]
 conv => arg 3; whnf
 refine Ze rfl ?_ ?_
 ·conv => arg 3; whnf
  refine Zl rfl rfl fun x1 hx1 => ?_
  conv => arg 3; whnf
  refine Zk _ Zj7 rfl fun x2 hx2 => ?_
  conv => arg 3; whnf
  refine Ze rfl ?_ ?_
  ·conv => arg 3; whnf
   exact Zf rfl
  ·conv => arg 3; whnf
   exact Zd (ih _)
 ·conv => arg 3; whnf
  exact Zf rfl
theorem Zdc {t0 : Bool} {a : (List Zr)} {b0 : Int} {b1 : Int} {b2 : Int} : ∀ r, (Zaj a (fun z0 => ZcA z0 b1 b2)) = some r → evD ctx 114 [(.d (D.list t0 (List.map Zu a))), (.d (D.fn 88 [(D.rptr [(Zb b0), (Zb b1), (Zb b2)])]))] = some (Zby r) := by
 show ZP _ (fun r rhs => rhs = some (Zby r)) _
 unfold Zaj
 rw [Za1 ctx 114 Zq0 _ rfl rfl]
 conv => arg 3; whnf
 refine Zo (ZI _ _) ?_
 conv => arg 3; whnf
 refine Zc _ (ZcT _) fun r3 hr3 => ?_
 clear hr3
 rcases r3 with r3 | r3
 ·conv => arg 3; whnf
  exact Zf rfl
 ·conv => arg 3; whnf
  exact Zf rfl
def Zbk (r : Bool) : D := (D.bool r)
theorem ZcO {t0 : Bool} {a : (List Zr)} {b0 : Int} {b1 : Int} {b2 : Int} : ∀ r, (ZQ a (fun z0 => ZcA z0 b1 b2)) = some r → evD ctx 89 [(.d (D.list t0 (List.map Zu a))), (.d (D.fn 88 [(D.rptr [(Zb b0), (Zb b1), (Zb b2)])]))] = some (Zbk r) := by
 show ZP _ (fun r rhs => rhs = some (Zbk r)) _
 unfold ZQ
 rw [Za1 ctx 89 ZuU _ rfl rfl]
 conv => arg 3; whnf
 refine Zk _ Zdc rfl fun x0 hx0 => ?_
 conv => arg 3; whnf
 refine Ze rfl ?_ ?_
 ·conv => arg 3; whnf
  exact Zf rfl
 ·conv => arg 3; whnf
  exact Zf rfl
def Zkk (r : Bool) : D := (D.bool r)
def Zim (t0 : Bool) (t1 : Bool) (t2 : Bool) (t3 : Bool) (t4 : Bool) (a : Zi) (b : (List Int)) : (Unit ⊕ Unit) → Ex × List V × Zm
  | (.inl r) => (.ret, [(.d (D.list t4 (List.map Zb b))), (.d (D.bool false))], [])
  | (.inr r) => (.exit 0, [(.d (D.list t4 (List.map Zb b))), .bad], [])
theorem ZkN {t0 : Bool} {t1 : Bool} {t2 : Bool} {t3 : Bool} {t4 : Bool} {a : Zi} {b : (List Int)} : ∀ (s0 : Int) (r : (Unit ⊕ Unit)), lp (Zeg a b) s0 = some r → lpW ctx 0 [1, 2, 7, 8, 9] [1, 4] Ztc [(.d (D.list t4 (List.map Zb b))), (.ptr 0 0), (.d (D.list t4 (List.map Zb b))), (.d (Zb (b.length : Int))), (.d (Zb s0))] [(.cells (dV t0 t1 t2 t3 a))] = some ((Zim t0 t1 t2 t3 t4 a b) r) := by
 refine ZaY (Zim t0 t1 t2 t3 t4 a b) ?_
 intro s0 rcl ih
 show ZP _ _ (lpW _ _ _ _ _ _ _)
 unfold Zeg
 rw [ZaW]
 conv => arg 3; whnf
 refine Ze rfl ?_ ?_
 ·conv => arg 3; whnf
  refine Zl rfl rfl fun x1 hx1 => ?_
  conv => arg 3; whnf
  refine Zo (ZI _ _) ?_
  conv => arg 3; whnf
  refine Zk _ ZbI rfl fun x2 hx2 => ?_
  conv => arg 3; whnf
  refine Ze rfl ?_ ?_
  ·conv => arg 3; whnf
   refine Ze rfl ?_ ?_
   ·conv => arg 3; whnf
    refine Zl rfl rfl fun x3 hx3 => ?_
    conv => arg 3; whnf
    refine Ze rfl ?_ ?_
    ·conv => arg 3; whnf
     exact Zf rfl
    ·conv => arg 3; whnf
     exact Zd (ih _)
   ·conv => arg 3; whnf
    exact Zd (ih _)
  ·conv => arg 3; whnf
   exact Zf rfl
 ·conv => arg 3; whnf
  exact Zf rfl
theorem ZjA {t0 : Bool} {t1 : Bool} {t2 : Bool} {t3 : Bool} {t4 : Bool} {a : Zi} {b : (List Int)} : ∀ r, (ZfA a b) = some r → evD ctx 92 [(.d (D.agg (dA t0 t1 t2 t3 a))), (.d (D.list t4 (List.map Zb b)))] = some (Zkk r) := by
 show ZP _ (fun r rhs => rhs = some (Zkk r)) _
 unfold ZfA
 rw [Za1 ctx 92 ZvH _ rfl rfl]
 conv => arg 3; whnf
 refine Zo (ZI _ _) ?_
 conv => arg 3; whnf
 refine Zc _ (ZkN _) fun r4 hr4 => ?_
 clear hr4
 rcases r4 with r4 | r4
 ·conv => arg 3; whnf
  exact Zf rfl
 ·conv => arg 3; whnf
  refine Zo (ZI _ _) ?_
  conv => arg 3; whnf
  refine Ze rfl ?_ ?_
  ·conv => arg 3; whnf
   exact Zf rfl
  ·conv => arg 3; whnf
   exact Zf rfl
def Zet (r : Int) : D := (Zb r)
def Zd2 (t0 : Bool) (a : (List Int)) (b : Int) : (Int ⊕ Unit) → Ex × List V × Zm
  | (.inl r) => (.ret, [(.d (Zb r))], [])
  | (.inr r) => (.exit 0, [.bad], [])
theorem ZfH {t0 : Bool} {a : (List Int)} {b : Int} : ∀ (s0 : Int) (r : (Int ⊕ Unit)), lp (Zbo a b) s0 = some r → lpW ctx 0 [0, 1, 7, 8] [4] Zrc [(.d (D.list t0 (List.map Zb a))), (.d (Zb b)), (.d (Zb (a.length : Int))), (.d (Zb s0))] [] = some ((Zd2 t0 a b) r) := by
 refine ZaY (Zd2 t0 a b) ?_
 intro s0 rcl ih
 show ZP _ _ (lpW _ _ _ _ _ _ _)
 unfold Zbo
 rw [ZaW]
 conv => arg 3; whnf
 refine Ze rfl ?_ ?_
 ·conv => arg 3; whnf
  refine Zl rfl rfl fun x1 hx1 => ?_
  conv => arg 3; whnf
  refine Ze rfl ?_ ?_
  ·conv => arg 3; whnf
   exact Zf rfl
  ·conv => arg 3; whnf
   exact Zd (ih _)
 ·conv => arg 3; whnf
  exact Zf rfl
theorem Zgl {t0 : Bool} {a : (List Int)} {b : Int} : ∀ r, (Zcv a b) = some r → evD ctx 115 [(.d (D.list t0 (List.map Zb a))), (.d (Zb b))] = some (Zet r) := by
 show ZP _ (fun r rhs => rhs = some (Zet r)) _
 unfold Zcv
 rw [Za1 ctx 115 Zuh _ rfl rfl]
 conv => arg 3; whnf
 refine Zo (ZI _ _) ?_
 conv => arg 3; whnf
 refine Zc _ (ZfH _) fun r2 hr2 => ?_
 clear hr2
 rcases r2 with r2 | r2
 ·conv => arg 3; whnf
  exact Zf rfl
 ·conv => arg 3; whnf
  exact Zf rfl
def ZdZ (r : Bool) : D := (D.bool r)
theorem ZdV {t0 : Bool} {a : (List Int)} {b : Int} : ∀ r, (ZaP a b) = some r → evD ctx 91 [(.d (D.list t0 (List.map Zb a))), (.d (Zb b))] = some (ZdZ r) := by
 show ZP _ (fun r rhs => rhs = some (ZdZ r)) _
 unfold ZaP
 rw [Za1 ctx 91 ZwJ _ rfl rfl]
 conv => arg 3; whnf
 refine Zk _ Zgl rfl fun x0 hx0 => ?_
 conv => arg 3; whnf
 refine Ze rfl ?_ ?_
 ·conv => arg 3; whnf
  exact Zf rfl
 ·conv => arg 3; whnf
  exact Zf rfl
def Zhn (r : Bool) : D := (D.bool r)
theorem Zku {t0 : Bool} {t1 : Bool} {a : Int} {b0 : (List Int)} {b1 : (List Int)} : ∀ r, (Zcz a b1) = some r → evD ctx 90 [(.d (Zb a)), (.d (D.rptr [(D.list t0 (List.map Zb b0)), (D.list t1 (List.map Zb b1))]))] = some (Zhn r) := by
 show ZP _ (fun r rhs => rhs = some (Zhn r)) _
 unfold Zcz
 rw [Za1 ctx 90 Zwd _ rfl rfl]
 conv => arg 3; whnf
 refine Zk _ ZdV rfl fun x0 hx0 => ?_
 conv => arg 3; whnf
 refine Ze rfl ?_ ?_
 ·conv => arg 3; whnf
  exact Zf rfl
 ·conv => arg 3; whnf
  exact Zf rfl
def Zb3 (r : Int) : D := (Zb r)
def ZbO (t0 : Bool) (t1 : Bool) (t2 : Bool) (a : (List Int)) (b0 : (List Int)) (b1 : (List Int)) : (Int ⊕ Unit) → Ex × List V × Zm
  | (.inl r) => (.ret, [(.d (Zb r))], [])
  | (.inr r) => (.exit 0, [.bad], [])
theorem Zdq {t0 : Bool} {t1 : Bool} {t2 : Bool} {a : (List Int)} {b0 : (List Int)} {b1 : (List Int)} : ∀ (s0 : Int) (r : (Int ⊕ Unit)), lp (ZaQ a (fun z0 => Zcz z0 b1)) s0 = some r → lpW ctx 0 [0, 1, 7, 8] [4] Zrs [(.d (D.list t0 (List.map Zb a))), (.d (D.fn 90 [(D.rptr [(D.list t1 (List.map Zb b0)), (D.list t2 (List.map Zb b1))])])), (.d (Zb (a.length : Int))), (.d (Zb s0))] [] = some ((ZbO t0 t1 t2 a b0 b1) r) := by
 refine ZaY (ZbO t0 t1 t2 a b0 b1) ?_
 intro s0 rcl ih
 show ZP _ _ (lpW _ _ _ _ _ _ _)
 unfold ZaQ
 rw [ZaW]
 conv => arg 3; whnf
 refine Ze rfl ?_ ?_
 ·conv => arg 3; whnf
  refine Zl rfl rfl fun x1 hx1 => ?_
  conv => arg 3; whnf
  refine Zk _ Zku rfl fun x2 hx2 => ?_
  conv => arg 3; whnf
  refine Ze rfl ?_ ?_
  ·conv => arg 3; whnf
   exact Zf rfl
  ·conv => arg 3; whnf
   exact Zd (ih _)
 ·conv => arg 3; whnf
  exact Zf rfl
theorem ZdP {t0 : Bool} {t1 : Bool} {t2 : Bool} {a : (List Int)} {b0 : (List Int)} {b1 : (List Int)} : ∀ r, (ZbY a (fun z0 => Zcz z0 b1)) = some r → evD ctx 116 [(.d (D.list t0 (List.map Zb a))), (.d (D.fn 90 [(D.rptr [(D.list t1 (List.map Zb b0)), (D.list t2 (List.map Zb b1))])]))] = some (Zb3 r) := by
 show ZP _ (fun r rhs => rhs = some (Zb3 r)) _
 unfold ZbY
 rw [Za1 ctx 116 ZsW _ rfl rfl]
 conv => arg 3; whnf
 refine Zo (ZI _ _) ?_
 conv => arg 3; whnf
 refine Zc _ (Zdq _) fun r3 hr3 => ?_
 clear hr3
 rcases r3 with r3 | r3
 ·conv => arg 3; whnf
  exact Zf rfl
 ·conv => arg 3; whnf
  exact Zf rfl
def ZbQ (r : Bool) : D := (D.bool r)
theorem Zdo {t0 : Bool} {t1 : Bool} {t2 : Bool} {a : (List Int)} {b0 : (List Int)} {b1 : (List Int)} : ∀ r, (ZaS a (fun z0 => Zcz z0 b1)) = some r → evD ctx 93 [(.d (D.list t0 (List.map Zb a))), (.d (D.fn 90 [(D.rptr [(D.list t1 (List.map Zb b0)), (D.list t2 (List.map Zb b1))])]))] = some (ZbQ r) := by
 show ZP _ (fun r rhs => rhs = some (ZbQ r)) _
 unfold ZaS
 rw [Za1 ctx 93 Zwn _ rfl rfl]
 conv => arg 3; whnf
 refine Zk _ ZdP rfl fun x0 hx0 => ?_
 conv => arg 3; whnf
 refine Ze rfl ?_ ?_
 ·conv => arg 3; whnf
  exact Zf rfl
 ·conv => arg 3; whnf
  exact Zf rfl
def ZiM (r : Int) : D := (Zb r)
def ZgS (t0 : Bool) (t1 : Bool) (t2 : Bool) (t3 : Bool) (a : Zi) : (Unit ⊕ Unit) → Ex × List V × Zm
  | (.inl r) => (.ret, [(.ptr 0 0), (.d (Zb 53))], [(.cells (dV t0 t1 t2 t3 a))])
  | (.inr r) => (.exit 0, [(.ptr 0 0), .bad], [(.cells (dV t0 t1 t2 t3 a))])
theorem ZjJ {t0 : Bool} {t1 : Bool} {t2 : Bool} {t3 : Bool} {a : Zi} : ∀ (s4 : Int) (r : (Unit ⊕ Unit)), lp (ZcS a) s4 = some r → lpW ctx 0 [1, 61, 62, 63] [1, 2] ZtT [(.ptr 0 0), (.d (D.list t1 (List.map ZS a.edges))), (.d (Zb (a.edges.length : Int))), (.d (Zb s4))] [(.cells (dV t0 t1 t2 t3 a))] = some ((ZgS t0 t1 t2 t3 a) r) := by
 refine ZaY (ZgS t0 t1 t2 t3 a) ?_
 intro s4 rcl ih
 show ZP _ _ (lpW _ _ _ _ _ _ _)
 unfold ZcS
 rw [ZaW]
 conv => arg 3; whnf
 refine Ze rfl ?_ ?_
 ·conv => arg 3; whnf
  refine Zl rfl rfl fun x5 hx5 => ?_
  conv => arg 3; whnf
  refine Zk _ Zjs rfl fun x6 hx6 => ?_
  conv => arg 3; whnf
  refine Ze rfl ?_ ?_
  ·conv => arg 3; whnf
   refine Ze rfl ?_ ?_
   ·conv => arg 3; whnf
    refine Ze (Zvm ZS a.edges s4.toNat) ?_ ?_
    ·conv => arg 3; whnf
     refine ZbZ rfl ?_
     conv => arg 3; whnf
     refine Zo (Zq6 ZS a.edges s4.toNat) ?_
     conv => arg 3; whnf
     refine Zk _ Zfh rfl fun x7 hx7 => ?_
     conv => arg 3; whnf
     refine Ze rfl ?_ ?_
     ·conv => arg 3; whnf
      exact Zf rfl
     ·conv => arg 3; whnf
      exact Zd (ih _)
    ·exact Z9
   ·exact Z9
  ·conv => arg 3; whnf
   exact Zf rfl
 ·conv => arg 3; whnf
  exact Zf rfl
def ZgQ (t0 : Bool) (t1 : Bool) (t2 : Bool) (t3 : Bool) (a : Zi) : (Unit ⊕ Unit) → Ex × List V × Zm
  | (.inl r) => (.ret, [(.ptr 0 0), (.d (Zb 54))], [(.cells (dV t0 t1 t2 t3 a))])
  | (.inr r) => (.exit 2, [(.ptr 0 0), .bad], [(.cells (dV t0 t1 t2 t3 a))])
theorem Zj5 {t0 : Bool} {t1 : Bool} {t2 : Bool} {t3 : Bool} {a : Zi} : ∀ (s9 : Int) (r : (Unit ⊕ Unit)), lp (ZcN a) s9 = some r → lpW ctx 0 [1, 85, 86, 87] [1, 2] Zt3 [(.ptr 0 0), (.d (D.list t2 (List.map Zu a.futures))), (.d (Zb (a.futures.length : Int))), (.d (Zb s9))] [(.cells (dV t0 t1 t2 t3 a))] = some ((ZgQ t0 t1 t2 t3 a) r) := by
 refine ZaY (ZgQ t0 t1 t2 t3 a) ?_
 intro s9 rcl ih
 show ZP _ _ (lpW _ _ _ _ _ _ _)
 unfold ZcN
 rw [ZaW]
 conv => arg 3; whnf
 refine Ze rfl ?_ ?_
 ·conv => arg 3; whnf
  refine Zl rfl rfl fun x10 hx10 => ?_
  conv => arg 3; whnf
  refine Zk _ Zjs rfl fun x11 hx11 => ?_
  conv => arg 3; whnf
  refine Ze rfl ?_ ?_
  ·conv => arg 3; whnf
   refine Zl rfl rfl fun x12 hx12 => ?_
   conv => arg 3; whnf
   refine Zk _ ZbI rfl fun x13 hx13 => ?_
   conv => arg 3; whnf
   refine Ze rfl ?_ ?_
   ·conv => arg 3; whnf
    refine Ze rfl ?_ ?_
    ·conv => arg 3; whnf
     refine Ze (Zvm Zu a.futures s9.toNat) ?_ ?_
     ·conv => arg 3; whnf
      refine ZbZ rfl ?_
      conv => arg 3; whnf
      refine Zo (Zq6 Zu a.futures s9.toNat) ?_
      conv => arg 3; whnf
      refine Zk _ ZcO rfl fun x14 hx14 => ?_
      conv => arg 3; whnf
      refine Ze rfl ?_ ?_
      ·conv => arg 3; whnf
       exact Zf rfl
      ·conv => arg 3; whnf
       exact Zd (ih _)
     ·exact Z9
    ·exact Z9
   ·conv => arg 3; whnf
    exact Zf rfl
  ·conv => arg 3; whnf
   exact Zf rfl
 ·conv => arg 3; whnf
  exact Zf rfl
def Zg3 (t0 : Bool) (t1 : Bool) (t2 : Bool) (t3 : Bool) (a : Zi) : (Unit ⊕ Unit) → Ex × List V × Zm
  | (.inl r) => (.ret, [(.d (Zb 55))], [])
  | (.inr r) => (.exit 4, [.bad], [])
theorem Zj3 {t0 : Bool} {t1 : Bool} {t2 : Bool} {t3 : Bool} {a : Zi} : ∀ (s16 : Int) (r : (Unit ⊕ Unit)), lp (ZcQ a) s16 = some r → lpW ctx 0 [1, 124, 125, 126] [2] Zs6 [(.ptr 0 0), (.d (D.list t3 (List.map Zs a.barriers))), (.d (Zb (a.barriers.length : Int))), (.d (Zb s16))] [(.cells (dV t0 t1 t2 t3 a))] = some ((Zg3 t0 t1 t2 t3 a) r) := by
 refine ZaY (Zg3 t0 t1 t2 t3 a) ?_
 intro s16 rcl ih
 show ZP _ _ (lpW _ _ _ _ _ _ _)
 unfold ZcQ
 rw [ZaW]
 conv => arg 3; whnf
 refine Ze rfl ?_ ?_
 ·conv => arg 3; whnf
  refine Zl rfl rfl fun x17 hx17 => ?_
  conv => arg 3; whnf
  refine Zk _ ZjA rfl fun x18 hx18 => ?_
  conv => arg 3; whnf
  refine Ze rfl ?_ ?_
  ·conv => arg 3; whnf
   refine Zk _ ZjA rfl fun x19 hx19 => ?_
   conv => arg 3; whnf
   refine Ze rfl ?_ ?_
   ·conv => arg 3; whnf
    refine Zk _ Zdo rfl fun x20 hx20 => ?_
    conv => arg 3; whnf
    refine Ze rfl ?_ ?_
    ·conv => arg 3; whnf
     exact Zf rfl
    ·conv => arg 3; whnf
     exact Zd (ih _)
   ·conv => arg 3; whnf
    exact Zf rfl
  ·conv => arg 3; whnf
   exact Zf rfl
 ·conv => arg 3; whnf
  exact Zf rfl
theorem ZeY {t0 : Bool} {t1 : Bool} {t2 : Bool} {t3 : Bool} {a : Zi} : ∀ r, (ZdA a) = some r → evD ctx 55 [(.d (D.agg (dA t0 t1 t2 t3 a)))] = some (ZiM r) := by
 show ZP _ (fun r rhs => rhs = some (ZiM r)) _
 unfold ZdA
 rw [Za1 ctx 55 ZwP _ rfl rfl]
 conv => arg 3; whnf
 refine Zo (ZI _ _) ?_
 conv => arg 3; whnf
 refine Zk _ ZbI rfl fun x0 hx0 => ?_
 conv => arg 3; whnf
 refine Ze rfl ?_ ?_
 ·conv => arg 3; whnf
  refine Zo (ZI _ _) ?_
  conv => arg 3; whnf
  refine Ze rfl ?_ ?_
  ·conv => arg 3; whnf
   exact Zf rfl
  ·conv => arg 3; whnf
   refine Zo (ZI _ _) ?_
   conv => arg 3; whnf
   refine Ze rfl ?_ ?_
   ·conv => arg 3; whnf
    exact Zf rfl
   ·conv => arg 3; whnf
    refine Zo (ZI _ _) ?_
    conv => arg 3; whnf
    refine Ze rfl ?_ ?_
    ·conv => arg 3; whnf
     exact Zf rfl
    ·conv => arg 3; whnf
     refine Zk _ Zon rfl fun x1 hx1 => ?_
     conv => arg 3; whnf
     refine Ze rfl ?_ ?_
     ·conv => arg 3; whnf
      refine Ze rfl ?_ ?_
      ·conv => arg 3; whnf
       exact Zf rfl
      ·conv => arg 3; whnf
       refine Zk _ ZbI rfl fun x2 hx2 => ?_
       conv => arg 3; whnf
       refine Ze rfl ?_ ?_
       ·conv => arg 3; whnf
        refine Zk _ ZdC rfl fun x3 hx3 => ?_
        conv => arg 3; whnf
        refine Ze rfl ?_ ?_
        ·conv => arg 3; whnf
         exact Zf rfl
        ·conv => arg 3; whnf
         refine Zo (ZI _ _) ?_
         conv => arg 3; whnf
         refine Zc _ (ZjJ _) fun r8 hr8 => ?_
         clear hr8
         rcases r8 with r8 | r8
         ·conv => arg 3; whnf
          exact Zf rfl
         ·conv => arg 3; whnf
          refine Zo (ZI _ _) ?_
          conv => arg 3; whnf
          refine Zc _ (Zj5 _) fun r15 hr15 => ?_
          clear hr15
          rcases r15 with r15 | r15
          ·conv => arg 3; whnf
           exact Zf rfl
          ·conv => arg 3; whnf
           refine Zo (ZI _ _) ?_
           conv => arg 3; whnf
           refine Zc _ (Zj3 _) fun r21 hr21 => ?_
           clear hr21
           rcases r21 with r21 | r21
           ·conv => arg 3; whnf
            exact Zf rfl
           ·conv => arg 3; whnf
            exact Zf rfl
       ·conv => arg 3; whnf
        exact Zf rfl
     ·conv => arg 3; whnf
      exact Zf rfl
 ·conv => arg 3; whnf
  exact Zf rfl
def ZiD (r : (Zj × Int)) : D := (D.tup [(D.agg [(D.list true (List.map Zb r.1.work)), (D.list true (List.map Zb r.1.vals))]), (Zb r.2)])
theorem Zii {t0 : Bool} {t1 : Bool} {t2 : Bool} {t3 : Bool} {a : Zi} : ∀ r, (ZeH a) = some r → evD ctx 35 [(.d (D.agg (dA t0 t1 t2 t3 a)))] = some (ZiD r) := by
 show ZP _ (fun r rhs => rhs = some (ZiD r)) _
 unfold ZeH
 rw [Za1 ctx 35 Zwu _ rfl rfl]
 conv => arg 3; whnf
 refine Zk _ ZeY rfl fun x0 hx0 => ?_
 conv => arg 3; whnf
 refine Ze rfl ?_ ?_
 ·conv => arg 3; whnf
  exact Zf rfl
 ·conv => arg 3; whnf
  refine Zo (ZI _ _) ?_
  conv => arg 3; whnf
  refine Ze rfl ?_ ?_
  ·conv => arg 3; whnf
   refine Zo (Zro Zb (0 : Int) (a.parts.length : Int)) ?_
   conv => arg 3; whnf
   refine Zo (ZI _ _) ?_
   conv => arg 3; whnf
   refine Ze rfl ?_ ?_
   ·conv => arg 3; whnf
    refine Zo (Zro Zb (0 : Int) (a.parts.length : Int)) ?_
    conv => arg 3; whnf
    exact Zf rfl
   ·exact Z9
  ·exact Z9
def Zil (r : Bool) : D := (D.bool r)
theorem Zbi {t0 : Bool} {t1 : Bool} {t2 : Bool} {t3 : Bool} {t4 : Bool} {t5 : Bool} {a : Zi} {b : Zj} {c : Int} : ∀ r, (ZaD a b c) = some r → evD ctx 46 [(.d (D.agg (dA t0 t1 t2 t3 a))), (.d (D.agg [(D.list t4 (List.map Zb b.work)), (D.list t5 (List.map Zb b.vals))])), (.d (Zb c))] = some (Zil r) := by
 show ZP _ (fun r rhs => rhs = some (Zil r)) _
 unfold ZaD
 rw [Za1 ctx 46 ZvO _ rfl rfl]
 conv => arg 3; whnf
 refine Zl rfl rfl fun x0 hx0 => ?_
 conv => arg 3; whnf
 refine Zl rfl rfl fun x1 hx1 => ?_
 conv => arg 3; whnf
 refine Ze rfl ?_ ?_
 ·conv => arg 3; whnf
  exact Zf rfl
 ·conv => arg 3; whnf
  exact Zf rfl
def ZgY (r : Bool) : D := (D.bool r)
def ZfX (t0 : Bool) (t1 : Bool) (t2 : Bool) (t3 : Bool) (t4 : Bool) (t5 : Bool) (a : Zi) (b : Zj) (c : Int) : (Unit ⊕ Unit) → Ex × List V × Zm
  | (.inl r) => (.ret, [(.d (Zb c)), (.ptr 0 0), (.ptr 1 0), (.d (D.bool false))], [(.cells (dV t0 t1 t2 t3 a)), (.cells [(.d (D.list t4 (List.map Zb b.work))), (.d (D.list t5 (List.map Zb b.vals)))])])
  | (.inr r) => (.exit 0, [(.d (Zb c)), (.ptr 0 0), (.ptr 1 0), .bad], [(.cells (dV t0 t1 t2 t3 a)), (.cells [(.d (D.list t4 (List.map Zb b.work))), (.d (D.list t5 (List.map Zb b.vals)))])])
theorem Ziu {t0 : Bool} {t1 : Bool} {t2 : Bool} {t3 : Bool} {t4 : Bool} {t5 : Bool} {a : Zi} {b : Zj} {c : Int} : ∀ (s0 : Int) (r : (Unit ⊕ Unit)), lp (Zco a b c) s0 = some r → lpW ctx 0 [2, 3, 4, 14, 15, 16] [2, 3, 4, 6] Ztw [(.d (Zb c)), (.ptr 0 0), (.ptr 1 0), (.d (D.list t1 (List.map ZS a.edges))), (.d (Zb (a.edges.length : Int))), (.d (Zb s0))] [(.cells (dV t0 t1 t2 t3 a)), (.cells [(.d (D.list t4 (List.map Zb b.work))), (.d (D.list t5 (List.map Zb b.vals)))])] = some ((ZfX t0 t1 t2 t3 t4 t5 a b c) r) := by
 refine ZaY (ZfX t0 t1 t2 t3 t4 t5 a b c) ?_
 intro s0 rcl ih
 show ZP _ _ (lpW _ _ _ _ _ _ _)
 unfold Zco
 rw [ZaW]
 conv => arg 3; whnf
 refine Ze rfl ?_ ?_
 ·conv => arg 3; whnf
  refine Zl rfl rfl fun x1 hx1 => ?_
  conv => arg 3; whnf
  refine Ze rfl ?_ ?_
  ·conv => arg 3; whnf
   refine Zk _ Zbi rfl fun x2 hx2 => ?_
   conv => arg 3; whnf
   refine Ze rfl ?_ ?_
   ·conv => arg 3; whnf
    exact Zd (ih _)
   ·conv => arg 3; whnf
    exact Zf rfl
  ·conv => arg 3; whnf
   exact Zd (ih _)
 ·conv => arg 3; whnf
  exact Zf rfl
def ZfL (t0 : Bool) (t1 : Bool) (t2 : Bool) (t3 : Bool) (t4 : Bool) (t5 : Bool) (a : Zi) (b : Zj) (c : Int) (s4 : Int) (x5 : Zn) : (Unit ⊕ Unit) → Ex × List V × Zm
  | (.inl r) => (.ret, [(.d (Zb c)), (.ptr 0 0), (.ptr 1 0), (.d (D.bool false)), (.d (D.list t3 (List.map Zs a.barriers))), (.d (Zb (a.barriers.length : Int))), (.d (Zb s4))], [(.cells (dV t0 t1 t2 t3 a)), (.cells [(.d (D.list t4 (List.map Zb b.work))), (.d (D.list t5 (List.map Zb b.vals)))])])
  | (.inr r) => (.exit 4, [(.d (Zb c)), (.ptr 0 0), (.ptr 1 0), .bad, (.d (D.list t3 (List.map Zs a.barriers))), (.d (Zb (a.barriers.length : Int))), (.d (Zb s4))], [(.cells (dV t0 t1 t2 t3 a)), (.cells [(.d (D.list t4 (List.map Zb b.work))), (.d (D.list t5 (List.map Zb b.vals)))])])
theorem Ziq {t0 : Bool} {t1 : Bool} {t2 : Bool} {t3 : Bool} {t4 : Bool} {t5 : Bool} {a : Zi} {b : Zj} {c : Int} {s4 : Int} {x5 : Zn} : ∀ (s7 : Int) (r : (Unit ⊕ Unit)), lp (Zb2 a b x5) s7 = some r → lpW ctx 0 [2, 3, 4, 34, 35, 36, 46, 47, 48] [2, 3, 4, 6, 34, 35, 36] Zsh [(.d (Zb c)), (.ptr 0 0), (.ptr 1 0), (.d (D.list t3 (List.map Zs a.barriers))), (.d (Zb (a.barriers.length : Int))), (.d (Zb s4)), (.d (D.list true (List.map Zb x5.ins))), (.d (Zb (x5.ins.length : Int))), (.d (Zb s7))] [(.cells (dV t0 t1 t2 t3 a)), (.cells [(.d (D.list t4 (List.map Zb b.work))), (.d (D.list t5 (List.map Zb b.vals)))])] = some ((ZfL t0 t1 t2 t3 t4 t5 a b c s4 x5) r) := by
 refine ZaY (ZfL t0 t1 t2 t3 t4 t5 a b c s4 x5) ?_
 intro s7 rcl ih
 show ZP _ _ (lpW _ _ _ _ _ _ _)
 unfold Zb2
 rw [ZaW]
 conv => arg 3; whnf
 refine Ze rfl ?_ ?_
 ·conv => arg 3; whnf
  refine Zl rfl rfl fun x8 hx8 => ?_
  conv => arg 3; whnf
  refine Zk _ Zbi rfl fun x9 hx9 => ?_
  conv => arg 3; whnf
  refine Ze rfl ?_ ?_
  ·conv => arg 3; whnf
   exact Zd (ih _)
  ·conv => arg 3; whnf
   exact Zf rfl
 ·conv => arg 3; whnf
  exact Zf rfl
def ZfV (t0 : Bool) (t1 : Bool) (t2 : Bool) (t3 : Bool) (t4 : Bool) (t5 : Bool) (a : Zi) (b : Zj) (c : Int) : (Unit ⊕ Unit) → Ex × List V × Zm
  | (.inl r) => (.ret, [(.d (D.bool false))], [])
  | (.inr r) => (.exit 2, [.bad], [])
theorem Ziv {t0 : Bool} {t1 : Bool} {t2 : Bool} {t3 : Bool} {t4 : Bool} {t5 : Bool} {a : Zi} {b : Zj} {c : Int} : ∀ (s4 : Int) (r : (Unit ⊕ Unit)), lp (Zcn a b c) s4 = some r → lpW ctx 0 [2, 3, 4, 34, 35, 36] [6] Zt9 [(.d (Zb c)), (.ptr 0 0), (.ptr 1 0), (.d (D.list t3 (List.map Zs a.barriers))), (.d (Zb (a.barriers.length : Int))), (.d (Zb s4))] [(.cells (dV t0 t1 t2 t3 a)), (.cells [(.d (D.list t4 (List.map Zb b.work))), (.d (D.list t5 (List.map Zb b.vals)))])] = some ((ZfV t0 t1 t2 t3 t4 t5 a b c) r) := by
 refine ZaY (ZfV t0 t1 t2 t3 t4 t5 a b c) ?_
 intro s4 rcl ih
 show ZP _ _ (lpW _ _ _ _ _ _ _)
 unfold Zcn
 rw [ZaW]
 conv => arg 3; whnf
 refine Ze rfl ?_ ?_
 ·conv => arg 3; whnf
  refine Zl rfl rfl fun x5 hx5 => ?_
  conv => arg 3; whnf
  refine Zk _ ZdV rfl fun x6 hx6 => ?_
  conv => arg 3; whnf
  refine Ze rfl ?_ ?_
  ·conv => arg 3; whnf
   refine Zo (ZI _ _) ?_
   conv => arg 3; whnf
   refine Zc _ (Ziq _) fun r10 hr10 => ?_
   clear hr10
   rcases r10 with r10 | r10
   ·conv => arg 3; whnf
    exact Zf rfl
   ·conv => arg 3; whnf
    exact Zd (ih _)
  ·conv => arg 3; whnf
   exact Zd (ih _)
 ·conv => arg 3; whnf
  exact Zf rfl
theorem ZgF {t0 : Bool} {t1 : Bool} {t2 : Bool} {t3 : Bool} {t4 : Bool} {t5 : Bool} {a : Zi} {b : Zj} {c : Int} : ∀ r, (Zdr a b c) = some r → evD ctx 78 [(.d (D.agg (dA t0 t1 t2 t3 a))), (.d (D.agg [(D.list t4 (List.map Zb b.work)), (D.list t5 (List.map Zb b.vals))])), (.d (Zb c))] = some (ZgY r) := by
 show ZP _ (fun r rhs => rhs = some (ZgY r)) _
 unfold Zdr
 rw [Za1 ctx 78 Zv7 _ rfl rfl]
 conv => arg 3; whnf
 refine Zo (ZI _ _) ?_
 conv => arg 3; whnf
 refine Zc _ (Ziu _) fun r3 hr3 => ?_
 clear hr3
 rcases r3 with r3 | r3
 ·conv => arg 3; whnf
  exact Zf rfl
 ·conv => arg 3; whnf
  refine Zo (ZI _ _) ?_
  conv => arg 3; whnf
  refine Zc _ (Ziv _) fun r11 hr11 => ?_
  clear hr11
  rcases r11 with r11 | r11
  ·conv => arg 3; whnf
   exact Zf rfl
  ·conv => arg 3; whnf
   exact Zf rfl
def Zio (r : Bool) : D := (D.bool r)
def ZgJ (t0 : Bool) (t1 : Bool) (t2 : Bool) (t3 : Bool) (t4 : Bool) (t5 : Bool) (a : Zi) (b : Zj) (c : Int) : (Unit ⊕ Unit) → Ex × List V × Zm
  | (.inl r) => (.exit 0, [(.d (D.bool true))], [])
  | (.inr r) => (.exit 0, [(.d (D.bool false))], [])
theorem Zjk {t0 : Bool} {t1 : Bool} {t2 : Bool} {t3 : Bool} {t4 : Bool} {t5 : Bool} {a : Zi} {b : Zj} {c : Int} : ∀ (s3 : Int) (r : (Unit ⊕ Unit)), lp (Zcs a b c) s3 = some r → lpW ctx 0 [2, 3, 4, 7, 30, 31, 32] [7] Zqj [(.d (Zb c)), (.ptr 0 0), (.ptr 1 0), (.d (D.bool true)), (.d (D.list t2 (List.map Zu a.futures))), (.d (Zb (a.futures.length : Int))), (.d (Zb s3))] [(.cells (dV t0 t1 t2 t3 a)), (.cells [(.d (D.list t4 (List.map Zb b.work))), (.d (D.list t5 (List.map Zb b.vals)))])] = some ((ZgJ t0 t1 t2 t3 t4 t5 a b c) r) := by
 refine ZaY (ZgJ t0 t1 t2 t3 t4 t5 a b c) ?_
 intro s3 rcl ih
 show ZP _ _ (lpW _ _ _ _ _ _ _)
 unfold Zcs
 rw [ZaW]
 conv => arg 3; whnf
 refine Ze rfl ?_ ?_
 ·conv => arg 3; whnf
  refine Zl rfl rfl fun x4 hx4 => ?_
  conv => arg 3; whnf
  refine Ze rfl ?_ ?_
  ·conv => arg 3; whnf
   refine Zl rfl rfl fun x5 hx5 => ?_
   conv => arg 3; whnf
   refine Ze rfl ?_ ?_
   ·conv => arg 3; whnf
    refine Zk _ Zbi rfl fun x6 hx6 => ?_
    conv => arg 3; whnf
    refine Ze rfl ?_ ?_
    ·conv => arg 3; whnf
     exact Zf rfl
    ·conv => arg 3; whnf
     exact Zf rfl
   ·conv => arg 3; whnf
    exact Zd (ih _)
  ·conv => arg 3; whnf
   exact Zd (ih _)
 ·conv => arg 3; whnf
  exact Zf rfl
def ZfY (t0 : Bool) (t1 : Bool) (t2 : Bool) (t3 : Bool) (t4 : Bool) (t5 : Bool) (a : Zi) (b : Zj) (c : Int) : (Unit ⊕ Unit) → Ex × List V × Zm
  | (.inl r) => (.exit 0, [(.d (D.bool true))], [])
  | (.inr r) => (.exit 0, [(.d (D.bool false))], [])
theorem Zit {t0 : Bool} {t1 : Bool} {t2 : Bool} {t3 : Bool} {t4 : Bool} {t5 : Bool} {a : Zi} {b : Zj} {c : Int} : ∀ (s8 : Int) (r : (Unit ⊕ Unit)), lp (Ze1 a b c) s8 = some r → lpW ctx 0 [2, 3, 4, 7, 30, 31, 32] [7] Zqj [(.d (Zb c)), (.ptr 0 0), (.ptr 1 0), (.d (D.bool true)), (.d (D.list t2 (List.map Zu a.futures))), (.d (Zb (a.futures.length : Int))), (.d (Zb s8))] [(.cells (dV t0 t1 t2 t3 a)), (.cells [(.d (D.list t4 (List.map Zb b.work))), (.d (D.list t5 (List.map Zb b.vals)))])] = some ((ZfY t0 t1 t2 t3 t4 t5 a b c) r) := by
 refine ZaY (ZfY t0 t1 t2 t3 t4 t5 a b c) ?_
 intro s8 rcl ih
 show ZP _ _ (lpW _ _ _ _ _ _ _)
 unfold Ze1
 rw [ZaW]
 conv => arg 3; whnf
 refine Ze rfl ?_ ?_
 ·conv => arg 3; whnf
  refine Zl rfl rfl fun x9 hx9 => ?_
  conv => arg 3; whnf
  refine Ze rfl ?_ ?_
  ·conv => arg 3; whnf
   refine Zl rfl rfl fun x10 hx10 => ?_
   conv => arg 3; whnf
   refine Ze rfl ?_ ?_
   ·conv => arg 3; whnf
    refine Zk _ Zbi rfl fun x11 hx11 => ?_
    conv => arg 3; whnf
    refine Ze rfl ?_ ?_
    ·conv => arg 3; whnf
     exact Zf rfl
    ·conv => arg 3; whnf
     exact Zf rfl
   ·conv => arg 3; whnf
    exact Zd (ih _)
  ·conv => arg 3; whnf
   exact Zd (ih _)
 ·conv => arg 3; whnf
  exact Zf rfl
theorem Zfy {t0 : Bool} {t1 : Bool} {t2 : Bool} {t3 : Bool} {t4 : Bool} {t5 : Bool} {a : Zi} {b : Zj} {c : Int} : ∀ r, (ZdG a b c) = some r → evD ctx 47 [(.d (D.agg (dA t0 t1 t2 t3 a))), (.d (D.agg [(D.list t4 (List.map Zb b.work)), (D.list t5 (List.map Zb b.vals))])), (.d (Zb c))] = some (Zio r) := by
 show ZP _ (fun r rhs => rhs = some (Zio r)) _
 unfold ZdG
 rw [Za1 ctx 47 Zwe _ rfl rfl]
 conv => arg 3; whnf
 refine Zk _ Zbi rfl fun x0 hx0 => ?_
 conv => arg 3; whnf
 refine Ze rfl ?_ ?_
 ·conv => arg 3; whnf
  exact Zf rfl
 ·conv => arg 3; whnf
  refine Zl rfl rfl fun x1 hx1 => ?_
  conv => arg 3; whnf
  refine Ze rfl ?_ ?_
  ·conv => arg 3; whnf
   refine Zk _ ZgF rfl fun x2 hx2 => ?_
   conv => arg 3; whnf
   refine Ze rfl ?_ ?_
   ·conv => arg 3; whnf
    refine Zo (ZI _ _) ?_
    conv => arg 3; whnf
    refine Zc _ (Zjk _) fun r7 hr7 => ?_
    clear hr7
    rcases r7 with r7 | r7
    ·conv => arg 3; whnf
     exact Zf rfl
    ·conv => arg 3; whnf
     exact Zf rfl
   ·conv => arg 3; whnf
    exact Zf rfl
  ·conv => arg 3; whnf
   refine Zo (ZI _ _) ?_
   conv => arg 3; whnf
   refine Zc _ (Zit _) fun r12 hr12 => ?_
   clear hr12
   rcases r12 with r12 | r12
   ·conv => arg 3; whnf
    exact Zf rfl
   ·conv => arg 3; whnf
    exact Zf rfl
def ZiY (r : (List Int)) : D := (D.list true (List.map Zb r))
def ZgX (t0 : Bool) (t1 : Bool) (t2 : Bool) (t3 : Bool) (t4 : Bool) (t5 : Bool) (a : Zi) (b : Zj) : (List Int) → Ex × List V × Zm
  | r => (.exit 0, [(.sl 0 1)], [(.arr 1 (List.map Zb r))])
theorem Zj4 {t0 : Bool} {t1 : Bool} {t2 : Bool} {t3 : Bool} {t4 : Bool} {t5 : Bool} {a : Zi} {b : Zj} : ∀ (s0 : Int × (List Int)) (r : (List Int)), lp (Zdw a b) s0 = some r → lpW ctx 0 [2, 3, 5, 9, 10] [5] Zss [(.ptr 0 0), (.ptr 1 0), (.sl 2 1), (.d (Zb (a.parts.length : Int))), (.d (Zb s0.1))] [(.cells (dV t0 t1 t2 t3 a)), (.cells [(.d (D.list t4 (List.map Zb b.work))), (.d (D.list t5 (List.map Zb b.vals)))]), (.arr 1 (List.map Zb s0.2))] = some ((ZgX t0 t1 t2 t3 t4 t5 a b) r) := by
 refine ZaY (ZgX t0 t1 t2 t3 t4 t5 a b) ?_
 intro s0 rcl ih
 show ZP _ _ (lpW _ _ _ _ _ _ _)
 unfold Zdw
 rw [ZaW]
 conv => arg 3; whnf
 refine Ze rfl ?_ ?_
 ·conv => arg 3; whnf
  refine Zk _ Zfy rfl fun x1 hx1 => ?_
  conv => arg 3; whnf
  refine Ze rfl ?_ ?_
  ·conv => arg 3; whnf
   refine ZbZ rfl ?_
   conv => arg 3; whnf
   refine Ze (Zje Zb s0.2 1) ?_ ?_
   ·conv => arg 3; whnf
    refine Zo (Zi4 Zb s0.2 [s0.1]) ?_
    conv => arg 3; whnf
    exact Zd (ih _)
   ·exact Z9
  ·conv => arg 3; whnf
   exact Zd (ih _)
 ·conv => arg 3; whnf
  exact Zf rfl
theorem Zf6 {t0 : Bool} {t1 : Bool} {t2 : Bool} {t3 : Bool} {t4 : Bool} {t5 : Bool} {a : Zi} {b : Zj} : ∀ r, (Zd5 a b) = some r → evD ctx 54 [(.d (D.agg (dA t0 t1 t2 t3 a))), (.d (D.agg [(D.list t4 (List.map Zb b.work)), (D.list t5 (List.map Zb b.vals))]))] = some (ZiY r) := by
 show ZP _ (fun r rhs => rhs = some (ZiY r)) _
 unfold Zd5
 rw [Za1 ctx 54 Zv9 _ rfl rfl]
 conv => arg 3; whnf
 refine Zo (ZI _ _) ?_
 conv => arg 3; whnf
 refine Zc _ (Zj4 _) fun r2 hr2 => ?_
 conv => arg 3; whnf
 exact Zf rfl
def Zey (t0 : Bool) (a : (List Int)) : Unit → V × Zm
  | r => ((.sl 0 1), [(.arr 1 (List.map Zb a))])
theorem Zeo {t0 : Bool} {a : (List Int)} : ∀ r, (Zbg a) = some r → evW ctx 74 [(.d (D.list t0 (List.map Zb a)))] [] = some ((Zey t0 a) r) := by
 show ZP _ (fun r rhs => rhs = some ((Zey t0 a) r)) _
 unfold Zbg
 rw [Zfm ctx 74 Zwf _ _ rfl rfl]
 conv => arg 3; whnf
 refine Ze (ZuH Zb a) ?_ ?_
 ·conv => arg 3; whnf
  refine ZbZ (Zec (f := Zb) (fun _ => ⟨rfl, rfl⟩) a 0) ?_
  conv => arg 3; whnf
  refine Ze (Zeb Zb a) ?_ ?_
  ·conv => arg 3; whnf
   refine Zo (rfl : _ = List.map Zb a) ?_
   conv => arg 3; whnf
   exact Zf rfl
  ·exact Z9
 ·exact Z9
def ZgG (r : Int) : D := (Zb r)
theorem Zz {t0 : Bool} {t1 : Bool} {t2 : Bool} {t3 : Bool} {a : Int} {b : Int} {c0 : Int} {c1 : Int} {c2 : (List ZH)} {c3 : (List ZJ)} {c4 : (List Zr)} {c5 : (List Zn)} : ∀ r, (Zq a b c4) = some r → evD ctx 118 [(.d (Zb a)), (.d (Zb b)), (.d (D.rptr [(Zb c0), (Zb c1), (D.list t0 (List.map ZV c2)), (D.list t1 (List.map ZS c3)), (D.list t2 (List.map Zu c4)), (D.list t3 (List.map Zs c5))]))] = some (ZgG r) := by
 show ZP _ (fun r rhs => rhs = some (ZgG r)) _
 unfold Zq
 rw [Za1 ctx 118 ZsM _ rfl rfl]
 conv => arg 3; whnf
 refine Zl rfl rfl fun x0 hx0 => ?_
 conv => arg 3; whnf
 refine Zl rfl rfl fun x1 hx1 => ?_
 conv => arg 3; whnf
 exact Zf rfl
def Zge (r : Int) : D := (Zb r)
theorem Ziy {a : Int} : ∀ r, (Zfq a) = some r → evD ctx 135 [(.d (D.int .u64 a))] = some (Zge r) := by
 show ZP _ (fun r rhs => rhs = some (Zge r)) _
 unfold Zfq
 rw [Za1 ctx 135 Zuf _ rfl rfl]
 conv => arg 3; whnf
 refine Ze rfl ?_ ?_
 ·conv => arg 3; whnf
  refine Zae rfl ?_
  conv => arg 3; whnf
  refine Ze rfl ?_ ?_
  ·conv => arg 3; whnf
   refine Zae rfl ?_
   conv => arg 3; whnf
   refine Ze rfl ?_ ?_
   ·conv => arg 3; whnf
    refine Zae rfl ?_
    conv => arg 3; whnf
    refine Ze rfl ?_ ?_
    ·conv => arg 3; whnf
     refine ZfO rfl fun x0 hx0 => ?_
     conv => arg 3; whnf
     exact Zf rfl
    ·exact Z9
   ·conv => arg 3; whnf
    refine Ze rfl ?_ ?_
    ·conv => arg 3; whnf
     refine ZfO rfl fun x1 hx1 => ?_
     conv => arg 3; whnf
     exact Zf rfl
    ·exact Z9
  ·conv => arg 3; whnf
   refine Ze rfl ?_ ?_
   ·conv => arg 3; whnf
    refine Zae rfl ?_
    conv => arg 3; whnf
    refine Ze rfl ?_ ?_
    ·conv => arg 3; whnf
     refine ZfO rfl fun x2 hx2 => ?_
     conv => arg 3; whnf
     exact Zf rfl
    ·exact Z9
   ·conv => arg 3; whnf
    refine Ze rfl ?_ ?_
    ·conv => arg 3; whnf
     refine ZfO rfl fun x3 hx3 => ?_
     conv => arg 3; whnf
     exact Zf rfl
    ·exact Z9
 ·conv => arg 3; whnf
  refine Ze rfl ?_ ?_
  ·conv => arg 3; whnf
   refine Zae rfl ?_
   conv => arg 3; whnf
   refine Ze rfl ?_ ?_
   ·conv => arg 3; whnf
    refine Zae rfl ?_
    conv => arg 3; whnf
    refine Ze rfl ?_ ?_
    ·conv => arg 3; whnf
     refine ZfO rfl fun x4 hx4 => ?_
     conv => arg 3; whnf
     exact Zf rfl
    ·exact Z9
   ·conv => arg 3; whnf
    refine Ze rfl ?_ ?_
    ·conv => arg 3; whnf
     refine ZfO rfl fun x5 hx5 => ?_
     conv => arg 3; whnf
     exact Zf rfl
    ·exact Z9
  ·conv => arg 3; whnf
   refine Ze rfl ?_ ?_
   ·conv => arg 3; whnf
    refine Zae rfl ?_
    conv => arg 3; whnf
    refine Ze rfl ?_ ?_
    ·conv => arg 3; whnf
     refine ZfO rfl fun x6 hx6 => ?_
     conv => arg 3; whnf
     exact Zf rfl
    ·exact Z9
   ·conv => arg 3; whnf
    refine Ze rfl ?_ ?_
    ·conv => arg 3; whnf
     refine ZfO rfl fun x7 hx7 => ?_
     conv => arg 3; whnf
     exact Zf rfl
    ·exact Z9
def Zg0 (r : Int) : D := (Zb r)
theorem ZgK {a : Int} : ∀ r, (Zds a) = some r → evD ctx 125 [(.d (D.int .u64 a))] = some (Zg0 r) := by
 show ZP _ (fun r rhs => rhs = some (Zg0 r)) _
 unfold Zds
 rw [Za1 ctx 125 Zt4 _ rfl rfl]
 conv => arg 3; whnf
 refine Zk _ Ziy rfl fun x0 hx0 => ?_
 conv => arg 3; whnf
 exact Zf rfl
def Zbs (t0 : Bool) (t1 : Bool) (t2 : Bool) (t3 : Bool) (b : Int) (c : Int) (m0_0 : (List Int)) (m1_0 : Int) (m1_1 : Int) (m1_2 : (List ZH)) (m1_3 : (List ZJ)) (m1_4 : (List Zr)) (m1_5 : (List Zn)) : (List Int) → V × Zm
  | r => ((.d (D.tup [])), [(.arr 1 (List.map Zb r)), (.cells [(.d (Zb m1_0)), (.d (Zb m1_1)), (.d (D.list t0 (List.map ZV m1_2))), (.d (D.list t1 (List.map ZS m1_3))), (.d (D.list t2 (List.map Zu m1_4))), (.d (D.list t3 (List.map Zs m1_5)))])])
def Zbd (t0 : Bool) (t1 : Bool) (t2 : Bool) (t3 : Bool) (b : Int) (c : Int) (m1_0 : Int) (m1_1 : Int) (m1_2 : (List ZH)) (m1_3 : (List ZJ)) (m1_4 : (List Zr)) (m1_5 : (List Zn)) (s0 : Int × (List Int)) : (List Int) → Ex × List V × Zm
  | r => (.exit 2, [(.sl 0 1), (.d (Zb b)), (.d (Zb c)), (.fn 118 [(.ptr 1 0)]), (.d (Zb s0.1))], [(.arr 1 (List.map Zb r)), (.cells [(.d (Zb m1_0)), (.d (Zb m1_1)), (.d (D.list t0 (List.map ZV m1_2))), (.d (D.list t1 (List.map ZS m1_3))), (.d (D.list t2 (List.map Zu m1_4))), (.d (D.list t3 (List.map Zs m1_5)))])])
theorem ZcG {t0 : Bool} {t1 : Bool} {t2 : Bool} {t3 : Bool} {b : Int} {c : Int} {m1_0 : Int} {m1_1 : Int} {m1_2 : (List ZH)} {m1_3 : (List ZJ)} {m1_4 : (List Zr)} {m1_5 : (List Zn)} {s0 : Int × (List Int)} : ∀ (s1 : Int × (List Int)) (r : (List Int)), lp (ZT b (fun z0 z1 => Zq z0 z1 m1_4)) s1 = some r → lpW ctx 2 [0, 1, 2, 3, 8, 9] [0, 1, 2, 3, 8] Zrn [(.sl 0 1), (.d (Zb b)), (.d (Zb c)), (.fn 118 [(.ptr 1 0)]), (.d (Zb s0.1)), (.d (Zb s1.1))] [(.arr 1 (List.map Zb s1.2)), (.cells [(.d (Zb m1_0)), (.d (Zb m1_1)), (.d (D.list t0 (List.map ZV m1_2))), (.d (D.list t1 (List.map ZS m1_3))), (.d (D.list t2 (List.map Zu m1_4))), (.d (D.list t3 (List.map Zs m1_5)))])] = some ((Zbd t0 t1 t2 t3 b c m1_0 m1_1 m1_2 m1_3 m1_4 m1_5 s0) r) := by
 refine ZaY (Zbd t0 t1 t2 t3 b c m1_0 m1_1 m1_2 m1_3 m1_4 m1_5 s0) ?_
 intro s1 rcl ih
 show ZP _ _ (lpW _ _ _ _ _ _ _)
 unfold ZT
 rw [ZaW]
 conv => arg 3; whnf
 refine Ze rfl ?_ ?_
 ·conv => arg 3; whnf
  refine Zl rfl rfl fun x2 hx2 => ?_
  conv => arg 3; whnf
  refine Zg (Zv rfl hx2) ?_
  conv => arg 3; whnf
  refine Zl rfl rfl fun x3 hx3 => ?_
  conv => arg 3; whnf
  refine Zg (Zv rfl hx3) ?_
  conv => arg 3; whnf
  refine Zk _ Zz rfl fun x4 hx4 => ?_
  conv => arg 3; whnf
  refine Ze rfl ?_ ?_
  ·conv => arg 3; whnf
   refine Zg (Zbc rfl hx3) ?_
   conv => arg 3; whnf
   refine Zg (Zv rfl hx3) ?_
   conv => arg 3; whnf
   refine Zg (Zbc rfl hx2) ?_
   conv => arg 3; whnf
   refine Zg (Zv rfl hx2) ?_
   conv => arg 3; whnf
   refine Zg (Zbc rfl hx2) ?_
   conv => arg 3; whnf
   refine Zg (Zv rfl hx2) ?_
   conv => arg 3; whnf
   refine Zo (Zat Zb s1.2 s1.1.toNat x3) ?_
   conv => arg 3; whnf
   refine Zl rfl rfl fun x5 hx5 => ?_
   conv => arg 3; whnf
   refine Zg (Zv rfl hx5) ?_
   conv => arg 3; whnf
   refine Zo (Zat Zb (List.set s1.2 s1.1.toNat x3) (w64 (s1.1 - 1)).toNat x2) ?_
   conv => arg 3; whnf
   exact Zd (ih _)
  ·conv => arg 3; whnf
   exact Zf rfl
 ·conv => arg 3; whnf
  exact Zf rfl
def Zbf (t0 : Bool) (t1 : Bool) (t2 : Bool) (t3 : Bool) (b : Int) (c : Int) (m1_0 : Int) (m1_1 : Int) (m1_2 : (List ZH)) (m1_3 : (List ZJ)) (m1_4 : (List Zr)) (m1_5 : (List Zn)) : (List Int) → Ex × List V × Zm
  | r => (.exit 0, [], [(.arr 1 (List.map Zb r)), (.cells [(.d (Zb m1_0)), (.d (Zb m1_1)), (.d (D.list t0 (List.map ZV m1_2))), (.d (D.list t1 (List.map ZS m1_3))), (.d (D.list t2 (List.map Zu m1_4))), (.d (D.list t3 (List.map Zs m1_5)))])])
theorem ZcH {t0 : Bool} {t1 : Bool} {t2 : Bool} {t3 : Bool} {b : Int} {c : Int} {m1_0 : Int} {m1_1 : Int} {m1_2 : (List ZH)} {m1_3 : (List ZJ)} {m1_4 : (List Zr)} {m1_5 : (List Zn)} : ∀ (s0 : Int × (List Int)) (r : (List Int)), lp (Zad b c (fun z0 z1 => Zq z0 z1 m1_4)) s0 = some r → lpW ctx 2 [0, 1, 2, 3, 8] [] Zrk [(.sl 0 1), (.d (Zb b)), (.d (Zb c)), (.fn 118 [(.ptr 1 0)]), (.d (Zb s0.1))] [(.arr 1 (List.map Zb s0.2)), (.cells [(.d (Zb m1_0)), (.d (Zb m1_1)), (.d (D.list t0 (List.map ZV m1_2))), (.d (D.list t1 (List.map ZS m1_3))), (.d (D.list t2 (List.map Zu m1_4))), (.d (D.list t3 (List.map Zs m1_5)))])] = some ((Zbf t0 t1 t2 t3 b c m1_0 m1_1 m1_2 m1_3 m1_4 m1_5) r) := by
 refine ZaY (Zbf t0 t1 t2 t3 b c m1_0 m1_1 m1_2 m1_3 m1_4 m1_5) ?_
 intro s0 rcl ih
 show ZP _ _ (lpW _ _ _ _ _ _ _)
 unfold Zad
 rw [ZaW]
 conv => arg 3; whnf
 refine Ze rfl ?_ ?_
 ·conv => arg 3; whnf
  refine Zc _ (ZcG _) fun r6 hr6 => ?_
  conv => arg 3; whnf
  exact Zd (ih _)
 ·conv => arg 3; whnf
  exact Zf rfl
theorem Z2 {t0 : Bool} {t1 : Bool} {t2 : Bool} {t3 : Bool} {b : Int} {c : Int} {m0_0 : (List Int)} {m1_0 : Int} {m1_1 : Int} {m1_2 : (List ZH)} {m1_3 : (List ZJ)} {m1_4 : (List Zr)} {m1_5 : (List Zn)} : ∀ r, (ZR b c (fun z0 z1 => Zq z0 z1 m1_4) m0_0) = some r → evW ctx 126 [(.sl 0 1), (.d (Zb b)), (.d (Zb c)), (.fn 118 [(.ptr 1 0)])] [(.arr 1 (List.map Zb m0_0)), (.cells [(.d (Zb m1_0)), (.d (Zb m1_1)), (.d (D.list t0 (List.map ZV m1_2))), (.d (D.list t1 (List.map ZS m1_3))), (.d (D.list t2 (List.map Zu m1_4))), (.d (D.list t3 (List.map Zs m1_5)))])] = some ((Zbs t0 t1 t2 t3 b c m0_0 m1_0 m1_1 m1_2 m1_3 m1_4 m1_5) r) := by
 show ZP _ (fun r rhs => rhs = some ((Zbs t0 t1 t2 t3 b c m0_0 m1_0 m1_1 m1_2 m1_3 m1_4 m1_5) r)) _
 unfold ZR
 rw [Zfm ctx 126 ZsO _ _ rfl rfl]
 conv => arg 3; whnf
 refine Zc _ (ZcH _) fun r7 hr7 => ?_
 conv => arg 3; whnf
 exact Zf rfl
def ZbT (t0 : Bool) (t1 : Bool) (t2 : Bool) (t3 : Bool) (b : Int) (c : Int) (d : Int) (m0_0 : (List Int)) (m1_0 : Int) (m1_1 : Int) (m1_2 : (List ZH)) (m1_3 : (List ZJ)) (m1_4 : (List Zr)) (m1_5 : (List Zn)) : (List Int) → V × Zm
  | r => ((.d (D.tup [])), [(.arr 1 (List.map Zb r)), (.cells [(.d (Zb m1_0)), (.d (Zb m1_1)), (.d (D.list t0 (List.map ZV m1_2))), (.d (D.list t1 (List.map ZS m1_3))), (.d (D.list t2 (List.map Zu m1_4))), (.d (D.list t3 (List.map Zs m1_5)))])])
def ZbG (t0 : Bool) (t1 : Bool) (t2 : Bool) (t3 : Bool) (c : Int) (d : Int) (m1_0 : Int) (m1_1 : Int) (m1_2 : (List ZH)) (m1_3 : (List ZJ)) (m1_4 : (List Zr)) (m1_5 : (List Zn)) : ((List Int) ⊕ (List Int)) → Ex × List V × Zm
  | (.inl r) => (.exit 0, [], [(.arr 1 (List.map Zb r)), (.cells [(.d (Zb m1_0)), (.d (Zb m1_1)), (.d (D.list t0 (List.map ZV m1_2))), (.d (D.list t1 (List.map ZS m1_3))), (.d (D.list t2 (List.map Zu m1_4))), (.d (D.list t3 (List.map Zs m1_5)))])])
  | (.inr r) => (.ret, [], [(.arr 1 (List.map Zb r)), (.cells [(.d (Zb m1_0)), (.d (Zb m1_1)), (.d (D.list t0 (List.map ZV m1_2))), (.d (D.list t1 (List.map ZS m1_3))), (.d (D.list t2 (List.map Zu m1_4))), (.d (D.list t3 (List.map Zs m1_5)))])])
theorem Zde {t0 : Bool} {t1 : Bool} {t2 : Bool} {t3 : Bool} {c : Int} {d : Int} {m1_0 : Int} {m1_1 : Int} {m1_2 : (List ZH)} {m1_3 : (List ZJ)} {m1_4 : (List Zr)} {m1_5 : (List Zn)} : ∀ (s0 : Int × (List Int)) (r : ((List Int) ⊕ (List Int))), lp (ZC c d (fun z0 z1 => Zq z0 z1 m1_4)) s0 = some r → lpW ctx 2 [0, 2, 3, 4, 10] [] Zq1 [(.sl 0 1), (.d (Zb c)), (.d (Zb d)), (.fn 118 [(.ptr 1 0)]), (.d (Zb s0.1))] [(.arr 1 (List.map Zb s0.2)), (.cells [(.d (Zb m1_0)), (.d (Zb m1_1)), (.d (D.list t0 (List.map ZV m1_2))), (.d (D.list t1 (List.map ZS m1_3))), (.d (D.list t2 (List.map Zu m1_4))), (.d (D.list t3 (List.map Zs m1_5)))])] = some ((ZbG t0 t1 t2 t3 c d m1_0 m1_1 m1_2 m1_3 m1_4 m1_5) r) := by
 refine ZaY (ZbG t0 t1 t2 t3 c d m1_0 m1_1 m1_2 m1_3 m1_4 m1_5) ?_
 intro s0 rcl ih
 show ZP _ _ (lpW _ _ _ _ _ _ _)
 unfold ZC
 rw [ZaW]
 conv => arg 3; whnf
 refine Ze rfl ?_ ?_
 ·conv => arg 3; whnf
  exact Zf rfl
 ·conv => arg 3; whnf
  refine Ze rfl ?_ ?_
  ·conv => arg 3; whnf
   refine Zl rfl rfl fun x1 hx1 => ?_
   conv => arg 3; whnf
   refine Zg (Zv rfl hx1) ?_
   conv => arg 3; whnf
   refine Zl rfl rfl fun x2 hx2 => ?_
   conv => arg 3; whnf
   refine Zg (Zv rfl hx2) ?_
   conv => arg 3; whnf
   refine Zk _ Zz rfl fun x3 hx3 => ?_
   conv => arg 3; whnf
   refine Ze rfl ?_ ?_
   ·conv => arg 3; whnf
    refine Zl rfl rfl fun x4 hx4 => ?_
    conv => arg 3; whnf
    refine Zg (Zv rfl hx4) ?_
    conv => arg 3; whnf
    refine Zl rfl rfl fun x5 hx5 => ?_
    conv => arg 3; whnf
    refine Zg (Zv rfl hx5) ?_
    conv => arg 3; whnf
    refine Zk _ Zz rfl fun x6 hx6 => ?_
    conv => arg 3; whnf
    refine Ze rfl ?_ ?_
    ·conv => arg 3; whnf
     refine Zg (Zbc rfl hx5) ?_
     conv => arg 3; whnf
     refine Zg (Zv rfl hx5) ?_
     conv => arg 3; whnf
     refine Zg (Zbc rfl hx4) ?_
     conv => arg 3; whnf
     refine Zg (Zv rfl hx4) ?_
     conv => arg 3; whnf
     refine Zg (Zbc rfl hx4) ?_
     conv => arg 3; whnf
     refine Zg (Zv rfl hx4) ?_
     conv => arg 3; whnf
     refine Zo (Zat Zb s0.2 (w64 (d + s0.1)).toNat x5) ?_
     conv => arg 3; whnf
     refine Zl rfl rfl fun x7 hx7 => ?_
     conv => arg 3; whnf
     refine Zg (Zv rfl hx7) ?_
     conv => arg 3; whnf
     refine Zo (Zat Zb (List.set s0.2 (w64 (d + s0.1)).toNat x5) (w64 (d + (w64 ((w64 ((w64 (2 * s0.1)) + 1)) + 1)))).toNat x4) ?_
     conv => arg 3; whnf
     exact Zd (ih _)
    ·conv => arg 3; whnf
     exact Zf rfl
   ·conv => arg 3; whnf
    refine Zl rfl rfl fun x8 hx8 => ?_
    conv => arg 3; whnf
    refine Zg (Zv rfl hx8) ?_
    conv => arg 3; whnf
    refine Zg (Zbc rfl hx1) ?_
    conv => arg 3; whnf
    refine Zg (Zv rfl hx1) ?_
    conv => arg 3; whnf
    refine Zk _ Zz rfl fun x9 hx9 => ?_
    conv => arg 3; whnf
    refine Ze rfl ?_ ?_
    ·conv => arg 3; whnf
     refine Zg (Zbc rfl hx1) ?_
     conv => arg 3; whnf
     refine Zg (Zv rfl hx1) ?_
     conv => arg 3; whnf
     refine Zg (Zbc rfl hx8) ?_
     conv => arg 3; whnf
     refine Zg (Zv rfl hx8) ?_
     conv => arg 3; whnf
     refine Zg (Zbc rfl hx8) ?_
     conv => arg 3; whnf
     refine Zg (Zv rfl hx8) ?_
     conv => arg 3; whnf
     refine Zo (Zat Zb s0.2 (w64 (d + s0.1)).toNat x1) ?_
     conv => arg 3; whnf
     refine Zl rfl rfl fun x10 hx10 => ?_
     conv => arg 3; whnf
     refine Zg (Zv rfl hx10) ?_
     conv => arg 3; whnf
     refine Zo (Zat Zb (List.set s0.2 (w64 (d + s0.1)).toNat x1) (w64 (d + (w64 ((w64 (2 * s0.1)) + 1)))).toNat x8) ?_
     conv => arg 3; whnf
     exact Zd (ih _)
    ·conv => arg 3; whnf
     exact Zf rfl
  ·conv => arg 3; whnf
   refine Zl rfl rfl fun x11 hx11 => ?_
   conv => arg 3; whnf
   refine Zg (Zv rfl hx11) ?_
   conv => arg 3; whnf
   refine Zl rfl rfl fun x12 hx12 => ?_
   conv => arg 3; whnf
   refine Zg (Zv rfl hx12) ?_
   conv => arg 3; whnf
   refine Zk _ Zz rfl fun x13 hx13 => ?_
   conv => arg 3; whnf
   refine Ze rfl ?_ ?_
   ·conv => arg 3; whnf
    refine Zg (Zbc rfl hx12) ?_
    conv => arg 3; whnf
    refine Zg (Zv rfl hx12) ?_
    conv => arg 3; whnf
    refine Zg (Zbc rfl hx11) ?_
    conv => arg 3; whnf
    refine Zg (Zv rfl hx11) ?_
    conv => arg 3; whnf
    refine Zg (Zbc rfl hx11) ?_
    conv => arg 3; whnf
    refine Zg (Zv rfl hx11) ?_
    conv => arg 3; whnf
    refine Zo (Zat Zb s0.2 (w64 (d + s0.1)).toNat x12) ?_
    conv => arg 3; whnf
    refine Zl rfl rfl fun x14 hx14 => ?_
    conv => arg 3; whnf
    refine Zg (Zv rfl hx14) ?_
    conv => arg 3; whnf
    refine Zo (Zat Zb (List.set s0.2 (w64 (d + s0.1)).toNat x12) (w64 (d + (w64 ((w64 (2 * s0.1)) + 1)))).toNat x11) ?_
    conv => arg 3; whnf
    exact Zd (ih _)
   ·conv => arg 3; whnf
    exact Zf rfl
theorem ZbR {t0 : Bool} {t1 : Bool} {t2 : Bool} {t3 : Bool} {b : Int} {c : Int} {d : Int} {m0_0 : (List Int)} {m1_0 : Int} {m1_1 : Int} {m1_2 : (List ZH)} {m1_3 : (List ZJ)} {m1_4 : (List Zr)} {m1_5 : (List Zn)} : ∀ r, (Zas b c d (fun z0 z1 => Zq z0 z1 m1_4) m0_0) = some r → evW ctx 136 [(.sl 0 1), (.d (Zb b)), (.d (Zb c)), (.d (Zb d)), (.fn 118 [(.ptr 1 0)])] [(.arr 1 (List.map Zb m0_0)), (.cells [(.d (Zb m1_0)), (.d (Zb m1_1)), (.d (D.list t0 (List.map ZV m1_2))), (.d (D.list t1 (List.map ZS m1_3))), (.d (D.list t2 (List.map Zu m1_4))), (.d (D.list t3 (List.map Zs m1_5)))])] = some ((ZbT t0 t1 t2 t3 b c d m0_0 m1_0 m1_1 m1_2 m1_3 m1_4 m1_5) r) := by
 show ZP _ (fun r rhs => rhs = some ((ZbT t0 t1 t2 t3 b c d m0_0 m1_0 m1_1 m1_2 m1_3 m1_4 m1_5) r)) _
 unfold Zas
 rw [Zfm ctx 136 Zto _ _ rfl rfl]
 conv => arg 3; whnf
 refine Zc _ (Zde _) fun r15 hr15 => ?_
 clear hr15
 rcases r15 with r15 | r15
 ·conv => arg 3; whnf
  exact Zf rfl
 ·conv => arg 3; whnf
  exact Zf rfl
def ZbV (t0 : Bool) (t1 : Bool) (t2 : Bool) (t3 : Bool) (b : Int) (c : Int) (m0_0 : (List Int)) (m1_0 : Int) (m1_1 : Int) (m1_2 : (List ZH)) (m1_3 : (List ZJ)) (m1_4 : (List Zr)) (m1_5 : (List Zn)) : (List Int) → V × Zm
  | r => ((.d (D.tup [])), [(.arr 1 (List.map Zb r)), (.cells [(.d (Zb m1_0)), (.d (Zb m1_1)), (.d (D.list t0 (List.map ZV m1_2))), (.d (D.list t1 (List.map ZS m1_3))), (.d (D.list t2 (List.map Zu m1_4))), (.d (D.list t3 (List.map Zs m1_5)))])])
def ZbE (t0 : Bool) (t1 : Bool) (t2 : Bool) (t3 : Bool) (b : Int) (c : Int) (m1_0 : Int) (m1_1 : Int) (m1_2 : (List ZH)) (m1_3 : (List ZJ)) (m1_4 : (List Zr)) (m1_5 : (List Zn)) : (List Int) → Ex × List V × Zm
  | r => (.exit 0, [(.sl 0 1), (.fn 118 [(.ptr 1 0)]), (.d (Zb b)), (.d (Zb 0)), (.d (Zb (w64 (c - b))))], [(.arr 1 (List.map Zb r)), (.cells [(.d (Zb m1_0)), (.d (Zb m1_1)), (.d (D.list t0 (List.map ZV m1_2))), (.d (D.list t1 (List.map ZS m1_3))), (.d (D.list t2 (List.map Zu m1_4))), (.d (D.list t3 (List.map Zs m1_5)))])])
theorem Zdk {t0 : Bool} {t1 : Bool} {t2 : Bool} {t3 : Bool} {b : Int} {c : Int} {m1_0 : Int} {m1_1 : Int} {m1_2 : (List ZH)} {m1_3 : (List ZJ)} {m1_4 : (List Zr)} {m1_5 : (List Zn)} : ∀ (s0 : Int × (List Int)) (r : (List Int)), lp (Zax b c (fun z0 z1 => Zq z0 z1 m1_4)) s0 = some r → lpW ctx 2 [0, 3, 8, 9, 10, 11] [0, 3, 8, 9, 10] ZqT [(.sl 0 1), (.fn 118 [(.ptr 1 0)]), (.d (Zb b)), (.d (Zb 0)), (.d (Zb (w64 (c - b)))), (.d (Zb s0.1))] [(.arr 1 (List.map Zb s0.2)), (.cells [(.d (Zb m1_0)), (.d (Zb m1_1)), (.d (D.list t0 (List.map ZV m1_2))), (.d (D.list t1 (List.map ZS m1_3))), (.d (D.list t2 (List.map Zu m1_4))), (.d (D.list t3 (List.map Zs m1_5)))])] = some ((ZbE t0 t1 t2 t3 b c m1_0 m1_1 m1_2 m1_3 m1_4 m1_5) r) := by
 refine ZaY (ZbE t0 t1 t2 t3 b c m1_0 m1_1 m1_2 m1_3 m1_4 m1_5) ?_
 intro s0 rcl ih
 show ZP _ _ (lpW _ _ _ _ _ _ _)
 unfold Zax
 rw [ZaW]
 conv => arg 3; whnf
 refine Ze rfl ?_ ?_
 ·conv => arg 3; whnf
  refine Zc _ ZbR fun x1 hx1 => ?_
  conv => arg 3; whnf
  exact Zd (ih _)
 ·conv => arg 3; whnf
  exact Zf rfl
def ZbF (t0 : Bool) (t1 : Bool) (t2 : Bool) (t3 : Bool) (b : Int) (m1_0 : Int) (m1_1 : Int) (m1_2 : (List ZH)) (m1_3 : (List ZJ)) (m1_4 : (List Zr)) (m1_5 : (List Zn)) : (List Int) → Ex × List V × Zm
  | r => (.exit 2, [], [(.arr 1 (List.map Zb r)), (.cells [(.d (Zb m1_0)), (.d (Zb m1_1)), (.d (D.list t0 (List.map ZV m1_2))), (.d (D.list t1 (List.map ZS m1_3))), (.d (D.list t2 (List.map Zu m1_4))), (.d (D.list t3 (List.map Zs m1_5)))])])
theorem Zdh {t0 : Bool} {t1 : Bool} {t2 : Bool} {t3 : Bool} {b : Int} {m1_0 : Int} {m1_1 : Int} {m1_2 : (List ZH)} {m1_3 : (List ZJ)} {m1_4 : (List Zr)} {m1_5 : (List Zn)} : ∀ (s3 : Int × (List Int)) (r : (List Int)), lp (Zaw b (fun z0 z1 => Zq z0 z1 m1_4)) s3 = some r → lpW ctx 2 [0, 3, 8, 9, 12] [] Zq8 [(.sl 0 1), (.fn 118 [(.ptr 1 0)]), (.d (Zb b)), (.d (Zb 0)), (.d (Zb s3.1))] [(.arr 1 (List.map Zb s3.2)), (.cells [(.d (Zb m1_0)), (.d (Zb m1_1)), (.d (D.list t0 (List.map ZV m1_2))), (.d (D.list t1 (List.map ZS m1_3))), (.d (D.list t2 (List.map Zu m1_4))), (.d (D.list t3 (List.map Zs m1_5)))])] = some ((ZbF t0 t1 t2 t3 b m1_0 m1_1 m1_2 m1_3 m1_4 m1_5) r) := by
 refine ZaY (ZbF t0 t1 t2 t3 b m1_0 m1_1 m1_2 m1_3 m1_4 m1_5) ?_
 intro s3 rcl ih
 show ZP _ _ (lpW _ _ _ _ _ _ _)
 unfold Zaw
 rw [ZaW]
 conv => arg 3; whnf
 refine Ze rfl ?_ ?_
 ·conv => arg 3; whnf
  refine Zl rfl rfl fun x4 hx4 => ?_
  conv => arg 3; whnf
  refine Zg (Zv rfl hx4) ?_
  conv => arg 3; whnf
  refine Zl rfl rfl fun x5 hx5 => ?_
  conv => arg 3; whnf
  refine Zg (Zv rfl hx5) ?_
  conv => arg 3; whnf
  refine Zg (Zbc rfl hx5) ?_
  conv => arg 3; whnf
  refine Zg (Zv rfl hx5) ?_
  conv => arg 3; whnf
  refine Zo (Zat Zb s3.2 b.toNat x4) ?_
  conv => arg 3; whnf
  refine Zl rfl rfl fun x6 hx6 => ?_
  conv => arg 3; whnf
  refine Zg (Zv rfl hx6) ?_
  conv => arg 3; whnf
  refine Zo (Zat Zb (List.set s3.2 b.toNat x4) (w64 (b + s3.1)).toNat x5) ?_
  conv => arg 3; whnf
  refine Zc _ ZbR fun x7 hx7 => ?_
  conv => arg 3; whnf
  exact Zd (ih _)
 ·conv => arg 3; whnf
  exact Zf rfl
theorem Zai {t0 : Bool} {t1 : Bool} {t2 : Bool} {t3 : Bool} {b : Int} {c : Int} {m0_0 : (List Int)} {m1_0 : Int} {m1_1 : Int} {m1_2 : (List ZH)} {m1_3 : (List ZJ)} {m1_4 : (List Zr)} {m1_5 : (List Zn)} : ∀ r, (Z0 b c (fun z0 z1 => Zq z0 z1 m1_4) m0_0) = some r → evW ctx 127 [(.sl 0 1), (.d (Zb b)), (.d (Zb c)), (.fn 118 [(.ptr 1 0)])] [(.arr 1 (List.map Zb m0_0)), (.cells [(.d (Zb m1_0)), (.d (Zb m1_1)), (.d (D.list t0 (List.map ZV m1_2))), (.d (D.list t1 (List.map ZS m1_3))), (.d (D.list t2 (List.map Zu m1_4))), (.d (D.list t3 (List.map Zs m1_5)))])] = some ((ZbV t0 t1 t2 t3 b c m0_0 m1_0 m1_1 m1_2 m1_3 m1_4 m1_5) r) := by
 show ZP _ (fun r rhs => rhs = some ((ZbV t0 t1 t2 t3 b c m0_0 m1_0 m1_1 m1_2 m1_3 m1_4 m1_5) r)) _
 unfold Z0
 rw [Zfm ctx 127 ZtA _ _ rfl rfl]
 conv => arg 3; whnf
 refine Zae rfl ?_
 conv => arg 3; whnf
 refine Zc _ (Zdk _) fun r2 hr2 => ?_
 conv => arg 3; whnf
 refine Zc _ (Zdh _) fun r8 hr8 => ?_
 conv => arg 3; whnf
 exact Zf rfl
def Zb7 (t0 : Bool) (t1 : Bool) (t2 : Bool) (t3 : Bool) (b : Int) (c : Int) (m0_0 : (List Int)) (m1_0 : Int) (m2_0 : Int) (m2_1 : Int) (m2_2 : (List ZH)) (m2_3 : (List ZJ)) (m2_4 : (List Zr)) (m2_5 : (List Zn)) : (Int × Int × Int) → V × Zm
  | r => ((.d (D.tup [(Zb r.1), (Zb r.2.1)])), [(.arr 1 (List.map Zb m0_0)), (.cells [(.d (Zb r.2.2))]), (.cells [(.d (Zb m2_0)), (.d (Zb m2_1)), (.d (D.list t0 (List.map ZV m2_2))), (.d (D.list t1 (List.map ZS m2_3))), (.d (D.list t2 (List.map Zu m2_4))), (.d (D.list t3 (List.map Zs m2_5)))])])
theorem ZaT {t0 : Bool} {t1 : Bool} {t2 : Bool} {t3 : Bool} {b : Int} {c : Int} {m0_0 : (List Int)} {m1_0 : Int} {m2_0 : Int} {m2_1 : Int} {m2_2 : (List ZH)} {m2_3 : (List ZJ)} {m2_4 : (List Zr)} {m2_5 : (List Zn)} : ∀ r, (ZaC b c (fun z0 z1 => Zq z0 z1 m2_4) m0_0 m1_0) = some r → evW ctx 141 [(.sl 0 1), (.d (Zb b)), (.d (Zb c)), (.ptr 1 0), (.fn 118 [(.ptr 2 0)])] [(.arr 1 (List.map Zb m0_0)), (.cells [(.d (Zb m1_0))]), (.cells [(.d (Zb m2_0)), (.d (Zb m2_1)), (.d (D.list t0 (List.map ZV m2_2))), (.d (D.list t1 (List.map ZS m2_3))), (.d (D.list t2 (List.map Zu m2_4))), (.d (D.list t3 (List.map Zs m2_5)))])] = some ((Zb7 t0 t1 t2 t3 b c m0_0 m1_0 m2_0 m2_1 m2_2 m2_3 m2_4 m2_5) r) := by
 show ZP _ (fun r rhs => rhs = some ((Zb7 t0 t1 t2 t3 b c m0_0 m1_0 m2_0 m2_1 m2_2 m2_3 m2_4 m2_5) r)) _
 unfold ZaC
 rw [Zfm ctx 141 ZtF _ _ rfl rfl]
 conv => arg 3; whnf
 refine Zl rfl rfl fun x0 hx0 => ?_
 conv => arg 3; whnf
 refine Zg (Zv rfl hx0) ?_
 conv => arg 3; whnf
 refine Zl rfl rfl fun x1 hx1 => ?_
 conv => arg 3; whnf
 refine Zg (Zv rfl hx1) ?_
 conv => arg 3; whnf
 refine Zk _ Zz rfl fun x2 hx2 => ?_
 conv => arg 3; whnf
 refine Ze rfl ?_ ?_
 ·conv => arg 3; whnf
  exact Zf rfl
 ·conv => arg 3; whnf
  exact Zf rfl
def Zb6 (t0 : Bool) (t1 : Bool) (t2 : Bool) (t3 : Bool) (b : Int) (c : Int) (d : Int) (m0_0 : (List Int)) (m1_0 : Int) (m2_0 : Int) (m2_1 : Int) (m2_2 : (List ZH)) (m2_3 : (List ZJ)) (m2_4 : (List Zr)) (m2_5 : (List Zn)) : (Int × Int) → V × Zm
  | r => ((.d (Zb r.1)), [(.arr 1 (List.map Zb m0_0)), (.cells [(.d (Zb r.2))]), (.cells [(.d (Zb m2_0)), (.d (Zb m2_1)), (.d (D.list t0 (List.map ZV m2_2))), (.d (D.list t1 (List.map ZS m2_3))), (.d (D.list t2 (List.map Zu m2_4))), (.d (D.list t3 (List.map Zs m2_5)))])])
theorem ZaU {t0 : Bool} {t1 : Bool} {t2 : Bool} {t3 : Bool} {b : Int} {c : Int} {d : Int} {m0_0 : (List Int)} {m1_0 : Int} {m2_0 : Int} {m2_1 : Int} {m2_2 : (List ZH)} {m2_3 : (List ZJ)} {m2_4 : (List Zr)} {m2_5 : (List Zn)} : ∀ r, (ZaB b c d (fun z0 z1 => Zq z0 z1 m2_4) m0_0 m1_0) = some r → evW ctx 140 [(.sl 0 1), (.d (Zb b)), (.d (Zb c)), (.d (Zb d)), (.ptr 1 0), (.fn 118 [(.ptr 2 0)])] [(.arr 1 (List.map Zb m0_0)), (.cells [(.d (Zb m1_0))]), (.cells [(.d (Zb m2_0)), (.d (Zb m2_1)), (.d (D.list t0 (List.map ZV m2_2))), (.d (D.list t1 (List.map ZS m2_3))), (.d (D.list t2 (List.map Zu m2_4))), (.d (D.list t3 (List.map Zs m2_5)))])] = some ((Zb6 t0 t1 t2 t3 b c d m0_0 m1_0 m2_0 m2_1 m2_2 m2_3 m2_4 m2_5) r) := by
 show ZP _ (fun r rhs => rhs = some ((Zb6 t0 t1 t2 t3 b c d m0_0 m1_0 m2_0 m2_1 m2_2 m2_3 m2_4 m2_5) r)) _
 unfold ZaB
 rw [Zfm ctx 140 Zt8 _ _ rfl rfl]
 conv => arg 3; whnf
 refine Zc _ ZaT fun x0 hx0 => ?_
 conv => arg 3; whnf
 refine Zc _ ZaT fun x1 hx1 => ?_
 conv => arg 3; whnf
 refine Zc _ ZaT fun x2 hx2 => ?_
 conv => arg 3; whnf
 exact Zf rfl
def Zbp (t0 : Bool) (t1 : Bool) (t2 : Bool) (t3 : Bool) (b : Int) (m0_0 : (List Int)) (m1_0 : Int) (m2_0 : Int) (m2_1 : Int) (m2_2 : (List ZH)) (m2_3 : (List ZJ)) (m2_4 : (List Zr)) (m2_5 : (List Zn)) : (Int × Int) → V × Zm
  | r => ((.d (Zb r.1)), [(.arr 1 (List.map Zb m0_0)), (.cells [(.d (Zb r.2))]), (.cells [(.d (Zb m2_0)), (.d (Zb m2_1)), (.d (D.list t0 (List.map ZV m2_2))), (.d (D.list t1 (List.map ZS m2_3))), (.d (D.list t2 (List.map Zu m2_4))), (.d (D.list t3 (List.map Zs m2_5)))])])
theorem Zau {t0 : Bool} {t1 : Bool} {t2 : Bool} {t3 : Bool} {b : Int} {m0_0 : (List Int)} {m1_0 : Int} {m2_0 : Int} {m2_1 : Int} {m2_2 : (List ZH)} {m2_3 : (List ZJ)} {m2_4 : (List Zr)} {m2_5 : (List Zn)} : ∀ r, (Z1 b (fun z0 z1 => Zq z0 z1 m2_4) m0_0 m1_0) = some r → evW ctx 139 [(.sl 0 1), (.d (Zb b)), (.ptr 1 0), (.fn 118 [(.ptr 2 0)])] [(.arr 1 (List.map Zb m0_0)), (.cells [(.d (Zb m1_0))]), (.cells [(.d (Zb m2_0)), (.d (Zb m2_1)), (.d (D.list t0 (List.map ZV m2_2))), (.d (D.list t1 (List.map ZS m2_3))), (.d (D.list t2 (List.map Zu m2_4))), (.d (D.list t3 (List.map Zs m2_5)))])] = some ((Zbp t0 t1 t2 t3 b m0_0 m1_0 m2_0 m2_1 m2_2 m2_3 m2_4 m2_5) r) := by
 show ZP _ (fun r rhs => rhs = some ((Zbp t0 t1 t2 t3 b m0_0 m1_0 m2_0 m2_1 m2_2 m2_3 m2_4 m2_5) r)) _
 unfold Z1
 rw [Zfm ctx 139 Ztz _ _ rfl rfl]
 conv => arg 3; whnf
 refine Zc _ ZaU fun x0 hx0 => ?_
 conv => arg 3; whnf
 exact Zf rfl
def ZbH (t0 : Bool) (t1 : Bool) (t2 : Bool) (t3 : Bool) (b : Int) (c : Int) (m0_0 : (List Int)) (m1_0 : Int) (m1_1 : Int) (m1_2 : (List ZH)) (m1_3 : (List ZJ)) (m1_4 : (List Zr)) (m1_5 : (List Zn)) : (Int × Int) → V × Zm
  | r => ((.d (D.tup [(Zb r.1), (Zb r.2)])), [(.arr 1 (List.map Zb m0_0)), (.cells [(.d (Zb m1_0)), (.d (Zb m1_1)), (.d (D.list t0 (List.map ZV m1_2))), (.d (D.list t1 (List.map ZS m1_3))), (.d (D.list t2 (List.map Zu m1_4))), (.d (D.list t3 (List.map Zs m1_5)))])])
theorem Zab {t0 : Bool} {t1 : Bool} {t2 : Bool} {t3 : Bool} {b : Int} {c : Int} {m0_0 : (List Int)} {m1_0 : Int} {m1_1 : Int} {m1_2 : (List ZH)} {m1_3 : (List ZJ)} {m1_4 : (List Zr)} {m1_5 : (List Zn)} : ∀ r, (ZF b c (fun z0 z1 => Zq z0 z1 m1_4) m0_0) = some r → evW ctx 129 [(.sl 0 1), (.d (Zb b)), (.d (Zb c)), (.fn 118 [(.ptr 1 0)])] [(.arr 1 (List.map Zb m0_0)), (.cells [(.d (Zb m1_0)), (.d (Zb m1_1)), (.d (D.list t0 (List.map ZV m1_2))), (.d (D.list t1 (List.map ZS m1_3))), (.d (D.list t2 (List.map Zu m1_4))), (.d (D.list t3 (List.map Zs m1_5)))])] = some ((ZbH t0 t1 t2 t3 b c m0_0 m1_0 m1_1 m1_2 m1_3 m1_4 m1_5) r) := by
 show ZP _ (fun r rhs => rhs = some ((ZbH t0 t1 t2 t3 b c m0_0 m1_0 m1_1 m1_2 m1_3 m1_4 m1_5) r)) _
 unfold ZF
 rw [Zfm ctx 129 ZsU _ _ rfl rfl]
 conv => arg 3; whnf
 refine Zae rfl ?_
 conv => arg 3; whnf
 refine Zae rfl ?_
 conv => arg 3; whnf
 refine Zae rfl ?_
 conv => arg 3; whnf
 refine Ze rfl ?_ ?_
 ·conv => arg 3; whnf
  refine Ze rfl ?_ ?_
  ·conv => arg 3; whnf
   refine Zc _ Zau fun x0 hx0 => ?_
   conv => arg 3; whnf
   refine Zc _ Zau fun x1 hx1 => ?_
   conv => arg 3; whnf
   refine Zc _ Zau fun x2 hx2 => ?_
   conv => arg 3; whnf
   refine Zc _ ZaU fun x3 hx3 => ?_
   conv => arg 3; whnf
   refine Ze rfl ?_ ?_
   ·conv => arg 3; whnf
    exact Zf rfl
   ·conv => arg 3; whnf
    refine Ze rfl ?_ ?_
    ·conv => arg 3; whnf
     exact Zf rfl
    ·conv => arg 3; whnf
     exact Zf rfl
  ·conv => arg 3; whnf
   refine Zc _ ZaU fun x4 hx4 => ?_
   conv => arg 3; whnf
   refine Ze rfl ?_ ?_
   ·conv => arg 3; whnf
    exact Zf rfl
   ·conv => arg 3; whnf
    refine Ze rfl ?_ ?_
    ·conv => arg 3; whnf
     exact Zf rfl
    ·conv => arg 3; whnf
     exact Zf rfl
 ·conv => arg 3; whnf
  refine ZbZ rfl ?_
  conv => arg 3; whnf
  exact Zf rfl
def Zbx (t0 : Bool) (t1 : Bool) (t2 : Bool) (t3 : Bool) (b : Int) (c : Int) (m0_0 : (List Int)) (m1_0 : Int) (m1_1 : Int) (m1_2 : (List ZH)) (m1_3 : (List ZJ)) (m1_4 : (List Zr)) (m1_5 : (List Zn)) : (List Int) → V × Zm
  | r => ((.d (D.tup [])), [(.arr 1 (List.map Zb r)), (.cells [(.d (Zb m1_0)), (.d (Zb m1_1)), (.d (D.list t0 (List.map ZV m1_2))), (.d (D.list t1 (List.map ZS m1_3))), (.d (D.list t2 (List.map Zu m1_4))), (.d (D.list t3 (List.map Zs m1_5)))])])
def Zbj (t0 : Bool) (t1 : Bool) (t2 : Bool) (t3 : Bool) (m1_0 : Int) (m1_1 : Int) (m1_2 : (List ZH)) (m1_3 : (List ZJ)) (m1_4 : (List Zr)) (m1_5 : (List Zn)) : (List Int) → Ex × List V × Zm
  | r => (.exit 0, [], [(.arr 1 (List.map Zb r)), (.cells [(.d (Zb m1_0)), (.d (Zb m1_1)), (.d (D.list t0 (List.map ZV m1_2))), (.d (D.list t1 (List.map ZS m1_3))), (.d (D.list t2 (List.map Zu m1_4))), (.d (D.list t3 (List.map Zs m1_5)))])])
theorem ZcV {t0 : Bool} {t1 : Bool} {t2 : Bool} {t3 : Bool} {m1_0 : Int} {m1_1 : Int} {m1_2 : (List ZH)} {m1_3 : (List ZJ)} {m1_4 : (List Zr)} {m1_5 : (List Zn)} : ∀ (s0 : Int × Int × (List Int)) (r : (List Int)), lp (ZZ) s0 = some r → lpW ctx 2 [0, 8, 9] [] ZqZ [(.sl 0 1), (.d (Zb s0.1)), (.d (Zb s0.2.1))] [(.arr 1 (List.map Zb s0.2.2)), (.cells [(.d (Zb m1_0)), (.d (Zb m1_1)), (.d (D.list t0 (List.map ZV m1_2))), (.d (D.list t1 (List.map ZS m1_3))), (.d (D.list t2 (List.map Zu m1_4))), (.d (D.list t3 (List.map Zs m1_5)))])] = some ((Zbj t0 t1 t2 t3 m1_0 m1_1 m1_2 m1_3 m1_4 m1_5) r) := by
 refine ZaY (Zbj t0 t1 t2 t3 m1_0 m1_1 m1_2 m1_3 m1_4 m1_5) ?_
 intro s0 rcl ih
 show ZP _ _ (lpW _ _ _ _ _ _ _)
 unfold ZZ
 rw [ZaW]
 conv => arg 3; whnf
 refine Ze rfl ?_ ?_
 ·conv => arg 3; whnf
  refine Zl rfl rfl fun x1 hx1 => ?_
  conv => arg 3; whnf
  refine Zg (Zv rfl hx1) ?_
  conv => arg 3; whnf
  refine Zl rfl rfl fun x2 hx2 => ?_
  conv => arg 3; whnf
  refine Zg (Zv rfl hx2) ?_
  conv => arg 3; whnf
  refine Zg (Zbc rfl hx2) ?_
  conv => arg 3; whnf
  refine Zg (Zv rfl hx2) ?_
  conv => arg 3; whnf
  refine Zo (Zat Zb s0.2.2 s0.1.toNat x1) ?_
  conv => arg 3; whnf
  refine Zl rfl rfl fun x3 hx3 => ?_
  conv => arg 3; whnf
  refine Zg (Zv rfl hx3) ?_
  conv => arg 3; whnf
  refine Zo (Zat Zb (List.set s0.2.2 s0.1.toNat x1) s0.2.1.toNat x2) ?_
  conv => arg 3; whnf
  exact Zd (ih _)
 ·conv => arg 3; whnf
  exact Zf rfl
theorem Z7 {t0 : Bool} {t1 : Bool} {t2 : Bool} {t3 : Bool} {b : Int} {c : Int} {m0_0 : (List Int)} {m1_0 : Int} {m1_1 : Int} {m1_2 : (List ZH)} {m1_3 : (List ZJ)} {m1_4 : (List Zr)} {m1_5 : (List Zn)} : ∀ r, (ZE b c (fun z0 z1 => Zq z0 z1 m1_4) m0_0) = some r → evW ctx 130 [(.sl 0 1), (.d (Zb b)), (.d (Zb c)), (.fn 118 [(.ptr 1 0)])] [(.arr 1 (List.map Zb m0_0)), (.cells [(.d (Zb m1_0)), (.d (Zb m1_1)), (.d (D.list t0 (List.map ZV m1_2))), (.d (D.list t1 (List.map ZS m1_3))), (.d (D.list t2 (List.map Zu m1_4))), (.d (D.list t3 (List.map Zs m1_5)))])] = some ((Zbx t0 t1 t2 t3 b c m0_0 m1_0 m1_1 m1_2 m1_3 m1_4 m1_5) r) := by
 show ZP _ (fun r rhs => rhs = some ((Zbx t0 t1 t2 t3 b c m0_0 m1_0 m1_1 m1_2 m1_3 m1_4 m1_5) r)) _
 unfold ZE
 rw [Zfm ctx 130 ZsZ _ _ rfl rfl]
 conv => arg 3; whnf
 refine Zc _ (ZcV _) fun r4 hr4 => ?_
 conv => arg 3; whnf
 exact Zf rfl
def ZaX (t0 : Bool) (t1 : Bool) (t2 : Bool) (t3 : Bool) (b : Int) (c : Int) (m0_0 : (List Int)) (m1_0 : Int) (m1_1 : Int) (m1_2 : (List ZH)) (m1_3 : (List ZJ)) (m1_4 : (List Zr)) (m1_5 : (List Zn)) : ((List Int) ⊕ (List Int)) → V × Zm
  | (.inl r) => ((.d (D.bool true)), [(.arr 1 (List.map Zb r)), (.cells [(.d (Zb m1_0)), (.d (Zb m1_1)), (.d (D.list t0 (List.map ZV m1_2))), (.d (D.list t1 (List.map ZS m1_3))), (.d (D.list t2 (List.map Zu m1_4))), (.d (D.list t3 (List.map Zs m1_5)))])])
  | (.inr r) => ((.d (D.bool false)), [(.arr 1 (List.map Zb r)), (.cells [(.d (Zb m1_0)), (.d (Zb m1_1)), (.d (D.list t0 (List.map ZV m1_2))), (.d (D.list t1 (List.map ZS m1_3))), (.d (D.list t2 (List.map Zu m1_4))), (.d (D.list t3 (List.map Zs m1_5)))])])
def ZaM (t0 : Bool) (t1 : Bool) (t2 : Bool) (t3 : Bool) (b : Int) (c : Int) (m1_0 : Int) (m1_1 : Int) (m1_2 : (List ZH)) (m1_3 : (List ZJ)) (m1_4 : (List Zr)) (m1_5 : (List Zn)) (s0 : Int × Int × (List Int)) : Int → Ex × List V × Zm
  | r => (.exit 2, [(.sl 0 1), (.d (Zb b)), (.d (Zb c)), (.fn 118 [(.ptr 1 0)]), (.d (Zb r)), (.d (Zb s0.2.1))], [(.arr 1 (List.map Zb s0.2.2)), (.cells [(.d (Zb m1_0)), (.d (Zb m1_1)), (.d (D.list t0 (List.map ZV m1_2))), (.d (D.list t1 (List.map ZS m1_3))), (.d (D.list t2 (List.map Zu m1_4))), (.d (D.list t3 (List.map Zs m1_5)))])])
theorem Zcf {t0 : Bool} {t1 : Bool} {t2 : Bool} {t3 : Bool} {b : Int} {c : Int} {m1_0 : Int} {m1_1 : Int} {m1_2 : (List ZH)} {m1_3 : (List ZJ)} {m1_4 : (List Zr)} {m1_5 : (List Zn)} {s0 : Int × Int × (List Int)} : ∀ (s1 : Int) (r : Int), lp (ZD c (fun z0 z1 => Zq z0 z1 m1_4) s0) s1 = some r → lpW ctx 2 [0, 1, 2, 3, 9, 10] [0, 1, 2, 3, 9, 10] ZqS [(.sl 0 1), (.d (Zb b)), (.d (Zb c)), (.fn 118 [(.ptr 1 0)]), (.d (Zb s1)), (.d (Zb s0.2.1))] [(.arr 1 (List.map Zb s0.2.2)), (.cells [(.d (Zb m1_0)), (.d (Zb m1_1)), (.d (D.list t0 (List.map ZV m1_2))), (.d (D.list t1 (List.map ZS m1_3))), (.d (D.list t2 (List.map Zu m1_4))), (.d (D.list t3 (List.map Zs m1_5)))])] = some ((ZaM t0 t1 t2 t3 b c m1_0 m1_1 m1_2 m1_3 m1_4 m1_5 s0) r) := by
 refine ZaY (ZaM t0 t1 t2 t3 b c m1_0 m1_1 m1_2 m1_3 m1_4 m1_5 s0) ?_
 intro s1 rcl ih
 show ZP _ _ (lpW _ _ _ _ _ _ _)
 unfold ZD
 rw [ZaW]
 conv => arg 3; whnf
 refine Ze rfl ?_ ?_
 ·conv => arg 3; whnf
  refine Zl rfl rfl fun x2 hx2 => ?_
  conv => arg 3; whnf
  refine Zg (Zv rfl hx2) ?_
  conv => arg 3; whnf
  refine Zl rfl rfl fun x3 hx3 => ?_
  conv => arg 3; whnf
  refine Zg (Zv rfl hx3) ?_
  conv => arg 3; whnf
  refine Zk _ Zz rfl fun x4 hx4 => ?_
  conv => arg 3; whnf
  refine Ze rfl ?_ ?_
  ·conv => arg 3; whnf
   exact Zf rfl
  ·conv => arg 3; whnf
   exact Zd (ih _)
 ·conv => arg 3; whnf
  exact Zf rfl
def ZaN (t0 : Bool) (t1 : Bool) (t2 : Bool) (t3 : Bool) (b : Int) (c : Int) (m1_0 : Int) (m1_1 : Int) (m1_2 : (List ZH)) (m1_3 : (List ZJ)) (m1_4 : (List Zr)) (m1_5 : (List Zn)) (s0 : Int × Int × (List Int)) (r5 : Int) : (List Int) → Ex × List V × Zm
  | r => (.exit 4, [(.sl 0 1), (.d (Zb b)), (.d (Zb c)), (.fn 118 [(.ptr 1 0)]), (.d (Zb r5)), (.d (Zb s0.2.1))], [(.arr 1 (List.map Zb r)), (.cells [(.d (Zb m1_0)), (.d (Zb m1_1)), (.d (D.list t0 (List.map ZV m1_2))), (.d (D.list t1 (List.map ZS m1_3))), (.d (D.list t2 (List.map Zu m1_4))), (.d (D.list t3 (List.map Zs m1_5)))])])
theorem Zcg {t0 : Bool} {t1 : Bool} {t2 : Bool} {t3 : Bool} {b : Int} {c : Int} {m1_0 : Int} {m1_1 : Int} {m1_2 : (List ZH)} {m1_3 : (List ZJ)} {m1_4 : (List Zr)} {m1_5 : (List Zn)} {s0 : Int × Int × (List Int)} {r5 : Int} : ∀ (s9 : Int × (List Int)) (r : (List Int)), lp (ZN (fun z0 z1 => Zq z0 z1 m1_4)) s9 = some r → lpW ctx 2 [0, 1, 2, 3, 9, 10, 11] [0, 1, 2, 3, 9, 10] ZqO [(.sl 0 1), (.d (Zb b)), (.d (Zb c)), (.fn 118 [(.ptr 1 0)]), (.d (Zb r5)), (.d (Zb s0.2.1)), (.d (Zb s9.1))] [(.arr 1 (List.map Zb s9.2)), (.cells [(.d (Zb m1_0)), (.d (Zb m1_1)), (.d (D.list t0 (List.map ZV m1_2))), (.d (D.list t1 (List.map ZS m1_3))), (.d (D.list t2 (List.map Zu m1_4))), (.d (D.list t3 (List.map Zs m1_5)))])] = some ((ZaN t0 t1 t2 t3 b c m1_0 m1_1 m1_2 m1_3 m1_4 m1_5 s0 r5) r) := by
 refine ZaY (ZaN t0 t1 t2 t3 b c m1_0 m1_1 m1_2 m1_3 m1_4 m1_5 s0 r5) ?_
 intro s9 rcl ih
 show ZP _ _ (lpW _ _ _ _ _ _ _)
 unfold ZN
 rw [ZaW]
 conv => arg 3; whnf
 refine Ze rfl ?_ ?_
 ·conv => arg 3; whnf
  refine Zl rfl rfl fun x10 hx10 => ?_
  conv => arg 3; whnf
  refine Zg (Zv rfl hx10) ?_
  conv => arg 3; whnf
  refine Zl rfl rfl fun x11 hx11 => ?_
  conv => arg 3; whnf
  refine Zg (Zv rfl hx11) ?_
  conv => arg 3; whnf
  refine Zk _ Zz rfl fun x12 hx12 => ?_
  conv => arg 3; whnf
  refine Ze rfl ?_ ?_
  ·conv => arg 3; whnf
   refine Zg (Zbc rfl hx11) ?_
   conv => arg 3; whnf
   refine Zg (Zv rfl hx11) ?_
   conv => arg 3; whnf
   refine Zg (Zbc rfl hx10) ?_
   conv => arg 3; whnf
   refine Zg (Zv rfl hx10) ?_
   conv => arg 3; whnf
   refine Zg (Zbc rfl hx10) ?_
   conv => arg 3; whnf
   refine Zg (Zv rfl hx10) ?_
   conv => arg 3; whnf
   refine Zo (Zat Zb s9.2 s9.1.toNat x11) ?_
   conv => arg 3; whnf
   refine Zl rfl rfl fun x13 hx13 => ?_
   conv => arg 3; whnf
   refine Zg (Zv rfl hx13) ?_
   conv => arg 3; whnf
   refine Zo (Zat Zb (List.set s9.2 s9.1.toNat x11) (w64 (s9.1 - 1)).toNat x10) ?_
   conv => arg 3; whnf
   exact Zd (ih _)
  ·conv => arg 3; whnf
   exact Zf rfl
 ·conv => arg 3; whnf
  exact Zf rfl
def ZaL (t0 : Bool) (t1 : Bool) (t2 : Bool) (t3 : Bool) (b : Int) (c : Int) (m1_0 : Int) (m1_1 : Int) (m1_2 : (List ZH)) (m1_3 : (List ZJ)) (m1_4 : (List Zr)) (m1_5 : (List Zn)) (s0 : Int × Int × (List Int)) (r5 : Int) : (List Int) → Ex × List V × Zm
  | r => (.exit 6, [(.sl 0 1), (.d (Zb b)), (.d (Zb c)), (.fn 118 [(.ptr 1 0)]), (.d (Zb r5)), (.d (Zb s0.2.1))], [(.arr 1 (List.map Zb r)), (.cells [(.d (Zb m1_0)), (.d (Zb m1_1)), (.d (D.list t0 (List.map ZV m1_2))), (.d (D.list t1 (List.map ZS m1_3))), (.d (D.list t2 (List.map Zu m1_4))), (.d (D.list t3 (List.map Zs m1_5)))])])
theorem Zcd {t0 : Bool} {t1 : Bool} {t2 : Bool} {t3 : Bool} {b : Int} {c : Int} {m1_0 : Int} {m1_1 : Int} {m1_2 : (List ZH)} {m1_3 : (List ZJ)} {m1_4 : (List Zr)} {m1_5 : (List Zn)} {s0 : Int × Int × (List Int)} {r5 : Int} : ∀ (s15 : Int × (List Int)) (r : (List Int)), lp (ZA c (fun z0 z1 => Zq z0 z1 m1_4)) s15 = some r → lpW ctx 2 [0, 1, 2, 3, 9, 10, 12] [0, 1, 2, 3, 9, 10] Zor [(.sl 0 1), (.d (Zb b)), (.d (Zb c)), (.fn 118 [(.ptr 1 0)]), (.d (Zb r5)), (.d (Zb s0.2.1)), (.d (Zb s15.1))] [(.arr 1 (List.map Zb s15.2)), (.cells [(.d (Zb m1_0)), (.d (Zb m1_1)), (.d (D.list t0 (List.map ZV m1_2))), (.d (D.list t1 (List.map ZS m1_3))), (.d (D.list t2 (List.map Zu m1_4))), (.d (D.list t3 (List.map Zs m1_5)))])] = some ((ZaL t0 t1 t2 t3 b c m1_0 m1_1 m1_2 m1_3 m1_4 m1_5 s0 r5) r) := by
 refine ZaY (ZaL t0 t1 t2 t3 b c m1_0 m1_1 m1_2 m1_3 m1_4 m1_5 s0 r5) ?_
 intro s15 rcl ih
 show ZP _ _ (lpW _ _ _ _ _ _ _)
 unfold ZA
 rw [ZaW]
 conv => arg 3; whnf
 refine Ze rfl ?_ ?_
 ·conv => arg 3; whnf
  refine Zl rfl rfl fun x16 hx16 => ?_
  conv => arg 3; whnf
  refine Zg (Zv rfl hx16) ?_
  conv => arg 3; whnf
  refine Zl rfl rfl fun x17 hx17 => ?_
  conv => arg 3; whnf
  refine Zg (Zv rfl hx17) ?_
  conv => arg 3; whnf
  refine Zk _ Zz rfl fun x18 hx18 => ?_
  conv => arg 3; whnf
  refine Ze rfl ?_ ?_
  ·conv => arg 3; whnf
   refine Zg (Zbc rfl hx17) ?_
   conv => arg 3; whnf
   refine Zg (Zv rfl hx17) ?_
   conv => arg 3; whnf
   refine Zg (Zbc rfl hx16) ?_
   conv => arg 3; whnf
   refine Zg (Zv rfl hx16) ?_
   conv => arg 3; whnf
   refine Zg (Zbc rfl hx16) ?_
   conv => arg 3; whnf
   refine Zg (Zv rfl hx16) ?_
   conv => arg 3; whnf
   refine Zo (Zat Zb s15.2 s15.1.toNat x17) ?_
   conv => arg 3; whnf
   refine Zl rfl rfl fun x19 hx19 => ?_
   conv => arg 3; whnf
   refine Zg (Zv rfl hx19) ?_
   conv => arg 3; whnf
   refine Zo (Zat Zb (List.set s15.2 s15.1.toNat x17) (w64 (s15.1 - 1)).toNat x16) ?_
   conv => arg 3; whnf
   exact Zd (ih _)
  ·conv => arg 3; whnf
   exact Zf rfl
 ·conv => arg 3; whnf
  exact Zf rfl
def ZaG (t0 : Bool) (t1 : Bool) (t2 : Bool) (t3 : Bool) (b : Int) (c : Int) (m1_0 : Int) (m1_1 : Int) (m1_2 : (List ZH)) (m1_3 : (List ZJ)) (m1_4 : (List Zr)) (m1_5 : (List Zn)) (s0 : Int × Int × (List Int)) (r5 : Int) : (List Int) → Ex × List V × Zm
  | r => (.exit 6, [(.sl 0 1), (.d (Zb b)), (.d (Zb c)), (.fn 118 [(.ptr 1 0)]), (.d (Zb r5)), (.d (Zb s0.2.1))], [(.arr 1 (List.map Zb r)), (.cells [(.d (Zb m1_0)), (.d (Zb m1_1)), (.d (D.list t0 (List.map ZV m1_2))), (.d (D.list t1 (List.map ZS m1_3))), (.d (D.list t2 (List.map Zu m1_4))), (.d (D.list t3 (List.map Zs m1_5)))])])
theorem Zca {t0 : Bool} {t1 : Bool} {t2 : Bool} {t3 : Bool} {b : Int} {c : Int} {m1_0 : Int} {m1_1 : Int} {m1_2 : (List ZH)} {m1_3 : (List ZJ)} {m1_4 : (List Zr)} {m1_5 : (List Zn)} {s0 : Int × Int × (List Int)} {r5 : Int} : ∀ (s21 : Int × (List Int)) (r : (List Int)), lp (Zal c (fun z0 z1 => Zq z0 z1 m1_4)) s21 = some r → lpW ctx 2 [0, 1, 2, 3, 9, 10, 12] [0, 1, 2, 3, 9, 10] Zor [(.sl 0 1), (.d (Zb b)), (.d (Zb c)), (.fn 118 [(.ptr 1 0)]), (.d (Zb r5)), (.d (Zb s0.2.1)), (.d (Zb s21.1))] [(.arr 1 (List.map Zb s21.2)), (.cells [(.d (Zb m1_0)), (.d (Zb m1_1)), (.d (D.list t0 (List.map ZV m1_2))), (.d (D.list t1 (List.map ZS m1_3))), (.d (D.list t2 (List.map Zu m1_4))), (.d (D.list t3 (List.map Zs m1_5)))])] = some ((ZaG t0 t1 t2 t3 b c m1_0 m1_1 m1_2 m1_3 m1_4 m1_5 s0 r5) r) := by
 refine ZaY (ZaG t0 t1 t2 t3 b c m1_0 m1_1 m1_2 m1_3 m1_4 m1_5 s0 r5) ?_
 intro s21 rcl ih
 show ZP _ _ (lpW _ _ _ _ _ _ _)
 unfold Zal
 rw [ZaW]
 conv => arg 3; whnf
 refine Ze rfl ?_ ?_
 ·conv => arg 3; whnf
  refine Zl rfl rfl fun x22 hx22 => ?_
  conv => arg 3; whnf
  refine Zg (Zv rfl hx22) ?_
  conv => arg 3; whnf
  refine Zl rfl rfl fun x23 hx23 => ?_
  conv => arg 3; whnf
  refine Zg (Zv rfl hx23) ?_
  conv => arg 3; whnf
  refine Zk _ Zz rfl fun x24 hx24 => ?_
  conv => arg 3; whnf
  refine Ze rfl ?_ ?_
  ·conv => arg 3; whnf
   refine Zg (Zbc rfl hx23) ?_
   conv => arg 3; whnf
   refine Zg (Zv rfl hx23) ?_
   conv => arg 3; whnf
   refine Zg (Zbc rfl hx22) ?_
   conv => arg 3; whnf
   refine Zg (Zv rfl hx22) ?_
   conv => arg 3; whnf
   refine Zg (Zbc rfl hx22) ?_
   conv => arg 3; whnf
   refine Zg (Zv rfl hx22) ?_
   conv => arg 3; whnf
   refine Zo (Zat Zb s21.2 s21.1.toNat x23) ?_
   conv => arg 3; whnf
   refine Zl rfl rfl fun x25 hx25 => ?_
   conv => arg 3; whnf
   refine Zg (Zv rfl hx25) ?_
   conv => arg 3; whnf
   refine Zo (Zat Zb (List.set s21.2 s21.1.toNat x23) (w64 (s21.1 - 1)).toNat x22) ?_
   conv => arg 3; whnf
   exact Zd (ih _)
  ·conv => arg 3; whnf
   exact Zf rfl
 ·conv => arg 3; whnf
  exact Zf rfl
def ZaO (t0 : Bool) (t1 : Bool) (t2 : Bool) (t3 : Bool) (b : Int) (c : Int) (m1_0 : Int) (m1_1 : Int) (m1_2 : (List ZH)) (m1_3 : (List ZJ)) (m1_4 : (List Zr)) (m1_5 : (List Zn)) : ((List Int) ⊕ ((List Int) ⊕ (List Int))) → Ex × List V × Zm
  | (.inl r) => (.ret, [(.d (D.bool true))], [(.arr 1 (List.map Zb r)), (.cells [(.d (Zb m1_0)), (.d (Zb m1_1)), (.d (D.list t0 (List.map ZV m1_2))), (.d (D.list t1 (List.map ZS m1_3))), (.d (D.list t2 (List.map Zu m1_4))), (.d (D.list t3 (List.map Zs m1_5)))])])
  | (.inr (.inl r)) => (.ret, [(.d (D.bool false))], [(.arr 1 (List.map Zb r)), (.cells [(.d (Zb m1_0)), (.d (Zb m1_1)), (.d (D.list t0 (List.map ZV m1_2))), (.d (D.list t1 (List.map ZS m1_3))), (.d (D.list t2 (List.map Zu m1_4))), (.d (D.list t3 (List.map Zs m1_5)))])])
  | (.inr (.inr r)) => (.exit 0, [.bad], [(.arr 1 (List.map Zb r)), (.cells [(.d (Zb m1_0)), (.d (Zb m1_1)), (.d (D.list t0 (List.map ZV m1_2))), (.d (D.list t1 (List.map ZS m1_3))), (.d (D.list t2 (List.map Zu m1_4))), (.d (D.list t3 (List.map Zs m1_5)))])])
theorem Zce {t0 : Bool} {t1 : Bool} {t2 : Bool} {t3 : Bool} {b : Int} {c : Int} {m1_0 : Int} {m1_1 : Int} {m1_2 : (List ZH)} {m1_3 : (List ZJ)} {m1_4 : (List Zr)} {m1_5 : (List Zn)} : ∀ (s0 : Int × Int × (List Int)) (r : ((List Int) ⊕ ((List Int) ⊕ (List Int)))), lp (ZL b c (fun z0 z1 => Zq z0 z1 m1_4)) s0 = some r → lpW ctx 2 [0, 1, 2, 3, 9, 10] [8] ZqG [(.sl 0 1), (.d (Zb b)), (.d (Zb c)), (.fn 118 [(.ptr 1 0)]), (.d (Zb s0.1)), (.d (Zb s0.2.1))] [(.arr 1 (List.map Zb s0.2.2)), (.cells [(.d (Zb m1_0)), (.d (Zb m1_1)), (.d (D.list t0 (List.map ZV m1_2))), (.d (D.list t1 (List.map ZS m1_3))), (.d (D.list t2 (List.map Zu m1_4))), (.d (D.list t3 (List.map Zs m1_5)))])] = some ((ZaO t0 t1 t2 t3 b c m1_0 m1_1 m1_2 m1_3 m1_4 m1_5) r) := by
 refine ZaY (ZaO t0 t1 t2 t3 b c m1_0 m1_1 m1_2 m1_3 m1_4 m1_5) ?_
 intro s0 rcl ih
 show ZP _ _ (lpW _ _ _ _ _ _ _)
 unfold ZL
 rw [ZaW]
 conv => arg 3; whnf
 refine Ze rfl ?_ ?_
 ·conv => arg 3; whnf
  refine Zc _ (Zcf _) fun r5 hr5 => ?_
  conv => arg 3; whnf
  refine Ze rfl ?_ ?_
  ·conv => arg 3; whnf
   exact Zf rfl
  ·conv => arg 3; whnf
   refine Ze rfl ?_ ?_
   ·conv => arg 3; whnf
    exact Zf rfl
   ·conv => arg 3; whnf
    refine Zl rfl rfl fun x6 hx6 => ?_
    conv => arg 3; whnf
    refine Zg (Zv rfl hx6) ?_
    conv => arg 3; whnf
    refine Zl rfl rfl fun x7 hx7 => ?_
    conv => arg 3; whnf
    refine Zg (Zv rfl hx7) ?_
    conv => arg 3; whnf
    refine Zg (Zbc rfl hx7) ?_
    conv => arg 3; whnf
    refine Zg (Zv rfl hx7) ?_
    conv => arg 3; whnf
    refine Zo (Zat Zb s0.2.2 r5.toNat x6) ?_
    conv => arg 3; whnf
    refine Zl rfl rfl fun x8 hx8 => ?_
    conv => arg 3; whnf
    refine Zg (Zv rfl hx8) ?_
    conv => arg 3; whnf
    refine Zo (Zat Zb (List.set s0.2.2 r5.toNat x6) (w64 (r5 - 1)).toNat x7) ?_
    conv => arg 3; whnf
    refine Ze rfl ?_ ?_
    ·conv => arg 3; whnf
     refine Zc _ (Zcg _) fun r14 hr14 => ?_
     conv => arg 3; whnf
     refine Ze rfl ?_ ?_
     ·conv => arg 3; whnf
      refine Zc _ (Zcd _) fun r20 hr20 => ?_
      conv => arg 3; whnf
      exact Zd (ih _)
     ·conv => arg 3; whnf
      exact Zd (ih _)
    ·conv => arg 3; whnf
     refine Ze rfl ?_ ?_
     ·conv => arg 3; whnf
      refine Zc _ (Zca _) fun r26 hr26 => ?_
      conv => arg 3; whnf
      exact Zd (ih _)
     ·conv => arg 3; whnf
      exact Zd (ih _)
 ·conv => arg 3; whnf
  exact Zf rfl
theorem ZaV {t0 : Bool} {t1 : Bool} {t2 : Bool} {t3 : Bool} {b : Int} {c : Int} {m0_0 : (List Int)} {m1_0 : Int} {m1_1 : Int} {m1_2 : (List ZH)} {m1_3 : (List ZJ)} {m1_4 : (List Zr)} {m1_5 : (List Zn)} : ∀ r, (ZG b c (fun z0 z1 => Zq z0 z1 m1_4) m0_0) = some r → evW ctx 131 [(.sl 0 1), (.d (Zb b)), (.d (Zb c)), (.fn 118 [(.ptr 1 0)])] [(.arr 1 (List.map Zb m0_0)), (.cells [(.d (Zb m1_0)), (.d (Zb m1_1)), (.d (D.list t0 (List.map ZV m1_2))), (.d (D.list t1 (List.map ZS m1_3))), (.d (D.list t2 (List.map Zu m1_4))), (.d (D.list t3 (List.map Zs m1_5)))])] = some ((ZaX t0 t1 t2 t3 b c m0_0 m1_0 m1_1 m1_2 m1_3 m1_4 m1_5) r) := by
 show ZP _ (fun r rhs => rhs = some ((ZaX t0 t1 t2 t3 b c m0_0 m1_0 m1_1 m1_2 m1_3 m1_4 m1_5) r)) _
 unfold ZG
 rw [Zfm ctx 131 ZsT _ _ rfl rfl]
 conv => arg 3; whnf
 refine Zc _ (Zce _) fun r27 hr27 => ?_
 clear hr27
 rcases r27 with r27 | (r27 | r27)
 ·conv => arg 3; whnf
  exact Zf rfl
 ·conv => arg 3; whnf
  exact Zf rfl
 ·conv => arg 3; whnf
  exact Zf rfl
def ZbP (t0 : Bool) (t1 : Bool) (t2 : Bool) (t3 : Bool) (b : Int) (c : Int) (d : Int) (m0_0 : (List Int)) (m1_0 : Int) (m1_1 : Int) (m1_2 : (List ZH)) (m1_3 : (List ZJ)) (m1_4 : (List Zr)) (m1_5 : (List Zn)) : ((Int × (List Int)) ⊕ (Int × (List Int))) → V × Zm
  | (.inl r) => ((.d (D.tup [(Zb r.1), (D.bool true)])), [(.arr 1 (List.map Zb r.2)), (.cells [(.d (Zb m1_0)), (.d (Zb m1_1)), (.d (D.list t0 (List.map ZV m1_2))), (.d (D.list t1 (List.map ZS m1_3))), (.d (D.list t2 (List.map Zu m1_4))), (.d (D.list t3 (List.map Zs m1_5)))])])
  | (.inr r) => ((.d (D.tup [(Zb r.1), (D.bool false)])), [(.arr 1 (List.map Zb r.2)), (.cells [(.d (Zb m1_0)), (.d (Zb m1_1)), (.d (D.list t0 (List.map ZV m1_2))), (.d (D.list t1 (List.map ZS m1_3))), (.d (D.list t2 (List.map Zu m1_4))), (.d (D.list t3 (List.map Zs m1_5)))])])
def ZbA (t0 : Bool) (t1 : Bool) (t2 : Bool) (t3 : Bool) (b : Int) (c : Int) (d : Int) (m0_0 : (List Int)) (m1_0 : Int) (m1_1 : Int) (m1_2 : (List ZH)) (m1_3 : (List ZJ)) (m1_4 : (List Zr)) (m1_5 : (List Zn)) (x0 : Int) (x1 : Int) : Int → Ex × List V × Zm
  | r => (.exit 0, [(.sl 0 1), (.d (Zb b)), (.fn 118 [(.ptr 1 0)]), (.d (Zb r)), (.d (Zb (w64 (c - 1))))], [(.arr 1 (List.map Zb (List.set (List.set m0_0 b.toNat x0) d.toNat x1))), (.cells [(.d (Zb m1_0)), (.d (Zb m1_1)), (.d (D.list t0 (List.map ZV m1_2))), (.d (D.list t1 (List.map ZS m1_3))), (.d (D.list t2 (List.map Zu m1_4))), (.d (D.list t3 (List.map Zs m1_5)))])])
theorem Zdd {t0 : Bool} {t1 : Bool} {t2 : Bool} {t3 : Bool} {b : Int} {c : Int} {d : Int} {m0_0 : (List Int)} {m1_0 : Int} {m1_1 : Int} {m1_2 : (List ZH)} {m1_3 : (List ZJ)} {m1_4 : (List Zr)} {m1_5 : (List Zn)} {x0 : Int} {x1 : Int} : ∀ (s3 : Int) (r : Int), lp (Zaq b c d m0_0 (fun z0 z1 => Zq z0 z1 m1_4) x0 x1) s3 = some r → lpW ctx 2 [0, 1, 4, 12, 13] [0, 1, 4, 12, 13] Zra [(.sl 0 1), (.d (Zb b)), (.fn 118 [(.ptr 1 0)]), (.d (Zb s3)), (.d (Zb (w64 (c - 1))))] [(.arr 1 (List.map Zb (List.set (List.set m0_0 b.toNat x0) d.toNat x1))), (.cells [(.d (Zb m1_0)), (.d (Zb m1_1)), (.d (D.list t0 (List.map ZV m1_2))), (.d (D.list t1 (List.map ZS m1_3))), (.d (D.list t2 (List.map Zu m1_4))), (.d (D.list t3 (List.map Zs m1_5)))])] = some ((ZbA t0 t1 t2 t3 b c d m0_0 m1_0 m1_1 m1_2 m1_3 m1_4 m1_5 x0 x1) r) := by
 refine ZaY (ZbA t0 t1 t2 t3 b c d m0_0 m1_0 m1_1 m1_2 m1_3 m1_4 m1_5 x0 x1) ?_
 intro s3 rcl ih
 show ZP _ _ (lpW _ _ _ _ _ _ _)
 unfold Zaq
 rw [ZaW]
 conv => arg 3; whnf
 refine Ze rfl ?_ ?_
 ·conv => arg 3; whnf
  refine Zl rfl rfl fun x4 hx4 => ?_
  conv => arg 3; whnf
  refine Zg (Zv rfl hx4) ?_
  conv => arg 3; whnf
  refine Zl rfl rfl fun x5 hx5 => ?_
  conv => arg 3; whnf
  refine Zg (Zv rfl hx5) ?_
  conv => arg 3; whnf
  refine Zk _ Zz rfl fun x6 hx6 => ?_
  conv => arg 3; whnf
  refine Ze rfl ?_ ?_
  ·conv => arg 3; whnf
   exact Zd (ih _)
  ·conv => arg 3; whnf
   exact Zf rfl
 ·conv => arg 3; whnf
  exact Zf rfl
def ZbD (t0 : Bool) (t1 : Bool) (t2 : Bool) (t3 : Bool) (b : Int) (d : Int) (m0_0 : (List Int)) (m1_0 : Int) (m1_1 : Int) (m1_2 : (List ZH)) (m1_3 : (List ZJ)) (m1_4 : (List Zr)) (m1_5 : (List Zn)) (x0 : Int) (x1 : Int) (r7 : Int) : Int → Ex × List V × Zm
  | r => (.exit 2, [(.sl 0 1), (.d (Zb b)), (.fn 118 [(.ptr 1 0)]), (.d (Zb r7)), (.d (Zb r))], [(.arr 1 (List.map Zb (List.set (List.set m0_0 b.toNat x0) d.toNat x1))), (.cells [(.d (Zb m1_0)), (.d (Zb m1_1)), (.d (D.list t0 (List.map ZV m1_2))), (.d (D.list t1 (List.map ZS m1_3))), (.d (D.list t2 (List.map Zu m1_4))), (.d (D.list t3 (List.map Zs m1_5)))])])
theorem Zc9 {t0 : Bool} {t1 : Bool} {t2 : Bool} {t3 : Bool} {b : Int} {d : Int} {m0_0 : (List Int)} {m1_0 : Int} {m1_1 : Int} {m1_2 : (List ZH)} {m1_3 : (List ZJ)} {m1_4 : (List Zr)} {m1_5 : (List Zn)} {x0 : Int} {x1 : Int} {r7 : Int} : ∀ (s8 : Int) (r : Int), lp (Zar b d m0_0 (fun z0 z1 => Zq z0 z1 m1_4) x0 x1 r7) s8 = some r → lpW ctx 2 [0, 1, 4, 12, 13] [0, 1, 4, 12, 13] ZqI [(.sl 0 1), (.d (Zb b)), (.fn 118 [(.ptr 1 0)]), (.d (Zb r7)), (.d (Zb s8))] [(.arr 1 (List.map Zb (List.set (List.set m0_0 b.toNat x0) d.toNat x1))), (.cells [(.d (Zb m1_0)), (.d (Zb m1_1)), (.d (D.list t0 (List.map ZV m1_2))), (.d (D.list t1 (List.map ZS m1_3))), (.d (D.list t2 (List.map Zu m1_4))), (.d (D.list t3 (List.map Zs m1_5)))])] = some ((ZbD t0 t1 t2 t3 b d m0_0 m1_0 m1_1 m1_2 m1_3 m1_4 m1_5 x0 x1 r7) r) := by
 refine ZaY (ZbD t0 t1 t2 t3 b d m0_0 m1_0 m1_1 m1_2 m1_3 m1_4 m1_5 x0 x1 r7) ?_
 intro s8 rcl ih
 show ZP _ _ (lpW _ _ _ _ _ _ _)
 unfold Zar
 rw [ZaW]
 conv => arg 3; whnf
 refine Ze rfl ?_ ?_
 ·conv => arg 3; whnf
  refine Zl rfl rfl fun x9 hx9 => ?_
  conv => arg 3; whnf
  refine Zg (Zv rfl hx9) ?_
  conv => arg 3; whnf
  refine Zl rfl rfl fun x10 hx10 => ?_
  conv => arg 3; whnf
  refine Zg (Zv rfl hx10) ?_
  conv => arg 3; whnf
  refine Zk _ Zz rfl fun x11 hx11 => ?_
  conv => arg 3; whnf
  refine Ze rfl ?_ ?_
  ·conv => arg 3; whnf
   exact Zf rfl
  ·conv => arg 3; whnf
   exact Zd (ih _)
 ·conv => arg 3; whnf
  exact Zf rfl
def ZbB (t0 : Bool) (t1 : Bool) (t2 : Bool) (t3 : Bool) (b : Int) (m1_0 : Int) (m1_1 : Int) (m1_2 : (List ZH)) (m1_3 : (List ZJ)) (m1_4 : (List Zr)) (m1_5 : (List Zn)) (s19 : Int × Int × (List Int)) : Int → Ex × List V × Zm
  | r => (.exit 6, [(.sl 0 1), (.d (Zb b)), (.fn 118 [(.ptr 1 0)]), (.d (Zb r)), (.d (Zb s19.2.1))], [(.arr 1 (List.map Zb s19.2.2)), (.cells [(.d (Zb m1_0)), (.d (Zb m1_1)), (.d (D.list t0 (List.map ZV m1_2))), (.d (D.list t1 (List.map ZS m1_3))), (.d (D.list t2 (List.map Zu m1_4))), (.d (D.list t3 (List.map Zs m1_5)))])])
theorem Zdb {t0 : Bool} {t1 : Bool} {t2 : Bool} {t3 : Bool} {b : Int} {m1_0 : Int} {m1_1 : Int} {m1_2 : (List ZH)} {m1_3 : (List ZJ)} {m1_4 : (List Zr)} {m1_5 : (List Zn)} {s19 : Int × Int × (List Int)} : ∀ (s20 : Int) (r : Int), lp (Zan b (fun z0 z1 => Zq z0 z1 m1_4) s19) s20 = some r → lpW ctx 2 [0, 1, 4, 12, 13] [0, 1, 4, 12, 13] Zq4 [(.sl 0 1), (.d (Zb b)), (.fn 118 [(.ptr 1 0)]), (.d (Zb s20)), (.d (Zb s19.2.1))] [(.arr 1 (List.map Zb s19.2.2)), (.cells [(.d (Zb m1_0)), (.d (Zb m1_1)), (.d (D.list t0 (List.map ZV m1_2))), (.d (D.list t1 (List.map ZS m1_3))), (.d (D.list t2 (List.map Zu m1_4))), (.d (D.list t3 (List.map Zs m1_5)))])] = some ((ZbB t0 t1 t2 t3 b m1_0 m1_1 m1_2 m1_3 m1_4 m1_5 s19) r) := by
 refine ZaY (ZbB t0 t1 t2 t3 b m1_0 m1_1 m1_2 m1_3 m1_4 m1_5 s19) ?_
 intro s20 rcl ih
 show ZP _ _ (lpW _ _ _ _ _ _ _)
 unfold Zan
 rw [ZaW]
 conv => arg 3; whnf
 refine Ze rfl ?_ ?_
 ·conv => arg 3; whnf
  refine Zl rfl rfl fun x21 hx21 => ?_
  conv => arg 3; whnf
  refine Zg (Zv rfl hx21) ?_
  conv => arg 3; whnf
  refine Zl rfl rfl fun x22 hx22 => ?_
  conv => arg 3; whnf
  refine Zg (Zv rfl hx22) ?_
  conv => arg 3; whnf
  refine Zk _ Zz rfl fun x23 hx23 => ?_
  conv => arg 3; whnf
  refine Ze rfl ?_ ?_
  ·conv => arg 3; whnf
   exact Zd (ih _)
  ·conv => arg 3; whnf
   exact Zf rfl
 ·conv => arg 3; whnf
  exact Zf rfl
def ZbC (t0 : Bool) (t1 : Bool) (t2 : Bool) (t3 : Bool) (b : Int) (m1_0 : Int) (m1_1 : Int) (m1_2 : (List ZH)) (m1_3 : (List ZJ)) (m1_4 : (List Zr)) (m1_5 : (List Zn)) (s19 : Int × Int × (List Int)) (r24 : Int) : Int → Ex × List V × Zm
  | r => (.exit 8, [(.sl 0 1), (.d (Zb b)), (.fn 118 [(.ptr 1 0)]), (.d (Zb r24)), (.d (Zb r))], [(.arr 1 (List.map Zb s19.2.2)), (.cells [(.d (Zb m1_0)), (.d (Zb m1_1)), (.d (D.list t0 (List.map ZV m1_2))), (.d (D.list t1 (List.map ZS m1_3))), (.d (D.list t2 (List.map Zu m1_4))), (.d (D.list t3 (List.map Zs m1_5)))])])
theorem Zc8 {t0 : Bool} {t1 : Bool} {t2 : Bool} {t3 : Bool} {b : Int} {m1_0 : Int} {m1_1 : Int} {m1_2 : (List ZH)} {m1_3 : (List ZJ)} {m1_4 : (List Zr)} {m1_5 : (List Zn)} {s19 : Int × Int × (List Int)} {r24 : Int} : ∀ (s25 : Int) (r : Int), lp (Zao b (fun z0 z1 => Zq z0 z1 m1_4) s19 r24) s25 = some r → lpW ctx 2 [0, 1, 4, 12, 13] [0, 1, 4, 12, 13] Zrr [(.sl 0 1), (.d (Zb b)), (.fn 118 [(.ptr 1 0)]), (.d (Zb r24)), (.d (Zb s25))] [(.arr 1 (List.map Zb s19.2.2)), (.cells [(.d (Zb m1_0)), (.d (Zb m1_1)), (.d (D.list t0 (List.map ZV m1_2))), (.d (D.list t1 (List.map ZS m1_3))), (.d (D.list t2 (List.map Zu m1_4))), (.d (D.list t3 (List.map Zs m1_5)))])] = some ((ZbC t0 t1 t2 t3 b m1_0 m1_1 m1_2 m1_3 m1_4 m1_5 s19 r24) r) := by
 refine ZaY (ZbC t0 t1 t2 t3 b m1_0 m1_1 m1_2 m1_3 m1_4 m1_5 s19 r24) ?_
 intro s25 rcl ih
 show ZP _ _ (lpW _ _ _ _ _ _ _)
 unfold Zao
 rw [ZaW]
 conv => arg 3; whnf
 refine Ze rfl ?_ ?_
 ·conv => arg 3; whnf
  refine Zl rfl rfl fun x26 hx26 => ?_
  conv => arg 3; whnf
  refine Zg (Zv rfl hx26) ?_
  conv => arg 3; whnf
  refine Zl rfl rfl fun x27 hx27 => ?_
  conv => arg 3; whnf
  refine Zg (Zv rfl hx27) ?_
  conv => arg 3; whnf
  refine Zk _ Zz rfl fun x28 hx28 => ?_
  conv => arg 3; whnf
  refine Ze rfl ?_ ?_
  ·conv => arg 3; whnf
   exact Zf rfl
  ·conv => arg 3; whnf
   exact Zd (ih _)
 ·conv => arg 3; whnf
  exact Zf rfl
def Zbw (t0 : Bool) (t1 : Bool) (t2 : Bool) (t3 : Bool) (b : Int) (m1_0 : Int) (m1_1 : Int) (m1_2 : (List ZH)) (m1_3 : (List ZJ)) (m1_4 : (List Zr)) (m1_5 : (List Zn)) : (Int × (List Int)) → Ex × List V × Zm
  | r => (.exit 4, [(.sl 0 1), (.d (Zb b)), (.d (Zb r.1))], [(.arr 1 (List.map Zb r.2)), (.cells [(.d (Zb m1_0)), (.d (Zb m1_1)), (.d (D.list t0 (List.map ZV m1_2))), (.d (D.list t1 (List.map ZS m1_3))), (.d (D.list t2 (List.map Zu m1_4))), (.d (D.list t3 (List.map Zs m1_5)))])])
theorem Zda {t0 : Bool} {t1 : Bool} {t2 : Bool} {t3 : Bool} {b : Int} {m1_0 : Int} {m1_1 : Int} {m1_2 : (List ZH)} {m1_3 : (List ZJ)} {m1_4 : (List Zr)} {m1_5 : (List Zn)} : ∀ (s19 : Int × Int × (List Int)) (r : (Int × (List Int))), lp (ZaI b (fun z0 z1 => Zq z0 z1 m1_4)) s19 = some r → lpW ctx 2 [0, 1, 4, 12, 13] [0, 1, 13] Zrl [(.sl 0 1), (.d (Zb b)), (.fn 118 [(.ptr 1 0)]), (.d (Zb s19.1)), (.d (Zb s19.2.1))] [(.arr 1 (List.map Zb s19.2.2)), (.cells [(.d (Zb m1_0)), (.d (Zb m1_1)), (.d (D.list t0 (List.map ZV m1_2))), (.d (D.list t1 (List.map ZS m1_3))), (.d (D.list t2 (List.map Zu m1_4))), (.d (D.list t3 (List.map Zs m1_5)))])] = some ((Zbw t0 t1 t2 t3 b m1_0 m1_1 m1_2 m1_3 m1_4 m1_5) r) := by
 refine ZaY (Zbw t0 t1 t2 t3 b m1_0 m1_1 m1_2 m1_3 m1_4 m1_5) ?_
 intro s19 rcl ih
 show ZP _ _ (lpW _ _ _ _ _ _ _)
 unfold ZaI
 rw [ZaW]
 conv => arg 3; whnf
 refine Zc _ (Zdb _) fun r24 hr24 => ?_
 conv => arg 3; whnf
 refine Zc _ (Zc8 _) fun r29 hr29 => ?_
 conv => arg 3; whnf
 refine Ze rfl ?_ ?_
 ·conv => arg 3; whnf
  exact Zf rfl
 ·conv => arg 3; whnf
  refine Zl rfl rfl fun x30 hx30 => ?_
  conv => arg 3; whnf
  refine Zg (Zv rfl hx30) ?_
  conv => arg 3; whnf
  refine Zl rfl rfl fun x31 hx31 => ?_
  conv => arg 3; whnf
  refine Zg (Zv rfl hx31) ?_
  conv => arg 3; whnf
  refine Zg (Zbc rfl hx31) ?_
  conv => arg 3; whnf
  refine Zg (Zv rfl hx31) ?_
  conv => arg 3; whnf
  refine Zo (Zat Zb s19.2.2 r24.toNat x30) ?_
  conv => arg 3; whnf
  refine Zl rfl rfl fun x32 hx32 => ?_
  conv => arg 3; whnf
  refine Zg (Zv rfl hx32) ?_
  conv => arg 3; whnf
  refine Zo (Zat Zb (List.set s19.2.2 r24.toNat x30) r29.toNat x31) ?_
  conv => arg 3; whnf
  exact Zd (ih _)
theorem Zh {t0 : Bool} {t1 : Bool} {t2 : Bool} {t3 : Bool} {b : Int} {c : Int} {d : Int} {m0_0 : (List Int)} {m1_0 : Int} {m1_1 : Int} {m1_2 : (List ZH)} {m1_3 : (List ZJ)} {m1_4 : (List Zr)} {m1_5 : (List Zn)} : ∀ r, (Zp b c d (fun z0 z1 => Zq z0 z1 m1_4) m0_0) = some r → evW ctx 133 [(.sl 0 1), (.d (Zb b)), (.d (Zb c)), (.d (Zb d)), (.fn 118 [(.ptr 1 0)])] [(.arr 1 (List.map Zb m0_0)), (.cells [(.d (Zb m1_0)), (.d (Zb m1_1)), (.d (D.list t0 (List.map ZV m1_2))), (.d (D.list t1 (List.map ZS m1_3))), (.d (D.list t2 (List.map Zu m1_4))), (.d (D.list t3 (List.map Zs m1_5)))])] = some ((ZbP t0 t1 t2 t3 b c d m0_0 m1_0 m1_1 m1_2 m1_3 m1_4 m1_5) r) := by
 show ZP _ (fun r rhs => rhs = some ((ZbP t0 t1 t2 t3 b c d m0_0 m1_0 m1_1 m1_2 m1_3 m1_4 m1_5) r)) _
 unfold Zp
 rw [Zfm ctx 133 Ztp _ _ rfl rfl]
 conv => arg 3; whnf
 refine Zl rfl rfl fun x0 hx0 => ?_
 conv => arg 3; whnf
 refine Zg (Zv rfl hx0) ?_
 conv => arg 3; whnf
 refine Zl rfl rfl fun x1 hx1 => ?_
 conv => arg 3; whnf
 refine Zg (Zv rfl hx1) ?_
 conv => arg 3; whnf
 refine Zg (Zbc rfl hx1) ?_
 conv => arg 3; whnf
 refine Zg (Zv rfl hx1) ?_
 conv => arg 3; whnf
 refine Zo (Zat Zb m0_0 b.toNat x0) ?_
 conv => arg 3; whnf
 refine Zl rfl rfl fun x2 hx2 => ?_
 conv => arg 3; whnf
 refine Zg (Zv rfl hx2) ?_
 conv => arg 3; whnf
 refine Zo (Zat Zb (List.set m0_0 b.toNat x0) d.toNat x1) ?_
 conv => arg 3; whnf
 refine Zc _ (Zdd _) fun r7 hr7 => ?_
 conv => arg 3; whnf
 refine Zc _ (Zc9 _) fun r12 hr12 => ?_
 conv => arg 3; whnf
 refine Ze rfl ?_ ?_
 ·conv => arg 3; whnf
  refine Zl rfl rfl fun x13 hx13 => ?_
  conv => arg 3; whnf
  refine Zg (Zv rfl hx13) ?_
  conv => arg 3; whnf
  refine Zl rfl rfl fun x14 hx14 => ?_
  conv => arg 3; whnf
  refine Zg (Zv rfl hx14) ?_
  conv => arg 3; whnf
  refine Zg (Zbc rfl hx14) ?_
  conv => arg 3; whnf
  refine Zg (Zv rfl hx14) ?_
  conv => arg 3; whnf
  refine Zo (Zat Zb (List.set (List.set m0_0 b.toNat x0) d.toNat x1) r12.toNat x13) ?_
  conv => arg 3; whnf
  refine Zl rfl rfl fun x15 hx15 => ?_
  conv => arg 3; whnf
  refine Zg (Zv rfl hx15) ?_
  conv => arg 3; whnf
  refine Zo (Zat Zb (List.set (List.set (List.set m0_0 b.toNat x0) d.toNat x1) r12.toNat x13) b.toNat x14) ?_
  conv => arg 3; whnf
  exact Zf rfl
 ·conv => arg 3; whnf
  refine Zl rfl rfl fun x16 hx16 => ?_
  conv => arg 3; whnf
  refine Zg (Zv rfl hx16) ?_
  conv => arg 3; whnf
  refine Zl rfl rfl fun x17 hx17 => ?_
  conv => arg 3; whnf
  refine Zg (Zv rfl hx17) ?_
  conv => arg 3; whnf
  refine Zg (Zbc rfl hx17) ?_
  conv => arg 3; whnf
  refine Zg (Zv rfl hx17) ?_
  conv => arg 3; whnf
  refine Zo (Zat Zb (List.set (List.set m0_0 b.toNat x0) d.toNat x1) r7.toNat x16) ?_
  conv => arg 3; whnf
  refine Zl rfl rfl fun x18 hx18 => ?_
  conv => arg 3; whnf
  refine Zg (Zv rfl hx18) ?_
  conv => arg 3; whnf
  refine Zo (Zat Zb (List.set (List.set (List.set m0_0 b.toNat x0) d.toNat x1) r7.toNat x16) r12.toNat x17) ?_
  conv => arg 3; whnf
  refine Zc _ (Zda _) fun r33 hr33 => ?_
  conv => arg 3; whnf
  refine Zl rfl rfl fun x34 hx34 => ?_
  conv => arg 3; whnf
  refine Zg (Zv rfl hx34) ?_
  conv => arg 3; whnf
  refine Zl rfl rfl fun x35 hx35 => ?_
  conv => arg 3; whnf
  refine Zg (Zv rfl hx35) ?_
  conv => arg 3; whnf
  refine Zg (Zbc rfl hx35) ?_
  conv => arg 3; whnf
  refine Zg (Zv rfl hx35) ?_
  conv => arg 3; whnf
  refine Zo (Zat Zb r33.2 r33.1.toNat x34) ?_
  conv => arg 3; whnf
  refine Zl rfl rfl fun x36 hx36 => ?_
  conv => arg 3; whnf
  refine Zg (Zv rfl hx36) ?_
  conv => arg 3; whnf
  refine Zo (Zat Zb (List.set r33.2 r33.1.toNat x34) b.toNat x35) ?_
  conv => arg 3; whnf
  exact Zf rfl
def Zbm (t0 : Bool) (t1 : Bool) (t2 : Bool) (t3 : Bool) (b : Int) (c : Int) (d : Int) (m0_0 : (List Int)) (m1_0 : Int) (m1_1 : Int) (m1_2 : (List ZH)) (m1_3 : (List ZJ)) (m1_4 : (List Zr)) (m1_5 : (List Zn)) : (Int × (List Int)) → V × Zm
  | r => ((.d (Zb r.1)), [(.arr 1 (List.map Zb r.2)), (.cells [(.d (Zb m1_0)), (.d (Zb m1_1)), (.d (D.list t0 (List.map ZV m1_2))), (.d (D.list t1 (List.map ZS m1_3))), (.d (D.list t2 (List.map Zu m1_4))), (.d (D.list t3 (List.map Zs m1_5)))])])
def Za7 (t0 : Bool) (t1 : Bool) (t2 : Bool) (t3 : Bool) (b : Int) (m1_0 : Int) (m1_1 : Int) (m1_2 : (List ZH)) (m1_3 : (List ZJ)) (m1_4 : (List Zr)) (m1_5 : (List Zn)) (s3 : Int × Int × (List Int)) : Int → Ex × List V × Zm
  | r => (.exit 2, [(.sl 0 1), (.d (Zb b)), (.fn 118 [(.ptr 1 0)]), (.d (Zb r)), (.d (Zb s3.2.1))], [(.arr 1 (List.map Zb s3.2.2)), (.cells [(.d (Zb m1_0)), (.d (Zb m1_1)), (.d (D.list t0 (List.map ZV m1_2))), (.d (D.list t1 (List.map ZS m1_3))), (.d (D.list t2 (List.map Zu m1_4))), (.d (D.list t3 (List.map Zs m1_5)))])])
theorem ZcC {t0 : Bool} {t1 : Bool} {t2 : Bool} {t3 : Bool} {b : Int} {m1_0 : Int} {m1_1 : Int} {m1_2 : (List ZH)} {m1_3 : (List ZJ)} {m1_4 : (List Zr)} {m1_5 : (List Zn)} {s3 : Int × Int × (List Int)} : ∀ (s4 : Int) (r : Int), lp (Z6 b (fun z0 z1 => Zq z0 z1 m1_4) s3) s4 = some r → lpW ctx 2 [0, 1, 4, 11, 12] [0, 1, 4, 11, 12] Zq5 [(.sl 0 1), (.d (Zb b)), (.fn 118 [(.ptr 1 0)]), (.d (Zb s4)), (.d (Zb s3.2.1))] [(.arr 1 (List.map Zb s3.2.2)), (.cells [(.d (Zb m1_0)), (.d (Zb m1_1)), (.d (D.list t0 (List.map ZV m1_2))), (.d (D.list t1 (List.map ZS m1_3))), (.d (D.list t2 (List.map Zu m1_4))), (.d (D.list t3 (List.map Zs m1_5)))])] = some ((Za7 t0 t1 t2 t3 b m1_0 m1_1 m1_2 m1_3 m1_4 m1_5 s3) r) := by
 refine ZaY (Za7 t0 t1 t2 t3 b m1_0 m1_1 m1_2 m1_3 m1_4 m1_5 s3) ?_
 intro s4 rcl ih
 show ZP _ _ (lpW _ _ _ _ _ _ _)
 unfold Z6
 rw [ZaW]
 conv => arg 3; whnf
 refine Ze rfl ?_ ?_
 ·conv => arg 3; whnf
  refine Zl rfl rfl fun x5 hx5 => ?_
  conv => arg 3; whnf
  refine Zg (Zv rfl hx5) ?_
  conv => arg 3; whnf
  refine Zl rfl rfl fun x6 hx6 => ?_
  conv => arg 3; whnf
  refine Zg (Zv rfl hx6) ?_
  conv => arg 3; whnf
  refine Zk _ Zz rfl fun x7 hx7 => ?_
  conv => arg 3; whnf
  refine Ze rfl ?_ ?_
  ·conv => arg 3; whnf
   exact Zf rfl
  ·conv => arg 3; whnf
   exact Zd (ih _)
 ·conv => arg 3; whnf
  exact Zf rfl
def Za8 (t0 : Bool) (t1 : Bool) (t2 : Bool) (t3 : Bool) (b : Int) (m1_0 : Int) (m1_1 : Int) (m1_2 : (List ZH)) (m1_3 : (List ZJ)) (m1_4 : (List Zr)) (m1_5 : (List Zn)) (s3 : Int × Int × (List Int)) (r8 : Int) : Int → Ex × List V × Zm
  | r => (.exit 4, [(.sl 0 1), (.d (Zb b)), (.fn 118 [(.ptr 1 0)]), (.d (Zb r8)), (.d (Zb r))], [(.arr 1 (List.map Zb s3.2.2)), (.cells [(.d (Zb m1_0)), (.d (Zb m1_1)), (.d (D.list t0 (List.map ZV m1_2))), (.d (D.list t1 (List.map ZS m1_3))), (.d (D.list t2 (List.map Zu m1_4))), (.d (D.list t3 (List.map Zs m1_5)))])])
theorem ZcB {t0 : Bool} {t1 : Bool} {t2 : Bool} {t3 : Bool} {b : Int} {m1_0 : Int} {m1_1 : Int} {m1_2 : (List ZH)} {m1_3 : (List ZJ)} {m1_4 : (List Zr)} {m1_5 : (List Zn)} {s3 : Int × Int × (List Int)} {r8 : Int} : ∀ (s9 : Int) (r : Int), lp (Z8 b (fun z0 z1 => Zq z0 z1 m1_4) s3 r8) s9 = some r → lpW ctx 2 [0, 1, 4, 11, 12] [0, 1, 4, 11, 12] Zrf [(.sl 0 1), (.d (Zb b)), (.fn 118 [(.ptr 1 0)]), (.d (Zb r8)), (.d (Zb s9))] [(.arr 1 (List.map Zb s3.2.2)), (.cells [(.d (Zb m1_0)), (.d (Zb m1_1)), (.d (D.list t0 (List.map ZV m1_2))), (.d (D.list t1 (List.map ZS m1_3))), (.d (D.list t2 (List.map Zu m1_4))), (.d (D.list t3 (List.map Zs m1_5)))])] = some ((Za8 t0 t1 t2 t3 b m1_0 m1_1 m1_2 m1_3 m1_4 m1_5 s3 r8) r) := by
 refine ZaY (Za8 t0 t1 t2 t3 b m1_0 m1_1 m1_2 m1_3 m1_4 m1_5 s3 r8) ?_
 intro s9 rcl ih
 show ZP _ _ (lpW _ _ _ _ _ _ _)
 unfold Z8
 rw [ZaW]
 conv => arg 3; whnf
 refine Ze rfl ?_ ?_
 ·conv => arg 3; whnf
  refine Zl rfl rfl fun x10 hx10 => ?_
  conv => arg 3; whnf
  refine Zg (Zv rfl hx10) ?_
  conv => arg 3; whnf
  refine Zl rfl rfl fun x11 hx11 => ?_
  conv => arg 3; whnf
  refine Zg (Zv rfl hx11) ?_
  conv => arg 3; whnf
  refine Zk _ Zz rfl fun x12 hx12 => ?_
  conv => arg 3; whnf
  refine Ze rfl ?_ ?_
  ·conv => arg 3; whnf
   exact Zd (ih _)
  ·conv => arg 3; whnf
   exact Zf rfl
 ·conv => arg 3; whnf
  exact Zf rfl
def Za9 (t0 : Bool) (t1 : Bool) (t2 : Bool) (t3 : Bool) (b : Int) (m1_0 : Int) (m1_1 : Int) (m1_2 : (List ZH)) (m1_3 : (List ZJ)) (m1_4 : (List Zr)) (m1_5 : (List Zn)) : (Int × (List Int)) → Ex × List V × Zm
  | r => (.exit 0, [(.d (Zb r.1))], [(.arr 1 (List.map Zb r.2)), (.cells [(.d (Zb m1_0)), (.d (Zb m1_1)), (.d (D.list t0 (List.map ZV m1_2))), (.d (D.list t1 (List.map ZS m1_3))), (.d (D.list t2 (List.map Zu m1_4))), (.d (D.list t3 (List.map Zs m1_5)))])])
theorem ZcD {t0 : Bool} {t1 : Bool} {t2 : Bool} {t3 : Bool} {b : Int} {m1_0 : Int} {m1_1 : Int} {m1_2 : (List ZH)} {m1_3 : (List ZJ)} {m1_4 : (List Zr)} {m1_5 : (List Zn)} : ∀ (s3 : Int × Int × (List Int)) (r : (Int × (List Int))), lp (Zap b (fun z0 z1 => Zq z0 z1 m1_4)) s3 = some r → lpW ctx 2 [0, 1, 4, 11, 12] [11] Zrt [(.sl 0 1), (.d (Zb b)), (.fn 118 [(.ptr 1 0)]), (.d (Zb s3.1)), (.d (Zb s3.2.1))] [(.arr 1 (List.map Zb s3.2.2)), (.cells [(.d (Zb m1_0)), (.d (Zb m1_1)), (.d (D.list t0 (List.map ZV m1_2))), (.d (D.list t1 (List.map ZS m1_3))), (.d (D.list t2 (List.map Zu m1_4))), (.d (D.list t3 (List.map Zs m1_5)))])] = some ((Za9 t0 t1 t2 t3 b m1_0 m1_1 m1_2 m1_3 m1_4 m1_5) r) := by
 refine ZaY (Za9 t0 t1 t2 t3 b m1_0 m1_1 m1_2 m1_3 m1_4 m1_5) ?_
 intro s3 rcl ih
 show ZP _ _ (lpW _ _ _ _ _ _ _)
 unfold Zap
 rw [ZaW]
 conv => arg 3; whnf
 refine Zc _ (ZcC _) fun r8 hr8 => ?_
 conv => arg 3; whnf
 refine Zc _ (ZcB _) fun r13 hr13 => ?_
 conv => arg 3; whnf
 refine Ze rfl ?_ ?_
 ·conv => arg 3; whnf
  exact Zf rfl
 ·conv => arg 3; whnf
  refine Zl rfl rfl fun x14 hx14 => ?_
  conv => arg 3; whnf
  refine Zg (Zv rfl hx14) ?_
  conv => arg 3; whnf
  refine Zl rfl rfl fun x15 hx15 => ?_
  conv => arg 3; whnf
  refine Zg (Zv rfl hx15) ?_
  conv => arg 3; whnf
  refine Zg (Zbc rfl hx15) ?_
  conv => arg 3; whnf
  refine Zg (Zv rfl hx15) ?_
  conv => arg 3; whnf
  refine Zo (Zat Zb s3.2.2 r8.toNat x14) ?_
  conv => arg 3; whnf
  refine Zl rfl rfl fun x16 hx16 => ?_
  conv => arg 3; whnf
  refine Zg (Zv rfl hx16) ?_
  conv => arg 3; whnf
  refine Zo (Zat Zb (List.set s3.2.2 r8.toNat x14) r13.toNat x15) ?_
  conv => arg 3; whnf
  exact Zd (ih _)
theorem Zw {t0 : Bool} {t1 : Bool} {t2 : Bool} {t3 : Bool} {b : Int} {c : Int} {d : Int} {m0_0 : (List Int)} {m1_0 : Int} {m1_1 : Int} {m1_2 : (List ZH)} {m1_3 : (List ZJ)} {m1_4 : (List Zr)} {m1_5 : (List Zn)} : ∀ r, (Zx b c d (fun z0 z1 => Zq z0 z1 m1_4) m0_0) = some r → evW ctx 132 [(.sl 0 1), (.d (Zb b)), (.d (Zb c)), (.d (Zb d)), (.fn 118 [(.ptr 1 0)])] [(.arr 1 (List.map Zb m0_0)), (.cells [(.d (Zb m1_0)), (.d (Zb m1_1)), (.d (D.list t0 (List.map ZV m1_2))), (.d (D.list t1 (List.map ZS m1_3))), (.d (D.list t2 (List.map Zu m1_4))), (.d (D.list t3 (List.map Zs m1_5)))])] = some ((Zbm t0 t1 t2 t3 b c d m0_0 m1_0 m1_1 m1_2 m1_3 m1_4 m1_5) r) := by
 show ZP _ (fun r rhs => rhs = some ((Zbm t0 t1 t2 t3 b c d m0_0 m1_0 m1_1 m1_2 m1_3 m1_4 m1_5) r)) _
 unfold Zx
 rw [Zfm ctx 132 Ztx _ _ rfl rfl]
 conv => arg 3; whnf
 refine Zl rfl rfl fun x0 hx0 => ?_
 conv => arg 3; whnf
 refine Zg (Zv rfl hx0) ?_
 conv => arg 3; whnf
 refine Zl rfl rfl fun x1 hx1 => ?_
 conv => arg 3; whnf
 refine Zg (Zv rfl hx1) ?_
 conv => arg 3; whnf
 refine Zg (Zbc rfl hx1) ?_
 conv => arg 3; whnf
 refine Zg (Zv rfl hx1) ?_
 conv => arg 3; whnf
 refine Zo (Zat Zb m0_0 b.toNat x0) ?_
 conv => arg 3; whnf
 refine Zl rfl rfl fun x2 hx2 => ?_
 conv => arg 3; whnf
 refine Zg (Zv rfl hx2) ?_
 conv => arg 3; whnf
 refine Zo (Zat Zb (List.set m0_0 b.toNat x0) d.toNat x1) ?_
 conv => arg 3; whnf
 refine Zc _ (ZcD _) fun r17 hr17 => ?_
 conv => arg 3; whnf
 exact Zf rfl
def ZeK (r : Int) : D := (D.int .u64 r)
theorem ZgI {a : Int} : ∀ r, (Zb4 a) = some r → evD ctx 137 [(.d (Zb a))] = some (ZeK r) := by
 show ZP _ (fun r rhs => rhs = some (ZeK r)) _
 unfold Zb4
 rw [Za1 ctx 137 Zt6 _ rfl rfl]
 conv => arg 3; whnf
 refine Zk _ ZgK rfl fun x0 hx0 => ?_
 conv => arg 3; whnf
 refine Ze rfl ?_ ?_
 ·exact Z9
 ·conv => arg 3; whnf
  exact Zf rfl
def ZeU (m0_0 : Int) : Unit → V × Zm
  | r => ((.d (D.int .u64 (IntKind.u64.wrap (BitVec.ofInt IntKind.u64.bits (IntKind.u64.wrap (BitVec.ofInt IntKind.u64.bits (IntKind.u64.wrap (BitVec.ofInt IntKind.u64.bits m0_0 ^^^ BitVec.ofInt IntKind.u64.bits (IntKind.u64.wrap (m0_0 * 2 ^ 13))).toNat) ^^^ BitVec.ofInt IntKind.u64.bits (Int.fdiv (IntKind.u64.wrap (BitVec.ofInt IntKind.u64.bits m0_0 ^^^ BitVec.ofInt IntKind.u64.bits (IntKind.u64.wrap (m0_0 * 2 ^ 13))).toNat) (2 ^ 7))).toNat) ^^^ BitVec.ofInt IntKind.u64.bits (IntKind.u64.wrap ((IntKind.u64.wrap (BitVec.ofInt IntKind.u64.bits (IntKind.u64.wrap (BitVec.ofInt IntKind.u64.bits m0_0 ^^^ BitVec.ofInt IntKind.u64.bits (IntKind.u64.wrap (m0_0 * 2 ^ 13))).toNat) ^^^ BitVec.ofInt IntKind.u64.bits (Int.fdiv (IntKind.u64.wrap (BitVec.ofInt IntKind.u64.bits m0_0 ^^^ BitVec.ofInt IntKind.u64.bits (IntKind.u64.wrap (m0_0 * 2 ^ 13))).toNat) (2 ^ 7))).toNat) * 2 ^ 17))).toNat))), [(.cells [(.d (D.int .u64 (IntKind.u64.wrap (BitVec.ofInt IntKind.u64.bits (IntKind.u64.wrap (BitVec.ofInt IntKind.u64.bits (IntKind.u64.wrap (BitVec.ofInt IntKind.u64.bits m0_0 ^^^ BitVec.ofInt IntKind.u64.bits (IntKind.u64.wrap (m0_0 * 2 ^ 13))).toNat) ^^^ BitVec.ofInt IntKind.u64.bits (Int.fdiv (IntKind.u64.wrap (BitVec.ofInt IntKind.u64.bits m0_0 ^^^ BitVec.ofInt IntKind.u64.bits (IntKind.u64.wrap (m0_0 * 2 ^ 13))).toNat) (2 ^ 7))).toNat) ^^^ BitVec.ofInt IntKind.u64.bits (IntKind.u64.wrap ((IntKind.u64.wrap (BitVec.ofInt IntKind.u64.bits (IntKind.u64.wrap (BitVec.ofInt IntKind.u64.bits m0_0 ^^^ BitVec.ofInt IntKind.u64.bits (IntKind.u64.wrap (m0_0 * 2 ^ 13))).toNat) ^^^ BitVec.ofInt IntKind.u64.bits (Int.fdiv (IntKind.u64.wrap (BitVec.ofInt IntKind.u64.bits m0_0 ^^^ BitVec.ofInt IntKind.u64.bits (IntKind.u64.wrap (m0_0 * 2 ^ 13))).toNat) (2 ^ 7))).toNat) * 2 ^ 17))).toNat)))])])
theorem ZgN {m0_0 : Int} : ∀ r, Zc4 = some r → evW ctx 138 [(.ptr 0 0)] [(.cells [(.d (D.int .u64 m0_0))])] = some ((ZeU m0_0) r) := by
 show ZP _ (fun r rhs => rhs = some ((ZeU m0_0) r)) _
 unfold Zc4
 rw [Zfm ctx 138 Ztl _ _ rfl rfl]
 conv => arg 3; whnf
 refine Zae rfl ?_
 conv => arg 3; whnf
 refine Zae rfl ?_
 conv => arg 3; whnf
 refine Zae rfl ?_
 conv => arg 3; whnf
 exact Zf rfl
def Zbu (t0 : Bool) (t1 : Bool) (t2 : Bool) (t3 : Bool) (b : Int) (c : Int) (m0_0 : (List Int)) (m1_0 : Int) (m1_1 : Int) (m1_2 : (List ZH)) (m1_3 : (List ZJ)) (m1_4 : (List Zr)) (m1_5 : (List Zn)) : (List Int) → V × Zm
  | r => ((.d (D.tup [])), [(.arr 1 (List.map Zb r)), (.cells [(.d (Zb m1_0)), (.d (Zb m1_1)), (.d (D.list t0 (List.map ZV m1_2))), (.d (D.list t1 (List.map ZS m1_3))), (.d (D.list t2 (List.map Zu m1_4))), (.d (D.list t3 (List.map Zs m1_5)))])])
def Zbb (t0 : Bool) (t1 : Bool) (t2 : Bool) (t3 : Bool) (b : Int) (c : Int) (m1_0 : Int) (m1_1 : Int) (m1_2 : (List ZH)) (m1_3 : (List ZJ)) (m1_4 : (List Zr)) (m1_5 : (List Zn)) (x0 : Int) : (List Int) → Ex × List V × Zm
  | r => (.exit 0, [], [(.arr 1 (List.map Zb r)), (.cells [(.d (Zb m1_0)), (.d (Zb m1_1)), (.d (D.list t0 (List.map ZV m1_2))), (.d (D.list t1 (List.map ZS m1_3))), (.d (D.list t2 (List.map Zu m1_4))), (.d (D.list t3 (List.map Zs m1_5)))])])
theorem ZcE {t0 : Bool} {t1 : Bool} {t2 : Bool} {t3 : Bool} {b : Int} {c : Int} {m1_0 : Int} {m1_1 : Int} {m1_2 : (List ZH)} {m1_3 : (List ZJ)} {m1_4 : (List Zr)} {m1_5 : (List Zn)} {x0 : Int} : ∀ (s1 : Int × (List Int) × Int) (r : (List Int)), lp (Zav b c x0) s1 = some r → lpW ctx 2 [0, 1, 8, 9, 10, 11] [] ZqV [(.sl 0 1), (.d (Zb b)), (.d (Zb (w64 (c - b)))), (.ptr 2 0), (.d (D.int .u64 x0)), (.d (Zb s1.1))] [(.arr 1 (List.map Zb s1.2.1)), (.cells [(.d (Zb m1_0)), (.d (Zb m1_1)), (.d (D.list t0 (List.map ZV m1_2))), (.d (D.list t1 (List.map ZS m1_3))), (.d (D.list t2 (List.map Zu m1_4))), (.d (D.list t3 (List.map Zs m1_5)))]), (.cells [(.d (D.int .u64 s1.2.2))])] = some ((Zbb t0 t1 t2 t3 b c m1_0 m1_1 m1_2 m1_3 m1_4 m1_5 x0) r) := by
 refine ZaY (Zbb t0 t1 t2 t3 b c m1_0 m1_1 m1_2 m1_3 m1_4 m1_5 x0) ?_
 intro s1 rcl ih
 show ZP _ _ (lpW _ _ _ _ _ _ _)
 unfold Zav
 rw [ZaW]
 conv => arg 3; whnf
 refine Zae rfl ?_
 conv => arg 3; whnf
 refine Ze rfl ?_ ?_
 ·conv => arg 3; whnf
  refine Zc _ ZgN fun x2 hx2 => ?_
  conv => arg 3; whnf
  refine Ze rfl ?_ ?_
  ·conv => arg 3; whnf
   refine Zl rfl rfl fun x3 hx3 => ?_
   conv => arg 3; whnf
   refine Zg (Zv rfl hx3) ?_
   conv => arg 3; whnf
   refine Zl rfl rfl fun x4 hx4 => ?_
   conv => arg 3; whnf
   refine Zg (Zv rfl hx4) ?_
   conv => arg 3; whnf
   refine Zg (Zbc rfl hx4) ?_
   conv => arg 3; whnf
   refine Zg (Zv rfl hx4) ?_
   conv => arg 3; whnf
   refine Zo (Zat Zb s1.2.1 s1.1.toNat x3) ?_
   conv => arg 3; whnf
   refine Zl rfl rfl fun x5 hx5 => ?_
   conv => arg 3; whnf
   refine Zg (Zv rfl hx5) ?_
   conv => arg 3; whnf
   refine Zo (Zat Zb (List.set s1.2.1 s1.1.toNat x3) (w64 (b + (w64 ((w64 (IntKind.u64.wrap (BitVec.ofInt IntKind.u64.bits (IntKind.u64.wrap (BitVec.ofInt IntKind.u64.bits (IntKind.u64.wrap (BitVec.ofInt IntKind.u64.bits (IntKind.u64.wrap (BitVec.ofInt IntKind.u64.bits s1.2.2 ^^^ BitVec.ofInt IntKind.u64.bits (IntKind.u64.wrap (s1.2.2 * 2 ^ 13))).toNat) ^^^ BitVec.ofInt IntKind.u64.bits (Int.fdiv (IntKind.u64.wrap (BitVec.ofInt IntKind.u64.bits s1.2.2 ^^^ BitVec.ofInt IntKind.u64.bits (IntKind.u64.wrap (s1.2.2 * 2 ^ 13))).toNat) (2 ^ 7))).toNat) ^^^ BitVec.ofInt IntKind.u64.bits (IntKind.u64.wrap ((IntKind.u64.wrap (BitVec.ofInt IntKind.u64.bits (IntKind.u64.wrap (BitVec.ofInt IntKind.u64.bits s1.2.2 ^^^ BitVec.ofInt IntKind.u64.bits (IntKind.u64.wrap (s1.2.2 * 2 ^ 13))).toNat) ^^^ BitVec.ofInt IntKind.u64.bits (Int.fdiv (IntKind.u64.wrap (BitVec.ofInt IntKind.u64.bits s1.2.2 ^^^ BitVec.ofInt IntKind.u64.bits (IntKind.u64.wrap (s1.2.2 * 2 ^ 13))).toNat) (2 ^ 7))).toNat) * 2 ^ 17))).toNat) &&& BitVec.ofInt IntKind.u64.bits (IntKind.u64.wrap (x0 - 1))).toNat)) - (w64 (c - b)))))).toNat x4) ?_
   conv => arg 3; whnf
   exact Zd (ih _)
  ·conv => arg 3; whnf
   refine Zl rfl rfl fun x6 hx6 => ?_
   conv => arg 3; whnf
   refine Zg (Zv rfl hx6) ?_
   conv => arg 3; whnf
   refine Zl rfl rfl fun x7 hx7 => ?_
   conv => arg 3; whnf
   refine Zg (Zv rfl hx7) ?_
   conv => arg 3; whnf
   refine Zg (Zbc rfl hx7) ?_
   conv => arg 3; whnf
   refine Zg (Zv rfl hx7) ?_
   conv => arg 3; whnf
   refine Zo (Zat Zb s1.2.1 s1.1.toNat x6) ?_
   conv => arg 3; whnf
   refine Zl rfl rfl fun x8 hx8 => ?_
   conv => arg 3; whnf
   refine Zg (Zv rfl hx8) ?_
   conv => arg 3; whnf
   refine Zo (Zat Zb (List.set s1.2.1 s1.1.toNat x6) (w64 (b + (w64 (IntKind.u64.wrap (BitVec.ofInt IntKind.u64.bits (IntKind.u64.wrap (BitVec.ofInt IntKind.u64.bits (IntKind.u64.wrap (BitVec.ofInt IntKind.u64.bits (IntKind.u64.wrap (BitVec.ofInt IntKind.u64.bits s1.2.2 ^^^ BitVec.ofInt IntKind.u64.bits (IntKind.u64.wrap (s1.2.2 * 2 ^ 13))).toNat) ^^^ BitVec.ofInt IntKind.u64.bits (Int.fdiv (IntKind.u64.wrap (BitVec.ofInt IntKind.u64.bits s1.2.2 ^^^ BitVec.ofInt IntKind.u64.bits (IntKind.u64.wrap (s1.2.2 * 2 ^ 13))).toNat) (2 ^ 7))).toNat) ^^^ BitVec.ofInt IntKind.u64.bits (IntKind.u64.wrap ((IntKind.u64.wrap (BitVec.ofInt IntKind.u64.bits (IntKind.u64.wrap (BitVec.ofInt IntKind.u64.bits s1.2.2 ^^^ BitVec.ofInt IntKind.u64.bits (IntKind.u64.wrap (s1.2.2 * 2 ^ 13))).toNat) ^^^ BitVec.ofInt IntKind.u64.bits (Int.fdiv (IntKind.u64.wrap (BitVec.ofInt IntKind.u64.bits s1.2.2 ^^^ BitVec.ofInt IntKind.u64.bits (IntKind.u64.wrap (s1.2.2 * 2 ^ 13))).toNat) (2 ^ 7))).toNat) * 2 ^ 17))).toNat) &&& BitVec.ofInt IntKind.u64.bits (IntKind.u64.wrap (x0 - 1))).toNat)))).toNat x7) ?_
   conv => arg 3; whnf
   exact Zd (ih _)
 ·conv => arg 3; whnf
  exact Zf rfl
theorem Zbn {t0 : Bool} {t1 : Bool} {t2 : Bool} {t3 : Bool} {b : Int} {c : Int} {m0_0 : (List Int)} {m1_0 : Int} {m1_1 : Int} {m1_2 : (List ZH)} {m1_3 : (List ZJ)} {m1_4 : (List Zr)} {m1_5 : (List Zn)} : ∀ r, (Z4 b c (fun z0 z1 => Zq z0 z1 m1_4) m0_0) = some r → evW ctx 128 [(.sl 0 1), (.d (Zb b)), (.d (Zb c)), (.fn 118 [(.ptr 1 0)])] [(.arr 1 (List.map Zb m0_0)), (.cells [(.d (Zb m1_0)), (.d (Zb m1_1)), (.d (D.list t0 (List.map ZV m1_2))), (.d (D.list t1 (List.map ZS m1_3))), (.d (D.list t2 (List.map Zu m1_4))), (.d (D.list t3 (List.map Zs m1_5)))])] = some ((Zbu t0 t1 t2 t3 b c m0_0 m1_0 m1_1 m1_2 m1_3 m1_4 m1_5) r) := by
 show ZP _ (fun r rhs => rhs = some ((Zbu t0 t1 t2 t3 b c m0_0 m1_0 m1_1 m1_2 m1_3 m1_4 m1_5) r)) _
 unfold Z4
 rw [Zfm ctx 128 ZsE _ _ rfl rfl]
 conv => arg 3; whnf
 refine Ze rfl ?_ ?_
 ·conv => arg 3; whnf
  refine Zk _ ZgI rfl fun x0 hx0 => ?_
  conv => arg 3; whnf
  refine Zae rfl ?_
  conv => arg 3; whnf
  refine Zc _ (ZcE _) fun r9 hr9 => ?_
  conv => arg 3; whnf
  exact Zf rfl
 ·conv => arg 3; whnf
  exact Zf rfl
end Go.Proofs.YtnmbdjkbaihicaaDoor
namespace Go.Proofs.YtnmbdjkbaihicaaDoor
open Go Go.Proofs.YtnmbdjkbaihicaaDoorE
set_option linter.unusedVariables false
set_option linter.unusedSimpArgs false
def Za (t0 : Bool) (t1 : Bool) (t2 : Bool) (t3 : Bool) (b : Int) (c : Int) (d : Int) (m0_0 : (List Int)) (m1_0 : Int) (m1_1 : Int) (m1_2 : (List ZH)) (m1_3 : (List ZJ)) (m1_4 : (List Zr)) (m1_5 : (List Zn)) : (List Int) → V × Zm
  | r => ((.d (D.tup [])), [(.arr 1 (List.map Zb r)), (.cells [(.d (Zb m1_0)), (.d (Zb m1_1)), (.d (D.list t0 (List.map ZV m1_2))), (.d (D.list t1 (List.map ZS m1_3))), (.d (D.list t2 (List.map Zu m1_4))), (.d (D.list t3 (List.map Zs m1_5)))])])
def ZbL (t0 : Bool) (t1 : Bool) (t2 : Bool) (t3 : Bool) (m1_0 : Int) (m1_1 : Int) (m1_2 : (List ZH)) (m1_3 : (List ZJ)) (m1_4 : (List Zr)) (m1_5 : (List Zn)) (rc : Int → Int → Int → (Int → Int → Option Int) → (List Int) → Option (List Int)) : (List Int) → Ex × List V × Zm
  | r => (.ret, [], [(.arr 1 (List.map Zb r)), (.cells [(.d (Zb m1_0)), (.d (Zb m1_1)), (.d (D.list t0 (List.map ZV m1_2))), (.d (D.list t1 (List.map ZS m1_3))), (.d (D.list t2 (List.map Zu m1_4))), (.d (D.list t3 (List.map Zs m1_5)))])])
theorem Zdm {t0 : Bool} {t1 : Bool} {t2 : Bool} {t3 : Bool} {m1_0 : Int} {m1_1 : Int} {m1_2 : (List ZH)} {m1_3 : (List ZJ)} {m1_4 : (List Zr)} {m1_5 : (List Zn)} {rc : Int → Int → Int → (Int → Int → Option Int) → (List Int) → Option (List Int)} (hrc : ∀ (t0 : Bool) (t1 : Bool) (t2 : Bool) (t3 : Bool) (b : Int) (c : Int) (d : Int) (m0_0 : (List Int)) (m1_0 : Int) (m1_1 : Int) (m1_2 : (List ZH)) (m1_3 : (List ZJ)) (m1_4 : (List Zr)) (m1_5 : (List Zn)) (r : (List Int)), rc b c d (fun z0 z1 => Zq z0 z1 m1_4) m0_0 = some r → evW ctx 124 [(.sl 0 1), (.d (Zb b)), (.d (Zb c)), (.d (Zb d)), (.fn 118 [(.ptr 1 0)])] [(.arr 1 (List.map Zb m0_0)), (.cells [(.d (Zb m1_0)), (.d (Zb m1_1)), (.d (D.list t0 (List.map ZV m1_2))), (.d (D.list t1 (List.map ZS m1_3))), (.d (D.list t2 (List.map Zu m1_4))), (.d (D.list t3 (List.map Zs m1_5)))])] = some ((Za t0 t1 t2 t3 b c d m0_0 m1_0 m1_1 m1_2 m1_3 m1_4 m1_5) r)) : ∀ (s0 : Int × Int × Int × Bool × Bool × (List Int)) (r : (List Int)), lp (ZK (fun z0 z1 => Zq z0 z1 m1_4) rc) s0 = some r → lpW ctx 2 [0, 1, 2, 3, 4, 10, 11] [] ZqK [(.sl 0 1), (.d (Zb s0.1)), (.d (Zb s0.2.1)), (.d (Zb s0.2.2.1)), (.fn 118 [(.ptr 1 0)]), (.d (D.bool s0.2.2.2.1)), (.d (D.bool s0.2.2.2.2.1))] [(.arr 1 (List.map Zb s0.2.2.2.2.2)), (.cells [(.d (Zb m1_0)), (.d (Zb m1_1)), (.d (D.list t0 (List.map ZV m1_2))), (.d (D.list t1 (List.map ZS m1_3))), (.d (D.list t2 (List.map Zu m1_4))), (.d (D.list t3 (List.map Zs m1_5)))])] = some ((ZbL t0 t1 t2 t3 m1_0 m1_1 m1_2 m1_3 m1_4 m1_5 rc) r) := by
 refine ZaY (ZbL t0 t1 t2 t3 m1_0 m1_1 m1_2 m1_3 m1_4 m1_5 rc) ?_
 intro s0 rcl ih
 show ZP _ _ (lpW _ _ _ _ _ _ _)
 unfold ZK
 rw [ZaW]
 rcases hb : s0.2.2.2.1 with _ | _
 ·refine ZoH ?_
  rcases hb : s0.2.2.2.2.1 with _ | _
  ·refine ZoH ?_
   conv => arg 3; whnf
   refine Ze rfl ?_ ?_
   ·conv => arg 3; whnf
    refine Zc _ Z2 fun x170 hx170 => ?_
    conv => arg 3; whnf
    exact Zf rfl
   ·conv => arg 3; whnf
    refine Ze rfl ?_ ?_
    ·conv => arg 3; whnf
     refine Zc _ Zai fun x171 hx171 => ?_
     conv => arg 3; whnf
     exact Zf rfl
    ·conv => arg 3; whnf
     refine Zc _ Zbn fun x172 hx172 => ?_
     conv => arg 3; whnf
     refine Zc _ Zab fun x173 hx173 => ?_
     conv => arg 3; whnf
     refine Ze rfl ?_ ?_
     ·conv => arg 3; whnf
      refine Zc _ Z7 fun x174 hx174 => ?_
      conv => arg 3; whnf
      refine Ze rfl ?_ ?_
      ·conv => arg 3; whnf
       refine Zl rfl rfl fun x175 hx175 => ?_
       conv => arg 3; whnf
       refine Zg (Zv rfl hx175) ?_
       conv => arg 3; whnf
       refine Zl rfl rfl fun x176 hx176 => ?_
       conv => arg 3; whnf
       refine Zg (Zv rfl hx176) ?_
       conv => arg 3; whnf
       refine Zk _ Zz rfl fun x177 hx177 => ?_
       conv => arg 3; whnf
       refine Ze rfl ?_ ?_
       ·conv => arg 3; whnf
        refine Zc _ Zh fun x178 hx178 => ?_
        clear hx178
        rcases x178 with x178 | x178
        ·conv => arg 3; whnf
         refine ZbZ rfl ?_
         conv => arg 3; whnf
         refine Zae rfl ?_
         conv => arg 3; whnf
         refine Ze rfl ?_ ?_
         ·conv => arg 3; whnf
          refine Ze rfl ?_ ?_
          ·conv => arg 3; whnf
           refine Zc (Za t0 t1 t2 t3 s0.1 x178.1 (w64 (s0.2.2.1 - 1)) x178.2 m1_0 m1_1 m1_2 m1_3 m1_4 m1_5) (hrc t0 t1 t2 t3 s0.1 x178.1 (w64 (s0.2.2.1 - 1)) x178.2 m1_0 m1_1 m1_2 m1_3 m1_4 m1_5) fun x179 hx179 => ?_
           conv => arg 3; whnf
           exact Zd (ih _)
          ·conv => arg 3; whnf
           refine Zc (Za t0 t1 t2 t3 s0.1 x178.1 (w64 (s0.2.2.1 - 1)) x178.2 m1_0 m1_1 m1_2 m1_3 m1_4 m1_5) (hrc t0 t1 t2 t3 s0.1 x178.1 (w64 (s0.2.2.1 - 1)) x178.2 m1_0 m1_1 m1_2 m1_3 m1_4 m1_5) fun x180 hx180 => ?_
           conv => arg 3; whnf
           exact Zd (ih _)
         ·conv => arg 3; whnf
          refine Ze rfl ?_ ?_
          ·conv => arg 3; whnf
           refine Zc (Za t0 t1 t2 t3 (w64 (x178.1 + 1)) s0.2.1 (w64 (s0.2.2.1 - 1)) x178.2 m1_0 m1_1 m1_2 m1_3 m1_4 m1_5) (hrc t0 t1 t2 t3 (w64 (x178.1 + 1)) s0.2.1 (w64 (s0.2.2.1 - 1)) x178.2 m1_0 m1_1 m1_2 m1_3 m1_4 m1_5) fun x181 hx181 => ?_
           conv => arg 3; whnf
           exact Zd (ih _)
          ·conv => arg 3; whnf
           refine Zc (Za t0 t1 t2 t3 (w64 (x178.1 + 1)) s0.2.1 (w64 (s0.2.2.1 - 1)) x178.2 m1_0 m1_1 m1_2 m1_3 m1_4 m1_5) (hrc t0 t1 t2 t3 (w64 (x178.1 + 1)) s0.2.1 (w64 (s0.2.2.1 - 1)) x178.2 m1_0 m1_1 m1_2 m1_3 m1_4 m1_5) fun x182 hx182 => ?_
           conv => arg 3; whnf
           exact Zd (ih _)
        ·conv => arg 3; whnf
         refine Zae rfl ?_
         conv => arg 3; whnf
         refine Zae rfl ?_
         conv => arg 3; whnf
         refine Ze rfl ?_ ?_
         ·conv => arg 3; whnf
          refine Ze rfl ?_ ?_
          ·conv => arg 3; whnf
           refine Zc (Za t0 t1 t2 t3 s0.1 x178.1 (w64 (s0.2.2.1 - 1)) x178.2 m1_0 m1_1 m1_2 m1_3 m1_4 m1_5) (hrc t0 t1 t2 t3 s0.1 x178.1 (w64 (s0.2.2.1 - 1)) x178.2 m1_0 m1_1 m1_2 m1_3 m1_4 m1_5) fun x183 hx183 => ?_
           conv => arg 3; whnf
           exact Zd (ih _)
          ·conv => arg 3; whnf
           refine Zc (Za t0 t1 t2 t3 s0.1 x178.1 (w64 (s0.2.2.1 - 1)) x178.2 m1_0 m1_1 m1_2 m1_3 m1_4 m1_5) (hrc t0 t1 t2 t3 s0.1 x178.1 (w64 (s0.2.2.1 - 1)) x178.2 m1_0 m1_1 m1_2 m1_3 m1_4 m1_5) fun x184 hx184 => ?_
           conv => arg 3; whnf
           exact Zd (ih _)
         ·conv => arg 3; whnf
          refine Ze rfl ?_ ?_
          ·conv => arg 3; whnf
           refine Zc (Za t0 t1 t2 t3 (w64 (x178.1 + 1)) s0.2.1 (w64 (s0.2.2.1 - 1)) x178.2 m1_0 m1_1 m1_2 m1_3 m1_4 m1_5) (hrc t0 t1 t2 t3 (w64 (x178.1 + 1)) s0.2.1 (w64 (s0.2.2.1 - 1)) x178.2 m1_0 m1_1 m1_2 m1_3 m1_4 m1_5) fun x185 hx185 => ?_
           conv => arg 3; whnf
           exact Zd (ih _)
          ·conv => arg 3; whnf
           refine Zc (Za t0 t1 t2 t3 (w64 (x178.1 + 1)) s0.2.1 (w64 (s0.2.2.1 - 1)) x178.2 m1_0 m1_1 m1_2 m1_3 m1_4 m1_5) (hrc t0 t1 t2 t3 (w64 (x178.1 + 1)) s0.2.1 (w64 (s0.2.2.1 - 1)) x178.2 m1_0 m1_1 m1_2 m1_3 m1_4 m1_5) fun x186 hx186 => ?_
           conv => arg 3; whnf
           exact Zd (ih _)
       ·conv => arg 3; whnf
        refine Zc _ Zw fun x187 hx187 => ?_
        conv => arg 3; whnf
        exact Zd (ih _)
      ·conv => arg 3; whnf
       refine Zc _ Zh fun x188 hx188 => ?_
       clear hx188
       rcases x188 with x188 | x188
       ·conv => arg 3; whnf
        refine ZbZ rfl ?_
        conv => arg 3; whnf
        refine Zae rfl ?_
        conv => arg 3; whnf
        refine Ze rfl ?_ ?_
        ·conv => arg 3; whnf
         refine Ze rfl ?_ ?_
         ·conv => arg 3; whnf
          refine Zc (Za t0 t1 t2 t3 s0.1 x188.1 (w64 (s0.2.2.1 - 1)) x188.2 m1_0 m1_1 m1_2 m1_3 m1_4 m1_5) (hrc t0 t1 t2 t3 s0.1 x188.1 (w64 (s0.2.2.1 - 1)) x188.2 m1_0 m1_1 m1_2 m1_3 m1_4 m1_5) fun x189 hx189 => ?_
          conv => arg 3; whnf
          exact Zd (ih _)
         ·conv => arg 3; whnf
          refine Zc (Za t0 t1 t2 t3 s0.1 x188.1 (w64 (s0.2.2.1 - 1)) x188.2 m1_0 m1_1 m1_2 m1_3 m1_4 m1_5) (hrc t0 t1 t2 t3 s0.1 x188.1 (w64 (s0.2.2.1 - 1)) x188.2 m1_0 m1_1 m1_2 m1_3 m1_4 m1_5) fun x190 hx190 => ?_
          conv => arg 3; whnf
          exact Zd (ih _)
        ·conv => arg 3; whnf
         refine Ze rfl ?_ ?_
         ·conv => arg 3; whnf
          refine Zc (Za t0 t1 t2 t3 (w64 (x188.1 + 1)) s0.2.1 (w64 (s0.2.2.1 - 1)) x188.2 m1_0 m1_1 m1_2 m1_3 m1_4 m1_5) (hrc t0 t1 t2 t3 (w64 (x188.1 + 1)) s0.2.1 (w64 (s0.2.2.1 - 1)) x188.2 m1_0 m1_1 m1_2 m1_3 m1_4 m1_5) fun x191 hx191 => ?_
          conv => arg 3; whnf
          exact Zd (ih _)
         ·conv => arg 3; whnf
          refine Zc (Za t0 t1 t2 t3 (w64 (x188.1 + 1)) s0.2.1 (w64 (s0.2.2.1 - 1)) x188.2 m1_0 m1_1 m1_2 m1_3 m1_4 m1_5) (hrc t0 t1 t2 t3 (w64 (x188.1 + 1)) s0.2.1 (w64 (s0.2.2.1 - 1)) x188.2 m1_0 m1_1 m1_2 m1_3 m1_4 m1_5) fun x192 hx192 => ?_
          conv => arg 3; whnf
          exact Zd (ih _)
       ·conv => arg 3; whnf
        refine Zae rfl ?_
        conv => arg 3; whnf
        refine Zae rfl ?_
        conv => arg 3; whnf
        refine Ze rfl ?_ ?_
        ·conv => arg 3; whnf
         refine Ze rfl ?_ ?_
         ·conv => arg 3; whnf
          refine Zc (Za t0 t1 t2 t3 s0.1 x188.1 (w64 (s0.2.2.1 - 1)) x188.2 m1_0 m1_1 m1_2 m1_3 m1_4 m1_5) (hrc t0 t1 t2 t3 s0.1 x188.1 (w64 (s0.2.2.1 - 1)) x188.2 m1_0 m1_1 m1_2 m1_3 m1_4 m1_5) fun x193 hx193 => ?_
          conv => arg 3; whnf
          exact Zd (ih _)
         ·conv => arg 3; whnf
          refine Zc (Za t0 t1 t2 t3 s0.1 x188.1 (w64 (s0.2.2.1 - 1)) x188.2 m1_0 m1_1 m1_2 m1_3 m1_4 m1_5) (hrc t0 t1 t2 t3 s0.1 x188.1 (w64 (s0.2.2.1 - 1)) x188.2 m1_0 m1_1 m1_2 m1_3 m1_4 m1_5) fun x194 hx194 => ?_
          conv => arg 3; whnf
          exact Zd (ih _)
        ·conv => arg 3; whnf
         refine Ze rfl ?_ ?_
         ·conv => arg 3; whnf
          refine Zc (Za t0 t1 t2 t3 (w64 (x188.1 + 1)) s0.2.1 (w64 (s0.2.2.1 - 1)) x188.2 m1_0 m1_1 m1_2 m1_3 m1_4 m1_5) (hrc t0 t1 t2 t3 (w64 (x188.1 + 1)) s0.2.1 (w64 (s0.2.2.1 - 1)) x188.2 m1_0 m1_1 m1_2 m1_3 m1_4 m1_5) fun x195 hx195 => ?_
          conv => arg 3; whnf
          exact Zd (ih _)
         ·conv => arg 3; whnf
          refine Zc (Za t0 t1 t2 t3 (w64 (x188.1 + 1)) s0.2.1 (w64 (s0.2.2.1 - 1)) x188.2 m1_0 m1_1 m1_2 m1_3 m1_4 m1_5) (hrc t0 t1 t2 t3 (w64 (x188.1 + 1)) s0.2.1 (w64 (s0.2.2.1 - 1)) x188.2 m1_0 m1_1 m1_2 m1_3 m1_4 m1_5) fun x196 hx196 => ?_
          conv => arg 3; whnf
          exact Zd (ih _)
     ·conv => arg 3; whnf
      refine Ze rfl ?_ ?_
      ·conv => arg 3; whnf
       refine Zl rfl rfl fun x197 hx197 => ?_
       conv => arg 3; whnf
       refine Zg (Zv rfl hx197) ?_
       conv => arg 3; whnf
       refine Zl rfl rfl fun x198 hx198 => ?_
       conv => arg 3; whnf
       refine Zg (Zv rfl hx198) ?_
       conv => arg 3; whnf
       refine Zk _ Zz rfl fun x199 hx199 => ?_
       conv => arg 3; whnf
       refine Ze rfl ?_ ?_
       ·conv => arg 3; whnf
        refine Zc _ Zh fun x200 hx200 => ?_
        clear hx200
        rcases x200 with x200 | x200
        ·conv => arg 3; whnf
         refine ZbZ rfl ?_
         conv => arg 3; whnf
         refine Zae rfl ?_
         conv => arg 3; whnf
         refine Ze rfl ?_ ?_
         ·conv => arg 3; whnf
          refine Ze rfl ?_ ?_
          ·conv => arg 3; whnf
           refine Zc (Za t0 t1 t2 t3 s0.1 x200.1 (w64 (s0.2.2.1 - 1)) x200.2 m1_0 m1_1 m1_2 m1_3 m1_4 m1_5) (hrc t0 t1 t2 t3 s0.1 x200.1 (w64 (s0.2.2.1 - 1)) x200.2 m1_0 m1_1 m1_2 m1_3 m1_4 m1_5) fun x201 hx201 => ?_
           conv => arg 3; whnf
           exact Zd (ih _)
          ·conv => arg 3; whnf
           refine Zc (Za t0 t1 t2 t3 s0.1 x200.1 (w64 (s0.2.2.1 - 1)) x200.2 m1_0 m1_1 m1_2 m1_3 m1_4 m1_5) (hrc t0 t1 t2 t3 s0.1 x200.1 (w64 (s0.2.2.1 - 1)) x200.2 m1_0 m1_1 m1_2 m1_3 m1_4 m1_5) fun x202 hx202 => ?_
           conv => arg 3; whnf
           exact Zd (ih _)
         ·conv => arg 3; whnf
          refine Ze rfl ?_ ?_
          ·conv => arg 3; whnf
           refine Zc (Za t0 t1 t2 t3 (w64 (x200.1 + 1)) s0.2.1 (w64 (s0.2.2.1 - 1)) x200.2 m1_0 m1_1 m1_2 m1_3 m1_4 m1_5) (hrc t0 t1 t2 t3 (w64 (x200.1 + 1)) s0.2.1 (w64 (s0.2.2.1 - 1)) x200.2 m1_0 m1_1 m1_2 m1_3 m1_4 m1_5) fun x203 hx203 => ?_
           conv => arg 3; whnf
           exact Zd (ih _)
          ·conv => arg 3; whnf
           refine Zc (Za t0 t1 t2 t3 (w64 (x200.1 + 1)) s0.2.1 (w64 (s0.2.2.1 - 1)) x200.2 m1_0 m1_1 m1_2 m1_3 m1_4 m1_5) (hrc t0 t1 t2 t3 (w64 (x200.1 + 1)) s0.2.1 (w64 (s0.2.2.1 - 1)) x200.2 m1_0 m1_1 m1_2 m1_3 m1_4 m1_5) fun x204 hx204 => ?_
           conv => arg 3; whnf
           exact Zd (ih _)
        ·conv => arg 3; whnf
         refine Zae rfl ?_
         conv => arg 3; whnf
         refine Zae rfl ?_
         conv => arg 3; whnf
         refine Ze rfl ?_ ?_
         ·conv => arg 3; whnf
          refine Ze rfl ?_ ?_
          ·conv => arg 3; whnf
           refine Zc (Za t0 t1 t2 t3 s0.1 x200.1 (w64 (s0.2.2.1 - 1)) x200.2 m1_0 m1_1 m1_2 m1_3 m1_4 m1_5) (hrc t0 t1 t2 t3 s0.1 x200.1 (w64 (s0.2.2.1 - 1)) x200.2 m1_0 m1_1 m1_2 m1_3 m1_4 m1_5) fun x205 hx205 => ?_
           conv => arg 3; whnf
           exact Zd (ih _)
          ·conv => arg 3; whnf
           refine Zc (Za t0 t1 t2 t3 s0.1 x200.1 (w64 (s0.2.2.1 - 1)) x200.2 m1_0 m1_1 m1_2 m1_3 m1_4 m1_5) (hrc t0 t1 t2 t3 s0.1 x200.1 (w64 (s0.2.2.1 - 1)) x200.2 m1_0 m1_1 m1_2 m1_3 m1_4 m1_5) fun x206 hx206 => ?_
           conv => arg 3; whnf
           exact Zd (ih _)
         ·conv => arg 3; whnf
          refine Ze rfl ?_ ?_
          ·conv => arg 3; whnf
           refine Zc (Za t0 t1 t2 t3 (w64 (x200.1 + 1)) s0.2.1 (w64 (s0.2.2.1 - 1)) x200.2 m1_0 m1_1 m1_2 m1_3 m1_4 m1_5) (hrc t0 t1 t2 t3 (w64 (x200.1 + 1)) s0.2.1 (w64 (s0.2.2.1 - 1)) x200.2 m1_0 m1_1 m1_2 m1_3 m1_4 m1_5) fun x207 hx207 => ?_
           conv => arg 3; whnf
           exact Zd (ih _)
          ·conv => arg 3; whnf
           refine Zc (Za t0 t1 t2 t3 (w64 (x200.1 + 1)) s0.2.1 (w64 (s0.2.2.1 - 1)) x200.2 m1_0 m1_1 m1_2 m1_3 m1_4 m1_5) (hrc t0 t1 t2 t3 (w64 (x200.1 + 1)) s0.2.1 (w64 (s0.2.2.1 - 1)) x200.2 m1_0 m1_1 m1_2 m1_3 m1_4 m1_5) fun x208 hx208 => ?_
           conv => arg 3; whnf
           exact Zd (ih _)
       ·conv => arg 3; whnf
        refine Zc _ Zw fun x209 hx209 => ?_
        conv => arg 3; whnf
        exact Zd (ih _)
      ·conv => arg 3; whnf
       refine Zc _ Zh fun x210 hx210 => ?_
       clear hx210
       rcases x210 with x210 | x210
       ·conv => arg 3; whnf
        refine ZbZ rfl ?_
        conv => arg 3; whnf
        refine Zae rfl ?_
        conv => arg 3; whnf
        refine Ze rfl ?_ ?_
        ·conv => arg 3; whnf
         refine Ze rfl ?_ ?_
         ·conv => arg 3; whnf
          refine Zc (Za t0 t1 t2 t3 s0.1 x210.1 (w64 (s0.2.2.1 - 1)) x210.2 m1_0 m1_1 m1_2 m1_3 m1_4 m1_5) (hrc t0 t1 t2 t3 s0.1 x210.1 (w64 (s0.2.2.1 - 1)) x210.2 m1_0 m1_1 m1_2 m1_3 m1_4 m1_5) fun x211 hx211 => ?_
          conv => arg 3; whnf
          exact Zd (ih _)
         ·conv => arg 3; whnf
          refine Zc (Za t0 t1 t2 t3 s0.1 x210.1 (w64 (s0.2.2.1 - 1)) x210.2 m1_0 m1_1 m1_2 m1_3 m1_4 m1_5) (hrc t0 t1 t2 t3 s0.1 x210.1 (w64 (s0.2.2.1 - 1)) x210.2 m1_0 m1_1 m1_2 m1_3 m1_4 m1_5) fun x212 hx212 => ?_
          conv => arg 3; whnf
          exact Zd (ih _)
        ·conv => arg 3; whnf
         refine Ze rfl ?_ ?_
         ·conv => arg 3; whnf
          refine Zc (Za t0 t1 t2 t3 (w64 (x210.1 + 1)) s0.2.1 (w64 (s0.2.2.1 - 1)) x210.2 m1_0 m1_1 m1_2 m1_3 m1_4 m1_5) (hrc t0 t1 t2 t3 (w64 (x210.1 + 1)) s0.2.1 (w64 (s0.2.2.1 - 1)) x210.2 m1_0 m1_1 m1_2 m1_3 m1_4 m1_5) fun x213 hx213 => ?_
          conv => arg 3; whnf
          exact Zd (ih _)
         ·conv => arg 3; whnf
          refine Zc (Za t0 t1 t2 t3 (w64 (x210.1 + 1)) s0.2.1 (w64 (s0.2.2.1 - 1)) x210.2 m1_0 m1_1 m1_2 m1_3 m1_4 m1_5) (hrc t0 t1 t2 t3 (w64 (x210.1 + 1)) s0.2.1 (w64 (s0.2.2.1 - 1)) x210.2 m1_0 m1_1 m1_2 m1_3 m1_4 m1_5) fun x214 hx214 => ?_
          conv => arg 3; whnf
          exact Zd (ih _)
       ·conv => arg 3; whnf
        refine Zae rfl ?_
        conv => arg 3; whnf
        refine Zae rfl ?_
        conv => arg 3; whnf
        refine Ze rfl ?_ ?_
        ·conv => arg 3; whnf
         refine Ze rfl ?_ ?_
         ·conv => arg 3; whnf
          refine Zc (Za t0 t1 t2 t3 s0.1 x210.1 (w64 (s0.2.2.1 - 1)) x210.2 m1_0 m1_1 m1_2 m1_3 m1_4 m1_5) (hrc t0 t1 t2 t3 s0.1 x210.1 (w64 (s0.2.2.1 - 1)) x210.2 m1_0 m1_1 m1_2 m1_3 m1_4 m1_5) fun x215 hx215 => ?_
          conv => arg 3; whnf
          exact Zd (ih _)
         ·conv => arg 3; whnf
          refine Zc (Za t0 t1 t2 t3 s0.1 x210.1 (w64 (s0.2.2.1 - 1)) x210.2 m1_0 m1_1 m1_2 m1_3 m1_4 m1_5) (hrc t0 t1 t2 t3 s0.1 x210.1 (w64 (s0.2.2.1 - 1)) x210.2 m1_0 m1_1 m1_2 m1_3 m1_4 m1_5) fun x216 hx216 => ?_
          conv => arg 3; whnf
          exact Zd (ih _)
        ·conv => arg 3; whnf
         refine Ze rfl ?_ ?_
         ·conv => arg 3; whnf
          refine Zc (Za t0 t1 t2 t3 (w64 (x210.1 + 1)) s0.2.1 (w64 (s0.2.2.1 - 1)) x210.2 m1_0 m1_1 m1_2 m1_3 m1_4 m1_5) (hrc t0 t1 t2 t3 (w64 (x210.1 + 1)) s0.2.1 (w64 (s0.2.2.1 - 1)) x210.2 m1_0 m1_1 m1_2 m1_3 m1_4 m1_5) fun x217 hx217 => ?_
          conv => arg 3; whnf
          exact Zd (ih _)
         ·conv => arg 3; whnf
          refine Zc (Za t0 t1 t2 t3 (w64 (x210.1 + 1)) s0.2.1 (w64 (s0.2.2.1 - 1)) x210.2 m1_0 m1_1 m1_2 m1_3 m1_4 m1_5) (hrc t0 t1 t2 t3 (w64 (x210.1 + 1)) s0.2.1 (w64 (s0.2.2.1 - 1)) x210.2 m1_0 m1_1 m1_2 m1_3 m1_4 m1_5) fun x218 hx218 => ?_
          conv => arg 3; whnf
          exact Zd (ih _)
  ·refine ZoO ?_
   conv => arg 3; whnf
   refine Ze rfl ?_ ?_
   ·conv => arg 3; whnf
    refine Zc _ Z2 fun x121 hx121 => ?_
    conv => arg 3; whnf
    exact Zf rfl
   ·conv => arg 3; whnf
    refine Ze rfl ?_ ?_
    ·conv => arg 3; whnf
     refine Zc _ Zai fun x122 hx122 => ?_
     conv => arg 3; whnf
     exact Zf rfl
    ·conv => arg 3; whnf
     refine Zc _ Zbn fun x123 hx123 => ?_
     conv => arg 3; whnf
     refine Zc _ Zab fun x124 hx124 => ?_
     conv => arg 3; whnf
     refine Ze rfl ?_ ?_
     ·conv => arg 3; whnf
      refine Zc _ Z7 fun x125 hx125 => ?_
      conv => arg 3; whnf
      refine Ze rfl ?_ ?_
      ·conv => arg 3; whnf
       refine Zl rfl rfl fun x126 hx126 => ?_
       conv => arg 3; whnf
       refine Zg (Zv rfl hx126) ?_
       conv => arg 3; whnf
       refine Zl rfl rfl fun x127 hx127 => ?_
       conv => arg 3; whnf
       refine Zg (Zv rfl hx127) ?_
       conv => arg 3; whnf
       refine Zk _ Zz rfl fun x128 hx128 => ?_
       conv => arg 3; whnf
       refine Ze rfl ?_ ?_
       ·conv => arg 3; whnf
        refine Zc _ Zh fun x129 hx129 => ?_
        clear hx129
        rcases x129 with x129 | x129
        ·conv => arg 3; whnf
         refine ZbZ rfl ?_
         conv => arg 3; whnf
         refine Zae rfl ?_
         conv => arg 3; whnf
         refine Ze rfl ?_ ?_
         ·conv => arg 3; whnf
          refine Ze rfl ?_ ?_
          ·conv => arg 3; whnf
           refine Zc (Za t0 t1 t2 t3 s0.1 x129.1 (w64 (s0.2.2.1 - 1)) x129.2 m1_0 m1_1 m1_2 m1_3 m1_4 m1_5) (hrc t0 t1 t2 t3 s0.1 x129.1 (w64 (s0.2.2.1 - 1)) x129.2 m1_0 m1_1 m1_2 m1_3 m1_4 m1_5) fun x130 hx130 => ?_
           conv => arg 3; whnf
           exact Zd (ih _)
          ·conv => arg 3; whnf
           refine Zc (Za t0 t1 t2 t3 s0.1 x129.1 (w64 (s0.2.2.1 - 1)) x129.2 m1_0 m1_1 m1_2 m1_3 m1_4 m1_5) (hrc t0 t1 t2 t3 s0.1 x129.1 (w64 (s0.2.2.1 - 1)) x129.2 m1_0 m1_1 m1_2 m1_3 m1_4 m1_5) fun x131 hx131 => ?_
           conv => arg 3; whnf
           exact Zd (ih _)
         ·conv => arg 3; whnf
          refine Ze rfl ?_ ?_
          ·conv => arg 3; whnf
           refine Zc (Za t0 t1 t2 t3 (w64 (x129.1 + 1)) s0.2.1 (w64 (s0.2.2.1 - 1)) x129.2 m1_0 m1_1 m1_2 m1_3 m1_4 m1_5) (hrc t0 t1 t2 t3 (w64 (x129.1 + 1)) s0.2.1 (w64 (s0.2.2.1 - 1)) x129.2 m1_0 m1_1 m1_2 m1_3 m1_4 m1_5) fun x132 hx132 => ?_
           conv => arg 3; whnf
           exact Zd (ih _)
          ·conv => arg 3; whnf
           refine Zc (Za t0 t1 t2 t3 (w64 (x129.1 + 1)) s0.2.1 (w64 (s0.2.2.1 - 1)) x129.2 m1_0 m1_1 m1_2 m1_3 m1_4 m1_5) (hrc t0 t1 t2 t3 (w64 (x129.1 + 1)) s0.2.1 (w64 (s0.2.2.1 - 1)) x129.2 m1_0 m1_1 m1_2 m1_3 m1_4 m1_5) fun x133 hx133 => ?_
           conv => arg 3; whnf
           exact Zd (ih _)
        ·conv => arg 3; whnf
         refine Zae rfl ?_
         conv => arg 3; whnf
         refine Zae rfl ?_
         conv => arg 3; whnf
         refine Ze rfl ?_ ?_
         ·conv => arg 3; whnf
          refine Ze rfl ?_ ?_
          ·conv => arg 3; whnf
           refine Zc (Za t0 t1 t2 t3 s0.1 x129.1 (w64 (s0.2.2.1 - 1)) x129.2 m1_0 m1_1 m1_2 m1_3 m1_4 m1_5) (hrc t0 t1 t2 t3 s0.1 x129.1 (w64 (s0.2.2.1 - 1)) x129.2 m1_0 m1_1 m1_2 m1_3 m1_4 m1_5) fun x134 hx134 => ?_
           conv => arg 3; whnf
           exact Zd (ih _)
          ·conv => arg 3; whnf
           refine Zc (Za t0 t1 t2 t3 s0.1 x129.1 (w64 (s0.2.2.1 - 1)) x129.2 m1_0 m1_1 m1_2 m1_3 m1_4 m1_5) (hrc t0 t1 t2 t3 s0.1 x129.1 (w64 (s0.2.2.1 - 1)) x129.2 m1_0 m1_1 m1_2 m1_3 m1_4 m1_5) fun x135 hx135 => ?_
           conv => arg 3; whnf
           exact Zd (ih _)
         ·conv => arg 3; whnf
          refine Ze rfl ?_ ?_
          ·conv => arg 3; whnf
           refine Zc (Za t0 t1 t2 t3 (w64 (x129.1 + 1)) s0.2.1 (w64 (s0.2.2.1 - 1)) x129.2 m1_0 m1_1 m1_2 m1_3 m1_4 m1_5) (hrc t0 t1 t2 t3 (w64 (x129.1 + 1)) s0.2.1 (w64 (s0.2.2.1 - 1)) x129.2 m1_0 m1_1 m1_2 m1_3 m1_4 m1_5) fun x136 hx136 => ?_
           conv => arg 3; whnf
           exact Zd (ih _)
          ·conv => arg 3; whnf
           refine Zc (Za t0 t1 t2 t3 (w64 (x129.1 + 1)) s0.2.1 (w64 (s0.2.2.1 - 1)) x129.2 m1_0 m1_1 m1_2 m1_3 m1_4 m1_5) (hrc t0 t1 t2 t3 (w64 (x129.1 + 1)) s0.2.1 (w64 (s0.2.2.1 - 1)) x129.2 m1_0 m1_1 m1_2 m1_3 m1_4 m1_5) fun x137 hx137 => ?_
           conv => arg 3; whnf
           exact Zd (ih _)
       ·conv => arg 3; whnf
        refine Zc _ Zw fun x138 hx138 => ?_
        conv => arg 3; whnf
        exact Zd (ih _)
      ·conv => arg 3; whnf
       refine Zc _ Zh fun x139 hx139 => ?_
       clear hx139
       rcases x139 with x139 | x139
       ·conv => arg 3; whnf
        refine ZbZ rfl ?_
        conv => arg 3; whnf
        refine Zae rfl ?_
        conv => arg 3; whnf
        refine Ze rfl ?_ ?_
        ·conv => arg 3; whnf
         refine Ze rfl ?_ ?_
         ·conv => arg 3; whnf
          refine Zc (Za t0 t1 t2 t3 s0.1 x139.1 (w64 (s0.2.2.1 - 1)) x139.2 m1_0 m1_1 m1_2 m1_3 m1_4 m1_5) (hrc t0 t1 t2 t3 s0.1 x139.1 (w64 (s0.2.2.1 - 1)) x139.2 m1_0 m1_1 m1_2 m1_3 m1_4 m1_5) fun x140 hx140 => ?_
          conv => arg 3; whnf
          exact Zd (ih _)
         ·conv => arg 3; whnf
          refine Zc (Za t0 t1 t2 t3 s0.1 x139.1 (w64 (s0.2.2.1 - 1)) x139.2 m1_0 m1_1 m1_2 m1_3 m1_4 m1_5) (hrc t0 t1 t2 t3 s0.1 x139.1 (w64 (s0.2.2.1 - 1)) x139.2 m1_0 m1_1 m1_2 m1_3 m1_4 m1_5) fun x141 hx141 => ?_
          conv => arg 3; whnf
          exact Zd (ih _)
        ·conv => arg 3; whnf
         refine Ze rfl ?_ ?_
         ·conv => arg 3; whnf
          refine Zc (Za t0 t1 t2 t3 (w64 (x139.1 + 1)) s0.2.1 (w64 (s0.2.2.1 - 1)) x139.2 m1_0 m1_1 m1_2 m1_3 m1_4 m1_5) (hrc t0 t1 t2 t3 (w64 (x139.1 + 1)) s0.2.1 (w64 (s0.2.2.1 - 1)) x139.2 m1_0 m1_1 m1_2 m1_3 m1_4 m1_5) fun x142 hx142 => ?_
          conv => arg 3; whnf
          exact Zd (ih _)
         ·conv => arg 3; whnf
          refine Zc (Za t0 t1 t2 t3 (w64 (x139.1 + 1)) s0.2.1 (w64 (s0.2.2.1 - 1)) x139.2 m1_0 m1_1 m1_2 m1_3 m1_4 m1_5) (hrc t0 t1 t2 t3 (w64 (x139.1 + 1)) s0.2.1 (w64 (s0.2.2.1 - 1)) x139.2 m1_0 m1_1 m1_2 m1_3 m1_4 m1_5) fun x143 hx143 => ?_
          conv => arg 3; whnf
          exact Zd (ih _)
       ·conv => arg 3; whnf
        refine Zae rfl ?_
        conv => arg 3; whnf
        refine Zae rfl ?_
        conv => arg 3; whnf
        refine Ze rfl ?_ ?_
        ·conv => arg 3; whnf
         refine Ze rfl ?_ ?_
         ·conv => arg 3; whnf
          refine Zc (Za t0 t1 t2 t3 s0.1 x139.1 (w64 (s0.2.2.1 - 1)) x139.2 m1_0 m1_1 m1_2 m1_3 m1_4 m1_5) (hrc t0 t1 t2 t3 s0.1 x139.1 (w64 (s0.2.2.1 - 1)) x139.2 m1_0 m1_1 m1_2 m1_3 m1_4 m1_5) fun x144 hx144 => ?_
          conv => arg 3; whnf
          exact Zd (ih _)
         ·conv => arg 3; whnf
          refine Zc (Za t0 t1 t2 t3 s0.1 x139.1 (w64 (s0.2.2.1 - 1)) x139.2 m1_0 m1_1 m1_2 m1_3 m1_4 m1_5) (hrc t0 t1 t2 t3 s0.1 x139.1 (w64 (s0.2.2.1 - 1)) x139.2 m1_0 m1_1 m1_2 m1_3 m1_4 m1_5) fun x145 hx145 => ?_
          conv => arg 3; whnf
          exact Zd (ih _)
        ·conv => arg 3; whnf
         refine Ze rfl ?_ ?_
         ·conv => arg 3; whnf
          refine Zc (Za t0 t1 t2 t3 (w64 (x139.1 + 1)) s0.2.1 (w64 (s0.2.2.1 - 1)) x139.2 m1_0 m1_1 m1_2 m1_3 m1_4 m1_5) (hrc t0 t1 t2 t3 (w64 (x139.1 + 1)) s0.2.1 (w64 (s0.2.2.1 - 1)) x139.2 m1_0 m1_1 m1_2 m1_3 m1_4 m1_5) fun x146 hx146 => ?_
          conv => arg 3; whnf
          exact Zd (ih _)
         ·conv => arg 3; whnf
          refine Zc (Za t0 t1 t2 t3 (w64 (x139.1 + 1)) s0.2.1 (w64 (s0.2.2.1 - 1)) x139.2 m1_0 m1_1 m1_2 m1_3 m1_4 m1_5) (hrc t0 t1 t2 t3 (w64 (x139.1 + 1)) s0.2.1 (w64 (s0.2.2.1 - 1)) x139.2 m1_0 m1_1 m1_2 m1_3 m1_4 m1_5) fun x147 hx147 => ?_
          conv => arg 3; whnf
          exact Zd (ih _)
     ·conv => arg 3; whnf
      refine Ze rfl ?_ ?_
      ·conv => arg 3; whnf
       refine Zl rfl rfl fun x148 hx148 => ?_
       conv => arg 3; whnf
       refine Zg (Zv rfl hx148) ?_
       conv => arg 3; whnf
       refine Zl rfl rfl fun x149 hx149 => ?_
       conv => arg 3; whnf
       refine Zg (Zv rfl hx149) ?_
       conv => arg 3; whnf
       refine Zk _ Zz rfl fun x150 hx150 => ?_
       conv => arg 3; whnf
       refine Ze rfl ?_ ?_
       ·conv => arg 3; whnf
        refine Zc _ Zh fun x151 hx151 => ?_
        clear hx151
        rcases x151 with x151 | x151
        ·conv => arg 3; whnf
         refine ZbZ rfl ?_
         conv => arg 3; whnf
         refine Zae rfl ?_
         conv => arg 3; whnf
         refine Ze rfl ?_ ?_
         ·conv => arg 3; whnf
          refine Ze rfl ?_ ?_
          ·conv => arg 3; whnf
           refine Zc (Za t0 t1 t2 t3 s0.1 x151.1 (w64 (s0.2.2.1 - 1)) x151.2 m1_0 m1_1 m1_2 m1_3 m1_4 m1_5) (hrc t0 t1 t2 t3 s0.1 x151.1 (w64 (s0.2.2.1 - 1)) x151.2 m1_0 m1_1 m1_2 m1_3 m1_4 m1_5) fun x152 hx152 => ?_
           conv => arg 3; whnf
           exact Zd (ih _)
          ·conv => arg 3; whnf
           refine Zc (Za t0 t1 t2 t3 s0.1 x151.1 (w64 (s0.2.2.1 - 1)) x151.2 m1_0 m1_1 m1_2 m1_3 m1_4 m1_5) (hrc t0 t1 t2 t3 s0.1 x151.1 (w64 (s0.2.2.1 - 1)) x151.2 m1_0 m1_1 m1_2 m1_3 m1_4 m1_5) fun x153 hx153 => ?_
           conv => arg 3; whnf
           exact Zd (ih _)
         ·conv => arg 3; whnf
          refine Ze rfl ?_ ?_
          ·conv => arg 3; whnf
           refine Zc (Za t0 t1 t2 t3 (w64 (x151.1 + 1)) s0.2.1 (w64 (s0.2.2.1 - 1)) x151.2 m1_0 m1_1 m1_2 m1_3 m1_4 m1_5) (hrc t0 t1 t2 t3 (w64 (x151.1 + 1)) s0.2.1 (w64 (s0.2.2.1 - 1)) x151.2 m1_0 m1_1 m1_2 m1_3 m1_4 m1_5) fun x154 hx154 => ?_
           conv => arg 3; whnf
           exact Zd (ih _)
          ·conv => arg 3; whnf
           refine Zc (Za t0 t1 t2 t3 (w64 (x151.1 + 1)) s0.2.1 (w64 (s0.2.2.1 - 1)) x151.2 m1_0 m1_1 m1_2 m1_3 m1_4 m1_5) (hrc t0 t1 t2 t3 (w64 (x151.1 + 1)) s0.2.1 (w64 (s0.2.2.1 - 1)) x151.2 m1_0 m1_1 m1_2 m1_3 m1_4 m1_5) fun x155 hx155 => ?_
           conv => arg 3; whnf
           exact Zd (ih _)
        ·conv => arg 3; whnf
         refine Zae rfl ?_
         conv => arg 3; whnf
         refine Zae rfl ?_
         conv => arg 3; whnf
         refine Ze rfl ?_ ?_
         ·conv => arg 3; whnf
          refine Ze rfl ?_ ?_
          ·conv => arg 3; whnf
           refine Zc (Za t0 t1 t2 t3 s0.1 x151.1 (w64 (s0.2.2.1 - 1)) x151.2 m1_0 m1_1 m1_2 m1_3 m1_4 m1_5) (hrc t0 t1 t2 t3 s0.1 x151.1 (w64 (s0.2.2.1 - 1)) x151.2 m1_0 m1_1 m1_2 m1_3 m1_4 m1_5) fun x156 hx156 => ?_
           conv => arg 3; whnf
           exact Zd (ih _)
          ·conv => arg 3; whnf
           refine Zc (Za t0 t1 t2 t3 s0.1 x151.1 (w64 (s0.2.2.1 - 1)) x151.2 m1_0 m1_1 m1_2 m1_3 m1_4 m1_5) (hrc t0 t1 t2 t3 s0.1 x151.1 (w64 (s0.2.2.1 - 1)) x151.2 m1_0 m1_1 m1_2 m1_3 m1_4 m1_5) fun x157 hx157 => ?_
           conv => arg 3; whnf
           exact Zd (ih _)
         ·conv => arg 3; whnf
          refine Ze rfl ?_ ?_
          ·conv => arg 3; whnf
           refine Zc (Za t0 t1 t2 t3 (w64 (x151.1 + 1)) s0.2.1 (w64 (s0.2.2.1 - 1)) x151.2 m1_0 m1_1 m1_2 m1_3 m1_4 m1_5) (hrc t0 t1 t2 t3 (w64 (x151.1 + 1)) s0.2.1 (w64 (s0.2.2.1 - 1)) x151.2 m1_0 m1_1 m1_2 m1_3 m1_4 m1_5) fun x158 hx158 => ?_
           conv => arg 3; whnf
           exact Zd (ih _)
          ·conv => arg 3; whnf
           refine Zc (Za t0 t1 t2 t3 (w64 (x151.1 + 1)) s0.2.1 (w64 (s0.2.2.1 - 1)) x151.2 m1_0 m1_1 m1_2 m1_3 m1_4 m1_5) (hrc t0 t1 t2 t3 (w64 (x151.1 + 1)) s0.2.1 (w64 (s0.2.2.1 - 1)) x151.2 m1_0 m1_1 m1_2 m1_3 m1_4 m1_5) fun x159 hx159 => ?_
           conv => arg 3; whnf
           exact Zd (ih _)
       ·conv => arg 3; whnf
        refine Zc _ Zw fun x160 hx160 => ?_
        conv => arg 3; whnf
        exact Zd (ih _)
      ·conv => arg 3; whnf
       refine Zc _ Zh fun x161 hx161 => ?_
       clear hx161
       rcases x161 with x161 | x161
       ·conv => arg 3; whnf
        refine ZbZ rfl ?_
        conv => arg 3; whnf
        refine Zae rfl ?_
        conv => arg 3; whnf
        refine Ze rfl ?_ ?_
        ·conv => arg 3; whnf
         refine Ze rfl ?_ ?_
         ·conv => arg 3; whnf
          refine Zc (Za t0 t1 t2 t3 s0.1 x161.1 (w64 (s0.2.2.1 - 1)) x161.2 m1_0 m1_1 m1_2 m1_3 m1_4 m1_5) (hrc t0 t1 t2 t3 s0.1 x161.1 (w64 (s0.2.2.1 - 1)) x161.2 m1_0 m1_1 m1_2 m1_3 m1_4 m1_5) fun x162 hx162 => ?_
          conv => arg 3; whnf
          exact Zd (ih _)
         ·conv => arg 3; whnf
          refine Zc (Za t0 t1 t2 t3 s0.1 x161.1 (w64 (s0.2.2.1 - 1)) x161.2 m1_0 m1_1 m1_2 m1_3 m1_4 m1_5) (hrc t0 t1 t2 t3 s0.1 x161.1 (w64 (s0.2.2.1 - 1)) x161.2 m1_0 m1_1 m1_2 m1_3 m1_4 m1_5) fun x163 hx163 => ?_
          conv => arg 3; whnf
          exact Zd (ih _)
        ·conv => arg 3; whnf
         refine Ze rfl ?_ ?_
         ·conv => arg 3; whnf
          refine Zc (Za t0 t1 t2 t3 (w64 (x161.1 + 1)) s0.2.1 (w64 (s0.2.2.1 - 1)) x161.2 m1_0 m1_1 m1_2 m1_3 m1_4 m1_5) (hrc t0 t1 t2 t3 (w64 (x161.1 + 1)) s0.2.1 (w64 (s0.2.2.1 - 1)) x161.2 m1_0 m1_1 m1_2 m1_3 m1_4 m1_5) fun x164 hx164 => ?_
          conv => arg 3; whnf
          exact Zd (ih _)
         ·conv => arg 3; whnf
          refine Zc (Za t0 t1 t2 t3 (w64 (x161.1 + 1)) s0.2.1 (w64 (s0.2.2.1 - 1)) x161.2 m1_0 m1_1 m1_2 m1_3 m1_4 m1_5) (hrc t0 t1 t2 t3 (w64 (x161.1 + 1)) s0.2.1 (w64 (s0.2.2.1 - 1)) x161.2 m1_0 m1_1 m1_2 m1_3 m1_4 m1_5) fun x165 hx165 => ?_
          conv => arg 3; whnf
          exact Zd (ih _)
       ·conv => arg 3; whnf
        refine Zae rfl ?_
        conv => arg 3; whnf
        refine Zae rfl ?_
        conv => arg 3; whnf
        refine Ze rfl ?_ ?_
        ·conv => arg 3; whnf
         refine Ze rfl ?_ ?_
         ·conv => arg 3; whnf
          refine Zc (Za t0 t1 t2 t3 s0.1 x161.1 (w64 (s0.2.2.1 - 1)) x161.2 m1_0 m1_1 m1_2 m1_3 m1_4 m1_5) (hrc t0 t1 t2 t3 s0.1 x161.1 (w64 (s0.2.2.1 - 1)) x161.2 m1_0 m1_1 m1_2 m1_3 m1_4 m1_5) fun x166 hx166 => ?_
          conv => arg 3; whnf
          exact Zd (ih _)
         ·conv => arg 3; whnf
          refine Zc (Za t0 t1 t2 t3 s0.1 x161.1 (w64 (s0.2.2.1 - 1)) x161.2 m1_0 m1_1 m1_2 m1_3 m1_4 m1_5) (hrc t0 t1 t2 t3 s0.1 x161.1 (w64 (s0.2.2.1 - 1)) x161.2 m1_0 m1_1 m1_2 m1_3 m1_4 m1_5) fun x167 hx167 => ?_
          conv => arg 3; whnf
          exact Zd (ih _)
        ·conv => arg 3; whnf
         refine Ze rfl ?_ ?_
         ·conv => arg 3; whnf
          refine Zc (Za t0 t1 t2 t3 (w64 (x161.1 + 1)) s0.2.1 (w64 (s0.2.2.1 - 1)) x161.2 m1_0 m1_1 m1_2 m1_3 m1_4 m1_5) (hrc t0 t1 t2 t3 (w64 (x161.1 + 1)) s0.2.1 (w64 (s0.2.2.1 - 1)) x161.2 m1_0 m1_1 m1_2 m1_3 m1_4 m1_5) fun x168 hx168 => ?_
          conv => arg 3; whnf
          exact Zd (ih _)
         ·conv => arg 3; whnf
          refine Zc (Za t0 t1 t2 t3 (w64 (x161.1 + 1)) s0.2.1 (w64 (s0.2.2.1 - 1)) x161.2 m1_0 m1_1 m1_2 m1_3 m1_4 m1_5) (hrc t0 t1 t2 t3 (w64 (x161.1 + 1)) s0.2.1 (w64 (s0.2.2.1 - 1)) x161.2 m1_0 m1_1 m1_2 m1_3 m1_4 m1_5) fun x169 hx169 => ?_
          conv => arg 3; whnf
          exact Zd (ih _)
 ·refine ZoO ?_
  rcases hb : s0.2.2.2.2.1 with _ | _
  ·refine ZoH ?_
   conv => arg 3; whnf
   refine Ze rfl ?_ ?_
   ·conv => arg 3; whnf
    refine Zc _ Z2 fun x73 hx73 => ?_
    conv => arg 3; whnf
    exact Zf rfl
   ·conv => arg 3; whnf
    refine Ze rfl ?_ ?_
    ·conv => arg 3; whnf
     refine Zc _ Zai fun x74 hx74 => ?_
     conv => arg 3; whnf
     exact Zf rfl
    ·conv => arg 3; whnf
     refine Zc _ Zab fun x75 hx75 => ?_
     conv => arg 3; whnf
     refine Ze rfl ?_ ?_
     ·conv => arg 3; whnf
      refine Zc _ Z7 fun x76 hx76 => ?_
      conv => arg 3; whnf
      refine Ze rfl ?_ ?_
      ·conv => arg 3; whnf
       refine Zl rfl rfl fun x77 hx77 => ?_
       conv => arg 3; whnf
       refine Zg (Zv rfl hx77) ?_
       conv => arg 3; whnf
       refine Zl rfl rfl fun x78 hx78 => ?_
       conv => arg 3; whnf
       refine Zg (Zv rfl hx78) ?_
       conv => arg 3; whnf
       refine Zk _ Zz rfl fun x79 hx79 => ?_
       conv => arg 3; whnf
       refine Ze rfl ?_ ?_
       ·conv => arg 3; whnf
        refine Zc _ Zh fun x80 hx80 => ?_
        clear hx80
        rcases x80 with x80 | x80
        ·conv => arg 3; whnf
         refine ZbZ rfl ?_
         conv => arg 3; whnf
         refine Zae rfl ?_
         conv => arg 3; whnf
         refine Ze rfl ?_ ?_
         ·conv => arg 3; whnf
          refine Ze rfl ?_ ?_
          ·conv => arg 3; whnf
           refine Zc (Za t0 t1 t2 t3 s0.1 x80.1 s0.2.2.1 x80.2 m1_0 m1_1 m1_2 m1_3 m1_4 m1_5) (hrc t0 t1 t2 t3 s0.1 x80.1 s0.2.2.1 x80.2 m1_0 m1_1 m1_2 m1_3 m1_4 m1_5) fun x81 hx81 => ?_
           conv => arg 3; whnf
           exact Zd (ih _)
          ·conv => arg 3; whnf
           refine Zc (Za t0 t1 t2 t3 s0.1 x80.1 s0.2.2.1 x80.2 m1_0 m1_1 m1_2 m1_3 m1_4 m1_5) (hrc t0 t1 t2 t3 s0.1 x80.1 s0.2.2.1 x80.2 m1_0 m1_1 m1_2 m1_3 m1_4 m1_5) fun x82 hx82 => ?_
           conv => arg 3; whnf
           exact Zd (ih _)
         ·conv => arg 3; whnf
          refine Ze rfl ?_ ?_
          ·conv => arg 3; whnf
           refine Zc (Za t0 t1 t2 t3 (w64 (x80.1 + 1)) s0.2.1 s0.2.2.1 x80.2 m1_0 m1_1 m1_2 m1_3 m1_4 m1_5) (hrc t0 t1 t2 t3 (w64 (x80.1 + 1)) s0.2.1 s0.2.2.1 x80.2 m1_0 m1_1 m1_2 m1_3 m1_4 m1_5) fun x83 hx83 => ?_
           conv => arg 3; whnf
           exact Zd (ih _)
          ·conv => arg 3; whnf
           refine Zc (Za t0 t1 t2 t3 (w64 (x80.1 + 1)) s0.2.1 s0.2.2.1 x80.2 m1_0 m1_1 m1_2 m1_3 m1_4 m1_5) (hrc t0 t1 t2 t3 (w64 (x80.1 + 1)) s0.2.1 s0.2.2.1 x80.2 m1_0 m1_1 m1_2 m1_3 m1_4 m1_5) fun x84 hx84 => ?_
           conv => arg 3; whnf
           exact Zd (ih _)
        ·conv => arg 3; whnf
         refine Zae rfl ?_
         conv => arg 3; whnf
         refine Zae rfl ?_
         conv => arg 3; whnf
         refine Ze rfl ?_ ?_
         ·conv => arg 3; whnf
          refine Ze rfl ?_ ?_
          ·conv => arg 3; whnf
           refine Zc (Za t0 t1 t2 t3 s0.1 x80.1 s0.2.2.1 x80.2 m1_0 m1_1 m1_2 m1_3 m1_4 m1_5) (hrc t0 t1 t2 t3 s0.1 x80.1 s0.2.2.1 x80.2 m1_0 m1_1 m1_2 m1_3 m1_4 m1_5) fun x85 hx85 => ?_
           conv => arg 3; whnf
           exact Zd (ih _)
          ·conv => arg 3; whnf
           refine Zc (Za t0 t1 t2 t3 s0.1 x80.1 s0.2.2.1 x80.2 m1_0 m1_1 m1_2 m1_3 m1_4 m1_5) (hrc t0 t1 t2 t3 s0.1 x80.1 s0.2.2.1 x80.2 m1_0 m1_1 m1_2 m1_3 m1_4 m1_5) fun x86 hx86 => ?_
           conv => arg 3; whnf
           exact Zd (ih _)
         ·conv => arg 3; whnf
          refine Ze rfl ?_ ?_
          ·conv => arg 3; whnf
           refine Zc (Za t0 t1 t2 t3 (w64 (x80.1 + 1)) s0.2.1 s0.2.2.1 x80.2 m1_0 m1_1 m1_2 m1_3 m1_4 m1_5) (hrc t0 t1 t2 t3 (w64 (x80.1 + 1)) s0.2.1 s0.2.2.1 x80.2 m1_0 m1_1 m1_2 m1_3 m1_4 m1_5) fun x87 hx87 => ?_
           conv => arg 3; whnf
           exact Zd (ih _)
          ·conv => arg 3; whnf
           refine Zc (Za t0 t1 t2 t3 (w64 (x80.1 + 1)) s0.2.1 s0.2.2.1 x80.2 m1_0 m1_1 m1_2 m1_3 m1_4 m1_5) (hrc t0 t1 t2 t3 (w64 (x80.1 + 1)) s0.2.1 s0.2.2.1 x80.2 m1_0 m1_1 m1_2 m1_3 m1_4 m1_5) fun x88 hx88 => ?_
           conv => arg 3; whnf
           exact Zd (ih _)
       ·conv => arg 3; whnf
        refine Zc _ Zw fun x89 hx89 => ?_
        conv => arg 3; whnf
        exact Zd (ih _)
      ·conv => arg 3; whnf
       refine Zc _ Zh fun x90 hx90 => ?_
       clear hx90
       rcases x90 with x90 | x90
       ·conv => arg 3; whnf
        refine ZbZ rfl ?_
        conv => arg 3; whnf
        refine Zae rfl ?_
        conv => arg 3; whnf
        refine Ze rfl ?_ ?_
        ·conv => arg 3; whnf
         refine Ze rfl ?_ ?_
         ·conv => arg 3; whnf
          refine Zc (Za t0 t1 t2 t3 s0.1 x90.1 s0.2.2.1 x90.2 m1_0 m1_1 m1_2 m1_3 m1_4 m1_5) (hrc t0 t1 t2 t3 s0.1 x90.1 s0.2.2.1 x90.2 m1_0 m1_1 m1_2 m1_3 m1_4 m1_5) fun x91 hx91 => ?_
          conv => arg 3; whnf
          exact Zd (ih _)
         ·conv => arg 3; whnf
          refine Zc (Za t0 t1 t2 t3 s0.1 x90.1 s0.2.2.1 x90.2 m1_0 m1_1 m1_2 m1_3 m1_4 m1_5) (hrc t0 t1 t2 t3 s0.1 x90.1 s0.2.2.1 x90.2 m1_0 m1_1 m1_2 m1_3 m1_4 m1_5) fun x92 hx92 => ?_
          conv => arg 3; whnf
          exact Zd (ih _)
        ·conv => arg 3; whnf
         refine Ze rfl ?_ ?_
         ·conv => arg 3; whnf
          refine Zc (Za t0 t1 t2 t3 (w64 (x90.1 + 1)) s0.2.1 s0.2.2.1 x90.2 m1_0 m1_1 m1_2 m1_3 m1_4 m1_5) (hrc t0 t1 t2 t3 (w64 (x90.1 + 1)) s0.2.1 s0.2.2.1 x90.2 m1_0 m1_1 m1_2 m1_3 m1_4 m1_5) fun x93 hx93 => ?_
          conv => arg 3; whnf
          exact Zd (ih _)
         ·conv => arg 3; whnf
          refine Zc (Za t0 t1 t2 t3 (w64 (x90.1 + 1)) s0.2.1 s0.2.2.1 x90.2 m1_0 m1_1 m1_2 m1_3 m1_4 m1_5) (hrc t0 t1 t2 t3 (w64 (x90.1 + 1)) s0.2.1 s0.2.2.1 x90.2 m1_0 m1_1 m1_2 m1_3 m1_4 m1_5) fun x94 hx94 => ?_
          conv => arg 3; whnf
          exact Zd (ih _)
       ·conv => arg 3; whnf
        refine Zae rfl ?_
        conv => arg 3; whnf
        refine Zae rfl ?_
        conv => arg 3; whnf
        refine Ze rfl ?_ ?_
        ·conv => arg 3; whnf
         refine Ze rfl ?_ ?_
         ·conv => arg 3; whnf
          refine Zc (Za t0 t1 t2 t3 s0.1 x90.1 s0.2.2.1 x90.2 m1_0 m1_1 m1_2 m1_3 m1_4 m1_5) (hrc t0 t1 t2 t3 s0.1 x90.1 s0.2.2.1 x90.2 m1_0 m1_1 m1_2 m1_3 m1_4 m1_5) fun x95 hx95 => ?_
          conv => arg 3; whnf
          exact Zd (ih _)
         ·conv => arg 3; whnf
          refine Zc (Za t0 t1 t2 t3 s0.1 x90.1 s0.2.2.1 x90.2 m1_0 m1_1 m1_2 m1_3 m1_4 m1_5) (hrc t0 t1 t2 t3 s0.1 x90.1 s0.2.2.1 x90.2 m1_0 m1_1 m1_2 m1_3 m1_4 m1_5) fun x96 hx96 => ?_
          conv => arg 3; whnf
          exact Zd (ih _)
        ·conv => arg 3; whnf
         refine Ze rfl ?_ ?_
         ·conv => arg 3; whnf
          refine Zc (Za t0 t1 t2 t3 (w64 (x90.1 + 1)) s0.2.1 s0.2.2.1 x90.2 m1_0 m1_1 m1_2 m1_3 m1_4 m1_5) (hrc t0 t1 t2 t3 (w64 (x90.1 + 1)) s0.2.1 s0.2.2.1 x90.2 m1_0 m1_1 m1_2 m1_3 m1_4 m1_5) fun x97 hx97 => ?_
          conv => arg 3; whnf
          exact Zd (ih _)
         ·conv => arg 3; whnf
          refine Zc (Za t0 t1 t2 t3 (w64 (x90.1 + 1)) s0.2.1 s0.2.2.1 x90.2 m1_0 m1_1 m1_2 m1_3 m1_4 m1_5) (hrc t0 t1 t2 t3 (w64 (x90.1 + 1)) s0.2.1 s0.2.2.1 x90.2 m1_0 m1_1 m1_2 m1_3 m1_4 m1_5) fun x98 hx98 => ?_
          conv => arg 3; whnf
          exact Zd (ih _)
     ·conv => arg 3; whnf
      refine Ze rfl ?_ ?_
      ·conv => arg 3; whnf
       refine Zl rfl rfl fun x99 hx99 => ?_
       conv => arg 3; whnf
       refine Zg (Zv rfl hx99) ?_
       conv => arg 3; whnf
       refine Zl rfl rfl fun x100 hx100 => ?_
       conv => arg 3; whnf
       refine Zg (Zv rfl hx100) ?_
       conv => arg 3; whnf
       refine Zk _ Zz rfl fun x101 hx101 => ?_
       conv => arg 3; whnf
       refine Ze rfl ?_ ?_
       ·conv => arg 3; whnf
        refine Zc _ Zh fun x102 hx102 => ?_
        clear hx102
        rcases x102 with x102 | x102
        ·conv => arg 3; whnf
         refine ZbZ rfl ?_
         conv => arg 3; whnf
         refine Zae rfl ?_
         conv => arg 3; whnf
         refine Ze rfl ?_ ?_
         ·conv => arg 3; whnf
          refine Ze rfl ?_ ?_
          ·conv => arg 3; whnf
           refine Zc (Za t0 t1 t2 t3 s0.1 x102.1 s0.2.2.1 x102.2 m1_0 m1_1 m1_2 m1_3 m1_4 m1_5) (hrc t0 t1 t2 t3 s0.1 x102.1 s0.2.2.1 x102.2 m1_0 m1_1 m1_2 m1_3 m1_4 m1_5) fun x103 hx103 => ?_
           conv => arg 3; whnf
           exact Zd (ih _)
          ·conv => arg 3; whnf
           refine Zc (Za t0 t1 t2 t3 s0.1 x102.1 s0.2.2.1 x102.2 m1_0 m1_1 m1_2 m1_3 m1_4 m1_5) (hrc t0 t1 t2 t3 s0.1 x102.1 s0.2.2.1 x102.2 m1_0 m1_1 m1_2 m1_3 m1_4 m1_5) fun x104 hx104 => ?_
           conv => arg 3; whnf
           exact Zd (ih _)
         ·conv => arg 3; whnf
          refine Ze rfl ?_ ?_
          ·conv => arg 3; whnf
           refine Zc (Za t0 t1 t2 t3 (w64 (x102.1 + 1)) s0.2.1 s0.2.2.1 x102.2 m1_0 m1_1 m1_2 m1_3 m1_4 m1_5) (hrc t0 t1 t2 t3 (w64 (x102.1 + 1)) s0.2.1 s0.2.2.1 x102.2 m1_0 m1_1 m1_2 m1_3 m1_4 m1_5) fun x105 hx105 => ?_
           conv => arg 3; whnf
           exact Zd (ih _)
          ·conv => arg 3; whnf
           refine Zc (Za t0 t1 t2 t3 (w64 (x102.1 + 1)) s0.2.1 s0.2.2.1 x102.2 m1_0 m1_1 m1_2 m1_3 m1_4 m1_5) (hrc t0 t1 t2 t3 (w64 (x102.1 + 1)) s0.2.1 s0.2.2.1 x102.2 m1_0 m1_1 m1_2 m1_3 m1_4 m1_5) fun x106 hx106 => ?_
           conv => arg 3; whnf
           exact Zd (ih _)
        ·conv => arg 3; whnf
         refine Zae rfl ?_
         conv => arg 3; whnf
         refine Zae rfl ?_
         conv => arg 3; whnf
         refine Ze rfl ?_ ?_
         ·conv => arg 3; whnf
          refine Ze rfl ?_ ?_
          ·conv => arg 3; whnf
           refine Zc (Za t0 t1 t2 t3 s0.1 x102.1 s0.2.2.1 x102.2 m1_0 m1_1 m1_2 m1_3 m1_4 m1_5) (hrc t0 t1 t2 t3 s0.1 x102.1 s0.2.2.1 x102.2 m1_0 m1_1 m1_2 m1_3 m1_4 m1_5) fun x107 hx107 => ?_
           conv => arg 3; whnf
           exact Zd (ih _)
          ·conv => arg 3; whnf
           refine Zc (Za t0 t1 t2 t3 s0.1 x102.1 s0.2.2.1 x102.2 m1_0 m1_1 m1_2 m1_3 m1_4 m1_5) (hrc t0 t1 t2 t3 s0.1 x102.1 s0.2.2.1 x102.2 m1_0 m1_1 m1_2 m1_3 m1_4 m1_5) fun x108 hx108 => ?_
           conv => arg 3; whnf
           exact Zd (ih _)
         ·conv => arg 3; whnf
          refine Ze rfl ?_ ?_
          ·conv => arg 3; whnf
           refine Zc (Za t0 t1 t2 t3 (w64 (x102.1 + 1)) s0.2.1 s0.2.2.1 x102.2 m1_0 m1_1 m1_2 m1_3 m1_4 m1_5) (hrc t0 t1 t2 t3 (w64 (x102.1 + 1)) s0.2.1 s0.2.2.1 x102.2 m1_0 m1_1 m1_2 m1_3 m1_4 m1_5) fun x109 hx109 => ?_
           conv => arg 3; whnf
           exact Zd (ih _)
          ·conv => arg 3; whnf
           refine Zc (Za t0 t1 t2 t3 (w64 (x102.1 + 1)) s0.2.1 s0.2.2.1 x102.2 m1_0 m1_1 m1_2 m1_3 m1_4 m1_5) (hrc t0 t1 t2 t3 (w64 (x102.1 + 1)) s0.2.1 s0.2.2.1 x102.2 m1_0 m1_1 m1_2 m1_3 m1_4 m1_5) fun x110 hx110 => ?_
           conv => arg 3; whnf
           exact Zd (ih _)
       ·conv => arg 3; whnf
        refine Zc _ Zw fun x111 hx111 => ?_
        conv => arg 3; whnf
        exact Zd (ih _)
      ·conv => arg 3; whnf
       refine Zc _ Zh fun x112 hx112 => ?_
       clear hx112
       rcases x112 with x112 | x112
       ·conv => arg 3; whnf
        refine ZbZ rfl ?_
        conv => arg 3; whnf
        refine Zae rfl ?_
        conv => arg 3; whnf
        refine Ze rfl ?_ ?_
        ·conv => arg 3; whnf
         refine Ze rfl ?_ ?_
         ·conv => arg 3; whnf
          refine Zc (Za t0 t1 t2 t3 s0.1 x112.1 s0.2.2.1 x112.2 m1_0 m1_1 m1_2 m1_3 m1_4 m1_5) (hrc t0 t1 t2 t3 s0.1 x112.1 s0.2.2.1 x112.2 m1_0 m1_1 m1_2 m1_3 m1_4 m1_5) fun x113 hx113 => ?_
          conv => arg 3; whnf
          exact Zd (ih _)
         ·conv => arg 3; whnf
          refine Zc (Za t0 t1 t2 t3 s0.1 x112.1 s0.2.2.1 x112.2 m1_0 m1_1 m1_2 m1_3 m1_4 m1_5) (hrc t0 t1 t2 t3 s0.1 x112.1 s0.2.2.1 x112.2 m1_0 m1_1 m1_2 m1_3 m1_4 m1_5) fun x114 hx114 => ?_
          conv => arg 3; whnf
          exact Zd (ih _)
        ·conv => arg 3; whnf
         refine Ze rfl ?_ ?_
         ·conv => arg 3; whnf
          refine Zc (Za t0 t1 t2 t3 (w64 (x112.1 + 1)) s0.2.1 s0.2.2.1 x112.2 m1_0 m1_1 m1_2 m1_3 m1_4 m1_5) (hrc t0 t1 t2 t3 (w64 (x112.1 + 1)) s0.2.1 s0.2.2.1 x112.2 m1_0 m1_1 m1_2 m1_3 m1_4 m1_5) fun x115 hx115 => ?_
          conv => arg 3; whnf
          exact Zd (ih _)
         ·conv => arg 3; whnf
          refine Zc (Za t0 t1 t2 t3 (w64 (x112.1 + 1)) s0.2.1 s0.2.2.1 x112.2 m1_0 m1_1 m1_2 m1_3 m1_4 m1_5) (hrc t0 t1 t2 t3 (w64 (x112.1 + 1)) s0.2.1 s0.2.2.1 x112.2 m1_0 m1_1 m1_2 m1_3 m1_4 m1_5) fun x116 hx116 => ?_
          conv => arg 3; whnf
          exact Zd (ih _)
       ·conv => arg 3; whnf
        refine Zae rfl ?_
        conv => arg 3; whnf
        refine Zae rfl ?_
        conv => arg 3; whnf
        refine Ze rfl ?_ ?_
        ·conv => arg 3; whnf
         refine Ze rfl ?_ ?_
         ·conv => arg 3; whnf
          refine Zc (Za t0 t1 t2 t3 s0.1 x112.1 s0.2.2.1 x112.2 m1_0 m1_1 m1_2 m1_3 m1_4 m1_5) (hrc t0 t1 t2 t3 s0.1 x112.1 s0.2.2.1 x112.2 m1_0 m1_1 m1_2 m1_3 m1_4 m1_5) fun x117 hx117 => ?_
          conv => arg 3; whnf
          exact Zd (ih _)
         ·conv => arg 3; whnf
          refine Zc (Za t0 t1 t2 t3 s0.1 x112.1 s0.2.2.1 x112.2 m1_0 m1_1 m1_2 m1_3 m1_4 m1_5) (hrc t0 t1 t2 t3 s0.1 x112.1 s0.2.2.1 x112.2 m1_0 m1_1 m1_2 m1_3 m1_4 m1_5) fun x118 hx118 => ?_
          conv => arg 3; whnf
          exact Zd (ih _)
        ·conv => arg 3; whnf
         refine Ze rfl ?_ ?_
         ·conv => arg 3; whnf
          refine Zc (Za t0 t1 t2 t3 (w64 (x112.1 + 1)) s0.2.1 s0.2.2.1 x112.2 m1_0 m1_1 m1_2 m1_3 m1_4 m1_5) (hrc t0 t1 t2 t3 (w64 (x112.1 + 1)) s0.2.1 s0.2.2.1 x112.2 m1_0 m1_1 m1_2 m1_3 m1_4 m1_5) fun x119 hx119 => ?_
          conv => arg 3; whnf
          exact Zd (ih _)
         ·conv => arg 3; whnf
          refine Zc (Za t0 t1 t2 t3 (w64 (x112.1 + 1)) s0.2.1 s0.2.2.1 x112.2 m1_0 m1_1 m1_2 m1_3 m1_4 m1_5) (hrc t0 t1 t2 t3 (w64 (x112.1 + 1)) s0.2.1 s0.2.2.1 x112.2 m1_0 m1_1 m1_2 m1_3 m1_4 m1_5) fun x120 hx120 => ?_
          conv => arg 3; whnf
          exact Zd (ih _)
  ·refine ZoO ?_
   conv => arg 3; whnf
   refine Ze rfl ?_ ?_
   ·conv => arg 3; whnf
    refine Zc _ Z2 fun x1 hx1 => ?_
    conv => arg 3; whnf
    exact Zf rfl
   ·conv => arg 3; whnf
    refine Ze rfl ?_ ?_
    ·conv => arg 3; whnf
     refine Zc _ Zai fun x2 hx2 => ?_
     conv => arg 3; whnf
     exact Zf rfl
    ·conv => arg 3; whnf
     refine Zc _ Zab fun x3 hx3 => ?_
     conv => arg 3; whnf
     refine Ze rfl ?_ ?_
     ·conv => arg 3; whnf
      refine Zc _ Z7 fun x4 hx4 => ?_
      conv => arg 3; whnf
      refine ZbZ rfl ?_
      conv => arg 3; whnf
      refine Zc _ ZaV fun x5 hx5 => ?_
      clear hx5
      rcases x5 with x5 | x5
      ·conv => arg 3; whnf
       exact Zf rfl
      ·conv => arg 3; whnf
       refine Ze rfl ?_ ?_
       ·conv => arg 3; whnf
        refine Zl rfl rfl fun x6 hx6 => ?_
        conv => arg 3; whnf
        refine Zg (Zv rfl hx6) ?_
        conv => arg 3; whnf
        refine Zl rfl rfl fun x7 hx7 => ?_
        conv => arg 3; whnf
        refine Zg (Zv rfl hx7) ?_
        conv => arg 3; whnf
        refine Zk _ Zz rfl fun x8 hx8 => ?_
        conv => arg 3; whnf
        refine Ze rfl ?_ ?_
        ·conv => arg 3; whnf
         refine Zc _ Zh fun x9 hx9 => ?_
         clear hx9
         rcases x9 with x9 | x9
         ·conv => arg 3; whnf
          refine ZbZ rfl ?_
          conv => arg 3; whnf
          refine Zae rfl ?_
          conv => arg 3; whnf
          refine Ze rfl ?_ ?_
          ·conv => arg 3; whnf
           refine Ze rfl ?_ ?_
           ·conv => arg 3; whnf
            refine Zc (Za t0 t1 t2 t3 s0.1 x9.1 s0.2.2.1 x9.2 m1_0 m1_1 m1_2 m1_3 m1_4 m1_5) (hrc t0 t1 t2 t3 s0.1 x9.1 s0.2.2.1 x9.2 m1_0 m1_1 m1_2 m1_3 m1_4 m1_5) fun x10 hx10 => ?_
            conv => arg 3; whnf
            exact Zd (ih _)
           ·conv => arg 3; whnf
            refine Zc (Za t0 t1 t2 t3 s0.1 x9.1 s0.2.2.1 x9.2 m1_0 m1_1 m1_2 m1_3 m1_4 m1_5) (hrc t0 t1 t2 t3 s0.1 x9.1 s0.2.2.1 x9.2 m1_0 m1_1 m1_2 m1_3 m1_4 m1_5) fun x11 hx11 => ?_
            conv => arg 3; whnf
            exact Zd (ih _)
          ·conv => arg 3; whnf
           refine Ze rfl ?_ ?_
           ·conv => arg 3; whnf
            refine Zc (Za t0 t1 t2 t3 (w64 (x9.1 + 1)) s0.2.1 s0.2.2.1 x9.2 m1_0 m1_1 m1_2 m1_3 m1_4 m1_5) (hrc t0 t1 t2 t3 (w64 (x9.1 + 1)) s0.2.1 s0.2.2.1 x9.2 m1_0 m1_1 m1_2 m1_3 m1_4 m1_5) fun x12 hx12 => ?_
            conv => arg 3; whnf
            exact Zd (ih _)
           ·conv => arg 3; whnf
            refine Zc (Za t0 t1 t2 t3 (w64 (x9.1 + 1)) s0.2.1 s0.2.2.1 x9.2 m1_0 m1_1 m1_2 m1_3 m1_4 m1_5) (hrc t0 t1 t2 t3 (w64 (x9.1 + 1)) s0.2.1 s0.2.2.1 x9.2 m1_0 m1_1 m1_2 m1_3 m1_4 m1_5) fun x13 hx13 => ?_
            conv => arg 3; whnf
            exact Zd (ih _)
         ·conv => arg 3; whnf
          refine Zae rfl ?_
          conv => arg 3; whnf
          refine Zae rfl ?_
          conv => arg 3; whnf
          refine Ze rfl ?_ ?_
          ·conv => arg 3; whnf
           refine Ze rfl ?_ ?_
           ·conv => arg 3; whnf
            refine Zc (Za t0 t1 t2 t3 s0.1 x9.1 s0.2.2.1 x9.2 m1_0 m1_1 m1_2 m1_3 m1_4 m1_5) (hrc t0 t1 t2 t3 s0.1 x9.1 s0.2.2.1 x9.2 m1_0 m1_1 m1_2 m1_3 m1_4 m1_5) fun x14 hx14 => ?_
            conv => arg 3; whnf
            exact Zd (ih _)
           ·conv => arg 3; whnf
            refine Zc (Za t0 t1 t2 t3 s0.1 x9.1 s0.2.2.1 x9.2 m1_0 m1_1 m1_2 m1_3 m1_4 m1_5) (hrc t0 t1 t2 t3 s0.1 x9.1 s0.2.2.1 x9.2 m1_0 m1_1 m1_2 m1_3 m1_4 m1_5) fun x15 hx15 => ?_
            conv => arg 3; whnf
            exact Zd (ih _)
          ·conv => arg 3; whnf
           refine Ze rfl ?_ ?_
           ·conv => arg 3; whnf
            refine Zc (Za t0 t1 t2 t3 (w64 (x9.1 + 1)) s0.2.1 s0.2.2.1 x9.2 m1_0 m1_1 m1_2 m1_3 m1_4 m1_5) (hrc t0 t1 t2 t3 (w64 (x9.1 + 1)) s0.2.1 s0.2.2.1 x9.2 m1_0 m1_1 m1_2 m1_3 m1_4 m1_5) fun x16 hx16 => ?_
            conv => arg 3; whnf
            exact Zd (ih _)
           ·conv => arg 3; whnf
            refine Zc (Za t0 t1 t2 t3 (w64 (x9.1 + 1)) s0.2.1 s0.2.2.1 x9.2 m1_0 m1_1 m1_2 m1_3 m1_4 m1_5) (hrc t0 t1 t2 t3 (w64 (x9.1 + 1)) s0.2.1 s0.2.2.1 x9.2 m1_0 m1_1 m1_2 m1_3 m1_4 m1_5) fun x17 hx17 => ?_
            conv => arg 3; whnf
            exact Zd (ih _)
        ·conv => arg 3; whnf
         refine Zc _ Zw fun x18 hx18 => ?_
         conv => arg 3; whnf
         exact Zd (ih _)
       ·conv => arg 3; whnf
        refine Zc _ Zh fun x19 hx19 => ?_
        clear hx19
        rcases x19 with x19 | x19
        ·conv => arg 3; whnf
         refine ZbZ rfl ?_
         conv => arg 3; whnf
         refine Zae rfl ?_
         conv => arg 3; whnf
         refine Ze rfl ?_ ?_
         ·conv => arg 3; whnf
          refine Ze rfl ?_ ?_
          ·conv => arg 3; whnf
           refine Zc (Za t0 t1 t2 t3 s0.1 x19.1 s0.2.2.1 x19.2 m1_0 m1_1 m1_2 m1_3 m1_4 m1_5) (hrc t0 t1 t2 t3 s0.1 x19.1 s0.2.2.1 x19.2 m1_0 m1_1 m1_2 m1_3 m1_4 m1_5) fun x20 hx20 => ?_
           conv => arg 3; whnf
           exact Zd (ih _)
          ·conv => arg 3; whnf
           refine Zc (Za t0 t1 t2 t3 s0.1 x19.1 s0.2.2.1 x19.2 m1_0 m1_1 m1_2 m1_3 m1_4 m1_5) (hrc t0 t1 t2 t3 s0.1 x19.1 s0.2.2.1 x19.2 m1_0 m1_1 m1_2 m1_3 m1_4 m1_5) fun x21 hx21 => ?_
           conv => arg 3; whnf
           exact Zd (ih _)
         ·conv => arg 3; whnf
          refine Ze rfl ?_ ?_
          ·conv => arg 3; whnf
           refine Zc (Za t0 t1 t2 t3 (w64 (x19.1 + 1)) s0.2.1 s0.2.2.1 x19.2 m1_0 m1_1 m1_2 m1_3 m1_4 m1_5) (hrc t0 t1 t2 t3 (w64 (x19.1 + 1)) s0.2.1 s0.2.2.1 x19.2 m1_0 m1_1 m1_2 m1_3 m1_4 m1_5) fun x22 hx22 => ?_
           conv => arg 3; whnf
           exact Zd (ih _)
          ·conv => arg 3; whnf
           refine Zc (Za t0 t1 t2 t3 (w64 (x19.1 + 1)) s0.2.1 s0.2.2.1 x19.2 m1_0 m1_1 m1_2 m1_3 m1_4 m1_5) (hrc t0 t1 t2 t3 (w64 (x19.1 + 1)) s0.2.1 s0.2.2.1 x19.2 m1_0 m1_1 m1_2 m1_3 m1_4 m1_5) fun x23 hx23 => ?_
           conv => arg 3; whnf
           exact Zd (ih _)
        ·conv => arg 3; whnf
         refine Zae rfl ?_
         conv => arg 3; whnf
         refine Zae rfl ?_
         conv => arg 3; whnf
         refine Ze rfl ?_ ?_
         ·conv => arg 3; whnf
          refine Ze rfl ?_ ?_
          ·conv => arg 3; whnf
           refine Zc (Za t0 t1 t2 t3 s0.1 x19.1 s0.2.2.1 x19.2 m1_0 m1_1 m1_2 m1_3 m1_4 m1_5) (hrc t0 t1 t2 t3 s0.1 x19.1 s0.2.2.1 x19.2 m1_0 m1_1 m1_2 m1_3 m1_4 m1_5) fun x24 hx24 => ?_
           conv => arg 3; whnf
           exact Zd (ih _)
          ·conv => arg 3; whnf
           refine Zc (Za t0 t1 t2 t3 s0.1 x19.1 s0.2.2.1 x19.2 m1_0 m1_1 m1_2 m1_3 m1_4 m1_5) (hrc t0 t1 t2 t3 s0.1 x19.1 s0.2.2.1 x19.2 m1_0 m1_1 m1_2 m1_3 m1_4 m1_5) fun x25 hx25 => ?_
           conv => arg 3; whnf
           exact Zd (ih _)
         ·conv => arg 3; whnf
          refine Ze rfl ?_ ?_
          ·conv => arg 3; whnf
           refine Zc (Za t0 t1 t2 t3 (w64 (x19.1 + 1)) s0.2.1 s0.2.2.1 x19.2 m1_0 m1_1 m1_2 m1_3 m1_4 m1_5) (hrc t0 t1 t2 t3 (w64 (x19.1 + 1)) s0.2.1 s0.2.2.1 x19.2 m1_0 m1_1 m1_2 m1_3 m1_4 m1_5) fun x26 hx26 => ?_
           conv => arg 3; whnf
           exact Zd (ih _)
          ·conv => arg 3; whnf
           refine Zc (Za t0 t1 t2 t3 (w64 (x19.1 + 1)) s0.2.1 s0.2.2.1 x19.2 m1_0 m1_1 m1_2 m1_3 m1_4 m1_5) (hrc t0 t1 t2 t3 (w64 (x19.1 + 1)) s0.2.1 s0.2.2.1 x19.2 m1_0 m1_1 m1_2 m1_3 m1_4 m1_5) fun x27 hx27 => ?_
           conv => arg 3; whnf
           exact Zd (ih _)
     ·conv => arg 3; whnf
      refine Ze rfl ?_ ?_
      ·conv => arg 3; whnf
       refine Zc _ ZaV fun x28 hx28 => ?_
       clear hx28
       rcases x28 with x28 | x28
       ·conv => arg 3; whnf
        exact Zf rfl
       ·conv => arg 3; whnf
        refine Ze rfl ?_ ?_
        ·conv => arg 3; whnf
         refine Zl rfl rfl fun x29 hx29 => ?_
         conv => arg 3; whnf
         refine Zg (Zv rfl hx29) ?_
         conv => arg 3; whnf
         refine Zl rfl rfl fun x30 hx30 => ?_
         conv => arg 3; whnf
         refine Zg (Zv rfl hx30) ?_
         conv => arg 3; whnf
         refine Zk _ Zz rfl fun x31 hx31 => ?_
         conv => arg 3; whnf
         refine Ze rfl ?_ ?_
         ·conv => arg 3; whnf
          refine Zc _ Zh fun x32 hx32 => ?_
          clear hx32
          rcases x32 with x32 | x32
          ·conv => arg 3; whnf
           refine ZbZ rfl ?_
           conv => arg 3; whnf
           refine Zae rfl ?_
           conv => arg 3; whnf
           refine Ze rfl ?_ ?_
           ·conv => arg 3; whnf
            refine Ze rfl ?_ ?_
            ·conv => arg 3; whnf
             refine Zc (Za t0 t1 t2 t3 s0.1 x32.1 s0.2.2.1 x32.2 m1_0 m1_1 m1_2 m1_3 m1_4 m1_5) (hrc t0 t1 t2 t3 s0.1 x32.1 s0.2.2.1 x32.2 m1_0 m1_1 m1_2 m1_3 m1_4 m1_5) fun x33 hx33 => ?_
             conv => arg 3; whnf
             exact Zd (ih _)
            ·conv => arg 3; whnf
             refine Zc (Za t0 t1 t2 t3 s0.1 x32.1 s0.2.2.1 x32.2 m1_0 m1_1 m1_2 m1_3 m1_4 m1_5) (hrc t0 t1 t2 t3 s0.1 x32.1 s0.2.2.1 x32.2 m1_0 m1_1 m1_2 m1_3 m1_4 m1_5) fun x34 hx34 => ?_
             conv => arg 3; whnf
             exact Zd (ih _)
           ·conv => arg 3; whnf
            refine Ze rfl ?_ ?_
            ·conv => arg 3; whnf
             refine Zc (Za t0 t1 t2 t3 (w64 (x32.1 + 1)) s0.2.1 s0.2.2.1 x32.2 m1_0 m1_1 m1_2 m1_3 m1_4 m1_5) (hrc t0 t1 t2 t3 (w64 (x32.1 + 1)) s0.2.1 s0.2.2.1 x32.2 m1_0 m1_1 m1_2 m1_3 m1_4 m1_5) fun x35 hx35 => ?_
             conv => arg 3; whnf
             exact Zd (ih _)
            ·conv => arg 3; whnf
             refine Zc (Za t0 t1 t2 t3 (w64 (x32.1 + 1)) s0.2.1 s0.2.2.1 x32.2 m1_0 m1_1 m1_2 m1_3 m1_4 m1_5) (hrc t0 t1 t2 t3 (w64 (x32.1 + 1)) s0.2.1 s0.2.2.1 x32.2 m1_0 m1_1 m1_2 m1_3 m1_4 m1_5) fun x36 hx36 => ?_
             conv => arg 3; whnf
             exact Zd (ih _)
          ·conv => arg 3; whnf
           refine Zae rfl ?_
           conv => arg 3; whnf
           refine Zae rfl ?_
           conv => arg 3; whnf
           refine Ze rfl ?_ ?_
           ·conv => arg 3; whnf
            refine Ze rfl ?_ ?_
            ·conv => arg 3; whnf
             refine Zc (Za t0 t1 t2 t3 s0.1 x32.1 s0.2.2.1 x32.2 m1_0 m1_1 m1_2 m1_3 m1_4 m1_5) (hrc t0 t1 t2 t3 s0.1 x32.1 s0.2.2.1 x32.2 m1_0 m1_1 m1_2 m1_3 m1_4 m1_5) fun x37 hx37 => ?_
             conv => arg 3; whnf
             exact Zd (ih _)
            ·conv => arg 3; whnf
             refine Zc (Za t0 t1 t2 t3 s0.1 x32.1 s0.2.2.1 x32.2 m1_0 m1_1 m1_2 m1_3 m1_4 m1_5) (hrc t0 t1 t2 t3 s0.1 x32.1 s0.2.2.1 x32.2 m1_0 m1_1 m1_2 m1_3 m1_4 m1_5) fun x38 hx38 => ?_
             conv => arg 3; whnf
             exact Zd (ih _)
           ·conv => arg 3; whnf
            refine Ze rfl ?_ ?_
            ·conv => arg 3; whnf
             refine Zc (Za t0 t1 t2 t3 (w64 (x32.1 + 1)) s0.2.1 s0.2.2.1 x32.2 m1_0 m1_1 m1_2 m1_3 m1_4 m1_5) (hrc t0 t1 t2 t3 (w64 (x32.1 + 1)) s0.2.1 s0.2.2.1 x32.2 m1_0 m1_1 m1_2 m1_3 m1_4 m1_5) fun x39 hx39 => ?_
             conv => arg 3; whnf
             exact Zd (ih _)
            ·conv => arg 3; whnf
             refine Zc (Za t0 t1 t2 t3 (w64 (x32.1 + 1)) s0.2.1 s0.2.2.1 x32.2 m1_0 m1_1 m1_2 m1_3 m1_4 m1_5) (hrc t0 t1 t2 t3 (w64 (x32.1 + 1)) s0.2.1 s0.2.2.1 x32.2 m1_0 m1_1 m1_2 m1_3 m1_4 m1_5) fun x40 hx40 => ?_
             conv => arg 3; whnf
             exact Zd (ih _)
         ·conv => arg 3; whnf
          refine Zc _ Zw fun x41 hx41 => ?_
          conv => arg 3; whnf
          exact Zd (ih _)
        ·conv => arg 3; whnf
         refine Zc _ Zh fun x42 hx42 => ?_
         clear hx42
         rcases x42 with x42 | x42
         ·conv => arg 3; whnf
          refine ZbZ rfl ?_
          conv => arg 3; whnf
          refine Zae rfl ?_
          conv => arg 3; whnf
          refine Ze rfl ?_ ?_
          ·conv => arg 3; whnf
           refine Ze rfl ?_ ?_
           ·conv => arg 3; whnf
            refine Zc (Za t0 t1 t2 t3 s0.1 x42.1 s0.2.2.1 x42.2 m1_0 m1_1 m1_2 m1_3 m1_4 m1_5) (hrc t0 t1 t2 t3 s0.1 x42.1 s0.2.2.1 x42.2 m1_0 m1_1 m1_2 m1_3 m1_4 m1_5) fun x43 hx43 => ?_
            conv => arg 3; whnf
            exact Zd (ih _)
           ·conv => arg 3; whnf
            refine Zc (Za t0 t1 t2 t3 s0.1 x42.1 s0.2.2.1 x42.2 m1_0 m1_1 m1_2 m1_3 m1_4 m1_5) (hrc t0 t1 t2 t3 s0.1 x42.1 s0.2.2.1 x42.2 m1_0 m1_1 m1_2 m1_3 m1_4 m1_5) fun x44 hx44 => ?_
            conv => arg 3; whnf
            exact Zd (ih _)
          ·conv => arg 3; whnf
           refine Ze rfl ?_ ?_
           ·conv => arg 3; whnf
            refine Zc (Za t0 t1 t2 t3 (w64 (x42.1 + 1)) s0.2.1 s0.2.2.1 x42.2 m1_0 m1_1 m1_2 m1_3 m1_4 m1_5) (hrc t0 t1 t2 t3 (w64 (x42.1 + 1)) s0.2.1 s0.2.2.1 x42.2 m1_0 m1_1 m1_2 m1_3 m1_4 m1_5) fun x45 hx45 => ?_
            conv => arg 3; whnf
            exact Zd (ih _)
           ·conv => arg 3; whnf
            refine Zc (Za t0 t1 t2 t3 (w64 (x42.1 + 1)) s0.2.1 s0.2.2.1 x42.2 m1_0 m1_1 m1_2 m1_3 m1_4 m1_5) (hrc t0 t1 t2 t3 (w64 (x42.1 + 1)) s0.2.1 s0.2.2.1 x42.2 m1_0 m1_1 m1_2 m1_3 m1_4 m1_5) fun x46 hx46 => ?_
            conv => arg 3; whnf
            exact Zd (ih _)
         ·conv => arg 3; whnf
          refine Zae rfl ?_
          conv => arg 3; whnf
          refine Zae rfl ?_
          conv => arg 3; whnf
          refine Ze rfl ?_ ?_
          ·conv => arg 3; whnf
           refine Ze rfl ?_ ?_
           ·conv => arg 3; whnf
            refine Zc (Za t0 t1 t2 t3 s0.1 x42.1 s0.2.2.1 x42.2 m1_0 m1_1 m1_2 m1_3 m1_4 m1_5) (hrc t0 t1 t2 t3 s0.1 x42.1 s0.2.2.1 x42.2 m1_0 m1_1 m1_2 m1_3 m1_4 m1_5) fun x47 hx47 => ?_
            conv => arg 3; whnf
            exact Zd (ih _)
           ·conv => arg 3; whnf
            refine Zc (Za t0 t1 t2 t3 s0.1 x42.1 s0.2.2.1 x42.2 m1_0 m1_1 m1_2 m1_3 m1_4 m1_5) (hrc t0 t1 t2 t3 s0.1 x42.1 s0.2.2.1 x42.2 m1_0 m1_1 m1_2 m1_3 m1_4 m1_5) fun x48 hx48 => ?_
            conv => arg 3; whnf
            exact Zd (ih _)
          ·conv => arg 3; whnf
           refine Ze rfl ?_ ?_
           ·conv => arg 3; whnf
            refine Zc (Za t0 t1 t2 t3 (w64 (x42.1 + 1)) s0.2.1 s0.2.2.1 x42.2 m1_0 m1_1 m1_2 m1_3 m1_4 m1_5) (hrc t0 t1 t2 t3 (w64 (x42.1 + 1)) s0.2.1 s0.2.2.1 x42.2 m1_0 m1_1 m1_2 m1_3 m1_4 m1_5) fun x49 hx49 => ?_
            conv => arg 3; whnf
            exact Zd (ih _)
           ·conv => arg 3; whnf
            refine Zc (Za t0 t1 t2 t3 (w64 (x42.1 + 1)) s0.2.1 s0.2.2.1 x42.2 m1_0 m1_1 m1_2 m1_3 m1_4 m1_5) (hrc t0 t1 t2 t3 (w64 (x42.1 + 1)) s0.2.1 s0.2.2.1 x42.2 m1_0 m1_1 m1_2 m1_3 m1_4 m1_5) fun x50 hx50 => ?_
            conv => arg 3; whnf
            exact Zd (ih _)
      ·conv => arg 3; whnf
       refine Ze rfl ?_ ?_
       ·conv => arg 3; whnf
        refine Zl rfl rfl fun x51 hx51 => ?_
        conv => arg 3; whnf
        refine Zg (Zv rfl hx51) ?_
        conv => arg 3; whnf
        refine Zl rfl rfl fun x52 hx52 => ?_
        conv => arg 3; whnf
        refine Zg (Zv rfl hx52) ?_
        conv => arg 3; whnf
        refine Zk _ Zz rfl fun x53 hx53 => ?_
        conv => arg 3; whnf
        refine Ze rfl ?_ ?_
        ·conv => arg 3; whnf
         refine Zc _ Zh fun x54 hx54 => ?_
         clear hx54
         rcases x54 with x54 | x54
         ·conv => arg 3; whnf
          refine ZbZ rfl ?_
          conv => arg 3; whnf
          refine Zae rfl ?_
          conv => arg 3; whnf
          refine Ze rfl ?_ ?_
          ·conv => arg 3; whnf
           refine Ze rfl ?_ ?_
           ·conv => arg 3; whnf
            refine Zc (Za t0 t1 t2 t3 s0.1 x54.1 s0.2.2.1 x54.2 m1_0 m1_1 m1_2 m1_3 m1_4 m1_5) (hrc t0 t1 t2 t3 s0.1 x54.1 s0.2.2.1 x54.2 m1_0 m1_1 m1_2 m1_3 m1_4 m1_5) fun x55 hx55 => ?_
            conv => arg 3; whnf
            exact Zd (ih _)
           ·conv => arg 3; whnf
            refine Zc (Za t0 t1 t2 t3 s0.1 x54.1 s0.2.2.1 x54.2 m1_0 m1_1 m1_2 m1_3 m1_4 m1_5) (hrc t0 t1 t2 t3 s0.1 x54.1 s0.2.2.1 x54.2 m1_0 m1_1 m1_2 m1_3 m1_4 m1_5) fun x56 hx56 => ?_
            conv => arg 3; whnf
            exact Zd (ih _)
          ·conv => arg 3; whnf
           refine Ze rfl ?_ ?_
           ·conv => arg 3; whnf
            refine Zc (Za t0 t1 t2 t3 (w64 (x54.1 + 1)) s0.2.1 s0.2.2.1 x54.2 m1_0 m1_1 m1_2 m1_3 m1_4 m1_5) (hrc t0 t1 t2 t3 (w64 (x54.1 + 1)) s0.2.1 s0.2.2.1 x54.2 m1_0 m1_1 m1_2 m1_3 m1_4 m1_5) fun x57 hx57 => ?_
            conv => arg 3; whnf
            exact Zd (ih _)
           ·conv => arg 3; whnf
            refine Zc (Za t0 t1 t2 t3 (w64 (x54.1 + 1)) s0.2.1 s0.2.2.1 x54.2 m1_0 m1_1 m1_2 m1_3 m1_4 m1_5) (hrc t0 t1 t2 t3 (w64 (x54.1 + 1)) s0.2.1 s0.2.2.1 x54.2 m1_0 m1_1 m1_2 m1_3 m1_4 m1_5) fun x58 hx58 => ?_
            conv => arg 3; whnf
            exact Zd (ih _)
         ·conv => arg 3; whnf
          refine Zae rfl ?_
          conv => arg 3; whnf
          refine Zae rfl ?_
          conv => arg 3; whnf
          refine Ze rfl ?_ ?_
          ·conv => arg 3; whnf
           refine Ze rfl ?_ ?_
           ·conv => arg 3; whnf
            refine Zc (Za t0 t1 t2 t3 s0.1 x54.1 s0.2.2.1 x54.2 m1_0 m1_1 m1_2 m1_3 m1_4 m1_5) (hrc t0 t1 t2 t3 s0.1 x54.1 s0.2.2.1 x54.2 m1_0 m1_1 m1_2 m1_3 m1_4 m1_5) fun x59 hx59 => ?_
            conv => arg 3; whnf
            exact Zd (ih _)
           ·conv => arg 3; whnf
            refine Zc (Za t0 t1 t2 t3 s0.1 x54.1 s0.2.2.1 x54.2 m1_0 m1_1 m1_2 m1_3 m1_4 m1_5) (hrc t0 t1 t2 t3 s0.1 x54.1 s0.2.2.1 x54.2 m1_0 m1_1 m1_2 m1_3 m1_4 m1_5) fun x60 hx60 => ?_
            conv => arg 3; whnf
            exact Zd (ih _)
          ·conv => arg 3; whnf
           refine Ze rfl ?_ ?_
           ·conv => arg 3; whnf
            refine Zc (Za t0 t1 t2 t3 (w64 (x54.1 + 1)) s0.2.1 s0.2.2.1 x54.2 m1_0 m1_1 m1_2 m1_3 m1_4 m1_5) (hrc t0 t1 t2 t3 (w64 (x54.1 + 1)) s0.2.1 s0.2.2.1 x54.2 m1_0 m1_1 m1_2 m1_3 m1_4 m1_5) fun x61 hx61 => ?_
            conv => arg 3; whnf
            exact Zd (ih _)
           ·conv => arg 3; whnf
            refine Zc (Za t0 t1 t2 t3 (w64 (x54.1 + 1)) s0.2.1 s0.2.2.1 x54.2 m1_0 m1_1 m1_2 m1_3 m1_4 m1_5) (hrc t0 t1 t2 t3 (w64 (x54.1 + 1)) s0.2.1 s0.2.2.1 x54.2 m1_0 m1_1 m1_2 m1_3 m1_4 m1_5) fun x62 hx62 => ?_
            conv => arg 3; whnf
            exact Zd (ih _)
        ·conv => arg 3; whnf
         refine Zc _ Zw fun x63 hx63 => ?_
         conv => arg 3; whnf
         exact Zd (ih _)
       ·conv => arg 3; whnf
        refine Zc _ Zh fun x64 hx64 => ?_
        clear hx64
        rcases x64 with x64 | x64
        ·conv => arg 3; whnf
         refine ZbZ rfl ?_
         conv => arg 3; whnf
         refine Zae rfl ?_
         conv => arg 3; whnf
         refine Ze rfl ?_ ?_
         ·conv => arg 3; whnf
          refine Ze rfl ?_ ?_
          ·conv => arg 3; whnf
           refine Zc (Za t0 t1 t2 t3 s0.1 x64.1 s0.2.2.1 x64.2 m1_0 m1_1 m1_2 m1_3 m1_4 m1_5) (hrc t0 t1 t2 t3 s0.1 x64.1 s0.2.2.1 x64.2 m1_0 m1_1 m1_2 m1_3 m1_4 m1_5) fun x65 hx65 => ?_
           conv => arg 3; whnf
           exact Zd (ih _)
          ·conv => arg 3; whnf
           refine Zc (Za t0 t1 t2 t3 s0.1 x64.1 s0.2.2.1 x64.2 m1_0 m1_1 m1_2 m1_3 m1_4 m1_5) (hrc t0 t1 t2 t3 s0.1 x64.1 s0.2.2.1 x64.2 m1_0 m1_1 m1_2 m1_3 m1_4 m1_5) fun x66 hx66 => ?_
           conv => arg 3; whnf
           exact Zd (ih _)
         ·conv => arg 3; whnf
          refine Ze rfl ?_ ?_
          ·conv => arg 3; whnf
           refine Zc (Za t0 t1 t2 t3 (w64 (x64.1 + 1)) s0.2.1 s0.2.2.1 x64.2 m1_0 m1_1 m1_2 m1_3 m1_4 m1_5) (hrc t0 t1 t2 t3 (w64 (x64.1 + 1)) s0.2.1 s0.2.2.1 x64.2 m1_0 m1_1 m1_2 m1_3 m1_4 m1_5) fun x67 hx67 => ?_
           conv => arg 3; whnf
           exact Zd (ih _)
          ·conv => arg 3; whnf
           refine Zc (Za t0 t1 t2 t3 (w64 (x64.1 + 1)) s0.2.1 s0.2.2.1 x64.2 m1_0 m1_1 m1_2 m1_3 m1_4 m1_5) (hrc t0 t1 t2 t3 (w64 (x64.1 + 1)) s0.2.1 s0.2.2.1 x64.2 m1_0 m1_1 m1_2 m1_3 m1_4 m1_5) fun x68 hx68 => ?_
           conv => arg 3; whnf
           exact Zd (ih _)
        ·conv => arg 3; whnf
         refine Zae rfl ?_
         conv => arg 3; whnf
         refine Zae rfl ?_
         conv => arg 3; whnf
         refine Ze rfl ?_ ?_
         ·conv => arg 3; whnf
          refine Ze rfl ?_ ?_
          ·conv => arg 3; whnf
           refine Zc (Za t0 t1 t2 t3 s0.1 x64.1 s0.2.2.1 x64.2 m1_0 m1_1 m1_2 m1_3 m1_4 m1_5) (hrc t0 t1 t2 t3 s0.1 x64.1 s0.2.2.1 x64.2 m1_0 m1_1 m1_2 m1_3 m1_4 m1_5) fun x69 hx69 => ?_
           conv => arg 3; whnf
           exact Zd (ih _)
          ·conv => arg 3; whnf
           refine Zc (Za t0 t1 t2 t3 s0.1 x64.1 s0.2.2.1 x64.2 m1_0 m1_1 m1_2 m1_3 m1_4 m1_5) (hrc t0 t1 t2 t3 s0.1 x64.1 s0.2.2.1 x64.2 m1_0 m1_1 m1_2 m1_3 m1_4 m1_5) fun x70 hx70 => ?_
           conv => arg 3; whnf
           exact Zd (ih _)
         ·conv => arg 3; whnf
          refine Ze rfl ?_ ?_
          ·conv => arg 3; whnf
           refine Zc (Za t0 t1 t2 t3 (w64 (x64.1 + 1)) s0.2.1 s0.2.2.1 x64.2 m1_0 m1_1 m1_2 m1_3 m1_4 m1_5) (hrc t0 t1 t2 t3 (w64 (x64.1 + 1)) s0.2.1 s0.2.2.1 x64.2 m1_0 m1_1 m1_2 m1_3 m1_4 m1_5) fun x71 hx71 => ?_
           conv => arg 3; whnf
           exact Zd (ih _)
          ·conv => arg 3; whnf
           refine Zc (Za t0 t1 t2 t3 (w64 (x64.1 + 1)) s0.2.1 s0.2.2.1 x64.2 m1_0 m1_1 m1_2 m1_3 m1_4 m1_5) (hrc t0 t1 t2 t3 (w64 (x64.1 + 1)) s0.2.1 s0.2.2.1 x64.2 m1_0 m1_1 m1_2 m1_3 m1_4 m1_5) fun x72 hx72 => ?_
           conv => arg 3; whnf
           exact Zd (ih _)
theorem Zdp (rc : Int → Int → Int → (Int → Int → Option Int) → (List Int) → Option (List Int)) (hrc : ∀ (t0 : Bool) (t1 : Bool) (t2 : Bool) (t3 : Bool) (b : Int) (c : Int) (d : Int) (m0_0 : (List Int)) (m1_0 : Int) (m1_1 : Int) (m1_2 : (List ZH)) (m1_3 : (List ZJ)) (m1_4 : (List Zr)) (m1_5 : (List Zn)) (r : (List Int)), rc b c d (fun z0 z1 => Zq z0 z1 m1_4) m0_0 = some r → evW ctx 124 [(.sl 0 1), (.d (Zb b)), (.d (Zb c)), (.d (Zb d)), (.fn 118 [(.ptr 1 0)])] [(.arr 1 (List.map Zb m0_0)), (.cells [(.d (Zb m1_0)), (.d (Zb m1_1)), (.d (D.list t0 (List.map ZV m1_2))), (.d (D.list t1 (List.map ZS m1_3))), (.d (D.list t2 (List.map Zu m1_4))), (.d (D.list t3 (List.map Zs m1_5)))])] = some ((Za t0 t1 t2 t3 b c d m0_0 m1_0 m1_1 m1_2 m1_3 m1_4 m1_5) r)) (t0 : Bool) (t1 : Bool) (t2 : Bool) (t3 : Bool) (b : Int) (c : Int) (d : Int) (m0_0 : (List Int)) (m1_0 : Int) (m1_1 : Int) (m1_2 : (List ZH)) (m1_3 : (List ZJ)) (m1_4 : (List Zr)) (m1_5 : (List Zn)) : ∀ r, (Zak rc b c d (fun z0 z1 => Zq z0 z1 m1_4) m0_0) = some r → evW ctx 124 [(.sl 0 1), (.d (Zb b)), (.d (Zb c)), (.d (Zb d)), (.fn 118 [(.ptr 1 0)])] [(.arr 1 (List.map Zb m0_0)), (.cells [(.d (Zb m1_0)), (.d (Zb m1_1)), (.d (D.list t0 (List.map ZV m1_2))), (.d (D.list t1 (List.map ZS m1_3))), (.d (D.list t2 (List.map Zu m1_4))), (.d (D.list t3 (List.map Zs m1_5)))])] = some ((Za t0 t1 t2 t3 b c d m0_0 m1_0 m1_1 m1_2 m1_3 m1_4 m1_5) r) := by
 show ZP _ (fun r rhs => rhs = some ((Za t0 t1 t2 t3 b c d m0_0 m1_0 m1_1 m1_2 m1_3 m1_4 m1_5) r)) _
 unfold Zak
 rw [Zfm ctx 124 ZtI _ _ rfl rfl]
 conv => arg 3; whnf
 refine Zc _ (Zdm hrc _) fun r219 hr219 => ?_
 conv => arg 3; whnf
 exact Zf rfl
theorem ZbK : ∀ (n : Nat) (t0 : Bool) (t1 : Bool) (t2 : Bool) (t3 : Bool) (b : Int) (c : Int) (d : Int) (m0_0 : (List Int)) (m1_0 : Int) (m1_1 : Int) (m1_2 : (List ZH)) (m1_3 : (List ZJ)) (m1_4 : (List Zr)) (m1_5 : (List Zn)) (r : (List Int)), ZU n b c d (fun z0 z1 => Zq z0 z1 m1_4) m0_0 = some r → evW ctx 124 [(.sl 0 1), (.d (Zb b)), (.d (Zb c)), (.d (Zb d)), (.fn 118 [(.ptr 1 0)])] [(.arr 1 (List.map Zb m0_0)), (.cells [(.d (Zb m1_0)), (.d (Zb m1_1)), (.d (D.list t0 (List.map ZV m1_2))), (.d (D.list t1 (List.map ZS m1_3))), (.d (D.list t2 (List.map Zu m1_4))), (.d (D.list t3 (List.map Zs m1_5)))])] = some ((Za t0 t1 t2 t3 b c d m0_0 m1_0 m1_1 m1_2 m1_3 m1_4 m1_5) r)
  | 0, t0, t1, t2, t3, b, c, d, m0_0, m1_0, m1_1, m1_2, m1_3, m1_4, m1_5, r, h => by cases h
  | n + 1, t0, t1, t2, t3, b, c, d, m0_0, m1_0, m1_1, m1_2, m1_3, m1_4, m1_5, r, h => Zdp (ZU n) (ZbK n) t0 t1 t2 t3 b c d m0_0 m1_0 m1_1 m1_2 m1_3 m1_4 m1_5 r h
theorem ZdJ {t0 : Bool} {t1 : Bool} {t2 : Bool} {t3 : Bool} {b : Int} {c : Int} {d : Int} {m0_0 : (List Int)} {m1_0 : Int} {m1_1 : Int} {m1_2 : (List ZH)} {m1_3 : (List ZJ)} {m1_4 : (List Zr)} {m1_5 : (List Zn)} : ∀ r, Zc1 b c d (fun z0 z1 => Zq z0 z1 m1_4) m0_0 = some r → evW ctx 124 [(.sl 0 1), (.d (Zb b)), (.d (Zb c)), (.d (Zb d)), (.fn 118 [(.ptr 1 0)])] [(.arr 1 (List.map Zb m0_0)), (.cells [(.d (Zb m1_0)), (.d (Zb m1_1)), (.d (D.list t0 (List.map ZV m1_2))), (.d (D.list t1 (List.map ZS m1_3))), (.d (D.list t2 (List.map Zu m1_4))), (.d (D.list t3 (List.map Zs m1_5)))])] = some ((Za t0 t1 t2 t3 b c d m0_0 m1_0 m1_1 m1_2 m1_3 m1_4 m1_5) r) := fun r h => by
  obtain ⟨n, hn⟩ := Zut h
  exact ZbK n t0 t1 t2 t3 b c d m0_0 m1_0 m1_1 m1_2 m1_3 m1_4 m1_5 r hn
def Zb1 (t0 : Bool) (t1 : Bool) (t2 : Bool) (t3 : Bool) (m0_0 : (List Int)) (m1_0 : Int) (m1_1 : Int) (m1_2 : (List ZH)) (m1_3 : (List ZJ)) (m1_4 : (List Zr)) (m1_5 : (List Zn)) : (List Int) → V × Zm
  | r => ((.d (D.tup [])), [(.arr 1 (List.map Zb r)), (.cells [(.d (Zb m1_0)), (.d (Zb m1_1)), (.d (D.list t0 (List.map ZV m1_2))), (.d (D.list t1 (List.map ZS m1_3))), (.d (D.list t2 (List.map Zu m1_4))), (.d (D.list t3 (List.map Zs m1_5)))])])
theorem ZdL {t0 : Bool} {t1 : Bool} {t2 : Bool} {t3 : Bool} {m0_0 : (List Int)} {m1_0 : Int} {m1_1 : Int} {m1_2 : (List ZH)} {m1_3 : (List ZJ)} {m1_4 : (List Zr)} {m1_5 : (List Zn)} : ∀ r, (Zaz (fun z0 z1 => Zq z0 z1 m1_4) m0_0) = some r → evW ctx 117 [(.sl 0 1), (.fn 118 [(.ptr 1 0)])] [(.arr 1 (List.map Zb m0_0)), (.cells [(.d (Zb m1_0)), (.d (Zb m1_1)), (.d (D.list t0 (List.map ZV m1_2))), (.d (D.list t1 (List.map ZS m1_3))), (.d (D.list t2 (List.map Zu m1_4))), (.d (D.list t3 (List.map Zs m1_5)))])] = some ((Zb1 t0 t1 t2 t3 m0_0 m1_0 m1_1 m1_2 m1_3 m1_4 m1_5) r) := by
 show ZP _ (fun r rhs => rhs = some ((Zb1 t0 t1 t2 t3 m0_0 m1_0 m1_1 m1_2 m1_3 m1_4 m1_5) r)) _
 unfold Zaz
 rw [Zfm ctx 117 Ztk _ _ rfl rfl]
 conv => arg 3; whnf
 refine Zo (ZI _ _) ?_
 conv => arg 3; whnf
 refine Zk _ ZgK rfl fun x0 hx0 => ?_
 conv => arg 3; whnf
 refine Zc _ ZdJ fun x1 hx1 => ?_
 conv => arg 3; whnf
 exact Zf rfl
def ZhE (r : (List Int)) : D := (D.list true (List.map Zb r))
def Zgb (t0 : Bool) (t1 : Bool) (t2 : Bool) (t3 : Bool) (a : Zi) (b : Int) : (List Int) → Ex × List V × Zm
  | r => (.exit 0, [(.ptr 0 0), (.sl 1 1)], [(.cells (dV t0 t1 t2 t3 a)), (.arr 1 (List.map Zb r))])
theorem ZiT {t0 : Bool} {t1 : Bool} {t2 : Bool} {t3 : Bool} {a : Zi} {b : Int} : ∀ (s1 : Int × (List Int)) (r : (List Int)), lp (ZcJ a b) s1 = some r → lpW ctx 0 [1, 2, 5, 12, 13, 14] [2, 5] Zrq [(.d (Zb b)), (.ptr 0 0), (.sl 1 1), (.d (D.list t2 (List.map Zu a.futures))), (.d (Zb (a.futures.length : Int))), (.d (Zb s1.1))] [(.cells (dV t0 t1 t2 t3 a)), (.arr 1 (List.map Zb s1.2))] = some ((Zgb t0 t1 t2 t3 a b) r) := by
 refine ZaY (Zgb t0 t1 t2 t3 a b) ?_
 intro s1 rcl ih
 show ZP _ _ (lpW _ _ _ _ _ _ _)
 unfold ZcJ
 rw [ZaW]
 conv => arg 3; whnf
 refine Ze rfl ?_ ?_
 ·conv => arg 3; whnf
  refine Zl rfl rfl fun x2 hx2 => ?_
  conv => arg 3; whnf
  refine Ze rfl ?_ ?_
  ·conv => arg 3; whnf
   refine ZbZ rfl ?_
   conv => arg 3; whnf
   refine Ze (Zje Zb s1.2 1) ?_ ?_
   ·conv => arg 3; whnf
    refine Zo (Zi4 Zb s1.2 [s1.1]) ?_
    conv => arg 3; whnf
    exact Zd (ih _)
   ·exact Z9
  ·conv => arg 3; whnf
   exact Zd (ih _)
 ·conv => arg 3; whnf
  exact Zf rfl
theorem Zke {t0 : Bool} {t1 : Bool} {t2 : Bool} {t3 : Bool} {a : Zi} {b : Int} : ∀ r, (ZeC a b) = some r → evD ctx 101 [(.d (D.agg (dA t0 t1 t2 t3 a))), (.d (Zb b))] = some (ZhE r) := by
 show ZP _ (fun r rhs => rhs = some (ZhE r)) _
 unfold ZeC
 rw [Za1 ctx 101 ZsY _ rfl rfl]
 conv => arg 3; whnf
 refine Zk _ ZeY rfl fun x0 hx0 => ?_
 conv => arg 3; whnf
 refine Ze rfl ?_ ?_
 ·conv => arg 3; whnf
  exact Zf rfl
 ·conv => arg 3; whnf
  refine Zo (ZI _ _) ?_
  conv => arg 3; whnf
  refine Zc _ (ZiT _) fun r3 hr3 => ?_
  conv => arg 3; whnf
  refine Zc _ ZdL fun x4 hx4 => ?_
  conv => arg 3; whnf
  exact Zf rfl
def ZiA (r : (List Int)) : D := (D.list true (List.map Zb r))
def Zha (t0 : Bool) (t1 : Bool) (t2 : Bool) (t3 : Bool) (a : Zi) (b : Int) : (List Int) → Ex × List V × Zm
  | r => (.exit 0, [(.d (Zb b)), (.ptr 0 0), (.sl 1 1)], [(.cells (dV t0 t1 t2 t3 a)), (.arr 1 (List.map Zb r))])
theorem ZjU {t0 : Bool} {t1 : Bool} {t2 : Bool} {t3 : Bool} {a : Zi} {b : Int} : ∀ (s1 : Int × (List Int)) (r : (List Int)), lp (ZeZ a b) s1 = some r → lpW ctx 0 [1, 2, 5, 14, 15, 16] [1, 2, 5] ZtD [(.d (Zb b)), (.ptr 0 0), (.sl 1 1), (.d (D.list t1 (List.map ZS a.edges))), (.d (Zb (a.edges.length : Int))), (.d (Zb s1.1))] [(.cells (dV t0 t1 t2 t3 a)), (.arr 1 (List.map Zb s1.2))] = some ((Zha t0 t1 t2 t3 a b) r) := by
 refine ZaY (Zha t0 t1 t2 t3 a b) ?_
 intro s1 rcl ih
 show ZP _ _ (lpW _ _ _ _ _ _ _)
 unfold ZeZ
 rw [ZaW]
 conv => arg 3; whnf
 refine Ze rfl ?_ ?_
 ·conv => arg 3; whnf
  refine Zl rfl rfl fun x2 hx2 => ?_
  conv => arg 3; whnf
  refine Ze rfl ?_ ?_
  ·conv => arg 3; whnf
   refine ZbZ rfl ?_
   conv => arg 3; whnf
   refine Ze (Zje Zb s1.2 1) ?_ ?_
   ·conv => arg 3; whnf
    refine Zo (Zi4 Zb s1.2 [x2.src]) ?_
    conv => arg 3; whnf
    exact Zd (ih _)
   ·exact Z9
  ·conv => arg 3; whnf
   exact Zd (ih _)
 ·conv => arg 3; whnf
  exact Zf rfl
def Zg6 (t0 : Bool) (t1 : Bool) (t2 : Bool) (t3 : Bool) (a : Zi) (x4 : (List Int)) : (List Int) → Ex × List V × Zm
  | r => (.exit 2, [(.sl 0 1)], [(.arr 1 (List.map Zb r))])
theorem ZjO {t0 : Bool} {t1 : Bool} {t2 : Bool} {t3 : Bool} {a : Zi} {x4 : (List Int)} : ∀ (s5 : Int × (List Int)) (r : (List Int)), lp (ZeX a x4) s5 = some r → lpW ctx 0 [2, 5, 32, 33, 34] [5] ZtU [(.ptr 0 0), (.sl 1 1), (.d (D.list true (List.map Zb x4))), (.d (Zb (x4.length : Int))), (.d (Zb s5.1))] [(.cells (dV t0 t1 t2 t3 a)), (.arr 1 (List.map Zb s5.2))] = some ((Zg6 t0 t1 t2 t3 a x4) r) := by
 refine ZaY (Zg6 t0 t1 t2 t3 a x4) ?_
 intro s5 rcl ih
 show ZP _ _ (lpW _ _ _ _ _ _ _)
 unfold ZeX
 rw [ZaW]
 conv => arg 3; whnf
 refine Ze rfl ?_ ?_
 ·conv => arg 3; whnf
  refine Zl rfl rfl fun x6 hx6 => ?_
  conv => arg 3; whnf
  refine Zl rfl rfl fun x7 hx7 => ?_
  conv => arg 3; whnf
  refine ZbZ rfl ?_
  conv => arg 3; whnf
  refine Ze (Zje Zb s5.2 1) ?_ ?_
  ·conv => arg 3; whnf
   refine Zo (Zi4 Zb s5.2 [x7.maker]) ?_
   conv => arg 3; whnf
   exact Zd (ih _)
  ·exact Z9
 ·conv => arg 3; whnf
  exact Zf rfl
theorem ZlG {t0 : Bool} {t1 : Bool} {t2 : Bool} {t3 : Bool} {a : Zi} {b : Int} : ∀ r, (ZeI a b) = some r → evD ctx 76 [(.d (D.agg (dA t0 t1 t2 t3 a))), (.d (Zb b))] = some (ZiA r) := by
 show ZP _ (fun r rhs => rhs = some (ZiA r)) _
 unfold ZeI
 rw [Za1 ctx 76 ZvJ _ rfl rfl]
 conv => arg 3; whnf
 refine Zk _ ZeY rfl fun x0 hx0 => ?_
 conv => arg 3; whnf
 refine Ze rfl ?_ ?_
 ·conv => arg 3; whnf
  exact Zf rfl
 ·conv => arg 3; whnf
  refine Zo (ZI _ _) ?_
  conv => arg 3; whnf
  refine Zc _ (ZjU _) fun r3 hr3 => ?_
  conv => arg 3; whnf
  refine Zk _ Zke rfl fun x4 hx4 => ?_
  conv => arg 3; whnf
  refine Zo (ZI _ _) ?_
  conv => arg 3; whnf
  refine Zc _ (ZjO _) fun r8 hr8 => ?_
  conv => arg 3; whnf
  exact Zf rfl
def ZiJ (r : Int) : D := (D.int .u32 r)
theorem Zdu {a : Int} : ∀ r, (Zcu a) = some r → evD ctx 64 [(.d (Zb a))] = some (ZiJ r) := by
 show ZP _ (fun r rhs => rhs = some (ZiJ r)) _
 unfold Zcu
 rw [Za1 ctx 64 Zwg _ rfl rfl]
 conv => arg 3; whnf
 exact Zf rfl
def ZjE : Unit → D
  | r => (D.agg [(D.int .u32 0), (D.fn 97 []), (D.int .u32 1), (D.fn 98 []), (D.int .u32 0), (D.fn 99 []), (D.int .u32 7), (D.fn 100 [])])
theorem Zmq : ∀ r, ZgR = some r → evD ctx 65 [] = some (ZjE r) := by
 show ZP _ (fun r rhs => rhs = some (ZjE r)) _
 unfold ZgR
 rw [Za1 ctx 65 Zv1 _ rfl rfl]
 conv => arg 3; whnf
 exact Zf rfl
def Zih (r : Int) : D := (D.int .u32 r)
theorem Zk0 {a : Int} {b : Int} : ∀ r, (ZeS a b) = some r → evD ctx 97 [(.d (D.int .u32 a)), (.d (D.int .u32 b))] = some (Zih r) := by
 show ZP _ (fun r rhs => rhs = some (Zih r)) _
 unfold ZeS
 rw [Za1 ctx 97 ZwB _ rfl rfl]
 conv => arg 3; whnf
 exact Zf rfl
def Zig (r : Int) : D := (D.int .u32 r)
theorem ZkR {a : Int} {b : Int} : ∀ r, (ZeV a b) = some r → evD ctx 98 [(.d (D.int .u32 a)), (.d (D.int .u32 b))] = some (Zig r) := by
 show ZP _ (fun r rhs => rhs = some (Zig r)) _
 unfold ZeV
 rw [Za1 ctx 98 Zwx _ rfl rfl]
 conv => arg 3; whnf
 exact Zf rfl
def Zij (r : Int) : D := (D.int .u32 r)
theorem ZkS {a : Int} {b : Int} : ∀ r, (ZeQ a b) = some r → evD ctx 99 [(.d (D.int .u32 a)), (.d (D.int .u32 b))] = some (Zij r) := by
 show ZP _ (fun r rhs => rhs = some (Zij r)) _
 unfold ZeQ
 rw [Za1 ctx 99 Zww _ rfl rfl]
 conv => arg 3; whnf
 exact Zf rfl
def Zif (r : Int) : D := (D.int .u32 r)
theorem Zk6 {a : Int} {b : Int} : ∀ r, (ZeP a b) = some r → evD ctx 100 [(.d (D.int .u32 a)), (.d (D.int .u32 b))] = some (Zif r) := by
 show ZP _ (fun r rhs => rhs = some (Zif r)) _
 unfold ZeP
 rw [Za1 ctx 100 Zs4 _ rfl rfl]
 conv => arg 3; whnf
 exact Zf rfl
def Zlv (r : Int) : D := (Zb r)
def ZiO (t0 : Bool) (a : ZH) (b : (List Int)) : (List (Int × Int)) → Ex × List V × Zm
  | r => (.exit 1, [(.ptr 0 0), (.mp 1)], [(.cells [(.d (Zb a.op)), (.d (Zb a.arg)), (.d (Zb a.work))]), (.mp (mpD Zb Zb r))])
theorem ZlH {t0 : Bool} {a : ZH} {b : (List Int)} : ∀ (s0 : Int × (List (Int × Int))) (r : (List (Int × Int))), lp (Zd7 b) s0 = some r → lpW ctx 0 [3, 7, 19, 20, 21] [3, 7] ZtS [(.ptr 0 0), (.mp 1), (.d (D.list t0 (List.map Zb b))), (.d (Zb (b.length : Int))), (.d (Zb s0.1))] [(.cells [(.d (Zb a.op)), (.d (Zb a.arg)), (.d (Zb a.work))]), (.mp (mpD Zb Zb s0.2))] = some ((ZiO t0 a b) r) := by
 refine ZaY (ZiO t0 a b) ?_
 intro s0 rcl ih
 show ZP _ _ (lpW _ _ _ _ _ _ _)
 unfold Zd7
 rw [ZaW]
 conv => arg 3; whnf
 refine Ze rfl ?_ ?_
 ·conv => arg 3; whnf
  refine Zl rfl rfl fun x1 hx1 => ?_
  conv => arg 3; whnf
  refine Zg (ZtX (f := Zb) (g := Zb) (fun ka kb : Int => (ka == kb)) (fun _ _ => rfl) s0.2 s0.1 x1) ?_
  conv => arg 3; whnf
  exact Zd (ih _)
 ·conv => arg 3; whnf
  exact Zf rfl
def Zi2 (t1 : Bool) (c : (List Int)) : Int → Ex × List V × Zm
  | r => (.exit 3, [(.d (D.int .u32 r))], [])
theorem ZlC {t1 : Bool} {c : (List Int)} : ∀ (s6 : Int × Int) (r : Int), lp (Zd6 c) s6 = some r → lpW ctx 0 [10, 11, 60, 61, 62] [11] ZmL [(.ptr 0 0), (.d (D.int .u32 s6.1)), (.d (D.list t1 (List.map Zb c))), (.d (Zb (c.length : Int))), (.d (Zb s6.2))] [(.cells [(.d (D.int .u32 0)), (.d (D.fn 97 []))])] = some ((Zi2 t1 c) r) := by
 refine ZaY (Zi2 t1 c) ?_
 intro s6 rcl ih
 show ZP _ _ (lpW _ _ _ _ _ _ _)
 unfold Zd6
 rw [ZaW]
 conv => arg 3; whnf
 refine Ze rfl ?_ ?_
 ·conv => arg 3; whnf
  refine Zl rfl rfl fun x7 hx7 => ?_
  conv => arg 3; whnf
  refine Zk _ Zdu rfl fun x8 hx8 => ?_
  conv => arg 3; whnf
  refine Zk _ Zk0 rfl fun x9 hx9 => ?_
  conv => arg 3; whnf
  exact Zd (ih _)
 ·conv => arg 3; whnf
  exact Zf rfl
def Zht (t1 : Bool) (c : (List Int)) : Int → Ex × List V × Zm
  | r => (.exit 3, [(.d (D.int .u32 r))], [])
theorem Zkg {t1 : Bool} {c : (List Int)} : ∀ (s11 : Int × Int) (r : Int), lp (Zdl c) s11 = some r → lpW ctx 0 [10, 11, 60, 61, 62] [11] ZmL [(.ptr 0 0), (.d (D.int .u32 s11.1)), (.d (D.list t1 (List.map Zb c))), (.d (Zb (c.length : Int))), (.d (Zb s11.2))] [(.cells [(.d (D.int .u32 1)), (.d (D.fn 98 []))])] = some ((Zht t1 c) r) := by
 refine ZaY (Zht t1 c) ?_
 intro s11 rcl ih
 show ZP _ _ (lpW _ _ _ _ _ _ _)
 unfold Zdl
 rw [ZaW]
 conv => arg 3; whnf
 refine Ze rfl ?_ ?_
 ·conv => arg 3; whnf
  refine Zl rfl rfl fun x12 hx12 => ?_
  conv => arg 3; whnf
  refine Zk _ Zdu rfl fun x13 hx13 => ?_
  conv => arg 3; whnf
  refine Zk _ ZkR rfl fun x14 hx14 => ?_
  conv => arg 3; whnf
  exact Zd (ih _)
 ·conv => arg 3; whnf
  exact Zf rfl
def ZhB (t1 : Bool) (c : (List Int)) : Int → Ex × List V × Zm
  | r => (.exit 3, [(.d (D.int .u32 r))], [])
theorem Zj6 {t1 : Bool} {c : (List Int)} : ∀ (s16 : Int × Int) (r : Int), lp (Zdi c) s16 = some r → lpW ctx 0 [10, 11, 60, 61, 62] [11] ZmL [(.ptr 0 0), (.d (D.int .u32 s16.1)), (.d (D.list t1 (List.map Zb c))), (.d (Zb (c.length : Int))), (.d (Zb s16.2))] [(.cells [(.d (D.int .u32 0)), (.d (D.fn 99 []))])] = some ((ZhB t1 c) r) := by
 refine ZaY (ZhB t1 c) ?_
 intro s16 rcl ih
 show ZP _ _ (lpW _ _ _ _ _ _ _)
 unfold Zdi
 rw [ZaW]
 conv => arg 3; whnf
 refine Ze rfl ?_ ?_
 ·conv => arg 3; whnf
  refine Zl rfl rfl fun x17 hx17 => ?_
  conv => arg 3; whnf
  refine Zk _ Zdu rfl fun x18 hx18 => ?_
  conv => arg 3; whnf
  refine Zk _ ZkS rfl fun x19 hx19 => ?_
  conv => arg 3; whnf
  exact Zd (ih _)
 ·conv => arg 3; whnf
  exact Zf rfl
def Zhv (t1 : Bool) (c : (List Int)) : Int → Ex × List V × Zm
  | r => (.exit 3, [(.d (D.int .u32 r))], [])
theorem ZkA {t1 : Bool} {c : (List Int)} : ∀ (s21 : Int × Int) (r : Int), lp (Zdj c) s21 = some r → lpW ctx 0 [10, 11, 60, 61, 62] [11] ZmL [(.ptr 0 0), (.d (D.int .u32 s21.1)), (.d (D.list t1 (List.map Zb c))), (.d (Zb (c.length : Int))), (.d (Zb s21.2))] [(.cells [(.d (D.int .u32 7)), (.d (D.fn 100 []))])] = some ((Zhv t1 c) r) := by
 refine ZaY (Zhv t1 c) ?_
 intro s21 rcl ih
 show ZP _ _ (lpW _ _ _ _ _ _ _)
 unfold Zdj
 rw [ZaW]
 conv => arg 3; whnf
 refine Ze rfl ?_ ?_
 ·conv => arg 3; whnf
  refine Zl rfl rfl fun x22 hx22 => ?_
  conv => arg 3; whnf
  refine Zk _ Zdu rfl fun x23 hx23 => ?_
  conv => arg 3; whnf
  refine Zk _ Zk6 rfl fun x24 hx24 => ?_
  conv => arg 3; whnf
  exact Zd (ih _)
 ·conv => arg 3; whnf
  exact Zf rfl
theorem Zol {t0 : Bool} {t1 : Bool} {a : ZH} {b : (List Int)} {c : (List Int)} : ∀ r, (Zhm a b c) = some r → evD ctx 39 [(.d (D.agg [(Zb a.op), (Zb a.arg), (Zb a.work)])), (.d (D.list t0 (List.map Zb b))), (.d (D.list t1 (List.map Zb c)))] = some (Zlv r) := by
 show ZP _ (fun r rhs => rhs = some (Zlv r)) _
 unfold Zhm
 rw [Za1 ctx 39 Zwi _ rfl rfl]
 conv => arg 3; whnf
 refine Ze rfl ?_ ?_
 ·conv => arg 3; whnf
  refine Zo (ZI _ _) ?_
  conv => arg 3; whnf
  refine Zc _ (ZlH _) fun r2 hr2 => ?_
  conv => arg 3; whnf
  refine Zg (Zso (f := Zb) (g := Zb) (fun ka kb : Int => (ka == kb)) (fun _ _ => rfl) r2 a.arg 0) ?_
  conv => arg 3; whnf
  refine Zk _ Zdu rfl fun x3 hx3 => ?_
  conv => arg 3; whnf
  exact Zf rfl
 ·conv => arg 3; whnf
  refine Ze rfl ?_ ?_
  ·conv => arg 3; whnf
   refine Zk _ Zdu rfl fun x4 hx4 => ?_
   conv => arg 3; whnf
   exact Zf rfl
  ·conv => arg 3; whnf
   refine Ze rfl ?_ ?_
   ·conv => arg 3; whnf
    exact Zf rfl
   ·conv => arg 3; whnf
    refine Ze rfl ?_ ?_
    ·conv => arg 3; whnf
     exact Zf rfl
    ·conv => arg 3; whnf
     refine Zk _ Zmq rfl fun x5 hx5 => ?_
     conv => arg 3; whnf
     refine Ze rfl ?_ ?_
     ·conv => arg 3; whnf
      refine Zp5 rfl ?_ ?_ ?_ ?_
      ·conv => arg 3; whnf
       refine Zg rfl ?_
       conv => arg 3; whnf
       refine Zo (ZI _ _) ?_
       conv => arg 3; whnf
       refine Zc _ (ZlC _) fun r10 hr10 => ?_
       conv => arg 3; whnf
       exact Zf rfl
      ·conv => arg 3; whnf
       refine Zg rfl ?_
       conv => arg 3; whnf
       refine Zo (ZI _ _) ?_
       conv => arg 3; whnf
       refine Zc _ (Zkg _) fun r15 hr15 => ?_
       conv => arg 3; whnf
       exact Zf rfl
      ·conv => arg 3; whnf
       refine Zg rfl ?_
       conv => arg 3; whnf
       refine Zo (ZI _ _) ?_
       conv => arg 3; whnf
       refine Zc _ (Zj6 _) fun r20 hr20 => ?_
       conv => arg 3; whnf
       exact Zf rfl
      ·conv => arg 3; whnf
       refine Zg rfl ?_
       conv => arg 3; whnf
       refine Zo (ZI _ _) ?_
       conv => arg 3; whnf
       refine Zc _ (ZkA _) fun r25 hr25 => ?_
       conv => arg 3; whnf
       exact Zf rfl
     ·exact Z9
def Zin (r : Zj) : D := (D.agg [(D.list true (List.map Zb r.work)), (D.list true (List.map Zb r.vals))])
def Zgs (t0 : Bool) (t1 : Bool) (t2 : Bool) (t3 : Bool) (t4 : Bool) (a : Zi) (b : (List Int)) (c : Zj) (d : Int) (x2 : Int) (x4 : (List Int)) : (List Int) → Ex × List V × Zm
  | r => (.exit 0, [(.d (D.list t4 (List.map Zb b))), (.d (Zb d)), (.ptr 0 0), (.ptr 1 0), (.ptr 2 0), (.sl 3 1)], [(.cells (dV t0 t1 t2 t3 a)), (.cells [(.sl 4 1), (.sl 5 1)]), (.cells [(.sl 6 1), (.sl 7 1)]), (.arr 1 (List.map Zb r)), (.arr 1 (List.map Zb (List.set c.work d.toNat (w64 (x2 + 1))))), (.arr 1 (List.map Zb c.vals)), (.arr 1 []), (.arr 1 [])])
theorem Zjm {t0 : Bool} {t1 : Bool} {t2 : Bool} {t3 : Bool} {t4 : Bool} {a : Zi} {b : (List Int)} {c : Zj} {d : Int} {x2 : Int} {x4 : (List Int)} : ∀ (s5 : Int × (List Int)) (r : (List Int)), lp (ZeD c x4) s5 = some r → lpW ctx 0 [1, 3, 4, 6, 8, 9, 32, 33, 34] [1, 3, 4, 6, 8, 9] ZsK [(.d (D.list t4 (List.map Zb b))), (.d (Zb d)), (.ptr 0 0), (.ptr 1 0), (.ptr 2 0), (.sl 3 1), (.d (D.list true (List.map Zb x4))), (.d (Zb (x4.length : Int))), (.d (Zb s5.1))] [(.cells (dV t0 t1 t2 t3 a)), (.cells [(.sl 4 1), (.sl 5 1)]), (.cells [(.sl 6 1), (.sl 7 1)]), (.arr 1 (List.map Zb s5.2)), (.arr 1 (List.map Zb (List.set c.work d.toNat (w64 (x2 + 1))))), (.arr 1 (List.map Zb c.vals)), (.arr 1 []), (.arr 1 [])] = some ((Zgs t0 t1 t2 t3 t4 a b c d x2 x4) r) := by
 refine ZaY (Zgs t0 t1 t2 t3 t4 a b c d x2 x4) ?_
 intro s5 rcl ih
 show ZP _ _ (lpW _ _ _ _ _ _ _)
 unfold ZeD
 rw [ZaW]
 conv => arg 3; whnf
 refine Ze rfl ?_ ?_
 ·conv => arg 3; whnf
  refine Zl rfl rfl fun x6 hx6 => ?_
  conv => arg 3; whnf
  refine Zl rfl rfl fun x7 hx7 => ?_
  conv => arg 3; whnf
  refine Zg (Zv rfl hx7) ?_
  conv => arg 3; whnf
  refine ZbZ rfl ?_
  conv => arg 3; whnf
  refine Ze (Zje Zb s5.2 1) ?_ ?_
  ·conv => arg 3; whnf
   refine Zo (Zi4 Zb s5.2 [x7]) ?_
   conv => arg 3; whnf
   exact Zd (ih _)
  ·exact Z9
 ·conv => arg 3; whnf
  exact Zf rfl
theorem ZfD {t0 : Bool} {t1 : Bool} {t2 : Bool} {t3 : Bool} {t4 : Bool} {t5 : Bool} {t6 : Bool} {a : Zi} {b : (List Int)} {c : Zj} {d : Int} : ∀ r, (Zc5 a b c d) = some r → evD ctx 48 [(.d (D.agg (dA t0 t1 t2 t3 a))), (.d (D.list t4 (List.map Zb b))), (.d (D.agg [(D.list t5 (List.map Zb c.work)), (D.list t6 (List.map Zb c.vals))])), (.d (Zb d))] = some (Zin r) := by
 show ZP _ (fun r rhs => rhs = some (Zin r)) _
 unfold Zc5
 rw [Za1 ctx 48 ZvS _ rfl rfl]
 conv => arg 3; whnf
 refine Zc _ Zeo fun x0 hx0 => ?_
 conv => arg 3; whnf
 refine Zc _ Zeo fun x1 hx1 => ?_
 conv => arg 3; whnf
 refine Zl rfl rfl fun x2 hx2 => ?_
 conv => arg 3; whnf
 refine Zg (Zv rfl hx2) ?_
 conv => arg 3; whnf
 refine Zg (Zbc rfl hx2) ?_
 conv => arg 3; whnf
 refine Zg (Zv rfl hx2) ?_
 conv => arg 3; whnf
 refine Zo (Zat Zb c.work d.toNat (w64 (x2 + 1))) ?_
 conv => arg 3; whnf
 refine Zk _ Zbi rfl fun x3 hx3 => ?_
 conv => arg 3; whnf
 refine Ze rfl ?_ ?_
 ·conv => arg 3; whnf
  refine Zk _ ZlG rfl fun x4 hx4 => ?_
  conv => arg 3; whnf
  refine Zo (ZI _ _) ?_
  conv => arg 3; whnf
  refine Zc _ (Zjm _) fun r8 hr8 => ?_
  conv => arg 3; whnf
  refine Zl rfl rfl fun x9 hx9 => ?_
  conv => arg 3; whnf
  refine Zk _ Zol rfl fun x10 hx10 => ?_
  conv => arg 3; whnf
  refine Zl rfl rfl fun x11 hx11 => ?_
  conv => arg 3; whnf
  refine Zg (Zv rfl hx11) ?_
  conv => arg 3; whnf
  refine Zo (Zat Zb c.vals d.toNat x10) ?_
  conv => arg 3; whnf
  exact Zf rfl
 ·conv => arg 3; whnf
  exact Zf rfl
def ZiG (r : ((List Int) × Int)) : D := (D.tup [(D.list true (List.map Zb r.1)), (Zb r.2)])
def Zg4 (t0 : Bool) (t1 : Bool) (t2 : Bool) (t3 : Bool) (t4 : Bool) (a : Zi) (b : (List Int)) : ((List Int) × (List Int)) → Ex × List V × Zm
  | r => (.exit 0, [(.ptr 0 0), (.ptr 1 0)], [(.cells (dV t0 t1 t2 t3 a)), (.cells [(.d (D.list true (List.map Zb r.1))), (.d (D.list true (List.map Zb r.2)))])])
theorem Zj0 {t0 : Bool} {t1 : Bool} {t2 : Bool} {t3 : Bool} {t4 : Bool} {a : Zi} {b : (List Int)} : ∀ (s2 : (List Int) × (List Int) × (List Int)) (r : ((List Int) × (List Int))), lp (Zea a b) s2 = some r → lpW ctx 0 [1, 2, 6, 8] [2, 6] Zth [(.d (D.list t4 (List.map Zb b))), (.ptr 0 0), (.ptr 1 0), (.d (D.list true (List.map Zb s2.1)))] [(.cells (dV t0 t1 t2 t3 a)), (.cells [(.d (D.list true (List.map Zb s2.2.1))), (.d (D.list true (List.map Zb s2.2.2)))])] = some ((Zg4 t0 t1 t2 t3 t4 a b) r) := by
 refine ZaY (Zg4 t0 t1 t2 t3 t4 a b) ?_
 intro s2 rcl ih
 show ZP _ _ (lpW _ _ _ _ _ _ _)
 unfold Zea
 rw [ZaW]
 conv => arg 3; whnf
 refine Zo (ZI _ _) ?_
 conv => arg 3; whnf
 refine Ze rfl ?_ ?_
 ·conv => arg 3; whnf
  refine Zl rfl rfl fun x3 hx3 => ?_
  conv => arg 3; whnf
  refine Zk _ ZfD rfl fun x4 hx4 => ?_
  conv => arg 3; whnf
  refine Zk _ Zf6 rfl fun x5 hx5 => ?_
  conv => arg 3; whnf
  exact Zd (ih _)
 ·conv => arg 3; whnf
  exact Zf rfl
def ZgZ (t0 : Bool) (t1 : Bool) (t2 : Bool) (t3 : Bool) (a : Zi) (r6 : ((List Int) × (List Int))) : (Unit ⊕ Unit) → Ex × List V × Zm
  | (.inl r) => (.ret, [(.nilsl 1), (.d (Zb 94)), (.ptr 0 0)], [(.cells [(.d (D.list true (List.map Zb r6.1))), (.d (D.list true (List.map Zb r6.2)))])])
  | (.inr r) => (.exit 2, [.bad, .bad, (.ptr 0 0)], [(.cells [(.d (D.list true (List.map Zb r6.1))), (.d (D.list true (List.map Zb r6.2)))])])
theorem ZjM {t0 : Bool} {t1 : Bool} {t2 : Bool} {t3 : Bool} {a : Zi} {r6 : ((List Int) × (List Int))} : ∀ (s7 : Int) (r : (Unit ⊕ Unit)), lp (ZcP a r6) s7 = some r → lpW ctx 0 [2, 6, 36, 37] [4, 5, 6] Zsk [(.ptr 0 0), (.ptr 1 0), (.d (Zb (a.parts.length : Int))), (.d (Zb s7))] [(.cells (dV t0 t1 t2 t3 a)), (.cells [(.d (D.list true (List.map Zb r6.1))), (.d (D.list true (List.map Zb r6.2)))])] = some ((ZgZ t0 t1 t2 t3 a r6) r) := by
 refine ZaY (ZgZ t0 t1 t2 t3 a r6) ?_
 intro s7 rcl ih
 show ZP _ _ (lpW _ _ _ _ _ _ _)
 unfold ZcP
 rw [ZaW]
 conv => arg 3; whnf
 refine Ze rfl ?_ ?_
 ·conv => arg 3; whnf
  refine Zk _ Zbi rfl fun x8 hx8 => ?_
  conv => arg 3; whnf
  refine Ze rfl ?_ ?_
  ·conv => arg 3; whnf
   exact Zd (ih _)
  ·conv => arg 3; whnf
   exact Zf rfl
 ·conv => arg 3; whnf
  exact Zf rfl
theorem ZlD {t0 : Bool} {t1 : Bool} {t2 : Bool} {t3 : Bool} {t4 : Bool} {a : Zi} {b : (List Int)} : ∀ r, (Zd8 a b) = some r → evD ctx 33 [(.d (D.agg (dA t0 t1 t2 t3 a))), (.d (D.list t4 (List.map Zb b)))] = some (ZiG r) := by
 show ZP _ (fun r rhs => rhs = some (ZiG r)) _
 unfold Zd8
 rw [Za1 ctx 33 Zwm _ rfl rfl]
 conv => arg 3; whnf
 refine Zk _ Zii rfl fun x0 hx0 => ?_
 conv => arg 3; whnf
 refine Ze rfl ?_ ?_
 ·conv => arg 3; whnf
  exact Zf rfl
 ·conv => arg 3; whnf
  refine Zk _ Zf6 rfl fun x1 hx1 => ?_
  conv => arg 3; whnf
  refine Zc _ (Zj0 _) fun r6 hr6 => ?_
  conv => arg 3; whnf
  refine Zo (ZI _ _) ?_
  conv => arg 3; whnf
  refine Zc _ (ZjM _) fun r9 hr9 => ?_
  clear hr9
  rcases r9 with r9 | r9
  ·conv => arg 3; whnf
   exact Zf rfl
  ·conv => arg 3; whnf
   exact Zf rfl
def Zjn (t0 : Bool) (t1 : Bool) (a : Zj) : Unit → V × Zm
  | r => ((.agg [(.sl 0 1), (.sl 1 1)]), [(.arr 1 (List.map Zb a.work)), (.arr 1 (List.map Zb a.vals))])
theorem Zff {t0 : Bool} {t1 : Bool} {a : Zj} : ∀ r, (Zd1 a) = some r → evW ctx 25 [(.d (D.agg [(D.list t0 (List.map Zb a.work)), (D.list t1 (List.map Zb a.vals))]))] [] = some ((Zjn t0 t1 a) r) := by
 show ZP _ (fun r rhs => rhs = some ((Zjn t0 t1 a) r)) _
 unfold Zd1
 rw [Zfm ctx 25 ZwO _ _ rfl rfl]
 conv => arg 3; whnf
 refine ZbZ (Zec (f := Zb) (fun _ => ⟨rfl, rfl⟩) a.work 0) ?_
 conv => arg 3; whnf
 refine Ze (Zeb Zb a.work) ?_ ?_
 ·conv => arg 3; whnf
  refine Zo (rfl : _ = List.map Zb a.work) ?_
  conv => arg 3; whnf
  refine ZbZ (Zec (f := Zb) (fun _ => ⟨rfl, rfl⟩) a.vals 0) ?_
  conv => arg 3; whnf
  refine Ze (Zeb Zb a.vals) ?_ ?_
  ·conv => arg 3; whnf
   refine Zo (rfl : _ = List.map Zb a.vals) ?_
   conv => arg 3; whnf
   exact Zf rfl
  ·exact Z9
 ·exact Z9
def Zgz (r : Bool) : D := (D.bool r)
theorem Zjj {t0 : Bool} {t1 : Bool} {t2 : Bool} {t3 : Bool} {t4 : Bool} {t5 : Bool} {a : Zr} {b0 : (List Int)} {b1 : (List Int)} {c0 : Int} {c1 : Int} {c2 : (List ZH)} {c3 : (List ZJ)} {c4 : (List Zr)} {c5 : (List Zn)} : ∀ r, (Zb8 a b0 b1 c0 c1 c2 c3 c4 c5) = some r → evD ctx 94 [(.d (D.agg [(Zb a.maker), (Zb a.user), (Zb a.pos)])), (.d (D.rptr [(D.list t0 (List.map Zb b0)), (D.list t1 (List.map Zb b1))])), (.d (D.rptr [(Zb c0), (Zb c1), (D.list t2 (List.map ZV c2)), (D.list t3 (List.map ZS c3)), (D.list t4 (List.map Zu c4)), (D.list t5 (List.map Zs c5))]))] = some (Zgz r) := by
 show ZP _ (fun r rhs => rhs = some (Zgz r)) _
 unfold Zb8
 rw [Za1 ctx 94 ZwH _ rfl rfl]
 conv => arg 3; whnf
 refine Zl rfl rfl fun x0 hx0 => ?_
 conv => arg 3; whnf
 refine Ze rfl ?_ ?_
 ·conv => arg 3; whnf
  refine Zk _ Zbi rfl fun x1 hx1 => ?_
  conv => arg 3; whnf
  refine Ze rfl ?_ ?_
  ·conv => arg 3; whnf
   exact Zf rfl
  ·conv => arg 3; whnf
   exact Zf rfl
 ·conv => arg 3; whnf
  exact Zf rfl
def Zbq (r : Int) : D := (Zb r)
def Zba (t0 : Bool) (t1 : Bool) (t2 : Bool) (t3 : Bool) (t4 : Bool) (t5 : Bool) (t6 : Bool) (a : (List Zr)) (b0 : (List Int)) (b1 : (List Int)) (b2 : Int) (b3 : Int) (b4 : (List ZH)) (b5 : (List ZJ)) (b6 : (List Zr)) (b7 : (List Zn)) : (Int ⊕ Unit) → Ex × List V × Zm
  | (.inl r) => (.ret, [(.d (Zb r))], [])
  | (.inr r) => (.exit 0, [.bad], [])
theorem Zcx {t0 : Bool} {t1 : Bool} {t2 : Bool} {t3 : Bool} {t4 : Bool} {t5 : Bool} {t6 : Bool} {a : (List Zr)} {b0 : (List Int)} {b1 : (List Int)} {b2 : Int} {b3 : Int} {b4 : (List ZH)} {b5 : (List ZJ)} {b6 : (List Zr)} {b7 : (List Zn)} : ∀ (s0 : Int) (r : (Int ⊕ Unit)), lp (ZX a (fun z0 => Zb8 z0 b0 b1 b2 b3 b4 b5 b6 b7)) s0 = some r → lpW ctx 0 [0, 1, 7, 8] [4] Zoj [(.d (D.list t0 (List.map Zu a))), (.d (D.fn 94 [(D.rptr [(D.list t1 (List.map Zb b0)), (D.list t2 (List.map Zb b1))]), (D.rptr [(Zb b2), (Zb b3), (D.list t3 (List.map ZV b4)), (D.list t4 (List.map ZS b5)), (D.list t5 (List.map Zu b6)), (D.list t6 (List.map Zs b7))])])), (.d (Zb (a.length : Int))), (.d (Zb s0))] [] = some ((Zba t0 t1 t2 t3 t4 t5 t6 a b0 b1 b2 b3 b4 b5 b6 b7) r) := by
 refine ZaY (Zba t0 t1 t2 t3 t4 t5 t6 a b0 b1 b2 b3 b4 b5 b6 b7) ?_
 intro s0 rcl ih
 show ZP _ _ (lpW _ _ _ _ _ _ _)
 unfold ZX
 rw [ZaW]
 conv => arg 3; whnf
 refine Ze rfl ?_ ?_
 ·conv => arg 3; whnf
  refine Zl rfl rfl fun x1 hx1 => ?_
  conv => arg 3; whnf
  refine Zk _ Zjj rfl fun x2 hx2 => ?_
  conv => arg 3; whnf
  refine Ze rfl ?_ ?_
  ·conv => arg 3; whnf
   exact Zf rfl
  ·conv => arg 3; whnf
   exact Zd (ih _)
 ·conv => arg 3; whnf
  exact Zf rfl
theorem ZcX {t0 : Bool} {t1 : Bool} {t2 : Bool} {t3 : Bool} {t4 : Bool} {t5 : Bool} {t6 : Bool} {a : (List Zr)} {b0 : (List Int)} {b1 : (List Int)} {b2 : Int} {b3 : Int} {b4 : (List ZH)} {b5 : (List ZJ)} {b6 : (List Zr)} {b7 : (List Zn)} : ∀ r, (Zaj a (fun z0 => Zb8 z0 b0 b1 b2 b3 b4 b5 b6 b7)) = some r → evD ctx 114 [(.d (D.list t0 (List.map Zu a))), (.d (D.fn 94 [(D.rptr [(D.list t1 (List.map Zb b0)), (D.list t2 (List.map Zb b1))]), (D.rptr [(Zb b2), (Zb b3), (D.list t3 (List.map ZV b4)), (D.list t4 (List.map ZS b5)), (D.list t5 (List.map Zu b6)), (D.list t6 (List.map Zs b7))])]))] = some (Zbq r) := by
 show ZP _ (fun r rhs => rhs = some (Zbq r)) _
 unfold Zaj
 rw [Za1 ctx 114 Zq0 _ rfl rfl]
 conv => arg 3; whnf
 refine Zo (ZI _ _) ?_
 conv => arg 3; whnf
 refine Zc _ (Zcx _) fun r3 hr3 => ?_
 clear hr3
 rcases r3 with r3 | r3
 ·conv => arg 3; whnf
  exact Zf rfl
 ·conv => arg 3; whnf
  exact Zf rfl
def Za6 (r : Bool) : D := (D.bool r)
theorem Zcw {t0 : Bool} {t1 : Bool} {t2 : Bool} {t3 : Bool} {t4 : Bool} {t5 : Bool} {t6 : Bool} {a : (List Zr)} {b0 : (List Int)} {b1 : (List Int)} {b2 : Int} {b3 : Int} {b4 : (List ZH)} {b5 : (List ZJ)} {b6 : (List Zr)} {b7 : (List Zn)} : ∀ r, (ZQ a (fun z0 => Zb8 z0 b0 b1 b2 b3 b4 b5 b6 b7)) = some r → evD ctx 89 [(.d (D.list t0 (List.map Zu a))), (.d (D.fn 94 [(D.rptr [(D.list t1 (List.map Zb b0)), (D.list t2 (List.map Zb b1))]), (D.rptr [(Zb b2), (Zb b3), (D.list t3 (List.map ZV b4)), (D.list t4 (List.map ZS b5)), (D.list t5 (List.map Zu b6)), (D.list t6 (List.map Zs b7))])]))] = some (Za6 r) := by
 show ZP _ (fun r rhs => rhs = some (Za6 r)) _
 unfold ZQ
 rw [Za1 ctx 89 ZuU _ rfl rfl]
 conv => arg 3; whnf
 refine Zk _ ZcX rfl fun x0 hx0 => ?_
 conv => arg 3; whnf
 refine Ze rfl ?_ ?_
 ·conv => arg 3; whnf
  exact Zf rfl
 ·conv => arg 3; whnf
  exact Zf rfl
def ZhC (r : Bool) : D := (D.bool r)
def Zgc (t0 : Bool) (t1 : Bool) (t2 : Bool) (t3 : Bool) (t4 : Bool) (t5 : Bool) (a : Zi) (b : Zj) : (Unit ⊕ Unit) → Ex × List V × Zm
  | (.inl r) => (.ret, [(.ptr 0 0), (.ptr 1 0), (.d (D.bool false))], [(.cells (dV t0 t1 t2 t3 a)), (.cells [(.d (D.list t4 (List.map Zb b.work))), (.d (D.list t5 (List.map Zb b.vals)))])])
  | (.inr r) => (.exit 0, [(.ptr 0 0), (.ptr 1 0), .bad], [(.cells (dV t0 t1 t2 t3 a)), (.cells [(.d (D.list t4 (List.map Zb b.work))), (.d (D.list t5 (List.map Zb b.vals)))])])
theorem ZiS {t0 : Bool} {t1 : Bool} {t2 : Bool} {t3 : Bool} {t4 : Bool} {t5 : Bool} {a : Zi} {b : Zj} : ∀ (s0 : Int) (r : (Unit ⊕ Unit)), lp (ZcM a b) s0 = some r → lpW ctx 0 [2, 3, 26, 27, 28] [2, 3, 4] Zts [(.ptr 0 0), (.ptr 1 0), (.d (D.list t4 (List.map Zb b.work))), (.d (Zb (b.work.length : Int))), (.d (Zb s0))] [(.cells (dV t0 t1 t2 t3 a)), (.cells [(.d (D.list t4 (List.map Zb b.work))), (.d (D.list t5 (List.map Zb b.vals)))])] = some ((Zgc t0 t1 t2 t3 t4 t5 a b) r) := by
 refine ZaY (Zgc t0 t1 t2 t3 t4 t5 a b) ?_
 intro s0 rcl ih
 show ZP _ _ (lpW _ _ _ _ _ _ _)
 unfold ZcM
 rw [ZaW]
 conv => arg 3; whnf
 refine Ze rfl ?_ ?_
 ·conv => arg 3; whnf
  refine Zl rfl rfl fun x1 hx1 => ?_
  conv => arg 3; whnf
  refine Ze rfl ?_ ?_
  ·conv => arg 3; whnf
   exact Zf rfl
  ·conv => arg 3; whnf
   refine Zl rfl rfl fun x2 hx2 => ?_
   conv => arg 3; whnf
   refine Ze rfl ?_ ?_
   ·conv => arg 3; whnf
    exact Zf rfl
   ·conv => arg 3; whnf
    exact Zd (ih _)
 ·conv => arg 3; whnf
  exact Zf rfl
def Zgh (t0 : Bool) (t1 : Bool) (t2 : Bool) (t3 : Bool) (t4 : Bool) (t5 : Bool) (a : Zi) (b : Zj) : (Unit ⊕ Unit) → Ex × List V × Zm
  | (.inl r) => (.ret, [(.ptr 0 0), (.ptr 1 0), (.d (D.bool false))], [(.cells (dV t0 t1 t2 t3 a)), (.cells [(.d (D.list t4 (List.map Zb b.work))), (.d (D.list t5 (List.map Zb b.vals)))])])
  | (.inr r) => (.exit 2, [(.ptr 0 0), (.ptr 1 0), .bad], [(.cells (dV t0 t1 t2 t3 a)), (.cells [(.d (D.list t4 (List.map Zb b.work))), (.d (D.list t5 (List.map Zb b.vals)))])])
theorem ZiC {t0 : Bool} {t1 : Bool} {t2 : Bool} {t3 : Bool} {t4 : Bool} {t5 : Bool} {a : Zi} {b : Zj} : ∀ (s4 : Int) (r : (Unit ⊕ Unit)), lp (ZcK a b) s4 = some r → lpW ctx 0 [2, 3, 47, 48, 49] [2, 3, 4] Ztv [(.ptr 0 0), (.ptr 1 0), (.d (D.list t4 (List.map Zb b.work))), (.d (Zb (b.work.length : Int))), (.d (Zb s4))] [(.cells (dV t0 t1 t2 t3 a)), (.cells [(.d (D.list t4 (List.map Zb b.work))), (.d (D.list t5 (List.map Zb b.vals)))])] = some ((Zgh t0 t1 t2 t3 t4 t5 a b) r) := by
 refine ZaY (Zgh t0 t1 t2 t3 t4 t5 a b) ?_
 intro s4 rcl ih
 show ZP _ _ (lpW _ _ _ _ _ _ _)
 unfold ZcK
 rw [ZaW]
 conv => arg 3; whnf
 refine Ze rfl ?_ ?_
 ·conv => arg 3; whnf
  refine Zl rfl rfl fun x5 hx5 => ?_
  conv => arg 3; whnf
  refine Ze rfl ?_ ?_
  ·conv => arg 3; whnf
   refine Zk _ ZgF rfl fun x6 hx6 => ?_
   conv => arg 3; whnf
   refine Ze rfl ?_ ?_
   ·conv => arg 3; whnf
    exact Zd (ih _)
   ·conv => arg 3; whnf
    exact Zf rfl
  ·conv => arg 3; whnf
   exact Zd (ih _)
 ·conv => arg 3; whnf
  exact Zf rfl
theorem ZkE {t0 : Bool} {t1 : Bool} {t2 : Bool} {t3 : Bool} {t4 : Bool} {t5 : Bool} {a : Zi} {b : Zj} : ∀ r, (Zeq a b) = some r → evD ctx 56 [(.d (D.agg (dA t0 t1 t2 t3 a))), (.d (D.agg [(D.list t4 (List.map Zb b.work)), (D.list t5 (List.map Zb b.vals))]))] = some (ZhC r) := by
 show ZP _ (fun r rhs => rhs = some (ZhC r)) _
 unfold Zeq
 rw [Za1 ctx 56 Zv6 _ rfl rfl]
 conv => arg 3; whnf
 refine Zo (ZI _ _) ?_
 conv => arg 3; whnf
 refine Zo (ZI _ _) ?_
 conv => arg 3; whnf
 refine Ze rfl ?_ ?_
 ·conv => arg 3; whnf
  exact Zf rfl
 ·conv => arg 3; whnf
  refine Zo (ZI _ _) ?_
  conv => arg 3; whnf
  refine Zo (ZI _ _) ?_
  conv => arg 3; whnf
  refine Ze rfl ?_ ?_
  ·conv => arg 3; whnf
   exact Zf rfl
  ·conv => arg 3; whnf
   refine Zo (ZI _ _) ?_
   conv => arg 3; whnf
   refine Zc _ (ZiS _) fun r3 hr3 => ?_
   clear hr3
   rcases r3 with r3 | r3
   ·conv => arg 3; whnf
    exact Zf rfl
   ·conv => arg 3; whnf
    refine Zo (ZI _ _) ?_
    conv => arg 3; whnf
    refine Zc _ (ZiC _) fun r7 hr7 => ?_
    clear hr7
    rcases r7 with r7 | r7
    ·conv => arg 3; whnf
     exact Zf rfl
    ·conv => arg 3; whnf
     refine Zk _ Zcw rfl fun x8 hx8 => ?_
     conv => arg 3; whnf
     refine Ze rfl ?_ ?_
     ·conv => arg 3; whnf
      exact Zf rfl
     ·conv => arg 3; whnf
      exact Zf rfl
def Zhu (r : Int) : D := (Zb r)
theorem Zg9 {t0 : Bool} {t1 : Bool} {t2 : Bool} {t3 : Bool} {t4 : Bool} {t5 : Bool} {a : Zi} {b : Zj} : ∀ r, (ZdS a b) = some r → evD ctx 31 [(.d (D.agg (dA t0 t1 t2 t3 a))), (.d (D.agg [(D.list t4 (List.map Zb b.work)), (D.list t5 (List.map Zb b.vals))]))] = some (Zhu r) := by
 show ZP _ (fun r rhs => rhs = some (Zhu r)) _
 unfold ZdS
 rw [Za1 ctx 31 ZvK _ rfl rfl]
 conv => arg 3; whnf
 refine Zk _ ZeY rfl fun x0 hx0 => ?_
 conv => arg 3; whnf
 refine Ze rfl ?_ ?_
 ·conv => arg 3; whnf
  refine Zk _ ZkE rfl fun x1 hx1 => ?_
  conv => arg 3; whnf
  refine Ze rfl ?_ ?_
  ·conv => arg 3; whnf
   exact Zf rfl
  ·conv => arg 3; whnf
   exact Zf rfl
 ·conv => arg 3; whnf
  exact Zf rfl
def ZiQ (r : (List Int)) : D := (D.list true (List.map Zb r))
theorem ZlI {t0 : Bool} {t1 : Bool} {t2 : Bool} {t3 : Bool} {t4 : Bool} {t5 : Bool} {a : Zi} {b : Zj} : ∀ r, (Zfg a b) = some r → evD ctx 28 [(.d (D.agg (dA t0 t1 t2 t3 a))), (.d (D.agg [(D.list t4 (List.map Zb b.work)), (D.list t5 (List.map Zb b.vals))]))] = some (ZiQ r) := by
 show ZP _ (fun r rhs => rhs = some (ZiQ r)) _
 unfold Zfg
 rw [Za1 ctx 28 ZvI _ rfl rfl]
 conv => arg 3; whnf
 refine Zk _ Zg9 rfl fun x0 hx0 => ?_
 conv => arg 3; whnf
 refine Ze rfl ?_ ?_
 ·conv => arg 3; whnf
  exact Zf rfl
 ·conv => arg 3; whnf
  refine Zk _ Zf6 rfl fun x1 hx1 => ?_
  conv => arg 3; whnf
  exact Zf rfl
def ZjD (r : (Zj × Int)) : D := (D.tup [(D.agg [(D.list true (List.map Zb r.1.work)), (D.list true (List.map Zb r.1.vals))]), (Zb r.2)])
theorem Zgw {t0 : Bool} {t1 : Bool} {t2 : Bool} {t3 : Bool} {t4 : Bool} {t5 : Bool} {t6 : Bool} {a : Zi} {b : (List Int)} {c : Zj} {d : Int} : ∀ r, (Zes a b c d) = some r → evD ctx 24 [(.d (D.agg (dA t0 t1 t2 t3 a))), (.d (D.list t4 (List.map Zb b))), (.d (D.agg [(D.list t5 (List.map Zb c.work)), (D.list t6 (List.map Zb c.vals))])), (.d (Zb d))] = some (ZjD r) := by
 show ZP _ (fun r rhs => rhs = some (ZjD r)) _
 unfold Zes
 rw [Za1 ctx 24 ZwK _ rfl rfl]
 conv => arg 3; whnf
 refine Zk _ Zg9 rfl fun x0 hx0 => ?_
 conv => arg 3; whnf
 refine Ze rfl ?_ ?_
 ·conv => arg 3; whnf
  refine Ze rfl ?_ ?_
  ·conv => arg 3; whnf
   exact Zf rfl
  ·conv => arg 3; whnf
   refine Zo (ZI _ _) ?_
   conv => arg 3; whnf
   refine Ze rfl ?_ ?_
   ·conv => arg 3; whnf
    exact Zf rfl
   ·conv => arg 3; whnf
    refine Ze rfl ?_ ?_
    ·conv => arg 3; whnf
     exact Zf rfl
    ·conv => arg 3; whnf
     refine Zk _ Zbi rfl fun x1 hx1 => ?_
     conv => arg 3; whnf
     refine Ze rfl ?_ ?_
     ·conv => arg 3; whnf
      exact Zf rfl
     ·conv => arg 3; whnf
      refine Zk _ Zfy rfl fun x2 hx2 => ?_
      conv => arg 3; whnf
      refine Ze rfl ?_ ?_
      ·conv => arg 3; whnf
       refine Zk _ ZfD rfl fun x3 hx3 => ?_
       conv => arg 3; whnf
       exact Zf rfl
      ·conv => arg 3; whnf
       exact Zf rfl
 ·conv => arg 3; whnf
  refine Ze rfl ?_ ?_
  ·conv => arg 3; whnf
   exact Zf rfl
  ·conv => arg 3; whnf
   refine Zk _ Zbi rfl fun x4 hx4 => ?_
   conv => arg 3; whnf
   refine Ze rfl ?_ ?_
   ·conv => arg 3; whnf
    exact Zf rfl
   ·conv => arg 3; whnf
    refine Zk _ Zfy rfl fun x5 hx5 => ?_
    conv => arg 3; whnf
    refine Ze rfl ?_ ?_
    ·conv => arg 3; whnf
     refine Zk _ ZfD rfl fun x6 hx6 => ?_
     conv => arg 3; whnf
     exact Zf rfl
    ·conv => arg 3; whnf
     exact Zf rfl
def ZiE (r : Bool) : D := (D.bool r)
def Zg2 (t0 : Bool) (t1 : Bool) (a : (List Int)) (b : (List Int)) : (Unit ⊕ Unit) → Ex × List V × Zm
  | (.inl r) => (.ret, [(.d (D.bool false))], [])
  | (.inr r) => (.exit 0, [.bad], [])
theorem ZjN {t0 : Bool} {t1 : Bool} {a : (List Int)} {b : (List Int)} : ∀ (s0 : Int) (r : (Unit ⊕ Unit)), lp (Zdv a b) s0 = some r → lpW ctx 0 [0, 1, 5] [4] Ztm [(.d (D.list t0 (List.map Zb a))), (.d (D.list t1 (List.map Zb b))), (.d (Zb s0))] [] = some ((Zg2 t0 t1 a b) r) := by
 refine ZaY (Zg2 t0 t1 a b) ?_
 intro s0 rcl ih
 show ZP _ _ (lpW _ _ _ _ _ _ _)
 unfold Zdv
 rw [ZaW]
 conv => arg 3; whnf
 refine Zo (ZI _ _) ?_
 conv => arg 3; whnf
 refine Ze rfl ?_ ?_
 ·conv => arg 3; whnf
  refine Zl rfl rfl fun x1 hx1 => ?_
  conv => arg 3; whnf
  refine Zl rfl rfl fun x2 hx2 => ?_
  conv => arg 3; whnf
  refine Ze rfl ?_ ?_
  ·conv => arg 3; whnf
   exact Zf rfl
  ·conv => arg 3; whnf
   exact Zd (ih _)
 ·conv => arg 3; whnf
  exact Zf rfl
theorem ZlM {t0 : Bool} {t1 : Bool} {a : (List Int)} {b : (List Int)} : ∀ r, (Zfj a b) = some r → evD ctx 20 [(.d (D.list t0 (List.map Zb a))), (.d (D.list t1 (List.map Zb b)))] = some (ZiE r) := by
 show ZP _ (fun r rhs => rhs = some (ZiE r)) _
 unfold Zfj
 rw [Za1 ctx 20 Zwk _ rfl rfl]
 conv => arg 3; whnf
 refine Zo (ZI _ _) ?_
 conv => arg 3; whnf
 refine Zo (ZI _ _) ?_
 conv => arg 3; whnf
 refine Ze rfl ?_ ?_
 ·conv => arg 3; whnf
  exact Zf rfl
 ·conv => arg 3; whnf
  refine Zc _ (ZjN _) fun r3 hr3 => ?_
  clear hr3
  rcases r3 with r3 | r3
  ·conv => arg 3; whnf
   exact Zf rfl
  ·conv => arg 3; whnf
   exact Zf rfl
def Zfw (r : Bool) : D := (D.bool r)
def ZeR (t0 : Bool) (t1 : Bool) (t2 : Bool) (t3 : Bool) (t4 : Bool) (t5 : Bool) (a : Zi) (b : (List Int)) (c : (List Int)) (x6 : ((List Int) × Int)) : (((List Int) × (List Int)) ⊕ ((List Int) × (List Int))) → Ex × List V × Zm
  | (.inl r) => (.exit 0, [(.ptr 0 0), .bad, (.ptr 1 0), (.d (D.list true (List.map Zb x6.1))), (.d (Zb x6.2))], [(.cells (dV t0 t1 t2 t3 a)), (.cells [(.d (D.list true (List.map Zb r.1))), (.d (D.list true (List.map Zb r.2)))])])
  | (.inr r) => (.ret, [(.ptr 0 0), (.d (D.bool false)), (.ptr 1 0), (.d (D.list true (List.map Zb x6.1))), (.d (Zb x6.2))], [(.cells (dV t0 t1 t2 t3 a)), (.cells [(.d (D.list true (List.map Zb r.1))), (.d (D.list true (List.map Zb r.2)))])])
theorem ZgM {t0 : Bool} {t1 : Bool} {t2 : Bool} {t3 : Bool} {t4 : Bool} {t5 : Bool} {a : Zi} {b : (List Int)} {c : (List Int)} {x6 : ((List Int) × Int)} : ∀ (s7 : Int × (List Int) × (List Int)) (r : (((List Int) × (List Int)) ⊕ ((List Int) × (List Int)))), lp (Za5 a b c) s7 = some r → lpW ctx 0 [1, 2, 3, 7, 9, 10, 11] [3, 6, 7, 9, 10] Zvn [(.d (D.list t4 (List.map Zb b))), (.d (D.list t5 (List.map Zb c))), (.ptr 0 0), (.ptr 1 0), (.d (D.list true (List.map Zb x6.1))), (.d (Zb x6.2)), (.d (Zb s7.1))] [(.cells (dV t0 t1 t2 t3 a)), (.cells [(.d (D.list true (List.map Zb s7.2.1))), (.d (D.list true (List.map Zb s7.2.2)))])] = some ((ZeR t0 t1 t2 t3 t4 t5 a b c x6) r) := by
 refine ZaY (ZeR t0 t1 t2 t3 t4 t5 a b c x6) ?_
 intro s7 rcl ih
 show ZP _ _ (lpW _ _ _ _ _ _ _)
 unfold Za5
 rw [ZaW]
 conv => arg 3; whnf
 refine Ze rfl ?_ ?_
 ·conv => arg 3; whnf
  refine Zc _ ZdR fun x8 hx8 => ?_
  conv => arg 3; whnf
  refine Zc _ Zff fun x9 hx9 => ?_
  conv => arg 3; whnf
  refine Zk _ ZlI rfl fun x10 hx10 => ?_
  conv => arg 3; whnf
  refine Zo (ZI _ _) ?_
  conv => arg 3; whnf
  refine Ze rfl ?_ ?_
  ·conv => arg 3; whnf
   exact Zf rfl
  ·conv => arg 3; whnf
   refine Zo (ZI _ _) ?_
   conv => arg 3; whnf
   refine Ze rfl ?_ ?_
   ·conv => arg 3; whnf
    refine Zo (ZI _ _) ?_
    conv => arg 3; whnf
    refine Ze rfl ?_ ?_
    ·exact Z9
    ·conv => arg 3; whnf
     refine Zl rfl rfl fun x11 hx11 => ?_
     conv => arg 3; whnf
     refine Ze rfl ?_ ?_
     ·conv => arg 3; whnf
      refine Zo (ZI _ _) ?_
      conv => arg 3; whnf
      refine Ze rfl ?_ ?_
      ·exact Z9
      ·conv => arg 3; whnf
       refine Zg (Zbc rfl hx11) ?_
       conv => arg 3; whnf
       refine Zo (ZI _ _) ?_
       conv => arg 3; whnf
       refine Ze rfl ?_ ?_
       ·exact Z9
       ·conv => arg 3; whnf
        refine Zc _ ZdR fun x12 hx12 => ?_
        conv => arg 3; whnf
        refine ZbZ (Zec (f := Zb) (fun _ => ⟨rfl, rfl⟩) b 0) ?_
        conv => arg 3; whnf
        refine Ze (Zeb Zb b) ?_ ?_
        ·conv => arg 3; whnf
         refine Zo (rfl : _ = List.map Zb b) ?_
         conv => arg 3; whnf
         refine Zc _ Zff fun x13 hx13 => ?_
         conv => arg 3; whnf
         refine Zl rfl rfl fun x14 hx14 => ?_
         conv => arg 3; whnf
         refine Zk _ Zgw rfl fun x15 hx15 => ?_
         conv => arg 3; whnf
         refine Ze rfl ?_ ?_
         ·conv => arg 3; whnf
          exact Zf rfl
         ·conv => arg 3; whnf
          exact Zd (ih _)
        ·exact Z9
     ·conv => arg 3; whnf
      refine Zc _ ZdR fun x16 hx16 => ?_
      conv => arg 3; whnf
      refine ZbZ (Zec (f := Zb) (fun _ => ⟨rfl, rfl⟩) b 0) ?_
      conv => arg 3; whnf
      refine Ze (Zeb Zb b) ?_ ?_
      ·conv => arg 3; whnf
       refine Zo (rfl : _ = List.map Zb b) ?_
       conv => arg 3; whnf
       refine Zc _ Zff fun x17 hx17 => ?_
       conv => arg 3; whnf
       refine Zl rfl rfl fun x18 hx18 => ?_
       conv => arg 3; whnf
       refine Zk _ Zgw rfl fun x19 hx19 => ?_
       conv => arg 3; whnf
       refine Ze rfl ?_ ?_
       ·conv => arg 3; whnf
        exact Zf rfl
       ·conv => arg 3; whnf
        exact Zd (ih _)
      ·exact Z9
   ·conv => arg 3; whnf
    refine Zc _ ZdR fun x20 hx20 => ?_
    conv => arg 3; whnf
    refine ZbZ (Zec (f := Zb) (fun _ => ⟨rfl, rfl⟩) b 0) ?_
    conv => arg 3; whnf
    refine Ze (Zeb Zb b) ?_ ?_
    ·conv => arg 3; whnf
     refine Zo (rfl : _ = List.map Zb b) ?_
     conv => arg 3; whnf
     refine Zc _ Zff fun x21 hx21 => ?_
     conv => arg 3; whnf
     refine Zl rfl rfl fun x22 hx22 => ?_
     conv => arg 3; whnf
     refine Zk _ Zgw rfl fun x23 hx23 => ?_
     conv => arg 3; whnf
     refine Ze rfl ?_ ?_
     ·conv => arg 3; whnf
      exact Zf rfl
     ·conv => arg 3; whnf
      exact Zd (ih _)
    ·exact Z9
 ·conv => arg 3; whnf
  exact Zf rfl
def ZeT (t0 : Bool) (t1 : Bool) (t2 : Bool) (t3 : Bool) (a : Zi) (x6 : ((List Int) × Int)) (r24 : ((List Int) × (List Int))) : (Unit ⊕ Unit) → Ex × List V × Zm
  | (.inl r) => (.exit 2, [(.ptr 0 0), (.d (D.list true (List.map Zb x6.1))), (.d (Zb x6.2)), (.d (D.bool true))], [(.cells [(.d (D.list true (List.map Zb r24.1))), (.d (D.list true (List.map Zb r24.2)))])])
  | (.inr r) => (.exit 2, [(.ptr 0 0), (.d (D.list true (List.map Zb x6.1))), (.d (Zb x6.2)), (.d (D.bool false))], [(.cells [(.d (D.list true (List.map Zb r24.1))), (.d (D.list true (List.map Zb r24.2)))])])
theorem ZgL {t0 : Bool} {t1 : Bool} {t2 : Bool} {t3 : Bool} {a : Zi} {x6 : ((List Int) × Int)} {r24 : ((List Int) × (List Int))} : ∀ (s25 : Bool × Int) (r : (Unit ⊕ Unit)), lp (ZaJ a r24) s25 = some r → lpW ctx 0 [3, 7, 9, 10, 16, 17] [7, 9, 10, 16] Zvl [(.ptr 0 0), (.ptr 1 0), (.d (D.list true (List.map Zb x6.1))), (.d (Zb x6.2)), (.d (D.bool s25.1)), (.d (Zb s25.2))] [(.cells (dV t0 t1 t2 t3 a)), (.cells [(.d (D.list true (List.map Zb r24.1))), (.d (D.list true (List.map Zb r24.2)))])] = some ((ZeT t0 t1 t2 t3 a x6 r24) r) := by
 refine ZaY (ZeT t0 t1 t2 t3 a x6 r24) ?_
 intro s25 rcl ih
 show ZP _ _ (lpW _ _ _ _ _ _ _)
 unfold ZaJ
 rw [ZaW]
 rcases hb : s25.1 with _ | _
 ·refine ZoH ?_
  conv => arg 3; whnf
  refine Zo (ZI _ _) ?_
  conv => arg 3; whnf
  refine Ze rfl ?_ ?_
  ·conv => arg 3; whnf
   exact Zd (ih _)
  ·conv => arg 3; whnf
   exact Zf rfl
 ·refine ZoO ?_
  conv => arg 3; whnf
  refine Zo (ZI _ _) ?_
  conv => arg 3; whnf
  refine Ze rfl ?_ ?_
  ·conv => arg 3; whnf
   refine Zl rfl rfl fun x26 hx26 => ?_
   conv => arg 3; whnf
   refine Zl rfl rfl fun x27 hx27 => ?_
   conv => arg 3; whnf
   refine Ze rfl ?_ ?_
   ·conv => arg 3; whnf
    exact Zd (ih _)
   ·conv => arg 3; whnf
    exact Zd (ih _)
  ·conv => arg 3; whnf
   exact Zf rfl
theorem ZhV {t0 : Bool} {t1 : Bool} {t2 : Bool} {t3 : Bool} {t4 : Bool} {t5 : Bool} {a : Zi} {b : (List Int)} {c : (List Int)} : ∀ r, (ZdQ a b c) = some r → evD ctx 8 [(.d (D.agg (dA t0 t1 t2 t3 a))), (.d (D.list t4 (List.map Zb b))), (.d (D.list t5 (List.map Zb c)))] = some (Zfw r) := by
 show ZP _ (fun r rhs => rhs = some (Zfw r)) _
 unfold ZdQ
 rw [Za1 ctx 8 fn8 _ rfl rfl]
 conv => arg 3; whnf
 refine Zk _ ZeG rfl fun x0 hx0 => ?_
 conv => arg 3; whnf
 refine Ze rfl ?_ ?_
 ·conv => arg 3; whnf
  refine Zk _ Zma rfl fun x1 hx1 => ?_
  conv => arg 3; whnf
  refine Ze rfl ?_ ?_
  ·conv => arg 3; whnf
   refine Zo (ZI _ _) ?_
   conv => arg 3; whnf
   refine Ze rfl ?_ ?_
   ·conv => arg 3; whnf
    refine Zk _ ZeG rfl fun x2 hx2 => ?_
    conv => arg 3; whnf
    refine Ze rfl ?_ ?_
    ·conv => arg 3; whnf
     exact Zf rfl
    ·conv => arg 3; whnf
     exact Zf rfl
   ·conv => arg 3; whnf
    refine Zc _ ZdR fun x3 hx3 => ?_
    conv => arg 3; whnf
    refine Zk _ Zii rfl fun x4 hx4 => ?_
    conv => arg 3; whnf
    refine Zc _ ZdR fun x5 hx5 => ?_
    conv => arg 3; whnf
    refine ZbZ (Zec (f := Zb) (fun _ => ⟨rfl, rfl⟩) b 0) ?_
    conv => arg 3; whnf
    refine Ze (Zeb Zb b) ?_ ?_
    ·conv => arg 3; whnf
     refine Zo (rfl : _ = List.map Zb b) ?_
     conv => arg 3; whnf
     refine Zk _ ZlD rfl fun x6 hx6 => ?_
     conv => arg 3; whnf
     refine Ze rfl ?_ ?_
     ·conv => arg 3; whnf
      refine Ze rfl ?_ ?_
      ·conv => arg 3; whnf
       exact Zf rfl
      ·conv => arg 3; whnf
       exact Zf rfl
     ·conv => arg 3; whnf
      refine Zc _ (ZgM _) fun r24 hr24 => ?_
      clear hr24
      rcases r24 with r24 | r24
      ·conv => arg 3; whnf
       refine Zc _ (ZgL _) fun r28 hr28 => ?_
       clear hr28
       rcases r28 with r28 | r28
       ·conv => arg 3; whnf
        refine Ze rfl ?_ ?_
        ·conv => arg 3; whnf
         refine ZbZ rfl ?_
         conv => arg 3; whnf
         refine Zk _ ZlM rfl fun x29 hx29 => ?_
         conv => arg 3; whnf
         refine Ze rfl ?_ ?_
         ·conv => arg 3; whnf
          exact Zf rfl
         ·conv => arg 3; whnf
          exact Zf rfl
        ·conv => arg 3; whnf
         refine Zae rfl ?_
         conv => arg 3; whnf
         exact Zf rfl
       ·conv => arg 3; whnf
        refine Ze rfl ?_ ?_
        ·conv => arg 3; whnf
         refine Zae rfl ?_
         conv => arg 3; whnf
         exact Zf rfl
        ·conv => arg 3; whnf
         refine ZbZ rfl ?_
         conv => arg 3; whnf
         exact Zf rfl
      ·conv => arg 3; whnf
       exact Zf rfl
    ·exact Z9
  ·conv => arg 3; whnf
   refine Zk _ ZeG rfl fun x30 hx30 => ?_
   conv => arg 3; whnf
   refine Ze rfl ?_ ?_
   ·conv => arg 3; whnf
    exact Zf rfl
   ·conv => arg 3; whnf
    exact Zf rfl
 ·conv => arg 3; whnf
  refine Zk _ ZeG rfl fun x31 hx31 => ?_
  conv => arg 3; whnf
  refine Ze rfl ?_ ?_
  ·conv => arg 3; whnf
   exact Zf rfl
  ·conv => arg 3; whnf
   exact Zf rfl
end Go.Proofs.YtnmbdjkbaihicaaDoor
namespace Go.Proofs.YtnmbdjkbaihicaaDoor
open Go Go.Proofs.YtnmbdjkbaihicaaDoorE
abbrev Zpn : List Lf × Bool := ([.int .i64, .int .i64, .sl true [.int .i64, .int .i64, .int .i64], .sl true [.int .i64, .int .i64], .sl true [.int .i64, .int .i64, .int .i64], .sl true [.sl false [.int .i64], .sl false [.int .i64]]], true)
abbrev Zjv : List Lf × Bool := ([.sl false [.int .i64]], false)
end Go.Proofs.YtnmbdjkbaihicaaDoor
namespace Go.Proofs.YtnmbdjkbaihicaaDoor
open Go Go.Proofs.YtnmbdjkbaihicaaDoorE
set_option linter.unusedVariables false
set_option linter.unusedSimpArgs false
theorem ZsD {d : Zi} {s : Zj} (g : Zct d) (picks : List Int) (k : Nat) (hne : ZeO d s ≠ []) : ∃ p, p ∈ ZeO d s ∧
  (0 < picks.length → ∃ x, ZB picks (Int.tmod (k : Int) (picks.length : Int)) = some x ∧ (0 ≤ x → ZB (ZeO d s) (Int.tmod x ((ZeO d s).length : Int)) = some p) ∧ (¬ 0 ≤ x → ZB (ZeO d s) 0 = some p)) ∧ (picks.length = 0 → ZB (ZeO d s) 0 = some p) := by
 have hl : 0 < (ZeO d s).length := List.length_pos_iff.2 hne
 have h0 : ZB (ZeO d s) 0 = some (ZeO d s)[0] := Zh6 (by omega) (by simpa using hl)
 by_cases hp : picks.length = 0
 ·exact ⟨(ZeO d s)[0], List.getElem_mem _, fun h => by omega, fun _ => h0⟩
 have e : Int.tmod (k : Int) (picks.length : Int) = ((k % picks.length : Nat) : Int) := by rw [Int.tmod_eq_emod_of_nonneg (by omega)]; rfl
 have hk : k % picks.length < picks.length := Nat.mod_lt _ (by omega)
 have hx : ZB picks (Int.tmod (k : Int) (picks.length : Int)) = some picks[k % picks.length] := by rw [e]; exact Za2 (List.getElem?_eq_getElem hk)
 by_cases h : 0 ≤ picks[k % picks.length]
 ·have h1 : 0 ≤ Int.tmod picks[k % picks.length] ((ZeO d s).length : Int) := Int.tmod_nonneg _ h
  have h2 : Int.tmod picks[k % picks.length] ((ZeO d s).length : Int) < ((ZeO d s).length : Int) := Int.tmod_lt_of_pos _ (by omega)
  have hi : (Int.tmod picks[k % picks.length] ((ZeO d s).length : Int)).toNat < (ZeO d s).length := by omega
  exact ⟨(ZeO d s)[(Int.tmod picks[k % picks.length] ((ZeO d s).length : Int)).toNat], List.getElem_mem _, fun _ => ⟨_, hx, fun _ => Zh6 h1 hi, fun hn => absurd h hn⟩, fun he => absurd he hp⟩
 ·exact ⟨(ZeO d s)[0], List.getElem_mem _, fun _ => ⟨_, hx, fun hn => absurd hn h, fun _ => h0⟩, fun he => absurd he hp⟩
theorem Zlz {d : Zi} (sd : Znz d) (hc : Zbz d = 0) (input picks : List Int) (hi : input.length ≤ 60) {s : Zj} (r : Zhe d s) (k : Nat) (hk : k < 1601) :
  (Zju d s ∧ Za5 d input picks ((k : Int), s.work, s.vals) = some (.inr (.inl (s.work, s.vals)))) ∨
  ∃ p, inR d p ∧ Zpm d s p ∧ Za5 d input picks ((k : Int), s.work, s.vals) = some (.inl (((k + 1 : Nat) : Int), (ZdM d input s p).work, (ZdM d input s p).vals)) := by
 have g := Zef hc
 have sh := sd.short
 have hlw : s.work.length ≤ 1000 := by rw [r.o.w]; have := g.pl; omega
 have hlv : s.vals.length ≤ 1000 := by rw [r.o.v]; have := g.pl; omega
 have e1 : w64 ((k : Int) + 1) = ((k + 1 : Nat) : Int) := Zac hk (by omega)
 have eqv : Zj.mk s.work s.vals = s := rfl
 unfold Za5
 simp only [decide_eq_true (show (k : Int) < 1601 by omega), cond_true, Zvt d sd, Option.bind_some, eqv, ZvY hlw hlv, Zpl, Zwh sh, Zlo hc r, beq_self_eq_true]
 by_cases hm : ZeO d s = []
 ·left
  refine ⟨(ZoN g).1 hm, ?_⟩
  rw [hm]; rfl
 ·right
  obtain ⟨p, h1, h2, h3⟩ := ZsD g picks k hm
  obtain ⟨q1, q2⟩ := ZqD g h1
  refine ⟨p, q1, q2, ?_⟩
  have hl : 0 < (ZeO d s).length := List.length_pos_iff.2 hm
  have hgo : goS d input s p = (ZdM d input s p, 0) := by
   unfold goS
   obtain ⟨i1, i2⟩ := q1
   rw [Zlo hc r, decide_eq_false (show ¬ p < 0 by omega), decide_eq_false (show ¬ (d.parts.length : Int) ≤ p by omega), ZtE q2.1, (Zkh g).2 q2]
   rfl
  have z1 : (((ZeO d s).length : Int) == 0) = false := by rw [beq_eq_false_iff_ne]; omega
  rw [z1]
  simp only [cond_false, Zhl (show input.length ≤ 1073741824 by omega), cond_true]
  by_cases hp : 0 < picks.length
  ·obtain ⟨x, x1, x2, x3⟩ := h2 hp
   have z2 : ((picks.length : Int) == 0) = false := by rw [beq_eq_false_iff_ne]; omega
   rw [decide_eq_true (show (0 : Int) < (picks.length : Int) by omega), z2, x1]
   simp only [cond_true, cond_false, Option.bind_some]
   by_cases hx : 0 ≤ x
   ·rw [decide_eq_true hx, x2 hx]
    simp only [cond_true, Option.bind_some, Zwv sh input (show input.length ≤ 1000 by omega), hgo, bne_self_eq_false, cond_false, e1]
   ·rw [decide_eq_false hx, x3 hx]
    simp only [cond_false, Option.bind_some, Zwv sh input (show input.length ≤ 1000 by omega), hgo, bne_self_eq_false, e1]
  ·rw [decide_eq_false (show ¬ (0 : Int) < (picks.length : Int) by omega), h3 (by omega)]
   simp only [cond_false, Option.bind_some, Zwv sh input (show input.length ≤ 1000 by omega), hgo, bne_self_eq_false, e1]
theorem Zug {d : Zi} {s : Zj} (g : Zct d) (o : OKS d s) : lp (ZaJ d (s.work, s.vals)) (true, 0) = some (bif Zf8 d s then .inl () else .inr ()) := by
 have hl : d.parts.length < 9223372036854775808 := by have := g.pl; omega
 have key : ∀ k i : Nat, i + k = d.parts.length → ∀ b : Bool, lp (ZaJ d (s.work, s.vals)) (b, (i : Int)) = some (bif b && !(Ze2 (fun i (_ : ZH) => !Zb0 d s (i : Int)) i (d.parts.drop i)) then .inl () else .inr ()) := by
  intro k
  induction k with
  | zero =>
   intro i hi b
   have : i = d.parts.length := by omega
   subst this
   rw [Zbv, List.drop_length]
   cases b <;> simp only [ZaJ, Zfd, cond_false, cond_true] <;> rfl
  | succ k ih =>
   intro i hi b
   have hi' : i < d.parts.length := by omega
   have e := Zac hi' hl
   obtain ⟨x, x1, _, x3⟩ := ZfS (Ze5 hi')
   rw [Zbv, List.drop_eq_getElem_cons hi']
   unfold Ze2
   cases b with
   | false =>
    simp only [ZaJ, Ze8 hi', cond_true, cond_false, e]
    rw [ih (i + 1) (by omega)]; rfl
   | true =>
    have : (wk s (i : Int) == x.work) = Zb0 d s (i : Int) := by unfold Zb0; rw [x3]
    simp only [ZaJ, Ze8 hi', cond_true, e, ZkY o (Ze5 hi'), x1, Option.bind_some, this]
    cases Zb0 d s (i : Int) with
    | true => simp only [cond_true]; rw [ih (i + 1) (by omega)]; rfl
    | false => simp only [cond_false]; rw [ih (i + 1) (by omega)]; rfl
 have := key d.parts.length 0 (by omega) true
 rw [List.drop_zero] at this
 exact this
theorem ZlE (d : Zi) (input picks : List Int) : ZdQ d input picks = some true := by
 unfold ZdQ
 simp only [Zei, ZwL, Option.bind_some, cond_true]
 cases hf : ZsL d input ⟨[], []⟩ with
 | false => rfl
 | true =>
  obtain ⟨sd, hi, _, _⟩ := ZuF hf
  have sh := sd.short
  simp only [cond_true]
  by_cases c1 : (70 : Int) < (picks.length : Int)
  ·rw [decide_eq_true c1]; rfl
  rw [decide_eq_false c1]
  simp only [cond_false, Zvt d sd, Option.bind_some, Zpl, Ztu d sh, Zhl (show input.length ≤ 1073741824 by omega), cond_true]
  by_cases hc : Zbz d = 0
  case neg =>
   rw [show (Zbz d == 0) = false by simpa using hc, Zur hc sh input]
   simp only [cond_false, Option.bind_some]
   rw [show (Zbz d != 0) = true by simpa using hc]
   simp
  have g := Zef hc
  obtain ⟨t, t1, t2, t3⟩ := ZwQ hc sh input (by omega)
  rw [t3, hc]
  simp only [beq_self_eq_true, cond_true, Option.bind_some, bne_self_eq_false, cond_false]
  have key : ∀ (n k : Nat) (s : Zj), left d s = n → k + n ≤ 1600 → Runs d input s → ∃ u, Runs d input u ∧ Zju d u ∧ lp (Za5 d input picks) ((k : Int), s.work, s.vals) = some (.inl (u.work, u.vals)) := by
   intro n
   induction n with
   | zero =>
    intro k s hn hk hr
    have R := hr.right g
    rcases Zlz sd hc input picks hi R k (by omega) with ⟨h1, h2⟩ | ⟨p, h1, h2, _⟩
    ·exact ⟨s, hr, h1, by rw [Zbv, h2]⟩
    ·have := Zi9 R input h1 h2
     omega
   | succ n ih =>
    intro k s hn hk hr
    have R := hr.right g
    rcases Zlz sd hc input picks hi R k (by omega) with ⟨h1, h2⟩ | ⟨p, h1, h2, h3⟩
    ·exact ⟨s, hr, h1, by rw [Zbv, h2]⟩
    ·have := Zi9 R input h1 h2
     obtain ⟨u, u1, u2, u3⟩ := ih (k + 1) (ZdM d input s p) (by omega) (by omega) (.step hr h1 h2)
     exact ⟨u, u1, u2, by rw [Zbv, h3]; exact u3⟩
  obtain ⟨u, u1, u2, u3⟩ := key (left d (ZlK d)) 0 (ZlK d) rfl (by have := Zv0 g (ZkW g); omega) .new
  rw [show ((0 : Nat) : Int) = 0 from rfl] at u3
  rw [u3]
  simp only [Option.bind_some]
  rw [Zug g (u1.right g).o]
  have hw := Zs1 g u1 u2 t1 t2
  rw [hw]
  cases hb : Zf8 d t with
  | false => rfl
  | true =>
   have hv := ZuG hc sh u1 t1 (hw.trans hb) hb
   have hl : u.vals.length < 9223372036854775808 := by rw [(u1.right g).o.v]; have := g.pl; omega
   simp only [cond_true, Option.bind_some, beq_self_eq_true]
   rw [Zsq _ _ hl, decide_eq_true hv]
   rfl
theorem Znb (xs : List D) (h : Zfv Zpn.1 xs) (ys : List D) (k : Zfv Zjv.1 ys) (zs : List D) (m : Zfv Zjv.1 zs) :
  ∃ H', evW ctx 8 (Zcq [Zmd Zpn.2 xs, Zmd Zjv.2 ys, Zmd Zjv.2 zs]) [] = some (.d (.bool true), H') := by
 obtain ⟨d, hd, _⟩ := ZuM h
 obtain ⟨a, ha, _⟩ := Zq2 k
 obtain ⟨b, hb, _⟩ := Zq2 m
 show ∃ H', evW ctx 8 [.d (D.agg xs), .d (Zmd false ys), .d (Zmd false zs)] [] = _
 rw [hd, ha, hb]
 exact ZtJ (ZhV true (ZlE d a b))
end Go.Proofs.YtnmbdjkbaihicaaDoor
namespace Go.Proofs.YtnmbdjkbaihicaaDoor.LawSourceOrder
open Go.ChangeShapes Go.WideShapes Go.ChangeAt Go.RowKit Go.Proofs.YtnmbdjkbaihicaaDoorE
set_option linter.unusedVariables false
theorem own : ownKnob Tryd.prog.godebug = none := by kernel_rfl
theorem Zoq : laidOutB Tryd.prog = true := by kernel_rfl
def ZmI : List (String × DataW Unit) := [("math/bits.deBruijn32tab", Rows.laid_math_bits_deBruijn32tab), ("math/bits.deBruijn64tab", Rows.laid_math_bits_deBruijn64tab)]
theorem Ztt (os : Os) (args : Array Value) : laidMetH Tryd.prog ZmI ((World.doorLaid Tryd.prog 19 os).forCall (fun _ _ => 0) ⟨#[], args, []⟩).memory :=
 laidMetH_of_parts3 (fuel := 8) (laidMet_of_run' 8 (by kernel_rfl) (by kernel_rfl)) (by kernel_rfl) (by kernel_rfl)
theorem Zsr {W : World} (h : laidMetH Tryd.prog ZmI W) : GOK Zy R0 W := by
 intro g l hg
 unfold Zy at hg
 split at hg
 ·cases hg
  exact Zl5 (t := 148) (N := 32) (e := 5) (k := .u8) h (by kernel_rfl) (n := "math/bits.deBruijn32tab") (by rw [show DataW.agg (ZjP Zvk) = Rows.laid_math_bits_deBruijn32tab by kernel_rfl]; simp [ZmI]) (by kernel_rfl) (by kernel_rfl) (by kernel_rfl) (by kernel_rfl) (by kernel_rfl) (by kernel_rfl) (by decide)
 ·cases hg
  exact Zl5 (t := 149) (N := 64) (e := 5) (k := .u8) h (by kernel_rfl) (n := "math/bits.deBruijn64tab") (by rw [show DataW.agg (ZjP Zvy) = Rows.laid_math_bits_deBruijn64tab by kernel_rfl]; simp [ZmI]) (by kernel_rfl) (by kernel_rfl) (by kernel_rfl) (by kernel_rfl) (by kernel_rfl) (by kernel_rfl) (by decide)
 ·cases hg
theorem Zwa (os : Os) (started : os.Started) (H : Type) (enc : TypeId × Value → H) :
  ReturnsInHanded {} Tryd.checked os 8 .any (fun w args => (Rows.sourceOrderSpec.pre enc Tryd.prog Tryd.f8 [] false w args ∧ laidMetH Tryd.prog ZmI w) ∧ sizedMet enc Tryd.prog Tryd.f8 (OpenSpec.ofChange Rows.sourceOrderSpec) false w args) (Rows.sourceOrderSpec.post enc Tryd.prog Tryd.f8 false true false false) := by
 refine returnsInHanded_of_change_and (C := Tryd.checked) (X := fun w _ => laidMetH Tryd.prog ZmI w) (fun _ _ _ hh h => h.of_heap hh) own started (by kernel_rfl) Tryd.func8
  (ChangeSpec.witness_shaped (enc := enc) (C := Tryd.checked) (os := os) (X := fun w _ => laidMetH Tryd.prog ZmI w) false (World.doorLaid Tryd.prog 19 os) #[.agg #[.int .i64 0, .int .i64 0, .slice none 0 0, .slice none 0 0, .slice none 0 0, .slice none 0 0], .slice none 0 0, .slice none 0 0] 8 rfl (World.shaped_of_RefB (by kernel_rfl) (by kernel_rfl)) (by kernel_rfl) (by kernel_rfl) (by kernel_rfl) (Ztt os _)) ?_
 intro W base args ds gs before hval0 hW _ _ hL _
 have hval : ∀ (j : Nat) t v, Tryd.f8.params[j]? = some t → args[j]? = some v → Value.okWide Tryd.prog W .any base t v := hval0
 have hW' := hW
 obtain ⟨p, q, hA0, hV, rfl, hfz, hnd⟩ := hW
 have hA : DataW.TrodAll enc Tryd.prog W 0 (fun _ => true) true Tryd.f8.params.toList args.toList ds p := hA0
 rw [Tryd.params8] at hA hval
 obtain ⟨v0, vs0, d0, ds0, p0, q0, hargs, rfl, rfl, h0, r0⟩ := trodAll_cons hA
 obtain ⟨v1, vs1, d1, ds1, p1, q1, rfl, rfl, rfl, h1, r1⟩ := trodAll_cons r0
 obtain ⟨v2, vs2, d2, ds2, p2, q2, rfl, rfl, rfl, h2, r2⟩ := trodAll_cons r1
 obtain ⟨rfl, rfl, rfl⟩ := trodAll_nil r2
 obtain rfl : args = #[v0, v1, v2] := by cases args; simp_all
 obtain ⟨rfl, rfl⟩ := trodVars_none hV
 have lt0 : ∀ x ∈ p0, x.block < W.heap.size := by obtain ⟨m, hm⟩ := h0; exact DataW.trod_lt m _ _ _ hm
 obtain ⟨x0, ok0, den0⟩ := Zp8 (P := Tryd.prog) (n := 8) (t := 27) (l := Zpn.1) (ag := Zpn.2) (by kernel_rfl) (hval 0 27 v0 rfl rfl) h0
 have lt1 : ∀ x ∈ p1, x.block < W.heap.size := by obtain ⟨m, hm⟩ := h1; exact DataW.trod_lt m _ _ _ hm
 obtain ⟨x1, ok1, den1⟩ := Zp8 (P := Tryd.prog) (n := 8) (t := 28) (l := Zjv.1) (ag := Zjv.2) (by kernel_rfl) (hval 1 28 v1 rfl rfl) h1
 have lt2 : ∀ x ∈ p2, x.block < W.heap.size := by obtain ⟨m, hm⟩ := h2; exact DataW.trod_lt m _ _ _ hm
 obtain ⟨x2, ok2, den2⟩ := Zp8 (P := Tryd.prog) (n := 8) (t := 28) (l := Zjv.1) (ag := Zjv.2) (by kernel_rfl) (hval 2 28 v2 rfl rfl) h2
 obtain ⟨H1, ev⟩ := Znb x0 ok0 x1 ok1 x2 ok2
 have den : ZaK All All All W [Zmd Zpn.2 x0, Zmd Zjv.2 x1, Zmd Zjv.2 x2] [v0, v1, v2] := ⟨_, _, rfl, den0, ⟨_, _, rfl, den1, ⟨_, _, rfl, den2, rfl⟩⟩⟩
 refine (ZrO Zxb (Zsr hL) den ev).mono fun e W' ⟨he, bel⟩ => ?_
 subst he
 exact ⟨_, rfl, _, _, _, [], _, [], hW', trodAll_mk1 (shut_bool Tryd.underlying4 _), (trodAll_cons_mk (Below.trod Zoq (by kernel_rfl) (of_decide_eq_true (by kernel_rfl)) h0 bel lt0) (trodAll_cons_mk (Below.trod Zoq (by kernel_rfl) (of_decide_eq_true (by kernel_rfl)) h1 bel lt1) (trodAll_cons_mk (Below.trod Zoq (by kernel_rfl) (of_decide_eq_true (by kernel_rfl)) h2 bel lt2) trodAll_mk0))), rfl, bel.frame _, fun h => by cases h⟩
theorem over : Rows.sourceOrderRow.holds Tryd.pinned (OpenSpec.ofChange Rows.sourceOrderSpec) :=
 OpenClaim.holds_of_wide 8 Tryd.f8 rfl rfl rfl rfl rfl rfl rfl ⟨rfl, rfl, rfl, rfl, rfl⟩ rfl rfl rfl rfl rfl (by kernel_rfl) Tryd.func8 (by kernel_rfl)
  (of_decide_eq_true (by kernel_rfl)) (by unfold Func.isWrapper; first | (rw [if_pos (by decide +kernel)]; kernel_rfl) | (rw [if_neg (by decide +kernel)]; exact ⟨rfl, rfl⟩))
  (fun os started H enc _ => Zwa os started H enc)
theorem proved : Rows.SourceOrderSaid := over
theorem carded : Rows.SourceOrderCardSaid :=
 Claim7.holds_tied_plain_at .later [] [.data, .data] true (true, "3ab9be834fa2b7d026ba399aa683e49be0919143fbbd24a24d6e9902cb90d35e") false
  proved (fun _ h => by cases h) (by kernel_rfl) (fun _ h => by cases h) sourceOrder_row_tie rfl ⟨rfl, rfl⟩ (by kernel_rfl) rfl
  (fun f fn hf hfn => by
   obtain rfl : f = 8 := Option.some.inj ((show Tryd.prog.funcNamed "trefoil/trefoillaw09.SourceOrder" = some 8 by kernel_rfl).symm.trans hf) |>.symm
   obtain rfl : fn = Tryd.f8 := (Option.some.inj (Tryd.func8.symm.trans hfn)).symm
   exact ⟨by kernel_rfl, fun j t ht => by
    rw [Tryd.params8] at ht
    have hm : t ∈ [27, 28, 28] := by simpa using Array.mem_of_getElem? ht
    have hall : ([27, 28, 28].all fun u => !Tryd.prog.wantsStandIn u) = true := by kernel_rfl
    exact (show Tryd.prog.wantsStandIn t = false by simpa using List.all_eq_true.1 hall t hm)⟩)
  (by kernel_rfl)
end Go.Proofs.YtnmbdjkbaihicaaDoor.LawSourceOrder
namespace Go.Proofs.YtnmbdjkbaihicaaDoor
theorem sourceOrder_holds : Rows.SourceOrderCardSaid := LawSourceOrder.carded
#print axioms sourceOrder_holds
end Go.Proofs.YtnmbdjkbaihicaaDoor
