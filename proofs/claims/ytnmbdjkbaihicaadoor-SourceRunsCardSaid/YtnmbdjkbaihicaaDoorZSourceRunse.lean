/- SourceRuns: part 5 of 6 of the proof. -/
import Derived.Test.YtnmbdjkbaihicaaDoorZSourceRunsd
import Derived.KernelRfl
set_option maxRecDepth 100000
set_option maxHeartbeats 40000000
namespace Go.Proofs.YtnmbdjkbaihicaaDoor
open Go Go.Proofs.YtnmbdjkbaihicaaDoorE
set_option linter.unusedVariables false
set_option linter.unusedSimpArgs false
structure Zcq (d : Zh) : Prop where
 g : ZrW d
 ins : ∀ b ∈ d.barriers, ∀ q ∈ b.ins, 0 ≤ q ∧ q.toNat < d.parts.length
 outs : ∀ b ∈ d.barriers, ∀ q ∈ b.outs, 0 ≤ q ∧ q.toNat < d.parts.length
 disj : ∀ b ∈ d.barriers, ∀ q ∈ b.ins, q ∉ b.outs
 pl : d.parts.length ≤ 16
 el : d.edges.length ≤ 48
 fl : d.futures.length ≤ 16
 bl : d.barriers.length ≤ 4
 p1 : 1 ≤ d.parts.length
 arg : ∀ p ∈ d.parts, 0 ≤ p.arg ∧ p.arg ≤ 2147483647
theorem ZuP {n : Nat} {l : List Int} (h : ZhM n l = true) : ∀ q ∈ l, 0 ≤ q ∧ q.toNat < n := by
 intro q hq
 unfold ZhM at h
 simp only [Bool.and_eq_true, Bool.not_eq_true'] at h
 obtain ⟨i, hi⟩ := List.getElem?_of_mem hq
 have : Znx n l i q = false := by
  cases hb : Znx n l i q with
  | false => rfl
  | true => rw [(ZiI _ _ 0).2 ⟨i, q, hi, by simpa using hb⟩] at h; exact absurd h.1 (by simp)
 unfold Znx ZbU at this
 simp only [Bool.or_eq_false_iff, Bool.not_eq_false', Bool.and_eq_true, decide_eq_true_eq] at this
 omega
theorem Zfg {d : Zh} (h : Zb4 d = 0) : Zcq d := by
 have g := Zs1 h
 unfold Zb4 at h
 have all : Zku d = true ∧ d.barriers.any (ZcD d.parts.length) = false ∧ d.parts.any ZdQ = false := by
  revert h
  cases Zku d <;> cases Zkr d <;> cases d.parts.any ZdQ <;> cases Zfo (Zd5 d) 0 d.edges <;> cases Zfo (Zb6 d) 0 d.futures <;> cases d.barriers.any (ZcD d.parts.length) <;> simp
 have hb : ∀ b ∈ d.barriers, ZhM d.parts.length b.ins = true ∧ ZhM d.parts.length b.outs = true ∧ b.ins.any (Zk8 b) = false := fun b hb => by
  have := List.any_eq_false.1 all.2.1 b hb
  simp only [ZcD, Bool.or_eq_true, Bool.not_eq_true', not_or, Bool.not_eq_false, Bool.not_eq_true] at this
  exact this
 have m := all.1
 unfold Zku ZbU at m
 simp only [Bool.and_eq_true, decide_eq_true_eq, Bool.not_eq_true', decide_eq_false_iff_not] at m
 refine ⟨g, fun b h1 => ZuP (hb b h1).1, fun b h1 => ZuP (hb b h1).2.1, fun b h1 q h2 h3 => ?_, by omega, by omega, by omega, by omega, by omega, fun p hp => ?_⟩
 case refine_2 =>
  have := List.any_eq_false.1 all.2.2 p hp
  simp only [ZdQ, ZbU, Bool.not_eq_true, Bool.not_eq_false', Bool.and_eq_true, decide_eq_true_eq] at this
  exact this.2.1
 have := List.any_eq_false.1 (hb b h1).2.2 q h2
 unfold Zk8 at this
 exact this (List.any_eq_true.2 ⟨q, h3, by simp⟩)
def inR (d : Zh) (p : Int) : Prop := 0 ≤ p ∧ p.toNat < d.parts.length
theorem Zcq.src {d : Zh} (g : Zcq d) {e : ZM} (h : e ∈ d.edges) : inR d e.src := (ZlG (g.g.e e h)).1
theorem Zcq.dst {d : Zh} (g : Zcq d) {e : ZM} (h : e ∈ d.edges) : inR d e.dst := (ZlG (g.g.e e h)).2.1
theorem Zcq.maker {d : Zh} (g : Zcq d) {f : Zs} (h : f ∈ d.futures) : inR d f.maker := (ZlG (g.g.f f h).1).1
theorem Zcq.user {d : Zh} (g : Zcq d) {f : Zs} (h : f ∈ d.futures) : inR d f.user := (ZlG (g.g.f f h).1).2.1
theorem Zcq.short {d : Zh} (g : Zcq d) (hs : ∀ b ∈ d.barriers, Zp4 b) : Zd8 d := ⟨by have := g.pl; omega, by have := g.el; omega, by have := g.fl; omega, by have := g.bl; omega, hs⟩
def wk (s : Zn) (p : Int) : Int := match s.work[p.toNat]? with | some x => x | none => 0
def vl (s : Zn) (p : Int) : Int := match s.vals[p.toNat]? with | some x => x | none => 0
def Za6 (d : Zh) (s : Zn) (p : Int) : Bool := wk s p == Zda d.parts p
structure OKS (d : Zh) (s : Zn) : Prop where
 w : s.work.length = d.parts.length
 v : s.vals.length = d.parts.length
theorem Zkq {d : Zh} {s : Zn} (o : OKS d s) {p : Int} (h : inR d p) : ZA s.work p = some (wk s p) := by
 have hl : p.toNat < s.work.length := by rw [o.w]; exact h.2
 unfold wk
 rw [List.getElem?_eq_getElem hl]
 exact ZkA h.1 hl
theorem ZqQ {d : Zh} {s : Zn} (o : OKS d s) {p : Int} (h : inR d p) : ZA s.vals p = some (vl s p) := by
 have hl : p.toNat < s.vals.length := by rw [o.v]; exact h.2
 unfold vl
 rw [List.getElem?_eq_getElem hl]
 exact ZkA h.1 hl
theorem Zgp {d : Zh} {p : Int} (h : inR d p) : ∃ x, ZA d.parts p = some x ∧ d.parts[p.toNat]? = some x ∧ x.work = Zda d.parts p := by
 obtain ⟨h0, hl⟩ := h
 refine ⟨d.parts[p.toNat]'hl, ZkA h0 hl, List.getElem?_eq_getElem hl, ?_⟩
 unfold Zda
 rw [List.getElem?_eq_getElem hl]
theorem Znc {d : Zh} {s : Zn} (o : OKS d s) {p : Int} (h : inR d p) : ZbB d s p = some (Za6 d s p) := by
 obtain ⟨x, h1, _, h3⟩ := Zgp h
 unfold ZbB Za6
 rw [Zkq o h, h1]
 simp only [Option.bind_some]
 rw [h3]
 cases (wk s p == Zda d.parts p) <;> rfl
def Zli (d : Zh) (s : Zn) (p : Int) (e : ZM) : Bool := (e.dst == p) && !Za6 d s e.src
def Zi9 (d : Zh) (s : Zn) (p : Int) (b : Zo) : Bool := (b.outs.any fun x => p == x) && b.ins.any fun q => !Za6 d s q
def Zg3 (d : Zh) (s : Zn) (p : Int) : Bool := !(d.edges.any (Zli d s p)) && !(d.barriers.any (Zi9 d s p))
theorem ZvZ {d : Zh} {s : Zn} (g : Zcq d) (hs : ∀ b ∈ d.barriers, Zp4 b) (o : OKS d s) (p : Int) : Zew d s p = some (Zg3 d s p) := by
 have sh := g.short hs
 have k1 := Zco d.edges (Zcy d s p) (fun _ => Zli d s p) (fun _ _ => .inl ()) (.inr ()) (fun i x hi hx => by
  simp only [Zcy, ZdC hi, Z6 hx, Option.bind_some, ZK hi sh.e, cond_true, Zli, Znc o (g.src (List.mem_of_getElem? hx))]
  cases (x.dst == p) <;> cases Za6 d s x.src <;> rfl) (by simp only [Zcy, ZdB]; rfl)
 have k3 : ∀ b ∈ d.barriers, lp (Zb2 d s b) 0 = some (bif b.ins.any (fun q => !Za6 d s q) then .inl () else .inr ()) := fun b hb => by
  have := Zco b.ins (Zb2 d s b) (fun _ q => !Za6 d s q) (fun _ _ => .inl ()) (.inr ()) (fun i x hi hx => by
   simp only [Zb2, ZdC hi, Z6 hx, Option.bind_some, ZK hi (hs b hb).1, cond_true, Znc o (g.ins b hb x (List.mem_of_getElem? hx))]
   cases Za6 d s x <;> rfl) (by simp only [Zb2, ZdB]; rfl)
  rw [this, ZaU, Zd7]
 have k2 := Zco d.barriers (Zcw d s p) (fun _ => Zi9 d s p) (fun _ _ => .inl ()) (.inr ()) (fun i x hi hx => by
  have hb := List.mem_of_getElem? hx
  simp only [Zcw, ZdC hi, Z6 hx, Option.bind_some, ZK hi sh.b, cond_true, Zi9, Zrw _ _ (hs x hb).2, k3 x hb]
  cases (x.outs.any fun y => p == y) <;> cases (x.ins.any fun q => !Za6 d s q) <;> rfl) (by simp only [Zcw, ZdB]; rfl)
 unfold Zew Zg3
 rw [k1, ZaU, Zd7]
 cases d.edges.any (Zli d s p) with
 | true => rfl
 | false =>
  simp only [cond_false, Option.bind_some]
  rw [k2, ZaU, Zd7]
  cases d.barriers.any (Zi9 d s p) <;> rfl
theorem Zqc {γ R : Type} (q : γ → Bool) (f : γ → R) (fin : R) : ∀ (l : List γ) (i : Nat), Zo4 (fun _ => q) (fun _ x => f x) fin i l = (match l.find? q with | some x => f x | none => fin)
 | [], _ => rfl
 | x :: l, i => by
  unfold Zo4
  rw [List.find?_cons]
  cases q x with
  | true => rfl
  | false => exact Zqc q f fin l (i + 1)
def Zil (s : Zn) (p : Int) (f : Zs) : Bool := (f.user == p) && (f.pos == wk s p)
def ZqZ (d : Zh) (s : Zn) (p : Int) : Bool := match d.futures.find? (Zil s p) with | some f => Za6 d s f.maker | none => true
def Zlh (d : Zh) (s : Zn) (p : Int) : Bool := !Za6 d s p && ((!(wk s p == 0) || Zg3 d s p) && ZqZ d s p)
theorem ZpJ {d : Zh} {s : Zn} (g : Zcq d) (o : OKS d s) {p : Int} (hp : inR d p) (step : Int → Option (Int ⊕ (Unit ⊕ Unit))) (hstep : step = Zcx d s p) :
  ((lp step 0).bind fun r => match r with | .inl _ => some true | .inr _ => some false) = some (ZqZ d s p) := by
 subst hstep
 have k := Zco d.futures (Zcx d s p) (fun _ => Zil s p) (fun _ f => bif Za6 d s f.maker then (.inl () : Unit ⊕ Unit) else .inr ()) (.inl ()) (fun i x hi hx => by
  simp only [Zcx, ZdC hi, Z6 hx, Option.bind_some, ZK hi (show d.futures.length < 9223372036854775808 by have := g.fl; omega), cond_true, Zil, Zkq o hp, Znc o (g.maker (List.mem_of_getElem? hx))]
  cases (x.user == p) <;> cases (x.pos == wk s p) <;> cases Za6 d s x.maker <;> rfl) (by simp only [Zcx, ZdB]; rfl)
 rw [k, Zqc (Zil s p) (fun f => bif Za6 d s f.maker then (.inl () : Unit ⊕ Unit) else .inr ())]
 unfold ZqZ
 cases d.futures.find? (Zil s p) with
 | none => rfl
 | some f => dsimp only; cases Za6 d s f.maker <;> rfl
theorem Zzx {d : Zh} {s : Zn} (g : Zcq d) (hs : ∀ b ∈ d.barriers, Zp4 b) (o : OKS d s) {p : Int} (hp : inR d p) : Zfi d s p = some (Zlh d s p) := by
 unfold Zfi Zlh
 rw [Znc o hp, Zkq o hp, ZvZ g hs o]
 simp only [Option.bind_some]
 cases Za6 d s p with
 | true => rfl
 | false =>
  simp only [cond_false, Bool.not_false, Bool.true_and]
  cases (wk s p == 0) with
  | true =>
   cases Zg3 d s p with
   | false => rfl
   | true =>
    simp only [cond_true, Bool.not_true, Bool.false_or, Bool.true_and]
    exact ZpJ g o hp _ rfl
  | false =>
   simp only [cond_false, Bool.not_false, Bool.true_or, Bool.true_and]
   exact ZpJ g o hp _ rfl
theorem Zhm {d : Zh} {i : Nat} (h : i < d.parts.length) : inR d (i : Int) := ⟨by omega, by simpa using h⟩
def pick (p : Nat → Bool) (n : Nat) : List Int := ((List.range n).filter p).map fun i : Nat => (i : Int)
theorem Zov {p : Nat → Bool} {n : Nat} {z : Int} : z ∈ pick p n ↔ ∃ i : Nat, i < n ∧ p i = true ∧ z = (i : Int) := by
 unfold pick
 simp only [List.mem_map, List.mem_filter, List.mem_range]
 constructor
 ·rintro ⟨i, ⟨h1, h2⟩, rfl⟩; exact ⟨i, h1, h2, rfl⟩
 ·rintro ⟨i, h1, h2, rfl⟩; exact ⟨i, ⟨h1, h2⟩, rfl⟩
theorem Zha (p : Nat → Bool) (n : Nat) : (pick p n).length ≤ n := by
 unfold pick
 rw [List.length_map]
 exact Nat.le_trans (List.length_filter_le _ _) (by simp)
theorem ZtY (p : Nat → Bool) (n : Nat) : pick p (n + 1) = pick p n ++ (bif p n then [(n : Int)] else []) := by
 unfold pick
 rw [List.range_succ, List.filter_append, List.map_append]
 cases h : p n <;> simp [h]
theorem ZtE {γ : Type} (l : List γ) (hl : l.length ≤ 1000) (p : Nat → Bool) (step : Int × List Int → Option ((Int × List Int) ⊕ List Int))
  (h1 : ∀ i (s : List Int), i < l.length → step ((i : Int), s) = bif p i then (bif Nat.ble (s.length + 1) lim then some (.inl (((i + 1 : Nat) : Int), s ++ [(i : Int)])) else none) else some (.inl (((i + 1 : Nat) : Int), s)))
  (h2 : ∀ s, step ((l.length : Int), s) = some (.inr s)) : lp step (0, []) = some (pick p l.length) := by
 have key : ∀ k i : Nat, i + k = l.length → lp step ((i : Int), pick p i) = some (pick p l.length) := by
  intro k
  induction k with
  | zero =>
   intro i hi
   have : i = l.length := by omega
   subst this
   rw [Zba, h2]
  | succ k ih =>
   intro i hi
   have ih' := ih (i + 1) (by omega)
   rw [ZtY] at ih'
   have hb := Zha p i
   rw [Zba, h1 i _ (by omega)]
   cases hp : p i with
   | true =>
    rw [hp] at ih'
    rw [ZiM (show (pick p i).length + 1 ≤ 1073741824 by omega)]
    exact ih'
   | false =>
    rw [hp] at ih'
    simp only [cond_false, List.append_nil] at ih' ⊢
    exact ih'
 exact key l.length 0 (by omega)
def ZeJ (d : Zh) (s : Zn) : List Int := pick (fun i => Zlh d s (i : Int)) d.parts.length
theorem Zyd {d : Zh} {s : Zn} (g : Zcq d) (hs : ∀ b ∈ d.barriers, Zp4 b) (o : OKS d s) : Ze5 d s = some (ZeJ d s) := by
 have hl : d.parts.length < 9223372036854775808 := by have := g.pl; omega
 have := ZtE d.parts (by have := g.pl; omega) (fun i => Zlh d s (i : Int)) (ZdN d s) (fun i acc hi => by
  simp only [ZdN, ZdC hi, cond_true, Zzx g hs o (Zhm hi), Option.bind_some, ZK hi hl]) (fun acc => by simp only [ZdN, ZdB]; rfl)
 unfold Ze5 ZeJ
 rw [this]; rfl
noncomputable def ZfF (d : Zh) (u : Int) : List Int := @dite _ (∃ r, ZbS d u r) (Classical.propDecidable _) (fun h => Classical.choose h) fun _ => []
theorem ZqK {d : Zh} {u : Int} {r : List Int} (h : ZbS d u r) : ZfF d u = r := by
 unfold ZfF
 rw [dif_pos ⟨r, h⟩]
 exact (Classical.choose_spec (⟨r, h⟩ : ∃ r, ZbS d u r)).eq h
noncomputable def ZdU (d : Zh) (u : Int) : List Int := Zoh d u (ZfF d u)
theorem ZkM (d : Zh) (h : Zd8 d) (hc : Zb4 d = 0) (u : Int) : Ze2 d u = some (ZdU d u) ∧ ZbS d u (ZfF d u) := by
 have g := Zfg hc
 obtain ⟨r, h1, h2⟩ := ZpU d h (by have := g.fl; omega) hc u
 have := Zxe d h (by have := g.el; omega) (by have := g.fl; omega) hc u h2
 unfold ZdU
 rw [ZqK h2]
 exact ⟨this, h2⟩
theorem Zny {d : Zh} (g : Zcq d) {u : Int} (ht : ZbS d u (ZfF d u)) {q : Int} (hq : q ∈ ZdU d u) : (∃ e ∈ d.edges, e.dst = u ∧ q = e.src) ∨ (∃ f ∈ d.futures, f.user = u ∧ q = f.maker) := by
 unfold ZdU Zoh at hq
 rcases List.mem_append.1 hq with h | h
 ·obtain ⟨j, x, h1, h2, h3⟩ := (ZlW _ _ _ _ _).1 h
  exact .inl ⟨x, List.mem_of_getElem? h1, by simpa using h2, h3⟩
 ·obtain ⟨z, h1, rfl⟩ := List.mem_map.1 h
  obtain ⟨i, f, h2, h3, rfl⟩ := (ht.mem z).1 h1
  refine .inr ⟨f, List.mem_of_getElem? h2, h3, ?_⟩
  unfold ZiU
  rw [Int.toNat_natCast, h2]
theorem Zo2 {d : Zh} (g : Zcq d) {u : Int} (ht : ZbS d u (ZfF d u)) {q : Int} (hq : q ∈ ZdU d u) : inR d q := by
 rcases Zny g ht hq with ⟨e, h1, _, rfl⟩ | ⟨f, h1, _, rfl⟩
 ·exact g.src h1
 ·exact g.maker h1
theorem Zkb {d : Zh} (g : Zcq d) {u : Int} (ht : ZbS d u (ZfF d u)) : (ZdU d u).length ≤ 1000 := by
 unfold ZdU Zoh
 rw [List.length_append, List.length_map]
 have h1 := ZiJ (fun e : ZM => e.dst == u) (fun _ e => e.src) d.edges 0
 have h2 := Zkh ht
 have := g.el; have := g.fl
 omega
theorem ZpG (s : Zn) (l : List Int) (hl : l.length ≤ 1000) (hP : ∀ x ∈ l, ZA s.vals x = some (vl s x)) (step : Int × List Int → Option ((Int × List Int) ⊕ List Int))
  (hstep : ∀ t, step t = (bif (decide (t.1 < (l.length : Int))) then (ZA l t.1).bind fun x6 => (ZA s.vals x6).bind fun x7 => bif (Nat.ble (List.length t.2 + 1) lim) then some (.inl ((w64 (t.1 + 1)), (t.2 ++ [x7]))) else none else some (.inr t.2))) :
  lp step (0, []) = some (l.map (vl s)) := by
 have := ZoQ l hl (fun _ => true) (fun _ x => vl s x) step (fun i x acc hi hx => by
  rw [hstep]
  simp only [ZdC hi, Z6 hx, Option.bind_some, ZK hi (show l.length < 9223372036854775808 by omega), cond_true, hP x (List.mem_of_getElem? hx)]) (fun acc => by
  rw [hstep]
  simp only [ZdB, cond_false]) [] (by simp)
 rw [ZqT (vl s) l 0, List.nil_append] at this
 exact this
def Zm1 (d : Zh) (p : Int) : ZG := match d.parts[p.toNat]? with | some x => x | none => ⟨0, 0, 0⟩
def more (s : Zn) (p : Int) : Zn := ⟨s.work.set p.toNat (wk s p + 1), s.vals⟩
noncomputable def Zl6 (d : Zh) (input : List Int) (s : Zn) (p : Int) : Int := opV (Zm1 d p) input ((ZdU d p).map (vl s))
noncomputable def ZdF (d : Zh) (input : List Int) (s : Zn) (p : Int) : Zn :=
 ⟨s.work.set p.toNat (wk s p + 1), bif Za6 d (more s p) p then s.vals.set p.toNat (Zl6 d input s p) else s.vals⟩
theorem OKS.more {d : Zh} {s : Zn} (o : OKS d s) (p : Int) : OKS d (more s p) := ⟨by unfold Proofs.YtnmbdjkbaihicaaDoor.more; rw [List.length_set]; exact o.w, o.v⟩
theorem OKS.step {d : Zh} {s : Zn} (o : OKS d s) (input : List Int) (p : Int) : OKS d (ZdF d input s p) := by
 refine ⟨by unfold ZdF; rw [List.length_set]; exact o.w, ?_⟩
 unfold ZdF
 dsimp only
 cases Za6 d (Proofs.YtnmbdjkbaihicaaDoor.more s p) p
 ·exact o.v
 ·simp only [cond_true, List.length_set]; exact o.v
theorem ZtD {l : List Int} (h1 : 0 < l.length) (h2 : l.length ≤ 1000) : Zbh l = some () := by
 unfold Zbh
 rw [show Nat.blt 0 l.length = true by simp [Nat.blt]; omega, ZiM (show l.length ≤ 1073741824 by omega)]
 rfl
theorem ZyI {d : Zh} {s : Zn} (hc : Zb4 d = 0) (hs : ∀ b ∈ d.barriers, Zp4 b) (o : OKS d s) {p : Int} (hp : inR d p) (input : List Int) (hi : input.length ≤ 1000) (hw : 0 ≤ wk s p ∧ wk s p ≤ 100) :
  ZeD d input s p = some (ZdF d input s p) := by
 have g := Zfg hc
 have sh := g.short hs
 obtain ⟨f1, f2⟩ := ZkM d sh hc p
 have g1 := g.p1; have g2 := g.pl
 have hlw : 0 < s.work.length ∧ s.work.length ≤ 1000 := by rw [o.w]; omega
 have hlv : 0 < s.vals.length ∧ s.vals.length ≤ 1000 := by rw [o.v]; omega
 obtain ⟨x, q1, q2, _⟩ := Zgp hp
 have hx : Zm1 d p = x := by unfold Zm1; rw [q2]
 unfold ZeD ZdF Zl6
 rw [ZtD hlw.1 hlw.2, ZtD hlv.1 hlv.2, Zkq o hp]
 simp only [Option.bind_some]
 rw [Zcd (n := wk s p + 1) (by omega) (by omega)]
 have hd := Znc (o.more p) hp
 unfold more at hd
 rw [hd]
 simp only [Option.bind_some]
 show (bif Za6 d (more s p) p then _ else _) = some (Zn.mk (s.work.set p.toNat (wk s p + 1)) (bif Za6 d (more s p) p then _ else _))
 cases Za6 d (more s p) p with
 | false => rfl
 | true =>
  simp only [cond_true]
  rw [f1]
  simp only [Option.bind_some]
  rw [ZpG s (ZdU d p) (Zkb g f2) (fun y hy => ZqQ o (Zo2 g f2 hy)) (Ze1 s (ZdU d p)) (fun t => rfl)]
  simp only [Option.bind_some]
  rw [q1]
  simp only [Option.bind_some]
  rw [Zvn x input _ hi (by rw [List.length_map]; exact Zkb g f2), ZqQ o hp]
  simp only [Option.bind_some]
  rw [hx]
def Zd4 (d : Zh) (s : Zn) (p : Int) : Prop := wk s p = Zda d.parts p
def ZmW (d : Zh) (s : Zn) (p : Int) : Prop := (∀ e ∈ d.edges, e.dst = p → Zd4 d s e.src) ∧ (∀ b ∈ d.barriers, p ∈ b.outs → ∀ q ∈ b.ins, Zd4 d s q)
def Zsb (d : Zh) (s : Zn) (p : Int) : Prop := ¬ Zd4 d s p ∧ (wk s p = 0 → ZmW d s p) ∧ (∀ f ∈ d.futures, f.user = p → f.pos = wk s p → Zd4 d s f.maker)
structure ZgJ (d : Zh) (s : Zn) : Prop where
 o : OKS d s
 rng : ∀ p, inR d p → 0 ≤ wk s p ∧ wk s p ≤ Zda d.parts p
 beg : ∀ p, inR d p → 0 < wk s p → ZmW d s p
 fut : ∀ f ∈ d.futures, f.pos < wk s f.user → Zd4 d s f.maker
theorem Zfn {d : Zh} {s : Zn} {p : Int} : Za6 d s p = true ↔ Zd4 d s p := by unfold Za6 Zd4; simp
theorem Zu7 {d : Zh} {s : Zn} {p : Int} (h : ¬ Zd4 d s p) : Za6 d s p = false := by
 cases hb : Za6 d s p with
 | false => rfl
 | true => exact absurd (Zfn.1 hb) h
theorem Zsk {d : Zh} {s : Zn} {p : Int} : Zg3 d s p = true ↔ ZmW d s p := by
 have e1 : ∀ e : ZM, Zli d s p e = true ↔ (e.dst = p ∧ ¬ Zd4 d s e.src) := fun e => by
  unfold Zli
  rw [← Zfn]
  cases Za6 d s e.src <;> simp
 have e2 : ∀ b : Zo, Zi9 d s p b = true ↔ (p ∈ b.outs ∧ ∃ q ∈ b.ins, ¬ Zd4 d s q) := fun b => by
  unfold Zi9
  rw [Bool.and_eq_true, List.any_eq_true, List.any_eq_true]
  constructor
  ·rintro ⟨⟨x, h1, h2⟩, ⟨q, h3, h4⟩⟩
   have h2 := eq_of_beq h2
   subst h2
   exact ⟨h1, q, h3, fun h => by rw [Zfn.2 h] at h4; cases h4⟩
  ·rintro ⟨h1, q, h3, h4⟩
   exact ⟨⟨p, h1, by simp⟩, ⟨q, h3, by cases h : Za6 d s q with | false => rfl | true => exact absurd (Zfn.1 h) h4⟩⟩
 unfold Zg3 ZmW
 rw [Bool.and_eq_true, Bool.not_eq_true', Bool.not_eq_true', List.any_eq_false, List.any_eq_false]
 constructor
 ·rintro ⟨h1, h2⟩
  exact ⟨fun e he h => Classical.byContradiction fun hn => h1 e he ((e1 e).2 ⟨h, hn⟩), fun b hb h q hq => Classical.byContradiction fun hn => h2 b hb ((e2 b).2 ⟨h, q, hq, hn⟩)⟩
 ·rintro ⟨h1, h2⟩
  exact ⟨fun e he h => by obtain ⟨a, b⟩ := (e1 e).1 h; exact b (h1 e he a), fun b hb h => by obtain ⟨a, q, c, f⟩ := (e2 b).1 h; exact f (h2 b hb a q c)⟩
theorem Zqt {d : Zh} {s : Zn} (g : Zcq d) {p : Int} : ZqZ d s p = true ↔ (∀ f ∈ d.futures, f.user = p → f.pos = wk s p → Zd4 d s f.maker) := by
 unfold ZqZ
 cases hf : d.futures.find? (Zil s p) with
 | none =>
  simp only [true_iff]
  intro f h1 h2 h3
  have := List.find?_eq_none.1 hf f h1
  unfold Zil at this
  simp [h2, h3] at this
 | some f =>
  have m := List.mem_of_find?_eq_some hf
  have q := List.find?_some hf
  unfold Zil at q
  simp only [Bool.and_eq_true, beq_iff_eq] at q
  dsimp only
  rw [Zfn]
  constructor
  ·intro h f' h1 h2 h3
   have : f' = f := by
    obtain ⟨i, hi⟩ := List.getElem?_of_mem m
    obtain ⟨j, hj⟩ := List.getElem?_of_mem h1
    rcases Nat.lt_trichotomy i j with hl | hl | hl
    ·exact absurd ⟨q.1.trans h2.symm, q.2.trans h3.symm⟩ (g.g.ne i j f f' hl hi hj)
    ·subst hl; rw [hi] at hj; exact (Option.some.inj hj).symm
    ·exact absurd ⟨h2.trans q.1.symm, h3.trans q.2.symm⟩ (g.g.ne j i f' f hl hj hi)
   rw [this]; exact h
  ·intro h
   exact h f m q.1 q.2
theorem Zph {d : Zh} {s : Zn} (g : Zcq d) {p : Int} : Zlh d s p = true ↔ Zsb d s p := by
 unfold Zlh Zsb
 simp only [Bool.and_eq_true, Bool.not_eq_true', Bool.or_eq_true, Zqt g, Zsk]
 constructor
 ·rintro ⟨h1, h2, h3⟩
  refine ⟨fun h => (by rw [Zfn.2 h] at h1; cases h1), fun h => ?_, h3⟩
  rcases h2 with h2 | h2
  ·rw [h] at h2; simp at h2
  ·exact h2
 ·rintro ⟨h1, h2, h3⟩
  refine ⟨Zu7 h1, ?_, h3⟩
  by_cases h : wk s p = 0
  ·exact .inr (h2 h)
  ·left; simpa using h
theorem Zsa {γ : Type} {p : Nat → γ → Bool} {l : List γ} : Zfo p 0 l = false ↔ ∀ (i : Nat) x, l[i]? = some x → p i x = false := by
 constructor
 ·intro h i x hx
  cases hb : p i x with
  | false => rfl
  | true => rw [(ZiI _ _ 0).2 ⟨i, x, hx, by simpa using hb⟩] at h; cases h
 ·intro h
  cases hb : Zfo p 0 l with
  | false => rfl
  | true =>
   obtain ⟨j, x, h1, h2⟩ := (ZiI _ _ 0).1 hb
   rw [Nat.zero_add, h j x h1] at h2; cases h2
theorem ZfJ {d : Zh} {s : Zn} (o : OKS d s) (input : List Int) {p : Int} (hp : inR d p) : wk (ZdF d input s p) p = wk s p + 1 := by
 have hl : p.toNat < s.work.length := by rw [o.w]; exact hp.2
 conv => lhs; unfold wk ZdF
 dsimp only
 rw [List.getElem?_set_self hl]
theorem Zdf {d : Zh} {s : Zn} (input : List Int) {p q : Int} (hp : inR d p) (hq : inR d q) (h : q ≠ p) : wk (ZdF d input s p) q = wk s q := by
 have : p.toNat ≠ q.toNat := by have := hp.1; have := hq.1; omega
 conv => lhs; unfold wk ZdF
 dsimp only
 rw [List.getElem?_set_ne this]
 rfl
theorem Zxz {d : Zh} {s : Zn} (input : List Int) (p q : Int) : wk (more s p) q = wk (ZdF d input s p) q := rfl
theorem ZmN {d : Zh} {s : Zn} (o : OKS d s) (input : List Int) {p : Int} (hp : inR d p) (hn : ¬ Zd4 d s p) {q : Int} (hq : inR d q) (h : Zd4 d s q) : Zd4 d (ZdF d input s p) q := by
 by_cases e : q = p
 ·subst e; exact absurd h hn
 ·unfold Zd4; rw [Zdf input hp hq e]; exact h
theorem ZrC {d : Zh} {s : Zn} (g : Zcq d) (o : OKS d s) (input : List Int) {p : Int} (hp : inR d p) (hn : ¬ Zd4 d s p) {q : Int} (h : ZmW d s q) : ZmW d (ZdF d input s p) q :=
 ⟨fun e he h1 => ZmN o input hp hn (g.src he) (h.1 e he h1), fun b hb h1 r hr => ZmN o input hp hn (g.ins b hb r hr) (h.2 b hb h1 r hr)⟩
theorem ZlN {d : Zh} {s : Zn} (g : Zcq d) (r : ZgJ d s) (input : List Int) {p : Int} (hp : inR d p) (hg : Zsb d s p) : ZgJ d (ZdF d input s p) := by
 have hw := r.rng p hp
 have hlt : wk s p < Zda d.parts p := by have := hg.1; unfold Zd4 at this; omega
 refine ⟨r.o.step input p, fun q hq => ?_, fun q hq h => ?_, fun f hf h => ?_⟩
 ·by_cases e : q = p
  ·subst e; rw [ZfJ r.o input hp]; omega
  ·rw [Zdf input hp hq e]; exact r.rng q hq
 ·refine ZrC g r.o input hp hg.1 ?_
  by_cases e : q = p
  ·subst e
   by_cases h0 : wk s q = 0
   ·exact hg.2.1 h0
   ·exact r.beg q hq (by omega)
  ·rw [Zdf input hp hq e] at h
   exact r.beg q hq h
 ·refine ZmN r.o input hp hg.1 (g.maker hf) ?_
  by_cases e : f.user = p
  ·rw [e, ZfJ r.o input hp] at h
   rcases Int.lt_or_eq_of_le (show f.pos ≤ wk s p by omega) with h1 | h1
   ·exact r.fut f hf (by rw [e]; exact h1)
   ·exact hg.2.2 f hf e h1
  ·rw [Zdf input hp (g.user hf) e] at h
   exact r.fut f hf h
theorem Ztf {d : Zh} (g : Zcq d) (p : Int) : Zda d.parts p ≤ 100 := Zm3 g.g p
def ZwD (d : Zh) (input : List Int) (s : Zn) : Bool := few d && (decide ((input.length : Int) ≤ 60) && (decide ((s.work.length : Int) ≤ 20) && decide ((s.vals.length : Int) ≤ 20)))
theorem ZzC (d : Zh) (input : List Int) (s : Zn) : Zgk d input s = some (ZwD d input s) := by
 unfold Zgk ZwD
 rw [ZBo]
 simp only [Option.bind_some]
 cases few d <;> cases decide ((input.length : Int) ≤ 60) <;> cases decide ((s.work.length : Int) ≤ 20) <;> cases decide ((s.vals.length : Int) ≤ 20) <;> rfl
theorem Zxy {d : Zh} {input : List Int} {s : Zn} (h : ZwD d input s = true) : ZjV d ∧ input.length ≤ 60 ∧ s.work.length ≤ 20 ∧ s.vals.length ≤ 20 := by
 unfold ZwD at h
 simp only [Bool.and_eq_true, decide_eq_true_eq] at h
 exact ⟨Zt0 h.1, by omega, by omega, by omega⟩
def Zjy (d : Zh) : Zn := ⟨List.replicate d.parts.length 0, List.replicate d.parts.length 0⟩
theorem Znb (d : Zh) (p : Int) : wk (Zjy d) p = 0 := by
 unfold wk Zjy
 dsimp only
 rw [List.getElem?_replicate]
 split <;> rename_i h <;> split at h <;> simp_all
theorem Zqf {d : Zh} (g : Zcq d) : ZgJ d (Zjy d) := by
 refine ⟨⟨by simp [Zjy], by simp [Zjy]⟩, fun p hp => ?_, fun p hp h => ?_, fun f hf h => ?_⟩
 ·obtain ⟨x, _, h2, h3⟩ := Zgp hp
  have := (g.g.w x (List.mem_of_getElem? h2)).1
  rw [Znb, ← h3]
  omega
 ·rw [Znb] at h; omega
 ·rw [Znb] at h
  have := (g.g.f f hf).2.1
  omega
theorem ZvV (d : Zh) (h : Zd8 d) : Ze0 d = some (bif (Zb4 d == 0) then (Zjy d, 0) else (⟨[], []⟩, Zb4 d)) := by
 unfold Ze0 Zjy
 rw [ZqN d h]
 simp only [Option.bind_some]
 by_cases hc : Zb4 d = 0
 ·have g := Zfg hc
  have hl := g.pl
  rw [hc]
  simp only [bne_self_eq_false, cond_false, beq_self_eq_true, cond_true, Int.toNat_natCast]
  rw [decide_eq_true (show (0 : Int) ≤ (d.parts.length : Int) by omega), decide_eq_true (show (d.parts.length : Int) ≤ lim by unfold lim; omega)]
  simp
 ·rw [show (Zb4 d != 0) = true by simpa using hc, show (Zb4 d == 0) = false by simpa using hc]
  rfl
theorem ZuF (d : Zh) : Zh.mk d.period d.deadline d.parts d.edges d.futures d.barriers = d := rfl
theorem Zxc {xs : List D} (h : Zgr [.sl false [.int .i64]] xs) : ∃ l, Zq9 false xs = ZtC true l ∧ Zw7 l := by
 obtain ⟨_, _, rfl, h1, rfl⟩ := h
 obtain ⟨l, rfl, h2⟩ := ZqM h1
 exact ⟨l, rfl, h2⟩
end Go.Proofs.YtnmbdjkbaihicaaDoor
namespace Go.Proofs.YtnmbdjkbaihicaaDoor
open Go Go.Proofs.YtnmbdjkbaihicaaDoorE
set_option linter.unusedVariables false
set_option linter.unusedSimpArgs false
inductive Runs (d : Zh) (input : List Int) : Zn → Prop where
 | new : Runs d input (Zjy d)
 | step {s : Zn} {p : Int} : Runs d input s → inR d p → Zsb d s p → Runs d input (ZdF d input s p)
theorem Runs.right {d : Zh} {input : List Int} (g : Zcq d) {s : Zn} (h : Runs d input s) : ZgJ d s := by
 induction h with
 | new => exact Zqf g
 | step _ hp hg ih => exact ZlN g ih input hp hg
def Zk9 (d : Zh) (s : Zn) : Prop := ∀ p, inR d p → ¬ Zsb d s p
theorem ZnT {d : Zh} {s : Zn} (g : Zcq d) : ZeJ d s = [] ↔ Zk9 d s := by
 constructor
 ·intro h p hp hg
  have : p ∈ ZeJ d s := Zov.2 ⟨p.toNat, hp.2, by rw [Int.toNat_of_nonneg hp.1]; exact (Zph g).2 hg, (Int.toNat_of_nonneg hp.1).symm⟩
  rw [h] at this; cases this
 ·intro h
  refine List.eq_nil_iff_forall_not_mem.2 fun p hp => ?_
  obtain ⟨i, h1, h2, rfl⟩ := Zov.1 hp
  exact h _ (Zhm h1) ((Zph g).1 h2)
theorem Zqm {d : Zh} {s : Zn} (g : Zcq d) {p : Int} (h : p ∈ ZeJ d s) : inR d p ∧ Zsb d s p := by
 obtain ⟨i, h1, h2, rfl⟩ := Zov.1 h
 exact ⟨Zhm h1, (Zph g).1 h2⟩
theorem Zi8 {d : Zh} {s : Zn} (g : Zcq d) (r : ZgJ d s) {p : Int} (hp : inR d p) (ht : ZbS d p (ZfF d p)) (hd : Zd4 d s p) {q : Int} (hq : q ∈ ZdU d p) : inR d q ∧ q ≠ p ∧ Zd4 d s q := by
 obtain ⟨x, _, h2, h3⟩ := Zgp hp
 have hw := (g.g.w x (List.mem_of_getElem? h2)).1
 unfold Zd4 at hd
 rcases Zny g ht hq with ⟨e, h1, h4, rfl⟩ | ⟨f, h1, h4, rfl⟩
 ·have := (ZlG (g.g.e e h1)).2.2
  exact ⟨g.src h1, by rw [← h4]; exact this, (r.beg p hp (by omega)).1 e h1 h4⟩
 ·have := (ZlG (g.g.f f h1).1).2.2
  have hpos := (g.g.f f h1).2.2
  exact ⟨g.maker h1, by rw [← h4]; exact this, r.fut f h1 (by rw [h4] at hpos ⊢; omega)⟩
theorem Znh {d : Zh} {s : Zn} (input : List Int) {p q : Int} (hp : inR d p) (hq : inR d q) (h : q ≠ p) (hd : Zd4 d (ZdF d input s p) q) : Zd4 d s q := by
 unfold Zd4 at hd ⊢
 rwa [Zdf input hp hq h] at hd
theorem Zge {d : Zh} {s : Zn} (input : List Int) {p q : Int} (hp : inR d p) (hq : inR d q) (h : q ≠ p) : vl (ZdF d input s p) q = vl s q := by
 have : p.toNat ≠ q.toNat := by have := hp.1; have := hq.1; omega
 conv => lhs; unfold vl ZdF
 dsimp only
 cases Za6 d (more s p) p with
 | false => rfl
 | true => simp only [cond_true]; rw [List.getElem?_set_ne this]; rfl
theorem Zl7 {d : Zh} {s : Zn} (o : OKS d s) (input : List Int) {p : Int} (hp : inR d p) (h : Zd4 d (ZdF d input s p) p) : vl (ZdF d input s p) p = Zl6 d input s p := by
 have hb : Za6 d (more s p) p = true := Zfn.2 h
 have hl : p.toNat < s.vals.length := by rw [o.v]; exact hp.2
 conv => lhs; unfold vl ZdF
 dsimp only
 rw [hb]
 simp only [cond_true]
 rw [List.getElem?_set_self hl]
theorem Zou {d : Zh} (input : List Int) {s t : Zn} {p : Int} (h : ∀ q ∈ ZdU d p, vl s q = vl t q) : Zl6 d input s p = Zl6 d input t p := by
 unfold Zl6
 rw [List.map_congr_left h]
theorem Runs.vals {d : Zh} {input : List Int} (hc : Zb4 d = 0) (sh : Zd8 d) {s : Zn} (h : Runs d input s) : ∀ p, inR d p → Zd4 d s p → vl s p = Zl6 d input s p := by
 have g := Zfg hc
 induction h with
 | new =>
  intro p hp hd
  obtain ⟨x, _, h2, h3⟩ := Zgp hp
  have hw := (g.g.w x (List.mem_of_getElem? h2)).1
  unfold Zd4 at hd
  rw [Znb] at hd
  omega
 | @step s r hr hrp hg ih =>
  intro p hp hd
  have R := hr.right g
  have R' := ZlN g R input hrp hg
  have ht := (ZkM d sh hc p).2
  have fd : ∀ q ∈ ZdU d p, inR d q ∧ q ≠ p ∧ Zd4 d (ZdF d input s r) q := fun q hq => Zi8 g R' hp ht hd hq
  by_cases e : p = r
  ·subst e
   rw [Zl7 R.o input hp hd]
   exact Zou input fun q hq => (Zge input hp (fd q hq).1 (fd q hq).2.1).symm
  ·have hd0 := Znh input hrp hp e hd
   rw [Zge input hrp hp e, ih p hp hd0]
   refine Zou input fun q hq => ?_
   have hq0 := (Zi8 g R hp ht hd0 hq)
   have : q ≠ r := fun e => by subst e; exact hg.1 hq0.2.2
   exact (Zge input hrp hq0.1 this).symm
theorem Runs.same {d : Zh} {input : List Int} (hc : Zb4 d = 0) (sh : Zd8 d) {s : Zn} (h : Runs d input s) {t : Zn} (k : Runs d input t) : ∀ p, inR d p → Zd4 d s p → Zd4 d t p → vl s p = vl t p := by
 have g := Zfg hc
 have T := k.right g
 induction h with
 | new =>
  intro p hp hd
  obtain ⟨x, _, h2, h3⟩ := Zgp hp
  have hw := (g.g.w x (List.mem_of_getElem? h2)).1
  unfold Zd4 at hd
  rw [Znb] at hd
  omega
 | @step s r hr hrp hg ih =>
  intro p hp hd hdt
  have R := hr.right g
  have R' := ZlN g R input hrp hg
  have ht := (ZkM d sh hc p).2
  by_cases e : p = r
  ·subst e
   rw [Zl7 R.o input hp hd, k.vals hc sh p hp hdt]
   refine Zou input fun q hq => ?_
   obtain ⟨q1, q2, q3⟩ := Zi8 g R' hp ht hd hq
   exact ih q q1 (Znh input hp q1 q2 q3) (Zi8 g T hp ht hdt hq).2.2
  ·rw [Zge input hrp hp e]
   exact ih p hp (Znh input hrp hp e hd) hdt
theorem Runs.le {d : Zh} {input : List Int} (g : Zcq d) {s : Zn} (h : Runs d input s) {t : Zn} (k : Runs d input t) (f : Zk9 d t) : ∀ p, inR d p → wk s p ≤ wk t p := by
 have T := k.right g
 induction h with
 | new => intro p hp; rw [Znb]; exact (T.rng p hp).1
 | @step s r hr hrp hg ih =>
  intro p hp
  have R := hr.right g
  by_cases e : p = r
  ·subst e
   rw [ZfJ R.o input hp]
   have h1 := ih p hp
   rcases Int.lt_or_eq_of_le h1 with h2 | h2
   ·omega
   ·exfalso
    have dn : ∀ q, inR d q → Zd4 d s q → Zd4 d t q := fun q hq hd => by
     have h3 := ih q hq
     have h4 := (T.rng q hq).2
     unfold Zd4 at hd ⊢
     omega
    refine f p hp ⟨fun hd => hg.1 ?_, fun h0 => ?_, fun fu hf hu hpos => ?_⟩
    ·unfold Zd4 at hd ⊢; omega
    ·have hB := hg.2.1 (by omega)
     exact ⟨fun ed he hd => dn _ (g.src he) (hB.1 ed he hd), fun b hb ho q hq => dn _ (g.ins b hb q hq) (hB.2 b hb ho q hq)⟩
    ·exact dn _ (g.maker hf) (hg.2.2 fu hf hu (by omega))
  ·rw [Zdf input hrp hp e]
   exact ih p hp
theorem Runs.end_done {d : Zh} {input : List Int} (g : Zcq d) {s t : Zn} (h : Runs d input s) (f : Zk9 d s) (k : Runs d input t) (f' : Zk9 d t) {p : Int} (hp : inR d p) : Zd4 d s p ↔ Zd4 d t p := by
 have h1 := h.le g k f' p hp
 have h2 := k.le g h f p hp
 unfold Zd4
 rw [show wk s p = wk t p by omega]
def Zr1 (f : Nat → Nat) : Nat → Nat
 | 0 => 0
 | n + 1 => Zr1 f n + f n
theorem Zon {f h : Nat → Nat} : ∀ n, (∀ i, i < n → f i = h i) → Zr1 f n = Zr1 h n
 | 0, _ => rfl
 | n + 1, e => by unfold Zr1; rw [Zon n fun i hi => e i (by omega), e n (by omega)]
theorem ZrS {f h : Nat → Nat} {j : Nat} : ∀ n, j < n → (∀ i, i < n → i ≠ j → f i = h i) → h j = f j + 1 → Zr1 h n = Zr1 f n + 1
 | 0, hj, _, _ => by omega
 | n + 1, hj, e, hd => by
  unfold Zr1
  by_cases hn : j = n
  ·subst hn
   rw [Zon (f := h) (h := f) j fun i hi => (e i (by omega) (by omega)).symm, hd]; omega
  ·rw [ZrS n (by omega) (fun i hi hne => e i (by omega) hne) hd, e n (by omega) (fun h => hn h.symm)]; omega
def left (d : Zh) (s : Zn) : Nat := Zr1 (fun i => (Zda d.parts (i : Int) - wk s (i : Int)).toNat) d.parts.length
theorem ZkB {d : Zh} {s : Zn} (r : ZgJ d s) (input : List Int) {p : Int} (hp : inR d p) (hg : Zsb d s p) : left d s = left d (ZdF d input s p) + 1 := by
 have hw := r.rng p hp
 have hlt : wk s p < Zda d.parts p := by have := hg.1; unfold Zd4 at this; omega
 unfold left
 refine ZrS (j := p.toNat) d.parts.length hp.2 (fun i hi hne => ?_) ?_
 ·rw [Zdf input hp (Zhm hi) (by omega)]
 ·rw [Int.toNat_of_nonneg hp.1, ZfJ r.o input hp]; omega
def ZfB (d : Zh) (s : Zn) : Bool := !(Zfo (fun i (_ : ZG) => !Za6 d s (i : Int)) 0 d.parts)
theorem ZkI {d : Zh} {s : Zn} : ZfB d s = true ↔ ∀ p, inR d p → Zd4 d s p := by
 unfold ZfB
 rw [Bool.not_eq_true', Zsa]
 constructor
 ·intro h p hp
  have := h p.toNat _ (List.getElem?_eq_getElem hp.2)
  rw [Int.toNat_of_nonneg hp.1] at this
  exact Zfn.1 (by simpa using this)
 ·intro h i x hx
  have := h i (Zhm (List.getElem?_eq_some_iff.1 hx).1)
  rw [Zfn.2 this]; rfl
theorem Zvq {d : Zh} {input : List Int} (g : Zcq d) {s t : Zn} (h : Runs d input s) (f : Zk9 d s) (k : Runs d input t) (f' : Zk9 d t) : ZfB d s = ZfB d t := by
 rw [Bool.eq_iff_iff, ZkI, ZkI]
 exact ⟨fun a p hp => (h.end_done g f k f' hp).1 (a p hp), fun a p hp => (h.end_done g f k f' hp).2 (a p hp)⟩
theorem Zxv {d : Zh} {input : List Int} (hc : Zb4 d = 0) (sh : Zd8 d) {s t : Zn} (h : Runs d input s) (k : Runs d input t) (a : ZfB d s = true) (b : ZfB d t = true) : s.vals = t.vals := by
 have g := Zfg hc
 have o1 := (h.right g).o; have o2 := (k.right g).o
 apply List.ext_getElem?
 intro i
 by_cases hi : i < d.parts.length
 ·have := h.same hc sh k (i : Int) (Zhm hi) (ZkI.1 a _ (Zhm hi)) (ZkI.1 b _ (Zhm hi))
  have l1 : i < s.vals.length := by rw [o1.v]; exact hi
  have l2 : i < t.vals.length := by rw [o2.v]; exact hi
  unfold vl at this
  rw [Int.toNat_natCast, List.getElem?_eq_getElem l1, List.getElem?_eq_getElem l2] at this
  rw [List.getElem?_eq_getElem l1, List.getElem?_eq_getElem l2]
  exact congrArg some this
 ·rw [List.getElem?_eq_none (by rw [o1.v]; omega), List.getElem?_eq_none (by rw [o2.v]; omega)]
theorem Zsi {d : Zh} {s : Zn} (g : Zcq d) (o : OKS d s) : lp (ZcV d (s.work, s.vals)) 0 = some (bif ZfB d s then .inr () else .inl ()) := by
 have hl : d.parts.length < 9223372036854775808 := by have := g.pl; omega
 have := Zco d.parts (ZcV d (s.work, s.vals)) (fun i _ => !Za6 d s (i : Int)) (fun _ _ => .inl ()) (.inr ()) (fun i x hi hx => by
  have hd : ZbB d (Zn.mk s.work s.vals) (i : Int) = some (Za6 d s (i : Int)) := Znc o (Zhm hi)
  simp only [ZcV, ZdC hi, Option.bind_some, ZK hi hl, cond_true, hd]
  cases Za6 d s (i : Int) <;> rfl) (by simp only [ZcV, ZdB]; rfl)
 rw [this, ZaU]
 unfold ZfB
 cases Zfo (fun i (_ : ZG) => !Za6 d s (i : Int)) 0 d.parts <;> rfl
theorem ZAN {d : Zh} (hc : Zb4 d = 0) (sh : Zd8 d) (input : List Int) (hi : input.length ≤ 1000) : ∃ t, Runs d input t ∧ Zk9 d t ∧ Zes d input = some (bif ZfB d t then (t.vals, 0) else ([], 94)) := by
 have g := Zfg hc
 have key : ∀ (n : Nat) (s : Zn), left d s ≤ n → Runs d input s → ∃ t, Runs d input t ∧ Zk9 d t ∧ lp (Zev d input) (ZeJ d s, s.work, s.vals) = some (t.work, t.vals) := by
  intro n
  induction n with
  | zero =>
   intro s hn hr
   have R := hr.right g
   have hm : ZeJ d s = [] := by
    cases h : ZeJ d s with
    | nil => rfl
    | cons p l =>
     obtain ⟨h1, h2⟩ := Zqm g (show p ∈ ZeJ d s by rw [h]; simp)
     have := ZkB R input h1 h2
     omega
   refine ⟨s, hr, (ZnT g).1 hm, ?_⟩
   rw [hm, Zba]
   rfl
  | succ n ih =>
   intro s hn hr
   have R := hr.right g
   cases h : ZeJ d s with
   | nil =>
    refine ⟨s, hr, (ZnT g).1 h, ?_⟩
    rw [Zba]
    rfl
   | cons p l =>
    obtain ⟨h1, h2⟩ := Zqm g (show p ∈ ZeJ d s by rw [h]; simp)
    have hw := R.rng p h1
    have hle := Ztf g p
    have hl := ZkB R input h1 h2
    have hr' := Runs.step (input := input) hr h1 h2
    obtain ⟨t, t1, t2, t3⟩ := ih (ZdF d input s p) (by omega) hr'
    refine ⟨t, t1, t2, ?_⟩
    have es : ZeD d input (Zn.mk s.work s.vals) p = some (ZdF d input s p) := ZyI hc sh.i R.o h1 input hi (by omega)
    have em := Zyd g sh.i (hr'.right g).o
    rw [Zba]
    have e0 : ZA (p :: l) 0 = some p := rfl
    simp only [Zev, decide_eq_true (show (0 : Int) < (((p :: l).length : Nat) : Int) by rw [List.length_cons]; omega), cond_true, e0, Option.bind_some, es, em]
    exact t3
 obtain ⟨t, t1, t2, t3⟩ := key (left d (Zjy d)) (Zjy d) (Nat.le_refl _) .new
 refine ⟨t, t1, t2, ?_⟩
 unfold Zes
 rw [ZvV d sh, hc]
 simp only [beq_self_eq_true, cond_true, Option.bind_some, bne_self_eq_false, cond_false]
 rw [Zyd g sh.i (Zqf g).o]
 simp only [Option.bind_some]
 rw [t3]
 simp only [Option.bind_some]
 rw [Zsi g (t1.right g).o]
 cases ZfB d t <;> rfl
theorem ZxN {d : Zh} (hc : Zb4 d ≠ 0) (sh : Zd8 d) (input : List Int) : Zes d input = some ([], Zb4 d) := by
 unfold Zes
 rw [ZvV d sh, show (Zb4 d == 0) = false by simpa using hc]
 simp only [cond_false, Option.bind_some]
 rw [show (Zb4 d != 0) = true by simpa using hc]
 rfl
end Go.Proofs.YtnmbdjkbaihicaaDoor
namespace Go.Proofs.YtnmbdjkbaihicaaDoor
open Go Go.Proofs.YtnmbdjkbaihicaaDoorE
set_option linter.unusedVariables false
set_option linter.unusedSimpArgs false
def ZqH (n : Int) : Bool := (List.range 40).any fun k => ((2 : Int) ^ k == n)
theorem Zxl (n : Int) : ∃ k, ZgH n = some (k, ZqH n) := by
 have step : ∀ k : Nat, k < 40 → Zck n ((2 : Int) ^ k, (k : Int)) = some (bif ((2 : Int) ^ k == n) then .inr (.inl (k : Int)) else .inl ((2 : Int) ^ (k + 1), ((k + 1 : Nat) : Int))) := by
  intro k hk
  have hp : (2 : Int) ^ k ≤ 2 ^ 39 := by
   have : (2 : Nat) ^ k ≤ 2 ^ 39 := Nat.pow_le_pow_right (by omega) (by omega)
   exact_mod_cast this
  have hq : (0 : Int) < 2 ^ k := by
   have : (0 : Nat) < 2 ^ k := Nat.pow_pos (by omega)
   exact_mod_cast this
  have e39 : (2 : Int) ^ 39 = 549755813888 := by decide
  rw [e39] at hp
  have e1 : w64 (2 * (2 : Int) ^ k) = (2 : Int) ^ (k + 1) := by rw [Zcd (by omega) (by omega), Int.pow_succ]; omega
  have e2 : w64 ((k : Int) + 1) = ((k + 1 : Nat) : Int) := ZK hk (by omega)
  unfold Zck
  simp only [decide_eq_true (show (k : Int) < 40 by omega), cond_true, e1, e2]
  cases ((2 : Int) ^ k == n) <;> rfl
 have key : ∀ m k : Nat, k + m = 40 → lp (Zck n) ((2 : Int) ^ k, (k : Int)) = some (match (List.range' k m).find? (fun j => (2 : Int) ^ j == n) with | some j => .inl (j : Int) | none => .inr ()) := by
  intro m
  induction m with
  | zero =>
   intro k hk
   have : k = 40 := by omega
   subst this
   rw [Zba]
   unfold Zck
   rfl
  | succ m ih =>
   intro k hk
   rw [Zba, step k (by omega), List.range'_succ, List.find?_cons]
   cases h : ((2 : Int) ^ k == n) with
   | true => rfl
   | false => exact ih (k + 1) (by omega)
 have k0 := key 40 0 rfl
 rw [show ((2 : Int) ^ 0) = 1 from rfl] at k0
 have e : (List.range 40).any (fun j => (2 : Int) ^ j == n) = ((List.range' 0 40).find? (fun j => (2 : Int) ^ j == n)).isSome := by
  rw [List.range_eq_range', Bool.eq_iff_iff, List.any_eq_true, List.find?_isSome]
 unfold ZgH ZqH
 rw [e]
 cases hf : (List.range' 0 40).find? (fun j => (2 : Int) ^ j == n) with
 | none =>
  rw [hf] at k0
  refine ⟨0, ?_⟩
  show (lp (Zck n) (1, ((0 : Nat) : Int))).bind _ = _
  rw [k0]; rfl
 | some j =>
  rw [hf] at k0
  refine ⟨j, ?_⟩
  show (lp (Zck n) (1, ((0 : Nat) : Int))).bind _ = _
  rw [k0]; rfl
theorem ZsG (n : Nat) (h : n ≤ 4096) : ZqH (n : Int) = Zvm n := by
 rw [Bool.eq_iff_iff]
 unfold ZqH Zvm
 rw [List.any_eq_true]
 constructor
 ·rintro ⟨k, hk, he⟩
  have hk := List.mem_range.1 hk
  have he : (2 : Nat) ^ k = n := by have := eq_of_beq he; exact_mod_cast this
  have h13 : k < 13 := by
   rcases Nat.lt_or_ge k 13 with h1 | h1
   ·exact h1
   ·have : 2 ^ 13 ≤ 2 ^ k := Nat.pow_le_pow_right (by omega) h1
    omega
  subst he
  have : ((List.range 13).all fun k => [1, 2, 4, 8, 16, 32, 64, 128, 256, 512, 1024, 2048, 4096].contains (2 ^ k)) = true := by decide
  exact List.all_eq_true.1 this k (by simpa using h13)
 ·intro h
  have : n = 2 ^ 0 ∨ n = 2 ^ 1 ∨ n = 2 ^ 2 ∨ n = 2 ^ 3 ∨ n = 2 ^ 4 ∨ n = 2 ^ 5 ∨ n = 2 ^ 6 ∨ n = 2 ^ 7 ∨ n = 2 ^ 8 ∨ n = 2 ^ 9 ∨ n = 2 ^ 10 ∨ n = 2 ^ 11 ∨ n = 2 ^ 12 := by
   simpa using h
  rcases this with h | h | h | h | h | h | h | h | h | h | h | h | h <;> subst h
  ·exact ⟨0, by decide, by decide⟩
  ·exact ⟨1, by decide, by decide⟩
  ·exact ⟨2, by decide, by decide⟩
  ·exact ⟨3, by decide, by decide⟩
  ·exact ⟨4, by decide, by decide⟩
  ·exact ⟨5, by decide, by decide⟩
  ·exact ⟨6, by decide, by decide⟩
  ·exact ⟨7, by decide, by decide⟩
  ·exact ⟨8, by decide, by decide⟩
  ·exact ⟨9, by decide, by decide⟩
  ·exact ⟨10, by decide, by decide⟩
  ·exact ⟨11, by decide, by decide⟩
  ·exact ⟨12, by decide, by decide⟩
theorem Zw0 (d : Zh) : ZfX d = some (Zkr d) := by
 obtain ⟨k, hk⟩ := Zxl d.period
 unfold ZfX Zkr ZbU
 simp only [hk, Option.bind_some]
 by_cases h1 : d.period < 0
 ·have : ZqH d.period = false := by
   unfold ZqH
   rw [List.any_eq_false]
   intro k _ he
   have he := eq_of_beq he
   have : (0 : Nat) < 2 ^ k := Nat.pow_pos (by omega)
   have : (0 : Int) < 2 ^ k := by exact_mod_cast this
   omega
  rw [this, ZwM h1]; rfl
 ·by_cases h2 : d.period ≤ 4096
  ·have e : d.period = ((d.period.toNat : Nat) : Int) := by omega
   have : Zpx d.period = ZqH d.period := by rw [e, Zst _ (by omega), ZsG _ (by omega)]
   rw [this, decide_eq_true h2, decide_eq_false (show ¬ 4096 < d.period by omega)]
   cases ZqH d.period <;> cases decide (1 ≤ d.deadline) <;> cases decide (d.deadline ≤ d.period) <;> rfl
  ·rw [decide_eq_false h2, decide_eq_true (show 4096 < d.period by omega)]
   cases ZqH d.period <;> cases Zpx d.period <;> rfl
theorem Zuw (d : Zh) (h : Zd8 d) : Zfm d = some (!(d.parts.any ZdQ)) := by
 have key := Zco d.parts (Zdo d) (fun _ => ZdQ) (fun _ _ => .inl ()) (.inr ()) (fun i x hi hx => by
   simp only [Zdo, ZdC hi, Z6 hx, Option.bind_some, ZK hi h.p, cond_true]
   have e1 : decide (x.op < 0) = !decide (0 ≤ x.op) := by rw [← decide_not]; exact decide_eq_decide.2 (by omega)
   have e2 : decide (5 < x.op) = !decide (x.op ≤ 5) := by rw [← decide_not]; exact decide_eq_decide.2 (by omega)
   have e3 : decide (x.arg < 0) = !decide (0 ≤ x.arg) := by rw [← decide_not]; exact decide_eq_decide.2 (by omega)
   have e4 : decide (2147483647 < x.arg) = !decide (x.arg ≤ 2147483647) := by rw [← decide_not]; exact decide_eq_decide.2 (by omega)
   have e5 : decide (x.work < 1) = !decide (1 ≤ x.work) := by rw [← decide_not]; exact decide_eq_decide.2 (by omega)
   have e6 : decide (100 < x.work) = !decide (x.work ≤ 100) := by rw [← decide_not]; exact decide_eq_decide.2 (by omega)
   simp only [e1, e2, e3, e4, e5, e6, ZdQ, ZbU]
   cases decide (0 ≤ x.op) <;> cases decide (x.op ≤ 5) <;> cases decide (0 ≤ x.arg) <;> cases decide (x.arg ≤ 2147483647) <;> cases decide (1 ≤ x.work) <;> cases decide (x.work ≤ 100) <;> rfl) (by simp only [Zdo, ZdB]; rfl)
 unfold Zfm
 rw [key, ZaU, Zd7]
 cases d.parts.any ZdQ <;> rfl
def Zf4 (n : Nat) (x : Int) : Bool := decide (0 ≤ x) && decide (x < (n : Int))
theorem Zos (d : Zh) (x : Int) : Zdb d x = some (Zf4 d.parts.length x) := by
 unfold Zdb Zf4
 cases decide (0 ≤ x) <;> cases decide (x < (d.parts.length : Int)) <;> rfl
theorem ZrN (n : Nat) (a b : Int) : two n a b = ((a != b) && (Zf4 n a && Zf4 n b)) := by
 unfold two Zf4
 rw [ZjX, ZjX]
theorem ZrX {γ R : Type} (l : List γ) (i : Nat) (hi : i < l.length) (step : Int → Option (Int ⊕ R)) (p : γ → Bool) (c fin : R)
  (h1 : ∀ (k : Nat) x, k < i → l[k]? = some x → step (k : Int) = some (bif p x then .inr c else .inl ((k + 1 : Nat) : Int)))
  (h2 : step (i : Int) = some (.inr fin)) : lp step 0 = some (bif (l.take i).any p then c else fin) := by
 have hl : (l.take i).length = i := by rw [List.length_take]; omega
 have key := Zco (l.take i) step (fun _ => p) (fun _ _ => c) fin (fun k x hk hx => by
   rw [hl] at hk
   refine h1 k x hk ?_
   rw [List.getElem?_take_of_lt hk] at hx
   exact hx) (by rw [hl]; exact h2)
 rw [key, ZaU, Zd7]
theorem Zt6 (d : Zh) (h : Zd8 d) : Zfl d = some (!(Zfo (Zd5 d) 0 d.edges)) := by
 have key := Zco d.edges (Zdp d) (Zd5 d) (fun _ _ => .inl ()) (.inr ()) (fun i x hi hx => by
   have inner := ZrX d.edges i hi (Zdi d (i : Int) x) (Znz x) (.inl ()) (.inr ()) (fun k y hk hy => by
     simp only [Zdi, ZdC hk, Z6 hy, Option.bind_some, ZK hk (Nat.lt_trans hi h.e), cond_true, Znz]
     have e1 : (y.src == x.src) = (x.src == y.src) := Bool.beq_comm
     have e2 : (y.dst == x.dst) = (x.dst == y.dst) := Bool.beq_comm
     rw [e1, e2]
     cases (x.src == y.src) <;> cases (x.dst == y.dst) <;> rfl) (by simp only [Zdi, ZdB]; rfl)
   simp only [Zdp, ZdC hi, Z6 hx, Option.bind_some, ZK hi h.e, cond_true, Zos, Zd5, ZrN, inner, bne]
   cases Zf4 d.parts.length x.src <;> cases Zf4 d.parts.length x.dst <;> cases (x.src == x.dst) <;> cases (d.edges.take i).any (Znz x) <;> rfl) (by simp only [Zdp, ZdB]; rfl)
 unfold Zfl
 rw [key, ZaU]
 cases Zfo (Zd5 d) 0 d.edges <;> rfl
theorem Zq1 (d : Zh) (h : Zd8 d) : Zex d = some (!(Zfo (Zb6 d) 0 d.futures)) := by
 have key := Zco d.futures (ZcC d) (Zb6 d) (fun _ _ => .inl ()) (.inr ()) (fun i x hi hx => by
   have inner := ZrX d.futures i hi (Zcz d (i : Int) x) (again x) (.inl ()) (.inr ()) (fun k y hk hy => by
     simp only [Zcz, ZdC hk, Z6 hy, Option.bind_some, ZK hk (Nat.lt_trans hi h.f), cond_true, again]
     cases (y.user == x.user) <;> cases (y.pos == x.pos) <;> rfl) (by simp only [Zcz, ZdB]; rfl)
   simp only [ZcC, ZdC hi, Z6 hx, Option.bind_some, ZK hi h.f, cond_true, Zos, Zb6, ZrN, inner, bne]
   cases h1 : Zf4 d.parts.length x.maker with
   | false => cases (x.maker == x.user) <;> rfl
   | true =>
    cases h2 : Zf4 d.parts.length x.user with
    | false => cases (x.maker == x.user) <;> rfl
    | true =>
     simp only [Zf4, Bool.and_eq_true, decide_eq_true_eq] at h2
     have u2 : x.user.toNat < d.parts.length := by omega
     have wa : Zda d.parts x.user = d.parts[x.user.toNat].work := by simp only [Zda, List.getElem?_eq_getElem u2]
     rw [ZkA h2.1 u2, wa]
     have e1 : decide (x.pos < 1) = !decide (1 ≤ x.pos) := by rw [← decide_not]; exact decide_eq_decide.2 (by omega)
     have e2 : decide (d.parts[x.user.toNat].work ≤ x.pos) = !decide (x.pos ≤ d.parts[x.user.toNat].work - 1) := by rw [← decide_not]; exact decide_eq_decide.2 (by omega)
     simp only [Option.bind_some, ZbU, e1, e2]
     cases (x.maker == x.user) <;> cases decide (1 ≤ x.pos) <;> cases decide (x.pos ≤ d.parts[x.user.toNat].work - 1) <;> cases (d.futures.take i).any (again x) <;> rfl) (by simp only [ZcC, ZdB]; rfl)
 unfold Zex
 rw [key, ZaU]
 cases Zfo (Zb6 d) 0 d.futures <;> rfl
theorem Zte (d : Zh) (hd : d.parts.length < 9223372036854775808) (l : List Int) (hl : l.length < 9223372036854775808) : ZfG d l = some (ZhM d.parts.length l) := by
 have key := Zco l (Zec d l) (Znx d.parts.length l) (fun _ _ => .inl ()) (.inr ()) (fun i x hi hx => by
   simp only [Zec, ZdC hi, Z6 hx, Option.bind_some, ZK hi hl, cond_true, Zos, Znx, ZjX]
   show (bif Zf4 d.parts.length x then _ else _) = some (bif !(Zf4 d.parts.length x) || _ then _ else _)
   cases Zf4 d.parts.length x with
   | false => rfl
   | true =>
    cases i with
    | zero => rfl
    | succ i =>
     rw [decide_eq_true (show (0 : Int) < ((i + 1 : Nat) : Int) by omega), Zcd (by omega) (by omega), show (((i + 1 : Nat) : Int) - 1) = (i : Int) by omega]
     have hi2 : l[i]? = some l[i] := List.getElem?_eq_getElem (by omega)
     rw [Z6 hi2]
     simp only [cond_true, Option.bind_some, Bool.not_true, Bool.false_or, hi2]
     cases decide (x ≤ l[i]) <;> rfl) (by simp only [Zec, ZdB]; rfl)
 unfold ZfG ZhM
 rw [key, ZaU]
 exact Ztu _ _
theorem Ztj (l : List Int) (n : Int) (hl : l.length < 9223372036854775808) : ZfC l n = some (l.any fun x => n == x) := by
 have key := Zco l (Zef l n) (fun _ x => n == x) (fun _ _ => .inl ()) (.inr ()) (fun i x hi hx => by
   have e : (x == n) = (n == x) := Bool.beq_comm
   simp only [Zef, ZdC hi, Z6 hx, Option.bind_some, ZK hi hl, cond_true, e]
   cases (n == x) <;> rfl) (by simp only [Zef, ZdB]; rfl)
 unfold ZfC
 rw [key, ZaU, Zd7]
 cases (l.any fun x => n == x) <;> rfl
theorem ZqI (d : Zh) (h : Zd8 d) : Zeh d = some (!(d.barriers.any (ZcD d.parts.length))) := by
 have key := Zco d.barriers (Zcm d) (fun _ => ZcD d.parts.length) (fun _ _ => .inl ()) (.inr ()) (fun i x hi hx => by
   have hb := h.i x (List.mem_of_getElem? hx)
   have inner := Zco x.ins (Zcn x) (fun _ => Zk8 x) (fun _ _ => .inl ()) (.inr ()) (fun k y hk hy => by
     simp only [Zcn, ZdC hk, Z6 hy, Option.bind_some, ZK hk hb.1, cond_true, Ztj _ _ hb.2, Zk8]
     cases (x.outs.any fun z => y == z) <;> rfl) (by simp only [Zcn, ZdB]; rfl)
   rw [ZaU, Zd7] at inner
   simp only [Zcm, ZdC hi, Z6 hx, Option.bind_some, ZK hi h.b, cond_true, Zte d h.p _ hb.1, Zte d h.p _ hb.2, ZcD, inner]
   cases ZhM d.parts.length x.ins <;> cases ZhM d.parts.length x.outs <;> cases x.ins.any (Zk8 x) <;> rfl) (by simp only [Zcm, ZdB]; rfl)
 unfold Zeh
 rw [key, ZaU, Zd7]
 cases d.barriers.any (ZcD d.parts.length) <;> rfl
theorem Zne (d : Zh) (h : Zd8 d) : ZeB d = some (Zb4 d) := by
 unfold ZeB Zb4 Zku ZbU
 simp only [Zw0, Zuw d h, Zt6 d h, Zq1 d h, ZqI d h, Option.bind_some]
 have e1 : decide ((d.parts.length : Int) < 1) = !decide (1 ≤ (d.parts.length : Int)) := by rw [← decide_not]; exact decide_eq_decide.2 (by omega)
 have e2 : decide (16 < (d.parts.length : Int)) = !decide ((d.parts.length : Int) ≤ 16) := by rw [← decide_not]; exact decide_eq_decide.2 (by omega)
 rw [e1, e2]
 cases decide (1 ≤ (d.parts.length : Int)) with
 | false => rfl
 | true =>
  cases decide ((d.parts.length : Int) ≤ 16) with
  | false => rfl
  | true =>
   cases decide ((48 : Int) < d.edges.length) with
   | true => rfl
   | false =>
    cases decide ((16 : Int) < d.futures.length) with
    | true => rfl
    | false =>
     cases decide ((4 : Int) < d.barriers.length) with
     | true => rfl
     | false => cases Zkr d <;> cases d.parts.any ZdQ <;> cases Zfo (Zd5 d) 0 d.edges <;> cases Zfo (Zb6 d) 0 d.futures <;> cases d.barriers.any (ZcD d.parts.length) <;> rfl
end Go.Proofs.YtnmbdjkbaihicaaDoor
namespace Go.Proofs.YtnmbdjkbaihicaaDoor
open Go Go.Proofs.YtnmbdjkbaihicaaDoorE
set_option linter.unusedVariables false
set_option linter.unusedSimpArgs false
theorem Zu0 {γ : Type} (p : γ → Bool) : ∀ (l : List γ) (i : Nat), (sel p (fun i _ => (i : Int)) i l).Pairwise (fun x y => x < y) ∧ ∀ z ∈ sel p (fun i _ => (i : Int)) i l, (i : Int) ≤ z := by
 intro l
 induction l with
 | nil => intro i; simp [sel]
 | cons x l ih =>
  intro i
  obtain ⟨h1, h2⟩ := ih (i + 1)
  unfold sel
  cases p x with
  | true =>
   simp only [cond_true, List.pairwise_cons, List.mem_cons]
   refine ⟨⟨fun z hz => ?_, h1⟩, ?_⟩
   ·have := h2 z hz; omega
   ·rintro z (rfl | hz)
    ·exact Int.le_refl _
    ·have := h2 z hz; omega
  | false =>
   simp only [cond_false]
   exact ⟨h1, fun z hz => by have := h2 z hz; omega⟩
def Zkj (d : Zh) (u : Int) (t : Int) : List Int := sel (fun f : Zs => f.user == u && f.pos == t) (fun i _ => (i : Int)) 0 d.futures
theorem Znj (d : Zh) (u t z : Int) : z ∈ Zkj d u t ↔ ∃ (i : Nat) (f : Zs), d.futures[i]? = some f ∧ f.user = u ∧ f.pos = t ∧ z = (i : Int) := by
 unfold Zkj
 rw [ZlW]
 simp [and_assoc]
theorem Zky {d : Zh} {u t z : Int} (h : z ∈ Zkj d u t) : ZgW d.futures z = t := by
 obtain ⟨i, f, h1, _, h3, rfl⟩ := (Znj d u t z).1 h
 unfold ZgW
 rw [Int.toNat_natCast, h1, ← h3]
theorem Zoo {d : Zh} {u t z : Int} (h : z ∈ Zkj d u t) : ∃ (i : Nat) (f : Zs), d.futures[i]? = some f ∧ f.user = u ∧ z = (i : Int) := by
 obtain ⟨i, f, h1, h2, _, h4⟩ := (Znj d u t z).1 h
 exact ⟨i, f, h1, h2, h4⟩
def tl (d : Zh) (u : Int) : Nat → Nat → List Int
 | _, 0 => []
 | i, k + 1 => Zkj d u ((i + 1 : Nat) : Int) ++ tl d u (i + 1) k
theorem ZsP (d : Zh) (u z : Int) : ∀ (k i : Nat), z ∈ tl d u i k ↔ ∃ t : Nat, i < t ∧ t ≤ i + k ∧ z ∈ Zkj d u (t : Int)
 | 0, i => by
  unfold tl
  constructor
  ·intro h; cases h
  ·rintro ⟨t, h1, h2, _⟩; omega
 | k + 1, i => by
  unfold tl
  rw [List.mem_append, ZsP d u z k (i + 1)]
  constructor
  ·rintro (h | ⟨t, h1, h2, h3⟩)
   ·exact ⟨i + 1, by omega, by omega, h⟩
   ·exact ⟨t, by omega, by omega, h3⟩
  ·rintro ⟨t, h1, h2, h3⟩
   by_cases h : t = i + 1
   ·subst h; exact .inl h3
   ·exact .inr ⟨t, by omega, by omega, h3⟩
theorem ZtJ {d : Zh} (g : ZrW d) (u : Int) : ∀ (k i : Nat), (tl d u i k).Pairwise (fun x y => ZgW d.futures x < ZgW d.futures y)
 | 0, i => List.Pairwise.nil
 | k + 1, i => by
  unfold tl
  rw [List.pairwise_append]
  refine ⟨?_, ZtJ g u k (i + 1), fun x hx y hy => ?_⟩
  ·refine Zr2 (Zu0 _ _ _).1 fun x y hx hy hlt => ?_
   have hx' : x ∈ Zkj d u ((i + 1 : Nat) : Int) := hx
   have hy' : y ∈ Zkj d u ((i + 1 : Nat) : Int) := hy
   exact absurd ((Zky hx').trans (Zky hy').symm) (ZvM g (Zoo hx') (Zoo hy') (by omega))
  ·obtain ⟨t, h1, h2, h3⟩ := (ZsP d u y k (i + 1)).1 hy
   rw [Zky hx, Zky h3]
   omega
theorem ZsN {d : Zh} (g : ZrW d) (u : Int) : ZbS d u (tl d u 0 99) := by
 refine ⟨fun z => ?_, ZtJ g u 99 0⟩
 rw [ZsP]
 constructor
 ·rintro ⟨t, _, _, h⟩; exact Zoo h
 ·rintro ⟨i, f, h1, h2, h3⟩
  have hf := g.f f (List.mem_of_getElem? h1)
  have hw := Zm3 g f.user
  refine ⟨f.pos.toNat, by omega, by omega, ?_⟩
  rw [Znj]
  exact ⟨i, f, h1, h2, by omega, h3⟩
theorem ZrL (d : Zh) (hf : d.futures.length ≤ 1000) (u : Int) : ZeA d u = some (tl d u 0 99) := by
 have inner : ∀ (t : Int) (s0 s : List Int), s.length ≤ 1000000 → lp (Zb3 d u (t, s0)) (0, s) = some (s ++ Zkj d u t) := fun t s0 s hs =>
  ZoQ d.futures hf (fun f : Zs => f.user == u && f.pos == t) (fun i _ => (i : Int)) (Zb3 d u (t, s0)) (fun i x s hi hx => by
   simp only [Zb3, ZdC hi, Z6 hx, Option.bind_some, ZK hi (show d.futures.length < 9223372036854775808 by omega), cond_true]
   cases x.user == u <;> cases x.pos == t <;> rfl) (fun s => by simp only [Zb3, ZdB]; rfl) s hs
 have key : ∀ (k i : Nat) (s : List Int), i + k = 99 → s.length ≤ 1000 * i → lp (Zds d u) (((i + 1 : Nat) : Int), s) = some (s ++ tl d u i k) := by
  intro k
  induction k with
  | zero =>
   intro i s hi hs
   have : i = 99 := by omega
   subst this
   rw [Zba]
   unfold tl
   rw [List.append_nil]
   rfl
  | succ k ih =>
   intro i s hi hs
   rw [Zba]
   unfold tl
   simp only [Zds, decide_eq_true (show ((i + 1 : Nat) : Int) < 100 by omega), cond_true, inner ((i + 1 : Nat) : Int) s s (by omega), Option.bind_some, ZK (show i + 1 < 100 by omega) (by omega)]
   have hl : (Zkj d u ((i + 1 : Nat) : Int)).length ≤ 1000 := Nat.le_trans (ZiJ _ _ _ _) hf
   rw [ih (i + 1) (s ++ Zkj d u ((i + 1 : Nat) : Int)) (by omega) (by rw [List.length_append]; omega), List.append_assoc]
 have k0 := key 99 0 [] rfl (by simp)
 unfold ZeA
 rw [show ((1 : Int), ([] : List Int)) = (((0 + 1 : Nat) : Int), []) from rfl, k0]
 rfl
theorem Zuv (d : Zh) (he : d.edges.length ≤ 1000) (hf : d.futures.length ≤ 1000) (g : ZrW d) (u : Int) {r : List Int} (hr : ZbS d u r) : ZeC d u = some (Zoh d u r) := by
 have h2 := ZsN g u
 have e := h2.eq hr
 have k1 := ZmZ d he u (Ze7 d u) (fun t => rfl)
 have k2 := ZoE d (tl d u 0 99) (sel (fun e : ZM => e.dst == u) (fun _ e => e.src) 0 d.edges) (Nat.le_trans (Zkh h2) hf) (Nat.le_trans (ZiJ _ _ _ _) (by omega)) (Zrh h2) (Ze4 d (tl d u 0 99)) (fun t => rfl)
 unfold ZeC Zoh
 simp only [k1, Option.bind_some, ZrL d hf u, k2, ← e]
end Go.Proofs.YtnmbdjkbaihicaaDoor
namespace Go.Proofs.YtnmbdjkbaihicaaDoor
open Go Go.Proofs.YtnmbdjkbaihicaaDoorE
set_option linter.unusedVariables false
set_option linter.unusedSimpArgs false
theorem Zmk (a b : List Int) (hl : a.length < 9223372036854775808) : Zep a b = some (decide (a = b)) := by
  unfold Zep
  by_cases he : a.length = b.length
  · have key := ZxO a b he (ZdK a b) (fun i x y hi hx hy => by
        simp only [ZdK, ZdC hi, Z6 hx, Z6 hy, Option.bind_some, ZK hi hl, cond_true]
        have e : (x != y) = !decide (x = y) := by rw [Bool.eq_iff_iff]; simp
        rw [e]
        cases decide (x = y) <;> rfl) (by simp only [ZdK, ZdB]; rfl)
    rw [key, show ((a.length : Int) != (b.length : Int)) = false by rw [he]; simp]
    cases decide (a = b) <;> rfl
  · rw [show ((a.length : Int) != (b.length : Int)) = true by simp; omega, decide_eq_false (fun h => he (by rw [h]))]
    rfl
end Go.Proofs.YtnmbdjkbaihicaaDoor
namespace Go.Proofs.YtnmbdjkbaihicaaDoor
open Go Go.Proofs.YtnmbdjkbaihicaaDoorE
set_option linter.unusedVariables false
set_option linter.unusedSimpArgs false
def Zx0 (d : Zh) (s : Zn) : Prop := OKS d s ∧ ∀ p, inR d p → wk s p ≤ Zda d.parts p
theorem ZgJ.most {d : Zh} {s : Zn} (r : ZgJ d s) : Zx0 d s := ⟨r.o, fun p hp => (r.rng p hp).2⟩
theorem Zkk {d : Zh} {s : Zn} (m : Zx0 d s) {p : Int} (hp : inR d p) : ZcG d s p = some (Za6 d s p) := by
 obtain ⟨x, h1, _, h3⟩ := Zgp hp
 have := m.2 p hp
 unfold ZcG Za6
 rw [Zkq m.1 hp, h1]
 simp only [Option.bind_some]
 rw [h3]
 by_cases h : wk s p = Zda d.parts p
 ·rw [h, decide_eq_true (Int.le_refl _)]; simp
 ·rw [decide_eq_false (by omega), show (wk s p == Zda d.parts p) = false by simpa using h]; rfl
def Zrq (d : Zh) (p : Int) : List Int := sel (fun e : ZM => e.dst == p) (fun _ e => e.src) 0 d.edges
def ZkP (p : Int) : List Zo → List Int
 | [] => []
 | b :: l => (bif b.outs.any (fun x => p == x) then b.ins else []) ++ ZkP p l
theorem Zrc {p : Int} : ∀ {l : List Zo}, (∀ b ∈ l, b.ins.length ≤ 20) → (ZkP p l).length ≤ 20 * l.length
 | [], _ => by simp [ZkP]
 | b :: l, h => by
  have ih := Zrc (p := p) (l := l) fun b hb => h b (by simp [hb])
  have := h b (by simp)
  unfold ZkP
  rw [List.length_append, List.length_cons]
  cases b.outs.any (fun x => p == x) <;> simp only [cond_true, cond_false, List.length_nil] <;> omega
theorem Zuj {d : Zh} (sd : ZjV d) (p : Int) (r : List Int) (hr : r.length ≤ 100) : lp (ZbR d p) (0, r) = some (r ++ ZkP p d.barriers) := by
 have hb := sd.b
 have key : ∀ k i : Nat, i + k = d.barriers.length → ∀ r : List Int, r.length ≤ 100 + 20 * i → lp (ZbR d p) ((i : Int), r) = some (r ++ ZkP p (d.barriers.drop i)) := by
  intro k
  induction k with
  | zero =>
   intro i hi r _
   have : i = d.barriers.length := by omega
   subst this
   rw [Zba, List.drop_length]
   simp only [ZbR, ZdB, cond_false, ZkP, List.append_nil]
  | succ k ih =>
   intro i hi r hr
   have hi' : i < d.barriers.length := by omega
   have hx : d.barriers[i]? = some d.barriers[i] := List.getElem?_eq_getElem hi'
   have hs := sd.i _ (List.getElem_mem hi')
   rw [Zba, List.drop_eq_getElem_cons hi']
   unfold ZkP
   simp only [ZbR, ZdC hi', Z6 hx, Option.bind_some, cond_true, ZK hi' sd.short.b, Ztj _ p (show d.barriers[i].outs.length < 9223372036854775808 by omega)]
   cases (d.barriers[i].outs.any fun x => p == x) with
   | true =>
    simp only [cond_true]
    rw [ZiM (by omega)]
    simp only [cond_true]
    rw [ih (i + 1) (by omega) _ (by rw [List.length_append]; omega), List.append_assoc]
   | false =>
    simp only [cond_false, List.nil_append]
    exact ih (i + 1) (by omega) r (by omega)
 exact key d.barriers.length 0 (by omega) r (by omega)
theorem ZuX (d : Zh) (s : Zn) (p : Int) : (Zrq d p).any (fun q => !Za6 d s q) = d.edges.any (Zli d s p) := by
 have : ∀ (l : List ZM) (i : Nat), (sel (fun e : ZM => e.dst == p) (fun _ e => e.src) i l).any (fun q => !Za6 d s q) = l.any (Zli d s p) := by
  intro l
  induction l with
  | nil => intro i; rfl
  | cons x l ih =>
   intro i
   unfold sel
   rw [List.any_cons, ← ih (i + 1)]
   unfold Zli
   cases x.dst == p <;> rfl
 exact this d.edges 0
theorem Zrx (d : Zh) (s : Zn) (p : Int) : ∀ l : List Zo, (ZkP p l).any (fun q => !Za6 d s q) = l.any (Zi9 d s p)
 | [] => rfl
 | b :: l => by
  unfold ZkP
  rw [List.any_append, List.any_cons, Zrx d s p l]
  unfold Zi9
  cases b.outs.any (fun x => p == x) <;> rfl
theorem Zto {d : Zh} (g : Zcq d) (p : Int) : ∀ l : List Zo, (∀ b ∈ l, b ∈ d.barriers) → ∀ q ∈ ZkP p l, inR d q
 | [], _, q, h => by cases h
 | b :: l, hl, q, h => by
  unfold ZkP at h
  rcases List.mem_append.1 h with h | h
  ·cases ho : b.outs.any (fun x => p == x) with
   | true => rw [ho] at h; exact g.ins b (hl b (by simp)) q h
   | false => rw [ho] at h; cases h
  ·exact Zto g p l (fun b hb => hl b (by simp [hb])) q h
theorem Zse {d : Zh} {s : Zn} (sd : ZjV d) (g : Zcq d) (m : Zx0 d s) (p : Int) : ZeS d s p = some (Zg3 d s p) := by
 have hb := sd.b
 have k0 := ZmZ d (by have := sd.e; omega) p (ZeK d p) (fun t => rfl)
 have hsr : (Zrq d p).length ≤ 60 := Nat.le_trans (ZiJ _ _ _ _) sd.e
 have k1 := Zuj sd p (Zrq d p) (by omega)
 have hbl := Zrc (p := p) fun b hb => (sd.i b hb).1
 have hl : (Zrq d p ++ ZkP p d.barriers).length < 9223372036854775808 := by rw [List.length_append]; omega
 have hin : ∀ q ∈ Zrq d p ++ ZkP p d.barriers, inR d q := fun q hq => by
  rcases List.mem_append.1 hq with h | h
  ·obtain ⟨j, x, h1, _, h3⟩ := (ZlW _ _ _ _ _).1 h
   rw [h3]; exact g.src (List.mem_of_getElem? h1)
  ·exact Zto g p d.barriers (fun b hb => hb) q h
 have k2 := Zco (Zrq d p ++ ZkP p d.barriers) (ZcQ d s (Zrq d p ++ ZkP p d.barriers)) (fun _ q => !Za6 d s q) (fun _ _ => .inl ()) (.inr ()) (fun i x hi hx => by
  simp only [ZcQ, ZdC hi, Z6 hx, Option.bind_some, ZK hi hl, cond_true, Zkk m (hin x (List.mem_of_getElem? hx))]
  cases Za6 d s x <;> rfl) (by simp only [ZcQ, ZdB]; rfl)
 unfold ZeS Zg3
 rw [k0]
 simp only [Option.bind_some]
 show (lp (ZbR d p) (0, Zrq d p)).bind _ = _
 rw [k1]
 simp only [Option.bind_some]
 rw [k2, ZaU, Zd7, List.any_append, ZuX, Zrx]
 cases d.edges.any (Zli d s p) <;> cases d.barriers.any (Zi9 d s p) <;> rfl
theorem ZuI {d : Zh} {s : Zn} (sd : ZjV d) (g : Zcq d) (r : ZgJ d s) {p : Int} (hp : inR d p) : ZfT d s p = some (Zlh d s p) := by
 have m := r.most
 have k := Zco d.futures (ZdJ d s p) (fun _ f => Zil s p f && !Za6 d s f.maker) (fun _ _ => .inl ()) (.inr ()) (fun i x hi hx => by
  simp only [ZdJ, ZdC hi, Z6 hx, Option.bind_some, ZK hi sd.short.f, cond_true, Zil, Zkq r.o hp, Zkk m (g.maker (List.mem_of_getElem? hx))]
  cases (x.user == p) <;> cases (x.pos == wk s p) <;> cases Za6 d s x.maker <;> rfl) (by simp only [ZdJ, ZdB]; rfl)
 have hf : d.futures.any (fun f => Zil s p f && !Za6 d s f.maker) = !ZqZ d s p := by
  cases hb : ZqZ d s p with
  | true =>
   refine List.any_eq_false.2 fun f h1 => ?_
   have := (Zqt g).1 hb f h1
   unfold Zil
   intro h
   simp only [Bool.and_eq_true, beq_iff_eq, Bool.not_eq_true'] at h
   rw [Zfn.2 (this h.1.1 h.1.2)] at h
   cases h.2
  | false =>
   have : ¬ (∀ f ∈ d.futures, f.user = p → f.pos = wk s p → Zd4 d s f.maker) := fun h => by rw [(Zqt g).2 h] at hb; cases hb
   simp only [Classical.not_forall] at this
   obtain ⟨f, h1, h2, h3, h4⟩ := this
   exact List.any_eq_true.2 ⟨f, h1, by unfold Zil; simp [h2, h3, Zu7 h4]⟩
 have hw := r.rng p hp
 have hz : decide (0 < wk s p) = !(wk s p == 0) := by
  by_cases h : wk s p = 0
  ·rw [h]; rfl
  ·rw [decide_eq_true (by omega), show (wk s p == 0) = false by simpa using h]; rfl
 unfold ZfT Zlh
 rw [k, ZaU, Zd7, hf, Zkk m hp, Zkq r.o hp, Zse sd g m]
 simp only [Option.bind_some, hz]
 cases ZqZ d s p <;> cases Za6 d s p <;> cases (wk s p == 0) <;> cases Zg3 d s p <;> rfl
theorem Ztx {d : Zh} {s : Zn} (sd : ZjV d) (g : Zcq d) (r : ZgJ d s) : ZeO d s = some (ZeJ d s) := by
 have hl : d.parts.length < 9223372036854775808 := by have := g.pl; omega
 have := ZtE d.parts (by have := g.pl; omega) (fun i => Zlh d s (i : Int)) (Zeg d s) (fun i acc hi => by
  simp only [Zeg, ZdC hi, cond_true, ZuI sd g r (Zhm hi), Option.bind_some, ZK hi hl]) (fun acc => by simp only [Zeg, ZdB]; rfl)
 unfold ZeO ZeJ
 rw [this]; rfl
def Znl (l : List Int) : Prop := ∀ x ∈ l, -9223372036854775808 ≤ x ∧ x < 9223372036854775808
theorem Zw6 {s : Zn} (h : Znl s.vals) (p : Int) : -9223372036854775808 ≤ vl s p ∧ vl s p < 9223372036854775808 := by
 unfold vl
 cases hx : s.vals[p.toNat]? with
 | none => simp
 | some x => exact h x (List.mem_of_getElem? hx)
theorem Zsw {d : Zh} {s : Zn} (h : Znl s.vals) (input : List Int) (p : Int) : Znl (ZdF d input s p).vals := by
 intro x hx
 unfold ZdF at hx
 dsimp only at hx
 cases hd : Za6 d (more s p) p with
 | false => rw [hd] at hx; exact h x hx
 | true =>
  rw [hd] at hx
  simp only [cond_true] at hx
  rcases List.mem_or_eq_of_mem_set hx with hx | rfl
  ·exact h x hx
  ·have := ZAc (Zm1 d p) input ((ZdU d p).map (vl s))
   unfold Zl6
   omega
theorem ZvT {d : Zh} {s : Zn} (hc : Zb4 d = 0) (sd : ZjV d) (r : ZgJ d s) {p : Int} (hp : inR d p) (hn : ¬ Zd4 d s p) (input : List Int) (hi : input.length ≤ 1000) (wi : Znl input) (wv : Znl s.vals) :
  Ze8 d input s p = some (ZdF d input s p) := by
 have g := Zfg hc
 have sh := sd.short
 obtain ⟨f1, f2⟩ := ZkM d sh hc p
 have g1 := g.p1; have g2 := g.pl
 have hw := r.rng p hp
 have hle := Ztf g p
 have hlt : wk s p < Zda d.parts p := by unfold Zd4 at hn; omega
 have hlw : s.work.length ≤ 1000 := by rw [r.o.w]; omega
 have hlv : s.vals.length ≤ 1000 := by rw [r.o.v]; omega
 obtain ⟨x, q1, q2, _⟩ := Zgp hp
 have hx : Zm1 d p = x := by unfold Zm1; rw [q2]
 have ha := g.arg x (List.mem_of_getElem? q2)
 unfold Ze8 ZdF Zl6
 rw [ZiM (show List.length s.work ≤ 1073741824 by omega), ZiM (show List.length s.vals ≤ 1073741824 by omega), Zkq r.o hp]
 simp only [Option.bind_some, cond_true]
 rw [Zcd (n := wk s p + 1) (by omega) (by omega)]
 have m : Zx0 d (more s p) := ⟨r.o.more p, fun q hq => by
  rw [Zxz input]
  by_cases e : q = p
  ·subst e; rw [ZfJ r.o input hp]; omega
  ·rw [Zdf input hp hq e]; exact (r.rng q hq).2⟩
 have hd := Zkk m hp
 unfold more at hd
 rw [hd]
 simp only [Option.bind_some]
 show (bif Za6 d (more s p) p then _ else _) = some (Zn.mk (s.work.set p.toNat (wk s p + 1)) (bif Za6 d (more s p) p then _ else _))
 cases Za6 d (more s p) p with
 | false => rfl
 | true =>
  have fl := Zkb g f2
  have ef : ZeC d p = some (ZdU d p) := Zuv d (by have := sd.e; omega) (by have := sd.f; omega) g.g p f2
  simp only [cond_true]
  rw [ef]
  simp only [Option.bind_some]
  rw [ZpG s (ZdU d p) fl (fun y hy => ZqQ r.o (Zo2 g f2 hy)) (Zft s (ZdU d p)) (fun t => rfl)]
  simp only [Option.bind_some]
  rw [q1]
  simp only [Option.bind_some]
  rw [Zub x input _ hi (by rw [List.length_map]; exact fl) (by omega) wi (fun y hy => by
   obtain ⟨z, _, rfl⟩ := List.mem_map.1 hy
   exact Zw6 wv z), ZqQ r.o hp]
  simp only [Option.bind_some]
  rw [hx]
theorem Zno (s t : Zn) (h1 : s.work.length < 9223372036854775808) (h2 : s.vals.length < 9223372036854775808) : Ze9 s t = some (decide (s.work = t.work) && decide (s.vals = t.vals)) := by
 unfold Ze9
 simp only [Zmk _ _ h1, Zmk _ _ h2, Option.bind_some]
 cases decide (s.work = t.work) <;> cases decide (s.vals = t.vals) <;> rfl
end Go.Proofs.YtnmbdjkbaihicaaDoor
namespace Go.Proofs.YtnmbdjkbaihicaaDoor
open Go Go.Proofs.YtnmbdjkbaihicaaDoorE
set_option linter.unusedVariables false
set_option linter.unusedSimpArgs false
theorem Runs.words {d : Zh} {input : List Int} {s : Zn} (h : Runs d input s) : Znl s.vals := by
 induction h with
 | new =>
  intro x hx
  unfold Zjy at hx
  obtain ⟨_, rfl⟩ := List.mem_replicate.1 hx
  omega
 | step _ _ _ ih => exact Zsw ih input _
theorem ZsW {d : Zh} (hl : d.parts.length ≤ 1000) : ZfE d = some (Zjy d) := by
 unfold ZfE Zjy
 rw [decide_eq_true (show (0 : Int) ≤ (d.parts.length : Int) by omega), decide_eq_true (show (d.parts.length : Int) ≤ lim by unfold lim; omega)]
 simp
theorem ZuC {d : Zh} {s : Zn} (g : Zcq d) (r : ZgJ d s) : lp (Zdv d (s.work, s.vals)) 0 = some (bif ZfB d s then .inr () else .inl ()) := by
 have hl : d.parts.length < 9223372036854775808 := by have := g.pl; omega
 have := Zco d.parts (Zdv d (s.work, s.vals)) (fun i _ => !Za6 d s (i : Int)) (fun _ _ => .inl ()) (.inr ()) (fun i x hi hx => by
  have hd : ZcG d (Zn.mk s.work s.vals) (i : Int) = some (Za6 d s (i : Int)) := Zkk r.most (Zhm hi)
  simp only [Zdv, ZdC hi, Option.bind_some, ZK hi hl, cond_true, hd]
  cases Za6 d s (i : Int) <;> rfl) (by simp only [Zdv, ZdB]; rfl)
 rw [this, ZaU]
 unfold ZfB
 cases Zfo (fun i (_ : ZG) => !Za6 d s (i : Int)) 0 d.parts <;> rfl
theorem ZtU {d : Zh} (hc : Zb4 d = 0) (sd : ZjV d) (input : List Int) (hi : input.length ≤ 1000) (wi : Znl input) : ∃ t, Runs d input t ∧ Zk9 d t ∧ ZeU d input = some (bif ZfB d t then (t.vals, 0) else ([], 94)) := by
 have g := Zfg hc
 have sh := sd.short
 have key : ∀ (n : Nat) (s : Zn), left d s ≤ n → Runs d input s → ∃ t, Runs d input t ∧ Zk9 d t ∧ lp (Zdx d input) (s.work, s.vals) = some (t.work, t.vals) := by
  intro n
  induction n with
  | zero =>
   intro s hn hr
   have R := hr.right g
   have em : ZeO d (Zn.mk s.work s.vals) = some (ZeJ d s) := Ztx sd g R
   have hm : ZeJ d s = [] := by
    cases h : ZeJ d s with
    | nil => rfl
    | cons p l =>
     obtain ⟨h1, h2⟩ := Zqm g (show p ∈ ZeJ d s by rw [h]; simp)
     have := ZkB R input h1 h2
     omega
   refine ⟨s, hr, (ZnT g).1 hm, ?_⟩
   rw [Zba]
   simp only [Zdx, em, Option.bind_some, hm]
   rfl
  | succ n ih =>
   intro s hn hr
   have R := hr.right g
   have em : ZeO d (Zn.mk s.work s.vals) = some (ZeJ d s) := Ztx sd g R
   by_cases h : ZeJ d s = []
   ·refine ⟨s, hr, (ZnT g).1 h, ?_⟩
    rw [Zba]
    simp only [Zdx, em, Option.bind_some, h]
    rfl
   ·have hlen : 0 < (ZeJ d s).length := List.length_pos_iff.2 h
    have hpl := Zha (fun i => Zlh d s (i : Int)) d.parts.length
    have hp16 := g.pl
    have hml : (ZeJ d s).length ≤ 16 := by unfold ZeJ; omega
    have hj : (ZeJ d s).length - 1 < (ZeJ d s).length := by omega
    have ej : w64 (((ZeJ d s).length : Int) - 1) = (((ZeJ d s).length - 1 : Nat) : Int) := by rw [Zcd (by omega) (by omega)]; omega
    have eg : ZA (ZeJ d s) (w64 (((ZeJ d s).length : Int) - 1)) = some (ZeJ d s)[(ZeJ d s).length - 1] := by rw [ej]; exact Z6 (List.getElem?_eq_getElem hj)
    obtain ⟨h1, h2⟩ := Zqm g (List.getElem_mem hj)
    have hl := ZkB R input h1 h2
    have hr' := Runs.step (input := input) hr h1 h2
    obtain ⟨t, t1, t2, t3⟩ := ih (ZdF d input s (ZeJ d s)[(ZeJ d s).length - 1]) (by omega) hr'
    have es : Ze8 d input (Zn.mk s.work s.vals) (ZeJ d s)[(ZeJ d s).length - 1] = some (ZdF d input s (ZeJ d s)[(ZeJ d s).length - 1]) := ZvT hc sd R h1 h2.1 input hi wi hr.words
    refine ⟨t, t1, t2, ?_⟩
    have z : (((ZeJ d s).length : Int) == 0) = false := by rw [beq_eq_false_iff_ne]; omega
    rw [Zba]
    simp only [Zdx, em, Option.bind_some, z, cond_false, eg, es]
    exact t3
 obtain ⟨t, t1, t2, t3⟩ := key (left d (Zjy d)) (Zjy d) (Nat.le_refl _) .new
 refine ⟨t, t1, t2, ?_⟩
 unfold ZeU
 rw [Zne d sh, hc, ZsW (by have := g.pl; omega)]
 simp only [Option.bind_some, bne_self_eq_false, cond_false]
 rw [t3]
 simp only [Option.bind_some]
 rw [ZuC g (t1.right g)]
 cases ZfB d t <;> rfl
end Go.Proofs.YtnmbdjkbaihicaaDoor
namespace Go.Proofs.YtnmbdjkbaihicaaDoor
open Go Go.Proofs.YtnmbdjkbaihicaaDoorE
set_option linter.unusedVariables false
set_option linter.unusedSimpArgs false
theorem Zf8 : ∀ r, Zfj = some r → evD ctx 22 [] = some (D.bool r) := fun r h => by
  cases h
  exact ZyW 100 (by kernel_rfl)
def Zlb (r : Bool) : D := (D.bool r)
def ZiK (t0 : Bool) (t1 : Bool) (t2 : Bool) (t3 : Bool) (a : Zh) : (Unit ⊕ Unit) → Ex × List V × Zm
  | (.inl r) => (.ret, [(.ptr 0 0), (.d (D.bool false))], [(.cells (dV t0 t1 t2 t3 a))])
  | (.inr r) => (.exit 0, [(.ptr 0 0), .bad], [(.cells (dV t0 t1 t2 t3 a))])
theorem ZlT {t0 : Bool} {t1 : Bool} {t2 : Bool} {t3 : Bool} {a : Zh} : ∀ (s0 : Int) (r : (Unit ⊕ Unit)), lp (Zeb a) s0 = some r → lpW ctx 0 [1, 3] [1, 2] ZuO [(.ptr 0 0), (.d (Zb s0))] [(.cells (dV t0 t1 t2 t3 a))] = some ((ZiK t0 t1 t2 t3 a) r) := by
 refine Zai (ZiK t0 t1 t2 t3 a) ?_
 intro s0 rcl ih
 show ZE _ _ (lpW _ _ _ _ _ _ _)
 unfold Zeb
 rw [Zah]
 conv => arg 3; whnf
 refine Zl (ZB _ _) ?_
 conv => arg 3; whnf
 refine Zd rfl ?_ ?_
 ·conv => arg 3; whnf
  refine Zd rfl ?_ ?_
  ·conv => arg 3; whnf
   refine Zk rfl rfl fun x1 hx1 => ?_
   conv => arg 3; whnf
   refine Zl (ZB _ _) ?_
   conv => arg 3; whnf
   refine Zd rfl ?_ ?_
   ·conv => arg 3; whnf
    exact Zc rfl
   ·conv => arg 3; whnf
    refine Zg (ZaL rfl hx1) ?_
    conv => arg 3; whnf
    refine Zl (ZB _ _) ?_
    conv => arg 3; whnf
    refine Zd rfl ?_ ?_
    ·conv => arg 3; whnf
     exact Zc rfl
    ·conv => arg 3; whnf
     exact Ze (ih _)
  ·conv => arg 3; whnf
   exact Zc rfl
 ·conv => arg 3; whnf
  exact Zc rfl
theorem ZoW {t0 : Bool} {t1 : Bool} {t2 : Bool} {t3 : Bool} {a : Zh} : ∀ r, (Zgw a) = some r → evD ctx 40 [(.d (D.agg (dA t0 t1 t2 t3 a)))] = some (Zlb r) := by
 show ZE _ (fun r rhs => rhs = some (Zlb r)) _
 unfold Zgw
 rw [Zaq ctx 40 ZyF _ rfl rfl]
 conv => arg 3; whnf
 refine Zf _ (ZlT _) fun r2 hr2 => ?_
 clear hr2
 rcases r2 with r2 | r2
 ·conv => arg 3; whnf
  exact Zc rfl
 ·conv => arg 3; whnf
  refine Zl (ZB _ _) ?_
  conv => arg 3; whnf
  refine Zd rfl ?_ ?_
  ·conv => arg 3; whnf
   refine Zl (ZB _ _) ?_
   conv => arg 3; whnf
   refine Zd rfl ?_ ?_
   ·conv => arg 3; whnf
    refine Zl (ZB _ _) ?_
    conv => arg 3; whnf
    refine Zd rfl ?_ ?_
    ·conv => arg 3; whnf
     refine Zl (ZB _ _) ?_
     conv => arg 3; whnf
     refine Zd rfl ?_ ?_
     ·conv => arg 3; whnf
      exact Zc rfl
     ·conv => arg 3; whnf
      exact Zc rfl
    ·conv => arg 3; whnf
     exact Zc rfl
   ·conv => arg 3; whnf
    exact Zc rfl
  ·conv => arg 3; whnf
   exact Zc rfl
def Zk4 (r : Bool) : D := (D.bool r)
theorem Zpe {t0 : Bool} {t1 : Bool} {t2 : Bool} {t3 : Bool} {t4 : Bool} {t5 : Bool} {t6 : Bool} {a : Zh} {b : (List Int)} {c : Zn} : ∀ r, (Zgk a b c) = some r → evD ctx 23 [(.d (D.agg (dA t0 t1 t2 t3 a))), (.d (D.list t4 (List.map Zb b))), (.d (D.agg [(D.list t5 (List.map Zb c.work)), (D.list t6 (List.map Zb c.vals))]))] = some (Zk4 r) := by
 show ZE _ (fun r rhs => rhs = some (Zk4 r)) _
 unfold Zgk
 rw [Zaq ctx 23 Zzq _ rfl rfl]
 conv => arg 3; whnf
 refine Zi _ ZoW rfl fun x0 hx0 => ?_
 conv => arg 3; whnf
 refine Zd rfl ?_ ?_
 ·conv => arg 3; whnf
  refine Zl (ZB _ _) ?_
  conv => arg 3; whnf
  refine Zd rfl ?_ ?_
  ·conv => arg 3; whnf
   refine Zl (ZB _ _) ?_
   conv => arg 3; whnf
   refine Zd rfl ?_ ?_
   ·conv => arg 3; whnf
    refine Zl (ZB _ _) ?_
    conv => arg 3; whnf
    refine Zd rfl ?_ ?_
    ·conv => arg 3; whnf
     exact Zc rfl
    ·conv => arg 3; whnf
     exact Zc rfl
   ·conv => arg 3; whnf
    exact Zc rfl
  ·conv => arg 3; whnf
   exact Zc rfl
 ·conv => arg 3; whnf
  exact Zc rfl
def Zk1 (t0 : Bool) (t1 : Bool) (t2 : Bool) (t3 : Bool) (a : Zh) : (List Zo) → V × Zm
  | r => ((.agg [(.d (Zb a.period)), (.d (Zb a.deadline)), (.sl 0 3), (.sl 1 2), (.sl 2 3), (.sl 3 2)]), [(.arr 3 (List.map ZW a.parts)), (.arr 2 (List.map ZT a.edges)), (.arr 3 (List.map Zx a.futures)), (.arr 2 (List.map Zt r))])
def ZiF (t0 : Bool) (t1 : Bool) (t2 : Bool) (t3 : Bool) (a : Zh) : (List Zo) → Ex × List V × Zm
  | r => (.exit 0, [(.ptr 0 0), (.ptr 1 0)], [(.cells [(.d (Zb 0)), (.d (Zb 0)), (.sl 2 3), (.sl 3 2), (.sl 4 3), (.sl 5 2)]), (.cells [(.d (Zb a.period)), (.d (Zb a.deadline)), (.sl 6 3), (.sl 7 2), (.sl 8 3), (.sl 9 2)]), (.arr 3 []), (.arr 2 []), (.arr 3 []), (.arr 2 []), (.arr 3 (List.map ZW a.parts)), (.arr 2 (List.map ZT a.edges)), (.arr 3 (List.map Zx a.futures)), (.arr 2 (List.map Zt r))])
theorem Zma {t0 : Bool} {t1 : Bool} {t2 : Bool} {t3 : Bool} {a : Zh} : ∀ (s0 : Int × (List Zo)) (r : (List Zo)), lp (Zdu a) s0 = some r → lpW ctx 0 [1, 2, 3, 4] [2, 3] Zwm [(.ptr 0 0), (.ptr 1 0), (.ptr 2 0), (.d (Zb s0.1))] [(.cells (dV t0 t1 t2 t3 a)), (.cells [(.d (Zb 0)), (.d (Zb 0)), (.sl 3 3), (.sl 4 2), (.sl 5 3), (.sl 6 2)]), (.cells [(.d (Zb a.period)), (.d (Zb a.deadline)), (.sl 7 3), (.sl 8 2), (.sl 9 3), (.sl 10 2)]), (.arr 3 []), (.arr 2 []), (.arr 3 []), (.arr 2 []), (.arr 3 (List.map ZW a.parts)), (.arr 2 (List.map ZT a.edges)), (.arr 3 (List.map Zx a.futures)), (.arr 2 (List.map Zt s0.2))] = some ((ZiF t0 t1 t2 t3 a) r) := by
 refine Zai (ZiF t0 t1 t2 t3 a) ?_
 intro s0 rcl ih
 show ZE _ _ (lpW _ _ _ _ _ _ _)
 unfold Zdu
 rw [Zah]
 conv => arg 3; whnf
 refine Zl (ZB _ _) ?_
 conv => arg 3; whnf
 refine Zd rfl ?_ ?_
 ·conv => arg 3; whnf
  refine Zk rfl rfl fun x1 hx1 => ?_
  conv => arg 3; whnf
  refine ZbP (Zfp (f := Zb) (fun _ => ⟨rfl, rfl⟩) x1.ins 0) ?_
  conv => arg 3; whnf
  refine Zd (ZfQ Zb x1.ins) ?_ ?_
  ·conv => arg 3; whnf
   refine Zl (rfl : _ = List.map Zb x1.ins) ?_
   conv => arg 3; whnf
   refine Zg (ZaL rfl hx1) ?_
   conv => arg 3; whnf
   refine ZbP (Zfp (f := Zb) (fun _ => ⟨rfl, rfl⟩) x1.outs 0) ?_
   conv => arg 3; whnf
   refine Zd (ZfQ Zb x1.outs) ?_ ?_
   ·conv => arg 3; whnf
    refine Zl (rfl : _ = List.map Zb x1.outs) ?_
    conv => arg 3; whnf
    refine ZbP rfl ?_
    conv => arg 3; whnf
    refine Zd (Zfv Zt s0.2 1) ?_ ?_
    ·conv => arg 3; whnf
     refine Zl (Ze6 Zt s0.2 [x1]) ?_
     conv => arg 3; whnf
     exact Ze (ih _)
    ·exact Z0
   ·exact Z0
  ·exact Z0
 ·conv => arg 3; whnf
  exact Zc rfl
theorem Zj9 {t0 : Bool} {t1 : Bool} {t2 : Bool} {t3 : Bool} {a : Zh} : ∀ r, (ZfD a) = some r → evW ctx 15 [(.d (D.agg (dA t0 t1 t2 t3 a)))] [] = some ((Zk1 t0 t1 t2 t3 a) r) := by
 show ZE _ (fun r rhs => rhs = some ((Zk1 t0 t1 t2 t3 a) r)) _
 unfold ZfD
 rw [Zf1 ctx 15 ZyH _ _ rfl rfl]
 conv => arg 3; whnf
 refine ZbP (Zfp (f := ZW) (fun _ => ⟨rfl, rfl⟩) a.parts 0) ?_
 conv => arg 3; whnf
 refine Zd (ZfQ ZW a.parts) ?_ ?_
 ·conv => arg 3; whnf
  refine Zl (rfl : _ = List.map ZW a.parts) ?_
  conv => arg 3; whnf
  refine ZbP (Zfp (f := ZT) (fun _ => ⟨rfl, rfl⟩) a.edges 0) ?_
  conv => arg 3; whnf
  refine Zd (ZfQ ZT a.edges) ?_ ?_
  ·conv => arg 3; whnf
   refine Zl (rfl : _ = List.map ZT a.edges) ?_
   conv => arg 3; whnf
   refine ZbP (Zfp (f := Zx) (fun _ => ⟨rfl, rfl⟩) a.futures 0) ?_
   conv => arg 3; whnf
   refine Zd (ZfQ Zx a.futures) ?_ ?_
   ·conv => arg 3; whnf
    refine Zl (rfl : _ = List.map Zx a.futures) ?_
    conv => arg 3; whnf
    refine Zf _ (Zma _) fun r2 hr2 => ?_
    conv => arg 3; whnf
    exact Zc rfl
   ·exact Z0
  ·exact Z0
 ·exact Z0
def Zjn (r : Bool) : D := (D.bool r)
theorem ZbG {a : Int} {b : Int} {c : Int} : ∀ r, (Zbi a b c) = some r → evD ctx 82 [(.d (Zb a)), (.d (Zb b)), (.d (Zb c))] = some (Zjn r) := by
 show ZE _ (fun r rhs => rhs = some (Zjn r)) _
 unfold Zbi
 rw [Zaq ctx 82 ZzO _ rfl rfl]
 conv => arg 3; whnf
 refine Zd rfl ?_ ?_
 ·conv => arg 3; whnf
  refine Zd rfl ?_ ?_
  ·conv => arg 3; whnf
   exact Zc rfl
  ·conv => arg 3; whnf
   exact Zc rfl
 ·conv => arg 3; whnf
  exact Zc rfl
def Zlg (r : Int) : D := (Zb r)
theorem Zob {a : Int} : ∀ r, (Zgo a) = some r → evD ctx 109 [(.d (Zb a))] = some (Zlg r) := by
 show ZE _ (fun r rhs => rhs = some (Zlg r)) _
 unfold Zgo
 rw [Zaq ctx 109 Zwe _ rfl rfl]
 conv => arg 3; whnf
 refine Zd rfl ?_ ?_
 ·conv => arg 3; whnf
  exact Zc rfl
 ·conv => arg 3; whnf
  refine Zd rfl ?_ ?_
  ·conv => arg 3; whnf
   exact Zc rfl
  ·conv => arg 3; whnf
   exact Zc rfl
def Zfc (r : Int) : D := (Zb r)
theorem Zhd {a : Int} : ∀ r, (Zb9 a) = some r → evD ctx 121 [(.d (D.int .u64 a))] = some (Zfc r) := by
 show ZE _ (fun r rhs => rhs = some (Zfc r)) _
 unfold Zb9
 rw [Zaq ctx 121 Zvb _ rfl rfl]
 conv => arg 3; whnf
 refine Zaa rfl ?_
 conv => arg 3; whnf
 refine Zaa rfl ?_
 conv => arg 3; whnf
 refine Zaa rfl ?_
 conv => arg 3; whnf
 refine Zaa rfl ?_
 conv => arg 3; whnf
 refine Zaa rfl ?_
 conv => arg 3; whnf
 refine Zaa rfl ?_
 conv => arg 3; whnf
 exact Zc rfl
def ZfH (r : Int) : D := (Zb r)
theorem Zh2 {a : Int} : ∀ r, (Zcr a) = some r → evD ctx 110 [(.d (D.int .u64 a))] = some (ZfH r) := by
 show ZE _ (fun r rhs => rhs = some (ZfH r)) _
 unfold Zcr
 rw [Zaq ctx 110 Zvp _ rfl rfl]
 conv => arg 3; whnf
 refine Zi _ Zhd rfl fun x0 hx0 => ?_
 conv => arg 3; whnf
 exact Zc rfl
theorem ZAW (n : Int) : 0 ≤ IntKind.u64.wrap n ∧ IntKind.u64.wrap n < 18446744073709551616 := by
  have : IntKind.u64.wrap n = n % 18446744073709551616 := by
    show (if (false && decide (n % 18446744073709551616 ≥ 9223372036854775808)) = true then n % 18446744073709551616 - 18446744073709551616 else n % 18446744073709551616) = _
    simp
  rw [this]
  omega
theorem ZA6 (n : Int) : ∃ j : Nat, j < 64 ∧ (IntKind.u64.wrap n).fdiv (2 ^ (min (Int.toNat 58) IntKind.u64.bits)) = (j : Int) := by
  obtain ⟨h1, h2⟩ := ZAW n
  have e : (2 : Int) ^ (min (Int.toNat 58) IntKind.u64.bits) = 288230376151711744 := by decide
  rw [e, Int.fdiv_eq_ediv_of_nonneg _ (by omega)]
  refine ⟨((IntKind.u64.wrap n) / 288230376151711744).toNat, ?_, ?_⟩ <;> omega
theorem ZA9 : ∀ j : Nat, j < 64 → Zc4 [] 1 false (.d (.rptr (Zvx.drop (j * 1)))) = some (.d (.int .u8 (ZqE.getD j 0))) := by
  have key : ((List.range 64).all fun j => match Zc4 [] 1 false (.d (.rptr (Zvx.drop (j * 1)))) with | some (.d (.int .u8 z)) => z == ZqE.getD j 0 | _ => false) = true := by rfl
  intro j hj
  have := List.all_eq_true.1 key j (by simpa using hj)
  split at this
  · rename_i z hz
    rw [hz, eq_of_beq this]
  · cases this
def Zgh (r : Int) : D := Zb r
theorem Zgb (a : Int) : ∀ r, Zc9 a = some r → evD ctx 123 [.d (.int .u64 a)] = some (Zgh r) := by
  intro r hr
  unfold Zc9 at hr
  have hr := Option.some.inj hr
  subst hr
  rw [Zaq ctx 123 Zww _ rfl rfl]
  by_cases h : (a == 0) = true
  · conv => lhs; whnf
    rw [h, Zxn]
    rfl
  · replace h : (a == 0) = false := by simpa using h
    obtain ⟨j, hj, e⟩ := ZA6 (IntKind.u64.wrap ((BitVec.ofInt IntKind.u64.bits a &&& BitVec.ofInt IntKind.u64.bits (IntKind.u64.wrap (0 - a))).toNat : Int) * 285870213051353865)
    conv => lhs; whnf
    rw [h, Zxm]
    conv => lhs; whnf
    refine (Zz3 (by rfl)).trans ?_
    conv => lhs; whnf
    rw [e]
    refine (ZAy (by simp; omega)).trans ?_
    conv => lhs; whnf
    erw [ZA9 j hj]
    rfl
def ZeN (r : Int) : D := (Zb r)
theorem ZgK {a : Int} : ∀ r, (Zcp a) = some r → evD ctx 111 [(.d (D.int .u64 a))] = some (ZeN r) := by
 show ZE _ (fun r rhs => rhs = some (ZeN r)) _
 unfold Zcp
 rw [Zaq ctx 111 ZvW _ rfl rfl]
 conv => arg 3; whnf
 refine Zi _ (Zgb _) rfl fun x0 hx0 => ?_
 conv => arg 3; whnf
 exact Zc rfl
def ZnA (r : (Int × Bool)) : D := (D.tup [(Zb r.1), (D.bool r.2)])
theorem ZqJ {a : Int} : ∀ r, (Zit a) = some r → evD ctx 83 [(.d (Zb a))] = some (ZnA r) := by
 show ZE _ (fun r rhs => rhs = some (ZnA r)) _
 unfold Zit
 rw [Zaq ctx 83 Zzd _ rfl rfl]
 conv => arg 3; whnf
 refine Zi _ Zob rfl fun x0 hx0 => ?_
 conv => arg 3; whnf
 refine Zd rfl ?_ ?_
 ·conv => arg 3; whnf
  exact Zc rfl
 ·conv => arg 3; whnf
  refine Zi _ Zh2 rfl fun x1 hx1 => ?_
  conv => arg 3; whnf
  refine Zd rfl ?_ ?_
  ·conv => arg 3; whnf
   exact Zc rfl
  ·conv => arg 3; whnf
   refine Zi _ ZgK rfl fun x2 hx2 => ?_
   conv => arg 3; whnf
   exact Zc rfl
def ZkY (r : Bool) : D := (D.bool r)
theorem Zpr {a : ZG} : ∀ r, (Zek a) = some r → evD ctx 85 [(.d (D.agg [(Zb a.op), (Zb a.arg), (Zb a.work)]))] = some (ZkY r) := by
 show ZE _ (fun r rhs => rhs = some (ZkY r)) _
 unfold Zek
 rw [Zaq ctx 85 Zzn _ rfl rfl]
 conv => arg 3; whnf
 refine Zi _ ZbG rfl fun x0 hx0 => ?_
 conv => arg 3; whnf
 refine Zd rfl ?_ ?_
 ·conv => arg 3; whnf
  refine Zi _ ZbG rfl fun x1 hx1 => ?_
  conv => arg 3; whnf
  refine Zd rfl ?_ ?_
  ·conv => arg 3; whnf
   refine Zi _ ZbG rfl fun x2 hx2 => ?_
   conv => arg 3; whnf
   refine Zd rfl ?_ ?_
   ·conv => arg 3; whnf
    exact Zc rfl
   ·conv => arg 3; whnf
    exact Zc rfl
  ·conv => arg 3; whnf
   exact Zc rfl
 ·conv => arg 3; whnf
  exact Zc rfl
def Zce (r : Int) : D := (Zb r)
def ZbX (t0 : Bool) (a : (List ZG)) : (Int ⊕ Unit) → Ex × List V × Zm
  | (.inl r) => (.ret, [(.d (Zb r))], [])
  | (.inr r) => (.exit 0, [.bad], [])
theorem ZdR {t0 : Bool} {a : (List ZG)} : ∀ (s0 : Int) (r : (Int ⊕ Unit)), lp (ZaK a (fun z0 => Zek z0)) s0 = some r → lpW ctx 0 [0, 1, 7, 8] [4] Zs7 [(.d (D.list t0 (List.map ZW a))), (.d (D.fn 85 [])), (.d (Zb (a.length : Int))), (.d (Zb s0))] [] = some ((ZbX t0 a) r) := by
 refine Zai (ZbX t0 a) ?_
 intro s0 rcl ih
 show ZE _ _ (lpW _ _ _ _ _ _ _)
 unfold ZaK
 rw [Zah]
 conv => arg 3; whnf
 refine Zd rfl ?_ ?_
 ·conv => arg 3; whnf
  refine Zk rfl rfl fun x1 hx1 => ?_
  conv => arg 3; whnf
  refine Zi _ Zpr rfl fun x2 hx2 => ?_
  conv => arg 3; whnf
  refine Zd rfl ?_ ?_
  ·conv => arg 3; whnf
   exact Zc rfl
  ·conv => arg 3; whnf
   exact Ze (ih _)
 ·conv => arg 3; whnf
  exact Zc rfl
theorem Zd9 {t0 : Bool} {a : (List ZG)} : ∀ r, (ZbH a (fun z0 => Zek z0)) = some r → evD ctx 112 [(.d (D.list t0 (List.map ZW a))), (.d (D.fn 85 []))] = some (Zce r) := by
 show ZE _ (fun r rhs => rhs = some (Zce r)) _
 unfold ZbH
 rw [Zaq ctx 112 Zvg _ rfl rfl]
 conv => arg 3; whnf
 refine Zl (ZB _ _) ?_
 conv => arg 3; whnf
 refine Zf _ (ZdR _) fun r3 hr3 => ?_
 clear hr3
 rcases r3 with r3 | r3
 ·conv => arg 3; whnf
  exact Zc rfl
 ·conv => arg 3; whnf
  exact Zc rfl
def ZbT (r : Bool) : D := (D.bool r)
theorem ZdV {t0 : Bool} {a : (List ZG)} : ∀ r, (ZaJ a (fun z0 => Zek z0)) = some r → evD ctx 84 [(.d (D.list t0 (List.map ZW a))), (.d (D.fn 85 []))] = some (ZbT r) := by
 show ZE _ (fun r rhs => rhs = some (ZbT r)) _
 unfold ZaJ
 rw [Zaq ctx 84 ZyD _ rfl rfl]
 conv => arg 3; whnf
 refine Zi _ Zd9 rfl fun x0 hx0 => ?_
 conv => arg 3; whnf
 refine Zd rfl ?_ ?_
 ·conv => arg 3; whnf
  exact Zc rfl
 ·conv => arg 3; whnf
  exact Zc rfl
def Zl4 (r : Bool) : D := (D.bool r)
theorem Zla {t0 : Bool} {t1 : Bool} {t2 : Bool} {t3 : Bool} {a : Zh} {b : Int} {c : Int} : ∀ r, (Zf5 a b c) = some r → evD ctx 86 [(.d (D.agg (dA t0 t1 t2 t3 a))), (.d (Zb b)), (.d (Zb c))] = some (Zl4 r) := by
 show ZE _ (fun r rhs => rhs = some (Zl4 r)) _
 unfold Zf5
 rw [Zaq ctx 86 Zys _ rfl rfl]
 conv => arg 3; whnf
 refine Zd rfl ?_ ?_
 ·conv => arg 3; whnf
  refine Zl (ZB _ _) ?_
  conv => arg 3; whnf
  refine Zi _ ZbG rfl fun x0 hx0 => ?_
  conv => arg 3; whnf
  refine Zd rfl ?_ ?_
  ·conv => arg 3; whnf
   refine Zl (ZB _ _) ?_
   conv => arg 3; whnf
   refine Zi _ ZbG rfl fun x1 hx1 => ?_
   conv => arg 3; whnf
   refine Zd rfl ?_ ?_
   ·conv => arg 3; whnf
    exact Zc rfl
   ·conv => arg 3; whnf
    exact Zc rfl
  ·conv => arg 3; whnf
   exact Zc rfl
 ·conv => arg 3; whnf
  exact Zc rfl
def Zeu (r : Int) : D := (Zb r)
def Zd2 (t0 : Bool) (a : (List ZM)) (b : ZM) : (Int ⊕ Unit) → Ex × List V × Zm
  | (.inl r) => (.ret, [(.d (Zb r))], [])
  | (.inr r) => (.exit 0, [.bad], [])
theorem ZfM {t0 : Bool} {a : (List ZM)} {b : ZM} : ∀ (s0 : Int) (r : (Int ⊕ Unit)), lp (Za5 a b) s0 = some r → lpW ctx 0 [0, 3, 7, 8] [4] ZtF [(.d (D.list t0 (List.map ZT a))), (.ptr 0 0), (.d (Zb (a.length : Int))), (.d (Zb s0))] [(.cells [(.d (Zb b.src)), (.d (Zb b.dst))])] = some ((Zd2 t0 a b) r) := by
 refine Zai (Zd2 t0 a b) ?_
 intro s0 rcl ih
 show ZE _ _ (lpW _ _ _ _ _ _ _)
 unfold Za5
 rw [Zah]
 conv => arg 3; whnf
 refine Zd rfl ?_ ?_
 ·conv => arg 3; whnf
  refine Zk rfl rfl fun x1 hx1 => ?_
  conv => arg 3; whnf
  refine Zd rfl ?_ ?_
  ·conv => arg 3; whnf
   exact Zc rfl
  ·conv => arg 3; whnf
   exact Ze (ih _)
 ·conv => arg 3; whnf
  exact Zc rfl
theorem Zgs {t0 : Bool} {a : (List ZM)} {b : ZM} : ∀ r, (Zci a b) = some r → evD ctx 113 [(.d (D.list t0 (List.map ZT a))), (.d (D.agg [(Zb b.src), (Zb b.dst)]))] = some (Zeu r) := by
 show ZE _ (fun r rhs => rhs = some (Zeu r)) _
 unfold Zci
 rw [Zaq ctx 113 ZuM _ rfl rfl]
 conv => arg 3; whnf
 refine Zl (ZB _ _) ?_
 conv => arg 3; whnf
 refine Zf _ (ZfM _) fun r2 hr2 => ?_
 clear hr2
 rcases r2 with r2 | r2
 ·conv => arg 3; whnf
  exact Zc rfl
 ·conv => arg 3; whnf
  exact Zc rfl
def Zd1 (r : Bool) : D := (D.bool r)
theorem ZfS {t0 : Bool} {a : (List ZM)} {b : ZM} : ∀ r, (Za4 a b) = some r → evD ctx 87 [(.d (D.list t0 (List.map ZT a))), (.d (D.agg [(Zb b.src), (Zb b.dst)]))] = some (Zd1 r) := by
 show ZE _ (fun r rhs => rhs = some (Zd1 r)) _
 unfold Za4
 rw [Zaq ctx 87 ZzG _ rfl rfl]
 conv => arg 3; whnf
 refine Zi _ Zgs rfl fun x0 hx0 => ?_
 conv => arg 3; whnf
 refine Zd rfl ?_ ?_
 ·conv => arg 3; whnf
  exact Zc rfl
 ·conv => arg 3; whnf
  exact Zc rfl
def Zid (r : Bool) : D := (D.bool r)
theorem ZlV {a : Zs} {b0 : Int} {b1 : Int} {b2 : Int} : ∀ r, (ZcK a b1 b2) = some r → evD ctx 88 [(.d (D.agg [(Zb a.maker), (Zb a.user), (Zb a.pos)])), (.d (D.rptr [(Zb b0), (Zb b1), (Zb b2)]))] = some (Zid r) := by
 show ZE _ (fun r rhs => rhs = some (Zid r)) _
 unfold ZcK
 rw [Zaq ctx 88 ZzN _ rfl rfl]
 conv => arg 3; whnf
 refine Zd rfl ?_ ?_
 ·conv => arg 3; whnf
  refine Zd rfl ?_ ?_
  ·conv => arg 3; whnf
   exact Zc rfl
  ·conv => arg 3; whnf
   exact Zc rfl
 ·conv => arg 3; whnf
  exact Zc rfl
def Zby (r : Int) : D := (Zb r)
def Zbk (t0 : Bool) (a : (List Zs)) (b0 : Int) (b1 : Int) (b2 : Int) : (Int ⊕ Unit) → Ex × List V × Zm
  | (.inl r) => (.ret, [(.d (Zb r))], [])
  | (.inr r) => (.exit 0, [.bad], [])
theorem Zc1 {t0 : Bool} {a : (List Zs)} {b0 : Int} {b1 : Int} {b2 : Int} : ∀ (s0 : Int) (r : (Int ⊕ Unit)), lp (Zat a (fun z0 => ZcK z0 b1 b2)) s0 = some r → lpW ctx 0 [0, 1, 7, 8] [4] Ztl [(.d (D.list t0 (List.map Zx a))), (.d (D.fn 88 [(D.rptr [(Zb b0), (Zb b1), (Zb b2)])])), (.d (Zb (a.length : Int))), (.d (Zb s0))] [] = some ((Zbk t0 a b0 b1 b2) r) := by
 refine Zai (Zbk t0 a b0 b1 b2) ?_
 intro s0 rcl ih
 show ZE _ _ (lpW _ _ _ _ _ _ _)
 unfold Zat
 rw [Zah]
 conv => arg 3; whnf
 refine Zd rfl ?_ ?_
 ·conv => arg 3; whnf
  refine Zk rfl rfl fun x1 hx1 => ?_
  conv => arg 3; whnf
  refine Zi _ ZlV rfl fun x2 hx2 => ?_
  conv => arg 3; whnf
  refine Zd rfl ?_ ?_
  ·conv => arg 3; whnf
   exact Zc rfl
  ·conv => arg 3; whnf
   exact Ze (ih _)
 ·conv => arg 3; whnf
  exact Zc rfl
theorem Zdk {t0 : Bool} {a : (List Zs)} {b0 : Int} {b1 : Int} {b2 : Int} : ∀ r, (Za7 a (fun z0 => ZcK z0 b1 b2)) = some r → evD ctx 114 [(.d (D.list t0 (List.map Zx a))), (.d (D.fn 88 [(D.rptr [(Zb b0), (Zb b1), (Zb b2)])]))] = some (Zby r) := by
 show ZE _ (fun r rhs => rhs = some (Zby r)) _
 unfold Za7
 rw [Zaq ctx 114 ZwO _ rfl rfl]
 conv => arg 3; whnf
 refine Zl (ZB _ _) ?_
 conv => arg 3; whnf
 refine Zf _ (Zc1 _) fun r3 hr3 => ?_
 clear hr3
 rcases r3 with r3 | r3
 ·conv => arg 3; whnf
  exact Zc rfl
 ·conv => arg 3; whnf
  exact Zc rfl
def Zbl (r : Bool) : D := (D.bool r)
theorem ZcY {t0 : Bool} {a : (List Zs)} {b0 : Int} {b1 : Int} {b2 : Int} : ∀ r, (Zas a (fun z0 => ZcK z0 b1 b2)) = some r → evD ctx 89 [(.d (D.list t0 (List.map Zx a))), (.d (D.fn 88 [(D.rptr [(Zb b0), (Zb b1), (Zb b2)])]))] = some (Zbl r) := by
 show ZE _ (fun r rhs => rhs = some (Zbl r)) _
 unfold Zas
 rw [Zaq ctx 89 Zzz _ rfl rfl]
 conv => arg 3; whnf
 refine Zi _ Zdk rfl fun x0 hx0 => ?_
 conv => arg 3; whnf
 refine Zd rfl ?_ ?_
 ·conv => arg 3; whnf
  exact Zc rfl
 ·conv => arg 3; whnf
  exact Zc rfl
def Zmx (r : Bool) : D := (D.bool r)
def Zjq (t0 : Bool) (t1 : Bool) (t2 : Bool) (t3 : Bool) (t4 : Bool) (a : Zh) (b : (List Int)) : (Unit ⊕ Unit) → Ex × List V × Zm
  | (.inl r) => (.ret, [(.d (D.list t4 (List.map Zb b))), (.d (D.bool false))], [])
  | (.inr r) => (.exit 0, [(.d (D.list t4 (List.map Zb b))), .bad], [])
theorem ZmY {t0 : Bool} {t1 : Bool} {t2 : Bool} {t3 : Bool} {t4 : Bool} {a : Zh} {b : (List Int)} : ∀ (s0 : Int) (r : (Unit ⊕ Unit)), lp (ZeG a b) s0 = some r → lpW ctx 0 [1, 2, 7, 8, 9] [1, 4] Zwz [(.d (D.list t4 (List.map Zb b))), (.ptr 0 0), (.d (D.list t4 (List.map Zb b))), (.d (Zb (b.length : Int))), (.d (Zb s0))] [(.cells (dV t0 t1 t2 t3 a))] = some ((Zjq t0 t1 t2 t3 t4 a b) r) := by
 refine Zai (Zjq t0 t1 t2 t3 t4 a b) ?_
 intro s0 rcl ih
 show ZE _ _ (lpW _ _ _ _ _ _ _)
 unfold ZeG
 rw [Zah]
 conv => arg 3; whnf
 refine Zd rfl ?_ ?_
 ·conv => arg 3; whnf
  refine Zk rfl rfl fun x1 hx1 => ?_
  conv => arg 3; whnf
  refine Zl (ZB _ _) ?_
  conv => arg 3; whnf
  refine Zi _ ZbG rfl fun x2 hx2 => ?_
  conv => arg 3; whnf
  refine Zd rfl ?_ ?_
  ·conv => arg 3; whnf
   refine Zd rfl ?_ ?_
   ·conv => arg 3; whnf
    refine Zk rfl rfl fun x3 hx3 => ?_
    conv => arg 3; whnf
    refine Zd rfl ?_ ?_
    ·conv => arg 3; whnf
     exact Zc rfl
    ·conv => arg 3; whnf
     exact Ze (ih _)
   ·conv => arg 3; whnf
    exact Ze (ih _)
  ·conv => arg 3; whnf
   exact Zc rfl
 ·conv => arg 3; whnf
  exact Zc rfl
theorem Zk2 {t0 : Bool} {t1 : Bool} {t2 : Bool} {t3 : Bool} {t4 : Bool} {a : Zh} {b : (List Int)} : ∀ r, (Zf6 a b) = some r → evD ctx 92 [(.d (D.agg (dA t0 t1 t2 t3 a))), (.d (D.list t4 (List.map Zb b)))] = some (Zmx r) := by
 show ZE _ (fun r rhs => rhs = some (Zmx r)) _
 unfold Zf6
 rw [Zaq ctx 92 Zzg _ rfl rfl]
 conv => arg 3; whnf
 refine Zl (ZB _ _) ?_
 conv => arg 3; whnf
 refine Zf _ (ZmY _) fun r4 hr4 => ?_
 clear hr4
 rcases r4 with r4 | r4
 ·conv => arg 3; whnf
  exact Zc rfl
 ·conv => arg 3; whnf
  refine Zl (ZB _ _) ?_
  conv => arg 3; whnf
  refine Zd rfl ?_ ?_
  ·conv => arg 3; whnf
   exact Zc rfl
  ·conv => arg 3; whnf
   exact Zc rfl
def ZeT (r : Int) : D := (Zb r)
def Zej (t0 : Bool) (a : (List Int)) (b : Int) : (Int ⊕ Unit) → Ex × List V × Zm
  | (.inl r) => (.ret, [(.d (Zb r))], [])
  | (.inr r) => (.exit 0, [.bad], [])
theorem Zga {t0 : Bool} {a : (List Int)} {b : Int} : ∀ (s0 : Int) (r : (Int ⊕ Unit)), lp (Zbp a b) s0 = some r → lpW ctx 0 [0, 1, 7, 8] [4] Ztc [(.d (D.list t0 (List.map Zb a))), (.d (Zb b)), (.d (Zb (a.length : Int))), (.d (Zb s0))] [] = some ((Zej t0 a b) r) := by
 refine Zai (Zej t0 a b) ?_
 intro s0 rcl ih
 show ZE _ _ (lpW _ _ _ _ _ _ _)
 unfold Zbp
 rw [Zah]
 conv => arg 3; whnf
 refine Zd rfl ?_ ?_
 ·conv => arg 3; whnf
  refine Zk rfl rfl fun x1 hx1 => ?_
  conv => arg 3; whnf
  refine Zd rfl ?_ ?_
  ·conv => arg 3; whnf
   exact Zc rfl
  ·conv => arg 3; whnf
   exact Ze (ih _)
 ·conv => arg 3; whnf
  exact Zc rfl
theorem Zg0 {t0 : Bool} {a : (List Int)} {b : Int} : ∀ r, (ZcF a b) = some r → evD ctx 115 [(.d (D.list t0 (List.map Zb a))), (.d (Zb b))] = some (ZeT r) := by
 show ZE _ (fun r rhs => rhs = some (ZeT r)) _
 unfold ZcF
 rw [Zaq ctx 115 ZvJ _ rfl rfl]
 conv => arg 3; whnf
 refine Zl (ZB _ _) ?_
 conv => arg 3; whnf
 refine Zf _ (Zga _) fun r2 hr2 => ?_
 clear hr2
 rcases r2 with r2 | r2
 ·conv => arg 3; whnf
  exact Zc rfl
 ·conv => arg 3; whnf
  exact Zc rfl
def Zei (r : Bool) : D := (D.bool r)
theorem Zed {t0 : Bool} {a : (List Int)} {b : Int} : ∀ r, (ZaV a b) = some r → evD ctx 91 [(.d (D.list t0 (List.map Zb a))), (.d (Zb b))] = some (Zei r) := by
 show ZE _ (fun r rhs => rhs = some (Zei r)) _
 unfold ZaV
 rw [Zaq ctx 91 Zzh _ rfl rfl]
 conv => arg 3; whnf
 refine Zi _ Zg0 rfl fun x0 hx0 => ?_
 conv => arg 3; whnf
 refine Zd rfl ?_ ?_
 ·conv => arg 3; whnf
  exact Zc rfl
 ·conv => arg 3; whnf
  exact Zc rfl
def Zir (r : Bool) : D := (D.bool r)
theorem Zmv {t0 : Bool} {t1 : Bool} {a : Int} {b0 : (List Int)} {b1 : (List Int)} : ∀ r, (ZcI a b1) = some r → evD ctx 90 [(.d (Zb a)), (.d (D.rptr [(D.list t0 (List.map Zb b0)), (D.list t1 (List.map Zb b1))]))] = some (Zir r) := by
 show ZE _ (fun r rhs => rhs = some (Zir r)) _
 unfold ZcI
 rw [Zaq ctx 90 Zzp _ rfl rfl]
 conv => arg 3; whnf
 refine Zi _ Zed rfl fun x0 hx0 => ?_
 conv => arg 3; whnf
 refine Zd rfl ?_ ?_
 ·conv => arg 3; whnf
  exact Zc rfl
 ·conv => arg 3; whnf
  exact Zc rfl
def Zb7 (r : Int) : D := (Zb r)
def ZbO (t0 : Bool) (t1 : Bool) (t2 : Bool) (a : (List Int)) (b0 : (List Int)) (b1 : (List Int)) : (Int ⊕ Unit) → Ex × List V × Zm
  | (.inl r) => (.ret, [(.d (Zb r))], [])
  | (.inr r) => (.exit 0, [.bad], [])
theorem ZdG {t0 : Bool} {t1 : Bool} {t2 : Bool} {a : (List Int)} {b0 : (List Int)} {b1 : (List Int)} : ∀ (s0 : Int) (r : (Int ⊕ Unit)), lp (ZaW a (fun z0 => ZcI z0 b1)) s0 = some r → lpW ctx 0 [0, 1, 7, 8] [4] ZtQ [(.d (D.list t0 (List.map Zb a))), (.d (D.fn 90 [(D.rptr [(D.list t1 (List.map Zb b0)), (D.list t2 (List.map Zb b1))])])), (.d (Zb (a.length : Int))), (.d (Zb s0))] [] = some ((ZbO t0 t1 t2 a b0 b1) r) := by
 refine Zai (ZbO t0 t1 t2 a b0 b1) ?_
 intro s0 rcl ih
 show ZE _ _ (lpW _ _ _ _ _ _ _)
 unfold ZaW
 rw [Zah]
 conv => arg 3; whnf
 refine Zd rfl ?_ ?_
 ·conv => arg 3; whnf
  refine Zk rfl rfl fun x1 hx1 => ?_
  conv => arg 3; whnf
  refine Zi _ Zmv rfl fun x2 hx2 => ?_
  conv => arg 3; whnf
  refine Zd rfl ?_ ?_
  ·conv => arg 3; whnf
   exact Zc rfl
  ·conv => arg 3; whnf
   exact Ze (ih _)
 ·conv => arg 3; whnf
  exact Zc rfl
theorem Zd3 {t0 : Bool} {t1 : Bool} {t2 : Bool} {a : (List Int)} {b0 : (List Int)} {b1 : (List Int)} : ∀ r, (ZbZ a (fun z0 => ZcI z0 b1)) = some r → evD ctx 116 [(.d (D.list t0 (List.map Zb a))), (.d (D.fn 90 [(D.rptr [(D.list t1 (List.map Zb b0)), (D.list t2 (List.map Zb b1))])]))] = some (Zb7 r) := by
 show ZE _ (fun r rhs => rhs = some (Zb7 r)) _
 unfold ZbZ
 rw [Zaq ctx 116 ZuQ _ rfl rfl]
 conv => arg 3; whnf
 refine Zl (ZB _ _) ?_
 conv => arg 3; whnf
 refine Zf _ (ZdG _) fun r3 hr3 => ?_
 clear hr3
 rcases r3 with r3 | r3
 ·conv => arg 3; whnf
  exact Zc rfl
 ·conv => arg 3; whnf
  exact Zc rfl
def ZbN (r : Bool) : D := (D.bool r)
theorem ZdH {t0 : Bool} {t1 : Bool} {t2 : Bool} {a : (List Int)} {b0 : (List Int)} {b1 : (List Int)} : ∀ r, (ZaX a (fun z0 => ZcI z0 b1)) = some r → evD ctx 93 [(.d (D.list t0 (List.map Zb a))), (.d (D.fn 90 [(D.rptr [(D.list t1 (List.map Zb b0)), (D.list t2 (List.map Zb b1))])]))] = some (ZbN r) := by
 show ZE _ (fun r rhs => rhs = some (ZbN r)) _
 unfold ZaX
 rw [Zaq ctx 93 Zy3 _ rfl rfl]
 conv => arg 3; whnf
 refine Zi _ Zd3 rfl fun x0 hx0 => ?_
 conv => arg 3; whnf
 refine Zd rfl ?_ ?_
 ·conv => arg 3; whnf
  exact Zc rfl
 ·conv => arg 3; whnf
  exact Zc rfl
def Zkc (r : Int) : D := (Zb r)
def ZhO (t0 : Bool) (t1 : Bool) (t2 : Bool) (t3 : Bool) (a : Zh) : (Unit ⊕ Unit) → Ex × List V × Zm
  | (.inl r) => (.ret, [(.ptr 0 0), (.d (Zb 53))], [(.cells (dV t0 t1 t2 t3 a))])
  | (.inr r) => (.exit 0, [(.ptr 0 0), .bad], [(.cells (dV t0 t1 t2 t3 a))])
theorem ZlI {t0 : Bool} {t1 : Bool} {t2 : Bool} {t3 : Bool} {a : Zh} : ∀ (s4 : Int) (r : (Unit ⊕ Unit)), lp (Zc2 a) s4 = some r → lpW ctx 0 [1, 61, 62, 63] [1, 2] ZwN [(.ptr 0 0), (.d (D.list t1 (List.map ZT a.edges))), (.d (Zb (a.edges.length : Int))), (.d (Zb s4))] [(.cells (dV t0 t1 t2 t3 a))] = some ((ZhO t0 t1 t2 t3 a) r) := by
 refine Zai (ZhO t0 t1 t2 t3 a) ?_
 intro s4 rcl ih
 show ZE _ _ (lpW _ _ _ _ _ _ _)
 unfold Zc2
 rw [Zah]
 conv => arg 3; whnf
 refine Zd rfl ?_ ?_
 ·conv => arg 3; whnf
  refine Zk rfl rfl fun x5 hx5 => ?_
  conv => arg 3; whnf
  refine Zi _ Zla rfl fun x6 hx6 => ?_
  conv => arg 3; whnf
  refine Zd rfl ?_ ?_
  ·conv => arg 3; whnf
   refine Zd rfl ?_ ?_
   ·conv => arg 3; whnf
    refine Zd (Zyg ZT a.edges s4.toNat) ?_ ?_
    ·conv => arg 3; whnf
     refine ZbP rfl ?_
     conv => arg 3; whnf
     refine Zl (Zs8 ZT a.edges s4.toNat) ?_
     conv => arg 3; whnf
     refine Zi _ ZfS rfl fun x7 hx7 => ?_
     conv => arg 3; whnf
     refine Zd rfl ?_ ?_
     ·conv => arg 3; whnf
      exact Zc rfl
     ·conv => arg 3; whnf
      exact Ze (ih _)
    ·exact Z0
   ·exact Z0
  ·conv => arg 3; whnf
   exact Zc rfl
 ·conv => arg 3; whnf
  exact Zc rfl
def ZhQ (t0 : Bool) (t1 : Bool) (t2 : Bool) (t3 : Bool) (a : Zh) : (Unit ⊕ Unit) → Ex × List V × Zm
  | (.inl r) => (.ret, [(.ptr 0 0), (.d (Zb 54))], [(.cells (dV t0 t1 t2 t3 a))])
  | (.inr r) => (.exit 2, [(.ptr 0 0), .bad], [(.cells (dV t0 t1 t2 t3 a))])
theorem Zln {t0 : Bool} {t1 : Bool} {t2 : Bool} {t3 : Bool} {a : Zh} : ∀ (s9 : Int) (r : (Unit ⊕ Unit)), lp (ZcW a) s9 = some r → lpW ctx 0 [1, 85, 86, 87] [1, 2] Zvo [(.ptr 0 0), (.d (D.list t2 (List.map Zx a.futures))), (.d (Zb (a.futures.length : Int))), (.d (Zb s9))] [(.cells (dV t0 t1 t2 t3 a))] = some ((ZhQ t0 t1 t2 t3 a) r) := by
 refine Zai (ZhQ t0 t1 t2 t3 a) ?_
 intro s9 rcl ih
 show ZE _ _ (lpW _ _ _ _ _ _ _)
 unfold ZcW
 rw [Zah]
 conv => arg 3; whnf
 refine Zd rfl ?_ ?_
 ·conv => arg 3; whnf
  refine Zk rfl rfl fun x10 hx10 => ?_
  conv => arg 3; whnf
  refine Zi _ Zla rfl fun x11 hx11 => ?_
  conv => arg 3; whnf
  refine Zd rfl ?_ ?_
  ·conv => arg 3; whnf
   refine Zk rfl rfl fun x12 hx12 => ?_
   conv => arg 3; whnf
   refine Zi _ ZbG rfl fun x13 hx13 => ?_
   conv => arg 3; whnf
   refine Zd rfl ?_ ?_
   ·conv => arg 3; whnf
    refine Zd rfl ?_ ?_
    ·conv => arg 3; whnf
     refine Zd (Zyg Zx a.futures s9.toNat) ?_ ?_
     ·conv => arg 3; whnf
      refine ZbP rfl ?_
      conv => arg 3; whnf
      refine Zl (Zs8 Zx a.futures s9.toNat) ?_
      conv => arg 3; whnf
      refine Zi _ ZcY rfl fun x14 hx14 => ?_
      conv => arg 3; whnf
      refine Zd rfl ?_ ?_
      ·conv => arg 3; whnf
       exact Zc rfl
      ·conv => arg 3; whnf
       exact Ze (ih _)
     ·exact Z0
    ·exact Z0
   ·conv => arg 3; whnf
    exact Zc rfl
  ·conv => arg 3; whnf
   exact Zc rfl
 ·conv => arg 3; whnf
  exact Zc rfl
def ZhP (t0 : Bool) (t1 : Bool) (t2 : Bool) (t3 : Bool) (a : Zh) : (Unit ⊕ Unit) → Ex × List V × Zm
  | (.inl r) => (.ret, [(.d (Zb 55))], [])
  | (.inr r) => (.exit 4, [.bad], [])
theorem Zlq {t0 : Bool} {t1 : Bool} {t2 : Bool} {t3 : Bool} {a : Zh} : ∀ (s16 : Int) (r : (Unit ⊕ Unit)), lp (Zc3 a) s16 = some r → lpW ctx 0 [1, 124, 125, 126] [2] Zwx [(.ptr 0 0), (.d (D.list t3 (List.map Zt a.barriers))), (.d (Zb (a.barriers.length : Int))), (.d (Zb s16))] [(.cells (dV t0 t1 t2 t3 a))] = some ((ZhP t0 t1 t2 t3 a) r) := by
 refine Zai (ZhP t0 t1 t2 t3 a) ?_
 intro s16 rcl ih
 show ZE _ _ (lpW _ _ _ _ _ _ _)
 unfold Zc3
 rw [Zah]
 conv => arg 3; whnf
 refine Zd rfl ?_ ?_
 ·conv => arg 3; whnf
  refine Zk rfl rfl fun x17 hx17 => ?_
  conv => arg 3; whnf
  refine Zi _ Zk2 rfl fun x18 hx18 => ?_
  conv => arg 3; whnf
  refine Zd rfl ?_ ?_
  ·conv => arg 3; whnf
   refine Zi _ Zk2 rfl fun x19 hx19 => ?_
   conv => arg 3; whnf
   refine Zd rfl ?_ ?_
   ·conv => arg 3; whnf
    refine Zi _ ZdH rfl fun x20 hx20 => ?_
    conv => arg 3; whnf
    refine Zd rfl ?_ ?_
    ·conv => arg 3; whnf
     exact Zc rfl
    ·conv => arg 3; whnf
     exact Ze (ih _)
   ·conv => arg 3; whnf
    exact Zc rfl
  ·conv => arg 3; whnf
   exact Zc rfl
 ·conv => arg 3; whnf
  exact Zc rfl
theorem ZgM {t0 : Bool} {t1 : Bool} {t2 : Bool} {t3 : Bool} {a : Zh} : ∀ r, (Zen a) = some r → evD ctx 55 [(.d (D.agg (dA t0 t1 t2 t3 a)))] = some (Zkc r) := by
 show ZE _ (fun r rhs => rhs = some (Zkc r)) _
 unfold Zen
 rw [Zaq ctx 55 Zy2 _ rfl rfl]
 conv => arg 3; whnf
 refine Zl (ZB _ _) ?_
 conv => arg 3; whnf
 refine Zi _ ZbG rfl fun x0 hx0 => ?_
 conv => arg 3; whnf
 refine Zd rfl ?_ ?_
 ·conv => arg 3; whnf
  refine Zl (ZB _ _) ?_
  conv => arg 3; whnf
  refine Zd rfl ?_ ?_
  ·conv => arg 3; whnf
   exact Zc rfl
  ·conv => arg 3; whnf
   refine Zl (ZB _ _) ?_
   conv => arg 3; whnf
   refine Zd rfl ?_ ?_
   ·conv => arg 3; whnf
    exact Zc rfl
   ·conv => arg 3; whnf
    refine Zl (ZB _ _) ?_
    conv => arg 3; whnf
    refine Zd rfl ?_ ?_
    ·conv => arg 3; whnf
     exact Zc rfl
    ·conv => arg 3; whnf
     refine Zi _ ZqJ rfl fun x1 hx1 => ?_
     conv => arg 3; whnf
     refine Zd rfl ?_ ?_
     ·conv => arg 3; whnf
      refine Zd rfl ?_ ?_
      ·conv => arg 3; whnf
       exact Zc rfl
      ·conv => arg 3; whnf
       refine Zi _ ZbG rfl fun x2 hx2 => ?_
       conv => arg 3; whnf
       refine Zd rfl ?_ ?_
       ·conv => arg 3; whnf
        refine Zi _ ZdV rfl fun x3 hx3 => ?_
        conv => arg 3; whnf
        refine Zd rfl ?_ ?_
        ·conv => arg 3; whnf
         exact Zc rfl
        ·conv => arg 3; whnf
         refine Zl (ZB _ _) ?_
         conv => arg 3; whnf
         refine Zf _ (ZlI _) fun r8 hr8 => ?_
         clear hr8
         rcases r8 with r8 | r8
         ·conv => arg 3; whnf
          exact Zc rfl
         ·conv => arg 3; whnf
          refine Zl (ZB _ _) ?_
          conv => arg 3; whnf
          refine Zf _ (Zln _) fun r15 hr15 => ?_
          clear hr15
          rcases r15 with r15 | r15
          ·conv => arg 3; whnf
           exact Zc rfl
          ·conv => arg 3; whnf
           refine Zl (ZB _ _) ?_
           conv => arg 3; whnf
           refine Zf _ (Zlq _) fun r21 hr21 => ?_
           clear hr21
           rcases r21 with r21 | r21
           ·conv => arg 3; whnf
            exact Zc rfl
           ·conv => arg 3; whnf
            exact Zc rfl
       ·conv => arg 3; whnf
        exact Zc rfl
     ·conv => arg 3; whnf
      exact Zc rfl
 ·conv => arg 3; whnf
  exact Zc rfl
def ZjK (r : (Zn × Int)) : D := (D.tup [(D.agg [(D.list true (List.map Zb r.1.work)), (D.list true (List.map Zb r.1.vals))]), (Zb r.2)])
theorem Zjs {t0 : Bool} {t1 : Bool} {t2 : Bool} {t3 : Bool} {a : Zh} : ∀ r, (Ze0 a) = some r → evD ctx 35 [(.d (D.agg (dA t0 t1 t2 t3 a)))] = some (ZjK r) := by
 show ZE _ (fun r rhs => rhs = some (ZjK r)) _
 unfold Ze0
 rw [Zaq ctx 35 Zyt _ rfl rfl]
 conv => arg 3; whnf
 refine Zi _ ZgM rfl fun x0 hx0 => ?_
 conv => arg 3; whnf
 refine Zd rfl ?_ ?_
 ·conv => arg 3; whnf
  exact Zc rfl
 ·conv => arg 3; whnf
  refine Zl (ZB _ _) ?_
  conv => arg 3; whnf
  refine Zd rfl ?_ ?_
  ·conv => arg 3; whnf
   refine Zl (ZnO Zb (0 : Int) (a.parts.length : Int)) ?_
   conv => arg 3; whnf
   refine Zl (ZB _ _) ?_
   conv => arg 3; whnf
   refine Zd rfl ?_ ?_
   ·conv => arg 3; whnf
    refine Zl (ZnO Zb (0 : Int) (a.parts.length : Int)) ?_
    conv => arg 3; whnf
    exact Zc rfl
   ·exact Z0
  ·exact Z0
def Zjl (r : Bool) : D := (D.bool r)
theorem ZcB {t0 : Bool} {t1 : Bool} {t2 : Bool} {t3 : Bool} {t4 : Bool} {t5 : Bool} {a : Zh} {b : Zn} {c : Int} : ∀ r, (ZbB a b c) = some r → evD ctx 46 [(.d (D.agg (dA t0 t1 t2 t3 a))), (.d (D.agg [(D.list t4 (List.map Zb b.work)), (D.list t5 (List.map Zb b.vals))])), (.d (Zb c))] = some (Zjl r) := by
 show ZE _ (fun r rhs => rhs = some (Zjl r)) _
 unfold ZbB
 rw [Zaq ctx 46 Zzf _ rfl rfl]
 conv => arg 3; whnf
 refine Zk rfl rfl fun x0 hx0 => ?_
 conv => arg 3; whnf
 refine Zk rfl rfl fun x1 hx1 => ?_
 conv => arg 3; whnf
 refine Zd rfl ?_ ?_
 ·conv => arg 3; whnf
  exact Zc rfl
 ·conv => arg 3; whnf
  exact Zc rfl
def Zhz (r : Bool) : D := (D.bool r)
def ZgB (t0 : Bool) (t1 : Bool) (t2 : Bool) (t3 : Bool) (t4 : Bool) (t5 : Bool) (a : Zh) (b : Zn) (c : Int) : (Unit ⊕ Unit) → Ex × List V × Zm
  | (.inl r) => (.ret, [(.d (Zb c)), (.ptr 0 0), (.ptr 1 0), (.d (D.bool false))], [(.cells (dV t0 t1 t2 t3 a)), (.cells [(.d (D.list t4 (List.map Zb b.work))), (.d (D.list t5 (List.map Zb b.vals)))])])
  | (.inr r) => (.exit 0, [(.d (Zb c)), (.ptr 0 0), (.ptr 1 0), .bad], [(.cells (dV t0 t1 t2 t3 a)), (.cells [(.d (D.list t4 (List.map Zb b.work))), (.d (D.list t5 (List.map Zb b.vals)))])])
theorem ZjD {t0 : Bool} {t1 : Bool} {t2 : Bool} {t3 : Bool} {t4 : Bool} {t5 : Bool} {a : Zh} {b : Zn} {c : Int} : ∀ (s0 : Int) (r : (Unit ⊕ Unit)), lp (Zcy a b c) s0 = some r → lpW ctx 0 [2, 3, 4, 14, 15, 16] [2, 3, 4, 6] ZwS [(.d (Zb c)), (.ptr 0 0), (.ptr 1 0), (.d (D.list t1 (List.map ZT a.edges))), (.d (Zb (a.edges.length : Int))), (.d (Zb s0))] [(.cells (dV t0 t1 t2 t3 a)), (.cells [(.d (D.list t4 (List.map Zb b.work))), (.d (D.list t5 (List.map Zb b.vals)))])] = some ((ZgB t0 t1 t2 t3 t4 t5 a b c) r) := by
 refine Zai (ZgB t0 t1 t2 t3 t4 t5 a b c) ?_
 intro s0 rcl ih
 show ZE _ _ (lpW _ _ _ _ _ _ _)
 unfold Zcy
 rw [Zah]
 conv => arg 3; whnf
 refine Zd rfl ?_ ?_
 ·conv => arg 3; whnf
  refine Zk rfl rfl fun x1 hx1 => ?_
  conv => arg 3; whnf
  refine Zd rfl ?_ ?_
  ·conv => arg 3; whnf
   refine Zi _ ZcB rfl fun x2 hx2 => ?_
   conv => arg 3; whnf
   refine Zd rfl ?_ ?_
   ·conv => arg 3; whnf
    exact Ze (ih _)
   ·conv => arg 3; whnf
    exact Zc rfl
  ·conv => arg 3; whnf
   exact Ze (ih _)
 ·conv => arg 3; whnf
  exact Zc rfl
def Zgn (t0 : Bool) (t1 : Bool) (t2 : Bool) (t3 : Bool) (t4 : Bool) (t5 : Bool) (a : Zh) (b : Zn) (c : Int) (s4 : Int) (x5 : Zo) : (Unit ⊕ Unit) → Ex × List V × Zm
  | (.inl r) => (.ret, [(.d (Zb c)), (.ptr 0 0), (.ptr 1 0), (.d (D.bool false)), (.d (D.list t3 (List.map Zt a.barriers))), (.d (Zb (a.barriers.length : Int))), (.d (Zb s4))], [(.cells (dV t0 t1 t2 t3 a)), (.cells [(.d (D.list t4 (List.map Zb b.work))), (.d (D.list t5 (List.map Zb b.vals)))])])
  | (.inr r) => (.exit 4, [(.d (Zb c)), (.ptr 0 0), (.ptr 1 0), .bad, (.d (D.list t3 (List.map Zt a.barriers))), (.d (Zb (a.barriers.length : Int))), (.d (Zb s4))], [(.cells (dV t0 t1 t2 t3 a)), (.cells [(.d (D.list t4 (List.map Zb b.work))), (.d (D.list t5 (List.map Zb b.vals)))])])
theorem ZjI {t0 : Bool} {t1 : Bool} {t2 : Bool} {t3 : Bool} {t4 : Bool} {t5 : Bool} {a : Zh} {b : Zn} {c : Int} {s4 : Int} {x5 : Zo} : ∀ (s7 : Int) (r : (Unit ⊕ Unit)), lp (Zb2 a b x5) s7 = some r → lpW ctx 0 [2, 3, 4, 34, 35, 36, 46, 47, 48] [2, 3, 4, 6, 34, 35, 36] ZvL [(.d (Zb c)), (.ptr 0 0), (.ptr 1 0), (.d (D.list t3 (List.map Zt a.barriers))), (.d (Zb (a.barriers.length : Int))), (.d (Zb s4)), (.d (D.list true (List.map Zb x5.ins))), (.d (Zb (x5.ins.length : Int))), (.d (Zb s7))] [(.cells (dV t0 t1 t2 t3 a)), (.cells [(.d (D.list t4 (List.map Zb b.work))), (.d (D.list t5 (List.map Zb b.vals)))])] = some ((Zgn t0 t1 t2 t3 t4 t5 a b c s4 x5) r) := by
 refine Zai (Zgn t0 t1 t2 t3 t4 t5 a b c s4 x5) ?_
 intro s7 rcl ih
 show ZE _ _ (lpW _ _ _ _ _ _ _)
 unfold Zb2
 rw [Zah]
 conv => arg 3; whnf
 refine Zd rfl ?_ ?_
 ·conv => arg 3; whnf
  refine Zk rfl rfl fun x8 hx8 => ?_
  conv => arg 3; whnf
  refine Zi _ ZcB rfl fun x9 hx9 => ?_
  conv => arg 3; whnf
  refine Zd rfl ?_ ?_
  ·conv => arg 3; whnf
   exact Ze (ih _)
  ·conv => arg 3; whnf
   exact Zc rfl
 ·conv => arg 3; whnf
  exact Zc rfl
def Zgv (t0 : Bool) (t1 : Bool) (t2 : Bool) (t3 : Bool) (t4 : Bool) (t5 : Bool) (a : Zh) (b : Zn) (c : Int) : (Unit ⊕ Unit) → Ex × List V × Zm
  | (.inl r) => (.ret, [(.d (D.bool false))], [])
  | (.inr r) => (.exit 2, [.bad], [])
theorem Zjx {t0 : Bool} {t1 : Bool} {t2 : Bool} {t3 : Bool} {t4 : Bool} {t5 : Bool} {a : Zh} {b : Zn} {c : Int} : ∀ (s4 : Int) (r : (Unit ⊕ Unit)), lp (Zcw a b c) s4 = some r → lpW ctx 0 [2, 3, 4, 34, 35, 36] [6] ZvE [(.d (Zb c)), (.ptr 0 0), (.ptr 1 0), (.d (D.list t3 (List.map Zt a.barriers))), (.d (Zb (a.barriers.length : Int))), (.d (Zb s4))] [(.cells (dV t0 t1 t2 t3 a)), (.cells [(.d (D.list t4 (List.map Zb b.work))), (.d (D.list t5 (List.map Zb b.vals)))])] = some ((Zgv t0 t1 t2 t3 t4 t5 a b c) r) := by
 refine Zai (Zgv t0 t1 t2 t3 t4 t5 a b c) ?_
 intro s4 rcl ih
 show ZE _ _ (lpW _ _ _ _ _ _ _)
 unfold Zcw
 rw [Zah]
 conv => arg 3; whnf
 refine Zd rfl ?_ ?_
 ·conv => arg 3; whnf
  refine Zk rfl rfl fun x5 hx5 => ?_
  conv => arg 3; whnf
  refine Zi _ Zed rfl fun x6 hx6 => ?_
  conv => arg 3; whnf
  refine Zd rfl ?_ ?_
  ·conv => arg 3; whnf
   refine Zl (ZB _ _) ?_
   conv => arg 3; whnf
   refine Zf _ (ZjI _) fun r10 hr10 => ?_
   clear hr10
   rcases r10 with r10 | r10
   ·conv => arg 3; whnf
    exact Zc rfl
   ·conv => arg 3; whnf
    exact Ze (ih _)
  ·conv => arg 3; whnf
   exact Ze (ih _)
 ·conv => arg 3; whnf
  exact Zc rfl
theorem ZlB {t0 : Bool} {t1 : Bool} {t2 : Bool} {t3 : Bool} {t4 : Bool} {t5 : Bool} {a : Zh} {b : Zn} {c : Int} : ∀ r, (Zew a b c) = some r → evD ctx 78 [(.d (D.agg (dA t0 t1 t2 t3 a))), (.d (D.agg [(D.list t4 (List.map Zb b.work)), (D.list t5 (List.map Zb b.vals))])), (.d (Zb c))] = some (Zhz r) := by
 show ZE _ (fun r rhs => rhs = some (Zhz r)) _
 unfold Zew
 rw [Zaq ctx 78 ZyU _ rfl rfl]
 conv => arg 3; whnf
 refine Zl (ZB _ _) ?_
 conv => arg 3; whnf
 refine Zf _ (ZjD _) fun r3 hr3 => ?_
 clear hr3
 rcases r3 with r3 | r3
 ·conv => arg 3; whnf
  exact Zc rfl
 ·conv => arg 3; whnf
  refine Zl (ZB _ _) ?_
  conv => arg 3; whnf
  refine Zf _ (Zjx _) fun r11 hr11 => ?_
  clear hr11
  rcases r11 with r11 | r11
  ·conv => arg 3; whnf
   exact Zc rfl
  ·conv => arg 3; whnf
   exact Zc rfl
def Zjj (r : Bool) : D := (D.bool r)
def Zhe (t0 : Bool) (t1 : Bool) (t2 : Bool) (t3 : Bool) (t4 : Bool) (t5 : Bool) (a : Zh) (b : Zn) (c : Int) : (Unit ⊕ Unit) → Ex × List V × Zm
  | (.inl r) => (.exit 0, [(.d (D.bool true))], [])
  | (.inr r) => (.exit 0, [(.d (D.bool false))], [])
theorem ZkX {t0 : Bool} {t1 : Bool} {t2 : Bool} {t3 : Bool} {t4 : Bool} {t5 : Bool} {a : Zh} {b : Zn} {c : Int} : ∀ (s3 : Int) (r : (Unit ⊕ Unit)), lp (Zcx a b c) s3 = some r → lpW ctx 0 [2, 3, 4, 7, 30, 31, 32] [7] Zsq [(.d (Zb c)), (.ptr 0 0), (.ptr 1 0), (.d (D.bool true)), (.d (D.list t2 (List.map Zx a.futures))), (.d (Zb (a.futures.length : Int))), (.d (Zb s3))] [(.cells (dV t0 t1 t2 t3 a)), (.cells [(.d (D.list t4 (List.map Zb b.work))), (.d (D.list t5 (List.map Zb b.vals)))])] = some ((Zhe t0 t1 t2 t3 t4 t5 a b c) r) := by
 refine Zai (Zhe t0 t1 t2 t3 t4 t5 a b c) ?_
 intro s3 rcl ih
 show ZE _ _ (lpW _ _ _ _ _ _ _)
 unfold Zcx
 rw [Zah]
 conv => arg 3; whnf
 refine Zd rfl ?_ ?_
 ·conv => arg 3; whnf
  refine Zk rfl rfl fun x4 hx4 => ?_
  conv => arg 3; whnf
  refine Zd rfl ?_ ?_
  ·conv => arg 3; whnf
   refine Zk rfl rfl fun x5 hx5 => ?_
   conv => arg 3; whnf
   refine Zd rfl ?_ ?_
   ·conv => arg 3; whnf
    refine Zi _ ZcB rfl fun x6 hx6 => ?_
    conv => arg 3; whnf
    refine Zd rfl ?_ ?_
    ·conv => arg 3; whnf
     exact Zc rfl
    ·conv => arg 3; whnf
     exact Zc rfl
   ·conv => arg 3; whnf
    exact Ze (ih _)
  ·conv => arg 3; whnf
   exact Ze (ih _)
 ·conv => arg 3; whnf
  exact Zc rfl
def Zgm (t0 : Bool) (t1 : Bool) (t2 : Bool) (t3 : Bool) (t4 : Bool) (t5 : Bool) (a : Zh) (b : Zn) (c : Int) : (Unit ⊕ Unit) → Ex × List V × Zm
  | (.inl r) => (.exit 0, [(.d (D.bool true))], [])
  | (.inr r) => (.exit 0, [(.d (D.bool false))], [])
theorem ZjF {t0 : Bool} {t1 : Bool} {t2 : Bool} {t3 : Bool} {t4 : Bool} {t5 : Bool} {a : Zh} {b : Zn} {c : Int} : ∀ (s8 : Int) (r : (Unit ⊕ Unit)), lp (Zfy a b c) s8 = some r → lpW ctx 0 [2, 3, 4, 7, 30, 31, 32] [7] Zsq [(.d (Zb c)), (.ptr 0 0), (.ptr 1 0), (.d (D.bool true)), (.d (D.list t2 (List.map Zx a.futures))), (.d (Zb (a.futures.length : Int))), (.d (Zb s8))] [(.cells (dV t0 t1 t2 t3 a)), (.cells [(.d (D.list t4 (List.map Zb b.work))), (.d (D.list t5 (List.map Zb b.vals)))])] = some ((Zgm t0 t1 t2 t3 t4 t5 a b c) r) := by
 refine Zai (Zgm t0 t1 t2 t3 t4 t5 a b c) ?_
 intro s8 rcl ih
 show ZE _ _ (lpW _ _ _ _ _ _ _)
 unfold Zfy
 rw [Zah]
 conv => arg 3; whnf
 refine Zd rfl ?_ ?_
 ·conv => arg 3; whnf
  refine Zk rfl rfl fun x9 hx9 => ?_
  conv => arg 3; whnf
  refine Zd rfl ?_ ?_
  ·conv => arg 3; whnf
   refine Zk rfl rfl fun x10 hx10 => ?_
   conv => arg 3; whnf
   refine Zd rfl ?_ ?_
   ·conv => arg 3; whnf
    refine Zi _ ZcB rfl fun x11 hx11 => ?_
    conv => arg 3; whnf
    refine Zd rfl ?_ ?_
    ·conv => arg 3; whnf
     exact Zc rfl
    ·conv => arg 3; whnf
     exact Zc rfl
   ·conv => arg 3; whnf
    exact Ze (ih _)
  ·conv => arg 3; whnf
   exact Ze (ih _)
 ·conv => arg 3; whnf
  exact Zc rfl
theorem Zm8 {t0 : Bool} {t1 : Bool} {t2 : Bool} {t3 : Bool} {t4 : Bool} {t5 : Bool} {a : Zh} {b : Zn} {c : Int} : ∀ r, (Zfi a b c) = some r → evD ctx 47 [(.d (D.agg (dA t0 t1 t2 t3 a))), (.d (D.agg [(D.list t4 (List.map Zb b.work)), (D.list t5 (List.map Zb b.vals))])), (.d (Zb c))] = some (Zjj r) := by
 show ZE _ (fun r rhs => rhs = some (Zjj r)) _
 unfold Zfi
 rw [Zaq ctx 47 Zzm _ rfl rfl]
 conv => arg 3; whnf
 refine Zi _ ZcB rfl fun x0 hx0 => ?_
 conv => arg 3; whnf
 refine Zd rfl ?_ ?_
 ·conv => arg 3; whnf
  exact Zc rfl
 ·conv => arg 3; whnf
  refine Zk rfl rfl fun x1 hx1 => ?_
  conv => arg 3; whnf
  refine Zd rfl ?_ ?_
  ·conv => arg 3; whnf
   refine Zi _ ZlB rfl fun x2 hx2 => ?_
   conv => arg 3; whnf
   refine Zd rfl ?_ ?_
   ·conv => arg 3; whnf
    refine Zl (ZB _ _) ?_
    conv => arg 3; whnf
    refine Zf _ (ZkX _) fun r7 hr7 => ?_
    clear hr7
    rcases r7 with r7 | r7
    ·conv => arg 3; whnf
     exact Zc rfl
    ·conv => arg 3; whnf
     exact Zc rfl
   ·conv => arg 3; whnf
    exact Zc rfl
  ·conv => arg 3; whnf
   refine Zl (ZB _ _) ?_
   conv => arg 3; whnf
   refine Zf _ (ZjF _) fun r12 hr12 => ?_
   clear hr12
   rcases r12 with r12 | r12
   ·conv => arg 3; whnf
    exact Zc rfl
   ·conv => arg 3; whnf
    exact Zc rfl
def ZjW (r : (List Int)) : D := (D.list true (List.map Zb r))
def Zh1 (t0 : Bool) (t1 : Bool) (t2 : Bool) (t3 : Bool) (t4 : Bool) (t5 : Bool) (a : Zh) (b : Zn) : (List Int) → Ex × List V × Zm
  | r => (.exit 0, [(.sl 0 1)], [(.arr 1 (List.map Zb r))])
theorem Zls {t0 : Bool} {t1 : Bool} {t2 : Bool} {t3 : Bool} {t4 : Bool} {t5 : Bool} {a : Zh} {b : Zn} : ∀ (s0 : Int × (List Int)) (r : (List Int)), lp (ZdN a b) s0 = some r → lpW ctx 0 [2, 3, 5, 9, 10] [5] Zvi [(.ptr 0 0), (.ptr 1 0), (.sl 2 1), (.d (Zb (a.parts.length : Int))), (.d (Zb s0.1))] [(.cells (dV t0 t1 t2 t3 a)), (.cells [(.d (D.list t4 (List.map Zb b.work))), (.d (D.list t5 (List.map Zb b.vals)))]), (.arr 1 (List.map Zb s0.2))] = some ((Zh1 t0 t1 t2 t3 t4 t5 a b) r) := by
 refine Zai (Zh1 t0 t1 t2 t3 t4 t5 a b) ?_
 intro s0 rcl ih
 show ZE _ _ (lpW _ _ _ _ _ _ _)
 unfold ZdN
 rw [Zah]
 conv => arg 3; whnf
 refine Zd rfl ?_ ?_
 ·conv => arg 3; whnf
  refine Zi _ Zm8 rfl fun x1 hx1 => ?_
  conv => arg 3; whnf
  refine Zd rfl ?_ ?_
  ·conv => arg 3; whnf
   refine ZbP rfl ?_
   conv => arg 3; whnf
   refine Zd (Zfv Zb s0.2 1) ?_ ?_
   ·conv => arg 3; whnf
    refine Zl (Ze6 Zb s0.2 [s0.1]) ?_
    conv => arg 3; whnf
    exact Ze (ih _)
   ·exact Z0
  ·conv => arg 3; whnf
   exact Ze (ih _)
 ·conv => arg 3; whnf
  exact Zc rfl
theorem Zjk {t0 : Bool} {t1 : Bool} {t2 : Bool} {t3 : Bool} {t4 : Bool} {t5 : Bool} {a : Zh} {b : Zn} : ∀ r, (Ze5 a b) = some r → evD ctx 54 [(.d (D.agg (dA t0 t1 t2 t3 a))), (.d (D.agg [(D.list t4 (List.map Zb b.work)), (D.list t5 (List.map Zb b.vals))]))] = some (ZjW r) := by
 show ZE _ (fun r rhs => rhs = some (ZjW r)) _
 unfold Ze5
 rw [Zaq ctx 54 ZyO _ rfl rfl]
 conv => arg 3; whnf
 refine Zl (ZB _ _) ?_
 conv => arg 3; whnf
 refine Zf _ (Zls _) fun r2 hr2 => ?_
 conv => arg 3; whnf
 exact Zc rfl
def ZeR (t0 : Bool) (a : (List Int)) : Unit → V × Zm
  | r => ((.sl 0 1), [(.arr 1 (List.map Zb a))])
theorem ZeL {t0 : Bool} {a : (List Int)} : ∀ r, (Zbh a) = some r → evW ctx 74 [(.d (D.list t0 (List.map Zb a)))] [] = some ((ZeR t0 a) r) := by
 show ZE _ (fun r rhs => rhs = some ((ZeR t0 a) r)) _
 unfold Zbh
 rw [Zf1 ctx 74 Zza _ _ rfl rfl]
 conv => arg 3; whnf
 refine Zd (Zxk Zb a) ?_ ?_
 ·conv => arg 3; whnf
  refine ZbP (Zfp (f := Zb) (fun _ => ⟨rfl, rfl⟩) a 0) ?_
  conv => arg 3; whnf
  refine Zd (ZfQ Zb a) ?_ ?_
  ·conv => arg 3; whnf
   refine Zl (rfl : _ = List.map Zb a) ?_
   conv => arg 3; whnf
   exact Zc rfl
  ·exact Z0
 ·exact Z0
def Zhu (r : Int) : D := (Zb r)
theorem Zz {t0 : Bool} {t1 : Bool} {t2 : Bool} {t3 : Bool} {a : Int} {b : Int} {c0 : Int} {c1 : Int} {c2 : (List ZG)} {c3 : (List ZM)} {c4 : (List Zs)} {c5 : (List Zo)} : ∀ r, (Zq a b c4) = some r → evD ctx 118 [(.d (Zb a)), (.d (Zb b)), (.d (D.rptr [(Zb c0), (Zb c1), (D.list t0 (List.map ZW c2)), (D.list t1 (List.map ZT c3)), (D.list t2 (List.map Zx c4)), (D.list t3 (List.map Zt c5))]))] = some (Zhu r) := by
 show ZE _ (fun r rhs => rhs = some (Zhu r)) _
 unfold Zq
 rw [Zaq ctx 118 Zws _ rfl rfl]
 conv => arg 3; whnf
 refine Zk rfl rfl fun x0 hx0 => ?_
 conv => arg 3; whnf
 refine Zk rfl rfl fun x1 hx1 => ?_
 conv => arg 3; whnf
 exact Zc rfl
def ZgQ (r : Int) : D := (Zb r)
theorem Zj3 {a : Int} : ∀ r, (ZfK a) = some r → evD ctx 135 [(.d (D.int .u64 a))] = some (ZgQ r) := by
 show ZE _ (fun r rhs => rhs = some (ZgQ r)) _
 unfold ZfK
 rw [Zaq ctx 135 ZvH _ rfl rfl]
 conv => arg 3; whnf
 refine Zd rfl ?_ ?_
 ·conv => arg 3; whnf
  refine Zaa rfl ?_
  conv => arg 3; whnf
  refine Zd rfl ?_ ?_
  ·conv => arg 3; whnf
   refine Zaa rfl ?_
   conv => arg 3; whnf
   refine Zd rfl ?_ ?_
   ·conv => arg 3; whnf
    refine Zaa rfl ?_
    conv => arg 3; whnf
    refine Zd rfl ?_ ?_
    ·conv => arg 3; whnf
     refine Zgf rfl fun x0 hx0 => ?_
     conv => arg 3; whnf
     exact Zc rfl
    ·exact Z0
   ·conv => arg 3; whnf
    refine Zd rfl ?_ ?_
    ·conv => arg 3; whnf
     refine Zgf rfl fun x1 hx1 => ?_
     conv => arg 3; whnf
     exact Zc rfl
    ·exact Z0
  ·conv => arg 3; whnf
   refine Zd rfl ?_ ?_
   ·conv => arg 3; whnf
    refine Zaa rfl ?_
    conv => arg 3; whnf
    refine Zd rfl ?_ ?_
    ·conv => arg 3; whnf
     refine Zgf rfl fun x2 hx2 => ?_
     conv => arg 3; whnf
     exact Zc rfl
    ·exact Z0
   ·conv => arg 3; whnf
    refine Zd rfl ?_ ?_
    ·conv => arg 3; whnf
     refine Zgf rfl fun x3 hx3 => ?_
     conv => arg 3; whnf
     exact Zc rfl
    ·exact Z0
 ·conv => arg 3; whnf
  refine Zd rfl ?_ ?_
  ·conv => arg 3; whnf
   refine Zaa rfl ?_
   conv => arg 3; whnf
   refine Zd rfl ?_ ?_
   ·conv => arg 3; whnf
    refine Zaa rfl ?_
    conv => arg 3; whnf
    refine Zd rfl ?_ ?_
    ·conv => arg 3; whnf
     refine Zgf rfl fun x4 hx4 => ?_
     conv => arg 3; whnf
     exact Zc rfl
    ·exact Z0
   ·conv => arg 3; whnf
    refine Zd rfl ?_ ?_
    ·conv => arg 3; whnf
     refine Zgf rfl fun x5 hx5 => ?_
     conv => arg 3; whnf
     exact Zc rfl
    ·exact Z0
  ·conv => arg 3; whnf
   refine Zd rfl ?_ ?_
   ·conv => arg 3; whnf
    refine Zaa rfl ?_
    conv => arg 3; whnf
    refine Zd rfl ?_ ?_
    ·conv => arg 3; whnf
     refine Zgf rfl fun x6 hx6 => ?_
     conv => arg 3; whnf
     exact Zc rfl
    ·exact Z0
   ·conv => arg 3; whnf
    refine Zd rfl ?_ ?_
    ·conv => arg 3; whnf
     refine Zgf rfl fun x7 hx7 => ?_
     conv => arg 3; whnf
     exact Zc rfl
    ·exact Z0
def ZhK (r : Int) : D := (Zb r)
theorem Zhi {a : Int} : ∀ r, (ZdM a) = some r → evD ctx 125 [(.d (D.int .u64 a))] = some (ZhK r) := by
 show ZE _ (fun r rhs => rhs = some (ZhK r)) _
 unfold ZdM
 rw [Zaq ctx 125 ZvN _ rfl rfl]
 conv => arg 3; whnf
 refine Zi _ Zj3 rfl fun x0 hx0 => ?_
 conv => arg 3; whnf
 exact Zc rfl
def Zbt (t0 : Bool) (t1 : Bool) (t2 : Bool) (t3 : Bool) (b : Int) (c : Int) (m0_0 : (List Int)) (m1_0 : Int) (m1_1 : Int) (m1_2 : (List ZG)) (m1_3 : (List ZM)) (m1_4 : (List Zs)) (m1_5 : (List Zo)) : (List Int) → V × Zm
  | r => ((.d (D.tup [])), [(.arr 1 (List.map Zb r)), (.cells [(.d (Zb m1_0)), (.d (Zb m1_1)), (.d (D.list t0 (List.map ZW m1_2))), (.d (D.list t1 (List.map ZT m1_3))), (.d (D.list t2 (List.map Zx m1_4))), (.d (D.list t3 (List.map Zt m1_5)))])])
def Zbe (t0 : Bool) (t1 : Bool) (t2 : Bool) (t3 : Bool) (b : Int) (c : Int) (m1_0 : Int) (m1_1 : Int) (m1_2 : (List ZG)) (m1_3 : (List ZM)) (m1_4 : (List Zs)) (m1_5 : (List Zo)) (s0 : Int × (List Int)) : (List Int) → Ex × List V × Zm
  | r => (.exit 2, [(.sl 0 1), (.d (Zb b)), (.d (Zb c)), (.fn 118 [(.ptr 1 0)]), (.d (Zb s0.1))], [(.arr 1 (List.map Zb r)), (.cells [(.d (Zb m1_0)), (.d (Zb m1_1)), (.d (D.list t0 (List.map ZW m1_2))), (.d (D.list t1 (List.map ZT m1_3))), (.d (D.list t2 (List.map Zx m1_4))), (.d (D.list t3 (List.map Zt m1_5)))])])
theorem ZcO {t0 : Bool} {t1 : Bool} {t2 : Bool} {t3 : Bool} {b : Int} {c : Int} {m1_0 : Int} {m1_1 : Int} {m1_2 : (List ZG)} {m1_3 : (List ZM)} {m1_4 : (List Zs)} {m1_5 : (List Zo)} {s0 : Int × (List Int)} : ∀ (s1 : Int × (List Int)) (r : (List Int)), lp (ZS b (fun z0 z1 => Zq z0 z1 m1_4)) s1 = some r → lpW ctx 2 [0, 1, 2, 3, 8, 9] [0, 1, 2, 3, 8] ZtI [(.sl 0 1), (.d (Zb b)), (.d (Zb c)), (.fn 118 [(.ptr 1 0)]), (.d (Zb s0.1)), (.d (Zb s1.1))] [(.arr 1 (List.map Zb s1.2)), (.cells [(.d (Zb m1_0)), (.d (Zb m1_1)), (.d (D.list t0 (List.map ZW m1_2))), (.d (D.list t1 (List.map ZT m1_3))), (.d (D.list t2 (List.map Zx m1_4))), (.d (D.list t3 (List.map Zt m1_5)))])] = some ((Zbe t0 t1 t2 t3 b c m1_0 m1_1 m1_2 m1_3 m1_4 m1_5 s0) r) := by
 refine Zai (Zbe t0 t1 t2 t3 b c m1_0 m1_1 m1_2 m1_3 m1_4 m1_5 s0) ?_
 intro s1 rcl ih
 show ZE _ _ (lpW _ _ _ _ _ _ _)
 unfold ZS
 rw [Zah]
 conv => arg 3; whnf
 refine Zd rfl ?_ ?_
 ·conv => arg 3; whnf
  refine Zk rfl rfl fun x2 hx2 => ?_
  conv => arg 3; whnf
  refine Zg (Zv rfl hx2) ?_
  conv => arg 3; whnf
  refine Zk rfl rfl fun x3 hx3 => ?_
  conv => arg 3; whnf
  refine Zg (Zv rfl hx3) ?_
  conv => arg 3; whnf
  refine Zi _ Zz rfl fun x4 hx4 => ?_
  conv => arg 3; whnf
  refine Zd rfl ?_ ?_
  ·conv => arg 3; whnf
   refine Zg (ZaL rfl hx3) ?_
   conv => arg 3; whnf
   refine Zg (Zv rfl hx3) ?_
   conv => arg 3; whnf
   refine Zg (ZaL rfl hx2) ?_
   conv => arg 3; whnf
   refine Zg (Zv rfl hx2) ?_
   conv => arg 3; whnf
   refine Zg (ZaL rfl hx2) ?_
   conv => arg 3; whnf
   refine Zg (Zv rfl hx2) ?_
   conv => arg 3; whnf
   refine Zl (Zan Zb s1.2 s1.1.toNat x3) ?_
   conv => arg 3; whnf
   refine Zk rfl rfl fun x5 hx5 => ?_
   conv => arg 3; whnf
   refine Zg (Zv rfl hx5) ?_
   conv => arg 3; whnf
   refine Zl (Zan Zb (List.set s1.2 s1.1.toNat x3) (w64 (s1.1 - 1)).toNat x2) ?_
   conv => arg 3; whnf
   exact Ze (ih _)
  ·conv => arg 3; whnf
   exact Zc rfl
 ·conv => arg 3; whnf
  exact Zc rfl
def Zbd (t0 : Bool) (t1 : Bool) (t2 : Bool) (t3 : Bool) (b : Int) (c : Int) (m1_0 : Int) (m1_1 : Int) (m1_2 : (List ZG)) (m1_3 : (List ZM)) (m1_4 : (List Zs)) (m1_5 : (List Zo)) : (List Int) → Ex × List V × Zm
  | r => (.exit 0, [], [(.arr 1 (List.map Zb r)), (.cells [(.d (Zb m1_0)), (.d (Zb m1_1)), (.d (D.list t0 (List.map ZW m1_2))), (.d (D.list t1 (List.map ZT m1_3))), (.d (D.list t2 (List.map Zx m1_4))), (.d (D.list t3 (List.map Zt m1_5)))])])
theorem ZcN {t0 : Bool} {t1 : Bool} {t2 : Bool} {t3 : Bool} {b : Int} {c : Int} {m1_0 : Int} {m1_1 : Int} {m1_2 : (List ZG)} {m1_3 : (List ZM)} {m1_4 : (List Zs)} {m1_5 : (List Zo)} : ∀ (s0 : Int × (List Int)) (r : (List Int)), lp (Zaf b c (fun z0 z1 => Zq z0 z1 m1_4)) s0 = some r → lpW ctx 2 [0, 1, 2, 3, 8] [] Zs6 [(.sl 0 1), (.d (Zb b)), (.d (Zb c)), (.fn 118 [(.ptr 1 0)]), (.d (Zb s0.1))] [(.arr 1 (List.map Zb s0.2)), (.cells [(.d (Zb m1_0)), (.d (Zb m1_1)), (.d (D.list t0 (List.map ZW m1_2))), (.d (D.list t1 (List.map ZT m1_3))), (.d (D.list t2 (List.map Zx m1_4))), (.d (D.list t3 (List.map Zt m1_5)))])] = some ((Zbd t0 t1 t2 t3 b c m1_0 m1_1 m1_2 m1_3 m1_4 m1_5) r) := by
 refine Zai (Zbd t0 t1 t2 t3 b c m1_0 m1_1 m1_2 m1_3 m1_4 m1_5) ?_
 intro s0 rcl ih
 show ZE _ _ (lpW _ _ _ _ _ _ _)
 unfold Zaf
 rw [Zah]
 conv => arg 3; whnf
 refine Zd rfl ?_ ?_
 ·conv => arg 3; whnf
  refine Zf _ (ZcO _) fun r6 hr6 => ?_
  conv => arg 3; whnf
  exact Ze (ih _)
 ·conv => arg 3; whnf
  exact Zc rfl
theorem Z2 {t0 : Bool} {t1 : Bool} {t2 : Bool} {t3 : Bool} {b : Int} {c : Int} {m0_0 : (List Int)} {m1_0 : Int} {m1_1 : Int} {m1_2 : (List ZG)} {m1_3 : (List ZM)} {m1_4 : (List Zs)} {m1_5 : (List Zo)} : ∀ r, (ZR b c (fun z0 z1 => Zq z0 z1 m1_4) m0_0) = some r → evW ctx 126 [(.sl 0 1), (.d (Zb b)), (.d (Zb c)), (.fn 118 [(.ptr 1 0)])] [(.arr 1 (List.map Zb m0_0)), (.cells [(.d (Zb m1_0)), (.d (Zb m1_1)), (.d (D.list t0 (List.map ZW m1_2))), (.d (D.list t1 (List.map ZT m1_3))), (.d (D.list t2 (List.map Zx m1_4))), (.d (D.list t3 (List.map Zt m1_5)))])] = some ((Zbt t0 t1 t2 t3 b c m0_0 m1_0 m1_1 m1_2 m1_3 m1_4 m1_5) r) := by
 show ZE _ (fun r rhs => rhs = some ((Zbt t0 t1 t2 t3 b c m0_0 m1_0 m1_1 m1_2 m1_3 m1_4 m1_5) r)) _
 unfold ZR
 rw [Zf1 ctx 126 Zvr _ _ rfl rfl]
 conv => arg 3; whnf
 refine Zf _ (ZcN _) fun r7 hr7 => ?_
 conv => arg 3; whnf
 exact Zc rfl
def ZbV (t0 : Bool) (t1 : Bool) (t2 : Bool) (t3 : Bool) (b : Int) (c : Int) (d : Int) (m0_0 : (List Int)) (m1_0 : Int) (m1_1 : Int) (m1_2 : (List ZG)) (m1_3 : (List ZM)) (m1_4 : (List Zs)) (m1_5 : (List Zo)) : (List Int) → V × Zm
  | r => ((.d (D.tup [])), [(.arr 1 (List.map Zb r)), (.cells [(.d (Zb m1_0)), (.d (Zb m1_1)), (.d (D.list t0 (List.map ZW m1_2))), (.d (D.list t1 (List.map ZT m1_3))), (.d (D.list t2 (List.map Zx m1_4))), (.d (D.list t3 (List.map Zt m1_5)))])])
def ZbF (t0 : Bool) (t1 : Bool) (t2 : Bool) (t3 : Bool) (c : Int) (d : Int) (m1_0 : Int) (m1_1 : Int) (m1_2 : (List ZG)) (m1_3 : (List ZM)) (m1_4 : (List Zs)) (m1_5 : (List Zo)) : ((List Int) ⊕ (List Int)) → Ex × List V × Zm
  | (.inl r) => (.exit 0, [], [(.arr 1 (List.map Zb r)), (.cells [(.d (Zb m1_0)), (.d (Zb m1_1)), (.d (D.list t0 (List.map ZW m1_2))), (.d (D.list t1 (List.map ZT m1_3))), (.d (D.list t2 (List.map Zx m1_4))), (.d (D.list t3 (List.map Zt m1_5)))])])
  | (.inr r) => (.ret, [], [(.arr 1 (List.map Zb r)), (.cells [(.d (Zb m1_0)), (.d (Zb m1_1)), (.d (D.list t0 (List.map ZW m1_2))), (.d (D.list t1 (List.map ZT m1_3))), (.d (D.list t2 (List.map Zx m1_4))), (.d (D.list t3 (List.map Zt m1_5)))])])
theorem Zdt {t0 : Bool} {t1 : Bool} {t2 : Bool} {t3 : Bool} {c : Int} {d : Int} {m1_0 : Int} {m1_1 : Int} {m1_2 : (List ZG)} {m1_3 : (List ZM)} {m1_4 : (List Zs)} {m1_5 : (List Zo)} : ∀ (s0 : Int × (List Int)) (r : ((List Int) ⊕ (List Int))), lp (ZF c d (fun z0 z1 => Zq z0 z1 m1_4)) s0 = some r → lpW ctx 2 [0, 2, 3, 4, 10] [] ZtH [(.sl 0 1), (.d (Zb c)), (.d (Zb d)), (.fn 118 [(.ptr 1 0)]), (.d (Zb s0.1))] [(.arr 1 (List.map Zb s0.2)), (.cells [(.d (Zb m1_0)), (.d (Zb m1_1)), (.d (D.list t0 (List.map ZW m1_2))), (.d (D.list t1 (List.map ZT m1_3))), (.d (D.list t2 (List.map Zx m1_4))), (.d (D.list t3 (List.map Zt m1_5)))])] = some ((ZbF t0 t1 t2 t3 c d m1_0 m1_1 m1_2 m1_3 m1_4 m1_5) r) := by
 refine Zai (ZbF t0 t1 t2 t3 c d m1_0 m1_1 m1_2 m1_3 m1_4 m1_5) ?_
 intro s0 rcl ih
 show ZE _ _ (lpW _ _ _ _ _ _ _)
 unfold ZF
 rw [Zah]
 conv => arg 3; whnf
 refine Zd rfl ?_ ?_
 ·conv => arg 3; whnf
  exact Zc rfl
 ·conv => arg 3; whnf
  refine Zd rfl ?_ ?_
  ·conv => arg 3; whnf
   refine Zk rfl rfl fun x1 hx1 => ?_
   conv => arg 3; whnf
   refine Zg (Zv rfl hx1) ?_
   conv => arg 3; whnf
   refine Zk rfl rfl fun x2 hx2 => ?_
   conv => arg 3; whnf
   refine Zg (Zv rfl hx2) ?_
   conv => arg 3; whnf
   refine Zi _ Zz rfl fun x3 hx3 => ?_
   conv => arg 3; whnf
   refine Zd rfl ?_ ?_
   ·conv => arg 3; whnf
    refine Zk rfl rfl fun x4 hx4 => ?_
    conv => arg 3; whnf
    refine Zg (Zv rfl hx4) ?_
    conv => arg 3; whnf
    refine Zk rfl rfl fun x5 hx5 => ?_
    conv => arg 3; whnf
    refine Zg (Zv rfl hx5) ?_
    conv => arg 3; whnf
    refine Zi _ Zz rfl fun x6 hx6 => ?_
    conv => arg 3; whnf
    refine Zd rfl ?_ ?_
    ·conv => arg 3; whnf
     refine Zg (ZaL rfl hx5) ?_
     conv => arg 3; whnf
     refine Zg (Zv rfl hx5) ?_
     conv => arg 3; whnf
     refine Zg (ZaL rfl hx4) ?_
     conv => arg 3; whnf
     refine Zg (Zv rfl hx4) ?_
     conv => arg 3; whnf
     refine Zg (ZaL rfl hx4) ?_
     conv => arg 3; whnf
     refine Zg (Zv rfl hx4) ?_
     conv => arg 3; whnf
     refine Zl (Zan Zb s0.2 (w64 (d + s0.1)).toNat x5) ?_
     conv => arg 3; whnf
     refine Zk rfl rfl fun x7 hx7 => ?_
     conv => arg 3; whnf
     refine Zg (Zv rfl hx7) ?_
     conv => arg 3; whnf
     refine Zl (Zan Zb (List.set s0.2 (w64 (d + s0.1)).toNat x5) (w64 (d + (w64 ((w64 ((w64 (2 * s0.1)) + 1)) + 1)))).toNat x4) ?_
     conv => arg 3; whnf
     exact Ze (ih _)
    ·conv => arg 3; whnf
     exact Zc rfl
   ·conv => arg 3; whnf
    refine Zk rfl rfl fun x8 hx8 => ?_
    conv => arg 3; whnf
    refine Zg (Zv rfl hx8) ?_
    conv => arg 3; whnf
    refine Zg (ZaL rfl hx1) ?_
    conv => arg 3; whnf
    refine Zg (Zv rfl hx1) ?_
    conv => arg 3; whnf
    refine Zi _ Zz rfl fun x9 hx9 => ?_
    conv => arg 3; whnf
    refine Zd rfl ?_ ?_
    ·conv => arg 3; whnf
     refine Zg (ZaL rfl hx1) ?_
     conv => arg 3; whnf
     refine Zg (Zv rfl hx1) ?_
     conv => arg 3; whnf
     refine Zg (ZaL rfl hx8) ?_
     conv => arg 3; whnf
     refine Zg (Zv rfl hx8) ?_
     conv => arg 3; whnf
     refine Zg (ZaL rfl hx8) ?_
     conv => arg 3; whnf
     refine Zg (Zv rfl hx8) ?_
     conv => arg 3; whnf
     refine Zl (Zan Zb s0.2 (w64 (d + s0.1)).toNat x1) ?_
     conv => arg 3; whnf
     refine Zk rfl rfl fun x10 hx10 => ?_
     conv => arg 3; whnf
     refine Zg (Zv rfl hx10) ?_
     conv => arg 3; whnf
     refine Zl (Zan Zb (List.set s0.2 (w64 (d + s0.1)).toNat x1) (w64 (d + (w64 ((w64 (2 * s0.1)) + 1)))).toNat x8) ?_
     conv => arg 3; whnf
     exact Ze (ih _)
    ·conv => arg 3; whnf
     exact Zc rfl
  ·conv => arg 3; whnf
   refine Zk rfl rfl fun x11 hx11 => ?_
   conv => arg 3; whnf
   refine Zg (Zv rfl hx11) ?_
   conv => arg 3; whnf
   refine Zk rfl rfl fun x12 hx12 => ?_
   conv => arg 3; whnf
   refine Zg (Zv rfl hx12) ?_
   conv => arg 3; whnf
   refine Zi _ Zz rfl fun x13 hx13 => ?_
   conv => arg 3; whnf
   refine Zd rfl ?_ ?_
   ·conv => arg 3; whnf
    refine Zg (ZaL rfl hx12) ?_
    conv => arg 3; whnf
    refine Zg (Zv rfl hx12) ?_
    conv => arg 3; whnf
    refine Zg (ZaL rfl hx11) ?_
    conv => arg 3; whnf
    refine Zg (Zv rfl hx11) ?_
    conv => arg 3; whnf
    refine Zg (ZaL rfl hx11) ?_
    conv => arg 3; whnf
    refine Zg (Zv rfl hx11) ?_
    conv => arg 3; whnf
    refine Zl (Zan Zb s0.2 (w64 (d + s0.1)).toNat x12) ?_
    conv => arg 3; whnf
    refine Zk rfl rfl fun x14 hx14 => ?_
    conv => arg 3; whnf
    refine Zg (Zv rfl hx14) ?_
    conv => arg 3; whnf
    refine Zl (Zan Zb (List.set s0.2 (w64 (d + s0.1)).toNat x12) (w64 (d + (w64 ((w64 (2 * s0.1)) + 1)))).toNat x11) ?_
    conv => arg 3; whnf
    exact Ze (ih _)
   ·conv => arg 3; whnf
    exact Zc rfl
theorem ZbQ {t0 : Bool} {t1 : Bool} {t2 : Bool} {t3 : Bool} {b : Int} {c : Int} {d : Int} {m0_0 : (List Int)} {m1_0 : Int} {m1_1 : Int} {m1_2 : (List ZG)} {m1_3 : (List ZM)} {m1_4 : (List Zs)} {m1_5 : (List Zo)} : ∀ r, (Zaz b c d (fun z0 z1 => Zq z0 z1 m1_4) m0_0) = some r → evW ctx 136 [(.sl 0 1), (.d (Zb b)), (.d (Zb c)), (.d (Zb d)), (.fn 118 [(.ptr 1 0)])] [(.arr 1 (List.map Zb m0_0)), (.cells [(.d (Zb m1_0)), (.d (Zb m1_1)), (.d (D.list t0 (List.map ZW m1_2))), (.d (D.list t1 (List.map ZT m1_3))), (.d (D.list t2 (List.map Zx m1_4))), (.d (D.list t3 (List.map Zt m1_5)))])] = some ((ZbV t0 t1 t2 t3 b c d m0_0 m1_0 m1_1 m1_2 m1_3 m1_4 m1_5) r) := by
 show ZE _ (fun r rhs => rhs = some ((ZbV t0 t1 t2 t3 b c d m0_0 m1_0 m1_1 m1_2 m1_3 m1_4 m1_5) r)) _
 unfold Zaz
 rw [Zf1 ctx 136 Zwn _ _ rfl rfl]
 conv => arg 3; whnf
 refine Zf _ (Zdt _) fun r15 hr15 => ?_
 clear hr15
 rcases r15 with r15 | r15
 ·conv => arg 3; whnf
  exact Zc rfl
 ·conv => arg 3; whnf
  exact Zc rfl
def ZbY (t0 : Bool) (t1 : Bool) (t2 : Bool) (t3 : Bool) (b : Int) (c : Int) (m0_0 : (List Int)) (m1_0 : Int) (m1_1 : Int) (m1_2 : (List ZG)) (m1_3 : (List ZM)) (m1_4 : (List Zs)) (m1_5 : (List Zo)) : (List Int) → V × Zm
  | r => ((.d (D.tup [])), [(.arr 1 (List.map Zb r)), (.cells [(.d (Zb m1_0)), (.d (Zb m1_1)), (.d (D.list t0 (List.map ZW m1_2))), (.d (D.list t1 (List.map ZT m1_3))), (.d (D.list t2 (List.map Zx m1_4))), (.d (D.list t3 (List.map Zt m1_5)))])])
def ZbC (t0 : Bool) (t1 : Bool) (t2 : Bool) (t3 : Bool) (b : Int) (c : Int) (m1_0 : Int) (m1_1 : Int) (m1_2 : (List ZG)) (m1_3 : (List ZM)) (m1_4 : (List Zs)) (m1_5 : (List Zo)) : (List Int) → Ex × List V × Zm
  | r => (.exit 0, [(.sl 0 1), (.fn 118 [(.ptr 1 0)]), (.d (Zb b)), (.d (Zb 0)), (.d (Zb (w64 (c - b))))], [(.arr 1 (List.map Zb r)), (.cells [(.d (Zb m1_0)), (.d (Zb m1_1)), (.d (D.list t0 (List.map ZW m1_2))), (.d (D.list t1 (List.map ZT m1_3))), (.d (D.list t2 (List.map Zx m1_4))), (.d (D.list t3 (List.map Zt m1_5)))])])
theorem Zdz {t0 : Bool} {t1 : Bool} {t2 : Bool} {t3 : Bool} {b : Int} {c : Int} {m1_0 : Int} {m1_1 : Int} {m1_2 : (List ZG)} {m1_3 : (List ZM)} {m1_4 : (List Zs)} {m1_5 : (List Zo)} : ∀ (s0 : Int × (List Int)) (r : (List Int)), lp (ZaC b c (fun z0 z1 => Zq z0 z1 m1_4)) s0 = some r → lpW ctx 2 [0, 3, 8, 9, 10, 11] [0, 3, 8, 9, 10] Zs0 [(.sl 0 1), (.fn 118 [(.ptr 1 0)]), (.d (Zb b)), (.d (Zb 0)), (.d (Zb (w64 (c - b)))), (.d (Zb s0.1))] [(.arr 1 (List.map Zb s0.2)), (.cells [(.d (Zb m1_0)), (.d (Zb m1_1)), (.d (D.list t0 (List.map ZW m1_2))), (.d (D.list t1 (List.map ZT m1_3))), (.d (D.list t2 (List.map Zx m1_4))), (.d (D.list t3 (List.map Zt m1_5)))])] = some ((ZbC t0 t1 t2 t3 b c m1_0 m1_1 m1_2 m1_3 m1_4 m1_5) r) := by
 refine Zai (ZbC t0 t1 t2 t3 b c m1_0 m1_1 m1_2 m1_3 m1_4 m1_5) ?_
 intro s0 rcl ih
 show ZE _ _ (lpW _ _ _ _ _ _ _)
 unfold ZaC
 rw [Zah]
 conv => arg 3; whnf
 refine Zd rfl ?_ ?_
 ·conv => arg 3; whnf
  refine Zf _ ZbQ fun x1 hx1 => ?_
  conv => arg 3; whnf
  exact Ze (ih _)
 ·conv => arg 3; whnf
  exact Zc rfl
def ZbD (t0 : Bool) (t1 : Bool) (t2 : Bool) (t3 : Bool) (b : Int) (m1_0 : Int) (m1_1 : Int) (m1_2 : (List ZG)) (m1_3 : (List ZM)) (m1_4 : (List Zs)) (m1_5 : (List Zo)) : (List Int) → Ex × List V × Zm
  | r => (.exit 2, [], [(.arr 1 (List.map Zb r)), (.cells [(.d (Zb m1_0)), (.d (Zb m1_1)), (.d (D.list t0 (List.map ZW m1_2))), (.d (D.list t1 (List.map ZT m1_3))), (.d (D.list t2 (List.map Zx m1_4))), (.d (D.list t3 (List.map Zt m1_5)))])])
theorem Zdr {t0 : Bool} {t1 : Bool} {t2 : Bool} {t3 : Bool} {b : Int} {m1_0 : Int} {m1_1 : Int} {m1_2 : (List ZG)} {m1_3 : (List ZM)} {m1_4 : (List Zs)} {m1_5 : (List Zo)} : ∀ (s3 : Int × (List Int)) (r : (List Int)), lp (ZaD b (fun z0 z1 => Zq z0 z1 m1_4)) s3 = some r → lpW ctx 2 [0, 3, 8, 9, 12] [] ZtL [(.sl 0 1), (.fn 118 [(.ptr 1 0)]), (.d (Zb b)), (.d (Zb 0)), (.d (Zb s3.1))] [(.arr 1 (List.map Zb s3.2)), (.cells [(.d (Zb m1_0)), (.d (Zb m1_1)), (.d (D.list t0 (List.map ZW m1_2))), (.d (D.list t1 (List.map ZT m1_3))), (.d (D.list t2 (List.map Zx m1_4))), (.d (D.list t3 (List.map Zt m1_5)))])] = some ((ZbD t0 t1 t2 t3 b m1_0 m1_1 m1_2 m1_3 m1_4 m1_5) r) := by
 refine Zai (ZbD t0 t1 t2 t3 b m1_0 m1_1 m1_2 m1_3 m1_4 m1_5) ?_
 intro s3 rcl ih
 show ZE _ _ (lpW _ _ _ _ _ _ _)
 unfold ZaD
 rw [Zah]
 conv => arg 3; whnf
 refine Zd rfl ?_ ?_
 ·conv => arg 3; whnf
  refine Zk rfl rfl fun x4 hx4 => ?_
  conv => arg 3; whnf
  refine Zg (Zv rfl hx4) ?_
  conv => arg 3; whnf
  refine Zk rfl rfl fun x5 hx5 => ?_
  conv => arg 3; whnf
  refine Zg (Zv rfl hx5) ?_
  conv => arg 3; whnf
  refine Zg (ZaL rfl hx5) ?_
  conv => arg 3; whnf
  refine Zg (Zv rfl hx5) ?_
  conv => arg 3; whnf
  refine Zl (Zan Zb s3.2 b.toNat x4) ?_
  conv => arg 3; whnf
  refine Zk rfl rfl fun x6 hx6 => ?_
  conv => arg 3; whnf
  refine Zg (Zv rfl hx6) ?_
  conv => arg 3; whnf
  refine Zl (Zan Zb (List.set s3.2 b.toNat x4) (w64 (b + s3.1)).toNat x5) ?_
  conv => arg 3; whnf
  refine Zf _ ZbQ fun x7 hx7 => ?_
  conv => arg 3; whnf
  exact Ze (ih _)
 ·conv => arg 3; whnf
  exact Zc rfl
theorem Zal {t0 : Bool} {t1 : Bool} {t2 : Bool} {t3 : Bool} {b : Int} {c : Int} {m0_0 : (List Int)} {m1_0 : Int} {m1_1 : Int} {m1_2 : (List ZG)} {m1_3 : (List ZM)} {m1_4 : (List Zs)} {m1_5 : (List Zo)} : ∀ r, (ZZ b c (fun z0 z1 => Zq z0 z1 m1_4) m0_0) = some r → evW ctx 127 [(.sl 0 1), (.d (Zb b)), (.d (Zb c)), (.fn 118 [(.ptr 1 0)])] [(.arr 1 (List.map Zb m0_0)), (.cells [(.d (Zb m1_0)), (.d (Zb m1_1)), (.d (D.list t0 (List.map ZW m1_2))), (.d (D.list t1 (List.map ZT m1_3))), (.d (D.list t2 (List.map Zx m1_4))), (.d (D.list t3 (List.map Zt m1_5)))])] = some ((ZbY t0 t1 t2 t3 b c m0_0 m1_0 m1_1 m1_2 m1_3 m1_4 m1_5) r) := by
 show ZE _ (fun r rhs => rhs = some ((ZbY t0 t1 t2 t3 b c m0_0 m1_0 m1_1 m1_2 m1_3 m1_4 m1_5) r)) _
 unfold ZZ
 rw [Zf1 ctx 127 ZvR _ _ rfl rfl]
 conv => arg 3; whnf
 refine Zaa rfl ?_
 conv => arg 3; whnf
 refine Zf _ (Zdz _) fun r2 hr2 => ?_
 conv => arg 3; whnf
 refine Zf _ (Zdr _) fun r8 hr8 => ?_
 conv => arg 3; whnf
 exact Zc rfl
def Zb5 (t0 : Bool) (t1 : Bool) (t2 : Bool) (t3 : Bool) (b : Int) (c : Int) (m0_0 : (List Int)) (m1_0 : Int) (m2_0 : Int) (m2_1 : Int) (m2_2 : (List ZG)) (m2_3 : (List ZM)) (m2_4 : (List Zs)) (m2_5 : (List Zo)) : (Int × Int × Int) → V × Zm
  | r => ((.d (D.tup [(Zb r.1), (Zb r.2.1)])), [(.arr 1 (List.map Zb m0_0)), (.cells [(.d (Zb r.2.2))]), (.cells [(.d (Zb m2_0)), (.d (Zb m2_1)), (.d (D.list t0 (List.map ZW m2_2))), (.d (D.list t1 (List.map ZT m2_3))), (.d (D.list t2 (List.map Zx m2_4))), (.d (D.list t3 (List.map Zt m2_5)))])])
theorem Za0 {t0 : Bool} {t1 : Bool} {t2 : Bool} {t3 : Bool} {b : Int} {c : Int} {m0_0 : (List Int)} {m1_0 : Int} {m2_0 : Int} {m2_1 : Int} {m2_2 : (List ZG)} {m2_3 : (List ZM)} {m2_4 : (List Zs)} {m2_5 : (List Zo)} : ∀ r, (ZaH b c (fun z0 z1 => Zq z0 z1 m2_4) m0_0 m1_0) = some r → evW ctx 141 [(.sl 0 1), (.d (Zb b)), (.d (Zb c)), (.ptr 1 0), (.fn 118 [(.ptr 2 0)])] [(.arr 1 (List.map Zb m0_0)), (.cells [(.d (Zb m1_0))]), (.cells [(.d (Zb m2_0)), (.d (Zb m2_1)), (.d (D.list t0 (List.map ZW m2_2))), (.d (D.list t1 (List.map ZT m2_3))), (.d (D.list t2 (List.map Zx m2_4))), (.d (D.list t3 (List.map Zt m2_5)))])] = some ((Zb5 t0 t1 t2 t3 b c m0_0 m1_0 m2_0 m2_1 m2_2 m2_3 m2_4 m2_5) r) := by
 show ZE _ (fun r rhs => rhs = some ((Zb5 t0 t1 t2 t3 b c m0_0 m1_0 m2_0 m2_1 m2_2 m2_3 m2_4 m2_5) r)) _
 unfold ZaH
 rw [Zf1 ctx 141 ZwJ _ _ rfl rfl]
 conv => arg 3; whnf
 refine Zk rfl rfl fun x0 hx0 => ?_
 conv => arg 3; whnf
 refine Zg (Zv rfl hx0) ?_
 conv => arg 3; whnf
 refine Zk rfl rfl fun x1 hx1 => ?_
 conv => arg 3; whnf
 refine Zg (Zv rfl hx1) ?_
 conv => arg 3; whnf
 refine Zi _ Zz rfl fun x2 hx2 => ?_
 conv => arg 3; whnf
 refine Zd rfl ?_ ?_
 ·conv => arg 3; whnf
  exact Zc rfl
 ·conv => arg 3; whnf
  exact Zc rfl
def Zb8 (t0 : Bool) (t1 : Bool) (t2 : Bool) (t3 : Bool) (b : Int) (c : Int) (d : Int) (m0_0 : (List Int)) (m1_0 : Int) (m2_0 : Int) (m2_1 : Int) (m2_2 : (List ZG)) (m2_3 : (List ZM)) (m2_4 : (List Zs)) (m2_5 : (List Zo)) : (Int × Int) → V × Zm
  | r => ((.d (Zb r.1)), [(.arr 1 (List.map Zb m0_0)), (.cells [(.d (Zb r.2))]), (.cells [(.d (Zb m2_0)), (.d (Zb m2_1)), (.d (D.list t0 (List.map ZW m2_2))), (.d (D.list t1 (List.map ZT m2_3))), (.d (D.list t2 (List.map Zx m2_4))), (.d (D.list t3 (List.map Zt m2_5)))])])
theorem ZaZ {t0 : Bool} {t1 : Bool} {t2 : Bool} {t3 : Bool} {b : Int} {c : Int} {d : Int} {m0_0 : (List Int)} {m1_0 : Int} {m2_0 : Int} {m2_1 : Int} {m2_2 : (List ZG)} {m2_3 : (List ZM)} {m2_4 : (List Zs)} {m2_5 : (List Zo)} : ∀ r, (ZaI b c d (fun z0 z1 => Zq z0 z1 m2_4) m0_0 m1_0) = some r → evW ctx 140 [(.sl 0 1), (.d (Zb b)), (.d (Zb c)), (.d (Zb d)), (.ptr 1 0), (.fn 118 [(.ptr 2 0)])] [(.arr 1 (List.map Zb m0_0)), (.cells [(.d (Zb m1_0))]), (.cells [(.d (Zb m2_0)), (.d (Zb m2_1)), (.d (D.list t0 (List.map ZW m2_2))), (.d (D.list t1 (List.map ZT m2_3))), (.d (D.list t2 (List.map Zx m2_4))), (.d (D.list t3 (List.map Zt m2_5)))])] = some ((Zb8 t0 t1 t2 t3 b c d m0_0 m1_0 m2_0 m2_1 m2_2 m2_3 m2_4 m2_5) r) := by
 show ZE _ (fun r rhs => rhs = some ((Zb8 t0 t1 t2 t3 b c d m0_0 m1_0 m2_0 m2_1 m2_2 m2_3 m2_4 m2_5) r)) _
 unfold ZaI
 rw [Zf1 ctx 140 ZuH _ _ rfl rfl]
 conv => arg 3; whnf
 refine Zf _ Za0 fun x0 hx0 => ?_
 conv => arg 3; whnf
 refine Zf _ Za0 fun x1 hx1 => ?_
 conv => arg 3; whnf
 refine Zf _ Za0 fun x2 hx2 => ?_
 conv => arg 3; whnf
 exact Zc rfl
def Zbo (t0 : Bool) (t1 : Bool) (t2 : Bool) (t3 : Bool) (b : Int) (m0_0 : (List Int)) (m1_0 : Int) (m2_0 : Int) (m2_1 : Int) (m2_2 : (List ZG)) (m2_3 : (List ZM)) (m2_4 : (List Zs)) (m2_5 : (List Zo)) : (Int × Int) → V × Zm
  | r => ((.d (Zb r.1)), [(.arr 1 (List.map Zb m0_0)), (.cells [(.d (Zb r.2))]), (.cells [(.d (Zb m2_0)), (.d (Zb m2_1)), (.d (D.list t0 (List.map ZW m2_2))), (.d (D.list t1 (List.map ZT m2_3))), (.d (D.list t2 (List.map Zx m2_4))), (.d (D.list t3 (List.map Zt m2_5)))])])
theorem ZaA {t0 : Bool} {t1 : Bool} {t2 : Bool} {t3 : Bool} {b : Int} {m0_0 : (List Int)} {m1_0 : Int} {m2_0 : Int} {m2_1 : Int} {m2_2 : (List ZG)} {m2_3 : (List ZM)} {m2_4 : (List Zs)} {m2_5 : (List Zo)} : ∀ r, (Z1 b (fun z0 z1 => Zq z0 z1 m2_4) m0_0 m1_0) = some r → evW ctx 139 [(.sl 0 1), (.d (Zb b)), (.ptr 1 0), (.fn 118 [(.ptr 2 0)])] [(.arr 1 (List.map Zb m0_0)), (.cells [(.d (Zb m1_0))]), (.cells [(.d (Zb m2_0)), (.d (Zb m2_1)), (.d (D.list t0 (List.map ZW m2_2))), (.d (D.list t1 (List.map ZT m2_3))), (.d (D.list t2 (List.map Zx m2_4))), (.d (D.list t3 (List.map Zt m2_5)))])] = some ((Zbo t0 t1 t2 t3 b m0_0 m1_0 m2_0 m2_1 m2_2 m2_3 m2_4 m2_5) r) := by
 show ZE _ (fun r rhs => rhs = some ((Zbo t0 t1 t2 t3 b m0_0 m1_0 m2_0 m2_1 m2_2 m2_3 m2_4 m2_5) r)) _
 unfold Z1
 rw [Zf1 ctx 139 ZuG _ _ rfl rfl]
 conv => arg 3; whnf
 refine Zf _ ZaZ fun x0 hx0 => ?_
 conv => arg 3; whnf
 exact Zc rfl
def ZbE (t0 : Bool) (t1 : Bool) (t2 : Bool) (t3 : Bool) (b : Int) (c : Int) (m0_0 : (List Int)) (m1_0 : Int) (m1_1 : Int) (m1_2 : (List ZG)) (m1_3 : (List ZM)) (m1_4 : (List Zs)) (m1_5 : (List Zo)) : (Int × Int) → V × Zm
  | r => ((.d (D.tup [(Zb r.1), (Zb r.2)])), [(.arr 1 (List.map Zb m0_0)), (.cells [(.d (Zb m1_0)), (.d (Zb m1_1)), (.d (D.list t0 (List.map ZW m1_2))), (.d (D.list t1 (List.map ZT m1_3))), (.d (D.list t2 (List.map Zx m1_4))), (.d (D.list t3 (List.map Zt m1_5)))])])
theorem Zad {t0 : Bool} {t1 : Bool} {t2 : Bool} {t3 : Bool} {b : Int} {c : Int} {m0_0 : (List Int)} {m1_0 : Int} {m1_1 : Int} {m1_2 : (List ZG)} {m1_3 : (List ZM)} {m1_4 : (List Zs)} {m1_5 : (List Zo)} : ∀ r, (ZJ b c (fun z0 z1 => Zq z0 z1 m1_4) m0_0) = some r → evW ctx 129 [(.sl 0 1), (.d (Zb b)), (.d (Zb c)), (.fn 118 [(.ptr 1 0)])] [(.arr 1 (List.map Zb m0_0)), (.cells [(.d (Zb m1_0)), (.d (Zb m1_1)), (.d (D.list t0 (List.map ZW m1_2))), (.d (D.list t1 (List.map ZT m1_3))), (.d (D.list t2 (List.map Zx m1_4))), (.d (D.list t3 (List.map Zt m1_5)))])] = some ((ZbE t0 t1 t2 t3 b c m0_0 m1_0 m1_1 m1_2 m1_3 m1_4 m1_5) r) := by
 show ZE _ (fun r rhs => rhs = some ((ZbE t0 t1 t2 t3 b c m0_0 m1_0 m1_1 m1_2 m1_3 m1_4 m1_5) r)) _
 unfold ZJ
 rw [Zf1 ctx 129 ZuT _ _ rfl rfl]
 conv => arg 3; whnf
 refine Zaa rfl ?_
 conv => arg 3; whnf
 refine Zaa rfl ?_
 conv => arg 3; whnf
 refine Zaa rfl ?_
 conv => arg 3; whnf
 refine Zd rfl ?_ ?_
 ·conv => arg 3; whnf
  refine Zd rfl ?_ ?_
  ·conv => arg 3; whnf
   refine Zf _ ZaA fun x0 hx0 => ?_
   conv => arg 3; whnf
   refine Zf _ ZaA fun x1 hx1 => ?_
   conv => arg 3; whnf
   refine Zf _ ZaA fun x2 hx2 => ?_
   conv => arg 3; whnf
   refine Zf _ ZaZ fun x3 hx3 => ?_
   conv => arg 3; whnf
   refine Zd rfl ?_ ?_
   ·conv => arg 3; whnf
    exact Zc rfl
   ·conv => arg 3; whnf
    refine Zd rfl ?_ ?_
    ·conv => arg 3; whnf
     exact Zc rfl
    ·conv => arg 3; whnf
     exact Zc rfl
  ·conv => arg 3; whnf
   refine Zf _ ZaZ fun x4 hx4 => ?_
   conv => arg 3; whnf
   refine Zd rfl ?_ ?_
   ·conv => arg 3; whnf
    exact Zc rfl
   ·conv => arg 3; whnf
    refine Zd rfl ?_ ?_
    ·conv => arg 3; whnf
     exact Zc rfl
    ·conv => arg 3; whnf
     exact Zc rfl
 ·conv => arg 3; whnf
  refine ZbP rfl ?_
  conv => arg 3; whnf
  exact Zc rfl
def ZbA (t0 : Bool) (t1 : Bool) (t2 : Bool) (t3 : Bool) (b : Int) (c : Int) (m0_0 : (List Int)) (m1_0 : Int) (m1_1 : Int) (m1_2 : (List ZG)) (m1_3 : (List ZM)) (m1_4 : (List Zs)) (m1_5 : (List Zo)) : (List Int) → V × Zm
  | r => ((.d (D.tup [])), [(.arr 1 (List.map Zb r)), (.cells [(.d (Zb m1_0)), (.d (Zb m1_1)), (.d (D.list t0 (List.map ZW m1_2))), (.d (D.list t1 (List.map ZT m1_3))), (.d (D.list t2 (List.map Zx m1_4))), (.d (D.list t3 (List.map Zt m1_5)))])])
def Zbj (t0 : Bool) (t1 : Bool) (t2 : Bool) (t3 : Bool) (m1_0 : Int) (m1_1 : Int) (m1_2 : (List ZG)) (m1_3 : (List ZM)) (m1_4 : (List Zs)) (m1_5 : (List Zo)) : (List Int) → Ex × List V × Zm
  | r => (.exit 0, [], [(.arr 1 (List.map Zb r)), (.cells [(.d (Zb m1_0)), (.d (Zb m1_1)), (.d (D.list t0 (List.map ZW m1_2))), (.d (D.list t1 (List.map ZT m1_3))), (.d (D.list t2 (List.map Zx m1_4))), (.d (D.list t3 (List.map Zt m1_5)))])])
theorem ZcX {t0 : Bool} {t1 : Bool} {t2 : Bool} {t3 : Bool} {m1_0 : Int} {m1_1 : Int} {m1_2 : (List ZG)} {m1_3 : (List ZM)} {m1_4 : (List Zs)} {m1_5 : (List Zo)} : ∀ (s0 : Int × Int × (List Int)) (r : (List Int)), lp (ZY) s0 = some r → lpW ctx 2 [0, 8, 9] [] Zti [(.sl 0 1), (.d (Zb s0.1)), (.d (Zb s0.2.1))] [(.arr 1 (List.map Zb s0.2.2)), (.cells [(.d (Zb m1_0)), (.d (Zb m1_1)), (.d (D.list t0 (List.map ZW m1_2))), (.d (D.list t1 (List.map ZT m1_3))), (.d (D.list t2 (List.map Zx m1_4))), (.d (D.list t3 (List.map Zt m1_5)))])] = some ((Zbj t0 t1 t2 t3 m1_0 m1_1 m1_2 m1_3 m1_4 m1_5) r) := by
 refine Zai (Zbj t0 t1 t2 t3 m1_0 m1_1 m1_2 m1_3 m1_4 m1_5) ?_
 intro s0 rcl ih
 show ZE _ _ (lpW _ _ _ _ _ _ _)
 unfold ZY
 rw [Zah]
 conv => arg 3; whnf
 refine Zd rfl ?_ ?_
 ·conv => arg 3; whnf
  refine Zk rfl rfl fun x1 hx1 => ?_
  conv => arg 3; whnf
  refine Zg (Zv rfl hx1) ?_
  conv => arg 3; whnf
  refine Zk rfl rfl fun x2 hx2 => ?_
  conv => arg 3; whnf
  refine Zg (Zv rfl hx2) ?_
  conv => arg 3; whnf
  refine Zg (ZaL rfl hx2) ?_
  conv => arg 3; whnf
  refine Zg (Zv rfl hx2) ?_
  conv => arg 3; whnf
  refine Zl (Zan Zb s0.2.2 s0.1.toNat x1) ?_
  conv => arg 3; whnf
  refine Zk rfl rfl fun x3 hx3 => ?_
  conv => arg 3; whnf
  refine Zg (Zv rfl hx3) ?_
  conv => arg 3; whnf
  refine Zl (Zan Zb (List.set s0.2.2 s0.1.toNat x1) s0.2.1.toNat x2) ?_
  conv => arg 3; whnf
  exact Ze (ih _)
 ·conv => arg 3; whnf
  exact Zc rfl
theorem Z8 {t0 : Bool} {t1 : Bool} {t2 : Bool} {t3 : Bool} {b : Int} {c : Int} {m0_0 : (List Int)} {m1_0 : Int} {m1_1 : Int} {m1_2 : (List ZG)} {m1_3 : (List ZM)} {m1_4 : (List Zs)} {m1_5 : (List Zo)} : ∀ r, (ZI b c (fun z0 z1 => Zq z0 z1 m1_4) m0_0) = some r → evW ctx 130 [(.sl 0 1), (.d (Zb b)), (.d (Zb c)), (.fn 118 [(.ptr 1 0)])] [(.arr 1 (List.map Zb m0_0)), (.cells [(.d (Zb m1_0)), (.d (Zb m1_1)), (.d (D.list t0 (List.map ZW m1_2))), (.d (D.list t1 (List.map ZT m1_3))), (.d (D.list t2 (List.map Zx m1_4))), (.d (D.list t3 (List.map Zt m1_5)))])] = some ((ZbA t0 t1 t2 t3 b c m0_0 m1_0 m1_1 m1_2 m1_3 m1_4 m1_5) r) := by
 show ZE _ (fun r rhs => rhs = some ((ZbA t0 t1 t2 t3 b c m0_0 m1_0 m1_1 m1_2 m1_3 m1_4 m1_5) r)) _
 unfold ZI
 rw [Zf1 ctx 130 Zw4 _ _ rfl rfl]
 conv => arg 3; whnf
 refine Zf _ (ZcX _) fun r4 hr4 => ?_
 conv => arg 3; whnf
 exact Zc rfl
def Za2 (t0 : Bool) (t1 : Bool) (t2 : Bool) (t3 : Bool) (b : Int) (c : Int) (m0_0 : (List Int)) (m1_0 : Int) (m1_1 : Int) (m1_2 : (List ZG)) (m1_3 : (List ZM)) (m1_4 : (List Zs)) (m1_5 : (List Zo)) : ((List Int) ⊕ (List Int)) → V × Zm
  | (.inl r) => ((.d (D.bool true)), [(.arr 1 (List.map Zb r)), (.cells [(.d (Zb m1_0)), (.d (Zb m1_1)), (.d (D.list t0 (List.map ZW m1_2))), (.d (D.list t1 (List.map ZT m1_3))), (.d (D.list t2 (List.map Zx m1_4))), (.d (D.list t3 (List.map Zt m1_5)))])])
  | (.inr r) => ((.d (D.bool false)), [(.arr 1 (List.map Zb r)), (.cells [(.d (Zb m1_0)), (.d (Zb m1_1)), (.d (D.list t0 (List.map ZW m1_2))), (.d (D.list t1 (List.map ZT m1_3))), (.d (D.list t2 (List.map Zx m1_4))), (.d (D.list t3 (List.map Zt m1_5)))])])
def ZaR (t0 : Bool) (t1 : Bool) (t2 : Bool) (t3 : Bool) (b : Int) (c : Int) (m1_0 : Int) (m1_1 : Int) (m1_2 : (List ZG)) (m1_3 : (List ZM)) (m1_4 : (List Zs)) (m1_5 : (List Zo)) (s0 : Int × Int × (List Int)) : Int → Ex × List V × Zm
  | r => (.exit 2, [(.sl 0 1), (.d (Zb b)), (.d (Zb c)), (.fn 118 [(.ptr 1 0)]), (.d (Zb r)), (.d (Zb s0.2.1))], [(.arr 1 (List.map Zb s0.2.2)), (.cells [(.d (Zb m1_0)), (.d (Zb m1_1)), (.d (D.list t0 (List.map ZW m1_2))), (.d (D.list t1 (List.map ZT m1_3))), (.d (D.list t2 (List.map Zx m1_4))), (.d (D.list t3 (List.map Zt m1_5)))])])
theorem Zcg {t0 : Bool} {t1 : Bool} {t2 : Bool} {t3 : Bool} {b : Int} {c : Int} {m1_0 : Int} {m1_1 : Int} {m1_2 : (List ZG)} {m1_3 : (List ZM)} {m1_4 : (List Zs)} {m1_5 : (List Zo)} {s0 : Int × Int × (List Int)} : ∀ (s1 : Int) (r : Int), lp (ZH c (fun z0 z1 => Zq z0 z1 m1_4) s0) s1 = some r → lpW ctx 2 [0, 1, 2, 3, 9, 10] [0, 1, 2, 3, 9, 10] Ztw [(.sl 0 1), (.d (Zb b)), (.d (Zb c)), (.fn 118 [(.ptr 1 0)]), (.d (Zb s1)), (.d (Zb s0.2.1))] [(.arr 1 (List.map Zb s0.2.2)), (.cells [(.d (Zb m1_0)), (.d (Zb m1_1)), (.d (D.list t0 (List.map ZW m1_2))), (.d (D.list t1 (List.map ZT m1_3))), (.d (D.list t2 (List.map Zx m1_4))), (.d (D.list t3 (List.map Zt m1_5)))])] = some ((ZaR t0 t1 t2 t3 b c m1_0 m1_1 m1_2 m1_3 m1_4 m1_5 s0) r) := by
 refine Zai (ZaR t0 t1 t2 t3 b c m1_0 m1_1 m1_2 m1_3 m1_4 m1_5 s0) ?_
 intro s1 rcl ih
 show ZE _ _ (lpW _ _ _ _ _ _ _)
 unfold ZH
 rw [Zah]
 conv => arg 3; whnf
 refine Zd rfl ?_ ?_
 ·conv => arg 3; whnf
  refine Zk rfl rfl fun x2 hx2 => ?_
  conv => arg 3; whnf
  refine Zg (Zv rfl hx2) ?_
  conv => arg 3; whnf
  refine Zk rfl rfl fun x3 hx3 => ?_
  conv => arg 3; whnf
  refine Zg (Zv rfl hx3) ?_
  conv => arg 3; whnf
  refine Zi _ Zz rfl fun x4 hx4 => ?_
  conv => arg 3; whnf
  refine Zd rfl ?_ ?_
  ·conv => arg 3; whnf
   exact Zc rfl
  ·conv => arg 3; whnf
   exact Ze (ih _)
 ·conv => arg 3; whnf
  exact Zc rfl
def ZaQ (t0 : Bool) (t1 : Bool) (t2 : Bool) (t3 : Bool) (b : Int) (c : Int) (m1_0 : Int) (m1_1 : Int) (m1_2 : (List ZG)) (m1_3 : (List ZM)) (m1_4 : (List Zs)) (m1_5 : (List Zo)) (s0 : Int × Int × (List Int)) (r5 : Int) : (List Int) → Ex × List V × Zm
  | r => (.exit 4, [(.sl 0 1), (.d (Zb b)), (.d (Zb c)), (.fn 118 [(.ptr 1 0)]), (.d (Zb r5)), (.d (Zb s0.2.1))], [(.arr 1 (List.map Zb r)), (.cells [(.d (Zb m1_0)), (.d (Zb m1_1)), (.d (D.list t0 (List.map ZW m1_2))), (.d (D.list t1 (List.map ZT m1_3))), (.d (D.list t2 (List.map Zx m1_4))), (.d (D.list t3 (List.map Zt m1_5)))])])
theorem Zcl {t0 : Bool} {t1 : Bool} {t2 : Bool} {t3 : Bool} {b : Int} {c : Int} {m1_0 : Int} {m1_1 : Int} {m1_2 : (List ZG)} {m1_3 : (List ZM)} {m1_4 : (List Zs)} {m1_5 : (List Zo)} {s0 : Int × Int × (List Int)} {r5 : Int} : ∀ (s9 : Int × (List Int)) (r : (List Int)), lp (ZO (fun z0 z1 => Zq z0 z1 m1_4)) s9 = some r → lpW ctx 2 [0, 1, 2, 3, 9, 10, 11] [0, 1, 2, 3, 9, 10] ZtB [(.sl 0 1), (.d (Zb b)), (.d (Zb c)), (.fn 118 [(.ptr 1 0)]), (.d (Zb r5)), (.d (Zb s0.2.1)), (.d (Zb s9.1))] [(.arr 1 (List.map Zb s9.2)), (.cells [(.d (Zb m1_0)), (.d (Zb m1_1)), (.d (D.list t0 (List.map ZW m1_2))), (.d (D.list t1 (List.map ZT m1_3))), (.d (D.list t2 (List.map Zx m1_4))), (.d (D.list t3 (List.map Zt m1_5)))])] = some ((ZaQ t0 t1 t2 t3 b c m1_0 m1_1 m1_2 m1_3 m1_4 m1_5 s0 r5) r) := by
 refine Zai (ZaQ t0 t1 t2 t3 b c m1_0 m1_1 m1_2 m1_3 m1_4 m1_5 s0 r5) ?_
 intro s9 rcl ih
 show ZE _ _ (lpW _ _ _ _ _ _ _)
 unfold ZO
 rw [Zah]
 conv => arg 3; whnf
 refine Zd rfl ?_ ?_
 ·conv => arg 3; whnf
  refine Zk rfl rfl fun x10 hx10 => ?_
  conv => arg 3; whnf
  refine Zg (Zv rfl hx10) ?_
  conv => arg 3; whnf
  refine Zk rfl rfl fun x11 hx11 => ?_
  conv => arg 3; whnf
  refine Zg (Zv rfl hx11) ?_
  conv => arg 3; whnf
  refine Zi _ Zz rfl fun x12 hx12 => ?_
  conv => arg 3; whnf
  refine Zd rfl ?_ ?_
  ·conv => arg 3; whnf
   refine Zg (ZaL rfl hx11) ?_
   conv => arg 3; whnf
   refine Zg (Zv rfl hx11) ?_
   conv => arg 3; whnf
   refine Zg (ZaL rfl hx10) ?_
   conv => arg 3; whnf
   refine Zg (Zv rfl hx10) ?_
   conv => arg 3; whnf
   refine Zg (ZaL rfl hx10) ?_
   conv => arg 3; whnf
   refine Zg (Zv rfl hx10) ?_
   conv => arg 3; whnf
   refine Zl (Zan Zb s9.2 s9.1.toNat x11) ?_
   conv => arg 3; whnf
   refine Zk rfl rfl fun x13 hx13 => ?_
   conv => arg 3; whnf
   refine Zg (Zv rfl hx13) ?_
   conv => arg 3; whnf
   refine Zl (Zan Zb (List.set s9.2 s9.1.toNat x11) (w64 (s9.1 - 1)).toNat x10) ?_
   conv => arg 3; whnf
   exact Ze (ih _)
  ·conv => arg 3; whnf
   exact Zc rfl
 ·conv => arg 3; whnf
  exact Zc rfl
def ZaT (t0 : Bool) (t1 : Bool) (t2 : Bool) (t3 : Bool) (b : Int) (c : Int) (m1_0 : Int) (m1_1 : Int) (m1_2 : (List ZG)) (m1_3 : (List ZM)) (m1_4 : (List Zs)) (m1_5 : (List Zo)) (s0 : Int × Int × (List Int)) (r5 : Int) : (List Int) → Ex × List V × Zm
  | r => (.exit 6, [(.sl 0 1), (.d (Zb b)), (.d (Zb c)), (.fn 118 [(.ptr 1 0)]), (.d (Zb r5)), (.d (Zb s0.2.1))], [(.arr 1 (List.map Zb r)), (.cells [(.d (Zb m1_0)), (.d (Zb m1_1)), (.d (D.list t0 (List.map ZW m1_2))), (.d (D.list t1 (List.map ZT m1_3))), (.d (D.list t2 (List.map Zx m1_4))), (.d (D.list t3 (List.map Zt m1_5)))])])
theorem Zcf {t0 : Bool} {t1 : Bool} {t2 : Bool} {t3 : Bool} {b : Int} {c : Int} {m1_0 : Int} {m1_1 : Int} {m1_2 : (List ZG)} {m1_3 : (List ZM)} {m1_4 : (List Zs)} {m1_5 : (List Zo)} {s0 : Int × Int × (List Int)} {r5 : Int} : ∀ (s15 : Int × (List Int)) (r : (List Int)), lp (ZD c (fun z0 z1 => Zq z0 z1 m1_4)) s15 = some r → lpW ctx 2 [0, 1, 2, 3, 9, 10, 12] [0, 1, 2, 3, 9, 10] Zqz [(.sl 0 1), (.d (Zb b)), (.d (Zb c)), (.fn 118 [(.ptr 1 0)]), (.d (Zb r5)), (.d (Zb s0.2.1)), (.d (Zb s15.1))] [(.arr 1 (List.map Zb s15.2)), (.cells [(.d (Zb m1_0)), (.d (Zb m1_1)), (.d (D.list t0 (List.map ZW m1_2))), (.d (D.list t1 (List.map ZT m1_3))), (.d (D.list t2 (List.map Zx m1_4))), (.d (D.list t3 (List.map Zt m1_5)))])] = some ((ZaT t0 t1 t2 t3 b c m1_0 m1_1 m1_2 m1_3 m1_4 m1_5 s0 r5) r) := by
 refine Zai (ZaT t0 t1 t2 t3 b c m1_0 m1_1 m1_2 m1_3 m1_4 m1_5 s0 r5) ?_
 intro s15 rcl ih
 show ZE _ _ (lpW _ _ _ _ _ _ _)
 unfold ZD
 rw [Zah]
 conv => arg 3; whnf
 refine Zd rfl ?_ ?_
 ·conv => arg 3; whnf
  refine Zk rfl rfl fun x16 hx16 => ?_
  conv => arg 3; whnf
  refine Zg (Zv rfl hx16) ?_
  conv => arg 3; whnf
  refine Zk rfl rfl fun x17 hx17 => ?_
  conv => arg 3; whnf
  refine Zg (Zv rfl hx17) ?_
  conv => arg 3; whnf
  refine Zi _ Zz rfl fun x18 hx18 => ?_
  conv => arg 3; whnf
  refine Zd rfl ?_ ?_
  ·conv => arg 3; whnf
   refine Zg (ZaL rfl hx17) ?_
   conv => arg 3; whnf
   refine Zg (Zv rfl hx17) ?_
   conv => arg 3; whnf
   refine Zg (ZaL rfl hx16) ?_
   conv => arg 3; whnf
   refine Zg (Zv rfl hx16) ?_
   conv => arg 3; whnf
   refine Zg (ZaL rfl hx16) ?_
   conv => arg 3; whnf
   refine Zg (Zv rfl hx16) ?_
   conv => arg 3; whnf
   refine Zl (Zan Zb s15.2 s15.1.toNat x17) ?_
   conv => arg 3; whnf
   refine Zk rfl rfl fun x19 hx19 => ?_
   conv => arg 3; whnf
   refine Zg (Zv rfl hx19) ?_
   conv => arg 3; whnf
   refine Zl (Zan Zb (List.set s15.2 s15.1.toNat x17) (w64 (s15.1 - 1)).toNat x16) ?_
   conv => arg 3; whnf
   exact Ze (ih _)
  ·conv => arg 3; whnf
   exact Zc rfl
 ·conv => arg 3; whnf
  exact Zc rfl
def ZaM (t0 : Bool) (t1 : Bool) (t2 : Bool) (t3 : Bool) (b : Int) (c : Int) (m1_0 : Int) (m1_1 : Int) (m1_2 : (List ZG)) (m1_3 : (List ZM)) (m1_4 : (List Zs)) (m1_5 : (List Zo)) (s0 : Int × Int × (List Int)) (r5 : Int) : (List Int) → Ex × List V × Zm
  | r => (.exit 6, [(.sl 0 1), (.d (Zb b)), (.d (Zb c)), (.fn 118 [(.ptr 1 0)]), (.d (Zb r5)), (.d (Zb s0.2.1))], [(.arr 1 (List.map Zb r)), (.cells [(.d (Zb m1_0)), (.d (Zb m1_1)), (.d (D.list t0 (List.map ZW m1_2))), (.d (D.list t1 (List.map ZT m1_3))), (.d (D.list t2 (List.map Zx m1_4))), (.d (D.list t3 (List.map Zt m1_5)))])])
theorem Zcc {t0 : Bool} {t1 : Bool} {t2 : Bool} {t3 : Bool} {b : Int} {c : Int} {m1_0 : Int} {m1_1 : Int} {m1_2 : (List ZG)} {m1_3 : (List ZM)} {m1_4 : (List Zs)} {m1_5 : (List Zo)} {s0 : Int × Int × (List Int)} {r5 : Int} : ∀ (s21 : Int × (List Int)) (r : (List Int)), lp (Zao c (fun z0 z1 => Zq z0 z1 m1_4)) s21 = some r → lpW ctx 2 [0, 1, 2, 3, 9, 10, 12] [0, 1, 2, 3, 9, 10] Zqz [(.sl 0 1), (.d (Zb b)), (.d (Zb c)), (.fn 118 [(.ptr 1 0)]), (.d (Zb r5)), (.d (Zb s0.2.1)), (.d (Zb s21.1))] [(.arr 1 (List.map Zb s21.2)), (.cells [(.d (Zb m1_0)), (.d (Zb m1_1)), (.d (D.list t0 (List.map ZW m1_2))), (.d (D.list t1 (List.map ZT m1_3))), (.d (D.list t2 (List.map Zx m1_4))), (.d (D.list t3 (List.map Zt m1_5)))])] = some ((ZaM t0 t1 t2 t3 b c m1_0 m1_1 m1_2 m1_3 m1_4 m1_5 s0 r5) r) := by
 refine Zai (ZaM t0 t1 t2 t3 b c m1_0 m1_1 m1_2 m1_3 m1_4 m1_5 s0 r5) ?_
 intro s21 rcl ih
 show ZE _ _ (lpW _ _ _ _ _ _ _)
 unfold Zao
 rw [Zah]
 conv => arg 3; whnf
 refine Zd rfl ?_ ?_
 ·conv => arg 3; whnf
  refine Zk rfl rfl fun x22 hx22 => ?_
  conv => arg 3; whnf
  refine Zg (Zv rfl hx22) ?_
  conv => arg 3; whnf
  refine Zk rfl rfl fun x23 hx23 => ?_
  conv => arg 3; whnf
  refine Zg (Zv rfl hx23) ?_
  conv => arg 3; whnf
  refine Zi _ Zz rfl fun x24 hx24 => ?_
  conv => arg 3; whnf
  refine Zd rfl ?_ ?_
  ·conv => arg 3; whnf
   refine Zg (ZaL rfl hx23) ?_
   conv => arg 3; whnf
   refine Zg (Zv rfl hx23) ?_
   conv => arg 3; whnf
   refine Zg (ZaL rfl hx22) ?_
   conv => arg 3; whnf
   refine Zg (Zv rfl hx22) ?_
   conv => arg 3; whnf
   refine Zg (ZaL rfl hx22) ?_
   conv => arg 3; whnf
   refine Zg (Zv rfl hx22) ?_
   conv => arg 3; whnf
   refine Zl (Zan Zb s21.2 s21.1.toNat x23) ?_
   conv => arg 3; whnf
   refine Zk rfl rfl fun x25 hx25 => ?_
   conv => arg 3; whnf
   refine Zg (Zv rfl hx25) ?_
   conv => arg 3; whnf
   refine Zl (Zan Zb (List.set s21.2 s21.1.toNat x23) (w64 (s21.1 - 1)).toNat x22) ?_
   conv => arg 3; whnf
   exact Ze (ih _)
  ·conv => arg 3; whnf
   exact Zc rfl
 ·conv => arg 3; whnf
  exact Zc rfl
def ZaS (t0 : Bool) (t1 : Bool) (t2 : Bool) (t3 : Bool) (b : Int) (c : Int) (m1_0 : Int) (m1_1 : Int) (m1_2 : (List ZG)) (m1_3 : (List ZM)) (m1_4 : (List Zs)) (m1_5 : (List Zo)) : ((List Int) ⊕ ((List Int) ⊕ (List Int))) → Ex × List V × Zm
  | (.inl r) => (.ret, [(.d (D.bool true))], [(.arr 1 (List.map Zb r)), (.cells [(.d (Zb m1_0)), (.d (Zb m1_1)), (.d (D.list t0 (List.map ZW m1_2))), (.d (D.list t1 (List.map ZT m1_3))), (.d (D.list t2 (List.map Zx m1_4))), (.d (D.list t3 (List.map Zt m1_5)))])])
  | (.inr (.inl r)) => (.ret, [(.d (D.bool false))], [(.arr 1 (List.map Zb r)), (.cells [(.d (Zb m1_0)), (.d (Zb m1_1)), (.d (D.list t0 (List.map ZW m1_2))), (.d (D.list t1 (List.map ZT m1_3))), (.d (D.list t2 (List.map Zx m1_4))), (.d (D.list t3 (List.map Zt m1_5)))])])
  | (.inr (.inr r)) => (.exit 0, [.bad], [(.arr 1 (List.map Zb r)), (.cells [(.d (Zb m1_0)), (.d (Zb m1_1)), (.d (D.list t0 (List.map ZW m1_2))), (.d (D.list t1 (List.map ZT m1_3))), (.d (D.list t2 (List.map Zx m1_4))), (.d (D.list t3 (List.map Zt m1_5)))])])
theorem Zcj {t0 : Bool} {t1 : Bool} {t2 : Bool} {t3 : Bool} {b : Int} {c : Int} {m1_0 : Int} {m1_1 : Int} {m1_2 : (List ZG)} {m1_3 : (List ZM)} {m1_4 : (List Zs)} {m1_5 : (List Zo)} : ∀ (s0 : Int × Int × (List Int)) (r : ((List Int) ⊕ ((List Int) ⊕ (List Int)))), lp (ZP b c (fun z0 z1 => Zq z0 z1 m1_4)) s0 = some r → lpW ctx 2 [0, 1, 2, 3, 9, 10] [8] ZtP [(.sl 0 1), (.d (Zb b)), (.d (Zb c)), (.fn 118 [(.ptr 1 0)]), (.d (Zb s0.1)), (.d (Zb s0.2.1))] [(.arr 1 (List.map Zb s0.2.2)), (.cells [(.d (Zb m1_0)), (.d (Zb m1_1)), (.d (D.list t0 (List.map ZW m1_2))), (.d (D.list t1 (List.map ZT m1_3))), (.d (D.list t2 (List.map Zx m1_4))), (.d (D.list t3 (List.map Zt m1_5)))])] = some ((ZaS t0 t1 t2 t3 b c m1_0 m1_1 m1_2 m1_3 m1_4 m1_5) r) := by
 refine Zai (ZaS t0 t1 t2 t3 b c m1_0 m1_1 m1_2 m1_3 m1_4 m1_5) ?_
 intro s0 rcl ih
 show ZE _ _ (lpW _ _ _ _ _ _ _)
 unfold ZP
 rw [Zah]
 conv => arg 3; whnf
 refine Zd rfl ?_ ?_
 ·conv => arg 3; whnf
  refine Zf _ (Zcg _) fun r5 hr5 => ?_
  conv => arg 3; whnf
  refine Zd rfl ?_ ?_
  ·conv => arg 3; whnf
   exact Zc rfl
  ·conv => arg 3; whnf
   refine Zd rfl ?_ ?_
   ·conv => arg 3; whnf
    exact Zc rfl
   ·conv => arg 3; whnf
    refine Zk rfl rfl fun x6 hx6 => ?_
    conv => arg 3; whnf
    refine Zg (Zv rfl hx6) ?_
    conv => arg 3; whnf
    refine Zk rfl rfl fun x7 hx7 => ?_
    conv => arg 3; whnf
    refine Zg (Zv rfl hx7) ?_
    conv => arg 3; whnf
    refine Zg (ZaL rfl hx7) ?_
    conv => arg 3; whnf
    refine Zg (Zv rfl hx7) ?_
    conv => arg 3; whnf
    refine Zl (Zan Zb s0.2.2 r5.toNat x6) ?_
    conv => arg 3; whnf
    refine Zk rfl rfl fun x8 hx8 => ?_
    conv => arg 3; whnf
    refine Zg (Zv rfl hx8) ?_
    conv => arg 3; whnf
    refine Zl (Zan Zb (List.set s0.2.2 r5.toNat x6) (w64 (r5 - 1)).toNat x7) ?_
    conv => arg 3; whnf
    refine Zd rfl ?_ ?_
    ·conv => arg 3; whnf
     refine Zf _ (Zcl _) fun r14 hr14 => ?_
     conv => arg 3; whnf
     refine Zd rfl ?_ ?_
     ·conv => arg 3; whnf
      refine Zf _ (Zcf _) fun r20 hr20 => ?_
      conv => arg 3; whnf
      exact Ze (ih _)
     ·conv => arg 3; whnf
      exact Ze (ih _)
    ·conv => arg 3; whnf
     refine Zd rfl ?_ ?_
     ·conv => arg 3; whnf
      refine Zf _ (Zcc _) fun r26 hr26 => ?_
      conv => arg 3; whnf
      exact Ze (ih _)
     ·conv => arg 3; whnf
      exact Ze (ih _)
 ·conv => arg 3; whnf
  exact Zc rfl
theorem Za1 {t0 : Bool} {t1 : Bool} {t2 : Bool} {t3 : Bool} {b : Int} {c : Int} {m0_0 : (List Int)} {m1_0 : Int} {m1_1 : Int} {m1_2 : (List ZG)} {m1_3 : (List ZM)} {m1_4 : (List Zs)} {m1_5 : (List Zo)} : ∀ r, (ZL b c (fun z0 z1 => Zq z0 z1 m1_4) m0_0) = some r → evW ctx 131 [(.sl 0 1), (.d (Zb b)), (.d (Zb c)), (.fn 118 [(.ptr 1 0)])] [(.arr 1 (List.map Zb m0_0)), (.cells [(.d (Zb m1_0)), (.d (Zb m1_1)), (.d (D.list t0 (List.map ZW m1_2))), (.d (D.list t1 (List.map ZT m1_3))), (.d (D.list t2 (List.map Zx m1_4))), (.d (D.list t3 (List.map Zt m1_5)))])] = some ((Za2 t0 t1 t2 t3 b c m0_0 m1_0 m1_1 m1_2 m1_3 m1_4 m1_5) r) := by
 show ZE _ (fun r rhs => rhs = some ((Za2 t0 t1 t2 t3 b c m0_0 m1_0 m1_1 m1_2 m1_3 m1_4 m1_5) r)) _
 unfold ZL
 rw [Zf1 ctx 131 Zvy _ _ rfl rfl]
 conv => arg 3; whnf
 refine Zf _ (Zcj _) fun r27 hr27 => ?_
 clear hr27
 rcases r27 with r27 | (r27 | r27)
 ·conv => arg 3; whnf
  exact Zc rfl
 ·conv => arg 3; whnf
  exact Zc rfl
 ·conv => arg 3; whnf
  exact Zc rfl
def ZbM (t0 : Bool) (t1 : Bool) (t2 : Bool) (t3 : Bool) (b : Int) (c : Int) (d : Int) (m0_0 : (List Int)) (m1_0 : Int) (m1_1 : Int) (m1_2 : (List ZG)) (m1_3 : (List ZM)) (m1_4 : (List Zs)) (m1_5 : (List Zo)) : ((Int × (List Int)) ⊕ (Int × (List Int))) → V × Zm
  | (.inl r) => ((.d (D.tup [(Zb r.1), (D.bool true)])), [(.arr 1 (List.map Zb r.2)), (.cells [(.d (Zb m1_0)), (.d (Zb m1_1)), (.d (D.list t0 (List.map ZW m1_2))), (.d (D.list t1 (List.map ZT m1_3))), (.d (D.list t2 (List.map Zx m1_4))), (.d (D.list t3 (List.map Zt m1_5)))])])
  | (.inr r) => ((.d (D.tup [(Zb r.1), (D.bool false)])), [(.arr 1 (List.map Zb r.2)), (.cells [(.d (Zb m1_0)), (.d (Zb m1_1)), (.d (D.list t0 (List.map ZW m1_2))), (.d (D.list t1 (List.map ZT m1_3))), (.d (D.list t2 (List.map Zx m1_4))), (.d (D.list t3 (List.map Zt m1_5)))])])
def Zbv (t0 : Bool) (t1 : Bool) (t2 : Bool) (t3 : Bool) (b : Int) (c : Int) (d : Int) (m0_0 : (List Int)) (m1_0 : Int) (m1_1 : Int) (m1_2 : (List ZG)) (m1_3 : (List ZM)) (m1_4 : (List Zs)) (m1_5 : (List Zo)) (x0 : Int) (x1 : Int) : Int → Ex × List V × Zm
  | r => (.exit 0, [(.sl 0 1), (.d (Zb b)), (.fn 118 [(.ptr 1 0)]), (.d (Zb r)), (.d (Zb (w64 (c - 1))))], [(.arr 1 (List.map Zb (List.set (List.set m0_0 b.toNat x0) d.toNat x1))), (.cells [(.d (Zb m1_0)), (.d (Zb m1_1)), (.d (D.list t0 (List.map ZW m1_2))), (.d (D.list t1 (List.map ZT m1_3))), (.d (D.list t2 (List.map Zx m1_4))), (.d (D.list t3 (List.map Zt m1_5)))])])
theorem Zdm {t0 : Bool} {t1 : Bool} {t2 : Bool} {t3 : Bool} {b : Int} {c : Int} {d : Int} {m0_0 : (List Int)} {m1_0 : Int} {m1_1 : Int} {m1_2 : (List ZG)} {m1_3 : (List ZM)} {m1_4 : (List Zs)} {m1_5 : (List Zo)} {x0 : Int} {x1 : Int} : ∀ (s3 : Int) (r : Int), lp (Zaw b c d m0_0 (fun z0 z1 => Zq z0 z1 m1_4) x0 x1) s3 = some r → lpW ctx 2 [0, 1, 4, 12, 13] [0, 1, 4, 12, 13] Zth [(.sl 0 1), (.d (Zb b)), (.fn 118 [(.ptr 1 0)]), (.d (Zb s3)), (.d (Zb (w64 (c - 1))))] [(.arr 1 (List.map Zb (List.set (List.set m0_0 b.toNat x0) d.toNat x1))), (.cells [(.d (Zb m1_0)), (.d (Zb m1_1)), (.d (D.list t0 (List.map ZW m1_2))), (.d (D.list t1 (List.map ZT m1_3))), (.d (D.list t2 (List.map Zx m1_4))), (.d (D.list t3 (List.map Zt m1_5)))])] = some ((Zbv t0 t1 t2 t3 b c d m0_0 m1_0 m1_1 m1_2 m1_3 m1_4 m1_5 x0 x1) r) := by
 refine Zai (Zbv t0 t1 t2 t3 b c d m0_0 m1_0 m1_1 m1_2 m1_3 m1_4 m1_5 x0 x1) ?_
 intro s3 rcl ih
 show ZE _ _ (lpW _ _ _ _ _ _ _)
 unfold Zaw
 rw [Zah]
 conv => arg 3; whnf
 refine Zd rfl ?_ ?_
 ·conv => arg 3; whnf
  refine Zk rfl rfl fun x4 hx4 => ?_
  conv => arg 3; whnf
  refine Zg (Zv rfl hx4) ?_
  conv => arg 3; whnf
  refine Zk rfl rfl fun x5 hx5 => ?_
  conv => arg 3; whnf
  refine Zg (Zv rfl hx5) ?_
  conv => arg 3; whnf
  refine Zi _ Zz rfl fun x6 hx6 => ?_
  conv => arg 3; whnf
  refine Zd rfl ?_ ?_
  ·conv => arg 3; whnf
   exact Ze (ih _)
  ·conv => arg 3; whnf
   exact Zc rfl
 ·conv => arg 3; whnf
  exact Zc rfl
def Zbu (t0 : Bool) (t1 : Bool) (t2 : Bool) (t3 : Bool) (b : Int) (d : Int) (m0_0 : (List Int)) (m1_0 : Int) (m1_1 : Int) (m1_2 : (List ZG)) (m1_3 : (List ZM)) (m1_4 : (List Zs)) (m1_5 : (List Zo)) (x0 : Int) (x1 : Int) (r7 : Int) : Int → Ex × List V × Zm
  | r => (.exit 2, [(.sl 0 1), (.d (Zb b)), (.fn 118 [(.ptr 1 0)]), (.d (Zb r7)), (.d (Zb r))], [(.arr 1 (List.map Zb (List.set (List.set m0_0 b.toNat x0) d.toNat x1))), (.cells [(.d (Zb m1_0)), (.d (Zb m1_1)), (.d (D.list t0 (List.map ZW m1_2))), (.d (D.list t1 (List.map ZT m1_3))), (.d (D.list t2 (List.map Zx m1_4))), (.d (D.list t3 (List.map Zt m1_5)))])])
theorem Zdl {t0 : Bool} {t1 : Bool} {t2 : Bool} {t3 : Bool} {b : Int} {d : Int} {m0_0 : (List Int)} {m1_0 : Int} {m1_1 : Int} {m1_2 : (List ZG)} {m1_3 : (List ZM)} {m1_4 : (List Zs)} {m1_5 : (List Zo)} {x0 : Int} {x1 : Int} {r7 : Int} : ∀ (s8 : Int) (r : Int), lp (Zau b d m0_0 (fun z0 z1 => Zq z0 z1 m1_4) x0 x1 r7) s8 = some r → lpW ctx 2 [0, 1, 4, 12, 13] [0, 1, 4, 12, 13] Ztt [(.sl 0 1), (.d (Zb b)), (.fn 118 [(.ptr 1 0)]), (.d (Zb r7)), (.d (Zb s8))] [(.arr 1 (List.map Zb (List.set (List.set m0_0 b.toNat x0) d.toNat x1))), (.cells [(.d (Zb m1_0)), (.d (Zb m1_1)), (.d (D.list t0 (List.map ZW m1_2))), (.d (D.list t1 (List.map ZT m1_3))), (.d (D.list t2 (List.map Zx m1_4))), (.d (D.list t3 (List.map Zt m1_5)))])] = some ((Zbu t0 t1 t2 t3 b d m0_0 m1_0 m1_1 m1_2 m1_3 m1_4 m1_5 x0 x1 r7) r) := by
 refine Zai (Zbu t0 t1 t2 t3 b d m0_0 m1_0 m1_1 m1_2 m1_3 m1_4 m1_5 x0 x1 r7) ?_
 intro s8 rcl ih
 show ZE _ _ (lpW _ _ _ _ _ _ _)
 unfold Zau
 rw [Zah]
 conv => arg 3; whnf
 refine Zd rfl ?_ ?_
 ·conv => arg 3; whnf
  refine Zk rfl rfl fun x9 hx9 => ?_
  conv => arg 3; whnf
  refine Zg (Zv rfl hx9) ?_
  conv => arg 3; whnf
  refine Zk rfl rfl fun x10 hx10 => ?_
  conv => arg 3; whnf
  refine Zg (Zv rfl hx10) ?_
  conv => arg 3; whnf
  refine Zi _ Zz rfl fun x11 hx11 => ?_
  conv => arg 3; whnf
  refine Zd rfl ?_ ?_
  ·conv => arg 3; whnf
   exact Zc rfl
  ·conv => arg 3; whnf
   exact Ze (ih _)
 ·conv => arg 3; whnf
  exact Zc rfl
def Zbz (t0 : Bool) (t1 : Bool) (t2 : Bool) (t3 : Bool) (b : Int) (m1_0 : Int) (m1_1 : Int) (m1_2 : (List ZG)) (m1_3 : (List ZM)) (m1_4 : (List Zs)) (m1_5 : (List Zo)) (s19 : Int × Int × (List Int)) : Int → Ex × List V × Zm
  | r => (.exit 6, [(.sl 0 1), (.d (Zb b)), (.fn 118 [(.ptr 1 0)]), (.d (Zb r)), (.d (Zb s19.2.1))], [(.arr 1 (List.map Zb s19.2.2)), (.cells [(.d (Zb m1_0)), (.d (Zb m1_1)), (.d (D.list t0 (List.map ZW m1_2))), (.d (D.list t1 (List.map ZT m1_3))), (.d (D.list t2 (List.map Zx m1_4))), (.d (D.list t3 (List.map Zt m1_5)))])])
theorem Zdj {t0 : Bool} {t1 : Bool} {t2 : Bool} {t3 : Bool} {b : Int} {m1_0 : Int} {m1_1 : Int} {m1_2 : (List ZG)} {m1_3 : (List ZM)} {m1_4 : (List Zs)} {m1_5 : (List Zo)} {s19 : Int × Int × (List Int)} : ∀ (s20 : Int) (r : Int), lp (Zar b (fun z0 z1 => Zq z0 z1 m1_4) s19) s20 = some r → lpW ctx 2 [0, 1, 4, 12, 13] [0, 1, 4, 12, 13] Ztn [(.sl 0 1), (.d (Zb b)), (.fn 118 [(.ptr 1 0)]), (.d (Zb s20)), (.d (Zb s19.2.1))] [(.arr 1 (List.map Zb s19.2.2)), (.cells [(.d (Zb m1_0)), (.d (Zb m1_1)), (.d (D.list t0 (List.map ZW m1_2))), (.d (D.list t1 (List.map ZT m1_3))), (.d (D.list t2 (List.map Zx m1_4))), (.d (D.list t3 (List.map Zt m1_5)))])] = some ((Zbz t0 t1 t2 t3 b m1_0 m1_1 m1_2 m1_3 m1_4 m1_5 s19) r) := by
 refine Zai (Zbz t0 t1 t2 t3 b m1_0 m1_1 m1_2 m1_3 m1_4 m1_5 s19) ?_
 intro s20 rcl ih
 show ZE _ _ (lpW _ _ _ _ _ _ _)
 unfold Zar
 rw [Zah]
 conv => arg 3; whnf
 refine Zd rfl ?_ ?_
 ·conv => arg 3; whnf
  refine Zk rfl rfl fun x21 hx21 => ?_
  conv => arg 3; whnf
  refine Zg (Zv rfl hx21) ?_
  conv => arg 3; whnf
  refine Zk rfl rfl fun x22 hx22 => ?_
  conv => arg 3; whnf
  refine Zg (Zv rfl hx22) ?_
  conv => arg 3; whnf
  refine Zi _ Zz rfl fun x23 hx23 => ?_
  conv => arg 3; whnf
  refine Zd rfl ?_ ?_
  ·conv => arg 3; whnf
   exact Ze (ih _)
  ·conv => arg 3; whnf
   exact Zc rfl
 ·conv => arg 3; whnf
  exact Zc rfl
def Zbx (t0 : Bool) (t1 : Bool) (t2 : Bool) (t3 : Bool) (b : Int) (m1_0 : Int) (m1_1 : Int) (m1_2 : (List ZG)) (m1_3 : (List ZM)) (m1_4 : (List Zs)) (m1_5 : (List Zo)) (s19 : Int × Int × (List Int)) (r24 : Int) : Int → Ex × List V × Zm
  | r => (.exit 8, [(.sl 0 1), (.d (Zb b)), (.fn 118 [(.ptr 1 0)]), (.d (Zb r24)), (.d (Zb r))], [(.arr 1 (List.map Zb s19.2.2)), (.cells [(.d (Zb m1_0)), (.d (Zb m1_1)), (.d (D.list t0 (List.map ZW m1_2))), (.d (D.list t1 (List.map ZT m1_3))), (.d (D.list t2 (List.map Zx m1_4))), (.d (D.list t3 (List.map Zt m1_5)))])])
theorem Zdh {t0 : Bool} {t1 : Bool} {t2 : Bool} {t3 : Bool} {b : Int} {m1_0 : Int} {m1_1 : Int} {m1_2 : (List ZG)} {m1_3 : (List ZM)} {m1_4 : (List Zs)} {m1_5 : (List Zo)} {s19 : Int × Int × (List Int)} {r24 : Int} : ∀ (s25 : Int) (r : Int), lp (Zav b (fun z0 z1 => Zq z0 z1 m1_4) s19 r24) s25 = some r → lpW ctx 2 [0, 1, 4, 12, 13] [0, 1, 4, 12, 13] Ztb [(.sl 0 1), (.d (Zb b)), (.fn 118 [(.ptr 1 0)]), (.d (Zb r24)), (.d (Zb s25))] [(.arr 1 (List.map Zb s19.2.2)), (.cells [(.d (Zb m1_0)), (.d (Zb m1_1)), (.d (D.list t0 (List.map ZW m1_2))), (.d (D.list t1 (List.map ZT m1_3))), (.d (D.list t2 (List.map Zx m1_4))), (.d (D.list t3 (List.map Zt m1_5)))])] = some ((Zbx t0 t1 t2 t3 b m1_0 m1_1 m1_2 m1_3 m1_4 m1_5 s19 r24) r) := by
 refine Zai (Zbx t0 t1 t2 t3 b m1_0 m1_1 m1_2 m1_3 m1_4 m1_5 s19 r24) ?_
 intro s25 rcl ih
 show ZE _ _ (lpW _ _ _ _ _ _ _)
 unfold Zav
 rw [Zah]
 conv => arg 3; whnf
 refine Zd rfl ?_ ?_
 ·conv => arg 3; whnf
  refine Zk rfl rfl fun x26 hx26 => ?_
  conv => arg 3; whnf
  refine Zg (Zv rfl hx26) ?_
  conv => arg 3; whnf
  refine Zk rfl rfl fun x27 hx27 => ?_
  conv => arg 3; whnf
  refine Zg (Zv rfl hx27) ?_
  conv => arg 3; whnf
  refine Zi _ Zz rfl fun x28 hx28 => ?_
  conv => arg 3; whnf
  refine Zd rfl ?_ ?_
  ·conv => arg 3; whnf
   exact Zc rfl
  ·conv => arg 3; whnf
   exact Ze (ih _)
 ·conv => arg 3; whnf
  exact Zc rfl
def Zbw (t0 : Bool) (t1 : Bool) (t2 : Bool) (t3 : Bool) (b : Int) (m1_0 : Int) (m1_1 : Int) (m1_2 : (List ZG)) (m1_3 : (List ZM)) (m1_4 : (List Zs)) (m1_5 : (List Zo)) : (Int × (List Int)) → Ex × List V × Zm
  | r => (.exit 4, [(.sl 0 1), (.d (Zb b)), (.d (Zb r.1))], [(.arr 1 (List.map Zb r.2)), (.cells [(.d (Zb m1_0)), (.d (Zb m1_1)), (.d (D.list t0 (List.map ZW m1_2))), (.d (D.list t1 (List.map ZT m1_3))), (.d (D.list t2 (List.map Zx m1_4))), (.d (D.list t3 (List.map Zt m1_5)))])])
theorem Zdn {t0 : Bool} {t1 : Bool} {t2 : Bool} {t3 : Bool} {b : Int} {m1_0 : Int} {m1_1 : Int} {m1_2 : (List ZG)} {m1_3 : (List ZM)} {m1_4 : (List Zs)} {m1_5 : (List Zo)} : ∀ (s19 : Int × Int × (List Int)) (r : (Int × (List Int))), lp (ZaO b (fun z0 z1 => Zq z0 z1 m1_4)) s19 = some r → lpW ctx 2 [0, 1, 4, 12, 13] [0, 1, 13] Zta [(.sl 0 1), (.d (Zb b)), (.fn 118 [(.ptr 1 0)]), (.d (Zb s19.1)), (.d (Zb s19.2.1))] [(.arr 1 (List.map Zb s19.2.2)), (.cells [(.d (Zb m1_0)), (.d (Zb m1_1)), (.d (D.list t0 (List.map ZW m1_2))), (.d (D.list t1 (List.map ZT m1_3))), (.d (D.list t2 (List.map Zx m1_4))), (.d (D.list t3 (List.map Zt m1_5)))])] = some ((Zbw t0 t1 t2 t3 b m1_0 m1_1 m1_2 m1_3 m1_4 m1_5) r) := by
 refine Zai (Zbw t0 t1 t2 t3 b m1_0 m1_1 m1_2 m1_3 m1_4 m1_5) ?_
 intro s19 rcl ih
 show ZE _ _ (lpW _ _ _ _ _ _ _)
 unfold ZaO
 rw [Zah]
 conv => arg 3; whnf
 refine Zf _ (Zdj _) fun r24 hr24 => ?_
 conv => arg 3; whnf
 refine Zf _ (Zdh _) fun r29 hr29 => ?_
 conv => arg 3; whnf
 refine Zd rfl ?_ ?_
 ·conv => arg 3; whnf
  exact Zc rfl
 ·conv => arg 3; whnf
  refine Zk rfl rfl fun x30 hx30 => ?_
  conv => arg 3; whnf
  refine Zg (Zv rfl hx30) ?_
  conv => arg 3; whnf
  refine Zk rfl rfl fun x31 hx31 => ?_
  conv => arg 3; whnf
  refine Zg (Zv rfl hx31) ?_
  conv => arg 3; whnf
  refine Zg (ZaL rfl hx31) ?_
  conv => arg 3; whnf
  refine Zg (Zv rfl hx31) ?_
  conv => arg 3; whnf
  refine Zl (Zan Zb s19.2.2 r24.toNat x30) ?_
  conv => arg 3; whnf
  refine Zk rfl rfl fun x32 hx32 => ?_
  conv => arg 3; whnf
  refine Zg (Zv rfl hx32) ?_
  conv => arg 3; whnf
  refine Zl (Zan Zb (List.set s19.2.2 r24.toNat x30) r29.toNat x31) ?_
  conv => arg 3; whnf
  exact Ze (ih _)
theorem Zj {t0 : Bool} {t1 : Bool} {t2 : Bool} {t3 : Bool} {b : Int} {c : Int} {d : Int} {m0_0 : (List Int)} {m1_0 : Int} {m1_1 : Int} {m1_2 : (List ZG)} {m1_3 : (List ZM)} {m1_4 : (List Zs)} {m1_5 : (List Zo)} : ∀ r, (Zp b c d (fun z0 z1 => Zq z0 z1 m1_4) m0_0) = some r → evW ctx 133 [(.sl 0 1), (.d (Zb b)), (.d (Zb c)), (.d (Zb d)), (.fn 118 [(.ptr 1 0)])] [(.arr 1 (List.map Zb m0_0)), (.cells [(.d (Zb m1_0)), (.d (Zb m1_1)), (.d (D.list t0 (List.map ZW m1_2))), (.d (D.list t1 (List.map ZT m1_3))), (.d (D.list t2 (List.map Zx m1_4))), (.d (D.list t3 (List.map Zt m1_5)))])] = some ((ZbM t0 t1 t2 t3 b c d m0_0 m1_0 m1_1 m1_2 m1_3 m1_4 m1_5) r) := by
 show ZE _ (fun r rhs => rhs = some ((ZbM t0 t1 t2 t3 b c d m0_0 m1_0 m1_1 m1_2 m1_3 m1_4 m1_5) r)) _
 unfold Zp
 rw [Zf1 ctx 133 ZvF _ _ rfl rfl]
 conv => arg 3; whnf
 refine Zk rfl rfl fun x0 hx0 => ?_
 conv => arg 3; whnf
 refine Zg (Zv rfl hx0) ?_
 conv => arg 3; whnf
 refine Zk rfl rfl fun x1 hx1 => ?_
 conv => arg 3; whnf
 refine Zg (Zv rfl hx1) ?_
 conv => arg 3; whnf
 refine Zg (ZaL rfl hx1) ?_
 conv => arg 3; whnf
 refine Zg (Zv rfl hx1) ?_
 conv => arg 3; whnf
 refine Zl (Zan Zb m0_0 b.toNat x0) ?_
 conv => arg 3; whnf
 refine Zk rfl rfl fun x2 hx2 => ?_
 conv => arg 3; whnf
 refine Zg (Zv rfl hx2) ?_
 conv => arg 3; whnf
 refine Zl (Zan Zb (List.set m0_0 b.toNat x0) d.toNat x1) ?_
 conv => arg 3; whnf
 refine Zf _ (Zdm _) fun r7 hr7 => ?_
 conv => arg 3; whnf
 refine Zf _ (Zdl _) fun r12 hr12 => ?_
 conv => arg 3; whnf
 refine Zd rfl ?_ ?_
 ·conv => arg 3; whnf
  refine Zk rfl rfl fun x13 hx13 => ?_
  conv => arg 3; whnf
  refine Zg (Zv rfl hx13) ?_
  conv => arg 3; whnf
  refine Zk rfl rfl fun x14 hx14 => ?_
  conv => arg 3; whnf
  refine Zg (Zv rfl hx14) ?_
  conv => arg 3; whnf
  refine Zg (ZaL rfl hx14) ?_
  conv => arg 3; whnf
  refine Zg (Zv rfl hx14) ?_
  conv => arg 3; whnf
  refine Zl (Zan Zb (List.set (List.set m0_0 b.toNat x0) d.toNat x1) r12.toNat x13) ?_
  conv => arg 3; whnf
  refine Zk rfl rfl fun x15 hx15 => ?_
  conv => arg 3; whnf
  refine Zg (Zv rfl hx15) ?_
  conv => arg 3; whnf
  refine Zl (Zan Zb (List.set (List.set (List.set m0_0 b.toNat x0) d.toNat x1) r12.toNat x13) b.toNat x14) ?_
  conv => arg 3; whnf
  exact Zc rfl
 ·conv => arg 3; whnf
  refine Zk rfl rfl fun x16 hx16 => ?_
  conv => arg 3; whnf
  refine Zg (Zv rfl hx16) ?_
  conv => arg 3; whnf
  refine Zk rfl rfl fun x17 hx17 => ?_
  conv => arg 3; whnf
  refine Zg (Zv rfl hx17) ?_
  conv => arg 3; whnf
  refine Zg (ZaL rfl hx17) ?_
  conv => arg 3; whnf
  refine Zg (Zv rfl hx17) ?_
  conv => arg 3; whnf
  refine Zl (Zan Zb (List.set (List.set m0_0 b.toNat x0) d.toNat x1) r7.toNat x16) ?_
  conv => arg 3; whnf
  refine Zk rfl rfl fun x18 hx18 => ?_
  conv => arg 3; whnf
  refine Zg (Zv rfl hx18) ?_
  conv => arg 3; whnf
  refine Zl (Zan Zb (List.set (List.set (List.set m0_0 b.toNat x0) d.toNat x1) r7.toNat x16) r12.toNat x17) ?_
  conv => arg 3; whnf
  refine Zf _ (Zdn _) fun r33 hr33 => ?_
  conv => arg 3; whnf
  refine Zk rfl rfl fun x34 hx34 => ?_
  conv => arg 3; whnf
  refine Zg (Zv rfl hx34) ?_
  conv => arg 3; whnf
  refine Zk rfl rfl fun x35 hx35 => ?_
  conv => arg 3; whnf
  refine Zg (Zv rfl hx35) ?_
  conv => arg 3; whnf
  refine Zg (ZaL rfl hx35) ?_
  conv => arg 3; whnf
  refine Zg (Zv rfl hx35) ?_
  conv => arg 3; whnf
  refine Zl (Zan Zb r33.2 r33.1.toNat x34) ?_
  conv => arg 3; whnf
  refine Zk rfl rfl fun x36 hx36 => ?_
  conv => arg 3; whnf
  refine Zg (Zv rfl hx36) ?_
  conv => arg 3; whnf
  refine Zl (Zan Zb (List.set r33.2 r33.1.toNat x34) b.toNat x35) ?_
  conv => arg 3; whnf
  exact Zc rfl
def Zbm (t0 : Bool) (t1 : Bool) (t2 : Bool) (t3 : Bool) (b : Int) (c : Int) (d : Int) (m0_0 : (List Int)) (m1_0 : Int) (m1_1 : Int) (m1_2 : (List ZG)) (m1_3 : (List ZM)) (m1_4 : (List Zs)) (m1_5 : (List Zo)) : (Int × (List Int)) → V × Zm
  | r => ((.d (Zb r.1)), [(.arr 1 (List.map Zb r.2)), (.cells [(.d (Zb m1_0)), (.d (Zb m1_1)), (.d (D.list t0 (List.map ZW m1_2))), (.d (D.list t1 (List.map ZT m1_3))), (.d (D.list t2 (List.map Zx m1_4))), (.d (D.list t3 (List.map Zt m1_5)))])])
def Za9 (t0 : Bool) (t1 : Bool) (t2 : Bool) (t3 : Bool) (b : Int) (m1_0 : Int) (m1_1 : Int) (m1_2 : (List ZG)) (m1_3 : (List ZM)) (m1_4 : (List Zs)) (m1_5 : (List Zo)) (s3 : Int × Int × (List Int)) : Int → Ex × List V × Zm
  | r => (.exit 2, [(.sl 0 1), (.d (Zb b)), (.fn 118 [(.ptr 1 0)]), (.d (Zb r)), (.d (Zb s3.2.1))], [(.arr 1 (List.map Zb s3.2.2)), (.cells [(.d (Zb m1_0)), (.d (Zb m1_1)), (.d (D.list t0 (List.map ZW m1_2))), (.d (D.list t1 (List.map ZT m1_3))), (.d (D.list t2 (List.map Zx m1_4))), (.d (D.list t3 (List.map Zt m1_5)))])])
theorem ZcL {t0 : Bool} {t1 : Bool} {t2 : Bool} {t3 : Bool} {b : Int} {m1_0 : Int} {m1_1 : Int} {m1_2 : (List ZG)} {m1_3 : (List ZM)} {m1_4 : (List Zs)} {m1_5 : (List Zo)} {s3 : Int × Int × (List Int)} : ∀ (s4 : Int) (r : Int), lp (Z9 b (fun z0 z1 => Zq z0 z1 m1_4) s3) s4 = some r → lpW ctx 2 [0, 1, 4, 11, 12] [0, 1, 4, 11, 12] Ztd [(.sl 0 1), (.d (Zb b)), (.fn 118 [(.ptr 1 0)]), (.d (Zb s4)), (.d (Zb s3.2.1))] [(.arr 1 (List.map Zb s3.2.2)), (.cells [(.d (Zb m1_0)), (.d (Zb m1_1)), (.d (D.list t0 (List.map ZW m1_2))), (.d (D.list t1 (List.map ZT m1_3))), (.d (D.list t2 (List.map Zx m1_4))), (.d (D.list t3 (List.map Zt m1_5)))])] = some ((Za9 t0 t1 t2 t3 b m1_0 m1_1 m1_2 m1_3 m1_4 m1_5 s3) r) := by
 refine Zai (Za9 t0 t1 t2 t3 b m1_0 m1_1 m1_2 m1_3 m1_4 m1_5 s3) ?_
 intro s4 rcl ih
 show ZE _ _ (lpW _ _ _ _ _ _ _)
 unfold Z9
 rw [Zah]
 conv => arg 3; whnf
 refine Zd rfl ?_ ?_
 ·conv => arg 3; whnf
  refine Zk rfl rfl fun x5 hx5 => ?_
  conv => arg 3; whnf
  refine Zg (Zv rfl hx5) ?_
  conv => arg 3; whnf
  refine Zk rfl rfl fun x6 hx6 => ?_
  conv => arg 3; whnf
  refine Zg (Zv rfl hx6) ?_
  conv => arg 3; whnf
  refine Zi _ Zz rfl fun x7 hx7 => ?_
  conv => arg 3; whnf
  refine Zd rfl ?_ ?_
  ·conv => arg 3; whnf
   exact Zc rfl
  ·conv => arg 3; whnf
   exact Ze (ih _)
 ·conv => arg 3; whnf
  exact Zc rfl
def Zbb (t0 : Bool) (t1 : Bool) (t2 : Bool) (t3 : Bool) (b : Int) (m1_0 : Int) (m1_1 : Int) (m1_2 : (List ZG)) (m1_3 : (List ZM)) (m1_4 : (List Zs)) (m1_5 : (List Zo)) (s3 : Int × Int × (List Int)) (r8 : Int) : Int → Ex × List V × Zm
  | r => (.exit 4, [(.sl 0 1), (.d (Zb b)), (.fn 118 [(.ptr 1 0)]), (.d (Zb r8)), (.d (Zb r))], [(.arr 1 (List.map Zb s3.2.2)), (.cells [(.d (Zb m1_0)), (.d (Zb m1_1)), (.d (D.list t0 (List.map ZW m1_2))), (.d (D.list t1 (List.map ZT m1_3))), (.d (D.list t2 (List.map Zx m1_4))), (.d (D.list t3 (List.map Zt m1_5)))])])
theorem ZcH {t0 : Bool} {t1 : Bool} {t2 : Bool} {t3 : Bool} {b : Int} {m1_0 : Int} {m1_1 : Int} {m1_2 : (List ZG)} {m1_3 : (List ZM)} {m1_4 : (List Zs)} {m1_5 : (List Zo)} {s3 : Int × Int × (List Int)} {r8 : Int} : ∀ (s9 : Int) (r : Int), lp (Z7 b (fun z0 z1 => Zq z0 z1 m1_4) s3 r8) s9 = some r → lpW ctx 2 [0, 1, 4, 11, 12] [0, 1, 4, 11, 12] ZtK [(.sl 0 1), (.d (Zb b)), (.fn 118 [(.ptr 1 0)]), (.d (Zb r8)), (.d (Zb s9))] [(.arr 1 (List.map Zb s3.2.2)), (.cells [(.d (Zb m1_0)), (.d (Zb m1_1)), (.d (D.list t0 (List.map ZW m1_2))), (.d (D.list t1 (List.map ZT m1_3))), (.d (D.list t2 (List.map Zx m1_4))), (.d (D.list t3 (List.map Zt m1_5)))])] = some ((Zbb t0 t1 t2 t3 b m1_0 m1_1 m1_2 m1_3 m1_4 m1_5 s3 r8) r) := by
 refine Zai (Zbb t0 t1 t2 t3 b m1_0 m1_1 m1_2 m1_3 m1_4 m1_5 s3 r8) ?_
 intro s9 rcl ih
 show ZE _ _ (lpW _ _ _ _ _ _ _)
 unfold Z7
 rw [Zah]
 conv => arg 3; whnf
 refine Zd rfl ?_ ?_
 ·conv => arg 3; whnf
  refine Zk rfl rfl fun x10 hx10 => ?_
  conv => arg 3; whnf
  refine Zg (Zv rfl hx10) ?_
  conv => arg 3; whnf
  refine Zk rfl rfl fun x11 hx11 => ?_
  conv => arg 3; whnf
  refine Zg (Zv rfl hx11) ?_
  conv => arg 3; whnf
  refine Zi _ Zz rfl fun x12 hx12 => ?_
  conv => arg 3; whnf
  refine Zd rfl ?_ ?_
  ·conv => arg 3; whnf
   exact Ze (ih _)
  ·conv => arg 3; whnf
   exact Zc rfl
 ·conv => arg 3; whnf
  exact Zc rfl
def Za8 (t0 : Bool) (t1 : Bool) (t2 : Bool) (t3 : Bool) (b : Int) (m1_0 : Int) (m1_1 : Int) (m1_2 : (List ZG)) (m1_3 : (List ZM)) (m1_4 : (List Zs)) (m1_5 : (List Zo)) : (Int × (List Int)) → Ex × List V × Zm
  | r => (.exit 0, [(.d (Zb r.1))], [(.arr 1 (List.map Zb r.2)), (.cells [(.d (Zb m1_0)), (.d (Zb m1_1)), (.d (D.list t0 (List.map ZW m1_2))), (.d (D.list t1 (List.map ZT m1_3))), (.d (D.list t2 (List.map Zx m1_4))), (.d (D.list t3 (List.map Zt m1_5)))])])
theorem ZcJ {t0 : Bool} {t1 : Bool} {t2 : Bool} {t3 : Bool} {b : Int} {m1_0 : Int} {m1_1 : Int} {m1_2 : (List ZG)} {m1_3 : (List ZM)} {m1_4 : (List Zs)} {m1_5 : (List Zo)} : ∀ (s3 : Int × Int × (List Int)) (r : (Int × (List Int))), lp (Zay b (fun z0 z1 => Zq z0 z1 m1_4)) s3 = some r → lpW ctx 2 [0, 1, 4, 11, 12] [11] Ztq [(.sl 0 1), (.d (Zb b)), (.fn 118 [(.ptr 1 0)]), (.d (Zb s3.1)), (.d (Zb s3.2.1))] [(.arr 1 (List.map Zb s3.2.2)), (.cells [(.d (Zb m1_0)), (.d (Zb m1_1)), (.d (D.list t0 (List.map ZW m1_2))), (.d (D.list t1 (List.map ZT m1_3))), (.d (D.list t2 (List.map Zx m1_4))), (.d (D.list t3 (List.map Zt m1_5)))])] = some ((Za8 t0 t1 t2 t3 b m1_0 m1_1 m1_2 m1_3 m1_4 m1_5) r) := by
 refine Zai (Za8 t0 t1 t2 t3 b m1_0 m1_1 m1_2 m1_3 m1_4 m1_5) ?_
 intro s3 rcl ih
 show ZE _ _ (lpW _ _ _ _ _ _ _)
 unfold Zay
 rw [Zah]
 conv => arg 3; whnf
 refine Zf _ (ZcL _) fun r8 hr8 => ?_
 conv => arg 3; whnf
 refine Zf _ (ZcH _) fun r13 hr13 => ?_
 conv => arg 3; whnf
 refine Zd rfl ?_ ?_
 ·conv => arg 3; whnf
  exact Zc rfl
 ·conv => arg 3; whnf
  refine Zk rfl rfl fun x14 hx14 => ?_
  conv => arg 3; whnf
  refine Zg (Zv rfl hx14) ?_
  conv => arg 3; whnf
  refine Zk rfl rfl fun x15 hx15 => ?_
  conv => arg 3; whnf
  refine Zg (Zv rfl hx15) ?_
  conv => arg 3; whnf
  refine Zg (ZaL rfl hx15) ?_
  conv => arg 3; whnf
  refine Zg (Zv rfl hx15) ?_
  conv => arg 3; whnf
  refine Zl (Zan Zb s3.2.2 r8.toNat x14) ?_
  conv => arg 3; whnf
  refine Zk rfl rfl fun x16 hx16 => ?_
  conv => arg 3; whnf
  refine Zg (Zv rfl hx16) ?_
  conv => arg 3; whnf
  refine Zl (Zan Zb (List.set s3.2.2 r8.toNat x14) r13.toNat x15) ?_
  conv => arg 3; whnf
  exact Ze (ih _)
theorem Zw {t0 : Bool} {t1 : Bool} {t2 : Bool} {t3 : Bool} {b : Int} {c : Int} {d : Int} {m0_0 : (List Int)} {m1_0 : Int} {m1_1 : Int} {m1_2 : (List ZG)} {m1_3 : (List ZM)} {m1_4 : (List Zs)} {m1_5 : (List Zo)} : ∀ r, (Zy b c d (fun z0 z1 => Zq z0 z1 m1_4) m0_0) = some r → evW ctx 132 [(.sl 0 1), (.d (Zb b)), (.d (Zb c)), (.d (Zb d)), (.fn 118 [(.ptr 1 0)])] [(.arr 1 (List.map Zb m0_0)), (.cells [(.d (Zb m1_0)), (.d (Zb m1_1)), (.d (D.list t0 (List.map ZW m1_2))), (.d (D.list t1 (List.map ZT m1_3))), (.d (D.list t2 (List.map Zx m1_4))), (.d (D.list t3 (List.map Zt m1_5)))])] = some ((Zbm t0 t1 t2 t3 b c d m0_0 m1_0 m1_1 m1_2 m1_3 m1_4 m1_5) r) := by
 show ZE _ (fun r rhs => rhs = some ((Zbm t0 t1 t2 t3 b c d m0_0 m1_0 m1_1 m1_2 m1_3 m1_4 m1_5) r)) _
 unfold Zy
 rw [Zf1 ctx 132 ZvI _ _ rfl rfl]
 conv => arg 3; whnf
 refine Zk rfl rfl fun x0 hx0 => ?_
 conv => arg 3; whnf
 refine Zg (Zv rfl hx0) ?_
 conv => arg 3; whnf
 refine Zk rfl rfl fun x1 hx1 => ?_
 conv => arg 3; whnf
 refine Zg (Zv rfl hx1) ?_
 conv => arg 3; whnf
 refine Zg (ZaL rfl hx1) ?_
 conv => arg 3; whnf
 refine Zg (Zv rfl hx1) ?_
 conv => arg 3; whnf
 refine Zl (Zan Zb m0_0 b.toNat x0) ?_
 conv => arg 3; whnf
 refine Zk rfl rfl fun x2 hx2 => ?_
 conv => arg 3; whnf
 refine Zg (Zv rfl hx2) ?_
 conv => arg 3; whnf
 refine Zl (Zan Zb (List.set m0_0 b.toNat x0) d.toNat x1) ?_
 conv => arg 3; whnf
 refine Zf _ (ZcJ _) fun r17 hr17 => ?_
 conv => arg 3; whnf
 exact Zc rfl
def Zfb (r : Int) : D := (D.int .u64 r)
theorem Zhl {a : Int} : ∀ r, (Zca a) = some r → evD ctx 137 [(.d (Zb a))] = some (Zfb r) := by
 show ZE _ (fun r rhs => rhs = some (Zfb r)) _
 unfold Zca
 rw [Zaq ctx 137 ZvP _ rfl rfl]
 conv => arg 3; whnf
 refine Zi _ Zhi rfl fun x0 hx0 => ?_
 conv => arg 3; whnf
 refine Zd rfl ?_ ?_
 ·exact Z0
 ·conv => arg 3; whnf
  exact Zc rfl
def Zfk (m0_0 : Int) : Unit → V × Zm
  | r => ((.d (D.int .u64 (IntKind.u64.wrap (BitVec.ofInt IntKind.u64.bits (IntKind.u64.wrap (BitVec.ofInt IntKind.u64.bits (IntKind.u64.wrap (BitVec.ofInt IntKind.u64.bits m0_0 ^^^ BitVec.ofInt IntKind.u64.bits (IntKind.u64.wrap (m0_0 * 2 ^ 13))).toNat) ^^^ BitVec.ofInt IntKind.u64.bits (Int.fdiv (IntKind.u64.wrap (BitVec.ofInt IntKind.u64.bits m0_0 ^^^ BitVec.ofInt IntKind.u64.bits (IntKind.u64.wrap (m0_0 * 2 ^ 13))).toNat) (2 ^ 7))).toNat) ^^^ BitVec.ofInt IntKind.u64.bits (IntKind.u64.wrap ((IntKind.u64.wrap (BitVec.ofInt IntKind.u64.bits (IntKind.u64.wrap (BitVec.ofInt IntKind.u64.bits m0_0 ^^^ BitVec.ofInt IntKind.u64.bits (IntKind.u64.wrap (m0_0 * 2 ^ 13))).toNat) ^^^ BitVec.ofInt IntKind.u64.bits (Int.fdiv (IntKind.u64.wrap (BitVec.ofInt IntKind.u64.bits m0_0 ^^^ BitVec.ofInt IntKind.u64.bits (IntKind.u64.wrap (m0_0 * 2 ^ 13))).toNat) (2 ^ 7))).toNat) * 2 ^ 17))).toNat))), [(.cells [(.d (D.int .u64 (IntKind.u64.wrap (BitVec.ofInt IntKind.u64.bits (IntKind.u64.wrap (BitVec.ofInt IntKind.u64.bits (IntKind.u64.wrap (BitVec.ofInt IntKind.u64.bits m0_0 ^^^ BitVec.ofInt IntKind.u64.bits (IntKind.u64.wrap (m0_0 * 2 ^ 13))).toNat) ^^^ BitVec.ofInt IntKind.u64.bits (Int.fdiv (IntKind.u64.wrap (BitVec.ofInt IntKind.u64.bits m0_0 ^^^ BitVec.ofInt IntKind.u64.bits (IntKind.u64.wrap (m0_0 * 2 ^ 13))).toNat) (2 ^ 7))).toNat) ^^^ BitVec.ofInt IntKind.u64.bits (IntKind.u64.wrap ((IntKind.u64.wrap (BitVec.ofInt IntKind.u64.bits (IntKind.u64.wrap (BitVec.ofInt IntKind.u64.bits m0_0 ^^^ BitVec.ofInt IntKind.u64.bits (IntKind.u64.wrap (m0_0 * 2 ^ 13))).toNat) ^^^ BitVec.ofInt IntKind.u64.bits (Int.fdiv (IntKind.u64.wrap (BitVec.ofInt IntKind.u64.bits m0_0 ^^^ BitVec.ofInt IntKind.u64.bits (IntKind.u64.wrap (m0_0 * 2 ^ 13))).toNat) (2 ^ 7))).toNat) * 2 ^ 17))).toNat)))])])
theorem Zhw {m0_0 : Int} : ∀ r, Zdd = some r → evW ctx 138 [(.ptr 0 0)] [(.cells [(.d (D.int .u64 m0_0))])] = some ((Zfk m0_0) r) := by
 show ZE _ (fun r rhs => rhs = some ((Zfk m0_0) r)) _
 unfold Zdd
 rw [Zf1 ctx 138 Zve _ _ rfl rfl]
 conv => arg 3; whnf
 refine Zaa rfl ?_
 conv => arg 3; whnf
 refine Zaa rfl ?_
 conv => arg 3; whnf
 refine Zaa rfl ?_
 conv => arg 3; whnf
 exact Zc rfl
def Zbs (t0 : Bool) (t1 : Bool) (t2 : Bool) (t3 : Bool) (b : Int) (c : Int) (m0_0 : (List Int)) (m1_0 : Int) (m1_1 : Int) (m1_2 : (List ZG)) (m1_3 : (List ZM)) (m1_4 : (List Zs)) (m1_5 : (List Zo)) : (List Int) → V × Zm
  | r => ((.d (D.tup [])), [(.arr 1 (List.map Zb r)), (.cells [(.d (Zb m1_0)), (.d (Zb m1_1)), (.d (D.list t0 (List.map ZW m1_2))), (.d (D.list t1 (List.map ZT m1_3))), (.d (D.list t2 (List.map Zx m1_4))), (.d (D.list t3 (List.map Zt m1_5)))])])
def Zbg (t0 : Bool) (t1 : Bool) (t2 : Bool) (t3 : Bool) (b : Int) (c : Int) (m1_0 : Int) (m1_1 : Int) (m1_2 : (List ZG)) (m1_3 : (List ZM)) (m1_4 : (List Zs)) (m1_5 : (List Zo)) (x0 : Int) : (List Int) → Ex × List V × Zm
  | r => (.exit 0, [], [(.arr 1 (List.map Zb r)), (.cells [(.d (Zb m1_0)), (.d (Zb m1_1)), (.d (D.list t0 (List.map ZW m1_2))), (.d (D.list t1 (List.map ZT m1_3))), (.d (D.list t2 (List.map Zx m1_4))), (.d (D.list t3 (List.map Zt m1_5)))])])
theorem ZcP {t0 : Bool} {t1 : Bool} {t2 : Bool} {t3 : Bool} {b : Int} {c : Int} {m1_0 : Int} {m1_1 : Int} {m1_2 : (List ZG)} {m1_3 : (List ZM)} {m1_4 : (List Zs)} {m1_5 : (List Zo)} {x0 : Int} : ∀ (s1 : Int × (List Int) × Int) (r : (List Int)), lp (ZaB b c x0) s1 = some r → lpW ctx 2 [0, 1, 8, 9, 10, 11] [] ZtR [(.sl 0 1), (.d (Zb b)), (.d (Zb (w64 (c - b)))), (.ptr 2 0), (.d (D.int .u64 x0)), (.d (Zb s1.1))] [(.arr 1 (List.map Zb s1.2.1)), (.cells [(.d (Zb m1_0)), (.d (Zb m1_1)), (.d (D.list t0 (List.map ZW m1_2))), (.d (D.list t1 (List.map ZT m1_3))), (.d (D.list t2 (List.map Zx m1_4))), (.d (D.list t3 (List.map Zt m1_5)))]), (.cells [(.d (D.int .u64 s1.2.2))])] = some ((Zbg t0 t1 t2 t3 b c m1_0 m1_1 m1_2 m1_3 m1_4 m1_5 x0) r) := by
 refine Zai (Zbg t0 t1 t2 t3 b c m1_0 m1_1 m1_2 m1_3 m1_4 m1_5 x0) ?_
 intro s1 rcl ih
 show ZE _ _ (lpW _ _ _ _ _ _ _)
 unfold ZaB
 rw [Zah]
 conv => arg 3; whnf
 refine Zaa rfl ?_
 conv => arg 3; whnf
 refine Zd rfl ?_ ?_
 ·conv => arg 3; whnf
  refine Zf _ Zhw fun x2 hx2 => ?_
  conv => arg 3; whnf
  refine Zd rfl ?_ ?_
  ·conv => arg 3; whnf
   refine Zk rfl rfl fun x3 hx3 => ?_
   conv => arg 3; whnf
   refine Zg (Zv rfl hx3) ?_
   conv => arg 3; whnf
   refine Zk rfl rfl fun x4 hx4 => ?_
   conv => arg 3; whnf
   refine Zg (Zv rfl hx4) ?_
   conv => arg 3; whnf
   refine Zg (ZaL rfl hx4) ?_
   conv => arg 3; whnf
   refine Zg (Zv rfl hx4) ?_
   conv => arg 3; whnf
   refine Zl (Zan Zb s1.2.1 s1.1.toNat x3) ?_
   conv => arg 3; whnf
   refine Zk rfl rfl fun x5 hx5 => ?_
   conv => arg 3; whnf
   refine Zg (Zv rfl hx5) ?_
   conv => arg 3; whnf
   refine Zl (Zan Zb (List.set s1.2.1 s1.1.toNat x3) (w64 (b + (w64 ((w64 (IntKind.u64.wrap (BitVec.ofInt IntKind.u64.bits (IntKind.u64.wrap (BitVec.ofInt IntKind.u64.bits (IntKind.u64.wrap (BitVec.ofInt IntKind.u64.bits (IntKind.u64.wrap (BitVec.ofInt IntKind.u64.bits s1.2.2 ^^^ BitVec.ofInt IntKind.u64.bits (IntKind.u64.wrap (s1.2.2 * 2 ^ 13))).toNat) ^^^ BitVec.ofInt IntKind.u64.bits (Int.fdiv (IntKind.u64.wrap (BitVec.ofInt IntKind.u64.bits s1.2.2 ^^^ BitVec.ofInt IntKind.u64.bits (IntKind.u64.wrap (s1.2.2 * 2 ^ 13))).toNat) (2 ^ 7))).toNat) ^^^ BitVec.ofInt IntKind.u64.bits (IntKind.u64.wrap ((IntKind.u64.wrap (BitVec.ofInt IntKind.u64.bits (IntKind.u64.wrap (BitVec.ofInt IntKind.u64.bits s1.2.2 ^^^ BitVec.ofInt IntKind.u64.bits (IntKind.u64.wrap (s1.2.2 * 2 ^ 13))).toNat) ^^^ BitVec.ofInt IntKind.u64.bits (Int.fdiv (IntKind.u64.wrap (BitVec.ofInt IntKind.u64.bits s1.2.2 ^^^ BitVec.ofInt IntKind.u64.bits (IntKind.u64.wrap (s1.2.2 * 2 ^ 13))).toNat) (2 ^ 7))).toNat) * 2 ^ 17))).toNat) &&& BitVec.ofInt IntKind.u64.bits (IntKind.u64.wrap (x0 - 1))).toNat)) - (w64 (c - b)))))).toNat x4) ?_
   conv => arg 3; whnf
   exact Ze (ih _)
  ·conv => arg 3; whnf
   refine Zk rfl rfl fun x6 hx6 => ?_
   conv => arg 3; whnf
   refine Zg (Zv rfl hx6) ?_
   conv => arg 3; whnf
   refine Zk rfl rfl fun x7 hx7 => ?_
   conv => arg 3; whnf
   refine Zg (Zv rfl hx7) ?_
   conv => arg 3; whnf
   refine Zg (ZaL rfl hx7) ?_
   conv => arg 3; whnf
   refine Zg (Zv rfl hx7) ?_
   conv => arg 3; whnf
   refine Zl (Zan Zb s1.2.1 s1.1.toNat x6) ?_
   conv => arg 3; whnf
   refine Zk rfl rfl fun x8 hx8 => ?_
   conv => arg 3; whnf
   refine Zg (Zv rfl hx8) ?_
   conv => arg 3; whnf
   refine Zl (Zan Zb (List.set s1.2.1 s1.1.toNat x6) (w64 (b + (w64 (IntKind.u64.wrap (BitVec.ofInt IntKind.u64.bits (IntKind.u64.wrap (BitVec.ofInt IntKind.u64.bits (IntKind.u64.wrap (BitVec.ofInt IntKind.u64.bits (IntKind.u64.wrap (BitVec.ofInt IntKind.u64.bits s1.2.2 ^^^ BitVec.ofInt IntKind.u64.bits (IntKind.u64.wrap (s1.2.2 * 2 ^ 13))).toNat) ^^^ BitVec.ofInt IntKind.u64.bits (Int.fdiv (IntKind.u64.wrap (BitVec.ofInt IntKind.u64.bits s1.2.2 ^^^ BitVec.ofInt IntKind.u64.bits (IntKind.u64.wrap (s1.2.2 * 2 ^ 13))).toNat) (2 ^ 7))).toNat) ^^^ BitVec.ofInt IntKind.u64.bits (IntKind.u64.wrap ((IntKind.u64.wrap (BitVec.ofInt IntKind.u64.bits (IntKind.u64.wrap (BitVec.ofInt IntKind.u64.bits s1.2.2 ^^^ BitVec.ofInt IntKind.u64.bits (IntKind.u64.wrap (s1.2.2 * 2 ^ 13))).toNat) ^^^ BitVec.ofInt IntKind.u64.bits (Int.fdiv (IntKind.u64.wrap (BitVec.ofInt IntKind.u64.bits s1.2.2 ^^^ BitVec.ofInt IntKind.u64.bits (IntKind.u64.wrap (s1.2.2 * 2 ^ 13))).toNat) (2 ^ 7))).toNat) * 2 ^ 17))).toNat) &&& BitVec.ofInt IntKind.u64.bits (IntKind.u64.wrap (x0 - 1))).toNat)))).toNat x7) ?_
   conv => arg 3; whnf
   exact Ze (ih _)
 ·conv => arg 3; whnf
  exact Zc rfl
theorem Zbn {t0 : Bool} {t1 : Bool} {t2 : Bool} {t3 : Bool} {b : Int} {c : Int} {m0_0 : (List Int)} {m1_0 : Int} {m1_1 : Int} {m1_2 : (List ZG)} {m1_3 : (List ZM)} {m1_4 : (List Zs)} {m1_5 : (List Zo)} : ∀ r, (Z4 b c (fun z0 z1 => Zq z0 z1 m1_4) m0_0) = some r → evW ctx 128 [(.sl 0 1), (.d (Zb b)), (.d (Zb c)), (.fn 118 [(.ptr 1 0)])] [(.arr 1 (List.map Zb m0_0)), (.cells [(.d (Zb m1_0)), (.d (Zb m1_1)), (.d (D.list t0 (List.map ZW m1_2))), (.d (D.list t1 (List.map ZT m1_3))), (.d (D.list t2 (List.map Zx m1_4))), (.d (D.list t3 (List.map Zt m1_5)))])] = some ((Zbs t0 t1 t2 t3 b c m0_0 m1_0 m1_1 m1_2 m1_3 m1_4 m1_5) r) := by
 show ZE _ (fun r rhs => rhs = some ((Zbs t0 t1 t2 t3 b c m0_0 m1_0 m1_1 m1_2 m1_3 m1_4 m1_5) r)) _
 unfold Z4
 rw [Zf1 ctx 128 Zv4 _ _ rfl rfl]
 conv => arg 3; whnf
 refine Zd rfl ?_ ?_
 ·conv => arg 3; whnf
  refine Zi _ Zhl rfl fun x0 hx0 => ?_
  conv => arg 3; whnf
  refine Zaa rfl ?_
  conv => arg 3; whnf
  refine Zf _ (ZcP _) fun r9 hr9 => ?_
  conv => arg 3; whnf
  exact Zc rfl
 ·conv => arg 3; whnf
  exact Zc rfl
end Go.Proofs.YtnmbdjkbaihicaaDoor
