/- SourceSteps: part 5 of 6 of the proof. -/
import Derived.Test.YtnmbdjkbaihicaaDoorZSourceStepsd
import Derived.KernelRfl
set_option maxRecDepth 100000
set_option maxHeartbeats 40000000
namespace Go.Proofs.YtnmbdjkbaihicaaDoor
open Go Go.Proofs.YtnmbdjkbaihicaaDoorE
set_option linter.unusedVariables false
set_option linter.unusedSimpArgs false
structure ZeH (d : Zi) : Prop where
 g : Zsf d
 ins : ∀ b ∈ d.barriers, ∀ q ∈ b.ins, 0 ≤ q ∧ q.toNat < d.parts.length
 outs : ∀ b ∈ d.barriers, ∀ q ∈ b.outs, 0 ≤ q ∧ q.toNat < d.parts.length
 disj : ∀ b ∈ d.barriers, ∀ q ∈ b.ins, q ∉ b.outs
 pl : d.parts.length ≤ 16
 el : d.edges.length ≤ 48
 fl : d.futures.length ≤ 16
 bl : d.barriers.length ≤ 4
 p1 : 1 ≤ d.parts.length
 arg : ∀ p ∈ d.parts, 0 ≤ p.arg ∧ p.arg ≤ 2147483647
theorem Zvx {n : Nat} {l : List Int} (h : Zii n l = true) : ∀ q ∈ l, 0 ≤ q ∧ q.toNat < n := by
 intro q hq
 unfold Zii at h
 simp only [Bool.and_eq_true, Bool.not_eq_true'] at h
 obtain ⟨i, hi⟩ := List.getElem?_of_mem hq
 have : ZnJ n l i q = false := by
  cases hb : ZnJ n l i q with
  | false => rfl
  | true => rw [(ZiY _ _ 0).2 ⟨i, q, hi, by simpa using hb⟩] at h; exact absurd h.1 (by simp)
 unfold ZnJ Zb2 at this
 simp only [Bool.or_eq_false_iff, Bool.not_eq_false', Bool.and_eq_true, decide_eq_true_eq] at this
 omega
theorem ZfD {d : Zi} (h : ZdO d = 0) : ZeH d := by
 have g := ZtM h
 unfold ZdO at h
 have all : ZkP d = true ∧ d.barriers.any (ZcJ d.parts.length) = false ∧ d.parts.any Zef = false := by
  revert h
  cases ZkP d <;> cases Zkv d <;> cases d.parts.any Zef <;> cases Ze9 (Zeq d) 0 d.edges <;> cases Ze9 (Zcg d) 0 d.futures <;> cases d.barriers.any (ZcJ d.parts.length) <;> simp
 have hb : ∀ b ∈ d.barriers, Zii d.parts.length b.ins = true ∧ Zii d.parts.length b.outs = true ∧ b.ins.any (Zly b) = false := fun b hb => by
  have := List.any_eq_false.1 all.2.1 b hb
  simp only [ZcJ, Bool.or_eq_true, Bool.not_eq_true', not_or, Bool.not_eq_false, Bool.not_eq_true] at this
  exact this
 have m := all.1
 unfold ZkP Zb2 at m
 simp only [Bool.and_eq_true, decide_eq_true_eq, Bool.not_eq_true', decide_eq_false_iff_not] at m
 refine ⟨g, fun b h1 => Zvx (hb b h1).1, fun b h1 => Zvx (hb b h1).2.1, fun b h1 q h2 h3 => ?_, by omega, by omega, by omega, by omega, by omega, fun p hp => ?_⟩
 case refine_2 =>
  have := List.any_eq_false.1 all.2.2 p hp
  simp only [Zef, Zb2, Bool.not_eq_true, Bool.not_eq_false', Bool.and_eq_true, decide_eq_true_eq] at this
  exact this.2.1
 have := List.any_eq_false.1 (hb b h1).2.2 q h2
 unfold Zly at this
 exact this (List.any_eq_true.2 ⟨q, h3, by simp⟩)
def inR (d : Zi) (p : Int) : Prop := 0 ≤ p ∧ p.toNat < d.parts.length
theorem ZeH.src {d : Zi} (g : ZeH d) {e : ZK} (h : e ∈ d.edges) : inR d e.src := (ZoK (g.g.e e h)).1
theorem ZeH.dst {d : Zi} (g : ZeH d) {e : ZK} (h : e ∈ d.edges) : inR d e.dst := (ZoK (g.g.e e h)).2.1
theorem ZeH.maker {d : Zi} (g : ZeH d) {f : Zp} (h : f ∈ d.futures) : inR d f.maker := (ZoK (g.g.f f h).1).1
theorem ZeH.user {d : Zi} (g : ZeH d) {f : Zp} (h : f ∈ d.futures) : inR d f.user := (ZoK (g.g.f f h).1).2.1
theorem ZeH.short {d : Zi} (g : ZeH d) (hs : ∀ b ∈ d.barriers, Zpa b) : Zfe d := ⟨by have := g.pl; omega, by have := g.el; omega, by have := g.fl; omega, by have := g.bl; omega, hs⟩
def wk (s : Zm) (p : Int) : Int := match s.work[p.toNat]? with | some x => x | none => 0
def vl (s : Zm) (p : Int) : Int := match s.vals[p.toNat]? with | some x => x | none => 0
def ZbD (d : Zi) (s : Zm) (p : Int) : Bool := wk s p == Zdr d.parts p
structure OKS (d : Zi) (s : Zm) : Prop where
 w : s.work.length = d.parts.length
 v : s.vals.length = d.parts.length
theorem Zip {d : Zi} {s : Zm} (o : OKS d s) {p : Int} (h : inR d p) : ZA s.work p = some (wk s p) := by
 have hl : p.toNat < s.work.length := by rw [o.w]; exact h.2
 unfold wk
 rw [List.getElem?_eq_getElem hl]
 exact Zk2 h.1 hl
theorem Zra {d : Zi} {s : Zm} (o : OKS d s) {p : Int} (h : inR d p) : ZA s.vals p = some (vl s p) := by
 have hl : p.toNat < s.vals.length := by rw [o.v]; exact h.2
 unfold vl
 rw [List.getElem?_eq_getElem hl]
 exact Zk2 h.1 hl
theorem Ziz {d : Zi} {p : Int} (h : inR d p) : ∃ x, ZA d.parts p = some x ∧ d.parts[p.toNat]? = some x ∧ x.work = Zdr d.parts p := by
 obtain ⟨h0, hl⟩ := h
 refine ⟨d.parts[p.toNat]'hl, Zk2 h0 hl, List.getElem?_eq_getElem hl, ?_⟩
 unfold Zdr
 rw [List.getElem?_eq_getElem hl]
theorem Zmd {d : Zi} {s : Zm} (o : OKS d s) {p : Int} (h : inR d p) : Zba d s p = some (ZbD d s p) := by
 obtain ⟨x, h1, _, h3⟩ := Ziz h
 unfold Zba ZbD
 rw [Zip o h, h1]
 simp only [Option.bind_some]
 rw [h3]
 cases (wk s p == Zdr d.parts p) <;> rfl
def ZlC (d : Zi) (s : Zm) (p : Int) (e : ZK) : Bool := (e.dst == p) && !ZbD d s e.src
def ZjF (d : Zi) (s : Zm) (p : Int) (b : Zo) : Bool := (b.outs.any fun x => p == x) && b.ins.any fun q => !ZbD d s q
def ZfN (d : Zi) (s : Zm) (p : Int) : Bool := !(d.edges.any (ZlC d s p)) && !(d.barriers.any (ZjF d s p))
theorem Zsa {d : Zi} {s : Zm} (g : ZeH d) (hs : ∀ b ∈ d.barriers, Zpa b) (o : OKS d s) (p : Int) : Zd1 d s p = some (ZfN d s p) := by
 have sh := g.short hs
 have k1 := Zcb d.edges (ZcF d s p) (fun _ => ZlC d s p) (fun _ _ => .inl ()) (.inr ()) (fun i x hi hx => by
  simp only [ZcF, Zdj hi, Z0 hx, Option.bind_some, ZI hi sh.e, cond_true, ZlC, Zmd o (g.src (List.mem_of_getElem? hx))]
  cases (x.dst == p) <;> cases ZbD d s x.src <;> rfl) (by simp only [ZcF, Zdi]; rfl)
 have k3 : ∀ b ∈ d.barriers, lp (Zce d s b) 0 = some (bif b.ins.any (fun q => !ZbD d s q) then .inl () else .inr ()) := fun b hb => by
  have := Zcb b.ins (Zce d s b) (fun _ q => !ZbD d s q) (fun _ _ => .inl ()) (.inr ()) (fun i x hi hx => by
   simp only [Zce, Zdj hi, Z0 hx, Option.bind_some, ZI hi (hs b hb).1, cond_true, Zmd o (g.ins b hb x (List.mem_of_getElem? hx))]
   cases ZbD d s x <;> rfl) (by simp only [Zce, Zdi]; rfl)
  rw [this, ZaH, Zee]
 have k2 := Zcb d.barriers (ZcL d s p) (fun _ => ZjF d s p) (fun _ _ => .inl ()) (.inr ()) (fun i x hi hx => by
  have hb := List.mem_of_getElem? hx
  simp only [ZcL, Zdj hi, Z0 hx, Option.bind_some, ZI hi sh.b, cond_true, ZjF, Zro _ _ (hs x hb).2, k3 x hb]
  cases (x.outs.any fun y => p == y) <;> cases (x.ins.any fun q => !ZbD d s q) <;> rfl) (by simp only [ZcL, Zdi]; rfl)
 unfold Zd1 ZfN
 rw [k1, ZaH, Zee]
 cases d.edges.any (ZlC d s p) with
 | true => rfl
 | false =>
  simp only [cond_false, Option.bind_some]
  rw [k2, ZaH, Zee]
  cases d.barriers.any (ZjF d s p) <;> rfl
theorem Zqj {γ R : Type} (q : γ → Bool) (f : γ → R) (fin : R) : ∀ (l : List γ) (i : Nat), ZoS (fun _ => q) (fun _ x => f x) fin i l = (match l.find? q with | some x => f x | none => fin)
 | [], _ => rfl
 | x :: l, i => by
  unfold ZoS
  rw [List.find?_cons]
  cases q x with
  | true => rfl
  | false => exact Zqj q f fin l (i + 1)
def Zi8 (s : Zm) (p : Int) (f : Zp) : Bool := (f.user == p) && (f.pos == wk s p)
def Zrw (d : Zi) (s : Zm) (p : Int) : Bool := match d.futures.find? (Zi8 s p) with | some f => ZbD d s f.maker | none => true
def Zin (d : Zi) (s : Zm) (p : Int) : Bool := !ZbD d s p && ((!(wk s p == 0) || ZfN d s p) && Zrw d s p)
theorem ZpZ {d : Zi} {s : Zm} (g : ZeH d) (o : OKS d s) {p : Int} (hp : inR d p) (step : Int → Option (Int ⊕ (Unit ⊕ Unit))) (hstep : step = ZcE d s p) :
  ((lp step 0).bind fun r => match r with | .inl _ => some true | .inr _ => some false) = some (Zrw d s p) := by
 subst hstep
 have k := Zcb d.futures (ZcE d s p) (fun _ => Zi8 s p) (fun _ f => bif ZbD d s f.maker then (.inl () : Unit ⊕ Unit) else .inr ()) (.inl ()) (fun i x hi hx => by
  simp only [ZcE, Zdj hi, Z0 hx, Option.bind_some, ZI hi (show d.futures.length < 9223372036854775808 by have := g.fl; omega), cond_true, Zi8, Zip o hp, Zmd o (g.maker (List.mem_of_getElem? hx))]
  cases (x.user == p) <;> cases (x.pos == wk s p) <;> cases ZbD d s x.maker <;> rfl) (by simp only [ZcE, Zdi]; rfl)
 rw [k, Zqj (Zi8 s p) (fun f => bif ZbD d s f.maker then (.inl () : Unit ⊕ Unit) else .inr ())]
 unfold Zrw
 cases d.futures.find? (Zi8 s p) with
 | none => rfl
 | some f => dsimp only; cases ZbD d s f.maker <;> rfl
theorem Zv4 {d : Zi} {s : Zm} (g : ZeH d) (hs : ∀ b ∈ d.barriers, Zpa b) (o : OKS d s) {p : Int} (hp : inR d p) : Zeg d s p = some (Zin d s p) := by
 unfold Zeg Zin
 rw [Zmd o hp, Zip o hp, Zsa g hs o]
 simp only [Option.bind_some]
 cases ZbD d s p with
 | true => rfl
 | false =>
  simp only [cond_false, Bool.not_false, Bool.true_and]
  cases (wk s p == 0) with
  | true =>
   cases ZfN d s p with
   | false => rfl
   | true =>
    simp only [cond_true, Bool.not_true, Bool.false_or, Bool.true_and]
    exact ZpZ g o hp _ rfl
  | false =>
   simp only [cond_false, Bool.not_false, Bool.true_or, Bool.true_and]
   exact ZpZ g o hp _ rfl
def ZpO (d : Zi) (i : Nat) (x : Int) : Bool := decide (x < 0) || decide (Zdr d.parts (i : Int) < x)
def Zrm (d : Zi) (s : Zm) (i : Nat) (x : Int) : Bool := decide (0 < x) && !ZfN d s (i : Int)
def ZpN (d : Zi) (s : Zm) (f : Zp) : Bool := decide (f.pos < wk s f.user) && !ZbD d s f.maker
def Zju (d : Zi) (s : Zm) : Bool :=
 decide (s.work.length = d.parts.length) && (decide (s.vals.length = d.parts.length) && (!(Ze9 (ZpO d) 0 s.work) && (!(Ze9 (Zrm d s) 0 s.work) && !(d.futures.any (ZpN d s)))))
theorem Znk {d : Zi} {i : Nat} (h : i < d.parts.length) : inR d (i : Int) := ⟨by omega, by simpa using h⟩
theorem ZxQ {d : Zi} {s : Zm} (g : ZeH d) (hs : ∀ b ∈ d.barriers, Zpa b) : Zfi d s = some (Zju d s) := by
 unfold Zfi Zju
 have ne : ∀ a b : Nat, (((a : Int)) != (b : Int)) = !decide (a = b) := fun a b => by
  by_cases h : a = b
  ·rw [decide_eq_true h, h]; simp
  ·rw [decide_eq_false h]
   have : ((a : Int)) ≠ (b : Int) := by omega
   simp [bne_iff_ne.2 this]
 rw [ne, ne]
 by_cases h1 : s.work.length = d.parts.length
 case neg => rw [decide_eq_false h1]; rfl
 by_cases h2 : s.vals.length = d.parts.length
 case neg => rw [decide_eq_true h1, decide_eq_false h2]; rfl
 have o : OKS d s := ⟨h1, h2⟩
 have hl : s.work.length < 9223372036854775808 := by have := g.pl; omega
 rw [decide_eq_true h1, decide_eq_true h2]
 have k0 := Zcb s.work (Zc4 d s) (ZpO d) (fun _ _ => .inl ()) (.inr ()) (fun i x hi hx => by
  obtain ⟨q, q1, _, q3⟩ := Ziz (Znk (d := d) (i := i) (by omega))
  simp only [Zc4, Zdj hi, Z0 hx, Option.bind_some, ZI hi hl, cond_true, ZpO, q1, q3]
  cases decide (x < 0) <;> cases decide (Zdr d.parts (i : Int) < x) <;> rfl) (by simp only [Zc4, Zdi]; rfl)
 have k1 := Zcb s.work (Zc3 d s) (Zrm d s) (fun _ _ => .inl ()) (.inr ()) (fun i x hi hx => by
  simp only [Zc3, Zdj hi, Z0 hx, Option.bind_some, ZI hi hl, cond_true, Zrm, Zsa g hs o]
  cases decide (0 < x) <;> cases ZfN d s (i : Int) <;> rfl) (by simp only [Zc3, Zdi]; rfl)
 have k2 : ∀ f ∈ d.futures, Zcj f s.work s.vals d.period d.deadline d.parts d.edges d.futures d.barriers = some (ZpN d s f) := fun f hf => by
  unfold Zcj ZpN
  rw [Zip o (g.user hf)]
  have := Zmd o (g.maker hf)
  simp only [Option.bind_some]
  show (bif decide (f.pos < wk s f.user) then (Zba d s f.maker).bind _ else _) = _
  rw [this]
  cases decide (f.pos < wk s f.user) <;> cases ZbD d s f.maker <;> rfl
 simp only [Bool.not_true, cond_false, Bool.true_and]
 rw [k0, ZaH]
 cases Ze9 (ZpO d) 0 s.work with
 | true => rfl
 | false =>
  simp only [cond_false, Option.bind_some, Bool.not_false, Bool.true_and]
  rw [k1, ZaH]
  cases Ze9 (Zrm d s) 0 s.work with
  | true => rfl
  | false =>
   simp only [cond_false, Option.bind_some, Bool.not_false, Bool.true_and]
   rw [Zi4 d.futures _ (ZpN d s) k2 (by have := g.fl; omega)]
   cases d.futures.any (ZpN d s) <;> rfl
noncomputable def ZdQ (d : Zi) (s : Zm) : Int := bif (ZdO d == 0) then (bif Zju d s then 0 else 90) else ZdO d
theorem Zop (d : Zi) (s : Zm) (h : Zfe d) : Zb6 d s = some (ZdQ d s) := by
 unfold Zb6 ZdQ
 rw [Zrl d h]
 simp only [Option.bind_some]
 by_cases hc : ZdO d = 0
 ·rw [hc, ZxQ (ZfD hc) h.i]
  simp only [beq_self_eq_true, cond_true, Option.bind_some]
  cases Zju d s <;> rfl
 ·rw [show (ZdO d == 0) = false by simpa using hc]
  rfl
def pick (p : Nat → Bool) (n : Nat) : List Int := ((List.range n).filter p).map fun i : Nat => (i : Int)
theorem ZhO (p : Nat → Bool) (n : Nat) : (pick p n).length ≤ n := by
 unfold pick
 rw [List.length_map]
 exact Nat.le_trans (List.length_filter_le _ _) (by simp)
theorem ZuI (p : Nat → Bool) (n : Nat) : pick p (n + 1) = pick p n ++ (bif p n then [(n : Int)] else []) := by
 unfold pick
 rw [List.range_succ, List.filter_append, List.map_append]
 cases h : p n <;> simp [h]
theorem Ztz {γ : Type} (l : List γ) (hl : l.length ≤ 1000) (p : Nat → Bool) (step : Int × List Int → Option ((Int × List Int) ⊕ List Int))
  (h1 : ∀ i (s : List Int), i < l.length → step ((i : Int), s) = bif p i then (bif Nat.ble (s.length + 1) lim then some (.inl (((i + 1 : Nat) : Int), s ++ [(i : Int)])) else none) else some (.inl (((i + 1 : Nat) : Int), s)))
  (h2 : ∀ s, step ((l.length : Int), s) = some (.inr s)) : lp step (0, []) = some (pick p l.length) := by
 have key : ∀ k i : Nat, i + k = l.length → lp step ((i : Int), pick p i) = some (pick p l.length) := by
  intro k
  induction k with
  | zero =>
   intro i hi
   have : i = l.length := by omega
   subst this
   rw [ZbO, h2]
  | succ k ih =>
   intro i hi
   have ih' := ih (i + 1) (by omega)
   rw [ZuI] at ih'
   have hb := ZhO p i
   rw [ZbO, h1 i _ (by omega)]
   cases hp : p i with
   | true =>
    rw [hp] at ih'
    rw [ZhN (show (pick p i).length + 1 ≤ 1073741824 by omega)]
    exact ih'
   | false =>
    rw [hp] at ih'
    simp only [cond_false, List.append_nil] at ih' ⊢
    exact ih'
 exact key l.length 0 (by omega)
def Zsw (d : Zi) (s : Zm) : List Int := pick (fun i => Zin d s (i : Int)) d.parts.length
theorem ZBv {d : Zi} {s : Zm} (g : ZeH d) (hs : ∀ b ∈ d.barriers, Zpa b) (o : OKS d s) : Zgh d s = some (Zsw d s) := by
 have hl : d.parts.length < 9223372036854775808 := by have := g.pl; omega
 have := Ztz d.parts (by have := g.pl; omega) (fun i => Zin d s (i : Int)) (Zd9 d s) (fun i acc hi => by
  simp only [Zd9, Zdj hi, cond_true, Zv4 g hs o (Znk hi), Option.bind_some, ZI hi hl]) (fun acc => by simp only [Zd9, Zdi]; rfl)
 unfold Zgh Zsw
 rw [this]; rfl
noncomputable def Zgr (d : Zi) (u : Int) : List Int := @dite _ (∃ r, Zck d u r) (Classical.propDecidable _) (fun h => Classical.choose h) fun _ => []
theorem Zq6 {d : Zi} {u : Int} {r : List Int} (h : Zck d u r) : Zgr d u = r := by
 unfold Zgr
 rw [dif_pos ⟨r, h⟩]
 exact (Classical.choose_spec (⟨r, h⟩ : ∃ r, Zck d u r)).eq h
noncomputable def Zfr (d : Zi) (u : Int) : List Int := Zos d u (Zgr d u)
theorem Zqy (d : Zi) (h : Zfe d) (hc : ZdO d = 0) (u : Int) : Zfu d u = some (Zfr d u) ∧ Zck d u (Zgr d u) := by
 have g := ZfD hc
 obtain ⟨r, h1, h2⟩ := Zp9 d h (by have := g.fl; omega) hc u
 have := Zyi d h (by have := g.el; omega) (by have := g.fl; omega) hc u h2
 unfold Zfr
 rw [Zq6 h2]
 exact ⟨this, h2⟩
theorem ZrS {d : Zi} (g : ZeH d) {u : Int} (ht : Zck d u (Zgr d u)) {q : Int} (hq : q ∈ Zfr d u) : (∃ e ∈ d.edges, e.dst = u ∧ q = e.src) ∨ (∃ f ∈ d.futures, f.user = u ∧ q = f.maker) := by
 unfold Zfr Zos at hq
 rcases List.mem_append.1 hq with h | h
 ·obtain ⟨j, x, h1, h2, h3⟩ := (Zmo _ _ _ _ _).1 h
  exact .inl ⟨x, List.mem_of_getElem? h1, by simpa using h2, h3⟩
 ·obtain ⟨z, h1, rfl⟩ := List.mem_map.1 h
  obtain ⟨i, f, h2, h3, rfl⟩ := (ht.mem z).1 h1
  refine .inr ⟨f, List.mem_of_getElem? h2, h3, ?_⟩
  unfold Zjg
  rw [Int.toNat_natCast, h2]
theorem Zpj {d : Zi} (g : ZeH d) {u : Int} (ht : Zck d u (Zgr d u)) {q : Int} (hq : q ∈ Zfr d u) : inR d q := by
 rcases ZrS g ht hq with ⟨e, h1, _, rfl⟩ | ⟨f, h1, _, rfl⟩
 ·exact g.src h1
 ·exact g.maker h1
theorem ZkU {d : Zi} (g : ZeH d) {u : Int} (ht : Zck d u (Zgr d u)) : (Zfr d u).length ≤ 1000 := by
 unfold Zfr Zos
 rw [List.length_append, List.length_map]
 have h1 := ZiJ (fun e : ZK => e.dst == u) (fun _ e => e.src) d.edges 0
 have h2 := ZkI ht
 have := g.el; have := g.fl
 omega
theorem Zqq (s : Zm) (l : List Int) (hl : l.length ≤ 1000) (hP : ∀ x ∈ l, ZA s.vals x = some (vl s x)) (step : Int × List Int → Option ((Int × List Int) ⊕ List Int))
  (hstep : ∀ t, step t = (bif (decide (t.1 < (l.length : Int))) then (ZA l t.1).bind fun x6 => (ZA s.vals x6).bind fun x7 => bif (Nat.ble (List.length t.2 + 1) lim) then some (.inl ((w64 (t.1 + 1)), (t.2 ++ [x7]))) else none else some (.inr t.2))) :
  lp step (0, []) = some (l.map (vl s)) := by
 have := Zpr l hl (fun _ => true) (fun _ x => vl s x) step (fun i x acc hi hx => by
  rw [hstep]
  simp only [Zdj hi, Z0 hx, Option.bind_some, ZI hi (show l.length < 9223372036854775808 by omega), cond_true, hP x (List.mem_of_getElem? hx)]) (fun acc => by
  rw [hstep]
  simp only [Zdi, cond_false]) [] (by simp)
 rw [Zq2 (vl s) l 0, List.nil_append] at this
 exact this
def ZoJ (d : Zi) (p : Int) : ZF := match d.parts[p.toNat]? with | some x => x | none => ⟨0, 0, 0⟩
def more (s : Zm) (p : Int) : Zm := ⟨s.work.set p.toNat (wk s p + 1), s.vals⟩
noncomputable def Zu6 (d : Zi) (input : List Int) (s : Zm) (p : Int) : Int := opV (ZoJ d p) input ((Zfr d p).map (vl s))
noncomputable def ZiB (d : Zi) (input : List Int) (s : Zm) (p : Int) : Zm :=
 ⟨s.work.set p.toNat (wk s p + 1), bif ZbD d (more s p) p then s.vals.set p.toNat (Zu6 d input s p) else s.vals⟩
theorem OKS.more {d : Zi} {s : Zm} (o : OKS d s) (p : Int) : OKS d (more s p) := ⟨by unfold Proofs.YtnmbdjkbaihicaaDoor.more; rw [List.length_set]; exact o.w, o.v⟩
theorem OKS.step {d : Zi} {s : Zm} (o : OKS d s) (input : List Int) (p : Int) : OKS d (ZiB d input s p) := by
 refine ⟨by unfold ZiB; rw [List.length_set]; exact o.w, ?_⟩
 unfold ZiB
 dsimp only
 cases ZbD d (Proofs.YtnmbdjkbaihicaaDoor.more s p) p
 ·exact o.v
 ·simp only [cond_true, List.length_set]; exact o.v
theorem ZtK {l : List Int} (h1 : 0 < l.length) (h2 : l.length ≤ 1000) : Zbq l = some () := by
 unfold Zbq
 rw [show Nat.blt 0 l.length = true by simp [Nat.blt]; omega, ZhN (show l.length ≤ 1073741824 by omega)]
 rfl
theorem Zy4 {d : Zi} {s : Zm} (hc : ZdO d = 0) (hs : ∀ b ∈ d.barriers, Zpa b) (o : OKS d s) {p : Int} (hp : inR d p) (input : List Int) (hi : input.length ≤ 1000) (hw : 0 ≤ wk s p ∧ wk s p ≤ 100) :
  ZeZ d input s p = some (ZiB d input s p) := by
 have g := ZfD hc
 have sh := g.short hs
 obtain ⟨f1, f2⟩ := Zqy d sh hc p
 have g1 := g.p1; have g2 := g.pl
 have hlw : 0 < s.work.length ∧ s.work.length ≤ 1000 := by rw [o.w]; omega
 have hlv : 0 < s.vals.length ∧ s.vals.length ≤ 1000 := by rw [o.v]; omega
 obtain ⟨x, q1, q2, _⟩ := Ziz hp
 have hx : ZoJ d p = x := by unfold ZoJ; rw [q2]
 unfold ZeZ ZiB Zu6
 rw [ZtK hlw.1 hlw.2, ZtK hlv.1 hlv.2, Zip o hp]
 simp only [Option.bind_some]
 rw [Zcr (n := wk s p + 1) (by omega) (by omega)]
 have hd := Zmd (o.more p) hp
 unfold more at hd
 rw [hd]
 simp only [Option.bind_some]
 show (bif ZbD d (more s p) p then _ else _) = some (Zm.mk (s.work.set p.toNat (wk s p + 1)) (bif ZbD d (more s p) p then _ else _))
 cases ZbD d (more s p) p with
 | false => rfl
 | true =>
  simp only [cond_true]
  rw [f1]
  simp only [Option.bind_some]
  rw [Zqq s (Zfr d p) (ZkU g f2) (fun y hy => Zra o (Zpj g f2 hy)) (Zfs s (Zfr d p)) (fun t => rfl)]
  simp only [Option.bind_some]
  rw [q1]
  simp only [Option.bind_some]
  rw [Zwl x input _ hi (by rw [List.length_map]; exact ZkU g f2), Zra o hp]
  simp only [Option.bind_some]
  rw [hx]
noncomputable def goS (d : Zi) (input : List Int) (s : Zm) (p : Int) : Zm × Int :=
 bif (ZdQ d s == 0) then (bif decide (p < 0) || decide ((d.parts.length : Int) ≤ p) then (⟨[], []⟩, 91) else bif ZbD d s p then (⟨[], []⟩, 92) else bif Zin d s p then (ZiB d input s p, 0) else (⟨[], []⟩, 93)) else (⟨[], []⟩, ZdQ d s)
theorem ZiU {d : Zi} {s : Zm} (h : ZdQ d s = 0) : ZdO d = 0 ∧ Zju d s = true := by
 unfold ZdQ at h
 by_cases hc : ZdO d = 0
 ·refine ⟨hc, ?_⟩
  rw [hc] at h
  cases hr : Zju d s with
  | true => rfl
  | false => rw [hr] at h; simp at h
 ·rw [show (ZdO d == 0) = false by simpa using hc] at h
  exact absurd h hc
def ZmA (d : Zi) (s : Zm) (p : Int) : Prop := wk s p = Zdr d.parts p
def Zq0 (d : Zi) (s : Zm) (p : Int) : Prop := (∀ e ∈ d.edges, e.dst = p → ZmA d s e.src) ∧ (∀ b ∈ d.barriers, p ∈ b.outs → ∀ q ∈ b.ins, ZmA d s q)
def ZBj (d : Zi) (s : Zm) (p : Int) : Prop := ¬ ZmA d s p ∧ (wk s p = 0 → Zq0 d s p) ∧ (∀ f ∈ d.futures, f.user = p → f.pos = wk s p → ZmA d s f.maker)
structure Znn (d : Zi) (s : Zm) : Prop where
 o : OKS d s
 rng : ∀ p, inR d p → 0 ≤ wk s p ∧ wk s p ≤ Zdr d.parts p
 beg : ∀ p, inR d p → 0 < wk s p → Zq0 d s p
 fut : ∀ f ∈ d.futures, f.pos < wk s f.user → ZmA d s f.maker
theorem Zf2 {d : Zi} {s : Zm} {p : Int} : ZbD d s p = true ↔ ZmA d s p := by unfold ZbD ZmA; simp
theorem ZvU {d : Zi} {s : Zm} {p : Int} (h : ¬ ZmA d s p) : ZbD d s p = false := by
 cases hb : ZbD d s p with
 | false => rfl
 | true => exact absurd (Zf2.1 hb) h
theorem Zl8 {d : Zi} {s : Zm} {p : Int} : ZfN d s p = true ↔ Zq0 d s p := by
 have e1 : ∀ e : ZK, ZlC d s p e = true ↔ (e.dst = p ∧ ¬ ZmA d s e.src) := fun e => by
  unfold ZlC
  rw [← Zf2]
  cases ZbD d s e.src <;> simp
 have e2 : ∀ b : Zo, ZjF d s p b = true ↔ (p ∈ b.outs ∧ ∃ q ∈ b.ins, ¬ ZmA d s q) := fun b => by
  unfold ZjF
  rw [Bool.and_eq_true, List.any_eq_true, List.any_eq_true]
  constructor
  ·rintro ⟨⟨x, h1, h2⟩, ⟨q, h3, h4⟩⟩
   have h2 := eq_of_beq h2
   subst h2
   exact ⟨h1, q, h3, fun h => by rw [Zf2.2 h] at h4; cases h4⟩
  ·rintro ⟨h1, q, h3, h4⟩
   exact ⟨⟨p, h1, by simp⟩, ⟨q, h3, by cases h : ZbD d s q with | false => rfl | true => exact absurd (Zf2.1 h) h4⟩⟩
 unfold ZfN Zq0
 rw [Bool.and_eq_true, Bool.not_eq_true', Bool.not_eq_true', List.any_eq_false, List.any_eq_false]
 constructor
 ·rintro ⟨h1, h2⟩
  exact ⟨fun e he h => Classical.byContradiction fun hn => h1 e he ((e1 e).2 ⟨h, hn⟩), fun b hb h q hq => Classical.byContradiction fun hn => h2 b hb ((e2 b).2 ⟨h, q, hq, hn⟩)⟩
 ·rintro ⟨h1, h2⟩
  exact ⟨fun e he h => by obtain ⟨a, b⟩ := (e1 e).1 h; exact b (h1 e he a), fun b hb h => by obtain ⟨a, q, c, f⟩ := (e2 b).1 h; exact f (h2 b hb a q c)⟩
theorem ZqH {d : Zi} {s : Zm} (g : ZeH d) {p : Int} : Zrw d s p = true ↔ (∀ f ∈ d.futures, f.user = p → f.pos = wk s p → ZmA d s f.maker) := by
 unfold Zrw
 cases hf : d.futures.find? (Zi8 s p) with
 | none =>
  simp only [true_iff]
  intro f h1 h2 h3
  have := List.find?_eq_none.1 hf f h1
  unfold Zi8 at this
  simp [h2, h3] at this
 | some f =>
  have m := List.mem_of_find?_eq_some hf
  have q := List.find?_some hf
  unfold Zi8 at q
  simp only [Bool.and_eq_true, beq_iff_eq] at q
  dsimp only
  rw [Zf2]
  constructor
  ·intro h f' h1 h2 h3
   have : f' = f := by
    obtain ⟨i, hi⟩ := List.getElem?_of_mem m
    obtain ⟨j, hj⟩ := List.getElem?_of_mem h1
    rcases Nat.lt_trichotomy i j with hl | hl | hl
    ·exact absurd ⟨q.1.trans h2.symm, q.2.trans h3.symm⟩ (g.g.ne i j f f' hl hi hj)
    ·subst hl; rw [hi] at hj; exact (Option.some.inj hj).symm
    ·exact absurd ⟨h2.trans q.1.symm, h3.trans q.2.symm⟩ (g.g.ne j i f' f hl hj hi)
   rw [this]; exact h
  ·intro h
   exact h f m q.1 q.2
theorem Zwx {d : Zi} {s : Zm} (g : ZeH d) {p : Int} : Zin d s p = true ↔ ZBj d s p := by
 unfold Zin ZBj
 simp only [Bool.and_eq_true, Bool.not_eq_true', Bool.or_eq_true, ZqH g, Zl8]
 constructor
 ·rintro ⟨h1, h2, h3⟩
  refine ⟨fun h => (by rw [Zf2.2 h] at h1; cases h1), fun h => ?_, h3⟩
  rcases h2 with h2 | h2
  ·rw [h] at h2; simp at h2
  ·exact h2
 ·rintro ⟨h1, h2, h3⟩
  refine ⟨ZvU h1, ?_, h3⟩
  by_cases h : wk s p = 0
  ·exact .inr (h2 h)
  ·left; simpa using h
theorem ZoC {γ : Type} {p : Nat → γ → Bool} {l : List γ} : Ze9 p 0 l = false ↔ ∀ (i : Nat) x, l[i]? = some x → p i x = false := by
 constructor
 ·intro h i x hx
  cases hb : p i x with
  | false => rfl
  | true => rw [(ZiY _ _ 0).2 ⟨i, x, hx, by simpa using hb⟩] at h; cases h
 ·intro h
  cases hb : Ze9 p 0 l with
  | false => rfl
  | true =>
   obtain ⟨j, x, h1, h2⟩ := (ZiY _ _ 0).1 hb
   rw [Nat.zero_add, h j x h1] at h2; cases h2
theorem ZvD {s : Zm} {i : Nat} {x : Int} (h : s.work[i]? = some x) : wk s (i : Int) = x := by unfold wk; rw [Int.toNat_natCast, h]
theorem Zi9 {d : Zi} {s : Zm} : Zju d s = true ↔ Znn d s := by
 unfold Zju
 simp only [Bool.and_eq_true, decide_eq_true_eq, Bool.not_eq_true', ZoC]
 have ex : ∀ {p : Int}, OKS d s → inR d p → ∃ i : Nat, p = (i : Int) ∧ s.work[i]? = some (wk s p) := fun {p} o hp => by
  have hl : p.toNat < s.work.length := by rw [o.w]; exact hp.2
  refine ⟨p.toNat, by have := hp.1; omega, ?_⟩
  unfold wk
  rw [List.getElem?_eq_getElem hl]
 constructor
 ·rintro ⟨h1, h2, h3, h4, h5⟩
  refine ⟨⟨h1, h2⟩, fun p hp => ?_, fun p hp hw => ?_, fun f hf hw => ?_⟩
  ·obtain ⟨i, e, hi⟩ := ex ⟨h1, h2⟩ hp
   have := h3 i _ hi
   unfold ZpO at this
   simp only [Bool.or_eq_false_iff, decide_eq_false_iff_not] at this
   rw [e] at this ⊢
   omega
  ·obtain ⟨i, e, hi⟩ := ex ⟨h1, h2⟩ hp
   have := h4 i _ hi
   unfold Zrm at this
   rw [decide_eq_true hw, ← e] at this
   exact Zl8.1 (by simpa using this)
  ·have := List.any_eq_false.1 h5 f hf
   unfold ZpN at this
   rw [decide_eq_true hw] at this
   exact Zf2.1 (by simpa using this)
 ·rintro ⟨o, h3, h4, h5⟩
  refine ⟨o.w, o.v, fun i x hx => ?_, fun i x hx => ?_, List.any_eq_false.2 fun f hf => ?_⟩
  ·have hi : i < d.parts.length := by rw [← o.w]; exact (List.getElem?_eq_some_iff.1 hx).1
   have := h3 i (Znk hi)
   rw [ZvD hx] at this
   unfold ZpO
   rw [decide_eq_false (by omega), decide_eq_false (by omega)]; rfl
  ·have hi : i < d.parts.length := by rw [← o.w]; exact (List.getElem?_eq_some_iff.1 hx).1
   unfold Zrm
   by_cases hp : 0 < x
   ·have := h4 i (Znk hi) (by rw [ZvD hx]; exact hp)
    rw [Zl8.2 this]; simp
   ·rw [decide_eq_false hp]; rfl
  ·unfold ZpN
   by_cases hp : f.pos < wk s f.user
   ·rw [Zf2.2 (h5 f hf hp)]; simp
   ·rw [decide_eq_false hp]; simp
theorem Zrf {d : Zi} {s : Zm} (o : OKS d s) (input : List Int) {p : Int} (hp : inR d p) : wk (ZiB d input s p) p = wk s p + 1 := by
 have hl : p.toNat < s.work.length := by rw [o.w]; exact hp.2
 conv => lhs; unfold wk ZiB
 dsimp only
 rw [List.getElem?_set_self hl]
theorem ZpP {d : Zi} {s : Zm} (input : List Int) {p q : Int} (hp : inR d p) (hq : inR d q) (h : q ≠ p) : wk (ZiB d input s p) q = wk s q := by
 have : p.toNat ≠ q.toNat := by have := hp.1; have := hq.1; omega
 conv => lhs; unfold wk ZiB
 dsimp only
 rw [List.getElem?_set_ne this]
 rfl
theorem ZxM {d : Zi} {s : Zm} (input : List Int) (p q : Int) : wk (more s p) q = wk (ZiB d input s p) q := rfl
theorem Zt1 {d : Zi} (g : ZeH d) (p : Int) : Zdr d.parts p ≤ 100 := Zm6 g.g p
theorem ZB7 {d : Zi} {s : Zm} (h : Zfe d) (input : List Int) (hi : input.length ≤ 1000) (p : Int) : ZgH d input s p = some (goS d input s p) := by
 unfold ZgH goS
 rw [Zop d s h]
 simp only [Option.bind_some]
 by_cases hc : ZdQ d s = 0
 ·rw [hc]
  simp only [beq_self_eq_true, cond_true, bne_self_eq_false, cond_false]
  obtain ⟨h1, h2⟩ := ZiU hc
  have g := ZfD h1
  have r := Zi9.1 h2
  by_cases c1 : p < 0
  ·rw [decide_eq_true c1]; rfl
  by_cases c2 : (d.parts.length : Int) ≤ p
  ·rw [decide_eq_false c1, decide_eq_true c2]; rfl
  have hp : inR d p := ⟨by omega, by omega⟩
  have hw := r.rng p hp
  have hle := Zt1 g p
  rw [decide_eq_false c1, decide_eq_false c2, Zmd r.o hp, Zv4 g h.i r.o hp, Zy4 h1 h.i r.o hp input hi (by omega)]
  simp only [cond_false, Option.bind_some, Bool.or_self]
  cases ZbD d s p with
  | true => rfl
  | false => cases Zin d s p <;> rfl
 ·rw [show (ZdQ d s == 0) = false by simpa using hc, show (ZdQ d s != 0) = true by simpa using hc]
  rfl
theorem ZzQ {d : Zi} {s : Zm} (h : Zfe d) : Zf6 d s = some (bif (ZdQ d s == 0) then Zsw d s else []) := by
 unfold Zf6
 rw [Zop d s h]
 simp only [Option.bind_some]
 by_cases hc : ZdQ d s = 0
 ·rw [hc]
  simp only [beq_self_eq_true, cond_true, bne_self_eq_false, cond_false]
  obtain ⟨h1, h2⟩ := ZiU hc
  rw [ZBv (ZfD h1) h.i (Zi9.1 h2).o]
  rfl
 ·rw [show (ZdQ d s == 0) = false by simpa using hc, show (ZdQ d s != 0) = true by simpa using hc]
  rfl
def Zuh (d : Zi) (input : List Int) (s : Zm) : Bool := few d && (decide ((input.length : Int) ≤ 60) && (decide ((s.work.length : Int) ≤ 20) && decide ((s.vals.length : Int) ≤ 20)))
theorem ZzB (d : Zi) (input : List Int) (s : Zm) : ZfX d input s = some (Zuh d input s) := by
 unfold ZfX Zuh
 rw [ZAB]
 simp only [Option.bind_some]
 cases few d <;> cases decide ((input.length : Int) ≤ 60) <;> cases decide ((s.work.length : Int) ≤ 20) <;> cases decide ((s.vals.length : Int) ≤ 20) <;> rfl
theorem Ztr {d : Zi} {input : List Int} {s : Zm} (h : Zuh d input s = true) : ZjX d ∧ input.length ≤ 60 ∧ s.work.length ≤ 20 ∧ s.vals.length ≤ 20 := by
 unfold Zuh at h
 simp only [Bool.and_eq_true, decide_eq_true_eq] at h
 exact ⟨Zuk h.1, by omega, by omega, by omega⟩
theorem ZwK {s : Zm} (h1 : s.work.length ≤ 1000) (h2 : s.vals.length ≤ 1000) : Za5 s = some () := by
 unfold Za5
 rw [ZhN (by omega), ZhN (by omega)]
 rfl
theorem ZwB (d : Zi) : Zi.mk d.period d.deadline d.parts d.edges d.futures d.barriers = d := rfl
theorem Zx9 {xs : List D} (h : Zfy [.sl false [.int .i64]] xs) : ∃ l, Zln false xs = ZtJ true l ∧ ZuE l := by
 obtain ⟨_, _, rfl, h1, rfl⟩ := h
 obtain ⟨l, rfl, h2⟩ := Zm0 h1
 exact ⟨l, rfl, h2⟩
theorem ZrV {xs : List D} (h : Zfy [.sl false [.int .i64], .sl false [.int .i64]] xs) : ∃ s : Zm, D.agg xs = Zzk s ∧ ZuE s.work ∧ ZuE s.vals := by
 obtain ⟨_, _, rfl, h1, _, _, rfl, h2, rfl⟩ := h
 obtain ⟨a, rfl, p1⟩ := Zm0 h1
 obtain ⟨b, rfl, p2⟩ := Zm0 h2
 exact ⟨⟨a, b⟩, rfl, p1, p2⟩
end Go.Proofs.YtnmbdjkbaihicaaDoor
namespace Go.Proofs.YtnmbdjkbaihicaaDoor
open Go Go.Proofs.YtnmbdjkbaihicaaDoorE
set_option linter.unusedVariables false
set_option linter.unusedSimpArgs false
def ZqF (n : Int) : Bool := (List.range 40).any fun k => ((2 : Int) ^ k == n)
theorem Zyn (n : Int) : ∃ k, ZgY n = some (k, ZqF n) := by
 have step : ∀ k : Nat, k < 40 → Zcv n ((2 : Int) ^ k, (k : Int)) = some (bif ((2 : Int) ^ k == n) then .inr (.inl (k : Int)) else .inl ((2 : Int) ^ (k + 1), ((k + 1 : Nat) : Int))) := by
  intro k hk
  have hp : (2 : Int) ^ k ≤ 2 ^ 39 := by
   have : (2 : Nat) ^ k ≤ 2 ^ 39 := Nat.pow_le_pow_right (by omega) (by omega)
   exact_mod_cast this
  have hq : (0 : Int) < 2 ^ k := by
   have : (0 : Nat) < 2 ^ k := Nat.pow_pos (by omega)
   exact_mod_cast this
  have e39 : (2 : Int) ^ 39 = 549755813888 := by decide
  rw [e39] at hp
  have e1 : w64 (2 * (2 : Int) ^ k) = (2 : Int) ^ (k + 1) := by rw [Zcr (by omega) (by omega), Int.pow_succ]; omega
  have e2 : w64 ((k : Int) + 1) = ((k + 1 : Nat) : Int) := ZI hk (by omega)
  unfold Zcv
  simp only [decide_eq_true (show (k : Int) < 40 by omega), cond_true, e1, e2]
  cases ((2 : Int) ^ k == n) <;> rfl
 have key : ∀ m k : Nat, k + m = 40 → lp (Zcv n) ((2 : Int) ^ k, (k : Int)) = some (match (List.range' k m).find? (fun j => (2 : Int) ^ j == n) with | some j => .inl (j : Int) | none => .inr ()) := by
  intro m
  induction m with
  | zero =>
   intro k hk
   have : k = 40 := by omega
   subst this
   rw [ZbO]
   unfold Zcv
   rfl
  | succ m ih =>
   intro k hk
   rw [ZbO, step k (by omega), List.range'_succ, List.find?_cons]
   cases h : ((2 : Int) ^ k == n) with
   | true => rfl
   | false => exact ih (k + 1) (by omega)
 have k0 := key 40 0 rfl
 rw [show ((2 : Int) ^ 0) = 1 from rfl] at k0
 have e : (List.range 40).any (fun j => (2 : Int) ^ j == n) = ((List.range' 0 40).find? (fun j => (2 : Int) ^ j == n)).isSome := by
  rw [List.range_eq_range', Bool.eq_iff_iff, List.any_eq_true, List.find?_isSome]
 unfold ZgY ZqF
 rw [e]
 cases hf : (List.range' 0 40).find? (fun j => (2 : Int) ^ j == n) with
 | none =>
  rw [hf] at k0
  refine ⟨0, ?_⟩
  show (lp (Zcv n) (1, ((0 : Nat) : Int))).bind _ = _
  rw [k0]; rfl
 | some j =>
  rw [hf] at k0
  refine ⟨j, ?_⟩
  show (lp (Zcv n) (1, ((0 : Nat) : Int))).bind _ = _
  rw [k0]; rfl
theorem Zs6 (n : Nat) (h : n ≤ 4096) : ZqF (n : Int) = Zvy n := by
 rw [Bool.eq_iff_iff]
 unfold ZqF Zvy
 rw [List.any_eq_true]
 constructor
 ·rintro ⟨k, hk, he⟩
  have hk := List.mem_range.1 hk
  have he : (2 : Nat) ^ k = n := by have := eq_of_beq he; exact_mod_cast this
  have h13 : k < 13 := by
   rcases Nat.lt_or_ge k 13 with h1 | h1
   ·exact h1
   ·have : 2 ^ 13 ≤ 2 ^ k := Nat.pow_le_pow_right (by omega) h1
    omega
  subst he
  have : ((List.range 13).all fun k => [1, 2, 4, 8, 16, 32, 64, 128, 256, 512, 1024, 2048, 4096].contains (2 ^ k)) = true := by decide
  exact List.all_eq_true.1 this k (by simpa using h13)
 ·intro h
  have : n = 2 ^ 0 ∨ n = 2 ^ 1 ∨ n = 2 ^ 2 ∨ n = 2 ^ 3 ∨ n = 2 ^ 4 ∨ n = 2 ^ 5 ∨ n = 2 ^ 6 ∨ n = 2 ^ 7 ∨ n = 2 ^ 8 ∨ n = 2 ^ 9 ∨ n = 2 ^ 10 ∨ n = 2 ^ 11 ∨ n = 2 ^ 12 := by
   simpa using h
  rcases this with h | h | h | h | h | h | h | h | h | h | h | h | h <;> subst h
  ·exact ⟨0, by decide, by decide⟩
  ·exact ⟨1, by decide, by decide⟩
  ·exact ⟨2, by decide, by decide⟩
  ·exact ⟨3, by decide, by decide⟩
  ·exact ⟨4, by decide, by decide⟩
  ·exact ⟨5, by decide, by decide⟩
  ·exact ⟨6, by decide, by decide⟩
  ·exact ⟨7, by decide, by decide⟩
  ·exact ⟨8, by decide, by decide⟩
  ·exact ⟨9, by decide, by decide⟩
  ·exact ⟨10, by decide, by decide⟩
  ·exact ⟨11, by decide, by decide⟩
  ·exact ⟨12, by decide, by decide⟩
theorem Zv7 (d : Zi) : Zge d = some (Zkv d) := by
 obtain ⟨k, hk⟩ := Zyn d.period
 unfold Zge Zkv Zb2
 simp only [hk, Option.bind_some]
 by_cases h1 : d.period < 0
 ·have : ZqF d.period = false := by
   unfold ZqF
   rw [List.any_eq_false]
   intro k _ he
   have he := eq_of_beq he
   have : (0 : Nat) < 2 ^ k := Nat.pow_pos (by omega)
   have : (0 : Int) < 2 ^ k := by exact_mod_cast this
   omega
  rw [this, ZvQ h1]; rfl
 ·by_cases h2 : d.period ≤ 4096
  ·have e : d.period = ((d.period.toNat : Nat) : Int) := by omega
   have : ZpR d.period = ZqF d.period := by rw [e, ZsH _ (by omega), Zs6 _ (by omega)]
   rw [this, decide_eq_true h2, decide_eq_false (show ¬ 4096 < d.period by omega)]
   cases ZqF d.period <;> cases decide (1 ≤ d.deadline) <;> cases decide (d.deadline ≤ d.period) <;> rfl
  ·rw [decide_eq_false h2, decide_eq_true (show 4096 < d.period by omega)]
   cases ZqF d.period <;> cases ZpR d.period <;> rfl
theorem Zug (d : Zi) (h : Zfe d) : ZfI d = some (!(d.parts.any Zef)) := by
 have key := Zcb d.parts (ZdG d) (fun _ => Zef) (fun _ _ => .inl ()) (.inr ()) (fun i x hi hx => by
   simp only [ZdG, Zdj hi, Z0 hx, Option.bind_some, ZI hi h.p, cond_true]
   have e1 : decide (x.op < 0) = !decide (0 ≤ x.op) := by rw [← decide_not]; exact decide_eq_decide.2 (by omega)
   have e2 : decide (5 < x.op) = !decide (x.op ≤ 5) := by rw [← decide_not]; exact decide_eq_decide.2 (by omega)
   have e3 : decide (x.arg < 0) = !decide (0 ≤ x.arg) := by rw [← decide_not]; exact decide_eq_decide.2 (by omega)
   have e4 : decide (2147483647 < x.arg) = !decide (x.arg ≤ 2147483647) := by rw [← decide_not]; exact decide_eq_decide.2 (by omega)
   have e5 : decide (x.work < 1) = !decide (1 ≤ x.work) := by rw [← decide_not]; exact decide_eq_decide.2 (by omega)
   have e6 : decide (100 < x.work) = !decide (x.work ≤ 100) := by rw [← decide_not]; exact decide_eq_decide.2 (by omega)
   simp only [e1, e2, e3, e4, e5, e6, Zef, Zb2]
   cases decide (0 ≤ x.op) <;> cases decide (x.op ≤ 5) <;> cases decide (0 ≤ x.arg) <;> cases decide (x.arg ≤ 2147483647) <;> cases decide (1 ≤ x.work) <;> cases decide (x.work ≤ 100) <;> rfl) (by simp only [ZdG, Zdi]; rfl)
 unfold ZfI
 rw [key, ZaH, Zee]
 cases d.parts.any Zef <;> rfl
def Zf7 (n : Nat) (x : Int) : Bool := decide (0 ≤ x) && decide (x < (n : Int))
theorem Zm4 (d : Zi) (x : Int) : ZcP d x = some (Zf7 d.parts.length x) := by
 unfold ZcP Zf7
 cases decide (0 ≤ x) <;> cases decide (x < (d.parts.length : Int)) <;> rfl
theorem Zrr (n : Nat) (a b : Int) : two n a b = ((a != b) && (Zf7 n a && Zf7 n b)) := by
 unfold two Zf7
 rw [ZkM, ZkM]
theorem Zr6 {γ R : Type} (l : List γ) (i : Nat) (hi : i < l.length) (step : Int → Option (Int ⊕ R)) (p : γ → Bool) (c fin : R)
  (h1 : ∀ (k : Nat) x, k < i → l[k]? = some x → step (k : Int) = some (bif p x then .inr c else .inl ((k + 1 : Nat) : Int)))
  (h2 : step (i : Int) = some (.inr fin)) : lp step 0 = some (bif (l.take i).any p then c else fin) := by
 have hl : (l.take i).length = i := by rw [List.length_take]; omega
 have key := Zcb (l.take i) step (fun _ => p) (fun _ _ => c) fin (fun k x hk hx => by
   rw [hl] at hk
   refine h1 k x hk ?_
   rw [List.getElem?_take_of_lt hk] at hx
   exact hx) (by rw [hl]; exact h2)
 rw [key, ZaH, Zee]
theorem ZuB (d : Zi) (h : Zfe d) : ZfH d = some (!(Ze9 (Zeq d) 0 d.edges)) := by
 have key := Zcb d.edges (ZdF d) (Zeq d) (fun _ _ => .inl ()) (.inr ()) (fun i x hi hx => by
   have inner := Zr6 d.edges i hi (ZdD d (i : Int) x) (ZnO x) (.inl ()) (.inr ()) (fun k y hk hy => by
     simp only [ZdD, Zdj hk, Z0 hy, Option.bind_some, ZI hk (Nat.lt_trans hi h.e), cond_true, ZnO]
     have e1 : (y.src == x.src) = (x.src == y.src) := Bool.beq_comm
     have e2 : (y.dst == x.dst) = (x.dst == y.dst) := Bool.beq_comm
     rw [e1, e2]
     cases (x.src == y.src) <;> cases (x.dst == y.dst) <;> rfl) (by simp only [ZdD, Zdi]; rfl)
   simp only [ZdF, Zdj hi, Z0 hx, Option.bind_some, ZI hi h.e, cond_true, Zm4, Zeq, Zrr, inner, bne]
   cases Zf7 d.parts.length x.src <;> cases Zf7 d.parts.length x.dst <;> cases (x.src == x.dst) <;> cases (d.edges.take i).any (ZnO x) <;> rfl) (by simp only [ZdF, Zdi]; rfl)
 unfold ZfH
 rw [key, ZaH]
 cases Ze9 (Zeq d) 0 d.edges <;> rfl
theorem ZrD (d : Zi) (h : Zfe d) : ZeR d = some (!(Ze9 (Zcg d) 0 d.futures)) := by
 have key := Zcb d.futures (ZcI d) (Zcg d) (fun _ _ => .inl ()) (.inr ()) (fun i x hi hx => by
   have inner := Zr6 d.futures i hi (ZcM d (i : Int) x) (again x) (.inl ()) (.inr ()) (fun k y hk hy => by
     simp only [ZcM, Zdj hk, Z0 hy, Option.bind_some, ZI hk (Nat.lt_trans hi h.f), cond_true, again]
     cases (y.user == x.user) <;> cases (y.pos == x.pos) <;> rfl) (by simp only [ZcM, Zdi]; rfl)
   simp only [ZcI, Zdj hi, Z0 hx, Option.bind_some, ZI hi h.f, cond_true, Zm4, Zcg, Zrr, inner, bne]
   cases h1 : Zf7 d.parts.length x.maker with
   | false => cases (x.maker == x.user) <;> rfl
   | true =>
    cases h2 : Zf7 d.parts.length x.user with
    | false => cases (x.maker == x.user) <;> rfl
    | true =>
     simp only [Zf7, Bool.and_eq_true, decide_eq_true_eq] at h2
     have u2 : x.user.toNat < d.parts.length := by omega
     have wa : Zdr d.parts x.user = d.parts[x.user.toNat].work := by simp only [Zdr, List.getElem?_eq_getElem u2]
     rw [Zk2 h2.1 u2, wa]
     have e1 : decide (x.pos < 1) = !decide (1 ≤ x.pos) := by rw [← decide_not]; exact decide_eq_decide.2 (by omega)
     have e2 : decide (d.parts[x.user.toNat].work ≤ x.pos) = !decide (x.pos ≤ d.parts[x.user.toNat].work - 1) := by rw [← decide_not]; exact decide_eq_decide.2 (by omega)
     simp only [Option.bind_some, Zb2, e1, e2]
     cases (x.maker == x.user) <;> cases decide (1 ≤ x.pos) <;> cases decide (x.pos ≤ d.parts[x.user.toNat].work - 1) <;> cases (d.futures.take i).any (again x) <;> rfl) (by simp only [ZcI, Zdi]; rfl)
 unfold ZeR
 rw [key, ZaH]
 cases Ze9 (Zcg d) 0 d.futures <;> rfl
theorem ZtX (d : Zi) (hd : d.parts.length < 9223372036854775808) (l : List Int) (hl : l.length < 9223372036854775808) : ZfU d l = some (Zii d.parts.length l) := by
 have key := Zcb l (Zer d l) (ZnJ d.parts.length l) (fun _ _ => .inl ()) (.inr ()) (fun i x hi hx => by
   simp only [Zer, Zdj hi, Z0 hx, Option.bind_some, ZI hi hl, cond_true, Zm4, ZnJ, ZkM]
   show (bif Zf7 d.parts.length x then _ else _) = some (bif !(Zf7 d.parts.length x) || _ then _ else _)
   cases Zf7 d.parts.length x with
   | false => rfl
   | true =>
    cases i with
    | zero => rfl
    | succ i =>
     rw [decide_eq_true (show (0 : Int) < ((i + 1 : Nat) : Int) by omega), Zcr (by omega) (by omega), show (((i + 1 : Nat) : Int) - 1) = (i : Int) by omega]
     have hi2 : l[i]? = some l[i] := List.getElem?_eq_getElem (by omega)
     rw [Z0 hi2]
     simp only [cond_true, Option.bind_some, Bool.not_true, Bool.false_or, hi2]
     cases decide (x ≤ l[i]) <;> rfl) (by simp only [Zer, Zdi]; rfl)
 unfold ZfU Zii
 rw [key, ZaH]
 exact Ztj _ _
theorem Ztw (l : List Int) (n : Int) (hl : l.length < 9223372036854775808) : ZfW l n = some (l.any fun x => n == x) := by
 have key := Zcb l (Zet l n) (fun _ x => n == x) (fun _ _ => .inl ()) (.inr ()) (fun i x hi hx => by
   have e : (x == n) = (n == x) := Bool.beq_comm
   simp only [Zet, Zdj hi, Z0 hx, Option.bind_some, ZI hi hl, cond_true, e]
   cases (n == x) <;> rfl) (by simp only [Zet, Zdi]; rfl)
 unfold ZfW
 rw [key, ZaH, Zee]
 cases (l.any fun x => n == x) <;> rfl
theorem Zrd (d : Zi) (h : Zfe d) : Zey d = some (!(d.barriers.any (ZcJ d.parts.length))) := by
 have key := Zcb d.barriers (Zcz d) (fun _ => ZcJ d.parts.length) (fun _ _ => .inl ()) (.inr ()) (fun i x hi hx => by
   have hb := h.i x (List.mem_of_getElem? hx)
   have inner := Zcb x.ins (Zcy x) (fun _ => Zly x) (fun _ _ => .inl ()) (.inr ()) (fun k y hk hy => by
     simp only [Zcy, Zdj hk, Z0 hy, Option.bind_some, ZI hk hb.1, cond_true, Ztw _ _ hb.2, Zly]
     cases (x.outs.any fun z => y == z) <;> rfl) (by simp only [Zcy, Zdi]; rfl)
   rw [ZaH, Zee] at inner
   simp only [Zcz, Zdj hi, Z0 hx, Option.bind_some, ZI hi h.b, cond_true, ZtX d h.p _ hb.1, ZtX d h.p _ hb.2, ZcJ, inner]
   cases Zii d.parts.length x.ins <;> cases Zii d.parts.length x.outs <;> cases x.ins.any (Zly x) <;> rfl) (by simp only [Zcz, Zdi]; rfl)
 unfold Zey
 rw [key, ZaH, Zee]
 cases d.barriers.any (ZcJ d.parts.length) <;> rfl
theorem ZuA (d : Zi) (h : Zfe d) : ZfA d = some (ZdO d) := by
 unfold ZfA ZdO ZkP Zb2
 simp only [Zv7, Zug d h, ZuB d h, ZrD d h, Zrd d h, Option.bind_some]
 have e1 : decide ((d.parts.length : Int) < 1) = !decide (1 ≤ (d.parts.length : Int)) := by rw [← decide_not]; exact decide_eq_decide.2 (by omega)
 have e2 : decide (16 < (d.parts.length : Int)) = !decide ((d.parts.length : Int) ≤ 16) := by rw [← decide_not]; exact decide_eq_decide.2 (by omega)
 rw [e1, e2]
 cases decide (1 ≤ (d.parts.length : Int)) with
 | false => rfl
 | true =>
  cases decide ((d.parts.length : Int) ≤ 16) with
  | false => rfl
  | true =>
   cases decide ((48 : Int) < d.edges.length) with
   | true => rfl
   | false =>
    cases decide ((16 : Int) < d.futures.length) with
    | true => rfl
    | false =>
     cases decide ((4 : Int) < d.barriers.length) with
     | true => rfl
     | false => cases Zkv d <;> cases d.parts.any Zef <;> cases Ze9 (Zeq d) 0 d.edges <;> cases Ze9 (Zcg d) 0 d.futures <;> cases d.barriers.any (ZcJ d.parts.length) <;> rfl
end Go.Proofs.YtnmbdjkbaihicaaDoor
namespace Go.Proofs.YtnmbdjkbaihicaaDoor
open Go Go.Proofs.YtnmbdjkbaihicaaDoorE
set_option linter.unusedVariables false
set_option linter.unusedSimpArgs false
theorem Zv5 {γ : Type} (p : γ → Bool) : ∀ (l : List γ) (i : Nat), (sel p (fun i _ => (i : Int)) i l).Pairwise (fun x y => x < y) ∧ ∀ z ∈ sel p (fun i _ => (i : Int)) i l, (i : Int) ≤ z := by
 intro l
 induction l with
 | nil => intro i; simp [sel]
 | cons x l ih =>
  intro i
  obtain ⟨h1, h2⟩ := ih (i + 1)
  unfold sel
  cases p x with
  | true =>
   simp only [cond_true, List.pairwise_cons, List.mem_cons]
   refine ⟨⟨fun z hz => ?_, h1⟩, ?_⟩
   ·have := h2 z hz; omega
   ·rintro z (rfl | hz)
    ·exact Int.le_refl _
    ·have := h2 z hz; omega
  | false =>
   simp only [cond_false]
   exact ⟨h1, fun z hz => by have := h2 z hz; omega⟩
def ZkB (d : Zi) (u : Int) (t : Int) : List Int := sel (fun f : Zp => f.user == u && f.pos == t) (fun i _ => (i : Int)) 0 d.futures
theorem Zns (d : Zi) (u t z : Int) : z ∈ ZkB d u t ↔ ∃ (i : Nat) (f : Zp), d.futures[i]? = some f ∧ f.user = u ∧ f.pos = t ∧ z = (i : Int) := by
 unfold ZkB
 rw [Zmo]
 simp [and_assoc]
theorem Zk4 {d : Zi} {u t z : Int} (h : z ∈ ZkB d u t) : Zg4 d.futures z = t := by
 obtain ⟨i, f, h1, _, h3, rfl⟩ := (Zns d u t z).1 h
 unfold Zg4
 rw [Int.toNat_natCast, h1, ← h3]
theorem Zpv {d : Zi} {u t z : Int} (h : z ∈ ZkB d u t) : ∃ (i : Nat) (f : Zp), d.futures[i]? = some f ∧ f.user = u ∧ z = (i : Int) := by
 obtain ⟨i, f, h1, h2, _, h4⟩ := (Zns d u t z).1 h
 exact ⟨i, f, h1, h2, h4⟩
def tl (d : Zi) (u : Int) : Nat → Nat → List Int
 | _, 0 => []
 | i, k + 1 => ZkB d u ((i + 1 : Nat) : Int) ++ tl d u (i + 1) k
theorem ZsD (d : Zi) (u z : Int) : ∀ (k i : Nat), z ∈ tl d u i k ↔ ∃ t : Nat, i < t ∧ t ≤ i + k ∧ z ∈ ZkB d u (t : Int)
 | 0, i => by
  unfold tl
  constructor
  ·intro h; cases h
  ·rintro ⟨t, h1, h2, _⟩; omega
 | k + 1, i => by
  unfold tl
  rw [List.mem_append, ZsD d u z k (i + 1)]
  constructor
  ·rintro (h | ⟨t, h1, h2, h3⟩)
   ·exact ⟨i + 1, by omega, by omega, h⟩
   ·exact ⟨t, by omega, by omega, h3⟩
  ·rintro ⟨t, h1, h2, h3⟩
   by_cases h : t = i + 1
   ·subst h; exact .inl h3
   ·exact .inr ⟨t, by omega, by omega, h3⟩
theorem ZtV {d : Zi} (g : Zsf d) (u : Int) : ∀ (k i : Nat), (tl d u i k).Pairwise (fun x y => Zg4 d.futures x < Zg4 d.futures y)
 | 0, i => List.Pairwise.nil
 | k + 1, i => by
  unfold tl
  rw [List.pairwise_append]
  refine ⟨?_, ZtV g u k (i + 1), fun x hx y hy => ?_⟩
  ·refine ZrN (Zv5 _ _ _).1 fun x y hx hy hlt => ?_
   have hx' : x ∈ ZkB d u ((i + 1 : Nat) : Int) := hx
   have hy' : y ∈ ZkB d u ((i + 1 : Nat) : Int) := hy
   exact absurd ((Zk4 hx').trans (Zk4 hy').symm) (Zu5 g (Zpv hx') (Zpv hy') (by omega))
  ·obtain ⟨t, h1, h2, h3⟩ := (ZsD d u y k (i + 1)).1 hy
   rw [Zk4 hx, Zk4 h3]
   omega
theorem Zsu {d : Zi} (g : Zsf d) (u : Int) : Zck d u (tl d u 0 99) := by
 refine ⟨fun z => ?_, ZtV g u 99 0⟩
 rw [ZsD]
 constructor
 ·rintro ⟨t, _, _, h⟩; exact Zpv h
 ·rintro ⟨i, f, h1, h2, h3⟩
  have hf := g.f f (List.mem_of_getElem? h1)
  have hw := Zm6 g f.user
  refine ⟨f.pos.toNat, by omega, by omega, ?_⟩
  rw [Zns]
  exact ⟨i, f, h1, h2, by omega, h3⟩
theorem Zr0 (d : Zi) (hf : d.futures.length ≤ 1000) (u : Int) : ZeS d u = some (tl d u 0 99) := by
 have inner : ∀ (t : Int) (s0 s : List Int), s.length ≤ 1000000 → lp (Zcd d u (t, s0)) (0, s) = some (s ++ ZkB d u t) := fun t s0 s hs =>
  Zpr d.futures hf (fun f : Zp => f.user == u && f.pos == t) (fun i _ => (i : Int)) (Zcd d u (t, s0)) (fun i x s hi hx => by
   simp only [Zcd, Zdj hi, Z0 hx, Option.bind_some, ZI hi (show d.futures.length < 9223372036854775808 by omega), cond_true]
   cases x.user == u <;> cases x.pos == t <;> rfl) (fun s => by simp only [Zcd, Zdi]; rfl) s hs
 have key : ∀ (k i : Nat) (s : List Int), i + k = 99 → s.length ≤ 1000 * i → lp (ZdU d u) (((i + 1 : Nat) : Int), s) = some (s ++ tl d u i k) := by
  intro k
  induction k with
  | zero =>
   intro i s hi hs
   have : i = 99 := by omega
   subst this
   rw [ZbO]
   unfold tl
   rw [List.append_nil]
   rfl
  | succ k ih =>
   intro i s hi hs
   rw [ZbO]
   unfold tl
   simp only [ZdU, decide_eq_true (show ((i + 1 : Nat) : Int) < 100 by omega), cond_true, inner ((i + 1 : Nat) : Int) s s (by omega), Option.bind_some, ZI (show i + 1 < 100 by omega) (by omega)]
   have hl : (ZkB d u ((i + 1 : Nat) : Int)).length ≤ 1000 := Nat.le_trans (ZiJ _ _ _ _) hf
   rw [ih (i + 1) (s ++ ZkB d u ((i + 1 : Nat) : Int)) (by omega) (by rw [List.length_append]; omega), List.append_assoc]
 have k0 := key 99 0 [] rfl (by simp)
 unfold ZeS
 rw [show ((1 : Int), ([] : List Int)) = (((0 + 1 : Nat) : Int), []) from rfl, k0]
 rfl
theorem ZuF (d : Zi) (he : d.edges.length ≤ 1000) (hf : d.futures.length ≤ 1000) (g : Zsf d) (u : Int) {r : List Int} (hr : Zck d u r) : ZeW d u = some (Zos d u r) := by
 have h2 := Zsu g u
 have e := h2.eq hr
 have k1 := Znb d he u (Zfq d u) (fun t => rfl)
 have k2 := ZpE d (tl d u 0 99) (sel (fun e : ZK => e.dst == u) (fun _ e => e.src) 0 d.edges) (Nat.le_trans (ZkI h2) hf) (Nat.le_trans (ZiJ _ _ _ _) (by omega)) (ZrQ h2) (Zfk d (tl d u 0 99)) (fun t => rfl)
 unfold ZeW Zos
 simp only [k1, Option.bind_some, Zr0 d hf u, k2, ← e]
end Go.Proofs.YtnmbdjkbaihicaaDoor
namespace Go.Proofs.YtnmbdjkbaihicaaDoor
open Go Go.Proofs.YtnmbdjkbaihicaaDoorE
set_option linter.unusedVariables false
set_option linter.unusedSimpArgs false
theorem Zrx (a b : List Int) (hl : a.length < 9223372036854775808) : Zbo a b = some (decide (a = b)) := by
  unfold Zbo
  by_cases he : a.length = b.length
  · have key := Zts a b he (ZaX a b) (fun i x y hi hx hy => by
        simp only [ZaX, Zdj hi, Z0 hx, Z0 hy, Option.bind_some, ZI hi hl, cond_true]
        have e : (x != y) = !decide (x = y) := by rw [Bool.eq_iff_iff]; simp
        rw [e]
        cases decide (x = y) <;> rfl) (by simp only [ZaX, Zdi]; rfl)
    rw [key, show ((a.length : Int) != (b.length : Int)) = false by rw [he]; simp]
    cases decide (a = b) <;> rfl
  · rw [show ((a.length : Int) != (b.length : Int)) = true by simp; omega, decide_eq_false (fun h => he (by rw [h]))]
    rfl
theorem Zo9 (a b : List Int) (hl : a.length < 9223372036854775808) : ZeM a b = some (decide (a = b)) := by
  unfold ZeM
  by_cases he : a.length = b.length
  · have key := Zts a b he (Zd6 a b) (fun i x y hi hx hy => by
        simp only [Zd6, Zdj hi, Z0 hx, Z0 hy, Option.bind_some, ZI hi hl, cond_true]
        have e : (x != y) = !decide (x = y) := by rw [Bool.eq_iff_iff]; simp
        rw [e]
        cases decide (x = y) <;> rfl) (by simp only [Zd6, Zdi]; rfl)
    rw [key, show ((a.length : Int) != (b.length : Int)) = false by rw [he]; simp]
    cases decide (a = b) <;> rfl
  · rw [show ((a.length : Int) != (b.length : Int)) = true by simp; omega, decide_eq_false (fun h => he (by rw [h]))]
    rfl
end Go.Proofs.YtnmbdjkbaihicaaDoor
namespace Go.Proofs.YtnmbdjkbaihicaaDoor
open Go Go.Proofs.YtnmbdjkbaihicaaDoorE
set_option linter.unusedVariables false
set_option linter.unusedSimpArgs false
def ZvR (d : Zi) (s : Zm) : Prop := OKS d s ∧ ∀ p, inR d p → wk s p ≤ Zdr d.parts p
theorem Znn.most {d : Zi} {s : Zm} (r : Znn d s) : ZvR d s := ⟨r.o, fun p hp => (r.rng p hp).2⟩
theorem ZiN {d : Zi} {s : Zm} (m : ZvR d s) {p : Int} (hp : inR d p) : ZcQ d s p = some (ZbD d s p) := by
 obtain ⟨x, h1, _, h3⟩ := Ziz hp
 have := m.2 p hp
 unfold ZcQ ZbD
 rw [Zip m.1 hp, h1]
 simp only [Option.bind_some]
 rw [h3]
 by_cases h : wk s p = Zdr d.parts p
 ·rw [h, decide_eq_true (Int.le_refl _)]; simp
 ·rw [decide_eq_false (by omega), show (wk s p == Zdr d.parts p) = false by simpa using h]; rfl
def Zrt (d : Zi) (p : Int) : List Int := sel (fun e : ZK => e.dst == p) (fun _ e => e.src) 0 d.edges
def Zlq (p : Int) : List Zo → List Int
 | [] => []
 | b :: l => (bif b.outs.any (fun x => p == x) then b.ins else []) ++ Zlq p l
theorem ZrZ {p : Int} : ∀ {l : List Zo}, (∀ b ∈ l, b.ins.length ≤ 20) → (Zlq p l).length ≤ 20 * l.length
 | [], _ => by simp [Zlq]
 | b :: l, h => by
  have ih := ZrZ (p := p) (l := l) fun b hb => h b (by simp [hb])
  have := h b (by simp)
  unfold Zlq
  rw [List.length_append, List.length_cons]
  cases b.outs.any (fun x => p == x) <;> simp only [cond_true, cond_false, List.length_nil] <;> omega
theorem ZuQ {d : Zi} (sd : ZjX d) (p : Int) (r : List Int) (hr : r.length ≤ 100) : lp (ZbX d p) (0, r) = some (r ++ Zlq p d.barriers) := by
 have hb := sd.b
 have key : ∀ k i : Nat, i + k = d.barriers.length → ∀ r : List Int, r.length ≤ 100 + 20 * i → lp (ZbX d p) ((i : Int), r) = some (r ++ Zlq p (d.barriers.drop i)) := by
  intro k
  induction k with
  | zero =>
   intro i hi r _
   have : i = d.barriers.length := by omega
   subst this
   rw [ZbO, List.drop_length]
   simp only [ZbX, Zdi, cond_false, Zlq, List.append_nil]
  | succ k ih =>
   intro i hi r hr
   have hi' : i < d.barriers.length := by omega
   have hx : d.barriers[i]? = some d.barriers[i] := List.getElem?_eq_getElem hi'
   have hs := sd.i _ (List.getElem_mem hi')
   rw [ZbO, List.drop_eq_getElem_cons hi']
   unfold Zlq
   simp only [ZbX, Zdj hi', Z0 hx, Option.bind_some, cond_true, ZI hi' sd.short.b, Ztw _ p (show d.barriers[i].outs.length < 9223372036854775808 by omega)]
   cases (d.barriers[i].outs.any fun x => p == x) with
   | true =>
    simp only [cond_true]
    rw [ZhN (by omega)]
    simp only [cond_true]
    rw [ih (i + 1) (by omega) _ (by rw [List.length_append]; omega), List.append_assoc]
   | false =>
    simp only [cond_false, List.nil_append]
    exact ih (i + 1) (by omega) r (by omega)
 exact key d.barriers.length 0 (by omega) r (by omega)
theorem Zwk (d : Zi) (s : Zm) (p : Int) : (Zrt d p).any (fun q => !ZbD d s q) = d.edges.any (ZlC d s p) := by
 have : ∀ (l : List ZK) (i : Nat), (sel (fun e : ZK => e.dst == p) (fun _ e => e.src) i l).any (fun q => !ZbD d s q) = l.any (ZlC d s p) := by
  intro l
  induction l with
  | nil => intro i; rfl
  | cons x l ih =>
   intro i
   unfold sel
   rw [List.any_cons, ← ih (i + 1)]
   unfold ZlC
   cases x.dst == p <;> rfl
 exact this d.edges 0
theorem ZrR (d : Zi) (s : Zm) (p : Int) : ∀ l : List Zo, (Zlq p l).any (fun q => !ZbD d s q) = l.any (ZjF d s p)
 | [] => rfl
 | b :: l => by
  unfold Zlq
  rw [List.any_append, List.any_cons, ZrR d s p l]
  unfold ZjF
  cases b.outs.any (fun x => p == x) <;> rfl
theorem ZtG {d : Zi} (g : ZeH d) (p : Int) : ∀ l : List Zo, (∀ b ∈ l, b ∈ d.barriers) → ∀ q ∈ Zlq p l, inR d q
 | [], _, q, h => by cases h
 | b :: l, hl, q, h => by
  unfold Zlq at h
  rcases List.mem_append.1 h with h | h
  ·cases ho : b.outs.any (fun x => p == x) with
   | true => rw [ho] at h; exact g.ins b (hl b (by simp)) q h
   | false => rw [ho] at h; cases h
  ·exact ZtG g p l (fun b hb => hl b (by simp [hb])) q h
theorem Zoj {d : Zi} {s : Zm} (sd : ZjX d) (g : ZeH d) (m : ZvR d s) (p : Int) : Zex d s p = some (ZfN d s p) := by
 have hb := sd.b
 have k0 := Znb d (by have := sd.e; omega) p (Ze6 d p) (fun t => rfl)
 have hsr : (Zrt d p).length ≤ 60 := Nat.le_trans (ZiJ _ _ _ _) sd.e
 have k1 := ZuQ sd p (Zrt d p) (by omega)
 have hbl := ZrZ (p := p) fun b hb => (sd.i b hb).1
 have hl : (Zrt d p ++ Zlq p d.barriers).length < 9223372036854775808 := by rw [List.length_append]; omega
 have hin : ∀ q ∈ Zrt d p ++ Zlq p d.barriers, inR d q := fun q hq => by
  rcases List.mem_append.1 hq with h | h
  ·obtain ⟨j, x, h1, _, h3⟩ := (Zmo _ _ _ _ _).1 h
   rw [h3]; exact g.src (List.mem_of_getElem? h1)
  ·exact ZtG g p d.barriers (fun b hb => hb) q h
 have k2 := Zcb (Zrt d p ++ Zlq p d.barriers) (Zc7 d s (Zrt d p ++ Zlq p d.barriers)) (fun _ q => !ZbD d s q) (fun _ _ => .inl ()) (.inr ()) (fun i x hi hx => by
  simp only [Zc7, Zdj hi, Z0 hx, Option.bind_some, ZI hi hl, cond_true, ZiN m (hin x (List.mem_of_getElem? hx))]
  cases ZbD d s x <;> rfl) (by simp only [Zc7, Zdi]; rfl)
 unfold Zex ZfN
 rw [k0]
 simp only [Option.bind_some]
 show (lp (ZbX d p) (0, Zrt d p)).bind _ = _
 rw [k1]
 simp only [Option.bind_some]
 rw [k2, ZaH, Zee, List.any_append, Zwk, ZrR]
 cases d.edges.any (ZlC d s p) <;> cases d.barriers.any (ZjF d s p) <;> rfl
theorem Zo5 (d : Zi) (s : Zm) (sd : ZjX d) : ZeV d s = some (ZdQ d s) := by
 have sh := sd.short
 unfold ZeV ZdQ
 rw [ZuA d sh]
 simp only [Option.bind_some]
 by_cases hc : ZdO d = 0
 case neg =>
  rw [show (ZdO d != 0) = true by simpa using hc, show (ZdO d == 0) = false by simpa using hc]; rfl
 have g := ZfD hc
 rw [hc]
 simp only [bne_self_eq_false, cond_false, beq_self_eq_true, cond_true]
 unfold Zju
 have ne : ∀ a b : Nat, (((a : Int)) != (b : Int)) = !decide (a = b) := fun a b => by
  by_cases h : a = b
  ·rw [decide_eq_true h, h]; simp
  ·rw [decide_eq_false h]
   have : ((a : Int)) ≠ (b : Int) := by omega
   simp [bne_iff_ne.2 this]
 rw [ne, ne]
 by_cases h1 : s.work.length = d.parts.length
 case neg => rw [decide_eq_false h1]; rfl
 by_cases h2 : s.vals.length = d.parts.length
 case neg => rw [decide_eq_true h1, decide_eq_false h2]; rfl
 have o : OKS d s := ⟨h1, h2⟩
 have hl : s.work.length < 9223372036854775808 := by have := g.pl; omega
 rw [decide_eq_true h1, decide_eq_true h2]
 have k0 := Zcb s.work (ZdE d s) (ZpO d) (fun _ _ => .inl ()) (.inr ()) (fun i x hi hx => by
  obtain ⟨q, q1, _, q3⟩ := Ziz (Znk (d := d) (i := i) (by omega))
  simp only [ZdE, Zdj hi, Z0 hx, Option.bind_some, ZI hi hl, cond_true, ZpO, q1, q3]
  cases decide (x < 0) <;> cases decide (Zdr d.parts (i : Int) < x) <;> rfl) (by simp only [ZdE, Zdi]; rfl)
 simp only [Bool.not_true, cond_false, Bool.true_and]
 rw [k0, ZaH]
 cases hw : Ze9 (ZpO d) 0 s.work with
 | true => rfl
 | false =>
  have m : ZvR d s := ⟨o, fun p hp => by
   have hl : p.toNat < s.work.length := by rw [o.w]; exact hp.2
   have := ZoC.1 hw p.toNat _ (List.getElem?_eq_getElem hl)
   unfold ZpO at this
   simp only [Bool.or_eq_false_iff, decide_eq_false_iff_not] at this
   rw [Int.toNat_of_nonneg hp.1] at this
   have e : wk s p = s.work[p.toNat] := by unfold wk; rw [List.getElem?_eq_getElem hl]
   omega⟩
  have k1 := Zcb s.work (ZdC d s) (Zrm d s) (fun _ _ => .inl ()) (.inr ()) (fun i x hi hx => by
   simp only [ZdC, Zdj hi, Z0 hx, Option.bind_some, ZI hi hl, cond_true, Zrm, Zoj sd g m]
   cases decide (0 < x) <;> cases ZfN d s (i : Int) <;> rfl) (by simp only [ZdC, Zdi]; rfl)
  simp only [cond_false, Option.bind_some, Bool.not_false, Bool.true_and]
  rw [k1, ZaH]
  cases Ze9 (Zrm d s) 0 s.work with
  | true => rfl
  | false =>
   simp only [cond_false, Option.bind_some, Bool.not_false, Bool.true_and]
   have k2 := Zcb d.futures (ZdI d s) (fun _ => ZpN d s) (fun _ _ => .inl ()) (.inr ()) (fun i x hi hx => by
    have hf := List.mem_of_getElem? hx
    simp only [ZdI, Zdj hi, Z0 hx, Option.bind_some, ZI hi sh.f, cond_true, ZpN, Zip o (g.user hf), ZiN m (g.maker hf)]
    cases decide (x.pos < wk s x.user) <;> cases ZbD d s x.maker <;> rfl) (by simp only [ZdI, Zdi]; rfl)
   rw [k2, ZaH, Zee]
   cases d.futures.any (ZpN d s) <;> rfl
theorem Zso {d : Zi} {s : Zm} (sd : ZjX d) (g : ZeH d) (r : Znn d s) {p : Int} (hp : inR d p) : Zfp d s p = some (Zin d s p) := by
 have m := r.most
 have k := Zcb d.futures (Zd2 d s p) (fun _ f => Zi8 s p f && !ZbD d s f.maker) (fun _ _ => .inl ()) (.inr ()) (fun i x hi hx => by
  simp only [Zd2, Zdj hi, Z0 hx, Option.bind_some, ZI hi sd.short.f, cond_true, Zi8, Zip r.o hp, ZiN m (g.maker (List.mem_of_getElem? hx))]
  cases (x.user == p) <;> cases (x.pos == wk s p) <;> cases ZbD d s x.maker <;> rfl) (by simp only [Zd2, Zdi]; rfl)
 have hf : d.futures.any (fun f => Zi8 s p f && !ZbD d s f.maker) = !Zrw d s p := by
  cases hb : Zrw d s p with
  | true =>
   refine List.any_eq_false.2 fun f h1 => ?_
   have := (ZqH g).1 hb f h1
   unfold Zi8
   intro h
   simp only [Bool.and_eq_true, beq_iff_eq, Bool.not_eq_true'] at h
   rw [Zf2.2 (this h.1.1 h.1.2)] at h
   cases h.2
  | false =>
   have : ¬ (∀ f ∈ d.futures, f.user = p → f.pos = wk s p → ZmA d s f.maker) := fun h => by rw [(ZqH g).2 h] at hb; cases hb
   simp only [Classical.not_forall] at this
   obtain ⟨f, h1, h2, h3, h4⟩ := this
   exact List.any_eq_true.2 ⟨f, h1, by unfold Zi8; simp [h2, h3, ZvU h4]⟩
 have hw := r.rng p hp
 have hz : decide (0 < wk s p) = !(wk s p == 0) := by
  by_cases h : wk s p = 0
  ·rw [h]; rfl
  ·rw [decide_eq_true (by omega), show (wk s p == 0) = false by simpa using h]; rfl
 unfold Zfp Zin
 rw [k, ZaH, Zee, hf, ZiN m hp, Zip r.o hp, Zoj sd g m]
 simp only [Option.bind_some, hz]
 cases Zrw d s p <;> cases ZbD d s p <;> cases (wk s p == 0) <;> cases ZfN d s p <;> rfl
theorem Zx4 {d : Zi} {s : Zm} (sd : ZjX d) (g : ZeH d) (r : Znn d s) : ZgN d s = some (Zsw d s) := by
 have hl : d.parts.length < 9223372036854775808 := by have := g.pl; omega
 have := Ztz d.parts (by have := g.pl; omega) (fun i => Zin d s (i : Int)) (Zeu d s) (fun i acc hi => by
  simp only [Zeu, Zdj hi, cond_true, Zso sd g r (Znk hi), Option.bind_some, ZI hi hl]) (fun acc => by simp only [Zeu, Zdi]; rfl)
 unfold ZgN Zsw
 rw [this]; rfl
def Zoo (l : List Int) : Prop := ∀ x ∈ l, -9223372036854775808 ≤ x ∧ x < 9223372036854775808
theorem Zyb {s : Zm} (h : Zoo s.vals) (p : Int) : -9223372036854775808 ≤ vl s p ∧ vl s p < 9223372036854775808 := by
 unfold vl
 cases hx : s.vals[p.toNat]? with
 | none => simp
 | some x => exact h x (List.mem_of_getElem? hx)
theorem Zvs {d : Zi} {s : Zm} (hc : ZdO d = 0) (sd : ZjX d) (r : Znn d s) {p : Int} (hp : inR d p) (hn : ¬ ZmA d s p) (input : List Int) (hi : input.length ≤ 1000) (wi : Zoo input) (wv : Zoo s.vals) :
  Zf4 d input s p = some (ZiB d input s p) := by
 have g := ZfD hc
 have sh := sd.short
 obtain ⟨f1, f2⟩ := Zqy d sh hc p
 have g1 := g.p1; have g2 := g.pl
 have hw := r.rng p hp
 have hle := Zt1 g p
 have hlt : wk s p < Zdr d.parts p := by unfold ZmA at hn; omega
 have hlw : s.work.length ≤ 1000 := by rw [r.o.w]; omega
 have hlv : s.vals.length ≤ 1000 := by rw [r.o.v]; omega
 obtain ⟨x, q1, q2, _⟩ := Ziz hp
 have hx : ZoJ d p = x := by unfold ZoJ; rw [q2]
 have ha := g.arg x (List.mem_of_getElem? q2)
 unfold Zf4 ZiB Zu6
 rw [ZhN (show List.length s.work ≤ 1073741824 by omega), ZhN (show List.length s.vals ≤ 1073741824 by omega), Zip r.o hp]
 simp only [Option.bind_some, cond_true]
 rw [Zcr (n := wk s p + 1) (by omega) (by omega)]
 have m : ZvR d (more s p) := ⟨r.o.more p, fun q hq => by
  rw [ZxM input]
  by_cases e : q = p
  ·subst e; rw [Zrf r.o input hp]; omega
  ·rw [ZpP input hp hq e]; exact (r.rng q hq).2⟩
 have hd := ZiN m hp
 unfold more at hd
 rw [hd]
 simp only [Option.bind_some]
 show (bif ZbD d (more s p) p then _ else _) = some (Zm.mk (s.work.set p.toNat (wk s p + 1)) (bif ZbD d (more s p) p then _ else _))
 cases ZbD d (more s p) p with
 | false => rfl
 | true =>
  have fl := ZkU g f2
  have ef : ZeW d p = some (Zfr d p) := ZuF d (by have := sd.e; omega) (by have := sd.f; omega) g.g p f2
  simp only [cond_true]
  rw [ef]
  simp only [Option.bind_some]
  rw [Zqq s (Zfr d p) fl (fun y hy => Zra r.o (Zpj g f2 hy)) (ZfM s (Zfr d p)) (fun t => rfl)]
  simp only [Option.bind_some]
  rw [q1]
  simp only [Option.bind_some]
  rw [Zus x input _ hi (by rw [List.length_map]; exact fl) (by omega) wi (fun y hy => by
   obtain ⟨z, _, rfl⟩ := List.mem_map.1 hy
   exact Zyb wv z), Zra r.o hp]
  simp only [Option.bind_some]
  rw [hx]
theorem ZAc (d : Zi) (s : Zm) (sd : ZjX d) (input : List Int) (hi : input.length ≤ 1000) (wi : Zoo input) (wv : Zoo s.vals) (p : Int) : ZhD d input s p = some (goS d input s p) := by
 unfold ZhD goS
 rw [Zo5 d s sd]
 simp only [Option.bind_some]
 by_cases hc : ZdQ d s = 0
 ·rw [hc]
  simp only [beq_self_eq_true, cond_true, bne_self_eq_false, cond_false]
  obtain ⟨h1, h2⟩ := ZiU hc
  have g := ZfD h1
  have r := Zi9.1 h2
  rw [Zm4]
  unfold Zf7
  simp only [Option.bind_some]
  by_cases c1 : p < 0
  ·rw [decide_eq_true c1, decide_eq_false (show ¬ 0 ≤ p by omega)]; rfl
  by_cases c2 : (d.parts.length : Int) ≤ p
  ·rw [decide_eq_false c1, decide_eq_true c2, decide_eq_true (show 0 ≤ p by omega), decide_eq_false (show ¬ p < (d.parts.length : Int) by omega)]; rfl
  have hp : inR d p := ⟨by omega, by omega⟩
  rw [decide_eq_false c1, decide_eq_false c2, decide_eq_true (show 0 ≤ p by omega), decide_eq_true (show p < (d.parts.length : Int) by omega), ZiN r.most hp, Zso sd g r hp]
  simp only [cond_false, cond_true, Option.bind_some, Bool.or_self, Bool.and_self]
  cases hd : ZbD d s p with
  | true => rfl
  | false =>
   cases hg : Zin d s p with
   | false => rfl
   | true =>
    simp only [cond_false, cond_true]
    rw [Zvs h1 sd r hp ((Zwx g).1 hg).1 input hi wi wv]
    rfl
 ·rw [show (ZdQ d s == 0) = false by simpa using hc, show (ZdQ d s != 0) = true by simpa using hc]
  rfl
theorem ZnE (s t : Zm) (h1 : s.work.length < 9223372036854775808) (h2 : s.vals.length < 9223372036854775808) : Za6 s t = some (decide (s.work = t.work) && decide (s.vals = t.vals)) := by
 unfold Za6
 simp only [Zo9 _ _ h1, Zo9 _ _ h2, Option.bind_some]
 cases decide (s.work = t.work) <;> cases decide (s.vals = t.vals) <;> rfl
theorem ZqG (s t : Zm) (h1 : s.work.length < 9223372036854775808) (h2 : s.vals.length < 9223372036854775808) : Zdw s t = some (decide (s.work = t.work) && decide (s.vals = t.vals)) := by
 unfold Zdw
 simp only [Zrx _ _ h1, Zrx _ _ h2, Option.bind_some]
 cases decide (s.work = t.work) <;> cases decide (s.vals = t.vals) <;> rfl
theorem ZxG {d : Zi} {s : Zm} (input : List Int) (p : Int) : (goS d input s p).1.work.length ≤ 1000 ∧ (goS d input s p).1.vals.length ≤ 1000 := by
 unfold goS
 by_cases hc : ZdQ d s = 0
 ·obtain ⟨h1, h2⟩ := ZiU hc
  have g := ZfD h1
  have r := Zi9.1 h2
  have hl := g.pl
  have o := r.o.step input p
  rw [hc]
  simp only [beq_self_eq_true, cond_true]
  cases decide (p < 0) || decide ((d.parts.length : Int) ≤ p) <;> cases ZbD d s p <;> cases Zin d s p <;> simp only [cond_true, cond_false, List.length_nil, o.w, o.v] <;> omega
 ·rw [show (ZdQ d s == 0) = false by simpa using hc]
  simp
end Go.Proofs.YtnmbdjkbaihicaaDoor
namespace Go.Proofs.YtnmbdjkbaihicaaDoor
open Go Go.Proofs.YtnmbdjkbaihicaaDoorE
set_option linter.unusedVariables false
set_option linter.unusedSimpArgs false
theorem Zfo : ∀ r, ZeU = some r → evD ctx 22 [] = some (D.bool r) := fun r h => by
  cases h
  exact Zzf 100 (by kernel_rfl)
def Zlv (r : Bool) : D := (D.bool r)
def Zjd (t0 : Bool) (t1 : Bool) (t2 : Bool) (t3 : Bool) (a : Zi) : (Unit ⊕ Unit) → Ex × List V × Zn
  | (.inl r) => (.ret, [(.ptr 0 0), (.d (D.bool false))], [(.cells (dV t0 t1 t2 t3 a))])
  | (.inr r) => (.exit 0, [(.ptr 0 0), .bad], [(.cells (dV t0 t1 t2 t3 a))])
theorem Zmy {t0 : Bool} {t1 : Bool} {t2 : Bool} {t3 : Bool} {a : Zi} : ∀ (s0 : Int) (r : (Unit ⊕ Unit)), lp (Zez a) s0 = some r → lpW ctx 0 [1, 3] [1, 2] Zwv [(.ptr 0 0), (.d (Zd s0))] [(.cells (dV t0 t1 t2 t3 a))] = some ((Zjd t0 t1 t2 t3 a) r) := by
 refine Zaf (Zjd t0 t1 t2 t3 a) ?_
 intro s0 rcl ih
 show ZD _ _ (lpW _ _ _ _ _ _ _)
 unfold Zez
 rw [Zag]
 conv => arg 3; whnf
 refine Zl (Zy _ _) ?_
 conv => arg 3; whnf
 refine Zc rfl ?_ ?_
 ·conv => arg 3; whnf
  refine Zc rfl ?_ ?_
  ·conv => arg 3; whnf
   refine Zj rfl rfl fun x1 hx1 => ?_
   conv => arg 3; whnf
   refine Zl (Zy _ _) ?_
   conv => arg 3; whnf
   refine Zc rfl ?_ ?_
   ·conv => arg 3; whnf
    exact Zb rfl
   ·conv => arg 3; whnf
    refine Zg (ZaI rfl hx1) ?_
    conv => arg 3; whnf
    refine Zl (Zy _ _) ?_
    conv => arg 3; whnf
    refine Zc rfl ?_ ?_
    ·conv => arg 3; whnf
     exact Zb rfl
    ·conv => arg 3; whnf
     exact Ze (ih _)
  ·conv => arg 3; whnf
   exact Zb rfl
 ·conv => arg 3; whnf
  exact Zb rfl
theorem Zom {t0 : Bool} {t1 : Bool} {t2 : Bool} {t3 : Bool} {a : Zi} : ∀ r, (ZgR a) = some r → evD ctx 40 [(.d (D.agg (dA t0 t1 t2 t3 a)))] = some (Zlv r) := by
 show ZD _ (fun r rhs => rhs = some (Zlv r)) _
 unfold ZgR
 rw [Zak ctx 40 ZAe _ rfl rfl]
 conv => arg 3; whnf
 refine Zf _ (Zmy _) fun r2 hr2 => ?_
 clear hr2
 rcases r2 with r2 | r2
 ·conv => arg 3; whnf
  exact Zb rfl
 ·conv => arg 3; whnf
  refine Zl (Zy _ _) ?_
  conv => arg 3; whnf
  refine Zc rfl ?_ ?_
  ·conv => arg 3; whnf
   refine Zl (Zy _ _) ?_
   conv => arg 3; whnf
   refine Zc rfl ?_ ?_
   ·conv => arg 3; whnf
    refine Zl (Zy _ _) ?_
    conv => arg 3; whnf
    refine Zc rfl ?_ ?_
    ·conv => arg 3; whnf
     refine Zl (Zy _ _) ?_
     conv => arg 3; whnf
     refine Zc rfl ?_ ?_
     ·conv => arg 3; whnf
      exact Zb rfl
     ·conv => arg 3; whnf
      exact Zb rfl
    ·conv => arg 3; whnf
     exact Zb rfl
   ·conv => arg 3; whnf
    exact Zb rfl
  ·conv => arg 3; whnf
   exact Zb rfl
def ZlG (r : Bool) : D := (D.bool r)
theorem Zkp {t0 : Bool} {t1 : Bool} {t2 : Bool} {t3 : Bool} {t4 : Bool} {t5 : Bool} {t6 : Bool} {a : Zi} {b : (List Int)} {c : Zm} : ∀ r, (ZfX a b c) = some r → evD ctx 23 [(.d (D.agg (dA t0 t1 t2 t3 a))), (.d (D.list t4 (List.map Zd b))), (.d (D.agg [(D.list t5 (List.map Zd c.work)), (D.list t6 (List.map Zd c.vals))]))] = some (ZlG r) := by
 show ZD _ (fun r rhs => rhs = some (ZlG r)) _
 unfold ZfX
 rw [Zak ctx 23 ZAa _ rfl rfl]
 conv => arg 3; whnf
 refine Zh _ Zom rfl fun x0 hx0 => ?_
 conv => arg 3; whnf
 refine Zc rfl ?_ ?_
 ·conv => arg 3; whnf
  refine Zl (Zy _ _) ?_
  conv => arg 3; whnf
  refine Zc rfl ?_ ?_
  ·conv => arg 3; whnf
   refine Zl (Zy _ _) ?_
   conv => arg 3; whnf
   refine Zc rfl ?_ ?_
   ·conv => arg 3; whnf
    refine Zl (Zy _ _) ?_
    conv => arg 3; whnf
    refine Zc rfl ?_ ?_
    ·conv => arg 3; whnf
     exact Zb rfl
    ·conv => arg 3; whnf
     exact Zb rfl
   ·conv => arg 3; whnf
    exact Zb rfl
  ·conv => arg 3; whnf
   exact Zb rfl
 ·conv => arg 3; whnf
  exact Zb rfl
def Zlx (t0 : Bool) (t1 : Bool) (t2 : Bool) (t3 : Bool) (a : Zi) : (List Zo) → V × Zn
  | r => ((.agg [(.d (Zd a.period)), (.d (Zd a.deadline)), (.sl 0 3), (.sl 1 2), (.sl 2 3), (.sl 3 2)]), [(.arr 3 (List.map ZW a.parts)), (.arr 2 (List.map ZT a.edges)), (.arr 3 (List.map Zw a.futures)), (.arr 2 (List.map Zt r))])
def ZiK (t0 : Bool) (t1 : Bool) (t2 : Bool) (t3 : Bool) (a : Zi) : (List Zo) → Ex × List V × Zn
  | r => (.exit 0, [(.ptr 0 0), (.ptr 1 0)], [(.cells [(.d (Zd 0)), (.d (Zd 0)), (.sl 2 3), (.sl 3 2), (.sl 4 3), (.sl 5 2)]), (.cells [(.d (Zd a.period)), (.d (Zd a.deadline)), (.sl 6 3), (.sl 7 2), (.sl 8 3), (.sl 9 2)]), (.arr 3 []), (.arr 2 []), (.arr 3 []), (.arr 2 []), (.arr 3 (List.map ZW a.parts)), (.arr 2 (List.map ZT a.edges)), (.arr 3 (List.map Zw a.futures)), (.arr 2 (List.map Zt r))])
theorem Zmu {t0 : Bool} {t1 : Bool} {t2 : Bool} {t3 : Bool} {a : Zi} : ∀ (s0 : Int × (List Zo)) (r : (List Zo)), lp (ZdR a) s0 = some r → lpW ctx 0 [1, 2, 3, 4] [2, 3] Zxd [(.ptr 0 0), (.ptr 1 0), (.ptr 2 0), (.d (Zd s0.1))] [(.cells (dV t0 t1 t2 t3 a)), (.cells [(.d (Zd 0)), (.d (Zd 0)), (.sl 3 3), (.sl 4 2), (.sl 5 3), (.sl 6 2)]), (.cells [(.d (Zd a.period)), (.d (Zd a.deadline)), (.sl 7 3), (.sl 8 2), (.sl 9 3), (.sl 10 2)]), (.arr 3 []), (.arr 2 []), (.arr 3 []), (.arr 2 []), (.arr 3 (List.map ZW a.parts)), (.arr 2 (List.map ZT a.edges)), (.arr 3 (List.map Zw a.futures)), (.arr 2 (List.map Zt s0.2))] = some ((ZiK t0 t1 t2 t3 a) r) := by
 refine Zaf (ZiK t0 t1 t2 t3 a) ?_
 intro s0 rcl ih
 show ZD _ _ (lpW _ _ _ _ _ _ _)
 unfold ZdR
 rw [Zag]
 conv => arg 3; whnf
 refine Zl (Zy _ _) ?_
 conv => arg 3; whnf
 refine Zc rfl ?_ ?_
 ·conv => arg 3; whnf
  refine Zj rfl rfl fun x1 hx1 => ?_
  conv => arg 3; whnf
  refine Zbb (ZeQ (f := Zd) (fun _ => ⟨rfl, rfl⟩) x1.ins 0) ?_
  conv => arg 3; whnf
  refine Zc (Zff Zd x1.ins) ?_ ?_
  ·conv => arg 3; whnf
   refine Zl (rfl : _ = List.map Zd x1.ins) ?_
   conv => arg 3; whnf
   refine Zg (ZaI rfl hx1) ?_
   conv => arg 3; whnf
   refine Zbb (ZeQ (f := Zd) (fun _ => ⟨rfl, rfl⟩) x1.outs 0) ?_
   conv => arg 3; whnf
   refine Zc (Zff Zd x1.outs) ?_ ?_
   ·conv => arg 3; whnf
    refine Zl (rfl : _ = List.map Zd x1.outs) ?_
    conv => arg 3; whnf
    refine Zbb rfl ?_
    conv => arg 3; whnf
    refine Zc (ZfO Zt s0.2 1) ?_ ?_
    ·conv => arg 3; whnf
     refine Zl (Zft Zt s0.2 [x1]) ?_
     conv => arg 3; whnf
     exact Ze (ih _)
    ·exact Z8
   ·exact Z8
  ·exact Z8
 ·conv => arg 3; whnf
  exact Zb rfl
theorem Zev {t0 : Bool} {t1 : Bool} {t2 : Bool} {t3 : Bool} {a : Zi} : ∀ r, (Zdv a) = some r → evW ctx 15 [(.d (D.agg (dA t0 t1 t2 t3 a)))] [] = some ((Zlx t0 t1 t2 t3 a) r) := by
 show ZD _ (fun r rhs => rhs = some ((Zlx t0 t1 t2 t3 a) r)) _
 unfold Zdv
 rw [Zf1 ctx 15 Zz3 _ _ rfl rfl]
 conv => arg 3; whnf
 refine Zbb (ZeQ (f := ZW) (fun _ => ⟨rfl, rfl⟩) a.parts 0) ?_
 conv => arg 3; whnf
 refine Zc (Zff ZW a.parts) ?_ ?_
 ·conv => arg 3; whnf
  refine Zl (rfl : _ = List.map ZW a.parts) ?_
  conv => arg 3; whnf
  refine Zbb (ZeQ (f := ZT) (fun _ => ⟨rfl, rfl⟩) a.edges 0) ?_
  conv => arg 3; whnf
  refine Zc (Zff ZT a.edges) ?_ ?_
  ·conv => arg 3; whnf
   refine Zl (rfl : _ = List.map ZT a.edges) ?_
   conv => arg 3; whnf
   refine Zbb (ZeQ (f := Zw) (fun _ => ⟨rfl, rfl⟩) a.futures 0) ?_
   conv => arg 3; whnf
   refine Zc (Zff Zw a.futures) ?_ ?_
   ·conv => arg 3; whnf
    refine Zl (rfl : _ = List.map Zw a.futures) ?_
    conv => arg 3; whnf
    refine Zf _ (Zmu _) fun r2 hr2 => ?_
    conv => arg 3; whnf
    exact Zb rfl
   ·exact Z8
  ·exact Z8
 ·exact Z8
def ZlA (t0 : Bool) (t1 : Bool) (a : Zm) : Unit → V × Zn
  | r => ((.agg [(.sl 0 1), (.sl 1 1)]), [(.arr 1 (List.map Zd a.work)), (.arr 1 (List.map Zd a.vals))])
theorem ZaS {t0 : Bool} {t1 : Bool} {a : Zm} : ∀ r, (Za5 a) = some r → evW ctx 25 [(.d (D.agg [(D.list t0 (List.map Zd a.work)), (D.list t1 (List.map Zd a.vals))]))] [] = some ((ZlA t0 t1 a) r) := by
 show ZD _ (fun r rhs => rhs = some ((ZlA t0 t1 a) r)) _
 unfold Za5
 rw [Zf1 ctx 25 Zz0 _ _ rfl rfl]
 conv => arg 3; whnf
 refine Zbb (ZeQ (f := Zd) (fun _ => ⟨rfl, rfl⟩) a.work 0) ?_
 conv => arg 3; whnf
 refine Zc (Zff Zd a.work) ?_ ?_
 ·conv => arg 3; whnf
  refine Zl (rfl : _ = List.map Zd a.work) ?_
  conv => arg 3; whnf
  refine Zbb (ZeQ (f := Zd) (fun _ => ⟨rfl, rfl⟩) a.vals 0) ?_
  conv => arg 3; whnf
  refine Zc (Zff Zd a.vals) ?_ ?_
  ·conv => arg 3; whnf
   refine Zl (rfl : _ = List.map Zd a.vals) ?_
   conv => arg 3; whnf
   exact Zb rfl
  ·exact Z8
 ·exact Z8
def ZjI (r : Bool) : D := (D.bool r)
theorem ZbR {a : Int} {b : Int} {c : Int} : ∀ r, (Zbp a b c) = some r → evD ctx 82 [(.d (Zd a)), (.d (Zd b)), (.d (Zd c))] = some (ZjI r) := by
 show ZD _ (fun r rhs => rhs = some (ZjI r)) _
 unfold Zbp
 rw [Zak ctx 82 ZzS _ rfl rfl]
 conv => arg 3; whnf
 refine Zc rfl ?_ ?_
 ·conv => arg 3; whnf
  refine Zc rfl ?_ ?_
  ·conv => arg 3; whnf
   exact Zb rfl
  ·conv => arg 3; whnf
   exact Zb rfl
 ·conv => arg 3; whnf
  exact Zb rfl
def ZlN (r : Int) : D := (Zd r)
theorem Zpw {a : Int} : ∀ r, (ZgW a) = some r → evD ctx 109 [(.d (Zd a))] = some (ZlN r) := by
 show ZD _ (fun r rhs => rhs = some (ZlN r)) _
 unfold ZgW
 rw [Zak ctx 109 Zwp _ rfl rfl]
 conv => arg 3; whnf
 refine Zc rfl ?_ ?_
 ·conv => arg 3; whnf
  exact Zb rfl
 ·conv => arg 3; whnf
  refine Zc rfl ?_ ?_
  ·conv => arg 3; whnf
   exact Zb rfl
  ·conv => arg 3; whnf
   exact Zb rfl
def Zfv (r : Int) : D := (Zd r)
theorem ZhM {a : Int} : ∀ r, (Zcn a) = some r → evD ctx 121 [(.d (D.int .u64 a))] = some (Zfv r) := by
 show ZD _ (fun r rhs => rhs = some (Zfv r)) _
 unfold Zcn
 rw [Zak ctx 121 Zwa _ rfl rfl]
 conv => arg 3; whnf
 refine Z1 rfl ?_
 conv => arg 3; whnf
 refine Z1 rfl ?_
 conv => arg 3; whnf
 refine Z1 rfl ?_
 conv => arg 3; whnf
 refine Z1 rfl ?_
 conv => arg 3; whnf
 refine Z1 rfl ?_
 conv => arg 3; whnf
 refine Z1 rfl ?_
 conv => arg 3; whnf
 exact Zb rfl
def ZfV (r : Int) : D := (Zd r)
theorem Ziu {a : Int} : ∀ r, (ZcB a) = some r → evD ctx 110 [(.d (D.int .u64 a))] = some (ZfV r) := by
 show ZD _ (fun r rhs => rhs = some (ZfV r)) _
 unfold ZcB
 rw [Zak ctx 110 Zwg _ rfl rfl]
 conv => arg 3; whnf
 refine Zh _ ZhM rfl fun x0 hx0 => ?_
 conv => arg 3; whnf
 exact Zb rfl
theorem ZA6 (n : Int) : 0 ≤ IntKind.u64.wrap n ∧ IntKind.u64.wrap n < 18446744073709551616 := by
  have : IntKind.u64.wrap n = n % 18446744073709551616 := by
    show (if (false && decide (n % 18446744073709551616 ≥ 9223372036854775808)) = true then n % 18446744073709551616 - 18446744073709551616 else n % 18446744073709551616) = _
    simp
  rw [this]
  omega
theorem ZAz (n : Int) : ∃ j : Nat, j < 64 ∧ (IntKind.u64.wrap n).fdiv (2 ^ (min (Int.toNat 58) IntKind.u64.bits)) = (j : Int) := by
  obtain ⟨h1, h2⟩ := ZA6 n
  have e : (2 : Int) ^ (min (Int.toNat 58) IntKind.u64.bits) = 288230376151711744 := by decide
  rw [e, Int.fdiv_eq_ediv_of_nonneg _ (by omega)]
  refine ⟨((IntKind.u64.wrap n) / 288230376151711744).toNat, ?_, ?_⟩ <;> omega
theorem ZBg : ∀ j : Nat, j < 64 → Zdm [] 1 false (.d (.rptr (Zv8.drop (j * 1)))) = some (.d (.int .u8 (ZqO.getD j 0))) := by
  have key : ((List.range 64).all fun j => match Zdm [] 1 false (.d (.rptr (Zv8.drop (j * 1)))) with | some (.d (.int .u8 z)) => z == ZqO.getD j 0 | _ => false) = true := by rfl
  intro j hj
  have := List.all_eq_true.1 key j (by simpa using hj)
  split at this
  · rename_i z hz
    rw [hz, eq_of_beq this]
  · cases this
def ZgO (r : Int) : D := Zd r
theorem Zgt (a : Int) : ∀ r, Zdp a = some r → evD ctx 123 [.d (.int .u64 a)] = some (ZgO r) := by
  intro r hr
  unfold Zdp at hr
  have hr := Option.some.inj hr
  subst hr
  rw [Zak ctx 123 ZwD _ rfl rfl]
  by_cases h : (a == 0) = true
  · conv => lhs; whnf
    rw [h, Zym]
    rfl
  · replace h : (a == 0) = false := by simpa using h
    obtain ⟨j, hj, e⟩ := ZAz (IntKind.u64.wrap ((BitVec.ofInt IntKind.u64.bits a &&& BitVec.ofInt IntKind.u64.bits (IntKind.u64.wrap (0 - a))).toNat : Int) * 285870213051353865)
    conv => lhs; whnf
    rw [h, ZxU]
    conv => lhs; whnf
    refine (ZBs (by rfl)).trans ?_
    conv => lhs; whnf
    rw [e]
    refine (ZBu (by simp; omega)).trans ?_
    conv => lhs; whnf
    erw [ZBg j hj]
    rfl
def Ze3 (r : Int) : D := (Zd r)
theorem Zg2 {a : Int} : ∀ r, (ZcA a) = some r → evD ctx 111 [(.d (D.int .u64 a))] = some (Ze3 r) := by
 show ZD _ (fun r rhs => rhs = some (Ze3 r)) _
 unfold ZcA
 rw [Zak ctx 111 ZwM _ rfl rfl]
 conv => arg 3; whnf
 refine Zh _ (Zgt _) rfl fun x0 hx0 => ?_
 conv => arg 3; whnf
 exact Zb rfl
def ZnR (r : (Int × Bool)) : D := (D.tup [(Zd r.1), (D.bool r.2)])
theorem ZqQ {a : Int} : ∀ r, (Zjc a) = some r → evD ctx 83 [(.d (Zd a))] = some (ZnR r) := by
 show ZD _ (fun r rhs => rhs = some (ZnR r)) _
 unfold Zjc
 rw [Zak ctx 83 Zzs _ rfl rfl]
 conv => arg 3; whnf
 refine Zh _ Zpw rfl fun x0 hx0 => ?_
 conv => arg 3; whnf
 refine Zc rfl ?_ ?_
 ·conv => arg 3; whnf
  exact Zb rfl
 ·conv => arg 3; whnf
  refine Zh _ Ziu rfl fun x1 hx1 => ?_
  conv => arg 3; whnf
  refine Zc rfl ?_ ?_
  ·conv => arg 3; whnf
   exact Zb rfl
  ·conv => arg 3; whnf
   refine Zh _ Zg2 rfl fun x2 hx2 => ?_
   conv => arg 3; whnf
   exact Zb rfl
def ZlD (r : Bool) : D := (D.bool r)
theorem Zoi {a : ZF} : ∀ r, (ZeF a) = some r → evD ctx 85 [(.d (D.agg [(Zd a.op), (Zd a.arg), (Zd a.work)]))] = some (ZlD r) := by
 show ZD _ (fun r rhs => rhs = some (ZlD r)) _
 unfold ZeF
 rw [Zak ctx 85 Zy9 _ rfl rfl]
 conv => arg 3; whnf
 refine Zh _ ZbR rfl fun x0 hx0 => ?_
 conv => arg 3; whnf
 refine Zc rfl ?_ ?_
 ·conv => arg 3; whnf
  refine Zh _ ZbR rfl fun x1 hx1 => ?_
  conv => arg 3; whnf
  refine Zc rfl ?_ ?_
  ·conv => arg 3; whnf
   refine Zh _ ZbR rfl fun x2 hx2 => ?_
   conv => arg 3; whnf
   refine Zc rfl ?_ ?_
   ·conv => arg 3; whnf
    exact Zb rfl
   ·conv => arg 3; whnf
    exact Zb rfl
  ·conv => arg 3; whnf
   exact Zb rfl
 ·conv => arg 3; whnf
  exact Zb rfl
def Zcp (r : Int) : D := (Zd r)
def Zb3 (t0 : Bool) (a : (List ZF)) : (Int ⊕ Unit) → Ex × List V × Zn
  | (.inl r) => (.ret, [(.d (Zd r))], [])
  | (.inr r) => (.exit 0, [.bad], [])
theorem Zed {t0 : Bool} {a : (List ZF)} : ∀ (s0 : Int) (r : (Int ⊕ Unit)), lp (ZaN a (fun z0 => ZeF z0)) s0 = some r → lpW ctx 0 [0, 1, 7, 8] [4] Zt9 [(.d (D.list t0 (List.map ZW a))), (.d (D.fn 85 [])), (.d (Zd (a.length : Int))), (.d (Zd s0))] [] = some ((Zb3 t0 a) r) := by
 refine Zaf (Zb3 t0 a) ?_
 intro s0 rcl ih
 show ZD _ _ (lpW _ _ _ _ _ _ _)
 unfold ZaN
 rw [Zag]
 conv => arg 3; whnf
 refine Zc rfl ?_ ?_
 ·conv => arg 3; whnf
  refine Zj rfl rfl fun x1 hx1 => ?_
  conv => arg 3; whnf
  refine Zh _ Zoi rfl fun x2 hx2 => ?_
  conv => arg 3; whnf
  refine Zc rfl ?_ ?_
  ·conv => arg 3; whnf
   exact Zb rfl
  ·conv => arg 3; whnf
   exact Ze (ih _)
 ·conv => arg 3; whnf
  exact Zb rfl
theorem ZeC {t0 : Bool} {a : (List ZF)} : ∀ r, (ZbS a (fun z0 => ZeF z0)) = some r → evD ctx 112 [(.d (D.list t0 (List.map ZW a))), (.d (D.fn 85 []))] = some (Zcp r) := by
 show ZD _ (fun r rhs => rhs = some (Zcp r)) _
 unfold ZbS
 rw [Zak ctx 112 Zw9 _ rfl rfl]
 conv => arg 3; whnf
 refine Zl (Zy _ _) ?_
 conv => arg 3; whnf
 refine Zf _ (Zed _) fun r3 hr3 => ?_
 clear hr3
 rcases r3 with r3 | r3
 ·conv => arg 3; whnf
  exact Zb rfl
 ·conv => arg 3; whnf
  exact Zb rfl
def Zb8 (r : Bool) : D := (D.bool r)
theorem Zea {t0 : Bool} {a : (List ZF)} : ∀ r, (ZaM a (fun z0 => ZeF z0)) = some r → evD ctx 84 [(.d (D.list t0 (List.map ZW a))), (.d (D.fn 85 []))] = some (Zb8 r) := by
 show ZD _ (fun r rhs => rhs = some (Zb8 r)) _
 unfold ZaM
 rw [Zak ctx 84 ZzH _ rfl rfl]
 conv => arg 3; whnf
 refine Zh _ ZeC rfl fun x0 hx0 => ?_
 conv => arg 3; whnf
 refine Zc rfl ?_ ?_
 ·conv => arg 3; whnf
  exact Zb rfl
 ·conv => arg 3; whnf
  exact Zb rfl
def Zm3 (r : Bool) : D := (D.bool r)
theorem ZlH {t0 : Bool} {t1 : Bool} {t2 : Bool} {t3 : Bool} {a : Zi} {b : Int} {c : Int} : ∀ r, (Zgn a b c) = some r → evD ctx 86 [(.d (D.agg (dA t0 t1 t2 t3 a))), (.d (Zd b)), (.d (Zd c))] = some (Zm3 r) := by
 show ZD _ (fun r rhs => rhs = some (Zm3 r)) _
 unfold Zgn
 rw [Zak ctx 86 Zzj _ rfl rfl]
 conv => arg 3; whnf
 refine Zc rfl ?_ ?_
 ·conv => arg 3; whnf
  refine Zl (Zy _ _) ?_
  conv => arg 3; whnf
  refine Zh _ ZbR rfl fun x0 hx0 => ?_
  conv => arg 3; whnf
  refine Zc rfl ?_ ?_
  ·conv => arg 3; whnf
   refine Zl (Zy _ _) ?_
   conv => arg 3; whnf
   refine Zh _ ZbR rfl fun x1 hx1 => ?_
   conv => arg 3; whnf
   refine Zc rfl ?_ ?_
   ·conv => arg 3; whnf
    exact Zb rfl
   ·conv => arg 3; whnf
    exact Zb rfl
  ·conv => arg 3; whnf
   exact Zb rfl
 ·conv => arg 3; whnf
  exact Zb rfl
def ZeO (r : Int) : D := (Zd r)
def Zen (t0 : Bool) (a : (List ZK)) (b : ZK) : (Int ⊕ Unit) → Ex × List V × Zn
  | (.inl r) => (.ret, [(.d (Zd r))], [])
  | (.inr r) => (.exit 0, [.bad], [])
theorem Zgc {t0 : Bool} {a : (List ZK)} {b : ZK} : ∀ (s0 : Int) (r : (Int ⊕ Unit)), lp (Zbd a b) s0 = some r → lpW ctx 0 [0, 3, 7, 8] [4] Ztq [(.d (D.list t0 (List.map ZT a))), (.ptr 0 0), (.d (Zd (a.length : Int))), (.d (Zd s0))] [(.cells [(.d (Zd b.src)), (.d (Zd b.dst))])] = some ((Zen t0 a b) r) := by
 refine Zaf (Zen t0 a b) ?_
 intro s0 rcl ih
 show ZD _ _ (lpW _ _ _ _ _ _ _)
 unfold Zbd
 rw [Zag]
 conv => arg 3; whnf
 refine Zc rfl ?_ ?_
 ·conv => arg 3; whnf
  refine Zj rfl rfl fun x1 hx1 => ?_
  conv => arg 3; whnf
  refine Zc rfl ?_ ?_
  ·conv => arg 3; whnf
   exact Zb rfl
  ·conv => arg 3; whnf
   exact Ze (ih _)
 ·conv => arg 3; whnf
  exact Zb rfl
theorem ZgX {t0 : Bool} {a : (List ZK)} {b : ZK} : ∀ r, (Zcx a b) = some r → evD ctx 113 [(.d (D.list t0 (List.map ZT a))), (.d (D.agg [(Zd b.src), (Zd b.dst)]))] = some (ZeO r) := by
 show ZD _ (fun r rhs => rhs = some (ZeO r)) _
 unfold Zcx
 rw [Zak ctx 113 ZvW _ rfl rfl]
 conv => arg 3; whnf
 refine Zl (Zy _ _) ?_
 conv => arg 3; whnf
 refine Zf _ (Zgc _) fun r2 hr2 => ?_
 clear hr2
 rcases r2 with r2 | r2
 ·conv => arg 3; whnf
  exact Zb rfl
 ·conv => arg 3; whnf
  exact Zb rfl
def Zem (r : Bool) : D := (D.bool r)
theorem Zf8 {t0 : Bool} {a : (List ZK)} {b : ZK} : ∀ r, (Zbc a b) = some r → evD ctx 87 [(.d (D.list t0 (List.map ZT a))), (.d (D.agg [(Zd b.src), (Zd b.dst)]))] = some (Zem r) := by
 show ZD _ (fun r rhs => rhs = some (Zem r)) _
 unfold Zbc
 rw [Zak ctx 87 ZzF _ rfl rfl]
 conv => arg 3; whnf
 refine Zh _ ZgX rfl fun x0 hx0 => ?_
 conv => arg 3; whnf
 refine Zc rfl ?_ ?_
 ·conv => arg 3; whnf
  exact Zb rfl
 ·conv => arg 3; whnf
  exact Zb rfl
def Zi3 (r : Bool) : D := (D.bool r)
theorem ZmL {a : Zp} {b0 : Int} {b1 : Int} {b2 : Int} : ∀ r, (ZcU a b1 b2) = some r → evD ctx 88 [(.d (D.agg [(Zd a.maker), (Zd a.user), (Zd a.pos)])), (.d (D.rptr [(Zd b0), (Zd b1), (Zd b2)]))] = some (Zi3 r) := by
 show ZD _ (fun r rhs => rhs = some (Zi3 r)) _
 unfold ZcU
 rw [Zak ctx 88 Zzb _ rfl rfl]
 conv => arg 3; whnf
 refine Zc rfl ?_ ?_
 ·conv => arg 3; whnf
  refine Zc rfl ?_ ?_
  ·conv => arg 3; whnf
   exact Zb rfl
  ·conv => arg 3; whnf
   exact Zb rfl
 ·conv => arg 3; whnf
  exact Zb rfl
def ZbH (r : Int) : D := (Zd r)
def Zbt (t0 : Bool) (a : (List Zp)) (b0 : Int) (b1 : Int) (b2 : Int) : (Int ⊕ Unit) → Ex × List V × Zn
  | (.inl r) => (.ret, [(.d (Zd r))], [])
  | (.inr r) => (.exit 0, [.bad], [])
theorem Zdd {t0 : Bool} {a : (List Zp)} {b0 : Int} {b1 : Int} {b2 : Int} : ∀ (s0 : Int) (r : (Int ⊕ Unit)), lp (ZY a (fun z0 => ZcU z0 b1 b2)) s0 = some r → lpW ctx 0 [0, 1, 7, 8] [4] Zq5 [(.d (D.list t0 (List.map Zw a))), (.d (D.fn 88 [(D.rptr [(Zd b0), (Zd b1), (Zd b2)])])), (.d (Zd (a.length : Int))), (.d (Zd s0))] [] = some ((Zbt t0 a b0 b1 b2) r) := by
 refine Zaf (Zbt t0 a b0 b1 b2) ?_
 intro s0 rcl ih
 show ZD _ _ (lpW _ _ _ _ _ _ _)
 unfold ZY
 rw [Zag]
 conv => arg 3; whnf
 refine Zc rfl ?_ ?_
 ·conv => arg 3; whnf
  refine Zj rfl rfl fun x1 hx1 => ?_
  conv => arg 3; whnf
  refine Zh _ ZmL rfl fun x2 hx2 => ?_
  conv => arg 3; whnf
  refine Zc rfl ?_ ?_
  ·conv => arg 3; whnf
   exact Zb rfl
  ·conv => arg 3; whnf
   exact Ze (ih _)
 ·conv => arg 3; whnf
  exact Zb rfl
theorem ZdA {t0 : Bool} {a : (List Zp)} {b0 : Int} {b1 : Int} {b2 : Int} : ∀ r, (Zap a (fun z0 => ZcU z0 b1 b2)) = some r → evD ctx 114 [(.d (D.list t0 (List.map Zw a))), (.d (D.fn 88 [(D.rptr [(Zd b0), (Zd b1), (Zd b2)])]))] = some (ZbH r) := by
 show ZD _ (fun r rhs => rhs = some (ZbH r)) _
 unfold Zap
 rw [Zak ctx 114 ZtQ _ rfl rfl]
 conv => arg 3; whnf
 refine Zl (Zy _ _) ?_
 conv => arg 3; whnf
 refine Zf _ (Zdd _) fun r3 hr3 => ?_
 clear hr3
 rcases r3 with r3 | r3
 ·conv => arg 3; whnf
  exact Zb rfl
 ·conv => arg 3; whnf
  exact Zb rfl
def Zbr (r : Bool) : D := (D.bool r)
theorem Zdh {t0 : Bool} {a : (List Zp)} {b0 : Int} {b1 : Int} {b2 : Int} : ∀ r, (ZR a (fun z0 => ZcU z0 b1 b2)) = some r → evD ctx 89 [(.d (D.list t0 (List.map Zw a))), (.d (D.fn 88 [(D.rptr [(Zd b0), (Zd b1), (Zd b2)])]))] = some (Zbr r) := by
 show ZD _ (fun r rhs => rhs = some (Zbr r)) _
 unfold ZR
 rw [Zak ctx 89 Zxw _ rfl rfl]
 conv => arg 3; whnf
 refine Zh _ ZdA rfl fun x0 hx0 => ?_
 conv => arg 3; whnf
 refine Zc rfl ?_ ?_
 ·conv => arg 3; whnf
  exact Zb rfl
 ·conv => arg 3; whnf
  exact Zb rfl
def Zmm (r : Bool) : D := (D.bool r)
def ZjQ (t0 : Bool) (t1 : Bool) (t2 : Bool) (t3 : Bool) (t4 : Bool) (a : Zi) (b : (List Int)) : (Unit ⊕ Unit) → Ex × List V × Zn
  | (.inl r) => (.ret, [(.d (D.list t4 (List.map Zd b))), (.d (D.bool false))], [])
  | (.inr r) => (.exit 0, [(.d (D.list t4 (List.map Zd b))), .bad], [])
theorem Znr {t0 : Bool} {t1 : Bool} {t2 : Bool} {t3 : Bool} {t4 : Bool} {a : Zi} {b : (List Int)} : ∀ (s0 : Int) (r : (Unit ⊕ Unit)), lp (ZeY a b) s0 = some r → lpW ctx 0 [1, 2, 7, 8, 9] [1, 4] ZvK [(.d (D.list t4 (List.map Zd b))), (.ptr 0 0), (.d (D.list t4 (List.map Zd b))), (.d (Zd (b.length : Int))), (.d (Zd s0))] [(.cells (dV t0 t1 t2 t3 a))] = some ((ZjQ t0 t1 t2 t3 t4 a b) r) := by
 refine Zaf (ZjQ t0 t1 t2 t3 t4 a b) ?_
 intro s0 rcl ih
 show ZD _ _ (lpW _ _ _ _ _ _ _)
 unfold ZeY
 rw [Zag]
 conv => arg 3; whnf
 refine Zc rfl ?_ ?_
 ·conv => arg 3; whnf
  refine Zj rfl rfl fun x1 hx1 => ?_
  conv => arg 3; whnf
  refine Zl (Zy _ _) ?_
  conv => arg 3; whnf
  refine Zh _ ZbR rfl fun x2 hx2 => ?_
  conv => arg 3; whnf
  refine Zc rfl ?_ ?_
  ·conv => arg 3; whnf
   refine Zc rfl ?_ ?_
   ·conv => arg 3; whnf
    refine Zj rfl rfl fun x3 hx3 => ?_
    conv => arg 3; whnf
    refine Zc rfl ?_ ?_
    ·conv => arg 3; whnf
     exact Zb rfl
    ·conv => arg 3; whnf
     exact Ze (ih _)
   ·conv => arg 3; whnf
    exact Ze (ih _)
  ·conv => arg 3; whnf
   exact Zb rfl
 ·conv => arg 3; whnf
  exact Zb rfl
theorem ZlB {t0 : Bool} {t1 : Bool} {t2 : Bool} {t3 : Bool} {t4 : Bool} {a : Zi} {b : (List Int)} : ∀ r, (Zgm a b) = some r → evD ctx 92 [(.d (D.agg (dA t0 t1 t2 t3 a))), (.d (D.list t4 (List.map Zd b)))] = some (Zmm r) := by
 show ZD _ (fun r rhs => rhs = some (Zmm r)) _
 unfold Zgm
 rw [Zak ctx 92 Zzi _ rfl rfl]
 conv => arg 3; whnf
 refine Zl (Zy _ _) ?_
 conv => arg 3; whnf
 refine Zf _ (Znr _) fun r4 hr4 => ?_
 clear hr4
 rcases r4 with r4 | r4
 ·conv => arg 3; whnf
  exact Zb rfl
 ·conv => arg 3; whnf
  refine Zl (Zy _ _) ?_
  conv => arg 3; whnf
  refine Zc rfl ?_ ?_
  ·conv => arg 3; whnf
   exact Zb rfl
  ·conv => arg 3; whnf
   exact Zb rfl
def Zfg (r : Int) : D := (Zd r)
def ZeD (t0 : Bool) (a : (List Int)) (b : Int) : (Int ⊕ Unit) → Ex × List V × Zn
  | (.inl r) => (.ret, [(.d (Zd r))], [])
  | (.inr r) => (.exit 0, [.bad], [])
theorem Zgq {t0 : Bool} {a : (List Int)} {b : Int} : ∀ (s0 : Int) (r : (Int ⊕ Unit)), lp (Zbx a b) s0 = some r → lpW ctx 0 [0, 1, 7, 8] [4] Zt0 [(.d (D.list t0 (List.map Zd a))), (.d (Zd b)), (.d (Zd (a.length : Int))), (.d (Zd s0))] [] = some ((ZeD t0 a b) r) := by
 refine Zaf (ZeD t0 a b) ?_
 intro s0 rcl ih
 show ZD _ _ (lpW _ _ _ _ _ _ _)
 unfold Zbx
 rw [Zag]
 conv => arg 3; whnf
 refine Zc rfl ?_ ?_
 ·conv => arg 3; whnf
  refine Zj rfl rfl fun x1 hx1 => ?_
  conv => arg 3; whnf
  refine Zc rfl ?_ ?_
  ·conv => arg 3; whnf
   exact Zb rfl
  ·conv => arg 3; whnf
   exact Ze (ih _)
 ·conv => arg 3; whnf
  exact Zb rfl
theorem Zhi {t0 : Bool} {a : (List Int)} {b : Int} : ∀ r, (ZcO a b) = some r → evD ctx 115 [(.d (D.list t0 (List.map Zd a))), (.d (Zd b))] = some (Zfg r) := by
 show ZD _ (fun r rhs => rhs = some (Zfg r)) _
 unfold ZcO
 rw [Zak ctx 115 Zw2 _ rfl rfl]
 conv => arg 3; whnf
 refine Zl (Zy _ _) ?_
 conv => arg 3; whnf
 refine Zf _ (Zgq _) fun r2 hr2 => ?_
 clear hr2
 rcases r2 with r2 | r2
 ·conv => arg 3; whnf
  exact Zb rfl
 ·conv => arg 3; whnf
  exact Zb rfl
def ZeG (r : Bool) : D := (D.bool r)
theorem Zes {t0 : Bool} {a : (List Int)} {b : Int} : ∀ r, (ZaY a b) = some r → evD ctx 91 [(.d (D.list t0 (List.map Zd a))), (.d (Zd b))] = some (ZeG r) := by
 show ZD _ (fun r rhs => rhs = some (ZeG r)) _
 unfold ZaY
 rw [Zak ctx 91 ZzT _ rfl rfl]
 conv => arg 3; whnf
 refine Zh _ Zhi rfl fun x0 hx0 => ?_
 conv => arg 3; whnf
 refine Zc rfl ?_ ?_
 ·conv => arg 3; whnf
  exact Zb rfl
 ·conv => arg 3; whnf
  exact Zb rfl
def ZiW (r : Bool) : D := (D.bool r)
theorem ZmZ {t0 : Bool} {t1 : Bool} {a : Int} {b0 : (List Int)} {b1 : (List Int)} : ∀ r, (ZcW a b1) = some r → evD ctx 90 [(.d (Zd a)), (.d (D.rptr [(D.list t0 (List.map Zd b0)), (D.list t1 (List.map Zd b1))]))] = some (ZiW r) := by
 show ZD _ (fun r rhs => rhs = some (ZiW r)) _
 unfold ZcW
 rw [Zak ctx 90 ZyZ _ rfl rfl]
 conv => arg 3; whnf
 refine Zh _ Zes rfl fun x0 hx0 => ?_
 conv => arg 3; whnf
 refine Zc rfl ?_ ?_
 ·conv => arg 3; whnf
  exact Zb rfl
 ·conv => arg 3; whnf
  exact Zb rfl
def Zci (r : Int) : D := (Zd r)
def ZbZ (t0 : Bool) (t1 : Bool) (t2 : Bool) (a : (List Int)) (b0 : (List Int)) (b1 : (List Int)) : (Int ⊕ Unit) → Ex × List V × Zn
  | (.inl r) => (.ret, [(.d (Zd r))], [])
  | (.inr r) => (.exit 0, [.bad], [])
theorem ZdX {t0 : Bool} {t1 : Bool} {t2 : Bool} {a : (List Int)} {b0 : (List Int)} {b1 : (List Int)} : ∀ (s0 : Int) (r : (Int ⊕ Unit)), lp (Za1 a (fun z0 => ZcW z0 b1)) s0 = some r → lpW ctx 0 [0, 1, 7, 8] [4] ZtT [(.d (D.list t0 (List.map Zd a))), (.d (D.fn 90 [(D.rptr [(D.list t1 (List.map Zd b0)), (D.list t2 (List.map Zd b1))])])), (.d (Zd (a.length : Int))), (.d (Zd s0))] [] = some ((ZbZ t0 t1 t2 a b0 b1) r) := by
 refine Zaf (ZbZ t0 t1 t2 a b0 b1) ?_
 intro s0 rcl ih
 show ZD _ _ (lpW _ _ _ _ _ _ _)
 unfold Za1
 rw [Zag]
 conv => arg 3; whnf
 refine Zc rfl ?_ ?_
 ·conv => arg 3; whnf
  refine Zj rfl rfl fun x1 hx1 => ?_
  conv => arg 3; whnf
  refine Zh _ ZmZ rfl fun x2 hx2 => ?_
  conv => arg 3; whnf
  refine Zc rfl ?_ ?_
  ·conv => arg 3; whnf
   exact Zb rfl
  ·conv => arg 3; whnf
   exact Ze (ih _)
 ·conv => arg 3; whnf
  exact Zb rfl
theorem Zeo {t0 : Bool} {t1 : Bool} {t2 : Bool} {a : (List Int)} {b0 : (List Int)} {b1 : (List Int)} : ∀ r, (Zca a (fun z0 => ZcW z0 b1)) = some r → evD ctx 116 [(.d (D.list t0 (List.map Zd a))), (.d (D.fn 90 [(D.rptr [(D.list t1 (List.map Zd b0)), (D.list t2 (List.map Zd b1))])]))] = some (Zci r) := by
 show ZD _ (fun r rhs => rhs = some (Zci r)) _
 unfold Zca
 rw [Zak ctx 116 ZvG _ rfl rfl]
 conv => arg 3; whnf
 refine Zl (Zy _ _) ?_
 conv => arg 3; whnf
 refine Zf _ (ZdX _) fun r3 hr3 => ?_
 clear hr3
 rcases r3 with r3 | r3
 ·conv => arg 3; whnf
  exact Zb rfl
 ·conv => arg 3; whnf
  exact Zb rfl
def ZbY (r : Bool) : D := (D.bool r)
theorem ZdY {t0 : Bool} {t1 : Bool} {t2 : Bool} {a : (List Int)} {b0 : (List Int)} {b1 : (List Int)} : ∀ r, (ZaZ a (fun z0 => ZcW z0 b1)) = some r → evD ctx 93 [(.d (D.list t0 (List.map Zd a))), (.d (D.fn 90 [(D.rptr [(D.list t1 (List.map Zd b0)), (D.list t2 (List.map Zd b1))])]))] = some (ZbY r) := by
 show ZD _ (fun r rhs => rhs = some (ZbY r)) _
 unfold ZaZ
 rw [Zak ctx 93 ZyY _ rfl rfl]
 conv => arg 3; whnf
 refine Zh _ Zeo rfl fun x0 hx0 => ?_
 conv => arg 3; whnf
 refine Zc rfl ?_ ?_
 ·conv => arg 3; whnf
  exact Zb rfl
 ·conv => arg 3; whnf
  exact Zb rfl
def Zkr (r : Int) : D := (Zd r)
def ZhY (t0 : Bool) (t1 : Bool) (t2 : Bool) (t3 : Bool) (a : Zi) : (Unit ⊕ Unit) → Ex × List V × Zn
  | (.inl r) => (.ret, [(.ptr 0 0), (.d (Zd 53))], [(.cells (dV t0 t1 t2 t3 a))])
  | (.inr r) => (.exit 0, [(.ptr 0 0), .bad], [(.cells (dV t0 t1 t2 t3 a))])
theorem Zl4 {t0 : Bool} {t1 : Bool} {t2 : Bool} {t3 : Bool} {a : Zi} : ∀ (s4 : Int) (r : (Unit ⊕ Unit)), lp (Zdf a) s4 = some r → lpW ctx 0 [1, 61, 62, 63] [1, 2] Zxj [(.ptr 0 0), (.d (D.list t1 (List.map ZT a.edges))), (.d (Zd (a.edges.length : Int))), (.d (Zd s4))] [(.cells (dV t0 t1 t2 t3 a))] = some ((ZhY t0 t1 t2 t3 a) r) := by
 refine Zaf (ZhY t0 t1 t2 t3 a) ?_
 intro s4 rcl ih
 show ZD _ _ (lpW _ _ _ _ _ _ _)
 unfold Zdf
 rw [Zag]
 conv => arg 3; whnf
 refine Zc rfl ?_ ?_
 ·conv => arg 3; whnf
  refine Zj rfl rfl fun x5 hx5 => ?_
  conv => arg 3; whnf
  refine Zh _ ZlH rfl fun x6 hx6 => ?_
  conv => arg 3; whnf
  refine Zc rfl ?_ ?_
  ·conv => arg 3; whnf
   refine Zc rfl ?_ ?_
   ·conv => arg 3; whnf
    refine Zc (Zyx ZT a.edges s4.toNat) ?_ ?_
    ·conv => arg 3; whnf
     refine Zbb rfl ?_
     conv => arg 3; whnf
     refine Zl (ZtY ZT a.edges s4.toNat) ?_
     conv => arg 3; whnf
     refine Zh _ Zf8 rfl fun x7 hx7 => ?_
     conv => arg 3; whnf
     refine Zc rfl ?_ ?_
     ·conv => arg 3; whnf
      exact Zb rfl
     ·conv => arg 3; whnf
      exact Ze (ih _)
    ·exact Z8
   ·exact Z8
  ·conv => arg 3; whnf
   exact Zb rfl
 ·conv => arg 3; whnf
  exact Zb rfl
def Zh4 (t0 : Bool) (t1 : Bool) (t2 : Bool) (t3 : Bool) (a : Zi) : (Unit ⊕ Unit) → Ex × List V × Zn
  | (.inl r) => (.ret, [(.ptr 0 0), (.d (Zd 54))], [(.cells (dV t0 t1 t2 t3 a))])
  | (.inr r) => (.exit 2, [(.ptr 0 0), .bad], [(.cells (dV t0 t1 t2 t3 a))])
theorem ZlT {t0 : Bool} {t1 : Bool} {t2 : Bool} {t3 : Bool} {a : Zi} : ∀ (s9 : Int) (r : (Unit ⊕ Unit)), lp (Zdg a) s9 = some r → lpW ctx 0 [1, 85, 86, 87] [1, 2] ZvI [(.ptr 0 0), (.d (D.list t2 (List.map Zw a.futures))), (.d (Zd (a.futures.length : Int))), (.d (Zd s9))] [(.cells (dV t0 t1 t2 t3 a))] = some ((Zh4 t0 t1 t2 t3 a) r) := by
 refine Zaf (Zh4 t0 t1 t2 t3 a) ?_
 intro s9 rcl ih
 show ZD _ _ (lpW _ _ _ _ _ _ _)
 unfold Zdg
 rw [Zag]
 conv => arg 3; whnf
 refine Zc rfl ?_ ?_
 ·conv => arg 3; whnf
  refine Zj rfl rfl fun x10 hx10 => ?_
  conv => arg 3; whnf
  refine Zh _ ZlH rfl fun x11 hx11 => ?_
  conv => arg 3; whnf
  refine Zc rfl ?_ ?_
  ·conv => arg 3; whnf
   refine Zj rfl rfl fun x12 hx12 => ?_
   conv => arg 3; whnf
   refine Zh _ ZbR rfl fun x13 hx13 => ?_
   conv => arg 3; whnf
   refine Zc rfl ?_ ?_
   ·conv => arg 3; whnf
    refine Zc rfl ?_ ?_
    ·conv => arg 3; whnf
     refine Zc (Zyx Zw a.futures s9.toNat) ?_ ?_
     ·conv => arg 3; whnf
      refine Zbb rfl ?_
      conv => arg 3; whnf
      refine Zl (ZtY Zw a.futures s9.toNat) ?_
      conv => arg 3; whnf
      refine Zh _ Zdh rfl fun x14 hx14 => ?_
      conv => arg 3; whnf
      refine Zc rfl ?_ ?_
      ·conv => arg 3; whnf
       exact Zb rfl
      ·conv => arg 3; whnf
       exact Ze (ih _)
     ·exact Z8
    ·exact Z8
   ·conv => arg 3; whnf
    exact Zb rfl
  ·conv => arg 3; whnf
   exact Zb rfl
 ·conv => arg 3; whnf
  exact Zb rfl
def Zif (t0 : Bool) (t1 : Bool) (t2 : Bool) (t3 : Bool) (a : Zi) : (Unit ⊕ Unit) → Ex × List V × Zn
  | (.inl r) => (.ret, [(.d (Zd 55))], [])
  | (.inr r) => (.exit 4, [.bad], [])
theorem Zl9 {t0 : Bool} {t1 : Bool} {t2 : Bool} {t3 : Bool} {a : Zi} : ∀ (s16 : Int) (r : (Unit ⊕ Unit)), lp (Zde a) s16 = some r → lpW ctx 0 [1, 124, 125, 126] [2] Zxq [(.ptr 0 0), (.d (D.list t3 (List.map Zt a.barriers))), (.d (Zd (a.barriers.length : Int))), (.d (Zd s16))] [(.cells (dV t0 t1 t2 t3 a))] = some ((Zif t0 t1 t2 t3 a) r) := by
 refine Zaf (Zif t0 t1 t2 t3 a) ?_
 intro s16 rcl ih
 show ZD _ _ (lpW _ _ _ _ _ _ _)
 unfold Zde
 rw [Zag]
 conv => arg 3; whnf
 refine Zc rfl ?_ ?_
 ·conv => arg 3; whnf
  refine Zj rfl rfl fun x17 hx17 => ?_
  conv => arg 3; whnf
  refine Zh _ ZlB rfl fun x18 hx18 => ?_
  conv => arg 3; whnf
  refine Zc rfl ?_ ?_
  ·conv => arg 3; whnf
   refine Zh _ ZlB rfl fun x19 hx19 => ?_
   conv => arg 3; whnf
   refine Zc rfl ?_ ?_
   ·conv => arg 3; whnf
    refine Zh _ ZdY rfl fun x20 hx20 => ?_
    conv => arg 3; whnf
    refine Zc rfl ?_ ?_
    ·conv => arg 3; whnf
     exact Zb rfl
    ·conv => arg 3; whnf
     exact Ze (ih _)
   ·conv => arg 3; whnf
    exact Zb rfl
  ·conv => arg 3; whnf
   exact Zb rfl
 ·conv => arg 3; whnf
  exact Zb rfl
theorem Zg0 {t0 : Bool} {t1 : Bool} {t2 : Bool} {t3 : Bool} {a : Zi} : ∀ r, (ZeK a) = some r → evD ctx 55 [(.d (D.agg (dA t0 t1 t2 t3 a)))] = some (Zkr r) := by
 show ZD _ (fun r rhs => rhs = some (Zkr r)) _
 unfold ZeK
 rw [Zak ctx 55 ZzY _ rfl rfl]
 conv => arg 3; whnf
 refine Zl (Zy _ _) ?_
 conv => arg 3; whnf
 refine Zh _ ZbR rfl fun x0 hx0 => ?_
 conv => arg 3; whnf
 refine Zc rfl ?_ ?_
 ·conv => arg 3; whnf
  refine Zl (Zy _ _) ?_
  conv => arg 3; whnf
  refine Zc rfl ?_ ?_
  ·conv => arg 3; whnf
   exact Zb rfl
  ·conv => arg 3; whnf
   refine Zl (Zy _ _) ?_
   conv => arg 3; whnf
   refine Zc rfl ?_ ?_
   ·conv => arg 3; whnf
    exact Zb rfl
   ·conv => arg 3; whnf
    refine Zl (Zy _ _) ?_
    conv => arg 3; whnf
    refine Zc rfl ?_ ?_
    ·conv => arg 3; whnf
     exact Zb rfl
    ·conv => arg 3; whnf
     refine Zh _ ZqQ rfl fun x1 hx1 => ?_
     conv => arg 3; whnf
     refine Zc rfl ?_ ?_
     ·conv => arg 3; whnf
      refine Zc rfl ?_ ?_
      ·conv => arg 3; whnf
       exact Zb rfl
      ·conv => arg 3; whnf
       refine Zh _ ZbR rfl fun x2 hx2 => ?_
       conv => arg 3; whnf
       refine Zc rfl ?_ ?_
       ·conv => arg 3; whnf
        refine Zh _ Zea rfl fun x3 hx3 => ?_
        conv => arg 3; whnf
        refine Zc rfl ?_ ?_
        ·conv => arg 3; whnf
         exact Zb rfl
        ·conv => arg 3; whnf
         refine Zl (Zy _ _) ?_
         conv => arg 3; whnf
         refine Zf _ (Zl4 _) fun r8 hr8 => ?_
         clear hr8
         rcases r8 with r8 | r8
         ·conv => arg 3; whnf
          exact Zb rfl
         ·conv => arg 3; whnf
          refine Zl (Zy _ _) ?_
          conv => arg 3; whnf
          refine Zf _ (ZlT _) fun r15 hr15 => ?_
          clear hr15
          rcases r15 with r15 | r15
          ·conv => arg 3; whnf
           exact Zb rfl
          ·conv => arg 3; whnf
           refine Zl (Zy _ _) ?_
           conv => arg 3; whnf
           refine Zf _ (Zl9 _) fun r21 hr21 => ?_
           clear hr21
           rcases r21 with r21 | r21
           ·conv => arg 3; whnf
            exact Zb rfl
           ·conv => arg 3; whnf
            exact Zb rfl
       ·conv => arg 3; whnf
        exact Zb rfl
     ·conv => arg 3; whnf
      exact Zb rfl
 ·conv => arg 3; whnf
  exact Zb rfl
def ZjZ (r : Bool) : D := (D.bool r)
theorem ZbQ {t0 : Bool} {t1 : Bool} {t2 : Bool} {t3 : Bool} {t4 : Bool} {t5 : Bool} {a : Zi} {b : Zm} {c : Int} : ∀ r, (Zba a b c) = some r → evD ctx 46 [(.d (D.agg (dA t0 t1 t2 t3 a))), (.d (D.agg [(D.list t4 (List.map Zd b.work)), (D.list t5 (List.map Zd b.vals))])), (.d (Zd c))] = some (ZjZ r) := by
 show ZD _ (fun r rhs => rhs = some (ZjZ r)) _
 unfold Zba
 rw [Zak ctx 46 ZyL _ rfl rfl]
 conv => arg 3; whnf
 refine Zj rfl rfl fun x0 hx0 => ?_
 conv => arg 3; whnf
 refine Zj rfl rfl fun x1 hx1 => ?_
 conv => arg 3; whnf
 refine Zc rfl ?_ ?_
 ·conv => arg 3; whnf
  exact Zb rfl
 ·conv => arg 3; whnf
  exact Zb rfl
def Zil (r : Bool) : D := (D.bool r)
def ZgA (t0 : Bool) (t1 : Bool) (t2 : Bool) (t3 : Bool) (t4 : Bool) (t5 : Bool) (a : Zi) (b : Zm) (c : Int) : (Unit ⊕ Unit) → Ex × List V × Zn
  | (.inl r) => (.ret, [(.d (Zd c)), (.ptr 0 0), (.ptr 1 0), (.d (D.bool false))], [(.cells (dV t0 t1 t2 t3 a)), (.cells [(.d (D.list t4 (List.map Zd b.work))), (.d (D.list t5 (List.map Zd b.vals)))])])
  | (.inr r) => (.exit 0, [(.d (Zd c)), (.ptr 0 0), (.ptr 1 0), .bad], [(.cells (dV t0 t1 t2 t3 a)), (.cells [(.d (D.list t4 (List.map Zd b.work))), (.d (D.list t5 (List.map Zd b.vals)))])])
theorem Zj2 {t0 : Bool} {t1 : Bool} {t2 : Bool} {t3 : Bool} {t4 : Bool} {t5 : Bool} {a : Zi} {b : Zm} {c : Int} : ∀ (s0 : Int) (r : (Unit ⊕ Unit)), lp (ZcF a b c) s0 = some r → lpW ctx 0 [2, 3, 4, 14, 15, 16] [2, 3, 4, 6] Zw3 [(.d (Zd c)), (.ptr 0 0), (.ptr 1 0), (.d (D.list t1 (List.map ZT a.edges))), (.d (Zd (a.edges.length : Int))), (.d (Zd s0))] [(.cells (dV t0 t1 t2 t3 a)), (.cells [(.d (D.list t4 (List.map Zd b.work))), (.d (D.list t5 (List.map Zd b.vals)))])] = some ((ZgA t0 t1 t2 t3 t4 t5 a b c) r) := by
 refine Zaf (ZgA t0 t1 t2 t3 t4 t5 a b c) ?_
 intro s0 rcl ih
 show ZD _ _ (lpW _ _ _ _ _ _ _)
 unfold ZcF
 rw [Zag]
 conv => arg 3; whnf
 refine Zc rfl ?_ ?_
 ·conv => arg 3; whnf
  refine Zj rfl rfl fun x1 hx1 => ?_
  conv => arg 3; whnf
  refine Zc rfl ?_ ?_
  ·conv => arg 3; whnf
   refine Zh _ ZbQ rfl fun x2 hx2 => ?_
   conv => arg 3; whnf
   refine Zc rfl ?_ ?_
   ·conv => arg 3; whnf
    exact Ze (ih _)
   ·conv => arg 3; whnf
    exact Zb rfl
  ·conv => arg 3; whnf
   exact Ze (ih _)
 ·conv => arg 3; whnf
  exact Zb rfl
def ZgI (t0 : Bool) (t1 : Bool) (t2 : Bool) (t3 : Bool) (t4 : Bool) (t5 : Bool) (a : Zi) (b : Zm) (c : Int) (s4 : Int) (x5 : Zo) : (Unit ⊕ Unit) → Ex × List V × Zn
  | (.inl r) => (.ret, [(.d (Zd c)), (.ptr 0 0), (.ptr 1 0), (.d (D.bool false)), (.d (D.list t3 (List.map Zt a.barriers))), (.d (Zd (a.barriers.length : Int))), (.d (Zd s4))], [(.cells (dV t0 t1 t2 t3 a)), (.cells [(.d (D.list t4 (List.map Zd b.work))), (.d (D.list t5 (List.map Zd b.vals)))])])
  | (.inr r) => (.exit 4, [(.d (Zd c)), (.ptr 0 0), (.ptr 1 0), .bad, (.d (D.list t3 (List.map Zt a.barriers))), (.d (Zd (a.barriers.length : Int))), (.d (Zd s4))], [(.cells (dV t0 t1 t2 t3 a)), (.cells [(.d (D.list t4 (List.map Zd b.work))), (.d (D.list t5 (List.map Zd b.vals)))])])
theorem Zj6 {t0 : Bool} {t1 : Bool} {t2 : Bool} {t3 : Bool} {t4 : Bool} {t5 : Bool} {a : Zi} {b : Zm} {c : Int} {s4 : Int} {x5 : Zo} : ∀ (s7 : Int) (r : (Unit ⊕ Unit)), lp (Zce a b x5) s7 = some r → lpW ctx 0 [2, 3, 4, 34, 35, 36, 46, 47, 48] [2, 3, 4, 6, 34, 35, 36] ZwP [(.d (Zd c)), (.ptr 0 0), (.ptr 1 0), (.d (D.list t3 (List.map Zt a.barriers))), (.d (Zd (a.barriers.length : Int))), (.d (Zd s4)), (.d (D.list true (List.map Zd x5.ins))), (.d (Zd (x5.ins.length : Int))), (.d (Zd s7))] [(.cells (dV t0 t1 t2 t3 a)), (.cells [(.d (D.list t4 (List.map Zd b.work))), (.d (D.list t5 (List.map Zd b.vals)))])] = some ((ZgI t0 t1 t2 t3 t4 t5 a b c s4 x5) r) := by
 refine Zaf (ZgI t0 t1 t2 t3 t4 t5 a b c s4 x5) ?_
 intro s7 rcl ih
 show ZD _ _ (lpW _ _ _ _ _ _ _)
 unfold Zce
 rw [Zag]
 conv => arg 3; whnf
 refine Zc rfl ?_ ?_
 ·conv => arg 3; whnf
  refine Zj rfl rfl fun x8 hx8 => ?_
  conv => arg 3; whnf
  refine Zh _ ZbQ rfl fun x9 hx9 => ?_
  conv => arg 3; whnf
  refine Zc rfl ?_ ?_
  ·conv => arg 3; whnf
   exact Ze (ih _)
  ·conv => arg 3; whnf
   exact Zb rfl
 ·conv => arg 3; whnf
  exact Zb rfl
def ZgV (t0 : Bool) (t1 : Bool) (t2 : Bool) (t3 : Bool) (t4 : Bool) (t5 : Bool) (a : Zi) (b : Zm) (c : Int) : (Unit ⊕ Unit) → Ex × List V × Zn
  | (.inl r) => (.ret, [(.d (D.bool false))], [])
  | (.inr r) => (.exit 2, [.bad], [])
theorem Zj7 {t0 : Bool} {t1 : Bool} {t2 : Bool} {t3 : Bool} {t4 : Bool} {t5 : Bool} {a : Zi} {b : Zm} {c : Int} : ∀ (s4 : Int) (r : (Unit ⊕ Unit)), lp (ZcL a b c) s4 = some r → lpW ctx 0 [2, 3, 4, 34, 35, 36] [6] Zwh [(.d (Zd c)), (.ptr 0 0), (.ptr 1 0), (.d (D.list t3 (List.map Zt a.barriers))), (.d (Zd (a.barriers.length : Int))), (.d (Zd s4))] [(.cells (dV t0 t1 t2 t3 a)), (.cells [(.d (D.list t4 (List.map Zd b.work))), (.d (D.list t5 (List.map Zd b.vals)))])] = some ((ZgV t0 t1 t2 t3 t4 t5 a b c) r) := by
 refine Zaf (ZgV t0 t1 t2 t3 t4 t5 a b c) ?_
 intro s4 rcl ih
 show ZD _ _ (lpW _ _ _ _ _ _ _)
 unfold ZcL
 rw [Zag]
 conv => arg 3; whnf
 refine Zc rfl ?_ ?_
 ·conv => arg 3; whnf
  refine Zj rfl rfl fun x5 hx5 => ?_
  conv => arg 3; whnf
  refine Zh _ Zes rfl fun x6 hx6 => ?_
  conv => arg 3; whnf
  refine Zc rfl ?_ ?_
  ·conv => arg 3; whnf
   refine Zl (Zy _ _) ?_
   conv => arg 3; whnf
   refine Zf _ (Zj6 _) fun r10 hr10 => ?_
   clear hr10
   rcases r10 with r10 | r10
   ·conv => arg 3; whnf
    exact Zb rfl
   ·conv => arg 3; whnf
    exact Ze (ih _)
  ·conv => arg 3; whnf
   exact Ze (ih _)
 ·conv => arg 3; whnf
  exact Zb rfl
theorem ZhF {t0 : Bool} {t1 : Bool} {t2 : Bool} {t3 : Bool} {t4 : Bool} {t5 : Bool} {a : Zi} {b : Zm} {c : Int} : ∀ r, (Zd1 a b c) = some r → evD ctx 78 [(.d (D.agg (dA t0 t1 t2 t3 a))), (.d (D.agg [(D.list t4 (List.map Zd b.work)), (D.list t5 (List.map Zd b.vals))])), (.d (Zd c))] = some (Zil r) := by
 show ZD _ (fun r rhs => rhs = some (Zil r)) _
 unfold Zd1
 rw [Zak ctx 78 Zy5 _ rfl rfl]
 conv => arg 3; whnf
 refine Zl (Zy _ _) ?_
 conv => arg 3; whnf
 refine Zf _ (Zj2 _) fun r3 hr3 => ?_
 clear hr3
 rcases r3 with r3 | r3
 ·conv => arg 3; whnf
  exact Zb rfl
 ·conv => arg 3; whnf
  refine Zl (Zy _ _) ?_
  conv => arg 3; whnf
  refine Zf _ (Zj7 _) fun r11 hr11 => ?_
  clear hr11
  rcases r11 with r11 | r11
  ·conv => arg 3; whnf
   exact Zb rfl
  ·conv => arg 3; whnf
   exact Zb rfl
def ZhK (r : Bool) : D := (D.bool r)
theorem Zlm {t0 : Bool} {t1 : Bool} {t2 : Bool} {t3 : Bool} {t4 : Bool} {t5 : Bool} {a : Zp} {b0 : (List Int)} {b1 : (List Int)} {c0 : Int} {c1 : Int} {c2 : (List ZF)} {c3 : (List ZK)} {c4 : (List Zp)} {c5 : (List Zo)} : ∀ r, (Zcj a b0 b1 c0 c1 c2 c3 c4 c5) = some r → evD ctx 94 [(.d (D.agg [(Zd a.maker), (Zd a.user), (Zd a.pos)])), (.d (D.rptr [(D.list t0 (List.map Zd b0)), (D.list t1 (List.map Zd b1))])), (.d (D.rptr [(Zd c0), (Zd c1), (D.list t2 (List.map ZW c2)), (D.list t3 (List.map ZT c3)), (D.list t4 (List.map Zw c4)), (D.list t5 (List.map Zt c5))]))] = some (ZhK r) := by
 show ZD _ (fun r rhs => rhs = some (ZhK r)) _
 unfold Zcj
 rw [Zak ctx 94 Zz2 _ rfl rfl]
 conv => arg 3; whnf
 refine Zj rfl rfl fun x0 hx0 => ?_
 conv => arg 3; whnf
 refine Zc rfl ?_ ?_
 ·conv => arg 3; whnf
  refine Zh _ ZbQ rfl fun x1 hx1 => ?_
  conv => arg 3; whnf
  refine Zc rfl ?_ ?_
  ·conv => arg 3; whnf
   exact Zb rfl
  ·conv => arg 3; whnf
   exact Zb rfl
 ·conv => arg 3; whnf
  exact Zb rfl
def Zbw (r : Int) : D := (Zd r)
def Zbh (t0 : Bool) (t1 : Bool) (t2 : Bool) (t3 : Bool) (t4 : Bool) (t5 : Bool) (t6 : Bool) (a : (List Zp)) (b0 : (List Int)) (b1 : (List Int)) (b2 : Int) (b3 : Int) (b4 : (List ZF)) (b5 : (List ZK)) (b6 : (List Zp)) (b7 : (List Zo)) : (Int ⊕ Unit) → Ex × List V × Zn
  | (.inl r) => (.ret, [(.d (Zd r))], [])
  | (.inr r) => (.exit 0, [.bad], [])
theorem ZcS {t0 : Bool} {t1 : Bool} {t2 : Bool} {t3 : Bool} {t4 : Bool} {t5 : Bool} {t6 : Bool} {a : (List Zp)} {b0 : (List Int)} {b1 : (List Int)} {b2 : Int} {b3 : Int} {b4 : (List ZF)} {b5 : (List ZK)} {b6 : (List Zp)} {b7 : (List Zo)} : ∀ (s0 : Int) (r : (Int ⊕ Unit)), lp (ZY a (fun z0 => Zcj z0 b0 b1 b2 b3 b4 b5 b6 b7)) s0 = some r → lpW ctx 0 [0, 1, 7, 8] [4] Zq5 [(.d (D.list t0 (List.map Zw a))), (.d (D.fn 94 [(D.rptr [(D.list t1 (List.map Zd b0)), (D.list t2 (List.map Zd b1))]), (D.rptr [(Zd b2), (Zd b3), (D.list t3 (List.map ZW b4)), (D.list t4 (List.map ZT b5)), (D.list t5 (List.map Zw b6)), (D.list t6 (List.map Zt b7))])])), (.d (Zd (a.length : Int))), (.d (Zd s0))] [] = some ((Zbh t0 t1 t2 t3 t4 t5 t6 a b0 b1 b2 b3 b4 b5 b6 b7) r) := by
 refine Zaf (Zbh t0 t1 t2 t3 t4 t5 t6 a b0 b1 b2 b3 b4 b5 b6 b7) ?_
 intro s0 rcl ih
 show ZD _ _ (lpW _ _ _ _ _ _ _)
 unfold ZY
 rw [Zag]
 conv => arg 3; whnf
 refine Zc rfl ?_ ?_
 ·conv => arg 3; whnf
  refine Zj rfl rfl fun x1 hx1 => ?_
  conv => arg 3; whnf
  refine Zh _ Zlm rfl fun x2 hx2 => ?_
  conv => arg 3; whnf
  refine Zc rfl ?_ ?_
  ·conv => arg 3; whnf
   exact Zb rfl
  ·conv => arg 3; whnf
   exact Ze (ih _)
 ·conv => arg 3; whnf
  exact Zb rfl
theorem Zdk {t0 : Bool} {t1 : Bool} {t2 : Bool} {t3 : Bool} {t4 : Bool} {t5 : Bool} {t6 : Bool} {a : (List Zp)} {b0 : (List Int)} {b1 : (List Int)} {b2 : Int} {b3 : Int} {b4 : (List ZF)} {b5 : (List ZK)} {b6 : (List Zp)} {b7 : (List Zo)} : ∀ r, (Zap a (fun z0 => Zcj z0 b0 b1 b2 b3 b4 b5 b6 b7)) = some r → evD ctx 114 [(.d (D.list t0 (List.map Zw a))), (.d (D.fn 94 [(D.rptr [(D.list t1 (List.map Zd b0)), (D.list t2 (List.map Zd b1))]), (D.rptr [(Zd b2), (Zd b3), (D.list t3 (List.map ZW b4)), (D.list t4 (List.map ZT b5)), (D.list t5 (List.map Zw b6)), (D.list t6 (List.map Zt b7))])]))] = some (Zbw r) := by
 show ZD _ (fun r rhs => rhs = some (Zbw r)) _
 unfold Zap
 rw [Zak ctx 114 ZtQ _ rfl rfl]
 conv => arg 3; whnf
 refine Zl (Zy _ _) ?_
 conv => arg 3; whnf
 refine Zf _ (ZcS _) fun r3 hr3 => ?_
 clear hr3
 rcases r3 with r3 | r3
 ·conv => arg 3; whnf
  exact Zb rfl
 ·conv => arg 3; whnf
  exact Zb rfl
def Zbf (r : Bool) : D := (D.bool r)
theorem ZcX {t0 : Bool} {t1 : Bool} {t2 : Bool} {t3 : Bool} {t4 : Bool} {t5 : Bool} {t6 : Bool} {a : (List Zp)} {b0 : (List Int)} {b1 : (List Int)} {b2 : Int} {b3 : Int} {b4 : (List ZF)} {b5 : (List ZK)} {b6 : (List Zp)} {b7 : (List Zo)} : ∀ r, (ZR a (fun z0 => Zcj z0 b0 b1 b2 b3 b4 b5 b6 b7)) = some r → evD ctx 89 [(.d (D.list t0 (List.map Zw a))), (.d (D.fn 94 [(D.rptr [(D.list t1 (List.map Zd b0)), (D.list t2 (List.map Zd b1))]), (D.rptr [(Zd b2), (Zd b3), (D.list t3 (List.map ZW b4)), (D.list t4 (List.map ZT b5)), (D.list t5 (List.map Zw b6)), (D.list t6 (List.map Zt b7))])]))] = some (Zbf r) := by
 show ZD _ (fun r rhs => rhs = some (Zbf r)) _
 unfold ZR
 rw [Zak ctx 89 Zxw _ rfl rfl]
 conv => arg 3; whnf
 refine Zh _ Zdk rfl fun x0 hx0 => ?_
 conv => arg 3; whnf
 refine Zc rfl ?_ ?_
 ·conv => arg 3; whnf
  exact Zb rfl
 ·conv => arg 3; whnf
  exact Zb rfl
def ZiG (r : Bool) : D := (D.bool r)
def Zhe (t0 : Bool) (t1 : Bool) (t2 : Bool) (t3 : Bool) (t4 : Bool) (t5 : Bool) (a : Zi) (b : Zm) : (Unit ⊕ Unit) → Ex × List V × Zn
  | (.inl r) => (.ret, [(.ptr 0 0), (.ptr 1 0), (.d (D.bool false))], [(.cells (dV t0 t1 t2 t3 a)), (.cells [(.d (D.list t4 (List.map Zd b.work))), (.d (D.list t5 (List.map Zd b.vals)))])])
  | (.inr r) => (.exit 0, [(.ptr 0 0), (.ptr 1 0), .bad], [(.cells (dV t0 t1 t2 t3 a)), (.cells [(.d (D.list t4 (List.map Zd b.work))), (.d (D.list t5 (List.map Zd b.vals)))])])
theorem ZkT {t0 : Bool} {t1 : Bool} {t2 : Bool} {t3 : Bool} {t4 : Bool} {t5 : Bool} {a : Zi} {b : Zm} : ∀ (s0 : Int) (r : (Unit ⊕ Unit)), lp (Zc4 a b) s0 = some r → lpW ctx 0 [2, 3, 26, 27, 28] [2, 3, 4] ZwO [(.ptr 0 0), (.ptr 1 0), (.d (D.list t4 (List.map Zd b.work))), (.d (Zd (b.work.length : Int))), (.d (Zd s0))] [(.cells (dV t0 t1 t2 t3 a)), (.cells [(.d (D.list t4 (List.map Zd b.work))), (.d (D.list t5 (List.map Zd b.vals)))])] = some ((Zhe t0 t1 t2 t3 t4 t5 a b) r) := by
 refine Zaf (Zhe t0 t1 t2 t3 t4 t5 a b) ?_
 intro s0 rcl ih
 show ZD _ _ (lpW _ _ _ _ _ _ _)
 unfold Zc4
 rw [Zag]
 conv => arg 3; whnf
 refine Zc rfl ?_ ?_
 ·conv => arg 3; whnf
  refine Zj rfl rfl fun x1 hx1 => ?_
  conv => arg 3; whnf
  refine Zc rfl ?_ ?_
  ·conv => arg 3; whnf
   exact Zb rfl
  ·conv => arg 3; whnf
   refine Zj rfl rfl fun x2 hx2 => ?_
   conv => arg 3; whnf
   refine Zc rfl ?_ ?_
   ·conv => arg 3; whnf
    exact Zb rfl
   ·conv => arg 3; whnf
    exact Ze (ih _)
 ·conv => arg 3; whnf
  exact Zb rfl
def Zhb (t0 : Bool) (t1 : Bool) (t2 : Bool) (t3 : Bool) (t4 : Bool) (t5 : Bool) (a : Zi) (b : Zm) : (Unit ⊕ Unit) → Ex × List V × Zn
  | (.inl r) => (.ret, [(.ptr 0 0), (.ptr 1 0), (.d (D.bool false))], [(.cells (dV t0 t1 t2 t3 a)), (.cells [(.d (D.list t4 (List.map Zd b.work))), (.d (D.list t5 (List.map Zd b.vals)))])])
  | (.inr r) => (.exit 2, [(.ptr 0 0), (.ptr 1 0), .bad], [(.cells (dV t0 t1 t2 t3 a)), (.cells [(.d (D.list t4 (List.map Zd b.work))), (.d (D.list t5 (List.map Zd b.vals)))])])
theorem Zky {t0 : Bool} {t1 : Bool} {t2 : Bool} {t3 : Bool} {t4 : Bool} {t5 : Bool} {a : Zi} {b : Zm} : ∀ (s4 : Int) (r : (Unit ⊕ Unit)), lp (Zc3 a b) s4 = some r → lpW ctx 0 [2, 3, 47, 48, 49] [2, 3, 4] ZvB [(.ptr 0 0), (.ptr 1 0), (.d (D.list t4 (List.map Zd b.work))), (.d (Zd (b.work.length : Int))), (.d (Zd s4))] [(.cells (dV t0 t1 t2 t3 a)), (.cells [(.d (D.list t4 (List.map Zd b.work))), (.d (D.list t5 (List.map Zd b.vals)))])] = some ((Zhb t0 t1 t2 t3 t4 t5 a b) r) := by
 refine Zaf (Zhb t0 t1 t2 t3 t4 t5 a b) ?_
 intro s4 rcl ih
 show ZD _ _ (lpW _ _ _ _ _ _ _)
 unfold Zc3
 rw [Zag]
 conv => arg 3; whnf
 refine Zc rfl ?_ ?_
 ·conv => arg 3; whnf
  refine Zj rfl rfl fun x5 hx5 => ?_
  conv => arg 3; whnf
  refine Zc rfl ?_ ?_
  ·conv => arg 3; whnf
   refine Zh _ ZhF rfl fun x6 hx6 => ?_
   conv => arg 3; whnf
   refine Zc rfl ?_ ?_
   ·conv => arg 3; whnf
    exact Ze (ih _)
   ·conv => arg 3; whnf
    exact Zb rfl
  ·conv => arg 3; whnf
   exact Ze (ih _)
 ·conv => arg 3; whnf
  exact Zb rfl
theorem Zmh {t0 : Bool} {t1 : Bool} {t2 : Bool} {t3 : Bool} {t4 : Bool} {t5 : Bool} {a : Zi} {b : Zm} : ∀ r, (Zfi a b) = some r → evD ctx 56 [(.d (D.agg (dA t0 t1 t2 t3 a))), (.d (D.agg [(D.list t4 (List.map Zd b.work)), (D.list t5 (List.map Zd b.vals))]))] = some (ZiG r) := by
 show ZD _ (fun r rhs => rhs = some (ZiG r)) _
 unfold Zfi
 rw [Zak ctx 56 ZyM _ rfl rfl]
 conv => arg 3; whnf
 refine Zl (Zy _ _) ?_
 conv => arg 3; whnf
 refine Zl (Zy _ _) ?_
 conv => arg 3; whnf
 refine Zc rfl ?_ ?_
 ·conv => arg 3; whnf
  exact Zb rfl
 ·conv => arg 3; whnf
  refine Zl (Zy _ _) ?_
  conv => arg 3; whnf
  refine Zl (Zy _ _) ?_
  conv => arg 3; whnf
  refine Zc rfl ?_ ?_
  ·conv => arg 3; whnf
   exact Zb rfl
  ·conv => arg 3; whnf
   refine Zl (Zy _ _) ?_
   conv => arg 3; whnf
   refine Zf _ (ZkT _) fun r3 hr3 => ?_
   clear hr3
   rcases r3 with r3 | r3
   ·conv => arg 3; whnf
    exact Zb rfl
   ·conv => arg 3; whnf
    refine Zl (Zy _ _) ?_
    conv => arg 3; whnf
    refine Zf _ (Zky _) fun r7 hr7 => ?_
    clear hr7
    rcases r7 with r7 | r7
    ·conv => arg 3; whnf
     exact Zb rfl
    ·conv => arg 3; whnf
     refine Zh _ ZcX rfl fun x8 hx8 => ?_
     conv => arg 3; whnf
     refine Zc rfl ?_ ?_
     ·conv => arg 3; whnf
      exact Zb rfl
     ·conv => arg 3; whnf
      exact Zb rfl
def Zje (r : Int) : D := (Zd r)
theorem Zc6 {t0 : Bool} {t1 : Bool} {t2 : Bool} {t3 : Bool} {t4 : Bool} {t5 : Bool} {a : Zi} {b : Zm} : ∀ r, (Zb6 a b) = some r → evD ctx 31 [(.d (D.agg (dA t0 t1 t2 t3 a))), (.d (D.agg [(D.list t4 (List.map Zd b.work)), (D.list t5 (List.map Zd b.vals))]))] = some (Zje r) := by
 show ZD _ (fun r rhs => rhs = some (Zje r)) _
 unfold Zb6
 rw [Zak ctx 31 Zzu _ rfl rfl]
 conv => arg 3; whnf
 refine Zh _ Zg0 rfl fun x0 hx0 => ?_
 conv => arg 3; whnf
 refine Zc rfl ?_ ?_
 ·conv => arg 3; whnf
  refine Zh _ Zmh rfl fun x1 hx1 => ?_
  conv => arg 3; whnf
  refine Zc rfl ?_ ?_
  ·conv => arg 3; whnf
   exact Zb rfl
  ·conv => arg 3; whnf
   exact Zb rfl
 ·conv => arg 3; whnf
  exact Zb rfl
def ZjP (r : Bool) : D := (D.bool r)
def ZhQ (t0 : Bool) (t1 : Bool) (t2 : Bool) (t3 : Bool) (t4 : Bool) (t5 : Bool) (a : Zi) (b : Zm) (c : Int) : (Unit ⊕ Unit) → Ex × List V × Zn
  | (.inl r) => (.exit 0, [(.d (D.bool true))], [])
  | (.inr r) => (.exit 0, [(.d (D.bool false))], [])
theorem Zle {t0 : Bool} {t1 : Bool} {t2 : Bool} {t3 : Bool} {t4 : Bool} {t5 : Bool} {a : Zi} {b : Zm} {c : Int} : ∀ (s3 : Int) (r : (Unit ⊕ Unit)), lp (ZcE a b c) s3 = some r → lpW ctx 0 [2, 3, 4, 7, 30, 31, 32] [7] ZsT [(.d (Zd c)), (.ptr 0 0), (.ptr 1 0), (.d (D.bool true)), (.d (D.list t2 (List.map Zw a.futures))), (.d (Zd (a.futures.length : Int))), (.d (Zd s3))] [(.cells (dV t0 t1 t2 t3 a)), (.cells [(.d (D.list t4 (List.map Zd b.work))), (.d (D.list t5 (List.map Zd b.vals)))])] = some ((ZhQ t0 t1 t2 t3 t4 t5 a b c) r) := by
 refine Zaf (ZhQ t0 t1 t2 t3 t4 t5 a b c) ?_
 intro s3 rcl ih
 show ZD _ _ (lpW _ _ _ _ _ _ _)
 unfold ZcE
 rw [Zag]
 conv => arg 3; whnf
 refine Zc rfl ?_ ?_
 ·conv => arg 3; whnf
  refine Zj rfl rfl fun x4 hx4 => ?_
  conv => arg 3; whnf
  refine Zc rfl ?_ ?_
  ·conv => arg 3; whnf
   refine Zj rfl rfl fun x5 hx5 => ?_
   conv => arg 3; whnf
   refine Zc rfl ?_ ?_
   ·conv => arg 3; whnf
    refine Zh _ ZbQ rfl fun x6 hx6 => ?_
    conv => arg 3; whnf
    refine Zc rfl ?_ ?_
    ·conv => arg 3; whnf
     exact Zb rfl
    ·conv => arg 3; whnf
     exact Zb rfl
   ·conv => arg 3; whnf
    exact Ze (ih _)
  ·conv => arg 3; whnf
   exact Ze (ih _)
 ·conv => arg 3; whnf
  exact Zb rfl
def ZgK (t0 : Bool) (t1 : Bool) (t2 : Bool) (t3 : Bool) (t4 : Bool) (t5 : Bool) (a : Zi) (b : Zm) (c : Int) : (Unit ⊕ Unit) → Ex × List V × Zn
  | (.inl r) => (.exit 0, [(.d (D.bool true))], [])
  | (.inr r) => (.exit 0, [(.d (D.bool false))], [])
theorem Zj8 {t0 : Bool} {t1 : Bool} {t2 : Bool} {t3 : Bool} {t4 : Bool} {t5 : Bool} {a : Zi} {b : Zm} {c : Int} : ∀ (s8 : Int) (r : (Unit ⊕ Unit)), lp (ZfP a b c) s8 = some r → lpW ctx 0 [2, 3, 4, 7, 30, 31, 32] [7] ZsT [(.d (Zd c)), (.ptr 0 0), (.ptr 1 0), (.d (D.bool true)), (.d (D.list t2 (List.map Zw a.futures))), (.d (Zd (a.futures.length : Int))), (.d (Zd s8))] [(.cells (dV t0 t1 t2 t3 a)), (.cells [(.d (D.list t4 (List.map Zd b.work))), (.d (D.list t5 (List.map Zd b.vals)))])] = some ((ZgK t0 t1 t2 t3 t4 t5 a b c) r) := by
 refine Zaf (ZgK t0 t1 t2 t3 t4 t5 a b c) ?_
 intro s8 rcl ih
 show ZD _ _ (lpW _ _ _ _ _ _ _)
 unfold ZfP
 rw [Zag]
 conv => arg 3; whnf
 refine Zc rfl ?_ ?_
 ·conv => arg 3; whnf
  refine Zj rfl rfl fun x9 hx9 => ?_
  conv => arg 3; whnf
  refine Zc rfl ?_ ?_
  ·conv => arg 3; whnf
   refine Zj rfl rfl fun x10 hx10 => ?_
   conv => arg 3; whnf
   refine Zc rfl ?_ ?_
   ·conv => arg 3; whnf
    refine Zh _ ZbQ rfl fun x11 hx11 => ?_
    conv => arg 3; whnf
    refine Zc rfl ?_ ?_
    ·conv => arg 3; whnf
     exact Zb rfl
    ·conv => arg 3; whnf
     exact Zb rfl
   ·conv => arg 3; whnf
    exact Ze (ih _)
  ·conv => arg 3; whnf
   exact Ze (ih _)
 ·conv => arg 3; whnf
  exact Zb rfl
theorem Zgl {t0 : Bool} {t1 : Bool} {t2 : Bool} {t3 : Bool} {t4 : Bool} {t5 : Bool} {a : Zi} {b : Zm} {c : Int} : ∀ r, (Zeg a b c) = some r → evD ctx 47 [(.d (D.agg (dA t0 t1 t2 t3 a))), (.d (D.agg [(D.list t4 (List.map Zd b.work)), (D.list t5 (List.map Zd b.vals))])), (.d (Zd c))] = some (ZjP r) := by
 show ZD _ (fun r rhs => rhs = some (ZjP r)) _
 unfold Zeg
 rw [Zak ctx 47 ZzZ _ rfl rfl]
 conv => arg 3; whnf
 refine Zh _ ZbQ rfl fun x0 hx0 => ?_
 conv => arg 3; whnf
 refine Zc rfl ?_ ?_
 ·conv => arg 3; whnf
  exact Zb rfl
 ·conv => arg 3; whnf
  refine Zj rfl rfl fun x1 hx1 => ?_
  conv => arg 3; whnf
  refine Zc rfl ?_ ?_
  ·conv => arg 3; whnf
   refine Zh _ ZhF rfl fun x2 hx2 => ?_
   conv => arg 3; whnf
   refine Zc rfl ?_ ?_
   ·conv => arg 3; whnf
    refine Zl (Zy _ _) ?_
    conv => arg 3; whnf
    refine Zf _ (Zle _) fun r7 hr7 => ?_
    clear hr7
    rcases r7 with r7 | r7
    ·conv => arg 3; whnf
     exact Zb rfl
    ·conv => arg 3; whnf
     exact Zb rfl
   ·conv => arg 3; whnf
    exact Zb rfl
  ·conv => arg 3; whnf
   refine Zl (Zy _ _) ?_
   conv => arg 3; whnf
   refine Zf _ (Zj8 _) fun r12 hr12 => ?_
   clear hr12
   rcases r12 with r12 | r12
   ·conv => arg 3; whnf
    exact Zb rfl
   ·conv => arg 3; whnf
    exact Zb rfl
def Zfh (t0 : Bool) (a : (List Int)) : Unit → V × Zn
  | r => ((.sl 0 1), [(.arr 1 (List.map Zd a))])
theorem Ze2 {t0 : Bool} {a : (List Int)} : ∀ r, (Zbq a) = some r → evW ctx 74 [(.d (D.list t0 (List.map Zd a)))] [] = some ((Zfh t0 a) r) := by
 show ZD _ (fun r rhs => rhs = some ((Zfh t0 a) r)) _
 unfold Zbq
 rw [Zf1 ctx 74 ZzL _ _ rfl rfl]
 conv => arg 3; whnf
 refine Zc (Zya Zd a) ?_ ?_
 ·conv => arg 3; whnf
  refine Zbb (ZeQ (f := Zd) (fun _ => ⟨rfl, rfl⟩) a 0) ?_
  conv => arg 3; whnf
  refine Zc (Zff Zd a) ?_ ?_
  ·conv => arg 3; whnf
   refine Zl (rfl : _ = List.map Zd a) ?_
   conv => arg 3; whnf
   exact Zb rfl
  ·exact Z8
 ·exact Z8
def ZhG (r : Int) : D := (Zd r)
theorem ZB {t0 : Bool} {t1 : Bool} {t2 : Bool} {t3 : Bool} {a : Int} {b : Int} {c0 : Int} {c1 : Int} {c2 : (List ZF)} {c3 : (List ZK)} {c4 : (List Zp)} {c5 : (List Zo)} : ∀ r, (Zr a b c4) = some r → evD ctx 118 [(.d (Zd a)), (.d (Zd b)), (.d (D.rptr [(Zd c0), (Zd c1), (D.list t0 (List.map ZW c2)), (D.list t1 (List.map ZT c3)), (D.list t2 (List.map Zw c4)), (D.list t3 (List.map Zt c5))]))] = some (ZhG r) := by
 show ZD _ (fun r rhs => rhs = some (ZhG r)) _
 unfold Zr
 rw [Zak ctx 118 Zxc _ rfl rfl]
 conv => arg 3; whnf
 refine Zj rfl rfl fun x0 hx0 => ?_
 conv => arg 3; whnf
 refine Zj rfl rfl fun x1 hx1 => ?_
 conv => arg 3; whnf
 exact Zb rfl
def Zhf (r : Int) : D := (Zd r)
theorem ZkW {a : Int} : ∀ r, (Zgd a) = some r → evD ctx 135 [(.d (D.int .u64 a))] = some (Zhf r) := by
 show ZD _ (fun r rhs => rhs = some (Zhf r)) _
 unfold Zgd
 rw [Zak ctx 135 Zvw _ rfl rfl]
 conv => arg 3; whnf
 refine Zc rfl ?_ ?_
 ·conv => arg 3; whnf
  refine Z1 rfl ?_
  conv => arg 3; whnf
  refine Zc rfl ?_ ?_
  ·conv => arg 3; whnf
   refine Z1 rfl ?_
   conv => arg 3; whnf
   refine Zc rfl ?_ ?_
   ·conv => arg 3; whnf
    refine Z1 rfl ?_
    conv => arg 3; whnf
    refine Zc rfl ?_ ?_
    ·conv => arg 3; whnf
     refine ZgF rfl fun x0 hx0 => ?_
     conv => arg 3; whnf
     exact Zb rfl
    ·exact Z8
   ·conv => arg 3; whnf
    refine Zc rfl ?_ ?_
    ·conv => arg 3; whnf
     refine ZgF rfl fun x1 hx1 => ?_
     conv => arg 3; whnf
     exact Zb rfl
    ·exact Z8
  ·conv => arg 3; whnf
   refine Zc rfl ?_ ?_
   ·conv => arg 3; whnf
    refine Z1 rfl ?_
    conv => arg 3; whnf
    refine Zc rfl ?_ ?_
    ·conv => arg 3; whnf
     refine ZgF rfl fun x2 hx2 => ?_
     conv => arg 3; whnf
     exact Zb rfl
    ·exact Z8
   ·conv => arg 3; whnf
    refine Zc rfl ?_ ?_
    ·conv => arg 3; whnf
     refine ZgF rfl fun x3 hx3 => ?_
     conv => arg 3; whnf
     exact Zb rfl
    ·exact Z8
 ·conv => arg 3; whnf
  refine Zc rfl ?_ ?_
  ·conv => arg 3; whnf
   refine Z1 rfl ?_
   conv => arg 3; whnf
   refine Zc rfl ?_ ?_
   ·conv => arg 3; whnf
    refine Z1 rfl ?_
    conv => arg 3; whnf
    refine Zc rfl ?_ ?_
    ·conv => arg 3; whnf
     refine ZgF rfl fun x4 hx4 => ?_
     conv => arg 3; whnf
     exact Zb rfl
    ·exact Z8
   ·conv => arg 3; whnf
    refine Zc rfl ?_ ?_
    ·conv => arg 3; whnf
     refine ZgF rfl fun x5 hx5 => ?_
     conv => arg 3; whnf
     exact Zb rfl
    ·exact Z8
  ·conv => arg 3; whnf
   refine Zc rfl ?_ ?_
   ·conv => arg 3; whnf
    refine Z1 rfl ?_
    conv => arg 3; whnf
    refine Zc rfl ?_ ?_
    ·conv => arg 3; whnf
     refine ZgF rfl fun x6 hx6 => ?_
     conv => arg 3; whnf
     exact Zb rfl
    ·exact Z8
   ·conv => arg 3; whnf
    refine Zc rfl ?_ ?_
    ·conv => arg 3; whnf
     refine ZgF rfl fun x7 hx7 => ?_
     conv => arg 3; whnf
     exact Zb rfl
    ·exact Z8
def Zh6 (r : Int) : D := (Zd r)
theorem Zhs {a : Int} : ∀ r, (Zd7 a) = some r → evD ctx 125 [(.d (D.int .u64 a))] = some (Zh6 r) := by
 show ZD _ (fun r rhs => rhs = some (Zh6 r)) _
 unfold Zd7
 rw [Zak ctx 125 Zve _ rfl rfl]
 conv => arg 3; whnf
 refine Zh _ ZkW rfl fun x0 hx0 => ?_
 conv => arg 3; whnf
 exact Zb rfl
def ZbB (t0 : Bool) (t1 : Bool) (t2 : Bool) (t3 : Bool) (b : Int) (c : Int) (m0_0 : (List Int)) (m1_0 : Int) (m1_1 : Int) (m1_2 : (List ZF)) (m1_3 : (List ZK)) (m1_4 : (List Zp)) (m1_5 : (List Zo)) : (List Int) → V × Zn
  | r => ((.d (D.tup [])), [(.arr 1 (List.map Zd r)), (.cells [(.d (Zd m1_0)), (.d (Zd m1_1)), (.d (D.list t0 (List.map ZW m1_2))), (.d (D.list t1 (List.map ZT m1_3))), (.d (D.list t2 (List.map Zw m1_4))), (.d (D.list t3 (List.map Zt m1_5)))])])
def Zbj (t0 : Bool) (t1 : Bool) (t2 : Bool) (t3 : Bool) (b : Int) (c : Int) (m1_0 : Int) (m1_1 : Int) (m1_2 : (List ZF)) (m1_3 : (List ZK)) (m1_4 : (List Zp)) (m1_5 : (List Zo)) (s0 : Int × (List Int)) : (List Int) → Ex × List V × Zn
  | r => (.exit 2, [(.sl 0 1), (.d (Zd b)), (.d (Zd c)), (.fn 118 [(.ptr 1 0)]), (.d (Zd s0.1))], [(.arr 1 (List.map Zd r)), (.cells [(.d (Zd m1_0)), (.d (Zd m1_1)), (.d (D.list t0 (List.map ZW m1_2))), (.d (D.list t1 (List.map ZT m1_3))), (.d (D.list t2 (List.map Zw m1_4))), (.d (D.list t3 (List.map Zt m1_5)))])])
theorem ZcZ {t0 : Bool} {t1 : Bool} {t2 : Bool} {t3 : Bool} {b : Int} {c : Int} {m1_0 : Int} {m1_1 : Int} {m1_2 : (List ZF)} {m1_3 : (List ZK)} {m1_4 : (List Zp)} {m1_5 : (List Zo)} {s0 : Int × (List Int)} : ∀ (s1 : Int × (List Int)) (r : (List Int)), lp (ZU b (fun z0 z1 => Zr z0 z1 m1_4)) s1 = some r → lpW ctx 2 [0, 1, 2, 3, 8, 9] [0, 1, 2, 3, 8] ZtF [(.sl 0 1), (.d (Zd b)), (.d (Zd c)), (.fn 118 [(.ptr 1 0)]), (.d (Zd s0.1)), (.d (Zd s1.1))] [(.arr 1 (List.map Zd s1.2)), (.cells [(.d (Zd m1_0)), (.d (Zd m1_1)), (.d (D.list t0 (List.map ZW m1_2))), (.d (D.list t1 (List.map ZT m1_3))), (.d (D.list t2 (List.map Zw m1_4))), (.d (D.list t3 (List.map Zt m1_5)))])] = some ((Zbj t0 t1 t2 t3 b c m1_0 m1_1 m1_2 m1_3 m1_4 m1_5 s0) r) := by
 refine Zaf (Zbj t0 t1 t2 t3 b c m1_0 m1_1 m1_2 m1_3 m1_4 m1_5 s0) ?_
 intro s1 rcl ih
 show ZD _ _ (lpW _ _ _ _ _ _ _)
 unfold ZU
 rw [Zag]
 conv => arg 3; whnf
 refine Zc rfl ?_ ?_
 ·conv => arg 3; whnf
  refine Zj rfl rfl fun x2 hx2 => ?_
  conv => arg 3; whnf
  refine Zg (Zv rfl hx2) ?_
  conv => arg 3; whnf
  refine Zj rfl rfl fun x3 hx3 => ?_
  conv => arg 3; whnf
  refine Zg (Zv rfl hx3) ?_
  conv => arg 3; whnf
  refine Zh _ ZB rfl fun x4 hx4 => ?_
  conv => arg 3; whnf
  refine Zc rfl ?_ ?_
  ·conv => arg 3; whnf
   refine Zg (ZaI rfl hx3) ?_
   conv => arg 3; whnf
   refine Zg (Zv rfl hx3) ?_
   conv => arg 3; whnf
   refine Zg (ZaI rfl hx2) ?_
   conv => arg 3; whnf
   refine Zg (Zv rfl hx2) ?_
   conv => arg 3; whnf
   refine Zg (ZaI rfl hx2) ?_
   conv => arg 3; whnf
   refine Zg (Zv rfl hx2) ?_
   conv => arg 3; whnf
   refine Zl (Zar Zd s1.2 s1.1.toNat x3) ?_
   conv => arg 3; whnf
   refine Zj rfl rfl fun x5 hx5 => ?_
   conv => arg 3; whnf
   refine Zg (Zv rfl hx5) ?_
   conv => arg 3; whnf
   refine Zl (Zar Zd (List.set s1.2 s1.1.toNat x3) (w64 (s1.1 - 1)).toNat x2) ?_
   conv => arg 3; whnf
   exact Ze (ih _)
  ·conv => arg 3; whnf
   exact Zb rfl
 ·conv => arg 3; whnf
  exact Zb rfl
def Zbl (t0 : Bool) (t1 : Bool) (t2 : Bool) (t3 : Bool) (b : Int) (c : Int) (m1_0 : Int) (m1_1 : Int) (m1_2 : (List ZF)) (m1_3 : (List ZK)) (m1_4 : (List Zp)) (m1_5 : (List Zo)) : (List Int) → Ex × List V × Zn
  | r => (.exit 0, [], [(.arr 1 (List.map Zd r)), (.cells [(.d (Zd m1_0)), (.d (Zd m1_1)), (.d (D.list t0 (List.map ZW m1_2))), (.d (D.list t1 (List.map ZT m1_3))), (.d (D.list t2 (List.map Zw m1_4))), (.d (D.list t3 (List.map Zt m1_5)))])])
theorem ZcY {t0 : Bool} {t1 : Bool} {t2 : Bool} {t3 : Bool} {b : Int} {c : Int} {m1_0 : Int} {m1_1 : Int} {m1_2 : (List ZF)} {m1_3 : (List ZK)} {m1_4 : (List Zp)} {m1_5 : (List Zo)} : ∀ (s0 : Int × (List Int)) (r : (List Int)), lp (Zai b c (fun z0 z1 => Zr z0 z1 m1_4)) s0 = some r → lpW ctx 2 [0, 1, 2, 3, 8] [] Ztg [(.sl 0 1), (.d (Zd b)), (.d (Zd c)), (.fn 118 [(.ptr 1 0)]), (.d (Zd s0.1))] [(.arr 1 (List.map Zd s0.2)), (.cells [(.d (Zd m1_0)), (.d (Zd m1_1)), (.d (D.list t0 (List.map ZW m1_2))), (.d (D.list t1 (List.map ZT m1_3))), (.d (D.list t2 (List.map Zw m1_4))), (.d (D.list t3 (List.map Zt m1_5)))])] = some ((Zbl t0 t1 t2 t3 b c m1_0 m1_1 m1_2 m1_3 m1_4 m1_5) r) := by
 refine Zaf (Zbl t0 t1 t2 t3 b c m1_0 m1_1 m1_2 m1_3 m1_4 m1_5) ?_
 intro s0 rcl ih
 show ZD _ _ (lpW _ _ _ _ _ _ _)
 unfold Zai
 rw [Zag]
 conv => arg 3; whnf
 refine Zc rfl ?_ ?_
 ·conv => arg 3; whnf
  refine Zf _ (ZcZ _) fun r6 hr6 => ?_
  conv => arg 3; whnf
  exact Ze (ih _)
 ·conv => arg 3; whnf
  exact Zb rfl
theorem Z5 {t0 : Bool} {t1 : Bool} {t2 : Bool} {t3 : Bool} {b : Int} {c : Int} {m0_0 : (List Int)} {m1_0 : Int} {m1_1 : Int} {m1_2 : (List ZF)} {m1_3 : (List ZK)} {m1_4 : (List Zp)} {m1_5 : (List Zo)} : ∀ r, (ZS b c (fun z0 z1 => Zr z0 z1 m1_4) m0_0) = some r → evW ctx 126 [(.sl 0 1), (.d (Zd b)), (.d (Zd c)), (.fn 118 [(.ptr 1 0)])] [(.arr 1 (List.map Zd m0_0)), (.cells [(.d (Zd m1_0)), (.d (Zd m1_1)), (.d (D.list t0 (List.map ZW m1_2))), (.d (D.list t1 (List.map ZT m1_3))), (.d (D.list t2 (List.map Zw m1_4))), (.d (D.list t3 (List.map Zt m1_5)))])] = some ((ZbB t0 t1 t2 t3 b c m0_0 m1_0 m1_1 m1_2 m1_3 m1_4 m1_5) r) := by
 show ZD _ (fun r rhs => rhs = some ((ZbB t0 t1 t2 t3 b c m0_0 m1_0 m1_1 m1_2 m1_3 m1_4 m1_5) r)) _
 unfold ZS
 rw [Zf1 ctx 126 ZwH _ _ rfl rfl]
 conv => arg 3; whnf
 refine Zf _ (ZcY _) fun r7 hr7 => ?_
 conv => arg 3; whnf
 exact Zb rfl
def Zb4 (t0 : Bool) (t1 : Bool) (t2 : Bool) (t3 : Bool) (b : Int) (c : Int) (d : Int) (m0_0 : (List Int)) (m1_0 : Int) (m1_1 : Int) (m1_2 : (List ZF)) (m1_3 : (List ZK)) (m1_4 : (List Zp)) (m1_5 : (List Zo)) : (List Int) → V × Zn
  | r => ((.d (D.tup [])), [(.arr 1 (List.map Zd r)), (.cells [(.d (Zd m1_0)), (.d (Zd m1_1)), (.d (D.list t0 (List.map ZW m1_2))), (.d (D.list t1 (List.map ZT m1_3))), (.d (D.list t2 (List.map Zw m1_4))), (.d (D.list t3 (List.map Zt m1_5)))])])
def ZbN (t0 : Bool) (t1 : Bool) (t2 : Bool) (t3 : Bool) (c : Int) (d : Int) (m1_0 : Int) (m1_1 : Int) (m1_2 : (List ZF)) (m1_3 : (List ZK)) (m1_4 : (List Zp)) (m1_5 : (List Zo)) : ((List Int) ⊕ (List Int)) → Ex × List V × Zn
  | (.inl r) => (.exit 0, [], [(.arr 1 (List.map Zd r)), (.cells [(.d (Zd m1_0)), (.d (Zd m1_1)), (.d (D.list t0 (List.map ZW m1_2))), (.d (D.list t1 (List.map ZT m1_3))), (.d (D.list t2 (List.map Zw m1_4))), (.d (D.list t3 (List.map Zt m1_5)))])])
  | (.inr r) => (.ret, [], [(.arr 1 (List.map Zd r)), (.cells [(.d (Zd m1_0)), (.d (Zd m1_1)), (.d (D.list t0 (List.map ZW m1_2))), (.d (D.list t1 (List.map ZT m1_3))), (.d (D.list t2 (List.map Zw m1_4))), (.d (D.list t3 (List.map Zt m1_5)))])])
theorem ZdS {t0 : Bool} {t1 : Bool} {t2 : Bool} {t3 : Bool} {c : Int} {d : Int} {m1_0 : Int} {m1_1 : Int} {m1_2 : (List ZF)} {m1_3 : (List ZK)} {m1_4 : (List Zp)} {m1_5 : (List Zo)} : ∀ (s0 : Int × (List Int)) (r : ((List Int) ⊕ (List Int))), lp (ZG c d (fun z0 z1 => Zr z0 z1 m1_4)) s0 = some r → lpW ctx 2 [0, 2, 3, 4, 10] [] Zto [(.sl 0 1), (.d (Zd c)), (.d (Zd d)), (.fn 118 [(.ptr 1 0)]), (.d (Zd s0.1))] [(.arr 1 (List.map Zd s0.2)), (.cells [(.d (Zd m1_0)), (.d (Zd m1_1)), (.d (D.list t0 (List.map ZW m1_2))), (.d (D.list t1 (List.map ZT m1_3))), (.d (D.list t2 (List.map Zw m1_4))), (.d (D.list t3 (List.map Zt m1_5)))])] = some ((ZbN t0 t1 t2 t3 c d m1_0 m1_1 m1_2 m1_3 m1_4 m1_5) r) := by
 refine Zaf (ZbN t0 t1 t2 t3 c d m1_0 m1_1 m1_2 m1_3 m1_4 m1_5) ?_
 intro s0 rcl ih
 show ZD _ _ (lpW _ _ _ _ _ _ _)
 unfold ZG
 rw [Zag]
 conv => arg 3; whnf
 refine Zc rfl ?_ ?_
 ·conv => arg 3; whnf
  exact Zb rfl
 ·conv => arg 3; whnf
  refine Zc rfl ?_ ?_
  ·conv => arg 3; whnf
   refine Zj rfl rfl fun x1 hx1 => ?_
   conv => arg 3; whnf
   refine Zg (Zv rfl hx1) ?_
   conv => arg 3; whnf
   refine Zj rfl rfl fun x2 hx2 => ?_
   conv => arg 3; whnf
   refine Zg (Zv rfl hx2) ?_
   conv => arg 3; whnf
   refine Zh _ ZB rfl fun x3 hx3 => ?_
   conv => arg 3; whnf
   refine Zc rfl ?_ ?_
   ·conv => arg 3; whnf
    refine Zj rfl rfl fun x4 hx4 => ?_
    conv => arg 3; whnf
    refine Zg (Zv rfl hx4) ?_
    conv => arg 3; whnf
    refine Zj rfl rfl fun x5 hx5 => ?_
    conv => arg 3; whnf
    refine Zg (Zv rfl hx5) ?_
    conv => arg 3; whnf
    refine Zh _ ZB rfl fun x6 hx6 => ?_
    conv => arg 3; whnf
    refine Zc rfl ?_ ?_
    ·conv => arg 3; whnf
     refine Zg (ZaI rfl hx5) ?_
     conv => arg 3; whnf
     refine Zg (Zv rfl hx5) ?_
     conv => arg 3; whnf
     refine Zg (ZaI rfl hx4) ?_
     conv => arg 3; whnf
     refine Zg (Zv rfl hx4) ?_
     conv => arg 3; whnf
     refine Zg (ZaI rfl hx4) ?_
     conv => arg 3; whnf
     refine Zg (Zv rfl hx4) ?_
     conv => arg 3; whnf
     refine Zl (Zar Zd s0.2 (w64 (d + s0.1)).toNat x5) ?_
     conv => arg 3; whnf
     refine Zj rfl rfl fun x7 hx7 => ?_
     conv => arg 3; whnf
     refine Zg (Zv rfl hx7) ?_
     conv => arg 3; whnf
     refine Zl (Zar Zd (List.set s0.2 (w64 (d + s0.1)).toNat x5) (w64 (d + (w64 ((w64 ((w64 (2 * s0.1)) + 1)) + 1)))).toNat x4) ?_
     conv => arg 3; whnf
     exact Ze (ih _)
    ·conv => arg 3; whnf
     exact Zb rfl
   ·conv => arg 3; whnf
    refine Zj rfl rfl fun x8 hx8 => ?_
    conv => arg 3; whnf
    refine Zg (Zv rfl hx8) ?_
    conv => arg 3; whnf
    refine Zg (ZaI rfl hx1) ?_
    conv => arg 3; whnf
    refine Zg (Zv rfl hx1) ?_
    conv => arg 3; whnf
    refine Zh _ ZB rfl fun x9 hx9 => ?_
    conv => arg 3; whnf
    refine Zc rfl ?_ ?_
    ·conv => arg 3; whnf
     refine Zg (ZaI rfl hx1) ?_
     conv => arg 3; whnf
     refine Zg (Zv rfl hx1) ?_
     conv => arg 3; whnf
     refine Zg (ZaI rfl hx8) ?_
     conv => arg 3; whnf
     refine Zg (Zv rfl hx8) ?_
     conv => arg 3; whnf
     refine Zg (ZaI rfl hx8) ?_
     conv => arg 3; whnf
     refine Zg (Zv rfl hx8) ?_
     conv => arg 3; whnf
     refine Zl (Zar Zd s0.2 (w64 (d + s0.1)).toNat x1) ?_
     conv => arg 3; whnf
     refine Zj rfl rfl fun x10 hx10 => ?_
     conv => arg 3; whnf
     refine Zg (Zv rfl hx10) ?_
     conv => arg 3; whnf
     refine Zl (Zar Zd (List.set s0.2 (w64 (d + s0.1)).toNat x1) (w64 (d + (w64 ((w64 (2 * s0.1)) + 1)))).toNat x8) ?_
     conv => arg 3; whnf
     exact Ze (ih _)
    ·conv => arg 3; whnf
     exact Zb rfl
  ·conv => arg 3; whnf
   refine Zj rfl rfl fun x11 hx11 => ?_
   conv => arg 3; whnf
   refine Zg (Zv rfl hx11) ?_
   conv => arg 3; whnf
   refine Zj rfl rfl fun x12 hx12 => ?_
   conv => arg 3; whnf
   refine Zg (Zv rfl hx12) ?_
   conv => arg 3; whnf
   refine Zh _ ZB rfl fun x13 hx13 => ?_
   conv => arg 3; whnf
   refine Zc rfl ?_ ?_
   ·conv => arg 3; whnf
    refine Zg (ZaI rfl hx12) ?_
    conv => arg 3; whnf
    refine Zg (Zv rfl hx12) ?_
    conv => arg 3; whnf
    refine Zg (ZaI rfl hx11) ?_
    conv => arg 3; whnf
    refine Zg (Zv rfl hx11) ?_
    conv => arg 3; whnf
    refine Zg (ZaI rfl hx11) ?_
    conv => arg 3; whnf
    refine Zg (Zv rfl hx11) ?_
    conv => arg 3; whnf
    refine Zl (Zar Zd s0.2 (w64 (d + s0.1)).toNat x12) ?_
    conv => arg 3; whnf
    refine Zj rfl rfl fun x14 hx14 => ?_
    conv => arg 3; whnf
    refine Zg (Zv rfl hx14) ?_
    conv => arg 3; whnf
    refine Zl (Zar Zd (List.set s0.2 (w64 (d + s0.1)).toNat x12) (w64 (d + (w64 ((w64 (2 * s0.1)) + 1)))).toNat x11) ?_
    conv => arg 3; whnf
    exact Ze (ih _)
   ·conv => arg 3; whnf
    exact Zb rfl
theorem Zb1 {t0 : Bool} {t1 : Bool} {t2 : Bool} {t3 : Bool} {b : Int} {c : Int} {d : Int} {m0_0 : (List Int)} {m1_0 : Int} {m1_1 : Int} {m1_2 : (List ZF)} {m1_3 : (List ZK)} {m1_4 : (List Zp)} {m1_5 : (List Zo)} : ∀ r, (ZaA b c d (fun z0 z1 => Zr z0 z1 m1_4) m0_0) = some r → evW ctx 136 [(.sl 0 1), (.d (Zd b)), (.d (Zd c)), (.d (Zd d)), (.fn 118 [(.ptr 1 0)])] [(.arr 1 (List.map Zd m0_0)), (.cells [(.d (Zd m1_0)), (.d (Zd m1_1)), (.d (D.list t0 (List.map ZW m1_2))), (.d (D.list t1 (List.map ZT m1_3))), (.d (D.list t2 (List.map Zw m1_4))), (.d (D.list t3 (List.map Zt m1_5)))])] = some ((Zb4 t0 t1 t2 t3 b c d m0_0 m1_0 m1_1 m1_2 m1_3 m1_4 m1_5) r) := by
 show ZD _ (fun r rhs => rhs = some ((Zb4 t0 t1 t2 t3 b c d m0_0 m1_0 m1_1 m1_2 m1_3 m1_4 m1_5) r)) _
 unfold ZaA
 rw [Zf1 ctx 136 Zxh _ _ rfl rfl]
 conv => arg 3; whnf
 refine Zf _ (ZdS _) fun r15 hr15 => ?_
 clear hr15
 rcases r15 with r15 | r15
 ·conv => arg 3; whnf
  exact Zb rfl
 ·conv => arg 3; whnf
  exact Zb rfl
def Zb7 (t0 : Bool) (t1 : Bool) (t2 : Bool) (t3 : Bool) (b : Int) (c : Int) (m0_0 : (List Int)) (m1_0 : Int) (m1_1 : Int) (m1_2 : (List ZF)) (m1_3 : (List ZK)) (m1_4 : (List Zp)) (m1_5 : (List Zo)) : (List Int) → V × Zn
  | r => ((.d (D.tup [])), [(.arr 1 (List.map Zd r)), (.cells [(.d (Zd m1_0)), (.d (Zd m1_1)), (.d (D.list t0 (List.map ZW m1_2))), (.d (D.list t1 (List.map ZT m1_3))), (.d (D.list t2 (List.map Zw m1_4))), (.d (D.list t3 (List.map Zt m1_5)))])])
def ZbL (t0 : Bool) (t1 : Bool) (t2 : Bool) (t3 : Bool) (b : Int) (c : Int) (m1_0 : Int) (m1_1 : Int) (m1_2 : (List ZF)) (m1_3 : (List ZK)) (m1_4 : (List Zp)) (m1_5 : (List Zo)) : (List Int) → Ex × List V × Zn
  | r => (.exit 0, [(.sl 0 1), (.fn 118 [(.ptr 1 0)]), (.d (Zd b)), (.d (Zd 0)), (.d (Zd (w64 (c - b))))], [(.arr 1 (List.map Zd r)), (.cells [(.d (Zd m1_0)), (.d (Zd m1_1)), (.d (D.list t0 (List.map ZW m1_2))), (.d (D.list t1 (List.map ZT m1_3))), (.d (D.list t2 (List.map Zw m1_4))), (.d (D.list t3 (List.map Zt m1_5)))])])
theorem ZdT {t0 : Bool} {t1 : Bool} {t2 : Bool} {t3 : Bool} {b : Int} {c : Int} {m1_0 : Int} {m1_1 : Int} {m1_2 : (List ZF)} {m1_3 : (List ZK)} {m1_4 : (List Zp)} {m1_5 : (List Zo)} : ∀ (s0 : Int × (List Int)) (r : (List Int)), lp (ZaE b c (fun z0 z1 => Zr z0 z1 m1_4)) s0 = some r → lpW ctx 2 [0, 3, 8, 9, 10, 11] [0, 3, 8, 9, 10] ZtC [(.sl 0 1), (.fn 118 [(.ptr 1 0)]), (.d (Zd b)), (.d (Zd 0)), (.d (Zd (w64 (c - b)))), (.d (Zd s0.1))] [(.arr 1 (List.map Zd s0.2)), (.cells [(.d (Zd m1_0)), (.d (Zd m1_1)), (.d (D.list t0 (List.map ZW m1_2))), (.d (D.list t1 (List.map ZT m1_3))), (.d (D.list t2 (List.map Zw m1_4))), (.d (D.list t3 (List.map Zt m1_5)))])] = some ((ZbL t0 t1 t2 t3 b c m1_0 m1_1 m1_2 m1_3 m1_4 m1_5) r) := by
 refine Zaf (ZbL t0 t1 t2 t3 b c m1_0 m1_1 m1_2 m1_3 m1_4 m1_5) ?_
 intro s0 rcl ih
 show ZD _ _ (lpW _ _ _ _ _ _ _)
 unfold ZaE
 rw [Zag]
 conv => arg 3; whnf
 refine Zc rfl ?_ ?_
 ·conv => arg 3; whnf
  refine Zf _ Zb1 fun x1 hx1 => ?_
  conv => arg 3; whnf
  exact Ze (ih _)
 ·conv => arg 3; whnf
  exact Zb rfl
def ZbP (t0 : Bool) (t1 : Bool) (t2 : Bool) (t3 : Bool) (b : Int) (m1_0 : Int) (m1_1 : Int) (m1_2 : (List ZF)) (m1_3 : (List ZK)) (m1_4 : (List Zp)) (m1_5 : (List Zo)) : (List Int) → Ex × List V × Zn
  | r => (.exit 2, [], [(.arr 1 (List.map Zd r)), (.cells [(.d (Zd m1_0)), (.d (Zd m1_1)), (.d (D.list t0 (List.map ZW m1_2))), (.d (D.list t1 (List.map ZT m1_3))), (.d (D.list t2 (List.map Zw m1_4))), (.d (D.list t3 (List.map Zt m1_5)))])])
theorem ZdP {t0 : Bool} {t1 : Bool} {t2 : Bool} {t3 : Bool} {b : Int} {m1_0 : Int} {m1_1 : Int} {m1_2 : (List ZF)} {m1_3 : (List ZK)} {m1_4 : (List Zp)} {m1_5 : (List Zo)} : ∀ (s3 : Int × (List Int)) (r : (List Int)), lp (ZaD b (fun z0 z1 => Zr z0 z1 m1_4)) s3 = some r → lpW ctx 2 [0, 3, 8, 9, 12] [] Zt5 [(.sl 0 1), (.fn 118 [(.ptr 1 0)]), (.d (Zd b)), (.d (Zd 0)), (.d (Zd s3.1))] [(.arr 1 (List.map Zd s3.2)), (.cells [(.d (Zd m1_0)), (.d (Zd m1_1)), (.d (D.list t0 (List.map ZW m1_2))), (.d (D.list t1 (List.map ZT m1_3))), (.d (D.list t2 (List.map Zw m1_4))), (.d (D.list t3 (List.map Zt m1_5)))])] = some ((ZbP t0 t1 t2 t3 b m1_0 m1_1 m1_2 m1_3 m1_4 m1_5) r) := by
 refine Zaf (ZbP t0 t1 t2 t3 b m1_0 m1_1 m1_2 m1_3 m1_4 m1_5) ?_
 intro s3 rcl ih
 show ZD _ _ (lpW _ _ _ _ _ _ _)
 unfold ZaD
 rw [Zag]
 conv => arg 3; whnf
 refine Zc rfl ?_ ?_
 ·conv => arg 3; whnf
  refine Zj rfl rfl fun x4 hx4 => ?_
  conv => arg 3; whnf
  refine Zg (Zv rfl hx4) ?_
  conv => arg 3; whnf
  refine Zj rfl rfl fun x5 hx5 => ?_
  conv => arg 3; whnf
  refine Zg (Zv rfl hx5) ?_
  conv => arg 3; whnf
  refine Zg (ZaI rfl hx5) ?_
  conv => arg 3; whnf
  refine Zg (Zv rfl hx5) ?_
  conv => arg 3; whnf
  refine Zl (Zar Zd s3.2 b.toNat x4) ?_
  conv => arg 3; whnf
  refine Zj rfl rfl fun x6 hx6 => ?_
  conv => arg 3; whnf
  refine Zg (Zv rfl hx6) ?_
  conv => arg 3; whnf
  refine Zl (Zar Zd (List.set s3.2 b.toNat x4) (w64 (b + s3.1)).toNat x5) ?_
  conv => arg 3; whnf
  refine Zf _ Zb1 fun x7 hx7 => ?_
  conv => arg 3; whnf
  exact Ze (ih _)
 ·conv => arg 3; whnf
  exact Zb rfl
theorem Zao {t0 : Bool} {t1 : Bool} {t2 : Bool} {t3 : Bool} {b : Int} {c : Int} {m0_0 : (List Int)} {m1_0 : Int} {m1_1 : Int} {m1_2 : (List ZF)} {m1_3 : (List ZK)} {m1_4 : (List Zp)} {m1_5 : (List Zo)} : ∀ r, (Z3 b c (fun z0 z1 => Zr z0 z1 m1_4) m0_0) = some r → evW ctx 127 [(.sl 0 1), (.d (Zd b)), (.d (Zd c)), (.fn 118 [(.ptr 1 0)])] [(.arr 1 (List.map Zd m0_0)), (.cells [(.d (Zd m1_0)), (.d (Zd m1_1)), (.d (D.list t0 (List.map ZW m1_2))), (.d (D.list t1 (List.map ZT m1_3))), (.d (D.list t2 (List.map Zw m1_4))), (.d (D.list t3 (List.map Zt m1_5)))])] = some ((Zb7 t0 t1 t2 t3 b c m0_0 m1_0 m1_1 m1_2 m1_3 m1_4 m1_5) r) := by
 show ZD _ (fun r rhs => rhs = some ((Zb7 t0 t1 t2 t3 b c m0_0 m1_0 m1_1 m1_2 m1_3 m1_4 m1_5) r)) _
 unfold Z3
 rw [Zf1 ctx 127 Zwq _ _ rfl rfl]
 conv => arg 3; whnf
 refine Z1 rfl ?_
 conv => arg 3; whnf
 refine Zf _ (ZdT _) fun r2 hr2 => ?_
 conv => arg 3; whnf
 refine Zf _ (ZdP _) fun r8 hr8 => ?_
 conv => arg 3; whnf
 exact Zb rfl
def Zcl (t0 : Bool) (t1 : Bool) (t2 : Bool) (t3 : Bool) (b : Int) (c : Int) (m0_0 : (List Int)) (m1_0 : Int) (m2_0 : Int) (m2_1 : Int) (m2_2 : (List ZF)) (m2_3 : (List ZK)) (m2_4 : (List Zp)) (m2_5 : (List Zo)) : (Int × Int × Int) → V × Zn
  | r => ((.d (D.tup [(Zd r.1), (Zd r.2.1)])), [(.arr 1 (List.map Zd m0_0)), (.cells [(.d (Zd r.2.2))]), (.cells [(.d (Zd m2_0)), (.d (Zd m2_1)), (.d (D.list t0 (List.map ZW m2_2))), (.d (D.list t1 (List.map ZT m2_3))), (.d (D.list t2 (List.map Zw m2_4))), (.d (D.list t3 (List.map Zt m2_5)))])])
theorem Za2 {t0 : Bool} {t1 : Bool} {t2 : Bool} {t3 : Bool} {b : Int} {c : Int} {m0_0 : (List Int)} {m1_0 : Int} {m2_0 : Int} {m2_1 : Int} {m2_2 : (List ZF)} {m2_3 : (List ZK)} {m2_4 : (List Zp)} {m2_5 : (List Zo)} : ∀ r, (ZaK b c (fun z0 z1 => Zr z0 z1 m2_4) m0_0 m1_0) = some r → evW ctx 141 [(.sl 0 1), (.d (Zd b)), (.d (Zd c)), (.ptr 1 0), (.fn 118 [(.ptr 2 0)])] [(.arr 1 (List.map Zd m0_0)), (.cells [(.d (Zd m1_0))]), (.cells [(.d (Zd m2_0)), (.d (Zd m2_1)), (.d (D.list t0 (List.map ZW m2_2))), (.d (D.list t1 (List.map ZT m2_3))), (.d (D.list t2 (List.map Zw m2_4))), (.d (D.list t3 (List.map Zt m2_5)))])] = some ((Zcl t0 t1 t2 t3 b c m0_0 m1_0 m2_0 m2_1 m2_2 m2_3 m2_4 m2_5) r) := by
 show ZD _ (fun r rhs => rhs = some ((Zcl t0 t1 t2 t3 b c m0_0 m1_0 m2_0 m2_1 m2_2 m2_3 m2_4 m2_5) r)) _
 unfold ZaK
 rw [Zf1 ctx 141 Zwj _ _ rfl rfl]
 conv => arg 3; whnf
 refine Zj rfl rfl fun x0 hx0 => ?_
 conv => arg 3; whnf
 refine Zg (Zv rfl hx0) ?_
 conv => arg 3; whnf
 refine Zj rfl rfl fun x1 hx1 => ?_
 conv => arg 3; whnf
 refine Zg (Zv rfl hx1) ?_
 conv => arg 3; whnf
 refine Zh _ ZB rfl fun x2 hx2 => ?_
 conv => arg 3; whnf
 refine Zc rfl ?_ ?_
 ·conv => arg 3; whnf
  exact Zb rfl
 ·conv => arg 3; whnf
  exact Zb rfl
def Zch (t0 : Bool) (t1 : Bool) (t2 : Bool) (t3 : Bool) (b : Int) (c : Int) (d : Int) (m0_0 : (List Int)) (m1_0 : Int) (m2_0 : Int) (m2_1 : Int) (m2_2 : (List ZF)) (m2_3 : (List ZK)) (m2_4 : (List Zp)) (m2_5 : (List Zo)) : (Int × Int) → V × Zn
  | r => ((.d (Zd r.1)), [(.arr 1 (List.map Zd m0_0)), (.cells [(.d (Zd r.2))]), (.cells [(.d (Zd m2_0)), (.d (Zd m2_1)), (.d (D.list t0 (List.map ZW m2_2))), (.d (D.list t1 (List.map ZT m2_3))), (.d (D.list t2 (List.map Zw m2_4))), (.d (D.list t3 (List.map Zt m2_5)))])])
theorem Za3 {t0 : Bool} {t1 : Bool} {t2 : Bool} {t3 : Bool} {b : Int} {c : Int} {d : Int} {m0_0 : (List Int)} {m1_0 : Int} {m2_0 : Int} {m2_1 : Int} {m2_2 : (List ZF)} {m2_3 : (List ZK)} {m2_4 : (List Zp)} {m2_5 : (List Zo)} : ∀ r, (ZaL b c d (fun z0 z1 => Zr z0 z1 m2_4) m0_0 m1_0) = some r → evW ctx 140 [(.sl 0 1), (.d (Zd b)), (.d (Zd c)), (.d (Zd d)), (.ptr 1 0), (.fn 118 [(.ptr 2 0)])] [(.arr 1 (List.map Zd m0_0)), (.cells [(.d (Zd m1_0))]), (.cells [(.d (Zd m2_0)), (.d (Zd m2_1)), (.d (D.list t0 (List.map ZW m2_2))), (.d (D.list t1 (List.map ZT m2_3))), (.d (D.list t2 (List.map Zw m2_4))), (.d (D.list t3 (List.map Zt m2_5)))])] = some ((Zch t0 t1 t2 t3 b c d m0_0 m1_0 m2_0 m2_1 m2_2 m2_3 m2_4 m2_5) r) := by
 show ZD _ (fun r rhs => rhs = some ((Zch t0 t1 t2 t3 b c d m0_0 m1_0 m2_0 m2_1 m2_2 m2_3 m2_4 m2_5) r)) _
 unfold ZaL
 rw [Zf1 ctx 140 Zvl _ _ rfl rfl]
 conv => arg 3; whnf
 refine Zf _ Za2 fun x0 hx0 => ?_
 conv => arg 3; whnf
 refine Zf _ Za2 fun x1 hx1 => ?_
 conv => arg 3; whnf
 refine Zf _ Za2 fun x2 hx2 => ?_
 conv => arg 3; whnf
 exact Zb rfl
def Zbv (t0 : Bool) (t1 : Bool) (t2 : Bool) (t3 : Bool) (b : Int) (m0_0 : (List Int)) (m1_0 : Int) (m2_0 : Int) (m2_1 : Int) (m2_2 : (List ZF)) (m2_3 : (List ZK)) (m2_4 : (List Zp)) (m2_5 : (List Zo)) : (Int × Int) → V × Zn
  | r => ((.d (Zd r.1)), [(.arr 1 (List.map Zd m0_0)), (.cells [(.d (Zd r.2))]), (.cells [(.d (Zd m2_0)), (.d (Zd m2_1)), (.d (D.list t0 (List.map ZW m2_2))), (.d (D.list t1 (List.map ZT m2_3))), (.d (D.list t2 (List.map Zw m2_4))), (.d (D.list t3 (List.map Zt m2_5)))])])
theorem ZaB {t0 : Bool} {t1 : Bool} {t2 : Bool} {t3 : Bool} {b : Int} {m0_0 : (List Int)} {m1_0 : Int} {m2_0 : Int} {m2_1 : Int} {m2_2 : (List ZF)} {m2_3 : (List ZK)} {m2_4 : (List Zp)} {m2_5 : (List Zo)} : ∀ r, (Z4 b (fun z0 z1 => Zr z0 z1 m2_4) m0_0 m1_0) = some r → evW ctx 139 [(.sl 0 1), (.d (Zd b)), (.ptr 1 0), (.fn 118 [(.ptr 2 0)])] [(.arr 1 (List.map Zd m0_0)), (.cells [(.d (Zd m1_0))]), (.cells [(.d (Zd m2_0)), (.d (Zd m2_1)), (.d (D.list t0 (List.map ZW m2_2))), (.d (D.list t1 (List.map ZT m2_3))), (.d (D.list t2 (List.map Zw m2_4))), (.d (D.list t3 (List.map Zt m2_5)))])] = some ((Zbv t0 t1 t2 t3 b m0_0 m1_0 m2_0 m2_1 m2_2 m2_3 m2_4 m2_5) r) := by
 show ZD _ (fun r rhs => rhs = some ((Zbv t0 t1 t2 t3 b m0_0 m1_0 m2_0 m2_1 m2_2 m2_3 m2_4 m2_5) r)) _
 unfold Z4
 rw [Zf1 ctx 139 ZwR _ _ rfl rfl]
 conv => arg 3; whnf
 refine Zf _ Za3 fun x0 hx0 => ?_
 conv => arg 3; whnf
 exact Zb rfl
def ZbM (t0 : Bool) (t1 : Bool) (t2 : Bool) (t3 : Bool) (b : Int) (c : Int) (m0_0 : (List Int)) (m1_0 : Int) (m1_1 : Int) (m1_2 : (List ZF)) (m1_3 : (List ZK)) (m1_4 : (List Zp)) (m1_5 : (List Zo)) : (Int × Int) → V × Zn
  | r => ((.d (D.tup [(Zd r.1), (Zd r.2)])), [(.arr 1 (List.map Zd m0_0)), (.cells [(.d (Zd m1_0)), (.d (Zd m1_1)), (.d (D.list t0 (List.map ZW m1_2))), (.d (D.list t1 (List.map ZT m1_3))), (.d (D.list t2 (List.map Zw m1_4))), (.d (D.list t3 (List.map Zt m1_5)))])])
theorem Zae {t0 : Bool} {t1 : Bool} {t2 : Bool} {t3 : Bool} {b : Int} {c : Int} {m0_0 : (List Int)} {m1_0 : Int} {m1_1 : Int} {m1_2 : (List ZF)} {m1_3 : (List ZK)} {m1_4 : (List Zp)} {m1_5 : (List Zo)} : ∀ r, (ZL b c (fun z0 z1 => Zr z0 z1 m1_4) m0_0) = some r → evW ctx 129 [(.sl 0 1), (.d (Zd b)), (.d (Zd c)), (.fn 118 [(.ptr 1 0)])] [(.arr 1 (List.map Zd m0_0)), (.cells [(.d (Zd m1_0)), (.d (Zd m1_1)), (.d (D.list t0 (List.map ZW m1_2))), (.d (D.list t1 (List.map ZT m1_3))), (.d (D.list t2 (List.map Zw m1_4))), (.d (D.list t3 (List.map Zt m1_5)))])] = some ((ZbM t0 t1 t2 t3 b c m0_0 m1_0 m1_1 m1_2 m1_3 m1_4 m1_5) r) := by
 show ZD _ (fun r rhs => rhs = some ((ZbM t0 t1 t2 t3 b c m0_0 m1_0 m1_1 m1_2 m1_3 m1_4 m1_5) r)) _
 unfold ZL
 rw [Zf1 ctx 129 Zva _ _ rfl rfl]
 conv => arg 3; whnf
 refine Z1 rfl ?_
 conv => arg 3; whnf
 refine Z1 rfl ?_
 conv => arg 3; whnf
 refine Z1 rfl ?_
 conv => arg 3; whnf
 refine Zc rfl ?_ ?_
 ·conv => arg 3; whnf
  refine Zc rfl ?_ ?_
  ·conv => arg 3; whnf
   refine Zf _ ZaB fun x0 hx0 => ?_
   conv => arg 3; whnf
   refine Zf _ ZaB fun x1 hx1 => ?_
   conv => arg 3; whnf
   refine Zf _ ZaB fun x2 hx2 => ?_
   conv => arg 3; whnf
   refine Zf _ Za3 fun x3 hx3 => ?_
   conv => arg 3; whnf
   refine Zc rfl ?_ ?_
   ·conv => arg 3; whnf
    exact Zb rfl
   ·conv => arg 3; whnf
    refine Zc rfl ?_ ?_
    ·conv => arg 3; whnf
     exact Zb rfl
    ·conv => arg 3; whnf
     exact Zb rfl
  ·conv => arg 3; whnf
   refine Zf _ Za3 fun x4 hx4 => ?_
   conv => arg 3; whnf
   refine Zc rfl ?_ ?_
   ·conv => arg 3; whnf
    exact Zb rfl
   ·conv => arg 3; whnf
    refine Zc rfl ?_ ?_
    ·conv => arg 3; whnf
     exact Zb rfl
    ·conv => arg 3; whnf
     exact Zb rfl
 ·conv => arg 3; whnf
  refine Zbb rfl ?_
  conv => arg 3; whnf
  exact Zb rfl
def ZbG (t0 : Bool) (t1 : Bool) (t2 : Bool) (t3 : Bool) (b : Int) (c : Int) (m0_0 : (List Int)) (m1_0 : Int) (m1_1 : Int) (m1_2 : (List ZF)) (m1_3 : (List ZK)) (m1_4 : (List Zp)) (m1_5 : (List Zo)) : (List Int) → V × Zn
  | r => ((.d (D.tup [])), [(.arr 1 (List.map Zd r)), (.cells [(.d (Zd m1_0)), (.d (Zd m1_1)), (.d (D.list t0 (List.map ZW m1_2))), (.d (D.list t1 (List.map ZT m1_3))), (.d (D.list t2 (List.map Zw m1_4))), (.d (D.list t3 (List.map Zt m1_5)))])])
def Zbs (t0 : Bool) (t1 : Bool) (t2 : Bool) (t3 : Bool) (m1_0 : Int) (m1_1 : Int) (m1_2 : (List ZF)) (m1_3 : (List ZK)) (m1_4 : (List Zp)) (m1_5 : (List Zo)) : (List Int) → Ex × List V × Zn
  | r => (.exit 0, [], [(.arr 1 (List.map Zd r)), (.cells [(.d (Zd m1_0)), (.d (Zd m1_1)), (.d (D.list t0 (List.map ZW m1_2))), (.d (D.list t1 (List.map ZT m1_3))), (.d (D.list t2 (List.map Zw m1_4))), (.d (D.list t3 (List.map Zt m1_5)))])])
theorem Zdb {t0 : Bool} {t1 : Bool} {t2 : Bool} {t3 : Bool} {m1_0 : Int} {m1_1 : Int} {m1_2 : (List ZF)} {m1_3 : (List ZK)} {m1_4 : (List Zp)} {m1_5 : (List Zo)} : ∀ (s0 : Int × Int × (List Int)) (r : (List Int)), lp (Z2) s0 = some r → lpW ctx 2 [0, 8, 9] [] Ztp [(.sl 0 1), (.d (Zd s0.1)), (.d (Zd s0.2.1))] [(.arr 1 (List.map Zd s0.2.2)), (.cells [(.d (Zd m1_0)), (.d (Zd m1_1)), (.d (D.list t0 (List.map ZW m1_2))), (.d (D.list t1 (List.map ZT m1_3))), (.d (D.list t2 (List.map Zw m1_4))), (.d (D.list t3 (List.map Zt m1_5)))])] = some ((Zbs t0 t1 t2 t3 m1_0 m1_1 m1_2 m1_3 m1_4 m1_5) r) := by
 refine Zaf (Zbs t0 t1 t2 t3 m1_0 m1_1 m1_2 m1_3 m1_4 m1_5) ?_
 intro s0 rcl ih
 show ZD _ _ (lpW _ _ _ _ _ _ _)
 unfold Z2
 rw [Zag]
 conv => arg 3; whnf
 refine Zc rfl ?_ ?_
 ·conv => arg 3; whnf
  refine Zj rfl rfl fun x1 hx1 => ?_
  conv => arg 3; whnf
  refine Zg (Zv rfl hx1) ?_
  conv => arg 3; whnf
  refine Zj rfl rfl fun x2 hx2 => ?_
  conv => arg 3; whnf
  refine Zg (Zv rfl hx2) ?_
  conv => arg 3; whnf
  refine Zg (ZaI rfl hx2) ?_
  conv => arg 3; whnf
  refine Zg (Zv rfl hx2) ?_
  conv => arg 3; whnf
  refine Zl (Zar Zd s0.2.2 s0.1.toNat x1) ?_
  conv => arg 3; whnf
  refine Zj rfl rfl fun x3 hx3 => ?_
  conv => arg 3; whnf
  refine Zg (Zv rfl hx3) ?_
  conv => arg 3; whnf
  refine Zl (Zar Zd (List.set s0.2.2 s0.1.toNat x1) s0.2.1.toNat x2) ?_
  conv => arg 3; whnf
  exact Ze (ih _)
 ·conv => arg 3; whnf
  exact Zb rfl
theorem Zaa {t0 : Bool} {t1 : Bool} {t2 : Bool} {t3 : Bool} {b : Int} {c : Int} {m0_0 : (List Int)} {m1_0 : Int} {m1_1 : Int} {m1_2 : (List ZF)} {m1_3 : (List ZK)} {m1_4 : (List Zp)} {m1_5 : (List Zo)} : ∀ r, (ZJ b c (fun z0 z1 => Zr z0 z1 m1_4) m0_0) = some r → evW ctx 130 [(.sl 0 1), (.d (Zd b)), (.d (Zd c)), (.fn 118 [(.ptr 1 0)])] [(.arr 1 (List.map Zd m0_0)), (.cells [(.d (Zd m1_0)), (.d (Zd m1_1)), (.d (D.list t0 (List.map ZW m1_2))), (.d (D.list t1 (List.map ZT m1_3))), (.d (D.list t2 (List.map Zw m1_4))), (.d (D.list t3 (List.map Zt m1_5)))])] = some ((ZbG t0 t1 t2 t3 b c m0_0 m1_0 m1_1 m1_2 m1_3 m1_4 m1_5) r) := by
 show ZD _ (fun r rhs => rhs = some ((ZbG t0 t1 t2 t3 b c m0_0 m1_0 m1_1 m1_2 m1_3 m1_4 m1_5) r)) _
 unfold ZJ
 rw [Zf1 ctx 130 Zwt _ _ rfl rfl]
 conv => arg 3; whnf
 refine Zf _ (Zdb _) fun r4 hr4 => ?_
 conv => arg 3; whnf
 exact Zb rfl
def Za8 (t0 : Bool) (t1 : Bool) (t2 : Bool) (t3 : Bool) (b : Int) (c : Int) (m0_0 : (List Int)) (m1_0 : Int) (m1_1 : Int) (m1_2 : (List ZF)) (m1_3 : (List ZK)) (m1_4 : (List Zp)) (m1_5 : (List Zo)) : ((List Int) ⊕ (List Int)) → V × Zn
  | (.inl r) => ((.d (D.bool true)), [(.arr 1 (List.map Zd r)), (.cells [(.d (Zd m1_0)), (.d (Zd m1_1)), (.d (D.list t0 (List.map ZW m1_2))), (.d (D.list t1 (List.map ZT m1_3))), (.d (D.list t2 (List.map Zw m1_4))), (.d (D.list t3 (List.map Zt m1_5)))])])
  | (.inr r) => ((.d (D.bool false)), [(.arr 1 (List.map Zd r)), (.cells [(.d (Zd m1_0)), (.d (Zd m1_1)), (.d (D.list t0 (List.map ZW m1_2))), (.d (D.list t1 (List.map ZT m1_3))), (.d (D.list t2 (List.map Zw m1_4))), (.d (D.list t3 (List.map Zt m1_5)))])])
def ZaU (t0 : Bool) (t1 : Bool) (t2 : Bool) (t3 : Bool) (b : Int) (c : Int) (m1_0 : Int) (m1_1 : Int) (m1_2 : (List ZF)) (m1_3 : (List ZK)) (m1_4 : (List Zp)) (m1_5 : (List Zo)) (s0 : Int × Int × (List Int)) : Int → Ex × List V × Zn
  | r => (.exit 2, [(.sl 0 1), (.d (Zd b)), (.d (Zd c)), (.fn 118 [(.ptr 1 0)]), (.d (Zd r)), (.d (Zd s0.2.1))], [(.arr 1 (List.map Zd s0.2.2)), (.cells [(.d (Zd m1_0)), (.d (Zd m1_1)), (.d (D.list t0 (List.map ZW m1_2))), (.d (D.list t1 (List.map ZT m1_3))), (.d (D.list t2 (List.map Zw m1_4))), (.d (D.list t3 (List.map Zt m1_5)))])])
theorem Zct {t0 : Bool} {t1 : Bool} {t2 : Bool} {t3 : Bool} {b : Int} {c : Int} {m1_0 : Int} {m1_1 : Int} {m1_2 : (List ZF)} {m1_3 : (List ZK)} {m1_4 : (List Zp)} {m1_5 : (List Zo)} {s0 : Int × Int × (List Int)} : ∀ (s1 : Int) (r : Int), lp (ZH c (fun z0 z1 => Zr z0 z1 m1_4) s0) s1 = some r → lpW ctx 2 [0, 1, 2, 3, 9, 10] [0, 1, 2, 3, 9, 10] Ztl [(.sl 0 1), (.d (Zd b)), (.d (Zd c)), (.fn 118 [(.ptr 1 0)]), (.d (Zd s1)), (.d (Zd s0.2.1))] [(.arr 1 (List.map Zd s0.2.2)), (.cells [(.d (Zd m1_0)), (.d (Zd m1_1)), (.d (D.list t0 (List.map ZW m1_2))), (.d (D.list t1 (List.map ZT m1_3))), (.d (D.list t2 (List.map Zw m1_4))), (.d (D.list t3 (List.map Zt m1_5)))])] = some ((ZaU t0 t1 t2 t3 b c m1_0 m1_1 m1_2 m1_3 m1_4 m1_5 s0) r) := by
 refine Zaf (ZaU t0 t1 t2 t3 b c m1_0 m1_1 m1_2 m1_3 m1_4 m1_5 s0) ?_
 intro s1 rcl ih
 show ZD _ _ (lpW _ _ _ _ _ _ _)
 unfold ZH
 rw [Zag]
 conv => arg 3; whnf
 refine Zc rfl ?_ ?_
 ·conv => arg 3; whnf
  refine Zj rfl rfl fun x2 hx2 => ?_
  conv => arg 3; whnf
  refine Zg (Zv rfl hx2) ?_
  conv => arg 3; whnf
  refine Zj rfl rfl fun x3 hx3 => ?_
  conv => arg 3; whnf
  refine Zg (Zv rfl hx3) ?_
  conv => arg 3; whnf
  refine Zh _ ZB rfl fun x4 hx4 => ?_
  conv => arg 3; whnf
  refine Zc rfl ?_ ?_
  ·conv => arg 3; whnf
   exact Zb rfl
  ·conv => arg 3; whnf
   exact Ze (ih _)
 ·conv => arg 3; whnf
  exact Zb rfl
def ZaW (t0 : Bool) (t1 : Bool) (t2 : Bool) (t3 : Bool) (b : Int) (c : Int) (m1_0 : Int) (m1_1 : Int) (m1_2 : (List ZF)) (m1_3 : (List ZK)) (m1_4 : (List Zp)) (m1_5 : (List Zo)) (s0 : Int × Int × (List Int)) (r5 : Int) : (List Int) → Ex × List V × Zn
  | r => (.exit 4, [(.sl 0 1), (.d (Zd b)), (.d (Zd c)), (.fn 118 [(.ptr 1 0)]), (.d (Zd r5)), (.d (Zd s0.2.1))], [(.arr 1 (List.map Zd r)), (.cells [(.d (Zd m1_0)), (.d (Zd m1_1)), (.d (D.list t0 (List.map ZW m1_2))), (.d (D.list t1 (List.map ZT m1_3))), (.d (D.list t2 (List.map Zw m1_4))), (.d (D.list t3 (List.map Zt m1_5)))])])
theorem Zcq {t0 : Bool} {t1 : Bool} {t2 : Bool} {t3 : Bool} {b : Int} {c : Int} {m1_0 : Int} {m1_1 : Int} {m1_2 : (List ZF)} {m1_3 : (List ZK)} {m1_4 : (List Zp)} {m1_5 : (List Zo)} {s0 : Int × Int × (List Int)} {r5 : Int} : ∀ (s9 : Int × (List Int)) (r : (List Int)), lp (ZP (fun z0 z1 => Zr z0 z1 m1_4)) s9 = some r → lpW ctx 2 [0, 1, 2, 3, 9, 10, 11] [0, 1, 2, 3, 9, 10] Ztf [(.sl 0 1), (.d (Zd b)), (.d (Zd c)), (.fn 118 [(.ptr 1 0)]), (.d (Zd r5)), (.d (Zd s0.2.1)), (.d (Zd s9.1))] [(.arr 1 (List.map Zd s9.2)), (.cells [(.d (Zd m1_0)), (.d (Zd m1_1)), (.d (D.list t0 (List.map ZW m1_2))), (.d (D.list t1 (List.map ZT m1_3))), (.d (D.list t2 (List.map Zw m1_4))), (.d (D.list t3 (List.map Zt m1_5)))])] = some ((ZaW t0 t1 t2 t3 b c m1_0 m1_1 m1_2 m1_3 m1_4 m1_5 s0 r5) r) := by
 refine Zaf (ZaW t0 t1 t2 t3 b c m1_0 m1_1 m1_2 m1_3 m1_4 m1_5 s0 r5) ?_
 intro s9 rcl ih
 show ZD _ _ (lpW _ _ _ _ _ _ _)
 unfold ZP
 rw [Zag]
 conv => arg 3; whnf
 refine Zc rfl ?_ ?_
 ·conv => arg 3; whnf
  refine Zj rfl rfl fun x10 hx10 => ?_
  conv => arg 3; whnf
  refine Zg (Zv rfl hx10) ?_
  conv => arg 3; whnf
  refine Zj rfl rfl fun x11 hx11 => ?_
  conv => arg 3; whnf
  refine Zg (Zv rfl hx11) ?_
  conv => arg 3; whnf
  refine Zh _ ZB rfl fun x12 hx12 => ?_
  conv => arg 3; whnf
  refine Zc rfl ?_ ?_
  ·conv => arg 3; whnf
   refine Zg (ZaI rfl hx11) ?_
   conv => arg 3; whnf
   refine Zg (Zv rfl hx11) ?_
   conv => arg 3; whnf
   refine Zg (ZaI rfl hx10) ?_
   conv => arg 3; whnf
   refine Zg (Zv rfl hx10) ?_
   conv => arg 3; whnf
   refine Zg (ZaI rfl hx10) ?_
   conv => arg 3; whnf
   refine Zg (Zv rfl hx10) ?_
   conv => arg 3; whnf
   refine Zl (Zar Zd s9.2 s9.1.toNat x11) ?_
   conv => arg 3; whnf
   refine Zj rfl rfl fun x13 hx13 => ?_
   conv => arg 3; whnf
   refine Zg (Zv rfl hx13) ?_
   conv => arg 3; whnf
   refine Zl (Zar Zd (List.set s9.2 s9.1.toNat x11) (w64 (s9.1 - 1)).toNat x10) ?_
   conv => arg 3; whnf
   exact Ze (ih _)
  ·conv => arg 3; whnf
   exact Zb rfl
 ·conv => arg 3; whnf
  exact Zb rfl
def ZaV (t0 : Bool) (t1 : Bool) (t2 : Bool) (t3 : Bool) (b : Int) (c : Int) (m1_0 : Int) (m1_1 : Int) (m1_2 : (List ZF)) (m1_3 : (List ZK)) (m1_4 : (List Zp)) (m1_5 : (List Zo)) (s0 : Int × Int × (List Int)) (r5 : Int) : (List Int) → Ex × List V × Zn
  | r => (.exit 6, [(.sl 0 1), (.d (Zd b)), (.d (Zd c)), (.fn 118 [(.ptr 1 0)]), (.d (Zd r5)), (.d (Zd s0.2.1))], [(.arr 1 (List.map Zd r)), (.cells [(.d (Zd m1_0)), (.d (Zd m1_1)), (.d (D.list t0 (List.map ZW m1_2))), (.d (D.list t1 (List.map ZT m1_3))), (.d (D.list t2 (List.map Zw m1_4))), (.d (D.list t3 (List.map Zt m1_5)))])])
theorem Zcw {t0 : Bool} {t1 : Bool} {t2 : Bool} {t3 : Bool} {b : Int} {c : Int} {m1_0 : Int} {m1_1 : Int} {m1_2 : (List ZF)} {m1_3 : (List ZK)} {m1_4 : (List Zp)} {m1_5 : (List Zo)} {s0 : Int × Int × (List Int)} {r5 : Int} : ∀ (s15 : Int × (List Int)) (r : (List Int)), lp (ZE c (fun z0 z1 => Zr z0 z1 m1_4)) s15 = some r → lpW ctx 2 [0, 1, 2, 3, 9, 10, 12] [0, 1, 2, 3, 9, 10] Zq8 [(.sl 0 1), (.d (Zd b)), (.d (Zd c)), (.fn 118 [(.ptr 1 0)]), (.d (Zd r5)), (.d (Zd s0.2.1)), (.d (Zd s15.1))] [(.arr 1 (List.map Zd s15.2)), (.cells [(.d (Zd m1_0)), (.d (Zd m1_1)), (.d (D.list t0 (List.map ZW m1_2))), (.d (D.list t1 (List.map ZT m1_3))), (.d (D.list t2 (List.map Zw m1_4))), (.d (D.list t3 (List.map Zt m1_5)))])] = some ((ZaV t0 t1 t2 t3 b c m1_0 m1_1 m1_2 m1_3 m1_4 m1_5 s0 r5) r) := by
 refine Zaf (ZaV t0 t1 t2 t3 b c m1_0 m1_1 m1_2 m1_3 m1_4 m1_5 s0 r5) ?_
 intro s15 rcl ih
 show ZD _ _ (lpW _ _ _ _ _ _ _)
 unfold ZE
 rw [Zag]
 conv => arg 3; whnf
 refine Zc rfl ?_ ?_
 ·conv => arg 3; whnf
  refine Zj rfl rfl fun x16 hx16 => ?_
  conv => arg 3; whnf
  refine Zg (Zv rfl hx16) ?_
  conv => arg 3; whnf
  refine Zj rfl rfl fun x17 hx17 => ?_
  conv => arg 3; whnf
  refine Zg (Zv rfl hx17) ?_
  conv => arg 3; whnf
  refine Zh _ ZB rfl fun x18 hx18 => ?_
  conv => arg 3; whnf
  refine Zc rfl ?_ ?_
  ·conv => arg 3; whnf
   refine Zg (ZaI rfl hx17) ?_
   conv => arg 3; whnf
   refine Zg (Zv rfl hx17) ?_
   conv => arg 3; whnf
   refine Zg (ZaI rfl hx16) ?_
   conv => arg 3; whnf
   refine Zg (Zv rfl hx16) ?_
   conv => arg 3; whnf
   refine Zg (ZaI rfl hx16) ?_
   conv => arg 3; whnf
   refine Zg (Zv rfl hx16) ?_
   conv => arg 3; whnf
   refine Zl (Zar Zd s15.2 s15.1.toNat x17) ?_
   conv => arg 3; whnf
   refine Zj rfl rfl fun x19 hx19 => ?_
   conv => arg 3; whnf
   refine Zg (Zv rfl hx19) ?_
   conv => arg 3; whnf
   refine Zl (Zar Zd (List.set s15.2 s15.1.toNat x17) (w64 (s15.1 - 1)).toNat x16) ?_
   conv => arg 3; whnf
   exact Ze (ih _)
  ·conv => arg 3; whnf
   exact Zb rfl
 ·conv => arg 3; whnf
  exact Zb rfl
def ZaO (t0 : Bool) (t1 : Bool) (t2 : Bool) (t3 : Bool) (b : Int) (c : Int) (m1_0 : Int) (m1_1 : Int) (m1_2 : (List ZF)) (m1_3 : (List ZK)) (m1_4 : (List Zp)) (m1_5 : (List Zo)) (s0 : Int × Int × (List Int)) (r5 : Int) : (List Int) → Ex × List V × Zn
  | r => (.exit 6, [(.sl 0 1), (.d (Zd b)), (.d (Zd c)), (.fn 118 [(.ptr 1 0)]), (.d (Zd r5)), (.d (Zd s0.2.1))], [(.arr 1 (List.map Zd r)), (.cells [(.d (Zd m1_0)), (.d (Zd m1_1)), (.d (D.list t0 (List.map ZW m1_2))), (.d (D.list t1 (List.map ZT m1_3))), (.d (D.list t2 (List.map Zw m1_4))), (.d (D.list t3 (List.map Zt m1_5)))])])
theorem Zco {t0 : Bool} {t1 : Bool} {t2 : Bool} {t3 : Bool} {b : Int} {c : Int} {m1_0 : Int} {m1_1 : Int} {m1_2 : (List ZF)} {m1_3 : (List ZK)} {m1_4 : (List Zp)} {m1_5 : (List Zo)} {s0 : Int × Int × (List Int)} {r5 : Int} : ∀ (s21 : Int × (List Int)) (r : (List Int)), lp (Zas c (fun z0 z1 => Zr z0 z1 m1_4)) s21 = some r → lpW ctx 2 [0, 1, 2, 3, 9, 10, 12] [0, 1, 2, 3, 9, 10] Zq8 [(.sl 0 1), (.d (Zd b)), (.d (Zd c)), (.fn 118 [(.ptr 1 0)]), (.d (Zd r5)), (.d (Zd s0.2.1)), (.d (Zd s21.1))] [(.arr 1 (List.map Zd s21.2)), (.cells [(.d (Zd m1_0)), (.d (Zd m1_1)), (.d (D.list t0 (List.map ZW m1_2))), (.d (D.list t1 (List.map ZT m1_3))), (.d (D.list t2 (List.map Zw m1_4))), (.d (D.list t3 (List.map Zt m1_5)))])] = some ((ZaO t0 t1 t2 t3 b c m1_0 m1_1 m1_2 m1_3 m1_4 m1_5 s0 r5) r) := by
 refine Zaf (ZaO t0 t1 t2 t3 b c m1_0 m1_1 m1_2 m1_3 m1_4 m1_5 s0 r5) ?_
 intro s21 rcl ih
 show ZD _ _ (lpW _ _ _ _ _ _ _)
 unfold Zas
 rw [Zag]
 conv => arg 3; whnf
 refine Zc rfl ?_ ?_
 ·conv => arg 3; whnf
  refine Zj rfl rfl fun x22 hx22 => ?_
  conv => arg 3; whnf
  refine Zg (Zv rfl hx22) ?_
  conv => arg 3; whnf
  refine Zj rfl rfl fun x23 hx23 => ?_
  conv => arg 3; whnf
  refine Zg (Zv rfl hx23) ?_
  conv => arg 3; whnf
  refine Zh _ ZB rfl fun x24 hx24 => ?_
  conv => arg 3; whnf
  refine Zc rfl ?_ ?_
  ·conv => arg 3; whnf
   refine Zg (ZaI rfl hx23) ?_
   conv => arg 3; whnf
   refine Zg (Zv rfl hx23) ?_
   conv => arg 3; whnf
   refine Zg (ZaI rfl hx22) ?_
   conv => arg 3; whnf
   refine Zg (Zv rfl hx22) ?_
   conv => arg 3; whnf
   refine Zg (ZaI rfl hx22) ?_
   conv => arg 3; whnf
   refine Zg (Zv rfl hx22) ?_
   conv => arg 3; whnf
   refine Zl (Zar Zd s21.2 s21.1.toNat x23) ?_
   conv => arg 3; whnf
   refine Zj rfl rfl fun x25 hx25 => ?_
   conv => arg 3; whnf
   refine Zg (Zv rfl hx25) ?_
   conv => arg 3; whnf
   refine Zl (Zar Zd (List.set s21.2 s21.1.toNat x23) (w64 (s21.1 - 1)).toNat x22) ?_
   conv => arg 3; whnf
   exact Ze (ih _)
  ·conv => arg 3; whnf
   exact Zb rfl
 ·conv => arg 3; whnf
  exact Zb rfl
def ZaT (t0 : Bool) (t1 : Bool) (t2 : Bool) (t3 : Bool) (b : Int) (c : Int) (m1_0 : Int) (m1_1 : Int) (m1_2 : (List ZF)) (m1_3 : (List ZK)) (m1_4 : (List Zp)) (m1_5 : (List Zo)) : ((List Int) ⊕ ((List Int) ⊕ (List Int))) → Ex × List V × Zn
  | (.inl r) => (.ret, [(.d (D.bool true))], [(.arr 1 (List.map Zd r)), (.cells [(.d (Zd m1_0)), (.d (Zd m1_1)), (.d (D.list t0 (List.map ZW m1_2))), (.d (D.list t1 (List.map ZT m1_3))), (.d (D.list t2 (List.map Zw m1_4))), (.d (D.list t3 (List.map Zt m1_5)))])])
  | (.inr (.inl r)) => (.ret, [(.d (D.bool false))], [(.arr 1 (List.map Zd r)), (.cells [(.d (Zd m1_0)), (.d (Zd m1_1)), (.d (D.list t0 (List.map ZW m1_2))), (.d (D.list t1 (List.map ZT m1_3))), (.d (D.list t2 (List.map Zw m1_4))), (.d (D.list t3 (List.map Zt m1_5)))])])
  | (.inr (.inr r)) => (.exit 0, [.bad], [(.arr 1 (List.map Zd r)), (.cells [(.d (Zd m1_0)), (.d (Zd m1_1)), (.d (D.list t0 (List.map ZW m1_2))), (.d (D.list t1 (List.map ZT m1_3))), (.d (D.list t2 (List.map Zw m1_4))), (.d (D.list t3 (List.map Zt m1_5)))])])
theorem Zcs {t0 : Bool} {t1 : Bool} {t2 : Bool} {t3 : Bool} {b : Int} {c : Int} {m1_0 : Int} {m1_1 : Int} {m1_2 : (List ZF)} {m1_3 : (List ZK)} {m1_4 : (List Zp)} {m1_5 : (List Zo)} : ∀ (s0 : Int × Int × (List Int)) (r : ((List Int) ⊕ ((List Int) ⊕ (List Int)))), lp (ZO b c (fun z0 z1 => Zr z0 z1 m1_4)) s0 = some r → lpW ctx 2 [0, 1, 2, 3, 9, 10] [8] ZtB [(.sl 0 1), (.d (Zd b)), (.d (Zd c)), (.fn 118 [(.ptr 1 0)]), (.d (Zd s0.1)), (.d (Zd s0.2.1))] [(.arr 1 (List.map Zd s0.2.2)), (.cells [(.d (Zd m1_0)), (.d (Zd m1_1)), (.d (D.list t0 (List.map ZW m1_2))), (.d (D.list t1 (List.map ZT m1_3))), (.d (D.list t2 (List.map Zw m1_4))), (.d (D.list t3 (List.map Zt m1_5)))])] = some ((ZaT t0 t1 t2 t3 b c m1_0 m1_1 m1_2 m1_3 m1_4 m1_5) r) := by
 refine Zaf (ZaT t0 t1 t2 t3 b c m1_0 m1_1 m1_2 m1_3 m1_4 m1_5) ?_
 intro s0 rcl ih
 show ZD _ _ (lpW _ _ _ _ _ _ _)
 unfold ZO
 rw [Zag]
 conv => arg 3; whnf
 refine Zc rfl ?_ ?_
 ·conv => arg 3; whnf
  refine Zf _ (Zct _) fun r5 hr5 => ?_
  conv => arg 3; whnf
  refine Zc rfl ?_ ?_
  ·conv => arg 3; whnf
   exact Zb rfl
  ·conv => arg 3; whnf
   refine Zc rfl ?_ ?_
   ·conv => arg 3; whnf
    exact Zb rfl
   ·conv => arg 3; whnf
    refine Zj rfl rfl fun x6 hx6 => ?_
    conv => arg 3; whnf
    refine Zg (Zv rfl hx6) ?_
    conv => arg 3; whnf
    refine Zj rfl rfl fun x7 hx7 => ?_
    conv => arg 3; whnf
    refine Zg (Zv rfl hx7) ?_
    conv => arg 3; whnf
    refine Zg (ZaI rfl hx7) ?_
    conv => arg 3; whnf
    refine Zg (Zv rfl hx7) ?_
    conv => arg 3; whnf
    refine Zl (Zar Zd s0.2.2 r5.toNat x6) ?_
    conv => arg 3; whnf
    refine Zj rfl rfl fun x8 hx8 => ?_
    conv => arg 3; whnf
    refine Zg (Zv rfl hx8) ?_
    conv => arg 3; whnf
    refine Zl (Zar Zd (List.set s0.2.2 r5.toNat x6) (w64 (r5 - 1)).toNat x7) ?_
    conv => arg 3; whnf
    refine Zc rfl ?_ ?_
    ·conv => arg 3; whnf
     refine Zf _ (Zcq _) fun r14 hr14 => ?_
     conv => arg 3; whnf
     refine Zc rfl ?_ ?_
     ·conv => arg 3; whnf
      refine Zf _ (Zcw _) fun r20 hr20 => ?_
      conv => arg 3; whnf
      exact Ze (ih _)
     ·conv => arg 3; whnf
      exact Ze (ih _)
    ·conv => arg 3; whnf
     refine Zc rfl ?_ ?_
     ·conv => arg 3; whnf
      refine Zf _ (Zco _) fun r26 hr26 => ?_
      conv => arg 3; whnf
      exact Ze (ih _)
     ·conv => arg 3; whnf
      exact Ze (ih _)
 ·conv => arg 3; whnf
  exact Zb rfl
theorem Za4 {t0 : Bool} {t1 : Bool} {t2 : Bool} {t3 : Bool} {b : Int} {c : Int} {m0_0 : (List Int)} {m1_0 : Int} {m1_1 : Int} {m1_2 : (List ZF)} {m1_3 : (List ZK)} {m1_4 : (List Zp)} {m1_5 : (List Zo)} : ∀ r, (ZM b c (fun z0 z1 => Zr z0 z1 m1_4) m0_0) = some r → evW ctx 131 [(.sl 0 1), (.d (Zd b)), (.d (Zd c)), (.fn 118 [(.ptr 1 0)])] [(.arr 1 (List.map Zd m0_0)), (.cells [(.d (Zd m1_0)), (.d (Zd m1_1)), (.d (D.list t0 (List.map ZW m1_2))), (.d (D.list t1 (List.map ZT m1_3))), (.d (D.list t2 (List.map Zw m1_4))), (.d (D.list t3 (List.map Zt m1_5)))])] = some ((Za8 t0 t1 t2 t3 b c m0_0 m1_0 m1_1 m1_2 m1_3 m1_4 m1_5) r) := by
 show ZD _ (fun r rhs => rhs = some ((Za8 t0 t1 t2 t3 b c m0_0 m1_0 m1_1 m1_2 m1_3 m1_4 m1_5) r)) _
 unfold ZM
 rw [Zf1 ctx 131 Zw8 _ _ rfl rfl]
 conv => arg 3; whnf
 refine Zf _ (Zcs _) fun r27 hr27 => ?_
 clear hr27
 rcases r27 with r27 | (r27 | r27)
 ·conv => arg 3; whnf
  exact Zb rfl
 ·conv => arg 3; whnf
  exact Zb rfl
 ·conv => arg 3; whnf
  exact Zb rfl
def Zb0 (t0 : Bool) (t1 : Bool) (t2 : Bool) (t3 : Bool) (b : Int) (c : Int) (d : Int) (m0_0 : (List Int)) (m1_0 : Int) (m1_1 : Int) (m1_2 : (List ZF)) (m1_3 : (List ZK)) (m1_4 : (List Zp)) (m1_5 : (List Zo)) : ((Int × (List Int)) ⊕ (Int × (List Int))) → V × Zn
  | (.inl r) => ((.d (D.tup [(Zd r.1), (D.bool true)])), [(.arr 1 (List.map Zd r.2)), (.cells [(.d (Zd m1_0)), (.d (Zd m1_1)), (.d (D.list t0 (List.map ZW m1_2))), (.d (D.list t1 (List.map ZT m1_3))), (.d (D.list t2 (List.map Zw m1_4))), (.d (D.list t3 (List.map Zt m1_5)))])])
  | (.inr r) => ((.d (D.tup [(Zd r.1), (D.bool false)])), [(.arr 1 (List.map Zd r.2)), (.cells [(.d (Zd m1_0)), (.d (Zd m1_1)), (.d (D.list t0 (List.map ZW m1_2))), (.d (D.list t1 (List.map ZT m1_3))), (.d (D.list t2 (List.map Zw m1_4))), (.d (D.list t3 (List.map Zt m1_5)))])])
def ZbK (t0 : Bool) (t1 : Bool) (t2 : Bool) (t3 : Bool) (b : Int) (c : Int) (d : Int) (m0_0 : (List Int)) (m1_0 : Int) (m1_1 : Int) (m1_2 : (List ZF)) (m1_3 : (List ZK)) (m1_4 : (List Zp)) (m1_5 : (List Zo)) (x0 : Int) (x1 : Int) : Int → Ex × List V × Zn
  | r => (.exit 0, [(.sl 0 1), (.d (Zd b)), (.fn 118 [(.ptr 1 0)]), (.d (Zd r)), (.d (Zd (w64 (c - 1))))], [(.arr 1 (List.map Zd (List.set (List.set m0_0 b.toNat x0) d.toNat x1))), (.cells [(.d (Zd m1_0)), (.d (Zd m1_1)), (.d (D.list t0 (List.map ZW m1_2))), (.d (D.list t1 (List.map ZT m1_3))), (.d (D.list t2 (List.map Zw m1_4))), (.d (D.list t3 (List.map Zt m1_5)))])])
theorem Zdy {t0 : Bool} {t1 : Bool} {t2 : Bool} {t3 : Bool} {b : Int} {c : Int} {d : Int} {m0_0 : (List Int)} {m1_0 : Int} {m1_1 : Int} {m1_2 : (List ZF)} {m1_3 : (List ZK)} {m1_4 : (List Zp)} {m1_5 : (List Zo)} {x0 : Int} {x1 : Int} : ∀ (s3 : Int) (r : Int), lp (Zav b c d m0_0 (fun z0 z1 => Zr z0 z1 m1_4) x0 x1) s3 = some r → lpW ctx 2 [0, 1, 4, 12, 13] [0, 1, 4, 12, 13] Ztn [(.sl 0 1), (.d (Zd b)), (.fn 118 [(.ptr 1 0)]), (.d (Zd s3)), (.d (Zd (w64 (c - 1))))] [(.arr 1 (List.map Zd (List.set (List.set m0_0 b.toNat x0) d.toNat x1))), (.cells [(.d (Zd m1_0)), (.d (Zd m1_1)), (.d (D.list t0 (List.map ZW m1_2))), (.d (D.list t1 (List.map ZT m1_3))), (.d (D.list t2 (List.map Zw m1_4))), (.d (D.list t3 (List.map Zt m1_5)))])] = some ((ZbK t0 t1 t2 t3 b c d m0_0 m1_0 m1_1 m1_2 m1_3 m1_4 m1_5 x0 x1) r) := by
 refine Zaf (ZbK t0 t1 t2 t3 b c d m0_0 m1_0 m1_1 m1_2 m1_3 m1_4 m1_5 x0 x1) ?_
 intro s3 rcl ih
 show ZD _ _ (lpW _ _ _ _ _ _ _)
 unfold Zav
 rw [Zag]
 conv => arg 3; whnf
 refine Zc rfl ?_ ?_
 ·conv => arg 3; whnf
  refine Zj rfl rfl fun x4 hx4 => ?_
  conv => arg 3; whnf
  refine Zg (Zv rfl hx4) ?_
  conv => arg 3; whnf
  refine Zj rfl rfl fun x5 hx5 => ?_
  conv => arg 3; whnf
  refine Zg (Zv rfl hx5) ?_
  conv => arg 3; whnf
  refine Zh _ ZB rfl fun x6 hx6 => ?_
  conv => arg 3; whnf
  refine Zc rfl ?_ ?_
  ·conv => arg 3; whnf
   exact Ze (ih _)
  ·conv => arg 3; whnf
   exact Zb rfl
 ·conv => arg 3; whnf
  exact Zb rfl
def ZbF (t0 : Bool) (t1 : Bool) (t2 : Bool) (t3 : Bool) (b : Int) (d : Int) (m0_0 : (List Int)) (m1_0 : Int) (m1_1 : Int) (m1_2 : (List ZF)) (m1_3 : (List ZK)) (m1_4 : (List Zp)) (m1_5 : (List Zo)) (x0 : Int) (x1 : Int) (r7 : Int) : Int → Ex × List V × Zn
  | r => (.exit 2, [(.sl 0 1), (.d (Zd b)), (.fn 118 [(.ptr 1 0)]), (.d (Zd r7)), (.d (Zd r))], [(.arr 1 (List.map Zd (List.set (List.set m0_0 b.toNat x0) d.toNat x1))), (.cells [(.d (Zd m1_0)), (.d (Zd m1_1)), (.d (D.list t0 (List.map ZW m1_2))), (.d (D.list t1 (List.map ZT m1_3))), (.d (D.list t2 (List.map Zw m1_4))), (.d (D.list t3 (List.map Zt m1_5)))])])
theorem ZdB {t0 : Bool} {t1 : Bool} {t2 : Bool} {t3 : Bool} {b : Int} {d : Int} {m0_0 : (List Int)} {m1_0 : Int} {m1_1 : Int} {m1_2 : (List ZF)} {m1_3 : (List ZK)} {m1_4 : (List Zp)} {m1_5 : (List Zo)} {x0 : Int} {x1 : Int} {r7 : Int} : ∀ (s8 : Int) (r : Int), lp (Zax b d m0_0 (fun z0 z1 => Zr z0 z1 m1_4) x0 x1 r7) s8 = some r → lpW ctx 2 [0, 1, 4, 12, 13] [0, 1, 4, 12, 13] Zty [(.sl 0 1), (.d (Zd b)), (.fn 118 [(.ptr 1 0)]), (.d (Zd r7)), (.d (Zd s8))] [(.arr 1 (List.map Zd (List.set (List.set m0_0 b.toNat x0) d.toNat x1))), (.cells [(.d (Zd m1_0)), (.d (Zd m1_1)), (.d (D.list t0 (List.map ZW m1_2))), (.d (D.list t1 (List.map ZT m1_3))), (.d (D.list t2 (List.map Zw m1_4))), (.d (D.list t3 (List.map Zt m1_5)))])] = some ((ZbF t0 t1 t2 t3 b d m0_0 m1_0 m1_1 m1_2 m1_3 m1_4 m1_5 x0 x1 r7) r) := by
 refine Zaf (ZbF t0 t1 t2 t3 b d m0_0 m1_0 m1_1 m1_2 m1_3 m1_4 m1_5 x0 x1 r7) ?_
 intro s8 rcl ih
 show ZD _ _ (lpW _ _ _ _ _ _ _)
 unfold Zax
 rw [Zag]
 conv => arg 3; whnf
 refine Zc rfl ?_ ?_
 ·conv => arg 3; whnf
  refine Zj rfl rfl fun x9 hx9 => ?_
  conv => arg 3; whnf
  refine Zg (Zv rfl hx9) ?_
  conv => arg 3; whnf
  refine Zj rfl rfl fun x10 hx10 => ?_
  conv => arg 3; whnf
  refine Zg (Zv rfl hx10) ?_
  conv => arg 3; whnf
  refine Zh _ ZB rfl fun x11 hx11 => ?_
  conv => arg 3; whnf
  refine Zc rfl ?_ ?_
  ·conv => arg 3; whnf
   exact Zb rfl
  ·conv => arg 3; whnf
   exact Ze (ih _)
 ·conv => arg 3; whnf
  exact Zb rfl
def ZbE (t0 : Bool) (t1 : Bool) (t2 : Bool) (t3 : Bool) (b : Int) (m1_0 : Int) (m1_1 : Int) (m1_2 : (List ZF)) (m1_3 : (List ZK)) (m1_4 : (List Zp)) (m1_5 : (List Zo)) (s19 : Int × Int × (List Int)) : Int → Ex × List V × Zn
  | r => (.exit 6, [(.sl 0 1), (.d (Zd b)), (.fn 118 [(.ptr 1 0)]), (.d (Zd r)), (.d (Zd s19.2.1))], [(.arr 1 (List.map Zd s19.2.2)), (.cells [(.d (Zd m1_0)), (.d (Zd m1_1)), (.d (D.list t0 (List.map ZW m1_2))), (.d (D.list t1 (List.map ZT m1_3))), (.d (D.list t2 (List.map Zw m1_4))), (.d (D.list t3 (List.map Zt m1_5)))])])
theorem ZdH {t0 : Bool} {t1 : Bool} {t2 : Bool} {t3 : Bool} {b : Int} {m1_0 : Int} {m1_1 : Int} {m1_2 : (List ZF)} {m1_3 : (List ZK)} {m1_4 : (List Zp)} {m1_5 : (List Zo)} {s19 : Int × Int × (List Int)} : ∀ (s20 : Int) (r : Int), lp (Zaw b (fun z0 z1 => Zr z0 z1 m1_4) s19) s20 = some r → lpW ctx 2 [0, 1, 4, 12, 13] [0, 1, 4, 12, 13] ZtS [(.sl 0 1), (.d (Zd b)), (.fn 118 [(.ptr 1 0)]), (.d (Zd s20)), (.d (Zd s19.2.1))] [(.arr 1 (List.map Zd s19.2.2)), (.cells [(.d (Zd m1_0)), (.d (Zd m1_1)), (.d (D.list t0 (List.map ZW m1_2))), (.d (D.list t1 (List.map ZT m1_3))), (.d (D.list t2 (List.map Zw m1_4))), (.d (D.list t3 (List.map Zt m1_5)))])] = some ((ZbE t0 t1 t2 t3 b m1_0 m1_1 m1_2 m1_3 m1_4 m1_5 s19) r) := by
 refine Zaf (ZbE t0 t1 t2 t3 b m1_0 m1_1 m1_2 m1_3 m1_4 m1_5 s19) ?_
 intro s20 rcl ih
 show ZD _ _ (lpW _ _ _ _ _ _ _)
 unfold Zaw
 rw [Zag]
 conv => arg 3; whnf
 refine Zc rfl ?_ ?_
 ·conv => arg 3; whnf
  refine Zj rfl rfl fun x21 hx21 => ?_
  conv => arg 3; whnf
  refine Zg (Zv rfl hx21) ?_
  conv => arg 3; whnf
  refine Zj rfl rfl fun x22 hx22 => ?_
  conv => arg 3; whnf
  refine Zg (Zv rfl hx22) ?_
  conv => arg 3; whnf
  refine Zh _ ZB rfl fun x23 hx23 => ?_
  conv => arg 3; whnf
  refine Zc rfl ?_ ?_
  ·conv => arg 3; whnf
   exact Ze (ih _)
  ·conv => arg 3; whnf
   exact Zb rfl
 ·conv => arg 3; whnf
  exact Zb rfl
def ZbI (t0 : Bool) (t1 : Bool) (t2 : Bool) (t3 : Bool) (b : Int) (m1_0 : Int) (m1_1 : Int) (m1_2 : (List ZF)) (m1_3 : (List ZK)) (m1_4 : (List Zp)) (m1_5 : (List Zo)) (s19 : Int × Int × (List Int)) (r24 : Int) : Int → Ex × List V × Zn
  | r => (.exit 8, [(.sl 0 1), (.d (Zd b)), (.fn 118 [(.ptr 1 0)]), (.d (Zd r24)), (.d (Zd r))], [(.arr 1 (List.map Zd s19.2.2)), (.cells [(.d (Zd m1_0)), (.d (Zd m1_1)), (.d (D.list t0 (List.map ZW m1_2))), (.d (D.list t1 (List.map ZT m1_3))), (.d (D.list t2 (List.map Zw m1_4))), (.d (D.list t3 (List.map Zt m1_5)))])])
theorem Zdz {t0 : Bool} {t1 : Bool} {t2 : Bool} {t3 : Bool} {b : Int} {m1_0 : Int} {m1_1 : Int} {m1_2 : (List ZF)} {m1_3 : (List ZK)} {m1_4 : (List Zp)} {m1_5 : (List Zo)} {s19 : Int × Int × (List Int)} {r24 : Int} : ∀ (s25 : Int) (r : Int), lp (Zay b (fun z0 z1 => Zr z0 z1 m1_4) s19 r24) s25 = some r → lpW ctx 2 [0, 1, 4, 12, 13] [0, 1, 4, 12, 13] ZtP [(.sl 0 1), (.d (Zd b)), (.fn 118 [(.ptr 1 0)]), (.d (Zd r24)), (.d (Zd s25))] [(.arr 1 (List.map Zd s19.2.2)), (.cells [(.d (Zd m1_0)), (.d (Zd m1_1)), (.d (D.list t0 (List.map ZW m1_2))), (.d (D.list t1 (List.map ZT m1_3))), (.d (D.list t2 (List.map Zw m1_4))), (.d (D.list t3 (List.map Zt m1_5)))])] = some ((ZbI t0 t1 t2 t3 b m1_0 m1_1 m1_2 m1_3 m1_4 m1_5 s19 r24) r) := by
 refine Zaf (ZbI t0 t1 t2 t3 b m1_0 m1_1 m1_2 m1_3 m1_4 m1_5 s19 r24) ?_
 intro s25 rcl ih
 show ZD _ _ (lpW _ _ _ _ _ _ _)
 unfold Zay
 rw [Zag]
 conv => arg 3; whnf
 refine Zc rfl ?_ ?_
 ·conv => arg 3; whnf
  refine Zj rfl rfl fun x26 hx26 => ?_
  conv => arg 3; whnf
  refine Zg (Zv rfl hx26) ?_
  conv => arg 3; whnf
  refine Zj rfl rfl fun x27 hx27 => ?_
  conv => arg 3; whnf
  refine Zg (Zv rfl hx27) ?_
  conv => arg 3; whnf
  refine Zh _ ZB rfl fun x28 hx28 => ?_
  conv => arg 3; whnf
  refine Zc rfl ?_ ?_
  ·conv => arg 3; whnf
   exact Zb rfl
  ·conv => arg 3; whnf
   exact Ze (ih _)
 ·conv => arg 3; whnf
  exact Zb rfl
def ZbJ (t0 : Bool) (t1 : Bool) (t2 : Bool) (t3 : Bool) (b : Int) (m1_0 : Int) (m1_1 : Int) (m1_2 : (List ZF)) (m1_3 : (List ZK)) (m1_4 : (List Zp)) (m1_5 : (List Zo)) : (Int × (List Int)) → Ex × List V × Zn
  | r => (.exit 4, [(.sl 0 1), (.d (Zd b)), (.d (Zd r.1))], [(.arr 1 (List.map Zd r.2)), (.cells [(.d (Zd m1_0)), (.d (Zd m1_1)), (.d (D.list t0 (List.map ZW m1_2))), (.d (D.list t1 (List.map ZT m1_3))), (.d (D.list t2 (List.map Zw m1_4))), (.d (D.list t3 (List.map Zt m1_5)))])])
theorem ZdJ {t0 : Bool} {t1 : Bool} {t2 : Bool} {t3 : Bool} {b : Int} {m1_0 : Int} {m1_1 : Int} {m1_2 : (List ZF)} {m1_3 : (List ZK)} {m1_4 : (List Zp)} {m1_5 : (List Zo)} : ∀ (s19 : Int × Int × (List Int)) (r : (Int × (List Int))), lp (ZaR b (fun z0 z1 => Zr z0 z1 m1_4)) s19 = some r → lpW ctx 2 [0, 1, 4, 12, 13] [0, 1, 13] ZtI [(.sl 0 1), (.d (Zd b)), (.fn 118 [(.ptr 1 0)]), (.d (Zd s19.1)), (.d (Zd s19.2.1))] [(.arr 1 (List.map Zd s19.2.2)), (.cells [(.d (Zd m1_0)), (.d (Zd m1_1)), (.d (D.list t0 (List.map ZW m1_2))), (.d (D.list t1 (List.map ZT m1_3))), (.d (D.list t2 (List.map Zw m1_4))), (.d (D.list t3 (List.map Zt m1_5)))])] = some ((ZbJ t0 t1 t2 t3 b m1_0 m1_1 m1_2 m1_3 m1_4 m1_5) r) := by
 refine Zaf (ZbJ t0 t1 t2 t3 b m1_0 m1_1 m1_2 m1_3 m1_4 m1_5) ?_
 intro s19 rcl ih
 show ZD _ _ (lpW _ _ _ _ _ _ _)
 unfold ZaR
 rw [Zag]
 conv => arg 3; whnf
 refine Zf _ (ZdH _) fun r24 hr24 => ?_
 conv => arg 3; whnf
 refine Zf _ (Zdz _) fun r29 hr29 => ?_
 conv => arg 3; whnf
 refine Zc rfl ?_ ?_
 ·conv => arg 3; whnf
  exact Zb rfl
 ·conv => arg 3; whnf
  refine Zj rfl rfl fun x30 hx30 => ?_
  conv => arg 3; whnf
  refine Zg (Zv rfl hx30) ?_
  conv => arg 3; whnf
  refine Zj rfl rfl fun x31 hx31 => ?_
  conv => arg 3; whnf
  refine Zg (Zv rfl hx31) ?_
  conv => arg 3; whnf
  refine Zg (ZaI rfl hx31) ?_
  conv => arg 3; whnf
  refine Zg (Zv rfl hx31) ?_
  conv => arg 3; whnf
  refine Zl (Zar Zd s19.2.2 r24.toNat x30) ?_
  conv => arg 3; whnf
  refine Zj rfl rfl fun x32 hx32 => ?_
  conv => arg 3; whnf
  refine Zg (Zv rfl hx32) ?_
  conv => arg 3; whnf
  refine Zl (Zar Zd (List.set s19.2.2 r24.toNat x30) r29.toNat x31) ?_
  conv => arg 3; whnf
  exact Ze (ih _)
theorem Zk {t0 : Bool} {t1 : Bool} {t2 : Bool} {t3 : Bool} {b : Int} {c : Int} {d : Int} {m0_0 : (List Int)} {m1_0 : Int} {m1_1 : Int} {m1_2 : (List ZF)} {m1_3 : (List ZK)} {m1_4 : (List Zp)} {m1_5 : (List Zo)} : ∀ r, (Zq b c d (fun z0 z1 => Zr z0 z1 m1_4) m0_0) = some r → evW ctx 133 [(.sl 0 1), (.d (Zd b)), (.d (Zd c)), (.d (Zd d)), (.fn 118 [(.ptr 1 0)])] [(.arr 1 (List.map Zd m0_0)), (.cells [(.d (Zd m1_0)), (.d (Zd m1_1)), (.d (D.list t0 (List.map ZW m1_2))), (.d (D.list t1 (List.map ZT m1_3))), (.d (D.list t2 (List.map Zw m1_4))), (.d (D.list t3 (List.map Zt m1_5)))])] = some ((Zb0 t0 t1 t2 t3 b c d m0_0 m1_0 m1_1 m1_2 m1_3 m1_4 m1_5) r) := by
 show ZD _ (fun r rhs => rhs = some ((Zb0 t0 t1 t2 t3 b c d m0_0 m1_0 m1_1 m1_2 m1_3 m1_4 m1_5) r)) _
 unfold Zq
 rw [Zf1 ctx 133 Zwz _ _ rfl rfl]
 conv => arg 3; whnf
 refine Zj rfl rfl fun x0 hx0 => ?_
 conv => arg 3; whnf
 refine Zg (Zv rfl hx0) ?_
 conv => arg 3; whnf
 refine Zj rfl rfl fun x1 hx1 => ?_
 conv => arg 3; whnf
 refine Zg (Zv rfl hx1) ?_
 conv => arg 3; whnf
 refine Zg (ZaI rfl hx1) ?_
 conv => arg 3; whnf
 refine Zg (Zv rfl hx1) ?_
 conv => arg 3; whnf
 refine Zl (Zar Zd m0_0 b.toNat x0) ?_
 conv => arg 3; whnf
 refine Zj rfl rfl fun x2 hx2 => ?_
 conv => arg 3; whnf
 refine Zg (Zv rfl hx2) ?_
 conv => arg 3; whnf
 refine Zl (Zar Zd (List.set m0_0 b.toNat x0) d.toNat x1) ?_
 conv => arg 3; whnf
 refine Zf _ (Zdy _) fun r7 hr7 => ?_
 conv => arg 3; whnf
 refine Zf _ (ZdB _) fun r12 hr12 => ?_
 conv => arg 3; whnf
 refine Zc rfl ?_ ?_
 ·conv => arg 3; whnf
  refine Zj rfl rfl fun x13 hx13 => ?_
  conv => arg 3; whnf
  refine Zg (Zv rfl hx13) ?_
  conv => arg 3; whnf
  refine Zj rfl rfl fun x14 hx14 => ?_
  conv => arg 3; whnf
  refine Zg (Zv rfl hx14) ?_
  conv => arg 3; whnf
  refine Zg (ZaI rfl hx14) ?_
  conv => arg 3; whnf
  refine Zg (Zv rfl hx14) ?_
  conv => arg 3; whnf
  refine Zl (Zar Zd (List.set (List.set m0_0 b.toNat x0) d.toNat x1) r12.toNat x13) ?_
  conv => arg 3; whnf
  refine Zj rfl rfl fun x15 hx15 => ?_
  conv => arg 3; whnf
  refine Zg (Zv rfl hx15) ?_
  conv => arg 3; whnf
  refine Zl (Zar Zd (List.set (List.set (List.set m0_0 b.toNat x0) d.toNat x1) r12.toNat x13) b.toNat x14) ?_
  conv => arg 3; whnf
  exact Zb rfl
 ·conv => arg 3; whnf
  refine Zj rfl rfl fun x16 hx16 => ?_
  conv => arg 3; whnf
  refine Zg (Zv rfl hx16) ?_
  conv => arg 3; whnf
  refine Zj rfl rfl fun x17 hx17 => ?_
  conv => arg 3; whnf
  refine Zg (Zv rfl hx17) ?_
  conv => arg 3; whnf
  refine Zg (ZaI rfl hx17) ?_
  conv => arg 3; whnf
  refine Zg (Zv rfl hx17) ?_
  conv => arg 3; whnf
  refine Zl (Zar Zd (List.set (List.set m0_0 b.toNat x0) d.toNat x1) r7.toNat x16) ?_
  conv => arg 3; whnf
  refine Zj rfl rfl fun x18 hx18 => ?_
  conv => arg 3; whnf
  refine Zg (Zv rfl hx18) ?_
  conv => arg 3; whnf
  refine Zl (Zar Zd (List.set (List.set (List.set m0_0 b.toNat x0) d.toNat x1) r7.toNat x16) r12.toNat x17) ?_
  conv => arg 3; whnf
  refine Zf _ (ZdJ _) fun r33 hr33 => ?_
  conv => arg 3; whnf
  refine Zj rfl rfl fun x34 hx34 => ?_
  conv => arg 3; whnf
  refine Zg (Zv rfl hx34) ?_
  conv => arg 3; whnf
  refine Zj rfl rfl fun x35 hx35 => ?_
  conv => arg 3; whnf
  refine Zg (Zv rfl hx35) ?_
  conv => arg 3; whnf
  refine Zg (ZaI rfl hx35) ?_
  conv => arg 3; whnf
  refine Zg (Zv rfl hx35) ?_
  conv => arg 3; whnf
  refine Zl (Zar Zd r33.2 r33.1.toNat x34) ?_
  conv => arg 3; whnf
  refine Zj rfl rfl fun x36 hx36 => ?_
  conv => arg 3; whnf
  refine Zg (Zv rfl hx36) ?_
  conv => arg 3; whnf
  refine Zl (Zar Zd (List.set r33.2 r33.1.toNat x34) b.toNat x35) ?_
  conv => arg 3; whnf
  exact Zb rfl
def Zby (t0 : Bool) (t1 : Bool) (t2 : Bool) (t3 : Bool) (b : Int) (c : Int) (d : Int) (m0_0 : (List Int)) (m1_0 : Int) (m1_1 : Int) (m1_2 : (List ZF)) (m1_3 : (List ZK)) (m1_4 : (List Zp)) (m1_5 : (List Zo)) : (Int × (List Int)) → V × Zn
  | r => ((.d (Zd r.1)), [(.arr 1 (List.map Zd r.2)), (.cells [(.d (Zd m1_0)), (.d (Zd m1_1)), (.d (D.list t0 (List.map ZW m1_2))), (.d (D.list t1 (List.map ZT m1_3))), (.d (D.list t2 (List.map Zw m1_4))), (.d (D.list t3 (List.map Zt m1_5)))])])
def Zbg (t0 : Bool) (t1 : Bool) (t2 : Bool) (t3 : Bool) (b : Int) (m1_0 : Int) (m1_1 : Int) (m1_2 : (List ZF)) (m1_3 : (List ZK)) (m1_4 : (List Zp)) (m1_5 : (List Zo)) (s3 : Int × Int × (List Int)) : Int → Ex × List V × Zn
  | r => (.exit 2, [(.sl 0 1), (.d (Zd b)), (.fn 118 [(.ptr 1 0)]), (.d (Zd r)), (.d (Zd s3.2.1))], [(.arr 1 (List.map Zd s3.2.2)), (.cells [(.d (Zd m1_0)), (.d (Zd m1_1)), (.d (D.list t0 (List.map ZW m1_2))), (.d (D.list t1 (List.map ZT m1_3))), (.d (D.list t2 (List.map Zw m1_4))), (.d (D.list t3 (List.map Zt m1_5)))])])
theorem ZcV {t0 : Bool} {t1 : Bool} {t2 : Bool} {t3 : Bool} {b : Int} {m1_0 : Int} {m1_1 : Int} {m1_2 : (List ZF)} {m1_3 : (List ZK)} {m1_4 : (List Zp)} {m1_5 : (List Zo)} {s3 : Int × Int × (List Int)} : ∀ (s4 : Int) (r : Int), lp (Zac b (fun z0 z1 => Zr z0 z1 m1_4) s3) s4 = some r → lpW ctx 2 [0, 1, 4, 11, 12] [0, 1, 4, 11, 12] Zti [(.sl 0 1), (.d (Zd b)), (.fn 118 [(.ptr 1 0)]), (.d (Zd s4)), (.d (Zd s3.2.1))] [(.arr 1 (List.map Zd s3.2.2)), (.cells [(.d (Zd m1_0)), (.d (Zd m1_1)), (.d (D.list t0 (List.map ZW m1_2))), (.d (D.list t1 (List.map ZT m1_3))), (.d (D.list t2 (List.map Zw m1_4))), (.d (D.list t3 (List.map Zt m1_5)))])] = some ((Zbg t0 t1 t2 t3 b m1_0 m1_1 m1_2 m1_3 m1_4 m1_5 s3) r) := by
 refine Zaf (Zbg t0 t1 t2 t3 b m1_0 m1_1 m1_2 m1_3 m1_4 m1_5 s3) ?_
 intro s4 rcl ih
 show ZD _ _ (lpW _ _ _ _ _ _ _)
 unfold Zac
 rw [Zag]
 conv => arg 3; whnf
 refine Zc rfl ?_ ?_
 ·conv => arg 3; whnf
  refine Zj rfl rfl fun x5 hx5 => ?_
  conv => arg 3; whnf
  refine Zg (Zv rfl hx5) ?_
  conv => arg 3; whnf
  refine Zj rfl rfl fun x6 hx6 => ?_
  conv => arg 3; whnf
  refine Zg (Zv rfl hx6) ?_
  conv => arg 3; whnf
  refine Zh _ ZB rfl fun x7 hx7 => ?_
  conv => arg 3; whnf
  refine Zc rfl ?_ ?_
  ·conv => arg 3; whnf
   exact Zb rfl
  ·conv => arg 3; whnf
   exact Ze (ih _)
 ·conv => arg 3; whnf
  exact Zb rfl
def Zbe (t0 : Bool) (t1 : Bool) (t2 : Bool) (t3 : Bool) (b : Int) (m1_0 : Int) (m1_1 : Int) (m1_2 : (List ZF)) (m1_3 : (List ZK)) (m1_4 : (List Zp)) (m1_5 : (List Zo)) (s3 : Int × Int × (List Int)) (r8 : Int) : Int → Ex × List V × Zn
  | r => (.exit 4, [(.sl 0 1), (.d (Zd b)), (.fn 118 [(.ptr 1 0)]), (.d (Zd r8)), (.d (Zd r))], [(.arr 1 (List.map Zd s3.2.2)), (.cells [(.d (Zd m1_0)), (.d (Zd m1_1)), (.d (D.list t0 (List.map ZW m1_2))), (.d (D.list t1 (List.map ZT m1_3))), (.d (D.list t2 (List.map Zw m1_4))), (.d (D.list t3 (List.map Zt m1_5)))])])
theorem ZcR {t0 : Bool} {t1 : Bool} {t2 : Bool} {t3 : Bool} {b : Int} {m1_0 : Int} {m1_1 : Int} {m1_2 : (List ZF)} {m1_3 : (List ZK)} {m1_4 : (List Zp)} {m1_5 : (List Zo)} {s3 : Int × Int × (List Int)} {r8 : Int} : ∀ (s9 : Int) (r : Int), lp (Zab b (fun z0 z1 => Zr z0 z1 m1_4) s3 r8) s9 = some r → lpW ctx 2 [0, 1, 4, 11, 12] [0, 1, 4, 11, 12] Zt4 [(.sl 0 1), (.d (Zd b)), (.fn 118 [(.ptr 1 0)]), (.d (Zd r8)), (.d (Zd s9))] [(.arr 1 (List.map Zd s3.2.2)), (.cells [(.d (Zd m1_0)), (.d (Zd m1_1)), (.d (D.list t0 (List.map ZW m1_2))), (.d (D.list t1 (List.map ZT m1_3))), (.d (D.list t2 (List.map Zw m1_4))), (.d (D.list t3 (List.map Zt m1_5)))])] = some ((Zbe t0 t1 t2 t3 b m1_0 m1_1 m1_2 m1_3 m1_4 m1_5 s3 r8) r) := by
 refine Zaf (Zbe t0 t1 t2 t3 b m1_0 m1_1 m1_2 m1_3 m1_4 m1_5 s3 r8) ?_
 intro s9 rcl ih
 show ZD _ _ (lpW _ _ _ _ _ _ _)
 unfold Zab
 rw [Zag]
 conv => arg 3; whnf
 refine Zc rfl ?_ ?_
 ·conv => arg 3; whnf
  refine Zj rfl rfl fun x10 hx10 => ?_
  conv => arg 3; whnf
  refine Zg (Zv rfl hx10) ?_
  conv => arg 3; whnf
  refine Zj rfl rfl fun x11 hx11 => ?_
  conv => arg 3; whnf
  refine Zg (Zv rfl hx11) ?_
  conv => arg 3; whnf
  refine Zh _ ZB rfl fun x12 hx12 => ?_
  conv => arg 3; whnf
  refine Zc rfl ?_ ?_
  ·conv => arg 3; whnf
   exact Ze (ih _)
  ·conv => arg 3; whnf
   exact Zb rfl
 ·conv => arg 3; whnf
  exact Zb rfl
def Zbi (t0 : Bool) (t1 : Bool) (t2 : Bool) (t3 : Bool) (b : Int) (m1_0 : Int) (m1_1 : Int) (m1_2 : (List ZF)) (m1_3 : (List ZK)) (m1_4 : (List Zp)) (m1_5 : (List Zo)) : (Int × (List Int)) → Ex × List V × Zn
  | r => (.exit 0, [(.d (Zd r.1))], [(.arr 1 (List.map Zd r.2)), (.cells [(.d (Zd m1_0)), (.d (Zd m1_1)), (.d (D.list t0 (List.map ZW m1_2))), (.d (D.list t1 (List.map ZT m1_3))), (.d (D.list t2 (List.map Zw m1_4))), (.d (D.list t3 (List.map Zt m1_5)))])])
theorem ZcT {t0 : Bool} {t1 : Bool} {t2 : Bool} {t3 : Bool} {b : Int} {m1_0 : Int} {m1_1 : Int} {m1_2 : (List ZF)} {m1_3 : (List ZK)} {m1_4 : (List Zp)} {m1_5 : (List Zo)} : ∀ (s3 : Int × Int × (List Int)) (r : (Int × (List Int))), lp (Zaz b (fun z0 z1 => Zr z0 z1 m1_4)) s3 = some r → lpW ctx 2 [0, 1, 4, 11, 12] [11] Zt2 [(.sl 0 1), (.d (Zd b)), (.fn 118 [(.ptr 1 0)]), (.d (Zd s3.1)), (.d (Zd s3.2.1))] [(.arr 1 (List.map Zd s3.2.2)), (.cells [(.d (Zd m1_0)), (.d (Zd m1_1)), (.d (D.list t0 (List.map ZW m1_2))), (.d (D.list t1 (List.map ZT m1_3))), (.d (D.list t2 (List.map Zw m1_4))), (.d (D.list t3 (List.map Zt m1_5)))])] = some ((Zbi t0 t1 t2 t3 b m1_0 m1_1 m1_2 m1_3 m1_4 m1_5) r) := by
 refine Zaf (Zbi t0 t1 t2 t3 b m1_0 m1_1 m1_2 m1_3 m1_4 m1_5) ?_
 intro s3 rcl ih
 show ZD _ _ (lpW _ _ _ _ _ _ _)
 unfold Zaz
 rw [Zag]
 conv => arg 3; whnf
 refine Zf _ (ZcV _) fun r8 hr8 => ?_
 conv => arg 3; whnf
 refine Zf _ (ZcR _) fun r13 hr13 => ?_
 conv => arg 3; whnf
 refine Zc rfl ?_ ?_
 ·conv => arg 3; whnf
  exact Zb rfl
 ·conv => arg 3; whnf
  refine Zj rfl rfl fun x14 hx14 => ?_
  conv => arg 3; whnf
  refine Zg (Zv rfl hx14) ?_
  conv => arg 3; whnf
  refine Zj rfl rfl fun x15 hx15 => ?_
  conv => arg 3; whnf
  refine Zg (Zv rfl hx15) ?_
  conv => arg 3; whnf
  refine Zg (ZaI rfl hx15) ?_
  conv => arg 3; whnf
  refine Zg (Zv rfl hx15) ?_
  conv => arg 3; whnf
  refine Zl (Zar Zd s3.2.2 r8.toNat x14) ?_
  conv => arg 3; whnf
  refine Zj rfl rfl fun x16 hx16 => ?_
  conv => arg 3; whnf
  refine Zg (Zv rfl hx16) ?_
  conv => arg 3; whnf
  refine Zl (Zar Zd (List.set s3.2.2 r8.toNat x14) r13.toNat x15) ?_
  conv => arg 3; whnf
  exact Ze (ih _)
theorem Zx {t0 : Bool} {t1 : Bool} {t2 : Bool} {t3 : Bool} {b : Int} {c : Int} {d : Int} {m0_0 : (List Int)} {m1_0 : Int} {m1_1 : Int} {m1_2 : (List ZF)} {m1_3 : (List ZK)} {m1_4 : (List Zp)} {m1_5 : (List Zo)} : ∀ r, (Zz b c d (fun z0 z1 => Zr z0 z1 m1_4) m0_0) = some r → evW ctx 132 [(.sl 0 1), (.d (Zd b)), (.d (Zd c)), (.d (Zd d)), (.fn 118 [(.ptr 1 0)])] [(.arr 1 (List.map Zd m0_0)), (.cells [(.d (Zd m1_0)), (.d (Zd m1_1)), (.d (D.list t0 (List.map ZW m1_2))), (.d (D.list t1 (List.map ZT m1_3))), (.d (D.list t2 (List.map Zw m1_4))), (.d (D.list t3 (List.map Zt m1_5)))])] = some ((Zby t0 t1 t2 t3 b c d m0_0 m1_0 m1_1 m1_2 m1_3 m1_4 m1_5) r) := by
 show ZD _ (fun r rhs => rhs = some ((Zby t0 t1 t2 t3 b c d m0_0 m1_0 m1_1 m1_2 m1_3 m1_4 m1_5) r)) _
 unfold Zz
 rw [Zf1 ctx 132 Zwe _ _ rfl rfl]
 conv => arg 3; whnf
 refine Zj rfl rfl fun x0 hx0 => ?_
 conv => arg 3; whnf
 refine Zg (Zv rfl hx0) ?_
 conv => arg 3; whnf
 refine Zj rfl rfl fun x1 hx1 => ?_
 conv => arg 3; whnf
 refine Zg (Zv rfl hx1) ?_
 conv => arg 3; whnf
 refine Zg (ZaI rfl hx1) ?_
 conv => arg 3; whnf
 refine Zg (Zv rfl hx1) ?_
 conv => arg 3; whnf
 refine Zl (Zar Zd m0_0 b.toNat x0) ?_
 conv => arg 3; whnf
 refine Zj rfl rfl fun x2 hx2 => ?_
 conv => arg 3; whnf
 refine Zg (Zv rfl hx2) ?_
 conv => arg 3; whnf
 refine Zl (Zar Zd (List.set m0_0 b.toNat x0) d.toNat x1) ?_
 conv => arg 3; whnf
 refine Zf _ (ZcT _) fun r17 hr17 => ?_
 conv => arg 3; whnf
 exact Zb rfl
def Zfx (r : Int) : D := (D.int .u64 r)
theorem ZhE {a : Int} : ∀ r, (Zcm a) = some r → evD ctx 137 [(.d (Zd a))] = some (Zfx r) := by
 show ZD _ (fun r rhs => rhs = some (Zfx r)) _
 unfold Zcm
 rw [Zak ctx 137 ZvV _ rfl rfl]
 conv => arg 3; whnf
 refine Zh _ Zhs rfl fun x0 hx0 => ?_
 conv => arg 3; whnf
 refine Zc rfl ?_ ?_
 ·exact Z8
 ·conv => arg 3; whnf
  exact Zb rfl
def ZfE (m0_0 : Int) : Unit → V × Zn
  | r => ((.d (D.int .u64 (IntKind.u64.wrap (BitVec.ofInt IntKind.u64.bits (IntKind.u64.wrap (BitVec.ofInt IntKind.u64.bits (IntKind.u64.wrap (BitVec.ofInt IntKind.u64.bits m0_0 ^^^ BitVec.ofInt IntKind.u64.bits (IntKind.u64.wrap (m0_0 * 2 ^ 13))).toNat) ^^^ BitVec.ofInt IntKind.u64.bits (Int.fdiv (IntKind.u64.wrap (BitVec.ofInt IntKind.u64.bits m0_0 ^^^ BitVec.ofInt IntKind.u64.bits (IntKind.u64.wrap (m0_0 * 2 ^ 13))).toNat) (2 ^ 7))).toNat) ^^^ BitVec.ofInt IntKind.u64.bits (IntKind.u64.wrap ((IntKind.u64.wrap (BitVec.ofInt IntKind.u64.bits (IntKind.u64.wrap (BitVec.ofInt IntKind.u64.bits m0_0 ^^^ BitVec.ofInt IntKind.u64.bits (IntKind.u64.wrap (m0_0 * 2 ^ 13))).toNat) ^^^ BitVec.ofInt IntKind.u64.bits (Int.fdiv (IntKind.u64.wrap (BitVec.ofInt IntKind.u64.bits m0_0 ^^^ BitVec.ofInt IntKind.u64.bits (IntKind.u64.wrap (m0_0 * 2 ^ 13))).toNat) (2 ^ 7))).toNat) * 2 ^ 17))).toNat))), [(.cells [(.d (D.int .u64 (IntKind.u64.wrap (BitVec.ofInt IntKind.u64.bits (IntKind.u64.wrap (BitVec.ofInt IntKind.u64.bits (IntKind.u64.wrap (BitVec.ofInt IntKind.u64.bits m0_0 ^^^ BitVec.ofInt IntKind.u64.bits (IntKind.u64.wrap (m0_0 * 2 ^ 13))).toNat) ^^^ BitVec.ofInt IntKind.u64.bits (Int.fdiv (IntKind.u64.wrap (BitVec.ofInt IntKind.u64.bits m0_0 ^^^ BitVec.ofInt IntKind.u64.bits (IntKind.u64.wrap (m0_0 * 2 ^ 13))).toNat) (2 ^ 7))).toNat) ^^^ BitVec.ofInt IntKind.u64.bits (IntKind.u64.wrap ((IntKind.u64.wrap (BitVec.ofInt IntKind.u64.bits (IntKind.u64.wrap (BitVec.ofInt IntKind.u64.bits m0_0 ^^^ BitVec.ofInt IntKind.u64.bits (IntKind.u64.wrap (m0_0 * 2 ^ 13))).toNat) ^^^ BitVec.ofInt IntKind.u64.bits (Int.fdiv (IntKind.u64.wrap (BitVec.ofInt IntKind.u64.bits m0_0 ^^^ BitVec.ofInt IntKind.u64.bits (IntKind.u64.wrap (m0_0 * 2 ^ 13))).toNat) (2 ^ 7))).toNat) * 2 ^ 17))).toNat)))])])
theorem ZhT {m0_0 : Int} : ∀ r, Zdt = some r → evW ctx 138 [(.ptr 0 0)] [(.cells [(.d (D.int .u64 m0_0))])] = some ((ZfE m0_0) r) := by
 show ZD _ (fun r rhs => rhs = some ((ZfE m0_0) r)) _
 unfold Zdt
 rw [Zf1 ctx 138 ZwW _ _ rfl rfl]
 conv => arg 3; whnf
 refine Z1 rfl ?_
 conv => arg 3; whnf
 refine Z1 rfl ?_
 conv => arg 3; whnf
 refine Z1 rfl ?_
 conv => arg 3; whnf
 exact Zb rfl
def ZbA (t0 : Bool) (t1 : Bool) (t2 : Bool) (t3 : Bool) (b : Int) (c : Int) (m0_0 : (List Int)) (m1_0 : Int) (m1_1 : Int) (m1_2 : (List ZF)) (m1_3 : (List ZK)) (m1_4 : (List Zp)) (m1_5 : (List Zo)) : (List Int) → V × Zn
  | r => ((.d (D.tup [])), [(.arr 1 (List.map Zd r)), (.cells [(.d (Zd m1_0)), (.d (Zd m1_1)), (.d (D.list t0 (List.map ZW m1_2))), (.d (D.list t1 (List.map ZT m1_3))), (.d (D.list t2 (List.map Zw m1_4))), (.d (D.list t3 (List.map Zt m1_5)))])])
def Zbm (t0 : Bool) (t1 : Bool) (t2 : Bool) (t3 : Bool) (b : Int) (c : Int) (m1_0 : Int) (m1_1 : Int) (m1_2 : (List ZF)) (m1_3 : (List ZK)) (m1_4 : (List Zp)) (m1_5 : (List Zo)) (x0 : Int) : (List Int) → Ex × List V × Zn
  | r => (.exit 0, [], [(.arr 1 (List.map Zd r)), (.cells [(.d (Zd m1_0)), (.d (Zd m1_1)), (.d (D.list t0 (List.map ZW m1_2))), (.d (D.list t1 (List.map ZT m1_3))), (.d (D.list t2 (List.map Zw m1_4))), (.d (D.list t3 (List.map Zt m1_5)))])])
theorem Zc0 {t0 : Bool} {t1 : Bool} {t2 : Bool} {t3 : Bool} {b : Int} {c : Int} {m1_0 : Int} {m1_1 : Int} {m1_2 : (List ZF)} {m1_3 : (List ZK)} {m1_4 : (List Zp)} {m1_5 : (List Zo)} {x0 : Int} : ∀ (s1 : Int × (List Int) × Int) (r : (List Int)), lp (ZaC b c x0) s1 = some r → lpW ctx 2 [0, 1, 8, 9, 10, 11] [] Ztt [(.sl 0 1), (.d (Zd b)), (.d (Zd (w64 (c - b)))), (.ptr 2 0), (.d (D.int .u64 x0)), (.d (Zd s1.1))] [(.arr 1 (List.map Zd s1.2.1)), (.cells [(.d (Zd m1_0)), (.d (Zd m1_1)), (.d (D.list t0 (List.map ZW m1_2))), (.d (D.list t1 (List.map ZT m1_3))), (.d (D.list t2 (List.map Zw m1_4))), (.d (D.list t3 (List.map Zt m1_5)))]), (.cells [(.d (D.int .u64 s1.2.2))])] = some ((Zbm t0 t1 t2 t3 b c m1_0 m1_1 m1_2 m1_3 m1_4 m1_5 x0) r) := by
 refine Zaf (Zbm t0 t1 t2 t3 b c m1_0 m1_1 m1_2 m1_3 m1_4 m1_5 x0) ?_
 intro s1 rcl ih
 show ZD _ _ (lpW _ _ _ _ _ _ _)
 unfold ZaC
 rw [Zag]
 conv => arg 3; whnf
 refine Z1 rfl ?_
 conv => arg 3; whnf
 refine Zc rfl ?_ ?_
 ·conv => arg 3; whnf
  refine Zf _ ZhT fun x2 hx2 => ?_
  conv => arg 3; whnf
  refine Zc rfl ?_ ?_
  ·conv => arg 3; whnf
   refine Zj rfl rfl fun x3 hx3 => ?_
   conv => arg 3; whnf
   refine Zg (Zv rfl hx3) ?_
   conv => arg 3; whnf
   refine Zj rfl rfl fun x4 hx4 => ?_
   conv => arg 3; whnf
   refine Zg (Zv rfl hx4) ?_
   conv => arg 3; whnf
   refine Zg (ZaI rfl hx4) ?_
   conv => arg 3; whnf
   refine Zg (Zv rfl hx4) ?_
   conv => arg 3; whnf
   refine Zl (Zar Zd s1.2.1 s1.1.toNat x3) ?_
   conv => arg 3; whnf
   refine Zj rfl rfl fun x5 hx5 => ?_
   conv => arg 3; whnf
   refine Zg (Zv rfl hx5) ?_
   conv => arg 3; whnf
   refine Zl (Zar Zd (List.set s1.2.1 s1.1.toNat x3) (w64 (b + (w64 ((w64 (IntKind.u64.wrap (BitVec.ofInt IntKind.u64.bits (IntKind.u64.wrap (BitVec.ofInt IntKind.u64.bits (IntKind.u64.wrap (BitVec.ofInt IntKind.u64.bits (IntKind.u64.wrap (BitVec.ofInt IntKind.u64.bits s1.2.2 ^^^ BitVec.ofInt IntKind.u64.bits (IntKind.u64.wrap (s1.2.2 * 2 ^ 13))).toNat) ^^^ BitVec.ofInt IntKind.u64.bits (Int.fdiv (IntKind.u64.wrap (BitVec.ofInt IntKind.u64.bits s1.2.2 ^^^ BitVec.ofInt IntKind.u64.bits (IntKind.u64.wrap (s1.2.2 * 2 ^ 13))).toNat) (2 ^ 7))).toNat) ^^^ BitVec.ofInt IntKind.u64.bits (IntKind.u64.wrap ((IntKind.u64.wrap (BitVec.ofInt IntKind.u64.bits (IntKind.u64.wrap (BitVec.ofInt IntKind.u64.bits s1.2.2 ^^^ BitVec.ofInt IntKind.u64.bits (IntKind.u64.wrap (s1.2.2 * 2 ^ 13))).toNat) ^^^ BitVec.ofInt IntKind.u64.bits (Int.fdiv (IntKind.u64.wrap (BitVec.ofInt IntKind.u64.bits s1.2.2 ^^^ BitVec.ofInt IntKind.u64.bits (IntKind.u64.wrap (s1.2.2 * 2 ^ 13))).toNat) (2 ^ 7))).toNat) * 2 ^ 17))).toNat) &&& BitVec.ofInt IntKind.u64.bits (IntKind.u64.wrap (x0 - 1))).toNat)) - (w64 (c - b)))))).toNat x4) ?_
   conv => arg 3; whnf
   exact Ze (ih _)
  ·conv => arg 3; whnf
   refine Zj rfl rfl fun x6 hx6 => ?_
   conv => arg 3; whnf
   refine Zg (Zv rfl hx6) ?_
   conv => arg 3; whnf
   refine Zj rfl rfl fun x7 hx7 => ?_
   conv => arg 3; whnf
   refine Zg (Zv rfl hx7) ?_
   conv => arg 3; whnf
   refine Zg (ZaI rfl hx7) ?_
   conv => arg 3; whnf
   refine Zg (Zv rfl hx7) ?_
   conv => arg 3; whnf
   refine Zl (Zar Zd s1.2.1 s1.1.toNat x6) ?_
   conv => arg 3; whnf
   refine Zj rfl rfl fun x8 hx8 => ?_
   conv => arg 3; whnf
   refine Zg (Zv rfl hx8) ?_
   conv => arg 3; whnf
   refine Zl (Zar Zd (List.set s1.2.1 s1.1.toNat x6) (w64 (b + (w64 (IntKind.u64.wrap (BitVec.ofInt IntKind.u64.bits (IntKind.u64.wrap (BitVec.ofInt IntKind.u64.bits (IntKind.u64.wrap (BitVec.ofInt IntKind.u64.bits (IntKind.u64.wrap (BitVec.ofInt IntKind.u64.bits s1.2.2 ^^^ BitVec.ofInt IntKind.u64.bits (IntKind.u64.wrap (s1.2.2 * 2 ^ 13))).toNat) ^^^ BitVec.ofInt IntKind.u64.bits (Int.fdiv (IntKind.u64.wrap (BitVec.ofInt IntKind.u64.bits s1.2.2 ^^^ BitVec.ofInt IntKind.u64.bits (IntKind.u64.wrap (s1.2.2 * 2 ^ 13))).toNat) (2 ^ 7))).toNat) ^^^ BitVec.ofInt IntKind.u64.bits (IntKind.u64.wrap ((IntKind.u64.wrap (BitVec.ofInt IntKind.u64.bits (IntKind.u64.wrap (BitVec.ofInt IntKind.u64.bits s1.2.2 ^^^ BitVec.ofInt IntKind.u64.bits (IntKind.u64.wrap (s1.2.2 * 2 ^ 13))).toNat) ^^^ BitVec.ofInt IntKind.u64.bits (Int.fdiv (IntKind.u64.wrap (BitVec.ofInt IntKind.u64.bits s1.2.2 ^^^ BitVec.ofInt IntKind.u64.bits (IntKind.u64.wrap (s1.2.2 * 2 ^ 13))).toNat) (2 ^ 7))).toNat) * 2 ^ 17))).toNat) &&& BitVec.ofInt IntKind.u64.bits (IntKind.u64.wrap (x0 - 1))).toNat)))).toNat x7) ?_
   conv => arg 3; whnf
   exact Ze (ih _)
 ·conv => arg 3; whnf
  exact Zb rfl
theorem Zbu {t0 : Bool} {t1 : Bool} {t2 : Bool} {t3 : Bool} {b : Int} {c : Int} {m0_0 : (List Int)} {m1_0 : Int} {m1_1 : Int} {m1_2 : (List ZF)} {m1_3 : (List ZK)} {m1_4 : (List Zp)} {m1_5 : (List Zo)} : ∀ r, (Z6 b c (fun z0 z1 => Zr z0 z1 m1_4) m0_0) = some r → evW ctx 128 [(.sl 0 1), (.d (Zd b)), (.d (Zd c)), (.fn 118 [(.ptr 1 0)])] [(.arr 1 (List.map Zd m0_0)), (.cells [(.d (Zd m1_0)), (.d (Zd m1_1)), (.d (D.list t0 (List.map ZW m1_2))), (.d (D.list t1 (List.map ZT m1_3))), (.d (D.list t2 (List.map Zw m1_4))), (.d (D.list t3 (List.map Zt m1_5)))])] = some ((ZbA t0 t1 t2 t3 b c m0_0 m1_0 m1_1 m1_2 m1_3 m1_4 m1_5) r) := by
 show ZD _ (fun r rhs => rhs = some ((ZbA t0 t1 t2 t3 b c m0_0 m1_0 m1_1 m1_2 m1_3 m1_4 m1_5) r)) _
 unfold Z6
 rw [Zf1 ctx 128 ZwL _ _ rfl rfl]
 conv => arg 3; whnf
 refine Zc rfl ?_ ?_
 ·conv => arg 3; whnf
  refine Zh _ ZhE rfl fun x0 hx0 => ?_
  conv => arg 3; whnf
  refine Z1 rfl ?_
  conv => arg 3; whnf
  refine Zf _ (Zc0 _) fun r9 hr9 => ?_
  conv => arg 3; whnf
  exact Zb rfl
 ·conv => arg 3; whnf
  exact Zb rfl
end Go.Proofs.YtnmbdjkbaihicaaDoor
