/- One operation of the model's, and what it comes to. -/
import Derived.Test.YtljgncbdagmeeaaDoorE3
namespace Go.Proofs.YtljgncbdagmeeaaDoorE
open Go
set_option linter.unusedVariables false
set_option linter.unusedSimpArgs false

/-- what an operation comes to, calls by their contract -/
def OpOK (P : Program) (o : Oper) (a : Act) (w : World) (Post : Value → World → Prop) : Prop :=
  (∃ u w', (execOp a.eval o).run P w = .ok (.value u) w' ∧ Post u w') ∨ (∃ w', (execOp a.eval o).run P w = .ok .skip w' ∧ Post undef w') ∨
  (∃ f args w', (execOp a.eval o).run P w = .ok (.enter f args) w' ∧ Calls P f args w' fun e w'' => ∃ u, e = .returned u ∧ Post u w'')

theorem OpOK.wp {P : Program} {o : Oper} {a : Act} {w : World} {Post : Value → World → Prop} {K : Act → World → Prop} {Q : Exit → Act → World → Prop}
    (h : OpOK P o a w Post) (hK : ∀ u w', Post u w' → K (a.put o.dst u) w') : o.wp P a w K Q := by
  unfold Oper.wp
  rcases h with ⟨u, w', h1, h2⟩ | ⟨w', h1, h2⟩ | ⟨f, args, w', h1, h2⟩
  · rw [h1]; exact hK _ _ h2
  · rw [h1]; exact hK _ _ h2
  · rw [h1]
    exact h2.mono fun e w'' ⟨u, he, hp⟩ => by subst he; exact hK _ _ hp

theorem OpOK.val {P : Program} {o : Oper} {a : Act} {w w' : World} {Post : Value → World → Prop} {u : Value} (h : (execOp a.eval o).run P w = .ok (.value u) w') (hp : Post u w') : OpOK P o a w Post :=
  .inl ⟨u, w', h, hp⟩

/-! operands -/
mutual
def cv : V → Value → Bool
  | .d (.bool a), .bool b => a == b
  | .d (.int k n), .int k' m => k == k' && n == m
  | .d (.str s), .string t => decide (s = t)
  | .d .nilfn, .nilFunc => true
  | .d .nilp, .pointer none => true
  | .d .nilI, .nilIface => true
  | .d (.fn f []), .func (.func g) a b => f == g && a.isEmpty && b.isEmpty
  | .d (.agg ds), .agg us => cds ds us.toList
  | .d (.list _ []), .slice _ n _ => n == 0
  | .nilsl _, .slice _ n c => n == 0 && c == 0
  | .agg vs, .agg us => cvs vs us.toList
  | .bad, _ => true
  | _, _ => false
def cvs : List V → List Value → Bool
  | [], [] => true
  | v :: vs, u :: us => cv v u && cvs vs us
  | _, _ => false
def cds : List D → List Value → Bool
  | [], [] => true
  | .bool a :: ds, .bool b :: us => a == b && cds ds us
  | .int k n :: ds, .int k' m :: us => k == k' && n == m && cds ds us
  | .str s :: ds, .string t :: us => decide (s = t) && cds ds us
  | .nilfn :: ds, .nilFunc :: us => cds ds us
  | .nilp :: ds, .pointer none :: us => cds ds us
  | .nilI :: ds, .nilIface :: us => cds ds us
  | .list _ [] :: ds, .slice _ n _ :: us => n == 0 && cds ds us
  | _, _ => false
end

theorem cds_ok {A1 A0 AL : Nat → Prop} {w : World} : ∀ (ds : List D) (us : List Value), cds ds us = true → DenDs A1 A0 AL w ds us := by
  intro ds
  induction ds with
  | nil => intro us h; cases us <;> simp_all [cds, DenDs]
  | cons x ds ih =>
    intro us h
    cases us with
    | nil => cases x <;> simp_all [cds]
    | cons u us =>
      refine ⟨u, us, rfl, ?_⟩
      cases x with
      | bool a => cases u <;> simp_all [cds, DenD]
      | int k n => cases u <;> simp_all [cds, DenD]
      | str s =>
        cases u <;> simp only [cds, Bool.and_eq_true, decide_eq_true_eq, Bool.false_eq_true] at h
        exact ⟨by rw [h.1]; rfl, ih us h.2⟩
      | nilfn => cases u <;> simp_all [cds, DenD]
      | nilI => cases u <;> simp_all [cds, DenD]
      | nilp =>
        cases u with
        | pointer a => cases a <;> simp_all [cds, DenD]
        | _ => simp_all [cds]
      | list own xs =>
        cases xs with
        | nil =>
          cases u with
          | slice a n c =>
            simp only [cds, Bool.and_eq_true, beq_iff_eq] at h
            obtain ⟨rfl, h⟩ := h
            exact ⟨⟨a, 0, c, rfl, rfl, Nat.zero_le _, by simp, by simp⟩, ih us h⟩
          | _ => simp_all [cds]
        | cons y ys => cases u <;> simp_all [cds]
      | agg cs => cases u <;> simp_all [cds]
      | tup cs => cases u <;> simp_all [cds]
      | fn f cs => cases u <;> simp_all [cds]
      | rptr cs => cases u <;> simp_all [cds]
      | iface t v => cases u <;> simp_all [cds]

mutual
theorem cv_ok {R : RP} {w : World} : ∀ (v : V) (u : Value), cv v u = true → DenV R w v u
  | .bad, _, _ => trivial
  | .nilsl sz, u, h => by
    cases u <;> simp_all [cv, DenV]
  | .agg vs, u, h => by
    cases u <;> simp only [cv] at h <;> try (cases h; done)
    rename_i us
    exact ⟨us.toList, rfl, cvs_ok vs us.toList h⟩
  | .d x, u, h => by
    cases x with
    | bool a => cases u <;> simp_all [cv, DenV, RP.den, DenD]
    | int k n => cases u <;> simp_all [cv, DenV, RP.den, DenD]
    | str s =>
      cases u <;> simp only [cv, decide_eq_true_eq, Bool.false_eq_true] at h
      rw [h]; rfl
    | nilfn => cases u <;> simp_all [cv, DenV, RP.den, DenD]
    | nilI => cases u <;> simp_all [cv, DenV, RP.den, DenD]
    | nilp =>
      cases u with
      | pointer a => cases a <;> simp_all [cv, DenV, RP.den, DenD]
      | _ => simp_all [cv]
    | fn f cs =>
      cases cs with
      | cons => cases u <;> simp_all [cv]
      | nil =>
        cases u with
        | func fn a b =>
          cases fn <;> simp only [cv, Bool.and_eq_true, beq_iff_eq, Array.isEmpty_iff, Bool.false_eq_true] at h
          obtain ⟨⟨rfl, rfl⟩, rfl⟩ := h
          exact ⟨[], rfl, rfl⟩
        | _ => simp_all [cv]
    | agg ds =>
      cases u <;> simp only [cv] at h <;> try (cases h; done)
      rename_i us
      exact ⟨us.toList, rfl, cds_ok ds us.toList h⟩
    | list own xs =>
      cases xs with
      | cons => cases u <;> simp_all [cv]
      | nil =>
        cases u <;> simp only [cv, beq_iff_eq] at h <;> try (cases h; done)
        subst h
        exact ⟨_, 0, _, rfl, rfl, Nat.zero_le _, by simp, by simp⟩
    | tup cs => cases u <;> simp_all [cv]
    | rptr cs => cases u <;> simp_all [cv]
    | iface t v => cases u <;> simp_all [cv]
  | .ptr b o, u, h => by cases u <;> simp_all [cv]
  | .eptr b sz i k, u, h => by cases u <;> simp_all [cv]
  | .sl b sz, u, h => by cases u <;> simp_all [cv]
  | .slp b sz o l, u, h => by cases u <;> simp_all [cv]
  | .tup cs, u, h => by cases u <;> simp_all [cv]
  | .fn f cs, u, h => by cases u <;> simp_all [cv]
  | .mp b, u, h => by cases u <;> simp_all [cv]
theorem cvs_ok {R : RP} {w : World} : ∀ (vs : List V) (us : List Value), cvs vs us = true → DenVs R w vs us
  | [], us, h => by cases us <;> simp_all [cvs, DenVs]
  | v :: vs, [], h => by simp [cvs] at h
  | v :: vs, u :: us, h => by
    simp only [cvs, Bool.and_eq_true] at h
    exact ⟨u, us, rfl, cv_ok v u h.1, cvs_ok vs us h.2⟩
end

/-- the program's package variables that are read: of each, its cells -/
abbrev Globs := Nat → Option (List (IntKind × Int))

def gD : List (IntKind × Int) → List D
  | [] => []
  | (k, n) :: r => .int k n :: gD r

def eqG : List (IntKind × Int) → List D → Bool
  | [], [] => true
  | (k, n) :: r, .int k' n' :: s => k == k' && n == n' && eqG r s
  | _, _ => false

theorem eqG_ok : ∀ (g : List (IntKind × Int)) (l : List D), eqG g l = true → l = gD g
  | [], [], _ => rfl
  | [], _ :: _, h => by simp [eqG] at h
  | (k, n) :: r, [], h => by simp [eqG] at h
  | (k, n) :: r, x :: s, h => by
    cases x <;> simp only [eqG, Bool.and_eq_true, beq_iff_eq, Bool.false_eq_true] at h
    obtain ⟨⟨rfl, rfl⟩, h⟩ := h
    rw [gD, eqG_ok r s h]

def okOpd (G : Globs) : Operand → Opd → Bool
  | .tmp i, .t j => i == j
  | .const u, .c v => cv v u
  | .func f, .c (.d (.fn g [])) => f == g
  | .global g, .c (.d (.rptr cs)) => match G g with | some l => eqG l cs | none => false
  | _, _ => false

def okOpds (G : Globs) : List Operand → List Opd → Bool
  | [], [] => true
  | x :: xs, y :: ys => okOpd G x y && okOpds G xs ys
  | _, _ => false

/-- the package variables read so, in this relation -/
def GOK (G : Globs) (R : RP) (w : World) : Prop := ∀ g l, G g = some l → R.den w (.rptr (gD l)) (.pointer (some ⟨g, 0, none⟩))

def EnvOK (R : RP) (w : World) (e : Env) (a : Act) : Prop := ∀ t, DenV R w (e t) (a.tmps.getD t undef)

theorem okOpd_ok {G : Globs} {R : RP} {w : World} {e : Env} {a : Act} (hg : GOK G R w) (he : EnvOK R w e a) {x : Operand} {y : Opd} (h : okOpd G x y = true) : DenV R w (y.val e) (a.eval x) := by
  cases x with
  | tmp i =>
    cases y with
    | t j =>
      simp only [okOpd, beq_iff_eq] at h
      subst h
      exact he i
    | c v => simp [okOpd] at h
  | const u =>
    cases y with
    | t j => simp [okOpd] at h
    | c v => exact cv_ok v u h
  | func f =>
    cases y with
    | t j => simp [okOpd] at h
    | c v =>
      cases v with
      | d x =>
        cases x with
        | fn g caps =>
          cases caps with
          | nil =>
            simp only [okOpd, beq_iff_eq] at h
            subst h
            exact ⟨[], rfl, rfl⟩
          | cons => simp [okOpd] at h
        | _ => simp [okOpd] at h
      | _ => simp [okOpd] at h
  | global g =>
    cases y with
    | t j => simp [okOpd] at h
    | c v =>
      cases v with
      | d x =>
        cases x with
        | rptr cs =>
          cases hG : G g with
          | none => simp [okOpd, hG] at h
          | some l =>
            simp only [okOpd, hG] at h
            rw [eqG_ok l cs h]
            exact hg g l hG
        | _ => simp [okOpd] at h
      | _ => simp [okOpd] at h

theorem okOpds_ok {G : Globs} {R : RP} {w : World} {e : Env} {a : Act} (hg : GOK G R w) (he : EnvOK R w e a) : ∀ {xs : List Operand} {ys : List Opd}, okOpds G xs ys = true → DenVs R w (vals e ys) (xs.map a.eval)
  | [], [], _ => rfl
  | [], _ :: _, h => by simp [okOpds] at h
  | _ :: _, [], h => by simp [okOpds] at h
  | x :: xs, y :: ys, h => by
    simp only [okOpds, Bool.and_eq_true] at h
    exact ⟨_, _, rfl, okOpd_ok hg he h.1, okOpds_ok hg he h.2⟩

theorem Ext.gok {G : Globs} {R R' : RP} {w w' : World} (e : Ext R w R' w') (hb : ∀ c, R.B0 c → R.B1 c) (h : GOK G R w) : GOK G R' w' := fun g l hg => e.den hb (h g l hg)
theorem Ext.envOK {R R' : RP} {w w' : World} (x : Ext R w R' w') (hb : ∀ c, R.B0 c → R.B1 c) {e : Env} {a : Act} (h : EnvOK R w e a) : EnvOK R' w' e a := fun t => x.denV hb _ _ (h t)

/-! ## What stands behind an operation -/
def Placed (H : Heap) (up : List (Nat × Blk)) (nid : Nat) (nw : List Blk) (H' : Heap) : Prop :=
  ∀ i, H'[i]? = if nid ≤ i ∧ i < nid + nw.length then nw[i - nid]? else (updH H up)[i]?

def Post (R : RP) (w : World) (nid n : Nat) (H' : Heap) (v : V) (u : Value) (w' : World) : Prop :=
  ∃ R', Ext R w R' w' ∧ R'.OK w' ∧ R'.H = H' ∧ DenV R' w' v u ∧ ∀ i, R.M i = none → ¬ (nid ≤ i ∧ i < nid + n) → R'.M i = none

theorem updH_nil (H : Heap) : updH H [] = H := rfl

theorem Placed.same {H H' : Heap} {nid : Nat} (h : Placed H [] nid [] H') : H' = H := by
  apply List.ext_getElem?
  intro i
  have := h i
  simp only [List.length_nil, Nat.add_zero, updH] at this
  rw [this, if_neg (by omega)]

/-- Nothing turns but (perhaps) the tape. -/
theorem Post.still {R : RP} {w w' : World} {nid : Nat} {H' : Heap} {v : V} {u : Value} (ok : R.OK w) (hp : Placed R.H [] nid [] H') (hh : w'.heap = w.heap) (ho : w'.os = w.os) (ht : w'.tape = w.tape) (hpt : w'.output = w.output)
    (hv : DenV R w v u) : Post R w nid 0 H' v u w' :=
  ⟨R, Ext.draw hh ho ht hpt, ok.draw hh ho ht hpt, hp.same.symm, (Ext.draw hh ho ht hpt).denV ok.b01 v u hv, fun i h _ => h⟩

theorem Post.stay {R : RP} {w : World} {nid : Nat} {H' : Heap} {v : V} {u : Value} (ok : R.OK w) (hp : Placed R.H [] nid [] H') (hv : DenV R w v u) : Post R w nid 0 H' v u w :=
  Post.still ok hp rfl rfl rfl rfl hv

/-- One new block. -/
theorem Post.new {R : RP} {w : World} {nid : Nat} {H' : Heap} {v : V} {u : Value} {blk : Blk} {m : Option Nat} (o : Obj) (ok : R.OK w) (hp : Placed R.H [] nid [blk] H') (hn : R.M nid = none) (hm : m = none ∨ m = some w.heap.size)
    (hk : ∀ R' : RP, Ext R w R' (w.alloc o) → R'.M nid = some m → R'.H[nid]? = some blk → BlkOK R' (w.alloc o) m blk ∧ (BlkOK R' (w.alloc o) m blk → DenV R' (w.alloc o) v u)) : Post R w nid 1 H' v u (w.alloc o) := by
  have hH : ∀ i, i ≠ nid → H'[i]? = R.H[i]? := fun i hi => by
    have := hp i
    rw [this, if_neg (by simp; omega)]; rfl
  have hb : H'[nid]? = some blk := by
    have := hp nid
    rw [this, if_pos (by simp)]; simp
  have e := Ext.new (R := R) (w := w) (H' := H') (n := nid) (blk := blk) (m := m) o hn hH hb hm ok.lt ok.al
  have hk' := hk _ e (by simp) hb
  exact ⟨_, e, ok.new hn hH hb hm (fun _ => hk'.1), rfl, hk'.2 hk'.1, fun i hi hni => by
    have : i ≠ nid := fun h => hni (by subst h; simp)
    simp [this, hi]⟩

end Go.Proofs.YtljgncbdagmeeaaDoorE
