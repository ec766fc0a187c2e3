/- The operations, one by one: what the evaluator says of each is what the model does. -/
import Derived.Test.YtljgncbdagmeeaaDoorE4
import Derived.Test.YtljgncbdagmeeaaDoorE5
import Derived.Laws.MakeOwn
namespace Go.Proofs.YtljgncbdagmeeaaDoorE
open Go
set_option linter.unusedVariables false
set_option linter.unusedSimpArgs false

/-! ## Types -/
def aggOf (P : Program) (t : TypeId) : Option Bool :=
  match P.underlying t with
  | some (.struct _) => some true
  | some (.array _ _) => some true
  | some _ => some false
  | none => none
def szOf (P : Program) (t : TypeId) : Option Nat := (P.info? t).map (·.size)

theorem run_isAgg {P : Program} {w : World} {t : TypeId} {ag : Bool} (h : aggOf P t = some ag) : (isAgg t).run P w = .ok ag w := by
  unfold aggOf at h
  cases hu : P.underlying t with
  | none => simp [hu] at h
  | some d =>
    rw [hu] at h
    have := run_underlying (P := P) (w := w) hu
    simp only [isAgg, Sem.run_bind, this, Result.andThen_ok]
    cases d <;> simp_all

theorem run_sizeOf {P : Program} {w : World} {t : TypeId} {n : Nat} (h : szOf P t = some n) : (sizeOf t).run P w = .ok n w := by
  unfold szOf at h
  cases hi : P.info? t with
  | none => simp [hi] at h
  | some i =>
    simp only [hi, Option.map_some, Option.some.injEq] at h
    subst h
    simp [sizeOf, typeInfo, hi]

/-! ## Aggregates -/
section
variable {R : RP} {w : World}

theorem denVs_len : ∀ (vs : List V) (us : List Value), DenVs R w vs us → us.length = vs.length
  | [], us, h => by simp only [DenVs] at h; subst h; rfl
  | v :: vs, us, h => by
    obtain ⟨u, us', rfl, e1, e2⟩ := h
    simp [denVs_len vs us' e2]
theorem denVs_at : ∀ (vs : List V) (us : List Value) (j : Nat) (v : V), DenVs R w vs us → vs[j]? = some v → ∃ u, us[j]? = some u ∧ DenV R w v u
  | [], us, j, v, _, hj => by simp at hj
  | y :: vs, us, 0, v, h, hj => by
    obtain ⟨u, us', rfl, e1, e2⟩ := h
    simp at hj; subst hj
    exact ⟨u, by simp, e1⟩
  | y :: vs, us, j + 1, v, h, hj => by
    obtain ⟨u, us', rfl, e1, e2⟩ := h
    simpa using denVs_at vs us' j v e2 (by simpa using hj)
theorem denVs_mk : ∀ (vs : List V) (us : List Value), us.length = vs.length → (∀ (j : Nat) v u, vs[j]? = some v → us[j]? = some u → DenV R w v u) → DenVs R w vs us
  | [], us, hl, _ => by simpa [DenVs] using hl
  | y :: vs, [], hl, _ => by simp at hl
  | y :: vs, u :: us, hl, h => ⟨u, us, rfl, h 0 y u rfl rfl, denVs_mk vs us (by simpa using hl) fun j x v hx hv => h (j + 1) x v (by simpa using hx) (by simpa using hv)⟩

theorem mapd_eq : ∀ (l : List D), mapd l = l.map V.d
  | [] => rfl
  | x :: l => by simp [mapd, mapd_eq l]

theorem denVs_mapd : ∀ (l : List D) (us : List Value), DenVs R w (mapd l) us ↔ DenDs R.A1 R.A0 R.AL w l us
  | [], us => Iff.rfl
  | x :: l, us => by
    simp only [mapd, DenVs, DenDs]
    constructor
    · rintro ⟨u, us', e, h1, h2⟩; exact ⟨u, us', e, h1, (denVs_mapd l us').1 h2⟩
    · rintro ⟨u, us', e, h1, h2⟩; exact ⟨u, us', e, h1, (denVs_mapd l us').2 h2⟩

theorem allD_some : ∀ {vs : List V} {l : List D}, allD vs = some l → vs = mapd l
  | [], l, h => by simp [allD] at h; subst h; rfl
  | v :: vs, l, h => by
    cases v <;> simp only [allD] at h <;> try (cases h; done)
    rename_i x
    cases hr : allD vs with
    | none => simp [hr] at h
    | some l' =>
      simp only [hr, Option.some.injEq] at h
      subst h
      rw [allD_some hr, mapd]

theorem mkAgg_ok {vs : List V} {us : List Value} (h : DenVs R w vs us) : DenV R w (mkAgg vs) (.agg us.toArray) := by
  unfold mkAgg
  cases ha : allD vs with
  | none => exact ⟨us, rfl, h⟩
  | some l =>
    rw [allD_some ha, denVs_mapd] at h
    exact ⟨us, rfl, h⟩
theorem mkTup_ok {vs : List V} {us : List Value} (h : DenVs R w vs us) : DenV R w (mkTup vs) (.tuple us.toArray) := by
  unfold mkTup
  cases ha : allD vs with
  | none => exact ⟨us, rfl, h⟩
  | some l =>
    rw [allD_some ha, denVs_mapd] at h
    exact ⟨us, rfl, h⟩

/-- the cells of a value -/
theorem cells_ok {v : V} {u : Value} (h : DenV R w v u) (hv : v.okb = true) : DenVs R w v.cells u.cells.toList := by
  cases v with
  | d x =>
    cases x with
    | agg cs =>
      obtain ⟨us, rfl, h⟩ := h
      simpa [V.cells, Value.cells] using (denVs_mapd cs us).2 h
    | tup cs => simp [V.okb] at hv
    | bool b => simp only [DenV, RP.den, DenD] at h; subst h; exact ⟨_, [], rfl, by simp [DenV, RP.den, DenD], rfl⟩
    | int k n => simp only [DenV, RP.den, DenD] at h; subst h; exact ⟨_, [], rfl, by simp [DenV, RP.den, DenD], rfl⟩
    | str s => simp only [DenV, RP.den, DenD] at h; subst h; exact ⟨_, [], rfl, by simp [DenV, RP.den, DenD], rfl⟩
    | nilfn => simp only [DenV, RP.den, DenD] at h; subst h; exact ⟨_, [], rfl, by simp [DenV, RP.den, DenD], rfl⟩
    | nilp => simp only [DenV, RP.den, DenD] at h; subst h; exact ⟨_, [], rfl, by simp [DenV, RP.den, DenD], rfl⟩
    | nilI => simp only [DenV, RP.den, DenD] at h; subst h; exact ⟨_, [], rfl, by simp [DenV, RP.den, DenD], rfl⟩
    | list own xs =>
      have h' := h
      obtain ⟨a, len, cap, rfl, _⟩ := h'
      exact ⟨_, [], rfl, h, rfl⟩
    | fn f caps =>
      have h' := h
      obtain ⟨us, rfl, _⟩ := h'
      exact ⟨_, [], rfl, h, rfl⟩
    | rptr cs =>
      have h' := h
      obtain ⟨b, off, rfl, _⟩ := h'
      exact ⟨_, [], rfl, h, rfl⟩
    | iface t v =>
      have h' := h
      obtain ⟨u', rfl, _⟩ := h'
      exact ⟨_, [], rfl, h, rfl⟩
  | bad => simp [V.okb] at hv
  | tup cs => simp [V.okb] at hv
  | agg cs =>
    obtain ⟨us, rfl, h⟩ := h
    simpa [V.cells, Value.cells] using h
  | nilsl sz =>
    have h' := h
    obtain ⟨a, rfl⟩ := h'
    exact ⟨_, [], rfl, h, rfl⟩
  | fn f caps =>
    have h' := h
    obtain ⟨us, rfl, _⟩ := h'
    exact ⟨_, [], rfl, h, rfl⟩
  | ptr b o =>
    have h' := h
    obtain ⟨c, _, rfl⟩ := h'
    exact ⟨_, [], rfl, h, rfl⟩
  | eptr b sz i k =>
    have h' := h
    obtain ⟨c, _, rfl⟩ := h'
    exact ⟨_, [], rfl, h, rfl⟩
  | sl b sz =>
    have h' := h
    obtain ⟨⟨a, n, c, rfl⟩, _⟩ := h'
    exact ⟨_, [], rfl, h, rfl⟩
  | slp b sz o l =>
    have h' := h
    obtain ⟨⟨a, n, c, rfl⟩, _⟩ := h'
    exact ⟨_, [], rfl, h, rfl⟩
  | mp b =>
    have h' := h
    obtain ⟨⟨a, rfl⟩, _⟩ := h'
    exact ⟨_, [], rfl, h, rfl⟩
end

/-! ## What is asked ahead of an operation -/
structure Pre (G : Globs) (R : RP) (w : World) (e : Env) (a : Act) (Hm : Heap) : Prop where
  ok : R.OK w
  g : GOK G R w
  env : EnvOK R w e a
  le : ∀ b blk, nth Hm b = some blk → blk ≠ .dead → nth R.H b = some blk

section
variable {P : Program} {G : Globs} {R : RP} {w : World} {e : Env} {a : Act} {Hm H' : Heap} {nid : Nat} {o : Oper}

theorem Pre.opd (pre : Pre G R w e a Hm) {x : Operand} {y : Opd} (h : okOpd G x y = true) : DenV R w (y.val e) (a.eval x) := okOpd_ok pre.g pre.env h
theorem Pre.opds (pre : Pre G R w e a Hm) {xs : List Operand} {ys : List Opd} (h : okOpds G xs ys = true) : DenVs R w (vals e ys) (xs.map a.eval) := okOpds_ok pre.g pre.env h

theorem opOK_v {s : Sem Value} {u : Value} {w' : World} {Po : Value → World → Prop} (hx : execOp a.eval o = (do pure (Next.value (← s)))) (hr : s.run P w = .ok u w') (hp : Po u w') : OpOK P o a w Po :=
  .val (by rw [hx]; simp [hr]) hp

theorem s_mov (pre : Pre G R w e a Hm) {x : Operand} {y : Opd} (hop : o.op = .move x ∨ o.op = .assign x) (hx : okOpd G x y = true) (hp : Placed R.H [] nid [] H') :
    OpOK P o a w (Post R w nid 0 H' (y.val e)) := by
  refine .val (u := a.eval x) (w' := w) ?_ (Post.stay pre.ok hp (pre.opd hx))
  rcases hop with h | h <;> (unfold execOp; rw [h]; rfl)

theorem s_pick (pre : Pre G R w e a Hm) {c x y : Operand} {c' x' y' : Opd} {t : Bool} (hop : o.op = .pick c x y) (hc : okOpd G c c' = true) (hx : okOpd G x x' = true) (hy : okOpd G y y' = true)
    (ht : c'.val e = .d (.bool t)) (hp : Placed R.H [] nid [] H') : OpOK P o a w (Post R w nid 0 H' (bif t then x'.val e else y'.val e)) := by
  have hcv := pre.opd hc
  rw [ht] at hcv
  simp only [DenV, RP.den, DenD] at hcv
  refine .val (u := if t = true then a.eval x else a.eval y) (w' := w) ?_ (Post.stay pre.ok hp ?_)
  · unfold execOp; rw [hop]; simp [hcv, asBool]
  · cases t
    · exact pre.opd hy
    · exact pre.opd hx

/-! loads -/
theorem run_loadVar_one {t : TypeId} {x : Addr} {u : Value} (h : aggOf P t = some false) (hc : w.cell? x = some u) : (loadVar t x).run P w = .ok u w := by
  unfold loadVar
  simp only [Sem.run_bind, run_isAgg h, Result.andThen_ok, Bool.false_eq_true, if_false, run_load, hc]
theorem run_loadVar_agg {t : TypeId} {x : Addr} {us : List Value} (h : aggOf P t = some true) (hs : szOf P t = some us.length) (hc : ∀ (j : Nat) v, us[j]? = some v → w.cell? (x.add j) = some v) :
    (loadVar t x).run P w = .ok (.agg us.toArray) w := by
  unfold loadVar
  simp only [Sem.run_bind, run_isAgg h, run_sizeOf hs, Result.andThen_ok, if_true, run_loadCells_list w x us hc, Sem.run_pure]

theorem oneCell_ok {n : Nat} {ag : Bool} {cs : List V} {v : V} {t : TypeId} {b off : Nat} (hc : ∀ (j : Nat) v, cs[j]? = some v → ∃ u, w.cell? ⟨b, off + j, none⟩ = some u ∧ DenV R w v u)
    (hag : aggOf P t = some ag) (hsz : szOf P t = some n) (h : oneCell n ag cs = some v) : ∃ u, (loadVar t ⟨b, off, none⟩).run P w = .ok u w ∧ DenV R w v u := by
  unfold oneCell at h
  cases ag with
  | false =>
    simp only [cond_false] at h
    obtain ⟨u, h1, h2⟩ := hc 0 v (by rw [← List.head?_eq_getElem?]; exact h)
    exact ⟨u, run_loadVar_one hag (by simpa using h1), h2⟩
  | true =>
    simp only [cond_true] at h
    cases hl : Nat.beq (cs.take n).length n with
    | false => rw [hl] at h; cases h
    | true =>
      rw [hl] at h
      simp only [cond_true, Option.some.injEq] at h
      subst h
      have hl' : (cs.take n).length = n := Nat.eq_of_beq_eq_true hl
      let us : List Value := (List.range n).map fun j => (w.cell? ⟨b, off + j, none⟩).getD undef
      have hus : us.length = n := by simp [us]
      have key : ∀ (j : Nat) v, (cs.take n)[j]? = some v → ∃ u, us[j]? = some u ∧ w.cell? ⟨b, off + j, none⟩ = some u ∧ DenV R w v u := by
        intro j v hj
        have hjn : j < n := by have := (List.getElem?_eq_some_iff.1 hj).1; omega
        obtain ⟨u, h1, h2⟩ := hc j v (by rw [List.getElem?_take] at hj; simpa [hjn] using hj)
        exact ⟨u, by simp [us, hjn, h1], h1, h2⟩
      refine ⟨.agg us.toArray, run_loadVar_agg hag (by rw [hus]; exact hsz) ?_, mkAgg_ok (denVs_mk _ _ (by omega) ?_)⟩
      · intro j v hv
        have hjn : j < n := by have := (List.getElem?_eq_some_iff.1 hv).1; omega
        obtain ⟨v0, hv0⟩ : ∃ v0, (cs.take n)[j]? = some v0 := ⟨_, List.getElem?_eq_getElem (by omega)⟩
        obtain ⟨u, f1, f2, _⟩ := key j v0 hv0
        rw [hv] at f1; cases f1
        rw [Addr.add_lit]; exact f2
      · intro j v u hv hu
        obtain ⟨u', f1, _, f3⟩ := key j v hv
        rw [hu] at f1; cases f1; exact f3

theorem cell_of_heap {b off : Nat} {cs : Array Value} {el : TypeId} {fr : Nat × Nat} (h : w.heap[b]? = some (.cells cs el fr)) : w.cell? ⟨b, off, none⟩ = cs[off]? := by
  simp [World.cell?, h]

theorem load_ok (pre : Pre G R w e a Hm) {n : Nat} {ag : Bool} {t : TypeId} {x v : V} {u0 : Value} (hag : aggOf P t = some ag) (hsz : szOf P t = some n) (hx : DenV R w x u0) (h : loadE Hm n ag x = some v) :
    ∃ u, (Instr.loadAt t u0).run P w = .ok u w ∧ DenV R w v u := by
  unfold loadE at h
  cases x with
  | ptr b o =>
    dsimp only at h
    cases hb : nth Hm b with
    | none => simp [hb] at h
    | some blk =>
      rw [hb] at h
      cases blk <;> try (cases h; done)
      rename_i cs
      have hb' := pre.le b _ hb (by simp)
      obtain ⟨c, h1, rfl⟩ := hx
      rw [nth_eq] at hb'
      obtain ⟨c', cs', el, fr, e1, e2, e3, e4, e5⟩ := pre.ok.blk b _ _ hb' h1
      cases e1
      obtain ⟨u, f1, f2⟩ := oneCell_ok (P := P) (cs := cs.drop o) (b := c) (off := o) (by
        intro j v hj
        obtain ⟨u, g1, g2⟩ := e5 (o + j) v (by simpa using hj)
        exact ⟨u, by rw [cell_of_heap e2]; exact g1, g2⟩) hag hsz h
      exact ⟨u, by simpa [Instr.loadAt, Instr.sureAddr] using f1, f2⟩
  | eptr b sz i k =>
    dsimp only at h
    cases hb : nth Hm b with
    | none => simp [hb] at h
    | some blk =>
      rw [hb] at h
      cases blk <;> try (cases h; done)
      rename_i sz' xs
      dsimp only at h
      cases hs : Nat.beq sz sz' with
      | false => simp [hs] at h
      | true =>
        obtain rfl := Nat.eq_of_beq_eq_true hs
        simp only [hs, cond_true] at h
        cases hxi : nth xs i with
        | none => simp [hxi] at h
        | some y =>
          simp only [hxi] at h
          have hb' := pre.le b _ hb (by simp)
          obtain ⟨c, h1, rfl⟩ := hx
          rw [nth_eq] at hb' hxi
          obtain ⟨e0, e1, e2⟩ := pre.ok.blk b _ _ hb' h1
          rcases e2 with ⟨e2, _⟩ | ⟨c', cs, el, e2, e3, e4, e5⟩
          · cases e2
          · cases e2
            obtain ⟨uy, f1, f2, f3⟩ := e5 i y hxi
            have hyb : (V.d y).okb = true ∨ ∃ ts, y = .tup ts := by cases y <;> simp [V.okb]
            rcases hyb with hyb | ⟨ts, rfl⟩
            · have hcs := cells_ok (R := R) (v := .d y) f1 hyb
              have hVc : (V.d y).cells = mapd y.cells := by cases y <;> rfl
              rw [hVc] at hcs
              obtain ⟨u, g1, g2⟩ := oneCell_ok (P := P) (cs := mapd (y.cells.drop k)) (b := c) (off := i * sz + k) (by
                intro j v hj
                have hj' : (mapd y.cells)[k + j]? = some v := by
                  rw [mapd_eq, List.getElem?_map] at hj ⊢
                  simpa using hj
                obtain ⟨u, p1, p2⟩ := denVs_at _ _ _ _ hcs hj'
                refine ⟨u, ?_, p2⟩
                rw [cell_of_heap e3, Nat.add_assoc]
                exact f3 (k + j) u (by simpa using p1)) hag hsz h
              exact ⟨u, by simpa [Instr.loadAt, Instr.sureAddr] using g1, g2⟩
            · have f1' := f1
              obtain ⟨us, rfl, _⟩ := f1'
              obtain ⟨u, g1, g2⟩ := oneCell_ok (P := P) (cs := mapd (D.cells (.tup ts) |>.drop k)) (b := c) (off := i * sz + k) (by
                intro j v hj
                cases k with
                | zero =>
                  cases j with
                  | zero =>
                    simp [D.cells, mapd] at hj
                    subst hj
                    refine ⟨.tuple us.toArray, ?_, f1⟩
                    rw [cell_of_heap e3]
                    have := f3 0 (.tuple us.toArray) rfl
                    simpa using this
                  | succ j => simp [D.cells, mapd] at hj
                | succ k => simp [D.cells, mapd] at hj) hag hsz h
              exact ⟨u, by simpa [Instr.loadAt, Instr.sureAddr] using g1, g2⟩
  | d y =>
    cases y <;> try (cases h; done)
    rename_i cs
    dsimp only at h
    obtain ⟨b, off, rfl, h1, h2, h3⟩ := hx
    obtain ⟨u, g1, g2⟩ := oneCell_ok (P := P) (cs := mapd cs) (b := b) (off := off) (by
      intro j v hj
      rw [mapd_eq, List.getElem?_map] at hj
      cases hcj : cs[j]? with
      | none => simp [hcj] at hj
      | some x =>
        simp [hcj] at hj
        subst hj
        obtain ⟨u, p1, p2⟩ := denCells_at cs off j x h3 hcj
        exact ⟨u, p1, p2⟩) hag hsz h
    exact ⟨u, by simpa [Instr.loadAt, Instr.sureAddr] using g1, g2⟩
  | bad => cases h
  | sl b sz => cases h
  | slp b sz o l => cases h
  | nilsl sz => cases h
  | agg cs => cases h
  | tup cs => cases h
  | fn f cs => cases h
  | mp b => cases h

theorem s_load (pre : Pre G R w e a Hm) {n : Nat} {ag : Bool} {t : TypeId} {x : Operand} {y : Opd} {v : V} (hop : o.op = .load t x) (hx : okOpd G x y = true) (hag : aggOf P t = some ag) (hsz : szOf P t = some n)
    (h : loadE Hm n ag (y.val e) = some v) (hp : Placed R.H [] nid [] H') : OpOK P o a w (Post R w nid 0 H' v) := by
  obtain ⟨u, h1, h2⟩ := load_ok pre hag hsz (pre.opd hx) h
  exact opOK_v (s := Instr.loadAt t (a.eval x)) (by unfold execOp; rw [hop]) h1 (Post.stay pre.ok hp h2)

/-! addresses -/
def fieldOf (P : Program) (s : TypeId) (f : Nat) : Option (Nat × TypeId) :=
  match P.underlying s with
  | some (.struct fields) => (fields[f]?).map fun x => (x.offset, x.type)
  | _ => none

theorem fieldOf_spec {s : TypeId} {f off : Nat} {t : TypeId} (h : fieldOf P s f = some (off, t)) : ∃ fields fd, P.underlying s = some (.struct fields) ∧ fields[f]? = some fd ∧ fd.offset = off ∧ fd.type = t := by
  unfold fieldOf at h
  split at h
  · rename_i fields hu
    cases hf : fields[f]? with
    | none => simp [hf] at h
    | some fd =>
      simp only [hf, Option.map_some, Option.some.injEq, Prod.mk.injEq] at h
      exact ⟨fields, fd, hu, hf, h.1, h.2⟩
  · cases h

theorem run_fieldAt {s : TypeId} {f off n : Nat} {t : TypeId} {x : Addr} (h : fieldOf P s f = some (off, t)) (hn : szOf P t = some n) (h0 : n ≠ 0) :
    (Instr.fieldAt s (.pointer (some x)) f).run P w = .ok (.pointer (some (x.add off))) w := by
  obtain ⟨fields, fd, h1, h2, rfl, rfl⟩ := fieldOf_spec h
  simp [Instr.fieldAt, run_underlying h1, h2, Instr.sureAddr, fieldPlace, run_sizeOf hn, h0]

theorem faddr_ok (pre : Pre G R w e a Hm) {off : Nat} {x v : V} {u0 : Value} (hx : DenV R w x u0) (h : faddrE Hm off x = some v) : ∃ ad, u0 = .pointer (some ad) ∧ DenV R w v (.pointer (some (ad.add off))) := by
  unfold faddrE at h
  cases x <;> try (cases h; done)
  · rename_i y
    cases y <;> try (cases h; done)
    rename_i cs
    simp only [Option.some.injEq] at h
    subst h
    obtain ⟨b, of, rfl, h1, h2, h3⟩ := hx
    exact ⟨_, rfl, b, of + off, by rw [Addr.add_lit], h1, h2, denCells_drop cs of off h3⟩
  · rename_i b o
    simp only [Option.some.injEq] at h
    subst h
    obtain ⟨c, h1, rfl⟩ := hx
    exact ⟨_, rfl, c, h1, by rw [Addr.add_lit]⟩
  · rename_i b sz i k
    simp only [Option.some.injEq] at h
    subst h
    obtain ⟨c, h1, rfl⟩ := hx
    exact ⟨_, rfl, c, h1, by rw [Addr.add_lit, Nat.add_assoc]⟩

theorem s_faddr (pre : Pre G R w e a Hm) {s t : TypeId} {f off n : Nat} {x : Operand} {y : Opd} {v : V} (hop : o.op = .fieldAddr s x f) (hx : okOpd G x y = true) (hf : fieldOf P s f = some (off, t)) (hn : szOf P t = some n) (h0 : n ≠ 0)
    (h : faddrE Hm off (y.val e) = some v) (hp : Placed R.H [] nid [] H') : OpOK P o a w (Post R w nid 0 H' v) := by
  obtain ⟨ad, h1, h2⟩ := faddr_ok pre (pre.opd hx) h
  exact opOK_v (s := Instr.fieldAt s (a.eval x) f) (by unfold execOp; rw [hop]) (by rw [h1]; exact run_fieldAt hf hn h0) (Post.stay pre.ok hp h2)

/-! numbers -/
theorem denI {k : IntKind} {n : Int} {u : Value} (h : DenV R w (.d (.int k n)) u) : u = .int k n := h
theorem denB {b : Bool} {u : Value} (h : DenV R w (.d (.bool b)) u) : u = .bool b := h

theorem binE_ok {op : BinOp} {x y : V} {r : D} {u1 u2 : Value} (t : TypeId) (ox oy : Operand) (hx : DenV R w x u1) (hy : DenV R w y u2) (h : binE op x y = some r) :
    ∃ u, ((do eqGuard op t ox oy u1 u2; binOp op t u1 u2 : Sem Value)).run P w = .ok u w ∧ R.den w r u := by
  unfold binE at h
  split at h
  · rename_i i a1 j b1
    cases denI hx; cases denI hy
    unfold shI at h
    cases hb : decide (b1 < 0) with
    | true => simp [hb] at h
    | false =>
      simp only [hb, cond_false, Option.some.injEq] at h
      subst h
      have hb' : ¬ b1 < 0 := of_decide_eq_false hb
      refine ⟨_, ?_, rfl⟩
      simp [eqGuard, binOp, Op.shift, hb']
  · rename_i i a1 j b1
    cases denI hx; cases denI hy
    unfold shI at h
    cases hb : decide (b1 < 0) with
    | true => simp [hb] at h
    | false =>
      simp only [hb, cond_false, Option.some.injEq] at h
      subst h
      have hb' : ¬ b1 < 0 := of_decide_eq_false hb
      refine ⟨_, ?_, rfl⟩
      simp [eqGuard, binOp, Op.shift, hb']
  · rename_i op' i a1 j b1 hn1 hn2
    cases denI hx; cases denI hy
    cases hk : i == j with
    | false => simp [hk] at h
    | true =>
      obtain rfl : i = j := by simpa using hk
      simp only [hk, cond_true] at h
      cases op <;> simp only [binI, Option.some.injEq] at h
      case shl => exact (hn1 rfl).elim
      case shr => exact (hn2 rfl).elim
      case andNot => cases h
      case quo =>
        cases hb : b1 == 0 with
        | true => simp [hb] at h
        | false =>
          simp only [hb, cond_false, Option.some.injEq] at h
          subst h
          exact ⟨_, by simp [eqGuard, binOp, Op.intDiv, show ¬ b1 = 0 by simpa using hb], rfl⟩
      case rem =>
        cases hb : b1 == 0 with
        | true => simp [hb] at h
        | false =>
          simp only [hb, cond_false, Option.some.injEq] at h
          subst h
          exact ⟨_, by simp [eqGuard, binOp, Op.intDiv, show ¬ b1 = 0 by simpa using hb], rfl⟩
      all_goals (subst h; exact ⟨_, by simp [eqGuard, binOp, Op.intArith, Op.intBits, Op.intCmp], rfl⟩)
  · cases h

theorem s_bin (pre : Pre G R w e a Hm) {op : BinOp} {t t' : TypeId} {x y : Operand} {x' y' : Opd} {r : D} (hop : o.op = .binOp op t x y t') (hx : okOpd G x x' = true) (hy : okOpd G y y' = true)
    (h : binE op (x'.val e) (y'.val e) = some r) (hp : Placed R.H [] nid [] H') : OpOK P o a w (Post R w nid 0 H' (.d r)) := by
  obtain ⟨u, h1, h2⟩ := binE_ok (P := P) t x y (pre.opd hx) (pre.opd hy) h
  exact opOK_v (s := do eqGuard op t x y (a.eval x) (a.eval y); binOp op t (a.eval x) (a.eval y)) (by unfold execOp; rw [hop]) h1 (Post.stay pre.ok hp h2)

theorem s_un (pre : Pre G R w e a Hm) {op : UnOp} {t : TypeId} {x : Operand} {x' : Opd} {r : D} (hop : o.op = .unOp op t x) (hx : okOpd G x x' = true)
    (h : unE op (x'.val e) = some r) (hp : Placed R.H [] nid [] H') : OpOK P o a w (Post R w nid 0 H' (.d r)) := by
  have hv := pre.opd hx
  unfold unE at h
  split at h
  · rename_i b hb
    rw [hb] at hv
    simp only [Option.some.injEq] at h
    subst h
    exact opOK_v (s := Op.unary .not (a.eval x)) (u := .bool !b) (by unfold execOp; rw [hop]) (by rw [denB hv]; rfl) (Post.stay pre.ok hp rfl)
  · rename_i k n hb
    rw [hb] at hv
    simp only [Option.some.injEq] at h
    subst h
    exact opOK_v (s := Op.unary .neg (a.eval x)) (u := .int k (k.wrap (0 - n))) (by unfold execOp; rw [hop]) (by rw [denI hv]; rfl) (Post.stay pre.ok hp rfl)
  · cases h

theorem s_conv (pre : Pre G R w e a Hm) {s t : TypeId} {k k0 : IntKind} {n : Int} {ds : TypeDesc} {x : Operand} {x' : Opd} (hop : o.op = .convert s t x) (hx : okOpd G x x' = true) (hs : P.underlying s = some ds) (ht : P.underlying t = some (.int k))
    (h : x'.val e = .d (.int k0 n)) (hp : Placed R.H [] nid [] H') : OpOK P o a w (Post R w nid 0 H' (.d (.int k (k.wrap n)))) := by
  have hv := pre.opd hx
  rw [h] at hv
  refine opOK_v (s := convert s t (a.eval x)) (u := .int k (k.wrap n)) (by unfold execOp; rw [hop]) ?_ (Post.stay pre.ok hp rfl)
  rw [denI hv]
  simp [convert, run_underlying hs, run_underlying ht, Conv.intToInt]

theorem s_extract (pre : Pre G R w e a Hm) {x : Operand} {x' : Opd} {i : Nat} {v : V} (hop : o.op = .extract x i) (hx : okOpd G x x' = true)
    (h : (∃ vs, x'.val e = .tup vs ∧ nth vs i = some v) ∨ (∃ vs y, x'.val e = .d (.tup vs) ∧ nth vs i = some y ∧ v = .d y)) (hp : Placed R.H [] nid [] H') : OpOK P o a w (Post R w nid 0 H' v) := by
  have hv := pre.opd hx
  rcases h with ⟨vs, h1, h2⟩ | ⟨vs, y, h1, h2, rfl⟩
  · rw [h1] at hv
    obtain ⟨us, h3, h4⟩ := hv
    rw [nth_eq] at h2
    obtain ⟨u, h5, h6⟩ := denVs_at vs us i v h4 h2
    exact opOK_v (s := Instr.extract (a.eval x) i) (u := u) (by unfold execOp; rw [hop]) (by rw [h3]; simp [Instr.extract, h5]) (Post.stay pre.ok hp h6)
  · rw [h1] at hv
    obtain ⟨us, h3, h4⟩ := hv
    rw [nth_eq] at h2
    obtain ⟨u, h5, h6⟩ := denDs_at vs us i y h4 h2
    exact opOK_v (s := Instr.extract (a.eval x) i) (u := u) (by unfold execOp; rw [hop]) (by rw [h3]; simp [Instr.extract, h5]) (Post.stay pre.ok hp h6)

theorem s_mkfn (pre : Pre G R w e a Hm) {f : Nat} {first caps : Array Operand} {ys : List Opd} (hop : o.op = .makeFunc (.func f) first caps) (hf : first = #[]) (hx : okOpds G caps.toList ys = true) (hp : Placed R.H [] nid [] H') :
    OpOK P o a w (Post R w nid 0 H' (match ys with | [] => .d (.fn f []) | ys => .fn f (vals e ys))) := by
  subst hf
  have hv := pre.opds hx
  refine opOK_v (s := Instr.makeFunc (.func f) (#[].map a.eval) (caps.map a.eval)) (u := .func (.func f) #[] (caps.toList.map a.eval).toArray) (by unfold execOp; rw [hop]) (by
    have hc : caps.map a.eval = (caps.toList.map a.eval).toArray := by apply Array.ext'; simp
    rw [hc]; simp [Instr.makeFunc]) (Post.stay pre.ok hp ?_)
  cases ys with
  | nil =>
    simp only [vals, DenVs] at hv
    exact ⟨[], by simp [hv], rfl⟩
  | cons y ys => exact ⟨_, rfl, hv⟩
end

end Go.Proofs.YtljgncbdagmeeaaDoorE
