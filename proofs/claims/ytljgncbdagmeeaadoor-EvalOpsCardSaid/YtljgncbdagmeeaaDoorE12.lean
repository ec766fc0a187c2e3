/- The operations, one by one: aggregates, comparisons. -/
import Derived.Test.YtljgncbdagmeeaaDoorE11
namespace Go.Proofs.YtljgncbdagmeeaaDoorE
open Go
set_option linter.unusedVariables false
set_option linter.unusedSimpArgs false

/-! ranges -/
theorem setRange_len {α : Type} : ∀ (vs cs : List α) (o : Nat), (setRange cs o vs).length = cs.length
  | [], cs, o => rfl
  | v :: vs, cs, o => by rw [setRange, setRange_len vs, setAt_eq, List.length_set]
theorem setRange_get {α : Type} : ∀ (vs cs : List α) (o j : Nat), (setRange cs o vs)[j]? = if o ≤ j ∧ j < o + vs.length then (if j < cs.length then vs[j - o]? else none) else cs[j]?
  | [], cs, o, j => by rw [setRange, if_neg (by simp only [List.length_nil]; omega)]
  | v :: vs, cs, o, j => by
    rw [setRange, setRange_get vs, setAt_eq, List.length_set, List.getElem?_set]
    by_cases h1 : o = j
    · subst h1
      have hR : o ≤ o ∧ o < o + (v :: vs).length := by simp only [List.length_cons]; omega
      have hL : ¬ (o + 1 ≤ o ∧ o < o + 1 + vs.length) := by omega
      rw [if_neg hL, if_pos rfl, if_pos hR]
      by_cases h2 : o < cs.length
      · rw [if_pos h2, if_pos h2, Nat.sub_self, List.getElem?_cons_zero]
      · rw [if_neg h2, if_neg h2]
    · rw [if_neg h1]
      by_cases h2 : o + 1 ≤ j ∧ j < o + 1 + vs.length
      · have hR : o ≤ j ∧ j < o + (v :: vs).length := by simp only [List.length_cons]; omega
        rw [if_pos h2, if_pos hR]
        have : j - o = (j - (o + 1)) + 1 := by omega
        rw [this, List.getElem?_cons_succ]
      · have hR : ¬ (o ≤ j ∧ j < o + (v :: vs).length) := by simp only [List.length_cons]; omega
        rw [if_neg h2, if_neg hR]

theorem fold_set : ∀ (vs : List Value) (k off : Nat) (cs : Array Value), ((vs.zipIdx k).foldl (fun cs (p : Value × Nat) => cs.setIfInBounds (off + p.2) p.1) cs).toList = setRange cs.toList (off + k) vs
  | [], k, off, cs => rfl
  | v :: vs, k, off, cs => by
    rw [List.zipIdx_cons, List.foldl_cons, fold_set vs (k + 1) off, setRange, setAt_eq]
    simp [Nat.add_assoc]

section
variable {P : Program} {G : Globs} {R : RP} {w : World} {e : Env} {a : Act} {Hm H' : Heap} {nid : Nat} {o : Oper}

theorem denVs_set {cs vs : List V} {us ws : List Value} (h : DenVs R w cs us) (k : DenVs R w vs ws) (off : Nat) : DenVs R w (setRange cs off vs) (setRange us off ws) := by
  have l1 := denVs_len _ _ h
  have l2 := denVs_len _ _ k
  refine denVs_mk _ _ (by rw [setRange_len, setRange_len, l1]) fun j v u hv hu => ?_
  rw [setRange_get] at hv hu
  rw [l2] at hu
  by_cases hj : off ≤ j ∧ j < off + vs.length
  · rw [if_pos hj] at hv hu
    by_cases hc : j < cs.length
    · rw [if_pos hc] at hv
      rw [if_pos (by omega)] at hu
      obtain ⟨u', e1, e2⟩ := denVs_at _ _ _ _ k hv
      rw [hu] at e1; cases e1; exact e2
    · rw [if_neg hc] at hv; cases hv
  · rw [if_neg hj] at hv hu
    obtain ⟨u', e1, e2⟩ := denVs_at _ _ _ _ h hv
    rw [hu] at e1; cases e1; exact e2

/-! aggregates -/
def partsOK (G : Globs) (place : Nat → Option (Nat × Nat)) : List (Nat × Operand) → List (Nat × Nat × Opd) → Bool
  | [], [] => true
  | (i, x) :: r, (off, size, y) :: s => (match place i with | some (off', size') => Nat.beq off off' && Nat.beq size size' | none => false) && okOpd G x y && partsOK G place r s
  | _, _ => false

theorem fill_ok (pre : Pre G R w e a Hm) {place : Nat → Option (Nat × Nat)} : ∀ (ps : List (Nat × Operand)) (qs : List (Nat × Nat × Opd)) (z : List V) (cells : Array Value) (z' : List V), partsOK G place ps qs = true → DenVs R w z cells.toList →
    fillV z (qs.map fun (o, s, x) => (o, s, x.val e)) = some z' → ∃ cells', Instr.fill place cells (ps.map fun (i, x) => (i, a.eval x)) = some cells' ∧ DenVs R w z' cells'.toList
  | [], [], z, cells, z', _, hd, h => by
    simp only [List.map_nil, fillV, Option.some.injEq] at h
    subst h
    exact ⟨cells, rfl, hd⟩
  | [], _ :: _, z, cells, z', hp, _, _ => by cases hp
  | _ :: _, [], z, cells, z', hp, _, _ => by cases hp
  | (i, x) :: ps, (off, size, y) :: qs, z, cells, z', hp, hd, h => by
    simp only [partsOK, Bool.and_eq_true] at hp
    obtain ⟨⟨h1, h2⟩, h3⟩ := hp
    cases hpl : place i with
    | none => rw [hpl] at h1; cases h1
    | some q =>
      obtain ⟨off', size'⟩ := q
      rw [hpl] at h1
      simp only [Bool.and_eq_true] at h1
      obtain rfl := Nat.eq_of_beq_eq_true h1.1
      obtain rfl := Nat.eq_of_beq_eq_true h1.2
      simp only [List.map_cons, fillV] at h
      cases hc : ((y.val e).okb && Nat.beq (y.val e).cells.length size && Nat.ble (off + size) z.length) with
      | false => rw [hc] at h; cases h
      | true =>
        rw [hc] at h
        simp only [cond_true] at h
        simp only [Bool.and_eq_true, Nat.ble_eq] at hc
        have hv := pre.opd h2
        have hcs := cells_ok hv hc.1.1
        have hl := denVs_len _ _ hcs
        have hn := Nat.eq_of_beq_eq_true hc.1.2
        have hz := denVs_len _ _ hd
        simp only [Array.length_toList] at hl hz
        obtain ⟨cells', e1, e2⟩ := fill_ok pre ps qs (setRange z off (y.val e).cells) ((a.eval x).cells.zipIdx.foldl (fun cs (c, j) => cs.setIfInBounds (off + j) c) cells) z' h3 (by
          have : ((a.eval x).cells.zipIdx.foldl (fun cs (c, j) => cs.setIfInBounds (off + j) c) cells).toList = setRange cells.toList off (a.eval x).cells.toList := by
            rw [← Array.foldl_toList, Array.toList_zipIdx]
            exact fold_set _ 0 off cells
          rw [this]
          exact denVs_set hd hcs off) h
        refine ⟨cells', ?_, e2⟩
        simp only [List.map_cons, Instr.fill, hpl]
        rw [if_neg (by simp; omega)]
        exact e1

/-- where a type's parts lie -/
def placesOf (P : Program) (t : TypeId) : Option (Nat → Option (Nat × Nat)) :=
  match P.underlying t with
  | some (.array _ e) => (P.info? e).map fun ie => fun i => some (i * ie.size, ie.size)
  | some (.struct fields) => (fields.toList.mapM (fun f => (P.info? f.type).map fun i => (f.offset, i.size))).map fun places => (places.toArray[·]?)
  | _ => none

def zeroOf (P : Program) (t : TypeId) : Option Value := match P.info? t with | some i => i.zero | none => none

theorem s_build (pre : Pre G R w e a Hm) {t : TypeId} {parts : Array (Nat × Operand)} {z : List V} {ps : List (Nat × Nat × Opd)} {cs : List V} {place : Nat → Option (Nat × Nat)} {zv : Value} (hop : o.op = .build t parts)
    (hpl : placesOf P t = some place) (hz : zeroOf P t = some zv) (hzc : cvs z zv.cells.toList = true) (hps : partsOK G place parts.toList ps = true) (h : fillV z (ps.map fun (o, s, x) => (o, s, x.val e)) = some cs) (hp : Placed R.H [] nid [] H') :
    OpOK P o a w (Post R w nid 0 H' (mkAgg cs)) := by
  obtain ⟨cells', h1, h2⟩ := fill_ok pre parts.toList ps z zv.cells cs hps (cvs_ok _ _ hzc) h
  have hb : P.built t (parts.map fun (i, x) => (i, a.eval x)).toList = some cells' := by
    rw [Array.toList_map]
    unfold Program.built
    unfold zeroOf at hz
    unfold placesOf at hpl
    cases hi : P.info? t with
    | none => rw [hi] at hz; cases hz
    | some it =>
      rw [hi] at hz
      dsimp only at hz
      cases hu : P.underlying t with
      | none => rw [hu] at hpl; cases hpl
      | some d =>
        rw [hu] at hpl
        cases d <;> try (cases hpl; done)
        · rename_i n el
          dsimp only at hpl ⊢
          cases hie : P.info? el with
          | none => rw [hie] at hpl; cases hpl
          | some ie =>
            rw [hie] at hpl
            simp only [Option.map_some, Option.some.injEq] at hpl
            subst hpl
            simp only [hz]
            exact h1
        · rename_i fields
          dsimp only at hpl ⊢
          cases hm : fields.toList.mapM (fun f => (P.info? f.type).map fun i => (f.offset, i.size)) with
          | none => rw [hm] at hpl; cases hpl
          | some places =>
            rw [hm] at hpl
            simp only [Option.map_some, Option.some.injEq] at hpl
            subst hpl
            simp only [hz, hm]
            exact h1
  refine opOK_v (s := Instr.build t (parts.map fun (i, x) => (i, a.eval x))) (by unfold execOp; rw [hop]) (run_build w t _ cells' hb) (Post.stay pre.ok hp ?_)
  have := mkAgg_ok h2
  simpa using this

/-! comparisons -/
def kindTy (P : Program) (t : TypeId) : Option Bool := match P.underlying t with | some .bool => some true | some (.int _) => some false | _ => none
def flatFields (P : Program) : Nat → List Field → Option (List Bool)
  | _, [] => some []
  | i, f :: fs => bif (f.name != "_") && Nat.beq f.offset i then (match kindTy P f.type, flatFields P (i + 1) fs with | some b, some l => some (b :: l) | _, _ => none) else none

theorem flatFields_len : ∀ (fs : List Field) (i : Nat) (ks : List Bool), flatFields P i fs = some ks → ks.length = fs.length
  | [], i, ks, h => by simp only [flatFields, Option.some.injEq] at h; subst h; rfl
  | f :: fs, i, ks, h => by
    simp only [flatFields] at h
    cases hc : ((f.name != "_") && Nat.beq f.offset i) with
    | false => rw [hc] at h; cases h
    | true =>
      rw [hc] at h
      simp only [cond_true] at h
      cases hkt : kindTy P f.type with
      | none => rw [hkt] at h; cases h
      | some b =>
        rw [hkt] at h
        cases hff : flatFields P (i + 1) fs with
        | none => rw [hff] at h; cases h
        | some ks' =>
          rw [hff] at h
          simp only [Option.some.injEq] at h
          subst h
          simp [flatFields_len fs (i + 1) ks' hff]

/-- may values of this type be compared so, and of which cells are they? -/
def eqTy (P : Program) (t : TypeId) : Option (List Bool) :=
  match P.underlying t with
  | some .bool => some [true]
  | some (.int _) => some [false]
  | some (.struct fs) => bif !(Nat.beq fs.toList.length 1) && (!(P.stoodInHeld t) && !(P.eqGuardType P.depth t)) then flatFields P 0 fs.toList else none
  | _ => none

theorem kindTy_agg {t : TypeId} {b : Bool} (h : kindTy P t = some b) : aggOf P t = some false := by
  unfold kindTy at h; unfold aggOf
  split at h <;> simp_all

theorem eq_cell {t : TypeId} {b : Bool} (ht : kindTy P t = some b) {x y : D} {u1 u2 : Value} {r : Bool} (hx : R.den w x u1) (hy : R.den w y u2) (h : eqD x y = some r) (hb : kindsB [b] [x] = true) (d : Nat) : (Op.equalIn (d + 1) t u1 u2).run P w = .ok r w := by
  unfold kindTy at ht
  split at ht
  · rename_i hu
    cases ht
    cases x <;> try (cases hb; done)
    cases y <;> try (cases h; done)
    cases hx; cases hy
    simp only [eqD, Option.some.injEq] at h
    subst h
    simp [Op.equalIn, run_underlying hu]
  · rename_i k0 hu
    cases ht
    cases x <;> try (cases hb; done)
    cases y <;> try (cases h; done)
    cases hx; cases hy
    rename_i k n k' m
    simp only [eqD] at h
    cases hk : k == k' with
    | false => rw [hk] at h; cases h
    | true =>
      rw [hk] at h
      obtain rfl : k = k' := by simpa using hk
      simp only [cond_true, Option.some.injEq] at h
      subst h
      simp [Op.equalIn, run_underlying hu]
  · cases ht

theorem kindsB_cons {b : Bool} {ks : List Bool} {c : D} {cs : List D} (h : kindsB (b :: ks) (c :: cs) = true) : kindsB [b] [c] = true ∧ kindsB ks cs = true := by
  cases b <;> cases c <;> simp_all [kindsB]

theorem eq_fields (d : Nat) (us vs : List Value) : ∀ (fs : List Field) (i : Nat) (ks : List Bool) (xs ys : List D) (r : Bool), flatFields P i fs = some ks → kindsB ks xs = true → eqDs xs ys = some r →
    (∀ (j : Nat) x, xs[j]? = some x → ∃ u, us[i + j]? = some u ∧ R.den w x u) → (∀ (j : Nat) y, ys[j]? = some y → ∃ u, vs[i + j]? = some u ∧ R.den w y u) → (Op.eqFields (d + 1) us.toArray vs.toArray fs).run P w = .ok r w
  | [], i, ks, xs, ys, r, hf, hk, h, _, _ => by
    simp only [flatFields, Option.some.injEq] at hf
    subst hf
    cases xs with
    | cons x xs => simp [kindsB] at hk
    | nil =>
      cases ys with
      | cons y ys => simp [eqDs] at h
      | nil =>
        simp only [eqDs, Option.some.injEq] at h
        subst h
        simp [Op.eqFields]
  | f :: fs, i, ks, xs, ys, r, hf, hk, h, h1, h2 => by
    simp only [flatFields] at hf
    cases hc : ((f.name != "_") && Nat.beq f.offset i) with
    | false => rw [hc] at hf; cases hf
    | true =>
      rw [hc] at hf
      simp only [cond_true] at hf
      simp only [Bool.and_eq_true] at hc
      cases hkt : kindTy P f.type with
      | none => rw [hkt] at hf; cases hf
      | some b =>
        rw [hkt] at hf
        cases hff : flatFields P (i + 1) fs with
        | none => rw [hff] at hf; cases hf
        | some ks' =>
          rw [hff] at hf
          simp only [Option.some.injEq] at hf
          subst hf
          cases xs with
          | nil => cases b <;> simp [kindsB] at hk
          | cons x xs =>
            cases ys with
            | nil => simp [eqDs] at h
            | cons y ys =>
              obtain ⟨k1, k2⟩ := kindsB_cons hk
              simp only [eqDs] at h
              cases e1 : eqD x y with
              | none => rw [e1] at h; cases h
              | some r1 =>
                cases e2 : eqDs xs ys with
                | none => rw [e1, e2] at h; cases h
                | some r2 =>
                  rw [e1, e2] at h
                  simp only [Option.some.injEq] at h
                  subst h
                  obtain ⟨u, f1, f2⟩ := h1 0 x rfl
                  obtain ⟨v, g1, g2⟩ := h2 0 y rfl
                  have hrest := eq_fields d us vs fs (i + 1) ks' xs ys r2 hff k2 e2
                    (fun j x hj => by have := h1 (j + 1) x (by simpa using hj); rwa [show i + (j + 1) = i + 1 + j from by omega] at this)
                    (fun j x hj => by have := h2 (j + 1) x (by simpa using hj); rwa [show i + (j + 1) = i + 1 + j from by omega] at this)
                  have hq := eq_cell (P := P) hkt f2 g2 e1 k1 d
                  have hn : f.name ≠ "_" := by simpa using hc.1
                  have ho := Nat.eq_of_beq_eq_true hc.2
                  simp only [Nat.add_zero] at f1 g1
                  have p1 : (part f.type us.toArray f.offset).run P w = .ok u w := by simp [part, run_isAgg (kindTy_agg hkt), ho, f1]
                  have p2 : (part f.type vs.toArray f.offset).run P w = .ok v w := by simp [part, run_isAgg (kindTy_agg hkt), ho, g1]
                  rw [Op.eqFields, if_pos hn]
                  simp only [Sem.run_bind, p1, p2, hq, Result.andThen_ok]
                  cases r1
                  · simp
                  · simpa using hrest

theorem s_eqv (pre : Pre G R w e a Hm) {neg : Bool} {t t' : TypeId} {x y : Operand} {x' y' : Opd} {ks : List Bool} {d1 d2 : D} {r : Bool} (hop : o.op = .binOp (bif neg then .neq else .eql) t x y t') (hx : okOpd G x x' = true) (hy : okOpd G y y' = true)
    (ht : eqTy P t = some ks) (h1 : x'.val e = .d d1) (h2 : y'.val e = .d d2) (hk : kindsD ks d1 = true) (h : eqD d1 d2 = some r) (hp : Placed R.H [] nid [] H') : OpOK P o a w (Post R w nid 0 H' (.d (.bool (bif neg then !r else r)))) := by
  have hv1 := pre.opd hx
  have hv2 := pre.opd hy
  rw [h1] at hv1
  rw [h2] at hv2
  refine opOK_v (s := do eqGuard (bif neg then .neq else .eql) t x y (a.eval x) (a.eval y); binOp (bif neg then .neq else .eql) t (a.eval x) (a.eval y)) (u := .bool (bif neg then !r else r)) (by unfold execOp; rw [hop]) ?_ (Post.stay pre.ok hp rfl)
  cases d1 <;> try (cases h; done)
  · cases d2 <;> try (cases h; done)
    rename_i b1 b2
    rw [denB hv1, denB hv2]
    have hk' : ∃ b, ks = [b] ∧ kindsB [b] [D.bool b1] = true := by
      unfold kindsD at hk
      split at hk
      · rename_i e1; cases e1
      · split at hk
        · exact ⟨_, rfl, hk⟩
        · cases hk
    obtain ⟨b, rfl, hkb⟩ := hk'
    have hkt : kindTy P t = some true := by
      cases b with
      | false => cases hkb
      | true =>
        unfold eqTy at ht; unfold kindTy
        split at ht
        · rename_i hu; rw [hu]
        · cases ht
        · rename_i fs hu
          cases hg : (!(Nat.beq fs.toList.length 1) && (!(P.stoodInHeld t) && !(P.eqGuardType P.depth t))) with
          | false => rw [hg] at ht; cases ht
          | true =>
            rw [hg] at ht
            simp only [cond_true] at ht
            have := flatFields_len _ _ _ ht
            rw [← this] at hg
            cases hg
        · cases ht
    have hq := eq_cell (P := P) (R := R) (w := w) hkt (x := .bool b1) (y := .bool b2) rfl rfl h (by rfl) 9999
    cases neg <;> simp [eqGuard, binOp, Op.equal, Op.maxDepth, hq]
  · cases d2 <;> try (cases h; done)
    rename_i k n k' m
    rw [denI hv1, denI hv2]
    simp only [eqD] at h
    cases hkk : k == k' with
    | false => rw [hkk] at h; cases h
    | true =>
      rw [hkk] at h
      obtain rfl : k = k' := by simpa using hkk
      simp only [cond_true, Option.some.injEq] at h
      subst h
      cases neg <;> simp [eqGuard, binOp, Op.intCmp]
      rfl
  · cases d2 <;> try (cases h; done)
    rename_i cs cs'
    obtain ⟨us, e1, e2⟩ := hv1
    obtain ⟨vs, e3, e4⟩ := hv2
    rw [e1, e3]
    have hk' : (∀ b, ks ≠ [b]) ∧ kindsB ks cs = true := by
      unfold kindsD at hk
      dsimp only at hk
      split at hk
      · cases hk
      · rename_i hn; exact ⟨fun b hb => hn b hb, hk⟩
    obtain ⟨hn1, hk⟩ := hk'
    simp only [eqD] at h
    unfold eqTy at ht
    split at ht
    · cases ht; exact absurd rfl (hn1 _)
    · cases ht; exact absurd rfl (hn1 _)
    · rename_i fs hu
      cases hg' : (!(Nat.beq fs.toList.length 1) && (!(P.stoodInHeld t) && !(P.eqGuardType P.depth t))) with
      | false => rw [hg'] at ht; cases ht
      | true =>
        rw [hg'] at ht
        simp only [cond_true] at ht
        simp only [Bool.and_eq_true, Bool.not_eq_true'] at hg'
        obtain ⟨_, hg⟩ := hg'
        have hfs : P.fieldsOf t = fs := by unfold Program.fieldsOf; rw [hu]
        have hq : (Op.equalIn 10000 t (.agg us.toArray) (.agg vs.toArray)).run P w = .ok r w := by
          rw [run_equalIn_struct w 9999 t us.toArray vs.toArray (by rw [hfs]; exact hu) hg.1, hfs]
          exact eq_fields 9998 us vs fs.toList 0 ks cs cs' r ht hk h (fun j x hj => by simpa using denDs_at cs us j x e2 hj) (fun j x hj => by simpa using denDs_at cs' vs j x e4 hj)
        cases neg <;> simp [eqGuard, binOp, Op.equal, Op.maxDepth, hq, hg.2]
    · cases ht
end

end Go.Proofs.YtljgncbdagmeeaaDoorE
