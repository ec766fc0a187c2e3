/- The operations that make blocks and write into them. -/
import Derived.Test.YtljgncbdagmeeaaDoorE13
namespace Go.Proofs.YtljgncbdagmeeaaDoorE
open Go
set_option linter.unusedVariables false
set_option linter.unusedSimpArgs false

section
variable {A1 A0 AL : Nat → Prop} {w : World}
theorem esc_one {y : D} {v : Value} (he : y.esc = true) (ha : y.isAgg = false) (h : DenD A1 A0 AL w y v) : v.oneCell' = true := by
  cases y with
  | agg cs => cases ha
  | tup cs => cases he
  | rptr cs => cases he
  | bool b => cases h; rfl
  | int k n => cases h; rfl
  | str s => cases h; rfl
  | nilfn => cases h; rfl
  | nilp => cases h; rfl
  | nilI => cases h; rfl
  | list own xs => obtain ⟨ad, len, cap, rfl, _⟩ := h; rfl
  | fn f caps => obtain ⟨us, rfl, _⟩ := h; rfl
  | iface t v => obtain ⟨u', rfl, _⟩ := h; rfl

theorem escs_one : ∀ (cs : List D) (us : List Value), D.escs cs = true → DenDs A1 A0 AL w cs us → ∀ v ∈ us, v.oneCell' = true
  | [], us, _, h, v, hv => by simp only [DenDs] at h; subst h; cases hv
  | c :: cs, us, he, h, v, hv => by
    obtain ⟨u, us', rfl, h1, h2⟩ := h
    simp only [D.escs, Bool.and_eq_true, Bool.not_eq_true'] at he
    rcases List.mem_cons.1 hv with rfl | hv
    · exact esc_one he.1 he.2.1 h1
    · exact escs_one cs us' he.2.2 h2 v hv

theorem esc_cells {y : D} {v : Value} (he : y.esc = true) (h : DenD A1 A0 AL w y v) : ∀ c ∈ v.cells.toList, c.oneCell' = true := by
  cases ha : y.isAgg with
  | true =>
    cases y <;> try (cases ha; done)
    obtain ⟨us, rfl, h1⟩ := h
    simpa [Value.cells] using escs_one _ us he h1
  | false =>
    have h1 := esc_one he ha h
    intro c hc
    cases v <;> first
      | (cases h1; done)
      | (simp only [Value.cells] at hc; simp at hc; rw [hc]; exact h1)

theorem esc_size {R : RP} {y : D} {v : Value} (he : (V.d y).okb = true) (h : R.den w y v) : v.cells.size = y.cells.length := by
  have h1 := denVs_len _ _ (cells_ok (R := R) (v := .d y) h he)
  have hVc : (V.d y).cells = mapd y.cells := by cases y <;> rfl
  rw [hVc, mapd_eq, List.length_map] at h1
  simpa using h1
end

section
variable {P : Program} {G : Globs} {R : RP} {w : World} {e : Env} {a : Act} {Hm H' : Heap} {nid : Nat} {o : Oper}

/-! variables -/
theorem cells_new {R' : RP} {w' : World} {c : Nat} {el : TypeId} {vs : List V} {us : Array Value} (hc : w'.heap[c]? = some (.cells us el (0, 0))) (h : DenVs R' w' vs us.toList) : BlkOK R' w' (some c) (.cells vs) := by
  have hl := denVs_len _ _ h
  refine ⟨c, us, el, (0, 0), rfl, hc, Nat.le_refl _, by simp at hl; omega, fun k v hk => ?_⟩
  obtain ⟨u, e1, e2⟩ := denVs_at _ _ k v h hk
  exact ⟨u, by simpa using e1, e2⟩

theorem heap_new (w : World) (ob : Obj) : (w.alloc ob).heap[w.heap.size]? = some ob := by
  show (w.heap.push ob)[w.heap.size]? = some ob
  simp

theorem post_var (pre : Pre G R w e a Hm) {z : V} {u : Value} {t : TypeId} (hz : z.okb = true) (hu : DenV R w z u) (hn : R.M nid = none) (hp : Placed R.H [] nid [.cells z.cells] H') :
    Post R w nid 1 H' (.ptr nid 0) (.pointer (some ⟨w.heap.size, 0, none⟩)) (w.alloc (.cells u.cells t)) := by
  refine Post.new (m := some w.heap.size) _ pre.ok hp hn (.inr rfl) fun R' hx hM hH => ⟨?_, fun _ => ?_⟩
  · exact cells_new (heap_new w _) (hx.denVs pre.ok.b01 _ _ (cells_ok hu hz))
  · exact ⟨_, hM, rfl⟩

theorem s_alloc (pre : Pre G R w e a Hm) {t : TypeId} {z : V} {zv : Value} (hop : o.op = .alloc t) (hz : zeroOf P t = some zv) (hc : cv z zv = true) (hb : z.okb = true) (hn : R.M nid = none) (hp : Placed R.H [] nid [.cells z.cells] H') :
    OpOK P o a w (Post R w nid 1 H' (.ptr nid 0)) := by
  unfold zeroOf at hz
  cases hi : P.info? t with
  | none => rw [hi] at hz; cases hz
  | some i =>
    rw [hi] at hz
    refine opOK_v (s := Instr.alloc t true (.tuple #[])) (u := .pointer (some ⟨w.heap.size, 0, none⟩)) (w' := w.alloc (.cells zv.cells t)) (by unfold execOp; rw [hop]) ?_ (post_var pre hb (cv_ok z zv hc) hn hp)
    simp [Instr.alloc, zeroValue, typeInfo, hi, hz, newVar, newRow]

theorem s_box (pre : Pre G R w e a Hm) {t : TypeId} {x : Operand} {y : Opd} (hop : o.op = .box t x) (hx : okOpd G x y = true) (hb : (y.val e).okb = true) (hn : R.M nid = none) (hp : Placed R.H [] nid [.cells (y.val e).cells] H') :
    OpOK P o a w (Post R w nid 1 H' (.ptr nid 0)) :=
  opOK_v (s := Instr.box t (a.eval x)) (u := .pointer (some ⟨w.heap.size, 0, none⟩)) (w' := w.alloc (.cells (a.eval x).cells t)) (by unfold execOp; rw [hop]) (by simp [Instr.box, newVar, newRow]) (post_var pre hb (pre.opd hx) hn hp)

theorem flat_one : ∀ (vs : List V) (us : List Value), flats vs = true → DenVs R w vs us → ∀ u ∈ us, u.oneCell' = true
  | [], us, _, h, u, hu => by simp only [DenVs] at h; subst h; cases hu
  | v :: vs, us, hf, h, u, hu => by
    obtain ⟨u0, us', rfl, h1, h2⟩ := h
    simp only [flats, Bool.and_eq_true] at hf
    rcases List.mem_cons.1 hu with rfl | hu
    · cases v with
      | bad => cases hf.1
      | tup cs => cases hf.1
      | agg cs => cases hf.1
      | d x =>
        cases x with
        | agg cs => cases hf.1
        | tup cs => cases hf.1
        | bool b => cases h1; rfl
        | int k n => cases h1; rfl
        | str s => cases h1; rfl
        | nilfn => cases h1; rfl
        | nilp => cases h1; rfl
        | nilI => cases h1; rfl
        | rptr cs => obtain ⟨b, off, rfl, _⟩ := h1; rfl
        | list own xs => obtain ⟨ad, len, cap, rfl, _⟩ := h1; rfl
        | fn f caps => obtain ⟨us, rfl, _⟩ := h1; rfl
        | iface t v => obtain ⟨u', rfl, _⟩ := h1; rfl
      | ptr b o => obtain ⟨c, _, rfl⟩ := h1; rfl
      | eptr b sz i k => obtain ⟨c, _, rfl⟩ := h1; rfl
      | sl b sz => obtain ⟨⟨a, n, c, rfl⟩, _⟩ := h1; rfl
      | slp b sz o l => obtain ⟨⟨a, n, c, rfl⟩, _⟩ := h1; rfl
      | nilsl sz => obtain ⟨a, rfl⟩ := h1; rfl
      | fn f caps => obtain ⟨us, rfl, _⟩ := h1; rfl
      | mp b => obtain ⟨⟨a, rfl⟩, _⟩ := h1; rfl
    · exact flat_one vs us' hf.2 h2 u hu

/-! elements, one behind another -/
/-- block c holds these -/
structure Els (R : RP) (w : World) (sz : Nat) (xs : List D) (us : List Value) : Prop where
  len : us.length = xs.length
  den : ∀ (j : Nat) x u, xs[j]? = some x → us[j]? = some u → R.den w x u
  size : ∀ u ∈ us, u.cells.size = sz
  esc : ∀ x ∈ xs, x.esc = true

theorem Els.one {sz : Nat} {xs : List D} {us : List Value} (h : Els R w sz xs us) : ∀ c ∈ cellsOf us, c.oneCell' = true := by
  intro c hc
  simp only [cellsOf, List.mem_flatMap] at hc
  obtain ⟨u, hu, hc⟩ := hc
  obtain ⟨j, hj⟩ := List.mem_iff_getElem?.1 hu
  have hlt : j < xs.length := by rw [← h.len]; exact (List.getElem?_eq_some_iff.1 hj).1
  exact esc_cells (h.esc _ (List.getElem_mem hlt)) (h.den j _ u (List.getElem?_eq_getElem hlt) hj) c hc

theorem Els.append {sz : Nat} {xs ys : List D} {us vs : List Value} (h : Els R w sz xs us) (k : Els R w sz ys vs) : Els R w sz (xs ++ ys) (us ++ vs) where
  len := by simp [h.len, k.len]
  den := fun j x u hx hu => by
    by_cases hj : j < xs.length
    · rw [List.getElem?_append_left hj] at hx
      rw [List.getElem?_append_left (by rw [h.len]; exact hj)] at hu
      exact h.den j x u hx hu
    · rw [List.getElem?_append_right (by omega)] at hx
      rw [List.getElem?_append_right (by rw [h.len]; omega), h.len] at hu
      exact k.den _ x u hx hu
  size := fun u hu => by
    rcases List.mem_append.1 hu with hu | hu
    · exact h.size u hu
    · exact k.size u hu
  esc := fun x hx => by
    rcases List.mem_append.1 hx with hx | hx
    · exact h.esc x hx
    · exact k.esc x hx

theorem Els.ext {R' : RP} {w' : World} {sz : Nat} {xs : List D} {us : List Value} (x : Ext R w R' w') (hb : ∀ c, R.B0 c → R.B1 c) (h : Els R w sz xs us) : Els R' w' sz xs us :=
  ⟨h.len, fun j y u hy hu => x.den hb (h.den j y u hy hu), h.size, h.esc⟩

/-- a block of these -/
theorem Els.blk {R' : RP} {w' : World} {sz c : Nat} {el : TypeId} {xs : List D} {us : List Value} {cs : Array Value} (h : Els R' w' sz xs us) (h0 : 0 < sz) (hc : w'.heap[c]? = some (.cells cs el (0, 0)))
    (hcs : ∀ (j : Nat) v, (cellsOf us)[j]? = some v → cs[j]? = some v) : BlkOK R' w' (some c) (.arr sz xs) := by
  refine ⟨h0, h.esc, .inr ⟨c, cs, el, rfl, hc, ?_, fun j x hx => ?_⟩⟩
  · rw [← h.len, ← flat_len us h.size]
    rcases Nat.eq_zero_or_pos (cellsOf us).length with hz | hz
    · omega
    · have := hcs ((cellsOf us).length - 1) _ (List.getElem?_eq_getElem (by omega))
      have := (Array.getElem?_eq_some_iff.1 this).1
      omega
  · have hlt : j < us.length := by rw [h.len]; exact (List.getElem?_eq_some_iff.1 hx).1
    have hu := List.getElem?_eq_getElem hlt
    exact ⟨us[j], h.den j x _ hx hu, h.size _ (List.getElem_mem hlt), fun k v hk => hcs _ v (flat_get us h.size j k _ v hu hk)⟩

/-- .. and back -/
theorem blk_els' {c sz : Nat} {xs : List D} (h : BlkOK R w (some c) (.arr sz xs)) : ∃ us cs el, Els R w sz xs us ∧ w.heap[c]? = some (.cells cs el (0, 0)) ∧ ∀ (j : Nat) v, (cellsOf us)[j]? = some v → cs[j]? = some v := by
  obtain ⟨h0, h1, h2⟩ := h
  rcases h2 with ⟨h2, _⟩ | ⟨c', cs, el, e1, e2, e3, e4⟩
  · cases h2
  · cases e1
    obtain ⟨us, f1, f2⟩ := list_choose xs (fun j x u => R.den w x u ∧ u.cells.size = sz ∧ ∀ (k : Nat) v, u.cells[k]? = some v → cs[j * sz + k]? = some v) e4
    have hs : ∀ u ∈ us, u.cells.size = sz := fun u hu => by
      obtain ⟨j, hj⟩ := List.mem_iff_getElem?.1 hu
      have hlt : j < xs.length := by rw [← f1]; exact (List.getElem?_eq_some_iff.1 hj).1
      exact (f2 j _ u (List.getElem?_eq_getElem hlt) hj).2.1
    refine ⟨us, cs, el, ⟨f1, fun j x u hx hu => (f2 j x u hx hu).1, hs, h1⟩, e2, fun j v hv => ?_⟩
    obtain ⟨i, k, u, g1, g2, rfl⟩ := flat_inv us hs j v hv
    have hlt : i < xs.length := by rw [← f1]; exact (List.getElem?_eq_some_iff.1 g1).1
    exact (f2 i _ u (List.getElem?_eq_getElem hlt) g1).2.2 k v g2

/-- a slice's elements -/
theorem src_ok (pre : Pre G R w e a Hm) {y : V} {ys : List D} {u : Value} {sz : Nat} (h : elems Hm y = some ys) (hs : szAt sz ys 0 = true) (hu : DenV R w y u) :
    ∃ us ad cap, u = .slice ad ys.length cap ∧ ys.length ≤ cap ∧ Els R w sz ys us ∧ (ys ≠ [] → ∃ b off, ad = some ⟨b, off, none⟩ ∧ ∀ (j : Nat) v, (cellsOf us)[j]? = some v → w.cell? ⟨b, off + j, none⟩ = some v) := by
  have fin : ∀ {ad : Option Addr} {cap : Nat}, u = .slice ad ys.length cap → ys.length ≤ cap → (∀ x ∈ ys, x.esc = true) → (ys ≠ [] → ∃ b off sz', ad = some ⟨b, off, none⟩ ∧ ∀ (j : Nat) x, ys[j]? = some x → ∃ u, R.den w x u ∧ u.cells.size = sz' ∧ ∀ (k : Nat) v, u.cells[k]? = some v → w.cell? ⟨b, off + j * sz' + k, none⟩ = some v) →
      ∃ us ad cap, u = .slice ad ys.length cap ∧ ys.length ≤ cap ∧ Els R w sz ys us ∧ (ys ≠ [] → ∃ b off, ad = some ⟨b, off, none⟩ ∧ ∀ (j : Nat) v, (cellsOf us)[j]? = some v → w.cell? ⟨b, off + j, none⟩ = some v) := by
    intro ad cap h1 h2 h3 h4
    cases ys with
    | nil => exact ⟨[], ad, cap, h1, h2, ⟨rfl, by simp, by simp, by simp⟩, fun h => absurd rfl h⟩
    | cons y0 ys0 =>
      obtain ⟨b, off, sz', e1, e2⟩ := h4 (by simp)
      have hsz : sz' = sz := by
        simp only [szAt, nth, Bool.and_eq_true] at hs
        obtain ⟨u0, f1, f2, _⟩ := e2 0 y0 rfl
        rw [← f2, esc_size hs.2 f1]
        exact Nat.eq_of_beq_eq_true hs.1
      subst hsz
      obtain ⟨us, f1, f2⟩ := list_choose (y0 :: ys0) (fun j x u => R.den w x u ∧ u.cells.size = sz' ∧ ∀ (k : Nat) v, u.cells[k]? = some v → w.cell? ⟨b, off + j * sz' + k, none⟩ = some v) e2
      have hss : ∀ u ∈ us, u.cells.size = sz' := fun u hu => by
        obtain ⟨j, hj⟩ := List.mem_iff_getElem?.1 hu
        have hlt : j < (y0 :: ys0).length := by rw [← f1]; exact (List.getElem?_eq_some_iff.1 hj).1
        exact (f2 j _ u (List.getElem?_eq_getElem hlt) hj).2.1
      refine ⟨us, ad, cap, h1, h2, ⟨f1, fun j x u hx hu => (f2 j x u hx hu).1, hss, h3⟩, fun _ => ⟨b, off, e1, fun j v hv => ?_⟩⟩
      obtain ⟨i, k, u, g1, g2, rfl⟩ := flat_inv us hss j v hv
      have hlt : i < (y0 :: ys0).length := by rw [← f1]; exact (List.getElem?_eq_some_iff.1 g1).1
      rw [← Nat.add_assoc]
      exact (f2 i _ u (List.getElem?_eq_getElem hlt) g1).2.2 k v g2
  unfold elems at h
  split at h
  · rename_i own xs'
    simp only [Option.some.injEq] at h
    subst h
    obtain ⟨ad, len, cap, e1, rfl, e3, e4, e5⟩ := hu
    refine fin e1 e3 e4 fun hne => ?_
    obtain ⟨b, off, sz', f1, f2, f3, f4⟩ := e5 hne
    refine ⟨b, off, sz', f1, fun j x hx => ?_⟩
    obtain ⟨u, g1, g2, g3⟩ := denEls_at xs' off j x f4 hx
    refine ⟨u, ?_, g2, g3⟩
    cases own
    · exact g1
    · exact g1
  · rename_i b sz0
    cases hb : nth Hm b with
    | none => rw [hb] at h; cases h
    | some blk =>
      rw [hb] at h
      cases blk <;> try (cases h; done)
      rename_i sz' xs'
      dsimp only at h
      cases hs' : Nat.beq sz0 sz' with
      | false => rw [hs'] at h; cases h
      | true =>
        rw [hs'] at h
        simp only [cond_true, Option.some.injEq] at h
        subst h
        obtain rfl := Nat.eq_of_beq_eq_true hs'
        obtain ⟨m, q1, q2, q3, q4⟩ := own_sl pre hb hu
        have q5 := q4
        obtain ⟨_, ad, cap, e1, q6, q7⟩ := q5
        refine fin e1 q6 q3.2.1 fun hne => ?_
        obtain ⟨c, cs, el, fr', cap', rfl, e2, e3, e4, e5⟩ := slAt_real q4 (.inl (List.length_pos_iff.2 hne))
        rw [e1] at e2; cases e2
        refine ⟨c, 0 * sz0, sz0, rfl, fun j x hx => ?_⟩
        obtain ⟨_, _, q3⟩ := q3
        rcases q3 with ⟨q3, _⟩ | ⟨c', cs', el', r1, r2, r3, r4⟩
        · cases q3
        · cases r1
          obtain ⟨u, s1, s2, s3⟩ := r4 j x hx
          exact ⟨u, s1, s2, fun k v hk => by rw [cell_of_heap r2, Nat.zero_mul, Nat.zero_add]; exact s3 k v hk⟩
  · rename_i b sz0 of len
    cases hb : nth Hm b with
    | none => rw [hb] at h; cases h
    | some blk =>
      rw [hb] at h
      cases blk <;> try (cases h; done)
      rename_i sz' xs'
      dsimp only at h
      cases hs' : Nat.beq sz0 sz' with
      | false => rw [hs'] at h; cases h
      | true =>
        rw [hs'] at h
        simp only [cond_true, Option.some.injEq] at h
        subst h
        obtain rfl := Nat.eq_of_beq_eq_true hs'
        obtain ⟨m, q1, q2, q3, q4⟩ := own_slp pre hb hu
        have q5 := q4
        obtain ⟨q8, ad, cap, e1, q6, q7⟩ := q5
        have hlen : ((xs'.drop of).take len).length = len := by simp only [List.length_take, List.length_drop]; omega
        refine fin (by rw [hlen]; exact e1) (by rw [hlen]; exact q6) (fun x hx => q3.2.1 x (List.mem_of_mem_drop (List.mem_of_mem_take hx))) fun hne => ?_
        obtain ⟨c, cs, el, fr', cap', rfl, e2, e3, e4, e5⟩ := slAt_real q4 (.inl (by rw [← hlen]; exact List.length_pos_iff.2 hne))
        rw [e1] at e2; cases e2
        refine ⟨c, of * sz0, sz0, rfl, fun j x hx => ?_⟩
        obtain ⟨_, _, q3⟩ := q3
        rcases q3 with ⟨q3, _⟩ | ⟨c', cs', el', r1, r2, r3, r4⟩
        · cases q3
        · cases r1
          have hj : j < len := by rw [← hlen]; exact (List.getElem?_eq_some_iff.1 hx).1
          rw [List.getElem?_take, if_pos hj, List.getElem?_drop] at hx
          obtain ⟨u, s1, s2, s3⟩ := r4 (of + j) x hx
          exact ⟨u, s1, s2, fun k v hk => by rw [cell_of_heap r2, ← s3 k v hk, Nat.add_mul]⟩
  · simp only [Option.some.injEq] at h
    subst h
    obtain ⟨ad, rfl⟩ := hu
    exact fin rfl (Nat.le_refl _) (by simp) (fun h => absurd rfl h)
  · cases h
end

end Go.Proofs.YtljgncbdagmeeaaDoorE
