/- The operations, one by one: maxima, checks, interfaces, aggregates, comparisons. -/
import Derived.Test.YtljgncbdagmeeaaDoorE10
namespace Go.Proofs.YtljgncbdagmeeaaDoorE
open Go
set_option linter.unusedVariables false
set_option linter.unusedSimpArgs false

section
variable {P : Program} {G : Globs} {R : RP} {w : World} {e : Env} {a : Act} {Hm H' : Heap} {nid : Nat} {o : Oper}

/-! maxima -/
theorem max_go : ∀ (vs : List V) (us : List Value) (k : IntKind) (n : Int) (r : D), DenVs R w vs us → mxE.go true k n vs = some r → ∃ u, (us.foldlM Builtin.max2 (.int k n)).run P w = .ok u w ∧ R.den w r u
  | [], us, k, n, r, hd, h => by
    simp only [mxE.go, Option.some.injEq] at h
    simp only [DenVs] at hd
    subst h; subst hd
    exact ⟨.int k n, rfl, rfl⟩
  | v :: vs, us, k, n, r, hd, h => by
    obtain ⟨u, us', rfl, h1, h2⟩ := hd
    cases v <;> try (cases h; done)
    rename_i x
    cases x <;> try (cases h; done)
    rename_i k' m
    simp only [mxE.go, cond_true] at h
    obtain ⟨u, h3, h4⟩ := max_go vs us' k _ r h2 h
    refine ⟨u, ?_, h4⟩
    cases h1
    rw [List.foldlM_cons, Sem.run_bind, ← h3]
    by_cases hlt : n < m
    · simp [Builtin.max2, hlt]
    · simp [Builtin.max2, hlt]
theorem min_go : ∀ (vs : List V) (us : List Value) (k : IntKind) (n : Int) (r : D), DenVs R w vs us → mxE.go false k n vs = some r → ∃ u, (us.foldlM Builtin.min2 (.int k n)).run P w = .ok u w ∧ R.den w r u
  | [], us, k, n, r, hd, h => by
    simp only [mxE.go, Option.some.injEq] at h
    simp only [DenVs] at hd
    subst h; subst hd
    exact ⟨.int k n, rfl, rfl⟩
  | v :: vs, us, k, n, r, hd, h => by
    obtain ⟨u, us', rfl, h1, h2⟩ := hd
    cases v <;> try (cases h; done)
    rename_i x
    cases x <;> try (cases h; done)
    rename_i k' m
    simp only [mxE.go, cond_false] at h
    obtain ⟨u, h3, h4⟩ := min_go vs us' k _ r h2 h
    refine ⟨u, ?_, h4⟩
    cases h1
    rw [List.foldlM_cons, Sem.run_bind, ← h3]
    by_cases hlt : m < n
    · simp [Builtin.min2, hlt]
    · simp [Builtin.min2, hlt]

theorem s_mx (pre : Pre G R w e a Hm) {b : Bool} {ats : Array TypeId} {xs : Array Operand} {ys : List Opd} {r : D} (hop : o.op = .call { callee := .builtin (bif b then .max else .min), args := xs, argTypes := ats }) (hx : okOpds G xs.toList ys = true)
    (h : mxE b (vals e ys) = some r) (hp : Placed R.H [] nid [] H') : OpOK P o a w (Post R w nid 0 H' (.d r)) := by
  have hv := pre.opds hx
  have hl : (xs.map a.eval).toList = xs.toList.map a.eval := by simp
  cases hvs : vals e ys with
  | nil => rw [hvs] at h; cases h
  | cons v vs =>
    rw [hvs] at h hv
    obtain ⟨u, us, hus, h1, h2⟩ := hv
    cases v <;> try (cases h; done)
    rename_i x
    cases x <;> try (cases h; done)
    rename_i k n
    cases h1
    simp only [mxE] at h
    cases b with
    | true =>
      obtain ⟨u, h3, h4⟩ := max_go (P := P) vs us k n r h2 h
      refine opOK_v (s := Builtin.max_ ats o.type (xs.map a.eval)) (u := u) (by rw [exec_builtin hop]; rfl) ?_ (Post.stay pre.ok hp h4)
      rw [Builtin.max_, hl, hus]; exact h3
    | false =>
      obtain ⟨u, h3, h4⟩ := min_go (P := P) vs us k n r h2 h
      refine opOK_v (s := Builtin.min_ ats o.type (xs.map a.eval)) (u := u) (by rw [exec_builtin hop]; rfl) ?_ (Post.stay pre.ok hp h4)
      rw [Builtin.min_, hl, hus]; exact h3

/-! nil checks -/
theorem s_nilck (pre : Pre G R w e a Hm) {x : Operand} {y : Opd} {v : V} (hop : o.op = .nilCheck x) (hx : okOpd G x y = true) (h : nilckE Hm (y.val e) = some v) (hp : Placed R.H [] nid [] H') : OpOK P o a w (Post R w nid 0 H' v) := by
  have hv := pre.opd hx
  have ptr : ∀ (ad : Addr) v, a.eval x = .pointer (some ad) → DenV R w v (a.eval x) → OpOK P o a w (Post R w nid 0 H' v) := fun ad v h1 h2 =>
    .val (u := a.eval x) (w' := w) (by unfold execOp; rw [hop]; simp [h1]) (Post.stay pre.ok hp h2)
  unfold nilckE at h
  split at h
  · rename_i f caps hy
    simp only [Option.some.injEq] at h
    subst h
    rw [hy] at hv
    have hv' := hv
    obtain ⟨us, h1, _⟩ := hv'
    exact .val (u := a.eval x) (w' := w) (by unfold execOp; rw [hop]; simp [h1]) (Post.stay pre.ok hp hv)
  · rename_i f caps hy
    simp only [Option.some.injEq] at h
    subst h
    rw [hy] at hv
    have hv' := hv
    obtain ⟨us, h1, _⟩ := hv'
    exact .val (u := a.eval x) (w' := w) (by unfold execOp; rw [hop]; simp [h1]) (Post.stay pre.ok hp hv)
  · rename_i t z hy
    simp only [Option.some.injEq] at h
    subst h
    rw [hy] at hv
    have hv' := hv
    obtain ⟨u', h1, _⟩ := hv'
    exact .val (u := a.eval x) (w' := w) (by unfold execOp; rw [hop]; simp [h1]) (Post.stay pre.ok hp hv)
  · rename_i cs hy
    simp only [Option.some.injEq] at h
    subst h
    rw [hy] at hv
    have hv' := hv
    obtain ⟨b, off, h1, _⟩ := hv'
    exact ptr _ _ h1 hv
  · rename_i b off hy
    simp only [Option.some.injEq] at h
    subst h
    rw [hy] at hv
    have hv' := hv
    obtain ⟨c, _, h1⟩ := hv'
    exact ptr _ _ h1 hv
  · rename_i b sz i k hy
    simp only [Option.some.injEq] at h
    subst h
    rw [hy] at hv
    have hv' := hv
    obtain ⟨c, _, h1⟩ := hv'
    exact ptr _ _ h1 hv
  · cases h

/-! for good -/
/-- as R, but that blocks have died -/
structure Less (R R' : RP) (ks : List Nat) : Prop where
  m : R'.M = R.M
  b1 : R'.B1 = R.B1
  live : ∀ i, isLive R'.H i = true → isLive R.H i = true
  dead : ∀ k ∈ ks, isLive R'.H k = false

theorem Less.a1 {R R' : RP} {ks : List Nat} (h : Less R R' ks) : ∀ b, R.A1 b → R'.A1 b := fun b ⟨h1, h2⟩ =>
  ⟨fun ⟨i, l1, l2⟩ => h1 ⟨i, h.live i l1, by rw [← h.m]; exact l2⟩, by rw [h.b1]; exact h2⟩

theorem Less.own {R R' : RP} {ks : List Nat} (h : Less R R' ks) (ok : R.OK w) {b c : Nat} (hb : isLive R.H b = true) (hk : b ∈ ks) (hm : R.M b = some (some c)) : R'.A1 c :=
  ⟨fun ⟨i, l1, l2⟩ => by
    rw [h.m] at l2
    have := ok.inj i b c (h.live i l1) hb l2 hm
    subst this
    rw [h.dead i hk] at l1
    exact Bool.noConfusion l1, by rw [h.b1]; exact ok.nb b c hb hm⟩

theorem live_arr {H : Heap} {b sz : Nat} {xs : List D} (h : nth H b = some (.arr sz xs)) : isLive H b = true := by
  unfold isLive; rw [h]

theorem blk_els (ok : R.OK w) {c : Nat} {sz : Nat} {xs : List D} {A1' A0' AL' : Nat → Prop} (h1 : ∀ b, R.A1 b → A1' b) {l n : Nat} (hb : BlkOK R w (some c) (.arr sz xs)) (hne : (xs.drop l).take n ≠ []) :
    DenEls A1' A0' AL' w c sz (l * sz) ((xs.drop l).take n) := by
  obtain ⟨_, he, hb⟩ := hb
  rcases hb with ⟨hb, _⟩ | ⟨c', cs, el, e1, e2, e3, e4⟩
  · cases hb
  · cases e1
    refine denEls_mk _ _ fun j x hj => ?_
    rw [List.getElem?_take] at hj
    by_cases hjn : j < n
    · rw [if_pos hjn, List.getElem?_drop] at hj
      obtain ⟨u, f1, f2, f3⟩ := e4 (l + j) x hj
      refine ⟨u, DenD.lift h1 x u (he x (List.mem_of_getElem? hj)) f1, f2, fun k v hk => ?_⟩
      rw [cell_of_heap e2, ← f3 k v hk, Nat.add_mul]
    · rw [if_neg hjn] at hj; cases hj

mutual
theorem frV_esc (n : Nat) : ∀ (v : V) (y : D) (ks : List Nat), (pre : Pre G R w e a Hm) → fr Hm n v = some (y, ks) → ∀ {R' : RP} {ks' : List Nat}, Less R R' ks' → (∀ k ∈ ks, k ∈ ks') → ∀ u, DenV R w v u → (y.esc = true ∨ ∃ ts, y = .tup ts) ∧ ∀ A0' AL', DenD R'.A1 A0' AL' w y u := by
  intro v y ks pre h R' ks' hL hks u hu
  cases n with
  | zero => cases h
  | succ n =>
    simp only [fr] at h
    cases v <;> try (cases h; done)
    · rename_i x
      dsimp only at h
      split at h
      · rename_i ts
        cases he : escT ts with
        | false => rw [he] at h; cases h
        | true =>
          rw [he] at h
          simp only [cond_true, Option.some.injEq, Prod.mk.injEq] at h
          obtain ⟨rfl, _⟩ := h
          obtain ⟨us, rfl, hu⟩ := hu
          exact ⟨.inr ⟨ts, rfl⟩, fun A0' AL' => ⟨us, rfl, DenDs.liftT hL.a1 ts us he hu⟩⟩
      · cases he : x.esc with
        | false => rw [he] at h; cases h
        | true =>
          rw [he] at h
          simp only [cond_true, Option.some.injEq, Prod.mk.injEq] at h
          obtain ⟨rfl, _⟩ := h
          exact ⟨.inl he, fun A0' AL' => DenD.lift hL.a1 x u he hu⟩
    · rename_i b sz
      dsimp only at h
      cases hb : nth Hm b with
      | none => rw [hb] at h; cases h
      | some blk =>
        rw [hb] at h
        cases blk <;> try (cases h; done)
        rename_i sz' xs
        dsimp only at h
        cases hs : Nat.beq sz sz' with
        | false => rw [hs] at h; cases h
        | true =>
          rw [hs] at h
          obtain rfl := Nat.eq_of_beq_eq_true hs
          simp only [cond_true, Option.some.injEq, Prod.mk.injEq] at h
          obtain ⟨rfl, rfl⟩ := h
          refine ⟨.inl rfl, fun A0' AL' => ?_⟩
          obtain ⟨m, q1, q2, q3, q4⟩ := own_sl pre hb hu
          have q5 := q4
          obtain ⟨_, ad, cap, rfl, q6, q7⟩ := q5
          refine ⟨_, _, _, rfl, rfl, q6, q3.2.1, fun hne => ?_⟩
          obtain ⟨c, cs, el, fr', cap', rfl, e1, e2, e3, e4⟩ := slAt_real q4 (.inl (List.length_pos_iff.2 hne))
          cases e1
          refine ⟨c, 0 * sz, sz, rfl, hL.own pre.ok (live_arr q2) (hks _ (by simp)) q1, pre.ok.lt _ _ q1, ?_⟩
          have := blk_els pre.ok (A0' := A0') (AL' := AL') hL.a1 (l := 0) (n := xs.length) q3 (by simpa using hne)
          simpa using this
    · rename_i b sz of len
      dsimp only at h
      cases hb : nth Hm b with
      | none => rw [hb] at h; cases h
      | some blk =>
        rw [hb] at h
        cases blk <;> try (cases h; done)
        rename_i sz' xs
        dsimp only at h
        cases hs : Nat.beq sz sz' with
        | false => rw [hs] at h; cases h
        | true =>
          rw [hs] at h
          obtain rfl := Nat.eq_of_beq_eq_true hs
          simp only [cond_true, Option.some.injEq, Prod.mk.injEq] at h
          obtain ⟨rfl, rfl⟩ := h
          refine ⟨.inl rfl, fun A0' AL' => ?_⟩
          obtain ⟨m, q1, q2, q3, q4⟩ := own_slp pre hb hu
          have q5 := q4
          obtain ⟨q8, ad, cap, rfl, q6, q7⟩ := q5
          have hlen : ((xs.drop of).take len).length = len := by simp only [List.length_take, List.length_drop]; omega
          refine ⟨_, _, _, rfl, hlen.symm, q6, fun x hx => q3.2.1 x (List.mem_of_mem_drop (List.mem_of_mem_take hx)), fun hne => ?_⟩
          obtain ⟨c, cs, el, fr', cap', rfl, e1, e2, e3, e4⟩ := slAt_real q4 (.inl (by rw [← hlen]; exact List.length_pos_iff.2 hne))
          cases e1
          exact ⟨c, of * sz, sz, rfl, hL.own pre.ok (live_arr q2) (hks _ (by simp)) q1, pre.ok.lt _ _ q1, blk_els pre.ok hL.a1 q3 hne⟩
    · simp only [Option.some.injEq, Prod.mk.injEq] at h
      obtain ⟨rfl, rfl⟩ := h
      obtain ⟨ad, rfl⟩ := hu
      exact ⟨.inl rfl, fun A0' AL' => ⟨_, _, _, rfl, rfl, Nat.le_refl _, by simp, by simp⟩⟩
    · rename_i cs
      dsimp only at h
      cases hl : frl (fr Hm n) cs with
      | none => rw [hl] at h; cases h
      | some p =>
        obtain ⟨l, ks1⟩ := p
        rw [hl] at h
        dsimp only at h
        cases he : D.escs l with
        | false => rw [he] at h; cases h
        | true =>
          rw [he] at h
          simp only [cond_true, Option.some.injEq, Prod.mk.injEq] at h
          obtain ⟨rfl, rfl⟩ := h
          obtain ⟨us, rfl, h1⟩ := hu
          have g2 := frl_esc n cs l ks1 pre hl hL hks us h1
          exact ⟨.inl he, fun A0' AL' => ⟨us, rfl, g2 A0' AL'⟩⟩
    · rename_i cs
      dsimp only at h
      cases hl : frl (fr Hm n) cs with
      | none => rw [hl] at h; cases h
      | some p =>
        obtain ⟨l, ks1⟩ := p
        rw [hl] at h
        simp only [Option.some.injEq, Prod.mk.injEq] at h
        obtain ⟨rfl, rfl⟩ := h
        obtain ⟨us, rfl, h1⟩ := hu
        have g2 := frl_esc n cs l ks1 pre hl hL hks us h1
        exact ⟨.inr ⟨_, rfl⟩, fun A0' AL' => ⟨us, rfl, g2 A0' AL'⟩⟩
termination_by (n, 0)
theorem frl_esc (n : Nat) : ∀ (vs : List V) (ys : List D) (ks : List Nat), (pre : Pre G R w e a Hm) → frl (fr Hm n) vs = some (ys, ks) → ∀ {R' : RP} {ks' : List Nat}, Less R R' ks' → (∀ k ∈ ks, k ∈ ks') → ∀ us, DenVs R w vs us → ∀ A0' AL', DenDs R'.A1 A0' AL' w ys us
  | [], ys, ks, pre, h, R', ks', hL, hks, us, hu => by
    simp only [frl, Option.some.injEq, Prod.mk.injEq] at h
    obtain ⟨rfl, rfl⟩ := h
    exact fun _ _ => hu
  | v :: vs, ys, ks, pre, h, R', ks', hL, hks, us, hu => by
    simp only [frl] at h
    cases h1 : fr Hm n v with
    | none => rw [h1] at h; cases h
    | some p =>
      obtain ⟨y, k1⟩ := p
      cases h2 : frl (fr Hm n) vs with
      | none => rw [h1, h2] at h; cases h
      | some q =>
        obtain ⟨ys', k2⟩ := q
        rw [h1, h2] at h
        simp only [Option.some.injEq, Prod.mk.injEq] at h
        obtain ⟨rfl, rfl⟩ := h
        obtain ⟨u, us', rfl, e1, e2⟩ := hu
        obtain ⟨g1, g2⟩ := frV_esc n v y k1 pre h1 hL (fun k hk => hks k (by simp [hk])) u e1
        have g4 := frl_esc n vs ys' k2 pre h2 hL (fun k hk => hks k (by simp [hk])) us' e2
        exact fun A0' AL' => ⟨u, us', rfl, g2 A0' AL', g4 A0' AL'⟩
termination_by vs => (n, vs.length + 1)
end

theorem Less.refl (R : RP) : Less R R [] := ⟨rfl, rfl, fun _ h => h, by simp⟩

theorem s_mkif (pre : Pre G R w e a Hm) {t : TypeId} {x : Operand} {y : Opd} {z : D} (hop : o.op = .makeInterface t x) (hx : okOpd G x y = true) (ht : P.concrete t = true)
    (h : fr Hm 6 (y.val e) = some (z, [])) (hp : Placed R.H [] nid [] H') : OpOK P o a w (Post R w nid 0 H' (.d (.iface t z))) := by
  have hv := pre.opd hx
  obtain ⟨_, g⟩ := frV_esc 6 _ z [] pre h (Less.refl R) (fun _ h => h) _ hv
  exact opOK_v (s := Instr.makeInterface t (a.eval x)) (by unfold execOp; rw [hop]) (run_makeInterface w t _ ht) (Post.stay pre.ok hp ⟨_, rfl, g _ _⟩)
end

end Go.Proofs.YtljgncbdagmeeaaDoorE
