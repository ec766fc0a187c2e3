/- Renaming, snapshots, the least heap. -/
import Derived.Test.YtljgncbdagmeeaaDoorE17
namespace Go.Proofs.YtljgncbdagmeeaaDoorE
open Go
set_option linter.unusedVariables false
set_option linter.unusedSimpArgs false

section
variable {A1 A1' A0 A0' AL AL' : Nat → Prop} {w : World}
mutual
theorem DenD.nofn (h1 : ∀ b, A1 b → A1' b) (h0 : ∀ b, A0 b → A0' b) : ∀ (x : D) (u : Value), x.nofn = true → DenD A1 A0 AL w x u → DenD A1' A0' AL' w x u
  | .bool b, u, _, h => h
  | .int k n, u, _, h => h
  | .str s, u, _, h => h
  | .list own xs, u, _, h => by
    obtain ⟨a, len, cap, e1, e2, e3, e4, e5⟩ := h
    refine ⟨a, len, cap, e1, e2, e3, e4, fun hne => ?_⟩
    obtain ⟨b, off, sz, f1, f2, f3, f4⟩ := e5 hne
    refine ⟨b, off, sz, f1, ?_, f3, DenEls.lift h1 b sz off xs e4 f4⟩
    cases own
    · exact h0 _ f2
    · exact h1 _ f2
  | .agg cs, u, he, h => by
    obtain ⟨us, e1, e2⟩ := h
    exact ⟨us, e1, DenDs.nofn h1 h0 cs us he e2⟩
  | .tup cs, u, he, h => by
    obtain ⟨us, e1, e2⟩ := h
    exact ⟨us, e1, DenDs.nofn h1 h0 cs us he e2⟩
  | .fn f caps, u, he, h => by
    obtain ⟨us, e1, e2⟩ := h
    simp only [D.nofn, List.isEmpty_iff] at he
    subst he
    exact ⟨us, e1, e2⟩
  | .nilfn, u, _, h => h
  | .rptr cs, u, he, h => by
    obtain ⟨b, off, e1, e2, e3, e4⟩ := h
    exact ⟨b, off, e1, h0 _ e2, e3, DenCells.nofn h1 h0 b off cs he e4⟩
  | .nilp, u, _, h => h
  | .iface t v, u, he, h => by
    obtain ⟨u', e1, e2⟩ := h
    exact ⟨u', e1, DenD.nofn h1 h0 v u' he e2⟩
  | .nilI, u, _, h => h
theorem DenDs.nofn (h1 : ∀ b, A1 b → A1' b) (h0 : ∀ b, A0 b → A0' b) : ∀ (xs : List D) (us : List Value), D.nofns xs = true → DenDs A1 A0 AL w xs us → DenDs A1' A0' AL' w xs us
  | [], us, _, h => h
  | x :: xs, us, he, h => by
    obtain ⟨u, us', e1, e2, e3⟩ := h
    simp only [D.nofns, Bool.and_eq_true] at he
    exact ⟨u, us', e1, DenD.nofn h1 h0 x u he.1 e2, DenDs.nofn h1 h0 xs us' he.2 e3⟩
theorem DenCells.nofn (h1 : ∀ b, A1 b → A1' b) (h0 : ∀ b, A0 b → A0' b) (b off : Nat) : ∀ (xs : List D), D.nofns xs = true → DenCells A1 A0 AL w b off xs → DenCells A1' A0' AL' w b off xs
  | [], _, h => trivial
  | x :: xs, he, h => by
    obtain ⟨⟨u, e1, e2⟩, e3⟩ := h
    simp only [D.nofns, Bool.and_eq_true] at he
    exact ⟨⟨u, e1, DenD.nofn h1 h0 x u he.1 e2⟩, DenCells.nofn h1 h0 b (off + 1) xs he.2 e3⟩
end
end

/-! renaming -/
structure Ren (R R' : RP) (ρ : Nat → Option Nat) : Prop where
  m : ∀ b j x, ρ b = some j → R.M b = some x → R'.M j = some x
  h : ∀ (b j : Nat) x blk, ρ b = some j → R.M b = some x → R'.H[j]? = some blk → blk ≠ .dead → ∃ old, R.H[b]? = some old ∧ old.like blk

theorem slAt_len {w : World} {m : Option Nat} {xs ys : List D} {sz o len : Nat} {u : Value} (hl : ys.length = xs.length) (h : SlAt w m xs sz o len u) : SlAt w m ys sz o len u := by
  obtain ⟨h1, a, cap, h2, h3, h4⟩ := h
  refine ⟨by omega, a, cap, h2, h3, ?_⟩
  rcases h4 with ⟨h4, h5⟩ | h4
  · exact .inl ⟨h4, by omega⟩
  · exact .inr h4

section
variable {R R' : RP} {w : World} {ρ : Nat → Option Nat} {Q : V → Prop}
structure Closed (Q : V → Prop) : Prop where
  agg : ∀ cs, Q (.agg cs) → ∀ c ∈ cs, Q c
  tup : ∀ cs, Q (.tup cs) → ∀ c ∈ cs, Q c
  fn : ∀ f cs, Q (.fn f cs) → ∀ c ∈ cs, Q c

mutual
theorem renV_ok (hr : Ren R R' ρ) (hQ : Closed Q) (hd : ∀ x u, Q (.d x) → R.den w x u → R'.den w x u) : ∀ (v : V) (u : Value), Q v → DenV R w v u → DenV R' w (renV ρ v) u
  | .d x, u, q, h => hd x u q h
  | .bad, u, q, h => trivial
  | .ptr b o, u, q, h => by
    obtain ⟨c, h1, h2⟩ := h
    simp only [renV]
    cases hb : ρ b with
    | none => trivial
    | some j => exact ⟨c, hr.m b j _ hb h1, h2⟩
  | .eptr b sz i k, u, q, h => by
    obtain ⟨c, h1, h2⟩ := h
    simp only [renV]
    cases hb : ρ b with
    | none => trivial
    | some j => exact ⟨c, hr.m b j _ hb h1, h2⟩
  | .sl b sz, u, q, h => by
    obtain ⟨h0, m, h1, h2⟩ := h
    simp only [renV]
    cases hb : ρ b with
    | none => trivial
    | some j =>
      refine ⟨h0, m, hr.m b j m hb h1, fun xs hc => ?_⟩
      rw [nth_eq] at hc
      obtain ⟨old, f1, f2⟩ := hr.h b j m _ hb h1 hc (by simp)
      cases old <;> simp [Blk.like] at f2
      obtain ⟨rfl, f2⟩ := f2
      have := slAt_len f2 (h2 _ (by rw [nth_eq]; exact f1))
      rw [f2]; exact this
  | .slp b sz o len, u, q, h => by
    obtain ⟨h0, m, h1, h2⟩ := h
    simp only [renV]
    cases hb : ρ b with
    | none => trivial
    | some j =>
      refine ⟨h0, m, hr.m b j m hb h1, fun xs hc => ?_⟩
      rw [nth_eq] at hc
      obtain ⟨old, f1, f2⟩ := hr.h b j m _ hb h1 hc (by simp)
      cases old <;> simp [Blk.like] at f2
      obtain ⟨rfl, f2⟩ := f2
      exact slAt_len f2 (h2 _ (by rw [nth_eq]; exact f1))
  | .nilsl sz, u, q, h => h
  | .agg cs, u, q, h => by
    obtain ⟨us, h1, h2⟩ := h
    exact ⟨us, h1, renVs_ok hr hQ hd cs us (hQ.agg cs q) h2⟩
  | .tup cs, u, q, h => by
    obtain ⟨us, h1, h2⟩ := h
    exact ⟨us, h1, renVs_ok hr hQ hd cs us (hQ.tup cs q) h2⟩
  | .fn f cs, u, q, h => by
    obtain ⟨us, h1, h2⟩ := h
    exact ⟨us, h1, renVs_ok hr hQ hd cs us (hQ.fn f cs q) h2⟩
  | .mp b, u, q, h => by
    obtain ⟨h0, m, h1, h2⟩ := h
    simp only [renV]
    cases hb : ρ b with
    | none => trivial
    | some j =>
      refine ⟨h0, m, hr.m b j m hb h1, fun es hc => ?_⟩
      rw [nth_eq] at hc
      obtain ⟨old, f1, f2⟩ := hr.h b j m _ hb h1 hc (by simp)
      cases old <;> simp [Blk.like] at f2
      exact h2 _ (by rw [nth_eq]; exact f1)
theorem renVs_ok (hr : Ren R R' ρ) (hQ : Closed Q) (hd : ∀ x u, Q (.d x) → R.den w x u → R'.den w x u) : ∀ (vs : List V) (us : List Value), (∀ v ∈ vs, Q v) → DenVs R w vs us → DenVs R' w (renVs ρ vs) us
  | [], us, _, h => h
  | v :: vs, us, q, h => by
    obtain ⟨u, us', h1, h2, h3⟩ := h
    exact ⟨u, us', h1, renV_ok hr hQ hd v u (q v (by simp)) h2, renVs_ok hr hQ hd vs us' (fun x hx => q x (by simp [hx])) h3⟩
end

theorem renVs_len (ρ : Nat → Option Nat) : ∀ (vs : List V), (renVs ρ vs).length = vs.length
  | [] => rfl
  | v :: vs => by simp [renVs, renVs_len ρ vs]
theorem renVs_get (ρ : Nat → Option Nat) : ∀ (vs : List V) (j : Nat), (renVs ρ vs)[j]? = (vs[j]?).map (renV ρ)
  | [], j => by simp [renVs]
  | v :: vs, 0 => by simp [renVs]
  | v :: vs, j + 1 => by simp [renVs, renVs_get ρ vs j]

theorem renB_like {b c : Blk} : b.like (renB ρ c) ↔ b.like c := by
  cases c <;> cases b <;> simp [renB, Blk.like]
theorem like_renB {b c : Blk} : (renB ρ b).like c ↔ b.like c := by
  cases b <;> cases c <;> simp [renB, Blk.like]
theorem renB_dead {b : Blk} : renB ρ b = .dead ↔ b = .dead := by cases b <;> simp [renB]

theorem renB_ok (hr : Ren R R' ρ) (hQ : Closed Q) (hd : ∀ x u, Q (.d x) → R.den w x u → R'.den w x u) (he : ∀ x u, x.esc = true → R.den w x u → R'.den w x u) {m : Option Nat} {blk : Blk} (hq : ∀ cs, blk = .cells cs → ∀ c ∈ cs, Q c) (h : BlkOK R w m blk) : BlkOK R' w m (renB ρ blk) := by
  cases blk with
  | dead => trivial
  | cells vs =>
    obtain ⟨c, cs, el, fr, h1, h2, h3, h4, h5⟩ := h
    refine ⟨c, cs, el, fr, h1, h2, h3, by rw [renVs_len]; exact h4, fun k v hk => ?_⟩
    rw [renVs_get] at hk
    cases hv : vs[k]? with
    | none => rw [hv] at hk; cases hk
    | some v0 =>
      rw [hv] at hk
      simp only [Option.map_some, Option.some.injEq] at hk
      subst hk
      obtain ⟨u, f1, f2⟩ := h5 k v0 hv
      exact ⟨u, f1, renV_ok hr hQ hd v0 u (hq vs rfl v0 (List.mem_of_getElem? hv)) f2⟩
  | arr sz xs =>
    obtain ⟨h0, h1, h2⟩ := h
    refine ⟨h0, h1, ?_⟩
    rcases h2 with h2 | ⟨c, cs, el, h3, h4, h5, h6⟩
    · exact .inl h2
    · refine .inr ⟨c, cs, el, h3, h4, h5, fun j x hj => ?_⟩
      obtain ⟨u, f1, f2, f3⟩ := h6 j x hj
      exact ⟨u, he x u (h1 x (List.mem_of_getElem? hj)) f1, f2, f3⟩
  | mp es => exact h
end

theorem closed_true : Closed (fun _ => True) := ⟨fun _ _ _ _ => trivial, fun _ _ _ _ => trivial, fun _ _ _ _ _ => trivial⟩
theorem escVs_iff : ∀ (cs : List V), escVs cs = true ↔ ∀ c ∈ cs, escV c = true
  | [] => by simp [escVs]
  | c :: cs => by simp [escVs, escVs_iff cs]
theorem nofnVs_iff : ∀ (cs : List V), nofnVs cs = true ↔ ∀ c ∈ cs, nofnV c = true
  | [] => by simp [nofnVs]
  | c :: cs => by simp [nofnVs, nofnVs_iff cs]
theorem closed_esc : Closed (fun v => escV v = true) := ⟨fun cs h => (escVs_iff cs).1 h, fun cs h => (escVs_iff cs).1 h, fun f cs h => (escVs_iff cs).1 h⟩
theorem closed_nofn : Closed (fun v => nofnV v = true) := ⟨fun cs h => (nofnVs_iff cs).1 h, fun cs h => (nofnVs_iff cs).1 h, fun f cs h => (nofnVs_iff cs).1 h⟩
theorem escBs_at : ∀ (H : List Blk) (j : Nat) (cs : List V), escBs H = true → H[j]? = some (.cells cs) → ∀ c ∈ cs, escV c = true
  | [], j, cs, _, h => by simp at h
  | b :: H, 0, cs, he, h => by
    simp at h; subst h
    simp only [escBs, Bool.and_eq_true] at he
    exact (escVs_iff cs).1 he.1
  | b :: H, j + 1, cs, he, h => by
    refine escBs_at H j cs ?_ (by simpa using h)
    cases b <;> simp_all [escBs]
theorem nofnBs_at : ∀ (H : List Blk) (j : Nat) (cs : List V), nofnBs H = true → H[j]? = some (.cells cs) → ∀ c ∈ cs, nofnV c = true
  | [], j, cs, _, h => by simp at h
  | b :: H, 0, cs, he, h => by
    simp at h; subst h
    simp only [nofnBs, Bool.and_eq_true] at he
    exact (nofnVs_iff cs).1 he.1
  | b :: H, j + 1, cs, he, h => by
    refine nofnBs_at H j cs ?_ (by simpa using h)
    cases b <;> simp_all [nofnBs]

/-! snapshots -/
section
variable {R : RP} {w : World} {Hm : Heap}
/-- nothing is held back -/
def RP.weak (R : RP) : RP := { R with B0 := fun _ => False }

theorem RP.weak_live (R : RP) (c : Nat) : R.weak.live c ↔ R.live c := Iff.rfl
theorem RP.den_weak {x : D} {u : Value} (h : R.den w x u) : R.weak.den w x u :=
  DenD.change _ _ _ _ (fun _ _ h => h) (fun _ _ h => ⟨h.1, fun h => h⟩) (fun _ _ h => h) (fun _ _ _ => rfl) (Nat.le_refl _) (fun _ h => h.1) (fun _ h => h.1) x u h
mutual
theorem RP.denV_weak : ∀ (v : V) (u : Value), DenV R w v u → DenV R.weak w v u
  | .d x, u, h => RP.den_weak h
  | .bad, u, h => trivial
  | .ptr b o, u, h => h
  | .eptr b sz i k, u, h => h
  | .sl b sz, u, h => h
  | .slp b sz o len, u, h => h
  | .nilsl sz, u, h => h
  | .agg cs, u, h => by
    obtain ⟨us, h1, h2⟩ := h
    exact ⟨us, h1, RP.denVs_weak cs us h2⟩
  | .tup cs, u, h => by
    obtain ⟨us, h1, h2⟩ := h
    exact ⟨us, h1, RP.denVs_weak cs us h2⟩
  | .fn f cs, u, h => by
    obtain ⟨us, h1, h2⟩ := h
    exact ⟨us, h1, RP.denVs_weak cs us h2⟩
  | .mp b, u, h => h
theorem RP.denVs_weak : ∀ (vs : List V) (us : List Value), DenVs R w vs us → DenVs R.weak w vs us
  | [], us, h => h
  | v :: vs, us, h => by
    obtain ⟨u, us', h1, h2, h3⟩ := h
    exact ⟨u, us', h1, RP.denV_weak v u h2, RP.denVs_weak vs us' h3⟩
end

/-- a datum, as it is seen by whom nothing is handed -/
theorem den_all {x : D} {u : Value} (h : R.weak.den w x u) : DenD R.A1 (fun _ => True) (fun _ => True) w x u :=
  DenD.change _ _ _ _ (fun _ _ h => h) (fun _ _ h => trivial) (fun _ _ h => trivial) (fun _ _ _ => rfl) (Nat.le_refl _) (fun _ h => h.1) (fun _ h => h.1) x u h

mutual
theorem fz_ok (ok : R.OK w) (le : ∀ b blk, nth Hm b = some blk → blk ≠ .dead → nth R.H b = some blk) (n : Nat) : ∀ (v : V) (y : D) (u : Value), fz Hm n v = some y → DenV R.weak w v u → DenD R.A1 (fun _ => True) (fun _ => True) w y u := by
  intro v y u h hu
  cases n with
  | zero => cases h
  | succ n =>
    simp only [fz] at h
    cases v <;> try (cases h; done)
    · cases h
      exact den_all hu
    · rename_i b o
      dsimp only at h
      cases hb : nth Hm b with
      | none => rw [hb] at h; cases h
      | some blk =>
        rw [hb] at h
        cases blk <;> try (cases h; done)
        rename_i cs
        dsimp only at h
        cases hl : fzl (fz Hm n) (cs.drop o) with
        | none => rw [hl] at h; cases h
        | some l =>
          rw [hl] at h
          cases h
          have hb' := le b _ hb (by simp)
          obtain ⟨c, h1, rfl⟩ := hu
          rw [nth_eq] at hb'
          obtain ⟨c', cs', el, fr', e1, e2, e3, e4, e5⟩ := ok.blk b _ _ hb' h1
          cases e1
          refine ⟨c, o, rfl, trivial, ok.lt _ _ h1, ?_⟩
          obtain ⟨us, g1, g2⟩ := list_choose (cs.drop o) (fun j v u => cs'[o + j]? = some u ∧ DenV R.weak w v u) (fun j v hj => by
            obtain ⟨u, p1, p2⟩ := e5 (o + j) v (by simpa using hj)
            exact ⟨u, p1, RP.denV_weak v u p2⟩)
          have hds := fzl_ok ok le n (cs.drop o) l us hl (denVs_mk _ _ g1 fun j v u hv hu => (g2 j v u hv hu).2)
          refine denCells_mk _ _ fun j x hj => ?_
          obtain ⟨u, q1, q2⟩ := denDs_at l us j x hds hj
          have hlt : j < (cs.drop o).length := by rw [← g1]; exact (List.getElem?_eq_some_iff.1 q1).1
          exact ⟨u, by rw [cell_of_heap e2]; exact (g2 j _ u (List.getElem?_eq_getElem hlt) q1).1, q2⟩
    · rename_i b sz
      dsimp only at h
      cases hb : nth Hm b with
      | none => rw [hb] at h; cases h
      | some blk =>
        rw [hb] at h
        cases blk <;> try (cases h; done)
        rename_i sz' xs
        dsimp only at h
        cases hs : Nat.beq sz sz' with
        | false => rw [hs] at h; cases h
        | true =>
          rw [hs] at h
          obtain rfl := Nat.eq_of_beq_eq_true hs
          simp only [cond_true, Option.some.injEq] at h
          subst h
          have hb' := le b _ hb (by simp)
          obtain ⟨_, m, h1, h2⟩ := hu
          have q4 := h2 xs hb'
          have q3 := ok.blk b _ _ (by rw [← nth_eq]; exact hb') h1
          have q5 := q4
          obtain ⟨_, ad, cap, rfl, q6, q7⟩ := q5
          refine ⟨_, _, _, rfl, rfl, q6, q3.2.1, fun hne => ?_⟩
          obtain ⟨c, cs, el, fr', cap', rfl, e1, e2, e3, e4⟩ := slAt_real q4 (.inl (List.length_pos_iff.2 hne))
          cases e1
          refine ⟨c, 0 * sz, sz, rfl, trivial, ok.lt _ _ h1, ?_⟩
          have := blk_els ok (A1' := R.A1) (A0' := fun _ => True) (AL' := fun _ => True) (fun _ h => h) (l := 0) (n := xs.length) q3 (by simpa using hne)
          simpa using this
    · rename_i b sz of len
      dsimp only at h
      cases hb : nth Hm b with
      | none => rw [hb] at h; cases h
      | some blk =>
        rw [hb] at h
        cases blk <;> try (cases h; done)
        rename_i sz' xs
        dsimp only at h
        cases hs : Nat.beq sz sz' with
        | false => rw [hs] at h; cases h
        | true =>
          rw [hs] at h
          obtain rfl := Nat.eq_of_beq_eq_true hs
          simp only [cond_true, Option.some.injEq] at h
          subst h
          have hb' := le b _ hb (by simp)
          obtain ⟨_, m, h1, h2⟩ := hu
          have q4 := h2 xs hb'
          have q3 := ok.blk b _ _ (by rw [← nth_eq]; exact hb') h1
          have q5 := q4
          obtain ⟨q8, ad, cap, rfl, q6, q7⟩ := q5
          have hlen : ((xs.drop of).take len).length = len := by simp only [List.length_take, List.length_drop]; omega
          refine ⟨_, _, _, rfl, hlen.symm, q6, fun x hx => q3.2.1 x (List.mem_of_mem_drop (List.mem_of_mem_take hx)), fun hne => ?_⟩
          obtain ⟨c, cs, el, fr', cap', rfl, e1, e2, e3, e4⟩ := slAt_real q4 (.inl (by rw [← hlen]; exact List.length_pos_iff.2 hne))
          cases e1
          exact ⟨c, of * sz, sz, rfl, trivial, ok.lt _ _ h1, blk_els ok (fun _ h => h) q3 hne⟩
    · cases h
      obtain ⟨ad, rfl⟩ := hu
      exact ⟨_, _, _, rfl, rfl, Nat.le_refl _, by simp, by simp⟩
    · rename_i cs
      dsimp only at h
      cases hl : fzl (fz Hm n) cs with
      | none => rw [hl] at h; cases h
      | some l =>
        rw [hl] at h
        cases h
        obtain ⟨us, rfl, h1⟩ := hu
        exact ⟨us, rfl, fzl_ok ok le n cs l us hl h1⟩
    · rename_i f cs
      dsimp only at h
      cases hl : fzl (fz Hm n) cs with
      | none => rw [hl] at h; cases h
      | some l =>
        rw [hl] at h
        cases h
        obtain ⟨us, rfl, h1⟩ := hu
        exact ⟨us, rfl, fzl_ok ok le n cs l us hl h1⟩
termination_by (n, 0)
theorem fzl_ok (ok : R.OK w) (le : ∀ b blk, nth Hm b = some blk → blk ≠ .dead → nth R.H b = some blk) (n : Nat) : ∀ (vs : List V) (ys : List D) (us : List Value), fzl (fz Hm n) vs = some ys → DenVs R.weak w vs us → DenDs R.A1 (fun _ => True) (fun _ => True) w ys us
  | [], ys, us, h, hu => by
    simp only [fzl, Option.some.injEq] at h
    subst h
    exact hu
  | v :: vs, ys, us, h, hu => by
    simp only [fzl] at h
    cases h1 : fz Hm n v with
    | none => rw [h1] at h; cases h
    | some y =>
      cases h2 : fzl (fz Hm n) vs with
      | none => rw [h1, h2] at h; cases h
      | some l =>
        rw [h1, h2] at h
        simp only [Option.some.injEq] at h
        subst h
        obtain ⟨u, us', rfl, e1, e2⟩ := hu
        exact ⟨u, us', rfl, fz_ok ok le n v y u h1 e1, fzl_ok ok le n vs l us' h2 e2⟩
termination_by vs => (n, vs.length + 1)
end
end

/-! the least heap -/
theorem idx_spec : ∀ (L : List Nat) (b i j : Nat), idx L b i = some j → i ≤ j ∧ L[j - i]? = some b
  | [], b, i, j, h => by cases h
  | a :: L, b, i, j, h => by
    simp only [idx] at h
    cases hb : Nat.beq a b with
    | true =>
      rw [hb] at h
      simp only [cond_true, Option.some.injEq] at h
      subst h
      obtain rfl := Nat.eq_of_beq_eq_true hb
      exact ⟨Nat.le_refl _, by simp⟩
    | false =>
      rw [hb] at h
      simp only [cond_false] at h
      obtain ⟨h1, h2⟩ := idx_spec L b (i + 1) j h
      refine ⟨by omega, ?_⟩
      have : j - i = (j - (i + 1)) + 1 := by omega
      rw [this, List.getElem?_cons_succ]
      exact h2
theorem idx0 {L : List Nat} {b j : Nat} (h : idx L b 0 = some j) : L[j]? = some b := by simpa using (idx_spec L b 0 j h).2

theorem nodup_spec : ∀ (L : List Nat), nodupB L = true → ∀ (i j b : Nat), L[i]? = some b → L[j]? = some b → i = j
  | [], _, i, j, b, h, _ => by simp at h
  | a :: L, h, i, j, b, hi, hj => by
    simp only [nodupB, Bool.and_eq_true, Bool.not_eq_true'] at h
    have hn : b = a → ∀ k : Nat, L[k]? = some b → False := fun e k hk => by
      subst e
      have := (elem_iff L b).2 (List.mem_of_getElem? hk)
      rw [this] at h; cases h.1
    cases i with
    | zero =>
      simp at hi
      cases j with
      | zero => rfl
      | succ j => exact (hn hi.symm j (by simpa using hj)).elim
    | succ i =>
      cases j with
      | zero =>
        simp at hj
        exact (hn hj.symm i (by simpa using hi)).elim
      | succ j => rw [nodup_spec L h.2 i j b (by simpa using hi) (by simpa using hj)]

theorem ltAll_spec (n : Nat) : ∀ (L : List Nat), ltAll n L = true → ∀ b ∈ L, b < n
  | [], _, b, hb => by cases hb
  | a :: L, h, b, hb => by
    simp only [ltAll, Bool.and_eq_true] at h
    rcases List.mem_cons.1 hb with rfl | hb
    · have := h.1; simp [Nat.blt] at this; omega
    · exact ltAll_spec n L h.2 b hb

theorem pick_get (H : Heap) (ρ : Nat → Option Nat) : ∀ (L : List Nat) (j : Nat), (pick H ρ L)[j]? = (L[j]?).map fun b => match nth H b with | some blk => renB ρ blk | none => .dead
  | [], j => by simp [pick]
  | b :: L, 0 => by
    simp only [pick, List.getElem?_cons_zero, Option.map_some]
    cases nth H b <;> rfl
  | b :: L, j + 1 => by simp [pick, pick_get H ρ L j]

theorem addAll_live (H : Heap) : ∀ (bs l : List Nat) (b : Nat), b ∈ addAll H l bs → b ∈ l ∨ isLive H b = true
  | [], l, b, h => .inl h
  | a :: bs, l, b, h => by
    simp only [addAll] at h
    cases hc : (elem l a || !(isLive H a)) with
    | true => rw [hc] at h; exact addAll_live H bs l b h
    | false =>
      rw [hc] at h
      rcases addAll_live H bs _ b h with h | h
      · rcases List.mem_append.1 h with h | h
        · exact .inl h
        · simp only [List.mem_singleton] at h
          subst h
          simp only [Bool.or_eq_false_iff, Bool.not_eq_false'] at hc
          exact .inr hc.2
      · exact .inr h
theorem addAll_prefix (H : Heap) : ∀ (bs l : List Nat), ∃ r, addAll H l bs = l ++ r
  | [], l => ⟨[], by simp [addAll]⟩
  | a :: bs, l => by
    simp only [addAll]
    cases hc : (elem l a || !(isLive H a)) with
    | true => exact addAll_prefix H bs l
    | false =>
      obtain ⟨r, hr⟩ := addAll_prefix H bs (l ++ [a])
      exact ⟨a :: r, by simp only [cond_false]; rw [hr]; simp⟩
theorem reach_live (H : Heap) : ∀ (n i : Nat) (l : List Nat) (b : Nat), b ∈ reach H n i l → b ∈ l ∨ isLive H b = true
  | 0, i, l, b, h => .inl h
  | n + 1, i, l, b, h => by
    simp only [reach] at h
    split at h
    · rcases reach_live H n (i + 1) _ b h with h | h
      · exact addAll_live H _ l b h
      · exact .inr h
    · exact .inl h
theorem reach_prefix (H : Heap) : ∀ (n i : Nat) (l : List Nat), ∃ r, reach H n i l = l ++ r
  | 0, i, l => ⟨[], by simp [reach]⟩
  | n + 1, i, l => by
    simp only [reach]
    split
    · rename_i b hb
      obtain ⟨r1, h1⟩ := addAll_prefix H (refsB H b) l
      obtain ⟨r2, h2⟩ := reach_prefix H n (i + 1) (addAll H l (refsB H b))
      exact ⟨r1 ++ r2, by rw [h2, h1]; simp⟩
    · exact ⟨[], by simp⟩
theorem upTo_get : ∀ (k i : Nat), i < k → (upTo k)[i]? = some i
  | 0, i, h => by omega
  | k + 1, i, h => by
    have hl : ∀ k, (upTo k).length = k := fun k => by induction k <;> simp_all [upTo]
    simp only [upTo]
    by_cases hi : i < k
    · rw [List.getElem?_append_left (by rw [hl]; exact hi)]
      exact upTo_get k i hi
    · have : i = k := by omega
      subst this
      rw [List.getElem?_append_right (by rw [hl]; exact Nat.le_refl _), hl]; simp
theorem upTo_len (k : Nat) : (upTo k).length = k := by induction k <;> simp_all [upTo]

structure Least (k : Nat) (vs : List V) (H : Heap) (L : List Nat) (vs' : List V) (H' : Heap) : Prop where
  nodup : ∀ (i j b : Nat), L[i]? = some b → L[j]? = some b → i = j
  lt : ∀ b ∈ L, b < H.length
  vs : vs' = renVs (fun b => idx L b 0) vs
  h : H' = pick H (fun b => idx L b 0) L
  pre : ∀ i, i < k → L[i]? = some i
  live : k = 0 → ∀ b ∈ L, isLive H b = true

theorem extract_spec {k : Nat} {vs : List V} {H : Heap} {L : List Nat} {vs' : List V} {H' : Heap} (h : extract k vs H = some (L, vs', H')) : Least k vs H L vs' H' := by
  unfold extract at h
  dsimp only at h
  cases hc : (nodupB (collect H k vs) && ltAll H.length (collect H k vs)) with
  | false => rw [hc] at h; cases h
  | true =>
    rw [hc] at h
    simp only [cond_true, Option.some.injEq, Prod.mk.injEq] at h
    obtain ⟨rfl, rfl, rfl⟩ := h
    simp only [Bool.and_eq_true] at hc
    refine ⟨nodup_spec _ hc.1, ltAll_spec _ _ hc.2, rfl, rfl, fun i hi => ?_, fun hk b hb => ?_⟩
    · unfold collect
      obtain ⟨r1, h1⟩ := addAll_prefix H (refsVs vs) (upTo k)
      obtain ⟨r2, h2⟩ := reach_prefix H (H.length + 1) 0 (addAll H (upTo k) (refsVs vs))
      rw [h2, h1, List.append_assoc, List.getElem?_append_left (by rw [upTo_len]; exact hi)]
      exact upTo_get k i hi
    · subst hk
      rcases reach_live H _ _ _ b hb with h | h
      · rcases addAll_live H _ _ b h with h | h
        · simp [upTo] at h
        · exact h
      · exact h

theorem pick_len (H : Heap) (ρ : Nat → Option Nat) : ∀ (L : List Nat), (pick H ρ L).length = L.length
  | [] => rfl
  | b :: L => by simp [pick, pick_len H ρ L]

end Go.Proofs.YtljgncbdagmeeaaDoorE
