/- Calls. -/
import Derived.Test.YtljgncbdagmeeaaDoorE18
namespace Go.Proofs.YtljgncbdagmeeaaDoorE
open Go
set_option linter.unusedVariables false
set_option linter.unusedSimpArgs false

/-- may it be called? -/
def callable (P : Program) (f : Nat) : Bool := match P.funcs[f]? with | some fn => !(fn.name == "runtime.NumGoroutine") && fn.body.isSome | none => false

theorem run_callFunc {P : Program} {f : Nat} {args : Array Value} {w : World} (h : callable P f = true) : (callFunc f args).run P w = .ok (.enter f args) w := by
  unfold callable at h
  cases hf : P.funcs[f]? with
  | none => rw [hf] at h; cases h
  | some fn =>
    rw [hf] at h
    simp only [Bool.and_eq_true, Bool.not_eq_true'] at h
    have h1 : ¬ fn.name = "runtime.NumGoroutine" := by simpa using h.1
    have h2 : ¬ fn.body = none := fun hb => by rw [hb] at h; cases h.2
    simp [callFunc, hf, h1, h2]

/-- what a function's answer is to its caller -/
def Ret (R : RP) (w : World) (v : V) (H' : Heap) (u : Value) (w' : World) : Prop :=
  ∃ R', Ext R w R' w' ∧ R'.OK w' ∧ R'.H = H' ∧ DenV R' w' v u ∧ (∀ i, H'.length ≤ i → R'.M i = none) ∧ R.H.length ≤ H'.length

/-- What is evaluated is what the program does. -/
def CallOK (P : Program) (G : Globs) (cf : CallF) : Prop :=
  ∀ (f : Nat) (args : List V) (H : Heap) (v : V) (H' : Heap), cf f args H = some (v, H') → callable P f = true ∧ ∀ (R : RP) (w : World) (us : List Value), R.OK w → GOK G R w → R.H = H → (∀ i, H.length ≤ i → R.M i = none) → DenVs R w args us →
    Calls P f us.toArray w fun e w' => ∃ u, e = .returned u ∧ Ret R w v H' u w'

/-! a call on data -/
def RP.inner (R : RP) : RP := { B1 := fun c => R.live c ∨ R.B1 c, B0 := fun _ => False, M := fun _ => none, H := [] }

section
variable {P : Program} {G : Globs} {R R0' : RP} {w w' : World}

theorem inner_live (c : Nat) : ¬ R.inner.live c := by
  rintro ⟨i, h, _⟩
  simp [RP.inner, isLive, nth] at h

theorem inner_ok (ok : R.OK w) : R.inner.OK w where
  b01 := fun c h => h.elim
  al := fun i blk h => by simp [RP.inner] at h
  inj := fun i j c h => by simp [RP.inner, isLive, nth] at h
  lt := fun i c h => by cases h
  blk := fun i m blk h => by simp [RP.inner] at h
  nb := fun i c h => by simp [RP.inner, isLive, nth] at h
  bl := fun c h => by
    rcases h with ⟨i, _, h⟩ | h
    · exact ok.lt i c h
    · exact ok.bl c h

theorem inner_a1 (b : Nat) (h : R.A1 b) : R.inner.A1 b := ⟨inner_live b, fun h' => h'.elim h.1 h.2⟩

theorem inner_gok (h : GOK G R w) : GOK G R.inner w := fun g l hg =>
  DenD.change _ _ _ _ (fun b _ h => inner_a1 b h) (fun b _ h => ⟨inner_live b, fun h => h⟩) (fun b _ _ => inner_live b) (fun _ _ _ => rfl) (Nat.le_refl _) (fun _ h => h.1) (fun _ h => h.1) _ _ (h g l hg)

theorem inner_args {l : List D} {us : List Value} (h : DenDs R.A1 (fun _ => True) (fun _ => True) w l us) : DenVs R.inner w (mapd l) us :=
  (denVs_mapd l us).2 (DenDs.change _ _ _ _ (fun b _ h => inner_a1 b h) (fun b _ _ => ⟨inner_live b, fun h => h⟩) (fun b _ _ => inner_live b) (fun _ _ _ => rfl) (Nat.le_refl _) (fun _ _ => trivial) (fun _ _ => trivial) l us h)

/-- to the caller, nothing has turned -/
theorem Ext.outer (x : Ext R.inner w R0' w') : Ext R w R w' where
  m := fun _ _ h => h
  h := fun i x blk _ h hd => ⟨blk, h, Blk.like_refl hd⟩
  b1 := rfl
  b0 := rfl
  same := fun b hb _ => x.same b hb (inner_live b)
  row := x.row
  grow := x.grow
  liv := fun _ _ h => h
  os := x.os
  tape := x.tape
  output := x.output

theorem RP.OK.outer (ok : R.OK w) (x : Ext R.inner w R0' w') : R.OK w' :=
  ⟨ok.b01, ok.al, ok.inj, fun i c h => Nat.lt_of_lt_of_le (ok.lt i c h) x.grow, fun i m blk h1 h2 => (Ext.outer x).blkOK ok.b01 (fun c hc => x.same c (ok.lt i c (by rw [h2, hc])) (inner_live c)) (ok.blk i m blk h1 h2),
    ok.nb, fun c h => Nat.lt_of_lt_of_le (ok.bl c h) x.grow⟩

theorem fr_data {a : Act} {H1 : Heap} {v : V} {u : Value} {x : D} {ks : List Nat} (ok : R.OK w) (x0 : Ext R.inner w R0' w') (ok0 : R0'.OK w') (g : GOK G R0' w') (hH : R0'.H = H1) (hv : DenV R0' w' v u) (h : fr H1 6 v = some (x, ks)) : R.den w' x u := by
  have pre : Pre G R0' w' env0 a H1 := ⟨ok0, g, fun t => trivial, fun b blk hb _ => by rw [hH]; exact hb⟩
  obtain ⟨_, h2⟩ := frV_esc 6 v x ks pre h (Less.kill R0' ks) (fun _ h => h) u hv
  refine DenD.change _ _ _ _ (fun b hb h3 => ?_) (fun _ _ h => h) (fun _ _ h => h) (fun _ _ _ => rfl) (Nat.le_refl _) (fun _ h => h.1) (fun b h3 => ?_) x u (h2 R.A0 R.AL)
  · obtain ⟨_, h4⟩ := h3
    rw [show ({ R0' with H := updH R0'.H (kills ks) } : RP).B1 = R.inner.B1 from x0.b1] at h4
    exact ⟨fun h => h4 (.inl h), fun h => h4 (.inr h)⟩
  · obtain ⟨_, h4⟩ := h3
    rw [show ({ R0' with H := updH R0'.H (kills ks) } : RP).B1 = R.inner.B1 from x0.b1] at h4
    exact fun h => h4 (.inl h)

/-! a call whose answer is new memory -/
def RP.news (R R0' : RP) (nid n : Nat) (H' : Heap) : RP := { R with M := fun i => if nid ≤ i ∧ i < nid + n then R0'.M (i - nid) else R.M i, H := H' }

theorem post_news {nid : Nat} {H1 H' : Heap} {v : V} {u : Value} (ok : R.OK w) (x : Ext R.inner w R0' w') (ok0 : R0'.OK w') (hH : R0'.H = H1) (hv : DenV R0' w' v u) (h0 : ∀ i, H1.length ≤ i → R0'.M i = none) (he : escV v = true) (heB : escBs H1 = true)
    (hn : ∀ i, nid ≤ i → i < nid + H1.length → R.M i = none) (hp : Placed R.H [] nid (H1.map (renB fun j => some (nid + j))) H') :
    Post R w nid H1.length H' (renV (fun j => some (nid + j)) v) u w' := by
  let R' := RP.news R R0' nid H1.length H'
  have hMi : ∀ i, (nid ≤ i ∧ i < nid + H1.length) → R'.M i = R0'.M (i - nid) := fun i hi => if_pos hi
  have hMo : ∀ i, ¬ (nid ≤ i ∧ i < nid + H1.length) → R'.M i = R.M i := fun i hi => if_neg hi
  have hHi : ∀ i, (nid ≤ i ∧ i < nid + H1.length) → H'[i]? = (H1[i - nid]?).map (renB fun j => some (nid + j)) := fun i hi => by
    rw [hp i, if_pos (by simpa using hi), List.getElem?_map]
  have hHo : ∀ i, ¬ (nid ≤ i ∧ i < nid + H1.length) → H'[i]? = R.H[i]? := fun i hi => by
    rw [hp i, if_neg (by simpa using hi)]; rfl
  have liveI : ∀ i, (nid ≤ i ∧ i < nid + H1.length) → isLive H' i = true → isLive R0'.H (i - nid) = true := fun i hi hl => by
    obtain ⟨blk, g1, g2⟩ := isLive_iff.1 hl
    rw [hHi i hi] at g1
    cases hb : H1[i - nid]? with
    | none => rw [hb] at g1; cases g1
    | some b0 =>
      rw [hb] at g1
      simp only [Option.map_some, Option.some.injEq] at g1
      exact isLive_iff.2 ⟨b0, by rw [hH]; exact hb, fun e => g2 (by rw [← g1, renB_dead]; exact e)⟩
  have liveO : ∀ i, ¬ (nid ≤ i ∧ i < nid + H1.length) → isLive H' i = true → isLive R.H i = true := fun i hi hl => by
    obtain ⟨blk, g1, g2⟩ := isLive_iff.1 hl
    exact isLive_iff.2 ⟨blk, by rw [← hHo i hi]; exact g1, g2⟩
  have fresh : ∀ i c, isLive R0'.H i = true → R0'.M i = some (some c) → w.heap.size ≤ c := fun i c hl hm => by
    rcases Nat.lt_or_ge c w.heap.size with h | h
    · exact (inner_live c (x.liv c h ⟨i, hl, hm⟩)).elim
    · exact h
  have e : Ext R w R' w' := by
    refine ⟨?_, ?_, rfl, rfl, fun b hb _ => x.same b hb (inner_live b), x.row, x.grow, ?_, x.os, x.tape, x.output⟩
    · intro i m hm
      have : ¬ (nid ≤ i ∧ i < nid + H1.length) := fun h => by rw [hn i h.1 h.2] at hm; cases hm
      rw [hMo i this]; exact hm
    · intro i m blk hm hi hd
      have : ¬ (nid ≤ i ∧ i < nid + H1.length) := fun h => by rw [hn i h.1 h.2] at hm; cases hm
      exact ⟨blk, by rw [← hHo i this]; exact hi, Blk.like_refl hd⟩
    · rintro c hc ⟨i, g1, g2⟩
      by_cases hi : nid ≤ i ∧ i < nid + H1.length
      · rw [hMi i hi] at g2
        have := fresh _ c (liveI i hi g1) g2
        omega
      · rw [hMo i hi] at g2
        exact ⟨i, liveO i hi g1, g2⟩
  have hr : Ren R0' R' (fun j => some (nid + j)) := by
    have inr : ∀ b m, R0'.M b = some m → (nid ≤ nid + b ∧ nid + b < nid + H1.length) := fun b m hm => by
      rcases Nat.lt_or_ge b H1.length with h | h
      · omega
      · rw [h0 b h] at hm; cases hm
    refine ⟨?_, ?_⟩
    · intro b j m hj hm
      cases hj
      rw [hMi _ (inr b m hm), Nat.add_sub_cancel_left]; exact hm
    · intro b j m blk hj hm hb hd
      cases hj
      have hb' : H'[nid + b]? = some blk := hb
      rw [hHi _ (inr b m hm), Nat.add_sub_cancel_left] at hb'
      cases hb0 : H1[b]? with
      | none => rw [hb0] at hb'; cases hb'
      | some b0 =>
        rw [hb0] at hb'
        simp only [Option.map_some, Option.some.injEq] at hb'
        subst hb'
        refine ⟨b0, by rw [hH]; exact hb0, ?_⟩
        rw [renB_like]
        exact Blk.like_refl fun e => hd (by rw [renB_dead]; exact e)
  have a1 : ∀ b, R0'.A1 b → R'.A1 b := fun b ⟨q1, q2⟩ => by
    rw [x.b1] at q2
    refine ⟨?_, fun h => q2 (.inr h)⟩
    rintro ⟨i, g1, g2⟩
    by_cases hi : nid ≤ i ∧ i < nid + H1.length
    · rw [hMi i hi] at g2
      exact q1 ⟨_, liveI i hi g1, g2⟩
    · rw [hMo i hi] at g2
      exact q2 (.inl ⟨i, liveO i hi g1, g2⟩)
  have hesc : ∀ y u, y.esc = true → R0'.den w' y u → R'.den w' y u := fun y u hy h => DenD.lift a1 y u hy h
  have hd : ∀ y u, escV (.d y) = true → R0'.den w' y u → R'.den w' y u := fun y u hy h => by
    cases y with
    | tup ts =>
      obtain ⟨us, h1, h2⟩ := h
      exact ⟨us, h1, DenDs.liftT a1 ts us hy h2⟩
    | _ => exact hesc _ u hy h
  refine ⟨R', e, ⟨ok.b01, ?_, ?_, ?_, ?_, ?_, fun c h => Nat.lt_of_lt_of_le (ok.bl c h) x.grow⟩, rfl, renV_ok hr closed_esc hd v u he hv, fun i h hni => by rw [hMo i hni]; exact h⟩
  · intro i blk hb hdd
    by_cases hi : nid ≤ i ∧ i < nid + H1.length
    · have hb' : H'[i]? = some blk := hb
      rw [hHi i hi] at hb'
      cases hb0 : H1[i - nid]? with
      | none => rw [hb0] at hb'; cases hb'
      | some b0 =>
        rw [hb0] at hb'
        simp only [Option.map_some, Option.some.injEq] at hb'
        subst hb'
        obtain ⟨m, hm⟩ := ok0.al (i - nid) b0 (by rw [hH]; exact hb0) (fun e => hdd (by rw [renB_dead]; exact e))
        exact ⟨m, by rw [hMi i hi]; exact hm⟩
    · obtain ⟨m, hm⟩ := ok.al i blk (by rw [← hHo i hi]; exact hb) hdd
      exact ⟨m, by rw [hMo i hi]; exact hm⟩
  · intro i j c hli hlj g1 g2
    by_cases hi : nid ≤ i ∧ i < nid + H1.length <;> by_cases hj : nid ≤ j ∧ j < nid + H1.length
    · rw [hMi i hi] at g1; rw [hMi j hj] at g2
      have := ok0.inj _ _ c (liveI i hi hli) (liveI j hj hlj) g1 g2
      omega
    · rw [hMi i hi] at g1; rw [hMo j hj] at g2
      have h1 := fresh _ c (liveI i hi hli) g1
      have h2 := ok.lt j c g2
      omega
    · rw [hMo i hi] at g1; rw [hMi j hj] at g2
      have h1 := fresh _ c (liveI j hj hlj) g2
      have h2 := ok.lt i c g1
      omega
    · rw [hMo i hi] at g1; rw [hMo j hj] at g2
      exact ok.inj i j c (liveO i hi hli) (liveO j hj hlj) g1 g2
  · intro i c hc
    by_cases hi : nid ≤ i ∧ i < nid + H1.length
    · rw [hMi i hi] at hc; exact ok0.lt _ c hc
    · rw [hMo i hi] at hc; exact Nat.lt_of_lt_of_le (ok.lt i c hc) x.grow
  · intro i m blk hb hm
    by_cases hi : nid ≤ i ∧ i < nid + H1.length
    · have hb' : H'[i]? = some blk := hb
      rw [hHi i hi] at hb'
      rw [hMi i hi] at hm
      cases hb0 : H1[i - nid]? with
      | none => rw [hb0] at hb'; cases hb'
      | some b0 =>
        rw [hb0] at hb'
        simp only [Option.map_some, Option.some.injEq] at hb'
        subst hb'
        exact renB_ok hr closed_esc hd hesc (fun cs hcs => by subst hcs; exact escBs_at H1 _ cs heB hb0) (ok0.blk (i - nid) m b0 (by rw [hH]; exact hb0) hm)
    · rw [hMo i hi] at hm
      exact e.blkOK ok.b01 (fun c hc => x.same c (ok.lt i c (by rw [hm, hc])) (inner_live c)) (ok.blk i m blk (by rw [← hHo i hi]; exact hb) hm)
  · intro i c hl hc hb1
    by_cases hi : nid ≤ i ∧ i < nid + H1.length
    · rw [hMi i hi] at hc
      refine ok0.nb _ c (liveI i hi hl) hc ?_
      rw [x.b1]; exact .inr hb1
    · rw [hMo i hi] at hc
      exact ok.nb i c (liveO i hi hl) hc hb1
end

end Go.Proofs.YtljgncbdagmeeaaDoorE
