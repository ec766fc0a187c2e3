/- Calls, joined. -/
import Derived.Test.YtakebhleglnpjaaDoorE20
namespace Go.Proofs.YtakebhleglnpjaaDoorE
open Go
set_option linter.unusedVariables false
set_option linter.unusedSimpArgs false

section
variable {P : Program} {G : Globs} {R : RP} {w : World} {e : Env} {a : Act} {Hm H' : Heap} {nid : Nat} {o : Oper}

theorem callE_ok (a : Act) (ok : R.OK w) (g : GOK G R w) (le : ∀ b blk, nth Hm b = some blk → blk ≠ .dead → nth R.H b = some blk) {Γ : Ctx} {cf : CallF} (hcf : CallOK P G cf) {f : Nat} {args : List V} {us : List Value} {v : V} {up : List (Nat × Blk)} {nw : List Blk}
    (ha : DenVs R.weak w args us) (ha2 : ¬ (Nat.ble (Γ.mode f) 1 = true) → DenVs R w args us) (h : callE Γ cf nid Hm f args = some (v, up, nw)) (hn : ∀ i, nid ≤ i → i < nid + nw.length → R.M i = none) (hp : Placed R.H up nid nw H') :
    callable P f = true ∧ Calls P f us.toArray w fun e w' => ∃ u, e = .returned u ∧ Post R w nid nw.length H' v u w' := by
  unfold callE at h
  split at h
  · cases hz : fzs Hm args with
    | none => rw [hz] at h; cases h
    | some l =>
      rw [hz] at h
      dsimp only at h
      cases hc : cf f (mapd l) [] with
      | none => rw [hc] at h; cases h
      | some r =>
        obtain ⟨v1, H1⟩ := r
        rw [hc] at h
        dsimp only at h
        cases hfr : fr H1 6 v1 with
        | none => rw [hfr] at h; cases h
        | some q =>
          obtain ⟨x, ks⟩ := q
          rw [hfr] at h
          dsimp only at h
          obtain ⟨h1, h2⟩ := hcf f (mapd l) [] v1 H1 hc
          refine ⟨h1, (h2 R.inner w us (inner_ok ok) (inner_gok g) rfl (fun _ _ => rfl) (inner_args (fzl_ok ok le 6 args l us hz ha))).mono ?_⟩
          rintro e' w' ⟨u, rfl, R0', x0, ok0, hH, hv, h0, hl⟩
          have hx : R.den w' x u := fr_data (a := a) ok x0 ok0 (x0.gok (inner_ok ok).b01 (inner_gok g)) hH hv hfr
          have fin : ∀ v', DenV R w' v' u → up = [] → nw = [] → Post R w nid nw.length H' v' u w' := by
            intro v' hv' hup hnw
            subst hup; subst hnw
            exact ⟨R, x0.outer, ok.outer x0, hp.same.symm, hv', fun i h _ => h⟩
          split at h
          · simp only [Option.some.injEq, Prod.mk.injEq] at h
            obtain ⟨rfl, hup, hnw⟩ := h
            obtain ⟨us', e1, e2⟩ := hx
            exact ⟨u, rfl, fin _ ⟨us', e1, (denVs_mapd _ us').2 e2⟩ hup.symm hnw.symm⟩
          · simp only [Option.some.injEq, Prod.mk.injEq] at h
            obtain ⟨rfl, hup, hnw⟩ := h
            exact ⟨u, rfl, fin _ hx hup.symm hnw.symm⟩
  · cases hz : fzs Hm args with
    | none => rw [hz] at h; cases h
    | some l =>
      rw [hz] at h
      dsimp only at h
      cases hc : cf f (mapd l) [] with
      | none => rw [hc] at h; cases h
      | some r =>
        obtain ⟨v1, H1⟩ := r
        rw [hc] at h
        dsimp only at h
        cases he : (escV v1 && escBs H1) with
        | false => rw [he] at h; cases h
        | true =>
          rw [he] at h
          simp only [cond_true, Option.some.injEq, Prod.mk.injEq] at h
          obtain ⟨rfl, rfl, rfl⟩ := h
          simp only [Bool.and_eq_true] at he
          obtain ⟨h1, h2⟩ := hcf f (mapd l) [] v1 H1 hc
          refine ⟨h1, (h2 R.inner w us (inner_ok ok) (inner_gok g) rfl (fun _ _ => rfl) (inner_args (fzl_ok ok le 6 args l us hz ha))).mono ?_⟩
          rintro e' w' ⟨u, rfl, R0', x0, ok0, hH, hv, h0, hl⟩
          rw [List.length_map] at hn ⊢
          exact ⟨u, rfl, post_news ok x0 ok0 hH hv h0 he.1 he.2 hn hp⟩
  · rename_i m hm0 hm1
    have hm : ¬ (Nat.ble (Γ.mode f) 1 = true) := by
      intro hb
      have := Nat.le_of_ble_eq_true hb
      rcases Nat.lt_or_ge (Γ.mode f) 1 with h | h
      · exact hm0 (by omega)
      · exact hm1 (by omega)
    cases hx : extract 0 args Hm with
    | none => rw [hx] at h; cases h
    | some q =>
      obtain ⟨L, args', H0⟩ := q
      rw [hx] at h
      dsimp only at h
      have hL := extract_spec hx
      cases hc : cf f args' H0 with
      | none => rw [hc] at h; cases h
      | some r =>
        obtain ⟨v1, H1⟩ := r
        rw [hc] at h
        dsimp only at h
        cases he : (nofnV v1 && nofnBs H1) with
        | false => rw [he] at h; cases h
        | true =>
          rw [he] at h
          simp only [cond_true, Option.some.injEq, Prod.mk.injEq] at h
          obtain ⟨rfl, rfl, rfl⟩ := h
          simp only [Bool.and_eq_true] at he
          obtain ⟨h1, h2⟩ := hcf f args' H0 v1 H1 hc
          have hl0 : H0.length = L.length := by rw [hL.h, pick_len]
          have hnone : ∀ i, H0.length ≤ i → (R.hand L H0).M i = none := fun i hi => by
            show handM R L i = none
            unfold handM
            rw [List.getElem?_eq_none (by omega)]
          have hargs : DenVs (R.hand L H0) w args' us := by
            rw [hL.vs]
            exact renVs_ok (hand_ren le hL) closed_true (fun x u _ h => hand_den le hL h) args us (fun _ _ => trivial) (ha2 hm)
          refine ⟨h1, (h2 (R.hand L H0) w us (hand_ok le ok hL) (fun gl l hg => hand_den le hL (g gl l hg)) rfl hnone hargs).mono ?_⟩
          rintro e' w' ⟨u, rfl, R0', x0, ok0, hH, hv, h0, hl⟩
          rw [List.length_map, List.length_drop] at hn ⊢
          exact ⟨u, rfl, post_hand le ok hL x0 ok0 hH hv h0 hl he.1 he.2 _ rfl hn hp⟩

theorem s_call (pre : Pre G R w e a Hm) {Γ : Ctx} {cf : CallF} (hcf : CallOK P G cf) {f : Nat} {xs : Array Operand} {ats : Array TypeId} {ys : List Opd} {v : V} {up : List (Nat × Blk)} {nw : List Blk} (hop : o.op = .call { callee := .value (.func f), args := xs, argTypes := ats }) (hx : okOpds G xs.toList ys = true)
    (h : callE Γ cf nid Hm f (vals e ys) = some (v, up, nw)) (hn : ∀ i, nid ≤ i → i < nid + nw.length → R.M i = none) (hp : Placed R.H up nid nw H') : OpOK P o a w (Post R w nid nw.length H' v) := by
  have hv := pre.opds hx
  obtain ⟨h1, h2⟩ := callE_ok a pre.ok pre.g pre.le hcf (RP.denVs_weak _ _ hv) (fun _ => hv) h hn hp
  refine .inr (.inr ⟨f, (xs.toList.map a.eval).toArray, w, ?_, h2⟩)
  have he : execOp a.eval o = callFunc f (#[] ++ xs.map a.eval ++ #[]) := by
    obtain ⟨dst, op, ty, pos, after, guard⟩ := o
    simp only at hop
    subst hop
    rfl
  rw [he]
  have : (#[] ++ xs.map a.eval ++ #[] : Array Value) = (xs.toList.map a.eval).toArray := by apply Array.ext'; simp
  rw [this]
  exact run_callFunc h1

theorem s_callv (pre : Pre G R w e a Hm) {Γ : Ctx} {cf : CallF} (hcf : CallOK P G cf) {f : Nat} {x : Operand} {y : Opd} {caps : List V} {xs : Array Operand} {ats : Array TypeId} {ys : List Opd} {v : V} {up : List (Nat × Blk)} {nw : List Blk} (hop : o.op = .call { callee := .value x, args := xs, argTypes := ats })
    (hx : okOpds G xs.toList ys = true) (hy : okOpd G x y = true) (hcaps : capsOf (y.val e) = some (f, caps)) (hbad : callvBad Γ (y.val e) f caps = false)
    (h : callE Γ cf nid Hm f (vals e ys ++ caps) = some (v, up, nw)) (hn : ∀ i, nid ≤ i → i < nid + nw.length → R.M i = none) (hp : Placed R.H up nid nw H') : OpOK P o a w (Post R w nid nw.length H' v) := by
  have hv := pre.opds hx
  have hf := pre.opd hy
  have app : ∀ {R : RP} {vs ws : List V} {us us' : List Value}, DenVs R w vs us → DenVs R w ws us' → DenVs R w (vs ++ ws) (us ++ us') := by
    intro R vs
    induction vs with
    | nil => intro ws us us' h1 h2; simp only [DenVs] at h1; subst h1; exact h2
    | cons v vs ih =>
      intro ws us us' h1 h2
      obtain ⟨u, us0, rfl, h3, h4⟩ := h1
      exact ⟨u, us0 ++ us', rfl, h3, ih h4 h2⟩
  have key : ∃ us', a.eval x = .func (.func f) #[] us'.toArray ∧ DenVs R.weak w caps us' ∧ (¬ (Nat.ble (Γ.mode f) 1 = true) → DenVs R w caps us') := by
    unfold capsOf at hcaps
    split at hcaps
    · rename_i f' caps' hval
      cases hcaps
      rw [hval] at hf
      obtain ⟨us', h1, h2⟩ := hf
      exact ⟨us', h1, RP.denVs_weak _ _ h2, fun _ => h2⟩
    · rename_i f' caps' hval
      cases hcaps
      rw [hval] at hf hbad
      obtain ⟨us', h1, h2⟩ := hf
      refine ⟨us', h1, (denVs_mapd caps' us').2 (DenDs.change _ _ _ _ (fun _ _ h => h) (fun _ _ h => ⟨h, fun h => h⟩) (fun _ _ h => h) (fun _ _ _ => rfl) (Nat.le_refl _) (fun _ h => h) (fun _ h => h.1) caps' us' h2), fun hm => ?_⟩
      cases caps' with
      | nil =>
        simp only [DenDs] at h2
        subst h2
        exact rfl
      | cons c cs =>
        exfalso
        simp only [callvBad, V.isD, mapd, List.isEmpty_cons, Bool.not_false, Bool.and_true, Bool.true_and, Bool.not_eq_false'] at hbad
        exact hm hbad
    · cases hcaps
  obtain ⟨us', k1, k2, k3⟩ := key
  obtain ⟨h1, h2⟩ := callE_ok a pre.ok pre.g pre.le hcf (app (RP.denVs_weak _ _ hv) k2) (fun hm => app hv (k3 hm)) h hn hp
  refine .inr (.inr ⟨f, (xs.toList.map a.eval ++ us').toArray, w, ?_, h2⟩)
  have he : (execOp a.eval o).run P w = (callFunc f (#[] ++ xs.map a.eval ++ us'.toArray)).run P w := by
    obtain ⟨dst, op, ty, pos, after, guard⟩ := o
    simp only at hop
    subst hop
    simp [execOp, resolve, k1, Deferred.ofValue, invoke]
  rw [he]
  have : (#[] ++ xs.map a.eval ++ us'.toArray : Array Value) = (xs.toList.map a.eval ++ us').toArray := by apply Array.ext'; simp
  rw [this]
  exact run_callFunc h1
end

end Go.Proofs.YtakebhleglnpjaaDoorE
