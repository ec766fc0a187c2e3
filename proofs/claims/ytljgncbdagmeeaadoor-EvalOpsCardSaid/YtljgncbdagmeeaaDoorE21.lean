/- Calls, joined. -/
import Derived.Test.YtljgncbdagmeeaaDoorE20
namespace Go.Proofs.YtljgncbdagmeeaaDoorE
open Go
set_option linter.unusedVariables false
set_option linter.unusedSimpArgs false

section
variable {P : Program} {G : Globs} {R : RP} {w : World} {e : Env} {a : Act} {Hm H' : Heap} {nid : Nat} {o : Oper}

theorem callE_ok (a : Act) (ok : R.OK w) (g : GOK G R w) (le : ∀ b blk, nth Hm b = some blk → blk ≠ .dead → nth R.H b = some blk) {Γ : Ctx} {cf : CallF} (hcf : CallOK P G cf) {f : Nat} {args : List V} {us : List Value} {v : V} {up : List (Nat × Blk)} {nw : List Blk}
    (ha : DenVs R.weak w args us) (ha2 : ¬ (Nat.ble (Γ.mode f) 1 = true) → DenVs R w args us) (h : callE Γ cf nid Hm f args = some (v, up, nw)) (hn : ∀ i, nid ≤ i → i < nid + nw.length → R.M i = none) (hp : Placed R.H up nid nw H') :
    callable P f = true ∧ Calls P f us.toArray w fun e w' => ∃ u, e = .returned u ∧ Post R w nid nw.length H' v u w' := by
  unfold callE at h
  split at h
  · cases hz : fzs Hm args with
    | none => rw [hz] at h; cases h
    | some l =>
      rw [hz] at h
      dsimp only at h
      cases hc : cf f (mapd l) [] with
      | none => rw [hc] at h; cases h
      | some r =>
        obtain ⟨v1, H1⟩ := r
        rw [hc] at h
        dsimp only at h
        cases hfr : fr H1 6 v1 with
        | none => rw [hfr] at h; cases h
        | some q =>
          obtain ⟨x, ks⟩ := q
          rw [hfr] at h
          dsimp only at h
          obtain ⟨h1, h2⟩ := hcf f (mapd l) [] v1 H1 hc
          refine ⟨h1, (h2 R.inner w us (inner_ok ok) (inner_gok g) rfl (fun _ _ => rfl) (inner_args (fzl_ok ok le 6 args l us hz ha))).mono ?_⟩
          rintro e' w' ⟨u, rfl, R0', x0, ok0, hH, hv, h0, hl⟩
          have hx : R.den w' x u := fr_data (a := a) ok x0 ok0 (x0.gok (inner_ok ok).b01 (inner_gok g)) hH hv hfr
          have fin : ∀ v', DenV R w' v' u → up = [] → nw = [] → Post R w nid nw.length H' v' u w' := by
            intro v' hv' hup hnw
            subst hup; subst hnw
            exact ⟨R, x0.outer, ok.outer x0, hp.same.symm, hv', fun i h _ => h⟩
          split at h
          · simp only [Option.some.injEq, Prod.mk.injEq] at h
            obtain ⟨rfl, hup, hnw⟩ := h
            obtain ⟨us', e1, e2⟩ := hx
            exact ⟨u, rfl, fin _ ⟨us', e1, (denVs_mapd _ us').2 e2⟩ hup.symm hnw.symm⟩
          · simp only [Option.some.injEq, Prod.mk.injEq] at h
            obtain ⟨rfl, hup, hnw⟩ := h
            exact ⟨u, rfl, fin _ hx hup.symm hnw.symm⟩
  · cases hz : fzs Hm args with
    | none => rw [hz] at h; cases h
    | some l =>
      rw [hz] at h
      dsimp only at h
      cases hc : cf f (mapd l) [] with
      | none => rw [hc] at h; cases h
      | some r =>
        obtain ⟨v1, H1⟩ := r
        rw [hc] at h
        dsimp only at h
        cases he : (escV v1 && escBs H1) with
        | false => rw [he] at h; cases h
        | true =>
          rw [he] at h
          simp only [cond_true, Option.some.injEq, Prod.mk.injEq] at h
          obtain ⟨rfl, rfl, rfl⟩ := h
          simp only [Bool.and_eq_true] at he
          obtain ⟨h1, h2⟩ := hcf f (mapd l) [] v1 H1 hc
          refine ⟨h1, (h2 R.inner w us (inner_ok ok) (inner_gok g) rfl (fun _ _ => rfl) (inner_args (fzl_ok ok le 6 args l us hz ha))).mono ?_⟩
          rintro e' w' ⟨u, rfl, R0', x0, ok0, hH, hv, h0, hl⟩
          rw [List.length_map] at hn ⊢
          exact ⟨u, rfl, post_news ok x0 ok0 hH hv h0 he.1 he.2 hn hp⟩
  · rename_i m hm0 hm1
    have hm : ¬ (Nat.ble (Γ.mode f) 1 = true) := by
      intro hb
      have := Nat.le_of_ble_eq_true hb
      rcases Nat.lt_or_ge (Γ.mode f) 1 with h | h
      · exact hm0 (by omega)
      · exact hm1 (by omega)
    cases hx : extract 0 args Hm with
    | none => rw [hx] at h; cases h
    | some q =>
      obtain ⟨L, args', H0⟩ := q
      rw [hx] at h
      dsimp only at h
      have hL := extract_spec hx
      cases hc : cf f args' H0 with
      | none => rw [hc] at h; cases h
      | some r =>
        obtain ⟨v1, H1⟩ := r
        rw [hc] at h
        dsimp only at h
        cases he : (nofnV v1 && nofnBs H1) with
        | false => rw [he] at h; cases h
        | true =>
          rw [he] at h
          simp only [cond_true, Option.some.injEq, Prod.mk.injEq] at h
          obtain ⟨rfl, rfl, rfl⟩ := h
          simp only [Bool.and_eq_true] at he
          obtain ⟨h1, h2⟩ := hcf f args' H0 v1 H1 hc
          have hl0 : H0.length = L.length := by rw [hL.h, pick_len]
          have hnone : ∀ i, H0.length ≤ i → (R.hand L H0).M i = none := fun i hi => by
            show handM R L i = none
            unfold handM
            rw [List.getElem?_eq_none (by omega)]
          have hargs : DenVs (R.hand L H0) w args' us := by
            rw [hL.vs]
            exact renVs_ok (hand_ren le hL) closed_true (fun x u _ h => hand_den le hL h) args us (fun _ _ => trivial) (ha2 hm)
          refine ⟨h1, (h2 (R.hand L H0) w us (hand_ok le ok hL) (fun gl l hg => hand_den le hL (g gl l hg)) rfl hnone hargs).mono ?_⟩
          rintro e' w' ⟨u, rfl, R0', x0, ok0, hH, hv, h0, hl⟩
          rw [List.length_map, List.length_drop] at hn ⊢
          exact ⟨u, rfl, post_hand le ok hL x0 ok0 hH hv h0 hl he.1 he.2 _ rfl hn hp⟩

theorem s_call (pre : Pre G R w e a Hm) {Γ : Ctx} {cf : CallF} (hcf : CallOK P G cf) {f : Nat} {xs : Array Operand} {ats : Array TypeId} {ys : List Opd} {v : V} {up : List (Nat × Blk)} {nw : List Blk} (hop : o.op = .call { callee := .value (.func f), args := xs, argTypes := ats }) (hx : okOpds G xs.toList ys = true)
    (h : callE Γ cf nid Hm f (vals e ys) = some (v, up, nw)) (hn : ∀ i, nid ≤ i → i < nid + nw.length → R.M i = none) (hp : Placed R.H up nid nw H') : OpOK P o a w (Post R w nid nw.length H' v) := by
  have hv := pre.opds hx
  obtain ⟨h1, h2⟩ := callE_ok a pre.ok pre.g pre.le hcf (RP.denVs_weak _ _ hv) (fun _ => hv) h hn hp
  refine .inr (.inr ⟨f, (xs.toList.map a.eval).toArray, w, ?_, h2⟩)
  have he : execOp a.eval o = callFunc f (#[] ++ xs.map a.eval ++ #[]) := by
    obtain ⟨dst, op, ty, pos, after, guard⟩ := o
    simp only at hop
    subst hop
    rfl
  rw [he]
  have : (#[] ++ xs.map a.eval ++ #[] : Array Value) = (xs.toList.map a.eval).toArray := by apply Array.ext'; simp
  rw [this]
  exact run_callFunc h1

/-- the method of a type by that name: a function, by value -/
def methOK (P : Program) (name : String) (t f : Nat) : Bool :=
  match P.info? t with
  | some ti => (match ti.methods.find? (·.name == name) with
    | some m => m.path.toList.isEmpty && ((match m.func with | some (g, b) => Nat.beq g f && !b | none => false) && (match P.underlying t with | some (.pointer _) => false | some _ => true | none => false))
    | none => false)
  | none => false
def tabOK (P : Program) (name : String) : List (Nat × Nat) → Bool
  | [] => true
  | (t, f) :: r => methOK P name t f && tabOK P name r
theorem tab_look {name : String} {t f : Nat} : ∀ {tab : List (Nat × Nat)}, tabOK P name tab = true → lookT tab t = some f → methOK P name t f = true
  | [], _, h => by cases h
  | (t', f') :: r, ht, h => by
    unfold tabOK at ht
    rw [Bool.and_eq_true] at ht
    unfold lookT at h
    cases hb : Nat.beq t' t with
    | true =>
      rw [hb] at h
      obtain rfl := Nat.eq_of_beq_eq_true hb
      cases h
      exact ht.1
    | false =>
      rw [hb] at h
      exact tab_look ht.2 h
theorem run_method {name : String} {t f n : Nat} {v : Value} (h : methOK P name t f = true) : (method (n + 1) t v name).run P w = .ok (f, v) w := by
  unfold methOK at h
  cases hi : P.info? t with
  | none => rw [hi] at h; cases h
  | some ti =>
    rw [hi] at h
    dsimp only at h
    cases hm : ti.methods.find? (·.name == name) with
    | none => rw [hm] at h; cases h
    | some m =>
      rw [hm] at h
      simp only [Bool.and_eq_true] at h
      obtain ⟨h1, h2, h3⟩ := h
      have hp : m.path.toList = [] := by simpa using h1
      cases hf : m.func with
      | none => rw [hf] at h2; cases h2
      | some q =>
        obtain ⟨g, b⟩ := q
        rw [hf] at h2
        simp only [Bool.and_eq_true, Bool.not_eq_true'] at h2
        obtain ⟨h4, rfl⟩ := h2
        obtain rfl := Nat.eq_of_beq_eq_true h4
        cases hu : P.underlying t with
        | none => rw [hu] at h3; cases h3
        | some d =>
          rw [hu] at h3
          have hr : (receiverAt t (.val v) false (if m.path.isEmpty then some ((name.splitOn ".").getLastD name) else none)).run P w = .ok v w := by
            unfold receiverAt
            simp only [Sem.run_bind, run_underlying hu, Result.andThen_ok]
            cases d <;> first | rfl | cases h3
          unfold method
          simp only [Sem.run_bind, typeInfo, run_program, hi, Result.andThen_ok, hm, hp, follow, hf, Sem.run_pure, hr]
theorem s_invoke (pre : Pre G R w e a Hm) {Γ : Ctx} {cf : CallF} (hcf : CallOK P G cf) {f t : Nat} {z : D} {tab : List (Nat × Nat)} {name : String} {x : Operand} {y : Opd} {xs : Array Operand} {ats : Array TypeId} {ys : List Opd} {v : V} {up : List (Nat × Blk)} {nw : List Blk} (hop : o.op = .call { callee := .invoke x name, args := xs, argTypes := ats })
    (hy : okOpd G x y = true) (hx : okOpds G xs.toList ys = true) (ht : tabOK P name tab = true) (hval : y.val e = .d (.iface t z)) (hl : lookT tab t = some f)
    (h : callE Γ cf nid Hm f (.d z :: vals e ys) = some (v, up, nw)) (hn : ∀ i, nid ≤ i → i < nid + nw.length → R.M i = none) (hp : Placed R.H up nid nw H') : OpOK P o a w (Post R w nid nw.length H' v) := by
  have hv := pre.opds hx
  have hf := pre.opd hy
  rw [hval] at hf
  obtain ⟨u', e1, hz⟩ := hf
  have full : DenVs R w (.d z :: vals e ys) (u' :: xs.toList.map a.eval) := ⟨u', _, rfl, hz, hv⟩
  obtain ⟨h1, h2⟩ := callE_ok a pre.ok pre.g pre.le hcf (RP.denVs_weak _ _ full) (fun _ => full) h hn hp
  refine .inr (.inr ⟨f, (u' :: xs.toList.map a.eval).toArray, w, ?_, h2⟩)
  have hm := run_method (w := w) (n := P.types.size + (Made.depth - 1)) (v := u') (tab_look ht hl)
  have hd : P.types.size + (Made.depth - 1) + 1 = P.types.size + Made.depth := by
    have : 0 < Made.depth := by decide
    omega
  rw [hd] at hm
  have harr : (#[a.eval x] ++ xs.map a.eval : Array Value)[0]? = some (.iface t u') := by rw [e1, Array.getElem?_append_left (by simp)]; rfl
  have hext : (#[a.eval x] ++ xs.map a.eval : Array Value).extract 1 (#[a.eval x] ++ xs.map a.eval : Array Value).size = xs.map a.eval := by
    apply Array.ext'
    simp [List.take_of_length_le]
  have he : (execOp a.eval o).run P w = (callFunc f (#[u'] ++ xs.map a.eval)).run P w := by
    obtain ⟨dst, op, ty, pos, after, guard⟩ := o
    simp only at hop
    subst hop
    have i1 : (execOp a.eval { dst := dst, op := .call { callee := .invoke x name, args := xs, argTypes := ats }, type := ty, pos := pos, after := after, guard := guard }) = (invoke (.fn (.method name) #[]) (#[a.eval x] ++ xs.map a.eval)) := rfl
    rw [i1]
    unfold invoke
    simp only [harr, hext]
    show (callMethod (.iface t u') name (xs.map a.eval)).run P w = _
    unfold callMethod
    simp only [Sem.run_bind, run_program, Result.andThen_ok, hm]
  rw [he]
  have : (#[u'] ++ xs.map a.eval : Array Value) = (u' :: xs.toList.map a.eval).toArray := by apply Array.ext'; simp
  rw [this]
  exact run_callFunc h1

theorem s_callv (pre : Pre G R w e a Hm) {Γ : Ctx} {cf : CallF} (hcf : CallOK P G cf) {f : Nat} {x : Operand} {y : Opd} {caps : List V} {xs : Array Operand} {ats : Array TypeId} {ys : List Opd} {v : V} {up : List (Nat × Blk)} {nw : List Blk} (hop : o.op = .call { callee := .value x, args := xs, argTypes := ats })
    (hx : okOpds G xs.toList ys = true) (hy : okOpd G x y = true) (hcaps : capsOf (y.val e) = some (f, caps)) (hbad : callvBad Γ (y.val e) f caps = false)
    (h : callE Γ cf nid Hm f (vals e ys ++ caps) = some (v, up, nw)) (hn : ∀ i, nid ≤ i → i < nid + nw.length → R.M i = none) (hp : Placed R.H up nid nw H') : OpOK P o a w (Post R w nid nw.length H' v) := by
  have hv := pre.opds hx
  have hf := pre.opd hy
  have app : ∀ {R : RP} {vs ws : List V} {us us' : List Value}, DenVs R w vs us → DenVs R w ws us' → DenVs R w (vs ++ ws) (us ++ us') := by
    intro R vs
    induction vs with
    | nil => intro ws us us' h1 h2; simp only [DenVs] at h1; subst h1; exact h2
    | cons v vs ih =>
      intro ws us us' h1 h2
      obtain ⟨u, us0, rfl, h3, h4⟩ := h1
      exact ⟨u, us0 ++ us', rfl, h3, ih h4 h2⟩
  have key : ∃ us', a.eval x = .func (.func f) #[] us'.toArray ∧ DenVs R.weak w caps us' ∧ (¬ (Nat.ble (Γ.mode f) 1 = true) → DenVs R w caps us') := by
    unfold capsOf at hcaps
    split at hcaps
    · rename_i f' caps' hval
      cases hcaps
      rw [hval] at hf
      obtain ⟨us', h1, h2⟩ := hf
      exact ⟨us', h1, RP.denVs_weak _ _ h2, fun _ => h2⟩
    · rename_i f' caps' hval
      cases hcaps
      rw [hval] at hf hbad
      obtain ⟨us', h1, h2⟩ := hf
      refine ⟨us', h1, (denVs_mapd caps' us').2 (DenDs.change _ _ _ _ (fun _ _ h => h) (fun _ _ h => ⟨h, fun h => h⟩) (fun _ _ h => h) (fun _ _ _ => rfl) (Nat.le_refl _) (fun _ h => h) (fun _ h => h.1) caps' us' h2), fun hm => ?_⟩
      cases caps' with
      | nil =>
        simp only [DenDs] at h2
        subst h2
        exact rfl
      | cons c cs =>
        exfalso
        simp only [callvBad, V.isD, mapd, List.isEmpty_cons, Bool.not_false, Bool.and_true, Bool.true_and, Bool.not_eq_false'] at hbad
        exact hm hbad
    · cases hcaps
  obtain ⟨us', k1, k2, k3⟩ := key
  obtain ⟨h1, h2⟩ := callE_ok a pre.ok pre.g pre.le hcf (app (RP.denVs_weak _ _ hv) k2) (fun hm => app hv (k3 hm)) h hn hp
  refine .inr (.inr ⟨f, (xs.toList.map a.eval ++ us').toArray, w, ?_, h2⟩)
  have he : (execOp a.eval o).run P w = (callFunc f (#[] ++ xs.map a.eval ++ us'.toArray)).run P w := by
    obtain ⟨dst, op, ty, pos, after, guard⟩ := o
    simp only at hop
    subst hop
    simp [execOp, resolve, k1, Deferred.ofValue, invoke]
  rw [he]
  have : (#[] ++ xs.map a.eval ++ us'.toArray : Array Value) = (xs.toList.map a.eval ++ us').toArray := by apply Array.ext'; simp
  rw [this]
  exact run_callFunc h1
end

end Go.Proofs.YtljgncbdagmeeaaDoorE
