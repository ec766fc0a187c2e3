/- Functions: what the evaluator says of a call is what the program does. -/
import Derived.Test.YtljgncbdagmeeaaDoorE24
namespace Go.Proofs.YtljgncbdagmeeaaDoorE
open Go
set_option linter.unusedVariables false
set_option linter.unusedSimpArgs false

def resOK (P : Program) : List ResultVar → List (Nat × Option (Nat × Bool)) → Bool
  | [], [] => true
  | .tmp t :: rs, (i, none) :: qs => Nat.beq t i && resOK P rs qs
  | .cell a t :: rs, (i, some (n, ag)) :: qs => Nat.beq a i && (optB (aggOf P t) (fun b => b == ag) && (optB (szOf P t) (fun m => Nat.beq m n) && resOK P rs qs))
  | _, _ => false

/-- Is the small function the program's? -/
def okFn (P : Program) (G : Globs) (okD : Nat → Array Oper → List Op1 → Bool) (f : Nat) (fn : FnI) : Bool :=
  match P.funcs[f]? with
  | some F => callable P f && (match F.body with | some c => okC P G F.ntmps (okD F.ntmps) fn.body c && resOK P F.results.toList fn.res | none => false)
  | none => false

section
variable {P : Program} {G : Globs} {R : RP} {w : World} {e : Env} {a : Act} {H1 : Heap}

theorem argEnv_get : ∀ (vs : List V) (i t : Nat), argEnv i vs t = if i ≤ t then (vs[t - i]?).getD .bad else .bad
  | [], i, t => by simp [argEnv, env0]
  | v :: vs, i, t => by
    simp only [argEnv, Env.set]
    cases hb : Nat.beq i t with
    | true =>
      obtain rfl := Nat.eq_of_beq_eq_true hb
      simp
    | false =>
      have hne : i ≠ t := fun h => by subst h; rw [Nat.beq_refl] at hb; cases hb
      simp only [cond_false]
      rw [argEnv_get vs (i + 1) t]
      by_cases h : i ≤ t
      · rw [if_pos (by omega), if_pos h]
        have : t - i = (t - (i + 1)) + 1 := by omega
        rw [this, List.getElem?_cons_succ]
      · rw [if_neg (by omega), if_neg h]

theorem args_ok {args : List V} {us : List Value} {n : Nat} (h : DenVs R w args us) : EnvOK R w (argEnv 0 args) { tmps := us.toArray ++ Array.replicate n undef, defers := [] } := by
  intro t
  rw [argEnv_get, if_pos (Nat.zero_le _), Nat.sub_zero]
  cases hv : args[t]? with
  | none => exact trivial
  | some v =>
    obtain ⟨u, h1, h2⟩ := denVs_at args us t v h hv
    have hlt := (List.getElem?_eq_some_iff.1 h1).1
    have : (us.toArray ++ Array.replicate n undef).getD t undef = u := by
      rw [Array.getD_eq_getD_getElem?, Array.getElem?_append_left (by simpa using hlt)]
      simp [h1]
    show DenV R w ((some v).getD .bad) _
    rw [this]; exact h2

def resRun (tmps : Array Value) : ResultVar → Sem Value
  | .tmp t => pure (tmps.getD t undef)
  | .cell a t => do loadVar t (← asAddr (tmps.getD a undef))

theorem run_asAddr {t : TypeId} {u0 u : Value} (h : (Instr.loadAt t u0).run P w = .ok u w) : (do loadVar t (← asAddr u0) : Sem Value).run P w = .ok u w := by
  cases u0 <;> try (simp [Instr.loadAt, Instr.sureAddr] at h; done)
  rename_i ad
  cases ad with
  | none => simp [Instr.loadAt, Instr.sureAddr] at h
  | some ad => simpa [Instr.loadAt, Instr.sureAddr, asAddr] using h

theorem res_run (pre : Pre G R w e a H1) : ∀ (rs : List ResultVar) (qs : List (Nat × Option (Nat × Bool))) (l : List V), resOK P rs qs = true → resV e H1 qs = some l → ∃ us, (rs.mapM (resRun a.tmps)).run P w = .ok us w ∧ DenVs R w l us
  | [], [], l, _, h => by
    simp only [resV, Option.some.injEq] at h
    subst h
    exact ⟨[], rfl, rfl⟩
  | [], _ :: _, l, hk, _ => by cases hk
  | .tmp t :: rs, [], l, hk, _ => by cases hk
  | .cell b t :: rs, [], l, hk, _ => by cases hk
  | .tmp t :: rs, (i, some q) :: qs, l, hk, _ => by cases hk
  | .cell b t :: rs, (i, none) :: qs, l, hk, _ => by cases hk
  | .tmp t :: rs, (i, none) :: qs, l, hk, h => by
    simp only [resOK, Bool.and_eq_true] at hk
    obtain rfl := Nat.eq_of_beq_eq_true hk.1
    simp only [resV] at h
    cases hr : resV e H1 qs with
    | none => rw [hr] at h; cases h
    | some l' =>
      rw [hr] at h
      simp only [Option.some.injEq] at h
      subst h
      obtain ⟨us, h1, h2⟩ := res_run pre rs qs l' hk.2 hr
      refine ⟨a.tmps.getD t undef :: us, ?_, _, us, rfl, pre.env t, h2⟩
      rw [List.mapM_cons]
      simp [resRun, h1]
  | .cell b t :: rs, (i, some (n, ag)) :: qs, l, hk, h => by
    simp only [resOK, Bool.and_eq_true] at hk
    obtain ⟨k1, k2, k3, k4⟩ := hk
    obtain rfl := Nat.eq_of_beq_eq_true k1
    obtain ⟨b', h1, h2⟩ := optB_some k2
    obtain ⟨m, h3, h4⟩ := optB_some k3
    obtain rfl := Nat.eq_of_beq_eq_true h4
    obtain rfl : b' = ag := by simpa using h2
    simp only [resV] at h
    cases hl : loadE H1 m b' (e b) with
    | none => rw [hl] at h; cases h
    | some v =>
      cases hr : resV e H1 qs with
      | none => rw [hl, hr] at h; cases h
      | some l' =>
        rw [hl, hr] at h
        simp only [Option.some.injEq] at h
        subst h
        obtain ⟨u, f1, f2⟩ := load_ok pre h1 h3 (pre.env b) hl
        obtain ⟨us, g1, g2⟩ := res_run pre rs qs l' k4 hr
        refine ⟨u :: us, ?_, u, us, rfl, f2, g2⟩
        have := run_asAddr f1
        rw [List.mapM_cons]
        simp only [resRun, Sem.run_bind, g1]
        simp only [Sem.run_bind] at this
        rw [this]
        simp [g1]

theorem run_results {F : Func} {us : List Value} (h : (F.results.toList.mapM (resRun a.tmps)).run P w = .ok us w) : (results F a.tmps).run P w = .ok (if h : us.toArray.size = 1 then us.toArray[0] else .tuple us.toArray) w := by
  have hE : results F a.tmps = (F.results.mapM (resRun a.tmps) >>= fun vs => pure (if h : vs.size = 1 then vs[0] else .tuple vs)) := by
    unfold results
    congr 2
  have hm : (F.results.mapM (resRun a.tmps)).run P w = .ok us.toArray w := by
    rw [Array.mapM_eq_mapM_toList]
    simp [h]
  rw [hE, Sem.run_bind, hm]
  rfl

theorem oneRes_ok {l : List V} {us : List Value} (h : DenVs R w l us) : DenV R w (oneRes l) (if h : us.toArray.size = 1 then us.toArray[0] else .tuple us.toArray) := by
  have hl := denVs_len _ _ h
  by_cases h1 : us.length = 1
  · obtain ⟨u, rfl⟩ := List.length_eq_one_iff.1 h1
    obtain ⟨v, rfl⟩ := List.length_eq_one_iff.1 (hl ▸ h1 : l.length = 1)
    obtain ⟨u', us', e1, e2, e3⟩ := h
    cases e1
    simpa [oneRes] using e2
  · rw [dif_neg (by simpa using h1)]
    have : oneRes l = mkTup l := by
      match l, hl with
      | [], _ => rfl
      | [v], hl => simp at hl; omega
      | _ :: _ :: _, _ => rfl
    rw [this]
    exact mkTup_ok h
end

/-- a function that is known by what it comes to alone -/
def specFn (id : Nat) : FnI := ⟨2, .ops [⟨some 2, .spec id [.t 0, .t 1], none, [], 0⟩], [(2, none)]⟩
def SpecOK (P : Program) (f : Nat) (fn : FnI) : Prop :=
  callable P f = true ∧ ∃ id, fn = specFn id ∧ ∀ (l : List D) (r : D) (R : RP) (w : World) (us : List Value), specE id l = some r → R.OK w → R.H = [] → DenVs R w (mapd l) us →
    Calls P f us.toArray w fun e w' => ∃ u, e = .returned u ∧ R.den w' r u ∧ Ext R w R w'
theorem spec_run {Γ : Ctx} {cf : CallF} {It : (List V → Heap → Option Lp) → List V → Heap → Option (Ex × List V × Heap)} {f id : Nat} {args : List V} {H : Heap} {q : V × Heap} (hc : Γ.code f = some (specFn id)) (h : funE Γ cf It f args H = some q) :
    ∃ l r, args = mapd l ∧ H = [] ∧ specE id l = some r ∧ q = (.d r, []) := by
  unfold funE at h
  rw [hc] at h
  dsimp only [specFn] at h
  match args, h with
  | [], h => cases h
  | [x], h => cases h
  | _ :: _ :: _ :: _, h => cases h
  | [x, y], h =>
    cases H with
    | cons b H => cases h
    | nil =>
      have e : opsE Γ cf [⟨some 2, .spec id [.t 0, .t 1], none, [], 0⟩] (argEnv 0 [x, y]) [] = (match allD [x, y] with | some l => (match specE id l with | some r => some ((argEnv 0 [x, y]).set 2 (.d r), []) | none => none) | none => none) := by
        have hv : vals (argEnv 0 [x, y]) [.t 0, .t 1] = [x, y] := rfl
        unfold opsE
        simp only [wants, opE, hv]
        cases allD [x, y] with
        | none => rfl
        | some l =>
          dsimp only
          cases specE id l <;> rfl
      rw [show codeE Γ cf It (List.length ([] : Heap)) (.ops [⟨some 2, .spec id [.t 0, .t 1], none, [], 0⟩]) (argEnv 0 [x, y]) [] = (match opsE Γ cf [⟨some 2, .spec id [.t 0, .t 1], none, [], 0⟩] (argEnv 0 [x, y]) [] with | some (e, H) => some (.normal, e, H) | none => none) from rfl, e] at h
      cases hl : allD [x, y] with
      | none => rw [hl] at h; cases h
      | some l =>
        rw [hl] at h
        dsimp only at h
        cases hr : specE id l with
        | none => rw [hr] at h; cases h
        | some r => rw [hr] at h; exact ⟨l, r, allD_some hl, rfl, hr, (Option.some.inj h).symm⟩

theorem fun_ok {P : Program} {G : Globs} {Γ : Ctx} {cf : CallF} {okD : Nat → Array Oper → List Op1 → Bool} (hcf : CallOK P G cf) (hD : ∀ N, DrawOK P G N Γ cf (okD N)) (hall : ∀ f fn, Γ.code f = some fn → okFn P G okD f fn = true ∨ SpecOK P f fn) (m : Nat) :
    CallOK P G (funE Γ cf fun F => iterN F m) := by
  intro f args H v H' h
  unfold funE at h
  cases hc : Γ.code f with
  | none => rw [hc] at h; cases h
  | some fn =>
    rw [hc] at h
    dsimp only at h
    cases hn : Nat.beq args.length fn.nargs with
    | false => rw [hn] at h; cases h
    | true =>
      rw [hn] at h
      simp only [cond_true] at h
      rcases hall f fn hc with hok | ⟨k1, id, rfl, hs⟩
      case inr =>
        have hq : funE Γ cf (fun F => iterN F m) f args H = some (v, H') := by
          unfold funE
          rw [hc]
          dsimp only
          rw [hn]
          simp only [cond_true]
          exact h
        obtain ⟨l, r, rfl, rfl, hr, hv⟩ := spec_run hc hq
        cases hv
        refine ⟨k1, fun R w us ok g hH hM ha => (hs l r R w us hr ok hH ha).mono ?_⟩
        rintro e w' ⟨u, he, hd, hx⟩
        refine ⟨u, he, R, hx, ⟨ok.b01, ?_, ?_, ?_, ?_, ?_, fun c hb => Nat.lt_of_lt_of_le (ok.bl c hb) hx.grow⟩, hH, hd, hM, by rw [hH]; exact Nat.le_refl _⟩
        · intro i blk hb; rw [hH] at hb; simp at hb
        · intro i j c hi; rw [hH] at hi; simp [isLive, nth] at hi
        · intro i c hm; rw [hM i (Nat.zero_le _)] at hm; cases hm
        · intro i m blk hb; rw [hH] at hb; simp at hb
        · intro i c hi; rw [hH] at hi; simp [isLive, nth] at hi
      unfold okFn at hok
      cases hF : P.funcs[f]? with
      | none => rw [hF] at hok; cases hok
      | some F =>
        rw [hF] at hok
        simp only [Bool.and_eq_true] at hok
        obtain ⟨k1, k2⟩ := hok
        refine ⟨k1, fun R w us ok g hH hM ha => ?_⟩
        cases hb : F.body with
        | none => rw [hb] at k2; cases k2
        | some c =>
          rw [hb] at k2
          simp only [Bool.and_eq_true] at k2
          cases hx : codeE Γ cf (fun F => iterN F m) H.length fn.body (argEnv 0 args) H with
          | none => rw [hx] at h; cases h
          | some q =>
            obtain ⟨r, e1, H1⟩ := q
            rw [hx] at h
            subst hH
            have fc : FnCtx P G cf R w := ⟨hcf, ok, g, hM⟩
            have s : Sim F.ntmps R w (argEnv 0 args) R.H { tmps := us.toArray ++ Array.replicate (F.ntmps - us.toArray.size) undef, defers := [] } w :=
              ⟨⟨R, Ext.refl R w, ok, rfl, hM, args_ok ha⟩, by simp; omega, rfl, Nat.le_refl _⟩
            refine calls_of_wp hF hb (wp_mono (code_ok fc (hD F.ntmps) m c fn.body _ _ r e1 H1 _ w k2.1 hx s) fun ex a' w' hq => ?_)
            obtain ⟨h1, h2⟩ := hq
            have fin : (match resV e1 H1 fn.res with | some l => (match extract R.H.length [oneRes l] H1 with | some (_, [v], H2) => some (v, H2) | _ => none) | none => none) = some (v, H') → a'.defers = [] ∧ ∃ u, (results F a'.tmps).run P w' = .ok u w' ∧ ∃ u', Ending.returned u = .returned u' ∧ Ret R w v H' u' w' := by
              intro h
              cases hr : resV e1 H1 fn.res with
              | none => rw [hr] at h; cases h
              | some l =>
                rw [hr] at h
                dsimp only at h
                obtain ⟨R1, x1, ok1, hH1, hM1, hE1⟩ := h2.ex
                have pre : Pre G R1 w' e1 a' H1 := ⟨ok1, x1.gok ok.b01 g, hE1, fun b blk hb' _ => by rw [hH1]; exact hb'⟩
                obtain ⟨us', f1, f2⟩ := res_run pre F.results.toList fn.res l k2.2 hr
                split at h
                · rename_i L v2 H2 hex
                  cases h
                  obtain ⟨R2, x2, ok2, hH2, hM2, hv2, hl2⟩ := sim_least fc x1 ok1 hH1 hM1 h2.hl hex
                  obtain ⟨u2, us2, e2, e3, _⟩ := hv2 _ ⟨_, [], rfl, oneRes_ok f2, rfl⟩
                  cases e2
                  exact ⟨h2.df, _, run_results f1, _, rfl, R2, x2, ok2, hH2, e3, hM2, hl2⟩
                · cases h
            cases r with
            | normal => cases h1; exact fin h
            | ret => cases h1; exact fin h
            | exit i => cases h

/-- Whatever the evaluator says. -/
theorem evN_ok {P : Program} {G : Globs} {Γ : Ctx} {okD : Nat → Array Oper → List Op1 → Bool} (hD : ∀ cf N, CallOK P G cf → DrawOK P G N Γ cf (okD N)) (hall : ∀ f fn, Γ.code f = some fn → okFn P G okD f fn = true ∨ SpecOK P f fn) : ∀ n, CallOK P G (evN Γ n)
  | 0 => fun f args H v H' h => by cases h
  | n + 1 => fun_ok (evN_ok hD hall n) (fun N => hD _ N (evN_ok hD hall n)) hall n

theorem evW_ok {P : Program} {G : Globs} {Γ : Ctx} {okD : Nat → Array Oper → List Op1 → Bool} (hD : ∀ cf N, CallOK P G cf → DrawOK P G N Γ cf (okD N)) (hall : ∀ f fn, Γ.code f = some fn → okFn P G okD f fn = true ∨ SpecOK P f fn) : CallOK P G (evW Γ) := by
  intro f args H v H' h
  obtain ⟨n, hn⟩ := (evW_iff Γ f args H (v, H')).1 h
  exact evN_ok hD hall n f args H v H' hn

end Go.Proofs.YtljgncbdagmeeaaDoorE
