/- Code: what the evaluator says of it is what the program does. -/
import Derived.Test.YtljgncbdagmeeaaDoorE22
import Derived.LoopN
import Derived.Scope
namespace Go.Proofs.YtljgncbdagmeeaaDoorE
open Go
set_option linter.unusedVariables false
set_option linter.unusedSimpArgs false

/-- a state of a function that was entered at Rf, wf -/
structure Sim (N : Nat) (Rf : RP) (wf : World) (e : Env) (H : Heap) (a : Act) (w : World) : Prop where
  ex : ∃ R, Ext Rf wf R w ∧ R.OK w ∧ R.H = H ∧ (∀ i, H.length ≤ i → R.M i = none) ∧ EnvOK R w e a
  tm : N ≤ a.tmps.size
  df : a.defers = []
  hl : Rf.H.length ≤ H.length

structure FnCtx (P : Program) (G : Globs) (cf : CallF) (Rf : RP) (wf : World) : Prop where
  cf : CallOK P G cf
  ok : Rf.OK wf
  g : GOK G Rf wf
  m : ∀ i, Rf.H.length ≤ i → Rf.M i = none

section
variable {P : Program} {G : Globs} {N : Nat} {Rf : RP} {wf : World} {e e' : Env} {H H' : Heap} {a : Act} {w : World} {Γ : Ctx} {cf : CallF}

theorem EnvOK.put {R : RP} (h : EnvOK R w e a) {d : Nat} (hd : d < a.tmps.size) {v : V} {u : Value} (hv : DenV R w v u) : EnvOK R w (e.set d v) (a.put (some d) u) := by
  intro t
  unfold Env.set
  cases hb : Nat.beq d t with
  | true =>
    obtain rfl := Nat.eq_of_beq_eq_true hb
    simp only [cond_true]
    have : (a.put (some d) u).tmps.getD d undef = u := by simp [Act.put, Array.getD_eq_getD_getElem?, hd]
    rw [this]; exact hv
  | false =>
    simp only [cond_false]
    have hne : d ≠ t := fun h => by subst h; rw [Nat.beq_refl] at hb; cases hb
    have : (a.put (some d) u).tmps.getD t undef = a.tmps.getD t undef := by simp [Act.put, Array.getD_eq_getD_getElem?, Array.getElem?_setIfInBounds_ne hne]
    rw [this]; exact h t

/-! lists of operations -/
def dstOK (N : Nat) : Option Tmp → Option Nat → Bool
  | none, none => true
  | some i, some j => Nat.beq i j && Nat.blt i N
  | _, _ => false
def guardOK (ops : Array Oper) : Option (Nat × Bool) → Option (Nat × Bool) → Bool
  | none, none => true
  | some (j, b), some (s, b') => b == b' && (match (ops[j]?).bind (·.dst) with | some d => Nat.beq d s | none => false)
  | _, _ => false
def okOper (P : Program) (G : Globs) (N : Nat) (ops : Array Oper) (o : Oper) (p : Op1) : Bool := dstOK N o.dst p.dst && (guardOK ops o.guard p.guard && okOp P G o p.op)
def okOps (P : Program) (G : Globs) (N : Nat) (ops : Array Oper) : List Oper → List Op1 → Bool
  | [], [] => true
  | o :: os, p :: ps => okOper P G N ops o p && okOps P G N ops os ps
  | _, _ => false

theorem wants_ok {R : RP} (h : EnvOK R w e a) {ops : Array Oper} {o : Oper} {g : Option (Nat × Bool)} (hg : guardOK ops o.guard g = true) {b : Bool} (hw : wants e g = some b) : Region.wanted o (yielded ops a.tmps) = b := by
  unfold wants at hw
  unfold Region.wanted
  cases ho : o.guard with
  | none =>
    rw [ho] at hg
    cases g with
    | some q => cases hg
    | none => simp at hw; rw [← hw]
  | some q =>
    obtain ⟨j, bj⟩ := q
    rw [ho] at hg
    cases g with
    | none => cases hg
    | some q =>
      obtain ⟨s, b'⟩ := q
      simp only [guardOK, Bool.and_eq_true] at hg
      obtain ⟨h1, h2⟩ := hg
      obtain rfl : bj = b' := by simpa using h1
      split at h2
      · rename_i d hd
        obtain rfl := Nat.eq_of_beq_eq_true h2
        have hen := h d
        dsimp only at hw ⊢
        unfold yielded
        rw [hd]
        simp only [Option.bind_some]
        split at hw
        · rename_i t ht
          rw [ht] at hen
          have hen' := denB hen
          rw [Array.getD_eq_getD_getElem?] at hen'
          cases hv : a.tmps[d]? with
          | none => rw [hv] at hen'; cases hen'
          | some u =>
            rw [hv] at hen'
            simp only [Option.getD_some] at hen'
            subst hen'
            simp only [Option.some.injEq] at hw
            rw [← hw]
            cases t <;> cases bj <;> rfl
        · rename_i ht
          rw [ht] at hen
          obtain ⟨us, h3, h4⟩ := hen
          simp only [DenDs] at h4
          subst h4
          rw [Array.getD_eq_getD_getElem?] at h3
          simp only [Option.some.injEq] at hw
          subst hw
          cases hv : a.tmps[d]? with
          | none => rfl
          | some u =>
            rw [hv] at h3
            simp only [Option.getD_some] at h3
            subst h3
            rfl
        · cases hw
      · cases h2

theorem updH_len : ∀ (up : List (Nat × Blk)) (H : Heap), (updH H up).length = H.length
  | [], H => rfl
  | (b, blk) :: r, H => by rw [updH, updH_len r, setAt_eq, List.length_set]

theorem placed_app (H : Heap) (up : List (Nat × Blk)) (nw : List Blk) : Placed H up H.length nw (updH H up ++ nw) := by
  intro i
  have hl := updH_len up H
  by_cases h1 : i < H.length
  · rw [if_neg (by omega), List.getElem?_append_left (by omega)]
  · rw [List.getElem?_append_right (by omega), hl]
    by_cases h2 : i < H.length + nw.length
    · rw [if_pos (by omega)]
    · rw [if_neg (by omega), List.getElem?_eq_none (by omega), List.getElem?_eq_none (by omega)]

theorem undef_ok {R : RP} : DenV R w (.d (.tup [])) undef := ⟨[], rfl, rfl⟩

theorem put_tm {d : Option Tmp} {u : Value} : (a.put d u).tmps.size = a.tmps.size := by cases d <;> simp [Act.put]
theorem put_df {d : Option Tmp} {u : Value} : (a.put d u).defers = a.defers := by cases d <;> rfl

theorem env_dst {R : RP} (h : EnvOK R w e a) {d : Option Tmp} {d' : Option Nat} (hd : dstOK N d d' = true) (hN : N ≤ a.tmps.size) {v : V} {u : Value} (hv : DenV R w v u) : EnvOK R w (setO e d' v) (a.put d u) := by
  cases d with
  | none =>
    cases d' with
    | none => exact h
    | some j => cases hd
  | some i =>
    cases d' with
    | none => cases hd
    | some j =>
      simp only [dstOK, Bool.and_eq_true] at hd
      obtain rfl := Nat.eq_of_beq_eq_true hd.1
      refine h.put ?_ hv
      have := hd.2; simp [Nat.blt] at this; omega

theorem ops_ok (c : FnCtx P G cf Rf wf) {ops : Array Oper} {Q : Exit → Act → World → Prop} : ∀ (os : List Oper) (ps : List Op1) (e : Env) (H : Heap) (a : Act) (w : World), okOps P G N ops os ps = true → opsE Γ cf ps e H = some (e', H') → Sim N Rf wf e H a w →
    (∀ a w, Sim N Rf wf e' H' a w → Q .normal a w) → wpList P ops Q os a w
  | [], [], e, H, a, w, _, h, s, hQ => by
    simp only [opsE, Option.some.injEq, Prod.mk.injEq] at h
    obtain ⟨rfl, rfl⟩ := h
    exact hQ a w s
  | [], _ :: _, e, H, a, w, hk, _, _, _ => by cases hk
  | _ :: _, [], e, H, a, w, hk, _, _, _ => by cases hk
  | o :: os, p :: ps, e, H, a, w, hk, h, s, hQ => by
    simp only [okOps, okOper, Bool.and_eq_true] at hk
    obtain ⟨⟨k1, k2, k3⟩, k4⟩ := hk
    obtain ⟨R, x, ok, hH, hM, hE⟩ := s.ex
    simp only [opsE] at h
    cases hw : wants e p.guard with
    | none => rw [hw] at h; cases h
    | some b =>
      have hwant := wants_ok (a := a) hE k2 hw
      rw [hw] at h
      cases b with
      | false =>
        dsimp only at h
        unfold wpList
        rw [hwant]
        simp only [Bool.false_eq_true, if_false]
        refine ops_ok c os ps _ H (a.put o.dst undef) w k4 h ⟨⟨R, x, ok, hH, hM, env_dst hE k1 s.tm undef_ok⟩, by rw [put_tm]; exact s.tm, by rw [put_df]; exact s.df, s.hl⟩ hQ
      | true =>
        dsimp only at h
        cases ho : opE Γ cf e H.length H p.op with
        | none => rw [ho] at h; cases h
        | some q =>
          obtain ⟨v, up, nw⟩ := q
          rw [ho] at h
          dsimp only at h
          unfold wpList
          rw [hwant]
          simp only [if_true]
          have pre : Pre G R w e a H := ⟨ok, x.gok c.ok.b01 c.g, hE, fun b blk hb _ => by rw [hH]; exact hb⟩
          have hp : Placed R.H up H.length nw (updH H up ++ nw) := by rw [hH]; exact placed_app H up nw
          refine .inl ((op_ok pre c.cf k3 ho (fun i h1 _ => hM i h1) hp).wp fun u w' hpost => ?_)
          obtain ⟨R', x', ok', hH', hv, hM'⟩ := hpost
          refine ops_ok c os ps _ _ (a.put o.dst u) w' k4 h ⟨⟨R', x.trans x', ok', hH', fun i hi => ?_, env_dst (x'.envOK ok.b01 hE) k1 s.tm hv⟩, by rw [put_tm]; exact s.tm, by rw [put_df]; exact s.df, ?_⟩ hQ
          · rw [List.length_append, updH_len] at hi
            exact hM' i (hM i (by omega)) (by omega)
          · rw [List.length_append, updH_len]
            have := s.hl; omega

/-! the least heap of a state -/
theorem sim_least (c : FnCtx P G cf Rf wf) {vs : List V} {L : List Nat} {vs' : List V} {H1 : Heap} {R : RP} (x : Ext Rf wf R w) (ok : R.OK w) (hH : R.H = H) (hM : ∀ i, H.length ≤ i → R.M i = none) (hl : Rf.H.length ≤ H.length) (hx : extract Rf.H.length vs H = some (L, vs', H1)) :
    ∃ R1, Ext Rf wf R1 w ∧ R1.OK w ∧ R1.H = H1 ∧ (∀ i, H1.length ≤ i → R1.M i = none) ∧ (∀ us, DenVs R w vs us → DenVs R1 w vs' us) ∧ Rf.H.length ≤ H1.length := by
  have hL := extract_spec hx
  have le : ∀ b blk, nth H b = some blk → blk ≠ .dead → nth R.H b = some blk := fun b blk h _ => by rw [hH]; exact h
  have at' : ∀ (j : Nat) blk, H1[j]? = some blk → blk ≠ .dead → ∃ b blk0, L[j]? = some b ∧ R.H[b]? = some blk0 ∧ blk0 ≠ .dead ∧ blk = renB (fun b => idx L b 0) blk0 := by
    intro j blk h hd
    rw [hL.h, pick_get] at h
    cases hb : L[j]? with
    | none => rw [hb] at h; cases h
    | some b =>
      rw [hb] at h
      simp only [Option.map_some, Option.some.injEq] at h
      split at h
      · rename_i blk0 h0
        exact ⟨b, blk0, rfl, by rw [hH, ← nth_eq]; exact h0, fun e => hd (by rw [← h, renB_dead]; exact e), h.symm⟩
      · exact absurd h.symm hd
  let R1 : RP := { R with M := handM R L, H := H1 }
  have lv : ∀ c, R1.live c → R.live c := by
    rintro c ⟨j, h1, h2⟩
    obtain ⟨blk, g1, g2⟩ := isLive_iff.1 h1
    obtain ⟨b, blk0, e1, e2, e3, e4⟩ := at' j blk g1 g2
    have h2' : handM R L j = some (some c) := h2
    rw [handM_at e1] at h2'
    exact ⟨b, isLive_iff.2 ⟨blk0, e2, e3⟩, h2'⟩
  have den : ∀ x u, R.den w x u → R1.den w x u := fun x u h =>
    DenD.change _ _ _ _ (fun b _ h => ⟨fun hl => h.1 (lv b hl), h.2⟩) (fun b _ h => ⟨fun hl => h.1 (lv b hl), h.2⟩) (fun b _ h hl => h (lv b hl)) (fun _ _ _ => rfl) (Nat.le_refl _) (fun _ h => h.1) (fun _ h => h.1) x u h
  have ren : Ren R R1 (fun b => idx L b 0) := by
    refine ⟨fun b j m hj hm => ?_, fun b j m blk hj hm hb hd => ?_⟩
    · show handM R L j = some m
      rw [handM_at (idx0 hj)]; exact hm
    · obtain ⟨b', blk0, e1, e2, e3, e4⟩ := at' j blk hb hd
      rw [idx0 hj] at e1; cases e1
      refine ⟨blk0, e2, ?_⟩
      rw [e4, renB_like]
      exact Blk.like_refl e3
  have hlen : H1.length = L.length := by rw [hL.h, pick_len]
  have hkL : Rf.H.length ≤ L.length := by
    rcases Nat.eq_zero_or_pos Rf.H.length with h | h
    · omega
    · have := hL.pre (Rf.H.length - 1) (by omega)
      have := (List.getElem?_eq_some_iff.1 this).1
      omega
  have e1 : Ext Rf wf R1 w := by
    refine ⟨?_, ?_, x.b1, x.b0, x.same, x.row, x.grow, ?_, x.os, x.tape, x.output⟩
    · intro i m hm
      have hi : i < Rf.H.length := by
        rcases Nat.lt_or_ge i Rf.H.length with h | h
        · exact h
        · rw [c.m i h] at hm; cases hm
      show handM R L i = some m
      rw [handM_at (hL.pre i hi)]
      exact x.m i m hm
    · intro i m blk hm hi hd
      have hik : i < Rf.H.length := by
        rcases Nat.lt_or_ge i Rf.H.length with h | h
        · exact h
        · rw [c.m i h] at hm; cases hm
      obtain ⟨b, blk0, f1, f2, f3, f4⟩ := at' i blk hi hd
      rw [hL.pre i hik] at f1; cases f1
      obtain ⟨old, g1, g2⟩ := x.h i m blk0 hm f2 f3
      exact ⟨old, g1, by rw [f4, renB_like]; exact g2⟩
    · exact fun c' hc hl => x.liv c' hc (lv c' hl)
  refine ⟨R1, e1, ⟨ok.b01, ?_, ?_, ?_, ?_, ?_, ok.bl⟩, rfl, ?_, ?_, by omega⟩
  · intro j blk h hd
    obtain ⟨b, blk0, f1, f2, f3, f4⟩ := at' j blk h hd
    obtain ⟨m, hm⟩ := ok.al b blk0 f2 f3
    exact ⟨m, by show handM R L j = some m; rw [handM_at f1]; exact hm⟩
  · intro i j c' hi hj h1 h2
    obtain ⟨bi, g1, g2⟩ := isLive_iff.1 hi
    obtain ⟨bj, g3, g4⟩ := isLive_iff.1 hj
    obtain ⟨b, blk0, f1, f2, f3, f4⟩ := at' i bi g1 g2
    obtain ⟨b', blk0', f5, f6, f7, f8⟩ := at' j bj g3 g4
    have h1' : handM R L i = some (some c') := h1
    have h2' : handM R L j = some (some c') := h2
    rw [handM_at f1] at h1'
    rw [handM_at f5] at h2'
    have := ok.inj b b' c' (isLive_iff.2 ⟨blk0, f2, f3⟩) (isLive_iff.2 ⟨blk0', f6, f7⟩) h1' h2'
    subst this
    exact hL.nodup i j b f1 f5
  · intro j c' h
    have h' : handM R L j = some (some c') := h
    unfold handM at h'
    split at h'
    · exact ok.lt _ c' h'
    · cases h'
  · intro j m blk h hm
    by_cases hd : blk = .dead
    · subst hd; trivial
    · obtain ⟨b, blk0, f1, f2, f3, f4⟩ := at' j blk h hd
      have hm' : handM R L j = some m := hm
      rw [handM_at f1] at hm'
      subst f4
      exact renB_ok ren closed_true (fun x u _ h => den x u h) (fun x u _ h => den x u h) (fun _ _ _ _ => trivial) (ok.blk b m blk0 f2 hm')
  · intro j c' hl hm
    obtain ⟨blk, g1, g2⟩ := isLive_iff.1 hl
    obtain ⟨b, blk0, f1, f2, f3, f4⟩ := at' j blk g1 g2
    have hm' : handM R L j = some (some c') := hm
    rw [handM_at f1] at hm'
    exact ok.nb b c' (isLive_iff.2 ⟨blk0, f2, f3⟩) hm'
  · intro i hi
    show handM R L i = none
    unfold handM
    rw [List.getElem?_eq_none (by omega)]
  · intro us hus
    rw [hL.vs]
    exact renVs_ok ren closed_true (fun x u _ h => den x u h) vs us (fun _ _ => trivial) hus

theorem envOf_ok {R : RP} {a : Act} : ∀ (live : List Nat) (vs : List V), DenVs R w vs (live.map fun t => a.tmps.getD t undef) → EnvOK R w (envOf live vs) a
  | [], vs, h => fun t => by simp only [envOf]; exact trivial
  | i :: is, [], h => fun t => by simp only [envOf]; exact trivial
  | i :: is, v :: vs, h => fun t => by
    obtain ⟨u, us', h1, h2, h3⟩ := h
    simp only [List.map_cons, List.cons.injEq] at h1
    obtain ⟨rfl, rfl⟩ := h1
    simp only [envOf, Env.set]
    cases hb : Nat.beq i t with
    | true => obtain rfl := Nat.eq_of_beq_eq_true hb; exact h2
    | false => exact envOf_ok is vs h3 t

theorem env_vals {R : RP} (h : EnvOK R w e a) : ∀ (live : List Nat), DenVs R w (live.map e) (live.map fun t => a.tmps.getD t undef)
  | [] => rfl
  | i :: is => ⟨_, _, rfl, h i, env_vals h is⟩

theorem sim_extract (c : FnCtx P G cf Rf wf) (s : Sim N Rf wf e H a w) {live : List Nat} {L : List Nat} {vs' : List V} {H1 : Heap} (hx : extract Rf.H.length (live.map e) H = some (L, vs', H1)) : Sim N Rf wf (envOf live vs') H1 a w := by
  obtain ⟨R, x, ok, hH, hM, hE⟩ := s.ex
  obtain ⟨R1, x1, ok1, hH1, hM1, hv, hl⟩ := sim_least c x ok hH hM s.hl hx
  exact ⟨⟨R1, x1, ok1, hH1, hM1, envOf_ok live vs' (hv _ (env_vals hE live))⟩, s.tm, s.df, hl⟩
end

end Go.Proofs.YtljgncbdagmeeaaDoorE
