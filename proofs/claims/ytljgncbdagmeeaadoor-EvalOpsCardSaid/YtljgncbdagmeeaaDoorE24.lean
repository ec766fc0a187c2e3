/- Loops' heads, code, functions. -/
import Derived.Test.YtljgncbdagmeeaaDoorE23
namespace Go.Proofs.YtljgncbdagmeeaaDoorE
open Go
set_option linter.unusedVariables false
set_option linter.unusedSimpArgs false

theorem denil_blk : ∀ (vs : List V) (n : Nat) (blk : Blk), blk ∈ (denil n vs).2 → ∃ sz, 0 < sz ∧ blk = .arr sz []
  | [], n, blk, h => by simp [denil] at h
  | v :: vs, n, blk, h => by
    have rest : ∀ n, blk ∈ (denil n vs).2 → ∃ sz, 0 < sz ∧ blk = .arr sz [] := fun n h => denil_blk vs n blk h
    cases v <;> try exact rest n h
    rename_i sz
    simp only [denil] at h
    cases hs : Nat.blt 0 sz with
    | true =>
      rw [hs] at h
      simp only [cond_true, List.mem_cons] at h
      rcases h with h | h
      · exact ⟨sz, by simp [Nat.blt] at hs; omega, h⟩
      · exact rest _ h
    | false => rw [hs] at h; exact rest n h

section
variable {R1 R2 : RP} {w : World}
theorem denil_ok (hd : ∀ v u, DenV R1 w v u → DenV R2 w v u) : ∀ (vs : List V) (us : List Value) (n : Nat), (∀ (j : Nat) blk, (denil n vs).2[j]? = some blk → R2.H[n + j]? = some blk ∧ R2.M (n + j) = some none) → DenVs R1 w vs us → DenVs R2 w (denil n vs).1 us
  | [], us, n, _, h => h
  | v :: vs, us, n, hb, h => by
    obtain ⟨u, us', h1, h2, h3⟩ := h
    have same : (denil n (v :: vs)) = (v :: (denil n vs).1, (denil n vs).2) → DenVs R2 w (denil n (v :: vs)).1 us := by
      intro e
      rw [e] at hb ⊢
      exact ⟨u, us', h1, hd v u h2, denil_ok hd vs us' n hb h3⟩
    cases v <;> try exact same rfl
    rename_i sz
    cases hs : Nat.blt 0 sz with
    | false => exact same (by simp only [denil, hs, cond_false])
    | true =>
      have e : denil n (.nilsl sz :: vs) = (.sl n sz :: (denil (n + 1) vs).1, .arr sz [] :: (denil (n + 1) vs).2) := by simp only [denil, hs, cond_true]
      rw [e] at hb ⊢
      obtain ⟨ad, rfl⟩ := h2
      obtain ⟨b1, b2⟩ := hb 0 (.arr sz []) rfl
      refine ⟨_, us', h1, ⟨⟨_, _, _, rfl⟩, none, by simpa using b2, fun xs hx => ?_⟩, denil_ok hd vs us' (n + 1) (fun j blk hj => ?_) h3⟩
      · rw [nth_eq] at hx
        rw [Nat.add_zero, hx] at b1
        cases b1
        exact ⟨Nat.le_refl _, ad, 0, rfl, Nat.le_refl _, .inl ⟨rfl, rfl⟩⟩
      · have := hb (j + 1) blk (by simpa using hj)
        rwa [show n + (j + 1) = n + 1 + j by omega] at this
end

theorem denilB_spec : ∀ (H : Heap) (n : Nat), (denilB n H).1.length = H.length ∧ (∀ blk ∈ (denilB n H).2, ∃ sz, 0 < sz ∧ blk = .arr sz []) ∧
    ∀ (i : Nat) blk, (denilB n H).1[i]? = some blk → ∃ b0, H[i]? = some b0 ∧ (blk = b0 ∨ ∃ cs n', b0 = .cells cs ∧ blk = .cells (denil n' cs).1 ∧ ∀ (j : Nat) x, (denil n' cs).2[j]? = some x → ∃ m, n' + j = n + m ∧ (denilB n H).2[m]? = some x)
  | [], n => ⟨rfl, by simp [denilB], fun i blk h => by simp [denilB] at h⟩
  | b :: H, n => by
    have same : denilB n (b :: H) = (b :: (denilB n H).1, (denilB n H).2) → (denilB n (b :: H)).1.length = (b :: H).length ∧ (∀ blk ∈ (denilB n (b :: H)).2, ∃ sz, 0 < sz ∧ blk = .arr sz []) ∧
        ∀ (i : Nat) blk, (denilB n (b :: H)).1[i]? = some blk → ∃ b0, (b :: H)[i]? = some b0 ∧ (blk = b0 ∨ ∃ cs n', b0 = .cells cs ∧ blk = .cells (denil n' cs).1 ∧ ∀ (j : Nat) x, (denil n' cs).2[j]? = some x → ∃ m, n' + j = n + m ∧ (denilB n (b :: H)).2[m]? = some x) := by
      intro e
      obtain ⟨h1, h2, h3⟩ := denilB_spec H n
      rw [e]
      refine ⟨by simp [h1], h2, fun i blk h => ?_⟩
      cases i with
      | zero => simp at h; subst h; exact ⟨b, rfl, .inl rfl⟩
      | succ i => simpa using h3 i blk (by simpa using h)
    cases b <;> try exact same rfl
    rename_i cs
    have e : denilB n (.cells cs :: H) = (.cells (denil n cs).1 :: (denilB (n + (denil n cs).2.length) H).1, (denil n cs).2 ++ (denilB (n + (denil n cs).2.length) H).2) := rfl
    obtain ⟨h1, h2, h3⟩ := denilB_spec H (n + (denil n cs).2.length)
    rw [e]
    refine ⟨by simp [h1], fun blk hb => ?_, fun i blk h => ?_⟩
    · rcases List.mem_append.1 hb with hb | hb
      · exact denil_blk cs n blk hb
      · exact h2 blk hb
    · cases i with
      | zero =>
        simp at h; subst h
        refine ⟨_, rfl, .inr ⟨cs, n, rfl, rfl, fun j x hj => ⟨j, rfl, ?_⟩⟩⟩
        rw [List.getElem?_append_left (List.getElem?_eq_some_iff.1 hj).1]; exact hj
      | succ i =>
        obtain ⟨b0, f1, f2⟩ := h3 i blk (by simpa using h)
        refine ⟨b0, by simpa using f1, ?_⟩
        rcases f2 with f2 | ⟨cs', n', g1, g2, g3⟩
        · exact .inl f2
        · refine .inr ⟨cs', n', g1, g2, fun j x hj => ?_⟩
          obtain ⟨m, m1, m2⟩ := g3 j x hj
          refine ⟨(denil n cs).2.length + m, by omega, ?_⟩
          rw [List.getElem?_append_right (by omega), Nat.add_sub_cancel_left]; exact m2

section
variable {P : Program} {G : Globs} {N : Nat} {Rf : RP} {wf : World} {e e' : Env} {H H' : Heap} {a : Act} {w : World} {Γ : Ctx} {cf : CallF}

/-- nil slices are opened -/
theorem open_nil {R1 : RP} {H1 : Heap} {vs : List V} (ok : R1.OK w) (hH : R1.H = H1) (hM : ∀ i, H1.length ≤ i → R1.M i = none) {r q} (hr : r = denil H1.length vs) (hq : q = denilB (H1.length + r.2.length) H1) :
    ∃ R2, Ext R1 w R2 w ∧ R2.OK w ∧ R2.H = q.1 ++ (r.2 ++ q.2) ∧ (∀ i, (q.1 ++ (r.2 ++ q.2)).length ≤ i → R2.M i = none) ∧ (∀ us, DenVs R1 w vs us → DenVs R2 w r.1 us) ∧ H1.length ≤ (q.1 ++ (r.2 ++ q.2)).length := by
  obtain ⟨b1, b2, b3⟩ := denilB_spec H1 (H1.length + r.2.length)
  rw [← hq] at b1 b2 b3
  have b4 : ∀ blk ∈ r.2, ∃ sz, 0 < sz ∧ blk = .arr sz [] := fun blk hb => denil_blk vs _ blk (by rw [← hr]; exact hb)
  let H2 : Heap := q.1 ++ (r.2 ++ q.2)
  let R2 : RP := { R1 with M := fun i => if H1.length ≤ i ∧ i < H2.length then some none else R1.M i, H := H2 }
  have hlen : H2.length = H1.length + r.2.length + q.2.length := by simp [H2, b1]; omega
  have hMi : ∀ i, i < H1.length → R2.M i = R1.M i := fun i hi => if_neg (by omega)
  have hMn : ∀ i, H1.length ≤ i → i < H2.length → R2.M i = some none := fun i h1 h2 => if_pos ⟨h1, h2⟩
  have hHi : ∀ i, i < H1.length → H2[i]? = q.1[i]? := fun i hi => List.getElem?_append_left (by omega)
  have hHn : ∀ i blk, H1.length ≤ i → H2[i]? = some blk → ∃ sz, 0 < sz ∧ blk = .arr sz [] := fun i blk h1 h2 => by
    rw [List.getElem?_append_right (by omega)] at h2
    rcases List.mem_append.1 (List.mem_of_getElem? h2) with h | h
    · exact b4 blk h
    · exact b2 blk h
  have some1 : ∀ i m, R1.M i = some m → i < H1.length := fun i m h => by
    rcases Nat.lt_or_ge i H1.length with h' | h'
    · exact h'
    · rw [hM i h'] at h; cases h
  have like : ∀ i blk, i < H1.length → H2[i]? = some blk → blk ≠ .dead → ∃ old, R1.H[i]? = some old ∧ old.like blk := fun i blk hi h hd => by
    rw [hHi i hi] at h
    obtain ⟨b0, f1, f2⟩ := b3 i blk h
    refine ⟨b0, by rw [hH]; exact f1, ?_⟩
    rcases f2 with rfl | ⟨cs, n', rfl, rfl, _⟩
    · exact Blk.like_refl hd
    · trivial
  have lvi : ∀ i, i < H1.length → isLive H2 i = true → isLive R1.H i = true := fun i hi h => by
    obtain ⟨blk, g1, g2⟩ := isLive_iff.1 h
    obtain ⟨old, f1, f2⟩ := like i blk hi g1 g2
    exact isLive_iff.2 ⟨old, f1, Blk.like_ne f2⟩
  have x : Ext R1 w R2 w := by
    refine ⟨fun i m hm => by rw [hMi i (some1 i m hm)]; exact hm, fun i m blk hm h hd => like i blk (some1 i m hm) h hd, rfl, rfl, fun _ _ _ => rfl, fun _ cs el fr h => ⟨cs, el, fr, h, rfl⟩, Nat.le_refl _, ?_, rfl, rfl, rfl⟩
    rintro c _ ⟨i, g1, g2⟩
    by_cases hi : i < H1.length
    · rw [hMi i hi] at g2
      exact ⟨i, lvi i hi g1, g2⟩
    · by_cases h2 : i < H2.length
      · rw [hMn i (by omega) h2] at g2; cases g2
      · have : R2.M i = R1.M i := if_neg (by omega)
        rw [this, hM i (by omega)] at g2; cases g2
  have cellM : ∀ i c, R2.M i = some (some c) → i < H1.length ∧ R1.M i = some (some c) := fun i c h => by
    by_cases hi : i < H1.length
    · rw [hMi i hi] at h; exact ⟨hi, h⟩
    · by_cases h2 : i < H2.length
      · rw [hMn i (by omega) h2] at h; cases h
      · have : R2.M i = R1.M i := if_neg (by omega)
        rw [this, hM i (by omega)] at h; cases h
  have hd : ∀ v u, DenV R1 w v u → DenV R2 w v u := fun v u h => x.denV ok.b01 v u h
  have pos_r : ∀ (j : Nat) blk, r.2[j]? = some blk → R2.H[H1.length + j]? = some blk ∧ R2.M (H1.length + j) = some none := fun j blk hj => by
    have hjl := (List.getElem?_eq_some_iff.1 hj).1
    refine ⟨?_, hMn _ (by omega) (by omega)⟩
    show H2[H1.length + j]? = some blk
    rw [List.getElem?_append_right (by omega), b1, Nat.add_sub_cancel_left, List.getElem?_append_left hjl]; exact hj
  have pos_q : ∀ (m : Nat) blk, q.2[m]? = some blk → R2.H[H1.length + r.2.length + m]? = some blk ∧ R2.M (H1.length + r.2.length + m) = some none := fun m blk hm => by
    have hml := (List.getElem?_eq_some_iff.1 hm).1
    refine ⟨?_, hMn _ (by omega) (by omega)⟩
    show H2[H1.length + r.2.length + m]? = some blk
    rw [List.getElem?_append_right (by omega), b1, List.getElem?_append_right (by omega)]
    rw [show H1.length + r.2.length + m - H1.length - r.2.length = m by omega]; exact hm
  refine ⟨R2, x, ⟨ok.b01, ?_, ?_, ?_, ?_, ?_, ok.bl⟩, rfl, ?_, ?_, by show H1.length ≤ H2.length; omega⟩
  · intro i blk h hdd
    by_cases hi : i < H1.length
    · obtain ⟨old, f1, f2⟩ := like i blk hi h hdd
      obtain ⟨m, hm⟩ := ok.al i old f1 (Blk.like_ne f2)
      exact ⟨m, by rw [hMi i hi]; exact hm⟩
    · exact ⟨none, hMn i (by omega) (List.getElem?_eq_some_iff.1 h).1⟩
  · intro i j c hi hj g1 g2
    obtain ⟨h1, h2⟩ := cellM i c g1
    obtain ⟨h3, h4⟩ := cellM j c g2
    exact ok.inj i j c (lvi i h1 hi) (lvi j h3 hj) h2 h4
  · intro i c h
    exact ok.lt i c (cellM i c h).2
  · intro i m blk h hm
    by_cases hi : i < H1.length
    · rw [hMi i hi] at hm
      have h' : H2[i]? = some blk := h
      rw [hHi i hi] at h'
      obtain ⟨b0, f1, f2⟩ := b3 i blk h'
      have hb0 := ok.blk i m b0 (by rw [hH]; exact f1) hm
      rcases f2 with rfl | ⟨cs, n', rfl, rfl, f3⟩
      · exact x.blkOK ok.b01 (fun _ _ => rfl) hb0
      · obtain ⟨c, us, el, fr, e1, e2, e3, e4, e5⟩ := hb0
        obtain ⟨us0, g1, g2⟩ := list_choose cs (fun k v u => us[k]? = some u ∧ DenV R1 w v u) e5
        have hden := denil_ok (R2 := R2) hd cs us0 n' (fun j blk hj => by
          obtain ⟨m', m1, m2⟩ := f3 j blk hj
          rw [m1]; exact pos_q m' blk m2) (denVs_mk _ _ g1 fun j v u hv hu => (g2 j v u hv hu).2)
        have hlen' : (denil n' cs).1.length = cs.length := by rw [← denVs_len _ _ hden]; exact g1
        refine ⟨c, us, el, fr, e1, e2, e3, by omega, fun k v hk => ?_⟩
        obtain ⟨u, p1, p2⟩ := denVs_at _ _ k v hden hk
        have hkc : k < cs.length := by rw [← hlen']; exact (List.getElem?_eq_some_iff.1 hk).1
        exact ⟨u, (g2 k _ u (List.getElem?_eq_getElem hkc) p1).1, p2⟩
    · obtain ⟨sz, s1, rfl⟩ := hHn i blk (by omega) h
      rw [hMn i (by omega) (List.getElem?_eq_some_iff.1 h).1] at hm
      cases hm
      exact ⟨s1, by simp, .inl ⟨rfl, rfl⟩⟩
  · intro i c hl h
    obtain ⟨h1, h2⟩ := cellM i c h
    exact ok.nb i c (lvi i h1 hl) h2
  · intro i hi
    have h2 : H2.length ≤ i := hi
    have : R2.M i = R1.M i := if_neg (by omega)
    rw [this]; exact hM i (by omega)
  · intro us hus
    rw [hr]
    exact denil_ok hd vs us H1.length (fun j blk hj => pos_r j blk (by rw [hr]; exact hj)) hus

theorem sim_head (c : FnCtx P G cf Rf wf) (s : Sim N Rf wf e H a w) {live : List Nat} {vs' : List V} {H1 : Heap} (hx : head Rf.H.length (live.map e) H = some (vs', H1)) : Sim N Rf wf (envOf live vs') H1 a w := by
  obtain ⟨R, x, ok, hH, hM, hE⟩ := s.ex
  unfold head at hx
  cases he : extract Rf.H.length (live.map e) H with
  | none => rw [he] at hx; cases hx
  | some p =>
    obtain ⟨L, vs1, H0⟩ := p
    rw [he] at hx
    dsimp only at hx
    obtain ⟨R1, x1, ok1, hH1, hM1, hv1, hl1⟩ := sim_least c x ok hH hM s.hl he
    obtain ⟨R2, x2, ok2, hH2, hM2, hv2, hl2⟩ := open_nil (vs := vs1) ok1 hH1 hM1 rfl rfl
    cases he2 : extract Rf.H.length (denil H0.length vs1).1 ((denilB (H0.length + (denil H0.length vs1).2.length) H0).1 ++ ((denil H0.length vs1).2 ++ (denilB (H0.length + (denil H0.length vs1).2.length) H0).2)) with
    | none => rw [he2] at hx; cases hx
    | some p2 =>
      obtain ⟨L2, vs2, H2⟩ := p2
      rw [he2] at hx
      simp only [Option.some.injEq, Prod.mk.injEq] at hx
      obtain ⟨rfl, rfl⟩ := hx
      obtain ⟨R3, x3, ok3, hH3, hM3, hv3, hl3⟩ := sim_least c (x1.trans x2) ok2 hH2 hM2 (Nat.le_trans hl1 hl2) he2
      exact ⟨⟨R3, x3, ok3, hH3, hM3, envOf_ok live _ (hv3 _ (hv2 _ (hv1 _ (env_vals hE live))))⟩, s.tm, s.df, hl3⟩

/-! code -/
def okC (P : Program) (G : Globs) (N : Nat) (okD : Array Oper → List Op1 → Bool) : C → Code → Bool
  | c, .scope x => okC P G N okD c x
  | .skip, .skip => true
  | .skip, .label _ => true
  | .ret, .ret => true
  | .exit i, .exit j => Nat.beq i j
  | .seq a b, .seq x y => okC P G N okD a x && okC P G N okD b y
  | .cond y a b, .cond z u v => okOpd G z y && (okC P G N okD a u && okC P G N okD b v)
  | .block i a, .block j x => Nat.beq i j && okC P G N okD a x
  | .loop _ _ a, .loop x => okC P G N okD a x
  | .ops l, .region _ os false => okOps P G N os os.toList l
  | .draw l, .region _ os true => okD os l
  | _, _ => false

def exOK : Ex → Exit → Prop
  | .normal, e => e = .normal
  | .exit i, e => e = .exit i
  | .ret, e => e = .ret

/-- what is asked of a region that draws its order -/
def DrawOK (P : Program) (G : Globs) (N : Nat) (Γ : Ctx) (cf : CallF) (okD : Array Oper → List Op1 → Bool) : Prop :=
  ∀ (id : Nat) (os : Array Oper) (l : List Op1) (Rf : RP) (wf : World) (e : Env) (H : Heap) (e' : Env) (H' : Heap) (a : Act) (w : World), okD os l = true → drawE Γ cf [] l e H = some (e', H') → FnCtx P G cf Rf wf → Sim N Rf wf e H a w →
    (Code.region id os true).wp P (fun ex a' w' => ex = .normal ∧ Sim N Rf wf e' H' a' w') a w

theorem code_ok (c : FnCtx P G cf Rf wf) {okD : Array Oper → List Op1 → Bool} (hD : DrawOK P G N Γ cf okD) (m : Nat) : ∀ (code : Code) (ic : C) (e : Env) (H : Heap) (r : Ex) (e' : Env) (H' : Heap) (a : Act) (w : World), okC P G N okD ic code = true →
    codeE Γ cf (fun F => iterN F m) Rf.H.length ic e H = some (r, e', H') → Sim N Rf wf e H a w → code.wp P (fun ex a' w' => exOK r ex ∧ Sim N Rf wf e' H' a' w') a w := by
  intro code
  induction code with
  | scope x ih =>
    intro ic e H r e' H' a w hk h s
    have hk' : okC P G N okD ic x = true := by cases ic <;> exact hk
    refine wp_scope_straight (wp_mono (ih ic e H r e' H' a w hk' h s) fun ex a' w' hq => ?_)
    cases ex <;> first | exact hq | (cases r <;> cases hq.1)
  | skip =>
    intro ic e H r e' H' a w hk h s
    cases ic <;> try (cases hk; done)
    simp only [codeE, Option.some.injEq, Prod.mk.injEq] at h
    obtain ⟨rfl, rfl, rfl⟩ := h
    exact wp_skip ⟨rfl, s⟩
  | label l =>
    intro ic e H r e' H' a w hk h s
    cases ic <;> try (cases hk; done)
    simp only [codeE, Option.some.injEq, Prod.mk.injEq] at h
    obtain ⟨rfl, rfl, rfl⟩ := h
    exact wp_label ⟨rfl, s⟩
  | ret =>
    intro ic e H r e' H' a w hk h s
    cases ic <;> try (cases hk; done)
    simp only [codeE, Option.some.injEq, Prod.mk.injEq] at h
    obtain ⟨rfl, rfl, rfl⟩ := h
    exact wp_ret ⟨rfl, s⟩
  | exit id =>
    intro ic e H r e' H' a w hk h s
    cases ic <;> try (cases hk; done)
    obtain rfl := Nat.eq_of_beq_eq_true hk
    simp only [codeE, Option.some.injEq, Prod.mk.injEq] at h
    obtain ⟨rfl, rfl, rfl⟩ := h
    exact wp_exit ⟨rfl, s⟩
  | seq x y ihx ihy =>
    intro ic e H r e' H' a w hk h s
    cases ic <;> try (cases hk; done)
    rename_i p q
    simp only [okC, Bool.and_eq_true] at hk
    simp only [codeE] at h
    cases hp : codeE Γ cf (fun F => iterN F m) Rf.H.length p e H with
    | none => rw [hp] at h; cases h
    | some r1 =>
      obtain ⟨x1, e1, H1⟩ := r1
      rw [hp] at h
      refine wp_seq (wp_mono (ihx p e H x1 e1 H1 a w hk.1 hp s) fun ex a' w' hq => ?_)
      cases x1 with
      | normal =>
        obtain ⟨h1, h2⟩ := hq
        cases h1
        exact ihy q e1 H1 r e' H' a' w' hk.2 h h2
      | exit i =>
        obtain ⟨h1, h2⟩ := hq
        cases h1
        cases h
        exact ⟨rfl, h2⟩
      | ret =>
        obtain ⟨h1, h2⟩ := hq
        cases h1
        cases h
        exact ⟨rfl, h2⟩
  | cond z u v ihu ihv =>
    intro ic e H r e' H' a w hk h s
    cases ic <;> try (cases hk; done)
    rename_i y p q
    simp only [okC, Bool.and_eq_true] at hk
    simp only [codeE] at h
    split at h
    · rename_i t ht
      obtain ⟨R, x, ok, hH, hM, hE⟩ := s.ex
      have hv := okOpd_ok (x.gok c.ok.b01 c.g) hE hk.1
      rw [ht] at hv
      cases t with
      | true => exact wp_cond_true (denB hv) (ihu p e H r e' H' a w hk.2.1 h s)
      | false => exact wp_cond_false (denB hv) (ihv q e H r e' H' a w hk.2.2 h s)
    · cases h
  | block id x ih =>
    intro ic e H r e' H' a w hk h s
    cases ic <;> try (cases hk; done)
    rename_i i p
    simp only [okC, Bool.and_eq_true] at hk
    obtain rfl := Nat.eq_of_beq_eq_true hk.1
    simp only [codeE] at h
    cases hp : codeE Γ cf (fun F => iterN F m) Rf.H.length p e H with
    | none => rw [hp] at h; cases h
    | some r1 =>
      obtain ⟨x1, e1, H1⟩ := r1
      rw [hp] at h
      refine wp_block (wp_mono (ih p e H x1 e1 H1 a w hk.2 hp s) fun ex a' w' hq => ?_)
      obtain ⟨h1, h2⟩ := hq
      cases x1 with
      | normal => cases h1; cases h; exact ⟨rfl, h2⟩
      | ret => cases h1; cases h; exact ⟨rfl, h2⟩
      | exit j =>
        cases h1
        dsimp only at h
        show if j = i then _ else _
        cases hj : Nat.beq j i with
        | true =>
          rw [hj] at h
          cases h
          rw [if_pos (Nat.eq_of_beq_eq_true hj)]
          exact ⟨rfl, h2⟩
        | false =>
          rw [hj] at h
          cases h
          rw [if_neg (fun e => by subst e; rw [Nat.beq_refl] at hj; cases hj)]
          exact ⟨rfl, h2⟩
  | loop x ih =>
    intro ic e H r e' H' a w hk h s
    cases ic <;> try (cases hk; done)
    rename_i live outs p
    have hk' : okC P G N okD p x = true := hk
    simp only [codeE] at h
    cases hh : head Rf.H.length (live.map e) H with
    | none => rw [hh] at h; cases h
    | some q =>
      obtain ⟨vs, H1⟩ := q
      rw [hh] at h
      dsimp only at h
      split at h
      · rename_i x1 vs1 H2 hit
        simp only [Option.some.injEq, Prod.mk.injEq] at h
        obtain ⟨rfl, rfl, rfl⟩ := h
        have key : ∀ (n : Nat) (vs : List V) (H1 : Heap) (a : Act) (w : World), iterN (fun vs H => roundE Rf.H.length live outs (codeE Γ cf (fun F => iterN F m) Rf.H.length p (envOf live vs) H)) n vs H1 = some (x1, vs1, H2) → Sim N Rf wf (envOf live vs) H1 a w →
            Code.rounds P x (fun ex a' w' => exOK x1 ex ∧ Sim N Rf wf (envOf outs vs1) H2 a' w') n a w := by
          intro n
          induction n with
          | zero => intro vs H1 a w h _; cases h
          | succ n ihn =>
            intro vs H1 a w h s
            rw [rounds_succ]
            simp only [iterN] at h
            cases hb : codeE Γ cf (fun F => iterN F m) Rf.H.length p (envOf live vs) H1 with
            | none => rw [hb] at h; cases h
            | some r1 =>
              obtain ⟨x2, e2, H3⟩ := r1
              rw [hb] at h
              refine wp_mono (ih p (envOf live vs) H1 x2 e2 H3 a w hk' hb s) fun ex a' w' hq => ?_
              obtain ⟨h1, h2⟩ := hq
              cases x2 with
              | normal =>
                cases h1
                simp only [roundE] at h
                cases hd : head Rf.H.length (live.map e2) H3 with
                | none => rw [hd] at h; cases h
                | some q =>
                  obtain ⟨vs2, H4⟩ := q
                  rw [hd] at h
                  exact ihn vs2 H4 a' w' h (sim_head c h2 hd)
              | exit i =>
                cases h1
                simp only [roundE] at h
                cases hd : extract Rf.H.length (outs.map e2) H3 with
                | none => rw [hd] at h; cases h
                | some q =>
                  obtain ⟨L, vs2, H4⟩ := q
                  rw [hd] at h
                  cases h
                  exact ⟨rfl, sim_extract c h2 hd⟩
              | ret =>
                cases h1
                simp only [roundE] at h
                cases hd : extract Rf.H.length (outs.map e2) H3 with
                | none => rw [hd] at h; cases h
                | some q =>
                  obtain ⟨L, vs2, H4⟩ := q
                  rw [hd] at h
                  cases h
                  exact ⟨rfl, sim_extract c h2 hd⟩
        exact wp_loop_rounds m (key m vs H1 a w hit (sim_head c s hh))
      · cases h
  | region id os d =>
    intro ic e H r e' H' a w hk h s
    cases d with
    | false =>
      cases ic <;> try (cases hk; done)
      rename_i l
      simp only [codeE] at h
      cases ho : opsE Γ cf l e H with
      | none => rw [ho] at h; cases h
      | some q =>
        obtain ⟨e1, H1⟩ := q
        rw [ho] at h
        cases h
        exact wp_region_list (ops_ok c os.toList l e H a w hk ho s fun a w s => ⟨rfl, s⟩)
    | true =>
      cases ic <;> try (cases hk; done)
      rename_i l
      simp only [codeE] at h
      cases ho : drawE Γ cf [] l e H with
      | none => rw [ho] at h; cases h
      | some q =>
        obtain ⟨e1, H1⟩ := q
        rw [ho] at h
        cases h
        exact wp_mono (hD id os l Rf wf e H _ _ a w hk ho c s) fun ex a' w' hq => ⟨by rw [hq.1]; rfl, hq.2⟩
  | rangeFunc f ps x y ihx ihy =>
    intro ic e H r e' H' a w hk h s
    cases ic <;> cases hk
  | goto l =>
    intro ic e H r e' H' a w hk h s
    cases ic <;> cases hk
  | refuse why =>
    intro ic e H r e' H' a w hk h s
    cases ic <;> cases hk
end

end Go.Proofs.YtljgncbdagmeeaaDoorE
