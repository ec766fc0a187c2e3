/- SourceRuns: part 3 of 6 of the proof. -/
import Derived.Test.YtnmbdjkbaihicaaDoorZSourceRunsb
import Derived.KernelRfl
import Derived.ChangeArms
import Derived.Deep.Slices
import Derived.ChangeOld
import Derived.WideShapes
import Derived.FnData
import Derived.MakeChecks
import Derived.LaidMore
import Derived.OpenShut
set_option maxRecDepth 100000
set_option maxHeartbeats 40000000
namespace Go.Proofs.YtnmbdjkbaihicaaDoorE
open Go
set_option linter.unusedVariables false
set_option linter.unusedSimpArgs false
theorem Zm5 : ∀ (vs : List V) (n : Nat) (blk : Blk), blk ∈ (ZbW n vs).2 → ∃ sz, 0 < sz ∧ blk = .arr sz []
 | [], n, blk, h => by simp [ZbW] at h
 | v :: vs, n, blk, h => by
  have rest : ∀ n, blk ∈ (ZbW n vs).2 → ∃ sz, 0 < sz ∧ blk = .arr sz [] := fun n h => Zm5 vs n blk h
  cases v <;> try exact rest n h
  rename_i sz
  simp only [ZbW] at h
  cases hs : Nat.blt 0 sz with
  | true =>
   rw [hs] at h
   simp only [cond_true, List.mem_cons] at h
   rcases h with h | h
   ·exact ⟨sz, by simp [Nat.blt] at hs; omega, h⟩
   ·exact rest _ h
  | false => rw [hs] at h; exact rest n h
section
variable {R1 R2 : RP} {w : World}
theorem Zmn (hd : ∀ v u, ZaY R1 w v u → ZaY R2 w v u) : ∀ (vs : List V) (us : List Value) (n : Nat), (∀ (j : Nat) blk, (ZbW n vs).2[j]? = some blk → R2.H[n + j]? = some blk ∧ R2.M (n + j) = some none) → ZaE R1 w vs us → ZaE R2 w (ZbW n vs).1 us
 | [], us, n, _, h => h
 | v :: vs, us, n, hb, h => by
  obtain ⟨u, us', h1, h2, h3⟩ := h
  have same : (ZbW n (v :: vs)) = (v :: (ZbW n vs).1, (ZbW n vs).2) → ZaE R2 w (ZbW n (v :: vs)).1 us := by
   intro e
   rw [e] at hb ⊢
   exact ⟨u, us', h1, hd v u h2, Zmn hd vs us' n hb h3⟩
  cases v <;> try exact same rfl
  rename_i sz
  cases hs : Nat.blt 0 sz with
  | false => exact same (by simp only [ZbW, hs, cond_false])
  | true =>
   have e : ZbW n (.nilsl sz :: vs) = (.sl n sz :: (ZbW (n + 1) vs).1, .arr sz [] :: (ZbW (n + 1) vs).2) := by simp only [ZbW, hs, cond_true]
   rw [e] at hb ⊢
   obtain ⟨ad, rfl⟩ := h2
   obtain ⟨b1, b2⟩ := hb 0 (.arr sz []) rfl
   refine ⟨_, us', h1, ⟨⟨_, _, _, rfl⟩, none, by simpa using b2, fun xs hx => ?_⟩, Zmn hd vs us' (n + 1) (fun j blk hj => ?_) h3⟩
   ·rw [ZV] at hx
    rw [Nat.add_zero, hx] at b1
    cases b1
    exact ⟨Nat.le_refl _, ad, 0, rfl, Nat.le_refl _, .inl ⟨rfl, rfl⟩⟩
   ·have := hb (j + 1) blk (by simpa using hj)
    rwa [show n + (j + 1) = n + 1 + j by omega] at this
end
theorem ZjQ : ∀ (H : Zm) (n : Nat), (Zcv n H).1.length = H.length ∧ (∀ blk ∈ (Zcv n H).2, ∃ sz, 0 < sz ∧ blk = .arr sz []) ∧
  ∀ (i : Nat) blk, (Zcv n H).1[i]? = some blk → ∃ b0, H[i]? = some b0 ∧ (blk = b0 ∨ ∃ cs n', b0 = .cells cs ∧ blk = .cells (ZbW n' cs).1 ∧ ∀ (j : Nat) x, (ZbW n' cs).2[j]? = some x → ∃ m, n' + j = n + m ∧ (Zcv n H).2[m]? = some x)
 | [], n => ⟨rfl, by simp [Zcv], fun i blk h => by simp [Zcv] at h⟩
 | b :: H, n => by
  have same : Zcv n (b :: H) = (b :: (Zcv n H).1, (Zcv n H).2) → (Zcv n (b :: H)).1.length = (b :: H).length ∧ (∀ blk ∈ (Zcv n (b :: H)).2, ∃ sz, 0 < sz ∧ blk = .arr sz []) ∧
    ∀ (i : Nat) blk, (Zcv n (b :: H)).1[i]? = some blk → ∃ b0, (b :: H)[i]? = some b0 ∧ (blk = b0 ∨ ∃ cs n', b0 = .cells cs ∧ blk = .cells (ZbW n' cs).1 ∧ ∀ (j : Nat) x, (ZbW n' cs).2[j]? = some x → ∃ m, n' + j = n + m ∧ (Zcv n (b :: H)).2[m]? = some x) := by
   intro e
   obtain ⟨h1, h2, h3⟩ := ZjQ H n
   rw [e]
   refine ⟨by simp [h1], h2, fun i blk h => ?_⟩
   cases i with
   | zero => simp at h; subst h; exact ⟨b, rfl, .inl rfl⟩
   | succ i => simpa using h3 i blk (by simpa using h)
  cases b <;> try exact same rfl
  rename_i cs
  have e : Zcv n (.cells cs :: H) = (.cells (ZbW n cs).1 :: (Zcv (n + (ZbW n cs).2.length) H).1, (ZbW n cs).2 ++ (Zcv (n + (ZbW n cs).2.length) H).2) := rfl
  obtain ⟨h1, h2, h3⟩ := ZjQ H (n + (ZbW n cs).2.length)
  rw [e]
  refine ⟨by simp [h1], fun blk hb => ?_, fun i blk h => ?_⟩
  ·rcases List.mem_append.1 hb with hb | hb
   ·exact Zm5 cs n blk hb
   ·exact h2 blk hb
  ·cases i with
   | zero =>
    simp at h; subst h
    refine ⟨_, rfl, .inr ⟨cs, n, rfl, rfl, fun j x hj => ⟨j, rfl, ?_⟩⟩⟩
    rw [List.getElem?_append_left (List.getElem?_eq_some_iff.1 hj).1]; exact hj
   | succ i =>
    obtain ⟨b0, f1, f2⟩ := h3 i blk (by simpa using h)
    refine ⟨b0, by simpa using f1, ?_⟩
    rcases f2 with f2 | ⟨cs', n', g1, g2, g3⟩
    ·exact .inl f2
    ·refine .inr ⟨cs', n', g1, g2, fun j x hj => ?_⟩
     obtain ⟨m, m1, m2⟩ := g3 j x hj
     refine ⟨(ZbW n cs).2.length + m, by omega, ?_⟩
     rw [List.getElem?_append_right (by omega), Nat.add_sub_cancel_left]; exact m2
section
variable {P : Program} {G : Zbr} {N : Nat} {Rf : RP} {wf : World} {e e' : Env} {H H' : Zm} {a : Act} {w : World} {Γ : Ctx} {cf : Zbf}
theorem ZvO {R1 : RP} {H1 : Zm} {vs : List V} (ok : R1.OK w) (hH : R1.H = H1) (hM : ∀ i, H1.length ≤ i → R1.M i = none) {r q} (hr : r = ZbW H1.length vs) (hq : q = Zcv (H1.length + r.2.length) H1) :
  ∃ R2, Ext R1 w R2 w ∧ R2.OK w ∧ R2.H = q.1 ++ (r.2 ++ q.2) ∧ (∀ i, (q.1 ++ (r.2 ++ q.2)).length ≤ i → R2.M i = none) ∧ (∀ us, ZaE R1 w vs us → ZaE R2 w r.1 us) ∧ H1.length ≤ (q.1 ++ (r.2 ++ q.2)).length := by
 obtain ⟨b1, b2, b3⟩ := ZjQ H1 (H1.length + r.2.length)
 rw [← hq] at b1 b2 b3
 have b4 : ∀ blk ∈ r.2, ∃ sz, 0 < sz ∧ blk = .arr sz [] := fun blk hb => Zm5 vs _ blk (by rw [← hr]; exact hb)
 let H2 : Zm := q.1 ++ (r.2 ++ q.2)
 let R2 : RP := { R1 with M := fun i => if H1.length ≤ i ∧ i < H2.length then some none else R1.M i, H := H2 }
 have hlen : H2.length = H1.length + r.2.length + q.2.length := by simp [H2, b1]; omega
 have hMi : ∀ i, i < H1.length → R2.M i = R1.M i := fun i hi => if_neg (by omega)
 have hMn : ∀ i, H1.length ≤ i → i < H2.length → R2.M i = some none := fun i h1 h2 => if_pos ⟨h1, h2⟩
 have hHi : ∀ i, i < H1.length → H2[i]? = q.1[i]? := fun i hi => List.getElem?_append_left (by omega)
 have hHn : ∀ i blk, H1.length ≤ i → H2[i]? = some blk → ∃ sz, 0 < sz ∧ blk = .arr sz [] := fun i blk h1 h2 => by
  rw [List.getElem?_append_right (by omega)] at h2
  rcases List.mem_append.1 (List.mem_of_getElem? h2) with h | h
  ·exact b4 blk h
  ·exact b2 blk h
 have some1 : ∀ i m, R1.M i = some m → i < H1.length := fun i m h => by
  rcases Nat.lt_or_ge i H1.length with h' | h'
  ·exact h'
  ·rw [hM i h'] at h; cases h
 have like : ∀ i blk, i < H1.length → H2[i]? = some blk → blk ≠ .dead → ∃ old, R1.H[i]? = some old ∧ old.like blk := fun i blk hi h hd => by
  rw [hHi i hi] at h
  obtain ⟨b0, f1, f2⟩ := b3 i blk h
  refine ⟨b0, by rw [hH]; exact f1, ?_⟩
  rcases f2 with rfl | ⟨cs, n', rfl, rfl, _⟩
  ·exact Blk.like_refl hd
  ·trivial
 have lvi : ∀ i, i < H1.length → Z3 H2 i = true → Z3 R1.H i = true := fun i hi h => by
  obtain ⟨blk, g1, g2⟩ := Zu.1 h
  obtain ⟨old, f1, f2⟩ := like i blk hi g1 g2
  exact Zu.2 ⟨old, f1, Blk.like_ne f2⟩
 have x : Ext R1 w R2 w := by
  refine ⟨fun i m hm => by rw [hMi i (some1 i m hm)]; exact hm, fun i m blk hm h hd => like i blk (some1 i m hm) h hd, rfl, rfl, fun _ _ _ => rfl, fun _ cs el fr h => ⟨cs, el, fr, h, rfl⟩, Nat.le_refl _, ?_, rfl, rfl, rfl⟩
  rintro c _ ⟨i, g1, g2⟩
  by_cases hi : i < H1.length
  ·rw [hMi i hi] at g2
   exact ⟨i, lvi i hi g1, g2⟩
  ·by_cases h2 : i < H2.length
   ·rw [hMn i (by omega) h2] at g2; cases g2
   ·have : R2.M i = R1.M i := if_neg (by omega)
    rw [this, hM i (by omega)] at g2; cases g2
 have cellM : ∀ i c, R2.M i = some (some c) → i < H1.length ∧ R1.M i = some (some c) := fun i c h => by
  by_cases hi : i < H1.length
  ·rw [hMi i hi] at h; exact ⟨hi, h⟩
  ·by_cases h2 : i < H2.length
   ·rw [hMn i (by omega) h2] at h; cases h
   ·have : R2.M i = R1.M i := if_neg (by omega)
    rw [this, hM i (by omega)] at h; cases h
 have hd : ∀ v u, ZaY R1 w v u → ZaY R2 w v u := fun v u h => x.denV ok.b01 v u h
 have pos_r : ∀ (j : Nat) blk, r.2[j]? = some blk → R2.H[H1.length + j]? = some blk ∧ R2.M (H1.length + j) = some none := fun j blk hj => by
  have hjl := (List.getElem?_eq_some_iff.1 hj).1
  refine ⟨?_, hMn _ (by omega) (by omega)⟩
  show H2[H1.length + j]? = some blk
  rw [List.getElem?_append_right (by omega), b1, Nat.add_sub_cancel_left, List.getElem?_append_left hjl]; exact hj
 have pos_q : ∀ (m : Nat) blk, q.2[m]? = some blk → R2.H[H1.length + r.2.length + m]? = some blk ∧ R2.M (H1.length + r.2.length + m) = some none := fun m blk hm => by
  have hml := (List.getElem?_eq_some_iff.1 hm).1
  refine ⟨?_, hMn _ (by omega) (by omega)⟩
  show H2[H1.length + r.2.length + m]? = some blk
  rw [List.getElem?_append_right (by omega), b1, List.getElem?_append_right (by omega)]
  rw [show H1.length + r.2.length + m - H1.length - r.2.length = m by omega]; exact hm
 refine ⟨R2, x, ⟨ok.b01, ?_, ?_, ?_, ?_, ?_, ok.bl⟩, rfl, ?_, ?_, by show H1.length ≤ H2.length; omega⟩
 ·intro i blk h hdd
  by_cases hi : i < H1.length
  ·obtain ⟨old, f1, f2⟩ := like i blk hi h hdd
   obtain ⟨m, hm⟩ := ok.al i old f1 (Blk.like_ne f2)
   exact ⟨m, by rw [hMi i hi]; exact hm⟩
  ·exact ⟨none, hMn i (by omega) (List.getElem?_eq_some_iff.1 h).1⟩
 ·intro i j c hi hj g1 g2
  obtain ⟨h1, h2⟩ := cellM i c g1
  obtain ⟨h3, h4⟩ := cellM j c g2
  exact ok.inj i j c (lvi i h1 hi) (lvi j h3 hj) h2 h4
 ·intro i c h
  exact ok.lt i c (cellM i c h).2
 ·intro i m blk h hm
  by_cases hi : i < H1.length
  ·rw [hMi i hi] at hm
   have h' : H2[i]? = some blk := h
   rw [hHi i hi] at h'
   obtain ⟨b0, f1, f2⟩ := b3 i blk h'
   have hb0 := ok.blk i m b0 (by rw [hH]; exact f1) hm
   rcases f2 with rfl | ⟨cs, n', rfl, rfl, f3⟩
   ·exact x.blkOK ok.b01 (fun _ _ => rfl) hb0
   ·obtain ⟨c, us, el, fr, e1, e2, e3, e4, e5⟩ := hb0
    obtain ⟨us0, g1, g2⟩ := ZgG cs (fun k v u => us[k]? = some u ∧ ZaY R1 w v u) e5
    have hden := Zmn (R2 := R2) hd cs us0 n' (fun j blk hj => by
     obtain ⟨m', m1, m2⟩ := f3 j blk hj
     rw [m1]; exact pos_q m' blk m2) (ZiA _ _ g1 fun j v u hv hu => (g2 j v u hv hu).2)
    have hlen' : (ZbW n' cs).1.length = cs.length := by rw [← ZdP _ _ hden]; exact g1
    refine ⟨c, us, el, fr, e1, e2, e3, by omega, fun k v hk => ?_⟩
    obtain ⟨u, p1, p2⟩ := ZeV _ _ k v hden hk
    have hkc : k < cs.length := by rw [← hlen']; exact (List.getElem?_eq_some_iff.1 hk).1
    exact ⟨u, (g2 k _ u (List.getElem?_eq_getElem hkc) p1).1, p2⟩
  ·obtain ⟨sz, s1, rfl⟩ := hHn i blk (by omega) h
   rw [hMn i (by omega) (List.getElem?_eq_some_iff.1 h).1] at hm
   cases hm
   exact ⟨s1, by simp, .inl ⟨rfl, rfl⟩⟩
 ·intro i c hl h
  obtain ⟨h1, h2⟩ := cellM i c h
  exact ok.nb i c (lvi i h1 hl) h2
 ·intro i hi
  have h2 : H2.length ≤ i := hi
  have : R2.M i = R1.M i := if_neg (by omega)
  rw [this]; exact hM i (by omega)
 ·intro us hus
  rw [hr]
  exact Zmn hd vs us H1.length (fun j blk hj => pos_r j blk (by rw [hr]; exact hj)) hus
theorem Zrl (c : Zmc P G cf Rf wf) (s : Sim N Rf wf e H a w) {live : List Nat} {vs' : List V} {H1 : Zm} (hx : ZnK Rf.H.length (live.map e) H = some (vs', H1)) : Sim N Rf wf (ZdS live vs') H1 a w := by
 obtain ⟨R, x, ok, hH, hM, hE⟩ := s.ex
 unfold ZnK at hx
 cases he : extract Rf.H.length (live.map e) H with
 | none => rw [he] at hx; cases hx
 | some p =>
  obtain ⟨L, vs1, H0⟩ := p
  rw [he] at hx
  dsimp only at hx
  obtain ⟨R1, x1, ok1, hH1, hM1, hv1, hl1⟩ := Zkz c x ok hH hM s.hl he
  obtain ⟨R2, x2, ok2, hH2, hM2, hv2, hl2⟩ := ZvO (vs := vs1) ok1 hH1 hM1 rfl rfl
  cases he2 : extract Rf.H.length (ZbW H0.length vs1).1 ((Zcv (H0.length + (ZbW H0.length vs1).2.length) H0).1 ++ ((ZbW H0.length vs1).2 ++ (Zcv (H0.length + (ZbW H0.length vs1).2.length) H0).2)) with
  | none => rw [he2] at hx; cases hx
  | some p2 =>
   obtain ⟨L2, vs2, H2⟩ := p2
   rw [he2] at hx
   simp only [Option.some.injEq, Prod.mk.injEq] at hx
   obtain ⟨rfl, rfl⟩ := hx
   obtain ⟨R3, x3, ok3, hH3, hM3, hv3, hl3⟩ := Zkz c (x1.trans x2) ok2 hH2 hM2 (Nat.le_trans hl1 hl2) he2
   exact ⟨⟨R3, x3, ok3, hH3, hM3, Zpg live _ (hv3 _ (hv2 _ (hv1 _ (Zn6 hE live))))⟩, s.tm, s.df, hl3⟩
def okC (P : Program) (G : Zbr) (N : Nat) (okD : Array Oper → List Op1 → Bool) : C → Code → Bool
 | c, .scope x => okC P G N okD c x
 | .skip, .skip => true
 | .skip, .label _ => true
 | .ret, .ret => true
 | .exit i, .exit j => Nat.beq i j
 | .seq a b, .seq x y => okC P G N okD a x && okC P G N okD b y
 | .cond y a b, .cond z u v => ZQ G z y && (okC P G N okD a u && okC P G N okD b v)
 | .block i a, .block j x => Nat.beq i j && okC P G N okD a x
 | .loop _ _ a, .loop x => okC P G N okD a x
 | .ops l, .region _ os false => ZoJ P G N os os.toList l
 | .draw l, .region _ os true => okD os l
 | _, _ => false
def ZAU : Ex → Exit → Prop
 | .normal, e => e = .normal
 | .exit i, e => e = .exit i
 | .ret, e => e = .ret
def Zpi (P : Program) (G : Zbr) (N : Nat) (Γ : Ctx) (cf : Zbf) (okD : Array Oper → List Op1 → Bool) : Prop :=
 ∀ (id : Nat) (os : Array Oper) (l : List Op1) (Rf : RP) (wf : World) (e : Env) (H : Zm) (e' : Env) (H' : Zm) (a : Act) (w : World), okD os l = true → Zfa Γ cf [] l e H = some (e', H') → Zmc P G cf Rf wf → Sim N Rf wf e H a w →
  (Code.region id os true).wp P (fun ex a' w' => ex = .normal ∧ Sim N Rf wf e' H' a' w') a w
theorem ZxB (c : Zmc P G cf Rf wf) {okD : Array Oper → List Op1 → Bool} (hD : Zpi P G N Γ cf okD) (m : Nat) : ∀ (code : Code) (ic : C) (e : Env) (H : Zm) (r : Ex) (e' : Env) (H' : Zm) (a : Act) (w : World), okC P G N okD ic code = true →
  Zag Γ cf (fun F => ZcT F m) Rf.H.length ic e H = some (r, e', H') → Sim N Rf wf e H a w → code.wp P (fun ex a' w' => ZAU r ex ∧ Sim N Rf wf e' H' a' w') a w := by
 intro code
 induction code with
 | scope x ih =>
  intro ic e H r e' H' a w hk h s
  have hk' : okC P G N okD ic x = true := by cases ic <;> exact hk
  refine wp_scope_straight (wp_mono (ih ic e H r e' H' a w hk' h s) fun ex a' w' hq => ?_)
  cases ex <;> first | exact hq | (cases r <;> cases hq.1)
 | skip =>
  intro ic e H r e' H' a w hk h s
  cases ic <;> try (cases hk; done)
  simp only [Zag, Option.some.injEq, Prod.mk.injEq] at h
  obtain ⟨rfl, rfl, rfl⟩ := h
  exact wp_skip ⟨rfl, s⟩
 | label l =>
  intro ic e H r e' H' a w hk h s
  cases ic <;> try (cases hk; done)
  simp only [Zag, Option.some.injEq, Prod.mk.injEq] at h
  obtain ⟨rfl, rfl, rfl⟩ := h
  exact wp_label ⟨rfl, s⟩
 | ret =>
  intro ic e H r e' H' a w hk h s
  cases ic <;> try (cases hk; done)
  simp only [Zag, Option.some.injEq, Prod.mk.injEq] at h
  obtain ⟨rfl, rfl, rfl⟩ := h
  exact wp_ret ⟨rfl, s⟩
 | exit id =>
  intro ic e H r e' H' a w hk h s
  cases ic <;> try (cases hk; done)
  obtain rfl := Nat.eq_of_beq_eq_true hk
  simp only [Zag, Option.some.injEq, Prod.mk.injEq] at h
  obtain ⟨rfl, rfl, rfl⟩ := h
  exact wp_exit ⟨rfl, s⟩
 | seq x y ihx ihy =>
  intro ic e H r e' H' a w hk h s
  cases ic <;> try (cases hk; done)
  rename_i p q
  simp only [okC, Bool.and_eq_true] at hk
  simp only [Zag] at h
  cases hp : Zag Γ cf (fun F => ZcT F m) Rf.H.length p e H with
  | none => rw [hp] at h; cases h
  | some r1 =>
   obtain ⟨x1, e1, H1⟩ := r1
   rw [hp] at h
   refine wp_seq (wp_mono (ihx p e H x1 e1 H1 a w hk.1 hp s) fun ex a' w' hq => ?_)
   cases x1 with
   | normal =>
    obtain ⟨h1, h2⟩ := hq
    cases h1
    exact ihy q e1 H1 r e' H' a' w' hk.2 h h2
   | exit i =>
    obtain ⟨h1, h2⟩ := hq
    cases h1
    cases h
    exact ⟨rfl, h2⟩
   | ret =>
    obtain ⟨h1, h2⟩ := hq
    cases h1
    cases h
    exact ⟨rfl, h2⟩
 | cond z u v ihu ihv =>
  intro ic e H r e' H' a w hk h s
  cases ic <;> try (cases hk; done)
  rename_i y p q
  simp only [okC, Bool.and_eq_true] at hk
  simp only [Zag] at h
  split at h
  ·rename_i t ht
   obtain ⟨R, x, ok, hH, hM, hE⟩ := s.ex
   have hv := Zn7 (x.gok c.ok.b01 c.g) hE hk.1
   rw [ht] at hv
   cases t with
   | true => exact wp_cond_true (Zuz hv) (ihu p e H r e' H' a w hk.2.1 h s)
   | false => exact wp_cond_false (Zuz hv) (ihv q e H r e' H' a w hk.2.2 h s)
  ·cases h
 | block id x ih =>
  intro ic e H r e' H' a w hk h s
  cases ic <;> try (cases hk; done)
  rename_i i p
  simp only [okC, Bool.and_eq_true] at hk
  obtain rfl := Nat.eq_of_beq_eq_true hk.1
  simp only [Zag] at h
  cases hp : Zag Γ cf (fun F => ZcT F m) Rf.H.length p e H with
  | none => rw [hp] at h; cases h
  | some r1 =>
   obtain ⟨x1, e1, H1⟩ := r1
   rw [hp] at h
   refine wp_block (wp_mono (ih p e H x1 e1 H1 a w hk.2 hp s) fun ex a' w' hq => ?_)
   obtain ⟨h1, h2⟩ := hq
   cases x1 with
   | normal => cases h1; cases h; exact ⟨rfl, h2⟩
   | ret => cases h1; cases h; exact ⟨rfl, h2⟩
   | exit j =>
    cases h1
    dsimp only at h
    show if j = i then _ else _
    cases hj : Nat.beq j i with
    | true =>
     rw [hj] at h
     cases h
     rw [if_pos (Nat.eq_of_beq_eq_true hj)]
     exact ⟨rfl, h2⟩
    | false =>
     rw [hj] at h
     cases h
     rw [if_neg (fun e => by subst e; rw [Nat.beq_refl] at hj; cases hj)]
     exact ⟨rfl, h2⟩
 | loop x ih =>
  intro ic e H r e' H' a w hk h s
  cases ic <;> try (cases hk; done)
  rename_i live outs p
  have hk' : okC P G N okD p x = true := hk
  simp only [Zag] at h
  cases hh : ZnK Rf.H.length (live.map e) H with
  | none => rw [hh] at h; cases h
  | some q =>
   obtain ⟨vs, H1⟩ := q
   rw [hh] at h
   dsimp only at h
   split at h
   ·rename_i x1 vs1 H2 hit
    simp only [Option.some.injEq, Prod.mk.injEq] at h
    obtain ⟨rfl, rfl, rfl⟩ := h
    have key : ∀ (n : Nat) (vs : List V) (H1 : Zm) (a : Act) (w : World), ZcT (fun vs H => Zee Rf.H.length live outs (Zag Γ cf (fun F => ZcT F m) Rf.H.length p (ZdS live vs) H)) n vs H1 = some (x1, vs1, H2) → Sim N Rf wf (ZdS live vs) H1 a w →
      Code.rounds P x (fun ex a' w' => ZAU x1 ex ∧ Sim N Rf wf (ZdS outs vs1) H2 a' w') n a w := by
     intro n
     induction n with
     | zero => intro vs H1 a w h _; cases h
     | succ n ihn =>
      intro vs H1 a w h s
      rw [rounds_succ]
      simp only [ZcT] at h
      cases hb : Zag Γ cf (fun F => ZcT F m) Rf.H.length p (ZdS live vs) H1 with
      | none => rw [hb] at h; cases h
      | some r1 =>
       obtain ⟨x2, e2, H3⟩ := r1
       rw [hb] at h
       refine wp_mono (ih p (ZdS live vs) H1 x2 e2 H3 a w hk' hb s) fun ex a' w' hq => ?_
       obtain ⟨h1, h2⟩ := hq
       cases x2 with
       | normal =>
        cases h1
        simp only [Zee] at h
        cases hd : ZnK Rf.H.length (live.map e2) H3 with
        | none => rw [hd] at h; cases h
        | some q =>
         obtain ⟨vs2, H4⟩ := q
         rw [hd] at h
         exact ihn vs2 H4 a' w' h (Zrl c h2 hd)
       | exit i =>
        cases h1
        simp only [Zee] at h
        cases hd : extract Rf.H.length (outs.map e2) H3 with
        | none => rw [hd] at h; cases h
        | some q =>
         obtain ⟨L, vs2, H4⟩ := q
         rw [hd] at h
         cases h
         exact ⟨rfl, Znr c h2 hd⟩
       | ret =>
        cases h1
        simp only [Zee] at h
        cases hd : extract Rf.H.length (outs.map e2) H3 with
        | none => rw [hd] at h; cases h
        | some q =>
         obtain ⟨L, vs2, H4⟩ := q
         rw [hd] at h
         cases h
         exact ⟨rfl, Znr c h2 hd⟩
    exact wp_loop_rounds m (key m vs H1 a w hit (Zrl c s hh))
   ·cases h
 | region id os d =>
  intro ic e H r e' H' a w hk h s
  cases d with
  | false =>
   cases ic <;> try (cases hk; done)
   rename_i l
   simp only [Zag] at h
   cases ho : Zhs Γ cf l e H with
   | none => rw [ho] at h; cases h
   | some q =>
    obtain ⟨e1, H1⟩ := q
    rw [ho] at h
    cases h
    exact wp_region_list (Zsf c os.toList l e H a w hk ho s fun a w s => ⟨rfl, s⟩)
  | true =>
   cases ic <;> try (cases hk; done)
   rename_i l
   simp only [Zag] at h
   cases ho : Zfa Γ cf [] l e H with
   | none => rw [ho] at h; cases h
   | some q =>
    obtain ⟨e1, H1⟩ := q
    rw [ho] at h
    cases h
    exact wp_mono (hD id os l Rf wf e H _ _ a w hk ho c s) fun ex a' w' hq => ⟨by rw [hq.1]; rfl, hq.2⟩
 | rangeFunc f ps x y ihx ihy =>
  intro ic e H r e' H' a w hk h s
  cases ic <;> cases hk
 | goto l =>
  intro ic e H r e' H' a w hk h s
  cases ic <;> cases hk
 | refuse why =>
  intro ic e H r e' H' a w hk h s
  cases ic <;> cases hk
end
end Go.Proofs.YtnmbdjkbaihicaaDoorE
namespace Go.Proofs.YtnmbdjkbaihicaaDoorE
open Go
set_option linter.unusedVariables false
set_option linter.unusedSimpArgs false
def ZpF (P : Program) : List ResultVar → List (Nat × Option (Nat × Bool)) → Bool
 | [], [] => true
 | .tmp t :: rs, (i, none) :: qs => Nat.beq t i && ZpF P rs qs
 | .cell a t :: rs, (i, some (n, ag)) :: qs => Nat.beq a i && (ZgA (ZgO P t) (fun b => b == ag) && (ZgA (ZfI P t) (fun m => Nat.beq m n) && ZpF P rs qs))
 | _, _ => false
def Zax (P : Program) (G : Zbr) (okD : Nat → Array Oper → List Op1 → Bool) (f : Nat) (fn : FnI) : Bool :=
 match P.funcs[f]? with
 | some F => Zih P f && (match F.body with | some c => okC P G F.ntmps (okD F.ntmps) fn.body c && ZpF P F.results.toList fn.res | none => false)
 | none => false
section
variable {P : Program} {G : Zbr} {R : RP} {w : World} {e : Env} {a : Act} {H1 : Zm}
theorem Zpl : ∀ (vs : List V) (i t : Nat), Zeq i vs t = if i ≤ t then (vs[t - i]?).getD .bad else .bad
 | [], i, t => by simp [Zeq, env0]
 | v :: vs, i, t => by
  simp only [Zeq, Env.set]
  cases hb : Nat.beq i t with
  | true =>
   obtain rfl := Nat.eq_of_beq_eq_true hb
   simp
  | false =>
   have hne : i ≠ t := fun h => by subst h; rw [Nat.beq_refl] at hb; cases hb
   simp only [cond_false]
   rw [Zpl vs (i + 1) t]
   by_cases h : i ≤ t
   ·rw [if_pos (by omega), if_pos h]
    have : t - i = (t - (i + 1)) + 1 := by omega
    rw [this, List.getElem?_cons_succ]
   ·rw [if_neg (by omega), if_neg h]
theorem Zxa {args : List V} {us : List Value} {n : Nat} (h : ZaE R w args us) : ZgP R w (Zeq 0 args) { tmps := us.toArray ++ Array.replicate n undef, defers := [] } := by
 intro t
 rw [Zpl, if_pos (Nat.zero_le _), Nat.sub_zero]
 cases hv : args[t]? with
 | none => exact trivial
 | some v =>
  obtain ⟨u, h1, h2⟩ := ZeV args us t v h hv
  have hlt := (List.getElem?_eq_some_iff.1 h1).1
  have : (us.toArray ++ Array.replicate n undef).getD t undef = u := by
   rw [Array.getD_eq_getD_getElem?, Array.getElem?_append_left (by simpa using hlt)]
   simp [h1]
  show ZaY R w ((some v).getD .bad) _
  rw [this]; exact h2
def Zm7 (tmps : Array Value) : ResultVar → Sem Value
 | .tmp t => pure (tmps.getD t undef)
 | .cell a t => do loadVar t (← asAddr (tmps.getD a undef))
theorem Zsp {t : TypeId} {u0 u : Value} (h : (Instr.loadAt t u0).run P w = .ok u w) : (do loadVar t (← asAddr u0) : Sem Value).run P w = .ok u w := by
 cases u0 <;> try (simp [Instr.loadAt, Instr.sureAddr] at h; done)
 rename_i ad
 cases ad with
 | none => simp [Instr.loadAt, Instr.sureAddr] at h
 | some ad => simpa [Instr.loadAt, Instr.sureAddr, asAddr] using h
theorem Zqv (pre : Pre G R w e a H1) : ∀ (rs : List ResultVar) (qs : List (Nat × Option (Nat × Bool))) (l : List V), ZpF P rs qs = true → ZkW e H1 qs = some l → ∃ us, (rs.mapM (Zm7 a.tmps)).run P w = .ok us w ∧ ZaE R w l us
 | [], [], l, _, h => by
  simp only [ZkW, Option.some.injEq] at h
  subst h
  exact ⟨[], rfl, rfl⟩
 | [], _ :: _, l, hk, _ => by cases hk
 | .tmp t :: rs, [], l, hk, _ => by cases hk
 | .cell b t :: rs, [], l, hk, _ => by cases hk
 | .tmp t :: rs, (i, some q) :: qs, l, hk, _ => by cases hk
 | .cell b t :: rs, (i, none) :: qs, l, hk, _ => by cases hk
 | .tmp t :: rs, (i, none) :: qs, l, hk, h => by
  simp only [ZpF, Bool.and_eq_true] at hk
  obtain rfl := Nat.eq_of_beq_eq_true hk.1
  simp only [ZkW] at h
  cases hr : ZkW e H1 qs with
  | none => rw [hr] at h; cases h
  | some l' =>
   rw [hr] at h
   simp only [Option.some.injEq] at h
   subst h
   obtain ⟨us, h1, h2⟩ := Zqv pre rs qs l' hk.2 hr
   refine ⟨a.tmps.getD t undef :: us, ?_, _, us, rfl, pre.env t, h2⟩
   rw [List.mapM_cons]
   simp [Zm7, h1]
 | .cell b t :: rs, (i, some (n, ag)) :: qs, l, hk, h => by
  simp only [ZpF, Bool.and_eq_true] at hk
  obtain ⟨k1, k2, k3, k4⟩ := hk
  obtain rfl := Nat.eq_of_beq_eq_true k1
  obtain ⟨b', h1, h2⟩ := ZaN k2
  obtain ⟨m, h3, h4⟩ := ZaN k3
  obtain rfl := Nat.eq_of_beq_eq_true h4
  obtain rfl : b' = ag := by simpa using h2
  simp only [ZkW] at h
  cases hl : Zc4 H1 m b' (e b) with
  | none => rw [hl] at h; cases h
  | some v =>
   cases hr : ZkW e H1 qs with
   | none => rw [hl, hr] at h; cases h
   | some l' =>
    rw [hl, hr] at h
    simp only [Option.some.injEq] at h
    subst h
    obtain ⟨u, f1, f2⟩ := ZtO pre h1 h3 (pre.env b) hl
    obtain ⟨us, g1, g2⟩ := Zqv pre rs qs l' k4 hr
    refine ⟨u :: us, ?_, u, us, rfl, f2, g2⟩
    have := Zsp f1
    rw [List.mapM_cons]
    simp only [Zm7, Sem.run_bind, g1]
    simp only [Sem.run_bind] at this
    rw [this]
    simp [g1]
theorem Zq8 {F : Func} {us : List Value} (h : (F.results.toList.mapM (Zm7 a.tmps)).run P w = .ok us w) : (results F a.tmps).run P w = .ok (if h : us.toArray.size = 1 then us.toArray[0] else .tuple us.toArray) w := by
 have hE : results F a.tmps = (F.results.mapM (Zm7 a.tmps) >>= fun vs => pure (if h : vs.size = 1 then vs[0] else .tuple vs)) := by
  unfold results
  congr 2
 have hm : (F.results.mapM (Zm7 a.tmps)).run P w = .ok us.toArray w := by
  rw [Array.mapM_eq_mapM_toList]
  simp [h]
 rw [hE, Sem.run_bind, hm]
 rfl
theorem Zui {l : List V} {us : List Value} (h : ZaE R w l us) : ZaY R w (ZgI l) (if h : us.toArray.size = 1 then us.toArray[0] else .tuple us.toArray) := by
 have hl := ZdP _ _ h
 by_cases h1 : us.length = 1
 ·obtain ⟨u, rfl⟩ := List.length_eq_one_iff.1 h1
  obtain ⟨v, rfl⟩ := List.length_eq_one_iff.1 (hl ▸ h1 : l.length = 1)
  obtain ⟨u', us', e1, e2, e3⟩ := h
  cases e1
  simpa [ZgI] using e2
 ·rw [dif_neg (by simpa using h1)]
  have : ZgI l = Zs3 l := by
   match l, hl with
   | [], _ => rfl
   | [v], hl => simp at hl; omega
   | _ :: _ :: _, _ => rfl
  rw [this]
  exact ZwW h
end
def ZsM (id : Nat) : FnI := ⟨2, .ops [⟨some 2, .spec id [.t 0, .t 1], none, [], 0⟩], [(2, none)]⟩
def ZoV (P : Program) (f : Nat) (fn : FnI) : Prop :=
 Zih P f = true ∧ ∃ id, fn = ZsM id ∧ ∀ (l : List D) (r : D) (R : RP) (w : World) (us : List Value), Zld id l = some r → R.OK w → R.H = [] → ZaE R w (ZcA l) us →
  Calls P f us.toArray w fun e w' => ∃ u, e = .returned u ∧ R.den w' r u ∧ Ext R w R w'
theorem ZuV {Γ : Ctx} {cf : Zbf} {It : (List V → Zm → Option Lp) → List V → Zm → Option (Ex × List V × Zm)} {f id : Nat} {args : List V} {H : Zm} {q : V × Zm} (hc : Γ.code f = some (ZsM id)) (h : ZjE Γ cf It f args H = some q) :
  ∃ l r, args = ZcA l ∧ H = [] ∧ Zld id l = some r ∧ q = (.d r, []) := by
 unfold ZjE at h
 rw [hc] at h
 dsimp only [ZsM] at h
 match args, h with
 | [], h => cases h
 | [x], h => cases h
 | _ :: _ :: _ :: _, h => cases h
 | [x, y], h =>
  cases H with
  | cons b H => cases h
  | nil =>
   have e : Zhs Γ cf [⟨some 2, .spec id [.t 0, .t 1], none, [], 0⟩] (Zeq 0 [x, y]) [] = (match Zks [x, y] with | some l => (match Zld id l with | some r => some ((Zeq 0 [x, y]).set 2 (.d r), []) | none => none) | none => none) := by
    have hv : vals (Zeq 0 [x, y]) [.t 0, .t 1] = [x, y] := rfl
    unfold Zhs
    simp only [Zfr, opE, hv]
    cases Zks [x, y] with
    | none => rfl
    | some l =>
     dsimp only
     cases Zld id l <;> rfl
   rw [show Zag Γ cf It (List.length ([] : Zm)) (.ops [⟨some 2, .spec id [.t 0, .t 1], none, [], 0⟩]) (Zeq 0 [x, y]) [] = (match Zhs Γ cf [⟨some 2, .spec id [.t 0, .t 1], none, [], 0⟩] (Zeq 0 [x, y]) [] with | some (e, H) => some (.normal, e, H) | none => none) from rfl, e] at h
   cases hl : Zks [x, y] with
   | none => rw [hl] at h; cases h
   | some l =>
    rw [hl] at h
    dsimp only at h
    cases hr : Zld id l with
    | none => rw [hr] at h; cases h
    | some r => rw [hr] at h; exact ⟨l, r, ZkE hl, rfl, hr, (Option.some.inj h).symm⟩
theorem Zzl {P : Program} {G : Zbr} {Γ : Ctx} {cf : Zbf} {okD : Nat → Array Oper → List Op1 → Bool} (hcf : ZfA P G cf) (hD : ∀ N, Zpi P G N Γ cf (okD N)) (hall : ∀ f fn, Γ.code f = some fn → Zax P G okD f fn = true ∨ ZoV P f fn) (m : Nat) :
  ZfA P G (ZjE Γ cf fun F => ZcT F m) := by
 intro f args H v H' h
 unfold ZjE at h
 cases hc : Γ.code f with
 | none => rw [hc] at h; cases h
 | some fn =>
  rw [hc] at h
  dsimp only at h
  cases hn : Nat.beq args.length fn.nargs with
  | false => rw [hn] at h; cases h
  | true =>
   rw [hn] at h
   simp only [cond_true] at h
   rcases hall f fn hc with hok | ⟨k1, id, rfl, hs⟩
   case inr =>
    have hq : ZjE Γ cf (fun F => ZcT F m) f args H = some (v, H') := by
     unfold ZjE
     rw [hc]
     dsimp only
     rw [hn]
     simp only [cond_true]
     exact h
    obtain ⟨l, r, rfl, rfl, hr, hv⟩ := ZuV hc hq
    cases hv
    refine ⟨k1, fun R w us ok g hH hM ha => (hs l r R w us hr ok hH ha).mono ?_⟩
    rintro e w' ⟨u, he, hd, hx⟩
    refine ⟨u, he, R, hx, ⟨ok.b01, ?_, ?_, ?_, ?_, ?_, fun c hb => Nat.lt_of_lt_of_le (ok.bl c hb) hx.grow⟩, hH, hd, hM, by rw [hH]; exact Nat.le_refl _⟩
    ·intro i blk hb; rw [hH] at hb; simp at hb
    ·intro i j c hi; rw [hH] at hi; simp [Z3, nth] at hi
    ·intro i c hm; rw [hM i (Nat.zero_le _)] at hm; cases hm
    ·intro i m blk hb; rw [hH] at hb; simp at hb
    ·intro i c hi; rw [hH] at hi; simp [Z3, nth] at hi
   unfold Zax at hok
   cases hF : P.funcs[f]? with
   | none => rw [hF] at hok; cases hok
   | some F =>
    rw [hF] at hok
    simp only [Bool.and_eq_true] at hok
    obtain ⟨k1, k2⟩ := hok
    refine ⟨k1, fun R w us ok g hH hM ha => ?_⟩
    cases hb : F.body with
    | none => rw [hb] at k2; cases k2
    | some c =>
     rw [hb] at k2
     simp only [Bool.and_eq_true] at k2
     cases hx : Zag Γ cf (fun F => ZcT F m) H.length fn.body (Zeq 0 args) H with
     | none => rw [hx] at h; cases h
     | some q =>
      obtain ⟨r, e1, H1⟩ := q
      rw [hx] at h
      subst hH
      have fc : Zmc P G cf R w := ⟨hcf, ok, g, hM⟩
      have s : Sim F.ntmps R w (Zeq 0 args) R.H { tmps := us.toArray ++ Array.replicate (F.ntmps - us.toArray.size) undef, defers := [] } w :=
       ⟨⟨R, Ext.refl R w, ok, rfl, hM, Zxa ha⟩, by simp; omega, rfl, Nat.le_refl _⟩
      refine calls_of_wp hF hb (wp_mono (ZxB fc (hD F.ntmps) m c fn.body _ _ r e1 H1 _ w k2.1 hx s) fun ex a' w' hq => ?_)
      obtain ⟨h1, h2⟩ := hq
      have fin : (match ZkW e1 H1 fn.res with | some l => (match extract R.H.length [ZgI l] H1 with | some (_, [v], H2) => some (v, H2) | _ => none) | none => none) = some (v, H') → a'.defers = [] ∧ ∃ u, (results F a'.tmps).run P w' = .ok u w' ∧ ∃ u', Ending.returned u = .returned u' ∧ Ret R w v H' u' w' := by
       intro h
       cases hr : ZkW e1 H1 fn.res with
       | none => rw [hr] at h; cases h
       | some l =>
        rw [hr] at h
        dsimp only at h
        obtain ⟨R1, x1, ok1, hH1, hM1, hE1⟩ := h2.ex
        have pre : Pre G R1 w' e1 a' H1 := ⟨ok1, x1.gok ok.b01 g, hE1, fun b blk hb' _ => by rw [hH1]; exact hb'⟩
        obtain ⟨us', f1, f2⟩ := Zqv pre F.results.toList fn.res l k2.2 hr
        split at h
        ·rename_i L v2 H2 hex
         cases h
         obtain ⟨R2, x2, ok2, hH2, hM2, hv2, hl2⟩ := Zkz fc x1 ok1 hH1 hM1 h2.hl hex
         obtain ⟨u2, us2, e2, e3, _⟩ := hv2 _ ⟨_, [], rfl, Zui f2, rfl⟩
         cases e2
         exact ⟨h2.df, _, Zq8 f1, _, rfl, R2, x2, ok2, hH2, e3, hM2, hl2⟩
        ·cases h
      cases r with
      | normal => cases h1; exact fin h
      | ret => cases h1; exact fin h
      | exit i => cases h
theorem Zsn {P : Program} {G : Zbr} {Γ : Ctx} {okD : Nat → Array Oper → List Op1 → Bool} (hD : ∀ cf N, ZfA P G cf → Zpi P G N Γ cf (okD N)) (hall : ∀ f fn, Γ.code f = some fn → Zax P G okD f fn = true ∨ ZoV P f fn) : ∀ n, ZfA P G (evN Γ n)
 | 0 => fun f args H v H' h => by cases h
 | n + 1 => Zzl (Zsn hD hall n) (fun N => hD _ N (Zsn hD hall n)) hall n
theorem ZzM {P : Program} {G : Zbr} {Γ : Ctx} {okD : Nat → Array Oper → List Op1 → Bool} (hD : ∀ cf N, ZfA P G cf → Zpi P G N Γ cf (okD N)) (hall : ∀ f fn, Γ.code f = some fn → Zax P G okD f fn = true ∨ ZoV P f fn) : ZfA P G (evW Γ) := by
 intro f args H v H' h
 obtain ⟨n, hn⟩ := (ZhW Γ f args H (v, H')).1 h
 exact Zsn hD hall n f args H v H' hn
end Go.Proofs.YtnmbdjkbaihicaaDoorE
namespace Go.Proofs.YtnmbdjkbaihicaaDoorE
open Go
set_option linter.unusedVariables false
set_option linter.unusedSimpArgs false
def Zv2 (x : Option Opd) : List Opd := match x with | some y => [y] | none => []
def Ztm : O → List Opd
 | .mov x => [x]
 | .pick c a b => [c, a, b]
 | .alloc z => []
 | .box x => [x]
 | .build z ps => ps.map (·.2.2)
 | .bslice sz z len ps => ps.map (·.2)
 | .load n ag x => [x]
 | .store n x v => [x, v]
 | .nilck x => [x]
 | .bin op x y => [x, y]
 | .eqv ks neg x y => [x, y]
 | .un op x => [x]
 | .conv k x => [x]
 | .mkfn f caps => caps
 | .mkslice sz z n c => [n, c]
 | .slice sz x lo hi mx => x :: (Zv2 lo ++ (Zv2 hi ++ Zv2 mx))
 | .faddr off x => [x]
 | .field off n ag x => [x]
 | .iaddr sz x i => [x, i]
 | .index len sz ag x i => [x, i]
 | .indexS x i => [x, i]
 | .iaddrA len sz x i => [x, i]
 | .len x => [x]
 | .append sz x y => [x, y]
 | .appendD sz x y => [x, y]
 | .mx isMax xs => xs
 | .extract x i => [x]
 | .mkif t x => [x]
 | .call f args => args
 | .callv x args => x :: args
 | .invoke tab x args => x :: args
 | .mkmap => []
 | .mapset _ m k v => [m, k, v]
 | .mapget _ _ m k => [m, k]
 | .panic => []
 | .callk _ args _ => args
 | .nilq x => [x]
 | .spec _ args => args
theorem ZeX {e e' : Env} : ∀ (l : List Opd), (∀ y ∈ l, y.val e = y.val e') → vals e l = vals e' l
 | [], _ => rfl
 | y :: l, h => by
  simp only [vals]
  rw [h y (by simp), ZeX l (fun z hz => h z (by simp [hz]))]
theorem Zlo {e e' : Env} {x : Option Opd} (h : ∀ y ∈ Zv2 x, y.val e = y.val e') : x.map (·.val e) = x.map (·.val e') := by
 cases x with
 | none => rfl
 | some y => simp only [Option.map_some]; rw [h y (by simp [Zv2])]
theorem Zuc {Γ : Ctx} {cf : Zbf} {e e' : Env} {nid : Nat} {H : Zm} : ∀ (op : O), (∀ y ∈ Ztm op, y.val e = y.val e') → opE Γ cf e nid H op = opE Γ cf e' nid H op := by
 intro op h
 cases op <;> simp only [Ztm, List.mem_cons, List.not_mem_nil, or_false, forall_eq_or_imp, forall_eq, List.mem_append] at h
 case build z ps =>
  simp only [opE]
  have : (ps.map fun (o, s, x) => (o, s, x.val e)) = ps.map fun (o, s, x) => (o, s, x.val e') := by
   apply List.map_congr_left
   rintro ⟨o, s, x⟩ hx
   simp only [h x (List.mem_map.2 ⟨_, hx, rfl⟩)]
  rw [this]
 case bslice sz z len ps =>
  simp only [opE]
  have : (ps.map fun (i, x) => (i, x.val e)) = ps.map fun (i, x) => (i, x.val e') := by
   apply List.map_congr_left
   rintro ⟨i, x⟩ hx
   simp only [h x (List.mem_map.2 ⟨_, hx, rfl⟩)]
  rw [this]
 case mkfn f caps =>
  cases caps with
  | nil => rfl
  | cons c cs => show ZcM (.fn f (vals e (c :: cs))) = ZcM (.fn f (vals e' (c :: cs))); rw [ZeX (c :: cs) h]
 case spec id args => simp only [opE]; rw [ZeX args h]
 case mx b xs => simp only [opE]; rw [ZeX xs h]
 case call f args => simp only [opE]; rw [ZeX args h]
 case callk f args chk => simp only [opE]; rw [ZeX args h]
 case callv x args => rw [Zf7, Zf7, h.1, ZeX args h.2]
 case invoke tab x args => rw [Zfz, Zfz, h.1, ZeX args h.2]
 case slice sz x lo hi mx =>
  simp only [opE]
  rw [h.1, Zlo (x := lo) (fun y hy => h.2 y (.inl hy)), Zlo (x := hi) (fun y hy => h.2 y (.inr (.inl hy))), Zlo (x := mx) (fun y hy => h.2 y (.inr (.inr hy)))]
 all_goals (first | rfl | (simp only [opE]; simp only [h]; done) | (simp only [opE, h.1, h.2]; done) | (simp only [opE]; rw [h]; done) | skip)
def ZuD : O → Bool
 | .mov _ => true
 | .pick _ _ _ => true
 | .build _ _ => true
 | .bin _ _ _ => true
 | .eqv _ _ _ _ => true
 | .un _ _ => true
 | .conv _ _ => true
 | .mkfn _ _ => true
 | .field _ _ _ _ => true
 | .index _ _ _ _ _ => true
 | .indexS _ _ => true
 | .mx _ _ => true
 | .extract _ _ => true
 | .nilck _ => true
 | .faddr _ _ => true
 | _ => false
theorem ZxD {Γ : Ctx} {cf : Zbf} {e : Env} {nid nid' : Nat} {H H' : Zm} {op : O} (h : ZuD op = true) : opE Γ cf e nid H op = opE Γ cf e nid' H' op := by
 cases op <;> first | rfl | (cases h; done)
def Zus : O → Bool
 | .slice _ _ _ _ _ => true
 | .faddr _ _ => true
 | .iaddr _ _ _ => true
 | .iaddrA _ _ _ _ => true
 | .len _ => true
 | _ => false
def Zkp (H H' : Zm) : Prop := ∀ b blk, nth H b = some blk → blk ≠ .dead → ∃ blk', nth H' b = some blk' ∧ blk.like blk'
section
variable {H H' : Zm}
theorem Zkp.arr (h : Zkp H H') {b sz : Nat} {xs : List D} (hb : nth H b = some (.arr sz xs)) : ∃ ys, nth H' b = some (.arr sz ys) ∧ ys.length = xs.length := by
 obtain ⟨blk', h1, h2⟩ := h b _ hb (by simp)
 cases blk' <;> simp [Blk.like] at h2
 obtain ⟨rfl, h2⟩ := h2
 exact ⟨_, h1, h2⟩
theorem Zkp.cells (h : Zkp H H') {b : Nat} {cs : List V} (hb : nth H b = some (.cells cs)) : ∃ ds, nth H' b = some (.cells ds) := by
 obtain ⟨blk', h1, h2⟩ := h b _ hb (by simp)
 cases blk' <;> simp [Blk.like] at h2
 exact ⟨_, h1⟩
theorem ZoA (h : Zkp H H') {x : V} {xs : List D} (he : elems H x = some xs) : ∃ ys, elems H' x = some ys ∧ ys.length = xs.length ∧ ∀ own zs, x = .d (.list own zs) → ys = xs := by
 unfold elems at he
 split at he
 ·cases he; exact ⟨_, rfl, rfl, fun _ _ _ => rfl⟩
 ·rename_i b sz
  cases hb : nth H b with
  | none => rw [hb] at he; cases he
  | some blk =>
   rw [hb] at he
   cases blk <;> try (cases he; done)
   rename_i sz' xs'
   obtain ⟨ys, h1, h2⟩ := h.arr hb
   dsimp only at he
   cases hs : Nat.beq sz sz' with
   | false => rw [hs] at he; cases he
   | true =>
    rw [hs] at he
    cases he
    exact ⟨ys, by simp only [elems, h1, hs, cond_true], h2, fun _ _ h => by cases h⟩
 ·rename_i b sz o len
  cases hb : nth H b with
  | none => rw [hb] at he; cases he
  | some blk =>
   rw [hb] at he
   cases blk <;> try (cases he; done)
   rename_i sz' xs'
   obtain ⟨ys, h1, h2⟩ := h.arr hb
   dsimp only at he
   cases hs : Nat.beq sz sz' with
   | false => rw [hs] at he; cases he
   | true =>
    rw [hs] at he
    cases he
    exact ⟨(ys.drop o).take len, by simp only [elems, h1, hs, cond_true], by simp [h2], fun _ _ h => by cases h⟩
 ·cases he; exact ⟨[], rfl, rfl, fun _ _ h => by cases h⟩
 ·cases he
theorem Zo0 (h : Zkp H H') {off : Nat} {x v : V} (hf : Zi2 H off x = some v) : Zi2 H' off x = some v := hf
theorem Zq0 (h : Zkp H H') {len sz : Nat} {x i v : V} (hf : ZfO H len sz x i = some v) : ZfO H' len sz x i = some v := by
 unfold ZfO at hf ⊢
 split at hf
 ·rename_i k m
  cases hc : (decide (0 ≤ m) && decide (m < len)) with
  | false => rw [hc] at hf; cases hf
  | true =>
   rw [hc] at hf
   exact Zo0 h hf
 ·cases hf
theorem ZvA (h : Zkp H H') {x : V} {r : D} (hf : ZqF H x = some r) : ZqF H' x = some r := by
 unfold ZqF at hf ⊢
 cases he : elems H x with
 | none => rw [he] at hf; cases hf
 | some xs =>
  rw [he] at hf
  obtain ⟨ys, h1, h2, _⟩ := ZoA h he
  rw [h1]
  cases hf
  simp only [h2]
theorem Zrm {α : Type} {xs ys : List α} {i : Int} {x : α} (hl : ys.length = xs.length) (h : ZA xs i = some x) : ∃ y, ZA ys i = some y := by
 obtain ⟨h0, h1, _⟩ := ZnZ xs i x h
 have hlt : i.toNat < ys.length := by omega
 refine ⟨ys[i.toNat], ?_⟩
 unfold ZA
 simp only [h0, decide_true, cond_true, ZV]
 exact List.getElem?_eq_getElem hlt
theorem ZsB (h : Zkp H H') {sz : Nat} {x i v : V} (hf : Zht H sz x i = some v) : Zht H' sz x i = some v := by
 unfold Zht at hf ⊢
 split at hf
 ·rename_i k m
  split at hf
  ·exact hf
  ·rename_i b sz'
   cases hb : nth H b with
   | none => rw [hb] at hf; cases hf
   | some blk =>
    rw [hb] at hf
    cases blk <;> try (cases hf; done)
    rename_i sz'' xs
    obtain ⟨ys, h1, h2⟩ := h.arr hb
    rw [h1]
    dsimp only at hf ⊢
    cases hs : (Nat.beq sz sz' && Nat.beq sz sz'') with
    | false => rw [hs] at hf; cases hf
    | true =>
     rw [hs] at hf
     simp only [cond_true] at hf ⊢
     cases hg : ZA xs m with
     | none => rw [hg] at hf; cases hf
     | some z =>
      rw [hg] at hf
      obtain ⟨y, hy⟩ := Zrm h2 hg
      rw [hy]; exact hf
  ·rename_i b sz' o len
   cases hb : nth H b with
   | none => rw [hb] at hf; cases hf
   | some blk =>
    rw [hb] at hf
    cases blk <;> try (cases hf; done)
    rename_i sz'' xs
    obtain ⟨ys, h1, h2⟩ := h.arr hb
    rw [h1]
    dsimp only at hf ⊢
    cases hs : (Nat.beq sz sz' && Nat.beq sz sz'') with
    | false => rw [hs] at hf; cases hf
    | true =>
     rw [hs] at hf
     simp only [cond_true] at hf ⊢
     cases hg : ZA ((xs.drop o).take len) m with
     | none => rw [hg] at hf; cases hf
     | some z =>
      rw [hg] at hf
      obtain ⟨y, hy⟩ := Zrm (ys := (ys.drop o).take len) (by simp [h2]) hg
      rw [hy]; exact hf
  ·cases hf
 ·cases hf
theorem Zsh (h : Zkp H H') {sz : Nat} {x v : V} {lo hi mx : Option V} (hf : Zhn H sz x lo hi mx = some v) : Zhn H' sz x lo hi mx = some v := by
 unfold Zhn at hf ⊢
 cases he : elems H x with
 | none => rw [he] at hf; cases hf
 | some xs =>
  rw [he] at hf
  obtain ⟨ys, h1, h2, h3⟩ := ZoA h he
  rw [h1]
  dsimp only at hf ⊢
  rw [h2]
  cases hl : ZgT lo 0 with
  | none => rw [hl] at hf; cases hf
  | some l =>
   rw [hl] at hf
   cases hh : ZgT hi xs.length with
   | none => rw [hh] at hf; cases hf
   | some n =>
    rw [hh] at hf
    dsimp only at hf ⊢
    cases hc : (Nat.ble l n && Nat.ble n xs.length) with
    | false => rw [hc] at hf; cases hf
    | true =>
     rw [hc] at hf
     simp only [cond_true] at hf ⊢
     cases mx with
     | some m => exact hf
     | none =>
      dsimp only at hf ⊢
      split at hf
      ·rename_i own zs
       rw [h3 own zs rfl]; exact hf
      ·exact hf
      ·exact hf
      ·exact hf
      ·cases hf
theorem ZxM (h : Zkp H H') {Γ : Ctx} {cf : Zbf} {e : Env} {nid nid' : Nat} {op : O} {r : V × List (Nat × Blk) × List Blk} (hc : Zus op = true) (ho : opE Γ cf e nid H op = some r) : opE Γ cf e nid' H' op = some r := by
 cases op <;> first | (cases hc; done) | skip
 case slice sz x lo hi mx =>
  simp only [opE] at ho ⊢
  cases hf : Zhn H sz (x.val e) (lo.map (·.val e)) (hi.map (·.val e)) (mx.map (·.val e)) with
  | none => rw [hf] at ho; cases ho
  | some v => rw [hf] at ho; rw [Zsh h hf]; exact ho
 case faddr off x =>
  simp only [opE] at ho ⊢
  cases hf : Zi2 H off (x.val e) with
  | none => rw [hf] at ho; cases ho
  | some v => rw [hf] at ho; rw [Zo0 h hf]; exact ho
 case iaddr sz x i =>
  simp only [opE] at ho ⊢
  cases hf : Zht H sz (x.val e) (i.val e) with
  | none => rw [hf] at ho; cases ho
  | some v => rw [hf] at ho; rw [ZsB h hf]; exact ho
 case iaddrA len sz x i =>
  simp only [opE] at ho ⊢
  cases hf : ZfO H len sz (x.val e) (i.val e) with
  | none => rw [hf] at ho; cases ho
  | some v => rw [hf] at ho; rw [Zq0 h hf]; exact ho
 case len x =>
  simp only [opE] at ho ⊢
  cases hf : ZqF H (x.val e) with
  | none => rw [hf] at ho; cases ho
  | some v => rw [hf] at ho; rw [ZvA h hf]; exact ho
end
end Go.Proofs.YtnmbdjkbaihicaaDoorE
namespace Go.Proofs.YtnmbdjkbaihicaaDoorE
open Go
set_option linter.unusedVariables false
set_option linter.unusedSimpArgs false
def Zni (o : Oper) : List Nat := (o.after.toList.filter (Region.binds .any)).map (·.on)
def tb (b i : Nat) : Bool := !(Nat.beq (Nat.land (Nat.shiftRight b i) 1) 0)
def ZnB (acc : List Nat) : List Nat → Nat
 | [] => 0
 | i :: l => Nat.lor (Nat.lor (Nat.shiftLeft 1 i) (match nth acc i with | some b => b | none => 0)) (ZnB acc l)
def Zh7 (acc : List Nat) : List Oper → List Nat
 | [] => acc
 | o :: os => Zh7 (acc ++ [ZnB acc (Zni o)]) os
def Zmw (os : List Oper) : List Nat := Zh7 [] os
theorem ZsX (b i : Nat) : tb b i = b.testBit i := by
 unfold tb Nat.testBit
 rw [show Nat.land (Nat.shiftRight b i) 1 = 1 &&& (b >>> i) from Nat.and_comm _ _]
 cases h : (1 &&& b >>> i) with
 | zero => rfl
 | succ n => rfl
theorem Zn4 (acc : List Nat) (k : Nat) : ∀ (l : List Nat), tb (ZnB acc l) k = true → ∃ i ∈ l, k = i ∨ ∃ b, acc[i]? = some b ∧ tb b k = true
 | [], h => by rw [ZsX] at h; simp [ZnB] at h
 | i :: l, h => by
  rw [ZsX] at h
  change ((1 <<< i ||| (match nth acc i with | some b => b | none => 0)) ||| ZnB acc l).testBit k = true at h
  rw [Nat.testBit_or, Nat.testBit_or, Bool.or_eq_true, Bool.or_eq_true] at h
  rcases h with (h | h) | h
  ·rw [Nat.testBit_shiftLeft] at h
   simp only [Bool.and_eq_true, decide_eq_true_eq, Nat.testBit_one_eq_true_iff_self_eq_zero] at h
   exact ⟨i, by simp, .inl (by omega)⟩
  ·cases ha : nth acc i with
   | none => rw [ha] at h; simp at h
   | some b => rw [ha] at h; exact ⟨i, by simp, .inr ⟨b, by rw [← ZV]; exact ha, by rw [ZsX]; exact h⟩⟩
  ·obtain ⟨j, h1, h2⟩ := Zn4 acc k l (by rw [ZsX]; exact h)
   exact ⟨j, by simp [h1], h2⟩
theorem ZjO : ∀ (os : List Oper) (acc : List Nat), (Zh7 acc os).length = acc.length + os.length ∧ (∀ i, i < acc.length → (Zh7 acc os)[i]? = acc[i]?) ∧
  ∀ (j : Nat) o, os[j]? = some o → (Zh7 acc os)[acc.length + j]? = some (ZnB ((Zh7 acc os).take (acc.length + j)) (Zni o))
 | [], acc => ⟨rfl, fun _ _ => rfl, fun j o h => by simp at h⟩
 | o :: os, acc => by
  obtain ⟨h1, h2, h3⟩ := ZjO os (acc ++ [ZnB acc (Zni o)])
  simp only [Zh7]
  rw [List.length_append, List.length_singleton] at h1 h2 h3
  refine ⟨by rw [h1, List.length_cons]; omega, fun i hi => ?_, fun j o' hj => ?_⟩
  ·rw [h2 i (by omega), List.getElem?_append_left hi]
  ·cases j with
   | zero =>
    simp at hj; subst hj
    have htake : (Zh7 (acc ++ [ZnB acc (Zni o)]) os).take (acc.length + 0) = acc := by
     apply List.ext_getElem?
     intro i
     rw [List.getElem?_take]
     by_cases hi : i < acc.length
     ·rw [if_pos (by omega), h2 i (by omega), List.getElem?_append_left hi]
     ·rw [if_neg (by omega), List.getElem?_eq_none (by omega)]
    rw [htake, Nat.add_zero, h2 acc.length (by omega), List.getElem?_append_right (Nat.le_refl _)]
    simp
   | succ j =>
    have e1 := h3 j o' (by simpa using hj)
    rw [show acc.length + 1 + j = acc.length + (j + 1) by omega] at e1
    exact e1
theorem Zuk {os : List Oper} {j k b : Nat} {o : Oper} (ho : os[j]? = some o) (hb : (Zmw os)[j]? = some b) (h : tb b k = true) : ∃ i ∈ Zni o, k = i ∨ (i < j ∧ ∃ b', (Zmw os)[i]? = some b' ∧ tb b' k = true) := by
 obtain ⟨_, _, h3⟩ := ZjO os []
 have e := h3 j o ho
 simp only [List.length_nil, Nat.zero_add] at e
 rw [show Zh7 [] os = Zmw os from rfl, hb] at e
 cases e
 obtain ⟨i, h1, h2⟩ := Zn4 _ k _ h
 refine ⟨i, h1, ?_⟩
 rcases h2 with h2 | ⟨b', f1, f2⟩
 ·exact .inl h2
 ·rw [List.getElem?_take] at f1
  by_cases hi : i < j
  ·rw [if_pos hi] at f1
   exact .inr ⟨hi, b', f1, f2⟩
  ·rw [if_neg hi] at f1; cases f1
structure Zct where
 E : Nat → Env
 HH : Nat → Zm
 W : Nat → Bool
 VV : Nat → V
 UP : Nat → List (Nat × Blk)
 NW : Nat → List Blk
def Zct.pos (t : Zct) (j : Nat) : List (Nat × Nat) := (List.range j).map fun i => ((t.HH i).length, (t.NW i).length)
structure Zct.OK (t : Zct) (Γ : Ctx) (cf : Zbf) (p0 : List (Nat × Nat)) (l : List Op1) (e : Env) (H : Zm) (e' : Env) (H' : Zm) : Prop where
 e0 : t.E 0 = e
 h0 : t.HH 0 = H
 e1 : t.E l.length = e'
 h1 : t.HH l.length = H'
 w : ∀ (j : Nat) p, l[j]? = some p → Zfr (t.E j) p.guard = some (t.W j)
 e : ∀ (j : Nat) p, l[j]? = some p → t.E (j + 1) = Zpq (t.E j) p.dst (t.VV j)
 h : ∀ (j : Nat) p, l[j]? = some p → t.HH (j + 1) = ZdY (t.HH j) (t.UP j) ++ t.NW j
 y : ∀ (j : Nat) p, l[j]? = some p → t.W j = true → opE Γ cf (t.E j) (t.HH j).length (ZfL (t.HH j) (p0 ++ t.pos j) p.mask) p.op = some (t.VV j, t.UP j, t.NW j) ∧ Zok (t.E j) (t.HH j) p (t.UP j) (t.NW j) = true
 n : ∀ (j : Nat) p, l[j]? = some p → t.W j = false → t.VV j = .d (.tup []) ∧ t.UP j = [] ∧ t.NW j = []
def Zip {α : Type} (a : α) (f : Nat → α) : Nat → α
 | 0 => a
 | n + 1 => f n
theorem Zoq {Γ : Ctx} {cf : Zbf} : ∀ (l : List Op1) (p0 : List (Nat × Nat)) (e : Env) (H : Zm) (e' : Env) (H' : Zm), Zfa Γ cf p0 l e H = some (e', H') → ∃ t : Zct, t.OK Γ cf p0 l e H e' H'
 | [], p0, e, H, e', H', h => by
  simp only [Zfa, Option.some.injEq, Prod.mk.injEq] at h
  obtain ⟨rfl, rfl⟩ := h
  exact ⟨⟨fun _ => e, fun _ => H, fun _ => false, fun _ => .bad, fun _ => [], fun _ => []⟩, rfl, rfl, rfl, rfl, by simp, by simp, by simp, by simp, by simp⟩
 | o :: l, p0, e, H, e', H', h => by
  simp only [Zfa] at h
  have step : ∀ (b : Bool) (v : V) (up : List (Nat × Blk)) (nw : List Blk), Zfr e o.guard = some b → Zfa Γ cf (p0 ++ [(H.length, nw.length)]) l (Zpq e o.dst v) (ZdY H up ++ nw) = some (e', H') →
    (b = true → opE Γ cf e H.length (ZfL H p0 o.mask) o.op = some (v, up, nw) ∧ Zok e H o up nw = true) → (b = false → v = .d (.tup []) ∧ up = [] ∧ nw = []) → ∃ t : Zct, t.OK Γ cf p0 (o :: l) e H e' H' := by
   intro b v up nw hw hr hy hn
   obtain ⟨t, ht⟩ := Zoq l _ _ _ e' H' hr
   refine ⟨⟨Zip e t.E, Zip H t.HH, Zip b t.W, Zip v t.VV, Zip up t.UP, Zip nw t.NW⟩, rfl, rfl, ht.e1, ht.h1, ?_, ?_, ?_, ?_, ?_⟩
   ·intro j p hj
    cases j with
    | zero => simp at hj; subst hj; exact hw
    | succ j => exact ht.w j p (by simpa using hj)
   ·intro j p hj
    cases j with
    | zero => simp at hj; subst hj; exact ht.e0
    | succ j => exact ht.e j p (by simpa using hj)
   ·intro j p hj
    cases j with
    | zero => simp at hj; subst hj; exact ht.h0
    | succ j => exact ht.h j p (by simpa using hj)
   ·intro j p hj hwj
    cases j with
    | zero =>
     simp at hj; subst hj
     have := hy hwj
     simpa [Zct.pos, Zip] using this
    | succ j =>
     have := ht.y j p (by simpa using hj) hwj
     have hpos : p0 ++ Zct.pos ⟨Zip e t.E, Zip H t.HH, Zip b t.W, Zip v t.VV, Zip up t.UP, Zip nw t.NW⟩ (j + 1) = p0 ++ [(H.length, nw.length)] ++ t.pos j := by
      unfold Zct.pos
      rw [List.range_succ_eq_map, List.map_cons, List.map_map, List.append_assoc]
      rfl
     rw [hpos]
     exact this
   ·intro j p hj hwj
    cases j with
    | zero => exact hn hwj
    | succ j => exact ht.n j p (by simpa using hj) hwj
  cases hw : Zfr e o.guard with
  | none => rw [hw] at h; cases h
  | some b =>
   rw [hw] at h
   cases b with
   | false =>
    exact step false (.d (.tup [])) [] [] hw (by simpa [ZdY] using h) (fun h => by cases h) (fun _ => ⟨rfl, rfl, rfl⟩)
   | true =>
    dsimp only at h
    cases ho : opE Γ cf e H.length (ZfL H p0 o.mask) o.op with
    | none => rw [ho] at h; cases h
    | some q =>
     obtain ⟨v, up, nw⟩ := q
     rw [ho] at h
     dsimp only at h
     cases hb : Zok e H o up nw with
     | false => rw [hb] at h; cases h
     | true =>
      rw [hb] at h
      exact step true v up nw hw h (fun _ => ⟨ho, hb⟩) (fun h => by cases h)
end Go.Proofs.YtnmbdjkbaihicaaDoorE
namespace Go.Proofs.YtnmbdjkbaihicaaDoorE
open Go
set_option linter.unusedVariables false
set_option linter.unusedSimpArgs false
def ZaG (p : Op1) : Nat := match p.eff with | 0 => bif ZuD p.op then 0 else bif Zus p.op then 1 else 2 | 1 => 1 | 3 => 3 | _ => 4
def Zr9 (p : Op1) : Bool := match p.eff with | 3 => (match p.op with | .store _ _ _ => true | .append _ _ _ => true | _ => false) | _ => true
def Zss (p : Op1) : Bool := match p.eff with | 1 => (match p.op, p.guard with | .load 1 false (.t _), none => true | _, _ => false) | _ => true
def ZvU : List Opd → Nat → Bool
  | [], _ => false
  | .t i :: l, s => Nat.beq i s || ZvU l s
  | _ :: l, s => ZvU l s
def Zv0 (p q : Op1) : Bool := match p.op, q.op with | .callk _ _ chk, .load _ _ (.t s) => ZvU chk s | _, _ => false
def Zwa : Opd → Option Nat
  | .t i => some i
  | .c _ => none
def Zc6 (p : Op1) : List Nat := (Ztm p.op).filterMap Zwa ++ (match p.guard with | some (s, _) => [s] | none => [])
structure Row where
  p : Op1
  c : Nat
  s : List Nat
  b : Nat
def ZsE (i : Nat) (p : Row) (j : Nat) (q : Row) : Bool :=
  Nat.ble p.c 2 || (Nat.beq i j || (tb q.b i || (tb p.b j || (Nat.beq q.c 0 || ((Nat.beq q.c 1 && (Nat.beq p.c 3 && !(Nat.beq q.p.eff 1))) || (Nat.beq q.p.eff 1 && (Nat.blt j i && Zv0 p.p q.p)))))))
def Zx9 (p q : Op1) : Bool := match p.dst, q.dst with | some a, some b => !(Nat.beq a b) | _, _ => true
def ZnW (i : Nat) (p q : Row) : Bool := Zx9 p.p q.p && (Nat.ble 3 q.c || (tb q.b i || Zh8 q.p.mask i))
def Zqq (i : Nat) (p : Row) (j : Nat) (q : Row) : Bool := match p.p.dst with | some d => tb q.b i || (!(Zh8 q.s d) || (tb p.b j || Nat.beq i j)) | none => true
def ZsF (i : Nat) (p : Row) (j : Nat) (q : Row) : Bool := !(Nat.beq q.p.eff 1) || (Nat.blt i j || (match p.p.dst with | some d => !(Zh8 q.s d) | none => true))
def Zt2 {α : Type} (f : Nat → α → Bool) : Nat → List α → Bool
  | _, [] => true
  | i, a :: l => f i a && Zt2 f (i + 1) l
theorem Zgc {α : Type} {f : Nat → α → Bool} : ∀ (l : List α) (k : Nat), Zt2 f k l = true → ∀ (i : Nat) a, l[i]? = some a → f (k + i) a = true
  | [], k, _, i, a, h => by simp at h
  | x :: l, k, hk, i, a, h => by
    simp only [Zt2, Bool.and_eq_true] at hk
    cases i with
    | zero => simp at h; subst h; exact hk.1
    | succ i =>
      have := Zgc l (k + 1) hk.2 i a (by simpa using h)
      rwa [show k + 1 + i = k + (i + 1) by omega] at this
def ZoS : List Op1 → List Nat → List Row
  | p :: l, b :: bs => ⟨p, ZaG p, Zc6 p, b⟩ :: ZoS l bs
  | _, _ => []
theorem Zi6 : ∀ (l : List Op1) (bs : List Nat) (j : Nat) (p : Op1) (b : Nat), l[j]? = some p → bs[j]? = some b → (ZoS l bs)[j]? = some ⟨p, ZaG p, Zc6 p, b⟩
  | [], bs, j, p, b, h, _ => by simp at h
  | _ :: _, [], j, p, b, _, h => by simp at h
  | x :: l, y :: bs, 0, p, b, h1, h2 => by simp at h1 h2; subst h1; subst h2; rfl
  | x :: l, y :: bs, j + 1, p, b, h1, h2 => by simpa [ZoS] using Zi6 l bs j p b (by simpa using h1) (by simpa using h2)
def ZC (P : Program) (G : Zbr) (N : Nat) (os : Array Oper) (l : List Op1) : Bool :=
  P.follows .mixedOrders && (ZoJ P G N os os.toList l && (Zt2 (fun j o => (Zni o).all fun i => Nat.blt i j) 0 os.toList &&
    (let rows := ZoS l (Zmw os.toList)
     Zt2 (fun j q => (Zr9 q.p && (Zss q.p && (Nat.ble q.c 2 || q.p.mask.isEmpty))) && Zt2 (fun i p => ZsE i p j q && (Zqq i p j q && (ZsF i p j q && (!(Nat.blt i j) || ZnW i p q)))) 0 rows) 0 rows)))
structure Chk (P : Program) (G : Zbr) (N : Nat) (os : Array Oper) (l : List Op1) (B : Nat → Nat → Prop) : Prop where
  mixed : P.follows .mixedOrders = true
  oper : ∀ (j : Nat) o p, os[j]? = some o → l[j]? = some p → Zn5 P G N os o p = true
  len : os.size = l.length
  pre : ∀ (j : Nat) o, os[j]? = some o → ∀ i ∈ Zni o, i < j
  bef : ∀ (j : Nat) o k, os[j]? = some o → B k j → ∃ i ∈ Zni o, k = i ∨ (i < j ∧ B k i)
  pair : ∀ (i j : Nat) p q, l[i]? = some p → l[j]? = some q → 3 ≤ ZaG p → i = j ∨ B i j ∨ B j i ∨ ZaG q = 0 ∨ (ZaG q = 1 ∧ ZaG p = 3 ∧ q.eff ≠ 1) ∨ (q.eff = 1 ∧ j < i ∧ Zv0 p q = true)
  dst : ∀ (i j : Nat) p q d, l[i]? = some p → l[j]? = some q → p.dst = some d → q.dst = some d → i = j
  early : ∀ (i j : Nat) p q, l[i]? = some p → l[j]? = some q → i < j → 3 ≤ ZaG q ∨ B i j ∨ i ∈ q.mask
  reads : ∀ (i j : Nat) p q d, l[i]? = some p → l[j]? = some q → p.dst = some d → d ∈ Zc6 q → B i j ∨ B j i ∨ i = j
  eff3 : ∀ (j : Nat) q, l[j]? = some q → Zr9 q = true
  mask : ∀ (j : Nat) q, l[j]? = some q → 3 ≤ ZaG q → q.mask = []
  eff1 : ∀ (j : Nat) q, l[j]? = some q → Zss q = true
  stay : ∀ (i j : Nat) p q d, l[i]? = some p → l[j]? = some q → q.eff = 1 → j ≤ i → p.dst = some d → ¬ d ∈ Zc6 q
theorem Zmy : ∀ (l : List Nat) (b : Nat), Zh8 l b = true ↔ b ∈ l
  | [], b => by simp [Zh8]
  | a :: l, b => by
    simp only [Zh8]
    cases h : Nat.beq a b with
    | true => obtain rfl := Nat.eq_of_beq_eq_true h; simp
    | false =>
      have hne : ¬ b = a := fun h' => by subst h'; rw [Nat.beq_refl] at h; cases h
      simp [Zmy l b, hne]
theorem Zp5 {P : Program} {G : Zbr} {N : Nat} {ops : Array Oper} : ∀ (os : List Oper) (l : List Op1), ZoJ P G N ops os l = true → os.length = l.length ∧ ∀ (j : Nat) o p, os[j]? = some o → l[j]? = some p → Zn5 P G N ops o p = true
  | [], [], _ => ⟨rfl, fun j o p h => by simp at h⟩
  | [], _ :: _, h => by cases h
  | _ :: _, [], h => by cases h
  | o :: os, p :: l, h => by
    simp only [ZoJ, Bool.and_eq_true] at h
    obtain ⟨h1, h2⟩ := Zp5 os l h.2
    refine ⟨by simp [h1], fun j o' p' ho hp => ?_⟩
    cases j with
    | zero => simp at ho hp; subst ho; subst hp; exact h.1
    | succ j => exact h2 j o' p' (by simpa using ho) (by simpa using hp)
theorem Zsc {P : Program} {G : Zbr} {N : Nat} {os : Array Oper} {l : List Op1} (h : ZC P G N os l = true) : ∃ B, Chk P G N os l B := by
  unfold ZC at h
  simp only [Bool.and_eq_true] at h
  obtain ⟨h1, h2, h3, h4⟩ := h
  obtain ⟨l1, l2⟩ := Zp5 _ _ h2
  have bl : (Zmw os.toList).length = l.length := by
    have := (ZjO os.toList []).1
    rw [show Zh7 [] os.toList = Zmw os.toList from rfl] at this
    rw [this, l1]; simp
  have row : ∀ (j : Nat) p, l[j]? = some p → ∃ b, (Zmw os.toList)[j]? = some b ∧ (ZoS l (Zmw os.toList))[j]? = some ⟨p, ZaG p, Zc6 p, b⟩ := fun j p hp => by
    have hj := (List.getElem?_eq_some_iff.1 hp).1
    refine ⟨(Zmw os.toList)[j]'(by omega), List.getElem?_eq_getElem (by omega), Zi6 _ _ _ _ _ hp (List.getElem?_eq_getElem (by omega))⟩
  have pairs : ∀ (i j : Nat) p q bp bq, l[i]? = some p → l[j]? = some q → (Zmw os.toList)[i]? = some bp → (Zmw os.toList)[j]? = some bq →
      ZsE i ⟨p, ZaG p, Zc6 p, bp⟩ j ⟨q, ZaG q, Zc6 q, bq⟩ = true ∧ Zqq i ⟨p, ZaG p, Zc6 p, bp⟩ j ⟨q, ZaG q, Zc6 q, bq⟩ = true ∧ ZsF i ⟨p, ZaG p, Zc6 p, bp⟩ j ⟨q, ZaG q, Zc6 q, bq⟩ = true ∧ (i < j → ZnW i ⟨p, ZaG p, Zc6 p, bp⟩ ⟨q, ZaG q, Zc6 q, bq⟩ = true) := fun i j p q bp bq hp hq e1 e2 => by
    have a1 := Zgc _ _ h4 j _ (Zi6 _ _ _ _ _ hq e2)
    simp only [Bool.and_eq_true, Nat.zero_add] at a1
    have a2 := Zgc _ _ a1.2 i _ (Zi6 _ _ _ _ _ hp e1)
    simp only [Bool.and_eq_true, Nat.zero_add, Bool.or_eq_true, Bool.not_eq_true'] at a2
    refine ⟨a2.1, a2.2.1, a2.2.2.1, fun hij => ?_⟩
    rcases a2.2.2.2 with a3 | a3
    · rw [show Nat.blt i j = Nat.ble (i + 1) j from rfl, Nat.ble_eq_true_of_le hij] at a3; cases a3
    · exact a3
  refine ⟨fun i j => ∃ b, (Zmw os.toList)[j]? = some b ∧ tb b i = true, h1, fun j o p ho hp => l2 j o p (by simpa using ho) hp, by simpa using l1, fun j o ho i hi => ?_, fun j o k ho ⟨b, e1, e2⟩ => ?_, fun i j p q hp hq hc => ?_, fun i j p q d hp hq hd hd' => ?_, fun i j p q hp hq hij => ?_, fun i j p q d hp hq hd hs => ?_, fun j q hq => ?_, fun j q hq hc => ?_, fun j q hq => ?_, fun i j p q d hp hq he hij hd => ?_⟩
  · have a1 := Zgc _ _ h3 j o (by simpa using ho)
    simp only [List.all_eq_true, Nat.zero_add] at a1
    have := a1 i hi
    simp [Nat.blt] at this; omega
  · obtain ⟨i, f1, f2⟩ := Zuk (by simpa using ho) e1 e2
    exact ⟨i, f1, f2⟩
  · obtain ⟨bp, e1, _⟩ := row i p hp
    obtain ⟨bq, e2, _⟩ := row j q hq
    have a := (pairs i j p q bp bq hp hq e1 e2).1
    simp only [ZsE, Bool.or_eq_true, Bool.and_eq_true, Nat.ble_eq] at a
    rcases a with a | a | a | a | a | a
    · omega
    · exact .inl (Nat.eq_of_beq_eq_true a)
    · exact .inr (.inl ⟨bq, e2, a⟩)
    · exact .inr (.inr (.inl ⟨bp, e1, a⟩))
    · exact .inr (.inr (.inr (.inl (Nat.eq_of_beq_eq_true a))))
    · rcases a with a | a
      · refine .inr (.inr (.inr (.inr (.inl ⟨Nat.eq_of_beq_eq_true a.1, Nat.eq_of_beq_eq_true a.2.1, fun h => ?_⟩))))
        rw [h] at a
        exact absurd a.2.2 (by decide)
      · refine .inr (.inr (.inr (.inr (.inr ⟨Nat.eq_of_beq_eq_true a.1, ?_, a.2.2⟩))))
        have := a.2.1
        simp [Nat.blt] at this; omega
  · obtain ⟨bp, e1, _⟩ := row i p hp
    obtain ⟨bq, e2, _⟩ := row j q hq
    have key : ∀ (i j : Nat) p q bp bq, l[i]? = some p → l[j]? = some q → (Zmw os.toList)[i]? = some bp → (Zmw os.toList)[j]? = some bq → p.dst = some d → q.dst = some d → ¬ i < j := fun i j p q bp bq hp hq e1 e2 hd hd' hlt => by
      have a := (pairs i j p q bp bq hp hq e1 e2).2.2.2 hlt
      simp [ZnW, Zx9, hd, hd'] at a
    have k1 := key i j p q bp bq hp hq e1 e2 hd hd'
    have k2 := key j i q p bq bp hq hp e2 e1 hd' hd
    omega
  · obtain ⟨bp, e1, _⟩ := row i p hp
    obtain ⟨bq, e2, _⟩ := row j q hq
    have a := (pairs i j p q bp bq hp hq e1 e2).2.2.2 hij
    simp only [ZnW, Bool.or_eq_true, Bool.and_eq_true, Nat.ble_eq] at a
    rcases a.2 with a | a | a
    · exact .inl a
    · exact .inr (.inl ⟨bq, e2, a⟩)
    · exact .inr (.inr ((Zmy _ _).1 a))
  · obtain ⟨bp, e1, _⟩ := row i p hp
    obtain ⟨bq, e2, _⟩ := row j q hq
    have a := (pairs i j p q bp bq hp hq e1 e2).2.1
    simp only [Zqq, hd, Bool.or_eq_true, Bool.not_eq_true'] at a
    rcases a with a | a | a | a
    · exact .inl ⟨bq, e2, a⟩
    · rw [(Zmy _ _).2 hs] at a; cases a
    · exact .inr (.inl ⟨bp, e1, a⟩)
    · exact .inr (.inr (Nat.eq_of_beq_eq_true a))
  · obtain ⟨bq, e2, e3⟩ := row j q hq
    have a1 := Zgc _ _ h4 j _ e3
    simp only [Bool.and_eq_true] at a1
    exact a1.1.1
  · obtain ⟨bq, e2, e3⟩ := row j q hq
    have a1 := Zgc _ _ h4 j _ e3
    simp only [Bool.and_eq_true, Bool.or_eq_true, Nat.ble_eq, List.isEmpty_iff] at a1
    rcases a1.1.2.2 with a2 | a2
    · omega
    · exact a2
  · obtain ⟨bq, e2, e3⟩ := row j q hq
    have a1 := Zgc _ _ h4 j _ e3
    simp only [Bool.and_eq_true] at a1
    exact a1.1.2.1
  · obtain ⟨bp, e1, _⟩ := row i p hp
    obtain ⟨bq, e2, _⟩ := row j q hq
    have a := (pairs i j p q bp bq hp hq e1 e2).2.2.1
    simp only [ZsF, hd, he, Nat.beq_refl, Bool.not_true, Bool.false_or, Bool.or_eq_true, Bool.not_eq_true'] at a
    intro hs
    rcases a with a | a
    · simp [Nat.blt] at a; omega
    · rw [(Zmy _ _).2 hs] at a; cases a
end Go.Proofs.YtnmbdjkbaihicaaDoorE
namespace Go.Proofs.YtnmbdjkbaihicaaDoorE
open Go
set_option linter.unusedVariables false
set_option linter.unusedSimpArgs false
theorem Zqb : ∀ (n : Nat) (H : Zm) (b i : Nat) (blk : Blk), (ZwK H b n)[i]? = some blk → blk ≠ .dead → H[i]? = some blk ∧ ¬ (b ≤ i ∧ i < b + n)
  | 0, H, b, i, blk, h, _ => ⟨h, by omega⟩
  | n + 1, H, b, i, blk, h, hd => by
    obtain ⟨h1, h2⟩ := Zqb n _ _ i blk h hd
    rw [ZbJ, List.getElem?_set] at h1
    by_cases hbi : b = i
    · rw [if_pos hbi] at h1
      split at h1
      · cases h1; exact absurd rfl hd
      · cases h1
    · rw [if_neg hbi] at h1
      exact ⟨h1, by omega⟩
theorem Znf (pos : List (Nat × Nat)) : ∀ (mask : List Nat) (H : Zm) (i : Nat) (blk : Blk), (ZfL H pos mask)[i]? = some blk → blk ≠ .dead → H[i]? = some blk ∧ ∀ m ∈ mask, ∀ b n, pos[m]? = some (b, n) → ¬ (b ≤ i ∧ i < b + n)
  | [], H, i, blk, h, _ => ⟨h, by simp⟩
  | m :: mask, H, i, blk, h, hd => by
    simp only [ZfL] at h
    rw [ZV] at h
    cases hp : pos[m]? with
    | none =>
      rw [hp] at h
      obtain ⟨h1, h2⟩ := Znf pos mask H i blk h hd
      refine ⟨h1, fun k hk b n hb => ?_⟩
      rcases List.mem_cons.1 hk with rfl | hk
      · rw [hp] at hb; cases hb
      · exact h2 k hk b n hb
    | some q =>
      obtain ⟨b0, n0⟩ := q
      rw [hp] at h
      obtain ⟨h1, h2⟩ := Znf pos mask _ i blk h hd
      obtain ⟨h3, h4⟩ := Zqb n0 H b0 i blk h1 hd
      refine ⟨h3, fun k hk b n hb => ?_⟩
      rcases List.mem_cons.1 hk with rfl | hk
      · rw [hp] at hb; cases hb; exact h4
      · exact h2 k hk b n hb
theorem Blk.like_symm {a b : Blk} (h : a.like b) : b.like a := by
  cases a <;> cases b <;> simp_all [Blk.like]
theorem Zri {Γ : Ctx} {cf : Zbf} {e : Env} {nid : Nat} {H : Zm} {op : O} {v : V} {up : List (Nat × Blk)} {nw : List Blk} (hc : ZuD op = true ∨ Zus op = true) (h : opE Γ cf e nid H op = some (v, up, nw)) : nw = [] := by
  have key : ∀ (x : Option V), (match x with | some v => ZcM v | none => none) = some (v, up, nw) → nw = [] := fun x h => by
    cases x with
    | none => cases h
    | some y => exact (Zak h).2.2
  have keyD : ∀ (x : Option D), (match x with | some r => ZcM (.d r) | none => none) = some (v, up, nw) → nw = [] := fun x h => by
    cases x with
    | none => cases h
    | some y => exact (Zak h).2.2
  cases op <;> first | (rcases hc with hc | hc <;> cases hc; done) | skip
  case mov x => exact (Zak h).2.2
  case mkfn f caps => exact (Zak h).2.2
  case build z ps => simp only [opE] at h; split at h <;> first | exact (Zak h).2.2 | cases h
  case pick c a b => simp only [opE] at h; split at h <;> first | exact (Zak h).2.2 | cases h
  case conv k x => simp only [opE] at h; split at h <;> first | exact (Zak h).2.2 | cases h
  case eqv ks neg x y =>
    simp only [opE] at h
    split at h
    · split at h
      · split at h
        · exact (Zak h).2.2
        · cases h
      · cases h
    · cases h
  case field off n ag x =>
    simp only [opE] at h
    split at h
    · exact key _ h
    · exact key _ h
    · cases h
  case extract x i =>
    simp only [opE] at h
    split at h
    · exact key _ h
    · split at h <;> first | exact (Zak h).2.2 | cases h
    · cases h
  all_goals (simp only [opE] at h; first | exact key _ h | exact keyD _ h)
theorem Zt9 {Γ : Ctx} {cf : Zbf} {e : Env} {nid : Nat} {H : Zm} {op : O} {v : V} {up : List (Nat × Blk)} {nw : List Blk} (hs : (∃ n x y, op = .store n x y) ∨ ∃ sz x y, op = .append sz x y) (h : opE Γ cf e nid H op = some (v, up, nw)) (hu : Zoy 3 up nw = true) :
    nw = [] ∧ (up = [] ∨ ∃ b blk old, up = [(b, blk)] ∧ H[b]? = some old ∧ old.like blk) := by
  simp only [Zoy, Bool.and_eq_true, List.isEmpty_iff] at hu
  obtain ⟨hu, rfl⟩ := hu
  refine ⟨rfl, ?_⟩
  rcases hs with ⟨n, x, y, rfl⟩ | ⟨sz, x, y, rfl⟩
  · simp only [opE] at h
    unfold Zlr at h
    split at h
    · rename_i b o _
      split at h
      · rename_i cs hb
        cases hc : (Nat.beq (y.val e).cells.length n && Nat.ble (o + n) cs.length && (y.val e).okb && ZpW (y.val e).cells) with
        | false => rw [hc] at h; cases h
        | true =>
          rw [hc] at h
          simp only [cond_true, Option.some.injEq, Prod.mk.injEq] at h
          obtain ⟨rfl, rfl, _⟩ := h
          exact .inr ⟨_, _, .cells cs, rfl, by rw [← ZV]; exact hb, trivial⟩
      · cases h
    · rename_i b sz i k _
      split at h
      · rename_i sz' xs hb
        cases hq : Nat.beq sz sz' with
        | false => rw [hq] at h; cases h
        | true =>
          obtain rfl := Nat.eq_of_beq_eq_true hq
          rw [hq] at h
          simp only [cond_true] at h
          split at h
          · rename_i x0 y0 ks h1 h2
            cases he : Zh8 ks b with
            | true => rw [he] at h; cases h
            | false =>
              rw [he] at h
              simp only [cond_false] at h
              cases hc : (Nat.beq y0.cells.length n && Nat.ble (k + n) x0.cells.length && (V.d y0).okb && (x0.isAgg || !y0.isAgg)) with
              | false => rw [hc] at h; cases h
              | true =>
                rw [hc] at h
                simp only [cond_true, Option.some.injEq, Prod.mk.injEq] at h
                obtain ⟨rfl, rfl, _⟩ := h
                cases ks with
                | nil => exact .inr ⟨_, _, .arr sz xs, rfl, by rw [← ZV]; exact hb, rfl, by rw [ZbJ]; simp⟩
                | cons a r => simp [ZsD] at hu
          · cases h
      · cases h
    · cases h
  · simp only [opE] at h
    unfold ZkC at h
    split at h
    · cases h
    · rename_i ys hy
      cases hz : ZjH sz ys 0 with
      | false => rw [hz] at h; cases h
      | true =>
        rw [hz] at h
        simp only [cond_true] at h
        split at h
        · cases hl : Nat.ble ys.length lim with
          | false => rw [hl] at h; cases h
          | true => rw [hl] at h; cases h
        · rename_i b sz' _
          split at h
          · rename_i sz'' xs hb
            cases hc : (Nat.beq sz sz' && Nat.beq sz sz'') with
            | false => rw [hc] at h; cases h
            | true =>
              rw [hc] at h
              simp only [cond_true] at h
              cases hl : Nat.ble (xs.length + ys.length) lim with
              | false => rw [hl] at h; cases h
              | true => rw [hl] at h; cases h
          · cases h
        · rename_i b sz' o len _
          split at h
          · rename_i sz'' xs hb
            cases hc : (Nat.beq sz sz' && Nat.beq sz sz'' && Nat.ble (o + len + ys.length) xs.length) with
            | false => rw [hc] at h; cases h
            | true =>
              rw [hc] at h
              simp only [cond_true, Option.some.injEq, Prod.mk.injEq] at h
              obtain ⟨rfl, rfl, _⟩ := h
              simp only [Bool.and_eq_true, Nat.ble_eq] at hc
              obtain ⟨⟨c1, c2⟩, c3⟩ := hc
              refine .inr ⟨_, _, .arr sz'' xs, rfl, by rw [← ZV]; exact hb, (Nat.eq_of_beq_eq_true c2).symm, ?_⟩
              simp only [List.length_append, List.length_take, List.length_drop]
              omega
          · cases h
        · cases h
theorem Zms {e : Env} {H : Zm} {o : Op1} {up : List (Nat × Blk)} {nw : List Blk} (h : Zok e H o up nw = true) : Zoy o.eff up nw = true ∧ ZBt e H up o.op = true := by
  unfold Zok at h
  rwa [Bool.and_eq_true] at h
def Zct.len (t : Zct) (j : Nat) : Nat := (t.HH j).length
theorem Znd {p : Op1} : (ZaG p ≤ 2 ↔ (p.eff = 0 ∨ p.eff = 1)) ∧ (ZaG p = 3 ↔ p.eff = 3) := by
  unfold ZaG
  split
  · rename_i h
    rw [h]
    cases ZuD p.op <;> cases Zus p.op <;> simp
  · rename_i h; rw [h]; simp
  · rename_i h; rw [h]; simp
  · rename_i h0 h1 h3
    constructor
    · simp; exact ⟨h0, h1⟩
    · simp; exact h3
theorem ZrQ {p : Op1} (h : p.eff = 1) : ZaG p = 1 := by unfold ZaG; simp only [h]
theorem ZpZ {p : Op1} (h : ZaG p ≤ 1) : (ZaG p = 0 ∧ ZuD p.op = true) ∨ (ZaG p = 1 ∧ Zus p.op = true ∧ p.eff ≠ 1) ∨ (ZaG p = 1 ∧ p.eff = 1) := by
  rcases (Znd (p := p)).1.1 (by omega) with h0 | h0
  · unfold ZaG at h ⊢
    rw [h0] at h ⊢
    cases h1 : ZuD p.op <;> cases h2 : Zus p.op <;> simp_all
  · exact .inr (.inr ⟨ZrQ h0, h0⟩)
def ZAn : V → Option Nat
  | .ptr b _ => some b
  | .eptr b _ _ _ => some b
  | _ => none
theorem Zmi {H H' : Zm} {n : Nat} {ag : Bool} {x v : V} (h : Zc4 H n ag x = some v) (hs : ∀ b, ZAn x = some b → ∀ blk, H[b]? = some blk → blk ≠ .dead → H'[b]? = some blk) : Zc4 H' n ag x = some v := by
  cases x <;> try exact h
  · rename_i d
    cases d <;> exact h
  · rename_i b o
    unfold Zc4 at h ⊢
    simp only [ZV] at h ⊢
    cases hb : H[b]? with
    | none => rw [hb] at h; cases h
    | some blk =>
      rw [hb] at h
      cases blk <;> try (cases h; done)
      rw [hs b rfl _ hb (by simp)]; exact h
  · rename_i b sz i k
    unfold Zc4 at h ⊢
    simp only [ZV] at h ⊢
    cases hb : H[b]? with
    | none => rw [hb] at h; cases h
    | some blk =>
      rw [hb] at h
      cases blk <;> try (cases h; done)
      rw [hs b rfl _ hb (by simp)]; exact h
theorem Zul {H : Zm} {n : Nat} {ag : Bool} {x v : V} {b : Nat} (h : Zc4 H n ag x = some v) (hx : ZAn x = some b) : ∃ blk, H[b]? = some blk ∧ blk ≠ .dead := by
  cases x <;> try (cases hx; done)
  · rename_i b' o
    cases hx
    unfold Zc4 at h
    simp only [ZV] at h
    cases hb : H[b]? with
    | none => rw [hb] at h; cases h
    | some blk =>
      rw [hb] at h
      cases blk <;> try (cases h; done)
      exact ⟨_, rfl, by simp⟩
  · rename_i b' sz i k
    cases hx
    unfold Zc4 at h
    simp only [ZV] at h
    cases hb : H[b]? with
    | none => rw [hb] at h; cases h
    | some blk =>
      rw [hb] at h
      cases blk <;> try (cases h; done)
      exact ⟨_, rfl, by simp⟩
theorem ZsH {e : Env} {H H' : Zm} {s : Nat} : ∀ {l : List Opd}, Zuu e H H' l = true → ZvU l s = true → ∃ i, Zc4 H 1 false (e s) = some (.mp i) ∧ Zc4 H' 1 false (e s) = some (.mp i)
  | [], _, hs => by cases hs
  | .c v :: l, h, hs => by
    simp only [Zuu, Bool.and_eq_true] at h
    exact ZsH (l := l) h.2 hs
  | .t i :: l, h, hs => by
    simp only [Zuu, Bool.and_eq_true] at h
    simp only [ZvU, Bool.or_eq_true] at hs
    rcases hs with hs | hs
    · obtain rfl := Nat.eq_of_beq_eq_true hs
      have h1 := h.1
      change (match e i with
        | .ptr b o => (match Zc4 H 1 false (.ptr b o), Zc4 H' 1 false (.ptr b o) with | some (.mp i), some (.mp j) => Nat.beq i j | _, _ => false)
        | _ => false) = true at h1
      split at h1
      · rename_i b o hx
        rw [hx]
        split at h1
        · rename_i i1 j1 e1 e2
          rw [e1, e2, Nat.eq_of_beq_eq_true h1]
          exact ⟨_, rfl, rfl⟩
        · cases h1
      · cases h1
    · exact ZsH (l := l) h.2 hs
section
variable {P : Program} {G : Zbr} {N : Nat} {Γ : Ctx} {cf : Zbf} {t : Zct} {l : List Op1} {e : Env} {H : Zm} {e' : Env} {H' : Zm} {os : Array Oper} {B : Nat → Nat → Prop} {D : Nat → Bool}
theorem Zct.OK.len_succ (ht : t.OK Γ cf [] l e H e' H') {j : Nat} (hj : j < l.length) : t.len (j + 1) = t.len j + (t.NW j).length := by
  unfold Zct.len
  rw [ht.h j _ (List.getElem?_eq_getElem hj), List.length_append, ZjP]
theorem Zct.OK.len_mono (ht : t.OK Γ cf [] l e H e' H') {a : Nat} : ∀ (b : Nat), a ≤ b → b ≤ l.length → t.len a ≤ t.len b := by
  intro b
  induction b with
  | zero => intro h _; have : a = 0 := by omega
            subst this; exact Nat.le_refl _
  | succ b ih =>
    intro h hb
    by_cases hab : a = b + 1
    · subst hab; exact Nat.le_refl _
    · have h1 := ih (by omega) (by omega)
      have h2 := ht.len_succ (j := b) (by omega)
      omega
theorem Zct.OK.whose (ht : t.OK Γ cf [] l e H e' H') {a i : Nat} : ∀ (b : Nat), a ≤ b → b ≤ l.length → t.len a ≤ i → i < t.len b → ∃ j, a ≤ j ∧ j < b ∧ t.len j ≤ i ∧ i < t.len (j + 1) := by
  intro b
  induction b with
  | zero => intro h _ h1 h2; have : a = 0 := by omega
            subst this; omega
  | succ b ih =>
    intro h hb h1 h2
    by_cases hab : a = b + 1
    · subst hab; omega
    · by_cases hi : i < t.len b
      · obtain ⟨j, g1, g2, g3⟩ := ih (by omega) (by omega) h1 hi
        exact ⟨j, g1, by omega, g3⟩
      · exact ⟨b, by omega, by omega, by omega, h2⟩
theorem Zct.OK.one (ht : t.OK Γ cf [] l e H e' H') {i j k : Nat} (hj : j < l.length) (hk : k < l.length) (h1 : t.len j ≤ i ∧ i < t.len (j + 1)) (h2 : t.len k ≤ i ∧ i < t.len (k + 1)) : j = k := by
  rcases Nat.lt_trichotomy j k with h | h | h
  · have := ht.len_mono (a := j + 1) k (by omega) (by omega); omega
  · exact h
  · have := ht.len_mono (a := k + 1) j (by omega) (by omega); omega
theorem Zct.OK.noUp (ht : t.OK Γ cf [] l e H e' H') {j : Nat} {p : Op1} (hp : l[j]? = some p) (hc : ZaG p ≤ 2) : t.UP j = [] := by
  cases hw : t.W j with
  | false => exact (ht.n j p hp hw).2.1
  | true =>
    have := (Zms (ht.y j p hp hw).2).1
    rcases (Znd (p := p)).1.1 hc with h | h
    · rw [h] at this; simpa [Zoy] using this
    · rw [h] at this
      simp only [Zoy, Bool.and_eq_true, List.isEmpty_iff] at this
      exact this.1
theorem Zct.OK.noNew (ht : t.OK Γ cf [] l e H e' H') {j : Nat} {p : Op1} (hp : l[j]? = some p) (hc : ZaG p ≤ 1) : t.NW j = [] := by
  cases hw : t.W j with
  | false => exact (ht.n j p hp hw).2.2
  | true =>
    rcases ZpZ hc with h | h | h
    · exact Zri (.inl h.2) (ht.y j p hp hw).1
    · exact Zri (.inr h.2.1) (ht.y j p hp hw).1
    · have := (Zms (ht.y j p hp hw).2).1
      rw [h.2] at this
      simp only [Zoy, Bool.and_eq_true, List.isEmpty_iff] at this
      exact this.2
theorem Zct.OK.new2 (ht : t.OK Γ cf [] l e H e' H') {i j : Nat} {p : Op1} (hp : l[j]? = some p) (h : t.len j ≤ i ∧ i < t.len (j + 1)) : 2 ≤ ZaG p := by
  have hj := (List.getElem?_eq_some_iff.1 hp).1
  rcases Nat.lt_or_ge (ZaG p) 2 with h' | h'
  · have := ht.len_succ hj
    rw [ht.noNew hp (by omega)] at this
    simp at this
    omega
  · exact h'
theorem Zct.OK.stay1 (ht : t.OK Γ cf [] l e H e' H') {j : Nat} {p : Op1} (hp : l[j]? = some p) (hc : ZaG p ≤ 2) : t.HH (j + 1) = t.HH j ++ t.NW j := by
  rw [ht.h j p hp, ht.noUp hp hc]; rfl
theorem Zct.OK.stay (ht : t.OK Γ cf [] l e H e' H') {a : Nat} : ∀ (b : Nat), a ≤ b → b ≤ l.length → (∀ m p, a ≤ m → m < b → l[m]? = some p → ZaG p ≤ 2) → ∀ i, i < t.len a → (t.HH b)[i]? = (t.HH a)[i]? := by
  intro b
  induction b with
  | zero => intro h _ _ i _; have : a = 0 := by omega
            subst this; rfl
  | succ b ih =>
    intro h hb hc i hi
    by_cases hab : a = b + 1
    · subst hab; rfl
    · have hp : l[b]? = some (l[b]'(by omega)) := List.getElem?_eq_getElem (by omega)
      have hm := ht.len_mono (a := a) b (by omega) (by omega)
      rw [ht.stay1 hp (hc b _ (by omega) (by omega) hp), List.getElem?_append_left (by unfold Zct.len at *; omega)]
      exact ih (by omega) (by omega) (fun m p h1 h2 => hc m p h1 (by omega)) i hi
theorem Zct.OK.like1 (ht : t.OK Γ cf [] l e H e' H') (hk : Chk P G N os l B) {j : Nat} {p : Op1} (hp : l[j]? = some p) (hc : ZaG p ≤ 3) {i : Nat} (hi : i < t.len j) : ∃ x y, (t.HH j)[i]? = some x ∧ (t.HH (j + 1))[i]? = some y ∧ (x = y ∨ x.like y) := by
  have same : t.UP j = [] → ∃ x y, (t.HH j)[i]? = some x ∧ (t.HH (j + 1))[i]? = some y ∧ (x = y ∨ x.like y) := fun hu => by
    refine ⟨_, _, List.getElem?_eq_getElem hi, ?_, .inl rfl⟩
    rw [ht.h j p hp, hu]
    show (t.HH j ++ t.NW j)[i]? = _
    rw [List.getElem?_append_left hi]
    exact List.getElem?_eq_getElem hi
  rcases Nat.lt_or_ge (ZaG p) 3 with h | h
  · exact same (ht.noUp hp (by omega))
  · have he := (Znd (p := p)).2.1 (by omega)
    cases hw : t.W j with
    | false => exact same (ht.n j p hp hw).2.1
    | true =>
      obtain ⟨y1, y2⟩ := ht.y j p hp hw
      rw [hk.mask j p hp h] at y1
      have y2 := (Zms y2).1
      rw [he] at y2
      have hs : (∃ n x y, p.op = .store n x y) ∨ ∃ sz x y, p.op = .append sz x y := by
        have := hk.eff3 j p hp
        unfold Zr9 at this
        rw [he] at this
        cases hop : p.op <;> rw [hop] at this <;> first | (cases this; done) | exact .inl ⟨_, _, _, rfl⟩ | exact .inr ⟨_, _, _, rfl⟩
      obtain ⟨f1, f2⟩ := Zt9 hs y1 y2
      rcases f2 with f2 | ⟨b, blk, old, f2, f3, f4⟩
      · exact same f2
      · by_cases hbi : b = i
        · subst hbi
          refine ⟨old, blk, f3, ?_, .inr f4⟩
          rw [ht.h j p hp, f1, f2]
          simp only [ZdY, List.append_nil, ZbJ]
          rw [List.getElem?_set, if_pos rfl, if_pos (show b < (t.HH j).length from hi)]
        · refine ⟨_, _, List.getElem?_eq_getElem hi, ?_, .inl rfl⟩
          rw [ht.h j p hp, f1, f2]
          simp only [ZdY, List.append_nil, ZbJ]
          rw [List.getElem?_set, if_neg hbi]
          exact List.getElem?_eq_getElem hi
theorem Zct.OK.like (ht : t.OK Γ cf [] l e H e' H') (hk : Chk P G N os l B) {a : Nat} : ∀ (b : Nat), a ≤ b → b ≤ l.length → (∀ m p, a ≤ m → m < b → l[m]? = some p → ZaG p ≤ 3) → ∀ i, i < t.len a → ∃ x y, (t.HH a)[i]? = some x ∧ (t.HH b)[i]? = some y ∧ (x = y ∨ x.like y) := by
  intro b
  induction b with
  | zero => intro h _ _ i hi; have : a = 0 := by omega
            subst this; exact ⟨_, _, List.getElem?_eq_getElem hi, List.getElem?_eq_getElem hi, .inl rfl⟩
  | succ b ih =>
    intro h hb hc i hi
    by_cases hab : a = b + 1
    · subst hab; exact ⟨_, _, List.getElem?_eq_getElem hi, List.getElem?_eq_getElem hi, .inl rfl⟩
    · have hp : l[b]? = some (l[b]'(by omega)) := List.getElem?_eq_getElem (by omega)
      have hm := ht.len_mono (a := a) b (by omega) (by omega)
      obtain ⟨x, y, h1, h2, h3⟩ := ih (by omega) (by omega) (fun m p h1 h2 => hc m p h1 (by omega)) i hi
      obtain ⟨y', z, g1, g2, g3⟩ := ht.like1 hk hp (hc b _ (by omega) (by omega) hp) (i := i) (by omega)
      rw [h2] at g1
      cases g1
      refine ⟨x, z, h1, g2, ?_⟩
      rcases h3 with rfl | h3
      · exact g3
      · rcases g3 with rfl | g3
        · exact .inr h3
        · exact .inr (Blk.like_trans h3 g3)
theorem Zct.OK.env0 (ht : t.OK Γ cf [] l e H e' H') {x : Nat} : ∀ (j : Nat), j ≤ l.length → (∀ i p, i < j → l[i]? = some p → p.dst ≠ some x) → t.E j x = e x := by
  intro j
  induction j with
  | zero => intro _ _; rw [ht.e0]
  | succ j ih =>
    intro hj hn
    have hp : l[j]? = some (l[j]'(by omega)) := List.getElem?_eq_getElem (by omega)
    rw [ht.e j _ hp]
    have h1 := hn j _ (by omega) hp
    have h2 := ih (by omega) (fun i p hi => hn i p (by omega))
    cases hd : (l[j]'(by omega)).dst with
    | none => exact h2
    | some d =>
      rw [hd] at h1
      show (bif Nat.beq d x then t.VV j else t.E j x) = e x
      have : Nat.beq d x = false := by
        cases hb : Nat.beq d x with
        | false => rfl
        | true => exact absurd (congrArg some (Nat.eq_of_beq_eq_true hb)) h1
      rw [this]; exact h2
theorem Zct.OK.envd (ht : t.OK Γ cf [] l e H e' H') (hk : Chk P G N os l B) {i x : Nat} {p : Op1} (hp : l[i]? = some p) (hd : p.dst = some x) : ∀ (j : Nat), i < j → j ≤ l.length → t.E j x = t.VV i := by
  intro j
  induction j with
  | zero => intro h; omega
  | succ j ih =>
    intro hij hj
    have hq : l[j]? = some (l[j]'(by omega)) := List.getElem?_eq_getElem (by omega)
    rw [ht.e j _ hq]
    by_cases h : i = j
    · subst h
      rw [hp] at hq
      cases hq
      rw [hd]
      show (bif Nat.beq x x then t.VV i else _) = _
      rw [Nat.beq_refl]; rfl
    · have h2 := ih (by omega) (by omega)
      cases hd' : (l[j]'(by omega)).dst with
      | none => exact h2
      | some d =>
        show (bif Nat.beq d x then t.VV j else t.E j x) = _
        have : Nat.beq d x = false := by
          cases hb : Nat.beq d x with
          | false => rfl
          | true =>
            obtain rfl := Nat.eq_of_beq_eq_true hb
            exact absurd (hk.dst i j p _ d hp hq hd hd') h
        rw [this]; exact h2
theorem Zct.OK.envs (ht : t.OK Γ cf [] l e H e' H') (hk : Chk P G N os l B) {j x : Nat} {q : Op1} (hq : l[j]? = some q) (he : q.eff = 1) (hx : x ∈ Zc6 q) : ∀ (k : Nat), j ≤ k → k ≤ l.length → t.E k x = t.E j x := by
  intro k
  induction k with
  | zero => intro h _; have : j = 0 := by omega
            subst this; rfl
  | succ k ih =>
    intro hjk hk'
    by_cases h : j = k + 1
    · subst h; rfl
    · have hp : l[k]? = some (l[k]'(by omega)) := List.getElem?_eq_getElem (by omega)
      have h2 := ih (by omega) (by omega)
      rw [ht.e k _ hp]
      cases hd : (l[k]'(by omega)).dst with
      | none => exact h2
      | some d =>
        show (bif Nat.beq d x then t.VV k else t.E k x) = _
        have : Nat.beq d x = false := by
          cases hb : Nat.beq d x with
          | false => rfl
          | true =>
            obtain rfl := Nat.eq_of_beq_eq_true hb
            exact absurd hx (hk.stay k j _ q d hp hq he (by omega) hd)
        rw [this]; exact h2
theorem Chk.lt (hk : Chk P G N os l B) : ∀ (j i : Nat), j < l.length → B i j → i < j := by
  intro j
  induction j using Nat.strongRecOn with
  | ind j ih =>
    intro i hj hb
    obtain ⟨k, h1, h2⟩ := hk.bef j _ i (Array.getElem?_eq_getElem (by rw [hk.len]; exact hj)) hb
    have h3 := hk.pre j _ (Array.getElem?_eq_getElem (by rw [hk.len]; exact hj)) k h1
    rcases h2 with rfl | ⟨h4, h5⟩
    · exact h3
    · have := ih k h4 i (by omega) h5; omega
def ZnQ (os : Array Oper) (D : Nat → Bool) : Prop := ∀ (j : Nat) o, os[j]? = some o → D j = true → ∀ i ∈ Zni o, D i = true
theorem Chk.down (hk : Chk P G N os l B) (hD : ZnQ os D) : ∀ (j i : Nat) o, os[j]? = some o → (∀ k ∈ Zni o, D k = true) → B i j → D i = true := by
  intro j
  induction j using Nat.strongRecOn with
  | ind j ih =>
    intro i o ho hp hb
    obtain ⟨k, h1, h2⟩ := hk.bef j o i ho hb
    rcases h2 with rfl | ⟨h4, h5⟩
    · exact hp _ h1
    · have hk' : k < os.size := by
        have := (Array.getElem?_eq_some_iff.1 ho).1; omega
      exact ih k h4 i _ (Array.getElem?_eq_getElem hk') (fun m hm => hD k _ (Array.getElem?_eq_getElem hk') (hp k h1) m hm) h5
theorem Chk.downD (hk : Chk P G N os l B) (hD : ZnQ os D) {i j : Nat} (hj : j < l.length) (h : D j = true) (hb : B i j) : D i = true :=
  hk.down hD j i _ (Array.getElem?_eq_getElem (by rw [hk.len]; exact hj)) (hD j _ (Array.getElem?_eq_getElem (by rw [hk.len]; exact hj)) h) hb
theorem Chk.order (hk : Chk P G N os l B) {i j : Nat} {p q : Op1} (hp : l[i]? = some p) (hq : l[j]? = some q) (hc : 3 ≤ ZaG p) (hc2 : 2 ≤ ZaG q) : i = j ∨ (i < j ∧ B i j) ∨ (j < i ∧ B j i) := by
  have hi := (List.getElem?_eq_some_iff.1 hp).1
  have hj := (List.getElem?_eq_some_iff.1 hq).1
  rcases hk.pair i j p q hp hq hc with h | h | h | h | h | h
  · exact .inl h
  · exact .inr (.inl ⟨hk.lt j i hj h, h⟩)
  · exact .inr (.inr ⟨hk.lt i j hi h, h⟩)
  · omega
  · omega
  · have := ZrQ h.1; omega
def hid (t : Zct) (D : Nat → Bool) (K i : Nat) : Bool := (List.range K).any fun j => !(D j) && (decide (t.len j ≤ i) && decide (i < t.len (j + 1)))
def ZhH (t : Zct) (D : Nat → Bool) (K : Nat) : Zm := (t.HH K).mapIdx fun i b => bif hid t D K i then .dead else b
theorem Zqu {K i : Nat} : hid t D K i = true ↔ ∃ j, j < K ∧ D j = false ∧ t.len j ≤ i ∧ i < t.len (j + 1) := by
  unfold hid
  simp [List.any_eq_true]
theorem ZiT {K i : Nat} : hid t D K i = false ↔ ∀ j, j < K → t.len j ≤ i → i < t.len (j + 1) → D j = true := by
  rw [← Bool.not_eq_true, Zqu]
  constructor
  · intro h j h1 h2 h3
    cases hd : D j with
    | true => rfl
    | false => exact absurd ⟨j, h1, hd, h2, h3⟩ h
  · rintro h ⟨j, h1, h2, h3, h4⟩
    rw [h j h1 h3 h4] at h2; cases h2
theorem ZkH {K i : Nat} : (ZhH t D K)[i]? = ((t.HH K)[i]?).map fun b => bif hid t D K i then .dead else b := by
  unfold ZhH
  rw [List.getElem?_mapIdx]
theorem ZsO {K i : Nat} {blk : Blk} (h : (ZhH t D K)[i]? = some blk) (hd : blk ≠ .dead) : (t.HH K)[i]? = some blk ∧ hid t D K i = false := by
  rw [ZkH] at h
  cases hb : (t.HH K)[i]? with
  | none => rw [hb] at h; cases h
  | some b =>
    rw [hb] at h
    simp only [Option.map_some, Option.some.injEq] at h
    cases hh : hid t D K i with
    | true => rw [hh] at h; exact absurd h.symm hd
    | false => rw [hh] at h; exact ⟨by rw [← h]; rfl, rfl⟩
theorem Zf2 {K i : Nat} (h : hid t D K i = false) : (ZhH t D K)[i]? = (t.HH K)[i]? := by
  rw [ZkH, h]
  cases (t.HH K)[i]? <;> rfl
theorem Zu2 (l : List Op1) (a : Nat) (ha : a ≤ l.length) : ∃ K, a ≤ K ∧ K ≤ l.length ∧ (∀ m p, a ≤ m → m < K → l[m]? = some p → ZaG p ≤ 2) ∧ (K < l.length → ∃ p, l[K]? = some p ∧ 3 ≤ ZaG p) := by
  have key : ∀ n a, l.length - a = n → a ≤ l.length → ∃ K, a ≤ K ∧ K ≤ l.length ∧ (∀ m p, a ≤ m → m < K → l[m]? = some p → ZaG p ≤ 2) ∧ (K < l.length → ∃ p, l[K]? = some p ∧ 3 ≤ ZaG p) := by
    intro n
    induction n with
    | zero => intro a h1 h2; exact ⟨a, Nat.le_refl _, h2, fun m p h3 h4 => by omega, fun h => by omega⟩
    | succ n ih =>
      intro a h1 h2
      have hp : l[a]? = some (l[a]'(by omega)) := List.getElem?_eq_getElem (by omega)
      rcases Nat.lt_or_ge (ZaG (l[a]'(by omega))) 3 with h | h
      · obtain ⟨K, g1, g2, g3, g4⟩ := ih (a + 1) (by omega) (by omega)
        refine ⟨K, by omega, g2, fun m p h3 h4 h5 => ?_, g4⟩
        by_cases hm : m = a
        · subst hm; rw [hp] at h5; cases h5; omega
        · exact g3 m p (by omega) h4 h5
      · exact ⟨a, Nat.le_refl _, h2, fun m p h3 h4 => by omega, fun _ => ⟨_, hp, h⟩⟩
  exact key _ a rfl ha
end
end Go.Proofs.YtnmbdjkbaihicaaDoorE
namespace Go.Proofs.YtnmbdjkbaihicaaDoorE
open Go
set_option linter.unusedVariables false
set_option linter.unusedSimpArgs false
theorem Zrb {e e' : Env} : ∀ (g : Option (Nat × Bool)), (∀ s b, g = some (s, b) → e s = e' s) → Zfr e g = Zfr e' g
 | none, _ => rfl
 | some (s, b), h => by simp only [Zfr, h s b rfl]
section
variable {P : Program} {G : Zbr} {N : Nat} {Γ : Ctx} {cf : Zbf} {t : Zct} {l : List Op1} {e : Env} {H : Zm} {e' : Env} {H' : Zm} {os : Array Oper} {B : Nat → Nat → Prop} {Rf : RP} {wf : World}
structure ZtV (P : Program) (N : Nat) (t : Zct) (l : List Op1) (os : Array Oper) (e : Env) (H : Zm) (Rf : RP) (wf : World) (D : Nat → Bool) (a : Act) (w : World) : Prop where
 closed : ZnQ os D
 ex : ∃ K R env, K ≤ l.length ∧ (∀ m p, l[m]? = some p → m < K → 3 ≤ ZaG p → D m = true) ∧ (K < l.length → ∃ p, l[K]? = some p ∧ 3 ≤ ZaG p ∧ D K = false) ∧
  Ext Rf wf R w ∧ R.OK w ∧ R.H = ZhH t D K ∧ (∀ i, H.length ≤ i → (∀ j, j < l.length → D j = true → ¬ (t.len j ≤ i ∧ i < t.len (j + 1))) → R.M i = none) ∧ ZgP R w env a ∧
  (∀ j p d, l[j]? = some p → p.dst = some d → D j = true → env d = t.VV j) ∧ (∀ d, (∀ j p, l[j]? = some p → p.dst = some d → D j = false) → env d = e d)
 tm : N ≤ a.tmps.size
 df : a.defers = []
theorem Zvl (ht : t.OK Γ cf [] l e H e' H') {D : Nat → Bool} {s : Nat} {R : RP} {w : World} (hs : s ≤ l.length) (ok : R.OK w) (hH : R.H = t.HH s) (hb : ∀ m p, l[m]? = some p → m < s → 2 ≤ ZaG p → D m = true) (ha : ∀ m p, l[m]? = some p → s ≤ m → 2 ≤ ZaG p → D m = false) :
  ∃ K, K ≤ l.length ∧ (∀ m p, l[m]? = some p → m < K → 3 ≤ ZaG p → D m = true) ∧ (K < l.length → ∃ p, l[K]? = some p ∧ 3 ≤ ZaG p ∧ D K = false) ∧ Ext R w { R with H := ZhH t D K } w ∧ RP.OK { R with H := ZhH t D K } w := by
 obtain ⟨K, h1, h2, h3, h4⟩ := Zu2 l s hs
 have live : ∀ (i : Nat) blk, (ZhH t D K)[i]? = some blk → blk ≠ .dead → R.H[i]? = some blk := fun i blk h hd => by
  obtain ⟨g1, g2⟩ := ZsO h hd
  rw [ZiT] at g2
  have hiK : i < t.len K := (List.getElem?_eq_some_iff.1 g1).1
  by_cases hi : i < t.len s
  ·rw [hH, ← ht.stay K h1 h2 h3 i hi]; exact g1
  ·obtain ⟨j, f1, f2, f3, f4⟩ := ht.whose K h1 h2 (by omega) hiK
   have hp : l[j]? = some (l[j]'(by omega)) := List.getElem?_eq_getElem (by omega)
   have d1 := ha j _ hp f1 (ht.new2 hp ⟨f3, f4⟩)
   rw [g2 j f2 f3 f4] at d1; cases d1
 refine ⟨K, h2, fun m p hp hm hc => ?_, fun hK => ?_, Ext.kill live, ok.kill live⟩
 ·rcases Nat.lt_or_ge m s with h | h
  ·exact hb m p hp h (by omega)
  ·have := h3 m p h hm hp; omega
 ·obtain ⟨p, f1, f2⟩ := h4 hK
  exact ⟨p, f1, f2, ha K p f1 h1 (by omega)⟩
def upd (D : Nat → Bool) (j : Nat) : Nat → Bool := fun i => if i = j then true else D i
theorem step (c : Zmc P G cf Rf wf) (hlo : Rf.H.length ≤ H.length) (ht : t.OK Γ cf [] l e H e' H') (hk : Chk P G N os l B) {Q : Exit → Act → World → Prop} {D : Nat → Bool} {a : Act} {w : World} (s : ZtV P N t l os e H Rf wf D a w) {j : Nat} {o : Oper} (ho : os[j]? = some o) (hDj : D j = false) (hpre : ∀ i ∈ Zni o, D i = true) :
  wpOp P os Q j (fun a' w' => ZtV P N t l os e H Rf wf (upd D j) a' w') a w := by
 obtain ⟨K, R, env, hK, hKd, hKn, x, ok, hH, hM, hE, hV, hO⟩ := s.ex
 have hjl : j < l.length := by rw [← hk.len]; exact (Array.getElem?_eq_some_iff.1 ho).1
 obtain ⟨p, hp⟩ : ∃ p, l[j]? = some p := ⟨_, List.getElem?_eq_getElem hjl⟩
 have hoper := hk.oper j o p ho hp
 simp only [Zn5, Bool.and_eq_true] at hoper
 obtain ⟨k1, k2, k3⟩ := hoper
 have down : ∀ i, B i j → D i = true := fun i hb => hk.down s.closed j i o ho hpre hb
 have downD : ∀ i k, k < l.length → D k = true → B i k → D i = true := fun i k h1 h2 h3 => hk.downD s.closed h1 h2 h3
 have slot : ∀ d, d ∈ Zc6 p → env d = t.E j d := fun d hd => by
  by_cases hx : ∃ (i : Nat) (q : Op1), l[i]? = some q ∧ q.dst = some d
  ·obtain ⟨i, q, hq, hqd⟩ := hx
   have old : j ≤ i → D i = false → env d = t.E j d := fun hji hDi => by
    rw [hO d fun i' q' hq' hqd' => by rw [hk.dst i' i q' q d hq' hq hqd' hqd]; exact hDi, ht.env0 j (by omega) fun i' q' hi' hq' hqd' => by
     have := hk.dst i' i q' q d hq' hq hqd' hqd; omega]
   rcases hk.reads i j q p d hq hp hqd hd with hb | hb | hb
   ·rw [hV i q d hq hqd (down i hb), ht.envd hk hq hqd j (hk.lt j i hjl hb) (by omega)]
   ·have hi := (List.getElem?_eq_some_iff.1 hq).1
    refine old (Nat.le_of_lt (hk.lt i j hi hb)) ?_
    cases hDi : D i with
    | false => rfl
    | true => have := downD j i hi hDi hb; rw [hDj] at this; cases this
   ·subst hb; exact old (Nat.le_refl _) hDj
  ·have hn : ∀ (i : Nat) (q : Op1), l[i]? = some q → q.dst ≠ some d := fun i q hq hqd => hx ⟨i, q, hq, hqd⟩
   rw [hO d fun i q hq hqd => absurd hqd (hn i q hq), ht.env0 j (by omega) fun i q _ hq => hn i q hq]
 have hg : Zfr env p.guard = some (t.W j) := by
  rw [← ht.w j p hp]
  refine Zrb _ fun s' b hs => slot s' ?_
  unfold Zc6
  rw [hs]; simp
 have hwant := Zrr (a := a) hE k2 hg
 have hop : ∀ nid Hm, opE Γ cf env nid Hm p.op = opE Γ cf (t.E j) nid Hm p.op := fun nid Hm => by
  refine Zuc _ fun y hy => ?_
  cases y with
  | c v => rfl
  | t i =>
   refine slot i ?_
   unfold Zc6
   exact List.mem_append_left _ (List.mem_filterMap.2 ⟨.t i, hy, rfl⟩)
 have closed' : ZnQ os (upd D j) := fun k o' hk' hd i hi => by
  unfold upd at hd ⊢
  by_cases hik : i = j
  ·rw [if_pos hik]
  ·rw [if_neg hik]
   by_cases hkj : k = j
   ·subst hkj; rw [ho] at hk'; cases hk'; exact hpre i hi
   ·rw [if_neg hkj] at hd; exact s.closed k o' hk' hd i hi
 have fin : ∀ (K' : Nat) (R' : RP) (u : Value) (w' : World), K' ≤ l.length → (∀ m p, l[m]? = some p → m < K' → 3 ≤ ZaG p → upd D j m = true) → (K' < l.length → ∃ p, l[K']? = some p ∧ 3 ≤ ZaG p ∧ upd D j K' = false) →
   Ext R w R' w' → R'.OK w' → R'.H = ZhH t (upd D j) K' → (∀ i, R.M i = none → ¬ (t.len j ≤ i ∧ i < t.len (j + 1)) → R'.M i = none) → ZaY R' w' (t.VV j) u → ZtV P N t l os e H Rf wf (upd D j) (a.put o.dst u) w' := by
  intro K' R' u w' hK' hKd' hKn' x' ok' hH' hM' hv
  refine ⟨closed', ⟨K', R', Zpq env p.dst (t.VV j), hK', hKd', hKn', x.trans x', ok', hH', fun i hi hni => ?_, ZqU (x'.envOK ok.b01 hE) k1 s.tm hv, fun i q d hq hqd hd => ?_, fun d hd => ?_⟩, by rw [Zsm]; exact s.tm, by rw [Zso]; exact s.df⟩
  ·refine hM' i (hM i hi fun m hm hd => hni m hm ?_) (hni j hjl ?_)
   ·unfold upd; split
    ·rfl
    ·exact hd
   ·unfold upd; rw [if_pos rfl]
  ·cases hpd : p.dst with
   | none =>
    show env d = _
    have hij : i ≠ j := fun h => by subst h; rw [hp] at hq; cases hq; rw [hpd] at hqd; cases hqd
    refine hV i q d hq hqd ?_
    unfold upd at hd; rw [if_neg hij] at hd; exact hd
   | some d' =>
    show (bif Nat.beq d' d then t.VV j else env d) = _
    cases hb : Nat.beq d' d with
    | true =>
     obtain rfl := Nat.eq_of_beq_eq_true hb
     obtain rfl := hk.dst i j q p d' hq hp hqd hpd
     rfl
    | false =>
     have hij : i ≠ j := fun h => by
      subst h; rw [hp] at hq; cases hq; rw [hpd] at hqd; cases hqd; rw [Nat.beq_refl] at hb; cases hb
     refine hV i q d hq hqd ?_
     unfold upd at hd; rw [if_neg hij] at hd; exact hd
  ·have h0 : env d = e d := hO d fun i q hq hqd => by
    have := hd i q hq hqd
    unfold upd at this
    by_cases hij : i = j
    ·rw [if_pos hij] at this; cases this
    ·rw [if_neg hij] at this; exact this
   cases hpd : p.dst with
   | none => exact h0
   | some d' =>
    show (bif Nat.beq d' d then t.VV j else env d) = _
    cases hb : Nat.beq d' d with
    | false => exact h0
    | true =>
     obtain rfl := Nat.eq_of_beq_eq_true hb
     have := hd j p hp hpd
     unfold upd at this; rw [if_pos rfl] at this; cases this
 have hlen := ht.len_succ hjl
 have own : ∀ i m, m < l.length → (t.len m ≤ i ∧ i < t.len (m + 1)) → (t.len j ≤ i ∧ i < t.len (j + 1)) → m = j := fun i m hm h1 h2 => ht.one hm hjl h1 h2
 have base : H.length ≤ t.len j := by
  have := ht.len_mono (a := 0) j (by omega) (by omega)
  unfold Zct.len at this ⊢; rw [ht.h0] at this; exact this
 have free : ∀ i, t.len j ≤ i → i < t.len j + (t.NW j).length → R.M i = none := fun i h1 h2 => hM i (by omega) fun m hm hd h => by
  have := own i m hm h ⟨h1, by omega⟩
  subst this; rw [hDj] at hd; cases hd
 rcases Nat.lt_or_ge (ZaG p) 3 with hc | hc
 ·
  have hKd' : ∀ m p, l[m]? = some p → m < K → 3 ≤ ZaG p → upd D j m = true := fun m p' h1 h2 h3 => by
   unfold upd; split
   ·rfl
   ·exact hKd m p' h1 h2 h3
  have hKn' : K < l.length → ∃ p, l[K]? = some p ∧ 3 ≤ ZaG p ∧ upd D j K = false := fun h => by
   obtain ⟨q, h1, h2, h3⟩ := hKn h
   refine ⟨q, h1, h2, ?_⟩
   unfold upd; rw [if_neg (fun h => by subst h; rw [hp] at h1; cases h1; omega)]; exact h3
  have two : 2 ≤ ZaG p → j < K ∧ ∀ m q, j ≤ m → m < K → l[m]? = some q → ZaG q ≤ 2 := fun h2 => by
   constructor
   ·rcases Nat.lt_or_ge j K with h | h
    ·exact h
    ·obtain ⟨q, g1, g2, g3⟩ := hKn (by omega)
     rcases hk.order g1 hp g2 h2 with f | f | f
     ·subst f; rw [hp] at g1; cases g1; omega
     ·rw [down K f.2] at g3; cases g3
     ·omega
   ·intro m q h3 h4 hq
    rcases Nat.lt_or_ge (ZaG q) 3 with h | h
    ·omega
    ·rcases hk.order hq hp h h2 with f | f | f
     ·subst f; rw [hp] at hq; cases hq; omega
     ·omega
     ·have := downD j m (by omega) (hKd m q hq h4 h) f.2
      rw [hDj] at this; cases this
  have stg : ∀ i, (ZhH t (upd D j) K)[i]? = if t.len j ≤ i ∧ i < t.len j + (t.NW j).length then (t.NW j)[i - t.len j]? else (ZhH t D K)[i]? := fun i => by
   by_cases hi : t.len j ≤ i ∧ i < t.len j + (t.NW j).length
   ·rw [if_pos hi]
    have h2 := ht.new2 hp (i := i) ⟨hi.1, by omega⟩
    obtain ⟨t1, t2⟩ := two h2
    rw [Zf2]
    ·rw [ht.stay (a := j + 1) K (by omega) hK (fun m q h3 h4 hq => t2 m q (by omega) h4 hq) i (by omega), ht.stay1 hp (by omega), List.getElem?_append_right hi.1]
     rfl
    ·rw [ZiT]
     intro m hm h3 h4
     have := own i m (by omega) ⟨h3, h4⟩ ⟨hi.1, by omega⟩
     unfold upd; rw [if_pos this]
   ·rw [if_neg hi, ZkH, ZkH]
    have : hid t (upd D j) K i = hid t D K i := by
     rw [Bool.eq_iff_iff, Zqu, Zqu]
     constructor
     ·rintro ⟨m, h1, h2, h3⟩
      unfold upd at h2
      by_cases hm : m = j
      ·rw [if_pos hm] at h2; cases h2
      ·rw [if_neg hm] at h2; exact ⟨m, h1, h2, h3⟩
     ·rintro ⟨m, h1, h2, h3, h4⟩
      have hm : m ≠ j := fun h => by subst h; omega
      exact ⟨m, h1, by unfold upd; rw [if_neg hm]; exact h2, h3, h4⟩
    rw [this]
  have hpl : t.UP j = [] := ht.noUp hp (by omega)
  unfold wpOp
  simp only [ho]
  cases hw : t.W j with
  | false =>
   rw [hw] at hwant
   rw [hwant]
   simp only [Bool.false_eq_true, if_false]
   obtain ⟨n1, n2, n3⟩ := ht.n j p hp hw
   refine fin K R undef w hK hKd' hKn' (Ext.refl R w) ok ?_ (fun i h _ => h) (by rw [n1]; exact ZoB)
   rw [hH]
   apply List.ext_getElem?
   intro i
   rw [stg i, n3, if_neg (by rintro ⟨h1, h2⟩; simp at h2; omega)]
  | true =>
   rw [hw] at hwant
   rw [hwant]
   simp only [if_true]
   obtain ⟨y1, y2⟩ := ht.y j p hp hw
   rw [hpl] at y1
   have see : ZaG p ≤ 2 → ∀ i blk, (ZfL (t.HH j) ([] ++ t.pos j) p.mask)[i]? = some blk → blk ≠ .dead → (t.HH j)[i]? = some blk ∧ ∀ m, m < j → t.len m ≤ i → i < t.len (m + 1) → D m = true := fun _ i blk h hd => by
    obtain ⟨h1, h2⟩ := Znf _ _ _ i blk h hd
    refine ⟨h1, fun m hm h3 h4 => ?_⟩
    have hq : l[m]? = some (l[m]'(by omega)) := List.getElem?_eq_getElem (by omega)
    rcases hk.early m j _ p hq hp hm with f | f | f
    ·omega
    ·exact down m f
    ·have h5 := h2 m f (t.len m) (t.NW m).length (by simp [Zct.pos, hm, Zct.len])
     have := ht.len_succ (j := m) (by omega)
     omega
   have hHm : ∃ Hm, (∀ b blk, nth Hm b = some blk → blk ≠ .dead → nth R.H b = some blk) ∧ opE Γ cf env (t.len j) Hm p.op = some (t.VV j, [], t.NW j) := by
    rcases Nat.lt_or_ge (ZaG p) 2 with h2 | h2
    ·rcases ZpZ (p := p) (by omega) with ⟨_, h0⟩ | ⟨h01, h1, hne⟩ | ⟨h01, he1⟩
     ·refine ⟨[], fun b blk hb => by simp [nth] at hb, ?_⟩
      rw [hop, ZxD (nid' := (t.HH j).length) (H' := ZfL (t.HH j) ([] ++ t.pos j) p.mask) h0]; exact y1
     ·refine ⟨R.H, fun b blk hb _ => hb, ?_⟩
      rw [hop]
      refine ZxM (H := ZfL (t.HH j) ([] ++ t.pos j) p.mask) (fun b blk hb hd => ?_) h1 y1
      rw [ZV] at hb
      obtain ⟨g1, g2⟩ := see (by omega) b blk hb hd
      have hbj : b < t.len j := (List.getElem?_eq_some_iff.1 g1).1
      have hbK : b < t.len K := by
       rcases Nat.lt_or_ge j K with h | h
       ·have := ht.len_mono (a := j) K (by omega) hK; omega
       ·by_cases hb0 : b < t.len 0
        ·have := ht.len_mono (a := 0) K (by omega) hK; omega
        ·obtain ⟨m, _, f2, f3, f4⟩ := ht.whose (a := 0) j (by omega) (by omega) (by omega) hbj
         have hdm := g2 m f2 f3 f4
         have hq : l[m]? = some (l[m]'(by omega)) := List.getElem?_eq_getElem (by omega)
         have hmK : m < K := by
          rcases Nat.lt_or_ge m K with h' | h'
          ·exact h'
          ·obtain ⟨q, q1, q2, q3⟩ := hKn (by omega)
           rcases hk.order q1 hq q2 (ht.new2 hq ⟨f3, f4⟩) with f | f | f
           ·subst f; rw [hdm] at q3; cases q3
           ·rw [downD K m (by omega) hdm f.2] at q3; cases q3
           ·omega
         have := ht.len_mono (a := m + 1) K (by omega) hK; omega
      have hhid : hid t D K b = false := by
       rw [ZiT]
       intro m hm h3 h4
       rcases Nat.lt_or_ge m j with h | h
       ·exact g2 m h h3 h4
       ·have := ht.len_mono (a := j) m h (by omega); omega
      rw [ZV, hH, Zf2 hhid]
      have three : ∀ m q, l[m]? = some q → (j ≤ m ∧ m < K ∨ K ≤ m ∧ m < j) → ZaG q ≤ 3 := fun m q hq hm => by
       rcases Nat.lt_or_ge (ZaG q) 3 with h | h
       ·omega
       ·rcases hk.pair m j q p hq hp h with f | f | f | f | f | f
        ·subst f; rw [hp] at hq; cases hq; omega
        ·rcases hm with hm | hm
         ·have := hk.lt j m hjl f; omega
         ·have hdm := down m f
          obtain ⟨q', q1, q2, q3⟩ := hKn (by omega)
          rcases hk.order q1 hq q2 (by omega) with g | g | g
          ·subst g; rw [hdm] at q3; cases q3
          ·rw [downD K m (by omega) hdm g.2] at q3; cases q3
          ·omega
        ·rcases hm with hm | hm
         ·have := downD j m (by omega) (hKd m q hq hm.2 h) f
          rw [hDj] at this; cases this
         ·have := hk.lt m j (by omega) f; omega
        ·omega
        ·omega
        ·exact absurd f.1 hne
      rcases Nat.le_total j K with h | h
      ·obtain ⟨x1, y1', z1, z2, z3⟩ := ht.like hk (a := j) K h hK (fun m q h3 h4 hq => three m q hq (.inl ⟨h3, h4⟩)) b hbj
       rw [g1] at z1; cases z1
       exact ⟨y1', z2, z3.elim (fun h => h ▸ Blk.like_refl hd) id⟩
      ·obtain ⟨x1, y1', z1, z2, z3⟩ := ht.like hk (a := K) j h (by omega) (fun m q h3 h4 hq => three m q hq (.inr ⟨h3, h4⟩)) b hbK
       rw [g1] at z2; cases z2
       exact ⟨x1, z1, z3.elim (fun h => by subst h; exact Blk.like_refl hd) Blk.like_symm⟩
     ·
      obtain ⟨s', hops, hgd⟩ : ∃ s', p.op = .load 1 false (.t s') ∧ p.guard = none := by
       have := hk.eff1 j p hp
       unfold Zss at this
       rw [he1] at this
       change (match p.op, p.guard with | .load 1 false (.t _), none => true | _, _ => false) = true at this
       split at this
       ·exact ⟨_, by assumption, by assumption⟩
       ·cases this
      have hsl : s' ∈ Zc6 p := by unfold Zc6; rw [hops]; simp [Ztm, Zwa]
      have hjK : j < K := by
       rcases Nat.lt_or_ge j K with h | h
       ·exact h
       ·obtain ⟨q, g1, g2, g3⟩ := hKn (by omega)
        rcases hk.pair K j q p g1 hp g2 with f | f | f | f | f | f
        ·subst f; rw [hp] at g1; cases g1; omega
        ·rw [down K f] at g3; cases g3
        ·have := hk.lt K j (by omega) f; omega
        ·omega
        ·exact absurd he1 f.2.2
        ·omega
      have ldE : ∀ (Hx : Zm) (k : Nat), opE Γ cf (t.E j) k Hx p.op = (match Zc4 Hx 1 false (t.E j s') with | some v => ZcM v | none => none) := fun Hx k => by rw [hops]; rfl
      rw [ldE] at y1
      have hyl : Zc4 (ZfL (t.HH j) ([] ++ t.pos j) p.mask) 1 false (t.E j s') = some (t.VV j) ∧ t.NW j = [] := by
       cases hl : Zc4 (ZfL (t.HH j) ([] ++ t.pos j) p.mask) 1 false (t.E j s') with
       | none => rw [hl] at y1; cases y1
       | some v =>
        rw [hl] at y1
        obtain ⟨rfl, _, h3⟩ := Zak y1
        exact ⟨rfl, h3⟩
      obtain ⟨hyl, hnw⟩ := hyl
      have key : ∀ k, j ≤ k → k ≤ K → Zc4 (t.HH k) 1 false (t.E j s') = some (t.VV j) := by
       intro k
       induction k with
       | zero =>
        intro h _
        have : j = 0 := by omega
        subst this
        exact Zmi hyl fun b _ blk hb hd => (see (by omega) b blk hb hd).1
       | succ k ih =>
        intro hjk hkK
        by_cases hjk' : j = k + 1
        ·subst hjk'
         exact Zmi hyl fun b _ blk hb hd => (see (by omega) b blk hb hd).1
        ·have ih' := ih (by omega) (by omega)
         have hq : l[k]? = some (l[k]'(by omega)) := List.getElem?_eq_getElem (by omega)
         have app : ∀ (Ha Hb : Zm), Zc4 Ha 1 false (t.E j s') = some (t.VV j) → Zc4 (Ha ++ Hb) 1 false (t.E j s') = some (t.VV j) := fun Ha Hb hl =>
          Zmi hl fun b _ blk hb _ => by rw [List.getElem?_append_left (List.getElem?_eq_some_iff.1 hb).1]; exact hb
         rcases Nat.lt_or_ge (ZaG (l[k]'(by omega))) 3 with h | h
         ·rw [ht.stay1 hq (by omega)]
          exact app _ _ ih'
         ·rcases hk.pair k j _ p hq hp h with f | f | f | f | f | f
          ·subst f
           rw [hp] at hq
           have hq' := Option.some.inj hq
           rw [← hq'] at h
           omega
          ·have := hk.lt j k hjl f; omega
          ·have := downD j k (by omega) (hKd k _ hq (by omega) h) f
           rw [hDj] at this; cases this
          ·omega
          ·exact absurd he1 f.2.2
          ·cases hwk : t.W k with
           | false =>
            obtain ⟨_, n2, n3⟩ := ht.n k _ hq hwk
            rw [ht.h k _ hq, n2, n3]
            exact app _ _ ih'
           | true =>
            have zc := (Zms (ht.y k _ hq hwk).2).2
            have hkp := f.2.2
            unfold Zv0 at hkp
            rw [hops] at hkp
            split at hkp
            ·rename_i f' args chk x' y' s'' hopk hsx
             cases hsx
             rw [hopk] at zc
             obtain ⟨i0, q1, q2⟩ := ZsH (show Zuu (t.E k) (t.HH k) (ZdY (t.HH k) (t.UP k)) chk = true from zc) hkp
             rw [ht.envs hk hp he1 hsl k (by omega) (by omega)] at q1 q2
             rw [q1] at ih'
             rw [ht.h k _ hq]
             exact app _ _ (q2.trans ih')
            ·cases hkp
      refine ⟨R.H, fun b blk hb _ => hb, ?_⟩
      rw [hop, ldE]
      have : Zc4 R.H 1 false (t.E j s') = some (t.VV j) := by
       refine Zmi (key K (by omega) (Nat.le_refl _)) fun b hb blk hbk hd => ?_
       obtain ⟨blk0, h5, h6⟩ := Zul hyl hb
       obtain ⟨g1, g2⟩ := see (by omega) b blk0 h5 h6
       have hbj : b < t.len j := (List.getElem?_eq_some_iff.1 g1).1
       rw [hH, Zf2]
       ·exact hbk
       ·rw [ZiT]
        intro m hm h3 h4
        rcases Nat.lt_or_ge m j with h | h
        ·exact g2 m h h3 h4
        ·have := ht.len_mono (a := j) m h (by omega); omega
      rw [this, hnw]; rfl
    ·obtain ⟨t1, t2⟩ := two h2
     refine ⟨_, fun b blk hb hd => ?_, by rw [hop]; exact y1⟩
     rw [ZV] at hb
     obtain ⟨g1, g2⟩ := see (by omega) b blk hb hd
     have hbj : b < t.len j := (List.getElem?_eq_some_iff.1 g1).1
     rw [ZV, hH, Zf2, ht.stay K (by omega) hK t2 b hbj]
     ·exact g1
     ·rw [ZiT]
      intro m hm h3 h4
      rcases Nat.lt_or_ge m j with h | h
      ·exact g2 m h h3 h4
      ·have := ht.len_mono (a := j) m h (by omega); omega
   obtain ⟨Hm, hle, hop'⟩ := hHm
   have pre : Pre G R w env a Hm := ⟨ok, x.gok c.ok.b01 c.g, hE, hle⟩
   have hplaced : Zac R.H [] (t.len j) (t.NW j) (ZhH t (upd D j) K) := fun i => by rw [stg i, hH]; rfl
   refine .inl ((Zwk pre c.cf k3 hop' free hplaced).wp fun u w' hpost => ?_)
   obtain ⟨R', x', ok', hH', hv, hM'⟩ := hpost
   exact fin K R' u w' hK hKd' hKn' x' ok' hH' (fun i h1 h2 => hM' i h1 (by omega)) hv
 ·
  have hjK : j = K := by
   rcases Nat.lt_trichotomy j K with h | h | h
   ·rw [hKd j p hp h hc] at hDj; cases hDj
   ·exact h
   ·obtain ⟨q, g1, g2, g3⟩ := hKn (by omega)
    rcases hk.order g1 hp g2 (by omega) with f | f | f
    ·omega
    ·rw [down K f.2] at g3; cases g3
    ·omega
  subst hjK
  have below : ∀ m q, l[m]? = some q → m < j → 2 ≤ ZaG q → D m = true := fun m q hq hm h2 => by
   rcases hk.order hp hq hc h2 with f | f | f
   ·omega
   ·omega
   ·exact down m f.2
  have above : ∀ m q, l[m]? = some q → j < m → 2 ≤ ZaG q → D m = false := fun m q hq hm h2 => by
   cases hd : D m with
   | false => rfl
   | true =>
    rcases hk.order hp hq hc h2 with f | f | f
    ·omega
    ·have := downD j m (List.getElem?_eq_some_iff.1 hq).1 hd f.2
     rw [hDj] at this; cases this
    ·omega
  have full : ZhH t D j = t.HH j := by
   apply List.ext_getElem?
   intro i
   refine Zf2 (ZiT.2 fun m hm h3 h4 => ?_)
   have hq : l[m]? = some (l[m]'(by omega)) := List.getElem?_eq_getElem (by omega)
   exact below m _ hq hm (ht.new2 hq ⟨h3, h4⟩)
  rw [full] at hH
  have go : ∀ (R' : RP) (u : Value) (w' : World), Ext R w R' w' → R'.OK w' → R'.H = t.HH (j + 1) → (∀ i, R.M i = none → ¬ (t.len j ≤ i ∧ i < t.len (j + 1)) → R'.M i = none) → ZaY R' w' (t.VV j) u → ZtV P N t l os e H Rf wf (upd D j) (a.put o.dst u) w' := by
   intro R' u w' x' ok' hH' hM' hv
   obtain ⟨K', g1, g2, g3, g4, g5⟩ := Zvl ht (D := upd D j) (s := j + 1) (by omega) ok' hH' (fun m q hq hm h2 => by
    unfold upd
    by_cases hmj : m = j
    ·rw [if_pos hmj]
    ·rw [if_neg hmj]; exact below m q hq (by omega) h2) (fun m q hq hm h2 => by
    unfold upd; rw [if_neg (by omega)]; exact above m q hq (by omega) h2)
   exact fin K' _ u w' g1 g2 g3 (x'.trans g4) g5 rfl hM' (g4.denV ok'.b01 _ _ hv)
  unfold wpOp
  simp only [ho]
  cases hw : t.W j with
  | false =>
   rw [hw] at hwant
   rw [hwant]
   simp only [Bool.false_eq_true, if_false]
   obtain ⟨n1, n2, n3⟩ := ht.n j p hp hw
   refine go R undef w (Ext.refl R w) ok ?_ (fun i h _ => h) (by rw [n1]; exact ZoB)
   rw [hH, ht.h j p hp, n2, n3]; simp [ZdY]
  | true =>
   rw [hw] at hwant
   rw [hwant]
   simp only [if_true]
   obtain ⟨y1, y2⟩ := ht.y j p hp hw
   rw [hk.mask j p hp hc] at y1
   have pre : Pre G R w env a (t.HH j) := ⟨ok, x.gok c.ok.b01 c.g, hE, fun b blk hb _ => by rw [hH]; exact hb⟩
   have hplaced : Zac R.H (t.UP j) (t.len j) (t.NW j) (t.HH (j + 1)) := by
    rw [hH, ht.h j p hp]; exact ZoU _ _ _
   refine .inl ((Zwk pre c.cf k3 (by rw [hop]; exact y1) free hplaced).wp fun u w' hpost => ?_)
   obtain ⟨R', x', ok', hH', hv, hM'⟩ := hpost
   exact go R' u w' x' ok' hH' (fun i h1 h2 => hM' i h1 (by omega)) hv
theorem ZpY {p q : Nat → Bool} : ∀ (l : List Nat) (j : Nat), (∀ x, q x = true → p x = true) → j ∈ l → p j = true → q j = false → l.countP q < l.countP p
 | [], j, _, h, _, _ => by cases h
 | x :: l, j, hq, h, h1, h2 => by
  have mono : ∀ l : List Nat, l.countP q ≤ l.countP p := fun l => List.countP_mono_left fun x _ h => hq x h
  rw [List.countP_cons, List.countP_cons]
  by_cases hx : x = j
  ·subst hx
   have := mono l
   rw [h1, h2]; simp; omega
  ·have := ZpY l j hq ((List.mem_cons.1 h).resolve_left (fun h => hx h.symm)) h1 h2
   cases hqx : q x with
   | true => rw [hq x hqx]; simp; omega
   | false => cases hpx : p x <;> simp <;> omega
theorem Zwo (c : Zmc P G cf Rf wf) (hlo : Rf.H.length ≤ H.length) (ht : t.OK Γ cf [] l e H e' H') (hk : Chk P G N os l B) {Q : Exit → Act → World → Prop} (hQ : ∀ D a w, (∀ j, j < l.length → D j = true) → ZtV P N t l os e H Rf wf D a w → Q .normal a w) :
  ∀ (fuel : Nat) (listed : Array Bool) (a : Act) (w : World), listed.size = os.size → ZtV P N t l os e H Rf wf (fun j => listed.getD j false) a w → (List.range os.size).countP (fun j => !listed.getD j false) ≤ fuel → wpAny P .any os Q fuel listed a w := by
 have full : ∀ (listed : Array Bool), listed.size = os.size → (Region.ready .any os listed = []) → ∀ j, j < l.length → listed.getD j false = true := by
  intro listed hsz hr j
  induction j using Nat.strongRecOn with
  | ind j ih =>
   intro hj
   have hjs : j < os.size := by rw [hk.len]; exact hj
   cases hd : listed.getD j false with
   | true => rfl
   | false =>
    have : j ∈ Region.ready .any os listed := by
     rw [mem_ready]
     refine ⟨?_, os[j], Array.getElem?_eq_getElem hjs, fun ed he hb => ?_⟩
     ·simp only [Array.getD_eq_getD_getElem?] at hd ⊢
      rw [Array.getElem?_eq_getElem (by omega)] at hd ⊢; exact hd
     ·have hlt := hk.pre j _ (Array.getElem?_eq_getElem hjs) ed.on (by
       unfold Zni
       exact List.mem_map.2 ⟨ed, List.mem_filter.2 ⟨by simpa using he, hb⟩, rfl⟩)
      exact ih ed.on hlt (by omega)
    rw [hr] at this; cases this
 intro fuel
 induction fuel with
 | zero =>
  intro listed a w hsz s hc
  have hall : ∀ j, j < l.length → listed.getD j false = true := fun j hj => by
   cases hd : listed.getD j false with
   | true => rfl
   | false =>
    have h1 : 0 < (List.range os.size).countP (fun j => !listed.getD j false) := List.countP_pos_iff.2 ⟨j, by simp [hk.len, hj], by simp only [hd]; rfl⟩
    omega
  refine ⟨?_, hQ _ a w hall s⟩
  apply List.eq_nil_iff_forall_not_mem.2
  intro j hj
  obtain ⟨h1, o, h2, _⟩ := mem_ready.1 hj
  have hjs := (Array.getElem?_eq_some_iff.1 h2).1
  have := hall j (by rw [← hk.len]; exact hjs)
  simp only [Array.getD_eq_getD_getElem?] at h1 this
  rw [Array.getElem?_eq_getElem (by omega)] at h1 this
  simp at h1 this; rw [h1] at this; cases this
 | succ fuel ih =>
  intro listed a w hsz s hc
  refine ⟨fun hr => hQ _ a w (full listed hsz hr) s, fun j hj => ?_⟩
  obtain ⟨h1, o, h2, h3⟩ := mem_ready.1 hj
  have hjs := (Array.getElem?_eq_some_iff.1 h2).1
  have hd : listed.getD j false = false := by
   simp only [Array.getD_eq_getD_getElem?] at h1 ⊢
   rw [Array.getElem?_eq_getElem (by omega)] at h1 ⊢; exact h1
  have hup : upd (fun j => listed.getD j false) j = fun k => (listed.setIfInBounds j true).getD k false := by
   funext k
   unfold upd
   by_cases hkj : k = j
   ·subst hkj
    rw [if_pos rfl]
    simp [Array.getD_eq_getD_getElem?, hsz, hjs]
   ·rw [if_neg hkj, getD_set_ne false (fun h => hkj h.symm)]
  refine wpOp_mono (fun a' w' s' => ih _ a' w' (by simp [hsz]) s' ?_) (hup ▸ step c hlo ht hk s h2 hd fun i hi => ?_)
  ·have := ZpY (p := fun j => !listed.getD j false) (q := fun k => !(listed.setIfInBounds j true).getD k false) (List.range os.size) j (fun k hk' => by
    by_cases hkj : j = k
    ·subst hkj; simp only [hd]; rfl
    ·rw [getD_set_ne false hkj] at hk'; exact hk') (by simp [hjs]) (by simp only [hd]; rfl) (by simp [Array.getD_eq_getD_getElem?, hsz, hjs])
   omega
  ·unfold Zni at hi
   obtain ⟨ed, f1, rfl⟩ := List.mem_map.1 hi
   obtain ⟨f2, f3⟩ := List.mem_filter.1 f1
   exact h3 ed (by simpa using f2) f3
end
theorem Zxu {P : Program} {G : Zbr} {N : Nat} {Γ : Ctx} {cf : Zbf} : Zpi P G N Γ cf (ZC P G N) := by
 intro id os l Rf wf e H e' H' a w hok hd c s
 obtain ⟨B, hk⟩ := Zsc hok
 obtain ⟨t, ht⟩ := Zoq l [] e H e' H' hd
 obtain ⟨R, x, ok, hH, hM, hE⟩ := s.ex
 refine wp_region_any hk.mixed ?_
 have xd : Ext R w R { w with drawn := w.drawn + 1 } := Ext.draw rfl rfl rfl rfl
 have okd : R.OK { w with drawn := w.drawn + 1 } := ok.draw rfl rfl rfl rfl
 refine Zwo c s.hl ht hk (fun D a' w' hall s' => ?_) os.size _ a _ (by simp) ?_ ?_
 ·obtain ⟨K, R', env, h1, h2, h3, x', ok', hH', hM', hE', hV, hO⟩ := s'.ex
  have hKl : K = l.length := by
   rcases Nat.lt_or_ge K l.length with h | h
   ·obtain ⟨_, _, _, h4⟩ := h3 h
    rw [hall K h] at h4; cases h4
   ·omega
  subst hKl
  have hHe : ZhH t D l.length = H' := by
   rw [← ht.h1]
   apply List.ext_getElem?
   intro i
   exact Zf2 (ZiT.2 fun m hm _ _ => hall m hm)
  have hle : H.length ≤ H'.length := by
   have := ht.len_mono (a := 0) l.length (by omega) (Nat.le_refl _)
   unfold Zct.len at this; rw [ht.h0, ht.h1] at this; exact this
  have henv : ∀ d, env d = e' d := fun d => by
   rw [← ht.e1]
   by_cases hx : ∃ (i : Nat) (q : Op1), l[i]? = some q ∧ q.dst = some d
   ·obtain ⟨i, q, hq, hqd⟩ := hx
    have hi := (List.getElem?_eq_some_iff.1 hq).1
    rw [hV i q d hq hqd (hall i hi), ht.envd hk hq hqd l.length hi (Nat.le_refl _)]
   ·have hn : ∀ (i : Nat) (q : Op1), l[i]? = some q → q.dst ≠ some d := fun i q hq hqd => hx ⟨i, q, hq, hqd⟩
    rw [hO d fun i q hq hqd => absurd hqd (hn i q hq), ht.env0 l.length (Nat.le_refl _) fun i q _ hq => hn i q hq]
  refine ⟨rfl, ⟨⟨R', x', ok', by rw [hH', hHe], fun i hi => hM' i (by omega) fun j hj _ hb => ?_, fun d => by rw [← henv d]; exact hE' d⟩, s'.tm, s'.df, by have := s.hl; omega⟩⟩
  have := ht.len_mono (a := j + 1) l.length (by omega) (Nat.le_refl _)
  have h2 : t.len l.length = H'.length := by unfold Zct.len; rw [ht.h1]
  omega
 ·have hf : ∀ j, (Array.replicate os.size false).getD j false = false := fun j => by
   by_cases hj : j < os.size <;> simp [Array.getD_eq_getD_getElem?, hj]
  obtain ⟨K, g1, g2, g3, g4, g5⟩ := Zvl ht (D := fun j => (Array.replicate os.size false).getD j false) (s := 0) (Nat.zero_le _) okd (by rw [ht.h0]; exact hH) (fun m p _ hm => by omega) (fun m p _ _ _ => hf m)
  refine ⟨fun j o _ hd => (by rw [hf j] at hd; cases hd), ⟨K, _, e, g1, g2, g3, (x.trans xd).trans g4, g5, rfl, fun i hi _ => hM i hi, g4.envOK okd.b01 (xd.envOK ok.b01 hE), fun j p d _ _ hd => (by rw [hf j] at hd; cases hd), fun d _ => rfl⟩, s.tm, s.df⟩
 ·exact Nat.le_trans List.countP_le_length (by simp)
theorem ZvX {P : Program} {G : Zbr} {Γ : Ctx} (hall : ∀ f fn, Γ.code f = some fn → Zax P G (fun N => ZC P G N) f fn = true ∨ ZoV P f fn) : ZfA P G (evW Γ) :=
 ZzM (fun _ _ _ => Zxu) hall
end Go.Proofs.YtnmbdjkbaihicaaDoorE
namespace Go.Proofs.YtnmbdjkbaihicaaDoor
open Go Go.Proofs.YtnmbdjkbaihicaaDoorE
def Zyk : List (IntKind × Int) := [(.u8, 0), (.u8, 1), (.u8, 28), (.u8, 2), (.u8, 29), (.u8, 14), (.u8, 24), (.u8, 3), (.u8, 30), (.u8, 22), (.u8, 20), (.u8, 15), (.u8, 25), (.u8, 17), (.u8, 4), (.u8, 8), (.u8, 31), (.u8, 27), (.u8, 13), (.u8, 23), (.u8, 21), (.u8, 19), (.u8, 16), (.u8, 7), (.u8, 26), (.u8, 12), (.u8, 18), (.u8, 6), (.u8, 11), (.u8, 5), (.u8, 10), (.u8, 9)]
def Zyj : List (IntKind × Int) := [(.u8, 0), (.u8, 1), (.u8, 56), (.u8, 2), (.u8, 57), (.u8, 49), (.u8, 28), (.u8, 3), (.u8, 61), (.u8, 58), (.u8, 42), (.u8, 50), (.u8, 38), (.u8, 29), (.u8, 17), (.u8, 4), (.u8, 62), (.u8, 47), (.u8, 59), (.u8, 36), (.u8, 45), (.u8, 43), (.u8, 51), (.u8, 22), (.u8, 53), (.u8, 39), (.u8, 33), (.u8, 30), (.u8, 24), (.u8, 18), (.u8, 12), (.u8, 5), (.u8, 63), (.u8, 55), (.u8, 48), (.u8, 27), (.u8, 60), (.u8, 41), (.u8, 37), (.u8, 16), (.u8, 46), (.u8, 35), (.u8, 44), (.u8, 21), (.u8, 52), (.u8, 32), (.u8, 23), (.u8, 11), (.u8, 54), (.u8, 26), (.u8, 40), (.u8, 15), (.u8, 34), (.u8, 20), (.u8, 31), (.u8, 10), (.u8, 25), (.u8, 14), (.u8, 19), (.u8, 9), (.u8, 13), (.u8, 8), (.u8, 7), (.u8, 6)]
def Zr : Zbr
 | 0 => some Zyk
 | 1 => some Zyj
 | _ => none
theorem ok7 : Zax Tryd.prog Zr (fun N => ZC Tryd.prog Zr N) 7 fn7 = true := by kernel_rfl
theorem ZCO : Zax Tryd.prog Zr (fun N => ZC Tryd.prog Zr N) 15 ZyH = true := by kernel_rfl
theorem ZDd : Zax Tryd.prog Zr (fun N => ZC Tryd.prog Zr N) 20 ZyA = true := by kernel_rfl
theorem ZB7 : Zax Tryd.prog Zr (fun N => ZC Tryd.prog Zr N) 22 ZBg = true := by kernel_rfl
theorem ZDt : Zax Tryd.prog Zr (fun N => ZC Tryd.prog Zr N) 23 Zzq = true := by kernel_rfl
theorem ZBE : Zax Tryd.prog Zr (fun N => ZC Tryd.prog Zr N) 24 ZAF = true := by kernel_rfl
theorem ZDf : Zax Tryd.prog Zr (fun N => ZC Tryd.prog Zr N) 28 ZAz = true := by kernel_rfl
theorem ZC4 : Zax Tryd.prog Zr (fun N => ZC Tryd.prog Zr N) 29 ZyQ = true := by kernel_rfl
theorem ZB1 : Zax Tryd.prog Zr (fun N => ZC Tryd.prog Zr N) 30 Zzt = true := by kernel_rfl
theorem ZCE : Zax Tryd.prog Zr (fun N => ZC Tryd.prog Zr N) 31 ZAI = true := by kernel_rfl
theorem ZCf : Zax Tryd.prog Zr (fun N => ZC Tryd.prog Zr N) 32 ZAD = true := by kernel_rfl
theorem ZCs : Zax Tryd.prog Zr (fun N => ZC Tryd.prog Zr N) 33 ZzJ = true := by kernel_rfl
theorem ZBN : Zax Tryd.prog Zr (fun N => ZC Tryd.prog Zr N) 34 ZzD = true := by kernel_rfl
theorem ZBU : Zax Tryd.prog Zr (fun N => ZC Tryd.prog Zr N) 35 Zyt = true := by kernel_rfl
theorem ZCA : Zax Tryd.prog Zr (fun N => ZC Tryd.prog Zr N) 36 ZyG = true := by kernel_rfl
theorem ZCP : Zax Tryd.prog Zr (fun N => ZC Tryd.prog Zr N) 37 ZyS = true := by kernel_rfl
theorem ZDu : Zax Tryd.prog Zr (fun N => ZC Tryd.prog Zr N) 39 Zzj = true := by kernel_rfl
theorem ZCS : Zax Tryd.prog Zr (fun N => ZC Tryd.prog Zr N) 40 ZyF = true := by kernel_rfl
theorem ZCJ : Zax Tryd.prog Zr (fun N => ZC Tryd.prog Zr N) 46 Zzf = true := by kernel_rfl
theorem ZCX : Zax Tryd.prog Zr (fun N => ZC Tryd.prog Zr N) 47 Zzm = true := by kernel_rfl
theorem ZCh : Zax Tryd.prog Zr (fun N => ZC Tryd.prog Zr N) 48 ZyP = true := by kernel_rfl
theorem ZDc : Zax Tryd.prog Zr (fun N => ZC Tryd.prog Zr N) 49 Zzv = true := by kernel_rfl
theorem ZDi : Zax Tryd.prog Zr (fun N => ZC Tryd.prog Zr N) 50 ZzF = true := by kernel_rfl
theorem ZDe : Zax Tryd.prog Zr (fun N => ZC Tryd.prog Zr N) 51 ZzA = true := by kernel_rfl
theorem ZDs : Zax Tryd.prog Zr (fun N => ZC Tryd.prog Zr N) 52 Zy9 = true := by kernel_rfl
theorem ZBV : Zax Tryd.prog Zr (fun N => ZC Tryd.prog Zr N) 53 ZzE = true := by kernel_rfl
theorem ZB5 : Zax Tryd.prog Zr (fun N => ZC Tryd.prog Zr N) 54 ZyO = true := by kernel_rfl
theorem ZCk : Zax Tryd.prog Zr (fun N => ZC Tryd.prog Zr N) 55 Zy2 = true := by kernel_rfl
theorem ZDl : Zax Tryd.prog Zr (fun N => ZC Tryd.prog Zr N) 56 ZA1 = true := by kernel_rfl
theorem ZCY : Zax Tryd.prog Zr (fun N => ZC Tryd.prog Zr N) 57 ZBA = true := by kernel_rfl
theorem ZCF : Zax Tryd.prog Zr (fun N => ZC Tryd.prog Zr N) 58 Zzr = true := by kernel_rfl
theorem ZCq : Zax Tryd.prog Zr (fun N => ZC Tryd.prog Zr N) 59 ZyC = true := by kernel_rfl
theorem ZCD : Zax Tryd.prog Zr (fun N => ZC Tryd.prog Zr N) 60 ZyK = true := by kernel_rfl
theorem ZCW : Zax Tryd.prog Zr (fun N => ZC Tryd.prog Zr N) 61 Zyv = true := by kernel_rfl
theorem ZCn : Zax Tryd.prog Zr (fun N => ZC Tryd.prog Zr N) 62 Zyy = true := by kernel_rfl
theorem ZCw : Zax Tryd.prog Zr (fun N => ZC Tryd.prog Zr N) 64 Zzb = true := by kernel_rfl
theorem ZBW : Zax Tryd.prog Zr (fun N => ZC Tryd.prog Zr N) 65 ZyN = true := by kernel_rfl
theorem ZCI : Zax Tryd.prog Zr (fun N => ZC Tryd.prog Zr N) 74 Zza = true := by kernel_rfl
theorem ZDv : Zax Tryd.prog Zr (fun N => ZC Tryd.prog Zr N) 76 Zy1 = true := by kernel_rfl
theorem ZDb : Zax Tryd.prog Zr (fun N => ZC Tryd.prog Zr N) 78 ZyU = true := by kernel_rfl
theorem ZC5 : Zax Tryd.prog Zr (fun N => ZC Tryd.prog Zr N) 79 Zy8 = true := by kernel_rfl
theorem ZBK : Zax Tryd.prog Zr (fun N => ZC Tryd.prog Zr N) 80 Zzs = true := by kernel_rfl
theorem ZBX : Zax Tryd.prog Zr (fun N => ZC Tryd.prog Zr N) 81 ZyB = true := by kernel_rfl
theorem ZDa : Zax Tryd.prog Zr (fun N => ZC Tryd.prog Zr N) 82 ZzO = true := by kernel_rfl
theorem ZBZ : Zax Tryd.prog Zr (fun N => ZC Tryd.prog Zr N) 83 Zzd = true := by kernel_rfl
theorem ZDj : Zax Tryd.prog Zr (fun N => ZC Tryd.prog Zr N) 84 ZyD = true := by kernel_rfl
theorem ZB2 : Zax Tryd.prog Zr (fun N => ZC Tryd.prog Zr N) 85 Zzn = true := by kernel_rfl
theorem ZDr : Zax Tryd.prog Zr (fun N => ZC Tryd.prog Zr N) 86 Zys = true := by kernel_rfl
theorem ZCi : Zax Tryd.prog Zr (fun N => ZC Tryd.prog Zr N) 87 ZzG = true := by kernel_rfl
theorem ZCR : Zax Tryd.prog Zr (fun N => ZC Tryd.prog Zr N) 88 ZzN = true := by kernel_rfl
theorem ZDw : Zax Tryd.prog Zr (fun N => ZC Tryd.prog Zr N) 89 Zzz = true := by kernel_rfl
theorem ZC6 : Zax Tryd.prog Zr (fun N => ZC Tryd.prog Zr N) 90 Zzp = true := by kernel_rfl
theorem ZCe : Zax Tryd.prog Zr (fun N => ZC Tryd.prog Zr N) 91 Zzh = true := by kernel_rfl
theorem ZC7 : Zax Tryd.prog Zr (fun N => ZC Tryd.prog Zr N) 92 Zzg = true := by kernel_rfl
theorem ZCT : Zax Tryd.prog Zr (fun N => ZC Tryd.prog Zr N) 93 Zy3 = true := by kernel_rfl
theorem ZCV : Zax Tryd.prog Zr (fun N => ZC Tryd.prog Zr N) 94 ZAp = true := by kernel_rfl
theorem ZCz : Zax Tryd.prog Zr (fun N => ZC Tryd.prog Zr N) 95 ZyZ = true := by kernel_rfl
theorem ZCl : Zax Tryd.prog Zr (fun N => ZC Tryd.prog Zr N) 96 Zze = true := by kernel_rfl
theorem ZDn : Zax Tryd.prog Zr (fun N => ZC Tryd.prog Zr N) 97 Zzc = true := by kernel_rfl
theorem ZDp : Zax Tryd.prog Zr (fun N => ZC Tryd.prog Zr N) 98 ZzL = true := by kernel_rfl
theorem ZCM : Zax Tryd.prog Zr (fun N => ZC Tryd.prog Zr N) 99 ZyM = true := by kernel_rfl
theorem ZAs : Zax Tryd.prog Zr (fun N => ZC Tryd.prog Zr N) 100 Zwr = true := by kernel_rfl
theorem ZAm : Zax Tryd.prog Zr (fun N => ZC Tryd.prog Zr N) 101 Zu9 = true := by kernel_rfl
theorem Zz4 : Zax Tryd.prog Zr (fun N => ZC Tryd.prog Zr N) 106 Zvf = true := by kernel_rfl
theorem ZAY : Zax Tryd.prog Zr (fun N => ZC Tryd.prog Zr N) 107 ZwL = true := by kernel_rfl
theorem ZBi : Zax Tryd.prog Zr (fun N => ZC Tryd.prog Zr N) 108 Zvk = true := by kernel_rfl
theorem ZAE : Zax Tryd.prog Zr (fun N => ZC Tryd.prog Zr N) 109 Zwe = true := by kernel_rfl
theorem ZAk : Zax Tryd.prog Zr (fun N => ZC Tryd.prog Zr N) 110 Zvp = true := by kernel_rfl
theorem ZBz : Zax Tryd.prog Zr (fun N => ZC Tryd.prog Zr N) 111 ZvW = true := by kernel_rfl
theorem ZAT : Zax Tryd.prog Zr (fun N => ZC Tryd.prog Zr N) 112 Zvg = true := by kernel_rfl
theorem ZAB : Zax Tryd.prog Zr (fun N => ZC Tryd.prog Zr N) 113 ZuM = true := by kernel_rfl
theorem ZBh : Zax Tryd.prog Zr (fun N => ZC Tryd.prog Zr N) 114 ZwO = true := by kernel_rfl
theorem Zz9 : Zax Tryd.prog Zr (fun N => ZC Tryd.prog Zr N) 115 ZvJ = true := by kernel_rfl
theorem Zz6 : Zax Tryd.prog Zr (fun N => ZC Tryd.prog Zr N) 116 ZuQ = true := by kernel_rfl
theorem ZAG : Zax Tryd.prog Zr (fun N => ZC Tryd.prog Zr N) 117 ZwP = true := by kernel_rfl
theorem ZBn : Zax Tryd.prog Zr (fun N => ZC Tryd.prog Zr N) 118 Zws = true := by kernel_rfl
theorem Zz5 : Zax Tryd.prog Zr (fun N => ZC Tryd.prog Zr N) 120 Zyr = true := by kernel_rfl
theorem ZBD : Zax Tryd.prog Zr (fun N => ZC Tryd.prog Zr N) 121 Zvb = true := by kernel_rfl
theorem ZAC : Zax Tryd.prog Zr (fun N => ZC Tryd.prog Zr N) 122 Zym = true := by kernel_rfl
theorem ZA3 : Zax Tryd.prog Zr (fun N => ZC Tryd.prog Zr N) 123 Zww = true := by kernel_rfl
theorem ZBk : Zax Tryd.prog Zr (fun N => ZC Tryd.prog Zr N) 124 Zu6 = true := by kernel_rfl
theorem ZAf : Zax Tryd.prog Zr (fun N => ZC Tryd.prog Zr N) 125 ZvN = true := by kernel_rfl
theorem ZAS : Zax Tryd.prog Zr (fun N => ZC Tryd.prog Zr N) 126 Zvr = true := by kernel_rfl
theorem ZzR : Zax Tryd.prog Zr (fun N => ZC Tryd.prog Zr N) 127 ZvR = true := by kernel_rfl
theorem ZBp : Zax Tryd.prog Zr (fun N => ZC Tryd.prog Zr N) 128 Zv4 = true := by kernel_rfl
theorem ZBr : Zax Tryd.prog Zr (fun N => ZC Tryd.prog Zr N) 129 ZuT = true := by kernel_rfl
theorem ZBC : Zax Tryd.prog Zr (fun N => ZC Tryd.prog Zr N) 130 Zw4 = true := by kernel_rfl
theorem ZBc : Zax Tryd.prog Zr (fun N => ZC Tryd.prog Zr N) 131 Zvy = true := by kernel_rfl
theorem ZzT : Zax Tryd.prog Zr (fun N => ZC Tryd.prog Zr N) 132 ZvI = true := by kernel_rfl
theorem ZAO : Zax Tryd.prog Zr (fun N => ZC Tryd.prog Zr N) 133 ZvF = true := by kernel_rfl
theorem ZzX : Zax Tryd.prog Zr (fun N => ZC Tryd.prog Zr N) 134 Zyi = true := by kernel_rfl
theorem ZA4 : Zax Tryd.prog Zr (fun N => ZC Tryd.prog Zr N) 135 ZvH = true := by kernel_rfl
theorem Zz2 : Zax Tryd.prog Zr (fun N => ZC Tryd.prog Zr N) 136 Zwn = true := by kernel_rfl
theorem ZBj : Zax Tryd.prog Zr (fun N => ZC Tryd.prog Zr N) 137 ZvP = true := by kernel_rfl
theorem ZBf : Zax Tryd.prog Zr (fun N => ZC Tryd.prog Zr N) 138 Zve = true := by kernel_rfl
theorem ZAb : Zax Tryd.prog Zr (fun N => ZC Tryd.prog Zr N) 139 ZuG = true := by kernel_rfl
theorem ZAo : Zax Tryd.prog Zr (fun N => ZC Tryd.prog Zr N) 140 ZuH = true := by kernel_rfl
theorem ZBs : Zax Tryd.prog Zr (fun N => ZC Tryd.prog Zr N) 141 ZwJ = true := by kernel_rfl
theorem ZAj : ∀ f fn, ctx.code f = some fn → Zax Tryd.prog Zr (fun N => ZC Tryd.prog Zr N) f fn = true ∨ ZoV Tryd.prog f fn := by
 intro f fn h
 change code f = some fn at h
 unfold code at h
 split at h
 ·cases h; exact .inl ok7
 ·cases h; exact .inl ZCO
 ·cases h; exact .inl ZDd
 ·cases h; exact .inl ZB7
 ·cases h; exact .inl ZDt
 ·cases h; exact .inl ZBE
 ·cases h; exact .inl ZDf
 ·cases h; exact .inl ZC4
 ·cases h; exact .inl ZB1
 ·cases h; exact .inl ZCE
 ·cases h; exact .inl ZCf
 ·cases h; exact .inl ZCs
 ·cases h; exact .inl ZBN
 ·cases h; exact .inl ZBU
 ·cases h; exact .inl ZCA
 ·cases h; exact .inl ZCP
 ·cases h; exact .inl ZDu
 ·cases h; exact .inl ZCS
 ·cases h; exact .inl ZCJ
 ·cases h; exact .inl ZCX
 ·cases h; exact .inl ZCh
 ·cases h; exact .inl ZDc
 ·cases h; exact .inl ZDi
 ·cases h; exact .inl ZDe
 ·cases h; exact .inl ZDs
 ·cases h; exact .inl ZBV
 ·cases h; exact .inl ZB5
 ·cases h; exact .inl ZCk
 ·cases h; exact .inl ZDl
 ·cases h; exact .inl ZCY
 ·cases h; exact .inl ZCF
 ·cases h; exact .inl ZCq
 ·cases h; exact .inl ZCD
 ·cases h; exact .inl ZCW
 ·cases h; exact .inl ZCn
 ·cases h; exact .inl ZCw
 ·cases h; exact .inl ZBW
 ·cases h; exact .inl ZCI
 ·cases h; exact .inl ZDv
 ·cases h; exact .inl ZDb
 ·cases h; exact .inl ZC5
 ·cases h; exact .inl ZBK
 ·cases h; exact .inl ZBX
 ·cases h; exact .inl ZDa
 ·cases h; exact .inl ZBZ
 ·cases h; exact .inl ZDj
 ·cases h; exact .inl ZB2
 ·cases h; exact .inl ZDr
 ·cases h; exact .inl ZCi
 ·cases h; exact .inl ZCR
 ·cases h; exact .inl ZDw
 ·cases h; exact .inl ZC6
 ·cases h; exact .inl ZCe
 ·cases h; exact .inl ZC7
 ·cases h; exact .inl ZCT
 ·cases h; exact .inl ZCV
 ·cases h; exact .inl ZCz
 ·cases h; exact .inl ZCl
 ·cases h; exact .inl ZDn
 ·cases h; exact .inl ZDp
 ·cases h; exact .inl ZCM
 ·cases h; exact .inl ZAs
 ·cases h; exact .inl ZAm
 ·cases h; exact .inl Zz4
 ·cases h; exact .inl ZAY
 ·cases h; exact .inl ZBi
 ·cases h; exact .inl ZAE
 ·cases h; exact .inl ZAk
 ·cases h; exact .inl ZBz
 ·cases h; exact .inl ZAT
 ·cases h; exact .inl ZAB
 ·cases h; exact .inl ZBh
 ·cases h; exact .inl Zz9
 ·cases h; exact .inl Zz6
 ·cases h; exact .inl ZAG
 ·cases h; exact .inl ZBn
 ·cases h; exact .inl Zz5
 ·cases h; exact .inl ZBD
 ·cases h; exact .inl ZAC
 ·cases h; exact .inl ZA3
 ·cases h; exact .inl ZBk
 ·cases h; exact .inl ZAf
 ·cases h; exact .inl ZAS
 ·cases h; exact .inl ZzR
 ·cases h; exact .inl ZBp
 ·cases h; exact .inl ZBr
 ·cases h; exact .inl ZBC
 ·cases h; exact .inl ZBc
 ·cases h; exact .inl ZzT
 ·cases h; exact .inl ZAO
 ·cases h; exact .inl ZzX
 ·cases h; exact .inl ZA4
 ·cases h; exact .inl Zz2
 ·cases h; exact .inl ZBj
 ·cases h; exact .inl ZBf
 ·cases h; exact .inl ZAb
 ·cases h; exact .inl ZAo
 ·cases h; exact .inl ZBs
 ·cases h
theorem ZzZ : ZfA Tryd.prog Zr (evW ctx) := ZvX ZAj
end Go.Proofs.YtnmbdjkbaihicaaDoor
namespace Go.Proofs.YtnmbdjkbaihicaaDoorE
open Go
set_option linter.unusedVariables false
set_option linter.unusedSimpArgs false
inductive Lf where
 | bool | int (k : IntKind) | str | sl (ag : Bool) (els : List Lf)
mutual
def ZxE : Lf → D → Prop
 | .bool, x => ∃ b, x = .bool b
 | .int k, x => ∃ n, x = .int k n ∧ (Lit.int k n).wf = true
 | .str, x => ∃ s, x = .str s ∧ s.size ≤ maxLen
 | .sl ag els, x => ∃ xs, x = .list true xs ∧ xs.length ≤ maxLen ∧ ∀ y ∈ xs, y.isAgg = ag ∧ Zgr els y.cells
def Zgr : List Lf → List D → Prop
 | [], ds => ds = []
 | l :: ls, ds => ∃ d r, ds = d :: r ∧ ZxE l d ∧ Zgr ls r
end
def Zi1 (P : Program) (g : TypeId → Option (List Lf × Bool)) : Nat → List Field → Option (List Lf)
 | _, [] => some []
 | off, f :: fs => match g f.type with
  | some (l, _) => (match Zi1 P g (off + l.length) fs with
   | some r => bif Nat.beq f.offset off && Nat.beq (P.cellsOf f.type) l.length then some (l ++ r) else none
   | none => none)
  | none => none
def lfs (P : Program) : Nat → TypeId → Option (List Lf × Bool)
 | 0, _ => none
 | n + 1, t => match P.underlying t with
  | some .bool => some ([.bool], false)
  | some (.int k) => some ([.int k], false)
  | some .string => some ([.str], false)
  | some (.slice e) => (match lfs P n e with | some (l, ag) => bif Nat.beq (P.cellsOf e) l.length && Nat.blt 0 l.length then some ([.sl ag l], false) else none | none => none)
  | some (.struct fs) => (match Zi1 P (lfs P n) 0 fs.toList with | some l => bif Nat.beq (P.cellsOf t) l.length then some (l, true) else none | none => none)
  | _ => none
mutual
theorem ZrH : ∀ (l : Lf) (x : D), ZxE l x → x.esc = true ∧ x.isAgg = false ∧ x.cells = [x]
 | .bool, x, h => by obtain ⟨b, rfl⟩ := h; exact ⟨rfl, rfl, rfl⟩
 | .int k, x, h => by obtain ⟨n, rfl, _⟩ := h; exact ⟨rfl, rfl, rfl⟩
 | .str, x, h => by obtain ⟨s, rfl, _⟩ := h; exact ⟨rfl, rfl, rfl⟩
 | .sl ag els, x, h => by obtain ⟨xs, rfl, _⟩ := h; exact ⟨rfl, rfl, rfl⟩
theorem ZpV : ∀ (ls : List Lf) (ds : List D), Zgr ls ds → D.escs ds = true ∧ ds.length = ls.length
 | [], ds, h => by obtain rfl := h; exact ⟨rfl, rfl⟩
 | l :: ls, ds, h => by
  obtain ⟨d, r, rfl, h1, h2⟩ := h
  obtain ⟨e1, e2, _⟩ := ZrH l d h1
  obtain ⟨e3, e4⟩ := ZpV ls r h2
  exact ⟨by simp [D.escs, e1, e2, e3], by simp [e4]⟩
end
theorem Zqd : ∀ (l r : List Lf) (ds es : List D), Zgr l ds → Zgr r es → Zgr (l ++ r) (ds ++ es)
 | [], r, ds, es, h, k => by obtain rfl := h; exact k
 | a :: l, r, ds, es, h, k => by
  obtain ⟨d, ds', rfl, h1, h2⟩ := h
  exact ⟨d, ds' ++ es, rfl, h1, Zqd l r ds' es h2 k⟩
section
variable {H : Type} {enc : TypeId × Value → H} {P : Program} {W : World} {sp : Nat → Bool} {held : Bool}
abbrev All : Nat → Prop := fun _ => True
theorem ZpE : ∀ (ds es : List D) (us vs : List Value), ZaP All All All W ds us → ZaP All All All W es vs → ZaP All All All W (ds ++ es) (us ++ vs)
 | [], es, us, vs, h, k => by obtain rfl := h; exact k
 | x :: ds, es, us, vs, h, k => by
  obtain ⟨u, us', rfl, h1, h2⟩ := h
  exact ⟨u, us' ++ vs, rfl, h1, ZpE ds es us' vs h2 k⟩
theorem ZrA {a : Addr} {n : Nat} {cs : List Value} (h : W.cells? 0 a n = some cs) : cs.length = n ∧ ∀ k, k < n → W.cell? (a.add k) = cs[k]? := by
 unfold World.cells? at h
 rw [if_pos (Nat.zero_le _)] at h
 exact ⟨by simpa using mapM_some_length h, fun k hk => mapM_some_get h k k (by simp [hk])⟩
theorem ZpM {g : TypeId → Option (List Lf × Bool)} {m : Nat} {cs : List Value}
  (hg : ∀ t l ag cs x, g t = some (l, ag) → DataW.trod enc P W 0 sp held m t cs = some x → ∃ ds, ZaP All All All W ds cs ∧ Zgr l ds) :
  ∀ (fs : List Field) (off : Nat) (l : List Lf) (xs : List (DataW H × List MemPlace)), Zi1 P g off fs = some l → xs.length = fs.length → off + l.length ≤ cs.length →
   (∀ (i : Nat) f, fs[i]? = some f → DataW.trod enc P W 0 sp held m f.type ((cs.drop f.offset).take (P.cellsOf f.type)) = xs[i]?) → ∃ ds, ZaP All All All W ds ((cs.drop off).take l.length) ∧ Zgr l ds
 | [], off, l, xs, h, _, _, _ => by
  simp only [Zi1, Option.some.injEq] at h
  subst h
  exact ⟨[], by simp [ZaP], rfl⟩
 | f :: fs, off, l, xs, h, hl, hle, hx => by
  simp only [Zi1] at h
  cases hgf : g f.type with
  | none => rw [hgf] at h; cases h
  | some q =>
   obtain ⟨l1, ag⟩ := q
   rw [hgf] at h
   dsimp only at h
   cases hr : Zi1 P g (off + l1.length) fs with
   | none => rw [hr] at h; cases h
   | some r =>
    rw [hr] at h
    dsimp only at h
    cases hc : (Nat.beq f.offset off && Nat.beq (P.cellsOf f.type) l1.length) with
    | false => rw [hc] at h; cases h
    | true =>
     rw [hc] at h
     simp only [cond_true, Option.some.injEq] at h
     subst h
     simp only [Bool.and_eq_true] at hc
     have h1 := Nat.eq_of_beq_eq_true hc.1
     have h2 := Nat.eq_of_beq_eq_true hc.2
     rw [List.length_append] at hle
     cases xs with
     | nil => simp at hl
     | cons x xs =>
      have hx0 := hx 0 f rfl
      rw [h1, h2] at hx0
      simp only [List.getElem?_cons_zero] at hx0
      obtain ⟨d1, e1, e2⟩ := hg f.type l1 ag _ x hgf hx0
      obtain ⟨d2, e3, e4⟩ := ZpM (cs := cs) hg fs (off + l1.length) r xs hr (by simpa using hl) (by omega) (fun i f' hf' => by simpa using hx (i + 1) f' (by simpa using hf'))
      refine ⟨d1 ++ d2, ?_, Zqd _ _ _ _ e2 e4⟩
      have hspl : (cs.drop off).take (l1 ++ r).length = (cs.drop off).take l1.length ++ (cs.drop (off + l1.length)).take r.length := by
       rw [List.length_append, List.take_add, List.drop_drop]
      rw [hspl]
      exact ZpE _ _ _ _ e1 e3
theorem Zpb : ∀ (n : Nat) (t : TypeId) (l : List Lf) (ag : Bool), lfs P n t = some (l, ag) → ∀ (fuel : Nat) (cs : List Value) (x : DataW H × List MemPlace), DataW.trod enc P W 0 sp held fuel t cs = some x →
  ∃ ds, ZaP All All All W ds cs ∧ Zgr l ds ∧ (ag = false → ∃ u y, cs = [u] ∧ ds = [y] ∧ u.cells = #[u] ∧ y.isAgg = false)
 | 0, t, l, ag, h, fuel, cs, x, hx => by cases h
 | n + 1, t, l, ag, h, fuel, cs, x, hx => by
  simp only [lfs] at h
  split at h
  ·rename_i ht
   cases h
   obtain ⟨b, rfl, _⟩ := DataW.trod_bool ht hx
   exact ⟨[.bool b], ⟨_, _, rfl, rfl, rfl⟩, ⟨_, _, rfl, ⟨b, rfl⟩, rfl⟩, fun _ => ⟨_, _, rfl, rfl, rfl, rfl⟩⟩
  ·rename_i k ht
   cases h
   obtain ⟨m, rfl, _, hw⟩ := DataW.trod_int ht hx
   exact ⟨[.int k m], ⟨_, _, rfl, rfl, rfl⟩, ⟨_, _, rfl, ⟨m, rfl, hw⟩, rfl⟩, fun _ => ⟨_, _, rfl, rfl, rfl, rfl⟩⟩
  ·rename_i ht
   cases h
   obtain ⟨s, rfl, _, hs⟩ := DataW.trod_string ht hx
   exact ⟨[.str s], ⟨_, _, rfl, rfl, rfl⟩, ⟨_, _, rfl, ⟨s, rfl, hs⟩, rfl⟩, fun _ => ⟨_, _, rfl, rfl, rfl, rfl⟩⟩
  ·rename_i e ht
   cases he : lfs P n e with
   | none => rw [he] at h; cases h
   | some q =>
    obtain ⟨le, age⟩ := q
    rw [he] at h
    dsimp only at h
    cases hc : (Nat.beq (P.cellsOf e) le.length && Nat.blt 0 le.length) with
    | false => rw [hc] at h; cases h
    | true =>
     rw [hc] at h
     simp only [cond_true, Option.some.injEq, Prod.mk.injEq] at h
     obtain ⟨rfl, rfl⟩ := h
     simp only [Bool.and_eq_true] at hc
     have hsz := Nat.eq_of_beq_eq_true hc.1
     have hpos : 0 < le.length := by have := hc.2; simp [Nat.blt] at this; omega
     rcases Go.Deep.open_slice ht hx with ⟨rfl, _⟩ | ⟨a, len, cap, m, fu, Dd, Pl, rfl, _, hlc, hcap, hm, _, hel⟩
     ·exact ⟨[.list true []], ⟨_, _, rfl, ⟨_, 0, 0, rfl, rfl, Nat.le_refl _, by simp, by simp⟩, rfl⟩, ⟨_, _, rfl, ⟨[], rfl, by simp, by simp⟩, rfl⟩, fun _ => ⟨_, _, rfl, rfl, rfl, rfl⟩⟩
     ·rw [hsz] at hel
      have hlm : len ≤ m := by rw [hm]; split <;> omega
      have each : ∀ i, i < len → ∃ y u, Za3 All All All W y u ∧ y.isAgg = age ∧ Zgr le y.cells ∧ u.cells.size = le.length ∧ (∀ k v, u.cells[k]? = some v → W.cell? ((a.add (i * le.length)).add k) = some v) ∧ y.esc = true := fun i hi => by
       obtain ⟨cs', h1, h2⟩ := hel i (by omega)
       obtain ⟨c1, c2⟩ := ZrA h1
       obtain ⟨ds, d1, d2, d3⟩ := Zpb n e le age he fu cs' _ h2
       obtain ⟨s1, s2⟩ := ZpV _ _ d2
       cases age with
       | true =>
        refine ⟨.agg ds, .agg cs'.toArray, ⟨cs', rfl, d1⟩, rfl, d2, by simpa [Value.cells] using c1, fun k v hk => ?_, s1⟩
        have hk' : cs'[k]? = some v := by simpa [Value.cells] using hk
        rw [c2 k (by rw [← c1]; exact (List.getElem?_eq_some_iff.1 hk').1)]; exact hk'
       | false =>
        obtain ⟨u, y, rfl, rfl, e1, e2⟩ := d3 rfl
        obtain ⟨u', us', f1, f2, _⟩ := d1
        cases f1
        have hy : y.cells = [y] := by
         cases y <;> first | rfl | (simp [D.isAgg] at e2)
        have hesc : y.esc = true := by
         match le, d2, hpos with
         | l0 :: ls, d2, _ =>
          obtain ⟨d, r, g1, g2, _⟩ := d2
          cases g1
          exact (ZrH l0 y g2).1
        refine ⟨y, u, f2, e2, by rw [hy]; exact d2, by rw [e1, ← c1]; rfl, fun k v hk => ?_, hesc⟩
        rw [e1] at hk
        have hk0 : k = 0 := by
         have := (Array.getElem?_eq_some_iff.1 hk).1; simp at this; exact this
        subst hk0
        simp at hk; subst hk
        rw [c2 0 (by omega)]; rfl
      have all : ∀ j, j ≤ len → ∃ ys : List D, ys.length = j ∧ (∀ y ∈ ys, y.isAgg = age ∧ Zgr le y.cells ∧ y.esc = true) ∧ ∀ (i : Nat) y, ys[i]? = some y → ∃ u, Za3 All All All W y u ∧ u.cells.size = le.length ∧ ∀ k v, u.cells[k]? = some v → W.cell? ((a.add (i * le.length)).add k) = some v := by
       intro j
       induction j with
       | zero => intro _; exact ⟨[], rfl, by simp, by simp⟩
       | succ j ih =>
        intro hj
        obtain ⟨ys, y1, y2, y3⟩ := ih (by omega)
        obtain ⟨y, u, z1, z2, z3, z4, z5, z6⟩ := each j (by omega)
        refine ⟨ys ++ [y], by simp [y1], fun z hz => ?_, fun i z hz => ?_⟩
        ·rcases List.mem_append.1 hz with hz | hz
         ·exact y2 z hz
         ·simp at hz; subst hz; exact ⟨z2, z3, z6⟩
        ·by_cases hi : i < ys.length
         ·rw [List.getElem?_append_left hi] at hz; exact y3 i z hz
         ·rw [List.getElem?_append_right (by omega)] at hz
          have hij : i - ys.length = 0 := by
           have := (List.getElem?_eq_some_iff.1 hz).1; simp at this; omega
          rw [hij] at hz
          simp at hz; subst hz
          have : i = j := by omega
          subst this
          exact ⟨u, z1, z4, z5⟩
      obtain ⟨ys, y1, y2, y3⟩ := all len (Nat.le_refl _)
      refine ⟨[.list true ys], ⟨_, _, rfl, ⟨_, len, cap, rfl, y1.symm, hlc, fun z hz => (y2 z hz).2.2, fun hne => ?_⟩, rfl⟩, ⟨_, _, rfl, ⟨ys, rfl, by omega, fun z hz => ⟨(y2 z hz).1, (y2 z hz).2.1⟩⟩, rfl⟩, fun _ => ⟨_, _, rfl, rfl, rfl, rfl⟩⟩
      have hlen : 0 < len := by
       rw [← y1]; exact List.length_pos_iff.2 hne
      obtain ⟨cs0, h1, _⟩ := hel 0 (by omega)
      obtain ⟨c1, c2⟩ := ZrA h1
      have c3 := c2 0 hpos
      have hcell : ∃ v, W.cell? a = some v := by
       refine ⟨cs0[0]'(by omega), ?_⟩
       have e0 : (a.add (0 * le.length)).add 0 = a := by simp [Addr.add]
       rw [e0] at c3
       rw [c3]; exact List.getElem?_eq_getElem (by omega)
      obtain ⟨v, hv⟩ := hcell
      have hspot : a.spot = none ∧ a.block < W.heap.size := by
       unfold World.cell? at hv
       split at hv
       ·rename_i hb
        cases hsx : a.spot with
        | none => exact ⟨rfl, (Array.getElem?_eq_some_iff.1 hb).1⟩
        | some z => rw [hsx] at hv; simp at hv
       ·cases hv
      obtain ⟨b, off, spot⟩ := a
      obtain ⟨hs1, hs2⟩ := hspot
      simp only at hs1 hs2
      subst hs1
      refine ⟨b, off, le.length, rfl, trivial, hs2, Zif ys off fun j y hj => ?_⟩
      obtain ⟨u, u1, u2, u3⟩ := y3 j y hj
      refine ⟨u, u1, u2, fun k v hk => ?_⟩
      rw [← u3 k v hk]
      congr 1
      unfold Addr.add
      by_cases hj0 : j * le.length = 0
      ·by_cases hk0 : k = 0 <;> simp [hj0, hk0]
      ·by_cases hk0 : k = 0 <;> simp [hj0, hk0]
  ·rename_i fs ht
   cases hf : Zi1 P (lfs P n) 0 fs.toList with
   | none => rw [hf] at h; cases h
   | some l' =>
    rw [hf] at h
    dsimp only at h
    cases hc : Nat.beq (P.cellsOf t) l'.length with
    | false => rw [hc] at h; cases h
    | true =>
     rw [hc] at h
     simp only [cond_true, Option.some.injEq, Prod.mk.injEq] at h
     obtain ⟨rfl, rfl⟩ := h
     have hcl := Nat.eq_of_beq_eq_true hc
     obtain ⟨xs, m, _, _, hlen, hxl, hxs⟩ := DataW.trod_struct ht hx
     have hlen' : cs.length = l'.length := hlen.trans hcl
     obtain ⟨ds, e1, e2⟩ := ZpM (m := m) (cs := cs) (g := lfs P n) (fun t l ag cs x hg hx => by
      obtain ⟨ds, d1, d2, _⟩ := Zpb n t l ag hg m cs x hx
      exact ⟨ds, d1, d2⟩) fs.toList 0 l' xs hf (by simpa using hxl) (by omega) (fun i f hf' => hxs i f (by simpa using hf'))
     refine ⟨ds, ?_, e2, fun h => by cases h⟩
     have : (cs.drop 0).take l'.length = cs := by rw [List.drop_zero, List.take_of_length_le (by omega)]
     rw [this] at e1; exact e1
  ·cases h
def Zq9 (ag : Bool) (ds : List D) : D := match ag, ds with | true, ds => .agg ds | false, d :: _ => d | false, [] => .nilp
theorem ZuN {n : Nat} {t : TypeId} {l : List Lf} {ag : Bool} (h : lfs P n t = some (l, ag)) {base : Nat} {v : Value} {d : DataW H} {ps : List MemPlace} (hv : Value.okWide P W .any base t v) (hx : DataW.Trod enc P W 0 sp held t v d ps) :
  ∃ ds, Zgr l ds ∧ Za3 All All All W (Zq9 ag ds) v := by
 obtain ⟨fuel, hf⟩ := hx
 obtain ⟨ds, d1, d2, d3⟩ := Zpb n t l ag h fuel _ _ hf
 refine ⟨ds, d2, ?_⟩
 have one : ag = false → v.cells = #[v] → Za3 All All All W (Zq9 ag ds) v := fun hag hc => by
  subst hag
  obtain ⟨u, y, e1, rfl, _, _⟩ := d3 rfl
  rw [hc] at e1
  cases e1
  obtain ⟨u', us', f1, f2, _⟩ := d1
  rw [hc] at f1
  cases f1
  exact f2
 cases n with
 | zero => cases h
 | succ n =>
  simp only [lfs] at h
  split at h
  ·rename_i ht
   cases h
   obtain ⟨b, rfl⟩ := Go.WideShapes.okWide_bool ht hv
   exact one rfl rfl
  ·rename_i k ht
   cases h
   obtain ⟨b, rfl⟩ := Go.WideShapes.okWide_int ht hv
   exact one rfl rfl
  ·rename_i ht
   cases h
   obtain ⟨b, rfl⟩ := Go.WideShapes.okWide_string ht hv
   exact one rfl rfl
  ·rename_i e ht
   obtain ⟨a, len, cap, rfl⟩ := Go.WideShapes.okWide_slice ht hv
   split at h
   ·rename_i le age hq
    cases hc : (Nat.beq (P.cellsOf e) le.length && Nat.blt 0 le.length) with
    | false => rw [hc] at h; cases h
    | true => rw [hc] at h; cases h; exact one rfl rfl
   ·cases h
  ·rename_i fs ht
   obtain ⟨cs, rfl, _⟩ := Go.WideShapes.okWide_struct ht hv
   split at h
   ·rename_i q hq
    cases hc : Nat.beq (P.cellsOf t) q.length with
    | false => rw [hc] at h; cases h
    | true =>
     rw [hc] at h
     cases h
     exact ⟨cs.toList, by simp, by simpa [Value.cells] using d1⟩
   ·cases h
  ·cases h
end
end Go.Proofs.YtnmbdjkbaihicaaDoorE
namespace Go.Proofs.YtnmbdjkbaihicaaDoorE
open Go
set_option linter.unusedVariables false
set_option linter.unusedSimpArgs false
def R0 : RP := { B1 := fun _ => False, B0 := fun _ => False, M := fun _ => none, H := [] }
section
variable {P : Program} {G : Zbr} {Γ : Ctx} {W : World}
theorem ZiR (c : Nat) : ¬ R0.live c := by
 rintro ⟨i, h, _⟩
 simp [R0, Z3, nth] at h
theorem ZBy : R0.OK W where
 b01 := fun c h => h.elim
 al := fun i blk h => by simp [R0] at h
 inj := fun i j c h => by simp [R0, Z3, nth] at h
 lt := fun i c h => by cases h
 blk := fun i m blk h => by simp [R0] at h
 nb := fun i c h => by simp [R0, Z3, nth] at h
 bl := fun c h => h.elim
theorem ZyE {x : D} {u : Value} (h : Za3 All All All W x u) : R0.den W x u :=
 Za3.change _ _ _ _ (fun b _ _ => ⟨ZiR b, fun h => h⟩) (fun b _ _ => ⟨ZiR b, fun h => h⟩) (fun b _ _ => ZiR b) (fun _ _ _ => rfl) (Nat.le_refl _) (fun _ _ => trivial) (fun _ _ => trivial) x u h
theorem ZxR {xs : List D} {us : List Value} (h : ZaP All All All W xs us) : ZaE R0 W (ZcA xs) us :=
 (ZcU xs us).2 (ZaP.change _ _ _ _ (fun b _ _ => ⟨ZiR b, fun h => h⟩) (fun b _ _ => ⟨ZiR b, fun h => h⟩) (fun b _ _ => ZiR b) (fun _ _ _ => rfl) (Nat.le_refl _) (fun _ _ => trivial) (fun _ _ => trivial) xs us h)
theorem Zt7 (hs : ZfA P G (evW Γ)) (hg : GOK G R0 W) {f : Nat} {xs : List D} {us : List Value} (hd : ZaP All All All W xs us) {H' : Zm} (he : evW Γ f (ZcA xs) [] = some (.d (.bool true), H')) :
  Calls P f us.toArray W fun e W' => e = .returned (.bool true) ∧ Go.RowKit.Below W.heap.size W W' := by
 obtain ⟨_, h⟩ := hs f (ZcA xs) [] _ _ he
 refine (h R0 W us ZBy hg rfl (fun i _ => rfl) (ZxR hd)).mono fun e W' ⟨u, h1, R', x, ok, hH, hv, _, _⟩ => ?_
 have hu : u = .bool true := hv
 subst hu
 exact ⟨h1, ⟨x.os, x.tape, x.output, x.grow, fun k hk => x.same k hk (ZiR k)⟩⟩
def ZlJ (l : List (IntKind × Int)) : List (DataW Unit) := l.map fun q => .lit (.int q.1 q.2)
theorem Zrz {n : String} {d : DataW Unit} : ∀ {L : List (String × DataW Unit)} {ps : List MemPlace}, DataW.LaidVars P W L ps → (n, d) ∈ L →
  ∃ g t cs fuel p, P.globalNamed n = some g ∧ (P.globals[g]?).map (·.type) = some t ∧ W.var? P n = some cs ∧ DataW.trod (fun _ => ()) P W 0 (fun _ => true) false fuel t cs.toList = some (d, p)
 | [], _, _, h => by cases h
 | (m, e) :: L, ps, h, hm => by
  obtain ⟨g, t, cs, fuel, p, q, h1, h2, h3, h4, h5, _⟩ := h
  rcases List.mem_cons.1 hm with hm | hm
  ·cases hm; exact ⟨g, t, cs, fuel, p, h1, h2, h3, h4⟩
  ·exact Zrz h5 hm
theorem ZoK {L : List (String × DataW Unit)} (h : laidMetH P L W) (hl : (L.all fun x => x.2.handleName?.isNone) = true) {n : String} {l : List (IntKind × Int)} (hm : (n, DataW.agg (ZlJ l)) ∈ L) {g t N e : Nat} {k : IntKind}
  (hg : P.globalNamed n = some g) (ht : (P.globals[g]?).map (·.type) = some t) (hu : P.underlying t = some (.array N e)) (he : P.underlying e = some (.int k)) (hc : P.cellsOf e = 1) (hN : l.length = N) (hne : 0 < N) :
  R0.den W (.rptr (gD l)) (.pointer (some ⟨g, 0, none⟩)) := by
 rw [MakeChecks.laidMetH_plain _ _ _ hl] at h
 obtain ⟨ps, hL, _, _⟩ := h
 obtain ⟨g', t', cs, fuel, p, h1, h2, h3, h4⟩ := Zrz hL hm
 obtain rfl := Option.some.inj (hg.symm.trans h1)
 obtain rfl := Option.some.inj (ht.symm.trans h2)
 obtain ⟨xs, m, _, hx, hlen, hxn, hel⟩ := DataW.trod_array hu h4
 have hmap : ZlJ l = xs.map (·.1) := by
  have := (Prod.mk.inj hx).1
  exact DataW.agg.inj this
 have cell : ∀ (i : Nat) q, l[i]? = some q → W.cell? ⟨g, i, none⟩ = some (.int q.1 q.2) := fun i q hq => by
  have hi : i < N := by rw [← hN]; exact (List.getElem?_eq_some_iff.1 hq).1
  have hi2 : i < xs.length := by omega
  have e1 := hel i hi
  rw [List.getElem?_eq_getElem hi2] at e1
  obtain ⟨z, z1, z2, _⟩ := DataW.trod_int he e1
  have e3 : (ZlJ l)[i]? = some (xs[i]'hi2).1 := by rw [hmap]; simp [hi2]
  rw [z2] at e3
  have e4 : (ZlJ l)[i]? = some (.lit (.int q.1 q.2)) := by simp [ZlJ, hq]
  rw [e4] at e3
  have e5 : q.1 = k ∧ q.2 = z := by
   have := Option.some.inj e3
   simpa using this
  rw [World.var?_cell h1 h3 i, hc] at *
  have e6 : (cs.toList.drop (i * 1)).take 1 = [.int k z] := z1
  have e7 : cs.toList[i]? = some (.int k z) := by
   have : (cs.toList.drop (i * 1))[0]? = some (.int k z) := by
    have h8 : ((cs.toList.drop (i * 1)).take 1)[0]? = some (.int k z) := by rw [e6]; rfl
    rwa [List.getElem?_take_of_lt (by omega)] at h8
   simpa using this
  rw [e5.1, e5.2]
  simpa using e7
 have hb : g < W.heap.size := by
  have := cell 0 (l[0]'(by omega)) (List.getElem?_eq_getElem (by omega))
  unfold World.cell? at this
  split at this
  ·rename_i hb; exact (Array.getElem?_eq_some_iff.1 hb).1
  ·cases this
 have gd : ∀ (l : List (IntKind × Int)) (i : Nat) x, (gD l)[i]? = some x → ∃ q, l[i]? = some q ∧ x = .int q.1 q.2 := by
  intro l
  induction l with
  | nil => intro i x h; simp [gD] at h
  | cons a r ih =>
   intro i x h
   obtain ⟨k, z⟩ := a
   cases i with
   | zero => simp [gD] at h; exact ⟨(k, z), rfl, h.symm⟩
   | succ i => simpa using ih i x (by simpa [gD] using h)
 refine ZyE ⟨g, 0, rfl, trivial, hb, ZgD _ _ fun j x hj => ?_⟩
 obtain ⟨q, q1, rfl⟩ := gd l j x hj
 exact ⟨_, by rw [Nat.zero_add]; exact cell j q q1, rfl⟩
end
end Go.Proofs.YtnmbdjkbaihicaaDoorE
namespace Go.Proofs.YtnmbdjkbaihicaaDoorE
open Go
set_option linter.unusedVariables false
set_option linter.unusedSimpArgs false
noncomputable def bnd {α β : Type} (x : Option α) (k : α → Option β) : Option β := @dite _ (∃ a, x = some a) (Classical.propDecidable _) (fun h => k (Classical.choose h)) fun _ => none
theorem ZeH {α β : Type} (x : Option α) (k : α → Option β) : bnd x k = (match x with | some a => k a | none => none) := by
  unfold bnd
  cases x with
  | none => exact dif_neg (fun ⟨a, h⟩ => by cases h)
  | some a =>
    have h : ∃ b, some a = some b := ⟨a, rfl⟩
    rw [dif_pos h]
    have := Classical.choose_spec h
    rw [← Option.some.inj this]
theorem ZjL {α β : Type} (a : α) (k : α → Option β) : bnd (some a) k = k a := ZeH _ _
section
variable {β : Type}
def ZCu : List Nat := [0, 1, 2, 3, 4, 5, 6, 7, 8, 9, 10, 11, 12, 13, 14, 15, 16, 17, 18, 19, 20, 21, 22, 23, 24, 25, 26, 27, 28, 29, 30, 31, 32, 33, 34, 35, 36, 37, 38, 39, 40, 41, 42, 43, 44, 45, 46, 47, 48, 49, 50, 51, 52, 53, 54, 55, 56, 57, 58, 59, 60, 61, 62, 63]
def fgo (n : Nat) (k : Nat → Option β) : List Nat → Option β
  | [] => k n
  | a :: l => match Nat.beq n a with | true => k a | false => fgo n k l
def Zdy (n : Nat) (k : Nat → Option β) : Option β := fgo n k ZCu
def ZhL (v : V) (k : V → Option β) : Option β :=
  match v with
  | .d x => k (.d x) | .bad => k .bad | .ptr b o => Zdy b fun b => Zdy o fun o => k (.ptr b o) | .eptr b sz i j => Zdy b fun b => Zdy j fun j => k (.eptr b sz i j)
  | .sl b sz => Zdy b fun b => k (.sl b sz) | .slp b sz o l => Zdy b fun b => k (.slp b sz o l) | .nilsl sz => k (.nilsl sz)
  | .agg cs => k (.agg cs) | .tup cs => k (.tup cs) | .fn f cs => k (.fn f cs) | .mp b => Zdy b fun b => k (.mp b)
def ZiB (l : List V) (k : List V → Option β) : Option β :=
  match l with
  | [] => k []
  | v :: vs => ZhL v fun v => ZiB vs fun vs => k (v :: vs)
def Zqo (v : V) (k : V → Option β) : Option β :=
  match v with
  | .d x => k (.d x) | .bad => k .bad | .ptr b o => ZhL (.ptr b o) k | .eptr b sz i j => ZhL (.eptr b sz i j) k
  | .sl b sz => ZhL (.sl b sz) k | .slp b sz o l => ZhL (.slp b sz o l) k | .nilsl sz => k (.nilsl sz)
  | .agg cs => ZiB cs fun cs => k (.agg cs) | .tup cs => ZiB cs fun cs => k (.tup cs) | .fn f cs => ZiB cs fun cs => k (.fn f cs) | .mp b => ZhL (.mp b) k
def ZhJ (l : List V) (k : List V → Option β) : Option β :=
  match l with
  | [] => k []
  | v :: vs => Zqo v fun v => ZhJ vs fun vs => k (v :: vs)
def Zsv (b : Blk) (k : Blk → Option β) : Option β :=
  match b with
  | .dead => k .dead | .cells cs => ZhJ cs fun cs => k (.cells cs) | .arr sz xs => k (.arr sz xs) | .mp es => k (.mp es)
def Zki (H : Zm) (k : Zm → Option β) : Option β :=
  match H with
  | [] => k []
  | b :: bs => Zsv b fun b => Zki bs fun bs => k (b :: bs)
theorem Zw3 (n : Nat) (k : Nat → Option β) : ∀ (l : List Nat), fgo n k l = k n
  | [] => rfl
  | a :: l => by
    unfold fgo
    cases h : Nat.beq n a with
    | true => rw [Nat.eq_of_beq_eq_true h]
    | false => exact Zw3 n k l
theorem ZdL (n : Nat) (k : Nat → Option β) : Zdy n k = k n := Zw3 n k _
theorem Zpn (v : V) (k : V → Option β) : ZhL v k = k v := by cases v <;> simp [ZhL, ZdL]
theorem Znu : ∀ (l : List V) (k : List V → Option β), ZiB l k = k l
  | [], k => rfl
  | v :: vs, k => by unfold ZiB; rw [Zpn, Znu vs]
theorem Zp6 (v : V) (k : V → Option β) : Zqo v k = k v := by cases v <;> simp [Zqo, Zpn, Znu]
theorem Zhp : ∀ (l : List V) (k : List V → Option β), ZhJ l k = k l
  | [], k => rfl
  | v :: vs, k => by unfold ZhJ; rw [Zp6, Zhp vs]
theorem ZtS (b : Blk) (k : Blk → Option β) : Zsv b k = k b := by cases b <;> simp [Zsv, Zhp]
theorem Zij : ∀ (l : Zm) (k : Zm → Option β), Zki l k = k l
  | [], k => rfl
  | v :: vs, k => by unfold Zki; rw [ZtS, Zij vs]
def ZiZ (l : List Nat) (k : List Nat → Option β) : Option β :=
  match l with
  | [] => k []
  | a :: l => Zdy a fun a => ZiZ l fun l => k (a :: l)
theorem ZiO : ∀ (l : List Nat) (k : List Nat → Option β), ZiZ l k = k l
  | [], k => rfl
  | a :: l, k => by unfold ZiZ; rw [ZdL, ZiO l]
def ZkG (H : Zm) (l : List Nat) (bs : List Nat) (k : List Nat → Option β) : Option β :=
  match bs with
  | [] => k l
  | b :: bs => (match Zh8 l b || !(Z3 H b) with
    | true => ZkG H l bs k
    | false => ZiZ (l ++ [b]) fun l => ZkG H l bs k)
theorem Zjd (H : Zm) : ∀ (bs l : List Nat) (k : List Nat → Option β), ZkG H l bs k = k (Zfw H l bs)
  | [], l, k => rfl
  | b :: bs, l, k => by
    unfold ZkG Zfw
    cases h : (Zh8 l b || !(Z3 H b)) with
    | true => exact Zjd H bs l k
    | false => simp only [ZiO, cond_false]; exact Zjd H bs _ k
def Zql (H : Zm) (n i : Nat) (l : List Nat) (k : List Nat → Option β) : Option β :=
  match n with
  | 0 => k l
  | n + 1 => (match nth l i with
    | some b => ZiZ (Zs5 H b) fun bs => ZkG H l bs fun l => Zdy (i + 1) fun i => Zql H n i l k
    | none => k l)
theorem ZpA (H : Zm) : ∀ (n i : Nat) (l : List Nat) (k : List Nat → Option β), Zql H n i l k = k (Zkn H n i l)
  | 0, i, l, k => rfl
  | n + 1, i, l, k => by
    unfold Zql Zkn
    cases h : nth l i with
    | none => rfl
    | some b => simp only [ZiO, ZdL, Zjd]; exact ZpA H n (i + 1) _ k
def ZfV (m : Nat) (vs : List V) (H : Zm) (k : List Nat → List V → Zm → Option β) : Option β :=
  ZhJ vs fun vs => ZiZ (Zml m) fun u => ZiZ (Zhq vs) fun r => ZkG H u r fun l => Zql H (H.length + 1) 0 l fun L =>
    (match Zlu L && Zow H.length L with
    | true => ZhJ (Zg7 (fun b => idx L b 0) vs) fun vs => Zki (pick H (fun b => idx L b 0) L) fun H => k L vs H
    | false => none)
theorem Zdg (m : Nat) (vs : List V) (H : Zm) (k : List Nat → List V → Zm → Option β) : ZfV m vs H k = (match extract m vs H with | some (L, vs, H) => k L vs H | none => none) := by
  unfold ZfV extract Zmp
  simp only [Zhp, ZiO, Zjd, ZpA, Zij]
  cases (Zlu (Zkn H (H.length + 1) 0 (Zfw H (Zml m) (Zhq vs))) && Zow H.length (Zkn H (H.length + 1) 0 (Zfw H (Zml m) (Zhq vs)))) <;> rfl
def Zlt (n : Nat) (vs : List V) (k : List V → List Blk → Option β) : Option β :=
  match vs with
  | [] => k [] []
  | v :: vs => (match v with
    | .nilsl sz => (match Nat.blt 0 sz with
      | true => Zdy (n + 1) fun n1 => Zlt n1 vs fun vs bs => k (.sl n sz :: vs) (.arr sz [] :: bs)
      | false => Zlt n vs fun vs bs => k (.nilsl sz :: vs) bs)
    | v => Zlt n vs fun vs bs => k (v :: vs) bs)
theorem Ziq : ∀ (vs : List V) (n : Nat) (k : List V → List Blk → Option β), Zlt n vs k = k (ZbW n vs).1 (ZbW n vs).2
  | [], n, k => rfl
  | v :: vs, n, k => by
    unfold Zlt
    split
    · rename_i sz
      simp only [ZbW]
      cases h : Nat.blt 0 sz with
      | true => simp only [ZdL, cond_true]; exact Ziq vs (n + 1) _
      | false => exact Ziq vs n _
    · rename_i h
      rw [Ziq vs n]
      cases v <;> first | rfl | exact absurd rfl (h _)
def Zmf (n : Nat) (H : Zm) (k : Zm → List Blk → Option β) : Option β :=
  match H with
  | [] => k [] []
  | b :: H => (match b with
    | .cells cs => Zlt n cs fun cs bs => Zdy (n + bs.length) fun n1 => Zmf n1 H fun H q => k (.cells cs :: H) (bs ++ q)
    | b => Zmf n H fun H q => k (b :: H) q)
theorem ZlO : ∀ (H : Zm) (n : Nat) (k : Zm → List Blk → Option β), Zmf n H k = k (Zcv n H).1 (Zcv n H).2
  | [], n, k => rfl
  | b :: H, n, k => by
    unfold Zmf
    cases b <;> first | exact ZlO H n _ | skip
    rename_i cs
    simp only [Ziq, ZdL, Zcv]
    exact ZlO H _ _
def Zog (m : Nat) (vs : List V) (H : Zm) (k : List V → Zm → Option β) : Option β :=
  ZfV m vs H fun _ vs1 H1 => Zlt H1.length vs1 fun vs2 bs => Zdy (H1.length + bs.length) fun n => Zmf n H1 fun H2 q => Zki (H2 ++ (bs ++ q)) fun H2 => ZfV m vs2 H2 fun _ vs3 H3 => k vs3 H3
theorem Zry (m : Nat) (vs : List V) (H : Zm) (k : List V → Zm → Option β) : Zog m vs H k = (match ZnK m vs H with | some (vs, H) => k vs H | none => none) := by
  unfold Zog ZnK
  rw [Zdg]
  cases h : extract m vs H with
  | none => rfl
  | some p =>
    obtain ⟨L, vs1, H1⟩ := p
    simp only [Ziq, ZdL, ZlO, Zij, Zdg]
    cases extract m (ZbW H1.length vs1).1 ((Zcv (H1.length + (ZbW H1.length vs1).2.length) H1).1 ++ ((ZbW H1.length vs1).2 ++ (Zcv (H1.length + (ZbW H1.length vs1).2.length) H1).2)) <;> rfl
noncomputable def br (c : Bool) (x y : Option β) : Option β := @ite _ (c = true) (Classical.propDecidable _) x y
theorem ZdT (c : Bool) (x y : Option β) : br c x y = bif c then x else y := by
  unfold br
  cases c with
  | true => exact if_pos rfl
  | false => exact if_neg (by simp)
def brL (c : Bool) (x y : Option β) : Option β := match c with | true => x | false => y
noncomputable def Zj2 (c : Bool) (k : V → Option β) : Option β := br c (k (.d (.bool true))) (k (.d (.bool false)))
theorem Ziy (c : Bool) (k : V → Option β) : Zj2 c k = k (.d (.bool c)) := by
  unfold Zj2
  rw [ZdT]
  cases c <;> rfl
noncomputable def ZpL (v : V) (k : V → Option β) : Option β := match v with | .d (.bool c) => Zj2 c k | v => k v
theorem ZrF (v : V) (k : V → Option β) : ZpL v k = k v := by
  unfold ZpL
  split
  · exact Ziy _ _
  · rfl
noncomputable def ZwB (x : D) (k : V → Option β) : Option β := match x with | .bool c => Zj2 c k | .tup ts => k (.tup (ZcA ts)) | x => k (.d x)
abbrev K3 (β : Type) := V → List (Nat × Blk) → List Blk → Option β
noncomputable def Zx3 (op : BinOp) (x y : V) (k : V → Option β) : Option β :=
  match op, x, y with
  | .quo, .d (.int i a), .d (.int j b) => (match i == j with | true => br (b == 0) none (k (.d (.int i (i.wrap (a.tdiv b))))) | false => none)
  | .rem, .d (.int i a), .d (.int j b) => (match i == j with | true => br (b == 0) none (k (.d (.int i (a.tmod b)))) | false => none)
  | .shl, .d (.int i a), .d (.int _ b) => br (decide (b < 0)) none (k (.d (.int i (i.wrap (a * 2 ^ (min b.toNat i.bits))))))
  | .shr, .d (.int i a), .d (.int _ b) => br (decide (b < 0)) none (k (.d (.int i (a.fdiv (2 ^ (min b.toNat i.bits))))))
  | op, x, y => match Zna op x y with | some (.bool c) => Zj2 c k | some r => k (.d r) | none => none
noncomputable def ZsV (H : Zm) (n : Nat) (ag : Bool) (x : V) (k : V → Option β) : Option β :=
  match x with
  | .eptr b sz i j => (match nth H b with
    | some (.arr sz' xs) => (match Nat.beq sz sz' with
      | true => bnd (nth xs i) fun x => (match ZcR n ag (ZcA (x.cells.drop j)) with | some v => ZpL v k | none => none)
      | false => none)
    | _ => none)
  | x => match Zc4 H n ag x with | some v => ZpL v k | none => none
noncomputable def Zsl (H : Zm) (n : Nat) (x v : V) (k : K3 β) : Option β :=
  match x with
  | .eptr b sz i j => (match nth H b with
    | some (.arr sz' xs) => (match Nat.beq sz sz' with
      | true => bnd (nth xs i) fun x => (match fr H 6 v with
        | some (y, ks) => (match Zh8 ks b with
          | true => none
          | false => (match Nat.beq y.cells.length n && Nat.ble (j + n) x.cells.length && (V.d y).okb && (x.isAgg || !y.isAgg) with
            | true => bnd (some (ZeW xs i (bif x.isAgg then .agg (Zaj x.cells j y.cells) else y))) fun zs => k .bad ((b, .arr sz zs) :: ks.map (fun j => (j, .dead))) []
            | false => none))
        | none => none)
      | false => none)
    | _ => none)
  | x => match Zlr H n x v with | some (a, b, c) => k a b c | none => none
noncomputable def ZqO (nid : Nat) (H : Zm) (sz : Nat) (x y : V) (k : K3 β) : Option β :=
  match elems H y with
  | none => none
  | some ys =>
    br (ZjH sz ys 0) (match x with
    | .nilsl _ => br (Nat.ble ys.length lim) (bnd (some ys) fun zs => k (.sl nid sz) [] [.arr sz zs]) none
    | .sl b sz' => (match nth H b with
      | some (.arr sz'' xs) => (match Nat.beq sz sz' && Nat.beq sz sz'' with
        | true => br (Nat.ble (xs.length + ys.length) lim) (bnd (some (xs ++ ys)) fun zs => k (.sl nid sz) [(b, .dead)] [.arr sz zs]) none
        | false => none)
      | _ => none)
    | .slp b sz' o len => (match nth H b with
      | some (.arr sz'' xs) => (match Nat.beq sz sz' && Nat.beq sz sz'' with
        | true => br (Nat.ble (o + len + ys.length) xs.length) (bnd (some (xs.take (o + len) ++ (ys ++ xs.drop (o + len + ys.length)))) fun zs => bnd (some (len + ys.length)) fun n => k (.slp b sz o n) [(b, .arr sz zs)] []) none
        | false => none)
      | _ => none)
    | _ => none) none
noncomputable def Zme (H : Zm) (sz : Nat) (x y : V) (k : V → Option β) : Option β :=
  match x with
  | .nilsl _ => (match elems H y with
    | some ys => br (ZjH sz ys 0) (br (Nat.ble ys.length lim) (bnd (some ys) fun zs => k (.d (.list true zs))) none) none
    | none => none)
  | _ => none
noncomputable def Zox (v : Option V) (dflt : Nat) (k : Nat → Option β) : Option β :=
  match v with
  | none => k dflt
  | some (.d (.int _ n)) => br (decide (0 ≤ n)) (k n.toNat) none
  | _ => none
noncomputable def Zqy (H : Zm) (sz : Nat) (x : V) (lo hi mx : Option V) (k : V → Option β) : Option β :=
  match elems H x with
  | none => none
  | some xs =>
    Zox lo 0 fun l => Zox hi xs.length fun h =>
      br (Nat.ble l h && Nat.ble h xs.length)
        (match mx with
        | none => (match x with
          | .d (.list own _) => br (Nat.beq l 0 || ZjH sz xs l) (bnd (some ((xs.drop l).take (h - l))) fun zs => k (.d (.list own zs))) none
          | .sl b sz' => (match Nat.beq sz sz' with | true => bnd (some l) fun l' => bnd (some (h - l)) fun n => k (.slp b sz l' n) | false => none)
          | .slp b sz' o _ => (match Nat.beq sz sz' with | true => bnd (some (o + l)) fun l' => bnd (some (h - l)) fun n => k (.slp b sz l' n) | false => none)
          | .nilsl _ => k (.nilsl sz)
          | _ => none)
        | some m => Zox (some m) 0 fun m => br (Nat.beq m l && Nat.beq m h) (k (.nilsl sz)) none)
        none
noncomputable def Zqk (H : Zm) (sz : Nat) (x i : V) (k : V → Option β) : Option β :=
  match i with
  | .d (.int _ i) => (match x with
    | .d (.list _ xs) => bnd (ZA xs i) fun x => (match Nat.beq x.cells.length sz && (V.d x).okb with | true => k (.d (.rptr x.cells)) | false => none)
    | .sl b sz' => (match nth H b with
      | some (.arr sz'' xs) => (match Nat.beq sz sz' && Nat.beq sz sz'' with | true => bnd (ZA xs i) fun _ => k (.eptr b sz i.toNat 0) | false => none)
      | _ => none)
    | .slp b sz' o len => (match nth H b with
      | some (.arr sz'' xs) => (match Nat.beq sz sz' && Nat.beq sz sz'' with | true => bnd (ZA ((xs.drop o).take len) i) fun _ => k (.eptr b sz (o + i.toNat) 0) | false => none)
      | _ => none)
    | _ => none)
  | _ => none
noncomputable def ZqA (len sz : Nat) (ag : Bool) (x i : V) (k : V → Option β) : Option β :=
  match i with
  | .d (.int _ i) => br (x.isAggV && (decide (0 ≤ i) && decide (i < len))) (bnd (ZcR sz ag (x.cells.drop (i.toNat * sz))) k) none
  | _ => none
noncomputable def Zn1 (H : Zm) (len sz : Nat) (x i : V) (k : V → Option β) : Option β :=
  match i with
  | .d (.int _ i) => br (decide (0 ≤ i) && decide (i < len)) (match Zi2 H (i.toNat * sz) x with | some v => k v | none => none) none
  | _ => none
noncomputable def ZnR (x i : V) (k : V → Option β) : Option β :=
  match x, i with
  | .d (.str s), .d (.int _ i) => br (decide (0 ≤ i)) (bnd s[i.toNat]? fun b => k (.d (.int .u8 b.toNat))) none
  | _, _ => none
noncomputable def Zoz (k : V → Option β) (r : V × Zm) : Option β := match fr r.2 6 r.1 with | some (x, _) => ZwB x k | none => none
noncomputable def Znv (Γ : Ctx) (cf : Zbf) (nid : Nat) (H : Zm) (f : Nat) (args : List V) (k : K3 β) : Option β :=
  match Γ.mode f with
  | 0 => (match fzs H args with
    | some l => ZhJ (ZcA l) fun l => bnd (cf f l []) (Zoz fun v => k v [] [])
    | none => none)
  | 1 => (match fzs H args with
    | some l => ZhJ (ZcA l) fun l => bnd (cf f l []) fun r => (match Zpv r.1 && Zlf r.2 with | true => k (Zmj (fun j => some (nid + j)) r.1) [] (r.2.map (Zg1 (fun j => some (nid + j)))) | false => none)
    | none => none)
  | _ => (ZfV 0 args H fun L args' H0 => bnd (cf f args' H0) fun r => (match Zle r.1 && Zh6 r.2 with
        | true => k (Zmj (fun j => match nth L j with | some b => some b | none => some (nid + (j - L.length))) r.1)
          (L.zip (r.2.map (Zg1 (fun j => match nth L j with | some b => some b | none => some (nid + (j - L.length))))))
          ((r.2.drop L.length).map (Zg1 (fun j => match nth L j with | some b => some b | none => some (nid + (j - L.length)))))
        | false => none))
noncomputable def Zqr (H : Zm) (ks : List Bool) (m k v : V) (kk : K3 β) : Option β :=
  match m, k, v with
  | .mp b, .d k, .d y => (match nth H b with
    | some (.mp es) => (match Zc7 ks k && ZgV y with | true => bnd (Zh3 es k y) fun l => kk .bad [(b, .mp l)] [] | false => none)
    | _ => none)
  | _, _, _ => none
noncomputable def ZqS (H : Zm) (ks : List Bool) (z : D) (m k : V) (kk : K3 β) : Option β :=
  match m, k with
  | .mp b, .d k => (match nth H b with
    | some (.mp es) => (match Zc7 ks k with | true => bnd (Zwy es k z) fun y => kk (.d y) [] [] | false => none)
    | _ => none)
  | _, _ => none
noncomputable def opK (Γ : Ctx) (cf : Zbf) (e : Env) (nid : Nat) (H : Zm) (o : O) (k : K3 β) : Option β :=
  match o with
  | .mov x => k (x.val e) [] []
  | .pick c a b => (match c.val e with | .d (.bool t) => brL t (k (a.val e) [] []) (k (b.val e) [] []) | _ => none)
  | .load n ag x => ZsV H n ag (x.val e) fun v => k v [] []
  | .store n x v => Zsl H n (x.val e) (v.val e) k
  | .bin op x y => Zx3 op (x.val e) (y.val e) fun v => k v [] []
  | .slice sz x lo hi mx => Zqy H sz (x.val e) (lo.map (·.val e)) (hi.map (·.val e)) (mx.map (·.val e)) fun v => k v [] []
  | .iaddr sz x i => Zqk H sz (x.val e) (i.val e) fun v => k v [] []
  | .index len sz ag x i => ZqA len sz ag (x.val e) (i.val e) fun v => k v [] []
  | .iaddrA len sz x i => Zn1 H len sz (x.val e) (i.val e) fun v => k v [] []
  | .indexS x i => ZnR (x.val e) (i.val e) fun v => k v [] []
  | .append sz x y => ZqO nid H sz (x.val e) (y.val e) k
  | .appendD sz x y => Zme H sz (x.val e) (y.val e) fun v => k v [] []
  | .eqv ks neg x y => (match x.val e, y.val e with
    | .d a, .d b => (match Zc7 ks a with | true => (match eqD a b with | some r => Zj2 (bif neg then !r else r) fun v => k v [] [] | none => none) | false => none)
    | _, _ => none)
  | .un .not x => (match x.val e with | .d (.bool b) => brL b (k (.d (.bool false)) [] []) (k (.d (.bool true)) [] []) | _ => none)
  | .extract x i => (match x.val e with
    | .tup vs => (match nth vs i with | some (.d (.bool c)) => Zj2 c fun v => k v [] [] | some v => k v [] [] | none => none)
    | .d (.tup vs) => (match nth vs i with | some (.bool c) => Zj2 c fun v => k v [] [] | some v => k (.d v) [] [] | none => none)
    | _ => none)
  | .mkslice sz z n c => (match n.val e, c.val e with
    | .d (.int _ n), .d (.int _ c) => br (decide (0 ≤ n) && decide (n ≤ lim) && decide (n == c))
        (bnd (some (List.replicate n.toNat (match z with | [x] => x | z => .agg z))) fun zs => k (.sl nid sz) [] [.arr sz zs]) none
    | _, _ => none)
  | .len x => (match elems H (x.val e) with | some xs => bnd (some (xs.length : Int)) fun n => k (.d (.int .i64 n)) [] [] | none => none)
  | .call f args => Znv Γ cf nid H f (vals e args) k
  | .callv x args => (match ZiW (x.val e) with | some (f, caps) => (match ZfR Γ (x.val e) f caps with | true => none | false => Znv Γ cf nid H f (vals e args ++ caps) k) | none => none)
  | .invoke tab x args => (match x.val e with
    | .d (.iface t y) => (match Zlj tab t with | some f => Znv Γ cf nid H f (.d y :: vals e args) k | none => none)
    | _ => none)
  | .callk f args _ => Znv Γ cf nid H f (vals e args) k
  | .spec id args => (match H, Zks (vals e args) with | [], some l => bnd (Zld id l) fun r => k (.d r) [] [] | _, _ => none)
  | .nilq x => (match elems H (x.val e) with | some xs => br (Nat.blt 0 xs.length) (k (.d (.bool false)) [] []) none | none => none)
  | .mapset ks m x v => Zqr H ks (m.val e) (x.val e) (v.val e) k
  | .mapget ks z m x => ZqS H ks z (m.val e) (x.val e) k
  | o => match opE Γ cf e nid H o with | some (v, up, nw) => ZpL v fun v => k v up nw | none => none
def on3 (x : Res) (k : K3 β) : Option β := match x with | some (v, up, nw) => k v up nw | none => none
theorem ZlX (Γ : Ctx) (cf : Zbf) (nid : Nat) (H : Zm) (f : Nat) (args : List V) (k : K3 β) : Znv Γ cf nid H f args k = on3 (ZfN Γ cf nid H f args) k := by
  unfold Znv ZfN
  generalize Γ.mode f = m
  match m with
  | 0 =>
    dsimp only
    simp only [ZeH]
    cases h1 : fzs H args with
    | none => rfl
    | some l =>
      simp only [Zhp]
      cases h2 : cf f (ZcA l) [] with
      | none => rfl
      | some r =>
        obtain ⟨v, H1⟩ := r
        dsimp only [Zoz]
        cases h3 : fr H1 6 v with
        | none => rfl
        | some q => obtain ⟨x, ks⟩ := q; cases x <;> try rfl
                    exact Ziy _ (fun v => k v [] [])
  | 1 =>
    dsimp only
    simp only [ZeH]
    cases h1 : fzs H args with
    | none => rfl
    | some l =>
      simp only [Zhp]
      cases h2 : cf f (ZcA l) [] with
      | none => rfl
      | some r =>
        dsimp only
        cases h3 : (Zpv r.1 && Zlf r.2) <;> rfl
  | m + 2 =>
    dsimp only
    simp only [ZeH]
    rw [Zdg]
    cases h1 : extract 0 args H with
    | none => rfl
    | some q =>
      obtain ⟨L, args', H0⟩ := q
      dsimp only
      cases h2 : cf f args' H0 with
      | none => rfl
      | some r =>
        dsimp only
        cases h3 : (Zle r.1 && Zh6 r.2) <;> rfl
theorem Zxs (op : BinOp) (x y : V) (k : V → Option β) : Zx3 op x y k = (match Zna op x y with | some r => k (.d r) | none => none) := by
  unfold Zx3
  split
  · rename_i i a j b
    simp only [Zna, Zx6]
    cases h : (i == j) <;> simp only [cond_true, cond_false, ZdT]
    cases h2 : (b == 0) <;> rfl
  · rename_i i a j b
    simp only [Zna, Zx6]
    cases h : (i == j) <;> simp only [cond_true, cond_false, ZdT]
    cases h2 : (b == 0) <;> rfl
  · rename_i i a j b
    simp only [Zna, shI, ZdT]
    cases h : decide (b < 0) <;> rfl
  · rename_i i a j b
    simp only [Zna, shI, ZdT]
    cases h : decide (b < 0) <;> rfl
  · cases h : Zna op x y with
    | none => rfl
    | some r => cases r <;> try rfl
                exact Ziy _ _
theorem Zwt (H : Zm) (n : Nat) (ag : Bool) (x : V) (k : V → Option β) : ZsV H n ag x k = (match Zc4 H n ag x with | some v => k v | none => none) := by
  unfold ZsV
  simp only [ZeH]
  simp only [ZrF]
  split
  · rename_i b sz i j
    simp only [Zc4]
    cases h : nth H b with
    | none => rfl
    | some blk =>
      cases blk <;> try rfl
      rename_i sz' xs
      dsimp only
      cases h2 : Nat.beq sz sz' <;> simp only [cond_true, cond_false]
      cases h3 : nth xs i <;> rfl
  · rfl
theorem Zue (H : Zm) (n : Nat) (x v : V) (k : K3 β) : Zsl H n x v k = on3 (Zlr H n x v) k := by
  unfold Zsl
  simp only [ZeH]
  split
  · rename_i b sz i j
    simp only [Zlr]
    cases h : nth H b with
    | none => rfl
    | some blk =>
      cases blk <;> try rfl
      rename_i sz' xs
      dsimp only
      cases h2 : Nat.beq sz sz' <;> simp only [cond_true, cond_false] <;> try rfl
      cases h3 : nth xs i with
      | none => rfl
      | some x =>
        cases h4 : fr H 6 v with
        | none => rfl
        | some q =>
          obtain ⟨y, ks⟩ := q
          dsimp only
          cases h5 : Zh8 ks b <;> simp only [cond_true, cond_false] <;> try rfl
          cases h6 : (Nat.beq y.cells.length n && Nat.ble (j + n) x.cells.length && (V.d y).okb && (x.isAgg || !y.isAgg)) <;> rfl
  · rfl
theorem Zsj (nid : Nat) (H : Zm) (sz : Nat) (x y : V) (k : K3 β) : ZqO nid H sz x y k = on3 (ZkC nid H sz x y) k := by
  unfold ZqO ZkC
  cases h : elems H y with
  | none => rfl
  | some ys =>
    simp only [ZdT, ZjL]
    cases h0 : ZjH sz ys 0 <;> simp only [cond_true, cond_false] <;> try rfl
    cases x <;> try rfl
    · rename_i b sz'
      dsimp only
      cases h1 : nth H b with
      | none => rfl
      | some blk =>
        cases blk <;> try rfl
        rename_i sz'' xs
        dsimp only
        cases h2 : (Nat.beq sz sz' && Nat.beq sz sz'') <;> simp only [cond_true, cond_false] <;> try rfl
        cases h3 : Nat.ble (xs.length + ys.length) lim <;> rfl
    · rename_i b sz' o len
      dsimp only
      cases h1 : nth H b with
      | none => rfl
      | some blk =>
        cases blk <;> try rfl
        rename_i sz'' xs
        dsimp only
        cases h2 : (Nat.beq sz sz' && Nat.beq sz sz'')
        · simp only [Bool.false_and, cond_false]; rfl
        · simp only [Bool.true_and, ZdT]
          cases h3 : Nat.ble (o + len + ys.length) xs.length <;> rfl
    · dsimp only
      cases h3 : Nat.ble ys.length lim <;> rfl
theorem ZrD (H : Zm) (sz : Nat) (x y : V) (k : V → Option β) : Zme H sz x y k = (match Zhc H sz x y with | some v => k v | none => none) := by
  unfold Zme Zhc
  cases x <;> try rfl
  dsimp only
  cases h : elems H y with
  | none => rfl
  | some ys =>
    simp only [ZdT, ZjL]
    cases h0 : ZjH sz ys 0 <;> cases h1 : Nat.ble ys.length lim <;> rfl
theorem Zt3 (v : Option V) (d : Nat) (k : Nat → Option β) : Zox v d k = (match ZgT v d with | some n => k n | none => none) := by
  unfold Zox ZgT
  cases v with
  | none => rfl
  | some v =>
    cases v <;> try rfl
    rename_i x
    cases x <;> try rfl
    rename_i i n
    dsimp only
    rw [ZdT]
    cases h : decide (0 ≤ n) <;> rfl
theorem Zuo (H : Zm) (sz : Nat) (x : V) (lo hi mx : Option V) (k : V → Option β) : Zqy H sz x lo hi mx k = (match Zhn H sz x lo hi mx with | some v => k v | none => none) := by
  unfold Zqy Zhn
  cases h : elems H x with
  | none => rfl
  | some xs =>
    simp only [Zt3]
    cases h1 : ZgT lo 0 with
    | none => rfl
    | some l =>
      cases h2 : ZgT hi xs.length with
      | none => rfl
      | some hh =>
        simp only [ZdT, ZjL]
        cases h3 : (Nat.ble l hh && Nat.ble hh xs.length) <;> simp only [cond_true, cond_false]
        cases mx with
        | none =>
          cases x <;> try rfl
          · rename_i x
            cases x <;> try rfl
            dsimp only
            cases h4 : (Nat.beq l 0 || ZjH sz xs l) <;> rfl
          · rename_i b sz'
            dsimp only
            cases h4 : Nat.beq sz sz' <;> rfl
          · rename_i b sz' o len
            dsimp only
            cases h4 : Nat.beq sz sz' <;> rfl
        | some m =>
          dsimp only
          cases h4 : ZgT (some m) 0 with
          | none => rfl
          | some m =>
            dsimp only
            cases h5 : (Nat.beq m l && Nat.beq m hh) <;> rfl
theorem ZuE (H : Zm) (sz : Nat) (x i : V) (k : V → Option β) : Zqk H sz x i k = (match Zht H sz x i with | some v => k v | none => none) := by
  unfold Zqk Zht
  simp only [ZeH]
  cases i <;> try rfl
  rename_i i
  cases i <;> try rfl
  rename_i ki i
  cases x <;> try rfl
  · rename_i x
    cases x <;> try rfl
    rename_i own xs
    dsimp only
    cases h : ZA xs i with
    | none => rfl
    | some x =>
      dsimp only
      cases h2 : (Nat.beq x.cells.length sz && (V.d x).okb) <;> rfl
  · rename_i b sz'
    dsimp only
    cases h1 : nth H b with
    | none => rfl
    | some blk =>
      cases blk <;> try rfl
      rename_i sz'' xs
      dsimp only
      cases h2 : (Nat.beq sz sz' && Nat.beq sz sz'') <;> simp only [cond_true, cond_false]
      cases h : ZA xs i <;> rfl
  · rename_i b sz' o len
    dsimp only
    cases h1 : nth H b with
    | none => rfl
    | some blk =>
      cases blk <;> try rfl
      rename_i sz'' xs
      dsimp only
      cases h2 : (Nat.beq sz sz' && Nat.beq sz sz'') <;> simp only [cond_true, cond_false]
      cases h : ZA ((xs.drop o).take len) i <;> rfl
theorem ZtX (len sz : Nat) (ag : Bool) (x i : V) (k : V → Option β) : ZqA len sz ag x i k = (match Zlw len sz ag x i with | some v => k v | none => none) := by
  unfold ZqA Zlw
  cases i <;> try rfl
  rename_i i
  cases i <;> try rfl
  rename_i ki i
  dsimp only
  rw [ZdT, ZeH]
  cases (x.isAggV && (decide (0 ≤ i) && decide (i < (len : Int)))) with
  | false => rfl
  | true => simp only [cond_true]; cases ZcR sz ag (List.drop (i.toNat * sz) x.cells) <;> rfl
theorem ZsT (H : Zm) (len sz : Nat) (x i : V) (k : V → Option β) : Zn1 H len sz x i k = (match ZfO H len sz x i with | some v => k v | none => none) := by
  unfold Zn1 ZfO
  cases i <;> try rfl
  rename_i i
  cases i <;> try rfl
  rename_i ki i
  dsimp only
  rw [ZdT]
  cases (decide (0 ≤ i) && decide (i < (len : Int))) <;> rfl
theorem ZsL (x i : V) (k : V → Option β) : ZnR x i k = (match ZiY x i with | some v => k v | none => none) := by
  unfold ZnR ZiY
  cases x <;> try rfl
  rename_i x
  cases x <;> try rfl
  rename_i s
  cases i <;> try rfl
  rename_i i
  cases i <;> try rfl
  rename_i ki i
  dsimp only
  rw [ZdT, ZeH]
  cases decide (0 ≤ i) with
  | false => rfl
  | true => simp only [cond_true]; cases s[i.toNat]? <;> rfl
theorem Ztk (x : Res) (k : K3 β) : (match x with | some (v, up, nw) => ZpL v fun v => k v up nw | none => none) = on3 x k := by
  cases x with
  | none => rfl
  | some q => exact ZrF _ _
theorem Zsz (H : Zm) (ks : List Bool) (m x v : V) (k : K3 β) : Zqr H ks m x v k = on3 (ZmD H ks m x v) k := by
  unfold Zqr ZmD
  cases m <;> try rfl
  cases x <;> try rfl
  cases v <;> try rfl
  rename_i b x y
  dsimp only
  cases hb : nth H b with
  | none => rfl
  | some blk =>
    cases blk <;> try rfl
    rename_i es
    dsimp only
    cases hk : (Zc7 ks x && ZgV y) with
    | false => rfl
    | true =>
      dsimp only
      rw [ZeH]
      cases hs : Zh3 es x y <;> rfl
theorem ZsR (H : Zm) (ks : List Bool) (z : D) (m x : V) (k : K3 β) : ZqS H ks z m x k = on3 (match ZkN H ks z m x with | some r => ZcM (.d r) | none => none) k := by
  unfold ZqS ZkN
  cases m <;> try rfl
  cases x <;> try rfl
  rename_i b x
  dsimp only
  cases hb : nth H b with
  | none => rfl
  | some blk =>
    cases blk <;> try rfl
    rename_i es
    dsimp only
    cases hk : Zc7 ks x with
    | false => rfl
    | true =>
      dsimp only
      rw [ZeH]
      cases hs : Zwy es x z <;> rfl
theorem Zqs (Γ : Ctx) (cf : Zbf) (e : Env) (nid : Nat) (H : Zm) (o : O) (k : K3 β) : opK Γ cf e nid H o k = on3 (opE Γ cf e nid H o) k := by
  cases o <;> try (first | rfl | exact Ztk _ _)
  · rename_i c a b
    show (match c.val e with | .d (.bool t) => brL t (k (a.val e) [] []) (k (b.val e) [] []) | _ => none) = on3 (match c.val e with | .d (.bool t) => ZcM (bif t then a.val e else b.val e) | _ => none) k
    cases c.val e <;> try rfl
    rename_i x
    cases x <;> try rfl
    rename_i t
    cases t <;> rfl
  · rename_i n ag x
    show ZsV H n ag (x.val e) (fun v => k v [] []) = on3 (match Zc4 H n ag (x.val e) with | some v => ZcM v | none => none) k
    rw [Zwt]
    cases h : Zc4 H n ag (x.val e) <;> rfl
  · exact Zue _ _ _ _ _
  · rename_i op x y
    show Zx3 op (x.val e) (y.val e) (fun v => k v [] []) = on3 (match Zna op (x.val e) (y.val e) with | some r => ZcM (.d r) | none => none) k
    rw [Zxs]
    cases h : Zna op (x.val e) (y.val e) <;> rfl
  · rename_i ks neg x y
    show (match x.val e, y.val e with
      | .d a, .d b => (match Zc7 ks a with | true => (match eqD a b with | some r => Zj2 (bif neg then !r else r) (fun v => k v [] []) | none => none) | false => none)
      | _, _ => none) = on3 (match x.val e, y.val e with
      | .d a, .d b => (match Zc7 ks a with | true => (match eqD a b with | some r => ZcM (.d (.bool (bif neg then !r else r))) | none => none) | false => none)
      | _, _ => none) k
    cases x.val e <;> try rfl
    rename_i a
    cases y.val e <;> try rfl
    rename_i b
    dsimp only
    cases hn : Zc7 ks a <;> try rfl
    dsimp only
    cases h : eqD a b with
    | none => rfl
    | some r => exact Ziy _ _
  · rename_i op x
    cases op <;> try (first | rfl | exact Ztk _ _)
    show (match x.val e with | .d (.bool b) => brL b (k (.d (.bool false)) [] []) (k (.d (.bool true)) [] []) | _ => none) = on3 (match unE .not (x.val e) with | some r => ZcM (.d r) | none => none) k
    cases x.val e <;> try rfl
    rename_i a
    cases a <;> try rfl
    rename_i b
    cases b <;> rfl
  · rename_i f caps
    cases caps <;> rfl
  · rename_i sz z n c
    show (match n.val e, c.val e with
      | .d (.int _ n), .d (.int _ c) => br (decide (0 ≤ n) && decide (n ≤ lim) && decide (n == c)) (bnd (some (List.replicate n.toNat (match z with | [x] => x | z => .agg z))) fun zs => k (.sl nid sz) [] [.arr sz zs]) none
      | _, _ => none) = on3 (match n.val e, c.val e with
      | .d (.int _ n), .d (.int _ c) => bif decide (0 ≤ n) && decide (n ≤ lim) && decide (n == c) then some (.sl nid sz, [], [.arr sz (List.replicate n.toNat (match z with | [x] => x | z => .agg z))]) else none
      | _, _ => none) k
    cases n.val e <;> try rfl
    rename_i x
    cases x <;> try rfl
    rename_i i n1
    cases c.val e <;> try rfl
    rename_i x
    cases x <;> try rfl
    rename_i j c1
    dsimp only
    simp only [ZdT, ZjL]
    cases h3 : (decide (0 ≤ n1) && decide (n1 ≤ lim) && decide (n1 == c1)) <;> rfl
  · rename_i sz x lo hi mx
    show Zqy H sz (x.val e) (lo.map (·.val e)) (hi.map (·.val e)) (mx.map (·.val e)) (fun v => k v [] []) = on3 (match Zhn H sz (x.val e) (lo.map (·.val e)) (hi.map (·.val e)) (mx.map (·.val e)) with | some v => ZcM v | none => none) k
    rw [Zuo]
    cases h : Zhn H sz (x.val e) (lo.map (·.val e)) (hi.map (·.val e)) (mx.map (·.val e)) <;> rfl
  · rename_i sz x i
    show Zqk H sz (x.val e) (i.val e) (fun v => k v [] []) = on3 (match Zht H sz (x.val e) (i.val e) with | some v => ZcM v | none => none) k
    rw [ZuE]
    cases h : Zht H sz (x.val e) (i.val e) <;> rfl
  · rename_i len sz ag x i
    show ZqA len sz ag (x.val e) (i.val e) (fun v => k v [] []) = on3 (match Zlw len sz ag (x.val e) (i.val e) with | some v => ZcM v | none => none) k
    rw [ZtX]
    cases h : Zlw len sz ag (x.val e) (i.val e) <;> rfl
  · rename_i x i
    show ZnR (x.val e) (i.val e) (fun v => k v [] []) = on3 (match ZiY (x.val e) (i.val e) with | some v => ZcM v | none => none) k
    rw [ZsL]
    cases h : ZiY (x.val e) (i.val e) <;> rfl
  · rename_i len sz x i
    show Zn1 H len sz (x.val e) (i.val e) (fun v => k v [] []) = on3 (match ZfO H len sz (x.val e) (i.val e) with | some v => ZcM v | none => none) k
    rw [ZsT]
    cases h : ZfO H len sz (x.val e) (i.val e) <;> rfl
  · rename_i x
    show (match elems H (x.val e) with | some xs => bnd (some (xs.length : Int)) fun n => k (.d (.int .i64 n)) [] [] | none => none) = on3 (match ZqF H (x.val e) with | some r => ZcM (.d r) | none => none) k
    unfold ZqF
    cases elems H (x.val e) with
    | none => rfl
    | some xs => exact ZjL _ _
  · exact Zsj _ _ _ _ _ _
  · rename_i sz x y
    show Zme H sz (x.val e) (y.val e) (fun v => k v [] []) = on3 (match Zhc H sz (x.val e) (y.val e) with | some v => ZcM v | none => none) k
    rw [ZrD]
    cases h : Zhc H sz (x.val e) (y.val e) <;> rfl
  · rename_i x i
    show (match x.val e with
      | .tup vs => (match nth vs i with | some (.d (.bool c)) => Zj2 c (fun v => k v [] []) | some v => k v [] [] | none => none)
      | .d (.tup vs) => (match nth vs i with | some (.bool c) => Zj2 c (fun v => k v [] []) | some v => k (.d v) [] [] | none => none)
      | _ => none) = on3 (match x.val e with
      | .tup vs => (match nth vs i with | some v => ZcM v | none => none)
      | .d (.tup vs) => (match nth vs i with | some v => ZcM (.d v) | none => none)
      | _ => none) k
    cases x.val e <;> try rfl
    · rename_i y
      cases y <;> try rfl
      rename_i vs
      dsimp only
      cases nth vs i with
      | none => rfl
      | some v => cases v <;> try rfl
                  exact Ziy _ _
    · rename_i vs
      dsimp only
      cases nth vs i with
      | none => rfl
      | some v => cases v <;> try rfl
                  rename_i y
                  cases y <;> try rfl
                  exact Ziy _ _
  · exact ZlX _ _ _ _ _ _ _
  · rename_i x args
    show (match ZiW (x.val e) with | some (f, caps) => (match ZfR Γ (x.val e) f caps with | true => none | false => Znv Γ cf nid H f (vals e args ++ caps) k) | none => none) = _
    rw [Zf7]
    cases h : ZiW (x.val e) with
    | none => rfl
    | some q =>
      obtain ⟨f, caps⟩ := q
      dsimp only
      cases hb : ZfR Γ (x.val e) f caps
      · exact ZlX _ _ _ _ _ _ _
      · rfl
  · rename_i tab x args
    show (match x.val e with
      | .d (.iface t y) => (match Zlj tab t with | some f => Znv Γ cf nid H f (.d y :: vals e args) k | none => none)
      | _ => none) = _
    rw [Zfz]
    cases h : x.val e <;> try rfl
    rename_i y
    cases y <;> try rfl
    rename_i t y
    dsimp only
    cases h2 : Zlj tab t with
    | none => rfl
    | some f => exact ZlX _ _ _ _ _ _ _
  · exact Zsz _ _ _ _ _ _
  · exact ZsR _ _ _ _ _ _
  · exact ZlX _ _ _ _ _ _ _
  · rename_i x
    show (match elems H (x.val e) with | some xs => br (Nat.blt 0 xs.length) (k (.d (.bool false)) [] []) none | none => none) = on3 (match elems H (x.val e) with | some xs => (match Nat.blt 0 xs.length with | true => ZcM (.d (.bool false)) | false => none) | none => none) k
    cases elems H (x.val e) with
    | none => rfl
    | some xs =>
      dsimp only
      rw [ZdT]
      cases Nat.blt 0 xs.length <;> rfl
  · rename_i id args
    show (match H, Zks (vals e args) with | [], some l => bnd (Zld id l) fun r => k (.d r) [] [] | _, _ => none) = on3 (match H, Zks (vals e args) with | [], some l => (match Zld id l with | some r => ZcM (.d r) | none => none) | _, _ => none) k
    cases H <;> cases Zks (vals e args) <;> try rfl
    rename_i l
    dsimp only
    rw [ZeH]
    cases Zld id l <;> rfl
def ZmT (e : Env) (g : Option (Nat × Bool)) (x y : Option β) : Option β :=
  match g with
  | none => x
  | some (s, b) => match e s with | .d (.bool t) => brL (t == b) x y | .d (.tup []) => y | _ => none
theorem Zp3 (e : Env) (g : Option (Nat × Bool)) (x y : Option β) : ZmT e g x y = (match Zfr e g with | some true => x | some false => y | none => none) := by
  unfold ZmT Zfr
  cases g with
  | none => rfl
  | some p =>
    obtain ⟨s, b⟩ := p
    dsimp only
    split <;> rename_i h
    · simp only [h, brL]; rename_i t; cases h2 : t == b <;> rfl
    · simp only [h]
    · split <;> simp_all
end
section
variable {β : Type}
def Zp9 (e : Env) (dst : Option Nat) (H : Zm) (v : V) (up : List (Nat × Blk)) (nw : List Blk) (k : Env → Zm → Option β) : Option β :=
  Zqo v fun v => match dst with
    | some i => (match up, nw with
      | [], [] => k (e.set i v) H
      | up, nw => Zki (ZdY H up ++ nw) fun H => k (e.set i v) H)
    | none => (match up, nw with
      | [], [] => k e H
      | up, nw => Zki (ZdY H up ++ nw) fun H => k e H)
theorem ZrM (e : Env) (dst : Option Nat) (H : Zm) (v : V) (up : List (Nat × Blk)) (nw : List Blk) (k : Env → Zm → Option β) : Zp9 e dst H v up nw k = k (Zpq e dst v) (ZdY H up ++ nw) := by
  unfold Zp9
  rw [Zp6]
  cases dst <;> dsimp only [Zpq]
  all_goals
    split
    · simp [ZdY]
    · rw [Zij]
def ZrB (e : Env) (dst : Option Nat) (k : Env → Option β) : Option β := match dst with | some i => k (e.set i (.d (.tup []))) | none => k e
theorem Zq7 (e : Env) (dst : Option Nat) (k : Env → Option β) : ZrB e dst k = k (Zpq e dst (.d (.tup []))) := by cases dst <;> rfl
def Zr4 : O → Bool
  | .mov _ => true
  | .pick _ _ _ => true
  | .build _ _ => true
  | .bin _ _ _ => true
  | .eqv _ _ _ _ => true
  | .un _ _ => true
  | .conv _ _ => true
  | .mkfn _ _ => true
  | .field _ _ _ _ => true
  | .index _ _ _ _ _ => true
  | .indexS _ _ => true
  | .mx _ _ => true
  | .extract _ _ => true
  | .bslice _ _ 0 _ => true
  | .alloc _ => true
  | .box _ => true
  | _ => false
theorem Zuy {Γ : Ctx} {cf : Zbf} {e : Env} {nid : Nat} {H H' : Zm} {op : O} (h : Zr4 op = true) : opE Γ cf e nid H op = opE Γ cf e nid H' op := by
  cases op <;> first | rfl | (cases h; done) | skip
  rename_i sz z len ps
  cases len with
  | zero => rfl
  | succ n => cases h
noncomputable def ZtT (Γ : Ctx) (cf : Zbf) (l : List Op1) (e : Env) (H : Zm) (k : Env → Zm → Option β) : Option β :=
  List.rec (motive := fun _ => Env → Zm → (Env → Zm → Option β) → Option β) (fun e H k => k e H)
    (fun o _ ih e H k => ZmT e o.guard (Zdy H.length fun nid => opK Γ cf e nid H o.op fun v up nw => Zp9 e o.dst H v up nw fun e H => ih e H k) (ZrB e o.dst fun e => ih e H k)) l e H k
theorem Zt4 (Γ : Ctx) (cf : Zbf) (o : Op1) (r : List Op1) (e : Env) (H : Zm) (k : Env → Zm → Option β) :
    ZtT Γ cf (o :: r) e H k = ZmT e o.guard (Zdy H.length fun nid => opK Γ cf e nid H o.op fun v up nw => Zp9 e o.dst H v up nw fun e H => ZtT Γ cf r e H k) (ZrB e o.dst fun e => ZtT Γ cf r e H k) := rfl
theorem ZqD (Γ : Ctx) (cf : Zbf) : ∀ (l : List Op1) (e : Env) (H : Zm) (k : Env → Zm → Option β), ZtT Γ cf l e H k = (match Zhs Γ cf l e H with | some (e, H) => k e H | none => none)
  | [], e, H, k => rfl
  | o :: l, e, H, k => by
    rw [Zt4]
    unfold Zhs
    rw [Zp3, ZdL, Zqs, Zq7]
    cases hw : Zfr e o.guard with
    | none => rfl
    | some b =>
      cases b with
      | false => exact ZqD Γ cf l _ _ k
      | true =>
        dsimp only
        cases ho : opE Γ cf e H.length H o.op with
        | none => rfl
        | some q => obtain ⟨v, up, nw⟩ := q; simp only [on3, ZrM]; exact ZqD Γ cf l _ _ k
def Zlm (l : List (Nat × Nat)) (k : List (Nat × Nat) → Option β) : Option β :=
  match l with
  | [] => k []
  | p :: l => Zdy p.1 fun a => Zdy p.2 fun b => Zlm l fun l => k ((a, b) :: l)
theorem Znk : ∀ (l : List (Nat × Nat)) (k : List (Nat × Nat) → Option β), Zlm l k = k l
  | [], k => rfl
  | p :: l, k => by unfold Zlm; rw [ZdL, ZdL, Znk l]
def Zxg (o : O) (mask : List Nat) (H : Zm) (pos : List (Nat × Nat)) (k : Zm → Option β) : Option β :=
  match Zr4 o with
  | true => k H
  | false => (match mask with | [] => k H | mask => Zki (ZfL H pos mask) k)
noncomputable def Zp2 (Γ : Ctx) (cf : Zbf) (pos : List (Nat × Nat)) (l : List Op1) (e : Env) (H : Zm) (k : Env → Zm → Option β) : Option β :=
  List.rec (motive := fun _ => List (Nat × Nat) → Env → Zm → (Env → Zm → Option β) → Option β) (fun _ e H k => k e H)
    (fun o _ ih pos e H k => ZmT e o.guard (Zdy H.length fun nid => Zxg o.op o.mask H pos fun Hm => opK Γ cf e nid Hm o.op fun v up nw =>
      (match Zok e H o up nw with | true => Zdy nw.length fun m => Zlm (pos ++ [(nid, m)]) fun pos => Zp9 e o.dst H v up nw fun e' H' => ih pos e' H' k | false => none)) (ZrB e o.dst fun e' => Zdy H.length fun nid => Zlm (pos ++ [(nid, 0)]) fun pos => ih pos e' H k)) l pos e H k
theorem ZsC (Γ : Ctx) (cf : Zbf) (pos : List (Nat × Nat)) (o : Op1) (r : List Op1) (e : Env) (H : Zm) (k : Env → Zm → Option β) :
    Zp2 Γ cf pos (o :: r) e H k = ZmT e o.guard (Zdy H.length fun nid => Zxg o.op o.mask H pos fun Hm => opK Γ cf e nid Hm o.op fun v up nw =>
      (match Zok e H o up nw with | true => Zdy nw.length fun m => Zlm (pos ++ [(nid, m)]) fun pos => Zp9 e o.dst H v up nw fun e' H' => Zp2 Γ cf pos r e' H' k | false => none)) (ZrB e o.dst fun e' => Zdy H.length fun nid => Zlm (pos ++ [(nid, 0)]) fun pos => Zp2 Γ cf pos r e' H k) := rfl
theorem Zvt (Γ : Ctx) (cf : Zbf) (e : Env) (nid : Nat) (o : O) (mask : List Nat) (H : Zm) (pos : List (Nat × Nat)) (k : K3 β) : (Zxg o mask H pos fun Hm => opK Γ cf e nid Hm o k) = opK Γ cf e nid (ZfL H pos mask) o k := by
  unfold Zxg
  cases h : Zr4 o with
  | true => dsimp only; rw [Zqs, Zqs, Zuy h (H := H) (H' := ZfL H pos mask)]
  | false =>
    dsimp only
    cases mask with
    | nil => rfl
    | cons a l => dsimp only; rw [Zij]
theorem ZoN (Γ : Ctx) (cf : Zbf) : ∀ (l : List Op1) (pos : List (Nat × Nat)) (e : Env) (H : Zm) (k : Env → Zm → Option β), Zp2 Γ cf pos l e H k = (match Zfa Γ cf pos l e H with | some (e, H) => k e H | none => none)
  | [], pos, e, H, k => rfl
  | o :: l, pos, e, H, k => by
    rw [ZsC]
    unfold Zfa
    rw [Zp3, ZdL, Zvt, Zqs, Zq7, ZdL, Znk]
    cases hw : Zfr e o.guard with
    | none => rfl
    | some b =>
      cases b with
      | false => exact ZoN Γ cf l _ _ _ k
      | true =>
        dsimp only
        cases ho : opE Γ cf e H.length (ZfL H pos o.mask) o.op with
        | none => rfl
        | some q =>
          obtain ⟨v, up, nw⟩ := q
          simp only [on3]
          cases hb : (Zok e H o up nw) <;> simp only [cond_true, cond_false, ZrM, ZdL, Znk]
          exact ZoN Γ cf l _ _ _ k
noncomputable def lpW (Γ : Ctx) (k : Nat) (live outs : List Nat) (a : C) (vs : List V) (H : Zm) : Option (Ex × List V × Zm) :=
  itW (fun vs H => Zee k live outs (Zag Γ (evW Γ) itW k a (ZdS live vs) H)) vs H
noncomputable def ZhE (Γ : Ctx) (k0 : Nat) (c : C) (e : Env) (H : Zm) (k : Ex → Env → Zm → Option β) : Option β :=
  C.rec (motive := fun _ => Env → Zm → (Ex → Env → Zm → Option β) → Option β)
    (fun e H k => k .normal e H) (fun e H k => k .ret e H) (fun id e H k => k (.exit id) e H)
    (fun _ _ ia ib e H k => ia e H fun x e H => (match x with | .normal => ib e H k | .exit i => k (.exit i) e H | .ret => k .ret e H))
    (fun x _ _ ia ib e H k => (match x.val e with | .d (.bool t) => brL t (ia e H k) (ib e H k) | _ => none))
    (fun id _ ia e H k => ia e H fun x e H => (match x with | .exit j => (match Nat.beq j id with | true => k .normal e H | false => k (.exit j) e H) | .normal => k .normal e H | .ret => k .ret e H))
    (fun live outs a _ e H k => Zog k0 (live.map e) H fun vs H => bnd (lpW Γ k0 live outs a vs H) fun r => k r.1 (ZdS outs r.2.1) r.2.2)
    (fun l e H k => ZtT Γ (evW Γ) l e H fun e H => k .normal e H)
    (fun l e H k => Zp2 Γ (evW Γ) [] l e H fun e H => k .normal e H) c e H k
theorem ZmC (Γ : Ctx) (k0 : Nat) : ∀ (c : C) (e : Env) (H : Zm) (k : Ex → Env → Zm → Option β), ZhE Γ k0 c e H k = (match Zag Γ (evW Γ) itW k0 c e H with | some (x, e, H) => k x e H | none => none) := by
  intro c
  induction c with
  | skip => intros; rfl
  | ret => intros; rfl
  | exit id => intros; rfl
  | seq a b iha ihb =>
    intro e H k
    show (ZhE Γ k0 a e H fun x e H => (match x with | .normal => ZhE Γ k0 b e H k | .exit i => k (.exit i) e H | .ret => k .ret e H)) = _
    unfold Zag
    rw [iha]
    cases h : Zag Γ (evW Γ) itW k0 a e H with
    | none => rfl
    | some q =>
      obtain ⟨x, e1, H1⟩ := q
      cases x with
      | normal => exact ihb e1 H1 k
      | exit i => rfl
      | ret => rfl
  | cond x a b iha ihb =>
    intro e H k
    show (match x.val e with | .d (.bool t) => brL t (ZhE Γ k0 a e H k) (ZhE Γ k0 b e H k) | _ => none) = _
    unfold Zag
    cases h : x.val e <;> try rfl
    rename_i y
    cases y <;> try rfl
    rename_i t
    cases t
    · exact ihb e H k
    · exact iha e H k
  | block id a iha =>
    intro e H k
    show (ZhE Γ k0 a e H fun x e H => (match x with | .exit j => (match Nat.beq j id with | true => k .normal e H | false => k (.exit j) e H) | .normal => k .normal e H | .ret => k .ret e H)) = _
    unfold Zag
    rw [iha]
    cases h : Zag Γ (evW Γ) itW k0 a e H with
    | none => rfl
    | some q =>
      obtain ⟨x, e1, H1⟩ := q
      cases x with
      | normal => rfl
      | exit j => dsimp only; cases h2 : Nat.beq j id <;> rfl
      | ret => rfl
  | loop live outs a iha =>
    intro e H k
    show (Zog k0 (live.map e) H fun vs H => bnd (lpW Γ k0 live outs a vs H) fun r => k r.1 (ZdS outs r.2.1) r.2.2) = _
    unfold Zag
    rw [Zry]
    cases h : ZnK k0 (live.map e) H with
    | none => rfl
    | some q =>
      obtain ⟨vs, H1⟩ := q
      simp only [lpW, ZeH]
      cases h2 : itW (fun vs H => Zee k0 live outs (Zag Γ (evW Γ) itW k0 a (ZdS live vs) H)) vs H1 with
      | none => rfl
      | some r => obtain ⟨x, vs, H⟩ := r; rfl
  | ops l =>
    intro e H k
    show (ZtT Γ (evW Γ) l e H fun e H => k .normal e H) = _
    unfold Zag
    rw [ZqD]
    cases h : Zhs Γ (evW Γ) l e H <;> rfl
  | draw l =>
    intro e H k
    show (Zp2 Γ (evW Γ) [] l e H fun e H => k .normal e H) = _
    unfold Zag
    rw [ZoN]
    cases h : Zfa Γ (evW Γ) [] l e H <;> rfl
theorem Zy5 (Γ : Ctx) (k : Nat) (live outs : List Nat) (a : C) (vs : List V) (H : Zm) :
    lpW Γ k live outs a vs H = ZhE Γ k a (ZdS live vs) H fun x e H => (match x with
      | .normal => Zog k (live.map e) H fun vs H => lpW Γ k live outs a vs H
      | x => ZfV k (outs.map e) H fun _ vs H => some (x, vs, H)) := by
  unfold lpW
  rw [Zzi, ZmC]
  cases h : Zag Γ (evW Γ) itW k a (ZdS live vs) H with
  | none => rfl
  | some q =>
    obtain ⟨x, e, H1⟩ := q
    cases x with
    | normal =>
      simp only [Zee]
      rw [Zry]
      cases h2 : ZnK k (live.map e) H1 with
      | none => rfl
      | some r => obtain ⟨vs, H2⟩ := r; rfl
    | exit j =>
      simp only [Zee]
      rw [Zdg]
      cases h2 : extract k (outs.map e) H1 with
      | none => rfl
      | some r => obtain ⟨L, vs, H2⟩ := r; rfl
    | ret =>
      simp only [Zee]
      rw [Zdg]
      cases h2 : extract k (outs.map e) H1 with
      | none => rfl
      | some r => obtain ⟨L, vs, H2⟩ := r; rfl
theorem Zf1 (Γ : Ctx) (f : Nat) (fn : FnI) (args : List V) (H : Zm) (hc : Γ.code f = some fn) (hn : Nat.beq args.length fn.nargs = true) :
    evW Γ f args H = ZhE Γ H.length fn.body (Zeq 0 args) H fun x e H1 => (match x with
      | .exit _ => none
      | _ => (match ZkW e H1 fn.res with
        | some l => ZfV H.length [ZgI l] H1 fun _ vs H2 => (match vs with | [v] => some (v, H2) | _ => none)
        | none => none)) := by
  rw [Zyu]
  unfold ZjE
  simp only [hc, hn, cond_true]
  rw [ZmC]
  cases h : Zag Γ (evW Γ) itW H.length fn.body (Zeq 0 args) H with
  | none => rfl
  | some q =>
    obtain ⟨x, e, H1⟩ := q
    cases x <;> try rfl
    all_goals
      dsimp only
      cases h2 : ZkW e H1 fn.res with
      | none => rfl
      | some l =>
        dsimp only
        rw [Zdg]
        cases h3 : extract H.length [ZgI l] H1 with
        | none => rfl
        | some q =>
          obtain ⟨L, vs, H2⟩ := q
          match vs with
          | [] => rfl
          | [v] => rfl
          | _ :: _ :: _ => rfl
end
theorem Zxn {β : Type} (x y : Option β) : br true x y = x := ZdT _ _ _
theorem Zxm {β : Type} (x y : Option β) : br false x y = y := ZdT _ _ _
theorem Zq6 {β : Type} (x : Option β) : bnd x some = x := by rw [ZeH]; cases x <;> rfl
attribute [irreducible] br bnd lpW
end Go.Proofs.YtnmbdjkbaihicaaDoorE
namespace Go.Proofs.YtnmbdjkbaihicaaDoorE
open Go
structure ZG where
 op : Int
 arg : Int
 work : Int
 deriving DecidableEq
structure ZM where
 src : Int
 dst : Int
 deriving DecidableEq
structure Zs where
 maker : Int
 user : Int
 pos : Int
 deriving DecidableEq
structure Zo where
 ins : List Int
 outs : List Int
 deriving DecidableEq
structure Zh where
 period : Int
 deadline : Int
 parts : List ZG
 edges : List ZM
 futures : List Zs
 barriers : List Zo
 deriving DecidableEq
abbrev Zb (n : Int) : D := .int .i64 n
abbrev ZtC (τ : Bool) (l : List Int) : D := .list τ (l.map Zb)
abbrev ZW (p : ZG) : D := .agg [Zb p.op, Zb p.arg, Zb p.work]
abbrev ZT (e : ZM) : D := .agg [Zb e.src, Zb e.dst]
abbrev Zx (f : Zs) : D := .agg [Zb f.maker, Zb f.user, Zb f.pos]
abbrev Zt (b : Zo) : D := .agg [ZtC true b.ins, ZtC true b.outs]
abbrev Zz0 (τ : Bool) (d : Zh) : D := .agg [Zb d.period, Zb d.deadline, .list τ (d.parts.map ZW), .list τ (d.edges.map ZT), .list τ (d.futures.map Zx), .list τ (d.barriers.map Zt)]
end Go.Proofs.YtnmbdjkbaihicaaDoorE
namespace Go.Proofs.YtnmbdjkbaihicaaDoorE
open Go
set_option linter.unusedVariables false
set_option linter.unusedSimpArgs false
theorem Zzu {n : Int} (h1 : -9223372036854775808 ≤ n) (h2 : n < 9223372036854775808) : IntKind.i64.wrap n = n := by
 show (if (true && decide (n % 18446744073709551616 ≥ 9223372036854775808)) = true then n % 18446744073709551616 - 18446744073709551616 else n % 18446744073709551616) = n
 by_cases h : n % 18446744073709551616 ≥ 9223372036854775808
 ·rw [decide_eq_true h]; simp only [Bool.and_self, if_true]; omega
 ·rw [decide_eq_false h]; simp only [Bool.and_false, Bool.false_eq_true, if_false]; omega
theorem Zu5 {α : Type} (xs : List α) (i : Nat) : ZA xs (i : Int) = xs[i]? := by
 unfold ZA
 have : decide ((0 : Int) ≤ i) = true := by simp
 rw [this]; simp [ZV]
theorem Zah (Γ : Ctx) (k : Nat) (live outs : List Nat) (a : C) (vs : List V) (H : Zm) :
  lpW Γ k live outs a vs H = ZhE Γ k a (ZdS live vs) H fun x e H => (match x with
   | .normal => Zog k (live.map e) H fun vs H => bnd (lpW Γ k live outs a vs H) some
   | x => ZfV k (outs.map e) H fun _ vs H => some (x, vs, H)) := by
 refine (Zy5 Γ k live outs a vs H).trans (congrArg (ZhE Γ k a (ZdS live vs) H) ?_)
 funext x e H
 cases x
 ·exact congrArg (Zog k (live.map e) H) (funext fun vs => funext fun H => (Zq6 _).symm)
 ·rfl
 ·rfl
theorem Zfp {α : Type} {f : α → D} {sz : Nat} (hf : ∀ x, (f x).cells.length = sz ∧ (V.d (f x)).okb = true) (l : List α) (i : Nat) : ZjH sz (l.map f) i = true := by
 unfold ZjH
 rw [ZV, List.getElem?_map]
 cases l[i]? with
 | none => rfl
 | some x => simp [hf x]
theorem ZAy {β : Type} {c : Bool} {x y : Option β} (h : c = true) : br c x y = x := by rw [h, Zxn]
theorem Zz3 {β : Type} {c : Bool} {x y : Option β} (h : c = false) : br c x y = y := by rw [h, Zxm]
def first {α : Type} (p : α → Bool) : Nat → List α → Option Nat
 | _, [] => none
 | i, x :: l => bif p x then some i else first p (i + 1) l
theorem ZyR {Γ : Ctx} {f : Nat} {args : List V} {H : Zm} {r : V × Zm} (n : Nat) (h : evN Γ n f args H = some r) : evW Γ f args H = some r := (ZhW Γ f args H r).2 ⟨n, h⟩
end Go.Proofs.YtnmbdjkbaihicaaDoorE
namespace Go.Proofs.YtnmbdjkbaihicaaDoorE
open Go
set_option linter.unusedVariables false
set_option linter.unusedSimpArgs false
theorem Zqn {α : Type} {f : α → D} {p : α → Prop} : ∀ {xs : List D}, (∀ y ∈ xs, ∃ a, y = f a ∧ p a) → ∃ l : List α, xs = l.map f ∧ ∀ a ∈ l, p a
 | [], _ => ⟨[], rfl, by simp⟩
 | x :: xs, h => by
  obtain ⟨a, ha, hp⟩ := h x (by simp)
  obtain ⟨l, hl, hq⟩ := Zqn (xs := xs) fun y hy => h y (by simp [hy])
  refine ⟨a :: l, by rw [ha, hl]; rfl, fun b hb => ?_⟩
  rcases List.mem_cons.1 hb with rfl | hb
  ·exact hp
  ·exact hq b hb
def I64 (n : Int) : Prop := -9223372036854775808 ≤ n ∧ n < 9223372036854775808
theorem Zhf {n : Int} (h : (Lit.int .i64 n).wf = true) : I64 n := by
 unfold Lit.wf at h
 simp only [Bool.and_eq_true, decide_eq_true_eq] at h
 have e1 : IntKind.i64.min = -9223372036854775808 := by decide
 have e2 : IntKind.i64.max = 9223372036854775807 := by decide
 rw [e1, e2] at h
 unfold I64
 omega
theorem Zy4 {y : D} {n : Nat} (h : y.isAgg = true) : y = .agg y.cells := by
 cases y <;> first | rfl | cases h
theorem ZxG {y : D} (h : y.isAgg = false) : y.cells = [y] := by
 cases y <;> first | rfl | cases h
theorem Zx7 {n : Nat} (h : n ≤ maxLen) : n < 9223372036854775808 := by
 unfold maxLen at h; omega
def Zw7 (l : List Int) : Prop := l.length < 9223372036854775808 ∧ ∀ n ∈ l, I64 n
theorem ZqM {x : D} (h : ZxE (.sl false [.int .i64]) x) : ∃ l, x = ZtC true l ∧ Zw7 l := by
 obtain ⟨xs, rfl, h1, h2⟩ := h
 obtain ⟨l, hl, hp⟩ := Zqn (f := Zb) (p := I64) (xs := xs) fun y hy => by
  obtain ⟨a1, a2⟩ := h2 y hy
  rw [ZxG a1] at a2
  obtain ⟨d, r, e1, ⟨n, e2, e3⟩, _⟩ := a2
  cases e1
  exact ⟨n, e2, Zhf e3⟩
 subst hl
 exact ⟨l, rfl, by simpa using Zx7 h1, hp⟩
def ZwI (p : ZG) : Prop := I64 p.op ∧ I64 p.arg ∧ I64 p.work
def ZwV (e : ZM) : Prop := I64 e.src ∧ I64 e.dst
def Zq3 (f : Zs) : Prop := I64 f.maker ∧ I64 f.user ∧ I64 f.pos
def ZpR (b : Zo) : Prop := Zw7 b.ins ∧ Zw7 b.outs
structure Zy6 (d : Zh) : Prop where
 period : I64 d.period
 deadline : I64 d.deadline
 pl : d.parts.length < 9223372036854775808
 p : ∀ x ∈ d.parts, ZwI x
 el : d.edges.length < 9223372036854775808
 e : ∀ x ∈ d.edges, ZwV x
 fl : d.futures.length < 9223372036854775808
 f : ∀ x ∈ d.futures, Zq3 x
 bl : d.barriers.length < 9223372036854775808
 b : ∀ x ∈ d.barriers, ZpR x
theorem ZnS {x : D} {els : List Lf} {α : Type} {f : α → D} {p : α → Prop} (h : ZxE (.sl true els) x) (hf : ∀ cs, Zgr els cs → ∃ a, D.agg cs = f a ∧ p a) : ∃ l : List α, x = .list true (l.map f) ∧ l.length < 9223372036854775808 ∧ ∀ a ∈ l, p a := by
 obtain ⟨xs, rfl, h1, h2⟩ := h
 obtain ⟨l, hl, hp⟩ := Zqn (f := f) (p := p) (xs := xs) fun y hy => by
  obtain ⟨a1, a2⟩ := h2 y hy
  rw [Zy4 (n := 0) a1]
  exact hf _ a2
 subst hl
 exact ⟨l, rfl, by simpa using Zx7 h1, hp⟩
abbrev ZBw : List Lf := [.int .i64, .int .i64, .sl true [.int .i64, .int .i64, .int .i64], .sl true [.int .i64, .int .i64], .sl true [.int .i64, .int .i64, .int .i64], .sl true [.sl false [.int .i64], .sl false [.int .i64]]]
theorem ZxQ {xs : List D} (h : Zgr ZBw xs) : ∃ d, D.agg xs = Zz0 true d ∧ Zy6 d := by
 obtain ⟨x1, r1, rfl, ⟨n1, rfl, w1⟩, x2, r2, rfl, ⟨n2, rfl, w2⟩, x3, r3, rfl, h3, x4, r4, rfl, h4, x5, r5, rfl, h5, x6, r6, rfl, h6, rfl⟩ := h
 obtain ⟨l3, rfl, b3, p3⟩ := ZnS (f := ZW) (p := ZwI) h3 fun cs hc => by
  obtain ⟨_, _, rfl, ⟨a, rfl, wa⟩, _, _, rfl, ⟨b, rfl, wb⟩, _, _, rfl, ⟨c, rfl, wc⟩, rfl⟩ := hc
  exact ⟨⟨a, b, c⟩, rfl, Zhf wa, Zhf wb, Zhf wc⟩
 obtain ⟨l4, rfl, b4, p4⟩ := ZnS (f := ZT) (p := ZwV) h4 fun cs hc => by
  obtain ⟨_, _, rfl, ⟨a, rfl, wa⟩, _, _, rfl, ⟨b, rfl, wb⟩, rfl⟩ := hc
  exact ⟨⟨a, b⟩, rfl, Zhf wa, Zhf wb⟩
 obtain ⟨l5, rfl, b5, p5⟩ := ZnS (f := Zx) (p := Zq3) h5 fun cs hc => by
  obtain ⟨_, _, rfl, ⟨a, rfl, wa⟩, _, _, rfl, ⟨b, rfl, wb⟩, _, _, rfl, ⟨c, rfl, wc⟩, rfl⟩ := hc
  exact ⟨⟨a, b, c⟩, rfl, Zhf wa, Zhf wb, Zhf wc⟩
 obtain ⟨l6, rfl, b6, p6⟩ := ZnS (f := Zt) (p := ZpR) h6 fun cs hc => by
  obtain ⟨_, _, rfl, ha, _, _, rfl, hb, rfl⟩ := hc
  obtain ⟨a, rfl, wa⟩ := ZqM ha
  obtain ⟨b, rfl, wb⟩ := ZqM hb
  exact ⟨⟨a, b⟩, rfl, wa, wb⟩
 exact ⟨⟨n1, n2, l3, l4, l5, l6⟩, rfl, Zhf w1, Zhf w2, b3, p3, b4, p4, b5, p5, b6, p6⟩
end Go.Proofs.YtnmbdjkbaihicaaDoorE
namespace Go.Proofs.YtnmbdjkbaihicaaDoorE
open Go
set_option linter.unusedVariables false
set_option linter.unusedSimpArgs false
def lpN {S R : Type} (step : S → Option (S ⊕ R)) : Nat → S → Option R
 | 0, _ => none
 | n + 1, s => (match step s with | some (.inl s') => lpN step n s' | some (.inr r) => some r | none => none)
theorem ZsK {S R : Type} (step : S → Option (S ⊕ R)) : ∀ (n m : Nat) (s : S) (r : R), n ≤ m → lpN step n s = some r → lpN step m s = some r
 | 0, _, _, _, _, h => by cases h
 | n + 1, 0, _, _, hm, _ => by omega
 | n + 1, m + 1, s, r, hm, h => by
  unfold lpN at h ⊢
  cases hs : step s with
  | none => rw [hs] at h; cases h
  | some t =>
   rw [hs] at h
   cases t with
   | inl s' => exact ZsK step n m s' r (by omega) h
   | inr r' => exact h
noncomputable def lp {S R : Type} (step : S → Option (S ⊕ R)) (s : S) : Option R := @dite _ (∃ n, (lpN step n s).isSome = true) (Classical.propDecidable _) (fun h => lpN step (Classical.choose h) s) fun _ => none
theorem Zu4 {S R : Type} {step : S → Option (S ⊕ R)} {s : S} {r : R} {n : Nat} (h : lpN step n s = some r) : lp step s = some r := by
 unfold lp
 have hx : ∃ n, (lpN step n s).isSome = true := ⟨n, by rw [h]; rfl⟩
 rw [dif_pos hx]
 have h2 := Classical.choose_spec hx
 cases h3 : lpN step (Classical.choose hx) s with
 | none => rw [h3] at h2; cases h2
 | some q =>
  have h4 := ZsK step _ (max n (Classical.choose hx)) s q (by omega) h3
  have h5 := ZsK step _ (max n (Classical.choose hx)) s r (by omega) h
  rw [h4] at h5
  exact h5
theorem ZvY {S R : Type} {step : S → Option (S ⊕ R)} {s : S} {r : R} (h : lp step s = some r) : ∃ n, lpN step n s = some r := by
 unfold lp at h
 split at h
 ·exact ⟨_, h⟩
 ·cases h
theorem Zba {S R : Type} (step : S → Option (S ⊕ R)) (s : S) : lp step s = (match step s with | some (.inl s') => lp step s' | some (.inr r) => some r | none => none) := by
 have key : ∀ r, lp step s = some r ↔ (match step s with | some (.inl s') => lp step s' | some (.inr r) => some r | none => none) = some r := by
  intro r
  constructor
  ·intro h
   obtain ⟨n, hn⟩ := ZvY h
   cases n with
   | zero => cases hn
   | succ n =>
    unfold lpN at hn
    cases hs : step s with
    | none => rw [hs] at hn; cases hn
    | some t =>
     rw [hs] at hn
     cases t with
     | inl s' => exact Zu4 hn
     | inr r' => exact hn
  ·intro h
   cases hs : step s with
   | none => rw [hs] at h; cases h
   | some t =>
    rw [hs] at h
    cases t with
    | inl s' =>
     obtain ⟨n, hn⟩ := ZvY h
     exact Zu4 (n := n + 1) (by unfold lpN; rw [hs]; exact hn)
    | inr r' => exact Zu4 (n := 1) (by unfold lpN; rw [hs]; exact h)
 cases h1 : lp step s with
 | some r => exact ((key r).1 h1).symm
 | none =>
  cases h2 : (match step s with | some (.inl s') => lp step s' | some (.inr r) => some r | none => none) with
  | none => rfl
  | some r => rw [(key r).2 h2] at h1; cases h1
theorem Zpc {S R : Type} {step : S → Option (S ⊕ R)} {s s' : S} (h : step s = some (.inl s')) : lp step s = lp step s' := by rw [Zba, h]
theorem ZxK {S R : Type} {step : S → Option (S ⊕ R)} {s : S} {r : R} (h : step s = some (.inr r)) : lp step s = some r := by rw [Zba, h]
noncomputable def ZvD {R : Type} (g : Nat → Option R) : Option R := @dite _ (∃ r : R, ∃ N, ∀ n, N ≤ n → g n = some r) (Classical.propDecidable _) (fun h => some (Classical.choose h)) fun _ => none
theorem Zxx {R : Type} {g : Nat → Option R} {r : R} (h : ZvD g = some r) : ∃ n, g n = some r := by
 unfold ZvD at h
 split at h
 ·rename_i hx
  obtain ⟨N, hN⟩ := Classical.choose_spec hx
  exact ⟨N, (hN N (Nat.le_refl _)).trans h⟩
 ·cases h
theorem ZxH {R : Type} {g : Nat → Option R} {N : Nat} {r : R} (h : ∀ n, N ≤ n → g n = some r) : ZvD g = some r := by
 have hx : ∃ r : R, ∃ N, ∀ n, N ≤ n → g n = some r := ⟨r, N, h⟩
 unfold ZvD
 rw [dif_pos hx]
 obtain ⟨M, hM⟩ := Classical.choose_spec hx
 rw [← hM (max N M) (by omega), h (max N M) (by omega)]
def ZE {α β : Type} (E : Option α) (Q : α → Option β → Prop) (rhs : Option β) : Prop := ∀ a, E = some a → Q a rhs
section
variable {α β : Type} {A B : Option α} {Q : α → Option β → Prop}
theorem Zd {c c' : Bool} {X Y : Option β} (h : c = c') (h1 : ZE A Q X) (h2 : ZE B Q Y) : ZE (bif c' then A else B) Q (br c X Y) := by
 subst h
 cases c with
 | true => rw [Zxn]; exact h1
 | false => rw [Zxm]; exact h2
theorem ZbP {c : Bool} {X Y : Option β} (h : c = true) (h1 : ZE A Q X) : ZE A Q (br c X Y) := by rw [h, Zxn]; exact h1
theorem Zaa {c : Bool} {X Y : Option β} (h : c = false) (h1 : ZE A Q Y) : ZE A Q (br c X Y) := by rw [h, Zxm]; exact h1
theorem Zl {γ : Type} {x x' : γ} {K : γ → Option β} (h : x = x') (k : ZE A Q (K x')) : ZE A Q (bnd (some x) K) := by rw [h, ZjL]; exact k
theorem Zg {γ : Type} {X : Option γ} {x : γ} {K : γ → Option β} (h : X = some x) (k : ZE A Q (K x)) : ZE A Q (bnd X K) := by rw [h, ZjL]; exact k
theorem Zf {γ δ : Type} {E : Option γ} {A : γ → Option α} {X : Option δ} {K : δ → Option β} (enc : γ → δ) (h : ∀ r, E = some r → X = some (enc r)) (k : ∀ r, E = some r → ZE (A r) Q (K (enc r))) : ZE (E.bind A) Q (bnd X K) := by
 intro a ha
 cases hE : E with
 | none => rw [hE] at ha; cases ha
 | some r =>
  rw [hE] at ha
  rw [h r hE, ZjL]
  exact k r hE a ha
theorem Zro {γ δ : Type} (f : γ → δ) (l : List γ) (i : Int) : ZA (l.map f) i = (ZA l i).map f := by
 unfold ZA
 cases decide (0 ≤ i) with
 | false => rfl
 | true => simp only [cond_true, ZV, List.getElem?_map]
theorem Zk {γ : Type} {f : γ → D} {l : List γ} {xs : List D} {i i' : Int} {A : γ → Option α} {K : D → Option β} (hx : xs = l.map f) (hi : i = i') (k : ∀ r, ZA l i' = some r → ZE (A r) Q (K (f r))) : ZE ((ZA l i').bind A) Q (bnd (ZA xs i) K) := by
 subst hx hi
 exact Zf f (fun r h => by rw [Zro, h]; rfl) k
theorem Zv {γ : Type} {f : γ → D} {l : List γ} {xs : List D} {i : Int} {r : γ} (hx : xs = l.map f) (h : ZA l i = some r) : nth xs i.toNat = some (f r) := by
 subst hx
 unfold ZA at h
 cases hd : decide (0 ≤ i) with
 | false => rw [hd] at h; cases h
 | true => rw [hd, cond_true, ZV] at h; rw [ZV, List.getElem?_map, h]; rfl
theorem ZaL {γ : Type} {f : γ → D} {l : List γ} {xs : List D} {i : Int} {r : γ} (hx : xs = l.map f) (h : ZA l i = some r) : ZA xs i = some (f r) := by
 subst hx
 rw [Zro, h]; rfl
theorem Zgf {γ : Type} {E X : Option γ} {A : γ → Option α} {K : γ → Option β} (h : X = E) (k : ∀ r, E = some r → ZE (A r) Q (K r)) : ZE (E.bind A) Q (bnd X K) := by
 subst h
 exact Zf id (fun r h => h) k
theorem Zc {a : α} {X : Option β} (h : Q a X) : ZE (some a) Q X := fun b hb => by cases hb; exact h
theorem Z0 {X : Option β} : ZE (none : Option α) Q X := fun b hb => by cases hb
theorem Zr6 {sz : Nat} {ag : Bool} {cs : List V} {i e : Int} {A0 A1 A2 A3 : Option α} {K : V → Option β} (hi : i = e) (h0 : ZE A0 Q (bnd (ZcR sz ag (cs.drop ((0 : Int).toNat * sz))) K)) (h1 : ZE A1 Q (bnd (ZcR sz ag (cs.drop ((1 : Int).toNat * sz))) K))
  (h2 : ZE A2 Q (bnd (ZcR sz ag (cs.drop ((2 : Int).toNat * sz))) K)) (h3 : ZE A3 Q (bnd (ZcR sz ag (cs.drop ((3 : Int).toNat * sz))) K)) :
  ZE (bif (e == 0) then A0 else bif (e == 1) then A1 else bif (e == 2) then A2 else bif (e == 3) then A3 else none) Q (bnd (ZcR sz ag (cs.drop (i.toNat * sz))) K) := by
 subst hi
 by_cases c0 : i = 0
 ·subst c0; exact h0
 by_cases c1 : i = 1
 ·subst c1; exact h1
 by_cases c2 : i = 2
 ·subst c2; exact h2
 by_cases c3 : i = 3
 ·subst c3; exact h3
 rw [beq_false_of_ne c0, beq_false_of_ne c1, beq_false_of_ne c2, beq_false_of_ne c3]
 exact Z0
theorem Zxk {γ : Type} (f : γ → D) (l : List γ) : Nat.blt 0 (List.map f l).length = Nat.blt 0 (List.length l) := by rw [List.length_map]
def mpD {K W : Type} (f : K → D) (g : W → D) (l : List (K × W)) : List (D × D) := l.map fun q => (f q.1, g q.2)
def Zf9 {K W : Type} (eq : K → K → Bool) : List (K × W) → K → W → W
 | [], _, z => z
 | (a, v) :: r, k, z => bif eq k a then v else Zf9 eq r k z
def ZmU {K W : Type} (eq : K → K → Bool) : List (K × W) → K → W → List (K × W)
 | [], k, v => [(k, v)]
 | (a, u) :: r, k, v => bif eq k a then (a, v) :: r else (a, u) :: ZmU eq r k v
theorem Zwi {K W : Type} {f : K → D} {g : W → D} (eq : K → K → Bool) (he : ∀ a b, eqD (f a) (f b) = some (eq a b)) (l : List (K × W)) (k : K) (z : W) : Zwy (mpD f g l) (f k) (g z) = some (g (Zf9 eq l k z)) := by
 induction l with
 | nil => rfl
 | cons q r ih =>
  obtain ⟨a, v⟩ := q
  show (match (match eqD (f k) (f a) with | some true => some (some (g v)) | some false => Zig (mpD f g r) (f k) | none => none) with | some (some y) => some y | some none => some (g z) | none => none) = _
  rw [he]
  unfold Zf9
  cases eq k a with
  | true => rfl
  | false => exact ih
theorem ZuS {K W : Type} {f : K → D} {g : W → D} (eq : K → K → Bool) (he : ∀ a b, eqD (f a) (f b) = some (eq a b)) (l : List (K × W)) (k : K) (v : W) : Zh3 (mpD f g l) (f k) (g v) = some (mpD f g (ZmU eq l k v)) := by
 induction l with
 | nil => rfl
 | cons q r ih =>
  obtain ⟨a, u⟩ := q
  show (match eqD (f k) (f a) with | some true => some ((f a, g v) :: mpD f g r) | some false => (match Zh3 (mpD f g r) (f k) (g v) with | some l => some ((f a, g u) :: l) | none => none) | none => none) = _
  rw [he]
  unfold ZmU
  cases eq k a with
  | true => rfl
  | false => dsimp only; rw [ih]; rfl
noncomputable def evD (Γ : Ctx) (f : Nat) (args : List V) : Option D := bnd (evW Γ f args []) fun r => (match fr r.2 6 r.1 with | some (x, _) => some x | none => none)
theorem Zuf (Γ : Ctx) (f : Nat) (args : List V) (K : V → Option β) : bnd (evW Γ f args []) (Zoz K) = bnd (evD Γ f args) (fun x => ZwB x K) := by
 unfold evD Zoz
 simp only [ZeH]
 cases evW Γ f args [] with
 | none => rfl
 | some r =>
  dsimp only
  cases fr r.2 6 r.1 with
  | none => rfl
  | some q => rfl
theorem Zi {γ : Type} {Γ : Ctx} {f : Nat} {args args' : List V} {E : Option γ} {A : γ → Option α} {K : V → Option β} (enc : γ → D) (w : ∀ r, E = some r → evD Γ f args' = some (enc r)) (ha : args = args') (k : ∀ r, E = some r → ZE (A r) Q (ZwB (enc r) K)) : ZE (E.bind A) Q (bnd (evW Γ f args []) (Zoz K)) := by
 subst ha
 rw [Zuf]
 exact Zf enc w k
end
theorem Zt1 {β δ : Type} (Γ : Ctx) (k0 : Nat) (c : C) (e : Env) (H : Zm) (k : Ex → Env → Zm → Option β) (p : β → Option δ) : bnd (ZhE Γ k0 c e H k) p = ZhE Γ k0 c e H fun x e H => bnd (k x e H) p := by
 rw [ZmC, ZmC]
 cases Zag Γ (evW Γ) itW k0 c e H with
 | none => exact ZeH _ _
 | some q => rfl
theorem Zaq (Γ : Ctx) (f : Nat) (fn : FnI) (args : List V) (hc : Γ.code f = some fn) (hn : Nat.beq args.length fn.nargs = true) :
  evD Γ f args = ZhE Γ 0 fn.body (Zeq 0 args) [] fun x e H1 => (match x with
   | .exit _ => none
   | _ => (match ZkW e H1 fn.res with
    | some l => ZfV 0 [ZgI l] H1 fun _ vs H2 => (match vs with | [v] => (match fr H2 6 v with | some (x, _) => some x | none => none) | _ => none)
    | none => none)) := by
 unfold evD
 rw [Zf1 Γ f fn args [] hc hn, Zt1]
 refine congrArg (ZhE Γ 0 fn.body (Zeq 0 args) []) ?_
 funext x e H1
 have none_b : ∀ {γ δ : Type} (p : γ → Option δ), bnd none p = none := fun p => ZeH _ _
 cases x with
 | exit j => exact none_b _
 | normal =>
  dsimp only
  cases ZkW e H1 fn.res with
  | none => exact none_b _
  | some l =>
   dsimp only
   rw [Zdg, Zdg]
   show bnd (match extract 0 [ZgI l] H1 with | some (L, vs, H) => _ | none => none) _ = _
   cases extract 0 [ZgI l] H1 with
   | none => exact none_b _
   | some q =>
    obtain ⟨L, vs, H2⟩ := q
    match vs with
    | [] => exact none_b _
    | [v] => exact ZjL _ _
    | _ :: _ :: _ => exact none_b _
 | ret =>
  dsimp only
  cases ZkW e H1 fn.res with
  | none => exact none_b _
  | some l =>
   dsimp only
   rw [Zdg, Zdg]
   show bnd (match extract 0 [ZgI l] H1 with | some (L, vs, H) => _ | none => none) _ = _
   cases extract 0 [ZgI l] H1 with
   | none => exact none_b _
   | some q =>
    obtain ⟨L, vs, H2⟩ := q
    match vs with
    | [] => exact none_b _
    | [v] => exact ZjL _ _
    | _ :: _ :: _ => exact none_b _
theorem ZyW {Γ : Ctx} {f : Nat} {args : List V} {x : D} (n : Nat) (h : (match evN Γ n f args [] with | some (v, H) => (match fr H 6 v with | some (x, _) => some x | none => none) | none => none) = some x) : evD Γ f args = some x := by
 cases hn : evN Γ n f args [] with
 | none => rw [hn] at h; cases h
 | some r =>
  rw [hn] at h
  obtain ⟨v, H⟩ := r
  unfold evD
  rw [ZyR n hn, ZjL]
  exact h
theorem Zai {S R β : Type} {step : S → Option (S ⊕ R)} {G : S → Option β} (x : R → β)
  (h : ∀ (s : S) (rec : S → Option R), (∀ s r, rec s = some r → G s = some (x r)) → ZE (step s) (fun t rhs => (match t with | .inl s' => ∀ r, rec s' = some r → rhs = some (x r) | .inr r => rhs = some (x r))) (G s)) : ∀ s r, lp step s = some r → G s = some (x r) := by
 intro s r hr
 obtain ⟨n, hn⟩ := ZvY hr
 clear hr
 induction n generalizing s r with
 | zero => cases hn
 | succ n ih =>
  unfold lpN at hn
  cases hs : step s with
  | none => rw [hs] at hn; cases hn
  | some t =>
   rw [hs] at hn
   have := h s (lpN step n) ih t hs
   cases t with
   | inl s' => exact this r hn
   | inr r' => cases hn; exact this
theorem Ze {S R β : Type} {G : Option β} {rec : S → Option R} {x : R → β} {s' : S} (h : ∀ r, rec s' = some r → G = some (x r)) : ZE (some (Sum.inl s')) (fun (t : S ⊕ R) (rhs : Option β) => (match t with | .inl s' => ∀ r, rec s' = some r → rhs = some (x r) | .inr r => rhs = some (x r))) (bnd G some) := by
 intro a ha
 cases ha
 intro r hr
 rw [Zq6]
 exact h r hr
theorem ZwC {Γ : Ctx} {f : Nat} {args : List V} (h : evD Γ f args = some (.bool true)) : ∃ H', evW Γ f args [] = some (.d (.bool true), H') := by
 unfold evD at h
 rw [ZeH] at h
 cases he : evW Γ f args [] with
 | none => rw [he] at h; cases h
 | some r =>
  obtain ⟨v, H⟩ := r
  rw [he] at h
  refine ⟨H, ?_⟩
  dsimp only at h
  cases hf : fr H 6 v with
  | none => rw [hf] at h; cases h
  | some q =>
   obtain ⟨x, ks⟩ := q
   rw [hf] at h
   cases h
   unfold fr at hf
   split at hf
   ·rename_i x
    split at hf
    ·rename_i ts
     cases he : ZsU ts <;> rw [he] at hf <;> cases hf
    ·rename_i y hy
     cases he : x.esc <;> rw [he] at hf <;> cases hf
     rfl
   all_goals
    first
    | cases hf
    | (split at hf <;> first | cases hf | (rename_i sz' xs _; revert hf; cases Nat.beq _ sz' <;> intro hf <;> cases hf) | skip)
   all_goals
    rename_i l ks _
    first
    | (cases he : D.escs l <;> rw [he] at hf <;> cases hf)
    | cases hf
theorem ZsJ {α β : Type} {A B : Option α} {Q : α → Option β → Prop} {X : Option β} (h : ZE A Q X) : ZE (bif true then A else B) Q X := h
theorem Zsd {α β : Type} {A B : Option α} {Q : α → Option β → Prop} {X : Option β} (h : ZE B Q X) : ZE (bif false then A else B) Q X := h
abbrev w64 (n : Int) : Int := IntKind.i64.wrap n
section
variable {γ : Type}
theorem ZB (f : γ → D) (l : List γ) : (((List.map f l).length : Nat) : Int) = ((l.length : Nat) : Int) := by rw [List.length_map]
theorem ZnO (f : γ → D) (z : γ) (n : Int) : List.replicate n.toNat (f z) = List.map f (List.replicate n.toNat z) := by rw [List.map_replicate]
theorem Zqh {α : Type} : ∀ (l : List α) (i : Nat) (y : α), ZeW l i y = l.set i y
 | [], _, _ => rfl
 | _ :: _, 0, _ => rfl
 | x :: l, i + 1, y => congrArg (x :: ·) (Zqh l i y)
theorem Zan (f : γ → D) (l : List γ) (i : Nat) (y : γ) : ZeW (List.map f l) i (f y) = List.map f (List.set l i y) := by rw [Zqh, List.map_set]
theorem Ze6 (f : γ → D) (l m : List γ) : List.map f l ++ List.map f m = List.map f (l ++ m) := by rw [List.map_append]
theorem Zfv (f : γ → D) (l : List γ) (n : Nat) : Nat.ble ((List.map f l).length + n) lim = Nat.ble (l.length + n) lim := by rw [List.length_map]
theorem ZfQ (f : γ → D) (l : List γ) : Nat.ble (List.map f l).length lim = Nat.ble l.length lim := by rw [List.length_map]
theorem ZvQ (f : γ → D) (l m : List γ) : Nat.ble ((List.map f l).length + (List.map f m).length) lim = Nat.ble (l.length + m.length) lim := by rw [List.length_map, List.length_map]
theorem ZzI (f : γ → D) (l : List γ) (o n : Nat) : List.take n (List.drop o (List.map f l)) = List.map f (List.take n (List.drop o l)) := by rw [← List.map_drop, ← List.map_take]
theorem Zs8 (f : γ → D) (l : List γ) (hi : Nat) : List.take (hi - 0) (List.drop 0 (List.map f l)) = List.map f (List.take hi l) := by rw [ZzI]; rfl
theorem Zyg (f : γ → D) (l : List γ) (hi : Nat) : (Nat.ble 0 hi && Nat.ble hi (List.map f l).length) = Nat.ble hi l.length := by rw [List.length_map]; cases hi <;> rfl
end
end Go.Proofs.YtnmbdjkbaihicaaDoorE
