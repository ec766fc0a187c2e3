/- Regions that draw their order: what is kept, step by step; DrawOK. -/
import Derived.Test.YtljgncbdagmeeaaDoorE29
namespace Go.Proofs.YtljgncbdagmeeaaDoorE
open Go
set_option linter.unusedVariables false
set_option linter.unusedSimpArgs false

theorem wants_congr {e e' : Env} : ∀ (g : Option (Nat × Bool)), (∀ s b, g = some (s, b) → e s = e' s) → wants e g = wants e' g
  | none, _ => rfl
  | some (s, b), h => by simp only [wants, h s b rfl]

section
variable {P : Program} {G : Globs} {N : Nat} {Γ : Ctx} {cf : CallF} {t : Trace} {l : List Op1} {e : Env} {H : Heap} {e' : Env} {H' : Heap} {os : Array Oper} {B : Nat → Nat → Prop} {Rf : RP} {wf : World}

/-- what stands when D is carried out -/
structure DInv (P : Program) (N : Nat) (t : Trace) (l : List Op1) (os : Array Oper) (e : Env) (H : Heap) (Rf : RP) (wf : World) (D : Nat → Bool) (a : Act) (w : World) : Prop where
  closed : Closed1 os D
  ex : ∃ K R env, K ≤ l.length ∧ (∀ m p, l[m]? = some p → m < K → 3 ≤ clsOf p → D m = true) ∧ (K < l.length → ∃ p, l[K]? = some p ∧ 3 ≤ clsOf p ∧ D K = false) ∧
    Ext Rf wf R w ∧ R.OK w ∧ R.H = stage t D K ∧ (∀ i, H.length ≤ i → (∀ j, j < l.length → D j = true → ¬ (t.len j ≤ i ∧ i < t.len (j + 1))) → R.M i = none) ∧ EnvOK R w env a ∧
    (∀ j p d, l[j]? = some p → p.dst = some d → D j = true → env d = t.VV j) ∧ (∀ d, (∀ j p, l[j]? = some p → p.dst = some d → D j = false) → env d = e d)
  tm : N ≤ a.tmps.size
  df : a.defers = []

/-- the heap at s, no effect behind it done: on to the next effect -/
theorem settle (ht : t.OK Γ cf [] l e H e' H') {D : Nat → Bool} {s : Nat} {R : RP} {w : World} (hs : s ≤ l.length) (ok : R.OK w) (hH : R.H = t.HH s) (hb : ∀ m p, l[m]? = some p → m < s → 2 ≤ clsOf p → D m = true) (ha : ∀ m p, l[m]? = some p → s ≤ m → 2 ≤ clsOf p → D m = false) :
    ∃ K, K ≤ l.length ∧ (∀ m p, l[m]? = some p → m < K → 3 ≤ clsOf p → D m = true) ∧ (K < l.length → ∃ p, l[K]? = some p ∧ 3 ≤ clsOf p ∧ D K = false) ∧ Ext R w { R with H := stage t D K } w ∧ RP.OK { R with H := stage t D K } w := by
  obtain ⟨K, h1, h2, h3, h4⟩ := next_eff l s hs
  have live : ∀ (i : Nat) blk, (stage t D K)[i]? = some blk → blk ≠ .dead → R.H[i]? = some blk := fun i blk h hd => by
    obtain ⟨g1, g2⟩ := stage_live h hd
    rw [hid_not] at g2
    have hiK : i < t.len K := (List.getElem?_eq_some_iff.1 g1).1
    by_cases hi : i < t.len s
    · rw [hH, ← ht.stay K h1 h2 h3 i hi]; exact g1
    · obtain ⟨j, f1, f2, f3, f4⟩ := ht.whose K h1 h2 (by omega) hiK
      have hp : l[j]? = some (l[j]'(by omega)) := List.getElem?_eq_getElem (by omega)
      have d1 := ha j _ hp f1 (ht.new2 hp ⟨f3, f4⟩)
      rw [g2 j f2 f3 f4] at d1; cases d1
  refine ⟨K, h2, fun m p hp hm hc => ?_, fun hK => ?_, Ext.kill live, ok.kill live⟩
  · rcases Nat.lt_or_ge m s with h | h
    · exact hb m p hp h (by omega)
    · have := h3 m p h hm hp; omega
  · obtain ⟨p, f1, f2⟩ := h4 hK
    exact ⟨p, f1, f2, ha K p f1 h1 (by omega)⟩

def upd (D : Nat → Bool) (j : Nat) : Nat → Bool := fun i => if i = j then true else D i

theorem step (c : FnCtx P G cf Rf wf) (hlo : Rf.H.length ≤ H.length) (ht : t.OK Γ cf [] l e H e' H') (hk : Chk P G N os l B) {Q : Exit → Act → World → Prop} {D : Nat → Bool} {a : Act} {w : World} (s : DInv P N t l os e H Rf wf D a w) {j : Nat} {o : Oper} (ho : os[j]? = some o) (hDj : D j = false) (hpre : ∀ i ∈ preO o, D i = true) :
    wpOp P os Q j (fun a' w' => DInv P N t l os e H Rf wf (upd D j) a' w') a w := by
  obtain ⟨K, R, env, hK, hKd, hKn, x, ok, hH, hM, hE, hV, hO⟩ := s.ex
  have hjl : j < l.length := by rw [← hk.len]; exact (Array.getElem?_eq_some_iff.1 ho).1
  obtain ⟨p, hp⟩ : ∃ p, l[j]? = some p := ⟨_, List.getElem?_eq_getElem hjl⟩
  have hoper := hk.oper j o p ho hp
  simp only [okOper, Bool.and_eq_true] at hoper
  obtain ⟨k1, k2, k3⟩ := hoper
  have down : ∀ i, B i j → D i = true := fun i hb => hk.down s.closed j i o ho hpre hb
  have downD : ∀ i k, k < l.length → D k = true → B i k → D i = true := fun i k h1 h2 h3 => hk.downD s.closed h1 h2 h3
  -- the slots that it reads
  have slot : ∀ d, d ∈ slotsOf p → env d = t.E j d := fun d hd => by
    by_cases hx : ∃ (i : Nat) (q : Op1), l[i]? = some q ∧ q.dst = some d
    · obtain ⟨i, q, hq, hqd⟩ := hx
      have old : j ≤ i → D i = false → env d = t.E j d := fun hji hDi => by
        rw [hO d fun i' q' hq' hqd' => by rw [hk.dst i' i q' q d hq' hq hqd' hqd]; exact hDi, ht.env0 j (by omega) fun i' q' hi' hq' hqd' => by
          have := hk.dst i' i q' q d hq' hq hqd' hqd; omega]
      rcases hk.reads i j q p d hq hp hqd hd with hb | hb | hb
      · rw [hV i q d hq hqd (down i hb), ht.envd hk hq hqd j (hk.lt j i hjl hb) (by omega)]
      · have hi := (List.getElem?_eq_some_iff.1 hq).1
        refine old (Nat.le_of_lt (hk.lt i j hi hb)) ?_
        cases hDi : D i with
        | false => rfl
        | true => have := downD j i hi hDi hb; rw [hDj] at this; cases this
      · subst hb; exact old (Nat.le_refl _) hDj
    · have hn : ∀ (i : Nat) (q : Op1), l[i]? = some q → q.dst ≠ some d := fun i q hq hqd => hx ⟨i, q, hq, hqd⟩
      rw [hO d fun i q hq hqd => absurd hqd (hn i q hq), ht.env0 j (by omega) fun i q _ hq => hn i q hq]
  have hg : wants env p.guard = some (t.W j) := by
    rw [← ht.w j p hp]
    refine wants_congr _ fun s' b hs => slot s' ?_
    unfold slotsOf
    rw [hs]; simp
  have hwant := wants_ok (a := a) hE k2 hg
  have hop : ∀ nid Hm, opE Γ cf env nid Hm p.op = opE Γ cf (t.E j) nid Hm p.op := fun nid Hm => by
    refine opE_congr _ fun y hy => ?_
    cases y with
    | c v => rfl
    | t i =>
      refine slot i ?_
      unfold slotsOf
      exact List.mem_append_left _ (List.mem_filterMap.2 ⟨.t i, hy, rfl⟩)
  -- what stands then
  have closed' : Closed1 os (upd D j) := fun k o' hk' hd i hi => by
    unfold upd at hd ⊢
    by_cases hik : i = j
    · rw [if_pos hik]
    · rw [if_neg hik]
      by_cases hkj : k = j
      · subst hkj; rw [ho] at hk'; cases hk'; exact hpre i hi
      · rw [if_neg hkj] at hd; exact s.closed k o' hk' hd i hi
  have fin : ∀ (K' : Nat) (R' : RP) (u : Value) (w' : World), K' ≤ l.length → (∀ m p, l[m]? = some p → m < K' → 3 ≤ clsOf p → upd D j m = true) → (K' < l.length → ∃ p, l[K']? = some p ∧ 3 ≤ clsOf p ∧ upd D j K' = false) →
      Ext R w R' w' → R'.OK w' → R'.H = stage t (upd D j) K' → (∀ i, R.M i = none → ¬ (t.len j ≤ i ∧ i < t.len (j + 1)) → R'.M i = none) → DenV R' w' (t.VV j) u → DInv P N t l os e H Rf wf (upd D j) (a.put o.dst u) w' := by
    intro K' R' u w' hK' hKd' hKn' x' ok' hH' hM' hv
    refine ⟨closed', ⟨K', R', setO env p.dst (t.VV j), hK', hKd', hKn', x.trans x', ok', hH', fun i hi hni => ?_, env_dst (x'.envOK ok.b01 hE) k1 s.tm hv, fun i q d hq hqd hd => ?_, fun d hd => ?_⟩, by rw [put_tm]; exact s.tm, by rw [put_df]; exact s.df⟩
    · refine hM' i (hM i hi fun m hm hd => hni m hm ?_) (hni j hjl ?_)
      · unfold upd; split
        · rfl
        · exact hd
      · unfold upd; rw [if_pos rfl]
    · cases hpd : p.dst with
      | none =>
        show env d = _
        have hij : i ≠ j := fun h => by subst h; rw [hp] at hq; cases hq; rw [hpd] at hqd; cases hqd
        refine hV i q d hq hqd ?_
        unfold upd at hd; rw [if_neg hij] at hd; exact hd
      | some d' =>
        show (bif Nat.beq d' d then t.VV j else env d) = _
        cases hb : Nat.beq d' d with
        | true =>
          obtain rfl := Nat.eq_of_beq_eq_true hb
          obtain rfl := hk.dst i j q p d' hq hp hqd hpd
          rfl
        | false =>
          have hij : i ≠ j := fun h => by
            subst h; rw [hp] at hq; cases hq; rw [hpd] at hqd; cases hqd; rw [Nat.beq_refl] at hb; cases hb
          refine hV i q d hq hqd ?_
          unfold upd at hd; rw [if_neg hij] at hd; exact hd
    · have h0 : env d = e d := hO d fun i q hq hqd => by
        have := hd i q hq hqd
        unfold upd at this
        by_cases hij : i = j
        · rw [if_pos hij] at this; cases this
        · rw [if_neg hij] at this; exact this
      cases hpd : p.dst with
      | none => exact h0
      | some d' =>
        show (bif Nat.beq d' d then t.VV j else env d) = _
        cases hb : Nat.beq d' d with
        | false => exact h0
        | true =>
          obtain rfl := Nat.eq_of_beq_eq_true hb
          have := hd j p hp hpd
          unfold upd at this; rw [if_pos rfl] at this; cases this
  have hlen := ht.len_succ hjl
  have own : ∀ i m, m < l.length → (t.len m ≤ i ∧ i < t.len (m + 1)) → (t.len j ≤ i ∧ i < t.len (j + 1)) → m = j := fun i m hm h1 h2 => ht.one hm hjl h1 h2
  have base : H.length ≤ t.len j := by
    have := ht.len_mono (a := 0) j (by omega) (by omega)
    unfold Trace.len at this ⊢; rw [ht.h0] at this; exact this
  have free : ∀ i, t.len j ≤ i → i < t.len j + (t.NW j).length → R.M i = none := fun i h1 h2 => hM i (by omega) fun m hm hd h => by
    have := own i m hm h ⟨h1, by omega⟩
    subst this; rw [hDj] at hd; cases hd
  rcases Nat.lt_or_ge (clsOf p) 3 with hc | hc
  · -- no effect
    have hKd' : ∀ m p, l[m]? = some p → m < K → 3 ≤ clsOf p → upd D j m = true := fun m p' h1 h2 h3 => by
      unfold upd; split
      · rfl
      · exact hKd m p' h1 h2 h3
    have hKn' : K < l.length → ∃ p, l[K]? = some p ∧ 3 ≤ clsOf p ∧ upd D j K = false := fun h => by
      obtain ⟨q, h1, h2, h3⟩ := hKn h
      refine ⟨q, h1, h2, ?_⟩
      unfold upd; rw [if_neg (fun h => by subst h; rw [hp] at h1; cases h1; omega)]; exact h3
    -- where it stands
    have two : 2 ≤ clsOf p → j < K ∧ ∀ m q, j ≤ m → m < K → l[m]? = some q → clsOf q ≤ 2 := fun h2 => by
      constructor
      · rcases Nat.lt_or_ge j K with h | h
        · exact h
        · obtain ⟨q, g1, g2, g3⟩ := hKn (by omega)
          rcases hk.order g1 hp g2 h2 with f | f | f
          · subst f; rw [hp] at g1; cases g1; omega
          · rw [down K f.2] at g3; cases g3
          · omega
      · intro m q h3 h4 hq
        rcases Nat.lt_or_ge (clsOf q) 3 with h | h
        · omega
        · rcases hk.order hq hp h h2 with f | f | f
          · subst f; rw [hp] at hq; cases hq; omega
          · omega
          · have := downD j m (by omega) (hKd m q hq h4 h) f.2
            rw [hDj] at this; cases this
    have stg : ∀ i, (stage t (upd D j) K)[i]? = if t.len j ≤ i ∧ i < t.len j + (t.NW j).length then (t.NW j)[i - t.len j]? else (stage t D K)[i]? := fun i => by
      by_cases hi : t.len j ≤ i ∧ i < t.len j + (t.NW j).length
      · rw [if_pos hi]
        have h2 := ht.new2 hp (i := i) ⟨hi.1, by omega⟩
        obtain ⟨t1, t2⟩ := two h2
        rw [stage_show]
        · rw [ht.stay (a := j + 1) K (by omega) hK (fun m q h3 h4 hq => t2 m q (by omega) h4 hq) i (by omega), ht.stay1 hp (by omega), List.getElem?_append_right hi.1]
          rfl
        · rw [hid_not]
          intro m hm h3 h4
          have := own i m (by omega) ⟨h3, h4⟩ ⟨hi.1, by omega⟩
          unfold upd; rw [if_pos this]
      · rw [if_neg hi, stage_get, stage_get]
        have : hid t (upd D j) K i = hid t D K i := by
          rw [Bool.eq_iff_iff, hid_iff, hid_iff]
          constructor
          · rintro ⟨m, h1, h2, h3⟩
            unfold upd at h2
            by_cases hm : m = j
            · rw [if_pos hm] at h2; cases h2
            · rw [if_neg hm] at h2; exact ⟨m, h1, h2, h3⟩
          · rintro ⟨m, h1, h2, h3, h4⟩
            have hm : m ≠ j := fun h => by subst h; omega
            exact ⟨m, h1, by unfold upd; rw [if_neg hm]; exact h2, h3, h4⟩
        rw [this]
    have hpl : t.UP j = [] := ht.noUp hp (by omega)
    unfold wpOp
    simp only [ho]
    cases hw : t.W j with
    | false =>
      rw [hw] at hwant
      rw [hwant]
      simp only [Bool.false_eq_true, if_false]
      obtain ⟨n1, n2, n3⟩ := ht.n j p hp hw
      refine fin K R undef w hK hKd' hKn' (Ext.refl R w) ok ?_ (fun i h _ => h) (by rw [n1]; exact undef_ok)
      rw [hH]
      apply List.ext_getElem?
      intro i
      rw [stg i, n3, if_neg (by rintro ⟨h1, h2⟩; simp at h2; omega)]
    | true =>
      rw [hw] at hwant
      rw [hwant]
      simp only [if_true]
      obtain ⟨y1, y2⟩ := ht.y j p hp hw
      rw [hpl] at y1
      -- blocks in sight
      have see : clsOf p ≤ 2 → ∀ i blk, (hideH (t.HH j) ([] ++ t.pos j) p.mask)[i]? = some blk → blk ≠ .dead → (t.HH j)[i]? = some blk ∧ ∀ m, m < j → t.len m ≤ i → i < t.len (m + 1) → D m = true := fun _ i blk h hd => by
        obtain ⟨h1, h2⟩ := hideH_get _ _ _ i blk h hd
        refine ⟨h1, fun m hm h3 h4 => ?_⟩
        have hq : l[m]? = some (l[m]'(by omega)) := List.getElem?_eq_getElem (by omega)
        rcases hk.early m j _ p hq hp hm with f | f | f
        · omega
        · exact down m f
        · have h5 := h2 m f (t.len m) (t.NW m).length (by simp [Trace.pos, hm, Trace.len])
          have := ht.len_succ (j := m) (by omega)
          omega
      have hHm : ∃ Hm, (∀ b blk, nth Hm b = some blk → blk ≠ .dead → nth R.H b = some blk) ∧ opE Γ cf env (t.len j) Hm p.op = some (t.VV j, [], t.NW j) := by
        rcases Nat.lt_or_ge (clsOf p) 2 with h2 | h2
        · rcases clsOf_one (p := p) (by omega) with ⟨_, h0⟩ | ⟨h01, h1, hne⟩ | ⟨h01, he1⟩
          · refine ⟨[], fun b blk hb => by simp [nth] at hb, ?_⟩
            rw [hop, cls0_ok (nid' := (t.HH j).length) (H' := hideH (t.HH j) ([] ++ t.pos j) p.mask) h0]; exact y1
          · refine ⟨R.H, fun b blk hb _ => hb, ?_⟩
            rw [hop]
            refine cls1_ok (H := hideH (t.HH j) ([] ++ t.pos j) p.mask) (fun b blk hb hd => ?_) h1 y1
            rw [nth_eq] at hb
            obtain ⟨g1, g2⟩ := see (by omega) b blk hb hd
            have hbj : b < t.len j := (List.getElem?_eq_some_iff.1 g1).1
            -- its block lies in the stage's heap
            have hbK : b < t.len K := by
              rcases Nat.lt_or_ge j K with h | h
              · have := ht.len_mono (a := j) K (by omega) hK; omega
              · by_cases hb0 : b < t.len 0
                · have := ht.len_mono (a := 0) K (by omega) hK; omega
                · obtain ⟨m, _, f2, f3, f4⟩ := ht.whose (a := 0) j (by omega) (by omega) (by omega) hbj
                  have hdm := g2 m f2 f3 f4
                  have hq : l[m]? = some (l[m]'(by omega)) := List.getElem?_eq_getElem (by omega)
                  have hmK : m < K := by
                    rcases Nat.lt_or_ge m K with h' | h'
                    · exact h'
                    · obtain ⟨q, q1, q2, q3⟩ := hKn (by omega)
                      rcases hk.order q1 hq q2 (ht.new2 hq ⟨f3, f4⟩) with f | f | f
                      · subst f; rw [hdm] at q3; cases q3
                      · rw [downD K m (by omega) hdm f.2] at q3; cases q3
                      · omega
                  have := ht.len_mono (a := m + 1) K (by omega) hK; omega
            have hhid : hid t D K b = false := by
              rw [hid_not]
              intro m hm h3 h4
              rcases Nat.lt_or_ge m j with h | h
              · exact g2 m h h3 h4
              · have := ht.len_mono (a := j) m h (by omega); omega
            rw [nth_eq, hH, stage_show hhid]
            have three : ∀ m q, l[m]? = some q → (j ≤ m ∧ m < K ∨ K ≤ m ∧ m < j) → clsOf q ≤ 3 := fun m q hq hm => by
              rcases Nat.lt_or_ge (clsOf q) 3 with h | h
              · omega
              · rcases hk.pair m j q p hq hp h with f | f | f | f | f | f
                · subst f; rw [hp] at hq; cases hq; omega
                · rcases hm with hm | hm
                  · have := hk.lt j m hjl f; omega
                  · have hdm := down m f
                    obtain ⟨q', q1, q2, q3⟩ := hKn (by omega)
                    rcases hk.order q1 hq q2 (by omega) with g | g | g
                    · subst g; rw [hdm] at q3; cases q3
                    · rw [downD K m (by omega) hdm g.2] at q3; cases q3
                    · omega
                · rcases hm with hm | hm
                  · have := downD j m (by omega) (hKd m q hq hm.2 h) f
                    rw [hDj] at this; cases this
                  · have := hk.lt m j (by omega) f; omega
                · omega
                · omega
                · exact absurd f.1 hne
            rcases Nat.le_total j K with h | h
            · obtain ⟨x1, y1', z1, z2, z3⟩ := ht.like hk (a := j) K h hK (fun m q h3 h4 hq => three m q hq (.inl ⟨h3, h4⟩)) b hbj
              rw [g1] at z1; cases z1
              exact ⟨y1', z2, z3.elim (fun h => h ▸ Blk.like_refl hd) id⟩
            · obtain ⟨x1, y1', z1, z2, z3⟩ := ht.like hk (a := K) j h (by omega) (fun m q h3 h4 hq => three m q hq (.inr ⟨h3, h4⟩)) b hbK
              rw [g1] at z2; cases z2
              exact ⟨x1, z1, z3.elim (fun h => by subst h; exact Blk.like_refl hd) Blk.like_symm⟩
          · -- a load that the calls leave as it is
            obtain ⟨s', hops, hgd⟩ : ∃ s', p.op = .load 1 false (.t s') ∧ p.guard = none := by
              have := hk.eff1 j p hp
              unfold eff1OK at this
              rw [he1] at this
              change (match p.op, p.guard with | .load 1 false (.t _), none => true | _, _ => false) = true at this
              split at this
              · exact ⟨_, by assumption, by assumption⟩
              · cases this
            have hsl : s' ∈ slotsOf p := by unfold slotsOf; rw [hops]; simp [opdsO, slotOf]
            have hjK : j < K := by
              rcases Nat.lt_or_ge j K with h | h
              · exact h
              · obtain ⟨q, g1, g2, g3⟩ := hKn (by omega)
                rcases hk.pair K j q p g1 hp g2 with f | f | f | f | f | f
                · subst f; rw [hp] at g1; cases g1; omega
                · rw [down K f] at g3; cases g3
                · have := hk.lt K j (by omega) f; omega
                · omega
                · exact absurd he1 f.2.2
                · omega
            have ldE : ∀ (Hx : Heap) (k : Nat), opE Γ cf (t.E j) k Hx p.op = (match loadE Hx 1 false (t.E j s') with | some v => ret1 v | none => none) := fun Hx k => by rw [hops]; rfl
            rw [ldE] at y1
            have hyl : loadE (hideH (t.HH j) ([] ++ t.pos j) p.mask) 1 false (t.E j s') = some (t.VV j) ∧ t.NW j = [] := by
              cases hl : loadE (hideH (t.HH j) ([] ++ t.pos j) p.mask) 1 false (t.E j s') with
              | none => rw [hl] at y1; cases y1
              | some v =>
                rw [hl] at y1
                obtain ⟨rfl, _, h3⟩ := ret1_inv y1
                exact ⟨rfl, h3⟩
            obtain ⟨hyl, hnw⟩ := hyl
            have key : ∀ k, j ≤ k → k ≤ K → loadE (t.HH k) 1 false (t.E j s') = some (t.VV j) := by
              intro k
              induction k with
              | zero =>
                intro h _
                have : j = 0 := by omega
                subst this
                exact loadE_at hyl fun b _ blk hb hd => (see (by omega) b blk hb hd).1
              | succ k ih =>
                intro hjk hkK
                by_cases hjk' : j = k + 1
                · subst hjk'
                  exact loadE_at hyl fun b _ blk hb hd => (see (by omega) b blk hb hd).1
                · have ih' := ih (by omega) (by omega)
                  have hq : l[k]? = some (l[k]'(by omega)) := List.getElem?_eq_getElem (by omega)
                  have app : ∀ (Ha Hb : Heap), loadE Ha 1 false (t.E j s') = some (t.VV j) → loadE (Ha ++ Hb) 1 false (t.E j s') = some (t.VV j) := fun Ha Hb hl =>
                    loadE_at hl fun b _ blk hb _ => by rw [List.getElem?_append_left (List.getElem?_eq_some_iff.1 hb).1]; exact hb
                  rcases Nat.lt_or_ge (clsOf (l[k]'(by omega))) 3 with h | h
                  · rw [ht.stay1 hq (by omega)]
                    exact app _ _ ih'
                  · rcases hk.pair k j _ p hq hp h with f | f | f | f | f | f
                    · subst f
                      rw [hp] at hq
                      have hq' := Option.some.inj hq
                      rw [← hq'] at h
                      omega
                    · have := hk.lt j k hjl f; omega
                    · have := downD j k (by omega) (hKd k _ hq (by omega) h) f
                      rw [hDj] at this; cases this
                    · omega
                    · exact absurd he1 f.2.2
                    · cases hwk : t.W k with
                      | false =>
                        obtain ⟨_, n2, n3⟩ := ht.n k _ hq hwk
                        rw [ht.h k _ hq, n2, n3]
                        exact app _ _ ih'
                      | true =>
                        have zc := (effC_iff (ht.y k _ hq hwk).2).2
                        have hkp := f.2.2
                        unfold keeps at hkp
                        rw [hops] at hkp
                        split at hkp
                        · rename_i f' args chk x' y' s'' hopk hsx
                          cases hsx
                          rw [hopk] at zc
                          obtain ⟨i0, q1, q2⟩ := chkE_t (show chkE (t.E k) (t.HH k) (updH (t.HH k) (t.UP k)) chk = true from zc) hkp
                          rw [ht.envs hk hp he1 hsl k (by omega) (by omega)] at q1 q2
                          rw [q1] at ih'
                          rw [ht.h k _ hq]
                          exact app _ _ (q2.trans ih')
                        · cases hkp
            refine ⟨R.H, fun b blk hb _ => hb, ?_⟩
            rw [hop, ldE]
            have : loadE R.H 1 false (t.E j s') = some (t.VV j) := by
              refine loadE_at (key K (by omega) (Nat.le_refl _)) fun b hb blk hbk hd => ?_
              obtain ⟨blk0, h5, h6⟩ := loadE_loc hyl hb
              obtain ⟨g1, g2⟩ := see (by omega) b blk0 h5 h6
              have hbj : b < t.len j := (List.getElem?_eq_some_iff.1 g1).1
              rw [hH, stage_show]
              · exact hbk
              · rw [hid_not]
                intro m hm h3 h4
                rcases Nat.lt_or_ge m j with h | h
                · exact g2 m h h3 h4
                · have := ht.len_mono (a := j) m h (by omega); omega
            rw [this, hnw]; rfl
        · obtain ⟨t1, t2⟩ := two h2
          refine ⟨_, fun b blk hb hd => ?_, by rw [hop]; exact y1⟩
          rw [nth_eq] at hb
          obtain ⟨g1, g2⟩ := see (by omega) b blk hb hd
          have hbj : b < t.len j := (List.getElem?_eq_some_iff.1 g1).1
          rw [nth_eq, hH, stage_show, ht.stay K (by omega) hK t2 b hbj]
          · exact g1
          · rw [hid_not]
            intro m hm h3 h4
            rcases Nat.lt_or_ge m j with h | h
            · exact g2 m h h3 h4
            · have := ht.len_mono (a := j) m h (by omega); omega
      obtain ⟨Hm, hle, hop'⟩ := hHm
      have pre : Pre G R w env a Hm := ⟨ok, x.gok c.ok.b01 c.g, hE, hle⟩
      have hplaced : Placed R.H [] (t.len j) (t.NW j) (stage t (upd D j) K) := fun i => by rw [stg i, hH]; rfl
      refine .inl ((op_ok pre c.cf k3 hop' free hplaced).wp fun u w' hpost => ?_)
      obtain ⟨R', x', ok', hH', hv, hM'⟩ := hpost
      exact fin K R' u w' hK hKd' hKn' x' ok' hH' (fun i h1 h2 => hM' i h1 (by omega)) hv
  · -- an effect
    have hjK : j = K := by
      rcases Nat.lt_trichotomy j K with h | h | h
      · rw [hKd j p hp h hc] at hDj; cases hDj
      · exact h
      · obtain ⟨q, g1, g2, g3⟩ := hKn (by omega)
        rcases hk.order g1 hp g2 (by omega) with f | f | f
        · omega
        · rw [down K f.2] at g3; cases g3
        · omega
    subst hjK
    have below : ∀ m q, l[m]? = some q → m < j → 2 ≤ clsOf q → D m = true := fun m q hq hm h2 => by
      rcases hk.order hp hq hc h2 with f | f | f
      · omega
      · omega
      · exact down m f.2
    have above : ∀ m q, l[m]? = some q → j < m → 2 ≤ clsOf q → D m = false := fun m q hq hm h2 => by
      cases hd : D m with
      | false => rfl
      | true =>
        rcases hk.order hp hq hc h2 with f | f | f
        · omega
        · have := downD j m (List.getElem?_eq_some_iff.1 hq).1 hd f.2
          rw [hDj] at this; cases this
        · omega
    have full : stage t D j = t.HH j := by
      apply List.ext_getElem?
      intro i
      refine stage_show (hid_not.2 fun m hm h3 h4 => ?_)
      have hq : l[m]? = some (l[m]'(by omega)) := List.getElem?_eq_getElem (by omega)
      exact below m _ hq hm (ht.new2 hq ⟨h3, h4⟩)
    rw [full] at hH
    have go : ∀ (R' : RP) (u : Value) (w' : World), Ext R w R' w' → R'.OK w' → R'.H = t.HH (j + 1) → (∀ i, R.M i = none → ¬ (t.len j ≤ i ∧ i < t.len (j + 1)) → R'.M i = none) → DenV R' w' (t.VV j) u → DInv P N t l os e H Rf wf (upd D j) (a.put o.dst u) w' := by
      intro R' u w' x' ok' hH' hM' hv
      obtain ⟨K', g1, g2, g3, g4, g5⟩ := settle ht (D := upd D j) (s := j + 1) (by omega) ok' hH' (fun m q hq hm h2 => by
        unfold upd
        by_cases hmj : m = j
        · rw [if_pos hmj]
        · rw [if_neg hmj]; exact below m q hq (by omega) h2) (fun m q hq hm h2 => by
        unfold upd; rw [if_neg (by omega)]; exact above m q hq (by omega) h2)
      exact fin K' _ u w' g1 g2 g3 (x'.trans g4) g5 rfl hM' (g4.denV ok'.b01 _ _ hv)
    unfold wpOp
    simp only [ho]
    cases hw : t.W j with
    | false =>
      rw [hw] at hwant
      rw [hwant]
      simp only [Bool.false_eq_true, if_false]
      obtain ⟨n1, n2, n3⟩ := ht.n j p hp hw
      refine go R undef w (Ext.refl R w) ok ?_ (fun i h _ => h) (by rw [n1]; exact undef_ok)
      rw [hH, ht.h j p hp, n2, n3]; simp [updH]
    | true =>
      rw [hw] at hwant
      rw [hwant]
      simp only [if_true]
      obtain ⟨y1, y2⟩ := ht.y j p hp hw
      rw [hk.mask j p hp hc] at y1
      have pre : Pre G R w env a (t.HH j) := ⟨ok, x.gok c.ok.b01 c.g, hE, fun b blk hb _ => by rw [hH]; exact hb⟩
      have hplaced : Placed R.H (t.UP j) (t.len j) (t.NW j) (t.HH (j + 1)) := by
        rw [hH, ht.h j p hp]; exact placed_app _ _ _
      refine .inl ((op_ok pre c.cf k3 (by rw [hop]; exact y1) free hplaced).wp fun u w' hpost => ?_)
      obtain ⟨R', x', ok', hH', hv, hM'⟩ := hpost
      exact go R' u w' x' ok' hH' (fun i h1 h2 => hM' i h1 (by omega)) hv

theorem countP_lt {p q : Nat → Bool} : ∀ (l : List Nat) (j : Nat), (∀ x, q x = true → p x = true) → j ∈ l → p j = true → q j = false → l.countP q < l.countP p
  | [], j, _, h, _, _ => by cases h
  | x :: l, j, hq, h, h1, h2 => by
    have mono : ∀ l : List Nat, l.countP q ≤ l.countP p := fun l => List.countP_mono_left fun x _ h => hq x h
    rw [List.countP_cons, List.countP_cons]
    by_cases hx : x = j
    · subst hx
      have := mono l
      rw [h1, h2]; simp; omega
    · have := countP_lt l j hq ((List.mem_cons.1 h).resolve_left (fun h => hx h.symm)) h1 h2
      cases hqx : q x with
      | true => rw [hq x hqx]; simp; omega
      | false => cases hpx : p x <;> simp <;> omega

theorem draw_any (c : FnCtx P G cf Rf wf) (hlo : Rf.H.length ≤ H.length) (ht : t.OK Γ cf [] l e H e' H') (hk : Chk P G N os l B) {Q : Exit → Act → World → Prop} (hQ : ∀ D a w, (∀ j, j < l.length → D j = true) → DInv P N t l os e H Rf wf D a w → Q .normal a w) :
    ∀ (fuel : Nat) (listed : Array Bool) (a : Act) (w : World), listed.size = os.size → DInv P N t l os e H Rf wf (fun j => listed.getD j false) a w → (List.range os.size).countP (fun j => !listed.getD j false) ≤ fuel → wpAny P .any os Q fuel listed a w := by
  have full : ∀ (listed : Array Bool), listed.size = os.size → (Region.ready .any os listed = []) → ∀ j, j < l.length → listed.getD j false = true := by
    intro listed hsz hr j
    induction j using Nat.strongRecOn with
    | ind j ih =>
      intro hj
      have hjs : j < os.size := by rw [hk.len]; exact hj
      cases hd : listed.getD j false with
      | true => rfl
      | false =>
        have : j ∈ Region.ready .any os listed := by
          rw [mem_ready]
          refine ⟨?_, os[j], Array.getElem?_eq_getElem hjs, fun ed he hb => ?_⟩
          · simp only [Array.getD_eq_getD_getElem?] at hd ⊢
            rw [Array.getElem?_eq_getElem (by omega)] at hd ⊢; exact hd
          · have hlt := hk.pre j _ (Array.getElem?_eq_getElem hjs) ed.on (by
              unfold preO
              exact List.mem_map.2 ⟨ed, List.mem_filter.2 ⟨by simpa using he, hb⟩, rfl⟩)
            exact ih ed.on hlt (by omega)
        rw [hr] at this; cases this
  intro fuel
  induction fuel with
  | zero =>
    intro listed a w hsz s hc
    have hall : ∀ j, j < l.length → listed.getD j false = true := fun j hj => by
      cases hd : listed.getD j false with
      | true => rfl
      | false =>
        have h1 : 0 < (List.range os.size).countP (fun j => !listed.getD j false) := List.countP_pos_iff.2 ⟨j, by simp [hk.len, hj], by simp only [hd]; rfl⟩
        omega
    refine ⟨?_, hQ _ a w hall s⟩
    apply List.eq_nil_iff_forall_not_mem.2
    intro j hj
    obtain ⟨h1, o, h2, _⟩ := mem_ready.1 hj
    have hjs := (Array.getElem?_eq_some_iff.1 h2).1
    have := hall j (by rw [← hk.len]; exact hjs)
    simp only [Array.getD_eq_getD_getElem?] at h1 this
    rw [Array.getElem?_eq_getElem (by omega)] at h1 this
    simp at h1 this; rw [h1] at this; cases this
  | succ fuel ih =>
    intro listed a w hsz s hc
    refine ⟨fun hr => hQ _ a w (full listed hsz hr) s, fun j hj => ?_⟩
    obtain ⟨h1, o, h2, h3⟩ := mem_ready.1 hj
    have hjs := (Array.getElem?_eq_some_iff.1 h2).1
    have hd : listed.getD j false = false := by
      simp only [Array.getD_eq_getD_getElem?] at h1 ⊢
      rw [Array.getElem?_eq_getElem (by omega)] at h1 ⊢; exact h1
    have hup : upd (fun j => listed.getD j false) j = fun k => (listed.setIfInBounds j true).getD k false := by
      funext k
      unfold upd
      by_cases hkj : k = j
      · subst hkj
        rw [if_pos rfl]
        simp [Array.getD_eq_getD_getElem?, hsz, hjs]
      · rw [if_neg hkj, getD_set_ne false (fun h => hkj h.symm)]
    refine wpOp_mono (fun a' w' s' => ih _ a' w' (by simp [hsz]) s' ?_) (hup ▸ step c hlo ht hk s h2 hd fun i hi => ?_)
    · have := countP_lt (p := fun j => !listed.getD j false) (q := fun k => !(listed.setIfInBounds j true).getD k false) (List.range os.size) j (fun k hk' => by
        by_cases hkj : j = k
        · subst hkj; simp only [hd]; rfl
        · rw [getD_set_ne false hkj] at hk'; exact hk') (by simp [hjs]) (by simp only [hd]; rfl) (by simp [Array.getD_eq_getD_getElem?, hsz, hjs])
      omega
    · unfold preO at hi
      obtain ⟨ed, f1, rfl⟩ := List.mem_map.1 hi
      obtain ⟨f2, f3⟩ := List.mem_filter.1 f1
      exact h3 ed (by simpa using f2) f3

end

theorem draw_ok {P : Program} {G : Globs} {N : Nat} {Γ : Ctx} {cf : CallF} : DrawOK P G N Γ cf (okDraw P G N) := by
  intro id os l Rf wf e H e' H' a w hok hd c s
  obtain ⟨B, hk⟩ := okDraw_chk hok
  obtain ⟨t, ht⟩ := draw_trace l [] e H e' H' hd
  obtain ⟨R, x, ok, hH, hM, hE⟩ := s.ex
  refine wp_region_any hk.mixed ?_
  have xd : Ext R w R { w with drawn := w.drawn + 1 } := Ext.draw rfl rfl rfl rfl
  have okd : R.OK { w with drawn := w.drawn + 1 } := ok.draw rfl rfl rfl rfl
  refine draw_any c s.hl ht hk (fun D a' w' hall s' => ?_) os.size _ a _ (by simp) ?_ ?_
  · obtain ⟨K, R', env, h1, h2, h3, x', ok', hH', hM', hE', hV, hO⟩ := s'.ex
    have hKl : K = l.length := by
      rcases Nat.lt_or_ge K l.length with h | h
      · obtain ⟨_, _, _, h4⟩ := h3 h
        rw [hall K h] at h4; cases h4
      · omega
    subst hKl
    have hHe : stage t D l.length = H' := by
      rw [← ht.h1]
      apply List.ext_getElem?
      intro i
      exact stage_show (hid_not.2 fun m hm _ _ => hall m hm)
    have hle : H.length ≤ H'.length := by
      have := ht.len_mono (a := 0) l.length (by omega) (Nat.le_refl _)
      unfold Trace.len at this; rw [ht.h0, ht.h1] at this; exact this
    have henv : ∀ d, env d = e' d := fun d => by
      rw [← ht.e1]
      by_cases hx : ∃ (i : Nat) (q : Op1), l[i]? = some q ∧ q.dst = some d
      · obtain ⟨i, q, hq, hqd⟩ := hx
        have hi := (List.getElem?_eq_some_iff.1 hq).1
        rw [hV i q d hq hqd (hall i hi), ht.envd hk hq hqd l.length hi (Nat.le_refl _)]
      · have hn : ∀ (i : Nat) (q : Op1), l[i]? = some q → q.dst ≠ some d := fun i q hq hqd => hx ⟨i, q, hq, hqd⟩
        rw [hO d fun i q hq hqd => absurd hqd (hn i q hq), ht.env0 l.length (Nat.le_refl _) fun i q _ hq => hn i q hq]
    refine ⟨rfl, ⟨⟨R', x', ok', by rw [hH', hHe], fun i hi => hM' i (by omega) fun j hj _ hb => ?_, fun d => by rw [← henv d]; exact hE' d⟩, s'.tm, s'.df, by have := s.hl; omega⟩⟩
    have := ht.len_mono (a := j + 1) l.length (by omega) (Nat.le_refl _)
    have h2 : t.len l.length = H'.length := by unfold Trace.len; rw [ht.h1]
    omega
  · have hf : ∀ j, (Array.replicate os.size false).getD j false = false := fun j => by
      by_cases hj : j < os.size <;> simp [Array.getD_eq_getD_getElem?, hj]
    obtain ⟨K, g1, g2, g3, g4, g5⟩ := settle ht (D := fun j => (Array.replicate os.size false).getD j false) (s := 0) (Nat.zero_le _) okd (by rw [ht.h0]; exact hH) (fun m p _ hm => by omega) (fun m p _ _ _ => hf m)
    refine ⟨fun j o _ hd => (by rw [hf j] at hd; cases hd), ⟨K, _, e, g1, g2, g3, (x.trans xd).trans g4, g5, rfl, fun i hi _ => hM i hi, g4.envOK okd.b01 (xd.envOK ok.b01 hE), fun j p d _ _ hd => (by rw [hf j] at hd; cases hd), fun d _ => rfl⟩, s.tm, s.df⟩
  · exact Nat.le_trans List.countP_le_length (by simp)

/-- Whatever the evaluator says is what the program does. -/
theorem ev_sound {P : Program} {G : Globs} {Γ : Ctx} (hall : ∀ f fn, Γ.code f = some fn → okFn P G (fun N => okDraw P G N) f fn = true ∨ SpecOK P f fn) : CallOK P G (evW Γ) :=
  evW_ok (fun _ _ _ => draw_ok) hall

end Go.Proofs.YtljgncbdagmeeaaDoorE
