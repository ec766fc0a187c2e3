/- The operations, one by one: lengths, slices, aggregates. -/
import Derived.Test.YtljgncbdagmeeaaDoorE9
namespace Go.Proofs.YtljgncbdagmeeaaDoorE
open Go
set_option linter.unusedVariables false
set_option linter.unusedSimpArgs false

section
variable {P : Program} {G : Globs} {R : RP} {w : World} {e : Env} {a : Act} {Hm H' : Heap} {nid : Nat} {o : Oper}

theorem s_iaddrA (pre : Pre G R w e a Hm) {t el : TypeId} {n len : Nat} {x i : Operand} {y j : Opd} {v : V} (hop : o.op = .indexAddr t x i) (hx : okOpd G x y = true) (hi : okOpd G i j = true) (ht : arrOf P t = some (len, el)) (hsz : szOf P el = some n)
    (h : iaddrAE Hm len n (y.val e) (j.val e) = some v) (hp : Placed R.H [] nid [] H') : OpOK P o a w (Post R w nid 0 H' v) := by
  have hv := pre.opd hx
  have hiv := pre.opd hi
  unfold iaddrAE at h
  split at h
  · rename_i k m hj
    rw [hj] at hiv
    cases hc : (decide (0 ≤ m) && decide (m < len)) with
    | false => rw [hc] at h; cases h
    | true =>
      rw [hc] at h
      simp only [cond_true] at h
      simp only [Bool.and_eq_true, decide_eq_true_eq] at hc
      obtain ⟨ad, h1, h2⟩ := faddr_ok pre hv h
      refine opOK_v (s := Instr.indexAt t (a.eval x) (a.eval i)) (by unfold execOp; rw [hop]) ?_ (Post.stay pre.ok hp h2)
      rw [h1, denI hiv]
      simp [Instr.indexAt, asIntOf, Instr.sureAddr, run_underlying (arrOf_spec ht), run_sizeOf hsz, hc]
  · cases h

/-- what holds something is not nil -/
theorem elems_some (pre : Pre G R w e a Hm) {x : V} {xs : List D} {u : Value} (hx : DenV R w x u) (h : elems Hm x = some xs) (hl : 0 < xs.length) : ∃ ad cap, u = .slice (some ad) xs.length cap := by
  unfold elems at h
  split at h
  · rename_i own xs'
    simp only [Option.some.injEq] at h
    subst h
    obtain ⟨ad, len, cap, rfl, rfl, e3, e4, e5⟩ := hx
    obtain ⟨b, off, sz, rfl, _⟩ := e5 (by intro hn; rw [hn] at hl; simp at hl)
    exact ⟨_, cap, rfl⟩
  · rename_i b sz
    cases hb : nth Hm b with
    | none => rw [hb] at h; cases h
    | some blk =>
      rw [hb] at h
      cases blk <;> try (cases h; done)
      rename_i sz' xs'
      dsimp only at h
      cases hs : Nat.beq sz sz' with
      | false => rw [hs] at h; cases h
      | true =>
        rw [hs] at h
        simp only [cond_true, Option.some.injEq] at h
        subst h
        obtain rfl := Nat.eq_of_beq_eq_true hs
        obtain ⟨m, q1, q2, q3, q4⟩ := own_sl pre hb hx
        obtain ⟨c, cs, el, fr, cap, rfl, rfl, _⟩ := slAt_real q4 (.inl hl)
        exact ⟨_, cap, rfl⟩
  · rename_i b sz of len
    cases hb : nth Hm b with
    | none => rw [hb] at h; cases h
    | some blk =>
      rw [hb] at h
      cases blk <;> try (cases h; done)
      rename_i sz' xs'
      dsimp only at h
      cases hs : Nat.beq sz sz' with
      | false => rw [hs] at h; cases h
      | true =>
        rw [hs] at h
        simp only [cond_true, Option.some.injEq] at h
        subst h
        obtain rfl := Nat.eq_of_beq_eq_true hs
        obtain ⟨m, q1, q2, q3, q4⟩ := own_slp pre hb hx
        have hlen : ((xs'.drop of).take len).length = len := by
          have := q4.1
          simp only [List.length_take, List.length_drop]; omega
        rw [hlen] at hl ⊢
        obtain ⟨c, cs, el, fr, cap, rfl, rfl, _⟩ := slAt_real q4 (.inl hl)
        exact ⟨_, cap, rfl⟩
  · simp only [Option.some.injEq] at h
    subst h
    simp at hl
  · cases h

/-- what a slice holds: its length -/
theorem elems_len (pre : Pre G R w e a Hm) {x : V} {xs : List D} {u : Value} (hx : DenV R w x u) (h : elems Hm x = some xs) : ∃ ad cap, u = .slice ad xs.length cap ∧ xs.length ≤ cap := by
  unfold elems at h
  split at h
  · rename_i own xs'
    simp only [Option.some.injEq] at h
    subst h
    obtain ⟨ad, len, cap, rfl, rfl, e3, _⟩ := hx
    exact ⟨ad, cap, rfl, e3⟩
  · rename_i b sz
    cases hb : nth Hm b with
    | none => rw [hb] at h; cases h
    | some blk =>
      rw [hb] at h
      cases blk <;> try (cases h; done)
      rename_i sz' xs'
      dsimp only at h
      cases hs : Nat.beq sz sz' with
      | false => rw [hs] at h; cases h
      | true =>
        rw [hs] at h
        simp only [cond_true, Option.some.injEq] at h
        subst h
        obtain rfl := Nat.eq_of_beq_eq_true hs
        obtain ⟨m, q1, q2, q3, q4, ad, cap, rfl, q5, _⟩ := own_sl pre hb hx
        exact ⟨ad, cap, rfl, q5⟩
  · rename_i b sz of len
    cases hb : nth Hm b with
    | none => rw [hb] at h; cases h
    | some blk =>
      rw [hb] at h
      cases blk <;> try (cases h; done)
      rename_i sz' xs'
      dsimp only at h
      cases hs : Nat.beq sz sz' with
      | false => rw [hs] at h; cases h
      | true =>
        rw [hs] at h
        simp only [cond_true, Option.some.injEq] at h
        subst h
        obtain rfl := Nat.eq_of_beq_eq_true hs
        obtain ⟨m, q1, q2, q3, q4, ad, cap, rfl, q5, _⟩ := own_slp pre hb hx
        have : ((xs'.drop of).take len).length = len := by simp only [List.length_take, List.length_drop]; omega
        rw [this]
        exact ⟨ad, cap, rfl, q5⟩
  · simp only [Option.some.injEq] at h
    subst h
    obtain ⟨ad, rfl⟩ := hx
    exact ⟨ad, 0, rfl, Nat.le_refl _⟩
  · cases h

/-- a builtin's call -/
theorem exec_builtin {b : Builtin} {xs : Array Operand} {ats : Array TypeId} (hop : o.op = .call { callee := .builtin b, args := xs, argTypes := ats }) :
    execOp a.eval o = builtin b ats o.type (xs.map fun | .const _ => true | _ => false) (xs.map a.eval) := by
  obtain ⟨dst, op, ty, pos, after, guard⟩ := o
  simp only at hop
  subst hop
  rfl

theorem s_len (pre : Pre G R w e a Hm) {t el : TypeId} {x : Operand} {y : Opd} {r : D} (hop : o.op = .call { callee := .builtin .len, args := #[x], argTypes := #[t] }) (hx : okOpd G x y = true) (ht : slOf P t = some el)
    (h : lenE Hm (y.val e) = some r) (hp : Placed R.H [] nid [] H') : OpOK P o a w (Post R w nid 0 H' (.d r)) := by
  have hv := pre.opd hx
  unfold lenE at h
  cases hes : elems Hm (y.val e) with
  | none => rw [hes] at h; cases h
  | some xs =>
    rw [hes] at h
    simp only [Option.some.injEq] at h
    subst h
    obtain ⟨ad, cap, h1, _⟩ := elems_len pre hv hes
    refine opOK_v (s := Builtin.len_ #[t] o.type #[a.eval x]) (u := .int .i64 xs.length) (by rw [exec_builtin hop, BigFrame.builtin_len]; simp) ?_ (Post.stay pre.ok hp rfl)
    rw [h1]
    simp [Builtin.len_, run_underlying (slOf_spec ht), goInt]

/-! slices of slices -/
def BndOK (x : Option Value) (d l : Nat) : Prop := (x = none ∧ l = d) ∨ ∃ k, x = some (.int k (l : Int))

theorem run_sl {t el : TypeId} {sz : Nat} {ad : Option Addr} {len cap l h : Nat} {lo hi : Option Value} (ht : slOf P t = some el) (hsz : szOf P el = some sz) (h1 : BndOK lo 0 l) (h2 : BndOK hi len h) (h3 : l ≤ h) (h4 : h ≤ cap) (h5 : len ≤ cap) :
    (Instr.sliceAt t (.slice ad len cap) lo hi none).run P w = .ok (.slice (if cap = l then ad else ad.map (·.add (l * sz))) (h - l) (cap - l)) w := by
  have ht' := slOf_spec ht
  rcases h1 with ⟨rfl, rfl⟩ | ⟨k1, rfl⟩ <;> rcases h2 with ⟨rfl, rfl⟩ | ⟨k2, rfl⟩ <;>
    simp [Instr.sliceAt, Instr.slice, run_underlying ht', Instr.sliceBounds, Instr.sliceBound, asIntOf, run_sizeOf hsz, *]
theorem run_sl3 {t el : TypeId} {sz : Nat} {ad : Option Addr} {len cap l h m : Nat} {lo hi mx : Option Value} (ht : slOf P t = some el) (hsz : szOf P el = some sz) (h1 : BndOK lo 0 l) (h2 : ∃ k, hi = some (.int k (h : Int))) (h6 : ∃ k, mx = some (.int k (m : Int))) (h3 : l ≤ h) (h4 : h ≤ m) (h5 : m ≤ cap) :
    (Instr.sliceAt t (.slice ad len cap) lo hi mx).run P w = .ok (.slice (if m = l then ad else ad.map (·.add (l * sz))) (h - l) (m - l)) w := by
  have ht' := slOf_spec ht
  obtain ⟨k2, rfl⟩ := h2
  obtain ⟨k3, rfl⟩ := h6
  rcases h1 with ⟨rfl, rfl⟩ | ⟨k1, rfl⟩ <;>
    simp [Instr.sliceAt, Instr.slice, run_underlying ht', Instr.sliceBounds, Instr.sliceBound, asIntOf, run_sizeOf hsz, *]

def okOpdO (G : Globs) : Option Operand → Option Opd → Bool
  | none, none => true
  | some x, some y => okOpd G x y
  | _, _ => false

theorem bnd_ok (pre : Pre G R w e a Hm) {x : Option Operand} {y : Option Opd} {d l : Nat} (hx : okOpdO G x y = true) (h : asNat (y.map (·.val e)) d = some l) : BndOK (x.map a.eval) d l := by
  cases x with
  | none =>
    cases y with
    | some y => cases hx
    | none => simp [asNat] at h; exact .inl ⟨rfl, h.symm⟩
  | some x =>
    cases y with
    | none => cases hx
    | some y =>
      have hv := pre.opd (x := x) (y := y) hx
      simp only [Option.map_some] at h
      unfold asNat at h
      split at h
      · cases ‹some _ = none›
      · rename_i k n hy
        simp only [Option.some.injEq] at hy
        rw [hy] at hv
        cases h0 : decide (0 ≤ n) with
        | false => rw [h0] at h; cases h
        | true =>
          rw [h0] at h
          simp only [cond_true, Option.some.injEq] at h
          have h0' : 0 ≤ n := of_decide_eq_true h0
          refine .inr ⟨k, ?_⟩
          simp only [Option.map_some]
          rw [denI hv, ← h, Int.toNat_of_nonneg h0']
      · cases h

theorem s_slice (pre : Pre G R w e a Hm) {t el : TypeId} {n : Nat} {x : Operand} {y : Opd} {lo hi mx : Option Operand} {lo' hi' mx' : Option Opd} {v : V} (hop : o.op = .slice t x lo hi mx) (hx : okOpd G x y = true)
    (hlo : okOpdO G lo lo' = true) (hhi : okOpdO G hi hi' = true) (hmx : okOpdO G mx mx' = true) (hh : mx'.isSome = true → hi'.isSome = true) (ht : slOf P t = some el) (hsz : szOf P el = some n)
    (h : sliceE Hm n (y.val e) (lo'.map (·.val e)) (hi'.map (·.val e)) (mx'.map (·.val e)) = some v) (hp : Placed R.H [] nid [] H') : OpOK P o a w (Post R w nid 0 H' v) := by
  have hv := pre.opd hx
  unfold sliceE at h
  cases hes : elems Hm (y.val e) with
  | none => rw [hes] at h; cases h
  | some xs =>
    rw [hes] at h
    dsimp only at h
    cases hl : asNat (lo'.map (·.val e)) 0 with
    | none => rw [hl] at h; cases h
    | some l =>
      rw [hl] at h
      cases hhn : asNat (hi'.map (·.val e)) xs.length with
      | none => rw [hhn] at h; cases h
      | some hn =>
        rw [hhn] at h
        dsimp only at h
        cases hc : (Nat.ble l hn && Nat.ble hn xs.length) with
        | false => rw [hc] at h; cases h
        | true =>
          rw [hc] at h
          simp only [cond_true] at h
          simp only [Bool.and_eq_true, Nat.ble_eq] at hc
          obtain ⟨c1, c2⟩ := hc
          obtain ⟨ad, cap, q1, q2⟩ := elems_len pre hv hes
          have b1 := bnd_ok pre hlo hl
          have b2 := bnd_ok pre hhi hhn
          have fin : DenV R w v (.slice (if cap = l then ad else ad.map (·.add (l * n))) (hn - l) (cap - l)) → mx = none → OpOK P o a w (Post R w nid 0 H' v) := fun h5 hm =>
            opOK_v (s := Instr.sliceAt t (a.eval x) (lo.map a.eval) (hi.map a.eval) (mx.map a.eval)) (by unfold execOp; rw [hop]) (by rw [q1, hm]; exact run_sl ht hsz b1 b2 c1 (by omega) q2) (Post.stay pre.ok hp h5)
          cases mx' with
          | none =>
            have hm : mx = none := by cases mx with | none => rfl | some m => cases hmx
            simp only [Option.map_none] at h
            refine fin ?_ hm
            rw [q1] at hv
            cases hy : y.val e <;> rw [hy] at h hv hes <;> try (cases h; done)
            · rename_i z
              cases z <;> try (cases h; done)
              rename_i own xs'
              simp only [elems, Option.some.injEq] at hes
              subst hes
              dsimp only at h
              cases hg : (Nat.beq l 0 || szAt n xs' l) with
              | false => rw [hg] at h; cases h
              | true =>
                rw [hg] at h
                simp only [cond_true, Option.some.injEq] at h
                subst h
                obtain ⟨ad', len', cap', e1, e2, e3, e4, e5⟩ := hv
                cases e1
                have hlen : ((xs'.drop l).take (hn - l)).length = hn - l := by simp only [List.length_take, List.length_drop]; omega
                refine ⟨_, _, _, rfl, hlen.symm, by omega, fun z hz => e4 z (List.mem_of_mem_drop (List.mem_of_mem_take hz)), fun hne => ?_⟩
                have hlt : l < hn := by
                  rcases Nat.lt_or_ge l hn with h | h
                  · exact h
                  · exact absurd (List.eq_nil_of_length_eq_zero (by omega)) hne
                obtain ⟨b, off, sz, rfl, f2, f3, f4⟩ := e5 (by intro hn'; rw [hn'] at c2; simp at c2; omega)
                have hcl : cap ≠ l := by omega
                have hsame : l * n = l * sz := by
                  simp only [Bool.or_eq_true] at hg
                  rcases hg with hg | hg
                  · rw [Nat.eq_of_beq_eq_true hg, Nat.zero_mul, Nat.zero_mul]
                  · have hll : l < xs'.length := by omega
                    unfold szAt at hg
                    rw [nth_eq, List.getElem?_eq_getElem hll] at hg
                    simp only [Bool.and_eq_true] at hg
                    obtain ⟨u, g1, g2, g3⟩ := denEls_at xs' off l _ f4 (List.getElem?_eq_getElem hll)
                    have := cells_ok (R := R) (v := .d xs'[l]) g1 hg.2
                    have h6 := denVs_len _ _ this
                    have hVc : (V.d xs'[l]).cells = mapd xs'[l].cells := by cases xs'[l] <;> rfl
                    rw [hVc, mapd_eq, List.length_map, Nat.eq_of_beq_eq_true hg.1] at h6
                    rw [← g2]; simp at h6; rw [h6]
                refine ⟨b, off + l * sz, sz, by rw [if_neg hcl, hsame]; simp [Addr.add_lit], f2, f3, denEls_mk _ _ fun j z hz => ?_⟩
                have hj : j < hn - l := by have := (List.getElem?_eq_some_iff.1 hz).1; omega
                rw [List.getElem?_take, if_pos hj, List.getElem?_drop] at hz
                obtain ⟨u, g1, g2, g3⟩ := denEls_at xs' off (l + j) z f4 hz
                exact ⟨u, g1, g2, fun k v hk => by rw [← g3 k v hk, Nat.add_mul]; congr 2; omega⟩
            · rename_i b sz'
              dsimp only at h
              cases hg : Nat.beq n sz' with
              | false => rw [hg] at h; cases h
              | true =>
                rw [hg] at h
                simp only [cond_true, Option.some.injEq] at h
                obtain rfl := Nat.eq_of_beq_eq_true hg
                subst h
                simp only [elems] at hes
                cases hb : nth Hm b with
                | none => rw [hb] at hes; cases hes
                | some blk =>
                  rw [hb] at hes
                  cases blk <;> try (cases hes; done)
                  rename_i sz'' xs'
                  dsimp only at hes
                  cases hs : Nat.beq n sz'' with
                  | false => rw [hs] at hes; cases hes
                  | true =>
                    rw [hs] at hes
                    simp only [cond_true, Option.some.injEq] at hes
                    obtain rfl := Nat.eq_of_beq_eq_true hs
                    subst hes
                    obtain ⟨m, r1, r2, r3, r4⟩ := own_sl pre hb hv
                    refine ⟨⟨_, _, _, rfl⟩, m, r1, fun ys hys => ?_⟩
                    rw [r2] at hys; cases hys
                    obtain ⟨_, ad', cap', s1, s2, s3⟩ := r4
                    cases s1
                    refine ⟨by omega, _, _, rfl, by omega, ?_⟩
                    rcases s3 with ⟨s3, s4⟩ | ⟨c, cs, el', fr, s4, s5, s6, s7⟩
                    · exact .inl ⟨by omega, by omega⟩
                    · by_cases hcl : cap = l
                      · exact .inl ⟨by omega, by omega⟩
                      · refine .inr ⟨c, cs, el', fr, s4, ?_, s6, ?_⟩
                        · rw [if_neg hcl, s5]; simp [Addr.add_lit]
                        · rw [s7]; congr 1; omega
            · rename_i b sz' of len
              dsimp only at h
              cases hg : Nat.beq n sz' with
              | false => rw [hg] at h; cases h
              | true =>
                rw [hg] at h
                simp only [cond_true, Option.some.injEq] at h
                obtain rfl := Nat.eq_of_beq_eq_true hg
                subst h
                simp only [elems] at hes
                cases hb : nth Hm b with
                | none => rw [hb] at hes; cases hes
                | some blk =>
                  rw [hb] at hes
                  cases blk <;> try (cases hes; done)
                  rename_i sz'' xs'
                  dsimp only at hes
                  cases hs : Nat.beq n sz'' with
                  | false => rw [hs] at hes; cases hes
                  | true =>
                    rw [hs] at hes
                    simp only [cond_true, Option.some.injEq] at hes
                    obtain rfl := Nat.eq_of_beq_eq_true hs
                    subst hes
                    obtain ⟨m, r1, r2, r3, r4⟩ := own_slp pre hb hv
                    simp only [List.length_take, List.length_drop] at c2 r4 q2
                    refine ⟨⟨_, _, _, rfl⟩, m, r1, fun ys hys => ?_⟩
                    rw [r2] at hys; cases hys
                    obtain ⟨s0, ad', cap', s1, s2, s3⟩ := r4
                    simp only [Value.slice.injEq] at s1
                    obtain ⟨rfl, _, rfl⟩ := s1
                    refine ⟨by omega, _, _, rfl, by omega, ?_⟩
                    rcases s3 with ⟨s3, s4⟩ | ⟨c, cs, el', fr, s4, s5, s6, s7⟩
                    · exact .inl ⟨by omega, by omega⟩
                    · obtain ⟨t0, _, t1⟩ := r3
                      by_cases hcl : cap = l
                      · refine .inl ⟨by omega, ?_⟩
                        rcases t1 with ⟨t1, t2⟩ | ⟨c', cs', el'', t1, t2, t3, _⟩
                        · rw [t1] at s4; cases s4
                        · rw [t1] at s4; cases s4
                          rw [t2] at s6; cases s6
                          rw [s7] at t3
                          have := Nat.le_of_mul_le_mul_right t3 t0
                          omega
                      · refine .inr ⟨c, cs, el', fr, s4, ?_, s6, ?_⟩
                        · rw [if_neg hcl, s5]; simp [Addr.add_lit, Nat.add_mul]
                        · rw [s7]; congr 1; omega
            · rename_i sz'
              simp only [Option.some.injEq] at h
              subst h
              simp only [elems, Option.some.injEq] at hes
              subst hes
              obtain ⟨ad', hv⟩ := hv
              cases hv
              simp only [List.length_nil] at c2
              obtain rfl : l = 0 := by omega
              obtain rfl : hn = 0 := by omega
              exact ⟨_, rfl⟩
          | some m' =>
            cases mx with
            | none => cases hmx
            | some m =>
              cases hhs : hi' with
              | none => rw [hhs] at hh; cases hh rfl
              | some hi1 =>
                dsimp only [Option.map_some] at h
                cases hm : asNat (some (m'.val e)) 0 with
                | none => rw [hm] at h; cases h
                | some mm =>
                  rw [hm] at h
                  dsimp only at h
                  cases hg : (Nat.beq mm l && Nat.beq mm hn) with
                  | false => rw [hg] at h; cases h
                  | true =>
                    rw [hg] at h
                    simp only [cond_true, Option.some.injEq] at h
                    subst h
                    simp only [Bool.and_eq_true] at hg
                    obtain rfl := Nat.eq_of_beq_eq_true hg.1
                    obtain rfl := Nat.eq_of_beq_eq_true hg.2
                    have b3 := bnd_ok pre (x := some m) (y := some m') hmx (by simpa using hm)
                    refine opOK_v (s := Instr.sliceAt t (a.eval x) (lo.map a.eval) (hi.map a.eval) ((some m).map a.eval)) (by unfold execOp; rw [hop]) (by
                      rw [q1]
                      refine run_sl3 ht hsz b1 ?_ ?_ c1 (Nat.le_refl _) (by omega)
                      · rcases b2 with ⟨b2, _⟩ | b2
                        · exfalso
                          cases hi with
                          | none => rw [hhs] at hhi; cases hhi
                          | some hi0 => cases b2
                        · exact b2
                      · rcases b3 with ⟨b3, _⟩ | b3
                        · cases b3
                        · exact b3) (Post.stay pre.ok hp ?_)
                    exact ⟨_, by rw [Nat.sub_self]⟩
end

end Go.Proofs.YtljgncbdagmeeaaDoorE
